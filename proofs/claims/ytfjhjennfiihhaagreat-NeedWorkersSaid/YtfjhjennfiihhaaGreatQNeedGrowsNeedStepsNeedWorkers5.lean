/- Texts of this claim, one behind the other: Rf1, Rf2, Ah9, Bs9, Rf3, MapT, Make5, Eq5, Ex5, PlainP, LPTells, Pg6, Rf4, Pg7, Hy9, Rf5, PlainAsk, Dn18, Rfm14, Ech19, HeldIn, RngD, KpN, Jst20, Chk20, HeldR, FrmR, Run20, RunE20, PlainRm, RunG20, PlainAk, PlainNd, Nd5. -/
import Derived.Test.YtfjhjennfiihhaaGreatQNeedGrowsNeedStepsNeedWorkers4
set_option maxRecDepth 100000
set_option maxHeartbeats 16000000
namespace Go.Proofs.YtfjhjennfiihhaaGreat
section
open Go Go.RowKit
theorem Has18 (p:Option Addr) (n c:Nat) (l:List Sq) (r:Int) (w:World) (hl:Rd w 4 p n (encQ l)) :
  Calls Tryz.prog 165 #[.slice p n c,.int .i64 r] w fun e w'=>e=.returned (.bool (hasD l r))∧w'=w:=by
 have p1:=hl.ptr
 have n1:=hl.small
 have L1:=Lib.hid hl.nQ
 have HL:=Lib.hid hl;clear hl
 go_enter Tryz.func165,Tryz.ntmps165
 go_wp2
 go_loop [5] (fun i=>∃ k:Nat,k≤n∧i=.int .i64 k∧(l.take k).any (fun x=>x.r == r)=false) (fun i=>n - (intOf i).toNat)
 case atStart=>exact⟨0,Nat.zero_le _,rfl,rfl⟩
 case round =>
  obtain⟨k,hk,rfl,ha⟩:=hrel
  have HA:=Lib.hid ha;clear ha
  by_cases hlt:k<n
  ·have g2:=(HL.out.cQ hlt).2.1
   have hkl:k<l.length:=by rw [← L1.out];exact hlt
   have HTA:=Lib.hid (any_true_at (fun x:Sq=>x.r == r) l k hkl)
   have HST:=Lib.hid (any_step (fun x:Sq=>x.r == r) l k hkl HA.out)
   have d1:(0:Int)≤k:=by omega
   have d2:(k:Int)<n:=by omega
   clear hkl
   generalize nth l k=x at *
   by_cases hw:x.r=r
   ·have e1:(x.r == r)=true:=by simpa using hw
    have HF:=Lib.hid (HTA.out e1)
    clear HST HTA hw
    go_wp2
    go_ret
    exact⟨ret_bool (by unfold hasD;rw [HF.out]),rfl⟩
   ·have e1:(x.r == r)=false:=by simpa using hw
    have HF:=Lib.hid (HST.out e1)
    clear HST HTA hw
    go_wp2
    go_round
    case rel=>exact⟨k+1,by omega,by go_num,HF.out⟩
    case measure=>simp [intOf];omega
  ·have HF:=Lib.hid (any_end _ _ _ (by rw [← L1.out];exact hlt) HA.out)
   go_wp2
   go_ret
   exact⟨ret_bool (by unfold hasD;rw [HF.out]),rfl⟩
def PairAt (l:List Sq) (i j:Nat) (s:Int):Prop:=(nth l i).r=0∧(nth l j).r=1∧(nth l i).v=(nth l j).v∧(nth l i).d+(nth l j).d=s
def SeenD (l:List Sq) (P:Nat→Nat→Prop) (b:Bool) (d:Int):Prop :=
 (b=false→d=0∧∀ i j s,P i j→¬ PairAt l i j s)∧(b=true→(∃ i j,i<l.length∧j<l.length∧PairAt l i j d)∧∀ i j s,P i j→PairAt l i j s→d≤s)
theorem seen_start (l:List Sq):SeenD l (fun a c=>a<0∧c<l.length) false 0:=⟨fun _=>⟨rfl,fun i j s h=>by omega⟩,fun h=>by cases h⟩
theorem seen_imp {l:List Sq} {P Q:Nat→Nat→Prop} {b:Bool} {d:Int} (h:SeenD l P b d) (hq:∀ i j,Q i j→P i j):SeenD l Q b d :=
 ⟨fun hb=>⟨(h.1 hb).1,fun i j s hp=>(h.1 hb).2 i j s (hq i j hp)⟩,fun hb=>⟨(h.2 hb).1,fun i j s hp=>(h.2 hb).2 i j s (hq i j hp)⟩⟩
theorem seen_skip {l:List Sq} {P Q:Nat→Nat→Prop} {b:Bool} {d:Int} {i k:Nat} (h:SeenD l P b d) (hq:∀ a c,Q a c→(a=i∧c=k)∨P a c) (hs:∀ s,PairAt l i k s→b=true∧d≤s):SeenD l Q b d:=by
 refine⟨fun hb=>⟨(h.1 hb).1,fun a c s hp hpa=>?_⟩,fun hb=>⟨(h.2 hb).1,fun a c s hp hpa=>?_⟩⟩
 ·rcases hq a c hp with ⟨rfl,rfl⟩ | h2
  ·rw [(hs s hpa).1] at hb;cases hb
  ·exact(h.1 hb).2 a c s h2 hpa
 ·rcases hq a c hp with ⟨rfl,rfl⟩ | h2
  ·exact(hs s hpa).2
  ·exact(h.2 hb).2 a c s h2 hpa
theorem seen_put {l:List Sq} {P Q:Nat→Nat→Prop} {b:Bool} {d s:Int} {i k:Nat} (h:SeenD l P b d) (hi:i<l.length) (hk:k<l.length) (hq:∀ a c,Q a c→(a=i∧c=k)∨P a c) (hs:PairAt l i k s) (hd:b=true→s≤d):SeenD l Q true s:=by
 refine⟨fun hb=>(by cases hb),fun _=>⟨⟨i,k,hi,hk,hs⟩,fun a c s' hp hpa=>?_⟩⟩
 rcases hq a c hp with ⟨rfl,rfl⟩ | h2
 ·have h1:=hs.2.2.2
  have h3:=hpa.2.2.2
  omega
 ·cases b with
  | false=>exact absurd hpa ((h.1 rfl).2 a c s' h2)
  | true=>have:=(h.2 rfl).2 a c s' h2 hpa;have:=hd rfl;omega
theorem seen_end {l:List Sq} {b:Bool} {d:Int} (h:SeenD l (fun a c=>a<l.length∧c<l.length) b d):MeetA l b d:=by
 have key:∀ s,PairD l s→∃ i j,(i<l.length∧j<l.length)∧PairAt l i j s:=by
  rintro s ⟨x,hx,y,hy,h1,h2,h3,h4⟩
  obtain⟨i,hi,rfl⟩:=List.mem_iff_getElem.1 hx
  obtain⟨j,hj,rfl⟩:=List.mem_iff_getElem.1 hy
  refine⟨i,j,⟨hi,hj⟩,?_⟩
  unfold PairAt
  rw [nth_eq hi,nth_eq hj]
  exact⟨h1,h2,h3,h4⟩
 refine⟨fun hb=>⟨(h.1 hb).1,fun s hs=>?_⟩,fun hb=>⟨?_,fun s hs=>?_⟩⟩
 ·obtain⟨i,j,hp,hpa⟩:=key s hs
  exact(h.1 hb).2 i j s hp hpa
 ·obtain⟨i,j,hi,hj,h1,h2,h3,h4⟩:=(h.2 hb).1
  rw [nth_eq hi] at h1 h3 h4
  rw [nth_eq hj] at h2 h3 h4
  exact⟨l[i],List.getElem_mem _,l[j],List.getElem_mem _,h1,h2,h3,h4⟩
 ·obtain⟨i,j,hp,hpa⟩:=key s hs
  exact(h.2 hb).2 i j s hp hpa
end
section
open Go Go.RowKit
def DistQ (l M:List Sq) (w:World) (e:Ending) (w':World):Prop:=∃ b d,e=.returned (.tuple #[.agg #[.bool b,.int .i64 d,.slice none 0 0],.bool (b || !hasD M 0 || !hasD M 1)])∧Ext w w'∧MeetA l b d
theorem distQ_mk {l M:List Sq} {w w':World} {e:Ending} {b:Bool} {d:Int} (h1:e=.returned (.tuple #[.agg #[.bool b,.int .i64 d,.slice none 0 0],.bool (b || !hasD M 0 || !hasD M 1)])) (h2:Ext w w') (h3:MeetA l b d):DistQ l M w e w':=⟨b,d,h1,h2,h3⟩
theorem Dist18 (p:Option Addr) (n c:Nat) (l:List Sq) (pm:Option Addr) (nm cm:Nat) (M:List Sq) (w:World) (hl:Rd w 4 p n (encQ l)) (hM:Rd w 4 pm nm (encQ M)) (hb:∀ x∈l,-1000000≤x.d∧x.d≤1000000) :
  Calls Tryz.prog 103 #[.slice p n c,.slice pm nm cm] w (DistQ l M w):=by
 have p1:=hl.ptr
 have n1:=hl.small
 have L1:=Lib.hid hl.nQ
 have HL:=Lib.hid hl
 have HBD:=Lib.hid hb
 have HM0:=Lib.hid (fun W (h:Ext w W)=>Has18 pm nm cm M 0 W (hM.ext h))
 have HM1:=Lib.hid (fun W (h:Ext w W)=>Has18 pm nm cm M 1 W (hM.ext h))
 have S0:=Lib.hid (((Sep.start w).al #[.bool false,.int .i64 0,.slice none 0 0] 34 w.heap.size rfl).al #[.bool false,.int .i64 0,.slice none 0 0] 34 (w.heap.size+1) (by simp))
 clear hl hM hb
 go_enter Tryz.func103,Tryz.ntmps103
 go_wp2
 go_loopw [7,8,9,10] (fun i _ _ _ wr=>∃ (j:Nat) (b:Bool) (d:Int),j≤n∧i=.int .i64 j∧Sep w wr [.blk (w.heap.size+1) 34 #[.bool b,.int .i64 d,.slice none 0 0],.blk w.heap.size 34 #[.bool false,.int .i64 0,.slice none 0 0]]∧Hid (SeenD l (fun a c=>a<j∧c<l.length) b d)) (fun i _ _ _ _=>n - (intOf i).toNat)
 case atStart=>exact⟨0,false,0,Nat.zero_le _,rfl,S0.out,seen_start l⟩
 case round =>
  clear S0
  obtain⟨j,b,d,hj,rfl,S,HS⟩:=hrel
  by_cases hlt:j<n
  ·have d1:(0:Int)≤j:=by omega
   have d2:(j:Int)<n:=by omega
   have hjl:j<l.length:=by rw [← L1.out];exact hlt
   have HI:Hid (SeenD l (fun a c=>(a<j∧c<l.length)∨(a=j∧c<0)) b d):=seen_imp HS.out fun a c h=>h.elim id fun h2=>by omega
   clear HS
   have SH:=Lib.hid S;clear S
   go_wp2
   go_loopw [8,9,10] (fun i _ _ wr=>∃ (k:Nat) (b:Bool) (d:Int),k≤n∧i=.int .i64 k∧Sep w wr [.blk (w.heap.size+1) 34 #[.bool b,.int .i64 d,.slice none 0 0],.blk w.heap.size 34 #[.bool false,.int .i64 0,.slice none 0 0]]∧Hid (SeenD l (fun a c=>(a<j∧c<l.length)∨(a=j∧c<k)) b d)) (fun i _ _ _=>n - (intOf i).toNat)
   case atStart=>exact⟨0,b,d,Nat.zero_le _,rfl,SH.out,HI⟩
   case round =>
    clear SH HI b d
    obtain⟨k,b,d,hk,rfl,S,HS⟩:=hrel
    by_cases hkl:k<n
    ·have hkl2:k<l.length:=by rw [← L1.out];exact hkl
     obtain⟨g1,g2,g3,g4⟩:=(HL.out.ext S.ext).cQ hlt
     obtain⟨e1,e2,e3,e4⟩:=(HL.out.ext S.ext).cQ hkl
     have hpb:=(HL.out.ext S.ext).lt (by omega)
     have hbx:=HBD.out (nth l j) (by rw [nth_eq hjl];exact List.getElem_mem _)
     have hby:=HBD.out (nth l k) (by rw [nth_eq hkl2];exact List.getElem_mem _)
     have d3:(0:Int)≤k:=by omega
     have d4:(k:Int)<n:=by omega
     have HQ:Hid (∀ a c,((a<j∧c<l.length)∨(a=j∧c<k+1))→(a=j∧c=k)∨((a<j∧c<l.length)∨(a=j∧c<k))):=fun a c h=>by omega
     have HSK:=Lib.hid (fun hs=>seen_skip (i:=j) (k:=k) HS.out HQ.out hs)
     have HPT:=Lib.hid (fun s hs hd=>seen_put (s:=s) (i:=j) (k:=k) HS.out hjl hkl2 HQ.out hs hd)
     unfold PairAt at HSK HPT
     have b0:wr.cell? ⟨w.heap.size+1,0,none⟩=some (.bool b):=(S.blk 0 rfl).cell 0
     have b1:wr.cell? ⟨w.heap.size+1,1,none⟩=some (.int .i64 d):=(S.blk 0 rfl).cell 1
     have b2:wr.cell? ⟨w.heap.size+1,2,none⟩=some (.slice none 0 0):=(S.blk 0 rfl).cell 2
     have bz:=(S.blk 0 rfl).lt
     have bz2:w.heap.size<wr.heap.size:=by omega
     have SH:=Lib.hid S;clear S
     generalize nth l j=x at *
     generalize nth l k=y at *
     obtain⟨hb1,hb2⟩:=hbx
     obtain⟨hb3,hb4⟩:=hby
     clear HS HQ
     by_cases x1:x.r=0
     ·have t1:(x.r == 0)=true:=by simpa using x1
      by_cases x2:y.r=1
      ·have t2:(y.r == 1)=true:=by simpa using x2
       by_cases x3:x.v=y.v
       ·have t3:(x.v == y.v)=true:=by simpa using x3
        cases b with
        | false =>
         have HN:=Lib.hid (HPT.out (x.d+y.d) ⟨x1,x2,x3,rfl⟩ (fun h=>by cases h))
         clear HSK HPT x1 x2 x3
         obtain⟨hf0,hf1⟩:=bkz0z1 (SH.out.blk 0 rfl)
         go_wp2
         go_roundw
         case rel=>exact⟨k+1,true,x.d+y.d,by omega,by go_num,((((SH.out.set 0 rfl 0 (.bool true)).set 0 rfl 1 (.int .i64 (x.d+y.d))).junk _).junk _),HN.out⟩
         case measure=>simp [intOf];omega
        | true =>
         by_cases x4:x.d+y.d<d
         ·have HN:=Lib.hid (HPT.out (x.d+y.d) ⟨x1,x2,x3,rfl⟩ (fun _=>by omega))
          have t4:decide (x.d+y.d<d)=true:=by simpa using x4
          clear HSK HPT x1 x2 x3 x4
          obtain⟨hf0,hf1⟩:=bkz0z1 (SH.out.blk 0 rfl)
          go_wp2
          go_roundw
          case rel=>exact⟨k+1,true,x.d+y.d,by omega,by go_num,((((SH.out.set 0 rfl 0 (.bool true)).set 0 rfl 1 (.int .i64 (x.d+y.d))).junk _).junk _),HN.out⟩
          case measure=>simp [intOf];omega
         ·have HN:=Lib.hid (HSK.out (fun s h=>⟨rfl,by omega⟩))
          have t4:decide (x.d+y.d<d)=false:=by simpa using x4
          obtain⟨b,hbb⟩:∃ b,b=true:=⟨_,rfl⟩
          rw [← hbb] at HN SH b0
          clear HSK HPT x1 x2 x3 x4
          go_wp2
          go_roundw
          case rel=>exact⟨k+1,b,d,by omega,by go_num,(SH.out.junk _).junk _,HN.out⟩
          case measure=>simp [intOf];omega
       ·have t3:(x.v == y.v)=false:=by simpa using x3
        have HN:=Lib.hid (HSK.out (fun s h=>absurd h.2.2.1 x3))
        clear HSK HPT x1 x2 x3
        go_wp2
        go_roundw
        case rel=>exact⟨k+1,b,d,by omega,by go_num,(SH.out.junk _).junk _,HN.out⟩
        case measure=>simp [intOf];omega
      ·have t2:(y.r == 1)=false:=by simpa using x2
       have HN:=Lib.hid (HSK.out (fun s h=>absurd h.2.1 x2))
       clear HSK HPT x1 x2
       go_wp2
       go_roundw
       case rel=>exact⟨k+1,b,d,by omega,by go_num,(SH.out.junk _).junk _,HN.out⟩
       case measure=>simp [intOf];omega
     ·have t1:(x.r == 0)=false:=by simpa using x1
      have HN:=Lib.hid (HSK.out (fun s h=>absurd h.1 x1))
      clear HSK HPT x1
      go_wp2
      go_roundw
      case rel=>exact⟨k+1,b,d,by omega,by go_num,(SH.out.junk _).junk _,HN.out⟩
      case measure=>simp [intOf];omega
    ·obtain rfl:k=n:=by omega
     have HN:Hid (SeenD l (fun a c=>a<j+1∧c<l.length) b d):=seen_imp HS.out fun a c h=>by have:=L1.out;omega
     clear HS
     have SH:=Lib.hid S;clear S
     go_wp2
     go_roundw
     case rel=>exact⟨j+1,b,d,by omega,by go_num,SH.out,HN.out⟩
     case measure=>simp [intOf];omega
  ·obtain rfl:j=n:=by omega
   have HA:Hid (MeetA l b d):=by
    have h:=HS.out
    rw [L1.out] at h
    exact seen_end h
   clear HS
   have b0:wr.cell? ⟨w.heap.size+1,0,none⟩=some (.bool b):=(S.blk 0 rfl).cell 0
   have b1:wr.cell? ⟨w.heap.size+1,1,none⟩=some (.int .i64 d):=(S.blk 0 rfl).cell 1
   have b2:wr.cell? ⟨w.heap.size+1,2,none⟩=some (.slice none 0 0):=(S.blk 0 rfl).cell 2
   have bz:=(S.blk 0 rfl).lt
   have bz2:w.heap.size<wr.heap.size:=by omega
   have SH:=Lib.hid S;clear S
   go_wp2
   cases b with
   | true =>
    have HD:Hid ((true || !hasD M 0 || !hasD M 1)=true):=rfl
    refine wp_region_noPanic ?_
    refine wp_region_held_drew (S:=fun w'=>w'.cell? ⟨w.heap.size+1,0,none⟩=some (.bool true)∧w'.cell? ⟨w.heap.size+1,1,none⟩=some (.int .i64 d)∧w'.cell? ⟨w.heap.size+1,2,none⟩=some (.slice none 0 0)) (by kernel_rfl) ⟨b0,b1,b2⟩ (fun hHeld=>?_)
    have SD:=Lib.hid SH.out.drew
    clear b0 b1 b2 bz bz2 SH
    generalize wr.drew=D at SD hHeld ⊢
    refine wpAnyH_take (i:=0) (v:=.agg #[.bool true,.int .i64 d,.slice none 0 0]) rfl (by kernel_rfl) (by kernel_rfl) (by kernel_rfl) (noPanic_q _ _) (Or.inl ⟨by kernel_rfl,fun W hSw=>by obtain⟨h1,h2,h3⟩:=hSw;go_simp⟩) hHeld ?_
    refine wpAnyH_take (i:=1) (v:=.pointer (some ⟨w.heap.size+1,0,none⟩)) rfl (by kernel_rfl) (by kernel_rfl) (by kernel_rfl) (noPanic_q _ _) (Or.inl ⟨by kernel_rfl,fun W hSw=>by obtain⟨h1,h2,h3⟩:=hSw;go_simp⟩) hHeld ?_
    refine wpAnyH_take (i:=2) (v:=.bool true) rfl (by kernel_rfl) (by kernel_rfl) (by kernel_rfl) (noPanic_q _ _) (Or.inl ⟨by kernel_rfl,fun W hSw=>by obtain⟨h1,h2,h3⟩:=hSw;go_simp⟩) hHeld ?_
    refine wpAnyH_take (i:=3) (v:=.bool true) rfl (by kernel_rfl) (by kernel_rfl) (by kernel_rfl) (noPanic_q _ _) (Or.inl ⟨by kernel_rfl,fun W hSw=>by obtain⟨h1,h2,h3⟩:=hSw;go_simp⟩) hHeld ?_
    refine wpAnyH_take (i:=4) (v:=undef) rfl (by kernel_rfl) (by kernel_rfl) (by kernel_rfl) (noPanic_q _ _) (Or.inr ⟨by kernel_rfl,rfl⟩) hHeld ?_
    refine wpAnyH_take (i:=5) (v:=undef) rfl (by kernel_rfl) (by kernel_rfl) (by kernel_rfl) (noPanic_q _ _) (Or.inr ⟨by kernel_rfl,rfl⟩) hHeld ?_
    refine wpAnyH_take (i:=6) (v:=undef) rfl (by kernel_rfl) (by kernel_rfl) (by kernel_rfl) (noPanic_q _ _) (Or.inr ⟨by kernel_rfl,rfl⟩) hHeld ?_
    refine wpAnyH_take (i:=7) (v:=.bool true) rfl (by kernel_rfl) (by kernel_rfl) (by kernel_rfl) (noPanic_q _ _) (Or.inl ⟨by kernel_rfl,fun W hSw=>by obtain⟨h1,h2,h3⟩:=hSw;go_simp⟩) hHeld ?_
    refine wpAnyH_take (i:=8) (v:=.bool true) rfl (by kernel_rfl) (by kernel_rfl) (by kernel_rfl) (noPanic_q _ _) (Or.inl ⟨by kernel_rfl,fun W hSw=>by obtain⟨h1,h2,h3⟩:=hSw;go_simp⟩) hHeld ?_
    refine wpAnyH_take (i:=9) (v:=undef) rfl (by kernel_rfl) (by kernel_rfl) (by kernel_rfl) (noPanic_q _ _) (Or.inr ⟨by kernel_rfl,rfl⟩) hHeld ?_
    refine wpAnyH_take (i:=10) (v:=undef) rfl (by kernel_rfl) (by kernel_rfl) (by kernel_rfl) (noPanic_q _ _) (Or.inr ⟨by kernel_rfl,rfl⟩) hHeld ?_
    refine wpAnyH_take (i:=11) (v:=undef) rfl (by kernel_rfl) (by kernel_rfl) (by kernel_rfl) (noPanic_q _ _) (Or.inr ⟨by kernel_rfl,rfl⟩) hHeld ?_
    refine wpAnyH_take (i:=12) (v:=.bool true) rfl (by kernel_rfl) (by kernel_rfl) (by kernel_rfl) (noPanic_q _ _) (Or.inl ⟨by kernel_rfl,fun W hSw=>by obtain⟨h1,h2,h3⟩:=hSw;go_simp⟩) hHeld ?_
    obtain⟨a0,a1,a2,az,f0,f1,f2⟩:=bkc0c1c2lz0z1z2 (SD.out.blk 1 rfl)
    have S9:=Lib.hid (((SD.out.set 1 rfl 0 (.bool true)).set 1 rfl 1 (.int .i64 d)).set 1 rfl 2 (.slice none 0 0))
    refine wpAnyH_ready (rs:=[13]) (by kernel_rfl) (by simp) (AllReadyH.cons rfl (fun K hK=>?_) AllReadyH.nil)
    go_simp
    obtain⟨c0,c1,c2⟩:=bkc0c1c2 (S9.out.blk 0 rfl)
    refine hK.out _ _ ⟨c0,c1,c2⟩ (fun hHeld=>?_)
    clear hK
    refine wpAnyH_take (i:=14) (v:=.bool true) rfl (by kernel_rfl) (by kernel_rfl) (by kernel_rfl) (noPanic_q _ _) (Or.inl ⟨by kernel_rfl,fun W hSw=>by obtain⟨h1,h2,h3⟩:=hSw;go_simp⟩) hHeld ?_
    refine wpAnyH_done (by kernel_rfl) ?_ _
    refine noPanic_mk ?_
    obtain⟨x0,x1,x2⟩:=bkc0c1c2 (S9.out.blk 1 rfl)
    go_wp2
    exact bodyPost_ret (v:=.tuple #[.agg #[.bool true,.int .i64 d,.slice none 0 0],.bool true]) (by simp [results,Tryz.results103,go_sem,x0,x1,x2,Tryz.sizeOf34,Tryz.isAgg34]) rfl (distQ_mk (by rw [HD.out]) S9.out.ext HA.out)
   | false =>
    cases h0:hasD M 0 with
    | false =>
     have HD:Hid ((false || !hasD M 0 || !hasD M 1)=true):=by unfold Hid;rw [h0];rfl
     rw [h0] at HM0
     clear h0
     refine wp_region_noPanic ?_
     refine wp_region_held_drew (S:=fun w'=>w'.cell? ⟨w.heap.size+1,0,none⟩=some (.bool false)∧w'.cell? ⟨w.heap.size+1,1,none⟩=some (.int .i64 d)∧w'.cell? ⟨w.heap.size+1,2,none⟩=some (.slice none 0 0)) (by kernel_rfl) ⟨b0,b1,b2⟩ (fun hHeld=>?_)
     have SD:=Lib.hid SH.out.drew
     clear b0 b1 b2 bz bz2 SH
     generalize wr.drew=D at SD hHeld ⊢
     refine wpAnyH_take (i:=0) (v:=.agg #[.bool false,.int .i64 d,.slice none 0 0]) rfl (by kernel_rfl) (by kernel_rfl) (by kernel_rfl) (noPanic_q _ _) (Or.inl ⟨by kernel_rfl,fun W hSw=>by obtain⟨h1,h2,h3⟩:=hSw;go_simp⟩) hHeld ?_
     refine wpAnyH_take (i:=1) (v:=.pointer (some ⟨w.heap.size+1,0,none⟩)) rfl (by kernel_rfl) (by kernel_rfl) (by kernel_rfl) (noPanic_q _ _) (Or.inl ⟨by kernel_rfl,fun W hSw=>by obtain⟨h1,h2,h3⟩:=hSw;go_simp⟩) hHeld ?_
     refine wpAnyH_take (i:=2) (v:=.bool false) rfl (by kernel_rfl) (by kernel_rfl) (by kernel_rfl) (noPanic_q _ _) (Or.inl ⟨by kernel_rfl,fun W hSw=>by obtain⟨h1,h2,h3⟩:=hSw;go_simp⟩) hHeld ?_
     refine wpAnyH_take (i:=3) (v:=.bool false) rfl (by kernel_rfl) (by kernel_rfl) (by kernel_rfl) (noPanic_q _ _) (Or.inl ⟨by kernel_rfl,fun W hSw=>by obtain⟨h1,h2,h3⟩:=hSw;go_simp⟩) hHeld ?_
     refine wpAnyH_take (i:=4) (v:=.slice pm nm cm) rfl (by kernel_rfl) (by kernel_rfl) (by kernel_rfl) (noPanic_q _ _) (Or.inl ⟨by kernel_rfl,fun W hSw=>by obtain⟨h1,h2,h3⟩:=hSw;go_simp⟩) hHeld ?_
     refine wpAnyH_ready (rs:=[5]) (by kernel_rfl) (by simp) (AllReadyH.cons rfl (fun K hK=>?_) AllReadyH.nil)
     go_simp
     refine(HM0.out _ SD.out.ext).mono ?_
     rintro e w5 ⟨rfl,hx⟩
     have hx:=hx.symm
     subst hx
     refine hK.out _ _ hHeld (fun hHeld=>?_)
     clear hK
     refine wpAnyH_take (i:=6) (v:=.bool true) rfl (by kernel_rfl) (by kernel_rfl) (by kernel_rfl) (noPanic_q _ _) (Or.inl ⟨by kernel_rfl,fun W hSw=>by obtain⟨h1,h2,h3⟩:=hSw;go_simp⟩) hHeld ?_
     refine wpAnyH_take (i:=7) (v:=.bool true) rfl (by kernel_rfl) (by kernel_rfl) (by kernel_rfl) (noPanic_q _ _) (Or.inl ⟨by kernel_rfl,fun W hSw=>by obtain⟨h1,h2,h3⟩:=hSw;go_simp⟩) hHeld ?_
     refine wpAnyH_take (i:=8) (v:=.bool true) rfl (by kernel_rfl) (by kernel_rfl) (by kernel_rfl) (noPanic_q _ _) (Or.inl ⟨by kernel_rfl,fun W hSw=>by obtain⟨h1,h2,h3⟩:=hSw;go_simp⟩) hHeld ?_
     refine wpAnyH_take (i:=9) (v:=undef) rfl (by kernel_rfl) (by kernel_rfl) (by kernel_rfl) (noPanic_q _ _) (Or.inr ⟨by kernel_rfl,rfl⟩) hHeld ?_
     refine wpAnyH_take (i:=10) (v:=undef) rfl (by kernel_rfl) (by kernel_rfl) (by kernel_rfl) (noPanic_q _ _) (Or.inr ⟨by kernel_rfl,rfl⟩) hHeld ?_
     refine wpAnyH_take (i:=11) (v:=undef) rfl (by kernel_rfl) (by kernel_rfl) (by kernel_rfl) (noPanic_q _ _) (Or.inr ⟨by kernel_rfl,rfl⟩) hHeld ?_
     refine wpAnyH_take (i:=12) (v:=.bool true) rfl (by kernel_rfl) (by kernel_rfl) (by kernel_rfl) (noPanic_q _ _) (Or.inl ⟨by kernel_rfl,fun W hSw=>by obtain⟨h1,h2,h3⟩:=hSw;go_simp⟩) hHeld ?_
     obtain⟨a0,a1,a2,az,f0,f1,f2⟩:=bkc0c1c2lz0z1z2 (SD.out.blk 1 rfl)
     have S9:=Lib.hid (((SD.out.set 1 rfl 0 (.bool false)).set 1 rfl 1 (.int .i64 d)).set 1 rfl 2 (.slice none 0 0))
     refine wpAnyH_ready (rs:=[13]) (by kernel_rfl) (by simp) (AllReadyH.cons rfl (fun K hK=>?_) AllReadyH.nil)
     go_simp
     obtain⟨c0,c1,c2⟩:=bkc0c1c2 (S9.out.blk 0 rfl)
     refine hK.out _ _ ⟨c0,c1,c2⟩ (fun hHeld=>?_)
     clear hK
     refine wpAnyH_take (i:=14) (v:=.bool true) rfl (by kernel_rfl) (by kernel_rfl) (by kernel_rfl) (noPanic_q _ _) (Or.inl ⟨by kernel_rfl,fun W hSw=>by obtain⟨h1,h2,h3⟩:=hSw;go_simp⟩) hHeld ?_
     refine wpAnyH_done (by kernel_rfl) ?_ _
     refine noPanic_mk ?_
     obtain⟨x0,x1,x2⟩:=bkc0c1c2 (S9.out.blk 1 rfl)
     go_wp2
     exact bodyPost_ret (v:=.tuple #[.agg #[.bool false,.int .i64 d,.slice none 0 0],.bool true]) (by simp [results,Tryz.results103,go_sem,x0,x1,x2,Tryz.sizeOf34,Tryz.isAgg34]) rfl (distQ_mk (by rw [HD.out]) S9.out.ext HA.out)
    | true =>
     rw [h0] at HM0
     cases h1:hasD M 1 with
     | false =>
      have HD:Hid ((false || !hasD M 0 || !hasD M 1)=true):=by unfold Hid;rw [h1];simp
      rw [h1] at HM1
      clear h0 h1
      refine wp_region_noPanic ?_
      refine wp_region_held_drew (S:=fun w'=>w'.cell? ⟨w.heap.size+1,0,none⟩=some (.bool false)∧w'.cell? ⟨w.heap.size+1,1,none⟩=some (.int .i64 d)∧w'.cell? ⟨w.heap.size+1,2,none⟩=some (.slice none 0 0)) (by kernel_rfl) ⟨b0,b1,b2⟩ (fun hHeld=>?_)
      have SD:=Lib.hid SH.out.drew
      clear b0 b1 b2 bz bz2 SH
      generalize wr.drew=D at SD hHeld ⊢
      refine wpAnyH_take (i:=0) (v:=.agg #[.bool false,.int .i64 d,.slice none 0 0]) rfl (by kernel_rfl) (by kernel_rfl) (by kernel_rfl) (noPanic_q _ _) (Or.inl ⟨by kernel_rfl,fun W hSw=>by obtain⟨h1,h2,h3⟩:=hSw;go_simp⟩) hHeld ?_
      refine wpAnyH_take (i:=1) (v:=.pointer (some ⟨w.heap.size+1,0,none⟩)) rfl (by kernel_rfl) (by kernel_rfl) (by kernel_rfl) (noPanic_q _ _) (Or.inl ⟨by kernel_rfl,fun W hSw=>by obtain⟨h1,h2,h3⟩:=hSw;go_simp⟩) hHeld ?_
      refine wpAnyH_take (i:=2) (v:=.bool false) rfl (by kernel_rfl) (by kernel_rfl) (by kernel_rfl) (noPanic_q _ _) (Or.inl ⟨by kernel_rfl,fun W hSw=>by obtain⟨h1,h2,h3⟩:=hSw;go_simp⟩) hHeld ?_
      refine wpAnyH_take (i:=3) (v:=.bool false) rfl (by kernel_rfl) (by kernel_rfl) (by kernel_rfl) (noPanic_q _ _) (Or.inl ⟨by kernel_rfl,fun W hSw=>by obtain⟨h1,h2,h3⟩:=hSw;go_simp⟩) hHeld ?_
      refine wpAnyH_take (i:=4) (v:=.slice pm nm cm) rfl (by kernel_rfl) (by kernel_rfl) (by kernel_rfl) (noPanic_q _ _) (Or.inl ⟨by kernel_rfl,fun W hSw=>by obtain⟨h1,h2,h3⟩:=hSw;go_simp⟩) hHeld ?_
      refine wpAnyH_ready (rs:=[5]) (by kernel_rfl) (by simp) (AllReadyH.cons rfl (fun K hK=>?_) AllReadyH.nil)
      go_simp
      refine(HM0.out _ SD.out.ext).mono ?_
      rintro e w5 ⟨rfl,hx⟩
      have hx:=hx.symm
      subst hx
      refine hK.out _ _ hHeld (fun hHeld=>?_)
      clear hK
      refine wpAnyH_take (i:=6) (v:=.bool false) rfl (by kernel_rfl) (by kernel_rfl) (by kernel_rfl) (noPanic_q _ _) (Or.inl ⟨by kernel_rfl,fun W hSw=>by obtain⟨h1,h2,h3⟩:=hSw;go_simp⟩) hHeld ?_
      refine wpAnyH_take (i:=7) (v:=.bool false) rfl (by kernel_rfl) (by kernel_rfl) (by kernel_rfl) (noPanic_q _ _) (Or.inl ⟨by kernel_rfl,fun W hSw=>by obtain⟨h1,h2,h3⟩:=hSw;go_simp⟩) hHeld ?_
      refine wpAnyH_take (i:=8) (v:=.bool false) rfl (by kernel_rfl) (by kernel_rfl) (by kernel_rfl) (noPanic_q _ _) (Or.inl ⟨by kernel_rfl,fun W hSw=>by obtain⟨h1,h2,h3⟩:=hSw;go_simp⟩) hHeld ?_
      refine wpAnyH_take (i:=9) (v:=.slice pm nm cm) rfl (by kernel_rfl) (by kernel_rfl) (by kernel_rfl) (noPanic_q _ _) (Or.inl ⟨by kernel_rfl,fun W hSw=>by obtain⟨h1,h2,h3⟩:=hSw;go_simp⟩) hHeld ?_
      refine wpAnyH_ready (rs:=[10]) (by kernel_rfl) (by simp) (AllReadyH.cons rfl (fun K hK=>?_) AllReadyH.nil)
      go_simp
      refine(HM1.out _ SD.out.ext).mono ?_
      rintro e w5 ⟨rfl,hx⟩
      have hx:=hx.symm
      subst hx
      refine hK.out _ _ hHeld (fun hHeld=>?_)
      clear hK
      refine wpAnyH_take (i:=11) (v:=.bool true) rfl (by kernel_rfl) (by kernel_rfl) (by kernel_rfl) (noPanic_q _ _) (Or.inl ⟨by kernel_rfl,fun W hSw=>by obtain⟨h1,h2,h3⟩:=hSw;go_simp⟩) hHeld ?_
      refine wpAnyH_take (i:=12) (v:=.bool true) rfl (by kernel_rfl) (by kernel_rfl) (by kernel_rfl) (noPanic_q _ _) (Or.inl ⟨by kernel_rfl,fun W hSw=>by obtain⟨h1,h2,h3⟩:=hSw;go_simp⟩) hHeld ?_
      obtain⟨a0,a1,a2,az,f0,f1,f2⟩:=bkc0c1c2lz0z1z2 (SD.out.blk 1 rfl)
      have S9:=Lib.hid (((SD.out.set 1 rfl 0 (.bool false)).set 1 rfl 1 (.int .i64 d)).set 1 rfl 2 (.slice none 0 0))
      refine wpAnyH_ready (rs:=[13]) (by kernel_rfl) (by simp) (AllReadyH.cons rfl (fun K hK=>?_) AllReadyH.nil)
      go_simp
      obtain⟨c0,c1,c2⟩:=bkc0c1c2 (S9.out.blk 0 rfl)
      refine hK.out _ _ ⟨c0,c1,c2⟩ (fun hHeld=>?_)
      clear hK
      refine wpAnyH_take (i:=14) (v:=.bool true) rfl (by kernel_rfl) (by kernel_rfl) (by kernel_rfl) (noPanic_q _ _) (Or.inl ⟨by kernel_rfl,fun W hSw=>by obtain⟨h1,h2,h3⟩:=hSw;go_simp⟩) hHeld ?_
      refine wpAnyH_done (by kernel_rfl) ?_ _
      refine noPanic_mk ?_
      obtain⟨x0,x1,x2⟩:=bkc0c1c2 (S9.out.blk 1 rfl)
      go_wp2
      exact bodyPost_ret (v:=.tuple #[.agg #[.bool false,.int .i64 d,.slice none 0 0],.bool true]) (by simp [results,Tryz.results103,go_sem,x0,x1,x2,Tryz.sizeOf34,Tryz.isAgg34]) rfl (distQ_mk (by rw [HD.out]) S9.out.ext HA.out)
     | true =>
      have HD:Hid ((false || !hasD M 0 || !hasD M 1)=false):=by unfold Hid;rw [h0,h1];rfl
      rw [h1] at HM1
      clear h0 h1
      refine wp_region_noPanic ?_
      refine wp_region_held_drew (S:=fun w'=>w'.cell? ⟨w.heap.size+1,0,none⟩=some (.bool false)∧w'.cell? ⟨w.heap.size+1,1,none⟩=some (.int .i64 d)∧w'.cell? ⟨w.heap.size+1,2,none⟩=some (.slice none 0 0)) (by kernel_rfl) ⟨b0,b1,b2⟩ (fun hHeld=>?_)
      have SD:=Lib.hid SH.out.drew
      clear b0 b1 b2 bz bz2 SH
      generalize wr.drew=D at SD hHeld ⊢
      refine wpAnyH_take (i:=0) (v:=.agg #[.bool false,.int .i64 d,.slice none 0 0]) rfl (by kernel_rfl) (by kernel_rfl) (by kernel_rfl) (noPanic_q _ _) (Or.inl ⟨by kernel_rfl,fun W hSw=>by obtain⟨h1,h2,h3⟩:=hSw;go_simp⟩) hHeld ?_
      refine wpAnyH_take (i:=1) (v:=.pointer (some ⟨w.heap.size+1,0,none⟩)) rfl (by kernel_rfl) (by kernel_rfl) (by kernel_rfl) (noPanic_q _ _) (Or.inl ⟨by kernel_rfl,fun W hSw=>by obtain⟨h1,h2,h3⟩:=hSw;go_simp⟩) hHeld ?_
      refine wpAnyH_take (i:=2) (v:=.bool false) rfl (by kernel_rfl) (by kernel_rfl) (by kernel_rfl) (noPanic_q _ _) (Or.inl ⟨by kernel_rfl,fun W hSw=>by obtain⟨h1,h2,h3⟩:=hSw;go_simp⟩) hHeld ?_
      refine wpAnyH_take (i:=3) (v:=.bool false) rfl (by kernel_rfl) (by kernel_rfl) (by kernel_rfl) (noPanic_q _ _) (Or.inl ⟨by kernel_rfl,fun W hSw=>by obtain⟨h1,h2,h3⟩:=hSw;go_simp⟩) hHeld ?_
      refine wpAnyH_take (i:=4) (v:=.slice pm nm cm) rfl (by kernel_rfl) (by kernel_rfl) (by kernel_rfl) (noPanic_q _ _) (Or.inl ⟨by kernel_rfl,fun W hSw=>by obtain⟨h1,h2,h3⟩:=hSw;go_simp⟩) hHeld ?_
      refine wpAnyH_ready (rs:=[5]) (by kernel_rfl) (by simp) (AllReadyH.cons rfl (fun K hK=>?_) AllReadyH.nil)
      go_simp
      refine(HM0.out _ SD.out.ext).mono ?_
      rintro e w5 ⟨rfl,hx⟩
      have hx:=hx.symm
      subst hx
      refine hK.out _ _ hHeld (fun hHeld=>?_)
      clear hK
      refine wpAnyH_take (i:=6) (v:=.bool false) rfl (by kernel_rfl) (by kernel_rfl) (by kernel_rfl) (noPanic_q _ _) (Or.inl ⟨by kernel_rfl,fun W hSw=>by obtain⟨h1,h2,h3⟩:=hSw;go_simp⟩) hHeld ?_
      refine wpAnyH_take (i:=7) (v:=.bool false) rfl (by kernel_rfl) (by kernel_rfl) (by kernel_rfl) (noPanic_q _ _) (Or.inl ⟨by kernel_rfl,fun W hSw=>by obtain⟨h1,h2,h3⟩:=hSw;go_simp⟩) hHeld ?_
      refine wpAnyH_take (i:=8) (v:=.bool false) rfl (by kernel_rfl) (by kernel_rfl) (by kernel_rfl) (noPanic_q _ _) (Or.inl ⟨by kernel_rfl,fun W hSw=>by obtain⟨h1,h2,h3⟩:=hSw;go_simp⟩) hHeld ?_
      refine wpAnyH_take (i:=9) (v:=.slice pm nm cm) rfl (by kernel_rfl) (by kernel_rfl) (by kernel_rfl) (noPanic_q _ _) (Or.inl ⟨by kernel_rfl,fun W hSw=>by obtain⟨h1,h2,h3⟩:=hSw;go_simp⟩) hHeld ?_
      refine wpAnyH_ready (rs:=[10]) (by kernel_rfl) (by simp) (AllReadyH.cons rfl (fun K hK=>?_) AllReadyH.nil)
      go_simp
      refine(HM1.out _ SD.out.ext).mono ?_
      rintro e w5 ⟨rfl,hx⟩
      have hx:=hx.symm
      subst hx
      refine hK.out _ _ hHeld (fun hHeld=>?_)
      clear hK
      refine wpAnyH_take (i:=11) (v:=.bool false) rfl (by kernel_rfl) (by kernel_rfl) (by kernel_rfl) (noPanic_q _ _) (Or.inl ⟨by kernel_rfl,fun W hSw=>by obtain⟨h1,h2,h3⟩:=hSw;go_simp⟩) hHeld ?_
      refine wpAnyH_take (i:=12) (v:=.bool false) rfl (by kernel_rfl) (by kernel_rfl) (by kernel_rfl) (noPanic_q _ _) (Or.inl ⟨by kernel_rfl,fun W hSw=>by obtain⟨h1,h2,h3⟩:=hSw;go_simp⟩) hHeld ?_
      obtain⟨a0,a1,a2,az,f0,f1,f2⟩:=bkc0c1c2lz0z1z2 (SD.out.blk 1 rfl)
      have S9:=Lib.hid (((SD.out.set 1 rfl 0 (.bool false)).set 1 rfl 1 (.int .i64 d)).set 1 rfl 2 (.slice none 0 0))
      refine wpAnyH_ready (rs:=[13]) (by kernel_rfl) (by simp) (AllReadyH.cons rfl (fun K hK=>?_) AllReadyH.nil)
      go_simp
      obtain⟨c0,c1,c2⟩:=bkc0c1c2 (S9.out.blk 0 rfl)
      refine hK.out _ _ ⟨c0,c1,c2⟩ (fun hHeld=>?_)
      clear hK
      refine wpAnyH_take (i:=14) (v:=.bool false) rfl (by kernel_rfl) (by kernel_rfl) (by kernel_rfl) (noPanic_q _ _) (Or.inl ⟨by kernel_rfl,fun W hSw=>by obtain⟨h1,h2,h3⟩:=hSw;go_simp⟩) hHeld ?_
      refine wpAnyH_done (by kernel_rfl) ?_ _
      refine noPanic_mk ?_
      obtain⟨x0,x1,x2⟩:=bkc0c1c2 (S9.out.blk 1 rfl)
      go_wp2
      exact bodyPost_ret (v:=.tuple #[.agg #[.bool false,.int .i64 d,.slice none 0 0],.bool false]) (by simp [results,Tryz.results103,go_sem,x0,x1,x2,Tryz.sizeOf34,Tryz.isAgg34]) rfl (distQ_mk (by rw [HD.out]) S9.out.ext HA.out)
end
section
open Go Go.RowKit
theorem Ahead09 (a b:Int × Int) (w:World):Calls Tryz.prog 196 #[.agg #[.int .i64 a.1,.int .i64 a.2],.agg #[.int .i64 b.1,.int .i64 b.2]] w fun e w'=>e=.returned (.bool (ltN a b))∧Ext w w':=by
 have S0:=Lib.hid (((Sep.start w).al #[.int .i64 a.1,.int .i64 a.2] 105 w.heap.size rfl).al #[.int .i64 b.1,.int .i64 b.2] 105 (w.heap.size+1) (by simp))
 obtain⟨a1,a2⟩:=a
 obtain⟨b1,b2⟩:=b
 unfold ltN
 simp only at *
 by_cases h1:a2<b2
 ·have e1:decide (a2<b2)=true:=by simpa using h1
  rw [e1,Bool.true_or]
  clear h1
  go_enter Tryz.func196,Tryz.ntmps196
  go_wp2
  go_ret
  exact⟨rfl,S0.out.ext⟩
 ·have e1:decide (a2<b2)=false:=by simpa using h1
  rw [e1,Bool.false_or]
  by_cases h2:a2=b2
  ·have e2:(a2 == b2)=true:=by simpa using h2
   rw [decide_eq_true h2,Bool.true_and]
   clear h1 h2
   go_enter Tryz.func196,Tryz.ntmps196
   go_wp2
   go_ret
   exact⟨rfl,S0.out.ext⟩
  ·have e2:(a2 == b2)=false:=by simpa using h2
   rw [decide_eq_false h2,Bool.false_and]
   clear h1 h2
   go_enter Tryz.func196,Tryz.ntmps196
   go_wp2
   go_ret
   exact⟨rfl,S0.out.ext⟩
theorem rd_takeE {w:World} {q:Option Addr} {n d:Nat} {L:List (Int × Int)} (h:Rd w 2 q n (encE L)) (hd:d≤n):Rd w 2 q d (encE (L.take d)):=by
 have:=h.take (k:=d) hd
 rwa [encE_take] at this
theorem rd_cutE {w:World} {q:Option Addr} {n d c:Nat} {L:List (Int × Int)} (h:Rd w 2 q n (encE L)) (hd:d≤n) (hc:n≤c):Rd w 2 (cutp q c d 2) (n - d) (encE (L.drop d)):=by
 have hl:=h.nE
 have:=h.cut (l:=d) (h:=n) (c:=c) hd (Nat.le_refl _) hc
 rw [encE_drop,encE_take,List.take_of_length_le (by rw [List.length_drop];omega)] at this
 exact this
end
section
open Go Go.RowKit
theorem infAh:(Tryz.prog.info? 105).map (fun i=>(i.zero,i.size,i.bytes))=some (some (.agg #[.int .i64 0,.int .i64 0]),2,16):=by kernel_rfl
theorem Rd.one2g (w:World) (t:TypeId) (a b:Int) (g:Nat) (h:w.heap.size=g):Rd (w.alloc (.cells #[.int .i64 a,.int .i64 b] t)) 2 (some ⟨g,0,none⟩) 1 (encE [(a,b)]):=by subst h;exact Rd.one2 w t a b
theorem qAll (gb:Nat) (q:Option Addr) (n c:Nat) (X:List (Int × Int)) (mo:Int) (w:World) (hB:Blk w gb 301 #[.slice q n c,.int .i64 mo]) (hl:Rd w 2 q n (encE X)) (hn:n≤80000) :
  Calls Tryz.prog 236 #[.pointer (some ⟨gb,0,none⟩)] w fun e w'=>∃ q' c',e=.returned (.slice q' n c')∧Sep w w' [.own 105 2 q' n c' (encE (sortBy ltN X))]:=by
 obtain⟨i0,hi0,hz0,hz1,hz2⟩:=info_parts infAh
 have b0:w.cell? ⟨gb,0,none⟩=some (.slice q n c):=hB.cell 0
 have bz:=hB.lt
 have hnX:=hl.nE
 obtain⟨Y,hY⟩:∃ Y,sortBy ltN X=Y:=⟨_,rfl⟩
 have LX:Hid (Y.length=n):=by unfold Hid;rw [← hY,sortBy_len,← hnX]
 have HY:=Lib.hid hY
 rw [hY]
 have HC:=Lib.hid (CloneH q n c X w hl (by omega))
 clear hB hl hnX hY
 go_enter Tryz.func236,Tryz.ntmps236
 go_wp2_with (first
  | (go_at_call 272;go_must (refine(SortH_sep S1.out 0 rfl (by omega)).mono ?_;rintro e w2 ⟨rfl,Z⟩;rw [HY.out] at Z;have S2:=Lib.hid (Z.nilrow 105 2);clear Z))
  | (go_at_call 271;go_must (refine HC.out.mono ?_;rintro e w1 ⟨q1,c1,rfl,Z⟩;have S1:=Lib.hid Z;clear Z)))
 have S3:=Lib.hid (S2.out:Sep w w2 [.own 105 2 none 0 0 [],.own 329 2 q1 n c1 (encE Y)])
 clear S1 S2 b0 bz HC
 go_loopw [4,6,19] (fun v _ i wr=>∃ (j:Nat) (q':Option Addr) (c':Nat),j≤n∧i=.int .i64 j∧v=.slice q' j c'∧Sep w wr [.own 105 2 q' j c' (encE (Y.take j)),.own 329 2 q1 n c1 (encE Y)]) (fun _ _ i _=>n - (intOf i).toNat)
 case atStart=>exact⟨0,none,0,Nat.zero_le _,rfl,rfl,S3.out⟩
 case round =>
  clear S3
  obtain⟨j,q',c',hj,rfl,rfl,S⟩:=hrel
  by_cases hlt:j<n
  ·have hr:=S.rdx 1 rfl
   have g1:=hr.cE hlt
   have g2:=hr.cE2 hlt
   have p1:=hr.ptr
   have HT:=Lib.hid (take_succ_nth Y j (by rw [LX.out];exact hlt))
   have d1:(0:Int)≤j:=by omega
   have d2:(j:Int)<n:=by omega
   clear hr
   have SH:=Lib.hid S;clear S
   generalize nth Y j=y at *
   go_wp2_with (at_builtin;go_must (refine wpList_append_sep rfl _ _ _ rfl 105 i0 _ 2 16 Tryz.underlying32 hi0 hz0 hz1 hz2 rfl (by omega) ((SH.out.junk _).junk _) 0 q' j c' _ rfl rfl _ 1 1 _ rfl (Rd.one2g _ _ _ _ _ (by simp)) (one_encE _) (by omega) (by omega) ?_;intro q7 c7 w7 S' hsz;have S7:=Lib.hid S';clear S' hsz))
   go_roundw
   case rel=>exact⟨j+1,q7,c7,by omega,by go_num,rfl,by rw [HT.out,encE_append];exact S7.out⟩
   case measure=>simp [intOf];omega
  ·obtain rfl:j=n:=by omega
   rw [List.take_of_length_le (by rw [LX.out];exact Nat.le_refl _)] at S
   have SH:=Lib.hid S;clear S
   go_wp2
   go_ret
   exact⟨q',c',rfl,SH.out.pick [0] (by decide) rfl⟩
theorem First10 (p:Option Addr) (n c:Nat) (l:List (Int × Int)) (k:Int) (w:World) (hl:Rd w 2 p n (encE l)) (hn:n≤10000) :
  Calls Tryz.prog 191 #[.slice p n c,.int .i64 k] w fun e w'=>∃ q c',e=.returned (.slice q (firstN l k).length c')∧Sep w w' [.own 105 2 q (firstN l k).length c' (encE (firstN l k))]:=by
 have p1:=hl.ptr
 have n1:=hl.small
 have L1:=Lib.hid hl.nE
 by_cases h1:k<1
 ·have HF:Hid (firstN l k=[]):=by unfold Hid firstN;rw [if_pos h1]
  rw [HF.out]
  have S0:=Lib.hid ((Sep.start w).nilrow 105 2)
  clear HF hl
  go_enter Tryz.func191,Tryz.ntmps191
  go_wp2
  go_ret
  exact⟨none,0,rfl,S0.out⟩
 ·obtain⟨mo,rfl⟩:∃ mo:Nat,k=mo:=⟨k.toNat,by omega⟩
  have e1:decide ((mo:Int)<1)=false:=by simpa using h1
  have HF:Hid (firstN l mo=(sortN l).take mo):=by unfold Hid firstN;rw [if_neg h1,Int.toNat_natCast]
  rw [HF.out]
  obtain⟨F,hF⟩:∃ F,(sortN l).take mo=F:=⟨_,rfl⟩
  rw [hF]
  have HF2:=Lib.hid hF
  clear hF
  have HL:=Lib.hid hl
  have S0:=Lib.hid (((Sep.start w).al #[.slice none 0 0,.int .i64 (mo:Int)] 301 w.heap.size rfl).nilrow 329 2)
  clear hl h1 HF
  go_enter Tryz.func191,Tryz.ntmps191
  go_wp2
  go_loopw [7,15] (fun _ i wr=>∃ (j:Nat) (q:Option Addr) (m d:Nat) (X:List (Int × Int)),j≤n∧i=.int .i64 j∧m≤j∧Hid (HeapN ltR m X)∧Hid (X.Perm ((sortN (l.take j)).take mo))∧Sep w wr [.own 329 2 q m d (encE X),.blk w.heap.size 301 #[.slice q m d,.int .i64 (mo:Int)]]) (fun _ i _=>n - (intOf i).toNat)
  case atStart=>exact⟨0,none,0,0,[],Nat.zero_le _,rfl,Nat.zero_le _,fun i h0 h1=>by omega,by unfold Hid;rw [List.take_zero];simp [sortN],S0.out⟩
  case round =>
   clear S0
   obtain⟨j,q,m,d,X,hj,rfl,hm,HH,HP,S⟩:=hrel
   by_cases hlt:j<n
   ·have g1:=S.ext.cell (HL.out.cE hlt)
    have g2:=S.ext.cell (HL.out.cE2 hlt)
    have HT:=Lib.hid (take_succ_nth l j (by rw [← L1.out];exact hlt))
    have d1:(0:Int)≤j:=by omega
    have d2:(j:Int)<n:=by omega
    have SH:=Lib.hid S;clear S
    generalize nth l j=y at *
    have HPU:=Lib.hid (qPut w.heap.size q m d X (l.take j) y mo _ w (.blk wr.heap.size 105 #[.int .i64 y.1,.int .i64 y.2] :: [.own 329 2 q m d (encE X),.blk w.heap.size 301 #[.slice q m d,.int .i64 (mo:Int)]]) 2 1 (SH.out.al #[.int .i64 y.1,.int .i64 y.2] 105 wr.heap.size rfl) rfl rfl (by omega) (by omega) HH.out HP.out)
    go_wp2_with (go_at_call 235;go_must (refine HPU.out.mono ?_;rintro e w3 ⟨⟨v,rfl⟩,q',m',d',X',k1,k2,k3,Z⟩;have K2:=Lib.hid k2;have K3:=Lib.hid k3;have S3:=Lib.hid Z;clear k2 k3 Z))
    go_roundw
    case rel=>exact⟨j+1,q',m',d',X',by omega,by go_num,by omega,K2.out,by rw [HT.out];exact K3.out,S3.out.pick [1,2] (by decide) rfl⟩
    case measure=>simp [intOf];omega
   ·obtain rfl:j=n:=by omega
    have HX:Hid (sortBy ltN X=F):=by
     have hp:=HP.out
     rw [List.take_of_length_le (l:=l) (by rw [← L1.out];exact Nat.le_refl _)] at hp
     unfold Hid
     rw [← HF2.out]
     exact first_uniq (sortBy_sorts X).1 ((sortBy_sorts X).2.trans hp)
    have HM:Hid (m=F.length):=by
     unfold Hid
     rw [← HX.out,sortBy_len,← (S.rdx 0 rfl).nE]
    have HA:=Lib.hid (qAll w.heap.size q m d X mo wr (S.blk 1 rfl) (S.rdx 0 rfl) (by omega))
    rw [HX.out] at HA
    have SH:=Lib.hid S;clear S
    go_wp2_with (go_at_call 236;go_must (refine HA.out.mono ?_;rintro e w3 ⟨q',d',rfl,Z⟩;have S3:=Lib.hid (SH.out.comp Z);clear Z))
    go_ret
    have T:Sep w w3 [.own 105 2 q' m d' (encE F)]:=S3.out.pick [0] (by decide) rfl
    rw [HM.out] at T
    exact⟨q',d',ret_slc HM.out,T⟩
end
section
open Go Go.RowKit
theorem Put10 (p:Option Addr) (n c:Nat) (l:List (Int × Int)) (x:Int × Int) (w:World) (hl:Rd w 2 p n (encE l)) (hc:n≤c) (hn:n≤100000) :
  Calls Tryz.prog 124 #[.slice p n c,.agg #[.int .i64 x.1,.int .i64 x.2]] w fun e w'=>∃ q c',e=.returned (.slice q (putN x l).length c')∧Sep w w' [.own 105 2 q (putN x l).length c' (encE (putN x l))]:=by
 obtain⟨i0,hi0,hz0,hz1,hz2⟩:=info_parts infAh
 have S0:=Lib.hid ((Sep.start w).al #[.int .i64 x.1,.int .i64 x.2] 105 w.heap.size rfl)
 have hln:=hl.nE
 have LL:=Lib.hid hln
 have p1:=hl.ptr
 have HL:=Lib.hid hl
 have HA:=fun (b:Int × Int) W=>Ahead09 x b W
 obtain⟨x1,x2⟩:=x
 simp only at S0 HA ⊢
 clear hl hln
 go_enter Tryz.func124,Tryz.ntmps124
 go_wp2
 go_loopw [5] (fun i wr=>∃ k:Nat,k≤n∧i=.int .i64 k∧Hid (∀ i,i<k→ltN (x1,x2) (nth l i)=false)∧Sep w wr [.blk w.heap.size 105 #[.int .i64 x1,.int .i64 x2]]) (fun i _=>n - (intOf i).toNat)
 case atStart=>exact⟨0,Nat.zero_le _,rfl,fun i hi=>by omega,S0.out⟩
 case round =>
  clear S0
  obtain⟨k,hk,rfl,HK,S⟩:=hrel
  obtain⟨b0,b1,bz⟩:=bkc0c1l (S.blk 0 rfl)
  by_cases hlt:k<n
  ·have hkL:k<l.length:=by rw [← LL.out];exact hlt
   have g1:=S.ext.cell (HL.out.cE hlt)
   have g2:=S.ext.cell (HL.out.cE2 hlt)
   have d1:(0:Int)≤k:=by omega
   have d2:(k:Int)<n:=by omega
   have HAT:Hid (ltN (x1,x2) (nth l k)=true→k=atN (x1,x2) l):=fun h=>atN_eq (by omega) HK.out fun _=>h
   have HAK:Hid (ltN (x1,x2) (nth l k)=false→∀ i,i<k+1→ltN (x1,x2) (nth l i)=false):=fun h i hi=>by
    by_cases e:i=k
    ·subst e;exact h
    ·exact HK.out i (by omega)
   have HAx:=Lib.hid (fun y:ExtOf wr=>HA (nth l k) y.val)
   generalize nth l k=y at *
   cases hy:ltN (x1,x2) y with
   | false =>
    rw [hy] at HAx
    have HK2:=Lib.hid (HAK.out hy)
    clear hy HAT HAK HK
    have SH:=Lib.hid S;clear S
    go_wp2
    have u0:=fun x:ExtOf wr=>x.ext.cell b0
    have u1:=fun x:ExtOf wr=>x.ext.cell b1
    have u2:=fun x:ExtOf wr=>x.ext.cell g1
    have u3:=fun x:ExtOf wr=>x.ext.cell g2
    refine wp_region_ext (by kernel_rfl) (by kernel_rfl) ?_
    repeat (go_big_quiet_step (((go_at_call 196;exact Calls.ext_of (HAx.out _)))))
    refine wpQuiet_nil ?_
    rintro w9 ⟨⟨_,hb9⟩,rfl⟩
    go_wp2
    go_roundw
    case rel=>exact⟨k+1,by omega,by go_num,HK2.out,SH.out.call hb9⟩
    case measure=>simp [intOf];omega
   | true =>
    rw [hy] at HAx
    have HE:=Lib.hid (HAT.out hy)
    clear hy HAT HAK HK
    have SH:=Lib.hid S;clear S
    go_wp2
    have u0:=fun x:ExtOf wr=>x.ext.cell b0
    have u1:=fun x:ExtOf wr=>x.ext.cell b1
    have u2:=fun x:ExtOf wr=>x.ext.cell g1
    have u3:=fun x:ExtOf wr=>x.ext.cell g2
    refine wp_region_ext (by kernel_rfl) (by kernel_rfl) ?_
    repeat (go_big_quiet_step (((go_at_call 196;exact Calls.ext_of (HAx.out _)))))
    refine wpQuiet_nil ?_
    rintro w9 ⟨⟨_,hb9⟩,rfl⟩
    have S9:=Lib.hid (SH.out.call hb9)
    have HF:Hid (putN (x1,x2) l=l.take k ++ ([(x1,x2)] ++ l.drop k)):=by unfold Hid putN;rw [← HE.out]
    have hkn:(k:Int)≤n:=by omega
    clear hb9 g1 g2 HAx u0 u1 u2 u3 b0 b1 bz SH
    obtain⟨b0,b1,bz⟩:=bkc0c1l (S9.out.blk 0 rfl)
    go_wp2_with (first | (at_builtin;have _t:=T2;go_must (refine wpList_append_sep rfl _ _ _ rfl 105 i0 _ 2 16 Tryz.underlying32 hi0 hz0 hz1 hz2 rfl (by omega) T2.out 0 q7 (k+1) c7 _ rfl rfl _ _ _ (encE (l.drop k)) rfl (by have hz:=rd_cutE (d:=k) (HL.out.ext T2.out.ext) (by omega) hc;simpa [cutp,Addr.add] using hz) (one_encE _) (by omega) (by omega) ?_;intro q8 c8 w8 S' hsz;have T3:=Lib.hid S';clear S' hsz)) | (at_builtin;have _t:=T1;go_must (refine wpList_append_sep rfl _ _ _ rfl 105 i0 _ 2 16 Tryz.underlying32 hi0 hz0 hz1 hz2 rfl (by omega) (T1.out.junk _) 0 q6 k c6 _ rfl rfl _ 1 1 _ rfl (Rd.one2 _ _ _ _) (one_encE _) (by omega) (by omega) ?_;intro q7 c7 w7 S' hsz;have T2:=Lib.hid S';clear S' hsz)) | (at_builtin;have _t:=S9;go_must (refine wpList_append_sep rfl _ _ _ rfl 105 i0 _ 2 16 Tryz.underlying32 hi0 hz0 hz1 hz2 rfl (by omega) (S9.out.nilrow 105 2) 0 none 0 0 [] rfl rfl p k c _ rfl (rd_takeE (HL.out.ext S9.out.ext) (by omega)) (one_encE _) (by omega) (by omega) ?_;intro q6 c6 w6 S' hsz;(try simp only [Nat.zero_add,List.nil_append] at S');have T1:=Lib.hid S';obtain⟨e0,e1,ez⟩:=bkc0c1l (S'.blk 1 rfl);clear S' hsz)))
    go_ret
    have hL2:k+1+(n - k)=(putN (x1,x2) l).length:=by(rw [putN_len,← LL.out];omega)
    have T:Sep w w8 [.own 105 2 q8 (k+1+(n - k)) c8 (encE (l.take k) ++ encE [(x1,x2)] ++ encE (l.drop k))]:=T3.out.pick [0] (by decide) rfl
    rw [List.append_assoc,← encE_append,← encE_append,hL2,← HF.out] at T
    exact⟨q8,c8,ret_slc hL2,T⟩
  ·have hkn':k=n:=by omega
   have HE:Hid (k=atN (x1,x2) l):=atN_eq (by have:=LL.out;omega) HK.out fun h=>absurd h (by have:=LL.out;omega)
   have HF:Hid (putN (x1,x2) l=l.take k ++ ([(x1,x2)] ++ l.drop k)):=by unfold Hid putN;rw [← HE.out]
   have d2:decide ((k:Int)<n)=false:=by simp;omega
   have d2n:decide (k<n)=false:=by simp;omega
   have d1:(0:Int)≤k:=by omega
   have hkn:(k:Int)≤n:=by omega
   clear hkn' hlt HK
   have HAx:=Lib.hid (fun y:ExtOf wr=>HA (0,0) y.val)
   have SH:=Lib.hid S;clear S
   go_wp2
   have u0:=fun x:ExtOf wr=>x.ext.cell b0
   have u1:=fun x:ExtOf wr=>x.ext.cell b1
   refine wp_region_ext (by kernel_rfl) (by kernel_rfl) ?_
   repeat (go_big_quiet_step (((go_at_call 196;exact Calls.ext_of (HAx.out _)))))
   refine wpQuiet_nil ?_
   rintro w9 ⟨⟨_,hb9⟩,rfl⟩
   have S9:=Lib.hid (SH.out.call hb9)
   clear hb9 HAx u0 u1 b0 b1 bz SH
   obtain⟨b0,b1,bz⟩:=bkc0c1l (S9.out.blk 0 rfl)
   go_wp2_with (first | (at_builtin;have _t:=T2;go_must (refine wpList_append_sep rfl _ _ _ rfl 105 i0 _ 2 16 Tryz.underlying32 hi0 hz0 hz1 hz2 rfl (by omega) T2.out 0 q7 (k+1) c7 _ rfl rfl _ _ _ (encE (l.drop k)) rfl (by have hz:=rd_cutE (d:=k) (HL.out.ext T2.out.ext) (by omega) hc;simpa [cutp,Addr.add] using hz) (one_encE _) (by omega) (by omega) ?_;intro q8 c8 w8 S' hsz;have T3:=Lib.hid S';clear S' hsz)) | (at_builtin;have _t:=T1;go_must (refine wpList_append_sep rfl _ _ _ rfl 105 i0 _ 2 16 Tryz.underlying32 hi0 hz0 hz1 hz2 rfl (by omega) (T1.out.junk _) 0 q6 k c6 _ rfl rfl _ 1 1 _ rfl (Rd.one2 _ _ _ _) (one_encE _) (by omega) (by omega) ?_;intro q7 c7 w7 S' hsz;have T2:=Lib.hid S';clear S' hsz)) | (at_builtin;have _t:=S9;go_must (refine wpList_append_sep rfl _ _ _ rfl 105 i0 _ 2 16 Tryz.underlying32 hi0 hz0 hz1 hz2 rfl (by omega) (S9.out.nilrow 105 2) 0 none 0 0 [] rfl rfl p k c _ rfl (rd_takeE (HL.out.ext S9.out.ext) (by omega)) (one_encE _) (by omega) (by omega) ?_;intro q6 c6 w6 S' hsz;(try simp only [Nat.zero_add,List.nil_append] at S');have T1:=Lib.hid S';obtain⟨e0,e1,ez⟩:=bkc0c1l (S'.blk 1 rfl);clear S' hsz)))
   go_ret
   have hL2:k+1+(n - k)=(putN (x1,x2) l).length:=by(rw [putN_len,← LL.out];omega)
   have T:Sep w w8 [.own 105 2 q8 (k+1+(n - k)) c8 (encE (l.take k) ++ encE [(x1,x2)] ++ encE (l.drop k))]:=T3.out.pick [0] (by decide) rfl
   rw [List.append_assoc,← encE_append,← encE_append,hL2,← HF.out] at T
   exact⟨q8,c8,ret_slc hL2,T⟩
theorem First10r (p:Option Addr) (n c:Nat) (l:List (Int × Int)) (k:Int) (w:World) (hl:Rd w 2 p n (encE l)) (hn:n≤10000) :
  Calls Tryz.prog 73 #[.slice p n c,.int .i64 k] w fun e w'=>∃ q c',e=.returned (.slice q (firstN l k).length c')∧Sep w w' [.own 105 2 q (firstN l k).length c' (encE (firstN l k))]:=by
 have p1:=hl.ptr
 have n1:=hl.small
 have L1:=Lib.hid hl.nE
 have HL:=Lib.hid hl
 have S0:=Lib.hid ((Sep.start w).nilrow 105 2)
 obtain⟨F,hF⟩:∃ F,firstN l k=F:=⟨_,rfl⟩
 rw [hF]
 have HF:=Lib.hid hF
 clear hl hF
 go_enter Tryz.func73,Tryz.ntmps73
 go_wp2
 go_loopw [5,6] (fun v i wr=>∃ (j:Nat) (q:Option Addr) (d:Nat),j≤n∧i=.int .i64 j∧v=.slice q j d∧Sep w wr [.own 105 2 q j d (encE (sortN (l.take j)))]) (fun _ i _=>n - (intOf i).toNat)
 case atStart=>exact⟨0,none,0,Nat.zero_le _,rfl,rfl,S0.out⟩
 case round =>
  clear S0
  obtain⟨j,q,d,hj,rfl,rfl,S⟩:=hrel
  by_cases hlt:j<n
  ·have g1:=S.ext.cell (HL.out.cE hlt)
   have g2:=S.ext.cell (HL.out.cE2 hlt)
   have HT:=Lib.hid (take_succ_nth l j (by rw [← L1.out];exact hlt))
   have d1:(0:Int)≤j:=by omega
   have d2:(j:Int)<n:=by omega
   have hcap:=own_cap (S.own 0 rfl)
   generalize nth l j=y at *
   have HS:=Lib.hid (sortN_snoc (l.take j) y)
   rw [← HT.out] at HS
   have HPL:Hid ((putN y (sortN (l.take j))).length=j+1):=by unfold Hid;rw [putN_len,← (S.rdx 0 rfl).nE]
   have HPU:=Lib.hid (Put10 q j d (sortN (l.take j)) y wr (S.rdx 0 rfl) hcap (by omega))
   rw [HPL.out,← HS.out] at HPU
   have SH:=Lib.hid S;clear S
   go_wp2_with (go_at_call 124;go_must (refine HPU.out.mono ?_;rintro e w3 ⟨q',d',rfl,Z⟩;have S3:=Lib.hid (SH.out.comp Z);clear Z))
   go_roundw
   case rel=>exact⟨j+1,q',d',by omega,by go_num,rfl,S3.out.pick [0] (by decide) rfl⟩
   case measure=>simp [intOf];omega
  ·obtain rfl:j=n:=by omega
   rw [List.take_of_length_le (by rw [← L1.out];exact Nat.le_refl _)] at S
   have hcap:=own_cap (S.own 0 rfl)
   have hSL:(sortN l).length=j:=by rw [sortN_len,← L1.out]
   have S2:=Lib.hid S
   clear S
   by_cases h1:k<1
   ·have HN:Hid (F=[]):=by unfold Hid;rw [← HF.out];unfold firstN;rw [if_pos h1]
    have T:Sep w wr [.own 105 2 none F.length 0 (encE F)]:=by
     rw [HN.out]
     exact(S2.out.nilrow 105 2).pick [0] (by decide) rfl
    have HT:=Lib.hid T
    clear T hSL
    go_wp2
    go_ret
    exact⟨none,0,ret_slc (by rw [HN.out];rfl),HT.out⟩
   ·obtain⟨mo,rfl⟩:∃ mo:Nat,k=mo:=⟨k.toNat,by omega⟩
    have HFE:Hid (F=(sortN l).take mo):=by unfold Hid;rw [← HF.out];unfold firstN;rw [if_neg h1,Int.toNat_natCast]
    obtain⟨m,hm⟩:∃ m:Nat,m=min mo j:=⟨_,rfl⟩
    have hmn:min (mo:Int) (j:Int)=(m:Int):=by omega
    have HML:Hid (m=F.length):=by unfold Hid;rw [HFE.out,List.length_take,hSL];exact hm
    have e1:decide ((mo:Int)<1)=false:=by simpa using h1
    have m0:(0:Int)≤(m:Int):=by omega
    have m1:(m:Int)≤d:=by omega
    have m2:m≤d:=by omega
    have hj2:([.own 105 2 q j d (encE (sortN l))]:List Pc)[0]?=some (.own 105 2 q j d (encE ((sortN l).take mo) ++ encE ((sortN l).drop mo))):=by rw [← encE_append,List.take_append_drop];rfl
    have T:=Sep.cut S2.out 0 m hj2 (by rw [encE_len,List.length_take,hSL,hm]) (by omega)
    rw [← HFE.out] at T
    have T2:Sep w wr [.own 105 2 q m d (encE F)]:=T
    rw [HML.out] at T2
    have HT:=Lib.hid T2
    have hcp:cutp q d 0 2=q:=by
     rcases Nat.eq_zero_or_pos j with h0 | h0
     ·rcases (S2.out.own 0 rfl).2 with ⟨h2,_⟩ | ⟨g,cap,cur,h2,_⟩
      ·injection h2 with h2
       rw [h2];unfold cutp;split <;> rfl
      ·injection h2 with h2
       rw [h2];unfold cutp;split
       ·rfl
       ·simp [Addr.add]
     ·obtain⟨g,h2,_⟩:=own_block (S2.out.own 0 rfl) (by omega)
      rw [h2];unfold cutp;split
      ·rfl
      ·simp [Addr.add]
    clear T T2 hSL hj2 hm h1 hcap hj hlt
    go_wp2
    go_ret
    exact⟨q,d,ret_slc HML.out,HT.out⟩
end
section
open Go Go.RowKit Go.Maps Go.WideElems
def heldR (v:Value):Option (DataW Value × List MemPlace):=some (.held v,[])
def keyT (s:ByteArray):Lit:=.string s.data.toList
theorem keyT_inj {s t:ByteArray} (h:keyT s=keyT t):s=t:=by
 unfold keyT at h;injection h with h
 exact ByteArray.ext (Array.toList_inj.1 h)
def MapT (P:Program) (k:TypeId) (b n:Nat) (f:ByteArray→Option Value) (w:World):Prop :=
 ∃ D:DataW Value,w.ownsMap P k heldR b n D∧(∀ s,s.size≤1000000→Maps.has D (keyT s)=(f s).isSome)∧∀ s v,f s=some v→s.size≤1000000∧∀ zd,D.atKey (keyT s) zd=.held v
def upT (f:ByteArray→Option Value) (s:ByteArray) (v:Value):ByteArray→Option Value:=fun t=>if t=s then some v else f t
section
variable {P:Program} {k e:TypeId} {b n:Nat} {f:ByteArray→Option Value} {w w':World}
theorem MapT.lt (h:MapT P k b n f w):b<w.heap.size:=by obtain⟨D,h1,_⟩:=h;exact h1.lt
theorem MapT.loc (h:MapT P k b n f w) (hb:w'.heap[b]?=w.heap[b]?):MapT P k b n f w':=by
 obtain⟨D,⟨es,clock,h1,F,h2,h3⟩,hf⟩:=h
 exact⟨D,⟨es,clock,hb.trans h1,F,h2,h3⟩,hf⟩
theorem MapT.made (w:World):MapT P k w.heap.size 0 (fun _=>none) (w.alloc (.map #[] 0)) :=
 ⟨.map [],World.ownsMap_made w P k _,fun x _=>rfl,fun x v h=>by cases h⟩
def Pc.mapT (P:Program) (k:TypeId) (b n:Nat) (f:ByteArray→Option Value):Pc :=
 ⟨fun i=>i=b,fun w=>MapT P k b n f w,fun _ h i hi=>by subst hi;exact h.lt,fun _ _ h hi=>h.loc (hi b rfl)⟩
theorem keyT_of (hk:P.underlying k=some .string) {s:ByteArray} (hs:s.size≤1000000):keyOf P k (.string s)=some (keyT s):=WideMaps.keyOf_string_mk hk (by unfold maxLen;omega)
theorem isKeyT (hk:P.underlying k=some .string) {s:ByteArray} (hs:s.size≤1000000):WideAt.IsKeyLit (keyT s):=(string_keyed hk).key (keyT_of hk hs)
theorem MapT.update {t:TypeId} (h:MapT P k b n f w) (hk:P.underlying k=some .string) (ht:P.underlying t=some (.map k e)) (hn:n<140737488355328) {s:ByteArray} (hs:s.size≤1000000) (v:Value) :
  ∃ w',(Instr.mapUpdate t (.map (some b)) (.string s) v).run P w=.ok () w'∧MapT P k b (n+1) (upT f s v) w'∧w.grownBy w' (some b):=by
 obtain⟨D,h1,h2,h3⟩:=h
 obtain⟨w',hr,ho,hg⟩:=h1.update (string_keyed hk) ht (by unfold maxLen;omega) (keyT_of hk hs) (show heldR v=some (.held v,[]) from rfl)
 have hm:=h1.isMap
 refine⟨w',hr,⟨_,ho,fun y hy=>?_,fun y u hu=>?_⟩,hg⟩
 ·unfold upT
  by_cases e:y=s
  ·subst e;rw [has_put_same hm (isKeyT hk hs)];simp
  ·rw [has_put_other (fun h=>e (keyT_inj h)),if_neg e];exact h2 y hy
 ·unfold upT at hu
  by_cases e:y=s
  ·subst e;simp at hu;subst hu;exact⟨hs,fun zd=>atKey_put_same hm (isKeyT hk hs) _ _⟩
  ·rw [if_neg e] at hu
   obtain⟨g1,g2⟩:=h3 y u hu
   exact⟨g1,fun zd=>by rw [atKey_put_other (fun h=>e (keyT_inj h))];exact g2 zd⟩
theorem MapT.lookup {t:TypeId} {z:Value} (h:MapT P k b n f w) (hk:P.underlying k=some .string) (ht:P.underlying t=some (.map k e)) (hz:(zeroValue e).run P w=.ok z w) {s:ByteArray} (hs:s.size≤1000000) :
  (Instr.lookup t (.map (some b)) (.string s) false).run P w=.ok ((f s).getD z) w:=by
 obtain⟨D,h1,h2,h3⟩:=h
 obtain⟨v,ps,hr,hv⟩:=h1.lookup (string_keyed hk) ht hz (show heldR z=some (.held z,[]) from rfl) (keyT_of hk hs)
 have hat:D.atKey (keyT s) (.held z)=.held ((f s).getD z):=by
  cases hf:f s with
  | none=>exact atKey_of_not_has (by rw [h2 s hs,hf];rfl) _
  | some u=>exact(h3 s u hf).2 _
 unfold heldR at hv
 injection hv with hv
 injection hv with hv
 rw [hat] at hv
 injection hv with hv
 rw [hr,hv]
variable {w0:World} {Γ:List Pc} {ops:Array Oper} {rest:List Oper} {o:Oper} {a:Act} {Q:Exit→Act→World→Prop}
theorem Sep.mapT (S:Sep w0 w Γ) (j:Nat) (hj:Γ[j]?=some (.mapT P k b n f)):MapT P k b n f w:=S.all _ (List.mem_of_getElem? hj)
end
def apartR (r s:Hd × List Value):Prop:=∀ k,blkOf r.1.p=some k→blkOf s.1.p≠some k
def Pc.rowsD (e:TypeId) (size:Nat) (rows:List (Hd × List Value)):Pc :=
 ⟨fun k=>∃ r∈rows,blkOf r.1.p=some k,fun w=>(∀ r∈rows,w.ownsRow 0 e size (.slice r.1.p r.1.n r.1.c) r.1.n r.2)∧rows.Pairwise apartR,fun _ h _ ⟨r,hr,hk⟩=>(own_lt (h.1 r hr) hk).2,fun _ _ h hk=>⟨fun r hr=>own_loc (h.1 r hr) fun k hb=>hk k ⟨r,hr,hb⟩,h.2⟩⟩
end
section
open Go Go.RowKit
structure GS (w wr:World) (b g:Nat) (cs:Array Value) (O:List Occ) (A:List Po) (hs:List Hd) (q:Option Addr) (c:Nat) (f:ByteArray→Option Value):Prop where
 len:hs.length=A.length
 gath:Gath O A
 some_:∀ r,r<A.length→f (nth A r).1=some (nth hs r).v
 none_:∀ s,s ∉ A.map (·.1)→f s=none
 sep:Sep w wr [.rowsD 3 1 (rowsP A hs),.own 9 1 q A.length c (encS (A.map (·.1))),.mapT Tryz.prog 9 b O.length f,.blk g 102 cs]
theorem GS.new {w wr:World} {b g:Nat} {cs:Array Value} {O:List Occ} {A:List Po} {hs:List Hd} {q:Option Addr} {c:Nat} {f:ByteArray→Option Value} (G:GS w wr b g cs O A hs q c f) {s:ByteArray} (hs':s ∉ A.map (·.1)) {v:Int} {wn:World} {q1 q2:Option Addr} {c1 c2:Nat}
  (S:Sep w wn [.rowsD 3 1 ((rowsP A hs ++ [((⟨none,0,0⟩:Hd),([]:List Value))]).set A.length ((⟨q2,1,c2⟩:Hd),[Value.int .i64 v])),.own 9 1 q1 (A.length+1) c1 (encS (A.map (·.1)) ++ encS [s]),.mapT Tryz.prog 9 b (O.length+1) (upT f s (.slice q2 1 c2)),.blk g 102 cs]) :
  GS w wn b g cs (O ++ [(v,s)]) (A ++ [(s,[v])]) (hs ++ [⟨q2,1,c2⟩]) q1 c1 (upT f s (.slice q2 1 c2)):=by
 have hlen:(rowsP A hs).length=A.length:=by unfold rowsP;simp [G.len]
 have hrow:(rowsP A hs ++ [((⟨none,0,0⟩:Hd),([]:List Value))]).set A.length ((⟨q2,1,c2⟩:Hd),[Value.int .i64 v])=rowsP (A ++ [(s,[v])]) (hs ++ [⟨q2,1,c2⟩]):=by
  rw [rowsP_snoc _ _ _ _ G.len,List.set_append_right _ _ (by omega),hlen,Nat.sub_self];rfl
 refine⟨by simp [G.len],G.gath.new hs',fun r hr=>?_,fun t ht=>?_,?_⟩
 ·rw [List.length_append,List.length_singleton] at hr
  by_cases e:r<A.length
  ·rw [nth_append_left _ _ _ e,nth_append_left _ _ _ (by rw [G.len];exact e)]
   unfold upT
   rw [if_neg]
   ·exact G.some_ r e
   ·rintro he
    exact hs' (by rw [← he,nth_eq e];exact List.mem_map_of_mem (List.getElem_mem _))
  ·have e1:r=A.length:=by omega
   subst e1
   have a1:nth (A ++ [(s,[v])]) A.length=(s,[v]):=nth_append_new _ _
   have a2:nth (hs ++ [(⟨q2,1,c2⟩:Hd)]) A.length=⟨q2,1,c2⟩:=by rw [← G.len];exact nth_append_new _ _
   rw [a1,a2];unfold upT;simp [Hd.v]
 ·rw [List.map_append,List.mem_append,not_or] at ht
  unfold upT
  rw [if_neg (by simpa using ht.2)]
  exact G.none_ t ht.1
 ·rw [hrow,← encS_append] at S
  simpa using S
theorem MapT.size {P:Program} {k:TypeId} {b n:Nat} {f:ByteArray→Option Value} {w:World} (h:MapT P k b n f w) {s:ByteArray} {v:Value} (hf:f s=some v):s.size≤1000000:=by
 obtain⟨D,_,_,h3⟩:=h
 exact(h3 s v hf).1
end
section
open Go Go.RowKit Go.Maps
def badPo (p:Po):Bool:=decide (60<p.1.size) || decide (60<p.2.length)
def bigP (L:List Po):Bool:=(decide (L.length≤40) && L.any badPo) || decide (40<L.length)
theorem Big05 (p:Option Addr) (n c:Nat) (hs:List Hd) (L:List Po) (w:World) (hL:RdP w p n hs L) :
  Calls Tryz.prog 48 #[.slice p n c] w fun e w'=>e=.returned (.bool (bigP L))∧Ext w w':=by
 have p1:=hL.ptr
 have n1:=hL.small
 have L1:=Lib.hid hL.hn
 have HL:=Lib.hid hL;clear hL
 by_cases h40:n≤40
 ·have b0:decide ((n:Int)≤40)=true:=by simp;omega
  have b0n:decide (n≤40)=true:=by simp;omega
  go_enter Tryz.func48,Tryz.ntmps48
  go_wp2
  go_loop [3] (fun i=>∃ k:Nat,k≤n∧i=.int .i64 k∧(L.take k).any badPo=false) (fun i=>n - (intOf i).toNat)
  case atStart=>exact⟨0,Nat.zero_le _,rfl,rfl⟩
  case round =>
   obtain⟨k,hk,rfl,ha⟩:=hrel
   have HA:=Lib.hid ha;clear ha
   by_cases hlt:k<n
   ·have g1:=HL.out.c1 k hlt
    have g2:=HL.out.c2 k hlt
    have LE:=Lib.hid (HL.out.each k hlt).nI
    have d1:(0:Int)≤k:=by omega
    have d2:(k:Int)<n:=by omega
    have hkL:k<L.length:=by rw [← L1.out];exact hlt
    have HT:Hid (badPo (nth L k)=true→bigP L=true):=fun h=>by unfold bigP;rw [any_true_at badPo L k hkL h,decide_eq_true (by rw [← L1.out];exact h40)];rfl
    by_cases h6:60<(nth L k).1.size
    ·have HF:Hid (bigP L=true):=HT.out (by unfold badPo;simp [h6])
     go_wp2
     go_ret
     exact⟨ret_bool HF.out.symm,Below.refl _ _⟩
    ·by_cases h7:60<(nth hs k).n
     ·have HF:Hid (bigP L=true):=HT.out (by unfold badPo;rw [← LE.out];simp [h7])
      go_wp2
      go_ret
      exact⟨ret_bool HF.out.symm,Below.refl _ _⟩
     ·have HF:=Lib.hid (any_step badPo L k hkL HA.out (by unfold badPo;rw [← LE.out];simp;omega))
      go_wp2
      go_round
      case rel=>exact⟨k+1,by omega,by go_num,HF.out⟩
      case measure=>simp [intOf];omega
   ·have HF:Hid (bigP L=false):=by unfold Hid bigP;rw [any_end badPo L k (by rw [← L1.out];exact hlt) HA.out,← L1.out];simp;omega
    go_wp2
    go_ret
    exact⟨ret_bool (by rw [HF.out];simp;try omega),Below.refl _ _⟩
 ·have b0:decide ((n:Int)≤40)=false:=by simp;omega
  have b0n:decide (n≤40)=false:=by simp;omega
  have HF:Hid (bigP L=true):=by unfold Hid bigP;rw [← L1.out];simp;omega
  go_enter Tryz.func48,Tryz.ntmps48
  go_wp2
  refine wp_loop_rounds 1 ?_
  rw [rounds_succ]
  go_wp2
  go_ret
  exact⟨ret_bool (by rw [HF.out];simp;try omega),Below.refl _ _⟩
end
section
open Go Go.RowKit
abbrev tA:ByteArray:=⟨#[97]⟩
abbrev tB:ByteArray:=⟨#[98]⟩
theorem aa:sLess tA tA=false:=sLess_irrefl _
theorem bb:sLess tB tB=false:=sLess_irrefl _
end
section
open Go Go.RowKit
theorem allS_len {L:List Po} (hok:PoOk L) (ws:List ByteArray):(allS L ws).length≤1000:=by
 rw [← allK_end (Nat.le_refl _)];exact allK_len hok ws _
theorem bigP_facts {L:List Po} (h:bigP L=false):L.length≤40∧∀ p∈L,p.1.size≤60∧p.2.length≤60:=by
 unfold bigP at h
 rw [Bool.or_eq_false_iff,Bool.and_eq_false_iff] at h
 have h1:L.length≤40:=by simpa using h.2
 refine⟨h1,fun p hp=>?_⟩
 have h2:L.any badPo=false:=by
  rcases h.1 with h3 | h3
  ·simp at h3;omega
  ·exact h3
 have:=List.any_eq_false.1 h2 p hp
 unfold badPo at this
 simp at this
 exact this
theorem poOk_of {L:List Po} (h:bigP L=false) (hI:∀ q∈L,∀ x∈q.2,I64 x):PoOk L:=fun p hp=>⟨by have:=((bigP_facts h).2 p hp).2;omega,hI p hp⟩
end
section
open Go Go.RowKit
def allX (L:List Po) (ws:List ByteArray):List Int:=if ws.length=0 then [] else allS L ws
def codeX (ws:List ByteArray):Int:=if ws.length=0 then 1 else 0
theorem codeX_0 {ws:List ByteArray} (h:ws.length=0):codeX ws=1:=by unfold codeX;rw [if_pos h]
theorem codeX_1 {ws:List ByteArray} (h:0<ws.length):codeX ws=0:=by unfold codeX;rw [if_neg (by omega)]
theorem allX_0 (L:List Po) {ws:List ByteArray} (h:ws.length=0):allX L ws=[]:=by unfold allX;rw [if_pos h]
theorem allX_1 (L:List Po) {ws:List ByteArray} (h:0<ws.length):allX L ws=allS L ws:=by unfold allX;rw [if_neg (by omega)]
theorem allX_len {L:List Po} (hok:PoOk L) (ws:List ByteArray):(allX L ws).length≤1000:=by
 unfold allX;split
 ·simp
 ·exact allS_len hok ws
theorem AllGx (p:Option Addr) (np cp:Nat) (hs:List Hd) (L:List Po) (pr:Option Addr) (nr cr:Nat) (ws:List ByteArray) (w:World) (hL:RdP w p np hs L) (hok:PoOk L) (hR:Rd w 1 pr nr (encS ws)) (hcr:nr≤cr) (hn:nr≤100):Calls Tryz.prog 115 #[.slice p np cp,.slice pr nr cr] w fun e w'=>∃ q c,e=.returned (.tuple #[.slice q (allX L ws).length c,.int .i64 (codeX ws)])∧Sep w w' [.own 3 1 q (allX L ws).length c (encI (allX L ws))]:=by
 have l1:=hR.nS
 rcases Nat.eq_zero_or_pos nr with h0 | h0
 ·subst h0
  rw [codeX_0 l1.symm,allX_0 L l1.symm]
  exact(AllGn p np cp pr cr w).mono fun e w' ⟨h1,h2⟩=>⟨none,0,h1,((Sep.start w).call h2).nilrow _ _⟩
 ·rw [codeX_1 (by omega),allX_1 L (by omega)]
  exact AllG p np cp hs L pr nr cr ws w hL hok hR hcr h0 hn
theorem All05x (p:Option Addr) (np cp:Nat) (hs:List Hd) (L:List Po) (pr:Option Addr) (nr cr:Nat) (ws:List ByteArray) (w:World) (hL:RdP w p np hs L) (hok:PoOk L) (hR:Rd w 1 pr nr (encS ws)) (hn:nr≤100):Calls Tryz.prog 122 #[.slice p np cp,.slice pr nr cr] w fun e w'=>∃ q c,e=.returned (.tuple #[.slice q (allX L ws).length c,.int .i64 (codeX ws)])∧Sep w w' [.own 3 1 q (allX L ws).length c (encI (allX L ws))]:=by
 have l1:=hR.nS
 rcases Nat.eq_zero_or_pos nr with h0 | h0
 ·subst h0
  rw [codeX_0 l1.symm,allX_0 L l1.symm]
  exact(All05n p np cp pr cr w).mono fun e w' ⟨h1,h2⟩=>⟨none,0,h1,((Sep.start w).call h2).nilrow _ _⟩
 ·rw [codeX_1 (by omega),allX_1 L (by omega)]
  exact All05 p np cp hs L pr nr cr ws w hL hok hR h0 hn
end
section
open Go Go.RowKit
def nearS (l:List Sq) (P:List Int) (most:Int):List (Int × Int):=firstN (hitS l P) most
theorem HitsG (k f t:Int) (pw:Option Addr) (nw cw:Nat) (ws:List ByteArray) (rad most:Int) (pp:Option Addr) (np cp:Nat) (hs:List Hd) (L:List Po) (p:Option Addr) (n c:Nat) (l:List Sq) (w:World) (hL:RdP w pp np hs L) (hok:PoOk L) (hw:Rd w 1 pw nw (encS ws)) (hcw:nw≤cw) (hnw:nw≤100) (hl:Rd w 4 p n (encQ l)) (hn:n≤1000) :
  Calls Tryz.prog 155 #[.agg #[.int .i64 k,.int .i64 f,.int .i64 t,.slice pw nw cw,.int .i64 rad,.int .i64 most],.slice pp np cp,.slice p n c] w fun e w'=>∃ q c',e=.returned (.agg #[.bool (decide (0<(nearS l (allX L ws) most).length)),.int .i64 0,.slice q (nearS l (allX L ws) most).length c'])∧Sep w w' [.own 105 2 q (nearS l (allX L ws) most).length c' (encE (nearS l (allX L ws) most))]:=by
 obtain⟨i0,hi0,hz0,hz1,hz2⟩:=info_parts infAh
 have p1:=hl.ptr
 have n1:=hl.small
 have L1:=Lib.hid hl.nQ
 have LW:=hw.nS
 have S0:=Lib.hid (((Sep.start w).al #[.int .i64 k,.int .i64 f,.int .i64 t,.slice pw nw cw,.int .i64 rad,.int .i64 most] 24 w.heap.size rfl).al #[.bool false,.int .i64 0,.slice none 0 0] 34 (w.heap.size+1) (by simp))
 have HA:=Lib.hid (fun W (h:Ext w W)=>AllGx pp np cp hs L pw nw cw ws W (hL.ext h) hok (hw.ext h) hcw hnw)
 have HPL:=Lib.hid (allX_len hok ws)
 have HL:=Lib.hid hl
 by_cases h0:ws.length=0
 ·have HF:Hid (nearS l (allX L ws) most=[]):=by
   unfold Hid nearS
   rw [allX_0 L h0]
   have:hitS l []=[]:=by unfold hitS;simp
   rw [this]
   have:=(firstN_len [] most).1
   exact List.eq_nil_of_length_eq_zero (by simpa using this)
  rw [codeX_0 h0] at HA
  rw [HF.out]
  clear hl hw hL hok h0 LW HF
  generalize allX L ws=P at *
  go_enter Tryz.func155,Tryz.ntmps155
  go_wp2_with (go_at_call 115;go_must (refine(HA.out _ S0.out.ext).mono ?_;rintro e w1 ⟨q1,c1,rfl,Z⟩;have S1:=Lib.hid (S0.out.comp Z);clear Z;obtain⟨b0,b1,b2,bz,f0,f1,f2⟩:=bkc0c1c2lz0z1z2 (S1.out.blk 1 rfl)))
  have S9:=Lib.hid (((S1.out.set 1 rfl 0 (.bool false)).set 1 rfl 1 (.int .i64 0)).set 1 rfl 2 (.slice none 0 0))
  obtain⟨x0,x1,x2⟩:=bkc0c1c2 (S9.out.blk 1 rfl)
  exact bodyPost_ret (v:=.agg #[.bool false,.int .i64 0,.slice none 0 0]) (by simp [results,Tryz.results155,go_sem,x0,x1,x2,Tryz.sizeOf34,Tryz.isAgg34]) rfl ⟨none,0,rfl,(S9.out.nilrow _ _).pick [0] (by decide) rfl⟩
 ·rw [codeX_1 (by omega)] at HA
  clear hl hw hL hok h0 LW
  unfold nearS
  generalize allX L ws=P at *
  obtain⟨F,hF⟩:∃ F,firstN (hitS l P) most=F:=⟨_,rfl⟩
  rw [hF]
  have HFI:=Lib.hid hF
  clear hF
  go_enter Tryz.func155,Tryz.ntmps155
  go_wp2_with (go_at_call 115;go_must (refine(HA.out _ S0.out.ext).mono ?_;rintro e w1 ⟨q1,c1,rfl,Z⟩;have S1:=Lib.hid (S0.out.comp Z);clear Z))
  have S3:=Lib.hid (S1.out.nilrow 105 2:Sep w w1 [.own 105 2 none 0 0 [],.own 3 1 q1 P.length c1 (encI P),.blk (w.heap.size+1) 34 #[.bool false,.int .i64 0,.slice none 0 0],.blk w.heap.size 24 #[.int .i64 k,.int .i64 f,.int .i64 t,.slice pw nw cw,.int .i64 rad,.int .i64 most]])
  clear S1 S0 HA
  go_loopw [9,11,24] (fun v _ i wr=>∃ (j:Nat) (q:Option Addr) (m d:Nat),j≤n∧i=.int .i64 j∧v=.slice q m d∧m≤j∧Sep w wr [.own 105 2 q m d (encE (hitS (l.take j) P)),.own 3 1 q1 P.length c1 (encI P),.blk (w.heap.size+1) 34 #[.bool false,.int .i64 0,.slice none 0 0],.blk w.heap.size 24 #[.int .i64 k,.int .i64 f,.int .i64 t,.slice pw nw cw,.int .i64 rad,.int .i64 most]]) (fun _ _ i _=>n - (intOf i).toNat)
  case atStart=>exact⟨0,none,0,0,Nat.zero_le _,rfl,rfl,Nat.le_refl _,S3.out⟩
  case round =>
   clear S3
   obtain⟨j,q,m,d,hj,rfl,rfl,hm,S⟩:=hrel
   by_cases hlt:j<n
   ·obtain⟨g1,g2,g3,g4⟩:=(HL.out.ext S.ext).cQ hlt
    have HT:=Lib.hid (take_succ_nth l j (by rw [← L1.out];exact hlt))
    have d1:(0:Int)≤j:=by omega
    have d2:(j:Int)<n:=by omega
    have SH:=Lib.hid S;clear S
    generalize nth l j=x at *
    have HS:=Lib.hid (hitS_snoc (l.take j) P x)
    rw [← HT.out] at HS
    have SX:=Lib.hid (SH.out.al #[.int .i64 x.s,.int .i64 x.r,.int .i64 x.v,.int .i64 x.d] 146 wr.heap.size rfl)
    have HCO:=Lib.hid (ContI q1 P.length c1 P x.v _ (SX.out.rdx 2 rfl))
    have HCN:Hid (inB P x.v=P.contains x.v):=by unfold Hid;rw [Bool.eq_iff_iff,inB_iff];simp
    by_cases hr:x.r=0
    ·have e1:(x.r == 0)=true:=by simpa using hr
     rw [e1,Bool.true_and,← HCN.out] at HS
     cases hin:inB P x.v with
     | true =>
      rw [hin] at HCO HS
      have HS2:Hid (hitS (l.take (j+1)) P=hitS (l.take j) P ++ [(x.v,x.d)]):=HS.out.trans (if_pos rfl)
      clear HS hr hin HCN
      go_wp2_with (first
       | (at_builtin;go_must (refine wpList_append_sep rfl _ _ _ rfl 105 i0 _ 2 16 Tryz.underlying32 hi0 hz0 hz1 hz2 rfl (by omega) (S2.out.junk _) 1 q m d _ rfl rfl _ 1 1 _ rfl (Rd.one2 _ _ _ _) (one_encE _) (by omega) (by omega) ?_;intro q7 d7 w7 S' hsz;have S7:=Lib.hid S';clear S' hsz))
       | (go_at_call 218;go_must (refine HCO.out.mono ?_;rintro e w2 ⟨rfl,hb⟩;have S2:=Lib.hid (SX.out.call hb);obtain⟨y2,y3,yz⟩:=bkc2c3l (S2.out.blk 0 rfl);clear hb)))
      go_roundw
      case rel=>exact⟨j+1,q7,m+1,d7,by omega,by go_num,rfl,by omega,by rw [HS2.out,encE_append];exact S7.out.pick [1,2,3,4] (by decide) rfl⟩
      case measure=>simp [intOf];omega
     | false =>
      rw [hin] at HCO HS
      have HS2:Hid (hitS (l.take (j+1)) P=hitS (l.take j) P):=HS.out.trans (if_neg (by simp))
      clear HS hr hin HCN
      go_wp2_with (go_at_call 218;go_must (refine HCO.out.mono ?_;rintro e w2 ⟨rfl,hb⟩;have S2:=Lib.hid (SX.out.call hb);clear hb))
      go_roundw
      case rel=>exact⟨j+1,q,m,d,by omega,by go_num,rfl,by omega,by rw [HS2.out];exact S2.out.pick [1,2,3,4] (by decide) rfl⟩
      case measure=>simp [intOf];omega
    ·have e1:(x.r == 0)=false:=by simpa using hr
     rw [e1,Bool.false_and] at HS
     have HS2:Hid (hitS (l.take (j+1)) P=hitS (l.take j) P):=HS.out.trans (if_neg (by simp))
     clear HS hr HCN HCO
     go_wp2
     go_roundw
     case rel=>exact⟨j+1,q,m,d,by omega,by go_num,rfl,by omega,by rw [HS2.out];exact SX.out.pick [1,2,3,4] (by decide) rfl⟩
     case measure=>simp [intOf];omega
   ·obtain rfl:j=n:=by omega
    rw [List.take_of_length_le (by rw [← L1.out];exact Nat.le_refl _)] at S
    obtain⟨a5,az⟩:=bkc5l (S.blk 3 rfl)
    have HFR:=Lib.hid (First10 q m d (hitS l P) most wr (S.rdx 0 rfl) (by omega))
    rw [HFI.out] at HFR
    have SH:=Lib.hid S;clear S
    go_wp2_with (go_at_call 191;go_must (refine HFR.out.mono ?_;rintro e w3 ⟨q3,d3,rfl,Z⟩;have S4:=Lib.hid (SH.out.comp Z);clear Z;obtain⟨b0,b1,b2,bz,f0,f1,f2⟩:=bkc0c1c2lz0z1z2 (S4.out.blk 3 rfl)))
    have S9:=Lib.hid (((S4.out.set 3 rfl 0 (.bool (decide (0<F.length)))).set 3 rfl 1 (.int .i64 0)).set 3 rfl 2 (.slice q3 F.length d3))
    obtain⟨x0,x1,x2⟩:=bkc0c1c2 (S9.out.blk 3 rfl)
    exact bodyPost_ret (v:=.agg #[.bool (decide (0<F.length)),.int .i64 0,.slice q3 F.length d3]) (by simp [results,Tryz.results155,go_sem,x0,x1,x2,Tryz.sizeOf34,Tryz.isAgg34]) rfl ⟨q3,d3,rfl,S9.out.pick [0] (by decide) rfl⟩
end
section
open Go Go.RowKit
attribute [local go_sem] Oper.semAt_some
theorem Near18 (k f t:Int) (pw:Option Addr) (nw cw:Nat) (ws:List ByteArray) (rad most:Int) (pp:Option Addr) (np cp:Nat) (hs:List Hd) (L:List Po) (p:Option Addr) (n c:Nat) (l:List Sq) (w:World) (hL:RdP w pp np hs L) (hok:PoOk L) (hw:Rd w 1 pw nw (encS ws)) (hnw:nw≤100) (hl:Rd w 4 p n (encQ l)) (hn:n≤1000) :
  Calls Tryz.prog 104 #[.agg #[.int .i64 k,.int .i64 f,.int .i64 t,.slice pw nw cw,.int .i64 rad,.int .i64 most],.slice pp np cp,.slice p n c] w fun e w'=>∃ q c',e=.returned (.agg #[.bool (decide (0<(nearS l (allX L ws) most).length)),.int .i64 0,.slice q (nearS l (allX L ws) most).length c'])∧Sep w w' [.own 105 2 q (nearS l (allX L ws) most).length c' (encE (nearS l (allX L ws) most))]:=by
 obtain⟨i0,hi0,hz0,hz1,hz2⟩:=info_parts infAh
 have p1:=hl.ptr
 have n1:=hl.small
 have L1:=Lib.hid hl.nQ
 have S0:=Lib.hid (((Sep.start w).al #[.int .i64 k,.int .i64 f,.int .i64 t,.slice pw nw cw,.int .i64 rad,.int .i64 most] 24 w.heap.size rfl).al #[.bool false,.int .i64 0,.slice none 0 0] 34 (w.heap.size+1) (by simp))
 have HA:=Lib.hid (fun W (h:Ext w W)=>All05x pp np cp hs L pw nw cw ws W (hL.ext h) hok (hw.ext h) hnw)
 have HL:=Lib.hid hl
 clear hl hw hL hok
 unfold nearS
 generalize codeX ws=cx at *
 generalize allX L ws=P at *
 obtain⟨F,hF⟩:∃ F,firstN (hitS l P) most=F:=⟨_,rfl⟩
 rw [hF]
 have HFI:=Lib.hid hF
 clear hF
 go_enter Tryz.func104,Tryz.ntmps104
 go_wp2_with (go_at_call 122;go_must (refine(HA.out _ S0.out.ext).mono ?_;rintro e w1 ⟨q1,c1,rfl,Z⟩;have S1:=Lib.hid (S0.out.comp Z);clear Z))
 have S3:=Lib.hid (S1.out.nilrow 105 2:Sep w w1 [.own 105 2 none 0 0 [],.own 3 1 q1 P.length c1 (encI P),.blk (w.heap.size+1) 34 #[.bool false,.int .i64 0,.slice none 0 0],.blk w.heap.size 24 #[.int .i64 k,.int .i64 f,.int .i64 t,.slice pw nw cw,.int .i64 rad,.int .i64 most]])
 clear S1 S0 HA
 go_loopw [9,10,11] (fun v i _ wr=>∃ (j:Nat) (q:Option Addr) (m d:Nat),j≤n∧i=.int .i64 j∧v=.slice q m d∧m≤j∧Sep w wr [.own 105 2 q m d (encE (hitS (l.take j) P)),.own 3 1 q1 P.length c1 (encI P),.blk (w.heap.size+1) 34 #[.bool false,.int .i64 0,.slice none 0 0],.blk w.heap.size 24 #[.int .i64 k,.int .i64 f,.int .i64 t,.slice pw nw cw,.int .i64 rad,.int .i64 most]]) (fun _ i _ _=>n - (intOf i).toNat)
 case atStart=>exact⟨0,none,0,0,Nat.zero_le _,rfl,rfl,Nat.le_refl _,S3.out⟩
 case round =>
  clear S3
  obtain⟨j,q,m,d,hj,rfl,rfl,hm,S⟩:=hrel
  by_cases hlt:j<n
  ·obtain⟨g1,g2,g3,g4⟩:=(HL.out.ext S.ext).cQ hlt
   have hpb:=(HL.out.ext S.ext).lt (by omega)
   have HT:=Lib.hid (take_succ_nth l j (by rw [← L1.out];exact hlt))
   have HD4:Hid (∀ W,Ext w W→W.cell? (adr p (j*4+3))=some (.int .i64 (nth l j).d)):=fun W h=>((HL.out.ext h).cQ hlt).2.2.2
   have d1:(0:Int)≤j:=by omega
   have d2:(j:Int)<n:=by omega
   have SH:=Lib.hid S;clear S
   generalize nth l j=x at *
   have HS:=Lib.hid (hitS_snoc (l.take j) P x)
   rw [← HT.out] at HS
   have SX:=Lib.hid (SH.out.al #[.int .i64 x.s,.int .i64 x.r,.int .i64 x.v] 136 wr.heap.size rfl)
   have HCO:=Lib.hid (In05 q1 P.length c1 P x.v _ (SX.out.rdx 2 rfl))
   have HCN:Hid (inB P x.v=P.contains x.v):=by unfold Hid;rw [Bool.eq_iff_iff,inB_iff];simp
   by_cases hr:x.r=0
   ·have e1:(x.r == 0)=true:=by simpa using hr
    rw [e1,Bool.true_and,← HCN.out] at HS
    cases hin:inB P x.v with
    | true =>
     rw [hin] at HCO HS
     have HS2:Hid (hitS (l.take (j+1)) P=hitS (l.take j) P ++ [(x.v,x.d)]):=HS.out.trans (if_pos rfl)
     clear HS hr hin HCN
     go_wp2_with (go_at_call 166;go_must (refine HCO.out.mono ?_;rintro e w2 ⟨rfl,rfl⟩))
     obtain⟨X,hX⟩:∃ X,X=wr.alloc (.cells #[.int .i64 x.s,.int .i64 x.r,.int .i64 x.v] 136):=⟨_,rfl⟩
     rw [← hX] at SX ⊢
     clear hX g1 g2 g3 g4 HCO
     have k2:X.cell? ⟨wr.heap.size,2,none⟩=some (.int .i64 x.v):=(SX.out.blk 0 rfl).cell 2
     refine wp_region_noPanic ?_
     refine wp_region_held_drew (S:=fun w'=>w'.cell? ⟨wr.heap.size,2,none⟩=some (.int .i64 x.v)∧w'.cell? (adr p (j*4+3))=some (.int .i64 x.d)) (by kernel_rfl) ⟨k2,HD4.out _ SX.out.drew.ext⟩ (fun hHeld=>?_)
     have SD:=Lib.hid SX.out.drew
     clear SX k2
     generalize X.drew=D at SD hHeld ⊢
     refine wpAnyH_take (i:=0) (v:=.slice q m d) rfl (by kernel_rfl) (by kernel_rfl) (by kernel_rfl) (noPanic_q _ _) (Or.inl ⟨by kernel_rfl,fun W hSw=>by obtain⟨h1,h2⟩:=hSw;go_simp⟩) hHeld ?_
     refine wpAnyH_take (i:=1) (v:=.pointer (some ⟨wr.heap.size,2,none⟩)) rfl (by kernel_rfl) (by kernel_rfl) (by kernel_rfl) (noPanic_q _ _) (Or.inl ⟨by kernel_rfl,fun W hSw=>by obtain⟨h1,h2⟩:=hSw;go_simp⟩) hHeld ?_
     refine wpAnyH_take (i:=2) (v:=.int .i64 x.v) rfl (by kernel_rfl) (by kernel_rfl) (by kernel_rfl) (noPanic_q _ _) (Or.inl ⟨by kernel_rfl,fun W hSw=>by obtain⟨h1,h2⟩:=hSw;go_simp⟩) hHeld ?_
     refine wpAnyH_take (i:=3) (v:=.slice p n c) rfl (by kernel_rfl) (by kernel_rfl) (by kernel_rfl) (noPanic_q _ _) (Or.inl ⟨by kernel_rfl,fun W hSw=>by obtain⟨h1,h2⟩:=hSw;go_simp⟩) hHeld ?_
     refine wpAnyH_take (i:=4) (v:=.int .i64 (j:Int)) rfl (by kernel_rfl) (by kernel_rfl) (by kernel_rfl) (noPanic_q _ _) (Or.inl ⟨by kernel_rfl,fun W hSw=>by obtain⟨h1,h2⟩:=hSw;go_simp⟩) hHeld ?_
     refine wpAnyH_take (i:=5) (v:=.pointer (some (adr p (j*4)))) rfl (by kernel_rfl) (by kernel_rfl) (by kernel_rfl) (noPanic_q _ _) (Or.inl ⟨by kernel_rfl,fun W hSw=>by obtain⟨h1,h2⟩:=hSw;go_simp⟩) hHeld ?_
     refine wpAnyH_take (i:=6) (v:=.pointer (some (adr p (j*4+3)))) rfl (by kernel_rfl) (by kernel_rfl) (by kernel_rfl) (noPanic_q _ _) (Or.inl ⟨by kernel_rfl,fun W hSw=>by obtain⟨h1,h2⟩:=hSw;go_simp⟩) hHeld ?_
     refine wpAnyH_take (i:=7) (v:=.int .i64 x.d) rfl (by kernel_rfl) (by kernel_rfl) (by kernel_rfl) (noPanic_q _ _) (Or.inl ⟨by kernel_rfl,fun W hSw=>by obtain⟨h1,h2⟩:=hSw;go_simp⟩) hHeld ?_
     refine wpAnyH_take (i:=8) (v:=.agg #[.int .i64 x.v,.int .i64 x.d]) rfl (by kernel_rfl) (by kernel_rfl) (by kernel_rfl) (noPanic_q _ _) (Or.inl ⟨by kernel_rfl,fun W hSw=>by obtain⟨h1,h2⟩:=hSw;go_simp⟩) hHeld ?_
     have SA:=Lib.hid (SD.out.alrw #[.int .i64 x.v,.int .i64 x.d] 105 2 1 D.heap.size rfl (by decide) rfl)
     obtain⟨q7,d7,w7,hrun,S'⟩:=SA.out.appended 2 32 32 105 i0 _ 2 16 Tryz.underlying32 hi0 hz0 hz1 hz2 rfl (by omega) q m d (encE (hitS (l.take j) P)) rfl (some ⟨D.heap.size,0,none⟩) 1 1 (encE [(x.v,x.d)]) (SA.out.rdx 0 rfl) (one_encE _) (by omega) (by omega)
     have S7:=Lib.hid S'
     refine wpAnyH_ready (rs:=[9]) (by kernel_rfl) (by simp) (AllReadyH.cons rfl (fun K hK=>?_) AllReadyH.nil)
     go_simp
     have hx9:=SA.out.ext
     refine hK.out _ _ ⟨(SA.out.blk 1 rfl).cell 2,HD4.out _ hx9⟩ (fun hHeld=>?_)
     clear hK
     refine wpAnyH_ready (rs:=[10]) (by kernel_rfl) (by simp) (AllReadyH.cons rfl (fun K hK=>?_) AllReadyH.nil)
     rw [if_pos (by rfl)]
     refine operwp_append (.tmp 40) (.tmp 49) 32 (by rfl) (by rfl) (by rfl) hrun ?_
     refine hK.out _ _ ⟨(S7.out.blk 1 rfl).cell 2,HD4.out _ S7.out.ext⟩ (fun hHeld=>?_)
     clear hK
     refine wpAnyH_take (i:=11) (v:=.slice q7 (m+1) d7) rfl (by kernel_rfl) (by kernel_rfl) (by kernel_rfl) (noPanic_q _ _) (Or.inl ⟨by kernel_rfl,fun W hSw=>by obtain⟨h1,h2⟩:=hSw;go_simp⟩) hHeld ?_
     refine wpAnyH_done (by kernel_rfl) ?_ _
     refine noPanic_mk ?_
     clear hHeld hrun S' hx9
     try simp [Act.put]
     go_wp2
     go_roundw
     case rel=>exact⟨j+1,q7,m+1,d7,by omega,by go_num,rfl,by omega,by rw [HS2.out,encE_append];exact S7.out.pick [2,3,4,5] (by decide) rfl⟩
     case measure=>simp [intOf];omega
    | false =>
     rw [hin] at HCO HS
     have HS2:Hid (hitS (l.take (j+1)) P=hitS (l.take j) P):=HS.out.trans (if_neg (by simp))
     clear HS hr hin HCN
     go_wp2_with (go_at_call 166;go_must (refine HCO.out.mono ?_;rintro e w2 ⟨rfl,rfl⟩))
     go_roundw
     case rel=>exact⟨j+1,q,m,d,by omega,by go_num,rfl,by omega,by rw [HS2.out];exact SX.out.pick [1,2,3,4] (by decide) rfl⟩
     case measure=>simp [intOf];omega
   ·have e1:(x.r == 0)=false:=by simpa using hr
    rw [e1,Bool.false_and] at HS
    have HS2:Hid (hitS (l.take (j+1)) P=hitS (l.take j) P):=HS.out.trans (if_neg (by simp))
    clear HS hr HCN HCO
    go_wp2
    go_roundw
    case rel=>exact⟨j+1,q,m,d,by omega,by go_num,rfl,by omega,by rw [HS2.out];exact SX.out.pick [1,2,3,4] (by decide) rfl⟩
    case measure=>simp [intOf];omega
  ·obtain rfl:j=n:=by omega
   rw [List.take_of_length_le (by rw [← L1.out];exact Nat.le_refl _)] at S
   obtain⟨a5,az⟩:=bkc5l (S.blk 3 rfl)
   have HFR:=Lib.hid (First10r q m d (hitS l P) most wr (S.rdx 0 rfl) (by omega))
   rw [HFI.out] at HFR
   have SH:=Lib.hid S;clear S
   go_wp2_with (go_at_call 73;go_must (refine HFR.out.mono ?_;rintro e w3 ⟨q3,d3,rfl,Z⟩;have S4:=Lib.hid (SH.out.comp Z);clear Z;obtain⟨b0,b1,b2,bz,f0,f1,f2⟩:=bkc0c1c2lz0z1z2 (S4.out.blk 3 rfl)))
   have S9:=Lib.hid (((S4.out.set 3 rfl 0 (.bool (decide (0<F.length)))).set 3 rfl 1 (.int .i64 0)).set 3 rfl 2 (.slice q3 F.length d3))
   obtain⟨x0,x1,x2⟩:=bkc0c1c2 (S9.out.blk 3 rfl)
   exact bodyPost_ret (v:=.agg #[.bool (decide (0<F.length)),.int .i64 0,.slice q3 F.length d3]) (by simp [results,Tryz.results104,go_sem,x0,x1,x2,Tryz.sizeOf34,Tryz.isAgg34]) rfl ⟨q3,d3,rfl,S9.out.pick [0] (by decide) rfl⟩
end
section
open Go Go.RowKit
theorem Done3 (f t:Int) (pw:Option Addr) (nw cw:Nat) (ws:List ByteArray) (rad most:Int) (pp:Option Addr) (np cp:Nat) (hs:List Hd) (L:List Po) (p:Option Addr) (n c:Nat) (l:List Sq) (pm:Option Addr) (nm cm:Nat) (w:World) (hL:RdP w pp np hs L) (hok:PoOk L) (hw:Rd w 1 pw nw (encS ws)) (hcw:nw≤cw) (hnw:nw≤100) (hl:Rd w 4 p n (encQ l)) (hn:n≤1000) (hm:nm=0) :
  Calls Tryz.prog 95 #[.agg #[.int .i64 3,.int .i64 f,.int .i64 t,.slice pw nw cw,.int .i64 rad,.int .i64 most],.slice pp np cp,.slice p n c,.slice pm nm cm] w fun e w'=>∃ q c',e=.returned (.tuple #[.agg #[.bool (decide (0<(nearS l (allX L ws) most).length)),.int .i64 0,.slice q (nearS l (allX L ws) most).length c'],.bool true])∧Sep w w' [.own 105 2 q (nearS l (allX L ws) most).length c' (encE (nearS l (allX L ws) most))]:=by
 have S0:=Lib.hid ((((Sep.start w).al #[.int .i64 3,.int .i64 f,.int .i64 t,.slice pw nw cw,.int .i64 rad,.int .i64 most] 24 w.heap.size rfl).al #[.slice pm nm cm] 83 (w.heap.size+1) (by simp)).al #[.bool false,.int .i64 0,.slice none 0 0] 34 (w.heap.size+1+1) (by simp))
 have HH:=Lib.hid (fun W (h:Ext w W)=>HitsG 3 f t pw nw cw ws rad most pp np cp hs L p n c l W (hL.ext h) hok (hw.ext h) hcw hnw (hl.ext h) hn)
 clear hL hok hw hl
 generalize nearS l (allX L ws) most=F at *
 subst hm
 go_enter Tryz.func95,Tryz.ntmps95
 go_wp2_with (go_at_call 155;go_must (refine(HH.out _ S0.out.ext).mono ?_;rintro e w1 ⟨q,d,rfl,Z⟩;have S1:=Lib.hid (S0.out.comp Z);clear Z;obtain⟨b0,b1,b2,bz,f0,f1,f2⟩:=bkc0c1c2lz0z1z2 (S1.out.blk 1 rfl)))
 have S9:=Lib.hid (((S1.out.set 1 rfl 0 (.bool (decide (0<F.length)))).set 1 rfl 1 (.int .i64 0)).set 1 rfl 2 (.slice q F.length d))
 obtain⟨x0,x1,x2⟩:=bkc0c1c2 (S9.out.blk 1 rfl)
 exact bodyPost_ret (v:=.tuple #[.agg #[.bool (decide (0<F.length)),.int .i64 0,.slice q F.length d],.bool true]) (by simp [results,Tryz.results95,go_sem,x0,x1,x2,Tryz.sizeOf34,Tryz.isAgg34]) rfl ⟨q,d,rfl,S9.out.pick [0] (by decide) rfl⟩
theorem Done3m (f t:Int) (pw:Option Addr) (nw cw:Nat) (rad most:Int) (pp:Option Addr) (np cp:Nat) (p:Option Addr) (n c:Nat) (pm:Option Addr) (nm cm:Nat) (w:World) (hm:0<nm) :
  Calls Tryz.prog 95 #[.agg #[.int .i64 3,.int .i64 f,.int .i64 t,.slice pw nw cw,.int .i64 rad,.int .i64 most],.slice pp np cp,.slice p n c,.slice pm nm cm] w fun e w'=>e=.returned (.tuple #[.agg #[.bool false,.int .i64 0,.slice none 0 0],.bool false])∧Ext w w':=by
 have S0:=Lib.hid ((((Sep.start w).al #[.int .i64 3,.int .i64 f,.int .i64 t,.slice pw nw cw,.int .i64 rad,.int .i64 most] 24 w.heap.size rfl).al #[.slice pm nm cm] 83 (w.heap.size+1) (by simp)).al #[.bool false,.int .i64 0,.slice none 0 0] 34 (w.heap.size+1+1) (by simp))
 have e1:decide ((0:Int)<(nm:Int))=true:=by simp;omega
 go_enter Tryz.func95,Tryz.ntmps95
 go_wp2
 have S9:=Lib.hid (((S0.out.set 0 rfl 0 (.bool false)).set 0 rfl 1 (.int .i64 0)).set 0 rfl 2 (.slice none 0 0))
 exact bodyPost_ret (v:=.tuple #[.agg #[.bool false,.int .i64 0,.slice none 0 0],.bool false]) (by simp [results,Tryz.results95,go_sem,Tryz.sizeOf34,Tryz.isAgg34]) rfl ⟨rfl,S0.out.ext⟩
end
section
open Go Go.RowKit
theorem eqHit9 (a b c d:Int) (w:World):(binOp .eql 105 (.agg #[.int .i64 a,.int .i64 b]) (.agg #[.int .i64 c,.int .i64 d])).run Tryz.prog w=.ok (.bool (eqE (a,b) (c,d))) w:=by
 have u3:=Tryz.underlying3
 have a3:=Tryz.isAgg3
 have z3:=Tryz.sizeOf3
 have hS:Tryz.prog.underlying 105=some (.struct (Tryz.prog.fieldsOf 105)):=by kernel_rfl
 have hp:Tryz.prog.stoodInHeld 105=false:=by kernel_rfl
 rw [run_eql_struct,show (10000:Nat)=9999+1 from rfl,run_equalIn_agg w 9999 105 _ _ hS hp]
 simp only [Program.fieldsOf,Tryz.underlying105]
 go_simp
 by_cases h1:a=c <;> by_cases h2:b=d <;> simp [h1,h2,eqE]
theorem neqHit9 (a b c d:Int) (w:World):(binOp .neq 105 (.agg #[.int .i64 a,.int .i64 b]) (.agg #[.int .i64 c,.int .i64 d])).run Tryz.prog w=.ok (.bool (!eqE (a,b) (c,d))) w:=by
 have h:=eqHit9 a b c d w
 rw [run_eql_struct] at h
 rw [run_neq_struct]
 generalize (Op.equalIn 10000 105 (.agg #[.int .i64 a,.int .i64 b]) (.agg #[.int .i64 c,.int .i64 d])).run Tryz.prog w=r at h ⊢
 cases r with
 | ok x w1=>simp only [Result.andThen_ok,Result.ok.injEq,Value.bool.injEq] at h ⊢;rw [h.1,h.2];simp
 | halt x w1=>simp [Result.andThen] at h
theorem guardHit9 (op:BinOp) (x y:Operand) (xs ys:Array Value) (w:World):(eqGuard op 105 x y (.agg xs) (.agg ys)).run Tryz.prog w=.ok () w:=run_eqGuard_agg w op 105 x y xs ys (by kernel_rfl)
attribute [local go_sem ↓] eqHit9 neqHit9 guardHit9
end
section
open Go Go.RowKit
theorem RDone1 (f t:Int) (pw:Option Addr) (nw cw:Nat) (rad most:Int) (pl:Option Addr) (nl cl:Nat) (p:Option Addr) (n c:Nat) (l:List Sq) (pm:Option Addr) (nm cm:Nat) (M:List Sq) (w:World) (hl:Rd w 4 p n (encQ l)) (hM:Rd w 4 pm nm (encQ M)) (hb:∀ x∈l,-1000000≤x.d∧x.d≤1000000) :
  Calls Tryz.prog 56 #[.agg #[.int .i64 1,.int .i64 f,.int .i64 t,.slice pw nw cw,.int .i64 rad,.int .i64 most],.slice pl nl cl,.slice p n c,.slice pm nm cm] w (DistQ l M w):=by
 have S0:=Lib.hid (((Sep.start w).al #[.int .i64 1,.int .i64 f,.int .i64 t,.slice pw nw cw,.int .i64 rad,.int .i64 most] 24 w.heap.size rfl).al #[.bool false,.int .i64 0,.slice none 0 0] 34 (w.heap.size+1) (by simp))
 have HD:=Lib.hid (fun W (h:Ext w W)=>Dist18 p n c l pm nm cm M W (hl.ext h) (hM.ext h) hb)
 clear hl hM hb
 go_enter Tryz.func56,Tryz.ntmps56
 go_wp2_with (go_at_call 103;go_must (refine(HD.out _ S0.out.ext).mono ?_;rintro e w1 ⟨b,d,rfl,hE,hA⟩;have HA:=Lib.hid hA;have S1:=Lib.hid (S0.out.call hE);clear hE hA;obtain⟨b0,b1,b2,bz,f0,f1,f2⟩:=bkc0c1c2lz0z1z2 (S1.out.blk 0 rfl)))
 have S9:=Lib.hid (((S1.out.set 0 rfl 0 (.bool b)).set 0 rfl 1 (.int .i64 d)).set 0 rfl 2 (.slice none 0 0))
 obtain⟨x0,x1,x2⟩:=bkc0c1c2 (S9.out.blk 0 rfl)
 exact bodyPost_ret (v:=.tuple #[.agg #[.bool b,.int .i64 d,.slice none 0 0],.bool (b || !hasD M 0 || !hasD M 1)]) (by simp [results,Tryz.results56,go_sem,x0,x1,x2,Tryz.sizeOf34,Tryz.isAgg34]) rfl (distQ_mk rfl S9.out.ext HA.out)
theorem RDone2 (f t:Int) (pw:Option Addr) (nw cw:Nat) (rad most:Int) (pl:Option Addr) (nl cl:Nat) (p:Option Addr) (n c:Nat) (l:List Sq) (pm:Option Addr) (nm cm:Nat) (w:World) (hl:Rd w 4 p n (encQ l)) :
  Calls Tryz.prog 56 #[.agg #[.int .i64 2,.int .i64 f,.int .i64 t,.slice pw nw cw,.int .i64 rad,.int .i64 most],.slice pl nl cl,.slice p n c,.slice pm nm cm] w fun e w'=>e=.returned (.tuple #[.agg #[.bool (atS l t),.int .i64 0,.slice none 0 0],.bool (atS l t || decide (nm=0))])∧Ext w w':=by
 have S0:=Lib.hid (((Sep.start w).al #[.int .i64 2,.int .i64 f,.int .i64 t,.slice pw nw cw,.int .i64 rad,.int .i64 most] 24 w.heap.size rfl).al #[.bool false,.int .i64 0,.slice none 0 0] 34 (w.heap.size+1) (by simp))
 have p1:=hl.ptr
 have n1:=hl.small
 have L1:=Lib.hid hl.nQ
 have HL:=Lib.hid hl
 clear hl
 go_enter Tryz.func56,Tryz.ntmps56
 go_wp2
 go_loopw [10] (fun i wr=>∃ j:Nat,j≤n∧i=.int .i64 j∧Hid ((l.take j).any (fun x=>x.r == 0 && x.v == t)=false)∧Sep w wr [.blk (w.heap.size+1) 34 #[.bool false,.int .i64 0,.slice none 0 0],.blk w.heap.size 24 #[.int .i64 2,.int .i64 f,.int .i64 t,.slice pw nw cw,.int .i64 rad,.int .i64 most]]) (fun i _=>n - (intOf i).toNat)
 case atStart=>exact⟨0,Nat.zero_le _,rfl,rfl,S0.out⟩
 case round =>
  clear S0
  obtain⟨j,hj,rfl,HA,S⟩:=hrel
  have a2:=(S.blk 1 rfl).cell 2
  by_cases hlt:j<n
  ·obtain⟨g1,g2,g3,g4⟩:=(HL.out.ext S.ext).cQ hlt
   have hjl:j<l.length:=by rw [← L1.out];exact hlt
   have HTA:=Lib.hid (any_true_at (fun x:Sq=>x.r == 0 && x.v == t) l j hjl)
   have HST:=Lib.hid (any_step (fun x:Sq=>x.r == 0 && x.v == t) l j hjl HA.out)
   have d1:(0:Int)≤j:=by omega
   have d2:(j:Int)<n:=by omega
   have SH:=Lib.hid S;clear S
   clear hjl
   generalize nth l j=x at *
   by_cases x1:x.r=0
   ·have e1:(x.r == 0)=true:=by simpa using x1
    by_cases x2:x.v=t
    ·have e2:(x.v == t)=true:=by simpa using x2
     have HF:Hid (atS l t=true):=HTA.out (by rw [e1,e2];rfl)
     clear HTA HST x1 x2
     go_wp2
     have z2:=fun x:ExtOf wr=>x.ext.cell g2
     have z3:=fun x:ExtOf wr=>x.ext.cell g3
     have z4:=fun x:ExtOf wr=>x.ext.cell a2
     refine wp_region_ext (by kernel_rfl) (by kernel_rfl) ?_
     repeat (go_big_quiet_step ((fail)))
     refine wpQuiet_nil ?_
     rintro w9 ⟨⟨_,hb9⟩,rfl⟩
     have S1:=Lib.hid (SH.out.call hb9)
     clear z2 z3 z4
     obtain⟨b0,b1,b2,bz,f0,f1,f2⟩:=bkc0c1c2lz0z1z2 (S1.out.blk 0 rfl)
     have S9:=Lib.hid (((S1.out.set 0 rfl 0 (.bool true)).set 0 rfl 1 (.int .i64 0)).set 0 rfl 2 (.slice none 0 0))
     obtain⟨x0,x1,x2⟩:=bkc0c1c2 (S9.out.blk 0 rfl)
     go_wp2
     exact bodyPost_ret (v:=.tuple #[.agg #[.bool true,.int .i64 0,.slice none 0 0],.bool true]) (by simp [results,Tryz.results56,go_sem,x0,x1,x2,Tryz.sizeOf34,Tryz.isAgg34]) rfl ⟨by rw [HF.out];rfl,S9.out.ext⟩
    ·have e2:(x.v == t)=false:=by simpa using x2
     have HF:=Lib.hid (HST.out (by rw [e1,e2];rfl))
     clear HTA HST x1 x2
     go_wp2
     have z2:=fun x:ExtOf wr=>x.ext.cell g2
     have z3:=fun x:ExtOf wr=>x.ext.cell g3
     have z4:=fun x:ExtOf wr=>x.ext.cell a2
     refine wp_region_ext (by kernel_rfl) (by kernel_rfl) ?_
     repeat (go_big_quiet_step ((fail)))
     refine wpQuiet_nil ?_
     rintro w9 ⟨⟨_,hb9⟩,rfl⟩
     have S1:=Lib.hid (SH.out.call hb9)
     clear z2 z3 z4
     go_wp2
     go_roundw
     case rel=>exact⟨j+1,by omega,by go_num,HF.out,S1.out⟩
     case measure=>simp [intOf];omega
   ·have e1:(x.r == 0)=false:=by simpa using x1
    have HF:=Lib.hid (HST.out (by rw [e1];rfl))
    clear HTA HST x1
    go_wp2
    have z2:=fun x:ExtOf wr=>x.ext.cell g2
    refine wp_region_ext (by kernel_rfl) (by kernel_rfl) ?_
    repeat (go_big_quiet_step ((fail)))
    refine wpQuiet_nil ?_
    rintro w9 ⟨⟨_,hb9⟩,rfl⟩
    have S1:=Lib.hid (SH.out.call hb9)
    clear z2
    go_wp2
    go_roundw
    case rel=>exact⟨j+1,by omega,by go_num,HF.out,S1.out⟩
    case measure=>simp [intOf];omega
  ·have HF:Hid (atS l t=false):=any_end _ _ _ (by rw [← L1.out];exact hlt) HA.out
   have HD:Hid (((nm:Int) == 0)=decide (nm=0)):=by unfold Hid;rw [Bool.eq_iff_iff];simp
   have S1:=Lib.hid S
   clear S a2
   obtain⟨b0,b1,b2,bz,f0,f1,f2⟩:=bkc0c1c2lz0z1z2 (S1.out.blk 0 rfl)
   have S9:=Lib.hid (((S1.out.set 0 rfl 0 (.bool false)).set 0 rfl 1 (.int .i64 0)).set 0 rfl 2 (.slice none 0 0))
   obtain⟨x0,x1,x2⟩:=bkc0c1c2 (S9.out.blk 0 rfl)
   go_wp2
   exact bodyPost_ret (v:=.tuple #[.agg #[.bool false,.int .i64 0,.slice none 0 0],.bool ((nm:Int) == 0)]) (by simp [results,Tryz.results56,go_sem,x0,x1,x2,Tryz.sizeOf34,Tryz.isAgg34]) rfl ⟨by rw [HF.out,HD.out];rfl,S9.out.ext⟩
theorem RDone3 (f t:Int) (pw:Option Addr) (nw cw:Nat) (ws:List ByteArray) (rad most:Int) (pp:Option Addr) (np cp:Nat) (hs:List Hd) (L:List Po) (p:Option Addr) (n c:Nat) (l:List Sq) (pm:Option Addr) (nm cm:Nat) (w:World) (hL:RdP w pp np hs L) (hok:PoOk L) (hw:Rd w 1 pw nw (encS ws)) (hnw:nw≤100) (hl:Rd w 4 p n (encQ l)) (hn:n≤1000) (hm:nm=0) :
  Calls Tryz.prog 56 #[.agg #[.int .i64 3,.int .i64 f,.int .i64 t,.slice pw nw cw,.int .i64 rad,.int .i64 most],.slice pp np cp,.slice p n c,.slice pm nm cm] w fun e w'=>∃ q c',e=.returned (.tuple #[.agg #[.bool (decide (0<(nearS l (allX L ws) most).length)),.int .i64 0,.slice q (nearS l (allX L ws) most).length c'],.bool true])∧Sep w w' [.own 105 2 q (nearS l (allX L ws) most).length c' (encE (nearS l (allX L ws) most))]:=by
 have S0:=Lib.hid (((Sep.start w).al #[.int .i64 3,.int .i64 f,.int .i64 t,.slice pw nw cw,.int .i64 rad,.int .i64 most] 24 w.heap.size rfl).al #[.bool false,.int .i64 0,.slice none 0 0] 34 (w.heap.size+1) (by simp))
 have HH:=Lib.hid (fun W (h:Ext w W)=>Near18 3 f t pw nw cw ws rad most pp np cp hs L p n c l W (hL.ext h) hok (hw.ext h) hnw (hl.ext h) hn)
 clear hL hok hw hl
 generalize nearS l (allX L ws) most=F at *
 subst hm
 go_enter Tryz.func56,Tryz.ntmps56
 go_wp2_with (go_at_call 104;go_must (refine(HH.out _ S0.out.ext).mono ?_;rintro e w1 ⟨q,d,rfl,Z⟩;have S1:=Lib.hid (S0.out.comp Z);clear Z;obtain⟨b0,b1,b2,bz,f0,f1,f2⟩:=bkc0c1c2lz0z1z2 (S1.out.blk 1 rfl)))
 have S9:=Lib.hid (((S1.out.set 1 rfl 0 (.bool (decide (0<F.length)))).set 1 rfl 1 (.int .i64 0)).set 1 rfl 2 (.slice q F.length d))
 obtain⟨x0,x1,x2⟩:=bkc0c1c2 (S9.out.blk 1 rfl)
 exact bodyPost_ret (v:=.tuple #[.agg #[.bool (decide (0<F.length)),.int .i64 0,.slice q F.length d],.bool true]) (by simp [results,Tryz.results56,go_sem,x0,x1,x2,Tryz.sizeOf34,Tryz.isAgg34]) rfl ⟨q,d,rfl,S9.out.pick [0] (by decide) rfl⟩
theorem RDone3m (f t:Int) (pw:Option Addr) (nw cw:Nat) (rad most:Int) (pp:Option Addr) (np cp:Nat) (p:Option Addr) (n c:Nat) (pm:Option Addr) (nm cm:Nat) (w:World) (hm:0<nm) :
  Calls Tryz.prog 56 #[.agg #[.int .i64 3,.int .i64 f,.int .i64 t,.slice pw nw cw,.int .i64 rad,.int .i64 most],.slice pp np cp,.slice p n c,.slice pm nm cm] w fun e w'=>e=.returned (.tuple #[.agg #[.bool false,.int .i64 0,.slice none 0 0],.bool false])∧Ext w w':=by
 have S0:=Lib.hid (((Sep.start w).al #[.int .i64 3,.int .i64 f,.int .i64 t,.slice pw nw cw,.int .i64 rad,.int .i64 most] 24 w.heap.size rfl).al #[.bool false,.int .i64 0,.slice none 0 0] 34 (w.heap.size+1) (by simp))
 have e1:decide ((0:Int)<(nm:Int))=true:=by simp;omega
 go_enter Tryz.func56,Tryz.ntmps56
 go_wp2
 exact bodyPost_ret (v:=.tuple #[.agg #[.bool false,.int .i64 0,.slice none 0 0],.bool false]) (by simp [results,Tryz.results56,go_sem,Tryz.sizeOf34,Tryz.isAgg34]) rfl ⟨rfl,S0.out.ext⟩
end
section
open Go Go.RowKit
def metB (st:List Sq):Bool:=st.any fun x=>st.any fun y=>x.r == 0 && (y.r == 1 && x.v == y.v)
theorem meetA_met {st:List Sq} {b:Bool} {d:Int} (h:MeetA st b d):b=metB st:=by
 have hm:metB st=true↔∃ z,PairD st z:=by
  unfold metB
  rw [List.any_eq_true]
  constructor
  ·rintro⟨x,hx,h2⟩
   rw [List.any_eq_true] at h2
   obtain⟨y,hy,h3⟩:=h2
   simp only [Bool.and_eq_true,beq_iff_eq] at h3
   exact⟨x.d+y.d,x,hx,y,hy,h3.1,h3.2.1,h3.2.2,rfl⟩
  ·rintro⟨z,x,hx,y,hy,h1,h2,h3,_⟩
   refine⟨x,hx,List.any_eq_true.2 ⟨y,hy,?_⟩⟩
   simp only [Bool.and_eq_true,beq_iff_eq]
   exact⟨h1,h2,h3⟩
 cases b with
 | false =>
  cases hb:metB st with
  | false=>rfl
  | true =>
   obtain⟨z,hz⟩:=hm.1 hb
   exact absurd hz ((h.1 rfl).2 z)
 | true=>exact(hm.2 ⟨d,(h.2 rfl).1⟩).symm
def doneB (k t:Int) (p:List Sq × List Sq):Bool:=if k=1 then metB p.1 || !hasD p.2 0 || !hasD p.2 1 else if k=2 then atS p.1 t || decide (p.2.length=0) else decide (p.2.length=0)
theorem hasD_iff18 {M:List Sq} {r:Int}:hasD M r=true↔∃ x∈M,x.r=r:=by
 unfold hasD
 rw [List.any_eq_true]
 constructor
 ·rintro⟨x,h1,h2⟩;exact⟨x,h1,by simpa using h2⟩
 ·rintro⟨x,h1,h2⟩;exact⟨x,h1,by simpa using h2⟩
theorem hasD_no {M:List Sq} {r:Int}:hasD M r=false↔¬ ∃ x∈M,x.r=r:=by rw [← hasD_iff18,Bool.not_eq_true]
section
variable {k rad most:Int} {O T R V:List Int} {n s t:Nat} (hck:checkR O T R V=true) (hn:O.length=n+1) (h200:n≤200) (hk:k=1∨k=2∨k=3) (hr3:k=3→0≤rad) (hs:s<n) (ht:k=1→t<n)
include hck hn h200 hk hr3 hs ht
omit hr3 in
theorem run_done:∃ m,m<n∧doneB k t (runM (nextL k rad true O T R V) (startQ k s t 0) (m+1))=true∧∀ j,j<m→doneB k t (runM (nextL k rad true O T R V) (startQ k s t 0) (j+1))=false:=by
 obtain⟨f1,f2,f3,f4,f5⟩:=start_facts (rad:=rad) (most:=rad) hk hs ht rfl rfl
 have hl:Leads n (nextL k rad true O T R V):=next_leads hck hn
 have hno:∀ r,hasD (runM (nextL k rad true O T R V) (startQ k s t 0) (n - 1+1)).2 r=false:=fun r=>by
  rw [hasD_no]
  intro h
  have:=run_ends hl f1 f2 r _ h
  omega
 have hd:doneB k t (runM (nextL k rad true O T R V) (startQ k s t 0) (n - 1+1))=true:=by
  have he:k≠1→(runM (nextL k rad true O T R V) (startQ k s t 0) (n - 1+1)).2.length=0:=fun h=>by
   refine List.length_eq_zero_iff.2 (List.eq_nil_iff_forall_not_mem.2 fun x hx=>?_)
   exact hasD_no.1 (hno 0) ⟨x,hx,run_out hck hn f1 f2 (f5 h) _ x hx⟩
  unfold doneB
  split
  ·rw [hno 0];simp
  ·rename_i h1
   split
   ·rw [he h1];simp
   ·rw [he h1];rfl
 obtain⟨m,h1,h2,h3⟩:=least_nat (p:=fun j=>doneB k t (runM (nextL k rad true O T R V) (startQ k s t 0) (j+1))) (n - 1) hd
 exact⟨m,by omega,h2,h3⟩
end
end
section
open Go Go.RowKit
def DoneQ (b:Bool) (d:Int) (F:List (Int × Int)) (dn:Bool) (w:World) (e:Ending) (w':World):Prop:=∃ q c',e=.returned (.tuple #[.agg #[.bool b,.int .i64 d,.slice q F.length c'],.bool dn])∧Sep w w' [.own 105 2 q F.length c' (encE F)]
theorem doneQ_nil {b:Bool} {d:Int} {dn:Bool} {w w':World} {e:Ending} (h:e=.returned (.tuple #[.agg #[.bool b,.int .i64 d,.slice none 0 0],.bool dn])) (hE:Ext w w'):DoneQ b d [] dn w e w':=⟨none,0,h,((Sep.start w).call hE).nilrow _ _⟩
theorem meet_ex (l:List Sq):∃ b d,MeetA l b d:=by
 have key:∀ m:Nat,∃ b d,SeenD l (fun a c=>a*l.length+c<m∧a<l.length∧c<l.length) b d:=by
  intro m
  induction m with
  | zero=>exact⟨false,0,fun _=>⟨rfl,fun i j s h=>by omega⟩,fun h=>by cases h⟩
  | succ m ih =>
   obtain⟨b,d,h⟩:=ih
   by_cases hn:l.length=0
   ·exact⟨b,d,seen_imp h fun a c h2=>by omega⟩
   ·have hq:∀ a c,(a*l.length+c<m+1∧a<l.length∧c<l.length)→(a=m / l.length∧c=m % l.length)∨(a*l.length+c<m∧a<l.length∧c<l.length):=by
     intro a c h2
     by_cases he:a*l.length+c=m
     ·left
      subst he
      have hpos:0<l.length:=by omega
      refine⟨?_,?_⟩
      ·rw [Nat.mul_comm,Nat.mul_add_div hpos,Nat.div_eq_of_lt h2.2.2];rfl
      ·rw [Nat.mul_comm,Nat.mul_add_mod,Nat.mod_eq_of_lt h2.2.2]
     ·right;omega
    by_cases hpa:∃ s,PairAt l (m / l.length) (m % l.length) s∧m / l.length<l.length
    ·obtain⟨s,hs,hlt⟩:=hpa
     have hmod:m % l.length<l.length:=Nat.mod_lt _ (by omega)
     by_cases hd:b=true→s≤d
     ·exact⟨true,s,seen_put h hlt hmod hq hs hd⟩
     ·refine⟨b,d,seen_skip h hq fun s' hs'=>?_⟩
      have hb:b=true:=by
       cases b with
       | true=>rfl
       | false=>exact absurd (fun e=>by cases e) hd
      have h1:=hs.2.2.2
      have h2:=hs'.2.2.2
      refine⟨hb,?_⟩
      have:¬ s≤d:=fun h3=>hd fun _=>h3
      omega
    ·have hq2:∀ a c,(a*l.length+c<m+1∧a<l.length∧c<l.length)→((a*l.length+c<m∧a<l.length∧c<l.length)∨(a=m / l.length∧c=m % l.length∧a<l.length)):=fun a c h2=>by
      rcases hq a c h2 with ⟨h3,h4⟩ | h3
      ·exact .inr ⟨h3,h4,h2.2.1⟩
      ·exact .inl h3
     refine⟨b,d,⟨fun hb=>⟨(h.1 hb).1,fun a c s hp hps=>?_⟩,fun hb=>⟨(h.2 hb).1,fun a c s hp hps=>?_⟩⟩⟩
     ·rcases hq2 a c hp with h3 | ⟨rfl,rfl,h5⟩
      ·exact(h.1 hb).2 a c s h3 hps
      ·exact hpa ⟨s,hps,h5⟩
     ·rcases hq2 a c hp with h3 | ⟨rfl,rfl,h5⟩
      ·exact(h.2 hb).2 a c s h3 hps
      ·exact absurd ⟨s,hps,h5⟩ hpa
 obtain⟨b,d,h⟩:=key (l.length*l.length)
 refine⟨b,d,seen_end (seen_imp h fun a c h2=>⟨?_,h2⟩)⟩
 have h3:a*l.length+l.length≤l.length*l.length:=by
  rw [← Nat.succ_mul];exact Nat.mul_le_mul_right _ h2.1
 omega
def AnsD (k t:Int) (L:List Po) (ws:List ByteArray) (most:Int) (p:List Sq × List Sq) (b:Bool) (d:Int) (F:List (Int × Int)):Prop :=
 (k=1→MeetA p.1 b d∧F=[])∧(k=2→b=atS p.1 t∧d=0∧F=[])∧(k=3→p.2.length=0→F=nearS p.1 (allX L ws) most∧b=decide (0<F.length)∧d=0)
theorem Done_run (k f t:Int) (pw:Option Addr) (nw cw:Nat) (ws:List ByteArray) (rad most:Int) (pp:Option Addr) (np cp:Nat) (hs:List Hd) (L:List Po) (p:Option Addr) (n c:Nat) (l:List Sq) (pm:Option Addr) (nm cm:Nat) (M:List Sq) (hk:k=1∨k=2∨k=3) (ht:I64 t) (hcw:nw≤cw) (hnw:nw≤100) (hok:PoOk L) (hi:∀ x∈l,x.I) (hb:∀ x∈l,-1000000≤x.d∧x.d≤1000000) (hn:n≤1000) :
  ∃ b d F,AnsD k t L ws most (l,M) b d F∧∀ w,RdP w pp np hs L→Rd w 1 pw nw (encS ws)→Rd w 4 p n (encQ l)→Rd w 4 pm nm (encQ M) →
   Calls Tryz.prog 95 #[.agg #[.int .i64 k,.int .i64 f,.int .i64 t,.slice pw nw cw,.int .i64 rad,.int .i64 most],.slice pp np cp,.slice p n c,.slice pm nm cm] w (DoneQ b d F (doneB k t (l,M)) w)∧Calls Tryz.prog 56 #[.agg #[.int .i64 k,.int .i64 f,.int .i64 t,.slice pw nw cw,.int .i64 rad,.int .i64 most],.slice pp np cp,.slice p n c,.slice pm nm cm] w (DoneQ b d F (doneB k t (l,M)) w):=by
 have hi2:∀ x∈l,I64 x.v∧I64 x.d:=fun x hx=>⟨(hi x hx).2.2.1,(hi x hx).2.2.2⟩
 rcases hk with rfl | rfl | rfl
 ·obtain⟨b,d,hA⟩:=meet_ex l
  have hdn:doneB 1 t (l,M)=(b || !hasD M 0 || !hasD M 1):=by unfold doneB;rw [if_pos rfl,← meetA_met hA]
  refine⟨b,d,[],⟨fun _=>⟨hA,rfl⟩,fun h=>absurd h (by decide),fun h=>absurd h (by decide)⟩,fun w hL hw hl hM=>?_⟩
  rw [hdn]
  refine⟨?_,?_⟩
  ·refine(Done1 f t pw nw cw rad most pp np cp p n c l pm nm cm M w hl hM hi2 hb (by omega)).mono ?_
   rintro e w' ⟨b',d',rfl,hE,hA'⟩
   obtain⟨rfl,rfl⟩:=meetA_uniq hA' hA
   exact doneQ_nil rfl hE
  ·refine(RDone1 f t pw nw cw rad most pp np cp p n c l pm nm cm M w hl hM hb).mono ?_
   rintro e w' ⟨b',d',rfl,hE,hA'⟩
   obtain⟨rfl,rfl⟩:=meetA_uniq hA' hA
   exact doneQ_nil rfl hE
 ·refine⟨atS l t,0,[],⟨fun h=>absurd h (by decide),fun _=>⟨rfl,rfl,rfl⟩,fun h=>absurd h (by decide)⟩,fun w hL hw hl hM=>?_⟩
  have hdn:doneB 2 t (l,M)=(atS l t || decide (nm=0)):=by unfold doneB;rw [if_neg (by decide),if_pos rfl,hM.nQ]
  rw [hdn]
  refine⟨?_,?_⟩
  ·exact(Done2 f t pw nw cw rad most pp np cp p n c l pm nm cm w hl hi2 (by omega) ht).mono fun e w' ⟨h,hE⟩=>doneQ_nil h hE
  ·exact(RDone2 f t pw nw cw rad most pp np cp p n c l pm nm cm w hl).mono fun e w' ⟨h,hE⟩=>doneQ_nil h hE
 ·by_cases h0:M.length=0
  ·refine⟨decide (0<(nearS l (allX L ws) most).length),0,nearS l (allX L ws) most,⟨fun h=>absurd h (by decide),fun h=>absurd h (by decide),fun _ _=>⟨rfl,rfl,rfl⟩⟩,fun w hL hw hl hM=>?_⟩
   have hm:=hM.nQ
   have hdn:doneB 3 t (l,M)=true:=by unfold doneB;rw [if_neg (by decide),if_neg (by decide)];exact decide_eq_true h0
   rw [hdn]
   refine⟨?_,?_⟩
   ·exact(Done3 f t pw nw cw ws rad most pp np cp hs L p n c l pm nm cm w hL hok hw hcw hnw hl hn (by omega)).mono fun e w' h=>h
   ·exact(RDone3 f t pw nw cw ws rad most pp np cp hs L p n c l pm nm cm w hL hok hw hnw hl hn (by omega)).mono fun e w' h=>h
  ·refine⟨false,0,[],⟨fun h=>absurd h (by decide),fun h=>absurd h (by decide),fun _ h=>absurd h h0⟩,fun w hL hw hl hM=>?_⟩
   have hm:=hM.nQ
   have hdn:doneB 3 t (l,M)=false:=by unfold doneB;rw [if_neg (by decide),if_neg (by decide)];exact decide_eq_false h0
   rw [hdn]
   refine⟨?_,?_⟩
   ·exact(Done3m f t pw nw cw rad most pp np cp p n c pm nm cm w (by omega)).mono fun e w' ⟨h,hE⟩=>doneQ_nil h hE
   ·exact(RDone3m f t pw nw cw rad most pp np cp p n c pm nm cm w (by omega)).mono fun e w' ⟨h,hE⟩=>doneQ_nil h hE
end
section
open Go Go.RowKit
theorem May14 (x:Sq) (w:World) (h:mayB x=true):Calls Tryz.prog 176 #[.agg #[.int .i64 x.s,.int .i64 x.r,.int .i64 x.v]] w fun e w'=>e=.returned (.bool true)∧Ext w w':=by
 obtain⟨h1,h2,h3,h4,h5,h6,h7⟩:=mayB_iff.1 h
 clear h h6 h7
 have c1:decide (0≤x.s)=true:=by simpa using h1
 have c2:decide (x.s≤1000)=true:=by simpa using h2
 have c4:decide (0≤x.v)=true:=by simpa using h4
 have c5:decide (x.v<200)=true:=by simpa using h5
 have S0:=Lib.hid ((Sep.start w).al #[.int .i64 x.s,.int .i64 x.r,.int .i64 x.v] 136 w.heap.size rfl)
 by_cases hr:x.r=0
 ·have c3:(x.r == 0)=true:=by simpa using hr
  clear h3 hr
  go_enter Tryz.func176,Tryz.ntmps176
  go_wp2
  go_ret
  exact⟨rfl,S0.out.ext⟩
 ·have c3:(x.r == 0)=false:=by simpa using hr
  have c8:(x.r == 1)=true:=by simp;omega
  clear h3 hr
  go_enter Tryz.func176,Tryz.ntmps176
  go_wp2
  go_ret
  exact⟨rfl,S0.out.ext⟩
theorem Less14 (a b:Sq) (w:World):Calls Tryz.prog 159 #[.agg #[.int .i64 a.s,.int .i64 a.r,.int .i64 a.v],.agg #[.int .i64 b.s,.int .i64 b.r,.int .i64 b.v]] w fun e w'=>e=.returned (.bool (keyLt a b))∧Ext w w':=by
 have S0:=Lib.hid (((Sep.start w).al #[.int .i64 a.s,.int .i64 a.r,.int .i64 a.v] 136 w.heap.size rfl).al #[.int .i64 b.s,.int .i64 b.r,.int .i64 b.v] 136 (w.heap.size+1) (by simp))
 by_cases h1:a.s<b.s
 ·have c1:decide (a.s<b.s)=true:=by simpa using h1
  have HF:Hid (true=keyLt a b):=by unfold Hid keyLt;rw [c1];rfl
  clear h1
  go_enter Tryz.func159,Tryz.ntmps159
  go_wp2
  go_ret
  exact⟨ret_bool HF.out,S0.out.ext⟩
 ·have c1:decide (a.s<b.s)=false:=by simpa using h1
  clear h1
  by_cases h2:a.s=b.s
  ·have c2:(a.s == b.s)=true:=by simpa using h2
   clear h2
   by_cases h3:a.r<b.r
   ·have c3:decide (a.r<b.r)=true:=by simpa using h3
    have HF:Hid (true=keyLt a b):=by unfold Hid keyLt;rw [c1,c2,c3];rfl
    clear h3
    go_enter Tryz.func159,Tryz.ntmps159
    go_wp2
    go_ret
    exact⟨ret_bool HF.out,S0.out.ext⟩
   ·have c3:decide (a.r<b.r)=false:=by simpa using h3
    clear h3
    by_cases h4:a.r=b.r
    ·have c4:(a.r == b.r)=true:=by simpa using h4
     have HF:Hid (decide (a.v<b.v)=keyLt a b):=by unfold Hid keyLt;rw [c1,c2,c3,c4];rfl
     clear h4
     go_enter Tryz.func159,Tryz.ntmps159
     go_wp2
     go_ret
     exact⟨ret_bool HF.out,S0.out.ext⟩
    ·have c4:(a.r == b.r)=false:=by simpa using h4
     have HF:Hid (false=keyLt a b):=by unfold Hid keyLt;rw [c1,c2,c3,c4];rfl
     clear h4
     go_enter Tryz.func159,Tryz.ntmps159
     go_wp2
     go_ret
     exact⟨ret_bool HF.out,S0.out.ext⟩
  ·have c2:(a.s == b.s)=false:=by simpa using h2
   have HF:Hid (false=keyLt a b):=by unfold Hid keyLt;rw [c1,c2];rfl
   clear h2
   go_enter Tryz.func159,Tryz.ntmps159
   go_wp2
   go_ret
   exact⟨ret_bool HF.out,S0.out.ext⟩
theorem May15 (x:Sq) (w:World) (h:mayB x=true):Calls Tryz.prog 110 #[.agg #[.int .i64 x.s,.int .i64 x.r,.int .i64 x.v,.int .i64 x.d]] w fun e w'=>e=.returned (.bool true)∧Ext w w':=by
 obtain⟨h1,h2,h3,h4,h5,h6,h7⟩:=mayB_iff.1 h
 have c6:decide (0≤x.d)=true:=by simpa using h6
 have c7:decide (x.d≤200)=true:=by simpa using h7
 have HM:=Lib.hid (fun W=>May14 x W h)
 clear h h1 h2 h3 h4 h5 h6 h7
 have S0:=Lib.hid ((Sep.start w).al #[.int .i64 x.s,.int .i64 x.r,.int .i64 x.v,.int .i64 x.d] 146 w.heap.size rfl)
 go_enter Tryz.func110,Tryz.ntmps110
 go_wp2_with (go_at_call 176;go_must (refine(HM.out _).mono ?_;rintro e w1 ⟨rfl,hb⟩;have S1:=Lib.hid (S0.out.call hb);obtain⟨b0,b1,b2,b3,bz⟩:=bkc0c1c2c3l (S1.out.blk 0 rfl);clear hb))
 go_ret
 exact⟨rfl,S1.out.ext⟩
theorem May16r (x:Sq) (w:World) (h:mayB x=true):Calls Tryz.prog 160 #[.agg #[.int .i64 x.s,.int .i64 x.r,.int .i64 x.v,.int .i64 x.d]] w fun e w'=>e=.returned (.bool true)∧Ext w w':=by
 obtain⟨h1,h2,h3,h4,h5,h6,h7⟩:=mayB_iff.1 h
 have c6:decide (0≤x.d)=true:=by simpa using h6
 have c7:decide (x.d≤200)=true:=by simpa using h7
 have HM:=Lib.hid (fun W=>May14 x W h)
 clear h h1 h2 h3 h4 h5 h6 h7
 have S0:=Lib.hid ((Sep.start w).al #[.int .i64 x.s,.int .i64 x.r,.int .i64 x.v,.int .i64 x.d] 138 w.heap.size rfl)
 go_enter Tryz.func160,Tryz.ntmps160
 go_wp2_with (go_at_call 176;go_must (refine(HM.out _).mono ?_;rintro e w1 ⟨rfl,hb⟩;have S1:=Lib.hid (S0.out.call hb);obtain⟨b0,b1,b2,b3,bz⟩:=bkc0c1c2c3l (S1.out.blk 0 rfl);clear hb))
 go_ret
 exact⟨rfl,S1.out.ext⟩
theorem Check16r (p:Option Addr) (n c:Nat) (l:List Sq) (w:World) (hl:Rd w 4 p n (encQ l)) (hm:∀ x∈l,mayB x=true) :
  Calls Tryz.prog 98 #[.slice p n c] w fun e w'=>e=.returned (.bool true)∧Ext w w':=by
 have p1:=hl.ptr
 have n1:=hl.small
 have L1:=Lib.hid hl.nQ
 have HM:=Lib.hid hm
 clear hm
 have HL:=Lib.hid hl;clear hl
 go_enter Tryz.func98,Tryz.ntmps98
 go_wp2
 go_loopw [3] (fun i wr=>∃ k:Nat,k≤n∧i=.int .i64 k∧Ext w wr) (fun i _=>n - (intOf i).toNat)
 case atStart=>exact⟨0,Nat.zero_le _,rfl,Below.refl _ _⟩
 case round =>
  obtain⟨k,hk,rfl,hE⟩:=hrel
  by_cases hlt:k<n
  ·obtain⟨g1,g2,g3,g4⟩:=(HL.out.ext hE).cQ hlt
   have hx:=HM.out (nth l k) (by rw [nth_eq (by rw [← L1.out];exact hlt)];exact List.getElem_mem _)
   obtain⟨x,hxl⟩:∃ x,nth l k=x:=⟨_,rfl⟩
   rw [hxl] at g1 g2 g3 g4 hx
   have HC:=Lib.hid (fun W=>May16r x W hx)
   have HE:=Lib.hid hE
   have d1:(0:Int)≤k:=by omega
   have d2:(k:Int)<n:=by omega
   clear hxl hE hx
   go_wp2_with (go_at_call 160;go_must (refine(HC.out _).mono ?_;rintro e w' ⟨rfl,hb⟩;have HX:=Lib.hid (Ext.trans HE.out hb);clear hb))
   go_roundw
   case rel=>exact⟨k+1,by omega,by go_num,HX.out⟩
   case measure=>simp [intOf];omega
  ·have HE:=Lib.hid hE
   clear hE
   go_wp2
   go_ret
   exact⟨rfl,HE.out⟩
theorem Right19 (p:Option Addr) (n c:Nat) (l:List Sq) (w:World) (hl:Rd w 4 p n (encQ l)) (hu:KeysUp l) (hm:∀ x∈l,mayB x=true) (hn:n≤100000) :
  Calls Tryz.prog 97 #[.slice p n c] w fun e w'=>e=.returned (.bool true)∧Ext w w':=by
 have p1:=hl.ptr
 have n1:=hl.small
 have L1:=Lib.hid hl.nQ
 have HM:=Lib.hid hm
 have HU:=Lib.hid hu
 have HL:=Lib.hid hl
 clear hl hm hu
 go_enter Tryz.func97,Tryz.ntmps97
 go_wp2
 go_loopw [3] (fun i wr=>∃ k:Nat,k≤n∧i=.int .i64 k∧Ext w wr) (fun i _=>n - (intOf i).toNat)
 case atStart=>exact⟨0,Nat.zero_le _,rfl,Below.refl _ _⟩
 case round =>
  obtain⟨k,hk,rfl,hE⟩:=hrel
  have HE:=Lib.hid hE
  clear hE
  by_cases hlt:k<n
  ·obtain⟨g1,g2,g3,g4⟩:=(HL.out.ext HE.out).cQ hlt
   have hkl:k<l.length:=by rw [← L1.out];exact hlt
   have hx:=HM.out (nth l k) (by rw [nth_eq hkl];exact List.getElem_mem _)
   obtain⟨x,hxl⟩:∃ x,nth l k=x:=⟨_,rfl⟩
   rw [hxl] at g1 g2 g3 g4 hx
   have HC:=Lib.hid (fun W=>May15 x W hx)
   have d1:(0:Int)≤k:=by omega
   have d2:(k:Int)<n:=by omega
   have HXL:=Lib.hid hxl
   clear hx hxl
   by_cases hk0:k=0
   ·subst hk0
    clear HXL hkl
    go_wp2
    have u0:=fun x:ExtOf wr=>x.ext.cell g1
    have u1:=fun x:ExtOf wr=>x.ext.cell g2
    have u2:=fun x:ExtOf wr=>x.ext.cell g3
    have u3:=fun x:ExtOf wr=>x.ext.cell g4
    refine wp_region_ext (by kernel_rfl) (by kernel_rfl) ?_
    repeat (go_big_quiet_step (((go_at_call 110;exact Calls.ext_of (HC.out _)))))
    refine wpQuiet_nil ?_
    rintro w9 ⟨⟨_,hb9⟩,rfl⟩
    have HX:=Lib.hid (Ext.trans HE.out hb9)
    clear hb9
    go_wp2
    go_roundw
    case rel=>exact⟨1,by omega,by go_num,HX.out⟩
    case measure=>simp [intOf];omega
   ·obtain⟨j,hj⟩:∃ j,k=j+1:=⟨k - 1,by omega⟩
    have q1:(k:Int) - 1=(j:Int):=by omega
    have q2:(0:Int)≤(j:Int):=by omega
    have q3:(j:Int)≤100000:=by omega
    have q4:(j:Int)<n:=by omega
    have q5:(0:Int)<(k:Int):=by omega
    have q6:decide ((0:Int)<(k:Int))=true:=by simpa using q5
    have q7:decide (0<k)=true:=by simp;omega
    have hjl:j<l.length:=by omega
    have hkj:keyLt (nth l j) (nth l k)=true:=by
     rw [nth_eq hjl,nth_eq hkl]
     exact(List.pairwise_iff_getElem.1 HU.out) j k hjl hkl (by omega)
    rw [HXL.out] at hkj
    have HCC:=Lib.hid (fun W=>Less14 (nth l j) x W)
    rw [hkj] at HCC
    obtain⟨y1,y2,y3,y4⟩:=(HL.out.ext HE.out).cQ (k:=j) (by omega)
    have hjn:j<n:=by omega
    clear hkj HXL hkl hjl hj hk0 y4
    generalize nth l j=y at *
    go_wp2
    have u0:=fun x:ExtOf wr=>x.ext.cell g1
    have u1:=fun x:ExtOf wr=>x.ext.cell g2
    have u2:=fun x:ExtOf wr=>x.ext.cell g3
    have u3:=fun x:ExtOf wr=>x.ext.cell g4
    have v1:=fun x:ExtOf wr=>x.ext.cell y1
    have v2:=fun x:ExtOf wr=>x.ext.cell y2
    have v3:=fun x:ExtOf wr=>x.ext.cell y3
    refine wp_region_ext (by kernel_rfl) (by kernel_rfl) ?_
    repeat (go_big_quiet_step (((first | (go_at_call 110;exact Calls.ext_of (HC.out _)) | (go_at_call 159;exact Calls.ext_of (HCC.out _))))))
    refine wpQuiet_nil ?_
    rintro w9 ⟨⟨_,hb9⟩,rfl⟩
    have HX:=Lib.hid (Ext.trans HE.out hb9)
    clear hb9
    go_wp2
    go_roundw
    case rel=>exact⟨k+1,by omega,by go_num,HX.out⟩
    case measure=>simp [intOf];omega
  ·go_wp2
   go_ret
   exact⟨rfl,HE.out⟩
theorem Within19 (p:Option Addr) (n c:Nat) (l:List Sq) (pm:Option Addr) (nm cm:Nat) (M:List Sq) (N:Int) (w:World) (hl:Rd w 4 p n (encQ l)) (hM:Rd w 4 pm nm (encQ M)) (h1:∀ x∈l,x.v<N) (h2:∀ x∈M,x.v<N) :
  Calls Tryz.prog 99 #[.slice p n c,.slice pm nm cm,.int .i64 N] w fun e w'=>e=.returned (.bool true)∧Ext w w':=by
 have p1:=hl.ptr
 have n1:=hl.small
 have p2:=hM.ptr
 have n2:=hM.small
 have L1:=Lib.hid hl.nQ
 have L2:=Lib.hid hM.nQ
 have H1:=Lib.hid h1
 have H2:=Lib.hid h2
 clear h1 h2
 have HL:=Lib.hid hl;clear hl
 have HM:=Lib.hid hM;clear hM
 go_enter Tryz.func99,Tryz.ntmps99
 go_wp2
 go_loopw [7] (fun i wr=>∃ k:Nat,k≤n∧i=.int .i64 k∧Ext w wr) (fun i _=>n - (intOf i).toNat)
 case atStart=>exact⟨0,Nat.zero_le _,rfl,Below.refl _ _⟩
 case round =>
  obtain⟨k,hk,rfl,hE⟩:=hrel
  have HE:=Lib.hid hE
  by_cases hlt:k<n
  ·obtain⟨_,_,g3,_⟩:=(HL.out.ext hE).cQ hlt
   have hx:=H1.out (nth l k) (by rw [nth_eq (by rw [← L1.out];exact hlt)];exact List.getElem_mem _)
   generalize nth l k=x at *
   have e1:decide (N≤x.v)=false:=by simpa using hx
   have d1:(0:Int)≤k:=by omega
   have d2:(k:Int)<n:=by omega
   clear hE hx
   go_wp2
   go_roundw
   case rel=>exact⟨k+1,by omega,by go_num,HE.out⟩
   case measure=>simp [intOf];omega
  ·clear hE
   go_wp2
   go_loopw [8] (fun i wr=>∃ k:Nat,k≤nm∧i=.int .i64 k∧Ext w wr) (fun i _=>nm - (intOf i).toNat)
   case atStart=>exact⟨0,Nat.zero_le _,rfl,HE.out⟩
   case round =>
    clear HE
    obtain⟨j,hj,rfl,hE⟩:=hrel
    have HE:=Lib.hid hE
    by_cases hlt2:j<nm
    ·obtain⟨_,_,g3,_⟩:=(HM.out.ext hE).cQ hlt2
     have hx:=H2.out (nth M j) (by rw [nth_eq (by rw [← L2.out];exact hlt2)];exact List.getElem_mem _)
     generalize nth M j=x at *
     have e1:decide (N≤x.v)=false:=by simpa using hx
     have d1:(0:Int)≤j:=by omega
     have d2:(j:Int)<nm:=by omega
     clear hE hx
     go_wp2
     go_roundw
     case rel=>exact⟨j+1,by omega,by go_num,HE.out⟩
     case measure=>simp [intOf];omega
    ·clear hE
     go_wp2
     go_ret
     exact⟨rfl,HE.out⟩
end
section
open Go Go.RowKit
theorem Home06 (v:Int) (n:Nat) (w:World) (h0:0≤v) (h1:v≤1000000) (hn:1≤n) (h16:n≤16) :
  Calls Tryz.prog 111 #[.int .i64 v,.int .i64 n] w fun e w'=>e=.returned (.tuple #[.int .i64 (homeV v n),.bool true])∧w=w':=by
 have E1:=Lib.hid (homeV_val (v:=v) hn)
 have d1:(1:Int)≤(n:Int):=by omega
 have d2:(n:Int)≤16:=by omega
 have c1:decide (v<0)=false:=by simpa using h0
 have c2:decide (1000000<v)=false:=by simpa using h1
 have c3:decide ((n:Int)<1)=false:=by simpa using d1
 have c4:decide (16<(n:Int))=false:=by simpa using d2
 go_enter Tryz.func111,Tryz.ntmps111
 go_wp2
 go_ret2
 refine⟨?_,rfl⟩
 show Ending.returned (.tuple #[.int .i64 ((v*40503+12345) % 65536 % (n:Int)),.bool true])=_
 rw [E1.out]
theorem cntH_le (st:List Sq) (w h:Nat):cntH st w h≤st.length:=List.length_filter_le _ _
theorem EachG (p:Option Addr) (n c:Nat) (l:List Sq) (wk:Nat) (w:World) (hl:Rd w 4 p n (encQ l)) (hm:∀ x∈l,mayB x=true) (h1:1≤wk) (h16:wk≤16) (hn:n≤100000) :
  Calls Tryz.prog 64 #[.slice p n c,.int .i64 wk] w fun e w'=>∃ q,e=.returned (.tuple #[.slice q wk wk,.int .i64 0])∧Sep w w' [.own 3 1 q wk wk (encI (eachL l wk))]:=by
 obtain⟨j0,ji0,jz0,jz1,jz2⟩:=info_parts infI
 have p1:=hl.ptr
 have n1:=hl.small
 have L1:=Lib.hid hl.nQ
 have HM:=Lib.hid hm
 have HL:=Lib.hid hl
 have HMY:=Lib.hid (fun (x:Sq) (hx:mayB x=true) W=>stMayG x W hx)
 have HH:=Lib.hid (fun (v:Int) W (a:0≤v) (b:v≤1000000)=>HomeG v wk W a b h1 h16)
 clear hl hm
 go_enter Tryz.func64,Tryz.ntmps64
 go_wp2_with (first
  | (at_make;go_must (refine wpList_make_sep rfl _ _ _ rfl 3 j0 _ 1 Tryz.underlying25 ji0 jz0 jz1 (wk:Int) wk rfl rfl rfl (by rw [jz2];omega) (by unfold maxLen;omega) (Sep.start w) ?_;intro w2 S';rw [made_encI,← eachL_nil] at S';have S2:=Lib.hid S';clear S'))
  | (go_at_call 50;go_must (refine(HH.out 0 _ (by omega) (by omega)).mono ?_;rintro e w1 ⟨rfl,rfl⟩)))
 generalize (some ⟨w.heap.size,0,none⟩:Option Addr)=q at *
 go_loopw [10,11,12,24] (fun _ _ _ i wr=>∃ (k:Nat),k≤n∧i=.int .i64 k∧Sep w wr [.own 3 1 q wk wk (encI (eachL (l.take k) wk))]) (fun _ _ _ i _=>n - (intOf i).toNat)
 case atStart=>exact⟨0,Nat.zero_le _,rfl,S2.out⟩
 case round =>
  clear S2
  obtain⟨k,hk,rfl,S⟩:=hrel
  by_cases hlt:k<n
  ·obtain⟨g1,g2,g3,g4⟩:=(HL.out.ext S.ext).cQ hlt
   have hkl:k<l.length:=by(rw [← L1.out];exact hlt)
   have hx:=HM.out (nth l k) (nth_mem hkl)
   have HT:=Lib.hid (take_succ_nth l k hkl)
   obtain⟨x,hxl⟩:∃ x,nth l k=x:=⟨_,rfl⟩
   rw [hxl] at g1 g2 g3 g4 hx HT
   obtain⟨m1,m2,m3,m4,m5,m6,m7⟩:=mayB_iff.1 hx
   have hhw:homeV x.v wk<wk:=homeV_lt (by omega)
   have HES:=Lib.hid (eachL_snoc (st:=l.take k) (x:=x) (w:=wk))
   have HHX:=Lib.hid (fun W=>HH.out x.v W m4 (by omega))
   have HC:=Lib.hid (fun W=>HMY.out x hx W)
   have HNT:=Lib.hid (eachL_nth (st:=l.take k) hhw)
   have hcn:=cntH_le (l.take k) wk (homeV x.v wk)
   rw [List.length_take] at hcn
   obtain⟨h,hhe⟩:∃ h,homeV x.v wk=h:=⟨_,rfl⟩
   rw [hhe] at HHX hhw HES HNT hcn
   obtain⟨cn,hce⟩:∃ cn,cntH (l.take k) wk h=cn:=⟨_,rfl⟩
   rw [hce] at HES HNT hcn
   have cn1:(0:Int)≤(cn:Int):=by omega
   have cn2:(cn:Int)≤100000:=by omega
   have d1:(0:Int)≤h:=by omega
   have d2:(h:Int)<wk:=by omega
   have dk1:(0:Int)≤k:=by omega
   have dk2:(k:Int)<n:=by omega
   have pq:=(S.rdx 0 rfl).ptr
   have SH:=Lib.hid S
   have HXL:=Lib.hid hxl
   clear hx hxl hkl hhe hce hcn m1 m2 m3 m4 m5 m6 m7 S
   have S1:=Lib.hid (SH.out.al #[.int .i64 x.s,.int .i64 x.r,.int .i64 x.v,.int .i64 x.d] 146 wr.heap.size rfl)
   go_wp2_with (first
    | (go_at_call 109;have _t:=S1;go_must (refine(HC.out _).mono ?_;rintro e w4 ⟨rfl,hb⟩;have S2:=Lib.hid (S1.out.call hb);have fz:=own_frozen (S2.out.own 1 rfl) (by omega) h;have k1:=(S2.out.rdx 1 rfl).cI (k:=h) (by omega);rw [HNT.out] at k1;clear hb))
    | (go_at_call 50;go_must (refine(HHX.out _).mono ?_;rintro e w3 ⟨rfl,rfl⟩)))
   have S3:=Lib.hid (S2.out.setRow 1 rfl h (by omega) (.int .i64 ((cn:Int)+1)))
   go_roundw
   case rel=>exact⟨k+1,by omega,by go_num,by rw [HT.out,HES.out,← encI_set];exact S3.out.pick [1] (by decide) rfl⟩
   case measure=>simp [intOf];omega
  ·obtain rfl:k=n:=by omega
   rw [List.take_of_length_le (by rw [← L1.out];exact Nat.le_refl _)] at S
   have S2:=Lib.hid S
   clear S
   go_wp2
   go_ret2
   exact⟨q,rfl,S2.out⟩
theorem Each19r (p:Option Addr) (n c:Nat) (l:List Sq) (wk:Nat) (w:World) (hl:Rd w 4 p n (encQ l)) (hm:∀ x∈l,mayB x=true) (h1:1≤wk) (h16:wk≤16) (hn:n≤100000) :
  Calls Tryz.prog 65 #[.slice p n c,.int .i64 wk] w fun e w'=>∃ q,e=.returned (.tuple #[.slice q wk wk,.int .i64 0])∧Sep w w' [.own 3 1 q wk wk (encI (eachL l wk))]:=by
 obtain⟨j0,ji0,jz0,jz1,jz2⟩:=info_parts infI
 have p1:=hl.ptr
 have n1:=hl.small
 have L1:=Lib.hid hl.nQ
 have HM:=Lib.hid hm
 have HL:=Lib.hid hl
 have HMY:=Lib.hid (fun (x:Sq) (hx:mayB x=true) W=>May15 x W hx)
 have HH:=Lib.hid (fun (v:Int) W (a:0≤v) (b:v≤1000000)=>Home06 v wk W a b h1 h16)
 have c3:decide ((wk:Int)<1)=false:=by simp;omega
 have c4:decide (16<(wk:Int))=false:=by simp;omega
 clear hl hm
 go_enter Tryz.func65,Tryz.ntmps65
 go_wp2_with (at_make;go_must (refine wpList_make_sep rfl _ _ _ rfl 3 j0 _ 1 Tryz.underlying25 ji0 jz0 jz1 (wk:Int) wk rfl rfl rfl (by rw [jz2];omega) (by unfold maxLen;omega) (Sep.start w) ?_;intro w2 S';rw [made_encI,← eachL_nil] at S';have S2:=Lib.hid S';clear S'))
 generalize (some ⟨w.heap.size,0,none⟩:Option Addr)=q at *
 go_loopw [7,8,9] (fun i _ _ wr=>∃ (k:Nat),k≤n∧i=.int .i64 k∧Sep w wr [.own 3 1 q wk wk (encI (eachL (l.take k) wk))]) (fun i _ _ _=>n - (intOf i).toNat)
 case atStart=>exact⟨0,Nat.zero_le _,rfl,S2.out⟩
 case round =>
  clear S2
  obtain⟨k,hk,rfl,S⟩:=hrel
  by_cases hlt:k<n
  ·obtain⟨g1,g2,g3,g4⟩:=(HL.out.ext S.ext).cQ hlt
   have hkl:k<l.length:=by(rw [← L1.out];exact hlt)
   have hx:=HM.out (nth l k) (nth_mem hkl)
   have HT:=Lib.hid (take_succ_nth l k hkl)
   obtain⟨x,hxl⟩:∃ x,nth l k=x:=⟨_,rfl⟩
   rw [hxl] at g1 g2 g3 g4 hx HT
   obtain⟨m1,m2,m3,m4,m5,m6,m7⟩:=mayB_iff.1 hx
   have hhw:homeV x.v wk<wk:=homeV_lt (by omega)
   have HES:=Lib.hid (eachL_snoc (st:=l.take k) (x:=x) (w:=wk))
   have HHX:=Lib.hid (fun W=>HH.out x.v W m4 (by omega))
   have HC:=Lib.hid (fun W=>HMY.out x hx W)
   have HNT:=Lib.hid (eachL_nth (st:=l.take k) hhw)
   have hcn:=cntH_le (l.take k) wk (homeV x.v wk)
   rw [List.length_take] at hcn
   obtain⟨h,hhe⟩:∃ h,homeV x.v wk=h:=⟨_,rfl⟩
   rw [hhe] at HHX hhw HES HNT hcn
   obtain⟨cn,hce⟩:∃ cn,cntH (l.take k) wk h=cn:=⟨_,rfl⟩
   rw [hce] at HES HNT hcn
   have cn1:(0:Int)≤(cn:Int):=by omega
   have cn2:(cn:Int)≤100000:=by omega
   have d1:(0:Int)≤h:=by omega
   have d2:(h:Int)<wk:=by omega
   have dk1:(0:Int)≤k:=by omega
   have dk2:(k:Int)<n:=by omega
   have pq:=(S.rdx 0 rfl).ptr
   have SH:=Lib.hid S
   have HXL:=Lib.hid hxl
   clear hx hxl hkl hhe hce hcn m1 m2 m3 m4 m5 m6 m7 S
   go_wp2_with (first
    | (go_at_call 111;have _t:=S1;go_must (refine(HHX.out _).mono ?_;rintro e w3 ⟨rfl,rfl⟩;have fz:=own_frozen (S1.out.own 0 rfl) (by omega) h;have k1:=(S1.out.rdx 0 rfl).cI (k:=h) (by omega);rw [HNT.out] at k1))
    | (go_at_call 110;go_must (refine(HC.out _).mono ?_;rintro e w4 ⟨rfl,hb⟩;have S1:=Lib.hid (SH.out.call hb);obtain⟨z1,z2,z3,z4⟩:=(HL.out.ext S1.out.ext).cQ hlt;have _q:nth l k=x:=HXL.out;rw [_q] at z1 z2 z3 z4;clear hb _q)))
   have S3:=Lib.hid (S1.out.setRow 0 rfl h (by omega) (.int .i64 ((cn:Int)+1)))
   go_roundw
   case rel=>exact⟨k+1,by omega,by go_num,by rw [HT.out,HES.out,← encI_set];exact S3.out.pick [0] (by decide) rfl⟩
   case measure=>simp [intOf];omega
  ·obtain rfl:k=n:=by omega
   rw [List.take_of_length_le (by rw [← L1.out];exact Nat.le_refl _)] at S
   have S2:=Lib.hid S
   clear S
   go_wp2
   go_ret2
   exact⟨q,rfl,S2.out⟩
end
section
open Go
section
variable {F:Fence} {n:Nat} {P:Program} {ops:Array Oper} {Q:Exit→Act→World→Prop} {md:Region.Mode} {S:World→Prop}
def CalmIf (P:Program) (ops:Array Oper) (S:World→Prop) (o:Oper) (v:Value) (a:Act):Prop:=YieldsIf P ops S o v a∧∀ w,S w→o.about P w a.eval=none
theorem CalmIf.same {o:Oper} {v:Value} {a a':Act} (hy:CalmIf P ops S o v a) (he:execOp a'.eval o=execOp a.eval o)
  (hw:Region.wanted o (yielded ops a'.tmps)=Region.wanted o (yielded ops a.tmps)) (hb:∀ w,o.about P w a'.eval=o.about P w a.eval):CalmIf P ops S o v a' :=
 ⟨hy.1.of_same he hw,fun w hS=>(hb w).trans (hy.2 w hS)⟩
theorem CalmIf.step {i:Nat} {o:Oper} {v:Value} {a:Act} (hro:F.round=none) (hi:ops[i]?=some o) (hy:CalmIf P ops S o v a)
  {K:Act→World→Prop} {w:World} (hS:S w) (h:K (a.put o.dst v) w):wpOpIn F n P ops Q i K a w:=by
 have hab:∀ f,o.about P w a.eval=some f→F.fn f:=fun f hf=>nomatch (hy.2 w hS).symm.trans hf
 unfold wpOpIn
 simp only [hi]
 rcases hy.1 with ⟨hw,hv⟩ | ⟨hw,rfl⟩
 ·simp only [hw,if_true,Oper.wpIn,hro,Oper.semAt_none,hv w hS,Oper.uponIn];exact⟨hab,h⟩
 ·simp only [hw,Bool.false_eq_true,if_false];exact⟨hab,h⟩
theorem CalmIf.swap {j:Nat} {oi oj:Oper} {v:Value} (hro:F.round=none) (hj:ops[j]?=some oj) (hap:oi.apart ops oj=true)
  (hsi:∀ cs b,oi.op≠.select cs b) (hsj:∀ cs b,oj.op≠.select cs b)
  (hQ:∀ c a w,Q (.panic c) (a.put oi.dst v) w→Q (.panic c) a w) {K:Act→World→Prop} {a:Act} {w:World}
  (hy:CalmIf P ops S oi v a) (h:wpOpIn F n P ops Q j K (a.put oi.dst v) w) :
  wpOpIn F n P ops Q j (fun a' w'=>CalmIf P ops S oi v a'∧K (a'.put oi.dst v) w') a w:=by
 obtain⟨h1,h2,h3⟩:=Oper.apart_spec hap
 have hput:∀ u,CalmIf P ops S oi v (a.put oj.dst u):=fun u =>
  hy.same (execOp_put oi hsi a oj.dst u h3) (wanted_put oi a oj.dst u h3) (fun w=>about_put oi w a oj.dst u h3)
 have hcom:∀ u,(a.put oj.dst u).put oi.dst v=(a.put oi.dst v).put oj.dst u:=fun u=>(Act.put_comm a v u h2).symm
 unfold wpOpIn at *
 simp only [hj] at *
 rw [wanted_put oj a oi.dst v h1,about_put oj w a oi.dst v h1] at h
 split
 next hw =>
  simp only [hw,if_true] at h
  unfold Oper.wpIn at *
  rw [about_put oj w a oi.dst v h1,hro,Oper.semAt_none,execOp_put oj hsj a oi.dst v h1] at h
  rw [hro,Oper.semAt_none]
  obtain⟨hf,h⟩:=h
  refine⟨hf,?_⟩
  generalize (execOp a.eval oj).run P w=r at *
  cases r with
  | ok x w' =>
   cases x <;> simp only [Oper.uponIn] at h ⊢
   case value u=>exact⟨hput u,by rw [hcom];exact h⟩
   case skip=>exact⟨hput _,by rw [hcom];exact h⟩
   case defer d =>
    refine⟨?_,?_⟩
    ·exact hy.same (a':=Act.put { a with defers:=d :: a.defers } oj.dst undef)
      ((execOp_put oi hsi { a with defers:=d :: a.defers } oj.dst undef h3).trans rfl) ((wanted_put oi { a with defers:=d :: a.defers } oj.dst undef h3).trans rfl)
      (fun w=>(about_put oi w { a with defers:=d :: a.defers } oj.dst undef h3).trans rfl)
    ·rw [← Act.put_comm _ v undef h2,← Act.put_defers];exact h
   case enter f args =>
    refine⟨h.1,CallsIn.mono h.2 fun e w'' he=>?_⟩
    cases e with
    | returned u=>exact⟨hput u,by rw [hcom];exact he⟩
    | panicked c=>exact hQ _ _ _ he
    | outgrown=>exact he
   case row row args=>exact⟨h.1,RowsIn.mono h.2 fun u w'' he=>⟨hput u,by rw [hcom];exact he⟩⟩
   case round l f tmps assign body =>
    refine⟨h.1,RoundIn.mono h.2 fun e w'' he=>?_⟩
    cases e with
    | returned u=>exact⟨hput u,by rw [hcom];exact he⟩
    | panicked c=>exact hQ _ _ _ he
    | outgrown=>exact he
  | halt x w' =>
   cases x <;> simp only [Oper.uponIn] at h ⊢
   case panic u=>exact hQ _ _ _ h
 next hw =>
  simp only [hw] at h
  exact⟨h.1,hput _,by rw [hcom];exact h.2⟩
def wpAnyHI (F:Fence) (n:Nat) (P:Program) (md:Region.Mode) (ops:Array Oper) (Q:Exit→Act→World→Prop) (S:World→Prop) (y:Nat):Nat→Array Bool→Act→World→Prop
 | 0,listed,a,w=>Region.ready md ops listed=[]∧Q .normal a w
 | fuel+1,listed,a,w =>
  (Region.ready md ops listed=[]→Q .normal a w) ∧
  ∀ i∈Region.ready md ops listed,wpOpIn F n P ops Q i (fun a' w'=>(i=y→wpAnyIn F n P md ops Q fuel (listed.setIfInBounds i true) a' w')∧(i≠y→S w'∧wpAnyHI F n P md ops Q S y fuel (listed.setIfInBounds i true) a' w')) a w
theorem wpAnyIn_of_heldI {y:Nat}:∀ (fuel:Nat) (listed:Array Bool) (a:Act) (w:World),wpAnyHI F n P md ops Q S y fuel listed a w→wpAnyIn F n P md ops Q fuel listed a w
 | 0,_,_,_,h=>h
 | fuel+1,_,_,_,h=>⟨h.1,fun i hi=>wpOpIn_mono (fun a' w' h'=>(by
   by_cases e:i=y
   ·exact h'.1 e
   ·exact wpAnyIn_of_heldI fuel _ a' w' (h'.2 e).2)) (h.2 i hi)⟩
def downs (md:Region.Mode) (ops:Array Oper) (i:Nat) (D:List Nat):Bool :=
 D.all fun j=>match ops[j]? with
  | none=>false
  | some o=>o.after.any fun e=>Region.binds md e && (e.on == i || D.contains e.on)
theorem waits_not {listed:Array Bool} {j k:Nat} {oj:Oper} (hoj:ops[j]?=some oj) (hj:j∈Region.ready md ops listed) (hk:listed.getD k true=false) {e:Edge} (he:e∈oj.after) (hb:Region.binds md e=true) (hon:e.on=k):False:=by
 obtain⟨_,oj',hoj',hall⟩:=mem_ready.1 hj
 rw [hoj] at hoj'
 injection hoj' with hoj'
 subst hoj'
 have h1:=hall e he hb
 rw [hon] at h1
 rcases Nat.lt_or_ge k listed.size with h' | h'
 ·simp [h'] at hk h1;rw [hk] at h1;cases h1
 ·simp [Array.getElem?_eq_none h'] at h1
theorem wpAnyHI_first {i y:Nat} {oi:Oper} {v:Value} {D:List Nat} (hro:F.round=none) (hi:ops[i]?=some oi) (hsel:∀ (j:Nat) (o:Oper) cs b,ops[j]?=some o→o.op≠.select cs b)
  (hQ:∀ c a w,Q (.panic c) (a.put oi.dst v) w→Q (.panic c) a w) (hD:downs md ops i D=true) (hyD:y∈D) (hiy:i≠y) :
  ∀ (fuel:Nat) (listed:Array Bool) (a:Act) (w:World),
   (∀ j oj,ops[j]?=some oj→j≠i→listed.getD j true=false→(∀ e∈oj.after,Region.binds md e=true→e.on≠i)→oi.apart ops oj=true) →
   i∈Region.ready md ops listed→(∀ d∈D,listed.getD d true=false)→CalmIf P ops S oi v a→S w →
   wpAnyHI F n P md ops Q S y fuel (listed.setIfInBounds i true) (a.put oi.dst v) w→wpAnyHI F n P md ops Q S y (fuel+1) listed a w:=by
 have hDj:∀ (listed:Array Bool) (j:Nat),i∈Region.ready md ops listed→(∀ d∈D,listed.getD d true=false)→j∈Region.ready md ops listed→j ∉ D:=fun listed j hr hun hj hjD=>by
  have h0:=(mem_ready.1 hr).1
  obtain⟨_,oj,hoj,_⟩:=mem_ready.1 hj
  have h1:=List.all_eq_true.1 hD j hjD
  rw [hoj] at h1
  simp only [Array.any_eq_true',Bool.and_eq_true,Bool.or_eq_true,beq_iff_eq,List.contains_iff_mem] at h1
  obtain⟨e,he,hb,h2 | h2⟩:=h1
  ·exact waits_not hoj hj h0 he hb h2
  ·exact waits_not hoj hj (hun _ h2) he hb rfl
 intro fuel
 induction fuel with
 | zero =>
  intro listed a w _ hr hun hy hS H
  refine⟨fun h=>(by rw [h] at hr;cases hr),fun j hj=>?_⟩
  by_cases hji:j=i
  ·subst hji;exact hy.step hro hi hS ⟨fun e=>absurd e hiy,fun _=>⟨hS,H⟩⟩
  ·have:=ready_mono hj hji
   rw [H.1] at this
   cases this
 | succ fuel ih =>
  intro listed a w hfree hr hun hy hS H
  refine⟨fun h=>(by rw [h] at hr;cases hr),fun j hj=>?_⟩
  by_cases hji:j=i
  ·subst hji;exact hy.step hro hi hS ⟨fun e=>absurd e hiy,fun _=>⟨hS,H⟩⟩
  obtain⟨hjun,oj,hoj,hall⟩:=mem_ready.1 hj
  have hjD:=hDj listed j hr hun hj
  have hjy:j≠y:=fun e=>hjD (e ▸ hyD)
  have hnot:∀ e∈oj.after,Region.binds md e=true→e.on≠i:=fun e he hb heq=>waits_not hoj hj (mem_ready.1 hr).1 he hb heq
  refine wpOpIn_mono (fun a' w' h3=>⟨fun e=>absurd e hjy,fun _=>⟨(h3.2.2 hjy).1,ih (listed.setIfInBounds j true) a' w' (fun k ok hk hki hun hno=>?_) (ready_mono hr (Ne.symm hji)) (fun d hd=>?_) h3.1 (h3.2.2 hjy).1 ?_⟩⟩)
   (CalmIf.swap hro hoj (hfree j oj hoj hji hjun hnot) (fun cs b=>hsel i oi cs b hi) (fun cs b=>hsel j oj cs b hoj) hQ hy (H.2 j (ready_mono hj hji)))
  ·refine hfree k ok hk hki ?_ hno
   by_cases hjk:j=k
   ·subst hjk;exact hjun
   ·rw [getD_set_ne true hjk] at hun;exact hun
  ·rw [getD_set_ne true (show ¬ j=d from fun e=>hjD (by rw [e];exact hd))];exact hun d hd
  ·rw [Array.setIfInBounds_comm _ _ hji]
   exact(h3.2.2 hjy).2
theorem wpAnyHI_take {y:Nat} (D:List Nat) {i:Nat} {oi:Oper} {v:Value} {fuel:Nat} {listed:Array Bool} {a:Act} {w:World} (hro:F.round=none) (hi:ops[i]?=some oi)
  (hs:Region.noSelect ops=true) (hf:Region.free md ops listed i=true) (hr:(Region.ready md ops listed).contains i=true)
  (hD:(downs md ops i D && (D.contains y && (i != y && D.all fun d=>listed.getD d true == false)))=true)
  (hQ:∀ c a w,Q (.panic c) (a.put oi.dst v) w→Q (.panic c) a w) (hy:CalmIf P ops S oi v a) (hS:S w)
  (h:wpAnyHI F n P md ops Q S y fuel (listed.setIfInBounds i true) (a.put oi.dst v) w):wpAnyHI F n P md ops Q S y (fuel+1) listed a w:=by
 rw [Bool.and_eq_true,Bool.and_eq_true,Bool.and_eq_true] at hD
 obtain⟨d1,d2,d3,d4⟩:=hD
 exact wpAnyHI_first hro hi (Region.noSelect_spec hs) hQ d1 (by simpa using d2) (by simpa using d3) fuel listed a w (Region.free_spec hi hf) (by simpa using hr) (fun d hd=>(by simpa using List.all_eq_true.1 d4 d hd)) hy hS h
theorem wpAnyHI_one {y:Nat} {i:Nat} {o:Oper} {fuel:Nat} {listed:Array Bool} {a:Act} {w:World} (hr:Region.ready md ops listed=[i]) (ho:ops[i]?=some o) (hy:i≠y)
  (h:∀ K':Act→World→Prop,(∀ a w,S w→wpAnyHI F n P md ops Q S y fuel (listed.setIfInBounds i true) a w→K' a w) →
   if Region.wanted o (yielded ops a.tmps)=true then Oper.wpIn F n P o a w K' Q else (∀ f,o.about P w a.eval=some f→F.fn f)∧K' (a.put o.dst undef) w):wpAnyHI F n P md ops Q S y (fuel+1) listed a w :=
 ⟨fun h0=>(by rw [hr] at h0;cases h0),fun j hj=>by
  rw [hr] at hj
  obtain rfl:j=i:=by simpa using hj
  exact wpOpIn_step ho fun K' hK'=>h K' fun a w hS hh=>hK' a w ⟨fun e=>absurd e hy,fun _=>⟨hS,hh⟩⟩⟩
theorem wpAnyHI_last {y:Nat} {o:Oper} {fuel:Nat} {listed:Array Bool} {a:Act} {w:World} (hr:Region.ready md ops listed=[y]) (ho:ops[y]?=some o)
  (h:∀ K':Act→World→Prop,(∀ a w,wpAnyIn F n P md ops Q fuel (listed.setIfInBounds y true) a w→K' a w) →
   if Region.wanted o (yielded ops a.tmps)=true then Oper.wpIn F n P o a w K' Q else (∀ f,o.about P w a.eval=some f→F.fn f)∧K' (a.put o.dst undef) w):wpAnyHI F n P md ops Q S y (fuel+1) listed a w :=
 ⟨fun h0=>(by rw [hr] at h0;cases h0),fun j hj=>by
  rw [hr] at hj
  obtain rfl:j=y:=by simpa using hj
  exact wpOpIn_step ho fun K' hK'=>h K' fun a w hh=>hK' a w ⟨fun _=>hh,fun e=>absurd rfl e⟩⟩
theorem wpIn_region_heldI (y:Nat) {id:Nat} {a:Act} {w:World} (hm:P.follows .mixedOrders=true) (hS:S w.drew)
  (h:S w.drew→wpAnyHI F n P .any ops Q S y ops.size (Array.replicate ops.size false) a w.drew):(Code.region id ops true).wpIn F n P Q a w :=
 wpIn_region_any hm (wpAnyIn_of_heldI _ _ _ _ (h hS))
end
end
section
open Go Go.RowKit
def OwnX {β:Type} (B:Nat) (X:Nat→Prop) (I:β→World→Prop):Prop :=
 ∀ s W W' row,I s W→W.grownBy W' row→(∀ r,row=some r→(B≤r∧∃ o:Obj,W.heap[r]?=some o∧o.isCells=false)∨X r)→I s W'
theorem OwnX.putObj {β:Type} {B:Nat} {X:Nat→Prop} {I:β→World→Prop} (h:OwnX B X I) {s:β} {W:World} {l:Nat} {o:Obj} (o':Obj) (hs:I s W) (hB:B≤l) (hl:W.heap[l]?=some o) (ho:o.isCells=false):I s (W.putObj l o') :=
 h s W _ (some l) hs (grownBy_putObj' W l o') (fun r e=>by cases e;exact .inl ⟨hB,o,hl,ho⟩)
theorem OwnX.turn {β:Type} {B:Nat} {X:Nat→Prop} {I:β→World→Prop} (h:OwnX B X I) {s:β} {W:World} {l:Nat} (o':Obj) (hs:I s W) (hx:X l):I s (W.putObj l o') :=
 h s W _ (some l) hs (grownBy_putObj' W l o') (fun r e=>by cases e;exact .inr hx)
theorem OwnX.alloc {β:Type} {B:Nat} {X:Nat→Prop} {I:β→World→Prop} (h:OwnX B X I) {s:β} {W:World} (o:Obj) (hs:I s W):I s (W.alloc o) :=
 h s W _ none hs (World.grownBy_alloc W o none) (fun r e=>by cases e)
def SeqD {α:Type} (F:Fence) (n:Nat) (P:Program) (g:Nat) (lb:Array Value) (encs:α→Array Value) (X:Nat→Prop) (A:World→List α→α→World→Prop) (Kp:World→World→Prop) (S Sp Q:List α→Prop) (w:World):Prop :=
 ∀ (l:Nat) (J Jx:List α→World→Prop) (W:World),Below w.heap.size w W→OwnX W.heap.size X J→OwnX W.heap.size X Jx →
  (∀ pre V,J pre V→Q pre) →
  (∀ pre x V0 V,J pre V0→Ext V0 V→A V0 pre x V→YieldAt F (n - 1) P l (encs x) V fun e V' =>
   (e=.returned (.bool true)∧J (pre ++ [x]) V'∧Kp V V')∨(e=.returned (.bool false)∧Jx (pre ++ [x]) V')) →
  J [] W→CallsIn F n P g (#[.func (.yield l) #[] #[]] ++ lb) W fun e V=>(∃ v,e=.returned v)∧((∃ xs,S xs∧J xs V)∨(∃ pre,Sp pre∧Jx pre V))
section
variable {F:Fence} {n:Nat} {P:Program} {w:World}
theorem wpIn_rangeFunc_toldD {α:Type} {g:Operand} {ps:Array Tmp} {assign body:Code} {Q:Exit→Act→World→Prop} {a:Act}
  (hro:F.round=none) (h1:1≤n) {gf:Nat} {lb:Array Value} (hg:a.eval g=.func (.func gf) #[] lb) (hF:F.fn gf) (eg:∀ args w,(callFunc gf args).run P w=.ok (.enter gf args) w)
  {encs:α→Array Value} {X:Nat→Prop} {A:World→List α→α→World→Prop} {Kp:World→World→Prop} {S Sp Q':List α→Prop} {w0:World} (hseq:SeqD F (n - 1) P gf lb encs X A Kp S Sp Q' w0)
  (hX:∀ k,X k→k<w.heap.size) (hKt:∀ {X Y Z:World},Kp X Y→Kp Y Z→Kp X Z) (hKb:∀ (W:World) (l:Nat) (o o':Obj),w.heap.size≤l→W.heap[l]?=some o→o.isCells=false→o.isWalk=false→Kp W (W.putObj l o')) (hb0:Below w0.heap.size w0 w) (hps:∀ x,(encs x).size=ps.size)
  (I:List α→World→Prop) (Ix:Code→List α→World→Prop) (hI:OwnX w.heap.size X I) (hIx:∀ c,OwnX w.heap.size X (Ix c)) (hQ:∀ pre W,I pre W→Q' pre) (h0:I [] w)
  (Ax:List α→α→Act→World→Prop) (hAx:∀ pre x a',OwnX w.heap.size X (fun (_:Unit) W=>Ax pre x a' W))
  (hassign:∀ (l:Nat) (pre:List α) (x:α) (V0 W:World) (K:Act→World→Prop),I pre V0→Ext V0 W→A V0 pre x W→(∀ a' W',KeepsFrom w.heap.size W W'→Kp W W'→I pre W'→Ax pre x a' W'→K a' W') →
   assign.wpIn (F.inRound l) (n - 1 - 1) P (Exit.then K (fun _ _ _=>False)) { tmps:=(ps.zip (encs x)).foldl (fun t (p,v)=>t.setIfInBounds p v) a.tmps,defers:=[] } W)
  (hbody:∀ (l:Nat) (pre:List α) (x:α) (a':Act) (W:World),I pre W→Ax pre x a' W→body.wpIn (F.inRound l) (n - 1 - 1) P (ownPostG w.heap.size Kp I Ix (pre ++ [x]) W) a' W)
  (hdone:∀ (D:Nat) (xs:List α) (W:World),w.heap.size≤D→S xs→I xs W→W.heap[D]?=some (.deferred (some []))→Q .normal { a with defers:={ target:=.collected D,args:=#[] } :: a.defers } W)
  (hstop:∀ (D:Nat) (c:Code) (pre:List α) (W:World),w.heap.size≤D→Sp pre→Ix c pre W→W.heap[D]?=some (.deferred (some []))→c.wpIn F n P Q { a with defers:={ target:=.collected D,args:=#[] } :: a.defers } W) :
  (Code.rangeFunc g ps assign body).wpIn F n P Q a w:=by
 refine wpIn_rangeFunc fun fn hfn=>?_
 rw [hro]
 have hB:w.heap.size≤w.heap.size+1:=Nat.le_succ _
 obtain⟨mk,hmk⟩:∃ mk:LoopState→Option Code→Loop,mk=fun st pe=>{ state:=st,pending:=pe,fn,tmps:=a.tmps,params:=ps,assign,body,defers:=w.heap.size }:=⟨_,rfl⟩
 obtain⟨V,hV⟩:∃ V,(w.alloc (.deferred (some []))).alloc (.loop (mk .ready none))=V:=⟨_,rfl⟩
 have hVl:V.heap[w.heap.size+1]?=some (.loop (mk .ready none)):=by
  have h:=World.alloc_heap_new (w.alloc (.deferred (some []))) (.loop (mk .ready none))
  rw [World.size_alloc] at h
  rw [← hV];exact h
 have hVd:V.heap[w.heap.size]?=some (.deferred (some [])):=by
  rw [← hV];exact(Below.heap_alloc _ _ _ (by simp)).trans (World.alloc_heap_new w _)
 have hVb:Below w0.heap.size w0 V:=by
  rw [← hV];exact hb0.trans ((((Below.refl _ w).alloc (Nat.le_refl _) _).alloc (by simp) _).mono hb0.size)
 have hVs:w.heap.size≤V.heap.size:=by have:=(Array.getElem?_eq_some_iff.1 hVd).1;omega
 have hV0:I [] V:=by rw [← hV];exact(hI.alloc _ (hI.alloc _ h0))
 have lV:w.heap.size+1<V.heap.size:=(Array.getElem?_eq_some_iff.1 hVl).1
 have keep:∀ {Y Z:World} {row:Option Nat} {k:Nat} {o:Obj},Y.grownBy Z row→(∀ r,row=some r→(V.heap.size≤r∧∃ o:Obj,Y.heap[r]?=some o∧o.isCells=false)∨X r)→w.heap.size≤k→k<V.heap.size→Y.heap[k]?=some o→Z.heap[k]?=some o:=fun {Y Z row k o} hg hr hk0 hk hY=>(hg.block k (Array.getElem?_eq_some_iff.1 hY).1 (fun e=>by
  rcases hr k e.symm with h | h
  ·have:=h.1;omega
  ·have:=hX k h;omega)).trans hY
 have loose:∀ {Y:World} {row:Option Nat},(∀ r,row=some r→(V.heap.size≤r∧∃ o:Obj,Y.heap[r]?=some o∧o.isCells=false)∨X r)→∀ r,row=some r→(w.heap.size≤r∧∃ o:Obj,Y.heap[r]?=some o∧o.isCells=false)∨X r:=fun hr r e=>(hr r e).imp (fun h=>⟨Nat.le_trans hVs h.1,h.2⟩) id
 refine⟨w.heap.size+1,[{ target:=.collected w.heap.size,args:=#[] }],V,{ target:=.fn (.func gf) lb,args:=#[.func (.yield (w.heap.size+1)) #[] #[]] },V,gf,#[.func (.yield (w.heap.size+1)) #[] #[]] ++ lb,V,?_,?_,?_,?_,fun _=>h1,?_⟩
 ·rw [← hV,hmk];exact run_enterLoop_outer _ _ _ _ _
 ·simp only [resolve,hg];simp [go_sem]
 ·intro f' hf';simp [Target.leads] at hf';subst hf';exact hF
 ·simp [invoke,go_sem,eg]
 refine(hseq (w.heap.size+1)
  (fun pre W=>I pre W∧W.heap[w.heap.size+1]?=some (.loop (mk .ready none))∧W.heap[w.heap.size]?=some (.deferred (some [])))
  (fun pre W=>∃ c,Ix c pre W∧W.heap[w.heap.size+1]?=some (.loop (mk .done (some c)))∧W.heap[w.heap.size]?=some (.deferred (some []))) V hVb
  (fun s Y Z row h hg hr=>⟨hI s Y Z row h.1 hg (loose hr),keep hg hr (by omega) lV h.2.1,keep hg hr (Nat.le_refl _) (by omega) h.2.2⟩)
  (fun s Y Z row h hg hr=>h.elim fun c h=>⟨c,hIx c s Y Z row h.1 hg (loose hr),keep hg hr (by omega) lV h.2.1,keep hg hr (Nat.le_refl _) (by omega) h.2.2⟩)
  (fun pre W h=>hQ pre W h.1) ?_ ⟨hV0,hVl,hVd⟩).mono ?_
 ·rintro pre x V0 W ⟨hi0,hl0,hk0⟩ hE0 hax
  have hl:W.heap[w.heap.size+1]?=some (.loop (mk .ready none)):=(hE0.block _ (Array.getElem?_eq_some_iff.1 hl0).1).trans hl0
  have hk:W.heap[w.heap.size]?=some (.deferred (some [])):=(hE0.block _ (Array.getElem?_eq_some_iff.1 hk0).1).trans hk0
  have hlt:w.heap.size+1<W.heap.size:=(Array.getElem?_eq_some_iff.1 hl).1
  have hy:=run_yield (P:=P) (args:=encs x) hl (by rw [hmk];exact hps x)
  rw [hmk] at hy
  refine⟨fn,_,assign,body,hy,roundIn_of_wpIn hfn (hassign _ pre x V0 W _ hi0 hE0 hax fun a' W1 hK1 hp1 hi1 hax1=>?_)⟩
  have hl1:W1.heap[w.heap.size+1]?=some (.loop (mk .ready none)):=hK1.same _ _ hB hl rfl
  have hk1:W1.heap[w.heap.size]?=some (.deferred (some [])):=hK1.same _ _ (Nat.le_refl _) hk rfl
  have hlt1:w.heap.size+1<W1.heap.size:=(Array.getElem?_eq_some_iff.1 hl1).1
  refine⟨_,run_beginRound hl1 (by rw [hmk]),?_⟩
  have l2:(W1.putObj (w.heap.size+1) (.loop { mk .ready none with state:=.busy })).heap[w.heap.size+1]?=some (.loop { mk .ready none with state:=.busy }):=World.putObj_heap_same hlt1
  have k2:(W1.putObj (w.heap.size+1) (.loop { mk .ready none with state:=.busy })).heap[w.heap.size]?=some (.deferred (some [])):=(World.putObj_heap_other (by omega)).trans hk1
  have p2:Kp W (W1.putObj (w.heap.size+1) (.loop { mk .ready none with state:=.busy })):=hKt hp1 (hKb _ _ _ _ hB hl1 rfl rfl)
  refine wpIn_mono (hbody _ pre x a' _ (hI.putObj _ hi1 hB hl1 rfl) ((hAx pre x a').putObj (s:=()) _ hax1 hB hl1 rfl)) ?_
  have fin:∀ (jump:Option Code) (Y:World),KeepsFrom w.heap.size (W1.putObj (w.heap.size+1) (.loop { mk .ready none with state:=.busy })) Y →
    (Instr.endRound (w.heap.size+1) jump).run P Y=.ok (.bool jump.isNone) (Y.putObj (w.heap.size+1) (.loop (mk (if jump.isNone then .ready else .done) jump))) ∧
    Y.heap[w.heap.size+1]?=some (.loop { mk .ready none with state:=.busy }) ∧
    (Y.putObj (w.heap.size+1) (.loop (mk (if jump.isNone then .ready else .done) jump))).heap[w.heap.size+1]?=some (.loop (mk (if jump.isNone then .ready else .done) jump)) ∧
    (Y.putObj (w.heap.size+1) (.loop (mk (if jump.isNone then .ready else .done) jump))).heap[w.heap.size]?=some (.deferred (some [])):=fun jump Y hY=>by
   have l3:=hY.same _ _ hB l2 rfl
   have hr:=run_endRound (P:=P) jump l3
   rw [hmk] at hr l3 ⊢
   exact⟨hr,l3,World.putObj_heap_same (Array.getElem?_eq_some_iff.1 l3).1,(World.putObj_heap_other (by omega)).trans (hY.same _ _ (Nat.le_refl _) k2 rfl)⟩
  rintro e a3 Y hp
  cases e with
  | normal =>
   obtain⟨hY,hkp,hi3⟩:=hp
   obtain⟨r1,r2,r3,r4⟩:=fin none Y hY
   exact⟨_,_,r1,.inl ⟨rfl,⟨hI.putObj _ hi3 hB r2 rfl,r3,r4⟩,hKt (hKt p2 hkp) (hKb _ _ _ _ hB r2 rfl rfl)⟩⟩
  | ret =>
   obtain⟨r1,r2,r3,r4⟩:=fin (some .ret) Y hp.1
   exact⟨_,_,r1,.inr ⟨rfl,.ret,(hIx _).putObj _ hp.2 hB r2 rfl,r3,r4⟩⟩
  | exit id =>
   obtain⟨r1,r2,r3,r4⟩:=fin (some (.exit id)) Y hp.1
   exact⟨_,_,r1,.inr ⟨rfl,.exit id,(hIx _).putObj _ hp.2 hB r2 rfl,r3,r4⟩⟩
  | goto t =>
   obtain⟨r1,r2,r3,r4⟩:=fin (some (.goto t)) Y hp.1
   exact⟨_,_,r1,.inr ⟨rfl,.goto t,(hIx _).putObj _ hp.2 hB r2 rfl,r3,r4⟩⟩
  | panic ch=>exact hp.elim
  | outgrown=>exact hp.elim
 ·rintro e Y ⟨⟨v,rfl⟩,(⟨xs,hS,hi,hl,hk⟩ | ⟨pre,hSp,c,hi,hl,hk⟩)⟩
  ·have hr:=run_endLoop (P:=P) hl (by rw [hmk];simp)
   rw [hmk] at hr
   exact⟨none,_,hr,hdone _ xs _ (Nat.le_refl _) hS (hI.putObj _ hi hB hl (by rw [hmk];rfl)) ((World.putObj_heap_other (by omega)).trans hk)⟩
  ·have hr:=run_endLoop (P:=P) hl (by rw [hmk];simp)
   rw [hmk] at hr
   exact⟨some c,_,hr,hstop _ c pre _ (Nat.le_refl _) hSp ((hIx c).putObj _ hi hB hl (by rw [hmk];rfl)) ((World.putObj_heap_other (by omega)).trans hk)⟩
end
end
section
open Go Go.RowKit
structure KpN (Bd:Nat→Prop) (C:Nat) (V V':World):Prop where
 os:V'.os=V.os
 tape:V'.tape=V.tape
 output:V'.output=V.output
 size:V.heap.size≤V'.heap.size
 block:∀ k o,¬ Bd k→V.heap[k]?=some o→(k<C∨o.isCells=true)→V'.heap[k]?=some o
theorem KpN.trans {Bd:Nat→Prop} {C:Nat} {X Y Z:World} (h:KpN Bd C X Y) (g:KpN Bd C Y Z):KpN Bd C X Z :=
 ⟨g.os.trans h.os,g.tape.trans h.tape,g.output.trans h.output,Nat.le_trans h.size g.size,fun k o hk ho hc=>g.block k o hk (h.block k o hk ho hc) hc⟩
theorem KpN.of_ext {Bd:Nat→Prop} {C:Nat} {X Y:World} (h:Ext X Y):KpN Bd C X Y :=
 ⟨h.os,h.tape,h.output,h.size,fun k _ _ ho _=>(h.block k (Array.getElem?_eq_some_iff.1 ho).1).trans ho⟩
theorem KpN.putObj {Bd:Nat→Prop} {C:Nat} (W:World) (l:Nat) (o o':Obj) (hl:C≤l) (h:W.heap[l]?=some o) (hc:o.isCells=false):KpN Bd C W (W.putObj l o'):=by
 have g:=grownBy_putObj' W l o'
 refine⟨g.os,g.tape,g.output,g.size,fun k o2 _ h2 h3=>?_⟩
 by_cases e:k=l
 ·subst e
  rw [h] at h2
  cases h2
  rcases h3 with h3 | h3
  ·omega
  ·rw [hc] at h3;cases h3
 ·rw [World.putObj_heap_other (by omega)];exact h2
theorem KpN.own {Bd:Nat→Prop} {C:Nat} (W:World) (l:Nat) (o':Obj) (hl:Bd l):KpN Bd C W (W.putObj l o'):=by
 have g:=grownBy_putObj' W l o'
 refine⟨g.os,g.tape,g.output,g.size,fun k o2 hk h2 h3=>?_⟩
 have e:k≠l:=fun e=>hk (e ▸ hl)
 rw [World.putObj_heap_other (by omega)];exact h2
theorem KpN.cell {Bd:Nat→Prop} {C:Nat} (W:World) (a:Addr) (u:Value) (hl:Bd a.block):KpN Bd C W (W.setCell a u):=by
 have g:=grown_set W a u
 refine⟨g.os,g.tape,g.output,g.size,fun k o2 hk h2 h3=>?_⟩
 exact(g.block k (Array.getElem?_eq_some_iff.1 h2).1 (fun e=>hk (by injection e with e;rw [← e] at hl;exact hl))).trans h2
theorem Sep.kpN {w0 V V':World} {Γ:List Pc} {Bd:Nat→Prop} {C:Nat} (S:Sep w0 V Γ) (hΓ:∀ p∈Γ,p.cells) (hf:∀ p∈Γ,∀ k,p.foot k→¬ Bd k) (hB:∀ k,Bd k→w0.heap.size≤k) (hC:w0.heap.size≤C) (h:KpN Bd C V V'):Sep w0 V' Γ:=by
 refine⟨⟨h.os.trans S.ext.os,h.tape.trans S.ext.tape,h.output.trans S.ext.output,Nat.le_trans S.ext.size h.size,fun k hk=>?_⟩,fun p hp=>p.loc V V' (S.all p hp) fun k hk=>?_,S.new,S.apart⟩
 ·have hkV:k<V.heap.size:=Nat.lt_of_lt_of_le hk S.ext.size
  have e:=Array.getElem?_eq_getElem hkV
  rw [h.block k _ (fun hb=>by have:=hB k hb;omega) e (Or.inl (Nat.lt_of_lt_of_le hk hC)),← e]
  exact S.ext.block k hk
 ·obtain⟨o,h1,h2⟩:=hΓ p hp V (S.all p hp) k hk
  rw [h1]
  exact h.block k o (hf p hp k hk) h1 (Or.inr h2)
theorem Sep.turnX {w0 w w':World} {Γ:List Pc} {row:Option Nat} {B:Nat} {X:Nat→Prop} (S:Sep w0 w Γ) (hΓ:∀ p∈Γ,p.cells) (hX:∀ p∈Γ,∀ k,p.foot k→¬ X k) (hX0:∀ k,X k→w0.heap.size≤k) (hB:w0.heap.size≤B) (hg:w.grownBy w' row) (hr:∀ r,row=some r→(B≤r∧∃ o:Obj,w.heap[r]?=some o∧o.isCells=false)∨X r):Sep w0 w' Γ:=by
 refine⟨⟨hg.os.trans S.ext.os,hg.tape.trans S.ext.tape,hg.output.trans S.ext.output,Nat.le_trans S.ext.size hg.size,fun k hk=>(hg.block k (Nat.lt_of_lt_of_le hk S.ext.size) (fun e=>?_)).trans (S.ext.block k hk)⟩,
  fun p hp=>p.loc w w' (S.all p hp) fun k hk=>hg.block k (S.lt hp hk) (fun e=>?_),S.new,S.apart⟩
 ·rcases hr k e.symm with h | h
  ·have:=h.1;omega
  ·have:=hX0 k h;omega
 ·rcases hr k e.symm with ⟨_,o,h1,h2⟩ | h
  ·obtain⟨o',h3,h4⟩:=hΓ p hp w (S.all p hp) k hk
   rw [h1] at h3
   injection h3 with h3
   subst h3
   rw [h2] at h4;cases h4
  ·exact hX p hp k hk h
end
section
open Go Go.RowKit
attribute [local go_sem] Oper.semAt_some
structure YdT where
 yes:Bool
 d:Int
 F:List (Int × Int)
 q:Option Addr
 c:Nat
 dn:Bool
def ydE (y:YdT):Array Value:=#[.agg #[.bool y.yes,.int .i64 y.d,.slice y.q y.F.length y.c],.bool y.dn]
def ydA (k t:Int) (L:List Po) (ws:List ByteArray) (most:Int) (rn:Nat→List Sq × List Sq) (V0:World) (pre:List YdT) (y:YdT) (V:World):Prop :=
 Sep V0 V [.own 105 2 y.q y.F.length y.c (encE y.F)]∧AnsD k t L ws most (rn (pre.length+1)) y.yes y.d y.F∧y.dn=doneB k t (rn (pre.length+1))
theorem StepsG (b:Nat) (w:World):Calls Tryz.prog 52 #[.pointer (some ⟨b,0,none⟩)] w fun e w'=>e=.returned (.func (.func 93) #[] #[.pointer (some ⟨w.heap.size,0,none⟩)])∧w'=w.alloc (.cells #[.pointer (some ⟨b,0,none⟩)] 82):=by
 go_enter Tryz.func52,Tryz.ntmps52
 go_wp2
 go_ret
 exact⟨rfl,rfl⟩
theorem gst_cells {b bx:Nat} {cs cs2:Array Value} {t1 t2 e1 e2:TypeId} {q1 q2:Option Addr} {n1 c1 n2 c2:Nat} {x1 x2:List Value}:∀ p∈[Pc.blk b t1 cs,Pc.blk bx t2 cs2,Pc.own e1 4 q1 n1 c1 x1,Pc.own e2 4 q2 n2 c2 x2],p.cells:=by
 intro p hp
 simp only [List.mem_cons,List.not_mem_nil,or_false] at hp
 rcases hp with rfl | rfl | rfl | rfl
 ·exact Pc.blk_cells _ _ _
 ·exact Pc.blk_cells _ _ _
 ·exact Pc.own_cells _ _ _ _ _ _
 ·exact Pc.own_cells _ _ _ _ _ _
theorem stepsIt (n1:Nat) (hn1:1≤n1) (k f t:Int) (pw:Option Addr) (nw cw:Nat) (ws:List ByteArray) (rad most:Int) (po:Option Addr) (no co:Nat) (O:List Int) (pt:Option Addr) (nt ct:Nat) (T:List Int) (pr:Option Addr) (nr cr:Nat) (R:List Int) (pv:Option Addr) (nv cv:Nat) (V:List Int) (pl:Option Addr) (nl cl:Nat) (hs:List Hd) (L:List Po) (wk:Nat) (pp:Option Addr) (np cp:Nat) (pk:List Int) (w0 w:World) (b bx:Nat) (pm:Option Addr) (nm cm:Nat) (n:Nat) (rn:Nat→List Sq × List Sq) (Bd:Nat→Prop) (hO:Rd w0 1 po no (encI O)) (hT:Rd w0 1 pt nt (encI T)) (hR:Rd w0 1 pr nr (encI R)) (hV:Rd w0 1 pv nv (encI V)) (hct:nt≤ct) (hcv:nv≤cv)
  (hL:RdP w0 pl nl hs L) (hW:Rd w0 1 pw nw (encS ws)) (hpk:Rd w0 1 pp np (encI pk)) (hck:checkR O T R V=true) (hn:O.length=n+1) (h200:n≤200) (h1:1≤wk) (h16:wk≤16)
  (hk:k=1∨k=2∨k=3) (ht:I64 t) (hcw:nw≤cw) (hnw:nw≤100) (hok:PoOk L)
  (hr0:(rn 0).1=[]) (hrn:∀ i,RunI n i (rn i)) (hrs:∀ i,rn (i+1)=stepM (nextL k rad true O T R V) (rn i).1 (rn i).2)
  (S0:Sep w0 w [Pc.blk b 87 #[.int .i64 k,.int .i64 f,.int .i64 t,.slice pw nw cw,.int .i64 rad,.int .i64 most,.slice po no co,.slice pt nt ct,.slice pr nr cr,.slice pv nv cv,.slice pl nl cl,.int .i64 wk,.slice pp np cp,.slice none 0 0,.slice pm nm cm],Pc.blk bx 82 #[.pointer (some ⟨b,0,none⟩)],Pc.own 146 4 none 0 0 (encQ (rn 0).1),Pc.own 138 4 pm nm cm (encQ (rn 0).2)]) (hBd:∀ k,Bd k→w0.heap.size≤k∧k<w.heap.size) (hBf:∀ p∈[Pc.blk b 87 #[.int .i64 k,.int .i64 f,.int .i64 t,.slice pw nw cw,.int .i64 rad,.int .i64 most,.slice po no co,.slice pt nt ct,.slice pr nr cr,.slice pv nv cv,.slice pl nl cl,.int .i64 wk,.slice pp np cp,.slice none 0 0,.slice pm nm cm],Pc.blk bx 82 #[.pointer (some ⟨b,0,none⟩)],Pc.own 146 4 none 0 0 (encQ (rn 0).1),Pc.own 138 4 pm nm cm (encQ (rn 0).2)],∀ k,p.foot k→¬ Bd k) :
  SeqD Fence.wide n1 Tryz.prog 93 #[.pointer (some ⟨bx,0,none⟩)] ydE (fun k=>k=b) (ydA k t L ws most rn) (KpN Bd w.heap.size) (fun _=>False) (fun _=>True) (fun pre=>pre.length<200) w:=by
 intro l J Jx W hW' hJ hJx hQ hY h0
 have HST:=Lib.hid (fun i (hi:i≤200) (W:World) (E:Ext w0 W) (ps:Option Addr) (ns cs:Nat) (pm:Option Addr) (nm cm:Nat) (hs:Rd W 4 ps ns (encQ (rn i).1)) (hm:Rd W 4 pm nm (encQ (rn i).2)) =>
  StepRun k f t pw nw cw rad most po no co O pt nt ct T pr nr cr R pv nv cv V W n i (rn i) ps ns cs pm nm cm wk pp np cp pk (hO.ext E) (hT.ext E) (hR.ext E) (hV.ext E) hct hcv hck hn h200 hi (hrn i) h1 h16 hs hm (hpk.ext E))
 have HLN:=Lib.hid (fun i=>And.intro (show (rn i).1.length≤400 by have:=run_most (hrn i).kst (fun x hx=>((hrn i).st x hx).1);omega) (show (rn i).2.length≤400 by have:=run_most (hrn i).kms (fun x hx=>((hrn i).ms x hx).1);omega))
 have hdn:∀ i (hi:i≤200) (ps:Option Addr) (ns cs:Nat) (pm:Option Addr) (nm cm:Nat),ns=(rn i).1.length→∃ b d F,AnsD k t L ws most (rn i) b d F∧∀ W,Ext w0 W→Rd W 4 ps ns (encQ (rn i).1)→Rd W 4 pm nm (encQ (rn i).2) →
   Calls Tryz.prog 95 #[.agg #[.int .i64 k,.int .i64 f,.int .i64 t,.slice pw nw cw,.int .i64 rad,.int .i64 most],.slice pl nl cl,.slice ps ns cs,.slice pm nm cm] W (DoneQ b d F (doneB k t (rn i)) W):=fun i hi ps ns cs pm nm cm hns=>by
  have hx:∀ x∈(rn i).1,x.I∧-1000000≤x.d∧x.d≤1000000:=fun x hx=>by
   obtain⟨⟨x1,x2,x3,x4⟩,x5,x6⟩:=(hrn i).st x hx
   refine⟨?_,by omega,by omega⟩
   unfold Sq.I I64
   have q1:IntKind.i64.min = -9223372036854775808:=rfl
   have q2:IntKind.i64.max=9223372036854775807:=rfl
   refine⟨?_,?_,?_,?_⟩ <;> (show (_ && _)=true;simp;omega)
  obtain⟨b,d,F,hA,hD⟩:=Done_run k f t pw nw cw ws rad most pl nl cl hs L ps ns cs (rn i).1 pm nm cm (rn i).2 hk ht hcw hnw hok (fun x h=>(hx x h).1) (fun x h=>(hx x h).2) (by have:=(HLN.out i).1;omega)
  exact⟨b,d,F,hA,fun W E g1 g2=>(hD W (hL.ext E) (hW.ext E) g1 g2).1⟩
 have HDN:=Lib.hid hdn
 have HRS:=Lib.hid hrs
 have hb0:w0.heap.size≤b:=S0.bge 0 rfl
 have hbw:b<w.heap.size:=(S0.blk 0 rfl).lt
 have hw0:w0.heap.size≤w.heap.size:=S0.ext.size
 have hws:=hW'.size
 have HBD:=Lib.hid hBd
 have SW:=Lib.hid (S0.call hW')
 have HBF:=Lib.hid hBf
 have HQ:=Lib.hid hQ
 have HR0:=Lib.hid hr0
 have HJ:=Lib.hid hJ;clear hJ
 have HY:=Lib.hid hY;clear hY
 clear hJx hO hT hR hV hct hcv hck hn h200 h1 h16 hpk hL hW hk ht hcw hnw hok hr0 hrn hrs S0 hBd hBf hdn hQ hW'
 refine callsIn_of_wp Tryz.func93 rfl trivial ?_ rfl
 simp only [Tryz.ntmps93,List.size_toArray,List.length_cons,List.length_nil,Nat.reduceAdd,Nat.reduceSub,Array.replicate_succ,Array.replicate_zero,List.push_toArray,List.append_toArray,List.nil_append,List.cons_append]
 gi_wp2
 gi_loopg [] 200 (fun g wr=>∃ (pre:List YdT) (ps:Option Addr) (ns cs:Nat) (pm:Option Addr) (nm cm:Nat),pre.length+g=200∧Hid (Sep w0 wr [Pc.blk b 87 #[.int .i64 k,.int .i64 f,.int .i64 t,.slice pw nw cw,.int .i64 rad,.int .i64 most,.slice po no co,.slice pt nt ct,.slice pr nr cr,.slice pv nv cv,.slice pl nl cl,.int .i64 wk,.slice pp np cp,.slice ps ns cs,.slice pm nm cm],Pc.blk bx 82 #[.pointer (some ⟨b,0,none⟩)],Pc.own 146 4 ps ns cs (encQ (rn pre.length).1),Pc.own 138 4 pm nm cm (encQ (rn pre.length).2)])∧Hid (∀ p∈[Pc.blk b 87 #[.int .i64 k,.int .i64 f,.int .i64 t,.slice pw nw cw,.int .i64 rad,.int .i64 most,.slice po no co,.slice pt nt ct,.slice pr nr cr,.slice pv nv cv,.slice pl nl cl,.int .i64 wk,.slice pp np cp,.slice ps ns cs,.slice pm nm cm],Pc.blk bx 82 #[.pointer (some ⟨b,0,none⟩)],Pc.own 146 4 ps ns cs (encQ (rn pre.length).1),Pc.own 138 4 pm nm cm (encQ (rn pre.length).2)],∀ k,p.foot k→¬ Bd k)∧Hid (J pre wr)∧W.heap.size≤wr.heap.size)
 case atStart =>
  refine⟨[],none,0,0,pm,nm,cm,rfl,SW.out,HBF.out,h0,Nat.le_refl _⟩
 case round =>
  clear h0 SW HBF HR0
  obtain⟨pre,ps,ns,cs,pm,nm,cm,hg,SS,HF,HJ1,hsz⟩:=hrel
  have hpl:=HQ.out pre wr HJ1.out
  clear HQ
  have HS1:=Lib.hid (SS.out.drew)
  have HE0:=Lib.hid (HST.out pre.length (by omega) wr.drew SS.out.drew.ext ps ns cs pm nm cm (SS.out.drew.rdx 2 rfl) (SS.out.drew.rdx 3 rfl))
  obtain⟨m,hm⟩:∃ m,pre.length=m:=⟨_,rfl⟩
  rw [hm] at HE0 HS1 SS HF hpl hg
  rw [← HRS.out m] at HE0
  obtain⟨Y,hY⟩:∃ Y,rn (m+1)=Y:=⟨_,rfl⟩
  rw [hY] at HE0
  have HRY:=Lib.hid hY
  clear hY
  have HM:=Lib.hid hm
  clear hm
  gi_wp2
  refine wpIn_wide.2 ?_
  refine wp_region_held_drew (S:=fun W=>Blk W b 87 #[.int .i64 k,.int .i64 f,.int .i64 t,.slice pw nw cw,.int .i64 rad,.int .i64 most,.slice po no co,.slice pt nt ct,.slice pr nr cr,.slice pv nv cv,.slice pl nl cl,.int .i64 wk,.slice pp np cp,.slice ps ns cs,.slice pm nm cm]∧Blk W bx 82 #[.pointer (some ⟨b,0,none⟩)]) (by kernel_rfl) ⟨HS1.out.blk 0 rfl,HS1.out.blk 1 rfl⟩ (fun hHeld=>?_)
  have hw2:W.heap.size≤wr.drew.heap.size:=hsz
  have HJ2:=Lib.hid (HJ.out pre wr wr.drew none HJ1.out (Ext.grown (Below.refl _ _).drew) (fun r e=>nomatch e))
  clear SS HJ1 hsz
  generalize wr.drew=D at HS1 HE0 hHeld hw2 HJ2 ⊢
  clear wr
  refine wpAnyH_take (i:=0) (v:=.pointer (some ⟨b,0,none⟩)) rfl (by kernel_rfl) (by kernel_rfl) (by kernel_rfl) (fun _ _ _ h=>h) (Or.inl ⟨by kernel_rfl,fun W hSw=>by have h0:=hSw.2.cell 0;have hz:=hSw.2.lt;clear hSw;go_simp⟩) hHeld ?_
  refine wpAnyH_take (i:=1) (v:=.pointer (some ⟨b,0,none⟩)) rfl (by kernel_rfl) (by kernel_rfl) (by kernel_rfl) (fun _ _ _ h=>h) (Or.inl ⟨by kernel_rfl,fun W hSw=>by have hz:=hSw.1.lt;have hy:=(show W.heap[b]?=_ from hSw.1);clear hSw;go_simp⟩) hHeld ?_
  refine wpAnyH_take (i:=2) (v:=.pointer (some ⟨b,0,none⟩)) rfl (by kernel_rfl) (by kernel_rfl) (by kernel_rfl) (fun _ _ _ h=>h) (Or.inl ⟨by kernel_rfl,fun W hSw=>by skip;clear hSw;go_simp⟩) hHeld ?_
  refine wpAnyH_take (i:=3) (v:=.agg #[.int .i64 k,.int .i64 f,.int .i64 t,.slice pw nw cw,.int .i64 rad,.int .i64 most]) rfl (by kernel_rfl) (by kernel_rfl) (by kernel_rfl) (fun _ _ _ h=>h) (Or.inl ⟨by kernel_rfl,fun W hSw=>by have h0:=hSw.1.cell 0;have h1:=hSw.1.cell 1;have h2:=hSw.1.cell 2;have h3:=hSw.1.cell 3;have h4:=hSw.1.cell 4;have h5:=hSw.1.cell 5;clear hSw;go_simp⟩) hHeld ?_
  refine wpAnyH_take (i:=4) (v:=.pointer (some ⟨b,0,none⟩)) rfl (by kernel_rfl) (by kernel_rfl) (by kernel_rfl) (fun _ _ _ h=>h) (Or.inl ⟨by kernel_rfl,fun W hSw=>by have h0:=hSw.2.cell 0;have hz:=hSw.2.lt;clear hSw;go_simp⟩) hHeld ?_
  refine wpAnyH_take (i:=5) (v:=.pointer (some ⟨b,0,none⟩)) rfl (by kernel_rfl) (by kernel_rfl) (by kernel_rfl) (fun _ _ _ h=>h) (Or.inl ⟨by kernel_rfl,fun W hSw=>by have hz:=hSw.1.lt;have hy:=(show W.heap[b]?=_ from hSw.1);clear hSw;go_simp⟩) hHeld ?_
  refine wpAnyH_take (i:=6) (v:=.pointer (some ⟨b,6,none⟩)) rfl (by kernel_rfl) (by kernel_rfl) (by kernel_rfl) (fun _ _ _ h=>h) (Or.inl ⟨by kernel_rfl,fun W hSw=>by skip;clear hSw;go_simp⟩) hHeld ?_
  refine wpAnyH_take (i:=7) (v:=.agg #[.slice po no co,.slice pt nt ct,.slice pr nr cr,.slice pv nv cv]) rfl (by kernel_rfl) (by kernel_rfl) (by kernel_rfl) (fun _ _ _ h=>h) (Or.inl ⟨by kernel_rfl,fun W hSw=>by have h0:=hSw.1.cell 6;have h1:=hSw.1.cell 7;have h2:=hSw.1.cell 8;have h3:=hSw.1.cell 9;clear hSw;go_simp⟩) hHeld ?_
  refine wpAnyH_take (i:=8) (v:=.pointer (some ⟨b,0,none⟩)) rfl (by kernel_rfl) (by kernel_rfl) (by kernel_rfl) (fun _ _ _ h=>h) (Or.inl ⟨by kernel_rfl,fun W hSw=>by have h0:=hSw.2.cell 0;have hz:=hSw.2.lt;clear hSw;go_simp⟩) hHeld ?_
  refine wpAnyH_take (i:=9) (v:=.pointer (some ⟨b,0,none⟩)) rfl (by kernel_rfl) (by kernel_rfl) (by kernel_rfl) (fun _ _ _ h=>h) (Or.inl ⟨by kernel_rfl,fun W hSw=>by have hz:=hSw.1.lt;have hy:=(show W.heap[b]?=_ from hSw.1);clear hSw;go_simp⟩) hHeld ?_
  refine wpAnyH_take (i:=10) (v:=.pointer (some ⟨b,13,none⟩)) rfl (by kernel_rfl) (by kernel_rfl) (by kernel_rfl) (fun _ _ _ h=>h) (Or.inl ⟨by kernel_rfl,fun W hSw=>by skip;clear hSw;go_simp⟩) hHeld ?_
  refine wpAnyH_take (i:=11) (v:=.slice ps ns cs) rfl (by kernel_rfl) (by kernel_rfl) (by kernel_rfl) (fun _ _ _ h=>h) (Or.inl ⟨by kernel_rfl,fun W hSw=>by have h0:=hSw.1.cell 13;clear hSw;go_simp⟩) hHeld ?_
  refine wpAnyH_take (i:=12) (v:=.pointer (some ⟨b,0,none⟩)) rfl (by kernel_rfl) (by kernel_rfl) (by kernel_rfl) (fun _ _ _ h=>h) (Or.inl ⟨by kernel_rfl,fun W hSw=>by have h0:=hSw.2.cell 0;have hz:=hSw.2.lt;clear hSw;go_simp⟩) hHeld ?_
  refine wpAnyH_take (i:=13) (v:=.pointer (some ⟨b,0,none⟩)) rfl (by kernel_rfl) (by kernel_rfl) (by kernel_rfl) (fun _ _ _ h=>h) (Or.inl ⟨by kernel_rfl,fun W hSw=>by have hz:=hSw.1.lt;have hy:=(show W.heap[b]?=_ from hSw.1);clear hSw;go_simp⟩) hHeld ?_
  refine wpAnyH_take (i:=14) (v:=.pointer (some ⟨b,14,none⟩)) rfl (by kernel_rfl) (by kernel_rfl) (by kernel_rfl) (fun _ _ _ h=>h) (Or.inl ⟨by kernel_rfl,fun W hSw=>by skip;clear hSw;go_simp⟩) hHeld ?_
  refine wpAnyH_take (i:=15) (v:=.slice pm nm cm) rfl (by kernel_rfl) (by kernel_rfl) (by kernel_rfl) (fun _ _ _ h=>h) (Or.inl ⟨by kernel_rfl,fun W hSw=>by have h0:=hSw.1.cell 14;clear hSw;go_simp⟩) hHeld ?_
  refine wpAnyH_take (i:=16) (v:=.pointer (some ⟨b,0,none⟩)) rfl (by kernel_rfl) (by kernel_rfl) (by kernel_rfl) (fun _ _ _ h=>h) (Or.inl ⟨by kernel_rfl,fun W hSw=>by have h0:=hSw.2.cell 0;have hz:=hSw.2.lt;clear hSw;go_simp⟩) hHeld ?_
  refine wpAnyH_take (i:=17) (v:=.pointer (some ⟨b,0,none⟩)) rfl (by kernel_rfl) (by kernel_rfl) (by kernel_rfl) (fun _ _ _ h=>h) (Or.inl ⟨by kernel_rfl,fun W hSw=>by have hz:=hSw.1.lt;have hy:=(show W.heap[b]?=_ from hSw.1);clear hSw;go_simp⟩) hHeld ?_
  refine wpAnyH_take (i:=18) (v:=.pointer (some ⟨b,11,none⟩)) rfl (by kernel_rfl) (by kernel_rfl) (by kernel_rfl) (fun _ _ _ h=>h) (Or.inl ⟨by kernel_rfl,fun W hSw=>by skip;clear hSw;go_simp⟩) hHeld ?_
  refine wpAnyH_take (i:=19) (v:=.int .i64 wk) rfl (by kernel_rfl) (by kernel_rfl) (by kernel_rfl) (fun _ _ _ h=>h) (Or.inl ⟨by kernel_rfl,fun W hSw=>by have h0:=hSw.1.cell 11;clear hSw;go_simp⟩) hHeld ?_
  refine wpAnyH_take (i:=20) (v:=.pointer (some ⟨b,0,none⟩)) rfl (by kernel_rfl) (by kernel_rfl) (by kernel_rfl) (fun _ _ _ h=>h) (Or.inl ⟨by kernel_rfl,fun W hSw=>by have h0:=hSw.2.cell 0;have hz:=hSw.2.lt;clear hSw;go_simp⟩) hHeld ?_
  refine wpAnyH_take (i:=21) (v:=.pointer (some ⟨b,0,none⟩)) rfl (by kernel_rfl) (by kernel_rfl) (by kernel_rfl) (fun _ _ _ h=>h) (Or.inl ⟨by kernel_rfl,fun W hSw=>by have hz:=hSw.1.lt;have hy:=(show W.heap[b]?=_ from hSw.1);clear hSw;go_simp⟩) hHeld ?_
  refine wpAnyH_take (i:=22) (v:=.pointer (some ⟨b,12,none⟩)) rfl (by kernel_rfl) (by kernel_rfl) (by kernel_rfl) (fun _ _ _ h=>h) (Or.inl ⟨by kernel_rfl,fun W hSw=>by skip;clear hSw;go_simp⟩) hHeld ?_
  refine wpAnyH_take (i:=23) (v:=.slice pp np cp) rfl (by kernel_rfl) (by kernel_rfl) (by kernel_rfl) (fun _ _ _ h=>h) (Or.inl ⟨by kernel_rfl,fun W hSw=>by have h0:=hSw.1.cell 12;clear hSw;go_simp⟩) hHeld ?_
  refine wpAnyH_ready (rs:=[24]) (by kernel_rfl) (by simp) (AllReadyH.cons rfl (fun K hK=>?_) AllReadyH.nil)
  go_simp
  refine HE0.out.mono ?_
  rintro e w1 ⟨q,c,q2,c2,rfl,Z⟩
  have S2:=Lib.hid (HS1.out.comp Z)
  have hw3:=Nat.le_trans hw2 Z.ext.size
  have HJ3:=Lib.hid (HJ.out pre D w1 none HJ2.out (Ext.grown Z.ext) (fun r e=>nomatch e))
  have HZN:=Lib.hid (fun p (hp:p∈[Pc.own 146 4 q Y.1.length c (encQ Y.1),Pc.own 138 4 q2 Y.2.length c2 (encQ Y.2)]) k (hk:p.foot k)=>Z.new p hp k hk)
  clear Z HJ2 HE0
  refine hK.out _ _ ⟨S2.out.blk 2 rfl,S2.out.blk 3 rfl⟩ (fun hHeld=>?_)
  clear hK
  refine wpAnyH_take (i:=25) (v:=.tuple #[.slice q Y.1.length c,.slice q2 Y.2.length c2,.int .i64 0]) rfl (by kernel_rfl) (by kernel_rfl) (by kernel_rfl) (fun _ _ _ h=>h) (Or.inl ⟨by kernel_rfl,fun W hSw=>by skip;clear hSw;go_simp⟩) hHeld ?_
  refine wpAnyH_take (i:=26) (v:=.slice q Y.1.length c) rfl (by kernel_rfl) (by kernel_rfl) (by kernel_rfl) (fun _ _ _ h=>h) (Or.inl ⟨by kernel_rfl,fun W hSw=>by skip;clear hSw;go_simp⟩) hHeld ?_
  refine wpAnyH_take (i:=27) (v:=.slice q2 Y.2.length c2) rfl (by kernel_rfl) (by kernel_rfl) (by kernel_rfl) (fun _ _ _ h=>h) (Or.inl ⟨by kernel_rfl,fun W hSw=>by skip;clear hSw;go_simp⟩) hHeld ?_
  refine wpAnyH_take (i:=28) (v:=.int .i64 0) rfl (by kernel_rfl) (by kernel_rfl) (by kernel_rfl) (fun _ _ _ h=>h) (Or.inl ⟨by kernel_rfl,fun W hSw=>by skip;clear hSw;go_simp⟩) hHeld ?_
  refine wpAnyH_take (i:=29) (v:=.slice q Y.1.length c) rfl (by kernel_rfl) (by kernel_rfl) (by kernel_rfl) (fun _ _ _ h=>h) (Or.inl ⟨by kernel_rfl,fun W hSw=>by skip;clear hSw;go_simp⟩) hHeld ?_
  refine wpAnyH_take (i:=30) (v:=.slice q2 Y.2.length c2) rfl (by kernel_rfl) (by kernel_rfl) (by kernel_rfl) (fun _ _ _ h=>h) (Or.inl ⟨by kernel_rfl,fun W hSw=>by skip;clear hSw;go_simp⟩) hHeld ?_
  refine wpAnyH_take (i:=31) (v:=.int .i64 0) rfl (by kernel_rfl) (by kernel_rfl) (by kernel_rfl) (fun _ _ _ h=>h) (Or.inl ⟨by kernel_rfl,fun W hSw=>by skip;clear hSw;go_simp⟩) hHeld ?_
  refine wpAnyH_done (by kernel_rfl) ?_ _
  clear hHeld
  simp [Act.put]
  gi_wp2
  have HB3:=Lib.hid (S2.out.blk 2 rfl)
  have HB4:=Lib.hid (S2.out.blk 3 rfl)
  refine wpIn_wide.2 ?_
  refine wp_region_held_drew (S:=fun W=>(∃ cs,Blk W b 87 cs)∧Blk W bx 82 #[.pointer (some ⟨b,0,none⟩)]) (by kernel_rfl) ⟨⟨_,HB3.out.ext (Below.refl _ _).drew⟩,HB4.out.ext (Below.refl _ _).drew⟩ (fun hHeld=>?_)
  have SD:=Lib.hid S2.out.drew
  have hw4:W.heap.size≤w1.drew.heap.size:=hw3
  have HJ4:=Lib.hid (HJ.out pre w1 w1.drew none HJ3.out (Ext.grown (Below.refl _ _).drew) (fun r e=>nomatch e))
  clear S2 HJ3 HB3 HB4 hw3
  generalize w1.drew=D2 at SD hHeld hw4 HJ4 ⊢
  clear w1 HS1
  refine wpAnyH_take (i:=0) (v:=.pointer (some ⟨b,0,none⟩)) rfl (by kernel_rfl) (by kernel_rfl) (by kernel_rfl) (fun _ _ _ h=>h) (Or.inl ⟨by kernel_rfl,fun W hSw=>by have h0:=hSw.2.cell 0;have hz:=hSw.2.lt;clear hSw;go_simp⟩) hHeld ?_
  refine wpAnyH_take (i:=1) (v:=.pointer (some ⟨b,0,none⟩)) rfl (by kernel_rfl) (by kernel_rfl) (by kernel_rfl) (fun _ _ _ h=>h) (Or.inl ⟨by kernel_rfl,fun W hSw=>by have h0:=hSw.2.cell 0;have hz:=hSw.2.lt;clear hSw;go_simp⟩) hHeld ?_
  refine wpAnyH_take (i:=2) (v:=.slice q Y.1.length c) rfl (by kernel_rfl) (by kernel_rfl) (by kernel_rfl) (fun _ _ _ h=>h) (Or.inl ⟨by kernel_rfl,fun W hSw=>by skip;clear hSw;go_simp⟩) hHeld ?_
  refine wpAnyH_take (i:=3) (v:=.slice q2 Y.2.length c2) rfl (by kernel_rfl) (by kernel_rfl) (by kernel_rfl) (fun _ _ _ h=>h) (Or.inl ⟨by kernel_rfl,fun W hSw=>by skip;clear hSw;go_simp⟩) hHeld ?_
  refine wpAnyH_take (i:=4) (v:=.pointer (some ⟨b,0,none⟩)) rfl (by kernel_rfl) (by kernel_rfl) (by kernel_rfl) (fun _ _ _ h=>h) (Or.inl ⟨by kernel_rfl,fun W hSw=>by obtain⟨cs0,hcs0⟩:=hSw.1;have hz:=hcs0.lt;have hy:=(show W.heap[b]?=_ from hcs0);clear hSw;go_simp⟩) hHeld ?_
  refine wpAnyH_take (i:=5) (v:=.pointer (some ⟨b,13,none⟩)) rfl (by kernel_rfl) (by kernel_rfl) (by kernel_rfl) (fun _ _ _ h=>h) (Or.inl ⟨by kernel_rfl,fun W hSw=>by skip;clear hSw;go_simp⟩) hHeld ?_
  obtain⟨c13,c13z,c13f⟩:=bkc13lz13 (SD.out.blk 2 rfl)
  refine wpAnyH_ready (rs:=[6]) (by kernel_rfl) (by simp) (AllReadyH.cons rfl (fun K hK=>?_) AllReadyH.nil)
  go_simp
  clear c13 c13z c13f
  have S3:=Lib.hid (show Sep w0 (D2.setCell ⟨b,13,none⟩ (.slice q Y.1.length c)) [Pc.own 146 4 q Y.1.length c (encQ Y.1),Pc.own 138 4 q2 Y.2.length c2 (encQ Y.2),.blk b 87 #[.int .i64 k,.int .i64 f,.int .i64 t,.slice pw nw cw,.int .i64 rad,.int .i64 most,.slice po no co,.slice pt nt ct,.slice pr nr cr,.slice pv nv cv,.slice pl nl cl,.int .i64 wk,.slice pp np cp,.slice q Y.1.length c,.slice pm nm cm],.blk bx 82 #[.pointer (some ⟨b,0,none⟩)]] from(SD.out.set 2 rfl 13 (.slice q Y.1.length c)).pick [0,1,2,3] (by decide) rfl)
  clear hHeld
  refine hK.out _ _ ⟨⟨_,S3.out.blk 2 rfl⟩,S3.out.blk 3 rfl⟩ (fun hHeld=>?_)
  clear hK
  refine wpAnyH_take (i:=7) (v:=.pointer (some ⟨b,0,none⟩)) rfl (by kernel_rfl) (by kernel_rfl) (by kernel_rfl) (fun _ _ _ h=>h) (Or.inl ⟨by kernel_rfl,fun W hSw=>by obtain⟨cs0,hcs0⟩:=hSw.1;have hz:=hcs0.lt;have hy:=(show W.heap[b]?=_ from hcs0);clear hSw;go_simp⟩) hHeld ?_
  refine wpAnyH_take (i:=8) (v:=.pointer (some ⟨b,14,none⟩)) rfl (by kernel_rfl) (by kernel_rfl) (by kernel_rfl) (fun _ _ _ h=>h) (Or.inl ⟨by kernel_rfl,fun W hSw=>by skip;clear hSw;go_simp⟩) hHeld ?_
  obtain⟨c14,c14z,c14f⟩:=bkc14lz14 (S3.out.blk 2 rfl)
  have hw5:W.heap.size≤(D2.setCell ⟨b,13,none⟩ (.slice q Y.1.length c)).heap.size:=Nat.le_trans hw4 (grown_set ..).size
  have HJ5:=Lib.hid (HJ.out pre D2 _ (some b) HJ4.out (grown_set D2 ⟨b,13,none⟩ (.slice q Y.1.length c)) (fun r e=>Or.inr (by injection e with e;exact e.symm)))
  clear HJ4 hw4 SD
  generalize D2.setCell ⟨b,13,none⟩ (.slice q Y.1.length c)=D3 at S3 hHeld hw5 HJ5 c14 c14z c14f ⊢
  clear D2
  refine wpAnyH_ready (rs:=[9]) (by kernel_rfl) (by simp) (AllReadyH.cons rfl (fun K hK=>?_) AllReadyH.nil)
  go_simp
  clear c14 c14z c14f
  have S4:=Lib.hid (show Sep w0 (D3.setCell ⟨b,14,none⟩ (.slice q2 Y.2.length c2)) [Pc.own 146 4 q Y.1.length c (encQ Y.1),Pc.own 138 4 q2 Y.2.length c2 (encQ Y.2),.blk b 87 #[.int .i64 k,.int .i64 f,.int .i64 t,.slice pw nw cw,.int .i64 rad,.int .i64 most,.slice po no co,.slice pt nt ct,.slice pr nr cr,.slice pv nv cv,.slice pl nl cl,.int .i64 wk,.slice pp np cp,.slice q Y.1.length c,.slice q2 Y.2.length c2],.blk bx 82 #[.pointer (some ⟨b,0,none⟩)]] from S3.out.set 2 rfl 14 (.slice q2 Y.2.length c2))
  clear hHeld
  refine hK.out _ _ ⟨⟨_,S4.out.blk 2 rfl⟩,S4.out.blk 3 rfl⟩ (fun hHeld=>?_)
  have hw6:W.heap.size≤(D3.setCell ⟨b,14,none⟩ (.slice q2 Y.2.length c2)).heap.size:=Nat.le_trans hw5 (grown_set ..).size
  have HJ6:=Lib.hid (HJ.out pre D3 _ (some b) HJ5.out (grown_set D3 ⟨b,14,none⟩ (.slice q2 Y.2.length c2)) (fun r e=>Or.inr (by injection e with e;exact e.symm)))
  have S5:=Lib.hid (S4.out.pick [2,3,0,1] (by decide) rfl)
  clear hK S4 S3 HJ5 hw5
  refine wpAnyH_done (by kernel_rfl) ?_ _
  clear hHeld
  generalize D3.setCell ⟨b,14,none⟩ (.slice q2 Y.2.length c2)=D4 at S5 hw6 HJ6 ⊢
  clear D3
  gi_wp2
  have SE:=Lib.hid S5.out.drew
  have hw7:W.heap.size≤D4.drew.heap.size:=hw6
  have HJ7:=Lib.hid (HJ.out pre D4 D4.drew none HJ6.out (Ext.grown (Below.refl _ _).drew) (fun r e=>nomatch e))
  have hl1:Y.1.length=(rn (m+1)).1.length:=by rw [HRY.out]
  obtain⟨yb,yd,yF,hAn,hDn⟩:=HDN.out (m+1) (by omega) q Y.1.length c q2 Y.2.length c2 hl1
  have hDn:=hDn D4.drew SE.out.ext (by rw [HRY.out];exact SE.out.rdx 2 rfl) (by rw [HRY.out];exact SE.out.rdx 3 rfl)
  have HAN:=Lib.hid hAn
  have HD:=Lib.hid hDn
  clear hAn hDn hl1
  obtain⟨dn,hdn⟩:∃ dn,doneB k t (rn (m+1))=dn:=⟨_,rfl⟩
  rw [hdn] at HD
  have HDB:=Lib.hid hdn
  clear hdn
  refine wpIn_region_heldI 14 (S:=fun W=>Blk W b 87 #[.int .i64 k,.int .i64 f,.int .i64 t,.slice pw nw cw,.int .i64 rad,.int .i64 most,.slice po no co,.slice pt nt ct,.slice pr nr cr,.slice pv nv cv,.slice pl nl cl,.int .i64 wk,.slice pp np cp,.slice q Y.1.length c,.slice q2 Y.2.length c2]∧Blk W bx 82 #[.pointer (some ⟨b,0,none⟩)]) (by kernel_rfl) ⟨SE.out.blk 0 rfl,SE.out.blk 1 rfl⟩ (fun hHeld=>?_)
  clear S5 hw6 HJ6
  generalize D4.drew=D5 at SE HD hHeld hw7 HJ7 ⊢
  refine wpAnyHI_take [14] (i:=0) (v:=.func (.yield l) #[] #[]) rfl rfl (by kernel_rfl) (by kernel_rfl) (by kernel_rfl) (by kernel_rfl) (fun _ _ _ h=>h) ⟨Or.inl ⟨by kernel_rfl,fun W hSw=>by skip;clear hSw;go_simp⟩,fun _ _=>rfl⟩ hHeld ?_
  refine wpAnyHI_take [2,3,4,11,12,14] (i:=1) (v:=.pointer (some ⟨b,0,none⟩)) rfl rfl (by kernel_rfl) (by kernel_rfl) (by kernel_rfl) (by kernel_rfl) (fun _ _ _ h=>h) ⟨Or.inl ⟨by kernel_rfl,fun W hSw=>by have h0:=hSw.2.cell 0;have hz:=hSw.2.lt;clear hSw;go_simp⟩,fun _ _=>rfl⟩ hHeld ?_
  refine wpAnyHI_take [3,4,11,12,14] (i:=2) (v:=.pointer (some ⟨b,0,none⟩)) rfl rfl (by kernel_rfl) (by kernel_rfl) (by kernel_rfl) (by kernel_rfl) (fun _ _ _ h=>h) ⟨Or.inl ⟨by kernel_rfl,fun W hSw=>by have hz:=hSw.1.lt;have hy:=(show W.heap[b]?=_ from hSw.1);clear hSw;go_simp⟩,fun _ _=>rfl⟩ hHeld ?_
  refine wpAnyHI_take [4,11,12,14] (i:=3) (v:=.pointer (some ⟨b,0,none⟩)) rfl rfl (by kernel_rfl) (by kernel_rfl) (by kernel_rfl) (by kernel_rfl) (fun _ _ _ h=>h) ⟨Or.inl ⟨by kernel_rfl,fun W hSw=>by skip;clear hSw;go_simp⟩,fun _ _=>rfl⟩ hHeld ?_
  refine wpAnyHI_take [11,12,14] (i:=4) (v:=.agg #[.int .i64 k,.int .i64 f,.int .i64 t,.slice pw nw cw,.int .i64 rad,.int .i64 most]) rfl rfl (by kernel_rfl) (by kernel_rfl) (by kernel_rfl) (by kernel_rfl) (fun _ _ _ h=>h) ⟨Or.inl ⟨by kernel_rfl,fun W hSw=>by have h0:=hSw.1.cell 0;have h1:=hSw.1.cell 1;have h2:=hSw.1.cell 2;have h3:=hSw.1.cell 3;have h4:=hSw.1.cell 4;have h5:=hSw.1.cell 5;clear hSw;go_simp⟩,fun _ _=>rfl⟩ hHeld ?_
  refine wpAnyHI_take [6,7,8,11,12,14] (i:=5) (v:=.pointer (some ⟨b,0,none⟩)) rfl rfl (by kernel_rfl) (by kernel_rfl) (by kernel_rfl) (by kernel_rfl) (fun _ _ _ h=>h) ⟨Or.inl ⟨by kernel_rfl,fun W hSw=>by have h0:=hSw.2.cell 0;have hz:=hSw.2.lt;clear hSw;go_simp⟩,fun _ _=>rfl⟩ hHeld ?_
  refine wpAnyHI_take [7,8,11,12,14] (i:=6) (v:=.pointer (some ⟨b,0,none⟩)) rfl rfl (by kernel_rfl) (by kernel_rfl) (by kernel_rfl) (by kernel_rfl) (fun _ _ _ h=>h) ⟨Or.inl ⟨by kernel_rfl,fun W hSw=>by have hz:=hSw.1.lt;have hy:=(show W.heap[b]?=_ from hSw.1);clear hSw;go_simp⟩,fun _ _=>rfl⟩ hHeld ?_
  refine wpAnyHI_take [8,11,12,14] (i:=7) (v:=.pointer (some ⟨b,10,none⟩)) rfl rfl (by kernel_rfl) (by kernel_rfl) (by kernel_rfl) (by kernel_rfl) (fun _ _ _ h=>h) ⟨Or.inl ⟨by kernel_rfl,fun W hSw=>by skip;clear hSw;go_simp⟩,fun _ _=>rfl⟩ hHeld ?_
  refine wpAnyHI_take [11,12,14] (i:=8) (v:=.slice pl nl cl) rfl rfl (by kernel_rfl) (by kernel_rfl) (by kernel_rfl) (by kernel_rfl) (fun _ _ _ h=>h) ⟨Or.inl ⟨by kernel_rfl,fun W hSw=>by have h0:=hSw.1.cell 10;clear hSw;go_simp⟩,fun _ _=>rfl⟩ hHeld ?_
  refine wpAnyHI_take [11,12,14] (i:=9) (v:=.slice q Y.1.length c) rfl rfl (by kernel_rfl) (by kernel_rfl) (by kernel_rfl) (by kernel_rfl) (fun _ _ _ h=>h) ⟨Or.inl ⟨by kernel_rfl,fun W hSw=>by skip;clear hSw;go_simp⟩,fun _ _=>rfl⟩ hHeld ?_
  refine wpAnyHI_take [11,12,14] (i:=10) (v:=.slice q2 Y.2.length c2) rfl rfl (by kernel_rfl) (by kernel_rfl) (by kernel_rfl) (by kernel_rfl) (fun _ _ _ h=>h) ⟨Or.inl ⟨by kernel_rfl,fun W hSw=>by skip;clear hSw;go_simp⟩,fun _ _=>rfl⟩ hHeld ?_
  refine wpAnyHI_one (i:=11) (by kernel_rfl) rfl (by decide) (fun K hK=>?_)
  go_simp
  refine⟨trivial,callsIn_wide.2 (HD.out.mono ?_)⟩
  rintro e w6 ⟨hq,hc,rfl,Z⟩
  have S6:=Lib.hid (SE.out.comp Z)
  have hw8:=Nat.le_trans hw7 Z.ext.size
  obtain⟨fn,tmps,assign,body,hy,hR⟩:=HY.out pre ⟨yb,yd,yF,hq,hc,dn⟩ D5 w6 HJ7.out Z.ext ⟨Z,by rw [HM.out];exact HAN.out,by rw [HM.out];exact HDB.out.symm⟩
  have hy2:(Instr.yield l #[.agg #[.bool yb,.int .i64 yd,.slice hq yF.length hc],.bool dn]).run Tryz.prog w6=_:=hy
  have HR:=Lib.hid hR
  clear hy Z hHeld hR HD SE HJ7
  refine hK _ _ ⟨S6.out.blk 1 rfl,S6.out.blk 2 rfl⟩ ?_
  clear hK
  have hHeld:=And.intro (S6.out.blk 1 rfl) (S6.out.blk 2 rfl)
  refine wpAnyHI_take [14] (i:=12) (v:=.agg #[.bool yb,.int .i64 yd,.slice hq yF.length hc]) rfl rfl (by kernel_rfl) (by kernel_rfl) (by kernel_rfl) (by kernel_rfl) (fun _ _ _ h=>h) ⟨Or.inl ⟨by kernel_rfl,fun W hSw=>by skip;clear hSw;go_simp⟩,fun _ _=>rfl⟩ hHeld ?_
  refine wpAnyHI_take [14] (i:=13) (v:=.bool dn) rfl rfl (by kernel_rfl) (by kernel_rfl) (by kernel_rfl) (by kernel_rfl) (fun _ _ _ h=>h) ⟨Or.inl ⟨by kernel_rfl,fun W hSw=>by skip;clear hSw;go_simp⟩,fun _ _=>rfl⟩ hHeld ?_
  clear hHeld
  refine wpAnyHI_last (by kernel_rfl) rfl (fun K hK=>?_)
  go_simp
  refine HR.out.mono ?_
  clear HR hy2
  rintro e W3 (⟨rfl,hJ3,hk3⟩ | ⟨rfl,hJx3⟩)
  ·have HJ8:=Lib.hid hJ3
   have HK3:=Lib.hid hk3
   clear hJ3 hk3
   refine hK _ _ ?_
   clear hK
   refine wpAnyIn_take (i:=15) (v:=.bool false) rfl rfl (by kernel_rfl) (by kernel_rfl) (by kernel_rfl) (fun _ _ _ h=>h) ⟨Or.inl ⟨by kernel_rfl,fun W=>by go_simp⟩,fun _=>rfl⟩ ?_
   refine wpAnyIn_done (by kernel_rfl) ?_ _
   gi_wp2
   have HF3:Hid (∀ p∈[Pc.blk b 87 #[.int .i64 k,.int .i64 f,.int .i64 t,.slice pw nw cw,.int .i64 rad,.int .i64 most,.slice po no co,.slice pt nt ct,.slice pr nr cr,.slice pv nv cv,.slice pl nl cl,.int .i64 wk,.slice pp np cp,.slice q Y.1.length c,.slice q2 Y.2.length c2],Pc.blk bx 82 #[.pointer (some ⟨b,0,none⟩)],Pc.own 146 4 q Y.1.length c (encQ Y.1),Pc.own 138 4 q2 Y.2.length c2 (encQ Y.2)],∀ k,p.foot k→¬ Bd k):=fun p hp k hk hb=>by
    have h3:=(HBD.out k hb).2
    simp only [List.mem_cons,List.not_mem_nil,or_false] at hp
    rcases hp with rfl | rfl | rfl | rfl
    ·exact HF.out _ (List.mem_cons_self ..) k hk hb
    ·exact HF.out _ (List.mem_cons_of_mem _ (List.mem_cons_self ..)) k hk hb
    ·have:=HZN.out _ (List.mem_cons_self ..) k hk
     omega
    ·have:=HZN.out _ (List.mem_cons_of_mem _ (List.mem_cons_self ..)) k hk
     omega
   have S7:=Lib.hid ((S6.out.pick (Δ:=[Pc.blk b 87 #[.int .i64 k,.int .i64 f,.int .i64 t,.slice pw nw cw,.int .i64 rad,.int .i64 most,.slice po no co,.slice pt nt ct,.slice pr nr cr,.slice pv nv cv,.slice pl nl cl,.int .i64 wk,.slice pp np cp,.slice q Y.1.length c,.slice q2 Y.2.length c2],Pc.blk bx 82 #[.pointer (some ⟨b,0,none⟩)],Pc.own 146 4 q Y.1.length c (encQ Y.1),Pc.own 138 4 q2 Y.2.length c2 (encQ Y.2)]) [1,2,3,4] (by decide) rfl).kpN gst_cells HF3.out (fun k hb=>(HBD.out k hb).1) hw0 HK3.out)
   have hs9:W.heap.size≤W3.heap.size:=Nat.le_trans hw8 HK3.out.size
   gi_roundg (gk - 1)
   case rel =>
    have e:(pre ++ [(⟨yb,yd,yF,hq,hc,dn⟩:YdT)]).length=m+1:=by rw [List.length_append,HM.out];rfl
    exact⟨pre ++ [(⟨yb,yd,yF,hq,hc,dn⟩:YdT)],q,Y.1.length,c,q2,Y.2.length,c2,by rw [e];omega,by rw [e,HRY.out];exact S7.out,by rw [e,HRY.out];exact HF3.out,HJ8.out,hs9⟩
   case measure=>omega
  ·have HX3:=Lib.hid hJx3
   clear hJx3
   refine hK _ _ ?_
   clear hK
   refine wpAnyIn_take (i:=15) (v:=.bool true) rfl rfl (by kernel_rfl) (by kernel_rfl) (by kernel_rfl) (fun _ _ _ h=>h) ⟨Or.inl ⟨by kernel_rfl,fun W=>by go_simp⟩,fun _=>rfl⟩ ?_
   refine wpAnyIn_done (by kernel_rfl) ?_ _
   gi_wp2
   refine bodyPost_ret (results_none rfl _ _ _) rfl ?_
   exact⟨⟨_,rfl⟩,.inr ⟨_,trivial,HX3.out⟩⟩
end
section
open Go Go.RowKit
def chkJ (ck:Bool) (k f t:Int) (ws:List ByteArray) (rad most:Int) (n:Nat):Int:=if ck=true then chkQ k f t ws rad most ((n:Int) - 1) else 40
theorem CheckJ (k f t:Int) (pw:Option Addr) (nw cw:Nat) (ws:List ByteArray) (rad most:Int) (po:Option Addr) (no co:Nat) (O:List Int) (pt:Option Addr) (nt ct:Nat) (T:List Int) (pr:Option Addr) (nr cr:Nat) (R:List Int) (pv:Option Addr) (nv cv:Nat) (V:List Int) (w:World) (hO:Rd w 1 po no (encI O)) (hT:Rd w 1 pt nt (encI T)) (hR:Rd w 1 pr nr (encI R)) (hV:Rd w 1 pv nv (encI V)) (hct:nt≤ct) (hcv:nv≤cv) (hW:Rd w 1 pw nw (encS ws)) (hz:∀ s∈ws,s.size≤1000000) (h1000:no≤1000) :
  Calls Tryz.prog 49 #[.agg #[.int .i64 k,.int .i64 f,.int .i64 t,.slice pw nw cw,.int .i64 rad,.int .i64 most],.agg #[.slice po no co,.slice pt nt ct,.slice pr nr cr,.slice pv nv cv]] w fun e w'=>e=.returned (.int .i64 (chkJ (checkR O T R V) k f t ws rad most no))∧Ext w w':=by
 have HCK:=Lib.hid (fun W (h:Ext w W)=>CheckR po no co O pt nt ct T pr nr cr R pv nv cv V W (hO.ext h) (hT.ext h) (hR.ext h) (hV.ext h) hct hcv)
 have HQ:=Lib.hid (fun W (h:Ext w W)=>CheckQ k f t pw nw cw ws rad most ((no:Int) - 1) W (hW.ext h) hz)
 have S0:=Lib.hid (((Sep.start w).al #[.int .i64 k,.int .i64 f,.int .i64 t,.slice pw nw cw,.int .i64 rad,.int .i64 most] 24 w.heap.size rfl).al #[.slice po no co,.slice pt nt ct,.slice pr nr cr,.slice pv nv cv] 27 (w.heap.size+1) (by simp))
 clear hO hT hR hV hct hcv hW hz
 obtain⟨ck,hck⟩:∃ ck,checkR O T R V=ck:=⟨_,rfl⟩
 rw [hck] at HCK ⊢
 obtain⟨x,hx⟩:∃ x,chkQ k f t ws rad most ((no:Int) - 1)=x:=⟨_,rfl⟩
 rw [hx] at HQ
 have e1:chkJ ck k f t ws rad most no=if ck=true then x else 40:=by unfold chkJ;rw [hx]
 rw [e1]
 clear e1 hx hck
 go_enter Tryz.func49,Tryz.ntmps49
 cases ck with
 | false =>
  go_wp2_with (go_at_call 82;go_must (refine(HCK.out _ S0.out.ext).mono ?_;rintro e w1 ⟨rfl,hb⟩;have S1:=Lib.hid (S0.out.call hb);clear hb))
  go_ret
  exact⟨rfl,S1.out.ext⟩
 | true =>
  go_wp2_with (first | (go_at_call 82;go_must (refine(HCK.out _ S0.out.ext).mono ?_;rintro e w1 ⟨rfl,hb⟩;have S1:=Lib.hid (S0.out.call hb);obtain⟨b0,b1,b2,b3,b4,b5,bz⟩:=bkc0c1c2c3c4c5l (S1.out.blk 1 rfl);obtain⟨c0,cz⟩:=bkc0l (S1.out.blk 0 rfl);clear hb)) | (go_at_call 76;go_must (refine(HQ.out _ S1.out.ext).mono ?_;rintro e w2 ⟨rfl,hb⟩;have S2:=Lib.hid (S1.out.call hb);clear hb)))
  go_ret
  exact⟨rfl,S2.out.ext⟩
end
section
open Go
theorem wpIn_region_heldR {F:Fence} {n r:Nat} {P:Program} {ops:Array Oper} {Q:Exit→Act→World→Prop} {S:World→Prop} (y:Nat) {id:Nat} {a:Act} {w:World} (hro:F.round=none) (hnd:∀ (i:Nat) (o:Oper),ops[i]?=some o→∀ c,o.op≠.defer c) (hm:P.follows .mixedOrders=true) (hS:S w.drew)
  (h:S w.drew→wpAnyHI F n P .any ops Q S y ops.size (Array.replicate ops.size false) a w.drew):(Code.region id ops true).wpIn (F.inRound r) n P Q a w :=
 wpIn_region_any hm (wpAnyIn_round hro hnd _ _ _ _ (wpAnyIn_of_heldI _ _ _ _ (h hS)))
theorem noDefer_arr {ops:Array Oper} (h:ops.toList.all noDefer=true) (i:Nat) (o:Oper) (hi:ops[i]?=some o) (c):o.op≠.defer c:=by
 intro e
 have:=List.all_eq_true.1 h o (Array.mem_toList_iff.2 (Array.mem_of_getElem? hi))
 unfold noDefer at this
 rw [e] at this
 cases this
end
section
open Go Go.RowKit
def frRun (a10 a12 a13 a14 a19 a20 a21:Value) (b:Act):Prop:=∃ u0 u1 u2 u3 u4 u5 u6 u7 u8 u9 u11 u15 u16 u17 u18 u22 u23 u24 u25 u26 u27 u28 u29 u30 u31 u32 u33 u34 u35 u36 u37 u38 u39 u40 u41 u42 u43 u44 u45 u46 u47 u48 u49 u50 u51 u52 u53 u54 u55 u56 u57 u58 u59 u60 u61 u62 u63 u64 u65 u66:Value,b={ tmps:=#[u0,u1,u2,u3,u4,u5,u6,u7,u8,u9,a10,u11,a12,a13,a14,u15,u16,u17,u18,a19,a20,a21,u22,u23,u24,u25,u26,u27,u28,u29,u30,u31,u32,u33,u34,u35,u36,u37,u38,u39,u40,u41,u42,u43,u44,u45,u46,u47,u48,u49,u50,u51,u52,u53,u54,u55,u56,u57,u58,u59,u60,u61,u62,u63,u64,u65,u66],defers:=[] }
theorem frRun_of {a10 a12 a13 a14 a19 a20 a21 u0 u1 u2 u3 u4 u5 u6 u7 u8 u9 u11 u15 u16 u17 u18 u22 u23 u24 u25 u26 u27 u28 u29 u30 u31 u32 u33 u34 u35 u36 u37 u38 u39 u40 u41 u42 u43 u44 u45 u46 u47 u48 u49 u50 u51 u52 u53 u54 u55 u56 u57 u58 u59 u60 u61 u62 u63 u64 u65 u66:Value}:frRun a10 a12 a13 a14 a19 a20 a21 { tmps:=#[u0,u1,u2,u3,u4,u5,u6,u7,u8,u9,a10,u11,a12,a13,a14,u15,u16,u17,u18,a19,a20,a21,u22,u23,u24,u25,u26,u27,u28,u29,u30,u31,u32,u33,u34,u35,u36,u37,u38,u39,u40,u41,u42,u43,u44,u45,u46,u47,u48,u49,u50,u51,u52,u53,u54,u55,u56,u57,u58,u59,u60,u61,u62,u63,u64,u65,u66],defers:=[] }:=⟨u0,u1,u2,u3,u4,u5,u6,u7,u8,u9,u11,u15,u16,u17,u18,u22,u23,u24,u25,u26,u27,u28,u29,u30,u31,u32,u33,u34,u35,u36,u37,u38,u39,u40,u41,u42,u43,u44,u45,u46,u47,u48,u49,u50,u51,u52,u53,u54,u55,u56,u57,u58,u59,u60,u61,u62,u63,u64,u65,u66,rfl⟩
end
section
open Go Go.RowKit
attribute [local go_sem] Oper.semAt_some
def RunQ (b:Bool) (d:Int) (F:List (Int × Int)) (n e:Int) (w:World) (x:Ending) (w':World):Prop:=∃ q c',x=.returned (.tuple #[.agg #[.bool b,.int .i64 d,.slice q F.length c'],.int .i64 n,.int .i64 e])∧Sep w w' [.own 105 2 q F.length c' (encE F)]
def RunR (k t:Int) (L:List Po) (ws:List ByteArray) (most bud:Int) (m:Nat) (p:List Sq × List Sq) (w:World) (x:Ending) (w':World):Prop :=
 ∃ b d F,((m:Int)+1≤bud→AnsD k t L ws most p b d F∧RunQ b d F ((m:Int)+1) 0 w x w')∧(bud<(m:Int)+1→RunQ false 0 [] bud 251 w x w')
theorem gi_cells {a1 a2 a3 a4 a5:Nat} {t1 t2 t3 t4 t5:TypeId} {c1 c2 c3 c4 c5:Array Value}:∀ p∈[Pc.blk a1 t1 c1,Pc.blk a2 t2 c2,Pc.blk a3 t3 c3,Pc.blk a4 t4 c4,Pc.blk a5 t5 c5],p.cells:=by
 intro p hp
 simp only [List.mem_cons,List.not_mem_nil,or_false] at hp
 rcases hp with rfl | rfl | rfl | rfl | rfl <;> exact Pc.blk_cells _ _ _
theorem gi_feet {a1 a2 a3 a4 a5 b:Nat} {t1 t2 t3 t4 t5:TypeId} {c1 c2 c3 c4 c5:Array Value} (h:a1≠b∧a2≠b∧a3≠b∧a4≠b∧a5≠b):∀ p∈[Pc.blk a1 t1 c1,Pc.blk a2 t2 c2,Pc.blk a3 t3 c3,Pc.blk a4 t4 c4,Pc.blk a5 t5 c5],∀ k,p.foot k→¬ k=b:=by
 intro p hp k hk e
 obtain⟨h1,h2,h3,h4,h5⟩:=h
 simp only [List.mem_cons,List.not_mem_nil,or_false] at hp
 rcases hp with rfl | rfl | rfl | rfl | rfl
 ·exact h1 ((show k=a1 from hk).symm.trans e)
 ·exact h2 ((show k=a2 from hk).symm.trans e)
 ·exact h3 ((show k=a3 from hk).symm.trans e)
 ·exact h4 ((show k=a4 from hk).symm.trans e)
 ·exact h5 ((show k=a5 from hk).symm.trans e)
theorem gr_cells {e0:TypeId} {sz:Nat} {q0:Option Addr} {n0 c0:Nat} {xs:List Value} {a2 a3 a4:Nat} {t2 t3 t4:TypeId} {c2 c3 c4:Array Value}:∀ p∈[Pc.own e0 sz q0 n0 c0 xs,Pc.blk a2 t2 c2,Pc.blk a3 t3 c3,Pc.blk a4 t4 c4],p.cells:=by
 intro p hp
 simp only [List.mem_cons,List.not_mem_nil,or_false] at hp
 rcases hp with rfl | rfl | rfl | rfl
 ·exact Pc.own_cells _ _ _ _ _ _
 all_goals exact Pc.blk_cells _ _ _
theorem gr_feet {e0:TypeId} {sz:Nat} {q0:Option Addr} {n0 c0:Nat} {xs:List Value} {a2 a3 a4 b:Nat} {t2 t3 t4:TypeId} {c2 c3 c4:Array Value} (h0:∀ kk,blkOf q0=some kk→kk≠b) (h:a2≠b∧a3≠b∧a4≠b):∀ p∈[Pc.own e0 sz q0 n0 c0 xs,Pc.blk a2 t2 c2,Pc.blk a3 t3 c3,Pc.blk a4 t4 c4],∀ k,p.foot k→¬ k=b:=by
 intro p hp k hk e
 obtain⟨h2,h3,h4⟩:=h
 simp only [List.mem_cons,List.not_mem_nil,or_false] at hp
 rcases hp with rfl | rfl | rfl | rfl
 ·exact h0 k hk e
 ·exact h2 ((show k=a2 from hk).symm.trans e)
 ·exact h3 ((show k=a3 from hk).symm.trans e)
 ·exact h4 ((show k=a4 from hk).symm.trans e)
theorem RunOk (k f t:Int) (pw:Option Addr) (nw cw:Nat) (ws:List ByteArray) (rad most:Int) (po:Option Addr) (no co:Nat) (O:List Int) (pt:Option Addr) (nt ct:Nat) (T:List Int) (pr:Option Addr) (nr cr:Nat) (R:List Int) (pv:Option Addr) (nv cv:Nat) (V:List Int) (pl:Option Addr) (nl cl:Nat) (hs:List Hd) (L:List Po) (wk:Nat) (bud:Int) (pp:Option Addr) (np cp:Nat) (pk:List Int) (w:World) (n m:Nat) (rn:Nat→List Sq × List Sq) (hO:Rd w 1 po no (encI O)) (hT:Rd w 1 pt nt (encI T)) (hR:Rd w 1 pr nr (encI R)) (hV:Rd w 1 pv nv (encI V)) (hct:nt≤ct) (hcv:nv≤cv)
  (hL:RdP w pl nl hs L) (hW:Rd w 1 pw nw (encS ws)) (hpk:Rd w 1 pp np (encI pk)) (hck:checkR O T R V=true) (hn:O.length=n+1) (h200:n≤200) (h1:1≤wk) (h16:wk≤16)
  (hz:∀ s∈ws,s.size≤1000000) (hq:chkQ k f t ws rad most (n:Int)=0) (hb1:1≤bud) (hb2:bud≤9223372036854775807) (hm:m<200)
  (hk:k=1∨k=2∨k=3) (ht:I64 t) (hcw:nw≤cw) (hnw:nw≤100) (hok:PoOk L)
  (hr0:rn 0=([],startQ k f t 0)) (hrn:∀ i,RunI n i (rn i)) (hrs:∀ i,rn (i+1)=stepM (nextL k rad true O T R V) (rn i).1 (rn i).2)
  (hd:doneB k t (rn (m+1))=true) (hf:∀ j,j<m→doneB k t (rn (j+1))=false) :
  Calls Tryz.prog 17 #[.agg #[.int .i64 k,.int .i64 f,.int .i64 t,.slice pw nw cw,.int .i64 rad,.int .i64 most],.agg #[.slice po no co,.slice pt nt ct,.slice pr nr cr,.slice pv nv cv],.slice pl nl cl,.int .i64 wk,.int .i64 bud,.slice pp np cp] w (RunR k t L ws most bud m (rn (m+1)) w):=by
 have hno:no=n+1:=by rw [hO.nI,hn]
 have HCJ:=Lib.hid (fun W (h:Ext w W)=>CheckJ k f t pw nw cw ws rad most po no co O pt nt ct T pr nr cr R pv nv cv V W (hO.ext h) (hT.ext h) (hR.ext h) (hV.ext h) hct hcv (hW.ext h) hz (by omega))
 rw [hck] at HCJ
 have e1:chkJ true k f t ws rad most no=0:=by
  unfold chkJ
  rw [if_pos rfl,hno]
  have:((n+1:Nat):Int) - 1=n:=by omega
  rw [this,hq]
 rw [e1] at HCJ
 have HSQ:=Lib.hid (fun W=>StartQ k f t pw nw cw rad most 0 W)
 obtain⟨M0,hM0⟩:∃ M0,startQ k f t 0=M0:=⟨_,rfl⟩
 rw [hM0] at HSQ hr0
 have HIT:=Lib.hid (fun (W:World) (b bx:Nat) (pm:Option Addr) (nm cm:Nat) (Bd:Nat→Prop) =>
  stepsIt 8 (by omega) k f t pw nw cw ws rad most po no co O pt nt ct T pr nr cr R pv nv cv V pl nl cl hs L wk pp np cp pk w W b bx pm nm cm n rn Bd hO hT hR hV hct hcv hL hW hpk hck hn h200 h1 h16 hk ht hcw hnw hok (by rw [hr0]) hrn hrs)
 rw [hr0] at HIT
 have HHM:=Lib.hid (fun W=>HomeG 0 wk W (by omega) (by omega) h1 h16)
 have HDN:=Lib.hid hd
 have HFN:=Lib.hid hf
 have db:decide (bud<1)=false:=by simp;omega
 have S0:=Lib.hid ((((((((Sep.start w).al #[.int .i64 k,.int .i64 f,.int .i64 t,.slice pw nw cw,.int .i64 rad,.int .i64 most] 24 w.heap.size rfl).al #[.slice po no co,.slice pt nt ct,.slice pr nr cr,.slice pv nv cv] 27 (w.heap.size+1) (by simp)).al #[.int .i64 bud] 3 (w.heap.size+1+1) (by simp)).al #[.bool false,.int .i64 0,.slice none 0 0] 34 (w.heap.size+1+1+1) (by simp)).al #[.int .i64 0] 3 (w.heap.size+1+1+1+1) (by simp)).al #[.int .i64 0] 35 (w.heap.size+1+1+1+1+1) (by simp)))
 clear hO hT hR hV hct hcv hL hW hpk hck hn h200 h1 h16 hz hq hk ht hcw hnw hok hr0 hrn hrs hd hf hM0 e1 hno
 refine(callsIn_wide (n:=9)).1 ?_
 refine callsIn_of_wp_marks Tryz.func17 rfl trivial ?_ rfl
 simp only [Tryz.ntmps17,List.size_toArray,List.length_cons,List.length_nil,Nat.reduceAdd,Nat.reduceSub,Array.replicate_succ,Array.replicate_zero,List.push_toArray,List.append_toArray,List.nil_append,List.cons_append]
 refine wpIn_wide.2 ?_
 go_wp2_with (first | (go_at_call 49;go_must (refine(HCJ.out _ S0.out.ext).mono ?_;rintro e w1 ⟨rfl,hb⟩;have S1:=Lib.hid (S0.out.call hb);obtain⟨b0,bz⟩:=bkc0l (S1.out.blk 3 rfl);clear hb)) | (go_at_call 50;go_must (refine(HHM.out _).mono ?_;rintro e w2 ⟨rfl,rfl⟩)))
 refine wp_region_noPanic ?_
 refine wp_region_held_drew (S:=fun W=>Blk W w.heap.size 24 #[.int .i64 k,.int .i64 f,.int .i64 t,.slice pw nw cw,.int .i64 rad,.int .i64 most]∧Blk W (w.heap.size+1) 27 #[.slice po no co,.slice pt nt ct,.slice pr nr cr,.slice pv nv cv]) (by kernel_rfl) ⟨S1.out.drew.blk 5 rfl,S1.out.drew.blk 4 rfl⟩ (fun hHeld=>?_)
 have SD:=Lib.hid S1.out.drew
 clear S0 S1 b0 bz HCJ HHM db
 generalize World.drew _=D at SD hHeld ⊢
 refine wpAnyH_take (i:=0) (v:=.agg #[.int .i64 k,.int .i64 f,.int .i64 t,.slice pw nw cw,.int .i64 rad,.int .i64 most]) rfl (by kernel_rfl) (by kernel_rfl) (by kernel_rfl) (noPanic_q _ _) (Or.inl ⟨by kernel_rfl,fun W hSw=>by have h0:=hSw.1.cell 0;have h1:=hSw.1.cell 1;have h2:=hSw.1.cell 2;have h3:=hSw.1.cell 3;have h4:=hSw.1.cell 4;have h5:=hSw.1.cell 5;clear hSw;go_simp⟩) hHeld ?_
 refine wpAnyH_take (i:=1) (v:=.agg #[.slice po no co,.slice pt nt ct,.slice pr nr cr,.slice pv nv cv]) rfl (by kernel_rfl) (by kernel_rfl) (by kernel_rfl) (noPanic_q _ _) (Or.inl ⟨by kernel_rfl,fun W hSw=>by have h0:=hSw.2.cell 0;have h1:=hSw.2.cell 1;have h2:=hSw.2.cell 2;have h3:=hSw.2.cell 3;clear hSw;go_simp⟩) hHeld ?_
 refine wpAnyH_take (i:=2) (v:=.slice pl nl cl) rfl (by kernel_rfl) (by kernel_rfl) (by kernel_rfl) (noPanic_q _ _) (Or.inl ⟨by kernel_rfl,fun W hSw=>by skip;clear hSw;go_simp⟩) hHeld ?_
 refine wpAnyH_take (i:=3) (v:=.int .i64 wk) rfl (by kernel_rfl) (by kernel_rfl) (by kernel_rfl) (noPanic_q _ _) (Or.inl ⟨by kernel_rfl,fun W hSw=>by skip;clear hSw;go_simp⟩) hHeld ?_
 refine wpAnyH_take (i:=4) (v:=.slice pp np cp) rfl (by kernel_rfl) (by kernel_rfl) (by kernel_rfl) (noPanic_q _ _) (Or.inl ⟨by kernel_rfl,fun W hSw=>by skip;clear hSw;go_simp⟩) hHeld ?_
 refine wpAnyH_take (i:=5) (v:=.agg #[.int .i64 k,.int .i64 f,.int .i64 t,.slice pw nw cw,.int .i64 rad,.int .i64 most]) rfl (by kernel_rfl) (by kernel_rfl) (by kernel_rfl) (noPanic_q _ _) (Or.inl ⟨by kernel_rfl,fun W hSw=>by have h0:=hSw.1.cell 0;have h1:=hSw.1.cell 1;have h2:=hSw.1.cell 2;have h3:=hSw.1.cell 3;have h4:=hSw.1.cell 4;have h5:=hSw.1.cell 5;clear hSw;go_simp⟩) hHeld ?_
 refine wpAnyH_ready (rs:=[6]) (by kernel_rfl) (by simp) (AllReadyH.cons rfl (fun K hK=>?_) AllReadyH.nil)
 go_simp
 refine(HSQ.out D).mono ?_
 rintro e w3 ⟨q,c,rfl,Z⟩
 have S3:=Lib.hid (SD.out.comp Z)
 clear Z SD hHeld HSQ
 refine hK.out _ _ ⟨S3.out.blk 6 rfl,S3.out.blk 5 rfl⟩ (fun hHeld=>?_)
 clear hK
 refine wpAnyH_take (i:=7) (v:=.agg #[.int .i64 k,.int .i64 f,.int .i64 t,.slice pw nw cw,.int .i64 rad,.int .i64 most,.slice po no co,.slice pt nt ct,.slice pr nr cr,.slice pv nv cv,.slice pl nl cl,.int .i64 wk,.slice pp np cp,.slice none 0 0,.slice q M0.length c]) rfl (by kernel_rfl) (by kernel_rfl) (by kernel_rfl) (noPanic_q _ _) (Or.inl ⟨by kernel_rfl,fun W hSw=>by skip;clear hSw;go_simp⟩) hHeld ?_
 refine wpAnyH_ready (rs:=[8]) (by kernel_rfl) (by simp) (AllReadyH.cons rfl (fun K hK=>?_) AllReadyH.nil)
 go_simp
 have S4:=Lib.hid (S3.out.al #[.int .i64 k,.int .i64 f,.int .i64 t,.slice pw nw cw,.int .i64 rad,.int .i64 most,.slice po no co,.slice pt nt ct,.slice pr nr cr,.slice pv nv cv,.slice pl nl cl,.int .i64 wk,.slice pp np cp,.slice none 0 0,.slice q M0.length c] 87 w3.heap.size rfl)
 clear hHeld
 refine hK.out _ _ ⟨S4.out.blk 7 rfl,S4.out.blk 6 rfl⟩ (fun hHeld=>?_)
 clear hK
 refine wpAnyH_take (i:=9) (v:=.pointer (some ⟨w3.heap.size,0,none⟩)) rfl (by kernel_rfl) (by kernel_rfl) (by kernel_rfl) (noPanic_q _ _) (Or.inl ⟨by kernel_rfl,fun W hSw=>by skip;clear hSw;go_simp⟩) hHeld ?_
 refine wpAnyH_done (by kernel_rfl) ?_ _
 refine noPanic_mk ?_
 clear hHeld
 simp [Act.put]
 obtain⟨X,hX⟩:∃ X,w3.alloc (.cells #[.int .i64 k,.int .i64 f,.int .i64 t,.slice pw nw cw,.int .i64 rad,.int .i64 most,.slice po no co,.slice pt nt ct,.slice pr nr cr,.slice pv nv cv,.slice pl nl cl,.int .i64 wk,.slice pp np cp,.slice none 0 0,.slice q M0.length c] 87)=X:=⟨_,rfl⟩
 rw [hX] at S4 ⊢
 clear hX S3
 generalize w3.heap.size=b at S4 ⊢
 clear w3 D
 have S5:=Lib.hid (S4.out.al #[.int .i64 0] 3 X.heap.size rfl)
 have S6:=Lib.hid (S5.out.al #[.pointer (some ⟨b,0,none⟩)] 82 (X.heap.size+1) (by simp))
 go_wp2_with (go_at_call 52;go_must (refine(StepsG b _).mono ?_;rintro e w5 ⟨rfl,rfl⟩))
 obtain⟨V1,hV⟩:∃ V1,(X.alloc (.cells #[.int .i64 0] 3)).alloc (.cells #[.pointer (some ⟨b,0,none⟩)] 82)=V1:=⟨_,rfl⟩
 rw [hV] at S6 ⊢
 clear hV S5 S4
 generalize X.heap.size+1=bx at S6 ⊢
 generalize X.heap.size=gn at S6 ⊢
 generalize w.heap.size+1+1+1+1+1=g14 at S6 ⊢
 generalize w.heap.size+1+1+1+1=g13 at S6 ⊢
 generalize w.heap.size+1+1+1=g12 at S6 ⊢
 generalize w.heap.size+1+1=gb at S6 ⊢
 clear X
 have S7:=Lib.hid (S6.out.nilrow 146 4)
 have SG:=Lib.hid (S7.out.pick (Δ:=[Pc.blk gn 3 #[.int .i64 0],Pc.blk g12 34 #[.bool false,.int .i64 0,.slice none 0 0],Pc.blk g13 3 #[.int .i64 0],Pc.blk g14 35 #[.int .i64 0],Pc.blk gb 3 #[.int .i64 bud]]) [2,7,6,5,8] (by decide) rfl)
 have SX:=Lib.hid (S7.out.pick (Δ:=[Pc.blk b 87 #[.int .i64 k,.int .i64 f,.int .i64 t,.slice pw nw cw,.int .i64 rad,.int .i64 most,.slice po no co,.slice pt nt ct,.slice pr nr cr,.slice pv nv cv,.slice pl nl cl,.int .i64 wk,.slice pp np cp,.slice none 0 0,.slice q M0.length c],Pc.blk bx 82 #[.pointer (some ⟨b,0,none⟩)],Pc.own 146 4 none 0 0 (encQ []),Pc.own 138 4 q M0.length c (encQ M0)]) [3,1,0,4] (by decide) rfl)
 have hap:∀ p∈[Pc.blk b 87 #[.int .i64 k,.int .i64 f,.int .i64 t,.slice pw nw cw,.int .i64 rad,.int .i64 most,.slice po no co,.slice pt nt ct,.slice pr nr cr,.slice pv nv cv,.slice pl nl cl,.int .i64 wk,.slice pp np cp,.slice none 0 0,.slice q M0.length c],Pc.blk bx 82 #[.pointer (some ⟨b,0,none⟩)],Pc.own 146 4 none 0 0 (encQ []),Pc.own 138 4 q M0.length c (encQ M0)],∀ p2∈[Pc.blk gn 3 #[.int .i64 0],Pc.blk g12 34 #[.bool false,.int .i64 0,.slice none 0 0],Pc.blk g13 3 #[.int .i64 0],Pc.blk g14 35 #[.int .i64 0],Pc.blk gb 3 #[.int .i64 bud]],∀ kk,p.foot kk→p2.foot kk→False:=by
  have hA:=List.pairwise_append.1 (S7.out.pick (Δ:=[Pc.blk b 87 #[.int .i64 k,.int .i64 f,.int .i64 t,.slice pw nw cw,.int .i64 rad,.int .i64 most,.slice po no co,.slice pt nt ct,.slice pr nr cr,.slice pv nv cv,.slice pl nl cl,.int .i64 wk,.slice pp np cp,.slice none 0 0,.slice q M0.length c],Pc.blk bx 82 #[.pointer (some ⟨b,0,none⟩)],Pc.own 146 4 none 0 0 (encQ []),Pc.own 138 4 q M0.length c (encQ M0)] ++ [Pc.blk gn 3 #[.int .i64 0],Pc.blk g12 34 #[.bool false,.int .i64 0,.slice none 0 0],Pc.blk g13 3 #[.int .i64 0],Pc.blk g14 35 #[.int .i64 0],Pc.blk gb 3 #[.int .i64 bud]]) [3,1,0,4,2,7,6,5,8] (by decide) rfl).apart
  exact fun p hp p2 hp2 kk hk hk2=>hA.2.2 p hp p2 hp2 kk hk hk2
 have HAP:=Lib.hid hap
 clear S6 S7 hap
 have HNE:Hid (gn≠b∧g12≠b∧g13≠b∧g14≠b∧gb≠b):=by
  have key:∀ p2∈[Pc.blk gn 3 #[.int .i64 0],Pc.blk g12 34 #[.bool false,.int .i64 0,.slice none 0 0],Pc.blk g13 3 #[.int .i64 0],Pc.blk g14 35 #[.int .i64 0],Pc.blk gb 3 #[.int .i64 bud]],¬ p2.foot b:=fun p2 hp2 hk2=>HAP.out _ (List.mem_cons_self ..) p2 hp2 b rfl hk2
  exact⟨fun e=>key (Pc.blk gn 3 #[.int .i64 0]) (by simp) e.symm,fun e=>key (Pc.blk g12 34 #[.bool false,.int .i64 0,.slice none 0 0]) (by simp) e.symm,fun e=>key (Pc.blk g13 3 #[.int .i64 0]) (by simp) e.symm,fun e=>key (Pc.blk g14 35 #[.int .i64 0]) (by simp) e.symm,fun e=>key (Pc.blk gb 3 #[.int .i64 bud]) (by simp) e.symm⟩
 obtain⟨Bd,hBd⟩:∃ Bd:Nat→Prop,Bd=footA [Pc.blk gn 3 #[.int .i64 0],Pc.blk g12 34 #[.bool false,.int .i64 0,.slice none 0 0],Pc.blk g13 3 #[.int .i64 0],Pc.blk g14 35 #[.int .i64 0],Pc.blk gb 3 #[.int .i64 bud]]:=⟨_,rfl⟩
 have HBD:=Lib.hid hBd
 clear hBd
 refine wpIn_wide.1 (wpIn_rangeFunc_toldD (F:=Fence.wide) (n:=9) rfl (by omega) (gf:=93) (lb:=#[.pointer (some ⟨bx,0,none⟩)]) rfl trivial (enters_of Tryz.func93 (by kernel_rfl) rfl)
  (HIT.out V1 b bx q M0.length c Bd SX.out ?hBl ?hBf) ?hXl
  (fun h k=>h.trans k) ?hKb (Below.refl _ _) (fun _=>rfl)
  (fun (pre:List YdT) W=>Sep w W [Pc.blk gn 3 #[.int .i64 (pre.length:Int)],Pc.blk g12 34 #[.bool false,.int .i64 0,.slice none 0 0],Pc.blk g13 3 #[.int .i64 0],Pc.blk g14 35 #[.int .i64 0],Pc.blk gb 3 #[.int .i64 bud]]∧V1.heap.size≤W.heap.size∧pre.length≤m∧(pre.length:Int)<bud)
  (fun c2 (pre:List YdT) W=>(c2=.ret∧∃ y:YdT,pre.length=m+1∧(m:Int)+1≤bud∧(∀ kk,blkOf y.q=some kk→kk≠b)∧AnsD k t L ws most (rn (m+1)) y.yes y.d y.F∧Sep w W [Pc.own 105 2 y.q y.F.length y.c (encE y.F),Pc.blk g12 34 #[.bool y.yes,.int .i64 y.d,.slice y.q y.F.length y.c],Pc.blk g13 3 #[.int .i64 ((m:Int)+1)],Pc.blk g14 35 #[.int .i64 0]])∨(c2=.exit 0∧bud<(m:Int)+1∧Sep w W [Pc.blk gn 3 #[.int .i64 bud],Pc.blk g12 34 #[.bool false,.int .i64 0,.slice none 0 0],Pc.blk g13 3 #[.int .i64 0],Pc.blk g14 35 #[.int .i64 0],Pc.blk gb 3 #[.int .i64 bud]]))
  ?hI ?hIx ?hQ ?h0
  (fun (pre:List YdT) (y:YdT) a' W=>∃ ga,(∀ kk,blkOf y.q=some kk→kk≠b)∧ga≠b∧frRun (.pointer (some ⟨gb,0,none⟩)) (.pointer (some ⟨g12,0,none⟩)) (.pointer (some ⟨g13,0,none⟩)) (.pointer (some ⟨g14,0,none⟩)) (.pointer (some ⟨gn,0,none⟩)) (.pointer (some ⟨ga,0,none⟩)) (.bool y.dn) a'∧Sep w W ([Pc.blk ga 34 #[.bool y.yes,.int .i64 y.d,.slice y.q y.F.length y.c],Pc.own 105 2 y.q y.F.length y.c (encE y.F)] ++ [Pc.blk gn 3 #[.int .i64 (pre.length:Int)],Pc.blk g12 34 #[.bool false,.int .i64 0,.slice none 0 0],Pc.blk g13 3 #[.int .i64 0],Pc.blk g14 35 #[.int .i64 0],Pc.blk gb 3 #[.int .i64 bud]])∧AnsD k t L ws most (rn (pre.length+1)) y.yes y.d y.F∧y.dn=doneB k t (rn (pre.length+1)))
  ?hAx ?assign ?body (fun D xs W _ h _ _=>h.elim) ?stop)
 case hBl =>
  intro kk hk
  rw [HBD.out] at hk
  obtain⟨p,hp,hk⟩:=hk
  exact⟨SG.out.new p hp kk hk,SG.out.lt hp hk⟩
 case hBf =>
  intro p hp kk hk hb
  rw [HBD.out] at hb
  obtain⟨p2,hp2,hk2⟩:=hb
  exact HAP.out p hp p2 hp2 kk hk hk2
 case hXl=>rintro kk rfl;exact(SX.out.blk 0 rfl).lt
 case hKb=>exact fun W l o o' hl ho hc _=>KpN.putObj W l o o' hl ho hc
 case hI =>
  rintro pre W W' row ⟨S,h1,h2⟩ hg hr
  exact⟨S.turnX gi_cells (gi_feet HNE.out) (fun kk e=>by rw [e];exact SX.out.bge 0 rfl) SG.out.ext.size hg hr,Nat.le_trans h1 hg.size,h2⟩
 case hIx =>
  rintro c2 pre W W' row h hg hr
  rcases h with ⟨rfl,y,h1,h2,h3,h4,S⟩ | ⟨rfl,h1,S⟩
  ·exact .inl ⟨rfl,y,h1,h2,h3,h4,S.turnX gr_cells (gr_feet h3 ⟨HNE.out.2.1,HNE.out.2.2.1,HNE.out.2.2.2.1⟩) (fun kk e=>by rw [e];exact SX.out.bge 0 rfl) SG.out.ext.size hg hr⟩
  ·exact .inr ⟨rfl,h1,S.turnX gi_cells (gi_feet HNE.out) (fun kk e=>by rw [e];exact SX.out.bge 0 rfl) SG.out.ext.size hg hr⟩
 case hQ=>exact fun pre W h=>Nat.lt_of_le_of_lt h.2.2.1 hm
 case h0=>exact⟨SG.out,Nat.le_refl _,Nat.zero_le _,by show ((0:Nat):Int)<bud;omega⟩
 case hAx =>
  rintro pre y a' _ W W' row ⟨ga,h1,h2,h3,S,h4⟩ hg hr
  refine⟨ga,h1,h2,h3,S.turnX (fun p hp=>?_) (fun p hp kk hk e=>?_) (fun kk e=>by rw [e];exact SX.out.bge 0 rfl) SG.out.ext.size hg hr,h4⟩
  ·rcases List.mem_append.1 hp with hp | hp
   ·simp only [List.mem_cons,List.not_mem_nil,or_false] at hp
    rcases hp with rfl | rfl
    ·exact Pc.blk_cells _ _ _
    ·exact Pc.own_cells _ _ _ _ _ _
   ·exact gi_cells p hp
  ·rcases List.mem_append.1 hp with hp | hp
   ·simp only [List.mem_cons,List.not_mem_nil,or_false] at hp
    rcases hp with rfl | rfl
    ·exact h2 ((show kk=ga from hk).symm.trans e)
    ·exact h1 kk hk e
   ·exact gi_feet HNE.out p hp kk hk e
 case assign =>
  rintro l pre y V0 W Kx ⟨S,hVs,hpm,hpb⟩ hE ⟨hA1,hA2,hA3⟩ hKx
  have HKX:=Lib.hid hKx
  have SY:=Lib.hid ((S.comp hA1).al #[.bool y.yes,.int .i64 y.d,.slice y.q y.F.length y.c] 34 W.heap.size rfl)
  have HBV:=Lib.hid (show b<V0.heap.size from Nat.lt_of_lt_of_le (SX.out.blk 0 rfl).lt hVs)
  have HH:=Lib.hid (show ∀ kk,blkOf y.q=some kk→kk≠b from fun kk hk e=>by
   have:=hA1.new _ (List.mem_cons_self ..) kk hk
   have:=HBV.out
   omega)
  have HWS:=Lib.hid hE.size
  have HA2:=Lib.hid hA2
  have HA3:=Lib.hid hA3
  clear hKx S hA1 hA2 hA3
  simp only [ydE]
  gi_wp2
  exact HKX.out _ _ ((keeps_ext (Ext.alloc (Below.refl _ _) _)).from _) (KpN.of_ext (Ext.alloc (Below.refl _ _) _)) ⟨SY.out.pick [2,3,4,5,6] (by decide) rfl,by rw [World.size_alloc];have:=HWS.out;omega,hpm,hpb⟩ ⟨W.heap.size,HH.out,by have:=HWS.out;have:=HBV.out;omega,frRun_of,SY.out,HA2.out,HA3.out⟩
 case body =>
  rintro l pre y a' W ⟨_,hVs,hpm,hpb⟩ ⟨ga,hyb,hgb,hfr,S,hA,hdn⟩
  obtain⟨j,hj⟩:∃ j,pre.length=j:=⟨_,rfl⟩
  have hj2:(pre ++ [y]).length=j+1:=by rw [List.length_append,hj];rfl
  rw [hj] at hpm hpb S hA hdn
  obtain⟨pre2,hpre⟩:∃ pre2,pre ++ [y]=pre2:=⟨_,rfl⟩
  rw [hpre] at hj2 ⊢
  obtain⟨yes,d,F,yq,yc,dn⟩:=y
  dsimp only at hyb hfr S hA hdn
  have HJ2:=Lib.hid hj2
  have HYB:=Lib.hid hyb
  have HA:=Lib.hid hA
  clear hj hj2 hpre hyb hA
  obtain⟨n0,nf,nz⟩:=bkc0z0l (S.blk 2 rfl)
  have d1:(0:Int)≤(j:Int):=by omega
  have d2:(j:Int)≤1000:=by omega
  have S1:=Lib.hid (S.set 2 rfl 0 (.int .i64 ((j:Int)+1)))
  have K1:=Lib.hid (KeepsOthers.setCell W ⟨gn,0,none⟩ (.int .i64 ((j:Int)+1)))
  have KP:=Lib.hid (KpN.cell (Bd:=Bd) (C:=V1.heap.size) W ⟨gn,0,none⟩ (.int .i64 ((j:Int)+1)) (by rw [HBD.out];exact⟨_,List.mem_cons_self ..,rfl⟩))
  have HSZ:=Lib.hid (show V1.heap.size≤(W.setCell ⟨gn,0,none⟩ (.int .i64 ((j:Int)+1))).heap.size from Nat.le_trans hVs (grown_set ..).size)
  clear S
  unfold frRun at hfr
  (repeat obtain⟨_,hfr⟩:=hfr)
  by_cases hjm:j=m
  ·subst hjm
   have hdt:dn=true:=by rw [hdn,HDN.out]
   subst hdt
   clear hdn HFN
   gi_wp2
   clear n0 nf nz
   have S2:=Lib.hid (show Sep w (W.setCell ⟨gn,0,none⟩ (.int .i64 ((j:Int)+1))).drew ([Pc.blk ga 34 #[.bool yes,.int .i64 d,.slice yq F.length yc],Pc.own 105 2 yq F.length yc (encE F)] ++ [Pc.blk gn 3 #[.int .i64 ((j:Int)+1)],Pc.blk g12 34 #[.bool false,.int .i64 0,.slice none 0 0],Pc.blk g13 3 #[.int .i64 0],Pc.blk g14 35 #[.int .i64 0],Pc.blk gb 3 #[.int .i64 bud]]) from S1.out.drew)
   have K2:=Lib.hid (K1.out.trans (keeps_ext (Below.refl _ (W.setCell ⟨gn,0,none⟩ (.int .i64 ((j:Int)+1)))).drew))
   refine wpIn_region_heldR (S:=fun U=>Blk U ga 34 #[.bool yes,.int .i64 d,.slice yq F.length yc]∧Blk U gn 3 #[.int .i64 ((j:Int)+1)]) 4 rfl (noDefer_arr (by kernel_rfl)) (by kernel_rfl) ⟨S2.out.blk 0 rfl,S2.out.blk 2 rfl⟩ (fun hHeld=>?_)
   clear S1 K1 KP HSZ
   generalize World.drew _=D at S2 K2 hHeld ⊢
   refine wpAnyHI_take [2,3,4] (i:=0) (v:=.agg #[.bool yes,.int .i64 d,.slice yq F.length yc]) rfl rfl (by kernel_rfl) (by kernel_rfl) (by kernel_rfl) (by kernel_rfl) (fun _ _ _ h=>h) ⟨Or.inl ⟨by kernel_rfl,fun W hSw=>by have h0:=hSw.1.cell 0;have h1:=hSw.1.cell 1;have h2:=hSw.1.cell 2;have h3:=hSw.1.lt;clear hSw;go_simp⟩,fun _ _=>rfl⟩ hHeld ?_
   refine wpAnyHI_take [3,4] (i:=1) (v:=.int .i64 ((j:Int)+1)) rfl rfl (by kernel_rfl) (by kernel_rfl) (by kernel_rfl) (by kernel_rfl) (fun _ _ _ h=>h) ⟨Or.inl ⟨by kernel_rfl,fun W hSw=>by have h0:=hSw.2.cell 0;have h3:=hSw.2.lt;clear hSw;go_simp⟩,fun _ _=>rfl⟩ hHeld ?_
   obtain⟨c0,c1,c2,cz,cf0,cf1,cf2⟩:=bkc0c1c2lz0z1z2 (S2.out.blk 3 rfl)
   refine wpAnyHI_one (i:=2) (by kernel_rfl) rfl (by decide) (fun K hK=>?_)
   go_simp
   have S3:=Lib.hid (show Sep w (((D.setCell ⟨g12,0,none⟩ (.bool yes)).setCell ⟨g12,1,none⟩ (.int .i64 d)).setCell ⟨g12,2,none⟩ (.slice yq F.length yc)) [Pc.blk ga 34 #[.bool yes,.int .i64 d,.slice yq F.length yc],Pc.own 105 2 yq F.length yc (encE F),Pc.blk gn 3 #[.int .i64 ((j:Int)+1)],Pc.blk g12 34 #[.bool yes,.int .i64 d,.slice yq F.length yc],Pc.blk g13 3 #[.int .i64 0],Pc.blk g14 35 #[.int .i64 0],Pc.blk gb 3 #[.int .i64 bud]] from((S2.out.set 3 rfl 0 (.bool yes)).set 3 rfl 1 (.int .i64 d)).set 3 rfl 2 (.slice yq F.length yc))
   have K3:=Lib.hid (((K2.out.trans (KeepsOthers.setCell D ⟨g12,0,none⟩ (.bool yes))).trans (KeepsOthers.setCell _ ⟨g12,1,none⟩ (.int .i64 d))).trans (KeepsOthers.setCell _ ⟨g12,2,none⟩ (.slice yq F.length yc)))
   clear c0 c1 c2 cz cf0 cf1 cf2 S2 K2 hHeld
   refine hK _ _ ⟨S3.out.blk 0 rfl,S3.out.blk 2 rfl⟩ ?_
   clear hK
   generalize ((D.setCell ⟨g12,0,none⟩ (.bool yes)).setCell ⟨g12,1,none⟩ (.int .i64 d)).setCell ⟨g12,2,none⟩ (.slice yq F.length yc)=D3 at S3 K3 ⊢
   obtain⟨c0,cz,cf0⟩:=bkc0lz0 (S3.out.blk 4 rfl)
   refine wpAnyHI_one (i:=3) (by kernel_rfl) rfl (by decide) (fun K hK=>?_)
   go_simp
   have S4:=Lib.hid (show Sep w (D3.setCell ⟨g13,0,none⟩ (.int .i64 ((j:Int)+1))) [Pc.blk ga 34 #[.bool yes,.int .i64 d,.slice yq F.length yc],Pc.own 105 2 yq F.length yc (encE F),Pc.blk gn 3 #[.int .i64 ((j:Int)+1)],Pc.blk g12 34 #[.bool yes,.int .i64 d,.slice yq F.length yc],Pc.blk g13 3 #[.int .i64 ((j:Int)+1)],Pc.blk g14 35 #[.int .i64 0],Pc.blk gb 3 #[.int .i64 bud]] from S3.out.set 4 rfl 0 (.int .i64 ((j:Int)+1)))
   have K4:=Lib.hid (K3.out.trans (KeepsOthers.setCell D3 ⟨g13,0,none⟩ (.int .i64 ((j:Int)+1))))
   clear c0 cz cf0 S3 K3
   refine hK _ _ ⟨S4.out.blk 0 rfl,S4.out.blk 2 rfl⟩ ?_
   clear hK
   generalize D3.setCell ⟨g13,0,none⟩ (.int .i64 ((j:Int)+1))=D4 at S4 K4 ⊢
   obtain⟨c0,cz,cf0⟩:=bkc0lz0 (S4.out.blk 5 rfl)
   refine wpAnyHI_last (by kernel_rfl) rfl (fun K hK=>?_)
   go_simp
   have S5:=Lib.hid (S4.out.set 5 rfl 0 (.int .i64 0))
   have K5:=Lib.hid (K4.out.trans (KeepsOthers.setCell D4 ⟨g14,0,none⟩ (.int .i64 0)))
   clear c0 cz cf0 S4 K4
   refine hK _ _ ?_
   clear hK
   refine wpAnyIn_done (by kernel_rfl) ?_ _
   gi_wp2
   exact⟨K5.out.from _,.inl ⟨rfl,⟨yes,d,F,yq,yc,true⟩,HJ2.out,by omega,HYB.out,HA.out,S5.out.pick [1,3,4,5] (by decide) rfl⟩⟩
  ·have hdf:dn=false:=by rw [hdn];exact HFN.out j (by omega)
   subst hdf
   clear hdn HDN
   obtain⟨n1,n1z⟩:=bkc0l (S1.out.blk 2 rfl)
   obtain⟨b1,b1z⟩:=bkc0l (S1.out.blk 6 rfl)
   by_cases hjb:(j:Int)+1=bud
   ·subst hjb
    have e1:decide ((j:Int)+1=(j:Int)+1)=true:=by simp
    gi_wp2
    exact⟨K1.out.from _,.inr ⟨rfl,by omega,S1.out.pick [2,3,4,5,6] (by decide) rfl⟩⟩
   ·have e1:decide ((j:Int)+1=bud)=false:=by simpa using hjb
    have e2:((j:Int)+1 == bud)=false:=by simpa using hjb
    gi_wp2
    have hc:((pre2.length:Nat):Int)=(j:Int)+1:=by rw [HJ2.out];omega
    refine⟨K1.out.from _,KP.out,?_,HSZ.out,by rw [HJ2.out];omega,by rw [hc];omega⟩
    rw [hc]
    exact S1.out.pick [2,3,4,5,6] (by decide) rfl
 case stop =>
  rintro D c2 pre W hD _ (⟨rfl,y,hl,hmb,hyb,hA,S⟩ | ⟨rfl,hmb,S⟩) hK
  ·obtain⟨yes,d,F,yq,yc,dn⟩:=y
   dsimp only at hA S
   have S':=S.putObj gr_cells (.deferred none) (Nat.le_trans SG.out.ext.size hD) hK rfl
   obtain⟨x0,x1,x2⟩:=bkc0c1c2 (S'.blk 1 rfl)
   have x3:=(S'.blk 2 rfl).cell 0
   have x4:=(S'.blk 3 rfl).cell 0
   have SQ:=Lib.hid (S'.pick [0] (by decide) rfl:Sep w _ [Pc.own 105 2 yq F.length yc (encE F)])
   have HA:=Lib.hid hA
   clear hA S S'
   gi_wp2
   try rw [Exit.noGoto_ret]
   refine⟨by simp,.inl ⟨_,_,rfl,run_takeDeferred hK,?_⟩⟩
   exact⟨.tuple #[.agg #[.bool yes,.int .i64 d,.slice yq F.length yc],.int .i64 ((m:Int)+1),.int .i64 0],by simp [results,Tryz.results17,go_sem,x0,x1,x2,x3,x4,Tryz.sizeOf34,Tryz.isAgg34],yes,d,F,fun _=>⟨HA.out,yq,yc,rfl,SQ.out⟩,fun h=>absurd hmb (by omega)⟩
  ·have HDB:=Lib.hid (Nat.le_trans SG.out.ext.size hD)
   have HS:=Lib.hid (show Sep w W [Pc.blk gn 3 #[.int .i64 bud],Pc.blk g12 34 #[.bool false,.int .i64 0,.slice none 0 0],Pc.blk g13 3 #[.int .i64 0],Pc.blk g14 35 #[.int .i64 0],Pc.blk gb 3 #[.int .i64 bud],Pc.obj D (.deferred (some []))] from S.obj gi_cells HDB.out hK rfl)
   clear S hK
   gi_wp2
   go_wp2
   refine wp_region_noPanic ?_
   refine wp_region_held_drew (S:=fun U=>Blk U gn 3 #[.int .i64 bud]) (by kernel_rfl) (HS.out.drew.blk 0 rfl) (fun hHeld=>?_)
   have S2:=Lib.hid HS.out.drew
   clear HS
   generalize World.drew _=U at S2 hHeld ⊢
   refine wpAnyH_take (i:=0) (v:=.agg #[.bool false,.int .i64 0,.slice none 0 0]) rfl (by kernel_rfl) (by kernel_rfl) (by kernel_rfl) (noPanic_q _ _) (Or.inl ⟨by kernel_rfl,fun W hSw=>by skip;clear hSw;go_simp⟩) hHeld ?_
   refine wpAnyH_take (i:=1) (v:=.int .i64 bud) rfl (by kernel_rfl) (by kernel_rfl) (by kernel_rfl) (noPanic_q _ _) (Or.inl ⟨by kernel_rfl,fun W hSw=>by have h0:=hSw.cell 0;have h1:=hSw.lt;clear hSw;go_simp⟩) hHeld ?_
   obtain⟨c0,c1,c2,cz,cf0,cf1,cf2⟩:=bkc0c1c2lz0z1z2 (S2.out.blk 1 rfl)
   refine wpAnyH_ready (rs:=[2]) (by kernel_rfl) (by simp) (AllReadyH.cons rfl (fun K hK=>?_) AllReadyH.nil)
   go_simp
   have S3:=Lib.hid (((S2.out.set 1 rfl 0 (.bool false)).set 1 rfl 1 (.int .i64 0)).set 1 rfl 2 (.slice none 0 0))
   clear c0 c1 c2 cz cf0 cf1 cf2 S2 hHeld
   refine hK.out _ _ (S3.out.blk 0 rfl) (fun hHeld=>?_)
   clear hK
   generalize ((U.setCell ⟨g12,0,none⟩ (.bool false)).setCell ⟨g12,1,none⟩ (.int .i64 0)).setCell ⟨g12,2,none⟩ (.slice none 0 0)=U3 at S3 hHeld ⊢
   obtain⟨c0,cz,cf0⟩:=bkc0lz0 (S3.out.blk 2 rfl)
   refine wpAnyH_ready (rs:=[3]) (by kernel_rfl) (by simp) (AllReadyH.cons rfl (fun K hK=>?_) AllReadyH.nil)
   go_simp
   have S4:=Lib.hid (S3.out.set 2 rfl 0 (.int .i64 bud))
   clear c0 cz cf0 S3 hHeld
   refine hK.out _ _ (S4.out.blk 0 rfl) (fun hHeld=>?_)
   clear hK
   generalize U3.setCell ⟨g13,0,none⟩ (.int .i64 bud)=U4 at S4 hHeld ⊢
   obtain⟨c0,cz,cf0⟩:=bkc0lz0 (S4.out.blk 3 rfl)
   refine wpAnyH_ready (rs:=[4]) (by kernel_rfl) (by simp) (AllReadyH.cons rfl (fun K hK=>?_) AllReadyH.nil)
   go_simp
   have S5:=Lib.hid (show Sep w (U4.setCell ⟨g14,0,none⟩ (.int .i64 251)) [Pc.blk gn 3 #[.int .i64 bud],Pc.blk g12 34 #[.bool false,.int .i64 0,.slice none 0 0],Pc.blk g13 3 #[.int .i64 bud],Pc.blk g14 35 #[.int .i64 251],Pc.blk gb 3 #[.int .i64 bud],Pc.obj D (.deferred (some []))] from S4.out.set 3 rfl 0 (.int .i64 251))
   clear c0 cz cf0 S4 hHeld
   refine hK.out _ _ (S5.out.blk 0 rfl) (fun hHeld=>?_)
   clear hK hHeld
   refine wpAnyH_done (by kernel_rfl) ?_ _
   refine noPanic_mk ?_
   generalize U4.setCell ⟨g14,0,none⟩ (.int .i64 251)=U5 at S5 ⊢
   have hK:U5.heap[D]?=some (.deferred (some [])):=S5.out.all (Pc.obj D (.deferred (some []))) (by simp)
   have S':=(S5.out.pick (Δ:=[Pc.blk gn 3 #[.int .i64 bud],Pc.blk g12 34 #[.bool false,.int .i64 0,.slice none 0 0],Pc.blk g13 3 #[.int .i64 bud],Pc.blk g14 35 #[.int .i64 251],Pc.blk gb 3 #[.int .i64 bud]]) [0,1,2,3,4] (by decide) rfl).putObj gi_cells (.deferred none) HDB.out hK rfl
   obtain⟨x0,x1,x2⟩:=bkc0c1c2 (S'.blk 1 rfl)
   have x3:=(S'.blk 2 rfl).cell 0
   have x4:=(S'.blk 3 rfl).cell 0
   have SQ:=Lib.hid ((S'.nilrow 105 2).pick (Δ:=[Pc.own 105 2 none 0 0 (encE [])]) [0] (by decide) rfl)
   clear S' S5
   try simp [Act.put]
   go_wp2
   try rw [Exit.noGoto_ret]
   refine⟨by simp,.inl ⟨_,_,rfl,run_takeDeferred hK,?_⟩⟩
   exact⟨.tuple #[.agg #[.bool false,.int .i64 0,.slice none 0 0],.int .i64 bud,.int .i64 251],by simp [results,Tryz.results17,go_sem,x0,x1,x2,x3,x4,Tryz.sizeOf34,Tryz.isAgg34],false,0,[],fun h=>absurd hmb (by omega),fun _=>⟨none,0,rfl,SQ.out⟩⟩
end
section
open Go Go.RowKit
theorem home_any (wv:Int):∃ hv ok,ok=decide (1≤wv∧wv≤16)∧∀ W,Calls Tryz.prog 50 #[.int .i64 0,.int .i64 wv] W fun e w'=>e=.returned (.tuple #[.int .i64 hv,.bool ok])∧W=w':=by
 by_cases h:1≤wv∧wv≤16
 ·obtain⟨n,rfl⟩:∃ n:Nat,wv=(n:Int):=⟨wv.toNat,by omega⟩
  exact⟨_,true,by rw [decide_eq_true h],fun W=>HomeG 0 n W (by omega) (by omega) (by omega) (by omega)⟩
 ·exact⟨0,false,by rw [decide_eq_false h],fun W=>HomeNo 0 wv W (by omega)⟩
theorem RunErr (k f t:Int) (pw:Option Addr) (nw cw:Nat) (ws:List ByteArray) (rad most:Int) (po:Option Addr) (no co:Nat) (O:List Int) (pt:Option Addr) (nt ct:Nat) (T:List Int) (pr:Option Addr) (nr cr:Nat) (R:List Int) (pv:Option Addr) (nv cv:Nat) (V:List Int) (pl:Option Addr) (nl cl:Nat) (wv bud:Int) (pp:Option Addr) (np cp:Nat) (w:World) (hO:Rd w 1 po no (encI O)) (hT:Rd w 1 pt nt (encI T)) (hR:Rd w 1 pr nr (encI R)) (hV:Rd w 1 pv nv (encI V)) (hct:nt≤ct) (hcv:nv≤cv)
  (hW:Rd w 1 pw nw (encS ws)) (hz:∀ s∈ws,s.size≤1000000) (h1000:no≤1000)
  (h:chkJ (checkR O T R V) k f t ws rad most no≠0∨¬ (1≤wv∧wv≤16)∨bud<1) :
  Calls Tryz.prog 17 #[.agg #[.int .i64 k,.int .i64 f,.int .i64 t,.slice pw nw cw,.int .i64 rad,.int .i64 most],.agg #[.slice po no co,.slice pt nt ct,.slice pr nr cr,.slice pv nv cv],.slice pl nl cl,.int .i64 wv,.int .i64 bud,.slice pp np cp] w (RunQ false 0 [] 0 (if chkJ (checkR O T R V) k f t ws rad most no≠0 then chkJ (checkR O T R V) k f t ws rad most no else 1) w):=by
 have HCJ:=Lib.hid (fun W (h:Ext w W)=>CheckJ k f t pw nw cw ws rad most po no co O pt nt ct T pr nr cr R pv nv cv V W (hO.ext h) (hT.ext h) (hR.ext h) (hV.ext h) hct hcv (hW.ext h) hz h1000)
 obtain⟨E,hE⟩:∃ E,chkJ (checkR O T R V) k f t ws rad most no=E:=⟨_,rfl⟩
 rw [hE] at HCJ h ⊢
 obtain⟨hv,ok,hok,HH0⟩:=home_any wv
 have HHM:=Lib.hid HH0
 have S0:=Lib.hid ((((((((Sep.start w).al #[.int .i64 k,.int .i64 f,.int .i64 t,.slice pw nw cw,.int .i64 rad,.int .i64 most] 24 w.heap.size rfl).al #[.slice po no co,.slice pt nt ct,.slice pr nr cr,.slice pv nv cv] 27 (w.heap.size+1) (by simp)).al #[.int .i64 bud] 3 (w.heap.size+1+1) (by simp)).al #[.bool false,.int .i64 0,.slice none 0 0] 34 (w.heap.size+1+1+1) (by simp)).al #[.int .i64 0] 3 (w.heap.size+1+1+1+1) (by simp)).al #[.int .i64 0] 35 (w.heap.size+1+1+1+1+1) (by simp)))
 clear hO hT hR hV hct hcv hW hz HH0 hE h1000
 have key:E≠0∨(E=0∧ok=false)∨(E=0∧ok=true∧bud<1):=by
  by_cases h0:E=0
  ·right
   cases ok with
   | false=>exact .inl ⟨h0,rfl⟩
   | true =>
    have:=of_decide_eq_true hok.symm
    exact .inr ⟨h0,rfl,by rcases h with h | h | h <;> first | exact absurd h0 h | exact absurd this h | exact h⟩
  ·exact .inl h0
 clear h hok
 obtain⟨E2,hE2⟩:∃ E2,(if E≠0 then E else 1)=E2:=⟨_,rfl⟩
 rw [hE2]
 have HE2:=Lib.hid hE2
 clear hE2
 go_enter Tryz.func17,Tryz.ntmps17
 rcases key with h | ⟨rfl,rfl⟩ | ⟨rfl,rfl,h⟩
 ·have d1:decide (E=0)=false:=by simpa using h
  have d2:(E == 0)=false:=by simpa using h
  have e2:E2=E:=by rw [← HE2.out,if_pos h]
  subst e2
  clear HE2
  go_wp2_with (first | (go_at_call 49;go_must (refine(HCJ.out _ S0.out.ext).mono ?_;rintro e w1 ⟨rfl,hb⟩;have S1:=Lib.hid (S0.out.call hb);obtain⟨b0,bz⟩:=bkc0l (S1.out.blk 3 rfl);obtain⟨c0,c1,c2,cz,f0,f1,f2⟩:=bkc0c1c2lz0z1z2 (S1.out.blk 2 rfl);obtain⟨a0,az,g0⟩:=bkc0lz0 (S1.out.blk 1 rfl);obtain⟨y0,yz,h0⟩:=bkc0lz0 (S1.out.blk 0 rfl);clear hb)) | (go_at_call 50;go_must (refine(HHM.out _).mono ?_;rintro e w2 ⟨rfl,rfl⟩)))
  have S9:=((((S1.out.set 2 rfl 0 (.bool false)).set 2 rfl 1 (.int .i64 0)).set 2 rfl 2 (.slice none 0 0)).set 1 rfl 0 (.int .i64 0)).set 0 rfl 0 (.int .i64 E2)
  obtain⟨x0,x1,x2⟩:=bkc0c1c2 (S9.blk 2 rfl)
  have x3:=(S9.blk 1 rfl).cell 0
  have x4:=(S9.blk 0 rfl).cell 0
  exact bodyPost_ret (v:=.tuple #[.agg #[.bool false,.int .i64 0,.slice none 0 0],.int .i64 0,.int .i64 E2]) (by simp [results,Tryz.results17,go_sem,x0,x1,x2,x3,x4,Tryz.sizeOf34,Tryz.isAgg34]) rfl ⟨none,0,rfl,(S9.nilrow 105 2).pick [0] (by decide) rfl⟩
 ·have e2:E2=1:=by rw [← HE2.out,if_neg (by simp)]
  subst e2
  clear HE2
  go_wp2_with (first | (go_at_call 49;go_must (refine(HCJ.out _ S0.out.ext).mono ?_;rintro e w1 ⟨rfl,hb⟩;have S1:=Lib.hid (S0.out.call hb);obtain⟨b0,bz⟩:=bkc0l (S1.out.blk 3 rfl);obtain⟨c0,c1,c2,cz,f0,f1,f2⟩:=bkc0c1c2lz0z1z2 (S1.out.blk 2 rfl);obtain⟨a0,az,g0⟩:=bkc0lz0 (S1.out.blk 1 rfl);obtain⟨y0,yz,h0⟩:=bkc0lz0 (S1.out.blk 0 rfl);clear hb)) | (go_at_call 50;go_must (refine(HHM.out _).mono ?_;rintro e w2 ⟨rfl,rfl⟩)))
  have S9:=((((S1.out.set 2 rfl 0 (.bool false)).set 2 rfl 1 (.int .i64 0)).set 2 rfl 2 (.slice none 0 0)).set 1 rfl 0 (.int .i64 0)).set 0 rfl 0 (.int .i64 1)
  obtain⟨x0,x1,x2⟩:=bkc0c1c2 (S9.blk 2 rfl)
  have x3:=(S9.blk 1 rfl).cell 0
  have x4:=(S9.blk 0 rfl).cell 0
  exact bodyPost_ret (v:=.tuple #[.agg #[.bool false,.int .i64 0,.slice none 0 0],.int .i64 0,.int .i64 1]) (by simp [results,Tryz.results17,go_sem,x0,x1,x2,x3,x4,Tryz.sizeOf34,Tryz.isAgg34]) rfl ⟨none,0,rfl,(S9.nilrow 105 2).pick [0] (by decide) rfl⟩
 ·have e2:E2=1:=by rw [← HE2.out,if_neg (by simp)]
  subst e2
  clear HE2
  have d1:decide (bud<1)=true:=by simpa using h
  go_wp2_with (first | (go_at_call 49;go_must (refine(HCJ.out _ S0.out.ext).mono ?_;rintro e w1 ⟨rfl,hb⟩;have S1:=Lib.hid (S0.out.call hb);obtain⟨b0,bz⟩:=bkc0l (S1.out.blk 3 rfl);obtain⟨c0,c1,c2,cz,f0,f1,f2⟩:=bkc0c1c2lz0z1z2 (S1.out.blk 2 rfl);obtain⟨a0,az,g0⟩:=bkc0lz0 (S1.out.blk 1 rfl);obtain⟨y0,yz,h0⟩:=bkc0lz0 (S1.out.blk 0 rfl);clear hb)) | (go_at_call 50;go_must (refine(HHM.out _).mono ?_;rintro e w2 ⟨rfl,rfl⟩)))
  have S9:=((((S1.out.set 2 rfl 0 (.bool false)).set 2 rfl 1 (.int .i64 0)).set 2 rfl 2 (.slice none 0 0)).set 1 rfl 0 (.int .i64 0)).set 0 rfl 0 (.int .i64 1)
  obtain⟨x0,x1,x2⟩:=bkc0c1c2 (S9.blk 2 rfl)
  have x3:=(S9.blk 1 rfl).cell 0
  have x4:=(S9.blk 0 rfl).cell 0
  exact bodyPost_ret (v:=.tuple #[.agg #[.bool false,.int .i64 0,.slice none 0 0],.int .i64 0,.int .i64 1]) (by simp [results,Tryz.results17,go_sem,x0,x1,x2,x3,x4,Tryz.sizeOf34,Tryz.isAgg34]) rfl ⟨none,0,rfl,(S9.nilrow 105 2).pick [0] (by decide) rfl⟩
end
section
open Go Go.RowKit
theorem run_m {k f t rad most:Int} {ws:List ByteArray} {O T R V:List Int} {n:Nat} (hck:checkR O T R V=true) (hn:O.length=n+1) (h200:n≤200) (hq:chkQ k f t ws rad most (n:Int)=0) :
  (k=1∨k=2∨k=3)∧(∀ i,RunI n i (runM (nextL k rad true O T R V) (startQ k f t 0) i)) ∧
  ∃ m,m<n∧doneB k t (runM (nextL k rad true O T R V) (startQ k f t 0) (m+1))=true∧∀ j,j<m→doneB k t (runM (nextL k rad true O T R V) (startQ k f t 0) (j+1))=false:=by
 have hl:Leads n (nextL k rad true O T R V):=next_leads hck hn
 have ho:=chkQ_zero.1 hq
 by_cases h12:k=1∨k=2
 ·have hk:k=1∨k=2∨k=3:=by omega
  rw [okQ_12 h12,Bool.and_eq_true] at ho
  obtain⟨o1,o2⟩:=ho
  unfold plcB at o1 o2
  simp only [Bool.and_eq_true,decide_eq_true_eq] at o1 o2
  obtain⟨s,rfl⟩:∃ s:Nat,f=(s:Int):=⟨f.toNat,by omega⟩
  obtain⟨u,rfl⟩:∃ u:Nat,t=(u:Int):=⟨t.toNat,by omega⟩
  obtain⟨f1,f2,_⟩:=start_facts (k:=k) (rad:=rad) (most:=rad) (s:=s) (t:=u) (n:=n) hk (by omega) (fun _=>by omega) rfl rfl
  exact⟨hk,runI_all hl f1 f2,run_done hck hn h200 hk (by omega) (fun _=>by omega)⟩
 ·by_cases h3:k=3
  ·subst h3
   rw [okQ_3,Bool.and_eq_true,Bool.and_eq_true] at ho
   obtain⟨⟨o1,_⟩,_⟩:=ho
   unfold plcB at o1
   simp only [Bool.and_eq_true,decide_eq_true_eq] at o1
   obtain⟨s,rfl⟩:∃ s:Nat,f=(s:Int):=⟨f.toNat,by omega⟩
   have e1:startQ 3 (s:Int) t 0=startQ 3 (s:Int) ((0:Nat):Int) 0:=rfl
   have e2:∀ p,doneB 3 t p=doneB 3 ((0:Nat):Int) p:=fun p=>rfl
   obtain⟨f1,f2,_⟩:=start_facts (k:=3) (rad:=rad) (most:=rad) (s:=s) (t:=0) (n:=n) (Or.inr (Or.inr rfl)) (by omega) (fun h=>absurd h (by decide)) rfl rfl
   rw [e1]
   simp only [e2]
   exact⟨by simp,runI_all hl f1 f2,run_done (k:=3) (s:=s) (t:=0) hck hn h200 (Or.inr (Or.inr rfl)) (by omega) (fun h=>absurd h (by decide))⟩
  ·rw [okQ_else h12 h3] at ho
   cases ho
end
section
open Go Go.RowKit
def RunS (O T R V:List Int) (L:List Po) (k f t:Int) (ws:List ByteArray) (rad most wv bud:Int) (b:Bool) (d:Int) (F:List (Int × Int)) (n e:Int):Prop :=
 (chkJ (checkR O T R V) k f t ws rad most O.length≠0→b=false∧d=0∧F=[]∧n=0∧e=chkJ (checkR O T R V) k f t ws rad most O.length) ∧
 (chkJ (checkR O T R V) k f t ws rad most O.length=0→¬ (1≤wv∧wv≤16∧1≤bud)→b=false∧d=0∧F=[]∧n=0∧e=1) ∧
 (chkJ (checkR O T R V) k f t ws rad most O.length=0→1≤wv∧wv≤16∧1≤bud→(k=1∨k=2∨k=3)∧∃ m:Nat,m<O.length∧doneB k t (runM (nextL k rad true O T R V) (startQ k f t 0) (m+1))=true∧(∀ j,j<m→doneB k t (runM (nextL k rad true O T R V) (startQ k f t 0) (j+1))=false) ∧
  ((m:Int)+1≤bud→AnsD k t L ws most (runM (nextL k rad true O T R V) (startQ k f t 0) (m+1)) b d F∧n=(m:Int)+1∧e=0)∧(bud<(m:Int)+1→b=false∧d=0∧F=[]∧n=bud∧e=251))
theorem least_uniqB {p:Nat→Bool} {m m':Nat} (h:p m=true) (hf:∀ j,j<m→p j=false) (h':p m'=true) (hf':∀ j,j<m'→p j=false):m=m':=by
 rcases Nat.lt_trichotomy m m' with h1 | h1 | h1
 ·rw [hf' m h1] at h;cases h
 ·exact h1
 ·rw [hf m' h1] at h';cases h'
theorem RunG (k f t:Int) (pw:Option Addr) (nw cw:Nat) (ws:List ByteArray) (rad most:Int) (po:Option Addr) (no co:Nat) (O:List Int) (pt:Option Addr) (nt ct:Nat) (T:List Int) (pr:Option Addr) (nr cr:Nat) (R:List Int) (pv:Option Addr) (nv cv:Nat) (V:List Int) (pl:Option Addr) (nl cl:Nat) (hs:List Hd) (L:List Po) (wv bud:Int) (pp:Option Addr) (np cp:Nat) (pk:List Int) (w:World) (hO:Rd w 1 po no (encI O)) (hT:Rd w 1 pt nt (encI T)) (hR:Rd w 1 pr nr (encI R)) (hV:Rd w 1 pv nv (encI V)) (hct:nt≤ct) (hcv:nv≤cv)
  (hL:RdP w pl nl hs L) (hW:Rd w 1 pw nw (encS ws)) (hpk:Rd w 1 pp np (encI pk)) (h200:no≤200) (hz:∀ s∈ws,s.size≤1000000) (hb2:bud≤9223372036854775807)
  (ht:I64 t) (hcw:nw≤cw) (hnw:nw≤100) (hok:PoOk L) :
  Calls Tryz.prog 17 #[.agg #[.int .i64 k,.int .i64 f,.int .i64 t,.slice pw nw cw,.int .i64 rad,.int .i64 most],.agg #[.slice po no co,.slice pt nt ct,.slice pr nr cr,.slice pv nv cv],.slice pl nl cl,.int .i64 wv,.int .i64 bud,.slice pp np cp] w fun x w'=>∃ b d F n e,RunS O T R V L k f t ws rad most wv bud b d F n e∧RunQ b d F n e w x w':=by
 have hno:=hO.nI
 by_cases h0:chkJ (checkR O T R V) k f t ws rad most O.length=0
 ·by_cases h1:1≤wv∧wv≤16∧1≤bud
  ·have hck:checkR O T R V=true:=by
    cases hc:checkR O T R V with
    | true=>rfl
    | false=>rw [hc] at h0;unfold chkJ at h0;rw [if_neg (by simp)] at h0;cases h0
   have hq:chkQ k f t ws rad most ((O.length:Int) - 1)=0:=by rw [hck] at h0;unfold chkJ at h0;rw [if_pos rfl] at h0;exact h0
   obtain⟨n,hn⟩:∃ n,O.length=n+1:=by
    obtain⟨e1,e2,e3,e4⟩:=checkR_half hck
    obtain⟨r1,r2,r3,r4,r5,r6⟩:=offB_parts (halfB_off e3)
    exact⟨O.length - 1,by omega⟩
   have hq2:chkQ k f t ws rad most (n:Int)=0:=by rw [hn] at hq;rw [← hq];congr 1;omega
   obtain⟨hk,hI,m,hm,hd,hf⟩:=run_m (k:=k) (rad:=rad) hck hn (by omega) hq2
   obtain⟨wk,rfl⟩:∃ wk:Nat,wv=(wk:Int):=⟨wv.toNat,by omega⟩
   refine(RunOk k f t pw nw cw ws rad most po no co O pt nt ct T pr nr cr R pv nv cv V pl nl cl hs L wk bud pp np cp pk w n m (runM (nextL k rad true O T R V) (startQ k f t 0)) hO hT hR hV hct hcv hL hW hpk hck hn (by omega) (by omega) (by omega) hz hq2 h1.2.2 hb2 (by omega) hk ht hcw hnw hok rfl hI (fun _=>rfl) hd hf).mono ?_
   rintro x w' ⟨b,d,F,g1,g2⟩
   by_cases hb:(m:Int)+1≤bud
   ·obtain⟨a1,a2⟩:=g1 hb
    exact⟨b,d,F,_,_,⟨fun h=>absurd h0 h,fun _ h=>absurd h1 h,fun _ _=>⟨hk,m,by omega,hd,hf,fun _=>⟨a1,rfl,rfl⟩,fun h=>by omega⟩⟩,a2⟩
   ·exact⟨false,0,[],_,_,⟨fun h=>absurd h0 h,fun _ h=>absurd h1 h,fun _ _=>⟨hk,m,by omega,hd,hf,fun h=>absurd h hb,fun _=>⟨rfl,rfl,rfl,rfl,rfl⟩⟩⟩,g2 (by omega)⟩
  ·have h:=RunErr k f t pw nw cw ws rad most po no co O pt nt ct T pr nr cr R pv nv cv V pl nl cl wv bud pp np cp w hO hT hR hV hct hcv hW hz (by omega) (by rw [hno];omega)
   rw [hno,if_neg (by rw [h0];simp)] at h
   rw [hno]
   exact h.mono fun x w' hx=>⟨_,_,_,_,_,⟨fun h=>absurd h0 h,fun _ _=>⟨rfl,rfl,rfl,rfl,rfl⟩,fun _ h=>absurd h h1⟩,hx⟩
 ·have h:=RunErr k f t pw nw cw ws rad most po no co O pt nt ct T pr nr cr R pv nv cv V pl nl cl wv bud pp np cp w hO hT hR hV hct hcv hW hz (by omega) (Or.inl (by rw [hno];exact h0))
  rw [hno,if_pos h0] at h
  rw [hno]
  exact h.mono fun x w' hx=>⟨_,_,_,_,_,⟨fun _=>⟨rfl,rfl,rfl,rfl,rfl⟩,fun h=>absurd h h0,fun h=>absurd h h0⟩,hx⟩
end
section
open Go Go.RowKit
theorem chkJ_facts {O T R V:List Int} {k f t rad most:Int} {ws:List ByteArray} (h:chkJ (checkR O T R V) k f t ws rad most O.length=0) :
  checkR O T R V=true∧chkQ k f t ws rad most ((O.length:Int) - 1)=0∧∃ n,O.length=n+1∧0≤f∧f<n ∧
   ((k=1∨k=2)∧0≤t∧t<n∨k=3∧1≤ws.length∧ws.length≤8∧0≤rad∧rad≤200∧1≤most∧most≤100):=by
 have hck:checkR O T R V=true:=by
  cases hc:checkR O T R V with
  | true=>rfl
  | false=>rw [hc] at h;unfold chkJ at h;rw [if_neg (by simp)] at h;cases h
 have hq:chkQ k f t ws rad most ((O.length:Int) - 1)=0:=by rw [hck] at h;unfold chkJ at h;rw [if_pos rfl] at h;exact h
 obtain⟨n,hn⟩:∃ n,O.length=n+1:=by
  obtain⟨e1,e2,e3,e4⟩:=checkR_half hck
  obtain⟨r1,r2,r3,r4,r5,r6⟩:=offB_parts (halfB_off e3)
  exact⟨O.length - 1,by omega⟩
 refine⟨hck,hq,n,hn,?_⟩
 have ho:=chkQ_zero.1 hq
 by_cases h12:k=1∨k=2
 ·rw [okQ_12 h12,Bool.and_eq_true] at ho
  obtain⟨o1,o2⟩:=ho
  rw [plcB_iff] at o1 o2
  exact⟨by omega,by omega,.inl ⟨h12,by omega,by omega⟩⟩
 ·by_cases h3:k=3
  ·subst h3
   rw [okQ_3,Bool.and_eq_true,Bool.and_eq_true] at ho
   obtain⟨⟨o1,o2⟩,o3⟩:=ho
   rw [plcB_iff] at o1
   unfold manyB at o2
   unfold numB at o3
   simp only [Bool.and_eq_true,decide_eq_true_eq] at o2 o3
   exact⟨by omega,by omega,.inr ⟨rfl,by omega,by omega,by omega,by omega,by omega,by omega⟩⟩
  ·rw [okQ_else h12 h3] at ho
   cases ho
end
section
open Go Go.RowKit
def needL (O T R V:List Int) (k f t rad:Int) (wk m:Nat):List (List Int):=(List.range m).map fun i=>eachL (runM (nextL k rad true O T R V) (startQ k f t 0) (i+1)).1 wk
theorem needL_len (O T R V:List Int) (k f t rad:Int) (wk m:Nat):(needL O T R V k f t rad wk m).length=m:=by simp [needL]
theorem needL_nth {O T R V:List Int} {k f t rad:Int} {wk m i:Nat} (h:i<m):nth (needL O T R V k f t rad wk m) i=eachL (runM (nextL k rad true O T R V) (startQ k f t 0) (i+1)).1 wk:=by
 unfold needL
 rw [nth_eq (by rw [List.length_map,List.length_range];exact h),List.getElem_map,List.getElem_range]
def NeedS (O T R V:List Int) (k f t:Int) (ws:List ByteArray) (rad most wv:Int) (X:List (List Int)) (e:Int):Prop :=
 (chkJ (checkR O T R V) k f t ws rad most O.length≠0→X=[]∧e=chkJ (checkR O T R V) k f t ws rad most O.length)∧(chkJ (checkR O T R V) k f t ws rad most O.length=0→¬ (1≤wv∧wv≤16)→X=[]∧e=1) ∧
 (chkJ (checkR O T R V) k f t ws rad most O.length=0→1≤wv∧wv≤16→e=0∧∃ m:Nat,m<O.length∧doneB k t (runM (nextL k rad true O T R V) (startQ k f t 0) (m+1))=true∧(∀ j,j<m→doneB k t (runM (nextL k rad true O T R V) (startQ k f t 0) (j+1))=false)∧X=needL O T R V k f t rad wv.toNat (m+1))
theorem needS_uniq {O T R V:List Int} {k f t:Int} {ws:List ByteArray} {rad most:Int} {wv:Int} {X X':List (List Int)} {e e':Int} (h:NeedS O T R V k f t ws rad most wv X e) (h':NeedS O T R V k f t ws rad most wv X' e'):X=X'∧e=e':=by
 by_cases h0:chkJ (checkR O T R V) k f t ws rad most O.length=0
 ·by_cases h1:1≤wv∧wv≤16
  ·obtain⟨a1,m,a2,a3,a4,a5⟩:=h.2.2 h0 h1
   obtain⟨c1,m',c2,c3,c4,c5⟩:=h'.2.2 h0 h1
   obtain rfl:m=m':=least_uniqB (p:=fun i=>doneB k t (runM (nextL k rad true O T R V) (startQ k f t 0) (i+1))) a3 a4 c3 c4
   exact⟨by rw [a5,c5],by rw [a1,c1]⟩
  ·obtain⟨a1,a2⟩:=h.2.1 h0 h1
   obtain⟨c1,c2⟩:=h'.2.1 h0 h1
   exact⟨by rw [a1,c1],by rw [a2,c2]⟩
 ·obtain⟨a1,a2⟩:=h.1 h0
  obtain⟨c1,c2⟩:=h'.1 h0
  exact⟨by rw [a1,c1],by rw [a2,c2]⟩
theorem needS_run {O T R V:List Int} {k f t:Int} {ws:List ByteArray} {rad most:Int} {L:List Po} {wv bud:Int} {X:List (List Int)} {b:Bool} {d:Int} {F:List (Int × Int)} {n e e':Int} (hbud:O.length<bud) (hR:RunS O T R V L k f t ws rad most wv bud b d F n e) (hN:NeedS O T R V k f t ws rad most wv X e') :
  e=e'∧(e'=0→(X.length:Int)=n)∧(e'≠0→X=[]):=by
 by_cases h0:chkJ (checkR O T R V) k f t ws rad most O.length=0
 ·by_cases h1:1≤wv∧wv≤16
  ·obtain⟨c1,m',c2,c3,c4,c5⟩:=hN.2.2 h0 h1
   obtain⟨hk,m,a1,a2,a3,a4,a5⟩:=hR.2.2 h0 ⟨h1.1,h1.2,by omega⟩
   obtain rfl:m=m':=least_uniqB (p:=fun i=>doneB k t (runM (nextL k rad true O T R V) (startQ k f t 0) (i+1))) a2 a3 c3 c4
   obtain⟨x1,x2,x3⟩:=a4 (by omega)
   exact⟨by rw [x3,c1],fun _=>by rw [c5,needL_len,x2];omega,fun h=>absurd c1 h⟩
  ·obtain⟨a1,a2⟩:=hN.2.1 h0 h1
   obtain⟨_,_,_,x4,x5⟩:=hR.2.1 h0 (by omega)
   exact⟨by rw [a2,x5],fun h=>by omega,fun _=>a1⟩
 ·obtain⟨a1,a2⟩:=hN.1 h0
  obtain⟨_,_,_,x4,x5⟩:=hR.1 h0
  exact⟨by rw [a2,x5],fun h=>absurd (a2.symm.trans h) h0,fun _=>a1⟩
theorem run_facts {O T R V:List Int} {k f t:Int} {ws:List ByteArray} {rad most:Int} (h0:chkJ (checkR O T R V) k f t ws rad most O.length=0) (h200:O.length≤201):∃ n,O.length=n+1∧Leads n (nextL k rad true O T R V)∧(∀ i,RunI n i (runM (nextL k rad true O T R V) (startQ k f t 0) i))∧startQ k f t 0≠[]:=by
 obtain⟨hck,hq,n,hn,f0,f1,hcs⟩:=chkJ_facts h0
 have hq2:chkQ k f t ws rad most (n:Int)=0:=by rw [← hq];congr 1;omega
 obtain⟨hk,hI,_⟩:=run_m (k:=k) (rad:=rad) hck hn (by omega) hq2
 refine⟨n,hn,next_leads hck hn,hI,?_⟩
 unfold startQ
 rcases hk with h | h | h <;> subst h <;> simp
theorem need_grow {O T R V:List Int} {k f t:Int} {ws:List ByteArray} {rad most:Int} (h0:chkJ (checkR O T R V) k f t ws rad most O.length=0) (h200:O.length≤201) {wk m i:Nat} (hi:i+1<m):fitsB (nth (needL O T R V k f t rad wk m) i) (nth (needL O T R V k f t rad wk m) (i+1))=true:=by
 obtain⟨n,hn,hl,hI,hs⟩:=run_facts h0 h200
 rw [needL_nth (by omega),needL_nth hi,fitsB_iff]
 intro j hj
 rw [eachL_len] at hj
 refine⟨by rw [eachL_len];exact hj,?_⟩
 rw [eachL_nth hj,eachL_nth hj]
 have:=cntH_mono (hI (i+1)).kst (hI (i+1+1)).kst (fun x hx=>(runI_st (hI (i+1)) _).2 (.inl hx)) wk j
 omega
theorem need_sum {O T R V:List Int} {k f t:Int} {ws:List ByteArray} {rad most:Int} (h0:chkJ (checkR O T R V) k f t ws rad most O.length=0) (h200:O.length≤201) {wk m i:Nat} (hw:0<wk) (hi:i<m):(nth (needL O T R V k f t rad wk m) i).sum=((runM (nextL k rad true O T R V) (startQ k f t 0) (i+1)).1.length:Int)∧1≤(runM (nextL k rad true O T R V) (startQ k f t 0) (i+1)).1.length∧(runM (nextL k rad true O T R V) (startQ k f t 0) (i+1)).1.length≤2*(O.length - 1):=by
 obtain⟨n,hn,hl,hI,hs⟩:=run_facts h0 h200
 rw [needL_nth hi,eachL_sum hw]
 refine⟨rfl,?_,?_⟩
 ·have hne:∀ j,(runM (nextL k rad true O T R V) (startQ k f t 0) (j+1)).1≠[]:=fun j=>by
   induction j with
   | zero =>
    intro h
    obtain⟨x,hx⟩:=List.exists_mem_of_ne_nil _ hs
    have:=(runI_st (hI 0) (nextL k rad true O T R V)).2 (.inr (show x∈(runM (nextL k rad true O T R V) (startQ k f t 0) 0).2 from hx))
    rw [show (stepM (nextL k rad true O T R V) (runM (nextL k rad true O T R V) (startQ k f t 0) 0).1 (runM (nextL k rad true O T R V) (startQ k f t 0) 0).2).1=(runM (nextL k rad true O T R V) (startQ k f t 0) (0+1)).1 from rfl,h] at this
    cases this
   | succ j ih =>
    intro h
    obtain⟨x,hx⟩:=List.exists_mem_of_ne_nil _ ih
    have:=(runI_st (hI (j+1)) (nextL k rad true O T R V)).2 (.inl hx)
    rw [show (stepM (nextL k rad true O T R V) (runM (nextL k rad true O T R V) (startQ k f t 0) (j+1)).1 (runM (nextL k rad true O T R V) (startQ k f t 0) (j+1)).2).1=(runM (nextL k rad true O T R V) (startQ k f t 0) (j+1+1)).1 from rfl,h] at this
    cases this
  have:=hne i
  rcases Nat.eq_zero_or_pos (runM (nextL k rad true O T R V) (startQ k f t 0) (i+1)).1.length with h | h
  ·exact absurd (List.length_eq_zero_iff.1 h) this
  ·exact h
 ·have:=run_most (hI (i+1)).kst (fun x hx=>((hI (i+1)).st x hx).1)
  rw [hn]
  exact this
end
section
open Go Go.RowKit
theorem stepperCl (k f t:Int) (pw:Option Addr) (nw cw:Nat) (rad most:Int) (po:Option Addr) (no co:Nat) (pt:Option Addr) (nt ct:Nat) (pr:Option Addr) (nr cr:Nat) (pv:Option Addr) (nv cv:Nat) (pl:Option Addr) (nl cl wk:Nat) (p Y:List Sq × List Sq) (dn:Bool) (gq gr gl gw gs gm:Nat) (ps:Option Addr) (ns cs:Nat) (pm:Option Addr) (nm cm:Nat) (w0 w:World) (Γ:List Pc) (S:Sep w0 w (.own 146 4 ps ns cs (encQ p.1) :: .own 138 4 pm nm cm (encQ p.2) :: .blk gs 85 #[.slice ps ns cs] :: .blk gm 83 #[.slice pm nm cm] :: .blk gw 3 #[.int .i64 wk] :: .blk gl 28 #[.slice pl nl cl] :: .blk gr 27 #[.slice po no co,.slice pt nt ct,.slice pr nr cr,.slice pv nv cv] :: .blk gq 24 #[.int .i64 k,.int .i64 f,.int .i64 t,.slice pw nw cw,.int .i64 rad,.int .i64 most] :: Γ))
  (HST0:∀ W,Ext w0 W→Rd W 4 ps ns (encQ p.1)→Rd W 4 pm nm (encQ p.2)→Calls Tryz.prog 94 #[.agg #[.int .i64 k,.int .i64 f,.int .i64 t,.slice pw nw cw,.int .i64 rad,.int .i64 most],.agg #[.slice po no co,.slice pt nt ct,.slice pr nr cr,.slice pv nv cv],.slice ps ns cs,.slice pm nm cm,.int .i64 wk,.slice none 0 0] W fun e w'=>∃ q c q2 c2,e=.returned (.tuple #[.slice q Y.1.length c,.slice q2 Y.2.length c2,.int .i64 0])∧Sep W w' [.own 146 4 q Y.1.length c (encQ Y.1),.own 138 4 q2 Y.2.length c2 (encQ Y.2)])
  (HDN0:∀ (ps:Option Addr) (ns cs:Nat) (pm:Option Addr) (nm cm:Nat),ns=Y.1.length→∃ b d F,∀ W,Ext w0 W→Rd W 4 ps ns (encQ Y.1)→Rd W 4 pm nm (encQ Y.2)→Calls Tryz.prog 95 #[.agg #[.int .i64 k,.int .i64 f,.int .i64 t,.slice pw nw cw,.int .i64 rad,.int .i64 most],.slice pl nl cl,.slice ps ns cs,.slice pm nm cm] W (DoneQ b d F dn W)) :
  Calls Tryz.prog 108 #[.pointer (some ⟨gq,0,none⟩),.pointer (some ⟨gr,0,none⟩),.pointer (some ⟨gs,0,none⟩),.pointer (some ⟨gm,0,none⟩),.pointer (some ⟨gw,0,none⟩),.pointer (some ⟨gl,0,none⟩)] w fun e w'=>∃ q c q2 c2,e=.returned (.tuple #[.slice q Y.1.length c,.bool dn,.int .i64 0])∧Sep w0 w' (.own 146 4 q Y.1.length c (encQ Y.1) :: .own 138 4 q2 Y.2.length c2 (encQ Y.2) :: .blk gs 85 #[.slice q Y.1.length c] :: .blk gm 83 #[.slice q2 Y.2.length c2] :: .blk gw 3 #[.int .i64 wk] :: .blk gl 28 #[.slice pl nl cl] :: .blk gr 27 #[.slice po no co,.slice pt nt ct,.slice pr nr cr,.slice pv nv cv] :: .blk gq 24 #[.int .i64 k,.int .i64 f,.int .i64 t,.slice pw nw cw,.int .i64 rad,.int .i64 most] :: Γ):=by
 have SH:=Lib.hid S
 have HST:=Lib.hid HST0
 have HDN:=Lib.hid HDN0
 clear S HST0 HDN0
 obtain⟨s0,sz,sf⟩:=bkc0lz0 (SH.out.blk 2 rfl)
 obtain⟨m0,mz,mf⟩:=bkc0lz0 (SH.out.blk 3 rfl)
 obtain⟨v0,vz,vf⟩:=bkc0lz0 (SH.out.blk 4 rfl)
 obtain⟨b0,b1,b2,b3,bz⟩:=bkc0c1c2c3l (SH.out.blk 6 rfl)
 obtain⟨a0,a1,a2,a3,a4,a5,az⟩:=bkc0c1c2c3c4c5l (SH.out.blk 7 rfl)
 go_enter Tryz.func108,Tryz.ntmps108
 go_wp2_with (first
  | (go_at_call 95;have _t:=S3;go_must (obtain⟨yb,yd,yF,hDn⟩:=HDN.out q Y.1.length c q2 Y.2.length c2 rfl;refine(hDn _ S3.out.ext (S3.out.rdx 0 rfl) (S3.out.rdx 1 rfl)).mono ?_;rintro e w4 ⟨q5,c5',rfl,Z⟩;have S4:=Lib.hid ((S3.out.call Z.ext).junk (.cells #[.bool yb,.int .i64 yd,.slice q5 yF.length c5'] 34));clear Z hDn a0 a1 a2 a3 a4 a5 az l0 lz lf))
  | (go_at_call 94;go_must (refine(HST.out _ SH.out.ext (SH.out.rdx 0 rfl) (SH.out.rdx 1 rfl)).mono ?_;rintro e w1 ⟨q,c,q2,c2,rfl,Z⟩;have S1:=Lib.hid (SH.out.comp Z);clear Z a0 a1 a2 a3 a4 a5 az b0 b1 b2 b3 bz s0 sz sf m0 mz mf v0 vz vf;obtain⟨s0,sz,sf⟩:=bkc0lz0 (S1.out.blk 4 rfl);have S2:=Lib.hid (S1.out.set 4 rfl 0 (.slice q Y.1.length c));obtain⟨m0,mz,mf⟩:=bkc0lz0 (S2.out.blk 5 rfl);have S3':=Lib.hid (S2.out.set 5 rfl 0 (.slice q2 Y.2.length c2));obtain⟨l0,lz,lf⟩:=bkc0lz0 (S3'.out.blk 7 rfl);obtain⟨a0,a1,a2,a3,a4,a5,az⟩:=bkc0c1c2c3c4c5l (S3'.out.blk 9 rfl);have S3:=Lib.hid (show Sep w0 ((w1.setCell ⟨gs,0,none⟩ (.slice q Y.1.length c)).setCell ⟨gm,0,none⟩ (.slice q2 Y.2.length c2)) (.own 146 4 q Y.1.length c (encQ Y.1) :: .own 138 4 q2 Y.2.length c2 (encQ Y.2) :: .blk gs 85 #[.slice q Y.1.length c] :: .blk gm 83 #[.slice q2 Y.2.length c2] :: .blk gw 3 #[.int .i64 wk] :: .blk gl 28 #[.slice pl nl cl] :: .blk gr 27 #[.slice po no co,.slice pt nt ct,.slice pr nr cr,.slice pv nv cv] :: .blk gq 24 #[.int .i64 k,.int .i64 f,.int .i64 t,.slice pw nw cw,.int .i64 rad,.int .i64 most] :: Γ) from S3'.out.sub (List.Sublist.cons_cons _ (List.Sublist.cons_cons _ (List.Sublist.cons _ (List.Sublist.cons _ (List.Sublist.refl _))))));clear S2 S3')))
 go_ret3
 exact⟨q,c,q2,c2,rfl,S4.out⟩
end
end Go.Proofs.YtfjhjennfiihhaaGreat
