/- Texts of this claim, one behind the other: HubG20, Lb9, Lb14, Lb18, Lb19, RHub20, PlainHc, LTells12, LAsks20, Post, Open4, Open12. -/
import Derived.Test.YtfjhjennfiihhaaGreatQJobAsks6
set_option maxRecDepth 100000
set_option maxHeartbeats 16000000
namespace Go.Proofs.YtfjhjennfiihhaaGreat
open Go Go.RowKit Tryz
theorem Eh (k:Int) (f t:Int) (pw:Option Addr) (nw cw:Nat) (rad most:Int) (pA:Option Addr) (nA cA:Nat) (pB:Option Addr) (nB cB:Nat) (b:Bool) (d:Int) (F:List (Int × Int)) (ec:Int) (w:World) (h1:∀ W,Ext w W->Calls prog 75 #[.agg #[.slice pA nA cA,.slice pB nB cB]] W fun e w'=>e=.returned (.bool true)/\Ext W w') (h2:∀ W,Ext w W->Calls prog 76 #[.agg #[.int .i64 k,.int .i64 f,.int .i64 t,.slice pw nw cw,.int .i64 rad,.int .i64 most],.int .i64 (nA:Int)] W fun e w'=>e=.returned (.int .i64 0)/\Ext W w') (HM:∀ W,Ext w W->Ih W (w.heap.size+1) 67 #[.slice pA nA cA,.slice pB nB cB]->Calls prog 70 #[.agg #[.int .i64 k,.int .i64 f,.int .i64 t,.slice pw nw cw,.int .i64 rad,.int .i64 most,.func (.func 77) #[] #[.pointer (some ⟨w.heap.size+1,0,none⟩)],.nilFunc]] W (dO b d F ec W)):Calls prog 43 #[.agg #[.int .i64 k,.int .i64 f,.int .i64 t,.slice pw nw cw,.int .i64 rad,.int .i64 most],.agg #[.slice pA nA cA,.slice pB nB cB]] w (dO b d F ec w):=by
 have S0:=lh ((((Ic.start w).al #[.int .i64 k,.int .i64 f,.int .i64 t,.slice pw nw cw,.int .i64 rad,.int .i64 most] 24 w.heap.size rfl).al #[.slice pA nA cA,.slice pB nB cB] 67 (w.heap.size+1) (by simp)).al #[.bool false,.int .i64 0,.slice none 0 0] 34 (w.heap.size+1+1) (by simp))
 have IP:=lh h1
 have IK:=lh h2
 have TZ:=lh HM
 clear h1 h2 HM
 go_enter func43,ntmps43
 go_wp2_with (first | (go_at_call 70;have _t:=S2;go_must (refine(TZ.out _ S2.out.ext (S2.out.blk 1 rfl)).mono ?_;rintro e w4 ⟨q4,c4,rfl,Z⟩;have S4:=lh (S2.out.comp Z);clear a0 a1 a2 a3 a4 a5 az l0 l1 lz y0 y1 y2 yz f0 f1 f2;obtain⟨y0,y1,y2,yz,f0,f1,f2⟩:=ag (S4.out.blk 1 rfl);clear Z)) | (go_at_call 76;have _t:=S1;go_must (refine(IK.out _ S1.out.ext).mono ?_;rintro e w2 ⟨rfl,hb⟩;have S2:=lh (S1.out.call hb);clear a0 a1 a2 a3 a4 a5 az l0 l1 lz y0 y1 y2 yz f0 f1 f2;obtain⟨y0,y1,y2,yz,f0,f1,f2⟩:=ag (S2.out.blk 0 rfl);obtain⟨l0,l1,lz⟩:=aH (S2.out.blk 1 rfl);obtain⟨a0,a1,a2,a3,a4,a5,az⟩:=ao (S2.out.blk 2 rfl);clear hb)) | (go_at_call 75;go_must (refine(IP.out _ S0.out.ext).mono ?_;rintro e w1 ⟨rfl,hb⟩;have S1:=lh (S0.out.call hb);obtain⟨y0,y1,y2,yz,f0,f1,f2⟩:=ag (S1.out.blk 0 rfl);obtain⟨l0,l1,lz⟩:=aH (S1.out.blk 1 rfl);obtain⟨a0,a1,a2,a3,a4,a5,az⟩:=ao (S1.out.blk 2 rfl);clear hb)))
 have S9:=lh (((S4.out.set 1 rfl 0 (.bool b)).set 1 rfl 1 (.int .i64 d)).set 1 rfl 2 (.slice q4 F.length c4))
 obtain⟨x0,x1,x2⟩:=aw (S9.out.blk 1 rfl)
 refine bodyPost_ret (v:=.tuple #[.agg #[.bool b,.int .i64 d,.slice q4 F.length c4],.int .i64 ec]) (by simp [results,results43,go_sem,x0,x1,x2,sizeOf34,isAgg34]) rfl ?_
 exact⟨q4,c4,rfl,S9.out.pick [0] (by decide) rfl⟩
theorem Co (k:Int) (f t:Int) (pw:Option Addr) (nw cw:Nat) (rad most:Int) (pA:Option Addr) (nA cA:Nat) (pB:Option Addr) (nB cB:Nat) (c o:Bool) (q x y:Int) (w:World) (h1:∀ W,Ext w W->Calls prog 75 #[.agg #[.slice pA nA cA,.slice pB nB cB]] W fun e w'=>e=.returned (.bool c)/\Ext W w') (h2:∀ W,Ext w W->Calls prog 76 #[.agg #[.int .i64 k,.int .i64 f,.int .i64 t,.slice pw nw cw,.int .i64 rad,.int .i64 most],.int .i64 (nA:Int)] W fun e w'=>e=.returned (.int .i64 q)/\Ext W w')
  (h3:∀ W,Ext w W->Calls prog 78 #[.agg #[.slice pA nA cA,.slice pB nB cB],.int .i64 f,.int .i64 t] W fun e w'=>e=.returned (.tuple #[.int .i64 x,.bool o,.int .i64 y])/\Ext W w') (hk:c=true->q=0->(k=1\/k=2\/k=3)/\(k≠3->y=0)) :
  Calls prog 43 #[.agg #[.int .i64 k,.int .i64 f,.int .i64 t,.slice pw nw cw,.int .i64 rad,.int .i64 most],.agg #[.slice pA nA cA,.slice pB nB cB]] w (dO (jW c q k o) (jX c q k x) [] (jg c q k) w):=by
 cases c with
 | false =>
  rw [show jW false q k o=false from rfl,show jX false q k x=0 from rfl,show jg false q k=1 from rfl]
  have S0:=lh ((((Ic.start w).al #[.int .i64 k,.int .i64 f,.int .i64 t,.slice pw nw cw,.int .i64 rad,.int .i64 most] 24 w.heap.size rfl).al #[.slice pA nA cA,.slice pB nB cB] 67 (w.heap.size+1) (by simp)).al #[.bool false,.int .i64 0,.slice none 0 0] 34 (w.heap.size+1+1) (by simp))
  have IP:=lh h1
  clear h1 h2 h3 hk
  go_enter func43,ntmps43
  go_wp2_with (go_at_call 75;go_must (refine(IP.out _ S0.out.ext).mono ?_;rintro e w1 ⟨rfl,hb⟩;have S1:=lh (S0.out.call hb);obtain⟨y0,y1,y2,yz,f0,f1,f2⟩:=ag (S1.out.blk 0 rfl);obtain⟨l0,l1,lz⟩:=aH (S1.out.blk 1 rfl);obtain⟨a0,a1,a2,a3,a4,a5,az⟩:=ao (S1.out.blk 2 rfl);clear hb))
  have S9:=lh (((S1.out.set 0 rfl 0 (.bool false)).set 0 rfl 1 (.int .i64 0)).set 0 rfl 2 (.slice none 0 0))
  obtain⟨x0,x1,x2⟩:=aw (S9.out.blk 0 rfl)
  refine bodyPost_ret (v:=.tuple #[.agg #[.bool false,.int .i64 0,.slice none 0 0],.int .i64 1]) (by simp [results,results43,go_sem,x0,x1,x2,sizeOf34,isAgg34]) rfl ?_
  exact bZ rfl S9.out.ext
 | true =>
  by_cases hq:q=0
  ·subst hq
   obtain⟨hk1,hy⟩:=hk rfl rfl
   rcases hk1 with rfl | rfl | rfl
   ·obtain rfl:=hy (by decide)
    rw [show jW true 0 1 o=o from rfl,show jX true 0 1 x=x from rfl,show jg true 0 1=0 from rfl]
    refine Eh 1 f t pw nw cw rad most pA nA cA pB nB cB _ _ [] _ w h1 h2 ?_
    intro W hW hB
    exact FZ f t pw nw cw rad most _ _ _ [] _ W fun W1 hW1=>Gt 1 f t pw nw cw rad most _ o x 0 W1 fun W2 hW2=>DJ pA nA cA pB nB cB f t x 0 o _ W2 (hB.ext (Ext.trans hW1 hW2)) fun W3 hW3=>h3 W3 (Ext.trans hW (Ext.trans hW1 (Ext.trans hW2 hW3)))
   ·obtain rfl:=hy (by decide)
    rw [show jW true 0 2 o=o from rfl,show jX true 0 2 x=0 from rfl,show jg true 0 2=0 from rfl]
    refine Eh 2 f t pw nw cw rad most pA nA cA pB nB cB _ _ [] _ w h1 h2 ?_
    intro W hW hB
    exact F3 f t pw nw cw rad most _ _ _ [] _ W fun W1 hW1=>EZ 2 f t pw nw cw rad most _ o x 0 W1 fun W2 hW2=>DJ pA nA cA pB nB cB f t x 0 o _ W2 (hB.ext (Ext.trans hW1 hW2)) fun W3 hW3=>h3 W3 (Ext.trans hW (Ext.trans hW1 (Ext.trans hW2 hW3)))
   ·rw [show jW true 0 3 o=false from rfl,show jX true 0 3 x=0 from rfl,show jg true 0 3=180 from rfl]
    refine Eh 3 f t pw nw cw rad most pA nA cA pB nB cB _ _ [] _ w h1 h2 ?_
    intro W hW hB
    exact F4 f t pw nw cw rad most _ _ _ [] _ W fun W1 _=>GE 3 f t pw nw cw rad most _ W1
  ·have d1:decide (q=0)=false:=by simpa using hq
   have d2:(q == 0)=false:=by simpa using hq
   have hE:jg true q k=q:=by unfold jg;rw [if_neg (by simp),if_neg hq]
   rw [show jW true q k o=false by unfold jW;rw [hE,if_neg hq],show jX true q k x=0 by unfold jX;rw [hE,if_neg hq],hE]
   have S0:=lh ((((Ic.start w).al #[.int .i64 k,.int .i64 f,.int .i64 t,.slice pw nw cw,.int .i64 rad,.int .i64 most] 24 w.heap.size rfl).al #[.slice pA nA cA,.slice pB nB cB] 67 (w.heap.size+1) (by simp)).al #[.bool false,.int .i64 0,.slice none 0 0] 34 (w.heap.size+1+1) (by simp))
   have IP:=lh h1
   have IK:=lh h2
   clear hE h1 h2 h3 hk
   go_enter func43,ntmps43
   go_wp2_with (first | (go_at_call 76;have _t:=S1;go_must (refine(IK.out _ S1.out.ext).mono ?_;rintro e w2 ⟨rfl,hb⟩;have S2:=lh (S1.out.call hb);clear a0 a1 a2 a3 a4 a5 az l0 l1 lz y0 y1 y2 yz f0 f1 f2;obtain⟨y0,y1,y2,yz,f0,f1,f2⟩:=ag (S2.out.blk 0 rfl);obtain⟨l0,l1,lz⟩:=aH (S2.out.blk 1 rfl);obtain⟨a0,a1,a2,a3,a4,a5,az⟩:=ao (S2.out.blk 2 rfl);clear hb)) | (go_at_call 75;go_must (refine(IP.out _ S0.out.ext).mono ?_;rintro e w1 ⟨rfl,hb⟩;have S1:=lh (S0.out.call hb);obtain⟨y0,y1,y2,yz,f0,f1,f2⟩:=ag (S1.out.blk 0 rfl);obtain⟨l0,l1,lz⟩:=aH (S1.out.blk 1 rfl);obtain⟨a0,a1,a2,a3,a4,a5,az⟩:=ao (S1.out.blk 2 rfl);clear hb)))
   have S9:=lh (((S2.out.set 0 rfl 0 (.bool false)).set 0 rfl 1 (.int .i64 0)).set 0 rfl 2 (.slice none 0 0))
   obtain⟨x0,x1,x2⟩:=aw (S9.out.blk 0 rfl)
   refine bodyPost_ret (v:=.tuple #[.agg #[.bool false,.int .i64 0,.slice none 0 0],.int .i64 q]) (by simp [results,results43,go_sem,x0,x1,x2,sizeOf34,isAgg34]) rfl ?_
   exact bZ rfl S9.out.ext
def dR (T:jC) (k:Nat):Nat:=((T.take k).map List.length).sum
theorem iD {T:jC} {k:Nat} (hk:k<T.length):dR T (k+1)=dR T k+(ae T k).length:=by
 unfold dR
 rw [ak T k hk,List.map_append,List.sum_append];simp
theorem tt {T:jC} {k m:Nat} (h:k<=m):dR T k<=dR T m:=by
 induction h with
 | refl=>exact Nat.le_refl _
 | @step m _ ih =>
  refine Nat.le_trans ih ?_
  by_cases hm:m<T.length
  ·rw [iD hm];omega
  ·unfold dR
   rw [List.take_of_length_le (by omega),List.take_of_length_le (by omega)];exact Nat.le_refl _
def kR (A B:jC):Nat:=dR A A.length+dR B B.length
theorem tr {T:jC} {m:Nat} (h:∀ v,v<T.length->(ae T v).length<=m):∀ k,k<=T.length->dR T k<=k*m
 | 0,_=>by simp [dR]
 | k+1,hk=>by
  rw [iD (by omega),Nat.succ_mul]
  have:=tr h k (by omega)
  have:=h k (by omega)
  omega
theorem Dz (p:Option Addr) (m c:Nat) (l:List (Int × Int)) (n:Nat) (w:World) (hl:Rd w 2 p m (aj l)) :
  Calls prog 131 #[.slice p m c,.int .i64 n] w fun e w'=>e=.returned (.bool (aJ l n))/\Ext w w':=by
 have L1:=lh hl.nE
 have p1:=hl.ptr
 have n1:=hl.small
 have HL:=lh hl;clear hl
 go_enter func131,ntmps131
 go_wp2
 go_loopw [5,6] (fun i _ wr=>∃ k:Nat,k<=m/\i=.int .i64 k/\Hid (lH l n k)/\Ext w wr) (fun i _ _=>m - (intOf i).toNat)
 case atStart=>exact⟨0,Nat.zero_le _,rfl,⟨rfl,List.nodup_nil⟩,Below.refl _ _⟩
 case round =>
  obtain⟨k,hk,rfl,ok,hE⟩:=hrel
  by_cases hlt:k<m
  ·have I7:k<l.length:=by rw [<- L1.out];exact hlt
   have g1:=hE.cell (HL.out.cE hlt)
   have g2:=hE.cell (HL.out.cE2 hlt)
   have d1:(0:Int)<=k:=by omega
   have d2:(k:Int)<m:=by omega
   have I9:Hid (yX n (ae l k)=false->aJ l n=false):=fun h=>ra I7 h
   have J9:Hid ((ae l k).1∈(l.take k).map (·.1)->aJ l n=false):=fun h=>rb I7 h
   have HST:Hid (yX n (ae l k)=true->(ae l k).1 ∉ (l.take k).map (·.1)->lH l n (k+1)):=fun h1 h2=>oO I7 ok.out h1 h2
   obtain⟨x,hx⟩:∃ x,ae l k=x:=⟨_,rfl⟩
   rw [hx] at g1 g2 I9 J9 HST
   obtain⟨x1,x2⟩:=x
   simp only at g1 g2 J9 HST I9
   unfold yX at I9 HST
   simp only at I9 HST
   by_cases h1:x1<0
   ·have f1:decide (x1<0)=true:=by simpa using h1
    have HF:Hid (aJ l n=false):=I9.out (decide_eq_false (by omega))
    clear I9 J9 HST h1 ok hx
    have HE:=lh hE;clear hE
    go_wp2
    go_ret
    exact⟨by rw [HF.out];rfl,HE.out⟩
   ·have f1:decide (x1<0)=false:=by simpa using h1
    by_cases h2:(n:Int)<=x1
    ·have f2:decide ((n:Int)<=x1)=true:=by simpa using h2
     have HF:Hid (aJ l n=false):=I9.out (decide_eq_false (by omega))
     clear I9 J9 HST h1 h2 ok hx
     have HE:=lh hE;clear hE
     go_wp2
     go_ret
     exact⟨by rw [HF.out];rfl,HE.out⟩
    ·have f2:decide ((n:Int)<=x1)=false:=by simpa using h2
     by_cases h3:x2<0
     ·have f3:decide (x2<0)=true:=by simpa using h3
      have HF:Hid (aJ l n=false):=I9.out (decide_eq_false (by omega))
      clear I9 J9 HST h1 h2 h3 ok hx
      have HE:=lh hE;clear hE
      go_wp2
      go_ret
      exact⟨by rw [HF.out];rfl,HE.out⟩
     ·have f3:decide (x2<0)=false:=by simpa using h3
      by_cases h4:200<x2
      ·have f4:decide (200<x2)=true:=by simpa using h4
       have HF:Hid (aJ l n=false):=I9.out (decide_eq_false (by omega))
       clear I9 J9 HST h1 h2 h3 h4 ok hx
       have HE:=lh hE;clear hE
       go_wp2
       go_ret
       exact⟨by rw [HF.out];rfl,HE.out⟩
      ·have f4:decide (200<x2)=false:=by simpa using h4
       have HS2:Hid (x1 ∉ (l.take k).map (·.1)->lH l n (k+1)):=HST.out (decide_eq_true (by omega))
       have PU:=lh (HL.out.cE hlt)
       rw [hx] at PU
       clear I9 HST h1 h2 h3 h4 ok hx
       have HE:=lh hE;clear hE
       go_wp2
       go_loopw [6] (fun i wx=>∃ j:Nat,j<=k/\i=.int .i64 j/\Hid (x1 ∉ (l.take j).map (·.1))/\Ext w wx) (fun i _=>k - (intOf i).toNat)
       case atStart=>exact⟨0,Nat.zero_le _,rfl,by simp [Hid],HE.out⟩
       case round =>
        clear HE g1 g2
        obtain⟨j,hj,rfl,ha,hE⟩:=hrel
        by_cases hlj:j<k
        ·have WF:j<l.length:=by omega
         have g1:=hE.cell PU.out
         have g3:=hE.cell (HL.out.cE (show j<m by omega))
         have d3:(0:Int)<=j:=by omega
         have d4:(j:Int)<k:=by omega
         have d5:(j:Int)<m:=by omega
         have HT:Hid ((l.take (j+1)).map (·.1)=(l.take j).map (·.1) ++ [(ae l j).1]):=by unfold Hid;rw [ak l j WF,List.map_append];rfl
         have HM:Hid ((ae l j).1∈(l.take k).map (·.1)):=by
          unfold Hid
          refine List.mem_map.2 ⟨ae l j,?_,rfl⟩
          rw [ar WF,List.mem_take_iff_getElem]
          exact⟨j,by omega,rfl⟩
         generalize (ae l j).1=y at *
         by_cases he:y=x1
         ·have f5:(y == x1)=true:=by rw [beq_iff_eq];exact he
          have HF:Hid (aJ l n=false):=J9.out (he ▸ HM.out)
          clear he HM HT ha
          have HE:=lh hE;clear hE
          go_wp2
          go_quiet (fail)
          go_wp2
          go_ret
          exact⟨by rw [HF.out];rfl,HE.out.drewN _⟩
         ·have f5:(y == x1)=false:=by rw [beq_eq_false_iff_ne];exact he
          have HA2:Hid (x1 ∉ (l.take (j+1)).map (·.1)):=by
           unfold Hid
           rw [HT.out,List.mem_append,List.mem_singleton]
           rintro(h | h)
           ·exact ha.out h
           ·exact he h.symm
          clear he HM HT ha
          have HE:=lh hE;clear hE
          go_wp2
          go_quiet (fail)
          go_wp2
          go_roundw
          case rel=>exact⟨j+1,by omega,by go_num,HA2.out,HE.out.drewN _⟩
          case measure=>simp [intOf];omega
        ·obtain rfl:j=k:=by omega
         have HO:=lh (HS2.out ha.out)
         clear ha HS2
         have HE:=lh hE;clear hE
         go_wp2
         go_roundw
         case rel=>exact⟨j+1,by omega,by go_num,HO.out,HE.out⟩
         case measure=>simp [intOf];omega
  ·obtain rfl:k=m:=by omega
   have HF:=lh (qZ L1.out ok.out)
   clear ok
   have HE:=lh hE;clear hE
   go_wp2
   go_ret
   exact⟨by rw [HF.out];rfl,HE.out⟩
theorem sC (pA:Option Addr) (nA cA:Nat) (hA:List Hd) (A:jC) (pB:Option Addr) (nB cB:Nat) (hB:List Hd) (B:jC) (w:World) (RA:JD w pA nA hA A) (RB:JD w pB nB hB B):Calls prog 79 #[.agg #[.slice pA nA cA,.slice pB nB cB]] w fun e w'=>e=.returned (.bool (ci A B))/\Ext w w':=by
 have S0:=lh ((Ic.start w).al #[.slice pA nA cA,.slice pB nB cB] 67 w.heap.size rfl)
 have hlA:=RA.len
 have hlB:=RB.len
 by_cases hp:1<=nA/\nA<=200/\nB=nA
 ·obtain⟨h1,h2,rfl⟩:=hp
  have c1:decide ((nB:Int)<1)=false:=by simp;omega
  have c2:decide ((200:Int)<nB)=false:=by simp;omega
  have c3:((nB:Int) != (nB:Int))=false:=by simp
  have HY:Hid ((∀ v,v<nB->(aJ (ae A v) nB && aJ (ae B v) nB)=true)->ci A B=true):=fun h=>tG ⟨by omega,by omega,by omega⟩ fun v hv=>by have:=h v (by omega);rw [hlA];exact this
  have HN:Hid (∀ v,v<nB->(aJ (ae A v) nB && aJ (ae B v) nB)=false->ci A B=false):=fun v hv h=>tF (v:=v) (by omega) (by rw [hlA];exact h)
  have PY:=lh RA
  have Mk:=lh RB
  have Y6:=RA.row.ptr
  have Y8:=RB.row.ptr
  clear hlA hlB RA RB
  go_enter func79,ntmps79
  go_wp2
  go_loopw [4] (fun i wr=>∃ k:Nat,k<=nB/\i=.int .i64 k/\Hid (∀ v,v<k->(aJ (ae A v) nB && aJ (ae B v) nB)=true)/\Ic w wr [.blk w.heap.size 67 #[.slice pA nB cA,.slice pB nB cB]]) (fun i _=>nB - (intOf i).toNat)
  case atStart=>exact⟨0,Nat.zero_le _,rfl,fun v hv=>by omega,S0.out⟩
  case round =>
   clear S0
   obtain⟨k,hk,rfl,HK,S⟩:=hrel
   obtain⟨b0,b1,bz⟩:=aH (S.blk 0 rfl)
   by_cases hlt:k<nB
   ·have gA:=S.ext.cell (PY.out.row.cH hlt)
    have gB:=S.ext.cell (Mk.out.row.cH hlt)
    have d1:(0:Int)<=k:=by omega
    have d2:(k:Int)<nB:=by omega
    have eA:=PY.out.each k hlt
    have eB:=Mk.out.each k hlt
    have JN:=lh (fun W (h:Ext w W)=>Dz (ae hA k).p (ae hA k).n (ae hA k).c (ae A k) nB W (eA.ext h))
    have JG:=lh (fun W (h:Ext w W)=>Dz (ae hB k).p (ae hB k).n (ae hB k).c (ae B k) nB W (eB.ext h))
    obtain⟨ha,Qo⟩:∃ x,ae hA k=x:=⟨_,rfl⟩
    obtain⟨hb,Mq⟩:∃ x,ae hB k=x:=⟨_,rfl⟩
    rw [Qo] at gA JN
    rw [Mq] at gB JG
    obtain⟨ap,an,ac⟩:=ha
    obtain⟨bp,bn,bc⟩:=hb
    simp only at gA gB JN JG
    have KN:=fun W (h:Ext wr W)=>h.cell gB
    clear eA eB Qo Mq
    cases hr1:aJ (ae A k) nB with
    | false =>
     have HF:Hid (ci A B=false):=HN.out k hlt (by rw [hr1];rfl)
     rw [hr1] at JN
     clear hr1 HN HY HK KN
     have SH:=lh S;clear S
     go_wp2_with (go_at_call 131;have _t:=SH;go_must (refine(JN.out _ SH.out.ext).mono ?_;rintro e w3 ⟨rfl,hb⟩;have S3:=lh (SH.out.call hb);have z0:=((SH.out.call hb).blk 0 rfl).cell 0;have z1:=((SH.out.call hb).blk 0 rfl).cell 1;have zz:=((SH.out.call hb).blk 0 rfl).lt;clear hb))
     go_ret
     exact⟨by rw [HF.out];rfl,S3.out.ext⟩
    | true =>
     rw [hr1] at JN
     cases hr2:aJ (ae B k) nB with
     | false =>
      have HF:Hid (ci A B=false):=HN.out k hlt (by rw [hr1,hr2];rfl)
      rw [hr2] at JG
      clear hr1 hr2 HN HY HK
      have NV:=lh KN
      clear KN
      have SH:=lh S;clear S
      go_wp2_with (first | (go_at_call 131;have _t:=S3;go_must (refine(JG.out _ S3.out.ext).mono ?_;rintro e w4 ⟨rfl,hb⟩;have S4:=lh (S3.out.call hb);clear hb)) | (go_at_call 131;have _t:=SH;go_must (refine(JN.out _ SH.out.ext).mono ?_;rintro e w3 ⟨rfl,hb⟩;have S3:=lh (SH.out.call hb);have g3:=NV.out _ hb;have z0:=((SH.out.call hb).blk 0 rfl).cell 0;have z1:=((SH.out.call hb).blk 0 rfl).cell 1;have zz:=((SH.out.call hb).blk 0 rfl).lt;clear hb)))
      go_ret
      exact⟨by rw [HF.out];rfl,S4.out.ext⟩
     | true =>
      have Kj:Hid (∀ v,v<k+1->(aJ (ae A v) nB && aJ (ae B v) nB)=true):=fun v hv=>by
       by_cases e:v=k
       ·subst e;rw [hr1,hr2];rfl
       ·exact HK.out v (by omega)
      rw [hr2] at JG
      clear hr1 hr2 HN HY HK
      have NV:=lh KN
      clear KN
      have SH:=lh S;clear S
      go_wp2_with (first | (go_at_call 131;have _t:=S3;go_must (refine(JG.out _ S3.out.ext).mono ?_;rintro e w4 ⟨rfl,hb⟩;have S4:=lh (S3.out.call hb);clear hb)) | (go_at_call 131;have _t:=SH;go_must (refine(JN.out _ SH.out.ext).mono ?_;rintro e w3 ⟨rfl,hb⟩;have S3:=lh (SH.out.call hb);have g3:=NV.out _ hb;have z0:=((SH.out.call hb).blk 0 rfl).cell 0;have z1:=((SH.out.call hb).blk 0 rfl).cell 1;have zz:=((SH.out.call hb).blk 0 rfl).lt;clear hb)))
      go_roundw
      case rel=>exact⟨k+1,by omega,by go_num,Kj.out,S4.out⟩
      case measure=>simp [intOf];omega
   ·obtain rfl:k=nB:=by omega
    have HF:Hid (ci A B=true):=HY.out HK.out
    have SH:=lh S;clear S
    go_wp2
    go_ret
    exact⟨by rw [HF.out];rfl,SH.out.ext⟩
 ·have HF:Hid (ci A B=false):=tE (by omega)
  clear RA RB hlA hlB
  by_cases h1:nA<1
  ·have c1:decide ((nA:Int)<1)=true:=by simp;omega
   clear hp h1
   go_enter func79,ntmps79
   go_wp2
   go_ret
   exact⟨by rw [HF.out];rfl,S0.out.ext⟩
  ·have c1:decide ((nA:Int)<1)=false:=by simp;omega
   by_cases h2:200<nA
   ·have c2:decide ((200:Int)<nA)=true:=by simp;omega
    clear hp h1 h2
    go_enter func79,ntmps79
    go_wp2
    go_ret
    exact⟨by rw [HF.out];rfl,S0.out.ext⟩
   ·have c2:decide ((200:Int)<nA)=false:=by simp;omega
    have c3:((nB:Int) != (nA:Int))=true:=by simp;omega
    clear hp h1 h2
    go_enter func79,ntmps79
    go_wp2
    go_ret
    exact⟨by rw [HF.out];rfl,S0.out.ext⟩
theorem Cq (pA:Option Addr) (nA cA:Nat) (hA:List Hd) (A:jC) (pB:Option Addr) (nB cB:Nat) (hB:List Hd) (B:jC) (w:World) (RA:JD w pA nA hA A) (RB:JD w pB nB hB B) (hs:kR A B<=9223372036854775807) (ZO:nA<=100000) (ZP:nB<=100000):Calls prog 71 #[.agg #[.slice pA nA cA,.slice pB nB cB]] w fun e w'=>e=.returned (.int .i64 (kR A B:Nat))/\Ext w w':=by
 have S0:=lh ((Ic.start w).al #[.slice pA nA cA,.slice pB nB cB] 67 w.heap.size rfl)
 have hlA:=RA.len
 have hlB:=RB.len
 have qA:=RA.row.ptr
 have qB:=RB.row.ptr
 have HA:=lh RA
 have HB:=lh RB
 have Jh:Hid (kR A B=dR A nA+dR B nB):=by unfold Hid kR;rw [hlA,hlB]
 have JW:Hid (∀ a b,a<=nA->b<=nB->dR A a+dR B b<=9223372036854775807):=fun a b h1 h2=>by
  have:=tt (T:=A) h1
  have:=tt (T:=B) h2
  have:=Jh.out
  omega
 have TR:=lh hlA
 have Mv:=lh hlB
 clear RA RB hlA hlB hs
 go_enter func71,ntmps71
 go_wp2
 go_loopw [3,4] (fun v3 i wr=>∃ k:Nat,k<=nA/\i=.int .i64 k/\v3=.int .i64 (dR A k:Nat)/\Ic w wr [.blk w.heap.size 67 #[.slice pA nA cA,.slice pB nB cB]]) (fun _ i _=>nA - (intOf i).toNat)
 case atStart=>exact⟨0,Nat.zero_le _,rfl,rfl,S0.out⟩
 case round =>
  clear S0
  obtain⟨k,hk,rfl,rfl,S⟩:=hrel
  obtain⟨b0,b1,bz⟩:=aH (S.blk 0 rfl)
  by_cases hlj:k<nA
  ·have g1:=S.ext.cell (HA.out.row.cH hlj)
   have hen:=(HA.out.each k hlj).nE
   have hst:=iD (T:=A) (k:=k) (by rw [TR.out];exact hlj)
   have hbd:=JW.out (k+1) 0 (by omega) (Nat.zero_le _)
   have d1:(0:Int)<=k:=by omega
   have d2:(k:Int)<nA:=by omega
   obtain⟨x,hx⟩:∃ x,ae hA k=x:=⟨_,rfl⟩
   rw [hx] at g1 hen
   obtain⟨xp,xn,xc⟩:=x
   simp only at g1 hen
   rw [<- hen] at hst
   rw [hst] at hbd
   have HST:=lh hst
   generalize dR A k=sj at *
   clear hx hst hen
   have SH:=lh S;clear S
   go_wp2
   go_roundw
   case rel=>exact⟨k+1,by omega,by go_num,by rw [HST.out];go_num,SH.out⟩
   case measure=>simp [intOf];omega
  ·obtain rfl:nA=k:=by omega
   have hbd:=JW.out nA 0 (Nat.le_refl _) (Nat.zero_le _)
   obtain⟨sa,hsa⟩:∃ sa,dR A nA=sa:=⟨_,rfl⟩
   rw [hsa] at hbd
   rw [hsa] at Jh ⊢
   have Tk:Hid (∀ b,b<=nB->sa+dR B b<=9223372036854775807):=fun b h=>by rw [<- hsa];exact JW.out nA b (Nat.le_refl _) h
   clear hsa JW
   have SH:=lh S;clear S
   go_wp2
   go_loopw [3,5] (fun v3 i wr=>∃ j:Nat,j<=nB/\i=.int .i64 j/\v3=.int .i64 ((sa+dR B j:Nat):Int)/\Ic w wr [.blk w.heap.size 67 #[.slice pA nA cA,.slice pB nB cB]]) (fun _ i _=>nB - (intOf i).toNat)
   case atStart=>exact⟨0,Nat.zero_le _,rfl,rfl,SH.out⟩
   case round =>
    clear SH b0 b1 bz
    obtain⟨j,hj,rfl,rfl,S⟩:=hrel
    obtain⟨b0,b1,bz⟩:=aH (S.blk 0 rfl)
    by_cases hlj:j<nB
    ·have g1:=S.ext.cell (HB.out.row.cH hlj)
     have hen:=(HB.out.each j hlj).nE
     have hst:=iD (T:=B) (k:=j) (by rw [Mv.out];exact hlj)
     have hbd:=Tk.out (j+1) (by omega)
     have d1:(0:Int)<=j:=by omega
     have d2:(j:Int)<nB:=by omega
     obtain⟨x,hx⟩:∃ x,ae hB j=x:=⟨_,rfl⟩
     rw [hx] at g1 hen
     obtain⟨xp,xn,xc⟩:=x
     simp only at g1 hen
     rw [<- hen] at hst
     rw [hst] at hbd
     have HST:=lh hst
     generalize dR B j=sj at *
     clear hx hst hen
     have SH:=lh S;clear S
     go_wp2
     go_roundw
     case rel=>exact⟨j+1,by omega,by go_num,by rw [HST.out];go_num,SH.out⟩
     case measure=>simp [intOf];omega
    ·obtain rfl:j=nB:=by omega
     have SH:=lh S;clear S
     go_wp2
     go_ret
     exact⟨by rw [Jh.out];rfl,SH.out.ext⟩
theorem zX (pA : Option Addr) (nA cA : Nat) (hA : List Hd) (A : jC) (pB : Option Addr) (nB cB : Nat) (hB : List Hd) (B : jC) (f t : Int) (w : World) (RA : JD w pA nA hA A) (RB : JD w pB nB hB B) : Calls prog 81 #[.agg #[.slice pA nA cA, .slice pB nB cB], .int .i64 f, .int .i64 t] w fun e w' => e = .returned (.tuple #[.int .i64 (bP A B f t), .bool (bQ A B f t), .int .i64 (bK A B f t)]) /\ Ext w w' := by
  have S0 := lh ((Ic.start w).al #[.slice pA nA cA, .slice pB nB cB] 67 w.heap.size rfl)
  have HC := lh (fun W (h : Ext w W) => sC pA nA cA hA A pB nB cB hB B W (RA.ext h) (RB.ext h))
  have hlA := RA.len
  cases hc : ci A B with
  | false =>
    rw [hc] at HC
    clear RA RB
    have hq : bJ A B f t = false := by (unfold bJ; rw [hc]; rfl)
    have HQ : Hid (bP A B f t = 0 /\ bQ A B f t = false /\ bK A B f t = 1) := by (unfold Hid bP bQ bK; rw [hq]; exact ⟨rfl, rfl, rfl⟩)
    clear hq hlA hc
    go_enter func81, ntmps81
    go_wp2_with (go_at_call 79; go_must (refine (HC.out _ S0.out.ext).mono ?_; rintro e w1 ⟨rfl, hb⟩; have S1 := lh (S0.out.call hb); have x0 := ((S0.out.call hb).blk 0 rfl).cell 0; have x1 := ((S0.out.call hb).blk 0 rfl).cell 1; have xz := ((S0.out.call hb).blk 0 rfl).lt; clear hb))
    go_ret3
    exact ⟨by rw [HQ.out.1, HQ.out.2.1, HQ.out.2.2]; rfl, S1.out.ext⟩
  | true =>
    rw [hc] at HC
    by_cases h1 : f < 0
    · have c1 : decide (f < 0) = true := by simpa using h1
      clear RA RB
      have hq : bJ A B f t = false := by (unfold bJ; rw [hc, decide_eq_false (show ¬ 0 <= f by omega)]; rfl)
      have HQ : Hid (bP A B f t = 0 /\ bQ A B f t = false /\ bK A B f t = 1) := by (unfold Hid bP bQ bK; rw [hq]; exact ⟨rfl, rfl, rfl⟩)
      clear hq hlA hc h1
      go_enter func81, ntmps81
      go_wp2_with (go_at_call 79; go_must (refine (HC.out _ S0.out.ext).mono ?_; rintro e w1 ⟨rfl, hb⟩; have S1 := lh (S0.out.call hb); have x0 := ((S0.out.call hb).blk 0 rfl).cell 0; have x1 := ((S0.out.call hb).blk 0 rfl).cell 1; have xz := ((S0.out.call hb).blk 0 rfl).lt; clear hb))
      go_ret3
      exact ⟨by rw [HQ.out.1, HQ.out.2.1, HQ.out.2.2]; rfl, S1.out.ext⟩
    · have c1 : decide (f < 0) = false := by simpa using h1
      by_cases h2 : (nA:Int) <= f
      · have c2 : decide ((nA:Int) <= f) = true := by simpa using h2
        clear RA RB
        have hq : bJ A B f t = false := by (unfold bJ; rw [decide_eq_false (show ¬ f < A.length by omega)]; simp)
        have HQ : Hid (bP A B f t = 0 /\ bQ A B f t = false /\ bK A B f t = 1) := by (unfold Hid bP bQ bK; rw [hq]; exact ⟨rfl, rfl, rfl⟩)
        clear hq hlA hc h1 h2
        go_enter func81, ntmps81
        go_wp2_with (go_at_call 79; go_must (refine (HC.out _ S0.out.ext).mono ?_; rintro e w1 ⟨rfl, hb⟩; have S1 := lh (S0.out.call hb); have x0 := ((S0.out.call hb).blk 0 rfl).cell 0; have x1 := ((S0.out.call hb).blk 0 rfl).cell 1; have xz := ((S0.out.call hb).blk 0 rfl).lt; clear hb))
        go_ret3
        exact ⟨by rw [HQ.out.1, HQ.out.2.1, HQ.out.2.2]; rfl, S1.out.ext⟩
      · have c2 : decide ((nA:Int) <= f) = false := by simpa using h2
        by_cases h3 : t < 0
        · have c3 : decide (t < 0) = true := by simpa using h3
          clear RA RB
          have hq : bJ A B f t = false := by (unfold bJ; rw [decide_eq_false (show ¬ 0 <= t by omega)]; simp)
          have HQ : Hid (bP A B f t = 0 /\ bQ A B f t = false /\ bK A B f t = 1) := by (unfold Hid bP bQ bK; rw [hq]; exact ⟨rfl, rfl, rfl⟩)
          clear hq hlA hc h1 h2 h3
          go_enter func81, ntmps81
          go_wp2_with (go_at_call 79; go_must (refine (HC.out _ S0.out.ext).mono ?_; rintro e w1 ⟨rfl, hb⟩; have S1 := lh (S0.out.call hb); have x0 := ((S0.out.call hb).blk 0 rfl).cell 0; have x1 := ((S0.out.call hb).blk 0 rfl).cell 1; have xz := ((S0.out.call hb).blk 0 rfl).lt; clear hb))
          go_ret3
          exact ⟨by rw [HQ.out.1, HQ.out.2.1, HQ.out.2.2]; rfl, S1.out.ext⟩
        · have c3 : decide (t < 0) = false := by simpa using h3
          by_cases h4 : (nA:Int) <= t
          · have c4 : decide ((nA:Int) <= t) = true := by simpa using h4
            clear RA RB
            have hq : bJ A B f t = false := by (unfold bJ; rw [decide_eq_false (show ¬ t < A.length by omega)]; simp)
            have HQ : Hid (bP A B f t = 0 /\ bQ A B f t = false /\ bK A B f t = 1) := by (unfold Hid bP bQ bK; rw [hq]; exact ⟨rfl, rfl, rfl⟩)
            clear hq hlA hc h1 h2 h3 h4
            go_enter func81, ntmps81
            go_wp2_with (go_at_call 79; go_must (refine (HC.out _ S0.out.ext).mono ?_; rintro e w1 ⟨rfl, hb⟩; have S1 := lh (S0.out.call hb); have x0 := ((S0.out.call hb).blk 0 rfl).cell 0; have x1 := ((S0.out.call hb).blk 0 rfl).cell 1; have xz := ((S0.out.call hb).blk 0 rfl).lt; clear hb))
            go_ret3
            exact ⟨by rw [HQ.out.1, HQ.out.2.1, HQ.out.2.2]; rfl, S1.out.ext⟩
          · have c4 : decide ((nA:Int) <= t) = false := by simpa using h4
            have hq : bJ A B f t = true := by
              unfold bJ
              rw [hc, decide_eq_true (show 0 <= f by omega), decide_eq_true (show f < A.length by omega), decide_eq_true (show 0 <= t by omega), decide_eq_true (show t < A.length by omega)]; rfl
            unfold bP bQ bK
            rw [if_pos hq, if_pos hq, if_pos hq]
            obtain ⟨a, rfl⟩ : ∃ a : Nat, f = a := ⟨f.toNat, by omega⟩
            obtain ⟨b, rfl⟩ : ∃ b : Nat, t = b := ⟨t.toNat, by omega⟩
            rw [Int.toNat_natCast, Int.toNat_natCast]
            obtain ⟨⟨p1, p2, p3⟩, p4⟩ := og hc
            have hlB := RB.len
            have ha : a < nA := by omega
            have hb : b < nB := by omega
            have eA := RA.each a ha
            have eB := RB.each b hb
            have gA := RA.row.cH ha
            have gB := RB.row.cH hb
            have qA := RA.row.ptr
            have qB := RB.row.ptr
            have Ny := lh (_l (p4 a (by omega)).1)
            have Tm := lh (_l (p4 b (by omega)).2)
            obtain ⟨xa, hxa⟩ : ∃ x, ae hA a = x := ⟨_, rfl⟩
            obtain ⟨xb, hxb⟩ : ∃ x, ae hB b = x := ⟨_, rfl⟩
            rw [hxa] at gA eA
            rw [hxb] at gB eB
            obtain ⟨ap, an, ac⟩ := xa
            obtain ⟨bp, bn, bc⟩ := xb
            simp only at gA gB eA eB
            have HX := lh eA
            have HY := lh eB
            have pX := eA.ptr
            have pY := eB.ptr
            have L1 := lh eA.nE
            have L2 := lh eB.nE
            have n1 := eA.small
            have n2 := eB.small
            generalize ae A a = X at *
            generalize ae B b = Y at *
            have d1 : (0:Int) <= a := by omega
            have d2 : (a:Int) < nA := by omega
            have d3 : (0:Int) <= b := by omega
            have d4 : (b:Int) < nB := by omega
            have Nz := lh gA
            have Tz := lh gB
            have X9 : decide (nA <= a) = false := by simp; omega
            have Yb : decide (nA <= b) = false := by simp; omega
            clear RA RB hlA hlB hq hc h1 h2 h3 h4 p1 p2 p3 p4 eA eB hxa hxb gA gB
            go_enter func81, ntmps81
            go_wp2_with (go_at_call 79; go_must (refine (HC.out _ S0.out.ext).mono ?_; rintro e w1 ⟨rfl, hb⟩; have S1 := lh (S0.out.call hb); have x0 := ((S0.out.call hb).blk 0 rfl).cell 0; have x1 := ((S0.out.call hb).blk 0 rfl).cell 1; have xz := ((S0.out.call hb).blk 0 rfl).lt; clear hb))
            clear S0 HC
            go_loopw [9, 10, 11, 12, 13, 14] (fun v9 v10 i _ _ _ wr => ∃ k : Nat, k <= an /\ i = .int .i64 k /\ v9 = .int .i64 (dN (X.take k) Y).1 /\ v10 = .bool (dN (X.take k) Y).2 /\ Ic w wr [.blk w.heap.size 67 #[.slice pA nA cA, .slice pB nB cB]]) (fun _ _ i _ _ _ _ => an - (intOf i).toNat)
            case atStart => exact ⟨0, Nat.zero_le _, rfl, rfl, rfl, S1.out⟩
            case round =>
              clear S1 x0 x1 xz
              obtain ⟨k, hk, rfl, rfl, rfl, S⟩ := hrel
              have b0 := (S.blk 0 rfl).cell 0
              have b1 := (S.blk 0 rfl).cell 1
              have bz := (S.blk 0 rfl).lt
              have gA := S.ext.cell Nz.out
              by_cases hlt : k < an
              · have hkX : k < X.length := by rw [<- L1.out]; exact hlt
                have HST := lh (mx (X.take k) Y (ae X k))
                rw [<- ak X k hkX] at HST
                have HXB := lh (Ny.out _ (aY hkX))
                have PU := lh (HX.out.cE hlt)
                have HG2 := lh (HX.out.cE2 hlt)
                obtain ⟨acc, hacc⟩ : ∃ acc, dN (X.take k) Y = acc := ⟨_, rfl⟩
                rw [hacc] at HST ⊢
                obtain ⟨x, hx⟩ : ∃ x, ae X k = x := ⟨_, rfl⟩
                rw [hx] at HST HXB PU HG2
                clear hacc hx
                have HN : Hid (dN (X.take (k + 1)) Y = eH acc x Y) := HST.out
                have d5 : (0:Int) <= k := by omega
                have d6 : (k:Int) < an := by omega
                have SH := lh S; clear S
                go_wp2
                go_loopw [9, 10, 12, 13, 14] (fun v9 v10 i _ _ wx => ∃ j : Nat, j <= bn /\ i = .int .i64 j /\ v9 = .int .i64 (eH acc x (Y.take j)).1 /\ v10 = .bool (eH acc x (Y.take j)).2 /\ Ic w wx [.blk w.heap.size 67 #[.slice pA nA cA, .slice pB nB cB]]) (fun _ _ i _ _ _ => bn - (intOf i).toNat)
                case atStart => exact ⟨0, Nat.zero_le _, rfl, rfl, rfl, SH.out⟩
                case round =>
                  clear SH b0 b1 bz gA
                  obtain ⟨j, hj, rfl, rfl, rfl, S⟩ := hrel
                  have b0 := (S.blk 0 rfl).cell 0
                  have b1 := (S.blk 0 rfl).cell 1
                  have bz := (S.blk 0 rfl).lt
                  have gA := S.ext.cell Nz.out
                  have gB := S.ext.cell Tz.out
                  by_cases hlj : j < bn
                  · have Qp : j < Y.length := by rw [<- L2.out]; exact hlj
                    have g1 := S.ext.cell PU.out
                    have g2 := S.ext.cell HG2.out
                    have g3 := S.ext.cell (HY.out.cE hlj)
                    have g4 := S.ext.cell (HY.out.cE2 hlj)
                    have zB := World.block_lt_of_cell? wr _ gB
                    have z3 := World.block_lt_of_cell? wr _ g3
                    have z4 := World.block_lt_of_cell? wr _ g4
                    have hst := mw acc x (Y.take j) (ae Y j)
                    rw [<- ak Y j Qp] at hst
                    have hyb := Tm.out _ (aY Qp)
                    have hxb := HXB.out
                    generalize eH acc x (Y.take j) = r at *
                    generalize ae Y j = y at *
                    obtain ⟨rn, rk⟩ := r
                    obtain ⟨x1, x2⟩ := x
                    obtain ⟨y1, y2⟩ := y
                    unfold rT at hst
                    simp only at *
                    have S2 := lh ((S.junk (.cells #[.int .i64 x1, .int .i64 x2] 105)).junk (.cells #[.int .i64 y1, .int .i64 y2] 105))
                    have d7 : (0:Int) <= j := by omega
                    have d8 : (j:Int) < bn := by omega
                    clear S
                    by_cases e1 : x1 = y1
                    · have f1 : (x1 == y1) = true := by simpa using e1
                      cases rk with
                      | false =>
                        rw [if_pos ⟨e1, .inl rfl⟩] at hst
                        have HS := lh hst
                        clear hst
                        subst e1
                        go_wp2
                        go_roundw
                        case rel => exact ⟨j + 1, by omega, by go_num, by rw [HS.out], by rw [HS.out], S2.out⟩
                        case measure => simp [intOf]; omega
                      | true =>
                        by_cases e2 : x2 + y2 < rn
                        · have f2 : decide (x2 + y2 < rn) = true := by simpa using e2
                          rw [if_pos ⟨e1, .inr e2⟩] at hst
                          have HS := lh hst
                          clear hst e2
                          subst e1
                          go_wp2
                          go_roundw
                          case rel => exact ⟨j + 1, by omega, by go_num, by rw [HS.out], by rw [HS.out], S2.out⟩
                          case measure => simp [intOf]; omega
                        · have f2 : decide (x2 + y2 < rn) = false := by simpa using e2
                          rw [if_neg (by rintro ⟨_, h | h⟩; · cases h
                                         · exact e2 h)] at hst
                          have HS := lh hst
                          clear hst e2
                          subst e1
                          go_wp2
                          go_roundw
                          case rel => exact ⟨j + 1, by omega, by go_num, by rw [HS.out], by rw [HS.out], S2.out⟩
                          case measure => simp [intOf]; omega
                    · have f1 : (x1 == y1) = false := by simpa using e1
                      rw [if_neg fun h => e1 h.1] at hst
                      have HS := lh hst
                      clear hst e1
                      go_wp2
                      go_roundw
                      case rel => exact ⟨j + 1, by omega, by go_num, by rw [HS.out], by rw [HS.out], S2.out⟩
                      case measure => simp [intOf]; omega
                  · obtain rfl : j = bn := by omega
                    rw [List.take_of_length_le (by rw [<- L2.out]; exact Nat.le_refl _), <- HN.out]
                    have SH := lh S; clear S
                    go_wp2
                    go_roundw
                    case rel => exact ⟨k + 1, by omega, by go_num, rfl, rfl, SH.out⟩
                    case measure => simp [intOf]; omega
              · obtain rfl : k = an := by omega
                rw [List.take_of_length_le (by rw [<- L1.out]; exact Nat.le_refl _)]
                have SH := lh S; clear S
                go_wp2
                go_ret3
                exact ⟨rfl, SH.out.ext⟩
theorem Cy (k f t:Int) (pw:Option Addr) (nw cw:Nat) (rad most:Int) (pA:Option Addr) (nA cA:Nat) (pB:Option Addr) (nB cB:Nat) (c o:Bool) (q x y:Int) (w:World)
  (h1:∀ W,Ext w W->Calls prog 79 #[.agg #[.slice pA nA cA,.slice pB nB cB]] W fun e w'=>e=.returned (.bool c)/\Ext W w')
  (h2:∀ W,Ext w W->Calls prog 80 #[.agg #[.int .i64 k,.int .i64 f,.int .i64 t,.slice pw nw cw,.int .i64 rad,.int .i64 most],.int .i64 (nA:Int)] W fun e w'=>e=.returned (.int .i64 q)/\Ext W w')
  (h3:∀ W,Ext w W->Calls prog 81 #[.agg #[.slice pA nA cA,.slice pB nB cB],.int .i64 f,.int .i64 t] W fun e w'=>e=.returned (.tuple #[.int .i64 x,.bool o,.int .i64 y])/\Ext W w') :
  Calls prog 44 #[.agg #[.int .i64 k,.int .i64 f,.int .i64 t,.slice pw nw cw,.int .i64 rad,.int .i64 most],.agg #[.slice pA nA cA,.slice pB nB cB]] w (dO (jW c q k o) (jX c q k x) [] (jg c q k) w):=by
 have S0:=lh ((((Ic.start w).al #[.int .i64 k,.int .i64 f,.int .i64 t,.slice pw nw cw,.int .i64 rad,.int .i64 most] 24 w.heap.size rfl).al #[.slice pA nA cA,.slice pB nB cB] 67 (w.heap.size+1) (by simp)).al #[.bool false,.int .i64 0,.slice none 0 0] 34 (w.heap.size+1+1) (by simp))
 have IP:=lh h1
 have IK:=lh h2
 have VS:=lh h3
 clear h1 h2 h3
 cases c with
 | false =>
  rw [show jW false q k o=false from rfl,show jX false q k x=0 from rfl,show jg false q k=1 from rfl]
  go_enter func44,ntmps44
  go_wp2_with (go_at_call 79;go_must (refine(IP.out _ S0.out.ext).mono ?_;rintro e w1 ⟨rfl,hb⟩;have S1:=lh (S0.out.call hb);obtain⟨y0,y1,y2,yz,f0,f1,f2⟩:=ag (S1.out.blk 0 rfl);obtain⟨l0,l1,lz⟩:=aH (S1.out.blk 1 rfl);obtain⟨a0,a1,a2,a3,a4,a5,az⟩:=ao (S1.out.blk 2 rfl);clear hb))
  have S9:=lh (((S1.out.set 0 rfl 0 (.bool false)).set 0 rfl 1 (.int .i64 0)).set 0 rfl 2 (.slice none 0 0))
  obtain⟨x0,x1,x2⟩:=aw (S9.out.blk 0 rfl)
  refine bodyPost_ret (v:=.tuple #[.agg #[.bool false,.int .i64 0,.slice none 0 0],.int .i64 1]) (by simp [results,results44,go_sem,x0,x1,x2,sizeOf34,isAgg34]) rfl ?_
  exact bZ rfl S9.out.ext
 | true =>
  by_cases hq:q=0
  ·subst hq
   by_cases h3:k=3
   ·subst h3
    rw [show jW true 0 3 o=false from rfl,show jX true 0 3 x=0 from rfl,show jg true 0 3=180 from rfl]
    go_enter func44,ntmps44
    go_wp2_with (first | (go_at_call 80;have _t:=S1;go_must (refine(IK.out _ S1.out.ext).mono ?_;rintro e w2 ⟨rfl,hb⟩;have S2:=lh (S1.out.call hb);clear a0 a1 a2 a3 a4 a5 az l0 l1 lz y0 y1 y2 yz f0 f1 f2;obtain⟨y0,y1,y2,yz,f0,f1,f2⟩:=ag (S2.out.blk 0 rfl);obtain⟨l0,l1,lz⟩:=aH (S2.out.blk 1 rfl);obtain⟨a0,a1,a2,a3,a4,a5,az⟩:=ao (S2.out.blk 2 rfl);clear hb)) | (go_at_call 79;go_must (refine(IP.out _ S0.out.ext).mono ?_;rintro e w1 ⟨rfl,hb⟩;have S1:=lh (S0.out.call hb);obtain⟨y0,y1,y2,yz,f0,f1,f2⟩:=ag (S1.out.blk 0 rfl);obtain⟨l0,l1,lz⟩:=aH (S1.out.blk 1 rfl);obtain⟨a0,a1,a2,a3,a4,a5,az⟩:=ao (S1.out.blk 2 rfl);clear hb)))
    have S9:=lh (((S2.out.set 0 rfl 0 (.bool false)).set 0 rfl 1 (.int .i64 0)).set 0 rfl 2 (.slice none 0 0))
    obtain⟨x0,x1,x2⟩:=aw (S9.out.blk 0 rfl)
    refine bodyPost_ret (v:=.tuple #[.agg #[.bool false,.int .i64 0,.slice none 0 0],.int .i64 180]) (by simp [results,results44,go_sem,x0,x1,x2,sizeOf34,isAgg34]) rfl ?_
    exact bZ rfl S9.out.ext
   ·have e3:decide (k=3)=false:=by simpa using h3
    have hE:jg true 0 k=0:=by unfold jg;rw [if_neg (by simp),if_pos rfl,if_neg h3]
    by_cases h2:k=2
    ·subst h2
     rw [show jW true 0 2 o=o from rfl,show jX true 0 2 x=0 from rfl,hE]
     go_enter func44,ntmps44
     go_wp2_with (first | (go_at_call 81;have _t:=S2;go_must (refine(VS.out _ S2.out.ext).mono ?_;rintro e w3 ⟨rfl,hb⟩;have S3:=lh (S2.out.call hb);clear a0 a1 a2 a3 a4 a5 az l0 l1 lz y0 y1 y2 yz f0 f1 f2;obtain⟨y0,y1,y2,yz,f0,f1,f2⟩:=ag (S3.out.blk 0 rfl);obtain⟨l0,l1,lz⟩:=aH (S3.out.blk 1 rfl);obtain⟨a0,a1,a2,a3,a4,a5,az⟩:=ao (S3.out.blk 2 rfl);clear hb)) | (go_at_call 80;have _t:=S1;go_must (refine(IK.out _ S1.out.ext).mono ?_;rintro e w2 ⟨rfl,hb⟩;have S2:=lh (S1.out.call hb);clear a0 a1 a2 a3 a4 a5 az l0 l1 lz y0 y1 y2 yz f0 f1 f2;obtain⟨y0,y1,y2,yz,f0,f1,f2⟩:=ag (S2.out.blk 0 rfl);obtain⟨l0,l1,lz⟩:=aH (S2.out.blk 1 rfl);obtain⟨a0,a1,a2,a3,a4,a5,az⟩:=ao (S2.out.blk 2 rfl);clear hb)) | (go_at_call 79;go_must (refine(IP.out _ S0.out.ext).mono ?_;rintro e w1 ⟨rfl,hb⟩;have S1:=lh (S0.out.call hb);obtain⟨y0,y1,y2,yz,f0,f1,f2⟩:=ag (S1.out.blk 0 rfl);obtain⟨l0,l1,lz⟩:=aH (S1.out.blk 1 rfl);obtain⟨a0,a1,a2,a3,a4,a5,az⟩:=ao (S1.out.blk 2 rfl);clear hb)))
     have S9:=lh (((S3.out.set 0 rfl 0 (.bool o)).set 0 rfl 1 (.int .i64 0)).set 0 rfl 2 (.slice none 0 0))
     obtain⟨x0,x1,x2⟩:=aw (S9.out.blk 0 rfl)
     refine bodyPost_ret (v:=.tuple #[.agg #[.bool o,.int .i64 0,.slice none 0 0],.int .i64 0]) (by simp [results,results44,go_sem,x0,x1,x2,sizeOf34,isAgg34]) rfl ?_
     exact bZ rfl S9.out.ext
    ·have e2:decide (k=2)=false:=by simpa using h2
     rw [show jW true 0 k o=o by unfold jW;rw [hE];rfl,show jX true 0 k x=x by unfold jX;rw [hE,if_pos rfl,if_neg h2],hE]
     go_enter func44,ntmps44
     go_wp2_with (first | (go_at_call 81;have _t:=S2;go_must (refine(VS.out _ S2.out.ext).mono ?_;rintro e w3 ⟨rfl,hb⟩;have S3:=lh (S2.out.call hb);clear a0 a1 a2 a3 a4 a5 az l0 l1 lz y0 y1 y2 yz f0 f1 f2;obtain⟨y0,y1,y2,yz,f0,f1,f2⟩:=ag (S3.out.blk 0 rfl);obtain⟨l0,l1,lz⟩:=aH (S3.out.blk 1 rfl);obtain⟨a0,a1,a2,a3,a4,a5,az⟩:=ao (S3.out.blk 2 rfl);clear hb)) | (go_at_call 80;have _t:=S1;go_must (refine(IK.out _ S1.out.ext).mono ?_;rintro e w2 ⟨rfl,hb⟩;have S2:=lh (S1.out.call hb);clear a0 a1 a2 a3 a4 a5 az l0 l1 lz y0 y1 y2 yz f0 f1 f2;obtain⟨y0,y1,y2,yz,f0,f1,f2⟩:=ag (S2.out.blk 0 rfl);obtain⟨l0,l1,lz⟩:=aH (S2.out.blk 1 rfl);obtain⟨a0,a1,a2,a3,a4,a5,az⟩:=ao (S2.out.blk 2 rfl);clear hb)) | (go_at_call 79;go_must (refine(IP.out _ S0.out.ext).mono ?_;rintro e w1 ⟨rfl,hb⟩;have S1:=lh (S0.out.call hb);obtain⟨y0,y1,y2,yz,f0,f1,f2⟩:=ag (S1.out.blk 0 rfl);obtain⟨l0,l1,lz⟩:=aH (S1.out.blk 1 rfl);obtain⟨a0,a1,a2,a3,a4,a5,az⟩:=ao (S1.out.blk 2 rfl);clear hb)))
     have S9:=lh (((S3.out.set 0 rfl 0 (.bool o)).set 0 rfl 1 (.int .i64 x)).set 0 rfl 2 (.slice none 0 0))
     obtain⟨x0,x1,x2⟩:=aw (S9.out.blk 0 rfl)
     refine bodyPost_ret (v:=.tuple #[.agg #[.bool o,.int .i64 x,.slice none 0 0],.int .i64 0]) (by simp [results,results44,go_sem,x0,x1,x2,sizeOf34,isAgg34]) rfl ?_
     exact bZ rfl S9.out.ext
  ·have d1:decide (q=0)=false:=by simpa using hq
   have d2:(q == 0)=false:=by simpa using hq
   have hE:jg true q k=q:=by unfold jg;rw [if_neg (by simp),if_neg hq]
   rw [show jW true q k o=false by unfold jW;rw [hE,if_neg hq],show jX true q k x=0 by unfold jX;rw [hE,if_neg hq],hE]
   clear hE
   go_enter func44,ntmps44
   go_wp2_with (first | (go_at_call 80;have _t:=S1;go_must (refine(IK.out _ S1.out.ext).mono ?_;rintro e w2 ⟨rfl,hb⟩;have S2:=lh (S1.out.call hb);clear a0 a1 a2 a3 a4 a5 az l0 l1 lz y0 y1 y2 yz f0 f1 f2;obtain⟨y0,y1,y2,yz,f0,f1,f2⟩:=ag (S2.out.blk 0 rfl);obtain⟨l0,l1,lz⟩:=aH (S2.out.blk 1 rfl);obtain⟨a0,a1,a2,a3,a4,a5,az⟩:=ao (S2.out.blk 2 rfl);clear hb)) | (go_at_call 79;go_must (refine(IP.out _ S0.out.ext).mono ?_;rintro e w1 ⟨rfl,hb⟩;have S1:=lh (S0.out.call hb);obtain⟨y0,y1,y2,yz,f0,f1,f2⟩:=ag (S1.out.blk 0 rfl);obtain⟨l0,l1,lz⟩:=aH (S1.out.blk 1 rfl);obtain⟨a0,a1,a2,a3,a4,a5,az⟩:=ao (S1.out.blk 2 rfl);clear hb)))
   have S9:=lh (((S2.out.set 0 rfl 0 (.bool false)).set 0 rfl 1 (.int .i64 0)).set 0 rfl 2 (.slice none 0 0))
   obtain⟨x0,x1,x2⟩:=aw (S9.out.blk 0 rfl)
   refine bodyPost_ret (v:=.tuple #[.agg #[.bool false,.int .i64 0,.slice none 0 0],.int .i64 q]) (by simp [results,results44,go_sem,x0,x1,x2,sizeOf34,isAgg34]) rfl ?_
   exact bZ rfl S9.out.ext
theorem yG {A B:jC} {nA:Nat} {k f t rad most:Int} {ws:List ByteArray} (hl:A.length=nA) (hc:ci A B=true) (hq:b7 k f t ws rad most nA=0) :
  (k=1\/k=2\/k=3)/\(k≠3->bK A B f t=0):=by
 have ho:=lK.1 hq
 by_cases h12:k=1\/k=2
 ·refine⟨by omega,fun _=>?_⟩
  rw [oD h12,Bool.and_eq_true] at ho
  obtain⟨o1,o2⟩:=ho
  rw [oJ] at o1 o2
  unfold bK
  rw [if_pos]
  unfold bJ
  rw [hc,hl,decide_eq_true o1.1,decide_eq_true o1.2,decide_eq_true o2.1,decide_eq_true o2.2]
  rfl
 ·by_cases h3:k=3
  ·exact⟨.inr (.inr h3),fun h=>absurd h3 h⟩
  ·rw [ij h12 h3] at ho
   cases ho
def sP (A B:jC):Bool:=decide (250<A.length) || decide (250<B.length) || decide (600<kR A B)
theorem tu {T:jC} (h:∀ v,v<T.length->(ae T v).length<=8796093022207) (hl:T.length<=250):dR T T.length<=2199023255551750:=by
 have:=tr h T.length (Nat.le_refl _)
 have:=Nat.mul_le_mul_right 8796093022207 hl
 omega
theorem Ej (pA:Option Addr) (nA cA:Nat) (hA:List Hd) (A:jC) (pB:Option Addr) (nB cB:Nat) (hB:List Hd) (B:jC) (w:World) (RA:JD w pA nA hA A) (RB:JD w pB nB hB B) (bA:∀ v,v<nA->(ae A v).length<=8796093022207) (bB:∀ v,v<nB->(ae B v).length<=8796093022207):Calls prog 41 #[.agg #[.slice pA nA cA,.slice pB nB cB]] w fun e w'=>e=.returned (.bool (sP A B))/\Ext w w':=by
 have S0:=lh ((Ic.start w).al #[.slice pA nA cA,.slice pB nB cB] 67 w.heap.size rfl)
 have lA:=RA.len
 have lB:=RB.len
 by_cases h1:250<nA
 ·have HF:Hid (sP A B=true):=by unfold Hid sP;rw [lA,decide_eq_true h1];rfl
  have c1:decide ((250:Int)<nA)=true:=by simp;omega
  clear RA RB lA lB bA bB h1
  go_enter func41,ntmps41
  go_wp2
  go_ret
  exact⟨by rw [HF.out];rfl,S0.out.ext⟩
 ·have c1:decide ((250:Int)<nA)=false:=by simp;omega
  by_cases h2:250<nB
  ·have HF:Hid (sP A B=true):=by unfold Hid sP;rw [lB,decide_eq_true h2];simp
   have c2:decide ((250:Int)<nB)=true:=by simp;omega
   clear RA RB lA lB bA bB h1 h2
   go_enter func41,ntmps41
   go_wp2
   go_ret
   exact⟨by rw [HF.out];rfl,S0.out.ext⟩
  ·have c2:decide ((250:Int)<nB)=false:=by simp;omega
   have hz:kR A B<=9223372036854775807:=by
    have h3:=tu (T:=A) (by rw [lA];exact bA) (by omega)
    have h4:=tu (T:=B) (by rw [lB];exact bB) (by omega)
    unfold kR;omega
   have HS:=lh (fun W (h:Ext w W)=>Cq pA nA cA hA A pB nB cB hB B W (RA.ext h) (RB.ext h) hz (by omega) (by omega))
   have HF:Hid (sP A B=decide (600<kR A B)):=by
    unfold Hid sP
    rw [decide_eq_false (show ¬ 250<A.length by omega),decide_eq_false (show ¬ 250<B.length by omega)];rfl
   rw [HF.out]
   clear RA RB lA lB bA bB h1 h2 HF
   generalize kR A B=s at *
   by_cases h3:600<s
   ·have c3:decide ((600:Int)<s)=true:=by simp;omega
    have c4:decide (600<s)=true:=by simp;omega
    clear h3
    go_enter func41,ntmps41
    go_wp2_with (go_at_call 71;go_must (refine(HS.out _ S0.out.ext).mono ?_;rintro e w1 ⟨rfl,hb⟩;have S1:=lh (S0.out.call hb);clear hb))
    go_ret
    exact⟨by rw [c4];rfl,S1.out.ext⟩
   ·have c3:decide ((600:Int)<s)=false:=by simp;omega
    have c4:decide (600<s)=false:=by simp;omega
    clear h3
    go_enter func41,ntmps41
    go_wp2_with (go_at_call 71;go_must (refine(HS.out _ S0.out.ext).mono ?_;rintro e w1 ⟨rfl,hb⟩;have S1:=lh (S0.out.call hb);clear hb))
    go_ret
    exact⟨by rw [c4];rfl,S1.out.ext⟩
theorem yL (k f t:Int) (pw:Option Addr) (nw cw:Nat) (ws:List ByteArray) (rad most:Int) (po:Option Addr) (no co:Nat) (O:List Int) (pt:Option Addr) (nt ct:Nat) (T:List Int) (pr:Option Addr) (nr cr:Nat) (R:List Int) (pv:Option Addr) (nv cv:Nat) (V:List Int) (pl:Option Addr) (nl cl:Nat) (hs:List Hd) (L:List Po) (pA:Option Addr) (nA cA:Nat) (hA:List Hd) (A:jC) (pB:Option Addr) (nB cB:Nat) (hB:List Hd) (B:jC) (w:World) (hO:Rd w 1 po no (ab O)) (hT:Rd w 1 pt nt (ab T)) (hR:Rd w 1 pr nr (ab R)) (hV:Rd w 1 pv nv (ab V)) (hct:nt<=ct) (hcv:nv<=cv)
  (hW:Rd w 1 pw nw (bg ws)) (hcw:nw<=cw) (hL:IW w pl nl hs L) (Q5:∀ q∈L,∀ x∈q.2,Ii x) (RA:JD w pA nA hA A) (RB:JD w pB nB hB B) (bA:∀ v,v<nA->(ae A v).length<=8796093022207) (bB:∀ v,v<nB->(ae B v).length<=8796093022207) :
  Calls prog 12 #[.agg #[.int .i64 k,.int .i64 f,.int .i64 t,.slice pw nw cw,.int .i64 rad,.int .i64 most],.agg #[.slice po no co,.slice pt nt ct,.slice pr nr cr,.slice pv nv cv],.slice pl nl cl,.agg #[.slice pA nA cA,.slice pB nB cB]] w fun e w'=>e=.returned (.bool true)/\Ext w w':=by
 have S0:=lh ((((Ic.start w).al #[.int .i64 k,.int .i64 f,.int .i64 t,.slice pw nw cw,.int .i64 rad,.int .i64 most] 24 w.heap.size rfl).al #[.slice po no co,.slice pt nt ct,.slice pr nr cr,.slice pv nv cv] 27 (w.heap.size+1) (by simp)).al #[.slice pA nA cA,.slice pB nB cB] 67 (w.heap.size+1+1) (by simp))
 have JM:=lh (fun W (h:Ext w W)=>Ee k f t pw nw cw ws rad most po no co O pt nt ct T pr nr cr R pv nv cv V pl nl cl hs L none 0 0 W (hO.ext h) (hT.ext h) (hR.ext h) (hV.ext h) (hW.ext h) (hL.ext h))
 have Nw:=lh (fun W (h:Ext w W)=>Ej pA nA cA hA A pB nB cB hB B W (RA.ext h) (RB.ext h) bA bB)
 cases hfar:yn ws O T R V L 0 with
 | true =>
  rw [hfar] at JM
  clear hO hT hR hV hct hcv hW hL hfar RA RB Nw
  go_enter func12,ntmps12
  go_wp2_with (go_at_call 14;go_must (refine(JM.out _ S0.out.ext).mono ?_;rintro e w1 ⟨rfl,hb⟩;have S1:=lh (S0.out.call hb);obtain⟨b0,b1,b2,b3,bz⟩:=ah (S1.out.blk 1 rfl);obtain⟨a0,a1,a2,a3,a4,a5,az⟩:=ao (S1.out.blk 2 rfl);obtain⟨l0,l1,lz⟩:=aH (S1.out.blk 0 rfl);clear hb))
  go_ret
  exact⟨rfl,S1.out.ext⟩
 | false =>
  rw [hfar] at JM
  cases hbig:sP A B with
  | true =>
   rw [hbig] at Nw
   clear hO hT hR hV hct hcv hW hL hfar RA RB hbig
   go_enter func12,ntmps12
   go_wp2_with (first | (go_at_call 41;have _t:=S1;go_must (refine(Nw.out _ S1.out.ext).mono ?_;rintro e w2 ⟨rfl,hb⟩;have S2:=lh (S1.out.call hb);clear a0 a1 a2 a3 a4 a5 az b0 b1 b2 b3 bz l0 l1 lz;obtain⟨b0,b1,b2,b3,bz⟩:=ah (S2.out.blk 1 rfl);obtain⟨a0,a1,a2,a3,a4,a5,az⟩:=ao (S2.out.blk 2 rfl);obtain⟨l0,l1,lz⟩:=aH (S2.out.blk 0 rfl);clear hb)) | (go_at_call 14;go_must (refine(JM.out _ S0.out.ext).mono ?_;rintro e w1 ⟨rfl,hb⟩;have S1:=lh (S0.out.call hb);obtain⟨b0,b1,b2,b3,bz⟩:=ah (S1.out.blk 1 rfl);obtain⟨a0,a1,a2,a3,a4,a5,az⟩:=ao (S1.out.blk 2 rfl);obtain⟨l0,l1,lz⟩:=aH (S1.out.blk 0 rfl);clear hb)))
   go_ret
   exact⟨rfl,S2.out.ext⟩
  | false =>
   rw [hbig] at Nw
   obtain⟨f1,f2,f3,f4,f5⟩:=Bb k f t pw nw cw ws rad most rfl rfl rfl rfl rfl rfl rfl rfl hfar Q5
   have hno:=hO.nI
   have hnw:=hW.nS
   have HA1:=lh (fun W (h:Ext w W)=>GV k f t pw nw cw ws rad most po no co O pt nt ct T pr nr cr R pv nv cv V pl nl cl hs L W (hO.ext h) (hT.ext h) (hR.ext h) (hV.ext h) hct hcv (hL.ext h) (hW.ext h) (by omega) f2 hcw (by omega) f4)
   have HA2:=lh (fun W (h:Ext w W)=>FE k f t pw nw cw ws rad most po no co O pt nt ct T pr nr cr R pv nv cv V pl nl cl hs L W (hO.ext h) (hT.ext h) (hR.ext h) (hV.ext h) hct hcv (hL.ext h) (hW.ext h) (by omega) f2 hcw (by omega) f4)
   have Jg:=lh (fun W (h:Ext w W)=>Co k f t pw nw cw rad most pA nA cA pB nB cB (ci A B) (bQ A B f t) (b7 k f t ws rad most nA) (bP A B f t) (bK A B f t) W (fun W2 h2=>wu pA nA cA hA A pB nB cB hB B W2 (RA.ext (Ext.trans h h2)) (RB.ext (Ext.trans h h2))) (fun W2 h2=>zG k f t pw nw cw ws rad most nA W2 (hW.ext (Ext.trans h h2)) f2) (fun W2 h2=>Cp pA nA cA hA A pB nB cB hB B f t W2 (RA.ext (Ext.trans h h2)) (RB.ext (Ext.trans h h2))) (fun hc hq=>yG RA.len hc hq))
   have JC:=lh (fun W (h:Ext w W)=>Cy k f t pw nw cw rad most pA nA cA pB nB cB (ci A B) (bQ A B f t) (b7 k f t ws rad most nA) (bP A B f t) (bK A B f t) W (fun W2 h2=>sC pA nA cA hA A pB nB cB hB B W2 (RA.ext (Ext.trans h h2)) (RB.ext (Ext.trans h h2))) (fun W2 h2=>wq k f t pw nw cw ws rad most nA W2 (hW.ext (Ext.trans h h2)) f2) (fun W2 h2=>zX pA nA cA hA A pB nB cB hB B f t W2 (RA.ext (Ext.trans h h2)) (RB.ext (Ext.trans h h2))))
   generalize jW (ci A B) (b7 k f t ws rad most nA) k (bQ A B f t)=bb at Jg JC
   generalize jX (ci A B) (b7 k f t ws rad most nA) k (bP A B f t)=dd at Jg JC
   generalize jg (ci A B) (b7 k f t ws rad most nA) k=ee at Jg JC
   generalize ([]:List (Int × Int))=FH at Jg JC
   clear hO hT hR hV hct hcv hW hL hfar f1 f2 f3 f4 f5 hno hnw hcw Q5 RA RB bA bB hbig
   go_enter func12,ntmps12
   go_wp2_with (first | (go_at_call 20;have _t:=S8;go_must (refine(Ag bb dd q3 q4 FH.length FH.length c3 c4 FH _ (S8.out.rdx 3 rfl) (S8.out.rdx 1 rfl)).mono ?_;rintro e w9 ⟨rfl,hb⟩;have S9:=lh (S8.out.call hb);clear hb)) | (go_at_call 20;have _t:=S7;go_must (refine(Ag b1' d1' q1 q2 F1.length F1.length c1 c2 F1 _ (S7.out.rdx 7 rfl) (S7.out.rdx 5 rfl)).mono ?_;rintro e w8 ⟨rfl,hb⟩;have S8:=lh (S7.out.call hb);clear r0 r1 r2 rz s0 s1 s2 sz u0 u1 u2 uz v0 v1 v2 vz;obtain⟨r0,r1,r2,rz⟩:=fD (S8.out.blk 0 rfl);obtain⟨s0,s1,s2,sz⟩:=fD (S8.out.blk 2 rfl);clear hb)) | (go_at_call 19;have _t:=S6;go_must (refine(Ei _).mono ?_;rintro e w7 ⟨rfl,hb⟩;have S7:=lh (S6.out.call hb);obtain⟨r0,r1,r2,rz⟩:=fD (S7.out.blk 0 rfl);obtain⟨s0,s1,s2,sz⟩:=fD (S7.out.blk 2 rfl);obtain⟨u0,u1,u2,uz⟩:=fD (S7.out.blk 4 rfl);obtain⟨v0,v1,v2,vz⟩:=fD (S7.out.blk 6 rfl);clear hb)) | (go_at_call 44;have _t:=S5;go_must (refine(JC.out _ S5.out.ext).mono ?_;rintro e w6 ⟨q4,c4,rfl,Z⟩;have S6:=lh ((S5.out.comp Z).al #[.bool bb,.int .i64 dd,.slice q4 FH.length c4] 34 w6.heap.size rfl);clear a0 a1 a2 a3 a4 a5 az b0 b1 b2 b3 bz l0 l1 lz;clear Z)) | (go_at_call 43;have _t:=S4;go_must (refine(Jg.out _ S4.out.ext).mono ?_;rintro e w5 ⟨q3,c3,rfl,Z⟩;have S5:=lh ((S4.out.comp Z).al #[.bool bb,.int .i64 dd,.slice q3 FH.length c3] 34 w5.heap.size rfl);clear a0 a1 a2 a3 a4 a5 az b0 b1 b2 b3 bz l0 l1 lz;obtain⟨b0,b1,b2,b3,bz⟩:=ah (S5.out.blk 7 rfl);obtain⟨a0,a1,a2,a3,a4,a5,az⟩:=ao (S5.out.blk 8 rfl);obtain⟨l0,l1,lz⟩:=aH (S5.out.blk 6 rfl);clear Z)) | (go_at_call 42;have _t:=S3;go_must (refine(HA2.out _ S3.out.ext).mono ?_;rintro e w4 ⟨b2',ZG,F2,e2',g2,q2,c2,rfl,Z⟩;obtain⟨rfl,rfl,rfl,rfl⟩:=xM G1.out g2;have S4:=lh ((S3.out.comp Z).al #[.bool b1',.int .i64 d1',.slice q2 F1.length c2] 34 w4.heap.size rfl);clear a0 a1 a2 a3 a4 a5 az b0 b1 b2 b3 bz l0 l1 lz;obtain⟨b0,b1,b2,b3,bz⟩:=ah (S4.out.blk 5 rfl);obtain⟨a0,a1,a2,a3,a4,a5,az⟩:=ao (S4.out.blk 6 rfl);obtain⟨l0,l1,lz⟩:=aH (S4.out.blk 4 rfl);clear Z g2)) | (go_at_call 40;have _t:=S2;go_must (refine(HA1.out _ S2.out.ext).mono ?_;rintro e w3 ⟨b1',d1',F1,ZJ,g1,q1,c1,rfl,Z⟩;have G1:=lh g1;have S3:=lh ((S2.out.comp Z).al #[.bool b1',.int .i64 d1',.slice q1 F1.length c1] 34 w3.heap.size rfl);clear a0 a1 a2 a3 a4 a5 az b0 b1 b2 b3 bz l0 l1 lz;obtain⟨b0,b1,b2,b3,bz⟩:=ah (S3.out.blk 3 rfl);obtain⟨a0,a1,a2,a3,a4,a5,az⟩:=ao (S3.out.blk 4 rfl);obtain⟨l0,l1,lz⟩:=aH (S3.out.blk 2 rfl);clear Z g1)) | (go_at_call 41;have _t:=S1;go_must (refine(Nw.out _ S1.out.ext).mono ?_;rintro e w2 ⟨rfl,hb⟩;have S2:=lh (S1.out.call hb);clear a0 a1 a2 a3 a4 a5 az b0 b1 b2 b3 bz l0 l1 lz;obtain⟨b0,b1,b2,b3,bz⟩:=ah (S2.out.blk 1 rfl);obtain⟨a0,a1,a2,a3,a4,a5,az⟩:=ao (S2.out.blk 2 rfl);obtain⟨l0,l1,lz⟩:=aH (S2.out.blk 0 rfl);clear hb)) | (go_at_call 14;go_must (refine(JM.out _ S0.out.ext).mono ?_;rintro e w1 ⟨rfl,hb⟩;have S1:=lh (S0.out.call hb);obtain⟨b0,b1,b2,b3,bz⟩:=ah (S1.out.blk 1 rfl);obtain⟨a0,a1,a2,a3,a4,a5,az⟩:=ao (S1.out.blk 2 rfl);obtain⟨l0,l1,lz⟩:=aH (S1.out.blk 0 rfl);clear hb)))
   go_ret
   exact⟨rfl,S9.out.ext⟩
section
open Go Go.RowKit Go.WideShapes Go.ChangeShapes
theorem oF:ownKnob prog.godebug=none:=by kernel_rfl
theorem C2:laidOutB prog=true:=by kernel_rfl
theorem Bg {H:Type} {enc:TypeId × Value->H} {f:Func} {s:ChangeSpec} {apart fresh handsOn again:Bool} {W W':World} {args:Array Value} {ds:List (DataW H)} {before:List MemPlace}
  (hW:DataW.Whole enc prog f.params.toList s.vars apart W args.toList ds [] before) (ht:f.resultTypes=#[4]) (hvars:s.vars=[])
  (hfn:s.fn H (ds ++ [])={ results:=[.lit (.bool true)],args:=ds })
  (hargs:∀ sp:Nat->Bool,(∀ p∈before,sp p.block=true)->DataW.TrodAll enc prog W' 0 sp true f.params.toList args.toList ds before)
  (hb:Below W.heap.size W W'):s.post enc prog f apart fresh handsOn again W args (.bool true) W':=by
 have lits:∀ (b:Nat) (sp:Nat->Bool) (hd:Bool),DataW.TrodAll enc prog W' b sp hd f.resultTypes.toList ((Value.bool true).resultList f.resultTypes.size) (s.fn H (ds ++ [])).results []:=by
  intro b sp hd
  rw [hfn,ht]
  exact trodAll_mk1 (shut_bool underlying4 true)
 have hold:∀ sp:Nat->Bool,(∀ p∈before,sp p.block=true)->DataW.TrodAll enc prog W' 0 sp true f.params.toList args.toList (s.fn H (ds ++ [])).args before:=by
  intro sp hsp
  rw [hfn];exact hargs sp hsp
 have hv:∀ sp:Nat->Bool,DataW.TrodVars enc prog W' sp s.vars (s.fn H (ds ++ [])).vars []:=by
  intro sp;rw [hfn,hvars];rfl
 have hin:∀ p∈before,p.block<W.heap.size:=fun p hp=>hW.lt p hp
 have same:before=before ++ []:=by simp
 refine⟨ds,[],before,[],before,[],hW,lits _ _ _,hold _ (fun p hp=>by simpa using hin p hp),hv _,World.keptBut_mono (fun p hp=>⟨hp,.inr (by simpa using hp)⟩) (hb.frame (·∈before)),fun _=>?_⟩
 have hW2:=hW
 obtain⟨_,_,_,_,_,hz,hn⟩:=hW2
 refine⟨ok_one (by rw [ht]) rfl (okWide_bool_mk underlying4 _),_,_,([] ++ before) ++ [],⟨[] ++ before,[],trodAll_append (hold _ (fun _ _=>rfl)) (lits _ _ _),hv _,rfl,?_,?_⟩,?_⟩
 ·intro b off hp
  have hp2:MemPlace.cell b off∈before:=by simpa using hp
  rw [hb.frozen (hin _ hp2)]
  exact hz b off hp2
 ·intro ha
  simpa using hn ha
 ·intro p hp _
  simpa using hp
theorem GI {H:Type} {enc:TypeId × Value->H} {W W':World} {t:TypeId} {v:Value} {d:DataW H} {ps:List MemPlace} (hr:prog.readableRec t=true) (hrow:t<prog.types.size) (h:DataW.Trod enc prog W 0 (fun _=>true) true t v d ps)
  (hb:Below W.heap.size W W') (hlt:∀ x∈ps,x.block<W.heap.size) {sp:Nat->Bool} (hsp:∀ x∈ps,sp x.block=true):DataW.Trod enc prog W' 0 sp true t v d ps :=
 WideElems.Trod_stays C2 hr hrow h (fun x hx=>hb.same (hlt x hx)) hsp
theorem sh {H:Type} {enc:TypeId × Value->H} {P:Program} {W W':World} {sp sp':Nat->Bool} {hd:Bool} (ts:List TypeId):∀ {vs:List Value} {ds:List (DataW H)} {ps:List MemPlace},DataW.TrodAll enc P W 0 sp hd ts vs ds ps ->
  (∀ t∈ts,∀ v d p,(∀ x∈p,x∈ps)->DataW.Trod enc P W 0 sp hd t v d p->DataW.Trod enc P W' 0 sp' hd t v d p)->DataW.TrodAll enc P W' 0 sp' hd ts vs ds ps:=by
 induction ts with
 | nil =>
  intro vs ds ps h _
  obtain⟨rfl,rfl,rfl⟩:=trodAll_nil h
  exact trodAll_mk0
 | cons t ts ih =>
  intro vs ds ps h hk
  obtain⟨v,vs',d,ds',p,q,rfl,rfl,rfl,h1,h2⟩:=trodAll_cons h
  exact trodAll_cons_mk (hk t (by simp) v d p (fun x hx=>by simp [hx]) h1) (ih h2 fun t' ht' v' d' p' hp' h'=>hk t' (by simp [ht']) v' d' p' (fun x hx=>by simp [hp' x hx]) h')
theorem zr {H:Type} {enc:TypeId × Value->H} {W W':World} {ts:List TypeId} {vs:List Value} {ds:List (DataW H)} {ps:List MemPlace} (hr:ts.all (fun t=>prog.readableRec t && decide (t<prog.types.size))=true)
  (h:DataW.TrodAll enc prog W 0 (fun _=>true) true ts vs ds ps) (hb:Below W.heap.size W W') (hlt:∀ x∈ps,x.block<W.heap.size) {sp:Nat->Bool} (hsp:∀ x∈ps,sp x.block=true):DataW.TrodAll enc prog W' 0 sp true ts vs ds ps :=
 sh ts h fun t ht v d p hp h1=>by
  have h2:=List.all_eq_true.1 hr t ht
  rw [Bool.and_eq_true,decide_eq_true_eq] at h2
  exact GI h2.1 h2.2 h1 hb (fun x hx=>hlt x (hp x hx)) (fun x hx=>hsp x (hp x hx))
theorem dU {a b:Bool} (h:a=true) (g:b=true):(a && b)=true:=by rw [h,g];rfl
end
section
open Go Go.RowKit Go.ChangeShapes Go.WideShapes Go.ChangeAt Go.Deep Go.Joins
section
variable {H:Type} {enc:TypeId × Value->H} {w:World} {base:Nat} {spare:Nat->Bool} {held:Bool}
theorem rZ {r:Reach} {b0:Nat} {v:Value} {d:DataW H} {p:List MemPlace} (hv:Value.okWide prog w r b0 27 v) (h:DataW.Trod enc prog w base spare held 27 v d p) :
  ∃ po no co O pt nt ct T pr nr cr R pv nv cv V,v=.agg #[.slice po no co,.slice pt nt ct,.slice pr nr cr,.slice pv nv cv]/\Rd w 1 po no (ab O)/\Rd w 1 pt nt (ab T)/\Rd w 1 pr nr (ab R)/\Rd w 1 pv nv (ab V)/\no<=co/\nt<=ct/\nr<=cr/\nv<=cv:=by
 obtain⟨v0,v1,v2,v3,y0,y1,y2,y3,n,rfl,_,_,t0,t1,t2,t3⟩:=open_agg4 underlying27 (by kernel_rfl) (by kernel_rfl) hv h
 obtain⟨po,no,co,O,rfl,c0,h0,_⟩:=iq underlying25 t0
 obtain⟨pt,nt,ct,T,rfl,c1,h1,_⟩:=iq underlying25 t1
 obtain⟨pr,nr,cr,R,rfl,c2,h2,_⟩:=iq underlying25 t2
 obtain⟨pv,nv,cv,V,rfl,c3,h3,_⟩:=iq underlying25 t3
 exact⟨po,no,co,O,pt,nt,ct,T,pr,nr,cr,R,pv,nv,cv,V,rfl,h0,h1,h2,h3,c0,c1,c2,c3⟩
end
end
section
open Go Go.RowKit Go.ChangeShapes Go.WideShapes Go.ChangeAt Go.Deep Go.Joins
section
variable {H:Type} {enc:TypeId × Value->H} {w:World} {base:Nat} {spare:Nat->Bool} {held:Bool}
theorem mO {e:TypeId}:∀ {l:List (DataW H)} {d:DataW H},d∈l->∀ n∈d.weights prog e,n∈DataW.weightsAll prog e l
 | [],_,h,_,_=>nomatch h
 | x :: l,d,h,n,hn=>by
  rw [DataW.weightsAll,List.mem_append]
  rcases List.mem_cons.1 h with rfl | h
  ·exact .inl hn
  ·exact .inr (mO h n hn)
theorem se {t e:TypeId} {fuel:Nat} {v:Value} {x:DataW H × List MemPlace} (ht:prog.underlying t=some (.slice e)) (h:DataW.trod enc prog w base spare held fuel t [v]=some x) (hw:∀ m∈x.1.weights prog t,m<=reachBytes)
  {p:Option Addr} {n c:Nat} (hv:v=.slice p n c):n*prog.bytesOf e<=reachBytes:=by
 rcases open_slice ht h with ⟨h0,_⟩ | ⟨a,len,cap,m,n',D,Pl,hcs,hb,hl,hm,hmm,hx,hi⟩
 ·rw [hv] at h0;simp at h0;rw [h0.2.1];simp [reachBytes]
 ·rw [hv] at hcs;simp at hcs
  obtain⟨_,rfl,_⟩:=hcs
  rw [hx] at hw
  have h1:=hw ((((List.range n).map D).length+((List.range (m - n)).map fun j=>D (n+j)).length)*prog.bytesOf e) (by rw [DataW.weights,ht];simp)
  refine Nat.le_trans (Nat.mul_le_mul_right _ ?_) h1
  simp
theorem zv {t:TypeId} {fuel:Nat} {v:Value} {x:DataW H × List MemPlace} (ht:prog.underlying t=some (.slice 105)) (h:DataW.trod enc prog w base spare held fuel t [v]=some x) :
  ∃ p n c E,v=.slice p n c/\n<=c/\Rd w 2 p n (aj E):=by
 rcases gM ht underlying105 (by kernel_rfl) (by kernel_rfl) h with h0 | ⟨a,len,cap,hcs,hl,hm,hi⟩
 ·simp at h0;exact⟨none,0,0,[],h0,Nat.le_refl _,Rd.nil _ _ _⟩
 ·simp at hcs
  have hl2:len<=9223372036854775807:=by unfold maxLen at hm;omega
  have hE:∀ i,i<len->∃ e:Int × Int,w.cell? (a.add (i*2))=some (.int .i64 e.1)/\w.cell? (a.add (i*2+1))=some (.int .i64 e.2):=by
   intro i hil
   obtain⟨v1,y1,n1,c1,t1⟩:=hi i hil 0 _ rfl
   obtain⟨v2,y2,n2,c2,t2⟩:=hi i hil 1 _ rfl
   obtain⟨k1,e1,_⟩:=DataW.trod_int underlying3 t1
   obtain⟨k2,e2,_⟩:=DataW.trod_int underlying3 t2
   simp at e1 e2
   subst e1 e2
   exact⟨(k1,k2),c1,c2⟩
  obtain⟨E,hEl,ND⟩:=eS hE
  refine⟨some a,len,cap,E,hcs,hl,Rd.of_cells (by decide) (by rw [bS,hEl]) hl2 fun j hj=>?_⟩
  have hd:j / 2<len:=by omega
  obtain⟨g1,g2⟩:=kJ E (j / 2) (by omega)
  obtain⟨h1,h2⟩:=ND (j / 2) hd
  have hm2:j=j / 2*2\/j=j / 2*2+1:=by omega
  rcases hm2 with e | e
  ·rw [e,g1];exact h1
  ·rw [e,g2];exact h2
theorem AD:prog.bytesOf 105=16:=by kernel_rfl
theorem lp {t:TypeId} {fuel:Nat} {v:Value} {x:DataW H × List MemPlace} (ht:prog.underlying t=some (.slice 32)) (h:DataW.trod enc prog w base spare held fuel t [v]=some x) (hw:∀ m∈x.1.weights prog t,m<=reachBytes) :
  ∃ p n c hs T,v=.slice p n c/\n<=c/\JD w p n hs T/\∀ k,k<n->(ae T k).length<=8796093022207:=by
 rcases open_slice ht h with ⟨h0,_⟩ | ⟨a,len,cap,m,n,D,Pl,hcs,hb,hl,hm,hmm,hx,hi⟩
 ·simp at h0;exact⟨none,0,0,[],[],h0,Nat.le_refl _,⟨Rd.nil _ _ _,rfl,fun j hj=>by omega⟩,fun k hk=>by omega⟩
 ·simp at hcs
  have hl2:len<=9223372036854775807:=by unfold maxLen at hm;omega
  have hc1:prog.cellsOf 32=1:=by kernel_rfl
  rw [hc1] at hi
  have hS:∀ i,i<len->∃ q:Hd × List (Int × Int),w.cell? (a.add i)=some (.slice q.1.p q.1.n q.1.c)/\Rd w 2 q.1.p q.1.n (aj q.2)/\q.2.length<=8796093022207:=by
   intro i hil
   obtain⟨cs',hc,ht'⟩:=hi i (by rw [hmm];split <;> omega)
   obtain⟨_,hcl,hat⟩:=World.cells?_some hc
   match cs',hcl with
   | [u],_ =>
    obtain⟨p,n',c',l,e1,_,hr⟩:=zv underlying32 ht'
    have YK:∀ m∈(D i).weights prog 32,m<=reachBytes:=fun m hm'=>by
     refine hw m ?_
     rw [hx,DataW.weights,ht]
     refine List.mem_cons_of_mem _ (List.mem_append_left _ (mO (d:=D i) ?_ m hm'))
     exact List.mem_map.2 ⟨i,List.mem_range.2 hil,rfl⟩
    have hwn:=se (x:=(D i,Pl i)) underlying32 ht' YK e1
    rw [AD] at hwn
    have:=hat 0 (by decide)
    rw [Go.Deep.add_add,Nat.mul_one,Nat.add_zero,e1] at this
    have hn:=hr.nE
    unfold reachBytes at hwn
    exact⟨(⟨p,n',c'⟩,l),this,hr,by simp only;omega⟩
  obtain⟨l,hll,hlc⟩:=eS hS
  have hm:∀ i,i<len->ae (l.map (·.1)) i=(ae l i).1/\ae (l.map (·.2)) i=(ae l i).2:=fun i hil=>by
   rw [ar (l:=l.map (·.1)) (by rw [List.length_map];omega),ar (l:=l.map (·.2)) (by rw [List.length_map];omega),ar (l:=l) (by omega)];simp
  refine⟨some a,len,cap,l.map (·.1),l.map (·.2),hcs,hl,⟨Rd.of_cells (by decide) (by rw [nP,List.length_map,hll,Nat.mul_one]) hl2 fun j hj=>?_,by simp [hll],fun j hj=>?_⟩,fun k hk=>?_⟩
  ·rw [te _ j (by simp;omega),(hm j (by omega)).1]
   exact(hlc j (by omega)).1
  ·rw [(hm j hj).1,(hm j hj).2]
   exact(hlc j hj).2.1
  ·rw [(hm k hk).2];exact(hlc k hk).2.2
theorem tV {r:Reach} {b0:Nat} {v:Value} {d:DataW H} {p:List MemPlace} (hv:Value.okWide prog w r b0 67 v) (h:DataW.Trod enc prog w base spare held 67 v d p) (hw:∀ m∈d.weights prog 67,m<=reachBytes) :
  ∃ pA nA cA hA A pB nB cB hB B,v=.agg #[.slice pA nA cA,.slice pB nB cB]/\JD w pA nA hA A/\JD w pB nB hB B/\(∀ k,k<nA->(ae A k).length<=8796093022207)/\∀ k,k<nB->(ae B k).length<=8796093022207:=by
 obtain⟨v0,v1,y0,y1,n,rfl,rfl,_,t0,t1⟩:=open_agg2 underlying67 (by kernel_rfl) (by kernel_rfl) hv h
 have e:(DataW.agg [y0.1,y1.1]).weights prog 67=y0.1.weights prog 65 ++ (y1.1.weights prog 65 ++ []):=by
  rw [DataW.weights,underlying67];rfl
 rw [e] at hw
 obtain⟨pA,nA,cA,hA,A,rfl,_,h1,b1⟩:=lp underlying65 t0 fun m hm=>hw m (List.mem_append_left _ hm)
 obtain⟨pB,nB,cB,hB,B,rfl,_,h2,b2⟩:=lp underlying65 t1 fun m hm=>hw m (List.mem_append_right _ (List.mem_append_left _ hm))
 exact⟨pA,nA,cA,hA,A,pB,nB,cB,hB,B,rfl,h1,h2,b1,b2⟩
end
end
end Go.Proofs.YtfjhjennfiihhaaGreat
