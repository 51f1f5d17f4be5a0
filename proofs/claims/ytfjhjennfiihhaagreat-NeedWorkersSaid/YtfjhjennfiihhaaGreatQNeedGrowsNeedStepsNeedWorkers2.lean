/- Texts of this claim, one behind the other: RI, G6, G7, Gr, R6, G8, Pst5, G1, Chk5, R8, R9, RT, Plain2, FndA, Ref5, Spec4, PlainHp, PlainL, PlainD, Ref5b, Own5, PlainMk, PlainA, PlainR, It4, It4b, Half4, Half4b, Chk4, Chk4b, Out4, Laid4, G2, G9, G11, GT, Big2, G10, Mk4, PlainN, Hp2, OwnSm, Hp3, Hp4, Hp6, PlainHn, PlainNr. -/
import Derived.Test.YtfjhjennfiihhaaGreatQNeedGrowsNeedStepsNeedWorkers1
set_option maxRecDepth 100000
set_option maxHeartbeats 16000000
namespace Go.Proofs.YtfjhjennfiihhaaGreat
section
open Go Go.RowKit
theorem encI_take (l:List Int) (k:Nat):(encI l).take (k*1)=encI (l.take k):=by simp [encI,List.map_take]
theorem encI_drop (l:List Int) (k:Nat):(encI l).drop (k*1)=encI (l.drop k):=by simp [encI,List.map_drop]
theorem Rising05 (p:Option Addr) (n c:Nat) (l:List Int) (w:World) (hl:Rd w 1 p n (encI l)) (hz:n≤1000000) :
  Calls Tryz.prog 193 #[.slice p n c] w fun e w'=>∃ p' n' c',e=.returned (.slice p' n' c')∧n'=(putAll ltI l).length∧w'.ownsRow w.heap.size 3 1 (.slice p' n' c') n' (encI (putAll ltI l))∧Ext w w':=by
 obtain⟨i0,hi0,hz0,hz1,hz2⟩:=info_parts infI
 have p1:=hl.ptr
 have n1:=hl.small
 have l1:=hl.nI
 have HL:=Lib.hid hl;clear hl
 have L1:=Lib.hid l1;clear l1
 go_enter Tryz.func193,Tryz.ntmps193
 go_wp2
 go_loopw [3,4,5,6] (fun s i _ _ wr=>∃ (k:Nat) (o:List Int) (q:Option Addr) (m cq:Nat),k≤n∧i=.int .i64 k∧s=.slice q m cq∧o=(l.take k).foldl (putL ltI) []∧m=((l.take k).foldl (putL ltI) []).length∧wr.ownsRow w.heap.size 3 1 (.slice q m cq) m (encI ((l.take k).foldl (putL ltI) []))∧Ext w wr) (fun _ i _ _ _=>n - (intOf i).toNat)
 case atStart=>exact⟨0,[],none,0,0,Nat.zero_le _,rfl,rfl,rfl,rfl,World.ownsRow_nil _ _ _ _,Below.refl _ _⟩
 case round =>
  obtain⟨k,o,q,m,cq,hk,rfl,rfl,ho,hm,hown,hb⟩:=hrel
  rw [← ho] at hm hown
  have hmk:m≤k:=by
   rw [hm,ho];have:=foldl_put_len ltI (l.take k) [];rw [List.length_take] at this;simp at this ⊢;omega
  have hmc:=own_cap hown
  have hq:=Rd.of_own hown (by omega)
  have p2:=hq.ptr
  have HO:=Lib.hid ho;clear ho
  have HM:=Lib.hid hm;clear hm
  have HB:=Lib.hid hb;clear hb
  have HQ:=Lib.hid hq;clear hq
  have HOWN:=Lib.hid hown;clear hown
  by_cases hlt:k<n
  ·have g0:=HB.out.cell (HL.out.cI hlt)
   go_wp2
   obtain⟨wo,rfl⟩:∃ wo:World,wo=wr:=⟨_,rfl⟩
   go_loopw [5] (fun a wx=>∃ j:Nat,j≤m∧a=.int .i64 j∧(o.take j).all (fun y=>ltI y (nth l k))=true∧Ext wo wx) (fun a _=>m - (intOf a).toNat)
   case atStart=>exact⟨0,Nat.zero_le _,rfl,rfl,Below.refl _ _⟩
   case round =>
    obtain⟨j,hj,rfl,ha,hb⟩:=hrel
    have g1:=g0
    replace g0:=hb.cell g0
    have HA:=Lib.hid ha;clear ha
    have HX:=Lib.hid hb;clear hb
    have d1:(0:Int)≤j:=by omega
    have k1:(0:Int)≤k:=by omega
    have k2:(k:Int)<n:=by omega
    have HSTOP:Hid (∀ (hs:j<m→ltI (nth o j) (nth l k)=false),ahead ltI o (nth l k)=j):=fun hs=>ahead_of ltI o (nth l k) j (by rw [← HM.out];exact hj) HA.out (fun h=>hs (by rw [HM.out];exact h))
    have RA:Hid (∀ W,Ext wo W→Rd W 1 q j (encI (o.take j))):=fun W hW=>by
     have:=(HQ.out.ext hW).take hj
     rwa [encI_take] at this
    have RC:Hid (∀ W,Ext wo W→Rd W 1 (cutp q cq j 1) (m - j) (encI (o.drop j))):=fun W hW=>by
     have:=(HQ.out.ext hW).cut hj (Nat.le_refl m) hmc
     rw [encI_drop,List.take_of_length_le (by rw [encI_len,List.length_drop,← HM.out];omega)] at this
     exact this
    have BW:Hid (∀ i,Ext wo (wr.drewN i)):=fun i=>HX.out.drewN i
    have Z1:=Lib.hid HX.out.size
    by_cases hjt:j<m
    ·have g3:=HX.out.cell (HQ.out.cI hjt)
     have d2:(j:Int)<m:=by omega
     have d3:decide ((j:Int)<m)=true:=by simp;omega
     have d4:decide (j<m)=true:=by simp;omega
     by_cases hless:ltI (nth o j) (nth l k)=true
     ·have hless2:decide (nth o j<nth l k)=true:=hless
      go_wp2
      go_quiet (fail)
      go_wp2
      go_roundw
      case rel=>exact⟨j+1,by omega,by go_num,all_step _ _ _ (by rw [← HM.out];exact hjt) HA.out hless,HX.out.drewN _⟩
      case measure=>simp [intOf];omega
     ·have hless':ltI (nth o j) (nth l k)=false:=by simpa using hless
      clear hless
      have hless2:decide (nth o j<nth l k)=false:=hless'
      have HAT:=Lib.hid (HSTOP.out (fun _=>hless'))
      by_cases heq:nth o j=nth l k
      ·have hq2:(nth o j == nth l k)=true:=by simp [heq]
       have HF:=Lib.hid (putL_same HAT.out (by rw [← HM.out];exact hjt) heq)
       clear heq
       go_wp2
       go_quiet (fail)
       go_wp2
       go_quiet (fail)
       go_wp2
       go_roundw
       case rel=>exact⟨k+1,_,q,m,cq,by omega,by go_num,rfl,rfl,by rw [foldl_take_succ _ _ _ _ (by rw [← L1.out];exact hlt),← HO.out,HF.out];exact HM.out,by rw [foldl_take_succ _ _ _ _ (by rw [← L1.out];exact hlt),← HO.out,HF.out];exact(BW.out _).own HOWN.out,Ext.trans HB.out (BW.out _)⟩
       case measure=>simp [intOf];omega
      ·have hq2:(nth o j == nth l k)=false:=by simp [heq]
       have HF:=Lib.hid (putL_new HAT.out (fun _=>heq))
       clear heq
       go_wp2
       go_quiet (fail)
       go_wp2
       go_quiet (fail)
       go_wp2_with (first | (at_builtin;have _t:=OW2;go_must ((refine wpList_append_rd rfl _ _ _ rfl wo.heap.size 3 i0 _ 1 8 Tryz.underlying25 hi0 hz0 hz1 hz2 rfl (by omega) q2 (j+1) c2 _ rfl OW2.out (cutp q cq j 1) (m - j) (cq - j) (encI (o.drop j)) rfl (RC.out _ BW3.out) (one_encI _) (by omega) (by omega) (by exact Nat.le_trans Z1.out (Nat.le_trans BS2.out (Nat.le_trans (Nat.le_succ _) BS3.out))) ?_;intro q3 c3 w4 own3 hg3 hat3 hl3;have BW4:=Lib.hid (Below.trans BW3.out hl3);have OW3:=Lib.hid own3;clear own3 hg3 hat3 hl3))) | (at_builtin;have _t:=OW1;go_must ((refine wpList_append_rd rfl _ _ _ rfl wo.heap.size 3 i0 _ 1 8 Tryz.underlying25 hi0 hz0 hz1 hz2 rfl (by omega) q1 j c1 _ rfl (World.ownsRow.alloc OW1.out _) _ 1 1 _ rfl (Rd.oneI w2 _ (nth l k)) (one_encI _) (by omega) (by omega) (by rw [World.size_alloc];exact Nat.le_succ_of_le (Nat.le_trans Z1.out BS2.out)) ?_;intro q2 c2 w3 own2 hg2 hat2 hl2;have BW3:=Lib.hid (Below.trans (Ext.alloc BW2.out _) hl2);have BS3:=Lib.hid (by have:=hl2.size;rwa [World.size_alloc] at this);have OW2:=Lib.hid own2;clear own2 hg2 hat2 hl2))) | (at_builtin;go_must ((refine wpList_append_rd rfl _ _ _ rfl wo.heap.size 3 i0 _ 1 8 Tryz.underlying25 hi0 hz0 hz1 hz2 rfl (by omega) none 0 0 [] rfl (World.ownsRow_nil _ _ _ _) q j cq (encI (o.take j)) rfl (RA.out _ (BW.out _)) (one_encI _) (by omega) (by omega) (by exact Z1.out) ?_;intro q1 c1 w2 own1 hg1 hat1 hl1;have g1':=Ext.cell (Below.trans (BW.out _) hl1) g1;have BW2:=Lib.hid (Below.trans (BW.out _) hl1);have BS2:=Lib.hid hl1.size;simp only [Nat.zero_add,List.nil_append] at own1;have OW1:=Lib.hid own1;clear own1 hg1 hat1 hl1))))
       go_roundw
       case rel=>exact⟨k+1,_,q3,_,c3,by omega,by go_num,rfl,rfl,by rw [foldl_take_succ _ _ _ _ (by rw [← L1.out];exact hlt),← HO.out,HF.out,List.length_append,List.length_append,List.length_take,List.length_drop];have hm9:=HM.out;simp only [List.length_cons,List.length_nil];omega,by rw [foldl_take_succ _ _ _ _ (by rw [← L1.out];exact hlt),← HO.out,HF.out];have:=own_base OW3.out (b:=w.heap.size) HB.out.size;simpa [encI_append,encI] using this,Ext.trans HB.out BW4.out⟩
       case measure=>simp [intOf];omega
    ·have HAT:=Lib.hid (HSTOP.out (fun h=>absurd h hjt))
     have HF:=Lib.hid (putL_new HAT.out (fun h=>absurd (by rw [HM.out];exact h) hjt))
     have d3:decide ((j:Int)<m)=false:=by simp;omega
     have d4:decide (j<m)=false:=by simp;omega
     go_wp2
     go_quiet (fail)
     go_wp2
     go_quiet (fail)
     go_wp2_with (first | (at_builtin;have _t:=OW2;go_must ((refine wpList_append_rd rfl _ _ _ rfl wo.heap.size 3 i0 _ 1 8 Tryz.underlying25 hi0 hz0 hz1 hz2 rfl (by omega) q2 (j+1) c2 _ rfl OW2.out (cutp q cq j 1) (m - j) (cq - j) (encI (o.drop j)) rfl (RC.out _ BW3.out) (one_encI _) (by omega) (by omega) (by exact Nat.le_trans Z1.out (Nat.le_trans BS2.out (Nat.le_trans (Nat.le_succ _) BS3.out))) ?_;intro q3 c3 w4 own3 hg3 hat3 hl3;have BW4:=Lib.hid (Below.trans BW3.out hl3);have OW3:=Lib.hid own3;clear own3 hg3 hat3 hl3))) | (at_builtin;have _t:=OW1;go_must ((refine wpList_append_rd rfl _ _ _ rfl wo.heap.size 3 i0 _ 1 8 Tryz.underlying25 hi0 hz0 hz1 hz2 rfl (by omega) q1 j c1 _ rfl (World.ownsRow.alloc OW1.out _) _ 1 1 _ rfl (Rd.oneI w2 _ (nth l k)) (one_encI _) (by omega) (by omega) (by rw [World.size_alloc];exact Nat.le_succ_of_le (Nat.le_trans Z1.out BS2.out)) ?_;intro q2 c2 w3 own2 hg2 hat2 hl2;have BW3:=Lib.hid (Below.trans (Ext.alloc BW2.out _) hl2);have BS3:=Lib.hid (by have:=hl2.size;rwa [World.size_alloc] at this);have OW2:=Lib.hid own2;clear own2 hg2 hat2 hl2))) | (at_builtin;go_must ((refine wpList_append_rd rfl _ _ _ rfl wo.heap.size 3 i0 _ 1 8 Tryz.underlying25 hi0 hz0 hz1 hz2 rfl (by omega) none 0 0 [] rfl (World.ownsRow_nil _ _ _ _) q j cq (encI (o.take j)) rfl (RA.out _ (BW.out _)) (one_encI _) (by omega) (by omega) (by exact Z1.out) ?_;intro q1 c1 w2 own1 hg1 hat1 hl1;have g1':=Ext.cell (Below.trans (BW.out _) hl1) g1;have BW2:=Lib.hid (Below.trans (BW.out _) hl1);have BS2:=Lib.hid hl1.size;simp only [Nat.zero_add,List.nil_append] at own1;have OW1:=Lib.hid own1;clear own1 hg1 hat1 hl1))))
     go_roundw
     case rel=>exact⟨k+1,_,q3,_,c3,by omega,by go_num,rfl,rfl,by rw [foldl_take_succ _ _ _ _ (by rw [← L1.out];exact hlt),← HO.out,HF.out,List.length_append,List.length_append,List.length_take,List.length_drop];have hm9:=HM.out;simp only [List.length_cons,List.length_nil];omega,by rw [foldl_take_succ _ _ _ _ (by rw [← L1.out];exact hlt),← HO.out,HF.out];have:=own_base OW3.out (b:=w.heap.size) HB.out.size;simpa [encI_append,encI] using this,Ext.trans HB.out BW4.out⟩
     case measure=>simp [intOf];omega
  ·go_wp2
   go_ret
   have hkn:l.take k=l:=List.take_of_length_le (by rw [← L1.out];omega)
   have:=HO.out
   rw [hkn] at this
   exact⟨q,m,cq,rfl,by unfold putAll;rw [← this];exact HM.out,by unfold putAll;rw [← this];exact HOWN.out,HB.out⟩
end
section
open Go Go.RowKit Go.Shelf Go.Lib Go.Sort
theorem setMany_list (xs Z:List Value) (o:Nat) (h:o+Z.length≤xs.length):setMany xs.toArray o Z=(xs.take o ++ Z ++ xs.drop (o+Z.length)).toArray:=by
 apply ext_get!
 ·simp;omega
 ·intro t ht
  have ht':t<xs.length:=by simpa using ht
  rw [get_setMany _ _ _ _ (by simpa using ht)]
  have hlen:(xs.take o ++ Z ++ xs.drop (o+Z.length)).length=xs.length:=by simp;omega
  rw [getElem!_pos (xs.take o ++ Z ++ xs.drop (o+Z.length)).toArray t (by simp only [List.size_toArray];omega)]
  simp only [List.getElem_toArray]
  by_cases h1:o≤t∧t<o+Z.length
  ·rw [if_pos h1,List.getElem_append_left (by simp;omega),List.getElem_append_right (by simp;omega)]
   rw [getElem!_pos Z _ (by omega)]
   congr 1
   simp;omega
  ·rw [if_neg h1,getElem!_pos xs.toArray t (by simpa using ht')]
   simp only [List.getElem_toArray]
   by_cases h2:t<o
   ·rw [List.getElem_append_left (by simp;omega),List.getElem_append_left (by simp;omega)]
    simp
   ·rw [List.getElem_append_right (by simp;omega)]
    simp only [List.getElem_drop]
    congr 1
    simp;omega
theorem own_holds {w:World} {base:Nat} {e:TypeId} {size n c g:Nat} {xs:List Value} (ho:w.ownsRow base e size (.slice (some ⟨g,0,none⟩) n c) n xs) (hs:n≤1000000):Holds id w g 0 xs.toArray:=by
 intro j hj
 have r:=Rd.of_own ho (by omega)
 have hl:=r.len
 have hc:=r.cells j (by simp at hj;omega)
 rw [adr_some] at hc
 refine⟨?_,own_free ho _⟩
 rw [hc,getElem!_pos _ j hj,List.getD_eq_getElem?_getD,List.getElem?_eq_getElem (by simpa using hj)];rfl
theorem own_setCells {w:World} {base:Nat} {e:TypeId} {size n c g:Nat} {xs:List Value} (ho:w.ownsRow base e size (.slice (some ⟨g,0,none⟩) n c) n xs) (hs:n≤1000000) (o:Nat) (Z:List Value) (h:o+Z.length≤n*size) :
  (w.setCells g o Z).ownsRow base e size (.slice (some ⟨g,0,none⟩) n c) n (xs.take o ++ Z ++ xs.drop (o+Z.length))∧w.grownBy (w.setCells g o Z) (some g):=by
 have hl:=ho.1
 have h1:=putRow_self id w g 0 xs.toArray (own_holds ho hs)
 have h2:=setCells_putRow w g 0 Z o xs.toArray (by simp;omega)
 rw [h1,Nat.zero_add,setMany_list xs Z o (by omega)] at h2
 have h3:=own_put ho (ys:=xs.take o ++ Z ++ xs.drop (o+Z.length)) (by simp;omega) 0 #[]
 rw [grow_empty] at h3
 rw [h2]
 exact h3
theorem encE_set (l:List (Int × Int)) (k:Nat) (x:Int × Int) (h:k<l.length):(encE l).take (k*2) ++ [.int .i64 x.1,.int .i64 x.2] ++ (encE l).drop (k*2+2)=encE (l.set k x):=by
 rw [encE_take,show k*2+2=(k+1)*2 from by omega,encE_drop,List.set_eq_take_append_cons_drop,if_pos h]
 simp [encE]
theorem run_clear_E (w:World) (g o n c:Nat) (hn:0<n) (hc:∀ j,j<n*2→(w.cell? ⟨g,o+j,none⟩).isSome=true) (hf:∀ j,j<n*2→w.frozen? ⟨g,o+j,none⟩=false) (ty:TypeId) :
  (Builtin.clear_ #[99] ty #[.slice (some ⟨g,o,none⟩) n c]).run Tryz.prog w=.ok (.tuple #[]) (w.setCells g o (Builtin.zeroCells #[.int .i64 0,.int .i64 0] n).toList):=by
 have hv:∀ w,(zeroValue 98).run Tryz.prog w=.ok (.agg #[.int .i64 0,.int .i64 0]) w:=fun w=>by kernel_rfl
 have hsz:(Builtin.zeroCells #[.int .i64 0,.int .i64 0] n).toList.length=n*2:=by simp [Builtin.zeroCells]
 have h1:∀ v∈(Builtin.zeroCells #[.int .i64 0,.int .i64 0] n).toList,v.oneCell'=true:=by
  intro v hv
  simp only [Builtin.zeroCells,Array.toList_map,List.mem_map] at hv
  obtain⟨i,_,rfl⟩:=hv
  rcases Nat.mod_two_eq_zero_or_one i with h | h <;> simp [h,Value.oneCell']
 have hst:=run_storeCells_cells (P:=Tryz.prog) g o (Builtin.zeroCells #[.int .i64 0,.int .i64 0] n).toList 0 w (by rw [hsz];simpa using hc) (by rw [hsz];simpa using hf) h1
 simp only [Nat.add_zero] at hst
 obtain⟨m,rfl⟩:∃ m,n=m+1:=⟨n - 1,by omega⟩
 simp only [Builtin.clear_]
 simp [run_underlying Tryz.underlying99,hv,Value.cells,hst]
end
section
open Go Go.RowKit Go.Shelf Go.Lib Go.Sort
attribute [local go_sem ↓] eqEdge neqEdge guardEdge
theorem grown_of_ext {w w':World} (h:Ext w w') (row:Option Nat):w.grownBy w' row:=⟨h.os,h.tape,h.output,h.size,fun k hk _=>h.block k hk⟩
theorem grown_trans {a b c:World} {g:Nat} (h:a.grownBy b (some g)) (k:b.grownBy c (some g)):a.grownBy c (some g) :=
 ⟨k.os.trans h.os,k.tape.trans h.tape,k.output.trans h.output,Nat.le_trans h.size k.size,fun i hi hne=>(k.block i (Nat.lt_of_lt_of_le hi h.size) hne).trans (h.block i hi hne)⟩
theorem dedup_small {α:Type} [DecidableEq α] [Inhabited α] (l:List α) (h:l.length<2):dedup l=l:=by
 unfold dedup
 rw [compactUpTo_all _ _ (fun j hj=>keeps_lt_one l.toArray j (by omega))]
 have:=range_map_get l.toArray
 simpa using this
theorem get_nth {α:Type} [Inhabited α] (l:List α) (j:Nat) (h:j<l.length):l.toArray[j]! = nth l j:=by
 rw [getElem!_pos _ j (by simpa using h),nth_eq h];simp
theorem nth_drop {α:Type} [Inhabited α] (l:List α) (k j:Nat):nth (l.drop k) j=nth l (k+j):=by
 simp [nth,List.getD_eq_getElem?_getD,List.getElem?_drop]
theorem CompactE0 (q:Option Addr) (n c:Nat) (w:World) (h:n<2):Calls Tryz.prog 259 #[.slice q n c] w fun e w'=>e=.returned (.slice q n c)∧w'=w:=by
 go_enter Tryz.func259,Tryz.ntmps259
 go_wp2
 go_ret
 exact⟨rfl,rfl⟩
theorem adr_ne (q:Option Addr) {i j:Nat} (h:i≠j):adr q i≠adr q j:=by
 intro e;unfold adr at e;injection e with _ e;omega
theorem own_set2 {w : World} {base g n c k : Nat} {q : Option Addr} {dk : List (Int × Int)} (hq : q = some ⟨g, 0, none⟩) (ho : w.ownsRow base 98 2 (.slice q n c) n (encE dk)) (hn : n ≤ 100000) (hk : k < n) (hd : dk.length = n) (x : Int × Int) :
    ((w.setCell (adr q (k * 2)) (.int .i64 x.1)).setCell ⟨(adr q (k * 2)).block, (adr q (k * 2)).off + 1, none⟩ (.int .i64 x.2)).ownsRow base 98 2 (.slice q n c) n (encE (dk.set k x)) ∧
      w.grownBy ((w.setCell (adr q (k * 2)) (.int .i64 x.1)).setCell ⟨(adr q (k * 2)).block, (adr q (k * 2)).off + 1, none⟩ (.int .i64 x.2)) (blkOf q) := by
  subst hq
  have h := own_setCells ho (by omega) (k * 2) [.int .i64 x.1, .int .i64 x.2] (by simp; omega)
  simp only [List.length_cons, List.length_nil] at h
  rw [show k * 2 + (0 + 1 + 1) = k * 2 + 2 from rfl, encE_set dk k x (by omega)] at h
  have e : w.setCells g (k * 2) [.int .i64 x.1, .int .i64 x.2] = (w.setCell (adr (some ⟨g, 0, none⟩) (k * 2)) (.int .i64 x.1)).setCell ⟨(adr (some ⟨g, 0, none⟩) (k * 2)).block, (adr (some ⟨g, 0, none⟩) (k * 2)).off + 1, none⟩ (.int .i64 x.2) := by
    rw [adr_some, Nat.zero_add]; rfl
  rw [e] at h
  exact h
theorem ret_slice {p:Option Addr} {n m c:Nat} (h:n=m):Ending.returned (.slice p n c)=.returned (.slice p m c):=by rw [h]
theorem clear_own {w:World} {base g n c k:Nat} {q:Option Addr} {dk:List (Int × Int)} (hq:q=some ⟨g,0,none⟩) (ho:w.ownsRow base 98 2 (.slice q n c) n (encE dk)) (hn:n≤100000) (hk:k<n) (hd:dk.length=n) :
  ∃ W',(∀ ty,(Builtin.clear_ #[99] ty #[.slice (cutp q c k 2) (n - k) (c - k)]).run Tryz.prog w=.ok (.tuple #[]) W')∧W'.ownsRow base 98 2 (.slice q k c) k (encE (dk.take k))∧w.grownBy W' (blkOf q):=by
 subst hq
 have hcap:=own_cap ho
 have hcut:cutp (some ⟨g,0,none⟩) c k 2=some ⟨g,k*2,none⟩:=by unfold cutp;rw [if_neg (by omega)];simp [Addr.add_lit]
 have r:=Rd.of_own ho (by omega)
 have hc:=run_clear_E w g (k*2) (n - k) (c - k) (by omega) (fun j hj=>by have:=r.cells (k*2+j) (by omega);rw [adr_some,Nat.zero_add] at this;rw [this];rfl) (fun j _=>own_free ho _)
 have hz:(Builtin.zeroCells #[.int .i64 0,.int .i64 0] (n - k)).toList.length=(n - k)*2:=by simp [Builtin.zeroCells]
 have h:=own_setCells ho (by omega) (k*2) (Builtin.zeroCells #[.int .i64 0,.int .i64 0] (n - k)).toList (by rw [hz];omega)
 refine⟨_,fun ty=>by rw [hcut];exact hc ty,?_,h.2⟩
 have h1:=h.1
 rw [List.append_assoc,encE_take] at h1
 exact own_take h1 (by rw [encE_len,List.length_take];omega) (by omega)
theorem CompactE2 (base g n c:Nat) (l:List (Int × Int)) (w:World) (ho:w.ownsRow base 98 2 (.slice (some ⟨g,0,none⟩) n c) n (encE l)) (hn:n≤100000) (h2:¬ n<2) :
  Calls Tryz.prog 259 #[.slice (some ⟨g,0,none⟩) n c] w fun e w'=>e=.returned (.slice (some ⟨g,0,none⟩) (dedup l).length c)∧w'.ownsRow base 98 2 (.slice (some ⟨g,0,none⟩) (dedup l).length c) (dedup l).length (encE (dedup l))∧w.grownBy w' (some g):=by
 have hl:n=l.length:=by have:=ho.1;rw [encE_len] at this;omega
 have hcap:=own_cap ho
 obtain⟨q,hq⟩:∃ q,q=(some ⟨g,0,none⟩:Option Addr):=⟨_,rfl⟩
 rw [← hq] at ho ⊢
 have p1:SlP q n:=by rw [hq];exact .inr ⟨_,_,rfl⟩
 have HQ:=Lib.hid hq;clear hq
 have HL:=Lib.hid hl;clear hl
 have HO:=Lib.hid ho;clear ho
 have FIN:Hid ((∀ j,j<n→keeps l.toArray j=true)→dedup l=l):=by
  intro hall
  unfold dedup
  rw [compactUpTo_all _ _ (fun j hj=>hall j (by rw [HL.out];exact hj))]
  have:=range_map_get l.toArray
  simpa using this
 go_enter Tryz.func259,Tryz.ntmps259
 go_wp2
 go_loopw [3,4,5] (fun i _ _ wr=>∃ k:Nat,1≤k∧k≤n∧i=.int .i64 k∧(∀ j,j<k→keeps l.toArray j=true)∧Ext w wr) (fun i _ _ _=>n - (intOf i).toNat)
 case atStart=>exact⟨1,Nat.le_refl _,by omega,rfl,keeps_lt_one _,Below.refl _ _⟩
 case round =>
  obtain⟨k,hk1,hk,rfl,hall,hb⟩:=hrel
  have HA:=Lib.hid hall;clear hall
  have HB:=Lib.hid hb;clear hb
  have OW:=Lib.hid (HB.out.own HO.out)
  by_cases hlt:k<n
  ·have R:=Lib.hid (Rd.of_own OW.out (by omega))
   have g1:=R.out.cE hlt
   have g2:=R.out.cE2 hlt
   have g3:=R.out.cE (k:=k - 1) (by omega)
   have g4:=R.out.cE2 (k:=k - 1) (by omega)
   have d1:(0:Int)≤k:=by omega
   have d2:(k:Int)<n:=by omega
   have d3:(0:Int)≤(k:Int) - 1:=by omega
   have d4:(1:Int)≤(k:Int):=by omega
   have d5:(k:Int) - 1<n:=by omega
   have d6:((k:Int) - 1).toNat=k - 1:=by omega
   have A1:Hid (l.toArray[k]! = nth l k):=get_nth l k (by rw [← HL.out];exact hlt)
   have A2:Hid (l.toArray[k - 1]! = nth l (k - 1)):=get_nth l (k - 1) (by rw [← HL.out];omega)
   by_cases hdup:nth l k=nth l (k - 1)
   ·have hq1:eqE (nth l k) (nth l (k - 1))=true:=by simp [eqE,hdup]
    have HI0:Hid (CompInv l.toArray (k+1) k l.toArray):=CompInv.start HA.out (keeps_neg (by omega) (by rw [A1.out,A2.out];exact hdup))
    clear hdup
    go_wp2
    go_quiet (fail)
    go_wp2
    clear g1 g2 g3 g4
    obtain⟨wo,hwo⟩:∃ wo:World,wo=wr.drewN nq:=⟨_,rfl⟩
    rw [← hwo]
    have OW2:Hid (wo.ownsRow base 98 2 (.slice q n c) n (encE l)):=by rw [hwo];exact((Ext.refl wr).drewN nq).own OW.out
    have GR:Hid (w.grownBy wo (blkOf q)):=by rw [hwo];exact grown_of_ext (HB.out.drewN nq) _
    clear hwo OW R HB
    go_loopw [3,5] (fun i i2 wr=>∃ (kk k2:Nat) (dk:List (Int × Int)),i=.int .i64 kk∧i2=.int .i64 k2∧1≤k2∧k+k2≤n∧CompInv l.toArray (k+k2) kk dk.toArray∧wr.ownsRow base 98 2 (.slice q n c) n (encE dk)∧w.grownBy wr (blkOf q)) (fun _ i2 _=>n - (intOf i2).toNat)
    case atStart=>exact⟨k,1,l,rfl,rfl,Nat.le_refl _,by omega,HI0.out,OW2.out,GR.out⟩
    case round =>
     clear OW2 GR HI0
     obtain⟨kk,k2,dk,rfl,rfl,h1,hle,hI,OW,GR⟩:=hrel
     have hkk:=hI.lt
     have hds:dk.length=n:=by have:=hI.size;simp at this;rw [this,HL.out]
     have HI:=Lib.hid hI;clear hI
     have OW0:=Lib.hid OW;clear OW
     have GR0:=Lib.hid GR;clear GR
     have HD:=Lib.hid hds;clear hds
     have R:=Lib.hid (Rd.of_own OW0.out (by omega))
     have hkle:kk<n:=by omega
     by_cases hlt2:k+k2<n
     ·have RC:Rd wr 2 (cutp q c k 2) (n - k) (encE (dk.drop k)):=by
       have:=R.out.cut hk (Nat.le_refl n) hcap
       rwa [encE_drop,List.take_of_length_le (by rw [encE_len,List.length_drop,HD.out];omega)] at this
      have p5:=RC.ptr
      have RC0:=Lib.hid RC;clear RC
      have g1:=RC0.out.cE (k:=k2) (by omega)
      have g2:=RC0.out.cE2 (k:=k2) (by omega)
      have g3:=RC0.out.cE (k:=k2 - 1) (by omega)
      have g4:=RC0.out.cE2 (k:=k2 - 1) (by omega)
      have s1:=R.out.cE hkle
      have s2:=R.out.cE2 hkle
      have s3:wr.frozen? (adr q (kk*2))=false:=by have:=own_free (by have:=OW0.out;rwa [HQ.out] at this) (kk*2);rw [HQ.out,adr_some,Nat.zero_add];exact this
      have s4:wr.frozen? (adr q (kk*2+1))=false:=by have:=own_free (by have:=OW0.out;rwa [HQ.out] at this) (kk*2+1);rw [HQ.out,adr_some,Nat.zero_add];exact this
      have s5:adr q (kk*2)≠adr q (kk*2+1):=adr_ne q (by omega)
      have s6:adr q (kk*2+1)≠adr q (kk*2):=adr_ne q (by omega)
      have s7:wr.cell? ⟨(adr q (kk*2)).block,(adr q (kk*2)).off+1,none⟩=some (.int .i64 (nth dk kk).2):=s2
      have s8:wr.frozen? ⟨(adr q (kk*2)).block,(adr q (kk*2)).off+1,none⟩=false:=s4
      have s9:adr q (kk*2)≠⟨(adr q (kk*2)).block,(adr q (kk*2)).off+1,none⟩:=s5
      have e1:nth (dk.drop k) k2=nth l (k+k2):=by rw [nth_drop,← get_nth dk _ (by rw [HD.out];exact hlt2),HI.out.high _ (by omega),get_nth l _ (by rw [← HL.out];exact hlt2)]
      have e2:nth (dk.drop k) (k2 - 1)=nth l (k+k2 - 1):=by rw [nth_drop,show k+(k2 - 1)=k+k2 - 1 from by omega,← get_nth dk _ (by rw [HD.out];omega),HI.out.high _ (by omega),get_nth l _ (by rw [← HL.out];omega)]
      rw [e1] at g1 g2
      rw [e2] at g3 g4
      have B1:Hid (l.toArray[k+k2]! = nth l (k+k2)):=get_nth l _ (by rw [← HL.out];exact hlt2)
      have B2:Hid (l.toArray[k+k2 - 1]! = nth l (k+k2 - 1)):=get_nth l _ (by rw [← HL.out];omega)
      clear e1 e2
      have c1:(0:Int)≤k2:=by omega
      have c2:(k2:Int)<(n - k:Nat):=by omega
      have c3:(0:Int)≤(k2:Int) - 1:=by omega
      have c4:(1:Int)≤(k2:Int):=by omega
      have c5:(k2:Int) - 1<(n - k:Nat):=by omega
      have c6:((k2:Int) - 1).toNat=k2 - 1:=by omega
      have c7:k2<n - k:=by omega
      generalize hu:nth l (k+k2)=u at g1 g2 B1
      generalize hv:nth l (k+k2 - 1)=v at g3 g4 B2
      clear hu hv
      by_cases huv:u=v
      ·have hq2:eqE u v=true:=by simp [eqE,huv]
       have HUV:=Lib.hid huv;clear huv
       go_wp2
       go_quiet (fail)
       go_wp2
       go_roundw
       case rel=>exact⟨kk,k2+1,dk,rfl,by go_num,by omega,by omega,HI.out.skip (keeps_neg (by omega) (by rw [B1.out,B2.out];exact HUV.out)),((Ext.refl wr).drewN _).own OW0.out,by have:=grown_trans (g:=g) (by have:=GR0.out;rwa [HQ.out] at this) (grown_of_ext ((Ext.refl wr).drewN nq) (some g));rw [HQ.out];exact this⟩
       case measure=>simp [intOf];omega
      ·have hq2:eqE u v=false:=by simp [eqE,huv]
       have HUV:=Lib.hid huv;clear huv
       go_wp2
       go_quiet (fail)
       go_wp2
       have OS:=Lib.hid (own_set2 HQ.out (((Ext.refl wr).drewN nq).own OW0.out) hn hkle HD.out u)
       go_roundw
       case rel=>exact⟨kk+1,k2+1,dk.set kk u,by go_num,by go_num,by omega,by omega,by have:=HI.out.keep (by have:=HL.out;simp;omega) (keeps_pos (by rw [B1.out,B2.out];exact HUV.out));rw [B1.out] at this;rw [← Nat.add_assoc];simpa using this,OS.out.1,by have h1:=grown_trans (g:=g) (by have:=GR0.out;rwa [HQ.out] at this) (grown_of_ext ((Ext.refl wr).drewN nq) (some g));have h2:=OS.out.2;rw [HQ.out] at h2 ⊢;exact grown_trans h1 h2⟩
       case measure=>simp [intOf];omega
     ·have hend:k+k2=n:=by omega
      obtain⟨W',hcl,hown,hgr⟩:=clear_own HQ.out OW0.out hn hkle HD.out
      have hcl2:∀ ty,(Builtin.clear_ #[99] ty #[.slice (Option.map (fun x=>x.add (kk*2)) q) (n - kk) (c - kk)]).run Tryz.prog wr=.ok (.tuple #[]) W':=fun ty=>by have:=hcl ty;unfold cutp at this;rw [if_neg (by omega)] at this;exact this
      have HOW:=Lib.hid hown;clear hown
      have HGR:=Lib.hid hgr;clear hgr
      have HDD:Hid (dk.take kk=dedup l∧(dedup l).length=kk):=by
       have hI:=HI.out
       rw [hend] at hI
       have e1:compactUpTo l.toArray n=dedup l:=by unfold dedup;rw [HL.out]
       have e2:=hI.len
       have e3:=hI.low
       rw [e1] at e2 e3
       refine⟨?_,e2⟩
       apply List.ext_getElem?
       intro i
       rw [List.getElem?_take]
       by_cases hi:i<kk
       ·rw [if_pos hi,e3 i hi,getElem!_pos _ i (by simp;rw [HD.out];omega)]
        rw [List.getElem?_eq_getElem (by rw [HD.out];omega)];simp
       ·rw [if_neg hi,List.getElem?_eq_none (by omega)]
      clear hend
      go_wp2
      go_ret
      exact⟨ret_slice HDD.out.2.symm,by rw [HDD.out.2,← HDD.out.1];exact HOW.out,by have h1:=GR0.out;have h2:=HGR.out;rw [HQ.out] at h1 h2;exact grown_trans h1 h2⟩
   ·have hq1:eqE (nth l k) (nth l (k - 1))=false:=by simp [eqE,hdup]
    have HK:=Lib.hid (keeps_pos (d:=l.toArray) (m:=k) (by rw [A1.out,A2.out];exact hdup))
    clear hdup
    go_wp2
    go_quiet (fail)
    go_wp2
    go_roundw
    case rel=>exact⟨k+1,by omega,by omega,by go_num,fun j hj=>by
     by_cases e:j=k
     ·subst e;exact HK.out
     ·exact HA.out j (by omega),HB.out.drewN _⟩
    case measure=>simp [intOf];omega
  ·have hkn:k=n:=by omega
   subst hkn
   have HF:=Lib.hid (FIN.out HA.out)
   go_wp2
   go_ret
   exact⟨ret_slice (by rw [HF.out];exact HL.out),by rw [HF.out,← HL.out];exact OW.out,by have:=grown_of_ext HB.out (some g);exact this⟩
theorem CompactE (base:Nat) (q:Option Addr) (n c:Nat) (l:List (Int × Int)) (w:World) (ho:w.ownsRow base 98 2 (.slice q n c) n (encE l)) (hn:n≤100000) (hb:base≤w.heap.size) :
  Calls Tryz.prog 259 #[.slice q n c] w fun e w'=>e=.returned (.slice q (dedup l).length c)∧w'.ownsRow base 98 2 (.slice q (dedup l).length c) (dedup l).length (encE (dedup l))∧w.grownBy w' (blkOf q)∧Below base w w':=by
 have hl:n=l.length:=by have:=ho.1;rw [encE_len] at this;omega
 by_cases h2:n<2
 ·refine(CompactE0 q n c w h2).mono ?_
  rintro e w' ⟨he,rfl⟩
  rw [dedup_small l (by omega),← hl]
  exact⟨he,ho,World.grownBy.refl _ _,Below.refl _ _⟩
 ·obtain⟨g,hq,hg⟩:=own_block ho (by omega)
  subst hq
  exact(CompactE2 base g n c l w ho hn h2).mono fun e w' ⟨a,b,d⟩=>⟨a,b,d,Below.grown (Below.refl _ _) d hb (fun k hk=>(ho.lt k hk).1)⟩
end
section
open Go Go.RowKit
structure OwnW (w:World) (base:Nat) (q:Option Addr) (n c:Nat) (hs:List Hd) (wss:List (List ByteArray)):Prop where
 hn:hs.length=wss.length
 row:w.ownsRow base 22 1 (.slice q n c) n (encH hs)
 each:∀ j,j<n→w.ownsRow base 9 1 (.slice (nth hs j).p (nth hs j).n (nth hs j).c) (nth hs j).n (encS (nth wss j))
section
variable {w w':World} {base:Nat} {q:Option Addr} {n c:Nat} {hs:List Hd} {wss:List (List ByteArray)}
theorem OwnW.nil (w:World) (base:Nat):OwnW w base none 0 0 [] []:=⟨rfl,World.ownsRow_nil _ _ _ _,fun j hj=>by omega⟩
theorem OwnW.len (h:OwnW w base q n c hs wss):n=wss.length:=by
 have:=h.row.1;rw [encH_len,h.hn] at this;omega
theorem OwnW.ext (h:OwnW w base q n c hs wss) (he:Ext w w'):OwnW w' base q n c hs wss:=⟨h.hn,he.own h.row,fun j hj=>he.own (h.each j hj)⟩
theorem OwnW.set_ (h:OwnW w base q n c hs wss) {g:Nat} {t:TypeId} {cs:Array Value} (hg:Blk w g t cs) (h1:22≠t) (h2:9≠t) (i:Nat) (u:Value):OwnW (w.setCell ⟨g,i,none⟩ u) base q n c hs wss :=
 ⟨h.hn,own_set h.row hg h1 i u,fun j hj=>own_set (h.each j hj) hg h2 i u⟩
theorem nth_append_left {α:Type} [Inhabited α] (l m:List α) (j:Nat) (h:j<l.length):nth (l ++ m) j=nth l j:=by
 rw [nth_eq (by simp;omega),nth_eq h,List.getElem_append_left h]
theorem nth_append_new {α:Type} [Inhabited α] (l:List α) (x:α):nth (l ++ [x]) l.length=x:=by
 rw [nth_eq (by simp)];simp
theorem OwnW.push (h:OwnW w base q n c hs wss) {p:Option Addr} {m d:Nat} {l:List ByteArray} (hr:w.ownsRow base 9 1 (.slice p m d) m (encS l)) {q':Option Addr} {c':Nat}
  (ho:w'.ownsRow base 22 1 (.slice q' (n+1) c') (n+1) (encH hs ++ [.slice p m d])) (hg:w.grownBy w' (blkOf q)):OwnW w' base q' (n+1) c' (hs ++ [⟨p,m,d⟩]) (wss ++ [l]):=by
 have hl:=h.len
 refine⟨by simp [h.hn],by rw [show encH (hs ++ [⟨p,m,d⟩])=encH hs ++ [.slice p m d] from by simp [encH,Hd.v]];exact ho,fun j hj=>?_⟩
 by_cases hjn:j<n
 ·rw [nth_append_left _ _ _ (by rw [h.hn];omega),nth_append_left _ _ _ (by omega)]
  exact own_grown (h.each j hjn) hg (own_own_ne h.row (h.each j hjn) (by decide))
 ·have e1:j=wss.length:=by omega
  have e2:j=hs.length:=by rw [h.hn];exact e1
  have a1:nth (wss ++ [l]) j=l:=by rw [e1];exact nth_append_new _ _
  have a2:nth (hs ++ [(⟨p,m,d⟩:Hd)]) j=⟨p,m,d⟩:=by rw [e2];exact nth_append_new _ _
  rw [a1,a2]
  exact own_grown hr hg (own_own_ne h.row hr (by decide))
theorem OwnW.rd (h:OwnW w base q n c hs wss) (hs1:n≤9223372036854775807) (hs2:∀ l∈wss,l.length≤9223372036854775807):RdW w q n hs wss:=by
 refine⟨h.hn,Rd.of_own h.row hs1,fun j hj=>Rd.of_own (h.each j hj) ?_⟩
 have:=(h.each j hj).1
 rw [encS_len,Nat.mul_one] at this
 rw [← this]
 have hl:=h.len
 exact hs2 _ (by rw [nth_eq (by omega)];exact List.getElem_mem _)
end
end
section
open Go Go.RowKit
attribute [local go_sem ↓] eqEdge neqEdge guardEdge
theorem inf34:(Tryz.prog.info? 98).map (fun i=>(i.zero,i.size,i.bytes))=some (some (.agg #[.int .i64 0,.int .i64 0]),2,16):=by kernel_rfl
end
section
open Go Go.RowKit Go.Shelf Go.Lib Go.Sort
theorem CloneE (p:Option Addr) (n c:Nat) (l:List (Int × Int)) (w:World) (hl:Rd w 2 p n (encE l)) (hn:n≤100000) :
  Calls Tryz.prog 174 #[.slice p n c] w fun e w'=>∃ q c',e=.returned (.slice q n c')∧w'.ownsRow w.heap.size 98 2 (.slice q n c') n (encE l)∧Ext w w':=by
 obtain⟨i0,hi0,hz0,hz1,hz2⟩:=info_parts inf34
 have hp:=hl.ptr
 cases p with
 | none =>
  have h0:n=0:=by rcases hp with h | ⟨_,_,h⟩;exact h;cases h
  subst h0
  have hnil:encE l=[]:=List.eq_nil_of_length_eq_zero (by have:=hl.len;simpa using this)
  rw [hnil]
  clear hl hp hnil
  have hr:=fun W=>Lib.run_eql_slice_nil (P:=Tryz.prog) W 99 98 none 0 c 0 0 Tryz.underlying99
  go_enter Tryz.func174,Tryz.ntmps174
  go_wp2
  go_ret
  exact⟨none,0,rfl,World.ownsRow_nil _ _ _ _,Below.refl _ _⟩
 | some ad =>
  have hr:=fun W=>Lib.run_eql_slice_nil (P:=Tryz.prog) W 99 98 (some ad) n c 0 0 Tryz.underlying99
  have HL:=Lib.hid hl;clear hl hp
  go_enter Tryz.func174,Tryz.ntmps174
  go_wp2_with (at_builtin;refine wpList_append_rd rfl _ _ _ rfl w.heap.size 98 i0 _ 2 16 Tryz.underlying99 hi0 hz0 hz1 hz2 rfl (by omega) (some ⟨w.heap.size,0,none⟩) 0 0 [] rfl (World.ownsRow_made w #[] 0 (Nat.le_refl _) (by simp [maxLen]) rfl) (some ad) n c (encE l) rfl (HL.out.ext (Ext.alloc (Below.refl _ _) _)) (one_encE l) (by omega) (by omega) (by simp) ?_;intro q' c' w1 hown hg hat hb)
  go_ret
  simp only [Nat.zero_add,List.nil_append] at hown
  exact⟨q',c',rfl,hown,Below.trans ((Below.refl _ _).alloc (Nat.le_refl _) _) hb⟩
theorem CloneS (p:Option Addr) (n c:Nat) (l:List ByteArray) (w:World) (hl:Rd w 1 p n (encS l)) (hn:n≤100000) :
  Calls Tryz.prog 260 #[.slice p n c] w fun e w'=>∃ q c',e=.returned (.slice q n c')∧w'.ownsRow w.heap.size 9 1 (.slice q n c') n (encS l)∧Ext w w':=by
 obtain⟨i0,hi0,hz0,hz1,hz2⟩:=info_parts inf9
 have hp:=hl.ptr
 cases p with
 | none =>
  have h0:n=0:=by rcases hp with h | ⟨_,_,h⟩;exact h;cases h
  subst h0
  have hnil:encS l=[]:=List.eq_nil_of_length_eq_zero (by have:=hl.len;simpa using this)
  rw [hnil]
  clear hl hp hnil
  have hr:=fun W=>Lib.run_eql_slice_nil (P:=Tryz.prog) W 22 9 none 0 c 0 0 Tryz.underlying22
  go_enter Tryz.func260,Tryz.ntmps260
  go_wp2
  go_ret
  exact⟨none,0,rfl,World.ownsRow_nil _ _ _ _,Below.refl _ _⟩
 | some ad =>
  have hr:=fun W=>Lib.run_eql_slice_nil (P:=Tryz.prog) W 22 9 (some ad) n c 0 0 Tryz.underlying22
  have HL:=Lib.hid hl;clear hl hp
  go_enter Tryz.func260,Tryz.ntmps260
  go_wp2_with (at_builtin;refine wpList_append_rd rfl _ _ _ rfl w.heap.size 9 i0 _ 1 16 Tryz.underlying22 hi0 hz0 hz1 hz2 rfl (by omega) (some ⟨w.heap.size,0,none⟩) 0 0 [] rfl (World.ownsRow_made w #[] 0 (Nat.le_refl _) (by simp [maxLen]) rfl) (some ad) n c (encS l) rfl (HL.out.ext (Ext.alloc (Below.refl _ _) _)) (one_encS l) (by omega) (by omega) (by simp) ?_;intro q' c' w1 hown hg hat hb)
  go_ret
  simp only [Nat.zero_add,List.nil_append] at hown
  exact⟨q',c',rfl,hown,Below.trans ((Below.refl _ _).alloc (Nat.le_refl _) _) hb⟩
theorem OnceE (p:Option Addr) (n c:Nat) (l:List (Int × Int)) (w:World) (hl:Rd w 2 p n (encE l)) (hn:n≤100000) :
  Calls Tryz.prog 225 #[.slice p n c,.agg #[.func (.func 223) #[] #[]]] w fun e w'=>∃ q c',e=.returned (.slice q (dedup (sortBy lessE l)).length c')∧w'.ownsRow w.heap.size 98 2 (.slice q (dedup (sortBy lessE l)).length c') (dedup (sortBy lessE l)).length (encE (dedup (sortBy lessE l)))∧Ext w w':=by
 have HL:=Lib.hid hl;clear hl
 go_enter Tryz.func225,Tryz.ntmps225
 go_wp2_with (first
  | (go_at_call 174;go_must ((refine(CloneE p n c l _ (HL.out.ext (Ext.alloc (Below.refl _ _) _)) hn).mono ?_;rintro e w1 ⟨q,c1,rfl,own,hb1⟩;have O1:=Lib.hid own;have B1:=Lib.hid hb1;have x0:=Ext.cell hb1 (cellnew0 _ _ _ _);clear own hb1)))
  | (go_at_call 258;have _t:=O1;go_must ((refine(SortE _ q n c1 l _ O1.out (Nat.le_trans hn (by omega)) B1.out.size).mono ?_;rintro e w2 ⟨rfl,own,hgr,hb2⟩;have O2:=Lib.hid own;have B2:=Lib.hid hb2;clear own hgr hb2)))
  | (go_at_call 259;have _t:=O2;go_must ((refine(CompactE _ q n c1 _ _ O2.out hn (Nat.le_trans B1.out.size B2.out.size)).mono ?_;rintro e w3 ⟨rfl,own,hgr,hb3⟩;have O3:=Lib.hid own;have B3:=Lib.hid hb3;clear own hgr hb3))))
 go_ret
 refine⟨q,c1,rfl,own_base O3.out (by simp),?_⟩
 have h1:=Below.trans (Below.trans B1.out B2.out) B3.out
 exact Below.trans ((Below.refl w.heap.size w).alloc (Nat.le_refl _) _) (h1.mono (by simp))
theorem OnceS (p:Option Addr) (n c:Nat) (l:List ByteArray) (w:World) (hl:Rd w 1 p n (encS l)) (hn:n≤100000) :
  Calls Tryz.prog 226 #[.slice p n c,.agg #[.func (.func 220) #[] #[]]] w fun e w'=>∃ q c',e=.returned (.slice q (dedup (sortBy sLess l)).length c')∧w'.ownsRow w.heap.size 9 1 (.slice q (dedup (sortBy sLess l)).length c') (dedup (sortBy sLess l)).length (encS (dedup (sortBy sLess l)))∧Ext w w':=by
 have HL:=Lib.hid hl;clear hl
 go_enter Tryz.func226,Tryz.ntmps226
 go_wp2_with (first
  | (go_at_call 260;go_must ((refine(CloneS p n c l _ (HL.out.ext (Ext.alloc (Below.refl _ _) _)) hn).mono ?_;rintro e w1 ⟨q,c1,rfl,own,hb1⟩;have O1:=Lib.hid own;have B1:=Lib.hid hb1;have x0:=Ext.cell hb1 (cellnew0 _ _ _ _);clear own hb1)))
  | (go_at_call 261;have _t:=O1;go_must ((refine(SortS _ q n c1 l _ O1.out (Nat.le_trans hn (by omega)) B1.out.size).mono ?_;rintro e w2 ⟨rfl,own,hgr,hb2⟩;have O2:=Lib.hid own;have B2:=Lib.hid hb2;clear own hgr hb2)))
  | (go_at_call 262;have _t:=O2;go_must ((refine(CompactSC _ q n c1 _ _ O2.out (Nat.le_trans hn (by omega)) (Nat.le_trans B1.out.size B2.out.size)).mono ?_;rintro e w3 ⟨rfl,own,hgr,hb3⟩;have O3:=Lib.hid own;have B3:=Lib.hid hb3;clear own hgr hb3))))
 go_ret
 refine⟨q,c1,rfl,own_base O3.out (by simp),?_⟩
 have h1:=Below.trans (Below.trans B1.out B2.out) B3.out
 exact Below.trans ((Below.refl w.heap.size w).alloc (Nat.le_refl _) _) (h1.mono (by simp))
theorem EdgesG (w:World):Calls Tryz.prog 172 #[] w fun e w'=>e=.returned (.agg #[.func (.func 223) #[] #[]])∧Ext w w':=by
 go_enter Tryz.func172,Tryz.ntmps172
 go_wp2
 exact bodyPost_ret (v:=.agg #[.func (.func 223) #[] #[]]) (by simp [results,Tryz.results172,go_sem,Tryz.sizeOf233,Tryz.isAgg233]) rfl ⟨rfl,(Below.refl _ _).alloc (Nat.le_refl _) _⟩
theorem WordsG (w:World):Calls Tryz.prog 169 #[] w fun e w'=>e=.returned (.agg #[.func (.func 220) #[] #[]])∧Ext w w':=by
 go_enter Tryz.func169,Tryz.ntmps169
 go_wp2
 exact bodyPost_ret (v:=.agg #[.func (.func 220) #[] #[]]) (by simp [results,Tryz.results169,go_sem,Tryz.sizeOf227,Tryz.isAgg227]) rfl ⟨rfl,(Below.refl _ _).alloc (Nat.le_refl _) _⟩
end
section
open Go Go.RowKit Go.Maps
abbrev Po:=ByteArray × List Int
structure RdP (w:World) (p:Option Addr) (n:Nat) (hs:List Hd) (L:List Po):Prop where
 hn:n=L.length
 ptr:SlP p n
 small:n≤9223372036854775807
 c1:∀ k,k<n→w.cell? (adr p (k*2))=some (.string (nth L k).1)
 c2:∀ k,k<n→w.cell? (adr p (k*2+1))=some (.slice (nth hs k).p (nth hs k).n (nth hs k).c)
 each:∀ k,k<n→Rd w 1 (nth hs k).p (nth hs k).n (encI (nth L k).2)
theorem RdP.ext {w w':World} {p:Option Addr} {n:Nat} {hs:List Hd} {L:List Po} (h:RdP w p n hs L) (he:Ext w w'):RdP w' p n hs L :=
 ⟨h.hn,h.ptr,h.small,fun k hk=>he.cell (h.c1 k hk),fun k hk=>he.cell (h.c2 k hk),fun k hk=>(h.each k hk).ext he⟩
def PoOk (L:List Po):Prop:=∀ p∈L,p.2.length≤1000∧∀ x∈p.2,I64 x
theorem PoOk.at {L:List Po} (h:PoOk L) {k:Nat} (hk:k<L.length):(nth L k).2.length≤1000∧∀ x∈(nth L k).2,I64 x:=h _ (by rw [nth_eq hk];exact List.getElem_mem _)
def findL:List Po→ByteArray→List Int
 | [],_=>[]
 | p :: L,s=>if p.1=s then p.2 else findL L s
theorem findL_drop {L:List Po} {s:ByteArray}:∀ (k:Nat),(∀ j,j<k→(nth L j).1≠s)→k≤L.length→findL L s=findL (L.drop k) s:=by
 induction L with
 | nil=>intro k _ _;simp
 | cons p L ih =>
  intro k h hk
  cases k with
  | zero=>rfl
  | succ k =>
   have h0:p.1≠s:=h 0 (by omega)
   rw [List.drop_succ_cons,findL,if_neg h0]
   exact ih k (fun j hj=>h (j+1) (by omega)) (by simpa using hk)
theorem findL_at {L:List Po} {s:ByteArray} {k:Nat} (h:∀ j,j<k→(nth L j).1≠s) (hk:k<L.length) (he:(nth L k).1=s):findL L s=(nth L k).2:=by
 rw [findL_drop k h (by omega),drop_nth L k hk,findL,if_pos he]
theorem findL_no {L:List Po} {s:ByteArray} {k:Nat} (h:∀ j,j<k→(nth L j).1≠s) (hk:¬ k<L.length) (hk2:k≤L.length):findL L s=[]:=by
 rw [findL_drop k h hk2,List.drop_of_length_le (by omega),findL]
theorem findL_ok {L:List Po} (h:PoOk L) (s:ByteArray):(findL L s).length≤1000∧∀ x∈findL L s,I64 x:=by
 induction L with
 | nil=>exact⟨by simp [findL],fun x hx=>by cases hx⟩
 | cons p L ih =>
  unfold findL
  split
  ·exact h p (by simp)
  ·exact ih fun q hq=>h q (by simp [hq])
theorem Sep.of_own {w w':World} {e:TypeId} {size:Nat} {q:Option Addr} {n c:Nat} {xs:List Value} (he:Ext w w') (ho:w'.ownsRow w.heap.size e size (.slice q n c) n xs):Sep w w' [.own e size q n c xs] :=
 (Sep.start w).fresh he ho (Nat.le_refl _)
theorem CloneI (p:Option Addr) (n c:Nat) (l:List Int) (w:World) (hl:Rd w 1 p n (encI l)) (hn:n≤100000) :
  Calls Tryz.prog 267 #[.slice p n c] w fun e w'=>∃ q c',e=.returned (.slice q n c')∧Sep w w' [.own 3 1 q n c' (encI l)]:=by
 obtain⟨i0,hi0,hz0,hz1,hz2⟩:=info_parts infI
 have hp:=hl.ptr
 cases p with
 | none =>
  have h0:n=0:=by rcases hp with h | ⟨_,_,h⟩;exact h;cases h
  subst h0
  have hnil:encI l=[]:=List.eq_nil_of_length_eq_zero (by have:=hl.len;simpa using this)
  rw [hnil]
  clear hl hp hnil
  have hr:=fun W=>Lib.run_eql_slice_nil (P:=Tryz.prog) W 25 3 none 0 c 0 0 Tryz.underlying25
  go_enter Tryz.func267,Tryz.ntmps267
  go_wp2
  go_ret
  exact⟨none,0,rfl,(Sep.start w).nilrow _ _⟩
 | some ad =>
  have hr:=fun W=>Lib.run_eql_slice_nil (P:=Tryz.prog) W 25 3 (some ad) n c 0 0 Tryz.underlying25
  have HL:=Lib.hid hl;clear hl hp
  go_enter Tryz.func267,Tryz.ntmps267
  go_wp2_with (at_builtin;refine wpList_append_rd rfl _ _ _ rfl w.heap.size 3 i0 _ 1 8 Tryz.underlying25 hi0 hz0 hz1 hz2 rfl (by omega) (some ⟨w.heap.size,0,none⟩) 0 0 [] rfl (World.ownsRow_made w #[] 0 (Nat.le_refl _) (by simp [maxLen]) rfl) (some ad) n c (encI l) rfl (HL.out.ext (Ext.alloc (Below.refl _ _) _)) (one_encI l) (by omega) (by omega) (by simp) ?_;intro q' c' w1 hown hg hat hb)
  go_ret
  simp only [Nat.zero_add,List.nil_append] at hown
  exact⟨q',c',rfl,Sep.of_own (Below.trans ((Below.refl _ _).alloc (Nat.le_refl _) _) hb) hown⟩
theorem OwnI01 (p:Option Addr) (n c:Nat) (l:List Int) (w:World) (hl:Rd w 1 p n (encI l)) (hn:n≤1000000) :
  Calls Tryz.prog 35 #[.slice p n c] w fun e w'=>∃ q c',e=.returned (.slice q n c')∧Sep w w' [.own 3 1 q n c' (encI l)]:=by
 obtain⟨i0,hi0,hz0,hz1,hz2⟩:=info_parts infI
 have HL:=Lib.hid hl;clear hl
 have S0:=Lib.hid ((Sep.start w).nilrow 3 1)
 go_enter Tryz.func35,Tryz.ntmps35
 go_wp2_with (at_builtin;go_must (refine wpList_append_sep rfl _ _ _ rfl 3 i0 _ 1 8 Tryz.underlying25 hi0 hz0 hz1 hz2 rfl (by omega) S0.out 0 none 0 0 [] rfl rfl p n c (encI l) rfl HL.out (one_encI l) (by omega) (by omega) ?_;intro q' c' w1 S1 hsz;have S2:=Lib.hid S1;clear S1 hsz))
 go_ret
 exact⟨q',c',rfl,by have:=S2.out;rw [Nat.zero_add,List.nil_append] at this;exact this⟩
theorem FindG (p:Option Addr) (n c:Nat) (hs:List Hd) (L:List Po) (s:ByteArray) (w:World) (hL:RdP w p n hs L) (hok:PoOk L) :
  Calls Tryz.prog 232 #[.slice p n c,.string s] w fun e w'=>∃ q c,e=.returned (.slice q (findL L s).length c)∧Sep w w' [.own 3 1 q (findL L s).length c (encI (findL L s))]:=by
 have p1:=hL.ptr
 have n1:=hL.small
 have l1:=hL.hn
 have HL:=Lib.hid hL;clear hL
 have L1:=Lib.hid l1;clear l1
 have HOK:=Lib.hid hok;clear hok
 go_enter Tryz.func232,Tryz.ntmps232
 go_wp2
 go_loopw [6,9] (fun _ i wr=>∃ k:Nat,k≤n∧i=.int .i64 k∧(∀ j,j<k→(nth L j).1≠s)∧Sep w wr []) (fun _ i _=>n - (intOf i).toNat)
 case atStart=>exact⟨0,Nat.zero_le _,rfl,fun j hj=>by omega,Sep.start w⟩
 case round =>
  obtain⟨k,hk,rfl,ha,S⟩:=hrel
  have HA:=Lib.hid ha;clear ha
  by_cases hlt:k<n
  ·have g1:=S.ext.cell (HL.out.c1 k hlt)
   have g2:=S.ext.cell (HL.out.c2 k hlt)
   have RE:=Lib.hid ((HL.out.each k hlt).ext S.ext)
   have SH:=Lib.hid S;clear S
   have d1:(0:Int)≤k:=by omega
   have d2:(k:Int)<n:=by omega
   have hb0:=Lib.hid (str_beq (nth L k).1 s)
   have hlen:(nth hs k).n≤1000:=by rw [RE.out.nI];exact(HOK.out.at (by rw [← L1.out];exact hlt)).1
   by_cases he:(nth L k).1=s
   ·have hq2:((nth L k).1.toList == s.toList)=true:=by rw [hb0.out];simp [he]
    have HF:=Lib.hid (findL_at HA.out (by rw [← L1.out];exact hlt) he)
    clear he
    go_wp2_with (go_at_call 267;go_must (refine(CloneI _ _ _ _ _ (RE.out.ext (Ext.alloc (Below.refl _ _) _)) (by omega)).mono ?_;rintro e w2 ⟨q,c',rfl,S1⟩;have S2:=Lib.hid ((SH.out.junk _).comp S1);clear S1))
    go_ret
    rw [HF.out]
    have h3:=RE.out.nI
    exact⟨q,c',ret_slc h3,by rw [← h3];exact S2.out⟩
   ·have hq2:((nth L k).1.toList == s.toList)=false:=by rw [hb0.out];simp [he]
    have HE:=Lib.hid he;clear he
    go_wp2
    go_roundw
    case rel=>exact⟨k+1,by omega,by go_num,fun j hj=>by
     rcases Nat.lt_succ_iff_lt_or_eq.1 hj with h | h
     ·exact HA.out j h
     ·subst h;exact HE.out,SH.out.junk _⟩
    case measure=>simp [intOf];omega
  ·have HF:=Lib.hid (findL_no HA.out (by rw [← L1.out];exact hlt) (by rw [← L1.out];exact hk))
   have SH:=Lib.hid S;clear S
   go_wp2
   go_ret
   rw [HF.out]
   exact⟨none,0,rfl,SH.out.nilrow _ _⟩
theorem Find05 (p:Option Addr) (n c:Nat) (hs:List Hd) (L:List Po) (s:ByteArray) (w:World) (hL:RdP w p n hs L) (hok:PoOk L) :
  Calls Tryz.prog 194 #[.slice p n c,.string s] w fun e w'=>∃ q c,e=.returned (.slice q (findL L s).length c)∧Sep w w' [.own 3 1 q (findL L s).length c (encI (findL L s))]:=by
 have p1:=hL.ptr
 have n1:=hL.small
 have l1:=hL.hn
 have HL:=Lib.hid hL;clear hL
 have L1:=Lib.hid l1;clear l1
 have HOK:=Lib.hid hok;clear hok
 go_enter Tryz.func194,Tryz.ntmps194
 go_wp2
 go_loopw [5] (fun i wr=>∃ k:Nat,k≤n∧i=.int .i64 k∧(∀ j,j<k→(nth L j).1≠s)∧Sep w wr []) (fun i _=>n - (intOf i).toNat)
 case atStart=>exact⟨0,Nat.zero_le _,rfl,fun j hj=>by omega,Sep.start w⟩
 case round =>
  obtain⟨k,hk,rfl,ha,S⟩:=hrel
  have HA:=Lib.hid ha;clear ha
  by_cases hlt:k<n
  ·have g1:=S.ext.cell (HL.out.c1 k hlt)
   have g2:=S.ext.cell (HL.out.c2 k hlt)
   have RE:=Lib.hid ((HL.out.each k hlt).ext S.ext)
   have SH:=Lib.hid S;clear S
   have d1:(0:Int)≤k:=by omega
   have d2:(k:Int)<n:=by omega
   have hb0:=Lib.hid (str_beq (nth L k).1 s)
   have hlen:(nth hs k).n≤1000:=by rw [RE.out.nI];exact(HOK.out.at (by rw [← L1.out];exact hlt)).1
   by_cases he:(nth L k).1=s
   ·have hq2:((nth L k).1.toList == s.toList)=true:=by rw [hb0.out];simp [he]
    have HF:=Lib.hid (findL_at HA.out (by rw [← L1.out];exact hlt) he)
    clear he
    go_wp2_with (go_at_call 35;go_must (refine(OwnI01 _ _ _ _ _ RE.out (by omega)).mono ?_;rintro e w2 ⟨q,c',rfl,S1⟩;have S2:=Lib.hid (SH.out.comp S1);clear S1))
    go_ret
    rw [HF.out]
    have h3:=RE.out.nI
    exact⟨q,c',ret_slc h3,by rw [← h3];exact S2.out⟩
   ·have hq2:((nth L k).1.toList == s.toList)=false:=by rw [hb0.out];simp [he]
    have HE:=Lib.hid he;clear he
    go_wp2
    go_roundw
    case rel=>exact⟨k+1,by omega,by go_num,fun j hj=>by
     rcases Nat.lt_succ_iff_lt_or_eq.1 hj with h | h
     ·exact HA.out j h
     ·subst h;exact HE.out,SH.out⟩
    case measure=>simp [intOf];omega
  ·have HF:=Lib.hid (findL_no HA.out (by rw [← L1.out];exact hlt) (by rw [← L1.out];exact hk))
   have SH:=Lib.hid S;clear S
   go_wp2
   go_ret
   rw [HF.out]
   exact⟨none,0,rfl,SH.out.nilrow _ _⟩
end
section
open Go Go.RowKit
theorem WordG (s : ByteArray) (w : World) (hs : s.size ≤ 140737488355328) : Calls Tryz.prog 129 #[.string s] w fun e w' => e = .returned (.bool (wordB s)) ∧ w = w' := by
  go_enter Tryz.func129, Tryz.ntmps129
  go_wp2
  go_loop [3, 6] (fun _ i => ∃ k : Nat, k ≤ s.size ∧ i = .int .i64 k ∧ (s.data.toList.take k).all lowB = true) (fun _ i => s.size - (intOf i).toNat)
  case atStart => exact ⟨0, Nat.zero_le _, rfl, rfl⟩
  case round =>
    obtain ⟨k, hk, rfl, ha⟩ := hrel
    have HA := Lib.hid ha; clear ha
    by_cases hlt : k < s.size
    · by_cases h1 : (s[k].toNat : Int) < 97
      · go_wp2
        go_ret
        exact ⟨ret_bool (wordB_no s k hlt (by omega)), rfl⟩
      · by_cases h2 : 122 < (s[k].toNat : Int)
        · go_wp2
          go_ret
          exact ⟨ret_bool (wordB_no s k hlt (by omega)), rfl⟩
        · go_wp2
          go_round
          case rel => exact ⟨k + 1, by omega, by go_num, wordB_step s k hlt HA.out (by omega) (by omega)⟩
          case measure => simp [intOf]; omega
    · have HE := Lib.hid (wordB_end s k hlt HA.out)
      by_cases h1 : s.size = 0
      · have he : s.toList = [] := by rw [ByteArray.toList_eq]; have : s.data.size = 0 := h1; exact List.length_eq_zero_iff.1 (by simpa using this)
        have he2 : (!s.toList.isEmpty) = false := by rw [he]; rfl
        have HZ := Lib.hid h1; clear h1
        go_wp2
        go_ret
        exact ⟨ret_bool (by rw [HE.out, HZ.out]; rfl), rfl⟩
      · have he : s.toList ≠ [] := by rw [ByteArray.toList_eq]; intro h; apply h1; have : s.data.toList.length = 0 := by rw [h]; rfl
                                      simpa using this
        have he2 : (!s.toList.isEmpty) = true := by simp [he]
        go_wp2
        go_ret
        exact ⟨ret_bool (by rw [HE.out, Bool.eq_iff_iff]; simp; omega), rfl⟩
theorem isPlaceG (N:Int) (pe:Option Addr) (ne ce:Nat) (pw:Option Addr) (nw cw:Nat) (v:Int) (w:World) :
  Calls Tryz.prog 221 #[.agg #[.int .i64 N,.slice pe ne ce,.slice pw nw cw],.int .i64 v] w fun e w'=>e=.returned (.bool (decide (0≤v∧v<N)))∧Ext w w':=by
 by_cases h:0≤v
 ·go_enter Tryz.func221,Tryz.ntmps221
  go_wp2
  go_ret
  exact⟨ret_bool (by rw [Bool.eq_iff_iff];simp [h]),(Below.refl _ _).alloc (Nat.le_refl _) _⟩
 ·go_enter Tryz.func221,Tryz.ntmps221
  go_wp2
  go_ret
  exact⟨ret_bool (by rw [Bool.eq_iff_iff];simp;omega),(Below.refl _ _).alloc (Nat.le_refl _) _⟩
theorem CheckLit (s:ByteArray) (w:World) (hs:s.size≤140737488355328):Calls Tryz.prog 222 #[.string s] w fun e w'=>e=.returned (.bool (!wordB s))∧w=w':=by
 go_enter Tryz.func222,Tryz.ntmps222
 go_wp2_with (go_at_call 129;refine(WordG _ _ hs).mono ?_;rintro e w' ⟨rfl,rfl⟩)
 go_ret
 exact⟨rfl,rfl⟩
theorem IndexWord (p:Option Addr) (n c:Nat) (l:List ByteArray) (w:World) (hl:Rd w 1 p n (encS l)) (hz:∀ s∈l,s.size≤1000000) :
  Calls Tryz.prog 197 #[.slice p n c,.func (.func 222) #[] #[]] w fun e w'=>∃ i:Int,e=.returned (.int .i64 i)∧decide (0≤i)=l.any (fun s=>!wordB s)∧w=w':=by
 have p1:=hl.ptr
 have n1:=hl.small
 have l1:=hl.nS
 have HL:=Lib.hid hl;clear hl
 have L1:=Lib.hid l1;clear l1
 have HZ:=Lib.hid hz;clear hz
 go_enter Tryz.func197,Tryz.ntmps197
 go_wp2
 go_loop [5,8] (fun _ i=>∃ k:Nat,k≤n∧i=.int .i64 k∧(l.take k).any (fun s=>!wordB s)=false) (fun _ i=>n - (intOf i).toNat)
 case atStart=>exact⟨0,Nat.zero_le _,rfl,rfl⟩
 case round =>
  obtain⟨k,hk,rfl,ha⟩:=hrel
  have HA:=Lib.hid ha;clear ha
  by_cases hlt:k<n
  ·have g1:=HL.out.cS hlt
   have hsz:(nth l k).size≤140737488355328:=by
    have:=HZ.out (nth l k) (by rw [nth_eq (by rw [← L1.out];exact hlt)];exact List.getElem_mem _)
    omega
   by_cases hw:(!wordB (nth l k))=true
   ·have HF:=Lib.hid (any_true_at (fun s=>!wordB s) l k (by rw [← L1.out];exact hlt) hw)
    go_wp2_with (go_at_call 222;refine(CheckLit _ _ hsz).mono ?_;rintro e w' ⟨rfl,rfl⟩)
    go_ret
    exact⟨_,rfl,by rw [HF.out];simp,rfl⟩
   ·have hw':(!wordB (nth l k))=false:=by simpa using hw
    have HW':=Lib.hid hw'
    clear hw
    go_wp2_with (go_at_call 222;refine(CheckLit _ _ hsz).mono ?_;rintro e w' ⟨rfl,rfl⟩)
    go_round
    case rel=>exact⟨k+1,by omega,by go_num,any_step _ _ _ (by rw [← L1.out];exact hlt) HA.out HW'.out⟩
    case measure=>simp [intOf];omega
  ·have HF:=Lib.hid (any_end _ _ _ (by rw [← L1.out];exact hlt) HA.out)
   go_wp2
   go_ret
   exact⟨_,rfl,by rw [HF.out];rfl,rfl⟩
theorem ContainsWord (p:Option Addr) (n c:Nat) (l:List ByteArray) (w:World) (hl:Rd w 1 p n (encS l)) (hz:∀ s∈l,s.size≤1000000) :
  Calls Tryz.prog 130 #[.slice p n c,.func (.func 222) #[] #[]] w fun e w'=>e=.returned (.bool (l.any (fun s=>!wordB s)))∧w=w':=by
 have HC:=Lib.hid (IndexWord p n c l w hl hz)
 clear hl hz
 go_enter Tryz.func130,Tryz.ntmps130
 go_wp2_with (go_at_call 197;refine HC.out.mono ?_;rintro e w' ⟨i,rfl,hi,rfl⟩;have HI:=Lib.hid hi;clear hi)
 go_ret
 exact⟨ret_bool HI.out,rfl⟩
end
section
open Go Go.RowKit Go.Maps
def okAt (n:Int) (l:List Int) (i:Nat):Bool:=decide (0≤nth l i) && decide (nth l i<n) && (decide (i=0) || decide (nth l (i - 1)<nth l i))
def PoSz (L:List Po):Prop:=∀ p∈L,p.1.size≤1000000
theorem PoSz.at {L:List Po} (h:PoSz L) {k:Nat} (hk:k<L.length):(nth L k).1.size≤140737488355328:=by
 have:=h (nth L k) (by rw [nth_eq hk];exact List.getElem_mem _);omega
end
section
open Go Go.RowKit
theorem inf35:(Tryz.prog.info? 22).map (fun i=>(i.zero,i.size,i.bytes))=some (some (.slice none 0 0),1,24):=by kernel_rfl
def GraphR (w:World) (v:Value) (N:Int) (E:List (Int × Int)) (W:List (List ByteArray)):Prop :=
 ∃ pe ne ce pw nw cw hs,v=.agg #[.int .i64 N,.slice pe ne ce,.slice pw nw cw]∧Rd w 2 pe ne (encE E)∧ne≤ce∧RdW w pw nw hs W∧nw≤cw
end
section
open Go Go.RowKit
def GraphN (w:World) (base:Nat) (v:Value) (N:Int) (E:List (Int × Int)) (W:List (List ByteArray)):Prop :=
 ∃ pe ne ce pw nw cw hs,v=.agg #[.int .i64 N,.slice pe ne ce,.slice pw nw cw]∧Rd w 2 pe ne (encE E)∧ne≤ce∧RdW w pw nw hs W∧nw≤cw ∧
  (0<ne→base≤(adr pe 0).block)∧(0<nw→base≤(adr pw 0).block)∧(∀ j,j<nw→0<(nth hs j).n→base≤(adr (nth hs j).p 0).block)
theorem GraphN.set {w:World} {base:Nat} {v:Value} {N:Int} {E:List (Int × Int)} {W:List (List ByteArray)} (h:GraphN w base v N E W) {b:Nat} (hb:b<base) (i:Nat) (u:Value):GraphN (w.setCell ⟨b,i,none⟩ u) base v N E W:=by
 obtain⟨pe,ne,ce,pw,nw,cw,hs,h1,h2,h3,h4,h5,f1,f2,f3⟩:=h
 exact⟨pe,ne,ce,pw,nw,cw,hs,h1,h2.set_ (fun h=>by have:=f1 h;omega) i u,h3,⟨h4.hn,h4.row.set_ (fun h=>by have:=f2 h;omega) i u,fun j hj=>(h4.each j hj).set_ (fun h=>by have:=f3 j hj h;omega) i u⟩,h5,f1,f2,f3⟩
theorem GraphN.mono {w:World} {base b:Nat} {v:Value} {N:Int} {E:List (Int × Int)} {W:List (List ByteArray)} (h:GraphN w base v N E W) (hb:b≤base):GraphN w b v N E W:=by
 obtain⟨pe,ne,ce,pw,nw,cw,hs,h1,h2,h3,h4,h5,f1,f2,f3⟩:=h
 exact⟨pe,ne,ce,pw,nw,cw,hs,h1,h2,h3,h4,h5,fun h=>Nat.le_trans hb (f1 h),fun h=>Nat.le_trans hb (f2 h),fun j hj h=>Nat.le_trans hb (f3 j hj h)⟩
theorem GraphN.nil (w:World) (base:Nat):GraphN w base (.agg #[.int .i64 0,.slice none 0 0,.slice none 0 0]) 0 [] [] :=
 ⟨none,0,0,none,0,0,[],rfl,Rd.nil _ _ _,Nat.le_refl _,⟨rfl,Rd.nil _ _ _,fun j hj=>by omega⟩,Nat.le_refl _,fun h=>by omega,fun h=>by omega,fun j hj=>by omega⟩
end
section
open Go Go.RowKit
def swapE (x:Int × Int):Int × Int:=(x.2,x.1)
end
section
open Go Go.RowKit
theorem rise_iff {α:Type} [Inhabited α] {lt:α→α→Bool} (h:STO lt) (l:List α):riseB lt l=true↔Rises lt l:=by
 constructor
 ·intro hr
  unfold riseB at hr
  rw [List.all_eq_true] at hr
  have step:∀ i,i+1<l.length→lt (nth l i) (nth l (i+1))=true:=fun i hi=>hr i (List.mem_range.2 (by omega))
  have key:∀ d i,i+d+1<l.length→lt (nth l i) (nth l (i+d+1))=true:=by
   intro d
   induction d with
   | zero=>intro i hi;exact step i hi
   | succ d ih=>intro i hi;exact h.trans _ _ _ (ih i (by omega)) (step (i+d+1) (by omega))
  unfold Rises
  rw [List.pairwise_iff_getElem]
  intro i j hi hj hij
  have:=key (j - i - 1) i (by omega)
  rw [show i+(j - i - 1)+1=j from by omega,nth_eq hi,nth_eq hj] at this
  exact this
 ·intro hr
  unfold riseB
  rw [List.all_eq_true]
  intro i hi
  have hi2:=List.mem_range.1 hi
  unfold Rises at hr
  rw [List.pairwise_iff_getElem] at hr
  unfold riseAt
  rw [nth_eq (by omega),nth_eq (by omega)]
  exact hr i (i+1) (by omega) (by omega) (by omega)
theorem edgeOk_swap (N:Int) (x:Int × Int):edgeOk N (swapE x)=edgeOk N x:=by
 unfold edgeOk swapE
 rw [Bool.eq_iff_iff];simp;omega
theorem check_swap {N:Int} {E:List (Int × Int)} {W:List (List ByteArray)}:checkB N (E.map swapE) W=checkB N E W:=by
 have:(E.map swapE).all (edgeOk N)=E.all (edgeOk N):=by
  rw [Bool.eq_iff_iff,List.all_eq_true,List.all_eq_true]
  constructor
  ·intro h x hx;rw [← edgeOk_swap];exact h _ (List.mem_map_of_mem hx)
  ·intro h x hx;obtain⟨y,hy,rfl⟩:=List.mem_map.1 hx;rw [edgeOk_swap];exact h y hy
 unfold checkB
 rw [this,List.length_map]
structure TwiceF (N:Int) (E:List (Int × Int)) (W:List (List ByteArray)) (A C:List (Int × Int)) (V:List (List ByteArray)):Prop where
 n1:normN N E W=N∧normE N E W=A∧normW N E W=V∧normC N E W=0
 n2:normN N A V=N∧normE N A V=A∧normW N A V=V∧normC N A V=0
 n3:normN N (E.map swapE) W=N∧normE N (E.map swapE) W=C∧normW N (E.map swapE) W=V∧normC N (E.map swapE) W=0
 n4:normN N (C.map swapE) V=N∧normE N (C.map swapE) V=A∧normW N (C.map swapE) V=V∧normC N (C.map swapE) V=0
 i1:isB N A V=true
 i2:isB N C V=true
 i3:isB N E W=sameB N A V N E W
 lA:A.length≤2000
 lC:C.length≤2000
 lV:V.length≤200
 lV2:∀ l∈V,l.length≤8
theorem norm_of {N:Int} {E A:List (Int × Int)} {W V:List (List ByteArray)} (hc:checkB N E W=true) (hA:putAll lessE E=A) (hV:W.map (putAll sLess)=V):normN N E W=N∧normE N E W=A∧normW N E W=V∧normC N E W=0:=by
 unfold normN normE normW normC
 rw [hc,hA,hV]
 exact⟨rfl,rfl,rfl,rfl⟩
end
section
open Go Go.RowKit Go.Maps
theorem methAll (a:Nat) (w:World):Calls Tryz.prog 188 #[.map (some a)] w fun e w'=>e=.returned (.func (.func 189) #[.map (some a)] #[])∧Ext w w':=by
 go_enter Tryz.func188,Tryz.ntmps188
 go_wp2
 go_ret
 exact⟨rfl,Below.refl _ _⟩
def CloAll (w:World) (L:List Po) (s:ByteArray) (S:Int→Prop) (a n:Nat) (i:Nat) (v:Value) (W:World):Prop :=
 match i with
 | 2=>v=.func (.func 189) #[.map (some a)] #[]
 | 5=>∃ q c,v=.slice q (findL L s).length c∧Rd W 1 q (findL L s).length (encI (findL L s))
 | 6=>∃ b f,v=.map (some b)∧MapI Tryz.prog 3 EB b 1000 f W∧∀ x,f x=some true↔x∈findL L s
 | 7=>∃ b f,v=.map (some b)∧w.heap.size≤b∧MapI Tryz.prog 3 EB b (n+1000) f W∧∀ x,f x=some true↔(S x∧x∈findL L s)
 | _=>True
theorem CloAll_mono {w:World} {L:List Po} {s:ByteArray} {S:Int→Prop} {a n:Nat}:∀ i v W W',Ext W W'→CloAll w L s S a n i v W→CloAll w L s S a n i v W':=by
 intro i v W W' he h
 unfold CloAll at *
 split at h
 ·exact h
 ·obtain⟨q,c,h1,h2⟩:=h;exact⟨q,c,h1,h2.ext he⟩
 ·obtain⟨b,f,h1,h2,h3⟩:=h;exact⟨b,f,h1,h2.ext he,h3⟩
 ·obtain⟨b,f,h1,h0,h2,h3⟩:=h;exact⟨b,f,h1,h0,h2.ext he,h3⟩
 ·trivial
theorem closAll (a n:Nat) (f:Int→Option Bool) (S:Int→Prop) (s:ByteArray) (b5 b3:Nat) (p:Option Addr) (np cp:Nat) (hs:List Hd) (L:List Po) (w:World) (hA:MapI Tryz.prog 3 EB a n f w) (hf:∀ x,f x=some true↔S x)
  (h5:w.cell? ⟨b5,0,none⟩=some (.func (.func 188) #[] #[])) (h3:w.cell? ⟨b3,0,none⟩=some (.slice p np cp)) (hL:RdP w p np hs L) (hok:PoOk L) (hn:n≤500000) :
  Calls Tryz.prog 233 #[.map (some a),.string s,.pointer (some ⟨b5,0,none⟩),.pointer (some ⟨b3,0,none⟩)] w fun e w'=>∃ c h,e=.returned (.map (some c))∧Sep w w' [.map Tryz.prog 3 EB c (n+1000) h]∧∀ x,h x=some true↔(S x∧x∈findL L s):=by
 have HFO:=Lib.hid (findL_ok hok s)
 have HA:=Lib.hid hA;clear hA
 have HF:=Lib.hid hf;clear hf
 have HL:=Lib.hid hL;clear hL
 have HOK:=Lib.hid hok;clear hok
 have x5:=fun x:ExtOf w=>x.ext.cell h5
 have x3:=fun x:ExtOf w=>x.ext.cell h3
 go_enter Tryz.func233,Tryz.ntmps233
 go_wp2
 refine wp_region_mix [true,true,false,true,true,false,false,false] (CloAll w L s S a n) (by kernel_rfl) (by kernel_rfl) (by kernel_rfl) CloAll_mono ?_
 simp only [nfM]
 repeat (go_big_quiet_step ((fail)))
 refine wpQuiet_nil ⟨⟨fun vs W hE hd=>?_,fun vs W hE hd=>?_,fun vs W hE hd=>?_,fun vs W hE hd=>?_,trivial⟩,fun vs W hE hkn=>?_⟩
 ·simp [putM,execOp,go_sem]
  exact(methAll a W).mono fun e w' ⟨h1,h2⟩=>⟨_,h1,rfl,h2⟩
 ·simp [putM,go_sem]
  exact(FindG p np cp hs L s W (HL.out.ext hE) HOK.out).mono fun e w' ⟨q,c,h1,h2⟩=>⟨_,h1,⟨q,c,rfl,h2.rd 0 rfl (by have:=HFO.out.1;omega)⟩,h2.ext⟩
 ·obtain⟨q,c,e1,e2⟩:=hd 5 (by decide) rfl
  simp [putM,go_sem,e1]
  exact(ofG q _ c (findL L s) W e2 HFO.out.2 (by have:=HFO.out.1;omega)).mono fun e w' ⟨b,g,h1,h2,h3⟩=>⟨_,h1,⟨b,g,rfl,(h2.map 0 rfl).mono HFO.out.1,h3⟩,h2.ext⟩
 ·have e0:vs 2=_:=hd 2 (by decide) rfl
  obtain⟨b,g,e1,e2,e3⟩:=hd 6 (by decide) rfl
  simp [putM,execOp,go_sem,e0,e1]
  exact(meetG a b n 1000 f g W (HA.out.ext hE) e2 (by omega)).mono fun e w' ⟨c,h,h1,h2,h3⟩=>⟨_,h1,⟨c,h,rfl,Nat.le_trans hE.size (h2.new _ (List.mem_singleton.2 rfl) c rfl),(h2.map 0 rfl).mono (by omega),fun x=>by rw [h3,HF.out,e3]⟩,h2.ext⟩
 ·obtain⟨_,⟨_,_,k1,_⟩,⟨_,_,k2,_⟩,⟨c,h,k3,k4,k5,k6⟩,_⟩:=hkn
  have HK5:=Lib.hid k5
  have HK6:=Lib.hid k6
  have HE:=Lib.hid hE
  have HK4:=Lib.hid k4
  simp only [putM,k3,List.length_cons,List.length_nil,Nat.zero_add,Nat.reduceAdd,List.drop_succ_cons,List.drop_zero]
  clear x5 x3 k1 k2 k3 k4 k5 k6 hE
  go_wp2
  go_ret
  exact⟨c,h,rfl,⟨HE.out,fun q hq=>by rw [List.mem_singleton] at hq;subst hq;exact HK5.out,fun q hq i hi=>by rw [List.mem_singleton] at hq;subst hq;have:i=c:=hi;rw [this];exact HK4.out,List.pairwise_singleton _ _⟩,HK6.out⟩
theorem foldAll (a n:Nat) (f:Int→Option Bool) (S:Int→Prop) (R:List ByteArray) (pr:Option Addr) (nr cr:Nat) (b5 b3:Nat) (p:Option Addr) (np cp:Nat) (hs:List Hd) (L:List Po) (w:World) (hA:MapI Tryz.prog 3 EB a n f w) (hf:∀ x,f x=some true↔S x)
  (hR:Rd w 1 pr nr (encS R)) (h5:w.cell? ⟨b5,0,none⟩=some (.func (.func 188) #[] #[])) (h3:w.cell? ⟨b3,0,none⟩=some (.slice p np cp)) (hL:RdP w p np hs L) (hok:PoOk L) (hn:n+1000*nr≤400000) :
  Calls Tryz.prog 230 #[.map (some a),.slice pr nr cr,.func (.func 233) #[] #[.pointer (some ⟨b5,0,none⟩),.pointer (some ⟨b3,0,none⟩)]] w fun e w'=>∃ c h,e=.returned (.map (some c))∧MapI Tryz.prog 3 EB c (n+1000*nr) h w'∧Ext w w'∧∀ x,h x=some true↔(S x∧∀ u∈R,x∈findL L u):=by
 have p1:=hR.ptr
 have n1:=hR.small
 have l1:=hR.nS
 have HA:=Lib.hid hA;clear hA
 have HF:=Lib.hid hf;clear hf
 have HL:=Lib.hid hL;clear hL
 have HOK:=Lib.hid hok;clear hok
 have HR:=Lib.hid hR;clear hR
 have L1:=Lib.hid l1;clear l1
 have H5:=Lib.hid h5;clear h5
 have H3:=Lib.hid h3;clear h3
 go_enter Tryz.func230,Tryz.ntmps230
 go_wp2
 go_loopw [0,8,11] (fun v _ i wr=>∃ (k b:Nat) (g:Int→Option Bool),k≤nr∧i=.int .i64 k∧v=.map (some b)∧Ext w wr∧MapI Tryz.prog 3 EB b (n+1000*k) g wr∧∀ x,g x=some true↔(S x∧∀ u∈R.take k,x∈findL L u)) (fun _ _ i _=>nr - (intOf i).toNat)
 case atStart=>exact⟨0,a,f,Nat.zero_le _,rfl,rfl,Below.refl _ _,HA.out,fun x=>by rw [HF.out];simp⟩
 case round =>
  obtain⟨k,b,g,hk,rfl,rfl,hE,hM,hg⟩:=hrel
  have HE:=Lib.hid hE;clear hE
  have HM:=Lib.hid hM;clear hM
  have HG:=Lib.hid hg;clear hg
  by_cases hlt:k<nr
  ·have g1:=HE.out.cell (HR.out.cS hlt)
   have d1:(0:Int)≤k:=by omega
   have d2:(k:Int)<nr:=by omega
   go_wp2_with (go_at_call 233;go_must (refine(closAll b (n+1000*k) g _ (nth R k) b5 b3 p np cp hs L _ HM.out HG.out (HE.out.cell H5.out) (HE.out.cell H3.out) (HL.out.ext HE.out) HOK.out (by omega)).mono ?_;rintro e w2 ⟨c,h,rfl,S1,hh⟩;have S2:=Lib.hid S1;have HH:=Lib.hid hh;clear S1 hh))
   go_roundw
   case rel=>exact⟨k+1,c,h,by omega,by go_num,rfl,Ext.trans HE.out S2.out.ext,(S2.out.map 0 rfl).mono (by omega),fun x=>by
    rw [HH.out,take_succ_nth R k (by rw [← L1.out];exact hlt)]
    constructor
    ·rintro⟨⟨h1,h2⟩,h3⟩
     refine⟨h1,fun u hu=>?_⟩
     rcases List.mem_append.1 hu with h | h
     ·exact h2 u h
     ·rw [List.mem_singleton] at h;subst h;exact h3
    ·rintro⟨h1,h2⟩
     exact⟨⟨h1,fun u hu=>h2 u (List.mem_append_left _ hu)⟩,h2 _ (by simp)⟩⟩
   case measure=>simp [intOf];omega
  ·obtain rfl:k=nr:=by omega
   go_wp2
   go_ret
   exact⟨b,g,rfl,HM.out,HE.out,fun x=>by rw [HG.out,List.take_of_length_le (by rw [← L1.out];omega)]⟩
def allS (L:List Po) (ws:List ByteArray):List Int:=putAll ltI ((findL L (nth ws 0)).filter fun x=>ws.all fun u=>(findL L u).contains x)
theorem allS_mem {L:List Po} {ws:List ByteArray} {x:Int} (h:0<ws.length):(x∈(findL L (nth ws 0)).filter fun x=>ws.all fun u=>(findL L u).contains x)↔(x∈findL L (nth ws 0)∧∀ u∈ws.drop 1,x∈findL L u):=by
 rw [List.mem_filter,List.all_eq_true]
 constructor
 ·rintro⟨h1,h2⟩
  exact⟨h1,fun u hu=>by have:=h2 u (List.mem_of_mem_drop hu);simpa using this⟩
 ·rintro⟨h1,h2⟩
  refine⟨h1,fun u hu=>?_⟩
  rw [← List.take_append_drop 1 ws] at hu
  rcases List.mem_append.1 hu with hu | hu
  ·have:u=nth ws 0:=by
    have e:ws.take 1=[nth ws 0]:=by rw [take_succ_nth ws 0 h];simp
    rw [e] at hu;simpa using hu
   rw [this];simpa using h1
  ·simpa using h2 u hu
def FouAll (L:List Po) (ws:List ByteArray) (nr:Nat) (i:Nat) (v:Value) (W:World):Prop :=
 match i with
 | 4=>∃ q c,v=.slice q (findL L (nth ws 0)).length c∧Rd W 1 q (findL L (nth ws 0)).length (encI (findL L (nth ws 0)))
 | 5=>∃ b f,v=.map (some b)∧MapI Tryz.prog 3 EB b 1000 f W∧∀ x,f x=some true↔x∈findL L (nth ws 0)
 | 9=>∃ b f,v=.map (some b)∧MapI Tryz.prog 3 EB b (1000+1000*nr) f W∧∀ x,f x=some true↔(x∈findL L (nth ws 0)∧∀ u∈ws.drop 1,x∈findL L u)
 | _=>True
theorem FouAll_mono {L:List Po} {ws:List ByteArray} {nr:Nat}:∀ i v W W',Ext W W'→FouAll L ws nr i v W→FouAll L ws nr i v W':=by
 intro i v W W' he h
 unfold FouAll at *
 split at h
 ·obtain⟨q,c,h1,h2⟩:=h;exact⟨q,c,h1,h2.ext he⟩
 ·obtain⟨b,f,h1,h2,h3⟩:=h;exact⟨b,f,h1,h2.ext he,h3⟩
 ·obtain⟨b,f,h1,h2,h3⟩:=h;exact⟨b,f,h1,h2.ext he,h3⟩
 ·trivial
theorem foundAll (p:Option Addr) (np cp:Nat) (hs:List Hd) (L:List Po) (pr:Option Addr) (nr cr:Nat) (ws:List ByteArray) (w:World) (hL:RdP w p np hs L) (hok:PoOk L) (hR:Rd w 1 pr nr (encS ws)) (hcr:nr≤cr) (h0:0<nr) (hn:nr≤100) :
  Calls Tryz.prog 187 #[.slice p np cp,.slice pr nr cr,.func (.func 188) #[] #[]] w fun e w'=>∃ q c,e=.returned (.tuple #[.slice q (allS L ws).length c,.int .i64 0])∧Sep w w' [.own 3 1 q (allS L ws).length c (encI (allS L ws))]:=by
 obtain⟨l0,hl0⟩:∃ l0,l0=(findL L (nth ws 0)).filter fun x=>ws.all fun u=>(findL L u).contains x:=⟨_,rfl⟩
 have hal:allS L ws=putAll ltI l0:=by rw [hl0];rfl
 rw [hal]
 have HMEM:Hid (∀ x,x∈l0↔(x∈findL L (nth ws 0)∧∀ u∈ws.drop 1,x∈findL L u)):=fun x=>by rw [hl0];exact allS_mem (by rw [← hR.nS];exact h0)
 clear hal hl0
 have HFO:=Lib.hid (findL_ok hok (nth ws 0))
 have p1:=hR.ptr
 have n1:=hR.small
 have g1:=hR.cS h0
 have HRC:Hid (Rd w 1 (cutp pr cr 1 1) (nr - 1) (encS (ws.drop 1))):=by
  have:=hR.cut (l:=1) (h:=nr) (by omega) (Nat.le_refl _) hcr
  rw [encS_drop,List.take_of_length_le (by rw [encS_len,List.length_drop,hR.nS];omega)] at this
  exact this
 have L1:=Lib.hid hR.nS
 clear hR
 have HL:=Lib.hid hL;clear hL
 have HOK:=Lib.hid hok;clear hok
 have S0:=Lib.hid (((Sep.start w).al #[.slice p np cp] 28 w.heap.size rfl).al #[.func (.func 188) #[] #[]] 254 (w.heap.size+1) (by simp))
 have hne:((nr:Int) == 0)=false:=by simp;omega
 have d1:(1:Int)≤nr:=by omega
 have d2:(0:Int)<nr:=by omega
 have d3:(nr:Int)≤cr:=by omega
 go_enter Tryz.func187,Tryz.ntmps187
 go_wp2
 obtain⟨X,hX⟩:∃ X,X=((w.alloc (.cells #[.slice p np cp] 28)).alloc (.cells #[.func (.func 188) #[] #[]] 254)):=⟨_,rfl⟩
 have SX:=S0.out
 rw [← hX] at SX ⊢
 have HX:=Lib.hid SX.ext
 have c3:=(SX.blk 1 rfl).cell 0
 have c5:=(SX.blk 0 rfl).cell 0
 have g2:=HX.out.cell g1
 clear hX S0 g1 SX
 have H3:Hid (X.cell? ⟨w.heap.size,0,none⟩=some (.slice p np cp)):=c3
 have H5:Hid (X.cell? ⟨w.heap.size+1,0,none⟩=some (.func (.func 188) #[] #[])):=c5
 have x3:=fun x:ExtOf X=>x.ext.cell c3
 have x5:=fun x:ExtOf X=>x.ext.cell c5
 have xg:=fun x:ExtOf X=>x.ext.cell g2
 refine wp_region_mix [true,true,true,true,false,false,true,true,true,false] (FouAll L ws nr) (by kernel_rfl) (by kernel_rfl) (by kernel_rfl) FouAll_mono ?_
 simp only [nfM]
 repeat (go_big_quiet_step ((fail)))
 refine wpQuiet_nil ⟨⟨fun vs W hE hd=>?_,fun vs W hE hd=>?_,fun vs W hE hd=>?_,trivial⟩,fun vs W hE hkn=>?_⟩
 ·simp [putM,go_sem]
  exact(FindG p np cp hs L _ W ((HL.out.ext HX.out).ext hE) HOK.out).mono fun e w' ⟨q,c,h1,h2⟩=>⟨_,h1,⟨q,c,rfl,h2.rd 0 rfl (by have:=HFO.out.1;omega)⟩,h2.ext⟩
 ·obtain⟨q,c,e1,e2⟩:=hd 4 (by decide) rfl
  simp [putM,go_sem,e1]
  exact(ofG q _ c _ W e2 HFO.out.2 (by have:=HFO.out.1;omega)).mono fun e w' ⟨b,g,h1,h2,h3⟩=>⟨_,h1,⟨b,g,rfl,(h2.map 0 rfl).mono HFO.out.1,h3⟩,h2.ext⟩
 ·obtain⟨b,g,e1,e2,e3⟩:=hd 5 (by decide) rfl
  simp [putM,go_sem,e1]
  exact(foldAll b 1000 g _ (ws.drop 1) (cutp pr cr 1 1) (nr - 1) (cr - 1) (w.heap.size+1) w.heap.size p np cp hs L W e2 e3 ((HRC.out.ext HX.out).ext hE) (hE.cell H5.out) (hE.cell H3.out) ((HL.out.ext HX.out).ext hE) HOK.out (by omega)).mono fun e w' ⟨c,h,h1,h2,h3,h4⟩=>⟨_,h1,⟨c,h,rfl,h2.mono (by omega),h4⟩,h3⟩
 ·obtain⟨⟨_,_,k1,_⟩,⟨_,_,k2,_⟩,⟨b,f,k3,k4,k5⟩,_⟩:=hkn
  have HK4:=Lib.hid k4
  have HE:=Lib.hid (Ext.trans HX.out hE)
  have HK5:Hid (∀ x,f x=some true↔x∈l0):=fun x=>by rw [k5,HMEM.out]
  simp only [putM,k1,k2,k3,List.length_cons,List.length_nil,Nat.zero_add,Nat.reduceAdd,List.drop_succ_cons,List.drop_zero]
  clear x5 x3 xg k1 k2 k3 k4 k5 hE c3 c5 g2
  go_wp2_with (go_at_call 234;go_must (refine(risingG b _ f _ _ HK4.out HK5.out (by omega)).mono ?_;rintro e w2 ⟨q,c,rfl,S1⟩;have S2:=Lib.hid (((Sep.start w).call HE.out).comp S1);clear S1))
  go_ret2
  exact⟨q,c,rfl,S2.out⟩
theorem foundAll0 (p:Option Addr) (np cp:Nat) (pr:Option Addr) (cr:Nat) (w:World) :
  Calls Tryz.prog 187 #[.slice p np cp,.slice pr 0 cr,.func (.func 188) #[] #[]] w fun e w'=>e=.returned (.tuple #[.slice none 0 0,.int .i64 1])∧Ext w w':=by
 go_enter Tryz.func187,Tryz.ntmps187
 go_wp2
 go_ret2
 exact⟨rfl,Ext.alloc (Ext.alloc (Below.refl _ _) _) _⟩
end
section
open Go Go.RowKit Go.Maps
theorem Ints01 (p q:Option Addr) (n m c d:Nat) (ss ts:List Int) (w:World) (hs:Rd w 1 p n (encI ss)) (ht:Rd w 1 q m (encI ts)) :
  Calls Tryz.prog 29 #[.slice p n c,.slice q m d] w fun e w'=>e=.returned (.bool (decide (ss=ts)))∧Ext w w':=by
 have hp:=hs.ptr
 have hq:=ht.ptr
 have hn:=hs.small
 have hm:=ht.small
 have HS:=Lib.hid hs;clear hs
 have HT:=Lib.hid ht;clear ht
 have L1:=Lib.hid HS.out.nI
 have L2:=Lib.hid HT.out.nI
 by_cases hnm:n=m
 ·subst hnm
  have hl:=Lib.hid (L1.out.symm.trans L2.out)
  go_enter Tryz.func29,Tryz.ntmps29
  go_wp2
  go_loopw [5] (fun i wr=>∃ k:Nat,k≤n∧i=.int .i64 k∧ss.take k=ts.take k∧Ext w wr) (fun i _=>n - (intOf i).toNat)
  case atStart=>exact⟨0,Nat.zero_le _,rfl,rfl,Below.refl _ _⟩
  case round =>
   obtain⟨k,hk,rfl,he,hb⟩:=hrel
   have HE:=Lib.hid he;clear he
   have HB:=Lib.hid hb;clear hb
   by_cases hlt:k<n
   ·have g3:=HB.out.cell (HS.out.cI hlt)
    have g4:=HB.out.cell (HT.out.cI hlt)
    have d1:(0:Int)≤k:=by omega
    have d2:(k:Int)<n:=by omega
    by_cases hne:nth ss k=nth ts k
    ·have hb1:(nth ss k != nth ts k)=false:=by simp [hne]
     have HN:=Lib.hid hne;clear hne
     go_wp2
     go_quiet (fail)
     go_wp2
     go_roundw
     case rel=>exact⟨k+1,by omega,by go_num,eq_step hl.out (by rw [← L1.out];exact hlt) HE.out HN.out,HB.out.drewN _⟩
     case measure=>simp [intOf];omega
    ·have hb1:(nth ss k != nth ts k)=true:=by simp [hne]
     have HN:=Lib.hid hne;clear hne
     go_wp2
     go_quiet (fail)
     go_wp2
     go_ret
     exact⟨ret_bool (by rw [decide_eq_false (eq_no hl.out (by rw [← L1.out];exact hlt) HN.out)]),HB.out.drewN _⟩
   ·go_wp2
    go_ret
    exact⟨ret_bool (by rw [decide_eq_true (eq_end hl.out (by rw [← L1.out];exact hlt) HE.out)]),HB.out⟩
 ·have h1:((n:Int) != (m:Int))=true:=by rw [bne_iff_ne];omega
  have hne:ss≠ts:=by rintro rfl;exact hnm (L1.out.trans L2.out.symm)
  have HN:=Lib.hid hne;clear hne hnm
  go_enter Tryz.func29,Tryz.ntmps29
  go_wp2
  go_ret
  exact⟨ret_bool (by rw [decide_eq_false HN.out]),Below.refl _ _⟩
def inB (l:List Int) (x:Int):Bool:=l.any fun y=>y == x
theorem inB_iff (l:List Int) (x:Int):inB l x=true↔x∈l:=by unfold inB;simp
theorem In05 (p:Option Addr) (n c:Nat) (l:List Int) (x:Int) (w:World) (hl:Rd w 1 p n (encI l)) :
  Calls Tryz.prog 166 #[.slice p n c,.int .i64 x] w fun e w'=>e=.returned (.bool (inB l x))∧w=w':=by
 have p1:=hl.ptr
 have n1:=hl.small
 have l1:=hl.nI
 have HL:=Lib.hid hl;clear hl
 have L1:=Lib.hid l1;clear l1
 go_enter Tryz.func166,Tryz.ntmps166
 go_wp2
 go_loop [5] (fun i=>∃ k:Nat,k≤n∧i=.int .i64 k∧(l.take k).any (fun y=>y == x)=false) (fun i=>n - (intOf i).toNat)
 case atStart=>exact⟨0,Nat.zero_le _,rfl,rfl⟩
 case round =>
  obtain⟨k,hk,rfl,ha⟩:=hrel
  have HA:=Lib.hid ha;clear ha
  by_cases hlt:k<n
  ·have g1:=HL.out.cI hlt
   have d1:(0:Int)≤k:=by omega
   have d2:(k:Int)<n:=by omega
   cases hq:(nth l k == x) with
   | true =>
    have HF:=Lib.hid (any_true_at (fun y=>y == x) l k (by rw [← L1.out];exact hlt) hq)
    go_wp2
    go_ret
    exact⟨ret_bool HF.out.symm,rfl⟩
   | false =>
    have HF:=Lib.hid (any_step (fun y=>y == x) l k (by rw [← L1.out];exact hlt) HA.out hq)
    go_wp2
    go_round
    case rel=>exact⟨k+1,by omega,by go_num,HF.out⟩
    case measure=>simp [intOf];omega
  ·have HF:=Lib.hid (any_end _ l k (by rw [← L1.out];exact hlt) HA.out)
   go_wp2
   go_ret
   exact⟨ret_bool HF.out.symm,rfl⟩
theorem Rising05s (p:Option Addr) (n c:Nat) (l:List Int) (w:World) (hl:Rd w 1 p n (encI l)) (hz:n≤1000000) :
  Calls Tryz.prog 193 #[.slice p n c] w fun e w'=>∃ q c',e=.returned (.slice q (putAll ltI l).length c')∧Sep w w' [.own 3 1 q (putAll ltI l).length c' (encI (putAll ltI l))] :=
 (Rising05 p n c l w hl hz).mono fun _ _ ⟨q,n',c',he,hn,ho,hx⟩=>by subst hn;exact⟨q,c',he,Sep.of_own hx ho⟩
def bothS (a b:List Int):List Int:=putAll ltI (a.filter (inB b))
theorem filter_take_succ {α:Type} [Inhabited α] (f:α→Bool) (l:List α) (k:Nat) (h:k<l.length):(l.take (k+1)).filter f=(l.take k).filter f ++ (if f (nth l k) then [nth l k] else []):=by
 rw [take_succ_nth l k h,List.filter_append,List.filter_cons];rfl
theorem filter_len_le {α:Type} (f:α→Bool) (l:List α) (k:Nat):((l.take k).filter f).length≤k:=Nat.le_trans (List.length_filter_le _ _) (by rw [List.length_take];omega)
theorem Both05 (p:Option Addr) (n c:Nat) (a:List Int) (q:Option Addr) (m d:Nat) (b:List Int) (w:World) (ha:Rd w 1 p n (encI a)) (hb:Rd w 1 q m (encI b)) (hn:n≤1000000) :
  Calls Tryz.prog 195 #[.slice p n c,.slice q m d] w fun e w'=>∃ q c',e=.returned (.slice q (bothS a b).length c')∧Sep w w' [.own 3 1 q (bothS a b).length c' (encI (bothS a b))]:=by
 obtain⟨i0,hi0,hz0,hz1,hz2⟩:=info_parts infI
 have p1:=ha.ptr
 have l1:=ha.nI
 have HA:=Lib.hid ha;clear ha
 have HB:=Lib.hid hb;clear hb
 have L1:=Lib.hid l1;clear l1
 have S0:=Lib.hid ((Sep.start w).nilrow 3 1)
 go_enter Tryz.func195,Tryz.ntmps195
 go_wp2
 go_loopw [5,6] (fun v i wr=>∃ (k:Nat) (u:Option Addr) (e:Nat),k≤n∧i=.int .i64 k∧v=.slice u ((a.take k).filter (inB b)).length e∧Sep w wr [.own 3 1 u ((a.take k).filter (inB b)).length e (encI ((a.take k).filter (inB b)))]) (fun _ i _=>n - (intOf i).toNat)
 case atStart=>exact⟨0,none,0,Nat.zero_le _,rfl,rfl,S0.out⟩
 case round =>
  clear S0
  obtain⟨k,u,e,hk,rfl,rfl,S⟩:=hrel
  have hfl:=filter_len_le (inB b) a k
  by_cases hlt:k<n
  ·have g1:=S.ext.cell (HA.out.cI hlt)
   have SH:=Lib.hid S;clear S
   have d1:(0:Int)≤k:=by omega
   have d2:(k:Int)<n:=by omega
   have HT:=Lib.hid (filter_take_succ (inB b) a k (by rw [← L1.out];exact hlt))
   have HI:=Lib.hid (fun W1 (h:Ext w W1)=>In05 q m d b (nth a k) W1 (HB.out.ext h))
   cases hq:inB b (nth a k) with
   | true =>
    rw [hq] at HI HT
    clear hq
    go_wp2_with (first
     | (go_at_call 166;go_must (refine(HI.out _ SH.out.ext).mono ?_;rintro e1 w1 ⟨rfl,rfl⟩))
     | (at_builtin;go_must (refine wpList_append_sep rfl _ _ _ rfl 3 i0 _ 1 8 Tryz.underlying25 hi0 hz0 hz1 hz2 rfl (by omega) (SH.out.junk _) 0 u _ e _ rfl rfl _ 1 1 _ rfl (Rd.oneI _ _ _) (one_encI _) (by omega) (by omega) ?_;intro u' e' w2 S' hsz;have S3:=Lib.hid S';clear S' hsz)))
    go_roundw
    case rel=>exact⟨k+1,u',e',by omega,by go_num,by rw [HT.out];simp,by rw [HT.out];simp only [if_true,List.length_append,encI_append];exact S3.out⟩
    case measure=>simp [intOf];omega
   | false =>
    rw [hq] at HI HT
    clear hq
    go_wp2_with (go_at_call 166;go_must (refine(HI.out _ SH.out.ext).mono ?_;rintro e1 w1 ⟨rfl,rfl⟩))
    go_roundw
    case rel=>exact⟨k+1,u,e,by omega,by go_num,by rw [HT.out];simp,by rw [HT.out];simpa using SH.out⟩
    case measure=>simp [intOf];omega
  ·obtain rfl:k=n:=by omega
   have HT:Hid ((a.take k).filter (inB b)=a.filter (inB b)):=by unfold Hid;rw [List.take_of_length_le (by rw [← L1.out];omega)]
   have hrd:=S.rd 0 rfl (by omega)
   rw [HT.out] at hrd
   rw [HT.out] at hfl
   have RD:=Lib.hid hrd;clear hrd
   have SH:=Lib.hid S;clear S
   obtain⟨F,hF⟩:∃ F,F=a.filter (inB b):=⟨_,rfl⟩
   have HBS:Hid (bothS a b=putAll ltI F):=by unfold Hid;rw [hF];rfl
   rw [HT.out,← hF]
   rw [← hF] at RD hfl
   clear hF HT
   go_wp2_with (go_at_call 193;go_must (refine(Rising05s u F.length e F _ RD.out (by omega)).mono ?_;rintro e1 w1 ⟨q',c',rfl,S1⟩;have S2:=Lib.hid ((SH.out.pick [] (by decide) rfl:Sep w _ []).comp S1);clear S1))
   go_ret
   rw [HBS.out]
   exact⟨q',c',rfl,S2.out⟩
end
section
open Go Go.RowKit
theorem nth_mem {α:Type} [Inhabited α] {l:List α} {k:Nat} (h:k<l.length):nth l k∈l:=by rw [nth_eq h];exact List.getElem_mem _
theorem rises_nth {l:List Int} (h:Rises ltI l) {k:Nat} (hk:k+1<l.length):nth l k<nth l (k+1):=by
 rw [nth_eq (by omega),nth_eq hk]
 have:=List.pairwise_iff_getElem.1 h k (k+1) (by omega) hk (by omega)
 simpa [ltI] using this
def rowL (O T:List Int) (v:Nat):List Int:=(T.drop (nth O v).toNat).take ((nth O (v+1)).toNat - (nth O v).toNat)
def rowX (O T:List Int) (v:Nat):List (Int × Int):=(rowL O T v).map fun x=>((v:Int),x)
def pairsK (O T:List Int) (k:Nat):List (Int × Int):=(List.range k).flatMap (rowX O T)
def pairs (O T:List Int):List (Int × Int):=pairsK O T (O.length - 1)
theorem pairsK_step (O T:List Int) (k:Nat):pairsK O T (k+1)=pairsK O T k ++ rowX O T k:=by
 unfold pairsK;rw [List.range_succ,List.flatMap_append];simp
structure OffOk (O T:List Int):Prop where
 two:2≤O.length
 lo:∀ v,v<O.length→0≤nth O v
 hi:∀ v,v<O.length→nth O v≤T.length
 le:∀ v,v+1<O.length→nth O v≤nth O (v+1)
theorem rowL_len {O T:List Int} (h:OffOk O T) {v:Nat} (hv:v+1<O.length):(rowL O T v).length=(nth O (v+1)).toNat - (nth O v).toNat:=by
 have h1:=h.hi (v+1) hv
 unfold rowL
 rw [List.length_take,List.length_drop]
 omega
theorem rowL_nth {O T:List Int} {v j:Nat} (hj:j<(rowL O T v).length):nth (rowL O T v) j=nth T ((nth O v).toNat+j):=by
 have hl:(nth O v).toNat+j<T.length:=by unfold rowL at hj;rw [List.length_take,List.length_drop] at hj;omega
 rw [nth_eq hj,nth_eq hl]
 simp only [rowL,List.getElem_take,List.getElem_drop]
def okRow (n:Int) (l:List Int):Bool:=(List.range l.length).all (okAt n l)
theorem okRow_iff {n:Int} {l:List Int}:okRow n l=true↔(∀ x∈l,0≤x∧x<n)∧Rises ltI l:=by
 unfold okRow
 rw [List.all_eq_true]
 constructor
 ·intro h
  have h1:∀ i,i<l.length→okAt n l i=true:=fun i hi=>h i (List.mem_range.2 hi)
  refine⟨fun x hx=>?_,?_⟩
  ·obtain⟨i,hi,rfl⟩:=List.mem_iff_getElem.1 hx
   have:=h1 i hi
   unfold okAt at this
   rw [nth_eq hi] at this
   simp only [Bool.and_eq_true,decide_eq_true_eq] at this
   exact this.1
  ·rw [← rise_iff stoI]
   unfold riseB
   rw [List.all_eq_true]
   intro i hi
   rw [List.mem_range] at hi
   have:=h1 (i+1) (by omega)
   unfold okAt at this
   unfold riseAt ltI
   simp at this ⊢
   exact this.2
 ·rintro⟨h1,h2⟩ i hi
  rw [List.mem_range] at hi
  have h3:=h1 _ (nth_mem hi)
  unfold okAt
  rw [decide_eq_true h3.1,decide_eq_true h3.2]
  rcases Nat.eq_zero_or_pos i with h4 | h4
  ·simp [h4]
  ·have:=rises_nth h2 (k:=i - 1) (by omega)
   rw [show i - 1+1=i by omega] at this
   simp [this]
def sortB (O:List Int):Bool:=(List.range (O.length - 1)).all fun v=>decide (nth O v≤nth O (v+1))
def offB (O T:List Int):Bool:=decide (2≤O.length) && decide (O.length≤201) && decide (T.length≤2000) && decide (nth O 0=0) && decide (nth O (O.length - 1)=T.length) && sortB O
def halfB (O T:List Int):Bool:=offB O T && (List.range (O.length - 1)).all fun v=>okRow ((O.length - 1:Nat):Int) (rowL O T v)
theorem sortB_at {O:List Int} (h:sortB O=true) {v:Nat} (hv:v+1<O.length):nth O v≤nth O (v+1):=by
 unfold sortB at h
 have:=List.all_eq_true.1 h v (List.mem_range.2 (by omega))
 simpa using this
theorem sortB_le {O:List Int} (h:sortB O=true):∀ (d v:Nat),v+d<O.length→nth O v≤nth O (v+d)
 | 0,v,_=>Int.le_refl _
 | d+1,v,hv=>Int.le_trans (sortB_le h d v (by omega)) (sortB_at h (by omega))
theorem offB_parts {O T:List Int} (h:offB O T=true):2≤O.length∧O.length≤201∧T.length≤2000∧nth O 0=0∧nth O (O.length - 1)=T.length∧sortB O=true:=by
 unfold offB at h
 simp only [Bool.and_eq_true,decide_eq_true_eq] at h
 obtain⟨⟨⟨⟨⟨h1,h2⟩,h3⟩,h4⟩,h5⟩,h6⟩:=h
 exact⟨h1,h2,h3,h4,h5,h6⟩
theorem offOk_of {O T:List Int} (h:offB O T=true):OffOk O T:=by
 obtain⟨h1,h2,h3,h4,h5,h6⟩:=offB_parts h
 refine⟨h1,fun v hv=>?_,fun v hv=>?_,fun v hv=>sortB_at h6 hv⟩
 ·have:=sortB_le h6 v 0 (by omega)
  rw [h4,Nat.zero_add] at this;exact this
 ·have:=sortB_le h6 (O.length - 1 - v) v (by omega)
  rw [show v+(O.length - 1 - v)=O.length - 1 by omega,h5] at this;exact this
def checkR (O T R V:List Int):Bool :=
 decide (O.length=R.length) && decide (T.length=V.length) && halfB O T && halfB R V && (pairs O T).all fun x=>inB (rowL R V x.2.toNat) x.1
def okStep (n:Int) (p x:Int × Int):Bool:=decide (0≤x.2) && decide (x.2<n) && !(decide (x.1=p.1) && decide (x.2≤p.2))
def okFrom (n:Int):Int × Int→List (Int × Int)→Bool
 | _,[]=>true
 | p,x :: l=>okStep n p x && okFrom n x l
def lastP:Int × Int→List (Int × Int)→Int × Int
 | p,[]=>p
 | _,x :: l=>lastP x l
theorem lastP_append (p:Int × Int):∀ (l m:List (Int × Int)),lastP p (l ++ m)=lastP (lastP p l) m
 | [],_=>rfl
 | x :: l,m=>by rw [List.cons_append,lastP,lastP,lastP_append x l m]
 termination_by l=>l.length
theorem okFrom_append (n:Int):∀ (l:List (Int × Int)) (p:Int × Int) (m:List (Int × Int)),okFrom n p (l ++ m)=(okFrom n p l && okFrom n (lastP p l) m)
 | [],p,m=>by simp [okFrom,lastP]
 | x :: l,p,m=>by rw [List.cons_append,okFrom,okFrom,okFrom_append n l x m,lastP,Bool.and_assoc]
theorem okFrom_snoc (n:Int) (p:Int × Int) (l:List (Int × Int)) (x:Int × Int):okFrom n p (l ++ [x])=(okFrom n p l && okStep n (lastP p l) x):=by
 rw [okFrom_append];simp [okFrom]
theorem lastP_snoc (p:Int × Int) (l:List (Int × Int)) (x:Int × Int):lastP p (l ++ [x])=x:=by rw [lastP_append];rfl
theorem okFrom_no {n:Int} {p:Int × Int} {l m:List (Int × Int)} (h:okFrom n p l=false) (hp:l <+: m):okFrom n p m=false:=by
 obtain⟨t,rfl⟩:=hp
 rw [okFrom_append,h];rfl
theorem okFrom_same (n v:Int):∀ (l:List Int) (y:Int),okFrom n (v,y) (l.map fun x=>(v,x))=true↔(∀ x∈l,0≤x∧x<n)∧Rises ltI (y :: l)
 | [],y=>by simp [okFrom,Rises]
 | x :: l,y=>by
  rw [List.map_cons,okFrom,Bool.and_eq_true,okFrom_same n v l x]
  unfold okStep
  simp only [decide_true,Bool.true_and,Bool.and_eq_true,decide_eq_true_eq,Bool.not_eq_true',decide_eq_false_iff_not]
  constructor
  ·rintro⟨⟨⟨h1,h2⟩,h3⟩,h4,h5⟩
   refine⟨fun z hz=>?_,?_⟩
   ·rcases List.mem_cons.1 hz with rfl | hz
    ·exact⟨h1,h2⟩
    ·exact h4 z hz
   ·refine List.pairwise_cons.2 ⟨fun z hz=>?_,h5⟩
    rcases List.mem_cons.1 hz with rfl | hz
    ·simp [ltI];omega
    ·have:=(List.pairwise_cons.1 h5).1 z hz
     simp [ltI] at this ⊢;omega
  ·rintro⟨h1,h2⟩
   obtain⟨h3,h4⟩:=List.pairwise_cons.1 h2
   have:=h3 x (by simp)
   simp [ltI] at this
   exact⟨⟨h1 x (by simp),by omega⟩,fun z hz=>h1 z (by simp [hz]),h4⟩
theorem okFrom_row {n v:Int} {p:Int × Int} (hp:p.1≠v) (l:List Int):okFrom n p (l.map fun x=>(v,x))=okRow n l:=by
 rw [Bool.eq_iff_iff,okRow_iff]
 cases l with
 | nil=>simp [okFrom,Rises]
 | cons x l =>
  rw [List.map_cons,okFrom,Bool.and_eq_true,okFrom_same n v l x]
  unfold okStep
  have hne:decide (v=p.1)=false:=by simp;exact fun e=>hp e.symm
  simp only [hne,Bool.false_and,Bool.not_false,Bool.and_true,Bool.and_eq_true,decide_eq_true_eq]
  constructor
  ·rintro⟨h1,h2,h3⟩
   exact⟨fun z hz=>(List.mem_cons.1 hz).elim (fun e=>e ▸ h1) (h2 z),h3⟩
  ·rintro⟨h1,h2⟩
   exact⟨h1 x (by simp),fun z hz=>h1 z (by simp [hz]),h2⟩
theorem lastP_row (p:Int × Int) (v:Int):∀ l:List Int,(lastP p (l.map fun x=>(v,x))).1=if l=[] then p.1 else v
 | []=>rfl
 | x :: l=>by
  rw [List.map_cons,lastP,lastP_row (v,x) v l]
  by_cases h:l=[] <;> simp [h]
theorem lastP_lt (O T:List Int):∀ k:Nat,(lastP (-1,0) (pairsK O T k)).1<k
 | 0=>by simp [pairsK,lastP]
 | k+1=>by
  rw [pairsK_step,lastP_append]
  unfold rowX
  rw [lastP_row]
  have:=lastP_lt O T k
  split <;> omega
theorem okFrom_pairs (n:Int) (O T:List Int):∀ k:Nat,okFrom n (-1,0) (pairsK O T k)=(List.range k).all fun v=>okRow n (rowL O T v)
 | 0=>rfl
 | k+1=>by
  rw [pairsK_step,okFrom_append,okFrom_pairs n O T k,List.range_succ,List.all_append]
  congr 1
  unfold rowX
  rw [okFrom_row (by have:=lastP_lt O T k;omega)]
  simp
theorem halfB_pairs {O T:List Int} (h:offB O T=true):halfB O T=okFrom ((O.length - 1:Nat):Int) (-1,0) (pairs O T):=by
 unfold halfB pairs
 rw [h,okFrom_pairs,Bool.true_and]
theorem mem_pairs {O T:List Int} {x:Int × Int}:x∈pairs O T↔∃ v,v<O.length - 1∧x.1=(v:Int)∧x.2∈rowL O T v:=by
 unfold pairs pairsK rowX
 simp only [List.mem_flatMap,List.mem_range,List.mem_map]
 constructor
 ·rintro⟨v,h1,y,h2,rfl⟩;exact⟨v,h1,rfl,h2⟩
 ·rintro⟨v,h1,h2,h3⟩;exact⟨v,h1,x.2,h3,by rw [← h2]⟩
end
section
open Go Go.RowKit
section
variable {α:Type} [Inhabited α] {lt:α→α→Bool}
def swapL (X:List α) (i j:Nat):List α:=(X.set i (nth X j)).set j (nth X i)
theorem nth_setg {X:List α} {i k:Nat} {a:α} (hk:k<X.length):nth (X.set i a) k=if k=i then a else nth X k:=by
 rw [nth_eq (by simpa using hk),List.getElem_set]
 by_cases h:i=k
 ·rw [if_pos h,if_pos h.symm]
 ·rw [if_neg h,if_neg (fun e=>h e.symm),nth_eq hk]
theorem swapL_nth {X:List α} {i j k:Nat} (hk:k<X.length):nth (swapL X i j) k=if k=j then nth X i else if k=i then nth X j else nth X k:=by
 unfold swapL
 rw [nth_setg (by simpa using hk),nth_setg hk]
theorem set_perm {X:List α}:∀ {i:Nat} {a:α},i<X.length→(a :: X).Perm (nth X i :: X.set i a):=by
 induction X with
 | nil=>intro i a h;cases h
 | cons b X ih =>
  intro i a h
  cases i with
  | zero=>rw [nth_eq (by simp)];exact List.Perm.swap _ _ _
  | succ i =>
   have h':i<X.length:=by simpa using h
   have e:nth (b :: X) (i+1)=nth X i:=by rw [nth_eq (by simpa using h),nth_eq h'];simp
   rw [e,List.set_cons_succ]
   exact(List.Perm.swap _ _ _).trans (((ih h').cons b).trans (List.Perm.swap _ _ _))
theorem swapL_perm {X:List α} {i j:Nat} (hi:i<X.length) (hj:j<X.length):(swapL X i j).Perm X:=by
 have h1:=set_perm (X:=X) (i:=i) (a:=nth X j) hi
 have h2:=set_perm (X:=X.set i (nth X j)) (i:=j) (a:=nth X i) (by simpa using hj)
 have e:nth (X.set i (nth X j)) j=nth X j:=by
  rw [nth_eq (by simpa using hj),List.getElem_set]
  by_cases h:i=j
  ·rw [if_pos h]
  ·rw [if_neg h,nth_eq hj]
 rw [e] at h2
 exact((h2.symm.trans h1.symm).cons_inv)
def HeapN (lt:α→α→Bool) (n:Nat) (X:List α):Prop:=∀ i,0<i→i<n→lt (nth X i) (nth X ((i - 1) / 2))=false
def UpH (lt:α→α→Bool) (n j:Nat) (X:List α):Prop:=(∀ i,0<i→i<n→i≠j→lt (nth X i) (nth X ((i - 1) / 2))=false)∧∀ i,0<i→i<n→(i - 1) / 2=j→0<j→lt (nth X i) (nth X ((j - 1) / 2))=false
def DnH (lt:α→α→Bool) (n j:Nat) (X:List α):Prop:=(∀ i,0<i→i<n→(i - 1) / 2≠j→lt (nth X i) (nth X ((i - 1) / 2))=false)∧∀ i,0<i→i<n→(i - 1) / 2=j→0<j→lt (nth X i) (nth X ((j - 1) / 2))=false
theorem up_start {n:Nat} {X:List α} (h:HeapN lt n X):UpH lt (n+1) n X :=
 ⟨fun i h0 h1 h2=>h i h0 (by omega),fun i h0 h1 h2 h3=>by omega⟩
theorem up_end {n j:Nat} {X:List α} (h:UpH lt n j X) (hj:j=0∨lt (nth X j) (nth X ((j - 1) / 2))=false):HeapN lt n X:=fun i h0 h1=>by
 by_cases e:i=j
 ·subst e
  rcases hj with h2 | h2
  ·omega
  ·exact h2
 ·exact h.1 i h0 h1 e
omit [Inhabited α] in
theorem STO.le_trans (hs:STO lt) {a b c:α} (h1:lt b a=false) (h2:lt c b=false):lt c a=false:=by
 cases h:lt c a with
 | false=>rfl
 | true=>rw [hs.le_lt h2 h] at h1;cases h1
theorem up_step (hs:STO lt) {n j:Nat} {X:List α} (hn:n≤X.length) (hj:j<n) (h0:0<j) (h:UpH lt n j X) (hl:lt (nth X j) (nth X ((j - 1) / 2))=true):UpH lt n ((j - 1) / 2) (swapL X j ((j - 1) / 2)):=by
 have hp:(j - 1) / 2<j:=by omega
 generalize hpp:(j - 1) / 2=p at *
 have es:∀ k,k<n→nth (swapL X j p) k=if k=p then nth X j else if k=j then nth X p else nth X k:=fun k hk=>swapL_nth (by omega)
 constructor
 ·intro i hi1 hi2 hi3
  rw [es i hi2,es ((i - 1) / 2) (by omega),if_neg hi3]
  by_cases e:i=j
  ·subst e
   rw [if_pos rfl,hpp,if_pos rfl]
   exact hs.asymm hl
  ·rw [if_neg e]
   by_cases e1:(i - 1) / 2=p
   ·rw [if_pos e1]
    have h2:=h.1 i hi1 hi2 e
    rw [e1] at h2
    exact hs.le_trans (hs.asymm hl) h2
   ·rw [if_neg e1]
    by_cases e2:(i - 1) / 2=j
    ·rw [if_pos e2]
     have:=h.2 i hi1 hi2 e2 h0
     rw [hpp] at this;exact this
    ·rw [if_neg e2];exact h.1 i hi1 hi2 e
 ·intro i hi1 hi2 hi3 hp0
  have hpp2:(p - 1) / 2≠p:=by omega
  have hpp3:(p - 1) / 2≠j:=by omega
  have hip:i≠p:=by omega
  rw [es i hi2,es ((p - 1) / 2) (by omega),if_neg hip,if_neg hpp2,if_neg hpp3]
  have hpar:=h.1 p hp0 (by omega) (by omega)
  by_cases e:i=j
  ·rw [if_pos e];exact hpar
  ·rw [if_neg e]
   have h2:=h.1 i hi1 hi2 e
   rw [hi3] at h2
   exact hs.le_trans hpar h2
theorem dn_start {n:Nat} {X:List α} (hn:X.length=n+1) (h:HeapN lt (n+1) X):DnH lt n 0 (swapL X 0 n):=by
 have es:∀ k,k<n→0<k→nth (swapL X 0 n) k=nth X k:=fun k hk h0=>by
  rw [swapL_nth (by omega),if_neg (by omega),if_neg (by omega)]
 exact⟨fun i h0 h1 h2=>by rw [es i h1 h0,es _ (by omega) (by omega)];exact h i h0 (by omega),fun i h0 h1 h2 h3=>by omega⟩
theorem dn_leaf {n j:Nat} {X:List α} (h:DnH lt n j X) (hj:n≤2*j+1):HeapN lt n X:=fun i h0 h1=>h.1 i h0 h1 (by omega)
def LeastC (lt:α→α→Bool) (n j c:Nat) (X:List α):Prop:=c<n∧0<c∧(c - 1) / 2=j∧∀ k,0<k→k<n→(k - 1) / 2=j→lt (nth X k) (nth X c)=false
theorem least_one (hs:STO lt) {n j:Nat} {X:List α} (h:2*j+1<n) (h2:n≤2*j+2∨lt (nth X (2*j+2)) (nth X (2*j+1))=false):LeastC lt n j (2*j+1) X :=
 ⟨h,by omega,by omega,fun k h0 h1 h3=>by
  have:k=2*j+1∨k=2*j+2:=by omega
  rcases this with rfl | rfl
  ·exact hs.irrefl _
  ·rcases h2 with h2 | h2
   ·omega
   ·exact h2⟩
theorem least_two (hs:STO lt) {n j:Nat} {X:List α} (h:2*j+2<n) (h2:lt (nth X (2*j+2)) (nth X (2*j+1))=true):LeastC lt n j (2*j+2) X :=
 ⟨h,by omega,by omega,fun k h0 h1 h3=>by
  have:k=2*j+1∨k=2*j+2:=by omega
  rcases this with rfl | rfl
  ·exact hs.asymm h2
  ·exact hs.irrefl _⟩
theorem dn_end (hs:STO lt) {n j c:Nat} {X:List α} (h:DnH lt n j X) (hc:LeastC lt n j c X) (hl:lt (nth X c) (nth X j)=false):HeapN lt n X:=fun i h0 h1=>by
 by_cases e:(i - 1) / 2=j
 ·rw [e];exact hs.le_trans hl (hc.2.2.2 i h0 h1 e)
 ·exact h.1 i h0 h1 e
theorem dn_step (hs:STO lt) {n j c:Nat} {X:List α} (hn:n≤X.length) (h:DnH lt n j X) (hc:LeastC lt n j c X) (hl:lt (nth X c) (nth X j)=true):DnH lt n c (swapL X j c):=by
 obtain⟨c1,c2,c3,c4⟩:=hc
 have hjc:j<c:=by omega
 have es:∀ k,k<n→nth (swapL X j c) k=if k=c then nth X j else if k=j then nth X c else nth X k:=fun k hk=>swapL_nth (by omega)
 constructor
 ·intro i hi1 hi2 hi3
  rw [es i hi2,es ((i - 1) / 2) (by omega),if_neg hi3]
  by_cases e:i=c
  ·subst e
   rw [if_pos rfl,c3,if_pos rfl]
   exact hs.asymm hl
  ·rw [if_neg e]
   by_cases e1:i=j
   ·subst e1
    rw [if_pos rfl,if_neg (by omega)]
    exact h.2 c c2 c1 c3 hi1
   ·rw [if_neg e1]
    by_cases e2:(i - 1) / 2=j
    ·rw [if_pos e2];exact c4 i hi1 hi2 e2
    ·rw [if_neg e2];exact h.1 i hi1 hi2 e2
 ·intro i hi1 hi2 hi3 _
  have h1:i≠c:=by omega
  have h2:i≠j:=by omega
  rw [es i hi2,c3,es j (by omega),if_neg h1,if_neg h2,if_neg (by omega),if_pos rfl]
  have:=h.1 i hi1 hi2 (by omega)
  rw [hi3] at this;exact this
theorem heap_min (hs:STO lt) {n:Nat} {X:List α} (h:HeapN lt n X):∀ i,i<n→lt (nth X i) (nth X 0)=false:=by
 intro i
 induction i using Nat.strongRecOn with
 | _ i ih =>
  intro hi
  by_cases h0:i=0
  ·subst h0;exact hs.irrefl _
  ·exact hs.le_trans (ih ((i - 1) / 2) (by omega) (by omega)) (h i (by omega) hi)
theorem heap_take {n:Nat} {X:List α} (h:HeapN lt n X) (hn:n≤X.length):HeapN lt n (X.take n):=fun i h0 h1=>by
 have e:∀ k,k<n→nth (X.take n) k=nth X k:=fun k hk=>by rw [nth_eq (by simp;omega),nth_eq (by omega)];simp
 rw [e i h1,e _ (by omega)];exact h i h0 h1
theorem pop_perm {n:Nat} {X Y:List α} {m:α} (hX:X.length=n+1) (hp:Y.Perm X) (hm:nth Y n=m):(m :: Y.take n).Perm X:=by
 have hl:Y.length=n+1:=by rw [hp.length_eq,hX]
 have e:Y=Y.take n ++ [m]:=by
  have h1:=List.take_append_drop n Y
  have h2:Y.drop n=[m]:=by
   rw [← hm,nth_eq (by omega),List.drop_eq_getElem_cons (by omega),List.drop_of_length_le (by omega)]
  rw [h2] at h1;exact h1.symm
 refine List.Perm.trans ?_ hp
 conv=>rhs;rw [e]
 exact(List.perm_append_singleton m _).symm
end
end
section
open Go Go.RowKit
def wk (nx:Nat→List Int) (n s:Nat):Nat→Nat→Bool
 | 0,v=>v == s
 | k+1,v=>(List.range n).any fun u=>wk nx n s k u && (nx u).contains (v:Int)
def lev (nx:Nat→List Int) (n s v:Nat):Int:=match (List.range n).find? (fun k=>wk nx n s k v) with | some k=>(k:Int) | none=>-1
structure LevOk (nx:Nat→List Int) (n s:Nat) (f:Nat→Int):Prop where
 ge:∀ v,v<n→-1≤f v
 zero:∀ v,v<n→(f v=0↔v=s)
 next:∀ u v,u<n→v<n→(v:Int)∈nx u→0≤f u→0≤f v∧f v≤f u+1
 pred:∀ v,v<n→0<f v→∃ u,u<n∧f u=f v - 1∧(v:Int)∈nx u
theorem wk_succ {nx:Nat→List Int} {n s k v:Nat}:wk nx n s (k+1) v=true↔∃ u,u<n∧wk nx n s k u=true∧(v:Int)∈nx u:=by
 simp [wk]
theorem LevOk.wk {nx:Nat→List Int} {n s:Nat} {f:Nat→Int} (h:LevOk nx n s f):∀ (k v:Nat),v<n→f v=k→wk nx n s k v=true
 | 0,v,hv,hk=>by
  have:=(h.zero v hv).1 (by omega)
  simpa [Proofs.YtfjhjennfiihhaaGreat.wk] using this
 | k+1,v,hv,hk=>by
  obtain⟨u,hu,h1,h2⟩:=h.pred v hv (by omega)
  exact wk_succ.2 ⟨u,hu,h.wk k u hu (by omega),h2⟩
theorem least_nat {p:Nat→Bool}:∀ k,p k=true→∃ j,j≤k∧p j=true∧∀ i,i<j→p i=false
 | 0,h=>⟨0,Nat.le_refl _,h,fun i hi=>by omega⟩
 | k+1,h=>by
  by_cases h1:∃ j,j≤k∧p j=true
  ·obtain⟨j,hj,h2⟩:=h1
   obtain⟨i,hi,h3,h4⟩:=least_nat j h2
   exact⟨i,by omega,h3,h4⟩
  ·refine⟨k+1,Nat.le_refl _,h,fun i hi=>?_⟩
   cases h2:p i with
   | false=>rfl
   | true=>exact absurd ⟨i,by omega,h2⟩ h1
end
section
open Go Go.RowKit
def cut (f:Nat→Int) (k:Int) (v:Nat):Int:=if 0≤f v∧f v≤k then f v else -1
end
section
open Go Go.RowKit Go.Maps
def allK (L:List Po) (ws:List ByteArray) (k:Nat):List Int:=putAll ltI ((findL L (nth ws 0)).filter fun x=>(ws.take k).all fun u=>(findL L u).contains x)
theorem allK_mem {L:List Po} {ws:List ByteArray} {k:Nat} {x:Int}:x∈allK L ws k↔(x∈findL L (nth ws 0)∧∀ u∈ws.take k,x∈findL L u):=by
 unfold allK
 rw [putAll_mem stoI,List.mem_filter,List.all_eq_true]
 simp
theorem allK_one {L:List Po} {ws:List ByteArray} (h:0<ws.length):allK L ws 1=putAll ltI (findL L (nth ws 0)):=by
 refine rises_uniq stoI _ _ (putAll_rises stoI _) (putAll_rises stoI _) fun x=>?_
 rw [allK_mem,putAll_mem stoI,take_succ_nth ws 0 h]
 simp
theorem allK_step {L:List Po} {ws:List ByteArray} {k:Nat} (h:k<ws.length):bothS (allK L ws k) (findL L (nth ws k))=allK L ws (k+1):=by
 refine rises_uniq stoI _ _ (putAll_rises stoI _) (putAll_rises stoI _) fun x=>?_
 rw [allK_mem]
 unfold bothS
 rw [putAll_mem stoI,List.mem_filter,allK_mem,inB_iff,take_succ_nth ws k h]
 constructor
 ·rintro⟨⟨h1,h2⟩,h3⟩
  refine⟨h1,fun u hu=>?_⟩
  rcases List.mem_append.1 hu with hu | hu
  ·exact h2 u hu
  ·rw [List.mem_singleton] at hu;subst hu;exact h3
 ·rintro⟨h1,h2⟩
  exact⟨⟨h1,fun u hu=>h2 u (List.mem_append_left _ hu)⟩,h2 _ (by simp)⟩
theorem allK_len {L:List Po} (hok:PoOk L) (ws:List ByteArray) (k:Nat):(allK L ws k).length≤1000:=by
 unfold allK
 exact Nat.le_trans (putAll_len _ _) (Nat.le_trans (List.length_filter_le _ _) (findL_ok hok _).1)
theorem allK_end {L:List Po} {ws:List ByteArray} {k:Nat} (h:ws.length≤k):allK L ws k=allS L ws:=by
 unfold allK allS;rw [List.take_of_length_le h]
theorem All05 (p:Option Addr) (np cp:Nat) (hs:List Hd) (L:List Po) (pr:Option Addr) (nr cr:Nat) (ws:List ByteArray) (w:World) (hL:RdP w p np hs L) (hok:PoOk L) (hR:Rd w 1 pr nr (encS ws)) (h0:0<nr) (hn:nr≤100) :
  Calls Tryz.prog 122 #[.slice p np cp,.slice pr nr cr] w fun e w'=>∃ q c,e=.returned (.tuple #[.slice q (allS L ws).length c,.int .i64 0])∧Sep w w' [.own 3 1 q (allS L ws).length c (encI (allS L ws))]:=by
 have HF0:=Lib.hid (findL_ok hok)
 have HKL:=Lib.hid (allK_len hok ws)
 have p1:=hR.ptr
 have g1:=hR.cS h0
 have L1:=Lib.hid hR.nS
 have HL:=Lib.hid hL;clear hL
 have HOK:=Lib.hid hok;clear hok
 have HR:=Lib.hid hR;clear hR
 have hne:((nr:Int) == 0)=false:=by simp;omega
 have d2:(0:Int)<nr:=by omega
 have HK1:Hid (putAll ltI (findL L (nth ws 0))=allK L ws 1):=(allK_one (by rw [← L1.out];exact h0)).symm
 have S0:=Lib.hid (Sep.start w)
 go_enter Tryz.func122,Tryz.ntmps122
 go_wp2_with (first
  | (go_at_call 193;go_must (refine(Rising05s q0 _ c0 (findL L (nth ws 0)) _ (S1.out.rd 0 rfl (by have:=(HF0.out (nth ws 0)).1;omega)) (by have:=(HF0.out (nth ws 0)).1;omega)).mono ?_;rintro e w2 ⟨q1,c1,rfl,T⟩;have S2:=Lib.hid (S1.out.comp T);clear T))
  | (go_at_call 194;go_must (refine(Find05 p np cp hs L (nth ws 0) _ HL.out HOK.out).mono ?_;rintro e w1 ⟨q0,c0,rfl,T⟩;have S1:=Lib.hid T;clear T)))
 rw [HK1.out]
 have S3:Hid (Sep w w2 [.own 3 1 q1 (allK L ws 1).length c1 (encI (allK L ws 1))]):=by rw [← HK1.out];exact S2.out.pick [0] (by decide) rfl
 clear S2 S1 HK1
 go_loopw [6,7] (fun v i wr=>∃ (k:Nat) (u:Option Addr) (c:Nat),1≤k∧k≤nr∧i=.int .i64 k∧v=.slice u (allK L ws k).length c∧Sep w wr [.own 3 1 u (allK L ws k).length c (encI (allK L ws k))]) (fun _ i _=>nr - (intOf i).toNat)
 case atStart=>exact⟨1,q1,c1,Nat.le_refl _,h0,rfl,rfl,S3.out⟩
 case round =>
  clear S3
  obtain⟨k,u,c,hk1,hk,rfl,rfl,S⟩:=hrel
  have hkl:=HKL.out k
  by_cases hlt:k<nr
  ·have g2:=S.ext.cell (HR.out.cS hlt)
   have HST:=Lib.hid (allK_step (L:=L) (ws:=ws) (k:=k) (by rw [← L1.out];exact hlt))
   have SH:=Lib.hid S;clear S
   have d1:(0:Int)≤k:=by omega
   have d3:(k:Int)<nr:=by omega
   go_wp2_with (first
    | (go_at_call 195;go_must (refine(Both05 u _ c (allK L ws k) q3 _ c3 (findL L (nth ws k)) _ (S4.out.rd 1 rfl (by omega)) (S4.out.rd 0 rfl (by have:=(HF0.out (nth ws k)).1;omega)) (by omega)).mono ?_;rintro e w4 ⟨q4,c4,rfl,T⟩;have S5:=Lib.hid (S4.out.comp T);clear T))
    | (go_at_call 194;go_must (refine(Find05 p np cp hs L (nth ws k) _ (HL.out.ext SH.out.ext) HOK.out).mono ?_;rintro e w3 ⟨q3,c3,rfl,T⟩;have S4:=Lib.hid (SH.out.comp T);clear T)))
   go_roundw
   case rel=>exact⟨k+1,q4,c4,by omega,by omega,by go_num,by rw [← HST.out],by rw [← HST.out];exact S5.out.pick [0] (by decide) rfl⟩
   case measure=>simp [intOf];omega
  ·have HE:Hid (allK L ws k=allS L ws):=allK_end (by rw [← L1.out];omega)
   have SH:=Lib.hid S;clear S
   go_wp2
   go_ret2
   rw [← HE.out]
   exact⟨u,c,rfl,SH.out⟩
theorem All05n (p:Option Addr) (np cp:Nat) (pr:Option Addr) (cr:Nat) (w:World):Calls Tryz.prog 122 #[.slice p np cp,.slice pr 0 cr] w fun e w'=>e=.returned (.tuple #[.slice none 0 0,.int .i64 1])∧Ext w w':=by
 go_enter Tryz.func122,Tryz.ntmps122
 go_wp2
 go_ret2
 exact⟨rfl,Below.refl _ _⟩
theorem AllG (p:Option Addr) (np cp:Nat) (hs:List Hd) (L:List Po) (pr:Option Addr) (nr cr:Nat) (ws:List ByteArray) (w:World) (hL:RdP w p np hs L) (hok:PoOk L) (hR:Rd w 1 pr nr (encS ws)) (hcr:nr≤cr) (h0:0<nr) (hn:nr≤100) :
  Calls Tryz.prog 115 #[.slice p np cp,.slice pr nr cr] w fun e w'=>∃ q c,e=.returned (.tuple #[.slice q (allS L ws).length c,.int .i64 0])∧Sep w w' [.own 3 1 q (allS L ws).length c (encI (allS L ws))]:=by
 have HF:=Lib.hid (foundAll p np cp hs L pr nr cr ws w hL hok hR hcr h0 hn)
 clear hL hok hR
 go_enter Tryz.func115,Tryz.ntmps115
 go_wp2_with (go_at_call 187;go_must (refine HF.out.mono ?_;rintro e w2 ⟨q1,c1,rfl,T⟩;have S2:=Lib.hid T;clear T))
 go_ret2
 exact⟨q1,c1,rfl,S2.out⟩
theorem AllGn (p:Option Addr) (np cp:Nat) (pr:Option Addr) (cr:Nat) (w:World):Calls Tryz.prog 115 #[.slice p np cp,.slice pr 0 cr] w fun e w'=>e=.returned (.tuple #[.slice none 0 0,.int .i64 1])∧Ext w w':=by
 go_enter Tryz.func115,Tryz.ntmps115
 go_wp2_with (go_at_call 187;go_must (refine(foundAll0 p np cp pr cr _).mono ?_;rintro e w2 ⟨rfl,T⟩;have S2:=Lib.hid T;clear T))
 go_ret2
 exact⟨rfl,S2.out⟩
end
section
open Go Go.RowKit Go.Maps
theorem own_small {w:World} {base:Nat} {e:TypeId} {size:Nat} {q:Option Addr} {n c:Nat} {xs:List Value} (h:w.ownsRow base e size (.slice q n c) n xs):n≤9223372036854775807:=by
 rcases h.2 with ⟨_,h2⟩ | ⟨g,cap,cur,h1,_,_,h3,h4,_⟩
 ·omega
 ·unfold maxLen at h4;omega
def encPo (L:List Po) (hs:List Hd):List Value:=(L.zip hs).flatMap fun x=>[.string x.1.1,x.2.v]
theorem encPo_len:∀ (L:List Po) (hs:List Hd),hs.length=L.length→(encPo L hs).length=L.length*2
 | [],_,_=>by simp [encPo]
 | p :: L,[],h=>by simp at h
 | p :: L,a :: hs,h=>by
  have:=encPo_len L hs (by simpa using h)
  unfold encPo at this ⊢
  rw [List.zip_cons_cons,List.flatMap_cons,List.length_append,this,List.length_cons];simp;omega
theorem encPo_get:∀ (L:List Po) (hs:List Hd) (k:Nat),hs.length=L.length→k<L.length→(encPo L hs).getD (k*2) undef=.string (nth L k).1∧(encPo L hs).getD (k*2+1) undef=(nth hs k).v
 | [],_,k,_,h=>by simp at h
 | p :: L,[],_,h,_=>by simp at h
 | p :: L,a :: hs,0,_,_=>⟨rfl,rfl⟩
 | p :: L,a :: hs,k+1,h,hk=>by
  have:=encPo_get L hs k (by simpa using h) (by simpa using hk)
  have e1:(k+1)*2=k*2+1+1:=by omega
  have e2:nth (p :: L) (k+1)=nth L k:=rfl
  have e3:nth (a :: hs) (k+1)=nth hs k:=rfl
  rw [e1,e2,e3]
  exact this
def rowsP (L:List Po) (hs:List Hd):List (Hd × List Value):=hs.zip (L.map fun p=>encI p.2)
theorem rowsP_snoc (L:List Po) (hs:List Hd) (p:Po) (a:Hd) (h:hs.length=L.length):rowsP (L ++ [p]) (hs ++ [a])=rowsP L hs ++ [(a,encI p.2)]:=by
 unfold rowsP
 rw [List.map_append,List.zip_append (by simpa using h)];rfl
theorem rowsP_at {L:List Po} {hs:List Hd} {k:Nat} (h:hs.length=L.length) (hk:k<L.length):(nth hs k,encI (nth L k).2)∈rowsP L hs:=by
 unfold rowsP
 rw [List.mem_iff_getElem]
 refine⟨k,by simp;omega,?_⟩
 rw [List.getElem_zip,nth_eq (by omega),nth_eq hk,List.getElem_map]
theorem RdP.of_sep {w0 w:World} {Γ:List Pc} (S:Sep w0 w Γ) (j i:Nat) {q:Option Addr} {n c:Nat} {hs:List Hd} {L:List Po} (hj:Γ[j]?=some (.many 3 1 (rowsP L hs))) (hi:Γ[i]?=some (.own 78 2 q n c (encPo L hs))) (hl:hs.length=L.length):RdP w q n hs L:=by
 have ho:=S.own i hi
 have hr:=Rd.of_own ho (own_small ho)
 have hn:n=L.length:=by have:=ho.1;rw [encPo_len L hs hl] at this;omega
 refine⟨hn,hr.ptr,hr.small,fun k hk=>?_,fun k hk=>?_,fun k hk=>?_⟩
 ·rw [hr.cells (k*2) (by omega),(encPo_get L hs k hl (by omega)).1]
 ·rw [hr.cells (k*2+1) (by omega),(encPo_get L hs k hl (by omega)).2];rfl
 ·have h1:=S.manyAt j hj _ (rowsP_at hl (show k<L.length by omega))
  exact Rd.of_own h1 (own_small h1)
end
section
open Go Go.RowKit
abbrev Occ:=Int × ByteArray
def plc (O:List Occ) (s:ByteArray):List Int:=(O.filter fun x=>decide (x.2=s)).map (·.1)
theorem plc_snoc (O:List Occ) (v:Int) (t s:ByteArray):plc (O ++ [(v,t)]) s=if t=s then plc O s ++ [v] else plc O s:=by
 unfold plc
 rw [List.filter_append,List.filter_cons]
 by_cases h:t=s <;> simp [h]
theorem plc_nil {O:List Occ} {s:ByteArray}:plc O s=[]↔∀ x∈O,x.2≠s:=by
 unfold plc
 rw [List.map_eq_nil_iff,List.filter_eq_nil_iff]
 simp
structure Gath (O:List Occ) (A:List Po):Prop where
 nodup:(A.map (·.1)).Nodup
 keys:∀ s,s∈A.map (·.1)↔∃ x∈O,x.2=s
 at_:∀ p∈A,p.2=plc O p.1
theorem Gath.nil:Gath [] []:=⟨List.nodup_nil,fun s=>by simp,fun p hp=>by cases hp⟩
theorem Gath.new {O:List Occ} {A:List Po} (h:Gath O A) {v:Int} {s:ByteArray} (hs:s ∉ A.map (·.1)):Gath (O ++ [(v,s)]) (A ++ [(s,[v])]):=by
 have hno:∀ x∈O,x.2≠s:=fun x hx e=>hs ((h.keys s).2 ⟨x,hx,e⟩)
 refine⟨?_,fun t=>?_,fun p hp=>?_⟩
 ·rw [List.map_append,List.nodup_append]
  refine⟨h.nodup,by simp,fun a ha b hb=>?_⟩
  simp at hb;subst hb;rintro rfl;exact hs ha
 ·rw [List.map_append,List.mem_append,h.keys t]
  constructor
  ·rintro(⟨x,hx,e⟩ | ht)
   ·exact⟨x,List.mem_append_left _ hx,e⟩
   ·simp at ht;subst ht;exact⟨(v,t),by simp,rfl⟩
  ·rintro⟨x,hx,e⟩
   rcases List.mem_append.1 hx with hx | hx
   ·exact .inl ⟨x,hx,e⟩
   ·rw [List.mem_singleton] at hx;subst hx;right;simp [e.symm]
 ·rw [plc_snoc]
  rcases List.mem_append.1 hp with hp1 | hp1
  ·have hne:s≠p.1:=fun e=>hs (by rw [e];exact List.mem_map_of_mem hp1)
   rw [if_neg hne];exact h.at_ p hp1
  ·rw [List.mem_singleton] at hp1;subst hp1
   rw [if_pos rfl,plc_nil.2 hno];rfl
theorem Gath.find {O:List Occ} {A:List Po} (h:Gath O A) {s:ByteArray} (hs:s∈A.map (·.1)):∃ r,r<A.length∧(nth A r).1=s∧(nth A r).2=plc O s:=by
 obtain⟨p,hp,rfl⟩:=List.mem_map.1 hs
 obtain⟨r,hr,rfl⟩:=List.mem_iff_getElem.1 hp
 refine⟨r,hr,by rw [nth_eq hr],?_⟩
 rw [nth_eq hr];exact h.at_ _ hp
theorem nodup_len {α:Type} [DecidableEq α]:∀ {l m:List α},l.Nodup→(∀ x∈l,x∈m)→l.length≤m.length
 | [],_,_,_=>by simp
 | a :: l,m,h,hm=>by
  obtain⟨h1,h2⟩:=List.nodup_cons.1 h
  have ha:=hm a (by simp)
  have ih:=nodup_len (m:=m.erase a) h2 fun x hx=>(List.mem_erase_of_ne (fun e=>h1 (by rw [← e];exact hx))).2 (hm x (by simp [hx]))
  rw [List.length_erase_of_mem ha] at ih
  have:=List.length_pos_of_mem ha
  rw [List.length_cons];omega
theorem Gath.len {O:List Occ} {A:List Po} (h:Gath O A):A.length≤O.length:=by
 have h1:=nodup_len (m:=O.map (·.2)) h.nodup fun s hs=>by
  obtain⟨x,hx,e⟩:=(h.keys s).1 hs
  exact e ▸ List.mem_map_of_mem hx
 simpa using h1
end
section
open Go Go.RowKit
def IsFront (f:Nat→Int) (n:Nat) (k:Int) (F:List Int):Prop:=F.Nodup∧∀ x,x∈F↔0≤x∧x<n∧f x.toNat=k
def InN (nx:Nat→List Int) (n:Nat):Prop:=∀ u,u<n→∀ x∈nx u,0≤x∧x<n
end
section
open Go Go.RowKit
def offL (n:Nat) (E:List (Int × Int)):List Int:=(List.range (n+1)).map fun (j:Nat)=>((E.countP fun x=>decide (x.1<(j:Int))):Int)
def toL (E:List (Int × Int)):List Int:=E.map (·.2)
def cntL (n:Nat) (E:List (Int × Int)):List Int:=(List.range (n+1)).map fun (j:Nat)=>((E.countP fun x=>decide (x.1+1=(j:Int))):Int)
theorem cntL_len (n:Nat) (E:List (Int × Int)):(cntL n E).length=n+1:=by simp [cntL]
theorem cntL_nth {n j:Nat} (E:List (Int × Int)) (h:j<n+1):nth (cntL n E) j=((E.countP fun x=>decide (x.1+1=(j:Int))):Int):=by
 rw [nth_eq (by rw [cntL_len];exact h)]
 simp [cntL]
theorem cntL_step {n:Nat} (E:List (Int × Int)) (x:Int × Int) {k:Nat} (hk:x.1=(k:Int)) (hn:k<n):cntL n (E ++ [x])=(cntL n E).set (k+1) (nth (cntL n E) (k+1)+1):=by
 apply List.ext_getElem
 ·simp [cntL]
 ·intro i h1 h2
  rw [List.getElem_set]
  by_cases e:k+1=i
  ·subst e
   rw [if_pos rfl,cntL_nth E (by omega)]
   simp [cntL,List.countP_append,hk]
  ·rw [if_neg e]
   have:¬ ((k:Int)+1=(i:Int)):=by omega
   simp [cntL,List.countP_append,hk,this]
def sumL (n:Nat) (E:List (Int × Int)) (v:Nat):List Int:=(List.range (n+1)).map fun (j:Nat)=>if j≤v then ((E.countP fun x=>decide (x.1<(j:Int))):Int) else ((E.countP fun x=>decide (x.1+1=(j:Int))):Int)
theorem sumL_len (n:Nat) (E:List (Int × Int)) (v:Nat):(sumL n E v).length=n+1:=by simp [sumL]
theorem sumL_nth {n j v:Nat} (E:List (Int × Int)) (h:j<n+1):nth (sumL n E v) j=if j≤v then ((E.countP fun x=>decide (x.1<(j:Int))):Int) else ((E.countP fun x=>decide (x.1+1=(j:Int))):Int):=by
 rw [nth_eq (by rw [sumL_len];exact h)]
 simp [sumL]
theorem sumL_zero {n:Nat} {E:List (Int × Int)} (h:∀ x∈E,0≤x.1):sumL n E 0=cntL n E:=by
 apply List.ext_getElem
 ·simp [sumL,cntL]
 ·intro i h1 h2
  simp only [sumL,cntL,List.getElem_map,List.getElem_range]
  by_cases e:i≤0
  ·obtain rfl:i=0:=by omega
   rw [if_pos e]
   rw [List.countP_eq_zero.2 fun x hx=>by have:=h x hx;simp;omega,List.countP_eq_zero.2 fun x hx=>by have:=h x hx;simp;omega]
  ·rw [if_neg e]
theorem sumL_end (n:Nat) (E:List (Int × Int)):sumL n E n=offL n E:=by
 apply List.ext_getElem
 ·simp [sumL,offL]
 ·intro i h1 h2
  simp only [sumL,offL,List.getElem_map,List.getElem_range]
  rw [if_pos (by simp [sumL] at h1;omega)]
theorem count_step (E:List (Int × Int)) (v:Nat):(E.countP fun x=>decide (x.1<((v+1:Nat):Int)))=(E.countP fun x=>decide (x.1+1=((v+1:Nat):Int)))+E.countP fun x=>decide (x.1<(v:Int)):=by
 induction E with
 | nil=>rfl
 | cons x E ih =>
  simp only [List.countP_cons]
  rw [ih]
  by_cases h1:x.1<(v:Int)
  ·have h2:x.1<((v+1:Nat):Int):=by omega
   have h3:¬ (x.1+1=((v+1:Nat):Int)):=by omega
   simp only [h1,h2,h3,decide_true,decide_false,if_true,Bool.false_eq_true,if_false];omega
  ·by_cases h2:x.1+1=((v+1:Nat):Int)
   ·have h3:x.1<((v+1:Nat):Int):=by omega
    simp only [h1,h2,h3,decide_true,decide_false,if_true,Bool.false_eq_true,if_false];omega
   ·have h3:¬ x.1<((v+1:Nat):Int):=by omega
    simp only [h1,h2,h3,decide_false,Bool.false_eq_true,if_false];omega
theorem sumL_step {n:Nat} (E:List (Int × Int)) {v:Nat} (hv:v<n):sumL n E (v+1)=(sumL n E v).set (v+1) (nth (sumL n E v) (v+1)+nth (sumL n E v) v):=by
 apply List.ext_getElem
 ·simp [sumL]
 ·intro i h1 h2
  rw [List.getElem_set]
  by_cases e:v+1=i
  ·subst e
   rw [if_pos rfl,sumL_nth E (by omega),sumL_nth E (by omega),if_neg (by omega),if_pos (Nat.le_refl _)]
   simp only [sumL,List.getElem_map,List.getElem_range]
   rw [if_pos (Nat.le_refl _),count_step]
   omega
  ·rw [if_neg e]
   simp only [sumL,List.getElem_map,List.getElem_range]
   by_cases e2:i≤v
   ·rw [if_pos e2,if_pos (by omega)]
   ·rw [if_neg e2,if_neg (by omega)]
end
section
open Go Go.RowKit Go.Shelf Go.Lib
theorem lessI (x y:Int) (w:World):Calls Tryz.prog 201 #[.int .i64 x,.int .i64 y] w fun e w'=>e=.returned (.bool (decide (x<y)))∧Ext w w' :=
 (Any.cmp_Less_int2 { Tryz.binI with } x y w).mono fun e w' ⟨h1,h2⟩=>⟨h1,by rw [h2];exact Below.refl _ _⟩
theorem IsSortedI (p:Option Addr) (n c:Nat) (l:List Int) (w:World) (hl:Rd w 1 p n (encI l)) (h0:0<n) :
  Calls Tryz.prog 198 #[.slice p n c] w fun e w'=>e=.returned (.bool (sortB l))∧Ext w w':=by
 have p1:=hl.ptr
 have n1:=hl.small
 have l1:=hl.nI
 have HL:=Lib.hid hl;clear hl
 have L1:=Lib.hid l1;clear l1
 go_enter Tryz.func198,Tryz.ntmps198
 go_wp2
 go_loopw [3] (fun i wr=>∃ j:Nat,j<n∧i=.int .i64 j∧(∀ v,j≤v→v+1<n→nth l v≤nth l (v+1))∧Ext w wr) (fun i _=>(intOf i).toNat)
 case atStart=>exact⟨n - 1,by omega,by go_num,fun v h1 h2=>by omega,Below.refl _ _⟩
 case round =>
  obtain⟨j,hj,rfl,ha,hE⟩:=hrel
  have HA:=Lib.hid ha;clear ha
  rcases Nat.eq_zero_or_pos j with hz | hz
  ·subst hz
   have HF:Hid (sortB l=true):=by
    unfold Hid sortB
    rw [List.all_eq_true]
    intro v hv
    rw [List.mem_range] at hv
    exact decide_eq_true (HA.out v (by omega) (by rw [L1.out];omega))
   have HE:=Lib.hid hE;clear hE
   go_wp2
   go_ret
   exact⟨ret_bool HF.out.symm,HE.out⟩
  ·have g1:=hE.cell (HL.out.cI hj)
   have g2:=hE.cell (HL.out.cI (k:=j - 1) (by omega))
   have d1:decide ((0:Int)<(j:Int))=true:=by simp;omega
   have d1n:decide (0<j)=true:=by simp;omega
   have d2:(0:Int)≤j:=by omega
   have d3:(j:Int)<n:=by omega
   have d4:(1:Int)≤(j:Int):=by omega
   have d5:(j:Int) - 1<n:=by omega
   have d6:(0:Int)≤(j:Int) - 1:=by omega
   have HLs:=Lib.hid (fun x:ExtOf wr=>lessI (nth l j) (nth l (j - 1)) x.val)
   have HE:=Lib.hid hE;clear hE
   by_cases hlt:nth l j<nth l (j - 1)
   ·rw [decide_eq_true hlt] at HLs
    have HF:Hid (sortB l=false):=by
     unfold Hid sortB
     refine range_all_no _ _ (j - 1) (by rw [← L1.out];omega) ?_
     rw [show j - 1+1=j by omega]
     simp;exact hlt
    go_wp2
    have x1:=fun x:ExtOf wr=>x.ext.cell g1
    have x2:=fun x:ExtOf wr=>x.ext.cell g2
    refine wp_region_ext (by kernel_rfl) (by kernel_rfl) ?_
    repeat (go_big_quiet_step (((go_at_call 201;exact Calls.ext_of (HLs.out _)))))
    refine wpQuiet_nil ?_
    rintro w1 ⟨⟨_,hb1⟩,rfl⟩
    go_wp2
    go_ret
    exact⟨ret_bool HF.out.symm,Ext.trans HE.out hb1⟩
   ·rw [decide_eq_false hlt] at HLs
    go_wp2
    have x1:=fun x:ExtOf wr=>x.ext.cell g1
    have x2:=fun x:ExtOf wr=>x.ext.cell g2
    refine wp_region_ext (by kernel_rfl) (by kernel_rfl) ?_
    repeat (go_big_quiet_step (((go_at_call 201;exact Calls.ext_of (HLs.out _)))))
    refine wpQuiet_nil ?_
    rintro w1 ⟨⟨_,hb1⟩,rfl⟩
    go_wp2
    go_roundw
    case rel=>exact⟨j - 1,by omega,by go_num,fun v h1 h2=>by
     by_cases h3:v=j - 1
     ·subst h3;rw [show j - 1+1=j by omega];omega
     ·exact HA.out v (by omega) h2,Ext.trans HE.out hb1⟩
    case measure=>simp [intOf];omega
def withB (m:Int) (l:List Int):Bool:=l.all fun x=>decide (0≤x) && decide (x≤m)
theorem withinG (m:Int) (p:Option Addr) (n c:Nat) (l:List Int) (w:World) (hl:Rd w 1 p n (encI l)) :
  Calls Tryz.prog 199 #[.int .i64 m,.slice p n c] w fun e w'=>e=.returned (.bool (withB m l))∧w=w':=by
 have p1:=hl.ptr
 have n1:=hl.small
 have l1:=hl.nI
 have HL:=Lib.hid hl;clear hl
 have L1:=Lib.hid l1;clear l1
 go_enter Tryz.func199,Tryz.ntmps199
 go_wp2
 go_loop [6,9] (fun _ i=>∃ k:Nat,k≤n∧i=.int .i64 k∧(l.take k).all (fun x=>decide (0≤x) && decide (x≤m))=true) (fun _ i=>n - (intOf i).toNat)
 case atStart=>exact⟨0,Nat.zero_le _,rfl,rfl⟩
 case round =>
  obtain⟨k,hk,rfl,ha⟩:=hrel
  have HA:=Lib.hid ha;clear ha
  by_cases hlt:k<n
  ·have g1:=HL.out.cI hlt
   have d1:(0:Int)≤k:=by omega
   have d2:(k:Int)<n:=by omega
   have hkL:k<l.length:=by rw [← L1.out];exact hlt
   by_cases h1:nth l k<0
   ·have b1:decide (nth l k<0)=true:=by simpa using h1
    have HF:Hid (withB m l=false):=all_false_at _ l k hkL (by simp;omega)
    go_wp2
    go_ret
    exact⟨ret_bool HF.out.symm,rfl⟩
   ·have b1:decide (nth l k<0)=false:=by simpa using h1
    by_cases h2:m<nth l k
    ·have b2:decide (m<nth l k)=true:=by simpa using h2
     have HF:Hid (withB m l=false):=all_false_at _ l k hkL (by simp;omega)
     go_wp2
     go_ret
     exact⟨ret_bool HF.out.symm,rfl⟩
    ·have b2:decide (m<nth l k)=false:=by simpa using h2
     have HS:=Lib.hid (all_step (fun x:Int=>decide (0≤x) && decide (x≤m)) l k hkL HA.out (by simp;omega))
     go_wp2
     go_round
     case rel=>exact⟨k+1,by omega,by go_num,HS.out⟩
     case measure=>simp [intOf];omega
  ·have HF:Hid (withB m l=true):=all_end _ l k (by rw [← L1.out];exact hlt) HA.out
   go_wp2
   go_ret
   exact⟨ret_bool HF.out.symm,rfl⟩
theorem allG (po:Option Addr) (no co:Nat) (pt:Option Addr) (nt ct:Nat) (w:World) :
  Calls Tryz.prog 135 #[.slice po no co,.slice pt nt ct] w fun e w'=>e=.returned (.func (.func 200) #[] #[.pointer (some ⟨w.heap.size,0,none⟩),.pointer (some ⟨w.heap.size+1,0,none⟩)])∧w'=(w.alloc (.cells #[.slice po no co] 25)).alloc (.cells #[.slice pt nt ct] 25):=by
 go_enter Tryz.func135,Tryz.ntmps135
 go_wp2
 go_ret
 exact⟨by simp,rfl⟩
theorem Rd.rowOf {w:World} {pt:Option Addr} {nt ct:Nat} {O T:List Int} (hT:Rd w 1 pt nt (encI T)) (hok:OffOk O T) (hct:nt≤ct) {k:Nat} (hk:k+1<O.length) :
  Rd w 1 (cutp pt ct (nth O k).toNat 1) ((nth O (k+1)).toNat - (nth O k).toNat) (encI (rowL O T k)):=by
 have h1:=hok.le k hk
 have h2:=hok.hi (k+1) hk
 have h3:=hT.nI
 have:=hT.cut (l:=(nth O k).toNat) (h:=(nth O (k+1)).toNat) (by omega) (by omega) hct
 rw [encI_drop,encI_take] at this
 exact this
def KpA (n₀ b1 b2:Nat) (W W':World):Prop:=Below n₀ W W'∧W'.heap[b1]?=W.heap[b1]?∧W'.heap[b2]?=W.heap[b2]?
theorem KpA.trans {n₀ b1 b2:Nat} {A B C:World} (h:KpA n₀ b1 b2 A B) (k:KpA n₀ b1 b2 B C):KpA n₀ b1 b2 A C:=⟨Below.trans h.1 k.1,k.2.1.trans h.2.1,k.2.2.trans h.2.2⟩
theorem KpA.refl (n₀ b1 b2:Nat) (A:World):KpA n₀ b1 b2 A A:=⟨Below.refl _ _,rfl,rfl⟩
theorem KpA.ext {n₀ b1 b2:Nat} {A B:World} (h:Ext A B) (hn:n₀≤A.heap.size) (h1:b1<A.heap.size) (h2:b2<A.heap.size):KpA n₀ b1 b2 A B:=⟨h.mono hn,h.block b1 h1,h.block b2 h2⟩
abbrev PairOf (O T:List Int):={ x:Int × Int // x∈pairs O T }
theorem pairs_at {O T:List Int} {k j:Nat} (hk:k<O.length - 1) (hj:j<(rowL O T k).length):((k:Int),nth (rowL O T k) j)∈pairs O T:=mem_pairs.2 ⟨k,hk,rfl,nth_mem hj⟩
theorem rowX_take {O T:List Int} {k j:Nat} (hj:j<(rowL O T k).length):(rowX O T k).take (j+1)=(rowX O T k).take j ++ [((k:Int),nth (rowL O T k) j)]:=by
 have h1:j<(rowX O T k).length:=by unfold rowX;rw [List.length_map];exact hj
 rw [take_succ_nth _ j h1]
 congr 2
 rw [nth_eq h1,nth_eq hj]
 simp [rowX]
theorem pairsK_prefix {O T:List Int} {k:Nat}:∀ d,pairsK O T k <+: pairsK O T (k+d)
 | 0=>List.prefix_refl _
 | d+1=>by
  rw [← Nat.add_assoc,pairsK_step]
  exact(pairsK_prefix d).trans (List.prefix_append _ _)
theorem pairs_prefix {O T:List Int} {k j:Nat} (hk:k<O.length - 1):pairsK O T k ++ (rowX O T k).take j <+: pairs O T:=by
 have h1:pairsK O T k ++ (rowX O T k).take j <+: pairsK O T (k+1):=by
  rw [pairsK_step]
  exact(List.prefix_append_right_inj _).2 (List.take_prefix _ _)
 have h2:=pairsK_prefix (O:=O) (T:=T) (k:=k+1) (O.length - 1 - (k+1))
 rw [show k+1+(O.length - 1 - (k+1))=O.length - 1 by omega] at h2
 exact h1.trans h2
end
section
open Go Go.RowKit Go.Shelf Go.Lib
attribute [local go_sem] Oper.semAt_some
theorem all_stops (n:Nat) (hn:1≤n) (b1 b2 n₀:Nat) (po:Option Addr) (no co:Nat) (pt:Option Addr) (nt ct:Nat) (O T:List Int) (w:World) (hw:n₀≤w.heap.size)
  (h1:Blk w b1 25 #[.slice po no co]) (h2:Blk w b2 25 #[.slice pt nt ct]) (hO:Rd w 1 po no (encI O)) (hT:Rd w 1 pt nt (encI T)) (hO0:0<no→(adr po 0).block<n₀) (hT0:0<nt→(adr pt 0).block<n₀)
  (hok:OffOk O T) (hct:nt≤ct) :
  SeqStopsK Fence.wide n Tryz.prog 200 #[.pointer (some ⟨b1,0,none⟩),.pointer (some ⟨b2,0,none⟩)] (fun x:PairOf O T=>#[Value.int .i64 x.1.1,Value.int .i64 x.1.2]) (KpA n₀ b1 b2)
   (fun ys=>ys.map (·.1)=pairs O T) (fun pre=>pre.map (·.1) <+: pairs O T) (pairs O T).length w:=by
 intro l J Jx W hW hJ hJx hY h0
 have B1:Blk W b1 25 #[.slice po no co]:=h1.ext hW
 have B2:Blk W b2 25 #[.slice pt nt ct]:=h2.ext hW
 have RO:=hO.ext hW
 have RT:=hT.ext hW
 have l1:=Lib.hid RO.nI
 have l2:=Lib.hid RT.nI
 have pO:=RO.ptr
 have pT:=RT.ptr
 have n1:=RO.small
 have n2:=RT.small
 have w2:=hok.two
 clear h1 h2 hO hT hJx
 have HW:=Lib.hid hW;clear hW
 have HJ:=Lib.hid hJ;clear hJ
 have HY:=Lib.hid hY;clear hY
 have HOK:=Lib.hid hok;clear hok
 have HRO:=Lib.hid RO;clear RO
 have HRT:=Lib.hid RT;clear RT
 have c1:=B1.cell 0
 have z1:=B1.lt
 have d0:(1:Int)≤no:=by have:=l1.out;omega
 have HB1:=Lib.hid B1;clear B1
 have HB2:=Lib.hid B2;clear B2
 refine callsIn_of_wp Tryz.func200 rfl trivial ?_ rfl
 simp only [Tryz.ntmps200,List.size_toArray,List.length_cons,List.length_nil,Nat.reduceAdd,Nat.reduceSub,Array.replicate_succ,Array.replicate_zero,List.push_toArray,List.append_toArray,List.nil_append,List.cons_append]
 gi_wp2
 gi_loopw [4,6,10] (fun _ _ i wr=>∃ (k:Nat) (pre:List (PairOf O T)),k≤no - 1∧i=.int .i64 k∧pre.map (·.1)=pairsK O T k∧J pre wr∧KpA n₀ b1 b2 W wr) (fun _ _ i _=>(no - 1) - (intOf i).toNat)
 case atStart=>exact⟨0,[],Nat.zero_le _,rfl,rfl,h0,KpA.refl _ _ _ _⟩
 case round =>
  clear c1
  obtain⟨k,pre,hk,rfl,hpre,hJs,hKp⟩:=hrel
  have B1':Blk wr b1 25 #[.slice po no co]:=hKp.2.1.trans HB1.out
  have B2':Blk wr b2 25 #[.slice pt nt ct]:=hKp.2.2.trans HB2.out
  have RO':=HRO.out.below hKp.1 (by simpa using hO0)
  have RT':=HRT.out.below hKp.1 (by simpa using hT0)
  have HP:=Lib.hid hpre;clear hpre
  have HJs:=Lib.hid hJs;clear hJs
  have HKp:=Lib.hid hKp;clear hKp
  by_cases hlt:k<no - 1
  ·have hk1:k+1<O.length:=by rw [← l1.out];omega
   have q1:=HOK.out.lo k (by omega)
   have q2:=HOK.out.le k hk1
   have q3:=HOK.out.hi (k+1) hk1
   have c1:=B1'.cell 0
   have c2:=B2'.cell 0
   have g1:=RO'.cI (k:=k) (by omega)
   have g2:=RO'.cI (k:=k+1) (by omega)
   have hrl:=Lib.hid (rowL_len HOK.out hk1)
   have RL:=Lib.hid (RT'.rowOf HOK.out hct hk1)
   obtain⟨a,ha⟩:∃ a:Nat,nth O k=(a:Int):=⟨(nth O k).toNat,by omega⟩
   obtain⟨b,hb⟩:∃ b:Nat,nth O (k+1)=(b:Int):=⟨(nth O (k+1)).toNat,by omega⟩
   rw [ha] at g1 q1 q2 hrl RL
   rw [hb] at g2 q2 q3 hrl RL
   have hq3:(b:Int)≤ct:=by have:=l2.out;omega
   simp only [Int.toNat_natCast] at hrl RL
   have HRL:Hid (∀ W',Below n₀ W W'→Rd W' 1 (cutp pt ct a 1) (b - a) (encI (rowL O T k))):=fun W' h=>by
    have h3:=(HRT.out.below h (by simpa using hT0)).rowOf HOK.out hct hk1
    rw [ha,hb] at h3
    simpa only [Int.toNat_natCast] using h3
   have d1:(0:Int)≤k:=by omega
   have d2:(k:Int)<no:=by omega
   have d2b:(k:Int)<(no:Int) - 1:=by omega
   have d3:(0:Int)≤(k:Int)+1:=by omega
   have d4:(k:Int)+1<no:=by omega
   clear ha hb B1' B2' RO' RT' q3
   gi_wp2
   refine wpIn_wide.2 ?_
   have x1:=fun x:ExtOf wr=>x.ext.cell c1
   have x2:=fun x:ExtOf wr=>x.ext.cell c2
   have y1:=fun x:ExtOf wr=>x.ext.cell g1
   have y2:=fun x:ExtOf wr=>x.ext.cell g2
   refine wp_region_ext (by kernel_rfl) (by kernel_rfl) ?_
   repeat (go_big_quiet_step ((fail)))
   refine wpQuiet_nil ?_
   rintro w1 ⟨⟨_,hb1⟩,rfl⟩
   have pR:=RL.out.ptr
   have nR:=RL.out.small
   have lR:=Lib.hid RL.out.nI
   gi_wp2
   gi_loopw [6,25] (fun _ j wx=>∃ (i:Nat) (pre':List (PairOf O T)),i≤b - a∧j=.int .i64 i∧pre'.map (·.1)=pairsK O T k ++ (rowX O T k).take i∧J pre' wx∧KpA n₀ b1 b2 W wx) (fun _ j _=>(b - a) - (intOf j).toNat)
   case atStart=>exact⟨0,pre,Nat.zero_le _,rfl,by rw [HP.out];simp,HJ.out _ _ _ none HJs.out (Ext.grown hb1) (fun r e=>nomatch e),
    HKp.out.trans (KpA.ext hb1 (Nat.le_trans hw (Nat.le_trans HW.out.size HKp.out.1.size)) (Nat.lt_of_lt_of_le HB1.out.lt HKp.out.1.size) (Nat.lt_of_lt_of_le HB2.out.lt HKp.out.1.size))⟩
   case round =>
    clear hb1 x1 x2 y1 y2
    obtain⟨i,pre',hi,rfl,hp',hJ',hK'⟩:=hrel
    have RLx:=HRL.out _ hK'.1
    have HP':=Lib.hid hp';clear hp'
    have HJ':=Lib.hid hJ';clear hJ'
    have HK':=Lib.hid hK';clear hK'
    by_cases hli:i<b - a
    ·have hin:i<(rowL O T k).length:=by rw [hrl.out];exact hli
     have f1:=RLx.cI hli
     have d5:(0:Int)≤i:=by omega
     have d6:(i:Int)<((b - a:Nat):Int):=by omega
     have hlen:pre'.length<(pairs O T).length:=by
      have h3:=(pairs_prefix (O:=O) (T:=T) (k:=k) (j:=i+1) (by omega)).length_le
      rw [rowX_take hin,← List.append_assoc,← HP'.out] at h3
      simp at h3;omega
     obtain⟨fn,tmps,assign,body,hy,hR⟩:=HY.out pre' ⟨((k:Int),nth (rowL O T k) i),pairs_at (by rw [← l1.out];exact hlt) hin⟩ _ HJ'.out hlen
     dsimp only at hy
     clear RLx
     gi_wp2
     refine hR.mono ?_
     rintro e W3 (⟨rfl,hJ3,hk3⟩ | ⟨rfl,hJx3⟩)
     ·have HJ3:=Lib.hid hJ3;clear hJ3
      have HK3:=Lib.hid hk3;clear hk3
      gi_wp2
      go_roundw
      case rel=>exact⟨i+1,_,by omega,by go_num,by rw [List.map_append,HP'.out,rowX_take hin,List.append_assoc];rfl,HJ3.out,HK'.out.trans HK3.out⟩
      case measure=>simp [intOf];omega
     ·have HX3:=Lib.hid hJx3;clear hJx3
      gi_wp2
      refine bodyPost_ret (results_none rfl _ _ _) rfl ?_
      exact⟨⟨_,rfl⟩,.inr ⟨_,by
       have h3:=pairs_prefix (O:=O) (T:=T) (k:=k) (j:=i+1) (by rw [← l1.out];exact hlt)
       rw [rowX_take hin,← List.append_assoc,← HP'.out] at h3
       rw [List.map_append];exact h3,HX3.out⟩⟩
    ·obtain rfl:i=b - a:=by omega
     clear RLx
     gi_wp2
     go_roundw
     case rel=>exact⟨k+1,pre',by omega,by go_num,by rw [HP'.out,pairsK_step,List.take_of_length_le (by unfold rowX;rw [List.length_map,hrl.out];exact Nat.le_refl _)],HJ'.out,HK'.out⟩
     case measure=>simp [intOf];omega
  ·obtain rfl:k=no - 1:=by omega
   have d2:decide (((no - 1:Nat):Int)<(no:Int) - 1)=false:=by simp;omega
   have d3:((no - 1:Nat):Int)=(no:Int) - 1:=by omega
   gi_wp2
   go_end0
   exact⟨⟨_,rfl⟩,.inl ⟨pre,by rw [HP.out,l1.out];rfl,HJs.out⟩⟩
end
section
open Go Go.RowKit Go.Shelf Go.Lib
attribute [local go_sem] Oper.semAt_some
theorem below_mid {B:Nat} {w W W':World} (h:Below B w W) (k:Below B w W') (hs:W.heap.size≤W'.heap.size):Below B W W' :=
 ⟨k.os.trans h.os.symm,k.tape.trans h.tape.symm,k.output.trans h.output.symm,hs,fun i hi=>(k.block i hi).trans (h.block i hi).symm⟩
theorem kpA_of {w W W':World} {b1 b2:Nat} {o1 o2:Obj} (h:Ext w W) (k:Ext w W') (hs:W.heap.size≤W'.heap.size) (h1:W.heap[b1]?=some o1) (h2:W.heap[b2]?=some o2) (k1:W'.heap[b1]?=some o1) (k2:W'.heap[b2]?=some o2):KpA w.heap.size b1 b2 W W' :=
 ⟨below_mid h k hs,k1.trans h1.symm,k2.trans h2.symm⟩
theorem kpA_b {w3:World} {n₀ b1 b2:Nat} (hn:n₀≤w3.heap.size) (h1:b1<w3.heap.size) (h2:b2<w3.heap.size) (W:World) (l:Nat) (o o':Obj) (hl:w3.heap.size≤l) (h:W.heap[l]?=some o) (hc:o.isCells=false) (hw:o.isWalk=false):KpA n₀ b1 b2 W (W.putObj l o') :=
 ⟨belowK_b hn W l o o' hl h hc hw,World.putObj_heap_other (by omega),World.putObj_heap_other (by omega)⟩
theorem halfG_no (po:Option Addr) (no co:Nat) (O:List Int) (pt:Option Addr) (nt ct:Nat) (T:List Int) (w:World) (hO:Rd w 1 po no (encI O)) (hT:Rd w 1 pt nt (encI T)) (hct:nt≤ct) (h:offB O T=false):Calls Tryz.prog 134 #[.slice po no co,.slice pt nt ct] w fun e w'=>e=.returned (.bool false)∧Ext w w':=by
 have _hc:=hct
 have p1:=hO.ptr
 have n1:=hO.small
 have n2:=hT.small
 have l1:=Lib.hid hO.nI
 have l2:=Lib.hid hT.nI
 have S0:=Lib.hid (((Sep.start w).al #[.bool false] 4 w.heap.size rfl).al #[.int .i64 ((no:Int) - 1)] 3 (w.heap.size+1) (by simp))
 have HSo:=Lib.hid (fun W1 (h:Ext w W1) (h0:0<no)=>IsSortedI po no co O W1 (hO.ext h) h0)
 by_cases h1:(no:Int) - 1<1
 ·have d1:decide ((no:Int) - 1<1)=true:=by simpa using h1
  clear hO hT h
  go_enter Tryz.func134,Tryz.ntmps134
  go_wp2
  refine bodyPost_ret (v:=.bool false) (by simp [results,Tryz.results134,go_sem]) rfl ⟨rfl,?_⟩
  first | exact S0.out.ext | exact(S0.out.set 1 rfl 0 _).ext
 ·have d1:decide ((no:Int) - 1<1)=false:=by simpa using h1
  by_cases h2:200<(no:Int) - 1
  ·have d2:decide (200<(no:Int) - 1)=true:=by simpa using h2
   clear hO hT h
   go_enter Tryz.func134,Tryz.ntmps134
   go_wp2
   refine bodyPost_ret (v:=.bool false) (by simp [results,Tryz.results134,go_sem]) rfl ⟨rfl,?_⟩
   first | exact S0.out.ext | exact(S0.out.set 1 rfl 0 _).ext
  ·have d2:decide (200<(no:Int) - 1)=false:=by simpa using h2
   by_cases h3:2000<nt
   ·have d3:decide ((2000:Int)<nt)=true:=by simp;omega
    clear hO hT h
    go_enter Tryz.func134,Tryz.ntmps134
    go_wp2
    refine bodyPost_ret (v:=.bool false) (by simp [results,Tryz.results134,go_sem]) rfl ⟨rfl,?_⟩
    first | exact S0.out.ext | exact(S0.out.set 1 rfl 0 _).ext
   ·have d3:decide ((2000:Int)<nt)=false:=by simp;omega
    have g0:=S0.out.ext.cell (hO.cI (k:=0) (by omega))
    have q1:(0:Int)<no:=by omega
    by_cases h4:nth O 0=0
    ·have d4:(nth O 0 != 0)=false:=by simpa using h4
     have g5:=S0.out.ext.cell (hO.cI (k:=no - 1) (by omega))
     have q2:(0:Int)≤(no:Int) - 1:=by omega
     have q3:(no:Int) - 1<no:=by omega
     by_cases h5:nth O (no - 1)=nt
     ·have d5:(nth O (no - 1) != (nt:Int))=false:=by simpa using h5
      have h6:sortB O=false:=by
       cases h7:sortB O with
       | false=>rfl
       | true =>
        unfold offB at h
        rw [h7,h4] at h
        rw [← l1.out,← l2.out,h5] at h
        simp at h;omega
      rw [h6] at HSo
      clear hO hT h h6 h4 h5
      go_enter Tryz.func134,Tryz.ntmps134
      go_wp2_with (go_at_call 198;go_must (refine(HSo.out _ S0.out.ext (by omega)).mono ?_;rintro e w2 ⟨rfl,hb⟩;have S2:=Lib.hid (S0.out.call hb);obtain⟨c4,f4,z4⟩:=bkc0z0l (S2.out.blk 1 rfl);clear hb))
      refine bodyPost_ret (v:=.bool false) (by simp [results,Tryz.results134,go_sem,c4]) rfl ⟨rfl,(S2.out.set 1 rfl 0 _).ext⟩
     ·have d5:(nth O (no - 1) != (nt:Int))=true:=by simpa using h5
      clear hO hT h h4 h5
      go_enter Tryz.func134,Tryz.ntmps134
      go_wp2
      refine bodyPost_ret (v:=.bool false) (by simp [results,Tryz.results134,go_sem]) rfl ⟨rfl,?_⟩
      first | exact S0.out.ext | exact(S0.out.set 1 rfl 0 _).ext
    ·have d4:(nth O 0 != 0)=true:=by simpa using h4
     clear hO hT h h4
     go_enter Tryz.func134,Tryz.ntmps134
     go_wp2
     refine bodyPost_ret (v:=.bool false) (by simp [results,Tryz.results134,go_sem]) rfl ⟨rfl,?_⟩
     first | exact S0.out.ext | exact(S0.out.set 1 rfl 0 _).ext
end
section
open Go Go.RowKit Go.Shelf Go.Lib
attribute [local go_sem] Oper.semAt_some
def halfPc (b4 b:Nat) (po:Option Addr) (no co:Nat) (pt:Option Addr) (nt ct:Nat) (p:Int × Int) (r:Bool):List Pc :=
 [.blk (b+1+1+1) 25 #[.slice pt nt ct],.blk (b+1+1) 25 #[.slice po no co],.blk (b+1) 3 #[.int .i64 p.2],.blk b 3 #[.int .i64 p.1],.blk (b4+1) 3 #[.int .i64 ((no:Int) - 1)],.blk b4 4 #[.bool r]]
theorem halfPc_cells (b4 b:Nat) (po:Option Addr) (no co:Nat) (pt:Option Addr) (nt ct:Nat) (p:Int × Int) (r:Bool):∀ q∈halfPc b4 b po no co pt nt ct p r,q.cells :=
 cells_all fun q hq=>by simp [halfPc] at hq;rcases hq with h | h | h | h | h | h <;> exact .inl ⟨_,_,_,h⟩
theorem halfG_yes (po:Option Addr) (no co:Nat) (O:List Int) (pt:Option Addr) (nt ct:Nat) (T:List Int) (w:World) (hO:Rd w 1 po no (encI O)) (hT:Rd w 1 pt nt (encI T)) (hct:nt≤ct) (h:offB O T=true):Calls Tryz.prog 134 #[.slice po no co,.slice pt nt ct] w fun e w'=>e=.returned (.bool (halfB O T))∧Ext w w':=by
 have p1:=hO.ptr
 have n1:=hO.small
 have n2:=hT.small
 have l1:=hO.nI
 have l2:=hT.nI
 have hhb:=Lib.hid (halfB_pairs h)
 have HOK:=Lib.hid (offOk_of h)
 obtain⟨r1,r2,r3,r4,r5,r6⟩:=offB_parts h
 have S0:=Lib.hid (((Sep.start w).al #[.bool false] 4 w.heap.size rfl).al #[.int .i64 ((no:Int) - 1)] 3 (w.heap.size+1) (by simp))
 have HSo:=Lib.hid (fun W1 (h:Ext w W1)=>IsSortedI po no co O W1 (hO.ext h) (by omega))
 rw [r6] at HSo
 have d1:decide ((no:Int) - 1<1)=false:=by simp;omega
 have d2:decide (200<(no:Int) - 1)=false:=by simp;omega
 have d3:decide ((2000:Int)<nt)=false:=by simp;omega
 have g0:=S0.out.ext.cell (hO.cI (k:=0) (by omega))
 have q1:(0:Int)<no:=by omega
 have d4:(nth O 0 != 0)=false:=by simpa using r4
 have g5:=S0.out.ext.cell (hO.cI (k:=no - 1) (by omega))
 have q2:(0:Int)≤(no:Int) - 1:=by omega
 have q3:(no:Int) - 1<no:=by omega
 have d5:(nth O (no - 1) != (nt:Int))=false:=by rw [← l1,← l2] at r5;simpa using r5
 have L1:Hid (((O.length - 1:Nat):Int)=(no:Int) - 1):=by unfold Hid;omega
 rw [L1.out] at hhb
 have hO0:0<no→(adr po 0).block<w.heap.size:=fun h=>hO.lt (by omega)
 have hT0:0<nt→(adr pt 0).block<w.heap.size:=fun h=>hT.lt (by omega)
 have HO:=Lib.hid hO;clear hO
 have HT:=Lib.hid hT;clear hT
 clear r1 r2 r3 r4 r5 r6 h l1 l2
 refine(callsIn_wide (n:=9)).1 ?_
 refine callsIn_of_wp_marks Tryz.func134 rfl trivial ?_ rfl
 simp only [Tryz.ntmps134,List.size_toArray,List.length_cons,List.length_nil,Nat.reduceAdd,Nat.reduceSub,Array.replicate_succ,Array.replicate_zero,List.push_toArray,List.append_toArray,List.nil_append,List.cons_append]
 refine wpIn_wide.2 ?_
 go_wp2_with (first
  | (go_at_call 135;go_must (refine(allG po no co pt nt ct _).mono ?_;rintro e w3 ⟨rfl,hw3⟩;have S3:=(((S2.out.al #[.int .i64 (-1)] 3 w2.heap.size rfl).al #[.int .i64 0] 3 (w2.heap.size+1) (by simp)).al #[.slice po no co] 25 (w2.heap.size+1+1) (by simp)).al #[.slice pt nt ct] 25 (w2.heap.size+1+1+1) (by simp);rw [← hw3] at S3;have S4:=Lib.hid (S3:Sep w w3 (halfPc w.heap.size w2.heap.size po no co pt nt ct (-1,0) false));clear S3 hw3))
  | (go_at_call 198;go_must (refine(HSo.out _ S0.out.ext).mono ?_;rintro e w2 ⟨rfl,hb⟩;have S2:=Lib.hid (S0.out.call hb);have c4:=(S2.out.blk 1 rfl).cell 0;have c5:=(S2.out.blk 0 rfl).cell 0;have z4:=(S2.out.blk 1 rfl).lt;have z5:=(S2.out.blk 0 rfl).lt;clear hb)))
 clear S0 S2 HSo g0 g5 c4 c5
 generalize w2.heap.size=b at *
 refine wpIn_wide.1 (wpIn_rangeFunc_ownG (F:=Fence.wide) (n:=9) rfl (by omega) (gf:=200) (lb:=#[.pointer (some ⟨b+1+1,0,none⟩),.pointer (some ⟨b+1+1+1,0,none⟩)]) rfl trivial (enters_of Tryz.func200 (by kernel_rfl) rfl)
  (all_stops 8 (by omega) (b+1+1) (b+1+1+1) w.heap.size po no co pt nt ct O T w3 S4.out.ext.size (S4.out.blk 1 rfl) (S4.out.blk 0 rfl) (HO.out.ext S4.out.ext) (HT.out.ext S4.out.ext) hO0 hT0 HOK.out hct)
  (fun h k=>KpA.trans h k) (kpA_b S4.out.ext.size (S4.out.blk 1 rfl).lt (S4.out.blk 0 rfl).lt) (Below.refl _ _) (fun _=>rfl)
  (fun pre W=>okFrom ((no:Int) - 1) (-1,0) (pre.map (·.1))=true∧Sep w W (halfPc w.heap.size b po no co pt nt ct (lastP (-1,0) (pre.map (·.1))) false))
  (fun c pre W=>(c=.ret∧okFrom ((no:Int) - 1) (-1,0) (pre.map (·.1))=false)∧∃ p,Sep w W (halfPc w.heap.size b po no co pt nt ct p false))
  ?hI ?hIx ⟨rfl,S4.out⟩ ?a1 ?assign ?body ?done ?stop)
 case hI=>exact fun s A B row hs hg hr=>⟨hs.1,hs.2.turn (halfPc_cells _ _ _ _ _ _ _ _ _ _) S4.out.ext.size hg hr⟩
 case hIx=>exact fun c s A B row hs hg hr=>⟨hs.1,hs.2.elim fun p S=>⟨p,S.turn (halfPc_cells _ _ _ _ _ _ _ _ _ _) S4.out.ext.size hg hr⟩⟩
 case assign =>
  intro l x W K hK
  gi_wp2
  exact hK
 case body =>
  rintro l pre ⟨⟨v,u⟩,hx⟩ W ⟨ho,S⟩ _
  have hsn:=okFrom_snoc ((no:Int) - 1) (-1,0) (pre.map (·.1)) (v,u)
  rw [ho,Bool.true_and] at hsn
  have hls:=lastP_snoc (-1,0) (pre.map (·.1)) (v,u)
  have hm:(pre ++ [(⟨(v,u),hx⟩:PairOf O T)]).map (·.1)=pre.map (·.1) ++ [(v,u)]:=by simp
  rw [← hm] at hsn hls
  obtain⟨p,hp⟩:∃ p,p=lastP (-1,0) (pre.map (·.1)):=⟨_,rfl⟩
  rw [← hp] at S hsn
  have HSN:=Lib.hid hsn
  have HLS:=Lib.hid hls
  have c7:=(S.blk 2 rfl).cell 0
  have c6:=(S.blk 3 rfl).cell 0
  have c5:=(S.blk 4 rfl).cell 0
  have c4:=(S.blk 5 rfl).cell 0
  have f7:=(S.blk 2 rfl).frozen 0
  have f6:=(S.blk 3 rfl).frozen 0
  have f4:=(S.blk 5 rfl).frozen 0
  have z7:=(S.blk 2 rfl).lt
  have z6:=(S.blk 3 rfl).lt
  have z5:=(S.blk 4 rfl).lt
  have z4:=(S.blk 5 rfl).lt
  have y1:b≠b+1:=by omega
  have HW:=Lib.hid (withinG ((no:Int) - 1 - 1) (some ⟨W.heap.size,0,none⟩) 1 1 [u] _ (Rd.oneI W 3 u))
  have hwd:withB ((no:Int) - 1 - 1) [u]=(decide (0≤u) && decide (u≤(no:Int) - 1 - 1)):=by simp [withB]
  have SH:=Lib.hid S;clear S
  clear hsn hls hm ho hp S4 HO HT HOK hO0 hT0 hhb
  by_cases hu:0≤u∧u≤(no:Int) - 1 - 1
  ·rw [hwd,decide_eq_true hu.1,decide_eq_true hu.2] at HW
   have hu2:decide (u<(no:Int) - 1)=true:=by simp;omega
   by_cases hv:v=p.1
   ·have e1:(v == p.1)=true:=by simpa using hv
    by_cases hw:u≤p.2
    ·have e2:decide (u≤p.2)=true:=by simpa using hw
     have HF:Hid (okFrom ((no:Int) - 1) (-1,0) ((pre ++ [(⟨(v,u),hx⟩:PairOf O T)]).map (·.1))=false):=by
      unfold Hid;rw [HSN.out];unfold okStep;simp [hv,hw]
     clear hv hw hwd
     gi_wp2_with (refine⟨trivial,?_⟩;gi_at_call 199;refine(CallsIn.inRound l (callsIn_wide.2 HW.out)).mono ?_;rintro e w' ⟨rfl,rfl⟩)
     exact⟨((KeepsOthers.setCell W _ _).trans (KeepsOthers.alloc _ _)).from _,⟨rfl,HF.out⟩,p,(SH.out.set 5 rfl 0 (.bool false)).junk _⟩
    ·have e2:decide (u≤p.2)=false:=by simpa using hw
     have HF:Hid (okFrom ((no:Int) - 1) (-1,0) ((pre ++ [(⟨(v,u),hx⟩:PairOf O T)]).map (·.1))=true):=by
      unfold Hid;rw [HSN.out];unfold okStep;simp [hu.1,hw];omega
     clear hv hw hwd
     gi_wp2_with (refine⟨trivial,?_⟩;gi_at_call 199;refine(CallsIn.inRound l (callsIn_wide.2 HW.out)).mono ?_;rintro e w' ⟨rfl,rfl⟩)
     have S':=((SH.out.set 3 rfl 0 (.int .i64 v)).set 2 rfl 0 (.int .i64 u)).junk (.cells #[.int .i64 u] 3)
     exact⟨(((KeepsOthers.setCell W _ _).trans (KeepsOthers.setCell _ _ _)).trans (KeepsOthers.alloc _ _)).from _,kpA_of SH.out.ext S'.ext (by simp) (SH.out.blk 1 rfl) (SH.out.blk 0 rfl) (S'.blk 1 rfl) (S'.blk 0 rfl),HF.out,by rw [HLS.out];exact S'⟩
   ·have e1:(v == p.1)=false:=by simpa using hv
    have HF:Hid (okFrom ((no:Int) - 1) (-1,0) ((pre ++ [(⟨(v,u),hx⟩:PairOf O T)]).map (·.1))=true):=by
     unfold Hid;rw [HSN.out];unfold okStep;simp [hu.1,hv];omega
    clear hv hwd
    gi_wp2_with (refine⟨trivial,?_⟩;gi_at_call 199;refine(CallsIn.inRound l (callsIn_wide.2 HW.out)).mono ?_;rintro e w' ⟨rfl,rfl⟩)
    have S':=((SH.out.set 3 rfl 0 (.int .i64 v)).set 2 rfl 0 (.int .i64 u)).junk (.cells #[.int .i64 u] 3)
    exact⟨(((KeepsOthers.setCell W _ _).trans (KeepsOthers.setCell _ _ _)).trans (KeepsOthers.alloc _ _)).from _,kpA_of SH.out.ext S'.ext (by simp) (SH.out.blk 1 rfl) (SH.out.blk 0 rfl) (S'.blk 1 rfl) (S'.blk 0 rfl),HF.out,by rw [HLS.out];exact S'⟩
  ·have hwf:withB ((no:Int) - 1 - 1) [u]=false:=by
    rw [hwd]
    by_cases h1:0≤u
    ·simp [h1];omega
    ·simp [h1]
   rw [hwf] at HW
   have HF:Hid (okFrom ((no:Int) - 1) (-1,0) ((pre ++ [(⟨(v,u),hx⟩:PairOf O T)]).map (·.1))=false):=by
    unfold Hid;rw [HSN.out];unfold okStep
    have:(decide (0≤u) && decide (u<(no:Int) - 1))=false:=by
     by_cases h1:0≤u
     ·simp [h1];omega
     ·simp [h1]
    simp only [this,Bool.false_and]
   clear hwd hwf
   gi_wp2_with (refine⟨trivial,?_⟩;gi_at_call 199;refine(CallsIn.inRound l (callsIn_wide.2 HW.out)).mono ?_;rintro e w' ⟨rfl,rfl⟩)
   exact⟨((KeepsOthers.setCell W _ _).trans (KeepsOthers.alloc _ _)).from _,⟨rfl,HF.out⟩,p,(SH.out.set 5 rfl 0 (.bool false)).junk _⟩
 case done =>
  rintro D ys W hD hys ⟨ho,S⟩ hK
  have HF:Hid (halfB O T=true):=by unfold Hid;rw [hhb.out,← hys];exact ho
  obtain⟨c4,f4,z4⟩:=bkc0z0l (S.blk 5 rfl)
  have hKs:=(KeepsOthers.setCell W ⟨w.heap.size,0,none⟩ (.bool true)).same D _ hK rfl
  have S':=(S.set 5 rfl 0 (.bool true)).putObj (halfPc_cells w.heap.size b po no co pt nt ct _ true) (.deferred none) (Nat.le_trans S4.out.ext.size hD) hKs rfl
  have k4:=(S'.blk 5 rfl).cell 0
  have SH:=Lib.hid S;clear S
  have SH':=Lib.hid S';clear S'
  go_wp2
  refine⟨by simp,.inl ⟨_,_,rfl,run_takeDeferred hKs,?_⟩⟩
  exact⟨.bool true,by simp [results,Tryz.results134,go_sem,k4],ret_bool HF.out.symm,SH'.out.ext⟩
 case stop =>
  rintro D c pre W hD hSp ⟨⟨rfl,hno⟩,p,S⟩ hK
  have HF:Hid (halfB O T=false):=by unfold Hid;rw [hhb.out];exact okFrom_no hno hSp
  have S':=S.putObj (halfPc_cells w.heap.size b po no co pt nt ct _ false) (.deferred none) (Nat.le_trans S4.out.ext.size hD) hK rfl
  have k4:=(S'.blk 5 rfl).cell 0
  have SH:=Lib.hid S;clear S
  have SH':=Lib.hid S';clear S'
  refine wpIn_wide.2 ?_
  go_wp2
  refine⟨by simp,.inl ⟨_,_,rfl,run_takeDeferred hK,?_⟩⟩
  exact⟨.bool false,by simp [results,Tryz.results134,go_sem,k4],ret_bool HF.out.symm,SH'.out.ext⟩
theorem halfG (po:Option Addr) (no co:Nat) (O:List Int) (pt:Option Addr) (nt ct:Nat) (T:List Int) (w:World) (hO:Rd w 1 po no (encI O)) (hT:Rd w 1 pt nt (encI T)) (hct:nt≤ct):Calls Tryz.prog 134 #[.slice po no co,.slice pt nt ct] w fun e w'=>e=.returned (.bool (halfB O T))∧Ext w w':=by
 cases h:offB O T with
 | false =>
  have:halfB O T=false:=by unfold halfB;rw [h];rfl
  rw [this]
  exact halfG_no po no co O pt nt ct T w hO hT hct h
 | true=>exact halfG_yes po no co O pt nt ct T w hO hT hct h
end
section
open Go Go.RowKit Go.Shelf Go.Lib
attribute [local go_sem] Oper.semAt_some
theorem BinI (p:Option Addr) (n c:Nat) (l:List Int) (x:Int) (w:World) (hl:Rd w 1 p n (encI l)) (hs:Rises ltI l) (hn:n≤1000000) :
  Calls Tryz.prog 136 #[.slice p n c,.int .i64 x] w fun e w'=>e=.returned (.tuple #[.int .i64 (l.countP (·<x):Nat),.bool (inB l x)])∧Ext w w':=by
 have ln:=hl.nI
 have hin:inB l x=l.contains x:=by rw [Bool.eq_iff_iff,inB_iff];simp
 rw [hin]
 rcases hl.ptr with h0 | ⟨b,o,rfl⟩
 ·subst h0
  have:l=[]:=List.eq_nil_of_length_eq_zero ln.symm
  subst this
  exact(Any.slices_BinarySearch_int_empty Tryz.binI p c x w).mono fun e w' h=>⟨by have:=h.1;simpa using this,by rw [h.2];exact Below.refl _ _⟩
 ·have ht:l.take n=l:=List.take_of_length_le (by omega)
  have:=Any.slices_BinarySearch_int Tryz.binI b o n c l x w (by omega) (by omega) (fun j hj=>by
   have h1:=hl.cI (k:=j) (by omega)
   rw [adr_some] at h1
   rw [h1,nth_eq hj,List.getD_eq_getElem?_getD,List.getElem?_eq_getElem hj];rfl) (by rw [ht];exact hs.imp (fun {a b} h=>by simp [ltI] at h;omega))
  rw [ht] at this
  exact this.mono fun e w' h=>⟨h.1,by obtain⟨q,hq⟩:=h.2;rw [hq];exact Ext.drewN (Below.refl _ _) q⟩
theorem ContI (p:Option Addr) (n c:Nat) (l:List Int) (x:Int) (w:World) (hl:Rd w 1 p n (encI l)) :
  Calls Tryz.prog 218 #[.slice p n c,.int .i64 x] w fun e w'=>e=.returned (.bool (inB l x))∧Ext w w':=by
 have ln:=hl.nI
 have hin:inB l x=l.contains x:=by rw [Bool.eq_iff_iff,inB_iff];simp
 rw [hin]
 rcases hl.ptr with h0 | ⟨b,o,rfl⟩
 ·subst h0
  have:l=[]:=List.eq_nil_of_length_eq_zero ln.symm
  subst this
  exact(Any.slices_Contains_int_empty Tryz.hasI p c x w).mono fun e w' h=>⟨by have:=h.1;simpa using this,by rw [h.2];exact Below.refl _ _⟩
 ·have ht:l.take n=l:=List.take_of_length_le (by omega)
  have:=Any.slices_Contains_int Tryz.hasI b o n c l x w (by omega) hl.small (fun j hj=>by
   have h1:=hl.cI (k:=j) (by omega)
   rw [adr_some] at h1
   rw [h1,nth_eq hj,List.getD_eq_getElem?_getD,List.getElem?_eq_getElem hj];rfl)
  rw [ht] at this
  exact this.mono fun e w' h=>⟨h.1,by rw [h.2];exact Below.refl _ _⟩
theorem checkR_no {O T R V:List Int} (h:O.length≠R.length∨T.length≠V.length∨halfB O T=false∨halfB R V=false):checkR O T R V=false:=by
 unfold checkR
 rcases h with h | h | h | h <;> simp [h]
theorem CheckR_no (po:Option Addr) (no co:Nat) (O:List Int) (pt:Option Addr) (nt ct:Nat) (T:List Int) (pr:Option Addr) (nr cr:Nat) (R:List Int) (pv:Option Addr) (nv cv:Nat) (V:List Int) (w:World) (hO:Rd w 1 po no (encI O)) (hT:Rd w 1 pt nt (encI T)) (hR:Rd w 1 pr nr (encI R)) (hV:Rd w 1 pv nv (encI V)) (hct:nt≤ct) (hcv:nv≤cv) (h:no≠nr∨nt≠nv∨halfB O T=false∨halfB R V=false) :
  Calls Tryz.prog 82 #[.agg #[.slice po no co,.slice pt nt ct,.slice pr nr cr,.slice pv nv cv]] w fun e w'=>e=.returned (.bool false)∧Ext w w':=by
 have n1:=hO.small
 have n2:=hT.small
 have n3:=hR.small
 have n4:=hV.small
 have S0:=Lib.hid (((Sep.start w).al #[.slice po no co,.slice pt nt ct,.slice pr nr cr,.slice pv nv cv] 27 w.heap.size rfl).al #[.bool false] 4 (w.heap.size+1) (by simp))
 have HH1:=Lib.hid (fun W1 (h:Ext w W1)=>halfG po no co O pt nt ct T W1 (hO.ext h) (hT.ext h) hct)
 have HH2:=Lib.hid (fun W1 (h:Ext w W1)=>halfG pr nr cr R pv nv cv V W1 (hR.ext h) (hV.ext h) hcv)
 clear hO hT hR hV
 by_cases h1:no=nr
 ·have d1:((no:Int) != (nr:Int))=false:=by simp;omega
  by_cases h2:nt=nv
  ·have d2:((nt:Int) != (nv:Int))=false:=by simp;omega
   cases h3:halfB O T with
   | false =>
    rw [h3] at HH1
    clear h h1 h2 h3
    go_enter Tryz.func82,Tryz.ntmps82
    go_wp2_with (go_at_call 134;go_must (refine(HH1.out _ S0.out.ext).mono ?_;rintro e w1 ⟨rfl,hb⟩;have S1:=Lib.hid (S0.out.call hb);obtain⟨a0,a1,a2,a3,za⟩:=bkc0c1c2c3l (S1.out.blk 1 rfl);obtain⟨b0,f0,zb⟩:=bkc0z0l (S1.out.blk 0 rfl);clear hb))
    refine bodyPost_ret (v:=.bool false) (by simp [results,Tryz.results82,go_sem,b0]) rfl ⟨rfl,(S1.out.set 0 rfl 0 _).ext⟩
   | true =>
    have h4:halfB R V=false:=by
     rcases h with h | h | h | h
     ·exact absurd h1 h
     ·exact absurd h2 h
     ·rw [h3] at h;cases h
     ·exact h
    rw [h3] at HH1
    rw [h4] at HH2
    clear h h1 h2 h3 h4
    go_enter Tryz.func82,Tryz.ntmps82
    go_wp2_with (first | (go_at_call 134;have _t:=S1;go_must (refine(HH2.out _ S1.out.ext).mono ?_;rintro e w2 ⟨rfl,hb⟩;have S2:=Lib.hid (S1.out.call hb);obtain⟨A0,A1,A2,A3,zA⟩:=bkc0c1c2c3l (S2.out.blk 1 rfl);obtain⟨B0,F0,zB⟩:=bkc0z0l (S2.out.blk 0 rfl);clear hb)) | (go_at_call 134;go_must (refine(HH1.out _ S0.out.ext).mono ?_;rintro e w1 ⟨rfl,hb⟩;have S1:=Lib.hid (S0.out.call hb);obtain⟨a0,a1,a2,a3,za⟩:=bkc0c1c2c3l (S1.out.blk 1 rfl);obtain⟨b0,f0,zb⟩:=bkc0z0l (S1.out.blk 0 rfl);clear hb)))
    refine bodyPost_ret (v:=.bool false) (by simp [results,Tryz.results82,go_sem,B0]) rfl ⟨rfl,(S2.out.set 0 rfl 0 _).ext⟩
  ·have d2:((nt:Int) != (nv:Int))=true:=by simp;omega
   clear h h1 h2
   go_enter Tryz.func82,Tryz.ntmps82
   go_wp2
   refine bodyPost_ret (v:=.bool false) (by simp [results,Tryz.results82,go_sem]) rfl ⟨rfl,?_⟩
   first | exact S0.out.ext | exact(S0.out.set 0 rfl 0 _).ext
 ·have d1:((no:Int) != (nr:Int))=true:=by simp;omega
  clear h h1
  go_enter Tryz.func82,Tryz.ntmps82
  go_wp2
  refine bodyPost_ret (v:=.bool false) (by simp [results,Tryz.results82,go_sem]) rfl ⟨rfl,?_⟩
  first | exact S0.out.ext | exact(S0.out.set 0 rfl 0 _).ext
end
section
open Go Go.RowKit Go.Shelf Go.Lib
attribute [local go_sem] Oper.semAt_some
def chkPc (a b:Nat) (po:Option Addr) (no co:Nat) (pt:Option Addr) (nt ct:Nat) (pr:Option Addr) (nr cr:Nat) (pv:Option Addr) (nv cv:Nat) (r:Bool):List Pc :=
 [.blk (b+1) 25 #[.slice pt nt ct],.blk b 25 #[.slice po no co],.blk (a+1) 4 #[.bool r],.blk a 27 #[.slice po no co,.slice pt nt ct,.slice pr nr cr,.slice pv nv cv]]
theorem chkPc_cells (a b:Nat) (po:Option Addr) (no co:Nat) (pt:Option Addr) (nt ct:Nat) (pr:Option Addr) (nr cr:Nat) (pv:Option Addr) (nv cv:Nat) (r:Bool):∀ q∈chkPc a b po no co pt nt ct pr nr cr pv nv cv r,q.cells :=
 cells_all fun q hq=>by simp [chkPc] at hq;rcases hq with h | h | h | h <;> exact .inl ⟨_,_,_,h⟩
def backB (R V:List Int) (x:Int × Int):Bool:=inB (rowL R V x.2.toNat) x.1
theorem pair_bd {O T:List Int} (h:halfB O T=true) {x:Int × Int} (hx:x∈pairs O T):0≤x.1∧x.1<((O.length - 1:Nat):Int)∧0≤x.2∧x.2<((O.length - 1:Nat):Int):=by
 obtain⟨v,h1,h2,h3⟩:=mem_pairs.1 hx
 unfold halfB at h
 rw [Bool.and_eq_true] at h
 have:=List.all_eq_true.1 h.2 v (List.mem_range.2 h1)
 have:=(okRow_iff.1 this).1 _ h3
 omega
theorem row_rises {O T:List Int} (h:halfB O T=true) {v:Nat} (hv:v<O.length - 1):Rises ltI (rowL O T v):=by
 unfold halfB at h
 rw [Bool.and_eq_true] at h
 exact(okRow_iff.1 (List.all_eq_true.1 h.2 v (List.mem_range.2 hv))).2
theorem halfB_off {O T:List Int} (h:halfB O T=true):offB O T=true:=by
 unfold halfB at h
 rw [Bool.and_eq_true] at h
 exact h.1
theorem CheckR_yes (po:Option Addr) (no co:Nat) (O:List Int) (pt:Option Addr) (nt ct:Nat) (T:List Int) (pr:Option Addr) (nr cr:Nat) (R:List Int) (pv:Option Addr) (nv cv:Nat) (V:List Int) (w:World) (hO:Rd w 1 po no (encI O)) (hT:Rd w 1 pt nt (encI T)) (hR:Rd w 1 pr nr (encI R)) (hV:Rd w 1 pv nv (encI V)) (hct:nt≤ct) (hcv:nv≤cv) (e1:no=nr) (e2:nt=nv) (h1:halfB O T=true) (h2:halfB R V=true) :
  Calls Tryz.prog 82 #[.agg #[.slice po no co,.slice pt nt ct,.slice pr nr cr,.slice pv nv cv]] w fun e w'=>e=.returned (.bool ((pairs O T).all (backB R V)))∧Ext w w':=by
 have n1:=hO.small
 have n2:=hT.small
 have n3:=hR.small
 have n4:=hV.small
 have l1:=hO.nI
 have l2:=hT.nI
 have l3:=hR.nI
 have l4:=hV.nI
 have pR:=hR.ptr
 have S0:=Lib.hid (((Sep.start w).al #[.slice po no co,.slice pt nt ct,.slice pr nr cr,.slice pv nv cv] 27 w.heap.size rfl).al #[.bool false] 4 (w.heap.size+1) (by simp))
 have HH1:=Lib.hid (fun W1 (h:Ext w W1)=>halfG po no co O pt nt ct T W1 (hO.ext h) (hT.ext h) hct)
 have HH2:=Lib.hid (fun W1 (h:Ext w W1)=>halfG pr nr cr R pv nv cv V W1 (hR.ext h) (hV.ext h) hcv)
 rw [h1] at HH1
 rw [h2] at HH2
 have d1:((no:Int) != (nr:Int))=false:=by simp;omega
 have d2:((nt:Int) != (nv:Int))=false:=by simp;omega
 have HOK:=Lib.hid (offOk_of (halfB_off h1))
 have HOK2:=Lib.hid (offOk_of (halfB_off h2))
 have HPB:=Lib.hid (fun x (hx:x∈pairs O T)=>pair_bd h1 hx)
 have HRR:=Lib.hid (fun v (hv:v<R.length - 1)=>row_rises h2 hv)
 have r3:=(offB_parts (halfB_off h2)).2.2.1
 have hO0:0<no→(adr po 0).block<w.heap.size:=fun h=>hO.lt (by omega)
 have hT0:0<nt→(adr pt 0).block<w.heap.size:=fun h=>hT.lt (by omega)
 have L1:=Lib.hid l1
 have L3:=Lib.hid l3
 have L4:=Lib.hid l4
 have E1:=Lib.hid e1
 have E2:=Lib.hid e2
 have HO:=Lib.hid hO;clear hO
 have HT:=Lib.hid hT;clear hT
 have HR:=Lib.hid hR;clear hR
 have HV:=Lib.hid hV;clear hV
 clear h1 h2 l1 l2 l3 l4 e1 e2
 refine(callsIn_wide (n:=9)).1 ?_
 refine callsIn_of_wp_marks Tryz.func82 rfl trivial ?_ rfl
 simp only [Tryz.ntmps82,List.size_toArray,List.length_cons,List.length_nil,Nat.reduceAdd,Nat.reduceSub,Array.replicate_succ,Array.replicate_zero,List.push_toArray,List.append_toArray,List.nil_append,List.cons_append]
 refine wpIn_wide.2 ?_
 go_wp2_with (first
  | (go_at_call 135;go_must (refine(allG po no co pt nt ct _).mono ?_;rintro e w3 ⟨rfl,hw3⟩;have S3:=(S2.out.al #[.slice po no co] 25 w2.heap.size rfl).al #[.slice pt nt ct] 25 (w2.heap.size+1) (by simp);rw [← hw3] at S3;have S4:=Lib.hid (S3:Sep w w3 (chkPc w.heap.size w2.heap.size po no co pt nt ct pr nr cr pv nv cv false));clear S3 hw3))
  | (go_at_call 134;have _t:=S1;go_must (refine(HH2.out _ S1.out.ext).mono ?_;rintro e w2 ⟨rfl,hb⟩;have S2:=Lib.hid (S1.out.call hb);obtain⟨A0,A1,zA⟩:=bkc0c1l (S2.out.blk 1 rfl);clear hb))
  | (go_at_call 134;go_must (refine(HH1.out _ S0.out.ext).mono ?_;rintro e w1 ⟨rfl,hb⟩;have S1:=Lib.hid (S0.out.call hb);obtain⟨a2,a3,za⟩:=bkc2c3l (S1.out.blk 1 rfl);clear hb)))
 clear S0 S1 S2 HH1 HH2 A0 A1 a2 a3
 generalize w2.heap.size=b at *
 refine wpIn_wide.1 (wpIn_rangeFunc_ownG (F:=Fence.wide) (n:=9) rfl (by omega) (gf:=200) (lb:=#[.pointer (some ⟨b,0,none⟩),.pointer (some ⟨b+1,0,none⟩)]) rfl trivial (enters_of Tryz.func200 (by kernel_rfl) rfl)
  (all_stops 8 (by omega) b (b+1) w.heap.size po no co pt nt ct O T w3 S4.out.ext.size (S4.out.blk 1 rfl) (S4.out.blk 0 rfl) (HO.out.ext S4.out.ext) (HT.out.ext S4.out.ext) hO0 hT0 HOK.out hct)
  (fun h k=>KpA.trans h k) (kpA_b S4.out.ext.size (S4.out.blk 1 rfl).lt (S4.out.blk 0 rfl).lt) (Below.refl _ _) (fun _=>rfl)
  (fun pre W=>(pre.map (·.1)).all (backB R V)=true∧Sep w W (chkPc w.heap.size b po no co pt nt ct pr nr cr pv nv cv false))
  (fun c pre W=>(c=.ret∧(pre.map (·.1)).all (backB R V)=false)∧Sep w W (chkPc w.heap.size b po no co pt nt ct pr nr cr pv nv cv false))
  ?hI ?hIx ⟨rfl,S4.out⟩ ?a1 ?assign ?body ?done ?stop)
 case hI=>exact fun s A B row hs hg hr=>⟨hs.1,hs.2.turn (chkPc_cells _ _ _ _ _ _ _ _ _ _ _ _ _ _ _) S4.out.ext.size hg hr⟩
 case hIx=>exact fun c s A B row hs hg hr=>⟨hs.1,hs.2.turn (chkPc_cells _ _ _ _ _ _ _ _ _ _ _ _ _ _ _) S4.out.ext.size hg hr⟩
 case assign =>
  intro l x W K hK
  gi_wp2
  exact hK
 case body =>
  rintro l pre ⟨⟨v,u⟩,hx⟩ W ⟨ho,S⟩ _
  have hm:(pre ++ [(⟨(v,u),hx⟩:PairOf O T)]).map (·.1)=pre.map (·.1) ++ [(v,u)]:=by simp
  have hsn:((pre ++ [(⟨(v,u),hx⟩:PairOf O T)]).map (·.1)).all (backB R V)=backB R V (v,u):=by rw [hm,List.all_append,ho];simp
  have HSN:=Lib.hid hsn
  obtain⟨x1,x2,x3,x4⟩:=HPB.out _ hx
  simp only at x1 x2 x3 x4
  obtain⟨k,rfl⟩:∃ k:Nat,u=(k:Int):=⟨u.toNat,by omega⟩
  have hk1:k+1<R.length:=by have:=L1.out;have:=L3.out;have:=E1.out;omega
  have hk2:k+1<nr:=by rw [L3.out];exact hk1
  have q1:=HOK2.out.lo k (by omega)
  have q2:=HOK2.out.le k hk1
  have q3:=HOK2.out.hi (k+1) hk1
  have RR:=HR.out.ext S.ext
  have g1:=RR.cI (k:=k) (by omega)
  have g2:=RR.cI (k:=k+1) (by omega)
  have RL:=(HV.out.ext S.ext).rowOf HOK2.out hcv hk1
  have hrs:=HRR.out k (by omega)
  have hbk:backB R V (v,(k:Int))=inB (rowL R V k) v:=by unfold backB;simp
  obtain⟨a,ha⟩:∃ a:Nat,nth R k=(a:Int):=⟨(nth R k).toNat,by omega⟩
  obtain⟨c,hc⟩:∃ c:Nat,nth R (k+1)=(c:Int):=⟨(nth R (k+1)).toNat,by omega⟩
  rw [ha] at g1 q1 q2 RL
  rw [hc] at g2 q2 q3 RL
  have hq3:(c:Int)≤cv:=by have:=L4.out;omega
  simp only [Int.toNat_natCast] at RL
  have HB:=Lib.hid (fun x:ExtOf W=>BinI (cutp pv cv a 1) (c - a) (cv - a) (rowL R V k) v x.val (RL.ext x.ext) hrs (by have:=L4.out;omega))
  obtain⟨c0,c1⟩:=bkc2c3 (S.blk 3 rfl)
  obtain⟨c4,f4,z4⟩:=bkc0z0l (S.blk 2 rfl)
  have d3:(0:Int)≤k:=by omega
  have d4:(k:Int)<nr:=by omega
  have d5:(0:Int)≤(k:Int)+1:=by omega
  have d6:(k:Int)+1<nr:=by omega
  rw [hbk] at HSN
  have SH:=Lib.hid S;clear S
  clear hsn hm ho S4 HO HT HR HV HOK HOK2 hO0 hT0 HPB HRR RR RL ha hc hrs hbk x1 x2 x3 x4 q3
  cases hin:inB (rowL R V k) v with
  | true =>
   rw [hin] at HB HSN
   clear hin
   gi_wp2
   have y0:=fun x:ExtOf W=>x.ext.cell c0
   have y1:=fun x:ExtOf W=>x.ext.cell c1
   have y2:=fun x:ExtOf W=>x.ext.cell g1
   have y3:=fun x:ExtOf W=>x.ext.cell g2
   refine wpIn_region_ext (by kernel_rfl) (by kernel_rfl) (by kernel_rfl) ?_
   repeat (go_big_quiet_step ((go_at_call 136;exact Calls.ext_of (HB.out _))))
   refine wpQuiet_nil ?_
   rintro w5 ⟨⟨_,hb5⟩,rfl⟩
   have S5:=Lib.hid (SH.out.call hb5)
   clear y0 y1 y2 y3
   gi_wp2
   exact⟨(keeps_ext hb5).from _,kpA_of SH.out.ext S5.out.ext hb5.size (SH.out.blk 1 rfl) (SH.out.blk 0 rfl) (S5.out.blk 1 rfl) (S5.out.blk 0 rfl),HSN.out,S5.out⟩
  | false =>
   rw [hin] at HB HSN
   clear hin
   gi_wp2
   have y0:=fun x:ExtOf W=>x.ext.cell c0
   have y1:=fun x:ExtOf W=>x.ext.cell c1
   have y2:=fun x:ExtOf W=>x.ext.cell g1
   have y3:=fun x:ExtOf W=>x.ext.cell g2
   refine wpIn_region_ext (by kernel_rfl) (by kernel_rfl) (by kernel_rfl) ?_
   repeat (go_big_quiet_step ((go_at_call 136;exact Calls.ext_of (HB.out _))))
   refine wpQuiet_nil ?_
   rintro w5 ⟨⟨_,hb5⟩,rfl⟩
   have S5:=Lib.hid (SH.out.call hb5)
   obtain⟨k4,kf,kz⟩:=bkc0z0l (S5.out.blk 2 rfl)
   clear y0 y1 y2 y3 c4 f4 z4
   gi_wp2
   exact⟨((keeps_ext hb5).trans (KeepsOthers.setCell _ _ _)).from _,⟨rfl,HSN.out⟩,S5.out.set 2 rfl 0 (.bool false)⟩
 case done =>
  rintro D ys W hD hys ⟨ho,S⟩ hK
  have HF:Hid ((pairs O T).all (backB R V)=true):=by unfold Hid;rw [← hys];exact ho
  obtain⟨c4,f4,z4⟩:=bkc0z0l (S.blk 2 rfl)
  have hKs:=(KeepsOthers.setCell W ⟨w.heap.size+1,0,none⟩ (.bool true)).same D _ hK rfl
  have S':=(S.set 2 rfl 0 (.bool true)).putObj (chkPc_cells w.heap.size b po no co pt nt ct pr nr cr pv nv cv true) (.deferred none) (Nat.le_trans S4.out.ext.size hD) hKs rfl
  have k4:=(S'.blk 2 rfl).cell 0
  have SH:=Lib.hid S;clear S
  have SH':=Lib.hid S';clear S'
  go_wp2
  refine⟨by simp,.inl ⟨_,_,rfl,run_takeDeferred hKs,?_⟩⟩
  exact⟨.bool true,by simp [results,Tryz.results82,go_sem,k4],ret_bool HF.out.symm,SH'.out.ext⟩
 case stop =>
  rintro D c pre W hD hSp ⟨⟨rfl,hno⟩,S⟩ hK
  have HF:Hid ((pairs O T).all (backB R V)=false):=by
   obtain⟨t,ht⟩:=hSp
   unfold Hid;rw [← ht,List.all_append,hno];rfl
  have S':=S.putObj (chkPc_cells w.heap.size b po no co pt nt ct pr nr cr pv nv cv false) (.deferred none) (Nat.le_trans S4.out.ext.size hD) hK rfl
  have k4:=(S'.blk 2 rfl).cell 0
  have SH:=Lib.hid S;clear S
  have SH':=Lib.hid S';clear S'
  refine wpIn_wide.2 ?_
  go_wp2
  refine⟨by simp,.inl ⟨_,_,rfl,run_takeDeferred hK,?_⟩⟩
  exact⟨.bool false,by simp [results,Tryz.results82,go_sem,k4],ret_bool HF.out.symm,SH'.out.ext⟩
theorem CheckR (po:Option Addr) (no co:Nat) (O:List Int) (pt:Option Addr) (nt ct:Nat) (T:List Int) (pr:Option Addr) (nr cr:Nat) (R:List Int) (pv:Option Addr) (nv cv:Nat) (V:List Int) (w:World) (hO:Rd w 1 po no (encI O)) (hT:Rd w 1 pt nt (encI T)) (hR:Rd w 1 pr nr (encI R)) (hV:Rd w 1 pv nv (encI V)) (hct:nt≤ct) (hcv:nv≤cv):Calls Tryz.prog 82 #[.agg #[.slice po no co,.slice pt nt ct,.slice pr nr cr,.slice pv nv cv]] w fun e w'=>e=.returned (.bool (checkR O T R V))∧Ext w w':=by
 have l1:=hO.nI
 have l2:=hT.nI
 have l3:=hR.nI
 have l4:=hV.nI
 by_cases h:no≠nr∨nt≠nv∨halfB O T=false∨halfB R V=false
 ·rw [checkR_no (by rw [← l1,← l2,← l3,← l4];exact h)]
  exact CheckR_no po no co O pt nt ct T pr nr cr R pv nv cv V w hO hT hR hV hct hcv h
 ·have h1:no=nr:=by
   by_cases h1:no=nr
   ·exact h1
   ·exact absurd (.inl h1) h
  have h2:nt=nv:=by
   by_cases h2:nt=nv
   ·exact h2
   ·exact absurd (.inr (.inl h2)) h
  have h3:halfB O T=true:=by
   cases h3:halfB O T with
   | true=>rfl
   | false=>exact absurd (.inr (.inr (.inl h3))) h
  have h4:halfB R V=true:=by
   cases h4:halfB R V with
   | true=>rfl
   | false=>exact absurd (.inr (.inr (.inr h4))) h
  have:checkR O T R V=(pairs O T).all (backB R V):=by
   unfold checkR
   rw [h3,h4,← l1,← l2,← l3,← l4,h1,h2]
   simp only [decide_true,Bool.true_and]
   rfl
  rw [this]
  exact CheckR_yes po no co O pt nt ct T pr nr cr R pv nv cv V w hO hT hR hV hct hcv h1 h2 h3 h4
end
section
open Go Go.RowKit Go.Shelf Go.Lib
def outB (b:Bool) (A:List Int) (v:Int):Bool:=b && decide (0≤v) && decide (v<(A.length:Int) - 1)
def outL (b:Bool) (A B:List Int) (v:Int):List Int:=if outB b A v=true then rowL A B v.toNat else []
theorem outL_no {b:Bool} {A B:List Int} {v:Int} (h:outB b A v=false):outL b A B v=[]:=by unfold outL;rw [h];rfl
theorem outL_yes {b:Bool} {A B:List Int} {v:Int} (h:outB b A v=true):outL b A B v=rowL A B v.toNat:=by unfold outL;rw [h];rfl
theorem checkR_half {O T R V:List Int} (h:checkR O T R V=true):O.length=R.length∧T.length=V.length∧halfB O T=true∧halfB R V=true:=by
 unfold checkR at h
 simp only [Bool.and_eq_true,decide_eq_true_eq] at h
 exact⟨h.1.1.1.1,h.1.1.1.2,h.1.1.2,h.1.2⟩
theorem rowG (po:Option Addr) (no co:Nat) (O:List Int) (pt:Option Addr) (nt ct:Nat) (T:List Int) (pr:Option Addr) (nr cr:Nat) (R:List Int) (pv:Option Addr) (nv cv:Nat) (V:List Int) (w:World) (pa:Option Addr) (na ca:Nat) (A:List Int) (pb:Option Addr) (nb cb:Nat) (B:List Int) (v:Int) (hO:Rd w 1 po no (encI O)) (hT:Rd w 1 pt nt (encI T)) (hR:Rd w 1 pr nr (encI R)) (hV:Rd w 1 pv nv (encI V)) (hct:nt≤ct) (hcv:nv≤cv) (hA:Rd w 1 pa na (encI A)) (hB:Rd w 1 pb nb (encI B)) (hcb:nb≤cb) (hAB:checkR O T R V=true→offB A B=true) :
  Calls Tryz.prog 275 #[.agg #[.slice po no co,.slice pt nt ct,.slice pr nr cr,.slice pv nv cv],.slice pa na ca,.slice pb nb cb,.int .i64 v] w fun e w'=>∃ q c,e=.returned (.tuple #[.slice q (outL (checkR O T R V) A B v).length c,.bool (outB (checkR O T R V) A v)])∧Sep w w' [.own 3 1 q (outL (checkR O T R V) A B v).length c (encI (outL (checkR O T R V) A B v))]:=by
 have na1:=hA.small
 have nb1:=hB.small
 have l1:=Lib.hid hA.nI
 have l2:=Lib.hid hB.nI
 have pA:=hA.ptr
 have S0:=Lib.hid ((Sep.start w).al #[.slice po no co,.slice pt nt ct,.slice pr nr cr,.slice pv nv cv] 27 w.heap.size rfl)
 have HC:=Lib.hid (fun W1 (h:Ext w W1)=>CheckR po no co O pt nt ct T pr nr cr R pv nv cv V W1 (hO.ext h) (hT.ext h) (hR.ext h) (hV.ext h) hct hcv)
 clear hO hT hR hV
 cases hck:checkR O T R V with
 | false =>
  rw [hck] at HC
  have hno:outB false A v=false:=rfl
  rw [outL_no hno,hno]
  clear hA hB hAB hck hno
  go_enter Tryz.func275,Tryz.ntmps275
  go_wp2_with (go_at_call 82;go_must (refine(HC.out _ S0.out.ext).mono ?_;rintro e w1 ⟨rfl,hb⟩;have S1:=Lib.hid (S0.out.call hb);clear hb))
  go_ret2
  exact⟨none,0,rfl,((Sep.start w).call S1.out.ext).nilrow _ _⟩
 | true =>
  rw [hck] at HC
  have hof:=hAB hck
  have HOK:=offOk_of hof
  have w2:=HOK.two
  have hwd:withB ((na:Int) - 2) [v]=outB true A v:=by
   unfold withB outB
   rw [← l1.out]
   simp
   by_cases h1:0≤v <;> simp [h1] <;> omega
  have HW:=Lib.hid (fun W1:World=>withinG ((na:Int) - 2) (some ⟨W1.heap.size,0,none⟩) 1 1 [v] _ (Rd.oneI W1 3 v))
  rw [hwd] at HW
  have q0:(2:Int)≤na:=by have:=l1.out;omega
  cases ho:outB true A v with
  | false =>
   rw [ho] at HW
   rw [outL_no ho]
   clear hA hB hAB hck HOK hof hwd ho
   go_enter Tryz.func275,Tryz.ntmps275
   go_wp2_with (first | (go_at_call 199;go_must (refine(HW.out _).mono ?_;rintro e w2 ⟨rfl,rfl⟩)) | (go_at_call 82;go_must (refine(HC.out _ S0.out.ext).mono ?_;rintro e w1 ⟨rfl,hb⟩;have S1:=Lib.hid (S0.out.call hb);clear hb)))
   go_ret2
   exact⟨none,0,rfl,((((Sep.start w).call S1.out.ext).junk _)).nilrow _ _⟩
  | true =>
   rw [ho] at HW
   have ho2:=ho
   unfold outB at ho2
   simp only [Bool.true_and,Bool.and_eq_true,decide_eq_true_eq] at ho2
   obtain⟨v1,v2⟩:=ho2
   rw [outL_yes ho]
   obtain⟨k,rfl⟩:∃ k:Nat,v=(k:Int):=⟨v.toNat,by omega⟩
   rw [Int.toNat_natCast]
   have hk1:k+1<A.length:=by omega
   have q1:=HOK.lo k (by omega)
   have q2:=HOK.le k hk1
   have q3:=HOK.hi (k+1) hk1
   have hrl:=rowL_len HOK hk1
   have RL0:=hB.rowOf HOK hcb hk1
   have HA:=Lib.hid hA
   obtain⟨a,ha⟩:∃ a:Nat,nth A k=(a:Int):=⟨(nth A k).toNat,by omega⟩
   obtain⟨c,hc⟩:∃ c:Nat,nth A (k+1)=(c:Int):=⟨(nth A (k+1)).toNat,by omega⟩
   rw [ha] at q1 q2 hrl RL0
   rw [hc] at q2 q3 hrl RL0
   simp only [Int.toNat_natCast] at hrl RL0
   have hq3:(c:Int)≤cb:=by have:=l2.out;omega
   have hlen:=(offB_parts hof).2.2.1
   have HLEN:Hid (c - a≤100000):=by unfold Hid;have:=l2.out;omega
   have d1:(0:Int)≤k:=by omega
   have d2:(k:Int)<na:=by have:=l1.out;omega
   have d3:(0:Int)≤(k:Int)+1:=by omega
   have d4:(k:Int)+1<na:=by have:=l1.out;omega
   have G1:Hid (∀ W,Ext w W→W.cell? (adr pa k)=some (.int .i64 a)∧W.cell? (adr pa (k+1))=some (.int .i64 c)):=fun W h=>by
    have h1:=(HA.out.ext h).cI (k:=k) (by omega)
    have h2:=(HA.out.ext h).cI (k:=k+1) (by omega)
    rw [ha] at h1;rw [hc] at h2;exact⟨h1,h2⟩
   have HRL:=Lib.hid hrl
   have RL:=Lib.hid RL0
   clear hA hB hAB hck HOK hof hwd ho ha hc v1 v2 hk1 q3 hrl RL0 hlen HA
   rw [HRL.out]
   go_enter Tryz.func275,Tryz.ntmps275
   go_wp2_with (first | (go_at_call 199;go_must (refine(HW.out _).mono ?_;rintro e w2 ⟨rfl,rfl⟩;obtain⟨g1,g2⟩:=G1.out _ (S1.out.junk (.cells #[.int .i64 k] 3)).ext)) | (go_at_call 82;go_must (refine(HC.out _ S0.out.ext).mono ?_;rintro e w1 ⟨rfl,hb⟩;have S1:=Lib.hid (S0.out.call hb);clear hb)))
   obtain⟨X,hX⟩:∃ X,X=w1.alloc (.cells #[.int .i64 (k:Int)] 3):=⟨_,rfl⟩
   have SX:=Lib.hid (hX ▸ (S1.out.junk (.cells #[.int .i64 (k:Int)] 3)):Sep w X _)
   rw [← hX] at g1 g2 ⊢
   have x1:=fun x:ExtOf X=>x.ext.cell g1
   have x2:=fun x:ExtOf X=>x.ext.cell g2
   refine wp_region_mix [true,true,true,true,true,true,true,true,true,true,true,false] (fun _ u W=>∃ q d,u=.slice q (c - a) d∧W.ownsRow X.heap.size 3 1 (.slice q (c - a) d) (c - a) (encI (rowL A B k))) (by kernel_rfl) (by kernel_rfl) (by kernel_rfl) (fun _ _ _ _ hE ⟨p,d,h1,h2⟩=>⟨p,d,h1,hE.own h2⟩) ?_
   simp only [nfM]
   repeat (go_big_quiet_step ((fail)))
   refine wpQuiet_nil ⟨⟨fun vs W hE hd=>?_,trivial⟩,fun vs W hE hkn=>?_⟩
   ·simp [putM,go_sem]
    exact(CloneI _ (c - a) _ (rowL A B k) W (RL.out.ext (Ext.trans SX.out.ext hE)) HLEN.out).mono fun e w' ⟨q,d,h1,S⟩=>⟨_,h1,⟨q,d,rfl,own_base (S.own 0 rfl) hE.size⟩,S.ext⟩
   ·obtain⟨⟨q,d,hv,hown⟩,_⟩:=hkn
    have S5:=Lib.hid (SX.out.fresh hE hown (Nat.le_refl _))
    simp only [putM,hv,List.length_cons,List.length_nil,Nat.zero_add,Nat.reduceAdd,List.drop_succ_cons,List.drop_zero]
    clear x1 x2 g1 g2 hv hown hE hX
    go_wp2
    go_ret2
    exact⟨q,d,rfl,S5.out.pick [0] (by decide) rfl⟩
theorem OutG (po:Option Addr) (no co:Nat) (O:List Int) (pt:Option Addr) (nt ct:Nat) (T:List Int) (pr:Option Addr) (nr cr:Nat) (R:List Int) (pv:Option Addr) (nv cv:Nat) (V:List Int) (w:World) (v:Int) (hO:Rd w 1 po no (encI O)) (hT:Rd w 1 pt nt (encI T)) (hR:Rd w 1 pr nr (encI R)) (hV:Rd w 1 pv nv (encI V)) (hct:nt≤ct) (hcv:nv≤cv):Calls Tryz.prog 244 #[.agg #[.slice po no co,.slice pt nt ct,.slice pr nr cr,.slice pv nv cv],.int .i64 v] w fun e w'=>∃ q c,e=.returned (.tuple #[.slice q (outL (checkR O T R V) O T v).length c,.bool (outB (checkR O T R V) O v)])∧Sep w w' [.own 3 1 q (outL (checkR O T R V) O T v).length c (encI (outL (checkR O T R V) O T v))]:=by
 have S0:=Lib.hid ((Sep.start w).al #[.slice po no co,.slice pt nt ct,.slice pr nr cr,.slice pv nv cv] 27 w.heap.size rfl)
 have HR:=Lib.hid (fun W1 (h:Ext w W1)=>rowG po no co O pt nt ct T pr nr cr R pv nv cv V W1 po no co O pt nt ct T v (hO.ext h) (hT.ext h) (hR.ext h) (hV.ext h) hct hcv (hO.ext h) (hT.ext h) hct (fun h=>halfB_off (checkR_half h).2.2.1))
 clear hO hT hR hV
 go_enter Tryz.func244,Tryz.ntmps244
 go_wp2_with (go_at_call 275;go_must (refine(HR.out _ S0.out.ext).mono ?_;rintro e w1 ⟨q,c,rfl,T⟩;have S1:=Lib.hid (S0.out.comp T);clear T))
 go_ret2
 exact⟨q,c,rfl,S1.out.pick [0] (by decide) rfl⟩
theorem InG (po:Option Addr) (no co:Nat) (O:List Int) (pt:Option Addr) (nt ct:Nat) (T:List Int) (pr:Option Addr) (nr cr:Nat) (R:List Int) (pv:Option Addr) (nv cv:Nat) (V:List Int) (w:World) (v:Int) (hO:Rd w 1 po no (encI O)) (hT:Rd w 1 pt nt (encI T)) (hR:Rd w 1 pr nr (encI R)) (hV:Rd w 1 pv nv (encI V)) (hct:nt≤ct) (hcv:nv≤cv):Calls Tryz.prog 245 #[.agg #[.slice po no co,.slice pt nt ct,.slice pr nr cr,.slice pv nv cv],.int .i64 v] w fun e w'=>∃ q c,e=.returned (.tuple #[.slice q (outL (checkR O T R V) R V v).length c,.bool (outB (checkR O T R V) R v)])∧Sep w w' [.own 3 1 q (outL (checkR O T R V) R V v).length c (encI (outL (checkR O T R V) R V v))]:=by
 have S0:=Lib.hid ((Sep.start w).al #[.slice po no co,.slice pt nt ct,.slice pr nr cr,.slice pv nv cv] 27 w.heap.size rfl)
 have HR:=Lib.hid (fun W1 (h:Ext w W1)=>rowG po no co O pt nt ct T pr nr cr R pv nv cv V W1 pr nr cr R pv nv cv V v (hO.ext h) (hT.ext h) (hR.ext h) (hV.ext h) hct hcv (hR.ext h) (hV.ext h) hcv (fun h=>halfB_off (checkR_half h).2.2.2))
 clear hO hT hR hV
 go_enter Tryz.func245,Tryz.ntmps245
 go_wp2_with (go_at_call 275;go_must (refine(HR.out _ S0.out.ext).mono ?_;rintro e w1 ⟨q,c,rfl,T⟩;have S1:=Lib.hid (S0.out.comp T);clear T))
 go_ret2
 exact⟨q,c,rfl,S1.out.pick [0] (by decide) rfl⟩
end
section
open Go Go.RowKit Go.Shelf Go.Lib
theorem encI_set (l:List Int) (k:Nat) (x:Int):(encI l).set k (.int .i64 x)=encI (l.set k x):=by simp [encI,List.map_set]
theorem made_encI (n:Nat):(madeCells (Value.int .i64 0).cells (n*1)).toList=encI (List.replicate n 0):=by
 apply List.ext_getElem
 ·simp [madeCells,encI]
 ·intro i h1 h2
  simp [madeCells,encI,Value.cells,Nat.mod_one]
theorem cntL_nil (n:Nat):cntL n []=List.replicate (n+1) 0:=by
 apply List.ext_getElem
 ·simp [cntL]
 ·intro i h1 h2
  simp [cntL]
theorem Rd.oneIat (w:World) (t:TypeId) (a:Int) (b:Nat) (h:w.heap.size=b):Rd (w.alloc (.cells #[.int .i64 a] t)) 1 (some ⟨b,0,none⟩) 1 (encI [a]):=by subst h;exact Rd.oneI w t a
theorem wpList_make_sep {P:Program} {w0 w:World} {Γ:List Pc} {ops:Array Oper} {rest:List Oper} {o:Oper} {a:Act} {Q:Exit→Act→World→Prop}
  (hg:o.guard=none) (l c:Operand) (t:TypeId) (hop:o.op=Op.makeSlice t l c)
  (e:TypeId) (i:TypeInfo) (z:Value) (size:Nat) (h1:P.underlying t=some (.slice e)) (h2:P.info? e=some i) (h3:i.zero=some z) (h4:i.size=size)
  (L:Int) (n:Nat) (hl:a.eval l=.int .i64 L) (hc:a.eval c=.int .i64 L) (hL:L=(n:Int)) (b2:i.bytes*n≤281474976710656) (b3:n≤maxLen) (S:Sep w0 w Γ)
  (hK:∀ w',Sep w0 w' (.own e size (some ⟨w.heap.size,0,none⟩) n n (madeCells z.cells (n*size)).toList :: Γ)→wpList P ops Q rest (a.put o.dst (.slice (some ⟨w.heap.size,0,none⟩) n n)) w') :
  wpList P ops Q (o :: rest) a w :=
 wpList_make_full w hg l c t hop w.heap.size e i z size h1 h2 h3 h4 .i64 .i64 L L n hl hc hL hL b2 b3 (Nat.le_refl _) fun w' ho hgr =>
  hK w' (S.fresh ⟨hgr.os,hgr.tape,hgr.output,hgr.size,fun k hk=>hgr.block k hk (by simp)⟩ ho (Nat.le_refl _))
theorem laidG (n:Nat) (p:Option Addr) (m c:Nat) (E:List (Int × Int)) (w:World) (hE:Rd w 2 p m (encE E)) (hn:n≤200) (hm:m≤2000) (hb:∀ x∈E,0≤x.1∧x.1<n) :
  Calls Tryz.prog 107 #[.int .i64 n,.slice p m c] w fun e w'=>∃ qo co qt ct,e=.returned (.tuple #[.slice qo (n+1) co,.slice qt m ct])∧Sep w w' [.own 3 1 qt m ct (encI (toL E)),.own 3 1 qo (n+1) co (encI (offL n E))]:=by
 obtain⟨i0,hi0,hz0,hz1,hz2⟩:=info_parts infI
 have p1:=hE.ptr
 have L1:=Lib.hid hE.nE
 have HB:=Lib.hid hb
 clear hb
 have HE:=Lib.hid hE;clear hE
 go_enter Tryz.func107,Tryz.ntmps107
 go_wp2_with (at_make;go_must (refine wpList_make_sep rfl _ _ _ rfl 3 i0 _ 1 Tryz.underlying25 hi0 hz0 hz1 ((n:Int)+1) (n+1) rfl rfl (by omega) (by rw [hz2];omega) (by unfold maxLen;omega) (Sep.start w) ?_;intro w1 S';rw [made_encI,← cntL_nil] at S';have S1:=Lib.hid S';clear S'))
 generalize hqo:(some ⟨w.heap.size,0,none⟩:Option Addr)=qo at *
 clear hqo
 go_loopw [5,7,14] (fun t _ i wr=>∃ (k:Nat) (q:Option Addr) (d:Nat),k≤m∧i=.int .i64 k∧t=.slice q k d∧Sep w wr [.own 3 1 q k d (encI (toL (E.take k))),.own 3 1 qo (n+1) (n+1) (encI (cntL n (E.take k)))]) (fun _ _ i _=>m - (intOf i).toNat)
 case atStart=>exact⟨0,none,0,Nat.zero_le _,rfl,rfl,S1.out.nilrow _ _⟩
 case round =>
  clear S1
  obtain⟨k,q,d,hk,rfl,rfl,S⟩:=hrel
  by_cases hlt:k<m
  ·have hkE:k<E.length:=by rw [← L1.out];exact hlt
   have e1:=S.ext.cell (HE.out.cE hlt)
   have e2:=S.ext.cell (HE.out.cE2 hlt)
   obtain⟨b1,b2⟩:=HB.out _ (nth_mem hkE)
   obtain⟨f,hf⟩:∃ f:Nat,(nth E k).1=(f:Int):=⟨(nth E k).1.toNat,by omega⟩
   have HT:Hid (toL (E.take (k+1))=toL (E.take k) ++ [(nth E k).2]):=by unfold Hid toL;rw [map_take_succ _ E k hkE]
   have HC:Hid (cntL n (E.take (k+1))=(cntL n (E.take k)).set (f+1) (nth (cntL n (E.take k)) (f+1)+1)):=by
    unfold Hid;rw [take_succ_nth E k hkE];exact cntL_step _ _ hf (by omega)
   rw [hf] at e1 b1 b2
   have c1:=(S.rd 1 rfl (by omega)).cI (k:=f+1) (by omega)
   have po:=(S.rd 1 rfl (by omega)).ptr
   have fz:=own_frozen (S.own 1 rfl) (by omega) (f+1)
   have zz:(adr qo (f+1)).block<wr.heap.size:=(S.blt 1 rfl (by omega)).2
   have y0:adr qo (f+1)≠⟨wr.heap.size,1,none⟩:=fun e=>by
    have e2:(adr qo (f+1)).block=wr.heap.size:=by rw [e]
    omega
   have y1:(⟨wr.heap.size,1,none⟩:Addr)≠adr qo (f+1):=fun e=>y0 e.symm
   have d1:(0:Int)≤k:=by omega
   have d2:(k:Int)<m:=by omega
   have d3:(0:Int)≤(f:Int)+1:=by omega
   have d4:(f:Int)+1<((n+1:Nat):Int):=by omega
   have hcb:nth (cntL n (E.take k)) (f+1)≤2000∧0≤nth (cntL n (E.take k)) (f+1):=by
    rw [cntL_nth _ (by omega)]
    have h1:=List.countP_le_length (p:=fun x:Int × Int=>decide (x.1+1=((f+1:Nat):Int))) (l:=E.take k)
    rw [List.length_take] at h1
    omega
   obtain⟨u,hu⟩:∃ u,nth (cntL n (E.take k)) (f+1)=u:=⟨_,rfl⟩
   rw [hu] at c1 hcb HC
   have SH:=Lib.hid S;clear S
   clear hf hu hkE
   have SX:=Lib.hid ((SH.out.junk (.cells #[.int .i64 (f:Int),.int .i64 (nth E k).2] 98)).setRow 1 rfl (f+1) (by omega) (.int .i64 (u+1)))
   go_wp2_with (at_builtin;go_must (refine wpList_append_sep rfl _ _ _ rfl 3 i0 _ 1 8 Tryz.underlying25 hi0 hz0 hz1 hz2 rfl (by omega) (SX.out.junk _) 0 q k d _ rfl rfl _ 1 1 _ rfl (Rd.oneIat _ _ _ _ (by simp [World.setCell])) (one_encI _) (by omega) (by omega) ?_;intro q' d' w' S' hsz;have S5:=Lib.hid S';clear S' hsz))
   go_roundw
   case rel=>exact⟨k+1,q',d',by omega,by go_num,rfl,by rw [HT.out,HC.out,encI_append,← encI_set];exact S5.out⟩
   case measure=>simp [intOf];omega
  ·obtain rfl:k=m:=by omega
   have HT:Hid (E.take k=E):=by unfold Hid;rw [List.take_of_length_le (by rw [← L1.out];omega)]
   rw [HT.out,← sumL_zero (fun x hx=>(HB.out x hx).1)] at S
   have SH:=Lib.hid S;clear S
   go_wp2
   go_loopw [8,33] (fun _ i wr=>∃ v:Nat,v≤n∧i=.int .i64 v∧Sep w wr [.own 3 1 q k d (encI (toL E)),.own 3 1 qo (n+1) (n+1) (encI (sumL n E v))]) (fun _ i _=>n - (intOf i).toNat)
   case atStart=>exact⟨0,Nat.zero_le _,rfl,SH.out⟩
   case round =>
    clear SH
    obtain⟨v,hv,rfl,S⟩:=hrel
    by_cases hlv:v<n
    ·have c0:=(S.rd 1 rfl (by omega)).cI (k:=v) (by omega)
     have c1:=(S.rd 1 rfl (by omega)).cI (k:=v+1) (by omega)
     have po:=(S.rd 1 rfl (by omega)).ptr
     have fz:=own_frozen (S.own 1 rfl) (by omega) (v+1)
     have HC:=Lib.hid (sumL_step E hlv)
     have bnd:∀ j,j<n+1→0≤nth (sumL n E v) j∧nth (sumL n E v) j≤2000:=fun j hj=>by
      rw [sumL_nth _ hj]
      have:=L1.out
      split
      ·have h1:=List.countP_le_length (p:=fun x:Int × Int=>decide (x.1<(j:Int))) (l:=E)
       omega
      ·have h1:=List.countP_le_length (p:=fun x:Int × Int=>decide (x.1+1=(j:Int))) (l:=E)
       omega
     have bd0:=bnd v (by omega)
     have bd1:=bnd (v+1) (by omega)
     generalize nth (sumL n E v) v=x0 at *
     generalize nth (sumL n E v) (v+1)=x1 at *
     have d1:(0:Int)≤v:=by omega
     have d2:(v:Int)<n:=by omega
     have d3:(0:Int)≤(v:Int)+1:=by omega
     have d4:(v:Int)+1<((n+1:Nat):Int):=by omega
     have d5:(v:Int)<((n+1:Nat):Int):=by omega
     clear bnd
     have SH:=Lib.hid S;clear S
     go_wp2
     have y0:=fun x:ExtOf wr=>x.ext.cell c0
     have y1:=fun x:ExtOf wr=>x.ext.cell c1
     refine wp_region_mix [true,true,true,true,true,true,true,true,true,true,true] (fun _ _ _=>True) (by kernel_rfl) (by kernel_rfl) (by kernel_rfl) (fun _ _ _ _ _ h=>h) ?_
     simp only [nfM]
     repeat (go_big_quiet_step ((fail)))
     refine wpQuiet_nil ⟨trivial,fun vs W1 hE _=>?_⟩
     have S2:=SH.out.call hE
     have po2:=(S2.rd 1 rfl (by omega)).ptr
     have fz2:=own_frozen (S2.own 1 rfl) (by omega) (v+1)
     have k1:=hE.cell c1
     have S3:=Lib.hid (S2.setRow 1 rfl (v+1) (by omega) (.int .i64 (x1+x0)))
     clear S2 y0 y1 c0 c1 fz
     simp only [putM,List.length_cons,List.length_nil,Nat.zero_add,Nat.reduceAdd,List.drop_succ_cons,List.drop_zero]
     go_wp2
     go_roundw
     case rel=>exact⟨v+1,by omega,by go_num,by rw [HC.out,← encI_set];exact S3.out⟩
     case measure=>simp [intOf];omega
    ·obtain rfl:v=n:=by omega
     rw [sumL_end] at S
     have SH:=Lib.hid S;clear S
     go_wp2
     go_ret2
     exact⟨qo,_,q,d,rfl,SH.out⟩
end
section
open Go Go.RowKit
theorem CheckG (N:Int) (pe:Option Addr) (ne ce:Nat) (pw:Option Addr) (nw cw:Nat) (E:List (Int × Int)) (hs:List Hd) (W:List (List ByteArray)) (w:World) (hE:Rd w 2 pe ne (encE E)) (hW:RdW w pw nw hs W) (hz:SzW W) :
  Calls Tryz.prog 170 #[.agg #[.int .i64 N,.slice pe ne ce,.slice pw nw cw]] w fun e w'=>e=.returned (.bool (checkB N E W))∧Ext w w':=by
 have p1:=hE.ptr
 have p2:=hW.row.ptr
 have n1:=hE.small
 have n2:=hW.row.small
 have l1:=hE.nE
 have l2:=hW.nW
 have HE:=Lib.hid hE;clear hE
 have HW:=Lib.hid hW;clear hW
 have HZ:=Lib.hid hz;clear hz
 by_cases hpre:1≤N∧N≤200∧ne≤2000∧(nw:Int)=N
 ·obtain⟨c1,c2,c3,rfl⟩:=hpre
  have YES:∀ (h5:E.all (edgeOk nw)=true) (h6:W.all rowOk=true),checkB nw E W=true:=checkB_yes c1 c2 (by omega) (by omega)
  have L1:=Lib.hid l1;clear l1
  have L2:=Lib.hid l2;clear l2
  have HY:=Lib.hid YES;clear YES
  have t1:((nw:Int) != (nw:Int))=false:=by simp
  go_enter Tryz.func170,Tryz.ntmps170
  go_wp2
  go_loopw [4,32] (fun _ i wr=>∃ k:Nat,k≤ne∧i=.int .i64 k∧(E.take k).all (edgeOk nw)=true∧Ext w wr∧GBox wr w.heap.size (nw:Int) pe ne ce pw nw cw) (fun _ i _=>ne - (intOf i).toNat)
  case atStart=>exact⟨0,Nat.zero_le _,rfl,rfl,(Below.refl _ _).alloc (Nat.le_refl _) _,GBox.new _ _⟩
  case round =>
   obtain⟨k,hk,rfl,ha,hb,gb1⟩:=hrel
   have HA:=Lib.hid ha;clear ha
   have HB:=Lib.hid hb;clear hb
   have G1:=Lib.hid gb1
   obtain⟨b0,b1,b2⟩:=gb1
   have z0:w.heap.size<wr.heap.size:=World.block_lt_of_cell? wr _ b0
   by_cases hlt:k<ne
   ·have g1:=HB.out.cell (HE.out.cE hlt)
    have g2:=HB.out.cell (HE.out.cE2 hlt)
    by_cases hok:0≤(nth E k).1∧(nth E k).1<nw∧0≤(nth E k).2∧(nth E k).2<nw
    ·have HO:Hid (edgeOk nw (nth E k)=true):=by unfold Hid edgeOk;exact decide_eq_true hok
     obtain⟨o1,o2,o3,o4⟩:=hok
     go_wp2_with (first | (go_at_call 221;have _t:=F1;refine(isPlaceG _ _ _ _ _ _ _ _ _).mono ?_;rintro e w3 ⟨rfl,hb3⟩;have F2:=Lib.hid (Ext.trans F1.out hb3);clear hb3) | (go_at_call 221;refine(isPlaceG _ _ _ _ _ _ _ _ _).mono ?_;rintro e w2 ⟨rfl,hb2⟩;have F1:=Lib.hid (Ext.trans (Ext.alloc (Below.refl wr.heap.size wr) _) hb2);have b0':=Ext.cell F1.out b0;have b1':=Ext.cell F1.out b1;have b2':=Ext.cell F1.out b2;have x0:=Ext.cell hb2 (cellnew0 _ _ _ _);have x1:=Ext.cell hb2 (cellnew1 _ _ _ _ _);clear hb2))
     go_roundw
     case rel=>exact⟨k+1,by omega,by go_num,all_step _ _ _ (by rw [← L1.out];exact hlt) HA.out HO.out,Ext.trans HB.out F2.out,G1.out.ext F2.out⟩
     case measure=>simp [intOf];omega
    ·have HO:Hid (edgeOk nw (nth E k)=false):=by unfold Hid edgeOk;exact decide_eq_false hok
     have HF:=Lib.hid (checkB_E (W:=W) (by rw [← L1.out];exact hlt) HO.out)
     clear HO
     by_cases o1:0≤(nth E k).1
     ·by_cases o2:(nth E k).1<nw
      ·by_cases o3:0≤(nth E k).2
       ·have o4:(nw:Int)≤(nth E k).2:=Int.not_lt.1 fun h=>hok ⟨o1,o2,o3,h⟩
        have o5:decide ((nth E k).2<(nw:Int))=false:=by simp;omega
        clear hok
        go_wp2_with (first | (go_at_call 221;have _t:=F1;refine(isPlaceG _ _ _ _ _ _ _ _ _).mono ?_;rintro e w3 ⟨rfl,hb3⟩;have F2:=Lib.hid (Ext.trans F1.out hb3);clear hb3) | (go_at_call 221;refine(isPlaceG _ _ _ _ _ _ _ _ _).mono ?_;rintro e w2 ⟨rfl,hb2⟩;have F1:=Lib.hid (Ext.trans (Ext.alloc (Below.refl wr.heap.size wr) _) hb2);have b0':=Ext.cell F1.out b0;have b1':=Ext.cell F1.out b1;have b2':=Ext.cell F1.out b2;have x0:=Ext.cell hb2 (cellnew0 _ _ _ _);have x1:=Ext.cell hb2 (cellnew1 _ _ _ _ _);clear hb2))
        go_ret
        exact⟨ret_bool HF.out.symm,Ext.trans HB.out F2.out⟩
       ·have o5:decide (0≤(nth E k).2)=false:=by simp;omega
        clear hok
        go_wp2_with (first | (go_at_call 221;have _t:=F1;refine(isPlaceG _ _ _ _ _ _ _ _ _).mono ?_;rintro e w3 ⟨rfl,hb3⟩;have F2:=Lib.hid (Ext.trans F1.out hb3);clear hb3) | (go_at_call 221;refine(isPlaceG _ _ _ _ _ _ _ _ _).mono ?_;rintro e w2 ⟨rfl,hb2⟩;have F1:=Lib.hid (Ext.trans (Ext.alloc (Below.refl wr.heap.size wr) _) hb2);have b0':=Ext.cell F1.out b0;have b1':=Ext.cell F1.out b1;have b2':=Ext.cell F1.out b2;have x0:=Ext.cell hb2 (cellnew0 _ _ _ _);have x1:=Ext.cell hb2 (cellnew1 _ _ _ _ _);clear hb2))
        go_ret
        exact⟨ret_bool HF.out.symm,Ext.trans HB.out F2.out⟩
      ·have o5:decide ((nth E k).1<(nw:Int))=false:=by simp;omega
       clear hok
       go_wp2_with (first | (go_at_call 221;have _t:=F1;refine(isPlaceG _ _ _ _ _ _ _ _ _).mono ?_;rintro e w3 ⟨rfl,hb3⟩;have F2:=Lib.hid (Ext.trans F1.out hb3);clear hb3) | (go_at_call 221;refine(isPlaceG _ _ _ _ _ _ _ _ _).mono ?_;rintro e w2 ⟨rfl,hb2⟩;have F1:=Lib.hid (Ext.trans (Ext.alloc (Below.refl wr.heap.size wr) _) hb2);have b0':=Ext.cell F1.out b0;have b1':=Ext.cell F1.out b1;have b2':=Ext.cell F1.out b2;have x0:=Ext.cell hb2 (cellnew0 _ _ _ _);have x1:=Ext.cell hb2 (cellnew1 _ _ _ _ _);clear hb2))
       go_ret
       exact⟨ret_bool HF.out.symm,Ext.trans HB.out F1.out⟩
     ·have o5:decide (0≤(nth E k).1)=false:=by simp;omega
      clear hok
      go_wp2_with (first | (go_at_call 221;have _t:=F1;refine(isPlaceG _ _ _ _ _ _ _ _ _).mono ?_;rintro e w3 ⟨rfl,hb3⟩;have F2:=Lib.hid (Ext.trans F1.out hb3);clear hb3) | (go_at_call 221;refine(isPlaceG _ _ _ _ _ _ _ _ _).mono ?_;rintro e w2 ⟨rfl,hb2⟩;have F1:=Lib.hid (Ext.trans (Ext.alloc (Below.refl wr.heap.size wr) _) hb2);have b0':=Ext.cell F1.out b0;have b1':=Ext.cell F1.out b1;have b2':=Ext.cell F1.out b2;have x0:=Ext.cell hb2 (cellnew0 _ _ _ _);have x1:=Ext.cell hb2 (cellnew1 _ _ _ _ _);clear hb2))
      go_ret
      exact⟨ret_bool HF.out.symm,Ext.trans HB.out F1.out⟩
   ·have HEE:=Lib.hid (all_end _ _ _ (by rw [← L1.out];exact hlt) HA.out)
    go_wp2
    clear hlt HA hk
    obtain⟨wo,rfl⟩:∃ wo:World,wo=wr:=⟨_,rfl⟩
    go_loop [6,52] (fun _ i=>∃ k:Nat,k≤nw∧i=.int .i64 k∧(W.take k).all rowOk=true) (fun _ i=>nw - (intOf i).toNat)
    case atStart=>exact⟨0,Nat.zero_le _,rfl,rfl⟩
    case round =>
     obtain⟨k,hk,rfl,ha⟩:=hrel
     have HA:=Lib.hid ha;clear ha
     by_cases hlt:k<nw
     ·have g1:=HB.out.cell (HW.out.row.cH hlt)
      have q1:=(HW.out.each k hlt).ext HB.out
      have l3:=q1.nS
      have Q1:=Lib.hid q1;clear q1
      have L3:=Lib.hid l3;clear l3
      have hsz:=Lib.hid (HZ.out (nth W k) (by rw [nth_eq (by rw [← L2.out];exact hlt)];exact List.getElem_mem _))
      by_cases h8:(nth hs k).n≤8
      ·by_cases hw:(nth W k).any (fun s=>!wordB s)=true
       ·have HF:=Lib.hid (checkB_W (N:=nw) (E:=E) (k:=k) (W:=W) (by rw [← L2.out];exact hlt) (by unfold rowOk;rw [show (nth W k).all wordB=false from by rw [← Bool.not_eq_true,List.all_eq_not_any_not,hw];simp];rfl))
        go_wp2_with (go_at_call 130;refine(ContainsWord _ _ _ _ _ Q1.out hsz.out).mono ?_;rintro e w' ⟨rfl,rfl⟩)
        go_ret
        exact⟨ret_bool HF.out.symm,HB.out⟩
       ·have hw':(nth W k).any (fun s=>!wordB s)=false:=by simpa using hw
        have HW':=Lib.hid hw'
        clear hw
        go_wp2_with (go_at_call 130;refine(ContainsWord _ _ _ _ _ Q1.out hsz.out).mono ?_;rintro e w' ⟨rfl,rfl⟩)
        go_round
        case rel=>exact⟨k+1,by omega,by go_num,all_step _ _ _ (by rw [← L2.out];exact hlt) HA.out (by unfold rowOk;rw [List.all_eq_not_any_not,HW'.out,← L3.out];simp [h8])⟩
        case measure=>simp [intOf];omega
      ·have HF:=Lib.hid (checkB_W (N:=nw) (E:=E) (k:=k) (W:=W) (by rw [← L2.out];exact hlt) (by unfold rowOk;rw [← L3.out];simp [h8]))
       go_wp2
       go_ret
       exact⟨ret_bool HF.out.symm,HB.out⟩
     ·have HR:=Lib.hid (all_end _ _ _ (by rw [← L2.out];exact hlt) HA.out)
      go_wp2
      go_ret
      exact⟨ret_bool (HY.out HEE.out HR.out).symm,HB.out⟩
 ·have HF:=Lib.hid (checkB_pre (N:=N) (E:=E) (W:=W) (by rw [← l1,← l2];exact hpre))
  clear l1 l2 HE HW HZ p1 p2
  have h1:∀ o1:Obj,Ext w (w.alloc o1):=fun o1=>(Below.refl _ _).alloc (Nat.le_refl _) _
  by_cases c1:1≤N
  ·by_cases c2:N≤200
   ·by_cases c3:ne≤2000
    ·have c4:((nw:Int) != N)=true:=by rw [bne_iff_ne];exact fun h=>hpre ⟨c1,c2,c3,h⟩
     clear hpre
     go_enter Tryz.func170,Tryz.ntmps170
     go_wp2
     go_ret
     exact⟨ret_bool HF.out.symm,h1 _⟩
    ·clear hpre
     go_enter Tryz.func170,Tryz.ntmps170
     go_wp2
     go_ret
     exact⟨ret_bool HF.out.symm,h1 _⟩
   ·clear hpre
    go_enter Tryz.func170,Tryz.ntmps170
    go_wp2
    go_ret
    exact⟨ret_bool HF.out.symm,h1 _⟩
  ·clear hpre
   go_enter Tryz.func170,Tryz.ntmps170
   go_wp2
   go_ret
   exact⟨ret_bool HF.out.symm,h1 _⟩
end
section
open Go Go.RowKit Go.Shelf Go.Lib Go.Sort
theorem allLt_zero {p:Nat→Prop}:∀ i,i<0→p i:=fun i h=>absurd h (Nat.not_lt_zero i)
theorem allLt_succ {n:Nat} {p:Nat→Prop} (h:∀ i,i<n→p i) (hn:p n):∀ i,i<n+1→p i:=fun i hi=>by
 rcases Nat.lt_or_ge i n with h1 | h1
 ·exact h i h1
 ·obtain rfl:i=n:=by omega
  exact hn
def GraphO (w:World) (base:Nat) (v:Value) (N:Int) (E:List (Int × Int)) (W:List (List ByteArray)):Prop :=
 ∃ pe ce pw cw hs,v=.agg #[.int .i64 N,.slice pe E.length ce,.slice pw W.length cw]∧w.ownsRow base 98 2 (.slice pe E.length ce) E.length (encE E)∧OwnW w base pw W.length cw hs W
theorem NormalG_no (N:Int) (pe:Option Addr) (ne ce:Nat) (pw:Option Addr) (nw cw:Nat) (E:List (Int × Int)) (hs:List Hd) (W:List (List ByteArray)) (w:World) (hE:Rd w 2 pe ne (encE E)) (hW:RdW w pw nw hs W) (hz:SzW W) (hc:checkB N E W=false) :
  Calls Tryz.prog 175 #[.agg #[.int .i64 N,.slice pe ne ce,.slice pw nw cw]] w fun e w'=>e=.returned (.tuple #[.agg #[.int .i64 0,.slice none 0 0,.slice none 0 0],.int .i64 20])∧Ext w w':=by
 have HE:=Lib.hid hE;clear hE
 have HW:=Lib.hid hW;clear hW
 have HZ:=Lib.hid hz;clear hz
 go_enter Tryz.func175,Tryz.ntmps175
 go_wp2_with (go_at_call 170;refine(CheckG _ _ _ _ _ _ _ E hs W _ (HE.out.ext (alloc2 w _ _).2.2) (HW.out.ext (alloc2 w _ _).2.2) HZ.out).mono ?_;rintro e w1 ⟨rfl,hb1⟩;have BR:Blk w1 (w.heap.size+1) _ _:=(hb1.block _ (by simp)).trans (alloc2 w _ _).2.1;have r0:=BR.cell 0;have r1:=BR.cell 1;have r2:=BR.cell 2;have k0:=BR.frozen 0;have k1:=BR.frozen 1;have k2:=BR.frozen 2;have HB:=Lib.hid (Ext.trans (alloc2 w _ _).2.2 hb1);have BR0:=Lib.hid BR;clear BR hb1)
 have B0:=BR0.out
 have B1:=B0.set_ 0 (.int .i64 0)
 have B2:=B1.set_ 1 (.slice none 0 0)
 have c0:=(B2.set_ 2 (.slice none 0 0)).cell 0
 have c1':=(B2.set_ 2 (.slice none 0 0)).cell 1
 have c2:=(B2.set_ 2 (.slice none 0 0)).cell 2
 refine bodyPost_ret (v:=.tuple #[.agg #[.int .i64 0,.slice none 0 0,.slice none 0 0],.int .i64 20]) (by simp [results,Tryz.results175,go_sem,c0,c1',c2,Tryz.sizeOf102,Tryz.isAgg102]) rfl ⟨rfl,?_⟩
 exact((HB.out.setCell (by simp) _).setCell (by simp) _).setCell (by simp) _
def R3 (b:Nat) (wz N:Nat) (pe:Option Addr) (ne ce:Nat) (D:List (Int × Int)) (i:Nat) (v:Value) (W:World):Prop :=
 match i with
 | 0=>v=.pointer (some ⟨b,0,none⟩)
 | 1=>v=.int .i64 N
 | 2=>v=.pointer (some ⟨b,1,none⟩)
 | 3=>v=.slice pe ne ce
 | 4=>v=.agg #[.func (.func 223) #[] #[]]
 | 5=>∃ q c,v=.slice q D.length c∧W.ownsRow wz 98 2 (.slice q D.length c) D.length (encE D)
 | 6=>∃ q c,v=.agg #[.int .i64 N,.slice q D.length c,.slice none 0 0]∧W.ownsRow wz 98 2 (.slice q D.length c) D.length (encE D)
 | 7=>∃ g,v=.pointer (some ⟨g,0,none⟩)∧wz≤g∧Blk W g 102 #[.int .i64 0,.slice none 0 0,.slice none 0 0]
 | _=>True
theorem R3_mono {b wz N:Nat} {pe:Option Addr} {ne ce:Nat} {D:List (Int × Int)}:∀ i v W W',Ext W W'→R3 b wz N pe ne ce D i v W→R3 b wz N pe ne ce D i v W':=by
 intro i v W W' he h
 match i with
 | 0=>exact h
 | 1=>exact h
 | 2=>exact h
 | 3=>exact h
 | 4=>exact h
 | 5=>obtain⟨q,c,h1,h2⟩:=h;exact⟨q,c,h1,he.own h2⟩
 | 6=>obtain⟨q,c,h1,h2⟩:=h;exact⟨q,c,h1,he.own h2⟩
 | 7=>obtain⟨g,h1,h2,h3⟩:=h;exact⟨g,h1,h2,h3.ext he⟩
 | _+8=>trivial
def R7 (wz g:Nat) (qh:Option Addr) (j ch:Nat) (pl:Option Addr) (nl cl:Nat) (D:List ByteArray) (i:Nat) (v:Value) (W:World):Prop :=
 match i with
 | 0=>v=.pointer (some ⟨g,2,none⟩)
 | 1=>v=.slice qh j ch
 | 2=>v=.slice pl nl cl
 | 3=>v=.agg #[.func (.func 220) #[] #[]]
 | 4=>∃ q c,v=.slice q D.length c∧W.ownsRow wz 9 1 (.slice q D.length c) D.length (encS D)
 | 5=>∃ q c a,v=.slice a 1 1∧Rd W 1 a 1 [.slice q D.length c]∧W.ownsRow wz 9 1 (.slice q D.length c) D.length (encS D)
 | _=>True
theorem R7_mono {wz g:Nat} {qh:Option Addr} {j ch:Nat} {pl:Option Addr} {nl cl:Nat} {D:List ByteArray}:∀ i v W W',Ext W W'→R7 wz g qh j ch pl nl cl D i v W→R7 wz g qh j ch pl nl cl D i v W':=by
 intro i v W W' he h
 match i with
 | 0=>exact h
 | 1=>exact h
 | 2=>exact h
 | 3=>exact h
 | 4=>obtain⟨q,c,h1,h2⟩:=h;exact⟨q,c,h1,he.own h2⟩
 | 5=>obtain⟨q,c,a,h1,h2,h3⟩:=h;exact⟨q,c,a,h1,h2.ext he,he.own h3⟩
 | _+6=>trivial
theorem NormalG_yes (N:Int) (pe:Option Addr) (ne ce:Nat) (pw:Option Addr) (nw cw:Nat) (E:List (Int × Int)) (hs:List Hd) (W:List (List ByteArray)) (w:World) (hE:Rd w 2 pe ne (encE E)) (hW:RdW w pw nw hs W) (hz:SzW W) (hc:checkB N E W=true) :
  Calls Tryz.prog 175 #[.agg #[.int .i64 N,.slice pe ne ce,.slice pw nw cw]] w fun e w'=>∃ v,e=.returned (.tuple #[v,.int .i64 0])∧GraphO w' w.heap.size v N (dedup (sortBy lessE E)) (W.map fun l=>dedup (sortBy sLess l))∧Ext w w':=by
 obtain⟨j0,hj0,hy0,hy1,hy2⟩:=info_parts inf35
 obtain⟨_,hN,hE2,hWN,_,hW8⟩:=checkB_parts hc
 have hW9:=rowOk_len hW8
 have p1:=hE.ptr
 have p2:=hW.row.ptr
 have l1:=hE.nE
 have l2:=hW.nW
 have n1:ne≤2000:=by omega
 have n2:nw≤200:=by omega
 obtain rfl:N=(nw:Int):=by omega
 have HE:=Lib.hid hE;clear hE
 have HW:=Lib.hid hW;clear hW
 have HZ:=Lib.hid hz;clear hz
 have L1:=Lib.hid l1;clear l1
 have L2:=Lib.hid l2;clear l2
 have H9:=Lib.hid hW9;clear hW9
 clear hW8 hE2 hN hWN
 go_enter Tryz.func175,Tryz.ntmps175
 go_wp2_with (go_at_call 170;refine(CheckG _ _ _ _ _ _ _ E hs W _ (HE.out.ext (alloc2 w _ _).2.2) (HW.out.ext (alloc2 w _ _).2.2) HZ.out).mono ?_;rintro e w1 ⟨rfl,hb1⟩;have BG:Blk w1 w.heap.size _ _:=(hb1.block _ (by simp;omega)).trans (alloc2 w _ _).1;have BR:Blk w1 (w.heap.size+1) _ _:=(hb1.block _ (by simp)).trans (alloc2 w _ _).2.1;have g0:=BG.cell 0;have g1:=BG.cell 1;have zb:=BR.lt;have HB:=Lib.hid (Ext.trans (alloc2 w _ _).2.2 hb1);have BR0:=Lib.hid BR;have BG0:=Lib.hid BG;clear BR BG hb1)
 refine wp_region_head 8 [11,12,13,14,15,16,17,4] (R3 w.heap.size w1.heap.size nw pe ne ce (dedup (sortBy lessE E))) (by kernel_rfl) (by kernel_rfl) (by kernel_rfl) R3_mono ?_ ?_
 ·refine allLt_succ (allLt_succ (allLt_succ (allLt_succ (allLt_succ (allLt_succ (allLt_succ (allLt_succ allLt_zero ?_) ?_) ?_) ?_) ?_) ?_) ?_) ?_ <;> intro ev vs W2 hE2 hin hout hcs hf hg hd o ho <;> obtain rfl:=Option.some.inj ho
  ·have e1:=hout 1 rfl
   simp [go_sem] at e1
   simp [execOp,go_sem,e1]
   exact⟨rfl,Below.refl _ _⟩
  ·have e1:_=Value.pointer _:=(hin 11 0 rfl).trans (hd 0 (by decide))
   have c:=(BG0.out.ext hE2).cell 0
   simp [execOp,go_sem,e1,c]
   exact⟨rfl,Below.refl _ _⟩
  ·have e1:=hout 1 rfl
   simp [go_sem] at e1
   simp [execOp,go_sem,e1]
   exact⟨rfl,Below.refl _ _⟩
  ·have e1:_=Value.pointer _:=(hin 13 2 rfl).trans (hd 2 (by decide))
   have c:=(BG0.out.ext hE2).cell 1
   simp [execOp,go_sem,e1,c]
   exact⟨rfl,Below.refl _ _⟩
  ·have e1:=hf 172
   simp [go_sem] at e1
   simp [execOp,go_sem,e1]
   exact(EdgesG W2).mono fun e w' ⟨h1,h2⟩=>⟨_,h1,rfl,h2⟩
  ·have e1:=hf 225
   have e2:_=Value.slice _ _ _:=(hin 14 3 rfl).trans (hd 3 (by decide))
   have e3:_=Value.agg _:=(hin 15 4 rfl).trans (hd 4 (by decide))
   simp [go_sem] at e1
   simp [execOp,go_sem,e1,e2,e3]
   exact(OnceE _ _ _ E W2 (HE.out.ext (Ext.trans HB.out hE2)) (by omega)).mono fun e w' ⟨q,c,h1,h2,h3⟩=>⟨_,h1,⟨q,c,rfl,own_base h2 hE2.size⟩,h3⟩
  ·have e1:_=Value.int _ _:=(hin 12 1 rfl).trans (hd 1 (by decide))
   obtain⟨q,c,e2,e3⟩:=(hd 5 (by decide):R3 _ _ _ _ _ _ _ 5 (vs 5) W2)
   have e4:=(hin 16 5 rfl).trans e2
   simp [execOp,go_sem,e1,e4]
   exact⟨⟨q,c,rfl,e3⟩,Below.refl _ _⟩
  ·simp [execOp,go_sem]
   exact⟨⟨_,rfl,hE2.size,Blk.new _ _ _⟩,(Below.refl _ _).alloc (Nat.le_refl _) _⟩
 ·intro vs W2 hE2 hR
  have r0:vs 0=_:=hR 0 (by decide)
  have r1:vs 1=_:=hR 1 (by decide)
  have r2:vs 2=_:=hR 2 (by decide)
  have r3:vs 3=_:=hR 3 (by decide)
  have r4:vs 4=_:=hR 4 (by decide)
  obtain⟨q5,c5,r5,_⟩:=hR 5 (by decide)
  obtain⟨q,cq,r6,own⟩:=hR 6 (by decide)
  obtain⟨g,r7,hg,BO⟩:=hR 7 (by decide)
  simp only [putHd,List.mapIdx_toArray,List.mapIdx_cons,List.mapIdx_nil,Nat.zero_add,Nat.reduceAdd]
  simp [List.idxOf?_cons,List.idxOf?_nil,r0,r1,r2,r3,r4,r5,r6,r7]
  have s2:=hE2.size
  have hbw:w.heap.size+1<W2.heap.size:=by omega
  have B1:=BO.set_ 0 (.int .i64 nw)
  have B2:=B1.set_ 1 (.slice q (dedup (sortBy lessE E)).length cq)
  have B3:=B2.set_ 2 (.slice none 0 0)
  have BOx:=Lib.hid B3
  have OEx:=Lib.hid (own_set (own_set (own_set own BO (by decide) 0 (.int .i64 nw)) B1 (by decide) 1 (.slice q (dedup (sortBy lessE E)).length cq)) B2 (by decide) 2 (.slice none 0 0))
  have b0:=BO.cell 0
  have b1:=BO.cell 1
  have b2:=BO.cell 2
  have f0:=BO.frozen 0
  have f1:=BO.frozen 1
  have f2:=BO.frozen 2
  have HGL:=Lib.hid BO.lt
  have hgw:w.heap.size+1<g:=by omega
  have BGx:=Lib.hid ((((BG0.out.ext hE2).far (p:=⟨g,0,none⟩) (by simp;omega) (.int .i64 nw)).far (p:=⟨g,1,none⟩) (by simp;omega) (.slice q (dedup (sortBy lessE E)).length cq)).far (p:=⟨g,2,none⟩) (by simp;omega) (.slice none 0 0))
  have BRx:=Lib.hid ((((BR0.out.ext hE2).far (p:=⟨g,0,none⟩) (by simp;omega) (.int .i64 nw)).far (p:=⟨g,1,none⟩) (by simp;omega) (.slice q (dedup (sortBy lessE E)).length cq)).far (p:=⟨g,2,none⟩) (by simp;omega) (.slice none 0 0))
  have HX:=Lib.hid ((((Ext.trans HB.out hE2).setCell (p:=⟨g,0,none⟩) (by simp;omega) (.int .i64 nw)).setCell (p:=⟨g,1,none⟩) (by simp;omega) (.slice q (dedup (sortBy lessE E)).length cq)).setCell (p:=⟨g,2,none⟩) (by simp;omega) (.slice none 0 0))
  have gx:=BGx.out.cell 2
  clear g0 g1 BG0 BR0 HB B1 B2 B3 own BO
  go_wp2
  go_loopw [6,21] (fun _ i wr=>∃ (j:Nat) (qh:Option Addr) (ch:Nat) (hs':List Hd),j≤nw∧i=.int .i64 j∧OwnW wr W2.heap.size qh j ch hs' ((W.take j).map fun l=>dedup (sortBy sLess l))∧wr.ownsRow w1.heap.size 98 2 (.slice q (dedup (sortBy lessE E)).length cq) (dedup (sortBy lessE E)).length (encE (dedup (sortBy lessE E))) ∧
    Blk wr w.heap.size 102 #[.int .i64 nw,.slice pe ne ce,.slice pw nw cw]∧Blk wr (w.heap.size+1) 102 #[.int .i64 0,.slice none 0 0,.slice none 0 0]∧Blk wr g 102 #[.int .i64 nw,.slice q (dedup (sortBy lessE E)).length cq,.slice qh j ch]∧Ext w wr∧W2.heap.size≤wr.heap.size) (fun _ i _=>nw - (intOf i).toNat)
  case atStart=>exact⟨0,none,0,[],Nat.zero_le _,rfl,OwnW.nil _ _,OEx.out,BGx.out,BRx.out,BOx.out,HX.out,by simp [World.setCell]⟩
  case round =>
   clear gx OEx BGx BRx BOx HX
   obtain⟨j,qh,ch,hs',hj,rfl,OW,OE,BG,BR,BO,HB,HZZ⟩:=hrel
   have g2:=BG.cell 2
   have o0:=BO.cell 0
   have o1:=BO.cell 1
   have o2:=BO.cell 2
   have r0:=BR.cell 0
   have r1:=BR.cell 1
   have r2:=BR.cell 2
   have q0:=BR.frozen 0
   have q1:=BR.frozen 1
   have q2:=BR.frozen 2
   have OW0:=Lib.hid OW;clear OW
   have OE0:=Lib.hid OE;clear OE
   have BG0:=Lib.hid BG;clear BG
   have BR0:=Lib.hid BR;clear BR
   have BO0:=Lib.hid BO;clear BO
   have HB0:=Lib.hid HB;clear HB
   by_cases hjt:j<nw
   ·have gh:=HB0.out.cell (HW.out.row.cH hjt)
    have QS:=Lib.hid ((HW.out.each j hjt).ext HB0.out)
    have hlen:(nth hs j).n≤8:=by rw [QS.out.nS];exact H9.out _ (by rw [nth_eq (by rw [← L2.out];exact hjt)];exact List.getElem_mem _)
    have HT2:=Lib.hid (map_take_succ (fun l=>dedup (sortBy sLess l)) W j (by rw [← L2.out];exact hjt))
    have m1:(nth hs j).n≤1000000:=by omega
    have m3:(j+1)*24≤140737488355328:=by omega
    have m4:j+1≤140737488355328:=by omega
    have M3:=Lib.hid m3;clear m3
    have M4:=Lib.hid m4;clear m4
    go_wp2
    refine wp_region_head 6 [25,26,27,28,29,30] (R7 wr.heap.size g qh j ch (nth hs j).p (nth hs j).n (nth hs j).c (dedup (sortBy sLess (nth W j)))) (by kernel_rfl) (by kernel_rfl) (by kernel_rfl) R7_mono ?_ ?_
    ·refine allLt_succ (allLt_succ (allLt_succ (allLt_succ (allLt_succ (allLt_succ allLt_zero ?_) ?_) ?_) ?_) ?_) ?_ <;> intro ev vs W3 hE3 hin hout hcs hf hg3 hd o ho <;> obtain rfl:=Option.some.inj ho
     ·have e1:=hout 4 rfl
      simp [go_sem] at e1
      simp [execOp,go_sem,e1]
      exact⟨rfl,Below.refl _ _⟩
     ·have e1:_=Value.pointer _:=(hin 25 0 rfl).trans (hd 0 (by decide))
      have c:=(BO0.out.ext hE3).cell 2
      simp [execOp,go_sem,e1,c]
      exact⟨rfl,Below.refl _ _⟩
     ·have e1:=hout 6 rfl
      simp [go_sem] at e1
      simp [execOp,go_sem,e1]
      exact⟨rfl,Below.refl _ _⟩
     ·have e1:=hf 169
      simp [go_sem] at e1
      simp [execOp,go_sem,e1]
      exact(WordsG W3).mono fun e w' ⟨h1,h2⟩=>⟨_,h1,rfl,h2⟩
     ·have e1:=hf 226
      have e2:_=Value.slice _ _ _:=(hin 27 2 rfl).trans (hd 2 (by decide))
      have e3:_=Value.agg _:=(hin 28 3 rfl).trans (hd 3 (by decide))
      simp [go_sem] at e1
      simp [execOp,go_sem,e1,e2,e3]
      exact(OnceS _ _ _ (nth W j) W3 (QS.out.ext hE3) (by omega)).mono fun e w' ⟨q,c,h1,h2,h3⟩=>⟨_,h1,⟨q,c,rfl,own_base h2 hE3.size⟩,h3⟩
     ·obtain⟨q,c,e2,e3⟩:=(hd 4 (by decide):R7 _ _ _ _ _ _ _ _ _ 4 (vs 4) W3)
      have e4:=(hin 29 4 rfl).trans e2
      simp [execOp,go_sem,e4]
      exact⟨⟨q,c,_,rfl,Rd.oneH _ _ _ _ _,e3.alloc _⟩,(Below.refl _ _).alloc (Nat.le_refl _) _⟩
    ·intro vs W3 hE3 hR3
     have r0:vs 0=_:=hR3 0 (by decide)
     have r1:vs 1=_:=hR3 1 (by decide)
     have r2:vs 2=_:=hR3 2 (by decide)
     have r3:vs 3=_:=hR3 3 (by decide)
     obtain⟨q4,c4,r4,_⟩:=hR3 4 (by decide)
     obtain⟨p',d',a',r5,RA,OR⟩:=hR3 5 (by decide)
     have OR1:=Lib.hid (own_base OR HZZ)
     have RA1:=Lib.hid RA
     have HX2:=Lib.hid hE3
     have OW2:=Lib.hid (OW0.out.ext hE3)
     have BO2:=Lib.hid (BO0.out.ext hE3)
     have BG2:=Lib.hid (BG0.out.ext hE3)
     have BR2:=Lib.hid (BR0.out.ext hE3)
     have OE2:=Lib.hid (hE3.own OE0.out)
     have HB2:=Lib.hid (Ext.trans HB0.out hE3)
     have hz3:W2.heap.size≤W3.heap.size:=Nat.le_trans HZZ hE3.size
     simp only [putHd,List.mapIdx_toArray,List.mapIdx_cons,List.mapIdx_nil,Nat.zero_add,Nat.reduceAdd]
     simp [List.idxOf?_cons,List.idxOf?_nil,r0,r1,r2,r3,r4,r5]
     clear r0 r1 r2 r3 r4 r5 OR RA hE3 hR3
     go_wp2_with (at_builtin;go_must ((refine wpList_append_rd rfl _ _ _ rfl W2.heap.size 22 j0 _ 1 24 Tryz.underlying100 hj0 hy0 hy1 hy2 rfl (by omega) qh j ch _ rfl OW2.out.row a' 1 1 _ rfl RA1.out (one_slice _ _ _) M3.out M4.out hz3 ?_;intro q3 c3 w3 own3 hg3 hat3 hl3;have BO3:Blk w3 g _ _:=(hl3.block g HGL.out).trans BO2.out;have BG3:Blk w3 w.heap.size _ _:=(hl3.block _ (by omega)).trans BG2.out;have BR3:Blk w3 (w.heap.size+1) _ _:=(hl3.block _ (by omega)).trans BR2.out;have HB3:=Lib.hid (Below.trans HB2.out (hl3.mono (by omega)));have OE3:=Lib.hid (own_grown OE2.out hg3 (own_own_ne OW2.out.row OE2.out (by decide)));have OW3:=Lib.hid (OwnW.push OW2.out OR1.out own3 hg3);have x2:=BO3.cell 2;have xf:=BO3.frozen 2;have BO4:=Lib.hid BO3;have BG4:=Lib.hid BG3;have BR4:=Lib.hid BR3;have HS3:=hl3.size;clear own3 hg3 hat3 hl3 BO3 BG3 BR3)))
     go_roundw
     case rel=>exact⟨j+1,q3,c3,_,by omega,by go_num,by rw [HT2.out];exact OW3.out.set_ BO4.out (by decide) (by decide) _ _,own_set OE3.out BO4.out (by decide) _ _,BG4.out.far (by simp;omega) _,BR4.out.far (by simp;omega) _,BO4.out.set_ 2 _,HB3.out.setCell (by simp;omega) _,by simp [World.setCell];omega⟩
     case measure=>simp [intOf];omega
   ·have hjn:j=nw:=by omega
    subst hjn
    have HT2:Hid ((W.take j).map (fun l=>dedup (sortBy sLess l))=W.map (fun l=>dedup (sortBy sLess l))):=by unfold Hid;rw [List.take_of_length_le (by rw [← L2.out];omega)]
    go_wp2
    have B0:=BR0.out
    have B1:=B0.set_ 0 (.int .i64 j)
    have B2:=B1.set_ 1 (.slice q (dedup (sortBy lessE E)).length cq)
    have c0:=(B2.set_ 2 (.slice qh j ch)).cell 0
    have c1':=(B2.set_ 2 (.slice qh j ch)).cell 1
    have c2:=(B2.set_ 2 (.slice qh j ch)).cell 2
    refine bodyPost_ret (v:=.tuple #[.agg #[.int .i64 j,.slice q (dedup (sortBy lessE E)).length cq,.slice qh j ch],.int .i64 0]) (by simp [results,Tryz.results175,go_sem,c0,c1',c2,Tryz.sizeOf102,Tryz.isAgg102]) rfl ⟨_,rfl,?_,?_⟩
    ·have OW:=((OW0.out.set_ B0 (by decide) (by decide) 0 (.int .i64 j)).set_ B1 (by decide) (by decide) 1 (.slice q (dedup (sortBy lessE E)).length cq)).set_ B2 (by decide) (by decide) 2 (.slice qh j ch)
     have OE:=own_set (own_set (own_set OE0.out B0 (by decide) 0 (.int .i64 j)) B1 (by decide) 1 (.slice q (dedup (sortBy lessE E)).length cq)) B2 (by decide) 2 (.slice qh j ch)
     rw [HT2.out] at OW
     have hl:=OW.len
     exact⟨q,cq,qh,ch,hs',by rw [← hl],own_base OE (by omega),by rw [← hl];exact⟨OW.hn,own_base OW.row (by omega),fun j hj=>own_base (OW.each j hj) (by omega)⟩⟩
    ·exact((HB0.out.setCell (by simp) _).setCell (by simp) _).setCell (by simp) _
theorem NormalG0 (N:Int) (pe:Option Addr) (ne ce:Nat) (pw:Option Addr) (nw cw:Nat) (E:List (Int × Int)) (hs:List Hd) (W:List (List ByteArray)) (w:World) (hE:Rd w 2 pe ne (encE E)) (hW:RdW w pw nw hs W) (hz:SzW W) :
  Calls Tryz.prog 175 #[.agg #[.int .i64 N,.slice pe ne ce,.slice pw nw cw]] w fun e w'=>∃ v,e=.returned (.tuple #[v,.int .i64 (normC N E W)])∧GraphO w' w.heap.size v (if checkB N E W then N else 0) (if checkB N E W then dedup (sortBy lessE E) else []) (if checkB N E W then W.map fun l=>dedup (sortBy sLess l) else [])∧Ext w w':=by
 unfold normC
 by_cases hc:checkB N E W=true
 ·simp only [hc,if_true]
  exact NormalG_yes N pe ne ce pw nw cw E hs W w hE hW hz hc
 ·have hc':checkB N E W=false:=by simpa using hc
  simp only [hc']
  refine(NormalG_no N pe ne ce pw nw cw E hs W w hE hW hz hc').mono fun e w' ⟨he,hb⟩=>⟨_,he,?_,hb⟩
  exact⟨none,0,none,0,[],rfl,World.ownsRow_nil _ _ _ _,OwnW.nil _ _⟩
end
section
open Go Go.RowKit Go.Shelf Go.Lib Go.Sort
theorem NormalG (N:Int) (pe:Option Addr) (ne ce:Nat) (pw:Option Addr) (nw cw:Nat) (E:List (Int × Int)) (hs:List Hd) (W:List (List ByteArray)) (w:World) (hE:Rd w 2 pe ne (encE E)) (hW:RdW w pw nw hs W) (hz:SzW W) :
  Calls Tryz.prog 175 #[.agg #[.int .i64 N,.slice pe ne ce,.slice pw nw cw]] w fun e w'=>∃ v,e=.returned (.tuple #[v,.int .i64 (normC N E W)])∧GraphO w' w.heap.size v (normN N E W) (normE N E W) (normW N E W)∧Ext w w':=by
 refine(NormalG0 N pe ne ce pw nw cw E hs W w hE hW hz).mono ?_
 rintro e w' ⟨v,h1,h2,h3⟩
 refine⟨v,h1,?_,h3⟩
 unfold normN normE normW
 rw [← once_putAll stoE,show (putAll sLess:List ByteArray→_)=fun l=>dedup (sortBy sLess l) from funext fun l=>(once_putAll stoS l).symm]
 exact h2
theorem own_far {w:World} {base:Nat} {e:TypeId} {size n c:Nat} {q:Option Addr} {xs:List Value} (h:w.ownsRow base e size (.slice q n c) n xs) {b:Nat} (hb:b<base) (i:Nat) (u:Value):(w.setCell ⟨b,i,none⟩ u).ownsRow base e size (.slice q n c) n xs:=by
 refine⟨h.1,?_⟩
 rcases h.2 with h2 | ⟨g,cap,cur,h1,hg,hh,r⟩
 ·exact .inl h2
 ·exact .inr ⟨g,cap,cur,h1,hg,(Below.heap_setCell w ⟨b,i,none⟩ u g (by show g≠b;omega)).trans hh,r⟩
theorem GraphO.set {w:World} {base:Nat} {v:Value} {N:Int} {E:List (Int × Int)} {W:List (List ByteArray)} (h:GraphO w base v N E W) {b:Nat} (hb:b<base) (i:Nat) (u:Value):GraphO (w.setCell ⟨b,i,none⟩ u) base v N E W:=by
 obtain⟨pe,ce,pw,cw,hs,h1,h2,h3⟩:=h
 exact⟨pe,ce,pw,cw,hs,h1,own_far h2 hb i u,h3.hn,own_far h3.row hb i u,fun j hj=>own_far (h3.each j hj) hb i u⟩
theorem GraphO.mono {w:World} {base b:Nat} {v:Value} {N:Int} {E:List (Int × Int)} {W:List (List ByteArray)} (h:GraphO w base v N E W) (hb:b≤base):GraphO w b v N E W:=by
 obtain⟨pe,ce,pw,cw,hs,h1,h2,h3⟩:=h
 exact⟨pe,ce,pw,cw,hs,h1,own_base h2 hb,h3.hn,own_base h3.row hb,fun j hj=>own_base (h3.each j hj) hb⟩
end
section
open Go Go.RowKit Go.Shelf Go.Lib Go.Sort
def turnK (E:List (Int × Int)) (k:Nat):List (Int × Int):=(E.take k).map swapE ++ E.drop k
theorem turnK_len (E:List (Int × Int)) (k:Nat):(turnK E k).length=E.length:=by simp [turnK];omega
theorem turnK_nth (E:List (Int × Int)) (k:Nat) (h:k<E.length):nth (turnK E k) k=nth E k:=by
 have hl:k<(turnK E k).length:=by rw [turnK_len];exact h
 unfold nth turnK
 rw [List.getD_eq_getElem?_getD,List.getD_eq_getElem?_getD,List.getElem?_append_right (by simp;omega)]
 simp [Nat.min_eq_left (Nat.le_of_lt h)]
theorem turnK_step (E:List (Int × Int)) (k:Nat) (h:k<E.length):((encE (turnK E k)).set (k*2) (.int .i64 (nth E k).2)).set (k*2+1) (.int .i64 (nth E k).1)=encE (turnK E (k+1)):=by
 have h1:encE (turnK E k)=encE ((E.take k).map swapE) ++ ([.int .i64 (nth E k).1,.int .i64 (nth E k).2] ++ encE (E.drop (k+1))):=by
  unfold turnK
  rw [encE_append,drop_nth E k h]
  rfl
 have h2:encE (turnK E (k+1))=encE ((E.take k).map swapE) ++ ([.int .i64 (nth E k).2,.int .i64 (nth E k).1] ++ encE (E.drop (k+1))):=by
  unfold turnK
  rw [map_take_succ swapE E k h,encE_append,encE_append,List.append_assoc]
  rfl
 have hl:(encE ((E.take k).map swapE)).length=k*2:=by rw [encE_len,List.length_map,List.length_take];omega
 rw [h1,h2,List.set_append_right _ _ (by omega),List.set_append_right _ _ (by omega),hl]
 simp [show k*2+1 - k*2=1 from by omega]
theorem TurnedG (N:Int) (pe:Option Addr) (ne ce:Nat) (pw:Option Addr) (nw cw:Nat) (E:List (Int × Int)) (hs:List Hd) (W:List (List ByteArray)) (w:World) (hE:Rd w 2 pe ne (encE E)) (hW:RdW w pw nw hs W) (hz:SzW W) (hn:ne≤100000) :
  Calls Tryz.prog 106 #[.agg #[.int .i64 N,.slice pe ne ce,.slice pw nw cw]] w fun e w'=>∃ v,e=.returned (.tuple #[v,.int .i64 (normC N (E.map swapE) W)])∧GraphO w' w.heap.size v (normN N (E.map swapE) W) (normE N (E.map swapE) W) (normW N (E.map swapE) W)∧Ext w w':=by
 have l1:=hE.nE
 have HClone:=Lib.hid (fun W1 (h:Ext w W1)=>CloneE pe ne ce E W1 (hE.ext h) hn)
 have HW:=Lib.hid hW;clear hW
 have HZ:=Lib.hid hz;clear hz
 have L1:=Lib.hid l1;clear l1
 clear hE
 have S0:=Lib.hid (((Sep.start w).al #[.int .i64 N,.slice pe ne ce,.slice pw nw cw] 102 w.heap.size rfl).al #[.int .i64 0,.slice none 0 0,.slice none 0 0] 102 (w.heap.size+1) (by simp))
 go_enter Tryz.func106,Tryz.ntmps106
 go_wp2_with (go_at_call 174;go_must (refine(HClone.out _ S0.out.ext).mono ?_;rintro e w1 ⟨q,c,rfl,ho,hb⟩;have S1:=S0.out.fresh hb ho (Nat.le_refl _);obtain⟨c0,c1,c2,f1⟩:=bkc0c1c2z1 (S1.blk 2 rfl);have S2:=Lib.hid S1;clear S1 ho hb))
 go_loopw [4,5,13] (fun _ _ i wr=>∃ k:Nat,k≤ne∧i=.int .i64 k∧Sep w wr [.own 98 2 q ne c (encE (turnK E k)),.blk (w.heap.size+1) 102 #[.int .i64 0,.slice none 0 0,.slice none 0 0],.blk w.heap.size 102 #[.int .i64 N,.slice q ne c,.slice pw nw cw]]) (fun _ _ i _=>ne - (intOf i).toNat)
 case atStart=>exact⟨0,Nat.zero_le _,rfl,by have:=S2.out.set 2 rfl 1 (.slice q ne c);rwa [show turnK E 0=E from by simp [turnK]]⟩
 case round =>
  clear S2 c0 c1 c2 f1
  obtain⟨k,hk,rfl,S⟩:=hrel
  obtain⟨cz,c0,c1,c2⟩:=bklc0c1c2 (S.blk 2 rfl)
  by_cases hlt:k<ne
  ·have p1:=(S.rd 0 rfl (by omega)).ptr
   have e1:=(S.rd 0 rfl (by omega)).cE hlt
   have e2:=(S.rd 0 rfl (by omega)).cE2 hlt
   rw [turnK_nth E k (by rw [← L1.out];exact hlt)] at e1 e2
   have k1:=own_frozen (S.own 0 rfl) (by omega) (k*2)
   have k2:=own_frozen (S.own 0 rfl) (by omega) (k*2+1)
   have z1:=(S.blt 0 rfl (by omega)).2
   have z2:(adr q (k*2)).block<wr.heap.size:=z1
   have k3:wr.frozen? ⟨(adr q (k*2)).block,(adr q (k*2)).off+1,none⟩=false:=k2
   have e3:wr.cell? ⟨(adr q (k*2)).block,(adr q (k*2)).off+1,none⟩=some (.int .i64 (nth E k).2):=e2
   have ya:_≠_:=adr_other q (show (k*2)≠(k*2)+1 by omega)
   have yb:_≠_:=adr_other q (show (k*2)+1≠(k*2) by omega)
   have yc:adr q ((k*2))≠⟨(adr q ((k*2))).block,(adr q ((k*2))).off+1,none⟩:=ya
   have d1:(0:Int)≤k:=by omega
   have d2:(k:Int)<ne:=by omega
   have hst:=Lib.hid (turnK_step E k (by rw [← L1.out];exact hlt))
   have SH:=Lib.hid S;clear S
   go_wp2
   go_roundw
   case rel=>exact⟨k+1,by omega,by go_num,by rw [← hst.out];exact(SH.out.junk _).setRow2 0 rfl (k*2) (by omega) _ _⟩
   case measure=>simp [intOf];omega
  ·obtain rfl:k=ne:=by omega
   have HT:Hid (turnK E k=E.map swapE):=by unfold Hid turnK;rw [List.take_of_length_le (by rw [← L1.out];omega),List.drop_of_length_le (by rw [← L1.out];omega),List.append_nil]
   have RQ:=Lib.hid (S.rd 0 rfl (by omega))
   rw [HT.out] at RQ
   have SH:=Lib.hid S;clear S
   go_wp2_with (go_at_call 175;go_must (refine(NormalG N q k c pw nw cw (E.map swapE) hs W _ RQ.out (HW.out.ext SH.out.ext) HZ.out).mono ?_;rintro e w2 ⟨v,rfl,hG,hb2⟩;have S2:=SH.out.call hb2;have z2:w.heap.size+1<wr.heap.size:=(SH.out.blk 1 rfl).lt;have HG:=Lib.hid hG;obtain⟨pe',ce',pw',cw',hs',rfl,_,_⟩:=hG;obtain⟨x0,x1,x2,f0,f1,f2⟩:=bkc0c1c2z0z1z2 (S2.blk 1 rfl);have S3:=Lib.hid S2;clear S2))
   have S4:=((S3.out.set 1 rfl 0 (.int .i64 (normN N (E.map swapE) W))).set 1 rfl 1 (.slice pe' (normE N (E.map swapE) W).length ce')).set 1 rfl 2 (.slice pw' (normW N (E.map swapE) W).length cw')
   obtain⟨b0,b1,b2⟩:=bkc0c1c2 (S4.blk 1 rfl)
   refine bodyPost_ret (v:=.tuple #[.agg #[.int .i64 (normN N (E.map swapE) W),.slice pe' (normE N (E.map swapE) W).length ce',.slice pw' (normW N (E.map swapE) W).length cw'],.int .i64 (normC N (E.map swapE) W)]) (by simp [results,Tryz.results106,go_sem,b0,b1,b2,Tryz.sizeOf102,Tryz.isAgg102]) rfl ⟨_,rfl,?_,S4.ext⟩
   have hg1:=HG.out.set z2 0 (.int .i64 (normN N (E.map swapE) W))
   exact((hg1.set z2 1 (.slice pe' (normE N (E.map swapE) W).length ce')).set z2 2 (.slice pw' (normW N (E.map swapE) W).length cw')).mono (by omega)
end
section
open Go Go.RowKit
theorem Blk.rd {W:World} {g:Nat} {t:TypeId} {cs:Array Value} (h:Blk W g t cs) {n size:Nat} {xs:List Value} (hx:cs.toList=xs) (hn:xs.length=n*size) (hs:n≤9223372036854775807):Rd W size (some ⟨g,0,none⟩) n xs:=by
 subst hx
 refine⟨hn,.inr ⟨_,_,rfl⟩,hs,fun j hj=>?_⟩
 rw [adr_some,Nat.zero_add,h.cell j]
 rw [List.getD_eq_getElem?_getD,Array.getElem?_toList,Array.getElem?_eq_getElem (by simp at hn;omega)]
 rfl
theorem GraphO.rd {w:World} {base:Nat} {v:Value} {N:Int} {E:List (Int × Int)} {W:List (List ByteArray)} (h:GraphO w base v N E W) (h1:E.length≤9223372036854775807) (h2:W.length≤9223372036854775807) (h3:∀ l∈W,l.length≤9223372036854775807):GraphR w v N E W:=by
 obtain⟨pe,ce,pw,cw,hs,rfl,h5,h6⟩:=h
 exact⟨pe,_,ce,pw,_,cw,hs,rfl,Rd.of_own h5 h1,own_cap h5,h6.rd h2 h3,own_cap h6.row⟩
end
section
open Go Go.RowKit Go.Shelf Go.Lib Go.Sort
theorem Ext.growN {w w':World} (h:Ext w w') (os:Array Obj):Ext w (grow w' os) :=
 ⟨h.os,h.tape,h.output,by rw [size_grow];exact Nat.le_trans h.size (Nat.le_add_right _ _),fun k hk=>(heap_grow_old w' os (Nat.lt_of_lt_of_le hk h.size)).trans (h.block k hk)⟩
theorem EdgesExt (x y:Int × Int) (W:World):Calls Tryz.prog 223 #[.agg #[.int .i64 x.1,.int .i64 x.2],.agg #[.int .i64 y.1,.int .i64 y.2]] W fun e w'=>e=.returned (.int .i64 (cmpE x y))∧Ext W w' :=
 (EdgesLit x y W).mono fun e w' ⟨h,q,os,hw⟩=>⟨h,by subst hw;exact Ext.growN (Ext.drewN (Below.refl _ _) q) os⟩
theorem cmpE_neg (x y:Int × Int):cmpE x y<0↔lessE x y=true:=by
 have:=ltOf_cmpE x y
 unfold ltOf at this
 rw [← this];simp
theorem cmpS_neg (x y:ByteArray):cmpS x y<0↔sLess x y=true:=by
 have:=ltOf_cmpS x y
 unfold ltOf at this
 rw [← this];simp
theorem RiseE (p:Option Addr) (n c:Nat) (l:List (Int × Int)) (w:World) (hl:Rd w 2 p n (encE l)) :
  Calls Tryz.prog 171 #[.slice p n c,.agg #[.func (.func 223) #[] #[]]] w fun e w'=>e=.returned (.bool (riseB lessE l))∧Ext w w':=by
 have p1:=hl.ptr
 have n1:=hl.small
 have l1:=hl.nE
 have HL:=Lib.hid hl;clear hl
 have L1:=Lib.hid l1;clear l1
 go_enter Tryz.func171,Tryz.ntmps171
 go_wp2
 go_loopw [5] (fun i wr=>∃ k:Nat,1≤k∧(k≤n∨k=1)∧i=.int .i64 k∧(List.range (k - 1)).all (riseAt lessE l)=true∧Ext w wr∧wr.cell? ⟨w.heap.size,0,none⟩=some (.func (.func 223) #[] #[])) (fun i _=>n+1 - (intOf i).toNat)
 case atStart=>exact⟨1,Nat.le_refl _,.inr rfl,rfl,rfl,(Below.refl _ _).alloc (Nat.le_refl _) _,cellnew0 _ _ _ _⟩
 case round =>
  obtain⟨k,hk1,hk,rfl,ha,hb,b0⟩:=hrel
  have HA:=Lib.hid ha;clear ha
  have HB:=Lib.hid hb;clear hb
  by_cases hlt:k<n
  ·have g1:=HB.out.cell (HL.out.cE hlt)
   have g2:=HB.out.cell (HL.out.cE2 hlt)
   have g3:=HB.out.cell (HL.out.cE (k:=k - 1) (by omega))
   have g4:=HB.out.cell (HL.out.cE2 (k:=k - 1) (by omega))
   have e1:∀ x:ExtOf wr,x.val.cell? (adr p (k*2))=_:=fun x=>x.ext.cell g1
   have e2:∀ x:ExtOf wr,x.val.cell? (adr p (k*2+1))=_:=fun x=>x.ext.cell g2
   have e3:∀ x:ExtOf wr,x.val.cell? (adr p ((k - 1)*2))=_:=fun x=>x.ext.cell g3
   have e4:∀ x:ExtOf wr,x.val.cell? (adr p ((k - 1)*2+1))=_:=fun x=>x.ext.cell g4
   have e5:∀ x:ExtOf wr,x.val.cell? ⟨w.heap.size,0,none⟩=_:=fun x=>x.ext.cell b0
   have d1:(0:Int)≤k:=by omega
   have d2:(k:Int)<n:=by omega
   have d3:(0:Int)≤(k:Int) - 1:=by omega
   have d4:(1:Int)≤(k:Int):=by omega
   have d5:(k:Int) - 1<n:=by omega
   have d6:((k:Int) - 1).toNat=k - 1:=by omega
   have hkk:k - 1+1=k:=by omega
   have HKK:=Lib.hid hkk;clear hkk
   have HC:=fun W'=>EdgesExt (nth l (k - 1)) (nth l k) W'
   have hcc:=cmpE_neg (nth l (k - 1)) (nth l k)
   generalize cmpE (nth l (k - 1)) (nth l k)=cc at HC hcc
   have HC1:=Lib.hid HC;clear HC
   by_cases hless:cc<0
   ·have hle:decide (0≤cc)=false:=by simp;omega
    have hls:=Lib.hid (hcc.1 hless)
    clear hcc
    go_wp2
    refine wp_region_ext (by kernel_rfl) (by kernel_rfl) ?_
    repeat (go_big_quiet_step ((go_at_call 223;exact Calls.ext_of (HC1.out _))))
    refine wpQuiet_nil ?_
    rintro w1 ⟨⟨_,hb1⟩,rfl⟩
    go_wp2
    go_roundw
    case rel=>exact⟨k+1,by omega,.inl (by omega),by go_num,by rw [show k+1 - 1=k - 1+1 from by omega];exact range_all_succ _ _ HA.out (by unfold riseAt;rw [HKK.out];exact hls.out),Ext.trans HB.out hb1,hb1.cell b0⟩
    case measure=>simp [intOf];omega
   ·have hle:decide (0≤cc)=true:=by simp;omega
    have hls:lessE (nth l (k - 1)) (nth l k)=false:=by simpa using (fun h=>hless (hcc.2 h))
    have HF:=Lib.hid (riseB_no (lt:=lessE) (l:=l) (k:=k - 1) (by rw [HKK.out,← L1.out];exact hlt) (by rw [HKK.out];exact hls))
    clear hcc hls
    go_wp2
    refine wp_region_ext (by kernel_rfl) (by kernel_rfl) ?_
    repeat (go_big_quiet_step ((go_at_call 223;exact Calls.ext_of (HC1.out _))))
    refine wpQuiet_nil ?_
    rintro w1 ⟨⟨_,hb1⟩,rfl⟩
    go_wp2
    go_ret
    exact⟨ret_bool HF.out.symm,Ext.trans HB.out hb1⟩
  ·have HEE:=Lib.hid (riseB_end (by rw [← L1.out];exact hlt) HA.out)
   go_wp2
   go_ret
   exact⟨ret_bool HEE.out.symm,HB.out⟩
theorem RiseS (p:Option Addr) (n c:Nat) (l:List ByteArray) (w:World) (hl:Rd w 1 p n (encS l)) :
  Calls Tryz.prog 168 #[.slice p n c,.agg #[.func (.func 220) #[] #[]]] w fun e w'=>e=.returned (.bool (riseB sLess l))∧Ext w w':=by
 have p1:=hl.ptr
 have n1:=hl.small
 have l1:=hl.nS
 have HL:=Lib.hid hl;clear hl
 have L1:=Lib.hid l1;clear l1
 go_enter Tryz.func168,Tryz.ntmps168
 go_wp2
 go_loopw [5] (fun i wr=>∃ k:Nat,1≤k∧(k≤n∨k=1)∧i=.int .i64 k∧(List.range (k - 1)).all (riseAt sLess l)=true∧Ext w wr∧wr.cell? ⟨w.heap.size,0,none⟩=some (.func (.func 220) #[] #[])) (fun i _=>n+1 - (intOf i).toNat)
 case atStart=>exact⟨1,Nat.le_refl _,.inr rfl,rfl,rfl,(Below.refl _ _).alloc (Nat.le_refl _) _,cellnew0 _ _ _ _⟩
 case round =>
  obtain⟨k,hk1,hk,rfl,ha,hb,b0⟩:=hrel
  have HA:=Lib.hid ha;clear ha
  have HB:=Lib.hid hb;clear hb
  by_cases hlt:k<n
  ·have g1:=HB.out.cell (HL.out.cS hlt)
   have g3:=HB.out.cell (HL.out.cS (k:=k - 1) (by omega))
   have e1:∀ x:ExtOf wr,x.val.cell? (adr p k)=_:=fun x=>x.ext.cell g1
   have e3:∀ x:ExtOf wr,x.val.cell? (adr p (k - 1))=_:=fun x=>x.ext.cell g3
   have e5:∀ x:ExtOf wr,x.val.cell? ⟨w.heap.size,0,none⟩=_:=fun x=>x.ext.cell b0
   have d1:(0:Int)≤k:=by omega
   have d2:(k:Int)<n:=by omega
   have d3:(0:Int)≤(k:Int) - 1:=by omega
   have d4:(1:Int)≤(k:Int):=by omega
   have d5:(k:Int) - 1<n:=by omega
   have d6:((k:Int) - 1).toNat=k - 1:=by omega
   have hkk:k - 1+1=k:=by omega
   have HKK:=Lib.hid hkk;clear hkk
   have HC:∀ W',Calls Tryz.prog 220 #[.string (nth l (k - 1)),.string (nth l k)] W' fun e w'=>e=.returned (.int .i64 (cmpS (nth l (k - 1)) (nth l k)))∧Ext W' w':=fun W'=>(CompareS (nth l (k - 1)) (nth l k) W').mono fun e w' ⟨h,hw⟩=>⟨h,by subst hw;exact Below.refl _ _⟩
   have hcc:=cmpS_neg (nth l (k - 1)) (nth l k)
   generalize cmpS (nth l (k - 1)) (nth l k)=cc at HC hcc
   have HC1:=Lib.hid HC;clear HC
   by_cases hless:cc<0
   ·have hle:decide (0≤cc)=false:=by simp;omega
    have hls:=Lib.hid (hcc.1 hless)
    clear hcc
    go_wp2
    refine wp_region_ext (by kernel_rfl) (by kernel_rfl) ?_
    repeat (go_big_quiet_step ((go_at_call 220;exact Calls.ext_of (HC1.out _))))
    refine wpQuiet_nil ?_
    rintro w1 ⟨⟨_,hb1⟩,rfl⟩
    go_wp2
    go_roundw
    case rel=>exact⟨k+1,by omega,.inl (by omega),by go_num,by rw [show k+1 - 1=k - 1+1 from by omega];exact range_all_succ _ _ HA.out (by unfold riseAt;rw [HKK.out];exact hls.out),Ext.trans HB.out hb1,hb1.cell b0⟩
    case measure=>simp [intOf];omega
   ·have hle:decide (0≤cc)=true:=by simp;omega
    have hls:sLess (nth l (k - 1)) (nth l k)=false:=by simpa using (fun h=>hless (hcc.2 h))
    have HF:=Lib.hid (riseB_no (lt:=sLess) (l:=l) (k:=k - 1) (by rw [HKK.out,← L1.out];exact hlt) (by rw [HKK.out];exact hls))
    clear hcc hls
    go_wp2
    refine wp_region_ext (by kernel_rfl) (by kernel_rfl) ?_
    repeat (go_big_quiet_step ((go_at_call 220;exact Calls.ext_of (HC1.out _))))
    refine wpQuiet_nil ?_
    rintro w1 ⟨⟨_,hb1⟩,rfl⟩
    go_wp2
    go_ret
    exact⟨ret_bool HF.out.symm,Ext.trans HB.out hb1⟩
  ·have HEE:=Lib.hid (riseB_end (by rw [← L1.out];exact hlt) HA.out)
   go_wp2
   go_ret
   exact⟨ret_bool HEE.out.symm,HB.out⟩
theorem IsLit (p:Option Addr) (n c:Nat) (l:List ByteArray) (w:World) (hl:Rd w 1 p n (encS l)) :
  Calls Tryz.prog 167 #[.slice p n c] w fun e w'=>e=.returned (.bool (!riseB sLess l))∧Ext w w':=by
 have HL:=Lib.hid hl;clear hl
 go_enter Tryz.func167,Tryz.ntmps167
 go_wp2_with (first
  | (go_at_call 169;go_must ((refine(WordsG _).mono ?_;rintro e w1 ⟨rfl,hb1⟩;have B1:=Lib.hid hb1;clear hb1)))
  | (go_at_call 168;have _t:=B1;go_must ((refine(RiseS _ _ _ _ _ (HL.out.ext B1.out)).mono ?_;rintro e w2 ⟨rfl,hb2⟩;have B2:=Lib.hid (Ext.trans B1.out hb2);clear hb2))))
 go_ret
 exact⟨rfl,B2.out⟩
theorem IndexRise (p:Option Addr) (n c:Nat) (hs:List Hd) (W:List (List ByteArray)) (w:World) (hl:RdW w p n hs W) :
  Calls Tryz.prog 224 #[.slice p n c,.func (.func 167) #[] #[]] w fun e w'=>∃ i:Int,e=.returned (.int .i64 i)∧decide (0≤i)=W.any (fun l=>!riseB sLess l)∧Ext w w':=by
 have p1:=hl.row.ptr
 have n1:=hl.row.small
 have l1:=hl.nW
 have HL:=Lib.hid hl;clear hl
 have L1:=Lib.hid l1;clear l1
 go_enter Tryz.func224,Tryz.ntmps224
 go_wp2
 go_loopw [5,8] (fun _ i wr=>∃ k:Nat,k≤n∧i=.int .i64 k∧(W.take k).any (fun l=>!riseB sLess l)=false∧Ext w wr) (fun _ i _=>n - (intOf i).toNat)
 case atStart=>exact⟨0,Nat.zero_le _,rfl,rfl,Below.refl _ _⟩
 case round =>
  obtain⟨k,hk,rfl,ha,hb⟩:=hrel
  have HA:=Lib.hid ha;clear ha
  have HB:=Lib.hid hb;clear hb
  by_cases hlt:k<n
  ·have g1:=HB.out.cell (HL.out.row.cH hlt)
   have Q1:=Lib.hid ((HL.out.each k hlt).ext HB.out)
   by_cases hw:(!riseB sLess (nth W k))=true
   ·have HF:=Lib.hid (any_true_at (fun l=>!riseB sLess l) W k (by rw [← L1.out];exact hlt) hw)
    go_wp2_with (go_at_call 167;refine(IsLit _ _ _ _ _ Q1.out).mono ?_;rintro e w' ⟨rfl,hb1⟩;have H1:=Lib.hid (Ext.trans HB.out hb1);clear hb1)
    go_ret
    exact⟨_,rfl,by rw [HF.out];simp,H1.out⟩
   ·have hw':(!riseB sLess (nth W k))=false:=by simpa using hw
    have HW':=Lib.hid hw'
    clear hw
    go_wp2_with (go_at_call 167;refine(IsLit _ _ _ _ _ Q1.out).mono ?_;rintro e w' ⟨rfl,hb1⟩;have H1:=Lib.hid (Ext.trans HB.out hb1);clear hb1)
    go_roundw
    case rel=>exact⟨k+1,by omega,by go_num,any_step _ _ _ (by rw [← L1.out];exact hlt) HA.out HW'.out,H1.out⟩
    case measure=>simp [intOf];omega
  ·have HF:=Lib.hid (any_end _ _ _ (by rw [← L1.out];exact hlt) HA.out)
   go_wp2
   go_ret
   exact⟨_,rfl,by rw [HF.out];rfl,HB.out⟩
theorem ContainsRise (p:Option Addr) (n c:Nat) (hs:List Hd) (W:List (List ByteArray)) (w:World) (hl:RdW w p n hs W) :
  Calls Tryz.prog 173 #[.slice p n c,.func (.func 167) #[] #[]] w fun e w'=>e=.returned (.bool (W.any (fun l=>!riseB sLess l)))∧Ext w w':=by
 have HC:=Lib.hid (IndexRise p n c hs W w hl)
 clear hl
 go_enter Tryz.func173,Tryz.ntmps173
 go_wp2_with (go_at_call 224;refine HC.out.mono ?_;rintro e w' ⟨i,rfl,hi,hb⟩;have HI:=Lib.hid hi;have HB:=Lib.hid hb;clear hi hb)
 go_ret
 exact⟨ret_bool HI.out,HB.out⟩
theorem IsG (N : Int) (pe : Option Addr) (ne ce : Nat) (pw : Option Addr) (nw cw : Nat) (E : List (Int × Int)) (hs : List Hd) (W : List (List ByteArray)) (w : World) (hE : Rd w 2 pe ne (encE E)) (hW : RdW w pw nw hs W) (hz : SzW W) :
    Calls Tryz.prog 105 #[.agg #[.int .i64 N, .slice pe ne ce, .slice pw nw cw]] w fun e w' => e = .returned (.bool (isB N E W)) ∧ Ext w w' := by
  have hu : isB N E W = (checkB N E W && riseB lessE E && !W.any (fun l => !riseB sLess l)) := by unfold isB; rw [← List.all_eq_not_any_not]
  rw [hu]
  have HCk := Lib.hid (fun W1 (h : Ext w W1) => CheckG N pe ne ce pw nw cw E hs W W1 (hE.ext h) (hW.ext h) hz)
  have HRi := Lib.hid (fun W1 (h : Ext w W1) => RiseE pe ne ce E W1 (hE.ext h))
  have HCo := Lib.hid (fun W1 (h : Ext w W1) => ContainsRise pw nw cw hs W W1 (hW.ext h))
  clear hE hW hz hu
  generalize checkB N E W = b1 at *
  generalize riseB lessE E = b2 at *
  generalize W.any (fun l => !riseB sLess l) = b3 at *
  have hx : Ext w (w.alloc (.cells #[.int .i64 N, .slice pe ne ce, .slice pw nw cw] 102)) := (Below.refl _ _).alloc (Nat.le_refl _) _
  have c0 : (w.alloc (.cells #[.int .i64 N, .slice pe ne ce, .slice pw nw cw] 102)).cell? ⟨w.heap.size, 0, none⟩ = some (.int .i64 N) := by simp
  have c1 : (w.alloc (.cells #[.int .i64 N, .slice pe ne ce, .slice pw nw cw] 102)).cell? ⟨w.heap.size, 1, none⟩ = some (.slice pe ne ce) := by simp
  have c2 : (w.alloc (.cells #[.int .i64 N, .slice pe ne ce, .slice pw nw cw] 102)).cell? ⟨w.heap.size, 2, none⟩ = some (.slice pw nw cw) := by simp
  cases b1 <;> cases b2 <;> cases b3 <;>
  (go_enter Tryz.func105, Tryz.ntmps105
   go_wp2
   obtain ⟨wo, hwo⟩ : ∃ wo, wo = w.alloc (.cells #[.int .i64 N, .slice pe ne ce, .slice pw nw cw] 102) := ⟨_, rfl⟩
   rw [← hwo] at hx c0 c1 c2 ⊢
   have HX := Lib.hid hx
   have e0 : ∀ x : ExtOf wo, x.val.cell? ⟨w.heap.size, 0, none⟩ = _ := fun x => x.ext.cell c0
   have e1 : ∀ x : ExtOf wo, x.val.cell? ⟨w.heap.size, 1, none⟩ = _ := fun x => x.ext.cell c1
   have e2 : ∀ x : ExtOf wo, x.val.cell? ⟨w.heap.size, 2, none⟩ = _ := fun x => x.ext.cell c2
   refine wp_region_ext (by kernel_rfl) (by kernel_rfl) ?_
   repeat (go_big_quiet_step ((first | (go_at_call 170; exact Calls.ext_of (HCk.out _ (Ext.trans HX.out (ExtOf.ext _)))) | (go_at_call 172; exact Calls.ext_of (EdgesG _)) | (go_at_call 171; exact Calls.ext_of (HRi.out _ (Ext.trans HX.out (ExtOf.ext _)))) | (go_at_call 173; exact Calls.ext_of (HCo.out _ (Ext.trans HX.out (ExtOf.ext _)))))))
   refine wpQuiet_nil ?_
   rintro w1 ⟨⟨_, hb1⟩, rfl⟩
   go_wp2
   go_ret
   exact ⟨rfl, Ext.trans HX.out hb1⟩)
end
section
open Go Go.RowKit Go.Shelf Go.Lib
def RowsV (w:World) (v:Value) (O T R V:List Int):Prop :=
 ∃ po no co pt nt ct pr nr cr pv nv cv,v=.agg #[.slice po no co,.slice pt nt ct,.slice pr nr cr,.slice pv nv cv]∧Rd w 1 po no (encI O)∧Rd w 1 pt nt (encI T)∧Rd w 1 pr nr (encI R)∧Rd w 1 pv nv (encI V)∧no≤co∧nt≤ct∧nr≤cr∧nv≤cv
theorem RowsV.ext {w w':World} {v:Value} {O T R V:List Int} (h:RowsV w v O T R V) (he:Ext w w'):RowsV w' v O T R V:=by
 obtain⟨po,no,co,pt,nt,ct,pr,nr,cr,pv,nv,cv,h0,h1,h2,h3,h4,h5⟩:=h
 exact⟨po,no,co,pt,nt,ct,pr,nr,cr,pv,nv,cv,h0,h1.ext he,h2.ext he,h3.ext he,h4.ext he,h5⟩
def turnE (E:List (Int × Int)):List (Int × Int):=putAll lessE (E.map swapE)
theorem turnE_bd {N:Int} {E:List (Int × Int)} (h:∀ x∈E,edgeOk N x=true):∀ x∈turnE E,0≤x.1∧x.1<N:=fun x hx=>by
 unfold turnE at hx
 rw [putAll_mem stoE,List.mem_map] at hx
 obtain⟨y,hy,rfl⟩:=hx
 have:=h y hy
 unfold edgeOk at this
 simp at this
 unfold swapE
 simp only
 omega
theorem RMakeG_yes (n:Nat) (pe:Option Addr) (ne ce:Nat) (pw:Option Addr) (nw cw:Nat) (E:List (Int × Int)) (hs:List Hd) (W:List (List ByteArray)) (w:World) (hE:Rd w 2 pe ne (encE E)) (hW:RdW w pw nw hs W) (hz:SzW W) (hi:isB n E W=true) :
  Calls Tryz.prog 57 #[.agg #[.int .i64 n,.slice pe ne ce,.slice pw nw cw]] w fun e w'=>∃ v,e=.returned (.tuple #[v,.int .i64 0])∧RowsV w' v (offL n E) (toL E) (offL n (turnE E)) (toL (turnE E))∧Ext w w':=by
 have HI:=Lib.hid (fun W1 (h:Ext w W1)=>IsG n pe ne ce pw nw cw E hs W W1 (hE.ext h) (hW.ext h) hz)
 rw [hi] at HI
 have hc:checkB n E W=true:=by
  unfold isB at hi
  rw [Bool.and_eq_true,Bool.and_eq_true] at hi
  exact hi.1.1
 obtain⟨h1,h2,h3,h4,h5,h6⟩:=checkB_parts hc
 have hEb:∀ x∈E,edgeOk n x=true:=List.all_eq_true.1 h5
 have l1:=hE.nE
 have HT:=Lib.hid (fun W1 (h:Ext w W1)=>TurnedG n pe ne ce pw nw cw E hs W W1 (hE.ext h) (hW.ext h) hz (by omega))
 have hcs:checkB n (E.map swapE) W=true:=by rw [check_swap];exact hc
 obtain⟨a1,a2,a3,a4⟩:=norm_of hcs (rfl:_=turnE E) (rfl:_=W.map (putAll sLess))
 rw [a1,a2,a3,a4] at HT
 have hlt:(turnE E).length≤2000:=by
  unfold turnE
  have:=putAll_len lessE (E.map swapE)
  rw [List.length_map] at this;omega
 have HL1:=Lib.hid (fun W1 (h:Ext w W1)=>laidG n pe ne ce E W1 (hE.ext h) (by omega) (by omega) (fun x hx=>by have:=hEb x hx;unfold edgeOk at this;simp at this;omega))
 have HL2:=Lib.hid (fun q c W1 (h:Rd W1 2 q (turnE E).length (encE (turnE E)))=>laidG n q (turnE E).length c (turnE E) W1 h (by omega) hlt (turnE_bd hEb))
 generalize turnE E=F at *
 have S0:=Lib.hid (((Sep.start w).al #[.int .i64 n,.slice pe ne ce,.slice pw nw cw] 102 w.heap.size rfl).al #[.slice none 0 0,.slice none 0 0,.slice none 0 0,.slice none 0 0] 27 (w.heap.size+1) (by simp))
 have h2':n≤200:=by omega
 have h3':ne≤2000:=by omega
 generalize W.map (putAll sLess)=V at *
 clear hE hW hz hi hc hcs a1 a2 a3 a4 h1 h2 h3 h4 h5 h6 hEb l1
 go_enter Tryz.func57,Tryz.ntmps57
 go_wp2_with (first
  | (go_at_call 107;have _t:=T4;go_must (refine(HL2.out q2 k2 _ ((K2.out.ext T4.out.ext).get 0 rfl)).mono ?_;rintro e w5 ⟨qr,cr,qv,cv,rfl,T⟩;have T5:=Lib.hid (T4.out.comp T);obtain⟨r0,r1,r2c,r3,rf2,rf3,rz⟩:=bkc0c1c2c3z2z3l (T5.out.blk 4 rfl);have S5:=S2.out.comp T5.out;obtain⟨u0,u1,u2,u3,uf0,uf1,uf2,uf3,uz⟩:=bkc0c1c2c3z0z1z2z3l (S5.blk 6 rfl);clear T S5))
  | (go_at_call 107;have _t:=S2;go_must (refine(HL1.out _ (Ext.trans S2.out.ext (((Sep.start w2).al #[.int .i64 n,.slice q2 F.length k2,.slice r2 V.length m2] 102 w2.heap.size rfl).al #[.slice none 0 0,.slice none 0 0,.slice none 0 0,.slice none 0 0] 27 (w2.heap.size+1) (by simp)).ext)).mono ?_;rintro e w4 ⟨qo,co,qt,ct,rfl,T⟩;have T3:=(((Sep.start w2).al #[.int .i64 n,.slice q2 F.length k2,.slice r2 V.length m2] 102 w2.heap.size rfl).al #[.slice none 0 0,.slice none 0 0,.slice none 0 0,.slice none 0 0] 27 (w2.heap.size+1) (by simp)).comp T;obtain⟨c0,c1,f0,f1,cz⟩:=bkc0c1z0z1l (T3.blk 2 rfl);obtain⟨t1,tz⟩:=bkc1l (T3.blk 3 rfl);have S3:=S2.out.comp T3;obtain⟨n0,nz⟩:=bkc0l (S3.blk 5 rfl);have T4:=Lib.hid ((T3.set 2 rfl 0 (.slice qo (n+1) co)).set 2 rfl 1 (.slice qt ne ct));clear T T3 S3))
  | (go_at_call 106;have _t:=S1;go_must (refine(HT.out _ S1.out.ext).mono ?_;rintro e w2 ⟨va,rfl,⟨q2,k2,r2,m2,h2,rfl,oe,ow⟩,hb⟩;have S2:=Lib.hid (S1.out.call hb);have K2:=Lib.hid ((Kn.nil w2).add (fun w=>Rd w 2 q2 F.length (encE F)) (fun _ he=>(Rd.of_own oe (by omega)).ext he));obtain⟨gz,g0,g1,g2⟩:=bklc0c1c2 (S2.out.blk 1 rfl);have gz2:=(S2.out.blk 0 rfl).lt;clear hb oe ow))
  | (go_at_call 105;go_must (refine(HI.out _ S0.out.ext).mono ?_;rintro e w1 ⟨rfl,hb⟩;have S1:=Lib.hid (S0.out.call hb);obtain⟨xz,x0,x1,x2⟩:=bklc0c1c2 (S1.out.blk 1 rfl);clear hb)))
 have S6:=S2.out.comp ((T5.out.set 4 rfl 2 (.slice qr (n+1) cr)).set 4 rfl 3 (.slice qv F.length cv))
 have S7:=(((S6.set 6 rfl 0 (.slice qo (n+1) co)).set 6 rfl 1 (.slice qt ne ct)).set 6 rfl 2 (.slice qr (n+1) cr)).set 6 rfl 3 (.slice qv F.length cv)
 obtain⟨b0,b1,b2,b3⟩:=bkc0c1c2c3 (S7.blk 6 rfl)
 refine bodyPost_ret (v:=.tuple #[.agg #[.slice qo (n+1) co,.slice qt ne ct,.slice qr (n+1) cr,.slice qv F.length cv],.int .i64 0]) (by simp [results,Tryz.results57,go_sem,b0,b1,b2,b3,Tryz.sizeOf27,Tryz.isAgg27]) rfl ⟨_,rfl,?_,S7.ext⟩
 exact⟨qo,_,co,qt,_,ct,qr,_,cr,qv,_,cv,rfl,S7.rd 3 rfl (by omega),S7.rd 2 rfl (by omega),S7.rd 1 rfl (by omega),S7.rd 0 rfl (by omega),own_cap (S7.own 3 rfl),own_cap (S7.own 2 rfl),own_cap (S7.own 1 rfl),own_cap (S7.own 0 rfl)⟩
end
section
open Go Go.RowKit
def nxR (back:Bool) (O T R V:List Int):Nat→List Int:=if back=true then rowL R V else rowL O T
theorem row_in {O T:List Int} (h:halfB O T=true):InN (rowL O T) (O.length - 1):=by
 intro u hu x hx
 unfold halfB at h
 rw [Bool.and_eq_true] at h
 have:=List.all_eq_true.1 h.2 u (List.mem_range.2 hu)
 exact(okRow_iff.1 this).1 x hx
theorem nxR_in {O T R V:List Int} (h:checkR O T R V=true) (back:Bool):InN (nxR back O T R V) (O.length - 1):=by
 obtain⟨h1,h2,h3,h4⟩:=checkR_half h
 cases back with
 | false=>exact row_in h3
 | true=>have:=row_in h4;rw [← h1] at this;exact this
end
section
open Go Go.RowKit
theorem pc_set {Γ:List Pc} {j:Nat} {p q:Pc} (h:Γ[j]?=some p):(Γ.set j q)[j]?=some q:=by
 have:=(List.getElem?_eq_some_iff.1 h).1
 rw [List.getElem?_set,if_pos rfl,if_pos this]
theorem encE_set2 {X:List (Int × Int)} {i:Nat} (x:Int × Int) (h:i<X.length):encE (X.set i x)=((encE X).set (i*2) (.int .i64 x.1)).set (i*2+1) (.int .i64 x.2):=by
 rw [← encE_set X i x h]
 have hl:=encE_len X
 have e:encE X=(encE X).take (i*2) ++ (encE X).drop (i*2):=(List.take_append_drop _ _).symm
 apply List.ext_getElem?
 intro m
 rw [List.getElem?_set,List.getElem?_set]
 simp only [List.length_set,List.getElem?_append,List.length_append,List.length_take,List.length_cons,List.length_nil,List.getElem?_take,List.getElem?_drop]
 by_cases h1:m<i*2
 ·rw [if_pos (by omega),if_pos (by omega),if_pos h1,if_neg (by omega),if_neg (by omega)]
 ·by_cases h2:m=i*2
  ·subst h2
   rw [if_pos (by omega),if_neg (by omega),if_neg (by omega),if_pos rfl,if_pos (by omega),show i*2 - min (i*2) (encE X).length=0 by omega];rfl
  ·by_cases h3:m=i*2+1
   ·subst h3
    rw [if_pos (by omega),if_neg (by omega),if_pos rfl,if_pos (by omega),show i*2+1 - min (i*2) (encE X).length=1 by omega];rfl
   ·rw [if_neg (by omega),if_neg (by omega),if_neg (by omega)]
    congr 1;omega
theorem set_again (l:List Value) (m:Nat) (a b:Value):(((l.set m a).set (m+1) b).set m a).set (m+1) b=(l.set m a).set (m+1) b:=by
 rw [List.set_comm b a (by omega:m+1≠m),List.set_set,List.set_set]
theorem encE_swap {X:List (Int × Int)} {i k:Nat} (hi:i<X.length) (hk:k<X.length) (_:i≠k):((((encE X).set (i*2) (.int .i64 (nth X k).1)).set (i*2+1) (.int .i64 (nth X k).2)).set (k*2) (.int .i64 (nth X i).1)).set (k*2+1) (.int .i64 (nth X i).2)=encE (swapL X i k):=by
 unfold swapL
 rw [encE_set2 _ (by simpa using hk),encE_set2 _ hi]
end
section
open Go Go.RowKit
theorem own_sm {w:World} {base:Nat} {e:TypeId} {size:Nat} {q:Option Addr} {n c:Nat} {xs:List Value} (h:w.ownsRow base e size (.slice q n c) n xs):n≤9223372036854775807:=by
 rcases h.2 with ⟨_,h2⟩ | ⟨g,cap,cur,h1,_,_,h3,h4,_⟩
 ·omega
 ·unfold maxLen at h4;omega
theorem Sep.rdx {w0 w:World} {Γ:List Pc} (S:Sep w0 w Γ) (i:Nat) {e:TypeId} {size:Nat} {q:Option Addr} {n c:Nat} {xs:List Value} (h:Γ[i]?=some (.own e size q n c xs)):Rd w size q n xs:=Rd.of_own (S.own i h) (own_sm (S.own i h))
end
section
open Go Go.RowKit
attribute [local go_sem] Oper.semAt_some
theorem operwp_append {P:Program} {o:Oper} {a:Act} {w w':World} {K:Act→World→Prop} {Q:Exit→Act→World→Prop} (s x:Operand) (t:TypeId) {vs vx v:Value}
  (ho:o.op=.call { callee:=.builtin .append,args:=#[s,x],argTypes:=#[t,t] }) (hs:a.eval s=vs) (hx:a.eval x=vx) (hrun:(Builtin.append_ #[t,t] o.type #[vs,vx]).run P w=.ok v w') (h:K (a.put o.dst v) w'):o.wp P a w K Q:=by
 unfold Oper.wp execOp
 simp only [ho,resolve,invoke,builtin,Sem.run_bind,Sem.run_pure,Result.andThen_ok,List.map_toArray,List.map_cons,List.map_nil,hs,hx,hrun]
 exact h
theorem two_set {p0 p1:Pc} {Γ:List Pc} {j jb:Nat} (h:j≠jb) {a b:Pc} (hb:Γ[jb]?=some b):((p0 :: p1 :: Γ).set (j+2) a)[jb+2]?=some b:=by
 rw [List.getElem?_set_ne (by omega)];exact hb
theorem Sep.alrw {w0 w:World} {Γ:List Pc} (S:Sep w0 w Γ) (cs:Array Value) (e:TypeId) (size n g:Nat) (hg:w.heap.size=g) (hm:n≤maxLen) (hs:cs.size=n*size):Sep w0 (w.alloc (.cells cs e)) (.own e size (some ⟨g,0,none⟩) n n cs.toList :: Γ):=by
 subst hg
 exact S.fresh (Ext.alloc (Below.refl _ _) _) (World.ownsRow_lit w cs n (Nat.le_refl _) hm hs) (Nat.le_refl _)
theorem Sep.appended {w0 w:World} {Γ:List Pc} (S:Sep w0 w Γ) (j:Nat) (t ty e:TypeId) (i:TypeInfo) (z:Value) (size bytes:Nat) (ht:(Tryz.prog).underlying t=some (.slice e)) (hi:(Tryz.prog).info? e=some i) (hz:i.zero=some z)
  (hsize:i.size=size) (hby:i.bytes=bytes) (hzs:z.cells.size=size) (hsz:0<size)
  (q:Option Addr) (n cq:Nat) (xs:List Value) (hj:Γ[j]?=some (.own e size q n cq xs)) (A:Option Addr) (m c:Nat) (news:List Value) (hr:Rd w size A m news) (h1:∀ u∈news,u.oneCell'=true)
  (hbytes:(n+m)*bytes≤140737488355328) (h63:n+m≤140737488355328) :
  ∃ q' c' w',(Builtin.append_ #[t,t] ty #[.slice q n cq,.slice A m c]).run Tryz.prog w=.ok (.slice q' (n+m) c') w'∧Sep w0 w' (Γ.set j (.own e size q' (n+m) c' (xs ++ news))):=by
 obtain⟨q',c',w',hrun,ho',hg,hat,_⟩:=run_append_rd (P:=Tryz.prog) w w0.heap.size t ty e i z size bytes ht hi hz hsize hby hzs hsz q n cq xs (S.own j hj) A m c news hr h1 hbytes h63 S.ext.size
 refine⟨q',c',w',hrun,S.put j hj _ hg (fun k hk=>hk) (own_base ho' (Nat.zero_le _)) fun k hk=>?_⟩
 rcases hat with h | h
 ·exact .inl (h.symm.trans hk)
 ·have:some w.heap.size=some k:=h.symm.trans hk
  injection this with this
  exact .inr (by omega)
theorem Sep.cut {w0 w:World} {Γ:List Pc} (S:Sep w0 w Γ) (j:Nat) {e:TypeId} {size n c:Nat} {q:Option Addr} {xs ys:List Value} (k:Nat) (hj:Γ[j]?=some (.own e size q n c (xs ++ ys))) (hk:xs.length=k*size) (hkn:k≤n):Sep w0 w (Γ.set j (.own e size q k c xs)) :=
 S.put j hj _ (row:=none) (World.grownBy.refl _ _) (fun _ h=>nomatch h) (own_base (own_take (S.own j hj) hk hkn) (Nat.zero_le _)) fun _ hk=>.inl hk
end
section
open Go Go.RowKit
attribute [local go_sem] Oper.semAt_some
theorem set_same {Γ:List Pc} {j:Nat} {p:Pc} (h:Γ[j]?=some p):Γ.set j p=Γ:=by
 obtain⟨h1,h2⟩:=List.getElem?_eq_some_iff.1 h
 rw [← h2,List.set_getElem_self]
theorem swapL_comm {α:Type} [Inhabited α] (X:List α) {i k:Nat} (h:i≠k):swapL X i k=swapL X k i:=by
 unfold swapL
 exact List.set_comm _ _ h
end
section
open Go Go.RowKit
attribute [local go_sem] Oper.semAt_some
theorem set_two {Γ:List Pc} {j jb:Nat} (h:j≠jb) (a a' b:Pc):((Γ.set j a).set jb b).set j a'=(Γ.set j a').set jb b:=by
 rw [List.set_comm _ _ h,List.set_set,List.set_comm _ _ (fun e=>h e.symm)]
end
section
open Go Go.RowKit
def ltN (a b:Int × Int):Bool:=decide (a.2<b.2) || (decide (a.2=b.2) && decide (a.1<b.1))
theorem ltN_iff {a b:Int × Int}:ltN a b=true↔a.2<b.2∨(a.2=b.2∧a.1<b.1):=by
 unfold ltN
 rw [Bool.or_eq_true,Bool.and_eq_true,decide_eq_true_eq,decide_eq_true_eq,decide_eq_true_eq]
theorem ltN_no {a b:Int × Int}:ltN a b=false↔¬ (a.2<b.2∨(a.2=b.2∧a.1<b.1)):=by
 rw [← ltN_iff];simp
theorem stoN:STO ltN where
 irrefl a:=by rw [ltN_no];omega
 trans a b c h k:=by rw [ltN_iff] at *;omega
 tri a b h k:=by rw [ltN_no] at *;exact Prod.ext (by omega) (by omega)
end
section
open Go Go.RowKit
def atN (x:Int × Int):List (Int × Int)→Nat
 | []=>0
 | y :: l=>if ltN x y=true then 0 else atN x l+1
theorem atN_le (x:Int × Int):∀ l,atN x l≤l.length
 | []=>Nat.le_refl _
 | y :: l=>by
  rw [atN]
  split
  ·exact Nat.zero_le _
  ·rw [List.length_cons];exact Nat.succ_le_succ (atN_le x l)
theorem atN_before {x:Int × Int}:∀ {l:List (Int × Int)} {i:Nat},i<atN x l→ltN x (nth l i)=false
 | [],i,h=>by rw [atN] at h;omega
 | y :: l,i,h=>by
  rw [atN] at h
  by_cases e:ltN x y=true
  ·rw [if_pos e] at h;omega
  ·rw [if_neg e] at h
   cases i with
   | zero=>show ltN x y=false;simpa using e
   | succ i=>exact atN_before (l:=l) (by omega)
theorem atN_at {x:Int × Int}:∀ {l:List (Int × Int)},atN x l<l.length→ltN x (nth l (atN x l))=true
 | [],h=>by simp at h
 | y :: l,h=>by
  rw [atN] at h ⊢
  by_cases e:ltN x y=true
  ·rw [if_pos e];exact e
  ·rw [if_neg e] at h ⊢
   exact atN_at (l:=l) (by rw [List.length_cons] at h;omega)
theorem atN_eq {x:Int × Int} {l:List (Int × Int)} {k:Nat} (hk:k≤l.length) (h1:∀ i,i<k→ltN x (nth l i)=false) (h2:k<l.length→ltN x (nth l k)=true):k=atN x l:=by
 have ha:=atN_le x l
 rcases Nat.lt_trichotomy k (atN x l) with h | h | h
 ·have:=atN_before h
  rw [h2 (by omega)] at this;cases this
 ·exact h
 ·have:=h1 _ h
  rw [atN_at (by omega)] at this;cases this
def putN (x:Int × Int) (l:List (Int × Int)):List (Int × Int):=l.take (atN x l) ++ ([x] ++ l.drop (atN x l))
theorem putN_len (x:Int × Int) (l:List (Int × Int)):(putN x l).length=l.length+1:=by
 have:=atN_le x l
 unfold putN
 rw [List.length_append,List.length_append,List.length_take,List.length_drop,List.length_singleton]
 omega
theorem putN_perm (x:Int × Int) (l:List (Int × Int)):(putN x l).Perm (l ++ [x]):=by
 unfold putN
 have h:(l.take (atN x l) ++ ([x] ++ l.drop (atN x l))).Perm (l.take (atN x l) ++ (l.drop (atN x l) ++ [x])):=List.Perm.append_left _ List.perm_append_comm
 refine h.trans ?_
 rw [← List.append_assoc,List.take_append_drop]
def sortN (l:List (Int × Int)):List (Int × Int):=l.foldl (fun acc x=>putN x acc) []
theorem sortN_snoc (l:List (Int × Int)) (x:Int × Int):sortN (l ++ [x])=putN x (sortN l):=by simp [sortN]
theorem snoc_indN {α:Type} {p:List α→Prop} (nil:p []) (snoc:∀ l x,p l→p (l ++ [x])) (l:List α):p l:=by
 have h:∀ m:List α,p m.reverse:=fun m=>by
  induction m with
  | nil=>exact nil
  | cons a m ih=>rw [List.reverse_cons];exact snoc _ _ ih
 have:=h l.reverse
 rwa [List.reverse_reverse] at this
theorem sortN_perm:∀ l,(sortN l).Perm l:=by
 refine snoc_indN (List.Perm.refl _) fun l x ih=>?_
 rw [sortN_snoc]
 exact(putN_perm _ _).trans (ih.append_right _)
theorem sortN_len (l:List (Int × Int)):(sortN l).length=l.length:=(sortN_perm l).length_eq
end
end Go.Proofs.YtfjhjennfiihhaaGreat
