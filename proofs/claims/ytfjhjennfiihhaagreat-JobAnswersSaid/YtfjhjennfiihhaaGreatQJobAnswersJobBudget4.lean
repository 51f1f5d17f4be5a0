/- Texts of this claim, one behind the other: CopyK, StoK, Trn17, Ord17, Frs19, Frs19b, Frs19c, Prt6, Ex4, Dst8a, Dst8b, Lv7a, RngA, Lv7b, PlainBall, PlainSr, PlainLs, Lb2, Lb3, Lb4, Spl16, Ord17a, Ord17b, Rgt19, RngB, RngC, RngM, Lv7c, Wrk19, Mrk, LoopL, PlainOrn, Rep7, Lv7d. -/
import Derived.Test.YtfjhjennfiihhaaGreatQJobAnswersJobBudget3
set_option maxRecDepth 100000
set_option maxHeartbeats 16000000
namespace Go.Proofs.YtfjhjennfiihhaaGreat
section
open Go Go.RowKit
section
variable {P:Program}
theorem run_copyK (w:World) (dT sT ty elem:TypeId) (sz n b o dLen dCap:Nat) (a:Addr) (sLen sCap:Nat) (cs:List Value)
  (hu:P.underlying dT=some (.slice elem)) (hs:(P.info? elem).map (·.size)=some sz) (hn:n=Nat.min sLen dLen) (hl0:cs.length=n*sz)
  (hsrc:∀ j v,cs[j]?=some v→w.cell? (a.add j)=some v) (hc:∀ j,j<cs.length→(w.cell? ⟨b,o+j,none⟩).isSome=true) (hf:∀ j,j<cs.length→w.frozen? ⟨b,o+j,none⟩=false) (h1:∀ v∈cs,v.oneCell'=true) :
  (Builtin.copy_ #[dT,sT] ty #[.slice (some ⟨b,o,none⟩) dLen dCap,.slice (some a) sLen sCap]).run P w=.ok (goInt n) (w.setCells b o cs):=by
 have hl:=run_loadCells_list (P:=P) w a cs hsrc
 have hst:=run_storeCells_cells (P:=P) b o cs 0 w (by simpa using hc) (by simpa using hf) h1
 cases hq:P.info? elem with
 | none=>simp [hq] at hs
 | some i =>
  have hi:i.size=sz:=by simpa [hq] using hs
  rw [hl0] at hl
  simp [Builtin.copy_,run_underlying hu,Builtin.lenOf,Builtin.firstCells,sizeOf,typeInfo,hq,hi,← hn,hl,hst]
theorem run_copyK_none (w:World) (dT sT ty elem:TypeId) (sz:Nat) (d a:Option Addr) (dLen dCap sLen sCap:Nat) (hu:P.underlying dT=some (.slice elem)) (hs:(P.info? elem).map (·.size)=some sz) (hn:Nat.min sLen dLen=0) :
  (Builtin.copy_ #[dT,sT] ty #[.slice d dLen dCap,.slice a sLen sCap]).run P w=.ok (goInt 0) w:=by
 cases hq:P.info? elem with
 | none=>simp [hq] at hs
 | some i =>
  have hl:∀ (x:Addr),(loadCells x 0).run P w=.ok #[] w:=fun x=>by simpa using run_loadCells_list (P:=P) w x [] (by simp)
  cases d <;> cases a <;> simp [Builtin.copy_,run_underlying hu,Builtin.lenOf,Builtin.firstCells,sizeOf,typeInfo,hq,hn,storeCells,hl]
theorem own_cells {base:Nat} {e:TypeId} {size:Nat} {g n c:Nat}:∀ (cs:List Value) (o:Nat) (w:World) (xs:List Value),w.ownsRow base e size (.slice (some ⟨g,0,none⟩) n c) n xs→o+cs.length≤n*size →
  (w.setCells g o cs).ownsRow base e size (.slice (some ⟨g,0,none⟩) n c) n (splice xs o cs)∧w.grownBy (w.setCells g o cs) (some g)
 | [],o,w,xs,ho,_=>⟨by simpa [World.setCells,splice] using ho,World.grownBy.refl _ _⟩
 | v :: cs,o,w,xs,ho,h=>by
  simp only [List.length_cons] at h
  have hl:xs.length=n*size:=ho.1
  have h1:=own_put1 ho o (by omega) v
  have e1:adr (some ⟨g,0,none⟩) o=⟨g,o,none⟩:=by simp [adr]
  rw [e1] at h1
  obtain⟨h2,h3⟩:=own_cells cs (o+1) (w.setCell ⟨g,o,none⟩ v) (xs.set o v) h1 (by omega)
  have e2:splice (xs.set o v) (o+1) cs=splice xs o (v :: cs):=by
   unfold splice
   have hx:(xs.set o v).take (o+1)=xs.take o ++ [v]:=by
    rw [List.take_succ_eq_append_getElem (by rw [List.length_set];omega),List.take_set_of_le (Nat.le_refl _)]
    simp
   rw [hx,List.drop_set_of_lt (by omega)]
   simp [Nat.add_comm]
   omega
  rw [World.setCells,← e2]
  refine⟨h2,?_⟩
  have hg:=grown_set w ⟨g,o,none⟩ v
  exact⟨h3.os.trans hg.os,h3.tape.trans hg.tape,h3.output.trans hg.output,Nat.le_trans hg.size h3.size,fun k hk hne=>(h3.block k (Nat.lt_of_lt_of_le hk hg.size) hne).trans (hg.block k hk hne)⟩
theorem own_ptr {w:World} {base:Nat} {e:TypeId} {size:Nat} {q:Option Addr} {n c:Nat} {xs:List Value} (ho:w.ownsRow base e size (.slice q n c) n xs) (hn:0<n):∃ g,q=some ⟨g,0,none⟩:=by
 rcases ho.2 with ⟨_,h2⟩ | ⟨g,cap,cur,h1,_⟩
 ·omega
 ·injection h1 with h1;exact⟨g,h1⟩
theorem Sep.setCells {w0 w:World} {Γ:List Pc} (S:Sep w0 w Γ) (j:Nat) {e:TypeId} {size:Nat} {g n c:Nat} {xs:List Value} (hj:Γ[j]?=some (.own e size (some ⟨g,0,none⟩) n c xs)) (o:Nat) (cs:List Value) (h:o+cs.length≤n*size) :
  Sep w0 (w.setCells g o cs) (Γ.set j (.own e size (some ⟨g,0,none⟩) n c (splice xs o cs))):=by
 obtain⟨h1,h2⟩:=own_cells cs o w xs (S.own j hj) h
 exact S.put j hj _ h2 (fun k hk=>hk) (own_base h1 (Nat.zero_le _)) fun k hk=>.inl hk
theorem wpList_copy_sep {w0 w:World} {Γ:List Pc} {ops:Array Oper} {rest:List Oper} {o:Oper} {a:Act} {Q:Exit→Act→World→Prop} (hgd:o.guard=none) (d s:Operand) (dT sT:TypeId)
  (ho:o.op=.call { callee:=.builtin .copy,args:=#[d,s],argTypes:=#[dT,sT] }) (elem:TypeId) (hu:P.underlying dT=some (.slice elem)) (sz:Nat) (hs:(P.info? elem).map (·.size)=some sz)
  (S:Sep w0 w Γ) (j:Nat) {e:TypeId} {q:Option Addr} {n c:Nat} {xs:List Value} (hj:Γ[j]?=some (.own e sz q n c xs))
  (m off dLen dCap sLen sCap:Nat) (dp sp:Option Addr) (hd:a.eval d=.slice dp dLen dCap) (hsr:a.eval s=.slice sp sLen sCap) (hm:m=Nat.min sLen dLen) (hdp:0<m→dp=some (adr q (off*sz))) (hfit:off+m≤n)
  (cs:List Value) (hr:Rd w sz sp m cs) (h1:∀ u∈cs,u.oneCell'=true)
  (h:∀ w',Sep w0 w' (Γ.set j (.own e sz q n c (splice xs (off*sz) cs)))→w'.heap.size=w.heap.size→wpList P ops Q rest (a.put o.dst (.int .i64 m)) w') :
  wpList P ops Q (o :: rest) a w:=by
 have hrl:=hr.len
 refine wpList_plain hgd fun K' hK'=>?_
 have hjl:=(List.getElem?_eq_some_iff.1 hj).1
 rcases Nat.eq_zero_or_pos m with h0 | h0
 ·have hcs:cs=[]:=List.eq_nil_of_length_eq_zero (by rw [hrl,h0];simp)
  subst hcs
  have hrun:=run_copyK_none (P:=P) w dT sT o.type elem sz dp sp dLen dCap sLen sCap hu hs (by omega)
  have e1:splice xs (off*sz) []=xs:=by simp [splice]
  have e2:Γ.set j (.own e sz q n c xs)=Γ:=by
   obtain⟨h1,h2⟩:=List.getElem?_eq_some_iff.1 hj
   rw [← h2,List.set_getElem_self]
  have hh:=h w (by rw [e1,e2];exact S) rfl
  unfold Oper.wp
  simp [execOp,ho,hd,hsr,resolve,invoke,builtin,hrun,Result.andThen]
  subst h0
  exact hK' _ _ hh
 ·have hown:=S.own j hj
  obtain⟨g,rfl⟩:=own_ptr hown (by omega)
  obtain⟨ad,hsp⟩:∃ ad,sp=some ad:=by
   rcases hr.ptr with h2 | ⟨b,o,h2⟩
   ·omega
   ·exact⟨_,h2⟩
  have hb:off*sz+cs.length≤n*sz:=by rw [hrl,← Nat.add_mul];exact Nat.mul_le_mul_right _ hfit
  have hdp':=hdp h0
  have e1:adr (some ⟨g,0,none⟩) (off*sz)=⟨g,off*sz,none⟩:=by simp [adr]
  rw [e1] at hdp'
  have hrun:=run_copyK (P:=P) w dT sT o.type elem sz m g (off*sz) dLen dCap ad sLen sCap cs hu hs hm hrl (fun k v hk=>by
   have hk2:k<m*sz:=by rw [← hrl];exact(List.getElem?_eq_some_iff.1 hk).1
   have h3:=hr.cells k hk2
   rw [List.getD_eq_getElem?_getD,hk,Option.getD_some] at h3
   rw [← h3]
   congr 1
   rcases hr.ptr with h2 | ⟨b,o2,h2⟩
   ·omega
   ·rw [hsp] at h2
    injection h2 with h2
    subst h2
    rw [hsp,adr_some]
    by_cases hk0:k=0
    ·subst hk0;simp [Addr.add]
    ·simp [Addr.add,hk0])
   (fun k hk=>by
    have h3:=own_cell hown (k:=off*sz+k) (by omega)
    simp only [adr,Option.getD_some,Nat.zero_add] at h3
    rw [h3];rfl)
   (fun k hk=>by
    have h3:=own_frozen hown (by omega) (off*sz+k)
    simpa [adr] using h3) h1
  have hh:=h _ (S.setCells j hj (off*sz) cs hb) (by
   have:∀ (l:List Value) (o:Nat) (w:World),(w.setCells g o l).heap.size=w.heap.size:=fun l=>by
    induction l with
    | nil=>intro o w;rfl
    | cons v l ih=>intro o w;rw [World.setCells,ih];simp [World.setCell]
   exact this _ _ _)
  unfold Oper.wp
  rw [hdp'] at hd
  rw [hsp] at hsr
  simp [execOp,ho,hd,hsr,resolve,invoke,builtin,hrun,Result.andThen]
  exact hK' _ _ hh
theorem run_clearK (w:World) (t e ty:TypeId) (z:Value) (ht:P.underlying t=some (.slice e)) (hv:∀ w,(zeroValue e).run P w=.ok z w) (h1:∀ u∈z.cells.toList,u.oneCell'=true) (b o n c:Nat) (hn:0<n)
  (hc:∀ j,j<n*z.cells.size→(w.cell? ⟨b,o+j,none⟩).isSome=true) (hf:∀ j,j<n*z.cells.size→w.frozen? ⟨b,o+j,none⟩=false) :
  (Builtin.clear_ #[t] ty #[.slice (some ⟨b,o,none⟩) n c]).run P w=.ok (.tuple #[]) (w.setCells b o (Builtin.zeroCells z.cells n).toList):=by
 have hsz:(Builtin.zeroCells z.cells n).toList.length=n*z.cells.size:=by simp [Builtin.zeroCells]
 have hst:=run_storeCells_cells (P:=P) b o (Builtin.zeroCells z.cells n).toList 0 w (by rw [hsz];simpa using hc) (by rw [hsz];simpa using hf) (by
  intro u hu
  simp only [Builtin.zeroCells,Array.toList_map,List.mem_map,Array.mem_toList_iff,Array.mem_range] at hu
  obtain⟨i,hi,rfl⟩:=hu
  rcases Nat.eq_zero_or_pos z.cells.size with h0 | h0
  ·rw [h0] at hi;simp at hi
  ·rw [getElem!_pos z.cells _ (Nat.mod_lt _ h0)]
   exact h1 _ (by simp))
 simp only [Nat.add_zero] at hst
 obtain⟨m,rfl⟩:∃ m,n=m+1:=⟨n - 1,by omega⟩
 simp [Builtin.clear_,run_underlying ht,hv,hst]
end
end
section
open Go Go.RowKit
section
variable {P:Program} {w0 w:World} {Γ:List Pc}
theorem wpList_store_sep {ops:Array Oper} {rest:List Oper} {o:Oper} {a:Act} {Q:Exit→Act→World→Prop} (hgd:o.guard=none) (ty:TypeId) (x y:Operand) (ho:o.op=.store ty x y)
  (S:Sep w0 w Γ) (j:Nat) {e:TypeId} {size:Nat} {q:Option Addr} {n c:Nat} {xs:List Value} (hj:Γ[j]?=some (.own e size q n c xs)) (k:Nat) (hk:k<n) (cells:Array Value) (hsz:cells.size=size)
  (hx:a.eval x=.pointer (some (adr q (k*size)))) (hy:a.eval y=.agg cells) (hi:(P.info? ty).map (·.size)=some cells.size) (h1:cells.all (·.oneCell')=true)
  (h:∀ w',Sep w0 w' (Γ.set j (.own e size q n c (splice xs (k*size) cells.toList)))→w'.heap.size=w.heap.size→wpList P ops Q rest (a.put o.dst undef) w'):wpList P ops Q (o :: rest) a w:=by
 have hown:=S.own j hj
 obtain⟨g,rfl⟩:=own_ptr hown (by omega)
 have e1:adr (some ⟨g,0,none⟩) (k*size)=⟨g,k*size,none⟩:=by simp [adr]
 rw [e1] at hx
 have e2:(k+1)*size≤n*size:=Nat.mul_le_mul_right _ hk
 have e3:(k+1)*size=k*size+size:=Nat.succ_mul k size
 refine wpList_store_mid hgd ty x y ho g (k*size) cells hx hy (fun t ht=>?_) hi h1 (h _ (S.setCells j hj (k*size) cells.toList (by rw [Array.length_toList,hsz];omega)) ?_)
 ·have h3:=own_cell hown (k:=k*size+t) (by omega)
  have h4:=own_frozen hown (by omega) (k*size+t)
  simp only [adr,Option.getD_some,Nat.zero_add] at h3 h4
  exact⟨by rw [h3];rfl,h4⟩
 ·have:∀ (l:List Value) (o:Nat) (w:World),(w.setCells g o l).heap.size=w.heap.size:=fun l=>by
   induction l with
   | nil=>intro o w;rfl
   | cons v l ih=>intro o w;rw [World.setCells,ih];simp [World.setCell]
  exact this _ _ _
theorem clear_sep (S:Sep w0 w Γ) (j:Nat) {e t:TypeId} {z:Value} {size:Nat} {q:Option Addr} {n c:Nat} {xs:List Value} (hj:Γ[j]?=some (.own e size q n c xs)) (ht:P.underlying t=some (.slice e)) (hv:∀ w,(zeroValue e).run P w=.ok z w) (hz:z.cells.size=size) (h1:∀ u∈z.cells.toList,u.oneCell'=true) (i:Nat) (hi:i<n) :
  ∃ w2,(∀ ty,(Builtin.clear_ #[t] ty #[.slice (cutp q c i size) (n - i) (c - i)]).run P w=.ok (.tuple #[]) w2)∧Sep w0 w2 (Γ.set j (.own e size q i c (xs.take (i*size)))):=by
 have hown:=S.own j hj
 have hxl:xs.length=n*size:=hown.1
 have hc:=own_cap hown
 obtain⟨g,rfl⟩:=own_ptr hown (by omega)
 have e0:cutp (some ⟨g,0,none⟩) c i size=some ⟨g,i*size,none⟩:=by unfold cutp;rw [if_neg (by omega)];simp [Addr.add_lit]
 have e1:(n - i)*size=n*size - i*size:=Nat.sub_mul n i size
 have e2:i*size≤n*size:=Nat.mul_le_mul_right _ (Nat.le_of_lt hi)
 have hlen:(Builtin.zeroCells z.cells (n - i)).toList.length=(n - i)*size:=by simp [Builtin.zeroCells,hz]
 rw [e0]
 have hs:=S.setCells j hj (i*size) (Builtin.zeroCells z.cells (n - i)).toList (by rw [hlen];omega)
 have hjl:=(List.getElem?_eq_some_iff.1 hj).1
 have ho:=hs.own j (List.getElem?_set_self hjl)
 have hsp:splice xs (i*size) (Builtin.zeroCells z.cells (n - i)).toList=xs.take (i*size) ++ ((Builtin.zeroCells z.cells (n - i)).toList ++ xs.drop (i*size+(Builtin.zeroCells z.cells (n - i)).toList.length)):=rfl
 rw [hsp] at ho hs
 have ho2:=own_take (k:=i) ho (by rw [List.length_take,hxl];omega) (Nat.le_of_lt hi)
 have hf:=hs.put j (List.getElem?_set_self hjl) (.own e size (some ⟨g,0,none⟩) i c (xs.take (i*size))) (row:=none) (World.grownBy.refl _ _) (fun _ hk=>by cases hk) (own_base ho2 (Nat.zero_le _)) (fun _ hk=>.inl hk)
 rw [List.set_set] at hf
 refine⟨_,fun ty=>run_clearK w t e ty z ht hv h1 g (i*size) (n - i) (c - i) (by omega) (fun t ht=>?_) (fun t ht=>?_),hf⟩
 ·rw [hz,e1] at ht
  have h3:=own_cell hown (k:=i*size+t) (by omega)
  simp only [adr,Option.getD_some,Nat.zero_add] at h3
  rw [h3];rfl
 ·rw [hz,e1] at ht
  have h3:=own_frozen hown (by omega) (i*size+t)
  simpa [adr] using h3
end
end
section
open Go Go.RowKit
theorem PickG (n:Nat) (p:Int) (w:World) (hn:1≤n) (h2:n≤1000000000) :
  Calls Tryz.prog 240 #[.int .i64 n,.int .i64 p] w fun e w'=>∃ k:Nat,k<n∧e=.returned (.tuple #[.int .i64 k,.bool true])∧w'=w:=by
 obtain⟨a,ha⟩:∃ a,p.tmod (n:Int)=a:=⟨_,rfl⟩
 have hb:-(n:Int)<a∧a<n:=by
  have h3:=Int.natAbs_tmod p n
  have h4:p.natAbs % n<n:=Nat.mod_lt _ (by omega)
  rw [ha] at h3
  simp at h3
  omega
 obtain⟨b1,b2⟩:=hb
 have d1:(1:Int)≤(n:Int):=by omega
 have d2:(n:Int)≤1000000000:=by omega
 by_cases h0:a<0
 ·go_enter Tryz.func240,Tryz.ntmps240
  go_wp2
  go_ret2
  exact⟨(a+n).toNat,by omega,by show Ending.returned (.tuple #[.int .i64 (a+(n:Int)),.bool true])=_;rw [Int.toNat_of_nonneg (by omega)],rfl⟩
 ·go_enter Tryz.func240,Tryz.ntmps240
  go_wp2
  go_ret2
  exact⟨a.toNat,by omega,by show Ending.returned (.tuple #[.int .i64 a,.bool true])=_;rw [Int.toNat_of_nonneg (by omega)],rfl⟩
theorem ofOne (gi gp:Nat) (pp:Option Addr) (np cp:Nat) (ps:List Int) (i m:Nat) (w w0:World) (Γ:List Pc) (ji jp:Nat) (S:Sep w0 w Γ) (hi:Γ[ji]?=some (.blk gi 3 #[.int .i64 ((i:Int) - 1)])) (hp:Γ[jp]?=some (.blk gp 25 #[.slice pp np cp])) (hne:ji≠jp) (hps:Rd w0 1 pp np (encI ps)) (h1:1≤m) (hm:m≤1000000000) (h3:i≤1000000000) :
  Calls Tryz.prog 239 #[.int .i64 m,.pointer (some ⟨gi,0,none⟩),.pointer (some ⟨gp,0,none⟩)] w fun e w'=>∃ k:Nat,k<m∧e=.returned (.int .i64 k)∧Sep w0 w' (Γ.set ji (.blk gi 3 #[.int .i64 (((i+1:Nat):Int) - 1)])):=by
 obtain⟨a0,az,af⟩:=bkc0lz0 (S.blk ji hi)
 have hp2:(Γ.set ji (.blk gi 3 #[.int .i64 (i:Int)]))[jp]?=some (.blk gp 25 #[.slice pp np cp]):=by rw [List.getElem?_set_ne hne];exact hp
 have S1:=Lib.hid (show Sep w0 (w.setCell ⟨gi,0,none⟩ (.int .i64 (i:Int))) (Γ.set ji (.blk gi 3 #[.int .i64 (i:Int)])) from S.set ji hi 0 (.int .i64 (i:Int)))
 obtain⟨b0,bz⟩:=bkc0l (S1.out.blk jp hp2)
 have hi2:(Γ.set ji (.blk gi 3 #[.int .i64 (i:Int)]))[ji]?=some (.blk gi 3 #[.int .i64 (i:Int)]):=List.getElem?_set_self (List.getElem?_eq_some_iff.1 hi).1
 obtain⟨c0,cz⟩:=bkc0l (S1.out.blk ji hi2)
 have p1:=hps.ptr
 have n1:=hps.small
 have HP:=Lib.hid (hps.ext S1.out.ext)
 have HE:Hid (∀ k:Nat,k<m→∀ w',Sep w0 w' (Γ.set ji (.blk gi 3 #[.int .i64 (i:Int)]))→∃ k':Nat,k'<m∧Ending.returned (.int .i64 (k:Int))=.returned (.int .i64 k')∧Sep w0 w' (Γ.set ji (.blk gi 3 #[.int .i64 (((i+1:Nat):Int) - 1)]))):=fun k hk w' h=>⟨k,hk,rfl,by rw [show ((i+1:Nat):Int) - 1=(i:Int) by omega];exact h⟩
 have HG:=Lib.hid (fun p w'=>PickG m p w' h1 hm)
 simp at a0 b0 c0
 have q1:(i:Int) - 1+1=(i:Int):=by omega
 have q2:(0:Int)≤(i:Int):=by omega
 have q3:(i:Int)≤1000000000:=by omega
 clear S hi hp hp2 hi2 hps
 by_cases hlt:i<np
 ·have g1:=HP.out.cI hlt
  have e1:decide ((np:Int)≤(i:Int))=false:=by simp;omega
  go_enter Tryz.func239,Tryz.ntmps239
  go_wp2_with (go_at_call 240;refine(HG.out _ _).mono ?_;rintro e w' ⟨k,hk,rfl,rfl⟩)
  go_ret
  exact HE.out k hk _ S1.out
 ·have e1:decide ((np:Int)≤(i:Int))=true:=by simp;omega
  go_enter Tryz.func239,Tryz.ntmps239
  go_wp2
  go_ret
  exact HE.out 0 (by omega) _ S1.out
end
section
open Go Go.RowKit
theorem splice_take {xs:List Value} {i k sz:Nat} (h:xs.length=k*sz) (hi:i<k):(splice xs (i*sz) (xs.drop ((i+1)*sz))).take ((k - 1)*sz)=xs.take (i*sz) ++ xs.drop ((i+1)*sz):=by
 have e1:(i+1)*sz≤k*sz:=Nat.mul_le_mul_right _ hi
 have e2:(i+1)*sz=i*sz+sz:=Nat.succ_mul i sz
 have e3:(k - 1)*sz+sz=k*sz:=by rw [← Nat.succ_mul];congr 1;omega
 unfold splice
 rw [← List.append_assoc,List.take_append_of_le_length]
 ·rw [List.take_of_length_le]
  rw [List.length_append,List.length_take,List.length_drop,h];omega
 ·rw [List.length_append,List.length_take,List.length_drop,h];omega
theorem splice_all {xs cs:List Value} (h:xs.length=cs.length):splice xs 0 cs=cs:=by
 unfold splice
 rw [List.take_zero,List.nil_append,Nat.zero_add,List.drop_of_length_le (by omega),List.append_nil]
theorem encI_eraseIdx (l:List Int) (i:Nat):encI (l.eraseIdx i)=(encI l).take (i*1) ++ (encI l).drop ((i+1)*1):=by
 unfold encI
 rw [List.eraseIdx_eq_take_drop_succ,List.map_append,List.map_take,List.map_drop,Nat.mul_one,Nat.mul_one]
theorem encQ_take (l:List Sq) (i:Nat):encQ (l.take i)=(encQ l).take (i*4):=by
 induction l generalizing i with
 | nil=>simp [encQ]
 | cons x l ih =>
  cases i with
  | zero=>simp [encQ]
  | succ i =>
   rw [List.take_succ_cons]
   show [Value.int .i64 x.s,.int .i64 x.r,.int .i64 x.v,.int .i64 x.d] ++ encQ (l.take i)=List.take ((i+1)*4) ([Value.int .i64 x.s,.int .i64 x.r,.int .i64 x.v,.int .i64 x.d] ++ encQ l)
   rw [ih,show (i+1)*4=i*4+4 from by omega]
   rfl
theorem encQ_drop (l:List Sq) (i:Nat):encQ (l.drop i)=(encQ l).drop (i*4):=by
 induction l generalizing i with
 | nil=>simp [encQ]
 | cons x l ih =>
  cases i with
  | zero=>simp
  | succ i =>
   rw [List.drop_succ_cons]
   show encQ (l.drop i)=List.drop ((i+1)*4) ([Value.int .i64 x.s,.int .i64 x.r,.int .i64 x.v,.int .i64 x.d] ++ encQ l)
   rw [ih,show (i+1)*4=i*4+4 from by omega]
   rfl
theorem encQ_eraseIdx (l:List Sq) (i:Nat):encQ (l.eraseIdx i)=(encQ l).take (i*4) ++ (encQ l).drop ((i+1)*4):=by
 rw [List.eraseIdx_eq_take_drop_succ,encQ_append,encQ_take,encQ_drop]
theorem infQ:(Tryz.prog.info? 138).map (·.size)=some 4:=by kernel_rfl
theorem infI1:(Tryz.prog.info? 3).map (·.size)=some 1:=by kernel_rfl
section
variable {P:Program} {w0 w:World} {Γ:List Pc}
theorem copy_shift (S:Sep w0 w Γ) (j:Nat) {e:TypeId} {sz:Nat} {q:Option Addr} {k c:Nat} {xs:List Value} (hj:Γ[j]?=some (.own e sz q k c xs)) (dT sT ty elem:TypeId) (hu:P.underlying dT=some (.slice elem)) (hs:(P.info? elem).map (·.size)=some sz) (hsz:0<sz)
  (h1:∀ u∈xs,u.oneCell'=true) (i:Nat) (hi:i<k) :
  ∃ w2,(Builtin.copy_ #[dT,sT] ty #[.slice (cutp q c i sz) (k - i) (c - i),.slice (cutp q c (i+1) sz) (k - (i+1)) (c - (i+1))]).run P w=.ok (.int .i64 ((k - (i+1):Nat):Int)) w2 ∧
   Sep w0 w2 (Γ.set j (.own e sz q (k - 1) c (xs.take (i*sz) ++ xs.drop ((i+1)*sz)))):=by
 have hown:=S.own j hj
 have hxl:xs.length=k*sz:=hown.1
 have hkc:=own_cap hown
 obtain⟨g,rfl⟩:=own_ptr hown (by omega)
 have e1:(i+1)*sz≤k*sz:=Nat.mul_le_mul_right _ hi
 have e2:(i+1)*sz=i*sz+sz:=Nat.succ_mul i sz
 have hmin:Nat.min (k - (i+1)) (k - i)=k - (i+1):=by show min _ _=_;omega
 have hdl:(xs.drop ((i+1)*sz)).length=(k - (i+1))*sz:=by rw [List.length_drop,hxl,Nat.sub_mul]
 have fin:∀ w2,Sep w0 w2 (Γ.set j (.own e sz (some ⟨g,0,none⟩) k c (splice xs (i*sz) (xs.drop ((i+1)*sz)))))→Sep w0 w2 (Γ.set j (.own e sz (some ⟨g,0,none⟩) (k - 1) c (xs.take (i*sz) ++ xs.drop ((i+1)*sz)))):=fun w2 h=>by
  have hjl:=(List.getElem?_eq_some_iff.1 hj).1
  have ho:=h.own j (List.getElem?_set_self hjl)
  have hsp:splice xs (i*sz) (xs.drop ((i+1)*sz))=(xs.take (i*sz) ++ xs.drop ((i+1)*sz)) ++ (splice xs (i*sz) (xs.drop ((i+1)*sz))).drop ((k - 1)*sz):=by
   rw [← splice_take hxl hi,List.take_append_drop]
  rw [hsp] at ho
  have ho2:=own_take (k:=k - 1) ho (by rw [List.length_append,List.length_take,hdl,hxl,show k - 1=i+(k - (i+1)) from by omega,Nat.add_mul];omega) (by omega)
  have:=h.put j (List.getElem?_set_self hjl) (.own e sz (some ⟨g,0,none⟩) (k - 1) c (xs.take (i*sz) ++ xs.drop ((i+1)*sz))) (row:=none) (World.grownBy.refl _ _) (fun _ hk=>by cases hk) (own_base ho2 (Nat.zero_le _)) (fun _ hk=>.inl hk)
  rwa [List.set_set] at this
 rcases Nat.eq_zero_or_pos (k - (i+1)) with h0 | h0
 ·refine⟨w,?_,fin w ?_⟩
  ·rw [h0] at hmin ⊢
   exact run_copyK_none w dT sT ty elem sz _ _ _ _ _ _ hu hs hmin
  ·have hnil:xs.drop ((i+1)*sz)=[]:=List.eq_nil_of_length_eq_zero (by rw [hdl,h0,Nat.zero_mul])
   have e3:splice xs (i*sz) (xs.drop ((i+1)*sz))=xs:=by rw [hnil];simp [splice]
   rw [e3]
   have e4:Γ.set j (.own e sz (some ⟨g,0,none⟩) k c xs)=Γ:=by
    obtain⟨h1,h2⟩:=List.getElem?_eq_some_iff.1 hj
    rw [← h2,List.set_getElem_self]
   rw [e4];exact S
 ·have hc1:cutp (some ⟨g,0,none⟩) c i sz=some ⟨g,i*sz,none⟩:=by unfold cutp;rw [if_neg (by omega)];simp [Addr.add_lit]
  have hc2:cutp (some ⟨g,0,none⟩) c (i+1) sz=some ⟨g,(i+1)*sz,none⟩:=by unfold cutp;rw [if_neg (by omega)];simp [Addr.add_lit]
  rw [hc1,hc2]
  refine⟨w.setCells g (i*sz) (xs.drop ((i+1)*sz)),?_,fin _ (S.setCells j hj (i*sz) _ (by rw [hdl];rw [← Nat.add_mul];exact Nat.mul_le_mul_right _ (by omega)))⟩
  refine run_copyK w dT sT ty elem sz (k - (i+1)) g (i*sz) (k - i) (c - i) ⟨g,(i+1)*sz,none⟩ (k - (i+1)) (c - (i+1)) _ hu hs hmin.symm hdl (fun t v ht=>?_) (fun t ht=>?_) (fun t ht=>?_) (fun v hv=>h1 v (List.mem_of_mem_drop hv))
  ·have ht2:t<(k - (i+1))*sz:=by rw [← hdl];exact(List.getElem?_eq_some_iff.1 ht).1
   rw [List.getElem?_drop] at ht
   have hlt:(i+1)*sz+t<k*sz:=by rw [← hxl];exact(List.getElem?_eq_some_iff.1 ht).1
   have:=own_cell hown hlt
   rw [List.getD_eq_getElem?_getD,ht,adr_some] at this
   rw [Addr.add_lit]
   simpa using this
  ·rw [hdl,Nat.sub_mul] at ht
   have:=own_cell hown (k:=i*sz+t) (by omega)
   rw [adr_some] at this
   simp only [Nat.zero_add] at this
   rw [this];rfl
  ·rw [hdl,Nat.sub_mul] at ht
   have:=own_frozen hown (by omega) (i*sz+t)
   rw [adr_some] at this
   simpa using this
end
end
section
open Go Go.RowKit Go.Maps
theorem zeroBo (w:World):(zeroValue 4).run Tryz.prog w=.ok (.bool false) w:=by kernel_rfl
noncomputable def EB19:ElmR Tryz.prog 4 Bool:=elmBK Tryz.prog 4 zeroBo
theorem freshCl (gt b m:Nat) (f:Ky→Option Bool) (x:Sq) (w:World) (hB:Blk w gt 272 #[.map (some b)]) (hM:MapK kyS EB19 b m f w) (hx:kyS.ok x.ky) :
  Calls Tryz.prog 208 #[.agg #[.int .i64 x.s,.int .i64 x.r,.int .i64 x.v,.int .i64 x.d],.pointer (some ⟨gt,0,none⟩)] w fun e w'=>e=.returned (.bool ((f x.ky).getD false))∧Ext w w':=by
 have b0:w.cell? ⟨gt,0,none⟩=some (.map (some b)):=hB.cell 0
 have bz:=hB.lt
 have hE:=((Sep.start w).al #[.int .i64 x.s,.int .i64 x.r,.int .i64 x.v,.int .i64 x.d] 138 w.heap.size rfl).ext
 have k0:=(hM.ext hE).lookup (t:=272) Tryz.underlying272 hx
 have k1:(Instr.lookup 272 (.map (some b)) (.agg #[.int .i64 x.s,.int .i64 x.r,.int .i64 x.v]) false).run Tryz.prog (w.alloc (.cells #[.int .i64 x.s,.int .i64 x.r,.int .i64 x.v,.int .i64 x.d] 138))=.ok (.bool ((f x.ky).getD false)) (w.alloc (.cells #[.int .i64 x.s,.int .i64 x.r,.int .i64 x.v,.int .i64 x.d] 138)):=k0
 have HE:=Lib.hid hE
 clear hB hM hx hE k0
 generalize ((f x.ky).getD false)=r at *
 go_enter Tryz.func208,Tryz.ntmps208
 go_wp2
 go_ret
 exact⟨rfl,HE.out⟩
theorem IndexFresh (gt b m:Nat) (f:Ky→Option Bool) (p:Option Addr) (n c:Nat) (l:List Sq) (w:World) (hl:Rd w 4 p n (encQ l)) (hB:Blk w gt 272 #[.map (some b)]) (hM:MapK kyS EB19 b m f w) (hx:∀ x∈l,kyS.ok x.ky) :
  Calls Tryz.prog 210 #[.slice p n c,.func (.func 208) #[] #[.pointer (some ⟨gt,0,none⟩)]] w fun e w'=>∃ i:Int,e=.returned (.int .i64 i)∧Ext w w'∧((i = -1∧∀ j,j<n→((f (nth l j).ky).getD false)=false)∨∃ k:Nat,i=k∧k<n∧((f (nth l k).ky).getD false)=true∧∀ j,j<k→((f (nth l j).ky).getD false)=false):=by
 have p1:=hl.ptr
 have n1:=hl.small
 have l1:=hl.nQ
 have HL:=Lib.hid hl;clear hl
 have L1:=Lib.hid l1;clear l1
 have HX:=Lib.hid hx;clear hx
 have HC:=Lib.hid (fun x W (h:Ext w W) hx=>freshCl gt b m f x W (hB.ext h) (hM.ext h) hx)
 clear hB hM
 go_enter Tryz.func210,Tryz.ntmps210
 go_wp2
 go_loopw [5,8] (fun _ i wr=>∃ k:Nat,k≤n∧i=.int .i64 k∧Hid (∀ j,j<k→((f (nth l j).ky).getD false)=false)∧Ext w wr) (fun _ i _=>n - (intOf i).toNat)
 case atStart=>exact⟨0,Nat.zero_le _,rfl,fun j hj=>by omega,Below.refl _ _⟩
 case round =>
  obtain⟨k,hk,rfl,HA,hE⟩:=hrel
  by_cases hlt:k<n
  ·obtain⟨g1,g2,g3,g4⟩:=(HL.out.ext hE).cQ hlt
   have hkl:k<l.length:=by rw [← L1.out];exact hlt
   have HC2:=Lib.hid (HC.out (nth l k) wr hE (HX.out _ (nth_mem hkl)))
   have d1:(0:Int)≤k:=by omega
   have d2:(k:Int)<n:=by omega
   have HE:=Lib.hid hE
   clear hE
   cases hr:((f (nth l k).ky).getD false) with
   | true =>
    have HR:=Lib.hid hr
    rw [hr] at HC2
    clear hr hkl
    generalize nth l k=x at HC2 g1 g2 g3 g4
    go_wp2_with (go_at_call 208;go_must (refine HC2.out.mono ?_;rintro e w' ⟨rfl,hb⟩;have HX2:=Lib.hid (Ext.trans HE.out hb);clear hb))
    go_ret
    exact⟨_,rfl,HX2.out,.inr ⟨k,rfl,hlt,HR.out,HA.out⟩⟩
   | false =>
    have HR:=Lib.hid hr
    rw [hr] at HC2
    clear hr hkl
    generalize nth l k=x at HC2 g1 g2 g3 g4
    go_wp2_with (go_at_call 208;go_must (refine HC2.out.mono ?_;rintro e w' ⟨rfl,hb⟩;have HX2:=Lib.hid (Ext.trans HE.out hb);clear hb))
    go_roundw
    case rel=>exact⟨k+1,by omega,by go_num,fun j hj=>by
     rcases Nat.lt_or_ge j k with h | h
     ·exact HA.out j h
     ·obtain rfl:j=k:=by omega
      exact HR.out,HX2.out⟩
    case measure=>simp [intOf];omega
  ·have HE:=Lib.hid hE
   clear hE
   go_wp2
   go_ret
   exact⟨_,rfl,HE.out,.inl ⟨rfl,fun j hj=>HA.out j (by omega)⟩⟩
end
section
open Go Go.RowKit Go.Maps
structure KeptL (pr:Sq→Bool) (l X:List Sq) (i j:Nat):Prop where
 len:X.length=l.length
 lt:i<j
 le:j≤l.length
 low:X.take i=(l.take j).filter fun x=>!pr x
 high:X.drop j=l.drop j
theorem kept_start {pr:Sq→Bool} {l:List Sq} {k:Nat} (hk:k<l.length) (ht:pr (nth l k)=true) (h:∀ j,j<k→pr (nth l j)=false):KeptL pr l l k (k+1):=by
 refine⟨rfl,by omega,hk,?_,rfl⟩
 rw [take_succ_nth l k hk,List.filter_append]
 have h1:(l.take k).filter (fun x=>!pr x)=l.take k:=List.filter_eq_self.2 fun x hx=>by
  obtain⟨i,hi,rfl⟩:=List.mem_iff_getElem.1 hx
  rw [List.length_take] at hi
  have:=h i (by omega)
  rw [nth_eq (by omega)] at this
  rw [List.getElem_take,this];rfl
 rw [h1];simp [ht]
theorem kept_nth {pr:Sq→Bool} {l X:List Sq} {i j:Nat} (h:KeptL pr l X i j) (hj:j<l.length):nth X j=nth l j:=by
 have:=h.high
 rw [drop_nth X j (by rw [h.len];exact hj),drop_nth l j hj] at this
 injection this
theorem kept_skip {pr:Sq→Bool} {l X:List Sq} {i j:Nat} (h:KeptL pr l X i j) (hj:j<l.length) (hp:pr (nth l j)=true):KeptL pr l X i (j+1):=by
 refine⟨h.len,by have:=h.lt;omega,hj,?_,?_⟩
 ·rw [h.low,take_succ_nth l j hj,List.filter_append];simp [hp]
 ·rw [← List.drop_drop,h.high,List.drop_drop]
theorem kept_keep {pr:Sq→Bool} {l X:List Sq} {i j:Nat} (h:KeptL pr l X i j) (hj:j<l.length) (hp:pr (nth l j)=false):KeptL pr l (X.set i (nth l j)) (i+1) (j+1):=by
 have h1:=h.lt
 have h2:=h.len
 refine⟨by rw [List.length_set];exact h.len,by omega,hj,?_,?_⟩
 ·rw [List.take_succ_eq_append_getElem (by rw [List.length_set];omega),List.take_set_of_le (Nat.le_refl _),h.low,take_succ_nth l j hj,List.filter_append]
  simp [hp]
 ·rw [List.drop_set_of_lt (by omega),← List.drop_drop,h.high,List.drop_drop]
theorem encQ_set (X:List Sq) (i:Nat) (x:Sq) (h:i<X.length):splice (encQ X) (i*4) [.int .i64 x.s,.int .i64 x.r,.int .i64 x.v,.int .i64 x.d]=encQ (X.set i x):=by
 have e:X.set i x=X.take i ++ ([x] ++ X.drop (i+1)):=by
  rw [List.set_eq_take_append_cons_drop,if_pos h];rfl
 rw [e,encQ_append,encQ_append,encQ_take,encQ_drop,show (i+1)*4=i*4+4 from by omega]
 rfl
theorem filt_none {pr:Sq→Bool} {l:List Sq} (h:∀ j,j<l.length→pr (nth l j)=false):l.filter (fun x=>!pr x)=l:=List.filter_eq_self.2 fun x hx=>by
 obtain⟨i,hi,rfl⟩:=List.mem_iff_getElem.1 hx
 have:=h i hi
 rw [nth_eq hi] at this
 rw [this];rfl
theorem DeleteFresh (gt b m:Nat) (f:Ky→Option Bool) (q:Option Addr) (n c:Nat) (l:List Sq) (w w0:World) (S:Sep w0 w [.own 138 4 q n c (encQ l),.blk gt 272 #[.map (some b)],.mapK kyS EB19 b m f]) (hx:∀ x∈l,kyS.ok x.ky) (hn:n≤100000) :
  Calls Tryz.prog 206 #[.slice q n c,.func (.func 208) #[] #[.pointer (some ⟨gt,0,none⟩)]] w fun e w'=>e=.returned (.slice q (l.filter fun x=>!((f x.ky).getD false)).length c)∧Sep w0 w' [.own 138 4 q (l.filter fun x=>!((f x.ky).getD false)).length c (encQ (l.filter fun x=>!((f x.ky).getD false))),.blk gt 272 #[.map (some b)],.mapK kyS EB19 b m f]:=by
 have hI:=IndexFresh gt b m f q n c l w (S.rdx 0 rfl) (S.blk 1 rfl) (S.mapK 2 rfl) hx
 have L1:=Lib.hid (S.rdx 0 rfl).nQ
 have HX:=Lib.hid hx
 have HIX:=Lib.hid hI
 have kc:n≤c:=own_cap (S.own 0 rfl)
 have S0:=Lib.hid S;clear S
 clear hx hI
 obtain⟨pr,hpr⟩:∃ pr:Sq→Bool,(fun x:Sq=>((f x.ky).getD false))=pr:=⟨_,rfl⟩
 have hpx:∀ x:Sq,((f x.ky).getD false)=pr x:=fun x=>congrFun hpr x
 have hfe:(fun x:Sq=>!((f x.ky).getD false))=fun x=>!pr x:=funext fun x=>by rw [hpx]
 rw [hfe]
 have HPX:=Lib.hid hpx
 clear hpr hpx hfe
 by_cases hall:∀ j,j<n→pr (nth l j)=false
 ·have HF:Hid (l.filter (fun x=>!pr x)=l):=filt_none fun j hj=>hall j (by rw [L1.out];exact hj)
  have HAL:=Lib.hid hall
  clear hall
  rw [HF.out]
  go_enter Tryz.func206,Tryz.ntmps206
  go_wp2_with (go_at_call 210;go_must (refine HIX.out.mono ?_;rintro e w1 ⟨i,rfl,hb,hc⟩;have S1:=Lib.hid (S0.out.call hb);obtain rfl:i = -1:=(hc.resolve_right (by rintro⟨k,_,h1,h2,_⟩;rw [HPX.out,HAL.out k h1] at h2;cases h2)).1;clear hc hb))
  go_ret
  exact⟨by rw [← L1.out];rfl,by rw [← L1.out];exact S1.out⟩
 ·have HAL:=Lib.hid hall
  clear hall
  go_enter Tryz.func206,Tryz.ntmps206
  go_wp2_with (go_at_call 210;go_must (refine HIX.out.mono ?_;rintro e w1 ⟨i,rfl,hb,hc⟩;have S1:=Lib.hid (S0.out.call hb);obtain⟨k0,rfl,hk0,ht,hbef⟩:=hc.resolve_left (by rintro⟨_,h1⟩;exact HAL.out fun j hj=>by rw [← HPX.out];exact h1 j hj);have HK:=Lib.hid (kept_start (pr:=pr) (l:=l) (k:=k0) (by rw [← L1.out];exact hk0) (by rw [← HPX.out];exact ht) (fun j hj=>by rw [← HPX.out];exact hbef j hj));have e0:((k0:Int) == -1)=false:=(beq_eq_false_iff_ne.2 (by omega));clear hb ht hbef))
  go_loopw [5,6,7] (fun v5 v6 _ wr=>∃ (i j:Nat) (X:List Sq),v5=.int .i64 i∧v6=.int .i64 j∧i<j∧j≤n∧Hid (KeptL pr l X i j)∧Hid (Sep w0 wr [.own 138 4 q n c (encQ X),.blk gt 272 #[.map (some b)],.mapK kyS EB19 b m f])) (fun _ v6 _ _=>n - (intOf v6).toNat)
  case atStart=>exact⟨k0,k0+1,l,rfl,by go_num,by omega,by omega,HK,S1⟩
  case round =>
   clear S1 HK e0 hk0
   obtain⟨i,j,X,rfl,rfl,hij,hj,HK,S⟩:=hrel
   by_cases hlt:j<n
   ·have hjl:j<l.length:=by rw [← L1.out];exact hlt
    have hnx:=kept_nth HK.out hjl
    obtain⟨g1,g2,g3,g4⟩:=(S.out.rdx 0 rfl).cQ hlt
    rw [hnx] at g1 g2 g3 g4
    have pq:=(S.out.rdx 0 rfl).ptr
    have HOK:=Lib.hid (HX.out _ (nth_mem hjl))
    have d1:(0:Int)≤i:=by omega
    have d2:(i:Int)<n:=by omega
    have d3:(0:Int)≤j:=by omega
    have d4:(j:Int)<n:=by omega
    have d5:(n:Int)≤100000:=by omega
    have SB:=Lib.hid (S.out.al #[.int .i64 (nth l j).s,.int .i64 (nth l j).r,.int .i64 (nth l j).v,.int .i64 (nth l j).d] 138 wr.heap.size rfl)
    have HC:=Lib.hid (freshCl gt b m f (nth l j) _ (SB.out.blk 2 rfl) (SB.out.mapK 3 rfl) HOK.out)
    rw [HPX.out] at HC
    cases hp:pr (nth l j) with
    | true =>
     have HKS:=Lib.hid (kept_skip HK.out hjl hp)
     rw [hp] at HC
     clear hp hnx S HK hjl HOK
     generalize nth l j=x at *
     go_wp2_with (go_at_call 208;go_must (refine HC.out.mono ?_;rintro e w' ⟨rfl,hb⟩;have S2:=Lib.hid (SB.out.call hb);clear hb))
     go_roundw
     case rel=>exact⟨i,j+1,X,rfl,by go_num,by omega,by omega,HKS,S2.out.pick [1,2,3] (by decide) rfl⟩
     case measure=>simp [intOf];omega
    | false =>
     have HKS:=Lib.hid (kept_keep HK.out hjl hp)
     have hil:i<X.length:=by rw [HK.out.len];omega
     have HES:=Lib.hid (fun x=>encQ_set X i x hil)
     rw [hp] at HC
     clear hp hnx S HK hjl HOK hil
     generalize nth l j=x at *
     go_wp2_with (first
      | (have _t:=S2;with_reducible show wpList _ _ _ (⟨none,.store 138 (.tmp 33) _,_,_,_,_⟩:: _) _ _;go_must (refine wpList_store_sep rfl 138 _ _ rfl S2.out 1 rfl i (by omega) #[.int .i64 x.s,.int .i64 x.r,.int .i64 x.v,.int .i64 x.d] (by simp) rfl rfl (by rw [infQ];simp) (by simp [Value.oneCell']) ?_;intro w5 S' hsz;have S5:=Lib.hid S';clear S' hsz))
      | (go_at_call 208;go_must (refine HC.out.mono ?_;rintro e w' ⟨rfl,hb⟩;have S2:=Lib.hid (SB.out.call hb);obtain⟨x0,x1,x2,x3,xz⟩:=bkc0c1c2c3l (S2.out.blk 0 rfl);clear hb)))
     go_roundw
     case rel=>exact⟨i+1,j+1,X.set i x,by go_num,by go_num,by omega,by omega,HKS,by rw [← HES.out];exact S5.out.pick [1,2,3] (by decide) rfl⟩
     case measure=>simp [intOf];omega
   ·obtain rfl:j=n:=by omega
    have d1:(0:Int)≤i:=by omega
    have d2:(i:Int)<j:=by omega
    have d5:(j:Int)≤100000:=by omega
    obtain⟨w2,hcl,S'⟩:=clear_sep (P:=Tryz.prog) (t:=83) (z:=.agg #[.int .i64 0,.int .i64 0,.int .i64 0,.int .i64 0]) S.out 0 rfl Tryz.underlying83 zeroMl rfl (by intro u hu;simp [Value.cells] at hu;rcases hu with rfl | rfl | rfl | rfl <;> rfl) i hij
    have hlow:=HK.out.low
    rw [show l.take j=l from List.take_of_length_le (by rw [L1.out];exact Nat.le_refl _)] at hlow
    have hen:=congrArg encQ hlow
    rw [encQ_take] at hen
    rw [hen] at S'
    have HLN:Hid (i=(l.filter fun x=>!pr x).length):=by
     unfold Hid
     rw [← hlow,List.length_take,HK.out.len,← L1.out];omega
    have S9:=Lib.hid S'
    have hc2:cutp q c i 4=q.map (fun x=>x.add (i*4)):=by unfold cutp;rw [if_neg (by omega)]
    have hcl2:=hcl
    rw [hc2] at hcl2
    have hq0:Hid (cutp q c 0 4=q):=by
     obtain⟨g,rfl⟩:=own_ptr (S.out.own 0 rfl) (by omega)
     unfold Hid cutp;simp [Addr.add]
    have ec:¬ c=i:=by omega
    have pq:=(S.out.rdx 0 rfl).ptr
    have d6:i≤j:=by omega
    have d7:i≤c:=by omega
    clear S' hen hlow hc2 HK S
    go_wp2
    go_ret
    refine⟨?_,?_⟩
    ·show Ending.returned (.slice (cutp q c 0 4) i c)=_
     rw [hq0.out,← HLN.out]
    rw [← HLN.out]
    exact S9.out
end
section
open Go Go.RowKit Go.Maps
theorem combM_in {M:List Sq} {x:Sq} (h:x∈combM M):x∈M:=(combM_mem.1 h).1
theorem fresh_filt {st M:List Sq} {f:Ky→Option Bool} (h:ThereK st f):((combM M).filter fun x=>!((f x.ky).getD false))=freshM st M:=by
 unfold freshM
 congr 1
 funext x
 rw [thereK_has h]
theorem FreshG (ps:Option Addr) (ns cs:Nat) (st:List Sq) (pm:Option Addr) (nm cm:Nat) (M:List Sq) (w:World) (hs:Rd w 4 ps ns (encQ st)) (hm:Rd w 4 pm nm (encQ M)) (hi:∀ x∈st,x.I) (hj:∀ x∈M,x.I) (hns:ns≤100000) (hnm:nm≤100000) :
  Calls Tryz.prog 141 #[.slice ps ns cs,.slice pm nm cm] w fun e w'=>∃ q c,e=.returned (.slice q (freshM st M).length c)∧Sep w w' [.own 138 4 q (freshM st M).length c (encQ (freshM st M))]:=by
 have p1:=hs.ptr
 have n1:=hs.small
 have L1:=Lib.hid hs.nQ
 have LM:=Lib.hid hm.nQ
 have HI:=Lib.hid hi
 have HJ:=Lib.hid hj
 have HL:=Lib.hid hs
 have HC:=Lib.hid (fun W (h:Ext w W)=>CombineG pm nm cm M W (hm.ext h) hj hnm)
 clear hs hm hi hj
 obtain⟨F,hF⟩:∃ F,freshM st M=F:=⟨_,rfl⟩
 rw [hF]
 have HFM:=Lib.hid hF
 clear hF
 have hmm:=@run_makeMap Tryz.prog
 have S0:=Lib.hid (((Sep.start w).mkmapK (K:=kyS) EB19).al #[.map (some w.heap.size)] 272 (w.heap.size+1) (by simp))
 go_enter Tryz.func141,Tryz.ntmps141
 go_wp2
 go_loopw [7,11] (fun _ i wr=>∃ (k mm:Nat) (f:Ky→Option Bool),k≤ns∧mm≤k∧i=.int .i64 k∧Sep w wr [.blk (w.heap.size+1) 272 #[.map (some w.heap.size)],.mapK kyS EB19 w.heap.size mm f]∧Hid (ThereK (st.take k) f)) (fun _ i _=>ns - (intOf i).toNat)
 case atStart=>exact⟨0,0,_,Nat.zero_le _,Nat.le_refl _,rfl,S0.out,thereK_nil⟩
 case round =>
  clear S0
  obtain⟨k,mm,f,hk,hmk,rfl,S,HF⟩:=hrel
  have b0:wr.cell? ⟨w.heap.size+1,0,none⟩=some (.map (some w.heap.size)):=(S.blk 0 rfl).cell 0
  have bz:=(S.blk 0 rfl).lt
  by_cases hlt:k<ns
  ·obtain⟨g1,g2,g3,g4⟩:=(HL.out.ext S.ext).cQ hlt
   have hkl:k<st.length:=by rw [← L1.out];exact hlt
   have hx:=HI.out (nth st k) (nth_mem hkl)
   have HT:=Lib.hid (take_succ_nth st k hkl)
   obtain⟨x,hxl⟩:∃ x,nth st k=x:=⟨_,rfl⟩
   rw [hxl] at g1 g2 g3 g4 hx HT
   have hok:kyS.ok x.ky:=⟨hx.1,hx.2.1,hx.2.2.1⟩
   have S2:=Lib.hid (S.al #[.int .i64 x.s,.int .i64 x.r,.int .i64 x.v,.int .i64 x.d] 146 wr.heap.size rfl)
   have d1:(0:Int)≤k:=by omega
   have d2:(k:Int)<ns:=by omega
   clear hxl S hx hkl
   go_wp2_with (at_mapUpdate;go_must (refine wpList_update_sepK (K:=kyS) (E:=EB19) (P:=Tryz.prog) rfl _ _ _ _ rfl Tryz.underlying272 rfl S2.out 2 rfl (by omega) x.ky true rfl rfl hok ?_;intro w5 S' hg;have S5:=Lib.hid S';clear S' hg))
   go_roundw
   case rel=>exact⟨k+1,mm+1,_,by omega,by omega,by go_num,S5.out.pick [1,2] (by decide) rfl,by rw [HT.out];exact thereK_put x HF.out⟩
   case measure=>simp [intOf];omega
  ·obtain rfl:k=ns:=by omega
   rw [List.take_of_length_le (by rw [← L1.out];exact Nat.le_refl _)] at HF
   have HFF:=Lib.hid ((fresh_filt (M:=M) HF.out).trans HFM.out)
   have HC2:=Lib.hid (HC.out wr S.ext)
   have HCL:Hid ((combM M).length≤100000):=by
    unfold Hid
    have:=combM_len M
    have:=LM.out
    omega
   have SH:=Lib.hid S;clear S
   have HOK:Hid (∀ x∈combM M,kyS.ok x.ky):=fun x hx=>by
    have:=HJ.out x (combM_in hx)
    exact⟨this.1,this.2.1,this.2.2.1⟩
   obtain⟨C,hC⟩:∃ C,combM M=C:=⟨_,rfl⟩
   rw [hC] at HC2 HFF HCL HOK
   clear hC HC
   go_wp2_with (first
    | (go_at_call 207;go_must (refine HC2.out.mono ?_;rintro e w2 ⟨q,c2,rfl,Z⟩;have S2:=Lib.hid (SH.out.comp Z);have HD:=Lib.hid (DeleteFresh (w.heap.size+1) w.heap.size mm f q C.length c2 C w2 w S2.out HOK.out HCL.out);rw [HFF.out] at HD;clear Z))
    | (go_at_call 206;go_must (refine HD.out.mono ?_;rintro e w3 ⟨rfl,Z⟩;have S3:=Lib.hid Z;clear Z)))
   go_ret
   exact⟨q,c2,rfl,S3.out.pick [0] (by decide) rfl⟩
end
section
open Go Go.RowKit
theorem homeV_val {v:Int} {n:Nat} (hn:1≤n):(v*40503+12345) % 65536 % (n:Int)=(homeV v n:Int):=by
 unfold homeV
 have h3:0≤(v*40503+12345) % 65536 % (n:Int):=Int.emod_nonneg _ (by omega)
 omega
theorem HomeG (v:Int) (n:Nat) (w:World) (h0:0≤v) (h1:v≤1000000) (hn:1≤n) (h16:n≤16) :
  Calls Tryz.prog 50 #[.int .i64 v,.int .i64 n] w fun e w'=>e=.returned (.tuple #[.int .i64 (homeV v n),.bool true])∧w=w':=by
 have E1:=Lib.hid (homeV_val (v:=v) hn)
 have d1:(1:Int)≤(n:Int):=by omega
 have d2:(n:Int)≤16:=by omega
 have c1:decide (v<0)=false:=by simpa using h0
 have c2:decide (1000000<v)=false:=by simpa using h1
 have c3:decide ((n:Int)<1)=false:=by simpa using d1
 have c4:decide (16<(n:Int))=false:=by simpa using d2
 go_enter Tryz.func50,Tryz.ntmps50
 go_wp2
 go_ret2
 refine⟨?_,rfl⟩
 show Ending.returned (.tuple #[.int .i64 ((v*40503+12345) % 65536 % (n:Int)),.bool true])=_
 rw [E1.out]
theorem HomeNo (v n:Int) (w:World) (h:¬ (0≤v∧v≤1000000∧1≤n∧n≤16)) :
  Calls Tryz.prog 50 #[.int .i64 v,.int .i64 n] w fun e w'=>e=.returned (.tuple #[.int .i64 0,.bool false])∧w=w':=by
 by_cases a1:v<0
 ·have c1:decide (v<0)=true:=by simpa using a1
  clear h
  go_enter Tryz.func50,Tryz.ntmps50
  go_wp2
  go_ret2
  exact⟨rfl,rfl⟩
 ·have c1:decide (v<0)=false:=by simpa using a1
  by_cases a2:1000000<v
  ·have c2:decide (1000000<v)=true:=by simpa using a2
   clear h
   go_enter Tryz.func50,Tryz.ntmps50
   go_wp2
   go_ret2
   exact⟨rfl,rfl⟩
  ·have c2:decide (1000000<v)=false:=by simpa using a2
   by_cases a3:n<1
   ·have c3:decide (n<1)=true:=by simpa using a3
    clear h
    go_enter Tryz.func50,Tryz.ntmps50
    go_wp2
    go_ret2
    exact⟨rfl,rfl⟩
   ·have c3:decide (n<1)=false:=by simpa using a3
    have c4:decide (16<n)=true:=by simp;omega
    clear h
    go_enter Tryz.func50,Tryz.ntmps50
    go_wp2
    go_ret2
    exact⟨rfl,rfl⟩
end
section
open Go Go.RowKit
structure R4 (w:World) (po:Option Addr) (no:Nat) (pt:Option Addr) (nt:Nat) (pr:Option Addr) (nr:Nat) (pv:Option Addr) (nv:Nat) (O T R V:List Int):Prop where
 o:Rd w 1 po no (encI O)
 t:Rd w 1 pt nt (encI T)
 r:Rd w 1 pr nr (encI R)
 v:Rd w 1 pv nv (encI V)
theorem R4.ext {w w':World} {po:Option Addr} {no:Nat} {pt:Option Addr} {nt:Nat} {pr:Option Addr} {nr:Nat} {pv:Option Addr} {nv:Nat} {O T R V:List Int} (h:R4 w po no pt nt pr nr pv nv O T R V) (he:Ext w w'):R4 w' po no pt nt pr nr pv nv O T R V:=⟨h.o.ext he,h.t.ext he,h.r.ext he,h.v.ext he⟩
end
section
open Go Go.RowKit
theorem open1G (po:Option Addr) (no co:Nat) (O:List Int) (pt:Option Addr) (nt ct:Nat) (T:List Int) (pr:Option Addr) (nr cr:Nat) (R:List Int) (pv:Option Addr) (nv cv:Nat) (V:List Int) (gr k:Nat) (w:World) (hO:Rd w 1 po no (encI O)) (hT:Rd w 1 pt nt (encI T)) (hok:OffOk O T) (hct:nt≤ct) (hk1:k+1<O.length) (hB:Blk w gr 27 #[.slice po no co,.slice pt nt ct,.slice pr nr cr,.slice pv nv cv]) :
  Calls Tryz.prog 177 #[.int .i64 k,.pointer (some ⟨gr,0,none⟩)] w fun e w'=>e=.returned (.slice (cutp pt ct (nth O k).toNat 1) (rowL O T k).length (ct - (nth O k).toNat))∧Ext w w':=by
 have _u:=(O,T,R,V)
 clear _u
 have na1:=hO.small
 have l1:=hO.nI
 have l2:=hT.nI
 have pA:=hO.ptr
 have q1:=hok.lo k (by omega)
 have q2:=hok.le k hk1
 have q3:=hok.hi (k+1) hk1
 have hrl:=rowL_len hok hk1
 have RL0:=hT.rowOf hok hct hk1
 have g1:=hO.cI (k:=k) (by omega)
 have g2:=hO.cI (k:=k+1) (by omega)
 have b0:=hB.cell 0
 have b1:=hB.cell 1
 have b2:=hB.cell 2
 have b3:=hB.cell 3
 have bz:=hB.lt
 obtain⟨a,ha⟩:∃ a:Nat,nth O k=(a:Int):=⟨(nth O k).toNat,by omega⟩
 obtain⟨c,hc⟩:∃ c:Nat,nth O (k+1)=(c:Int):=⟨(nth O (k+1)).toNat,by omega⟩
 rw [ha] at q1 q2 hrl RL0 g1
 rw [hc] at q2 q3 hrl RL0 g2
 simp only [Int.toNat_natCast] at hrl RL0
 have hq3:(c:Int)≤ct:=by omega
 have d1:(0:Int)≤k:=by omega
 have d2:(k:Int)<no:=by omega
 have d3:(0:Int)≤(k:Int)+1:=by omega
 have d4:(k:Int)+1<no:=by omega
 have RL:=Lib.hid RL0
 rw [hrl,ha,Int.toNat_natCast]
 clear hO hT hok ha hc hrl RL0 l1 l2 q3 hk1 hB
 go_enter Tryz.func177,Tryz.ntmps177
 go_wp2
 have y0:=fun x:ExtOf w=>x.ext.cell b0
 have y1:=fun x:ExtOf w=>x.ext.cell b1
 have y2:=fun x:ExtOf w=>x.ext.cell b2
 have y3:=fun x:ExtOf w=>x.ext.cell b3
 have x1:=fun x:ExtOf w=>x.ext.cell g1
 have x2:=fun x:ExtOf w=>x.ext.cell g2
 refine wp_region_ext (by kernel_rfl) (by kernel_rfl) ?_
 repeat (go_big_quiet_step ((fail)))
 refine wpQuiet_nil ?_
 rintro w1 ⟨⟨_,hb1⟩,rfl⟩
 go_wp2
 go_ret
 exact⟨rfl,hb1⟩
theorem open2G (po:Option Addr) (no co:Nat) (O:List Int) (pt:Option Addr) (nt ct:Nat) (T:List Int) (pr:Option Addr) (nr cr:Nat) (R:List Int) (pv:Option Addr) (nv cv:Nat) (V:List Int) (gr k:Nat) (w:World) (hO:Rd w 1 pr nr (encI R)) (hT:Rd w 1 pv nv (encI V)) (hok:OffOk R V) (hct:nv≤cv) (hk1:k+1<R.length) (hB:Blk w gr 27 #[.slice po no co,.slice pt nt ct,.slice pr nr cr,.slice pv nv cv]) :
  Calls Tryz.prog 178 #[.int .i64 k,.pointer (some ⟨gr,0,none⟩)] w fun e w'=>e=.returned (.slice (cutp pv cv (nth R k).toNat 1) (rowL R V k).length (cv - (nth R k).toNat))∧Ext w w':=by
 have _u:=(O,T,R,V)
 clear _u
 have na1:=hO.small
 have l1:=hO.nI
 have l2:=hT.nI
 have pA:=hO.ptr
 have q1:=hok.lo k (by omega)
 have q2:=hok.le k hk1
 have q3:=hok.hi (k+1) hk1
 have hrl:=rowL_len hok hk1
 have RL0:=hT.rowOf hok hct hk1
 have g1:=hO.cI (k:=k) (by omega)
 have g2:=hO.cI (k:=k+1) (by omega)
 have b0:=hB.cell 0
 have b1:=hB.cell 1
 have b2:=hB.cell 2
 have b3:=hB.cell 3
 have bz:=hB.lt
 obtain⟨a,ha⟩:∃ a:Nat,nth R k=(a:Int):=⟨(nth R k).toNat,by omega⟩
 obtain⟨c,hc⟩:∃ c:Nat,nth R (k+1)=(c:Int):=⟨(nth R (k+1)).toNat,by omega⟩
 rw [ha] at q1 q2 hrl RL0 g1
 rw [hc] at q2 q3 hrl RL0 g2
 simp only [Int.toNat_natCast] at hrl RL0
 have hq3:(c:Int)≤cv:=by omega
 have d1:(0:Int)≤k:=by omega
 have d2:(k:Int)<nr:=by omega
 have d3:(0:Int)≤(k:Int)+1:=by omega
 have d4:(k:Int)+1<nr:=by omega
 have RL:=Lib.hid RL0
 rw [hrl,ha,Int.toNat_natCast]
 clear hO hT hok ha hc hrl RL0 l1 l2 q3 hk1 hB
 go_enter Tryz.func178,Tryz.ntmps178
 go_wp2
 have y0:=fun x:ExtOf w=>x.ext.cell b0
 have y1:=fun x:ExtOf w=>x.ext.cell b1
 have y2:=fun x:ExtOf w=>x.ext.cell b2
 have y3:=fun x:ExtOf w=>x.ext.cell b3
 have x1:=fun x:ExtOf w=>x.ext.cell g1
 have x2:=fun x:ExtOf w=>x.ext.cell g2
 refine wp_region_ext (by kernel_rfl) (by kernel_rfl) ?_
 repeat (go_big_quiet_step ((fail)))
 refine wpQuiet_nil ?_
 rintro w1 ⟨⟨_,hb1⟩,rfl⟩
 go_wp2
 go_ret
 exact⟨rfl,hb1⟩
theorem open1Gr (po:Option Addr) (no co:Nat) (O:List Int) (pt:Option Addr) (nt ct:Nat) (T:List Int) (pr:Option Addr) (nr cr:Nat) (R:List Int) (pv:Option Addr) (nv cv:Nat) (V:List Int) (gr k:Nat) (w:World) (hO:Rd w 1 po no (encI O)) (hT:Rd w 1 pt nt (encI T)) (hok:OffOk O T) (hct:nt≤ct) (hk1:k+1<O.length) (hB:Blk w gr 27 #[.slice po no co,.slice pt nt ct,.slice pr nr cr,.slice pv nv cv]) :
  ∃ q c,Rd w 1 q (rowL O T k).length (encI (rowL O T k))∧∀ W,Ext w W→Calls Tryz.prog 177 #[.int .i64 k,.pointer (some ⟨gr,0,none⟩)] W fun e w'=>e=.returned (.slice q (rowL O T k).length c)∧Ext W w':=by
 refine⟨_,_,?_,fun W h=>open1G po no co O pt nt ct T pr nr cr R pv nv cv V gr k W (hO.ext h) (hT.ext h) hok hct hk1 (hB.ext h)⟩
 have:=hT.rowOf hok hct hk1
 rw [← rowL_len hok hk1] at this
 exact this
theorem open2Gr (po:Option Addr) (no co:Nat) (O:List Int) (pt:Option Addr) (nt ct:Nat) (T:List Int) (pr:Option Addr) (nr cr:Nat) (R:List Int) (pv:Option Addr) (nv cv:Nat) (V:List Int) (gr k:Nat) (w:World) (hO:Rd w 1 pr nr (encI R)) (hT:Rd w 1 pv nv (encI V)) (hok:OffOk R V) (hct:nv≤cv) (hk1:k+1<R.length) (hB:Blk w gr 27 #[.slice po no co,.slice pt nt ct,.slice pr nr cr,.slice pv nv cv]) :
  ∃ q c,Rd w 1 q (rowL R V k).length (encI (rowL R V k))∧∀ W,Ext w W→Calls Tryz.prog 178 #[.int .i64 k,.pointer (some ⟨gr,0,none⟩)] W fun e w'=>e=.returned (.slice q (rowL R V k).length c)∧Ext W w':=by
 refine⟨_,_,?_,fun W h=>open2G po no co O pt nt ct T pr nr cr R pv nv cv V gr k W (hO.ext h) (hT.ext h) hok hct hk1 (hB.ext h)⟩
 have:=hT.rowOf hok hct hk1
 rw [← rowL_len hok hk1] at this
 exact this
end
section
open Go Go.RowKit
theorem Sep.alrow {w0 w:World} {Γ:List Pc} (S:Sep w0 w Γ) (cs:Array Value) (e:TypeId) (size n g:Nat) (hg:w.heap.size=g) (hm:n≤maxLen) (hs:cs.size=n*size):Sep w0 (w.alloc (.cells cs e)) (.own e size (some ⟨g,0,none⟩) n n cs.toList :: Γ):=by
 subst hg
 exact S.fresh (Ext.alloc (Below.refl _ _) _) (World.ownsRow_lit w cs n (Nat.le_refl _) hm hs) (Nat.le_refl _)
theorem beginG (fid gr n s:Nat) (w:World) (hs:s<n) (hn:n≤200) :
  Calls Tryz.prog 179 #[.int .i64 n,.int .i64 s,.func (.func fid) #[] #[.pointer (some ⟨gr,0,none⟩)]] w fun e w'=>∃ g ql qf,e=.returned (.pointer (some ⟨g,0,none⟩)) ∧
   Sep w w' [.blk g 288 #[.func (.func fid) #[] #[.pointer (some ⟨gr,0,none⟩)],.slice ql n n,.slice qf 1 1],.own 3 1 qf 1 1 (encI [(s:Int)]),.own 3 1 ql n n (encI (bf0 n s))]:=by
 obtain⟨i0,hi0,hz0,hz1,hz2⟩:=info_parts infI
 go_enter Tryz.func179,Tryz.ntmps179
 go_wp2_with (at_make;go_must (refine wpList_make_sep rfl _ _ _ rfl 3 i0 _ 1 Tryz.underlying25 hi0 hz0 hz1 (n:Int) n rfl rfl rfl (by rw [hz2];omega) (by unfold maxLen;omega) (Sep.start w) ?_;intro w1 S';rw [made_encI] at S';have S1:=Lib.hid S';clear S'))
 generalize hql:(some ⟨w.heap.size,0,none⟩:Option Addr)=ql at *
 clear hql
 have S2:=Lib.hid ((S1.out.alrow #[.int .i64 (s:Int)] 3 1 1 w1.heap.size rfl (by decide) rfl).al #[.func (.func fid) #[] #[.pointer (some ⟨gr,0,none⟩)],.slice ql n n,.slice (some ⟨w1.heap.size,0,none⟩) 1 1] 288 (w1.heap.size+1) (by simp))
 clear S1
 go_loopw [8,21] (fun _ i wr=>∃ k:Nat,k≤n∧i=.int .i64 k∧Sep w wr [.blk (w1.heap.size+1) 288 #[.func (.func fid) #[] #[.pointer (some ⟨gr,0,none⟩)],.slice ql n n,.slice (some ⟨w1.heap.size,0,none⟩) 1 1],.own 3 1 (some ⟨w1.heap.size,0,none⟩) 1 1 (encI [(s:Int)]),.own 3 1 ql n n (encI (List.replicate k (-1) ++ List.replicate (n - k) 0))]) (fun _ i _=>n - (intOf i).toNat)
 case atStart=>exact⟨0,Nat.zero_le _,rfl,S2.out⟩
 case round =>
  clear S2
  obtain⟨k,hk,rfl,S⟩:=hrel
  obtain⟨az,a0,a1,a2⟩:=bklc0c1c2 (S.blk 0 rfl)
  have po:=(S.rd 2 rfl (by omega)).ptr
  have fz:=own_frozen (S.own 2 rfl) (by omega) k
  by_cases hlt:k<n
  ·have HS:=Lib.hid (rep_set hlt)
   have c1:=own_cell (S.own 2 rfl) (k:=k) (by omega)
   have d1:(0:Int)≤k:=by omega
   have d2:(k:Int)<n:=by omega
   have SH:=Lib.hid S;clear S
   go_wp2
   go_roundw
   case rel=>exact⟨k+1,by omega,by go_num,by rw [← HS.out,← encI_set];exact SH.out.setRow 2 rfl k (by omega) (.int .i64 (-1))⟩
   case measure=>simp [intOf];omega
  ·obtain rfl:k=n:=by omega
   rw [Nat.sub_self,List.replicate_zero,List.append_nil] at S
   have fz2:=own_frozen (S.own 2 rfl) (by omega) s
   have c2:=own_cell (S.own 2 rfl) (k:=s) (by omega)
   have d1:(0:Int)≤s:=by omega
   have d2:(s:Int)<k:=by omega
   have SH:=Lib.hid S;clear S
   clear fz
   go_wp2
   go_ret
   exact⟨_,ql,_,rfl,by unfold bf0;rw [← encI_set];exact SH.out.setRow 2 rfl s (by omega) (.int .i64 0)⟩
end
section
open Go Go.RowKit
theorem waysOut (po:Option Addr) (no co:Nat) (O:List Int) (pt:Option Addr) (nt ct:Nat) (T:List Int) (pr:Option Addr) (nr cr:Nat) (R:List Int) (pv:Option Addr) (nv cv:Nat) (V:List Int) (k:Nat) (w:World) (hO:Rd w 1 po no (encI O)) (hT:Rd w 1 pt nt (encI T)) (hok:OffOk O T) (hct:nt≤ct) (hk1:k+1<O.length) :
  Calls Tryz.prog 266 #[.agg #[.slice po no co,.slice pt nt ct,.slice pr nr cr,.slice pv nv cv],.int .i64 k] w fun e w'=>e=.returned (.slice (cutp pt ct (nth O k).toNat 1) (rowL O T k).length (ct - (nth O k).toNat))∧Ext w w':=by
 have _u:=(R,V)
 have S0:=Lib.hid ((Sep.start w).al #[.slice po no co,.slice pt nt ct,.slice pr nr cr,.slice pv nv cv] 243 w.heap.size rfl)
 have na1:=hO.small
 have l1:=hO.nI
 have l2:=hT.nI
 have pA:=hO.ptr
 have q1:=hok.lo k (by omega)
 have q2:=hok.le k hk1
 have q3:=hok.hi (k+1) hk1
 have hrl:=rowL_len hok hk1
 have RL0:=hT.rowOf hok hct hk1
 have g1:=hO.cI (k:=k) (by omega)
 have g2:=hO.cI (k:=k+1) (by omega)
 obtain⟨a,ha⟩:∃ a:Nat,nth O k=(a:Int):=⟨(nth O k).toNat,by omega⟩
 obtain⟨c,hc⟩:∃ c:Nat,nth O (k+1)=(c:Int):=⟨(nth O (k+1)).toNat,by omega⟩
 rw [ha] at q1 q2 hrl RL0 g1
 rw [hc] at q2 q3 hrl RL0 g2
 simp only [Int.toNat_natCast] at hrl RL0
 have hq3:(c:Int)≤ct:=by omega
 have d1:(0:Int)≤k:=by omega
 have d2:(k:Int)<no:=by omega
 have d3:(0:Int)≤(k:Int)+1:=by omega
 have d4:(k:Int)+1<no:=by omega
 have RL:=Lib.hid RL0
 rw [hrl,ha,Int.toNat_natCast]
 clear hO hT hok ha hc hrl RL0 l1 l2 q3 hk1
 go_enter Tryz.func266,Tryz.ntmps266
 go_wp2
 obtain⟨X,hX⟩:∃ X,X=w.alloc (.cells #[.slice po no co,.slice pt nt ct,.slice pr nr cr,.slice pv nv cv] 243):=⟨_,rfl⟩
 have SX:=Lib.hid (hX ▸ S0.out:Sep w X [.blk w.heap.size 243 #[.slice po no co,.slice pt nt ct,.slice pr nr cr,.slice pv nv cv]])
 rw [← hX]
 clear hX S0
 obtain⟨bz,b0,b1,b2,b3⟩:=bklc0c1c2c3 (SX.out.blk 0 rfl)
 replace g1:=SX.out.ext.cell g1
 replace g2:=SX.out.ext.cell g2
 have y0:=fun x:ExtOf X=>x.ext.cell b0
 have y1:=fun x:ExtOf X=>x.ext.cell b1
 have y2:=fun x:ExtOf X=>x.ext.cell b2
 have y3:=fun x:ExtOf X=>x.ext.cell b3
 have x1:=fun x:ExtOf X=>x.ext.cell g1
 have x2:=fun x:ExtOf X=>x.ext.cell g2
 refine wp_region_ext (by kernel_rfl) (by kernel_rfl) ?_
 repeat (go_big_quiet_step ((fail)))
 refine wpQuiet_nil ?_
 rintro w1 ⟨⟨_,hb1⟩,rfl⟩
 go_wp2
 go_ret
 exact⟨rfl,Ext.trans SX.out.ext hb1⟩
theorem waysIn (po:Option Addr) (no co:Nat) (O:List Int) (pt:Option Addr) (nt ct:Nat) (T:List Int) (pr:Option Addr) (nr cr:Nat) (R:List Int) (pv:Option Addr) (nv cv:Nat) (V:List Int) (k:Nat) (w:World) (hO:Rd w 1 pr nr (encI R)) (hT:Rd w 1 pv nv (encI V)) (hok:OffOk R V) (hct:nv≤cv) (hk1:k+1<R.length) :
  Calls Tryz.prog 265 #[.agg #[.slice po no co,.slice pt nt ct,.slice pr nr cr,.slice pv nv cv],.int .i64 k] w fun e w'=>e=.returned (.slice (cutp pv cv (nth R k).toNat 1) (rowL R V k).length (cv - (nth R k).toNat))∧Ext w w':=by
 have _u:=(O,T)
 have S0:=Lib.hid ((Sep.start w).al #[.slice po no co,.slice pt nt ct,.slice pr nr cr,.slice pv nv cv] 243 w.heap.size rfl)
 have na1:=hO.small
 have l1:=hO.nI
 have l2:=hT.nI
 have pA:=hO.ptr
 have q1:=hok.lo k (by omega)
 have q2:=hok.le k hk1
 have q3:=hok.hi (k+1) hk1
 have hrl:=rowL_len hok hk1
 have RL0:=hT.rowOf hok hct hk1
 have g1:=hO.cI (k:=k) (by omega)
 have g2:=hO.cI (k:=k+1) (by omega)
 obtain⟨a,ha⟩:∃ a:Nat,nth R k=(a:Int):=⟨(nth R k).toNat,by omega⟩
 obtain⟨c,hc⟩:∃ c:Nat,nth R (k+1)=(c:Int):=⟨(nth R (k+1)).toNat,by omega⟩
 rw [ha] at q1 q2 hrl RL0 g1
 rw [hc] at q2 q3 hrl RL0 g2
 simp only [Int.toNat_natCast] at hrl RL0
 have hq3:(c:Int)≤cv:=by omega
 have d1:(0:Int)≤k:=by omega
 have d2:(k:Int)<nr:=by omega
 have d3:(0:Int)≤(k:Int)+1:=by omega
 have d4:(k:Int)+1<nr:=by omega
 have RL:=Lib.hid RL0
 rw [hrl,ha,Int.toNat_natCast]
 clear hO hT hok ha hc hrl RL0 l1 l2 q3 hk1
 go_enter Tryz.func265,Tryz.ntmps265
 go_wp2
 obtain⟨X,hX⟩:∃ X,X=w.alloc (.cells #[.slice po no co,.slice pt nt ct,.slice pr nr cr,.slice pv nv cv] 243):=⟨_,rfl⟩
 have SX:=Lib.hid (hX ▸ S0.out:Sep w X [.blk w.heap.size 243 #[.slice po no co,.slice pt nt ct,.slice pr nr cr,.slice pv nv cv]])
 rw [← hX]
 clear hX S0
 obtain⟨bz,b0,b1,b2,b3⟩:=bklc0c1c2c3 (SX.out.blk 0 rfl)
 replace g1:=SX.out.ext.cell g1
 replace g2:=SX.out.ext.cell g2
 have y0:=fun x:ExtOf X=>x.ext.cell b0
 have y1:=fun x:ExtOf X=>x.ext.cell b1
 have y2:=fun x:ExtOf X=>x.ext.cell b2
 have y3:=fun x:ExtOf X=>x.ext.cell b3
 have x1:=fun x:ExtOf X=>x.ext.cell g1
 have x2:=fun x:ExtOf X=>x.ext.cell g2
 refine wp_region_ext (by kernel_rfl) (by kernel_rfl) ?_
 repeat (go_big_quiet_step ((fail)))
 refine wpQuiet_nil ?_
 rintro w1 ⟨⟨_,hb1⟩,rfl⟩
 go_wp2
 go_ret
 exact⟨rfl,Ext.trans SX.out.ext hb1⟩
theorem waysSize (po:Option Addr) (no co:Nat) (pt:Option Addr) (nt ct:Nat) (pr:Option Addr) (nr cr:Nat) (pv:Option Addr) (nv cv:Nat) (w:World) (h:1≤no) (hn:no≤9223372036854775807) :
  Calls Tryz.prog 185 #[.agg #[.slice po no co,.slice pt nt ct,.slice pr nr cr,.slice pv nv cv]] w fun e w'=>e=.returned (.int .i64 ((no:Int) - 1))∧Ext w w':=by
 have S0:=Lib.hid ((Sep.start w).al #[.slice po no co,.slice pt nt ct,.slice pr nr cr,.slice pv nv cv] 243 w.heap.size rfl)
 go_enter Tryz.func185,Tryz.ntmps185
 go_wp2
 go_ret
 exact⟨rfl,S0.out.ext⟩
def nextV (back:Bool) (rv:Value):Value:=if back=true then .func (.func 265) #[rv] #[] else .func (.func 266) #[rv] #[]
theorem waysNext (po : Option Addr) (no co : Nat) (pt : Option Addr) (nt ct : Nat) (pr : Option Addr) (nr cr : Nat) (pv : Option Addr) (nv cv : Nat) (back : Bool) (w : World) :
    Calls Tryz.prog 228 #[.agg #[.slice po no co, .slice pt nt ct, .slice pr nr cr, .slice pv nv cv], .bool back] w fun e w' => e = .returned (nextV back (.agg #[.slice po no co, .slice pt nt ct, .slice pr nr cr, .slice pv nv cv])) ∧ Ext w w' := by
  have S0 := Lib.hid ((Sep.start w).al #[.slice po no co, .slice pt nt ct, .slice pr nr cr, .slice pv nv cv] 243 w.heap.size rfl)
  cases back <;>
  (go_enter Tryz.func228, Tryz.ntmps228
   go_wp2
   go_ret
   exact ⟨rfl, S0.out.ext⟩)
def openC (ck:Bool) (O:List Int) (l:List Int):Int:=if ck=true then (if l.all (fun x=>decide (0≤x) && decide (x<(O.length:Int) - 1))=true then 0 else 1) else 40
theorem openL (po:Option Addr) (no co:Nat) (O:List Int) (pt:Option Addr) (nt ct:Nat) (T:List Int) (pr:Option Addr) (nr cr:Nat) (R:List Int) (pv:Option Addr) (nv cv:Nat) (V:List Int) (p:Option Addr) (m c:Nat) (l:List Int) (w:World) (hO:Rd w 1 po no (encI O)) (hT:Rd w 1 pt nt (encI T)) (hR:Rd w 1 pr nr (encI R)) (hV:Rd w 1 pv nv (encI V)) (hct:nt≤ct) (hcv:nv≤cv) (hl:Rd w 1 p m (encI l)) :
  Calls Tryz.prog 183 #[.agg #[.slice po no co,.slice pt nt ct,.slice pr nr cr,.slice pv nv cv],.slice p m c] w fun e w'=>e=.returned (.tuple #[.agg #[.slice po no co,.slice pt nt ct,.slice pr nr cr,.slice pv nv cv],.int .i64 (openC (checkR O T R V) O l)])∧Ext w w':=by
 have S0:=Lib.hid ((((Sep.start w).al #[.slice po no co,.slice pt nt ct,.slice pr nr cr,.slice pv nv cv] 27 w.heap.size rfl).al #[.slice none 0 0,.slice none 0 0,.slice none 0 0,.slice none 0 0] 243 (w.heap.size+1) (by simp)).al #[.slice po no co,.slice pt nt ct,.slice pr nr cr,.slice pv nv cv] 243 (w.heap.size+1+1) (by simp))
 have HC:=Lib.hid (fun W1 (h:Ext w W1)=>CheckR po no co O pt nt ct T pr nr cr R pv nv cv V W1 (hO.ext h) (hT.ext h) (hR.ext h) (hV.ext h) hct hcv)
 have l1:=hO.nI
 have n1:=hO.small
 have p1:=hl.ptr
 have n2:=hl.small
 have L1:=Lib.hid hl.nI
 have HL:=Lib.hid hl;clear hl
 cases hck:checkR O T R V with
 | false =>
  rw [hck] at HC
  have HF:Hid (openC false O l=40):=rfl
  clear hO hT hR hV hck l1
  go_enter Tryz.func183,Tryz.ntmps183
  go_wp2_with (go_at_call 82;go_must (refine(HC.out _ S0.out.ext).mono ?_;rintro e w1 ⟨rfl,hb⟩;have S1:=Lib.hid (S0.out.call hb);obtain⟨vz,v0,v1,v2,v3⟩:=bklc0c1c2c3 (S1.out.blk 0 rfl);obtain⟨zz,z0,z1,z2,z3,zf0,zf1,zf2,zf3⟩:=bklc0c1c2c3z0z1z2z3 (S1.out.blk 1 rfl);clear hb))
  have S7:=(((S1.out.set 1 rfl 0 (.slice po no co)).set 1 rfl 1 (.slice pt nt ct)).set 1 rfl 2 (.slice pr nr cr)).set 1 rfl 3 (.slice pv nv cv)
  obtain⟨b0,b1,b2,b3⟩:=bkc0c1c2c3 (S7.blk 1 rfl)
  refine bodyPost_ret (v:=.tuple #[.agg #[.slice po no co,.slice pt nt ct,.slice pr nr cr,.slice pv nv cv],.int .i64 40]) (by simp [results,Tryz.results183,go_sem,b0,b1,b2,b3,Tryz.sizeOf243,Tryz.isAgg243]) rfl ⟨(by rw [HF.out]),S7.ext⟩
 | true =>
  rw [hck] at HC
  have r:=offB_parts (halfB_off (checkR_half hck).2.2.1)
  have hno1:1≤no:=by omega
  have LO:=Lib.hid l1
  have HSZ:=Lib.hid (fun W=>waysSize po no co pt nt ct pr nr cr pv nv cv W hno1 n1)
  clear hO hT hR hV hck l1 r
  go_enter Tryz.func183,Tryz.ntmps183
  go_wp2_with (go_at_call 82;go_must (refine(HC.out _ S0.out.ext).mono ?_;rintro e w1 ⟨rfl,hb⟩;have S1:=Lib.hid (S0.out.call hb);obtain⟨vz,v0,v1,v2,v3⟩:=bklc0c1c2c3 (S1.out.blk 0 rfl);obtain⟨zz,z0,z1,z2,z3,zf0,zf1,zf2,zf3⟩:=bklc0c1c2c3z0z1z2z3 (S1.out.blk 1 rfl);clear hb))
  go_loopw [8,17] (fun _ i wr=>∃ k:Nat,k≤m∧i=.int .i64 k∧Hid ((l.take k).all (fun x=>decide (0≤x) && decide (x<(O.length:Int) - 1))=true)∧Sep w wr [.blk (w.heap.size+1+1) 243 #[.slice po no co,.slice pt nt ct,.slice pr nr cr,.slice pv nv cv],.blk (w.heap.size+1) 243 #[.slice none 0 0,.slice none 0 0,.slice none 0 0,.slice none 0 0],.blk w.heap.size 27 #[.slice po no co,.slice pt nt ct,.slice pr nr cr,.slice pv nv cv]]) (fun _ i _=>m - (intOf i).toNat)
  case atStart=>exact⟨0,Nat.zero_le _,rfl,rfl,S1.out⟩
  case round =>
   clear S0 S1 v0 v1 v2 v3 vz z0 z1 z2 z3 zz zf0 zf1 zf2 zf3
   obtain⟨k,hk,rfl,ha,S⟩:=hrel
   obtain⟨vz,v0,v1,v2,v3⟩:=bklc0c1c2c3 (S.blk 0 rfl)
   obtain⟨zz,z0,z1,z2,z3⟩:=bklc0c1c2c3 (S.blk 1 rfl)
   obtain⟨zf0,zf1,zf2,zf3⟩:=bkz0z1z2z3 (S.blk 1 rfl)
   by_cases hlt:k<m
   ·have g1:=S.ext.cell (HL.out.cI hlt)
    have d1:(0:Int)≤k:=by omega
    have d2:(k:Int)<m:=by omega
    have hkL:k<l.length:=by rw [← L1.out];exact hlt
    obtain⟨x,hx⟩:∃ x,x=nth l k:=⟨_,rfl⟩
    rw [← hx] at g1
    have HX:=Lib.hid hx
    clear hx
    by_cases h1:x<0
    ·have e1:decide (x<0)=true:=by simpa using h1
     have HF:Hid (openC true O l=1):=by
      unfold Hid openC
      rw [if_pos rfl,if_neg]
      rw [all_false_at _ l k hkL (by rw [← HX.out];simp;omega)];simp
     clear h1
     have SH:=Lib.hid S;clear S
     go_wp2
     have S7:=(((SH.out.set 1 rfl 0 (.slice po no co)).set 1 rfl 1 (.slice pt nt ct)).set 1 rfl 2 (.slice pr nr cr)).set 1 rfl 3 (.slice pv nv cv)
     obtain⟨b0,b1,b2,b3⟩:=bkc0c1c2c3 (S7.blk 1 rfl)
     refine bodyPost_ret (v:=.tuple #[.agg #[.slice po no co,.slice pt nt ct,.slice pr nr cr,.slice pv nv cv],.int .i64 1]) (by simp [results,Tryz.results183,go_sem,b0,b1,b2,b3,Tryz.sizeOf243,Tryz.isAgg243]) rfl ⟨(by rw [HF.out]),S7.ext⟩
    ·have e1:decide (x<0)=false:=by simpa using h1
     by_cases h2:(no:Int) - 1≤x
     ·have e2:decide ((no:Int) - 1≤x)=true:=by simpa using h2
      have HF:Hid (openC true O l=1):=by
       unfold Hid openC
       rw [if_pos rfl,if_neg]
       have:=LO.out
       rw [all_false_at _ l k hkL (by rw [← HX.out];simp;omega)];simp
      clear h1 h2
      have SH:=Lib.hid S;clear S
      go_wp2_with (go_at_call 185;go_must (refine(HSZ.out _).mono ?_;rintro e w2 ⟨rfl,hb⟩;have S2:=Lib.hid (SH.out.call hb);obtain⟨tz,t0,t1,t2,t3⟩:=bklc0c1c2c3 (S2.out.blk 0 rfl);obtain⟨yz,y0,y1,y2,y3,yf0,yf1,yf2,yf3⟩:=bklc0c1c2c3z0z1z2z3 (S2.out.blk 1 rfl);clear hb))
      have S7:=(((S2.out.set 1 rfl 0 (.slice po no co)).set 1 rfl 1 (.slice pt nt ct)).set 1 rfl 2 (.slice pr nr cr)).set 1 rfl 3 (.slice pv nv cv)
      obtain⟨b0,b1,b2,b3⟩:=bkc0c1c2c3 (S7.blk 1 rfl)
      refine bodyPost_ret (v:=.tuple #[.agg #[.slice po no co,.slice pt nt ct,.slice pr nr cr,.slice pv nv cv],.int .i64 1]) (by simp [results,Tryz.results183,go_sem,b0,b1,b2,b3,Tryz.sizeOf243,Tryz.isAgg243]) rfl ⟨(by rw [HF.out]),S7.ext⟩
     ·have e2:decide ((no:Int) - 1≤x)=false:=by simpa using h2
      have HS:Hid ((l.take (k+1)).all (fun x=>decide (0≤x) && decide (x<(O.length:Int) - 1))=true):=by
       have:=LO.out
       exact all_step _ l k hkL ha.out (by rw [← HX.out];simp;omega)
      clear h1 h2 ha
      have SH:=Lib.hid S;clear S
      go_wp2_with (go_at_call 185;go_must (refine(HSZ.out _).mono ?_;rintro e w2 ⟨rfl,hb⟩;have S2:=Lib.hid (SH.out.call hb);clear hb))
      go_roundw
      case rel=>exact⟨k+1,by omega,by go_num,HS.out,S2.out⟩
      case measure=>simp [intOf];omega
   ·have HF:Hid (openC true O l=0):=by
     unfold Hid openC
     rw [if_pos rfl,if_pos (all_end _ l k (by rw [← L1.out];exact hlt) ha.out)]
    clear ha
    have SH:=Lib.hid S;clear S
    go_wp2
    have S7:=(((SH.out.set 1 rfl 0 (.slice po no co)).set 1 rfl 1 (.slice pt nt ct)).set 1 rfl 2 (.slice pr nr cr)).set 1 rfl 3 (.slice pv nv cv)
    obtain⟨b0,b1,b2,b3⟩:=bkc0c1c2c3 (S7.blk 1 rfl)
    refine bodyPost_ret (v:=.tuple #[.agg #[.slice po no co,.slice pt nt ct,.slice pr nr cr,.slice pv nv cv],.int .i64 0]) (by simp [results,Tryz.results183,go_sem,b0,b1,b2,b3,Tryz.sizeOf243,Tryz.isAgg243]) rfl ⟨(by rw [HF.out]),S7.ext⟩
end
section
open Go Go.RowKit
def FarFrom {β:Type} (B:Nat) (I:β→World→Prop):Prop :=
 ∀ s Z W W',B≤Z.heap.size→Below B Z W→Below B Z W'→I s W→I s W'
theorem FarFrom.below {β:Type} {B:Nat} {I:β→World→Prop} (h:FarFrom B I) {s:β} {W W':World} (hB:B≤W.heap.size) (hb:Below B W W') (hs:I s W):I s W':=h s W W W' hB (Below.refl _ _) hb hs
theorem FarFrom.putObj {β:Type} {B:Nat} {I:β→World→Prop} (h:FarFrom B I) {s:β} {W:World} {l:Nat} {o:Obj} (o':Obj) (hs:I s W) (hB:B≤l) (hl:W.heap[l]?=some o):I s (W.putObj l o') :=
 h.below (by have:=(Array.getElem?_eq_some_iff.1 hl).1;omega) ((Below.refl B W).grown (grownBy_putObj' W l o') (by have:=(Array.getElem?_eq_some_iff.1 hl).1;omega) (fun k e=>by cases e;exact hB)) hs
def SeqA {α:Type} (F:Fence) (n:Nat) (P:Program) (g:Nat) (lb:Array Value) (encs:α→Array Value) (A:α→World→Prop) (Kp:World→World→Prop) (S Sp:List α→Prop) (N:Nat) (w:World):Prop :=
 ∀ (l:Nat) (J Jx:List α→World→Prop) (W:World),Below w.heap.size w W→FarFrom W.heap.size J→FarFrom W.heap.size Jx →
  (∀ pre x V,J pre V→A x V→pre.length<N→YieldAt F (n - 1) P l (encs x) V fun e V' =>
   (e=.returned (.bool true)∧J (pre ++ [x]) V'∧Kp V V')∨(e=.returned (.bool false)∧Jx (pre ++ [x]) V')) →
  J [] W→CallsIn F n P g (#[.func (.yield l) #[] #[]] ++ lb) W fun e V=>(∃ v,e=.returned v)∧((∃ xs,S xs∧J xs V)∨(∃ pre,Sp pre∧Jx pre V))
section
variable {F:Fence} {n:Nat} {P:Program} {w:World}
theorem wpIn_rangeFunc_told {α:Type} {g:Operand} {ps:Array Tmp} {assign body:Code} {Q:Exit→Act→World→Prop} {a:Act}
  (hro:F.round=none) (h1:1≤n) {gf:Nat} {lb:Array Value} (hg:a.eval g=.func (.func gf) #[] lb) (hF:F.fn gf) (eg:∀ args w,(callFunc gf args).run P w=.ok (.enter gf args) w)
  {encs:α→Array Value} {A:α→World→Prop} {Kp:World→World→Prop} {S Sp:List α→Prop} {N:Nat} {w0:World} (hseq:SeqA F (n - 1) P gf lb encs A Kp S Sp N w0)
  (hKt:∀ {X Y Z:World},Kp X Y→Kp Y Z→Kp X Z) (hKb:∀ (W:World) (l:Nat) (o o':Obj),w.heap.size≤l→W.heap[l]?=some o→o.isCells=false→o.isWalk=false→Kp W (W.putObj l o')) (hb0:Below w0.heap.size w0 w) (hps:∀ x,(encs x).size=ps.size)
  (I:List α→World→Prop) (Ix:Code→List α→World→Prop) (hI:FarFrom w.heap.size I) (hIx:∀ c,FarFrom w.heap.size (Ix c)) (hA:OwnFrom w.heap.size A) (h0:I [] w) (a₁:α→Act)
  (hassign:∀ (l:Nat) (x:α) (W:World) (K:Act→World→Prop),K (a₁ x) W →
   assign.wpIn (F.inRound l) (n - 1 - 1) P (Exit.then K (fun _ _ _=>False)) { tmps:=(ps.zip (encs x)).foldl (fun t (p,v)=>t.setIfInBounds p v) a.tmps,defers:=[] } W)
  (hbody:∀ (l:Nat) (pre:List α) (x:α) (W:World),I pre W→A x W→pre.length<N→body.wpIn (F.inRound l) (n - 1 - 1) P (ownPostG w.heap.size Kp I Ix (pre ++ [x]) W) (a₁ x) W)
  (hdone:∀ (D:Nat) (xs:List α) (W:World),w.heap.size≤D→S xs→I xs W→W.heap[D]?=some (.deferred (some []))→Q .normal { a with defers:={ target:=.collected D,args:=#[] } :: a.defers } W)
  (hstop:∀ (D:Nat) (c:Code) (pre:List α) (W:World),w.heap.size≤D→Sp pre→Ix c pre W→W.heap[D]?=some (.deferred (some []))→c.wpIn F n P Q { a with defers:={ target:=.collected D,args:=#[] } :: a.defers } W) :
  (Code.rangeFunc g ps assign body).wpIn F n P Q a w:=by
 refine wpIn_rangeFunc fun fn hfn=>?_
 rw [hro]
 have hB:w.heap.size≤w.heap.size+1:=Nat.le_succ _
 obtain⟨mk,hmk⟩:∃ mk:LoopState→Option Code→Loop,mk=fun st pe=>{ state:=st,pending:=pe,fn,tmps:=a.tmps,params:=ps,assign,body,defers:=w.heap.size }:=⟨_,rfl⟩
 obtain⟨V,hV⟩:∃ V,(w.alloc (.deferred (some []))).alloc (.loop (mk .ready none))=V:=⟨_,rfl⟩
 have hVl:V.heap[w.heap.size+1]?=some (.loop (mk .ready none)):=by
  have h:=World.alloc_heap_new (w.alloc (.deferred (some []))) (.loop (mk .ready none))
  rw [World.size_alloc] at h
  rw [← hV];exact h
 have hVd:V.heap[w.heap.size]?=some (.deferred (some [])):=by
  rw [← hV];exact(Below.heap_alloc _ _ _ (by simp)).trans (World.alloc_heap_new w _)
 have hVb:Below w0.heap.size w0 V:=by
  rw [← hV];exact hb0.trans ((((Below.refl _ w).alloc (Nat.le_refl _) _).alloc (by simp) _).mono hb0.size)
 have hVs:w.heap.size≤V.heap.size:=by have:=(Array.getElem?_eq_some_iff.1 hVd).1;omega
 have hV0:I [] V:=by rw [← hV];exact hI.below (Nat.le_refl _) (((Below.refl _ w).alloc (Nat.le_refl _) _).alloc (by simp) _) h0
 have lV:w.heap.size+1<V.heap.size:=(Array.getElem?_eq_some_iff.1 hVl).1
 have keep:∀ {Z X Y:World} {k:Nat} {o:Obj},Below V.heap.size Z X→Below V.heap.size Z Y→k<V.heap.size→X.heap[k]?=some o→Y.heap[k]?=some o:=fun {Z X Y k o} h1 h2 hk hX=>(h2.block k hk).trans ((h1.block k hk).symm.trans hX)
 refine⟨w.heap.size+1,[{ target:=.collected w.heap.size,args:=#[] }],V,{ target:=.fn (.func gf) lb,args:=#[.func (.yield (w.heap.size+1)) #[] #[]] },V,gf,#[.func (.yield (w.heap.size+1)) #[] #[]] ++ lb,V,?_,?_,?_,?_,fun _=>h1,?_⟩
 ·rw [← hV,hmk];exact run_enterLoop_outer _ _ _ _ _
 ·simp only [resolve,hg];simp [go_sem]
 ·intro f' hf';simp [Target.leads] at hf';subst hf';exact hF
 ·simp [invoke,go_sem,eg]
 refine(hseq (w.heap.size+1)
  (fun pre W=>I pre W∧W.heap[w.heap.size+1]?=some (.loop (mk .ready none))∧W.heap[w.heap.size]?=some (.deferred (some [])))
  (fun pre W=>∃ c,Ix c pre W∧W.heap[w.heap.size+1]?=some (.loop (mk .done (some c)))∧W.heap[w.heap.size]?=some (.deferred (some []))) V hVb
  (fun s Z X Y hZ hx hy h=>⟨hI s Z X Y (Nat.le_trans hVs hZ) (hx.mono hVs) (hy.mono hVs) h.1,keep hx hy lV h.2.1,keep hx hy (by omega) h.2.2⟩)
  (fun s Z X Y hZ hx hy h=>h.elim fun c h=>⟨c,hIx c s Z X Y (Nat.le_trans hVs hZ) (hx.mono hVs) (hy.mono hVs) h.1,keep hx hy lV h.2.1,keep hx hy (by omega) h.2.2⟩)
  ?_ ⟨hV0,hVl,hVd⟩).mono ?_
 ·rintro pre x W ⟨hi,hl,hk⟩ hax hlen
  have hlt:w.heap.size+1<W.heap.size:=(Array.getElem?_eq_some_iff.1 hl).1
  have hy:=run_yield (P:=P) (args:=encs x) hl (by rw [hmk];exact hps x)
  rw [hmk] at hy
  refine⟨fn,_,assign,body,hy,roundIn_of_wpIn hfn (hassign _ x W _ ⟨_,run_beginRound hl (by rw [hmk]),?_⟩)⟩
  have l2:(W.putObj (w.heap.size+1) (.loop { mk .ready none with state:=.busy })).heap[w.heap.size+1]?=some (.loop { mk .ready none with state:=.busy }):=World.putObj_heap_same hlt
  have k2:(W.putObj (w.heap.size+1) (.loop { mk .ready none with state:=.busy })).heap[w.heap.size]?=some (.deferred (some [])):=(World.putObj_heap_other (by omega)).trans hk
  have p2:Kp W (W.putObj (w.heap.size+1) (.loop { mk .ready none with state:=.busy })):=hKb _ _ _ _ hB hl rfl rfl
  refine wpIn_mono (hbody _ pre x _ (hI.putObj _ hi hB hl) (hA.putObj _ hax hB hl rfl) hlen) ?_
  have fin:∀ (jump:Option Code) (X:World),KeepsFrom w.heap.size (W.putObj (w.heap.size+1) (.loop { mk .ready none with state:=.busy })) X →
    (Instr.endRound (w.heap.size+1) jump).run P X=.ok (.bool jump.isNone) (X.putObj (w.heap.size+1) (.loop (mk (if jump.isNone then .ready else .done) jump))) ∧
    X.heap[w.heap.size+1]?=some (.loop { mk .ready none with state:=.busy }) ∧
    (X.putObj (w.heap.size+1) (.loop (mk (if jump.isNone then .ready else .done) jump))).heap[w.heap.size+1]?=some (.loop (mk (if jump.isNone then .ready else .done) jump)) ∧
    (X.putObj (w.heap.size+1) (.loop (mk (if jump.isNone then .ready else .done) jump))).heap[w.heap.size]?=some (.deferred (some [])):=fun jump X hX=>by
   have l3:=hX.same _ _ hB l2 rfl
   have hr:=run_endRound (P:=P) jump l3
   rw [hmk] at hr l3 ⊢
   exact⟨hr,l3,World.putObj_heap_same (Array.getElem?_eq_some_iff.1 l3).1,(World.putObj_heap_other (by omega)).trans (hX.same _ _ (Nat.le_refl _) k2 rfl)⟩
  rintro e a3 X hp
  cases e with
  | normal =>
   obtain⟨hX,hkp,hi3⟩:=hp
   obtain⟨r1,r2,r3,r4⟩:=fin none X hX
   exact⟨_,_,r1,.inl ⟨rfl,⟨hI.putObj _ hi3 hB r2,r3,r4⟩,hKt (hKt p2 hkp) (hKb _ _ _ _ hB r2 rfl rfl)⟩⟩
  | ret =>
   obtain⟨r1,r2,r3,r4⟩:=fin (some .ret) X hp.1
   exact⟨_,_,r1,.inr ⟨rfl,.ret,(hIx _).putObj _ hp.2 hB r2,r3,r4⟩⟩
  | exit id =>
   obtain⟨r1,r2,r3,r4⟩:=fin (some (.exit id)) X hp.1
   exact⟨_,_,r1,.inr ⟨rfl,.exit id,(hIx _).putObj _ hp.2 hB r2,r3,r4⟩⟩
  | goto t =>
   obtain⟨r1,r2,r3,r4⟩:=fin (some (.goto t)) X hp.1
   exact⟨_,_,r1,.inr ⟨rfl,.goto t,(hIx _).putObj _ hp.2 hB r2,r3,r4⟩⟩
  | panic ch=>exact hp.elim
  | outgrown=>exact hp.elim
 ·rintro e X ⟨⟨v,rfl⟩,(⟨xs,hS,hi,hl,hk⟩ | ⟨pre,hSp,c,hi,hl,hk⟩)⟩
  ·have hr:=run_endLoop (P:=P) hl (by rw [hmk];simp)
   rw [hmk] at hr
   exact⟨none,_,hr,hdone _ xs _ (Nat.le_refl _) hS (hI.putObj _ hi hB hl) ((World.putObj_heap_other (by omega)).trans hk)⟩
  ·have hr:=run_endLoop (P:=P) hl (by rw [hmk];simp)
   rw [hmk] at hr
   exact⟨some c,_,hr,hstop _ c pre _ (Nat.le_refl _) hSp ((hIx c).putObj _ hi hB hl) ((World.putObj_heap_other (by omega)).trans hk)⟩
end
def cutW (B:Nat) (w:World):World:={ w with heap:=w.heap.extract 0 B }
theorem cutW_size {B:Nat} {w:World} (h:B≤w.heap.size):(cutW B w).heap.size=B:=by simp [cutW];omega
theorem cutW_below {B:Nat} {w:World} (h:B≤w.heap.size):Below B (cutW B w) w :=
 ⟨rfl,rfl,rfl,by rw [cutW_size h];exact h,fun k hk=>by
  show w.heap[k]?=(w.heap.extract 0 B)[k]?
  rw [Array.getElem?_extract]
  simp
  intro h2;omega⟩
theorem Sep.rebase {w0 w w':World} {Γ:List Pc} {B:Nat} (S:Sep w0 w Γ) (h0:w0.heap.size=B) (hB:B≤w'.heap.size) (hsame:∀ p∈Γ,∀ k,p.foot k→w'.heap[k]?=w.heap[k]?):Sep (cutW B w') w' Γ :=
 ⟨by rw [Ext,cutW_size hB];exact cutW_below hB,fun p hp=>p.loc w w' (S.all p hp) (hsame p hp),fun p hp k hk=>by rw [cutW_size hB,← h0];exact S.new p hp k hk,S.apart⟩
theorem Sep.far {w0 w w' Z:World} {Γ:List Pc} {B:Nat} (S:Sep w0 w Γ) (h0:w0.heap.size≤B) (hZ:B≤Z.heap.size) (h1:Below B Z w) (h2:Below B Z w') (hf:∀ p∈Γ,∀ k,p.foot k→k<B):Sep w0 w' Γ :=
 ⟨⟨h2.os.trans (h1.os.symm.trans S.ext.os),h2.tape.trans (h1.tape.symm.trans S.ext.tape),h2.output.trans (h1.output.symm.trans S.ext.output),by have:=h2.size;omega,fun k hk=>(h2.block k (by omega)).trans ((h1.block k (by omega)).symm.trans (S.ext.block k hk))⟩,
  fun p hp=>p.loc w w' (S.all p hp) fun k hk=>(h2.block k (hf p hp k hk)).trans (h1.block k (hf p hp k hk)).symm,S.new,S.apart⟩
end
section
open Go Go.RowKit
theorem frontsG (po:Option Addr) (no co:Nat) (pt:Option Addr) (nt ct:Nat) (pr:Option Addr) (nr cr:Nat) (pv:Option Addr) (nv cv:Nat) (s:Int) (back:Bool) (w:World) :
  Calls Tryz.prog 186 #[.agg #[.slice po no co,.slice pt nt ct,.slice pr nr cr,.slice pv nv cv],.int .i64 s,.bool back] w fun e w'=>∃ b1 b2 b3,e=.returned (.func (.func 229) #[] #[.pointer (some ⟨b1,0,none⟩),.pointer (some ⟨b2,0,none⟩),.pointer (some ⟨b3,0,none⟩)]) ∧
   Sep w w' [.blk b3 128 #[nextV back (.agg #[.slice po no co,.slice pt nt ct,.slice pr nr cr,.slice pv nv cv])],.blk b2 3 #[.int .i64 s],.blk b1 243 #[.slice po no co,.slice pt nt ct,.slice pr nr cr,.slice pv nv cv]]:=by
 have S0:=Lib.hid (((Sep.start w).al #[.slice po no co,.slice pt nt ct,.slice pr nr cr,.slice pv nv cv] 243 w.heap.size rfl).al #[.int .i64 s] 3 (w.heap.size+1) (by simp))
 cases back with
 | false =>
  have HN:Hid (∀ W,Calls Tryz.prog 228 #[.agg #[.slice po no co,.slice pt nt ct,.slice pr nr cr,.slice pv nv cv],.bool false] W fun e w'=>e=.returned (.func (.func 266) #[.agg #[.slice po no co,.slice pt nt ct,.slice pr nr cr,.slice pv nv cv]] #[])∧Ext W w'):=fun W=>waysNext po no co pt nt ct pr nr cr pv nv cv false W
  go_enter Tryz.func186,Tryz.ntmps186
  go_wp2_with (go_at_call 228;go_must (refine(HN.out _).mono ?_;rintro e w1 ⟨rfl,hb⟩;have S1:=Lib.hid (S0.out.call hb);clear hb))
  go_ret
  exact⟨_,_,_,rfl,S1.out.al #[.func (.func 266) #[.agg #[.slice po no co,.slice pt nt ct,.slice pr nr cr,.slice pv nv cv]] #[]] 128 w1.heap.size rfl⟩
 | true =>
  have HN:Hid (∀ W,Calls Tryz.prog 228 #[.agg #[.slice po no co,.slice pt nt ct,.slice pr nr cr,.slice pv nv cv],.bool true] W fun e w'=>e=.returned (.func (.func 265) #[.agg #[.slice po no co,.slice pt nt ct,.slice pr nr cr,.slice pv nv cv]] #[])∧Ext W w'):=fun W=>waysNext po no co pt nt ct pr nr cr pv nv cv true W
  go_enter Tryz.func186,Tryz.ntmps186
  go_wp2_with (go_at_call 228;go_must (refine(HN.out _).mono ?_;rintro e w1 ⟨rfl,hb⟩;have S1:=Lib.hid (S0.out.call hb);clear hb))
  go_ret
  exact⟨_,_,_,rfl,S1.out.al #[.func (.func 265) #[.agg #[.slice po no co,.slice pt nt ct,.slice pr nr cr,.slice pv nv cv]] #[]] 128 w1.heap.size rfl⟩
structure KpF (n₀ B b1 b2 b3:Nat) (W W':World):Prop where
 low:Below n₀ W W'
 x1:W'.heap[b1]?=W.heap[b1]?
 x2:W'.heap[b2]?=W.heap[b2]?
 x3:W'.heap[b3]?=W.heap[b3]?
 up:∀ (k:Nat) (o:Obj),B≤k→W.heap[k]?=some o→o.isCells=true→W'.heap[k]?=some o
theorem KpF.trans {n₀ B b1 b2 b3:Nat} {X Y Z:World} (h:KpF n₀ B b1 b2 b3 X Y) (k:KpF n₀ B b1 b2 b3 Y Z):KpF n₀ B b1 b2 b3 X Z :=
 ⟨h.low.trans k.low,k.x1.trans h.x1,k.x2.trans h.x2,k.x3.trans h.x3,fun i o hB h1 h2=>k.up i o hB (h.up i o hB h1 h2) h2⟩
structure Yl where
 k:Nat
 F:List Int
 q:Option Addr
 c:Nat
abbrev YlOf (nx:Nat→List Int) (n s:Nat):={ x:Yl // IsFront (lev nx n s) n x.k x.F∧0<x.F.length }
def ylA {nx:Nat→List Int} {n s:Nat} (B:Nat) (x:YlOf nx n s) (W:World):Prop:=Rd W 1 x.1.q x.1.F.length (encI x.1.F)∧B≤(adr x.1.q 0).block
def ylE {nx:Nat→List Int} {n s:Nat} (x:YlOf nx n s):Array Value:=#[.int .i64 x.1.k,.slice x.1.q x.1.F.length x.1.c]
def ylS {nx:Nat→List Int} {n s:Nat} (xs:List (YlOf nx n s)):Prop:=xs.map (·.1.k)=List.range xs.length∧hasL n (lev nx n s) xs.length=false
def seenL (X l:List Int) (n:Nat):List Value:=(List.range n).map fun v=>.bool (decide (0≤nth X v) || decide ((v:Int)∈l))
theorem seenL_at {X l:List Int} {n v:Nat} (h:v<n):(seenL X l n)[v]?=some (.bool (decide (0≤nth X v) || decide ((v:Int)∈l))):=by
 simp [seenL,h]
theorem seenL_set {X l:List Int} {n v:Nat} (_:v<n):(seenL X l n).set v (.bool true)=seenL X (l ++ [(v:Int)]) n:=by
 apply List.ext_getElem
 ·simp [seenL]
 ·intro j h1 h2
  have hj:j<n:=by simpa [seenL] using h2
  simp only [seenL,List.getElem_set,List.getElem_map,List.getElem_range]
  by_cases e:v=j
  ·subst e;simp
  ·rw [if_neg e]
   have:((j:Int)∈l ++ [(v:Int)])↔(j:Int)∈l:=by
    rw [List.mem_append,List.mem_singleton]
    constructor
    ·rintro(h | h)
     ·exact h
     ·omega
    ·exact .inl
   simp only [this]
theorem seenL_next {nx:Nat→List Int} {n s k:Nat} {L:List Int} (hL:IsFront (lev nx n s) n ((k+1:Nat):Int) L):seenL (cutL (lev nx n s) n k) L n=seenL (cutL (lev nx n s) n (k+1:Nat)) [] n:=by
 unfold seenL
 apply List.map_congr_left
 intro v hv
 rw [List.mem_range] at hv
 rw [cutL_nth hv,cutL_nth hv]
 congr 1
 rw [Bool.eq_iff_iff]
 simp only [Bool.or_eq_true,decide_eq_true_eq,cut_ge,List.not_mem_nil,or_false]
 rw [hL.2]
 simp
 omega
theorem seenL_0 {nx:Nat→List Int} {n s:Nat} (hs:s<n):(List.replicate n (Value.bool false)).set s (.bool true)=seenL (cutL (lev nx n s) n (0:Nat)) [] n:=by
 apply List.ext_getElem
 ·simp [seenL]
 ·intro j h1 h2
  have hj:j<n:=by simpa [seenL] using h2
  simp only [seenL,List.getElem_set,List.getElem_map,List.getElem_range,List.getElem_replicate]
  rw [cutL_nth hj]
  have h0:=(lev_ok nx n s hs).zero j hj
  by_cases e:s=j
  ·rw [if_pos e]
   have:0≤cut (lev nx n s) ((0:Nat):Int) j:=cut_ge.2 (by have:=h0.2 e.symm;omega)
   simpa using this
  ·rw [if_neg e]
   have:¬ 0≤cut (lev nx n s) ((0:Nat):Int) j:=fun h=>by
    have h1:=cut_ge.1 h
    exact e (h0.1 (by omega)).symm
   simpa using this
end
section
open Go Go.RowKit
def ballP {nx:Nat→List Int} {n s:Nat} (xs:List (YlOf nx n s)):List Int:=xs.flatMap fun x=>x.1.F
end
section
open Go Go.RowKit
def pushW (s:List Bool × List Int) (w:Int):List Bool × List Int:=if nth s.1 w.toNat=true then s else (s.1.set w.toNat true,s.2 ++ [w])
def rowW (s:List Bool × List Int) (l:List Int):List Bool × List Int:=l.foldl pushW s
theorem snoc_ind {α:Type} {p:List α→Prop} (nil:p []) (snoc:∀ l x,p l→p (l ++ [x])) (l:List α):p l:=by
 have h:∀ m:List α,p m.reverse:=fun m=>by
  induction m with
  | nil=>exact nil
  | cons a m ih=>rw [List.reverse_cons];exact snoc _ _ ih
 have:=h l.reverse
 rwa [List.reverse_reverse] at this
abbrev SrT:=List (List (Int × Int))
abbrev SrS:=List Bool × List Int × SrT
def visitW (nx:Nat→List Int) (near:List (Int × Int)→Int→Bool) (h d:Int) (s:SrS) (v:Int):SrS :=
 if near (nth s.2.2 v.toNat) d=true then s else
  ((rowW (s.1,s.2.1) (nx v.toNat)).1,(rowW (s.1,s.2.1) (nx v.toNat)).2,s.2.2.set v.toNat (nth s.2.2 v.toNat ++ [(h,d)]))
def levelW (nx:Nat→List Int) (near:List (Int × Int)→Int→Bool) (h d:Int) (S:List Bool) (T:SrT) (F:List Int):SrS:=F.foldl (visitW nx near h d) (S,[],T)
theorem rowW_snoc (s:List Bool × List Int) (l:List Int) (w:Int):rowW s (l ++ [w])=pushW (rowW s l) w:=by simp [rowW]
theorem levelW_snoc (nx:Nat→List Int) (near:List (Int × Int)→Int→Bool) (h d:Int) (S:List Bool) (T:SrT) (F:List Int) (v:Int):levelW nx near h d S T (F ++ [v])=visitW nx near h d (levelW nx near h d S T F) v:=by simp [levelW]
theorem nth_setB (S:List Bool) {i:Nat} (j:Nat) (hi:i<S.length):nth (S.set i true) j=(nth S j || decide (i=j)):=by
 unfold nth
 rw [List.getD_eq_getElem?_getD,List.getD_eq_getElem?_getD,List.getElem?_set]
 by_cases e:i=j
 ·subst e;simp [hi]
 ·simp [e]
structure RowW (S:List Bool) (A l:List Int) (S':List Bool) (A':List Int):Prop where
 len:S'.length=S.length
 seen:∀ w:Nat,nth S' w=true↔nth S w=true∨(w:Int)∈l
 new:∃ B:List Int,A'=A ++ B∧B.Nodup∧(∀ x∈B,∃ w:Nat,x=w∧w<S.length∧nth S w=false∧(w:Int)∈l)∧S'.count false+B.length=S.count false∧(∀ w:Nat,nth S w=false→nth S' w=true→(w:Int)∈B)
theorem count_set {S:List Bool} {i:Nat} (hi:i<S.length) (h:nth S i=false):(S.set i true).count false+1=S.count false:=by
 rw [List.count_set hi]
 rw [nth_eq hi] at h
 have:0<S.count false:=List.count_pos_iff.2 (by rw [← h];exact List.getElem_mem _)
 rw [h];simp;omega
theorem rowW_ok {S:List Bool} (A:List Int):∀ {l:List Int},(∀ x∈l,∃ w:Nat,x=w∧w<S.length)→RowW S A l (rowW (S,A) l).1 (rowW (S,A) l).2:=by
 intro l
 induction l using snoc_ind with
 | nil=>intro _;exact⟨rfl,fun w=>by simp [rowW],[],by simp [rowW],List.nodup_nil,fun x hx=>(nomatch hx),rfl,fun w h1 h2=>by simp [rowW] at h2;rw [h1] at h2;cases h2⟩
 | snoc l x ih =>
  intro hl
  have ih:=ih fun y hy=>hl y (List.mem_append_left _ hy)
  obtain⟨w,rfl,hw⟩:=hl x (by simp)
  rw [rowW_snoc]
  generalize rowW (S,A) l=r at *
  obtain⟨S1,A1⟩:=r
  obtain⟨i1,i2,B,i3,i4,i5,i6,i7⟩:=ih
  simp only at i1 i2 i3 i6 i7
  unfold pushW
  simp only [Int.toNat_natCast]
  by_cases hs:nth S1 w=true
  ·rw [if_pos hs]
   refine⟨i1,fun u=>?_,B,i3,i4,fun y hy=>?_,i6,i7⟩
   ·simp only;rw [i2 u,List.mem_append,List.mem_singleton]
    constructor
    ·rintro(h | h)
     ·exact .inl h
     ·exact .inr (.inl h)
    ·rintro(h | h | h)
     ·exact .inl h
     ·exact .inr h
     ·have:u=w:=by omega
      subst this;exact(i2 u).1 hs
   ·obtain⟨u,h1,h2,h3,h4⟩:=i5 y hy
    exact⟨u,h1,h2,h3,List.mem_append_left _ h4⟩
  ·rw [if_neg hs]
   have hs':nth S1 w=false:=by simpa using hs
   have hsS:nth S w=false:=by
    cases h:nth S w with
    | false=>rfl
    | true=>exact absurd ((i2 w).2 (.inl h)) hs
   have hlw:(w:Int) ∉ l:=fun h=>hs ((i2 w).2 (.inr h))
   refine⟨by simp only;rw [List.length_set];exact i1,fun u=>?_,B ++ [(w:Int)],by simp only;rw [i3,List.append_assoc],?_,fun y hy=>?_,?_,fun u h1 h2=>?_⟩
   ·simp only
    rw [nth_setB _ _ (by omega),Bool.or_eq_true,decide_eq_true_eq,i2 u,List.mem_append,List.mem_singleton]
    constructor
    ·rintro((h | h) | h)
     ·exact .inl h
     ·exact .inr (.inl h)
     ·exact .inr (.inr (by omega))
    ·rintro(h | h | h)
     ·exact .inl (.inl h)
     ·exact .inl (.inr h)
     ·exact .inr (by omega)
   ·rw [List.nodup_append]
    refine⟨i4,by simp,fun a ha b hb e=>?_⟩
    rw [List.mem_singleton] at hb;subst hb;subst e
    obtain⟨u,h1,_,_,h4⟩:=i5 _ ha
    exact hlw (by rw [h1];exact h4)
   ·rcases List.mem_append.1 hy with hy | hy
    ·obtain⟨u,h1,h2,h3,h4⟩:=i5 y hy
     exact⟨u,h1,h2,h3,List.mem_append_left _ h4⟩
    ·rw [List.mem_singleton] at hy
     exact⟨w,hy,hw,hsS,by simp⟩
   ·simp only
    have:=count_set (by omega) hs'
    rw [List.length_append,List.length_singleton];omega
   ·simp only at h2
    rw [nth_setB _ _ (by omega),Bool.or_eq_true,decide_eq_true_eq] at h2
    rcases h2 with h2 | h2
    ·exact List.mem_append_left _ (i7 u h1 h2)
    ·subst h2;simp
structure SrW (nx:Nat→List Int) (near:List (Int × Int)→Int→Bool) (n h:Nat) (T0:SrT) (good:Nat→Bool) (dd:Nat→Int):Prop where
 hh:h<n
 len:T0.length=n
 lev:LevOk nx n h dd
 inr:∀ v,v<n→∀ x∈nx v,∃ w:Nat,x=w∧w<n
 yes:∀ v,v<n→good v=true→near (nth T0 v) (dd v)=false
 no:∀ v d,v<n→good v=false→0≤dd v→dd v≤d→near (nth T0 v) d=true
 ge:∀ v,v<n→good v=true→0≤dd v
 back:∀ v,v<n→good v=true→0<dd v→∃ u,u<n∧good u=true∧dd u=dd v - 1∧(v:Int)∈nx u
def toldW (h:Nat) (T0:SrT) (good:Nat→Bool) (dd:Nat→Int) (v:Nat):List (Int × Int):=if good v=true then nth T0 v ++ [((h:Int),dd v)] else nth T0 v
structure SInv (nx:Nat→List Int) (n h:Nat) (T0:SrT) (good:Nat→Bool) (dd:Nat→Int) (d:Int) (S:List Bool) (T:SrT) (F:List Int):Prop where
 lenS:S.length=n
 lenT:T.length=n
 h0:nth S h=true
 nd:F.Nodup
 front:∀ x∈F,∃ v:Nat,x=v∧v<n∧nth S v=true∧nth T v=nth T0 v∧0≤dd v∧dd v≤d∧(good v=true→dd v=d)
 past:∀ v:Nat,v<n→nth S v=true→(v:Int) ∉ F→nth T v=toldW h T0 good dd v∧(good v=true→∀ w:Nat,(w:Int)∈nx v→nth S w=true)
 new:∀ v,v<n→nth S v=false→nth T v=nth T0 v∧(good v=true→d<dd v)
 bd:d+S.count false+(if F=[] then 0 else 1)≤n
 d0:0≤d
section
variable {nx:Nat→List Int} {near:List (Int × Int)→Int→Bool} {n h:Nat} {T0:SrT} {good:Nat→Bool} {dd:Nat→Int}
theorem SInv.start (H:SrW nx near n h T0 good dd):SInv nx n h T0 good dd 0 ((List.replicate n false).set h true) T0 [(h:Int)]:=by
 have hh:=H.hh
 have hz:dd h=0:=(H.lev.zero h hh).2 rfl
 have hs:∀ v,nth ((List.replicate n false).set h true) v=decide (h=v):=fun v=>by
  rw [nth_setB _ _ (by simpa using hh)]
  have:nth (List.replicate n false) v=false:=by
   unfold nth
   rw [List.getD_eq_getElem?_getD,List.getElem?_replicate]
   by_cases e:v<n <;> simp [e]
  rw [this,Bool.false_or]
 refine⟨by simp,H.len,by rw [hs];simp,by simp,fun x hx=>?_,fun v hv h1 h2=>?_,fun v hv h1=>⟨rfl,fun hg=>?_⟩,?_,by omega⟩
 ·rw [List.mem_singleton] at hx
  exact⟨h,hx,hh,by rw [hs];simp,rfl,by omega,by omega,fun _=>hz⟩
 ·rw [hs,decide_eq_true_eq] at h1
  subst h1;simp at h2
 ·rw [hs,decide_eq_false_iff_not] at h1
  have h3:=H.ge v hv hg
  have h4:¬ dd v=0:=fun e=>h1 ((H.lev.zero v hv).1 e).symm
  omega
 ·have h1:nth (List.replicate n false) h=false:=by rw [nth_eq (by simpa using hh)];simp
  have h2:=count_set (S:=List.replicate n false) (by simpa using hh) h1
  rw [List.count_replicate_self] at h2
  rw [if_neg (by simp)];omega
structure MInv (nx:Nat→List Int) (n h:Nat) (good:Nat→Bool) (d:Int) (S:List Bool) (T:SrT) (P:List Int) (r:SrS):Prop where
 lenS:r.1.length=n
 lenT:r.2.2.length=n
 seen:∀ w:Nat,nth r.1 w=true↔nth S w=true∨∃ v:Nat,(v:Int)∈P∧good v=true∧(w:Int)∈nx v
 tab:∀ v:Nat,v<n→nth r.2.2 v=if (v:Int)∈P∧good v=true then nth T v ++ [((h:Int),d)] else nth T v
 nd:r.2.1.Nodup
 ahead:∀ x∈r.2.1,∃ w:Nat,x=w∧w<n∧nth S w=false∧∃ v:Nat,(v:Int)∈P∧good v=true∧(w:Int)∈nx v
 all:∀ w:Nat,nth S w=false→nth r.1 w=true→(w:Int)∈r.2.1
 cnt:r.1.count false+r.2.1.length=S.count false
theorem nth_setT (T:SrT) {i:Nat} (j:Nat) (x:List (Int × Int)) (hi:i<T.length):nth (T.set i x) j=if i=j then x else nth T j:=by
 unfold nth
 rw [List.getD_eq_getElem?_getD,List.getD_eq_getElem?_getD,List.getElem?_set]
 by_cases e:i=j
 ·subst e;simp [hi]
 ·simp [e]
theorem MInv.run (H:SrW nx near n h T0 good dd) {d:Int} {S:List Bool} {T:SrT} {F:List Int} (I:SInv nx n h T0 good dd d S T F):∀ P,(∃ Q,F=P ++ Q)→MInv nx n h good d S T P (levelW nx near h d S T P):=by
 intro P
 induction P using snoc_ind with
 | nil=>intro _;exact⟨I.lenS,I.lenT,fun w=>by simp [levelW],fun v hv=>by simp [levelW],by simp [levelW],fun x hx=>by simp [levelW] at hx,fun w h1 h2=>(by simp [levelW] at h2;rw [h1] at h2;cases h2),by simp [levelW]⟩
 | snoc P x ih =>
  rintro⟨Q,hQ⟩
  have ih:=ih ⟨x :: Q,by rw [hQ];simp⟩
  rw [levelW_snoc]
  generalize levelW nx near h d S T P=r at *
  obtain⟨S1,A1,T1⟩:=r
  obtain⟨m1,m2,m3,m4,m5,m6,m7,m8⟩:=ih
  simp only at m1 m2 m3 m4 m5 m6 m7 m8
  obtain⟨v,rfl,hv,v1,v2,v3,v4,v5⟩:=I.front x (by rw [hQ];simp)
  have hvP:(v:Int) ∉ P:=by
   have:=I.nd
   rw [hQ,List.nodup_append] at this
   have:=(List.nodup_append.1 this.1).2.2
   exact fun hp=>this _ hp _ (by simp) rfl
  have hTv:nth T1 v=nth T0 v:=by rw [m4 v hv,if_neg fun hc=>hvP hc.1,v2]
  unfold visitW
  simp only [Int.toNat_natCast]
  rw [hTv]
  cases hg:good v with
  | false =>
   rw [if_pos (H.no v d hv hg v3 v4)]
   have key:∀ (p:Nat→Prop),(∃ u:Nat,(u:Int)∈P ++ [(v:Int)]∧good u=true∧p u)↔∃ u:Nat,(u:Int)∈P∧good u=true∧p u:=fun p=>by
    constructor
    ·rintro⟨u,h1,h2,h3⟩
     rcases List.mem_append.1 h1 with h1 | h1
     ·exact⟨u,h1,h2,h3⟩
     ·rw [List.mem_singleton] at h1
      have:u=v:=by omega
      subst this;rw [hg] at h2;cases h2
    ·rintro⟨u,h1,h2⟩;exact⟨u,List.mem_append_left _ h1,h2⟩
   refine⟨m1,m2,fun w=>by simp only;rw [m3 w,key],fun u hu=>?_,m5,fun y hy=>?_,m7,m8⟩
   ·simp only
    rw [m4 u hu]
    by_cases e:(u:Int)∈P∧good u=true
    ·rw [if_pos e,if_pos ⟨List.mem_append_left _ e.1,e.2⟩]
    ·rw [if_neg e,if_neg]
     rintro⟨h1,h2⟩
     rcases List.mem_append.1 h1 with h1 | h1
     ·exact e ⟨h1,h2⟩
     ·rw [List.mem_singleton] at h1
      have:u=v:=by omega
      subst this;rw [hg] at h2;cases h2
   ·obtain⟨w,h1,h2,h3,h4⟩:=m6 y hy
    exact⟨w,h1,h2,h3,(key _).2 h4⟩
  | true =>
   have hdv:=v5 hg
   have hnr:=H.yes v hv hg
   rw [hdv] at hnr
   rw [if_neg (by rw [hnr];simp)]
   have hin:∀ y∈nx v,∃ w:Nat,y=w∧w<S1.length:=fun y hy=>by rw [m1];exact H.inr v hv y hy
   have hr:=rowW_ok (S:=S1) A1 hin
   generalize rowW (S1,A1) (nx v)=r2 at *
   obtain⟨S2,A2⟩:=r2
   obtain⟨r1,r2,B,r3,r4,r5,r6,r7⟩:=hr
   simp only at r1 r2 r3 r6 r7
   have key:∀ (p:Nat→Prop),(∃ u:Nat,(u:Int)∈P ++ [(v:Int)]∧good u=true∧p u)↔(∃ u:Nat,(u:Int)∈P∧good u=true∧p u)∨p v:=fun p=>by
    constructor
    ·rintro⟨u,h1,h2,h3⟩
     rcases List.mem_append.1 h1 with h1 | h1
     ·exact .inl ⟨u,h1,h2,h3⟩
     ·rw [List.mem_singleton] at h1
      have:u=v:=by omega
      subst this;exact .inr h3
    ·rintro(⟨u,h1,h2⟩ | h1)
     ·exact⟨u,List.mem_append_left _ h1,h2⟩
     ·exact⟨v,by simp,hg,h1⟩
   have hBS:∀ x∈B,∃ w:Nat,x=w∧w<n∧nth S w=false∧(w:Int)∈nx v:=fun x hx=>by
    obtain⟨w,h1,h2,h3,h4⟩:=r5 x hx
    refine⟨w,h1,by omega,?_,h4⟩
    cases hs:nth S w with
    | false=>rfl
    | true=>rw [(m3 w).2 (.inl hs)] at h3;cases h3
   refine⟨by simp only;omega,by simp only;rw [List.length_set];exact m2,fun w=>?_,fun u hu=>?_,?_,fun y hy=>?_,fun w h1 h2=>?_,?_⟩
   ·simp only;rw [r2 w,m3 w,key,or_assoc]
   ·simp only
    rw [nth_setT _ _ _ (by omega),m4 u hu]
    by_cases e:v=u
    ·subst e
     rw [if_pos rfl,if_pos ⟨by simp,hg⟩,v2]
    ·rw [if_neg e]
     by_cases e2:(u:Int)∈P∧good u=true
     ·rw [if_pos e2,if_pos ⟨List.mem_append_left _ e2.1,e2.2⟩]
     ·rw [if_neg e2,if_neg]
      rintro⟨h1,h2⟩
      rcases List.mem_append.1 h1 with h1 | h1
      ·exact e2 ⟨h1,h2⟩
      ·rw [List.mem_singleton] at h1;omega
   ·simp only
    rw [r3,List.nodup_append]
    refine⟨m5,r4,fun a ha b hb e=>?_⟩
    subst e
    obtain⟨w,h1,h2,h3,h4⟩:=m6 a ha
    obtain⟨w',h1',_,h3',_⟩:=r5 a hb
    have:w=w':=by omega
    subst this
    rw [(m3 w).2 (.inr h4)] at h3';cases h3'
   ·simp only at hy
    rw [r3] at hy
    rcases List.mem_append.1 hy with hy | hy
    ·obtain⟨w,h1,h2,h3,h4⟩:=m6 y hy
     exact⟨w,h1,h2,h3,(key _).2 (.inl h4)⟩
    ·obtain⟨w,h1,h2,h3,h4⟩:=hBS y hy
     exact⟨w,h1,h2,h3,(key _).2 (.inr h4)⟩
   ·simp only at h2 ⊢
    rw [r3]
    cases h3:nth S1 w with
    | true=>exact List.mem_append_left _ (m7 w h1 h3)
    | false=>exact List.mem_append_right _ (r7 w h3 h2)
   ·simp only
    rw [r3,List.length_append];omega
theorem SInv.next (H:SrW nx near n h T0 good dd) {d:Int} {S:List Bool} {T:SrT} {F:List Int} (I:SInv nx n h T0 good dd d S T F) (hF:F≠[]) :
  SInv nx n h T0 good dd (d+1) (levelW nx near h d S T F).1 (levelW nx near h d S T F).2.2 (levelW nx near h d S T F).2.1:=by
 have M:=MInv.run H I F ⟨[],by simp⟩
 generalize levelW nx near h d S T F=r at *
 obtain⟨S1,A1,T1⟩:=r
 obtain⟨m1,m2,m3,m4,m5,m6,m7,m8⟩:=M
 simp only at m1 m2 m3 m4 m5 m6 m7 m8 ⊢
 have hunF:∀ w:Nat,nth S w=false→(w:Int) ∉ F:=fun w hw hf=>by
  obtain⟨v,e,_,h3,_⟩:=I.front _ hf
  have:w=v:=by omega
  subst this;rw [hw] at h3;cases h3
 refine⟨m1,m2,(m3 h).2 (.inl I.h0),m5,fun x hx=>?_,fun v hv h1 h2=>?_,fun v hv h1=>?_,?_,by have:=I.d0;omega⟩
 ·obtain⟨w,rfl,hw,h3,v,h4,h5,h6⟩:=m6 x hx
  obtain⟨v',e,v1,v2,v3,v4,v5,v6⟩:=I.front _ h4
  obtain rfl:v=v':=by omega
  have hn:=H.lev.next v w v1 hw h6 v4
  have h7:=I.new w hw h3
  refine⟨w,rfl,hw,(m3 w).2 (.inr ⟨v,h4,h5,h6⟩),?_,hn.1,by omega,fun hg=>?_⟩
  ·rw [m4 w hw,if_neg fun hc=>hunF w h3 hc.1,h7.1]
  ·have:=h7.2 hg;omega
 ·cases hs:nth S v with
  | false=>exact absurd (m7 v hs h1) h2
  | true =>
   by_cases hf:(v:Int)∈F
   ·obtain⟨v',e,v1,v2,v3,v4,v5,v6⟩:=I.front _ hf
    obtain rfl:v=v':=by omega
    refine⟨?_,fun hg w hw=>(m3 w).2 (.inr ⟨v,hf,hg,hw⟩)⟩
    rw [m4 v hv]
    unfold toldW
    by_cases hg:good v=true
    ·rw [if_pos ⟨hf,hg⟩,if_pos hg,v3,v6 hg]
    ·rw [if_neg fun hc=>hg hc.2,if_neg hg,v3]
   ·have hp:=I.past v hv hs hf
    refine⟨?_,fun hg w hw=>(m3 w).2 (.inl (hp.2 hg w hw))⟩
    rw [m4 v hv,if_neg fun hc=>hf hc.1,hp.1]
 ·have hs:nth S v=false:=by
   cases hs:nth S v with
   | false=>rfl
   | true=>rw [(m3 v).2 (.inl hs)] at h1;cases h1
  have h7:=I.new v hv hs
  refine⟨?_,fun hg=>?_⟩
  ·rw [m4 v hv,if_neg fun hc=>hunF v hs hc.1,h7.1]
  ·have h8:=h7.2 hg
   have h0:=I.d0
   by_cases e:dd v=d+1
   ·exfalso
    obtain⟨u,hu,hgu,hdu,hvu⟩:=H.back v hv hg (by omega)
    cases hsu:nth S u with
    | false=>have:=(I.new u hu hsu).2 hgu;omega
    | true =>
     by_cases hfu:(u:Int)∈F
     ·rw [(m3 v).2 (.inr ⟨u,hfu,hgu,hvu⟩)] at h1;cases h1
     ·have:=(I.past u hu hsu hfu).2 hgu v hvu
      rw [hs] at this;cases this
   ·omega
 ·have hb:=I.bd
  rw [if_neg hF] at hb
  by_cases e:A1=[]
  ·rw [if_pos e]
   subst e
   simp only [List.length_nil] at m8
   omega
  ·rw [if_neg e]
   have:0<A1.length:=List.length_pos_iff.2 e
   omega
theorem SInv.done (H:SrW nx near n h T0 good dd) {d:Int} {S:List Bool} {T:SrT} (I:SInv nx n h T0 good dd d S T []):T=(List.range n).map fun v=>toldW h T0 good dd v:=by
 have hall:∀ (k v:Nat),v<n→good v=true→dd v=k→nth S v=true:=by
  intro k
  induction k with
  | zero =>
   intro v hv hg hd
   have:=(H.lev.zero v hv).1 (by omega)
   subst this;exact I.h0
  | succ k ih =>
   intro v hv hg hd
   obtain⟨u,hu,h1,h2,h3⟩:=H.back v hv hg (by omega)
   exact(I.past u hu (ih u hu h1 (by omega)) (by simp)).2 h1 v h3
 refine List.ext_getElem (by rw [I.lenT];simp) fun v h1 h2=>?_
 have hv:v<n:=by rw [← I.lenT];exact h1
 rw [List.getElem_map,List.getElem_range,← nth_eq h1]
 cases hs:nth S v with
 | true=>exact(I.past v hv hs (by simp)).1
 | false =>
  have h3:=I.new v hv hs
  rw [h3.1]
  unfold toldW
  by_cases hg:good v=true
  ·have h4:=H.ge v hv hg
   have:=hall (dd v).toNat v hv hg (by omega)
   rw [hs] at this;cases this
  ·rw [if_neg hg]
end
end
section
open Go Go.RowKit
def Both (out inn:List (Int × Int)) (x:Int):Prop:=∃ a∈out,∃ b∈inn,a.1=b.1∧x=a.2+b.2
def LeastOk (C:Int→Prop) (r:Int × Bool):Prop:=(r.2=false→r.1=0∧∀ x,¬ C x)∧(r.2=true→C r.1∧∀ x,C x→r.1≤x)
theorem LeastOk.of {C D:Int→Prop} {r:Int × Bool} (h:LeastOk C r) (e:∀ x,C x↔D x):LeastOk D r :=
 ⟨fun k=>⟨(h.1 k).1,fun x hx=>(h.1 k).2 x ((e x).2 hx)⟩,fun k=>⟨(e _).1 (h.2 k).1,fun x hx=>(h.2 k).2 x ((e x).2 hx)⟩⟩
theorem Both.comm {out inn:List (Int × Int)} {x:Int} (h:Both out inn x):Both inn out x:=by
 obtain⟨a,ha,b,hb,e,rfl⟩:=h
 exact⟨b,hb,a,ha,e.symm,by omega⟩
end
section
open Go Go.RowKit
attribute [local go_sem ↓] Go.wp_at_zero Go.wp_at_succ
theorem encH_set (l:List Hd) (k:Nat) (p:Option Addr) (n c:Nat):(encH l).set k (.slice p n c)=encH (l.set k ⟨p,n,c⟩):=by simp [encH,List.map_set,Hd.v]
end
section
open Go Go.RowKit
structure NearQ (C:Nat) (x:Int) (b:Bool) (i:Nat) (v:Value) (_:World):Prop where
 a:i=C→v=.tuple #[.int .i64 x,.bool b]
 b':i=C+1→v=.tuple #[.int .i64 x,.bool b]
 c1:i=C+2→v=.int .i64 x
 c2:i=C+3→v=.bool b
 d1:i=C+4→v=.int .i64 x
 d2:i=C+5→v=.bool b
theorem NearQ.of {C:Nat} {a:Int} {b:Bool} {i:Nat} {v:Value} {w:World} (h:(i=C∨i=C+1)∧v=.tuple #[.int .i64 a,.bool b]∨(i=C+2∨i=C+4)∧v=.int .i64 a∨(i=C+3∨i=C+5)∧v=.bool b):NearQ C a b i v w:=by
 rcases h with ⟨h1,h2⟩ | ⟨h1,h2⟩ | ⟨h1,h2⟩
 ·exact⟨fun _=>h2,fun _=>h2,fun e=>by omega,fun e=>by omega,fun e=>by omega,fun e=>by omega⟩
 ·exact⟨fun e=>by omega,fun e=>by omega,fun _=>h2,fun e=>by omega,fun _=>h2,fun e=>by omega⟩
 ·exact⟨fun e=>by omega,fun e=>by omega,fun e=>by omega,fun _=>h2,fun e=>by omega,fun _=>h2⟩
end
section
open Go Go.RowKit
theorem nth_setHd (H:List Hd) {i:Nat} (j:Nat) (x:Hd) (hi:i<H.length):nth (H.set i x) j=if i=j then x else nth H j:=by
 unfold nth
 rw [List.getD_eq_getElem?_getD,List.getD_eq_getElem?_getD,List.getElem?_set]
 by_cases e:i=j
 ·subst e;simp [hi]
 ·simp [e]
end
section
open Go Go.RowKit
attribute [local go_sem ↓] Go.wp_at_zero Go.wp_at_succ
def rowsB (wk:Nat) (hs:List Hd) (M:List Sq):List Pc:=(List.range wk).map fun h=>.own 138 4 (nth hs h).p (nth hs h).n (nth hs h).c (encQ (boxQ M wk h))
theorem rowsB_at {wk:Nat} {hs:List Hd} {M:List Sq} {h:Nat} (hh:h<wk):(rowsB wk hs M)[h]?=some (.own 138 4 (nth hs h).p (nth hs h).n (nth hs h).c (encQ (boxQ M wk h))):=by simp [rowsB,hh]
theorem rowsB_set {wk:Nat} {hs:List Hd} {M:List Sq} {x:Sq} {p:Option Addr} {m c:Nat} (hh:homeV x.v wk<wk) (hl:hs.length=wk) :
  (rowsB wk hs M).set (homeV x.v wk) (.own 138 4 p m c (encQ (boxQ M wk (homeV x.v wk) ++ [x])))=rowsB wk (hs.set (homeV x.v wk) ⟨p,m,c⟩) (M ++ [x]):=by
 apply List.ext_getElem
 ·simp [rowsB]
 ·intro j h1 h2
  have hj:j<wk:=by simpa [rowsB] using h2
  rw [List.getElem_set]
  simp only [rowsB,List.getElem_map,List.getElem_range]
  rw [nth_setHd hs j _ (by omega),boxQ_snoc]
  by_cases e:homeV x.v wk=j
  ·subst e;simp
  ·simp [e]
theorem infMls:(Tryz.prog.info? 83).map (fun i=>(i.zero,i.size,i.bytes))=some (some (.slice none 0 0),1,24):=by kernel_rfl
theorem made_encH (n:Nat):(madeCells (Value.slice none 0 0).cells (n*1)).toList=encH (List.replicate n ⟨none,0,0⟩):=by
 apply List.ext_getElem
 ·simp [madeCells,encH]
 ·intro i h1 h2
  simp [madeCells,Value.cells,Nat.mod_one,encH,Hd.v]
theorem Sep.nilB {w0 w:World} {Γ:List Pc} (S:Sep w0 w Γ) (e:TypeId) (size:Nat):∀ n,Sep w0 w (Γ ++ List.replicate n (.own e size none 0 0 []))
 | 0=>by simpa using S
 | n+1=>by
  have h:=((S.nilB e size n).nilrow e size)
  exact h.perm (by rw [List.replicate_succ];exact List.perm_middle)
theorem rowsB_nil (wk:Nat):rowsB wk (List.replicate wk ⟨none,0,0⟩) []=List.replicate wk (.own 138 4 none 0 0 []):=by
 apply List.ext_getElem
 ·simp [rowsB]
 ·intro i h1 h2
  have hi:i<wk:=by simpa using h2
  have e:nth (List.replicate wk (⟨none,0,0⟩:Hd)) i=⟨none,0,0⟩:=by rw [nth_eq (by simpa using hi)];simp
  simp only [rowsB,List.getElem_map,List.getElem_range,List.getElem_replicate,e,boxQ_nil]
  rfl
theorem SplitG (p:Option Addr) (n c:Nat) (M:List Sq) (wk:Nat) (w:World) (hl:Rd w 4 p n (encQ M)) (hm:∀ x∈M,mayB x=true) (h1:1≤wk) (h16:wk≤16) (hn:n≤100000) :
  Calls Tryz.prog 140 #[.slice p n c,.int .i64 wk] w fun e w'=>∃ q hs,hs.length=wk∧e=.returned (.tuple #[.slice q wk wk,.int .i64 0])∧Sep w w' (.own 83 1 q wk wk (encH hs) :: rowsB wk hs M):=by
 obtain⟨j0,ji0,jz0,jz1,jz2⟩:=info_parts infMls
 obtain⟨i0,hi0,hz0,hz1,hz2⟩:=info_parts infMail
 have p1:=hl.ptr
 have n1:=hl.small
 have L1:=Lib.hid hl.nQ
 have HM:=Lib.hid hm
 have HL:=Lib.hid hl
 have HC:=Lib.hid (CheckM p n c M w hl hm)
 have HH:=Lib.hid (fun (v:Int) W (a:0≤v) (b:v≤1000000)=>HomeG v wk W a b h1 h16)
 clear hl hm
 go_enter Tryz.func140,Tryz.ntmps140
 go_wp2_with (first
  | (at_make;have _t:=HE;go_must (refine wpList_make_sep rfl _ _ _ rfl 83 j0 _ 1 Tryz.underlying197 ji0 jz0 jz1 (wk:Int) wk rfl rfl rfl (by rw [jz2];omega) (by unfold maxLen;omega) ((Sep.start w).call HE.out) ?_;intro w2 S';rw [made_encH] at S';have S2:=Lib.hid (S'.nilB 138 4 wk);clear S'))
  | (go_at_call 143;go_must (refine HC.out.mono ?_;rintro e w1 ⟨rfl,hb⟩;have HE:=Lib.hid hb;clear hb))
  | (go_at_call 50;go_must (refine(HH.out 0 _ (by omega) (by omega)).mono ?_;rintro e w1 ⟨rfl,rfl⟩)))
 rw [← rowsB_nil] at S2
 generalize (some ⟨w1.heap.size,0,none⟩:Option Addr)=q at *
 go_loopw [10,11,12,29] (fun _ _ _ i wr=>∃ (k:Nat) (hs:List Hd),k≤n∧i=.int .i64 k∧hs.length=wk∧Hid (Sep w wr (.own 83 1 q wk wk (encH hs) :: rowsB wk hs (M.take k)))) (fun _ _ _ i _=>n - (intOf i).toNat)
 case atStart=>exact⟨0,_,Nat.zero_le _,rfl,by simp,S2⟩
 case round =>
  clear S2
  obtain⟨k,hs,hk,rfl,HHL,S⟩:=hrel
  by_cases hlt:k<n
  ·obtain⟨g1,g2,g3,g4⟩:=(HL.out.ext S.out.ext).cQ hlt
   have hkl:k<M.length:=by rw [← L1.out];exact hlt
   have hx:=HM.out (nth M k) (nth_mem hkl)
   have HT:=Lib.hid (take_succ_nth M k hkl)
   have hbl:=boxQ_len (M.take k) wk
   have HBL:Hid (∀ h,(boxQ (M.take k) wk h).length≤100000):=fun h=>by
    have:=hbl h
    rw [List.length_take] at this
    omega
   obtain⟨x,hxl⟩:∃ x,nth M k=x:=⟨_,rfl⟩
   rw [hxl] at g1 g2 g3 g4 hx HT
   obtain⟨m1,m2,m3,m4,m5,m6,m7⟩:=mayB_iff.1 hx
   have hhw:homeV x.v wk<wk:=homeV_lt (by omega)
   have HSET:=Lib.hid (fun p m c=>rowsB_set (hs:=hs) (M:=M.take k) (p:=p) (m:=m) (c:=c) hhw HHL)
   have HHX:=Lib.hid (fun W=>HH.out x.v W m4 (by omega))
   obtain⟨h,hhe⟩:∃ h,homeV x.v wk=h:=⟨_,rfl⟩
   rw [hhe] at HHX hhw HSET
   obtain⟨row,hrow⟩:∃ row,boxQ (M.take k) wk h=row:=⟨_,rfl⟩
   rw [hrow] at HSET
   have hrl:row.length≤100000:=by rw [← hrow];exact HBL.out h
   have hat:=rowsB_at (hs:=hs) (M:=M.take k) hhw
   rw [hrow] at hat
   have d1:(0:Int)≤h:=by omega
   have d2:(h:Int)<wk:=by omega
   have hR:=S.out.rdx (h+1) (by rw [List.getElem?_cons_succ];exact hat)
   have hnl:(nth hs h).n=row.length:=hR.nQ
   obtain⟨hd,hhd⟩:∃ hd,nth hs h=hd:=⟨_,rfl⟩
   rw [hhd] at hat hnl
   obtain⟨hp,hn',hc⟩:=hd
   simp only at hat hnl
   subst hnl
   have S1:=Lib.hid (S.out.al #[.int .i64 x.s,.int .i64 x.r,.int .i64 x.v,.int .i64 x.d] 138 wr.heap.size rfl)
   have pq:=(S1.out.rdx 1 rfl).ptr
   obtain⟨a0,a1,a2,a3,az⟩:=bkc0c1c2c3l (S1.out.blk 0 rfl)
   have gh:=(S1.out.rdx 1 rfl).cH hhw
   rw [hhd] at gh
   have HHD:=Lib.hid hhd
   have HHW:=Lib.hid hhw
   have HAT:=Lib.hid hat
   have dk1:(0:Int)≤k:=by omega
   have dk2:(k:Int)<n:=by omega
   clear hx hxl hkl hbl hhe hrow hat hR hhd hhw m1 m2 m3 m4 m5 m6 m7 S
   go_wp2_with (go_at_call 50;go_must (refine(HHX.out _).mono ?_;rintro e w3 ⟨rfl,rfl⟩))
   obtain⟨w1,hw1⟩:∃ w1,wr.alloc (.cells #[.int .i64 x.s,.int .i64 x.r,.int .i64 x.v,.int .i64 x.d] 138)=w1:=⟨_,rfl⟩
   rw [hw1] at S1 a0 a1 a2 a3 az gh ⊢
   clear hw1
   have S4:=Lib.hid (S1.out.alrw #[.int .i64 x.s,.int .i64 x.r,.int .i64 x.v,.int .i64 x.d] 138 4 1 w1.heap.size rfl (by decide) (by simp)).drew
   obtain⟨q',c',w7,hrun,S'⟩:=S4.out.appended (h+3) 83 83 138 i0 _ 4 32 Tryz.underlying83 hi0 hz0 hz1 hz2 rfl (by omega) hp row.length hc (encQ row) HAT.out (some ⟨w1.heap.size,0,none⟩) 1 1 (encQ [x]) (S4.out.rdx 0 rfl) (one_encQ _) (by omega) (by omega)
   rw [← encQ_append] at S'
   have S5:Sep w w7 (.own 138 4 (some ⟨w1.heap.size,0,none⟩) 1 1 (encQ [x]) :: .blk wr.heap.size 138 #[.int .i64 x.s,.int .i64 x.r,.int .i64 x.v,.int .i64 x.d] :: .own 83 1 q wk wk (encH hs) :: rowsB wk (hs.set h ⟨q',row.length+1,c'⟩) (M.take k ++ [x])):=by rw [← HSET.out];exact S'
   obtain⟨k0,k1,k2,k3⟩:=bkc0c1c2c3 (S5.blk 1 rfl)
   have kfz:=own_frozen (S5.own 2 rfl) (by have:=HHW.out;omega) h
   have kg1:=(S5.rdx 2 rfl).cH HHW.out
   rw [HHD.out] at kg1
   have T:=S5.setRow 2 rfl h (by have:=HHW.out;omega) (.slice q' (row.length+1) c')
   rw [encH_set] at T
   obtain⟨t0,t1,t2,t3⟩:=bkc0c1c2c3 (T.blk 1 rfl)
   have g5:=(S4.out.rdx 2 rfl).cH HHW.out
   rw [HHD.out] at g5
   have TF:Hid (Sep w (w7.setCell (adr q h) (.slice q' (row.length+1) c')) (.own 83 1 q wk wk (encH (hs.set h ⟨q',row.length+1,c'⟩)) :: rowsB wk (hs.set h ⟨q',row.length+1,c'⟩) (M.take k ++ [x]))):=T.sub ((List.sublist_cons_self _ _).trans (List.sublist_cons_self _ _))
   clear S' S5 T S4 HHD HAT HSET HHX HBL
   simp at k0 k1 k2 k3 t0 t1 t2 t3 a0 a1 a2 a3
   have gb:=World.block_lt_of_cell? w1 _ gh
   simp only at kg1 g5 gh
   refine wp_region_held_drew (S:=fun w'=>w'.cell? ⟨wr.heap.size,0,none⟩=some (.int .i64 x.s)∧w'.cell? ⟨wr.heap.size,1,none⟩=some (.int .i64 x.r)∧w'.cell? ⟨wr.heap.size,2,none⟩=some (.int .i64 x.v)∧w'.cell? ⟨wr.heap.size,3,none⟩=some (.int .i64 x.d)) (by kernel_rfl) (by(try dsimp only);go_keep) (fun hHeld=>?_)
   refine wpAnyH_take (i:=0) (v:=.slice q wk wk) rfl (by kernel_rfl) (by kernel_rfl) (by kernel_rfl) (fun _ _ _ h=>h) (Or.inl ⟨by rfl,fun W hSw=>by obtain⟨h1,h2,h3,h4⟩:=hSw;go_simp⟩) hHeld ?_
   refine wpAnyH_take (i:=1) (v:=.int .i64 h) rfl (by kernel_rfl) (by kernel_rfl) (by kernel_rfl) (fun _ _ _ h=>h) (Or.inl ⟨by rfl,fun W hSw=>by obtain⟨h1,h2,h3,h4⟩:=hSw;go_simp⟩) hHeld ?_
   refine wpAnyH_take (i:=2) (v:=.slice q wk wk) rfl (by kernel_rfl) (by kernel_rfl) (by kernel_rfl) (fun _ _ _ h=>h) (Or.inl ⟨by rfl,fun W hSw=>by obtain⟨h1,h2,h3,h4⟩:=hSw;go_simp⟩) hHeld ?_
   refine wpAnyH_take (i:=3) (v:=.int .i64 h) rfl (by kernel_rfl) (by kernel_rfl) (by kernel_rfl) (fun _ _ _ h=>h) (Or.inl ⟨by rfl,fun W hSw=>by obtain⟨h1,h2,h3,h4⟩:=hSw;go_simp⟩) hHeld ?_
   refine wpAnyH_take (i:=4) (v:=.pointer (some (adr q h))) rfl (by kernel_rfl) (by kernel_rfl) (by kernel_rfl) (fun _ _ _ h=>h) (Or.inl ⟨by rfl,fun W hSw=>by obtain⟨h1,h2,h3,h4⟩:=hSw;go_simp⟩) hHeld ?_
   refine wpAnyH_take (i:=6) (v:=.agg #[.int .i64 x.s,.int .i64 x.r,.int .i64 x.v,.int .i64 x.d]) rfl (by kernel_rfl) (by kernel_rfl) (by kernel_rfl) (fun _ _ _ h=>h) (Or.inl ⟨by rfl,fun W hSw=>by obtain⟨h1,h2,h3,h4⟩:=hSw;go_simp⟩) hHeld ?_
   refine wpAnyH_ready (rs:=[5,7]) (by kernel_rfl) (by simp) (AllReadyH.cons rfl (fun K hK=>?_) (AllReadyH.cons rfl (fun K hK=>?_) AllReadyH.nil))
   ·go_simp
    refine hK.out _ _ hHeld (fun hHeld=>?_)
    clear hK
    refine wpAnyH_ready (rs:=[7]) (by kernel_rfl) (by simp) (AllReadyH.cons rfl (fun K hK=>?_) AllReadyH.nil)
    go_simp
    refine hK.out _ _ (by((try dsimp only);go_keep)) (fun hHeld=>?_)
    clear hK
    refine wpAnyH_ready (rs:=[8]) (by kernel_rfl) (by simp) (AllReadyH.cons rfl (fun K hK=>?_) AllReadyH.nil)
    rw [if_pos (by rfl)]
    refine operwp_append (.tmp 48) (.tmp 50) 83 (by rfl) (by rfl) (by rfl) hrun ?_
    refine hK.out _ _ ⟨k0,k1,k2,k3⟩ (fun hHeld=>?_)
    clear hK
    refine wpAnyH_ready (rs:=[9]) (by kernel_rfl) (by simp) (AllReadyH.cons rfl (fun K hK=>?_) AllReadyH.nil)
    go_simp
    refine hK.out _ _ (by(exact⟨k0,k1,k2,k3⟩)) (fun hHeld=>?_)
    clear hK
    refine wpAnyH_ready (rs:=[10]) (by kernel_rfl) (by simp) (AllReadyH.cons rfl (fun K hK=>?_) AllReadyH.nil)
    go_simp
    refine hK.out _ _ (by(exact⟨t0,t1,t2,t3⟩)) (fun hHeld=>?_)
    clear hK
    refine wpAnyH_done (by kernel_rfl) ?_ _
    go_wp2
    go_roundw
    case rel=>exact⟨k+1,hs.set h ⟨q',row.length+1,c'⟩,by omega,by go_num,by rw [List.length_set];exact HHL,by rw [HT.out];exact TF⟩
    case measure=>simp [intOf];omega
   ·go_simp
    refine hK.out _ _ (by(try dsimp only);go_keep) (fun hHeld=>?_)
    clear hK
    refine wpAnyH_ready (rs:=[5]) (by kernel_rfl) (by simp) (AllReadyH.cons rfl (fun K hK=>?_) AllReadyH.nil)
    go_simp
    refine hK.out _ _ (by(exact hHeld)) (fun hHeld=>?_)
    clear hK
    refine wpAnyH_ready (rs:=[8]) (by kernel_rfl) (by simp) (AllReadyH.cons rfl (fun K hK=>?_) AllReadyH.nil)
    rw [if_pos (by rfl)]
    refine operwp_append (.tmp 48) (.tmp 50) 83 (by rfl) (by rfl) (by rfl) hrun ?_
    refine hK.out _ _ ⟨k0,k1,k2,k3⟩ (fun hHeld=>?_)
    clear hK
    refine wpAnyH_ready (rs:=[9]) (by kernel_rfl) (by simp) (AllReadyH.cons rfl (fun K hK=>?_) AllReadyH.nil)
    go_simp
    refine hK.out _ _ (by(exact⟨k0,k1,k2,k3⟩)) (fun hHeld=>?_)
    clear hK
    refine wpAnyH_ready (rs:=[10]) (by kernel_rfl) (by simp) (AllReadyH.cons rfl (fun K hK=>?_) AllReadyH.nil)
    go_simp
    refine hK.out _ _ (by(exact⟨t0,t1,t2,t3⟩)) (fun hHeld=>?_)
    clear hK
    refine wpAnyH_done (by kernel_rfl) ?_ _
    go_wp2
    go_roundw
    case rel=>exact⟨k+1,hs.set h ⟨q',row.length+1,c'⟩,by omega,by go_num,by rw [List.length_set];exact HHL,by rw [HT.out];exact TF⟩
    case measure=>simp [intOf];omega
  ·obtain rfl:k=n:=by omega
   rw [List.take_of_length_le (by rw [← L1.out];exact Nat.le_refl _)] at S
   go_wp2
   go_ret2
   exact⟨q,hs,HHL,rfl,S.out⟩
end
section
open Go Go.RowKit
theorem made_encQ (n:Nat):(madeCells (Value.agg #[.int .i64 0,.int .i64 0,.int .i64 0,.int .i64 0]).cells (n*4)).toList=encQ (List.replicate n ⟨0,0,0,0⟩):=by
 apply List.ext_getElem
 ·simp [madeCells,encQ_len]
 ·intro i h1 h2
  have h3:i<n*4:=by rw [encQ_len,List.length_replicate] at h2;exact h2
  obtain⟨g1,g2,g3,g4⟩:=encQ_get (List.replicate n ⟨0,0,0,0⟩) (i / 4) (by rw [List.length_replicate];omega)
  have e:nth (List.replicate n (⟨0,0,0,0⟩:Sq)) (i / 4)=⟨0,0,0,0⟩:=by rw [nth_eq (by rw [List.length_replicate];omega)];simp
  rw [e] at g1 g2 g3 g4
  have hz:(encQ (List.replicate n (⟨0,0,0,0⟩:Sq)))[i]'h2=.int .i64 0:=by
   have:(encQ (List.replicate n (⟨0,0,0,0⟩:Sq))).getD i undef=.int .i64 0:=by
    have h4:i=i / 4*4∨i=i / 4*4+1∨i=i / 4*4+2∨i=i / 4*4+3:=by omega
    rcases h4 with h4 | h4 | h4 | h4 <;> rw [h4] <;> assumption
   rw [List.getD_eq_getElem?_getD,List.getElem?_eq_getElem h2] at this
   exact this
  rw [hz]
  have h5:i % 4=0∨i % 4=1∨i % 4=2∨i % 4=3:=by omega
  simp only [madeCells,Value.cells,Array.getElem_toList]
  rcases h5 with h5 | h5 | h5 | h5 <;> simp [h5]
theorem OrderedI (p:Option Addr) (n c:Nat) (L:List Int) (gi gp:Nat) (pp:Option Addr) (np cp:Nat) (ps:List Int) (w w0:World) (S:Sep w0 w [.blk gi 3 #[.int .i64 ((0:Int) - 1)],.blk gp 25 #[.slice pp np cp]]) (hl:Rd w0 1 p n (encI L)) (hps:Rd w0 1 pp np (encI ps)) (hn:n≤100000) :
  Calls Tryz.prog 204 #[.slice p n c,.func (.func 239) #[] #[.pointer (some ⟨gi,0,none⟩),.pointer (some ⟨gp,0,none⟩)]] w fun e w'=>∃ (P:List Int) (q:Option Addr) (c':Nat),P.Perm L∧e=.returned (.slice q n c')∧Sep w0 w' [.own 3 1 q n c' (encI P)]:=by
 obtain⟨i0,hi0,hz0,hz1,hz2⟩:=info_parts infI
 have n1:=hl.small
 have LL:=Lib.hid hl.nI
 have HPS:=Lib.hid hps
 have HL:=Lib.hid hl;clear hl
 have S0:=Lib.hid S;clear S
 clear hps
 go_enter Tryz.func204,Tryz.ntmps204
 go_wp2_with (first
  | (at_make;go_must (refine wpList_make_sep rfl _ _ _ rfl 3 i0 _ 1 Tryz.underlying25 hi0 hz0 hz1 (n:Int) n rfl rfl rfl (by rw [hz2];omega) (by unfold maxLen;omega) S0.out ?_;intro w1 S';rw [made_encI] at S';have S1:=Lib.hid S';clear S'))
  | (have _t:=S1;with_reducible show wpList _ _ _ (⟨some 13,_,_,_,_,_⟩:: _) _ _;go_must (refine wpList_copy_sep rfl _ _ 25 25 rfl 3 Tryz.underlying25 1 infI1 S1.out 0 rfl n 0 n n n c _ p rfl rfl (by show n=min n n;omega) (fun _=>by simp [adr]) (by omega) (encI L) (HL.out.ext S1.out.ext) (one_encI L) ?_;intro w2 S' hsz;have S2:=Lib.hid S';clear S' hsz)))
 have S3:Hid (Sep w0 w2 [.own 3 1 none 0 0 (encI []),.own 3 1 (some ⟨w.heap.size,0,none⟩) n n (encI L),.blk gi 3 #[.int .i64 ((((0:Nat):Int):Int) - 1)],.blk gp 25 #[.slice pp np cp]]):=by
  have h:=S2.out
  rw [Nat.zero_mul,splice_all (by rw [encI_len,encI_len,List.length_replicate,← LL.out])] at h
  exact(h.nilrow 3 1)
 clear S2 S1 S0
 generalize w.heap.size=g0 at *
 go_loopg [5,6,7] n (fun gg v5 v6 _ wr=>∃ (out left:List Int) (q ql:Option Addr) (m k d cl:Nat),v5=.slice ql k cl∧v6=.slice q m d∧m+k=n∧k≤gg∧Hid ((out ++ left).Perm L)∧Hid (Sep w0 wr [.own 3 1 q m d (encI out),.own 3 1 ql k cl (encI left),.blk gi 3 #[.int .i64 (((m:Int):Int) - 1)],.blk gp 25 #[.slice pp np cp]]))
 case atStart=>exact⟨[],L,none,_,0,n,0,n,rfl,rfl,by omega,Nat.le_refl _,by rw [List.nil_append];exact List.Perm.refl _,S3⟩
 case round =>
  clear S3
  obtain⟨out,left,q,ql,m,k,d,cl,rfl,rfl,hmk,hgg,HP,S⟩:=hrel
  have lk:=(S.out.rdx 1 rfl).nI
  have HLK:=Lib.hid lk
  clear lk
  by_cases hk:k=0
  ·subst hk
   have hle:left=[]:=List.eq_nil_of_length_eq_zero HLK.out.symm
   have hm:m=n:=by omega
   subst hle hm
   have HP2:=Lib.hid (show out.Perm L by have:=HP.out;rwa [List.append_nil] at this)
   clear HP hmk
   go_wp2
   go_ret
   exact⟨out,q,d,HP2.out,rfl,S.out.pick [0] (by decide) rfl⟩
  ·have k1:(1:Int)≤(k:Int):=by omega
   have hmn:m≤100000:=by omega
   have HO:=Lib.hid (ofOne gi gp pp np cp ps m k wr w0 _ 2 3 S.out rfl rfl (by decide) HPS.out (by omega) (by omega) (by omega))
   go_wp2_with (first
    | (go_at_call 239;go_must (refine HO.out.mono ?_;rintro e w3 ⟨at_,hat,rfl,S'⟩;have S4:Hid (Sep w0 w3 [.own 3 1 q m d (encI out),.own 3 1 ql k cl (encI left),.blk gi 3 #[.int .i64 ((((m+1:Nat):Int):Int) - 1)],.blk gp 25 #[.slice pp np cp]]):=S';have pl:=(S'.rdx 1 rfl).ptr;have g1:=(S'.rdx 1 rfl).cI hat;have HX:=Lib.hid (perm_take HP.out (show at_<left.length by rw [← HLK.out];exact hat));have dd1:(0:Int)≤(at_:Int):=(by omega);have dd2:(at_:Int)<(k:Int):=(by omega);clear S'))
    | (at_builtin;have _t:=S4;go_must (refine wpList_append_sep rfl _ _ _ rfl 3 i0 _ 1 8 Tryz.underlying25 hi0 hz0 hz1 hz2 rfl (by omega) (S4.out.junk _) 0 q m d _ rfl rfl _ 1 1 _ rfl (Rd.oneI _ _ _) (one_encI _) (by omega) (by omega) ?_;intro q5 d5 w5 S' hsz;obtain⟨w6,hrun,T⟩:=copy_shift S'.drew 1 rfl 25 25 3 3 Tryz.underlying25 infI1 (by omega) (one_encI left) at_ hat;have S6:Hid (Sep w0 w6 [.own 3 1 q5 (m+1) d5 (encI (out ++ [nth left at_])),.own 3 1 ql (k - 1) cl (encI (left.eraseIdx at_)),.blk gi 3 #[.int .i64 ((((m+1:Nat):Int):Int) - 1)],.blk gp 25 #[.slice pp np cp]]):=(by rw [encI_append,encI_eraseIdx];exact T);clear S' T hsz)))
   have kc:k≤cl:=own_cap (S4.out.own 1 rfl)
   obtain⟨b,hb⟩:∃ b,b=at_+1:=⟨_,rfl⟩
   have hc:cutp ql cl at_ 1=ql.map (fun x=>x.add at_):=by unfold cutp;rw [if_neg (by omega)];try simp
   rw [← hb] at hrun
   have hrun2:=hrun
   rw [hc] at hrun2
   clear hc
   have e1:(at_:Int)+1=(b:Int):=by omega
   have dd3:(b:Int)≤(k:Int):=by omega
   have dd5:b≤k:=by omega
   have dd4:(0:Int)≤(b:Int):=by omega
   have dw:IntKind.i64.wrap (b:Int)=(b:Int):=by rw [IntKind.wrap_i64];omega
   have dd8:(b:Int)≤100000:=by omega
   have dd9:at_≤k:=by omega
   have dd10:¬ cl=at_:=by omega
   have dd6:b≤cl:=by omega
   have dd7:(b:Int)≤(cl:Int):=by omega
   clear S S4 HP HO hb
   go_region_with fail
   go_wp2
   go_roundg (gk - 1)
   case measure=>omega
   case rel=>exact⟨out ++ [nth left at_],left.eraseIdx at_,q5,ql,m+1,k - 1,d5,cl,rfl,rfl,by omega,by omega,HX,S6⟩
theorem OrderedQ (p:Option Addr) (n c:Nat) (L:List Sq) (gi gp:Nat) (pp:Option Addr) (np cp:Nat) (ps:List Int) (w w0:World) (S:Sep w0 w [.blk gi 3 #[.int .i64 ((0:Int) - 1)],.blk gp 25 #[.slice pp np cp]]) (hl:Rd w0 4 p n (encQ L)) (hps:Rd w0 1 pp np (encI ps)) (hn:n≤100000) :
  Calls Tryz.prog 211 #[.slice p n c,.func (.func 239) #[] #[.pointer (some ⟨gi,0,none⟩),.pointer (some ⟨gp,0,none⟩)]] w fun e w'=>∃ (P:List Sq) (q:Option Addr) (c':Nat),P.Perm L∧e=.returned (.slice q n c')∧Sep w0 w' [.own 138 4 q n c' (encQ P)]:=by
 obtain⟨i0,hi0,hz0,hz1,hz2⟩:=info_parts infMail
 have n1:=hl.small
 have LL:=Lib.hid hl.nQ
 have HPS:=Lib.hid hps
 have HL:=Lib.hid hl;clear hl
 have S0:=Lib.hid S;clear S
 clear hps
 go_enter Tryz.func211,Tryz.ntmps211
 go_wp2_with (first
  | (at_make;go_must (refine wpList_make_sep rfl _ _ _ rfl 138 i0 _ 4 Tryz.underlying83 hi0 hz0 hz1 (n:Int) n rfl rfl rfl (by rw [hz2];omega) (by unfold maxLen;omega) S0.out ?_;intro w1 S';rw [made_encQ] at S';have S1:=Lib.hid S';clear S'))
  | (have _t:=S1;with_reducible show wpList _ _ _ (⟨some 13,_,_,_,_,_⟩:: _) _ _;go_must (refine wpList_copy_sep rfl _ _ 83 83 rfl 138 Tryz.underlying83 4 infQ S1.out 0 rfl n 0 n n n c _ p rfl rfl (by show n=min n n;omega) (fun _=>by simp [adr]) (by omega) (encQ L) (HL.out.ext S1.out.ext) (one_encQ L) ?_;intro w2 S' hsz;have S2:=Lib.hid S';clear S' hsz)))
 have S3:Hid (Sep w0 w2 [.own 138 4 none 0 0 (encQ []),.own 138 4 (some ⟨w.heap.size,0,none⟩) n n (encQ L),.blk gi 3 #[.int .i64 ((((0:Nat):Int):Int) - 1)],.blk gp 25 #[.slice pp np cp]]):=by
  have h:=S2.out
  rw [Nat.zero_mul,splice_all (by rw [encQ_len,encQ_len,List.length_replicate,← LL.out])] at h
  exact(h.nilrow 138 4)
 clear S2 S1 S0
 generalize w.heap.size=g0 at *
 go_loopg [5,6,7] n (fun gg v5 v6 _ wr=>∃ (out left:List Sq) (q ql:Option Addr) (m k d cl:Nat),v5=.slice ql k cl∧v6=.slice q m d∧m+k=n∧k≤gg∧Hid ((out ++ left).Perm L)∧Hid (Sep w0 wr [.own 138 4 q m d (encQ out),.own 138 4 ql k cl (encQ left),.blk gi 3 #[.int .i64 (((m:Int):Int) - 1)],.blk gp 25 #[.slice pp np cp]]))
 case atStart=>exact⟨[],L,none,_,0,n,0,n,rfl,rfl,by omega,Nat.le_refl _,by rw [List.nil_append];exact List.Perm.refl _,S3⟩
 case round =>
  clear S3
  obtain⟨out,left,q,ql,m,k,d,cl,rfl,rfl,hmk,hgg,HP,S⟩:=hrel
  have lk:=(S.out.rdx 1 rfl).nQ
  have HLK:=Lib.hid lk
  clear lk
  by_cases hk:k=0
  ·subst hk
   have hle:left=[]:=List.eq_nil_of_length_eq_zero HLK.out.symm
   have hm:m=n:=by omega
   subst hle hm
   have HP2:=Lib.hid (show out.Perm L by have:=HP.out;rwa [List.append_nil] at this)
   clear HP hmk
   go_wp2
   go_ret
   exact⟨out,q,d,HP2.out,rfl,S.out.pick [0] (by decide) rfl⟩
  ·have k1:(1:Int)≤(k:Int):=by omega
   have hmn:m≤100000:=by omega
   have HO:=Lib.hid (ofOne gi gp pp np cp ps m k wr w0 _ 2 3 S.out rfl rfl (by decide) HPS.out (by omega) (by omega) (by omega))
   go_wp2_with (first
    | (go_at_call 239;go_must (refine HO.out.mono ?_;rintro e w3 ⟨at_,hat,rfl,S'⟩;have S4:Hid (Sep w0 w3 [.own 138 4 q m d (encQ out),.own 138 4 ql k cl (encQ left),.blk gi 3 #[.int .i64 ((((m+1:Nat):Int):Int) - 1)],.blk gp 25 #[.slice pp np cp]]):=S';have pl:=(S'.rdx 1 rfl).ptr;obtain⟨g1,g2,g3,g4⟩:=(S'.rdx 1 rfl).cQ hat;have HX:=Lib.hid (perm_take HP.out (show at_<left.length by rw [← HLK.out];exact hat));have dd1:(0:Int)≤(at_:Int):=(by omega);have dd2:(at_:Int)<(k:Int):=(by omega);clear S'))
    | (at_builtin;have _t:=S4;go_must (refine wpList_append_sep rfl _ _ _ rfl 138 i0 _ 4 32 Tryz.underlying83 hi0 hz0 hz1 hz2 rfl (by omega) (S4.out.junk _) 0 q m d _ rfl rfl _ 1 1 _ rfl (Rd.oneQ _ _ (nth left at_)) (one_encQ _) (by omega) (by omega) ?_;intro q5 d5 w5 S' hsz;obtain⟨w6,hrun,T⟩:=copy_shift S'.drew 1 rfl 83 83 3 138 Tryz.underlying83 infQ (by omega) (one_encQ left) at_ hat;have S6:Hid (Sep w0 w6 [.own 138 4 q5 (m+1) d5 (encQ (out ++ [nth left at_])),.own 138 4 ql (k - 1) cl (encQ (left.eraseIdx at_)),.blk gi 3 #[.int .i64 ((((m+1:Nat):Int):Int) - 1)],.blk gp 25 #[.slice pp np cp]]):=(by rw [encQ_append,encQ_eraseIdx];exact T);clear S' T hsz)))
   have kc:k≤cl:=own_cap (S4.out.own 1 rfl)
   obtain⟨b,hb⟩:∃ b,b=at_+1:=⟨_,rfl⟩
   have hc:cutp ql cl at_ 4=ql.map (fun x=>x.add (at_*4)):=by unfold cutp;rw [if_neg (by omega)];try simp
   rw [← hb] at hrun
   have hrun2:=hrun
   rw [hc] at hrun2
   clear hc
   have e1:(at_:Int)+1=(b:Int):=by omega
   have dd3:(b:Int)≤(k:Int):=by omega
   have dd5:b≤k:=by omega
   have dd4:(0:Int)≤(b:Int):=by omega
   have dw:IntKind.i64.wrap (b:Int)=(b:Int):=by rw [IntKind.wrap_i64];omega
   have dd8:(b:Int)≤100000:=by omega
   have dd9:at_≤k:=by omega
   have dd10:¬ cl=at_:=by omega
   have dd6:b≤cl:=by omega
   have dd7:(b:Int)≤(cl:Int):=by omega
   clear S S4 HP HO hb
   go_region_with fail
   go_wp2
   go_roundg (gk - 1)
   case measure=>omega
   case rel=>exact⟨out ++ [nth left at_],left.eraseIdx at_,q5,ql,m+1,k - 1,d5,cl,rfl,rfl,by omega,by omega,HX,S6⟩
end
section
open Go Go.RowKit
theorem OfG (pp:Option Addr) (np cp:Nat) (w:World):Calls Tryz.prog 205 #[.slice pp np cp] w fun e w'=>e=.returned (.func (.func 239) #[] #[.pointer (some ⟨w.heap.size+1,0,none⟩),.pointer (some ⟨w.heap.size,0,none⟩)])∧w'=((w.alloc (.cells #[.slice pp np cp] 25)).alloc (.cells #[.int .i64 (-1)] 3)):=by
 go_enter Tryz.func205,Tryz.ntmps205
 go_wp2
 go_ret
 exact⟨rfl,rfl⟩
theorem MailsG (p:Option Addr) (n c:Nat) (L:List Sq) (pp:Option Addr) (np cp:Nat) (ps:List Int) (w:World) (hl:Rd w 4 p n (encQ L)) (hps:Rd w 1 pp np (encI ps)) (hn:n≤100000) :
  Calls Tryz.prog 146 #[.slice p n c,.slice pp np cp] w fun e w'=>∃ (P:List Sq) (q:Option Addr) (c':Nat),P.Perm L∧e=.returned (.slice q n c')∧Sep w w' [.own 138 4 q n c' (encQ P)]:=by
 have S0:=Lib.hid (((Sep.start w).al #[.slice pp np cp] 25 w.heap.size rfl).al #[.int .i64 (-1)] 3 (w.heap.size+1) (by simp))
 have HO:=Lib.hid (OrderedQ p n c L (w.heap.size+1) w.heap.size pp np cp ps _ w S0.out hl hps hn)
 clear hl hps
 go_enter Tryz.func146,Tryz.ntmps146
 go_wp2_with (first | (go_at_call 205;refine(OfG _ _ _ _).mono ?_;rintro e w9 ⟨rfl,rfl⟩) | (go_at_call 211;go_must (refine HO.out.mono ?_;rintro e w1 ⟨P,q,c1,hP,rfl,Z⟩;have HP:=Lib.hid hP;have S1:=Lib.hid Z;clear hP Z)))
 go_ret
 exact⟨P,q,c1,HP.out,rfl,S1.out⟩
def upTo (n k:Nat):List Int:=(List.range n).map fun v=>if v<k then (v:Int) else 0
theorem upTo_len (n k:Nat):(upTo n k).length=n:=by simp [upTo]
theorem upTo_zero (n:Nat):upTo n 0=List.replicate n 0:=by
 apply List.ext_getElem <;> simp [upTo]
theorem upTo_all (n:Nat):upTo n n=(List.range n).map fun v:Nat=>(v:Int):=by
 apply List.ext_getElem
 ·simp [upTo]
 ·intro i h1 h2
  have h3:i<n:=by rw [upTo_len] at h1;exact h1
  simp [upTo,h3]
theorem upTo_set {n k:Nat} (_:k<n):(encI (upTo n k)).set k (.int .i64 k)=encI (upTo n (k+1)):=by
 apply List.ext_getElem
 ·simp [encI,upTo]
 ·intro i h1 h2
  have h3:i<n:=by rw [encI_len,upTo_len] at h2;exact h2
  rw [List.getElem_set]
  by_cases e:k=i
  ·subst e;simp [encI,upTo]
  ·rw [if_neg e]
   simp only [encI,upTo,List.getElem_map,List.getElem_range]
   by_cases h4:i<k
   ·rw [if_pos h4,if_pos (by omega)]
   ·rw [if_neg h4,if_neg (by omega)]
theorem OrderG (n:Nat) (pp:Option Addr) (np cp:Nat) (ps:List Int) (w:World) (hps:Rd w 1 pp np (encI ps)) (hn:n≤1000) :
  Calls Tryz.prog 139 #[.int .i64 n,.slice pp np cp] w fun e w'=>∃ (P:List Int) (q:Option Addr) (c':Nat),P.Perm ((List.range n).map fun v:Nat=>(v:Int))∧e=.returned (.tuple #[.slice q n c',.int .i64 0])∧Sep w w' [.own 3 1 q n c' (encI P)]:=by
 obtain⟨i0,hi0,hz0,hz1,hz2⟩:=info_parts infI
 have d1:decide ((n:Int)<0)=false:=by simp
 have d2:decide (1000<(n:Int))=false:=by simp;omega
 have HPS:=Lib.hid hps
 clear hps
 go_enter Tryz.func139,Tryz.ntmps139
 go_wp2_with (at_make;go_must (refine wpList_make_sep rfl _ _ _ rfl 3 i0 _ 1 Tryz.underlying25 hi0 hz0 hz1 (n:Int) n rfl rfl rfl (by rw [hz2];omega) (by unfold maxLen;omega) (Sep.start w) ?_;intro w1 S';rw [made_encI,← upTo_zero] at S';have S1:=Lib.hid S';clear S'))
 generalize (some ⟨w.heap.size,0,none⟩:Option Addr)=q at *
 go_loopw [7,18] (fun _ i wr=>∃ k:Nat,k≤n∧i=.int .i64 k∧Sep w wr [.own 3 1 q n n (encI (upTo n k))]) (fun _ i _=>n - (intOf i).toNat)
 case atStart=>exact⟨0,Nat.zero_le _,rfl,S1.out⟩
 case round =>
  clear S1
  obtain⟨k,hk,rfl,S⟩:=hrel
  have pq:=(S.rdx 0 rfl).ptr
  by_cases hlt:k<n
  ·have d3:(0:Int)≤k:=by omega
   have d4:(k:Int)<n:=by omega
   have fz:=own_frozen (S.own 0 rfl) (by omega) k
   have cz:=own_cell (S.own 0 rfl) (k:=k) (by omega)
   have HS:=Lib.hid (S.setRow 0 rfl k (by omega) (.int .i64 k))
   rw [upTo_set hlt] at HS
   clear S
   go_wp2
   go_roundw
   case rel=>exact⟨k+1,by omega,by go_num,HS.out⟩
   case measure=>simp [intOf];omega
  ·obtain rfl:k=n:=by omega
   have S2:=Lib.hid (((Sep.start wr).al #[.slice pp np cp] 25 wr.heap.size rfl).al #[.int .i64 (-1)] 3 (wr.heap.size+1) (by simp))
   have HO:=Lib.hid (OrderedI q k k (upTo k k) (wr.heap.size+1) wr.heap.size pp np cp ps _ wr S2.out (S.rdx 0 rfl) (HPS.out.ext S.ext) (by omega))
   rw [upTo_all] at HO
   have SH:=Lib.hid S;clear S
   clear pq
   go_wp2_with (first | (go_at_call 205;refine(OfG _ _ _ _).mono ?_;rintro e w9 ⟨rfl,rfl⟩) | (go_at_call 204;go_must (refine HO.out.mono ?_;rintro e w4 ⟨P,q1,c1,hP,rfl,Z⟩;have HP:=Lib.hid hP;have S3:=Lib.hid (SH.out.comp Z);clear hP Z)))
   go_ret2
   exact⟨P,q1,c1,HP.out,rfl,S3.out.pick [0] (by decide) rfl⟩
end
section
open Go Go.RowKit Go.Sort
theorem ext_grow (W:World) (q:Nat) (os:Array Obj):Ext W (grow (W.drewN q) os) :=
 ⟨rfl,rfl,rfl,by show W.heap.size≤(W.heap ++ os).size;simp,fun k hk=>by show (W.heap ++ os)[k]?=W.heap[k]?;rw [Array.getElem?_append_left hk]⟩
theorem comparedE (x y:Ky) (W:World):Calls Tryz.prog 150 #[.agg #[.int .i64 x.s,.int .i64 x.r,.int .i64 x.v],.agg #[.int .i64 y.s,.int .i64 y.r,.int .i64 y.v]] W fun e w'=>e=.returned (.int .i64 (cmpK x y))∧Ext W w' :=
 (comparedG x y W).mono fun _ _ ⟨h,q,os,h2⟩=>⟨h,h2 ▸ ext_grow W q os⟩
theorem cmpK_lt {x y:Sq} (h:keyLt x y=true):cmpK x.ky y.ky<0:=by
 have:=ltOf_ky x y
 rw [h] at this
 unfold ltOf at this
 simpa using this
theorem stMayG (x:Sq) (w:World) (h:mayB x=true):Calls Tryz.prog 109 #[.agg #[.int .i64 x.s,.int .i64 x.r,.int .i64 x.v,.int .i64 x.d]] w fun e w'=>e=.returned (.bool true)∧Ext w w':=by
 have S0:=Lib.hid ((Sep.start w).al #[.int .i64 x.s,.int .i64 x.r,.int .i64 x.v,.int .i64 x.d] 146 w.heap.size rfl)
 have HE:=Lib.hid ((S0.out.alrw #[.int .i64 x.s,.int .i64 x.r,.int .i64 x.v,.int .i64 x.d] 138 4 1 (w.heap.size+1) (by simp) (by decide) (by simp)))
 have HC:=Lib.hid (CheckM (some ⟨w.heap.size+1,0,none⟩) 1 1 [x] _ (HE.out.rdx 0 rfl) (fun y hy=>by rw [List.mem_singleton] at hy;subst hy;exact h))
 clear h
 go_enter Tryz.func109,Tryz.ntmps109
 go_wp2_with (go_at_call 143;go_must (refine HC.out.mono ?_;rintro e w' ⟨rfl,hb⟩;have HX:=Lib.hid (HE.out.call hb).ext;clear hb))
 go_ret
 exact⟨rfl,HX.out⟩
theorem rightG (p:Option Addr) (n c:Nat) (l:List Sq) (N:Nat) (w:World) (hl:Rd w 4 p n (encQ l)) (hu:KeysUp l) (hm:∀ x∈l,mayB x=true∧x.v<N) (hn:n≤100000) :
  Calls Tryz.prog 142 #[.slice p n c,.int .i64 N] w fun e w'=>e=.returned (.bool true)∧Ext w w':=by
 have p1:=hl.ptr
 have n1:=hl.small
 have L1:=Lib.hid hl.nQ
 have HM:=Lib.hid hm
 have HU:=Lib.hid hu
 have HL:=Lib.hid hl
 clear hl hm hu
 go_enter Tryz.func142,Tryz.ntmps142
 go_wp2
 go_loopw [5,6,9] (fun _ _ i wr=>∃ k:Nat,k≤n∧i=.int .i64 k∧Ext w wr) (fun _ _ i _=>n - (intOf i).toNat)
 case atStart=>exact⟨0,Nat.zero_le _,rfl,Below.refl _ _⟩
 case round =>
  obtain⟨k,hk,rfl,hE⟩:=hrel
  have HE:=Lib.hid hE
  by_cases hlt:k<n
  ·obtain⟨g1,g2,g3,g4⟩:=(HL.out.ext hE).cQ hlt
   have hkl:k<l.length:=by rw [← L1.out];exact hlt
   obtain⟨hx,hv⟩:=HM.out (nth l k) (nth_mem hkl)
   obtain⟨x,hxl⟩:∃ x,nth l k=x:=⟨_,rfl⟩
   rw [hxl] at g1 g2 g3 g4 hx hv
   have S1:=Lib.hid (((Sep.start w).call hE).al #[.int .i64 x.s,.int .i64 x.r,.int .i64 x.v,.int .i64 x.d] 146 wr.heap.size rfl)
   have HC:=Lib.hid (fun W=>stMayG x W hx)
   have d1:(0:Int)≤k:=by omega
   have d2:(k:Int)<n:=by omega
   have e1:decide ((N:Int)≤x.v)=false:=by simpa using hv
   have HXL:=Lib.hid hxl
   clear hE hx hv hxl
   by_cases hk0:k=0
   ·subst hk0
    clear HXL hkl
    go_wp2
    obtain⟨W1,hW1⟩:∃ W1,wr.alloc (.cells #[.int .i64 x.s,.int .i64 x.r,.int .i64 x.v,.int .i64 x.d] 146)=W1:=⟨_,rfl⟩
    rw [hW1]
    rw [hW1] at S1
    obtain⟨a0,a1,a2,a3⟩:=bkc0c1c2c3 (S1.out.blk 0 rfl)
    simp at a0 a1 a2 a3
    have u0:=fun x:ExtOf W1=>x.ext.cell a0
    have u1:=fun x:ExtOf W1=>x.ext.cell a1
    have u2:=fun x:ExtOf W1=>x.ext.cell a2
    have u3:=fun x:ExtOf W1=>x.ext.cell a3
    clear hW1
    refine wp_region_ext (by kernel_rfl) (by kernel_rfl) ?_
    repeat (go_big_quiet_step (((go_at_call 109;exact Calls.ext_of (HC.out _)))))
    refine wpQuiet_nil ?_
    rintro w9 ⟨⟨_,hb9⟩,rfl⟩
    have HX:=Lib.hid (Ext.trans S1.out.ext hb9)
    clear hb9
    go_wp2
    go_roundw
    case rel=>exact⟨1,by omega,by go_num,HX.out⟩
    case measure=>simp [intOf];omega
   ·obtain⟨j,hj⟩:∃ j,k=j+1:=⟨k - 1,by omega⟩
    have q1:(k:Int) - 1=(j:Int):=by omega
    have q2:(0:Int)≤(j:Int):=by omega
    have q3:(j:Int)≤100000:=by omega
    have q4:(j:Int)<n:=by omega
    have q5:(0:Int)<(k:Int):=by omega
    have q6:decide ((0:Int)<(k:Int))=true:=by simpa using q5
    have q7:decide (0<k)=true:=by simp;omega
    have hjl:j<l.length:=by omega
    have hkj:keyLt (nth l j) (nth l k)=true:=by
     rw [nth_eq hjl,nth_eq hkl]
     exact(List.pairwise_iff_getElem.1 HU.out) j k hjl hkl (by omega)
    rw [HXL.out] at hkj
    have HCC:=Lib.hid (fun W=>comparedE (nth l j).ky x.ky W)
    have hcc:=cmpK_lt hkj
    obtain⟨cc,hcce⟩:∃ cc,cmpK (nth l j).ky x.ky=cc:=⟨_,rfl⟩
    rw [hcce] at HCC hcc
    have e2:decide (0≤cc)=false:=by simpa using hcc
    obtain⟨y1,y2,y3,y4⟩:=(HL.out.ext S1.out.ext).cQ (k:=j) (by omega)
    have hjn:j<n:=by omega
    clear hcc hcce hkj HXL hkl hjl hj hk0
    generalize nth l j=y at *
    go_wp2
    obtain⟨W1,hW1⟩:∃ W1,wr.alloc (.cells #[.int .i64 x.s,.int .i64 x.r,.int .i64 x.v,.int .i64 x.d] 146)=W1:=⟨_,rfl⟩
    rw [hW1]
    rw [hW1] at S1 y1 y2 y3 y4
    obtain⟨a0,a1,a2,a3⟩:=bkc0c1c2c3 (S1.out.blk 0 rfl)
    simp at a0 a1 a2 a3
    have u0:=fun x:ExtOf W1=>x.ext.cell a0
    have u1:=fun x:ExtOf W1=>x.ext.cell a1
    have u2:=fun x:ExtOf W1=>x.ext.cell a2
    have u3:=fun x:ExtOf W1=>x.ext.cell a3
    have v1:=fun x:ExtOf W1=>x.ext.cell y1
    have v2:=fun x:ExtOf W1=>x.ext.cell y2
    have v3:=fun x:ExtOf W1=>x.ext.cell y3
    clear hW1
    refine wp_region_ext (by kernel_rfl) (by kernel_rfl) ?_
    repeat (go_big_quiet_step (((first | (go_at_call 109;exact Calls.ext_of (HC.out _)) | (go_at_call 150;exact Calls.ext_of (HCC.out _))))))
    refine wpQuiet_nil ?_
    rintro w9 ⟨⟨_,hb9⟩,rfl⟩
    have HX:=Lib.hid (Ext.trans S1.out.ext hb9)
    clear hb9
    go_wp2
    go_roundw
    case rel=>exact⟨k+1,by omega,by go_num,HX.out⟩
    case measure=>simp [intOf];omega
  ·clear hE
   go_wp2
   go_ret
   exact⟨rfl,HE.out⟩
theorem beyondCl (gn:Nat) (x:Sq) (N:Nat) (w:World) (hB:Blk w gn 3 #[.int .i64 N]) (hv:x.v<N):Calls Tryz.prog 138 #[.agg #[.int .i64 x.s,.int .i64 x.r,.int .i64 x.v,.int .i64 x.d],.pointer (some ⟨gn,0,none⟩)] w fun e w'=>e=.returned (.bool false)∧Ext w w':=by
 have b0:w.cell? ⟨gn,0,none⟩=some (.int .i64 N):=hB.cell 0
 have bz:=hB.lt
 have HE:=Lib.hid ((Sep.start w).al #[.int .i64 x.s,.int .i64 x.r,.int .i64 x.v,.int .i64 x.d] 138 w.heap.size rfl).ext
 have e1:decide ((N:Int)≤x.v)=false:=by simpa using hv
 clear hB hv
 go_enter Tryz.func138,Tryz.ntmps138
 go_wp2
 go_ret
 exact⟨rfl,HE.out⟩
theorem IndexBeyond (p:Option Addr) (n c gn:Nat) (l:List Sq) (N:Nat) (w:World) (hl:Rd w 4 p n (encQ l)) (hB:Blk w gn 3 #[.int .i64 N]) (hv:∀ x∈l,x.v<N) :
  Calls Tryz.prog 210 #[.slice p n c,.func (.func 138) #[] #[.pointer (some ⟨gn,0,none⟩)]] w fun e w'=>e=.returned (.int .i64 (-1))∧Ext w w':=by
 have p1:=hl.ptr
 have n1:=hl.small
 have L1:=Lib.hid hl.nQ
 have HV:=Lib.hid hv
 have HL:=Lib.hid hl
 have HB:=Lib.hid hB
 clear hl hB hv
 go_enter Tryz.func210,Tryz.ntmps210
 go_wp2
 go_loopw [5,8] (fun _ i wr=>∃ k:Nat,k≤n∧i=.int .i64 k∧Ext w wr) (fun _ i _=>n - (intOf i).toNat)
 case atStart=>exact⟨0,Nat.zero_le _,rfl,Below.refl _ _⟩
 case round =>
  obtain⟨k,hk,rfl,hE⟩:=hrel
  have HE:=Lib.hid hE
  by_cases hlt:k<n
  ·obtain⟨g1,g2,g3,g4⟩:=(HL.out.ext hE).cQ hlt
   have hkl:k<l.length:=by rw [← L1.out];exact hlt
   have HC:=Lib.hid (beyondCl gn (nth l k) N wr (HB.out.ext hE) (HV.out _ (nth_mem hkl)))
   have d1:(0:Int)≤k:=by omega
   have d2:(k:Int)<n:=by omega
   clear hE hkl
   generalize nth l k=x at *
   go_wp2_with (go_at_call 138;go_must (refine HC.out.mono ?_;rintro e w' ⟨rfl,hb⟩;have HX:=Lib.hid (Ext.trans HE.out hb);clear hb))
   go_roundw
   case rel=>exact⟨k+1,by omega,by go_num,HX.out⟩
   case measure=>simp [intOf];omega
  ·clear hE
   go_wp2
   go_ret
   exact⟨rfl,HE.out⟩
theorem ContainsBeyond (p:Option Addr) (n c gn:Nat) (l:List Sq) (N:Nat) (w:World) (hl:Rd w 4 p n (encQ l)) (hB:Blk w gn 3 #[.int .i64 N]) (hv:∀ x∈l,x.v<N) :
  Calls Tryz.prog 144 #[.slice p n c,.func (.func 138) #[] #[.pointer (some ⟨gn,0,none⟩)]] w fun e w'=>e=.returned (.bool false)∧Ext w w':=by
 have HC:=Lib.hid (IndexBeyond p n c gn l N w hl hB hv)
 clear hl hB hv
 go_enter Tryz.func144,Tryz.ntmps144
 go_wp2_with (go_at_call 210;refine HC.out.mono ?_;rintro e w' ⟨rfl,hb⟩;have HX:=Lib.hid hb;clear hb)
 go_ret
 exact⟨rfl,HX.out⟩
end
section
open Go Go.RowKit
structure SameX (B:Nat) (X:Nat→Prop) (w w':World):Prop where
 os:w'.os=w.os
 tape:w'.tape=w.tape
 output:w'.output=w.output
 block:∀ k,k<B→¬ X k→w'.heap[k]?=w.heap[k]?
theorem SameX.refl (B:Nat) (X:Nat→Prop) (w:World):SameX B X w w:=⟨rfl,rfl,rfl,fun _ _ _=>rfl⟩
theorem SameX.mono {B B':Nat} {X:Nat→Prop} {w w':World} (h:SameX B X w w') (hB:B'≤B):SameX B' X w w':=⟨h.os,h.tape,h.output,fun k hk hx=>h.block k (by omega) hx⟩
theorem SameX.trans {B:Nat} {X:Nat→Prop} {w w1 w2:World} (h:SameX B X w w1) (g:SameX B X w1 w2):SameX B X w w2:=⟨g.os.trans h.os,g.tape.trans h.tape,g.output.trans h.output,fun k hk hx=>(g.block k hk hx).trans (h.block k hk hx)⟩
theorem SameX.symm {B:Nat} {X:Nat→Prop} {w w1:World} (h:SameX B X w w1):SameX B X w1 w:=⟨h.os.symm,h.tape.symm,h.output.symm,fun k hk hx=>(h.block k hk hx).symm⟩
theorem SameX.of_below {B:Nat} {X:Nat→Prop} {w w1:World} (h:Below B w w1):SameX B X w w1:=⟨h.os,h.tape,h.output,fun k hk _=>h.block k hk⟩
def FarX {β:Type} (B:Nat) (X:Nat→Prop) (I:β→World→Prop):Prop :=
 ∀ s W W',B≤W.heap.size→B≤W'.heap.size→SameX B X W W'→I s W→I s W'
theorem FarX.below {β:Type} {B:Nat} {X:Nat→Prop} {I:β→World→Prop} (h:FarX B X I) {s:β} {W W':World} (hB:B≤W.heap.size) (hb:Below B W W') (hs:I s W):I s W':=h s W W' hB (by have:=hb.size;omega) (.of_below hb) hs
theorem FarX.putObj {β:Type} {B:Nat} {X:Nat→Prop} {I:β→World→Prop} (h:FarX B X I) {s:β} {W:World} {l:Nat} {o:Obj} (o':Obj) (hs:I s W) (hB:B≤l) (hl:W.heap[l]?=some o):I s (W.putObj l o') :=
 h.below (by have:=(Array.getElem?_eq_some_iff.1 hl).1;omega) ((Below.refl B W).grown (grownBy_putObj' W l o') (by have:=(Array.getElem?_eq_some_iff.1 hl).1;omega) (fun k e=>by cases e;exact hB)) hs
end
section
open Go Go.RowKit
def SeqC {α:Type} (F:Fence) (n:Nat) (P:Program) (g:Nat) (lb:Array Value) (encs:α→Array Value) (A:World→List α→α→World→Prop) (Kp:World→World→Prop) (S Sp Q:List α→Prop) (w:World):Prop :=
 ∀ (l:Nat) (J Jx:List α→World→Prop) (W:World),Below w.heap.size w W→OwnFrom W.heap.size J→OwnFrom W.heap.size Jx →
  (∀ pre V,J pre V→Q pre) →
  (∀ pre x V0 V,J pre V0→Ext V0 V→A V0 pre x V→YieldAt F (n - 1) P l (encs x) V fun e V' =>
   (e=.returned (.bool true)∧J (pre ++ [x]) V'∧Kp V V')∨(e=.returned (.bool false)∧Jx (pre ++ [x]) V')) →
  J [] W→CallsIn F n P g (#[.func (.yield l) #[] #[]] ++ lb) W fun e V=>(∃ v,e=.returned v)∧((∃ xs,S xs∧J xs V)∨(∃ pre,Sp pre∧Jx pre V))
section
variable {F:Fence} {n:Nat} {P:Program} {w:World}
theorem wpIn_rangeFunc_toldC {α:Type} {g:Operand} {ps:Array Tmp} {assign body:Code} {Q:Exit→Act→World→Prop} {a:Act}
  (hro:F.round=none) (h1:1≤n) {gf:Nat} {lb:Array Value} (hg:a.eval g=.func (.func gf) #[] lb) (hF:F.fn gf) (eg:∀ args w,(callFunc gf args).run P w=.ok (.enter gf args) w)
  {encs:α→Array Value} {A:World→List α→α→World→Prop} {Kp:World→World→Prop} {S Sp Q':List α→Prop} {w0:World} (hseq:SeqC F (n - 1) P gf lb encs A Kp S Sp Q' w0)
  (hKt:∀ {X Y Z:World},Kp X Y→Kp Y Z→Kp X Z) (hKb:∀ (W:World) (l:Nat) (o o':Obj),w.heap.size≤l→W.heap[l]?=some o→o.isCells=false→o.isWalk=false→Kp W (W.putObj l o')) (hb0:Below w0.heap.size w0 w) (hps:∀ x,(encs x).size=ps.size)
  (I:List α→World→Prop) (Ix:Code→List α→World→Prop) (hI:OwnFrom w.heap.size I) (hIx:∀ c,OwnFrom w.heap.size (Ix c)) (hQ:∀ pre W,I pre W→Q' pre) (h0:I [] w)
  (Ax:List α→α→Act→World→Prop) (hAx:∀ pre x a',OwnFrom w.heap.size (fun (_:Unit) W=>Ax pre x a' W))
  (hassign:∀ (l:Nat) (pre:List α) (x:α) (V0 W:World) (K:Act→World→Prop),I pre V0→Ext V0 W→A V0 pre x W→(∀ a' W',KeepsFrom w.heap.size W W'→Kp W W'→I pre W'→Ax pre x a' W'→K a' W') →
   assign.wpIn (F.inRound l) (n - 1 - 1) P (Exit.then K (fun _ _ _=>False)) { tmps:=(ps.zip (encs x)).foldl (fun t (p,v)=>t.setIfInBounds p v) a.tmps,defers:=[] } W)
  (hbody:∀ (l:Nat) (pre:List α) (x:α) (a':Act) (W:World),I pre W→Ax pre x a' W→body.wpIn (F.inRound l) (n - 1 - 1) P (ownPostG w.heap.size Kp I Ix (pre ++ [x]) W) a' W)
  (hdone:∀ (D:Nat) (xs:List α) (W:World),w.heap.size≤D→S xs→I xs W→W.heap[D]?=some (.deferred (some []))→Q .normal { a with defers:={ target:=.collected D,args:=#[] } :: a.defers } W)
  (hstop:∀ (D:Nat) (c:Code) (pre:List α) (W:World),w.heap.size≤D→Sp pre→Ix c pre W→W.heap[D]?=some (.deferred (some []))→c.wpIn F n P Q { a with defers:={ target:=.collected D,args:=#[] } :: a.defers } W) :
  (Code.rangeFunc g ps assign body).wpIn F n P Q a w:=by
 refine wpIn_rangeFunc fun fn hfn=>?_
 rw [hro]
 have hB:w.heap.size≤w.heap.size+1:=Nat.le_succ _
 obtain⟨mk,hmk⟩:∃ mk:LoopState→Option Code→Loop,mk=fun st pe=>{ state:=st,pending:=pe,fn,tmps:=a.tmps,params:=ps,assign,body,defers:=w.heap.size }:=⟨_,rfl⟩
 obtain⟨V,hV⟩:∃ V,(w.alloc (.deferred (some []))).alloc (.loop (mk .ready none))=V:=⟨_,rfl⟩
 have hVl:V.heap[w.heap.size+1]?=some (.loop (mk .ready none)):=by
  have h:=World.alloc_heap_new (w.alloc (.deferred (some []))) (.loop (mk .ready none))
  rw [World.size_alloc] at h
  rw [← hV];exact h
 have hVd:V.heap[w.heap.size]?=some (.deferred (some [])):=by
  rw [← hV];exact(Below.heap_alloc _ _ _ (by simp)).trans (World.alloc_heap_new w _)
 have hVb:Below w0.heap.size w0 V:=by
  rw [← hV];exact hb0.trans ((((Below.refl _ w).alloc (Nat.le_refl _) _).alloc (by simp) _).mono hb0.size)
 have hVs:w.heap.size≤V.heap.size:=by have:=(Array.getElem?_eq_some_iff.1 hVd).1;omega
 have hV0:I [] V:=by rw [← hV];exact(hI.alloc _ (hI.alloc _ h0))
 have lV:w.heap.size+1<V.heap.size:=(Array.getElem?_eq_some_iff.1 hVl).1
 have keep:∀ {Y Z:World} {row:Option Nat} {k:Nat} {o:Obj},Y.grownBy Z row→(∀ r,row=some r→V.heap.size≤r∧∃ o:Obj,Y.heap[r]?=some o∧o.isCells=false)→k<V.heap.size→Y.heap[k]?=some o→Z.heap[k]?=some o:=fun {Y Z row k o} hg hr hk hY=>(hg.block k (Array.getElem?_eq_some_iff.1 hY).1 (fun e=>by have:=(hr k e.symm).1;omega)).trans hY
 have loose:∀ {Y:World} {row:Option Nat},(∀ r,row=some r→V.heap.size≤r∧∃ o:Obj,Y.heap[r]?=some o∧o.isCells=false)→∀ r,row=some r→w.heap.size≤r∧∃ o:Obj,Y.heap[r]?=some o∧o.isCells=false:=fun hr r e=>⟨Nat.le_trans hVs (hr r e).1,(hr r e).2⟩
 refine⟨w.heap.size+1,[{ target:=.collected w.heap.size,args:=#[] }],V,{ target:=.fn (.func gf) lb,args:=#[.func (.yield (w.heap.size+1)) #[] #[]] },V,gf,#[.func (.yield (w.heap.size+1)) #[] #[]] ++ lb,V,?_,?_,?_,?_,fun _=>h1,?_⟩
 ·rw [← hV,hmk];exact run_enterLoop_outer _ _ _ _ _
 ·simp only [resolve,hg];simp [go_sem]
 ·intro f' hf';simp [Target.leads] at hf';subst hf';exact hF
 ·simp [invoke,go_sem,eg]
 refine(hseq (w.heap.size+1)
  (fun pre W=>I pre W∧W.heap[w.heap.size+1]?=some (.loop (mk .ready none))∧W.heap[w.heap.size]?=some (.deferred (some [])))
  (fun pre W=>∃ c,Ix c pre W∧W.heap[w.heap.size+1]?=some (.loop (mk .done (some c)))∧W.heap[w.heap.size]?=some (.deferred (some []))) V hVb
  (fun s Y Z row h hg hr=>⟨hI s Y Z row h.1 hg (loose hr),keep hg hr lV h.2.1,keep hg hr (by omega) h.2.2⟩)
  (fun s Y Z row h hg hr=>h.elim fun c h=>⟨c,hIx c s Y Z row h.1 hg (loose hr),keep hg hr lV h.2.1,keep hg hr (by omega) h.2.2⟩)
  (fun pre W h=>hQ pre W h.1) ?_ ⟨hV0,hVl,hVd⟩).mono ?_
 ·rintro pre x V0 W ⟨hi0,hl0,hk0⟩ hE0 hax
  have hl:W.heap[w.heap.size+1]?=some (.loop (mk .ready none)):=(hE0.block _ (Array.getElem?_eq_some_iff.1 hl0).1).trans hl0
  have hk:W.heap[w.heap.size]?=some (.deferred (some [])):=(hE0.block _ (Array.getElem?_eq_some_iff.1 hk0).1).trans hk0
  have hlt:w.heap.size+1<W.heap.size:=(Array.getElem?_eq_some_iff.1 hl).1
  have hy:=run_yield (P:=P) (args:=encs x) hl (by rw [hmk];exact hps x)
  rw [hmk] at hy
  refine⟨fn,_,assign,body,hy,roundIn_of_wpIn hfn (hassign _ pre x V0 W _ hi0 hE0 hax fun a' W1 hK1 hp1 hi1 hax1=>?_)⟩
  have hl1:W1.heap[w.heap.size+1]?=some (.loop (mk .ready none)):=hK1.same _ _ hB hl rfl
  have hk1:W1.heap[w.heap.size]?=some (.deferred (some [])):=hK1.same _ _ (Nat.le_refl _) hk rfl
  have hlt1:w.heap.size+1<W1.heap.size:=(Array.getElem?_eq_some_iff.1 hl1).1
  refine⟨_,run_beginRound hl1 (by rw [hmk]),?_⟩
  have l2:(W1.putObj (w.heap.size+1) (.loop { mk .ready none with state:=.busy })).heap[w.heap.size+1]?=some (.loop { mk .ready none with state:=.busy }):=World.putObj_heap_same hlt1
  have k2:(W1.putObj (w.heap.size+1) (.loop { mk .ready none with state:=.busy })).heap[w.heap.size]?=some (.deferred (some [])):=(World.putObj_heap_other (by omega)).trans hk1
  have p2:Kp W (W1.putObj (w.heap.size+1) (.loop { mk .ready none with state:=.busy })):=hKt hp1 (hKb _ _ _ _ hB hl1 rfl rfl)
  refine wpIn_mono (hbody _ pre x a' _ (hI.putObj _ hi1 hB hl1 rfl) ((hAx pre x a').putObj (s:=()) _ hax1 hB hl1 rfl)) ?_
  have fin:∀ (jump:Option Code) (Y:World),KeepsFrom w.heap.size (W1.putObj (w.heap.size+1) (.loop { mk .ready none with state:=.busy })) Y →
    (Instr.endRound (w.heap.size+1) jump).run P Y=.ok (.bool jump.isNone) (Y.putObj (w.heap.size+1) (.loop (mk (if jump.isNone then .ready else .done) jump))) ∧
    Y.heap[w.heap.size+1]?=some (.loop { mk .ready none with state:=.busy }) ∧
    (Y.putObj (w.heap.size+1) (.loop (mk (if jump.isNone then .ready else .done) jump))).heap[w.heap.size+1]?=some (.loop (mk (if jump.isNone then .ready else .done) jump)) ∧
    (Y.putObj (w.heap.size+1) (.loop (mk (if jump.isNone then .ready else .done) jump))).heap[w.heap.size]?=some (.deferred (some [])):=fun jump Y hY=>by
   have l3:=hY.same _ _ hB l2 rfl
   have hr:=run_endRound (P:=P) jump l3
   rw [hmk] at hr l3 ⊢
   exact⟨hr,l3,World.putObj_heap_same (Array.getElem?_eq_some_iff.1 l3).1,(World.putObj_heap_other (by omega)).trans (hY.same _ _ (Nat.le_refl _) k2 rfl)⟩
  rintro e a3 Y hp
  cases e with
  | normal =>
   obtain⟨hY,hkp,hi3⟩:=hp
   obtain⟨r1,r2,r3,r4⟩:=fin none Y hY
   exact⟨_,_,r1,.inl ⟨rfl,⟨hI.putObj _ hi3 hB r2 rfl,r3,r4⟩,hKt (hKt p2 hkp) (hKb _ _ _ _ hB r2 rfl rfl)⟩⟩
  | ret =>
   obtain⟨r1,r2,r3,r4⟩:=fin (some .ret) Y hp.1
   exact⟨_,_,r1,.inr ⟨rfl,.ret,(hIx _).putObj _ hp.2 hB r2 rfl,r3,r4⟩⟩
  | exit id =>
   obtain⟨r1,r2,r3,r4⟩:=fin (some (.exit id)) Y hp.1
   exact⟨_,_,r1,.inr ⟨rfl,.exit id,(hIx _).putObj _ hp.2 hB r2 rfl,r3,r4⟩⟩
  | goto t =>
   obtain⟨r1,r2,r3,r4⟩:=fin (some (.goto t)) Y hp.1
   exact⟨_,_,r1,.inr ⟨rfl,.goto t,(hIx _).putObj _ hp.2 hB r2 rfl,r3,r4⟩⟩
  | panic ch=>exact hp.elim
  | outgrown=>exact hp.elim
 ·rintro e Y ⟨⟨v,rfl⟩,(⟨xs,hS,hi,hl,hk⟩ | ⟨pre,hSp,c,hi,hl,hk⟩)⟩
  ·have hr:=run_endLoop (P:=P) hl (by rw [hmk];simp)
   rw [hmk] at hr
   exact⟨none,_,hr,hdone _ xs _ (Nat.le_refl _) hS (hI.putObj _ hi hB hl (by rw [hmk];rfl)) ((World.putObj_heap_other (by omega)).trans hk)⟩
  ·have hr:=run_endLoop (P:=P) hl (by rw [hmk];simp)
   rw [hmk] at hr
   exact⟨some c,_,hr,hstop _ c pre _ (Nat.le_refl _) hSp ((hIx c).putObj _ hi hB hl (by rw [hmk];rfl)) ((World.putObj_heap_other (by omega)).trans hk)⟩
end
end
section
open Go Go.RowKit
structure Chg (M:Nat→Prop) (W W':World):Prop where
 os:W'.os=W.os
 tape:W'.tape=W.tape
 output:W'.output=W.output
 size:W.heap.size≤W'.heap.size
 block:∀ k,k<W.heap.size→¬ M k→W'.heap[k]?=W.heap[k]?
theorem Chg.refl (M:Nat→Prop) (W:World):Chg M W W:=⟨rfl,rfl,rfl,Nat.le_refl _,fun _ _ _=>rfl⟩
end
section
open Go Go.RowKit
attribute [local go_sem] Oper.semAt_some
structure LowF (n₀ b1 b2 b3:Nat) (w W:World):Prop where
 low:Below n₀ w W
 x1:W.heap[b1]?=w.heap[b1]?
 x2:W.heap[b2]?=w.heap[b2]?
 x3:W.heap[b3]?=w.heap[b3]?
theorem LowF.far {n₀ b1 b2 b3 B:Nat} {w Z W W':World} (h:LowF n₀ b1 b2 b3 w W) (h0:n₀≤B) (h1:b1<B) (h2:b2<B) (h3:b3<B) (hB:w.heap.size≤Z.heap.size) (k1:Below B Z W) (k2:Below B Z W'):LowF n₀ b1 b2 b3 w W' :=
 have e:∀ k,k<B→W'.heap[k]?=W.heap[k]?:=fun k hk=>(k2.block k hk).trans (k1.block k hk).symm
 ⟨⟨k2.os.trans (k1.os.symm.trans h.low.os),k2.tape.trans (k1.tape.symm.trans h.low.tape),k2.output.trans (k1.output.symm.trans h.low.output),Nat.le_trans hB k2.size,fun k hk=>(e k (by omega)).trans (h.low.block k hk)⟩,
  (e b1 h1).trans h.x1,(e b2 h2).trans h.x2,(e b3 h3).trans h.x3⟩
theorem front_bd8 {f:Nat→Int} {n:Nat} {k:Int} {F:List Int} (hF:IsFront f n k F):(∀ x∈F,0≤x∧x<n)∧F.length≤n :=
 ⟨fun x hx=>⟨((hF.2 x).1 hx).1,((hF.2 x).1 hx).2.1⟩,nodup_small hF.1 fun x hx=>⟨((hF.2 x).1 hx).1,((hF.2 x).1 hx).2.1⟩⟩
def StQ (b s:Nat) (i:Nat) (v:Value) (W:World):Prop:=(i=1∨i=3)→∃ q,v=.slice q 1 1∧W.ownsRow b 3 1 (.slice q 1 1) 1 (encI [(s:Int)])
theorem StQ_mono {b s:Nat}:∀ i v W W',Ext W W'→StQ b s i v W→StQ b s i v W':=fun _ _ _ _ he h hi=>let ⟨q,h1,h2⟩:=h hi;⟨q,h1,he.own h2⟩
theorem made_bool (n:Nat):(madeCells (Value.bool false).cells (n*1)).toList=List.replicate n (.bool false):=by
 apply List.ext_getElem
 ·simp [madeCells]
 ·intro i h1 h2
  simp [madeCells,Value.cells,Nat.mod_one]
theorem infB:(Tryz.prog.info? 4).map (fun i=>(i.zero,i.size,i.bytes))=some (some (.bool false),1,1):=by kernel_rfl
theorem fronts_out (n1:Nat) (hn1:1≤n1) (po:Option Addr) (no co:Nat) (pt:Option Addr) (nt ct:Nat) (pr:Option Addr) (nr cr:Nat) (pv:Option Addr) (nv cv:Nat) (b1 b2 b3 n₀ n s:Nat) (nx:Nat→List Int) (w:World) (hw:n₀≤w.heap.size)
  (hb1:Blk w b1 243 #[.slice po no co,.slice pt nt ct,.slice pr nr cr,.slice pv nv cv]) (hb2:Blk w b2 3 #[.int .i64 s]) (hb3:Blk w b3 128 #[.func (.func 266) #[.agg #[.slice po no co,.slice pt nt ct,.slice pr nr cr,.slice pv nv cv]] #[]])
  (hs:s<n) (hn:n≤200) (hno:no=n+1) (hin:InN nx n)
  (HN:∀ k,k<n→∃ q c,∀ W,Below n₀ w W→Rd W 1 q (nx k).length (encI (nx k))∧Calls Tryz.prog 266 #[.agg #[.slice po no co,.slice pt nt ct,.slice pr nr cr,.slice pv nv cv],.int .i64 k] W fun e w'=>e=.returned (.slice q (nx k).length c)∧Ext W w') :
  SeqA Fence.wide n1 Tryz.prog 229 #[.pointer (some ⟨b1,0,none⟩),.pointer (some ⟨b2,0,none⟩),.pointer (some ⟨b3,0,none⟩)] (ylE:YlOf nx n s→Array Value) (ylA w.heap.size) (KpF n₀ w.heap.size b1 b2 b3) ylS (fun pre=>pre.map (·.1.k)=List.range pre.length) n w:=by
 intro l J Jx W hW hJ hJx hY h0
 obtain⟨i0,hi0,hz0,hz1,hz2⟩:=info_parts infI
 obtain⟨j0,hj0,hy0,hy1,hy2⟩:=info_parts infB
 have hBk:=hW.size
 have q1:=hb1.lt
 have q2:=hb2.lt
 have q3:=hb3.lt
 have LW:=Lib.hid (⟨hW.mono hw,hW.block b1 q1,hW.block b2 q2,hW.block b3 q3⟩:LowF n₀ b1 b2 b3 w W)
 have HSZ:=Lib.hid (fun W'=>waysSize po no co pt nt ct pr nr cr pv nv cv W' (by omega) (by omega))
 have B1:Blk W b1 243 #[.slice po no co,.slice pt nt ct,.slice pr nr cr,.slice pv nv cv]:=LW.out.x1.trans hb1
 have B2:Blk W b2 3 #[.int .i64 s]:=LW.out.x2.trans hb2
 have B3:Blk W b3 128 #[.func (.func 266) #[.agg #[.slice po no co,.slice pt nt ct,.slice pr nr cr,.slice pv nv cv]] #[]]:=LW.out.x3.trans hb3
 have HB1:=Lib.hid hb1
 have HB2:=Lib.hid hb2
 have HB3:=Lib.hid hb3
 have HNX:=Lib.hid HN
 have HIN:=Lib.hid hin
 subst hno
 have HJ:=Lib.hid hJ;clear hJ
 have HY:=Lib.hid hY;clear hY
 clear hJx hW HN hin hb1 hb2 hb3
 have c10:=B1.cell 0
 have c11:=B1.cell 1
 have c12:=B1.cell 2
 have c13:=B1.cell 3
 have c20:=B2.cell 0
 have z1:=B1.lt
 have z2:=B2.lt
 clear B1 B2 B3
 refine callsIn_of_wp Tryz.func229 rfl trivial ?_ rfl
 simp only [Tryz.ntmps229,List.size_toArray,List.length_cons,List.length_nil,Nat.reduceAdd,Nat.reduceSub,Array.replicate_succ,Array.replicate_zero,List.push_toArray,List.append_toArray,List.nil_append,List.cons_append]
 refine wpIn_seq_k fun K hK=>wpIn_wide.2 ?_
 go_wp2_with (first
  | (at_make;go_must (refine wpList_make_sep rfl _ _ _ rfl 4 j0 _ 1 Tryz.underlying194 hj0 hy0 hy1 (n:Int) n rfl rfl rfl (by rw [hy2];omega) (by unfold maxLen;omega) S1.out ?_;intro w2 S';rw [made_bool] at S';have S2:=Lib.hid S';clear S'))
  | (go_at_call 185;go_must (refine(HSZ.out _).mono ?_;rintro e w1 ⟨rfl,hb⟩;have S1:=Lib.hid ((Sep.start W).call hb);clear hb)))
 generalize hqs:(some ⟨w1.heap.size,0,none⟩:Option Addr)=qs at *
 clear hqs S1
 have pqs:=(S2.out.rd 0 rfl (by omega)).ptr
 have c20a:=S2.out.ext.cell c20
 have z2a:=Nat.lt_of_lt_of_le z2 S2.out.ext.size
 have fz:=own_frozen (S2.out.own 0 rfl) (by omega) s
 have cz:=own_cell (S2.out.own 0 rfl) (k:=s) (by omega)
 have d1:(0:Int)≤s:=by omega
 have d2:(s:Int)<n:=by omega
 refine wpIn_seq_k fun K2 hK2=>wpIn_wide.2 ?_
 go_wp2
 refine wpIn_seq_k fun K3 hK3=>wpIn_wide.2 ?_
 obtain⟨X,hX⟩:∃ X,X=w2.setCell (adr qs s) (.bool true):=⟨_,rfl⟩
 have SX:=Lib.hid (hX ▸ (S2.out.setRow 0 rfl s (by omega) (.bool true)):Sep W X _)
 rw [seenL_0 (nx:=nx) hs] at SX
 rw [← hX]
 clear hX fz cz c20a z2a S2
 have g2:=SX.out.ext.cell c20
 have x2:=fun x:ExtOf X=>x.ext.cell g2
 refine wp_region_mix [true,false,true,false] (StQ X.heap.size s) (by kernel_rfl) (by kernel_rfl) (by kernel_rfl) StQ_mono ?_
 simp only [nfM]
 repeat (go_big_quiet_step ((fail)))
 refine wpQuiet_nil ⟨⟨fun vs W1 hE hd=>?_,fun vs W1 hE hd=>?_,trivial⟩,fun vs W1 hE hkn=>?_⟩
 ·simp [putM,execOp,go_sem]
  exact⟨fun _=>⟨_,rfl,World.ownsRow_lit (base:=X.heap.size) W1 #[.int .i64 (s:Int)] 1 hE.size (by decide) rfl⟩,Ext.alloc (Below.refl _ _) _⟩
 ·have k0:=hd 1 (by decide +kernel) rfl
  simp [putM,execOp,go_sem]
  exact⟨fun _=>k0 (.inl rfl),Below.refl _ _⟩
 simp only [knowM] at hkn
 have k3:=hkn.2.1 (.inr rfl)
 simp only [putM,List.length_cons,List.length_nil,Nat.zero_add,Nat.reduceAdd,List.drop_succ_cons,List.drop_zero]
 obtain⟨qf0,k1,ho⟩:=k3
 rw [k1]
 generalize vs 1=v20
 have S4:=Lib.hid (SX.out.fresh hE ho (Nat.le_refl _))
 have J4:=Lib.hid (HJ.out [] W W W1 (Nat.le_refl _) (Below.refl _ _) S4.out.ext h0)
 have LW4:=Lib.hid (LW.out.far (Nat.le_trans hw hBk) (by omega) (by omega) (by omega) hBk (Below.refl _ _) S4.out.ext)
 clear x2 g2 hE hkn k1 ho SX h0
 simp [Act.put]
 go_wp2
 gi_wp2
 gi_loopw [6,7,8,10,12] (fun v6 v7 _ _ _ wr=>∃ (k:Nat) (pre:List (YlOf nx n s)) (F:List Int) (q:Option Addr) (c:Nat) (Z:World),k≤n∧Z.heap.size=W.heap.size∧v6=.int .i64 k∧v7=.slice q F.length c∧IsFront (lev nx n s) n k F∧pre.map (·.1.k)=List.range k∧J pre wr∧Sep Z wr [.own 3 1 q F.length c (encI F),.own 4 1 qs n n (seenL (cutL (lev nx n s) n k) [] n)]∧LowF n₀ b1 b2 b3 w wr) (fun v6 _ _ _ _ _=>n - (intOf v6).toNat)
 case atStart=>exact⟨0,[],[(s:Int)],qf0,1,W,Nat.zero_le _,rfl,rfl,rfl,front_0 hs,rfl,J4.out,S4.out,LW4.out⟩
 case round =>
  clear S4 J4 LW4 c10 c11 c12 c13 c20 z1 z2
  obtain⟨k,pre,F,q,c,Z,hk,hZ,rfl,rfl,hF,hpre,hJs,S,hL⟩:=hrel
  have bF:=Lib.hid (front_bd8 hF)
  by_cases hl0:F.length=0
  ·obtain rfl:F=[]:=List.eq_nil_of_length_eq_zero hl0
   have HEND:Hid (ylS pre):=⟨by rw [hpre];congr 1;have:=congrArg List.length hpre;simp at this;omega,by
    have:=congrArg List.length hpre
    simp at this
    rw [this]
    cases e:hasL n (lev nx n s) k with
    | false=>rfl
    | true=>exact absurd ((front_has hF).1 e) (by simp)⟩
   have HJs:=Lib.hid hJs
   clear hF hpre hJs hL bF hl0 S
   gi_wp2
   refine⟨fun f hf=>(by cases hf),?_⟩
   gi_wp2
   go_end0
   exact⟨⟨_,rfl⟩,.inl ⟨pre,HEND.out,HJs.out⟩⟩
  ·have lf:0<F.length:=by omega
   have hkn:k<n:=has_lt hs ((front_has hF).2 lf)
   have hB:=S.blt 0 rfl lf
   have hplen:pre.length=k:=by have:=congrArg List.length hpre;simpa using this
   obtain⟨x,hx⟩:∃ x:YlOf nx n s,x.1=⟨k,F,q,c⟩:=⟨⟨⟨k,F,q,c⟩,hF,lf⟩,rfl⟩
   obtain⟨fn,tmps,assign,body,hy,hR⟩:=HY.out pre x wr hJs (by unfold ylA;rw [hx];exact⟨S.rdx 0 rfl,by have:=hB.1;show w.heap.size≤(adr q 0).block;omega⟩) (by omega)
   have hp2:Hid ((pre ++ [x]).map (·.1.k)=List.range (k+1)):=by
    unfold Hid;rw [List.map_append,hpre,List.range_succ];simp [hx]
   have hxe:ylE x=#[.int .i64 k,.slice q F.length c]:=by unfold ylE;rw [hx]
   rw [hxe] at hy
   clear hxe hx
   have c1:decide ((0:Int)<F.length)=true:=by simpa using lf
   have HF:=Lib.hid hF
   have HLW:=Lib.hid hL
   have SH:=Lib.hid S;clear S
   clear hF hL hpre hplen hl0 hJs hB
   gi_wp2
   refine hR.mono ?_
   rintro e W3 (⟨rfl,hJ3,hk3⟩ | ⟨rfl,hJx3⟩)
   ·have hs3:W.heap.size≤W3.heap.size:=by have:=SH.out.ext.size;have:=hk3.low.size;omega
    have S3:=Lib.hid (SH.out.rebase hZ hs3 (fun p hp kk hkk=>by
     have hpc:p.cells:=cells_all (Γ:=[.own 3 1 q F.length c (encI F),.own 4 1 qs n n (seenL (cutL (lev nx n s) n k) [] n)]) (fun p hp=>by
      simp only [List.mem_cons,List.not_mem_nil,or_false] at hp
      rcases hp with rfl | rfl <;> exact .inr ⟨_,_,_,_,_,_,rfl⟩) p hp
     obtain⟨o,h1,h2⟩:=hpc wr (SH.out.all p hp) kk hkk
     have h3:=SH.out.new p hp kk hkk
     rw [h1];exact hk3.up kk o (by omega) h1 h2))
    have L3:=Lib.hid (⟨HLW.out.low.trans hk3.low,hk3.x1.trans HLW.out.x1,hk3.x2.trans HLW.out.x2,hk3.x3.trans HLW.out.x3⟩:LowF n₀ b1 b2 b3 w W3)
    have HJ3:=Lib.hid hJ3
    have hZ3:(cutW W.heap.size W3).heap.size=W.heap.size:=cutW_size hs3
    have HZb:=Lib.hid (cutW_below hs3)
    generalize cutW W.heap.size W3=Z3 at *
    have HLOW:Hid (∀ wx Γ,Sep Z3 wx Γ→LowF n₀ b1 b2 b3 w wx):=fun wx Γ S=>L3.out.far (Nat.le_trans hw hBk) (by omega) (by omega) (by omega) (by omega) HZb.out (by have:=S.ext;rwa [Ext,hZ3] at this)
    have HSML:Hid (∀ (G m:List Int),(∀ x:Int,x∈G→0≤x∧x<n)→(∀ x:Int,x∈m→0≤x∧x<n)→(ahR (cutL (lev nx n s) n k) m (ahF nx (cutL (lev nx n s) n k) G [])).length≤n):=fun G m hG hm =>
     nodup_small (ahR_nodup (ahF_nodup List.nodup_nil)) fun x hx=>by
      rcases ahR_mem.1 hx with h | ⟨h,_⟩
      ·rcases ahF_mem.1 h with h | ⟨v,h3,h4,_⟩
       ·cases h
       ·obtain⟨h5,h6⟩:=hG v h3
        exact HIN.out v.toNat (by omega) x h4
      ·exact hm x h
    clear SH hJ3 hk3 hR hy HLW
    gi_wp2
    refine wpIn_wide.2 ?_
    go_loopw [8,10,12,34] (fun v8 _ _ v34 wx=>∃ (i:Nat) (l':List Int) (q2:Option Addr) (c2:Nat),i≤F.length∧v34=.int .i64 i∧v8=.slice q2 l'.length c2∧Hid (l'=ahF nx (cutL (lev nx n s) n k) (F.take i) [])∧Sep Z3 wx [.own 3 1 q2 l'.length c2 (encI l'),.own 3 1 q F.length c (encI F),.own 4 1 qs n n (seenL (cutL (lev nx n s) n k) l' n)]) (fun _ _ _ v34 _=>F.length - (intOf v34).toNat)
    case atStart=>exact⟨0,[],none,0,Nat.zero_le _,rfl,rfl,rfl,S3.out.nilrow 3 1⟩
    case round =>
     clear S3
     obtain⟨i,l',q2,c2,hi,rfl,rfl,hl,S⟩:=hrel
     have pF:=(S.rdx 1 rfl).ptr
     have hF200:F.length≤200:=by have:=bF.out.2;omega
     by_cases hif:i<F.length
     ·have g1:=(S.rdx 1 rfl).cI hif
      obtain⟨f1,f2⟩:=bF.out.1 _ (nth_mem hif)
      have hT:=ahF_take (nx:=nx) (X:=cutL (lev nx n s) n k) (l:=[]) hif
      rw [← hl.out] at hT
      have hsm:∀ j (m:List Int),m=(nx (nth F i).toNat).take j→(ahR (cutL (lev nx n s) n k) m l').length≤n:=fun j m hm=>by
       rw [hl.out]
       refine HSML.out _ m (fun x hx=>bF.out.1 x (List.mem_of_mem_take hx)) fun x hx=>?_
       rw [hm] at hx
       exact HIN.out _ (by omega) x (List.mem_of_mem_take hx)
      obtain⟨a,ha⟩:∃ a:Nat,nth F i=(a:Int):=⟨(nth F i).toNat,by omega⟩
      rw [ha] at g1 f1 f2 hT hsm
      rw [Int.toNat_natCast] at hT hsm
      have HT:=Lib.hid hT
      have HS:=Lib.hid hsm
      have HRB:=Lib.hid (HIN.out a (by omega))
      obtain⟨qr,crr,hW⟩:=HNX.out a (by omega)
      have HWW:=Lib.hid hW
      have hb3':Blk wr b3 128 #[.func (.func 266) #[.agg #[.slice po (n+1) co,.slice pt nt ct,.slice pr nr cr,.slice pv nv cv]] #[]]:=(HLOW.out _ _ S).x3.trans HB3.out
      have b3c:=hb3'.cell 0
      have b3z:=hb3'.lt
      clear hb3'
      have HC:=Lib.hid (hW wr (HLOW.out _ _ S).low).2
      have e1:(0:Int)≤i:=by omega
      have e2:(i:Int)<F.length:=by omega
      generalize nx a=RW at *
      have SH:=Lib.hid S;clear S
      clear ha hT hsm hW hl
      go_wp2_with (go_at_call 266;go_must (refine HC.out.mono ?_;rintro e w5 ⟨rfl,hb⟩;have S5:=Lib.hid (SH.out.call hb);clear hb))
      have nrw:=(HWW.out _ (HLOW.out _ _ S5.out).low).1.small
      have prw:=(HWW.out _ (HLOW.out _ _ S5.out).low).1.ptr
      go_loopw [8,12,42] (fun v8 _ v42 wx=>∃ (j:Nat) (l2:List Int) (q3:Option Addr) (c3:Nat),j≤RW.length∧v42=.int .i64 j∧v8=.slice q3 l2.length c3∧Hid (l2=ahR (cutL (lev nx n s) n k) (RW.take j) l')∧Sep Z3 wx [.own 3 1 q3 l2.length c3 (encI l2),.own 3 1 q F.length c (encI F),.own 4 1 qs n n (seenL (cutL (lev nx n s) n k) l2 n)]) (fun _ _ v42 _=>RW.length - (intOf v42).toNat)
      case atStart=>exact⟨0,l',q2,c2,Nat.zero_le _,rfl,rfl,rfl,S5.out⟩
      case round =>
       clear SH S5 HC b3c b3z g1
       obtain⟨j,l2,q3,c3,hj,rfl,rfl,hl2,S⟩:=hrel
       by_cases hlj:j<RW.length
       ·have g1:=(HWW.out _ (HLOW.out _ _ S).low).1.cI hlj
        obtain⟨r1,r2⟩:=HRB.out _ (nth_mem hlj)
        have hst:=ahR_take (X:=cutL (lev nx n s) n k) (l:=l') hlj
        rw [← hl2.out] at hst
        have hlen:=HS.out j _ rfl
        rw [← hl2.out] at hlen
        obtain⟨b,hb⟩:∃ b:Nat,nth RW j=(b:Int):=⟨(nth RW j).toNat,by omega⟩
        rw [hb] at g1 r1 r2 hst
        have e3:(0:Int)≤j:=by omega
        have e4:(j:Int)<RW.length:=by omega
        have ps:=(S.rdx 2 rfl).ptr
        have pq3:=(S.rdx 0 rfl).ptr
        have fz:=own_frozen (S.own 2 rfl) (by omega) b
        have cz:=own_cell (S.own 2 rfl) (k:=b) (by omega)
        have hat:=seenL_at (X:=cutL (lev nx n s) n k) (l:=l2) (n:=n) (v:=b) (by omega)
        have hnn:0≤b∧(b:Int)<n:=⟨by omega,r2⟩
        clear hl2 hb
        cases hsn:(decide (0≤nth (cutL (lev nx n s) n k) b) || decide ((b:Int)∈l2)) with
        | true =>
         have HST:Hid (ahR (cutL (lev nx n s) n k) (RW.take (j+1)) l'=l2):=by
          unfold Hid;rw [hst];unfold ah1;rw [if_neg]
          rw [Int.toNat_natCast]
          rw [Bool.or_eq_true,decide_eq_true_eq,decide_eq_true_eq] at hsn
          rintro⟨h1,h2⟩
          rcases hsn with h | h
          ·omega
          ·exact h2 h
         rw [hsn] at hat
         rw [List.getD_eq_getElem?_getD,hat,Option.getD_some] at cz
         have SH:=Lib.hid S;clear S
         clear hst hat hsn fz
         go_wp2
         go_roundw
         case rel=>exact⟨j+1,l2,q3,c3,by omega,by go_num,rfl,HST.out.symm,SH.out⟩
         case measure=>simp [intOf];omega
        | false =>
         have HST:Hid (ahR (cutL (lev nx n s) n k) (RW.take (j+1)) l'=l2 ++ [(b:Int)]):=by
          unfold Hid;rw [hst];unfold ah1;rw [if_pos]
          rw [Int.toNat_natCast]
          rw [Bool.or_eq_false_iff,decide_eq_false_iff_not,decide_eq_false_iff_not] at hsn
          exact⟨by omega,hsn.2⟩
         rw [hsn] at hat
         rw [List.getD_eq_getElem?_getD,hat,Option.getD_some] at cz
         have hnb:b<n:=by omega
         have SH:=Lib.hid S;clear S
         clear hst hat hsn
         have HR1:Hid (Rd ((wr.setCell (adr qs b) (.bool true)).alloc (.cells #[.int .i64 (b:Int)] 3)) 1 (some ⟨wr.heap.size,0,none⟩) 1 (encI [(b:Int)])):=by
          have h:=Rd.oneI (wr.setCell (adr qs b) (.bool true)) 3 (b:Int)
          have e:(wr.setCell (adr qs b) (.bool true)).heap.size=wr.heap.size:=by simp
          rw [e] at h;exact h
         go_wp2_with (at_builtin;go_must (refine wpList_append_sep rfl _ _ _ rfl 3 i0 _ 1 8 Tryz.underlying25 hi0 hz0 hz1 hz2 rfl (by omega) ((SH.out.setRow 2 rfl b (by omega) (.bool true)).junk _) 0 q3 l2.length c3 _ rfl rfl _ 1 1 _ rfl HR1.out (one_encI _) (by omega) (by omega) ?_;intro q' c' w7 S' hsz;have S6:=Lib.hid S';clear S' hsz))
         go_roundw
         case rel=>exact⟨j+1,l2 ++ [(b:Int)],q',c',by omega,by go_num,by rw [List.length_append];rfl,HST.out.symm,by rw [List.length_append,encI_append,← seenL_set hnb];exact S6.out⟩
         case measure=>simp [intOf];omega
       ·obtain rfl:j=RW.length:=by omega
        have HL2:Hid (l2=ahF nx (cutL (lev nx n s) n k) (F.take (i+1)) []):=by
         unfold Hid;rw [HT.out,hl2.out,List.take_length]
        have SH:=Lib.hid S;clear S
        clear hl2
        go_wp2
        go_roundw
        case rel=>exact⟨i+1,l2,q3,c3,by omega,by go_num,rfl,HL2.out,SH.out⟩
        case measure=>simp [intOf];omega
     ·obtain rfl:i=F.length:=by omega
      have hl':=hl.out
      rw [List.take_length] at hl'
      have hF2:IsFront (lev nx n s) n ((k+1:Nat):Int) l':=by
       rw [hl']
       exact front_next hs HIN.out HF.out fun v hv=>by rw [cutL_nth hv];exact cut_lt
      rw [seenL_next hF2] at S
      have HF2:=Lib.hid hF2
      have HLX:=Lib.hid (HLOW.out _ _ S)
      have HJX:=Lib.hid (HJ.out _ Z3 W3 wr (by omega) HZb.out (by have:=S.ext;rwa [Ext,hZ3] at this) HJ3.out)
      have SH:=Lib.hid S;clear S
      clear hl hl' hF2
      go_wp2
      gi_wp2
      go_roundw
      case rel=>exact⟨k+1,_,l',q2,c2,Z3,by omega,hZ3,by go_num,rfl,HF2.out,hp2.out,HJX.out,SH.out.pick [0,2] (by decide) rfl,HLX.out⟩
      case measure=>simp [intOf];omega
   ·have HX3:=Lib.hid hJx3
    clear hJx3
    gi_wp2
    go_end0
    exact⟨⟨_,rfl⟩,.inr ⟨_,by
     have h:=hp2.out
     have h2:=congrArg List.length h
     rw [List.length_map,List.length_range] at h2
     rw [h,h2],HX3.out⟩⟩
theorem fronts_in (n1:Nat) (hn1:1≤n1) (po:Option Addr) (no co:Nat) (pt:Option Addr) (nt ct:Nat) (pr:Option Addr) (nr cr:Nat) (pv:Option Addr) (nv cv:Nat) (b1 b2 b3 n₀ n s:Nat) (nx:Nat→List Int) (w:World) (hw:n₀≤w.heap.size)
  (hb1:Blk w b1 243 #[.slice po no co,.slice pt nt ct,.slice pr nr cr,.slice pv nv cv]) (hb2:Blk w b2 3 #[.int .i64 s]) (hb3:Blk w b3 128 #[.func (.func 265) #[.agg #[.slice po no co,.slice pt nt ct,.slice pr nr cr,.slice pv nv cv]] #[]])
  (hs:s<n) (hn:n≤200) (hno:no=n+1) (hin:InN nx n)
  (HN:∀ k,k<n→∃ q c,∀ W,Below n₀ w W→Rd W 1 q (nx k).length (encI (nx k))∧Calls Tryz.prog 265 #[.agg #[.slice po no co,.slice pt nt ct,.slice pr nr cr,.slice pv nv cv],.int .i64 k] W fun e w'=>e=.returned (.slice q (nx k).length c)∧Ext W w') :
  SeqA Fence.wide n1 Tryz.prog 229 #[.pointer (some ⟨b1,0,none⟩),.pointer (some ⟨b2,0,none⟩),.pointer (some ⟨b3,0,none⟩)] (ylE:YlOf nx n s→Array Value) (ylA w.heap.size) (KpF n₀ w.heap.size b1 b2 b3) ylS (fun pre=>pre.map (·.1.k)=List.range pre.length) n w:=by
 intro l J Jx W hW hJ hJx hY h0
 obtain⟨i0,hi0,hz0,hz1,hz2⟩:=info_parts infI
 obtain⟨j0,hj0,hy0,hy1,hy2⟩:=info_parts infB
 have hBk:=hW.size
 have q1:=hb1.lt
 have q2:=hb2.lt
 have q3:=hb3.lt
 have LW:=Lib.hid (⟨hW.mono hw,hW.block b1 q1,hW.block b2 q2,hW.block b3 q3⟩:LowF n₀ b1 b2 b3 w W)
 have HSZ:=Lib.hid (fun W'=>waysSize po no co pt nt ct pr nr cr pv nv cv W' (by omega) (by omega))
 have B1:Blk W b1 243 #[.slice po no co,.slice pt nt ct,.slice pr nr cr,.slice pv nv cv]:=LW.out.x1.trans hb1
 have B2:Blk W b2 3 #[.int .i64 s]:=LW.out.x2.trans hb2
 have B3:Blk W b3 128 #[.func (.func 265) #[.agg #[.slice po no co,.slice pt nt ct,.slice pr nr cr,.slice pv nv cv]] #[]]:=LW.out.x3.trans hb3
 have HB1:=Lib.hid hb1
 have HB2:=Lib.hid hb2
 have HB3:=Lib.hid hb3
 have HNX:=Lib.hid HN
 have HIN:=Lib.hid hin
 subst hno
 have HJ:=Lib.hid hJ;clear hJ
 have HY:=Lib.hid hY;clear hY
 clear hJx hW HN hin hb1 hb2 hb3
 have c10:=B1.cell 0
 have c11:=B1.cell 1
 have c12:=B1.cell 2
 have c13:=B1.cell 3
 have c20:=B2.cell 0
 have z1:=B1.lt
 have z2:=B2.lt
 clear B1 B2 B3
 refine callsIn_of_wp Tryz.func229 rfl trivial ?_ rfl
 simp only [Tryz.ntmps229,List.size_toArray,List.length_cons,List.length_nil,Nat.reduceAdd,Nat.reduceSub,Array.replicate_succ,Array.replicate_zero,List.push_toArray,List.append_toArray,List.nil_append,List.cons_append]
 refine wpIn_seq_k fun K hK=>wpIn_wide.2 ?_
 go_wp2_with (first
  | (at_make;go_must (refine wpList_make_sep rfl _ _ _ rfl 4 j0 _ 1 Tryz.underlying194 hj0 hy0 hy1 (n:Int) n rfl rfl rfl (by rw [hy2];omega) (by unfold maxLen;omega) S1.out ?_;intro w2 S';rw [made_bool] at S';have S2:=Lib.hid S';clear S'))
  | (go_at_call 185;go_must (refine(HSZ.out _).mono ?_;rintro e w1 ⟨rfl,hb⟩;have S1:=Lib.hid ((Sep.start W).call hb);clear hb)))
 generalize hqs:(some ⟨w1.heap.size,0,none⟩:Option Addr)=qs at *
 clear hqs S1
 have pqs:=(S2.out.rd 0 rfl (by omega)).ptr
 have c20a:=S2.out.ext.cell c20
 have z2a:=Nat.lt_of_lt_of_le z2 S2.out.ext.size
 have fz:=own_frozen (S2.out.own 0 rfl) (by omega) s
 have cz:=own_cell (S2.out.own 0 rfl) (k:=s) (by omega)
 have d1:(0:Int)≤s:=by omega
 have d2:(s:Int)<n:=by omega
 refine wpIn_seq_k fun K2 hK2=>wpIn_wide.2 ?_
 go_wp2
 refine wpIn_seq_k fun K3 hK3=>wpIn_wide.2 ?_
 obtain⟨X,hX⟩:∃ X,X=w2.setCell (adr qs s) (.bool true):=⟨_,rfl⟩
 have SX:=Lib.hid (hX ▸ (S2.out.setRow 0 rfl s (by omega) (.bool true)):Sep W X _)
 rw [seenL_0 (nx:=nx) hs] at SX
 rw [← hX]
 clear hX fz cz c20a z2a S2
 have g2:=SX.out.ext.cell c20
 have x2:=fun x:ExtOf X=>x.ext.cell g2
 refine wp_region_mix [true,false,true,false] (StQ X.heap.size s) (by kernel_rfl) (by kernel_rfl) (by kernel_rfl) StQ_mono ?_
 simp only [nfM]
 repeat (go_big_quiet_step ((fail)))
 refine wpQuiet_nil ⟨⟨fun vs W1 hE hd=>?_,fun vs W1 hE hd=>?_,trivial⟩,fun vs W1 hE hkn=>?_⟩
 ·simp [putM,execOp,go_sem]
  exact⟨fun _=>⟨_,rfl,World.ownsRow_lit (base:=X.heap.size) W1 #[.int .i64 (s:Int)] 1 hE.size (by decide) rfl⟩,Ext.alloc (Below.refl _ _) _⟩
 ·have k0:=hd 1 (by decide +kernel) rfl
  simp [putM,execOp,go_sem]
  exact⟨fun _=>k0 (.inl rfl),Below.refl _ _⟩
 simp only [knowM] at hkn
 have k3:=hkn.2.1 (.inr rfl)
 simp only [putM,List.length_cons,List.length_nil,Nat.zero_add,Nat.reduceAdd,List.drop_succ_cons,List.drop_zero]
 obtain⟨qf0,k1,ho⟩:=k3
 rw [k1]
 generalize vs 1=v20
 have S4:=Lib.hid (SX.out.fresh hE ho (Nat.le_refl _))
 have J4:=Lib.hid (HJ.out [] W W W1 (Nat.le_refl _) (Below.refl _ _) S4.out.ext h0)
 have LW4:=Lib.hid (LW.out.far (Nat.le_trans hw hBk) (by omega) (by omega) (by omega) hBk (Below.refl _ _) S4.out.ext)
 clear x2 g2 hE hkn k1 ho SX h0
 simp [Act.put]
 go_wp2
 gi_wp2
 gi_loopw [6,7,8,10,12] (fun v6 v7 _ _ _ wr=>∃ (k:Nat) (pre:List (YlOf nx n s)) (F:List Int) (q:Option Addr) (c:Nat) (Z:World),k≤n∧Z.heap.size=W.heap.size∧v6=.int .i64 k∧v7=.slice q F.length c∧IsFront (lev nx n s) n k F∧pre.map (·.1.k)=List.range k∧J pre wr∧Sep Z wr [.own 3 1 q F.length c (encI F),.own 4 1 qs n n (seenL (cutL (lev nx n s) n k) [] n)]∧LowF n₀ b1 b2 b3 w wr) (fun v6 _ _ _ _ _=>n - (intOf v6).toNat)
 case atStart=>exact⟨0,[],[(s:Int)],qf0,1,W,Nat.zero_le _,rfl,rfl,rfl,front_0 hs,rfl,J4.out,S4.out,LW4.out⟩
 case round =>
  clear S4 J4 LW4 c10 c11 c12 c13 c20 z1 z2
  obtain⟨k,pre,F,q,c,Z,hk,hZ,rfl,rfl,hF,hpre,hJs,S,hL⟩:=hrel
  have bF:=Lib.hid (front_bd8 hF)
  by_cases hl0:F.length=0
  ·obtain rfl:F=[]:=List.eq_nil_of_length_eq_zero hl0
   have HEND:Hid (ylS pre):=⟨by rw [hpre];congr 1;have:=congrArg List.length hpre;simp at this;omega,by
    have:=congrArg List.length hpre
    simp at this
    rw [this]
    cases e:hasL n (lev nx n s) k with
    | false=>rfl
    | true=>exact absurd ((front_has hF).1 e) (by simp)⟩
   have HJs:=Lib.hid hJs
   clear hF hpre hJs hL bF hl0 S
   gi_wp2
   refine⟨fun f hf=>(by cases hf),?_⟩
   gi_wp2
   go_end0
   exact⟨⟨_,rfl⟩,.inl ⟨pre,HEND.out,HJs.out⟩⟩
  ·have lf:0<F.length:=by omega
   have hkn:k<n:=has_lt hs ((front_has hF).2 lf)
   have hB:=S.blt 0 rfl lf
   have hplen:pre.length=k:=by have:=congrArg List.length hpre;simpa using this
   obtain⟨x,hx⟩:∃ x:YlOf nx n s,x.1=⟨k,F,q,c⟩:=⟨⟨⟨k,F,q,c⟩,hF,lf⟩,rfl⟩
   obtain⟨fn,tmps,assign,body,hy,hR⟩:=HY.out pre x wr hJs (by unfold ylA;rw [hx];exact⟨S.rdx 0 rfl,by have:=hB.1;show w.heap.size≤(adr q 0).block;omega⟩) (by omega)
   have hp2:Hid ((pre ++ [x]).map (·.1.k)=List.range (k+1)):=by
    unfold Hid;rw [List.map_append,hpre,List.range_succ];simp [hx]
   have hxe:ylE x=#[.int .i64 k,.slice q F.length c]:=by unfold ylE;rw [hx]
   rw [hxe] at hy
   clear hxe hx
   have c1:decide ((0:Int)<F.length)=true:=by simpa using lf
   have HF:=Lib.hid hF
   have HLW:=Lib.hid hL
   have SH:=Lib.hid S;clear S
   clear hF hL hpre hplen hl0 hJs hB
   gi_wp2
   refine hR.mono ?_
   rintro e W3 (⟨rfl,hJ3,hk3⟩ | ⟨rfl,hJx3⟩)
   ·have hs3:W.heap.size≤W3.heap.size:=by have:=SH.out.ext.size;have:=hk3.low.size;omega
    have S3:=Lib.hid (SH.out.rebase hZ hs3 (fun p hp kk hkk=>by
     have hpc:p.cells:=cells_all (Γ:=[.own 3 1 q F.length c (encI F),.own 4 1 qs n n (seenL (cutL (lev nx n s) n k) [] n)]) (fun p hp=>by
      simp only [List.mem_cons,List.not_mem_nil,or_false] at hp
      rcases hp with rfl | rfl <;> exact .inr ⟨_,_,_,_,_,_,rfl⟩) p hp
     obtain⟨o,h1,h2⟩:=hpc wr (SH.out.all p hp) kk hkk
     have h3:=SH.out.new p hp kk hkk
     rw [h1];exact hk3.up kk o (by omega) h1 h2))
    have L3:=Lib.hid (⟨HLW.out.low.trans hk3.low,hk3.x1.trans HLW.out.x1,hk3.x2.trans HLW.out.x2,hk3.x3.trans HLW.out.x3⟩:LowF n₀ b1 b2 b3 w W3)
    have HJ3:=Lib.hid hJ3
    have hZ3:(cutW W.heap.size W3).heap.size=W.heap.size:=cutW_size hs3
    have HZb:=Lib.hid (cutW_below hs3)
    generalize cutW W.heap.size W3=Z3 at *
    have HLOW:Hid (∀ wx Γ,Sep Z3 wx Γ→LowF n₀ b1 b2 b3 w wx):=fun wx Γ S=>L3.out.far (Nat.le_trans hw hBk) (by omega) (by omega) (by omega) (by omega) HZb.out (by have:=S.ext;rwa [Ext,hZ3] at this)
    have HSML:Hid (∀ (G m:List Int),(∀ x:Int,x∈G→0≤x∧x<n)→(∀ x:Int,x∈m→0≤x∧x<n)→(ahR (cutL (lev nx n s) n k) m (ahF nx (cutL (lev nx n s) n k) G [])).length≤n):=fun G m hG hm =>
     nodup_small (ahR_nodup (ahF_nodup List.nodup_nil)) fun x hx=>by
      rcases ahR_mem.1 hx with h | ⟨h,_⟩
      ·rcases ahF_mem.1 h with h | ⟨v,h3,h4,_⟩
       ·cases h
       ·obtain⟨h5,h6⟩:=hG v h3
        exact HIN.out v.toNat (by omega) x h4
      ·exact hm x h
    clear SH hJ3 hk3 hR hy HLW
    gi_wp2
    refine wpIn_wide.2 ?_
    go_loopw [8,10,12,34] (fun v8 _ _ v34 wx=>∃ (i:Nat) (l':List Int) (q2:Option Addr) (c2:Nat),i≤F.length∧v34=.int .i64 i∧v8=.slice q2 l'.length c2∧Hid (l'=ahF nx (cutL (lev nx n s) n k) (F.take i) [])∧Sep Z3 wx [.own 3 1 q2 l'.length c2 (encI l'),.own 3 1 q F.length c (encI F),.own 4 1 qs n n (seenL (cutL (lev nx n s) n k) l' n)]) (fun _ _ _ v34 _=>F.length - (intOf v34).toNat)
    case atStart=>exact⟨0,[],none,0,Nat.zero_le _,rfl,rfl,rfl,S3.out.nilrow 3 1⟩
    case round =>
     clear S3
     obtain⟨i,l',q2,c2,hi,rfl,rfl,hl,S⟩:=hrel
     have pF:=(S.rdx 1 rfl).ptr
     have hF200:F.length≤200:=by have:=bF.out.2;omega
     by_cases hif:i<F.length
     ·have g1:=(S.rdx 1 rfl).cI hif
      obtain⟨f1,f2⟩:=bF.out.1 _ (nth_mem hif)
      have hT:=ahF_take (nx:=nx) (X:=cutL (lev nx n s) n k) (l:=[]) hif
      rw [← hl.out] at hT
      have hsm:∀ j (m:List Int),m=(nx (nth F i).toNat).take j→(ahR (cutL (lev nx n s) n k) m l').length≤n:=fun j m hm=>by
       rw [hl.out]
       refine HSML.out _ m (fun x hx=>bF.out.1 x (List.mem_of_mem_take hx)) fun x hx=>?_
       rw [hm] at hx
       exact HIN.out _ (by omega) x (List.mem_of_mem_take hx)
      obtain⟨a,ha⟩:∃ a:Nat,nth F i=(a:Int):=⟨(nth F i).toNat,by omega⟩
      rw [ha] at g1 f1 f2 hT hsm
      rw [Int.toNat_natCast] at hT hsm
      have HT:=Lib.hid hT
      have HS:=Lib.hid hsm
      have HRB:=Lib.hid (HIN.out a (by omega))
      obtain⟨qr,crr,hW⟩:=HNX.out a (by omega)
      have HWW:=Lib.hid hW
      have hb3':Blk wr b3 128 #[.func (.func 265) #[.agg #[.slice po (n+1) co,.slice pt nt ct,.slice pr nr cr,.slice pv nv cv]] #[]]:=(HLOW.out _ _ S).x3.trans HB3.out
      have b3c:=hb3'.cell 0
      have b3z:=hb3'.lt
      clear hb3'
      have HC:=Lib.hid (hW wr (HLOW.out _ _ S).low).2
      have e1:(0:Int)≤i:=by omega
      have e2:(i:Int)<F.length:=by omega
      generalize nx a=RW at *
      have SH:=Lib.hid S;clear S
      clear ha hT hsm hW hl
      go_wp2_with (go_at_call 265;go_must (refine HC.out.mono ?_;rintro e w5 ⟨rfl,hb⟩;have S5:=Lib.hid (SH.out.call hb);clear hb))
      have nrw:=(HWW.out _ (HLOW.out _ _ S5.out).low).1.small
      have prw:=(HWW.out _ (HLOW.out _ _ S5.out).low).1.ptr
      go_loopw [8,12,42] (fun v8 _ v42 wx=>∃ (j:Nat) (l2:List Int) (q3:Option Addr) (c3:Nat),j≤RW.length∧v42=.int .i64 j∧v8=.slice q3 l2.length c3∧Hid (l2=ahR (cutL (lev nx n s) n k) (RW.take j) l')∧Sep Z3 wx [.own 3 1 q3 l2.length c3 (encI l2),.own 3 1 q F.length c (encI F),.own 4 1 qs n n (seenL (cutL (lev nx n s) n k) l2 n)]) (fun _ _ v42 _=>RW.length - (intOf v42).toNat)
      case atStart=>exact⟨0,l',q2,c2,Nat.zero_le _,rfl,rfl,rfl,S5.out⟩
      case round =>
       clear SH S5 HC b3c b3z g1
       obtain⟨j,l2,q3,c3,hj,rfl,rfl,hl2,S⟩:=hrel
       by_cases hlj:j<RW.length
       ·have g1:=(HWW.out _ (HLOW.out _ _ S).low).1.cI hlj
        obtain⟨r1,r2⟩:=HRB.out _ (nth_mem hlj)
        have hst:=ahR_take (X:=cutL (lev nx n s) n k) (l:=l') hlj
        rw [← hl2.out] at hst
        have hlen:=HS.out j _ rfl
        rw [← hl2.out] at hlen
        obtain⟨b,hb⟩:∃ b:Nat,nth RW j=(b:Int):=⟨(nth RW j).toNat,by omega⟩
        rw [hb] at g1 r1 r2 hst
        have e3:(0:Int)≤j:=by omega
        have e4:(j:Int)<RW.length:=by omega
        have ps:=(S.rdx 2 rfl).ptr
        have pq3:=(S.rdx 0 rfl).ptr
        have fz:=own_frozen (S.own 2 rfl) (by omega) b
        have cz:=own_cell (S.own 2 rfl) (k:=b) (by omega)
        have hat:=seenL_at (X:=cutL (lev nx n s) n k) (l:=l2) (n:=n) (v:=b) (by omega)
        have hnn:0≤b∧(b:Int)<n:=⟨by omega,r2⟩
        clear hl2 hb
        cases hsn:(decide (0≤nth (cutL (lev nx n s) n k) b) || decide ((b:Int)∈l2)) with
        | true =>
         have HST:Hid (ahR (cutL (lev nx n s) n k) (RW.take (j+1)) l'=l2):=by
          unfold Hid;rw [hst];unfold ah1;rw [if_neg]
          rw [Int.toNat_natCast]
          rw [Bool.or_eq_true,decide_eq_true_eq,decide_eq_true_eq] at hsn
          rintro⟨h1,h2⟩
          rcases hsn with h | h
          ·omega
          ·exact h2 h
         rw [hsn] at hat
         rw [List.getD_eq_getElem?_getD,hat,Option.getD_some] at cz
         have SH:=Lib.hid S;clear S
         clear hst hat hsn fz
         go_wp2
         go_roundw
         case rel=>exact⟨j+1,l2,q3,c3,by omega,by go_num,rfl,HST.out.symm,SH.out⟩
         case measure=>simp [intOf];omega
        | false =>
         have HST:Hid (ahR (cutL (lev nx n s) n k) (RW.take (j+1)) l'=l2 ++ [(b:Int)]):=by
          unfold Hid;rw [hst];unfold ah1;rw [if_pos]
          rw [Int.toNat_natCast]
          rw [Bool.or_eq_false_iff,decide_eq_false_iff_not,decide_eq_false_iff_not] at hsn
          exact⟨by omega,hsn.2⟩
         rw [hsn] at hat
         rw [List.getD_eq_getElem?_getD,hat,Option.getD_some] at cz
         have hnb:b<n:=by omega
         have SH:=Lib.hid S;clear S
         clear hst hat hsn
         have HR1:Hid (Rd ((wr.setCell (adr qs b) (.bool true)).alloc (.cells #[.int .i64 (b:Int)] 3)) 1 (some ⟨wr.heap.size,0,none⟩) 1 (encI [(b:Int)])):=by
          have h:=Rd.oneI (wr.setCell (adr qs b) (.bool true)) 3 (b:Int)
          have e:(wr.setCell (adr qs b) (.bool true)).heap.size=wr.heap.size:=by simp
          rw [e] at h;exact h
         go_wp2_with (at_builtin;go_must (refine wpList_append_sep rfl _ _ _ rfl 3 i0 _ 1 8 Tryz.underlying25 hi0 hz0 hz1 hz2 rfl (by omega) ((SH.out.setRow 2 rfl b (by omega) (.bool true)).junk _) 0 q3 l2.length c3 _ rfl rfl _ 1 1 _ rfl HR1.out (one_encI _) (by omega) (by omega) ?_;intro q' c' w7 S' hsz;have S6:=Lib.hid S';clear S' hsz))
         go_roundw
         case rel=>exact⟨j+1,l2 ++ [(b:Int)],q',c',by omega,by go_num,by rw [List.length_append];rfl,HST.out.symm,by rw [List.length_append,encI_append,← seenL_set hnb];exact S6.out⟩
         case measure=>simp [intOf];omega
       ·obtain rfl:j=RW.length:=by omega
        have HL2:Hid (l2=ahF nx (cutL (lev nx n s) n k) (F.take (i+1)) []):=by
         unfold Hid;rw [HT.out,hl2.out,List.take_length]
        have SH:=Lib.hid S;clear S
        clear hl2
        go_wp2
        go_roundw
        case rel=>exact⟨i+1,l2,q3,c3,by omega,by go_num,rfl,HL2.out,SH.out⟩
        case measure=>simp [intOf];omega
     ·obtain rfl:i=F.length:=by omega
      have hl':=hl.out
      rw [List.take_length] at hl'
      have hF2:IsFront (lev nx n s) n ((k+1:Nat):Int) l':=by
       rw [hl']
       exact front_next hs HIN.out HF.out fun v hv=>by rw [cutL_nth hv];exact cut_lt
      rw [seenL_next hF2] at S
      have HF2:=Lib.hid hF2
      have HLX:=Lib.hid (HLOW.out _ _ S)
      have HJX:=Lib.hid (HJ.out _ Z3 W3 wr (by omega) HZb.out (by have:=S.ext;rwa [Ext,hZ3] at this) HJ3.out)
      have SH:=Lib.hid S;clear S
      clear hl hl' hF2
      go_wp2
      gi_wp2
      go_roundw
      case rel=>exact⟨k+1,_,l',q2,c2,Z3,by omega,hZ3,by go_num,rfl,HF2.out,hp2.out,HJX.out,SH.out.pick [0,2] (by decide) rfl,HLX.out⟩
      case measure=>simp [intOf];omega
   ·have HX3:=Lib.hid hJx3
    clear hJx3
    gi_wp2
    go_end0
    exact⟨⟨_,rfl⟩,.inr ⟨_,by
     have h:=hp2.out
     have h2:=congrArg List.length h
     rw [List.length_map,List.length_range] at h2
     rw [h,h2],HX3.out⟩⟩
end
section
open Go Go.RowKit
attribute [local go_sem] Oper.semAt_some
structure KeptW (Ks:Nat→Prop) (w W:World):Prop where
 os:W.os=w.os
 tape:W.tape=w.tape
 output:W.output=w.output
 size:w.heap.size≤W.heap.size
 block:∀ k,Ks k→W.heap[k]?=w.heap[k]?
theorem KeptW.trans {Ks:Nat→Prop} {a b c:World} (h:KeptW Ks a b) (g:KeptW Ks b c):KeptW Ks a c:=⟨g.os.trans h.os,g.tape.trans h.tape,g.output.trans h.output,Nat.le_trans h.size g.size,fun k hk=>(g.block k hk).trans (h.block k hk)⟩
theorem KeptW.of_below {Ks:Nat→Prop} {B:Nat} {a b:World} (hl:∀ k,Ks k→k<B) (h:Below B a b):KeptW Ks a b:=⟨h.os,h.tape,h.output,h.size,fun k hk=>h.block k (hl k hk)⟩
structure YwT where
 x:Sq
 q:Option Addr
 c:Nat
def ywE (F:Sq→List Sq) (y:YwT):Array Value:=#[.agg #[.int .i64 y.x.s,.int .i64 y.x.r,.int .i64 y.x.v,.int .i64 y.x.d],.slice y.q (F y.x).length y.c]
def ywA (F:Sq→List Sq) (M:List Sq) (V0:World) (pre:List YwT) (y:YwT) (V:World):Prop:=Sep V0 V [.own 138 4 y.q (F y.x).length y.c (encQ (F y.x))]∧(pre ++ [y]).map (·.x)=M.take (pre.length+1)∧pre.length<M.length
theorem WorkG (gw:Nat) (w:World):Calls Tryz.prog 147 #[.pointer (some ⟨gw,0,none⟩)] w fun e w'=>e=.returned (.func (.func 212) #[] #[.pointer (some ⟨w.heap.size,0,none⟩)])∧w'=w.alloc (.cells #[.pointer (some ⟨gw,0,none⟩)] 203):=by
 go_enter Tryz.func147,Tryz.ntmps147
 go_wp2
 go_ret
 exact⟨rfl,rfl⟩
theorem workIt (n1:Nat) (hn1:1≤n1) (k f t:Int) (pw:Option Addr) (nw cw:Nat) (rad most:Int) (po:Option Addr) (no co:Nat) (pt:Option Addr) (nt ct:Nat) (pr:Option Addr) (nr cr:Nat) (pv:Option Addr) (nv cv:Nat) (gb gw:Nat) (pm:Option Addr) (nm cm:Nat) (M:List Sq) (F:Sq→List Sq) (Ks:Nat→Prop) (w:World) (hKl:∀ k,Ks k→k<w.heap.size)
  (hF:∀ W,KeptW Ks w W→Blk W gb 203 #[.pointer (some ⟨gw,0,none⟩)]∧Blk W gw 206 #[.int .i64 k,.int .i64 f,.int .i64 t,.slice pw nw cw,.int .i64 rad,.int .i64 most,.slice po no co,.slice pt nt ct,.slice pr nr cr,.slice pv nv cv,.slice pm nm cm,.int .i64 0]∧Rd W 4 pm nm (encQ M))
  (HN:∀ x∈M,∀ W,KeptW Ks w W→Calls Tryz.prog 213 #[.agg #[.int .i64 k,.int .i64 f,.int .i64 t,.slice pw nw cw,.int .i64 rad,.int .i64 most],.agg #[.slice po no co,.slice pt nt ct,.slice pr nr cr,.slice pv nv cv],.agg #[.int .i64 x.s,.int .i64 x.r,.int .i64 x.v,.int .i64 x.d]] W fun e w'=>∃ q c,e=.returned (.tuple #[.slice q (F x).length c,.int .i64 0])∧Sep W w' [.own 138 4 q (F x).length c (encQ (F x))]) :
  SeqC Fence.wide n1 Tryz.prog 212 #[.pointer (some ⟨gb,0,none⟩)] (ywE F) (ywA F M) (KeptW Ks) (fun xs=>xs.map (·.x)=M) (fun _=>True) (fun _=>True) w:=by
 intro l J Jx W hW hJ hJx _ hY h0
 have hKW:KeptW Ks w W:=.of_below hKl hW
 have hws:=hW.size
 obtain⟨B1,B2,hM⟩:=hF W hKW
 have c10:=B1.cell 0
 have c20:=B2.cell 10
 have z1:=B1.lt
 have z2:=B2.lt
 have p1:=hM.ptr
 have n2:=hM.small
 have LM:=Lib.hid hM.nQ
 have HF:=Lib.hid hF
 have HNX:=Lib.hid HN
 have HKL:=Lib.hid hKl
 have HJ:=Lib.hid hJ;clear hJ
 have HY:=Lib.hid hY;clear hY
 clear hJx hW HN hF hM B1 B2 hKl
 simp at c10 c20
 refine callsIn_of_wp Tryz.func212 rfl trivial ?_ rfl
 simp only [Tryz.ntmps212,List.size_toArray,List.length_cons,List.length_nil,Nat.reduceAdd,Nat.reduceSub,Array.replicate_succ,Array.replicate_zero,List.push_toArray,List.append_toArray,List.nil_append,List.cons_append]
 refine wpIn_seq_k fun K hK=>wpIn_wide.2 ?_
 go_wp2
 gi_wp2
 gi_loopw [4,5,6,7,13] (fun _ _ _ _ v13 wr=>∃ (j:Nat) (pre:List YwT),j≤nm∧v13=.int .i64 j∧Hid (pre.map (·.x)=M.take j∧pre.length=j)∧Hid (J pre wr)∧Hid (KeptW Ks w wr)∧W.heap.size≤wr.heap.size) (fun _ _ _ _ v13 _=>nm - (intOf v13).toNat)
 case atStart=>exact⟨0,[],Nat.zero_le _,rfl,⟨rfl,rfl⟩,h0,hKW,Nat.le_refl _⟩
 case round =>
  clear h0 hKW c10 c20 z1 z2
  obtain⟨j,pre,hj,rfl,HP,HJ1,HK1,hsz⟩:=hrel
  by_cases hlt:j<nm
  ·obtain⟨B1,B2,hMr⟩:=HF.out wr HK1.out
   obtain⟨g1,g2,g3,g4⟩:=hMr.cQ hlt
   have hjl:j<M.length:=by rw [← LM.out];exact hlt
   have HT:=Lib.hid (take_succ_nth M j hjl)
   have HNJ:=Lib.hid (HNX.out (nth M j) (nth_mem hjl))
   obtain⟨x,hxl⟩:∃ x,nth M j=x:=⟨_,rfl⟩
   rw [hxl] at g1 g2 g3 g4 HT HNJ
   have S1:=Lib.hid (((Sep.start wr).al #[.int .i64 x.s,.int .i64 x.r,.int .i64 x.v,.int .i64 x.d] 138 wr.heap.size rfl).al #[.int .i64 x.s,.int .i64 x.r,.int .i64 x.v,.int .i64 x.d] 146 (wr.heap.size+1) (by simp))
   have HB1:=Lib.hid (B1.ext S1.out.ext)
   have HB2:=Lib.hid (B2.ext S1.out.ext)
   have d1:(0:Int)≤j:=by omega
   have d2:(j:Int)<nm:=by omega
   clear hxl B1 B2 hMr hjl
   gi_wp2
   refine wpIn_wide.2 ?_
   obtain⟨X,hX⟩:∃ X,(wr.alloc (.cells #[.int .i64 x.s,.int .i64 x.r,.int .i64 x.v,.int .i64 x.d] 138)).alloc (.cells #[.int .i64 x.s,.int .i64 x.r,.int .i64 x.v,.int .i64 x.d] 146)=X:=⟨_,rfl⟩
   rw [hX] at S1 HB1 HB2 ⊢
   clear hX g1 g2 g3 g4
   refine wp_region_held_drew (S:=fun W=>Blk W gb 203 #[.pointer (some ⟨gw,0,none⟩)]∧Blk W gw 206 #[.int .i64 k,.int .i64 f,.int .i64 t,.slice pw nw cw,.int .i64 rad,.int .i64 most,.slice po no co,.slice pt nt ct,.slice pr nr cr,.slice pv nv cv,.slice pm nm cm,.int .i64 0]∧Blk W (wr.heap.size+1) 146 #[.int .i64 x.s,.int .i64 x.r,.int .i64 x.v,.int .i64 x.d]) (by kernel_rfl) ⟨HB1.out.ext (Below.refl _ _).drew,HB2.out.ext (Below.refl _ _).drew,S1.out.drew.blk 0 rfl⟩ (fun hHeld=>?_)
   have SD:=Lib.hid S1.out.drew
   have BD1:=Lib.hid (HB1.out.ext (Below.refl _ _).drew)
   have BD2:=Lib.hid (HB2.out.ext (Below.refl _ _).drew)
   clear S1 HB1 HB2
   generalize X.drew=D at SD BD1 BD2 hHeld ⊢
   clear X
   refine wpAnyH_take (i:=0) (v:=.pointer (some ⟨gw,0,none⟩)) rfl (by kernel_rfl) (by kernel_rfl) (by kernel_rfl) (fun _ _ _ h=>h) (Or.inl ⟨by kernel_rfl,fun W hSw=>by have h0:=hSw.1.cell 0;have hz:=hSw.1.lt;clear hSw;go_simp⟩) hHeld ?_
   refine wpAnyH_take (i:=1) (v:=.pointer (some ⟨gw,0,none⟩)) rfl (by kernel_rfl) (by kernel_rfl) (by kernel_rfl) (fun _ _ _ h=>h) (Or.inl ⟨by kernel_rfl,fun W hSw=>by have hz:=hSw.2.1.lt;have hy:=(show W.heap[gw]?=_ from hSw.2.1);clear hSw;go_simp⟩) hHeld ?_
   refine wpAnyH_take (i:=2) (v:=.pointer (some ⟨gw,0,none⟩)) rfl (by kernel_rfl) (by kernel_rfl) (by kernel_rfl) (fun _ _ _ h=>h) (Or.inl ⟨by kernel_rfl,fun W hSw=>by skip;clear hSw;go_simp⟩) hHeld ?_
   refine wpAnyH_take (i:=3) (v:=.agg #[.int .i64 k,.int .i64 f,.int .i64 t,.slice pw nw cw,.int .i64 rad,.int .i64 most]) rfl (by kernel_rfl) (by kernel_rfl) (by kernel_rfl) (fun _ _ _ h=>h) (Or.inl ⟨by kernel_rfl,fun W hSw=>by have h0:=hSw.2.1.cell 0;have h1:=hSw.2.1.cell 1;have h2:=hSw.2.1.cell 2;have h3:=hSw.2.1.cell 3;have h4:=hSw.2.1.cell 4;have h5:=hSw.2.1.cell 5;clear hSw;go_simp⟩) hHeld ?_
   refine wpAnyH_take (i:=4) (v:=.pointer (some ⟨gw,0,none⟩)) rfl (by kernel_rfl) (by kernel_rfl) (by kernel_rfl) (fun _ _ _ h=>h) (Or.inl ⟨by kernel_rfl,fun W hSw=>by have h0:=hSw.1.cell 0;have hz:=hSw.1.lt;clear hSw;go_simp⟩) hHeld ?_
   refine wpAnyH_take (i:=5) (v:=.pointer (some ⟨gw,0,none⟩)) rfl (by kernel_rfl) (by kernel_rfl) (by kernel_rfl) (fun _ _ _ h=>h) (Or.inl ⟨by kernel_rfl,fun W hSw=>by have hz:=hSw.2.1.lt;have hy:=(show W.heap[gw]?=_ from hSw.2.1);clear hSw;go_simp⟩) hHeld ?_
   refine wpAnyH_take (i:=6) (v:=.pointer (some ⟨gw,6,none⟩)) rfl (by kernel_rfl) (by kernel_rfl) (by kernel_rfl) (fun _ _ _ h=>h) (Or.inl ⟨by kernel_rfl,fun W hSw=>by skip;clear hSw;go_simp⟩) hHeld ?_
   refine wpAnyH_take (i:=7) (v:=.agg #[.slice po no co,.slice pt nt ct,.slice pr nr cr,.slice pv nv cv]) rfl (by kernel_rfl) (by kernel_rfl) (by kernel_rfl) (fun _ _ _ h=>h) (Or.inl ⟨by kernel_rfl,fun W hSw=>by have h0:=hSw.2.1.cell 6;have h1:=hSw.2.1.cell 7;have h2:=hSw.2.1.cell 8;have h3:=hSw.2.1.cell 9;clear hSw;go_simp⟩) hHeld ?_
   refine wpAnyH_take (i:=8) (v:=.agg #[.int .i64 x.s,.int .i64 x.r,.int .i64 x.v,.int .i64 x.d]) rfl (by kernel_rfl) (by kernel_rfl) (by kernel_rfl) (fun _ _ _ h=>h) (Or.inl ⟨by kernel_rfl,fun W hSw=>by have h0:=hSw.2.2.cell 0;have h1:=hSw.2.2.cell 1;have h2:=hSw.2.2.cell 2;have h3:=hSw.2.2.cell 3;clear hSw;go_simp⟩) hHeld ?_
   refine wpAnyH_ready (rs:=[9]) (by kernel_rfl) (by simp) (AllReadyH.cons rfl (fun K hK=>?_) AllReadyH.nil)
   go_simp
   have HKD:=Lib.hid (HK1.out.trans (.of_below (fun k hk=>Nat.lt_of_lt_of_le (HKL.out k hk) (Nat.le_trans hws hsz)) SD.out.ext))
   refine(HNJ.out D HKD.out).mono ?_
   rintro e w1 ⟨q,c,rfl,Z⟩
   have S2:=Lib.hid (SD.out.comp Z)
   have HB1:=Lib.hid (BD1.out.ext Z.ext)
   have HB2:=Lib.hid (BD2.out.ext Z.ext)
   clear Z SD BD1 BD2 HKD
   refine hK.out _ _ ⟨HB1.out,HB2.out,S2.out.blk 1 rfl⟩ (fun hHeld=>?_)
   clear hK
   refine wpAnyH_take (i:=10) (v:=.tuple #[.slice q (F x).length c,.int .i64 0]) rfl (by kernel_rfl) (by kernel_rfl) (by kernel_rfl) (fun _ _ _ h=>h) (Or.inl ⟨by kernel_rfl,fun W hSw=>by skip;clear hSw;go_simp⟩) hHeld ?_
   refine wpAnyH_take (i:=11) (v:=.slice q (F x).length c) rfl (by kernel_rfl) (by kernel_rfl) (by kernel_rfl) (fun _ _ _ h=>h) (Or.inl ⟨by kernel_rfl,fun W hSw=>by skip;clear hSw;go_simp⟩) hHeld ?_
   refine wpAnyH_take (i:=12) (v:=.int .i64 0) rfl (by kernel_rfl) (by kernel_rfl) (by kernel_rfl) (fun _ _ _ h=>h) (Or.inl ⟨by kernel_rfl,fun W hSw=>by skip;clear hSw;go_simp⟩) hHeld ?_
   refine wpAnyH_take (i:=13) (v:=.slice q (F x).length c) rfl (by kernel_rfl) (by kernel_rfl) (by kernel_rfl) (fun _ _ _ h=>h) (Or.inl ⟨by kernel_rfl,fun W hSw=>by skip;clear hSw;go_simp⟩) hHeld ?_
   refine wpAnyH_take (i:=14) (v:=.int .i64 0) rfl (by kernel_rfl) (by kernel_rfl) (by kernel_rfl) (fun _ _ _ h=>h) (Or.inl ⟨by kernel_rfl,fun W hSw=>by skip;clear hSw;go_simp⟩) hHeld ?_
   refine wpAnyH_done (by kernel_rfl) ?_ _
   obtain⟨a0,a1,a2,a3,az⟩:=bkc0c1c2c3l (S2.out.blk 1 rfl)
   have HK2:=Lib.hid (HK1.out.trans (.of_below (fun k hk=>Nat.lt_of_lt_of_le (HKL.out k hk) (Nat.le_trans hws hsz)) S2.out.ext))
   have hs2:W.heap.size≤w1.heap.size:=Nat.le_trans hsz S2.out.ext.size
   have HP2:Hid ((pre ++ [(⟨x,q,c⟩:YwT)]).map (·.x)=M.take (j+1)∧(pre ++ [(⟨x,q,c⟩:YwT)]).length=j+1):=by
    refine⟨?_,by rw [List.length_append,HP.out.2];rfl⟩
    rw [List.map_append,HP.out.1,HT.out];rfl
   obtain⟨fn,tmps,assign,body,hy,hR⟩:=HY.out pre ⟨x,q,c⟩ wr w1 HJ1.out S2.out.ext ⟨S2.out.pick [0] (by decide) rfl,by rw [HP2.out.1,HP.out.2],by rw [HP.out.2,← LM.out];exact hlt⟩
   have hy2:(Instr.yield l #[.agg #[.int .i64 x.s,.int .i64 x.r,.int .i64 x.v,.int .i64 x.d],.slice q (F x).length c]).run Tryz.prog w1=_:=hy
   clear hHeld S2 HB1 HB2 hy
   simp [Act.put]
   gi_wp2
   refine hR.mono ?_
   rintro e W3 (⟨rfl,hJ3,hk3⟩ | ⟨rfl,hJx3⟩)
   ·have HJ3:=Lib.hid hJ3
    have HK3:=Lib.hid (HK2.out.trans hk3)
    have hs3:W.heap.size≤W3.heap.size:=Nat.le_trans hs2 hk3.size
    clear hJ3 hk3 hR hy2 HK2
    gi_wp2
    go_roundw
    case rel=>exact⟨j+1,pre ++ [⟨x,q,c⟩],by omega,by go_num,HP2,HJ3,HK3,hs3⟩
    case measure=>simp [intOf];omega
   ·have HX3:=Lib.hid hJx3
    clear hJx3 hR hy2 HK2
    gi_wp2
    refine bodyPost_ret (results_none rfl _ _ _) rfl ?_
    exact⟨⟨_,rfl⟩,.inr ⟨_,HX3.out⟩⟩
  ·obtain rfl:j=nm:=by omega
   have HPE:Hid (pre.map (·.x)=M):=by
    unfold Hid
    rw [HP.out.1,List.take_of_length_le (by rw [← LM.out];exact Nat.le_refl _)]
   gi_wp2
   go_end0
   exact⟨⟨_,rfl⟩,.inl ⟨pre,HPE.out,HJ1.out⟩⟩
end
section
open Go Go.RowKit
def markD (D:Nat):Deferred:={ target:=.collected D,args:=#[] }
def MarksB (B:Nat) (Ds:List Nat) (w:World):Prop:=Ds.Nodup∧∀ D∈Ds,B≤D∧w.heap[D]?=some (.deferred (some []))
theorem marks_nil (B:Nat) (w:World):MarksB B [] w:=⟨List.nodup_nil,fun _ h=>nomatch h⟩
theorem MarksB.keeps {B:Nat} {Ds:List Nat} {w w':World} (h:MarksB B Ds w) (k:KeepsOthers w w'):MarksB B Ds w':=⟨h.1,fun D hD=>⟨(h.2 D hD).1,k.same _ _ (h.2 D hD).2 rfl⟩⟩
theorem MarksB.ext {B:Nat} {Ds:List Nat} {w w':World} (h:MarksB B Ds w) (k:Ext w w'):MarksB B Ds w':=h.keeps (keeps_ext k)
theorem MarksB.lt {B:Nat} {Ds:List Nat} {w:World} (h:MarksB B Ds w):∀ D∈Ds,D<w.heap.size:=fun D hD=>(Array.getElem?_eq_some_iff.1 (h.2 D hD).2).1
theorem MarksB.cons {B D:Nat} {Ds:List Nat} {w:World} (h:MarksB B Ds w) (hD:D ∉ Ds) (hB:B≤D) (hw:w.heap[D]?=some (.deferred (some []))):MarksB B (D :: Ds) w :=
 ⟨List.nodup_cons.2 ⟨hD,h.1⟩,fun E hE=>by
  rcases List.mem_cons.1 hE with rfl | hE
  ·exact⟨hB,hw⟩
  ·exact h.2 E hE⟩
theorem leaves_marks {F:Fence} {n:Nat} {P:Program} {fn:Func} {tmps:Array Value} {R:Ending→World→Prop} (G:World→Prop) (B:Nat) (hG:∀ (w:World) D,B≤D→w.heap[D]?=some (.deferred (some []))→G w→G (w.putObj D (.deferred none)))
  (hR:∀ w,G w→∃ v,(results fn tmps).run P w=.ok v w∧R (.returned v) w):∀ (Ds:List Nat) (w:World),MarksB B Ds w→G w→LeavesInM F n P fn tmps R (Ds.map markD) .returning w
 | [],w,_,hg=>hR w hg
 | D :: Ds,w,hM,hg=>by
  obtain⟨h1,h2⟩:=hM
  obtain⟨hB,hD⟩:=h2 D (List.mem_cons_self ..)
  obtain⟨hn,hd⟩:=List.nodup_cons.1 h1
  exact⟨by simp,.inl ⟨D,_,rfl,run_takeDeferred hD,leaves_marks G B hG hR Ds _ ⟨hd,fun E hE=>⟨(h2 E (List.mem_cons_of_mem _ hE)).1,(World.putObj_heap_other (by intro e;subst e;exact hn hE)).trans (h2 E (List.mem_cons_of_mem _ hE)).2⟩⟩ (hG w D hB hD hg)⟩⟩
end
section
open Go Go.RowKit
theorem loopStep {P:Program} {Q:Exit→Act→World→Prop} {w:World} {c:Code} (x0 x1 x2 x3 x4 x5 x6 x7 x8 x9 x10 x11 x12 x13 x14 x15 x16 x17 x19 x20 x21 x22 x23 x29 x30 x31 x32 x33 x34 x35 x36 x37 x38 x39 x40 x41 x42 x43 x44 x45 x46 x47 x48 x49 x50 x51 x52 x53 x54 x55 x56 x57 x58 x59 x60 x61 x62 x63 x64 x65 x66 x67 x68 x69 x70 x71 x72 x73 x74 x75 x76 x111 x112 x113 x114 x115 x116 x117 x118 x119:Value) (y18 y24 y25 y26 y27 y28 y77 y78 y79 y80 y81 y82 y83 y84 y85 y86 y87 y88 y89 y90 y91 y92 y93 y94 y95 y96 y97 y98 y99 y100 y101 y102 y103 y104 y105 y106 y107 y108 y109 y110:Value) (ds0:List Deferred)
  (R:Nat→Value→Value→List Deferred→World→Prop) (n0:Nat) (h0:R n0 y18 y77 ds0 w)
  (round:∀ (n:Nat) (u18 u24 u25 u26 u27 u28 u77 u78 u79 u80 u81 u82 u83 u84 u85 u86 u87 u88 u89 u90 u91 u92 u93 u94 u95 u96 u97 u98 u99 u100 u101 u102 u103 u104 u105 u106 u107 u108 u109 u110:Value) (ds:List Deferred) (wr:World),R n u18 u77 ds wr→∀ K:Act→World→Prop,(∀ (n':Nat) (u18' u24' u25' u26' u27' u28' u77' u78' u79' u80' u81' u82' u83' u84' u85' u86' u87' u88' u89' u90' u91' u92' u93' u94' u95' u96' u97' u98' u99' u100' u101' u102' u103' u104' u105' u106' u107' u108' u109' u110':Value) (ds':List Deferred) (w':World),n'<n→R n' u18' u77' ds' w'→K { tmps:=#[x0,x1,x2,x3,x4,x5,x6,x7,x8,x9,x10,x11,x12,x13,x14,x15,x16,x17,u18',x19,x20,x21,x22,x23,u24',u25',u26',u27',u28',x29,x30,x31,x32,x33,x34,x35,x36,x37,x38,x39,x40,x41,x42,x43,x44,x45,x46,x47,x48,x49,x50,x51,x52,x53,x54,x55,x56,x57,x58,x59,x60,x61,x62,x63,x64,x65,x66,x67,x68,x69,x70,x71,x72,x73,x74,x75,x76,u77',u78',u79',u80',u81',u82',u83',u84',u85',u86',u87',u88',u89',u90',u91',u92',u93',u94',u95',u96',u97',u98',u99',u100',u101',u102',u103',u104',u105',u106',u107',u108',u109',u110',x111,x112,x113,x114,x115,x116,x117,x118,x119],defers:=ds' } w') →
   c.wp P (Exit.then K Q) { tmps:=#[x0,x1,x2,x3,x4,x5,x6,x7,x8,x9,x10,x11,x12,x13,x14,x15,x16,x17,u18,x19,x20,x21,x22,x23,u24,u25,u26,u27,u28,x29,x30,x31,x32,x33,x34,x35,x36,x37,x38,x39,x40,x41,x42,x43,x44,x45,x46,x47,x48,x49,x50,x51,x52,x53,x54,x55,x56,x57,x58,x59,x60,x61,x62,x63,x64,x65,x66,x67,x68,x69,x70,x71,x72,x73,x74,x75,x76,u77,u78,u79,u80,u81,u82,u83,u84,u85,u86,u87,u88,u89,u90,u91,u92,u93,u94,u95,u96,u97,u98,u99,u100,u101,u102,u103,u104,u105,u106,u107,u108,u109,u110,x111,x112,x113,x114,x115,x116,x117,x118,x119],defers:=ds } wr):(Code.loop c).wp P Q { tmps:=#[x0,x1,x2,x3,x4,x5,x6,x7,x8,x9,x10,x11,x12,x13,x14,x15,x16,x17,y18,x19,x20,x21,x22,x23,y24,y25,y26,y27,y28,x29,x30,x31,x32,x33,x34,x35,x36,x37,x38,x39,x40,x41,x42,x43,x44,x45,x46,x47,x48,x49,x50,x51,x52,x53,x54,x55,x56,x57,x58,x59,x60,x61,x62,x63,x64,x65,x66,x67,x68,x69,x70,x71,x72,x73,x74,x75,x76,y77,y78,y79,y80,y81,y82,y83,y84,y85,y86,y87,y88,y89,y90,y91,y92,y93,y94,y95,y96,y97,y98,y99,y100,y101,y102,y103,y104,y105,y106,y107,y108,y109,y110,x111,x112,x113,x114,x115,x116,x117,x118,x119],defers:=ds0 } w:=by
 refine wp_loop_ghost_k (fun n a w=>∃ u18 u24 u25 u26 u27 u28 u77 u78 u79 u80 u81 u82 u83 u84 u85 u86 u87 u88 u89 u90 u91 u92 u93 u94 u95 u96 u97 u98 u99 u100 u101 u102 u103 u104 u105 u106 u107 u108 u109 u110 ds,R n u18 u77 ds w∧a={ tmps:=#[x0,x1,x2,x3,x4,x5,x6,x7,x8,x9,x10,x11,x12,x13,x14,x15,x16,x17,u18,x19,x20,x21,x22,x23,u24,u25,u26,u27,u28,x29,x30,x31,x32,x33,x34,x35,x36,x37,x38,x39,x40,x41,x42,x43,x44,x45,x46,x47,x48,x49,x50,x51,x52,x53,x54,x55,x56,x57,x58,x59,x60,x61,x62,x63,x64,x65,x66,x67,x68,x69,x70,x71,x72,x73,x74,x75,x76,u77,u78,u79,u80,u81,u82,u83,u84,u85,u86,u87,u88,u89,u90,u91,u92,u93,u94,u95,u96,u97,u98,u99,u100,u101,u102,u103,u104,u105,u106,u107,u108,u109,u110,x111,x112,x113,x114,x115,x116,x117,x118,x119],defers:=ds }) n0 ⟨y18,y24,y25,y26,y27,y28,y77,y78,y79,y80,y81,y82,y83,y84,y85,y86,y87,y88,y89,y90,y91,y92,y93,y94,y95,y96,y97,y98,y99,y100,y101,y102,y103,y104,y105,y106,y107,y108,y109,y110,ds0,h0,rfl⟩ ?_
 rintro n a wr ⟨u18,u24,u25,u26,u27,u28,u77,u78,u79,u80,u81,u82,u83,u84,u85,u86,u87,u88,u89,u90,u91,u92,u93,u94,u95,u96,u97,u98,u99,u100,u101,u102,u103,u104,u105,u106,u107,u108,u109,u110,ds,hR,rfl⟩ J K hJ hK
 exact round n u18 u24 u25 u26 u27 u28 u77 u78 u79 u80 u81 u82 u83 u84 u85 u86 u87 u88 u89 u90 u91 u92 u93 u94 u95 u96 u97 u98 u99 u100 u101 u102 u103 u104 u105 u106 u107 u108 u109 u110 ds wr hR K fun n' u18' u24' u25' u26' u27' u28' u77' u78' u79' u80' u81' u82' u83' u84' u85' u86' u87' u88' u89' u90' u91' u92' u93' u94' u95' u96' u97' u98' u99' u100' u101' u102' u103' u104' u105' u106' u107' u108' u109' u110' ds' w' hlt hR'=>hK _ _ ⟨n',hlt,hJ _ _ _ ⟨u18',u24',u25',u26',u27',u28',u77',u78',u79',u80',u81',u82',u83',u84',u85',u86',u87',u88',u89',u90',u91',u92',u93',u94',u95',u96',u97',u98',u99',u100',u101',u102',u103',u104',u105',u106',u107',u108',u109',u110',ds',hR',rfl⟩⟩
def frStep (a21 a22 a27 a28:Value) (b:Act):Prop:=∃ u0 u1 u2 u3 u4 u5 u6 u7 u8 u9 u10 u11 u12 u13 u14 u15 u16 u17 u18 u19 u20 u23 u24 u25 u26 u29 u30 u31 u32 u33 u34 u35 u36 u37 u38 u39 u40 u41 u42 u43 u44 u45 u46 u47 u48 u49 u50 u51 u52 u53 u54 u55 u56 u57 u58 u59 u60 u61 u62 u63 u64 u65 u66 u67 u68 u69 u70 u71 u72 u73 u74 u75 u76 u77 u78 u79 u80 u81 u82 u83 u84 u85 u86 u87 u88 u89 u90 u91 u92 u93 u94 u95 u96 u97 u98 u99 u100 u101 u102 u103 u104 u105 u106 u107 u108 u109 u110 u111 u112 u113 u114 u115 u116 u117 u118 u119:Value,b={ tmps:=#[u0,u1,u2,u3,u4,u5,u6,u7,u8,u9,u10,u11,u12,u13,u14,u15,u16,u17,u18,u19,u20,a21,a22,u23,u24,u25,u26,a27,a28,u29,u30,u31,u32,u33,u34,u35,u36,u37,u38,u39,u40,u41,u42,u43,u44,u45,u46,u47,u48,u49,u50,u51,u52,u53,u54,u55,u56,u57,u58,u59,u60,u61,u62,u63,u64,u65,u66,u67,u68,u69,u70,u71,u72,u73,u74,u75,u76,u77,u78,u79,u80,u81,u82,u83,u84,u85,u86,u87,u88,u89,u90,u91,u92,u93,u94,u95,u96,u97,u98,u99,u100,u101,u102,u103,u104,u105,u106,u107,u108,u109,u110,u111,u112,u113,u114,u115,u116,u117,u118,u119],defers:=[] }
theorem frStep_of {a21 a22 a27 a28 u0 u1 u2 u3 u4 u5 u6 u7 u8 u9 u10 u11 u12 u13 u14 u15 u16 u17 u18 u19 u20 u23 u24 u25 u26 u29 u30 u31 u32 u33 u34 u35 u36 u37 u38 u39 u40 u41 u42 u43 u44 u45 u46 u47 u48 u49 u50 u51 u52 u53 u54 u55 u56 u57 u58 u59 u60 u61 u62 u63 u64 u65 u66 u67 u68 u69 u70 u71 u72 u73 u74 u75 u76 u77 u78 u79 u80 u81 u82 u83 u84 u85 u86 u87 u88 u89 u90 u91 u92 u93 u94 u95 u96 u97 u98 u99 u100 u101 u102 u103 u104 u105 u106 u107 u108 u109 u110 u111 u112 u113 u114 u115 u116 u117 u118 u119:Value}:frStep a21 a22 a27 a28 { tmps:=#[u0,u1,u2,u3,u4,u5,u6,u7,u8,u9,u10,u11,u12,u13,u14,u15,u16,u17,u18,u19,u20,a21,a22,u23,u24,u25,u26,a27,a28,u29,u30,u31,u32,u33,u34,u35,u36,u37,u38,u39,u40,u41,u42,u43,u44,u45,u46,u47,u48,u49,u50,u51,u52,u53,u54,u55,u56,u57,u58,u59,u60,u61,u62,u63,u64,u65,u66,u67,u68,u69,u70,u71,u72,u73,u74,u75,u76,u77,u78,u79,u80,u81,u82,u83,u84,u85,u86,u87,u88,u89,u90,u91,u92,u93,u94,u95,u96,u97,u98,u99,u100,u101,u102,u103,u104,u105,u106,u107,u108,u109,u110,u111,u112,u113,u114,u115,u116,u117,u118,u119],defers:=[] }:=⟨u0,u1,u2,u3,u4,u5,u6,u7,u8,u9,u10,u11,u12,u13,u14,u15,u16,u17,u18,u19,u20,u23,u24,u25,u26,u29,u30,u31,u32,u33,u34,u35,u36,u37,u38,u39,u40,u41,u42,u43,u44,u45,u46,u47,u48,u49,u50,u51,u52,u53,u54,u55,u56,u57,u58,u59,u60,u61,u62,u63,u64,u65,u66,u67,u68,u69,u70,u71,u72,u73,u74,u75,u76,u77,u78,u79,u80,u81,u82,u83,u84,u85,u86,u87,u88,u89,u90,u91,u92,u93,u94,u95,u96,u97,u98,u99,u100,u101,u102,u103,u104,u105,u106,u107,u108,u109,u110,u111,u112,u113,u114,u115,u116,u117,u118,u119,rfl⟩
end
section
open Go Go.RowKit
theorem ordw_len {ord:List Int} {w:Nat} (h:ord.Perm ((List.range w).map fun v:Nat=>(v:Int))):ord.length=w:=by rw [h.length_eq];simp
theorem ordw_nodup {ord:List Int} {w:Nat} (h:ord.Perm ((List.range w).map fun v:Nat=>(v:Int))):(ord.map Int.toNat).Perm (List.range w):=by
 have:=h.map Int.toNat
 rw [List.map_map] at this
 have e:(Int.toNat ∘ fun v:Nat=>(v:Int))=id:=by funext v;simp
 rw [e,List.map_id] at this
 exact this
theorem ordw_at {ord:List Int} {w j:Nat} (h:ord.Perm ((List.range w).map fun v:Nat=>(v:Int))) (hj:j<w) :
  ∃ k:Nat,nth ord j=(k:Int)∧k<w∧k ∉ (ord.take j).map Int.toNat∧(ord.take (j+1)).map Int.toNat=(ord.take j).map Int.toNat ++ [k]:=by
 have hl:=ordw_len h
 have hjl:j<ord.length:=by omega
 have hm:nth ord j∈ord:=by rw [nth_eq hjl];exact List.getElem_mem _
 obtain⟨k,hk,he⟩:=List.mem_map.1 (h.mem_iff.1 hm)
 have he:(k:Int)=nth ord j:=he
 have hn:=(ordw_nodup h).nodup_iff.2 List.nodup_range
 have e:(ord.take (j+1)).map Int.toNat=(ord.take j).map Int.toNat ++ [k]:=by
  rw [take_succ_nth ord j hjl,List.map_append,← he];rfl
 refine⟨k,he.symm,List.mem_range.1 hk,fun hin=>?_,e⟩
 have hd:((ord.take (j+1)).map Int.toNat).Nodup:=by
  rw [List.map_take];exact hn.sublist (List.take_sublist _ _)
 rw [e,List.nodup_append] at hd
 exact hd.2.2 _ hin _ (List.mem_singleton.2 rfl) rfl
theorem ordw_all {ord:List Int} {w:Nat} (h:ord.Perm ((List.range w).map fun v:Nat=>(v:Int))):((ord.take w).map Int.toNat).Perm (List.range w):=by
 rw [List.take_of_length_le (by rw [ordw_len h];exact Nat.le_refl _)]
 exact ordw_nodup h
end
section
open Go Go.RowKit Go.Shelf
theorem mul64One (n:Nat) (hn:n≤1000) (w:World):Calls Tryz.prog 264 #[.int .u64 1,.int .u64 n] w fun e w'=>e=.returned (.tuple #[.int .u64 0,.int .u64 n])∧Ext w w':=by
 have h1:bits .and .u64 (n:Int) 4294967295=(n:Int):=by rw [Mul64.maskN n (by omega)];omega
 have h2:(n:Int) / 4294967296=0:=by omega
 have h3:bits .and .u64 (1:Int) 4294967295=(1:Int):=by decide +kernel
 have h4:bits .and .u64 (0:Int) 4294967295=(0:Int):=by decide +kernel
 go_enter Tryz.func264,Tryz.ntmps264
 go_wp2
 go_ret2
 exact⟨rfl,Below.refl _ _⟩
theorem mulOne (n:Nat) (hn:n≤1000) (w:World):Calls Tryz.prog 227 #[.int .u64 1,.int .u64 n] w fun e w'=>e=.returned (.tuple #[.int .u64 0,.int .u64 n])∧Ext w w':=by
 have H:=Lib.hid (fun W=>mul64One n hn W)
 go_enter Tryz.func227,Tryz.ntmps227
 go_wp2_with (go_at_call 264;go_must (refine(H.out _).mono ?_;rintro e w1 ⟨rfl,hb⟩;have HB:=Lib.hid hb;clear hb))
 go_ret2
 exact⟨rfl,HB.out⟩
def rowR (n k:Nat):List Value:=encI (List.replicate k (-1) ++ List.replicate (n - k) 0)
theorem rowR_len {n k:Nat} (h:k≤n):(rowR n k).length=n:=by simp [rowR,encI];omega
theorem rowR_at {n k j:Nat} (h:j<k):(rowR n k)[j]?=some (.int .i64 (-1)):=by
 have e:rowR n k=List.replicate k (.int .i64 (-1)) ++ List.replicate (n - k) (.int .i64 0):=by simp [rowR,encI]
 rw [e,List.getElem?_append_left (by simpa using h)]
 simp [h]
theorem rowR_splice {n k m:Nat} (h:k+m≤n):splice (rowR n k) k (encI (List.replicate m (-1)))=rowR n (k+m):=by
 have e:List.replicate (n - k) (0:Int)=List.replicate m 0 ++ List.replicate (n - (k+m)) 0:=by
  rw [List.replicate_append_replicate];congr 1;omega
 have e2:List.replicate (k+m) (Value.int .i64 (-1))=List.replicate k (.int .i64 (-1)) ++ List.replicate m (.int .i64 (-1)):=List.replicate_append_replicate.symm
 unfold splice rowR
 rw [e]
 simp [encI,List.drop_append]
 rw [e2,List.append_assoc]
theorem own_blk {w:World} {base:Nat} {e:TypeId} {q:Option Addr} {n:Nat} {xs:List Value} (h:w.ownsRow base e 1 (.slice q n n) n xs) (hn:0<n):∃ g,q=some ⟨g,0,none⟩∧base≤g∧Blk w g e xs.toArray:=by
 rcases h.2 with ⟨h1,h2⟩ | ⟨g,cap,cur,h1,h2,h3,h4,h5,h6,h7⟩
 ·omega
 ·injection h1 with h1 _ h8
  subst h8
  refine⟨g,h1,h2,?_⟩
  have h9:cur.toList=xs:=by rw [← h7,List.take_of_length_le (by rw [Array.length_toList,h6];exact Nat.le_refl _)]
  unfold Blk
  rw [h3,← h9]
theorem blk_own {w:World} {base g:Nat} {e:TypeId} {n:Nat} {xs:List Value} (h:Blk w g e xs.toArray) (hb:base≤g) (hm:n≤maxLen) (hl:xs.length=n):w.ownsRow base e 1 (.slice (some ⟨g,0,none⟩) n n) n xs :=
 ⟨by simpa using hl,.inr ⟨g,n,xs.toArray,rfl,hb,h,Nat.le_refl _,hm,by simpa using hl,by rw [List.take_of_length_le (by simp [hl])]⟩⟩
theorem sizeI1:(Tryz.prog.info? 3).map (·.size)=some 1:=by kernel_rfl
theorem wp_copyR {w0 w:World} {ops:Array Oper} {rest:List Oper} {o:Oper} {a:Act} {Q:Exit→Act→World→Prop} (hgd:o.guard=none) (d s:Operand)
  (ho:o.op=.call { callee:=.builtin .copy,args:=#[d,s],argTypes:=#[25,25] }) {n k m g dc sl sc:Nat} {dp sp:Option Addr} (hd:a.eval d=.slice dp (n - k) dc) (hs:a.eval s=.slice sp sl sc)
  (hm:m=Nat.min sl (n - k)) (hk:k≤n) (hdp:0<m→dp=some ⟨g,k,none⟩) (hsp:0<m→∃ ad,sp=some ad∧∀ j,j<m→w.cell? (ad.add j)=some (.int .i64 (-1)))
  (HB:Blk w g 3 (rowR n k).toArray) (HE:Ext w0 w) (hg:w0.heap.size≤g)
  (h:∀ w',Blk w' g 3 (rowR n (k+m)).toArray→Ext w0 w'→wpList Tryz.prog ops Q rest (a.put o.dst (.int .i64 m)) w'):wpList Tryz.prog ops Q (o :: rest) a w:=by
 have hmn:k+m≤n:=by
  have h0:m≤n - k:=hm ▸ Nat.min_le_right _ _
  omega
 have hl:(encI (List.replicate m (-1))).length=m:=by simp [encI]
 refine wpList_copy_splice hgd d s 25 25 ho 3 Tryz.underlying25 sizeI1 dp sp (n - k) dc sl sc hd hs g k (rowR n k) 3 HB (encI (List.replicate m (-1))) (by rw [hl];exact hm) ?_ (by rw [rowR_len hk,hl];exact hmn) ?_ w0.heap.size w0 HE hg ?_
 ·rw [hl]
  intro hm0
  obtain⟨ad,h1,h2⟩:=hsp hm0
  refine⟨hdp hm0,ad,h1,fun j v hj=>?_⟩
  have hj':j<m:=by have:=(List.getElem?_eq_some_iff.1 hj).1;rw [hl] at this;exact this
  rw [h2 j hj']
  simp [encI,hj'] at hj
  rw [← hj]
 ·intro v hv
  simp [encI] at hv
  rw [hv.2];rfl
 ·intro w' h1 h2
  rw [rowR_splice hmn] at h1
  have:=h w' h1.out h2
  rw [hl];exact this
theorem one_src {w:World} {p:Option Addr} (h:Rd w 1 p 1 (encI [-1])):∃ ad,p=some ad∧∀ j,j<1→w.cell? (ad.add j)=some (.int .i64 (-1)):=by
 rcases h.ptr with h0 | ⟨b,o,rfl⟩
 ·omega
 ·refine⟨_,rfl,fun j hj=>?_⟩
  obtain rfl:j=0:=by omega
  exact h.cI (k:=0) (by omega)
theorem copy_run {W:World} {g n k m:Nat} (hB:Blk W g 3 (rowR n k).toArray) (hk1:1≤k) (hkn:k<n) (hm:m=Nat.min k (n - k)) :
  (Builtin.copy_ #[25,25] 3 #[.slice (cutp (some ⟨g,0,none⟩) n k 1) (n - k) (n - k),.slice (cutp (some ⟨g,0,none⟩) n 0 1) k n]).run Tryz.prog W=.ok (.int .i64 m) (W.setRow g (rowR n (k+m)).toArray):=by
 have hmn:m≤n - k:=hm ▸ Nat.min_le_right _ _
 have hmk:m≤k:=hm ▸ Nat.min_le_left _ _
 have e1:cutp (some ⟨g,0,none⟩) n k 1=some ⟨g,k,none⟩:=by unfold cutp;rw [if_neg (by omega)];simp [Addr.add_lit]
 have e2:cutp (some ⟨g,0,none⟩) n 0 1=some ⟨g,0,none⟩:=by unfold cutp;rw [if_neg (by omega)];simp [Addr.add_lit]
 have hl:(encI (List.replicate m (-1))).length=m:=by simp [encI]
 rw [e1,e2]
 have h:=run_copy_row (P:=Tryz.prog) W 25 25 3 3 g k (n - k) (n - k) ⟨g,0,none⟩ k n (rowR n k).toArray 3 (encI (List.replicate m (-1))) Tryz.underlying25 sizeI1 hB (by rw [hl];exact hm) (fun j v hj=>by
  have hj':j<m:=by have:=(List.getElem?_eq_some_iff.1 hj).1;rw [hl] at this;exact this
  have h1:=hB.cell j
  rw [List.getElem?_toArray,rowR_at (by omega)] at h1
  simp [encI,hj'] at hj
  rw [← hj]
  simpa [Addr.add_lit] using h1) (by rw [hl];simp [rowR_len (Nat.le_of_lt hkn)];omega) (by intro v hv;simp [encI] at hv;rw [hv.2];rfl)
 rw [h,hl]
 have e3:(rowR n k).toArray.toList.take k ++ (encI (List.replicate m (-1)) ++ (rowR n k).toArray.toList.drop (k+m))=rowR n (k+m):=by
  have:=rowR_splice (n:=n) (k:=k) (m:=m) (by omega)
  unfold splice at this
  rw [hl] at this
  exact this
 rw [List.append_assoc,e3];rfl
theorem repeatG (n:Nat) (h1:1≤n) (hn:n≤200) (p:Option Addr) (c:Nat) (w:World) (hx:Rd w 1 p 1 (encI [-1])) :
  Calls Tryz.prog 184 #[.slice p 1 c,.int .i64 n] w fun e w'=>∃ q,e=.returned (.slice q n n)∧Sep w w' [.own 3 1 q n n (encI (List.replicate n (-1)))]:=by
 obtain⟨i0,hi0,hz0,hz1,hz2⟩:=info_parts infI
 have HM:=Lib.hid (fun W=>mulOne n (by omega) W)
 have d1:decide ((n:Int)<0)=false:=by simp
 have d2:decide ((9223372036854775807:Int)<n)=false:=by simp;omega
 go_enter Tryz.func184,Tryz.ntmps184
 go_wp2_with (first
  | (at_make;go_must (refine wpList_make_sep rfl _ _ _ rfl 3 i0 _ 1 Tryz.underlying25 hi0 hz0 hz1 (n:Int) n rfl rfl rfl (by rw [hz2];omega) (by unfold maxLen;omega) S1.out ?_;intro w2 S';rw [made_encI] at S';have S2:=Lib.hid S';clear S';obtain⟨g,hq,hg,hB⟩:=own_blk (S2.out.own 0 rfl) (by omega);rw [hq];have HB:Hid (Blk w2 g 3 (rowR n 0).toArray):=hB;have HE:=Lib.hid S2.out.ext;have HX:=Lib.hid (hx.ext S2.out.ext);clear hq hB S2 S1))
  | (have _t:=HB;with_reducible show wpList _ _ _ (⟨some 33,_,_,_,_,_⟩:: _) _ _;go_must (refine wp_copyR rfl (.tmp 31) (.tmp 32) rfl (n:=n) (k:=0) (m:=1) (g:=g) (dp:=some ⟨g,0,none⟩) (sp:=p) (sl:=1) (sc:=c) (dc:=n) rfl rfl (by show 1=min 1 (n - 0);omega) (Nat.zero_le _) (fun _=>rfl) (fun _=>one_src HX.out) HB.out HE.out hg ?_;intro w3 h3 h4;rw [Nat.zero_add] at h3;have HB3:=Lib.hid h3;have HE3:=Lib.hid h4;clear h3 h4))
  | (go_at_call 227;go_must (refine(HM.out _).mono ?_;rintro e w1 ⟨rfl,hb⟩;have S1:=Lib.hid ((Sep.start w).call hb);clear hb)))
 go_loopg [8] n (fun gg v wr=>∃ k:Nat,1≤k∧k≤n∧n≤k+gg∧v=.int .i64 k∧Hid (Blk wr g 3 (rowR n k).toArray)∧Ext w wr)
 case atStart=>exact⟨1,Nat.le_refl _,h1,by omega,rfl,HB3.out,HE3.out⟩
 case round =>
  clear HB3 HE3
  obtain⟨k,hk1,hk,hgg,rfl,HBk,hE⟩:=hrel
  have HE:=Lib.hid hE
  clear hE
  by_cases hlt:k<n
  ·have d3:(k:Int)<n:=by omega
   have d4:(0:Int)≤k:=by omega
   have d5:(k:Int)≤n:=by omega
   obtain⟨m,hm⟩:∃ m,m=Nat.min k (n - k):=⟨_,rfl⟩
   have hm1:1≤m:=by rw [hm];show 1≤min k (n - k);omega
   have hm2:k+m≤n:=by
    have h0:m≤n - k:=hm ▸ Nat.min_le_right _ _
    omega
   have hrun:=copy_run (W:=wr.drew) HBk.out hk1 hlt hm
   have HB5:Hid (Blk (wr.drew.setRow g (rowR n (k+m)).toArray) g 3 (rowR n (k+m)).toArray):=setRow_heap wr.drew g _ _ 3 _ HBk.out
   have HE5:Hid (Ext w (wr.drew.setRow g (rowR n (k+m)).toArray)):=below_setRow (Below.drew HE.out) hg _
   have hwr:IntKind.i64.wrap ((k:Int)+(m:Int))=((k+m:Nat):Int):=by
    rw [Int.natCast_add]
    rw [IntKind.wrap_i64];omega
   clear hm
   go_wp2
   go_region_with fail
   go_wp2
   go_roundg (gk - m)
   case measure=>omega
   case rel=>exact⟨k+m,by omega,by omega,by omega,by first | rfl | (rw [hwr]) | go_num,HB5.out,HE5.out⟩
  ·obtain rfl:n=k:=by omega
   have e:rowR n n=encI (List.replicate n (-1)):=by unfold rowR;rw [Nat.sub_self,List.replicate_zero,List.append_nil]
   have HBn:=HBk.out
   rw [e] at HBn
   have HBn':=Lib.hid HBn
   clear HBn e
   go_wp2
   go_ret
   exact⟨_,rfl,Sep.of_own HE.out (blk_own (n:=n) HBn'.out hg (by unfold maxLen;omega) (by simp [encI]))⟩
end
section
open Go Go.RowKit Go.Shelf Go.Lib
attribute [local go_sem] Oper.semAt_some
theorem levC_open {ck:Bool} {O:List Int} {s:Int}:openC ck O [s]=levC ck O s:=by
 unfold openC levC
 cases ck with
 | false=>rfl
 | true =>
  rw [if_pos rfl,if_pos rfl]
  by_cases h:0≤s∧s<(O.length:Int) - 1
  ·rw [if_pos h,if_pos (by simp [h.1,h.2])]
  ·rw [if_neg h,if_neg (by simp;omega)]
def levRow (f:Nat→Int) (n:Nat) (ks:List Nat):List Int:=(List.range n).map fun v=>if 0≤f v∧(f v).toNat∈ks then f v else -1
theorem levRow_len (f:Nat→Int) (n:Nat) (ks:List Nat):(levRow f n ks).length=n:=by simp [levRow]
theorem levRow_nth {f:Nat→Int} {n:Nat} {ks:List Nat} {v:Nat} (hv:v<n):nth (levRow f n ks) v=if 0≤f v∧(f v).toNat∈ks then f v else -1:=by
 rw [nth_eq (by rw [levRow_len];exact hv)];simp [levRow]
theorem levRow_nil (f:Nat→Int) (n:Nat):levRow f n []=List.replicate n (-1):=by
 apply List.ext_getElem
 ·simp [levRow]
 ·intro j h1 h2;simp [levRow]
theorem levRow_step {f:Nat→Int} {n:Nat} {ks:List Nat} {k:Nat} {F:List Int} (hF:IsFront f n k F):tkR (k:Int) F (levRow f n ks)=levRow f n (ks ++ [k]):=by
 apply List.ext_getElem
 ·rw [tkR_len,levRow_len,levRow_len]
 ·intro v h1 h2
  have hv:v<n:=by rw [levRow_len] at h2;exact h2
  rw [← nth_eq h1,← nth_eq h2,tkR_nth (fun x hx=>by have:=(hF.2 x).1 hx;rw [levRow_len];omega),levRow_nth hv,levRow_nth hv]
  by_cases hm:(v:Int)∈F
  ·have:=(hF.2 _).1 hm
   rw [Int.toNat_natCast] at this
   rw [if_pos hm,if_pos ⟨by omega,by rw [List.mem_append];right;simp;omega⟩];omega
  ·rw [if_neg hm]
   have hne:f v≠k:=fun e=>hm ((hF.2 _).2 ⟨by omega,by omega,by rw [Int.toNat_natCast];exact e⟩)
   by_cases h0:0≤f v
   ·have e:((f v).toNat∈ks ++ [k])↔(f v).toNat∈ks:=by
     rw [List.mem_append,List.mem_singleton]
     constructor
     ·rintro(h | h)
      ·exact h
      ·omega
     ·exact .inl
    simp only [e]
   ·rw [if_neg (fun h=>h0 h.1),if_neg (fun h=>h0 h.1)]
theorem levRow_all {nx:Nat→List Int} {n s m:Nat} (hs:s<n) (hno:hasL n (lev nx n s) m=false):levRow (lev nx n s) n (List.range m)=(List.range n).map fun v=>lev nx n s v:=by
 unfold levRow
 apply List.map_congr_left
 intro v hv
 rw [List.mem_range] at hv
 rcases lev_cases (nx:=nx) hs hv with ⟨h1,_⟩ | ⟨j,hj,h1,_⟩
 ·rw [if_neg (by omega),h1]
 ·by_cases hjm:j<m
  ·rw [if_pos ⟨by omega,by rw [List.mem_range];omega⟩]
  ·have:=has_below hs (k:=j) (j:=m) (by omega) (hasL_iff.2 ⟨v,hv,h1⟩)
   rw [hno] at this;cases this
theorem cell_turn {W W':World} {row:Option Nat} {p:Addr} {v:Value} (h:W.cell? p=some v) (hg:W.grownBy W' row) (hr:∀ r,row=some r→∃ o:Obj,W.heap[r]?=some o∧o.isCells=false):W'.cell? p=some v:=by
 have hlt:=World.block_lt_of_cell? W _ h
 have e:W'.heap[p.block]?=W.heap[p.block]?:=hg.block p.block hlt fun e=>by
  obtain⟨o,h1,h2⟩:=hr p.block e.symm
  unfold World.cell? at h
  rw [h1] at h
  cases o <;> simp_all [Obj.isCells]
 unfold World.cell? at *
 rw [e];exact h
theorem ylA_own {nx:Nat→List Int} {n s B C:Nat}:OwnFrom C (ylA B:YlOf nx n s→World→Prop):=fun _ _ _ _ h hg hr =>
 ⟨⟨h.1.len,h.1.ptr,h.1.small,fun j hj=>cell_turn (h.1.cells j hj) hg fun r e=>(hr r e).2⟩,h.2⟩
theorem kpF_b {w4:World} {n₀ b1 b2 b3:Nat} (hn:n₀≤w4.heap.size) (h1:b1<w4.heap.size) (h2:b2<w4.heap.size) (h3:b3<w4.heap.size) (W:World) (l:Nat) (o o':Obj) (hl:w4.heap.size≤l) (h:W.heap[l]?=some o) (hc:o.isCells=false) (hw:o.isWalk=false):KpF n₀ w4.heap.size b1 b2 b3 W (W.putObj l o') :=
 ⟨belowK_b hn W l o o' hl h hc hw,World.putObj_heap_other (by omega),World.putObj_heap_other (by omega),World.putObj_heap_other (by omega),fun k o2 hk h2 h3=>by
  by_cases e:k=l
  ·subst e;rw [h] at h2;cases h2;rw [hc] at h3;cases h3
  ·rw [World.putObj_heap_other (by omega)];exact h2⟩
theorem LevelsG_no (po:Option Addr) (no co:Nat) (O:List Int) (pt:Option Addr) (nt ct:Nat) (T:List Int) (pr:Option Addr) (nr cr:Nat) (R:List Int) (pv:Option Addr) (nv cv:Nat) (V:List Int) (s:Int) (back:Bool) (w:World) (hO:Rd w 1 po no (encI O)) (hT:Rd w 1 pt nt (encI T)) (hR:Rd w 1 pr nr (encI R)) (hV:Rd w 1 pv nv (encI V)) (hct:nt≤ct) (hcv:nv≤cv) (hc:levC (checkR O T R V) O s≠0) :
  Calls Tryz.prog 114 #[.agg #[.slice po no co,.slice pt nt ct,.slice pr nr cr,.slice pv nv cv],.int .i64 s,.bool back] w fun e w'=>e=.returned (.tuple #[.slice none 0 0,.int .i64 (levC (checkR O T R V) O s)])∧Ext w w':=by
 have S0:=Lib.hid (((Sep.start w).al #[.slice po no co,.slice pt nt ct,.slice pr nr cr,.slice pv nv cv] 27 w.heap.size rfl).al #[.int .i64 s] 3 (w.heap.size+1) (by simp))
 have HOp:=Lib.hid (fun W1 p c (h:Ext w W1) (hl:Rd W1 1 p 1 (encI [s]))=>openL po no co O pt nt ct T pr nr cr R pv nv cv V p 1 c [s] W1 (hO.ext h) (hT.ext h) (hR.ext h) (hV.ext h) hct hcv hl)
 rw [levC_open] at HOp
 generalize levC (checkR O T R V) O s=cc at *
 have hc0:(cc != 0)=true:=by simpa using hc
 clear hO hT hR hV hct hcv hc
 go_enter Tryz.func114,Tryz.ntmps114
 go_wp2_with (go_at_call 183;go_must (refine(HOp.out _ _ _ S0.out.ext ((S0.out.blk 0 rfl).rd rfl rfl (by decide))).mono ?_;rintro e w1 ⟨rfl,hb⟩;have S1:=Lib.hid (S0.out.call hb);clear hb))
 go_ret2
 exact⟨rfl,(S1.out.al #[.slice po no co,.slice pt nt ct,.slice pr nr cr,.slice pv nv cv] 243 w1.heap.size rfl).ext⟩
theorem cell_eq {W W':World} {p:Addr} (h:W'.heap[p.block]?=W.heap[p.block]?):W'.cell? p=W.cell? p:=by unfold World.cell?;rw [h]
theorem LevelsG_out (po:Option Addr) (no co:Nat) (O:List Int) (pt:Option Addr) (nt ct:Nat) (T:List Int) (pr:Option Addr) (nr cr:Nat) (R:List Int) (pv:Option Addr) (nv cv:Nat) (V:List Int) (n s:Nat) (w:World) (hO:Rd w 1 po no (encI O)) (hT:Rd w 1 pt nt (encI T)) (hR:Rd w 1 pr nr (encI R)) (hV:Rd w 1 pv nv (encI V)) (hct:nt≤ct) (hcv:nv≤cv) (hck:checkR O T R V=true) (hno:O.length=n+1) (hs:s<n) :
  Calls Tryz.prog 114 #[.agg #[.slice po no co,.slice pt nt ct,.slice pr nr cr,.slice pv nv cv],.int .i64 s,.bool false] w fun e w'=>∃ q c,e=.returned (.tuple #[.slice q n c,.int .i64 0])∧Sep w w' [.own 3 1 q n c (encI ((List.range n).map fun v=>lev (rowL O T) n s v))]:=by
 have S0:=Lib.hid (((Sep.start w).al #[.slice po no co,.slice pt nt ct,.slice pr nr cr,.slice pv nv cv] 27 w.heap.size rfl).al #[.int .i64 s] 3 (w.heap.size+1) (by simp))
 have HOp:=Lib.hid (fun W1 p c (h:Ext w W1) (hl:Rd W1 1 p 1 (encI [(s:Int)]))=>openL po no co O pt nt ct T pr nr cr R pv nv cv V p 1 c [(s:Int)] W1 (hO.ext h) (hT.ext h) (hR.ext h) (hV.ext h) hct hcv hl)
 have hl0:levC (checkR O T R V) O s=0:=by unfold levC;rw [if_pos hck,if_pos (by omega)]
 rw [levC_open,hl0] at HOp
 obtain⟨e1,e2,e3,e4⟩:=checkR_half hck
 have r:=offB_parts (halfB_off e3)
 have hn:n≤200:=by omega
 have hin:InN (rowL O T) n:=by have:=nxR_in hck false;rw [hno] at this;exact this
 have l1:=hO.nI
 have hnn:no=n+1:=by omega
 have hA0:0<no→(adr po 0).block<w.heap.size:=fun h=>hO.lt (by omega)
 have hB0:0<nt→(adr pt 0).block<w.heap.size:=fun h=>hT.lt (by omega)
 have HNX:Hid (∀ w4,Ext w w4→∀ k,k<n→∃ q c,∀ W,Below w.heap.size w4 W→Rd W 1 q ((rowL O T) k).length (encI ((rowL O T) k))∧Calls Tryz.prog 266 #[.agg #[.slice po no co,.slice pt nt ct,.slice pr nr cr,.slice pv nv cv],.int .i64 k] W fun e w'=>e=.returned (.slice q ((rowL O T) k).length c)∧Ext W w'):=fun w4 h4 k hk=>by
  have hok:=offOk_of (halfB_off e3)
  have hkl:k+1<O.length:=by omega
  refine⟨cutp pt ct (nth O k).toNat 1,ct - (nth O k).toNat,fun W hW=>?_⟩
  have hx:=(hO.ext h4).below hW (by simpa using hA0)
  have hy:=(hT.ext h4).below hW (by simpa using hB0)
  refine⟨?_,waysOut po no co O pt nt ct T pr nr cr R pv nv cv V k W hx hy hok hct hkl⟩
  have:=hy.rowOf hok hct hkl
  rw [← rowL_len hok hkl] at this
  exact this
 have HIN:=Lib.hid hin
 have HSZ:=Lib.hid (fun W=>waysSize po (n+1) co pt nt ct pr nr cr pv nv cv W (by omega) (by omega))
 have HFR:=Lib.hid (fun W=>frontsG po (n+1) co pt nt ct pr nr cr pv nv cv s false W)
 clear hO hT hR hV hct hcv hck hno hl0 e1 e2 e3 e4 r l1 hA0 hB0 hin
 subst hnn
 generalize rowL O T=nx at *
 refine(callsIn_wide (n:=9)).1 ?_
 refine callsIn_of_wp_marks Tryz.func114 rfl trivial ?_ rfl
 simp only [Tryz.ntmps114,List.size_toArray,List.length_cons,List.length_nil,Nat.reduceAdd,Nat.reduceSub,Array.replicate_succ,Array.replicate_zero,List.push_toArray,List.append_toArray,List.nil_append,List.cons_append]
 refine wpIn_wide.2 ?_
 go_wp2_with (first
  | (go_at_call 186;go_must (refine(HFR.out _).mono ?_;rintro e w4 ⟨b1,b2,b3,rfl,Z⟩;have S4:=Lib.hid (S3.out.comp Z);clear Z))
  | (go_at_call 184;go_must (refine(repeatG n (by omega) hn _ _ _ ((S2.out.blk 0 rfl).rd rfl rfl (by decide))).mono ?_;rintro e w3 ⟨q,rfl,Z⟩;have S3:=Lib.hid ((S2.out.comp Z).al #[.slice q n n] 25 w3.heap.size rfl);obtain⟨yz,y0,y1,y2,y3⟩:=bklc0c1c2c3 (S3.out.blk 3 rfl);clear Z))
  | (go_at_call 185;go_must (refine(HSZ.out _).mono ?_;rintro e w2 ⟨rfl,hb⟩;have S2:=Lib.hid (((S1.out.al #[.slice po (n+1) co,.slice pt nt ct,.slice pr nr cr,.slice pv nv cv] 243 w1.heap.size rfl).al #[.int .i64 (-1)] 3 (w1.heap.size+1) (by simp)).call hb);clear hb))
  | (go_at_call 183;go_must (refine(HOp.out _ _ _ S0.out.ext ((S0.out.blk 0 rfl).rd rfl rfl (by decide))).mono ?_;rintro e w1 ⟨rfl,hb⟩;have S1:=Lib.hid (S0.out.call hb);clear hb)))
 clear S0 S1 S2 S3 y0 y1 y2 y3 yz
 generalize w3.heap.size=g at *
 have S5:=Lib.hid (S4.out.pick [0,1,2,3,4] (by decide) rfl:Sep w w4 [.blk b3 128 #[.func (.func 266) #[.agg #[.slice po (n+1) co,.slice pt nt ct,.slice pr nr cr,.slice pv nv cv]] #[]],.blk b2 3 #[.int .i64 s],.blk b1 243 #[.slice po (n+1) co,.slice pt nt ct,.slice pr nr cr,.slice pv nv cv],.blk g 25 #[.slice q n n],.own 3 1 q n n (encI (List.replicate n (-1)))])
 rw [← levRow_nil (lev nx n s) n] at S5
 clear S4 HOp HSZ HFR
 refine wpIn_wide.1 (wpIn_rangeFunc_told (F:=Fence.wide) (n:=9) rfl (by omega) (gf:=229) (lb:=#[.pointer (some ⟨b1,0,none⟩),.pointer (some ⟨b2,0,none⟩),.pointer (some ⟨b3,0,none⟩)]) rfl trivial (enters_of Tryz.func229 (by kernel_rfl) rfl)
  (fronts_out 8 (by omega) po (n+1) co pt nt ct pr nr cr pv nv cv b1 b2 b3 w.heap.size n s nx w4 S5.out.ext.size (S5.out.blk 2 rfl) (S5.out.blk 1 rfl) (S5.out.blk 0 rfl) hs hn rfl HIN.out (HNX.out w4 S5.out.ext))
  (fun h k=>KpF.trans h k) (kpF_b S5.out.ext.size (S5.out.blk 2 rfl).lt (S5.out.blk 1 rfl).lt (S5.out.blk 0 rfl).lt) (Below.refl _ _) (fun _=>rfl)
  (fun pre W=>Sep w W [.blk b3 128 #[.func (.func 266) #[.agg #[.slice po (n+1) co,.slice pt nt ct,.slice pr nr cr,.slice pv nv cv]] #[]],.blk b2 3 #[.int .i64 s],.blk b1 243 #[.slice po (n+1) co,.slice pt nt ct,.slice pr nr cr,.slice pv nv cv],.blk g 25 #[.slice q n n],.own 3 1 q n n (encI (levRow (lev nx n s) n (pre.map (·.1.k))))])
  (fun _ _ _=>False)
  ?hI (fun _ _ _ _ _ _ _ _ h=>h) ylA_own S5.out ?a1 ?assign ?body ?done (fun D c pre W _ _ h _=>h.elim))
 case hI =>
  intro pre Z W W' hZ h1 h2 S
  refine S.far S5.out.ext.size hZ h1 h2 fun p hp k hk=>?_
  simp only [List.mem_cons,List.not_mem_nil,or_false] at hp
  rcases hp with rfl | rfl | rfl | rfl | rfl
  ·exact S5.out.lt (List.mem_of_getElem? (i:=0) rfl) hk
  ·exact S5.out.lt (List.mem_of_getElem? (i:=1) rfl) hk
  ·exact S5.out.lt (List.mem_of_getElem? (i:=2) rfl) hk
  ·exact S5.out.lt (List.mem_of_getElem? (i:=3) rfl) hk
  ·exact S5.out.lt (List.mem_of_getElem? (i:=4) rfl) hk
 case assign =>
  intro l x W K hK
  simp only [ylE]
  gi_wp2
  exact hK
 case body =>
  rintro l pre ⟨⟨k,F,q',c'⟩,hF,lf⟩ W S ⟨hR,hBk⟩ hlen
  have hRd:Rd W 1 q' F.length (encI F):=hR
  have hblk:w4.heap.size≤(adr q' 0).block:=hBk
  have HF:=Lib.hid (show IsFront (lev nx n s) n k F from hF)
  have bF:=Lib.hid (front_bd8 HF.out)
  have hF200:F.length≤200:=by have:=bF.out.2;omega
  have pF:=hRd.ptr
  have HR:=Lib.hid hRd
  have hqb:=S5.out.blt 4 rfl (by omega)
  have HS:=Lib.hid S
  obtain⟨X,hX⟩:∃ X,X=levRow (lev nx n s) n (pre.map (·.1.k)):=⟨_,rfl⟩
  have hXl:X.length=n:=by rw [hX,levRow_len]
  have HX:Hid (tkR (k:Int) F X=levRow (lev nx n s) n ((pre ++ [(⟨⟨k,F,q',c'⟩,hF,lf⟩:YlOf nx n s)]).map (·.1.k))):=by
   unfold Hid;rw [List.map_append,hX];exact levRow_step HF.out
  rw [← hX] at HS
  generalize (pre ++ [(⟨⟨k,F,q',c'⟩,hF,lf⟩:YlOf nx n s)])=pre2 at *
  clear hX S hR hBk hRd hlen
  gi_wp2
  gi_loopw [14,37] (fun _ v37 wx=>∃ j:Nat,j≤F.length∧v37=.int .i64 j∧Sep w wx [.blk b3 128 #[.func (.func 266) #[.agg #[.slice po (n+1) co,.slice pt nt ct,.slice pr nr cr,.slice pv nv cv]] #[]],.blk b2 3 #[.int .i64 s],.blk b1 243 #[.slice po (n+1) co,.slice pt nt ct,.slice pr nr cr,.slice pv nv cv],.blk g 25 #[.slice q n n],.own 3 1 q n n (encI (tkR (k:Int) (F.take j) X))]∧W.heap.size≤wx.heap.size∧Hid (∀ kk,w4.heap.size≤kk→wx.heap[kk]?=W.heap[kk]?)) (fun _ v37 _=>F.length - (intOf v37).toNat)
  case atStart=>exact⟨0,Nat.zero_le _,rfl,HS.out,Nat.le_refl _,fun _ _=>rfl⟩
  case round =>
   obtain⟨j,hj,rfl,S,hsz,hup⟩:=hrel
   obtain⟨g0,gz⟩:=bkc0l (S.blk 3 rfl)
   have pq:=(S.rdx 4 rfl).ptr
   by_cases hlj:j<F.length
   ·have g1:=HR.out.cI hlj
    rw [← cell_eq (W':=wr) (by rw [adr_block];exact hup.out _ hblk)] at g1
    obtain⟨f1,f2⟩:=bF.out.1 _ (nth_mem hlj)
    have hT:=tkR_take (c:=(k:Int)) (X:=X) hlj
    obtain⟨a,ha⟩:∃ a:Nat,nth F j=(a:Int):=⟨(nth F j).toNat,by omega⟩
    rw [ha] at g1 f1 f2 hT
    rw [Int.toNat_natCast] at hT
    have HT:=Lib.hid hT
    have d1:(0:Int)≤j:=by omega
    have d2:(j:Int)<F.length:=by omega
    have fz:=own_frozen (S.own 4 rfl) (by omega) a
    have cz:=own_cell (S.own 4 rfl) (k:=a) (by omega)
    have HU:Hid (∀ kk,w4.heap.size≤kk→(wr.setCell (adr q a) (.int .i64 k)).heap[kk]?=W.heap[kk]?):=fun kk hk=>by
     rw [Below.heap_setCell wr (adr q a) _ kk (by rw [adr_block];omega)];exact hup.out kk hk
    have SH:=Lib.hid S;clear S
    clear hT ha
    gi_wp2
    go_roundw
    case rel=>exact⟨j+1,by omega,by go_num,by rw [HT.out,← encI_set];exact SH.out.setRow 4 rfl a (by omega) (.int .i64 k),by simpa using hsz,HU.out⟩
    case measure=>simp [intOf];omega
   ·obtain rfl:j=F.length:=by omega
    rw [List.take_length,HX.out] at S
    have SH:=Lib.hid S;clear S
    gi_wp2
    exact⟨⟨hsz,fun kk o hB ho _=>(hup.out kk hB).trans ho⟩,⟨⟨SH.out.ext.os.trans HS.out.ext.os.symm,SH.out.ext.tape.trans HS.out.ext.tape.symm,SH.out.ext.output.trans HS.out.ext.output.symm,hsz,fun kk hk=>(SH.out.ext.block kk hk).trans (HS.out.ext.block kk hk).symm⟩,(SH.out.blk 2 rfl).trans (HS.out.blk 2 rfl).symm,(SH.out.blk 1 rfl).trans (HS.out.blk 1 rfl).symm,(SH.out.blk 0 rfl).trans (HS.out.blk 0 rfl).symm,fun kk o hB ho _=>(hup.out kk hB).trans ho⟩,SH.out⟩
 case done =>
  rintro D ys W hD hys S hK
  rw [hys.1,levRow_all hs hys.2] at S
  have c4:=(S.blk 3 rfl).cell 0
  have S':=S.putObj (cells_all fun p hp=>by
   simp only [List.mem_cons,List.not_mem_nil,or_false] at hp
   rcases hp with rfl | rfl | rfl | rfl | rfl
   ·exact .inl ⟨_,_,_,rfl⟩
   ·exact .inl ⟨_,_,_,rfl⟩
   ·exact .inl ⟨_,_,_,rfl⟩
   ·exact .inl ⟨_,_,_,rfl⟩
   ·exact .inr ⟨_,_,_,_,_,_,rfl⟩) (.deferred none) (Nat.le_trans S5.out.ext.size hD) hK rfl
  have SH:=Lib.hid S;clear S
  have SH':=Lib.hid S';clear S'
  go_wp2
  refine⟨by simp,.inl ⟨_,_,rfl,run_takeDeferred hK,?_⟩⟩
  exact⟨.tuple #[.slice q n n,.int .i64 0],by simp [results,Tryz.results114,go_sem],q,n,rfl,SH'.out.pick [4] (by decide) rfl⟩
theorem LevelsG_in (po:Option Addr) (no co:Nat) (O:List Int) (pt:Option Addr) (nt ct:Nat) (T:List Int) (pr:Option Addr) (nr cr:Nat) (R:List Int) (pv:Option Addr) (nv cv:Nat) (V:List Int) (n s:Nat) (w:World) (hO:Rd w 1 po no (encI O)) (hT:Rd w 1 pt nt (encI T)) (hR:Rd w 1 pr nr (encI R)) (hV:Rd w 1 pv nv (encI V)) (hct:nt≤ct) (hcv:nv≤cv) (hck:checkR O T R V=true) (hno:O.length=n+1) (hs:s<n) :
  Calls Tryz.prog 114 #[.agg #[.slice po no co,.slice pt nt ct,.slice pr nr cr,.slice pv nv cv],.int .i64 s,.bool true] w fun e w'=>∃ q c,e=.returned (.tuple #[.slice q n c,.int .i64 0])∧Sep w w' [.own 3 1 q n c (encI ((List.range n).map fun v=>lev (rowL R V) n s v))]:=by
 have S0:=Lib.hid (((Sep.start w).al #[.slice po no co,.slice pt nt ct,.slice pr nr cr,.slice pv nv cv] 27 w.heap.size rfl).al #[.int .i64 s] 3 (w.heap.size+1) (by simp))
 have HOp:=Lib.hid (fun W1 p c (h:Ext w W1) (hl:Rd W1 1 p 1 (encI [(s:Int)]))=>openL po no co O pt nt ct T pr nr cr R pv nv cv V p 1 c [(s:Int)] W1 (hO.ext h) (hT.ext h) (hR.ext h) (hV.ext h) hct hcv hl)
 have hl0:levC (checkR O T R V) O s=0:=by unfold levC;rw [if_pos hck,if_pos (by omega)]
 rw [levC_open,hl0] at HOp
 obtain⟨e1,e2,e3,e4⟩:=checkR_half hck
 have r:=offB_parts (halfB_off e3)
 have hn:n≤200:=by omega
 have hin:InN (rowL R V) n:=by have:=nxR_in hck true;rw [hno] at this;exact this
 have l1:=hO.nI
 have hnn:no=n+1:=by omega
 have hA0:0<nr→(adr pr 0).block<w.heap.size:=fun h=>hR.lt (by omega)
 have hB0:0<nv→(adr pv 0).block<w.heap.size:=fun h=>hV.lt (by omega)
 have HNX:Hid (∀ w4,Ext w w4→∀ k,k<n→∃ q c,∀ W,Below w.heap.size w4 W→Rd W 1 q ((rowL R V) k).length (encI ((rowL R V) k))∧Calls Tryz.prog 265 #[.agg #[.slice po no co,.slice pt nt ct,.slice pr nr cr,.slice pv nv cv],.int .i64 k] W fun e w'=>e=.returned (.slice q ((rowL R V) k).length c)∧Ext W w'):=fun w4 h4 k hk=>by
  have hok:=offOk_of (halfB_off e4)
  have hkl:k+1<R.length:=by omega
  refine⟨cutp pv cv (nth R k).toNat 1,cv - (nth R k).toNat,fun W hW=>?_⟩
  have hx:=(hR.ext h4).below hW (by simpa using hA0)
  have hy:=(hV.ext h4).below hW (by simpa using hB0)
  refine⟨?_,waysIn po no co O pt nt ct T pr nr cr R pv nv cv V k W hx hy hok hcv hkl⟩
  have:=hy.rowOf hok hcv hkl
  rw [← rowL_len hok hkl] at this
  exact this
 have HIN:=Lib.hid hin
 have HSZ:=Lib.hid (fun W=>waysSize po (n+1) co pt nt ct pr nr cr pv nv cv W (by omega) (by omega))
 have HFR:=Lib.hid (fun W=>frontsG po (n+1) co pt nt ct pr nr cr pv nv cv s true W)
 clear hO hT hR hV hct hcv hck hno hl0 e1 e2 e3 e4 r l1 hA0 hB0 hin
 subst hnn
 generalize rowL R V=nx at *
 refine(callsIn_wide (n:=9)).1 ?_
 refine callsIn_of_wp_marks Tryz.func114 rfl trivial ?_ rfl
 simp only [Tryz.ntmps114,List.size_toArray,List.length_cons,List.length_nil,Nat.reduceAdd,Nat.reduceSub,Array.replicate_succ,Array.replicate_zero,List.push_toArray,List.append_toArray,List.nil_append,List.cons_append]
 refine wpIn_wide.2 ?_
 go_wp2_with (first
  | (go_at_call 186;go_must (refine(HFR.out _).mono ?_;rintro e w4 ⟨b1,b2,b3,rfl,Z⟩;have S4:=Lib.hid (S3.out.comp Z);clear Z))
  | (go_at_call 184;go_must (refine(repeatG n (by omega) hn _ _ _ ((S2.out.blk 0 rfl).rd rfl rfl (by decide))).mono ?_;rintro e w3 ⟨q,rfl,Z⟩;have S3:=Lib.hid ((S2.out.comp Z).al #[.slice q n n] 25 w3.heap.size rfl);obtain⟨yz,y0,y1,y2,y3⟩:=bklc0c1c2c3 (S3.out.blk 3 rfl);clear Z))
  | (go_at_call 185;go_must (refine(HSZ.out _).mono ?_;rintro e w2 ⟨rfl,hb⟩;have S2:=Lib.hid (((S1.out.al #[.slice po (n+1) co,.slice pt nt ct,.slice pr nr cr,.slice pv nv cv] 243 w1.heap.size rfl).al #[.int .i64 (-1)] 3 (w1.heap.size+1) (by simp)).call hb);clear hb))
  | (go_at_call 183;go_must (refine(HOp.out _ _ _ S0.out.ext ((S0.out.blk 0 rfl).rd rfl rfl (by decide))).mono ?_;rintro e w1 ⟨rfl,hb⟩;have S1:=Lib.hid (S0.out.call hb);clear hb)))
 clear S0 S1 S2 S3 y0 y1 y2 y3 yz
 generalize w3.heap.size=g at *
 have S5:=Lib.hid (S4.out.pick [0,1,2,3,4] (by decide) rfl:Sep w w4 [.blk b3 128 #[.func (.func 265) #[.agg #[.slice po (n+1) co,.slice pt nt ct,.slice pr nr cr,.slice pv nv cv]] #[]],.blk b2 3 #[.int .i64 s],.blk b1 243 #[.slice po (n+1) co,.slice pt nt ct,.slice pr nr cr,.slice pv nv cv],.blk g 25 #[.slice q n n],.own 3 1 q n n (encI (List.replicate n (-1)))])
 rw [← levRow_nil (lev nx n s) n] at S5
 clear S4 HOp HSZ HFR
 refine wpIn_wide.1 (wpIn_rangeFunc_told (F:=Fence.wide) (n:=9) rfl (by omega) (gf:=229) (lb:=#[.pointer (some ⟨b1,0,none⟩),.pointer (some ⟨b2,0,none⟩),.pointer (some ⟨b3,0,none⟩)]) rfl trivial (enters_of Tryz.func229 (by kernel_rfl) rfl)
  (fronts_in 8 (by omega) po (n+1) co pt nt ct pr nr cr pv nv cv b1 b2 b3 w.heap.size n s nx w4 S5.out.ext.size (S5.out.blk 2 rfl) (S5.out.blk 1 rfl) (S5.out.blk 0 rfl) hs hn rfl HIN.out (HNX.out w4 S5.out.ext))
  (fun h k=>KpF.trans h k) (kpF_b S5.out.ext.size (S5.out.blk 2 rfl).lt (S5.out.blk 1 rfl).lt (S5.out.blk 0 rfl).lt) (Below.refl _ _) (fun _=>rfl)
  (fun pre W=>Sep w W [.blk b3 128 #[.func (.func 265) #[.agg #[.slice po (n+1) co,.slice pt nt ct,.slice pr nr cr,.slice pv nv cv]] #[]],.blk b2 3 #[.int .i64 s],.blk b1 243 #[.slice po (n+1) co,.slice pt nt ct,.slice pr nr cr,.slice pv nv cv],.blk g 25 #[.slice q n n],.own 3 1 q n n (encI (levRow (lev nx n s) n (pre.map (·.1.k))))])
  (fun _ _ _=>False)
  ?hI (fun _ _ _ _ _ _ _ _ h=>h) ylA_own S5.out ?a1 ?assign ?body ?done (fun D c pre W _ _ h _=>h.elim))
 case hI =>
  intro pre Z W W' hZ h1 h2 S
  refine S.far S5.out.ext.size hZ h1 h2 fun p hp k hk=>?_
  simp only [List.mem_cons,List.not_mem_nil,or_false] at hp
  rcases hp with rfl | rfl | rfl | rfl | rfl
  ·exact S5.out.lt (List.mem_of_getElem? (i:=0) rfl) hk
  ·exact S5.out.lt (List.mem_of_getElem? (i:=1) rfl) hk
  ·exact S5.out.lt (List.mem_of_getElem? (i:=2) rfl) hk
  ·exact S5.out.lt (List.mem_of_getElem? (i:=3) rfl) hk
  ·exact S5.out.lt (List.mem_of_getElem? (i:=4) rfl) hk
 case assign =>
  intro l x W K hK
  simp only [ylE]
  gi_wp2
  exact hK
 case body =>
  rintro l pre ⟨⟨k,F,q',c'⟩,hF,lf⟩ W S ⟨hR,hBk⟩ hlen
  have hRd:Rd W 1 q' F.length (encI F):=hR
  have hblk:w4.heap.size≤(adr q' 0).block:=hBk
  have HF:=Lib.hid (show IsFront (lev nx n s) n k F from hF)
  have bF:=Lib.hid (front_bd8 HF.out)
  have hF200:F.length≤200:=by have:=bF.out.2;omega
  have pF:=hRd.ptr
  have HR:=Lib.hid hRd
  have hqb:=S5.out.blt 4 rfl (by omega)
  have HS:=Lib.hid S
  obtain⟨X,hX⟩:∃ X,X=levRow (lev nx n s) n (pre.map (·.1.k)):=⟨_,rfl⟩
  have hXl:X.length=n:=by rw [hX,levRow_len]
  have HX:Hid (tkR (k:Int) F X=levRow (lev nx n s) n ((pre ++ [(⟨⟨k,F,q',c'⟩,hF,lf⟩:YlOf nx n s)]).map (·.1.k))):=by
   unfold Hid;rw [List.map_append,hX];exact levRow_step HF.out
  rw [← hX] at HS
  generalize (pre ++ [(⟨⟨k,F,q',c'⟩,hF,lf⟩:YlOf nx n s)])=pre2 at *
  clear hX S hR hBk hRd hlen
  gi_wp2
  gi_loopw [14,37] (fun _ v37 wx=>∃ j:Nat,j≤F.length∧v37=.int .i64 j∧Sep w wx [.blk b3 128 #[.func (.func 265) #[.agg #[.slice po (n+1) co,.slice pt nt ct,.slice pr nr cr,.slice pv nv cv]] #[]],.blk b2 3 #[.int .i64 s],.blk b1 243 #[.slice po (n+1) co,.slice pt nt ct,.slice pr nr cr,.slice pv nv cv],.blk g 25 #[.slice q n n],.own 3 1 q n n (encI (tkR (k:Int) (F.take j) X))]∧W.heap.size≤wx.heap.size∧Hid (∀ kk,w4.heap.size≤kk→wx.heap[kk]?=W.heap[kk]?)) (fun _ v37 _=>F.length - (intOf v37).toNat)
  case atStart=>exact⟨0,Nat.zero_le _,rfl,HS.out,Nat.le_refl _,fun _ _=>rfl⟩
  case round =>
   obtain⟨j,hj,rfl,S,hsz,hup⟩:=hrel
   obtain⟨g0,gz⟩:=bkc0l (S.blk 3 rfl)
   have pq:=(S.rdx 4 rfl).ptr
   by_cases hlj:j<F.length
   ·have g1:=HR.out.cI hlj
    rw [← cell_eq (W':=wr) (by rw [adr_block];exact hup.out _ hblk)] at g1
    obtain⟨f1,f2⟩:=bF.out.1 _ (nth_mem hlj)
    have hT:=tkR_take (c:=(k:Int)) (X:=X) hlj
    obtain⟨a,ha⟩:∃ a:Nat,nth F j=(a:Int):=⟨(nth F j).toNat,by omega⟩
    rw [ha] at g1 f1 f2 hT
    rw [Int.toNat_natCast] at hT
    have HT:=Lib.hid hT
    have d1:(0:Int)≤j:=by omega
    have d2:(j:Int)<F.length:=by omega
    have fz:=own_frozen (S.own 4 rfl) (by omega) a
    have cz:=own_cell (S.own 4 rfl) (k:=a) (by omega)
    have HU:Hid (∀ kk,w4.heap.size≤kk→(wr.setCell (adr q a) (.int .i64 k)).heap[kk]?=W.heap[kk]?):=fun kk hk=>by
     rw [Below.heap_setCell wr (adr q a) _ kk (by rw [adr_block];omega)];exact hup.out kk hk
    have SH:=Lib.hid S;clear S
    clear hT ha
    gi_wp2
    go_roundw
    case rel=>exact⟨j+1,by omega,by go_num,by rw [HT.out,← encI_set];exact SH.out.setRow 4 rfl a (by omega) (.int .i64 k),by simpa using hsz,HU.out⟩
    case measure=>simp [intOf];omega
   ·obtain rfl:j=F.length:=by omega
    rw [List.take_length,HX.out] at S
    have SH:=Lib.hid S;clear S
    gi_wp2
    exact⟨⟨hsz,fun kk o hB ho _=>(hup.out kk hB).trans ho⟩,⟨⟨SH.out.ext.os.trans HS.out.ext.os.symm,SH.out.ext.tape.trans HS.out.ext.tape.symm,SH.out.ext.output.trans HS.out.ext.output.symm,hsz,fun kk hk=>(SH.out.ext.block kk hk).trans (HS.out.ext.block kk hk).symm⟩,(SH.out.blk 2 rfl).trans (HS.out.blk 2 rfl).symm,(SH.out.blk 1 rfl).trans (HS.out.blk 1 rfl).symm,(SH.out.blk 0 rfl).trans (HS.out.blk 0 rfl).symm,fun kk o hB ho _=>(hup.out kk hB).trans ho⟩,SH.out⟩
 case done =>
  rintro D ys W hD hys S hK
  rw [hys.1,levRow_all hs hys.2] at S
  have c4:=(S.blk 3 rfl).cell 0
  have S':=S.putObj (cells_all fun p hp=>by
   simp only [List.mem_cons,List.not_mem_nil,or_false] at hp
   rcases hp with rfl | rfl | rfl | rfl | rfl
   ·exact .inl ⟨_,_,_,rfl⟩
   ·exact .inl ⟨_,_,_,rfl⟩
   ·exact .inl ⟨_,_,_,rfl⟩
   ·exact .inl ⟨_,_,_,rfl⟩
   ·exact .inr ⟨_,_,_,_,_,_,rfl⟩) (.deferred none) (Nat.le_trans S5.out.ext.size hD) hK rfl
  have SH:=Lib.hid S;clear S
  have SH':=Lib.hid S';clear S'
  go_wp2
  refine⟨by simp,.inl ⟨_,_,rfl,run_takeDeferred hK,?_⟩⟩
  exact⟨.tuple #[.slice q n n,.int .i64 0],by simp [results,Tryz.results114,go_sem],q,n,rfl,SH'.out.pick [4] (by decide) rfl⟩
theorem LevelsG (po:Option Addr) (no co:Nat) (O:List Int) (pt:Option Addr) (nt ct:Nat) (T:List Int) (pr:Option Addr) (nr cr:Nat) (R:List Int) (pv:Option Addr) (nv cv:Nat) (V:List Int) (s:Int) (back:Bool) (w:World) (hO:Rd w 1 po no (encI O)) (hT:Rd w 1 pt nt (encI T)) (hR:Rd w 1 pr nr (encI R)) (hV:Rd w 1 pv nv (encI V)) (hct:nt≤ct) (hcv:nv≤cv) :
  Calls Tryz.prog 114 #[.agg #[.slice po no co,.slice pt nt ct,.slice pr nr cr,.slice pv nv cv],.int .i64 s,.bool back] w fun e w'=>∃ q c,e=.returned (.tuple #[.slice q (levR (checkR O T R V) back O T R V s).length c,.int .i64 (levC (checkR O T R V) O s)])∧Sep w w' [.own 3 1 q (levR (checkR O T R V) back O T R V s).length c (encI (levR (checkR O T R V) back O T R V s))]:=by
 by_cases hc:levC (checkR O T R V) O s=0
 ·have hck:checkR O T R V=true:=by
   apply Classical.byContradiction;intro h
   unfold levC at hc;rw [if_neg h] at hc;omega
  have hs:0≤s∧s<(O.length:Int) - 1:=by
   apply Classical.byContradiction;intro h
   unfold levC at hc;rw [if_pos hck,if_neg h] at hc;omega
  obtain⟨n,hn⟩:∃ n,O.length=n+1:=⟨O.length - 1,by omega⟩
  obtain⟨a,rfl⟩:∃ a:Nat,s=(a:Int):=⟨s.toNat,by omega⟩
  have e:levR (checkR O T R V) back O T R V a=(List.range n).map fun v=>lev (nxR back O T R V) n a v:=by
   unfold levR;rw [if_pos hc,hn];rfl
  have hl:((List.range n).map fun v=>lev (nxR back O T R V) n a v).length=n:=by simp
  rw [hc,e]
  cases back with
  | false =>
   refine(LevelsG_out po no co O pt nt ct T pr nr cr R pv nv cv V n a w hO hT hR hV hct hcv hck hn (by omega)).mono ?_
   rintro e w' ⟨q,c,rfl,S⟩
   exact⟨q,c,by rw [hl],by rw [hl];exact S⟩
  | true =>
   refine(LevelsG_in po no co O pt nt ct T pr nr cr R pv nv cv V n a w hO hT hR hV hct hcv hck hn (by omega)).mono ?_
   rintro e w' ⟨q,c,rfl,S⟩
   exact⟨q,c,by rw [hl],by rw [hl];exact S⟩
 ·have e:levR (checkR O T R V) back O T R V s=[]:=by unfold levR;rw [if_neg hc]
  rw [e]
  refine(LevelsG_no po no co O pt nt ct T pr nr cr R pv nv cv V s back w hO hT hR hV hct hcv hc).mono ?_
  rintro e w' ⟨rfl,h⟩
  exact⟨none,0,rfl,((Sep.start w).call h).nilrow _ _⟩
end
end Go.Proofs.YtfjhjennfiihhaaGreat
