/- Texts of this claim, one behind the other: Cmb16, CopyK, StoK, Trn17, Ord17, Frs19, Frs19b, Frs19c, Prt6, Ex4, Dst8a, Dst8b, RngA, Lv7b, PlainBall, PlainLv, PlainSr, PlainLs, PlainOr, PlainOr2, PlainLb, Lb1, Lb2, Lb3, Or1, Lb4, Spl16, Ord17a, Ord17b, Rgt19, RngB, RngC, RngM, Lv7c, Wrk19, Mrk. -/
import Derived.Test.YtfjhjennfiihhaaGreatQJobHubs3
set_option maxRecDepth 100000
set_option maxHeartbeats 16000000
namespace Go.Proofs.YtfjhjennfiihhaaGreat
section
open Go Go.RowKit Go.Maps
theorem zeroMl (w:World):(zeroValue 138).run Tryz.prog w=.ok (.agg #[.int .i64 0,.int .i64 0,.int .i64 0,.int .i64 0]) w:=by kernel_rfl
noncomputable def EQ16:ElmR Tryz.prog 138 Sq:=elmQ Tryz.prog 138 zeroMl
theorem CombineG (p:Option Addr) (n c:Nat) (l:List Sq) (w:World) (hl:Rd w 4 p n (encQ l)) (hi:∀ x∈l,x.I) (hn:n≤100000) :
  Calls Tryz.prog 207 #[.slice p n c] w fun e w'=>∃ q c',e=.returned (.slice q (combM l).length c')∧Sep w w' [.own 138 4 q (combM l).length c' (encQ (combM l))]:=by
 obtain⟨i0,hi0,hz0,hz1,hz2⟩:=info_parts infMail
 have p1:=hl.ptr
 have n1:=hl.small
 have L1:=Lib.hid hl.nQ
 have HI:=Lib.hid hi
 have HL:=Lib.hid hl
 clear hl hi
 have hmm:=@run_makeMap Tryz.prog
 have S0:=Lib.hid ((Sep.start w).mkmapK (K:=kyS) EQ16)
 go_enter Tryz.func207,Tryz.ntmps207
 go_wp2
 go_loopw [5,6,7,8,15] (fun _ _ _ _ i wr=>∃ (k mm:Nat) (f:Ky→Option Sq),k≤n∧mm≤k∧i=.int .i64 k∧Sep w wr [.mapK kyS EQ16 w.heap.size mm f]∧Hid (LeastK (l.take k) f)) (fun _ _ _ _ i _=>n - (intOf i).toNat)
 case atStart=>exact⟨0,0,_,Nat.zero_le _,Nat.le_refl _,rfl,S0.out,leastK_nil⟩
 case round =>
  clear S0
  obtain⟨k,mm,f,hk,hm,rfl,S,HF⟩:=hrel
  by_cases hlt:k<n
  ·obtain⟨g1,g2,g3,g4⟩:=(HL.out.ext S.ext).cQ hlt
   have hkl:k<l.length:=by rw [← L1.out];exact hlt
   have hx:=HI.out (nth l k) (nth_mem hkl)
   have HT:=Lib.hid (take_succ_nth l k hkl)
   obtain⟨x,hxl⟩:∃ x,nth l k=x:=⟨_,rfl⟩
   rw [hxl] at g1 g2 g3 g4 hx HT
   have hok:kyS.ok x.ky:=⟨hx.1,hx.2.1,hx.2.2.1⟩
   have S1:=Lib.hid (S.al #[.int .i64 x.s,.int .i64 x.r,.int .i64 x.v,.int .i64 x.d] 138 wr.heap.size rfl)
   have k1:=(S1.out.mapK 1 rfl).lookup_ok (t:=305) Tryz.underlying305 hok
   obtain⟨W1,hW1⟩:∃ W1,wr.alloc (.cells #[.int .i64 x.s,.int .i64 x.r,.int .i64 x.v,.int .i64 x.d] 138)=W1:=⟨_,rfl⟩
   have d1:(0:Int)≤k:=by omega
   have d2:(k:Int)<n:=by omega
   clear hxl S hx
   cases hf:f x.ky with
   | none =>
    have k2:(Instr.lookup 305 (.map (some w.heap.size)) (.agg #[.int .i64 x.s,.int .i64 x.r,.int .i64 x.v]) true).run Tryz.prog (wr.alloc (.cells #[.int .i64 x.s,.int .i64 x.r,.int .i64 x.v,.int .i64 x.d] 138))=.ok (.tuple #[.agg #[.int .i64 0,.int .i64 0,.int .i64 0,.int .i64 0],.bool false]) (wr.alloc (.cells #[.int .i64 x.s,.int .i64 x.r,.int .i64 x.v,.int .i64 x.d] 138)):=by rw [hf] at k1;exact k1
    have HL1:Hid (∀ y,f x.ky=some y→x.d≤y.d):=fun y h=>by rw [hf] at h;cases h
    have S2:=Lib.hid (S1.out.al #[.int .i64 0,.int .i64 0,.int .i64 0,.int .i64 0] 138 (wr.heap.size+1) (by simp))
    clear k1 hf hW1
    go_wp2_with (at_mapUpdate;go_must (refine wpList_update_sepK (K:=kyS) (E:=EQ16) (P:=Tryz.prog) rfl _ _ _ _ rfl Tryz.underlying305 rfl S2.out 2 rfl (by omega) x.ky x rfl rfl hok ?_;intro w5 S' hg;have S5:=Lib.hid S';clear S' hg))
    go_roundw
    case rel=>exact⟨k+1,mm+1,_,by omega,by omega,by go_num,S5.out.pick [2] (by decide) rfl,by rw [HT.out];exact leastK_put x HF.out HL1.out⟩
    case measure=>simp [intOf];omega
   | some y =>
    have k2:(Instr.lookup 305 (.map (some w.heap.size)) (.agg #[.int .i64 x.s,.int .i64 x.r,.int .i64 x.v]) true).run Tryz.prog (wr.alloc (.cells #[.int .i64 x.s,.int .i64 x.r,.int .i64 x.v,.int .i64 x.d] 138))=.ok (.tuple #[.agg #[.int .i64 y.s,.int .i64 y.r,.int .i64 y.v,.int .i64 y.d],.bool true]) (wr.alloc (.cells #[.int .i64 x.s,.int .i64 x.r,.int .i64 x.v,.int .i64 x.d] 138)):=by rw [hf] at k1;exact k1
    have SY:=Lib.hid (S1.out.al #[.int .i64 y.s,.int .i64 y.r,.int .i64 y.v,.int .i64 y.d] 138 (wr.heap.size+1) (by simp))
    have HN:=Lib.hid (fun W=>nearerG x y W)
    by_cases hd:x.d<y.d
    ·have HL1:Hid (∀ u,f x.ky=some u→x.d≤u.d):=fun u h=>by rw [hf] at h;injection h with h;subst h;exact Int.le_of_lt hd
     rw [decide_eq_true hd] at HN
     clear k1 hf hW1 hd
     go_wp2_with (first | (at_mapUpdate;go_must (refine wpList_update_sepK (K:=kyS) (E:=EQ16) (P:=Tryz.prog) rfl _ _ _ _ rfl Tryz.underlying305 rfl S2.out 2 rfl (by omega) x.ky x rfl rfl hok ?_;intro w5 S' hg;have S5:=Lib.hid S';clear S' hg)) | (go_at_call 241;have _t:=SY;go_must (refine(HN.out _).mono ?_;rintro e w3 ⟨rfl,hb⟩;have S2:=Lib.hid (SY.out.call hb);have y0:=(S2.out.blk 0 rfl).cell 0;clear hb y0;obtain⟨x0,x1,x2,x3,xz⟩:=bkc0c1c2c3l (S2.out.blk 1 rfl))))
     go_roundw
     case rel=>exact⟨k+1,mm+1,_,by omega,by omega,by go_num,S5.out.pick [2] (by decide) rfl,by rw [HT.out];exact leastK_put x HF.out HL1.out⟩
     case measure=>simp [intOf];omega
    ·have HL1:Hid (∃ u,f x.ky=some u∧u.d≤x.d):=⟨y,hf,by omega⟩
     rw [decide_eq_false hd] at HN
     clear k1 hf hW1 hd
     go_wp2_with (go_at_call 241;have _t:=SY;go_must (refine(HN.out _).mono ?_;rintro e w3 ⟨rfl,hb⟩;have S2:=Lib.hid (SY.out.call hb);have y0:=(S2.out.blk 0 rfl).cell 0;clear hb y0;obtain⟨x0,x1,x2,x3,xz⟩:=bkc0c1c2c3l (S2.out.blk 1 rfl)))
     go_roundw
     case rel=>exact⟨k+1,mm,f,by omega,by omega,by go_num,S2.out.pick [2] (by decide) rfl,by rw [HT.out];exact leastK_skip x HF.out HL1.out⟩
     case measure=>simp [intOf];omega
  ·obtain rfl:k=n:=by omega
   rw [List.take_of_length_le (by rw [← L1.out];exact Nat.le_refl _)] at HF
   obtain⟨es,clock,hx1,hx2,hx3,hx4⟩:=(S.mapK 0 rfl).raw
   have HB2:=Lib.hid hx1
   have HF2:=Lib.hid hx2
   have HS2:=Lib.hid hx3
   have HFN:=Lib.hid hx4
   have S2:=Lib.hid ((Sep.head (q:=Pc.mapR w.heap.size es clock) S hx1 fun k h=>h).nilrow 138 4)
   clear hx1 hx2 hx3 hx4 S
   generalize w.heap.size=b at *
   go_wp2_with (at_range;go_must (refine wpList_range_sepK (P:=Tryz.prog) (K:=kyS) (E:=EQ16) rfl _ _ rfl Tryz.underlying305 rfl HB2.out HF2.out HS2.out HFN.out S2.out wr.heap.size rfl ?_;intro w3 since seen c0 cnt S' R hsz he;have S3:=Lib.hid S';have HR:=Lib.hid R;have HC:=Lib.hid (rng_leK R);clear S' R he hsz))
   clear S2 HB2
   generalize wr.heap.size=r at *
   go_frame
   go_loopw [9,11] (fun v9 _ wx=>∃ L q m d since seen c0 cnt left,v9=.slice q m d∧Hid (m=L.length∧m+cnt≤k)∧Sep w wx [.iter r b since seen c0,.own 138 4 q m d (encQ L),.mapR b es clock]∧Hid (RngK kyS EQ16 es clock since seen c0 mm f left cnt)∧Hid (CameK f left L)) (fun _ _ wx=>wx.rangeLeft b r)
   case atStart=>exact⟨[],none,0,0,since,seen,c0,cnt,_,rfl,⟨rfl,by have:=HC.out;omega⟩,S3.out,HR,cameK_nil f⟩
   case round =>
    clear S3 HR HC since seen c0 cnt
    obtain⟨L,q,m,d,since,seen,c0,cnt,left,rfl,HL2,S,HR,HM⟩:=hrel
    have HBW:Hid (wr.heap[b]?=some (.map es clock)):=S.all _ (List.mem_of_getElem? (show _=some (Pc.mapR b es clock) from(rfl:_[2]?=_)))
    have SH:=Lib.hid S;clear S
    go_wp2_with (at_next;go_must (refine wpList_next_sepK (P:=Tryz.prog) (K:=kyS) (E:=EQ16) rfl _ rfl rfl HBW.out SH.out 0 rfl HR.out ?_ ?_))
    ·intro hall
     have HE:=Lib.hid (cameK_end HF.out HM.out hall)
     have hml:=HL2.out
     have HSO:=Lib.hid (SortM_sep SH.out 1 rfl HM.out.two (by omega))
     rw [HE.out] at HSO
     have HLN:Hid (m=(combM l).length):=by unfold Hid;rw [← HE.out,sortK_len];exact hml.1
     clear hall hml
     go_wp2_with (go_at_call 242;go_must (refine HSO.out.mono ?_;rintro e w5 ⟨rfl,Z⟩;have S5:=Lib.hid Z;clear Z))
     go_ret
     have S6:=S5.out
     rw [HLN.out] at S6
     exact⟨q,d,by rw [HLN.out];rfl,S6.pick [1] (by decide) rfl⟩
    ·intro t w1 since' seen' c0' cnt' hx hl hfx S1 R1 hc hsz hb1 hg1 hen
     obtain⟨κ,u⟩:=t
     have hen2:(Instr.entry (.pointer (some ⟨r,0,none⟩))).run Tryz.prog w1=.ok (.tuple #[.agg #[.int .i64 κ.s,.int .i64 κ.r,.int .i64 κ.v],.agg #[.int .i64 u.s,.int .i64 u.r,.int .i64 u.v,.int .i64 u.d]]) w1:=hen
     have hm1:wr.rangeLeft b r=cnt:=rng_leftK HBW.out (SH.out.iter 0 rfl) HR.out
     have HM2:=Lib.hid (cameK_step HF.out HM.out hfx hl)
     have HM1:=Lib.hid hm1
     have HC:=Lib.hid hc
     have hml:=HL2.out
     have hmk:m≤100000:=by omega
     have SX:=Lib.hid (S1.al #[.int .i64 u.s,.int .i64 u.r,.int .i64 u.v,.int .i64 u.d] 138 w1.heap.size rfl)
     have HR1:=Lib.hid R1;clear R1
     clear hg1 hsz HBW hen hb1 hc hm1 hx hl hfx hml
     go_wp2_with (at_builtin;go_must (refine wpList_append_sep rfl _ _ _ rfl 138 i0 _ 4 32 Tryz.underlying83 hi0 hz0 hz1 hz2 rfl (by omega) (SX.out.junk _) 2 q m d _ rfl rfl _ 1 1 _ rfl (Rd.newAt _ _ _ 1 4 _ (by simp) rfl (by omega)) (one_encQ [u]) (by omega) (by omega) ?_;intro q7 d7 w7 S' hsz7;have S7:Hid (Sep w w7 [.iter r b since' seen' c0',.own 138 4 q7 (m+1) d7 (encQ (L ++ [u])),.mapR b es clock]):=(by rw [encQ_append];exact S'.pick [1,2,3] (by decide) rfl);clear S' hsz7))
     go_roundw
     case rel=>exact⟨L ++ [u],q7,m+1,d7,since',seen',c0',cnt',_,rfl,(by have a1:=HL2.out;have a2:=HC.out;exact⟨by rw [List.length_append,a1.1];rfl,by omega⟩),S7.out,HR1,HM2⟩
     case measure=>rw [HM1.out,rng_leftK (S7.out.all _ (List.mem_of_getElem? (show _=some (Pc.mapR b es clock) from(rfl:_[2]?=_)))) (S7.out.iter 0 rfl) HR1.out];exact HC.out
end
section
open Go Go.RowKit
section
variable {P:Program}
theorem run_copyK (w:World) (dT sT ty elem:TypeId) (sz n b o dLen dCap:Nat) (a:Addr) (sLen sCap:Nat) (cs:List Value)
  (hu:P.underlying dT=some (.slice elem)) (hs:(P.info? elem).map (·.size)=some sz) (hn:n=Nat.min sLen dLen) (hl0:cs.length=n*sz)
  (hsrc:∀ j v,cs[j]?=some v→w.cell? (a.add j)=some v) (hc:∀ j,j<cs.length→(w.cell? ⟨b,o+j,none⟩).isSome=true) (hf:∀ j,j<cs.length→w.frozen? ⟨b,o+j,none⟩=false) (h1:∀ v∈cs,v.oneCell'=true) :
  (Builtin.copy_ #[dT,sT] ty #[.slice (some ⟨b,o,none⟩) dLen dCap,.slice (some a) sLen sCap]).run P w=.ok (goInt n) (w.setCells b o cs):=by
 have hl:=run_loadCells_list (P:=P) w a cs hsrc
 have hst:=run_storeCells_cells (P:=P) b o cs 0 w (by simpa using hc) (by simpa using hf) h1
 cases hq:P.info? elem with
 | none=>simp [hq] at hs
 | some i =>
  have hi:i.size=sz:=by simpa [hq] using hs
  rw [hl0] at hl
  simp [Builtin.copy_,run_underlying hu,Builtin.lenOf,Builtin.firstCells,sizeOf,typeInfo,hq,hi,← hn,hl,hst]
theorem run_copyK_none (w:World) (dT sT ty elem:TypeId) (sz:Nat) (d a:Option Addr) (dLen dCap sLen sCap:Nat) (hu:P.underlying dT=some (.slice elem)) (hs:(P.info? elem).map (·.size)=some sz) (hn:Nat.min sLen dLen=0) :
  (Builtin.copy_ #[dT,sT] ty #[.slice d dLen dCap,.slice a sLen sCap]).run P w=.ok (goInt 0) w:=by
 cases hq:P.info? elem with
 | none=>simp [hq] at hs
 | some i =>
  have hl:∀ (x:Addr),(loadCells x 0).run P w=.ok #[] w:=fun x=>by simpa using run_loadCells_list (P:=P) w x [] (by simp)
  cases d <;> cases a <;> simp [Builtin.copy_,run_underlying hu,Builtin.lenOf,Builtin.firstCells,sizeOf,typeInfo,hq,hn,storeCells,hl]
theorem own_cells {base:Nat} {e:TypeId} {size:Nat} {g n c:Nat}:∀ (cs:List Value) (o:Nat) (w:World) (xs:List Value),w.ownsRow base e size (.slice (some ⟨g,0,none⟩) n c) n xs→o+cs.length≤n*size →
  (w.setCells g o cs).ownsRow base e size (.slice (some ⟨g,0,none⟩) n c) n (splice xs o cs)∧w.grownBy (w.setCells g o cs) (some g)
 | [],o,w,xs,ho,_=>⟨by simpa [World.setCells,splice] using ho,World.grownBy.refl _ _⟩
 | v :: cs,o,w,xs,ho,h=>by
  simp only [List.length_cons] at h
  have hl:xs.length=n*size:=ho.1
  have h1:=own_put1 ho o (by omega) v
  have e1:adr (some ⟨g,0,none⟩) o=⟨g,o,none⟩:=by simp [adr]
  rw [e1] at h1
  obtain⟨h2,h3⟩:=own_cells cs (o+1) (w.setCell ⟨g,o,none⟩ v) (xs.set o v) h1 (by omega)
  have e2:splice (xs.set o v) (o+1) cs=splice xs o (v :: cs):=by
   unfold splice
   have hx:(xs.set o v).take (o+1)=xs.take o ++ [v]:=by
    rw [List.take_succ_eq_append_getElem (by rw [List.length_set];omega),List.take_set_of_le (Nat.le_refl _)]
    simp
   rw [hx,List.drop_set_of_lt (by omega)]
   simp [Nat.add_comm]
   omega
  rw [World.setCells,← e2]
  refine⟨h2,?_⟩
  have hg:=grown_set w ⟨g,o,none⟩ v
  exact⟨h3.os.trans hg.os,h3.tape.trans hg.tape,h3.output.trans hg.output,Nat.le_trans hg.size h3.size,fun k hk hne=>(h3.block k (Nat.lt_of_lt_of_le hk hg.size) hne).trans (hg.block k hk hne)⟩
theorem own_ptr {w:World} {base:Nat} {e:TypeId} {size:Nat} {q:Option Addr} {n c:Nat} {xs:List Value} (ho:w.ownsRow base e size (.slice q n c) n xs) (hn:0<n):∃ g,q=some ⟨g,0,none⟩:=by
 rcases ho.2 with ⟨_,h2⟩ | ⟨g,cap,cur,h1,_⟩
 ·omega
 ·injection h1 with h1;exact⟨g,h1⟩
theorem Sep.setCells {w0 w:World} {Γ:List Pc} (S:Sep w0 w Γ) (j:Nat) {e:TypeId} {size:Nat} {g n c:Nat} {xs:List Value} (hj:Γ[j]?=some (.own e size (some ⟨g,0,none⟩) n c xs)) (o:Nat) (cs:List Value) (h:o+cs.length≤n*size) :
  Sep w0 (w.setCells g o cs) (Γ.set j (.own e size (some ⟨g,0,none⟩) n c (splice xs o cs))):=by
 obtain⟨h1,h2⟩:=own_cells cs o w xs (S.own j hj) h
 exact S.put j hj _ h2 (fun k hk=>hk) (own_base h1 (Nat.zero_le _)) fun k hk=>.inl hk
theorem wpList_copy_sep {w0 w:World} {Γ:List Pc} {ops:Array Oper} {rest:List Oper} {o:Oper} {a:Act} {Q:Exit→Act→World→Prop} (hgd:o.guard=none) (d s:Operand) (dT sT:TypeId)
  (ho:o.op=.call { callee:=.builtin .copy,args:=#[d,s],argTypes:=#[dT,sT] }) (elem:TypeId) (hu:P.underlying dT=some (.slice elem)) (sz:Nat) (hs:(P.info? elem).map (·.size)=some sz)
  (S:Sep w0 w Γ) (j:Nat) {e:TypeId} {q:Option Addr} {n c:Nat} {xs:List Value} (hj:Γ[j]?=some (.own e sz q n c xs))
  (m off dLen dCap sLen sCap:Nat) (dp sp:Option Addr) (hd:a.eval d=.slice dp dLen dCap) (hsr:a.eval s=.slice sp sLen sCap) (hm:m=Nat.min sLen dLen) (hdp:0<m→dp=some (adr q (off*sz))) (hfit:off+m≤n)
  (cs:List Value) (hr:Rd w sz sp m cs) (h1:∀ u∈cs,u.oneCell'=true)
  (h:∀ w',Sep w0 w' (Γ.set j (.own e sz q n c (splice xs (off*sz) cs)))→w'.heap.size=w.heap.size→wpList P ops Q rest (a.put o.dst (.int .i64 m)) w') :
  wpList P ops Q (o :: rest) a w:=by
 have hrl:=hr.len
 refine wpList_plain hgd fun K' hK'=>?_
 have hjl:=(List.getElem?_eq_some_iff.1 hj).1
 rcases Nat.eq_zero_or_pos m with h0 | h0
 ·have hcs:cs=[]:=List.eq_nil_of_length_eq_zero (by rw [hrl,h0];simp)
  subst hcs
  have hrun:=run_copyK_none (P:=P) w dT sT o.type elem sz dp sp dLen dCap sLen sCap hu hs (by omega)
  have e1:splice xs (off*sz) []=xs:=by simp [splice]
  have e2:Γ.set j (.own e sz q n c xs)=Γ:=by
   obtain⟨h1,h2⟩:=List.getElem?_eq_some_iff.1 hj
   rw [← h2,List.set_getElem_self]
  have hh:=h w (by rw [e1,e2];exact S) rfl
  unfold Oper.wp
  simp [execOp,ho,hd,hsr,resolve,invoke,builtin,hrun,Result.andThen]
  subst h0
  exact hK' _ _ hh
 ·have hown:=S.own j hj
  obtain⟨g,rfl⟩:=own_ptr hown (by omega)
  obtain⟨ad,hsp⟩:∃ ad,sp=some ad:=by
   rcases hr.ptr with h2 | ⟨b,o,h2⟩
   ·omega
   ·exact⟨_,h2⟩
  have hb:off*sz+cs.length≤n*sz:=by rw [hrl,← Nat.add_mul];exact Nat.mul_le_mul_right _ hfit
  have hdp':=hdp h0
  have e1:adr (some ⟨g,0,none⟩) (off*sz)=⟨g,off*sz,none⟩:=by simp [adr]
  rw [e1] at hdp'
  have hrun:=run_copyK (P:=P) w dT sT o.type elem sz m g (off*sz) dLen dCap ad sLen sCap cs hu hs hm hrl (fun k v hk=>by
   have hk2:k<m*sz:=by rw [← hrl];exact(List.getElem?_eq_some_iff.1 hk).1
   have h3:=hr.cells k hk2
   rw [List.getD_eq_getElem?_getD,hk,Option.getD_some] at h3
   rw [← h3]
   congr 1
   rcases hr.ptr with h2 | ⟨b,o2,h2⟩
   ·omega
   ·rw [hsp] at h2
    injection h2 with h2
    subst h2
    rw [hsp,adr_some]
    by_cases hk0:k=0
    ·subst hk0;simp [Addr.add]
    ·simp [Addr.add,hk0])
   (fun k hk=>by
    have h3:=own_cell hown (k:=off*sz+k) (by omega)
    simp only [adr,Option.getD_some,Nat.zero_add] at h3
    rw [h3];rfl)
   (fun k hk=>by
    have h3:=own_frozen hown (by omega) (off*sz+k)
    simpa [adr] using h3) h1
  have hh:=h _ (S.setCells j hj (off*sz) cs hb) (by
   have:∀ (l:List Value) (o:Nat) (w:World),(w.setCells g o l).heap.size=w.heap.size:=fun l=>by
    induction l with
    | nil=>intro o w;rfl
    | cons v l ih=>intro o w;rw [World.setCells,ih];simp [World.setCell]
   exact this _ _ _)
  unfold Oper.wp
  rw [hdp'] at hd
  rw [hsp] at hsr
  simp [execOp,ho,hd,hsr,resolve,invoke,builtin,hrun,Result.andThen]
  exact hK' _ _ hh
theorem run_clearK (w:World) (t e ty:TypeId) (z:Value) (ht:P.underlying t=some (.slice e)) (hv:∀ w,(zeroValue e).run P w=.ok z w) (h1:∀ u∈z.cells.toList,u.oneCell'=true) (b o n c:Nat) (hn:0<n)
  (hc:∀ j,j<n*z.cells.size→(w.cell? ⟨b,o+j,none⟩).isSome=true) (hf:∀ j,j<n*z.cells.size→w.frozen? ⟨b,o+j,none⟩=false) :
  (Builtin.clear_ #[t] ty #[.slice (some ⟨b,o,none⟩) n c]).run P w=.ok (.tuple #[]) (w.setCells b o (Builtin.zeroCells z.cells n).toList):=by
 have hsz:(Builtin.zeroCells z.cells n).toList.length=n*z.cells.size:=by simp [Builtin.zeroCells]
 have hst:=run_storeCells_cells (P:=P) b o (Builtin.zeroCells z.cells n).toList 0 w (by rw [hsz];simpa using hc) (by rw [hsz];simpa using hf) (by
  intro u hu
  simp only [Builtin.zeroCells,Array.toList_map,List.mem_map,Array.mem_toList_iff,Array.mem_range] at hu
  obtain⟨i,hi,rfl⟩:=hu
  rcases Nat.eq_zero_or_pos z.cells.size with h0 | h0
  ·rw [h0] at hi;simp at hi
  ·rw [getElem!_pos z.cells _ (Nat.mod_lt _ h0)]
   exact h1 _ (by simp))
 simp only [Nat.add_zero] at hst
 obtain⟨m,rfl⟩:∃ m,n=m+1:=⟨n - 1,by omega⟩
 simp [Builtin.clear_,run_underlying ht,hv,hst]
end
end
section
open Go Go.RowKit
section
variable {P:Program} {w0 w:World} {Γ:List Pc}
theorem wpList_store_sep {ops:Array Oper} {rest:List Oper} {o:Oper} {a:Act} {Q:Exit→Act→World→Prop} (hgd:o.guard=none) (ty:TypeId) (x y:Operand) (ho:o.op=.store ty x y)
  (S:Sep w0 w Γ) (j:Nat) {e:TypeId} {size:Nat} {q:Option Addr} {n c:Nat} {xs:List Value} (hj:Γ[j]?=some (.own e size q n c xs)) (k:Nat) (hk:k<n) (cells:Array Value) (hsz:cells.size=size)
  (hx:a.eval x=.pointer (some (adr q (k*size)))) (hy:a.eval y=.agg cells) (hi:(P.info? ty).map (·.size)=some cells.size) (h1:cells.all (·.oneCell')=true)
  (h:∀ w',Sep w0 w' (Γ.set j (.own e size q n c (splice xs (k*size) cells.toList)))→w'.heap.size=w.heap.size→wpList P ops Q rest (a.put o.dst undef) w'):wpList P ops Q (o :: rest) a w:=by
 have hown:=S.own j hj
 obtain⟨g,rfl⟩:=own_ptr hown (by omega)
 have e1:adr (some ⟨g,0,none⟩) (k*size)=⟨g,k*size,none⟩:=by simp [adr]
 rw [e1] at hx
 have e2:(k+1)*size≤n*size:=Nat.mul_le_mul_right _ hk
 have e3:(k+1)*size=k*size+size:=Nat.succ_mul k size
 refine wpList_store_mid hgd ty x y ho g (k*size) cells hx hy (fun t ht=>?_) hi h1 (h _ (S.setCells j hj (k*size) cells.toList (by rw [Array.length_toList,hsz];omega)) ?_)
 ·have h3:=own_cell hown (k:=k*size+t) (by omega)
  have h4:=own_frozen hown (by omega) (k*size+t)
  simp only [adr,Option.getD_some,Nat.zero_add] at h3 h4
  exact⟨by rw [h3];rfl,h4⟩
 ·have:∀ (l:List Value) (o:Nat) (w:World),(w.setCells g o l).heap.size=w.heap.size:=fun l=>by
   induction l with
   | nil=>intro o w;rfl
   | cons v l ih=>intro o w;rw [World.setCells,ih];simp [World.setCell]
  exact this _ _ _
theorem clear_sep (S:Sep w0 w Γ) (j:Nat) {e t:TypeId} {z:Value} {size:Nat} {q:Option Addr} {n c:Nat} {xs:List Value} (hj:Γ[j]?=some (.own e size q n c xs)) (ht:P.underlying t=some (.slice e)) (hv:∀ w,(zeroValue e).run P w=.ok z w) (hz:z.cells.size=size) (h1:∀ u∈z.cells.toList,u.oneCell'=true) (i:Nat) (hi:i<n) :
  ∃ w2,(∀ ty,(Builtin.clear_ #[t] ty #[.slice (cutp q c i size) (n - i) (c - i)]).run P w=.ok (.tuple #[]) w2)∧Sep w0 w2 (Γ.set j (.own e size q i c (xs.take (i*size)))):=by
 have hown:=S.own j hj
 have hxl:xs.length=n*size:=hown.1
 have hc:=own_cap hown
 obtain⟨g,rfl⟩:=own_ptr hown (by omega)
 have e0:cutp (some ⟨g,0,none⟩) c i size=some ⟨g,i*size,none⟩:=by unfold cutp;rw [if_neg (by omega)];simp [Addr.add_lit]
 have e1:(n - i)*size=n*size - i*size:=Nat.sub_mul n i size
 have e2:i*size≤n*size:=Nat.mul_le_mul_right _ (Nat.le_of_lt hi)
 have hlen:(Builtin.zeroCells z.cells (n - i)).toList.length=(n - i)*size:=by simp [Builtin.zeroCells,hz]
 rw [e0]
 have hs:=S.setCells j hj (i*size) (Builtin.zeroCells z.cells (n - i)).toList (by rw [hlen];omega)
 have hjl:=(List.getElem?_eq_some_iff.1 hj).1
 have ho:=hs.own j (List.getElem?_set_self hjl)
 have hsp:splice xs (i*size) (Builtin.zeroCells z.cells (n - i)).toList=xs.take (i*size) ++ ((Builtin.zeroCells z.cells (n - i)).toList ++ xs.drop (i*size+(Builtin.zeroCells z.cells (n - i)).toList.length)):=rfl
 rw [hsp] at ho hs
 have ho2:=own_take (k:=i) ho (by rw [List.length_take,hxl];omega) (Nat.le_of_lt hi)
 have hf:=hs.put j (List.getElem?_set_self hjl) (.own e size (some ⟨g,0,none⟩) i c (xs.take (i*size))) (row:=none) (World.grownBy.refl _ _) (fun _ hk=>by cases hk) (own_base ho2 (Nat.zero_le _)) (fun _ hk=>.inl hk)
 rw [List.set_set] at hf
 refine⟨_,fun ty=>run_clearK w t e ty z ht hv h1 g (i*size) (n - i) (c - i) (by omega) (fun t ht=>?_) (fun t ht=>?_),hf⟩
 ·rw [hz,e1] at ht
  have h3:=own_cell hown (k:=i*size+t) (by omega)
  simp only [adr,Option.getD_some,Nat.zero_add] at h3
  rw [h3];rfl
 ·rw [hz,e1] at ht
  have h3:=own_frozen hown (by omega) (i*size+t)
  simpa [adr] using h3
end
end
section
open Go Go.RowKit
theorem PickG (n:Nat) (p:Int) (w:World) (hn:1≤n) (h2:n≤1000000000) :
  Calls Tryz.prog 240 #[.int .i64 n,.int .i64 p] w fun e w'=>∃ k:Nat,k<n∧e=.returned (.tuple #[.int .i64 k,.bool true])∧w'=w:=by
 obtain⟨a,ha⟩:∃ a,p.tmod (n:Int)=a:=⟨_,rfl⟩
 have hb:-(n:Int)<a∧a<n:=by
  have h3:=Int.natAbs_tmod p n
  have h4:p.natAbs % n<n:=Nat.mod_lt _ (by omega)
  rw [ha] at h3
  simp at h3
  omega
 obtain⟨b1,b2⟩:=hb
 have d1:(1:Int)≤(n:Int):=by omega
 have d2:(n:Int)≤1000000000:=by omega
 by_cases h0:a<0
 ·go_enter Tryz.func240,Tryz.ntmps240
  go_wp2
  go_ret2
  exact⟨(a+n).toNat,by omega,by show Ending.returned (.tuple #[.int .i64 (a+(n:Int)),.bool true])=_;rw [Int.toNat_of_nonneg (by omega)],rfl⟩
 ·go_enter Tryz.func240,Tryz.ntmps240
  go_wp2
  go_ret2
  exact⟨a.toNat,by omega,by show Ending.returned (.tuple #[.int .i64 a,.bool true])=_;rw [Int.toNat_of_nonneg (by omega)],rfl⟩
theorem ofOne (gi gp:Nat) (pp:Option Addr) (np cp:Nat) (ps:List Int) (i m:Nat) (w w0:World) (Γ:List Pc) (ji jp:Nat) (S:Sep w0 w Γ) (hi:Γ[ji]?=some (.blk gi 3 #[.int .i64 ((i:Int) - 1)])) (hp:Γ[jp]?=some (.blk gp 25 #[.slice pp np cp])) (hne:ji≠jp) (hps:Rd w0 1 pp np (encI ps)) (h1:1≤m) (hm:m≤1000000000) (h3:i≤1000000000) :
  Calls Tryz.prog 239 #[.int .i64 m,.pointer (some ⟨gi,0,none⟩),.pointer (some ⟨gp,0,none⟩)] w fun e w'=>∃ k:Nat,k<m∧e=.returned (.int .i64 k)∧Sep w0 w' (Γ.set ji (.blk gi 3 #[.int .i64 (((i+1:Nat):Int) - 1)])):=by
 obtain⟨a0,az,af⟩:=bkc0lz0 (S.blk ji hi)
 have hp2:(Γ.set ji (.blk gi 3 #[.int .i64 (i:Int)]))[jp]?=some (.blk gp 25 #[.slice pp np cp]):=by rw [List.getElem?_set_ne hne];exact hp
 have S1:=Lib.hid (show Sep w0 (w.setCell ⟨gi,0,none⟩ (.int .i64 (i:Int))) (Γ.set ji (.blk gi 3 #[.int .i64 (i:Int)])) from S.set ji hi 0 (.int .i64 (i:Int)))
 obtain⟨b0,bz⟩:=bkc0l (S1.out.blk jp hp2)
 have hi2:(Γ.set ji (.blk gi 3 #[.int .i64 (i:Int)]))[ji]?=some (.blk gi 3 #[.int .i64 (i:Int)]):=List.getElem?_set_self (List.getElem?_eq_some_iff.1 hi).1
 obtain⟨c0,cz⟩:=bkc0l (S1.out.blk ji hi2)
 have p1:=hps.ptr
 have n1:=hps.small
 have HP:=Lib.hid (hps.ext S1.out.ext)
 have HE:Hid (∀ k:Nat,k<m→∀ w',Sep w0 w' (Γ.set ji (.blk gi 3 #[.int .i64 (i:Int)]))→∃ k':Nat,k'<m∧Ending.returned (.int .i64 (k:Int))=.returned (.int .i64 k')∧Sep w0 w' (Γ.set ji (.blk gi 3 #[.int .i64 (((i+1:Nat):Int) - 1)]))):=fun k hk w' h=>⟨k,hk,rfl,by rw [show ((i+1:Nat):Int) - 1=(i:Int) by omega];exact h⟩
 have HG:=Lib.hid (fun p w'=>PickG m p w' h1 hm)
 simp at a0 b0 c0
 have q1:(i:Int) - 1+1=(i:Int):=by omega
 have q2:(0:Int)≤(i:Int):=by omega
 have q3:(i:Int)≤1000000000:=by omega
 clear S hi hp hp2 hi2 hps
 by_cases hlt:i<np
 ·have g1:=HP.out.cI hlt
  have e1:decide ((np:Int)≤(i:Int))=false:=by simp;omega
  go_enter Tryz.func239,Tryz.ntmps239
  go_wp2_with (go_at_call 240;refine(HG.out _ _).mono ?_;rintro e w' ⟨k,hk,rfl,rfl⟩)
  go_ret
  exact HE.out k hk _ S1.out
 ·have e1:decide ((np:Int)≤(i:Int))=true:=by simp;omega
  go_enter Tryz.func239,Tryz.ntmps239
  go_wp2
  go_ret
  exact HE.out 0 (by omega) _ S1.out
end
section
open Go Go.RowKit
theorem splice_take {xs:List Value} {i k sz:Nat} (h:xs.length=k*sz) (hi:i<k):(splice xs (i*sz) (xs.drop ((i+1)*sz))).take ((k - 1)*sz)=xs.take (i*sz) ++ xs.drop ((i+1)*sz):=by
 have e1:(i+1)*sz≤k*sz:=Nat.mul_le_mul_right _ hi
 have e2:(i+1)*sz=i*sz+sz:=Nat.succ_mul i sz
 have e3:(k - 1)*sz+sz=k*sz:=by rw [← Nat.succ_mul];congr 1;omega
 unfold splice
 rw [← List.append_assoc,List.take_append_of_le_length]
 ·rw [List.take_of_length_le]
  rw [List.length_append,List.length_take,List.length_drop,h];omega
 ·rw [List.length_append,List.length_take,List.length_drop,h];omega
theorem splice_all {xs cs:List Value} (h:xs.length=cs.length):splice xs 0 cs=cs:=by
 unfold splice
 rw [List.take_zero,List.nil_append,Nat.zero_add,List.drop_of_length_le (by omega),List.append_nil]
theorem encI_eraseIdx (l:List Int) (i:Nat):encI (l.eraseIdx i)=(encI l).take (i*1) ++ (encI l).drop ((i+1)*1):=by
 unfold encI
 rw [List.eraseIdx_eq_take_drop_succ,List.map_append,List.map_take,List.map_drop,Nat.mul_one,Nat.mul_one]
theorem encQ_take (l:List Sq) (i:Nat):encQ (l.take i)=(encQ l).take (i*4):=by
 induction l generalizing i with
 | nil=>simp [encQ]
 | cons x l ih =>
  cases i with
  | zero=>simp [encQ]
  | succ i =>
   rw [List.take_succ_cons]
   show [Value.int .i64 x.s,.int .i64 x.r,.int .i64 x.v,.int .i64 x.d] ++ encQ (l.take i)=List.take ((i+1)*4) ([Value.int .i64 x.s,.int .i64 x.r,.int .i64 x.v,.int .i64 x.d] ++ encQ l)
   rw [ih,show (i+1)*4=i*4+4 from by omega]
   rfl
theorem encQ_drop (l:List Sq) (i:Nat):encQ (l.drop i)=(encQ l).drop (i*4):=by
 induction l generalizing i with
 | nil=>simp [encQ]
 | cons x l ih =>
  cases i with
  | zero=>simp
  | succ i =>
   rw [List.drop_succ_cons]
   show encQ (l.drop i)=List.drop ((i+1)*4) ([Value.int .i64 x.s,.int .i64 x.r,.int .i64 x.v,.int .i64 x.d] ++ encQ l)
   rw [ih,show (i+1)*4=i*4+4 from by omega]
   rfl
theorem encQ_eraseIdx (l:List Sq) (i:Nat):encQ (l.eraseIdx i)=(encQ l).take (i*4) ++ (encQ l).drop ((i+1)*4):=by
 rw [List.eraseIdx_eq_take_drop_succ,encQ_append,encQ_take,encQ_drop]
theorem infQ:(Tryz.prog.info? 138).map (·.size)=some 4:=by kernel_rfl
theorem infI1:(Tryz.prog.info? 3).map (·.size)=some 1:=by kernel_rfl
section
variable {P:Program} {w0 w:World} {Γ:List Pc}
theorem copy_shift (S:Sep w0 w Γ) (j:Nat) {e:TypeId} {sz:Nat} {q:Option Addr} {k c:Nat} {xs:List Value} (hj:Γ[j]?=some (.own e sz q k c xs)) (dT sT ty elem:TypeId) (hu:P.underlying dT=some (.slice elem)) (hs:(P.info? elem).map (·.size)=some sz) (hsz:0<sz)
  (h1:∀ u∈xs,u.oneCell'=true) (i:Nat) (hi:i<k) :
  ∃ w2,(Builtin.copy_ #[dT,sT] ty #[.slice (cutp q c i sz) (k - i) (c - i),.slice (cutp q c (i+1) sz) (k - (i+1)) (c - (i+1))]).run P w=.ok (.int .i64 ((k - (i+1):Nat):Int)) w2 ∧
   Sep w0 w2 (Γ.set j (.own e sz q (k - 1) c (xs.take (i*sz) ++ xs.drop ((i+1)*sz)))):=by
 have hown:=S.own j hj
 have hxl:xs.length=k*sz:=hown.1
 have hkc:=own_cap hown
 obtain⟨g,rfl⟩:=own_ptr hown (by omega)
 have e1:(i+1)*sz≤k*sz:=Nat.mul_le_mul_right _ hi
 have e2:(i+1)*sz=i*sz+sz:=Nat.succ_mul i sz
 have hmin:Nat.min (k - (i+1)) (k - i)=k - (i+1):=by show min _ _=_;omega
 have hdl:(xs.drop ((i+1)*sz)).length=(k - (i+1))*sz:=by rw [List.length_drop,hxl,Nat.sub_mul]
 have fin:∀ w2,Sep w0 w2 (Γ.set j (.own e sz (some ⟨g,0,none⟩) k c (splice xs (i*sz) (xs.drop ((i+1)*sz)))))→Sep w0 w2 (Γ.set j (.own e sz (some ⟨g,0,none⟩) (k - 1) c (xs.take (i*sz) ++ xs.drop ((i+1)*sz)))):=fun w2 h=>by
  have hjl:=(List.getElem?_eq_some_iff.1 hj).1
  have ho:=h.own j (List.getElem?_set_self hjl)
  have hsp:splice xs (i*sz) (xs.drop ((i+1)*sz))=(xs.take (i*sz) ++ xs.drop ((i+1)*sz)) ++ (splice xs (i*sz) (xs.drop ((i+1)*sz))).drop ((k - 1)*sz):=by
   rw [← splice_take hxl hi,List.take_append_drop]
  rw [hsp] at ho
  have ho2:=own_take (k:=k - 1) ho (by rw [List.length_append,List.length_take,hdl,hxl,show k - 1=i+(k - (i+1)) from by omega,Nat.add_mul];omega) (by omega)
  have:=h.put j (List.getElem?_set_self hjl) (.own e sz (some ⟨g,0,none⟩) (k - 1) c (xs.take (i*sz) ++ xs.drop ((i+1)*sz))) (row:=none) (World.grownBy.refl _ _) (fun _ hk=>by cases hk) (own_base ho2 (Nat.zero_le _)) (fun _ hk=>.inl hk)
  rwa [List.set_set] at this
 rcases Nat.eq_zero_or_pos (k - (i+1)) with h0 | h0
 ·refine⟨w,?_,fin w ?_⟩
  ·rw [h0] at hmin ⊢
   exact run_copyK_none w dT sT ty elem sz _ _ _ _ _ _ hu hs hmin
  ·have hnil:xs.drop ((i+1)*sz)=[]:=List.eq_nil_of_length_eq_zero (by rw [hdl,h0,Nat.zero_mul])
   have e3:splice xs (i*sz) (xs.drop ((i+1)*sz))=xs:=by rw [hnil];simp [splice]
   rw [e3]
   have e4:Γ.set j (.own e sz (some ⟨g,0,none⟩) k c xs)=Γ:=by
    obtain⟨h1,h2⟩:=List.getElem?_eq_some_iff.1 hj
    rw [← h2,List.set_getElem_self]
   rw [e4];exact S
 ·have hc1:cutp (some ⟨g,0,none⟩) c i sz=some ⟨g,i*sz,none⟩:=by unfold cutp;rw [if_neg (by omega)];simp [Addr.add_lit]
  have hc2:cutp (some ⟨g,0,none⟩) c (i+1) sz=some ⟨g,(i+1)*sz,none⟩:=by unfold cutp;rw [if_neg (by omega)];simp [Addr.add_lit]
  rw [hc1,hc2]
  refine⟨w.setCells g (i*sz) (xs.drop ((i+1)*sz)),?_,fin _ (S.setCells j hj (i*sz) _ (by rw [hdl];rw [← Nat.add_mul];exact Nat.mul_le_mul_right _ (by omega)))⟩
  refine run_copyK w dT sT ty elem sz (k - (i+1)) g (i*sz) (k - i) (c - i) ⟨g,(i+1)*sz,none⟩ (k - (i+1)) (c - (i+1)) _ hu hs hmin.symm hdl (fun t v ht=>?_) (fun t ht=>?_) (fun t ht=>?_) (fun v hv=>h1 v (List.mem_of_mem_drop hv))
  ·have ht2:t<(k - (i+1))*sz:=by rw [← hdl];exact(List.getElem?_eq_some_iff.1 ht).1
   rw [List.getElem?_drop] at ht
   have hlt:(i+1)*sz+t<k*sz:=by rw [← hxl];exact(List.getElem?_eq_some_iff.1 ht).1
   have:=own_cell hown hlt
   rw [List.getD_eq_getElem?_getD,ht,adr_some] at this
   rw [Addr.add_lit]
   simpa using this
  ·rw [hdl,Nat.sub_mul] at ht
   have:=own_cell hown (k:=i*sz+t) (by omega)
   rw [adr_some] at this
   simp only [Nat.zero_add] at this
   rw [this];rfl
  ·rw [hdl,Nat.sub_mul] at ht
   have:=own_frozen hown (by omega) (i*sz+t)
   rw [adr_some] at this
   simpa using this
end
end
section
open Go Go.RowKit Go.Maps
theorem zeroBo (w:World):(zeroValue 4).run Tryz.prog w=.ok (.bool false) w:=by kernel_rfl
noncomputable def EB19:ElmR Tryz.prog 4 Bool:=elmBK Tryz.prog 4 zeroBo
theorem freshCl (gt b m:Nat) (f:Ky→Option Bool) (x:Sq) (w:World) (hB:Blk w gt 272 #[.map (some b)]) (hM:MapK kyS EB19 b m f w) (hx:kyS.ok x.ky) :
  Calls Tryz.prog 208 #[.agg #[.int .i64 x.s,.int .i64 x.r,.int .i64 x.v,.int .i64 x.d],.pointer (some ⟨gt,0,none⟩)] w fun e w'=>e=.returned (.bool ((f x.ky).getD false))∧Ext w w':=by
 have b0:w.cell? ⟨gt,0,none⟩=some (.map (some b)):=hB.cell 0
 have bz:=hB.lt
 have hE:=((Sep.start w).al #[.int .i64 x.s,.int .i64 x.r,.int .i64 x.v,.int .i64 x.d] 138 w.heap.size rfl).ext
 have k0:=(hM.ext hE).lookup (t:=272) Tryz.underlying272 hx
 have k1:(Instr.lookup 272 (.map (some b)) (.agg #[.int .i64 x.s,.int .i64 x.r,.int .i64 x.v]) false).run Tryz.prog (w.alloc (.cells #[.int .i64 x.s,.int .i64 x.r,.int .i64 x.v,.int .i64 x.d] 138))=.ok (.bool ((f x.ky).getD false)) (w.alloc (.cells #[.int .i64 x.s,.int .i64 x.r,.int .i64 x.v,.int .i64 x.d] 138)):=k0
 have HE:=Lib.hid hE
 clear hB hM hx hE k0
 generalize ((f x.ky).getD false)=r at *
 go_enter Tryz.func208,Tryz.ntmps208
 go_wp2
 go_ret
 exact⟨rfl,HE.out⟩
theorem IndexFresh (gt b m:Nat) (f:Ky→Option Bool) (p:Option Addr) (n c:Nat) (l:List Sq) (w:World) (hl:Rd w 4 p n (encQ l)) (hB:Blk w gt 272 #[.map (some b)]) (hM:MapK kyS EB19 b m f w) (hx:∀ x∈l,kyS.ok x.ky) :
  Calls Tryz.prog 210 #[.slice p n c,.func (.func 208) #[] #[.pointer (some ⟨gt,0,none⟩)]] w fun e w'=>∃ i:Int,e=.returned (.int .i64 i)∧Ext w w'∧((i = -1∧∀ j,j<n→((f (nth l j).ky).getD false)=false)∨∃ k:Nat,i=k∧k<n∧((f (nth l k).ky).getD false)=true∧∀ j,j<k→((f (nth l j).ky).getD false)=false):=by
 have p1:=hl.ptr
 have n1:=hl.small
 have l1:=hl.nQ
 have HL:=Lib.hid hl;clear hl
 have L1:=Lib.hid l1;clear l1
 have HX:=Lib.hid hx;clear hx
 have HC:=Lib.hid (fun x W (h:Ext w W) hx=>freshCl gt b m f x W (hB.ext h) (hM.ext h) hx)
 clear hB hM
 go_enter Tryz.func210,Tryz.ntmps210
 go_wp2
 go_loopw [5,8] (fun _ i wr=>∃ k:Nat,k≤n∧i=.int .i64 k∧Hid (∀ j,j<k→((f (nth l j).ky).getD false)=false)∧Ext w wr) (fun _ i _=>n - (intOf i).toNat)
 case atStart=>exact⟨0,Nat.zero_le _,rfl,fun j hj=>by omega,Below.refl _ _⟩
 case round =>
  obtain⟨k,hk,rfl,HA,hE⟩:=hrel
  by_cases hlt:k<n
  ·obtain⟨g1,g2,g3,g4⟩:=(HL.out.ext hE).cQ hlt
   have hkl:k<l.length:=by rw [← L1.out];exact hlt
   have HC2:=Lib.hid (HC.out (nth l k) wr hE (HX.out _ (nth_mem hkl)))
   have d1:(0:Int)≤k:=by omega
   have d2:(k:Int)<n:=by omega
   have HE:=Lib.hid hE
   clear hE
   cases hr:((f (nth l k).ky).getD false) with
   | true =>
    have HR:=Lib.hid hr
    rw [hr] at HC2
    clear hr hkl
    generalize nth l k=x at HC2 g1 g2 g3 g4
    go_wp2_with (go_at_call 208;go_must (refine HC2.out.mono ?_;rintro e w' ⟨rfl,hb⟩;have HX2:=Lib.hid (Ext.trans HE.out hb);clear hb))
    go_ret
    exact⟨_,rfl,HX2.out,.inr ⟨k,rfl,hlt,HR.out,HA.out⟩⟩
   | false =>
    have HR:=Lib.hid hr
    rw [hr] at HC2
    clear hr hkl
    generalize nth l k=x at HC2 g1 g2 g3 g4
    go_wp2_with (go_at_call 208;go_must (refine HC2.out.mono ?_;rintro e w' ⟨rfl,hb⟩;have HX2:=Lib.hid (Ext.trans HE.out hb);clear hb))
    go_roundw
    case rel=>exact⟨k+1,by omega,by go_num,fun j hj=>by
     rcases Nat.lt_or_ge j k with h | h
     ·exact HA.out j h
     ·obtain rfl:j=k:=by omega
      exact HR.out,HX2.out⟩
    case measure=>simp [intOf];omega
  ·have HE:=Lib.hid hE
   clear hE
   go_wp2
   go_ret
   exact⟨_,rfl,HE.out,.inl ⟨rfl,fun j hj=>HA.out j (by omega)⟩⟩
end
section
open Go Go.RowKit Go.Maps
structure KeptL (pr:Sq→Bool) (l X:List Sq) (i j:Nat):Prop where
 len:X.length=l.length
 lt:i<j
 le:j≤l.length
 low:X.take i=(l.take j).filter fun x=>!pr x
 high:X.drop j=l.drop j
theorem kept_start {pr:Sq→Bool} {l:List Sq} {k:Nat} (hk:k<l.length) (ht:pr (nth l k)=true) (h:∀ j,j<k→pr (nth l j)=false):KeptL pr l l k (k+1):=by
 refine⟨rfl,by omega,hk,?_,rfl⟩
 rw [take_succ_nth l k hk,List.filter_append]
 have h1:(l.take k).filter (fun x=>!pr x)=l.take k:=List.filter_eq_self.2 fun x hx=>by
  obtain⟨i,hi,rfl⟩:=List.mem_iff_getElem.1 hx
  rw [List.length_take] at hi
  have:=h i (by omega)
  rw [nth_eq (by omega)] at this
  rw [List.getElem_take,this];rfl
 rw [h1];simp [ht]
theorem kept_nth {pr:Sq→Bool} {l X:List Sq} {i j:Nat} (h:KeptL pr l X i j) (hj:j<l.length):nth X j=nth l j:=by
 have:=h.high
 rw [drop_nth X j (by rw [h.len];exact hj),drop_nth l j hj] at this
 injection this
theorem kept_skip {pr:Sq→Bool} {l X:List Sq} {i j:Nat} (h:KeptL pr l X i j) (hj:j<l.length) (hp:pr (nth l j)=true):KeptL pr l X i (j+1):=by
 refine⟨h.len,by have:=h.lt;omega,hj,?_,?_⟩
 ·rw [h.low,take_succ_nth l j hj,List.filter_append];simp [hp]
 ·rw [← List.drop_drop,h.high,List.drop_drop]
theorem kept_keep {pr:Sq→Bool} {l X:List Sq} {i j:Nat} (h:KeptL pr l X i j) (hj:j<l.length) (hp:pr (nth l j)=false):KeptL pr l (X.set i (nth l j)) (i+1) (j+1):=by
 have h1:=h.lt
 have h2:=h.len
 refine⟨by rw [List.length_set];exact h.len,by omega,hj,?_,?_⟩
 ·rw [List.take_succ_eq_append_getElem (by rw [List.length_set];omega),List.take_set_of_le (Nat.le_refl _),h.low,take_succ_nth l j hj,List.filter_append]
  simp [hp]
 ·rw [List.drop_set_of_lt (by omega),← List.drop_drop,h.high,List.drop_drop]
theorem encQ_set (X:List Sq) (i:Nat) (x:Sq) (h:i<X.length):splice (encQ X) (i*4) [.int .i64 x.s,.int .i64 x.r,.int .i64 x.v,.int .i64 x.d]=encQ (X.set i x):=by
 have e:X.set i x=X.take i ++ ([x] ++ X.drop (i+1)):=by
  rw [List.set_eq_take_append_cons_drop,if_pos h];rfl
 rw [e,encQ_append,encQ_append,encQ_take,encQ_drop,show (i+1)*4=i*4+4 from by omega]
 rfl
theorem filt_none {pr:Sq→Bool} {l:List Sq} (h:∀ j,j<l.length→pr (nth l j)=false):l.filter (fun x=>!pr x)=l:=List.filter_eq_self.2 fun x hx=>by
 obtain⟨i,hi,rfl⟩:=List.mem_iff_getElem.1 hx
 have:=h i hi
 rw [nth_eq hi] at this
 rw [this];rfl
theorem DeleteFresh (gt b m:Nat) (f:Ky→Option Bool) (q:Option Addr) (n c:Nat) (l:List Sq) (w w0:World) (S:Sep w0 w [.own 138 4 q n c (encQ l),.blk gt 272 #[.map (some b)],.mapK kyS EB19 b m f]) (hx:∀ x∈l,kyS.ok x.ky) (hn:n≤100000) :
  Calls Tryz.prog 206 #[.slice q n c,.func (.func 208) #[] #[.pointer (some ⟨gt,0,none⟩)]] w fun e w'=>e=.returned (.slice q (l.filter fun x=>!((f x.ky).getD false)).length c)∧Sep w0 w' [.own 138 4 q (l.filter fun x=>!((f x.ky).getD false)).length c (encQ (l.filter fun x=>!((f x.ky).getD false))),.blk gt 272 #[.map (some b)],.mapK kyS EB19 b m f]:=by
 have hI:=IndexFresh gt b m f q n c l w (S.rdx 0 rfl) (S.blk 1 rfl) (S.mapK 2 rfl) hx
 have L1:=Lib.hid (S.rdx 0 rfl).nQ
 have HX:=Lib.hid hx
 have HIX:=Lib.hid hI
 have kc:n≤c:=own_cap (S.own 0 rfl)
 have S0:=Lib.hid S;clear S
 clear hx hI
 obtain⟨pr,hpr⟩:∃ pr:Sq→Bool,(fun x:Sq=>((f x.ky).getD false))=pr:=⟨_,rfl⟩
 have hpx:∀ x:Sq,((f x.ky).getD false)=pr x:=fun x=>congrFun hpr x
 have hfe:(fun x:Sq=>!((f x.ky).getD false))=fun x=>!pr x:=funext fun x=>by rw [hpx]
 rw [hfe]
 have HPX:=Lib.hid hpx
 clear hpr hpx hfe
 by_cases hall:∀ j,j<n→pr (nth l j)=false
 ·have HF:Hid (l.filter (fun x=>!pr x)=l):=filt_none fun j hj=>hall j (by rw [L1.out];exact hj)
  have HAL:=Lib.hid hall
  clear hall
  rw [HF.out]
  go_enter Tryz.func206,Tryz.ntmps206
  go_wp2_with (go_at_call 210;go_must (refine HIX.out.mono ?_;rintro e w1 ⟨i,rfl,hb,hc⟩;have S1:=Lib.hid (S0.out.call hb);obtain rfl:i = -1:=(hc.resolve_right (by rintro⟨k,_,h1,h2,_⟩;rw [HPX.out,HAL.out k h1] at h2;cases h2)).1;clear hc hb))
  go_ret
  exact⟨by rw [← L1.out];rfl,by rw [← L1.out];exact S1.out⟩
 ·have HAL:=Lib.hid hall
  clear hall
  go_enter Tryz.func206,Tryz.ntmps206
  go_wp2_with (go_at_call 210;go_must (refine HIX.out.mono ?_;rintro e w1 ⟨i,rfl,hb,hc⟩;have S1:=Lib.hid (S0.out.call hb);obtain⟨k0,rfl,hk0,ht,hbef⟩:=hc.resolve_left (by rintro⟨_,h1⟩;exact HAL.out fun j hj=>by rw [← HPX.out];exact h1 j hj);have HK:=Lib.hid (kept_start (pr:=pr) (l:=l) (k:=k0) (by rw [← L1.out];exact hk0) (by rw [← HPX.out];exact ht) (fun j hj=>by rw [← HPX.out];exact hbef j hj));have e0:((k0:Int) == -1)=false:=(beq_eq_false_iff_ne.2 (by omega));clear hb ht hbef))
  go_loopw [5,6,7] (fun v5 v6 _ wr=>∃ (i j:Nat) (X:List Sq),v5=.int .i64 i∧v6=.int .i64 j∧i<j∧j≤n∧Hid (KeptL pr l X i j)∧Hid (Sep w0 wr [.own 138 4 q n c (encQ X),.blk gt 272 #[.map (some b)],.mapK kyS EB19 b m f])) (fun _ v6 _ _=>n - (intOf v6).toNat)
  case atStart=>exact⟨k0,k0+1,l,rfl,by go_num,by omega,by omega,HK,S1⟩
  case round =>
   clear S1 HK e0 hk0
   obtain⟨i,j,X,rfl,rfl,hij,hj,HK,S⟩:=hrel
   by_cases hlt:j<n
   ·have hjl:j<l.length:=by rw [← L1.out];exact hlt
    have hnx:=kept_nth HK.out hjl
    obtain⟨g1,g2,g3,g4⟩:=(S.out.rdx 0 rfl).cQ hlt
    rw [hnx] at g1 g2 g3 g4
    have pq:=(S.out.rdx 0 rfl).ptr
    have HOK:=Lib.hid (HX.out _ (nth_mem hjl))
    have d1:(0:Int)≤i:=by omega
    have d2:(i:Int)<n:=by omega
    have d3:(0:Int)≤j:=by omega
    have d4:(j:Int)<n:=by omega
    have d5:(n:Int)≤100000:=by omega
    have SB:=Lib.hid (S.out.al #[.int .i64 (nth l j).s,.int .i64 (nth l j).r,.int .i64 (nth l j).v,.int .i64 (nth l j).d] 138 wr.heap.size rfl)
    have HC:=Lib.hid (freshCl gt b m f (nth l j) _ (SB.out.blk 2 rfl) (SB.out.mapK 3 rfl) HOK.out)
    rw [HPX.out] at HC
    cases hp:pr (nth l j) with
    | true =>
     have HKS:=Lib.hid (kept_skip HK.out hjl hp)
     rw [hp] at HC
     clear hp hnx S HK hjl HOK
     generalize nth l j=x at *
     go_wp2_with (go_at_call 208;go_must (refine HC.out.mono ?_;rintro e w' ⟨rfl,hb⟩;have S2:=Lib.hid (SB.out.call hb);clear hb))
     go_roundw
     case rel=>exact⟨i,j+1,X,rfl,by go_num,by omega,by omega,HKS,S2.out.pick [1,2,3] (by decide) rfl⟩
     case measure=>simp [intOf];omega
    | false =>
     have HKS:=Lib.hid (kept_keep HK.out hjl hp)
     have hil:i<X.length:=by rw [HK.out.len];omega
     have HES:=Lib.hid (fun x=>encQ_set X i x hil)
     rw [hp] at HC
     clear hp hnx S HK hjl HOK hil
     generalize nth l j=x at *
     go_wp2_with (first
      | (have _t:=S2;with_reducible show wpList _ _ _ (⟨none,.store 138 (.tmp 33) _,_,_,_,_⟩:: _) _ _;go_must (refine wpList_store_sep rfl 138 _ _ rfl S2.out 1 rfl i (by omega) #[.int .i64 x.s,.int .i64 x.r,.int .i64 x.v,.int .i64 x.d] (by simp) rfl rfl (by rw [infQ];simp) (by simp [Value.oneCell']) ?_;intro w5 S' hsz;have S5:=Lib.hid S';clear S' hsz))
      | (go_at_call 208;go_must (refine HC.out.mono ?_;rintro e w' ⟨rfl,hb⟩;have S2:=Lib.hid (SB.out.call hb);obtain⟨x0,x1,x2,x3,xz⟩:=bkc0c1c2c3l (S2.out.blk 0 rfl);clear hb)))
     go_roundw
     case rel=>exact⟨i+1,j+1,X.set i x,by go_num,by go_num,by omega,by omega,HKS,by rw [← HES.out];exact S5.out.pick [1,2,3] (by decide) rfl⟩
     case measure=>simp [intOf];omega
   ·obtain rfl:j=n:=by omega
    have d1:(0:Int)≤i:=by omega
    have d2:(i:Int)<j:=by omega
    have d5:(j:Int)≤100000:=by omega
    obtain⟨w2,hcl,S'⟩:=clear_sep (P:=Tryz.prog) (t:=83) (z:=.agg #[.int .i64 0,.int .i64 0,.int .i64 0,.int .i64 0]) S.out 0 rfl Tryz.underlying83 zeroMl rfl (by intro u hu;simp [Value.cells] at hu;rcases hu with rfl | rfl | rfl | rfl <;> rfl) i hij
    have hlow:=HK.out.low
    rw [show l.take j=l from List.take_of_length_le (by rw [L1.out];exact Nat.le_refl _)] at hlow
    have hen:=congrArg encQ hlow
    rw [encQ_take] at hen
    rw [hen] at S'
    have HLN:Hid (i=(l.filter fun x=>!pr x).length):=by
     unfold Hid
     rw [← hlow,List.length_take,HK.out.len,← L1.out];omega
    have S9:=Lib.hid S'
    have hc2:cutp q c i 4=q.map (fun x=>x.add (i*4)):=by unfold cutp;rw [if_neg (by omega)]
    have hcl2:=hcl
    rw [hc2] at hcl2
    have hq0:Hid (cutp q c 0 4=q):=by
     obtain⟨g,rfl⟩:=own_ptr (S.out.own 0 rfl) (by omega)
     unfold Hid cutp;simp [Addr.add]
    have ec:¬ c=i:=by omega
    have pq:=(S.out.rdx 0 rfl).ptr
    have d6:i≤j:=by omega
    have d7:i≤c:=by omega
    clear S' hen hlow hc2 HK S
    go_wp2
    go_ret
    refine⟨?_,?_⟩
    ·show Ending.returned (.slice (cutp q c 0 4) i c)=_
     rw [hq0.out,← HLN.out]
    rw [← HLN.out]
    exact S9.out
end
section
open Go Go.RowKit Go.Maps
theorem combM_in {M:List Sq} {x:Sq} (h:x∈combM M):x∈M:=(combM_mem.1 h).1
theorem fresh_filt {st M:List Sq} {f:Ky→Option Bool} (h:ThereK st f):((combM M).filter fun x=>!((f x.ky).getD false))=freshM st M:=by
 unfold freshM
 congr 1
 funext x
 rw [thereK_has h]
theorem FreshG (ps:Option Addr) (ns cs:Nat) (st:List Sq) (pm:Option Addr) (nm cm:Nat) (M:List Sq) (w:World) (hs:Rd w 4 ps ns (encQ st)) (hm:Rd w 4 pm nm (encQ M)) (hi:∀ x∈st,x.I) (hj:∀ x∈M,x.I) (hns:ns≤100000) (hnm:nm≤100000) :
  Calls Tryz.prog 141 #[.slice ps ns cs,.slice pm nm cm] w fun e w'=>∃ q c,e=.returned (.slice q (freshM st M).length c)∧Sep w w' [.own 138 4 q (freshM st M).length c (encQ (freshM st M))]:=by
 have p1:=hs.ptr
 have n1:=hs.small
 have L1:=Lib.hid hs.nQ
 have LM:=Lib.hid hm.nQ
 have HI:=Lib.hid hi
 have HJ:=Lib.hid hj
 have HL:=Lib.hid hs
 have HC:=Lib.hid (fun W (h:Ext w W)=>CombineG pm nm cm M W (hm.ext h) hj hnm)
 clear hs hm hi hj
 obtain⟨F,hF⟩:∃ F,freshM st M=F:=⟨_,rfl⟩
 rw [hF]
 have HFM:=Lib.hid hF
 clear hF
 have hmm:=@run_makeMap Tryz.prog
 have S0:=Lib.hid (((Sep.start w).mkmapK (K:=kyS) EB19).al #[.map (some w.heap.size)] 272 (w.heap.size+1) (by simp))
 go_enter Tryz.func141,Tryz.ntmps141
 go_wp2
 go_loopw [7,11] (fun _ i wr=>∃ (k mm:Nat) (f:Ky→Option Bool),k≤ns∧mm≤k∧i=.int .i64 k∧Sep w wr [.blk (w.heap.size+1) 272 #[.map (some w.heap.size)],.mapK kyS EB19 w.heap.size mm f]∧Hid (ThereK (st.take k) f)) (fun _ i _=>ns - (intOf i).toNat)
 case atStart=>exact⟨0,0,_,Nat.zero_le _,Nat.le_refl _,rfl,S0.out,thereK_nil⟩
 case round =>
  clear S0
  obtain⟨k,mm,f,hk,hmk,rfl,S,HF⟩:=hrel
  have b0:wr.cell? ⟨w.heap.size+1,0,none⟩=some (.map (some w.heap.size)):=(S.blk 0 rfl).cell 0
  have bz:=(S.blk 0 rfl).lt
  by_cases hlt:k<ns
  ·obtain⟨g1,g2,g3,g4⟩:=(HL.out.ext S.ext).cQ hlt
   have hkl:k<st.length:=by rw [← L1.out];exact hlt
   have hx:=HI.out (nth st k) (nth_mem hkl)
   have HT:=Lib.hid (take_succ_nth st k hkl)
   obtain⟨x,hxl⟩:∃ x,nth st k=x:=⟨_,rfl⟩
   rw [hxl] at g1 g2 g3 g4 hx HT
   have hok:kyS.ok x.ky:=⟨hx.1,hx.2.1,hx.2.2.1⟩
   have S2:=Lib.hid (S.al #[.int .i64 x.s,.int .i64 x.r,.int .i64 x.v,.int .i64 x.d] 146 wr.heap.size rfl)
   have d1:(0:Int)≤k:=by omega
   have d2:(k:Int)<ns:=by omega
   clear hxl S hx hkl
   go_wp2_with (at_mapUpdate;go_must (refine wpList_update_sepK (K:=kyS) (E:=EB19) (P:=Tryz.prog) rfl _ _ _ _ rfl Tryz.underlying272 rfl S2.out 2 rfl (by omega) x.ky true rfl rfl hok ?_;intro w5 S' hg;have S5:=Lib.hid S';clear S' hg))
   go_roundw
   case rel=>exact⟨k+1,mm+1,_,by omega,by omega,by go_num,S5.out.pick [1,2] (by decide) rfl,by rw [HT.out];exact thereK_put x HF.out⟩
   case measure=>simp [intOf];omega
  ·obtain rfl:k=ns:=by omega
   rw [List.take_of_length_le (by rw [← L1.out];exact Nat.le_refl _)] at HF
   have HFF:=Lib.hid ((fresh_filt (M:=M) HF.out).trans HFM.out)
   have HC2:=Lib.hid (HC.out wr S.ext)
   have HCL:Hid ((combM M).length≤100000):=by
    unfold Hid
    have:=combM_len M
    have:=LM.out
    omega
   have SH:=Lib.hid S;clear S
   have HOK:Hid (∀ x∈combM M,kyS.ok x.ky):=fun x hx=>by
    have:=HJ.out x (combM_in hx)
    exact⟨this.1,this.2.1,this.2.2.1⟩
   obtain⟨C,hC⟩:∃ C,combM M=C:=⟨_,rfl⟩
   rw [hC] at HC2 HFF HCL HOK
   clear hC HC
   go_wp2_with (first
    | (go_at_call 207;go_must (refine HC2.out.mono ?_;rintro e w2 ⟨q,c2,rfl,Z⟩;have S2:=Lib.hid (SH.out.comp Z);have HD:=Lib.hid (DeleteFresh (w.heap.size+1) w.heap.size mm f q C.length c2 C w2 w S2.out HOK.out HCL.out);rw [HFF.out] at HD;clear Z))
    | (go_at_call 206;go_must (refine HD.out.mono ?_;rintro e w3 ⟨rfl,Z⟩;have S3:=Lib.hid Z;clear Z)))
   go_ret
   exact⟨q,c2,rfl,S3.out.pick [0] (by decide) rfl⟩
end
section
open Go Go.RowKit
theorem homeV_val {v:Int} {n:Nat} (hn:1≤n):(v*40503+12345) % 65536 % (n:Int)=(homeV v n:Int):=by
 unfold homeV
 have h3:0≤(v*40503+12345) % 65536 % (n:Int):=Int.emod_nonneg _ (by omega)
 omega
theorem HomeG (v:Int) (n:Nat) (w:World) (h0:0≤v) (h1:v≤1000000) (hn:1≤n) (h16:n≤16) :
  Calls Tryz.prog 50 #[.int .i64 v,.int .i64 n] w fun e w'=>e=.returned (.tuple #[.int .i64 (homeV v n),.bool true])∧w=w':=by
 have E1:=Lib.hid (homeV_val (v:=v) hn)
 have d1:(1:Int)≤(n:Int):=by omega
 have d2:(n:Int)≤16:=by omega
 have c1:decide (v<0)=false:=by simpa using h0
 have c2:decide (1000000<v)=false:=by simpa using h1
 have c3:decide ((n:Int)<1)=false:=by simpa using d1
 have c4:decide (16<(n:Int))=false:=by simpa using d2
 go_enter Tryz.func50,Tryz.ntmps50
 go_wp2
 go_ret2
 refine⟨?_,rfl⟩
 show Ending.returned (.tuple #[.int .i64 ((v*40503+12345) % 65536 % (n:Int)),.bool true])=_
 rw [E1.out]
theorem HomeNo (v n:Int) (w:World) (h:¬ (0≤v∧v≤1000000∧1≤n∧n≤16)) :
  Calls Tryz.prog 50 #[.int .i64 v,.int .i64 n] w fun e w'=>e=.returned (.tuple #[.int .i64 0,.bool false])∧w=w':=by
 by_cases a1:v<0
 ·have c1:decide (v<0)=true:=by simpa using a1
  clear h
  go_enter Tryz.func50,Tryz.ntmps50
  go_wp2
  go_ret2
  exact⟨rfl,rfl⟩
 ·have c1:decide (v<0)=false:=by simpa using a1
  by_cases a2:1000000<v
  ·have c2:decide (1000000<v)=true:=by simpa using a2
   clear h
   go_enter Tryz.func50,Tryz.ntmps50
   go_wp2
   go_ret2
   exact⟨rfl,rfl⟩
  ·have c2:decide (1000000<v)=false:=by simpa using a2
   by_cases a3:n<1
   ·have c3:decide (n<1)=true:=by simpa using a3
    clear h
    go_enter Tryz.func50,Tryz.ntmps50
    go_wp2
    go_ret2
    exact⟨rfl,rfl⟩
   ·have c3:decide (n<1)=false:=by simpa using a3
    have c4:decide (16<n)=true:=by simp;omega
    clear h
    go_enter Tryz.func50,Tryz.ntmps50
    go_wp2
    go_ret2
    exact⟨rfl,rfl⟩
end
section
open Go Go.RowKit
structure R4 (w:World) (po:Option Addr) (no:Nat) (pt:Option Addr) (nt:Nat) (pr:Option Addr) (nr:Nat) (pv:Option Addr) (nv:Nat) (O T R V:List Int):Prop where
 o:Rd w 1 po no (encI O)
 t:Rd w 1 pt nt (encI T)
 r:Rd w 1 pr nr (encI R)
 v:Rd w 1 pv nv (encI V)
theorem R4.ext {w w':World} {po:Option Addr} {no:Nat} {pt:Option Addr} {nt:Nat} {pr:Option Addr} {nr:Nat} {pv:Option Addr} {nv:Nat} {O T R V:List Int} (h:R4 w po no pt nt pr nr pv nv O T R V) (he:Ext w w'):R4 w' po no pt nt pr nr pv nv O T R V:=⟨h.o.ext he,h.t.ext he,h.r.ext he,h.v.ext he⟩
end
section
open Go Go.RowKit
theorem open1G (po:Option Addr) (no co:Nat) (O:List Int) (pt:Option Addr) (nt ct:Nat) (T:List Int) (pr:Option Addr) (nr cr:Nat) (R:List Int) (pv:Option Addr) (nv cv:Nat) (V:List Int) (gr k:Nat) (w:World) (hO:Rd w 1 po no (encI O)) (hT:Rd w 1 pt nt (encI T)) (hok:OffOk O T) (hct:nt≤ct) (hk1:k+1<O.length) (hB:Blk w gr 27 #[.slice po no co,.slice pt nt ct,.slice pr nr cr,.slice pv nv cv]) :
  Calls Tryz.prog 177 #[.int .i64 k,.pointer (some ⟨gr,0,none⟩)] w fun e w'=>e=.returned (.slice (cutp pt ct (nth O k).toNat 1) (rowL O T k).length (ct - (nth O k).toNat))∧Ext w w':=by
 have _u:=(O,T,R,V)
 clear _u
 have na1:=hO.small
 have l1:=hO.nI
 have l2:=hT.nI
 have pA:=hO.ptr
 have q1:=hok.lo k (by omega)
 have q2:=hok.le k hk1
 have q3:=hok.hi (k+1) hk1
 have hrl:=rowL_len hok hk1
 have RL0:=hT.rowOf hok hct hk1
 have g1:=hO.cI (k:=k) (by omega)
 have g2:=hO.cI (k:=k+1) (by omega)
 have b0:=hB.cell 0
 have b1:=hB.cell 1
 have b2:=hB.cell 2
 have b3:=hB.cell 3
 have bz:=hB.lt
 obtain⟨a,ha⟩:∃ a:Nat,nth O k=(a:Int):=⟨(nth O k).toNat,by omega⟩
 obtain⟨c,hc⟩:∃ c:Nat,nth O (k+1)=(c:Int):=⟨(nth O (k+1)).toNat,by omega⟩
 rw [ha] at q1 q2 hrl RL0 g1
 rw [hc] at q2 q3 hrl RL0 g2
 simp only [Int.toNat_natCast] at hrl RL0
 have hq3:(c:Int)≤ct:=by omega
 have d1:(0:Int)≤k:=by omega
 have d2:(k:Int)<no:=by omega
 have d3:(0:Int)≤(k:Int)+1:=by omega
 have d4:(k:Int)+1<no:=by omega
 have RL:=Lib.hid RL0
 rw [hrl,ha,Int.toNat_natCast]
 clear hO hT hok ha hc hrl RL0 l1 l2 q3 hk1 hB
 go_enter Tryz.func177,Tryz.ntmps177
 go_wp2
 have y0:=fun x:ExtOf w=>x.ext.cell b0
 have y1:=fun x:ExtOf w=>x.ext.cell b1
 have y2:=fun x:ExtOf w=>x.ext.cell b2
 have y3:=fun x:ExtOf w=>x.ext.cell b3
 have x1:=fun x:ExtOf w=>x.ext.cell g1
 have x2:=fun x:ExtOf w=>x.ext.cell g2
 refine wp_region_ext (by kernel_rfl) (by kernel_rfl) ?_
 repeat (go_big_quiet_step ((fail)))
 refine wpQuiet_nil ?_
 rintro w1 ⟨⟨_,hb1⟩,rfl⟩
 go_wp2
 go_ret
 exact⟨rfl,hb1⟩
theorem open2G (po:Option Addr) (no co:Nat) (O:List Int) (pt:Option Addr) (nt ct:Nat) (T:List Int) (pr:Option Addr) (nr cr:Nat) (R:List Int) (pv:Option Addr) (nv cv:Nat) (V:List Int) (gr k:Nat) (w:World) (hO:Rd w 1 pr nr (encI R)) (hT:Rd w 1 pv nv (encI V)) (hok:OffOk R V) (hct:nv≤cv) (hk1:k+1<R.length) (hB:Blk w gr 27 #[.slice po no co,.slice pt nt ct,.slice pr nr cr,.slice pv nv cv]) :
  Calls Tryz.prog 178 #[.int .i64 k,.pointer (some ⟨gr,0,none⟩)] w fun e w'=>e=.returned (.slice (cutp pv cv (nth R k).toNat 1) (rowL R V k).length (cv - (nth R k).toNat))∧Ext w w':=by
 have _u:=(O,T,R,V)
 clear _u
 have na1:=hO.small
 have l1:=hO.nI
 have l2:=hT.nI
 have pA:=hO.ptr
 have q1:=hok.lo k (by omega)
 have q2:=hok.le k hk1
 have q3:=hok.hi (k+1) hk1
 have hrl:=rowL_len hok hk1
 have RL0:=hT.rowOf hok hct hk1
 have g1:=hO.cI (k:=k) (by omega)
 have g2:=hO.cI (k:=k+1) (by omega)
 have b0:=hB.cell 0
 have b1:=hB.cell 1
 have b2:=hB.cell 2
 have b3:=hB.cell 3
 have bz:=hB.lt
 obtain⟨a,ha⟩:∃ a:Nat,nth R k=(a:Int):=⟨(nth R k).toNat,by omega⟩
 obtain⟨c,hc⟩:∃ c:Nat,nth R (k+1)=(c:Int):=⟨(nth R (k+1)).toNat,by omega⟩
 rw [ha] at q1 q2 hrl RL0 g1
 rw [hc] at q2 q3 hrl RL0 g2
 simp only [Int.toNat_natCast] at hrl RL0
 have hq3:(c:Int)≤cv:=by omega
 have d1:(0:Int)≤k:=by omega
 have d2:(k:Int)<nr:=by omega
 have d3:(0:Int)≤(k:Int)+1:=by omega
 have d4:(k:Int)+1<nr:=by omega
 have RL:=Lib.hid RL0
 rw [hrl,ha,Int.toNat_natCast]
 clear hO hT hok ha hc hrl RL0 l1 l2 q3 hk1 hB
 go_enter Tryz.func178,Tryz.ntmps178
 go_wp2
 have y0:=fun x:ExtOf w=>x.ext.cell b0
 have y1:=fun x:ExtOf w=>x.ext.cell b1
 have y2:=fun x:ExtOf w=>x.ext.cell b2
 have y3:=fun x:ExtOf w=>x.ext.cell b3
 have x1:=fun x:ExtOf w=>x.ext.cell g1
 have x2:=fun x:ExtOf w=>x.ext.cell g2
 refine wp_region_ext (by kernel_rfl) (by kernel_rfl) ?_
 repeat (go_big_quiet_step ((fail)))
 refine wpQuiet_nil ?_
 rintro w1 ⟨⟨_,hb1⟩,rfl⟩
 go_wp2
 go_ret
 exact⟨rfl,hb1⟩
theorem open1Gr (po:Option Addr) (no co:Nat) (O:List Int) (pt:Option Addr) (nt ct:Nat) (T:List Int) (pr:Option Addr) (nr cr:Nat) (R:List Int) (pv:Option Addr) (nv cv:Nat) (V:List Int) (gr k:Nat) (w:World) (hO:Rd w 1 po no (encI O)) (hT:Rd w 1 pt nt (encI T)) (hok:OffOk O T) (hct:nt≤ct) (hk1:k+1<O.length) (hB:Blk w gr 27 #[.slice po no co,.slice pt nt ct,.slice pr nr cr,.slice pv nv cv]) :
  ∃ q c,Rd w 1 q (rowL O T k).length (encI (rowL O T k))∧∀ W,Ext w W→Calls Tryz.prog 177 #[.int .i64 k,.pointer (some ⟨gr,0,none⟩)] W fun e w'=>e=.returned (.slice q (rowL O T k).length c)∧Ext W w':=by
 refine⟨_,_,?_,fun W h=>open1G po no co O pt nt ct T pr nr cr R pv nv cv V gr k W (hO.ext h) (hT.ext h) hok hct hk1 (hB.ext h)⟩
 have:=hT.rowOf hok hct hk1
 rw [← rowL_len hok hk1] at this
 exact this
theorem open2Gr (po:Option Addr) (no co:Nat) (O:List Int) (pt:Option Addr) (nt ct:Nat) (T:List Int) (pr:Option Addr) (nr cr:Nat) (R:List Int) (pv:Option Addr) (nv cv:Nat) (V:List Int) (gr k:Nat) (w:World) (hO:Rd w 1 pr nr (encI R)) (hT:Rd w 1 pv nv (encI V)) (hok:OffOk R V) (hct:nv≤cv) (hk1:k+1<R.length) (hB:Blk w gr 27 #[.slice po no co,.slice pt nt ct,.slice pr nr cr,.slice pv nv cv]) :
  ∃ q c,Rd w 1 q (rowL R V k).length (encI (rowL R V k))∧∀ W,Ext w W→Calls Tryz.prog 178 #[.int .i64 k,.pointer (some ⟨gr,0,none⟩)] W fun e w'=>e=.returned (.slice q (rowL R V k).length c)∧Ext W w':=by
 refine⟨_,_,?_,fun W h=>open2G po no co O pt nt ct T pr nr cr R pv nv cv V gr k W (hO.ext h) (hT.ext h) hok hct hk1 (hB.ext h)⟩
 have:=hT.rowOf hok hct hk1
 rw [← rowL_len hok hk1] at this
 exact this
end
section
open Go Go.RowKit
theorem Sep.alrow {w0 w:World} {Γ:List Pc} (S:Sep w0 w Γ) (cs:Array Value) (e:TypeId) (size n g:Nat) (hg:w.heap.size=g) (hm:n≤maxLen) (hs:cs.size=n*size):Sep w0 (w.alloc (.cells cs e)) (.own e size (some ⟨g,0,none⟩) n n cs.toList :: Γ):=by
 subst hg
 exact S.fresh (Ext.alloc (Below.refl _ _) _) (World.ownsRow_lit w cs n (Nat.le_refl _) hm hs) (Nat.le_refl _)
theorem beginG (fid gr n s:Nat) (w:World) (hs:s<n) (hn:n≤200) :
  Calls Tryz.prog 179 #[.int .i64 n,.int .i64 s,.func (.func fid) #[] #[.pointer (some ⟨gr,0,none⟩)]] w fun e w'=>∃ g ql qf,e=.returned (.pointer (some ⟨g,0,none⟩)) ∧
   Sep w w' [.blk g 288 #[.func (.func fid) #[] #[.pointer (some ⟨gr,0,none⟩)],.slice ql n n,.slice qf 1 1],.own 3 1 qf 1 1 (encI [(s:Int)]),.own 3 1 ql n n (encI (bf0 n s))]:=by
 obtain⟨i0,hi0,hz0,hz1,hz2⟩:=info_parts infI
 go_enter Tryz.func179,Tryz.ntmps179
 go_wp2_with (at_make;go_must (refine wpList_make_sep rfl _ _ _ rfl 3 i0 _ 1 Tryz.underlying25 hi0 hz0 hz1 (n:Int) n rfl rfl rfl (by rw [hz2];omega) (by unfold maxLen;omega) (Sep.start w) ?_;intro w1 S';rw [made_encI] at S';have S1:=Lib.hid S';clear S'))
 generalize hql:(some ⟨w.heap.size,0,none⟩:Option Addr)=ql at *
 clear hql
 have S2:=Lib.hid ((S1.out.alrow #[.int .i64 (s:Int)] 3 1 1 w1.heap.size rfl (by decide) rfl).al #[.func (.func fid) #[] #[.pointer (some ⟨gr,0,none⟩)],.slice ql n n,.slice (some ⟨w1.heap.size,0,none⟩) 1 1] 288 (w1.heap.size+1) (by simp))
 clear S1
 go_loopw [8,21] (fun _ i wr=>∃ k:Nat,k≤n∧i=.int .i64 k∧Sep w wr [.blk (w1.heap.size+1) 288 #[.func (.func fid) #[] #[.pointer (some ⟨gr,0,none⟩)],.slice ql n n,.slice (some ⟨w1.heap.size,0,none⟩) 1 1],.own 3 1 (some ⟨w1.heap.size,0,none⟩) 1 1 (encI [(s:Int)]),.own 3 1 ql n n (encI (List.replicate k (-1) ++ List.replicate (n - k) 0))]) (fun _ i _=>n - (intOf i).toNat)
 case atStart=>exact⟨0,Nat.zero_le _,rfl,S2.out⟩
 case round =>
  clear S2
  obtain⟨k,hk,rfl,S⟩:=hrel
  obtain⟨az,a0,a1,a2⟩:=bklc0c1c2 (S.blk 0 rfl)
  have po:=(S.rd 2 rfl (by omega)).ptr
  have fz:=own_frozen (S.own 2 rfl) (by omega) k
  by_cases hlt:k<n
  ·have HS:=Lib.hid (rep_set hlt)
   have c1:=own_cell (S.own 2 rfl) (k:=k) (by omega)
   have d1:(0:Int)≤k:=by omega
   have d2:(k:Int)<n:=by omega
   have SH:=Lib.hid S;clear S
   go_wp2
   go_roundw
   case rel=>exact⟨k+1,by omega,by go_num,by rw [← HS.out,← encI_set];exact SH.out.setRow 2 rfl k (by omega) (.int .i64 (-1))⟩
   case measure=>simp [intOf];omega
  ·obtain rfl:k=n:=by omega
   rw [Nat.sub_self,List.replicate_zero,List.append_nil] at S
   have fz2:=own_frozen (S.own 2 rfl) (by omega) s
   have c2:=own_cell (S.own 2 rfl) (k:=s) (by omega)
   have d1:(0:Int)≤s:=by omega
   have d2:(s:Int)<k:=by omega
   have SH:=Lib.hid S;clear S
   clear fz
   go_wp2
   go_ret
   exact⟨_,ql,_,rfl,by unfold bf0;rw [← encI_set];exact SH.out.setRow 2 rfl s (by omega) (.int .i64 0)⟩
end
section
open Go Go.RowKit
def FarFrom {β:Type} (B:Nat) (I:β→World→Prop):Prop :=
 ∀ s Z W W',B≤Z.heap.size→Below B Z W→Below B Z W'→I s W→I s W'
theorem FarFrom.below {β:Type} {B:Nat} {I:β→World→Prop} (h:FarFrom B I) {s:β} {W W':World} (hB:B≤W.heap.size) (hb:Below B W W') (hs:I s W):I s W':=h s W W W' hB (Below.refl _ _) hb hs
theorem FarFrom.putObj {β:Type} {B:Nat} {I:β→World→Prop} (h:FarFrom B I) {s:β} {W:World} {l:Nat} {o:Obj} (o':Obj) (hs:I s W) (hB:B≤l) (hl:W.heap[l]?=some o):I s (W.putObj l o') :=
 h.below (by have:=(Array.getElem?_eq_some_iff.1 hl).1;omega) ((Below.refl B W).grown (grownBy_putObj' W l o') (by have:=(Array.getElem?_eq_some_iff.1 hl).1;omega) (fun k e=>by cases e;exact hB)) hs
theorem Sep.far {w0 w w' Z:World} {Γ:List Pc} {B:Nat} (S:Sep w0 w Γ) (h0:w0.heap.size≤B) (hZ:B≤Z.heap.size) (h1:Below B Z w) (h2:Below B Z w') (hf:∀ p∈Γ,∀ k,p.foot k→k<B):Sep w0 w' Γ :=
 ⟨⟨h2.os.trans (h1.os.symm.trans S.ext.os),h2.tape.trans (h1.tape.symm.trans S.ext.tape),h2.output.trans (h1.output.symm.trans S.ext.output),by have:=h2.size;omega,fun k hk=>(h2.block k (by omega)).trans ((h1.block k (by omega)).symm.trans (S.ext.block k hk))⟩,
  fun p hp=>p.loc w w' (S.all p hp) fun k hk=>(h2.block k (hf p hp k hk)).trans (h1.block k (hf p hp k hk)).symm,S.new,S.apart⟩
end
section
open Go Go.RowKit
structure KpF (n₀ B b1 b2 b3:Nat) (W W':World):Prop where
 low:Below n₀ W W'
 x1:W'.heap[b1]?=W.heap[b1]?
 x2:W'.heap[b2]?=W.heap[b2]?
 x3:W'.heap[b3]?=W.heap[b3]?
 up:∀ (k:Nat) (o:Obj),B≤k→W.heap[k]?=some o→o.isCells=true→W'.heap[k]?=some o
theorem KpF.trans {n₀ B b1 b2 b3:Nat} {X Y Z:World} (h:KpF n₀ B b1 b2 b3 X Y) (k:KpF n₀ B b1 b2 b3 Y Z):KpF n₀ B b1 b2 b3 X Z :=
 ⟨h.low.trans k.low,k.x1.trans h.x1,k.x2.trans h.x2,k.x3.trans h.x3,fun i o hB h1 h2=>k.up i o hB (h.up i o hB h1 h2) h2⟩
structure Yl where
 k:Nat
 F:List Int
 q:Option Addr
 c:Nat
abbrev YlOf (nx:Nat→List Int) (n s:Nat):={ x:Yl // IsFront (lev nx n s) n x.k x.F∧0<x.F.length }
end
section
open Go Go.RowKit
def ballP {nx:Nat→List Int} {n s:Nat} (xs:List (YlOf nx n s)):List Int:=xs.flatMap fun x=>x.1.F
end
section
open Go Go.RowKit
theorem lev_tri {nx nb:Nat→List Int} {n u v w:Nat} (h:Rev nx nb n) (hu:u<n) (hv:v<n) (hw:w<n) (h1:0≤lev nx n u v) (h2:0≤lev nx n v w) :
  0≤lev nx n u w∧lev nx n u w≤lev nx n u v+lev nx n v w:=by
 have e:=lev_rev h hv hw
 have:=lev_over h hu hw hv h1 (by rw [← e];exact h2)
 rw [← e] at this;exact this
end
section
open Go Go.RowKit
def pushW (s:List Bool × List Int) (w:Int):List Bool × List Int:=if nth s.1 w.toNat=true then s else (s.1.set w.toNat true,s.2 ++ [w])
def rowW (s:List Bool × List Int) (l:List Int):List Bool × List Int:=l.foldl pushW s
theorem snoc_ind {α:Type} {p:List α→Prop} (nil:p []) (snoc:∀ l x,p l→p (l ++ [x])) (l:List α):p l:=by
 have h:∀ m:List α,p m.reverse:=fun m=>by
  induction m with
  | nil=>exact nil
  | cons a m ih=>rw [List.reverse_cons];exact snoc _ _ ih
 have:=h l.reverse
 rwa [List.reverse_reverse] at this
abbrev SrT:=List (List (Int × Int))
abbrev SrS:=List Bool × List Int × SrT
def visitW (nx:Nat→List Int) (near:List (Int × Int)→Int→Bool) (h d:Int) (s:SrS) (v:Int):SrS :=
 if near (nth s.2.2 v.toNat) d=true then s else
  ((rowW (s.1,s.2.1) (nx v.toNat)).1,(rowW (s.1,s.2.1) (nx v.toNat)).2,s.2.2.set v.toNat (nth s.2.2 v.toNat ++ [(h,d)]))
def levelW (nx:Nat→List Int) (near:List (Int × Int)→Int→Bool) (h d:Int) (S:List Bool) (T:SrT) (F:List Int):SrS:=F.foldl (visitW nx near h d) (S,[],T)
theorem rowW_snoc (s:List Bool × List Int) (l:List Int) (w:Int):rowW s (l ++ [w])=pushW (rowW s l) w:=by simp [rowW]
theorem levelW_snoc (nx:Nat→List Int) (near:List (Int × Int)→Int→Bool) (h d:Int) (S:List Bool) (T:SrT) (F:List Int) (v:Int):levelW nx near h d S T (F ++ [v])=visitW nx near h d (levelW nx near h d S T F) v:=by simp [levelW]
theorem nth_setB (S:List Bool) {i:Nat} (j:Nat) (hi:i<S.length):nth (S.set i true) j=(nth S j || decide (i=j)):=by
 unfold nth
 rw [List.getD_eq_getElem?_getD,List.getD_eq_getElem?_getD,List.getElem?_set]
 by_cases e:i=j
 ·subst e;simp [hi]
 ·simp [e]
structure RowW (S:List Bool) (A l:List Int) (S':List Bool) (A':List Int):Prop where
 len:S'.length=S.length
 seen:∀ w:Nat,nth S' w=true↔nth S w=true∨(w:Int)∈l
 new:∃ B:List Int,A'=A ++ B∧B.Nodup∧(∀ x∈B,∃ w:Nat,x=w∧w<S.length∧nth S w=false∧(w:Int)∈l)∧S'.count false+B.length=S.count false∧(∀ w:Nat,nth S w=false→nth S' w=true→(w:Int)∈B)
theorem count_set {S:List Bool} {i:Nat} (hi:i<S.length) (h:nth S i=false):(S.set i true).count false+1=S.count false:=by
 rw [List.count_set hi]
 rw [nth_eq hi] at h
 have:0<S.count false:=List.count_pos_iff.2 (by rw [← h];exact List.getElem_mem _)
 rw [h];simp;omega
theorem rowW_ok {S:List Bool} (A:List Int):∀ {l:List Int},(∀ x∈l,∃ w:Nat,x=w∧w<S.length)→RowW S A l (rowW (S,A) l).1 (rowW (S,A) l).2:=by
 intro l
 induction l using snoc_ind with
 | nil=>intro _;exact⟨rfl,fun w=>by simp [rowW],[],by simp [rowW],List.nodup_nil,fun x hx=>(nomatch hx),rfl,fun w h1 h2=>by simp [rowW] at h2;rw [h1] at h2;cases h2⟩
 | snoc l x ih =>
  intro hl
  have ih:=ih fun y hy=>hl y (List.mem_append_left _ hy)
  obtain⟨w,rfl,hw⟩:=hl x (by simp)
  rw [rowW_snoc]
  generalize rowW (S,A) l=r at *
  obtain⟨S1,A1⟩:=r
  obtain⟨i1,i2,B,i3,i4,i5,i6,i7⟩:=ih
  simp only at i1 i2 i3 i6 i7
  unfold pushW
  simp only [Int.toNat_natCast]
  by_cases hs:nth S1 w=true
  ·rw [if_pos hs]
   refine⟨i1,fun u=>?_,B,i3,i4,fun y hy=>?_,i6,i7⟩
   ·simp only;rw [i2 u,List.mem_append,List.mem_singleton]
    constructor
    ·rintro(h | h)
     ·exact .inl h
     ·exact .inr (.inl h)
    ·rintro(h | h | h)
     ·exact .inl h
     ·exact .inr h
     ·have:u=w:=by omega
      subst this;exact(i2 u).1 hs
   ·obtain⟨u,h1,h2,h3,h4⟩:=i5 y hy
    exact⟨u,h1,h2,h3,List.mem_append_left _ h4⟩
  ·rw [if_neg hs]
   have hs':nth S1 w=false:=by simpa using hs
   have hsS:nth S w=false:=by
    cases h:nth S w with
    | false=>rfl
    | true=>exact absurd ((i2 w).2 (.inl h)) hs
   have hlw:(w:Int) ∉ l:=fun h=>hs ((i2 w).2 (.inr h))
   refine⟨by simp only;rw [List.length_set];exact i1,fun u=>?_,B ++ [(w:Int)],by simp only;rw [i3,List.append_assoc],?_,fun y hy=>?_,?_,fun u h1 h2=>?_⟩
   ·simp only
    rw [nth_setB _ _ (by omega),Bool.or_eq_true,decide_eq_true_eq,i2 u,List.mem_append,List.mem_singleton]
    constructor
    ·rintro((h | h) | h)
     ·exact .inl h
     ·exact .inr (.inl h)
     ·exact .inr (.inr (by omega))
    ·rintro(h | h | h)
     ·exact .inl (.inl h)
     ·exact .inl (.inr h)
     ·exact .inr (by omega)
   ·rw [List.nodup_append]
    refine⟨i4,by simp,fun a ha b hb e=>?_⟩
    rw [List.mem_singleton] at hb;subst hb;subst e
    obtain⟨u,h1,_,_,h4⟩:=i5 _ ha
    exact hlw (by rw [h1];exact h4)
   ·rcases List.mem_append.1 hy with hy | hy
    ·obtain⟨u,h1,h2,h3,h4⟩:=i5 y hy
     exact⟨u,h1,h2,h3,List.mem_append_left _ h4⟩
    ·rw [List.mem_singleton] at hy
     exact⟨w,hy,hw,hsS,by simp⟩
   ·simp only
    have:=count_set (by omega) hs'
    rw [List.length_append,List.length_singleton];omega
   ·simp only at h2
    rw [nth_setB _ _ (by omega),Bool.or_eq_true,decide_eq_true_eq] at h2
    rcases h2 with h2 | h2
    ·exact List.mem_append_left _ (i7 u h1 h2)
    ·subst h2;simp
structure SrW (nx:Nat→List Int) (near:List (Int × Int)→Int→Bool) (n h:Nat) (T0:SrT) (good:Nat→Bool) (dd:Nat→Int):Prop where
 hh:h<n
 len:T0.length=n
 lev:LevOk nx n h dd
 inr:∀ v,v<n→∀ x∈nx v,∃ w:Nat,x=w∧w<n
 yes:∀ v,v<n→good v=true→near (nth T0 v) (dd v)=false
 no:∀ v d,v<n→good v=false→0≤dd v→dd v≤d→near (nth T0 v) d=true
 ge:∀ v,v<n→good v=true→0≤dd v
 back:∀ v,v<n→good v=true→0<dd v→∃ u,u<n∧good u=true∧dd u=dd v - 1∧(v:Int)∈nx u
def toldW (h:Nat) (T0:SrT) (good:Nat→Bool) (dd:Nat→Int) (v:Nat):List (Int × Int):=if good v=true then nth T0 v ++ [((h:Int),dd v)] else nth T0 v
structure SInv (nx:Nat→List Int) (n h:Nat) (T0:SrT) (good:Nat→Bool) (dd:Nat→Int) (d:Int) (S:List Bool) (T:SrT) (F:List Int):Prop where
 lenS:S.length=n
 lenT:T.length=n
 h0:nth S h=true
 nd:F.Nodup
 front:∀ x∈F,∃ v:Nat,x=v∧v<n∧nth S v=true∧nth T v=nth T0 v∧0≤dd v∧dd v≤d∧(good v=true→dd v=d)
 past:∀ v:Nat,v<n→nth S v=true→(v:Int) ∉ F→nth T v=toldW h T0 good dd v∧(good v=true→∀ w:Nat,(w:Int)∈nx v→nth S w=true)
 new:∀ v,v<n→nth S v=false→nth T v=nth T0 v∧(good v=true→d<dd v)
 bd:d+S.count false+(if F=[] then 0 else 1)≤n
 d0:0≤d
section
variable {nx:Nat→List Int} {near:List (Int × Int)→Int→Bool} {n h:Nat} {T0:SrT} {good:Nat→Bool} {dd:Nat→Int}
theorem SInv.start (H:SrW nx near n h T0 good dd):SInv nx n h T0 good dd 0 ((List.replicate n false).set h true) T0 [(h:Int)]:=by
 have hh:=H.hh
 have hz:dd h=0:=(H.lev.zero h hh).2 rfl
 have hs:∀ v,nth ((List.replicate n false).set h true) v=decide (h=v):=fun v=>by
  rw [nth_setB _ _ (by simpa using hh)]
  have:nth (List.replicate n false) v=false:=by
   unfold nth
   rw [List.getD_eq_getElem?_getD,List.getElem?_replicate]
   by_cases e:v<n <;> simp [e]
  rw [this,Bool.false_or]
 refine⟨by simp,H.len,by rw [hs];simp,by simp,fun x hx=>?_,fun v hv h1 h2=>?_,fun v hv h1=>⟨rfl,fun hg=>?_⟩,?_,by omega⟩
 ·rw [List.mem_singleton] at hx
  exact⟨h,hx,hh,by rw [hs];simp,rfl,by omega,by omega,fun _=>hz⟩
 ·rw [hs,decide_eq_true_eq] at h1
  subst h1;simp at h2
 ·rw [hs,decide_eq_false_iff_not] at h1
  have h3:=H.ge v hv hg
  have h4:¬ dd v=0:=fun e=>h1 ((H.lev.zero v hv).1 e).symm
  omega
 ·have h1:nth (List.replicate n false) h=false:=by rw [nth_eq (by simpa using hh)];simp
  have h2:=count_set (S:=List.replicate n false) (by simpa using hh) h1
  rw [List.count_replicate_self] at h2
  rw [if_neg (by simp)];omega
structure MInv (nx:Nat→List Int) (n h:Nat) (good:Nat→Bool) (d:Int) (S:List Bool) (T:SrT) (P:List Int) (r:SrS):Prop where
 lenS:r.1.length=n
 lenT:r.2.2.length=n
 seen:∀ w:Nat,nth r.1 w=true↔nth S w=true∨∃ v:Nat,(v:Int)∈P∧good v=true∧(w:Int)∈nx v
 tab:∀ v:Nat,v<n→nth r.2.2 v=if (v:Int)∈P∧good v=true then nth T v ++ [((h:Int),d)] else nth T v
 nd:r.2.1.Nodup
 ahead:∀ x∈r.2.1,∃ w:Nat,x=w∧w<n∧nth S w=false∧∃ v:Nat,(v:Int)∈P∧good v=true∧(w:Int)∈nx v
 all:∀ w:Nat,nth S w=false→nth r.1 w=true→(w:Int)∈r.2.1
 cnt:r.1.count false+r.2.1.length=S.count false
theorem nth_setT (T:SrT) {i:Nat} (j:Nat) (x:List (Int × Int)) (hi:i<T.length):nth (T.set i x) j=if i=j then x else nth T j:=by
 unfold nth
 rw [List.getD_eq_getElem?_getD,List.getD_eq_getElem?_getD,List.getElem?_set]
 by_cases e:i=j
 ·subst e;simp [hi]
 ·simp [e]
theorem MInv.run (H:SrW nx near n h T0 good dd) {d:Int} {S:List Bool} {T:SrT} {F:List Int} (I:SInv nx n h T0 good dd d S T F):∀ P,(∃ Q,F=P ++ Q)→MInv nx n h good d S T P (levelW nx near h d S T P):=by
 intro P
 induction P using snoc_ind with
 | nil=>intro _;exact⟨I.lenS,I.lenT,fun w=>by simp [levelW],fun v hv=>by simp [levelW],by simp [levelW],fun x hx=>by simp [levelW] at hx,fun w h1 h2=>(by simp [levelW] at h2;rw [h1] at h2;cases h2),by simp [levelW]⟩
 | snoc P x ih =>
  rintro⟨Q,hQ⟩
  have ih:=ih ⟨x :: Q,by rw [hQ];simp⟩
  rw [levelW_snoc]
  generalize levelW nx near h d S T P=r at *
  obtain⟨S1,A1,T1⟩:=r
  obtain⟨m1,m2,m3,m4,m5,m6,m7,m8⟩:=ih
  simp only at m1 m2 m3 m4 m5 m6 m7 m8
  obtain⟨v,rfl,hv,v1,v2,v3,v4,v5⟩:=I.front x (by rw [hQ];simp)
  have hvP:(v:Int) ∉ P:=by
   have:=I.nd
   rw [hQ,List.nodup_append] at this
   have:=(List.nodup_append.1 this.1).2.2
   exact fun hp=>this _ hp _ (by simp) rfl
  have hTv:nth T1 v=nth T0 v:=by rw [m4 v hv,if_neg fun hc=>hvP hc.1,v2]
  unfold visitW
  simp only [Int.toNat_natCast]
  rw [hTv]
  cases hg:good v with
  | false =>
   rw [if_pos (H.no v d hv hg v3 v4)]
   have key:∀ (p:Nat→Prop),(∃ u:Nat,(u:Int)∈P ++ [(v:Int)]∧good u=true∧p u)↔∃ u:Nat,(u:Int)∈P∧good u=true∧p u:=fun p=>by
    constructor
    ·rintro⟨u,h1,h2,h3⟩
     rcases List.mem_append.1 h1 with h1 | h1
     ·exact⟨u,h1,h2,h3⟩
     ·rw [List.mem_singleton] at h1
      have:u=v:=by omega
      subst this;rw [hg] at h2;cases h2
    ·rintro⟨u,h1,h2⟩;exact⟨u,List.mem_append_left _ h1,h2⟩
   refine⟨m1,m2,fun w=>by simp only;rw [m3 w,key],fun u hu=>?_,m5,fun y hy=>?_,m7,m8⟩
   ·simp only
    rw [m4 u hu]
    by_cases e:(u:Int)∈P∧good u=true
    ·rw [if_pos e,if_pos ⟨List.mem_append_left _ e.1,e.2⟩]
    ·rw [if_neg e,if_neg]
     rintro⟨h1,h2⟩
     rcases List.mem_append.1 h1 with h1 | h1
     ·exact e ⟨h1,h2⟩
     ·rw [List.mem_singleton] at h1
      have:u=v:=by omega
      subst this;rw [hg] at h2;cases h2
   ·obtain⟨w,h1,h2,h3,h4⟩:=m6 y hy
    exact⟨w,h1,h2,h3,(key _).2 h4⟩
  | true =>
   have hdv:=v5 hg
   have hnr:=H.yes v hv hg
   rw [hdv] at hnr
   rw [if_neg (by rw [hnr];simp)]
   have hin:∀ y∈nx v,∃ w:Nat,y=w∧w<S1.length:=fun y hy=>by rw [m1];exact H.inr v hv y hy
   have hr:=rowW_ok (S:=S1) A1 hin
   generalize rowW (S1,A1) (nx v)=r2 at *
   obtain⟨S2,A2⟩:=r2
   obtain⟨r1,r2,B,r3,r4,r5,r6,r7⟩:=hr
   simp only at r1 r2 r3 r6 r7
   have key:∀ (p:Nat→Prop),(∃ u:Nat,(u:Int)∈P ++ [(v:Int)]∧good u=true∧p u)↔(∃ u:Nat,(u:Int)∈P∧good u=true∧p u)∨p v:=fun p=>by
    constructor
    ·rintro⟨u,h1,h2,h3⟩
     rcases List.mem_append.1 h1 with h1 | h1
     ·exact .inl ⟨u,h1,h2,h3⟩
     ·rw [List.mem_singleton] at h1
      have:u=v:=by omega
      subst this;exact .inr h3
    ·rintro(⟨u,h1,h2⟩ | h1)
     ·exact⟨u,List.mem_append_left _ h1,h2⟩
     ·exact⟨v,by simp,hg,h1⟩
   have hBS:∀ x∈B,∃ w:Nat,x=w∧w<n∧nth S w=false∧(w:Int)∈nx v:=fun x hx=>by
    obtain⟨w,h1,h2,h3,h4⟩:=r5 x hx
    refine⟨w,h1,by omega,?_,h4⟩
    cases hs:nth S w with
    | false=>rfl
    | true=>rw [(m3 w).2 (.inl hs)] at h3;cases h3
   refine⟨by simp only;omega,by simp only;rw [List.length_set];exact m2,fun w=>?_,fun u hu=>?_,?_,fun y hy=>?_,fun w h1 h2=>?_,?_⟩
   ·simp only;rw [r2 w,m3 w,key,or_assoc]
   ·simp only
    rw [nth_setT _ _ _ (by omega),m4 u hu]
    by_cases e:v=u
    ·subst e
     rw [if_pos rfl,if_pos ⟨by simp,hg⟩,v2]
    ·rw [if_neg e]
     by_cases e2:(u:Int)∈P∧good u=true
     ·rw [if_pos e2,if_pos ⟨List.mem_append_left _ e2.1,e2.2⟩]
     ·rw [if_neg e2,if_neg]
      rintro⟨h1,h2⟩
      rcases List.mem_append.1 h1 with h1 | h1
      ·exact e2 ⟨h1,h2⟩
      ·rw [List.mem_singleton] at h1;omega
   ·simp only
    rw [r3,List.nodup_append]
    refine⟨m5,r4,fun a ha b hb e=>?_⟩
    subst e
    obtain⟨w,h1,h2,h3,h4⟩:=m6 a ha
    obtain⟨w',h1',_,h3',_⟩:=r5 a hb
    have:w=w':=by omega
    subst this
    rw [(m3 w).2 (.inr h4)] at h3';cases h3'
   ·simp only at hy
    rw [r3] at hy
    rcases List.mem_append.1 hy with hy | hy
    ·obtain⟨w,h1,h2,h3,h4⟩:=m6 y hy
     exact⟨w,h1,h2,h3,(key _).2 (.inl h4)⟩
    ·obtain⟨w,h1,h2,h3,h4⟩:=hBS y hy
     exact⟨w,h1,h2,h3,(key _).2 (.inr h4)⟩
   ·simp only at h2 ⊢
    rw [r3]
    cases h3:nth S1 w with
    | true=>exact List.mem_append_left _ (m7 w h1 h3)
    | false=>exact List.mem_append_right _ (r7 w h3 h2)
   ·simp only
    rw [r3,List.length_append];omega
theorem SInv.next (H:SrW nx near n h T0 good dd) {d:Int} {S:List Bool} {T:SrT} {F:List Int} (I:SInv nx n h T0 good dd d S T F) (hF:F≠[]) :
  SInv nx n h T0 good dd (d+1) (levelW nx near h d S T F).1 (levelW nx near h d S T F).2.2 (levelW nx near h d S T F).2.1:=by
 have M:=MInv.run H I F ⟨[],by simp⟩
 generalize levelW nx near h d S T F=r at *
 obtain⟨S1,A1,T1⟩:=r
 obtain⟨m1,m2,m3,m4,m5,m6,m7,m8⟩:=M
 simp only at m1 m2 m3 m4 m5 m6 m7 m8 ⊢
 have hunF:∀ w:Nat,nth S w=false→(w:Int) ∉ F:=fun w hw hf=>by
  obtain⟨v,e,_,h3,_⟩:=I.front _ hf
  have:w=v:=by omega
  subst this;rw [hw] at h3;cases h3
 refine⟨m1,m2,(m3 h).2 (.inl I.h0),m5,fun x hx=>?_,fun v hv h1 h2=>?_,fun v hv h1=>?_,?_,by have:=I.d0;omega⟩
 ·obtain⟨w,rfl,hw,h3,v,h4,h5,h6⟩:=m6 x hx
  obtain⟨v',e,v1,v2,v3,v4,v5,v6⟩:=I.front _ h4
  obtain rfl:v=v':=by omega
  have hn:=H.lev.next v w v1 hw h6 v4
  have h7:=I.new w hw h3
  refine⟨w,rfl,hw,(m3 w).2 (.inr ⟨v,h4,h5,h6⟩),?_,hn.1,by omega,fun hg=>?_⟩
  ·rw [m4 w hw,if_neg fun hc=>hunF w h3 hc.1,h7.1]
  ·have:=h7.2 hg;omega
 ·cases hs:nth S v with
  | false=>exact absurd (m7 v hs h1) h2
  | true =>
   by_cases hf:(v:Int)∈F
   ·obtain⟨v',e,v1,v2,v3,v4,v5,v6⟩:=I.front _ hf
    obtain rfl:v=v':=by omega
    refine⟨?_,fun hg w hw=>(m3 w).2 (.inr ⟨v,hf,hg,hw⟩)⟩
    rw [m4 v hv]
    unfold toldW
    by_cases hg:good v=true
    ·rw [if_pos ⟨hf,hg⟩,if_pos hg,v3,v6 hg]
    ·rw [if_neg fun hc=>hg hc.2,if_neg hg,v3]
   ·have hp:=I.past v hv hs hf
    refine⟨?_,fun hg w hw=>(m3 w).2 (.inl (hp.2 hg w hw))⟩
    rw [m4 v hv,if_neg fun hc=>hf hc.1,hp.1]
 ·have hs:nth S v=false:=by
   cases hs:nth S v with
   | false=>rfl
   | true=>rw [(m3 v).2 (.inl hs)] at h1;cases h1
  have h7:=I.new v hv hs
  refine⟨?_,fun hg=>?_⟩
  ·rw [m4 v hv,if_neg fun hc=>hunF v hs hc.1,h7.1]
  ·have h8:=h7.2 hg
   have h0:=I.d0
   by_cases e:dd v=d+1
   ·exfalso
    obtain⟨u,hu,hgu,hdu,hvu⟩:=H.back v hv hg (by omega)
    cases hsu:nth S u with
    | false=>have:=(I.new u hu hsu).2 hgu;omega
    | true =>
     by_cases hfu:(u:Int)∈F
     ·rw [(m3 v).2 (.inr ⟨u,hfu,hgu,hvu⟩)] at h1;cases h1
     ·have:=(I.past u hu hsu hfu).2 hgu v hvu
      rw [hs] at this;cases this
   ·omega
 ·have hb:=I.bd
  rw [if_neg hF] at hb
  by_cases e:A1=[]
  ·rw [if_pos e]
   subst e
   simp only [List.length_nil] at m8
   omega
  ·rw [if_neg e]
   have:0<A1.length:=List.length_pos_iff.2 e
   omega
theorem SInv.done (H:SrW nx near n h T0 good dd) {d:Int} {S:List Bool} {T:SrT} (I:SInv nx n h T0 good dd d S T []):T=(List.range n).map fun v=>toldW h T0 good dd v:=by
 have hall:∀ (k v:Nat),v<n→good v=true→dd v=k→nth S v=true:=by
  intro k
  induction k with
  | zero =>
   intro v hv hg hd
   have:=(H.lev.zero v hv).1 (by omega)
   subst this;exact I.h0
  | succ k ih =>
   intro v hv hg hd
   obtain⟨u,hu,h1,h2,h3⟩:=H.back v hv hg (by omega)
   exact(I.past u hu (ih u hu h1 (by omega)) (by simp)).2 h1 v h3
 refine List.ext_getElem (by rw [I.lenT];simp) fun v h1 h2=>?_
 have hv:v<n:=by rw [← I.lenT];exact h1
 rw [List.getElem_map,List.getElem_range,← nth_eq h1]
 cases hs:nth S v with
 | true=>exact(I.past v hv hs (by simp)).1
 | false =>
  have h3:=I.new v hv hs
  rw [h3.1]
  unfold toldW
  by_cases hg:good v=true
  ·have h4:=H.ge v hv hg
   have:=hall (dd v).toNat v hv hg (by omega)
   rw [hs] at this;cases this
  ·rw [if_neg hg]
end
end
section
open Go Go.RowKit
def leastS (acc:Int × Bool) (a b:Int × Int):Int × Bool:=if a.1=b.1∧(acc.2=false∨a.2+b.2<acc.1) then (a.2+b.2,true) else acc
def leastR (acc:Int × Bool) (a:Int × Int) (inn:List (Int × Int)):Int × Bool:=inn.foldl (fun acc b=>leastS acc a b) acc
def leastV (out inn:List (Int × Int)):Int × Bool:=out.foldl (fun acc a=>leastR acc a inn) (0,false)
theorem leastR_snoc (acc:Int × Bool) (a:Int × Int) (l:List (Int × Int)) (b:Int × Int):leastR acc a (l ++ [b])=leastS (leastR acc a l) a b:=by simp [leastR]
theorem leastV_snoc (l inn:List (Int × Int)) (a:Int × Int):leastV (l ++ [a]) inn=leastR (leastV l inn) a inn:=by simp [leastV]
def Both (out inn:List (Int × Int)) (x:Int):Prop:=∃ a∈out,∃ b∈inn,a.1=b.1∧x=a.2+b.2
def LeastOk (C:Int→Prop) (r:Int × Bool):Prop:=(r.2=false→r.1=0∧∀ x,¬ C x)∧(r.2=true→C r.1∧∀ x,C x→r.1≤x)
theorem LeastOk.uniq {C D:Int→Prop} {r s:Int × Bool} (h:LeastOk C r) (k:LeastOk D s) (e:∀ x,C x↔D x):r=s:=by
 obtain⟨a,b⟩:=r
 obtain⟨c,d⟩:=s
 cases b with
 | false =>
  obtain⟨h1,h2⟩:=h.1 rfl
  cases d with
  | false=>obtain⟨k1,_⟩:=k.1 rfl;simp only at h1 k1;rw [h1,k1]
  | true=>exact absurd ((e _).2 (k.2 rfl).1) (h2 _)
 | true =>
  obtain⟨h1,h2⟩:=h.2 rfl
  cases d with
  | false=>exact absurd ((e _).1 h1) ((k.1 rfl).2 _)
  | true =>
   obtain⟨k1,k2⟩:=k.2 rfl
   have a1:=h2 _ ((e _).2 k1)
   have a2:=k2 _ ((e _).1 h1)
   simp only at a1 a2
   have:a=c:=by omega
   rw [this]
theorem leastS_ok {C:Int→Prop} {r:Int × Bool} (a b:Int × Int) (h:LeastOk C r):LeastOk (fun x=>C x∨(a.1=b.1∧x=a.2+b.2)) (leastS r a b):=by
 unfold leastS
 by_cases e:a.1=b.1
 ·cases hr:r.2 with
  | false =>
   obtain⟨h1,h2⟩:=h.1 hr
   rw [if_pos ⟨e,.inl rfl⟩]
   refine⟨fun k=>by simp at k,fun _=>⟨.inr ⟨e,rfl⟩,fun x hx=>?_⟩⟩
   rcases hx with hx | hx
   ·exact absurd hx (h2 x)
   ·simp only;omega
  | true =>
   obtain⟨h1,h2⟩:=h.2 hr
   by_cases hl:a.2+b.2<r.1
   ·rw [if_pos ⟨e,.inr hl⟩]
    refine⟨fun k=>by simp at k,fun _=>⟨.inr ⟨e,rfl⟩,fun x hx=>?_⟩⟩
    rcases hx with hx | hx
    ·have:=h2 x hx;simp only;omega
    ·simp only;omega
   ·rw [if_neg (by
     rintro⟨_,k | k⟩
     ·cases k
     ·exact hl k)]
    refine⟨fun k=>(by rw [hr] at k;cases k),fun _=>⟨.inl h1,fun x hx=>?_⟩⟩
    rcases hx with hx | hx
    ·exact h2 x hx
    ·omega
 ·rw [if_neg fun k=>e k.1]
  refine⟨fun k=>⟨(h.1 k).1,fun x hx=>?_⟩,fun k=>⟨.inl (h.2 k).1,fun x hx=>?_⟩⟩
  ·rcases hx with hx | hx
   ·exact(h.1 k).2 x hx
   ·exact e hx.1
  ·rcases hx with hx | hx
   ·exact(h.2 k).2 x hx
   ·exact absurd hx.1 e
theorem LeastOk.of {C D:Int→Prop} {r:Int × Bool} (h:LeastOk C r) (e:∀ x,C x↔D x):LeastOk D r :=
 ⟨fun k=>⟨(h.1 k).1,fun x hx=>(h.1 k).2 x ((e x).2 hx)⟩,fun k=>⟨(e _).1 (h.2 k).1,fun x hx=>(h.2 k).2 x ((e x).2 hx)⟩⟩
theorem leastR_ok (a:Int × Int):∀ (inn:List (Int × Int)) {C:Int→Prop} {r:Int × Bool},LeastOk C r→LeastOk (fun x=>C x∨∃ b∈inn,a.1=b.1∧x=a.2+b.2) (leastR r a inn)
 | [],C,r,h=>h.of fun x=>by simp
 | b :: l,C,r,h=>by
  have h1:=leastR_ok a l (leastS_ok a b h)
  refine h1.of fun x=>?_
  simp only [List.mem_cons,exists_eq_or_imp]
  rw [or_assoc]
theorem leastV_aux (inn:List (Int × Int)):∀ (out:List (Int × Int)) {C:Int→Prop} {r:Int × Bool},LeastOk C r→LeastOk (fun x=>C x∨Both out inn x) (out.foldl (fun acc a=>leastR acc a inn) r)
 | [],C,r,h=>h.of fun x=>by simp [Both]
 | a :: l,C,r,h=>by
  have h1:=leastV_aux inn l (leastR_ok a inn h)
  refine h1.of fun x=>?_
  unfold Both
  simp only [List.mem_cons,exists_eq_or_imp]
  rw [or_assoc]
theorem leastV_ok (out inn:List (Int × Int)):LeastOk (Both out inn) (leastV out inn):=by
 have h:=leastV_aux inn out (C:=fun _=>False) (r:=(0,false)) ⟨fun _=>⟨rfl,fun _ h=>h⟩,fun h=>by simp at h⟩
 exact h.of fun x=>by simp
theorem Both.comm {out inn:List (Int × Int)} {x:Int} (h:Both out inn x):Both inn out x:=by
 obtain⟨a,ha,b,hb,e,rfl⟩:=h
 exact⟨b,hb,a,ha,e.symm,by omega⟩
theorem leastV_comm (out inn:List (Int × Int)):leastV out inn=leastV inn out:=(leastV_ok out inn).uniq (leastV_ok inn out) fun _=>⟨Both.comm,Both.comm⟩
def nearB (r:Int × Bool) (d:Int):Bool:=r.2 && decide (r.1≤d)
theorem nearB_no {C:Int→Prop} {r:Int × Bool} (h:LeastOk C r) {d:Int} (k:∀ x,C x→d<x):nearB r d=false:=by
 unfold nearB
 cases hr:r.2 with
 | false=>rfl
 | true=>have:=k _ (h.2 hr).1;simp;omega
theorem nearB_yes {C:Int→Prop} {r:Int × Bool} (h:LeastOk C r) {d x:Int} (hx:C x) (hd:x≤d):nearB r d=true:=by
 unfold nearB
 cases hr:r.2 with
 | false=>exact absurd hx ((h.1 hr).2 x)
 | true=>have:=(h.2 hr).2 x hx;simp;omega
end
section
open Go Go.RowKit
def OrdP (l:List Int) (n:Nat):Prop:=l.length=n∧l.Nodup∧∀ x∈l,0≤x∧x<n
theorem ord_mem {l:List Int} {n:Nat} (h:OrdP l n) {v:Nat} (hv:v<n):(v:Int)∈l:=by
 apply Classical.byContradiction;intro hm
 have:=nodup_small (l:=(v:Int) :: l) (n:=n) (List.nodup_cons.2 ⟨hm,h.2.1⟩) fun x hx=>by
  rcases List.mem_cons.1 hx with rfl | hx
  ·omega
  ·exact h.2.2 x hx
 rw [List.length_cons,h.1] at this;omega
end
section
open Go Go.RowKit
theorem ord_at {l:List Int} {n i:Nat} (h:OrdP l n) (hi:i<n):0≤nth l i∧nth l i<n:=h.2.2 _ (nth_mem (by rw [h.1];exact hi))
theorem ord_inj {l:List Int} {n i j:Nat} (h:OrdP l n) (hi:i<n) (hj:j<n) (e:nth l i=nth l j):i=j:=by
 rw [nth_eq (by rw [h.1];exact hi),nth_eq (by rw [h.1];exact hj)] at e
 exact(List.getElem_inj h.2.1).1 e
theorem ord_find {l:List Int} {n:Nat} (h:OrdP l n) {v:Nat} (hv:v<n):∃ i,i<n∧nth l i=v:=by
 obtain⟨i,hi,e⟩:=List.getElem_of_mem (ord_mem h hv)
 exact⟨i,by rw [← h.1];exact hi,by rw [nth_eq hi];exact e⟩
theorem byL_ord {O R:List Int} {n:Nat} (hw:∀ v,v<n→0≤wayN O R v∧wayN O R v≤4000):OrdP (byL O R n) n:=by
 have hr:=byP_rises O R n 4001
 have hmem:∀ x,x∈byP O R n 4001↔x∈waysP O R n:=fun x=>by
  rw [waysP_mem,byP_mem]
  constructor
  ·rintro⟨v,h,rfl,_⟩;exact⟨v,h,rfl⟩
  ·rintro⟨v,h,rfl⟩
   have:=hw v h
   exact⟨v,h,rfl,by omega,by omega⟩
 have hnd:(byP O R n 4001).Nodup:=hr.imp fun {a b} h e=>by subst e;rw [stoW.irrefl] at h;cases h
 have hlen:(byP O R n 4001).length=n:=by
  have h1:=hnd.length_le_of_subset (l₂:=waysP O R n) fun x hx=>(hmem x).1 hx
  have h2:=(waysP_nodup O R n).length_le_of_subset (l₂:=byP O R n 4001) fun x hx=>(hmem x).2 hx
  rw [waysP_len] at h1 h2
  omega
 refine⟨by unfold byL;rw [List.length_map,hlen],?_,fun x hx=>?_⟩
 ·unfold byL
  refine List.Pairwise.map _ (fun a b h=>h) (R:=fun a b=>a.1≠b.1) ?_
  rw [List.nodup_iff_pairwise_ne] at hnd
  refine hnd.imp_of_mem fun {a b} ha hb hne e=>?_
  obtain⟨v,_,rfl⟩:=waysP_mem.1 ((hmem a).1 ha)
  obtain⟨u,_,rfl⟩:=waysP_mem.1 ((hmem b).1 hb)
  simp only at e
  have:v=u:=by omega
  subst this
  exact hne rfl
 ·unfold byL at hx
  obtain⟨y,hy,rfl⟩:=List.mem_map.1 hx
  obtain⟨v,hv,rfl⟩:=waysP_mem.1 ((hmem y).1 hy)
  simp only
  omega
end
section
open Go Go.RowKit
def spB (nx:Nat→List Int) (n s u t:Nat):Bool:=decide (0≤lev nx n s u∧0≤lev nx n u t∧lev nx n s u+lev nx n u t=lev nx n s t)
theorem spB_iff {nx:Nat→List Int} {n s u t:Nat}:spB nx n s u t=true↔0≤lev nx n s u∧0≤lev nx n u t∧lev nx n s u+lev nx n u t=lev nx n s t:=decide_eq_true_iff
def hubW (nx:Nat→List Int) (n:Nat) (L:List Int) (k s t:Nat):Bool:=decide (0≤lev nx n s t) && (List.range k).all fun i=>!spB nx n s (nth L i).toNat t
theorem hubW_iff {nx:Nat→List Int} {n:Nat} {L:List Int} {k s t:Nat}:hubW nx n L k s t=true↔0≤lev nx n s t∧∀ i,i<k→spB nx n s (nth L i).toNat t=false:=by
 unfold hubW
 rw [Bool.and_eq_true,decide_eq_true_eq,List.all_eq_true]
 simp only [List.mem_range,Bool.not_eq_true']
theorem hubW_no {nx:Nat→List Int} {n:Nat} {L:List Int} {k s t:Nat} (h:hubW nx n L k s t=false) (h0:0≤lev nx n s t):∃ i,i<k∧spB nx n s (nth L i).toNat t=true:=by
 apply Classical.byContradiction;intro hc
 have:hubW nx n L k s t=true:=hubW_iff.2 ⟨h0,fun i hi=>by
  cases e:spB nx n s (nth L i).toNat t with
  | false=>rfl
  | true=>exact absurd ⟨i,hi,e⟩ hc⟩
 rw [h] at this;cases this
def labI (nx:Nat→List Int) (n:Nat) (L:List Int) (k v:Nat):List (Int × Int) :=
 ((List.range k).filter fun i=>hubW nx n L i (nth L i).toNat v).map fun i=>(nth L i,lev nx n (nth L i).toNat v)
theorem labI_step (nx:Nat→List Int) (n:Nat) (L:List Int) (k v:Nat):labI nx n L (k+1) v=if hubW nx n L k (nth L k).toNat v=true then labI nx n L k v ++ [(nth L k,lev nx n (nth L k).toNat v)] else labI nx n L k v:=by
 unfold labI
 rw [List.range_succ,List.filter_append,List.map_append]
 by_cases h:hubW nx n L k (nth L k).toNat v=true
 ·rw [if_pos h];simp [h]
 ·rw [if_neg h];simp [h]
theorem labI_mem {nx:Nat→List Int} {n:Nat} {L:List Int} {k v:Nat} {x:Int × Int}:x∈labI nx n L k v↔∃ i,i<k∧hubW nx n L i (nth L i).toNat v=true∧x=(nth L i,lev nx n (nth L i).toNat v):=by
 unfold labI
 rw [List.mem_map]
 constructor
 ·rintro⟨i,h,rfl⟩
  rw [List.mem_filter,List.mem_range] at h
  exact⟨i,h.1,h.2,rfl⟩
 ·rintro⟨i,h1,h2,rfl⟩
  exact⟨i,List.mem_filter.2 ⟨List.mem_range.2 h1,h2⟩,rfl⟩
def labT (nx:Nat→List Int) (n:Nat) (L:List Int) (k:Nat):SrT:=(List.range n).map fun v=>labI nx n L k v
theorem labT_len (nx:Nat→List Int) (n:Nat) (L:List Int) (k:Nat):(labT nx n L k).length=n:=by simp [labT]
theorem labT_nth {nx:Nat→List Int} {n:Nat} {L:List Int} {k v:Nat} (hv:v<n):nth (labT nx n L k) v=labI nx n L k v:=by
 rw [nth_eq (by rw [labT_len];exact hv)];simp [labT]
theorem ord_lt {L:List Int} {n:Nat} (hL:OrdP L n) {i:Nat} (hi:i<n):(nth L i).toNat<n:=by have:=ord_at hL hi;omega
theorem ord_int {L:List Int} {n:Nat} (hL:OrdP L n) {i:Nat} (hi:i<n):((nth L i).toNat:Int)=nth L i:=by have:=ord_at hL hi;omega
section
variable {nx nb:Nat→List Int} {n:Nat} {L:List Int} (hr:Rev nx nb n) (hL:OrdP L n)
include hr
theorem sp_rev {s u t:Nat} (hs:s<n) (hu:u<n) (ht:t<n):spB nx n s u t=spB nb n t u s:=by
 unfold spB
 rw [lev_rev hr hs hu,lev_rev hr hu ht,lev_rev hr hs ht]
 apply decide_eq_decide.2
 constructor
 ·rintro⟨h1,h2,h3⟩;exact⟨h2,h1,by omega⟩
 ·rintro⟨h1,h2,h3⟩;exact⟨h2,h1,by omega⟩
include hL
theorem hub_rev {k s t:Nat} (hk:k≤n) (hs:s<n) (ht:t<n):hubW nx n L k s t=hubW nb n L k t s:=by
 apply Bool.eq_iff_iff.2
 rw [hubW_iff,hubW_iff,lev_rev hr hs ht]
 constructor
 ·rintro⟨h1,h2⟩;exact⟨h1,fun i hi=>by rw [← sp_rev hr hs (ord_lt hL (by omega)) ht];exact h2 i hi⟩
 ·rintro⟨h1,h2⟩;exact⟨h1,fun i hi=>by rw [sp_rev hr hs (ord_lt hL (by omega)) ht];exact h2 i hi⟩
theorem labO_mem {k v:Nat} (hk:k≤n) (hv:v<n) {x:Int × Int}:x∈labI nb n L k v↔∃ i,i<k∧hubW nx n L i v (nth L i).toNat=true∧x=(nth L i,lev nx n v (nth L i).toNat):=by
 rw [labI_mem]
 constructor
 ·rintro⟨i,h1,h2,rfl⟩
  refine⟨i,h1,?_,?_⟩
  ·rw [hub_rev hr hL (by omega) hv (ord_lt hL (by omega))];exact h2
  ·rw [lev_rev hr hv (ord_lt hL (by omega))]
 ·rintro⟨i,h1,h2,rfl⟩
  refine⟨i,h1,?_,?_⟩
  ·rw [← hub_rev hr hL (by omega) hv (ord_lt hL (by omega))];exact h2
  ·rw [← lev_rev hr hv (ord_lt hL (by omega))]
theorem both_walk {k s t:Nat} (hk:k≤n) (hs:s<n) (ht:t<n) {x:Int} (h:Both (labI nb n L k s) (labI nx n L k t) x) :
  ∃ i,i<k∧hubW nx n L i s (nth L i).toNat=true∧hubW nx n L i (nth L i).toNat t=true∧x=lev nx n s (nth L i).toNat+lev nx n (nth L i).toNat t∧0≤lev nx n s t∧lev nx n s t≤x:=by
 obtain⟨a,ha,b,hb,e,rfl⟩:=h
 obtain⟨i,h1,h2,rfl⟩:=(labO_mem hr hL hk hs).1 ha
 obtain⟨j,h3,h4,rfl⟩:=labI_mem.1 hb
 simp only at e
 obtain rfl:i=j:=ord_inj hL (by omega) (by omega) e
 have t1:=(hubW_iff.1 h2).1
 have t2:=(hubW_iff.1 h4).1
 have t3:=lev_tri hr hs (ord_lt hL (show i<n by omega)) ht t1 t2
 exact⟨i,h1,h2,h4,rfl,t3.1,t3.2⟩
theorem both_of {k s t:Nat} (hk:k≤n) (hs:s<n) (ht:t<n) (h:∃ i,i<k∧spB nx n s (nth L i).toNat t=true):Both (labI nb n L k s) (labI nx n L k t) (lev nx n s t):=by
 obtain⟨i0,hi0,h0⟩:=h
 obtain⟨i,hle,h1,h2⟩:=least_nat (p:=fun i=>spB nx n s (nth L i).toNat t) i0 h0
 obtain⟨a1,a2,a3⟩:=spB_iff.1 h1
 have hu:=ord_lt hL (show i<n by omega)
 refine⟨_,(labO_mem hr hL hk hs).2 ⟨i,by omega,hubW_iff.2 ⟨a1,fun j hj=>?_⟩,rfl⟩,_,labI_mem.2 ⟨i,by omega,hubW_iff.2 ⟨a2,fun j hj=>?_⟩,rfl⟩,rfl,a3.symm⟩
 ·cases e:spB nx n s (nth L j).toNat (nth L i).toNat with
  | false=>rfl
  | true =>
   obtain⟨b1,b2,b3⟩:=spB_iff.1 e
   have hw:=ord_lt hL (show j<n by omega)
   have t1:=lev_tri hr hw hu ht b2 a2
   have t2:=lev_tri hr hs hw ht b1 t1.1
   have:=h2 j hj
   rw [show spB nx n s (nth L j).toNat t=true from spB_iff.2 ⟨b1,t1.1,by omega⟩] at this
   cases this
 ·cases e:spB nx n (nth L i).toNat (nth L j).toNat t with
  | false=>rfl
  | true =>
   obtain⟨b1,b2,b3⟩:=spB_iff.1 e
   have hw:=ord_lt hL (show j<n by omega)
   have t1:=lev_tri hr hs hu hw a1 b1
   have t2:=lev_tri hr hs hw ht t1.1 b2
   have:=h2 j hj
   rw [show spB nx n s (nth L j).toNat t=true from spB_iff.2 ⟨t1.1,b2,by omega⟩] at this
   cases this
theorem label_tells {s t:Nat} (hs:s<n) (ht:t<n):leastV (labI nb n L n s) (labI nx n L n t)=if 0≤lev nx n s t then (lev nx n s t,true) else (0,false):=by
 have h:=leastV_ok (labI nb n L n s) (labI nx n L n t)
 by_cases h0:0≤lev nx n s t
 ·rw [if_pos h0]
  refine h.uniq (D:=fun x=>Both (labI nb n L n s) (labI nx n L n t) x) ⟨fun k=>by simp at k,fun _=>⟨?_,fun x hx=>?_⟩⟩ fun _=>Iff.rfl
  ·refine both_of hr hL (Nat.le_refl _) hs ht ?_
   obtain⟨i,hi,e⟩:=ord_find hL ht
   refine⟨i,hi,spB_iff.2 ?_⟩
   rw [e,Int.toNat_natCast]
   have:=((lev_ok nx n t ht).zero t ht).2 rfl
   omega
  ·obtain⟨i,_,_,_,_,_,h1⟩:=both_walk hr hL (Nat.le_refl _) hs ht hx
   exact h1
 ·rw [if_neg h0]
  refine h.uniq (D:=fun x=>Both (labI nb n L n s) (labI nx n L n t) x) ⟨fun _=>⟨rfl,fun x hx=>?_⟩,fun k=>by simp at k⟩ fun _=>Iff.rfl
  obtain⟨i,_,_,_,_,h1,_⟩:=both_walk hr hL (Nat.le_refl _) hs ht hx
  exact h0 h1
theorem label_search (hin:∀ v,v<n→∀ x∈nx v,∃ w:Nat,x=w∧w<n) {k:Nat} (hk:k<n) :
  SrW nx (fun row d=>nearB (leastV (labI nb n L k (nth L k).toNat) row) d) n (nth L k).toNat (labT nx n L k) (fun v=>hubW nx n L k (nth L k).toNat v) (lev nx n (nth L k).toNat):=by
 have hh:=ord_lt hL hk
 have lo:=lev_ok nx n (nth L k).toNat hh
 refine⟨hh,labT_len _ _ _ _,lo,hin,fun v hv hg=>?_,fun v d hv hg h0 hd=>?_,fun v hv hg=>(hubW_iff.1 hg).1,fun v hv hg h0=>?_⟩
 ·show nearB (leastV _ (nth (labT nx n L k) v)) _=false
  rw [labT_nth hv]
  refine nearB_no (leastV_ok _ _) fun x hx=>?_
  obtain⟨i,h1,h2,h3,rfl,h5,h6⟩:=both_walk hr hL (by omega) hh hv hx
  have:=(hubW_iff.1 hg).2 i h1
  have a1:=(hubW_iff.1 h2).1
  have a2:=(hubW_iff.1 h3).1
  rcases Int.lt_or_eq_of_le h6 with h | h
  ·exact h
  ·rw [show spB nx n (nth L k).toNat (nth L i).toNat v=true from spB_iff.2 ⟨a1,a2,h.symm⟩] at this;cases this
 ·show nearB (leastV _ (nth (labT nx n L k) v)) _=true
  rw [labT_nth hv]
  exact nearB_yes (leastV_ok _ _) (both_of hr hL (by omega) hh hv (hubW_no hg h0)) hd
 ·obtain⟨u,hu,h1,h2⟩:=lo.pred v hv h0
  obtain⟨g1,g2⟩:=hubW_iff.1 hg
  refine⟨u,hu,hubW_iff.2 ⟨by omega,fun i hi=>?_⟩,h1,h2⟩
  cases e:spB nx n (nth L k).toNat (nth L i).toNat u with
  | false=>rfl
  | true =>
   obtain⟨b1,b2,b3⟩:=spB_iff.1 e
   have hw:=ord_lt hL (show i<n by omega)
   have t1:=(lev_ok nx n (nth L i).toNat hw).next u v hu hv h2 b2
   have t2:=lev_tri hr hh hw hv b1 t1.1
   have:=g2 i hi
   rw [show spB nx n (nth L k).toNat (nth L i).toNat v=true from spB_iff.2 ⟨b1,t1.1,by omega⟩] at this
   cases this
omit hr in
theorem label_step {k:Nat} (hk:k<n):((List.range n).map fun v=>toldW (nth L k).toNat (labT nx n L k) (fun v=>hubW nx n L k (nth L k).toNat v) (lev nx n (nth L k).toNat) v)=labT nx n L (k+1):=by
 unfold labT
 refine List.map_congr_left fun v hv=>?_
 have hv':=List.mem_range.1 hv
 unfold toldW
 have:=labT_nth (nx:=nx) (L:=L) (k:=k) hv'
 unfold labT at this
 rw [this,labI_step,ord_int hL hk]
end
end
section
open Go Go.RowKit
def SmH (X:List (Int × Int)):Prop:=∀ x∈X,0≤x.2∧x.2≤1000
theorem LeastG (p : Option Addr) (n c : Nat) (X : List (Int × Int)) (q : Option Addr) (m d : Nat) (Y : List (Int × Int)) (w : World) (hX : Rd w 2 p n (encE X)) (hY : Rd w 2 q m (encE Y)) (bX : SmH X) (bY : SmH Y) :
    Calls Tryz.prog 90 #[.slice p n c, .slice q m d] w fun e w' => e = .returned (.tuple #[.int .i64 (leastV X Y).1, .bool (leastV X Y).2]) ∧ Ext w w' := by
  have p1 := hX.ptr
  have p2 := hY.ptr
  have n1 := hX.small
  have n2 := hY.small
  have L1 := Lib.hid hX.nE
  have L2 := Lib.hid hY.nE
  have HBX := Lib.hid bX
  have HBY := Lib.hid bY
  clear bX bY
  have HX := Lib.hid hX; clear hX
  have HY := Lib.hid hY; clear hY
  go_enter Tryz.func90, Tryz.ntmps90
  go_wp2
  go_loopw [6, 7, 9, 11, 14] (fun v6 v7 _ _ i wr => ∃ k : Nat, k ≤ n ∧ i = .int .i64 k ∧ v6 = .int .i64 (leastV (X.take k) Y).1 ∧ v7 = .bool (leastV (X.take k) Y).2 ∧ Ext w wr) (fun _ _ _ _ i _ => n - (intOf i).toNat)
  case atStart => exact ⟨0, Nat.zero_le _, rfl, rfl, rfl, Below.refl _ _⟩
  case round =>
    obtain ⟨k, hk, rfl, rfl, rfl, hE⟩ := hrel
    by_cases hlt : k < n
    · have hkX : k < X.length := by rw [← L1.out]; exact hlt
      have g1 := hE.cell (HX.out.cE hlt)
      have g2 := hE.cell (HX.out.cE2 hlt)
      have HST := Lib.hid (leastV_snoc (X.take k) Y (nth X k))
      rw [← take_succ_nth X k hkX] at HST
      have HXB := Lib.hid (HBX.out _ (nth_mem hkX))
      obtain ⟨acc, hacc⟩ : ∃ acc, leastV (X.take k) Y = acc := ⟨_, rfl⟩
      rw [hacc] at HST ⊢
      obtain ⟨x, hx⟩ : ∃ x, nth X k = x := ⟨_, rfl⟩
      rw [hx] at HST HXB g1 g2
      clear hacc hx
      have HN : Hid (leastV (X.take (k + 1)) Y = leastR acc x Y) := HST.out
      have S1 := Lib.hid (((Sep.start w).call hE).al #[.int .i64 x.1, .int .i64 x.2] 105 wr.heap.size rfl)
      have HE := Lib.hid hE; clear hE
      go_wp2
      go_loopw [6, 7, 11, 20] (fun v6 v7 _ i wx => ∃ j : Nat, j ≤ m ∧ i = .int .i64 j ∧ v6 = .int .i64 (leastR acc x (Y.take j)).1 ∧ v7 = .bool (leastR acc x (Y.take j)).2 ∧ Sep w wx [.blk wr.heap.size 105 #[.int .i64 x.1, .int .i64 x.2]]) (fun _ _ _ i _ => m - (intOf i).toNat)
      case atStart => exact ⟨0, Nat.zero_le _, rfl, rfl, rfl, S1.out⟩
      case round =>
        clear S1 HE
        obtain ⟨j, hj, rfl, rfl, rfl, S⟩ := hrel
        have b0 := (S.blk 0 rfl).cell 0
        have b1 := (S.blk 0 rfl).cell 1
        have bz := (S.blk 0 rfl).lt
        by_cases hlj : j < m
        · have hjY : j < Y.length := by rw [← L2.out]; exact hlj
          have g3 := S.ext.cell (HY.out.cE hlj)
          have g4 := S.ext.cell (HY.out.cE2 hlj)
          have hst := leastR_snoc acc x (Y.take j) (nth Y j)
          rw [← take_succ_nth Y j hjY] at hst
          have hyb := HBY.out _ (nth_mem hjY)
          have hxb := HXB.out
          generalize leastR acc x (Y.take j) = r at *
          generalize nth Y j = y at *
          obtain ⟨rn, rk⟩ := r
          obtain ⟨x1, x2⟩ := x
          obtain ⟨y1, y2⟩ := y
          unfold leastS at hst
          simp only at *
          have S2 := Lib.hid (S.junk (.cells #[.int .i64 y1, .int .i64 y2] 105))
          clear S
          by_cases e1 : x1 = y1
          · have f1 : (x1 == y1) = true := by simpa using e1
            cases rk with
            | false =>
              rw [if_pos ⟨e1, .inl rfl⟩] at hst
              have HS := Lib.hid hst
              clear hst
              subst e1
              go_wp2
              go_roundw
              case rel => exact ⟨j + 1, by omega, by go_num, by rw [HS.out], by rw [HS.out], S2.out⟩
              case measure => simp [intOf]; omega
            | true =>
              by_cases e2 : x2 + y2 < rn
              · have f2 : decide (x2 + y2 < rn) = true := by simpa using e2
                rw [if_pos ⟨e1, .inr e2⟩] at hst
                have HS := Lib.hid hst
                clear hst e2
                subst e1
                go_wp2
                go_roundw
                case rel => exact ⟨j + 1, by omega, by go_num, by rw [HS.out], by rw [HS.out], S2.out⟩
                case measure => simp [intOf]; omega
              · have f2 : decide (x2 + y2 < rn) = false := by simpa using e2
                rw [if_neg (by rintro ⟨_, h | h⟩; · cases h
                               · exact e2 h)] at hst
                have HS := Lib.hid hst
                clear hst e2
                subst e1
                go_wp2
                go_roundw
                case rel => exact ⟨j + 1, by omega, by go_num, by rw [HS.out], by rw [HS.out], S2.out⟩
                case measure => simp [intOf]; omega
          · have f1 : (x1 == y1) = false := by simpa using e1
            rw [if_neg fun h => e1 h.1] at hst
            have HS := Lib.hid hst
            clear hst e1
            go_wp2
            go_roundw
            case rel => exact ⟨j + 1, by omega, by go_num, by rw [HS.out], by rw [HS.out], S2.out⟩
            case measure => simp [intOf]; omega
        · obtain rfl : j = m := by omega
          rw [List.take_of_length_le (by rw [← L2.out]; exact Nat.le_refl _), ← HN.out]
          have HE := Lib.hid S.ext
          clear S b0 b1 bz
          go_wp2
          go_roundw
          case rel => exact ⟨k + 1, by omega, by go_num, rfl, rfl, HE.out⟩
          case measure => simp [intOf]; omega
    · obtain rfl : k = n := by omega
      rw [List.take_of_length_le (by rw [← L1.out]; exact Nat.le_refl _)]
      have HE := Lib.hid hE; clear hE
      go_wp2
      go_ret2
      exact ⟨rfl, HE.out⟩
theorem next1G (po:Option Addr) (no co:Nat) (O:List Int) (pt:Option Addr) (nt ct:Nat) (T:List Int) (pr:Option Addr) (nr cr:Nat) (R:List Int) (pv:Option Addr) (nv cv:Nat) (V:List Int) (gr k:Nat) (w:World) (hO:Rd w 1 po no (encI O)) (hT:Rd w 1 pt nt (encI T)) (hok:OffOk O T) (hct:nt≤ct) (hk1:k+1<O.length) (hB:Blk w gr 27 #[.slice po no co,.slice pt nt ct,.slice pr nr cr,.slice pv nv cv]) :
  Calls Tryz.prog 84 #[.int .i64 k,.pointer (some ⟨gr,0,none⟩)] w fun e w'=>e=.returned (.slice (cutp pt ct (nth O k).toNat 1) (rowL O T k).length (ct - (nth O k).toNat))∧Ext w w':=by
 have _u:=(O,T,R,V)
 clear _u
 have na1:=hO.small
 have l1:=hO.nI
 have l2:=hT.nI
 have pA:=hO.ptr
 have q1:=hok.lo k (by omega)
 have q2:=hok.le k hk1
 have q3:=hok.hi (k+1) hk1
 have hrl:=rowL_len hok hk1
 have RL0:=hT.rowOf hok hct hk1
 have g1:=hO.cI (k:=k) (by omega)
 have g2:=hO.cI (k:=k+1) (by omega)
 have b0:=hB.cell 0
 have b1:=hB.cell 1
 have b2:=hB.cell 2
 have b3:=hB.cell 3
 have bz:=hB.lt
 obtain⟨a,ha⟩:∃ a:Nat,nth O k=(a:Int):=⟨(nth O k).toNat,by omega⟩
 obtain⟨c,hc⟩:∃ c:Nat,nth O (k+1)=(c:Int):=⟨(nth O (k+1)).toNat,by omega⟩
 rw [ha] at q1 q2 hrl RL0 g1
 rw [hc] at q2 q3 hrl RL0 g2
 simp only [Int.toNat_natCast] at hrl RL0
 have hq3:(c:Int)≤ct:=by omega
 have d1:(0:Int)≤k:=by omega
 have d2:(k:Int)<no:=by omega
 have d3:(0:Int)≤(k:Int)+1:=by omega
 have d4:(k:Int)+1<no:=by omega
 have RL:=Lib.hid RL0
 rw [hrl,ha,Int.toNat_natCast]
 clear hO hT hok ha hc hrl RL0 l1 l2 q3 hk1 hB
 go_enter Tryz.func84,Tryz.ntmps84
 go_wp2
 have y0:=fun x:ExtOf w=>x.ext.cell b0
 have y1:=fun x:ExtOf w=>x.ext.cell b1
 have y2:=fun x:ExtOf w=>x.ext.cell b2
 have y3:=fun x:ExtOf w=>x.ext.cell b3
 have x1:=fun x:ExtOf w=>x.ext.cell g1
 have x2:=fun x:ExtOf w=>x.ext.cell g2
 refine wp_region_ext (by kernel_rfl) (by kernel_rfl) ?_
 repeat (go_big_quiet_step ((fail)))
 refine wpQuiet_nil ?_
 rintro w1 ⟨⟨_,hb1⟩,rfl⟩
 go_wp2
 go_ret
 exact⟨rfl,hb1⟩
theorem next3G (po:Option Addr) (no co:Nat) (O:List Int) (pt:Option Addr) (nt ct:Nat) (T:List Int) (pr:Option Addr) (nr cr:Nat) (R:List Int) (pv:Option Addr) (nv cv:Nat) (V:List Int) (gr k:Nat) (w:World) (hO:Rd w 1 pr nr (encI R)) (hT:Rd w 1 pv nv (encI V)) (hok:OffOk R V) (hct:nv≤cv) (hk1:k+1<R.length) (hB:Blk w gr 27 #[.slice po no co,.slice pt nt ct,.slice pr nr cr,.slice pv nv cv]) :
  Calls Tryz.prog 86 #[.int .i64 k,.pointer (some ⟨gr,0,none⟩)] w fun e w'=>e=.returned (.slice (cutp pv cv (nth R k).toNat 1) (rowL R V k).length (cv - (nth R k).toNat))∧Ext w w':=by
 have _u:=(O,T,R,V)
 clear _u
 have na1:=hO.small
 have l1:=hO.nI
 have l2:=hT.nI
 have pA:=hO.ptr
 have q1:=hok.lo k (by omega)
 have q2:=hok.le k hk1
 have q3:=hok.hi (k+1) hk1
 have hrl:=rowL_len hok hk1
 have RL0:=hT.rowOf hok hct hk1
 have g1:=hO.cI (k:=k) (by omega)
 have g2:=hO.cI (k:=k+1) (by omega)
 have b0:=hB.cell 0
 have b1:=hB.cell 1
 have b2:=hB.cell 2
 have b3:=hB.cell 3
 have bz:=hB.lt
 obtain⟨a,ha⟩:∃ a:Nat,nth R k=(a:Int):=⟨(nth R k).toNat,by omega⟩
 obtain⟨c,hc⟩:∃ c:Nat,nth R (k+1)=(c:Int):=⟨(nth R (k+1)).toNat,by omega⟩
 rw [ha] at q1 q2 hrl RL0 g1
 rw [hc] at q2 q3 hrl RL0 g2
 simp only [Int.toNat_natCast] at hrl RL0
 have hq3:(c:Int)≤cv:=by omega
 have d1:(0:Int)≤k:=by omega
 have d2:(k:Int)<nr:=by omega
 have d3:(0:Int)≤(k:Int)+1:=by omega
 have d4:(k:Int)+1<nr:=by omega
 have RL:=Lib.hid RL0
 rw [hrl,ha,Int.toNat_natCast]
 clear hO hT hok ha hc hrl RL0 l1 l2 q3 hk1 hB
 go_enter Tryz.func86,Tryz.ntmps86
 go_wp2
 have y0:=fun x:ExtOf w=>x.ext.cell b0
 have y1:=fun x:ExtOf w=>x.ext.cell b1
 have y2:=fun x:ExtOf w=>x.ext.cell b2
 have y3:=fun x:ExtOf w=>x.ext.cell b3
 have x1:=fun x:ExtOf w=>x.ext.cell g1
 have x2:=fun x:ExtOf w=>x.ext.cell g2
 refine wp_region_ext (by kernel_rfl) (by kernel_rfl) ?_
 repeat (go_big_quiet_step ((fail)))
 refine wpQuiet_nil ?_
 rintro w1 ⟨⟨_,hb1⟩,rfl⟩
 go_wp2
 go_ret
 exact⟨rfl,hb1⟩
theorem next1Gr (po:Option Addr) (no co:Nat) (O:List Int) (pt:Option Addr) (nt ct:Nat) (T:List Int) (pr:Option Addr) (nr cr:Nat) (R:List Int) (pv:Option Addr) (nv cv:Nat) (V:List Int) (gr k:Nat) (w:World) (hO:Rd w 1 po no (encI O)) (hT:Rd w 1 pt nt (encI T)) (hok:OffOk O T) (hct:nt≤ct) (hk1:k+1<O.length) (hB:Blk w gr 27 #[.slice po no co,.slice pt nt ct,.slice pr nr cr,.slice pv nv cv]) :
  ∃ q c,Rd w 1 q (rowL O T k).length (encI (rowL O T k))∧∀ W,Ext w W→Calls Tryz.prog 84 #[.int .i64 k,.pointer (some ⟨gr,0,none⟩)] W fun e w'=>e=.returned (.slice q (rowL O T k).length c)∧Ext W w':=by
 refine⟨_,_,?_,fun W h=>next1G po no co O pt nt ct T pr nr cr R pv nv cv V gr k W (hO.ext h) (hT.ext h) hok hct hk1 (hB.ext h)⟩
 have:=hT.rowOf hok hct hk1
 rw [← rowL_len hok hk1] at this
 exact this
theorem next3Gr (po:Option Addr) (no co:Nat) (O:List Int) (pt:Option Addr) (nt ct:Nat) (T:List Int) (pr:Option Addr) (nr cr:Nat) (R:List Int) (pv:Option Addr) (nv cv:Nat) (V:List Int) (gr k:Nat) (w:World) (hO:Rd w 1 pr nr (encI R)) (hT:Rd w 1 pv nv (encI V)) (hok:OffOk R V) (hct:nv≤cv) (hk1:k+1<R.length) (hB:Blk w gr 27 #[.slice po no co,.slice pt nt ct,.slice pr nr cr,.slice pv nv cv]) :
  ∃ q c,Rd w 1 q (rowL R V k).length (encI (rowL R V k))∧∀ W,Ext w W→Calls Tryz.prog 86 #[.int .i64 k,.pointer (some ⟨gr,0,none⟩)] W fun e w'=>e=.returned (.slice q (rowL R V k).length c)∧Ext W w':=by
 refine⟨_,_,?_,fun W h=>next3G po no co O pt nt ct T pr nr cr R pv nv cv V gr k W (hO.ext h) (hT.ext h) hok hct hk1 (hB.ext h)⟩
 have:=hT.rowOf hok hct hk1
 rw [← rowL_len hok hk1] at this
 exact this
end
section
open Go Go.RowKit
attribute [local go_sem ↓] Go.wp_at_zero Go.wp_at_succ
theorem infHit:((Tryz.prog).info? 105).map (fun i=>(i.zero,i.size,i.bytes))=some (some (.agg #[.int .i64 0,.int .i64 0]),2,16):=by kernel_rfl
theorem encH_set (l:List Hd) (k:Nat) (p:Option Addr) (n c:Nat):(encH l).set k (.slice p n c)=encH (l.set k ⟨p,n,c⟩):=by simp [encH,List.map_set,Hd.v]
theorem AddI (gl:Nat) (pO:Option Addr) (nO cO:Nat) (pI:Option Addr) (n cI:Nat) (hs:List Hd) (row:List (Int × Int)) (v:Nat) (x:Int × Int) (w w0:World) (Γ:List Pc) (j0 j1 j2:Nat) (S:Sep w0 w Γ)
  (h0:Γ[j0]?=some (.blk gl 67 #[.slice pO nO cO,.slice pI n cI])) (h1:Γ[j1]?=some (.own 32 1 pI n cI (encH hs))) (h2:Γ[j2]?=some (.ownS 105 2 (nth hs v).p (nth hs v).n (nth hs v).c (encE row) (nth hs v).p (nth hs v).n (encE row))) (hne:j1≠j2) (hne0:j0≠j2) (hne1:j0≠j1) (hv:v<n) (hn:n≤1000) (hr:row.length≤1000) :
  Calls Tryz.prog 85 #[.int .i64 v,.agg #[.int .i64 x.1,.int .i64 x.2],.pointer (some ⟨gl,0,none⟩)] w fun e w'=>e=.returned (.tuple #[])∧∃ p' c',Sep w0 w' ((Γ.set j2 (.ownS 105 2 p' (row.length+1) c' (encE (row ++ [x])) (nth hs v).p row.length (encE row))).set j1 (.own 32 1 pI n cI (encH (hs.set v ⟨p',row.length+1,c'⟩)))):=by
 obtain⟨i0,hi0,hz0,hz1,hz2⟩:=info_parts infHit
 have hR:=Rd.of_own (S.ownS j2 h2).1 (own_sm (S.ownS j2 h2).1)
 have hrl:(nth hs v).n=row.length:=hR.nE
 have p1:=(S.rdx j1 h1).ptr
 have d1:(0:Int)≤v:=by omega
 have d2:(v:Int)<n:=by omega
 have HNE:=Lib.hid hne
 have HNE0:=Lib.hid hne0
 have HNE1:=Lib.hid hne1
 have HV:=Lib.hid hv
 obtain⟨h,hh⟩:∃ h,nth hs v=h:=⟨_,rfl⟩
 rw [hh] at h2 hrl ⊢
 have HH:=Lib.hid hh
 clear hh hR hne hv hne0 hne1
 obtain⟨hp,hn',hc⟩:=h
 obtain⟨x1,x2⟩:=x
 simp only at hrl h2
 subst hrl
 simp only
 have H0:=Lib.hid h0
 have H1:=Lib.hid h1
 have H2:=Lib.hid h2
 have S1:=Lib.hid (S.al #[.int .i64 x1,.int .i64 x2] 105 w.heap.size rfl)
 obtain⟨a0,a1,az⟩:=bkc0c1l (S1.out.blk 0 rfl)
 obtain⟨b0,b1,bz⟩:=bkc0c1l (S1.out.blk (j0+1) h0)
 have g1:=(S1.out.rdx (j1+1) h1).cH HV.out
 rw [HH.out] at g1
 clear S h0 h1 h2
 go_enter Tryz.func85,Tryz.ntmps85
 go_wp2
 obtain⟨w1,hw1⟩:∃ w1,w.alloc (.cells #[.int .i64 x1,.int .i64 x2] 105)=w1:=⟨_,rfl⟩
 rw [hw1] at S1 a0 a1 az b0 b1 bz g1 ⊢
 clear hw1
 have S4:=Lib.hid (S1.out.alrw #[.int .i64 x1,.int .i64 x2] 105 2 1 w1.heap.size rfl (by decide) rfl).drew
 obtain⟨q',c',w7,hrun,S'⟩:=S4.out.appendedS (j2+2) 32 32 105 i0 _ 2 16 Tryz.underlying32 hi0 hz0 hz1 hz2 rfl (by omega) hp row.length hc (encE row) H2.out (some ⟨w1.heap.size,0,none⟩) 1 1 (encE [(x1,x2)]) (S4.out.rdx 0 rfl) (one_encE _) (by omega) (by omega) Nat.one_pos
 have hb7:=two_set (p0:=Pc.own 105 2 (some ⟨w1.heap.size,0,none⟩) 1 1 [.int .i64 x1,.int .i64 x2]) (p1:=Pc.blk w.heap.size 105 #[.int .i64 x1,.int .i64 x2]) (a:=Pc.ownS 105 2 q' (row.length+1) c' (encE row ++ encE [(x1,x2)]) hp row.length (encE row)) (fun e=>HNE0.out e.symm) H0.out
 have hi7:=two_set (p0:=Pc.own 105 2 (some ⟨w1.heap.size,0,none⟩) 1 1 [.int .i64 x1,.int .i64 x2]) (p1:=Pc.blk w.heap.size 105 #[.int .i64 x1,.int .i64 x2]) (a:=Pc.ownS 105 2 q' (row.length+1) c' (encE row ++ encE [(x1,x2)]) hp row.length (encE row)) (fun e=>HNE.out e.symm) H1.out
 obtain⟨kz,ka1⟩:=bkc0c1 (S'.blk 1 rfl)
 obtain⟨kb0,kb1⟩:=bkc0c1 (S'.blk (j0+2) hb7)
 have kfz:=own_frozen (S'.own (j1+2) hi7) (by have:=HV.out;omega) v
 have kg1:=(S'.rdx (j1+2) hi7).cH HV.out
 rw [HH.out] at kg1
 have HI7:=Lib.hid hi7
 have T:=S'.setRow (j1+2) HI7.out v (by have:=HV.out;omega) (.slice q' (row.length+1) c')
 rw [encH_set] at T
 have hb8:=(List.getElem?_set_ne (a:=Pc.own 32 1 pI n cI (encH (hs.set v ⟨q',row.length+1,c'⟩))) (show j1+2≠j0+2 by have:=HNE1.out;omega)).trans hb7
 obtain⟨ta0,ta1⟩:=bkc0c1 (T.blk 1 rfl)
 obtain⟨tb0,tb1⟩:=bkc0c1 (T.blk (j0+2) hb8)
 have g4:=(S4.out.rdx (j1+2) H1.out).cH HV.out
 rw [HH.out] at g4
 have TF:=Lib.hid T
 clear S' hb7 hb8 hi7 T HNE HNE0 HNE1 H0 H1 H2 HI7 S4
 simp at kz ka1 kb0 kb1 ta0 ta1 tb0 tb1 a0 a1 b0 b1
 have gb:=World.block_lt_of_cell? w1 _ g1
 simp only at kg1 g4
 refine wp_region_held_drew (S:=fun w'=>w'.cell? ⟨w.heap.size,0,none⟩=some (.int .i64 x1)∧w'.cell? ⟨w.heap.size,1,none⟩=some (.int .i64 x2)∧w'.cell? ⟨gl,0,none⟩=some (.slice pO nO cO)∧w'.cell? ⟨gl,1,none⟩=some (.slice pI n cI)) (by kernel_rfl) (by(try dsimp only);go_keep) (fun hHeld=>?_)
 refine wpAnyH_take (i:=0) (v:=.pointer (some ⟨gl,1,none⟩)) rfl (by kernel_rfl) (by kernel_rfl) (by kernel_rfl) (fun _ _ _ h=>h) (Or.inl ⟨by rfl,fun W hSw=>by obtain⟨h1,h2,h3,h4⟩:=hSw;go_simp⟩) hHeld ?_
 refine wpAnyH_take (i:=1) (v:=.slice pI n cI) rfl (by kernel_rfl) (by kernel_rfl) (by kernel_rfl) (fun _ _ _ h=>h) (Or.inl ⟨by rfl,fun W hSw=>by obtain⟨h1,h2,h3,h4⟩:=hSw;go_simp⟩) hHeld ?_
 refine wpAnyH_take (i:=2) (v:=.int .i64 v) rfl (by kernel_rfl) (by kernel_rfl) (by kernel_rfl) (fun _ _ _ h=>h) (Or.inl ⟨by rfl,fun W hSw=>by obtain⟨h1,h2,h3,h4⟩:=hSw;go_simp⟩) hHeld ?_
 refine wpAnyH_take (i:=3) (v:=.pointer (some ⟨gl,1,none⟩)) rfl (by kernel_rfl) (by kernel_rfl) (by kernel_rfl) (fun _ _ _ h=>h) (Or.inl ⟨by rfl,fun W hSw=>by obtain⟨h1,h2,h3,h4⟩:=hSw;go_simp⟩) hHeld ?_
 refine wpAnyH_take (i:=4) (v:=.slice pI n cI) rfl (by kernel_rfl) (by kernel_rfl) (by kernel_rfl) (fun _ _ _ h=>h) (Or.inl ⟨by rfl,fun W hSw=>by obtain⟨h1,h2,h3,h4⟩:=hSw;go_simp⟩) hHeld ?_
 refine wpAnyH_take (i:=5) (v:=.int .i64 v) rfl (by kernel_rfl) (by kernel_rfl) (by kernel_rfl) (fun _ _ _ h=>h) (Or.inl ⟨by rfl,fun W hSw=>by obtain⟨h1,h2,h3,h4⟩:=hSw;go_simp⟩) hHeld ?_
 refine wpAnyH_take (i:=6) (v:=.pointer (some (adr pI v))) rfl (by kernel_rfl) (by kernel_rfl) (by kernel_rfl) (fun _ _ _ h=>h) (Or.inl ⟨by rfl,fun W hSw=>by obtain⟨h1,h2,h3,h4⟩:=hSw;go_simp⟩) hHeld ?_
 refine wpAnyH_take (i:=8) (v:=.agg #[.int .i64 x1,.int .i64 x2]) rfl (by kernel_rfl) (by kernel_rfl) (by kernel_rfl) (fun _ _ _ h=>h) (Or.inl ⟨by rfl,fun W hSw=>by obtain⟨h1,h2,h3,h4⟩:=hSw;go_simp⟩) hHeld ?_
 refine wpAnyH_ready (rs:=[7,9]) (by kernel_rfl) (by simp) (AllReadyH.cons rfl (fun K hK=>?_) (AllReadyH.cons rfl (fun K hK=>?_) AllReadyH.nil))
 ·go_simp
  refine hK.out _ _ hHeld (fun hHeld=>?_)
  clear hK
  refine wpAnyH_ready (rs:=[9]) (by kernel_rfl) (by simp) (AllReadyH.cons rfl (fun K hK=>?_) AllReadyH.nil)
  go_simp
  refine hK.out _ _ (by((try dsimp only);go_keep)) (fun hHeld=>?_)
  clear hK
  refine wpAnyH_ready (rs:=[10]) (by kernel_rfl) (by simp) (AllReadyH.cons rfl (fun K hK=>?_) AllReadyH.nil)
  rw [if_pos (by rfl)]
  refine operwp_append (.tmp 12) (.tmp 14) 32 (by rfl) (by rfl) (by rfl) hrun ?_
  refine hK.out _ _ ⟨kz,ka1,kb0,kb1⟩ (fun hHeld=>?_)
  clear hK
  refine wpAnyH_ready (rs:=[11]) (by kernel_rfl) (by simp) (AllReadyH.cons rfl (fun K hK=>?_) AllReadyH.nil)
  go_simp
  refine hK.out _ _ (by(exact⟨kz,ka1,kb0,kb1⟩)) (fun hHeld=>?_)
  clear hK
  refine wpAnyH_ready (rs:=[12]) (by kernel_rfl) (by simp) (AllReadyH.cons rfl (fun K hK=>?_) AllReadyH.nil)
  go_simp
  refine hK.out _ _ (by(exact⟨ta0,ta1,tb0,tb1⟩)) (fun hHeld=>?_)
  clear hK
  refine wpAnyH_done (by kernel_rfl) ?_ _
  go_end0
  refine⟨rfl,q',c',?_⟩
  rw [encE_append]
  exact TF.out.sub ((List.sublist_cons_self _ _).trans (List.sublist_cons_self _ _))
 ·go_simp
  refine hK.out _ _ (by(try dsimp only);go_keep) (fun hHeld=>?_)
  clear hK
  refine wpAnyH_ready (rs:=[7]) (by kernel_rfl) (by simp) (AllReadyH.cons rfl (fun K hK=>?_) AllReadyH.nil)
  go_simp
  refine hK.out _ _ (by(exact hHeld)) (fun hHeld=>?_)
  clear hK
  refine wpAnyH_ready (rs:=[10]) (by kernel_rfl) (by simp) (AllReadyH.cons rfl (fun K hK=>?_) AllReadyH.nil)
  rw [if_pos (by rfl)]
  refine operwp_append (.tmp 12) (.tmp 14) 32 (by rfl) (by rfl) (by rfl) hrun ?_
  refine hK.out _ _ ⟨kz,ka1,kb0,kb1⟩ (fun hHeld=>?_)
  clear hK
  refine wpAnyH_ready (rs:=[11]) (by kernel_rfl) (by simp) (AllReadyH.cons rfl (fun K hK=>?_) AllReadyH.nil)
  go_simp
  refine hK.out _ _ (by(exact⟨kz,ka1,kb0,kb1⟩)) (fun hHeld=>?_)
  clear hK
  refine wpAnyH_ready (rs:=[12]) (by kernel_rfl) (by simp) (AllReadyH.cons rfl (fun K hK=>?_) AllReadyH.nil)
  go_simp
  refine hK.out _ _ (by(exact⟨ta0,ta1,tb0,tb1⟩)) (fun hHeld=>?_)
  clear hK
  refine wpAnyH_done (by kernel_rfl) ?_ _
  go_end0
  refine⟨rfl,q',c',?_⟩
  rw [encE_append]
  exact TF.out.sub ((List.sublist_cons_self _ _).trans (List.sublist_cons_self _ _))
theorem AddO (gl:Nat) (pO:Option Addr) (nO cO:Nat) (pI:Option Addr) (n cI:Nat) (hs:List Hd) (row:List (Int × Int)) (v:Nat) (x:Int × Int) (w w0:World) (Γ:List Pc) (j0 j1 j2:Nat) (S:Sep w0 w Γ)
  (h0:Γ[j0]?=some (.blk gl 67 #[.slice pI n cI,.slice pO nO cO])) (h1:Γ[j1]?=some (.own 32 1 pI n cI (encH hs))) (h2:Γ[j2]?=some (.ownS 105 2 (nth hs v).p (nth hs v).n (nth hs v).c (encE row) (nth hs v).p (nth hs v).n (encE row))) (hne:j1≠j2) (hne0:j0≠j2) (hne1:j0≠j1) (hv:v<n) (hn:n≤1000) (hr:row.length≤1000) :
  Calls Tryz.prog 87 #[.int .i64 v,.agg #[.int .i64 x.1,.int .i64 x.2],.pointer (some ⟨gl,0,none⟩)] w fun e w'=>e=.returned (.tuple #[])∧∃ p' c',Sep w0 w' ((Γ.set j2 (.ownS 105 2 p' (row.length+1) c' (encE (row ++ [x])) (nth hs v).p row.length (encE row))).set j1 (.own 32 1 pI n cI (encH (hs.set v ⟨p',row.length+1,c'⟩)))):=by
 obtain⟨i0,hi0,hz0,hz1,hz2⟩:=info_parts infHit
 have hR:=Rd.of_own (S.ownS j2 h2).1 (own_sm (S.ownS j2 h2).1)
 have hrl:(nth hs v).n=row.length:=hR.nE
 have p1:=(S.rdx j1 h1).ptr
 have d1:(0:Int)≤v:=by omega
 have d2:(v:Int)<n:=by omega
 have HNE:=Lib.hid hne
 have HNE0:=Lib.hid hne0
 have HNE1:=Lib.hid hne1
 have HV:=Lib.hid hv
 obtain⟨h,hh⟩:∃ h,nth hs v=h:=⟨_,rfl⟩
 rw [hh] at h2 hrl ⊢
 have HH:=Lib.hid hh
 clear hh hR hne hv hne0 hne1
 obtain⟨hp,hn',hc⟩:=h
 obtain⟨x1,x2⟩:=x
 simp only at hrl h2
 subst hrl
 simp only
 have H0:=Lib.hid h0
 have H1:=Lib.hid h1
 have H2:=Lib.hid h2
 have S1:=Lib.hid (S.al #[.int .i64 x1,.int .i64 x2] 105 w.heap.size rfl)
 obtain⟨a0,a1,az⟩:=bkc0c1l (S1.out.blk 0 rfl)
 obtain⟨b0,b1,bz⟩:=bkc0c1l (S1.out.blk (j0+1) h0)
 have g1:=(S1.out.rdx (j1+1) h1).cH HV.out
 rw [HH.out] at g1
 clear S h0 h1 h2
 go_enter Tryz.func87,Tryz.ntmps87
 go_wp2
 obtain⟨w1,hw1⟩:∃ w1,w.alloc (.cells #[.int .i64 x1,.int .i64 x2] 105)=w1:=⟨_,rfl⟩
 rw [hw1] at S1 a0 a1 az b0 b1 bz g1 ⊢
 clear hw1
 have S4:=Lib.hid (S1.out.alrw #[.int .i64 x1,.int .i64 x2] 105 2 1 w1.heap.size rfl (by decide) rfl).drew
 obtain⟨q',c',w7,hrun,S'⟩:=S4.out.appendedS (j2+2) 32 32 105 i0 _ 2 16 Tryz.underlying32 hi0 hz0 hz1 hz2 rfl (by omega) hp row.length hc (encE row) H2.out (some ⟨w1.heap.size,0,none⟩) 1 1 (encE [(x1,x2)]) (S4.out.rdx 0 rfl) (one_encE _) (by omega) (by omega) Nat.one_pos
 have hb7:=two_set (p0:=Pc.own 105 2 (some ⟨w1.heap.size,0,none⟩) 1 1 [.int .i64 x1,.int .i64 x2]) (p1:=Pc.blk w.heap.size 105 #[.int .i64 x1,.int .i64 x2]) (a:=Pc.ownS 105 2 q' (row.length+1) c' (encE row ++ encE [(x1,x2)]) hp row.length (encE row)) (fun e=>HNE0.out e.symm) H0.out
 have hi7:=two_set (p0:=Pc.own 105 2 (some ⟨w1.heap.size,0,none⟩) 1 1 [.int .i64 x1,.int .i64 x2]) (p1:=Pc.blk w.heap.size 105 #[.int .i64 x1,.int .i64 x2]) (a:=Pc.ownS 105 2 q' (row.length+1) c' (encE row ++ encE [(x1,x2)]) hp row.length (encE row)) (fun e=>HNE.out e.symm) H1.out
 obtain⟨kz,ka1⟩:=bkc0c1 (S'.blk 1 rfl)
 obtain⟨kb0,kb1⟩:=bkc0c1 (S'.blk (j0+2) hb7)
 have kfz:=own_frozen (S'.own (j1+2) hi7) (by have:=HV.out;omega) v
 have kg1:=(S'.rdx (j1+2) hi7).cH HV.out
 rw [HH.out] at kg1
 have HI7:=Lib.hid hi7
 have T:=S'.setRow (j1+2) HI7.out v (by have:=HV.out;omega) (.slice q' (row.length+1) c')
 rw [encH_set] at T
 have hb8:=(List.getElem?_set_ne (a:=Pc.own 32 1 pI n cI (encH (hs.set v ⟨q',row.length+1,c'⟩))) (show j1+2≠j0+2 by have:=HNE1.out;omega)).trans hb7
 obtain⟨ta0,ta1⟩:=bkc0c1 (T.blk 1 rfl)
 obtain⟨tb0,tb1⟩:=bkc0c1 (T.blk (j0+2) hb8)
 have g4:=(S4.out.rdx (j1+2) H1.out).cH HV.out
 rw [HH.out] at g4
 have TF:=Lib.hid T
 clear S' hb7 hb8 hi7 T HNE HNE0 HNE1 H0 H1 H2 HI7 S4
 simp at kz ka1 kb0 kb1 ta0 ta1 tb0 tb1 a0 a1 b0 b1
 have gb:=World.block_lt_of_cell? w1 _ g1
 simp only at kg1 g4
 refine wp_region_held_drew (S:=fun w'=>w'.cell? ⟨w.heap.size,0,none⟩=some (.int .i64 x1)∧w'.cell? ⟨w.heap.size,1,none⟩=some (.int .i64 x2)∧w'.cell? ⟨gl,0,none⟩=some (.slice pI n cI)∧w'.cell? ⟨gl,1,none⟩=some (.slice pO nO cO)) (by kernel_rfl) (by(try dsimp only);go_keep) (fun hHeld=>?_)
 refine wpAnyH_take (i:=0) (v:=.pointer (some ⟨gl,0,none⟩)) rfl (by kernel_rfl) (by kernel_rfl) (by kernel_rfl) (fun _ _ _ h=>h) (Or.inl ⟨by rfl,fun W hSw=>by obtain⟨h1,h2,h3,h4⟩:=hSw;go_simp⟩) hHeld ?_
 refine wpAnyH_take (i:=1) (v:=.slice pI n cI) rfl (by kernel_rfl) (by kernel_rfl) (by kernel_rfl) (fun _ _ _ h=>h) (Or.inl ⟨by rfl,fun W hSw=>by obtain⟨h1,h2,h3,h4⟩:=hSw;go_simp⟩) hHeld ?_
 refine wpAnyH_take (i:=2) (v:=.int .i64 v) rfl (by kernel_rfl) (by kernel_rfl) (by kernel_rfl) (fun _ _ _ h=>h) (Or.inl ⟨by rfl,fun W hSw=>by obtain⟨h1,h2,h3,h4⟩:=hSw;go_simp⟩) hHeld ?_
 refine wpAnyH_take (i:=3) (v:=.pointer (some ⟨gl,0,none⟩)) rfl (by kernel_rfl) (by kernel_rfl) (by kernel_rfl) (fun _ _ _ h=>h) (Or.inl ⟨by rfl,fun W hSw=>by obtain⟨h1,h2,h3,h4⟩:=hSw;go_simp⟩) hHeld ?_
 refine wpAnyH_take (i:=4) (v:=.slice pI n cI) rfl (by kernel_rfl) (by kernel_rfl) (by kernel_rfl) (fun _ _ _ h=>h) (Or.inl ⟨by rfl,fun W hSw=>by obtain⟨h1,h2,h3,h4⟩:=hSw;go_simp⟩) hHeld ?_
 refine wpAnyH_take (i:=5) (v:=.int .i64 v) rfl (by kernel_rfl) (by kernel_rfl) (by kernel_rfl) (fun _ _ _ h=>h) (Or.inl ⟨by rfl,fun W hSw=>by obtain⟨h1,h2,h3,h4⟩:=hSw;go_simp⟩) hHeld ?_
 refine wpAnyH_take (i:=6) (v:=.pointer (some (adr pI v))) rfl (by kernel_rfl) (by kernel_rfl) (by kernel_rfl) (fun _ _ _ h=>h) (Or.inl ⟨by rfl,fun W hSw=>by obtain⟨h1,h2,h3,h4⟩:=hSw;go_simp⟩) hHeld ?_
 refine wpAnyH_take (i:=8) (v:=.agg #[.int .i64 x1,.int .i64 x2]) rfl (by kernel_rfl) (by kernel_rfl) (by kernel_rfl) (fun _ _ _ h=>h) (Or.inl ⟨by rfl,fun W hSw=>by obtain⟨h1,h2,h3,h4⟩:=hSw;go_simp⟩) hHeld ?_
 refine wpAnyH_ready (rs:=[7,9]) (by kernel_rfl) (by simp) (AllReadyH.cons rfl (fun K hK=>?_) (AllReadyH.cons rfl (fun K hK=>?_) AllReadyH.nil))
 ·go_simp
  refine hK.out _ _ hHeld (fun hHeld=>?_)
  clear hK
  refine wpAnyH_ready (rs:=[9]) (by kernel_rfl) (by simp) (AllReadyH.cons rfl (fun K hK=>?_) AllReadyH.nil)
  go_simp
  refine hK.out _ _ (by((try dsimp only);go_keep)) (fun hHeld=>?_)
  clear hK
  refine wpAnyH_ready (rs:=[10]) (by kernel_rfl) (by simp) (AllReadyH.cons rfl (fun K hK=>?_) AllReadyH.nil)
  rw [if_pos (by rfl)]
  refine operwp_append (.tmp 12) (.tmp 14) 32 (by rfl) (by rfl) (by rfl) hrun ?_
  refine hK.out _ _ ⟨kz,ka1,kb0,kb1⟩ (fun hHeld=>?_)
  clear hK
  refine wpAnyH_ready (rs:=[11]) (by kernel_rfl) (by simp) (AllReadyH.cons rfl (fun K hK=>?_) AllReadyH.nil)
  go_simp
  refine hK.out _ _ (by(exact⟨kz,ka1,kb0,kb1⟩)) (fun hHeld=>?_)
  clear hK
  refine wpAnyH_ready (rs:=[12]) (by kernel_rfl) (by simp) (AllReadyH.cons rfl (fun K hK=>?_) AllReadyH.nil)
  go_simp
  refine hK.out _ _ (by(exact⟨ta0,ta1,tb0,tb1⟩)) (fun hHeld=>?_)
  clear hK
  refine wpAnyH_done (by kernel_rfl) ?_ _
  go_end0
  refine⟨rfl,q',c',?_⟩
  rw [encE_append]
  exact TF.out.sub ((List.sublist_cons_self _ _).trans (List.sublist_cons_self _ _))
 ·go_simp
  refine hK.out _ _ (by(try dsimp only);go_keep) (fun hHeld=>?_)
  clear hK
  refine wpAnyH_ready (rs:=[7]) (by kernel_rfl) (by simp) (AllReadyH.cons rfl (fun K hK=>?_) AllReadyH.nil)
  go_simp
  refine hK.out _ _ (by(exact hHeld)) (fun hHeld=>?_)
  clear hK
  refine wpAnyH_ready (rs:=[10]) (by kernel_rfl) (by simp) (AllReadyH.cons rfl (fun K hK=>?_) AllReadyH.nil)
  rw [if_pos (by rfl)]
  refine operwp_append (.tmp 12) (.tmp 14) 32 (by rfl) (by rfl) (by rfl) hrun ?_
  refine hK.out _ _ ⟨kz,ka1,kb0,kb1⟩ (fun hHeld=>?_)
  clear hK
  refine wpAnyH_ready (rs:=[11]) (by kernel_rfl) (by simp) (AllReadyH.cons rfl (fun K hK=>?_) AllReadyH.nil)
  go_simp
  refine hK.out _ _ (by(exact⟨kz,ka1,kb0,kb1⟩)) (fun hHeld=>?_)
  clear hK
  refine wpAnyH_ready (rs:=[12]) (by kernel_rfl) (by simp) (AllReadyH.cons rfl (fun K hK=>?_) AllReadyH.nil)
  go_simp
  refine hK.out _ _ (by(exact⟨ta0,ta1,tb0,tb1⟩)) (fun hHeld=>?_)
  clear hK
  refine wpAnyH_done (by kernel_rfl) ?_ _
  go_end0
  refine⟨rfl,q',c',?_⟩
  rw [encE_append]
  exact TF.out.sub ((List.sublist_cons_self _ _).trans (List.sublist_cons_self _ _))
end
section
open Go Go.RowKit
structure NearQ (C:Nat) (x:Int) (b:Bool) (i:Nat) (v:Value) (_:World):Prop where
 a:i=C→v=.tuple #[.int .i64 x,.bool b]
 b':i=C+1→v=.tuple #[.int .i64 x,.bool b]
 c1:i=C+2→v=.int .i64 x
 c2:i=C+3→v=.bool b
 d1:i=C+4→v=.int .i64 x
 d2:i=C+5→v=.bool b
theorem NearQ.of {C:Nat} {a:Int} {b:Bool} {i:Nat} {v:Value} {w:World} (h:(i=C∨i=C+1)∧v=.tuple #[.int .i64 a,.bool b]∨(i=C+2∨i=C+4)∧v=.int .i64 a∨(i=C+3∨i=C+5)∧v=.bool b):NearQ C a b i v w:=by
 rcases h with ⟨h1,h2⟩ | ⟨h1,h2⟩ | ⟨h1,h2⟩
 ·exact⟨fun _=>h2,fun _=>h2,fun e=>by omega,fun e=>by omega,fun e=>by omega,fun e=>by omega⟩
 ·exact⟨fun e=>by omega,fun e=>by omega,fun _=>h2,fun e=>by omega,fun _=>h2,fun e=>by omega⟩
 ·exact⟨fun e=>by omega,fun e=>by omega,fun e=>by omega,fun _=>h2,fun e=>by omega,fun _=>h2⟩
theorem NearI (gs gl:Nat) (po:Option Addr) (no co:Nat) (OUT:List (Int × Int)) (pO:Option Addr) (nO cO:Nat) (pI:Option Addr) (n cI:Nat) (hs:List Hd) (row:List (Int × Int)) (v:Nat) (d:Int) (w:World)
  (hB:Blk w gs 32 #[.slice po no co]) (hR:Rd w 2 po no (encE OUT)) (hL:Blk w gl 67 #[.slice pO nO cO,.slice pI n cI]) (hI:Rd w 1 pI n (encH hs)) (hr:Rd w 2 (nth hs v).p (nth hs v).n (encE row)) (hv:v<n) (b1:SmH OUT) (b2:SmH row) :
  Calls Tryz.prog 89 #[.int .i64 v,.int .i64 d,.pointer (some ⟨gs,0,none⟩),.pointer (some ⟨gl,0,none⟩)] w fun e w'=>e=.returned (.bool (nearB (leastV OUT row) d))∧Ext w w':=by
 have s0:=hB.cell 0
 have sz:=hB.lt
 have l0:=hL.cell 0
 have l1:=hL.cell 1
 have lz:=hL.lt
 have g1:=hI.cH hv
 have p1:=hI.ptr
 have d1:(0:Int)≤v:=by omega
 have d2:(v:Int)<n:=by omega
 have HL:=Lib.hid (fun W (h:Ext w W)=>LeastG po no co OUT (nth hs v).p (nth hs v).n (nth hs v).c row W (hR.ext h) (hr.ext h) b1 b2)
 obtain⟨hh,hh0⟩:∃ hh,nth hs v=hh:=⟨_,rfl⟩
 rw [hh0] at g1 HL
 unfold nearB
 obtain⟨r,hr0⟩:∃ r,leastV OUT row=r:=⟨_,rfl⟩
 rw [hr0] at HL ⊢
 obtain⟨a,b⟩:=r
 simp only at HL ⊢
 clear hB hR hL hI hr hv b1 b2 hh0 hr0
 obtain⟨hp,hn,hc⟩:=hh
 simp only at g1 HL
 go_enter Tryz.func89,Tryz.ntmps89
 go_wp2
 have u0:=fun x:ExtOf w=>x.ext.cell s0
 have u1:=fun x:ExtOf w=>x.ext.cell l0
 have u2:=fun x:ExtOf w=>x.ext.cell l1
 have u3:=fun x:ExtOf w=>x.ext.cell g1
 refine wp_region_mix [true,true,true,true,true,true,false,false,false,false,false,false] (NearQ 6 a b) (by kernel_rfl) (by kernel_rfl) (by kernel_rfl) (fun _ _ _ _ _ h=>⟨h.a,h.b',h.c1,h.c2,h.d1,h.d2⟩) ?_
 simp only [nfM]
 repeat (go_big_quiet_step ((fail)))
 refine wpQuiet_nil ⟨⟨fun vs W1 hE hd=>?_,fun vs W1 hE hd=>?_,fun vs W1 hE hd=>?_,fun vs W1 hE hd=>?_,fun vs W1 hE hd=>?_,fun vs W1 hE hd=>?_,trivial⟩,fun vs W1 hE hkn=>?_⟩
 ·(simp [putM,go_sem];exact(HL.out _ hE).mono fun e w' ⟨h1,h2⟩=>⟨_,h1,NearQ.of (by simp),h2⟩)
 ·(have k1:=NearQ.a (hd 6 (by decide +kernel) rfl) rfl;simp [putM,execOp,go_sem,k1];exact⟨NearQ.of (by simp),Below.refl _ _⟩)
 ·(have k1:=NearQ.b' (hd 7 (by decide +kernel) rfl) rfl;simp [putM,execOp,go_sem,k1];exact⟨NearQ.of (by simp),Below.refl _ _⟩)
 ·(have k1:=NearQ.b' (hd 7 (by decide +kernel) rfl) rfl;simp [putM,execOp,go_sem,k1];exact⟨NearQ.of (by simp),Below.refl _ _⟩)
 ·(have k1:=NearQ.c1 (hd 8 (by decide +kernel) rfl) rfl;simp [putM,execOp,go_sem,k1];exact⟨NearQ.of (by simp),Below.refl _ _⟩)
 ·(have k1:=NearQ.c2 (hd 9 (by decide +kernel) rfl) rfl;simp [putM,execOp,go_sem,k1];exact⟨NearQ.of (by simp),Below.refl _ _⟩)
 simp only [knowM] at hkn
 have k1:=NearQ.d1 hkn.2.2.2.2.1 rfl
 have k2:=NearQ.d2 hkn.2.2.2.2.2.1 rfl
 simp only [putM,k1,k2,List.length_cons,List.length_nil,Nat.zero_add,Nat.reduceAdd,List.drop_succ_cons,List.drop_zero]
 try simp [Act.put]
 clear u0 u1 u2 u3 k1 k2 hkn s0 sz l0 l1 lz g1
 cases b with
 | false =>
  go_wp2
  go_ret
  exact⟨rfl,hE⟩
 | true =>
  by_cases hd:a≤d
  ·have f1:decide (a≤d)=true:=by simpa using hd
   clear hd
   go_wp2
   go_ret
   exact⟨by rw [f1];rfl,hE⟩
  ·have f1:decide (a≤d)=false:=by simpa using hd
   clear hd
   go_wp2
   go_ret
   exact⟨by rw [f1];rfl,hE⟩
theorem NearO (gs gl:Nat) (po:Option Addr) (no co:Nat) (OUT:List (Int × Int)) (pO:Option Addr) (nO cO:Nat) (pI:Option Addr) (n cI:Nat) (hs:List Hd) (row:List (Int × Int)) (v:Nat) (d:Int) (w:World)
  (hB:Blk w gs 32 #[.slice po no co]) (hR:Rd w 2 po no (encE OUT)) (hL:Blk w gl 67 #[.slice pI n cI,.slice pO nO cO]) (hI:Rd w 1 pI n (encH hs)) (hr:Rd w 2 (nth hs v).p (nth hs v).n (encE row)) (hv:v<n) (b1:SmH OUT) (b2:SmH row) :
  Calls Tryz.prog 91 #[.int .i64 v,.int .i64 d,.pointer (some ⟨gl,0,none⟩),.pointer (some ⟨gs,0,none⟩)] w fun e w'=>e=.returned (.bool (nearB (leastV row OUT) d))∧Ext w w':=by
 have s0:=hB.cell 0
 have sz:=hB.lt
 have l0:=hL.cell 0
 have l1:=hL.cell 1
 have lz:=hL.lt
 have g1:=hI.cH hv
 have p1:=hI.ptr
 have d1:(0:Int)≤v:=by omega
 have d2:(v:Int)<n:=by omega
 have HL:=Lib.hid (fun W (h:Ext w W)=>LeastG (nth hs v).p (nth hs v).n (nth hs v).c row po no co OUT W (hr.ext h) (hR.ext h) b2 b1)
 obtain⟨hh,hh0⟩:∃ hh,nth hs v=hh:=⟨_,rfl⟩
 rw [hh0] at g1 HL
 unfold nearB
 obtain⟨r,hr0⟩:∃ r,leastV row OUT=r:=⟨_,rfl⟩
 rw [hr0] at HL ⊢
 obtain⟨a,b⟩:=r
 simp only at HL ⊢
 clear hB hR hL hI hr hv b1 b2 hh0 hr0
 obtain⟨hp,hn,hc⟩:=hh
 simp only at g1 HL
 go_enter Tryz.func91,Tryz.ntmps91
 go_wp2
 have u0:=fun x:ExtOf w=>x.ext.cell s0
 have u1:=fun x:ExtOf w=>x.ext.cell l0
 have u2:=fun x:ExtOf w=>x.ext.cell l1
 have u3:=fun x:ExtOf w=>x.ext.cell g1
 refine wp_region_mix [true,true,true,true,true,true,false,false,false,false,false,false] (NearQ 6 a b) (by kernel_rfl) (by kernel_rfl) (by kernel_rfl) (fun _ _ _ _ _ h=>⟨h.a,h.b',h.c1,h.c2,h.d1,h.d2⟩) ?_
 simp only [nfM]
 repeat (go_big_quiet_step ((fail)))
 refine wpQuiet_nil ⟨⟨fun vs W1 hE hd=>?_,fun vs W1 hE hd=>?_,fun vs W1 hE hd=>?_,fun vs W1 hE hd=>?_,fun vs W1 hE hd=>?_,fun vs W1 hE hd=>?_,trivial⟩,fun vs W1 hE hkn=>?_⟩
 ·(simp [putM,go_sem];exact(HL.out _ hE).mono fun e w' ⟨h1,h2⟩=>⟨_,h1,NearQ.of (by simp),h2⟩)
 ·(have k1:=NearQ.a (hd 6 (by decide +kernel) rfl) rfl;simp [putM,execOp,go_sem,k1];exact⟨NearQ.of (by simp),Below.refl _ _⟩)
 ·(have k1:=NearQ.b' (hd 7 (by decide +kernel) rfl) rfl;simp [putM,execOp,go_sem,k1];exact⟨NearQ.of (by simp),Below.refl _ _⟩)
 ·(have k1:=NearQ.b' (hd 7 (by decide +kernel) rfl) rfl;simp [putM,execOp,go_sem,k1];exact⟨NearQ.of (by simp),Below.refl _ _⟩)
 ·(have k1:=NearQ.c1 (hd 8 (by decide +kernel) rfl) rfl;simp [putM,execOp,go_sem,k1];exact⟨NearQ.of (by simp),Below.refl _ _⟩)
 ·(have k1:=NearQ.c2 (hd 9 (by decide +kernel) rfl) rfl;simp [putM,execOp,go_sem,k1];exact⟨NearQ.of (by simp),Below.refl _ _⟩)
 simp only [knowM] at hkn
 have k1:=NearQ.d1 hkn.2.2.2.2.1 rfl
 have k2:=NearQ.d2 hkn.2.2.2.2.2.1 rfl
 simp only [putM,k1,k2,List.length_cons,List.length_nil,Nat.zero_add,Nat.reduceAdd,List.drop_succ_cons,List.drop_zero]
 try simp [Act.put]
 clear u0 u1 u2 u3 k1 k2 hkn s0 sz l0 l1 lz g1
 cases b with
 | false =>
  go_wp2
  go_ret
  exact⟨rfl,hE⟩
 | true =>
  by_cases hd:a≤d
  ·have f1:decide (a≤d)=true:=by simpa using hd
   clear hd
   go_wp2
   go_ret
   exact⟨by rw [f1];rfl,hE⟩
  ·have f1:decide (a≤d)=false:=by simpa using hd
   clear hd
   go_wp2
   go_ret
   exact⟨by rw [f1];rfl,hE⟩
end
section
open Go Go.RowKit
theorem infBl:((Tryz.prog).info? 4).map (fun i=>(i.zero,i.size,i.bytes))=some (some (.bool false),1,1):=by kernel_rfl
theorem madeBl (n:Nat):(madeCells (Value.bool false).cells (n*1)).toList=List.replicate n (.bool false):=by
 apply List.ext_getElem
 ·simp [madeCells]
 ·intro i h1 h2
  simp [madeCells,Value.cells,Nat.mod_one]
end
section
open Go Go.RowKit
def rowsS (n:Nat) (H0:List Hd) (T0:SrT) (H:List Hd) (T:SrT):List Pc:=(List.range n).map fun v=>.ownS 105 2 (nth H v).p (nth H v).n (nth H v).c (encE (nth T v)) (nth H0 v).p (nth H0 v).n (encE (nth T0 v))
theorem rowsS_at {n:Nat} {H0:List Hd} {T0:SrT} {H:List Hd} {T:SrT} {Φ:List Pc} {v:Nat} (hv:v<n):(rowsS n H0 T0 H T ++ Φ)[v]?=some (.ownS 105 2 (nth H v).p (nth H v).n (nth H v).c (encE (nth T v)) (nth H0 v).p (nth H0 v).n (encE (nth T0 v))):=by
 rw [List.getElem?_append_left (by simpa [rowsS] using hv)]
 simp [rowsS,hv]
theorem nth_setHd (H:List Hd) {i:Nat} (j:Nat) (x:Hd) (hi:i<H.length):nth (H.set i x) j=if i=j then x else nth H j:=by
 unfold nth
 rw [List.getD_eq_getElem?_getD,List.getD_eq_getElem?_getD,List.getElem?_set]
 by_cases e:i=j
 ·subst e;simp [hi]
 ·simp [e]
theorem rowsS_set {n:Nat} {H0:List Hd} {T0:SrT} {H:List Hd} {T:SrT} {Φ:List Pc} {v m c:Nat} {p:Option Addr} {r:List (Int × Int)} (hv:v<n) (hH:H.length=n) (hT:T.length=n) :
  (rowsS n H0 T0 H T ++ Φ).set v (.ownS 105 2 p m c (encE r) (nth H0 v).p (nth H0 v).n (encE (nth T0 v)))=rowsS n H0 T0 (H.set v ⟨p,m,c⟩) (T.set v r) ++ Φ:=by
 rw [List.set_append_left _ _ (by simpa [rowsS] using hv)]
 congr 1
 apply List.ext_getElem
 ·simp [rowsS]
 ·intro j h1 h2
  have hj:j<n:=by simpa [rowsS] using h2
  rw [List.getElem_set]
  simp only [rowsS,List.getElem_map,List.getElem_range]
  rw [nth_setHd H j _ (by omega),nth_setT T j _ (by omega)]
  by_cases e:v=j
  ·subst e;simp
  ·simp [e]
def encBl (S:List Bool):List Value:=S.map Value.bool
theorem encBl_set (S:List Bool) (i:Nat) (b:Bool):(encBl S).set i (.bool b)=encBl (S.set i b):=by simp [encBl,List.map_set]
theorem Rd.cBl {w:World} {p:Option Addr} {n:Nat} {S:List Bool} (h:Rd w 1 p n (encBl S)) {k:Nat} (hk:k<n):w.cell? (adr p k)=some (.bool (nth S k)):=by
 have hl:n=S.length:=by have:=h.len;simp [encBl] at this;omega
 rw [h.cells k (by omega)]
 simp [encBl,nth,hl ▸ hk]
theorem madeBl2 (n:Nat):(madeCells (Value.bool false).cells (n*1)).toList=encBl (List.replicate n false):=by rw [madeBl];simp [encBl]
theorem nodup_take {F:List Int} (h:F.Nodup) {k:Nat} (hk:k<F.length):nth F k ∉ F.take k:=by
 intro hm
 have e:F=F.take k ++ F.drop k:=(List.take_append_drop k F).symm
 rw [e,List.nodup_append] at h
 rw [nth_eq hk] at hm
 exact absurd rfl (h.2.2 _ hm F[k] (by rw [List.drop_eq_getElem_cons hk];exact List.mem_cons_self ..))
theorem sub2 {α:Type} (a b c:α) (l:List α):(a :: b :: l).Sublist (a :: b :: c :: l):=((List.sublist_cons_self c l).cons_cons b).cons_cons a
def ctxsearchI (gl gs:Nat) (pO:Option Addr) (nO cO:Nat) (pI:Option Addr) (n cI:Nat) (po:Option Addr) (no co:Nat) (P:Pc) (H0:List Hd) (T0:SrT) (Φ:List Pc) (H:List Hd) (T:SrT):List Pc:=.blk gl 67 #[.slice pO nO cO,.slice pI n cI] :: .own 32 1 pI n cI (encH H) :: .blk gs 32 #[.slice po no co] :: P :: (rowsS n H0 T0 H T ++ Φ)
theorem searchI (gr gl gs:Nat) (pO:Option Addr) (nO cO:Nat) (pI:Option Addr) (n cI:Nat) (po:Option Addr) (no co:Nat) (OUT:List (Int × Int)) (P:Pc) (H0:List Hd) (T0:SrT) (Φ:List Pc) (h:Nat) (nx:Nat→List Int) (good:Nat→Bool) (dd:Nat→Int) (w w0:World)
  (S:Sep w0 w (ctxsearchI gl gs pO nO cO pI n cI po no co P H0 T0 Φ H0 T0)) (HP:∀ W,P.holds W→Rd W 2 po no (encE OUT)) (bO:SmH OUT) (bT:∀ v,v<n→SmH (nth T0 v)) (bL:∀ v,v<n→(nth T0 v).length≤200) (hn:n≤200) (hH0:H0.length=n)
  (HX:SrW nx (fun row d=>nearB (leastV OUT row) d) n h T0 good dd)
  (HN:∀ k,k<n→∃ q c,Rd w0 1 q (nx k).length (encI (nx k))∧∀ W,Ext w0 W→Calls Tryz.prog 84 #[.int .i64 k,.pointer (some ⟨gr,0,none⟩)] W fun e w'=>e=.returned (.slice q (nx k).length c)∧Ext W w') :
  Calls Tryz.prog 88 #[.agg #[.func (.func 84) #[] #[.pointer (some ⟨gr,0,none⟩)],.func (.func 85) #[] #[.pointer (some ⟨gl,0,none⟩)]],.int .i64 n,.int .i64 h,.func (.func 89) #[] #[.pointer (some ⟨gs,0,none⟩),.pointer (some ⟨gl,0,none⟩)]] w fun e w'=>e=.returned (.tuple #[])∧∃ H',H'.length=n∧Sep w0 w' (ctxsearchI gl gs pO nO cO pI n cI po no co P H0 T0 Φ H' ((List.range n).map fun v=>toldW h T0 good dd v)):=by
 obtain⟨i0,hi0,hz0,hz1,hz2⟩:=info_parts infI
 obtain⟨j0,hj0,hy0,hy1,hy2⟩:=info_parts infBl
 have hh:=HX.hh
 have d1:(0:Int)≤h:=by omega
 have d2:(h:Int)<n:=by omega
 have HXh:=Lib.hid HX
 have HI0:=Lib.hid (SInv.start HX)
 have HNX:=Lib.hid HN
 have HPR:=Lib.hid HP
 have HBO:=Lib.hid bO
 have HBT:=Lib.hid bT
 have HBL:=Lib.hid bL
 have HH0:=Lib.hid hH0
 have S1:=Lib.hid (S.al #[.func (.func 84) #[] #[.pointer (some ⟨gr,0,none⟩)],.func (.func 85) #[] #[.pointer (some ⟨gl,0,none⟩)]] 131 w.heap.size rfl)
 have HQ:Hid ((w.alloc (.cells #[.func (.func 84) #[] #[.pointer (some ⟨gr,0,none⟩)],.func (.func 85) #[] #[.pointer (some ⟨gl,0,none⟩)]] 131)).heap.size=w.heap.size+1):=by unfold Hid;simp
 clear S HX HN HP bO bT bL hH0
 go_enter Tryz.func88,Tryz.ntmps88
 go_wp2_with (at_make;go_must (refine wpList_make_sep rfl _ _ _ rfl 4 j0 _ 1 Tryz.underlying194 hj0 hy0 hy1 (n:Int) n rfl rfl rfl (by rw [hy2];omega) (by unfold maxLen;omega) S1.out ?_;intro w2 S';rw [madeBl2,HQ.out] at S';have S2:=Lib.hid S';have fz:=own_frozen (S'.own 0 rfl) (by omega) h;have cz:=(S'.rdx 0 rfl).cBl hh;rw [adr_some,Nat.zero_add] at fz cz;clear S'))
 have S4:Hid (Sep w0 ((w2.setCell ⟨w.heap.size+1,h,none⟩ (.bool true)).alloc (.cells #[.int .i64 h] 3)) (.own 3 1 (some ⟨w2.heap.size,0,none⟩) [(h:Int)].length 1 (encI [(h:Int)]) :: .own 4 1 (some ⟨w.heap.size+1,0,none⟩) n n (encBl ((List.replicate n false).set h true)) :: .blk w.heap.size 131 #[.func (.func 84) #[] #[.pointer (some ⟨gr,0,none⟩)],.func (.func 85) #[] #[.pointer (some ⟨gl,0,none⟩)]] :: ctxsearchI gl gs pO nO cO pI n cI po no co P H0 T0 Φ H0 T0)):=by
  have T:=S2.out.setRow 0 rfl h (by omega) (.bool true)
  rw [adr_some,Nat.zero_add,encBl_set] at T
  exact T.alrow #[.int .i64 (h:Int)] 3 1 1 w2.heap.size (by simp) (by decide) rfl
 generalize (w2.setCell ⟨w.heap.size+1,h,none⟩ (.bool true)).alloc (.cells #[.int .i64 (h:Int)] 3)=w3 at *
 generalize (some ⟨w2.heap.size,0,none⟩:Option Addr)=qf0 at *
 clear fz cz S1 S2 HQ
 go_loopw [9,10,11,13,15] (fun v9 v10 _ _ _ wr=>∃ (d:Int) (Sn:List Bool) (T:SrT) (F:List Int) (H:List Hd) (qf:Option Addr) (cf:Nat),v9=.slice qf F.length cf∧v10=.int .i64 d∧SInv nx n h T0 good dd d Sn T F∧H.length=n∧Hid (∀ v,v<n→nth T v=nth T0 v→nth H v=nth H0 v)∧Sep w0 wr (.own 3 1 qf F.length cf (encI F) :: .own 4 1 (some ⟨w.heap.size+1,0,none⟩) n n (encBl Sn) :: .blk w.heap.size 131 #[.func (.func 84) #[] #[.pointer (some ⟨gr,0,none⟩)],.func (.func 85) #[] #[.pointer (some ⟨gl,0,none⟩)]] :: ctxsearchI gl gs pO nO cO pI n cI po no co P H0 T0 Φ H T)) (fun _ v10 _ _ _ _=>((n:Int)+1 - intOf v10).toNat)
 case atStart=>exact⟨0,_,T0,[(h:Int)],H0,qf0,1,rfl,rfl,HI0.out,HH0.out,fun _ _ _=>rfl,S4.out⟩
 case round =>
  clear S4 HI0
  obtain⟨d,Sn,T,F,H,qf,cf,rfl,rfl,hI,hHl,hHd,S⟩:=hrel
  have hd0:=hI.d0
  have hbd:=hI.bd
  by_cases hF:F=[]
  ·subst hF
   have HE:=Lib.hid (SInv.done HXh.out hI)
   have HHL:=Lib.hid hHl
   clear hI hHl hbd
   have SH:=Lib.hid S;clear S
   go_wp2
   go_end0
   refine⟨rfl,H,HHL.out,?_⟩
   rw [← HE.out]
   exact SH.out.sub ((List.sublist_cons_self _ _).trans ((List.sublist_cons_self _ _).trans (List.sublist_cons_self _ _)))
  ·have hFl:0<F.length:=List.length_pos_iff.2 hF
   rw [if_neg hF] at hbd
   have hdn:d+1≤n:=by omega
   have hFn:F.length≤n:=nodup_small hI.nd fun x hx=>by obtain⟨u,e,h1,_⟩:=hI.front x hx;omega
   have c1:decide ((0:Int)<F.length)=true:=by simp;omega
   obtain⟨LV,hLV⟩:∃ LV:Nat→SrS,LV=fun k=>levelW nx (fun row d=>nearB (leastV OUT row) d) (h:Int) d Sn T (F.take k):=⟨_,rfl⟩
   have HI:=Lib.hid hI
   have HM:Hid (∀ k,MInv nx n h good d Sn T (F.take k) (LV k)):=fun k=>by
    rw [hLV];exact MInv.run HXh.out hI _ ⟨F.drop k,(List.take_append_drop k F).symm⟩
   have HST:Hid (∀ k,k<F.length→LV (k+1)=visitW nx (fun row d=>nearB (leastV OUT row) d) (h:Int) d (LV k) (nth F k)):=fun k hk=>by
    rw [hLV];simp only;rw [take_succ_nth F k hk,levelW_snoc]
   have HL0:Hid (LV 0=(Sn,[],T)):=by unfold Hid;rw [hLV];rfl
   have HNXT:=Lib.hid (SInv.next HXh.out hI hF)
   have hle:LV F.length=levelW nx (fun row d=>nearB (leastV OUT row) d) (h:Int) d Sn T F:=by rw [hLV];simp only;rw [List.take_length]
   rw [← hle] at HNXT
   have HHL:=Lib.hid hHl
   have HHD:=Lib.hid hHd.out
   clear hI hHl hHd hLV hle hbd hF
   have SH:=Lib.hid S;clear S
   go_wp2
   go_step3
   go_wp2
   go_step3
   go_wp2
   go_loopw [11,13,15,30] (fun v11 _ _ i wx=>∃ (k:Nat) (H1:List Hd) (qa:Option Addr) (ca:Nat),k≤F.length∧i=.int .i64 k∧v11=.slice qa (LV k).2.1.length ca∧H1.length=n∧Hid (∀ v,v<n→nth (LV k).2.2 v=nth T0 v→nth H1 v=nth H0 v)∧Sep w0 wx (.own 3 1 qa (LV k).2.1.length ca (encI (LV k).2.1) :: .own 4 1 (some ⟨w.heap.size+1,0,none⟩) n n (encBl (LV k).1) :: .own 3 1 qf F.length cf (encI F) :: .blk w.heap.size 131 #[.func (.func 84) #[] #[.pointer (some ⟨gr,0,none⟩)],.func (.func 85) #[] #[.pointer (some ⟨gl,0,none⟩)]] :: ctxsearchI gl gs pO nO cO pI n cI po no co P H0 T0 Φ H1 (LV k).2.2)) (fun _ _ _ i _=>F.length - (intOf i).toNat)
   case atStart=>exact⟨0,H,none,0,Nat.zero_le _,rfl,by rw [HL0.out];rfl,HHL.out,by rw [HL0.out];exact HHD.out,by
    rw [HL0.out]
    exact(SH.out.nilrow 3 1).perm (List.Perm.trans (List.Perm.cons _ (List.Perm.swap _ _ _)) (List.Perm.refl _))⟩
   case round =>
    clear SH HHL HHD HL0
    obtain⟨k,H1,qa,ca,hk,rfl,rfl,hH1,hHd1,S⟩:=hrel
    by_cases hlt:k<F.length
    ·obtain⟨v,ev,hv,s1,t1,t2,t3,t4⟩:=HI.out.front (nth F k) (nth_mem hlt)
     have M:=HM.out k
     have hvk:(v:Int) ∉ F.take k:=by rw [← ev];exact nodup_take HI.out.nd hlt
     have hTv:nth (LV k).2.2 v=nth T0 v:=by rw [M.tab v hv,if_neg fun hc=>hvk hc.1,t1]
     have hHv:nth H1 v=nth H0 v:=hHd1.out v hv hTv
     have hstp:=HST.out k hlt
     rw [ev] at hstp
     have g1:=(S.rdx 2 rfl).cI hlt
     rw [ev] at g1
     have hA:=M.nd
     have hA2:=M.ahead
     have hcn:=M.cnt
     have hS1:=M.lenS
     have hT1:=M.lenT
     have p1:=(S.rdx 2 rfl).ptr
     obtain⟨r,hr⟩:∃ r,LV k=r:=⟨_,rfl⟩
     rw [hr] at hstp hTv hA hA2 S hHd1 hcn hS1 hT1 ⊢
     obtain⟨S1,A1,T1⟩:=r
     simp only at hstp hTv hA hA2 S hHd1 hcn hS1 hT1 ⊢
     have hAl:A1.length≤n:=nodup_small hA fun x hx=>by obtain⟨u,e,h1,_⟩:=hA2 x hx;omega
     have hrowL:(rowsS n H0 T0 H1 T1 ++ Φ)[v]?=some (.ownS 105 2 (nth H1 v).p (nth H1 v).n (nth H1 v).c (encE (nth T1 v)) (nth H1 v).p (nth H1 v).n (encE (nth T1 v))):=by
      rw [rowsS_at hv,hHv,hTv]
     have hsm:=HBT.out v hv
     have hbl:=HBL.out v hv
     rw [← hTv] at hsm hbl
     have HROW:=Lib.hid hrowL
     have hown:=(S.ownS (v+8) hrowL).1
     have hRr:=Rd.of_own hown (own_sm hown)
     have HNR:=Lib.hid (fun W (hE:Ext wr W)=>NearI gs gl po no co OUT pO nO cO pI n cI H1 (nth T1 v) v d W ((S.blk 6 rfl).ext hE) ((HPR.out _ (S.all _ (List.mem_of_getElem? (show _[7]?=some P from rfl)))).ext hE) ((S.blk 4 rfl).ext hE) ((S.rdx 5 rfl).ext hE) (hRr.ext hE) hv HBO.out hsm)
     have HV:=Lib.hid (show v<n from hv)
     have e1:(0:Int)≤v:=by omega
     have e2:(v:Int)<n:=by omega
     have e3:(0:Int)≤k:=by omega
     have e4:(k:Int)<F.length:=by omega
     unfold visitW at hstp
     simp only [Int.toNat_natCast] at hstp
     have HH1:=Lib.hid hH1
     have HT1:=Lib.hid hT1
     have HHD1:=Lib.hid hHd1.out
     have HTV:=Lib.hid hTv
     have HHV:=Lib.hid hHv
     cases hnear:nearB (leastV OUT (nth T1 v)) d with
     | true =>
      rw [hnear,if_pos rfl] at hstp
      rw [hnear] at HNR
      have HS2:=Lib.hid hstp
      clear M hvk hTv hHv hstp hA hA2 hcn hS1 hT1 hr hrowL hsm hbl hown hRr hnear ev s1 t1 t2 t3 t4 hH1 hHd1 HI HM HST
      have SH:=Lib.hid S;clear S
      go_wp2_with (go_at_call 89;go_must (refine(HNR.out _ (Below.refl _ _)).mono ?_;rintro e w3 ⟨rfl,hb⟩;have X3:=Lib.hid hb;have S3:=Lib.hid (SH.out.call hb);have bx0:=((SH.out.call hb).blk 3 rfl).cell 0;have bx1:=((SH.out.call hb).blk 3 rfl).cell 1;have bxz:=((SH.out.call hb).blk 3 rfl).lt;clear hb))
      go_roundw
      case rel=>exact⟨k+1,H1,qa,ca,by omega,by go_num,by rw [HS2.out],HH1.out,by rw [HS2.out];exact HHD1.out,by rw [HS2.out];exact S3.out⟩
      case measure=>simp [intOf];omega
     | false =>
      rw [hnear,if_neg (by simp)] at hstp
      rw [hnear] at HNR
      have hnl:(nth H1 v).n=(nth T1 v).length:=hRr.nE
      have HCONV:Hid (∀ W p c,Sep w0 W (((.own 3 1 qa A1.length ca (encI A1) :: .own 4 1 (some ⟨w.heap.size+1,0,none⟩) n n (encBl S1) :: .own 3 1 qf F.length cf (encI F) :: .blk w.heap.size 131 #[.func (.func 84) #[] #[.pointer (some ⟨gr,0,none⟩)],.func (.func 85) #[] #[.pointer (some ⟨gl,0,none⟩)]] :: ctxsearchI gl gs pO nO cO pI n cI po no co P H0 T0 Φ H1 T1).set (v+8) (.ownS 105 2 p ((nth T1 v).length+1) c (encE (nth T1 v ++ [((h:Int),d)])) (nth H1 v).p (nth T1 v).length (encE (nth T1 v)))).set 5 (.own 32 1 pI n cI (encH (H1.set v ⟨p,(nth T1 v).length+1,c⟩))))→Sep w0 W (.own 3 1 qa A1.length ca (encI A1) :: .own 4 1 (some ⟨w.heap.size+1,0,none⟩) n n (encBl S1) :: .own 3 1 qf F.length cf (encI F) :: .blk w.heap.size 131 #[.func (.func 84) #[] #[.pointer (some ⟨gr,0,none⟩)],.func (.func 85) #[] #[.pointer (some ⟨gl,0,none⟩)]] :: ctxsearchI gl gs pO nO cO pI n cI po no co P H0 T0 Φ (H1.set v ⟨p,(nth T1 v).length+1,c⟩) (T1.set v (nth T1 v ++ [((h:Int),d)])))):=fun W p c Z=>by
       have e:=rowsS_set (Φ:=Φ) (H0:=H0) (T0:=T0) (m:=(nth T1 v).length+1) (c:=c) (p:=p) (r:=nth T1 v ++ [((h:Int),d)]) hv hH1 hT1
       have e2:Pc.ownS 105 2 p ((nth T1 v).length+1) c (encE (nth T1 v ++ [((h:Int),d)])) (nth H1 v).p (nth T1 v).length (encE (nth T1 v))=Pc.ownS 105 2 p ((nth T1 v).length+1) c (encE (nth T1 v ++ [((h:Int),d)])) (nth H0 v).p (nth H0 v).n (encE (nth T0 v)):=by
        rw [← hHv,hnl,← hTv]
       rw [e2] at Z
       show Sep w0 W (_ :: _ :: _ :: _ :: _ :: _ :: _ :: _ :: (rowsS n H0 T0 _ _ ++ Φ))
       rw [← e]
       exact Z
      have HADD:=Lib.hid (fun W SS=>AddI gl pO nO cO pI n cI H1 (nth T1 v) v ((h:Int),d) W w0 (.own 3 1 qa A1.length ca (encI A1) :: .own 4 1 (some ⟨w.heap.size+1,0,none⟩) n n (encBl S1) :: .own 3 1 qf F.length cf (encI F) :: .blk w.heap.size 131 #[.func (.func 84) #[] #[.pointer (some ⟨gr,0,none⟩)],.func (.func 85) #[] #[.pointer (some ⟨gl,0,none⟩)]] :: ctxsearchI gl gs pO nO cO pI n cI po no co P H0 T0 Φ H1 T1) 4 5 (v+8) SS rfl rfl HROW.out (by omega) (by omega) (by omega) hv (by omega) (by omega))
      have HHD2:Hid (∀ p c v',v'<n→nth (T1.set v (nth T1 v ++ [((h:Int),d)])) v'=nth T0 v'→nth (H1.set v ⟨p,(nth T1 v).length+1,c⟩) v'=nth H0 v'):=fun p c v' hv' he=>by
       rw [nth_setT _ _ _ (by omega)] at he
       rw [nth_setHd _ _ _ (by omega)]
       by_cases ee:v=v'
       ·subst ee
        rw [if_pos rfl,← hTv] at he
        have:=congrArg List.length he
        rw [List.length_append,List.length_singleton] at this
        omega
       ·rw [if_neg ee] at he ⊢
        exact HHD1.out v' hv' he
      have HHL2:Hid (∀ p c,(H1.set v ⟨p,(nth T1 v).length+1,c⟩).length=n):=fun p c=>by rw [List.length_set];exact hH1
      obtain⟨qn,cn,RN0,HC0⟩:=HNX.out v hv
      have HCN:=Lib.hid HC0
      have RN:=Lib.hid RN0
      have HIN:=Lib.hid (HXh.out.inr v hv)
      have p7:=RN0.ptr
      have n7:=RN0.small
      have HS2:=Lib.hid hstp
      have hS1c:S1.count false≤n:=by rw [← hS1];exact List.count_le_length
      have HS1:=Lib.hid hS1
      clear M hvk hTv hHv hstp hA hA2 hcn hS1 hT1 hr hrowL hsm hbl hown hRr hnear ev s1 t1 t2 t3 t4 hH1 hHd1 HI HM HST RN0 HC0 hnl
      have SH:=Lib.hid S;clear S
      go_wp2_with (first
       | (go_at_call 84;go_must (refine(HCN.out _ S4.out.ext).mono ?_;rintro e w5 ⟨rfl,hb⟩;have S5:=Lib.hid (S4.out.call hb);clear hb))
       | (go_at_call 85;go_must (refine(HADD.out _ S3.out).mono ?_;rintro e w4 ⟨rfl,p4,c4,Z0⟩;have Z:=HCONV.out _ _ _ Z0;have S4:=Lib.hid Z;obtain⟨by0,by1,byz⟩:=bkc0c1l (Z.blk 3 rfl);clear Z Z0))
       | (go_at_call 89;go_must (refine(HNR.out _ (Below.refl _ _)).mono ?_;rintro e w3 ⟨rfl,hb⟩;have X3:=Lib.hid hb;have S3:=Lib.hid (SH.out.call hb);have bx0:=((SH.out.call hb).blk 3 rfl).cell 0;have bx1:=((SH.out.call hb).blk 3 rfl).cell 1;have bxz:=((SH.out.call hb).blk 3 rfl).lt;clear hb)))
      clear bx0 bx1 bxz by0 by1 byz
      have HHD3:=Lib.hid (HHD2.out p4 c4)
      have HHL3:=Lib.hid (HHL2.out p4 c4)
      generalize H1.set v ⟨p4,(nth T1 v).length+1,c4⟩=H2 at *
      obtain⟨T2,hT2⟩:∃ T2,T1.set v (nth T1 v ++ [((h:Int),d)])=T2:=⟨_,rfl⟩
      rw [hT2] at S5 HS2 HHD3
      clear hT2 S3 S4 HADD HCONV HHD2 HHL2 HNR
      generalize nx v=RW at *
      go_loopw [11,15,50] (fun v11 _ i wy=>∃ (j:Nat) (qb:Option Addr) (cb:Nat),j≤RW.length∧i=.int .i64 j∧v11=.slice qb (rowW (S1,A1) (RW.take j)).2.length cb∧Sep w0 wy (.own 3 1 qb (rowW (S1,A1) (RW.take j)).2.length cb (encI (rowW (S1,A1) (RW.take j)).2) :: .own 4 1 (some ⟨w.heap.size+1,0,none⟩) n n (encBl (rowW (S1,A1) (RW.take j)).1) :: .own 3 1 qf F.length cf (encI F) :: .blk w.heap.size 131 #[.func (.func 84) #[] #[.pointer (some ⟨gr,0,none⟩)],.func (.func 85) #[] #[.pointer (some ⟨gl,0,none⟩)]] :: ctxsearchI gl gs pO nO cO pI n cI po no co P H0 T0 Φ H2 T2)) (fun _ _ i _=>RW.length - (intOf i).toNat)
      case atStart=>exact⟨0,qa,ca,Nat.zero_le _,rfl,rfl,S5.out⟩
      case round =>
       clear SH S5
       obtain⟨j,qb,cb,hj,rfl,rfl,S⟩:=hrel
       by_cases hlj:j<RW.length
       ·obtain⟨u,hu,hun⟩:=HIN.out (nth RW j) (nth_mem hlj)
        have g3:=S.ext.cell (RN.out.cI hlj)
        rw [hu] at g3
        have hpush:rowW (S1,A1) (RW.take (j+1))=pushW (rowW (S1,A1) (RW.take j)) u:=by rw [take_succ_nth RW j hlj,rowW_snoc,hu]
        have R:=rowW_ok (S:=S1) A1 (l:=RW.take j) fun x hx=>by rw [HS1.out];exact HIN.out x (List.mem_of_mem_take hx)
        have hS2:=R.len
        obtain⟨B,hB1,_,_,hB2,_⟩:=R.new
        generalize rowW (S1,A1) (RW.take j)=r2 at *
        obtain⟨S2,A2⟩:=r2
        simp only at *
        have hA2l:A2.length≤400:=by rw [hB1,List.length_append];omega
        have c2:=(S.rdx 1 rfl).cBl (k:=u) hun
        have f2:=own_frozen (S.own 1 rfl) (by omega) u
        rw [adr_some,Nat.zero_add] at c2 f2
        have e5:(0:Int)≤u:=by omega
        have e6:(u:Int)<n:=by omega
        have e7:(0:Int)≤j:=by omega
        have e8:(j:Int)<RW.length:=by omega
        unfold pushW at hpush
        simp only [Int.toNat_natCast] at hpush
        clear hu R hB1 hB2
        cases hs:nth S2 u with
        | true =>
         rw [hs] at c2 hpush
         rw [if_pos rfl] at hpush
         have HP2:=Lib.hid hpush
         clear hpush hs hS2
         have SJ:=Lib.hid S;clear S
         go_wp2
         go_roundw
         case rel=>exact⟨j+1,qb,cb,by omega,by go_num,by rw [HP2.out],by rw [HP2.out];exact SJ.out⟩
         case measure=>simp [intOf];omega
        | false =>
         rw [hs] at c2 hpush
         rw [if_neg (by simp)] at hpush
         have HP2:=Lib.hid hpush
         have SQ:Hid (Sep w0 (wr.setCell ⟨w.heap.size+1,u,none⟩ (.bool true)) (.own 3 1 qb A2.length cb (encI A2) :: .own 4 1 (some ⟨w.heap.size+1,0,none⟩) n n (encBl (S2.set u true)) :: .own 3 1 qf F.length cf (encI F) :: .blk w.heap.size 131 #[.func (.func 84) #[] #[.pointer (some ⟨gr,0,none⟩)],.func (.func 85) #[] #[.pointer (some ⟨gl,0,none⟩)]] :: ctxsearchI gl gs pO nO cO pI n cI po no co P H0 T0 Φ H2 T2)):=by
          have T:=S.setRow 1 rfl u (by omega) (.bool true)
          rw [adr_some,Nat.zero_add,encBl_set] at T
          exact T
         clear hpush hs hS2 S
         go_wp2_with (at_builtin;go_must (refine wpList_append_sep rfl _ _ _ rfl 3 i0 _ 1 8 Tryz.underlying25 hi0 hz0 hz1 hz2 rfl (by omega) (SQ.out.junk _) 0 qb A2.length cb _ rfl rfl _ 1 1 _ rfl (Rd.oneIat _ _ (u:Int) wr.heap.size (by simp)) (one_encI _) (by omega) (by omega) ?_;intro q7 c7 w7 S' hsz;have S7:=Lib.hid S';clear S' hsz))
         go_roundw
         case rel=>exact⟨j+1,q7,c7,by omega,by go_num,by rw [HP2.out,List.length_append];rfl,by rw [HP2.out];simp only;rw [List.length_append,encI_append];exact S7.out⟩
         case measure=>simp [intOf];omega
       ·obtain rfl:j=RW.length:=by omega
        rw [List.take_length] at S ⊢
        have SJ:=Lib.hid S;clear S
        go_wp2
        go_roundw
        case rel=>exact⟨k+1,H2,qb,cb,by omega,by go_num,by rw [HS2.out],HHL3.out,by rw [HS2.out];exact HHD3.out,by rw [HS2.out];exact SJ.out⟩
        case measure=>simp [intOf];omega
    ·obtain rfl:k=F.length:=by omega
     have HHD1:=Lib.hid hHd1.out
     have HH1:=Lib.hid hH1
     clear hHd1 hH1 HM HST HI
     have hnb:(LV F.length).2.1.length≤n:=by
      have hz:=HNXT.out
      exact nodup_small hz.nd fun x hx=>by obtain⟨u,e,h1,_⟩:=hz.front x hx;omega
     obtain⟨r,hr⟩:∃ r,LV F.length=r:=⟨_,rfl⟩
     rw [hr] at HNXT S HHD1 hnb ⊢
     obtain⟨S1,A1,T1⟩:=r
     simp only at HNXT S HHD1 hnb ⊢
     clear hr
     have SH:=Lib.hid S;clear S
     go_wp2
     apply_assumption
     go_wp2
     go_roundw
     case rel=>exact⟨d+1,S1,T1,A1,H1,qa,ca,rfl,by go_num,HNXT.out,HH1.out,HHD1.out,SH.out.sub (sub2 _ _ _ _)⟩
     case measure=>simp [intOf];omega
def ctxsearchO (gl gs:Nat) (pO:Option Addr) (nO cO:Nat) (pI:Option Addr) (n cI:Nat) (po:Option Addr) (no co:Nat) (P:Pc) (H0:List Hd) (T0:SrT) (Φ:List Pc) (H:List Hd) (T:SrT):List Pc:=.blk gl 67 #[.slice pI n cI,.slice pO nO cO] :: .own 32 1 pI n cI (encH H) :: .blk gs 32 #[.slice po no co] :: P :: (rowsS n H0 T0 H T ++ Φ)
theorem searchO (gr gl gs:Nat) (pO:Option Addr) (nO cO:Nat) (pI:Option Addr) (n cI:Nat) (po:Option Addr) (no co:Nat) (OUT:List (Int × Int)) (P:Pc) (H0:List Hd) (T0:SrT) (Φ:List Pc) (h:Nat) (nx:Nat→List Int) (good:Nat→Bool) (dd:Nat→Int) (w w0:World)
  (S:Sep w0 w (ctxsearchO gl gs pO nO cO pI n cI po no co P H0 T0 Φ H0 T0)) (HP:∀ W,P.holds W→Rd W 2 po no (encE OUT)) (bO:SmH OUT) (bT:∀ v,v<n→SmH (nth T0 v)) (bL:∀ v,v<n→(nth T0 v).length≤200) (hn:n≤200) (hH0:H0.length=n)
  (HX:SrW nx (fun row d=>nearB (leastV row OUT) d) n h T0 good dd)
  (HN:∀ k,k<n→∃ q c,Rd w0 1 q (nx k).length (encI (nx k))∧∀ W,Ext w0 W→Calls Tryz.prog 86 #[.int .i64 k,.pointer (some ⟨gr,0,none⟩)] W fun e w'=>e=.returned (.slice q (nx k).length c)∧Ext W w') :
  Calls Tryz.prog 88 #[.agg #[.func (.func 86) #[] #[.pointer (some ⟨gr,0,none⟩)],.func (.func 87) #[] #[.pointer (some ⟨gl,0,none⟩)]],.int .i64 n,.int .i64 h,.func (.func 91) #[] #[.pointer (some ⟨gl,0,none⟩),.pointer (some ⟨gs,0,none⟩)]] w fun e w'=>e=.returned (.tuple #[])∧∃ H',H'.length=n∧Sep w0 w' (ctxsearchO gl gs pO nO cO pI n cI po no co P H0 T0 Φ H' ((List.range n).map fun v=>toldW h T0 good dd v)):=by
 obtain⟨i0,hi0,hz0,hz1,hz2⟩:=info_parts infI
 obtain⟨j0,hj0,hy0,hy1,hy2⟩:=info_parts infBl
 have hh:=HX.hh
 have d1:(0:Int)≤h:=by omega
 have d2:(h:Int)<n:=by omega
 have HXh:=Lib.hid HX
 have HI0:=Lib.hid (SInv.start HX)
 have HNX:=Lib.hid HN
 have HPR:=Lib.hid HP
 have HBO:=Lib.hid bO
 have HBT:=Lib.hid bT
 have HBL:=Lib.hid bL
 have HH0:=Lib.hid hH0
 have S1:=Lib.hid (S.al #[.func (.func 86) #[] #[.pointer (some ⟨gr,0,none⟩)],.func (.func 87) #[] #[.pointer (some ⟨gl,0,none⟩)]] 131 w.heap.size rfl)
 have HQ:Hid ((w.alloc (.cells #[.func (.func 86) #[] #[.pointer (some ⟨gr,0,none⟩)],.func (.func 87) #[] #[.pointer (some ⟨gl,0,none⟩)]] 131)).heap.size=w.heap.size+1):=by unfold Hid;simp
 clear S HX HN HP bO bT bL hH0
 go_enter Tryz.func88,Tryz.ntmps88
 go_wp2_with (at_make;go_must (refine wpList_make_sep rfl _ _ _ rfl 4 j0 _ 1 Tryz.underlying194 hj0 hy0 hy1 (n:Int) n rfl rfl rfl (by rw [hy2];omega) (by unfold maxLen;omega) S1.out ?_;intro w2 S';rw [madeBl2,HQ.out] at S';have S2:=Lib.hid S';have fz:=own_frozen (S'.own 0 rfl) (by omega) h;have cz:=(S'.rdx 0 rfl).cBl hh;rw [adr_some,Nat.zero_add] at fz cz;clear S'))
 have S4:Hid (Sep w0 ((w2.setCell ⟨w.heap.size+1,h,none⟩ (.bool true)).alloc (.cells #[.int .i64 h] 3)) (.own 3 1 (some ⟨w2.heap.size,0,none⟩) [(h:Int)].length 1 (encI [(h:Int)]) :: .own 4 1 (some ⟨w.heap.size+1,0,none⟩) n n (encBl ((List.replicate n false).set h true)) :: .blk w.heap.size 131 #[.func (.func 86) #[] #[.pointer (some ⟨gr,0,none⟩)],.func (.func 87) #[] #[.pointer (some ⟨gl,0,none⟩)]] :: ctxsearchO gl gs pO nO cO pI n cI po no co P H0 T0 Φ H0 T0)):=by
  have T:=S2.out.setRow 0 rfl h (by omega) (.bool true)
  rw [adr_some,Nat.zero_add,encBl_set] at T
  exact T.alrow #[.int .i64 (h:Int)] 3 1 1 w2.heap.size (by simp) (by decide) rfl
 generalize (w2.setCell ⟨w.heap.size+1,h,none⟩ (.bool true)).alloc (.cells #[.int .i64 (h:Int)] 3)=w3 at *
 generalize (some ⟨w2.heap.size,0,none⟩:Option Addr)=qf0 at *
 clear fz cz S1 S2 HQ
 go_loopw [9,10,11,13,15] (fun v9 v10 _ _ _ wr=>∃ (d:Int) (Sn:List Bool) (T:SrT) (F:List Int) (H:List Hd) (qf:Option Addr) (cf:Nat),v9=.slice qf F.length cf∧v10=.int .i64 d∧SInv nx n h T0 good dd d Sn T F∧H.length=n∧Hid (∀ v,v<n→nth T v=nth T0 v→nth H v=nth H0 v)∧Sep w0 wr (.own 3 1 qf F.length cf (encI F) :: .own 4 1 (some ⟨w.heap.size+1,0,none⟩) n n (encBl Sn) :: .blk w.heap.size 131 #[.func (.func 86) #[] #[.pointer (some ⟨gr,0,none⟩)],.func (.func 87) #[] #[.pointer (some ⟨gl,0,none⟩)]] :: ctxsearchO gl gs pO nO cO pI n cI po no co P H0 T0 Φ H T)) (fun _ v10 _ _ _ _=>((n:Int)+1 - intOf v10).toNat)
 case atStart=>exact⟨0,_,T0,[(h:Int)],H0,qf0,1,rfl,rfl,HI0.out,HH0.out,fun _ _ _=>rfl,S4.out⟩
 case round =>
  clear S4 HI0
  obtain⟨d,Sn,T,F,H,qf,cf,rfl,rfl,hI,hHl,hHd,S⟩:=hrel
  have hd0:=hI.d0
  have hbd:=hI.bd
  by_cases hF:F=[]
  ·subst hF
   have HE:=Lib.hid (SInv.done HXh.out hI)
   have HHL:=Lib.hid hHl
   clear hI hHl hbd
   have SH:=Lib.hid S;clear S
   go_wp2
   go_end0
   refine⟨rfl,H,HHL.out,?_⟩
   rw [← HE.out]
   exact SH.out.sub ((List.sublist_cons_self _ _).trans ((List.sublist_cons_self _ _).trans (List.sublist_cons_self _ _)))
  ·have hFl:0<F.length:=List.length_pos_iff.2 hF
   rw [if_neg hF] at hbd
   have hdn:d+1≤n:=by omega
   have hFn:F.length≤n:=nodup_small hI.nd fun x hx=>by obtain⟨u,e,h1,_⟩:=hI.front x hx;omega
   have c1:decide ((0:Int)<F.length)=true:=by simp;omega
   obtain⟨LV,hLV⟩:∃ LV:Nat→SrS,LV=fun k=>levelW nx (fun row d=>nearB (leastV row OUT) d) (h:Int) d Sn T (F.take k):=⟨_,rfl⟩
   have HI:=Lib.hid hI
   have HM:Hid (∀ k,MInv nx n h good d Sn T (F.take k) (LV k)):=fun k=>by
    rw [hLV];exact MInv.run HXh.out hI _ ⟨F.drop k,(List.take_append_drop k F).symm⟩
   have HST:Hid (∀ k,k<F.length→LV (k+1)=visitW nx (fun row d=>nearB (leastV row OUT) d) (h:Int) d (LV k) (nth F k)):=fun k hk=>by
    rw [hLV];simp only;rw [take_succ_nth F k hk,levelW_snoc]
   have HL0:Hid (LV 0=(Sn,[],T)):=by unfold Hid;rw [hLV];rfl
   have HNXT:=Lib.hid (SInv.next HXh.out hI hF)
   have hle:LV F.length=levelW nx (fun row d=>nearB (leastV row OUT) d) (h:Int) d Sn T F:=by rw [hLV];simp only;rw [List.take_length]
   rw [← hle] at HNXT
   have HHL:=Lib.hid hHl
   have HHD:=Lib.hid hHd.out
   clear hI hHl hHd hLV hle hbd hF
   have SH:=Lib.hid S;clear S
   go_wp2
   go_step3
   go_wp2
   go_step3
   go_wp2
   go_loopw [11,13,15,30] (fun v11 _ _ i wx=>∃ (k:Nat) (H1:List Hd) (qa:Option Addr) (ca:Nat),k≤F.length∧i=.int .i64 k∧v11=.slice qa (LV k).2.1.length ca∧H1.length=n∧Hid (∀ v,v<n→nth (LV k).2.2 v=nth T0 v→nth H1 v=nth H0 v)∧Sep w0 wx (.own 3 1 qa (LV k).2.1.length ca (encI (LV k).2.1) :: .own 4 1 (some ⟨w.heap.size+1,0,none⟩) n n (encBl (LV k).1) :: .own 3 1 qf F.length cf (encI F) :: .blk w.heap.size 131 #[.func (.func 86) #[] #[.pointer (some ⟨gr,0,none⟩)],.func (.func 87) #[] #[.pointer (some ⟨gl,0,none⟩)]] :: ctxsearchO gl gs pO nO cO pI n cI po no co P H0 T0 Φ H1 (LV k).2.2)) (fun _ _ _ i _=>F.length - (intOf i).toNat)
   case atStart=>exact⟨0,H,none,0,Nat.zero_le _,rfl,by rw [HL0.out];rfl,HHL.out,by rw [HL0.out];exact HHD.out,by
    rw [HL0.out]
    exact(SH.out.nilrow 3 1).perm (List.Perm.trans (List.Perm.cons _ (List.Perm.swap _ _ _)) (List.Perm.refl _))⟩
   case round =>
    clear SH HHL HHD HL0
    obtain⟨k,H1,qa,ca,hk,rfl,rfl,hH1,hHd1,S⟩:=hrel
    by_cases hlt:k<F.length
    ·obtain⟨v,ev,hv,s1,t1,t2,t3,t4⟩:=HI.out.front (nth F k) (nth_mem hlt)
     have M:=HM.out k
     have hvk:(v:Int) ∉ F.take k:=by rw [← ev];exact nodup_take HI.out.nd hlt
     have hTv:nth (LV k).2.2 v=nth T0 v:=by rw [M.tab v hv,if_neg fun hc=>hvk hc.1,t1]
     have hHv:nth H1 v=nth H0 v:=hHd1.out v hv hTv
     have hstp:=HST.out k hlt
     rw [ev] at hstp
     have g1:=(S.rdx 2 rfl).cI hlt
     rw [ev] at g1
     have hA:=M.nd
     have hA2:=M.ahead
     have hcn:=M.cnt
     have hS1:=M.lenS
     have hT1:=M.lenT
     have p1:=(S.rdx 2 rfl).ptr
     obtain⟨r,hr⟩:∃ r,LV k=r:=⟨_,rfl⟩
     rw [hr] at hstp hTv hA hA2 S hHd1 hcn hS1 hT1 ⊢
     obtain⟨S1,A1,T1⟩:=r
     simp only at hstp hTv hA hA2 S hHd1 hcn hS1 hT1 ⊢
     have hAl:A1.length≤n:=nodup_small hA fun x hx=>by obtain⟨u,e,h1,_⟩:=hA2 x hx;omega
     have hrowL:(rowsS n H0 T0 H1 T1 ++ Φ)[v]?=some (.ownS 105 2 (nth H1 v).p (nth H1 v).n (nth H1 v).c (encE (nth T1 v)) (nth H1 v).p (nth H1 v).n (encE (nth T1 v))):=by
      rw [rowsS_at hv,hHv,hTv]
     have hsm:=HBT.out v hv
     have hbl:=HBL.out v hv
     rw [← hTv] at hsm hbl
     have HROW:=Lib.hid hrowL
     have hown:=(S.ownS (v+8) hrowL).1
     have hRr:=Rd.of_own hown (own_sm hown)
     have HNR:=Lib.hid (fun W (hE:Ext wr W)=>NearO gs gl po no co OUT pO nO cO pI n cI H1 (nth T1 v) v d W ((S.blk 6 rfl).ext hE) ((HPR.out _ (S.all _ (List.mem_of_getElem? (show _[7]?=some P from rfl)))).ext hE) ((S.blk 4 rfl).ext hE) ((S.rdx 5 rfl).ext hE) (hRr.ext hE) hv HBO.out hsm)
     have HV:=Lib.hid (show v<n from hv)
     have e1:(0:Int)≤v:=by omega
     have e2:(v:Int)<n:=by omega
     have e3:(0:Int)≤k:=by omega
     have e4:(k:Int)<F.length:=by omega
     unfold visitW at hstp
     simp only [Int.toNat_natCast] at hstp
     have HH1:=Lib.hid hH1
     have HT1:=Lib.hid hT1
     have HHD1:=Lib.hid hHd1.out
     have HTV:=Lib.hid hTv
     have HHV:=Lib.hid hHv
     cases hnear:nearB (leastV (nth T1 v) OUT) d with
     | true =>
      rw [hnear,if_pos rfl] at hstp
      rw [hnear] at HNR
      have HS2:=Lib.hid hstp
      clear M hvk hTv hHv hstp hA hA2 hcn hS1 hT1 hr hrowL hsm hbl hown hRr hnear ev s1 t1 t2 t3 t4 hH1 hHd1 HI HM HST
      have SH:=Lib.hid S;clear S
      go_wp2_with (go_at_call 91;go_must (refine(HNR.out _ (Below.refl _ _)).mono ?_;rintro e w3 ⟨rfl,hb⟩;have X3:=Lib.hid hb;have S3:=Lib.hid (SH.out.call hb);have bx0:=((SH.out.call hb).blk 3 rfl).cell 0;have bx1:=((SH.out.call hb).blk 3 rfl).cell 1;have bxz:=((SH.out.call hb).blk 3 rfl).lt;clear hb))
      go_roundw
      case rel=>exact⟨k+1,H1,qa,ca,by omega,by go_num,by rw [HS2.out],HH1.out,by rw [HS2.out];exact HHD1.out,by rw [HS2.out];exact S3.out⟩
      case measure=>simp [intOf];omega
     | false =>
      rw [hnear,if_neg (by simp)] at hstp
      rw [hnear] at HNR
      have hnl:(nth H1 v).n=(nth T1 v).length:=hRr.nE
      have HCONV:Hid (∀ W p c,Sep w0 W (((.own 3 1 qa A1.length ca (encI A1) :: .own 4 1 (some ⟨w.heap.size+1,0,none⟩) n n (encBl S1) :: .own 3 1 qf F.length cf (encI F) :: .blk w.heap.size 131 #[.func (.func 86) #[] #[.pointer (some ⟨gr,0,none⟩)],.func (.func 87) #[] #[.pointer (some ⟨gl,0,none⟩)]] :: ctxsearchO gl gs pO nO cO pI n cI po no co P H0 T0 Φ H1 T1).set (v+8) (.ownS 105 2 p ((nth T1 v).length+1) c (encE (nth T1 v ++ [((h:Int),d)])) (nth H1 v).p (nth T1 v).length (encE (nth T1 v)))).set 5 (.own 32 1 pI n cI (encH (H1.set v ⟨p,(nth T1 v).length+1,c⟩))))→Sep w0 W (.own 3 1 qa A1.length ca (encI A1) :: .own 4 1 (some ⟨w.heap.size+1,0,none⟩) n n (encBl S1) :: .own 3 1 qf F.length cf (encI F) :: .blk w.heap.size 131 #[.func (.func 86) #[] #[.pointer (some ⟨gr,0,none⟩)],.func (.func 87) #[] #[.pointer (some ⟨gl,0,none⟩)]] :: ctxsearchO gl gs pO nO cO pI n cI po no co P H0 T0 Φ (H1.set v ⟨p,(nth T1 v).length+1,c⟩) (T1.set v (nth T1 v ++ [((h:Int),d)])))):=fun W p c Z=>by
       have e:=rowsS_set (Φ:=Φ) (H0:=H0) (T0:=T0) (m:=(nth T1 v).length+1) (c:=c) (p:=p) (r:=nth T1 v ++ [((h:Int),d)]) hv hH1 hT1
       have e2:Pc.ownS 105 2 p ((nth T1 v).length+1) c (encE (nth T1 v ++ [((h:Int),d)])) (nth H1 v).p (nth T1 v).length (encE (nth T1 v))=Pc.ownS 105 2 p ((nth T1 v).length+1) c (encE (nth T1 v ++ [((h:Int),d)])) (nth H0 v).p (nth H0 v).n (encE (nth T0 v)):=by
        rw [← hHv,hnl,← hTv]
       rw [e2] at Z
       show Sep w0 W (_ :: _ :: _ :: _ :: _ :: _ :: _ :: _ :: (rowsS n H0 T0 _ _ ++ Φ))
       rw [← e]
       exact Z
      have HADD:=Lib.hid (fun W SS=>AddO gl pO nO cO pI n cI H1 (nth T1 v) v ((h:Int),d) W w0 (.own 3 1 qa A1.length ca (encI A1) :: .own 4 1 (some ⟨w.heap.size+1,0,none⟩) n n (encBl S1) :: .own 3 1 qf F.length cf (encI F) :: .blk w.heap.size 131 #[.func (.func 86) #[] #[.pointer (some ⟨gr,0,none⟩)],.func (.func 87) #[] #[.pointer (some ⟨gl,0,none⟩)]] :: ctxsearchO gl gs pO nO cO pI n cI po no co P H0 T0 Φ H1 T1) 4 5 (v+8) SS rfl rfl HROW.out (by omega) (by omega) (by omega) hv (by omega) (by omega))
      have HHD2:Hid (∀ p c v',v'<n→nth (T1.set v (nth T1 v ++ [((h:Int),d)])) v'=nth T0 v'→nth (H1.set v ⟨p,(nth T1 v).length+1,c⟩) v'=nth H0 v'):=fun p c v' hv' he=>by
       rw [nth_setT _ _ _ (by omega)] at he
       rw [nth_setHd _ _ _ (by omega)]
       by_cases ee:v=v'
       ·subst ee
        rw [if_pos rfl,← hTv] at he
        have:=congrArg List.length he
        rw [List.length_append,List.length_singleton] at this
        omega
       ·rw [if_neg ee] at he ⊢
        exact HHD1.out v' hv' he
      have HHL2:Hid (∀ p c,(H1.set v ⟨p,(nth T1 v).length+1,c⟩).length=n):=fun p c=>by rw [List.length_set];exact hH1
      obtain⟨qn,cn,RN0,HC0⟩:=HNX.out v hv
      have HCN:=Lib.hid HC0
      have RN:=Lib.hid RN0
      have HIN:=Lib.hid (HXh.out.inr v hv)
      have p7:=RN0.ptr
      have n7:=RN0.small
      have HS2:=Lib.hid hstp
      have hS1c:S1.count false≤n:=by rw [← hS1];exact List.count_le_length
      have HS1:=Lib.hid hS1
      clear M hvk hTv hHv hstp hA hA2 hcn hS1 hT1 hr hrowL hsm hbl hown hRr hnear ev s1 t1 t2 t3 t4 hH1 hHd1 HI HM HST RN0 HC0 hnl
      have SH:=Lib.hid S;clear S
      go_wp2_with (first
       | (go_at_call 86;go_must (refine(HCN.out _ S4.out.ext).mono ?_;rintro e w5 ⟨rfl,hb⟩;have S5:=Lib.hid (S4.out.call hb);clear hb))
       | (go_at_call 87;go_must (refine(HADD.out _ S3.out).mono ?_;rintro e w4 ⟨rfl,p4,c4,Z0⟩;have Z:=HCONV.out _ _ _ Z0;have S4:=Lib.hid Z;obtain⟨by0,by1,byz⟩:=bkc0c1l (Z.blk 3 rfl);clear Z Z0))
       | (go_at_call 91;go_must (refine(HNR.out _ (Below.refl _ _)).mono ?_;rintro e w3 ⟨rfl,hb⟩;have X3:=Lib.hid hb;have S3:=Lib.hid (SH.out.call hb);have bx0:=((SH.out.call hb).blk 3 rfl).cell 0;have bx1:=((SH.out.call hb).blk 3 rfl).cell 1;have bxz:=((SH.out.call hb).blk 3 rfl).lt;clear hb)))
      clear bx0 bx1 bxz by0 by1 byz
      have HHD3:=Lib.hid (HHD2.out p4 c4)
      have HHL3:=Lib.hid (HHL2.out p4 c4)
      generalize H1.set v ⟨p4,(nth T1 v).length+1,c4⟩=H2 at *
      obtain⟨T2,hT2⟩:∃ T2,T1.set v (nth T1 v ++ [((h:Int),d)])=T2:=⟨_,rfl⟩
      rw [hT2] at S5 HS2 HHD3
      clear hT2 S3 S4 HADD HCONV HHD2 HHL2 HNR
      generalize nx v=RW at *
      go_loopw [11,15,50] (fun v11 _ i wy=>∃ (j:Nat) (qb:Option Addr) (cb:Nat),j≤RW.length∧i=.int .i64 j∧v11=.slice qb (rowW (S1,A1) (RW.take j)).2.length cb∧Sep w0 wy (.own 3 1 qb (rowW (S1,A1) (RW.take j)).2.length cb (encI (rowW (S1,A1) (RW.take j)).2) :: .own 4 1 (some ⟨w.heap.size+1,0,none⟩) n n (encBl (rowW (S1,A1) (RW.take j)).1) :: .own 3 1 qf F.length cf (encI F) :: .blk w.heap.size 131 #[.func (.func 86) #[] #[.pointer (some ⟨gr,0,none⟩)],.func (.func 87) #[] #[.pointer (some ⟨gl,0,none⟩)]] :: ctxsearchO gl gs pO nO cO pI n cI po no co P H0 T0 Φ H2 T2)) (fun _ _ i _=>RW.length - (intOf i).toNat)
      case atStart=>exact⟨0,qa,ca,Nat.zero_le _,rfl,rfl,S5.out⟩
      case round =>
       clear SH S5
       obtain⟨j,qb,cb,hj,rfl,rfl,S⟩:=hrel
       by_cases hlj:j<RW.length
       ·obtain⟨u,hu,hun⟩:=HIN.out (nth RW j) (nth_mem hlj)
        have g3:=S.ext.cell (RN.out.cI hlj)
        rw [hu] at g3
        have hpush:rowW (S1,A1) (RW.take (j+1))=pushW (rowW (S1,A1) (RW.take j)) u:=by rw [take_succ_nth RW j hlj,rowW_snoc,hu]
        have R:=rowW_ok (S:=S1) A1 (l:=RW.take j) fun x hx=>by rw [HS1.out];exact HIN.out x (List.mem_of_mem_take hx)
        have hS2:=R.len
        obtain⟨B,hB1,_,_,hB2,_⟩:=R.new
        generalize rowW (S1,A1) (RW.take j)=r2 at *
        obtain⟨S2,A2⟩:=r2
        simp only at *
        have hA2l:A2.length≤400:=by rw [hB1,List.length_append];omega
        have c2:=(S.rdx 1 rfl).cBl (k:=u) hun
        have f2:=own_frozen (S.own 1 rfl) (by omega) u
        rw [adr_some,Nat.zero_add] at c2 f2
        have e5:(0:Int)≤u:=by omega
        have e6:(u:Int)<n:=by omega
        have e7:(0:Int)≤j:=by omega
        have e8:(j:Int)<RW.length:=by omega
        unfold pushW at hpush
        simp only [Int.toNat_natCast] at hpush
        clear hu R hB1 hB2
        cases hs:nth S2 u with
        | true =>
         rw [hs] at c2 hpush
         rw [if_pos rfl] at hpush
         have HP2:=Lib.hid hpush
         clear hpush hs hS2
         have SJ:=Lib.hid S;clear S
         go_wp2
         go_roundw
         case rel=>exact⟨j+1,qb,cb,by omega,by go_num,by rw [HP2.out],by rw [HP2.out];exact SJ.out⟩
         case measure=>simp [intOf];omega
        | false =>
         rw [hs] at c2 hpush
         rw [if_neg (by simp)] at hpush
         have HP2:=Lib.hid hpush
         have SQ:Hid (Sep w0 (wr.setCell ⟨w.heap.size+1,u,none⟩ (.bool true)) (.own 3 1 qb A2.length cb (encI A2) :: .own 4 1 (some ⟨w.heap.size+1,0,none⟩) n n (encBl (S2.set u true)) :: .own 3 1 qf F.length cf (encI F) :: .blk w.heap.size 131 #[.func (.func 86) #[] #[.pointer (some ⟨gr,0,none⟩)],.func (.func 87) #[] #[.pointer (some ⟨gl,0,none⟩)]] :: ctxsearchO gl gs pO nO cO pI n cI po no co P H0 T0 Φ H2 T2)):=by
          have T:=S.setRow 1 rfl u (by omega) (.bool true)
          rw [adr_some,Nat.zero_add,encBl_set] at T
          exact T
         clear hpush hs hS2 S
         go_wp2_with (at_builtin;go_must (refine wpList_append_sep rfl _ _ _ rfl 3 i0 _ 1 8 Tryz.underlying25 hi0 hz0 hz1 hz2 rfl (by omega) (SQ.out.junk _) 0 qb A2.length cb _ rfl rfl _ 1 1 _ rfl (Rd.oneIat _ _ (u:Int) wr.heap.size (by simp)) (one_encI _) (by omega) (by omega) ?_;intro q7 c7 w7 S' hsz;have S7:=Lib.hid S';clear S' hsz))
         go_roundw
         case rel=>exact⟨j+1,q7,c7,by omega,by go_num,by rw [HP2.out,List.length_append];rfl,by rw [HP2.out];simp only;rw [List.length_append,encI_append];exact S7.out⟩
         case measure=>simp [intOf];omega
       ·obtain rfl:j=RW.length:=by omega
        rw [List.take_length] at S ⊢
        have SJ:=Lib.hid S;clear S
        go_wp2
        go_roundw
        case rel=>exact⟨k+1,H2,qb,cb,by omega,by go_num,by rw [HS2.out],HHL3.out,by rw [HS2.out];exact HHD3.out,by rw [HS2.out];exact SJ.out⟩
        case measure=>simp [intOf];omega
    ·obtain rfl:k=F.length:=by omega
     have HHD1:=Lib.hid hHd1.out
     have HH1:=Lib.hid hH1
     clear hHd1 hH1 HM HST HI
     have hnb:(LV F.length).2.1.length≤n:=by
      have hz:=HNXT.out
      exact nodup_small hz.nd fun x hx=>by obtain⟨u,e,h1,_⟩:=hz.front x hx;omega
     obtain⟨r,hr⟩:∃ r,LV F.length=r:=⟨_,rfl⟩
     rw [hr] at HNXT S HHD1 hnb ⊢
     obtain⟨S1,A1,T1⟩:=r
     simp only at HNXT S HHD1 hnb ⊢
     clear hr
     have SH:=Lib.hid S;clear S
     go_wp2
     apply_assumption
     go_wp2
     go_roundw
     case rel=>exact⟨d+1,S1,T1,A1,H1,qa,ca,rfl,by go_num,HNXT.out,HH1.out,HHD1.out,SH.out.sub (sub2 _ _ _ _)⟩
     case measure=>simp [intOf];omega
end
section
open Go Go.RowKit
attribute [local go_sem ↓] Go.wp_at_zero Go.wp_at_succ
def rowsB (wk:Nat) (hs:List Hd) (M:List Sq):List Pc:=(List.range wk).map fun h=>.own 138 4 (nth hs h).p (nth hs h).n (nth hs h).c (encQ (boxQ M wk h))
theorem rowsB_at {wk:Nat} {hs:List Hd} {M:List Sq} {h:Nat} (hh:h<wk):(rowsB wk hs M)[h]?=some (.own 138 4 (nth hs h).p (nth hs h).n (nth hs h).c (encQ (boxQ M wk h))):=by simp [rowsB,hh]
theorem rowsB_set {wk:Nat} {hs:List Hd} {M:List Sq} {x:Sq} {p:Option Addr} {m c:Nat} (hh:homeV x.v wk<wk) (hl:hs.length=wk) :
  (rowsB wk hs M).set (homeV x.v wk) (.own 138 4 p m c (encQ (boxQ M wk (homeV x.v wk) ++ [x])))=rowsB wk (hs.set (homeV x.v wk) ⟨p,m,c⟩) (M ++ [x]):=by
 apply List.ext_getElem
 ·simp [rowsB]
 ·intro j h1 h2
  have hj:j<wk:=by simpa [rowsB] using h2
  rw [List.getElem_set]
  simp only [rowsB,List.getElem_map,List.getElem_range]
  rw [nth_setHd hs j _ (by omega),boxQ_snoc]
  by_cases e:homeV x.v wk=j
  ·subst e;simp
  ·simp [e]
theorem infMls:(Tryz.prog.info? 83).map (fun i=>(i.zero,i.size,i.bytes))=some (some (.slice none 0 0),1,24):=by kernel_rfl
theorem made_encH (n:Nat):(madeCells (Value.slice none 0 0).cells (n*1)).toList=encH (List.replicate n ⟨none,0,0⟩):=by
 apply List.ext_getElem
 ·simp [madeCells,encH]
 ·intro i h1 h2
  simp [madeCells,Value.cells,Nat.mod_one,encH,Hd.v]
theorem Sep.nilB {w0 w:World} {Γ:List Pc} (S:Sep w0 w Γ) (e:TypeId) (size:Nat):∀ n,Sep w0 w (Γ ++ List.replicate n (.own e size none 0 0 []))
 | 0=>by simpa using S
 | n+1=>by
  have h:=((S.nilB e size n).nilrow e size)
  exact h.perm (by rw [List.replicate_succ];exact List.perm_middle)
theorem rowsB_nil (wk:Nat):rowsB wk (List.replicate wk ⟨none,0,0⟩) []=List.replicate wk (.own 138 4 none 0 0 []):=by
 apply List.ext_getElem
 ·simp [rowsB]
 ·intro i h1 h2
  have hi:i<wk:=by simpa using h2
  have e:nth (List.replicate wk (⟨none,0,0⟩:Hd)) i=⟨none,0,0⟩:=by rw [nth_eq (by simpa using hi)];simp
  simp only [rowsB,List.getElem_map,List.getElem_range,List.getElem_replicate,e,boxQ_nil]
  rfl
theorem SplitG (p:Option Addr) (n c:Nat) (M:List Sq) (wk:Nat) (w:World) (hl:Rd w 4 p n (encQ M)) (hm:∀ x∈M,mayB x=true) (h1:1≤wk) (h16:wk≤16) (hn:n≤100000) :
  Calls Tryz.prog 140 #[.slice p n c,.int .i64 wk] w fun e w'=>∃ q hs,hs.length=wk∧e=.returned (.tuple #[.slice q wk wk,.int .i64 0])∧Sep w w' (.own 83 1 q wk wk (encH hs) :: rowsB wk hs M):=by
 obtain⟨j0,ji0,jz0,jz1,jz2⟩:=info_parts infMls
 obtain⟨i0,hi0,hz0,hz1,hz2⟩:=info_parts infMail
 have p1:=hl.ptr
 have n1:=hl.small
 have L1:=Lib.hid hl.nQ
 have HM:=Lib.hid hm
 have HL:=Lib.hid hl
 have HC:=Lib.hid (CheckM p n c M w hl hm)
 have HH:=Lib.hid (fun (v:Int) W (a:0≤v) (b:v≤1000000)=>HomeG v wk W a b h1 h16)
 clear hl hm
 go_enter Tryz.func140,Tryz.ntmps140
 go_wp2_with (first
  | (at_make;have _t:=HE;go_must (refine wpList_make_sep rfl _ _ _ rfl 83 j0 _ 1 Tryz.underlying197 ji0 jz0 jz1 (wk:Int) wk rfl rfl rfl (by rw [jz2];omega) (by unfold maxLen;omega) ((Sep.start w).call HE.out) ?_;intro w2 S';rw [made_encH] at S';have S2:=Lib.hid (S'.nilB 138 4 wk);clear S'))
  | (go_at_call 143;go_must (refine HC.out.mono ?_;rintro e w1 ⟨rfl,hb⟩;have HE:=Lib.hid hb;clear hb))
  | (go_at_call 50;go_must (refine(HH.out 0 _ (by omega) (by omega)).mono ?_;rintro e w1 ⟨rfl,rfl⟩)))
 rw [← rowsB_nil] at S2
 generalize (some ⟨w1.heap.size,0,none⟩:Option Addr)=q at *
 go_loopw [10,11,12,29] (fun _ _ _ i wr=>∃ (k:Nat) (hs:List Hd),k≤n∧i=.int .i64 k∧hs.length=wk∧Hid (Sep w wr (.own 83 1 q wk wk (encH hs) :: rowsB wk hs (M.take k)))) (fun _ _ _ i _=>n - (intOf i).toNat)
 case atStart=>exact⟨0,_,Nat.zero_le _,rfl,by simp,S2⟩
 case round =>
  clear S2
  obtain⟨k,hs,hk,rfl,HHL,S⟩:=hrel
  by_cases hlt:k<n
  ·obtain⟨g1,g2,g3,g4⟩:=(HL.out.ext S.out.ext).cQ hlt
   have hkl:k<M.length:=by rw [← L1.out];exact hlt
   have hx:=HM.out (nth M k) (nth_mem hkl)
   have HT:=Lib.hid (take_succ_nth M k hkl)
   have hbl:=boxQ_len (M.take k) wk
   have HBL:Hid (∀ h,(boxQ (M.take k) wk h).length≤100000):=fun h=>by
    have:=hbl h
    rw [List.length_take] at this
    omega
   obtain⟨x,hxl⟩:∃ x,nth M k=x:=⟨_,rfl⟩
   rw [hxl] at g1 g2 g3 g4 hx HT
   obtain⟨m1,m2,m3,m4,m5,m6,m7⟩:=mayB_iff.1 hx
   have hhw:homeV x.v wk<wk:=homeV_lt (by omega)
   have HSET:=Lib.hid (fun p m c=>rowsB_set (hs:=hs) (M:=M.take k) (p:=p) (m:=m) (c:=c) hhw HHL)
   have HHX:=Lib.hid (fun W=>HH.out x.v W m4 (by omega))
   obtain⟨h,hhe⟩:∃ h,homeV x.v wk=h:=⟨_,rfl⟩
   rw [hhe] at HHX hhw HSET
   obtain⟨row,hrow⟩:∃ row,boxQ (M.take k) wk h=row:=⟨_,rfl⟩
   rw [hrow] at HSET
   have hrl:row.length≤100000:=by rw [← hrow];exact HBL.out h
   have hat:=rowsB_at (hs:=hs) (M:=M.take k) hhw
   rw [hrow] at hat
   have d1:(0:Int)≤h:=by omega
   have d2:(h:Int)<wk:=by omega
   have hR:=S.out.rdx (h+1) (by rw [List.getElem?_cons_succ];exact hat)
   have hnl:(nth hs h).n=row.length:=hR.nQ
   obtain⟨hd,hhd⟩:∃ hd,nth hs h=hd:=⟨_,rfl⟩
   rw [hhd] at hat hnl
   obtain⟨hp,hn',hc⟩:=hd
   simp only at hat hnl
   subst hnl
   have S1:=Lib.hid (S.out.al #[.int .i64 x.s,.int .i64 x.r,.int .i64 x.v,.int .i64 x.d] 138 wr.heap.size rfl)
   have pq:=(S1.out.rdx 1 rfl).ptr
   obtain⟨a0,a1,a2,a3,az⟩:=bkc0c1c2c3l (S1.out.blk 0 rfl)
   have gh:=(S1.out.rdx 1 rfl).cH hhw
   rw [hhd] at gh
   have HHD:=Lib.hid hhd
   have HHW:=Lib.hid hhw
   have HAT:=Lib.hid hat
   have dk1:(0:Int)≤k:=by omega
   have dk2:(k:Int)<n:=by omega
   clear hx hxl hkl hbl hhe hrow hat hR hhd hhw m1 m2 m3 m4 m5 m6 m7 S
   go_wp2_with (go_at_call 50;go_must (refine(HHX.out _).mono ?_;rintro e w3 ⟨rfl,rfl⟩))
   obtain⟨w1,hw1⟩:∃ w1,wr.alloc (.cells #[.int .i64 x.s,.int .i64 x.r,.int .i64 x.v,.int .i64 x.d] 138)=w1:=⟨_,rfl⟩
   rw [hw1] at S1 a0 a1 a2 a3 az gh ⊢
   clear hw1
   have S4:=Lib.hid (S1.out.alrw #[.int .i64 x.s,.int .i64 x.r,.int .i64 x.v,.int .i64 x.d] 138 4 1 w1.heap.size rfl (by decide) (by simp)).drew
   obtain⟨q',c',w7,hrun,S'⟩:=S4.out.appended (h+3) 83 83 138 i0 _ 4 32 Tryz.underlying83 hi0 hz0 hz1 hz2 rfl (by omega) hp row.length hc (encQ row) HAT.out (some ⟨w1.heap.size,0,none⟩) 1 1 (encQ [x]) (S4.out.rdx 0 rfl) (one_encQ _) (by omega) (by omega)
   rw [← encQ_append] at S'
   have S5:Sep w w7 (.own 138 4 (some ⟨w1.heap.size,0,none⟩) 1 1 (encQ [x]) :: .blk wr.heap.size 138 #[.int .i64 x.s,.int .i64 x.r,.int .i64 x.v,.int .i64 x.d] :: .own 83 1 q wk wk (encH hs) :: rowsB wk (hs.set h ⟨q',row.length+1,c'⟩) (M.take k ++ [x])):=by rw [← HSET.out];exact S'
   obtain⟨k0,k1,k2,k3⟩:=bkc0c1c2c3 (S5.blk 1 rfl)
   have kfz:=own_frozen (S5.own 2 rfl) (by have:=HHW.out;omega) h
   have kg1:=(S5.rdx 2 rfl).cH HHW.out
   rw [HHD.out] at kg1
   have T:=S5.setRow 2 rfl h (by have:=HHW.out;omega) (.slice q' (row.length+1) c')
   rw [encH_set] at T
   obtain⟨t0,t1,t2,t3⟩:=bkc0c1c2c3 (T.blk 1 rfl)
   have g5:=(S4.out.rdx 2 rfl).cH HHW.out
   rw [HHD.out] at g5
   have TF:Hid (Sep w (w7.setCell (adr q h) (.slice q' (row.length+1) c')) (.own 83 1 q wk wk (encH (hs.set h ⟨q',row.length+1,c'⟩)) :: rowsB wk (hs.set h ⟨q',row.length+1,c'⟩) (M.take k ++ [x]))):=T.sub ((List.sublist_cons_self _ _).trans (List.sublist_cons_self _ _))
   clear S' S5 T S4 HHD HAT HSET HHX HBL
   simp at k0 k1 k2 k3 t0 t1 t2 t3 a0 a1 a2 a3
   have gb:=World.block_lt_of_cell? w1 _ gh
   simp only at kg1 g5 gh
   refine wp_region_held_drew (S:=fun w'=>w'.cell? ⟨wr.heap.size,0,none⟩=some (.int .i64 x.s)∧w'.cell? ⟨wr.heap.size,1,none⟩=some (.int .i64 x.r)∧w'.cell? ⟨wr.heap.size,2,none⟩=some (.int .i64 x.v)∧w'.cell? ⟨wr.heap.size,3,none⟩=some (.int .i64 x.d)) (by kernel_rfl) (by(try dsimp only);go_keep) (fun hHeld=>?_)
   refine wpAnyH_take (i:=0) (v:=.slice q wk wk) rfl (by kernel_rfl) (by kernel_rfl) (by kernel_rfl) (fun _ _ _ h=>h) (Or.inl ⟨by rfl,fun W hSw=>by obtain⟨h1,h2,h3,h4⟩:=hSw;go_simp⟩) hHeld ?_
   refine wpAnyH_take (i:=1) (v:=.int .i64 h) rfl (by kernel_rfl) (by kernel_rfl) (by kernel_rfl) (fun _ _ _ h=>h) (Or.inl ⟨by rfl,fun W hSw=>by obtain⟨h1,h2,h3,h4⟩:=hSw;go_simp⟩) hHeld ?_
   refine wpAnyH_take (i:=2) (v:=.slice q wk wk) rfl (by kernel_rfl) (by kernel_rfl) (by kernel_rfl) (fun _ _ _ h=>h) (Or.inl ⟨by rfl,fun W hSw=>by obtain⟨h1,h2,h3,h4⟩:=hSw;go_simp⟩) hHeld ?_
   refine wpAnyH_take (i:=3) (v:=.int .i64 h) rfl (by kernel_rfl) (by kernel_rfl) (by kernel_rfl) (fun _ _ _ h=>h) (Or.inl ⟨by rfl,fun W hSw=>by obtain⟨h1,h2,h3,h4⟩:=hSw;go_simp⟩) hHeld ?_
   refine wpAnyH_take (i:=4) (v:=.pointer (some (adr q h))) rfl (by kernel_rfl) (by kernel_rfl) (by kernel_rfl) (fun _ _ _ h=>h) (Or.inl ⟨by rfl,fun W hSw=>by obtain⟨h1,h2,h3,h4⟩:=hSw;go_simp⟩) hHeld ?_
   refine wpAnyH_take (i:=6) (v:=.agg #[.int .i64 x.s,.int .i64 x.r,.int .i64 x.v,.int .i64 x.d]) rfl (by kernel_rfl) (by kernel_rfl) (by kernel_rfl) (fun _ _ _ h=>h) (Or.inl ⟨by rfl,fun W hSw=>by obtain⟨h1,h2,h3,h4⟩:=hSw;go_simp⟩) hHeld ?_
   refine wpAnyH_ready (rs:=[5,7]) (by kernel_rfl) (by simp) (AllReadyH.cons rfl (fun K hK=>?_) (AllReadyH.cons rfl (fun K hK=>?_) AllReadyH.nil))
   ·go_simp
    refine hK.out _ _ hHeld (fun hHeld=>?_)
    clear hK
    refine wpAnyH_ready (rs:=[7]) (by kernel_rfl) (by simp) (AllReadyH.cons rfl (fun K hK=>?_) AllReadyH.nil)
    go_simp
    refine hK.out _ _ (by((try dsimp only);go_keep)) (fun hHeld=>?_)
    clear hK
    refine wpAnyH_ready (rs:=[8]) (by kernel_rfl) (by simp) (AllReadyH.cons rfl (fun K hK=>?_) AllReadyH.nil)
    rw [if_pos (by rfl)]
    refine operwp_append (.tmp 48) (.tmp 50) 83 (by rfl) (by rfl) (by rfl) hrun ?_
    refine hK.out _ _ ⟨k0,k1,k2,k3⟩ (fun hHeld=>?_)
    clear hK
    refine wpAnyH_ready (rs:=[9]) (by kernel_rfl) (by simp) (AllReadyH.cons rfl (fun K hK=>?_) AllReadyH.nil)
    go_simp
    refine hK.out _ _ (by(exact⟨k0,k1,k2,k3⟩)) (fun hHeld=>?_)
    clear hK
    refine wpAnyH_ready (rs:=[10]) (by kernel_rfl) (by simp) (AllReadyH.cons rfl (fun K hK=>?_) AllReadyH.nil)
    go_simp
    refine hK.out _ _ (by(exact⟨t0,t1,t2,t3⟩)) (fun hHeld=>?_)
    clear hK
    refine wpAnyH_done (by kernel_rfl) ?_ _
    go_wp2
    go_roundw
    case rel=>exact⟨k+1,hs.set h ⟨q',row.length+1,c'⟩,by omega,by go_num,by rw [List.length_set];exact HHL,by rw [HT.out];exact TF⟩
    case measure=>simp [intOf];omega
   ·go_simp
    refine hK.out _ _ (by(try dsimp only);go_keep) (fun hHeld=>?_)
    clear hK
    refine wpAnyH_ready (rs:=[5]) (by kernel_rfl) (by simp) (AllReadyH.cons rfl (fun K hK=>?_) AllReadyH.nil)
    go_simp
    refine hK.out _ _ (by(exact hHeld)) (fun hHeld=>?_)
    clear hK
    refine wpAnyH_ready (rs:=[8]) (by kernel_rfl) (by simp) (AllReadyH.cons rfl (fun K hK=>?_) AllReadyH.nil)
    rw [if_pos (by rfl)]
    refine operwp_append (.tmp 48) (.tmp 50) 83 (by rfl) (by rfl) (by rfl) hrun ?_
    refine hK.out _ _ ⟨k0,k1,k2,k3⟩ (fun hHeld=>?_)
    clear hK
    refine wpAnyH_ready (rs:=[9]) (by kernel_rfl) (by simp) (AllReadyH.cons rfl (fun K hK=>?_) AllReadyH.nil)
    go_simp
    refine hK.out _ _ (by(exact⟨k0,k1,k2,k3⟩)) (fun hHeld=>?_)
    clear hK
    refine wpAnyH_ready (rs:=[10]) (by kernel_rfl) (by simp) (AllReadyH.cons rfl (fun K hK=>?_) AllReadyH.nil)
    go_simp
    refine hK.out _ _ (by(exact⟨t0,t1,t2,t3⟩)) (fun hHeld=>?_)
    clear hK
    refine wpAnyH_done (by kernel_rfl) ?_ _
    go_wp2
    go_roundw
    case rel=>exact⟨k+1,hs.set h ⟨q',row.length+1,c'⟩,by omega,by go_num,by rw [List.length_set];exact HHL,by rw [HT.out];exact TF⟩
    case measure=>simp [intOf];omega
  ·obtain rfl:k=n:=by omega
   rw [List.take_of_length_le (by rw [← L1.out];exact Nat.le_refl _)] at S
   go_wp2
   go_ret2
   exact⟨q,hs,HHL,rfl,S.out⟩
end
section
open Go Go.RowKit
theorem made_encQ (n:Nat):(madeCells (Value.agg #[.int .i64 0,.int .i64 0,.int .i64 0,.int .i64 0]).cells (n*4)).toList=encQ (List.replicate n ⟨0,0,0,0⟩):=by
 apply List.ext_getElem
 ·simp [madeCells,encQ_len]
 ·intro i h1 h2
  have h3:i<n*4:=by rw [encQ_len,List.length_replicate] at h2;exact h2
  obtain⟨g1,g2,g3,g4⟩:=encQ_get (List.replicate n ⟨0,0,0,0⟩) (i / 4) (by rw [List.length_replicate];omega)
  have e:nth (List.replicate n (⟨0,0,0,0⟩:Sq)) (i / 4)=⟨0,0,0,0⟩:=by rw [nth_eq (by rw [List.length_replicate];omega)];simp
  rw [e] at g1 g2 g3 g4
  have hz:(encQ (List.replicate n (⟨0,0,0,0⟩:Sq)))[i]'h2=.int .i64 0:=by
   have:(encQ (List.replicate n (⟨0,0,0,0⟩:Sq))).getD i undef=.int .i64 0:=by
    have h4:i=i / 4*4∨i=i / 4*4+1∨i=i / 4*4+2∨i=i / 4*4+3:=by omega
    rcases h4 with h4 | h4 | h4 | h4 <;> rw [h4] <;> assumption
   rw [List.getD_eq_getElem?_getD,List.getElem?_eq_getElem h2] at this
   exact this
  rw [hz]
  have h5:i % 4=0∨i % 4=1∨i % 4=2∨i % 4=3:=by omega
  simp only [madeCells,Value.cells,Array.getElem_toList]
  rcases h5 with h5 | h5 | h5 | h5 <;> simp [h5]
theorem OrderedI (p:Option Addr) (n c:Nat) (L:List Int) (gi gp:Nat) (pp:Option Addr) (np cp:Nat) (ps:List Int) (w w0:World) (S:Sep w0 w [.blk gi 3 #[.int .i64 ((0:Int) - 1)],.blk gp 25 #[.slice pp np cp]]) (hl:Rd w0 1 p n (encI L)) (hps:Rd w0 1 pp np (encI ps)) (hn:n≤100000) :
  Calls Tryz.prog 204 #[.slice p n c,.func (.func 239) #[] #[.pointer (some ⟨gi,0,none⟩),.pointer (some ⟨gp,0,none⟩)]] w fun e w'=>∃ (P:List Int) (q:Option Addr) (c':Nat),P.Perm L∧e=.returned (.slice q n c')∧Sep w0 w' [.own 3 1 q n c' (encI P)]:=by
 obtain⟨i0,hi0,hz0,hz1,hz2⟩:=info_parts infI
 have n1:=hl.small
 have LL:=Lib.hid hl.nI
 have HPS:=Lib.hid hps
 have HL:=Lib.hid hl;clear hl
 have S0:=Lib.hid S;clear S
 clear hps
 go_enter Tryz.func204,Tryz.ntmps204
 go_wp2_with (first
  | (at_make;go_must (refine wpList_make_sep rfl _ _ _ rfl 3 i0 _ 1 Tryz.underlying25 hi0 hz0 hz1 (n:Int) n rfl rfl rfl (by rw [hz2];omega) (by unfold maxLen;omega) S0.out ?_;intro w1 S';rw [made_encI] at S';have S1:=Lib.hid S';clear S'))
  | (have _t:=S1;with_reducible show wpList _ _ _ (⟨some 13,_,_,_,_,_⟩:: _) _ _;go_must (refine wpList_copy_sep rfl _ _ 25 25 rfl 3 Tryz.underlying25 1 infI1 S1.out 0 rfl n 0 n n n c _ p rfl rfl (by show n=min n n;omega) (fun _=>by simp [adr]) (by omega) (encI L) (HL.out.ext S1.out.ext) (one_encI L) ?_;intro w2 S' hsz;have S2:=Lib.hid S';clear S' hsz)))
 have S3:Hid (Sep w0 w2 [.own 3 1 none 0 0 (encI []),.own 3 1 (some ⟨w.heap.size,0,none⟩) n n (encI L),.blk gi 3 #[.int .i64 ((((0:Nat):Int):Int) - 1)],.blk gp 25 #[.slice pp np cp]]):=by
  have h:=S2.out
  rw [Nat.zero_mul,splice_all (by rw [encI_len,encI_len,List.length_replicate,← LL.out])] at h
  exact(h.nilrow 3 1)
 clear S2 S1 S0
 generalize w.heap.size=g0 at *
 go_loopg [5,6,7] n (fun gg v5 v6 _ wr=>∃ (out left:List Int) (q ql:Option Addr) (m k d cl:Nat),v5=.slice ql k cl∧v6=.slice q m d∧m+k=n∧k≤gg∧Hid ((out ++ left).Perm L)∧Hid (Sep w0 wr [.own 3 1 q m d (encI out),.own 3 1 ql k cl (encI left),.blk gi 3 #[.int .i64 (((m:Int):Int) - 1)],.blk gp 25 #[.slice pp np cp]]))
 case atStart=>exact⟨[],L,none,_,0,n,0,n,rfl,rfl,by omega,Nat.le_refl _,by rw [List.nil_append];exact List.Perm.refl _,S3⟩
 case round =>
  clear S3
  obtain⟨out,left,q,ql,m,k,d,cl,rfl,rfl,hmk,hgg,HP,S⟩:=hrel
  have lk:=(S.out.rdx 1 rfl).nI
  have HLK:=Lib.hid lk
  clear lk
  by_cases hk:k=0
  ·subst hk
   have hle:left=[]:=List.eq_nil_of_length_eq_zero HLK.out.symm
   have hm:m=n:=by omega
   subst hle hm
   have HP2:=Lib.hid (show out.Perm L by have:=HP.out;rwa [List.append_nil] at this)
   clear HP hmk
   go_wp2
   go_ret
   exact⟨out,q,d,HP2.out,rfl,S.out.pick [0] (by decide) rfl⟩
  ·have k1:(1:Int)≤(k:Int):=by omega
   have hmn:m≤100000:=by omega
   have HO:=Lib.hid (ofOne gi gp pp np cp ps m k wr w0 _ 2 3 S.out rfl rfl (by decide) HPS.out (by omega) (by omega) (by omega))
   go_wp2_with (first
    | (go_at_call 239;go_must (refine HO.out.mono ?_;rintro e w3 ⟨at_,hat,rfl,S'⟩;have S4:Hid (Sep w0 w3 [.own 3 1 q m d (encI out),.own 3 1 ql k cl (encI left),.blk gi 3 #[.int .i64 ((((m+1:Nat):Int):Int) - 1)],.blk gp 25 #[.slice pp np cp]]):=S';have pl:=(S'.rdx 1 rfl).ptr;have g1:=(S'.rdx 1 rfl).cI hat;have HX:=Lib.hid (perm_take HP.out (show at_<left.length by rw [← HLK.out];exact hat));have dd1:(0:Int)≤(at_:Int):=(by omega);have dd2:(at_:Int)<(k:Int):=(by omega);clear S'))
    | (at_builtin;have _t:=S4;go_must (refine wpList_append_sep rfl _ _ _ rfl 3 i0 _ 1 8 Tryz.underlying25 hi0 hz0 hz1 hz2 rfl (by omega) (S4.out.junk _) 0 q m d _ rfl rfl _ 1 1 _ rfl (Rd.oneI _ _ _) (one_encI _) (by omega) (by omega) ?_;intro q5 d5 w5 S' hsz;obtain⟨w6,hrun,T⟩:=copy_shift S'.drew 1 rfl 25 25 3 3 Tryz.underlying25 infI1 (by omega) (one_encI left) at_ hat;have S6:Hid (Sep w0 w6 [.own 3 1 q5 (m+1) d5 (encI (out ++ [nth left at_])),.own 3 1 ql (k - 1) cl (encI (left.eraseIdx at_)),.blk gi 3 #[.int .i64 ((((m+1:Nat):Int):Int) - 1)],.blk gp 25 #[.slice pp np cp]]):=(by rw [encI_append,encI_eraseIdx];exact T);clear S' T hsz)))
   have kc:k≤cl:=own_cap (S4.out.own 1 rfl)
   obtain⟨b,hb⟩:∃ b,b=at_+1:=⟨_,rfl⟩
   have hc:cutp ql cl at_ 1=ql.map (fun x=>x.add at_):=by unfold cutp;rw [if_neg (by omega)];try simp
   rw [← hb] at hrun
   have hrun2:=hrun
   rw [hc] at hrun2
   clear hc
   have e1:(at_:Int)+1=(b:Int):=by omega
   have dd3:(b:Int)≤(k:Int):=by omega
   have dd5:b≤k:=by omega
   have dd4:(0:Int)≤(b:Int):=by omega
   have dw:IntKind.i64.wrap (b:Int)=(b:Int):=by rw [IntKind.wrap_i64];omega
   have dd8:(b:Int)≤100000:=by omega
   have dd9:at_≤k:=by omega
   have dd10:¬ cl=at_:=by omega
   have dd6:b≤cl:=by omega
   have dd7:(b:Int)≤(cl:Int):=by omega
   clear S S4 HP HO hb
   go_region_with fail
   go_wp2
   go_roundg (gk - 1)
   case measure=>omega
   case rel=>exact⟨out ++ [nth left at_],left.eraseIdx at_,q5,ql,m+1,k - 1,d5,cl,rfl,rfl,by omega,by omega,HX,S6⟩
theorem OrderedQ (p:Option Addr) (n c:Nat) (L:List Sq) (gi gp:Nat) (pp:Option Addr) (np cp:Nat) (ps:List Int) (w w0:World) (S:Sep w0 w [.blk gi 3 #[.int .i64 ((0:Int) - 1)],.blk gp 25 #[.slice pp np cp]]) (hl:Rd w0 4 p n (encQ L)) (hps:Rd w0 1 pp np (encI ps)) (hn:n≤100000) :
  Calls Tryz.prog 211 #[.slice p n c,.func (.func 239) #[] #[.pointer (some ⟨gi,0,none⟩),.pointer (some ⟨gp,0,none⟩)]] w fun e w'=>∃ (P:List Sq) (q:Option Addr) (c':Nat),P.Perm L∧e=.returned (.slice q n c')∧Sep w0 w' [.own 138 4 q n c' (encQ P)]:=by
 obtain⟨i0,hi0,hz0,hz1,hz2⟩:=info_parts infMail
 have n1:=hl.small
 have LL:=Lib.hid hl.nQ
 have HPS:=Lib.hid hps
 have HL:=Lib.hid hl;clear hl
 have S0:=Lib.hid S;clear S
 clear hps
 go_enter Tryz.func211,Tryz.ntmps211
 go_wp2_with (first
  | (at_make;go_must (refine wpList_make_sep rfl _ _ _ rfl 138 i0 _ 4 Tryz.underlying83 hi0 hz0 hz1 (n:Int) n rfl rfl rfl (by rw [hz2];omega) (by unfold maxLen;omega) S0.out ?_;intro w1 S';rw [made_encQ] at S';have S1:=Lib.hid S';clear S'))
  | (have _t:=S1;with_reducible show wpList _ _ _ (⟨some 13,_,_,_,_,_⟩:: _) _ _;go_must (refine wpList_copy_sep rfl _ _ 83 83 rfl 138 Tryz.underlying83 4 infQ S1.out 0 rfl n 0 n n n c _ p rfl rfl (by show n=min n n;omega) (fun _=>by simp [adr]) (by omega) (encQ L) (HL.out.ext S1.out.ext) (one_encQ L) ?_;intro w2 S' hsz;have S2:=Lib.hid S';clear S' hsz)))
 have S3:Hid (Sep w0 w2 [.own 138 4 none 0 0 (encQ []),.own 138 4 (some ⟨w.heap.size,0,none⟩) n n (encQ L),.blk gi 3 #[.int .i64 ((((0:Nat):Int):Int) - 1)],.blk gp 25 #[.slice pp np cp]]):=by
  have h:=S2.out
  rw [Nat.zero_mul,splice_all (by rw [encQ_len,encQ_len,List.length_replicate,← LL.out])] at h
  exact(h.nilrow 138 4)
 clear S2 S1 S0
 generalize w.heap.size=g0 at *
 go_loopg [5,6,7] n (fun gg v5 v6 _ wr=>∃ (out left:List Sq) (q ql:Option Addr) (m k d cl:Nat),v5=.slice ql k cl∧v6=.slice q m d∧m+k=n∧k≤gg∧Hid ((out ++ left).Perm L)∧Hid (Sep w0 wr [.own 138 4 q m d (encQ out),.own 138 4 ql k cl (encQ left),.blk gi 3 #[.int .i64 (((m:Int):Int) - 1)],.blk gp 25 #[.slice pp np cp]]))
 case atStart=>exact⟨[],L,none,_,0,n,0,n,rfl,rfl,by omega,Nat.le_refl _,by rw [List.nil_append];exact List.Perm.refl _,S3⟩
 case round =>
  clear S3
  obtain⟨out,left,q,ql,m,k,d,cl,rfl,rfl,hmk,hgg,HP,S⟩:=hrel
  have lk:=(S.out.rdx 1 rfl).nQ
  have HLK:=Lib.hid lk
  clear lk
  by_cases hk:k=0
  ·subst hk
   have hle:left=[]:=List.eq_nil_of_length_eq_zero HLK.out.symm
   have hm:m=n:=by omega
   subst hle hm
   have HP2:=Lib.hid (show out.Perm L by have:=HP.out;rwa [List.append_nil] at this)
   clear HP hmk
   go_wp2
   go_ret
   exact⟨out,q,d,HP2.out,rfl,S.out.pick [0] (by decide) rfl⟩
  ·have k1:(1:Int)≤(k:Int):=by omega
   have hmn:m≤100000:=by omega
   have HO:=Lib.hid (ofOne gi gp pp np cp ps m k wr w0 _ 2 3 S.out rfl rfl (by decide) HPS.out (by omega) (by omega) (by omega))
   go_wp2_with (first
    | (go_at_call 239;go_must (refine HO.out.mono ?_;rintro e w3 ⟨at_,hat,rfl,S'⟩;have S4:Hid (Sep w0 w3 [.own 138 4 q m d (encQ out),.own 138 4 ql k cl (encQ left),.blk gi 3 #[.int .i64 ((((m+1:Nat):Int):Int) - 1)],.blk gp 25 #[.slice pp np cp]]):=S';have pl:=(S'.rdx 1 rfl).ptr;obtain⟨g1,g2,g3,g4⟩:=(S'.rdx 1 rfl).cQ hat;have HX:=Lib.hid (perm_take HP.out (show at_<left.length by rw [← HLK.out];exact hat));have dd1:(0:Int)≤(at_:Int):=(by omega);have dd2:(at_:Int)<(k:Int):=(by omega);clear S'))
    | (at_builtin;have _t:=S4;go_must (refine wpList_append_sep rfl _ _ _ rfl 138 i0 _ 4 32 Tryz.underlying83 hi0 hz0 hz1 hz2 rfl (by omega) (S4.out.junk _) 0 q m d _ rfl rfl _ 1 1 _ rfl (Rd.oneQ _ _ (nth left at_)) (one_encQ _) (by omega) (by omega) ?_;intro q5 d5 w5 S' hsz;obtain⟨w6,hrun,T⟩:=copy_shift S'.drew 1 rfl 83 83 3 138 Tryz.underlying83 infQ (by omega) (one_encQ left) at_ hat;have S6:Hid (Sep w0 w6 [.own 138 4 q5 (m+1) d5 (encQ (out ++ [nth left at_])),.own 138 4 ql (k - 1) cl (encQ (left.eraseIdx at_)),.blk gi 3 #[.int .i64 ((((m+1:Nat):Int):Int) - 1)],.blk gp 25 #[.slice pp np cp]]):=(by rw [encQ_append,encQ_eraseIdx];exact T);clear S' T hsz)))
   have kc:k≤cl:=own_cap (S4.out.own 1 rfl)
   obtain⟨b,hb⟩:∃ b,b=at_+1:=⟨_,rfl⟩
   have hc:cutp ql cl at_ 4=ql.map (fun x=>x.add (at_*4)):=by unfold cutp;rw [if_neg (by omega)];try simp
   rw [← hb] at hrun
   have hrun2:=hrun
   rw [hc] at hrun2
   clear hc
   have e1:(at_:Int)+1=(b:Int):=by omega
   have dd3:(b:Int)≤(k:Int):=by omega
   have dd5:b≤k:=by omega
   have dd4:(0:Int)≤(b:Int):=by omega
   have dw:IntKind.i64.wrap (b:Int)=(b:Int):=by rw [IntKind.wrap_i64];omega
   have dd8:(b:Int)≤100000:=by omega
   have dd9:at_≤k:=by omega
   have dd10:¬ cl=at_:=by omega
   have dd6:b≤cl:=by omega
   have dd7:(b:Int)≤(cl:Int):=by omega
   clear S S4 HP HO hb
   go_region_with fail
   go_wp2
   go_roundg (gk - 1)
   case measure=>omega
   case rel=>exact⟨out ++ [nth left at_],left.eraseIdx at_,q5,ql,m+1,k - 1,d5,cl,rfl,rfl,by omega,by omega,HX,S6⟩
end
section
open Go Go.RowKit
theorem OfG (pp:Option Addr) (np cp:Nat) (w:World):Calls Tryz.prog 205 #[.slice pp np cp] w fun e w'=>e=.returned (.func (.func 239) #[] #[.pointer (some ⟨w.heap.size+1,0,none⟩),.pointer (some ⟨w.heap.size,0,none⟩)])∧w'=((w.alloc (.cells #[.slice pp np cp] 25)).alloc (.cells #[.int .i64 (-1)] 3)):=by
 go_enter Tryz.func205,Tryz.ntmps205
 go_wp2
 go_ret
 exact⟨rfl,rfl⟩
theorem MailsG (p:Option Addr) (n c:Nat) (L:List Sq) (pp:Option Addr) (np cp:Nat) (ps:List Int) (w:World) (hl:Rd w 4 p n (encQ L)) (hps:Rd w 1 pp np (encI ps)) (hn:n≤100000) :
  Calls Tryz.prog 146 #[.slice p n c,.slice pp np cp] w fun e w'=>∃ (P:List Sq) (q:Option Addr) (c':Nat),P.Perm L∧e=.returned (.slice q n c')∧Sep w w' [.own 138 4 q n c' (encQ P)]:=by
 have S0:=Lib.hid (((Sep.start w).al #[.slice pp np cp] 25 w.heap.size rfl).al #[.int .i64 (-1)] 3 (w.heap.size+1) (by simp))
 have HO:=Lib.hid (OrderedQ p n c L (w.heap.size+1) w.heap.size pp np cp ps _ w S0.out hl hps hn)
 clear hl hps
 go_enter Tryz.func146,Tryz.ntmps146
 go_wp2_with (first | (go_at_call 205;refine(OfG _ _ _ _).mono ?_;rintro e w9 ⟨rfl,rfl⟩) | (go_at_call 211;go_must (refine HO.out.mono ?_;rintro e w1 ⟨P,q,c1,hP,rfl,Z⟩;have HP:=Lib.hid hP;have S1:=Lib.hid Z;clear hP Z)))
 go_ret
 exact⟨P,q,c1,HP.out,rfl,S1.out⟩
def upTo (n k:Nat):List Int:=(List.range n).map fun v=>if v<k then (v:Int) else 0
theorem upTo_len (n k:Nat):(upTo n k).length=n:=by simp [upTo]
theorem upTo_zero (n:Nat):upTo n 0=List.replicate n 0:=by
 apply List.ext_getElem <;> simp [upTo]
theorem upTo_all (n:Nat):upTo n n=(List.range n).map fun v:Nat=>(v:Int):=by
 apply List.ext_getElem
 ·simp [upTo]
 ·intro i h1 h2
  have h3:i<n:=by rw [upTo_len] at h1;exact h1
  simp [upTo,h3]
theorem upTo_set {n k:Nat} (_:k<n):(encI (upTo n k)).set k (.int .i64 k)=encI (upTo n (k+1)):=by
 apply List.ext_getElem
 ·simp [encI,upTo]
 ·intro i h1 h2
  have h3:i<n:=by rw [encI_len,upTo_len] at h2;exact h2
  rw [List.getElem_set]
  by_cases e:k=i
  ·subst e;simp [encI,upTo]
  ·rw [if_neg e]
   simp only [encI,upTo,List.getElem_map,List.getElem_range]
   by_cases h4:i<k
   ·rw [if_pos h4,if_pos (by omega)]
   ·rw [if_neg h4,if_neg (by omega)]
theorem OrderG (n:Nat) (pp:Option Addr) (np cp:Nat) (ps:List Int) (w:World) (hps:Rd w 1 pp np (encI ps)) (hn:n≤1000) :
  Calls Tryz.prog 139 #[.int .i64 n,.slice pp np cp] w fun e w'=>∃ (P:List Int) (q:Option Addr) (c':Nat),P.Perm ((List.range n).map fun v:Nat=>(v:Int))∧e=.returned (.tuple #[.slice q n c',.int .i64 0])∧Sep w w' [.own 3 1 q n c' (encI P)]:=by
 obtain⟨i0,hi0,hz0,hz1,hz2⟩:=info_parts infI
 have d1:decide ((n:Int)<0)=false:=by simp
 have d2:decide (1000<(n:Int))=false:=by simp;omega
 have HPS:=Lib.hid hps
 clear hps
 go_enter Tryz.func139,Tryz.ntmps139
 go_wp2_with (at_make;go_must (refine wpList_make_sep rfl _ _ _ rfl 3 i0 _ 1 Tryz.underlying25 hi0 hz0 hz1 (n:Int) n rfl rfl rfl (by rw [hz2];omega) (by unfold maxLen;omega) (Sep.start w) ?_;intro w1 S';rw [made_encI,← upTo_zero] at S';have S1:=Lib.hid S';clear S'))
 generalize (some ⟨w.heap.size,0,none⟩:Option Addr)=q at *
 go_loopw [7,18] (fun _ i wr=>∃ k:Nat,k≤n∧i=.int .i64 k∧Sep w wr [.own 3 1 q n n (encI (upTo n k))]) (fun _ i _=>n - (intOf i).toNat)
 case atStart=>exact⟨0,Nat.zero_le _,rfl,S1.out⟩
 case round =>
  clear S1
  obtain⟨k,hk,rfl,S⟩:=hrel
  have pq:=(S.rdx 0 rfl).ptr
  by_cases hlt:k<n
  ·have d3:(0:Int)≤k:=by omega
   have d4:(k:Int)<n:=by omega
   have fz:=own_frozen (S.own 0 rfl) (by omega) k
   have cz:=own_cell (S.own 0 rfl) (k:=k) (by omega)
   have HS:=Lib.hid (S.setRow 0 rfl k (by omega) (.int .i64 k))
   rw [upTo_set hlt] at HS
   clear S
   go_wp2
   go_roundw
   case rel=>exact⟨k+1,by omega,by go_num,HS.out⟩
   case measure=>simp [intOf];omega
  ·obtain rfl:k=n:=by omega
   have S2:=Lib.hid (((Sep.start wr).al #[.slice pp np cp] 25 wr.heap.size rfl).al #[.int .i64 (-1)] 3 (wr.heap.size+1) (by simp))
   have HO:=Lib.hid (OrderedI q k k (upTo k k) (wr.heap.size+1) wr.heap.size pp np cp ps _ wr S2.out (S.rdx 0 rfl) (HPS.out.ext S.ext) (by omega))
   rw [upTo_all] at HO
   have SH:=Lib.hid S;clear S
   clear pq
   go_wp2_with (first | (go_at_call 205;refine(OfG _ _ _ _).mono ?_;rintro e w9 ⟨rfl,rfl⟩) | (go_at_call 204;go_must (refine HO.out.mono ?_;rintro e w4 ⟨P,q1,c1,hP,rfl,Z⟩;have HP:=Lib.hid hP;have S3:=Lib.hid (SH.out.comp Z);clear hP Z)))
   go_ret2
   exact⟨P,q1,c1,HP.out,rfl,S3.out.pick [0] (by decide) rfl⟩
end
section
open Go Go.RowKit Go.Sort
theorem ext_grow (W:World) (q:Nat) (os:Array Obj):Ext W (grow (W.drewN q) os) :=
 ⟨rfl,rfl,rfl,by show W.heap.size≤(W.heap ++ os).size;simp,fun k hk=>by show (W.heap ++ os)[k]?=W.heap[k]?;rw [Array.getElem?_append_left hk]⟩
theorem comparedE (x y:Ky) (W:World):Calls Tryz.prog 150 #[.agg #[.int .i64 x.s,.int .i64 x.r,.int .i64 x.v],.agg #[.int .i64 y.s,.int .i64 y.r,.int .i64 y.v]] W fun e w'=>e=.returned (.int .i64 (cmpK x y))∧Ext W w' :=
 (comparedG x y W).mono fun _ _ ⟨h,q,os,h2⟩=>⟨h,h2 ▸ ext_grow W q os⟩
theorem cmpK_lt {x y:Sq} (h:keyLt x y=true):cmpK x.ky y.ky<0:=by
 have:=ltOf_ky x y
 rw [h] at this
 unfold ltOf at this
 simpa using this
theorem stMayG (x:Sq) (w:World) (h:mayB x=true):Calls Tryz.prog 109 #[.agg #[.int .i64 x.s,.int .i64 x.r,.int .i64 x.v,.int .i64 x.d]] w fun e w'=>e=.returned (.bool true)∧Ext w w':=by
 have S0:=Lib.hid ((Sep.start w).al #[.int .i64 x.s,.int .i64 x.r,.int .i64 x.v,.int .i64 x.d] 146 w.heap.size rfl)
 have HE:=Lib.hid ((S0.out.alrw #[.int .i64 x.s,.int .i64 x.r,.int .i64 x.v,.int .i64 x.d] 138 4 1 (w.heap.size+1) (by simp) (by decide) (by simp)))
 have HC:=Lib.hid (CheckM (some ⟨w.heap.size+1,0,none⟩) 1 1 [x] _ (HE.out.rdx 0 rfl) (fun y hy=>by rw [List.mem_singleton] at hy;subst hy;exact h))
 clear h
 go_enter Tryz.func109,Tryz.ntmps109
 go_wp2_with (go_at_call 143;go_must (refine HC.out.mono ?_;rintro e w' ⟨rfl,hb⟩;have HX:=Lib.hid (HE.out.call hb).ext;clear hb))
 go_ret
 exact⟨rfl,HX.out⟩
theorem rightG (p:Option Addr) (n c:Nat) (l:List Sq) (N:Nat) (w:World) (hl:Rd w 4 p n (encQ l)) (hu:KeysUp l) (hm:∀ x∈l,mayB x=true∧x.v<N) (hn:n≤100000) :
  Calls Tryz.prog 142 #[.slice p n c,.int .i64 N] w fun e w'=>e=.returned (.bool true)∧Ext w w':=by
 have p1:=hl.ptr
 have n1:=hl.small
 have L1:=Lib.hid hl.nQ
 have HM:=Lib.hid hm
 have HU:=Lib.hid hu
 have HL:=Lib.hid hl
 clear hl hm hu
 go_enter Tryz.func142,Tryz.ntmps142
 go_wp2
 go_loopw [5,6,9] (fun _ _ i wr=>∃ k:Nat,k≤n∧i=.int .i64 k∧Ext w wr) (fun _ _ i _=>n - (intOf i).toNat)
 case atStart=>exact⟨0,Nat.zero_le _,rfl,Below.refl _ _⟩
 case round =>
  obtain⟨k,hk,rfl,hE⟩:=hrel
  have HE:=Lib.hid hE
  by_cases hlt:k<n
  ·obtain⟨g1,g2,g3,g4⟩:=(HL.out.ext hE).cQ hlt
   have hkl:k<l.length:=by rw [← L1.out];exact hlt
   obtain⟨hx,hv⟩:=HM.out (nth l k) (nth_mem hkl)
   obtain⟨x,hxl⟩:∃ x,nth l k=x:=⟨_,rfl⟩
   rw [hxl] at g1 g2 g3 g4 hx hv
   have S1:=Lib.hid (((Sep.start w).call hE).al #[.int .i64 x.s,.int .i64 x.r,.int .i64 x.v,.int .i64 x.d] 146 wr.heap.size rfl)
   have HC:=Lib.hid (fun W=>stMayG x W hx)
   have d1:(0:Int)≤k:=by omega
   have d2:(k:Int)<n:=by omega
   have e1:decide ((N:Int)≤x.v)=false:=by simpa using hv
   have HXL:=Lib.hid hxl
   clear hE hx hv hxl
   by_cases hk0:k=0
   ·subst hk0
    clear HXL hkl
    go_wp2
    obtain⟨W1,hW1⟩:∃ W1,wr.alloc (.cells #[.int .i64 x.s,.int .i64 x.r,.int .i64 x.v,.int .i64 x.d] 146)=W1:=⟨_,rfl⟩
    rw [hW1]
    rw [hW1] at S1
    obtain⟨a0,a1,a2,a3⟩:=bkc0c1c2c3 (S1.out.blk 0 rfl)
    simp at a0 a1 a2 a3
    have u0:=fun x:ExtOf W1=>x.ext.cell a0
    have u1:=fun x:ExtOf W1=>x.ext.cell a1
    have u2:=fun x:ExtOf W1=>x.ext.cell a2
    have u3:=fun x:ExtOf W1=>x.ext.cell a3
    clear hW1
    refine wp_region_ext (by kernel_rfl) (by kernel_rfl) ?_
    repeat (go_big_quiet_step (((go_at_call 109;exact Calls.ext_of (HC.out _)))))
    refine wpQuiet_nil ?_
    rintro w9 ⟨⟨_,hb9⟩,rfl⟩
    have HX:=Lib.hid (Ext.trans S1.out.ext hb9)
    clear hb9
    go_wp2
    go_roundw
    case rel=>exact⟨1,by omega,by go_num,HX.out⟩
    case measure=>simp [intOf];omega
   ·obtain⟨j,hj⟩:∃ j,k=j+1:=⟨k - 1,by omega⟩
    have q1:(k:Int) - 1=(j:Int):=by omega
    have q2:(0:Int)≤(j:Int):=by omega
    have q3:(j:Int)≤100000:=by omega
    have q4:(j:Int)<n:=by omega
    have q5:(0:Int)<(k:Int):=by omega
    have q6:decide ((0:Int)<(k:Int))=true:=by simpa using q5
    have q7:decide (0<k)=true:=by simp;omega
    have hjl:j<l.length:=by omega
    have hkj:keyLt (nth l j) (nth l k)=true:=by
     rw [nth_eq hjl,nth_eq hkl]
     exact(List.pairwise_iff_getElem.1 HU.out) j k hjl hkl (by omega)
    rw [HXL.out] at hkj
    have HCC:=Lib.hid (fun W=>comparedE (nth l j).ky x.ky W)
    have hcc:=cmpK_lt hkj
    obtain⟨cc,hcce⟩:∃ cc,cmpK (nth l j).ky x.ky=cc:=⟨_,rfl⟩
    rw [hcce] at HCC hcc
    have e2:decide (0≤cc)=false:=by simpa using hcc
    obtain⟨y1,y2,y3,y4⟩:=(HL.out.ext S1.out.ext).cQ (k:=j) (by omega)
    have hjn:j<n:=by omega
    clear hcc hcce hkj HXL hkl hjl hj hk0
    generalize nth l j=y at *
    go_wp2
    obtain⟨W1,hW1⟩:∃ W1,wr.alloc (.cells #[.int .i64 x.s,.int .i64 x.r,.int .i64 x.v,.int .i64 x.d] 146)=W1:=⟨_,rfl⟩
    rw [hW1]
    rw [hW1] at S1 y1 y2 y3 y4
    obtain⟨a0,a1,a2,a3⟩:=bkc0c1c2c3 (S1.out.blk 0 rfl)
    simp at a0 a1 a2 a3
    have u0:=fun x:ExtOf W1=>x.ext.cell a0
    have u1:=fun x:ExtOf W1=>x.ext.cell a1
    have u2:=fun x:ExtOf W1=>x.ext.cell a2
    have u3:=fun x:ExtOf W1=>x.ext.cell a3
    have v1:=fun x:ExtOf W1=>x.ext.cell y1
    have v2:=fun x:ExtOf W1=>x.ext.cell y2
    have v3:=fun x:ExtOf W1=>x.ext.cell y3
    clear hW1
    refine wp_region_ext (by kernel_rfl) (by kernel_rfl) ?_
    repeat (go_big_quiet_step (((first | (go_at_call 109;exact Calls.ext_of (HC.out _)) | (go_at_call 150;exact Calls.ext_of (HCC.out _))))))
    refine wpQuiet_nil ?_
    rintro w9 ⟨⟨_,hb9⟩,rfl⟩
    have HX:=Lib.hid (Ext.trans S1.out.ext hb9)
    clear hb9
    go_wp2
    go_roundw
    case rel=>exact⟨k+1,by omega,by go_num,HX.out⟩
    case measure=>simp [intOf];omega
  ·clear hE
   go_wp2
   go_ret
   exact⟨rfl,HE.out⟩
theorem beyondCl (gn:Nat) (x:Sq) (N:Nat) (w:World) (hB:Blk w gn 3 #[.int .i64 N]) (hv:x.v<N):Calls Tryz.prog 138 #[.agg #[.int .i64 x.s,.int .i64 x.r,.int .i64 x.v,.int .i64 x.d],.pointer (some ⟨gn,0,none⟩)] w fun e w'=>e=.returned (.bool false)∧Ext w w':=by
 have b0:w.cell? ⟨gn,0,none⟩=some (.int .i64 N):=hB.cell 0
 have bz:=hB.lt
 have HE:=Lib.hid ((Sep.start w).al #[.int .i64 x.s,.int .i64 x.r,.int .i64 x.v,.int .i64 x.d] 138 w.heap.size rfl).ext
 have e1:decide ((N:Int)≤x.v)=false:=by simpa using hv
 clear hB hv
 go_enter Tryz.func138,Tryz.ntmps138
 go_wp2
 go_ret
 exact⟨rfl,HE.out⟩
theorem IndexBeyond (p:Option Addr) (n c gn:Nat) (l:List Sq) (N:Nat) (w:World) (hl:Rd w 4 p n (encQ l)) (hB:Blk w gn 3 #[.int .i64 N]) (hv:∀ x∈l,x.v<N) :
  Calls Tryz.prog 210 #[.slice p n c,.func (.func 138) #[] #[.pointer (some ⟨gn,0,none⟩)]] w fun e w'=>e=.returned (.int .i64 (-1))∧Ext w w':=by
 have p1:=hl.ptr
 have n1:=hl.small
 have L1:=Lib.hid hl.nQ
 have HV:=Lib.hid hv
 have HL:=Lib.hid hl
 have HB:=Lib.hid hB
 clear hl hB hv
 go_enter Tryz.func210,Tryz.ntmps210
 go_wp2
 go_loopw [5,8] (fun _ i wr=>∃ k:Nat,k≤n∧i=.int .i64 k∧Ext w wr) (fun _ i _=>n - (intOf i).toNat)
 case atStart=>exact⟨0,Nat.zero_le _,rfl,Below.refl _ _⟩
 case round =>
  obtain⟨k,hk,rfl,hE⟩:=hrel
  have HE:=Lib.hid hE
  by_cases hlt:k<n
  ·obtain⟨g1,g2,g3,g4⟩:=(HL.out.ext hE).cQ hlt
   have hkl:k<l.length:=by rw [← L1.out];exact hlt
   have HC:=Lib.hid (beyondCl gn (nth l k) N wr (HB.out.ext hE) (HV.out _ (nth_mem hkl)))
   have d1:(0:Int)≤k:=by omega
   have d2:(k:Int)<n:=by omega
   clear hE hkl
   generalize nth l k=x at *
   go_wp2_with (go_at_call 138;go_must (refine HC.out.mono ?_;rintro e w' ⟨rfl,hb⟩;have HX:=Lib.hid (Ext.trans HE.out hb);clear hb))
   go_roundw
   case rel=>exact⟨k+1,by omega,by go_num,HX.out⟩
   case measure=>simp [intOf];omega
  ·clear hE
   go_wp2
   go_ret
   exact⟨rfl,HE.out⟩
theorem ContainsBeyond (p:Option Addr) (n c gn:Nat) (l:List Sq) (N:Nat) (w:World) (hl:Rd w 4 p n (encQ l)) (hB:Blk w gn 3 #[.int .i64 N]) (hv:∀ x∈l,x.v<N) :
  Calls Tryz.prog 144 #[.slice p n c,.func (.func 138) #[] #[.pointer (some ⟨gn,0,none⟩)]] w fun e w'=>e=.returned (.bool false)∧Ext w w':=by
 have HC:=Lib.hid (IndexBeyond p n c gn l N w hl hB hv)
 clear hl hB hv
 go_enter Tryz.func144,Tryz.ntmps144
 go_wp2_with (go_at_call 210;refine HC.out.mono ?_;rintro e w' ⟨rfl,hb⟩;have HX:=Lib.hid hb;clear hb)
 go_ret
 exact⟨rfl,HX.out⟩
end
section
open Go Go.RowKit
structure SameX (B:Nat) (X:Nat→Prop) (w w':World):Prop where
 os:w'.os=w.os
 tape:w'.tape=w.tape
 output:w'.output=w.output
 block:∀ k,k<B→¬ X k→w'.heap[k]?=w.heap[k]?
theorem SameX.refl (B:Nat) (X:Nat→Prop) (w:World):SameX B X w w:=⟨rfl,rfl,rfl,fun _ _ _=>rfl⟩
theorem SameX.mono {B B':Nat} {X:Nat→Prop} {w w':World} (h:SameX B X w w') (hB:B'≤B):SameX B' X w w':=⟨h.os,h.tape,h.output,fun k hk hx=>h.block k (by omega) hx⟩
theorem SameX.trans {B:Nat} {X:Nat→Prop} {w w1 w2:World} (h:SameX B X w w1) (g:SameX B X w1 w2):SameX B X w w2:=⟨g.os.trans h.os,g.tape.trans h.tape,g.output.trans h.output,fun k hk hx=>(g.block k hk hx).trans (h.block k hk hx)⟩
theorem SameX.symm {B:Nat} {X:Nat→Prop} {w w1:World} (h:SameX B X w w1):SameX B X w1 w:=⟨h.os.symm,h.tape.symm,h.output.symm,fun k hk hx=>(h.block k hk hx).symm⟩
theorem SameX.of_below {B:Nat} {X:Nat→Prop} {w w1:World} (h:Below B w w1):SameX B X w w1:=⟨h.os,h.tape,h.output,fun k hk _=>h.block k hk⟩
def FarX {β:Type} (B:Nat) (X:Nat→Prop) (I:β→World→Prop):Prop :=
 ∀ s W W',B≤W.heap.size→B≤W'.heap.size→SameX B X W W'→I s W→I s W'
theorem FarX.below {β:Type} {B:Nat} {X:Nat→Prop} {I:β→World→Prop} (h:FarX B X I) {s:β} {W W':World} (hB:B≤W.heap.size) (hb:Below B W W') (hs:I s W):I s W':=h s W W' hB (by have:=hb.size;omega) (.of_below hb) hs
theorem FarX.putObj {β:Type} {B:Nat} {X:Nat→Prop} {I:β→World→Prop} (h:FarX B X I) {s:β} {W:World} {l:Nat} {o:Obj} (o':Obj) (hs:I s W) (hB:B≤l) (hl:W.heap[l]?=some o):I s (W.putObj l o') :=
 h.below (by have:=(Array.getElem?_eq_some_iff.1 hl).1;omega) ((Below.refl B W).grown (grownBy_putObj' W l o') (by have:=(Array.getElem?_eq_some_iff.1 hl).1;omega) (fun k e=>by cases e;exact hB)) hs
end
section
open Go Go.RowKit
def SeqC {α:Type} (F:Fence) (n:Nat) (P:Program) (g:Nat) (lb:Array Value) (encs:α→Array Value) (A:World→List α→α→World→Prop) (Kp:World→World→Prop) (S Sp Q:List α→Prop) (w:World):Prop :=
 ∀ (l:Nat) (J Jx:List α→World→Prop) (W:World),Below w.heap.size w W→OwnFrom W.heap.size J→OwnFrom W.heap.size Jx →
  (∀ pre V,J pre V→Q pre) →
  (∀ pre x V0 V,J pre V0→Ext V0 V→A V0 pre x V→YieldAt F (n - 1) P l (encs x) V fun e V' =>
   (e=.returned (.bool true)∧J (pre ++ [x]) V'∧Kp V V')∨(e=.returned (.bool false)∧Jx (pre ++ [x]) V')) →
  J [] W→CallsIn F n P g (#[.func (.yield l) #[] #[]] ++ lb) W fun e V=>(∃ v,e=.returned v)∧((∃ xs,S xs∧J xs V)∨(∃ pre,Sp pre∧Jx pre V))
section
variable {F:Fence} {n:Nat} {P:Program} {w:World}
theorem wpIn_rangeFunc_toldC {α:Type} {g:Operand} {ps:Array Tmp} {assign body:Code} {Q:Exit→Act→World→Prop} {a:Act}
  (hro:F.round=none) (h1:1≤n) {gf:Nat} {lb:Array Value} (hg:a.eval g=.func (.func gf) #[] lb) (hF:F.fn gf) (eg:∀ args w,(callFunc gf args).run P w=.ok (.enter gf args) w)
  {encs:α→Array Value} {A:World→List α→α→World→Prop} {Kp:World→World→Prop} {S Sp Q':List α→Prop} {w0:World} (hseq:SeqC F (n - 1) P gf lb encs A Kp S Sp Q' w0)
  (hKt:∀ {X Y Z:World},Kp X Y→Kp Y Z→Kp X Z) (hKb:∀ (W:World) (l:Nat) (o o':Obj),w.heap.size≤l→W.heap[l]?=some o→o.isCells=false→o.isWalk=false→Kp W (W.putObj l o')) (hb0:Below w0.heap.size w0 w) (hps:∀ x,(encs x).size=ps.size)
  (I:List α→World→Prop) (Ix:Code→List α→World→Prop) (hI:OwnFrom w.heap.size I) (hIx:∀ c,OwnFrom w.heap.size (Ix c)) (hQ:∀ pre W,I pre W→Q' pre) (h0:I [] w)
  (Ax:List α→α→Act→World→Prop) (hAx:∀ pre x a',OwnFrom w.heap.size (fun (_:Unit) W=>Ax pre x a' W))
  (hassign:∀ (l:Nat) (pre:List α) (x:α) (V0 W:World) (K:Act→World→Prop),I pre V0→Ext V0 W→A V0 pre x W→(∀ a' W',KeepsFrom w.heap.size W W'→Kp W W'→I pre W'→Ax pre x a' W'→K a' W') →
   assign.wpIn (F.inRound l) (n - 1 - 1) P (Exit.then K (fun _ _ _=>False)) { tmps:=(ps.zip (encs x)).foldl (fun t (p,v)=>t.setIfInBounds p v) a.tmps,defers:=[] } W)
  (hbody:∀ (l:Nat) (pre:List α) (x:α) (a':Act) (W:World),I pre W→Ax pre x a' W→body.wpIn (F.inRound l) (n - 1 - 1) P (ownPostG w.heap.size Kp I Ix (pre ++ [x]) W) a' W)
  (hdone:∀ (D:Nat) (xs:List α) (W:World),w.heap.size≤D→S xs→I xs W→W.heap[D]?=some (.deferred (some []))→Q .normal { a with defers:={ target:=.collected D,args:=#[] } :: a.defers } W)
  (hstop:∀ (D:Nat) (c:Code) (pre:List α) (W:World),w.heap.size≤D→Sp pre→Ix c pre W→W.heap[D]?=some (.deferred (some []))→c.wpIn F n P Q { a with defers:={ target:=.collected D,args:=#[] } :: a.defers } W) :
  (Code.rangeFunc g ps assign body).wpIn F n P Q a w:=by
 refine wpIn_rangeFunc fun fn hfn=>?_
 rw [hro]
 have hB:w.heap.size≤w.heap.size+1:=Nat.le_succ _
 obtain⟨mk,hmk⟩:∃ mk:LoopState→Option Code→Loop,mk=fun st pe=>{ state:=st,pending:=pe,fn,tmps:=a.tmps,params:=ps,assign,body,defers:=w.heap.size }:=⟨_,rfl⟩
 obtain⟨V,hV⟩:∃ V,(w.alloc (.deferred (some []))).alloc (.loop (mk .ready none))=V:=⟨_,rfl⟩
 have hVl:V.heap[w.heap.size+1]?=some (.loop (mk .ready none)):=by
  have h:=World.alloc_heap_new (w.alloc (.deferred (some []))) (.loop (mk .ready none))
  rw [World.size_alloc] at h
  rw [← hV];exact h
 have hVd:V.heap[w.heap.size]?=some (.deferred (some [])):=by
  rw [← hV];exact(Below.heap_alloc _ _ _ (by simp)).trans (World.alloc_heap_new w _)
 have hVb:Below w0.heap.size w0 V:=by
  rw [← hV];exact hb0.trans ((((Below.refl _ w).alloc (Nat.le_refl _) _).alloc (by simp) _).mono hb0.size)
 have hVs:w.heap.size≤V.heap.size:=by have:=(Array.getElem?_eq_some_iff.1 hVd).1;omega
 have hV0:I [] V:=by rw [← hV];exact(hI.alloc _ (hI.alloc _ h0))
 have lV:w.heap.size+1<V.heap.size:=(Array.getElem?_eq_some_iff.1 hVl).1
 have keep:∀ {Y Z:World} {row:Option Nat} {k:Nat} {o:Obj},Y.grownBy Z row→(∀ r,row=some r→V.heap.size≤r∧∃ o:Obj,Y.heap[r]?=some o∧o.isCells=false)→k<V.heap.size→Y.heap[k]?=some o→Z.heap[k]?=some o:=fun {Y Z row k o} hg hr hk hY=>(hg.block k (Array.getElem?_eq_some_iff.1 hY).1 (fun e=>by have:=(hr k e.symm).1;omega)).trans hY
 have loose:∀ {Y:World} {row:Option Nat},(∀ r,row=some r→V.heap.size≤r∧∃ o:Obj,Y.heap[r]?=some o∧o.isCells=false)→∀ r,row=some r→w.heap.size≤r∧∃ o:Obj,Y.heap[r]?=some o∧o.isCells=false:=fun hr r e=>⟨Nat.le_trans hVs (hr r e).1,(hr r e).2⟩
 refine⟨w.heap.size+1,[{ target:=.collected w.heap.size,args:=#[] }],V,{ target:=.fn (.func gf) lb,args:=#[.func (.yield (w.heap.size+1)) #[] #[]] },V,gf,#[.func (.yield (w.heap.size+1)) #[] #[]] ++ lb,V,?_,?_,?_,?_,fun _=>h1,?_⟩
 ·rw [← hV,hmk];exact run_enterLoop_outer _ _ _ _ _
 ·simp only [resolve,hg];simp [go_sem]
 ·intro f' hf';simp [Target.leads] at hf';subst hf';exact hF
 ·simp [invoke,go_sem,eg]
 refine(hseq (w.heap.size+1)
  (fun pre W=>I pre W∧W.heap[w.heap.size+1]?=some (.loop (mk .ready none))∧W.heap[w.heap.size]?=some (.deferred (some [])))
  (fun pre W=>∃ c,Ix c pre W∧W.heap[w.heap.size+1]?=some (.loop (mk .done (some c)))∧W.heap[w.heap.size]?=some (.deferred (some []))) V hVb
  (fun s Y Z row h hg hr=>⟨hI s Y Z row h.1 hg (loose hr),keep hg hr lV h.2.1,keep hg hr (by omega) h.2.2⟩)
  (fun s Y Z row h hg hr=>h.elim fun c h=>⟨c,hIx c s Y Z row h.1 hg (loose hr),keep hg hr lV h.2.1,keep hg hr (by omega) h.2.2⟩)
  (fun pre W h=>hQ pre W h.1) ?_ ⟨hV0,hVl,hVd⟩).mono ?_
 ·rintro pre x V0 W ⟨hi0,hl0,hk0⟩ hE0 hax
  have hl:W.heap[w.heap.size+1]?=some (.loop (mk .ready none)):=(hE0.block _ (Array.getElem?_eq_some_iff.1 hl0).1).trans hl0
  have hk:W.heap[w.heap.size]?=some (.deferred (some [])):=(hE0.block _ (Array.getElem?_eq_some_iff.1 hk0).1).trans hk0
  have hlt:w.heap.size+1<W.heap.size:=(Array.getElem?_eq_some_iff.1 hl).1
  have hy:=run_yield (P:=P) (args:=encs x) hl (by rw [hmk];exact hps x)
  rw [hmk] at hy
  refine⟨fn,_,assign,body,hy,roundIn_of_wpIn hfn (hassign _ pre x V0 W _ hi0 hE0 hax fun a' W1 hK1 hp1 hi1 hax1=>?_)⟩
  have hl1:W1.heap[w.heap.size+1]?=some (.loop (mk .ready none)):=hK1.same _ _ hB hl rfl
  have hk1:W1.heap[w.heap.size]?=some (.deferred (some [])):=hK1.same _ _ (Nat.le_refl _) hk rfl
  have hlt1:w.heap.size+1<W1.heap.size:=(Array.getElem?_eq_some_iff.1 hl1).1
  refine⟨_,run_beginRound hl1 (by rw [hmk]),?_⟩
  have l2:(W1.putObj (w.heap.size+1) (.loop { mk .ready none with state:=.busy })).heap[w.heap.size+1]?=some (.loop { mk .ready none with state:=.busy }):=World.putObj_heap_same hlt1
  have k2:(W1.putObj (w.heap.size+1) (.loop { mk .ready none with state:=.busy })).heap[w.heap.size]?=some (.deferred (some [])):=(World.putObj_heap_other (by omega)).trans hk1
  have p2:Kp W (W1.putObj (w.heap.size+1) (.loop { mk .ready none with state:=.busy })):=hKt hp1 (hKb _ _ _ _ hB hl1 rfl rfl)
  refine wpIn_mono (hbody _ pre x a' _ (hI.putObj _ hi1 hB hl1 rfl) ((hAx pre x a').putObj (s:=()) _ hax1 hB hl1 rfl)) ?_
  have fin:∀ (jump:Option Code) (Y:World),KeepsFrom w.heap.size (W1.putObj (w.heap.size+1) (.loop { mk .ready none with state:=.busy })) Y →
    (Instr.endRound (w.heap.size+1) jump).run P Y=.ok (.bool jump.isNone) (Y.putObj (w.heap.size+1) (.loop (mk (if jump.isNone then .ready else .done) jump))) ∧
    Y.heap[w.heap.size+1]?=some (.loop { mk .ready none with state:=.busy }) ∧
    (Y.putObj (w.heap.size+1) (.loop (mk (if jump.isNone then .ready else .done) jump))).heap[w.heap.size+1]?=some (.loop (mk (if jump.isNone then .ready else .done) jump)) ∧
    (Y.putObj (w.heap.size+1) (.loop (mk (if jump.isNone then .ready else .done) jump))).heap[w.heap.size]?=some (.deferred (some [])):=fun jump Y hY=>by
   have l3:=hY.same _ _ hB l2 rfl
   have hr:=run_endRound (P:=P) jump l3
   rw [hmk] at hr l3 ⊢
   exact⟨hr,l3,World.putObj_heap_same (Array.getElem?_eq_some_iff.1 l3).1,(World.putObj_heap_other (by omega)).trans (hY.same _ _ (Nat.le_refl _) k2 rfl)⟩
  rintro e a3 Y hp
  cases e with
  | normal =>
   obtain⟨hY,hkp,hi3⟩:=hp
   obtain⟨r1,r2,r3,r4⟩:=fin none Y hY
   exact⟨_,_,r1,.inl ⟨rfl,⟨hI.putObj _ hi3 hB r2 rfl,r3,r4⟩,hKt (hKt p2 hkp) (hKb _ _ _ _ hB r2 rfl rfl)⟩⟩
  | ret =>
   obtain⟨r1,r2,r3,r4⟩:=fin (some .ret) Y hp.1
   exact⟨_,_,r1,.inr ⟨rfl,.ret,(hIx _).putObj _ hp.2 hB r2 rfl,r3,r4⟩⟩
  | exit id =>
   obtain⟨r1,r2,r3,r4⟩:=fin (some (.exit id)) Y hp.1
   exact⟨_,_,r1,.inr ⟨rfl,.exit id,(hIx _).putObj _ hp.2 hB r2 rfl,r3,r4⟩⟩
  | goto t =>
   obtain⟨r1,r2,r3,r4⟩:=fin (some (.goto t)) Y hp.1
   exact⟨_,_,r1,.inr ⟨rfl,.goto t,(hIx _).putObj _ hp.2 hB r2 rfl,r3,r4⟩⟩
  | panic ch=>exact hp.elim
  | outgrown=>exact hp.elim
 ·rintro e Y ⟨⟨v,rfl⟩,(⟨xs,hS,hi,hl,hk⟩ | ⟨pre,hSp,c,hi,hl,hk⟩)⟩
  ·have hr:=run_endLoop (P:=P) hl (by rw [hmk];simp)
   rw [hmk] at hr
   exact⟨none,_,hr,hdone _ xs _ (Nat.le_refl _) hS (hI.putObj _ hi hB hl (by rw [hmk];rfl)) ((World.putObj_heap_other (by omega)).trans hk)⟩
  ·have hr:=run_endLoop (P:=P) hl (by rw [hmk];simp)
   rw [hmk] at hr
   exact⟨some c,_,hr,hstop _ c pre _ (Nat.le_refl _) hSp ((hIx c).putObj _ hi hB hl (by rw [hmk];rfl)) ((World.putObj_heap_other (by omega)).trans hk)⟩
end
end
section
open Go Go.RowKit
structure Chg (M:Nat→Prop) (W W':World):Prop where
 os:W'.os=W.os
 tape:W'.tape=W.tape
 output:W'.output=W.output
 size:W.heap.size≤W'.heap.size
 block:∀ k,k<W.heap.size→¬ M k→W'.heap[k]?=W.heap[k]?
theorem Chg.refl (M:Nat→Prop) (W:World):Chg M W W:=⟨rfl,rfl,rfl,Nat.le_refl _,fun _ _ _=>rfl⟩
end
section
open Go Go.RowKit
attribute [local go_sem] Oper.semAt_some
structure LowF (n₀ b1 b2 b3:Nat) (w W:World):Prop where
 low:Below n₀ w W
 x1:W.heap[b1]?=w.heap[b1]?
 x2:W.heap[b2]?=w.heap[b2]?
 x3:W.heap[b3]?=w.heap[b3]?
theorem LowF.far {n₀ b1 b2 b3 B:Nat} {w Z W W':World} (h:LowF n₀ b1 b2 b3 w W) (h0:n₀≤B) (h1:b1<B) (h2:b2<B) (h3:b3<B) (hB:w.heap.size≤Z.heap.size) (k1:Below B Z W) (k2:Below B Z W'):LowF n₀ b1 b2 b3 w W' :=
 have e:∀ k,k<B→W'.heap[k]?=W.heap[k]?:=fun k hk=>(k2.block k hk).trans (k1.block k hk).symm
 ⟨⟨k2.os.trans (k1.os.symm.trans h.low.os),k2.tape.trans (k1.tape.symm.trans h.low.tape),k2.output.trans (k1.output.symm.trans h.low.output),Nat.le_trans hB k2.size,fun k hk=>(e k (by omega)).trans (h.low.block k hk)⟩,
  (e b1 h1).trans h.x1,(e b2 h2).trans h.x2,(e b3 h3).trans h.x3⟩
end
section
open Go Go.RowKit
attribute [local go_sem] Oper.semAt_some
structure KeptW (Ks:Nat→Prop) (w W:World):Prop where
 os:W.os=w.os
 tape:W.tape=w.tape
 output:W.output=w.output
 size:w.heap.size≤W.heap.size
 block:∀ k,Ks k→W.heap[k]?=w.heap[k]?
theorem KeptW.trans {Ks:Nat→Prop} {a b c:World} (h:KeptW Ks a b) (g:KeptW Ks b c):KeptW Ks a c:=⟨g.os.trans h.os,g.tape.trans h.tape,g.output.trans h.output,Nat.le_trans h.size g.size,fun k hk=>(g.block k hk).trans (h.block k hk)⟩
theorem KeptW.of_below {Ks:Nat→Prop} {B:Nat} {a b:World} (hl:∀ k,Ks k→k<B) (h:Below B a b):KeptW Ks a b:=⟨h.os,h.tape,h.output,h.size,fun k hk=>h.block k (hl k hk)⟩
structure YwT where
 x:Sq
 q:Option Addr
 c:Nat
def ywE (F:Sq→List Sq) (y:YwT):Array Value:=#[.agg #[.int .i64 y.x.s,.int .i64 y.x.r,.int .i64 y.x.v,.int .i64 y.x.d],.slice y.q (F y.x).length y.c]
def ywA (F:Sq→List Sq) (M:List Sq) (V0:World) (pre:List YwT) (y:YwT) (V:World):Prop:=Sep V0 V [.own 138 4 y.q (F y.x).length y.c (encQ (F y.x))]∧(pre ++ [y]).map (·.x)=M.take (pre.length+1)∧pre.length<M.length
theorem WorkG (gw:Nat) (w:World):Calls Tryz.prog 147 #[.pointer (some ⟨gw,0,none⟩)] w fun e w'=>e=.returned (.func (.func 212) #[] #[.pointer (some ⟨w.heap.size,0,none⟩)])∧w'=w.alloc (.cells #[.pointer (some ⟨gw,0,none⟩)] 203):=by
 go_enter Tryz.func147,Tryz.ntmps147
 go_wp2
 go_ret
 exact⟨rfl,rfl⟩
theorem workIt (n1:Nat) (hn1:1≤n1) (k f t:Int) (pw:Option Addr) (nw cw:Nat) (rad most:Int) (po:Option Addr) (no co:Nat) (pt:Option Addr) (nt ct:Nat) (pr:Option Addr) (nr cr:Nat) (pv:Option Addr) (nv cv:Nat) (gb gw:Nat) (pm:Option Addr) (nm cm:Nat) (M:List Sq) (F:Sq→List Sq) (Ks:Nat→Prop) (w:World) (hKl:∀ k,Ks k→k<w.heap.size)
  (hF:∀ W,KeptW Ks w W→Blk W gb 203 #[.pointer (some ⟨gw,0,none⟩)]∧Blk W gw 206 #[.int .i64 k,.int .i64 f,.int .i64 t,.slice pw nw cw,.int .i64 rad,.int .i64 most,.slice po no co,.slice pt nt ct,.slice pr nr cr,.slice pv nv cv,.slice pm nm cm,.int .i64 0]∧Rd W 4 pm nm (encQ M))
  (HN:∀ x∈M,∀ W,KeptW Ks w W→Calls Tryz.prog 213 #[.agg #[.int .i64 k,.int .i64 f,.int .i64 t,.slice pw nw cw,.int .i64 rad,.int .i64 most],.agg #[.slice po no co,.slice pt nt ct,.slice pr nr cr,.slice pv nv cv],.agg #[.int .i64 x.s,.int .i64 x.r,.int .i64 x.v,.int .i64 x.d]] W fun e w'=>∃ q c,e=.returned (.tuple #[.slice q (F x).length c,.int .i64 0])∧Sep W w' [.own 138 4 q (F x).length c (encQ (F x))]) :
  SeqC Fence.wide n1 Tryz.prog 212 #[.pointer (some ⟨gb,0,none⟩)] (ywE F) (ywA F M) (KeptW Ks) (fun xs=>xs.map (·.x)=M) (fun _=>True) (fun _=>True) w:=by
 intro l J Jx W hW hJ hJx _ hY h0
 have hKW:KeptW Ks w W:=.of_below hKl hW
 have hws:=hW.size
 obtain⟨B1,B2,hM⟩:=hF W hKW
 have c10:=B1.cell 0
 have c20:=B2.cell 10
 have z1:=B1.lt
 have z2:=B2.lt
 have p1:=hM.ptr
 have n2:=hM.small
 have LM:=Lib.hid hM.nQ
 have HF:=Lib.hid hF
 have HNX:=Lib.hid HN
 have HKL:=Lib.hid hKl
 have HJ:=Lib.hid hJ;clear hJ
 have HY:=Lib.hid hY;clear hY
 clear hJx hW HN hF hM B1 B2 hKl
 simp at c10 c20
 refine callsIn_of_wp Tryz.func212 rfl trivial ?_ rfl
 simp only [Tryz.ntmps212,List.size_toArray,List.length_cons,List.length_nil,Nat.reduceAdd,Nat.reduceSub,Array.replicate_succ,Array.replicate_zero,List.push_toArray,List.append_toArray,List.nil_append,List.cons_append]
 refine wpIn_seq_k fun K hK=>wpIn_wide.2 ?_
 go_wp2
 gi_wp2
 gi_loopw [4,5,6,7,13] (fun _ _ _ _ v13 wr=>∃ (j:Nat) (pre:List YwT),j≤nm∧v13=.int .i64 j∧Hid (pre.map (·.x)=M.take j∧pre.length=j)∧Hid (J pre wr)∧Hid (KeptW Ks w wr)∧W.heap.size≤wr.heap.size) (fun _ _ _ _ v13 _=>nm - (intOf v13).toNat)
 case atStart=>exact⟨0,[],Nat.zero_le _,rfl,⟨rfl,rfl⟩,h0,hKW,Nat.le_refl _⟩
 case round =>
  clear h0 hKW c10 c20 z1 z2
  obtain⟨j,pre,hj,rfl,HP,HJ1,HK1,hsz⟩:=hrel
  by_cases hlt:j<nm
  ·obtain⟨B1,B2,hMr⟩:=HF.out wr HK1.out
   obtain⟨g1,g2,g3,g4⟩:=hMr.cQ hlt
   have hjl:j<M.length:=by rw [← LM.out];exact hlt
   have HT:=Lib.hid (take_succ_nth M j hjl)
   have HNJ:=Lib.hid (HNX.out (nth M j) (nth_mem hjl))
   obtain⟨x,hxl⟩:∃ x,nth M j=x:=⟨_,rfl⟩
   rw [hxl] at g1 g2 g3 g4 HT HNJ
   have S1:=Lib.hid (((Sep.start wr).al #[.int .i64 x.s,.int .i64 x.r,.int .i64 x.v,.int .i64 x.d] 138 wr.heap.size rfl).al #[.int .i64 x.s,.int .i64 x.r,.int .i64 x.v,.int .i64 x.d] 146 (wr.heap.size+1) (by simp))
   have HB1:=Lib.hid (B1.ext S1.out.ext)
   have HB2:=Lib.hid (B2.ext S1.out.ext)
   have d1:(0:Int)≤j:=by omega
   have d2:(j:Int)<nm:=by omega
   clear hxl B1 B2 hMr hjl
   gi_wp2
   refine wpIn_wide.2 ?_
   obtain⟨X,hX⟩:∃ X,(wr.alloc (.cells #[.int .i64 x.s,.int .i64 x.r,.int .i64 x.v,.int .i64 x.d] 138)).alloc (.cells #[.int .i64 x.s,.int .i64 x.r,.int .i64 x.v,.int .i64 x.d] 146)=X:=⟨_,rfl⟩
   rw [hX] at S1 HB1 HB2 ⊢
   clear hX g1 g2 g3 g4
   refine wp_region_held_drew (S:=fun W=>Blk W gb 203 #[.pointer (some ⟨gw,0,none⟩)]∧Blk W gw 206 #[.int .i64 k,.int .i64 f,.int .i64 t,.slice pw nw cw,.int .i64 rad,.int .i64 most,.slice po no co,.slice pt nt ct,.slice pr nr cr,.slice pv nv cv,.slice pm nm cm,.int .i64 0]∧Blk W (wr.heap.size+1) 146 #[.int .i64 x.s,.int .i64 x.r,.int .i64 x.v,.int .i64 x.d]) (by kernel_rfl) ⟨HB1.out.ext (Below.refl _ _).drew,HB2.out.ext (Below.refl _ _).drew,S1.out.drew.blk 0 rfl⟩ (fun hHeld=>?_)
   have SD:=Lib.hid S1.out.drew
   have BD1:=Lib.hid (HB1.out.ext (Below.refl _ _).drew)
   have BD2:=Lib.hid (HB2.out.ext (Below.refl _ _).drew)
   clear S1 HB1 HB2
   generalize X.drew=D at SD BD1 BD2 hHeld ⊢
   clear X
   refine wpAnyH_take (i:=0) (v:=.pointer (some ⟨gw,0,none⟩)) rfl (by kernel_rfl) (by kernel_rfl) (by kernel_rfl) (fun _ _ _ h=>h) (Or.inl ⟨by kernel_rfl,fun W hSw=>by have h0:=hSw.1.cell 0;have hz:=hSw.1.lt;clear hSw;go_simp⟩) hHeld ?_
   refine wpAnyH_take (i:=1) (v:=.pointer (some ⟨gw,0,none⟩)) rfl (by kernel_rfl) (by kernel_rfl) (by kernel_rfl) (fun _ _ _ h=>h) (Or.inl ⟨by kernel_rfl,fun W hSw=>by have hz:=hSw.2.1.lt;have hy:=(show W.heap[gw]?=_ from hSw.2.1);clear hSw;go_simp⟩) hHeld ?_
   refine wpAnyH_take (i:=2) (v:=.pointer (some ⟨gw,0,none⟩)) rfl (by kernel_rfl) (by kernel_rfl) (by kernel_rfl) (fun _ _ _ h=>h) (Or.inl ⟨by kernel_rfl,fun W hSw=>by skip;clear hSw;go_simp⟩) hHeld ?_
   refine wpAnyH_take (i:=3) (v:=.agg #[.int .i64 k,.int .i64 f,.int .i64 t,.slice pw nw cw,.int .i64 rad,.int .i64 most]) rfl (by kernel_rfl) (by kernel_rfl) (by kernel_rfl) (fun _ _ _ h=>h) (Or.inl ⟨by kernel_rfl,fun W hSw=>by have h0:=hSw.2.1.cell 0;have h1:=hSw.2.1.cell 1;have h2:=hSw.2.1.cell 2;have h3:=hSw.2.1.cell 3;have h4:=hSw.2.1.cell 4;have h5:=hSw.2.1.cell 5;clear hSw;go_simp⟩) hHeld ?_
   refine wpAnyH_take (i:=4) (v:=.pointer (some ⟨gw,0,none⟩)) rfl (by kernel_rfl) (by kernel_rfl) (by kernel_rfl) (fun _ _ _ h=>h) (Or.inl ⟨by kernel_rfl,fun W hSw=>by have h0:=hSw.1.cell 0;have hz:=hSw.1.lt;clear hSw;go_simp⟩) hHeld ?_
   refine wpAnyH_take (i:=5) (v:=.pointer (some ⟨gw,0,none⟩)) rfl (by kernel_rfl) (by kernel_rfl) (by kernel_rfl) (fun _ _ _ h=>h) (Or.inl ⟨by kernel_rfl,fun W hSw=>by have hz:=hSw.2.1.lt;have hy:=(show W.heap[gw]?=_ from hSw.2.1);clear hSw;go_simp⟩) hHeld ?_
   refine wpAnyH_take (i:=6) (v:=.pointer (some ⟨gw,6,none⟩)) rfl (by kernel_rfl) (by kernel_rfl) (by kernel_rfl) (fun _ _ _ h=>h) (Or.inl ⟨by kernel_rfl,fun W hSw=>by skip;clear hSw;go_simp⟩) hHeld ?_
   refine wpAnyH_take (i:=7) (v:=.agg #[.slice po no co,.slice pt nt ct,.slice pr nr cr,.slice pv nv cv]) rfl (by kernel_rfl) (by kernel_rfl) (by kernel_rfl) (fun _ _ _ h=>h) (Or.inl ⟨by kernel_rfl,fun W hSw=>by have h0:=hSw.2.1.cell 6;have h1:=hSw.2.1.cell 7;have h2:=hSw.2.1.cell 8;have h3:=hSw.2.1.cell 9;clear hSw;go_simp⟩) hHeld ?_
   refine wpAnyH_take (i:=8) (v:=.agg #[.int .i64 x.s,.int .i64 x.r,.int .i64 x.v,.int .i64 x.d]) rfl (by kernel_rfl) (by kernel_rfl) (by kernel_rfl) (fun _ _ _ h=>h) (Or.inl ⟨by kernel_rfl,fun W hSw=>by have h0:=hSw.2.2.cell 0;have h1:=hSw.2.2.cell 1;have h2:=hSw.2.2.cell 2;have h3:=hSw.2.2.cell 3;clear hSw;go_simp⟩) hHeld ?_
   refine wpAnyH_ready (rs:=[9]) (by kernel_rfl) (by simp) (AllReadyH.cons rfl (fun K hK=>?_) AllReadyH.nil)
   go_simp
   have HKD:=Lib.hid (HK1.out.trans (.of_below (fun k hk=>Nat.lt_of_lt_of_le (HKL.out k hk) (Nat.le_trans hws hsz)) SD.out.ext))
   refine(HNJ.out D HKD.out).mono ?_
   rintro e w1 ⟨q,c,rfl,Z⟩
   have S2:=Lib.hid (SD.out.comp Z)
   have HB1:=Lib.hid (BD1.out.ext Z.ext)
   have HB2:=Lib.hid (BD2.out.ext Z.ext)
   clear Z SD BD1 BD2 HKD
   refine hK.out _ _ ⟨HB1.out,HB2.out,S2.out.blk 1 rfl⟩ (fun hHeld=>?_)
   clear hK
   refine wpAnyH_take (i:=10) (v:=.tuple #[.slice q (F x).length c,.int .i64 0]) rfl (by kernel_rfl) (by kernel_rfl) (by kernel_rfl) (fun _ _ _ h=>h) (Or.inl ⟨by kernel_rfl,fun W hSw=>by skip;clear hSw;go_simp⟩) hHeld ?_
   refine wpAnyH_take (i:=11) (v:=.slice q (F x).length c) rfl (by kernel_rfl) (by kernel_rfl) (by kernel_rfl) (fun _ _ _ h=>h) (Or.inl ⟨by kernel_rfl,fun W hSw=>by skip;clear hSw;go_simp⟩) hHeld ?_
   refine wpAnyH_take (i:=12) (v:=.int .i64 0) rfl (by kernel_rfl) (by kernel_rfl) (by kernel_rfl) (fun _ _ _ h=>h) (Or.inl ⟨by kernel_rfl,fun W hSw=>by skip;clear hSw;go_simp⟩) hHeld ?_
   refine wpAnyH_take (i:=13) (v:=.slice q (F x).length c) rfl (by kernel_rfl) (by kernel_rfl) (by kernel_rfl) (fun _ _ _ h=>h) (Or.inl ⟨by kernel_rfl,fun W hSw=>by skip;clear hSw;go_simp⟩) hHeld ?_
   refine wpAnyH_take (i:=14) (v:=.int .i64 0) rfl (by kernel_rfl) (by kernel_rfl) (by kernel_rfl) (fun _ _ _ h=>h) (Or.inl ⟨by kernel_rfl,fun W hSw=>by skip;clear hSw;go_simp⟩) hHeld ?_
   refine wpAnyH_done (by kernel_rfl) ?_ _
   obtain⟨a0,a1,a2,a3,az⟩:=bkc0c1c2c3l (S2.out.blk 1 rfl)
   have HK2:=Lib.hid (HK1.out.trans (.of_below (fun k hk=>Nat.lt_of_lt_of_le (HKL.out k hk) (Nat.le_trans hws hsz)) S2.out.ext))
   have hs2:W.heap.size≤w1.heap.size:=Nat.le_trans hsz S2.out.ext.size
   have HP2:Hid ((pre ++ [(⟨x,q,c⟩:YwT)]).map (·.x)=M.take (j+1)∧(pre ++ [(⟨x,q,c⟩:YwT)]).length=j+1):=by
    refine⟨?_,by rw [List.length_append,HP.out.2];rfl⟩
    rw [List.map_append,HP.out.1,HT.out];rfl
   obtain⟨fn,tmps,assign,body,hy,hR⟩:=HY.out pre ⟨x,q,c⟩ wr w1 HJ1.out S2.out.ext ⟨S2.out.pick [0] (by decide) rfl,by rw [HP2.out.1,HP.out.2],by rw [HP.out.2,← LM.out];exact hlt⟩
   have hy2:(Instr.yield l #[.agg #[.int .i64 x.s,.int .i64 x.r,.int .i64 x.v,.int .i64 x.d],.slice q (F x).length c]).run Tryz.prog w1=_:=hy
   clear hHeld S2 HB1 HB2 hy
   simp [Act.put]
   gi_wp2
   refine hR.mono ?_
   rintro e W3 (⟨rfl,hJ3,hk3⟩ | ⟨rfl,hJx3⟩)
   ·have HJ3:=Lib.hid hJ3
    have HK3:=Lib.hid (HK2.out.trans hk3)
    have hs3:W.heap.size≤W3.heap.size:=Nat.le_trans hs2 hk3.size
    clear hJ3 hk3 hR hy2 HK2
    gi_wp2
    go_roundw
    case rel=>exact⟨j+1,pre ++ [⟨x,q,c⟩],by omega,by go_num,HP2,HJ3,HK3,hs3⟩
    case measure=>simp [intOf];omega
   ·have HX3:=Lib.hid hJx3
    clear hJx3 hR hy2 HK2
    gi_wp2
    refine bodyPost_ret (results_none rfl _ _ _) rfl ?_
    exact⟨⟨_,rfl⟩,.inr ⟨_,HX3.out⟩⟩
  ·obtain rfl:j=nm:=by omega
   have HPE:Hid (pre.map (·.x)=M):=by
    unfold Hid
    rw [HP.out.1,List.take_of_length_le (by rw [← LM.out];exact Nat.le_refl _)]
   gi_wp2
   go_end0
   exact⟨⟨_,rfl⟩,.inl ⟨pre,HPE.out,HJ1.out⟩⟩
end
section
open Go Go.RowKit
def markD (D:Nat):Deferred:={ target:=.collected D,args:=#[] }
def MarksB (B:Nat) (Ds:List Nat) (w:World):Prop:=Ds.Nodup∧∀ D∈Ds,B≤D∧w.heap[D]?=some (.deferred (some []))
theorem marks_nil (B:Nat) (w:World):MarksB B [] w:=⟨List.nodup_nil,fun _ h=>nomatch h⟩
theorem MarksB.keeps {B:Nat} {Ds:List Nat} {w w':World} (h:MarksB B Ds w) (k:KeepsOthers w w'):MarksB B Ds w':=⟨h.1,fun D hD=>⟨(h.2 D hD).1,k.same _ _ (h.2 D hD).2 rfl⟩⟩
theorem MarksB.ext {B:Nat} {Ds:List Nat} {w w':World} (h:MarksB B Ds w) (k:Ext w w'):MarksB B Ds w':=h.keeps (keeps_ext k)
theorem MarksB.lt {B:Nat} {Ds:List Nat} {w:World} (h:MarksB B Ds w):∀ D∈Ds,D<w.heap.size:=fun D hD=>(Array.getElem?_eq_some_iff.1 (h.2 D hD).2).1
theorem MarksB.cons {B D:Nat} {Ds:List Nat} {w:World} (h:MarksB B Ds w) (hD:D ∉ Ds) (hB:B≤D) (hw:w.heap[D]?=some (.deferred (some []))):MarksB B (D :: Ds) w :=
 ⟨List.nodup_cons.2 ⟨hD,h.1⟩,fun E hE=>by
  rcases List.mem_cons.1 hE with rfl | hE
  ·exact⟨hB,hw⟩
  ·exact h.2 E hE⟩
theorem leaves_marks {F:Fence} {n:Nat} {P:Program} {fn:Func} {tmps:Array Value} {R:Ending→World→Prop} (G:World→Prop) (B:Nat) (hG:∀ (w:World) D,B≤D→w.heap[D]?=some (.deferred (some []))→G w→G (w.putObj D (.deferred none)))
  (hR:∀ w,G w→∃ v,(results fn tmps).run P w=.ok v w∧R (.returned v) w):∀ (Ds:List Nat) (w:World),MarksB B Ds w→G w→LeavesInM F n P fn tmps R (Ds.map markD) .returning w
 | [],w,_,hg=>hR w hg
 | D :: Ds,w,hM,hg=>by
  obtain⟨h1,h2⟩:=hM
  obtain⟨hB,hD⟩:=h2 D (List.mem_cons_self ..)
  obtain⟨hn,hd⟩:=List.nodup_cons.1 h1
  exact⟨by simp,.inl ⟨D,_,rfl,run_takeDeferred hD,leaves_marks G B hG hR Ds _ ⟨hd,fun E hE=>⟨(h2 E (List.mem_cons_of_mem _ hE)).1,(World.putObj_heap_other (by intro e;subst e;exact hn hE)).trans (h2 E (List.mem_cons_of_mem _ hE)).2⟩⟩ (hG w D hB hD hg)⟩⟩
end
end Go.Proofs.YtfjhjennfiihhaaGreat
