/- Texts of this claim, one behind the other: Run20, RunE20, PlainRm, RunG20, PlainCl, RunCl, ExN, Ex20, Jobs20, LPicks20, Post, Open4, Rfm14, Rput, Rf7, Rst19, Rf6, Rrun20, LHits9, LRuns20. -/
import Derived.Test.YtfjhjennfiihhaaGreatQJobPicksJobRuns5
set_option maxRecDepth 100000
set_option maxHeartbeats 16000000
namespace Go.Proofs.YtfjhjennfiihhaaGreat
section
open Go Go.RowKit
attribute [local go_sem] Oper.semAt_some
def RunQ (b:Bool) (d:Int) (F:List (Int × Int)) (n e:Int) (w:World) (x:Ending) (w':World):Prop:=∃ q c',x=.returned (.tuple #[.agg #[.bool b,.int .i64 d,.slice q F.length c'],.int .i64 n,.int .i64 e])∧Sep w w' [.own 105 2 q F.length c' (encE F)]
def RunR (k t:Int) (L:List Po) (ws:List ByteArray) (most bud:Int) (m:Nat) (p:List Sq × List Sq) (w:World) (x:Ending) (w':World):Prop :=
 ∃ b d F,((m:Int)+1≤bud→AnsD k t L ws most p b d F∧RunQ b d F ((m:Int)+1) 0 w x w')∧(bud<(m:Int)+1→RunQ false 0 [] bud 251 w x w')
theorem gi_cells {a1 a2 a3 a4 a5:Nat} {t1 t2 t3 t4 t5:TypeId} {c1 c2 c3 c4 c5:Array Value}:∀ p∈[Pc.blk a1 t1 c1,Pc.blk a2 t2 c2,Pc.blk a3 t3 c3,Pc.blk a4 t4 c4,Pc.blk a5 t5 c5],p.cells:=by
 intro p hp
 simp only [List.mem_cons,List.not_mem_nil,or_false] at hp
 rcases hp with rfl | rfl | rfl | rfl | rfl <;> exact Pc.blk_cells _ _ _
theorem gi_feet {a1 a2 a3 a4 a5 b:Nat} {t1 t2 t3 t4 t5:TypeId} {c1 c2 c3 c4 c5:Array Value} (h:a1≠b∧a2≠b∧a3≠b∧a4≠b∧a5≠b):∀ p∈[Pc.blk a1 t1 c1,Pc.blk a2 t2 c2,Pc.blk a3 t3 c3,Pc.blk a4 t4 c4,Pc.blk a5 t5 c5],∀ k,p.foot k→¬ k=b:=by
 intro p hp k hk e
 obtain⟨h1,h2,h3,h4,h5⟩:=h
 simp only [List.mem_cons,List.not_mem_nil,or_false] at hp
 rcases hp with rfl | rfl | rfl | rfl | rfl
 ·exact h1 ((show k=a1 from hk).symm.trans e)
 ·exact h2 ((show k=a2 from hk).symm.trans e)
 ·exact h3 ((show k=a3 from hk).symm.trans e)
 ·exact h4 ((show k=a4 from hk).symm.trans e)
 ·exact h5 ((show k=a5 from hk).symm.trans e)
theorem gr_cells {e0:TypeId} {sz:Nat} {q0:Option Addr} {n0 c0:Nat} {xs:List Value} {a2 a3 a4:Nat} {t2 t3 t4:TypeId} {c2 c3 c4:Array Value}:∀ p∈[Pc.own e0 sz q0 n0 c0 xs,Pc.blk a2 t2 c2,Pc.blk a3 t3 c3,Pc.blk a4 t4 c4],p.cells:=by
 intro p hp
 simp only [List.mem_cons,List.not_mem_nil,or_false] at hp
 rcases hp with rfl | rfl | rfl | rfl
 ·exact Pc.own_cells _ _ _ _ _ _
 all_goals exact Pc.blk_cells _ _ _
theorem gr_feet {e0:TypeId} {sz:Nat} {q0:Option Addr} {n0 c0:Nat} {xs:List Value} {a2 a3 a4 b:Nat} {t2 t3 t4:TypeId} {c2 c3 c4:Array Value} (h0:∀ kk,blkOf q0=some kk→kk≠b) (h:a2≠b∧a3≠b∧a4≠b):∀ p∈[Pc.own e0 sz q0 n0 c0 xs,Pc.blk a2 t2 c2,Pc.blk a3 t3 c3,Pc.blk a4 t4 c4],∀ k,p.foot k→¬ k=b:=by
 intro p hp k hk e
 obtain⟨h2,h3,h4⟩:=h
 simp only [List.mem_cons,List.not_mem_nil,or_false] at hp
 rcases hp with rfl | rfl | rfl | rfl
 ·exact h0 k hk e
 ·exact h2 ((show k=a2 from hk).symm.trans e)
 ·exact h3 ((show k=a3 from hk).symm.trans e)
 ·exact h4 ((show k=a4 from hk).symm.trans e)
theorem RunOk (k f t:Int) (pw:Option Addr) (nw cw:Nat) (ws:List ByteArray) (rad most:Int) (po:Option Addr) (no co:Nat) (O:List Int) (pt:Option Addr) (nt ct:Nat) (T:List Int) (pr:Option Addr) (nr cr:Nat) (R:List Int) (pv:Option Addr) (nv cv:Nat) (V:List Int) (pl:Option Addr) (nl cl:Nat) (hs:List Hd) (L:List Po) (wk:Nat) (bud:Int) (pp:Option Addr) (np cp:Nat) (pk:List Int) (w:World) (n m:Nat) (rn:Nat→List Sq × List Sq) (hO:Rd w 1 po no (encI O)) (hT:Rd w 1 pt nt (encI T)) (hR:Rd w 1 pr nr (encI R)) (hV:Rd w 1 pv nv (encI V)) (hct:nt≤ct) (hcv:nv≤cv)
  (hL:RdP w pl nl hs L) (hW:Rd w 1 pw nw (encS ws)) (hpk:Rd w 1 pp np (encI pk)) (hck:checkR O T R V=true) (hn:O.length=n+1) (h200:n≤200) (h1:1≤wk) (h16:wk≤16)
  (hz:∀ s∈ws,s.size≤1000000) (hq:chkQ k f t ws rad most (n:Int)=0) (hb1:1≤bud) (hb2:bud≤9223372036854775807) (hm:m<200)
  (hk:k=1∨k=2∨k=3) (ht:I64 t) (hcw:nw≤cw) (hnw:nw≤100) (hok:PoOk L)
  (hr0:rn 0=([],startQ k f t 0)) (hrn:∀ i,RunI n i (rn i)) (hrs:∀ i,rn (i+1)=stepM (nextL k rad true O T R V) (rn i).1 (rn i).2)
  (hd:doneB k t (rn (m+1))=true) (hf:∀ j,j<m→doneB k t (rn (j+1))=false) :
  Calls Tryz.prog 17 #[.agg #[.int .i64 k,.int .i64 f,.int .i64 t,.slice pw nw cw,.int .i64 rad,.int .i64 most],.agg #[.slice po no co,.slice pt nt ct,.slice pr nr cr,.slice pv nv cv],.slice pl nl cl,.int .i64 wk,.int .i64 bud,.slice pp np cp] w (RunR k t L ws most bud m (rn (m+1)) w):=by
 have hno:no=n+1:=by rw [hO.nI,hn]
 have HCJ:=Lib.hid (fun W (h:Ext w W)=>CheckJ k f t pw nw cw ws rad most po no co O pt nt ct T pr nr cr R pv nv cv V W (hO.ext h) (hT.ext h) (hR.ext h) (hV.ext h) hct hcv (hW.ext h) hz (by omega))
 rw [hck] at HCJ
 have e1:chkJ true k f t ws rad most no=0:=by
  unfold chkJ
  rw [if_pos rfl,hno]
  have:((n+1:Nat):Int) - 1=n:=by omega
  rw [this,hq]
 rw [e1] at HCJ
 have HSQ:=Lib.hid (fun W=>StartQ k f t pw nw cw rad most 0 W)
 obtain⟨M0,hM0⟩:∃ M0,startQ k f t 0=M0:=⟨_,rfl⟩
 rw [hM0] at HSQ hr0
 have HIT:=Lib.hid (fun (W:World) (b bx:Nat) (pm:Option Addr) (nm cm:Nat) (Bd:Nat→Prop) =>
  stepsIt 8 (by omega) k f t pw nw cw ws rad most po no co O pt nt ct T pr nr cr R pv nv cv V pl nl cl hs L wk pp np cp pk w W b bx pm nm cm n rn Bd hO hT hR hV hct hcv hL hW hpk hck hn h200 h1 h16 hk ht hcw hnw hok (by rw [hr0]) hrn hrs)
 rw [hr0] at HIT
 have HHM:=Lib.hid (fun W=>HomeG 0 wk W (by omega) (by omega) h1 h16)
 have HDN:=Lib.hid hd
 have HFN:=Lib.hid hf
 have db:decide (bud<1)=false:=by simp;omega
 have S0:=Lib.hid ((((((((Sep.start w).al #[.int .i64 k,.int .i64 f,.int .i64 t,.slice pw nw cw,.int .i64 rad,.int .i64 most] 24 w.heap.size rfl).al #[.slice po no co,.slice pt nt ct,.slice pr nr cr,.slice pv nv cv] 27 (w.heap.size+1) (by simp)).al #[.int .i64 bud] 3 (w.heap.size+1+1) (by simp)).al #[.bool false,.int .i64 0,.slice none 0 0] 34 (w.heap.size+1+1+1) (by simp)).al #[.int .i64 0] 3 (w.heap.size+1+1+1+1) (by simp)).al #[.int .i64 0] 35 (w.heap.size+1+1+1+1+1) (by simp)))
 clear hO hT hR hV hct hcv hL hW hpk hck hn h200 h1 h16 hz hq hk ht hcw hnw hok hr0 hrn hrs hd hf hM0 e1 hno
 refine(callsIn_wide (n:=9)).1 ?_
 refine callsIn_of_wp_marks Tryz.func17 rfl trivial ?_ rfl
 simp only [Tryz.ntmps17,List.size_toArray,List.length_cons,List.length_nil,Nat.reduceAdd,Nat.reduceSub,Array.replicate_succ,Array.replicate_zero,List.push_toArray,List.append_toArray,List.nil_append,List.cons_append]
 refine wpIn_wide.2 ?_
 go_wp2_with (first | (go_at_call 49;go_must (refine(HCJ.out _ S0.out.ext).mono ?_;rintro e w1 ⟨rfl,hb⟩;have S1:=Lib.hid (S0.out.call hb);obtain⟨b0,bz⟩:=bkc0l (S1.out.blk 3 rfl);clear hb)) | (go_at_call 50;go_must (refine(HHM.out _).mono ?_;rintro e w2 ⟨rfl,rfl⟩)))
 refine wp_region_noPanic ?_
 refine wp_region_held_drew (S:=fun W=>Blk W w.heap.size 24 #[.int .i64 k,.int .i64 f,.int .i64 t,.slice pw nw cw,.int .i64 rad,.int .i64 most]∧Blk W (w.heap.size+1) 27 #[.slice po no co,.slice pt nt ct,.slice pr nr cr,.slice pv nv cv]) (by kernel_rfl) ⟨S1.out.drew.blk 5 rfl,S1.out.drew.blk 4 rfl⟩ (fun hHeld=>?_)
 have SD:=Lib.hid S1.out.drew
 clear S0 S1 b0 bz HCJ HHM db
 generalize World.drew _=D at SD hHeld ⊢
 refine wpAnyH_take (i:=0) (v:=.agg #[.int .i64 k,.int .i64 f,.int .i64 t,.slice pw nw cw,.int .i64 rad,.int .i64 most]) rfl (by kernel_rfl) (by kernel_rfl) (by kernel_rfl) (noPanic_q _ _) (Or.inl ⟨by kernel_rfl,fun W hSw=>by have h0:=hSw.1.cell 0;have h1:=hSw.1.cell 1;have h2:=hSw.1.cell 2;have h3:=hSw.1.cell 3;have h4:=hSw.1.cell 4;have h5:=hSw.1.cell 5;clear hSw;go_simp⟩) hHeld ?_
 refine wpAnyH_take (i:=1) (v:=.agg #[.slice po no co,.slice pt nt ct,.slice pr nr cr,.slice pv nv cv]) rfl (by kernel_rfl) (by kernel_rfl) (by kernel_rfl) (noPanic_q _ _) (Or.inl ⟨by kernel_rfl,fun W hSw=>by have h0:=hSw.2.cell 0;have h1:=hSw.2.cell 1;have h2:=hSw.2.cell 2;have h3:=hSw.2.cell 3;clear hSw;go_simp⟩) hHeld ?_
 refine wpAnyH_take (i:=2) (v:=.slice pl nl cl) rfl (by kernel_rfl) (by kernel_rfl) (by kernel_rfl) (noPanic_q _ _) (Or.inl ⟨by kernel_rfl,fun W hSw=>by skip;clear hSw;go_simp⟩) hHeld ?_
 refine wpAnyH_take (i:=3) (v:=.int .i64 wk) rfl (by kernel_rfl) (by kernel_rfl) (by kernel_rfl) (noPanic_q _ _) (Or.inl ⟨by kernel_rfl,fun W hSw=>by skip;clear hSw;go_simp⟩) hHeld ?_
 refine wpAnyH_take (i:=4) (v:=.slice pp np cp) rfl (by kernel_rfl) (by kernel_rfl) (by kernel_rfl) (noPanic_q _ _) (Or.inl ⟨by kernel_rfl,fun W hSw=>by skip;clear hSw;go_simp⟩) hHeld ?_
 refine wpAnyH_take (i:=5) (v:=.agg #[.int .i64 k,.int .i64 f,.int .i64 t,.slice pw nw cw,.int .i64 rad,.int .i64 most]) rfl (by kernel_rfl) (by kernel_rfl) (by kernel_rfl) (noPanic_q _ _) (Or.inl ⟨by kernel_rfl,fun W hSw=>by have h0:=hSw.1.cell 0;have h1:=hSw.1.cell 1;have h2:=hSw.1.cell 2;have h3:=hSw.1.cell 3;have h4:=hSw.1.cell 4;have h5:=hSw.1.cell 5;clear hSw;go_simp⟩) hHeld ?_
 refine wpAnyH_ready (rs:=[6]) (by kernel_rfl) (by simp) (AllReadyH.cons rfl (fun K hK=>?_) AllReadyH.nil)
 go_simp
 refine(HSQ.out D).mono ?_
 rintro e w3 ⟨q,c,rfl,Z⟩
 have S3:=Lib.hid (SD.out.comp Z)
 clear Z SD hHeld HSQ
 refine hK.out _ _ ⟨S3.out.blk 6 rfl,S3.out.blk 5 rfl⟩ (fun hHeld=>?_)
 clear hK
 refine wpAnyH_take (i:=7) (v:=.agg #[.int .i64 k,.int .i64 f,.int .i64 t,.slice pw nw cw,.int .i64 rad,.int .i64 most,.slice po no co,.slice pt nt ct,.slice pr nr cr,.slice pv nv cv,.slice pl nl cl,.int .i64 wk,.slice pp np cp,.slice none 0 0,.slice q M0.length c]) rfl (by kernel_rfl) (by kernel_rfl) (by kernel_rfl) (noPanic_q _ _) (Or.inl ⟨by kernel_rfl,fun W hSw=>by skip;clear hSw;go_simp⟩) hHeld ?_
 refine wpAnyH_ready (rs:=[8]) (by kernel_rfl) (by simp) (AllReadyH.cons rfl (fun K hK=>?_) AllReadyH.nil)
 go_simp
 have S4:=Lib.hid (S3.out.al #[.int .i64 k,.int .i64 f,.int .i64 t,.slice pw nw cw,.int .i64 rad,.int .i64 most,.slice po no co,.slice pt nt ct,.slice pr nr cr,.slice pv nv cv,.slice pl nl cl,.int .i64 wk,.slice pp np cp,.slice none 0 0,.slice q M0.length c] 87 w3.heap.size rfl)
 clear hHeld
 refine hK.out _ _ ⟨S4.out.blk 7 rfl,S4.out.blk 6 rfl⟩ (fun hHeld=>?_)
 clear hK
 refine wpAnyH_take (i:=9) (v:=.pointer (some ⟨w3.heap.size,0,none⟩)) rfl (by kernel_rfl) (by kernel_rfl) (by kernel_rfl) (noPanic_q _ _) (Or.inl ⟨by kernel_rfl,fun W hSw=>by skip;clear hSw;go_simp⟩) hHeld ?_
 refine wpAnyH_done (by kernel_rfl) ?_ _
 refine noPanic_mk ?_
 clear hHeld
 simp [Act.put]
 obtain⟨X,hX⟩:∃ X,w3.alloc (.cells #[.int .i64 k,.int .i64 f,.int .i64 t,.slice pw nw cw,.int .i64 rad,.int .i64 most,.slice po no co,.slice pt nt ct,.slice pr nr cr,.slice pv nv cv,.slice pl nl cl,.int .i64 wk,.slice pp np cp,.slice none 0 0,.slice q M0.length c] 87)=X:=⟨_,rfl⟩
 rw [hX] at S4 ⊢
 clear hX S3
 generalize w3.heap.size=b at S4 ⊢
 clear w3 D
 have S5:=Lib.hid (S4.out.al #[.int .i64 0] 3 X.heap.size rfl)
 have S6:=Lib.hid (S5.out.al #[.pointer (some ⟨b,0,none⟩)] 82 (X.heap.size+1) (by simp))
 go_wp2_with (go_at_call 52;go_must (refine(StepsG b _).mono ?_;rintro e w5 ⟨rfl,rfl⟩))
 obtain⟨V1,hV⟩:∃ V1,(X.alloc (.cells #[.int .i64 0] 3)).alloc (.cells #[.pointer (some ⟨b,0,none⟩)] 82)=V1:=⟨_,rfl⟩
 rw [hV] at S6 ⊢
 clear hV S5 S4
 generalize X.heap.size+1=bx at S6 ⊢
 generalize X.heap.size=gn at S6 ⊢
 generalize w.heap.size+1+1+1+1+1=g14 at S6 ⊢
 generalize w.heap.size+1+1+1+1=g13 at S6 ⊢
 generalize w.heap.size+1+1+1=g12 at S6 ⊢
 generalize w.heap.size+1+1=gb at S6 ⊢
 clear X
 have S7:=Lib.hid (S6.out.nilrow 146 4)
 have SG:=Lib.hid (S7.out.pick (Δ:=[Pc.blk gn 3 #[.int .i64 0],Pc.blk g12 34 #[.bool false,.int .i64 0,.slice none 0 0],Pc.blk g13 3 #[.int .i64 0],Pc.blk g14 35 #[.int .i64 0],Pc.blk gb 3 #[.int .i64 bud]]) [2,7,6,5,8] (by decide) rfl)
 have SX:=Lib.hid (S7.out.pick (Δ:=[Pc.blk b 87 #[.int .i64 k,.int .i64 f,.int .i64 t,.slice pw nw cw,.int .i64 rad,.int .i64 most,.slice po no co,.slice pt nt ct,.slice pr nr cr,.slice pv nv cv,.slice pl nl cl,.int .i64 wk,.slice pp np cp,.slice none 0 0,.slice q M0.length c],Pc.blk bx 82 #[.pointer (some ⟨b,0,none⟩)],Pc.own 146 4 none 0 0 (encQ []),Pc.own 138 4 q M0.length c (encQ M0)]) [3,1,0,4] (by decide) rfl)
 have hap:∀ p∈[Pc.blk b 87 #[.int .i64 k,.int .i64 f,.int .i64 t,.slice pw nw cw,.int .i64 rad,.int .i64 most,.slice po no co,.slice pt nt ct,.slice pr nr cr,.slice pv nv cv,.slice pl nl cl,.int .i64 wk,.slice pp np cp,.slice none 0 0,.slice q M0.length c],Pc.blk bx 82 #[.pointer (some ⟨b,0,none⟩)],Pc.own 146 4 none 0 0 (encQ []),Pc.own 138 4 q M0.length c (encQ M0)],∀ p2∈[Pc.blk gn 3 #[.int .i64 0],Pc.blk g12 34 #[.bool false,.int .i64 0,.slice none 0 0],Pc.blk g13 3 #[.int .i64 0],Pc.blk g14 35 #[.int .i64 0],Pc.blk gb 3 #[.int .i64 bud]],∀ kk,p.foot kk→p2.foot kk→False:=by
  have hA:=List.pairwise_append.1 (S7.out.pick (Δ:=[Pc.blk b 87 #[.int .i64 k,.int .i64 f,.int .i64 t,.slice pw nw cw,.int .i64 rad,.int .i64 most,.slice po no co,.slice pt nt ct,.slice pr nr cr,.slice pv nv cv,.slice pl nl cl,.int .i64 wk,.slice pp np cp,.slice none 0 0,.slice q M0.length c],Pc.blk bx 82 #[.pointer (some ⟨b,0,none⟩)],Pc.own 146 4 none 0 0 (encQ []),Pc.own 138 4 q M0.length c (encQ M0)] ++ [Pc.blk gn 3 #[.int .i64 0],Pc.blk g12 34 #[.bool false,.int .i64 0,.slice none 0 0],Pc.blk g13 3 #[.int .i64 0],Pc.blk g14 35 #[.int .i64 0],Pc.blk gb 3 #[.int .i64 bud]]) [3,1,0,4,2,7,6,5,8] (by decide) rfl).apart
  exact fun p hp p2 hp2 kk hk hk2=>hA.2.2 p hp p2 hp2 kk hk hk2
 have HAP:=Lib.hid hap
 clear S6 S7 hap
 have HNE:Hid (gn≠b∧g12≠b∧g13≠b∧g14≠b∧gb≠b):=by
  have key:∀ p2∈[Pc.blk gn 3 #[.int .i64 0],Pc.blk g12 34 #[.bool false,.int .i64 0,.slice none 0 0],Pc.blk g13 3 #[.int .i64 0],Pc.blk g14 35 #[.int .i64 0],Pc.blk gb 3 #[.int .i64 bud]],¬ p2.foot b:=fun p2 hp2 hk2=>HAP.out _ (List.mem_cons_self ..) p2 hp2 b rfl hk2
  exact⟨fun e=>key (Pc.blk gn 3 #[.int .i64 0]) (by simp) e.symm,fun e=>key (Pc.blk g12 34 #[.bool false,.int .i64 0,.slice none 0 0]) (by simp) e.symm,fun e=>key (Pc.blk g13 3 #[.int .i64 0]) (by simp) e.symm,fun e=>key (Pc.blk g14 35 #[.int .i64 0]) (by simp) e.symm,fun e=>key (Pc.blk gb 3 #[.int .i64 bud]) (by simp) e.symm⟩
 obtain⟨Bd,hBd⟩:∃ Bd:Nat→Prop,Bd=footA [Pc.blk gn 3 #[.int .i64 0],Pc.blk g12 34 #[.bool false,.int .i64 0,.slice none 0 0],Pc.blk g13 3 #[.int .i64 0],Pc.blk g14 35 #[.int .i64 0],Pc.blk gb 3 #[.int .i64 bud]]:=⟨_,rfl⟩
 have HBD:=Lib.hid hBd
 clear hBd
 refine wpIn_wide.1 (wpIn_rangeFunc_toldD (F:=Fence.wide) (n:=9) rfl (by omega) (gf:=93) (lb:=#[.pointer (some ⟨bx,0,none⟩)]) rfl trivial (enters_of Tryz.func93 (by kernel_rfl) rfl)
  (HIT.out V1 b bx q M0.length c Bd SX.out ?hBl ?hBf) ?hXl
  (fun h k=>h.trans k) ?hKb (Below.refl _ _) (fun _=>rfl)
  (fun (pre:List YdT) W=>Sep w W [Pc.blk gn 3 #[.int .i64 (pre.length:Int)],Pc.blk g12 34 #[.bool false,.int .i64 0,.slice none 0 0],Pc.blk g13 3 #[.int .i64 0],Pc.blk g14 35 #[.int .i64 0],Pc.blk gb 3 #[.int .i64 bud]]∧V1.heap.size≤W.heap.size∧pre.length≤m∧(pre.length:Int)<bud)
  (fun c2 (pre:List YdT) W=>(c2=.ret∧∃ y:YdT,pre.length=m+1∧(m:Int)+1≤bud∧(∀ kk,blkOf y.q=some kk→kk≠b)∧AnsD k t L ws most (rn (m+1)) y.yes y.d y.F∧Sep w W [Pc.own 105 2 y.q y.F.length y.c (encE y.F),Pc.blk g12 34 #[.bool y.yes,.int .i64 y.d,.slice y.q y.F.length y.c],Pc.blk g13 3 #[.int .i64 ((m:Int)+1)],Pc.blk g14 35 #[.int .i64 0]])∨(c2=.exit 0∧bud<(m:Int)+1∧Sep w W [Pc.blk gn 3 #[.int .i64 bud],Pc.blk g12 34 #[.bool false,.int .i64 0,.slice none 0 0],Pc.blk g13 3 #[.int .i64 0],Pc.blk g14 35 #[.int .i64 0],Pc.blk gb 3 #[.int .i64 bud]]))
  ?hI ?hIx ?hQ ?h0
  (fun (pre:List YdT) (y:YdT) a' W=>∃ ga,(∀ kk,blkOf y.q=some kk→kk≠b)∧ga≠b∧frRun (.pointer (some ⟨gb,0,none⟩)) (.pointer (some ⟨g12,0,none⟩)) (.pointer (some ⟨g13,0,none⟩)) (.pointer (some ⟨g14,0,none⟩)) (.pointer (some ⟨gn,0,none⟩)) (.pointer (some ⟨ga,0,none⟩)) (.bool y.dn) a'∧Sep w W ([Pc.blk ga 34 #[.bool y.yes,.int .i64 y.d,.slice y.q y.F.length y.c],Pc.own 105 2 y.q y.F.length y.c (encE y.F)] ++ [Pc.blk gn 3 #[.int .i64 (pre.length:Int)],Pc.blk g12 34 #[.bool false,.int .i64 0,.slice none 0 0],Pc.blk g13 3 #[.int .i64 0],Pc.blk g14 35 #[.int .i64 0],Pc.blk gb 3 #[.int .i64 bud]])∧AnsD k t L ws most (rn (pre.length+1)) y.yes y.d y.F∧y.dn=doneB k t (rn (pre.length+1)))
  ?hAx ?assign ?body (fun D xs W _ h _ _=>h.elim) ?stop)
 case hBl =>
  intro kk hk
  rw [HBD.out] at hk
  obtain⟨p,hp,hk⟩:=hk
  exact⟨SG.out.new p hp kk hk,SG.out.lt hp hk⟩
 case hBf =>
  intro p hp kk hk hb
  rw [HBD.out] at hb
  obtain⟨p2,hp2,hk2⟩:=hb
  exact HAP.out p hp p2 hp2 kk hk hk2
 case hXl=>rintro kk rfl;exact(SX.out.blk 0 rfl).lt
 case hKb=>exact fun W l o o' hl ho hc _=>KpN.putObj W l o o' hl ho hc
 case hI =>
  rintro pre W W' row ⟨S,h1,h2⟩ hg hr
  exact⟨S.turnX gi_cells (gi_feet HNE.out) (fun kk e=>by rw [e];exact SX.out.bge 0 rfl) SG.out.ext.size hg hr,Nat.le_trans h1 hg.size,h2⟩
 case hIx =>
  rintro c2 pre W W' row h hg hr
  rcases h with ⟨rfl,y,h1,h2,h3,h4,S⟩ | ⟨rfl,h1,S⟩
  ·exact .inl ⟨rfl,y,h1,h2,h3,h4,S.turnX gr_cells (gr_feet h3 ⟨HNE.out.2.1,HNE.out.2.2.1,HNE.out.2.2.2.1⟩) (fun kk e=>by rw [e];exact SX.out.bge 0 rfl) SG.out.ext.size hg hr⟩
  ·exact .inr ⟨rfl,h1,S.turnX gi_cells (gi_feet HNE.out) (fun kk e=>by rw [e];exact SX.out.bge 0 rfl) SG.out.ext.size hg hr⟩
 case hQ=>exact fun pre W h=>Nat.lt_of_le_of_lt h.2.2.1 hm
 case h0=>exact⟨SG.out,Nat.le_refl _,Nat.zero_le _,by show ((0:Nat):Int)<bud;omega⟩
 case hAx =>
  rintro pre y a' _ W W' row ⟨ga,h1,h2,h3,S,h4⟩ hg hr
  refine⟨ga,h1,h2,h3,S.turnX (fun p hp=>?_) (fun p hp kk hk e=>?_) (fun kk e=>by rw [e];exact SX.out.bge 0 rfl) SG.out.ext.size hg hr,h4⟩
  ·rcases List.mem_append.1 hp with hp | hp
   ·simp only [List.mem_cons,List.not_mem_nil,or_false] at hp
    rcases hp with rfl | rfl
    ·exact Pc.blk_cells _ _ _
    ·exact Pc.own_cells _ _ _ _ _ _
   ·exact gi_cells p hp
  ·rcases List.mem_append.1 hp with hp | hp
   ·simp only [List.mem_cons,List.not_mem_nil,or_false] at hp
    rcases hp with rfl | rfl
    ·exact h2 ((show kk=ga from hk).symm.trans e)
    ·exact h1 kk hk e
   ·exact gi_feet HNE.out p hp kk hk e
 case assign =>
  rintro l pre y V0 W Kx ⟨S,hVs,hpm,hpb⟩ hE ⟨hA1,hA2,hA3⟩ hKx
  have HKX:=Lib.hid hKx
  have SY:=Lib.hid ((S.comp hA1).al #[.bool y.yes,.int .i64 y.d,.slice y.q y.F.length y.c] 34 W.heap.size rfl)
  have HBV:=Lib.hid (show b<V0.heap.size from Nat.lt_of_lt_of_le (SX.out.blk 0 rfl).lt hVs)
  have HH:=Lib.hid (show ∀ kk,blkOf y.q=some kk→kk≠b from fun kk hk e=>by
   have:=hA1.new _ (List.mem_cons_self ..) kk hk
   have:=HBV.out
   omega)
  have HWS:=Lib.hid hE.size
  have HA2:=Lib.hid hA2
  have HA3:=Lib.hid hA3
  clear hKx S hA1 hA2 hA3
  simp only [ydE]
  gi_wp2
  exact HKX.out _ _ ((keeps_ext (Ext.alloc (Below.refl _ _) _)).from _) (KpN.of_ext (Ext.alloc (Below.refl _ _) _)) ⟨SY.out.pick [2,3,4,5,6] (by decide) rfl,by rw [World.size_alloc];have:=HWS.out;omega,hpm,hpb⟩ ⟨W.heap.size,HH.out,by have:=HWS.out;have:=HBV.out;omega,frRun_of,SY.out,HA2.out,HA3.out⟩
 case body =>
  rintro l pre y a' W ⟨_,hVs,hpm,hpb⟩ ⟨ga,hyb,hgb,hfr,S,hA,hdn⟩
  obtain⟨j,hj⟩:∃ j,pre.length=j:=⟨_,rfl⟩
  have hj2:(pre ++ [y]).length=j+1:=by rw [List.length_append,hj];rfl
  rw [hj] at hpm hpb S hA hdn
  obtain⟨pre2,hpre⟩:∃ pre2,pre ++ [y]=pre2:=⟨_,rfl⟩
  rw [hpre] at hj2 ⊢
  obtain⟨yes,d,F,yq,yc,dn⟩:=y
  dsimp only at hyb hfr S hA hdn
  have HJ2:=Lib.hid hj2
  have HYB:=Lib.hid hyb
  have HA:=Lib.hid hA
  clear hj hj2 hpre hyb hA
  obtain⟨n0,nf,nz⟩:=bkc0z0l (S.blk 2 rfl)
  have d1:(0:Int)≤(j:Int):=by omega
  have d2:(j:Int)≤1000:=by omega
  have S1:=Lib.hid (S.set 2 rfl 0 (.int .i64 ((j:Int)+1)))
  have K1:=Lib.hid (KeepsOthers.setCell W ⟨gn,0,none⟩ (.int .i64 ((j:Int)+1)))
  have KP:=Lib.hid (KpN.cell (Bd:=Bd) (C:=V1.heap.size) W ⟨gn,0,none⟩ (.int .i64 ((j:Int)+1)) (by rw [HBD.out];exact⟨_,List.mem_cons_self ..,rfl⟩))
  have HSZ:=Lib.hid (show V1.heap.size≤(W.setCell ⟨gn,0,none⟩ (.int .i64 ((j:Int)+1))).heap.size from Nat.le_trans hVs (grown_set ..).size)
  clear S
  unfold frRun at hfr
  (repeat obtain⟨_,hfr⟩:=hfr)
  by_cases hjm:j=m
  ·subst hjm
   have hdt:dn=true:=by rw [hdn,HDN.out]
   subst hdt
   clear hdn HFN
   gi_wp2
   clear n0 nf nz
   have S2:=Lib.hid (show Sep w (W.setCell ⟨gn,0,none⟩ (.int .i64 ((j:Int)+1))).drew ([Pc.blk ga 34 #[.bool yes,.int .i64 d,.slice yq F.length yc],Pc.own 105 2 yq F.length yc (encE F)] ++ [Pc.blk gn 3 #[.int .i64 ((j:Int)+1)],Pc.blk g12 34 #[.bool false,.int .i64 0,.slice none 0 0],Pc.blk g13 3 #[.int .i64 0],Pc.blk g14 35 #[.int .i64 0],Pc.blk gb 3 #[.int .i64 bud]]) from S1.out.drew)
   have K2:=Lib.hid (K1.out.trans (keeps_ext (Below.refl _ (W.setCell ⟨gn,0,none⟩ (.int .i64 ((j:Int)+1)))).drew))
   refine wpIn_region_heldR (S:=fun U=>Blk U ga 34 #[.bool yes,.int .i64 d,.slice yq F.length yc]∧Blk U gn 3 #[.int .i64 ((j:Int)+1)]) 4 rfl (noDefer_arr (by kernel_rfl)) (by kernel_rfl) ⟨S2.out.blk 0 rfl,S2.out.blk 2 rfl⟩ (fun hHeld=>?_)
   clear S1 K1 KP HSZ
   generalize World.drew _=D at S2 K2 hHeld ⊢
   refine wpAnyHI_take [2,3,4] (i:=0) (v:=.agg #[.bool yes,.int .i64 d,.slice yq F.length yc]) rfl rfl (by kernel_rfl) (by kernel_rfl) (by kernel_rfl) (by kernel_rfl) (fun _ _ _ h=>h) ⟨Or.inl ⟨by kernel_rfl,fun W hSw=>by have h0:=hSw.1.cell 0;have h1:=hSw.1.cell 1;have h2:=hSw.1.cell 2;have h3:=hSw.1.lt;clear hSw;go_simp⟩,fun _ _=>rfl⟩ hHeld ?_
   refine wpAnyHI_take [3,4] (i:=1) (v:=.int .i64 ((j:Int)+1)) rfl rfl (by kernel_rfl) (by kernel_rfl) (by kernel_rfl) (by kernel_rfl) (fun _ _ _ h=>h) ⟨Or.inl ⟨by kernel_rfl,fun W hSw=>by have h0:=hSw.2.cell 0;have h3:=hSw.2.lt;clear hSw;go_simp⟩,fun _ _=>rfl⟩ hHeld ?_
   obtain⟨c0,c1,c2,cz,cf0,cf1,cf2⟩:=bkc0c1c2lz0z1z2 (S2.out.blk 3 rfl)
   refine wpAnyHI_one (i:=2) (by kernel_rfl) rfl (by decide) (fun K hK=>?_)
   go_simp
   have S3:=Lib.hid (show Sep w (((D.setCell ⟨g12,0,none⟩ (.bool yes)).setCell ⟨g12,1,none⟩ (.int .i64 d)).setCell ⟨g12,2,none⟩ (.slice yq F.length yc)) [Pc.blk ga 34 #[.bool yes,.int .i64 d,.slice yq F.length yc],Pc.own 105 2 yq F.length yc (encE F),Pc.blk gn 3 #[.int .i64 ((j:Int)+1)],Pc.blk g12 34 #[.bool yes,.int .i64 d,.slice yq F.length yc],Pc.blk g13 3 #[.int .i64 0],Pc.blk g14 35 #[.int .i64 0],Pc.blk gb 3 #[.int .i64 bud]] from((S2.out.set 3 rfl 0 (.bool yes)).set 3 rfl 1 (.int .i64 d)).set 3 rfl 2 (.slice yq F.length yc))
   have K3:=Lib.hid (((K2.out.trans (KeepsOthers.setCell D ⟨g12,0,none⟩ (.bool yes))).trans (KeepsOthers.setCell _ ⟨g12,1,none⟩ (.int .i64 d))).trans (KeepsOthers.setCell _ ⟨g12,2,none⟩ (.slice yq F.length yc)))
   clear c0 c1 c2 cz cf0 cf1 cf2 S2 K2 hHeld
   refine hK _ _ ⟨S3.out.blk 0 rfl,S3.out.blk 2 rfl⟩ ?_
   clear hK
   generalize ((D.setCell ⟨g12,0,none⟩ (.bool yes)).setCell ⟨g12,1,none⟩ (.int .i64 d)).setCell ⟨g12,2,none⟩ (.slice yq F.length yc)=D3 at S3 K3 ⊢
   obtain⟨c0,cz,cf0⟩:=bkc0lz0 (S3.out.blk 4 rfl)
   refine wpAnyHI_one (i:=3) (by kernel_rfl) rfl (by decide) (fun K hK=>?_)
   go_simp
   have S4:=Lib.hid (show Sep w (D3.setCell ⟨g13,0,none⟩ (.int .i64 ((j:Int)+1))) [Pc.blk ga 34 #[.bool yes,.int .i64 d,.slice yq F.length yc],Pc.own 105 2 yq F.length yc (encE F),Pc.blk gn 3 #[.int .i64 ((j:Int)+1)],Pc.blk g12 34 #[.bool yes,.int .i64 d,.slice yq F.length yc],Pc.blk g13 3 #[.int .i64 ((j:Int)+1)],Pc.blk g14 35 #[.int .i64 0],Pc.blk gb 3 #[.int .i64 bud]] from S3.out.set 4 rfl 0 (.int .i64 ((j:Int)+1)))
   have K4:=Lib.hid (K3.out.trans (KeepsOthers.setCell D3 ⟨g13,0,none⟩ (.int .i64 ((j:Int)+1))))
   clear c0 cz cf0 S3 K3
   refine hK _ _ ⟨S4.out.blk 0 rfl,S4.out.blk 2 rfl⟩ ?_
   clear hK
   generalize D3.setCell ⟨g13,0,none⟩ (.int .i64 ((j:Int)+1))=D4 at S4 K4 ⊢
   obtain⟨c0,cz,cf0⟩:=bkc0lz0 (S4.out.blk 5 rfl)
   refine wpAnyHI_last (by kernel_rfl) rfl (fun K hK=>?_)
   go_simp
   have S5:=Lib.hid (S4.out.set 5 rfl 0 (.int .i64 0))
   have K5:=Lib.hid (K4.out.trans (KeepsOthers.setCell D4 ⟨g14,0,none⟩ (.int .i64 0)))
   clear c0 cz cf0 S4 K4
   refine hK _ _ ?_
   clear hK
   refine wpAnyIn_done (by kernel_rfl) ?_ _
   gi_wp2
   exact⟨K5.out.from _,.inl ⟨rfl,⟨yes,d,F,yq,yc,true⟩,HJ2.out,by omega,HYB.out,HA.out,S5.out.pick [1,3,4,5] (by decide) rfl⟩⟩
  ·have hdf:dn=false:=by rw [hdn];exact HFN.out j (by omega)
   subst hdf
   clear hdn HDN
   obtain⟨n1,n1z⟩:=bkc0l (S1.out.blk 2 rfl)
   obtain⟨b1,b1z⟩:=bkc0l (S1.out.blk 6 rfl)
   by_cases hjb:(j:Int)+1=bud
   ·subst hjb
    have e1:decide ((j:Int)+1=(j:Int)+1)=true:=by simp
    gi_wp2
    exact⟨K1.out.from _,.inr ⟨rfl,by omega,S1.out.pick [2,3,4,5,6] (by decide) rfl⟩⟩
   ·have e1:decide ((j:Int)+1=bud)=false:=by simpa using hjb
    have e2:((j:Int)+1 == bud)=false:=by simpa using hjb
    gi_wp2
    have hc:((pre2.length:Nat):Int)=(j:Int)+1:=by rw [HJ2.out];omega
    refine⟨K1.out.from _,KP.out,?_,HSZ.out,by rw [HJ2.out];omega,by rw [hc];omega⟩
    rw [hc]
    exact S1.out.pick [2,3,4,5,6] (by decide) rfl
 case stop =>
  rintro D c2 pre W hD _ (⟨rfl,y,hl,hmb,hyb,hA,S⟩ | ⟨rfl,hmb,S⟩) hK
  ·obtain⟨yes,d,F,yq,yc,dn⟩:=y
   dsimp only at hA S
   have S':=S.putObj gr_cells (.deferred none) (Nat.le_trans SG.out.ext.size hD) hK rfl
   obtain⟨x0,x1,x2⟩:=bkc0c1c2 (S'.blk 1 rfl)
   have x3:=(S'.blk 2 rfl).cell 0
   have x4:=(S'.blk 3 rfl).cell 0
   have SQ:=Lib.hid (S'.pick [0] (by decide) rfl:Sep w _ [Pc.own 105 2 yq F.length yc (encE F)])
   have HA:=Lib.hid hA
   clear hA S S'
   gi_wp2
   try rw [Exit.noGoto_ret]
   refine⟨by simp,.inl ⟨_,_,rfl,run_takeDeferred hK,?_⟩⟩
   exact⟨.tuple #[.agg #[.bool yes,.int .i64 d,.slice yq F.length yc],.int .i64 ((m:Int)+1),.int .i64 0],by simp [results,Tryz.results17,go_sem,x0,x1,x2,x3,x4,Tryz.sizeOf34,Tryz.isAgg34],yes,d,F,fun _=>⟨HA.out,yq,yc,rfl,SQ.out⟩,fun h=>absurd hmb (by omega)⟩
  ·have HDB:=Lib.hid (Nat.le_trans SG.out.ext.size hD)
   have HS:=Lib.hid (show Sep w W [Pc.blk gn 3 #[.int .i64 bud],Pc.blk g12 34 #[.bool false,.int .i64 0,.slice none 0 0],Pc.blk g13 3 #[.int .i64 0],Pc.blk g14 35 #[.int .i64 0],Pc.blk gb 3 #[.int .i64 bud],Pc.obj D (.deferred (some []))] from S.obj gi_cells HDB.out hK rfl)
   clear S hK
   gi_wp2
   go_wp2
   refine wp_region_noPanic ?_
   refine wp_region_held_drew (S:=fun U=>Blk U gn 3 #[.int .i64 bud]) (by kernel_rfl) (HS.out.drew.blk 0 rfl) (fun hHeld=>?_)
   have S2:=Lib.hid HS.out.drew
   clear HS
   generalize World.drew _=U at S2 hHeld ⊢
   refine wpAnyH_take (i:=0) (v:=.agg #[.bool false,.int .i64 0,.slice none 0 0]) rfl (by kernel_rfl) (by kernel_rfl) (by kernel_rfl) (noPanic_q _ _) (Or.inl ⟨by kernel_rfl,fun W hSw=>by skip;clear hSw;go_simp⟩) hHeld ?_
   refine wpAnyH_take (i:=1) (v:=.int .i64 bud) rfl (by kernel_rfl) (by kernel_rfl) (by kernel_rfl) (noPanic_q _ _) (Or.inl ⟨by kernel_rfl,fun W hSw=>by have h0:=hSw.cell 0;have h1:=hSw.lt;clear hSw;go_simp⟩) hHeld ?_
   obtain⟨c0,c1,c2,cz,cf0,cf1,cf2⟩:=bkc0c1c2lz0z1z2 (S2.out.blk 1 rfl)
   refine wpAnyH_ready (rs:=[2]) (by kernel_rfl) (by simp) (AllReadyH.cons rfl (fun K hK=>?_) AllReadyH.nil)
   go_simp
   have S3:=Lib.hid (((S2.out.set 1 rfl 0 (.bool false)).set 1 rfl 1 (.int .i64 0)).set 1 rfl 2 (.slice none 0 0))
   clear c0 c1 c2 cz cf0 cf1 cf2 S2 hHeld
   refine hK.out _ _ (S3.out.blk 0 rfl) (fun hHeld=>?_)
   clear hK
   generalize ((U.setCell ⟨g12,0,none⟩ (.bool false)).setCell ⟨g12,1,none⟩ (.int .i64 0)).setCell ⟨g12,2,none⟩ (.slice none 0 0)=U3 at S3 hHeld ⊢
   obtain⟨c0,cz,cf0⟩:=bkc0lz0 (S3.out.blk 2 rfl)
   refine wpAnyH_ready (rs:=[3]) (by kernel_rfl) (by simp) (AllReadyH.cons rfl (fun K hK=>?_) AllReadyH.nil)
   go_simp
   have S4:=Lib.hid (S3.out.set 2 rfl 0 (.int .i64 bud))
   clear c0 cz cf0 S3 hHeld
   refine hK.out _ _ (S4.out.blk 0 rfl) (fun hHeld=>?_)
   clear hK
   generalize U3.setCell ⟨g13,0,none⟩ (.int .i64 bud)=U4 at S4 hHeld ⊢
   obtain⟨c0,cz,cf0⟩:=bkc0lz0 (S4.out.blk 3 rfl)
   refine wpAnyH_ready (rs:=[4]) (by kernel_rfl) (by simp) (AllReadyH.cons rfl (fun K hK=>?_) AllReadyH.nil)
   go_simp
   have S5:=Lib.hid (show Sep w (U4.setCell ⟨g14,0,none⟩ (.int .i64 251)) [Pc.blk gn 3 #[.int .i64 bud],Pc.blk g12 34 #[.bool false,.int .i64 0,.slice none 0 0],Pc.blk g13 3 #[.int .i64 bud],Pc.blk g14 35 #[.int .i64 251],Pc.blk gb 3 #[.int .i64 bud],Pc.obj D (.deferred (some []))] from S4.out.set 3 rfl 0 (.int .i64 251))
   clear c0 cz cf0 S4 hHeld
   refine hK.out _ _ (S5.out.blk 0 rfl) (fun hHeld=>?_)
   clear hK hHeld
   refine wpAnyH_done (by kernel_rfl) ?_ _
   refine noPanic_mk ?_
   generalize U4.setCell ⟨g14,0,none⟩ (.int .i64 251)=U5 at S5 ⊢
   have hK:U5.heap[D]?=some (.deferred (some [])):=S5.out.all (Pc.obj D (.deferred (some []))) (by simp)
   have S':=(S5.out.pick (Δ:=[Pc.blk gn 3 #[.int .i64 bud],Pc.blk g12 34 #[.bool false,.int .i64 0,.slice none 0 0],Pc.blk g13 3 #[.int .i64 bud],Pc.blk g14 35 #[.int .i64 251],Pc.blk gb 3 #[.int .i64 bud]]) [0,1,2,3,4] (by decide) rfl).putObj gi_cells (.deferred none) HDB.out hK rfl
   obtain⟨x0,x1,x2⟩:=bkc0c1c2 (S'.blk 1 rfl)
   have x3:=(S'.blk 2 rfl).cell 0
   have x4:=(S'.blk 3 rfl).cell 0
   have SQ:=Lib.hid ((S'.nilrow 105 2).pick (Δ:=[Pc.own 105 2 none 0 0 (encE [])]) [0] (by decide) rfl)
   clear S' S5
   try simp [Act.put]
   go_wp2
   try rw [Exit.noGoto_ret]
   refine⟨by simp,.inl ⟨_,_,rfl,run_takeDeferred hK,?_⟩⟩
   exact⟨.tuple #[.agg #[.bool false,.int .i64 0,.slice none 0 0],.int .i64 bud,.int .i64 251],by simp [results,Tryz.results17,go_sem,x0,x1,x2,x3,x4,Tryz.sizeOf34,Tryz.isAgg34],false,0,[],fun h=>absurd hmb (by omega),fun _=>⟨none,0,rfl,SQ.out⟩⟩
end
section
open Go Go.RowKit
theorem home_any (wv:Int):∃ hv ok,ok=decide (1≤wv∧wv≤16)∧∀ W,Calls Tryz.prog 50 #[.int .i64 0,.int .i64 wv] W fun e w'=>e=.returned (.tuple #[.int .i64 hv,.bool ok])∧W=w':=by
 by_cases h:1≤wv∧wv≤16
 ·obtain⟨n,rfl⟩:∃ n:Nat,wv=(n:Int):=⟨wv.toNat,by omega⟩
  exact⟨_,true,by rw [decide_eq_true h],fun W=>HomeG 0 n W (by omega) (by omega) (by omega) (by omega)⟩
 ·exact⟨0,false,by rw [decide_eq_false h],fun W=>HomeNo 0 wv W (by omega)⟩
theorem RunErr (k f t:Int) (pw:Option Addr) (nw cw:Nat) (ws:List ByteArray) (rad most:Int) (po:Option Addr) (no co:Nat) (O:List Int) (pt:Option Addr) (nt ct:Nat) (T:List Int) (pr:Option Addr) (nr cr:Nat) (R:List Int) (pv:Option Addr) (nv cv:Nat) (V:List Int) (pl:Option Addr) (nl cl:Nat) (wv bud:Int) (pp:Option Addr) (np cp:Nat) (w:World) (hO:Rd w 1 po no (encI O)) (hT:Rd w 1 pt nt (encI T)) (hR:Rd w 1 pr nr (encI R)) (hV:Rd w 1 pv nv (encI V)) (hct:nt≤ct) (hcv:nv≤cv)
  (hW:Rd w 1 pw nw (encS ws)) (hz:∀ s∈ws,s.size≤1000000) (h1000:no≤1000)
  (h:chkJ (checkR O T R V) k f t ws rad most no≠0∨¬ (1≤wv∧wv≤16)∨bud<1) :
  Calls Tryz.prog 17 #[.agg #[.int .i64 k,.int .i64 f,.int .i64 t,.slice pw nw cw,.int .i64 rad,.int .i64 most],.agg #[.slice po no co,.slice pt nt ct,.slice pr nr cr,.slice pv nv cv],.slice pl nl cl,.int .i64 wv,.int .i64 bud,.slice pp np cp] w (RunQ false 0 [] 0 (if chkJ (checkR O T R V) k f t ws rad most no≠0 then chkJ (checkR O T R V) k f t ws rad most no else 1) w):=by
 have HCJ:=Lib.hid (fun W (h:Ext w W)=>CheckJ k f t pw nw cw ws rad most po no co O pt nt ct T pr nr cr R pv nv cv V W (hO.ext h) (hT.ext h) (hR.ext h) (hV.ext h) hct hcv (hW.ext h) hz h1000)
 obtain⟨E,hE⟩:∃ E,chkJ (checkR O T R V) k f t ws rad most no=E:=⟨_,rfl⟩
 rw [hE] at HCJ h ⊢
 obtain⟨hv,ok,hok,HH0⟩:=home_any wv
 have HHM:=Lib.hid HH0
 have S0:=Lib.hid ((((((((Sep.start w).al #[.int .i64 k,.int .i64 f,.int .i64 t,.slice pw nw cw,.int .i64 rad,.int .i64 most] 24 w.heap.size rfl).al #[.slice po no co,.slice pt nt ct,.slice pr nr cr,.slice pv nv cv] 27 (w.heap.size+1) (by simp)).al #[.int .i64 bud] 3 (w.heap.size+1+1) (by simp)).al #[.bool false,.int .i64 0,.slice none 0 0] 34 (w.heap.size+1+1+1) (by simp)).al #[.int .i64 0] 3 (w.heap.size+1+1+1+1) (by simp)).al #[.int .i64 0] 35 (w.heap.size+1+1+1+1+1) (by simp)))
 clear hO hT hR hV hct hcv hW hz HH0 hE h1000
 have key:E≠0∨(E=0∧ok=false)∨(E=0∧ok=true∧bud<1):=by
  by_cases h0:E=0
  ·right
   cases ok with
   | false=>exact .inl ⟨h0,rfl⟩
   | true =>
    have:=of_decide_eq_true hok.symm
    exact .inr ⟨h0,rfl,by rcases h with h | h | h <;> first | exact absurd h0 h | exact absurd this h | exact h⟩
  ·exact .inl h0
 clear h hok
 obtain⟨E2,hE2⟩:∃ E2,(if E≠0 then E else 1)=E2:=⟨_,rfl⟩
 rw [hE2]
 have HE2:=Lib.hid hE2
 clear hE2
 go_enter Tryz.func17,Tryz.ntmps17
 rcases key with h | ⟨rfl,rfl⟩ | ⟨rfl,rfl,h⟩
 ·have d1:decide (E=0)=false:=by simpa using h
  have d2:(E == 0)=false:=by simpa using h
  have e2:E2=E:=by rw [← HE2.out,if_pos h]
  subst e2
  clear HE2
  go_wp2_with (first | (go_at_call 49;go_must (refine(HCJ.out _ S0.out.ext).mono ?_;rintro e w1 ⟨rfl,hb⟩;have S1:=Lib.hid (S0.out.call hb);obtain⟨b0,bz⟩:=bkc0l (S1.out.blk 3 rfl);obtain⟨c0,c1,c2,cz,f0,f1,f2⟩:=bkc0c1c2lz0z1z2 (S1.out.blk 2 rfl);obtain⟨a0,az,g0⟩:=bkc0lz0 (S1.out.blk 1 rfl);obtain⟨y0,yz,h0⟩:=bkc0lz0 (S1.out.blk 0 rfl);clear hb)) | (go_at_call 50;go_must (refine(HHM.out _).mono ?_;rintro e w2 ⟨rfl,rfl⟩)))
  have S9:=((((S1.out.set 2 rfl 0 (.bool false)).set 2 rfl 1 (.int .i64 0)).set 2 rfl 2 (.slice none 0 0)).set 1 rfl 0 (.int .i64 0)).set 0 rfl 0 (.int .i64 E2)
  obtain⟨x0,x1,x2⟩:=bkc0c1c2 (S9.blk 2 rfl)
  have x3:=(S9.blk 1 rfl).cell 0
  have x4:=(S9.blk 0 rfl).cell 0
  exact bodyPost_ret (v:=.tuple #[.agg #[.bool false,.int .i64 0,.slice none 0 0],.int .i64 0,.int .i64 E2]) (by simp [results,Tryz.results17,go_sem,x0,x1,x2,x3,x4,Tryz.sizeOf34,Tryz.isAgg34]) rfl ⟨none,0,rfl,(S9.nilrow 105 2).pick [0] (by decide) rfl⟩
 ·have e2:E2=1:=by rw [← HE2.out,if_neg (by simp)]
  subst e2
  clear HE2
  go_wp2_with (first | (go_at_call 49;go_must (refine(HCJ.out _ S0.out.ext).mono ?_;rintro e w1 ⟨rfl,hb⟩;have S1:=Lib.hid (S0.out.call hb);obtain⟨b0,bz⟩:=bkc0l (S1.out.blk 3 rfl);obtain⟨c0,c1,c2,cz,f0,f1,f2⟩:=bkc0c1c2lz0z1z2 (S1.out.blk 2 rfl);obtain⟨a0,az,g0⟩:=bkc0lz0 (S1.out.blk 1 rfl);obtain⟨y0,yz,h0⟩:=bkc0lz0 (S1.out.blk 0 rfl);clear hb)) | (go_at_call 50;go_must (refine(HHM.out _).mono ?_;rintro e w2 ⟨rfl,rfl⟩)))
  have S9:=((((S1.out.set 2 rfl 0 (.bool false)).set 2 rfl 1 (.int .i64 0)).set 2 rfl 2 (.slice none 0 0)).set 1 rfl 0 (.int .i64 0)).set 0 rfl 0 (.int .i64 1)
  obtain⟨x0,x1,x2⟩:=bkc0c1c2 (S9.blk 2 rfl)
  have x3:=(S9.blk 1 rfl).cell 0
  have x4:=(S9.blk 0 rfl).cell 0
  exact bodyPost_ret (v:=.tuple #[.agg #[.bool false,.int .i64 0,.slice none 0 0],.int .i64 0,.int .i64 1]) (by simp [results,Tryz.results17,go_sem,x0,x1,x2,x3,x4,Tryz.sizeOf34,Tryz.isAgg34]) rfl ⟨none,0,rfl,(S9.nilrow 105 2).pick [0] (by decide) rfl⟩
 ·have e2:E2=1:=by rw [← HE2.out,if_neg (by simp)]
  subst e2
  clear HE2
  have d1:decide (bud<1)=true:=by simpa using h
  go_wp2_with (first | (go_at_call 49;go_must (refine(HCJ.out _ S0.out.ext).mono ?_;rintro e w1 ⟨rfl,hb⟩;have S1:=Lib.hid (S0.out.call hb);obtain⟨b0,bz⟩:=bkc0l (S1.out.blk 3 rfl);obtain⟨c0,c1,c2,cz,f0,f1,f2⟩:=bkc0c1c2lz0z1z2 (S1.out.blk 2 rfl);obtain⟨a0,az,g0⟩:=bkc0lz0 (S1.out.blk 1 rfl);obtain⟨y0,yz,h0⟩:=bkc0lz0 (S1.out.blk 0 rfl);clear hb)) | (go_at_call 50;go_must (refine(HHM.out _).mono ?_;rintro e w2 ⟨rfl,rfl⟩)))
  have S9:=((((S1.out.set 2 rfl 0 (.bool false)).set 2 rfl 1 (.int .i64 0)).set 2 rfl 2 (.slice none 0 0)).set 1 rfl 0 (.int .i64 0)).set 0 rfl 0 (.int .i64 1)
  obtain⟨x0,x1,x2⟩:=bkc0c1c2 (S9.blk 2 rfl)
  have x3:=(S9.blk 1 rfl).cell 0
  have x4:=(S9.blk 0 rfl).cell 0
  exact bodyPost_ret (v:=.tuple #[.agg #[.bool false,.int .i64 0,.slice none 0 0],.int .i64 0,.int .i64 1]) (by simp [results,Tryz.results17,go_sem,x0,x1,x2,x3,x4,Tryz.sizeOf34,Tryz.isAgg34]) rfl ⟨none,0,rfl,(S9.nilrow 105 2).pick [0] (by decide) rfl⟩
end
section
open Go Go.RowKit
theorem ansD_uniq {k t:Int} {L:List Po} {ws:List ByteArray} {most:Int} {p:List Sq × List Sq} {b b':Bool} {d d':Int} {F F':List (Int × Int)} (hk:k=1∨k=2∨k=3) (hd:doneB k t p=true) (h:AnsD k t L ws most p b d F) (h':AnsD k t L ws most p b' d' F'):b=b'∧d=d'∧F=F':=by
 rcases hk with rfl | rfl | rfl
 ·obtain⟨h1,h2⟩:=h.1 rfl
  obtain⟨g1,g2⟩:=h'.1 rfl
  obtain⟨e1,e2⟩:=meetA_uniq h1 g1
  exact⟨e1,e2,by rw [h2,g2]⟩
 ·obtain⟨h1,h2,h3⟩:=h.2.1 rfl
  obtain⟨g1,g2,g3⟩:=h'.2.1 rfl
  exact⟨by rw [h1,g1],by rw [h2,g2],by rw [h3,g3]⟩
 ·have h0:p.2.length=0:=by
   unfold doneB at hd
   rw [if_neg (by decide),if_neg (by decide)] at hd
   exact of_decide_eq_true hd
  obtain⟨h1,h2,h3⟩:=h.2.2 rfl h0
  obtain⟨g1,g2,g3⟩:=h'.2.2 rfl h0
  subst h1 g1
  exact⟨by rw [h2,g2],by rw [h3,g3],rfl⟩
theorem run_m {k f t rad most:Int} {ws:List ByteArray} {O T R V:List Int} {n:Nat} (hck:checkR O T R V=true) (hn:O.length=n+1) (h200:n≤200) (hq:chkQ k f t ws rad most (n:Int)=0) :
  (k=1∨k=2∨k=3)∧(∀ i,RunI n i (runM (nextL k rad true O T R V) (startQ k f t 0) i)) ∧
  ∃ m,m<n∧doneB k t (runM (nextL k rad true O T R V) (startQ k f t 0) (m+1))=true∧∀ j,j<m→doneB k t (runM (nextL k rad true O T R V) (startQ k f t 0) (j+1))=false:=by
 have hl:Leads n (nextL k rad true O T R V):=next_leads hck hn
 have ho:=chkQ_zero.1 hq
 by_cases h12:k=1∨k=2
 ·have hk:k=1∨k=2∨k=3:=by omega
  rw [okQ_12 h12,Bool.and_eq_true] at ho
  obtain⟨o1,o2⟩:=ho
  unfold plcB at o1 o2
  simp only [Bool.and_eq_true,decide_eq_true_eq] at o1 o2
  obtain⟨s,rfl⟩:∃ s:Nat,f=(s:Int):=⟨f.toNat,by omega⟩
  obtain⟨u,rfl⟩:∃ u:Nat,t=(u:Int):=⟨t.toNat,by omega⟩
  obtain⟨f1,f2,_⟩:=start_facts (k:=k) (rad:=rad) (most:=rad) (s:=s) (t:=u) (n:=n) hk (by omega) (fun _=>by omega) rfl rfl
  exact⟨hk,runI_all hl f1 f2,run_done hck hn h200 hk (by omega) (fun _=>by omega)⟩
 ·by_cases h3:k=3
  ·subst h3
   rw [okQ_3,Bool.and_eq_true,Bool.and_eq_true] at ho
   obtain⟨⟨o1,_⟩,_⟩:=ho
   unfold plcB at o1
   simp only [Bool.and_eq_true,decide_eq_true_eq] at o1
   obtain⟨s,rfl⟩:∃ s:Nat,f=(s:Int):=⟨f.toNat,by omega⟩
   have e1:startQ 3 (s:Int) t 0=startQ 3 (s:Int) ((0:Nat):Int) 0:=rfl
   have e2:∀ p,doneB 3 t p=doneB 3 ((0:Nat):Int) p:=fun p=>rfl
   obtain⟨f1,f2,_⟩:=start_facts (k:=3) (rad:=rad) (most:=rad) (s:=s) (t:=0) (n:=n) (Or.inr (Or.inr rfl)) (by omega) (fun h=>absurd h (by decide)) rfl rfl
   rw [e1]
   simp only [e2]
   exact⟨by simp,runI_all hl f1 f2,run_done (k:=3) (s:=s) (t:=0) hck hn h200 (Or.inr (Or.inr rfl)) (by omega) (fun h=>absurd h (by decide))⟩
  ·rw [okQ_else h12 h3] at ho
   cases ho
end
section
open Go Go.RowKit
def RunS (O T R V:List Int) (L:List Po) (k f t:Int) (ws:List ByteArray) (rad most wv bud:Int) (b:Bool) (d:Int) (F:List (Int × Int)) (n e:Int):Prop :=
 (chkJ (checkR O T R V) k f t ws rad most O.length≠0→b=false∧d=0∧F=[]∧n=0∧e=chkJ (checkR O T R V) k f t ws rad most O.length) ∧
 (chkJ (checkR O T R V) k f t ws rad most O.length=0→¬ (1≤wv∧wv≤16∧1≤bud)→b=false∧d=0∧F=[]∧n=0∧e=1) ∧
 (chkJ (checkR O T R V) k f t ws rad most O.length=0→1≤wv∧wv≤16∧1≤bud→(k=1∨k=2∨k=3)∧∃ m:Nat,m<O.length∧doneB k t (runM (nextL k rad true O T R V) (startQ k f t 0) (m+1))=true∧(∀ j,j<m→doneB k t (runM (nextL k rad true O T R V) (startQ k f t 0) (j+1))=false) ∧
  ((m:Int)+1≤bud→AnsD k t L ws most (runM (nextL k rad true O T R V) (startQ k f t 0) (m+1)) b d F∧n=(m:Int)+1∧e=0)∧(bud<(m:Int)+1→b=false∧d=0∧F=[]∧n=bud∧e=251))
theorem least_uniqB {p:Nat→Bool} {m m':Nat} (h:p m=true) (hf:∀ j,j<m→p j=false) (h':p m'=true) (hf':∀ j,j<m'→p j=false):m=m':=by
 rcases Nat.lt_trichotomy m m' with h1 | h1 | h1
 ·rw [hf' m h1] at h;cases h
 ·exact h1
 ·rw [hf m' h1] at h';cases h'
theorem runS_uniq {O T R V:List Int} {L:List Po} {k f t:Int} {ws:List ByteArray} {rad most wv wv' bud:Int} {b b':Bool} {d d':Int} {F F':List (Int × Int)} {n n' e e':Int} (hw:(1≤wv∧wv≤16)↔(1≤wv'∧wv'≤16))
  (h:RunS O T R V L k f t ws rad most wv bud b d F n e) (h':RunS O T R V L k f t ws rad most wv' bud b' d' F' n' e'):b=b'∧d=d'∧F=F'∧n=n'∧e=e':=by
 by_cases h0:chkJ (checkR O T R V) k f t ws rad most O.length=0
 ·by_cases h1:1≤wv∧wv≤16∧1≤bud
  ·have h2:1≤wv'∧wv'≤16∧1≤bud:=by
    have:=hw.1 ⟨h1.1,h1.2.1⟩
    exact⟨this.1,this.2,h1.2.2⟩
   obtain⟨hk,m,a1,a2,a3,a4,a5⟩:=h.2.2 h0 h1
   obtain⟨_,m',c1,c2,c3,c4,c5⟩:=h'.2.2 h0 h2
   obtain rfl:m=m':=least_uniqB (p:=fun i=>doneB k t (runM (nextL k rad true O T R V) (startQ k f t 0) (i+1))) a2 a3 c2 c3
   by_cases hb:(m:Int)+1≤bud
   ·obtain⟨x1,x2,x3⟩:=a4 hb
    obtain⟨y1,y2,y3⟩:=c4 hb
    obtain⟨z1,z2,z3⟩:=ansD_uniq hk a2 x1 y1
    exact⟨z1,z2,z3,by rw [x2,y2],by rw [x3,y3]⟩
   ·obtain⟨x1,x2,x3,x4,x5⟩:=a5 (by omega)
    obtain⟨y1,y2,y3,y4,y5⟩:=c5 (by omega)
    exact⟨by rw [x1,y1],by rw [x2,y2],by rw [x3,y3],by rw [x4,y4],by rw [x5,y5]⟩
  ·have h2:¬ (1≤wv'∧wv'≤16∧1≤bud):=fun h2=>h1 (by
    have:=hw.2 ⟨h2.1,h2.2.1⟩
    exact⟨this.1,this.2,h2.2.2⟩)
   obtain⟨x1,x2,x3,x4,x5⟩:=h.2.1 h0 h1
   obtain⟨y1,y2,y3,y4,y5⟩:=h'.2.1 h0 h2
   exact⟨by rw [x1,y1],by rw [x2,y2],by rw [x3,y3],by rw [x4,y4],by rw [x5,y5]⟩
 ·obtain⟨x1,x2,x3,x4,x5⟩:=h.1 h0
  obtain⟨y1,y2,y3,y4,y5⟩:=h'.1 h0
  exact⟨by rw [x1,y1],by rw [x2,y2],by rw [x3,y3],by rw [x4,y4],by rw [x5,y5]⟩
theorem RunG (k f t:Int) (pw:Option Addr) (nw cw:Nat) (ws:List ByteArray) (rad most:Int) (po:Option Addr) (no co:Nat) (O:List Int) (pt:Option Addr) (nt ct:Nat) (T:List Int) (pr:Option Addr) (nr cr:Nat) (R:List Int) (pv:Option Addr) (nv cv:Nat) (V:List Int) (pl:Option Addr) (nl cl:Nat) (hs:List Hd) (L:List Po) (wv bud:Int) (pp:Option Addr) (np cp:Nat) (pk:List Int) (w:World) (hO:Rd w 1 po no (encI O)) (hT:Rd w 1 pt nt (encI T)) (hR:Rd w 1 pr nr (encI R)) (hV:Rd w 1 pv nv (encI V)) (hct:nt≤ct) (hcv:nv≤cv)
  (hL:RdP w pl nl hs L) (hW:Rd w 1 pw nw (encS ws)) (hpk:Rd w 1 pp np (encI pk)) (h200:no≤200) (hz:∀ s∈ws,s.size≤1000000) (hb2:bud≤9223372036854775807)
  (ht:I64 t) (hcw:nw≤cw) (hnw:nw≤100) (hok:PoOk L) :
  Calls Tryz.prog 17 #[.agg #[.int .i64 k,.int .i64 f,.int .i64 t,.slice pw nw cw,.int .i64 rad,.int .i64 most],.agg #[.slice po no co,.slice pt nt ct,.slice pr nr cr,.slice pv nv cv],.slice pl nl cl,.int .i64 wv,.int .i64 bud,.slice pp np cp] w fun x w'=>∃ b d F n e,RunS O T R V L k f t ws rad most wv bud b d F n e∧RunQ b d F n e w x w':=by
 have hno:=hO.nI
 by_cases h0:chkJ (checkR O T R V) k f t ws rad most O.length=0
 ·by_cases h1:1≤wv∧wv≤16∧1≤bud
  ·have hck:checkR O T R V=true:=by
    cases hc:checkR O T R V with
    | true=>rfl
    | false=>rw [hc] at h0;unfold chkJ at h0;rw [if_neg (by simp)] at h0;cases h0
   have hq:chkQ k f t ws rad most ((O.length:Int) - 1)=0:=by rw [hck] at h0;unfold chkJ at h0;rw [if_pos rfl] at h0;exact h0
   obtain⟨n,hn⟩:∃ n,O.length=n+1:=by
    obtain⟨e1,e2,e3,e4⟩:=checkR_half hck
    obtain⟨r1,r2,r3,r4,r5,r6⟩:=offB_parts (halfB_off e3)
    exact⟨O.length - 1,by omega⟩
   have hq2:chkQ k f t ws rad most (n:Int)=0:=by rw [hn] at hq;rw [← hq];congr 1;omega
   obtain⟨hk,hI,m,hm,hd,hf⟩:=run_m (k:=k) (rad:=rad) hck hn (by omega) hq2
   obtain⟨wk,rfl⟩:∃ wk:Nat,wv=(wk:Int):=⟨wv.toNat,by omega⟩
   refine(RunOk k f t pw nw cw ws rad most po no co O pt nt ct T pr nr cr R pv nv cv V pl nl cl hs L wk bud pp np cp pk w n m (runM (nextL k rad true O T R V) (startQ k f t 0)) hO hT hR hV hct hcv hL hW hpk hck hn (by omega) (by omega) (by omega) hz hq2 h1.2.2 hb2 (by omega) hk ht hcw hnw hok rfl hI (fun _=>rfl) hd hf).mono ?_
   rintro x w' ⟨b,d,F,g1,g2⟩
   by_cases hb:(m:Int)+1≤bud
   ·obtain⟨a1,a2⟩:=g1 hb
    exact⟨b,d,F,_,_,⟨fun h=>absurd h0 h,fun _ h=>absurd h1 h,fun _ _=>⟨hk,m,by omega,hd,hf,fun _=>⟨a1,rfl,rfl⟩,fun h=>by omega⟩⟩,a2⟩
   ·exact⟨false,0,[],_,_,⟨fun h=>absurd h0 h,fun _ h=>absurd h1 h,fun _ _=>⟨hk,m,by omega,hd,hf,fun h=>absurd h hb,fun _=>⟨rfl,rfl,rfl,rfl,rfl⟩⟩⟩,g2 (by omega)⟩
  ·have h:=RunErr k f t pw nw cw ws rad most po no co O pt nt ct T pr nr cr R pv nv cv V pl nl cl wv bud pp np cp w hO hT hR hV hct hcv hW hz (by omega) (by rw [hno];omega)
   rw [hno,if_neg (by rw [h0];simp)] at h
   rw [hno]
   exact h.mono fun x w' hx=>⟨_,_,_,_,_,⟨fun h=>absurd h0 h,fun _ _=>⟨rfl,rfl,rfl,rfl,rfl⟩,fun _ h=>absurd h h1⟩,hx⟩
 ·have h:=RunErr k f t pw nw cw ws rad most po no co O pt nt ct T pr nr cr R pv nv cv V pl nl cl wv bud pp np cp w hO hT hR hV hct hcv hW hz (by omega) (Or.inl (by rw [hno];exact h0))
  rw [hno,if_pos h0] at h
  rw [hno]
  exact h.mono fun x w' hx=>⟨_,_,_,_,_,⟨fun _=>⟨rfl,rfl,rfl,rfl,rfl⟩,fun h=>absurd h h0,fun h=>absurd h h0⟩,hx⟩
end
section
open Go Go.RowKit
def clO:List Int:=[0,1,2,2]
def clT:List Int:=[1,2]
def clR:List Int:=[0,0,1,2]
def clV:List Int:=[0,1]
theorem cl_ck:checkR clO clT clR clV=true:=by kernel_rfl
theorem cl_1a:doneB 1 2 (runM (nextL 1 0 true clO clT clR clV) (startQ 1 0 2 0) 1)=false:=by kernel_rfl
theorem cl_1b:doneB 1 2 (runM (nextL 1 0 true clO clT clR clV) (startQ 1 0 2 0) 2)=true:=by kernel_rfl
theorem cl_2a:doneB 1 0 (runM (nextL 1 0 true clO clT clR clV) (startQ 1 2 0 0) 1)=true:=by kernel_rfl
theorem cl_3a:doneB 3 0 (runM (nextL 3 2 true clO clT clR clV) (startQ 3 0 0 0) 1)=false:=by kernel_rfl
theorem cl_3b:doneB 3 0 (runM (nextL 3 2 true clO clT clR clV) (startQ 3 0 0 0) 2)=false:=by kernel_rfl
theorem cl_3c:doneB 3 0 (runM (nextL 3 2 true clO clT clR clV) (startQ 3 0 0 0) 3)=true:=by kernel_rfl
theorem cl_4a:doneB 2 2 (runM (nextL 2 0 true clO clT clR clV) (startQ 2 0 2 0) 1)=false:=by kernel_rfl
theorem cl_4b:doneB 2 2 (runM (nextL 2 0 true clO clT clR clV) (startQ 2 0 2 0) 2)=false:=by kernel_rfl
theorem cl_4c:doneB 2 2 (runM (nextL 2 0 true clO clT clR clV) (startQ 2 0 2 0) 3)=true:=by kernel_rfl
theorem cl_d1:distB (lev (rowL clO clT) 3 0 2)=true:=by kernel_rfl
theorem cl_d2:distN (lev (rowL clO clT) 3 0 2)=2:=by kernel_rfl
theorem cl_d3:distB (lev (rowL clO clT) 3 2 0)=false:=by kernel_rfl
theorem cl_n3:nearS (runM (nextL 3 2 true clO clT clR clV) (startQ 3 0 0 0) 3).1 (allX [(⟨#[97]⟩,[2])] [⟨#[97]⟩]) 5=[(2,2)]:=by kernel_rfl
end
section
open Go Go.RowKit
theorem cl_first {p:Nat→Bool} {m c:Nat} (h:p m=true) (hf:∀ j,j<m→p j=false) (hc:p c=true) (hcf:∀ j,j<c→p j=false):m=c:=least_uniqB h hf hc hcf
theorem cl_run1 {L:List Po} {b:Bool} {d:Int} {F:List (Int × Int)} {n e:Int} (h:RunS clO clT clR clV L 1 0 2 [] 0 0 2 5 b d F n e):b=true∧d=2∧F=[]∧n=2∧e=0:=by
 obtain⟨hk,m,h1,h2,h3,h4,h5⟩:=h.2.2 (by kernel_rfl) (by decide)
 obtain rfl:m=1:=cl_first (p:=fun i=>doneB 1 2 (runM (nextL 1 0 true clO clT clR clV) (startQ 1 0 2 0) (i+1))) h2 h3 cl_1b (fun j hj=>by
  obtain rfl:j=0:=by omega
  exact cl_1a)
 obtain⟨a1,a2,a3⟩:=h4 (by decide)
 obtain⟨g1,g2⟩:=a1.1 rfl
 obtain⟨x1,x2⟩:=ask_far (k:=1) (rad:=0) (n:=3) (s:=0) (t:=2) cl_ck rfl (by decide) (Or.inl rfl) (fun h=>absurd h (by decide)) (by decide) (fun _=>by decide) rfl h2 h3 g1
 exact⟨x1.trans cl_d1,x2.trans cl_d2,g2,a2,a3⟩
theorem cl_run2 {L:List Po} {b:Bool} {d:Int} {F:List (Int × Int)} {n e:Int} (h:RunS clO clT clR clV L 1 2 0 [] 0 0 2 5 b d F n e):b=false∧n=1∧e=0:=by
 obtain⟨hk,m,h1,h2,h3,h4,h5⟩:=h.2.2 (by kernel_rfl) (by decide)
 obtain rfl:m=0:=cl_first (p:=fun i=>doneB 1 0 (runM (nextL 1 0 true clO clT clR clV) (startQ 1 2 0 0) (i+1))) h2 h3 cl_2a (fun j hj=>absurd hj (by omega))
 obtain⟨a1,a2,a3⟩:=h4 (by decide)
 obtain⟨g1,g2⟩:=a1.1 rfl
 obtain⟨x1,x2⟩:=ask_far (k:=1) (rad:=0) (n:=3) (s:=2) (t:=0) cl_ck rfl (by decide) (Or.inl rfl) (fun h=>absurd h (by decide)) (by decide) (fun _=>by decide) rfl h2 h3 g1
 exact⟨x1.trans cl_d3,a2,a3⟩
theorem cl_run3 {b:Bool} {d:Int} {F:List (Int × Int)} {n e:Int} (h:RunS clO clT clR clV [(⟨#[97]⟩,[2])] 3 0 0 [⟨#[97]⟩] 2 5 2 5 b d F n e):b=true∧F=[(2,2)]∧n=3∧e=0:=by
 obtain⟨hk,m,h1,h2,h3,h4,h5⟩:=h.2.2 (by kernel_rfl) (by decide)
 obtain rfl:m=2:=cl_first (p:=fun i=>doneB 3 0 (runM (nextL 3 2 true clO clT clR clV) (startQ 3 0 0 0) (i+1))) h2 h3 cl_3c (fun j hj=>by
  rcases (show j=0∨j=1 by omega) with rfl | rfl
  ·exact cl_3a
  ·exact cl_3b)
 obtain⟨a1,a2,a3⟩:=h4 (by decide)
 obtain⟨g1,g2,g3⟩:=a1.2.2 rfl (by kernel_rfl)
 have g4:=g1.trans cl_n3
 exact⟨by rw [g2,g4];rfl,g4,a2,a3⟩
theorem cl_run4 {L:List Po} {b:Bool} {d:Int} {F:List (Int × Int)} {n e:Int} (h:RunS clO clT clR clV L 2 0 2 [] 0 0 2 2 b d F n e):e=251:=by
 obtain⟨hk,m,h1,h2,h3,h4,h5⟩:=h.2.2 (by kernel_rfl) (by decide)
 obtain rfl:m=2:=cl_first (p:=fun i=>doneB 2 2 (runM (nextL 2 0 true clO clT clR clV) (startQ 2 0 2 0) (i+1))) h2 h3 cl_4c (fun j hj=>by
  rcases (show j=0∨j=1 by omega) with rfl | rfl
  ·exact cl_4a
  ·exact cl_4b)
 exact(h5 (by decide)).2.2.2.2
end
section
open Go Go.RowKit
attribute [local go_sem ↓] eqHit9 neqHit9 guardHit9
def e9E:List (Int × Int):=[(0,1),(1,2)]
def e9O:List Int:=[0,1,2,2]
def e9T:List Int:=[1,2]
def e9R:List Int:=[0,0,1,2]
def e9V:List Int:=[0,1]
theorem e9I:isB 3 e9E [[],[],[]]=true:=by decide +kernel
theorem e9O_eq:offL 3 e9E=e9O:=by decide +kernel
theorem e9T_eq:toL e9E=e9T:=by decide +kernel
theorem e9R_eq:offL 3 (turnE e9E)=e9R:=by decide +kernel
theorem e9V_eq:toL (turnE e9E)=e9V:=by decide +kernel
theorem e9Cells:(#[.int .i64 0,.int .i64 1,.int .i64 1,.int .i64 2]:Array Value).toList=encE e9E:=by simp [encE,e9E]
theorem made3n:(madeCells (Value.slice none 0 0).cells (3*1)).toList=[.slice none 0 0,.slice none 0 0,.slice none 0 0]:=by kernel_rfl
theorem e9Mk (p q:Option Addr) (W:World) (h1:Rd W 2 p 2 (encE e9E)) (h0:Rd W 1 q 3 [.slice none 0 0,.slice none 0 0,.slice none 0 0]):Calls Tryz.prog 57 #[.agg #[.int .i64 3,.slice p 2 2,.slice q 3 3]] W fun e w' =>
  ∃ po no co pt nt ct pr nr cr pv nv cv,e=.returned (.tuple #[.agg #[.slice po no co,.slice pt nt ct,.slice pr nr cr,.slice pv nv cv],.int .i64 0])∧R4 w' po no pt nt pr nr pv nv e9O e9T e9R e9V∧nt≤ct∧nv≤cv∧Ext W w':=by
 have h2:RdW W q 3 [⟨none,0,0⟩,⟨none,0,0⟩,⟨none,0,0⟩] [[],[],[]]:=⟨rfl,h0,fun j hj=>by
  have:j=0∨j=1∨j=2:=by omega
  rcases this with rfl | rfl | rfl <;> exact Rd.nil _ _ _⟩
 have hz:SzW [[],[],[]]:=fun l hl s hs=>by simp at hl;subst hl;cases hs
 refine(RMakeG_yes 3 _ 2 2 _ 3 3 e9E _ _ W h1 h2 hz e9I).mono ?_
 rintro e w' ⟨v,rfl,⟨po,no,co,pt,nt,ct,pr,nr,cr,pv,nv,cv,rfl,k1,k2,k3,k4,k5,k6,k7,k8⟩,hb⟩
 rw [e9O_eq] at k1
 rw [e9T_eq] at k2
 rw [e9R_eq] at k3
 rw [e9V_eq] at k4
 exact⟨po,no,co,pt,nt,ct,pr,nr,cr,pv,nv,cv,rfl,⟨k1,k2,k3,k4⟩,k6,k8,hb⟩
theorem rdp1 {w:World} {p q:Option Addr} {n c:Nat} {s:ByteArray} {l:List Int} (h1:Rd w 2 p 1 [.string s,.slice q n c]) (h2:Rd w 1 q n (encI l)):RdP w p 1 [⟨q,n,c⟩] [(s,l)]:=by
 refine⟨rfl,.inr (h1.ptr.resolve_left (by decide)),by decide,fun k hk=>?_,fun k hk=>?_,fun k hk=>?_⟩
 ·obtain rfl:k=0:=by omega
  exact h1.cells 0 (by decide)
 ·obtain rfl:k=0:=by omega
  exact h1.cells 1 (by decide)
 ·obtain rfl:k=0:=by omega
  exact h2
end
section
open Go Go.RowKit
theorem e20Ok:PoOk [((⟨#[97]⟩:ByteArray),[2])]:=fun p hp=>by
 simp at hp;subst hp
 exact⟨by decide,fun x hx=>by simp at hx;subst hx;unfold I64;decide⟩
theorem e20a (po:Option Addr) (no co:Nat) (pt:Option Addr) (nt ct:Nat) (pr:Option Addr) (nr cr:Nat) (pv:Option Addr) (nv cv:Nat) (hct:nt≤ct) (hcv:nv≤cv) (pp:Option Addr) (hs:List Hd) (w:World) (h:R4 w po no pt nt pr nr pv nv e9O e9T e9R e9V) (hL:RdP w pp 1 hs [(⟨#[97]⟩,[2])]):Calls Tryz.prog 17 #[.agg #[.int .i64 1,.int .i64 0,.int .i64 2,.slice none 0 0,.int .i64 0,.int .i64 0],.agg #[.slice po no co,.slice pt nt ct,.slice pr nr cr,.slice pv nv cv],.slice pp 1 1,.int .i64 2,.int .i64 5,.slice none 0 0] w fun x w'=>∃ q c,x=.returned (.tuple #[.agg #[.bool true,.int .i64 2,.slice q 0 c],.int .i64 2,.int .i64 0])∧Sep w w' [.own 105 2 q 0 c (encE [])]:=by
 have hno:=h.o.nI
 refine(RunG 1 0 2 none 0 0 [] 0 0 po no co e9O pt nt ct e9T pr nr cr e9R pv nv cv e9V pp 1 1 hs _ 2 5 none 0 0 [] w h.o h.t h.r h.v hct hcv hL (Rd.nil _ _ _) (Rd.nil _ _ _) (by rw [hno];decide) (fun s hs=>by cases hs) (by decide) (by unfold I64;decide) (by decide) (by decide) e20Ok).mono ?_
 rintro x w' ⟨b,d,F,n,e,h1,q,c,rfl,S⟩
 obtain⟨rfl,rfl,rfl,rfl,rfl⟩:=cl_run1 h1
 exact⟨q,c,rfl,S⟩
theorem e20b (po:Option Addr) (no co:Nat) (pt:Option Addr) (nt ct:Nat) (pr:Option Addr) (nr cr:Nat) (pv:Option Addr) (nv cv:Nat) (hct:nt≤ct) (hcv:nv≤cv) (pp:Option Addr) (hs:List Hd) (w:World) (h:R4 w po no pt nt pr nr pv nv e9O e9T e9R e9V) (hL:RdP w pp 1 hs [(⟨#[97]⟩,[2])]):Calls Tryz.prog 17 #[.agg #[.int .i64 1,.int .i64 2,.int .i64 0,.slice none 0 0,.int .i64 0,.int .i64 0],.agg #[.slice po no co,.slice pt nt ct,.slice pr nr cr,.slice pv nv cv],.slice pp 1 1,.int .i64 2,.int .i64 5,.slice none 0 0] w fun x w'=>∃ d q m c,x=.returned (.tuple #[.agg #[.bool false,.int .i64 d,.slice q m c],.int .i64 1,.int .i64 0])∧Ext w w':=by
 have hno:=h.o.nI
 refine(RunG 1 2 0 none 0 0 [] 0 0 po no co e9O pt nt ct e9T pr nr cr e9R pv nv cv e9V pp 1 1 hs _ 2 5 none 0 0 [] w h.o h.t h.r h.v hct hcv hL (Rd.nil _ _ _) (Rd.nil _ _ _) (by rw [hno];decide) (fun s hs=>by cases hs) (by decide) (by unfold I64;decide) (by decide) (by decide) e20Ok).mono ?_
 rintro x w' ⟨b,d,F,n,e,h1,q,c,rfl,S⟩
 obtain⟨rfl,rfl,rfl⟩:=cl_run2 h1
 exact⟨d,q,_,c,rfl,S.ext⟩
theorem e20c (po:Option Addr) (no co:Nat) (pt:Option Addr) (nt ct:Nat) (pr:Option Addr) (nr cr:Nat) (pv:Option Addr) (nv cv:Nat) (hct:nt≤ct) (hcv:nv≤cv) (pp:Option Addr) (hs:List Hd) (w:World) (h:R4 w po no pt nt pr nr pv nv e9O e9T e9R e9V) (hL:RdP w pp 1 hs [(⟨#[97]⟩,[2])]) (pw:Option Addr) (hW:Rd w 1 pw 1 (encS [⟨#[97]⟩])):Calls Tryz.prog 17 #[.agg #[.int .i64 3,.int .i64 0,.int .i64 0,.slice pw 1 1,.int .i64 2,.int .i64 5],.agg #[.slice po no co,.slice pt nt ct,.slice pr nr cr,.slice pv nv cv],.slice pp 1 1,.int .i64 2,.int .i64 5,.slice none 0 0] w fun x w'=>∃ d q c,x=.returned (.tuple #[.agg #[.bool true,.int .i64 d,.slice q 1 c],.int .i64 3,.int .i64 0])∧Sep w w' [.own 105 2 q 1 c (encE [(2,2)])]:=by
 have hno:=h.o.nI
 refine(RunG 3 0 0 pw 1 1 [⟨#[97]⟩] 2 5 po no co e9O pt nt ct e9T pr nr cr e9R pv nv cv e9V pp 1 1 hs _ 2 5 none 0 0 [] w h.o h.t h.r h.v hct hcv hL hW (Rd.nil _ _ _) (by rw [hno];decide) (fun s hs=>by simp at hs;subst hs;decide) (by decide) (by unfold I64;decide) (by decide) (by decide) e20Ok).mono ?_
 rintro x w' ⟨b,d,F,n,e,h1,q,c,rfl,S⟩
 obtain⟨rfl,rfl,rfl,rfl⟩:=cl_run3 h1
 exact⟨d,q,c,rfl,S⟩
theorem e20d (po:Option Addr) (no co:Nat) (pt:Option Addr) (nt ct:Nat) (pr:Option Addr) (nr cr:Nat) (pv:Option Addr) (nv cv:Nat) (hct:nt≤ct) (hcv:nv≤cv) (pp:Option Addr) (hs:List Hd) (w:World) (h:R4 w po no pt nt pr nr pv nv e9O e9T e9R e9V) (hL:RdP w pp 1 hs [(⟨#[97]⟩,[2])]):Calls Tryz.prog 17 #[.agg #[.int .i64 2,.int .i64 0,.int .i64 2,.slice none 0 0,.int .i64 0,.int .i64 0],.agg #[.slice po no co,.slice pt nt ct,.slice pr nr cr,.slice pv nv cv],.slice pp 1 1,.int .i64 2,.int .i64 2,.slice none 0 0] w fun x w'=>∃ b d q m c n,x=.returned (.tuple #[.agg #[.bool b,.int .i64 d,.slice q m c],.int .i64 n,.int .i64 251])∧Ext w w':=by
 have hno:=h.o.nI
 refine(RunG 2 0 2 none 0 0 [] 0 0 po no co e9O pt nt ct e9T pr nr cr e9R pv nv cv e9V pp 1 1 hs _ 2 2 none 0 0 [] w h.o h.t h.r h.v hct hcv hL (Rd.nil _ _ _) (Rd.nil _ _ _) (by rw [hno];decide) (fun s hs=>by cases hs) (by decide) (by unfold I64;decide) (by decide) (by decide) e20Ok).mono ?_
 rintro x w' ⟨b,d,F,n,e,h1,q,c,rfl,S⟩
 obtain rfl:=cl_run4 h1
 exact⟨b,d,q,_,c,n,rfl,S.ext⟩
end
section
open Go Go.RowKit
attribute [local go_sem ↓] eqHit9 neqHit9 guardHit9
theorem Jobs20 (w:World):Calls Tryz.prog 19 #[] w fun e w'=>e=.returned (.bool true)∧Ext w w':=by
 obtain⟨i0,hi0,hz0,hz1,hz2⟩:=info_parts inf35
 have SE:Hid (Sep w (w.alloc (.cells #[.int .i64 0,.int .i64 1,.int .i64 1,.int .i64 2] 98)) [.own 98 2 (some ⟨w.heap.size,0,none⟩) 2 2 (encE e9E)]):=by
  have h:=(Sep.start w).alrow #[.int .i64 0,.int .i64 1,.int .i64 1,.int .i64 2] 98 2 2 w.heap.size rfl (by decide) rfl
  rw [e9Cells] at h
  exact h
 have HQ:Hid ((w.alloc (.cells #[.int .i64 0,.int .i64 1,.int .i64 1,.int .i64 2] 98)).heap.size=w.heap.size+1):=by unfold Hid;simp
 go_enter Tryz.func19,Tryz.ntmps19
 go_wp2_with (first
  | (at_make;go_must (refine wpList_make_sep rfl _ _ _ rfl 22 i0 _ 1 Tryz.underlying100 hi0 hz0 hz1 (3:Int) 3 rfl rfl rfl (by rw [hz2];omega) (by unfold maxLen;omega) SE.out ?_;intro w0 S';rw [made3n,HQ.out] at S';have S0:=Lib.hid S';clear S'))
  | (go_at_call 57;go_must (refine(e9Mk _ _ _ (S0.out.rd 1 rfl (by decide)) (S0.out.rd 0 rfl (by decide))).mono ?_;rintro e w1 ⟨po,no,co,pt,nt,ct,pr,nr,cr,pv,nv,cv,rfl,hr,hct,hcv,hb⟩;have E1:=Lib.hid (Ext.trans S0.out.ext hb);have HR:=Lib.hid hr;have S1:=Lib.hid ((Sep.start w1).al #[.slice po no co,.slice pt nt ct,.slice pr nr cr,.slice pv nv cv] 27 w1.heap.size rfl);clear hb hr)))
 have S2:=Lib.hid ((S1.out.alrow #[.int .i64 2] 3 1 1 (w1.heap.size+1) (by simp) (by decide) rfl).alrow #[.string ⟨#[97]⟩,.slice (some ⟨w1.heap.size+1,0,none⟩) 1 1] 78 2 1 (w1.heap.size+1+1) (by simp) (by decide) rfl)
 have hEq:eqE ((2:Int),(2:Int)) (2,2)=true:=by decide
 go_wp2_with (first
  | (go_at_call 58;go_must (have S8:=Lib.hid (S7.out.alrow #[.int .i64 2,.int .i64 2] 105 2 1 (w5.heap.size+1) (by simp) (by decide) rfl);refine(HitsY9 _ _ 1 1 _ _ [(2,2)] _ (S8.out.rdx 3 rfl) (S8.out.rdx 0 rfl)).mono ?_;rintro e w6 ⟨rfl,hb⟩;have S9:=Lib.hid (S8.out.call hb);clear hb))
  | (go_at_call 17;have _t:=S6;go_must (refine(e20d po no co pt nt ct pr nr cr pv nv cv hct hcv _ _ _ (HR.out.ext S6.out.ext) (rdp1 (S6.out.rdx 6 rfl) (S6.out.rdx 7 rfl))).mono ?_;rintro e w5 ⟨b5,d5,q5,m5,c5,n5,rfl,hb⟩;have S7:=Lib.hid ((S6.out.call hb).al #[.bool b5,.int .i64 d5,.slice q5 m5 c5] 34 w5.heap.size rfl);obtain⟨iz,i0,i1,i2⟩:=bklc0c1c2 (S7.out.blk 5 rfl);obtain⟨jz,j0,j1,j2⟩:=bklc0c1c2 (S7.out.blk 4 rfl);obtain⟨lz,l0,l1,l2⟩:=bklc0c1c2 (S7.out.blk 1 rfl);clear hb))
  | (go_at_call 17;have _t:=S5;go_must (refine(e20c po no co pt nt ct pr nr cr pv nv cv hct hcv _ _ _ (HR.out.ext S5.out.ext) (rdp1 (S5.out.rdx 4 rfl) (S5.out.rdx 5 rfl)) _ (S5.out.rdx 0 rfl)).mono ?_;rintro e w4 ⟨d4,q4,c4,rfl,Z⟩;have S6:=Lib.hid ((S5.out.comp Z).al #[.bool true,.int .i64 d4,.slice q4 1 c4] 34 w4.heap.size rfl);obtain⟨cz,c0,c1,c2,c3⟩:=bklc0c1c2c3 (S6.out.blk 8 rfl);clear Z))
  | (go_at_call 17;have _t:=S3;go_must (refine(e20b po no co pt nt ct pr nr cr pv nv cv hct hcv _ _ _ (HR.out.ext S3.out.ext) (rdp1 (S3.out.rdx 2 rfl) (S3.out.rdx 3 rfl))).mono ?_;rintro e w3 ⟨d3,q3,m3,c3,rfl,hb⟩;have S4:=Lib.hid ((S3.out.call hb).al #[.bool false,.int .i64 d3,.slice q3 m3 c3] 34 w3.heap.size rfl);have S5:=Lib.hid (S4.out.alrow #[.string ⟨#[97]⟩] 9 1 1 (w3.heap.size+1) (by simp) (by decide) rfl);obtain⟨bz,b0,b1,b2,b3⟩:=bklc0c1c2c3 (S5.out.blk 6 rfl);clear hb))
  | (go_at_call 17;go_must (refine(e20a po no co pt nt ct pr nr cr pv nv cv hct hcv _ _ _ (HR.out.ext S2.out.ext) (rdp1 (S2.out.rdx 0 rfl) (S2.out.rdx 1 rfl))).mono ?_;rintro e w2 ⟨q2,c2,rfl,Z⟩;have S3:=Lib.hid ((S2.out.comp Z).al #[.bool true,.int .i64 2,.slice q2 0 c2] 34 w2.heap.size rfl);obtain⟨az,a0,a1,a2,a3⟩:=bklc0c1c2c3 (S3.out.blk 4 rfl);clear Z)))
 go_ret
 exact⟨rfl,Ext.trans E1.out S9.out.ext⟩
end
section
open Go Go.RowKit
theorem jobFacts (k f t:Int) (pw:Option Addr) (nw cw:Nat) (ws:List ByteArray) (rad most:Int) {O T R V:List Int} {L:List Po} {np:Nat} (_:pw=pw) (_:nw=nw) (_:cw=cw) (_:k=k) (_:f=f) (_:t=t) (_:rad=rad) (_:most=most) (h:farJ ws O T R V L np=false) (hLI:∀ q∈L,∀ x∈q.2,I64 x) :
  ws.length≤20∧(∀ s∈ws,s.size≤1000000)∧O.length≤30∧PoOk L∧np≤60:=by
 obtain⟨h1,h2,h3,h4,h5⟩:=farJ_no h
 obtain⟨w1,w2⟩:=bigQ_no h1
 exact⟨w1,fun s hs=>Nat.le_trans (w2 s hs) (by omega),h3,poOk_of h4 hLI,h5⟩
theorem lawPicks20 (k f t:Int) (pw:Option Addr) (nw cw:Nat) (ws:List ByteArray) (rad most:Int) (po:Option Addr) (no co:Nat) (O:List Int) (pt:Option Addr) (nt ct:Nat) (T:List Int) (pr:Option Addr) (nr cr:Nat) (R:List Int) (pv:Option Addr) (nv cv:Nat) (V:List Int) (pl:Option Addr) (nl cl:Nat) (hs:List Hd) (L:List Po) (wv ov bud:Int) (pp:Option Addr) (np cp:Nat) (pk:List Int) (pm:Option Addr) (nm cm:Nat) (mk:List Int) (w:World) (hO:Rd w 1 po no (encI O)) (hT:Rd w 1 pt nt (encI T)) (hR:Rd w 1 pr nr (encI R)) (hV:Rd w 1 pv nv (encI V)) (hct:nt≤ct) (hcv:nv≤cv)
  (hW:Rd w 1 pw nw (encS ws)) (hcw:nw≤cw) (ht:I64 t) (hL:RdP w pl nl hs L) (hLI:∀ q∈L,∀ x∈q.2,I64 x) (hpk:Rd w 1 pp np (encI pk)) (hmk:Rd w 1 pm nm (encI mk)) :
  Calls Tryz.prog 4 #[.agg #[.int .i64 k,.int .i64 f,.int .i64 t,.slice pw nw cw,.int .i64 rad,.int .i64 most],.agg #[.slice po no co,.slice pt nt ct,.slice pr nr cr,.slice pv nv cv],.slice pl nl cl,.int .i64 wv,.int .i64 ov,.int .i64 bud,.slice pp np cp,.slice pm nm cm] w fun e w'=>e=.returned (.bool true)∧Ext w w':=by
 have S0:=Lib.hid (((Sep.start w).al #[.int .i64 k,.int .i64 f,.int .i64 t,.slice pw nw cw,.int .i64 rad,.int .i64 most] 24 w.heap.size rfl).al #[.slice po no co,.slice pt nt ct,.slice pr nr cr,.slice pv nv cv] 27 (w.heap.size+1) (by simp))
 have HFR:=Lib.hid (fun W (h:Ext w W)=>FarJ20 k f t pw nw cw ws rad most po no co O pt nt ct T pr nr cr R pv nv cv V pl nl cl hs L pp np cp W (hO.ext h) (hT.ext h) (hR.ext h) (hV.ext h) (hW.ext h) (hL.ext h))
 cases hfar:farJ ws O T R V L np with
 | true =>
  rw [hfar] at HFR
  clear hO hT hR hV hct hcv hW hL hpk hmk hfar
  go_enter Tryz.func4,Tryz.ntmps4
  go_wp2_with (go_at_call 14;go_must (refine(HFR.out _ S0.out.ext).mono ?_;rintro e w1 ⟨rfl,hb⟩;have S1:=Lib.hid (S0.out.call hb);obtain⟨b0,b1,b2,b3,bz⟩:=bkc0c1c2c3l (S1.out.blk 0 rfl);obtain⟨a0,a1,a2,a3,a4,a5,az⟩:=bkc0c1c2c3c4c5l (S1.out.blk 1 rfl);clear hb))
  go_ret
  exact⟨rfl,S1.out.ext⟩
 | false =>
  rw [hfar] at HFR
  by_cases h1:60<nm
  ·have e1:decide ((60:Int)<(nm:Int))=true:=by simp;omega
   have e1n:decide (60<nm)=true:=by simpa using h1
   clear hO hT hR hV hct hcv hW hL hpk hmk hfar h1
   go_enter Tryz.func4,Tryz.ntmps4
   go_wp2_with (go_at_call 14;go_must (refine(HFR.out _ S0.out.ext).mono ?_;rintro e w1 ⟨rfl,hb⟩;have S1:=Lib.hid (S0.out.call hb);obtain⟨b0,b1,b2,b3,bz⟩:=bkc0c1c2c3l (S1.out.blk 0 rfl);obtain⟨a0,a1,a2,a3,a4,a5,az⟩:=bkc0c1c2c3c4c5l (S1.out.blk 1 rfl);clear hb))
   go_ret
   exact⟨rfl,S1.out.ext⟩
  ·have e1:decide ((60:Int)<(nm:Int))=false:=by simp;omega
   have e1n:decide (60<nm)=false:=by simpa using h1
   clear h1
   by_cases h2:wv<1
   ·clear hO hT hR hV hct hcv hW hL hpk hmk hfar
    go_enter Tryz.func4,Tryz.ntmps4
    go_wp2_with (go_at_call 14;go_must (refine(HFR.out _ S0.out.ext).mono ?_;rintro e w1 ⟨rfl,hb⟩;have S1:=Lib.hid (S0.out.call hb);obtain⟨b0,b1,b2,b3,bz⟩:=bkc0c1c2c3l (S1.out.blk 0 rfl);obtain⟨a0,a1,a2,a3,a4,a5,az⟩:=bkc0c1c2c3c4c5l (S1.out.blk 1 rfl);clear hb))
    go_ret
    exact⟨rfl,S1.out.ext⟩
   ·have e2:decide (wv<1)=false:=by simpa using h2
    by_cases h3:16<wv
    ·have e3:decide (16<wv)=true:=by simpa using h3
     clear hO hT hR hV hct hcv hW hL hpk hmk hfar
     go_enter Tryz.func4,Tryz.ntmps4
     go_wp2_with (go_at_call 14;go_must (refine(HFR.out _ S0.out.ext).mono ?_;rintro e w1 ⟨rfl,hb⟩;have S1:=Lib.hid (S0.out.call hb);obtain⟨b0,b1,b2,b3,bz⟩:=bkc0c1c2c3l (S1.out.blk 0 rfl);obtain⟨a0,a1,a2,a3,a4,a5,az⟩:=bkc0c1c2c3c4c5l (S1.out.blk 1 rfl);clear hb))
     go_ret
     exact⟨rfl,S1.out.ext⟩
    ·have e3:decide (16<wv)=false:=by simpa using h3
     by_cases h4:ov<1
     ·clear hO hT hR hV hct hcv hW hL hpk hmk hfar
      go_enter Tryz.func4,Tryz.ntmps4
      go_wp2_with (go_at_call 14;go_must (refine(HFR.out _ S0.out.ext).mono ?_;rintro e w1 ⟨rfl,hb⟩;have S1:=Lib.hid (S0.out.call hb);obtain⟨b0,b1,b2,b3,bz⟩:=bkc0c1c2c3l (S1.out.blk 0 rfl);obtain⟨a0,a1,a2,a3,a4,a5,az⟩:=bkc0c1c2c3c4c5l (S1.out.blk 1 rfl);clear hb))
      go_ret
      exact⟨rfl,S1.out.ext⟩
     ·have e4:decide (ov<1)=false:=by simpa using h4
      by_cases h5:16<ov
      ·have e5:decide (16<ov)=true:=by simpa using h5
       clear hO hT hR hV hct hcv hW hL hpk hmk hfar
       go_enter Tryz.func4,Tryz.ntmps4
       go_wp2_with (go_at_call 14;go_must (refine(HFR.out _ S0.out.ext).mono ?_;rintro e w1 ⟨rfl,hb⟩;have S1:=Lib.hid (S0.out.call hb);obtain⟨b0,b1,b2,b3,bz⟩:=bkc0c1c2c3l (S1.out.blk 0 rfl);obtain⟨a0,a1,a2,a3,a4,a5,az⟩:=bkc0c1c2c3c4c5l (S1.out.blk 1 rfl);clear hb))
       go_ret
       exact⟨rfl,S1.out.ext⟩
      ·have e5:decide (16<ov)=false:=by simpa using h5
       by_cases h6:300<bud
       ·have e6:decide (300<bud)=true:=by simpa using h6
        clear hO hT hR hV hct hcv hW hL hpk hmk hfar
        go_enter Tryz.func4,Tryz.ntmps4
        go_wp2_with (go_at_call 14;go_must (refine(HFR.out _ S0.out.ext).mono ?_;rintro e w1 ⟨rfl,hb⟩;have S1:=Lib.hid (S0.out.call hb);obtain⟨b0,b1,b2,b3,bz⟩:=bkc0c1c2c3l (S1.out.blk 0 rfl);obtain⟨a0,a1,a2,a3,a4,a5,az⟩:=bkc0c1c2c3c4c5l (S1.out.blk 1 rfl);clear hb))
        go_ret
        exact⟨rfl,S1.out.ext⟩
       ·have e6:decide (300<bud)=false:=by simpa using h6
        obtain⟨f1,f2,f3,f4,f5⟩:=jobFacts k f t pw nw cw ws rad most rfl rfl rfl rfl rfl rfl rfl rfl hfar hLI
        have hno:=hO.nI
        have hnw:=hW.nS
        have HR1:=Lib.hid (fun W (h:Ext w W)=>RunG k f t pw nw cw ws rad most po no co O pt nt ct T pr nr cr R pv nv cv V pl nl cl hs L wv bud pp np cp pk W (hO.ext h) (hT.ext h) (hR.ext h) (hV.ext h) hct hcv (hL.ext h) (hW.ext h) (hpk.ext h) (by omega) f2 (by omega) ht hcw (by omega) f4)
        have HR2:=Lib.hid (fun W (h:Ext w W)=>RunG k f t pw nw cw ws rad most po no co O pt nt ct T pr nr cr R pv nv cv V pl nl cl hs L ov bud pm nm cm mk W (hO.ext h) (hT.ext h) (hR.ext h) (hV.ext h) hct hcv (hL.ext h) (hW.ext h) (hmk.ext h) (by omega) f2 (by omega) ht hcw (by omega) f4)
        have HWW:Hid ((1≤wv∧wv≤16)↔(1≤ov∧ov≤16)):=by unfold Hid;omega
        clear hO hT hR hV hct hcv hW hL hpk hmk hfar f1 f2 f3 f4 f5 hno hnw h2 h3 h4 h5 h6 ht hcw hLI
        go_enter Tryz.func4,Tryz.ntmps4
        go_wp2_with (first | (go_at_call 20;have _t:=S4;go_must (refine(Same18 b1' d1' q1 q2 F1.length F1.length c1 c2 F1 _ (S4.out.rdx 3 rfl) (S4.out.rdx 1 rfl)).mono ?_;rintro e w5 ⟨rfl,hb⟩;have S5:=Lib.hid (S4.out.call hb);clear hb)) | (go_at_call 19;have _t:=S3;go_must (refine(Jobs20 _).mono ?_;rintro e w4 ⟨rfl,hb⟩;have S4:=Lib.hid (S3.out.call hb);obtain⟨r0,r1,r2,rz⟩:=bkc0c1c2l (S4.out.blk 2 rfl);obtain⟨s0,s1,s2,sz⟩:=bkc0c1c2l (S4.out.blk 0 rfl);clear hb)) | (go_at_call 17;have _t:=S2;go_must (refine(HR2.out _ S2.out.ext).mono ?_;rintro e w3 ⟨b2',d2',F2,n2',e2',g2,q2,c2,rfl,Z⟩;obtain⟨rfl,rfl,rfl,rfl,rfl⟩:=runS_uniq HWW.out G1.out g2;have S3:=Lib.hid ((S2.out.comp Z).al #[.bool b1',.int .i64 d1',.slice q2 F1.length c2] 34 w3.heap.size rfl);clear a0 a1 a2 a3 a4 a5 az b0 b1 b2 b3 bz;clear Z g2)) | (go_at_call 17;go_must (refine(HR1.out _ S1.out.ext).mono ?_;rintro e w2 ⟨b1',d1',F1,n1',e1',g1,q1,c1,rfl,Z⟩;have G1:=Lib.hid g1;have S2:=Lib.hid ((S1.out.comp Z).al #[.bool b1',.int .i64 d1',.slice q1 F1.length c1] 34 w2.heap.size rfl);clear a0 a1 a2 a3 a4 a5 az b0 b1 b2 b3 bz;obtain⟨b0,b1,b2,b3,bz⟩:=bkc0c1c2c3l (S2.out.blk 2 rfl);obtain⟨a0,a1,a2,a3,a4,a5,az⟩:=bkc0c1c2c3c4c5l (S2.out.blk 3 rfl);clear Z g1)) | (go_at_call 14;go_must (refine(HFR.out _ S0.out.ext).mono ?_;rintro e w1 ⟨rfl,hb⟩;have S1:=Lib.hid (S0.out.call hb);obtain⟨b0,b1,b2,b3,bz⟩:=bkc0c1c2c3l (S1.out.blk 0 rfl);obtain⟨a0,a1,a2,a3,a4,a5,az⟩:=bkc0c1c2c3c4c5l (S1.out.blk 1 rfl);clear hb)))
        go_ret
        exact⟨rfl,S5.out.ext⟩
end
section
open Go Go.RowKit Go.WideShapes Go.ChangeShapes
theorem own:ownKnob Tryz.prog.godebug=none:=by kernel_rfl
theorem laidOut:laidOutB Tryz.prog=true:=by kernel_rfl
theorem law_post {H:Type} {enc:TypeId × Value→H} {f:Func} {s:ChangeSpec} {apart fresh handsOn again:Bool} {W W':World} {args:Array Value} {ds:List (DataW H)} {before:List MemPlace}
  (hW:DataW.Whole enc Tryz.prog f.params.toList s.vars apart W args.toList ds [] before) (ht:f.resultTypes=#[4]) (hvars:s.vars=[])
  (hfn:s.fn H (ds ++ [])={ results:=[.lit (.bool true)],args:=ds })
  (hargs:∀ sp:Nat→Bool,(∀ p∈before,sp p.block=true)→DataW.TrodAll enc Tryz.prog W' 0 sp true f.params.toList args.toList ds before)
  (hb:Below W.heap.size W W'):s.post enc Tryz.prog f apart fresh handsOn again W args (.bool true) W':=by
 have lits:∀ (b:Nat) (sp:Nat→Bool) (hd:Bool),DataW.TrodAll enc Tryz.prog W' b sp hd f.resultTypes.toList ((Value.bool true).resultList f.resultTypes.size) (s.fn H (ds ++ [])).results []:=by
  intro b sp hd
  rw [hfn,ht]
  exact trodAll_mk1 (shut_bool Tryz.underlying4 true)
 have hold:∀ sp:Nat→Bool,(∀ p∈before,sp p.block=true)→DataW.TrodAll enc Tryz.prog W' 0 sp true f.params.toList args.toList (s.fn H (ds ++ [])).args before:=by
  intro sp hsp
  rw [hfn];exact hargs sp hsp
 have hv:∀ sp:Nat→Bool,DataW.TrodVars enc Tryz.prog W' sp s.vars (s.fn H (ds ++ [])).vars []:=by
  intro sp;rw [hfn,hvars];rfl
 have hin:∀ p∈before,p.block<W.heap.size:=fun p hp=>hW.lt p hp
 have same:before=before ++ []:=by simp
 refine⟨ds,[],before,[],before,[],hW,lits _ _ _,hold _ (fun p hp=>by simpa using hin p hp),hv _,World.keptBut_mono (fun p hp=>⟨hp,.inr (by simpa using hp)⟩) (hb.frame (·∈before)),fun _=>?_⟩
 have hW2:=hW
 obtain⟨_,_,_,_,_,hz,hn⟩:=hW2
 refine⟨ok_one (by rw [ht]) rfl (okWide_bool_mk Tryz.underlying4 _),_,_,([] ++ before) ++ [],⟨[] ++ before,[],trodAll_append (hold _ (fun _ _=>rfl)) (lits _ _ _),hv _,rfl,?_,?_⟩,?_⟩
 ·intro b off hp
  have hp2:MemPlace.cell b off∈before:=by simpa using hp
  rw [hb.frozen (hin _ hp2)]
  exact hz b off hp2
 ·intro ha
  simpa using hn ha
 ·intro p hp _
  simpa using hp
theorem stays {H:Type} {enc:TypeId × Value→H} {W W':World} {t:TypeId} {v:Value} {d:DataW H} {ps:List MemPlace} (hr:Tryz.prog.readableRec t=true) (hrow:t<Tryz.prog.types.size) (h:DataW.Trod enc Tryz.prog W 0 (fun _=>true) true t v d ps)
  (hb:Below W.heap.size W W') (hlt:∀ x∈ps,x.block<W.heap.size) {sp:Nat→Bool} (hsp:∀ x∈ps,sp x.block=true):DataW.Trod enc Tryz.prog W' 0 sp true t v d ps :=
 WideElems.Trod_stays laidOut hr hrow h (fun x hx=>hb.same (hlt x hx)) hsp
theorem trodAll_turn {H:Type} {enc:TypeId × Value→H} {P:Program} {W W':World} {sp sp':Nat→Bool} {hd:Bool} (ts:List TypeId):∀ {vs:List Value} {ds:List (DataW H)} {ps:List MemPlace},DataW.TrodAll enc P W 0 sp hd ts vs ds ps →
  (∀ t∈ts,∀ v d p,(∀ x∈p,x∈ps)→DataW.Trod enc P W 0 sp hd t v d p→DataW.Trod enc P W' 0 sp' hd t v d p)→DataW.TrodAll enc P W' 0 sp' hd ts vs ds ps:=by
 induction ts with
 | nil =>
  intro vs ds ps h _
  obtain⟨rfl,rfl,rfl⟩:=trodAll_nil h
  exact trodAll_mk0
 | cons t ts ih =>
  intro vs ds ps h hk
  obtain⟨v,vs',d,ds',p,q,rfl,rfl,rfl,h1,h2⟩:=trodAll_cons h
  exact trodAll_cons_mk (hk t (by simp) v d p (fun x hx=>by simp [hx]) h1) (ih h2 fun t' ht' v' d' p' hp' h'=>hk t' (by simp [ht']) v' d' p' (fun x hx=>by simp [hp' x hx]) h')
theorem stays_all {H:Type} {enc:TypeId × Value→H} {W W':World} {ts:List TypeId} {vs:List Value} {ds:List (DataW H)} {ps:List MemPlace} (hr:ts.all (fun t=>Tryz.prog.readableRec t && decide (t<Tryz.prog.types.size))=true)
  (h:DataW.TrodAll enc Tryz.prog W 0 (fun _=>true) true ts vs ds ps) (hb:Below W.heap.size W W') (hlt:∀ x∈ps,x.block<W.heap.size) {sp:Nat→Bool} (hsp:∀ x∈ps,sp x.block=true):DataW.TrodAll enc Tryz.prog W' 0 sp true ts vs ds ps :=
 trodAll_turn ts h fun t ht v d p hp h1=>by
  have h2:=List.all_eq_true.1 hr t ht
  rw [Bool.and_eq_true,decide_eq_true_eq] at h2
  exact stays h2.1 h2.2 h1 hb (fun x hx=>hlt x (hp x hx)) (fun x hx=>hsp x (hp x hx))
theorem andT {a b:Bool} (h:a=true) (g:b=true):(a && b)=true:=by rw [h,g];rfl
end
section
open Go Go.RowKit Go.ChangeShapes Go.WideShapes Go.ChangeAt Go.Deep Go.Joins
section
variable {H:Type} {enc:TypeId × Value→H} {w:World} {base:Nat} {spare:Nat→Bool} {held:Bool}
theorem open_rowsarg {r:Reach} {b0:Nat} {v:Value} {d:DataW H} {p:List MemPlace} (hv:Value.okWide Tryz.prog w r b0 27 v) (h:DataW.Trod enc Tryz.prog w base spare held 27 v d p) :
  ∃ po no co O pt nt ct T pr nr cr R pv nv cv V,v=.agg #[.slice po no co,.slice pt nt ct,.slice pr nr cr,.slice pv nv cv]∧Rd w 1 po no (encI O)∧Rd w 1 pt nt (encI T)∧Rd w 1 pr nr (encI R)∧Rd w 1 pv nv (encI V)∧no≤co∧nt≤ct∧nr≤cr∧nv≤cv:=by
 obtain⟨v0,v1,v2,v3,y0,y1,y2,y3,n,rfl,_,_,t0,t1,t2,t3⟩:=open_agg4 Tryz.underlying27 (by kernel_rfl) (by kernel_rfl) hv h
 obtain⟨po,no,co,O,rfl,c0,h0,_⟩:=trod_ints Tryz.underlying25 t0
 obtain⟨pt,nt,ct,T,rfl,c1,h1,_⟩:=trod_ints Tryz.underlying25 t1
 obtain⟨pr,nr,cr,R,rfl,c2,h2,_⟩:=trod_ints Tryz.underlying25 t2
 obtain⟨pv,nv,cv,V,rfl,c3,h3,_⟩:=trod_ints Tryz.underlying25 t3
 exact⟨po,no,co,O,pt,nt,ct,T,pr,nr,cr,R,pv,nv,cv,V,rfl,h0,h1,h2,h3,c0,c1,c2,c3⟩
end
end
section
open Go Go.RowKit
theorem May14 (x:Sq) (w:World) (h:mayB x=true):Calls Tryz.prog 176 #[.agg #[.int .i64 x.s,.int .i64 x.r,.int .i64 x.v]] w fun e w'=>e=.returned (.bool true)∧Ext w w':=by
 obtain⟨h1,h2,h3,h4,h5,h6,h7⟩:=mayB_iff.1 h
 clear h h6 h7
 have c1:decide (0≤x.s)=true:=by simpa using h1
 have c2:decide (x.s≤1000)=true:=by simpa using h2
 have c4:decide (0≤x.v)=true:=by simpa using h4
 have c5:decide (x.v<200)=true:=by simpa using h5
 have S0:=Lib.hid ((Sep.start w).al #[.int .i64 x.s,.int .i64 x.r,.int .i64 x.v] 136 w.heap.size rfl)
 by_cases hr:x.r=0
 ·have c3:(x.r == 0)=true:=by simpa using hr
  clear h3 hr
  go_enter Tryz.func176,Tryz.ntmps176
  go_wp2
  go_ret
  exact⟨rfl,S0.out.ext⟩
 ·have c3:(x.r == 0)=false:=by simpa using hr
  have c8:(x.r == 1)=true:=by simp;omega
  clear h3 hr
  go_enter Tryz.func176,Tryz.ntmps176
  go_wp2
  go_ret
  exact⟨rfl,S0.out.ext⟩
theorem Less14 (a b:Sq) (w:World):Calls Tryz.prog 159 #[.agg #[.int .i64 a.s,.int .i64 a.r,.int .i64 a.v],.agg #[.int .i64 b.s,.int .i64 b.r,.int .i64 b.v]] w fun e w'=>e=.returned (.bool (keyLt a b))∧Ext w w':=by
 have S0:=Lib.hid (((Sep.start w).al #[.int .i64 a.s,.int .i64 a.r,.int .i64 a.v] 136 w.heap.size rfl).al #[.int .i64 b.s,.int .i64 b.r,.int .i64 b.v] 136 (w.heap.size+1) (by simp))
 by_cases h1:a.s<b.s
 ·have c1:decide (a.s<b.s)=true:=by simpa using h1
  have HF:Hid (true=keyLt a b):=by unfold Hid keyLt;rw [c1];rfl
  clear h1
  go_enter Tryz.func159,Tryz.ntmps159
  go_wp2
  go_ret
  exact⟨ret_bool HF.out,S0.out.ext⟩
 ·have c1:decide (a.s<b.s)=false:=by simpa using h1
  clear h1
  by_cases h2:a.s=b.s
  ·have c2:(a.s == b.s)=true:=by simpa using h2
   clear h2
   by_cases h3:a.r<b.r
   ·have c3:decide (a.r<b.r)=true:=by simpa using h3
    have HF:Hid (true=keyLt a b):=by unfold Hid keyLt;rw [c1,c2,c3];rfl
    clear h3
    go_enter Tryz.func159,Tryz.ntmps159
    go_wp2
    go_ret
    exact⟨ret_bool HF.out,S0.out.ext⟩
   ·have c3:decide (a.r<b.r)=false:=by simpa using h3
    clear h3
    by_cases h4:a.r=b.r
    ·have c4:(a.r == b.r)=true:=by simpa using h4
     have HF:Hid (decide (a.v<b.v)=keyLt a b):=by unfold Hid keyLt;rw [c1,c2,c3,c4];rfl
     clear h4
     go_enter Tryz.func159,Tryz.ntmps159
     go_wp2
     go_ret
     exact⟨ret_bool HF.out,S0.out.ext⟩
    ·have c4:(a.r == b.r)=false:=by simpa using h4
     have HF:Hid (false=keyLt a b):=by unfold Hid keyLt;rw [c1,c2,c3,c4];rfl
     clear h4
     go_enter Tryz.func159,Tryz.ntmps159
     go_wp2
     go_ret
     exact⟨ret_bool HF.out,S0.out.ext⟩
  ·have c2:(a.s == b.s)=false:=by simpa using h2
   have HF:Hid (false=keyLt a b):=by unfold Hid keyLt;rw [c1,c2];rfl
   clear h2
   go_enter Tryz.func159,Tryz.ntmps159
   go_wp2
   go_ret
   exact⟨ret_bool HF.out,S0.out.ext⟩
theorem May15 (x:Sq) (w:World) (h:mayB x=true):Calls Tryz.prog 110 #[.agg #[.int .i64 x.s,.int .i64 x.r,.int .i64 x.v,.int .i64 x.d]] w fun e w'=>e=.returned (.bool true)∧Ext w w':=by
 obtain⟨h1,h2,h3,h4,h5,h6,h7⟩:=mayB_iff.1 h
 have c6:decide (0≤x.d)=true:=by simpa using h6
 have c7:decide (x.d≤200)=true:=by simpa using h7
 have HM:=Lib.hid (fun W=>May14 x W h)
 clear h h1 h2 h3 h4 h5 h6 h7
 have S0:=Lib.hid ((Sep.start w).al #[.int .i64 x.s,.int .i64 x.r,.int .i64 x.v,.int .i64 x.d] 146 w.heap.size rfl)
 go_enter Tryz.func110,Tryz.ntmps110
 go_wp2_with (go_at_call 176;go_must (refine(HM.out _).mono ?_;rintro e w1 ⟨rfl,hb⟩;have S1:=Lib.hid (S0.out.call hb);obtain⟨b0,b1,b2,b3,bz⟩:=bkc0c1c2c3l (S1.out.blk 0 rfl);clear hb))
 go_ret
 exact⟨rfl,S1.out.ext⟩
theorem May16r (x:Sq) (w:World) (h:mayB x=true):Calls Tryz.prog 160 #[.agg #[.int .i64 x.s,.int .i64 x.r,.int .i64 x.v,.int .i64 x.d]] w fun e w'=>e=.returned (.bool true)∧Ext w w':=by
 obtain⟨h1,h2,h3,h4,h5,h6,h7⟩:=mayB_iff.1 h
 have c6:decide (0≤x.d)=true:=by simpa using h6
 have c7:decide (x.d≤200)=true:=by simpa using h7
 have HM:=Lib.hid (fun W=>May14 x W h)
 clear h h1 h2 h3 h4 h5 h6 h7
 have S0:=Lib.hid ((Sep.start w).al #[.int .i64 x.s,.int .i64 x.r,.int .i64 x.v,.int .i64 x.d] 138 w.heap.size rfl)
 go_enter Tryz.func160,Tryz.ntmps160
 go_wp2_with (go_at_call 176;go_must (refine(HM.out _).mono ?_;rintro e w1 ⟨rfl,hb⟩;have S1:=Lib.hid (S0.out.call hb);obtain⟨b0,b1,b2,b3,bz⟩:=bkc0c1c2c3l (S1.out.blk 0 rfl);clear hb))
 go_ret
 exact⟨rfl,S1.out.ext⟩
theorem Check16r (p:Option Addr) (n c:Nat) (l:List Sq) (w:World) (hl:Rd w 4 p n (encQ l)) (hm:∀ x∈l,mayB x=true) :
  Calls Tryz.prog 98 #[.slice p n c] w fun e w'=>e=.returned (.bool true)∧Ext w w':=by
 have p1:=hl.ptr
 have n1:=hl.small
 have L1:=Lib.hid hl.nQ
 have HM:=Lib.hid hm
 clear hm
 have HL:=Lib.hid hl;clear hl
 go_enter Tryz.func98,Tryz.ntmps98
 go_wp2
 go_loopw [3] (fun i wr=>∃ k:Nat,k≤n∧i=.int .i64 k∧Ext w wr) (fun i _=>n - (intOf i).toNat)
 case atStart=>exact⟨0,Nat.zero_le _,rfl,Below.refl _ _⟩
 case round =>
  obtain⟨k,hk,rfl,hE⟩:=hrel
  by_cases hlt:k<n
  ·obtain⟨g1,g2,g3,g4⟩:=(HL.out.ext hE).cQ hlt
   have hx:=HM.out (nth l k) (by rw [nth_eq (by rw [← L1.out];exact hlt)];exact List.getElem_mem _)
   obtain⟨x,hxl⟩:∃ x,nth l k=x:=⟨_,rfl⟩
   rw [hxl] at g1 g2 g3 g4 hx
   have HC:=Lib.hid (fun W=>May16r x W hx)
   have HE:=Lib.hid hE
   have d1:(0:Int)≤k:=by omega
   have d2:(k:Int)<n:=by omega
   clear hxl hE hx
   go_wp2_with (go_at_call 160;go_must (refine(HC.out _).mono ?_;rintro e w' ⟨rfl,hb⟩;have HX:=Lib.hid (Ext.trans HE.out hb);clear hb))
   go_roundw
   case rel=>exact⟨k+1,by omega,by go_num,HX.out⟩
   case measure=>simp [intOf];omega
  ·have HE:=Lib.hid hE
   clear hE
   go_wp2
   go_ret
   exact⟨rfl,HE.out⟩
theorem Right19 (p:Option Addr) (n c:Nat) (l:List Sq) (w:World) (hl:Rd w 4 p n (encQ l)) (hu:KeysUp l) (hm:∀ x∈l,mayB x=true) (hn:n≤100000) :
  Calls Tryz.prog 97 #[.slice p n c] w fun e w'=>e=.returned (.bool true)∧Ext w w':=by
 have p1:=hl.ptr
 have n1:=hl.small
 have L1:=Lib.hid hl.nQ
 have HM:=Lib.hid hm
 have HU:=Lib.hid hu
 have HL:=Lib.hid hl
 clear hl hm hu
 go_enter Tryz.func97,Tryz.ntmps97
 go_wp2
 go_loopw [3] (fun i wr=>∃ k:Nat,k≤n∧i=.int .i64 k∧Ext w wr) (fun i _=>n - (intOf i).toNat)
 case atStart=>exact⟨0,Nat.zero_le _,rfl,Below.refl _ _⟩
 case round =>
  obtain⟨k,hk,rfl,hE⟩:=hrel
  have HE:=Lib.hid hE
  clear hE
  by_cases hlt:k<n
  ·obtain⟨g1,g2,g3,g4⟩:=(HL.out.ext HE.out).cQ hlt
   have hkl:k<l.length:=by rw [← L1.out];exact hlt
   have hx:=HM.out (nth l k) (by rw [nth_eq hkl];exact List.getElem_mem _)
   obtain⟨x,hxl⟩:∃ x,nth l k=x:=⟨_,rfl⟩
   rw [hxl] at g1 g2 g3 g4 hx
   have HC:=Lib.hid (fun W=>May15 x W hx)
   have d1:(0:Int)≤k:=by omega
   have d2:(k:Int)<n:=by omega
   have HXL:=Lib.hid hxl
   clear hx hxl
   by_cases hk0:k=0
   ·subst hk0
    clear HXL hkl
    go_wp2
    have u0:=fun x:ExtOf wr=>x.ext.cell g1
    have u1:=fun x:ExtOf wr=>x.ext.cell g2
    have u2:=fun x:ExtOf wr=>x.ext.cell g3
    have u3:=fun x:ExtOf wr=>x.ext.cell g4
    refine wp_region_ext (by kernel_rfl) (by kernel_rfl) ?_
    repeat (go_big_quiet_step (((go_at_call 110;exact Calls.ext_of (HC.out _)))))
    refine wpQuiet_nil ?_
    rintro w9 ⟨⟨_,hb9⟩,rfl⟩
    have HX:=Lib.hid (Ext.trans HE.out hb9)
    clear hb9
    go_wp2
    go_roundw
    case rel=>exact⟨1,by omega,by go_num,HX.out⟩
    case measure=>simp [intOf];omega
   ·obtain⟨j,hj⟩:∃ j,k=j+1:=⟨k - 1,by omega⟩
    have q1:(k:Int) - 1=(j:Int):=by omega
    have q2:(0:Int)≤(j:Int):=by omega
    have q3:(j:Int)≤100000:=by omega
    have q4:(j:Int)<n:=by omega
    have q5:(0:Int)<(k:Int):=by omega
    have q6:decide ((0:Int)<(k:Int))=true:=by simpa using q5
    have q7:decide (0<k)=true:=by simp;omega
    have hjl:j<l.length:=by omega
    have hkj:keyLt (nth l j) (nth l k)=true:=by
     rw [nth_eq hjl,nth_eq hkl]
     exact(List.pairwise_iff_getElem.1 HU.out) j k hjl hkl (by omega)
    rw [HXL.out] at hkj
    have HCC:=Lib.hid (fun W=>Less14 (nth l j) x W)
    rw [hkj] at HCC
    obtain⟨y1,y2,y3,y4⟩:=(HL.out.ext HE.out).cQ (k:=j) (by omega)
    have hjn:j<n:=by omega
    clear hkj HXL hkl hjl hj hk0 y4
    generalize nth l j=y at *
    go_wp2
    have u0:=fun x:ExtOf wr=>x.ext.cell g1
    have u1:=fun x:ExtOf wr=>x.ext.cell g2
    have u2:=fun x:ExtOf wr=>x.ext.cell g3
    have u3:=fun x:ExtOf wr=>x.ext.cell g4
    have v1:=fun x:ExtOf wr=>x.ext.cell y1
    have v2:=fun x:ExtOf wr=>x.ext.cell y2
    have v3:=fun x:ExtOf wr=>x.ext.cell y3
    refine wp_region_ext (by kernel_rfl) (by kernel_rfl) ?_
    repeat (go_big_quiet_step (((first | (go_at_call 110;exact Calls.ext_of (HC.out _)) | (go_at_call 159;exact Calls.ext_of (HCC.out _))))))
    refine wpQuiet_nil ?_
    rintro w9 ⟨⟨_,hb9⟩,rfl⟩
    have HX:=Lib.hid (Ext.trans HE.out hb9)
    clear hb9
    go_wp2
    go_roundw
    case rel=>exact⟨k+1,by omega,by go_num,HX.out⟩
    case measure=>simp [intOf];omega
  ·go_wp2
   go_ret
   exact⟨rfl,HE.out⟩
theorem Within19 (p:Option Addr) (n c:Nat) (l:List Sq) (pm:Option Addr) (nm cm:Nat) (M:List Sq) (N:Int) (w:World) (hl:Rd w 4 p n (encQ l)) (hM:Rd w 4 pm nm (encQ M)) (h1:∀ x∈l,x.v<N) (h2:∀ x∈M,x.v<N) :
  Calls Tryz.prog 99 #[.slice p n c,.slice pm nm cm,.int .i64 N] w fun e w'=>e=.returned (.bool true)∧Ext w w':=by
 have p1:=hl.ptr
 have n1:=hl.small
 have p2:=hM.ptr
 have n2:=hM.small
 have L1:=Lib.hid hl.nQ
 have L2:=Lib.hid hM.nQ
 have H1:=Lib.hid h1
 have H2:=Lib.hid h2
 clear h1 h2
 have HL:=Lib.hid hl;clear hl
 have HM:=Lib.hid hM;clear hM
 go_enter Tryz.func99,Tryz.ntmps99
 go_wp2
 go_loopw [7] (fun i wr=>∃ k:Nat,k≤n∧i=.int .i64 k∧Ext w wr) (fun i _=>n - (intOf i).toNat)
 case atStart=>exact⟨0,Nat.zero_le _,rfl,Below.refl _ _⟩
 case round =>
  obtain⟨k,hk,rfl,hE⟩:=hrel
  have HE:=Lib.hid hE
  by_cases hlt:k<n
  ·obtain⟨_,_,g3,_⟩:=(HL.out.ext hE).cQ hlt
   have hx:=H1.out (nth l k) (by rw [nth_eq (by rw [← L1.out];exact hlt)];exact List.getElem_mem _)
   generalize nth l k=x at *
   have e1:decide (N≤x.v)=false:=by simpa using hx
   have d1:(0:Int)≤k:=by omega
   have d2:(k:Int)<n:=by omega
   clear hE hx
   go_wp2
   go_roundw
   case rel=>exact⟨k+1,by omega,by go_num,HE.out⟩
   case measure=>simp [intOf];omega
  ·clear hE
   go_wp2
   go_loopw [8] (fun i wr=>∃ k:Nat,k≤nm∧i=.int .i64 k∧Ext w wr) (fun i _=>nm - (intOf i).toNat)
   case atStart=>exact⟨0,Nat.zero_le _,rfl,HE.out⟩
   case round =>
    clear HE
    obtain⟨j,hj,rfl,hE⟩:=hrel
    have HE:=Lib.hid hE
    by_cases hlt2:j<nm
    ·obtain⟨_,_,g3,_⟩:=(HM.out.ext hE).cQ hlt2
     have hx:=H2.out (nth M j) (by rw [nth_eq (by rw [← L2.out];exact hlt2)];exact List.getElem_mem _)
     generalize nth M j=x at *
     have e1:decide (N≤x.v)=false:=by simpa using hx
     have d1:(0:Int)≤j:=by omega
     have d2:(j:Int)<nm:=by omega
     clear hE hx
     go_wp2
     go_roundw
     case rel=>exact⟨j+1,by omega,by go_num,HE.out⟩
     case measure=>simp [intOf];omega
    ·clear hE
     go_wp2
     go_ret
     exact⟨rfl,HE.out⟩
end
section
open Go Go.RowKit
theorem eqKey (a b:Sq) (w:World):(binOp .eql 136 (.agg #[.int .i64 a.s,.int .i64 a.r,.int .i64 a.v]) (.agg #[.int .i64 b.s,.int .i64 b.r,.int .i64 b.v])).run Tryz.prog w=.ok (.bool (decide (sameK a b))) w:=by
 have u3:=Tryz.underlying3
 have a3:=Tryz.isAgg3
 have z3:=Tryz.sizeOf3
 have hS:Tryz.prog.underlying 136=some (.struct (Tryz.prog.fieldsOf 136)):=by kernel_rfl
 have hp:Tryz.prog.stoodInHeld 136=false:=by kernel_rfl
 rw [run_eql_struct,show (10000:Nat)=9999+1 from rfl,run_equalIn_agg w 9999 136 _ _ hS hp]
 simp only [Program.fieldsOf,Tryz.underlying136]
 go_simp
 by_cases h1:a.s=b.s <;> by_cases h2:a.r=b.r <;> by_cases h3:a.v=b.v <;> simp [h1,h2,h3,sameK]
theorem guardKey (op:BinOp) (x y:Operand) (xs ys:Array Value) (w:World):(eqGuard op 136 x y (.agg xs) (.agg ys)).run Tryz.prog w=.ok () w:=run_eqGuard_agg w op 136 x y xs ys (by kernel_rfl)
theorem rd_takeQ {w:World} {q:Option Addr} {n d:Nat} {L:List Sq} (h:Rd w 4 q n (encQ L)) (hd:d≤n):Rd w 4 q d (encQ (L.take d)):=by
 have:=h.take (k:=d) hd
 rwa [← encQ_take] at this
theorem rd_cutQ {w:World} {q:Option Addr} {n d c:Nat} {L:List Sq} (h:Rd w 4 q n (encQ L)) (hd:d≤n) (hc:n≤c):Rd w 4 (cutp q c d 4) (n - d) (encQ (L.drop d)):=by
 have hl:=h.nQ
 have:=h.cut (l:=d) (h:=n) (c:=c) hd (Nat.le_refl _) hc
 rw [← encQ_drop,← encQ_take,List.take_of_length_le (by rw [List.length_drop];omega)] at this
 exact this
theorem Put19 (p:Option Addr) (n c:Nat) (l:List Sq) (x:Sq) (w:World) (hl:Rd w 4 p n (encQ l)) (hc:n≤c) (hn:n≤100000) :
  Calls Tryz.prog 102 #[.slice p n c,.agg #[.int .i64 x.s,.int .i64 x.r,.int .i64 x.v,.int .i64 x.d]] w fun e w'=>∃ q c',e=.returned (.slice q (putK x l).length c')∧Sep w w' [.own 146 4 q (putK x l).length c' (encQ (putK x l))]:=by
 obtain⟨i0,hi0,hz0,hz1,hz2⟩:=info_parts infStt
 have S0:=Lib.hid ((Sep.start w).al #[.int .i64 x.s,.int .i64 x.r,.int .i64 x.v,.int .i64 x.d] 146 w.heap.size rfl)
 have hln:=hl.nQ
 have LL:=Lib.hid hln
 have p1:=hl.ptr
 have HL:=Lib.hid hl
 have HA:=fun (b:Sq) W=>Less14 b x W
 clear hl hln
 go_enter Tryz.func102,Tryz.ntmps102
 go_wp2
 go_loopw [5] (fun i wr=>∃ k:Nat,k≤n∧i=.int .i64 k∧Hid (∀ j,j<k→keyLt (nth l j) x=true)∧Sep w wr [.blk w.heap.size 146 #[.int .i64 x.s,.int .i64 x.r,.int .i64 x.v,.int .i64 x.d]]) (fun i _=>n - (intOf i).toNat)
 case atStart=>exact⟨0,Nat.zero_le _,rfl,fun i hi=>by omega,S0.out⟩
 case round =>
  clear S0
  obtain⟨k,hk,rfl,HK,S⟩:=hrel
  have SH:=Lib.hid S
  clear S
  obtain⟨b0,b1,b2,b3,bz⟩:=bkc0c1c2c3l (SH.out.blk 0 rfl)
  by_cases hlt:k<n
  ·have hkL:k<l.length:=by rw [← LL.out];exact hlt
   obtain⟨g1,g2,g3,g4⟩:=(HL.out.ext SH.out.ext).cQ hlt
   have d1:(0:Int)≤k:=by omega
   have d2:(k:Int)<n:=by omega
   have HAT:Hid (keyLt (nth l k) x=false→putK x l=l.take k ++ ([x] ++ l.drop k)):=fun h=>putK_at x l k (by omega) HK.out fun _=>h
   have HAK:Hid (keyLt (nth l k) x=true→∀ i,i<k+1→keyLt (nth l i) x=true):=fun h i hi=>by
    by_cases e:i=k
    ·subst e;exact h
    ·exact HK.out i (by omega)
   have HAx:=Lib.hid (fun y:ExtOf wr=>HA (nth l k) y.val)
   generalize nth l k=y at *
   cases hy:keyLt y x with
   | true =>
    rw [hy] at HAx
    have HK2:=Lib.hid (HAK.out hy)
    clear hy HAT HAK HK g4 b3
    go_wp2
    have u0:=fun x:ExtOf wr=>x.ext.cell b0
    have u1:=fun x:ExtOf wr=>x.ext.cell b1
    have u2:=fun x:ExtOf wr=>x.ext.cell b2
    have v1:=fun x:ExtOf wr=>x.ext.cell g1
    have v2:=fun x:ExtOf wr=>x.ext.cell g2
    have v3:=fun x:ExtOf wr=>x.ext.cell g3
    refine wp_region_ext (by kernel_rfl) (by kernel_rfl) ?_
    repeat (go_big_quiet_step (((go_at_call 159;exact Calls.ext_of (HAx.out _)))))
    refine wpQuiet_nil ?_
    rintro w9 ⟨⟨_,hb9⟩,rfl⟩
    go_wp2
    go_roundw
    case rel=>exact⟨k+1,by omega,by go_num,HK2.out,SH.out.call hb9⟩
    case measure=>simp [intOf];omega
   | false =>
    rw [hy] at HAx
    have HF:=Lib.hid (HAT.out hy)
    clear hy HAT HAK HK g4 b3
    go_wp2
    have u0:=fun x:ExtOf wr=>x.ext.cell b0
    have u1:=fun x:ExtOf wr=>x.ext.cell b1
    have u2:=fun x:ExtOf wr=>x.ext.cell b2
    have v1:=fun x:ExtOf wr=>x.ext.cell g1
    have v2:=fun x:ExtOf wr=>x.ext.cell g2
    have v3:=fun x:ExtOf wr=>x.ext.cell g3
    refine wp_region_ext (by kernel_rfl) (by kernel_rfl) ?_
    repeat (go_big_quiet_step (((go_at_call 159;exact Calls.ext_of (HAx.out _)))))
    refine wpQuiet_nil ?_
    rintro w9 ⟨⟨_,hb9⟩,rfl⟩
    have S9:=Lib.hid (SH.out.call hb9)
    have hkn:(k:Int)≤n:=by omega
    clear hb9 g1 g2 g3 HAx u0 u1 u2 v1 v2 v3 b0 b1 b2 bz SH
    obtain⟨b0,b1,b2,b3,bz⟩:=bkc0c1c2c3l (S9.out.blk 0 rfl)
    go_wp2_with (first | (at_builtin;have _t:=T2;go_must (refine wpList_append_sep rfl _ _ _ rfl 146 i0 _ 4 32 Tryz.underlying85 hi0 hz0 hz1 hz2 rfl (by omega) T2.out 0 q7 (k+1) c7 _ rfl rfl _ _ _ (encQ (l.drop k)) rfl (by have hz:=rd_cutQ (d:=k) (HL.out.ext T2.out.ext) (by omega) hc;simpa [cutp,Addr.add] using hz) (one_encQ _) (by omega) (by omega) ?_;intro q8 c8 w8 S' hsz;have T3:=Lib.hid S';clear S' hsz)) | (at_builtin;have _t:=T1;go_must (refine wpList_append_sep rfl _ _ _ rfl 146 i0 _ 4 32 Tryz.underlying85 hi0 hz0 hz1 hz2 rfl (by omega) (T1.out.junk _) 0 q6 k c6 _ rfl rfl _ 1 1 _ rfl (Rd.oneQ _ _ x) (one_encQ _) (by omega) (by omega) ?_;intro q7 c7 w7 S' hsz;have T2:=Lib.hid S';clear S' hsz)) | (at_builtin;have _t:=S9;go_must (refine wpList_append_sep rfl _ _ _ rfl 146 i0 _ 4 32 Tryz.underlying85 hi0 hz0 hz1 hz2 rfl (by omega) (S9.out.nilrow 146 4) 0 none 0 0 [] rfl rfl p k c _ rfl (rd_takeQ (HL.out.ext S9.out.ext) (by omega)) (one_encQ _) (by omega) (by omega) ?_;intro q6 c6 w6 S' hsz;(try simp only [Nat.zero_add,List.nil_append] at S');have T1:=Lib.hid S';obtain⟨e0,e1,e2,e3,ez⟩:=bkc0c1c2c3l (S'.blk 1 rfl);clear S' hsz)))
    go_ret
    have hL2:k+1+(n - k)=(putK x l).length:=by(rw [HF.out,List.length_append,List.length_append,List.length_take,List.length_drop,← LL.out];simp;omega)
    have T:Sep w w8 [.own 146 4 q8 (k+1+(n - k)) c8 (encQ (l.take k) ++ encQ [x] ++ encQ (l.drop k))]:=T3.out.pick [0] (by decide) rfl
    rw [List.append_assoc,← encQ_append,← encQ_append,hL2,← HF.out] at T
    exact⟨q8,c8,ret_slc hL2,T⟩
  ·have hkn':k=n:=by omega
   have HF:Hid (putK x l=l.take k ++ ([x] ++ l.drop k)):=putK_at x l k (by have:=LL.out;omega) HK.out fun h=>absurd h (by have:=LL.out;omega)
   have d2:decide ((k:Int)<n)=false:=by simp;omega
   have d2n:decide (k<n)=false:=by simp;omega
   have d1:(0:Int)≤k:=by omega
   have hkn:(k:Int)≤n:=by omega
   clear hkn' hlt HK
   have HAx:=Lib.hid (fun y:ExtOf wr=>HA x y.val)
   go_wp2
   have u0:=fun x:ExtOf wr=>x.ext.cell b0
   have u1:=fun x:ExtOf wr=>x.ext.cell b1
   have u2:=fun x:ExtOf wr=>x.ext.cell b2
   refine wp_region_ext (by kernel_rfl) (by kernel_rfl) ?_
   repeat (go_big_quiet_step (((go_at_call 159;exact Calls.ext_of (HAx.out _)))))
   refine wpQuiet_nil ?_
   rintro w9 ⟨⟨_,hb9⟩,rfl⟩
   have S9:=Lib.hid (SH.out.call hb9)
   clear hb9 HAx u0 u1 u2 b0 b1 b2 b3 bz SH
   obtain⟨b0,b1,b2,b3,bz⟩:=bkc0c1c2c3l (S9.out.blk 0 rfl)
   go_wp2_with (first | (at_builtin;have _t:=T2;go_must (refine wpList_append_sep rfl _ _ _ rfl 146 i0 _ 4 32 Tryz.underlying85 hi0 hz0 hz1 hz2 rfl (by omega) T2.out 0 q7 (k+1) c7 _ rfl rfl _ _ _ (encQ (l.drop k)) rfl (by have hz:=rd_cutQ (d:=k) (HL.out.ext T2.out.ext) (by omega) hc;simpa [cutp,Addr.add] using hz) (one_encQ _) (by omega) (by omega) ?_;intro q8 c8 w8 S' hsz;have T3:=Lib.hid S';clear S' hsz)) | (at_builtin;have _t:=T1;go_must (refine wpList_append_sep rfl _ _ _ rfl 146 i0 _ 4 32 Tryz.underlying85 hi0 hz0 hz1 hz2 rfl (by omega) (T1.out.junk _) 0 q6 k c6 _ rfl rfl _ 1 1 _ rfl (Rd.oneQ _ _ x) (one_encQ _) (by omega) (by omega) ?_;intro q7 c7 w7 S' hsz;have T2:=Lib.hid S';clear S' hsz)) | (at_builtin;have _t:=S9;go_must (refine wpList_append_sep rfl _ _ _ rfl 146 i0 _ 4 32 Tryz.underlying85 hi0 hz0 hz1 hz2 rfl (by omega) (S9.out.nilrow 146 4) 0 none 0 0 [] rfl rfl p k c _ rfl (rd_takeQ (HL.out.ext S9.out.ext) (by omega)) (one_encQ _) (by omega) (by omega) ?_;intro q6 c6 w6 S' hsz;(try simp only [Nat.zero_add,List.nil_append] at S');have T1:=Lib.hid S';obtain⟨e0,e1,e2,e3,ez⟩:=bkc0c1c2c3l (S'.blk 1 rfl);clear S' hsz)))
   go_ret
   have hL2:k+1+(n - k)=(putK x l).length:=by(rw [HF.out,List.length_append,List.length_append,List.length_take,List.length_drop,← LL.out];simp;omega)
   have T:Sep w w8 [.own 146 4 q8 (k+1+(n - k)) c8 (encQ (l.take k) ++ encQ [x] ++ encQ (l.drop k))]:=T3.out.pick [0] (by decide) rfl
   rw [List.append_assoc,← encQ_append,← encQ_append,hL2,← HF.out] at T
   exact⟨q8,c8,ret_slc hL2,T⟩
attribute [local go_sem ↓] eqKey guardKey
theorem There19 (p:Option Addr) (n c:Nat) (l:List Sq) (x:Sq) (w:World) (hl:Rd w 4 p n (encQ l)) :
  Calls Tryz.prog 162 #[.slice p n c,.agg #[.int .i64 x.s,.int .i64 x.r,.int .i64 x.v]] w fun e w'=>e=.returned (.bool (hasK l x))∧Ext w w':=by
 have S0:=Lib.hid ((Sep.start w).al #[.int .i64 x.s,.int .i64 x.r,.int .i64 x.v] 136 w.heap.size rfl)
 have p1:=hl.ptr
 have n1:=hl.small
 have LL:=Lib.hid hl.nQ
 have HL:=Lib.hid hl
 clear hl
 go_enter Tryz.func162,Tryz.ntmps162
 go_wp2
 go_loopw [5] (fun i wr=>∃ k:Nat,k≤n∧i=.int .i64 k∧Hid ((l.take k).any (fun y=>decide (sameK y x))=false)∧Sep w wr [.blk w.heap.size 136 #[.int .i64 x.s,.int .i64 x.r,.int .i64 x.v]]) (fun i _=>n - (intOf i).toNat)
 case atStart=>exact⟨0,Nat.zero_le _,rfl,rfl,S0.out⟩
 case round =>
  clear S0
  obtain⟨k,hk,rfl,HA,S⟩:=hrel
  obtain⟨b0,b1,b2,bz⟩:=bkc0c1c2l (S.blk 0 rfl)
  have SH:=Lib.hid S
  clear S
  by_cases hlt:k<n
  ·have hkL:k<l.length:=by rw [← LL.out];exact hlt
   obtain⟨g1,g2,g3,_⟩:=(HL.out.ext SH.out.ext).cQ hlt
   have HTA:=Lib.hid (any_true_at (fun y:Sq=>decide (sameK y x)) l k hkL)
   have HST:=Lib.hid (any_step (fun y:Sq=>decide (sameK y x)) l k hkL HA.out)
   have d1:(0:Int)≤k:=by omega
   have d2:(k:Int)<n:=by omega
   clear hkL
   generalize nth l k=y at *
   by_cases hs:sameK y x
   ·have e1:decide (sameK y x)=true:=decide_eq_true hs
    have HF:Hid (hasK l x=true):=HTA.out e1
    clear hs HTA HST
    go_wp2
    have u0:=fun x:ExtOf wr=>x.ext.cell b0
    have u1:=fun x:ExtOf wr=>x.ext.cell b1
    have u2:=fun x:ExtOf wr=>x.ext.cell b2
    have v1:=fun x:ExtOf wr=>x.ext.cell g1
    have v2:=fun x:ExtOf wr=>x.ext.cell g2
    have v3:=fun x:ExtOf wr=>x.ext.cell g3
    refine wp_region_ext (by kernel_rfl) (by kernel_rfl) ?_
    repeat (go_big_quiet_step ((fail)))
    refine wpQuiet_nil ?_
    rintro w9 ⟨⟨_,hb9⟩,rfl⟩
    have S9:=Lib.hid (SH.out.call hb9)
    clear hb9
    go_wp2
    go_ret
    exact⟨ret_bool HF.out.symm,S9.out.ext⟩
   ·have e1:decide (sameK y x)=false:=decide_eq_false hs
    have HF:=Lib.hid (HST.out e1)
    clear hs HTA HST
    go_wp2
    have u0:=fun x:ExtOf wr=>x.ext.cell b0
    have u1:=fun x:ExtOf wr=>x.ext.cell b1
    have u2:=fun x:ExtOf wr=>x.ext.cell b2
    have v1:=fun x:ExtOf wr=>x.ext.cell g1
    have v2:=fun x:ExtOf wr=>x.ext.cell g2
    have v3:=fun x:ExtOf wr=>x.ext.cell g3
    refine wp_region_ext (by kernel_rfl) (by kernel_rfl) ?_
    repeat (go_big_quiet_step ((fail)))
    refine wpQuiet_nil ?_
    rintro w9 ⟨⟨_,hb9⟩,rfl⟩
    have S9:=Lib.hid (SH.out.call hb9)
    clear hb9
    go_wp2
    go_roundw
    case rel=>exact⟨k+1,by omega,by go_num,HF.out,S9.out⟩
    case measure=>simp [intOf];omega
  ·have HF:Hid (hasK l x=false):=any_end _ _ _ (by rw [← LL.out];exact hlt) HA.out
   go_wp2
   go_ret
   exact⟨ret_bool HF.out.symm,SH.out.ext⟩
theorem Put16 (p:Option Addr) (n c:Nat) (l:List Sq) (x:Sq) (w:World) (hl:Rd w 4 p n (encQ l)) (hc:n≤c) (hn:n≤100000) :
  Calls Tryz.prog 219 #[.slice p n c,.agg #[.int .i64 x.s,.int .i64 x.r,.int .i64 x.v,.int .i64 x.d]] w fun e w'=>∃ q c',e=.returned (.slice q (putC x l).length c')∧Sep w w' [.own 138 4 q (putC x l).length c' (encQ (putC x l))]:=by
 obtain⟨i0,hi0,hz0,hz1,hz2⟩:=info_parts infMail
 have S0:=Lib.hid ((Sep.start w).al #[.int .i64 x.s,.int .i64 x.r,.int .i64 x.v,.int .i64 x.d] 138 w.heap.size rfl)
 have hln:=hl.nQ
 have LL:=Lib.hid hln
 have p1:=hl.ptr
 have n1:=hl.small
 have HL:=Lib.hid hl
 have HA:=fun (b:Sq) W=>Less14 b x W
 clear hl hln
 go_enter Tryz.func219,Tryz.ntmps219
 go_wp2
 go_loopw [5] (fun i wr=>∃ k:Nat,k≤n∧i=.int .i64 k∧Hid (∀ j,j<k→keyLt (nth l j) x=true)∧Sep w wr [.blk w.heap.size 138 #[.int .i64 x.s,.int .i64 x.r,.int .i64 x.v,.int .i64 x.d]]) (fun i _=>n - (intOf i).toNat)
 case atStart=>exact⟨0,Nat.zero_le _,rfl,fun i hi=>by omega,S0.out⟩
 case round =>
  clear S0
  obtain⟨k,hk,rfl,HK,S⟩:=hrel
  have SH:=Lib.hid S
  clear S
  obtain⟨b0,b1,b2,b3,bz⟩:=bkc0c1c2c3l (SH.out.blk 0 rfl)
  by_cases hlt:k<n
  ·have hkL:k<l.length:=by rw [← LL.out];exact hlt
   obtain⟨g1,g2,g3,g4⟩:=(HL.out.ext SH.out.ext).cQ hlt
   have d1:(0:Int)≤k:=by omega
   have d2:(k:Int)<n:=by omega
   have HCQ:Hid (∀ W,Ext w W→W.cell? (adr p (k*4))=some (.int .i64 (nth l k).s)∧W.cell? (adr p (k*4+1))=some (.int .i64 (nth l k).r)∧W.cell? (adr p (k*4+2))=some (.int .i64 (nth l k).v)∧W.cell? (adr p (k*4+3))=some (.int .i64 (nth l k).d)):=fun W hW=>(HL.out.ext hW).cQ hlt
   have HAT:Hid (keyLt (nth l k) x=false→putC x l=l.take k ++ (if sameK (nth l k) x then ⟨x.s,x.r,x.v,min x.d (nth l k).d⟩:: l.drop (k+1) else x :: l.drop k)):=fun h=>by
    rw [putC_at x l k (by omega) HK.out fun _=>h]
    by_cases hs:sameK (nth l k) x
    ·rw [if_pos ⟨hkL,hs⟩,if_pos hs]
    ·rw [if_neg (fun h2=>hs h2.2),if_neg hs]
   have HAK:Hid (keyLt (nth l k) x=true→∀ i,i<k+1→keyLt (nth l i) x=true):=fun h i hi=>by
    by_cases e:i=k
    ·subst e;exact h
    ·exact HK.out i (by omega)
   have HAx:=Lib.hid (fun y:ExtOf wr=>HA (nth l k) y.val)
   generalize nth l k=y at *
   cases hy:keyLt y x with
   | true =>
    rw [hy] at HAx
    have HK2:=Lib.hid (HAK.out hy)
    clear hy HAT HAK HK g4 b3 HCQ
    go_wp2
    have u0:=fun x:ExtOf wr=>x.ext.cell b0
    have u1:=fun x:ExtOf wr=>x.ext.cell b1
    have u2:=fun x:ExtOf wr=>x.ext.cell b2
    have v1:=fun x:ExtOf wr=>x.ext.cell g1
    have v2:=fun x:ExtOf wr=>x.ext.cell g2
    have v3:=fun x:ExtOf wr=>x.ext.cell g3
    refine wp_region_ext (by kernel_rfl) (by kernel_rfl) ?_
    repeat (go_big_quiet_step (((go_at_call 159;exact Calls.ext_of (HAx.out _)))))
    refine wpQuiet_nil ?_
    rintro w9 ⟨⟨_,hb9⟩,rfl⟩
    go_wp2
    go_roundw
    case rel=>exact⟨k+1,by omega,by go_num,HK2.out,SH.out.call hb9⟩
    case measure=>simp [intOf];omega
   | false =>
    rw [hy] at HAx
    have HF0:=Lib.hid (HAT.out hy)
    clear hy HAT HAK HK g4 b3
    go_wp2
    have u0:=fun x:ExtOf wr=>x.ext.cell b0
    have u1:=fun x:ExtOf wr=>x.ext.cell b1
    have u2:=fun x:ExtOf wr=>x.ext.cell b2
    have v1:=fun x:ExtOf wr=>x.ext.cell g1
    have v2:=fun x:ExtOf wr=>x.ext.cell g2
    have v3:=fun x:ExtOf wr=>x.ext.cell g3
    refine wp_region_ext (by kernel_rfl) (by kernel_rfl) ?_
    repeat (go_big_quiet_step (((go_at_call 159;exact Calls.ext_of (HAx.out _)))))
    refine wpQuiet_nil ?_
    rintro w9 ⟨⟨_,hb9⟩,rfl⟩
    have S9:=Lib.hid (SH.out.call hb9)
    have hkn:(k:Int)≤n:=by omega
    clear hb9 g1 g2 g3 HAx u0 u1 u2 v1 v2 v3 b0 b1 b2 bz SH
    obtain⟨b0,b1,b2,b3,bz⟩:=bkc0c1c2c3l (S9.out.blk 0 rfl)
    by_cases hs:sameK y x
    ·have HF:Hid (putC x l=l.take k ++ ([⟨x.s,x.r,x.v,min x.d y.d⟩] ++ l.drop (k+1))):=by unfold Hid;rw [HF0.out,if_pos hs];rfl
     have e1:decide (sameK y x)=true:=decide_eq_true hs
     clear HF0 hs
     go_wp2_with (first | (at_builtin;have _t:=S9;go_must (refine wpList_append_sep rfl _ _ _ rfl 138 i0 _ 4 32 Tryz.underlying83 hi0 hz0 hz1 hz2 rfl (by omega) (S9.out.nilrow 138 4) 0 none 0 0 [] rfl rfl p k c _ rfl (rd_takeQ (HL.out.ext S9.out.ext) (by omega)) (one_encQ _) (by omega) (by omega) ?_;intro q6 c6 w6 S' hsz;(try simp only [Nat.zero_add,List.nil_append] at S');have T1:=Lib.hid S';obtain⟨e0,e1,e2,e3,ez⟩:=bkc0c1c2c3l (S'.blk 1 rfl);clear S' hsz)))
     obtain⟨g1,g2,g3,g4⟩:=HCQ.out _ T1.out.ext
     have u0:=fun x:ExtOf w6=>x.ext.cell e0
     have u1:=fun x:ExtOf w6=>x.ext.cell e1
     have u2:=fun x:ExtOf w6=>x.ext.cell e2
     have v1:=fun x:ExtOf w6=>x.ext.cell g1
     have v2:=fun x:ExtOf w6=>x.ext.cell g2
     have v3:=fun x:ExtOf w6=>x.ext.cell g3
     refine wp_region_ext (by kernel_rfl) (by kernel_rfl) ?_
     repeat (go_big_quiet_step ((fail)))
     refine wpQuiet_nil ?_
     rintro w5 ⟨⟨_,hb5⟩,rfl⟩
     have T2:=Lib.hid (T1.out.call hb5)
     clear T1 hb5 e0 e1 e2 e3 ez u0 u1 u2 v1 v2 v3 g1 g2 g3 g4
     obtain⟨b0,b1,b2,b3,bz⟩:=bkc0c1c2c3l (T2.out.blk 1 rfl)
     obtain⟨g1,g2,g3,g4⟩:=HCQ.out _ T2.out.ext
     go_wp2
     refine wp_region_noPanic ?_
     refine wp_region_held_drew (S:=fun W=>W.cell? ⟨w.heap.size,0,none⟩=some (.int .i64 x.s)∧W.cell? ⟨w.heap.size,1,none⟩=some (.int .i64 x.r)∧W.cell? ⟨w.heap.size,2,none⟩=some (.int .i64 x.v)∧W.cell? ⟨w.heap.size,3,none⟩=some (.int .i64 x.d)∧W.cell? (adr p (k*4+3))=some (.int .i64 y.d)) (by kernel_rfl) ⟨b0,b1,b2,b3,g4⟩ (fun hHeld=>?_)
     have SD:=Lib.hid T2.out.drew
     clear T2 g1 g2 g3 g4 b0 b1 b2 b3 bz
     generalize w5.drew=D at SD hHeld ⊢
     refine wpAnyH_take (i:=0) (v:=.slice q6 k c6) rfl (by kernel_rfl) (by kernel_rfl) (by kernel_rfl) (noPanic_q _ _) (Or.inl ⟨by kernel_rfl,fun W hSw=>by obtain⟨h0,h1,h2,h3,h4⟩:=hSw;go_simp⟩) hHeld ?_
     refine wpAnyH_take (i:=1) (v:=.pointer (some ⟨w.heap.size,0,none⟩)) rfl (by kernel_rfl) (by kernel_rfl) (by kernel_rfl) (noPanic_q _ _) (Or.inl ⟨by kernel_rfl,fun W hSw=>by obtain⟨h0,h1,h2,h3,h4⟩:=hSw;go_simp⟩) hHeld ?_
     refine wpAnyH_take (i:=2) (v:=.agg #[.int .i64 x.s,.int .i64 x.r,.int .i64 x.v]) rfl (by kernel_rfl) (by kernel_rfl) (by kernel_rfl) (noPanic_q _ _) (Or.inl ⟨by kernel_rfl,fun W hSw=>by obtain⟨h0,h1,h2,h3,h4⟩:=hSw;go_simp⟩) hHeld ?_
     refine wpAnyH_take (i:=3) (v:=.pointer (some ⟨w.heap.size,3,none⟩)) rfl (by kernel_rfl) (by kernel_rfl) (by kernel_rfl) (noPanic_q _ _) (Or.inl ⟨by kernel_rfl,fun W hSw=>by obtain⟨h0,h1,h2,h3,h4⟩:=hSw;go_simp⟩) hHeld ?_
     refine wpAnyH_take (i:=4) (v:=.int .i64 x.d) rfl (by kernel_rfl) (by kernel_rfl) (by kernel_rfl) (noPanic_q _ _) (Or.inl ⟨by kernel_rfl,fun W hSw=>by obtain⟨h0,h1,h2,h3,h4⟩:=hSw;go_simp⟩) hHeld ?_
     refine wpAnyH_take (i:=5) (v:=.slice p n c) rfl (by kernel_rfl) (by kernel_rfl) (by kernel_rfl) (noPanic_q _ _) (Or.inl ⟨by kernel_rfl,fun W hSw=>by obtain⟨h0,h1,h2,h3,h4⟩:=hSw;go_simp⟩) hHeld ?_
     refine wpAnyH_take (i:=6) (v:=.int .i64 (k:Int)) rfl (by kernel_rfl) (by kernel_rfl) (by kernel_rfl) (noPanic_q _ _) (Or.inl ⟨by kernel_rfl,fun W hSw=>by obtain⟨h0,h1,h2,h3,h4⟩:=hSw;go_simp⟩) hHeld ?_
     refine wpAnyH_take (i:=7) (v:=.pointer (some (adr p (k*4)))) rfl (by kernel_rfl) (by kernel_rfl) (by kernel_rfl) (noPanic_q _ _) (Or.inl ⟨by kernel_rfl,fun W hSw=>by obtain⟨h0,h1,h2,h3,h4⟩:=hSw;go_simp⟩) hHeld ?_
     refine wpAnyH_take (i:=8) (v:=.pointer (some (adr p (k*4+3)))) rfl (by kernel_rfl) (by kernel_rfl) (by kernel_rfl) (noPanic_q _ _) (Or.inl ⟨by kernel_rfl,fun W hSw=>by obtain⟨h0,h1,h2,h3,h4⟩:=hSw;go_simp⟩) hHeld ?_
     refine wpAnyH_take (i:=9) (v:=.int .i64 y.d) rfl (by kernel_rfl) (by kernel_rfl) (by kernel_rfl) (noPanic_q _ _) (Or.inl ⟨by kernel_rfl,fun W hSw=>by obtain⟨h0,h1,h2,h3,h4⟩:=hSw;go_simp⟩) hHeld ?_
     obtain⟨m,hm⟩:∃ m,min x.d y.d=m:=⟨_,rfl⟩
     rw [hm] at HF
     refine wpAnyH_take (i:=10) (v:=.int .i64 m) rfl (by kernel_rfl) (by kernel_rfl) (by kernel_rfl) (noPanic_q _ _) (Or.inl ⟨by kernel_rfl,fun W hSw=>by clear hSw;go_simp⟩) hHeld ?_
     refine wpAnyH_take (i:=11) (v:=.agg #[.int .i64 x.s,.int .i64 x.r,.int .i64 x.v,.int .i64 m]) rfl (by kernel_rfl) (by kernel_rfl) (by kernel_rfl) (noPanic_q _ _) (Or.inl ⟨by kernel_rfl,fun W hSw=>by obtain⟨h0,h1,h2,h3,h4⟩:=hSw;go_simp⟩) hHeld ?_
     clear hm
     have SA:=Lib.hid (SD.out.alrw #[.int .i64 x.s,.int .i64 x.r,.int .i64 x.v,.int .i64 m] 138 4 1 D.heap.size rfl (by decide) rfl)
     obtain⟨q7,c7,w7,hrun,S'⟩:=SA.out.appended 1 83 83 138 i0 _ 4 32 Tryz.underlying83 hi0 hz0 hz1 hz2 rfl (by omega) q6 k c6 _ rfl (some ⟨D.heap.size,0,none⟩) 1 1 (encQ [⟨x.s,x.r,x.v,m⟩]) (SA.out.rdx 0 rfl) (one_encQ _) (by omega) (by omega)
     have T4:=Lib.hid S'
     refine wpAnyH_ready (rs:=[12]) (by kernel_rfl) (by simp) (AllReadyH.cons rfl (fun K hK=>?_) AllReadyH.nil)
     go_simp
     refine hK.out _ _ ⟨(SA.out.blk 2 rfl).cell 0,(SA.out.blk 2 rfl).cell 1,(SA.out.blk 2 rfl).cell 2,(SA.out.blk 2 rfl).cell 3,(HCQ.out _ SA.out.ext).2.2.2⟩ (fun hHeld=>?_)
     clear hK
     refine wpAnyH_ready (rs:=[13]) (by kernel_rfl) (by simp) (AllReadyH.cons rfl (fun K hK=>?_) AllReadyH.nil)
     rw [if_pos (by rfl)]
     refine operwp_append (.tmp 42) (.tmp 54) 83 (by rfl) (by rfl) (by rfl) hrun ?_
     refine hK.out _ _ ⟨(T4.out.blk 2 rfl).cell 0,(T4.out.blk 2 rfl).cell 1,(T4.out.blk 2 rfl).cell 2,(T4.out.blk 2 rfl).cell 3,(HCQ.out _ T4.out.ext).2.2.2⟩ (fun hHeld=>?_)
     clear hK
     refine wpAnyH_take (i:=14) (v:=.slice q7 (k+1) c7) rfl (by kernel_rfl) (by kernel_rfl) (by kernel_rfl) (noPanic_q _ _) (Or.inl ⟨by kernel_rfl,fun W hSw=>by obtain⟨h0,h1,h2,h3,h4⟩:=hSw;go_simp⟩) hHeld ?_
     refine wpAnyH_done (by kernel_rfl) ?_ _
     refine noPanic_mk ?_
     clear hHeld hrun S'
     try simp [Act.put]
     go_wp2_with (at_builtin;have _t:=T4;go_must (refine wpList_append_sep rfl _ _ _ rfl 138 i0 _ 4 32 Tryz.underlying83 hi0 hz0 hz1 hz2 rfl (by omega) T4.out 1 q7 (k+1) c7 _ rfl rfl _ _ _ (encQ (l.drop (k+1))) rfl (by have hz:=rd_cutQ (d:=k+1) (HL.out.ext T4.out.ext) (by omega) hc;simpa [cutp,Addr.add] using hz) (one_encQ _) (by omega) (by omega) ?_;intro q8 c8 w8 S' hsz;have T5:=Lib.hid S';clear S' hsz))
     all_goals
      go_ret
      have hL2:k+1+(n - (k+1))=(putC x l).length:=by
       rw [HF.out,List.length_append,List.length_append,List.length_take,List.length_drop,← LL.out];simp;omega
      have T:Sep w w8 [.own 138 4 q8 (k+1+(n - (k+1))) c8 (encQ (l.take k) ++ encQ [⟨x.s,x.r,x.v,m⟩] ++ encQ (l.drop (k+1)))]:=T5.out.pick [1] (by decide) rfl
      rw [List.append_assoc,← encQ_append,← encQ_append,hL2,← HF.out] at T
      exact⟨q8,c8,ret_slc hL2,T⟩
    ·have HF:Hid (putC x l=l.take k ++ ([x] ++ l.drop k)):=by unfold Hid;rw [HF0.out,if_neg hs];rfl
     have e1:decide (sameK y x)=false:=decide_eq_false hs
     clear HF0 hs
     go_wp2_with (first | (at_builtin;have _t:=S9;go_must (refine wpList_append_sep rfl _ _ _ rfl 138 i0 _ 4 32 Tryz.underlying83 hi0 hz0 hz1 hz2 rfl (by omega) (S9.out.nilrow 138 4) 0 none 0 0 [] rfl rfl p k c _ rfl (rd_takeQ (HL.out.ext S9.out.ext) (by omega)) (one_encQ _) (by omega) (by omega) ?_;intro q6 c6 w6 S' hsz;(try simp only [Nat.zero_add,List.nil_append] at S');have T1:=Lib.hid S';obtain⟨e0,e1,e2,e3,ez⟩:=bkc0c1c2c3l (S'.blk 1 rfl);clear S' hsz)))
     have u0:=fun x:ExtOf w6=>x.ext.cell e0
     have u1:=fun x:ExtOf w6=>x.ext.cell e1
     have u2:=fun x:ExtOf w6=>x.ext.cell e2
     (obtain⟨g1,g2,g3,g4⟩:=HCQ.out _ T1.out.ext);have v1:=fun x:ExtOf w6=>x.ext.cell g1;have v2:=fun x:ExtOf w6=>x.ext.cell g2;have v3:=fun x:ExtOf w6=>x.ext.cell g3
     refine wp_region_ext (by kernel_rfl) (by kernel_rfl) ?_
     repeat (go_big_quiet_step ((fail)))
     refine wpQuiet_nil ?_
     rintro w5 ⟨⟨_,hb5⟩,rfl⟩
     have T1':=Lib.hid (T1.out.call hb5)
     clear T1 hb5 e0 e1 e2 e3 ez u0 u1 u2
     have T1:=T1'
     clear T1'
     obtain⟨e0,e1,e2,e3,ez⟩:=bkc0c1c2c3l (T1.out.blk 1 rfl)
     go_wp2_with (first | (at_builtin;have _t:=T2;go_must (refine wpList_append_sep rfl _ _ _ rfl 138 i0 _ 4 32 Tryz.underlying83 hi0 hz0 hz1 hz2 rfl (by omega) T2.out 0 q7 (k+1) c7 _ rfl rfl _ _ _ (encQ (l.drop k)) rfl (by have hz:=rd_cutQ (d:=k) (HL.out.ext T2.out.ext) (by omega) hc;simpa [cutp,Addr.add] using hz) (one_encQ _) (by omega) (by omega) ?_;intro q8 c8 w8 S' hsz;have T3:=Lib.hid S';clear S' hsz)) | (at_builtin;have _t:=T1;go_must (refine wpList_append_sep rfl _ _ _ rfl 138 i0 _ 4 32 Tryz.underlying83 hi0 hz0 hz1 hz2 rfl (by omega) (T1.out.junk _) 0 q6 k c6 _ rfl rfl _ 1 1 _ rfl (Rd.oneQ _ _ x) (one_encQ _) (by omega) (by omega) ?_;intro q7 c7 w7 S' hsz;have T2:=Lib.hid S';clear S' hsz)))
     go_ret
     have hL2:k+1+(n - k)=(putC x l).length:=by(rw [HF.out,List.length_append,List.length_append,List.length_take,List.length_drop,← LL.out];simp;omega)
     have T:Sep w w8 [.own 138 4 q8 (k+1+(n - k)) c8 (encQ (l.take k) ++ encQ [x] ++ encQ (l.drop k))]:=T3.out.pick [0] (by decide) rfl
     rw [List.append_assoc,← encQ_append,← encQ_append,hL2,← HF.out] at T
     exact⟨q8,c8,ret_slc hL2,T⟩
  ·have hkn':k=n:=by omega
   have HF:Hid (putC x l=l.take k ++ ([x] ++ l.drop k)):=by
    have h:=putC_at x l k (by have:=LL.out;omega) HK.out (fun h=>absurd h (by have:=LL.out;omega))
    rw [if_neg (fun h2=>absurd h2.1 (by have:=LL.out;omega))] at h
    exact h
   have d2:decide ((k:Int)<n)=false:=by simp;omega
   have d2n:decide (k<n)=false:=by simp;omega
   have d1:(0:Int)≤k:=by omega
   have hkn:(k:Int)≤n:=by omega
   clear hkn' hlt HK
   have HAx:=Lib.hid (fun y:ExtOf wr=>HA x y.val)
   go_wp2
   have u0:=fun x:ExtOf wr=>x.ext.cell b0
   have u1:=fun x:ExtOf wr=>x.ext.cell b1
   have u2:=fun x:ExtOf wr=>x.ext.cell b2
   refine wp_region_ext (by kernel_rfl) (by kernel_rfl) ?_
   repeat (go_big_quiet_step (((go_at_call 159;exact Calls.ext_of (HAx.out _)))))
   refine wpQuiet_nil ?_
   rintro w9 ⟨⟨_,hb9⟩,rfl⟩
   have S9:=Lib.hid (SH.out.call hb9)
   clear hb9 HAx u0 u1 u2 b0 b1 b2 b3 bz SH
   obtain⟨b0,b1,b2,b3,bz⟩:=bkc0c1c2c3l (S9.out.blk 0 rfl)
   go_wp2_with (first | (at_builtin;have _t:=S9;go_must (refine wpList_append_sep rfl _ _ _ rfl 138 i0 _ 4 32 Tryz.underlying83 hi0 hz0 hz1 hz2 rfl (by omega) (S9.out.nilrow 138 4) 0 none 0 0 [] rfl rfl p k c _ rfl (rd_takeQ (HL.out.ext S9.out.ext) (by omega)) (one_encQ _) (by omega) (by omega) ?_;intro q6 c6 w6 S' hsz;(try simp only [Nat.zero_add,List.nil_append] at S');have T1:=Lib.hid S';obtain⟨e0,e1,e2,e3,ez⟩:=bkc0c1c2c3l (S'.blk 1 rfl);clear S' hsz)))
   have u0:=fun x:ExtOf w6=>x.ext.cell e0
   have u1:=fun x:ExtOf w6=>x.ext.cell e1
   have u2:=fun x:ExtOf w6=>x.ext.cell e2
   skip
   refine wp_region_ext (by kernel_rfl) (by kernel_rfl) ?_
   repeat (go_big_quiet_step ((fail)))
   refine wpQuiet_nil ?_
   rintro w5 ⟨⟨_,hb5⟩,rfl⟩
   have T1':=Lib.hid (T1.out.call hb5)
   clear T1 hb5 e0 e1 e2 e3 ez u0 u1 u2
   have T1:=T1'
   clear T1'
   obtain⟨e0,e1,e2,e3,ez⟩:=bkc0c1c2c3l (T1.out.blk 1 rfl)
   go_wp2_with (first | (at_builtin;have _t:=T2;go_must (refine wpList_append_sep rfl _ _ _ rfl 138 i0 _ 4 32 Tryz.underlying83 hi0 hz0 hz1 hz2 rfl (by omega) T2.out 0 q7 (k+1) c7 _ rfl rfl _ _ _ (encQ (l.drop k)) rfl (by have hz:=rd_cutQ (d:=k) (HL.out.ext T2.out.ext) (by omega) hc;simpa [cutp,Addr.add] using hz) (one_encQ _) (by omega) (by omega) ?_;intro q8 c8 w8 S' hsz;have T3:=Lib.hid S';clear S' hsz)) | (at_builtin;have _t:=T1;go_must (refine wpList_append_sep rfl _ _ _ rfl 138 i0 _ 4 32 Tryz.underlying83 hi0 hz0 hz1 hz2 rfl (by omega) (T1.out.junk _) 0 q6 k c6 _ rfl rfl _ 1 1 _ rfl (Rd.oneQ _ _ x) (one_encQ _) (by omega) (by omega) ?_;intro q7 c7 w7 S' hsz;have T2:=Lib.hid S';clear S' hsz)))
   go_ret
   have hL2:k+1+(n - k)=(putC x l).length:=by(rw [HF.out,List.length_append,List.length_append,List.length_take,List.length_drop,← LL.out];simp;omega)
   have T:Sep w w8 [.own 138 4 q8 (k+1+(n - k)) c8 (encQ (l.take k) ++ encQ [x] ++ encQ (l.drop k))]:=T3.out.pick [0] (by decide) rfl
   rw [List.append_assoc,← encQ_append,← encQ_append,hL2,← HF.out] at T
   exact⟨q8,c8,ret_slc hL2,T⟩
theorem Comb16r (p:Option Addr) (n c:Nat) (l:List Sq) (w:World) (hl:Rd w 4 p n (encQ l)) (hn:n≤100000) :
  Calls Tryz.prog 161 #[.slice p n c] w fun e w'=>∃ q c',e=.returned (.slice q (combM l).length c')∧Sep w w' [.own 138 4 q (combM l).length c' (encQ (combM l))]:=by
 have p1:=hl.ptr
 have n1:=hl.small
 have L1:=Lib.hid hl.nQ
 have HL:=Lib.hid hl
 have S0:=Lib.hid ((Sep.start w).nilrow 138 4)
 clear hl
 go_enter Tryz.func161,Tryz.ntmps161
 go_wp2
 go_loopw [3,4] (fun v i wr=>∃ (j m:Nat) (q:Option Addr) (d:Nat),j≤n∧m≤j∧i=.int .i64 j∧v=.slice q m d∧Sep w wr [.own 138 4 q m d (encQ (combM (l.take j)))]) (fun _ i _=>n - (intOf i).toNat)
 case atStart=>exact⟨0,0,none,0,Nat.zero_le _,Nat.le_refl _,rfl,rfl,S0.out⟩
 case round =>
  clear S0
  obtain⟨j,m,q,d,hj,hmj,rfl,rfl,S⟩:=hrel
  by_cases hlt:j<n
  ·obtain⟨g1,g2,g3,g4⟩:=(HL.out.ext S.ext).cQ hlt
   have hT:=take_succ_nth l j (by rw [← L1.out];exact hlt)
   have d1:(0:Int)≤j:=by omega
   have d2:(j:Int)<n:=by omega
   have hcap:=own_cap (S.own 0 rfl)
   generalize nth l j=y at *
   have HS:=Lib.hid (combM_snoc (l.take j) y)
   rw [← hT] at HS
   have hml:m=(combM (l.take j)).length:=(S.rdx 0 rfl).nQ
   have HML:Hid ((putC y (combM (l.take j))).length≤j+1):=by
    have:=putC_len y (combM (l.take j))
    unfold Hid;omega
   have HPU:=Lib.hid (Put16 q m d (combM (l.take j)) y wr (S.rdx 0 rfl) hcap (by omega))
   rw [← HS.out] at HPU HML
   have SH:=Lib.hid S
   clear S hml hT
   generalize (combM (l.take (j+1))).length=m2 at HPU HML
   go_wp2_with (go_at_call 219;go_must (refine HPU.out.mono ?_;rintro e w3 ⟨q',d',rfl,Z⟩;have S3:=Lib.hid (SH.out.comp Z);clear Z))
   go_roundw
   case rel=>exact⟨j+1,m2,q',d',by omega,HML.out,by go_num,rfl,S3.out.pick [0] (by decide) rfl⟩
   case measure=>simp [intOf];omega
  ·obtain rfl:j=n:=by omega
   rw [List.take_of_length_le (by rw [← L1.out];exact Nat.le_refl _)] at S
   have HML:Hid (m=(combM l).length):=(S.rdx 0 rfl).nQ
   have S2:=Lib.hid S
   clear S
   go_wp2
   go_ret
   exact⟨q,d,ret_slc HML.out,by rw [← HML.out];exact S2.out⟩
theorem fresh_snoc {st C:List Sq} {j:Nat} (h:j<C.length):(C.take (j+1)).filter (fun x=>!hasK st x)=(C.take j).filter (fun x=>!hasK st x) ++ if hasK st (nth C j)=true then [] else [nth C j]:=by
 rw [take_succ_nth C j h,List.filter_append]
 congr 1
 cases hb:hasK st (nth C j) <;> simp [hb]
theorem Fresh19 (p:Option Addr) (n c:Nat) (st:List Sq) (pm:Option Addr) (nm cm:Nat) (M:List Sq) (w:World) (hl:Rd w 4 p n (encQ st)) (hM:Rd w 4 pm nm (encQ M)) (hnm:nm≤100000) :
  Calls Tryz.prog 100 #[.slice p n c,.slice pm nm cm] w fun e w'=>∃ q c',e=.returned (.slice q (freshM st M).length c')∧Sep w w' [.own 138 4 q (freshM st M).length c' (encQ (freshM st M))]:=by
 obtain⟨i0,hi0,hz0,hz1,hz2⟩:=info_parts infMail
 have HCO:=Lib.hid (Comb16r pm nm cm M w hM hnm)
 have HTH:=Lib.hid (fun (x:Sq) W (h:Ext w W)=>There19 p n c st x W (hl.ext h))
 have HCL:Hid ((combM M).length≤100000):=by have:=combM_len M;have:=hM.nQ;unfold Hid;omega
 obtain⟨C,hC⟩:∃ C,combM M=C:=⟨_,rfl⟩
 have hF:freshM st M=C.filter (fun x=>!hasK st x):=by unfold freshM;rw [hC]
 rw [hC] at HCO HCL
 rw [hF]
 clear hl hM hC hF hnm
 go_enter Tryz.func100,Tryz.ntmps100
 go_wp2_with (go_at_call 161;go_must (refine HCO.out.mono ?_;rintro e w1 ⟨qc,dc,rfl,Z⟩;have S0:=Lib.hid (Z.nilrow 138 4);clear Z))
 clear HCO
 go_loopw [6,7] (fun v i wr=>∃ (j m:Nat) (q:Option Addr) (d:Nat),j≤C.length∧m≤j∧i=.int .i64 j∧v=.slice q m d∧Sep w wr [.own 138 4 q m d (encQ ((C.take j).filter (fun x=>!hasK st x))),.own 138 4 qc C.length dc (encQ C)]) (fun _ i _=>C.length - (intOf i).toNat)
 case atStart=>exact⟨0,0,none,0,Nat.zero_le _,Nat.le_refl _,rfl,rfl,S0.out⟩
 case round =>
  clear S0
  obtain⟨j,m,q,d,hj,hmj,rfl,rfl,S⟩:=hrel
  have pc:=(S.rdx 1 rfl).ptr
  have nc:=(S.rdx 1 rfl).small
  by_cases hlt:j<C.length
  ·obtain⟨g1,g2,g3,g4⟩:=(S.rdx 1 rfl).cQ hlt
   have HFS:=Lib.hid (fresh_snoc (st:=st) hlt)
   have d1:(0:Int)≤j:=by omega
   have d2:(j:Int)<C.length:=by omega
   have HCU:Hid (∀ W,Rd W 4 qc C.length (encQ C)→W.cell? (adr qc (j*4))=some (.int .i64 (nth C j).s)∧W.cell? (adr qc (j*4+1))=some (.int .i64 (nth C j).r)∧W.cell? (adr qc (j*4+2))=some (.int .i64 (nth C j).v)∧W.cell? (adr qc (j*4+3))=some (.int .i64 (nth C j).d)):=fun W hr=>hr.cQ hlt
   generalize nth C j=y at *
   have HTY:=Lib.hid (HTH.out y wr S.ext)
   have SH:=Lib.hid S
   have hCL:=HCL.out
   clear S
   cases hy:hasK st y with
   | true =>
    rw [hy] at HTY HFS
    rw [if_pos rfl,List.append_nil] at HFS
    clear hy
    go_wp2_with (go_at_call 162;go_must (refine HTY.out.mono ?_;rintro e w3 ⟨rfl,hb⟩;have S3:=Lib.hid (SH.out.call hb);clear hb))
    go_roundw
    case rel=>exact⟨j+1,m,q,d,by omega,by omega,by go_num,rfl,by rw [HFS.out];exact S3.out⟩
    case measure=>simp [intOf];omega
   | false =>
    rw [hy] at HTY HFS
    rw [if_neg (by simp)] at HFS
    clear hy g4
    go_wp2_with (first
     | (at_builtin;have _t:=S3;go_must (refine wpList_append_sep rfl _ _ _ rfl 138 i0 _ 4 32 Tryz.underlying83 hi0 hz0 hz1 hz2 rfl (by omega) (S3.out.junk _) 0 q m d _ rfl rfl _ 1 1 _ rfl (Rd.oneQ _ _ y) (one_encQ _) (by omega) (by omega) ?_;intro q7 c7 w7 S' hsz;have S4:=Lib.hid S';clear S' hsz))
     | (go_at_call 162;go_must (refine HTY.out.mono ?_;rintro e w3 ⟨rfl,hb⟩;have S3:=Lib.hid (SH.out.call hb);obtain⟨k1,k2,k3,k4⟩:=HCU.out _ (S3.out.rdx 1 rfl);clear hb)))
    go_roundw
    case rel=>exact⟨j+1,m+1,q7,c7,by omega,by omega,by go_num,rfl,by rw [HFS.out,encQ_append];exact S4.out.pick [0,1] (by decide) rfl⟩
    case measure=>simp [intOf];omega
  ·obtain rfl:j=C.length:=by omega
   rw [List.take_length] at S
   have HML:Hid (m=(C.filter (fun x=>!hasK st x)).length):=(S.rdx 0 rfl).nQ
   have S2:=Lib.hid S
   clear S
   go_wp2
   go_ret
   exact⟨q,d,ret_slc HML.out,by rw [← HML.out];exact S2.out.pick [0] (by decide) rfl⟩
end
section
open Go Go.RowKit
attribute [local go_sem] Oper.semAt_some
theorem Next18 (k f t:Int) (pw:Option Addr) (nw cw:Nat) (rad most:Int) (po:Option Addr) (no co:Nat) (O:List Int) (pt:Option Addr) (nt ct:Nat) (T:List Int) (pr:Option Addr) (nr cr:Nat) (R:List Int) (pv:Option Addr) (nv cv:Nat) (V:List Int) (w:World) (s r v d:Int) (hO:Rd w 1 po no (encI O)) (hT:Rd w 1 pt nt (encI T)) (hR:Rd w 1 pr nr (encI R)) (hV:Rd w 1 pv nv (encI V)) (hct:nt≤ct) (hcv:nv≤cv) (hb:∀ v,checkR O T R V=true→(outL (checkR O T R V) O T v).length≤100000∧(outL (checkR O T R V) R V v).length≤100000) :
  Calls Tryz.prog 101 #[.agg #[.int .i64 k,.int .i64 f,.int .i64 t,.slice pw nw cw,.int .i64 rad,.int .i64 most],.agg #[.slice po no co,.slice pt nt ct,.slice pr nr cr,.slice pv nv cv],.agg #[.int .i64 s,.int .i64 r,.int .i64 v,.int .i64 d]] w fun e w'=>∃ q c,e=.returned (.tuple #[.slice q (nextL k rad (checkR O T R V) O T R V ⟨s,r,v,d⟩).length c,.int .i64 (nextC (checkR O T R V) O R ⟨s,r,v,d⟩)])∧Sep w w' [.own 138 4 q (nextL k rad (checkR O T R V) O T R V ⟨s,r,v,d⟩).length c (encQ (nextL k rad (checkR O T R V) O T R V ⟨s,r,v,d⟩))]:=by
 obtain⟨i0,hi0,hz0,hz1,hz2⟩:=info_parts infMail
 have S0:=Lib.hid ((((Sep.start w).al #[.int .i64 k,.int .i64 f,.int .i64 t,.slice pw nw cw,.int .i64 rad,.int .i64 most] 24 w.heap.size rfl).al #[.slice po no co,.slice pt nt ct,.slice pr nr cr,.slice pv nv cv] 27 (w.heap.size+1) (by simp)).al #[.int .i64 s,.int .i64 r,.int .i64 v,.int .i64 d] 146 (w.heap.size+1+1) (by simp))
 have HC:=Lib.hid (fun W1 (h:Ext w W1)=>Check04 po no co O pt nt ct T pr nr cr R pv nv cv V W1 (hO.ext h) (hT.ext h) (hR.ext h) (hV.ext h) hct hcv)
 have HG:=Lib.hid (fun W1 (h:Ext w W1)=>Out04 po no co O pt nt ct T pr nr cr R pv nv cv V W1 v (hO.ext h) (hT.ext h) (hR.ext h) (hV.ext h) hct hcv)
 have HI:=Lib.hid (fun W1 (h:Ext w W1)=>In04 po no co O pt nt ct T pr nr cr R pv nv cv V W1 v (hO.ext h) (hT.ext h) (hR.ext h) (hV.ext h) hct hcv)
 have hOn:=hO.nI
 have hOs:=hO.small
 unfold nextL nextC
 cases hck:checkR O T R V with
 | false =>
  rw [hck] at HC
  rw [nxC_40,nxL_no (Or.inl (by decide))]
  clear hO hT hR hV hck hb HG HI hOn
  go_enter Tryz.func101,Tryz.ntmps101
  go_wp2_with (go_at_call 96;go_must (refine(HC.out _ S0.out.ext).mono ?_;rintro e w1 ⟨rfl,hb⟩;have S1:=Lib.hid (S0.out.call hb);obtain⟨y0,y1,y2,y3,yz⟩:=bkc0c1c2c3l (S1.out.blk 0 rfl);obtain⟨b0,b1,b2,b3,bz⟩:=bkc0c1c2c3l (S1.out.blk 1 rfl);obtain⟨a0,a4,az⟩:=bkc0c4l (S1.out.blk 2 rfl);clear hb))
  go_ret2
  exact⟨none,0,rfl,(S1.out.nilrow _ _).pick [0] (by decide) rfl⟩
 | true =>
  obtain⟨hor,_⟩:=checkR_half hck
  have hbL:=hb v hck
  rw [hck] at HC HG HI hbL
  clear hO hT hR hV hck hb
  have HB:Hid (outB true (if r=1 then R else O) v=(decide (0≤v) && decide (v<(no:Int) - 1))):=by
   unfold Hid outB
   split
   ·rw [← hor,← hOn];rfl
   ·rw [← hOn];rfl
  by_cases hbad:r<0∨1<r∨v<0∨(no:Int) - 1≤v∨d<0∨200<d
  ·have hN:nxC true (outB true (if r=1 then R else O) v) ⟨s,r,v,d⟩=1:=by
    refine nxC_1 fun h=>?_
    rw [HB.out,Bool.and_eq_true,decide_eq_true_eq,decide_eq_true_eq] at h
    simp only at h
    omega
   simp only [hN]
   rw [nxL_no (Or.inl (by decide))]
   clear hN HB hbL HG HI hor hOn
   by_cases g1:r<0
   ·clear hbad
    go_enter Tryz.func101,Tryz.ntmps101
    go_wp2_with (go_at_call 96;go_must (refine(HC.out _ S0.out.ext).mono ?_;rintro e w1 ⟨rfl,hb⟩;have S1:=Lib.hid ((S0.out.call hb).al #[.int .i64 s,.int .i64 r,.int .i64 v] 136 w1.heap.size rfl);have S1':=Lib.hid (S0.out.call hb);obtain⟨y0,y1,y2,y3,yz⟩:=bkc0c1c2c3l (S1'.out.blk 0 rfl);obtain⟨b0,b1,b2,b3,bz⟩:=bkc0c1c2c3l (S1'.out.blk 1 rfl);obtain⟨a0,a4,az⟩:=bkc0c4l (S1'.out.blk 2 rfl);clear hb S1'))
    go_ret2
    exact⟨none,0,rfl,(S1.out.nilrow _ _).pick [0] (by decide) rfl⟩
   ·have f1:decide (r<0)=false:=by simpa using g1
    by_cases g2:1<r
    ·have f2:decide (1<r)=true:=by simpa using g2
     clear hbad
     go_enter Tryz.func101,Tryz.ntmps101
     go_wp2_with (go_at_call 96;go_must (refine(HC.out _ S0.out.ext).mono ?_;rintro e w1 ⟨rfl,hb⟩;have S1:=Lib.hid ((S0.out.call hb).al #[.int .i64 s,.int .i64 r,.int .i64 v] 136 w1.heap.size rfl);have S1':=Lib.hid (S0.out.call hb);obtain⟨y0,y1,y2,y3,yz⟩:=bkc0c1c2c3l (S1'.out.blk 0 rfl);obtain⟨b0,b1,b2,b3,bz⟩:=bkc0c1c2c3l (S1'.out.blk 1 rfl);obtain⟨a0,a4,az⟩:=bkc0c4l (S1'.out.blk 2 rfl);clear hb S1'))
     go_ret2
     exact⟨none,0,rfl,(S1.out.nilrow _ _).pick [0] (by decide) rfl⟩
    ·have f2:decide (1<r)=false:=by simpa using g2
     by_cases g3:v<0
     ·clear hbad
      go_enter Tryz.func101,Tryz.ntmps101
      go_wp2_with (go_at_call 96;go_must (refine(HC.out _ S0.out.ext).mono ?_;rintro e w1 ⟨rfl,hb⟩;have S1:=Lib.hid ((S0.out.call hb).al #[.int .i64 s,.int .i64 r,.int .i64 v] 136 w1.heap.size rfl);have S1':=Lib.hid (S0.out.call hb);obtain⟨y0,y1,y2,y3,yz⟩:=bkc0c1c2c3l (S1'.out.blk 0 rfl);obtain⟨b0,b1,b2,b3,bz⟩:=bkc0c1c2c3l (S1'.out.blk 1 rfl);obtain⟨a0,a4,az⟩:=bkc0c4l (S1'.out.blk 2 rfl);clear hb S1'))
      go_ret2
      exact⟨none,0,rfl,(S1.out.nilrow _ _).pick [0] (by decide) rfl⟩
     ·have f3:decide (v<0)=false:=by simpa using g3
      by_cases g4:(no:Int) - 1≤v
      ·have f4:decide ((no:Int) - 1≤v)=true:=by simpa using g4
       clear hbad
       go_enter Tryz.func101,Tryz.ntmps101
       go_wp2_with (go_at_call 96;go_must (refine(HC.out _ S0.out.ext).mono ?_;rintro e w1 ⟨rfl,hb⟩;have S1:=Lib.hid ((S0.out.call hb).al #[.int .i64 s,.int .i64 r,.int .i64 v] 136 w1.heap.size rfl);have S1':=Lib.hid (S0.out.call hb);obtain⟨y0,y1,y2,y3,yz⟩:=bkc0c1c2c3l (S1'.out.blk 0 rfl);obtain⟨b0,b1,b2,b3,bz⟩:=bkc0c1c2c3l (S1'.out.blk 1 rfl);obtain⟨a0,a4,az⟩:=bkc0c4l (S1'.out.blk 2 rfl);clear hb S1'))
       go_ret2
       exact⟨none,0,rfl,(S1.out.nilrow _ _).pick [0] (by decide) rfl⟩
      ·have f4:decide ((no:Int) - 1≤v)=false:=by simpa using g4
       by_cases g5:d<0
       ·clear hbad
        go_enter Tryz.func101,Tryz.ntmps101
        go_wp2_with (go_at_call 96;go_must (refine(HC.out _ S0.out.ext).mono ?_;rintro e w1 ⟨rfl,hb⟩;have S1:=Lib.hid ((S0.out.call hb).al #[.int .i64 s,.int .i64 r,.int .i64 v] 136 w1.heap.size rfl);have S1':=Lib.hid (S0.out.call hb);obtain⟨y0,y1,y2,y3,yz⟩:=bkc0c1c2c3l (S1'.out.blk 0 rfl);obtain⟨b0,b1,b2,b3,bz⟩:=bkc0c1c2c3l (S1'.out.blk 1 rfl);obtain⟨a0,a4,az⟩:=bkc0c4l (S1'.out.blk 2 rfl);clear hb S1'))
        go_ret2
        exact⟨none,0,rfl,(S1.out.nilrow _ _).pick [0] (by decide) rfl⟩
       ·have f5:decide (d<0)=false:=by simpa using g5
        have f6:decide (200<d)=true:=by simp;omega
        clear hbad
        go_enter Tryz.func101,Tryz.ntmps101
        go_wp2_with (go_at_call 96;go_must (refine(HC.out _ S0.out.ext).mono ?_;rintro e w1 ⟨rfl,hb⟩;have S1:=Lib.hid ((S0.out.call hb).al #[.int .i64 s,.int .i64 r,.int .i64 v] 136 w1.heap.size rfl);have S1':=Lib.hid (S0.out.call hb);obtain⟨y0,y1,y2,y3,yz⟩:=bkc0c1c2c3l (S1'.out.blk 0 rfl);obtain⟨b0,b1,b2,b3,bz⟩:=bkc0c1c2c3l (S1'.out.blk 1 rfl);obtain⟨a0,a4,az⟩:=bkc0c4l (S1'.out.blk 2 rfl);clear hb S1'))
        go_ret2
        exact⟨none,0,rfl,(S1.out.nilrow _ _).pick [0] (by decide) rfl⟩
  ·have f1:decide (r<0)=false:=by simp;omega
   have f2:decide (1<r)=false:=by simp;omega
   have f3:decide (v<0)=false:=by simp;omega
   have f4:decide ((no:Int) - 1≤v)=false:=by simp;omega
   have f5:decide (d<0)=false:=by simp;omega
   have f6:decide (200<d)=false:=by simp;omega
   have hN:nxC true (outB true (if r=1 then R else O) v) ⟨s,r,v,d⟩=0:=by
    refine nxC_0 ?_
    rw [HB.out,Bool.and_eq_true,decide_eq_true_eq,decide_eq_true_eq]
    simp only
    omega
   simp only [hN]
   by_cases h3:k=3∧rad≤d
   ·rw [nxL_no (Or.inr h3)]
    obtain⟨rfl,h3⟩:=h3
    clear hN HB hbL HG HI hor hOn hbad
    go_enter Tryz.func101,Tryz.ntmps101
    go_wp2_with (go_at_call 96;go_must (refine(HC.out _ S0.out.ext).mono ?_;rintro e w1 ⟨rfl,hb⟩;have S1:=Lib.hid ((S0.out.call hb).al #[.int .i64 s,.int .i64 r,.int .i64 v] 136 w1.heap.size rfl);have S1':=Lib.hid (S0.out.call hb);obtain⟨y0,y1,y2,y3,yz⟩:=bkc0c1c2c3l (S1'.out.blk 0 rfl);obtain⟨b0,b1,b2,b3,bz⟩:=bkc0c1c2c3l (S1'.out.blk 1 rfl);obtain⟨a0,a4,az⟩:=bkc0c4l (S1'.out.blk 2 rfl);clear hb S1'))
    go_ret2
    exact⟨none,0,rfl,(S1.out.nilrow _ _).pick [0] (by decide) rfl⟩
   ·rw [nxL_yes rfl h3,List.length_map]
    have H3:Hid (k=3→d<rad):=fun e=>Int.not_le.1 fun h=>h3 ⟨e,h⟩
    have hk3:(k == 3)=true∧decide (rad≤d)=false∨(k == 3)=false:=by
     by_cases e:k=3
     ·exact .inl ⟨by simpa using e,by simpa using H3.out e⟩
     ·exact .inr (by simpa using e)
    have hd0:0≤d:=by omega
    have hd1:d≤200:=by omega
    have hr01:r=0∨r=1:=by omega
    clear H3 h3 hN HB hor hOn hbad
    rcases hr01 with hr | hr
    ·simp only [show ¬ (r=1) from by omega,if_false]
     have e1:(r == 1)=false:=by rw [hr];rfl
     have HL:=Lib.hid hbL.1
     clear hbL HI hr
     generalize outL true O T v=L at *
     generalize outB true O v=ob at *
     rcases hk3 with ⟨k3,k4⟩ | k3
     ·obtain rfl:k=3:=by simpa using k3
      clear k3
      go_enter Tryz.func101,Tryz.ntmps101
      go_wp2_with (first | (go_at_call 163;go_must (refine(HG.out _ S1.out.ext).mono ?_;rintro e w2 ⟨q,c,rfl,Z⟩;have S2:=Lib.hid (S1.out.comp Z);clear y0 y1 y2 y3 yz b0 b1 b2 b3 bz a0 a4 az;obtain⟨y0,y1,y2,y3,yz⟩:=bkc0c1c2c3l (S2.out.blk 2 rfl);obtain⟨b0,b1,b2,b3,bz⟩:=bkc0c1c2c3l (S2.out.blk 3 rfl);obtain⟨a0,a4,az⟩:=bkc0c4l (S2.out.blk 4 rfl);obtain⟨e0,e1,e2,ez⟩:=bkc0c1c2l (S2.out.blk 1 rfl);clear Z)) | (go_at_call 96;go_must (refine(HC.out _ S0.out.ext).mono ?_;rintro e w1 ⟨rfl,hb⟩;have S1:=Lib.hid ((S0.out.call hb).al #[.int .i64 s,.int .i64 r,.int .i64 v] 136 w1.heap.size rfl);have S1':=Lib.hid (S0.out.call hb);obtain⟨y0,y1,y2,y3,yz⟩:=bkc0c1c2c3l (S1'.out.blk 0 rfl);obtain⟨b0,b1,b2,b3,bz⟩:=bkc0c1c2c3l (S1'.out.blk 1 rfl);obtain⟨a0,a4,az⟩:=bkc0c4l (S1'.out.blk 2 rfl);clear hb S1')))
      have S9:=Lib.hid ((S2.out.nilrow 138 4).pick [0,1,2,3] (by decide) rfl:Sep w _ [.own 138 4 none 0 0 [],.own 3 1 q L.length c (encI L),.blk w1.heap.size 136 #[.int .i64 s,.int .i64 r,.int .i64 v],.blk (w.heap.size+1+1) 146 #[.int .i64 s,.int .i64 r,.int .i64 v,.int .i64 d]])
      clear S0 S1 S2 HC HG
      go_loopw [13,14] (fun m i wr=>∃ (j:Nat) (q':Option Addr) (c':Nat),j≤L.length∧i=.int .i64 j∧m=.slice q' j c'∧Sep w wr [.own 138 4 q' j c' (encQ ((L.take j).map fun v=>(⟨s,r,v,d+1⟩:Sq))),.own 3 1 q L.length c (encI L),.blk w1.heap.size 136 #[.int .i64 s,.int .i64 r,.int .i64 v],.blk (w.heap.size+1+1) 146 #[.int .i64 s,.int .i64 r,.int .i64 v,.int .i64 d]]) (fun _ i _=>L.length - (intOf i).toNat)
      case atStart=>exact⟨0,none,0,Nat.zero_le _,rfl,rfl,S9.out⟩
      case round =>
       clear S9
       obtain⟨j,q',c',hj,rfl,rfl,S⟩:=hrel
       by_cases hlt:j<L.length
       ·have g1:=(S.rdx 1 rfl).cI hlt
        have pq:=(S.rdx 1 rfl).ptr
        have pn:=(S.rdx 1 rfl).small
        have HT:=Lib.hid (take_succ_nth L j hlt)
        have HCU:Hid (∀ W,Rd W 1 q L.length (encI L)→W.cell? (adr q j)=some (.int .i64 (nth L j))):=fun W hr=>hr.cI hlt
        have d1:(0:Int)≤j:=by omega
        have d2:(j:Int)<L.length:=by omega
        have hl:=HL.out
        have hwd:IntKind.i64.wrap (d+1)=d+1:=IntWalk.i64_in _ (by omega)
        have SH:=Lib.hid S;clear S
        generalize nth L j=u at *
        clear g1
        go_wp2
        have k1:wr.cell? ⟨w1.heap.size,0,none⟩=some (.int .i64 s):=(SH.out.blk 2 rfl).cell 0
        have k2:wr.cell? ⟨w1.heap.size,1,none⟩=some (.int .i64 r):=(SH.out.blk 2 rfl).cell 1
        have k3:=HCU.out _ (SH.out.rdx 1 rfl)
        have k4:wr.cell? ⟨w.heap.size+1+1,3,none⟩=some (.int .i64 d):=(SH.out.blk 3 rfl).cell 3
        refine wp_region_noPanic ?_
        refine wp_region_held_drew (S:=fun w'=>w'.cell? ⟨w1.heap.size,0,none⟩=some (.int .i64 s)∧w'.cell? ⟨w1.heap.size,1,none⟩=some (.int .i64 r)∧w'.cell? (adr q j)=some (.int .i64 u)∧w'.cell? ⟨w.heap.size+1+1,3,none⟩=some (.int .i64 d)) (by kernel_rfl) ⟨k1,k2,k3,k4⟩ (fun hHeld=>?_)
        clear k1 k2 k3 k4
        have SD:=Lib.hid SH.out.drew
        clear SH
        generalize wr.drew=D at SD hHeld ⊢
        refine wpAnyH_take (i:=0) (v:=.slice q' j c') rfl (by kernel_rfl) (by kernel_rfl) (by kernel_rfl) (noPanic_q _ _) (Or.inl ⟨by kernel_rfl,fun W hSw=>by obtain⟨h1,h2,h3,h4⟩:=hSw;go_simp⟩) hHeld ?_
        refine wpAnyH_take (i:=1) (v:=.pointer (some ⟨w1.heap.size,0,none⟩)) rfl (by kernel_rfl) (by kernel_rfl) (by kernel_rfl) (noPanic_q _ _) (Or.inl ⟨by kernel_rfl,fun W hSw=>by obtain⟨h1,h2,h3,h4⟩:=hSw;go_simp⟩) hHeld ?_
        refine wpAnyH_take (i:=2) (v:=.int .i64 s) rfl (by kernel_rfl) (by kernel_rfl) (by kernel_rfl) (noPanic_q _ _) (Or.inl ⟨by kernel_rfl,fun W hSw=>by obtain⟨h1,h2,h3,h4⟩:=hSw;go_simp⟩) hHeld ?_
        refine wpAnyH_take (i:=3) (v:=.pointer (some ⟨w1.heap.size,1,none⟩)) rfl (by kernel_rfl) (by kernel_rfl) (by kernel_rfl) (noPanic_q _ _) (Or.inl ⟨by kernel_rfl,fun W hSw=>by obtain⟨h1,h2,h3,h4⟩:=hSw;go_simp⟩) hHeld ?_
        refine wpAnyH_take (i:=4) (v:=.int .i64 r) rfl (by kernel_rfl) (by kernel_rfl) (by kernel_rfl) (noPanic_q _ _) (Or.inl ⟨by kernel_rfl,fun W hSw=>by obtain⟨h1,h2,h3,h4⟩:=hSw;go_simp⟩) hHeld ?_
        refine wpAnyH_take (i:=5) (v:=.slice q L.length c) rfl (by kernel_rfl) (by kernel_rfl) (by kernel_rfl) (noPanic_q _ _) (Or.inl ⟨by kernel_rfl,fun W hSw=>by obtain⟨h1,h2,h3,h4⟩:=hSw;go_simp⟩) hHeld ?_
        refine wpAnyH_take (i:=6) (v:=.int .i64 (j:Int)) rfl (by kernel_rfl) (by kernel_rfl) (by kernel_rfl) (noPanic_q _ _) (Or.inl ⟨by kernel_rfl,fun W hSw=>by obtain⟨h1,h2,h3,h4⟩:=hSw;go_simp⟩) hHeld ?_
        refine wpAnyH_take (i:=7) (v:=.pointer (some (adr q j))) rfl (by kernel_rfl) (by kernel_rfl) (by kernel_rfl) (noPanic_q _ _) (Or.inl ⟨by kernel_rfl,fun W hSw=>by obtain⟨h1,h2,h3,h4⟩:=hSw;go_simp⟩) hHeld ?_
        refine wpAnyH_take (i:=8) (v:=.int .i64 u) rfl (by kernel_rfl) (by kernel_rfl) (by kernel_rfl) (noPanic_q _ _) (Or.inl ⟨by kernel_rfl,fun W hSw=>by obtain⟨h1,h2,h3,h4⟩:=hSw;go_simp⟩) hHeld ?_
        refine wpAnyH_take (i:=9) (v:=.agg #[.int .i64 s,.int .i64 r,.int .i64 u]) rfl (by kernel_rfl) (by kernel_rfl) (by kernel_rfl) (noPanic_q _ _) (Or.inl ⟨by kernel_rfl,fun W hSw=>by obtain⟨h1,h2,h3,h4⟩:=hSw;go_simp⟩) hHeld ?_
        refine wpAnyH_take (i:=10) (v:=.pointer (some ⟨w.heap.size+1+1,3,none⟩)) rfl (by kernel_rfl) (by kernel_rfl) (by kernel_rfl) (noPanic_q _ _) (Or.inl ⟨by kernel_rfl,fun W hSw=>by obtain⟨h1,h2,h3,h4⟩:=hSw;go_simp⟩) hHeld ?_
        refine wpAnyH_take (i:=11) (v:=.int .i64 d) rfl (by kernel_rfl) (by kernel_rfl) (by kernel_rfl) (noPanic_q _ _) (Or.inl ⟨by kernel_rfl,fun W hSw=>by obtain⟨h1,h2,h3,h4⟩:=hSw;go_simp⟩) hHeld ?_
        refine wpAnyH_take (i:=12) (v:=.int .i64 (d+1)) rfl (by kernel_rfl) (by kernel_rfl) (by kernel_rfl) (noPanic_q _ _) (Or.inl ⟨by kernel_rfl,fun W hSw=>by obtain⟨h1,h2,h3,h4⟩:=hSw;go_simp⟩) hHeld ?_
        refine wpAnyH_take (i:=13) (v:=.agg #[.int .i64 s,.int .i64 r,.int .i64 u,.int .i64 (d+1)]) rfl (by kernel_rfl) (by kernel_rfl) (by kernel_rfl) (noPanic_q _ _) (Or.inl ⟨by kernel_rfl,fun W hSw=>by obtain⟨h1,h2,h3,h4⟩:=hSw;go_simp⟩) hHeld ?_
        have SA:=Lib.hid (SD.out.alrw #[.int .i64 s,.int .i64 r,.int .i64 u,.int .i64 (d+1)] 138 4 1 D.heap.size rfl (by decide) rfl)
        obtain⟨q7,c7,w7,hrun,S'⟩:=SA.out.appended 1 83 83 138 i0 _ 4 32 Tryz.underlying83 hi0 hz0 hz1 hz2 rfl (by omega) q' j c' (encQ ((L.take j).map fun v=>(⟨s,r,v,d+1⟩:Sq))) rfl (some ⟨D.heap.size,0,none⟩) 1 1 (encQ [⟨s,r,u,d+1⟩]) (SA.out.rdx 0 rfl) (one_encQ _) (by omega) (by omega)
        have S7:=Lib.hid S'
        refine wpAnyH_ready (rs:=[14]) (by kernel_rfl) (by simp) (AllReadyH.cons rfl (fun K hK=>?_) AllReadyH.nil)
        go_simp
        refine hK.out _ _ ⟨(SA.out.blk 3 rfl).cell 0,(SA.out.blk 3 rfl).cell 1,HCU.out _ (SA.out.rdx 2 rfl),(SA.out.blk 4 rfl).cell 3⟩ (fun hHeld=>?_)
        clear hK
        refine wpAnyH_ready (rs:=[15]) (by kernel_rfl) (by simp) (AllReadyH.cons rfl (fun K hK=>?_) AllReadyH.nil)
        rw [if_pos (by rfl)]
        refine operwp_append (.tmp 86) (.tmp 100) 83 (by rfl) (by rfl) (by rfl) hrun ?_
        refine hK.out _ _ ⟨(S7.out.blk 3 rfl).cell 0,(S7.out.blk 3 rfl).cell 1,HCU.out _ (S7.out.rdx 2 rfl),(S7.out.blk 4 rfl).cell 3⟩ (fun hHeld=>?_)
        clear hK
        refine wpAnyH_take (i:=16) (v:=.slice q7 (j+1) c7) rfl (by kernel_rfl) (by kernel_rfl) (by kernel_rfl) (noPanic_q _ _) (Or.inl ⟨by kernel_rfl,fun W hSw=>by obtain⟨h1,h2,h3,h4⟩:=hSw;go_simp⟩) hHeld ?_
        refine wpAnyH_done (by kernel_rfl) ?_ _
        refine noPanic_mk ?_
        clear hHeld hrun S'
        try simp [Act.put]
        go_wp2
        go_roundw
        case rel=>exact⟨j+1,q7,c7,by omega,by go_num,rfl,by rw [HT.out,List.map_append,encQ_append];exact S7.out.pick [1,2,3,4] (by decide) rfl⟩
        case measure=>simp [intOf];omega
       ·obtain rfl:j=L.length:=by omega
        rw [List.take_length] at S
        have SH:=Lib.hid S;clear S
        go_wp2
        go_ret2
        exact⟨q',c',rfl,SH.out.pick [0] (by decide) rfl⟩
     ·go_enter Tryz.func101,Tryz.ntmps101
      go_wp2_with (first | (go_at_call 163;go_must (refine(HG.out _ S1.out.ext).mono ?_;rintro e w2 ⟨q,c,rfl,Z⟩;have S2:=Lib.hid (S1.out.comp Z);clear y0 y1 y2 y3 yz b0 b1 b2 b3 bz a0 a4 az;obtain⟨y0,y1,y2,y3,yz⟩:=bkc0c1c2c3l (S2.out.blk 2 rfl);obtain⟨b0,b1,b2,b3,bz⟩:=bkc0c1c2c3l (S2.out.blk 3 rfl);obtain⟨a0,a4,az⟩:=bkc0c4l (S2.out.blk 4 rfl);obtain⟨e0,e1,e2,ez⟩:=bkc0c1c2l (S2.out.blk 1 rfl);clear Z)) | (go_at_call 96;go_must (refine(HC.out _ S0.out.ext).mono ?_;rintro e w1 ⟨rfl,hb⟩;have S1:=Lib.hid ((S0.out.call hb).al #[.int .i64 s,.int .i64 r,.int .i64 v] 136 w1.heap.size rfl);have S1':=Lib.hid (S0.out.call hb);obtain⟨y0,y1,y2,y3,yz⟩:=bkc0c1c2c3l (S1'.out.blk 0 rfl);obtain⟨b0,b1,b2,b3,bz⟩:=bkc0c1c2c3l (S1'.out.blk 1 rfl);obtain⟨a0,a4,az⟩:=bkc0c4l (S1'.out.blk 2 rfl);clear hb S1')))
      have S9:=Lib.hid ((S2.out.nilrow 138 4).pick [0,1,2,3] (by decide) rfl:Sep w _ [.own 138 4 none 0 0 [],.own 3 1 q L.length c (encI L),.blk w1.heap.size 136 #[.int .i64 s,.int .i64 r,.int .i64 v],.blk (w.heap.size+1+1) 146 #[.int .i64 s,.int .i64 r,.int .i64 v,.int .i64 d]])
      clear S0 S1 S2 HC HG
      go_loopw [13,14] (fun m i wr=>∃ (j:Nat) (q':Option Addr) (c':Nat),j≤L.length∧i=.int .i64 j∧m=.slice q' j c'∧Sep w wr [.own 138 4 q' j c' (encQ ((L.take j).map fun v=>(⟨s,r,v,d+1⟩:Sq))),.own 3 1 q L.length c (encI L),.blk w1.heap.size 136 #[.int .i64 s,.int .i64 r,.int .i64 v],.blk (w.heap.size+1+1) 146 #[.int .i64 s,.int .i64 r,.int .i64 v,.int .i64 d]]) (fun _ i _=>L.length - (intOf i).toNat)
      case atStart=>exact⟨0,none,0,Nat.zero_le _,rfl,rfl,S9.out⟩
      case round =>
       clear S9
       obtain⟨j,q',c',hj,rfl,rfl,S⟩:=hrel
       by_cases hlt:j<L.length
       ·have g1:=(S.rdx 1 rfl).cI hlt
        have pq:=(S.rdx 1 rfl).ptr
        have pn:=(S.rdx 1 rfl).small
        have HT:=Lib.hid (take_succ_nth L j hlt)
        have HCU:Hid (∀ W,Rd W 1 q L.length (encI L)→W.cell? (adr q j)=some (.int .i64 (nth L j))):=fun W hr=>hr.cI hlt
        have d1:(0:Int)≤j:=by omega
        have d2:(j:Int)<L.length:=by omega
        have hl:=HL.out
        have hwd:IntKind.i64.wrap (d+1)=d+1:=IntWalk.i64_in _ (by omega)
        have SH:=Lib.hid S;clear S
        generalize nth L j=u at *
        clear g1
        go_wp2
        have k1:wr.cell? ⟨w1.heap.size,0,none⟩=some (.int .i64 s):=(SH.out.blk 2 rfl).cell 0
        have k2:wr.cell? ⟨w1.heap.size,1,none⟩=some (.int .i64 r):=(SH.out.blk 2 rfl).cell 1
        have k3:=HCU.out _ (SH.out.rdx 1 rfl)
        have k4:wr.cell? ⟨w.heap.size+1+1,3,none⟩=some (.int .i64 d):=(SH.out.blk 3 rfl).cell 3
        refine wp_region_noPanic ?_
        refine wp_region_held_drew (S:=fun w'=>w'.cell? ⟨w1.heap.size,0,none⟩=some (.int .i64 s)∧w'.cell? ⟨w1.heap.size,1,none⟩=some (.int .i64 r)∧w'.cell? (adr q j)=some (.int .i64 u)∧w'.cell? ⟨w.heap.size+1+1,3,none⟩=some (.int .i64 d)) (by kernel_rfl) ⟨k1,k2,k3,k4⟩ (fun hHeld=>?_)
        clear k1 k2 k3 k4
        have SD:=Lib.hid SH.out.drew
        clear SH
        generalize wr.drew=D at SD hHeld ⊢
        refine wpAnyH_take (i:=0) (v:=.slice q' j c') rfl (by kernel_rfl) (by kernel_rfl) (by kernel_rfl) (noPanic_q _ _) (Or.inl ⟨by kernel_rfl,fun W hSw=>by obtain⟨h1,h2,h3,h4⟩:=hSw;go_simp⟩) hHeld ?_
        refine wpAnyH_take (i:=1) (v:=.pointer (some ⟨w1.heap.size,0,none⟩)) rfl (by kernel_rfl) (by kernel_rfl) (by kernel_rfl) (noPanic_q _ _) (Or.inl ⟨by kernel_rfl,fun W hSw=>by obtain⟨h1,h2,h3,h4⟩:=hSw;go_simp⟩) hHeld ?_
        refine wpAnyH_take (i:=2) (v:=.int .i64 s) rfl (by kernel_rfl) (by kernel_rfl) (by kernel_rfl) (noPanic_q _ _) (Or.inl ⟨by kernel_rfl,fun W hSw=>by obtain⟨h1,h2,h3,h4⟩:=hSw;go_simp⟩) hHeld ?_
        refine wpAnyH_take (i:=3) (v:=.pointer (some ⟨w1.heap.size,1,none⟩)) rfl (by kernel_rfl) (by kernel_rfl) (by kernel_rfl) (noPanic_q _ _) (Or.inl ⟨by kernel_rfl,fun W hSw=>by obtain⟨h1,h2,h3,h4⟩:=hSw;go_simp⟩) hHeld ?_
        refine wpAnyH_take (i:=4) (v:=.int .i64 r) rfl (by kernel_rfl) (by kernel_rfl) (by kernel_rfl) (noPanic_q _ _) (Or.inl ⟨by kernel_rfl,fun W hSw=>by obtain⟨h1,h2,h3,h4⟩:=hSw;go_simp⟩) hHeld ?_
        refine wpAnyH_take (i:=5) (v:=.slice q L.length c) rfl (by kernel_rfl) (by kernel_rfl) (by kernel_rfl) (noPanic_q _ _) (Or.inl ⟨by kernel_rfl,fun W hSw=>by obtain⟨h1,h2,h3,h4⟩:=hSw;go_simp⟩) hHeld ?_
        refine wpAnyH_take (i:=6) (v:=.int .i64 (j:Int)) rfl (by kernel_rfl) (by kernel_rfl) (by kernel_rfl) (noPanic_q _ _) (Or.inl ⟨by kernel_rfl,fun W hSw=>by obtain⟨h1,h2,h3,h4⟩:=hSw;go_simp⟩) hHeld ?_
        refine wpAnyH_take (i:=7) (v:=.pointer (some (adr q j))) rfl (by kernel_rfl) (by kernel_rfl) (by kernel_rfl) (noPanic_q _ _) (Or.inl ⟨by kernel_rfl,fun W hSw=>by obtain⟨h1,h2,h3,h4⟩:=hSw;go_simp⟩) hHeld ?_
        refine wpAnyH_take (i:=8) (v:=.int .i64 u) rfl (by kernel_rfl) (by kernel_rfl) (by kernel_rfl) (noPanic_q _ _) (Or.inl ⟨by kernel_rfl,fun W hSw=>by obtain⟨h1,h2,h3,h4⟩:=hSw;go_simp⟩) hHeld ?_
        refine wpAnyH_take (i:=9) (v:=.agg #[.int .i64 s,.int .i64 r,.int .i64 u]) rfl (by kernel_rfl) (by kernel_rfl) (by kernel_rfl) (noPanic_q _ _) (Or.inl ⟨by kernel_rfl,fun W hSw=>by obtain⟨h1,h2,h3,h4⟩:=hSw;go_simp⟩) hHeld ?_
        refine wpAnyH_take (i:=10) (v:=.pointer (some ⟨w.heap.size+1+1,3,none⟩)) rfl (by kernel_rfl) (by kernel_rfl) (by kernel_rfl) (noPanic_q _ _) (Or.inl ⟨by kernel_rfl,fun W hSw=>by obtain⟨h1,h2,h3,h4⟩:=hSw;go_simp⟩) hHeld ?_
        refine wpAnyH_take (i:=11) (v:=.int .i64 d) rfl (by kernel_rfl) (by kernel_rfl) (by kernel_rfl) (noPanic_q _ _) (Or.inl ⟨by kernel_rfl,fun W hSw=>by obtain⟨h1,h2,h3,h4⟩:=hSw;go_simp⟩) hHeld ?_
        refine wpAnyH_take (i:=12) (v:=.int .i64 (d+1)) rfl (by kernel_rfl) (by kernel_rfl) (by kernel_rfl) (noPanic_q _ _) (Or.inl ⟨by kernel_rfl,fun W hSw=>by obtain⟨h1,h2,h3,h4⟩:=hSw;go_simp⟩) hHeld ?_
        refine wpAnyH_take (i:=13) (v:=.agg #[.int .i64 s,.int .i64 r,.int .i64 u,.int .i64 (d+1)]) rfl (by kernel_rfl) (by kernel_rfl) (by kernel_rfl) (noPanic_q _ _) (Or.inl ⟨by kernel_rfl,fun W hSw=>by obtain⟨h1,h2,h3,h4⟩:=hSw;go_simp⟩) hHeld ?_
        have SA:=Lib.hid (SD.out.alrw #[.int .i64 s,.int .i64 r,.int .i64 u,.int .i64 (d+1)] 138 4 1 D.heap.size rfl (by decide) rfl)
        obtain⟨q7,c7,w7,hrun,S'⟩:=SA.out.appended 1 83 83 138 i0 _ 4 32 Tryz.underlying83 hi0 hz0 hz1 hz2 rfl (by omega) q' j c' (encQ ((L.take j).map fun v=>(⟨s,r,v,d+1⟩:Sq))) rfl (some ⟨D.heap.size,0,none⟩) 1 1 (encQ [⟨s,r,u,d+1⟩]) (SA.out.rdx 0 rfl) (one_encQ _) (by omega) (by omega)
        have S7:=Lib.hid S'
        refine wpAnyH_ready (rs:=[14]) (by kernel_rfl) (by simp) (AllReadyH.cons rfl (fun K hK=>?_) AllReadyH.nil)
        go_simp
        refine hK.out _ _ ⟨(SA.out.blk 3 rfl).cell 0,(SA.out.blk 3 rfl).cell 1,HCU.out _ (SA.out.rdx 2 rfl),(SA.out.blk 4 rfl).cell 3⟩ (fun hHeld=>?_)
        clear hK
        refine wpAnyH_ready (rs:=[15]) (by kernel_rfl) (by simp) (AllReadyH.cons rfl (fun K hK=>?_) AllReadyH.nil)
        rw [if_pos (by rfl)]
        refine operwp_append (.tmp 86) (.tmp 100) 83 (by rfl) (by rfl) (by rfl) hrun ?_
        refine hK.out _ _ ⟨(S7.out.blk 3 rfl).cell 0,(S7.out.blk 3 rfl).cell 1,HCU.out _ (S7.out.rdx 2 rfl),(S7.out.blk 4 rfl).cell 3⟩ (fun hHeld=>?_)
        clear hK
        refine wpAnyH_take (i:=16) (v:=.slice q7 (j+1) c7) rfl (by kernel_rfl) (by kernel_rfl) (by kernel_rfl) (noPanic_q _ _) (Or.inl ⟨by kernel_rfl,fun W hSw=>by obtain⟨h1,h2,h3,h4⟩:=hSw;go_simp⟩) hHeld ?_
        refine wpAnyH_done (by kernel_rfl) ?_ _
        refine noPanic_mk ?_
        clear hHeld hrun S'
        try simp [Act.put]
        go_wp2
        go_roundw
        case rel=>exact⟨j+1,q7,c7,by omega,by go_num,rfl,by rw [HT.out,List.map_append,encQ_append];exact S7.out.pick [1,2,3,4] (by decide) rfl⟩
        case measure=>simp [intOf];omega
       ·obtain rfl:j=L.length:=by omega
        rw [List.take_length] at S
        have SH:=Lib.hid S;clear S
        go_wp2
        go_ret2
        exact⟨q',c',rfl,SH.out.pick [0] (by decide) rfl⟩
    ·simp only [if_pos hr]
     have e1:(r == 1)=true:=by rw [hr];rfl
     have HL:=Lib.hid hbL.2
     clear hbL hr
     generalize outL true R V v=L at *
     generalize outB true R v=ob at *
     generalize outL true O T v=L0 at *
     generalize outB true O v=ob0 at *
     rcases hk3 with ⟨k3,k4⟩ | k3
     ·obtain rfl:k=3:=by simpa using k3
      clear k3
      go_enter Tryz.func101,Tryz.ntmps101
      go_wp2_with (first | (go_at_call 164;have _t:=S2;go_must (refine(HI.out _ S2.out.ext).mono ?_;rintro e w3 ⟨q1,c1,rfl,Z⟩;have S3:=Lib.hid (S2.out.comp Z);clear y0 y1 y2 y3 yz b0 b1 b2 b3 bz a0 a4 az;clear Z e0 e1 e2 ez)) | (go_at_call 163;go_must (refine(HG.out _ S1.out.ext).mono ?_;rintro e w2 ⟨q,c,rfl,Z⟩;have S2:=Lib.hid (S1.out.comp Z);clear y0 y1 y2 y3 yz b0 b1 b2 b3 bz a0 a4 az;obtain⟨y0,y1,y2,y3,yz⟩:=bkc0c1c2c3l (S2.out.blk 2 rfl);obtain⟨b0,b1,b2,b3,bz⟩:=bkc0c1c2c3l (S2.out.blk 3 rfl);obtain⟨a0,a4,az⟩:=bkc0c4l (S2.out.blk 4 rfl);obtain⟨e0,e1,e2,ez⟩:=bkc0c1c2l (S2.out.blk 1 rfl);clear Z)) | (go_at_call 96;go_must (refine(HC.out _ S0.out.ext).mono ?_;rintro e w1 ⟨rfl,hb⟩;have S1:=Lib.hid ((S0.out.call hb).al #[.int .i64 s,.int .i64 r,.int .i64 v] 136 w1.heap.size rfl);have S1':=Lib.hid (S0.out.call hb);obtain⟨y0,y1,y2,y3,yz⟩:=bkc0c1c2c3l (S1'.out.blk 0 rfl);obtain⟨b0,b1,b2,b3,bz⟩:=bkc0c1c2c3l (S1'.out.blk 1 rfl);obtain⟨a0,a4,az⟩:=bkc0c4l (S1'.out.blk 2 rfl);clear hb S1')))
      have S9:=Lib.hid ((S3.out.nilrow 138 4).pick [0,1,3,4] (by decide) rfl:Sep w _ [.own 138 4 none 0 0 [],.own 3 1 q1 L.length c1 (encI L),.blk w1.heap.size 136 #[.int .i64 s,.int .i64 r,.int .i64 v],.blk (w.heap.size+1+1) 146 #[.int .i64 s,.int .i64 r,.int .i64 v,.int .i64 d]])
      clear S0 S1 S2 HC HG
      go_loopw [13,14] (fun m i wr=>∃ (j:Nat) (q':Option Addr) (c':Nat),j≤L.length∧i=.int .i64 j∧m=.slice q' j c'∧Sep w wr [.own 138 4 q' j c' (encQ ((L.take j).map fun v=>(⟨s,r,v,d+1⟩:Sq))),.own 3 1 q1 L.length c1 (encI L),.blk w1.heap.size 136 #[.int .i64 s,.int .i64 r,.int .i64 v],.blk (w.heap.size+1+1) 146 #[.int .i64 s,.int .i64 r,.int .i64 v,.int .i64 d]]) (fun _ i _=>L.length - (intOf i).toNat)
      case atStart=>exact⟨0,none,0,Nat.zero_le _,rfl,rfl,S9.out⟩
      case round =>
       clear S9
       obtain⟨j,q',c',hj,rfl,rfl,S⟩:=hrel
       by_cases hlt:j<L.length
       ·have g1:=(S.rdx 1 rfl).cI hlt
        have pq:=(S.rdx 1 rfl).ptr
        have pn:=(S.rdx 1 rfl).small
        have HT:=Lib.hid (take_succ_nth L j hlt)
        have HCU:Hid (∀ W,Rd W 1 q1 L.length (encI L)→W.cell? (adr q1 j)=some (.int .i64 (nth L j))):=fun W hr=>hr.cI hlt
        have d1:(0:Int)≤j:=by omega
        have d2:(j:Int)<L.length:=by omega
        have hl:=HL.out
        have hwd:IntKind.i64.wrap (d+1)=d+1:=IntWalk.i64_in _ (by omega)
        have SH:=Lib.hid S;clear S
        generalize nth L j=u at *
        clear g1
        go_wp2
        have k1:wr.cell? ⟨w1.heap.size,0,none⟩=some (.int .i64 s):=(SH.out.blk 2 rfl).cell 0
        have k2:wr.cell? ⟨w1.heap.size,1,none⟩=some (.int .i64 r):=(SH.out.blk 2 rfl).cell 1
        have k3:=HCU.out _ (SH.out.rdx 1 rfl)
        have k4:wr.cell? ⟨w.heap.size+1+1,3,none⟩=some (.int .i64 d):=(SH.out.blk 3 rfl).cell 3
        refine wp_region_noPanic ?_
        refine wp_region_held_drew (S:=fun w'=>w'.cell? ⟨w1.heap.size,0,none⟩=some (.int .i64 s)∧w'.cell? ⟨w1.heap.size,1,none⟩=some (.int .i64 r)∧w'.cell? (adr q1 j)=some (.int .i64 u)∧w'.cell? ⟨w.heap.size+1+1,3,none⟩=some (.int .i64 d)) (by kernel_rfl) ⟨k1,k2,k3,k4⟩ (fun hHeld=>?_)
        clear k1 k2 k3 k4
        have SD:=Lib.hid SH.out.drew
        clear SH
        generalize wr.drew=D at SD hHeld ⊢
        refine wpAnyH_take (i:=0) (v:=.slice q' j c') rfl (by kernel_rfl) (by kernel_rfl) (by kernel_rfl) (noPanic_q _ _) (Or.inl ⟨by kernel_rfl,fun W hSw=>by obtain⟨h1,h2,h3,h4⟩:=hSw;go_simp⟩) hHeld ?_
        refine wpAnyH_take (i:=1) (v:=.pointer (some ⟨w1.heap.size,0,none⟩)) rfl (by kernel_rfl) (by kernel_rfl) (by kernel_rfl) (noPanic_q _ _) (Or.inl ⟨by kernel_rfl,fun W hSw=>by obtain⟨h1,h2,h3,h4⟩:=hSw;go_simp⟩) hHeld ?_
        refine wpAnyH_take (i:=2) (v:=.int .i64 s) rfl (by kernel_rfl) (by kernel_rfl) (by kernel_rfl) (noPanic_q _ _) (Or.inl ⟨by kernel_rfl,fun W hSw=>by obtain⟨h1,h2,h3,h4⟩:=hSw;go_simp⟩) hHeld ?_
        refine wpAnyH_take (i:=3) (v:=.pointer (some ⟨w1.heap.size,1,none⟩)) rfl (by kernel_rfl) (by kernel_rfl) (by kernel_rfl) (noPanic_q _ _) (Or.inl ⟨by kernel_rfl,fun W hSw=>by obtain⟨h1,h2,h3,h4⟩:=hSw;go_simp⟩) hHeld ?_
        refine wpAnyH_take (i:=4) (v:=.int .i64 r) rfl (by kernel_rfl) (by kernel_rfl) (by kernel_rfl) (noPanic_q _ _) (Or.inl ⟨by kernel_rfl,fun W hSw=>by obtain⟨h1,h2,h3,h4⟩:=hSw;go_simp⟩) hHeld ?_
        refine wpAnyH_take (i:=5) (v:=.slice q1 L.length c1) rfl (by kernel_rfl) (by kernel_rfl) (by kernel_rfl) (noPanic_q _ _) (Or.inl ⟨by kernel_rfl,fun W hSw=>by obtain⟨h1,h2,h3,h4⟩:=hSw;go_simp⟩) hHeld ?_
        refine wpAnyH_take (i:=6) (v:=.int .i64 (j:Int)) rfl (by kernel_rfl) (by kernel_rfl) (by kernel_rfl) (noPanic_q _ _) (Or.inl ⟨by kernel_rfl,fun W hSw=>by obtain⟨h1,h2,h3,h4⟩:=hSw;go_simp⟩) hHeld ?_
        refine wpAnyH_take (i:=7) (v:=.pointer (some (adr q1 j))) rfl (by kernel_rfl) (by kernel_rfl) (by kernel_rfl) (noPanic_q _ _) (Or.inl ⟨by kernel_rfl,fun W hSw=>by obtain⟨h1,h2,h3,h4⟩:=hSw;go_simp⟩) hHeld ?_
        refine wpAnyH_take (i:=8) (v:=.int .i64 u) rfl (by kernel_rfl) (by kernel_rfl) (by kernel_rfl) (noPanic_q _ _) (Or.inl ⟨by kernel_rfl,fun W hSw=>by obtain⟨h1,h2,h3,h4⟩:=hSw;go_simp⟩) hHeld ?_
        refine wpAnyH_take (i:=9) (v:=.agg #[.int .i64 s,.int .i64 r,.int .i64 u]) rfl (by kernel_rfl) (by kernel_rfl) (by kernel_rfl) (noPanic_q _ _) (Or.inl ⟨by kernel_rfl,fun W hSw=>by obtain⟨h1,h2,h3,h4⟩:=hSw;go_simp⟩) hHeld ?_
        refine wpAnyH_take (i:=10) (v:=.pointer (some ⟨w.heap.size+1+1,3,none⟩)) rfl (by kernel_rfl) (by kernel_rfl) (by kernel_rfl) (noPanic_q _ _) (Or.inl ⟨by kernel_rfl,fun W hSw=>by obtain⟨h1,h2,h3,h4⟩:=hSw;go_simp⟩) hHeld ?_
        refine wpAnyH_take (i:=11) (v:=.int .i64 d) rfl (by kernel_rfl) (by kernel_rfl) (by kernel_rfl) (noPanic_q _ _) (Or.inl ⟨by kernel_rfl,fun W hSw=>by obtain⟨h1,h2,h3,h4⟩:=hSw;go_simp⟩) hHeld ?_
        refine wpAnyH_take (i:=12) (v:=.int .i64 (d+1)) rfl (by kernel_rfl) (by kernel_rfl) (by kernel_rfl) (noPanic_q _ _) (Or.inl ⟨by kernel_rfl,fun W hSw=>by obtain⟨h1,h2,h3,h4⟩:=hSw;go_simp⟩) hHeld ?_
        refine wpAnyH_take (i:=13) (v:=.agg #[.int .i64 s,.int .i64 r,.int .i64 u,.int .i64 (d+1)]) rfl (by kernel_rfl) (by kernel_rfl) (by kernel_rfl) (noPanic_q _ _) (Or.inl ⟨by kernel_rfl,fun W hSw=>by obtain⟨h1,h2,h3,h4⟩:=hSw;go_simp⟩) hHeld ?_
        have SA:=Lib.hid (SD.out.alrw #[.int .i64 s,.int .i64 r,.int .i64 u,.int .i64 (d+1)] 138 4 1 D.heap.size rfl (by decide) rfl)
        obtain⟨q7,c7,w7,hrun,S'⟩:=SA.out.appended 1 83 83 138 i0 _ 4 32 Tryz.underlying83 hi0 hz0 hz1 hz2 rfl (by omega) q' j c' (encQ ((L.take j).map fun v=>(⟨s,r,v,d+1⟩:Sq))) rfl (some ⟨D.heap.size,0,none⟩) 1 1 (encQ [⟨s,r,u,d+1⟩]) (SA.out.rdx 0 rfl) (one_encQ _) (by omega) (by omega)
        have S7:=Lib.hid S'
        refine wpAnyH_ready (rs:=[14]) (by kernel_rfl) (by simp) (AllReadyH.cons rfl (fun K hK=>?_) AllReadyH.nil)
        go_simp
        refine hK.out _ _ ⟨(SA.out.blk 3 rfl).cell 0,(SA.out.blk 3 rfl).cell 1,HCU.out _ (SA.out.rdx 2 rfl),(SA.out.blk 4 rfl).cell 3⟩ (fun hHeld=>?_)
        clear hK
        refine wpAnyH_ready (rs:=[15]) (by kernel_rfl) (by simp) (AllReadyH.cons rfl (fun K hK=>?_) AllReadyH.nil)
        rw [if_pos (by rfl)]
        refine operwp_append (.tmp 86) (.tmp 100) 83 (by rfl) (by rfl) (by rfl) hrun ?_
        refine hK.out _ _ ⟨(S7.out.blk 3 rfl).cell 0,(S7.out.blk 3 rfl).cell 1,HCU.out _ (S7.out.rdx 2 rfl),(S7.out.blk 4 rfl).cell 3⟩ (fun hHeld=>?_)
        clear hK
        refine wpAnyH_take (i:=16) (v:=.slice q7 (j+1) c7) rfl (by kernel_rfl) (by kernel_rfl) (by kernel_rfl) (noPanic_q _ _) (Or.inl ⟨by kernel_rfl,fun W hSw=>by obtain⟨h1,h2,h3,h4⟩:=hSw;go_simp⟩) hHeld ?_
        refine wpAnyH_done (by kernel_rfl) ?_ _
        refine noPanic_mk ?_
        clear hHeld hrun S'
        try simp [Act.put]
        go_wp2
        go_roundw
        case rel=>exact⟨j+1,q7,c7,by omega,by go_num,rfl,by rw [HT.out,List.map_append,encQ_append];exact S7.out.pick [1,2,3,4] (by decide) rfl⟩
        case measure=>simp [intOf];omega
       ·obtain rfl:j=L.length:=by omega
        rw [List.take_length] at S
        have SH:=Lib.hid S;clear S
        go_wp2
        go_ret2
        exact⟨q',c',rfl,SH.out.pick [0] (by decide) rfl⟩
     ·go_enter Tryz.func101,Tryz.ntmps101
      go_wp2_with (first | (go_at_call 164;have _t:=S2;go_must (refine(HI.out _ S2.out.ext).mono ?_;rintro e w3 ⟨q1,c1,rfl,Z⟩;have S3:=Lib.hid (S2.out.comp Z);clear y0 y1 y2 y3 yz b0 b1 b2 b3 bz a0 a4 az;clear Z e0 e1 e2 ez)) | (go_at_call 163;go_must (refine(HG.out _ S1.out.ext).mono ?_;rintro e w2 ⟨q,c,rfl,Z⟩;have S2:=Lib.hid (S1.out.comp Z);clear y0 y1 y2 y3 yz b0 b1 b2 b3 bz a0 a4 az;obtain⟨y0,y1,y2,y3,yz⟩:=bkc0c1c2c3l (S2.out.blk 2 rfl);obtain⟨b0,b1,b2,b3,bz⟩:=bkc0c1c2c3l (S2.out.blk 3 rfl);obtain⟨a0,a4,az⟩:=bkc0c4l (S2.out.blk 4 rfl);obtain⟨e0,e1,e2,ez⟩:=bkc0c1c2l (S2.out.blk 1 rfl);clear Z)) | (go_at_call 96;go_must (refine(HC.out _ S0.out.ext).mono ?_;rintro e w1 ⟨rfl,hb⟩;have S1:=Lib.hid ((S0.out.call hb).al #[.int .i64 s,.int .i64 r,.int .i64 v] 136 w1.heap.size rfl);have S1':=Lib.hid (S0.out.call hb);obtain⟨y0,y1,y2,y3,yz⟩:=bkc0c1c2c3l (S1'.out.blk 0 rfl);obtain⟨b0,b1,b2,b3,bz⟩:=bkc0c1c2c3l (S1'.out.blk 1 rfl);obtain⟨a0,a4,az⟩:=bkc0c4l (S1'.out.blk 2 rfl);clear hb S1')))
      have S9:=Lib.hid ((S3.out.nilrow 138 4).pick [0,1,3,4] (by decide) rfl:Sep w _ [.own 138 4 none 0 0 [],.own 3 1 q1 L.length c1 (encI L),.blk w1.heap.size 136 #[.int .i64 s,.int .i64 r,.int .i64 v],.blk (w.heap.size+1+1) 146 #[.int .i64 s,.int .i64 r,.int .i64 v,.int .i64 d]])
      clear S0 S1 S2 HC HG
      go_loopw [13,14] (fun m i wr=>∃ (j:Nat) (q':Option Addr) (c':Nat),j≤L.length∧i=.int .i64 j∧m=.slice q' j c'∧Sep w wr [.own 138 4 q' j c' (encQ ((L.take j).map fun v=>(⟨s,r,v,d+1⟩:Sq))),.own 3 1 q1 L.length c1 (encI L),.blk w1.heap.size 136 #[.int .i64 s,.int .i64 r,.int .i64 v],.blk (w.heap.size+1+1) 146 #[.int .i64 s,.int .i64 r,.int .i64 v,.int .i64 d]]) (fun _ i _=>L.length - (intOf i).toNat)
      case atStart=>exact⟨0,none,0,Nat.zero_le _,rfl,rfl,S9.out⟩
      case round =>
       clear S9
       obtain⟨j,q',c',hj,rfl,rfl,S⟩:=hrel
       by_cases hlt:j<L.length
       ·have g1:=(S.rdx 1 rfl).cI hlt
        have pq:=(S.rdx 1 rfl).ptr
        have pn:=(S.rdx 1 rfl).small
        have HT:=Lib.hid (take_succ_nth L j hlt)
        have HCU:Hid (∀ W,Rd W 1 q1 L.length (encI L)→W.cell? (adr q1 j)=some (.int .i64 (nth L j))):=fun W hr=>hr.cI hlt
        have d1:(0:Int)≤j:=by omega
        have d2:(j:Int)<L.length:=by omega
        have hl:=HL.out
        have hwd:IntKind.i64.wrap (d+1)=d+1:=IntWalk.i64_in _ (by omega)
        have SH:=Lib.hid S;clear S
        generalize nth L j=u at *
        clear g1
        go_wp2
        have k1:wr.cell? ⟨w1.heap.size,0,none⟩=some (.int .i64 s):=(SH.out.blk 2 rfl).cell 0
        have k2:wr.cell? ⟨w1.heap.size,1,none⟩=some (.int .i64 r):=(SH.out.blk 2 rfl).cell 1
        have k3:=HCU.out _ (SH.out.rdx 1 rfl)
        have k4:wr.cell? ⟨w.heap.size+1+1,3,none⟩=some (.int .i64 d):=(SH.out.blk 3 rfl).cell 3
        refine wp_region_noPanic ?_
        refine wp_region_held_drew (S:=fun w'=>w'.cell? ⟨w1.heap.size,0,none⟩=some (.int .i64 s)∧w'.cell? ⟨w1.heap.size,1,none⟩=some (.int .i64 r)∧w'.cell? (adr q1 j)=some (.int .i64 u)∧w'.cell? ⟨w.heap.size+1+1,3,none⟩=some (.int .i64 d)) (by kernel_rfl) ⟨k1,k2,k3,k4⟩ (fun hHeld=>?_)
        clear k1 k2 k3 k4
        have SD:=Lib.hid SH.out.drew
        clear SH
        generalize wr.drew=D at SD hHeld ⊢
        refine wpAnyH_take (i:=0) (v:=.slice q' j c') rfl (by kernel_rfl) (by kernel_rfl) (by kernel_rfl) (noPanic_q _ _) (Or.inl ⟨by kernel_rfl,fun W hSw=>by obtain⟨h1,h2,h3,h4⟩:=hSw;go_simp⟩) hHeld ?_
        refine wpAnyH_take (i:=1) (v:=.pointer (some ⟨w1.heap.size,0,none⟩)) rfl (by kernel_rfl) (by kernel_rfl) (by kernel_rfl) (noPanic_q _ _) (Or.inl ⟨by kernel_rfl,fun W hSw=>by obtain⟨h1,h2,h3,h4⟩:=hSw;go_simp⟩) hHeld ?_
        refine wpAnyH_take (i:=2) (v:=.int .i64 s) rfl (by kernel_rfl) (by kernel_rfl) (by kernel_rfl) (noPanic_q _ _) (Or.inl ⟨by kernel_rfl,fun W hSw=>by obtain⟨h1,h2,h3,h4⟩:=hSw;go_simp⟩) hHeld ?_
        refine wpAnyH_take (i:=3) (v:=.pointer (some ⟨w1.heap.size,1,none⟩)) rfl (by kernel_rfl) (by kernel_rfl) (by kernel_rfl) (noPanic_q _ _) (Or.inl ⟨by kernel_rfl,fun W hSw=>by obtain⟨h1,h2,h3,h4⟩:=hSw;go_simp⟩) hHeld ?_
        refine wpAnyH_take (i:=4) (v:=.int .i64 r) rfl (by kernel_rfl) (by kernel_rfl) (by kernel_rfl) (noPanic_q _ _) (Or.inl ⟨by kernel_rfl,fun W hSw=>by obtain⟨h1,h2,h3,h4⟩:=hSw;go_simp⟩) hHeld ?_
        refine wpAnyH_take (i:=5) (v:=.slice q1 L.length c1) rfl (by kernel_rfl) (by kernel_rfl) (by kernel_rfl) (noPanic_q _ _) (Or.inl ⟨by kernel_rfl,fun W hSw=>by obtain⟨h1,h2,h3,h4⟩:=hSw;go_simp⟩) hHeld ?_
        refine wpAnyH_take (i:=6) (v:=.int .i64 (j:Int)) rfl (by kernel_rfl) (by kernel_rfl) (by kernel_rfl) (noPanic_q _ _) (Or.inl ⟨by kernel_rfl,fun W hSw=>by obtain⟨h1,h2,h3,h4⟩:=hSw;go_simp⟩) hHeld ?_
        refine wpAnyH_take (i:=7) (v:=.pointer (some (adr q1 j))) rfl (by kernel_rfl) (by kernel_rfl) (by kernel_rfl) (noPanic_q _ _) (Or.inl ⟨by kernel_rfl,fun W hSw=>by obtain⟨h1,h2,h3,h4⟩:=hSw;go_simp⟩) hHeld ?_
        refine wpAnyH_take (i:=8) (v:=.int .i64 u) rfl (by kernel_rfl) (by kernel_rfl) (by kernel_rfl) (noPanic_q _ _) (Or.inl ⟨by kernel_rfl,fun W hSw=>by obtain⟨h1,h2,h3,h4⟩:=hSw;go_simp⟩) hHeld ?_
        refine wpAnyH_take (i:=9) (v:=.agg #[.int .i64 s,.int .i64 r,.int .i64 u]) rfl (by kernel_rfl) (by kernel_rfl) (by kernel_rfl) (noPanic_q _ _) (Or.inl ⟨by kernel_rfl,fun W hSw=>by obtain⟨h1,h2,h3,h4⟩:=hSw;go_simp⟩) hHeld ?_
        refine wpAnyH_take (i:=10) (v:=.pointer (some ⟨w.heap.size+1+1,3,none⟩)) rfl (by kernel_rfl) (by kernel_rfl) (by kernel_rfl) (noPanic_q _ _) (Or.inl ⟨by kernel_rfl,fun W hSw=>by obtain⟨h1,h2,h3,h4⟩:=hSw;go_simp⟩) hHeld ?_
        refine wpAnyH_take (i:=11) (v:=.int .i64 d) rfl (by kernel_rfl) (by kernel_rfl) (by kernel_rfl) (noPanic_q _ _) (Or.inl ⟨by kernel_rfl,fun W hSw=>by obtain⟨h1,h2,h3,h4⟩:=hSw;go_simp⟩) hHeld ?_
        refine wpAnyH_take (i:=12) (v:=.int .i64 (d+1)) rfl (by kernel_rfl) (by kernel_rfl) (by kernel_rfl) (noPanic_q _ _) (Or.inl ⟨by kernel_rfl,fun W hSw=>by obtain⟨h1,h2,h3,h4⟩:=hSw;go_simp⟩) hHeld ?_
        refine wpAnyH_take (i:=13) (v:=.agg #[.int .i64 s,.int .i64 r,.int .i64 u,.int .i64 (d+1)]) rfl (by kernel_rfl) (by kernel_rfl) (by kernel_rfl) (noPanic_q _ _) (Or.inl ⟨by kernel_rfl,fun W hSw=>by obtain⟨h1,h2,h3,h4⟩:=hSw;go_simp⟩) hHeld ?_
        have SA:=Lib.hid (SD.out.alrw #[.int .i64 s,.int .i64 r,.int .i64 u,.int .i64 (d+1)] 138 4 1 D.heap.size rfl (by decide) rfl)
        obtain⟨q7,c7,w7,hrun,S'⟩:=SA.out.appended 1 83 83 138 i0 _ 4 32 Tryz.underlying83 hi0 hz0 hz1 hz2 rfl (by omega) q' j c' (encQ ((L.take j).map fun v=>(⟨s,r,v,d+1⟩:Sq))) rfl (some ⟨D.heap.size,0,none⟩) 1 1 (encQ [⟨s,r,u,d+1⟩]) (SA.out.rdx 0 rfl) (one_encQ _) (by omega) (by omega)
        have S7:=Lib.hid S'
        refine wpAnyH_ready (rs:=[14]) (by kernel_rfl) (by simp) (AllReadyH.cons rfl (fun K hK=>?_) AllReadyH.nil)
        go_simp
        refine hK.out _ _ ⟨(SA.out.blk 3 rfl).cell 0,(SA.out.blk 3 rfl).cell 1,HCU.out _ (SA.out.rdx 2 rfl),(SA.out.blk 4 rfl).cell 3⟩ (fun hHeld=>?_)
        clear hK
        refine wpAnyH_ready (rs:=[15]) (by kernel_rfl) (by simp) (AllReadyH.cons rfl (fun K hK=>?_) AllReadyH.nil)
        rw [if_pos (by rfl)]
        refine operwp_append (.tmp 86) (.tmp 100) 83 (by rfl) (by rfl) (by rfl) hrun ?_
        refine hK.out _ _ ⟨(S7.out.blk 3 rfl).cell 0,(S7.out.blk 3 rfl).cell 1,HCU.out _ (S7.out.rdx 2 rfl),(S7.out.blk 4 rfl).cell 3⟩ (fun hHeld=>?_)
        clear hK
        refine wpAnyH_take (i:=16) (v:=.slice q7 (j+1) c7) rfl (by kernel_rfl) (by kernel_rfl) (by kernel_rfl) (noPanic_q _ _) (Or.inl ⟨by kernel_rfl,fun W hSw=>by obtain⟨h1,h2,h3,h4⟩:=hSw;go_simp⟩) hHeld ?_
        refine wpAnyH_done (by kernel_rfl) ?_ _
        refine noPanic_mk ?_
        clear hHeld hrun S'
        try simp [Act.put]
        go_wp2
        go_roundw
        case rel=>exact⟨j+1,q7,c7,by omega,by go_num,rfl,by rw [HT.out,List.map_append,encQ_append];exact S7.out.pick [1,2,3,4] (by decide) rfl⟩
        case measure=>simp [intOf];omega
       ·obtain rfl:j=L.length:=by omega
        rw [List.take_length] at S
        have SH:=Lib.hid S;clear S
        go_wp2
        go_ret2
        exact⟨q',c',rfl,SH.out.pick [0] (by decide) rfl⟩
end
section
open Go Go.RowKit
theorem putKs_snoc (st P:List Sq) (x:Sq):putKs st (P ++ [x])=putK x (putKs st P):=by unfold putKs;rw [List.foldl_append];rfl
theorem putKs_len (st P:List Sq):(putKs st P).length=st.length+P.length:=by
 unfold putKs
 induction P generalizing st with
 | nil=>rfl
 | cons x P ih=>rw [List.foldl_cons,ih,putK_len,List.length_cons];omega
theorem Step19 (k f t:Int) (pw:Option Addr) (nw cw:Nat) (rad most:Int) (po:Option Addr) (no co:Nat) (pt:Option Addr) (nt ct:Nat) (pr:Option Addr) (nr cr:Nat) (pv:Option Addr) (nv cv:Nat) (n:Nat) (F:Sq→List Sq) (ps:Option Addr) (ns cs:Nat) (st:List Sq) (pm:Option Addr) (nm cm:Nat) (M:List Sq) (wk:Nat) (w:World)
  (hno:no=n+1) (h200:n≤200) (h1:1≤wk) (h16:wk≤16) (hs:Rd w 4 ps ns (encQ st)) (hm:Rd w 4 pm nm (encQ M))
  (hku:KeysUp st) (hst:∀ x∈st,mayB x=true∧x.v<n) (hms:∀ x∈M,mayB x=true∧x.v<n) (hFl:∀ x∈M,(F x).length≤200) (hns:ns≤400) (hnm:nm≤400)
  (HCK0:∀ W,Ext w W→Calls Tryz.prog 96 #[.agg #[.slice po no co,.slice pt nt ct,.slice pr nr cr,.slice pv nv cv]] W fun e w'=>e=.returned (.bool true)∧Ext W w')
  (HN0:∀ x∈M,∀ W,Ext w W→Calls Tryz.prog 101 #[.agg #[.int .i64 k,.int .i64 f,.int .i64 t,.slice pw nw cw,.int .i64 rad,.int .i64 most],.agg #[.slice po no co,.slice pt nt ct,.slice pr nr cr,.slice pv nv cv],.agg #[.int .i64 x.s,.int .i64 x.r,.int .i64 x.v,.int .i64 x.d]] W fun e w'=>∃ q c,e=.returned (.tuple #[.slice q (F x).length c,.int .i64 0])∧Sep W w' [.own 138 4 q (F x).length c (encQ (F x))]) :
  Calls Tryz.prog 55 #[.agg #[.int .i64 k,.int .i64 f,.int .i64 t,.slice pw nw cw,.int .i64 rad,.int .i64 most],.agg #[.slice po no co,.slice pt nt ct,.slice pr nr cr,.slice pv nv cv],.slice ps ns cs,.slice pm nm cm,.int .i64 wk] w fun e w'=>∃ q c q2 c2,e=.returned (.tuple #[.slice q (stepM F st M).1.length c,.slice q2 (stepM F st M).2.length c2,.int .i64 0]) ∧
   Sep w w' [.own 146 4 q (stepM F st M).1.length c (encQ (stepM F st M).1),.own 138 4 q2 (stepM F st M).2.length c2 (encQ (stepM F st M).2)]:=by
 obtain⟨i0,hi0,hz0,hz1,hz2⟩:=info_parts infMail
 obtain⟨j0,ji0,jz0,jz1,jz2⟩:=info_parts infStt
 have S0:=Lib.hid (((Sep.start w).al #[.int .i64 k,.int .i64 f,.int .i64 t,.slice pw nw cw,.int .i64 rad,.int .i64 most] 24 w.heap.size rfl).al #[.slice po no co,.slice pt nt ct,.slice pr nr cr,.slice pv nv cv] 27 (w.heap.size+1) (by simp))
 have HCK:=Lib.hid HCK0
 have HRG:=Lib.hid (fun W (h:Ext w W)=>Right19 ps ns cs st W (hs.ext h) hku (fun x hx=>(hst x hx).1) (by omega))
 have HCM:=Lib.hid (fun W (h:Ext w W)=>Check16r pm nm cm M W (hm.ext h) (fun x hx=>(hms x hx).1))
 have HWI:=Lib.hid (fun W (h:Ext w W)=>Within19 ps ns cs st pm nm cm M ((no:Int) - 1) W (hs.ext h) (hm.ext h) (fun x hx=>by have:=(hst x hx).2;omega) (fun x hx=>by have:=(hms x hx).2;omega))
 have HFR:=Lib.hid (fun W (h:Ext w W)=>Fresh19 ps ns cs st pm nm cm M W (hs.ext h) (hm.ext h) (by omega))
 have HFM:Hid (∀ x∈freshM st M,x∈M):=fun x hx=>(freshM_mem.1 hx).1.1
 have hPl:=freshM_len st M
 have hnsl:=hs.nQ
 have hnml:=hm.nQ
 have HS:=Lib.hid hs
 have hno2:no≤1000:=by omega
 have c3:decide ((wk:Int)<1)=false:=by simp;omega
 have c4:decide (16<(wk:Int))=false:=by simp;omega
 have HN:=Lib.hid HN0
 have HFL:=Lib.hid hFl
 obtain⟨P,hP⟩:∃ P,freshM st M=P:=⟨_,rfl⟩
 have HST:Hid ((stepM F st M).1=putKs st P∧(stepM F st M).2=freshM (putKs st P) (P.flatMap F)):=by rw [← hP];exact⟨rfl,rfl⟩
 rw [hP] at HFR HFM hPl
 have HPL:Hid (P.length≤400):=by unfold Hid;omega
 have HNL:Hid (st.length=ns):=hnsl.symm
 have ps1:=hs.ptr
 have ps2:=hs.small
 clear hs hm hku hst hms hFl hnm HCK0 HN0 hPl hnml hP hnsl h1 h16 h200 hno
 rw [HST.out.1,HST.out.2]
 clear HST
 go_enter Tryz.func55,Tryz.ntmps55
 go_wp2_with (first
  | (at_builtin;have _t:=S5;go_must (refine wpList_append_sep rfl _ _ _ rfl 146 j0 _ 4 32 Tryz.underlying85 ji0 jz0 jz1 jz2 rfl (by omega) (S5.out.nilrow 146 4) 0 none 0 0 [] rfl rfl ps ns cs _ rfl (HS.out.ext S5.out.ext) (one_encQ _) (by omega) (by omega) ?_;intro q6 c6 w6 S' hsz;(try simp only [Nat.zero_add,List.nil_append] at S');have S6:=Lib.hid S';clear S' hsz))
  | (go_at_call 100;have _t:=S4;go_must (refine(HFR.out _ S4.out.ext).mono ?_;rintro e w5 ⟨q5,c5,rfl,Z⟩;have S5:=Lib.hid (S4.out.comp Z);clear Z))
  | (go_at_call 99;have _t:=S3;go_must (refine(HWI.out _ S3.out.ext).mono ?_;rintro e w4 ⟨rfl,hb⟩;have S4:=Lib.hid (S3.out.call hb);clear hb))
  | (go_at_call 98;have _t:=S2;go_must (refine(HCM.out _ S2.out.ext).mono ?_;rintro e w3 ⟨rfl,hb⟩;have S3:=Lib.hid (S2.out.call hb);clear a0 a1 a2 a3 a4 a5 az b0 b1 b2 b3 bz;obtain⟨b0,b1,b2,b3,bz⟩:=bkc0c1c2c3l (S3.out.blk 0 rfl);obtain⟨a0,a1,a2,a3,a4,a5,az⟩:=bkc0c1c2c3c4c5l (S3.out.blk 1 rfl);clear hb))
  | (go_at_call 97;have _t:=S1;go_must (refine(HRG.out _ S1.out.ext).mono ?_;rintro e w2 ⟨rfl,hb⟩;have S2:=Lib.hid (S1.out.call hb);clear a0 a1 a2 a3 a4 a5 az b0 b1 b2 b3 bz;obtain⟨b0,b1,b2,b3,bz⟩:=bkc0c1c2c3l (S2.out.blk 0 rfl);obtain⟨a0,a1,a2,a3,a4,a5,az⟩:=bkc0c1c2c3c4c5l (S2.out.blk 1 rfl);clear hb))
  | (go_at_call 96;go_must (refine(HCK.out _ S0.out.ext).mono ?_;rintro e w1 ⟨rfl,hb⟩;have S1:=Lib.hid (S0.out.call hb);obtain⟨b0,b1,b2,b3,bz⟩:=bkc0c1c2c3l (S1.out.blk 0 rfl);obtain⟨a0,a1,a2,a3,a4,a5,az⟩:=bkc0c1c2c3c4c5l (S1.out.blk 1 rfl);clear hb)))
 have S7:=Lib.hid ((S6.out.nilrow 138 4).pick (Δ:=[.own 146 4 q6 ns c6 (encQ st),.own 138 4 none 0 0 [],.own 138 4 q5 P.length c5 (encQ P),.blk (w.heap.size+1) 27 #[.slice po no co,.slice pt nt ct,.slice pr nr cr,.slice pv nv cv],.blk w.heap.size 24 #[.int .i64 k,.int .i64 f,.int .i64 t,.slice pw nw cw,.int .i64 rad,.int .i64 most]]) [1,0,2,3,4] (by decide) rfl)
 clear S0 S1 S2 S3 S4 S5 S6 HCK HRG HCM HWI HFR HS
 clear a0 a1 a2 a3 a4 a5 az b0 b1 b2 b3 bz
 go_loopw [14,15,16,17,18,19] (fun nwv sn i _ _ _ wr=>∃ (j ms:Nat) (qn:Option Addr) (dn:Nat) (qs:Option Addr) (ds:Nat),j≤P.length∧ms≤j*200∧i=.int .i64 j∧nwv=.slice qn (ns+j) dn∧sn=.slice qs ms ds ∧
  Sep w wr [.own 146 4 qn (ns+j) dn (encQ (putKs st (P.take j))),.own 138 4 qs ms ds (encQ ((P.take j).flatMap F)),.own 138 4 q5 P.length c5 (encQ P),.blk (w.heap.size+1) 27 #[.slice po no co,.slice pt nt ct,.slice pr nr cr,.slice pv nv cv],.blk w.heap.size 24 #[.int .i64 k,.int .i64 f,.int .i64 t,.slice pw nw cw,.int .i64 rad,.int .i64 most]]) (fun _ _ i _ _ _ _=>P.length - (intOf i).toNat)
 case atStart=>exact⟨0,0,q6,c6,none,0,Nat.zero_le _,Nat.zero_le _,rfl,rfl,rfl,S7.out⟩
 case round =>
  clear S7
  obtain⟨j,ms,qn,dn,qs,ds,hj,hms,rfl,rfl,rfl,S⟩:=hrel
  have pc:=(S.rdx 2 rfl).ptr
  have nc:=(S.rdx 2 rfl).small
  have hPL:=HPL.out
  by_cases hlt:j<P.length
  ·obtain⟨g1,g2,g3,g4⟩:=(S.rdx 2 rfl).cQ hlt
   have hT:=take_succ_nth P j hlt
   have d1:(0:Int)≤j:=by omega
   have d2:(j:Int)<P.length:=by omega
   have hcap:=own_cap (S.own 0 rfl)
   have hxM:=HFM.out (nth P j) (by rw [nth_eq hlt];exact List.getElem_mem _)
   have HCU0:=Lib.hid (fun W (hr:Rd W 4 q5 P.length (encQ P))=>hr.cQ hlt)
   generalize nth P j=x at *
   have HK1:Hid (putKs st (P.take (j+1))=putK x (putKs st (P.take j))):=by unfold Hid;rw [hT,putKs_snoc]
   have HK2:Hid (encQ ((P.take (j+1)).flatMap F)=encQ ((P.take j).flatMap F) ++ encQ (F x)):=by unfold Hid;rw [hT,List.flatMap_append,encQ_append];simp
   have HLK:Hid ((putK x (putKs st (P.take j))).length=ns+(j+1)):=by
    unfold Hid;rw [putK_len,putKs_len,List.length_take,HNL.out];omega
   have HNX:=Lib.hid (fun W h=>HN.out x hxM W h)
   have hFx:=HFL.out x hxM
   have HPU:=Lib.hid (fun W (hr:Rd W 4 qn (ns+j) (encQ (putKs st (P.take j))))=>Put19 qn (ns+j) dn _ x W hr hcap (by omega))
   rw [HLK.out] at HPU
   obtain⟨L,hL⟩:∃ L,F x=L:=⟨_,rfl⟩
   rw [hL] at HNX HK2 hFx
   have HLL:=Lib.hid hFx
   have SH:=Lib.hid S
   have HJ:=Lib.hid hms
   clear S hT hxM hL hFx hcap
   have HCU:Hid (∀ W,Rd W 4 q5 P.length (encQ P)→W.cell? (adr q5 (j*4))=some (.int .i64 x.s)∧W.cell? (adr q5 (j*4+1))=some (.int .i64 x.r)∧W.cell? (adr q5 (j*4+2))=some (.int .i64 x.v)∧W.cell? (adr q5 (j*4+3))=some (.int .i64 x.d)):=HCU0
   clear HCU0
   go_wp2
   refine wp_region_noPanic ?_
   refine wp_region_held_drew (S:=fun W=>W.cell? (adr q5 (j*4))=some (.int .i64 x.s)∧W.cell? (adr q5 (j*4+1))=some (.int .i64 x.r)∧W.cell? (adr q5 (j*4+2))=some (.int .i64 x.v)∧W.cell? (adr q5 (j*4+3))=some (.int .i64 x.d)) (by kernel_rfl) ⟨g1,g2,g3,g4⟩ (fun hHeld=>?_)
   have SD:=Lib.hid SH.out.drew
   clear SH g1 g2 g3 g4
   generalize wr.drew=D at SD hHeld ⊢
   refine wpAnyH_take (i:=0) (v:=.slice q5 P.length c5) rfl (by kernel_rfl) (by kernel_rfl) (by kernel_rfl) (noPanic_q _ _) (Or.inl ⟨by kernel_rfl,fun W hSw=>by obtain⟨h1,h2,h3,h4⟩:=hSw;go_simp⟩) hHeld ?_
   refine wpAnyH_take (i:=1) (v:=.int .i64 (j:Int)) rfl (by kernel_rfl) (by kernel_rfl) (by kernel_rfl) (noPanic_q _ _) (Or.inl ⟨by kernel_rfl,fun W hSw=>by obtain⟨h1,h2,h3,h4⟩:=hSw;go_simp⟩) hHeld ?_
   refine wpAnyH_take (i:=2) (v:=.pointer (some (adr q5 (j*4)))) rfl (by kernel_rfl) (by kernel_rfl) (by kernel_rfl) (noPanic_q _ _) (Or.inl ⟨by kernel_rfl,fun W hSw=>by obtain⟨h1,h2,h3,h4⟩:=hSw;go_simp⟩) hHeld ?_
   refine wpAnyH_take (i:=3) (v:=.pointer (some (adr q5 (j*4)))) rfl (by kernel_rfl) (by kernel_rfl) (by kernel_rfl) (noPanic_q _ _) (Or.inl ⟨by kernel_rfl,fun W hSw=>by obtain⟨h1,h2,h3,h4⟩:=hSw;go_simp⟩) hHeld ?_
   refine wpAnyH_take (i:=4) (v:=.agg #[.int .i64 x.s,.int .i64 x.r,.int .i64 x.v]) rfl (by kernel_rfl) (by kernel_rfl) (by kernel_rfl) (noPanic_q _ _) (Or.inl ⟨by kernel_rfl,fun W hSw=>by obtain⟨h1,h2,h3,h4⟩:=hSw;go_simp⟩) hHeld ?_
   refine wpAnyH_take (i:=5) (v:=.slice q5 P.length c5) rfl (by kernel_rfl) (by kernel_rfl) (by kernel_rfl) (noPanic_q _ _) (Or.inl ⟨by kernel_rfl,fun W hSw=>by obtain⟨h1,h2,h3,h4⟩:=hSw;go_simp⟩) hHeld ?_
   refine wpAnyH_take (i:=6) (v:=.int .i64 (j:Int)) rfl (by kernel_rfl) (by kernel_rfl) (by kernel_rfl) (noPanic_q _ _) (Or.inl ⟨by kernel_rfl,fun W hSw=>by obtain⟨h1,h2,h3,h4⟩:=hSw;go_simp⟩) hHeld ?_
   refine wpAnyH_take (i:=7) (v:=.pointer (some (adr q5 (j*4)))) rfl (by kernel_rfl) (by kernel_rfl) (by kernel_rfl) (noPanic_q _ _) (Or.inl ⟨by kernel_rfl,fun W hSw=>by obtain⟨h1,h2,h3,h4⟩:=hSw;go_simp⟩) hHeld ?_
   refine wpAnyH_take (i:=8) (v:=.pointer (some (adr q5 (j*4+3)))) rfl (by kernel_rfl) (by kernel_rfl) (by kernel_rfl) (noPanic_q _ _) (Or.inl ⟨by kernel_rfl,fun W hSw=>by obtain⟨h1,h2,h3,h4⟩:=hSw;go_simp⟩) hHeld ?_
   refine wpAnyH_take (i:=9) (v:=.int .i64 x.d) rfl (by kernel_rfl) (by kernel_rfl) (by kernel_rfl) (noPanic_q _ _) (Or.inl ⟨by kernel_rfl,fun W hSw=>by obtain⟨h1,h2,h3,h4⟩:=hSw;go_simp⟩) hHeld ?_
   refine wpAnyH_take (i:=10) (v:=.agg #[.int .i64 x.s,.int .i64 x.r,.int .i64 x.v,.int .i64 x.d]) rfl (by kernel_rfl) (by kernel_rfl) (by kernel_rfl) (noPanic_q _ _) (Or.inl ⟨by kernel_rfl,fun W hSw=>by obtain⟨h1,h2,h3,h4⟩:=hSw;go_simp⟩) hHeld ?_
   refine wpAnyH_ready (rs:=[11]) (by kernel_rfl) (by simp) (AllReadyH.cons rfl (fun K hK=>?_) AllReadyH.nil)
   go_simp
   have SA:=Lib.hid (SD.out.al #[.int .i64 0,.int .i64 0,.int .i64 0,.int .i64 0] 146 D.heap.size rfl)
   refine hK.out _ _ (HCU.out _ (SA.out.rdx 3 rfl)) (fun hHeld=>?_)
   clear hK
   obtain⟨k0,k1,k2,k3,kz,f0,f1,f2,f3⟩:=bkc0c1c2c3lz0z1z2z3 (SA.out.blk 0 rfl)
   clear SD
   generalize D.alloc (.cells #[.int .i64 0,.int .i64 0,.int .i64 0,.int .i64 0] 146)=E at *
   generalize D.heap.size=gx at *
   refine wpAnyH_ready (rs:=[12]) (by kernel_rfl) (by simp) (AllReadyH.cons rfl (fun K hK=>?_) AllReadyH.nil)
   go_simp
   have SX:=Lib.hid (show Sep w ((((E.setCell ⟨gx,0,none⟩ (.int .i64 x.s)).setCell ⟨gx,1,none⟩ (.int .i64 x.r)).setCell ⟨gx,2,none⟩ (.int .i64 x.v)).setCell ⟨gx,3,none⟩ (.int .i64 x.d)) [.blk gx 146 #[.int .i64 x.s,.int .i64 x.r,.int .i64 x.v,.int .i64 x.d],.own 146 4 qn (ns+j) dn (encQ (putKs st (P.take j))),.own 138 4 qs ms ds (encQ ((P.take j).flatMap F)),.own 138 4 q5 P.length c5 (encQ P),.blk (w.heap.size+1) 27 #[.slice po no co,.slice pt nt ct,.slice pr nr cr,.slice pv nv cv],.blk w.heap.size 24 #[.int .i64 k,.int .i64 f,.int .i64 t,.slice pw nw cw,.int .i64 rad,.int .i64 most]] from(((SA.out.set 0 rfl 0 (.int .i64 x.s)).set 0 rfl 1 (.int .i64 x.r)).set 0 rfl 2 (.int .i64 x.v)).set 0 rfl 3 (.int .i64 x.d))
   clear hHeld
   refine hK.out _ _ (HCU.out _ (SX.out.rdx 3 rfl)) (fun hHeld=>?_)
   clear hK hHeld k0 k1 k2 k3 kz f0 f1 f2 f3 SA
   refine wpAnyH_done (by kernel_rfl) ?_ _
   refine noPanic_mk ?_
   generalize (((E.setCell ⟨gx,0,none⟩ (.int .i64 x.s)).setCell ⟨gx,1,none⟩ (.int .i64 x.r)).setCell ⟨gx,2,none⟩ (.int .i64 x.v)).setCell ⟨gx,3,none⟩ (.int .i64 x.d)=W1 at SX ⊢
   have S2:=SX
   clear SX
   obtain⟨y0,y1,y2,y3,yz⟩:=bkc0c1c2c3l (S2.out.blk 0 rfl)
   obtain⟨b0,b1,b2,b3,bz⟩:=bkc0c1c2c3l (S2.out.blk 4 rfl)
   obtain⟨a0,a1,a2,a3,a4,a5,az⟩:=bkc0c1c2c3c4c5l (S2.out.blk 5 rfl)
   try simp [Act.put]
   have hll:=HLL.out
   have hms2:=HJ.out
   go_wp2_with (first
    | (at_builtin;have _t:=S4;go_must (refine wpList_append_sep rfl _ _ _ rfl 138 i0 _ 4 32 Tryz.underlying83 hi0 hz0 hz1 hz2 rfl (by omega) S4.out 4 qs ms ds _ rfl rfl _ _ _ (encQ L) rfl (S4.out.rdx 1 rfl) (one_encQ _) (by omega) (by omega) ?_;intro q7 c7 w7 S' hsz;have S5:=Lib.hid S';clear S' hsz))
    | (go_at_call 102;have _t:=S3;go_must (refine(HPU.out _ (S3.out.rdx 2 rfl)).mono ?_;rintro e w4 ⟨q4,c4',rfl,Z⟩;have S4:=Lib.hid (S3.out.comp Z);clear Z))
    | (go_at_call 101;go_must (refine(HNX.out _ S2.out.ext).mono ?_;rintro e w3 ⟨q3,c3',rfl,Z⟩;have S3:=Lib.hid (S2.out.comp Z);clear a0 a1 a2 a3 a4 a5 az b0 b1 b2 b3 bz;clear y0 y1 y2 y3 yz;obtain⟨y0,y1,y2,y3,yz⟩:=bkc0c1c2c3l (S3.out.blk 1 rfl);clear Z)))
   go_roundw
   case rel=>exact⟨j+1,ms+L.length,q4,c4',q7,c7,by omega,by omega,by go_num,rfl,rfl,by rw [HK1.out,HK2.out];exact S5.out.pick [0,4,5,6,7] (by decide) rfl⟩
   case measure=>simp [intOf];omega
  ·obtain rfl:j=P.length:=by omega
   rw [List.take_length] at S
   have HL1:Hid (ns+P.length=(putKs st P).length):=(S.rdx 0 rfl).nQ
   have HFR:=Lib.hid (fun W (h:Ext wr W)=>Fresh19 qn (ns+P.length) dn (putKs st P) qs ms ds (P.flatMap F) W ((S.rdx 0 rfl).ext h) ((S.rdx 1 rfl).ext h) (by omega))
   have SH:=Lib.hid S
   clear S
   go_wp2_with (go_at_call 100;go_must (refine(HFR.out _ (Below.refl _ _)).mono ?_;rintro e w3 ⟨q3,c3',rfl,Z⟩;have S3:=Lib.hid (SH.out.comp Z);clear Z))
   go_ret3
   rw [← HL1.out]
   exact⟨qn,dn,q3,c3',rfl,S3.out.pick [1,0] (by decide) rfl⟩
end
section
open Go Go.RowKit
theorem Place18 (v n:Int) (w:World):Calls Tryz.prog 132 #[.int .i64 v,.int .i64 n] w fun e w'=>e=.returned (.bool (plcB v n))∧w=w':=by
 by_cases h:0≤v
 ·go_enter Tryz.func132,Tryz.ntmps132
  go_wp2
  go_ret
  exact⟨ret_bool (by unfold plcB;simp [h]),rfl⟩
 ·have e0:decide (0≤v)=false:=by simpa using h
  go_enter Tryz.func132,Tryz.ntmps132
  go_wp2
  go_ret
  exact⟨ret_bool (by unfold plcB;rw [e0];rfl),rfl⟩
theorem Start18 (k f t:Int) (pw:Option Addr) (nw cw:Nat) (rad most s:Int) (w:World) :
  Calls Tryz.prog 54 #[.agg #[.int .i64 k,.int .i64 f,.int .i64 t,.slice pw nw cw,.int .i64 rad,.int .i64 most],.int .i64 s] w fun e w'=>∃ q c,e=.returned (.slice q (startQ k f t s).length c)∧Sep w w' [.own 138 4 q (startQ k f t s).length c (encQ (startQ k f t s))]:=by
 obtain⟨i0,hi0,hz0,hz1,hz2⟩:=info_parts infMail
 have S0:=Lib.hid ((Sep.start w).al #[.int .i64 k,.int .i64 f,.int .i64 t,.slice pw nw cw,.int .i64 rad,.int .i64 most] 24 w.heap.size rfl)
 by_cases h0:k<1
 ·have HQ:Hid (startQ k f t s=[]):=by unfold Hid startQ;rw [if_neg (by omega),if_neg (by omega)]
  rw [HQ.out]
  go_enter Tryz.func54,Tryz.ntmps54
  go_wp2
  go_ret
  exact⟨none,0,rfl,(S0.out.nilrow _ _).pick [0] (by decide) rfl⟩
 ·have e0:decide (k<1)=false:=by simpa using h0
  by_cases h3:3<k
  ·have e3:decide (3<k)=true:=by simpa using h3
   have HQ:Hid (startQ k f t s=[]):=by unfold Hid startQ;rw [if_neg (by omega),if_neg (by omega)]
   rw [HQ.out]
   go_enter Tryz.func54,Tryz.ntmps54
   go_wp2
   go_ret
   exact⟨none,0,rfl,(S0.out.nilrow _ _).pick [0] (by decide) rfl⟩
  ·have e3:decide (3<k)=false:=by simpa using h3
   have S1:=Lib.hid (S0.out.alrw #[.int .i64 s,.int .i64 0,.int .i64 f,.int .i64 0] 138 4 1 (w.heap.size+1) (by simp) (by decide) rfl)
   by_cases k1:k=1
   ·subst k1
    have HQ:Hid (startQ 1 f t s=[⟨s,0,f,0⟩,⟨s,1,t,0⟩]):=rfl
    rw [HQ.out]
    clear h0 h3 HQ
    go_enter Tryz.func54,Tryz.ntmps54
    go_wp2_with (at_builtin;go_must (refine wpList_append_sep rfl _ _ _ rfl 138 i0 _ 4 32 Tryz.underlying83 hi0 hz0 hz1 hz2 rfl (by omega) (S1.out.junk _) 0 (some ⟨w.heap.size+1,0,none⟩) 1 1 (encQ [⟨s,0,f,0⟩]) rfl rfl _ 1 1 _ rfl (Rd.newAt _ _ _ 1 4 _ (by simp) rfl (by omega)) (one_encQ [⟨s,1,t,0⟩]) (by omega) (by omega) ?_;intro q7 c7 w7 S' hsz;have S7:=Lib.hid S';clear S' hsz))
    go_ret
    exact⟨q7,c7,rfl,S7.out.pick [0] (by decide) rfl⟩
   ·have HQ:Hid (startQ k f t s=[⟨s,0,f,0⟩]):=by unfold Hid startQ;rw [if_neg k1,if_pos (by omega)]
    have e1:(k == 1)=false:=by simpa using k1
    rw [HQ.out]
    clear h0 h3 HQ k1
    go_enter Tryz.func54,Tryz.ntmps54
    go_wp2
    go_ret
    exact⟨some ⟨w.heap.size+1,0,none⟩,1,by simp,S1.out.pick [0] (by decide) rfl⟩
theorem all_word_end {l:List ByteArray} {k:Nat} (h:¬ k<l.length) (ha:(l.take k).all wordB=true):l.all wordB=true:=by rwa [List.take_of_length_le (by omega)] at ha
theorem all_word_bad {l:List ByteArray} {k:Nat} (h:k<l.length) (hb:wordB (nth l k)=false):l.all wordB=false:=by
 rw [Bool.eq_false_iff]
 intro ha
 rw [List.all_eq_true] at ha
 have:=ha (nth l k) (by rw [nth_eq h];exact List.getElem_mem _)
 rw [hb] at this;cases this
theorem all_word_step {l:List ByteArray} {k:Nat} (h:k<l.length) (ha:(l.take k).all wordB=true) (hb:wordB (nth l k)=true):(l.take (k+1)).all wordB=true:=by
 rw [take_succ_nth l k h,List.all_append,ha];simp [hb]
theorem Check18 (k f t:Int) (pw:Option Addr) (nw cw:Nat) (ws:List ByteArray) (rad most:Int) (n:Int) (w:World) (hw:Rd w 1 pw nw (encS ws)) (hz:∀ s∈ws,s.size≤1000000) :
  Calls Tryz.prog 80 #[.agg #[.int .i64 k,.int .i64 f,.int .i64 t,.slice pw nw cw,.int .i64 rad,.int .i64 most],.int .i64 n] w fun e w'=>e=.returned (.int .i64 (chkQ k f t ws rad most n))∧Ext w w':=by
 have l1:=hw.nS
 have p1:=hw.ptr
 have n1:=hw.small
 have S0:=Lib.hid ((Sep.start w).al #[.int .i64 k,.int .i64 f,.int .i64 t,.slice pw nw cw,.int .i64 rad,.int .i64 most] 24 w.heap.size rfl)
 have HE:=Lib.hid S0.out.ext
 have HW:=Lib.hid hw
 have HZ:=Lib.hid hz
 have L1:=Lib.hid l1
 clear hz l1 hw
 by_cases h0:k<1
 ·have HF:Hid (chkQ k f t ws rad most n=180):=chkQ_no (okQ_else (by omega) (by omega))
  clear S0
  go_enter Tryz.func80,Tryz.ntmps80
  go_wp2_with (first | (go_at_call 132;refine(Place18 _ _ _).mono ?_;rintro e w' ⟨rfl,rfl⟩))
  go_ret
  exact⟨by(rw [HF.out];rfl),HE.out⟩
 ·have e0:decide (k<1)=false:=by simpa using h0
  by_cases h3:3<k
  ·have e3:decide (3<k)=true:=by simpa using h3
   have HF:Hid (chkQ k f t ws rad most n=180):=chkQ_no (okQ_else (by omega) (by omega))
   clear S0
   go_enter Tryz.func80,Tryz.ntmps80
   go_wp2_with (first | (go_at_call 132;refine(Place18 _ _ _).mono ?_;rintro e w' ⟨rfl,rfl⟩))
   go_ret
   exact⟨by(rw [HF.out];rfl),HE.out⟩
  ·have e3:decide (3<k)=false:=by simpa using h3
   by_cases k3:k=3
   ·subst k3
    clear h0 h3 e0 e3
    have HO:=Lib.hid (okQ_3 (f:=f) (t:=t) (ws:=ws) (rad:=rad) (most:=most) (n:=n))
    cases h1:plcB f n with
    | false =>
     have HF:Hid (chkQ 3 f t ws rad most n=180):=chkQ_no (by rw [HO.out,h1];simp)
     go_enter Tryz.func80,Tryz.ntmps80
     go_wp2_with (first | (go_at_call 132;refine(Place18 _ _ _).mono ?_;rintro e w' ⟨rfl,rfl⟩))
     go_ret
     exact⟨by(rw [HF.out];rfl),HE.out⟩
    | true =>
     rw [h1,Bool.true_and] at HO
     by_cases c1:nw<1
     ·have HM:manyB ws=false:=by unfold manyB;rw [← L1.out];simp [Nat.not_le.2 c1]
      have HF:Hid (chkQ 3 f t ws rad most n=180):=chkQ_no (by rw [HO.out,HM];simp)
      have e:decide ((nw:Int)<1)=true:=by simp;omega
      clear HM
      go_enter Tryz.func80,Tryz.ntmps80
      go_wp2_with (first | (go_at_call 132;refine(Place18 _ _ _).mono ?_;rintro e w' ⟨rfl,rfl⟩))
      go_ret
      exact⟨by(rw [HF.out];rfl),HE.out⟩
     ·have e4:decide ((nw:Int)<1)=false:=by simp;omega
      have e4n:decide (nw<1)=false:=by simpa using c1
      by_cases c2:8<nw
      ·have HM:manyB ws=false:=by unfold manyB;rw [← L1.out];simp [Nat.not_le.2 c2]
       have HF:Hid (chkQ 3 f t ws rad most n=180):=chkQ_no (by rw [HO.out,HM];simp)
       have e:decide ((8:Int)<(nw:Int))=true:=by simp;omega
       clear HM
       go_enter Tryz.func80,Tryz.ntmps80
       go_wp2_with (first | (go_at_call 132;refine(Place18 _ _ _).mono ?_;rintro e w' ⟨rfl,rfl⟩))
       go_ret
       exact⟨by(rw [HF.out];rfl),HE.out⟩
      ·have e5:decide ((8:Int)<(nw:Int))=false:=by simp;omega
       have e5n:decide (8<nw)=false:=by simpa using c2
       by_cases r1:rad<0
       ·have HF:Hid (chkQ 3 f t ws rad most n=180):=chkQ_no (by rw [HO.out];unfold numB;rw [decide_eq_false (Int.not_le.2 r1)];simp)
        go_enter Tryz.func80,Tryz.ntmps80
        go_wp2_with (first | (go_at_call 132;refine(Place18 _ _ _).mono ?_;rintro e w' ⟨rfl,rfl⟩))
        go_ret
        exact⟨by(rw [HF.out];rfl),HE.out⟩
       ·have e6:decide (rad<0)=false:=by simpa using r1
        by_cases r2:200<rad
        ·have HF:Hid (chkQ 3 f t ws rad most n=180):=chkQ_no (by rw [HO.out];unfold numB;rw [decide_eq_false (Int.not_le.2 r2)];simp)
         go_enter Tryz.func80,Tryz.ntmps80
         go_wp2_with (first | (go_at_call 132;refine(Place18 _ _ _).mono ?_;rintro e w' ⟨rfl,rfl⟩))
         go_ret
         exact⟨by(rw [HF.out];rfl),HE.out⟩
        ·have e7:decide (200<rad)=false:=by simpa using r2
         by_cases m1:most<1
         ·have HF:Hid (chkQ 3 f t ws rad most n=180):=chkQ_no (by rw [HO.out];unfold numB;rw [decide_eq_false (Int.not_le.2 m1)];simp)
          go_enter Tryz.func80,Tryz.ntmps80
          go_wp2_with (first | (go_at_call 132;refine(Place18 _ _ _).mono ?_;rintro e w' ⟨rfl,rfl⟩))
          go_ret
          exact⟨by(rw [HF.out];rfl),HE.out⟩
         ·have e8:decide (most<1)=false:=by simpa using m1
          by_cases m2:100<most
          ·have HF:Hid (chkQ 3 f t ws rad most n=180):=chkQ_no (by rw [HO.out];unfold numB;rw [decide_eq_false (Int.not_le.2 m2)];simp)
           go_enter Tryz.func80,Tryz.ntmps80
           go_wp2_with (first | (go_at_call 132;refine(Place18 _ _ _).mono ?_;rintro e w' ⟨rfl,rfl⟩))
           go_ret
           exact⟨by(rw [HF.out];rfl),HE.out⟩
          ·have e9:decide (100<most)=false:=by simpa using m2
           have HOK:Hid (chkQ 3 f t ws rad most n=if ws.all wordB=true then 0 else 180):=by
            have hn:numB rad most=true:=by unfold numB;simp;omega
            have hm:manyB ws=ws.all wordB:=by unfold manyB;rw [← L1.out];simp;omega
            unfold Hid chkQ
            rw [HO.out,hn,hm,Bool.and_true]
           clear HO c1 c2 r1 r2 m1 m2
           go_enter Tryz.func80,Tryz.ntmps80
           go_wp2_with (first | (go_at_call 132;refine(Place18 _ _ _).mono ?_;rintro e w' ⟨rfl,rfl⟩))
           go_loopw [5] (fun i wr=>∃ j:Nat,j≤nw∧i=.int .i64 j∧Hid ((ws.take j).all wordB=true)∧Sep w wr [.blk w.heap.size 24 #[.int .i64 3,.int .i64 f,.int .i64 t,.slice pw nw cw,.int .i64 rad,.int .i64 most]]) (fun i _=>nw - (intOf i).toNat)
           case atStart=>exact⟨0,Nat.zero_le _,rfl,rfl,S0.out⟩
           case round =>
            obtain⟨j,hj,rfl,HA,S⟩:=hrel
            clear S0
            obtain⟨b3,bz⟩:=bkc3l (S.blk 0 rfl)
            by_cases hlt:j<nw
            ·have g1:=(HW.out.ext S.ext).cS hlt
             have hjl:j<ws.length:=by rw [← L1.out];exact hlt
             have hsz:(nth ws j).size≤140737488355328:=by
              have:=HZ.out (nth ws j) (by rw [nth_eq hjl];exact List.getElem_mem _)
              omega
             cases hb:wordB (nth ws j) with
             | true =>
              have HS:=Lib.hid (all_word_step hjl HA.out hb)
              clear hjl
              go_wp2_with (go_at_call 133;refine(Word02 _ _ hsz).mono ?_;rintro e w' ⟨rfl,rfl⟩)
              go_roundw
              case rel=>exact⟨j+1,by omega,by go_num,HS,S⟩
              case measure=>simp [intOf];omega
             | false =>
              have HS:=Lib.hid (all_word_bad hjl hb)
              clear hjl
              go_wp2_with (go_at_call 133;refine(Word02 _ _ hsz).mono ?_;rintro e w' ⟨rfl,rfl⟩)
              go_ret
              exact⟨by(rw [HOK.out,HS.out];rfl),S.ext⟩
            ·go_wp2
             go_ret
             exact⟨by(rw [HOK.out,if_pos (all_word_end (by rw [← L1.out];exact hlt) HA.out)];rfl),S.ext⟩
   ·have e1:decide (k<3)=true:=by simp;omega
    have HO:=Lib.hid (okQ_12 (f:=f) (t:=t) (ws:=ws) (rad:=rad) (most:=most) (n:=n) (show k=1∨k=2 by omega))
    cases h1:plcB f n with
    | false =>
     have HF:Hid (chkQ k f t ws rad most n=180):=chkQ_no (by rw [HO.out,h1];rfl)
     clear S0 HO
     go_enter Tryz.func80,Tryz.ntmps80
     go_wp2_with (first | (go_at_call 132;refine(Place18 _ _ _).mono ?_;rintro e w' ⟨rfl,rfl⟩))
     go_ret
     exact⟨by(rw [HF.out];rfl),HE.out⟩
    | true =>
     cases h2:plcB t n with
     | false =>
      have HF:Hid (chkQ k f t ws rad most n=180):=chkQ_no (by rw [HO.out,h1,h2];rfl)
      clear S0 HO
      go_enter Tryz.func80,Tryz.ntmps80
      go_wp2_with (first | (go_at_call 132;refine(Place18 _ _ _).mono ?_;rintro e w' ⟨rfl,rfl⟩))
      go_ret
      exact⟨by(rw [HF.out];rfl),HE.out⟩
     | true =>
      have HF:Hid (chkQ k f t ws rad most n=0):=chkQ_yes (by rw [HO.out,h1,h2];rfl)
      clear S0 HO
      go_enter Tryz.func80,Tryz.ntmps80
      go_wp2_with (first | (go_at_call 132;refine(Place18 _ _ _).mono ?_;rintro e w' ⟨rfl,rfl⟩))
      go_ret
      exact⟨by(rw [HF.out];rfl),HE.out⟩
end
section
open Go Go.RowKit
theorem StepRunR (k f t:Int) (pw:Option Addr) (nw cw:Nat) (rad most:Int) (po:Option Addr) (no co:Nat) (O:List Int) (pt:Option Addr) (nt ct:Nat) (T:List Int) (pr:Option Addr) (nr cr:Nat) (R:List Int) (pv:Option Addr) (nv cv:Nat) (V:List Int) (w:World) (n i:Nat) (p:List Sq × List Sq) (ps:Option Addr) (ns cs:Nat) (pm:Option Addr) (nm cm:Nat) (wk:Nat) (hO:Rd w 1 po no (encI O)) (hT:Rd w 1 pt nt (encI T)) (hR:Rd w 1 pr nr (encI R)) (hV:Rd w 1 pv nv (encI V)) (hct:nt≤ct) (hcv:nv≤cv)
  (hck:checkR O T R V=true) (hn:O.length=n+1) (h200:n≤200) (hi:i≤200) (hI:RunI n i p) (h1:1≤wk) (h16:wk≤16) (hs:Rd w 4 ps ns (encQ p.1)) (hm:Rd w 4 pm nm (encQ p.2)) :
  Calls Tryz.prog 55 #[.agg #[.int .i64 k,.int .i64 f,.int .i64 t,.slice pw nw cw,.int .i64 rad,.int .i64 most],.agg #[.slice po no co,.slice pt nt ct,.slice pr nr cr,.slice pv nv cv],.slice ps ns cs,.slice pm nm cm,.int .i64 wk] w fun e w'=>∃ q c q2 c2,e=.returned (.tuple #[.slice q (stepM (nextL k rad true O T R V) p.1 p.2).1.length c,.slice q2 (stepM (nextL k rad true O T R V) p.1 p.2).2.length c2,.int .i64 0]) ∧
   Sep w w' [.own 146 4 q (stepM (nextL k rad true O T R V) p.1 p.2).1.length c (encQ (stepM (nextL k rad true O T R V) p.1 p.2).1),.own 138 4 q2 (stepM (nextL k rad true O T R V) p.1 p.2).2.length c2 (encQ (stepM (nextL k rad true O T R V) p.1 p.2).2)]:=by
 have hl:Leads n (nextL k rad true O T R V):=next_leads hck hn
 have hms:∀ x∈p.2,mayB x=true∧x.v<n:=fun x hx=>by
  obtain⟨a,b⟩:=hI.ms x hx
  exact⟨may_run a h200 (by omega) (by omega),a.2.2.2⟩
 refine Step19 k f t pw nw cw rad most po no co pt nt ct pr nr cr pv nv cv n (nextL k rad true O T R V) ps ns cs p.1 pm nm cm p.2 wk w (by rw [hO.nI,hn]) h200 h1 h16 hs hm hI.kst
  (fun x hx=>by
   obtain⟨a,b,c⟩:=hI.st x hx
   exact⟨may_run a h200 (by omega) (by omega),a.2.2.2⟩) hms (fun x hx=>Nat.le_trans (next_up hck hn (hI.ms x hx).1) h200)
  (by rw [hs.nQ];have:=run_most hI.kst (fun x hx=>(hI.st x hx).1);omega) (by rw [hm.nQ];have:=run_most hI.kms (fun x hx=>(hI.ms x hx).1);omega)
  (fun W h=>?_) (fun x hx W h=>?_)
 ·have:=Check04 po no co O pt nt ct T pr nr cr R pv nv cv V W (hO.ext h) (hT.ext h) (hR.ext h) (hV.ext h) hct hcv
  rw [hck] at this
  exact this
 ·have hN:=Next18 k f t pw nw cw rad most po no co O pt nt ct T pr nr cr R pv nv cv V W x.s x.r x.v x.d (hO.ext h) (hT.ext h) (hR.ext h) (hV.ext h) hct hcv (fun v _=>by
   rw [hck]
   have:=out_2000 hck v
   omega)
  obtain⟨a1,a2⟩:=hI.ms x hx
  obtain⟨x1,x2,x3,x4⟩:=a1
  have hc:nextC true O R ⟨x.s,x.r,x.v,x.d⟩=0:=by
   obtain⟨e1,_⟩:=checkR_half hck
   have hb:outB true (if x.r=1 then R else O) x.v=true:=by
    rw [outB_iff]
    split
    ·refine⟨rfl,x3,?_⟩;omega
    ·refine⟨rfl,x3,?_⟩;omega
   unfold nextC
   rw [hb]
   exact nxC_0 ⟨rfl,x2,by show 0≤x.d;omega,by show x.d≤200;omega⟩
  rw [hck,hc] at hN
  exact hN
theorem Check20 (k f t:Int) (pw:Option Addr) (nw cw:Nat) (ws:List ByteArray) (rad most:Int) (po:Option Addr) (no co:Nat) (O:List Int) (pt:Option Addr) (nt ct:Nat) (T:List Int) (pr:Option Addr) (nr cr:Nat) (R:List Int) (pv:Option Addr) (nv cv:Nat) (V:List Int) (w:World) (hO:Rd w 1 po no (encI O)) (hT:Rd w 1 pt nt (encI T)) (hR:Rd w 1 pr nr (encI R)) (hV:Rd w 1 pv nv (encI V)) (hct:nt≤ct) (hcv:nv≤cv) (hW:Rd w 1 pw nw (encS ws)) (hz:∀ s∈ws,s.size≤1000000) (h1000:no≤1000) :
  Calls Tryz.prog 53 #[.agg #[.int .i64 k,.int .i64 f,.int .i64 t,.slice pw nw cw,.int .i64 rad,.int .i64 most],.agg #[.slice po no co,.slice pt nt ct,.slice pr nr cr,.slice pv nv cv]] w fun e w'=>e=.returned (.int .i64 (chkJ (checkR O T R V) k f t ws rad most no))∧Ext w w':=by
 have HCK:=Lib.hid (fun W (h:Ext w W)=>Check04 po no co O pt nt ct T pr nr cr R pv nv cv V W (hO.ext h) (hT.ext h) (hR.ext h) (hV.ext h) hct hcv)
 have HQ:=Lib.hid (fun W (h:Ext w W)=>Check18 k f t pw nw cw ws rad most ((no:Int) - 1) W (hW.ext h) hz)
 have S0:=Lib.hid (((Sep.start w).al #[.int .i64 k,.int .i64 f,.int .i64 t,.slice pw nw cw,.int .i64 rad,.int .i64 most] 24 w.heap.size rfl).al #[.slice po no co,.slice pt nt ct,.slice pr nr cr,.slice pv nv cv] 27 (w.heap.size+1) (by simp))
 clear hO hT hR hV hct hcv hW hz
 obtain⟨ck,hck⟩:∃ ck,checkR O T R V=ck:=⟨_,rfl⟩
 rw [hck] at HCK ⊢
 obtain⟨x,hx⟩:∃ x,chkQ k f t ws rad most ((no:Int) - 1)=x:=⟨_,rfl⟩
 rw [hx] at HQ
 have e1:chkJ ck k f t ws rad most no=if ck=true then x else 40:=by unfold chkJ;rw [hx]
 rw [e1]
 clear e1 hx hck
 go_enter Tryz.func53,Tryz.ntmps53
 cases ck with
 | false =>
  go_wp2_with (go_at_call 96;go_must (refine(HCK.out _ S0.out.ext).mono ?_;rintro e w1 ⟨rfl,hb⟩;have S1:=Lib.hid (S0.out.call hb);clear hb))
  go_ret
  exact⟨rfl,S1.out.ext⟩
 | true =>
  go_wp2_with (first | (go_at_call 96;go_must (refine(HCK.out _ S0.out.ext).mono ?_;rintro e w1 ⟨rfl,hb⟩;have S1:=Lib.hid (S0.out.call hb);obtain⟨b0,b1,b2,b3,b4,b5,bz⟩:=bkc0c1c2c3c4c5l (S1.out.blk 1 rfl);obtain⟨c0,cz⟩:=bkc0l (S1.out.blk 0 rfl);clear hb)) | (go_at_call 80;go_must (refine(HQ.out _ S1.out.ext).mono ?_;rintro e w2 ⟨rfl,hb⟩;have S2:=Lib.hid (S1.out.call hb);clear hb)))
  go_ret
  exact⟨rfl,S2.out.ext⟩
theorem RunRefErr (k f t:Int) (pw:Option Addr) (nw cw:Nat) (ws:List ByteArray) (rad most:Int) (po:Option Addr) (no co:Nat) (O:List Int) (pt:Option Addr) (nt ct:Nat) (T:List Int) (pr:Option Addr) (nr cr:Nat) (R:List Int) (pv:Option Addr) (nv cv:Nat) (V:List Int) (w:World) (pl:Option Addr) (nl cl:Nat) (wv bud:Int) (hO:Rd w 1 po no (encI O)) (hT:Rd w 1 pt nt (encI T)) (hR:Rd w 1 pr nr (encI R)) (hV:Rd w 1 pv nv (encI V)) (hct:nt≤ct) (hcv:nv≤cv)
  (hW:Rd w 1 pw nw (encS ws)) (hz:∀ s∈ws,s.size≤1000000) (h1000:no≤1000)
  (h:chkJ (checkR O T R V) k f t ws rad most no≠0∨¬ (1≤wv∧wv≤16)∨bud<1) :
  Calls Tryz.prog 18 #[.agg #[.int .i64 k,.int .i64 f,.int .i64 t,.slice pw nw cw,.int .i64 rad,.int .i64 most],.agg #[.slice po no co,.slice pt nt ct,.slice pr nr cr,.slice pv nv cv],.slice pl nl cl,.int .i64 wv,.int .i64 bud] w (RunQ false 0 [] 0 (if chkJ (checkR O T R V) k f t ws rad most no≠0 then chkJ (checkR O T R V) k f t ws rad most no else 1) w):=by
 have HCJ:=Lib.hid (fun W (h:Ext w W)=>Check20 k f t pw nw cw ws rad most po no co O pt nt ct T pr nr cr R pv nv cv V W (hO.ext h) (hT.ext h) (hR.ext h) (hV.ext h) hct hcv (hW.ext h) hz h1000)
 obtain⟨E,hE⟩:∃ E,chkJ (checkR O T R V) k f t ws rad most no=E:=⟨_,rfl⟩
 rw [hE] at HCJ h ⊢
 have S0:=Lib.hid ((((Sep.start w).al #[.int .i64 k,.int .i64 f,.int .i64 t,.slice pw nw cw,.int .i64 rad,.int .i64 most] 24 w.heap.size rfl).al #[.slice po no co,.slice pt nt ct,.slice pr nr cr,.slice pv nv cv] 27 (w.heap.size+1) (by simp)).al #[.bool false,.int .i64 0,.slice none 0 0] 34 (w.heap.size+1+1) (by simp))
 clear hO hT hR hV hct hcv hW hz hE h1000
 by_cases h0:E=0
 ·subst h0
  rw [if_neg (by simp)]
  by_cases h1:wv<1
  ·clear h
   go_enter Tryz.func18,Tryz.ntmps18
   go_wp2_with (go_at_call 53;go_must (refine(HCJ.out _ S0.out.ext).mono ?_;rintro e w1 ⟨rfl,hb⟩;have S1:=Lib.hid (S0.out.call hb);obtain⟨y0,y1,y2,yz,f0,f1,f2⟩:=bkc0c1c2lz0z1z2 (S1.out.blk 0 rfl);obtain⟨b0,b1,b2,b3,bz⟩:=bkc0c1c2c3l (S1.out.blk 1 rfl);obtain⟨a0,a1,a2,a3,a4,a5,az⟩:=bkc0c1c2c3c4c5l (S1.out.blk 2 rfl);clear hb))
   have S9:=Lib.hid (((S1.out.set 0 rfl 0 (.bool false)).set 0 rfl 1 (.int .i64 0)).set 0 rfl 2 (.slice none 0 0))
   obtain⟨x0,x1,x2⟩:=bkc0c1c2 (S9.out.blk 0 rfl)
   refine bodyPost_ret (v:=.tuple #[.agg #[.bool false,.int .i64 0,.slice none 0 0],.int .i64 0,.int .i64 1]) (by simp [results,Tryz.results18,go_sem,x0,x1,x2,Tryz.sizeOf34,Tryz.isAgg34]) rfl ?_
   have SN:=((S9.out.nilrow 105 2).pick (Δ:=[Pc.own 105 2 none 0 0 (encE [])]) [0] (by decide) rfl)
   exact⟨none,0,rfl,SN⟩
  ·have e1:decide (wv<1)=false:=by simpa using h1
   by_cases h2:16<wv
   ·clear h
    have e2:decide (16<wv)=true:=by simpa using h2
    go_enter Tryz.func18,Tryz.ntmps18
    go_wp2_with (go_at_call 53;go_must (refine(HCJ.out _ S0.out.ext).mono ?_;rintro e w1 ⟨rfl,hb⟩;have S1:=Lib.hid (S0.out.call hb);obtain⟨y0,y1,y2,yz,f0,f1,f2⟩:=bkc0c1c2lz0z1z2 (S1.out.blk 0 rfl);obtain⟨b0,b1,b2,b3,bz⟩:=bkc0c1c2c3l (S1.out.blk 1 rfl);obtain⟨a0,a1,a2,a3,a4,a5,az⟩:=bkc0c1c2c3c4c5l (S1.out.blk 2 rfl);clear hb))
    have S9:=Lib.hid (((S1.out.set 0 rfl 0 (.bool false)).set 0 rfl 1 (.int .i64 0)).set 0 rfl 2 (.slice none 0 0))
    obtain⟨x0,x1,x2⟩:=bkc0c1c2 (S9.out.blk 0 rfl)
    refine bodyPost_ret (v:=.tuple #[.agg #[.bool false,.int .i64 0,.slice none 0 0],.int .i64 0,.int .i64 1]) (by simp [results,Tryz.results18,go_sem,x0,x1,x2,Tryz.sizeOf34,Tryz.isAgg34]) rfl ?_
    have SN:=((S9.out.nilrow 105 2).pick (Δ:=[Pc.own 105 2 none 0 0 (encE [])]) [0] (by decide) rfl)
    exact⟨none,0,rfl,SN⟩
   ·have e2:decide (16<wv)=false:=by simpa using h2
    have h3:bud<1:=by omega
    clear h
    go_enter Tryz.func18,Tryz.ntmps18
    go_wp2_with (go_at_call 53;go_must (refine(HCJ.out _ S0.out.ext).mono ?_;rintro e w1 ⟨rfl,hb⟩;have S1:=Lib.hid (S0.out.call hb);obtain⟨y0,y1,y2,yz,f0,f1,f2⟩:=bkc0c1c2lz0z1z2 (S1.out.blk 0 rfl);obtain⟨b0,b1,b2,b3,bz⟩:=bkc0c1c2c3l (S1.out.blk 1 rfl);obtain⟨a0,a1,a2,a3,a4,a5,az⟩:=bkc0c1c2c3c4c5l (S1.out.blk 2 rfl);clear hb))
    have S9:=Lib.hid (((S1.out.set 0 rfl 0 (.bool false)).set 0 rfl 1 (.int .i64 0)).set 0 rfl 2 (.slice none 0 0))
    obtain⟨x0,x1,x2⟩:=bkc0c1c2 (S9.out.blk 0 rfl)
    refine bodyPost_ret (v:=.tuple #[.agg #[.bool false,.int .i64 0,.slice none 0 0],.int .i64 0,.int .i64 1]) (by simp [results,Tryz.results18,go_sem,x0,x1,x2,Tryz.sizeOf34,Tryz.isAgg34]) rfl ?_
    have SN:=((S9.out.nilrow 105 2).pick (Δ:=[Pc.own 105 2 none 0 0 (encE [])]) [0] (by decide) rfl)
    exact⟨none,0,rfl,SN⟩
 ·rw [if_pos h0]
  have d1:decide (E=0)=false:=by simpa using h0
  have d2:(E == 0)=false:=by simpa using h0
  clear h h0
  go_enter Tryz.func18,Tryz.ntmps18
  go_wp2_with (go_at_call 53;go_must (refine(HCJ.out _ S0.out.ext).mono ?_;rintro e w1 ⟨rfl,hb⟩;have S1:=Lib.hid (S0.out.call hb);obtain⟨y0,y1,y2,yz,f0,f1,f2⟩:=bkc0c1c2lz0z1z2 (S1.out.blk 0 rfl);obtain⟨b0,b1,b2,b3,bz⟩:=bkc0c1c2c3l (S1.out.blk 1 rfl);obtain⟨a0,a1,a2,a3,a4,a5,az⟩:=bkc0c1c2c3c4c5l (S1.out.blk 2 rfl);clear hb))
  have S9:=Lib.hid (((S1.out.set 0 rfl 0 (.bool false)).set 0 rfl 1 (.int .i64 0)).set 0 rfl 2 (.slice none 0 0))
  obtain⟨x0,x1,x2⟩:=bkc0c1c2 (S9.out.blk 0 rfl)
  refine bodyPost_ret (v:=.tuple #[.agg #[.bool false,.int .i64 0,.slice none 0 0],.int .i64 0,.int .i64 E]) (by simp [results,Tryz.results18,go_sem,x0,x1,x2,Tryz.sizeOf34,Tryz.isAgg34]) rfl ?_
  have SN:=((S9.out.nilrow 105 2).pick (Δ:=[Pc.own 105 2 none 0 0 (encE [])]) [0] (by decide) rfl)
  exact⟨none,0,rfl,SN⟩
theorem runR_mk {k t:Int} {L:List Po} {ws:List ByteArray} {most bud:Int} {m:Nat} {p:List Sq × List Sq} {w:World} {x:Ending} {w':World} (h:∃ b d F,((m:Int)+1≤bud→AnsD k t L ws most p b d F∧RunQ b d F ((m:Int)+1) 0 w x w')∧(bud<(m:Int)+1→RunQ false 0 [] bud 251 w x w')):RunR k t L ws most bud m p w x w':=h
theorem RunRefOk (k f t:Int) (pw:Option Addr) (nw cw:Nat) (ws:List ByteArray) (rad most:Int) (po:Option Addr) (no co:Nat) (O:List Int) (pt:Option Addr) (nt ct:Nat) (T:List Int) (pr:Option Addr) (nr cr:Nat) (R:List Int) (pv:Option Addr) (nv cv:Nat) (V:List Int) (w:World) (pl:Option Addr) (nl cl:Nat) (hs:List Hd) (L:List Po) (wk:Nat) (bud:Int) (n m:Nat) (rn:Nat→List Sq × List Sq) (hO:Rd w 1 po no (encI O)) (hT:Rd w 1 pt nt (encI T)) (hR:Rd w 1 pr nr (encI R)) (hV:Rd w 1 pv nv (encI V)) (hct:nt≤ct) (hcv:nv≤cv)
  (hL:RdP w pl nl hs L) (hW:Rd w 1 pw nw (encS ws)) (hz:∀ s∈ws,s.size≤1000000) (hck:checkR O T R V=true) (hn:O.length=n+1) (h200:n≤200) (h1:1≤wk) (h16:wk≤16) (hq:chkQ k f t ws rad most (n:Int)=0)
  (hb1:1≤bud) (hb2:bud≤9223372036854775807) (hm:m<200) (hk:k=1∨k=2∨k=3) (ht:I64 t) (hcw:nw≤cw) (hnw:nw≤100) (hok:PoOk L)
  (hr0:rn 0=([],startQ k f t 0)) (hrn:∀ i,RunI n i (rn i)) (hrs:∀ i,rn (i+1)=stepM (nextL k rad true O T R V) (rn i).1 (rn i).2)
  (hdn:doneB k t (rn (m+1))=true) (hfn:∀ j,j<m→doneB k t (rn (j+1))=false) :
  Calls Tryz.prog 18 #[.agg #[.int .i64 k,.int .i64 f,.int .i64 t,.slice pw nw cw,.int .i64 rad,.int .i64 most],.agg #[.slice po no co,.slice pt nt ct,.slice pr nr cr,.slice pv nv cv],.slice pl nl cl,.int .i64 wk,.int .i64 bud] w (RunR k t L ws most bud m (rn (m+1)) w):=by
 have hno:=hO.nI
 have hcj:chkJ (checkR O T R V) k f t ws rad most no=0:=by
  unfold chkJ
  rw [if_pos hck,hno,hn]
  have e:(((n+1:Nat):Int) - 1)=(n:Int):=by omega
  rw [e];exact hq
 have HCJ:=Lib.hid (fun W (h:Ext w W)=>Check20 k f t pw nw cw ws rad most po no co O pt nt ct T pr nr cr R pv nv cv V W (hO.ext h) (hT.ext h) (hR.ext h) (hV.ext h) hct hcv (hW.ext h) hz (by omega))
 rw [hcj] at HCJ
 have HST:=Lib.hid (fun i (hi:i≤200) (W:World) (E:Ext w W) (ps:Option Addr) (ns cs:Nat) (pm:Option Addr) (nm cm:Nat) (hs:Rd W 4 ps ns (encQ (rn i).1)) (hm:Rd W 4 pm nm (encQ (rn i).2)) =>
  StepRunR k f t pw nw cw rad most po no co O pt nt ct T pr nr cr R pv nv cv V W n i (rn i) ps ns cs pm nm cm wk (hO.ext E) (hT.ext E) (hR.ext E) (hV.ext E) hct hcv hck hn h200 hi (hrn i) h1 h16 hs hm)
 have HLN:=Lib.hid (fun i=>show (rn i).1.length≤400 by have:=run_most (hrn i).kst (fun x hx=>((hrn i).st x hx).1);omega)
 have hdne:∀ i (hi:i≤200) (ps:Option Addr) (ns cs:Nat) (pm:Option Addr) (nm cm:Nat),ns=(rn i).1.length→∃ b d F,AnsD k t L ws most (rn i) b d F∧∀ W,Ext w W→Rd W 4 ps ns (encQ (rn i).1)→Rd W 4 pm nm (encQ (rn i).2) →
   Calls Tryz.prog 56 #[.agg #[.int .i64 k,.int .i64 f,.int .i64 t,.slice pw nw cw,.int .i64 rad,.int .i64 most],.slice pl nl cl,.slice ps ns cs,.slice pm nm cm] W (DoneQ b d F (doneB k t (rn i)) W):=fun i hi ps ns cs pm nm cm hns=>by
  have hx:∀ x∈(rn i).1,x.I∧-1000000≤x.d∧x.d≤1000000:=fun x hx=>by
   obtain⟨⟨x1,x2,x3,x4⟩,x5,x6⟩:=(hrn i).st x hx
   refine⟨?_,by omega,by omega⟩
   unfold Sq.I I64
   have q1:IntKind.i64.min = -9223372036854775808:=rfl
   have q2:IntKind.i64.max=9223372036854775807:=rfl
   refine⟨?_,?_,?_,?_⟩ <;> (show (_ && _)=true;simp;omega)
  obtain⟨b,d,F,hA,hD⟩:=Done_run k f t pw nw cw ws rad most pl nl cl hs L ps ns cs (rn i).1 pm nm cm (rn i).2 hk ht hcw hnw hok (fun x h=>(hx x h).1) (fun x h=>(hx x h).2) (by have:=HLN.out i;omega)
  exact⟨b,d,F,hA,fun W E g1 g2=>(hD W (hL.ext E) (hW.ext E) g1 g2).2⟩
 have HDN:=Lib.hid hdne
 have HRS:=Lib.hid hrs
 have HSQ:=Lib.hid (fun W=>Start18 k f t pw nw cw rad most 0 W)
 have HR0:=Lib.hid hr0
 have HDM:=Lib.hid hdn
 have HFN:=Lib.hid hfn
 have c3:decide ((wk:Int)<1)=false:=by simp;omega
 have c4:decide (16<(wk:Int))=false:=by simp;omega
 have c5:decide (bud<1)=false:=by simp;omega
 have S0:=Lib.hid ((((Sep.start w).al #[.int .i64 k,.int .i64 f,.int .i64 t,.slice pw nw cw,.int .i64 rad,.int .i64 most] 24 w.heap.size rfl).al #[.slice po no co,.slice pt nt ct,.slice pr nr cr,.slice pv nv cv] 27 (w.heap.size+1) (by simp)).al #[.bool false,.int .i64 0,.slice none 0 0] 34 (w.heap.size+1+1) (by simp))
 clear hO hT hR hV hct hcv hL hW hz hck hn h200 h1 h16 hq hk ht hcw hnw hok hr0 hrn hrs hdn hfn hdne hcj hno
 go_enter Tryz.func18,Tryz.ntmps18
 go_wp2_with (first
  | (go_at_call 54;have _t:=S1;go_must (refine(HSQ.out _).mono ?_;rintro e w2 ⟨q2,c2,rfl,Z⟩;have S2:=Lib.hid ((S1.out.comp Z).nilrow 146 4);clear a0 a1 a2 a3 a4 a5 az b0 b1 b2 b3 bz;clear y0 y1 y2 yz f0 f1 f2;clear Z))
  | (go_at_call 53;go_must (refine(HCJ.out _ S0.out.ext).mono ?_;rintro e w1 ⟨rfl,hb⟩;have S1:=Lib.hid (S0.out.call hb);obtain⟨y0,y1,y2,yz,f0,f1,f2⟩:=bkc0c1c2lz0z1z2 (S1.out.blk 0 rfl);obtain⟨b0,b1,b2,b3,bz⟩:=bkc0c1c2c3l (S1.out.blk 1 rfl);obtain⟨a0,a1,a2,a3,a4,a5,az⟩:=bkc0c1c2c3c4c5l (S1.out.blk 2 rfl);clear hb)))
 have S3:Hid (Sep w w2 [.own 146 4 none 0 0 (encQ (rn 0).1),.own 138 4 q2 (startQ k f t 0).length c2 (encQ (rn 0).2),.blk (w.heap.size+1+1) 34 #[.bool false,.int .i64 0,.slice none 0 0],.blk (w.heap.size+1) 27 #[.slice po no co,.slice pt nt ct,.slice pr nr cr,.slice pv nv cv],.blk w.heap.size 24 #[.int .i64 k,.int .i64 f,.int .i64 t,.slice pw nw cw,.int .i64 rad,.int .i64 most]]):=by unfold Hid;rw [HR0.out];exact S2.out
 clear S0 S1 S2 HCJ HSQ
 go_loopw [14,15,16,17,18,19,20,21] (fun sv mv i _ _ _ _ _ wr=>∃ (j:Nat) (ps:Option Addr) (ns cs:Nat) (pm:Option Addr) (nm cm:Nat),j≤m∧(j:Int)≤bud∧i=.int .i64 ((j:Int)+1)∧sv=.slice ps ns cs∧mv=.slice pm nm cm∧Hid (Sep w wr [.own 146 4 ps ns cs (encQ (rn j).1),.own 138 4 pm nm cm (encQ (rn j).2),.blk (w.heap.size+1+1) 34 #[.bool false,.int .i64 0,.slice none 0 0],.blk (w.heap.size+1) 27 #[.slice po no co,.slice pt nt ct,.slice pr nr cr,.slice pv nv cv],.blk w.heap.size 24 #[.int .i64 k,.int .i64 f,.int .i64 t,.slice pw nw cw,.int .i64 rad,.int .i64 most]])) (fun _ _ i _ _ _ _ _ _=>m+2 - (intOf i).toNat)
 case atStart=>exact⟨0,none,0,0,q2,(startQ k f t 0).length,c2,Nat.zero_le _,by omega,by simp,rfl,rfl,S3⟩
 case round =>
  clear S3
  obtain⟨j,ps,ns,cs,pm,nm,cm,hjm,hjb,rfl,rfl,rfl,SH⟩:=hrel
  have d1:(0:Int)≤(j:Int):=by omega
  have d2:(j:Int)≤1000:=by omega
  by_cases hlt:(j:Int)+1≤bud
  ·have e1:decide ((j:Int)+1≤bud)=true:=by simpa using hlt
   have HE0:=Lib.hid (HST.out j (by omega) wr SH.out.ext ps ns cs pm nm cm (SH.out.rdx 0 rfl) (SH.out.rdx 1 rfl))
   rw [← HRS.out j] at HE0
   have hDN:=HDN.out (j+1) (by omega)
   obtain⟨Y,hY⟩:∃ Y,rn (j+1)=Y:=⟨_,rfl⟩
   have HRY:=Lib.hid hY
   rw [hY] at HE0 hDN
   have HD:=Lib.hid hDN
   obtain⟨dn,hdnb⟩:∃ dn,doneB k t Y=dn:=⟨_,rfl⟩
   rw [hdnb] at HD
   have HDB:=Lib.hid hdnb
   clear hY hDN hdnb
   obtain⟨b0,b1,b2,b3,bz⟩:=bkc0c1c2c3l (SH.out.blk 3 rfl)
   obtain⟨a0,a1,a2,a3,a4,a5,az⟩:=bkc0c1c2c3c4c5l (SH.out.blk 4 rfl)
   by_cases hjm2:j=m
   ·obtain rfl:dn=true:=by rw [← HDB.out,← HRY.out,hjm2,HDM.out]
    have HJ:=Lib.hid hjm2
    clear hjm2
    go_wp2_with (first
     | (go_at_call 56;have _t:=S1;go_must (obtain⟨yb,yd,yF,hAn,hDn⟩:=HD.out q3 Y.1.length c3' q4 Y.2.length c4' rfl;refine(hDn _ S1.out.ext (S1.out.rdx 0 rfl) (S1.out.rdx 1 rfl)).mono ?_;rintro e w4 ⟨q5,c5',rfl,Z⟩;have HAN:=Lib.hid hAn;have S4:=Lib.hid ((S1.out.comp Z).al #[.bool yb,.int .i64 yd,.slice q5 yF.length c5'] 34 w4.heap.size rfl);clear Z hAn hDn;clear a0 a1 a2 a3 a4 a5 az b0 b1 b2 b3 bz;obtain⟨s0,s1,s2,sz⟩:=bkc0c1c2l (S4.out.blk 0 rfl);obtain⟨y0,y1,y2,yz,f0,f1,f2⟩:=bkc0c1c2lz0z1z2 (S4.out.blk 6 rfl)))
     | (go_at_call 55;go_must (refine HE0.out.mono ?_;rintro e w3 ⟨q3,c3',q4,c4',rfl,Z⟩;have S1:=Lib.hid (SH.out.comp Z);clear Z;clear a0 a1 a2 a3 a4 a5 az b0 b1 b2 b3 bz;obtain⟨b0,b1,b2,b3,bz⟩:=bkc0c1c2c3l (S1.out.blk 5 rfl);obtain⟨a0,a1,a2,a3,a4,a5,az⟩:=bkc0c1c2c3c4c5l (S1.out.blk 6 rfl))))
    have S9:=Lib.hid (((S4.out.set 6 rfl 0 (.bool yb)).set 6 rfl 1 (.int .i64 yd)).set 6 rfl 2 (.slice q5 yF.length c5'))
    obtain⟨x0,x1,x2⟩:=bkc0c1c2 (S9.out.blk 6 rfl)
    refine bodyPost_ret (v:=.tuple #[.agg #[.bool yb,.int .i64 yd,.slice q5 yF.length c5'],.int .i64 ((j:Int)+1),.int .i64 0]) (by simp [results,Tryz.results18,go_sem,x0,x1,x2,Tryz.sizeOf34,Tryz.isAgg34]) rfl ?_
    have hj:=HJ.out
    subst hj
    exact runR_mk ⟨yb,yd,yF,fun _=>⟨by rw [HRY.out];exact HAN.out,q5,c5',rfl,S9.out.pick [1] (by decide) rfl⟩,fun h=>by omega⟩
   ·have hjm3:j<m:=by omega
    obtain rfl:dn=false:=by rw [← HDB.out,← HRY.out,HFN.out j hjm3]
    clear hjm2
    go_wp2_with (first
     | (go_at_call 56;have _t:=S1;go_must (obtain⟨yb,yd,yF,hAn,hDn⟩:=HD.out q3 Y.1.length c3' q4 Y.2.length c4' rfl;refine(hDn _ S1.out.ext (S1.out.rdx 0 rfl) (S1.out.rdx 1 rfl)).mono ?_;rintro e w4 ⟨q5,c5',rfl,Z⟩;have S4:=Lib.hid ((S1.out.comp Z).al #[.bool yb,.int .i64 yd,.slice q5 yF.length c5'] 34 w4.heap.size rfl);clear Z hAn hDn;clear a0 a1 a2 a3 a4 a5 az b0 b1 b2 b3 bz))
     | (go_at_call 55;go_must (refine HE0.out.mono ?_;rintro e w3 ⟨q3,c3',q4,c4',rfl,Z⟩;have S1:=Lib.hid (SH.out.comp Z);clear Z;clear a0 a1 a2 a3 a4 a5 az b0 b1 b2 b3 bz;obtain⟨b0,b1,b2,b3,bz⟩:=bkc0c1c2c3l (S1.out.blk 5 rfl);obtain⟨a0,a1,a2,a3,a4,a5,az⟩:=bkc0c1c2c3c4c5l (S1.out.blk 6 rfl))))
    go_roundw
    case rel=>exact⟨j+1,q3,Y.1.length,c3',q4,Y.2.length,c4',by omega,by omega,by go_num,rfl,rfl,by unfold Hid;rw [HRY.out];exact S4.out.pick [2,3,6,7,8] (by decide) rfl⟩
    case measure=>simp [intOf];omega
  ·have e1:decide ((j:Int)+1≤bud)=false:=by simpa using hlt
   have hjb2:(j:Int)=bud:=by omega
   have HJ:=Lib.hid hjb2
   clear hjb2
   obtain⟨y0,y1,y2,yz,f0,f1,f2⟩:=bkc0c1c2lz0z1z2 (SH.out.blk 2 rfl)
   go_wp2
   have S9:=Lib.hid (((SH.out.set 2 rfl 0 (.bool false)).set 2 rfl 1 (.int .i64 0)).set 2 rfl 2 (.slice none 0 0))
   obtain⟨x0,x1,x2⟩:=bkc0c1c2 (S9.out.blk 2 rfl)
   refine bodyPost_ret (v:=.tuple #[.agg #[.bool false,.int .i64 0,.slice none 0 0],.int .i64 bud,.int .i64 251]) (by simp [results,Tryz.results18,go_sem,x0,x1,x2,Tryz.sizeOf34,Tryz.isAgg34]) rfl ?_
   have SN:=((S9.out.nilrow 105 2).pick (Δ:=[Pc.own 105 2 none 0 0 (encE [])]) [0] (by decide) rfl)
   have hj:=HJ.out
   exact runR_mk ⟨false,0,[],fun h=>by omega,fun _=>⟨none,0,rfl,SN⟩⟩
theorem RunRef (k f t:Int) (pw:Option Addr) (nw cw:Nat) (ws:List ByteArray) (rad most:Int) (po:Option Addr) (no co:Nat) (O:List Int) (pt:Option Addr) (nt ct:Nat) (T:List Int) (pr:Option Addr) (nr cr:Nat) (R:List Int) (pv:Option Addr) (nv cv:Nat) (V:List Int) (w:World) (pl:Option Addr) (nl cl:Nat) (hs:List Hd) (L:List Po) (wv bud:Int) (hO:Rd w 1 po no (encI O)) (hT:Rd w 1 pt nt (encI T)) (hR:Rd w 1 pr nr (encI R)) (hV:Rd w 1 pv nv (encI V)) (hct:nt≤ct) (hcv:nv≤cv)
  (hL:RdP w pl nl hs L) (hW:Rd w 1 pw nw (encS ws)) (h200:no≤200) (hz:∀ s∈ws,s.size≤1000000) (hb2:bud≤9223372036854775807)
  (ht:I64 t) (hcw:nw≤cw) (hnw:nw≤100) (hok:PoOk L) :
  Calls Tryz.prog 18 #[.agg #[.int .i64 k,.int .i64 f,.int .i64 t,.slice pw nw cw,.int .i64 rad,.int .i64 most],.agg #[.slice po no co,.slice pt nt ct,.slice pr nr cr,.slice pv nv cv],.slice pl nl cl,.int .i64 wv,.int .i64 bud] w fun x w'=>∃ b d F n e,RunS O T R V L k f t ws rad most wv bud b d F n e∧RunQ b d F n e w x w':=by
 have hno:=hO.nI
 by_cases h0:chkJ (checkR O T R V) k f t ws rad most O.length=0
 ·by_cases h1:1≤wv∧wv≤16∧1≤bud
  ·have hck:checkR O T R V=true:=by
    cases hc:checkR O T R V with
    | true=>rfl
    | false=>rw [hc] at h0;unfold chkJ at h0;rw [if_neg (by simp)] at h0;cases h0
   have hq:chkQ k f t ws rad most ((O.length:Int) - 1)=0:=by rw [hck] at h0;unfold chkJ at h0;rw [if_pos rfl] at h0;exact h0
   obtain⟨n,hn⟩:∃ n,O.length=n+1:=by
    obtain⟨e1,e2,e3,e4⟩:=checkR_half hck
    obtain⟨r1,r2,r3,r4,r5,r6⟩:=offB_parts (halfB_off e3)
    exact⟨O.length - 1,by omega⟩
   have hq2:chkQ k f t ws rad most (n:Int)=0:=by rw [hn] at hq;rw [← hq];congr 1;omega
   obtain⟨hk,hI,m,hm,hd,hf⟩:=run_m (k:=k) (rad:=rad) hck hn (by omega) hq2
   obtain⟨wk,rfl⟩:∃ wk:Nat,wv=(wk:Int):=⟨wv.toNat,by omega⟩
   refine(RunRefOk k f t pw nw cw ws rad most po no co O pt nt ct T pr nr cr R pv nv cv V w pl nl cl hs L wk bud n m (runM (nextL k rad true O T R V) (startQ k f t 0)) hO hT hR hV hct hcv hL hW hz hck hn (by omega) (by omega) (by omega) hq2 h1.2.2 hb2 (by omega) hk ht hcw hnw hok rfl hI (fun _=>rfl) hd hf).mono ?_
   rintro x w' ⟨b,d,F,g1,g2⟩
   by_cases hb:(m:Int)+1≤bud
   ·obtain⟨a1,a2⟩:=g1 hb
    exact⟨b,d,F,_,_,⟨fun h=>absurd h0 h,fun _ h=>absurd h1 h,fun _ _=>⟨hk,m,by omega,hd,hf,fun _=>⟨a1,rfl,rfl⟩,fun h=>by omega⟩⟩,a2⟩
   ·exact⟨false,0,[],_,_,⟨fun h=>absurd h0 h,fun _ h=>absurd h1 h,fun _ _=>⟨hk,m,by omega,hd,hf,fun h=>absurd h hb,fun _=>⟨rfl,rfl,rfl,rfl,rfl⟩⟩⟩,g2 (by omega)⟩
  ·have h:=RunRefErr k f t pw nw cw ws rad most po no co O pt nt ct T pr nr cr R pv nv cv V w pl nl cl wv bud hO hT hR hV hct hcv hW hz (by omega) (by rw [hno];omega)
   rw [hno,if_neg (by rw [h0];simp)] at h
   rw [hno]
   exact h.mono fun x w' hx=>⟨_,_,_,_,_,⟨fun h=>absurd h0 h,fun _ _=>⟨rfl,rfl,rfl,rfl,rfl⟩,fun _ h=>absurd h h1⟩,hx⟩
 ·have h:=RunRefErr k f t pw nw cw ws rad most po no co O pt nt ct T pr nr cr R pv nv cv V w pl nl cl wv bud hO hT hR hV hct hcv hW hz (by omega) (Or.inl (by rw [hno];exact h0))
  rw [hno,if_pos h0] at h
  rw [hno]
  exact h.mono fun x w' hx=>⟨_,_,_,_,_,⟨fun _=>⟨rfl,rfl,rfl,rfl,rfl⟩,fun h=>absurd h h0,fun h=>absurd h h0⟩,hx⟩
end
section
open Go Go.RowKit
attribute [local go_sem ↓] eqHit9 neqHit9 guardHit9
theorem Same05T (p q:Option Addr) (n m c d:Nat) (hs ht:List Hd) (L:List Po) (w:World) (hL:RdP w p n hs L) (hM:RdP w q m ht L) :
  Calls Tryz.prog 22 #[.slice p n c,.slice q m d] w fun e w'=>e=.returned (.bool true)∧Ext w w' :=
 (Same05 p q n m c d hs ht L L w hL hM).mono fun e w' ⟨h3,h4⟩=>⟨by rw [h3];simp,h4⟩
end
section
open Go Go.RowKit
theorem lawRuns20 (k f t:Int) (pw:Option Addr) (nw cw:Nat) (ws:List ByteArray) (rad most:Int) (po:Option Addr) (no co:Nat) (O:List Int) (pt:Option Addr) (nt ct:Nat) (T:List Int) (pr:Option Addr) (nr cr:Nat) (R:List Int) (pv:Option Addr) (nv cv:Nat) (V:List Int) (pl:Option Addr) (nl cl:Nat) (hs:List Hd) (L:List Po) (wv bud:Int) (pp:Option Addr) (np cp:Nat) (pk:List Int) (w:World) (hO:Rd w 1 po no (encI O)) (hT:Rd w 1 pt nt (encI T)) (hR:Rd w 1 pr nr (encI R)) (hV:Rd w 1 pv nv (encI V)) (hct:nt≤ct) (hcv:nv≤cv)
  (hW:Rd w 1 pw nw (encS ws)) (hcw:nw≤cw) (ht:I64 t) (hL:RdP w pl nl hs L) (hLI:∀ q∈L,∀ x∈q.2,I64 x) (hpk:Rd w 1 pp np (encI pk)) :
  Calls Tryz.prog 3 #[.agg #[.int .i64 k,.int .i64 f,.int .i64 t,.slice pw nw cw,.int .i64 rad,.int .i64 most],.agg #[.slice po no co,.slice pt nt ct,.slice pr nr cr,.slice pv nv cv],.slice pl nl cl,.int .i64 wv,.int .i64 bud,.slice pp np cp] w fun e w'=>e=.returned (.bool true)∧Ext w w':=by
 have S0:=Lib.hid (((Sep.start w).al #[.int .i64 k,.int .i64 f,.int .i64 t,.slice pw nw cw,.int .i64 rad,.int .i64 most] 24 w.heap.size rfl).al #[.slice po no co,.slice pt nt ct,.slice pr nr cr,.slice pv nv cv] 27 (w.heap.size+1) (by simp))
 have HFR:=Lib.hid (fun W (h:Ext w W)=>FarJ20 k f t pw nw cw ws rad most po no co O pt nt ct T pr nr cr R pv nv cv V pl nl cl hs L pp np cp W (hO.ext h) (hT.ext h) (hR.ext h) (hV.ext h) (hW.ext h) (hL.ext h))
 cases hfar:farJ ws O T R V L np with
 | true =>
  rw [hfar] at HFR
  clear hO hT hR hV hct hcv hW hL hpk hfar
  go_enter Tryz.func3,Tryz.ntmps3
  go_wp2_with (go_at_call 14;go_must (refine(HFR.out _ S0.out.ext).mono ?_;rintro e w1 ⟨rfl,hb⟩;have S1:=Lib.hid (S0.out.call hb);obtain⟨b0,b1,b2,b3,bz⟩:=bkc0c1c2c3l (S1.out.blk 0 rfl);obtain⟨a0,a1,a2,a3,a4,a5,az⟩:=bkc0c1c2c3c4c5l (S1.out.blk 1 rfl);clear hb))
  go_ret
  exact⟨rfl,S1.out.ext⟩
 | false =>
  rw [hfar] at HFR
  by_cases h6:300<bud
  ·have e6:decide (300<bud)=true:=by simpa using h6
   clear hO hT hR hV hct hcv hW hL hpk hfar
   go_enter Tryz.func3,Tryz.ntmps3
   go_wp2_with (go_at_call 14;go_must (refine(HFR.out _ S0.out.ext).mono ?_;rintro e w1 ⟨rfl,hb⟩;have S1:=Lib.hid (S0.out.call hb);obtain⟨b0,b1,b2,b3,bz⟩:=bkc0c1c2c3l (S1.out.blk 0 rfl);obtain⟨a0,a1,a2,a3,a4,a5,az⟩:=bkc0c1c2c3c4c5l (S1.out.blk 1 rfl);clear hb))
   go_ret
   exact⟨rfl,S1.out.ext⟩
  ·have e6:decide (300<bud)=false:=by simpa using h6
   obtain⟨f1,f2,f3,f4,f5⟩:=jobFacts k f t pw nw cw ws rad most rfl rfl rfl rfl rfl rfl rfl rfl hfar hLI
   obtain⟨_,hbr,_,hbp,_⟩:=farJ_no hfar
   have hbd:O.length≤250∧T.length≤2100∧R.length≤250∧V.length≤2100:=by
    unfold bigR at hbr
    simp only [Bool.or_eq_false_iff,decide_eq_false_iff_not] at hbr
    omega
   have hpl:=(bigP_facts hbp).1
   have hno:=hO.nI
   have l2:=hT.nI
   have l3:=hR.nI
   have l4:=hV.nI
   have l5:=hL.hn
   have hnw:=hW.nS
   have HR1:=Lib.hid (fun W (h:Ext w W)=>RunG k f t pw nw cw ws rad most po no co O pt nt ct T pr nr cr R pv nv cv V pl nl cl hs L wv bud pp np cp pk W (hO.ext h) (hT.ext h) (hR.ext h) (hV.ext h) hct hcv (hL.ext h) (hW.ext h) (hpk.ext h) (by omega) f2 (by omega) ht hcw (by omega) f4)
   have HR2:=Lib.hid (fun (qo:Option Addr) (do':Nat) (qt:Option Addr) (dt:Nat) (qr:Option Addr) (dr:Nat) (qv:Option Addr) (dv:Nat) (qp:Option Addr) (cp':Nat) (hs':List Hd) W (h:Ext w W) (h4:R4 W qo no qt nt qr nr qv nv O T R V) (g1:nt≤dt) (g2:nv≤dv) (hp:RdP W qp nl hs' L)=>RunRef k f t pw nw cw ws rad most qo no do' O qt nt dt T qr nr dr R qv nv dv V W qp nl cp' hs' L wv bud h4.o h4.t h4.r h4.v g1 g2 hp (hW.ext h) (by omega) f2 (by omega) ht hcw (by omega) f4)
   have HOW:=Lib.hid (fun W (h:Ext w W)=>Own04 po no co O pt nt ct T pr nr cr R pv nv cv V W (hO.ext h) (hT.ext h) (hR.ext h) (hV.ext h) (by omega) (by omega) (by omega) (by omega))
   have HOP:=Lib.hid (fun W (h:Ext w W)=>Own05 pl nl cl hs L W (hL.ext h) f4 (by omega))
   have HSM:=Lib.hid (fun (qo:Option Addr) (do':Nat) (qt:Option Addr) (dt:Nat) (qr:Option Addr) (dr:Nat) (qv:Option Addr) (dv:Nat) W1 (h0:Ext w W1) (h:R4 W1 qo no qt nt qr nr qv nv O T R V)=>Same04T po no co O pt nt ct T pr nr cr R pv nv cv V qo no do' qt nt dt qr nr dr qv nv dv W1 (hO.ext h0) (hT.ext h0) (hR.ext h0) (hV.ext h0) h.o h.t h.r h.v)
   have HSP:=Lib.hid (fun (qp:Option Addr) (cp':Nat) (hs':List Hd) W (h:Ext w W) (hp:RdP W qp nl hs' L)=>Same05T pl qp nl nl cl cp' hs hs' L W (hL.ext h) hp)
   clear hO hT hR hV hct hcv hW hL hpk hfar f1 f2 f3 f4 f5 hno hnw h6 ht hcw hLI hbr hbp hbd hpl l2 l3 l4 l5
   go_enter Tryz.func3,Tryz.ntmps3
   go_wp2_with (first | (go_at_call 22;have _t:=S8;go_must (refine(HSP.out _ _ _ _ S8.out.ext KP8.out).mono ?_;rintro e w9 ⟨rfl,hb⟩;have S9:=Lib.hid (S8.out.call hb);clear hb)) | (go_at_call 21;have _t:=S7;go_must (refine(HSM.out _ _ _ _ _ _ _ _ _ S7.out.ext KO7.out).mono ?_;rintro e w8 ⟨rfl,hb⟩;have S8:=Lib.hid (S7.out.call hb);have KP8:=Lib.hid (KP7.out.ext hb);clear b0 b1 b2 b3 bz;clear o0 o1 o2 o3 oz;clear hb)) | (go_at_call 20;have _t:=S6;go_must (refine(Same18 b1' d1' q1 q2 F1.length F1.length c1 c2 F1 _ (S6.out.rdx 3 rfl) (S6.out.rdx 1 rfl)).mono ?_;rintro e w7 ⟨rfl,hb⟩;have S7:=Lib.hid (S6.out.call hb);have KO7:=Lib.hid (KO6.out.ext hb);have KP7:=Lib.hid (KP6.out.ext hb);clear r0 r1 r2 rz s0 s1 s2 sz;obtain⟨o0,o1,o2,o3,oz⟩:=bkc0c1c2c3l (S7.out.blk 4 rfl);obtain⟨b0,b1,b2,b3,bz⟩:=bkc0c1c2c3l (S7.out.blk 5 rfl);clear hb)) | (go_at_call 19;have _t:=S5;go_must (refine(Jobs20 _).mono ?_;rintro e w6 ⟨rfl,hb⟩;have S6:=Lib.hid (S5.out.call hb);have KO6:=Lib.hid (KO5.out.ext hb);have KP6:=Lib.hid (KP5.out.ext hb);obtain⟨r0,r1,r2,rz⟩:=bkc0c1c2l (S6.out.blk 2 rfl);obtain⟨s0,s1,s2,sz⟩:=bkc0c1c2l (S6.out.blk 0 rfl);clear hb)) | (go_at_call 18;have _t:=S4;go_must (refine(HR2.out _ _ _ _ _ _ _ _ _ _ _ _ S4.out.ext KO4.out CC.out.1 CC.out.2 KP4.out).mono ?_;rintro e w5 ⟨b2',d2',F2,n2',e2',g2,q2,c2,rfl,Z⟩;obtain⟨rfl,rfl,rfl,rfl,rfl⟩:=runS_uniq Iff.rfl G1.out g2;have S5:=Lib.hid ((S4.out.comp Z).al #[.bool b1',.int .i64 d1',.slice q2 F1.length c2] 34 w5.heap.size rfl);have KZ5:=Lib.hid (Ext.trans Z.ext ((Sep.start w5).al #[.bool b1',.int .i64 d1',.slice q2 F1.length c2] 34 w5.heap.size rfl).ext);have KO5:=Lib.hid (KO4.out.ext KZ5.out);have KP5:=Lib.hid (KP4.out.ext KZ5.out);clear a0 a1 a2 a3 a4 a5 az b0 b1 b2 b3 bz;clear o0 o1 o2 o3 oz;clear Z g2)) | (go_at_call 17;have _t:=S3;go_must (refine(HR1.out _ S3.out.ext).mono ?_;rintro e w4 ⟨b1',d1',F1,n1',e1',g1,q1,c1,rfl,Z⟩;have G1:=Lib.hid g1;have S4:=Lib.hid ((S3.out.comp Z).al #[.bool b1',.int .i64 d1',.slice q1 F1.length c1] 34 w4.heap.size rfl);have KZ:=Lib.hid (Ext.trans Z.ext ((Sep.start w4).al #[.bool b1',.int .i64 d1',.slice q1 F1.length c1] 34 w4.heap.size rfl).ext);have KO4:=Lib.hid (KO3.out.ext KZ.out);have KP4:=Lib.hid (KP.out.ext KZ.out);clear a0 a1 a2 a3 a4 a5 az b0 b1 b2 b3 bz;clear o0 o1 o2 o3 oz;obtain⟨o0,o1,o2,o3,oz⟩:=bkc0c1c2c3l (S4.out.blk 2 rfl);obtain⟨b0,b1,b2,b3,bz⟩:=bkc0c1c2c3l (S4.out.blk 3 rfl);obtain⟨a0,a1,a2,a3,a4,a5,az⟩:=bkc0c1c2c3c4c5l (S4.out.blk 4 rfl);clear Z g1)) | (go_at_call 16;have _t:=S2;go_must (refine(HOP.out _ S2.out.ext).mono ?_;rintro e w3 ⟨qp,cp',hs',rfl,k1,k2⟩;have KP:=Lib.hid k1;have S3:=Lib.hid (S2.out.call k2);have KO3:=Lib.hid (KO.out.ext k2);clear a0 a1 a2 a3 a4 a5 az b0 b1 b2 b3 bz;obtain⟨o0,o1,o2,o3,oz⟩:=bkc0c1c2c3l (S3.out.blk 0 rfl);obtain⟨b0,b1,b2,b3,bz⟩:=bkc0c1c2c3l (S3.out.blk 1 rfl);obtain⟨a0,a1,a2,a3,a4,a5,az⟩:=bkc0c1c2c3c4c5l (S3.out.blk 2 rfl);clear k1 k2)) | (go_at_call 15;go_must (refine(HOW.out _ S1.out.ext).mono ?_;rintro e w2 ⟨qo,do',qt,dt,qr,dr,qv,dv,rfl,k1,C1,C2,k2⟩;have CC:=Lib.hid (And.intro C1 C2);have S2':=Lib.hid (S1.out.call k2);have S2:=Lib.hid (S2'.out.al #[.slice qo no do',.slice qt nt dt,.slice qr nr dr,.slice qv nv dv] 27 w2.heap.size rfl);have KO:=Lib.hid (k1.ext ((Sep.start w2).al #[.slice qo no do',.slice qt nt dt,.slice qr nr dr,.slice qv nv dv] 27 w2.heap.size rfl).ext);clear k1 k2 C1 C2 S2')) | (go_at_call 14;go_must (refine(HFR.out _ S0.out.ext).mono ?_;rintro e w1 ⟨rfl,hb⟩;have S1:=Lib.hid (S0.out.call hb);obtain⟨b0,b1,b2,b3,bz⟩:=bkc0c1c2c3l (S1.out.blk 0 rfl);obtain⟨a0,a1,a2,a3,a4,a5,az⟩:=bkc0c1c2c3c4c5l (S1.out.blk 1 rfl);clear hb)))
   go_ret
   exact⟨rfl,S9.out.ext⟩
end
end Go.Proofs.YtfjhjennfiihhaaGreat
