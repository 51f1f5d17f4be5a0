/- Texts of this claim, one behind the other: Run20, RunE20, PlainRm, RunG20, PlainCl, RunCl, Nr2, Hy9, ExN, Ex20, Jobs20, Rf5, LPicks20, MapF, Ask20, Ask20b, Dst8c, Dst8d, Dst8e, Dst8f, Dst8g, Dst9a, PlainAk, Ask20c, Ask20d, KeepB, Hp7, Lb5, Lb6, Lb7, Lb8, HubC20, PlainHb, HubG20, PlainHc, Lb11, Lb12. -/
import Derived.Test.YtfjhjennfiihhaaGreatQJobHubs5
set_option maxRecDepth 100000
set_option maxHeartbeats 16000000
namespace Go.Proofs.YtfjhjennfiihhaaGreat
section
open Go Go.RowKit
attribute [local go_sem] Oper.semAt_some
def RunQ (b:Bool) (d:Int) (F:List (Int × Int)) (n e:Int) (w:World) (x:Ending) (w':World):Prop:=∃ q c',x=.returned (.tuple #[.agg #[.bool b,.int .i64 d,.slice q F.length c'],.int .i64 n,.int .i64 e])∧Sep w w' [.own 105 2 q F.length c' (encE F)]
def RunR (k t:Int) (L:List Po) (ws:List ByteArray) (most bud:Int) (m:Nat) (p:List Sq × List Sq) (w:World) (x:Ending) (w':World):Prop :=
 ∃ b d F,((m:Int)+1≤bud→AnsD k t L ws most p b d F∧RunQ b d F ((m:Int)+1) 0 w x w')∧(bud<(m:Int)+1→RunQ false 0 [] bud 251 w x w')
theorem gi_cells {a1 a2 a3 a4 a5:Nat} {t1 t2 t3 t4 t5:TypeId} {c1 c2 c3 c4 c5:Array Value}:∀ p∈[Pc.blk a1 t1 c1,Pc.blk a2 t2 c2,Pc.blk a3 t3 c3,Pc.blk a4 t4 c4,Pc.blk a5 t5 c5],p.cells:=by
 intro p hp
 simp only [List.mem_cons,List.not_mem_nil,or_false] at hp
 rcases hp with rfl | rfl | rfl | rfl | rfl <;> exact Pc.blk_cells _ _ _
theorem gi_feet {a1 a2 a3 a4 a5 b:Nat} {t1 t2 t3 t4 t5:TypeId} {c1 c2 c3 c4 c5:Array Value} (h:a1≠b∧a2≠b∧a3≠b∧a4≠b∧a5≠b):∀ p∈[Pc.blk a1 t1 c1,Pc.blk a2 t2 c2,Pc.blk a3 t3 c3,Pc.blk a4 t4 c4,Pc.blk a5 t5 c5],∀ k,p.foot k→¬ k=b:=by
 intro p hp k hk e
 obtain⟨h1,h2,h3,h4,h5⟩:=h
 simp only [List.mem_cons,List.not_mem_nil,or_false] at hp
 rcases hp with rfl | rfl | rfl | rfl | rfl
 ·exact h1 ((show k=a1 from hk).symm.trans e)
 ·exact h2 ((show k=a2 from hk).symm.trans e)
 ·exact h3 ((show k=a3 from hk).symm.trans e)
 ·exact h4 ((show k=a4 from hk).symm.trans e)
 ·exact h5 ((show k=a5 from hk).symm.trans e)
theorem gr_cells {e0:TypeId} {sz:Nat} {q0:Option Addr} {n0 c0:Nat} {xs:List Value} {a2 a3 a4:Nat} {t2 t3 t4:TypeId} {c2 c3 c4:Array Value}:∀ p∈[Pc.own e0 sz q0 n0 c0 xs,Pc.blk a2 t2 c2,Pc.blk a3 t3 c3,Pc.blk a4 t4 c4],p.cells:=by
 intro p hp
 simp only [List.mem_cons,List.not_mem_nil,or_false] at hp
 rcases hp with rfl | rfl | rfl | rfl
 ·exact Pc.own_cells _ _ _ _ _ _
 all_goals exact Pc.blk_cells _ _ _
theorem gr_feet {e0:TypeId} {sz:Nat} {q0:Option Addr} {n0 c0:Nat} {xs:List Value} {a2 a3 a4 b:Nat} {t2 t3 t4:TypeId} {c2 c3 c4:Array Value} (h0:∀ kk,blkOf q0=some kk→kk≠b) (h:a2≠b∧a3≠b∧a4≠b):∀ p∈[Pc.own e0 sz q0 n0 c0 xs,Pc.blk a2 t2 c2,Pc.blk a3 t3 c3,Pc.blk a4 t4 c4],∀ k,p.foot k→¬ k=b:=by
 intro p hp k hk e
 obtain⟨h2,h3,h4⟩:=h
 simp only [List.mem_cons,List.not_mem_nil,or_false] at hp
 rcases hp with rfl | rfl | rfl | rfl
 ·exact h0 k hk e
 ·exact h2 ((show k=a2 from hk).symm.trans e)
 ·exact h3 ((show k=a3 from hk).symm.trans e)
 ·exact h4 ((show k=a4 from hk).symm.trans e)
theorem RunOk (k f t:Int) (pw:Option Addr) (nw cw:Nat) (ws:List ByteArray) (rad most:Int) (po:Option Addr) (no co:Nat) (O:List Int) (pt:Option Addr) (nt ct:Nat) (T:List Int) (pr:Option Addr) (nr cr:Nat) (R:List Int) (pv:Option Addr) (nv cv:Nat) (V:List Int) (pl:Option Addr) (nl cl:Nat) (hs:List Hd) (L:List Po) (wk:Nat) (bud:Int) (pp:Option Addr) (np cp:Nat) (pk:List Int) (w:World) (n m:Nat) (rn:Nat→List Sq × List Sq) (hO:Rd w 1 po no (encI O)) (hT:Rd w 1 pt nt (encI T)) (hR:Rd w 1 pr nr (encI R)) (hV:Rd w 1 pv nv (encI V)) (hct:nt≤ct) (hcv:nv≤cv)
  (hL:RdP w pl nl hs L) (hW:Rd w 1 pw nw (encS ws)) (hpk:Rd w 1 pp np (encI pk)) (hck:checkR O T R V=true) (hn:O.length=n+1) (h200:n≤200) (h1:1≤wk) (h16:wk≤16)
  (hz:∀ s∈ws,s.size≤1000000) (hq:chkQ k f t ws rad most (n:Int)=0) (hb1:1≤bud) (hb2:bud≤9223372036854775807) (hm:m<200)
  (hk:k=1∨k=2∨k=3) (ht:I64 t) (hcw:nw≤cw) (hnw:nw≤100) (hok:PoOk L)
  (hr0:rn 0=([],startQ k f t 0)) (hrn:∀ i,RunI n i (rn i)) (hrs:∀ i,rn (i+1)=stepM (nextL k rad true O T R V) (rn i).1 (rn i).2)
  (hd:doneB k t (rn (m+1))=true) (hf:∀ j,j<m→doneB k t (rn (j+1))=false) :
  Calls Tryz.prog 17 #[.agg #[.int .i64 k,.int .i64 f,.int .i64 t,.slice pw nw cw,.int .i64 rad,.int .i64 most],.agg #[.slice po no co,.slice pt nt ct,.slice pr nr cr,.slice pv nv cv],.slice pl nl cl,.int .i64 wk,.int .i64 bud,.slice pp np cp] w (RunR k t L ws most bud m (rn (m+1)) w):=by
 have hno:no=n+1:=by rw [hO.nI,hn]
 have HCJ:=Lib.hid (fun W (h:Ext w W)=>CheckJ k f t pw nw cw ws rad most po no co O pt nt ct T pr nr cr R pv nv cv V W (hO.ext h) (hT.ext h) (hR.ext h) (hV.ext h) hct hcv (hW.ext h) hz (by omega))
 rw [hck] at HCJ
 have e1:chkJ true k f t ws rad most no=0:=by
  unfold chkJ
  rw [if_pos rfl,hno]
  have:((n+1:Nat):Int) - 1=n:=by omega
  rw [this,hq]
 rw [e1] at HCJ
 have HSQ:=Lib.hid (fun W=>StartQ k f t pw nw cw rad most 0 W)
 obtain⟨M0,hM0⟩:∃ M0,startQ k f t 0=M0:=⟨_,rfl⟩
 rw [hM0] at HSQ hr0
 have HIT:=Lib.hid (fun (W:World) (b bx:Nat) (pm:Option Addr) (nm cm:Nat) (Bd:Nat→Prop) =>
  stepsIt 8 (by omega) k f t pw nw cw ws rad most po no co O pt nt ct T pr nr cr R pv nv cv V pl nl cl hs L wk pp np cp pk w W b bx pm nm cm n rn Bd hO hT hR hV hct hcv hL hW hpk hck hn h200 h1 h16 hk ht hcw hnw hok (by rw [hr0]) hrn hrs)
 rw [hr0] at HIT
 have HHM:=Lib.hid (fun W=>HomeG 0 wk W (by omega) (by omega) h1 h16)
 have HDN:=Lib.hid hd
 have HFN:=Lib.hid hf
 have db:decide (bud<1)=false:=by simp;omega
 have S0:=Lib.hid ((((((((Sep.start w).al #[.int .i64 k,.int .i64 f,.int .i64 t,.slice pw nw cw,.int .i64 rad,.int .i64 most] 24 w.heap.size rfl).al #[.slice po no co,.slice pt nt ct,.slice pr nr cr,.slice pv nv cv] 27 (w.heap.size+1) (by simp)).al #[.int .i64 bud] 3 (w.heap.size+1+1) (by simp)).al #[.bool false,.int .i64 0,.slice none 0 0] 34 (w.heap.size+1+1+1) (by simp)).al #[.int .i64 0] 3 (w.heap.size+1+1+1+1) (by simp)).al #[.int .i64 0] 35 (w.heap.size+1+1+1+1+1) (by simp)))
 clear hO hT hR hV hct hcv hL hW hpk hck hn h200 h1 h16 hz hq hk ht hcw hnw hok hr0 hrn hrs hd hf hM0 e1 hno
 refine(callsIn_wide (n:=9)).1 ?_
 refine callsIn_of_wp_marks Tryz.func17 rfl trivial ?_ rfl
 simp only [Tryz.ntmps17,List.size_toArray,List.length_cons,List.length_nil,Nat.reduceAdd,Nat.reduceSub,Array.replicate_succ,Array.replicate_zero,List.push_toArray,List.append_toArray,List.nil_append,List.cons_append]
 refine wpIn_wide.2 ?_
 go_wp2_with (first | (go_at_call 49;go_must (refine(HCJ.out _ S0.out.ext).mono ?_;rintro e w1 ⟨rfl,hb⟩;have S1:=Lib.hid (S0.out.call hb);obtain⟨b0,bz⟩:=bkc0l (S1.out.blk 3 rfl);clear hb)) | (go_at_call 50;go_must (refine(HHM.out _).mono ?_;rintro e w2 ⟨rfl,rfl⟩)))
 refine wp_region_noPanic ?_
 refine wp_region_held_drew (S:=fun W=>Blk W w.heap.size 24 #[.int .i64 k,.int .i64 f,.int .i64 t,.slice pw nw cw,.int .i64 rad,.int .i64 most]∧Blk W (w.heap.size+1) 27 #[.slice po no co,.slice pt nt ct,.slice pr nr cr,.slice pv nv cv]) (by kernel_rfl) ⟨S1.out.drew.blk 5 rfl,S1.out.drew.blk 4 rfl⟩ (fun hHeld=>?_)
 have SD:=Lib.hid S1.out.drew
 clear S0 S1 b0 bz HCJ HHM db
 generalize World.drew _=D at SD hHeld ⊢
 refine wpAnyH_take (i:=0) (v:=.agg #[.int .i64 k,.int .i64 f,.int .i64 t,.slice pw nw cw,.int .i64 rad,.int .i64 most]) rfl (by kernel_rfl) (by kernel_rfl) (by kernel_rfl) (noPanic_q _ _) (Or.inl ⟨by kernel_rfl,fun W hSw=>by have h0:=hSw.1.cell 0;have h1:=hSw.1.cell 1;have h2:=hSw.1.cell 2;have h3:=hSw.1.cell 3;have h4:=hSw.1.cell 4;have h5:=hSw.1.cell 5;clear hSw;go_simp⟩) hHeld ?_
 refine wpAnyH_take (i:=1) (v:=.agg #[.slice po no co,.slice pt nt ct,.slice pr nr cr,.slice pv nv cv]) rfl (by kernel_rfl) (by kernel_rfl) (by kernel_rfl) (noPanic_q _ _) (Or.inl ⟨by kernel_rfl,fun W hSw=>by have h0:=hSw.2.cell 0;have h1:=hSw.2.cell 1;have h2:=hSw.2.cell 2;have h3:=hSw.2.cell 3;clear hSw;go_simp⟩) hHeld ?_
 refine wpAnyH_take (i:=2) (v:=.slice pl nl cl) rfl (by kernel_rfl) (by kernel_rfl) (by kernel_rfl) (noPanic_q _ _) (Or.inl ⟨by kernel_rfl,fun W hSw=>by skip;clear hSw;go_simp⟩) hHeld ?_
 refine wpAnyH_take (i:=3) (v:=.int .i64 wk) rfl (by kernel_rfl) (by kernel_rfl) (by kernel_rfl) (noPanic_q _ _) (Or.inl ⟨by kernel_rfl,fun W hSw=>by skip;clear hSw;go_simp⟩) hHeld ?_
 refine wpAnyH_take (i:=4) (v:=.slice pp np cp) rfl (by kernel_rfl) (by kernel_rfl) (by kernel_rfl) (noPanic_q _ _) (Or.inl ⟨by kernel_rfl,fun W hSw=>by skip;clear hSw;go_simp⟩) hHeld ?_
 refine wpAnyH_take (i:=5) (v:=.agg #[.int .i64 k,.int .i64 f,.int .i64 t,.slice pw nw cw,.int .i64 rad,.int .i64 most]) rfl (by kernel_rfl) (by kernel_rfl) (by kernel_rfl) (noPanic_q _ _) (Or.inl ⟨by kernel_rfl,fun W hSw=>by have h0:=hSw.1.cell 0;have h1:=hSw.1.cell 1;have h2:=hSw.1.cell 2;have h3:=hSw.1.cell 3;have h4:=hSw.1.cell 4;have h5:=hSw.1.cell 5;clear hSw;go_simp⟩) hHeld ?_
 refine wpAnyH_ready (rs:=[6]) (by kernel_rfl) (by simp) (AllReadyH.cons rfl (fun K hK=>?_) AllReadyH.nil)
 go_simp
 refine(HSQ.out D).mono ?_
 rintro e w3 ⟨q,c,rfl,Z⟩
 have S3:=Lib.hid (SD.out.comp Z)
 clear Z SD hHeld HSQ
 refine hK.out _ _ ⟨S3.out.blk 6 rfl,S3.out.blk 5 rfl⟩ (fun hHeld=>?_)
 clear hK
 refine wpAnyH_take (i:=7) (v:=.agg #[.int .i64 k,.int .i64 f,.int .i64 t,.slice pw nw cw,.int .i64 rad,.int .i64 most,.slice po no co,.slice pt nt ct,.slice pr nr cr,.slice pv nv cv,.slice pl nl cl,.int .i64 wk,.slice pp np cp,.slice none 0 0,.slice q M0.length c]) rfl (by kernel_rfl) (by kernel_rfl) (by kernel_rfl) (noPanic_q _ _) (Or.inl ⟨by kernel_rfl,fun W hSw=>by skip;clear hSw;go_simp⟩) hHeld ?_
 refine wpAnyH_ready (rs:=[8]) (by kernel_rfl) (by simp) (AllReadyH.cons rfl (fun K hK=>?_) AllReadyH.nil)
 go_simp
 have S4:=Lib.hid (S3.out.al #[.int .i64 k,.int .i64 f,.int .i64 t,.slice pw nw cw,.int .i64 rad,.int .i64 most,.slice po no co,.slice pt nt ct,.slice pr nr cr,.slice pv nv cv,.slice pl nl cl,.int .i64 wk,.slice pp np cp,.slice none 0 0,.slice q M0.length c] 87 w3.heap.size rfl)
 clear hHeld
 refine hK.out _ _ ⟨S4.out.blk 7 rfl,S4.out.blk 6 rfl⟩ (fun hHeld=>?_)
 clear hK
 refine wpAnyH_take (i:=9) (v:=.pointer (some ⟨w3.heap.size,0,none⟩)) rfl (by kernel_rfl) (by kernel_rfl) (by kernel_rfl) (noPanic_q _ _) (Or.inl ⟨by kernel_rfl,fun W hSw=>by skip;clear hSw;go_simp⟩) hHeld ?_
 refine wpAnyH_done (by kernel_rfl) ?_ _
 refine noPanic_mk ?_
 clear hHeld
 simp [Act.put]
 obtain⟨X,hX⟩:∃ X,w3.alloc (.cells #[.int .i64 k,.int .i64 f,.int .i64 t,.slice pw nw cw,.int .i64 rad,.int .i64 most,.slice po no co,.slice pt nt ct,.slice pr nr cr,.slice pv nv cv,.slice pl nl cl,.int .i64 wk,.slice pp np cp,.slice none 0 0,.slice q M0.length c] 87)=X:=⟨_,rfl⟩
 rw [hX] at S4 ⊢
 clear hX S3
 generalize w3.heap.size=b at S4 ⊢
 clear w3 D
 have S5:=Lib.hid (S4.out.al #[.int .i64 0] 3 X.heap.size rfl)
 have S6:=Lib.hid (S5.out.al #[.pointer (some ⟨b,0,none⟩)] 82 (X.heap.size+1) (by simp))
 go_wp2_with (go_at_call 52;go_must (refine(StepsG b _).mono ?_;rintro e w5 ⟨rfl,rfl⟩))
 obtain⟨V1,hV⟩:∃ V1,(X.alloc (.cells #[.int .i64 0] 3)).alloc (.cells #[.pointer (some ⟨b,0,none⟩)] 82)=V1:=⟨_,rfl⟩
 rw [hV] at S6 ⊢
 clear hV S5 S4
 generalize X.heap.size+1=bx at S6 ⊢
 generalize X.heap.size=gn at S6 ⊢
 generalize w.heap.size+1+1+1+1+1=g14 at S6 ⊢
 generalize w.heap.size+1+1+1+1=g13 at S6 ⊢
 generalize w.heap.size+1+1+1=g12 at S6 ⊢
 generalize w.heap.size+1+1=gb at S6 ⊢
 clear X
 have S7:=Lib.hid (S6.out.nilrow 146 4)
 have SG:=Lib.hid (S7.out.pick (Δ:=[Pc.blk gn 3 #[.int .i64 0],Pc.blk g12 34 #[.bool false,.int .i64 0,.slice none 0 0],Pc.blk g13 3 #[.int .i64 0],Pc.blk g14 35 #[.int .i64 0],Pc.blk gb 3 #[.int .i64 bud]]) [2,7,6,5,8] (by decide) rfl)
 have SX:=Lib.hid (S7.out.pick (Δ:=[Pc.blk b 87 #[.int .i64 k,.int .i64 f,.int .i64 t,.slice pw nw cw,.int .i64 rad,.int .i64 most,.slice po no co,.slice pt nt ct,.slice pr nr cr,.slice pv nv cv,.slice pl nl cl,.int .i64 wk,.slice pp np cp,.slice none 0 0,.slice q M0.length c],Pc.blk bx 82 #[.pointer (some ⟨b,0,none⟩)],Pc.own 146 4 none 0 0 (encQ []),Pc.own 138 4 q M0.length c (encQ M0)]) [3,1,0,4] (by decide) rfl)
 have hap:∀ p∈[Pc.blk b 87 #[.int .i64 k,.int .i64 f,.int .i64 t,.slice pw nw cw,.int .i64 rad,.int .i64 most,.slice po no co,.slice pt nt ct,.slice pr nr cr,.slice pv nv cv,.slice pl nl cl,.int .i64 wk,.slice pp np cp,.slice none 0 0,.slice q M0.length c],Pc.blk bx 82 #[.pointer (some ⟨b,0,none⟩)],Pc.own 146 4 none 0 0 (encQ []),Pc.own 138 4 q M0.length c (encQ M0)],∀ p2∈[Pc.blk gn 3 #[.int .i64 0],Pc.blk g12 34 #[.bool false,.int .i64 0,.slice none 0 0],Pc.blk g13 3 #[.int .i64 0],Pc.blk g14 35 #[.int .i64 0],Pc.blk gb 3 #[.int .i64 bud]],∀ kk,p.foot kk→p2.foot kk→False:=by
  have hA:=List.pairwise_append.1 (S7.out.pick (Δ:=[Pc.blk b 87 #[.int .i64 k,.int .i64 f,.int .i64 t,.slice pw nw cw,.int .i64 rad,.int .i64 most,.slice po no co,.slice pt nt ct,.slice pr nr cr,.slice pv nv cv,.slice pl nl cl,.int .i64 wk,.slice pp np cp,.slice none 0 0,.slice q M0.length c],Pc.blk bx 82 #[.pointer (some ⟨b,0,none⟩)],Pc.own 146 4 none 0 0 (encQ []),Pc.own 138 4 q M0.length c (encQ M0)] ++ [Pc.blk gn 3 #[.int .i64 0],Pc.blk g12 34 #[.bool false,.int .i64 0,.slice none 0 0],Pc.blk g13 3 #[.int .i64 0],Pc.blk g14 35 #[.int .i64 0],Pc.blk gb 3 #[.int .i64 bud]]) [3,1,0,4,2,7,6,5,8] (by decide) rfl).apart
  exact fun p hp p2 hp2 kk hk hk2=>hA.2.2 p hp p2 hp2 kk hk hk2
 have HAP:=Lib.hid hap
 clear S6 S7 hap
 have HNE:Hid (gn≠b∧g12≠b∧g13≠b∧g14≠b∧gb≠b):=by
  have key:∀ p2∈[Pc.blk gn 3 #[.int .i64 0],Pc.blk g12 34 #[.bool false,.int .i64 0,.slice none 0 0],Pc.blk g13 3 #[.int .i64 0],Pc.blk g14 35 #[.int .i64 0],Pc.blk gb 3 #[.int .i64 bud]],¬ p2.foot b:=fun p2 hp2 hk2=>HAP.out _ (List.mem_cons_self ..) p2 hp2 b rfl hk2
  exact⟨fun e=>key (Pc.blk gn 3 #[.int .i64 0]) (by simp) e.symm,fun e=>key (Pc.blk g12 34 #[.bool false,.int .i64 0,.slice none 0 0]) (by simp) e.symm,fun e=>key (Pc.blk g13 3 #[.int .i64 0]) (by simp) e.symm,fun e=>key (Pc.blk g14 35 #[.int .i64 0]) (by simp) e.symm,fun e=>key (Pc.blk gb 3 #[.int .i64 bud]) (by simp) e.symm⟩
 obtain⟨Bd,hBd⟩:∃ Bd:Nat→Prop,Bd=footA [Pc.blk gn 3 #[.int .i64 0],Pc.blk g12 34 #[.bool false,.int .i64 0,.slice none 0 0],Pc.blk g13 3 #[.int .i64 0],Pc.blk g14 35 #[.int .i64 0],Pc.blk gb 3 #[.int .i64 bud]]:=⟨_,rfl⟩
 have HBD:=Lib.hid hBd
 clear hBd
 refine wpIn_wide.1 (wpIn_rangeFunc_toldD (F:=Fence.wide) (n:=9) rfl (by omega) (gf:=93) (lb:=#[.pointer (some ⟨bx,0,none⟩)]) rfl trivial (enters_of Tryz.func93 (by kernel_rfl) rfl)
  (HIT.out V1 b bx q M0.length c Bd SX.out ?hBl ?hBf) ?hXl
  (fun h k=>h.trans k) ?hKb (Below.refl _ _) (fun _=>rfl)
  (fun (pre:List YdT) W=>Sep w W [Pc.blk gn 3 #[.int .i64 (pre.length:Int)],Pc.blk g12 34 #[.bool false,.int .i64 0,.slice none 0 0],Pc.blk g13 3 #[.int .i64 0],Pc.blk g14 35 #[.int .i64 0],Pc.blk gb 3 #[.int .i64 bud]]∧V1.heap.size≤W.heap.size∧pre.length≤m∧(pre.length:Int)<bud)
  (fun c2 (pre:List YdT) W=>(c2=.ret∧∃ y:YdT,pre.length=m+1∧(m:Int)+1≤bud∧(∀ kk,blkOf y.q=some kk→kk≠b)∧AnsD k t L ws most (rn (m+1)) y.yes y.d y.F∧Sep w W [Pc.own 105 2 y.q y.F.length y.c (encE y.F),Pc.blk g12 34 #[.bool y.yes,.int .i64 y.d,.slice y.q y.F.length y.c],Pc.blk g13 3 #[.int .i64 ((m:Int)+1)],Pc.blk g14 35 #[.int .i64 0]])∨(c2=.exit 0∧bud<(m:Int)+1∧Sep w W [Pc.blk gn 3 #[.int .i64 bud],Pc.blk g12 34 #[.bool false,.int .i64 0,.slice none 0 0],Pc.blk g13 3 #[.int .i64 0],Pc.blk g14 35 #[.int .i64 0],Pc.blk gb 3 #[.int .i64 bud]]))
  ?hI ?hIx ?hQ ?h0
  (fun (pre:List YdT) (y:YdT) a' W=>∃ ga,(∀ kk,blkOf y.q=some kk→kk≠b)∧ga≠b∧frRun (.pointer (some ⟨gb,0,none⟩)) (.pointer (some ⟨g12,0,none⟩)) (.pointer (some ⟨g13,0,none⟩)) (.pointer (some ⟨g14,0,none⟩)) (.pointer (some ⟨gn,0,none⟩)) (.pointer (some ⟨ga,0,none⟩)) (.bool y.dn) a'∧Sep w W ([Pc.blk ga 34 #[.bool y.yes,.int .i64 y.d,.slice y.q y.F.length y.c],Pc.own 105 2 y.q y.F.length y.c (encE y.F)] ++ [Pc.blk gn 3 #[.int .i64 (pre.length:Int)],Pc.blk g12 34 #[.bool false,.int .i64 0,.slice none 0 0],Pc.blk g13 3 #[.int .i64 0],Pc.blk g14 35 #[.int .i64 0],Pc.blk gb 3 #[.int .i64 bud]])∧AnsD k t L ws most (rn (pre.length+1)) y.yes y.d y.F∧y.dn=doneB k t (rn (pre.length+1)))
  ?hAx ?assign ?body (fun D xs W _ h _ _=>h.elim) ?stop)
 case hBl =>
  intro kk hk
  rw [HBD.out] at hk
  obtain⟨p,hp,hk⟩:=hk
  exact⟨SG.out.new p hp kk hk,SG.out.lt hp hk⟩
 case hBf =>
  intro p hp kk hk hb
  rw [HBD.out] at hb
  obtain⟨p2,hp2,hk2⟩:=hb
  exact HAP.out p hp p2 hp2 kk hk hk2
 case hXl=>rintro kk rfl;exact(SX.out.blk 0 rfl).lt
 case hKb=>exact fun W l o o' hl ho hc _=>KpN.putObj W l o o' hl ho hc
 case hI =>
  rintro pre W W' row ⟨S,h1,h2⟩ hg hr
  exact⟨S.turnX gi_cells (gi_feet HNE.out) (fun kk e=>by rw [e];exact SX.out.bge 0 rfl) SG.out.ext.size hg hr,Nat.le_trans h1 hg.size,h2⟩
 case hIx =>
  rintro c2 pre W W' row h hg hr
  rcases h with ⟨rfl,y,h1,h2,h3,h4,S⟩ | ⟨rfl,h1,S⟩
  ·exact .inl ⟨rfl,y,h1,h2,h3,h4,S.turnX gr_cells (gr_feet h3 ⟨HNE.out.2.1,HNE.out.2.2.1,HNE.out.2.2.2.1⟩) (fun kk e=>by rw [e];exact SX.out.bge 0 rfl) SG.out.ext.size hg hr⟩
  ·exact .inr ⟨rfl,h1,S.turnX gi_cells (gi_feet HNE.out) (fun kk e=>by rw [e];exact SX.out.bge 0 rfl) SG.out.ext.size hg hr⟩
 case hQ=>exact fun pre W h=>Nat.lt_of_le_of_lt h.2.2.1 hm
 case h0=>exact⟨SG.out,Nat.le_refl _,Nat.zero_le _,by show ((0:Nat):Int)<bud;omega⟩
 case hAx =>
  rintro pre y a' _ W W' row ⟨ga,h1,h2,h3,S,h4⟩ hg hr
  refine⟨ga,h1,h2,h3,S.turnX (fun p hp=>?_) (fun p hp kk hk e=>?_) (fun kk e=>by rw [e];exact SX.out.bge 0 rfl) SG.out.ext.size hg hr,h4⟩
  ·rcases List.mem_append.1 hp with hp | hp
   ·simp only [List.mem_cons,List.not_mem_nil,or_false] at hp
    rcases hp with rfl | rfl
    ·exact Pc.blk_cells _ _ _
    ·exact Pc.own_cells _ _ _ _ _ _
   ·exact gi_cells p hp
  ·rcases List.mem_append.1 hp with hp | hp
   ·simp only [List.mem_cons,List.not_mem_nil,or_false] at hp
    rcases hp with rfl | rfl
    ·exact h2 ((show kk=ga from hk).symm.trans e)
    ·exact h1 kk hk e
   ·exact gi_feet HNE.out p hp kk hk e
 case assign =>
  rintro l pre y V0 W Kx ⟨S,hVs,hpm,hpb⟩ hE ⟨hA1,hA2,hA3⟩ hKx
  have HKX:=Lib.hid hKx
  have SY:=Lib.hid ((S.comp hA1).al #[.bool y.yes,.int .i64 y.d,.slice y.q y.F.length y.c] 34 W.heap.size rfl)
  have HBV:=Lib.hid (show b<V0.heap.size from Nat.lt_of_lt_of_le (SX.out.blk 0 rfl).lt hVs)
  have HH:=Lib.hid (show ∀ kk,blkOf y.q=some kk→kk≠b from fun kk hk e=>by
   have:=hA1.new _ (List.mem_cons_self ..) kk hk
   have:=HBV.out
   omega)
  have HWS:=Lib.hid hE.size
  have HA2:=Lib.hid hA2
  have HA3:=Lib.hid hA3
  clear hKx S hA1 hA2 hA3
  simp only [ydE]
  gi_wp2
  exact HKX.out _ _ ((keeps_ext (Ext.alloc (Below.refl _ _) _)).from _) (KpN.of_ext (Ext.alloc (Below.refl _ _) _)) ⟨SY.out.pick [2,3,4,5,6] (by decide) rfl,by rw [World.size_alloc];have:=HWS.out;omega,hpm,hpb⟩ ⟨W.heap.size,HH.out,by have:=HWS.out;have:=HBV.out;omega,frRun_of,SY.out,HA2.out,HA3.out⟩
 case body =>
  rintro l pre y a' W ⟨_,hVs,hpm,hpb⟩ ⟨ga,hyb,hgb,hfr,S,hA,hdn⟩
  obtain⟨j,hj⟩:∃ j,pre.length=j:=⟨_,rfl⟩
  have hj2:(pre ++ [y]).length=j+1:=by rw [List.length_append,hj];rfl
  rw [hj] at hpm hpb S hA hdn
  obtain⟨pre2,hpre⟩:∃ pre2,pre ++ [y]=pre2:=⟨_,rfl⟩
  rw [hpre] at hj2 ⊢
  obtain⟨yes,d,F,yq,yc,dn⟩:=y
  dsimp only at hyb hfr S hA hdn
  have HJ2:=Lib.hid hj2
  have HYB:=Lib.hid hyb
  have HA:=Lib.hid hA
  clear hj hj2 hpre hyb hA
  obtain⟨n0,nf,nz⟩:=bkc0z0l (S.blk 2 rfl)
  have d1:(0:Int)≤(j:Int):=by omega
  have d2:(j:Int)≤1000:=by omega
  have S1:=Lib.hid (S.set 2 rfl 0 (.int .i64 ((j:Int)+1)))
  have K1:=Lib.hid (KeepsOthers.setCell W ⟨gn,0,none⟩ (.int .i64 ((j:Int)+1)))
  have KP:=Lib.hid (KpN.cell (Bd:=Bd) (C:=V1.heap.size) W ⟨gn,0,none⟩ (.int .i64 ((j:Int)+1)) (by rw [HBD.out];exact⟨_,List.mem_cons_self ..,rfl⟩))
  have HSZ:=Lib.hid (show V1.heap.size≤(W.setCell ⟨gn,0,none⟩ (.int .i64 ((j:Int)+1))).heap.size from Nat.le_trans hVs (grown_set ..).size)
  clear S
  unfold frRun at hfr
  (repeat obtain⟨_,hfr⟩:=hfr)
  by_cases hjm:j=m
  ·subst hjm
   have hdt:dn=true:=by rw [hdn,HDN.out]
   subst hdt
   clear hdn HFN
   gi_wp2
   clear n0 nf nz
   have S2:=Lib.hid (show Sep w (W.setCell ⟨gn,0,none⟩ (.int .i64 ((j:Int)+1))).drew ([Pc.blk ga 34 #[.bool yes,.int .i64 d,.slice yq F.length yc],Pc.own 105 2 yq F.length yc (encE F)] ++ [Pc.blk gn 3 #[.int .i64 ((j:Int)+1)],Pc.blk g12 34 #[.bool false,.int .i64 0,.slice none 0 0],Pc.blk g13 3 #[.int .i64 0],Pc.blk g14 35 #[.int .i64 0],Pc.blk gb 3 #[.int .i64 bud]]) from S1.out.drew)
   have K2:=Lib.hid (K1.out.trans (keeps_ext (Below.refl _ (W.setCell ⟨gn,0,none⟩ (.int .i64 ((j:Int)+1)))).drew))
   refine wpIn_region_heldR (S:=fun U=>Blk U ga 34 #[.bool yes,.int .i64 d,.slice yq F.length yc]∧Blk U gn 3 #[.int .i64 ((j:Int)+1)]) 4 rfl (noDefer_arr (by kernel_rfl)) (by kernel_rfl) ⟨S2.out.blk 0 rfl,S2.out.blk 2 rfl⟩ (fun hHeld=>?_)
   clear S1 K1 KP HSZ
   generalize World.drew _=D at S2 K2 hHeld ⊢
   refine wpAnyHI_take [2,3,4] (i:=0) (v:=.agg #[.bool yes,.int .i64 d,.slice yq F.length yc]) rfl rfl (by kernel_rfl) (by kernel_rfl) (by kernel_rfl) (by kernel_rfl) (fun _ _ _ h=>h) ⟨Or.inl ⟨by kernel_rfl,fun W hSw=>by have h0:=hSw.1.cell 0;have h1:=hSw.1.cell 1;have h2:=hSw.1.cell 2;have h3:=hSw.1.lt;clear hSw;go_simp⟩,fun _ _=>rfl⟩ hHeld ?_
   refine wpAnyHI_take [3,4] (i:=1) (v:=.int .i64 ((j:Int)+1)) rfl rfl (by kernel_rfl) (by kernel_rfl) (by kernel_rfl) (by kernel_rfl) (fun _ _ _ h=>h) ⟨Or.inl ⟨by kernel_rfl,fun W hSw=>by have h0:=hSw.2.cell 0;have h3:=hSw.2.lt;clear hSw;go_simp⟩,fun _ _=>rfl⟩ hHeld ?_
   obtain⟨c0,c1,c2,cz,cf0,cf1,cf2⟩:=bkc0c1c2lz0z1z2 (S2.out.blk 3 rfl)
   refine wpAnyHI_one (i:=2) (by kernel_rfl) rfl (by decide) (fun K hK=>?_)
   go_simp
   have S3:=Lib.hid (show Sep w (((D.setCell ⟨g12,0,none⟩ (.bool yes)).setCell ⟨g12,1,none⟩ (.int .i64 d)).setCell ⟨g12,2,none⟩ (.slice yq F.length yc)) [Pc.blk ga 34 #[.bool yes,.int .i64 d,.slice yq F.length yc],Pc.own 105 2 yq F.length yc (encE F),Pc.blk gn 3 #[.int .i64 ((j:Int)+1)],Pc.blk g12 34 #[.bool yes,.int .i64 d,.slice yq F.length yc],Pc.blk g13 3 #[.int .i64 0],Pc.blk g14 35 #[.int .i64 0],Pc.blk gb 3 #[.int .i64 bud]] from((S2.out.set 3 rfl 0 (.bool yes)).set 3 rfl 1 (.int .i64 d)).set 3 rfl 2 (.slice yq F.length yc))
   have K3:=Lib.hid (((K2.out.trans (KeepsOthers.setCell D ⟨g12,0,none⟩ (.bool yes))).trans (KeepsOthers.setCell _ ⟨g12,1,none⟩ (.int .i64 d))).trans (KeepsOthers.setCell _ ⟨g12,2,none⟩ (.slice yq F.length yc)))
   clear c0 c1 c2 cz cf0 cf1 cf2 S2 K2 hHeld
   refine hK _ _ ⟨S3.out.blk 0 rfl,S3.out.blk 2 rfl⟩ ?_
   clear hK
   generalize ((D.setCell ⟨g12,0,none⟩ (.bool yes)).setCell ⟨g12,1,none⟩ (.int .i64 d)).setCell ⟨g12,2,none⟩ (.slice yq F.length yc)=D3 at S3 K3 ⊢
   obtain⟨c0,cz,cf0⟩:=bkc0lz0 (S3.out.blk 4 rfl)
   refine wpAnyHI_one (i:=3) (by kernel_rfl) rfl (by decide) (fun K hK=>?_)
   go_simp
   have S4:=Lib.hid (show Sep w (D3.setCell ⟨g13,0,none⟩ (.int .i64 ((j:Int)+1))) [Pc.blk ga 34 #[.bool yes,.int .i64 d,.slice yq F.length yc],Pc.own 105 2 yq F.length yc (encE F),Pc.blk gn 3 #[.int .i64 ((j:Int)+1)],Pc.blk g12 34 #[.bool yes,.int .i64 d,.slice yq F.length yc],Pc.blk g13 3 #[.int .i64 ((j:Int)+1)],Pc.blk g14 35 #[.int .i64 0],Pc.blk gb 3 #[.int .i64 bud]] from S3.out.set 4 rfl 0 (.int .i64 ((j:Int)+1)))
   have K4:=Lib.hid (K3.out.trans (KeepsOthers.setCell D3 ⟨g13,0,none⟩ (.int .i64 ((j:Int)+1))))
   clear c0 cz cf0 S3 K3
   refine hK _ _ ⟨S4.out.blk 0 rfl,S4.out.blk 2 rfl⟩ ?_
   clear hK
   generalize D3.setCell ⟨g13,0,none⟩ (.int .i64 ((j:Int)+1))=D4 at S4 K4 ⊢
   obtain⟨c0,cz,cf0⟩:=bkc0lz0 (S4.out.blk 5 rfl)
   refine wpAnyHI_last (by kernel_rfl) rfl (fun K hK=>?_)
   go_simp
   have S5:=Lib.hid (S4.out.set 5 rfl 0 (.int .i64 0))
   have K5:=Lib.hid (K4.out.trans (KeepsOthers.setCell D4 ⟨g14,0,none⟩ (.int .i64 0)))
   clear c0 cz cf0 S4 K4
   refine hK _ _ ?_
   clear hK
   refine wpAnyIn_done (by kernel_rfl) ?_ _
   gi_wp2
   exact⟨K5.out.from _,.inl ⟨rfl,⟨yes,d,F,yq,yc,true⟩,HJ2.out,by omega,HYB.out,HA.out,S5.out.pick [1,3,4,5] (by decide) rfl⟩⟩
  ·have hdf:dn=false:=by rw [hdn];exact HFN.out j (by omega)
   subst hdf
   clear hdn HDN
   obtain⟨n1,n1z⟩:=bkc0l (S1.out.blk 2 rfl)
   obtain⟨b1,b1z⟩:=bkc0l (S1.out.blk 6 rfl)
   by_cases hjb:(j:Int)+1=bud
   ·subst hjb
    have e1:decide ((j:Int)+1=(j:Int)+1)=true:=by simp
    gi_wp2
    exact⟨K1.out.from _,.inr ⟨rfl,by omega,S1.out.pick [2,3,4,5,6] (by decide) rfl⟩⟩
   ·have e1:decide ((j:Int)+1=bud)=false:=by simpa using hjb
    have e2:((j:Int)+1 == bud)=false:=by simpa using hjb
    gi_wp2
    have hc:((pre2.length:Nat):Int)=(j:Int)+1:=by rw [HJ2.out];omega
    refine⟨K1.out.from _,KP.out,?_,HSZ.out,by rw [HJ2.out];omega,by rw [hc];omega⟩
    rw [hc]
    exact S1.out.pick [2,3,4,5,6] (by decide) rfl
 case stop =>
  rintro D c2 pre W hD _ (⟨rfl,y,hl,hmb,hyb,hA,S⟩ | ⟨rfl,hmb,S⟩) hK
  ·obtain⟨yes,d,F,yq,yc,dn⟩:=y
   dsimp only at hA S
   have S':=S.putObj gr_cells (.deferred none) (Nat.le_trans SG.out.ext.size hD) hK rfl
   obtain⟨x0,x1,x2⟩:=bkc0c1c2 (S'.blk 1 rfl)
   have x3:=(S'.blk 2 rfl).cell 0
   have x4:=(S'.blk 3 rfl).cell 0
   have SQ:=Lib.hid (S'.pick [0] (by decide) rfl:Sep w _ [Pc.own 105 2 yq F.length yc (encE F)])
   have HA:=Lib.hid hA
   clear hA S S'
   gi_wp2
   try rw [Exit.noGoto_ret]
   refine⟨by simp,.inl ⟨_,_,rfl,run_takeDeferred hK,?_⟩⟩
   exact⟨.tuple #[.agg #[.bool yes,.int .i64 d,.slice yq F.length yc],.int .i64 ((m:Int)+1),.int .i64 0],by simp [results,Tryz.results17,go_sem,x0,x1,x2,x3,x4,Tryz.sizeOf34,Tryz.isAgg34],yes,d,F,fun _=>⟨HA.out,yq,yc,rfl,SQ.out⟩,fun h=>absurd hmb (by omega)⟩
  ·have HDB:=Lib.hid (Nat.le_trans SG.out.ext.size hD)
   have HS:=Lib.hid (show Sep w W [Pc.blk gn 3 #[.int .i64 bud],Pc.blk g12 34 #[.bool false,.int .i64 0,.slice none 0 0],Pc.blk g13 3 #[.int .i64 0],Pc.blk g14 35 #[.int .i64 0],Pc.blk gb 3 #[.int .i64 bud],Pc.obj D (.deferred (some []))] from S.obj gi_cells HDB.out hK rfl)
   clear S hK
   gi_wp2
   go_wp2
   refine wp_region_noPanic ?_
   refine wp_region_held_drew (S:=fun U=>Blk U gn 3 #[.int .i64 bud]) (by kernel_rfl) (HS.out.drew.blk 0 rfl) (fun hHeld=>?_)
   have S2:=Lib.hid HS.out.drew
   clear HS
   generalize World.drew _=U at S2 hHeld ⊢
   refine wpAnyH_take (i:=0) (v:=.agg #[.bool false,.int .i64 0,.slice none 0 0]) rfl (by kernel_rfl) (by kernel_rfl) (by kernel_rfl) (noPanic_q _ _) (Or.inl ⟨by kernel_rfl,fun W hSw=>by skip;clear hSw;go_simp⟩) hHeld ?_
   refine wpAnyH_take (i:=1) (v:=.int .i64 bud) rfl (by kernel_rfl) (by kernel_rfl) (by kernel_rfl) (noPanic_q _ _) (Or.inl ⟨by kernel_rfl,fun W hSw=>by have h0:=hSw.cell 0;have h1:=hSw.lt;clear hSw;go_simp⟩) hHeld ?_
   obtain⟨c0,c1,c2,cz,cf0,cf1,cf2⟩:=bkc0c1c2lz0z1z2 (S2.out.blk 1 rfl)
   refine wpAnyH_ready (rs:=[2]) (by kernel_rfl) (by simp) (AllReadyH.cons rfl (fun K hK=>?_) AllReadyH.nil)
   go_simp
   have S3:=Lib.hid (((S2.out.set 1 rfl 0 (.bool false)).set 1 rfl 1 (.int .i64 0)).set 1 rfl 2 (.slice none 0 0))
   clear c0 c1 c2 cz cf0 cf1 cf2 S2 hHeld
   refine hK.out _ _ (S3.out.blk 0 rfl) (fun hHeld=>?_)
   clear hK
   generalize ((U.setCell ⟨g12,0,none⟩ (.bool false)).setCell ⟨g12,1,none⟩ (.int .i64 0)).setCell ⟨g12,2,none⟩ (.slice none 0 0)=U3 at S3 hHeld ⊢
   obtain⟨c0,cz,cf0⟩:=bkc0lz0 (S3.out.blk 2 rfl)
   refine wpAnyH_ready (rs:=[3]) (by kernel_rfl) (by simp) (AllReadyH.cons rfl (fun K hK=>?_) AllReadyH.nil)
   go_simp
   have S4:=Lib.hid (S3.out.set 2 rfl 0 (.int .i64 bud))
   clear c0 cz cf0 S3 hHeld
   refine hK.out _ _ (S4.out.blk 0 rfl) (fun hHeld=>?_)
   clear hK
   generalize U3.setCell ⟨g13,0,none⟩ (.int .i64 bud)=U4 at S4 hHeld ⊢
   obtain⟨c0,cz,cf0⟩:=bkc0lz0 (S4.out.blk 3 rfl)
   refine wpAnyH_ready (rs:=[4]) (by kernel_rfl) (by simp) (AllReadyH.cons rfl (fun K hK=>?_) AllReadyH.nil)
   go_simp
   have S5:=Lib.hid (show Sep w (U4.setCell ⟨g14,0,none⟩ (.int .i64 251)) [Pc.blk gn 3 #[.int .i64 bud],Pc.blk g12 34 #[.bool false,.int .i64 0,.slice none 0 0],Pc.blk g13 3 #[.int .i64 bud],Pc.blk g14 35 #[.int .i64 251],Pc.blk gb 3 #[.int .i64 bud],Pc.obj D (.deferred (some []))] from S4.out.set 3 rfl 0 (.int .i64 251))
   clear c0 cz cf0 S4 hHeld
   refine hK.out _ _ (S5.out.blk 0 rfl) (fun hHeld=>?_)
   clear hK hHeld
   refine wpAnyH_done (by kernel_rfl) ?_ _
   refine noPanic_mk ?_
   generalize U4.setCell ⟨g14,0,none⟩ (.int .i64 251)=U5 at S5 ⊢
   have hK:U5.heap[D]?=some (.deferred (some [])):=S5.out.all (Pc.obj D (.deferred (some []))) (by simp)
   have S':=(S5.out.pick (Δ:=[Pc.blk gn 3 #[.int .i64 bud],Pc.blk g12 34 #[.bool false,.int .i64 0,.slice none 0 0],Pc.blk g13 3 #[.int .i64 bud],Pc.blk g14 35 #[.int .i64 251],Pc.blk gb 3 #[.int .i64 bud]]) [0,1,2,3,4] (by decide) rfl).putObj gi_cells (.deferred none) HDB.out hK rfl
   obtain⟨x0,x1,x2⟩:=bkc0c1c2 (S'.blk 1 rfl)
   have x3:=(S'.blk 2 rfl).cell 0
   have x4:=(S'.blk 3 rfl).cell 0
   have SQ:=Lib.hid ((S'.nilrow 105 2).pick (Δ:=[Pc.own 105 2 none 0 0 (encE [])]) [0] (by decide) rfl)
   clear S' S5
   try simp [Act.put]
   go_wp2
   try rw [Exit.noGoto_ret]
   refine⟨by simp,.inl ⟨_,_,rfl,run_takeDeferred hK,?_⟩⟩
   exact⟨.tuple #[.agg #[.bool false,.int .i64 0,.slice none 0 0],.int .i64 bud,.int .i64 251],by simp [results,Tryz.results17,go_sem,x0,x1,x2,x3,x4,Tryz.sizeOf34,Tryz.isAgg34],false,0,[],fun h=>absurd hmb (by omega),fun _=>⟨none,0,rfl,SQ.out⟩⟩
end
section
open Go Go.RowKit
theorem home_any (wv:Int):∃ hv ok,ok=decide (1≤wv∧wv≤16)∧∀ W,Calls Tryz.prog 50 #[.int .i64 0,.int .i64 wv] W fun e w'=>e=.returned (.tuple #[.int .i64 hv,.bool ok])∧W=w':=by
 by_cases h:1≤wv∧wv≤16
 ·obtain⟨n,rfl⟩:∃ n:Nat,wv=(n:Int):=⟨wv.toNat,by omega⟩
  exact⟨_,true,by rw [decide_eq_true h],fun W=>HomeG 0 n W (by omega) (by omega) (by omega) (by omega)⟩
 ·exact⟨0,false,by rw [decide_eq_false h],fun W=>HomeNo 0 wv W (by omega)⟩
theorem RunErr (k f t:Int) (pw:Option Addr) (nw cw:Nat) (ws:List ByteArray) (rad most:Int) (po:Option Addr) (no co:Nat) (O:List Int) (pt:Option Addr) (nt ct:Nat) (T:List Int) (pr:Option Addr) (nr cr:Nat) (R:List Int) (pv:Option Addr) (nv cv:Nat) (V:List Int) (pl:Option Addr) (nl cl:Nat) (wv bud:Int) (pp:Option Addr) (np cp:Nat) (w:World) (hO:Rd w 1 po no (encI O)) (hT:Rd w 1 pt nt (encI T)) (hR:Rd w 1 pr nr (encI R)) (hV:Rd w 1 pv nv (encI V)) (hct:nt≤ct) (hcv:nv≤cv)
  (hW:Rd w 1 pw nw (encS ws)) (hz:∀ s∈ws,s.size≤1000000) (h1000:no≤1000)
  (h:chkJ (checkR O T R V) k f t ws rad most no≠0∨¬ (1≤wv∧wv≤16)∨bud<1) :
  Calls Tryz.prog 17 #[.agg #[.int .i64 k,.int .i64 f,.int .i64 t,.slice pw nw cw,.int .i64 rad,.int .i64 most],.agg #[.slice po no co,.slice pt nt ct,.slice pr nr cr,.slice pv nv cv],.slice pl nl cl,.int .i64 wv,.int .i64 bud,.slice pp np cp] w (RunQ false 0 [] 0 (if chkJ (checkR O T R V) k f t ws rad most no≠0 then chkJ (checkR O T R V) k f t ws rad most no else 1) w):=by
 have HCJ:=Lib.hid (fun W (h:Ext w W)=>CheckJ k f t pw nw cw ws rad most po no co O pt nt ct T pr nr cr R pv nv cv V W (hO.ext h) (hT.ext h) (hR.ext h) (hV.ext h) hct hcv (hW.ext h) hz h1000)
 obtain⟨E,hE⟩:∃ E,chkJ (checkR O T R V) k f t ws rad most no=E:=⟨_,rfl⟩
 rw [hE] at HCJ h ⊢
 obtain⟨hv,ok,hok,HH0⟩:=home_any wv
 have HHM:=Lib.hid HH0
 have S0:=Lib.hid ((((((((Sep.start w).al #[.int .i64 k,.int .i64 f,.int .i64 t,.slice pw nw cw,.int .i64 rad,.int .i64 most] 24 w.heap.size rfl).al #[.slice po no co,.slice pt nt ct,.slice pr nr cr,.slice pv nv cv] 27 (w.heap.size+1) (by simp)).al #[.int .i64 bud] 3 (w.heap.size+1+1) (by simp)).al #[.bool false,.int .i64 0,.slice none 0 0] 34 (w.heap.size+1+1+1) (by simp)).al #[.int .i64 0] 3 (w.heap.size+1+1+1+1) (by simp)).al #[.int .i64 0] 35 (w.heap.size+1+1+1+1+1) (by simp)))
 clear hO hT hR hV hct hcv hW hz HH0 hE h1000
 have key:E≠0∨(E=0∧ok=false)∨(E=0∧ok=true∧bud<1):=by
  by_cases h0:E=0
  ·right
   cases ok with
   | false=>exact .inl ⟨h0,rfl⟩
   | true =>
    have:=of_decide_eq_true hok.symm
    exact .inr ⟨h0,rfl,by rcases h with h | h | h <;> first | exact absurd h0 h | exact absurd this h | exact h⟩
  ·exact .inl h0
 clear h hok
 obtain⟨E2,hE2⟩:∃ E2,(if E≠0 then E else 1)=E2:=⟨_,rfl⟩
 rw [hE2]
 have HE2:=Lib.hid hE2
 clear hE2
 go_enter Tryz.func17,Tryz.ntmps17
 rcases key with h | ⟨rfl,rfl⟩ | ⟨rfl,rfl,h⟩
 ·have d1:decide (E=0)=false:=by simpa using h
  have d2:(E == 0)=false:=by simpa using h
  have e2:E2=E:=by rw [← HE2.out,if_pos h]
  subst e2
  clear HE2
  go_wp2_with (first | (go_at_call 49;go_must (refine(HCJ.out _ S0.out.ext).mono ?_;rintro e w1 ⟨rfl,hb⟩;have S1:=Lib.hid (S0.out.call hb);obtain⟨b0,bz⟩:=bkc0l (S1.out.blk 3 rfl);obtain⟨c0,c1,c2,cz,f0,f1,f2⟩:=bkc0c1c2lz0z1z2 (S1.out.blk 2 rfl);obtain⟨a0,az,g0⟩:=bkc0lz0 (S1.out.blk 1 rfl);obtain⟨y0,yz,h0⟩:=bkc0lz0 (S1.out.blk 0 rfl);clear hb)) | (go_at_call 50;go_must (refine(HHM.out _).mono ?_;rintro e w2 ⟨rfl,rfl⟩)))
  have S9:=((((S1.out.set 2 rfl 0 (.bool false)).set 2 rfl 1 (.int .i64 0)).set 2 rfl 2 (.slice none 0 0)).set 1 rfl 0 (.int .i64 0)).set 0 rfl 0 (.int .i64 E2)
  obtain⟨x0,x1,x2⟩:=bkc0c1c2 (S9.blk 2 rfl)
  have x3:=(S9.blk 1 rfl).cell 0
  have x4:=(S9.blk 0 rfl).cell 0
  exact bodyPost_ret (v:=.tuple #[.agg #[.bool false,.int .i64 0,.slice none 0 0],.int .i64 0,.int .i64 E2]) (by simp [results,Tryz.results17,go_sem,x0,x1,x2,x3,x4,Tryz.sizeOf34,Tryz.isAgg34]) rfl ⟨none,0,rfl,(S9.nilrow 105 2).pick [0] (by decide) rfl⟩
 ·have e2:E2=1:=by rw [← HE2.out,if_neg (by simp)]
  subst e2
  clear HE2
  go_wp2_with (first | (go_at_call 49;go_must (refine(HCJ.out _ S0.out.ext).mono ?_;rintro e w1 ⟨rfl,hb⟩;have S1:=Lib.hid (S0.out.call hb);obtain⟨b0,bz⟩:=bkc0l (S1.out.blk 3 rfl);obtain⟨c0,c1,c2,cz,f0,f1,f2⟩:=bkc0c1c2lz0z1z2 (S1.out.blk 2 rfl);obtain⟨a0,az,g0⟩:=bkc0lz0 (S1.out.blk 1 rfl);obtain⟨y0,yz,h0⟩:=bkc0lz0 (S1.out.blk 0 rfl);clear hb)) | (go_at_call 50;go_must (refine(HHM.out _).mono ?_;rintro e w2 ⟨rfl,rfl⟩)))
  have S9:=((((S1.out.set 2 rfl 0 (.bool false)).set 2 rfl 1 (.int .i64 0)).set 2 rfl 2 (.slice none 0 0)).set 1 rfl 0 (.int .i64 0)).set 0 rfl 0 (.int .i64 1)
  obtain⟨x0,x1,x2⟩:=bkc0c1c2 (S9.blk 2 rfl)
  have x3:=(S9.blk 1 rfl).cell 0
  have x4:=(S9.blk 0 rfl).cell 0
  exact bodyPost_ret (v:=.tuple #[.agg #[.bool false,.int .i64 0,.slice none 0 0],.int .i64 0,.int .i64 1]) (by simp [results,Tryz.results17,go_sem,x0,x1,x2,x3,x4,Tryz.sizeOf34,Tryz.isAgg34]) rfl ⟨none,0,rfl,(S9.nilrow 105 2).pick [0] (by decide) rfl⟩
 ·have e2:E2=1:=by rw [← HE2.out,if_neg (by simp)]
  subst e2
  clear HE2
  have d1:decide (bud<1)=true:=by simpa using h
  go_wp2_with (first | (go_at_call 49;go_must (refine(HCJ.out _ S0.out.ext).mono ?_;rintro e w1 ⟨rfl,hb⟩;have S1:=Lib.hid (S0.out.call hb);obtain⟨b0,bz⟩:=bkc0l (S1.out.blk 3 rfl);obtain⟨c0,c1,c2,cz,f0,f1,f2⟩:=bkc0c1c2lz0z1z2 (S1.out.blk 2 rfl);obtain⟨a0,az,g0⟩:=bkc0lz0 (S1.out.blk 1 rfl);obtain⟨y0,yz,h0⟩:=bkc0lz0 (S1.out.blk 0 rfl);clear hb)) | (go_at_call 50;go_must (refine(HHM.out _).mono ?_;rintro e w2 ⟨rfl,rfl⟩)))
  have S9:=((((S1.out.set 2 rfl 0 (.bool false)).set 2 rfl 1 (.int .i64 0)).set 2 rfl 2 (.slice none 0 0)).set 1 rfl 0 (.int .i64 0)).set 0 rfl 0 (.int .i64 1)
  obtain⟨x0,x1,x2⟩:=bkc0c1c2 (S9.blk 2 rfl)
  have x3:=(S9.blk 1 rfl).cell 0
  have x4:=(S9.blk 0 rfl).cell 0
  exact bodyPost_ret (v:=.tuple #[.agg #[.bool false,.int .i64 0,.slice none 0 0],.int .i64 0,.int .i64 1]) (by simp [results,Tryz.results17,go_sem,x0,x1,x2,x3,x4,Tryz.sizeOf34,Tryz.isAgg34]) rfl ⟨none,0,rfl,(S9.nilrow 105 2).pick [0] (by decide) rfl⟩
end
section
open Go Go.RowKit
theorem run_m {k f t rad most:Int} {ws:List ByteArray} {O T R V:List Int} {n:Nat} (hck:checkR O T R V=true) (hn:O.length=n+1) (h200:n≤200) (hq:chkQ k f t ws rad most (n:Int)=0) :
  (k=1∨k=2∨k=3)∧(∀ i,RunI n i (runM (nextL k rad true O T R V) (startQ k f t 0) i)) ∧
  ∃ m,m<n∧doneB k t (runM (nextL k rad true O T R V) (startQ k f t 0) (m+1))=true∧∀ j,j<m→doneB k t (runM (nextL k rad true O T R V) (startQ k f t 0) (j+1))=false:=by
 have hl:Leads n (nextL k rad true O T R V):=next_leads hck hn
 have ho:=chkQ_zero.1 hq
 by_cases h12:k=1∨k=2
 ·have hk:k=1∨k=2∨k=3:=by omega
  rw [okQ_12 h12,Bool.and_eq_true] at ho
  obtain⟨o1,o2⟩:=ho
  unfold plcB at o1 o2
  simp only [Bool.and_eq_true,decide_eq_true_eq] at o1 o2
  obtain⟨s,rfl⟩:∃ s:Nat,f=(s:Int):=⟨f.toNat,by omega⟩
  obtain⟨u,rfl⟩:∃ u:Nat,t=(u:Int):=⟨t.toNat,by omega⟩
  obtain⟨f1,f2,_⟩:=start_facts (k:=k) (rad:=rad) (most:=rad) (s:=s) (t:=u) (n:=n) hk (by omega) (fun _=>by omega) rfl rfl
  exact⟨hk,runI_all hl f1 f2,run_done hck hn h200 hk (by omega) (fun _=>by omega)⟩
 ·by_cases h3:k=3
  ·subst h3
   rw [okQ_3,Bool.and_eq_true,Bool.and_eq_true] at ho
   obtain⟨⟨o1,_⟩,_⟩:=ho
   unfold plcB at o1
   simp only [Bool.and_eq_true,decide_eq_true_eq] at o1
   obtain⟨s,rfl⟩:∃ s:Nat,f=(s:Int):=⟨f.toNat,by omega⟩
   have e1:startQ 3 (s:Int) t 0=startQ 3 (s:Int) ((0:Nat):Int) 0:=rfl
   have e2:∀ p,doneB 3 t p=doneB 3 ((0:Nat):Int) p:=fun p=>rfl
   obtain⟨f1,f2,_⟩:=start_facts (k:=3) (rad:=rad) (most:=rad) (s:=s) (t:=0) (n:=n) (Or.inr (Or.inr rfl)) (by omega) (fun h=>absurd h (by decide)) rfl rfl
   rw [e1]
   simp only [e2]
   exact⟨by simp,runI_all hl f1 f2,run_done (k:=3) (s:=s) (t:=0) hck hn h200 (Or.inr (Or.inr rfl)) (by omega) (fun h=>absurd h (by decide))⟩
  ·rw [okQ_else h12 h3] at ho
   cases ho
end
section
open Go Go.RowKit
def RunS (O T R V:List Int) (L:List Po) (k f t:Int) (ws:List ByteArray) (rad most wv bud:Int) (b:Bool) (d:Int) (F:List (Int × Int)) (n e:Int):Prop :=
 (chkJ (checkR O T R V) k f t ws rad most O.length≠0→b=false∧d=0∧F=[]∧n=0∧e=chkJ (checkR O T R V) k f t ws rad most O.length) ∧
 (chkJ (checkR O T R V) k f t ws rad most O.length=0→¬ (1≤wv∧wv≤16∧1≤bud)→b=false∧d=0∧F=[]∧n=0∧e=1) ∧
 (chkJ (checkR O T R V) k f t ws rad most O.length=0→1≤wv∧wv≤16∧1≤bud→(k=1∨k=2∨k=3)∧∃ m:Nat,m<O.length∧doneB k t (runM (nextL k rad true O T R V) (startQ k f t 0) (m+1))=true∧(∀ j,j<m→doneB k t (runM (nextL k rad true O T R V) (startQ k f t 0) (j+1))=false) ∧
  ((m:Int)+1≤bud→AnsD k t L ws most (runM (nextL k rad true O T R V) (startQ k f t 0) (m+1)) b d F∧n=(m:Int)+1∧e=0)∧(bud<(m:Int)+1→b=false∧d=0∧F=[]∧n=bud∧e=251))
theorem least_uniqB {p:Nat→Bool} {m m':Nat} (h:p m=true) (hf:∀ j,j<m→p j=false) (h':p m'=true) (hf':∀ j,j<m'→p j=false):m=m':=by
 rcases Nat.lt_trichotomy m m' with h1 | h1 | h1
 ·rw [hf' m h1] at h;cases h
 ·exact h1
 ·rw [hf m' h1] at h';cases h'
theorem RunG (k f t:Int) (pw:Option Addr) (nw cw:Nat) (ws:List ByteArray) (rad most:Int) (po:Option Addr) (no co:Nat) (O:List Int) (pt:Option Addr) (nt ct:Nat) (T:List Int) (pr:Option Addr) (nr cr:Nat) (R:List Int) (pv:Option Addr) (nv cv:Nat) (V:List Int) (pl:Option Addr) (nl cl:Nat) (hs:List Hd) (L:List Po) (wv bud:Int) (pp:Option Addr) (np cp:Nat) (pk:List Int) (w:World) (hO:Rd w 1 po no (encI O)) (hT:Rd w 1 pt nt (encI T)) (hR:Rd w 1 pr nr (encI R)) (hV:Rd w 1 pv nv (encI V)) (hct:nt≤ct) (hcv:nv≤cv)
  (hL:RdP w pl nl hs L) (hW:Rd w 1 pw nw (encS ws)) (hpk:Rd w 1 pp np (encI pk)) (h200:no≤200) (hz:∀ s∈ws,s.size≤1000000) (hb2:bud≤9223372036854775807)
  (ht:I64 t) (hcw:nw≤cw) (hnw:nw≤100) (hok:PoOk L) :
  Calls Tryz.prog 17 #[.agg #[.int .i64 k,.int .i64 f,.int .i64 t,.slice pw nw cw,.int .i64 rad,.int .i64 most],.agg #[.slice po no co,.slice pt nt ct,.slice pr nr cr,.slice pv nv cv],.slice pl nl cl,.int .i64 wv,.int .i64 bud,.slice pp np cp] w fun x w'=>∃ b d F n e,RunS O T R V L k f t ws rad most wv bud b d F n e∧RunQ b d F n e w x w':=by
 have hno:=hO.nI
 by_cases h0:chkJ (checkR O T R V) k f t ws rad most O.length=0
 ·by_cases h1:1≤wv∧wv≤16∧1≤bud
  ·have hck:checkR O T R V=true:=by
    cases hc:checkR O T R V with
    | true=>rfl
    | false=>rw [hc] at h0;unfold chkJ at h0;rw [if_neg (by simp)] at h0;cases h0
   have hq:chkQ k f t ws rad most ((O.length:Int) - 1)=0:=by rw [hck] at h0;unfold chkJ at h0;rw [if_pos rfl] at h0;exact h0
   obtain⟨n,hn⟩:∃ n,O.length=n+1:=by
    obtain⟨e1,e2,e3,e4⟩:=checkR_half hck
    obtain⟨r1,r2,r3,r4,r5,r6⟩:=offB_parts (halfB_off e3)
    exact⟨O.length - 1,by omega⟩
   have hq2:chkQ k f t ws rad most (n:Int)=0:=by rw [hn] at hq;rw [← hq];congr 1;omega
   obtain⟨hk,hI,m,hm,hd,hf⟩:=run_m (k:=k) (rad:=rad) hck hn (by omega) hq2
   obtain⟨wk,rfl⟩:∃ wk:Nat,wv=(wk:Int):=⟨wv.toNat,by omega⟩
   refine(RunOk k f t pw nw cw ws rad most po no co O pt nt ct T pr nr cr R pv nv cv V pl nl cl hs L wk bud pp np cp pk w n m (runM (nextL k rad true O T R V) (startQ k f t 0)) hO hT hR hV hct hcv hL hW hpk hck hn (by omega) (by omega) (by omega) hz hq2 h1.2.2 hb2 (by omega) hk ht hcw hnw hok rfl hI (fun _=>rfl) hd hf).mono ?_
   rintro x w' ⟨b,d,F,g1,g2⟩
   by_cases hb:(m:Int)+1≤bud
   ·obtain⟨a1,a2⟩:=g1 hb
    exact⟨b,d,F,_,_,⟨fun h=>absurd h0 h,fun _ h=>absurd h1 h,fun _ _=>⟨hk,m,by omega,hd,hf,fun _=>⟨a1,rfl,rfl⟩,fun h=>by omega⟩⟩,a2⟩
   ·exact⟨false,0,[],_,_,⟨fun h=>absurd h0 h,fun _ h=>absurd h1 h,fun _ _=>⟨hk,m,by omega,hd,hf,fun h=>absurd h hb,fun _=>⟨rfl,rfl,rfl,rfl,rfl⟩⟩⟩,g2 (by omega)⟩
  ·have h:=RunErr k f t pw nw cw ws rad most po no co O pt nt ct T pr nr cr R pv nv cv V pl nl cl wv bud pp np cp w hO hT hR hV hct hcv hW hz (by omega) (by rw [hno];omega)
   rw [hno,if_neg (by rw [h0];simp)] at h
   rw [hno]
   exact h.mono fun x w' hx=>⟨_,_,_,_,_,⟨fun h=>absurd h0 h,fun _ _=>⟨rfl,rfl,rfl,rfl,rfl⟩,fun _ h=>absurd h h1⟩,hx⟩
 ·have h:=RunErr k f t pw nw cw ws rad most po no co O pt nt ct T pr nr cr R pv nv cv V pl nl cl wv bud pp np cp w hO hT hR hV hct hcv hW hz (by omega) (Or.inl (by rw [hno];exact h0))
  rw [hno,if_pos h0] at h
  rw [hno]
  exact h.mono fun x w' hx=>⟨_,_,_,_,_,⟨fun _=>⟨rfl,rfl,rfl,rfl,rfl⟩,fun h=>absurd h h0,fun h=>absurd h h0⟩,hx⟩
end
section
open Go Go.RowKit
def clO:List Int:=[0,1,2,2]
def clT:List Int:=[1,2]
def clR:List Int:=[0,0,1,2]
def clV:List Int:=[0,1]
theorem cl_ck:checkR clO clT clR clV=true:=by kernel_rfl
theorem cl_1a:doneB 1 2 (runM (nextL 1 0 true clO clT clR clV) (startQ 1 0 2 0) 1)=false:=by kernel_rfl
theorem cl_1b:doneB 1 2 (runM (nextL 1 0 true clO clT clR clV) (startQ 1 0 2 0) 2)=true:=by kernel_rfl
theorem cl_2a:doneB 1 0 (runM (nextL 1 0 true clO clT clR clV) (startQ 1 2 0 0) 1)=true:=by kernel_rfl
theorem cl_3a:doneB 3 0 (runM (nextL 3 2 true clO clT clR clV) (startQ 3 0 0 0) 1)=false:=by kernel_rfl
theorem cl_3b:doneB 3 0 (runM (nextL 3 2 true clO clT clR clV) (startQ 3 0 0 0) 2)=false:=by kernel_rfl
theorem cl_3c:doneB 3 0 (runM (nextL 3 2 true clO clT clR clV) (startQ 3 0 0 0) 3)=true:=by kernel_rfl
theorem cl_4a:doneB 2 2 (runM (nextL 2 0 true clO clT clR clV) (startQ 2 0 2 0) 1)=false:=by kernel_rfl
theorem cl_4b:doneB 2 2 (runM (nextL 2 0 true clO clT clR clV) (startQ 2 0 2 0) 2)=false:=by kernel_rfl
theorem cl_4c:doneB 2 2 (runM (nextL 2 0 true clO clT clR clV) (startQ 2 0 2 0) 3)=true:=by kernel_rfl
theorem cl_d1:distB (lev (rowL clO clT) 3 0 2)=true:=by kernel_rfl
theorem cl_d2:distN (lev (rowL clO clT) 3 0 2)=2:=by kernel_rfl
theorem cl_d3:distB (lev (rowL clO clT) 3 2 0)=false:=by kernel_rfl
theorem cl_n3:nearS (runM (nextL 3 2 true clO clT clR clV) (startQ 3 0 0 0) 3).1 (allX [(⟨#[97]⟩,[2])] [⟨#[97]⟩]) 5=[(2,2)]:=by kernel_rfl
end
section
open Go Go.RowKit
theorem cl_first {p:Nat→Bool} {m c:Nat} (h:p m=true) (hf:∀ j,j<m→p j=false) (hc:p c=true) (hcf:∀ j,j<c→p j=false):m=c:=least_uniqB h hf hc hcf
theorem cl_run1 {L:List Po} {b:Bool} {d:Int} {F:List (Int × Int)} {n e:Int} (h:RunS clO clT clR clV L 1 0 2 [] 0 0 2 5 b d F n e):b=true∧d=2∧F=[]∧n=2∧e=0:=by
 obtain⟨hk,m,h1,h2,h3,h4,h5⟩:=h.2.2 (by kernel_rfl) (by decide)
 obtain rfl:m=1:=cl_first (p:=fun i=>doneB 1 2 (runM (nextL 1 0 true clO clT clR clV) (startQ 1 0 2 0) (i+1))) h2 h3 cl_1b (fun j hj=>by
  obtain rfl:j=0:=by omega
  exact cl_1a)
 obtain⟨a1,a2,a3⟩:=h4 (by decide)
 obtain⟨g1,g2⟩:=a1.1 rfl
 obtain⟨x1,x2⟩:=ask_far (k:=1) (rad:=0) (n:=3) (s:=0) (t:=2) cl_ck rfl (by decide) (Or.inl rfl) (fun h=>absurd h (by decide)) (by decide) (fun _=>by decide) rfl h2 h3 g1
 exact⟨x1.trans cl_d1,x2.trans cl_d2,g2,a2,a3⟩
theorem cl_run2 {L:List Po} {b:Bool} {d:Int} {F:List (Int × Int)} {n e:Int} (h:RunS clO clT clR clV L 1 2 0 [] 0 0 2 5 b d F n e):b=false∧n=1∧e=0:=by
 obtain⟨hk,m,h1,h2,h3,h4,h5⟩:=h.2.2 (by kernel_rfl) (by decide)
 obtain rfl:m=0:=cl_first (p:=fun i=>doneB 1 0 (runM (nextL 1 0 true clO clT clR clV) (startQ 1 2 0 0) (i+1))) h2 h3 cl_2a (fun j hj=>absurd hj (by omega))
 obtain⟨a1,a2,a3⟩:=h4 (by decide)
 obtain⟨g1,g2⟩:=a1.1 rfl
 obtain⟨x1,x2⟩:=ask_far (k:=1) (rad:=0) (n:=3) (s:=2) (t:=0) cl_ck rfl (by decide) (Or.inl rfl) (fun h=>absurd h (by decide)) (by decide) (fun _=>by decide) rfl h2 h3 g1
 exact⟨x1.trans cl_d3,a2,a3⟩
theorem cl_run3 {b:Bool} {d:Int} {F:List (Int × Int)} {n e:Int} (h:RunS clO clT clR clV [(⟨#[97]⟩,[2])] 3 0 0 [⟨#[97]⟩] 2 5 2 5 b d F n e):b=true∧F=[(2,2)]∧n=3∧e=0:=by
 obtain⟨hk,m,h1,h2,h3,h4,h5⟩:=h.2.2 (by kernel_rfl) (by decide)
 obtain rfl:m=2:=cl_first (p:=fun i=>doneB 3 0 (runM (nextL 3 2 true clO clT clR clV) (startQ 3 0 0 0) (i+1))) h2 h3 cl_3c (fun j hj=>by
  rcases (show j=0∨j=1 by omega) with rfl | rfl
  ·exact cl_3a
  ·exact cl_3b)
 obtain⟨a1,a2,a3⟩:=h4 (by decide)
 obtain⟨g1,g2,g3⟩:=a1.2.2 rfl (by kernel_rfl)
 have g4:=g1.trans cl_n3
 exact⟨by rw [g2,g4];rfl,g4,a2,a3⟩
theorem cl_run4 {L:List Po} {b:Bool} {d:Int} {F:List (Int × Int)} {n e:Int} (h:RunS clO clT clR clV L 2 0 2 [] 0 0 2 2 b d F n e):e=251:=by
 obtain⟨hk,m,h1,h2,h3,h4,h5⟩:=h.2.2 (by kernel_rfl) (by decide)
 obtain rfl:m=2:=cl_first (p:=fun i=>doneB 2 2 (runM (nextL 2 0 true clO clT clR clV) (startQ 2 0 2 0) (i+1))) h2 h3 cl_4c (fun j hj=>by
  rcases (show j=0∨j=1 by omega) with rfl | rfl
  ·exact cl_4a
  ·exact cl_4b)
 exact(h5 (by decide)).2.2.2.2
end
section
open Go Go.RowKit
attribute [local go_sem] Oper.semAt_some
def nearC (ck:Bool) (O:List Int) (s:Int) (ws:List ByteArray) (rad:Int):Int:=if levC ck O s≠0 then levC ck O s else if ws.length=0∨rad<0 then 1 else 0
def nearR (ck:Bool) (O T R V:List Int) (s:Int) (L:List Po) (ws:List ByteArray) (rad:Int):List (Int × Int):=if nearC ck O s ws rad=0 then sortN (gatN (levR ck false O T R V s) rad (allX L ws)) else []
end
section
open Go Go.RowKit
theorem eqHit9 (a b c d:Int) (w:World):(binOp .eql 105 (.agg #[.int .i64 a,.int .i64 b]) (.agg #[.int .i64 c,.int .i64 d])).run Tryz.prog w=.ok (.bool (eqE (a,b) (c,d))) w:=by
 have u3:=Tryz.underlying3
 have a3:=Tryz.isAgg3
 have z3:=Tryz.sizeOf3
 have hS:Tryz.prog.underlying 105=some (.struct (Tryz.prog.fieldsOf 105)):=by kernel_rfl
 have hp:Tryz.prog.stoodInHeld 105=false:=by kernel_rfl
 rw [run_eql_struct,show (10000:Nat)=9999+1 from rfl,run_equalIn_agg w 9999 105 _ _ hS hp]
 simp only [Program.fieldsOf,Tryz.underlying105]
 go_simp
 by_cases h1:a=c <;> by_cases h2:b=d <;> simp [h1,h2,eqE]
theorem neqHit9 (a b c d:Int) (w:World):(binOp .neq 105 (.agg #[.int .i64 a,.int .i64 b]) (.agg #[.int .i64 c,.int .i64 d])).run Tryz.prog w=.ok (.bool (!eqE (a,b) (c,d))) w:=by
 have h:=eqHit9 a b c d w
 rw [run_eql_struct] at h
 rw [run_neq_struct]
 generalize (Op.equalIn 10000 105 (.agg #[.int .i64 a,.int .i64 b]) (.agg #[.int .i64 c,.int .i64 d])).run Tryz.prog w=r at h ⊢
 cases r with
 | ok x w1=>simp only [Result.andThen_ok,Result.ok.injEq,Value.bool.injEq] at h ⊢;rw [h.1,h.2];simp
 | halt x w1=>simp [Result.andThen] at h
theorem guardHit9 (op:BinOp) (x y:Operand) (xs ys:Array Value) (w:World):(eqGuard op 105 x y (.agg xs) (.agg ys)).run Tryz.prog w=.ok () w:=run_eqGuard_agg w op 105 x y xs ys (by kernel_rfl)
attribute [local go_sem ↓] eqHit9 neqHit9 guardHit9
theorem HitsY9 (p q:Option Addr) (n m c d:Nat) (E:List (Int × Int)) (w:World) (h1:Rd w 2 p n (encE E)) (h2:Rd w 2 q m (encE E)) :
  Calls Tryz.prog 58 #[.slice p n c,.slice q m d] w fun e w'=>e=.returned (.bool true)∧Ext w w':=by
 obtain rfl:n=m:=by rw [h1.nE,h2.nE]
 have p1:=h1.ptr
 have p2:=h2.ptr
 have n1:=h1.small
 have H1:=Lib.hid h1;clear h1
 have H2:=Lib.hid h2;clear h2
 go_enter Tryz.func58,Tryz.ntmps58
 go_wp2
 go_loopw [5] (fun i wr=>∃ k:Nat,k≤n∧i=.int .i64 k∧Ext w wr) (fun i _=>n - (intOf i).toNat)
 case atStart=>exact⟨0,Nat.zero_le _,rfl,Below.refl _ _⟩
 case round =>
  obtain⟨k,hk,rfl,hE⟩:=hrel
  by_cases hlt:k<n
  ·have g1:=hE.cell (H1.out.cE hlt)
   have g2:=hE.cell (H1.out.cE2 hlt)
   have g3:=hE.cell (H2.out.cE hlt)
   have g4:=hE.cell (H2.out.cE2 hlt)
   have d1:(0:Int)≤k:=by omega
   have d2:(k:Int)<n:=by omega
   have hq:eqE ((nth E k).1,(nth E k).2) ((nth E k).1,(nth E k).2)=true:=by simp [eqE]
   have HE:=Lib.hid hE;clear hE
   go_wp2
   go_quiet (fail)
   go_wp2
   go_roundw
   case rel=>exact⟨k+1,by omega,by go_num,HE.out.drewN _⟩
   case measure=>simp [intOf];omega
  ·have HE:=Lib.hid hE;clear hE
   go_wp2
   go_ret
   exact⟨rfl,HE.out⟩
end
section
open Go Go.RowKit
attribute [local go_sem ↓] eqHit9 neqHit9 guardHit9
def e9E:List (Int × Int):=[(0,1),(1,2)]
def e9O:List Int:=[0,1,2,2]
def e9T:List Int:=[1,2]
def e9R:List Int:=[0,0,1,2]
def e9V:List Int:=[0,1]
theorem e9I:isB 3 e9E [[],[],[]]=true:=by decide +kernel
theorem e9O_eq:offL 3 e9E=e9O:=by decide +kernel
theorem e9T_eq:toL e9E=e9T:=by decide +kernel
theorem e9R_eq:offL 3 (turnE e9E)=e9R:=by decide +kernel
theorem e9V_eq:toL (turnE e9E)=e9V:=by decide +kernel
theorem e9Cells:(#[.int .i64 0,.int .i64 1,.int .i64 1,.int .i64 2]:Array Value).toList=encE e9E:=by simp [encE,e9E]
theorem made3n:(madeCells (Value.slice none 0 0).cells (3*1)).toList=[.slice none 0 0,.slice none 0 0,.slice none 0 0]:=by kernel_rfl
theorem e9Mk (p q:Option Addr) (W:World) (h1:Rd W 2 p 2 (encE e9E)) (h0:Rd W 1 q 3 [.slice none 0 0,.slice none 0 0,.slice none 0 0]):Calls Tryz.prog 57 #[.agg #[.int .i64 3,.slice p 2 2,.slice q 3 3]] W fun e w' =>
  ∃ po no co pt nt ct pr nr cr pv nv cv,e=.returned (.tuple #[.agg #[.slice po no co,.slice pt nt ct,.slice pr nr cr,.slice pv nv cv],.int .i64 0])∧R4 w' po no pt nt pr nr pv nv e9O e9T e9R e9V∧nt≤ct∧nv≤cv∧Ext W w':=by
 have h2:RdW W q 3 [⟨none,0,0⟩,⟨none,0,0⟩,⟨none,0,0⟩] [[],[],[]]:=⟨rfl,h0,fun j hj=>by
  have:j=0∨j=1∨j=2:=by omega
  rcases this with rfl | rfl | rfl <;> exact Rd.nil _ _ _⟩
 have hz:SzW [[],[],[]]:=fun l hl s hs=>by simp at hl;subst hl;cases hs
 refine(RMakeG_yes 3 _ 2 2 _ 3 3 e9E _ _ W h1 h2 hz e9I).mono ?_
 rintro e w' ⟨v,rfl,⟨po,no,co,pt,nt,ct,pr,nr,cr,pv,nv,cv,rfl,k1,k2,k3,k4,k5,k6,k7,k8⟩,hb⟩
 rw [e9O_eq] at k1
 rw [e9T_eq] at k2
 rw [e9R_eq] at k3
 rw [e9V_eq] at k4
 exact⟨po,no,co,pt,nt,ct,pr,nr,cr,pv,nv,cv,rfl,⟨k1,k2,k3,k4⟩,k6,k8,hb⟩
theorem rdp1 {w:World} {p q:Option Addr} {n c:Nat} {s:ByteArray} {l:List Int} (h1:Rd w 2 p 1 [.string s,.slice q n c]) (h2:Rd w 1 q n (encI l)):RdP w p 1 [⟨q,n,c⟩] [(s,l)]:=by
 refine⟨rfl,.inr (h1.ptr.resolve_left (by decide)),by decide,fun k hk=>?_,fun k hk=>?_,fun k hk=>?_⟩
 ·obtain rfl:k=0:=by omega
  exact h1.cells 0 (by decide)
 ·obtain rfl:k=0:=by omega
  exact h1.cells 1 (by decide)
 ·obtain rfl:k=0:=by omega
  exact h2
end
section
open Go Go.RowKit
theorem e20Ok:PoOk [((⟨#[97]⟩:ByteArray),[2])]:=fun p hp=>by
 simp at hp;subst hp
 exact⟨by decide,fun x hx=>by simp at hx;subst hx;unfold I64;decide⟩
theorem e20a (po:Option Addr) (no co:Nat) (pt:Option Addr) (nt ct:Nat) (pr:Option Addr) (nr cr:Nat) (pv:Option Addr) (nv cv:Nat) (hct:nt≤ct) (hcv:nv≤cv) (pp:Option Addr) (hs:List Hd) (w:World) (h:R4 w po no pt nt pr nr pv nv e9O e9T e9R e9V) (hL:RdP w pp 1 hs [(⟨#[97]⟩,[2])]):Calls Tryz.prog 17 #[.agg #[.int .i64 1,.int .i64 0,.int .i64 2,.slice none 0 0,.int .i64 0,.int .i64 0],.agg #[.slice po no co,.slice pt nt ct,.slice pr nr cr,.slice pv nv cv],.slice pp 1 1,.int .i64 2,.int .i64 5,.slice none 0 0] w fun x w'=>∃ q c,x=.returned (.tuple #[.agg #[.bool true,.int .i64 2,.slice q 0 c],.int .i64 2,.int .i64 0])∧Sep w w' [.own 105 2 q 0 c (encE [])]:=by
 have hno:=h.o.nI
 refine(RunG 1 0 2 none 0 0 [] 0 0 po no co e9O pt nt ct e9T pr nr cr e9R pv nv cv e9V pp 1 1 hs _ 2 5 none 0 0 [] w h.o h.t h.r h.v hct hcv hL (Rd.nil _ _ _) (Rd.nil _ _ _) (by rw [hno];decide) (fun s hs=>by cases hs) (by decide) (by unfold I64;decide) (by decide) (by decide) e20Ok).mono ?_
 rintro x w' ⟨b,d,F,n,e,h1,q,c,rfl,S⟩
 obtain⟨rfl,rfl,rfl,rfl,rfl⟩:=cl_run1 h1
 exact⟨q,c,rfl,S⟩
theorem e20b (po:Option Addr) (no co:Nat) (pt:Option Addr) (nt ct:Nat) (pr:Option Addr) (nr cr:Nat) (pv:Option Addr) (nv cv:Nat) (hct:nt≤ct) (hcv:nv≤cv) (pp:Option Addr) (hs:List Hd) (w:World) (h:R4 w po no pt nt pr nr pv nv e9O e9T e9R e9V) (hL:RdP w pp 1 hs [(⟨#[97]⟩,[2])]):Calls Tryz.prog 17 #[.agg #[.int .i64 1,.int .i64 2,.int .i64 0,.slice none 0 0,.int .i64 0,.int .i64 0],.agg #[.slice po no co,.slice pt nt ct,.slice pr nr cr,.slice pv nv cv],.slice pp 1 1,.int .i64 2,.int .i64 5,.slice none 0 0] w fun x w'=>∃ d q m c,x=.returned (.tuple #[.agg #[.bool false,.int .i64 d,.slice q m c],.int .i64 1,.int .i64 0])∧Ext w w':=by
 have hno:=h.o.nI
 refine(RunG 1 2 0 none 0 0 [] 0 0 po no co e9O pt nt ct e9T pr nr cr e9R pv nv cv e9V pp 1 1 hs _ 2 5 none 0 0 [] w h.o h.t h.r h.v hct hcv hL (Rd.nil _ _ _) (Rd.nil _ _ _) (by rw [hno];decide) (fun s hs=>by cases hs) (by decide) (by unfold I64;decide) (by decide) (by decide) e20Ok).mono ?_
 rintro x w' ⟨b,d,F,n,e,h1,q,c,rfl,S⟩
 obtain⟨rfl,rfl,rfl⟩:=cl_run2 h1
 exact⟨d,q,_,c,rfl,S.ext⟩
theorem e20c (po:Option Addr) (no co:Nat) (pt:Option Addr) (nt ct:Nat) (pr:Option Addr) (nr cr:Nat) (pv:Option Addr) (nv cv:Nat) (hct:nt≤ct) (hcv:nv≤cv) (pp:Option Addr) (hs:List Hd) (w:World) (h:R4 w po no pt nt pr nr pv nv e9O e9T e9R e9V) (hL:RdP w pp 1 hs [(⟨#[97]⟩,[2])]) (pw:Option Addr) (hW:Rd w 1 pw 1 (encS [⟨#[97]⟩])):Calls Tryz.prog 17 #[.agg #[.int .i64 3,.int .i64 0,.int .i64 0,.slice pw 1 1,.int .i64 2,.int .i64 5],.agg #[.slice po no co,.slice pt nt ct,.slice pr nr cr,.slice pv nv cv],.slice pp 1 1,.int .i64 2,.int .i64 5,.slice none 0 0] w fun x w'=>∃ d q c,x=.returned (.tuple #[.agg #[.bool true,.int .i64 d,.slice q 1 c],.int .i64 3,.int .i64 0])∧Sep w w' [.own 105 2 q 1 c (encE [(2,2)])]:=by
 have hno:=h.o.nI
 refine(RunG 3 0 0 pw 1 1 [⟨#[97]⟩] 2 5 po no co e9O pt nt ct e9T pr nr cr e9R pv nv cv e9V pp 1 1 hs _ 2 5 none 0 0 [] w h.o h.t h.r h.v hct hcv hL hW (Rd.nil _ _ _) (by rw [hno];decide) (fun s hs=>by simp at hs;subst hs;decide) (by decide) (by unfold I64;decide) (by decide) (by decide) e20Ok).mono ?_
 rintro x w' ⟨b,d,F,n,e,h1,q,c,rfl,S⟩
 obtain⟨rfl,rfl,rfl,rfl⟩:=cl_run3 h1
 exact⟨d,q,c,rfl,S⟩
theorem e20d (po:Option Addr) (no co:Nat) (pt:Option Addr) (nt ct:Nat) (pr:Option Addr) (nr cr:Nat) (pv:Option Addr) (nv cv:Nat) (hct:nt≤ct) (hcv:nv≤cv) (pp:Option Addr) (hs:List Hd) (w:World) (h:R4 w po no pt nt pr nr pv nv e9O e9T e9R e9V) (hL:RdP w pp 1 hs [(⟨#[97]⟩,[2])]):Calls Tryz.prog 17 #[.agg #[.int .i64 2,.int .i64 0,.int .i64 2,.slice none 0 0,.int .i64 0,.int .i64 0],.agg #[.slice po no co,.slice pt nt ct,.slice pr nr cr,.slice pv nv cv],.slice pp 1 1,.int .i64 2,.int .i64 2,.slice none 0 0] w fun x w'=>∃ b d q m c n,x=.returned (.tuple #[.agg #[.bool b,.int .i64 d,.slice q m c],.int .i64 n,.int .i64 251])∧Ext w w':=by
 have hno:=h.o.nI
 refine(RunG 2 0 2 none 0 0 [] 0 0 po no co e9O pt nt ct e9T pr nr cr e9R pv nv cv e9V pp 1 1 hs _ 2 2 none 0 0 [] w h.o h.t h.r h.v hct hcv hL (Rd.nil _ _ _) (Rd.nil _ _ _) (by rw [hno];decide) (fun s hs=>by cases hs) (by decide) (by unfold I64;decide) (by decide) (by decide) e20Ok).mono ?_
 rintro x w' ⟨b,d,F,n,e,h1,q,c,rfl,S⟩
 obtain rfl:=cl_run4 h1
 exact⟨b,d,q,_,c,n,rfl,S.ext⟩
end
section
open Go Go.RowKit
attribute [local go_sem ↓] eqHit9 neqHit9 guardHit9
theorem Jobs20 (w:World):Calls Tryz.prog 19 #[] w fun e w'=>e=.returned (.bool true)∧Ext w w':=by
 obtain⟨i0,hi0,hz0,hz1,hz2⟩:=info_parts inf35
 have SE:Hid (Sep w (w.alloc (.cells #[.int .i64 0,.int .i64 1,.int .i64 1,.int .i64 2] 98)) [.own 98 2 (some ⟨w.heap.size,0,none⟩) 2 2 (encE e9E)]):=by
  have h:=(Sep.start w).alrow #[.int .i64 0,.int .i64 1,.int .i64 1,.int .i64 2] 98 2 2 w.heap.size rfl (by decide) rfl
  rw [e9Cells] at h
  exact h
 have HQ:Hid ((w.alloc (.cells #[.int .i64 0,.int .i64 1,.int .i64 1,.int .i64 2] 98)).heap.size=w.heap.size+1):=by unfold Hid;simp
 go_enter Tryz.func19,Tryz.ntmps19
 go_wp2_with (first
  | (at_make;go_must (refine wpList_make_sep rfl _ _ _ rfl 22 i0 _ 1 Tryz.underlying100 hi0 hz0 hz1 (3:Int) 3 rfl rfl rfl (by rw [hz2];omega) (by unfold maxLen;omega) SE.out ?_;intro w0 S';rw [made3n,HQ.out] at S';have S0:=Lib.hid S';clear S'))
  | (go_at_call 57;go_must (refine(e9Mk _ _ _ (S0.out.rd 1 rfl (by decide)) (S0.out.rd 0 rfl (by decide))).mono ?_;rintro e w1 ⟨po,no,co,pt,nt,ct,pr,nr,cr,pv,nv,cv,rfl,hr,hct,hcv,hb⟩;have E1:=Lib.hid (Ext.trans S0.out.ext hb);have HR:=Lib.hid hr;have S1:=Lib.hid ((Sep.start w1).al #[.slice po no co,.slice pt nt ct,.slice pr nr cr,.slice pv nv cv] 27 w1.heap.size rfl);clear hb hr)))
 have S2:=Lib.hid ((S1.out.alrow #[.int .i64 2] 3 1 1 (w1.heap.size+1) (by simp) (by decide) rfl).alrow #[.string ⟨#[97]⟩,.slice (some ⟨w1.heap.size+1,0,none⟩) 1 1] 78 2 1 (w1.heap.size+1+1) (by simp) (by decide) rfl)
 have hEq:eqE ((2:Int),(2:Int)) (2,2)=true:=by decide
 go_wp2_with (first
  | (go_at_call 58;go_must (have S8:=Lib.hid (S7.out.alrow #[.int .i64 2,.int .i64 2] 105 2 1 (w5.heap.size+1) (by simp) (by decide) rfl);refine(HitsY9 _ _ 1 1 _ _ [(2,2)] _ (S8.out.rdx 3 rfl) (S8.out.rdx 0 rfl)).mono ?_;rintro e w6 ⟨rfl,hb⟩;have S9:=Lib.hid (S8.out.call hb);clear hb))
  | (go_at_call 17;have _t:=S6;go_must (refine(e20d po no co pt nt ct pr nr cr pv nv cv hct hcv _ _ _ (HR.out.ext S6.out.ext) (rdp1 (S6.out.rdx 6 rfl) (S6.out.rdx 7 rfl))).mono ?_;rintro e w5 ⟨b5,d5,q5,m5,c5,n5,rfl,hb⟩;have S7:=Lib.hid ((S6.out.call hb).al #[.bool b5,.int .i64 d5,.slice q5 m5 c5] 34 w5.heap.size rfl);obtain⟨iz,i0,i1,i2⟩:=bklc0c1c2 (S7.out.blk 5 rfl);obtain⟨jz,j0,j1,j2⟩:=bklc0c1c2 (S7.out.blk 4 rfl);obtain⟨lz,l0,l1,l2⟩:=bklc0c1c2 (S7.out.blk 1 rfl);clear hb))
  | (go_at_call 17;have _t:=S5;go_must (refine(e20c po no co pt nt ct pr nr cr pv nv cv hct hcv _ _ _ (HR.out.ext S5.out.ext) (rdp1 (S5.out.rdx 4 rfl) (S5.out.rdx 5 rfl)) _ (S5.out.rdx 0 rfl)).mono ?_;rintro e w4 ⟨d4,q4,c4,rfl,Z⟩;have S6:=Lib.hid ((S5.out.comp Z).al #[.bool true,.int .i64 d4,.slice q4 1 c4] 34 w4.heap.size rfl);obtain⟨cz,c0,c1,c2,c3⟩:=bklc0c1c2c3 (S6.out.blk 8 rfl);clear Z))
  | (go_at_call 17;have _t:=S3;go_must (refine(e20b po no co pt nt ct pr nr cr pv nv cv hct hcv _ _ _ (HR.out.ext S3.out.ext) (rdp1 (S3.out.rdx 2 rfl) (S3.out.rdx 3 rfl))).mono ?_;rintro e w3 ⟨d3,q3,m3,c3,rfl,hb⟩;have S4:=Lib.hid ((S3.out.call hb).al #[.bool false,.int .i64 d3,.slice q3 m3 c3] 34 w3.heap.size rfl);have S5:=Lib.hid (S4.out.alrow #[.string ⟨#[97]⟩] 9 1 1 (w3.heap.size+1) (by simp) (by decide) rfl);obtain⟨bz,b0,b1,b2,b3⟩:=bklc0c1c2c3 (S5.out.blk 6 rfl);clear hb))
  | (go_at_call 17;go_must (refine(e20a po no co pt nt ct pr nr cr pv nv cv hct hcv _ _ _ (HR.out.ext S2.out.ext) (rdp1 (S2.out.rdx 0 rfl) (S2.out.rdx 1 rfl))).mono ?_;rintro e w2 ⟨q2,c2,rfl,Z⟩;have S3:=Lib.hid ((S2.out.comp Z).al #[.bool true,.int .i64 2,.slice q2 0 c2] 34 w2.heap.size rfl);obtain⟨az,a0,a1,a2,a3⟩:=bklc0c1c2c3 (S3.out.blk 4 rfl);clear Z)))
 go_ret
 exact⟨rfl,Ext.trans E1.out S9.out.ext⟩
end
section
open Go Go.RowKit
theorem Same18 (b:Bool) (d:Int) (p q:Option Addr) (n m c e':Nat) (F:List (Int × Int)) (w:World) (h1:Rd w 2 p n (encE F)) (h2:Rd w 2 q m (encE F)) :
  Calls Tryz.prog 20 #[.agg #[.bool b,.int .i64 d,.slice p n c],.agg #[.bool b,.int .i64 d,.slice q m e']] w fun e w'=>e=.returned (.bool true)∧Ext w w':=by
 have S0:=Lib.hid (((Sep.start w).al #[.bool b,.int .i64 d,.slice p n c] 34 w.heap.size rfl).al #[.bool b,.int .i64 d,.slice q m e'] 34 (w.heap.size+1) (by simp))
 have HS:=Lib.hid (HitsY9 p q n m c e' F _ (h1.ext S0.out.ext) (h2.ext S0.out.ext))
 clear h1 h2
 cases b <;> (go_enter Tryz.func20,Tryz.ntmps20;go_wp2_with (go_at_call 58;go_must (refine HS.out.mono ?_;rintro e w1 ⟨rfl,hb⟩;have S1:=Lib.hid (S0.out.call hb);clear hb));go_ret;exact⟨rfl,S1.out.ext⟩)
end
section
open Go Go.RowKit
theorem jobFacts (k f t:Int) (pw:Option Addr) (nw cw:Nat) (ws:List ByteArray) (rad most:Int) {O T R V:List Int} {L:List Po} {np:Nat} (_:pw=pw) (_:nw=nw) (_:cw=cw) (_:k=k) (_:f=f) (_:t=t) (_:rad=rad) (_:most=most) (h:farJ ws O T R V L np=false) (hLI:∀ q∈L,∀ x∈q.2,I64 x) :
  ws.length≤20∧(∀ s∈ws,s.size≤1000000)∧O.length≤30∧PoOk L∧np≤60:=by
 obtain⟨h1,h2,h3,h4,h5⟩:=farJ_no h
 obtain⟨w1,w2⟩:=bigQ_no h1
 exact⟨w1,fun s hs=>Nat.le_trans (w2 s hs) (by omega),h3,poOk_of h4 hLI,h5⟩
end
section
open Go Go.RowKit Go.Maps Go.WideElems
def kiV (x:Ky):Value:=if x.r=0∧x.v=0 then .int .i64 x.s else .agg #[.int .i64 x.s,.int .i64 x.r,.int .i64 x.v]
def kiO (x:Ky):Prop:=x.r=0∧x.v=0∧I64 x.s
theorem ki_inj {x y:Ky} (h:kiV x=kiV y):x=y:=by
 obtain⟨a,b,c⟩:=x
 obtain⟨a',b',c'⟩:=y
 unfold kiV at h
 simp only at h
 split at h
 ·rename_i h1
  split at h
  ·rename_i h2
   injection h with _ h
   obtain⟨rfl,rfl⟩:=h1
   obtain⟨rfl,rfl⟩:=h2
   rw [h]
  ·cases h
 ·split at h
  ·cases h
  ·injection h with h
   simp at h
   obtain⟨rfl,rfl,rfl⟩:=h
   rfl
def keyI (P:Program) (k:TypeId) (hk:P.underlying k=some (.int .i64)):KeyS P k where
 val:=kiV
 lit x:=.int .i64 x.s
 ok:=kiO
 law:=int_keyed hk
 of:=by
  rintro x ⟨h1,h2,h3⟩
  unfold kiV
  rw [if_pos ⟨h1,h2⟩]
  exact key_of hk h3
 inv:=by
  intro v l h
  obtain⟨z,h1,h3,h4⟩:=keyOf_int_inv hk h
  exact⟨⟨z,0,0⟩,by rw [h1];rfl,h3,rfl,rfl,h4⟩
 injL:=by
  rintro⟨a,b,c⟩ ⟨a',b',c'⟩ ⟨h1,h2,_⟩ ⟨h3,h4,_⟩ h
  simp only at h1 h2 h3 h4
  injection h with _ h
  simp only at h
  subst h1 h2 h3 h4 h
  rfl
 injV:=ki_inj
def valF:Option Nat→Value
 | some n=>.func (.func n) #[] #[]
 | none=>.nilFunc
def datF:Option Nat→DataW Unit
 | some n=>.lit (.int .i64 n)
 | none=>.lit (.bool false)
def readF:Value→Option (DataW Unit × List MemPlace)
 | .func (.func n) ⟨[]⟩ ⟨[]⟩=>some (.lit (.int .i64 n),[])
 | .nilFunc=>some (.lit (.bool false),[])
 | _=>none
theorem readF_inv (u:Value) (y:DataW Unit × List MemPlace) (h:readF u=some y):∃ v:Option Nat,u=valF v:=by
 unfold readF at h
 split at h
 ·exact⟨some _,rfl⟩
 ·exact⟨none,rfl⟩
 ·cases h
def elmF (P:Program) (e:TypeId) (hz:∀ w,(zeroValue e).run P w=.ok .nilFunc w):ElmR P e (Option Nat) :=
 ⟨readF,valF,datF,none,fun v=>by cases v <;> rfl,readF_inv,fun v v' h=>by
  cases v <;> cases v' <;> simp [datF] at h ⊢
  omega,hz⟩
theorem wpList_insert_sepK {P:Program} {k e:TypeId} {β:Type} {K:KeyS P k} {E:ElmR P e β} {b n:Nat} {f:Ky→Option β} {w0 w:World} {Γ:List Pc} {ops:Array Oper} {rest:List Oper} {o:Oper} {a:Act} {Q:Exit→Act→World→Prop}
  (hg:o.guard=none) (m x v:Operand) (t:TypeId) (hop:o.op=Op.insert t m x v) (ht:P.underlying t=some (.map k e))
  (hm:a.eval m=.map (some b)) (S:Sep w0 w Γ) (j:Nat) (hj:Γ[j]?=some (.mapK K E b n f)) (hn:n<140737488355328) (kx:Ky) (u:β) (hx:a.eval x=K.val kx) (hv:a.eval v=E.val u) (hi:K.ok kx)
  (hK:∀ w',Sep w0 w' (Γ.set j (.mapK K E b (n+1) (upK f kx u)))→w.grownBy w' (some b)→wpList P ops Q rest (a.put o.dst undef) w') :
  wpList P ops Q (o :: rest) a w:=by
 refine wpList_plain hg fun K' hK'=>?_
 obtain⟨w',hrun,r1,r2⟩:=MapK.update (S.all _ (List.mem_of_getElem? hj)) ht hn hi u
 unfold Oper.wp
 simp [execOp,hop,hm,hx,hv,hrun,Result.andThen]
 exact hK' _ _ (hK w' (S.put j hj _ r2 (fun i hi=>by injection hi with hi;exact hi.symm) r1 (fun i hi=>.inl hi)) r2)
end
section
open Go Go.RowKit
theorem zeroFq (w:World):(zeroValue 171).run Tryz.prog w=.ok .nilFunc w:=by simp [go_sem]
noncomputable def EF20:ElmR Tryz.prog 171 (Option Nat):=elmF Tryz.prog 171 zeroFq
def AnsQ (b:Bool) (d:Int) (F:List (Int × Int)) (e:Int) (w:World) (x:Ending) (w':World):Prop:=∃ q c',x=.returned (.tuple #[.agg #[.bool b,.int .i64 d,.slice q F.length c'],.int .i64 e])∧Sep w w' [.own 105 2 q F.length c' (encE F)]
theorem ansQ_nil {b:Bool} {d e:Int} {w w':World} {x:Ending} (h:x=.returned (.tuple #[.agg #[.bool b,.int .i64 d,.slice none 0 0],.int .i64 e])) (hE:Ext w w'):AnsQ b d [] e w x w':=⟨none,0,h,((Sep.start w).call hE).nilrow _ _⟩
theorem eqFnSome (fn:Fn) (a b:Array Value) (w:World):(binOp .eql 119 (.func fn a b) .nilFunc).run Tryz.prog w=.ok (.bool false) w:=by
 simp only [binOp,Op.equal,Op.maxDepth]
 unfold Op.equalIn
 simp [go_sem]
theorem eqFnNone (w:World):(binOp .eql 119 .nilFunc .nilFunc).run Tryz.prog w=.ok (.bool true) w:=by
 simp only [binOp,Op.equal,Op.maxDepth]
 unfold Op.equalIn
 simp [go_sem]
theorem guardFnSome (op:BinOp) (x y:Operand) (fn:Fn) (a b:Array Value) (w:World):(eqGuard op 119 x y (.func fn a b) .nilFunc).run Tryz.prog w=.ok () w:=by
 cases op <;> simp [eqGuard,go_sem]
theorem guardFnNone (op:BinOp) (x y:Operand) (w:World):(eqGuard op 119 x y .nilFunc .nilFunc).run Tryz.prog w=.ok () w:=by
 cases op <;> simp [eqGuard,go_sem]
attribute [local go_sem ↓] eqFnSome eqFnNone guardFnSome guardFnNone
theorem distA (k f t:Int) (pw:Option Addr) (nw cw:Nat) (rad most:Int) (gb:Nat) (gl:Nat) (b:Bool) (d ec:Int) (w:World) (HF:∀ W,Ext w W→Calls Tryz.prog 66 #[.int .i64 f,.int .i64 t,.pointer (some ⟨gb,0,none⟩)] W fun e w'=>e=.returned (.tuple #[.int .i64 d,.bool b,.int .i64 ec])∧Ext W w'):Calls Tryz.prog 118 #[.agg #[.int .i64 k,.int .i64 f,.int .i64 t,.slice pw nw cw,.int .i64 rad,.int .i64 most,.func (.func 66) #[] #[.pointer (some ⟨gb,0,none⟩)],(.func (.func 68) #[] #[.pointer (some ⟨gb,0,none⟩),.pointer (some ⟨gl,0,none⟩)])]] w (AnsQ b d [] ec w):=by
 have S0:=Lib.hid (((Sep.start w).al #[.int .i64 k,.int .i64 f,.int .i64 t,.slice pw nw cw,.int .i64 rad,.int .i64 most,.func (.func 66) #[] #[.pointer (some ⟨gb,0,none⟩)],(.func (.func 68) #[] #[.pointer (some ⟨gb,0,none⟩),.pointer (some ⟨gl,0,none⟩)])] 121 w.heap.size rfl).al #[.bool false,.int .i64 0,.slice none 0 0] 34 (w.heap.size+1) (by simp))
 have HFF:=Lib.hid HF
 clear HF
 go_enter Tryz.func118,Tryz.ntmps118
 go_wp2_with (go_at_call 66;go_must (refine(HFF.out _ S0.out.ext).mono ?_;rintro e w1 ⟨rfl,hb⟩;have S1:=Lib.hid (S0.out.call hb);obtain⟨y0,y1,y2,yz,f0,f1,f2⟩:=bkc0c1c2lz0z1z2 (S1.out.blk 0 rfl);clear hb))
 have S9:=Lib.hid (((S1.out.set 0 rfl 0 (.bool b)).set 0 rfl 1 (.int .i64 d)).set 0 rfl 2 (.slice none 0 0))
 obtain⟨x0,x1,x2⟩:=bkc0c1c2 (S9.out.blk 0 rfl)
 refine bodyPost_ret (v:=.tuple #[.agg #[.bool b,.int .i64 d,.slice none 0 0],.int .i64 ec]) (by simp [results,Tryz.results118,go_sem,x0,x1,x2,Tryz.sizeOf34,Tryz.isAgg34]) rfl ?_
 exact ansQ_nil rfl S9.out.ext
theorem reachA (k f t:Int) (pw:Option Addr) (nw cw:Nat) (rad most:Int) (gb:Nat) (gl:Nat) (b:Bool) (d ec:Int) (w:World) (HF:∀ W,Ext w W→Calls Tryz.prog 66 #[.int .i64 f,.int .i64 t,.pointer (some ⟨gb,0,none⟩)] W fun e w'=>e=.returned (.tuple #[.int .i64 d,.bool b,.int .i64 ec])∧Ext W w'):Calls Tryz.prog 119 #[.agg #[.int .i64 k,.int .i64 f,.int .i64 t,.slice pw nw cw,.int .i64 rad,.int .i64 most,.func (.func 66) #[] #[.pointer (some ⟨gb,0,none⟩)],(.func (.func 68) #[] #[.pointer (some ⟨gb,0,none⟩),.pointer (some ⟨gl,0,none⟩)])]] w (AnsQ b 0 [] ec w):=by
 have S0:=Lib.hid (((Sep.start w).al #[.int .i64 k,.int .i64 f,.int .i64 t,.slice pw nw cw,.int .i64 rad,.int .i64 most,.func (.func 66) #[] #[.pointer (some ⟨gb,0,none⟩)],(.func (.func 68) #[] #[.pointer (some ⟨gb,0,none⟩),.pointer (some ⟨gl,0,none⟩)])] 121 w.heap.size rfl).al #[.bool false,.int .i64 0,.slice none 0 0] 34 (w.heap.size+1) (by simp))
 have HFF:=Lib.hid HF
 clear HF
 go_enter Tryz.func119,Tryz.ntmps119
 go_wp2_with (go_at_call 66;go_must (refine(HFF.out _ S0.out.ext).mono ?_;rintro e w1 ⟨rfl,hb⟩;have S1:=Lib.hid (S0.out.call hb);obtain⟨y0,y1,y2,yz,f0,f1,f2⟩:=bkc0c1c2lz0z1z2 (S1.out.blk 0 rfl);clear hb))
 have S9:=Lib.hid (((S1.out.set 0 rfl 0 (.bool b)).set 0 rfl 1 (.int .i64 0)).set 0 rfl 2 (.slice none 0 0))
 obtain⟨x0,x1,x2⟩:=bkc0c1c2 (S9.out.blk 0 rfl)
 refine bodyPost_ret (v:=.tuple #[.agg #[.bool b,.int .i64 0,.slice none 0 0],.int .i64 ec]) (by simp [results,Tryz.results119,go_sem,x0,x1,x2,Tryz.sizeOf34,Tryz.isAgg34]) rfl ?_
 exact ansQ_nil rfl S9.out.ext
theorem distH (k f t:Int) (pw:Option Addr) (nw cw:Nat) (rad most:Int) (gb:Nat)  (b:Bool) (d ec:Int) (w:World) (HF:∀ W,Ext w W→Calls Tryz.prog 77 #[.int .i64 f,.int .i64 t,.pointer (some ⟨gb,0,none⟩)] W fun e w'=>e=.returned (.tuple #[.int .i64 d,.bool b,.int .i64 ec])∧Ext W w'):Calls Tryz.prog 118 #[.agg #[.int .i64 k,.int .i64 f,.int .i64 t,.slice pw nw cw,.int .i64 rad,.int .i64 most,.func (.func 77) #[] #[.pointer (some ⟨gb,0,none⟩)],.nilFunc]] w (AnsQ b d [] ec w):=by
 have S0:=Lib.hid (((Sep.start w).al #[.int .i64 k,.int .i64 f,.int .i64 t,.slice pw nw cw,.int .i64 rad,.int .i64 most,.func (.func 77) #[] #[.pointer (some ⟨gb,0,none⟩)],.nilFunc] 121 w.heap.size rfl).al #[.bool false,.int .i64 0,.slice none 0 0] 34 (w.heap.size+1) (by simp))
 have HFF:=Lib.hid HF
 clear HF
 go_enter Tryz.func118,Tryz.ntmps118
 go_wp2_with (go_at_call 77;go_must (refine(HFF.out _ S0.out.ext).mono ?_;rintro e w1 ⟨rfl,hb⟩;have S1:=Lib.hid (S0.out.call hb);obtain⟨y0,y1,y2,yz,f0,f1,f2⟩:=bkc0c1c2lz0z1z2 (S1.out.blk 0 rfl);clear hb))
 have S9:=Lib.hid (((S1.out.set 0 rfl 0 (.bool b)).set 0 rfl 1 (.int .i64 d)).set 0 rfl 2 (.slice none 0 0))
 obtain⟨x0,x1,x2⟩:=bkc0c1c2 (S9.out.blk 0 rfl)
 refine bodyPost_ret (v:=.tuple #[.agg #[.bool b,.int .i64 d,.slice none 0 0],.int .i64 ec]) (by simp [results,Tryz.results118,go_sem,x0,x1,x2,Tryz.sizeOf34,Tryz.isAgg34]) rfl ?_
 exact ansQ_nil rfl S9.out.ext
theorem reachH (k f t:Int) (pw:Option Addr) (nw cw:Nat) (rad most:Int) (gb:Nat)  (b:Bool) (d ec:Int) (w:World) (HF:∀ W,Ext w W→Calls Tryz.prog 77 #[.int .i64 f,.int .i64 t,.pointer (some ⟨gb,0,none⟩)] W fun e w'=>e=.returned (.tuple #[.int .i64 d,.bool b,.int .i64 ec])∧Ext W w'):Calls Tryz.prog 119 #[.agg #[.int .i64 k,.int .i64 f,.int .i64 t,.slice pw nw cw,.int .i64 rad,.int .i64 most,.func (.func 77) #[] #[.pointer (some ⟨gb,0,none⟩)],.nilFunc]] w (AnsQ b 0 [] ec w):=by
 have S0:=Lib.hid (((Sep.start w).al #[.int .i64 k,.int .i64 f,.int .i64 t,.slice pw nw cw,.int .i64 rad,.int .i64 most,.func (.func 77) #[] #[.pointer (some ⟨gb,0,none⟩)],.nilFunc] 121 w.heap.size rfl).al #[.bool false,.int .i64 0,.slice none 0 0] 34 (w.heap.size+1) (by simp))
 have HFF:=Lib.hid HF
 clear HF
 go_enter Tryz.func119,Tryz.ntmps119
 go_wp2_with (go_at_call 77;go_must (refine(HFF.out _ S0.out.ext).mono ?_;rintro e w1 ⟨rfl,hb⟩;have S1:=Lib.hid (S0.out.call hb);obtain⟨y0,y1,y2,yz,f0,f1,f2⟩:=bkc0c1c2lz0z1z2 (S1.out.blk 0 rfl);clear hb))
 have S9:=Lib.hid (((S1.out.set 0 rfl 0 (.bool b)).set 0 rfl 1 (.int .i64 0)).set 0 rfl 2 (.slice none 0 0))
 obtain⟨x0,x1,x2⟩:=bkc0c1c2 (S9.out.blk 0 rfl)
 refine bodyPost_ret (v:=.tuple #[.agg #[.bool b,.int .i64 0,.slice none 0 0],.int .i64 ec]) (by simp [results,Tryz.results119,go_sem,x0,x1,x2,Tryz.sizeOf34,Tryz.isAgg34]) rfl ?_
 exact ansQ_nil rfl S9.out.ext
theorem nearH (k f t:Int) (pw:Option Addr) (nw cw:Nat) (rad most:Int) (gb:Nat) (w:World):Calls Tryz.prog 120 #[.agg #[.int .i64 k,.int .i64 f,.int .i64 t,.slice pw nw cw,.int .i64 rad,.int .i64 most,.func (.func 77) #[] #[.pointer (some ⟨gb,0,none⟩)],.nilFunc]] w (AnsQ false 0 [] 180 w):=by
 have S0:=Lib.hid (((Sep.start w).al #[.int .i64 k,.int .i64 f,.int .i64 t,.slice pw nw cw,.int .i64 rad,.int .i64 most,.func (.func 77) #[] #[.pointer (some ⟨gb,0,none⟩)],.nilFunc] 121 w.heap.size rfl).al #[.bool false,.int .i64 0,.slice none 0 0] 34 (w.heap.size+1) (by simp))
 obtain⟨y0,y1,y2,yz,f0,f1,f2⟩:=bkc0c1c2lz0z1z2 (S0.out.blk 0 rfl)
 go_enter Tryz.func120,Tryz.ntmps120
 go_wp2
 obtain⟨x0,x1,x2⟩:=bkc0c1c2 (S0.out.blk 0 rfl)
 refine bodyPost_ret (v:=.tuple #[.agg #[.bool false,.int .i64 0,.slice none 0 0],.int .i64 180]) (by simp [results,Tryz.results120,go_sem,Tryz.sizeOf34,Tryz.isAgg34]) rfl ?_
 exact ansQ_nil rfl S0.out.ext
end
section
open Go Go.RowKit
theorem ansA1 (f t:Int) (pw:Option Addr) (nw cw:Nat) (rad most:Int) (gb:Nat) (gl:Nat) (b:Bool) (d:Int) (F:List (Int × Int)) (ec:Int) (w:World) (HD:∀ W,Ext w W→Calls Tryz.prog 118 #[.agg #[.int .i64 1,.int .i64 f,.int .i64 t,.slice pw nw cw,.int .i64 rad,.int .i64 most,.func (.func 66) #[] #[.pointer (some ⟨gb,0,none⟩)],(.func (.func 68) #[] #[.pointer (some ⟨gb,0,none⟩),.pointer (some ⟨gl,0,none⟩)])]] W (AnsQ b d F ec W)):Calls Tryz.prog 70 #[.agg #[.int .i64 1,.int .i64 f,.int .i64 t,.slice pw nw cw,.int .i64 rad,.int .i64 most,.func (.func 66) #[] #[.pointer (some ⟨gb,0,none⟩)],(.func (.func 68) #[] #[.pointer (some ⟨gb,0,none⟩),.pointer (some ⟨gl,0,none⟩)])]] w (AnsQ b d F ec w):=by
 have S00:=Lib.hid (((Sep.start w).al #[.int .i64 1,.int .i64 f,.int .i64 t,.slice pw nw cw,.int .i64 rad,.int .i64 most,.func (.func 66) #[] #[.pointer (some ⟨gb,0,none⟩)],(.func (.func 68) #[] #[.pointer (some ⟨gb,0,none⟩),.pointer (some ⟨gl,0,none⟩)])] 121 w.heap.size rfl).al #[.bool false,.int .i64 0,.slice none 0 0] 34 (w.heap.size+1) (by simp))
 have hm:=S00.out.mkmapK (K:=(keyI Tryz.prog 3 Tryz.underlying3)) EF20
 have hsz:(((w.alloc (.cells #[.int .i64 1,.int .i64 f,.int .i64 t,.slice pw nw cw,.int .i64 rad,.int .i64 most,.func (.func 66) #[] #[.pointer (some ⟨gb,0,none⟩)],(.func (.func 68) #[] #[.pointer (some ⟨gb,0,none⟩),.pointer (some ⟨gl,0,none⟩)])] 121)).alloc (.cells #[.bool false,.int .i64 0,.slice none 0 0] 34))).heap.size=w.heap.size+1+1:=by simp
 rw [hsz] at hm
 have S0:=Lib.hid hm
 clear hm hsz S00
 have HDD:=Lib.hid HD
 clear HD
 have hmm:=@run_makeMap Tryz.prog
 go_enter Tryz.func70,Tryz.ntmps70
 go_wp2_with (first | (go_at_call 118;go_must (refine(HDD.out _ S3.out.ext).mono ?_;rintro e w4 ⟨q4,c4,rfl,Z⟩;have S4:=Lib.hid (S3.out.comp Z);clear k1 a0 a1 a2 a3 a4 a5 a6 a7 az y0 y1 y2 yz f0 f1 f2;obtain⟨y0,y1,y2,yz,f0,f1,f2⟩:=bkc0c1c2lz0z1z2 (S4.out.blk 2 rfl);clear Z)) | (refine wpList_insert_sepK (K:=(keyI Tryz.prog 3 Tryz.underlying3)) (E:=EF20) rfl _ _ _ _ rfl Tryz.underlying172 rfl S2.out 0 rfl (by omega) ⟨3,0,0⟩ (some 120) rfl rfl ⟨rfl,rfl,I64.of (by decide) (by decide)⟩ ?_;intro w3 S' hg;have S3:=Lib.hid S';clear S' hg;have k1:(Instr.lookup 172 (.map (some (w.heap.size+1+1))) (.int .i64 1) false).run Tryz.prog w3=.ok (.func (.func 118) #[] #[]) w3:=(S3.out.mapK 0 rfl).lookup Tryz.underlying172 (x:=⟨1,0,0⟩) ⟨rfl,rfl,I64.of (by decide) (by decide)⟩;obtain⟨a0,a1,a2,a3,a4,a5,a6,a7,az⟩:=bkc0c1c2c3c4c5c6c7l (S3.out.blk 2 rfl);obtain⟨y0,y1,y2,yz,f0,f1,f2⟩:=bkc0c1c2lz0z1z2 (S3.out.blk 1 rfl)) | (refine wpList_insert_sepK (K:=(keyI Tryz.prog 3 Tryz.underlying3)) (E:=EF20) rfl _ _ _ _ rfl Tryz.underlying172 rfl S1.out 0 rfl (by omega) ⟨2,0,0⟩ (some 119) rfl rfl ⟨rfl,rfl,I64.of (by decide) (by decide)⟩ ?_;intro w2 S' hg;have S2:=Lib.hid S';clear S' hg) | (refine wpList_insert_sepK (K:=(keyI Tryz.prog 3 Tryz.underlying3)) (E:=EF20) rfl _ _ _ _ rfl Tryz.underlying172 rfl S0.out 0 rfl (by omega) ⟨1,0,0⟩ (some 118) rfl rfl ⟨rfl,rfl,I64.of (by decide) (by decide)⟩ ?_;intro w1 S' hg;have S1:=Lib.hid S';clear S' hg))
 have S9:=Lib.hid (((S4.out.set 2 rfl 0 (.bool b)).set 2 rfl 1 (.int .i64 d)).set 2 rfl 2 (.slice q4 F.length c4))
 obtain⟨x0,x1,x2⟩:=bkc0c1c2 (S9.out.blk 2 rfl)
 refine bodyPost_ret (v:=.tuple #[.agg #[.bool b,.int .i64 d,.slice q4 F.length c4],.int .i64 ec]) (by simp [results,Tryz.results70,go_sem,x0,x1,x2,Tryz.sizeOf34,Tryz.isAgg34]) rfl ?_
 exact⟨q4,c4,rfl,S9.out.pick [0] (by decide) rfl⟩
theorem ansA2 (f t:Int) (pw:Option Addr) (nw cw:Nat) (rad most:Int) (gb:Nat) (gl:Nat) (b:Bool) (d:Int) (F:List (Int × Int)) (ec:Int) (w:World) (HD:∀ W,Ext w W→Calls Tryz.prog 119 #[.agg #[.int .i64 2,.int .i64 f,.int .i64 t,.slice pw nw cw,.int .i64 rad,.int .i64 most,.func (.func 66) #[] #[.pointer (some ⟨gb,0,none⟩)],(.func (.func 68) #[] #[.pointer (some ⟨gb,0,none⟩),.pointer (some ⟨gl,0,none⟩)])]] W (AnsQ b d F ec W)):Calls Tryz.prog 70 #[.agg #[.int .i64 2,.int .i64 f,.int .i64 t,.slice pw nw cw,.int .i64 rad,.int .i64 most,.func (.func 66) #[] #[.pointer (some ⟨gb,0,none⟩)],(.func (.func 68) #[] #[.pointer (some ⟨gb,0,none⟩),.pointer (some ⟨gl,0,none⟩)])]] w (AnsQ b d F ec w):=by
 have S00:=Lib.hid (((Sep.start w).al #[.int .i64 2,.int .i64 f,.int .i64 t,.slice pw nw cw,.int .i64 rad,.int .i64 most,.func (.func 66) #[] #[.pointer (some ⟨gb,0,none⟩)],(.func (.func 68) #[] #[.pointer (some ⟨gb,0,none⟩),.pointer (some ⟨gl,0,none⟩)])] 121 w.heap.size rfl).al #[.bool false,.int .i64 0,.slice none 0 0] 34 (w.heap.size+1) (by simp))
 have hm:=S00.out.mkmapK (K:=(keyI Tryz.prog 3 Tryz.underlying3)) EF20
 have hsz:(((w.alloc (.cells #[.int .i64 2,.int .i64 f,.int .i64 t,.slice pw nw cw,.int .i64 rad,.int .i64 most,.func (.func 66) #[] #[.pointer (some ⟨gb,0,none⟩)],(.func (.func 68) #[] #[.pointer (some ⟨gb,0,none⟩),.pointer (some ⟨gl,0,none⟩)])] 121)).alloc (.cells #[.bool false,.int .i64 0,.slice none 0 0] 34))).heap.size=w.heap.size+1+1:=by simp
 rw [hsz] at hm
 have S0:=Lib.hid hm
 clear hm hsz S00
 have HDD:=Lib.hid HD
 clear HD
 have hmm:=@run_makeMap Tryz.prog
 go_enter Tryz.func70,Tryz.ntmps70
 go_wp2_with (first | (go_at_call 119;go_must (refine(HDD.out _ S3.out.ext).mono ?_;rintro e w4 ⟨q4,c4,rfl,Z⟩;have S4:=Lib.hid (S3.out.comp Z);clear k1 a0 a1 a2 a3 a4 a5 a6 a7 az y0 y1 y2 yz f0 f1 f2;obtain⟨y0,y1,y2,yz,f0,f1,f2⟩:=bkc0c1c2lz0z1z2 (S4.out.blk 2 rfl);clear Z)) | (refine wpList_insert_sepK (K:=(keyI Tryz.prog 3 Tryz.underlying3)) (E:=EF20) rfl _ _ _ _ rfl Tryz.underlying172 rfl S2.out 0 rfl (by omega) ⟨3,0,0⟩ (some 120) rfl rfl ⟨rfl,rfl,I64.of (by decide) (by decide)⟩ ?_;intro w3 S' hg;have S3:=Lib.hid S';clear S' hg;have k1:(Instr.lookup 172 (.map (some (w.heap.size+1+1))) (.int .i64 2) false).run Tryz.prog w3=.ok (.func (.func 119) #[] #[]) w3:=(S3.out.mapK 0 rfl).lookup Tryz.underlying172 (x:=⟨2,0,0⟩) ⟨rfl,rfl,I64.of (by decide) (by decide)⟩;obtain⟨a0,a1,a2,a3,a4,a5,a6,a7,az⟩:=bkc0c1c2c3c4c5c6c7l (S3.out.blk 2 rfl);obtain⟨y0,y1,y2,yz,f0,f1,f2⟩:=bkc0c1c2lz0z1z2 (S3.out.blk 1 rfl)) | (refine wpList_insert_sepK (K:=(keyI Tryz.prog 3 Tryz.underlying3)) (E:=EF20) rfl _ _ _ _ rfl Tryz.underlying172 rfl S1.out 0 rfl (by omega) ⟨2,0,0⟩ (some 119) rfl rfl ⟨rfl,rfl,I64.of (by decide) (by decide)⟩ ?_;intro w2 S' hg;have S2:=Lib.hid S';clear S' hg) | (refine wpList_insert_sepK (K:=(keyI Tryz.prog 3 Tryz.underlying3)) (E:=EF20) rfl _ _ _ _ rfl Tryz.underlying172 rfl S0.out 0 rfl (by omega) ⟨1,0,0⟩ (some 118) rfl rfl ⟨rfl,rfl,I64.of (by decide) (by decide)⟩ ?_;intro w1 S' hg;have S1:=Lib.hid S';clear S' hg))
 have S9:=Lib.hid (((S4.out.set 2 rfl 0 (.bool b)).set 2 rfl 1 (.int .i64 d)).set 2 rfl 2 (.slice q4 F.length c4))
 obtain⟨x0,x1,x2⟩:=bkc0c1c2 (S9.out.blk 2 rfl)
 refine bodyPost_ret (v:=.tuple #[.agg #[.bool b,.int .i64 d,.slice q4 F.length c4],.int .i64 ec]) (by simp [results,Tryz.results70,go_sem,x0,x1,x2,Tryz.sizeOf34,Tryz.isAgg34]) rfl ?_
 exact⟨q4,c4,rfl,S9.out.pick [0] (by decide) rfl⟩
theorem ansH1 (f t:Int) (pw:Option Addr) (nw cw:Nat) (rad most:Int) (gb:Nat)  (b:Bool) (d:Int) (F:List (Int × Int)) (ec:Int) (w:World) (HD:∀ W,Ext w W→Calls Tryz.prog 118 #[.agg #[.int .i64 1,.int .i64 f,.int .i64 t,.slice pw nw cw,.int .i64 rad,.int .i64 most,.func (.func 77) #[] #[.pointer (some ⟨gb,0,none⟩)],.nilFunc]] W (AnsQ b d F ec W)):Calls Tryz.prog 70 #[.agg #[.int .i64 1,.int .i64 f,.int .i64 t,.slice pw nw cw,.int .i64 rad,.int .i64 most,.func (.func 77) #[] #[.pointer (some ⟨gb,0,none⟩)],.nilFunc]] w (AnsQ b d F ec w):=by
 have S00:=Lib.hid (((Sep.start w).al #[.int .i64 1,.int .i64 f,.int .i64 t,.slice pw nw cw,.int .i64 rad,.int .i64 most,.func (.func 77) #[] #[.pointer (some ⟨gb,0,none⟩)],.nilFunc] 121 w.heap.size rfl).al #[.bool false,.int .i64 0,.slice none 0 0] 34 (w.heap.size+1) (by simp))
 have hm:=S00.out.mkmapK (K:=(keyI Tryz.prog 3 Tryz.underlying3)) EF20
 have hsz:(((w.alloc (.cells #[.int .i64 1,.int .i64 f,.int .i64 t,.slice pw nw cw,.int .i64 rad,.int .i64 most,.func (.func 77) #[] #[.pointer (some ⟨gb,0,none⟩)],.nilFunc] 121)).alloc (.cells #[.bool false,.int .i64 0,.slice none 0 0] 34))).heap.size=w.heap.size+1+1:=by simp
 rw [hsz] at hm
 have S0:=Lib.hid hm
 clear hm hsz S00
 have HDD:=Lib.hid HD
 clear HD
 have hmm:=@run_makeMap Tryz.prog
 go_enter Tryz.func70,Tryz.ntmps70
 go_wp2_with (first | (go_at_call 118;go_must (refine(HDD.out _ S3.out.ext).mono ?_;rintro e w4 ⟨q4,c4,rfl,Z⟩;have S4:=Lib.hid (S3.out.comp Z);clear k1 a0 a1 a2 a3 a4 a5 a6 a7 az y0 y1 y2 yz f0 f1 f2;obtain⟨y0,y1,y2,yz,f0,f1,f2⟩:=bkc0c1c2lz0z1z2 (S4.out.blk 2 rfl);clear Z)) | (refine wpList_insert_sepK (K:=(keyI Tryz.prog 3 Tryz.underlying3)) (E:=EF20) rfl _ _ _ _ rfl Tryz.underlying172 rfl S2.out 0 rfl (by omega) ⟨3,0,0⟩ (some 120) rfl rfl ⟨rfl,rfl,I64.of (by decide) (by decide)⟩ ?_;intro w3 S' hg;have S3:=Lib.hid S';clear S' hg;have k1:(Instr.lookup 172 (.map (some (w.heap.size+1+1))) (.int .i64 1) false).run Tryz.prog w3=.ok (.func (.func 118) #[] #[]) w3:=(S3.out.mapK 0 rfl).lookup Tryz.underlying172 (x:=⟨1,0,0⟩) ⟨rfl,rfl,I64.of (by decide) (by decide)⟩;obtain⟨a0,a1,a2,a3,a4,a5,a6,a7,az⟩:=bkc0c1c2c3c4c5c6c7l (S3.out.blk 2 rfl);obtain⟨y0,y1,y2,yz,f0,f1,f2⟩:=bkc0c1c2lz0z1z2 (S3.out.blk 1 rfl)) | (refine wpList_insert_sepK (K:=(keyI Tryz.prog 3 Tryz.underlying3)) (E:=EF20) rfl _ _ _ _ rfl Tryz.underlying172 rfl S1.out 0 rfl (by omega) ⟨2,0,0⟩ (some 119) rfl rfl ⟨rfl,rfl,I64.of (by decide) (by decide)⟩ ?_;intro w2 S' hg;have S2:=Lib.hid S';clear S' hg) | (refine wpList_insert_sepK (K:=(keyI Tryz.prog 3 Tryz.underlying3)) (E:=EF20) rfl _ _ _ _ rfl Tryz.underlying172 rfl S0.out 0 rfl (by omega) ⟨1,0,0⟩ (some 118) rfl rfl ⟨rfl,rfl,I64.of (by decide) (by decide)⟩ ?_;intro w1 S' hg;have S1:=Lib.hid S';clear S' hg))
 have S9:=Lib.hid (((S4.out.set 2 rfl 0 (.bool b)).set 2 rfl 1 (.int .i64 d)).set 2 rfl 2 (.slice q4 F.length c4))
 obtain⟨x0,x1,x2⟩:=bkc0c1c2 (S9.out.blk 2 rfl)
 refine bodyPost_ret (v:=.tuple #[.agg #[.bool b,.int .i64 d,.slice q4 F.length c4],.int .i64 ec]) (by simp [results,Tryz.results70,go_sem,x0,x1,x2,Tryz.sizeOf34,Tryz.isAgg34]) rfl ?_
 exact⟨q4,c4,rfl,S9.out.pick [0] (by decide) rfl⟩
theorem ansH2 (f t:Int) (pw:Option Addr) (nw cw:Nat) (rad most:Int) (gb:Nat)  (b:Bool) (d:Int) (F:List (Int × Int)) (ec:Int) (w:World) (HD:∀ W,Ext w W→Calls Tryz.prog 119 #[.agg #[.int .i64 2,.int .i64 f,.int .i64 t,.slice pw nw cw,.int .i64 rad,.int .i64 most,.func (.func 77) #[] #[.pointer (some ⟨gb,0,none⟩)],.nilFunc]] W (AnsQ b d F ec W)):Calls Tryz.prog 70 #[.agg #[.int .i64 2,.int .i64 f,.int .i64 t,.slice pw nw cw,.int .i64 rad,.int .i64 most,.func (.func 77) #[] #[.pointer (some ⟨gb,0,none⟩)],.nilFunc]] w (AnsQ b d F ec w):=by
 have S00:=Lib.hid (((Sep.start w).al #[.int .i64 2,.int .i64 f,.int .i64 t,.slice pw nw cw,.int .i64 rad,.int .i64 most,.func (.func 77) #[] #[.pointer (some ⟨gb,0,none⟩)],.nilFunc] 121 w.heap.size rfl).al #[.bool false,.int .i64 0,.slice none 0 0] 34 (w.heap.size+1) (by simp))
 have hm:=S00.out.mkmapK (K:=(keyI Tryz.prog 3 Tryz.underlying3)) EF20
 have hsz:(((w.alloc (.cells #[.int .i64 2,.int .i64 f,.int .i64 t,.slice pw nw cw,.int .i64 rad,.int .i64 most,.func (.func 77) #[] #[.pointer (some ⟨gb,0,none⟩)],.nilFunc] 121)).alloc (.cells #[.bool false,.int .i64 0,.slice none 0 0] 34))).heap.size=w.heap.size+1+1:=by simp
 rw [hsz] at hm
 have S0:=Lib.hid hm
 clear hm hsz S00
 have HDD:=Lib.hid HD
 clear HD
 have hmm:=@run_makeMap Tryz.prog
 go_enter Tryz.func70,Tryz.ntmps70
 go_wp2_with (first | (go_at_call 119;go_must (refine(HDD.out _ S3.out.ext).mono ?_;rintro e w4 ⟨q4,c4,rfl,Z⟩;have S4:=Lib.hid (S3.out.comp Z);clear k1 a0 a1 a2 a3 a4 a5 a6 a7 az y0 y1 y2 yz f0 f1 f2;obtain⟨y0,y1,y2,yz,f0,f1,f2⟩:=bkc0c1c2lz0z1z2 (S4.out.blk 2 rfl);clear Z)) | (refine wpList_insert_sepK (K:=(keyI Tryz.prog 3 Tryz.underlying3)) (E:=EF20) rfl _ _ _ _ rfl Tryz.underlying172 rfl S2.out 0 rfl (by omega) ⟨3,0,0⟩ (some 120) rfl rfl ⟨rfl,rfl,I64.of (by decide) (by decide)⟩ ?_;intro w3 S' hg;have S3:=Lib.hid S';clear S' hg;have k1:(Instr.lookup 172 (.map (some (w.heap.size+1+1))) (.int .i64 2) false).run Tryz.prog w3=.ok (.func (.func 119) #[] #[]) w3:=(S3.out.mapK 0 rfl).lookup Tryz.underlying172 (x:=⟨2,0,0⟩) ⟨rfl,rfl,I64.of (by decide) (by decide)⟩;obtain⟨a0,a1,a2,a3,a4,a5,a6,a7,az⟩:=bkc0c1c2c3c4c5c6c7l (S3.out.blk 2 rfl);obtain⟨y0,y1,y2,yz,f0,f1,f2⟩:=bkc0c1c2lz0z1z2 (S3.out.blk 1 rfl)) | (refine wpList_insert_sepK (K:=(keyI Tryz.prog 3 Tryz.underlying3)) (E:=EF20) rfl _ _ _ _ rfl Tryz.underlying172 rfl S1.out 0 rfl (by omega) ⟨2,0,0⟩ (some 119) rfl rfl ⟨rfl,rfl,I64.of (by decide) (by decide)⟩ ?_;intro w2 S' hg;have S2:=Lib.hid S';clear S' hg) | (refine wpList_insert_sepK (K:=(keyI Tryz.prog 3 Tryz.underlying3)) (E:=EF20) rfl _ _ _ _ rfl Tryz.underlying172 rfl S0.out 0 rfl (by omega) ⟨1,0,0⟩ (some 118) rfl rfl ⟨rfl,rfl,I64.of (by decide) (by decide)⟩ ?_;intro w1 S' hg;have S1:=Lib.hid S';clear S' hg))
 have S9:=Lib.hid (((S4.out.set 2 rfl 0 (.bool b)).set 2 rfl 1 (.int .i64 d)).set 2 rfl 2 (.slice q4 F.length c4))
 obtain⟨x0,x1,x2⟩:=bkc0c1c2 (S9.out.blk 2 rfl)
 refine bodyPost_ret (v:=.tuple #[.agg #[.bool b,.int .i64 d,.slice q4 F.length c4],.int .i64 ec]) (by simp [results,Tryz.results70,go_sem,x0,x1,x2,Tryz.sizeOf34,Tryz.isAgg34]) rfl ?_
 exact⟨q4,c4,rfl,S9.out.pick [0] (by decide) rfl⟩
theorem ansH3 (f t:Int) (pw:Option Addr) (nw cw:Nat) (rad most:Int) (gb:Nat)  (b:Bool) (d:Int) (F:List (Int × Int)) (ec:Int) (w:World) (HD:∀ W,Ext w W→Calls Tryz.prog 120 #[.agg #[.int .i64 3,.int .i64 f,.int .i64 t,.slice pw nw cw,.int .i64 rad,.int .i64 most,.func (.func 77) #[] #[.pointer (some ⟨gb,0,none⟩)],.nilFunc]] W (AnsQ b d F ec W)):Calls Tryz.prog 70 #[.agg #[.int .i64 3,.int .i64 f,.int .i64 t,.slice pw nw cw,.int .i64 rad,.int .i64 most,.func (.func 77) #[] #[.pointer (some ⟨gb,0,none⟩)],.nilFunc]] w (AnsQ b d F ec w):=by
 have S00:=Lib.hid (((Sep.start w).al #[.int .i64 3,.int .i64 f,.int .i64 t,.slice pw nw cw,.int .i64 rad,.int .i64 most,.func (.func 77) #[] #[.pointer (some ⟨gb,0,none⟩)],.nilFunc] 121 w.heap.size rfl).al #[.bool false,.int .i64 0,.slice none 0 0] 34 (w.heap.size+1) (by simp))
 have hm:=S00.out.mkmapK (K:=(keyI Tryz.prog 3 Tryz.underlying3)) EF20
 have hsz:(((w.alloc (.cells #[.int .i64 3,.int .i64 f,.int .i64 t,.slice pw nw cw,.int .i64 rad,.int .i64 most,.func (.func 77) #[] #[.pointer (some ⟨gb,0,none⟩)],.nilFunc] 121)).alloc (.cells #[.bool false,.int .i64 0,.slice none 0 0] 34))).heap.size=w.heap.size+1+1:=by simp
 rw [hsz] at hm
 have S0:=Lib.hid hm
 clear hm hsz S00
 have HDD:=Lib.hid HD
 clear HD
 have hmm:=@run_makeMap Tryz.prog
 go_enter Tryz.func70,Tryz.ntmps70
 go_wp2_with (first | (go_at_call 120;go_must (refine(HDD.out _ S3.out.ext).mono ?_;rintro e w4 ⟨q4,c4,rfl,Z⟩;have S4:=Lib.hid (S3.out.comp Z);clear k1 a0 a1 a2 a3 a4 a5 a6 a7 az y0 y1 y2 yz f0 f1 f2;obtain⟨y0,y1,y2,yz,f0,f1,f2⟩:=bkc0c1c2lz0z1z2 (S4.out.blk 2 rfl);clear Z)) | (refine wpList_insert_sepK (K:=(keyI Tryz.prog 3 Tryz.underlying3)) (E:=EF20) rfl _ _ _ _ rfl Tryz.underlying172 rfl S2.out 0 rfl (by omega) ⟨3,0,0⟩ (some 120) rfl rfl ⟨rfl,rfl,I64.of (by decide) (by decide)⟩ ?_;intro w3 S' hg;have S3:=Lib.hid S';clear S' hg;have k1:(Instr.lookup 172 (.map (some (w.heap.size+1+1))) (.int .i64 3) false).run Tryz.prog w3=.ok (.func (.func 120) #[] #[]) w3:=(S3.out.mapK 0 rfl).lookup Tryz.underlying172 (x:=⟨3,0,0⟩) ⟨rfl,rfl,I64.of (by decide) (by decide)⟩;obtain⟨a0,a1,a2,a3,a4,a5,a6,a7,az⟩:=bkc0c1c2c3c4c5c6c7l (S3.out.blk 2 rfl);obtain⟨y0,y1,y2,yz,f0,f1,f2⟩:=bkc0c1c2lz0z1z2 (S3.out.blk 1 rfl)) | (refine wpList_insert_sepK (K:=(keyI Tryz.prog 3 Tryz.underlying3)) (E:=EF20) rfl _ _ _ _ rfl Tryz.underlying172 rfl S1.out 0 rfl (by omega) ⟨2,0,0⟩ (some 119) rfl rfl ⟨rfl,rfl,I64.of (by decide) (by decide)⟩ ?_;intro w2 S' hg;have S2:=Lib.hid S';clear S' hg) | (refine wpList_insert_sepK (K:=(keyI Tryz.prog 3 Tryz.underlying3)) (E:=EF20) rfl _ _ _ _ rfl Tryz.underlying172 rfl S0.out 0 rfl (by omega) ⟨1,0,0⟩ (some 118) rfl rfl ⟨rfl,rfl,I64.of (by decide) (by decide)⟩ ?_;intro w1 S' hg;have S1:=Lib.hid S';clear S' hg))
 have S9:=Lib.hid (((S4.out.set 2 rfl 0 (.bool b)).set 2 rfl 1 (.int .i64 d)).set 2 rfl 2 (.slice q4 F.length c4))
 obtain⟨x0,x1,x2⟩:=bkc0c1c2 (S9.out.blk 2 rfl)
 refine bodyPost_ret (v:=.tuple #[.agg #[.bool b,.int .i64 d,.slice q4 F.length c4],.int .i64 ec]) (by simp [results,Tryz.results70,go_sem,x0,x1,x2,Tryz.sizeOf34,Tryz.isAgg34]) rfl ?_
 exact⟨q4,c4,rfl,S9.out.pick [0] (by decide) rfl⟩
end
section
open Go Go.RowKit Go.Maps
theorem zeroBm (w:World):(zeroValue 4).run Tryz.prog w=.ok (.bool false) w:=by kernel_rfl
noncomputable def EBm:Elm Tryz.prog 4 Bool:=elmB Tryz.prog 4 Tryz.underlying4 zeroBm
theorem ahead1 (gs gr n:Nat) (ql:Option Addr) (cl:Nat) (X:List Int) (qf:Option Addr) (m cf:Nat) (F:List Int) (nx:Nat→List Int) (w:World)
  (hB:Blk w gs 288 #[.func (.func 177) #[] #[.pointer (some ⟨gr,0,none⟩)],.slice ql n cl,.slice qf m cf]) (hX:Rd w 1 ql n (encI X)) (hF:Rd w 1 qf m (encI F)) (hn:n≤200)
  (hFb:∀ x∈F,0≤x∧x<n) (hin:InN nx n)
  (HN:∀ k,k<n→∃ q c,Rd w 1 q (nx k).length (encI (nx k))∧∀ W,Ext w W→Calls Tryz.prog 177 #[.int .i64 k,.pointer (some ⟨gr,0,none⟩)] W fun e w'=>e=.returned (.slice q (nx k).length c)∧Ext W w') :
  Calls Tryz.prog 181 #[.pointer (some ⟨gs,0,none⟩)] w fun e w'=>∃ q c,e=.returned (.slice q (ahF nx X F []).length c)∧Sep w w' [.own 3 1 q (ahF nx X F []).length c (encI (ahF nx X F []))]:=by
 obtain⟨i0,hi0,hz0,hz1,hz2⟩:=info_parts infI
 have p1:=hF.ptr
 have p2:=hX.ptr
 have n1:=hF.small
 have L1:=Lib.hid hF.nI
 have L2:=Lib.hid hX.nI
 have HSM:Hid (∀ (G:List Int) (l:List Int),(∀ x∈G,0≤x∧x<n)→l.Nodup→(∀ x∈l,0≤x∧x<n)→(ahF nx X G l).length≤n):=fun G l hG h1 h2=>nodup_small (ahF_nodup h1) fun x hx=>by
  rcases ahF_mem.1 hx with h | ⟨v,h3,h4,_⟩
  ·exact h2 x h
  ·obtain⟨h5,h6⟩:=hG v h3
   exact hin v.toNat (by omega) x h4
 have HB:=Lib.hid hB;clear hB
 have HX:=Lib.hid hX;clear hX
 have HF:=Lib.hid hF;clear hF
 have HFB:=Lib.hid hFb;clear hFb
 have HIN:=Lib.hid hin;clear hin
 have HNX:=Lib.hid HN
 clear HN
 have hmm:=@run_makeMap Tryz.prog
 have S0:=Lib.hid (((Sep.start w).mkmap EBm (k:=3)).nilrow 3 1)
 have b0:=HB.out.cell 0
 have b1:=HB.out.cell 1
 have b2:=HB.out.cell 2
 have bz:=HB.out.lt
 go_enter Tryz.func181,Tryz.ntmps181
 go_wp2
 go_loopw [3,6,8,15] (fun l _ _ i wr=>∃ (k:Nat) (L:List Int) (q:Option Addr) (c mm:Nat) (f:Int→Option Bool),k≤m∧i=.int .i64 k∧l=.slice q L.length c∧L=ahF nx X (F.take k) []∧mm≤L.length∧Sep w wr [.own 3 1 q L.length c (encI L),.map Tryz.prog 3 EBm w.heap.size mm f]∧∀ x,f x=some true↔x∈L) (fun _ _ _ i _=>m - (intOf i).toNat)
 case atStart=>exact⟨0,[],none,0,0,_,Nat.zero_le _,rfl,rfl,rfl,Nat.le_refl _,S0.out,fun x=>by simp⟩
 case round =>
  clear S0 b0 b1 b2 bz
  obtain⟨k,L,q,c,mm,f,hk,rfl,rfl,hL,hmm2,S,hf⟩:=hrel
  have b0:=S.ext.cell (HB.out.cell 0)
  have b1:=S.ext.cell (HB.out.cell 1)
  have b2:=S.ext.cell (HB.out.cell 2)
  have bz:=Nat.lt_of_lt_of_le HB.out.lt S.ext.size
  by_cases hlt:k<m
  ·have hkF:k<F.length:=by rw [← L1.out];exact hlt
   have g1:=S.ext.cell (HF.out.cI hlt)
   obtain⟨f1,f2⟩:=HFB.out _ (nth_mem hkF)
   have HT:=Lib.hid (ahF_take (nx:=nx) (X:=X) (l:=[]) hkF)
   rw [← hL] at HT
   have HLB:Hid (∀ j l',l'=ahR X ((nx (nth F k).toNat).take j) L→l'.length≤n):=fun j l' hl'=>by
    rw [hl',hL]
    refine nodup_small (ahR_nodup (ahF_nodup List.nodup_nil)) fun x hx=>?_
    rcases ahR_mem.1 hx with h | ⟨h,_⟩
    ·rcases ahF_mem.1 h with h | ⟨v,h3,h4,_⟩
     ·cases h
     ·obtain⟨h5,h6⟩:=HFB.out v (List.mem_of_mem_take h3)
      exact HIN.out v.toNat (by omega) x h4
    ·exact HIN.out _ (by omega) x (List.mem_of_mem_take h)
   clear hL
   obtain⟨a,ha⟩:∃ a:Nat,nth F k=(a:Int):=⟨(nth F k).toNat,by omega⟩
   rw [ha] at g1 f1 f2 HT HLB
   rw [Int.toNat_natCast] at HT HLB
   obtain⟨qn,cn,RN,CN⟩:=HNX.out a (by omega)
   have HRow:=Lib.hid (HIN.out a (by omega))
   have hln:=RN.small
   have pn:=RN.ptr
   generalize nx a=row at *
   have HRN:=Lib.hid RN;clear RN
   have HCN:=Lib.hid CN;clear CN
   have HFN:=Lib.hid hf;clear hf
   have SH:=Lib.hid S;clear S
   have d1:(0:Int)≤k:=by omega
   have d2:(k:Int)<m:=by omega
   clear ha f1 f2
   go_wp2_with (go_at_call 177;go_must (refine(HCN.out _ SH.out.ext).mono ?_;rintro e w1 ⟨rfl,hb⟩;have S1:=Lib.hid (SH.out.call hb);clear hb))
   go_loopw [3,8,26] (fun l _ i wr=>∃ (j:Nat) (l':List Int) (q:Option Addr) (c mm:Nat) (f:Int→Option Bool),j≤row.length∧i=.int .i64 j∧l=.slice q l'.length c∧l'=ahR X (row.take j) L∧mm≤l'.length∧Sep w wr [.own 3 1 q l'.length c (encI l'),.map Tryz.prog 3 EBm w.heap.size mm f]∧∀ x,f x=some true↔x∈l') (fun _ _ i _=>row.length - (intOf i).toNat)
   case atStart=>exact⟨0,L,q,c,mm,f,Nat.zero_le _,rfl,rfl,rfl,hmm2,S1.out,HFN.out⟩
   case round =>
    clear SH S1 HFN HCN b0 b1 b2 bz g1 hmm2
    obtain⟨j,l',q,c,mm,f,hj,rfl,rfl,hl',hmm2,S,hf⟩:=hrel
    have b0:=S.ext.cell (HB.out.cell 0)
    have b1:=S.ext.cell (HB.out.cell 1)
    have b2:=S.ext.cell (HB.out.cell 2)
    have bz:=Nat.lt_of_lt_of_le HB.out.lt S.ext.size
    by_cases hlj:j<row.length
    ·have g1:=S.ext.cell (HRN.out.cI hlj)
     obtain⟨f1,f2⟩:=HRow.out _ (nth_mem hlj)
     have HT2:=Lib.hid (ahR_take (X:=X) (l:=L) hlj)
     rw [← hl'] at HT2
     have hlen:=HLB.out j l' hl'
     clear hl'
     obtain⟨b,hb⟩:∃ b:Nat,nth row j=(b:Int):=⟨(nth row j).toNat,by omega⟩
     rw [hb] at g1 f1 f2 HT2
     have g2:=S.ext.cell (HX.out.cI (k:=b) (by omega))
     have HI:Hid (I64 (b:Int)):=I64.nat (by omega)
     have hlk:=(S.map 1 rfl).lookup Tryz.underlying3 Tryz.underlying251 HI.out
     obtain⟨u,hu⟩:∃ u,u=(f (b:Int)).getD EBm.z:=⟨_,rfl⟩
     rw [← hu] at hlk
     have hlk2:(Instr.lookup 251 (.map (some w.heap.size)) (.int .i64 (b:Int)) false).run Tryz.prog wr=.ok (.bool u) wr:=hlk
     have hui:u=true↔(b:Int)∈l':=by
      rw [← hf,hu]
      cases hfb:f (b:Int) with
      | none=>simp;decide
      | some t=>simp
     clear hlk hb hu
     have HFN:=Lib.hid hf;clear hf
     have SH:=Lib.hid S;clear S
     have d3:(0:Int)≤j:=by omega
     have d4:(j:Int)<row.length:=by omega
     unfold ah1 at HT2
     rw [Int.toNat_natCast] at HT2
     generalize nth X b=lv at *
     by_cases hlv:lv<0
     ·have d5:decide (lv<0)=true:=by simpa using hlv
      cases u with
      | true =>
       have hmem:=hui.1 rfl
       rw [if_neg (fun h=>h.2 hmem)] at HT2
       clear hui hmem
       go_wp2
       go_roundw
       case rel=>exact⟨j+1,l',q,c,mm,f,by omega,by go_num,rfl,HT2.out.symm,hmm2,SH.out,HFN.out⟩
       case measure=>simp [intOf];omega
      | false =>
       have hmem:(b:Int) ∉ l':=fun h=>by have:=hui.2 h;cases this
       rw [if_pos ⟨hlv,hmem⟩] at HT2
       clear hui hmem
       go_wp2_with (first
        | (at_mapUpdate;go_must (refine wpList_update_sep rfl _ _ _ _ rfl Tryz.underlying3 Tryz.underlying251 rfl SH.out 1 rfl (by omega) (b:Int) true rfl rfl HI.out ?_;intro w1 S1 hg;have S2:=Lib.hid S1;clear S1 hg))
        | (at_builtin;go_must (refine wpList_append_sep rfl _ _ _ rfl 3 i0 _ 1 8 Tryz.underlying25 hi0 hz0 hz1 hz2 rfl (by omega) (S2.out.junk _) 0 q l'.length c _ rfl rfl _ 1 1 _ rfl (Rd.oneI _ _ _) (one_encI _) (by omega) (by omega) ?_;intro q' c' w3 S' hsz;have S3:=Lib.hid S';clear S' hsz)))
       go_roundw
       case rel=>exact⟨j+1,l' ++ [(b:Int)],q',c',mm+1,_,by omega,by go_num,by rw [List.length_append];rfl,HT2.out.symm,by rw [List.length_append];simp;omega,by rw [List.length_append,encI_append];exact S3.out,fun x=>by
        rw [List.mem_append,List.mem_singleton,← HFN.out x]
        unfold upF
        by_cases e:x=(b:Int) <;> simp [e]⟩
       case measure=>simp [intOf];omega
     ·have d5:decide (lv<0)=false:=by simpa using hlv
      rw [if_neg (fun h=>hlv h.1)] at HT2
      clear hui hlk2
      go_wp2
      go_roundw
      case rel=>exact⟨j+1,l',q,c,mm,f,by omega,by go_num,rfl,HT2.out.symm,hmm2,SH.out,HFN.out⟩
      case measure=>simp [intOf];omega
    ·obtain rfl:j=row.length:=by omega
     rw [List.take_length,← HT.out] at hl'
     have HL':=Lib.hid hl';clear hl'
     have HFN:=Lib.hid hf;clear hf
     have SH:=Lib.hid S;clear S
     go_wp2
     go_roundw
     case rel=>exact⟨k+1,l',q,c,mm,f,by omega,by go_num,rfl,HL'.out,hmm2,SH.out,HFN.out⟩
     case measure=>simp [intOf];omega
  ·obtain rfl:k=m:=by omega
   rw [List.take_of_length_le (by rw [← L1.out];omega)] at hL
   subst hL
   have SH:=Lib.hid S;clear S
   clear hf
   go_wp2
   go_ret
   exact⟨q,c,rfl,SH.out.pick [0] (by decide) rfl⟩
theorem ahead2 (gs gr n:Nat) (ql:Option Addr) (cl:Nat) (X:List Int) (qf:Option Addr) (m cf:Nat) (F:List Int) (nx:Nat→List Int) (w:World)
  (hB:Blk w gs 288 #[.func (.func 178) #[] #[.pointer (some ⟨gr,0,none⟩)],.slice ql n cl,.slice qf m cf]) (hX:Rd w 1 ql n (encI X)) (hF:Rd w 1 qf m (encI F)) (hn:n≤200)
  (hFb:∀ x∈F,0≤x∧x<n) (hin:InN nx n)
  (HN:∀ k,k<n→∃ q c,Rd w 1 q (nx k).length (encI (nx k))∧∀ W,Ext w W→Calls Tryz.prog 178 #[.int .i64 k,.pointer (some ⟨gr,0,none⟩)] W fun e w'=>e=.returned (.slice q (nx k).length c)∧Ext W w') :
  Calls Tryz.prog 181 #[.pointer (some ⟨gs,0,none⟩)] w fun e w'=>∃ q c,e=.returned (.slice q (ahF nx X F []).length c)∧Sep w w' [.own 3 1 q (ahF nx X F []).length c (encI (ahF nx X F []))]:=by
 obtain⟨i0,hi0,hz0,hz1,hz2⟩:=info_parts infI
 have p1:=hF.ptr
 have p2:=hX.ptr
 have n1:=hF.small
 have L1:=Lib.hid hF.nI
 have L2:=Lib.hid hX.nI
 have HSM:Hid (∀ (G:List Int) (l:List Int),(∀ x∈G,0≤x∧x<n)→l.Nodup→(∀ x∈l,0≤x∧x<n)→(ahF nx X G l).length≤n):=fun G l hG h1 h2=>nodup_small (ahF_nodup h1) fun x hx=>by
  rcases ahF_mem.1 hx with h | ⟨v,h3,h4,_⟩
  ·exact h2 x h
  ·obtain⟨h5,h6⟩:=hG v h3
   exact hin v.toNat (by omega) x h4
 have HB:=Lib.hid hB;clear hB
 have HX:=Lib.hid hX;clear hX
 have HF:=Lib.hid hF;clear hF
 have HFB:=Lib.hid hFb;clear hFb
 have HIN:=Lib.hid hin;clear hin
 have HNX:=Lib.hid HN
 clear HN
 have hmm:=@run_makeMap Tryz.prog
 have S0:=Lib.hid (((Sep.start w).mkmap EBm (k:=3)).nilrow 3 1)
 have b0:=HB.out.cell 0
 have b1:=HB.out.cell 1
 have b2:=HB.out.cell 2
 have bz:=HB.out.lt
 go_enter Tryz.func181,Tryz.ntmps181
 go_wp2
 go_loopw [3,6,8,15] (fun l _ _ i wr=>∃ (k:Nat) (L:List Int) (q:Option Addr) (c mm:Nat) (f:Int→Option Bool),k≤m∧i=.int .i64 k∧l=.slice q L.length c∧L=ahF nx X (F.take k) []∧mm≤L.length∧Sep w wr [.own 3 1 q L.length c (encI L),.map Tryz.prog 3 EBm w.heap.size mm f]∧∀ x,f x=some true↔x∈L) (fun _ _ _ i _=>m - (intOf i).toNat)
 case atStart=>exact⟨0,[],none,0,0,_,Nat.zero_le _,rfl,rfl,rfl,Nat.le_refl _,S0.out,fun x=>by simp⟩
 case round =>
  clear S0 b0 b1 b2 bz
  obtain⟨k,L,q,c,mm,f,hk,rfl,rfl,hL,hmm2,S,hf⟩:=hrel
  have b0:=S.ext.cell (HB.out.cell 0)
  have b1:=S.ext.cell (HB.out.cell 1)
  have b2:=S.ext.cell (HB.out.cell 2)
  have bz:=Nat.lt_of_lt_of_le HB.out.lt S.ext.size
  by_cases hlt:k<m
  ·have hkF:k<F.length:=by rw [← L1.out];exact hlt
   have g1:=S.ext.cell (HF.out.cI hlt)
   obtain⟨f1,f2⟩:=HFB.out _ (nth_mem hkF)
   have HT:=Lib.hid (ahF_take (nx:=nx) (X:=X) (l:=[]) hkF)
   rw [← hL] at HT
   have HLB:Hid (∀ j l',l'=ahR X ((nx (nth F k).toNat).take j) L→l'.length≤n):=fun j l' hl'=>by
    rw [hl',hL]
    refine nodup_small (ahR_nodup (ahF_nodup List.nodup_nil)) fun x hx=>?_
    rcases ahR_mem.1 hx with h | ⟨h,_⟩
    ·rcases ahF_mem.1 h with h | ⟨v,h3,h4,_⟩
     ·cases h
     ·obtain⟨h5,h6⟩:=HFB.out v (List.mem_of_mem_take h3)
      exact HIN.out v.toNat (by omega) x h4
    ·exact HIN.out _ (by omega) x (List.mem_of_mem_take h)
   clear hL
   obtain⟨a,ha⟩:∃ a:Nat,nth F k=(a:Int):=⟨(nth F k).toNat,by omega⟩
   rw [ha] at g1 f1 f2 HT HLB
   rw [Int.toNat_natCast] at HT HLB
   obtain⟨qn,cn,RN,CN⟩:=HNX.out a (by omega)
   have HRow:=Lib.hid (HIN.out a (by omega))
   have hln:=RN.small
   have pn:=RN.ptr
   generalize nx a=row at *
   have HRN:=Lib.hid RN;clear RN
   have HCN:=Lib.hid CN;clear CN
   have HFN:=Lib.hid hf;clear hf
   have SH:=Lib.hid S;clear S
   have d1:(0:Int)≤k:=by omega
   have d2:(k:Int)<m:=by omega
   clear ha f1 f2
   go_wp2_with (go_at_call 178;go_must (refine(HCN.out _ SH.out.ext).mono ?_;rintro e w1 ⟨rfl,hb⟩;have S1:=Lib.hid (SH.out.call hb);clear hb))
   go_loopw [3,8,26] (fun l _ i wr=>∃ (j:Nat) (l':List Int) (q:Option Addr) (c mm:Nat) (f:Int→Option Bool),j≤row.length∧i=.int .i64 j∧l=.slice q l'.length c∧l'=ahR X (row.take j) L∧mm≤l'.length∧Sep w wr [.own 3 1 q l'.length c (encI l'),.map Tryz.prog 3 EBm w.heap.size mm f]∧∀ x,f x=some true↔x∈l') (fun _ _ i _=>row.length - (intOf i).toNat)
   case atStart=>exact⟨0,L,q,c,mm,f,Nat.zero_le _,rfl,rfl,rfl,hmm2,S1.out,HFN.out⟩
   case round =>
    clear SH S1 HFN HCN b0 b1 b2 bz g1 hmm2
    obtain⟨j,l',q,c,mm,f,hj,rfl,rfl,hl',hmm2,S,hf⟩:=hrel
    have b0:=S.ext.cell (HB.out.cell 0)
    have b1:=S.ext.cell (HB.out.cell 1)
    have b2:=S.ext.cell (HB.out.cell 2)
    have bz:=Nat.lt_of_lt_of_le HB.out.lt S.ext.size
    by_cases hlj:j<row.length
    ·have g1:=S.ext.cell (HRN.out.cI hlj)
     obtain⟨f1,f2⟩:=HRow.out _ (nth_mem hlj)
     have HT2:=Lib.hid (ahR_take (X:=X) (l:=L) hlj)
     rw [← hl'] at HT2
     have hlen:=HLB.out j l' hl'
     clear hl'
     obtain⟨b,hb⟩:∃ b:Nat,nth row j=(b:Int):=⟨(nth row j).toNat,by omega⟩
     rw [hb] at g1 f1 f2 HT2
     have g2:=S.ext.cell (HX.out.cI (k:=b) (by omega))
     have HI:Hid (I64 (b:Int)):=I64.nat (by omega)
     have hlk:=(S.map 1 rfl).lookup Tryz.underlying3 Tryz.underlying251 HI.out
     obtain⟨u,hu⟩:∃ u,u=(f (b:Int)).getD EBm.z:=⟨_,rfl⟩
     rw [← hu] at hlk
     have hlk2:(Instr.lookup 251 (.map (some w.heap.size)) (.int .i64 (b:Int)) false).run Tryz.prog wr=.ok (.bool u) wr:=hlk
     have hui:u=true↔(b:Int)∈l':=by
      rw [← hf,hu]
      cases hfb:f (b:Int) with
      | none=>simp;decide
      | some t=>simp
     clear hlk hb hu
     have HFN:=Lib.hid hf;clear hf
     have SH:=Lib.hid S;clear S
     have d3:(0:Int)≤j:=by omega
     have d4:(j:Int)<row.length:=by omega
     unfold ah1 at HT2
     rw [Int.toNat_natCast] at HT2
     generalize nth X b=lv at *
     by_cases hlv:lv<0
     ·have d5:decide (lv<0)=true:=by simpa using hlv
      cases u with
      | true =>
       have hmem:=hui.1 rfl
       rw [if_neg (fun h=>h.2 hmem)] at HT2
       clear hui hmem
       go_wp2
       go_roundw
       case rel=>exact⟨j+1,l',q,c,mm,f,by omega,by go_num,rfl,HT2.out.symm,hmm2,SH.out,HFN.out⟩
       case measure=>simp [intOf];omega
      | false =>
       have hmem:(b:Int) ∉ l':=fun h=>by have:=hui.2 h;cases this
       rw [if_pos ⟨hlv,hmem⟩] at HT2
       clear hui hmem
       go_wp2_with (first
        | (at_mapUpdate;go_must (refine wpList_update_sep rfl _ _ _ _ rfl Tryz.underlying3 Tryz.underlying251 rfl SH.out 1 rfl (by omega) (b:Int) true rfl rfl HI.out ?_;intro w1 S1 hg;have S2:=Lib.hid S1;clear S1 hg))
        | (at_builtin;go_must (refine wpList_append_sep rfl _ _ _ rfl 3 i0 _ 1 8 Tryz.underlying25 hi0 hz0 hz1 hz2 rfl (by omega) (S2.out.junk _) 0 q l'.length c _ rfl rfl _ 1 1 _ rfl (Rd.oneI _ _ _) (one_encI _) (by omega) (by omega) ?_;intro q' c' w3 S' hsz;have S3:=Lib.hid S';clear S' hsz)))
       go_roundw
       case rel=>exact⟨j+1,l' ++ [(b:Int)],q',c',mm+1,_,by omega,by go_num,by rw [List.length_append];rfl,HT2.out.symm,by rw [List.length_append];simp;omega,by rw [List.length_append,encI_append];exact S3.out,fun x=>by
        rw [List.mem_append,List.mem_singleton,← HFN.out x]
        unfold upF
        by_cases e:x=(b:Int) <;> simp [e]⟩
       case measure=>simp [intOf];omega
     ·have d5:decide (lv<0)=false:=by simpa using hlv
      rw [if_neg (fun h=>hlv h.1)] at HT2
      clear hui hlk2
      go_wp2
      go_roundw
      case rel=>exact⟨j+1,l',q,c,mm,f,by omega,by go_num,rfl,HT2.out.symm,hmm2,SH.out,HFN.out⟩
      case measure=>simp [intOf];omega
    ·obtain rfl:j=row.length:=by omega
     rw [List.take_length,← HT.out] at hl'
     have HL':=Lib.hid hl';clear hl'
     have HFN:=Lib.hid hf;clear hf
     have SH:=Lib.hid S;clear S
     go_wp2
     go_roundw
     case rel=>exact⟨k+1,l',q,c,mm,f,by omega,by go_num,rfl,HL'.out,hmm2,SH.out,HFN.out⟩
     case measure=>simp [intOf];omega
  ·obtain rfl:k=m:=by omega
   rw [List.take_of_length_le (by rw [← L1.out];omega)] at hL
   subst hL
   have SH:=Lib.hid S;clear S
   clear hf
   go_wp2
   go_ret
   exact⟨q,c,rfl,SH.out.pick [0] (by decide) rfl⟩
end
section
open Go Go.RowKit
theorem set_ne {α:Type} {Γ:List α} {i j:Nat} {p q:α} (h:Γ[i]?=some p) (hne:i≠j):(Γ.set j q)[i]?=some p:=by
 rw [List.getElem?_set_ne (fun e=>hne e.symm)];exact h
theorem set_eq {α:Type} {Γ:List α} {j:Nat} {p q:α} (h:Γ[j]?=some p):(Γ.set j q)[j]?=some q:=List.getElem?_set_self (List.getElem?_eq_some_iff.1 h).1
theorem takeG {w0 w:World} {Γ:List Pc} (i j:Nat) (gs fid gr n:Nat) (ql:Option Addr) (cl:Nat) (X:List Int) (qf:Option Addr) (mf cf:Nat) (F:List Int) (qm:Option Addr) (m cm:Nat) (L:List Int) (S:Sep w0 w Γ)
  (hij:i≠j) (hi:Γ[i]?=some (.blk gs 288 #[.func (.func fid) #[] #[.pointer (some ⟨gr,0,none⟩)],.slice ql n cl,.slice qf mf cf])) (hj:Γ[j]?=some (.own 3 1 ql n cl (encI X))) (hf:∀ W Y,Sep w0 W (Γ.set j (.own 3 1 ql n cl Y))→Rd W 1 qf mf (encI F)) (hp:∀ W Y,Sep w0 W (Γ.set j (.own 3 1 ql n cl Y))→Rd W 1 qm m (encI L))
  (hn:n≤200) (hmf:0<mf) (hmf2:mf≤200) (hm:m≤200) (hF:0≤nth F 0∧nth F 0<n) (hL:∀ x∈L,0≤x∧x<n) (hne:nth F 0 ∉ L) (c:Int) (hc:nth X (nth F 0).toNat=c) (hc0:0≤c∧c≤1000) :
  Calls Tryz.prog 182 #[.pointer (some ⟨gs,0,none⟩),.slice qm m cm] w fun e w'=>(∃ v,e=.returned v)∧Sep w0 w' ((Γ.set j (.own 3 1 ql n cl (encI (tkR (c+1) L X)))).set i (.blk gs 288 #[.func (.func fid) #[] #[.pointer (some ⟨gr,0,none⟩)],.slice ql n cl,.slice qm m cm])):=by
 have LX:X.length=n:=by have:=(S.rd j hj (by omega)).nI;omega
 have e0:Γ.set j (.own 3 1 ql n cl (encI X))=Γ:=by
  apply List.ext_getElem?
  intro t
  by_cases e:j=t
  ·subst e;rw [set_eq hj,hj]
  ·rw [List.getElem?_set_ne e]
 have LL:L.length=m:=by have:=(hp w (encI X) (by rw [e0];exact S)).nI;omega
 have LX':=Lib.hid LX
 have LL':=Lib.hid LL
 have HL:=Lib.hid hL
 obtain⟨a,ha⟩:∃ a:Nat,nth F 0=(a:Int):=⟨(nth F 0).toNat,by omega⟩
 have HA:Hid (∀ k,nth (tkR (c+1) (L.take k) X) a=c):=fun k=>by
  rw [tkR_nth (fun x hx=>by have:=hL x (List.mem_of_mem_take hx);rw [LX];omega),if_neg (fun h=>hne (by rw [ha];exact List.mem_of_mem_take h))]
  rw [ha,Int.toNat_natCast] at hc;exact hc
 have HAF:=Lib.hid ha
 rw [ha] at hF
 clear hL hne hc LX LL ha
 go_enter Tryz.func182,Tryz.ntmps182
 go_wp2
 go_loopw [5,8] (fun _ i wr=>∃ k:Nat,k≤m∧i=.int .i64 k∧Sep w0 wr (Γ.set j (.own 3 1 ql n cl (encI (tkR (c+1) (L.take k) X))))) (fun _ i _=>m - (intOf i).toNat)
 case atStart=>exact⟨0,Nat.zero_le _,rfl,by show Sep w0 w (Γ.set j (.own 3 1 ql n cl (encI X)));rw [e0];exact S⟩
 case round =>
  obtain⟨k,hk,rfl,S1⟩:=hrel
  obtain⟨az,a0,a1,a2⟩:=bklc0c1c2 (S1.blk i (set_ne hi hij))
  have po:=(S1.rd j (set_eq hj) (by omega)).ptr
  have pl:=(hp _ _ S1).ptr
  have pf:=(hf _ _ S1).ptr
  by_cases hlt:k<m
  ·have hkL:k<L.length:=by rw [LL'.out];exact hlt
   have g1:=(hp _ _ S1).cI hlt
   have g2:=(hf _ _ S1).cI hmf
   have g3:=(S1.rd j (set_eq hj) (by omega)).cI (k:=a) (by omega)
   rw [HA.out] at g3
   rw [HAF.out] at g2
   obtain⟨f1,f2⟩:=HL.out _ (nth_mem hkL)
   obtain⟨b,hb⟩:∃ b:Nat,nth L k=(b:Int):=⟨(nth L k).toNat,by omega⟩
   have HT:=Lib.hid (tkR_take (c:=c+1) (X:=X) hkL)
   rw [hb] at g1 f1 f2 HT
   rw [Int.toNat_natCast] at HT
   clear hb
   have d1:(0:Int)≤k:=by omega
   have d2:(k:Int)<m:=by omega
   have d3:(0:Int)<mf:=by omega
   have d4:(a:Int)<n:=by omega
   have d5:(0:Int)≤a:=by omega
   have SH:=Lib.hid S1;clear S1
   go_wp2
   have x1:=fun x:ExtOf wr=>x.ext.cell a1
   have x2:=fun x:ExtOf wr=>x.ext.cell a2
   have x4:=fun x:ExtOf wr=>x.ext.cell g2
   have x5:=fun x:ExtOf wr=>x.ext.cell g3
   refine wp_region_mix [true,true,true,true,true,true,true,true,true,true,true,true,true,true,true,true,true,true,true] (fun _ _ _=>True) (by kernel_rfl) (by kernel_rfl) (by kernel_rfl) (fun _ _ _ _ _ h=>h) ?_
   simp only [nfM]
   repeat (go_big_quiet_step ((fail)))
   refine wpQuiet_nil ⟨trivial,fun vs W1 hE _=>?_⟩
   have S2:=SH.out.call hE
   have po2:=(S2.rd j (set_eq hj) (by omega)).ptr
   have fz2:=own_frozen (S2.own j (set_eq hj)) (by omega) b
   have k1:=own_cell (S2.own j (set_eq hj)) (k:=b) (by omega)
   have S3:=Lib.hid (S2.setRow j (set_eq hj) b (by omega) (.int .i64 (c+1)))
   clear S2 x1 x2 x4 x5 g1 g2 g3 a0 a1 a2 az
   simp only [putM,List.length_cons,List.length_nil,Nat.zero_add,Nat.reduceAdd,List.drop_succ_cons,List.drop_zero]
   go_wp2
   go_roundw
   case rel=>exact⟨k+1,by omega,by go_num,by rw [HT.out,← encI_set];have:=S3.out;rw [List.set_set] at this;exact this⟩
   case measure=>simp [intOf];omega
  ·obtain rfl:k=m:=by omega
   rw [List.take_of_length_le (by rw [LL'.out];exact Nat.le_refl _)] at S1
   have fz0:=(S1.blk i (set_ne hi hij)).frozen 2
   have SH:=Lib.hid S1;clear S1
   go_wp2
   go_end0
   exact⟨⟨_,rfl⟩,SH.out.set i (set_ne hi hij) 2 (.slice qm k cm)⟩
end
section
open Go Go.RowKit
theorem bestG (fa fb gr ga gb n:Nat) (qa:Option Addr) (ca:Nat) (X:List Int) (pa:Option Addr) (ma da:Nat) (qb:Option Addr) (cb:Nat) (Y:List Int) (pb:Option Addr) (mb db:Nat) (w:World)
  (hA:Blk w ga 288 #[.func (.func fa) #[] #[.pointer (some ⟨gr,0,none⟩)],.slice qa n ca,.slice pa ma da]) (hB:Blk w gb 288 #[.func (.func fb) #[] #[.pointer (some ⟨gr,0,none⟩)],.slice qb n cb,.slice pb mb db]) (hX:Rd w 1 qa n (encI X)) (hY:Rd w 1 qb n (encI Y)) (hn:n≤200)
  (bX:∀ v,v<n→nth X v≤1000) (bY:∀ v,v<n→nth Y v≤1000) :
  Calls Tryz.prog 180 #[.agg #[.pointer (some ⟨ga,0,none⟩),.pointer (some ⟨gb,0,none⟩)]] w fun e w'=>e=.returned (.tuple #[.int .i64 (bestR X Y n).1,.bool (bestR X Y n).2])∧Ext w w':=by
 have p1:=hX.ptr
 have p2:=hY.ptr
 have S0:=Lib.hid ((Sep.start w).al #[.pointer (some ⟨ga,0,none⟩),.pointer (some ⟨gb,0,none⟩)] 160 w.heap.size rfl)
 have HA:=Lib.hid hA;clear hA
 have HB:=Lib.hid hB;clear hB
 have HX:=Lib.hid hX;clear hX
 have HY:=Lib.hid hY;clear hY
 have BX:=Lib.hid bX;clear bX
 have BY:=Lib.hid bY;clear bY
 have az:=(HA.out.ext S0.out.ext).lt;have a0:=(HA.out.ext S0.out.ext).cell 0;have a1:=(HA.out.ext S0.out.ext).cell 1;have a2:=(HA.out.ext S0.out.ext).cell 2
 obtain⟨c0,c1,cz⟩:=bkc0c1l (S0.out.blk 0 rfl)
 go_enter Tryz.func180,Tryz.ntmps180
 go_wp2
 go_loopw [4,5,6,7,8,15] (fun m o _ _ _ i wr=>∃ k:Nat,k≤n∧i=.int .i64 k∧m=.int .i64 (bestR X Y k).1∧o=.bool (bestR X Y k).2∧Sep w wr [.blk w.heap.size 160 #[.pointer (some ⟨ga,0,none⟩),.pointer (some ⟨gb,0,none⟩)]]) (fun _ _ _ _ _ i _=>n - (intOf i).toNat)
 case atStart=>exact⟨0,Nat.zero_le _,rfl,rfl,rfl,S0.out⟩
 case round =>
  clear S0 a0 a1 a2 az c0 c1 cz
  obtain⟨k,hk,rfl,rfl,rfl,S⟩:=hrel
  by_cases hlt:k<n
  ·have az:=(HA.out.ext S.ext).lt;have a0:=(HA.out.ext S.ext).cell 0;have a1:=(HA.out.ext S.ext).cell 1;have a2:=(HA.out.ext S.ext).cell 2
   have bz:=(HB.out.ext S.ext).lt;have b0:=(HB.out.ext S.ext).cell 0;have b1:=(HB.out.ext S.ext).cell 1;have b2:=(HB.out.ext S.ext).cell 2
   obtain⟨c0,c1,cz⟩:=bkc0c1l (S.blk 0 rfl)
   have g1:=S.ext.cell (HX.out.cI hlt)
   have g2:=S.ext.cell (HY.out.cI hlt)
   have HS:=Lib.hid (bestR_succ X Y k)
   have b1:=BX.out k hlt
   have b2:=BY.out k hlt
   unfold best1 at HS
   generalize bestR X Y k=s at *
   obtain⟨m,o⟩:=s
   simp only at HS ⊢
   generalize nth X k=x at *
   generalize nth Y k=y at *
   have d1:(0:Int)≤k:=by omega
   have d2:(k:Int)<n:=by omega
   have SH:=Lib.hid S;clear S
   by_cases hx:0≤x
   ·have e1:decide (0≤x)=true:=by simpa using hx
    by_cases hy:0≤y
    ·have e2:decide (0≤y)=true:=by simpa using hy
     cases o with
     | false =>
      rw [if_pos ⟨hx,hy,.inl rfl⟩] at HS
      go_wp2
      go_roundw
      case rel=>exact⟨k+1,by omega,by go_num,by rw [HS.out],by rw [HS.out],SH.out⟩
      case measure=>simp [intOf];omega
     | true =>
      by_cases hm:x+y<m
      ·have e3:decide (x+y<m)=true:=by simpa using hm
       rw [if_pos ⟨hx,hy,.inr hm⟩] at HS
       go_wp2
       go_roundw
       case rel=>exact⟨k+1,by omega,by go_num,by rw [HS.out],by rw [HS.out],SH.out⟩
       case measure=>simp [intOf];omega
      ·have e3:decide (x+y<m)=false:=by simpa using hm
       rw [if_neg (by rintro⟨_,_,h | h⟩;cases h;exact hm h)] at HS
       go_wp2
       go_roundw
       case rel=>exact⟨k+1,by omega,by go_num,by rw [HS.out],by rw [HS.out],SH.out⟩
       case measure=>simp [intOf];omega
    ·have e2:decide (0≤y)=false:=by simpa using hy
     rw [if_neg (fun h=>hy h.2.1)] at HS
     go_wp2
     go_roundw
     case rel=>exact⟨k+1,by omega,by go_num,by rw [HS.out],by rw [HS.out],SH.out⟩
     case measure=>simp [intOf];omega
   ·have e1:decide (0≤x)=false:=by simpa using hx
    rw [if_neg (fun h=>hx h.1)] at HS
    go_wp2
    go_roundw
    case rel=>exact⟨k+1,by omega,by go_num,by rw [HS.out],by rw [HS.out],SH.out⟩
    case measure=>simp [intOf];omega
  ·obtain rfl:k=n:=by omega
   have SH:=Lib.hid S;clear S
   go_wp2
   go_ret2
   exact⟨rfl,SH.out.ext⟩
end
section
open Go Go.RowKit
theorem Sep.freshMany {w0 w w':World} {Γ:List Pc} {e:TypeId} {size:Nat} {rows:List (Hd × List Value)} (S:Sep w0 w Γ) (h:Ext w w') (ho:∀ r∈rows,w'.ownsRow w.heap.size e size (.slice r.1.p r.1.n r.1.c) r.1.n r.2):Sep w0 w' (.many e size rows :: Γ) :=
 S.comp (Δ:=[.many e size rows]) ⟨h,fun p hp=>by rw [List.mem_singleton] at hp;subst hp;exact fun r hr=>own_base (ho r hr) (Nat.zero_le _),fun p hp k hk=>by
  rw [List.mem_singleton] at hp;subst hp
  obtain⟨r,hr,hk⟩:=hk
  exact(own_lt (ho r hr) hk).1,List.pairwise_singleton _ _⟩
theorem Sep.rdMany {w0 w:World} {Γ:List Pc} (S:Sep w0 w Γ) (j:Nat) {e:TypeId} {size:Nat} {rows:List (Hd × List Value)} (hj:Γ[j]?=some (.many e size rows)) {r:Hd × List Value} (hr:r∈rows) (hs:r.1.n≤9223372036854775807):Rd w size r.1.p r.1.n r.2:=Rd.of_own (S.manyAt j hj r hr) hs
section
variable {nx nb:Nat→List Int} {n s t:Nat} (h:Rev nx nb n) (hs:s<n) (ht:t<n)
include h hs ht in
theorem go_has {k:Nat} (h0:0≤lev nx n s t) (hm:meetB n (lev nx n s) (lev nb n t) k=false):hasL n (lev nx n s) ((k:Int)+1)=true∧hasL n (lev nb n t) ((k:Int)+1)=true∧2*(k:Int)<lev nx n s t:=by
 have h2:2*(k:Int)<lev nx n s t:=by
  have:=mt (meet_lev h hs ht (k:=k)).2 (by rw [hm];simp);omega
 refine⟨?_,?_,h2⟩
 ·obtain⟨v,hv,g1,_⟩:=lev_mid h hs ht (j:=k+1) h0 (by omega)
  exact hasL_iff.2 ⟨v,hv,by omega⟩
 ·obtain⟨v,hv,_,g1⟩:=lev_mid h hs ht (j:=(lev nx n s t).toNat - (k+1)) h0 (by omega)
  exact hasL_iff.2 ⟨v,hv,by omega⟩
end
def RunQ8 (b:Nat) (x y:List Int) (i:Nat) (v:Value) (W:World):Prop :=
 match i with
 | 2=>∃ q c,v=.slice q x.length c∧W.ownsRow b 3 1 (.slice q x.length c) x.length (encI x)
 | 5=>∃ q c,v=.slice q y.length c∧W.ownsRow b 3 1 (.slice q y.length c) y.length (encI y)
 | _=>True
theorem RunQ8_mono {b:Nat} {x y:List Int}:∀ i v W W',Ext W W'→RunQ8 b x y i v W→RunQ8 b x y i v W':=by
 intro i v W W' he h
 unfold RunQ8 at *
 split at h <;> first | trivial | (obtain⟨q,c,h1,h2⟩:=h;exact⟨q,c,h1,he.own h2⟩)
theorem runG (po:Option Addr) (no co:Nat) (O:List Int) (pt:Option Addr) (nt ct:Nat) (T:List Int) (pr:Option Addr) (nr cr:Nat) (R:List Int) (pv:Option Addr) (nv cv:Nat) (V:List Int) (gr ga gb n s t:Nat) (qa qb qfa0 qfb0:Option Addr) (w0 w:World) (hO:Rd w0 1 po no (encI O)) (hT:Rd w0 1 pt nt (encI T)) (hR:Rd w0 1 pr nr (encI R)) (hV:Rd w0 1 pv nv (encI V)) (hct:nt≤ct) (hcv:nv≤cv) (hck:checkR O T R V=true) (hno:O.length=n+1) (hs:s<n) (ht:t<n)
  (S:Sep w0 w [.blk gb 288 #[.func (.func 178) #[] #[.pointer (some ⟨gr,0,none⟩)],.slice qb n n,.slice qfb0 1 1],.own 3 1 qfb0 1 1 (encI [(t:Int)]),.own 3 1 qb n n (encI (bf0 n t)),.blk ga 288 #[.func (.func 177) #[] #[.pointer (some ⟨gr,0,none⟩)],.slice qa n n,.slice qfa0 1 1],.own 3 1 qfa0 1 1 (encI [(s:Int)]),.own 3 1 qa n n (encI (bf0 n s)),.blk gr 27 #[.slice po no co,.slice pt nt ct,.slice pr nr cr,.slice pv nv cv]]) :
  Calls Tryz.prog 113 #[.agg #[.pointer (some ⟨ga,0,none⟩),.pointer (some ⟨gb,0,none⟩)]] w fun e w'=>e=.returned (.tuple #[.int .i64 (stepsN n (lev (rowL O T) n s) (lev (rowL R V) n t)),.int .i64 (distN (lev (rowL O T) n s t)),.bool (distB (lev (rowL O T) n s t))])∧Ext w0 w':=by
 obtain⟨e1,e2,e3,e4⟩:=checkR_half hck
 have r3:=offB_parts (halfB_off e3)
 have hn:n≤200:=by omega
 have HREV:Hid (Rev (rowL O T) (rowL R V) n):=by have:=nxR_rev hck false;rw [hno] at this;exact this
 have HIA:Hid (InN (rowL O T) n):=by have:=row_in e3;rw [hno] at this;exact this
 have HIB:Hid (InN (rowL R V) n):=by have:=row_in e4;rw [← e1,hno] at this;exact this
 have HNA:=Lib.hid (fun W (h:Ext w0 W) (hB:Blk W gr 27 #[.slice po no co,.slice pt nt ct,.slice pr nr cr,.slice pv nv cv]) k (hk:k<n)=>open1Gr po no co O pt nt ct T pr nr cr R pv nv cv V gr k W (hO.ext h) (hT.ext h) (offOk_of (halfB_off e3)) hct (by omega) hB)
 have HNB:=Lib.hid (fun W (h:Ext w0 W) (hB:Blk W gr 27 #[.slice po no co,.slice pt nt ct,.slice pr nr cr,.slice pv nv cv]) k (hk:k<n)=>open2Gr po no co O pt nt ct T pr nr cr R pv nv cv V gr k W (hR.ext h) (hV.ext h) (offOk_of (halfB_off e4)) hcv (by omega) hB)
 have S0:=Lib.hid ((((((S.many0 3 1).pick [5,0,1,2,3,4,6,7] (by decide) rfl).gather).pick [2,0,1,3,4,5,6] (by decide) rfl).gather.al #[.pointer (some ⟨ga,0,none⟩),.pointer (some ⟨gb,0,none⟩)] 160 w.heap.size rfl).pick [1,2,3,4,5,6,0] (by decide) rfl)
 clear S hO hT hR hV hct hcv hck e1 e2 e3 e4 r3 hno
 have HSA:=cut_0 (nx:=rowL O T) hs
 have HSB:=cut_0 (nx:=rowL R V) ht
 generalize rowL O T=na at *
 generalize rowL R V=nb at *
 go_enter Tryz.func113,Tryz.ntmps113
 go_wp2
 go_step3
 go_wp2
 go_step3
 go_wp2
 go_loopw [2,3,4,5,6] (fun i _ _ _ _ wr=>∃ (k:Nat) (Fa Fb:List Int) (qfa qfb:Option Addr) (cfa cfb:Nat),k<n∧i=.int .i64 k∧IsFront (lev na n s) n k Fa∧IsFront (lev nb n t) n k Fb∧0<Fa.length∧0<Fb.length∧(0≤lev na n s t→2*(k:Int)≤lev na n s t+1)∧stepsK n (lev na n s) (lev nb n t) (n+1 - k) k=stepsN n (lev na n s) (lev nb n t)∧Sep w0 wr [.many 3 1 [(⟨qfa,Fa.length,cfa⟩,encI Fa),(⟨qfb,Fb.length,cfb⟩,encI Fb)],.blk gb 288 #[.func (.func 178) #[] #[.pointer (some ⟨gr,0,none⟩)],.slice qb n n,.slice qfb Fb.length cfb],.own 3 1 qb n n (encI (cutL (lev nb n t) n k)),.blk ga 288 #[.func (.func 177) #[] #[.pointer (some ⟨gr,0,none⟩)],.slice qa n n,.slice qfa Fa.length cfa],.own 3 1 qa n n (encI (cutL (lev na n s) n k)),.blk gr 27 #[.slice po no co,.slice pt nt ct,.slice pr nr cr,.slice pv nv cv],.blk w.heap.size 160 #[.pointer (some ⟨ga,0,none⟩),.pointer (some ⟨gb,0,none⟩)]]) (fun i _ _ _ _ _=>n - (intOf i).toNat)
 case atStart=>exact⟨0,[(s:Int)],[(t:Int)],qfa0,qfb0,1,1,by omega,rfl,front_0 hs,front_0 ht,by simp,by simp,fun h=>by omega,rfl,by rw [show ((0:Nat):Int)=0 from rfl,HSA,HSB];exact S0.out⟩
 case round =>
  clear S0
  obtain⟨k,Fa,Fb,qfa,qfb,cfa,cfb,hkn,rfl,hFa,hFb,la,lb,hD,hst,S⟩:=hrel
  have RFA:=S.rdMany 0 rfl (r:=(⟨qfa,Fa.length,cfa⟩,encI Fa)) (by simp) (by have:=nodup_small (n:=n) hFa.1 (fun x hx=>by have:=(hFa.2 x).1 hx;omega);simp only;omega)
  have RFB:=S.rdMany 0 rfl (r:=(⟨qfb,Fb.length,cfb⟩,encI Fb)) (by simp) (by have:=nodup_small (n:=n) hFb.1 (fun x hx=>by have:=(hFb.2 x).1 hx;omega);simp only;omega)
  have lfa:=nodup_small (n:=n) hFa.1 (fun x hx=>by have:=(hFa.2 x).1 hx;omega)
  have lfb:=nodup_small (n:=n) hFb.1 (fun x hx=>by have:=(hFb.2 x).1 hx;omega)
  have HBest:=Lib.hid (bestG 177 178 gr ga gb n qa n (cutL (lev na n s) n k) qfa Fa.length cfa qb n (cutL (lev nb n t) n k) qfb Fb.length cfb wr (S.blk 3 rfl) (S.blk 1 rfl) (S.rd 4 rfl (by omega)) (S.rd 2 rfl (by omega)) hn
   (fun v hv=>by rw [cutL_nth hv];unfold cut;split <;> omega) (fun v hv=>by rw [cutL_nth hv];unfold cut;split <;> omega))
  obtain⟨BY,BN⟩:=best_lev HREV.out hs ht hD
  obtain⟨pz,p0,p1⟩:=bklc0c1 (S.blk 6 rfl)
  cases hm:meetB n (lev na n s) (lev nb n t) k with
  | true =>
   rw [BY hm] at HBest
   have hd:=(meet_lev HREV.out hs ht).1 hm
   have hdn:Hid (distN (lev na n s t)=lev na n s t∧distB (lev na n s t)=true):=by
    unfold Hid distN distB;rw [if_pos hd.1];exact⟨rfl,by simpa using hd.1⟩
   have hst2:Hid (stepsN n (lev na n s) (lev nb n t)=k):=by
    unfold Hid
    rw [← hst,show n+1 - k=(n - k)+1 by omega];exact stepsK_meet hm
   obtain⟨D,hDe⟩:∃ D,D=lev na n s t:=⟨_,rfl⟩
   rw [← hDe] at HBest
   have hDe':=Lib.hid hDe
   have SH:=Lib.hid S;clear S
   clear BY BN hD hst hm hd hFa hFb la lb RFA RFB lfa lfb HNA HNB HREV HIA HIB HSA HSB hDe
   go_wp2_with (go_at_call 180;go_must (refine HBest.out.mono ?_;rintro e w1 ⟨rfl,hb⟩;have S1:=Lib.hid (SH.out.call hb);clear hb))
   rw [Exit.noGoto_ret]
   go_ret3
   exact⟨by rw [hst2.out,hdn.out.1,hdn.out.2,← hDe'.out];rfl,S1.out.ext⟩
  | false =>
   rw [BN hm] at HBest
   have HX:=Lib.hid (front_next hs HIA.out hFa (X:=cutL (lev na n s) n k) (fun v hv=>by rw [cutL_nth hv];exact cut_lt))
   have HY:=Lib.hid (front_next ht HIB.out hFb (X:=cutL (lev nb n t) n k) (fun v hv=>by rw [cutL_nth hv];exact cut_lt))
   have hm':=Lib.hid hm
   have hst':=Lib.hid hst
   have hD':=Lib.hid hD
   have BA:=Lib.hid (fun x hx=>⟨((hFa.2 x).1 hx).1,((hFa.2 x).1 hx).2.1⟩:∀ x∈Fa,0≤x∧x<n)
   have BB:=Lib.hid (fun x hx=>⟨((hFb.2 x).1 hx).1,((hFb.2 x).1 hx).2.1⟩:∀ x∈Fb,0≤x∧x<n)
   have FAH:=Lib.hid hFa
   have FBH:=Lib.hid hFb
   have SH:=Lib.hid S;clear S
   clear BY BN hD hst hm hFa hFb RFA RFB HSA HSB
   go_wp2_with (go_at_call 180;go_must (refine HBest.out.mono ?_;rintro e w1 ⟨rfl,hb⟩;have S1:=Lib.hid (SH.out.call hb);clear hb))
   have HA1:=Lib.hid (fun W (h:Ext w1 W)=>ahead1 ga gr n qa n (cutL (lev na n s) n k) qfa Fa.length cfa Fa na W ((S1.out.blk 3 rfl).ext h) ((S1.out.rd 4 rfl (by omega)).ext h) ((S1.out.rdMany 0 rfl (r:=(⟨qfa,Fa.length,cfa⟩,encI Fa)) (by simp) (by simp only;omega)).ext h) hn BA.out HIA.out (HNA.out W (Ext.trans S1.out.ext h) ((S1.out.blk 5 rfl).ext h)))
   have HA2:=Lib.hid (fun W (h:Ext w1 W)=>ahead2 gb gr n qb n (cutL (lev nb n t) n k) qfb Fb.length cfb Fb nb W ((S1.out.blk 1 rfl).ext h) ((S1.out.rd 2 rfl (by omega)).ext h) ((S1.out.rdMany 0 rfl (r:=(⟨qfb,Fb.length,cfb⟩,encI Fb)) (by simp) (by simp only;omega)).ext h) hn BB.out HIB.out (HNB.out W (Ext.trans S1.out.ext h) ((S1.out.blk 5 rfl).ext h)))
   generalize ahF na (cutL (lev na n s) n k) Fa []=x at *
   generalize ahF nb (cutL (lev nb n t) n k) Fb []=y at *
   have lx:=nodup_small (n:=n) HX.out.1 (fun v hv=>by have:=(HX.out.2 v).1 hv;omega)
   have ly:=nodup_small (n:=n) HY.out.1 (fun v hv=>by have:=(HY.out.2 v).1 hv;omega)
   obtain⟨q0,q1⟩:=bkc0c1 (S1.out.blk 6 rfl)
   clear HBest SH
   have y0:=fun x:ExtOf w1=>x.ext.cell q0
   have y1:=fun x:ExtOf w1=>x.ext.cell q1
   refine wp_region_mix [true,true,false,true,true,false] (RunQ8 w1.heap.size x y) (by kernel_rfl) (by kernel_rfl) (by kernel_rfl) RunQ8_mono ?_
   simp only [nfM]
   repeat (go_big_quiet_step ((fail)))
   refine wpQuiet_nil ⟨⟨fun vs W1 hE hd=>?_,fun vs W1 hE hd=>?_,trivial⟩,fun vs W1 hE hkn=>?_⟩
   ·simp [putM,go_sem]
    exact(HA1.out _ hE).mono fun e w' ⟨q,c,h1,S⟩=>⟨_,h1,⟨q,c,rfl,own_base (S.own 0 rfl) hE.size⟩,S.ext⟩
   ·simp [putM,go_sem]
    exact(HA2.out _ hE).mono fun e w' ⟨q,c,h1,S⟩=>⟨_,h1,⟨q,c,rfl,own_base (S.own 0 rfl) hE.size⟩,S.ext⟩
   obtain⟨⟨qx,cx,k1,ox⟩,⟨qy,cy,k2,oy⟩,_⟩:=hkn
   have S2:=Lib.hid (S1.out.freshMany hE (rows:=[(⟨qx,x.length,cx⟩,encI x),(⟨qy,y.length,cy⟩,encI y)]) (fun r hr=>by
    simp only [List.mem_cons,List.not_mem_nil,or_false] at hr
    rcases hr with rfl | rfl
    ·exact ox
    ·exact oy))
   simp only [putM,k1,k2,List.length_cons,List.length_nil,Nat.zero_add,Nat.reduceAdd,List.drop_succ_cons,List.drop_zero]
   clear y0 y1 k1 k2 ox oy hE q0 q1 HA1 HA2 S1
   obtain⟨r0,r1,rz⟩:=bkc0c1l (S2.out.blk 7 rfl)
   have HEND:Hid (x.length=0∨y.length=0→stepsN n (lev na n s) (lev nb n t)=k∧distN (lev na n s t)=0∧distB (lev na n s t)=false):=fun h0=>by
    have hno:¬ (hasL n (lev na n s) ((k:Int)+1)=true∧hasL n (lev nb n t) ((k:Int)+1)=true):=by
     rintro⟨g1,g2⟩
     have g1:=(front_has HX.out).1 g1
     have g2:=(front_has HY.out).1 g2
     omega
    have hneg:lev na n s t<0:=by
     apply Classical.byContradiction
     intro hge
     have:=go_has HREV.out hs ht (by omega) hm'.out
     exact hno ⟨this.1,this.2.1⟩
    refine⟨?_,?_,?_⟩
    ·have h1:=hst'.out
     rw [show n+1 - k=(n - k)+1 by omega,stepsK_end hm'.out hno] at h1
     exact h1.symm
    ·unfold distN;rw [if_neg (by omega)]
    ·unfold distB;simp;omega
   by_cases hx0:x.length=0
   ·have c1:((x.length:Int) == 0)=true:=by simp [hx0]
    have HE:=Lib.hid (HEND.out (.inl hx0))
    go_wp2
    rw [Exit.noGoto_ret]
    go_ret3
    exact⟨by rw [HE.out.1,HE.out.2.1,HE.out.2.2];rfl,S2.out.ext⟩
   ·have c1:((x.length:Int) == 0)=false:=by rw [beq_eq_false_iff_ne];omega
    by_cases hy0:y.length=0
    ·have c2:((y.length:Int) == 0)=true:=by simp [hy0]
     have HE:=Lib.hid (HEND.out (.inr hy0))
     go_wp2
     rw [Exit.noGoto_ret]
     go_ret3
     exact⟨by rw [HE.out.1,HE.out.2.1,HE.out.2.2];rfl,S2.out.ext⟩
    ·have c2:((y.length:Int) == 0)=false:=by rw [beq_eq_false_iff_ne];omega
     clear HEND
     have hfa0:=(FAH.out.2 _).1 (nth_mem (l:=Fa) (k:=0) la)
     have hfb0:=(FBH.out.2 _).1 (nth_mem (l:=Fb) (k:=0) lb)
     have HTA:=Lib.hid (take_cut HX.out)
     have HTB:=Lib.hid (take_cut HY.out)
     have T1:=Lib.hid (takeG 4 5 ga 177 gr n qa n (cutL (lev na n s) n k) qfa Fa.length cfa Fa qx x.length cx x S2.out (by decide) rfl rfl
      (fun W Y S=>S.rdMany 1 rfl (r:=(⟨qfa,Fa.length,cfa⟩,encI Fa)) (by simp) (by simp only;omega))
      (fun W Y S=>S.rdMany 0 rfl (r:=(⟨qx,x.length,cx⟩,encI x)) (by simp) (by simp only;omega))
      hn la (by omega) (by omega) ⟨hfa0.1,hfa0.2.1⟩ (fun v hv=>⟨((HX.out.2 v).1 hv).1,((HX.out.2 v).1 hv).2.1⟩) (fun h=>by have:=((HX.out.2 _).1 h).2.2;omega)
      (k:Int) (by rw [cutL_nth (by omega)];unfold cut;rw [if_pos (by omega)];exact hfa0.2.2) (by omega))
     rw [HTA.out] at T1
     have T2:=Lib.hid (fun (w2:World) (S:Sep w0 w2 [.many 3 1 [(⟨qx,x.length,cx⟩,encI x),(⟨qy,y.length,cy⟩,encI y)],.many 3 1 [(⟨qfa,Fa.length,cfa⟩,encI Fa),(⟨qfb,Fb.length,cfb⟩,encI Fb)],.blk gb 288 #[.func (.func 178) #[] #[.pointer (some ⟨gr,0,none⟩)],.slice qb n n,.slice qfb Fb.length cfb],.own 3 1 qb n n (encI (cutL (lev nb n t) n k)),.blk ga 288 #[.func (.func 177) #[] #[.pointer (some ⟨gr,0,none⟩)],.slice qa n n,.slice qx x.length cx],.own 3 1 qa n n (encI (cutL (lev na n s) n (k+1:Nat))),.blk gr 27 #[.slice po no co,.slice pt nt ct,.slice pr nr cr,.slice pv nv cv],.blk w.heap.size 160 #[.pointer (some ⟨ga,0,none⟩),.pointer (some ⟨gb,0,none⟩)]]) =>
      takeG 2 3 gb 178 gr n qb n (cutL (lev nb n t) n k) qfb Fb.length cfb Fb qy y.length cy y S (by decide) rfl rfl
      (fun W Y S=>S.rdMany 1 rfl (r:=(⟨qfb,Fb.length,cfb⟩,encI Fb)) (by simp) (by simp only;omega))
      (fun W Y S=>S.rdMany 0 rfl (r:=(⟨qy,y.length,cy⟩,encI y)) (by simp) (by simp only;omega))
      hn lb (by omega) (by omega) ⟨hfb0.1,hfb0.2.1⟩ (fun v hv=>⟨((HY.out.2 v).1 hv).1,((HY.out.2 v).1 hv).2.1⟩) (fun h=>by have:=((HY.out.2 _).1 h).2.2;omega)
      (k:Int) (by rw [cutL_nth (by omega)];unfold cut;rw [if_pos (by omega)];exact hfb0.2.2) (by omega))
     rw [HTB.out] at T2
     clear HTA HTB hfa0 hfb0
     have hk1:k+1<n:=has_lt hs ((front_has HX.out).2 (by omega))
     have HDD:Hid (0≤lev na n s t→2*((k+1:Nat):Int)≤lev na n s t+1):=fun h0=>by
      have:=(go_has HREV.out hs ht h0 hm'.out).2.2;omega
     have HSS:Hid (stepsK n (lev na n s) (lev nb n t) (n+1 - (k+1)) (k+1)=stepsN n (lev na n s) (lev nb n t)):=by
      unfold Hid
      rw [← hst'.out,show n+1 - k=(n - k)+1 by omega,show n+1 - (k+1)=n - k by omega]
      exact(stepsK_go hm'.out ⟨(front_has HX.out).2 (by omega),(front_has HY.out).2 (by omega)⟩).symm
     go_wp2_with (first
      | (go_at_call 182;have _t:=S3;go_must (refine(T2.out _ S3.out).mono ?_;rintro e w3 ⟨⟨v2,rfl⟩,Z⟩;have S4:=Lib.hid ((Z.pick [0,2,3,4,5,6,7] (by decide) rfl):Sep w0 w3 [.many 3 1 [(⟨qx,x.length,cx⟩,encI x),(⟨qy,y.length,cy⟩,encI y)],.blk gb 288 #[.func (.func 178) #[] #[.pointer (some ⟨gr,0,none⟩)],.slice qb n n,.slice qy y.length cy],.own 3 1 qb n n (encI (cutL (lev nb n t) n (k+1:Nat))),.blk ga 288 #[.func (.func 177) #[] #[.pointer (some ⟨gr,0,none⟩)],.slice qa n n,.slice qx x.length cx],.own 3 1 qa n n (encI (cutL (lev na n s) n (k+1:Nat))),.blk gr 27 #[.slice po no co,.slice pt nt ct,.slice pr nr cr,.slice pv nv cv],.blk w.heap.size 160 #[.pointer (some ⟨ga,0,none⟩),.pointer (some ⟨gb,0,none⟩)]]);clear Z))
      | (go_at_call 182;go_must (refine T1.out.mono ?_;rintro e w2 ⟨⟨v1,rfl⟩,Z⟩;have S3:=Lib.hid (Z:Sep w0 w2 [.many 3 1 [(⟨qx,x.length,cx⟩,encI x),(⟨qy,y.length,cy⟩,encI y)],.many 3 1 [(⟨qfa,Fa.length,cfa⟩,encI Fa),(⟨qfb,Fb.length,cfb⟩,encI Fb)],.blk gb 288 #[.func (.func 178) #[] #[.pointer (some ⟨gr,0,none⟩)],.slice qb n n,.slice qfb Fb.length cfb],.own 3 1 qb n n (encI (cutL (lev nb n t) n k)),.blk ga 288 #[.func (.func 177) #[] #[.pointer (some ⟨gr,0,none⟩)],.slice qa n n,.slice qx x.length cx],.own 3 1 qa n n (encI (cutL (lev na n s) n (k+1:Nat))),.blk gr 27 #[.slice po no co,.slice pt nt ct,.slice pr nr cr,.slice pv nv cv],.blk w.heap.size 160 #[.pointer (some ⟨ga,0,none⟩),.pointer (some ⟨gb,0,none⟩)]]);obtain⟨q0,q1,qz⟩:=bkc0c1l (S3.out.blk 7 rfl);clear Z)))
     go_roundw
     case rel=>exact⟨k+1,x,y,qx,qy,cx,cy,hk1,by go_num,HX.out,HY.out,by omega,by omega,HDD.out,HSS.out,S4.out⟩
     case measure=>simp [intOf];omega
end
section
open Go Go.RowKit
theorem openG_yes (po:Option Addr) (no co:Nat) (O:List Int) (pt:Option Addr) (nt ct:Nat) (T:List Int) (pr:Option Addr) (nr cr:Nat) (R:List Int) (pv:Option Addr) (nv cv:Nat) (V:List Int) (n s t:Nat) (w:World) (hO:Rd w 1 po no (encI O)) (hT:Rd w 1 pt nt (encI T)) (hR:Rd w 1 pr nr (encI R)) (hV:Rd w 1 pv nv (encI V)) (hct:nt≤ct) (hcv:nv≤cv) (hck:checkR O T R V=true) (hno:O.length=n+1) (hs:s<n) (ht:t<n) :
  Calls Tryz.prog 112 #[.agg #[.slice po no co,.slice pt nt ct,.slice pr nr cr,.slice pv nv cv],.int .i64 s,.int .i64 t] w fun e w'=>∃ gr ga gb qa qb qfa0 qfb0,e=.returned (.tuple #[.agg #[.pointer (some ⟨ga,0,none⟩),.pointer (some ⟨gb,0,none⟩)],.int .i64 0]) ∧
   Sep w w' [.blk gb 288 #[.func (.func 178) #[] #[.pointer (some ⟨gr,0,none⟩)],.slice qb n n,.slice qfb0 1 1],.own 3 1 qfb0 1 1 (encI [(t:Int)]),.own 3 1 qb n n (encI (bf0 n t)),.blk ga 288 #[.func (.func 177) #[] #[.pointer (some ⟨gr,0,none⟩)],.slice qa n n,.slice qfa0 1 1],.own 3 1 qfa0 1 1 (encI [(s:Int)]),.own 3 1 qa n n (encI (bf0 n s)),.blk gr 27 #[.slice po no co,.slice pt nt ct,.slice pr nr cr,.slice pv nv cv]]:=by
 have S0:=Lib.hid (((Sep.start w).al #[.slice po no co,.slice pt nt ct,.slice pr nr cr,.slice pv nv cv] 27 w.heap.size rfl).al #[.pointer none,.pointer none] 160 (w.heap.size+1) (by simp))
 have HC:=Lib.hid (fun W1 (h:Ext w W1)=>CheckR po no co O pt nt ct T pr nr cr R pv nv cv V W1 (hO.ext h) (hT.ext h) (hR.ext h) (hV.ext h) hct hcv)
 have l1:=hO.nI
 have r:=offB_parts (halfB_off (checkR_half hck).2.2.1)
 have hn:n≤200:=by omega
 rw [hck] at HC
 have hno2:(no:Int)=(n:Int)+1:=by omega
 obtain rfl:no=n+1:=by omega
 have d1:decide ((s:Int)<0)=false:=by simp
 have d2:decide ((n:Int)≤s)=false:=by simp;omega
 have d3:decide ((t:Int)<0)=false:=by simp
 have d4:decide ((n:Int)≤t)=false:=by simp;omega
 have d5:decide (n≤s)=false:=by simp;omega
 have d6:decide (n≤t)=false:=by simp;omega
 have HB1:=Lib.hid (fun W=>beginG 177 w.heap.size n s W hs hn)
 have HB2:=Lib.hid (fun W=>beginG 178 w.heap.size n t W ht hn)
 clear hO hT hR hV hck l1 r hno hno2
 go_enter Tryz.func112,Tryz.ntmps112
 go_wp2_with (first
  | (go_at_call 179;have _t:=S2;go_must (refine(HB2.out _).mono ?_;rintro e w3 ⟨gb,qb,qfb0,rfl,Z⟩;have S3:=Lib.hid (S2.out.comp Z);obtain⟨qz,q0,q1,qf,qg⟩:=bklc0c1z0z1 (S3.out.blk 6 rfl);clear Z))
  | (go_at_call 179;have _t:=S1;go_must (refine(HB1.out _).mono ?_;rintro e w2 ⟨ga,qa,qfa0,rfl,Z⟩;have S2:=Lib.hid (S1.out.comp Z);clear Z))
  | (go_at_call 82;go_must (refine(HC.out _ S0.out.ext).mono ?_;rintro e w1 ⟨rfl,hb⟩;have S1:=Lib.hid (S0.out.call hb);clear hb)))
 have S7:=((S3.out.set 6 rfl 0 (.pointer (some ⟨ga,0,none⟩))).set 6 rfl 1 (.pointer (some ⟨gb,0,none⟩)))
 obtain⟨b0,b1⟩:=bkc0c1 (S7.blk 6 rfl)
 refine bodyPost_ret (v:=.tuple #[.agg #[.pointer (some ⟨ga,0,none⟩),.pointer (some ⟨gb,0,none⟩)],.int .i64 0]) (by simp [results,Tryz.results112,go_sem,b0,b1,Tryz.sizeOf160,Tryz.isAgg160]) rfl ⟨w.heap.size,ga,gb,qa,qb,qfa0,qfb0,rfl,?_⟩
 exact S7.pick [0,1,2,3,4,5,7] (by decide) rfl
end
section
open Go Go.RowKit
theorem DistG_yes (po:Option Addr) (no co:Nat) (O:List Int) (pt:Option Addr) (nt ct:Nat) (T:List Int) (pr:Option Addr) (nr cr:Nat) (R:List Int) (pv:Option Addr) (nv cv:Nat) (V:List Int) (n s t:Nat) (w:World) (hO:Rd w 1 po no (encI O)) (hT:Rd w 1 pt nt (encI T)) (hR:Rd w 1 pr nr (encI R)) (hV:Rd w 1 pv nv (encI V)) (hct:nt≤ct) (hcv:nv≤cv) (hck:checkR O T R V=true) (hno:O.length=n+1) (hs:s<n) (ht:t<n) :
  Calls Tryz.prog 67 #[.agg #[.slice po no co,.slice pt nt ct,.slice pr nr cr,.slice pv nv cv],.int .i64 s,.int .i64 t] w fun e w'=>e=.returned (.tuple #[.int .i64 (distN (lev (rowL O T) n s t)),.bool (distB (lev (rowL O T) n s t)),.int .i64 0])∧Ext w w':=by
 have HO:=Lib.hid (fun W1 (h:Ext w W1)=>openG_yes po no co O pt nt ct T pr nr cr R pv nv cv V n s t W1 (hO.ext h) (hT.ext h) (hR.ext h) (hV.ext h) hct hcv hck hno hs ht)
 have S0:=Lib.hid ((Sep.start w).al #[.slice po no co,.slice pt nt ct,.slice pr nr cr,.slice pv nv cv] 27 w.heap.size rfl)
 have HRUN:=Lib.hid (fun gr ga gb qa qb qfa0 qfb0 W1 S=>runG po no co O pt nt ct T pr nr cr R pv nv cv V gr ga gb n s t qa qb qfa0 qfb0 w W1 hO hT hR hV hct hcv hck hno hs ht S)
 clear hO hT hR hV hck hno
 go_enter Tryz.func67,Tryz.ntmps67
 go_wp2_with (first
  | (go_at_call 113;go_must (refine(HRUN.out gr ga gb qa qb qfa0 qfb0 _ ((S1.out.al #[.pointer (some ⟨ga,0,none⟩),.pointer (some ⟨gb,0,none⟩)] 160 w1.heap.size rfl).pick [1,2,3,4,5,6,7] (by decide) rfl)).mono ?_;rintro e w2 ⟨rfl,hb⟩;have HB:=Lib.hid hb;clear hb))
  | (go_at_call 112;go_must (refine(HO.out _ S0.out.ext).mono ?_;rintro e w1 ⟨gr,ga,gb,qa,qb,qfa0,qfb0,rfl,Z⟩;have S1:=Lib.hid (S0.out.comp Z);clear Z)))
 go_ret3
 exact⟨rfl,HB.out⟩
end
section
open Go Go.RowKit
def AskA (O T R V:List Int) (L:List Po) (k f t:Int) (ws:List ByteArray) (rad most:Int) (b:Bool) (d:Int) (F:List (Int × Int)):Prop :=
 (k=1→b=distB (lev (rowL O T) (O.length - 1) f.toNat t.toNat)∧d=distN (lev (rowL O T) (O.length - 1) f.toNat t.toNat)∧F=[])∧(k=2→b=distB (lev (rowL O T) (O.length - 1) f.toNat t.toNat)∧d=0∧F=[])∧(k=3→F=firstN (nearR true O T R V f L ws rad) most∧b=decide (0<F.length)∧d=0)
def AskS (O T R V:List Int) (L:List Po) (k f t:Int) (ws:List ByteArray) (rad most:Int) (b:Bool) (d:Int) (F:List (Int × Int)) (e:Int):Prop :=
 e=chkJ (checkR O T R V) k f t ws rad most O.length∧(e≠0→b=false∧d=0∧F=[])∧(e=0→AskA O T R V L k f t ws rad most b d F)
theorem chkJ_facts {O T R V:List Int} {k f t rad most:Int} {ws:List ByteArray} (h:chkJ (checkR O T R V) k f t ws rad most O.length=0) :
  checkR O T R V=true∧chkQ k f t ws rad most ((O.length:Int) - 1)=0∧∃ n,O.length=n+1∧0≤f∧f<n ∧
   ((k=1∨k=2)∧0≤t∧t<n∨k=3∧1≤ws.length∧ws.length≤8∧0≤rad∧rad≤200∧1≤most∧most≤100):=by
 have hck:checkR O T R V=true:=by
  cases hc:checkR O T R V with
  | true=>rfl
  | false=>rw [hc] at h;unfold chkJ at h;rw [if_neg (by simp)] at h;cases h
 have hq:chkQ k f t ws rad most ((O.length:Int) - 1)=0:=by rw [hck] at h;unfold chkJ at h;rw [if_pos rfl] at h;exact h
 obtain⟨n,hn⟩:∃ n,O.length=n+1:=by
  obtain⟨e1,e2,e3,e4⟩:=checkR_half hck
  obtain⟨r1,r2,r3,r4,r5,r6⟩:=offB_parts (halfB_off e3)
  exact⟨O.length - 1,by omega⟩
 refine⟨hck,hq,n,hn,?_⟩
 have ho:=chkQ_zero.1 hq
 by_cases h12:k=1∨k=2
 ·rw [okQ_12 h12,Bool.and_eq_true] at ho
  obtain⟨o1,o2⟩:=ho
  rw [plcB_iff] at o1 o2
  exact⟨by omega,by omega,.inl ⟨h12,by omega,by omega⟩⟩
 ·by_cases h3:k=3
  ·subst h3
   rw [okQ_3,Bool.and_eq_true,Bool.and_eq_true] at ho
   obtain⟨⟨o1,o2⟩,o3⟩:=ho
   rw [plcB_iff] at o1
   unfold manyB at o2
   unfold numB at o3
   simp only [Bool.and_eq_true,decide_eq_true_eq] at o2 o3
   exact⟨by omega,by omega,.inr ⟨rfl,by omega,by omega,by omega,by omega,by omega,by omega⟩⟩
  ·rw [okQ_else h12 h3] at ho
   cases ho
end
section
open Go Go.RowKit
theorem askFarCl (po:Option Addr) (no co:Nat) (O:List Int) (pt:Option Addr) (nt ct:Nat) (T:List Int) (pr:Option Addr) (nr cr:Nat) (R:List Int) (pv:Option Addr) (nv cv:Nat) (V:List Int) (n s t gb:Nat) (w:World) (hO:Rd w 1 po no (encI O)) (hT:Rd w 1 pt nt (encI T)) (hR:Rd w 1 pr nr (encI R)) (hV:Rd w 1 pv nv (encI V)) (hct:nt≤ct) (hcv:nv≤cv) (hB:Blk w gb 27 #[.slice po no co,.slice pt nt ct,.slice pr nr cr,.slice pv nv cv]) (hck:checkR O T R V=true) (hn:O.length=n+1) (hs:s<n) (ht:t<n) :
  Calls Tryz.prog 66 #[.int .i64 s,.int .i64 t,.pointer (some ⟨gb,0,none⟩)] w fun e w'=>e=.returned (.tuple #[.int .i64 (distN (lev (rowL O T) n s t)),.bool (distB (lev (rowL O T) n s t)),.int .i64 0])∧Ext w w':=by
 have HD:=Lib.hid (DistG_yes po no co O pt nt ct T pr nr cr R pv nv cv V n s t w hO hT hR hV hct hcv hck hn hs ht)
 have b0:=hB.cell 0;have b1:=hB.cell 1;have b2:=hB.cell 2;have b3:=hB.cell 3;have bz:=hB.lt
 clear hB hO hT hR hV
 generalize lev (rowL O T) n s t=X at *
 go_enter Tryz.func66,Tryz.ntmps66
 go_wp2_with (go_at_call 67;go_must (refine HD.out.mono ?_;rintro e w1 ⟨rfl,hb⟩;have HB:=Lib.hid hb;clear hb))
 go_ret3
 exact⟨rfl,HB.out⟩
theorem AskErr (k f t:Int) (pw:Option Addr) (nw cw:Nat) (_:List ByteArray) (rad most:Int) (po:Option Addr) (no co:Nat) (_:List Int) (pt:Option Addr) (nt ct:Nat) (_:List Int) (pr:Option Addr) (nr cr:Nat) (_:List Int) (pv:Option Addr) (nv cv:Nat) (_:List Int) (pl:Option Addr) (nl cl:Nat) (E:Int) (w:World) (hE:E≠0)
  (HCK:∀ W,Ext w W→Calls Tryz.prog 49 #[.agg #[.int .i64 k,.int .i64 f,.int .i64 t,.slice pw nw cw,.int .i64 rad,.int .i64 most],.agg #[.slice po no co,.slice pt nt ct,.slice pr nr cr,.slice pv nv cv]] W fun e w'=>e=.returned (.int .i64 E)∧Ext W w') :
  Calls Tryz.prog 40 #[.agg #[.int .i64 k,.int .i64 f,.int .i64 t,.slice pw nw cw,.int .i64 rad,.int .i64 most],.agg #[.slice po no co,.slice pt nt ct,.slice pr nr cr,.slice pv nv cv],.slice pl nl cl] w (AnsQ false 0 [] E w):=by
 have S0:=Lib.hid (((((Sep.start w).al #[.int .i64 k,.int .i64 f,.int .i64 t,.slice pw nw cw,.int .i64 rad,.int .i64 most] 24 w.heap.size rfl).al #[.slice po no co,.slice pt nt ct,.slice pr nr cr,.slice pv nv cv] 27 (w.heap.size+1) (by simp)).al #[.slice pl nl cl] 28 (w.heap.size+1+1) (by simp)).al #[.bool false,.int .i64 0,.slice none 0 0] 34 (w.heap.size+1+1+1) (by simp))
 have HCJ:=Lib.hid HCK
 have d1:decide (E=0)=false:=by simpa using hE
 have d2:(E == 0)=false:=by simpa using hE
 clear hE HCK
 go_enter Tryz.func40,Tryz.ntmps40
 go_wp2_with (go_at_call 49;go_must (refine(HCJ.out _ S0.out.ext).mono ?_;rintro e w1 ⟨rfl,hb⟩;have S1:=Lib.hid (S0.out.call hb);obtain⟨y0,y1,y2,yz,f0,f1,f2⟩:=bkc0c1c2lz0z1z2 (S1.out.blk 0 rfl);obtain⟨a0,a1,a2,a3,a4,a5,az⟩:=bkc0c1c2c3c4c5l (S1.out.blk 3 rfl);clear hb))
 have S9:=Lib.hid (((S1.out.set 0 rfl 0 (.bool false)).set 0 rfl 1 (.int .i64 0)).set 0 rfl 2 (.slice none 0 0))
 obtain⟨x0,x1,x2⟩:=bkc0c1c2 (S9.out.blk 0 rfl)
 refine bodyPost_ret (v:=.tuple #[.agg #[.bool false,.int .i64 0,.slice none 0 0],.int .i64 E]) (by simp [results,Tryz.results40,go_sem,x0,x1,x2,Tryz.sizeOf34,Tryz.isAgg34]) rfl ?_
 exact ansQ_nil rfl S9.out.ext
theorem AskK (k f t:Int) (pw:Option Addr) (nw cw:Nat) (rad most:Int) (po:Option Addr) (no co:Nat) (_:List Int) (pt:Option Addr) (nt ct:Nat) (_:List Int) (pr:Option Addr) (nr cr:Nat) (_:List Int) (pv:Option Addr) (nv cv:Nat) (_:List Int) (pl:Option Addr) (nl cl:Nat) (b:Bool) (d:Int) (F:List (Int × Int)) (w:World) (HCK:∀ W,Ext w W→Calls Tryz.prog 49 #[.agg #[.int .i64 k,.int .i64 f,.int .i64 t,.slice pw nw cw,.int .i64 rad,.int .i64 most],.agg #[.slice po no co,.slice pt nt ct,.slice pr nr cr,.slice pv nv cv]] W fun e w'=>e=.returned (.int .i64 0)∧Ext W w')
  (HM:∀ W,Ext w W→Blk W (w.heap.size+1) 27 #[.slice po no co,.slice pt nt ct,.slice pr nr cr,.slice pv nv cv]→Blk W (w.heap.size+1+1) 28 #[.slice pl nl cl]→Calls Tryz.prog 70 #[.agg #[.int .i64 k,.int .i64 f,.int .i64 t,.slice pw nw cw,.int .i64 rad,.int .i64 most,.func (.func 66) #[] #[.pointer (some ⟨w.heap.size+1,0,none⟩)],(.func (.func 68) #[] #[.pointer (some ⟨w.heap.size+1,0,none⟩),.pointer (some ⟨w.heap.size+1+1,0,none⟩)])]] W (AnsQ b d F 0 W)):Calls Tryz.prog 40 #[.agg #[.int .i64 k,.int .i64 f,.int .i64 t,.slice pw nw cw,.int .i64 rad,.int .i64 most],.agg #[.slice po no co,.slice pt nt ct,.slice pr nr cr,.slice pv nv cv],.slice pl nl cl] w (AnsQ b d F 0 w):=by
 have S0:=Lib.hid (((((Sep.start w).al #[.int .i64 k,.int .i64 f,.int .i64 t,.slice pw nw cw,.int .i64 rad,.int .i64 most] 24 w.heap.size rfl).al #[.slice po no co,.slice pt nt ct,.slice pr nr cr,.slice pv nv cv] 27 (w.heap.size+1) (by simp)).al #[.slice pl nl cl] 28 (w.heap.size+1+1) (by simp)).al #[.bool false,.int .i64 0,.slice none 0 0] 34 (w.heap.size+1+1+1) (by simp))
 have HCJ:=Lib.hid HCK
 have HMM:=Lib.hid HM
 clear HCK HM
 go_enter Tryz.func40,Tryz.ntmps40
 go_wp2_with (first | (go_at_call 70;go_must (refine(HMM.out _ S1.out.ext (S1.out.blk 2 rfl) (S1.out.blk 1 rfl)).mono ?_;rintro e w4 ⟨q4,c4,rfl,Z⟩;have S4:=Lib.hid (S1.out.comp Z);clear a0 a1 a2 a3 a4 a5 az y0 y1 y2 yz f0 f1 f2;obtain⟨y0,y1,y2,yz,f0,f1,f2⟩:=bkc0c1c2lz0z1z2 (S4.out.blk 1 rfl);clear Z)) | (go_at_call 49;go_must (refine(HCJ.out _ S0.out.ext).mono ?_;rintro e w1 ⟨rfl,hb⟩;have S1:=Lib.hid (S0.out.call hb);obtain⟨y0,y1,y2,yz,f0,f1,f2⟩:=bkc0c1c2lz0z1z2 (S1.out.blk 0 rfl);obtain⟨a0,a1,a2,a3,a4,a5,az⟩:=bkc0c1c2c3c4c5l (S1.out.blk 3 rfl);clear hb)))
 have S9:=Lib.hid (((S4.out.set 1 rfl 0 (.bool b)).set 1 rfl 1 (.int .i64 d)).set 1 rfl 2 (.slice q4 F.length c4))
 obtain⟨x0,x1,x2⟩:=bkc0c1c2 (S9.out.blk 1 rfl)
 refine bodyPost_ret (v:=.tuple #[.agg #[.bool b,.int .i64 d,.slice q4 F.length c4],.int .i64 0]) (by simp [results,Tryz.results40,go_sem,x0,x1,x2,Tryz.sizeOf34,Tryz.isAgg34]) rfl ?_
 exact⟨q4,c4,rfl,S9.out.pick [0] (by decide) rfl⟩
end
section
open Go Go.RowKit
theorem AskG12 (k f t:Int) (pw:Option Addr) (nw cw:Nat) (ws:List ByteArray) (rad most:Int) (po:Option Addr) (no co:Nat) (O:List Int) (pt:Option Addr) (nt ct:Nat) (T:List Int) (pr:Option Addr) (nr cr:Nat) (R:List Int) (pv:Option Addr) (nv cv:Nat) (V:List Int) (pl:Option Addr) (nl cl:Nat) (hs:List Hd) (L:List Po) (w:World) (hO:Rd w 1 po no (encI O)) (hT:Rd w 1 pt nt (encI T)) (hR:Rd w 1 pr nr (encI R)) (hV:Rd w 1 pv nv (encI V)) (hct:nt≤ct) (hcv:nv≤cv)
  (_:RdP w pl nl hs L) (hW:Rd w 1 pw nw (encS ws)) (h200:no≤200) (hz:∀ s∈ws,s.size≤1000000) (_:nw≤cw) (_:nw≤100) (_:PoOk L) (hk3:k≠3) :
  Calls Tryz.prog 40 #[.agg #[.int .i64 k,.int .i64 f,.int .i64 t,.slice pw nw cw,.int .i64 rad,.int .i64 most],.agg #[.slice po no co,.slice pt nt ct,.slice pr nr cr,.slice pv nv cv],.slice pl nl cl] w fun x w'=>∃ b d F e,AskS O T R V L k f t ws rad most b d F e∧AnsQ b d F e w x w':=by
 have hno:=hO.nI
 have HCJ:=fun W (h:Ext w W)=>CheckJ k f t pw nw cw ws rad most po no co O pt nt ct T pr nr cr R pv nv cv V W (hO.ext h) (hT.ext h) (hR.ext h) (hV.ext h) hct hcv (hW.ext h) hz (by omega)
 rw [hno] at HCJ
 by_cases h0:chkJ (checkR O T R V) k f t ws rad most O.length=0
 ·rw [h0] at HCJ
  rw [← hno] at HCJ
  obtain⟨hck,hq,n,hn,f0,f1,hcs⟩:=chkJ_facts h0
  obtain⟨s,rfl⟩:∃ s:Nat,f=(s:Int):=⟨f.toNat,by omega⟩
  have hO1:O.length - 1=n:=by omega
  rcases hcs with ⟨hk,t0,t1⟩ | ⟨rfl,w1,w8,r0,r2,m1,m2⟩
  ·obtain⟨u,rfl⟩:∃ u:Nat,t=(u:Int):=⟨t.toNat,by omega⟩
   have HF:=fun (gb:Nat) W (h:Ext w W) hB=>askFarCl po no co O pt nt ct T pr nr cr R pv nv cv V n s u gb W (hO.ext h) (hT.ext h) (hR.ext h) (hV.ext h) hct hcv hB hck hn (by omega) (by omega)
   rcases hk with rfl | rfl
   ·refine(AskK 1 (s:Int) (u:Int) pw nw cw rad most po no co O pt nt ct T pr nr cr R pv nv cv V pl nl cl _ _ [] w HCJ (fun W h hB hBl=>ansA1 (s:Int) (u:Int) pw nw cw rad most _ _ _ _ [] 0 W fun W1 h1=>distA 1 (s:Int) (u:Int) pw nw cw rad most _ _ _ _ 0 W1 (fun W2 h2=>HF _ W2 (Ext.trans h (Ext.trans h1 h2)) (hB.ext (Ext.trans h1 h2))))).mono ?_
    intro x w' hx
    exact⟨_,_,[],0,⟨h0.symm,fun h=>absurd rfl h,fun _=>⟨fun _=>⟨by rw [hO1,Int.toNat_natCast,Int.toNat_natCast],by rw [hO1,Int.toNat_natCast,Int.toNat_natCast],rfl⟩,fun h=>absurd h (by decide),fun h=>absurd h (by decide)⟩⟩,hx⟩
   ·refine(AskK 2 (s:Int) (u:Int) pw nw cw rad most po no co O pt nt ct T pr nr cr R pv nv cv V pl nl cl _ 0 [] w HCJ (fun W h hB hBl=>ansA2 (s:Int) (u:Int) pw nw cw rad most _ _ _ _ [] 0 W fun W1 h1=>reachA 2 (s:Int) (u:Int) pw nw cw rad most _ _ _ _ 0 W1 (fun W2 h2=>HF _ W2 (Ext.trans h (Ext.trans h1 h2)) (hB.ext (Ext.trans h1 h2))))).mono ?_
    intro x w' hx
    exact⟨_,0,[],0,⟨h0.symm,fun h=>absurd rfl h,fun _=>⟨fun h=>absurd h (by decide),fun _=>⟨by rw [hO1,Int.toNat_natCast,Int.toNat_natCast],rfl,rfl⟩,fun h=>absurd h (by decide)⟩⟩,hx⟩
  ·exact absurd rfl hk3
 ·rw [← hno] at HCJ
  refine(AskErr k f t pw nw cw ws rad most po no co O pt nt ct T pr nr cr R pv nv cv V pl nl cl _ w (by rw [hno];exact h0) HCJ).mono ?_
  intro x w' hx
  exact⟨false,0,[],_,⟨by rw [hno],fun _=>⟨rfl,rfl,rfl⟩,fun h=>absurd (by rw [← hno];exact h) h0⟩,hx⟩
end
section
open Go Go.RowKit
def Pc.all (Δ : List Pc) : Pc :=
  ⟨fun k => ∃ p ∈ Δ, p.foot k, fun w => (∀ p ∈ Δ, p.holds w) ∧ Δ.Pairwise (fun (p q : Pc) => ∀ k : Nat, p.foot k → ¬ q.foot k),
   fun w h k hk => by obtain ⟨p, hp, hf⟩ := hk; exact p.inh w (h.1 p hp) k hf,
   fun w w' h hk => ⟨fun p hp => p.loc w w' (h.1 p hp) fun k hf => hk k ⟨p, hp, hf⟩, h.2⟩⟩
section
variable {w0 w:World} {Γ Δ:List Pc}
theorem Sep.bundle (S:Sep w0 w (Γ ++ Δ)):Sep w0 w (Pc.all Δ :: Γ):=by
 have ha:=List.pairwise_append.1 S.apart
 refine⟨S.ext,fun p hp=>?_,fun p hp k hk=>?_,List.pairwise_cons.2 ⟨fun q hq k hk hk2=>?_,ha.1⟩⟩
 ·rcases List.mem_cons.1 hp with rfl | hp
  ·exact⟨fun q hq=>S.all q (List.mem_append_right _ hq),ha.2.1⟩
  ·exact S.all p (List.mem_append_left _ hp)
 ·rcases List.mem_cons.1 hp with rfl | hp
  ·obtain⟨q,hq,hf⟩:=hk;exact S.new q (List.mem_append_right _ hq) k hf
  ·exact S.new p (List.mem_append_left _ hp) k hk
 ·obtain⟨p,hp,hf⟩:=hk
  exact ha.2.2 q hq p hp k hk2 hf
theorem Sep.unbundle (S:Sep w0 w (Pc.all Δ :: Γ)):Sep w0 w (Γ ++ Δ):=by
 have ha:=List.pairwise_cons.1 S.apart
 have h0:(Pc.all Δ).holds w:=S.all _ (List.mem_cons_self ..)
 refine⟨S.ext,fun p hp=>?_,fun p hp k hk=>?_,List.pairwise_append.2 ⟨ha.2,h0.2,fun p hp q hq k hk hk2=>ha.1 p hp k ⟨q,hq,hk2⟩ hk⟩⟩
 ·rcases List.mem_append.1 hp with hp | hp
  ·exact S.all p (List.mem_cons_of_mem _ hp)
  ·exact h0.1 p hp
 ·rcases List.mem_append.1 hp with hp | hp
  ·exact S.new p (List.mem_cons_of_mem _ hp) k hk
  ·exact S.new _ (List.mem_cons_self ..) k ⟨p,hp,hk⟩
theorem Sep.empties (S:Sep w0 w Γ) (h:∀ p∈Δ,p.holds w∧∀ k,¬ p.foot k):Sep w0 w (Γ ++ Δ):=by
 refine⟨S.ext,fun p hp=>?_,fun p hp k hk=>?_,List.pairwise_append.2 ⟨S.apart,?_,fun p hp q hq k _ hk2=>(h q hq).2 k hk2⟩⟩
 ·rcases List.mem_append.1 hp with hp | hp
  ·exact S.all p hp
  ·exact(h p hp).1
 ·rcases List.mem_append.1 hp with hp | hp
  ·exact S.new p hp k hk
  ·exact absurd hk ((h p hp).2 k)
 ·rw [List.pairwise_iff_getElem]
  intro i j hi hj _ k hk
  exact absurd hk ((h _ (List.getElem_mem hi)).2 k)
end
theorem rowsS_nil (n:Nat) (w:World) (nx:Nat→List Int) (L:List Int):∀ p∈rowsS n (List.replicate n ⟨none,0,0⟩) (labT nx n L 0) (List.replicate n ⟨none,0,0⟩) (labT nx n L 0),p.holds w∧∀ k,¬ p.foot k:=by
 intro p hp
 unfold rowsS at hp
 obtain⟨v,hv,rfl⟩:=List.mem_map.1 hp
 have hv':=List.mem_range.1 hv
 have e1:nth (List.replicate n (⟨none,0,0⟩:Hd)) v=⟨none,0,0⟩:=by rw [nth_eq (by simpa using hv')];simp
 have e2:nth (labT nx n L 0) v=[]:=by rw [labT_nth hv'];rfl
 rw [e1,e2]
 refine⟨⟨World.ownsRow_nil _ _ _ _,Rd.nil _ _ _⟩,fun k hk=>?_⟩
 rcases hk with hk | ⟨h0,_⟩
 ·cases hk
 ·simp at h0
theorem rowsS_reset {w0 w:World} {n:Nat} {H0 H:List Hd} {T0 T:SrT} {A B:List Pc} (S:Sep w0 w (A ++ (rowsS n H0 T0 H T ++ B))):Sep w0 w (A ++ (rowsS n H T H T ++ B)):=by
 have hl:∀ H0 T0,(rowsS n H0 T0 H T).length=n:=fun H0 T0=>by simp [rowsS]
 refine S.weak (by simp [rowsS]) fun i p q hp hq hh=>?_
 by_cases h1:i<A.length
 ·rw [List.getElem?_append_left h1] at hp hq
  rw [hp] at hq;injection hq with hq;subst hq
  exact⟨hh,fun _ h=>h⟩
 ·rw [List.getElem?_append_right (by omega)] at hp hq
  by_cases h2:i - A.length<n
  ·rw [rowsS_at h2] at hp hq
   injection hp with hp;injection hq with hq
   subst hp hq
   exact⟨⟨hh.1,Rd.of_own hh.1 (own_sm hh.1)⟩,fun k hk=>by
    rcases hk with hk | ⟨_,hk⟩
    ·exact .inl hk
    ·exact .inl hk⟩
  ·rw [List.getElem?_append_right (by rw [hl];omega),hl] at hp hq
   rw [hp] at hq;injection hq with hq;subst hq
   exact⟨hh,fun _ h=>h⟩
theorem labI_len (nx:Nat→List Int) (n:Nat) (L:List Int) (k v:Nat):(labI nx n L k v).length≤k:=by
 unfold labI
 rw [List.length_map]
 exact Nat.le_trans (List.length_filter_le _ _) (by simp)
theorem labI_sm {nx:Nat→List Int} {n:Nat} {L:List Int} {k v:Nat} (hL:OrdP L n) (hn:n≤200) (hk:k≤n) (hv:v<n):SmH (labI nx n L k v):=fun x hx=>by
 obtain⟨i,hi,h1,rfl⟩:=labI_mem.1 hx
 have h2:=(hubW_iff.1 h1).1
 have h3:=lev_lt (nx:=nx) (ord_lt hL (show i<n by omega)) hv
 simp only
 omega
section
variable {α:Type} (a b c d e f g:α) (A B:List α)
theorem pmX (is js:List Nat) (h:is.Perm js) (l:List α) (x:α):(is.map fun i=>l.getD i x).Perm (js.map fun i=>l.getD i x):=h.map _
theorem pmA:((c :: e :: a :: (B ++ [])) ++ (b :: d :: f :: g :: A)).Perm ([a,b,c,d,e,f,g] ++ (A ++ B)):=by
 rw [List.append_nil]
 have h1:((c :: e :: a :: B) ++ (b :: d :: f :: g :: A)).Perm ([c,e,a] ++ (([b,d,f,g] ++ A) ++ B)):=List.Perm.append_left [c,e,a] List.perm_append_comm
 refine h1.trans ?_
 have h2:[c,e,a] ++ (([b,d,f,g] ++ A) ++ B)=[c,e,a,b,d,f,g] ++ (A ++ B):=by simp
 rw [h2]
 exact(pmX [2,4,0,1,3,5,6] [0,1,2,3,4,5,6] (by decide) [a,b,c,d,e,f,g] a).append_right _
theorem pmB:((c :: d :: b :: (A ++ [])) ++ (a :: e :: f :: g :: B)).Perm ([a,b,c,d,e,f,g] ++ (A ++ B)):=by
 rw [List.append_nil]
 have h1:((c :: d :: b :: A) ++ (a :: e :: f :: g :: B)).Perm ([c,d,b] ++ (([a,e,f,g] ++ B) ++ A)):=List.Perm.append_left [c,d,b] List.perm_append_comm
 refine h1.trans ?_
 have h2:[c,d,b] ++ (([a,e,f,g] ++ B) ++ A)=[c,d,b,a,e,f,g] ++ (B ++ A):=by simp
 rw [h2]
 refine((pmX [2,3,1,0,4,5,6] [0,1,2,3,4,5,6] (by decide) [a,b,c,d,e,f,g] a).append_right _).trans ?_
 exact List.Perm.append_left _ List.perm_append_comm
theorem pmC:(a :: b :: c :: d :: e :: f :: g :: (A ++ (B ++ [])))=[a,b,c,d,e,f,g] ++ (A ++ B):=by simp
end
section
variable {w0 w:World} {a b c d e f g:Pc} {A B:List Pc}
theorem Sep.toI (S:Sep w0 w (a :: b :: c :: d :: e :: f :: g :: (A ++ (B ++ [])))):Sep w0 w (c :: e :: a :: Pc.all (b :: d :: f :: g :: A) :: (B ++ [])):=by
 rw [pmC] at S
 have T:=Sep.bundle (S.perm (pmA a b c d e f g A B))
 exact T.perm (List.perm_middle (a:=Pc.all (b :: d :: f :: g :: A)) (l₁:=[c,e,a]) (l₂:=B ++ []))
theorem Sep.ofI (S:Sep w0 w (c :: e :: a :: Pc.all (b :: d :: f :: g :: A) :: (B ++ []))):Sep w0 w (a :: b :: c :: d :: e :: f :: g :: (A ++ (B ++ []))):=by
 rw [pmC]
 have T:=Sep.unbundle (S.perm (List.perm_middle (a:=Pc.all (b :: d :: f :: g :: A)) (l₁:=[c,e,a]) (l₂:=B ++ [])).symm)
 exact T.perm (pmA a b c d e f g A B).symm
theorem Sep.toO (S:Sep w0 w (a :: b :: c :: d :: e :: f :: g :: (A ++ (B ++ [])))):Sep w0 w (c :: d :: b :: Pc.all (a :: e :: f :: g :: B) :: (A ++ [])):=by
 rw [pmC] at S
 have T:=Sep.bundle (S.perm (pmB a b c d e f g A B))
 exact T.perm (List.perm_middle (a:=Pc.all (a :: e :: f :: g :: B)) (l₁:=[c,d,b]) (l₂:=A ++ []))
theorem Sep.ofO (S:Sep w0 w (c :: d :: b :: Pc.all (a :: e :: f :: g :: B) :: (A ++ []))):Sep w0 w (a :: b :: c :: d :: e :: f :: g :: (A ++ (B ++ []))):=by
 rw [pmC]
 have T:=Sep.unbundle (S.perm (List.perm_middle (a:=Pc.all (a :: e :: f :: g :: B)) (l₁:=[c,d,b]) (l₂:=A ++ [])).symm)
 exact T.perm (pmB a b c d e f g A B).symm
end
end
section
open Go Go.RowKit
attribute [local go_sem] Oper.semAt_some
theorem rd_one (w:World) (y:Int × Int):Rd ((w.alloc (.cells #[.int .i64 y.1,.int .i64 y.2] 190)).alloc (.cells #[.int .i64 y.1] 3)) 1 (some ⟨w.heap.size+1,0,none⟩) 1 (encI [y.1]):=by
 have h:=Rd.oneI (w.alloc (.cells #[.int .i64 y.1,.int .i64 y.2] 190)) 3 y.1
 have e:(w.alloc (.cells #[.int .i64 y.1,.int .i64 y.2] 190)).heap.size=w.heap.size+1:=by simp
 rw [e] at h;exact h
def lenV:Value→Nat
 | .slice _ n _=>n
 | _=>0
theorem ways_bd {O T R V:List Int} (hck:checkR O T R V=true) {n v:Nat} (hno:O.length=n+1) (hv:v<n) :
  R.length=n+1∧(0≤nth O v∧nth O v≤nth O (v+1)∧nth O (v+1)≤2000)∧(0≤nth R v∧nth R v≤nth R (v+1)∧nth R (v+1)≤2000):=by
 obtain⟨e1,e2,e3,e4⟩:=checkR_half hck
 have a:=offOk_of (halfB_off e3)
 have b:=offOk_of (halfB_off e4)
 have r1:=offB_parts (halfB_off e3)
 have r2:=offB_parts (halfB_off e4)
 have hR:R.length=n+1:=by omega
 have:=a.lo v (by omega)
 have:=a.le v (by omega)
 have:=a.hi (v+1) (by omega)
 have:=b.lo v (by omega)
 have:=b.le v (by omega)
 have:=b.hi (v+1) (by omega)
 exact⟨hR,⟨by omega,by omega,by omega⟩,by omega,by omega,by omega⟩
theorem way_rng {O T R V:List Int} (hck:checkR O T R V=true) {n v:Nat} (hno:O.length=n+1) (hv:v<n):0≤wayN O R v∧wayN O R v≤4000:=by
 have:=ways_bd hck hno hv
 unfold wayN;omega
theorem ByG_yes (po:Option Addr) (no co:Nat) (O:List Int) (pt:Option Addr) (nt ct:Nat) (T:List Int) (pr:Option Addr) (nr cr:Nat) (R:List Int) (pv:Option Addr) (nv cv:Nat) (V:List Int) (n:Nat) (w:World) (hO:Rd w 1 po no (encI O)) (hT:Rd w 1 pt nt (encI T)) (hR:Rd w 1 pr nr (encI R)) (hV:Rd w 1 pv nv (encI V)) (hct:nt≤ct) (hcv:nv≤cv) (hck:checkR O T R V=true) (hno:O.length=n+1) :
  Calls Tryz.prog 83 #[.agg #[.slice po no co,.slice pt nt ct,.slice pr nr cr,.slice pv nv cv]] w fun e w'=>∃ q c,e=.returned (.tuple #[.slice q (byL O R n).length c,.int .i64 0])∧Sep w w' [.own 3 1 q (byL O R n).length c (encI (byL O R n))]:=by
 obtain⟨i0,hi0,hz0,hz1,hz2⟩:=info_parts infI
 have HC:=Lib.hid (fun W1 (h:Ext w W1)=>CheckR po no co O pt nt ct T pr nr cr R pv nv cv V W1 (hO.ext h) (hT.ext h) (hR.ext h) (hV.ext h) hct hcv)
 rw [hck] at HC
 have S0:=Lib.hid ((Sep.start w).al #[.slice po no co,.slice pt nt ct,.slice pr nr cr,.slice pv nv cv] 27 w.heap.size rfl)
 have l1:=hO.nI
 have l2:=hR.nI
 have pA:=hO.ptr
 have pB:=hR.ptr
 have r:=offB_parts (halfB_off (checkR_half hck).2.2.1)
 have hn:n≤200:=by omega
 have HNO:Hid (no=n+1):=by unfold Hid;omega
 have HW:=Lib.hid (fun v (hv:v<n)=>ways_bd hck hno hv)
 have HNR:Hid (∀ v,v<n→nr=n+1):=fun v hv=>by have:=(ways_bd hck hno hv).1;omega
 have HRNG:=Lib.hid (fun v (hv:v<n)=>way_rng hck hno hv)
 have hno1:1≤no:=by omega
 have hno2:no≤201:=by omega
 have HO:=Lib.hid hO;clear hO
 have HR:=Lib.hid hR;clear hR
 clear hT hV hct hcv hck l1 l2 r hno
 go_enter Tryz.func83,Tryz.ntmps83
 go_wp2_with (go_at_call 82;go_must (refine(HC.out _ S0.out.ext).mono ?_;rintro e w1 ⟨rfl,hb⟩;have S1:=Lib.hid (S0.out.call hb);obtain⟨xz,x0,x1,x2,x3⟩:=bklc0c1c2c3 (S1.out.blk 0 rfl);clear hb))
 have S2:=Lib.hid (((S1.out.alrw #[] 190 2 0 w1.heap.size rfl (by decide) rfl).al #[.slice (some ⟨w1.heap.size,0,none⟩) 0 0] 186 (w1.heap.size+1) (by simp)).pick [1,0,2] (by decide) rfl)
 generalize (w1.alloc (.cells #[] 190)).alloc (.cells #[.slice (some ⟨w1.heap.size,0,none⟩) 0 0] 186)=w2 at *
 generalize hq0:(some ⟨w1.heap.size,0,none⟩:Option Addr)=q0 at *
 generalize hgb:w1.heap.size+1=gb at *
 clear hq0 hgb
 go_loopw [5,19] (fun _ i wr=>∃ (k:Nat) (q:Option Addr) (c:Nat) (X:List (Int × Int)),k≤n∧i=.int .i64 k∧X.Perm (waysP O R k)∧HeapN ltW k X∧Sep w wr [.own 190 2 q k c (encE X),.blk gb 186 #[.slice q k c],.blk w.heap.size 27 #[.slice po no co,.slice pt nt ct,.slice pr nr cr,.slice pv nv cv]]) (fun _ i _=>n - (intOf i).toNat)
 case atStart=>exact⟨0,q0,0,[],Nat.zero_le _,rfl,List.Perm.refl _,fun i h0 h1=>by omega,S2.out⟩
 case round =>
  clear S0 S1 S2 HC x0 x1 x2 x3 xz
  obtain⟨k,q,c,X,hk,rfl,hp,hh,S⟩:=hrel
  obtain⟨az,a0,a1,a2,a3⟩:=bklc0c1c2c3 (S.blk 2 rfl)
  by_cases hlt:k<n
  ·have d1:decide ((k:Int)<(no:Int) - 1)=true:=by have:=HNO.out;simp;omega
   obtain⟨_,hb1,hb2⟩:=HW.out k hlt
   have hnr:=HNR.out k hlt
   have g1:=S.ext.cell (HO.out.cI (k:=k) (by have:=HNO.out;omega))
   have g2:=S.ext.cell (HO.out.cI (k:=k+1) (by have:=HNO.out;omega))
   have g3:=S.ext.cell (HR.out.cI (k:=k) (by omega))
   have g4:=S.ext.cell (HR.out.cI (k:=k+1) (by omega))
   have e1:(0:Int)≤k:=by omega
   have e2:(k:Int)<no:=by have:=HNO.out;omega
   have e3:(0:Int)≤(k:Int)+1:=by omega
   have e4:(k:Int)+1<no:=by have:=HNO.out;omega
   have e5:(k:Int)<nr:=by omega
   have e6:(k:Int)+1<nr:=by omega
   have HX:=Lib.hid (waysP_step O R k)
   unfold wayN at HX
   generalize nth O k=o0 at *
   generalize nth O (k+1)=o1 at *
   generalize nth R k=r0 at *
   generalize nth R (k+1)=r1 at *
   have HPU:=Lib.hid (fun W (T:Sep w W [.own 190 2 q k c (encE X),.blk gb 186 #[.slice q k c],.blk w.heap.size 27 #[.slice po no co,.slice pt nt ct,.slice pr nr cr,.slice pv nv cv]])=>HeapPush gb q k c X ((k:Int),o1 - o0+r1 - r0) W w _ 1 0 T rfl rfl (by decide) (by omega) hh)
   unfold hpV plV at HPU
   have HP:=Lib.hid hp
   have hn200:k<200:=by omega
   clear hp hh hnr
   have SH:=Lib.hid S;clear S
   go_wp2
   have u0:=fun x:ExtOf wr=>x.ext.cell a0
   have u1:=fun x:ExtOf wr=>x.ext.cell a1
   have u2:=fun x:ExtOf wr=>x.ext.cell a2
   have u3:=fun x:ExtOf wr=>x.ext.cell a3
   have v1:=fun x:ExtOf wr=>x.ext.cell g1
   have v2:=fun x:ExtOf wr=>x.ext.cell g2
   have v3:=fun x:ExtOf wr=>x.ext.cell g3
   have v4:=fun x:ExtOf wr=>x.ext.cell g4
   refine wp_region_mix [true,true,true,true,true,true,true,true,true,true,true,true,true,true,true,true,true,true,true,true,true,true,true,true,true,true,true,true,true] (fun _ _ _=>True) (by kernel_rfl) (by kernel_rfl) (by kernel_rfl) (fun _ _ _ _ _ _=>trivial) ?_
   simp only [nfM]
   repeat (go_big_quiet_step ((fail)))
   refine wpQuiet_nil ⟨trivial,fun vs W1 hE hkn=>?_⟩
   clear hkn
   have S4:=Lib.hid (SH.out.call hE)
   clear u0 u1 u2 u3 v1 v2 v3 v4 a0 a1 a2 a3 az g1 g2 g3 g4
   simp only [putM,List.length_cons,List.length_nil,Nat.zero_add,Nat.reduceAdd,List.drop_succ_cons,List.drop_zero]
   try simp [Act.put]
   go_wp2_with (go_at_call 116;go_must (refine(HPU.out _ S4.out).mono ?_;rintro e w5 ⟨rfl,q',c',X',k1,k2,T⟩;have K1:=Lib.hid k1;have K2:=Lib.hid k2;have S5:=Lib.hid T;clear k1 k2 T))
   go_roundw
   case rel=>exact⟨k+1,q',c',X',by omega,by go_num,by rw [HX.out];exact K1.out.trans (HP.out.append_right _),K2.out,S5.out⟩
   case measure=>simp [intOf];omega
  ·obtain rfl:k=n:=by omega
   have d1:decide ((k:Int)<(no:Int) - 1)=false:=by have:=HNO.out;simp;omega
   have HND:=Lib.hid (waysP_nodup O R k)
   have HP:=Lib.hid hp
   have HH:=Lib.hid hh
   have TA:=fun (x:Int × Int) W=>taPlace x.1 x.2 W
   have SH:=Lib.hid S;clear S
   clear hp hh a0 a1 a2 a3 az pA pB
   go_wp2
   go_loopw [6,7,8] (fun v6 _ _ wr=>∃ (out:List (Int × Int)) (ql:Option Addr) (cl m:Nat) (q2:Option Addr) (c2:Nat) (Y:List (Int × Int)),v6=.slice ql out.length cl∧(out ++ Y).Perm (waysP O R k)∧Rises ltW out∧(∀ a∈out,∀ b∈Y,ltW b a=false)∧HeapN ltW m Y∧Sep w wr [.own 3 1 ql out.length cl (encI (out.map (·.1))),.own 190 2 q2 m c2 (encE Y),.blk gb 186 #[.slice q2 m c2]]) (fun v6 _ _ _=>k - lenV v6)
   case atStart=>exact⟨[],none,0,k,q,c,X,rfl,HP.out,List.Pairwise.nil,fun _ h=>(nomatch h),HH.out,(SH.out.nilrow 3 1).pick [0,1,2] (by decide) rfl⟩
   case round =>
    clear SH HP HH
    obtain⟨out,ql,cl,m,q2,c2,Y,rfl,hp,hr,hle,hh,S⟩:=hrel
    have hmY:=(S.rdx 1 rfl).nE
    have hlen:out.length+m=k:=by have:=hp.length_eq;rw [List.length_append,waysP_len] at this;omega
    have b0:=(S.blk 2 rfl).cell 0
    have ML:=fun N hN=>mLen gb _ wr N hN b0
    by_cases hm:m=0
    ·subst hm
     have hY:Y=[]:=List.eq_nil_of_length_eq_zero hmY.symm
     subst hY
     rw [List.append_nil] at hp
     have hb:=by_uniq (fun v hv=>HRNG.out v hv) hr hp
     have HB:Hid (out.map (·.1)=byL O R k):=by unfold Hid byL;rw [hb]
     have HOL:Hid (out.length=(byL O R k).length):=by unfold Hid byL;rw [hb,List.length_map]
     clear hp hr hle hh hb hlen hmY
     have SJ:=Lib.hid S;clear S
     go_wp2_with (go_at_call 370;go_must (refine(HLen _ _ _ _ (by omega)).mono ?_;rintro e wl ⟨rfl,hw⟩;have hw:=hw.symm;subst hw))
     go_ret2
     exact⟨ql,cl,by rw [← HOL.out];rfl,by rw [← HOL.out,← HB.out];exact SJ.out.pick [0] (by decide) rfl⟩
    ·obtain⟨m',rfl⟩:∃ m',m=m'+1:=⟨m - 1,by omega⟩
     have d2:decide ((0:Int)<(m':Int)+1)=true:=by simp;try omega
     have hmin:=heap_min stoW hh
     have HPO:=Lib.hid (fun W (T:Sep w W [.own 3 1 ql out.length cl (encI (out.map (·.1))),.own 190 2 q2 (m'+1) c2 (encE Y),.blk gb 186 #[.slice q2 (m'+1) c2]])=>HeapPop gb q2 m' c2 Y W w _ 2 1 T rfl rfl (by decide) (by omega) hh)
     unfold hpV plV at HPO
     have HRS:Hid (∀ Y',(nth Y 0 :: Y').Perm Y→((out ++ [nth Y 0]) ++ Y').Perm (waysP O R k)∧Rises ltW (out ++ [nth Y 0])∧∀ a∈out ++ [nth Y 0],∀ b∈Y',ltW b a=false):=fun Y' h=>pops_rise stoW hp HND.out hr hle h fun b hb=>by
      obtain⟨i,hi,e⟩:=List.getElem_of_mem hb
      rw [← e,← nth_eq hi];exact hmin i (by omega)
     generalize nth Y 0=y at *
     clear hp hr hle hh hmin hmY hm
     have SJ:=Lib.hid S;clear S
     go_wp2_with (first
      | (at_builtin;go_must (refine wpList_append_sep rfl _ _ _ rfl 3 i0 _ 1 8 Tryz.underlying25 hi0 hz0 hz1 hz2 rfl (by omega) ((S5.out.junk _).junk _) 0 ql out.length cl _ rfl rfl _ 1 1 _ rfl HR1.out (one_encI _) (by omega) (by omega) ?_;intro q6 c6 w6 S' hsz;have S6:=Lib.hid S';clear S' hsz))
      | (go_at_call 137;go_must (refine(HPO.out _ SJ.out).mono ?_;rintro e w5 ⟨rfl,Y',k1,k2,T⟩;have K1:=Lib.hid k1;have K2:=Lib.hid k2;have S5:=Lib.hid T;have HR1:=Lib.hid (rd_one w5 y);clear k1 k2 T))
      | (go_at_call 370;go_must (refine(HLen _ _ _ _ (by omega)).mono ?_;rintro e wl ⟨rfl,hw⟩;have hw:=hw.symm;subst hw)))
     go_roundw
     case rel =>
      obtain⟨r1,r2,r3⟩:=HRS.out Y' K1.out
      exact⟨out ++ [y],q6,c6,m',q2,c2,Y',by rw [List.length_append];rfl,r1,r2,r3,K2.out,by rw [List.length_append,List.map_append,encI_append];exact S6.out⟩
     case measure=>simp [lenV];omega
def byC (ck:Bool):Int:=if ck=true then 0 else 40
def byR (ck:Bool) (O R:List Int):List Int:=if ck=true then byL O R (O.length - 1) else []
theorem ByG (po:Option Addr) (no co:Nat) (O:List Int) (pt:Option Addr) (nt ct:Nat) (T:List Int) (pr:Option Addr) (nr cr:Nat) (R:List Int) (pv:Option Addr) (nv cv:Nat) (V:List Int) (w:World) (hO:Rd w 1 po no (encI O)) (hT:Rd w 1 pt nt (encI T)) (hR:Rd w 1 pr nr (encI R)) (hV:Rd w 1 pv nv (encI V)) (hct:nt≤ct) (hcv:nv≤cv):Calls Tryz.prog 83 #[.agg #[.slice po no co,.slice pt nt ct,.slice pr nr cr,.slice pv nv cv]] w fun e w'=>∃ q c,e=.returned (.tuple #[.slice q (byR (checkR O T R V) O R).length c,.int .i64 (byC (checkR O T R V))])∧Sep w w' [.own 3 1 q (byR (checkR O T R V) O R).length c (encI (byR (checkR O T R V) O R))]:=by
 cases hck:checkR O T R V with
 | true =>
  have r:=offB_parts (halfB_off (checkR_half hck).2.2.1)
  have e:byR true O R=byL O R (O.length - 1):=rfl
  rw [e]
  exact ByG_yes po no co O pt nt ct T pr nr cr R pv nv cv V (O.length - 1) w hO hT hR hV hct hcv hck (by omega)
 | false =>
  have HC:=Lib.hid (fun W1 (h:Ext w W1)=>CheckR po no co O pt nt ct T pr nr cr R pv nv cv V W1 (hO.ext h) (hT.ext h) (hR.ext h) (hV.ext h) hct hcv)
  rw [hck] at HC
  have S0:=Lib.hid ((Sep.start w).al #[.slice po no co,.slice pt nt ct,.slice pr nr cr,.slice pv nv cv] 27 w.heap.size rfl)
  clear hO hT hR hV hct hcv hck
  go_enter Tryz.func83,Tryz.ntmps83
  go_wp2_with (go_at_call 82;go_must (refine(HC.out _ S0.out.ext).mono ?_;rintro e w1 ⟨rfl,hb⟩;have S1:=Lib.hid (S0.out.call hb);obtain⟨xz,x0,x1,x2,x3⟩:=bklc0c1c2c3 (S1.out.blk 0 rfl);clear hb))
  go_ret2
  exact⟨none,0,rfl,((Sep.start w).call S1.out.ext).nilrow _ _⟩
end
section
open Go Go.RowKit
theorem reg_mono {α:Type} {P:Program} {c:Code} {Q:Exit→Act→World→Prop} {a:Act} {w:World} (F:α→Act→Act) (R:α→World→Prop)
  (h:c.wp P (fun e a' w'=>e=.normal∧∃ x,a'=F x a∧R x w') a w) (k:∀ x w',R x w'→Q .normal (F x a) w'):c.wp P Q a w :=
 Code.wp_mono (fun e a' w' ⟨he,x,ha,hr⟩=>by subst he ha;exact k x w' hr) h
theorem infHits:((Tryz.prog).info? 32).map (fun i=>(i.zero,i.size,i.bytes))=some (some (.slice none 0 0),1,24):=by kernel_rfl
theorem madeH (n:Nat):(madeCells #[Value.slice none 0 0] n).toList=encH (List.replicate n ⟨none,0,0⟩):=by
 apply List.ext_getElem
 ·simp [madeCells,encH]
 ·intro i h1 h2
  simp [madeCells,Nat.mod_one,encH,Hd.v]
theorem BuildG_yes (po:Option Addr) (no co:Nat) (O:List Int) (pt:Option Addr) (nt ct:Nat) (T:List Int) (pr:Option Addr) (nr cr:Nat) (R:List Int) (pv:Option Addr) (nv cv:Nat) (V:List Int) (n:Nat) (w:World) (hO:Rd w 1 po no (encI O)) (hT:Rd w 1 pt nt (encI T)) (hR:Rd w 1 pr nr (encI R)) (hV:Rd w 1 pv nv (encI V)) (hct:nt≤ct) (hcv:nv≤cv) (hck:checkR O T R V=true) (hno:O.length=n+1) :
  Calls Tryz.prog 45 #[.agg #[.slice po no co,.slice pt nt ct,.slice pr nr cr,.slice pv nv cv]] w fun e w'=>∃ qO cO qI cI HO HI,e=.returned (.tuple #[.agg #[.slice qO n cO,.slice qI n cI],.int .i64 0])∧Sep w w' (.own 32 1 qO n cO (encH HO) :: .own 32 1 qI n cI (encH HI) :: (rowsS n HO (labT (rowL R V) n (byL O R n) n) HO (labT (rowL R V) n (byL O R n) n) ++ (rowsS n HI (labT (rowL O T) n (byL O R n) n) HI (labT (rowL O T) n (byL O R n) n) ++ []))):=by
 obtain⟨i0,hi0,hz0,hz1,hz2⟩:=info_parts infHits
 have HC:=Lib.hid (fun W1 (h:Ext w W1)=>CheckR po no co O pt nt ct T pr nr cr R pv nv cv V W1 (hO.ext h) (hT.ext h) (hR.ext h) (hV.ext h) hct hcv)
 rw [hck] at HC
 have hby:=fun W1 (h:Ext w W1)=>ByG po no co O pt nt ct T pr nr cr R pv nv cv V W1 (hO.ext h) (hT.ext h) (hR.ext h) (hV.ext h) hct hcv
 have hbr:byR (checkR O T R V) O R=byL O R n:=by rw [hck];unfold byR;rw [if_pos rfl,hno];rfl
 have hOP:=byL_ord (O:=O) (R:=R) (n:=n) fun v hv=>way_rng hck hno hv
 rw [hbr,hck,hOP.1,show byC true=0 from rfl] at hby
 have HBY:=Lib.hid hby
 obtain⟨e1,e2,e3,e4⟩:=checkR_half hck
 have r:=offB_parts (halfB_off e3)
 have hn:n≤200:=by omega
 have hn1:1≤n:=by omega
 have S0:=Lib.hid (((Sep.start w).al #[.slice po no co,.slice pt nt ct,.slice pr nr cr,.slice pv nv cv] 27 w.heap.size rfl).al #[.slice none 0 0,.slice none 0 0] 67 (w.heap.size+1) (by simp))
 clear hby
 have HOP:=Lib.hid hOP
 have HRE:=Lib.hid (show Rev (rowL O T) (rowL R V) n by have:=nxR_rev hck false;rw [hno] at this;exact this)
 have HINA:=Lib.hid (show ∀ v,v<n→∀ x∈rowL O T v,∃ u:Nat,x=u∧u<n by
  intro v hv x hx
  have:=row_in e3
  rw [hno] at this
  have:=this v hv x hx
  exact⟨x.toNat,by omega,by omega⟩)
 have HINB:=Lib.hid (show ∀ v,v<n→∀ x∈rowL R V v,∃ u:Nat,x=u∧u<n by
  intro v hv x hx
  have:=row_in e4
  rw [← e1,hno] at this
  have:=this v hv x hx
  exact⟨x.toNat,by omega,by omega⟩)
 have HNA:=Lib.hid (fun gr W (h:Ext w W) (hB:Blk W gr 27 #[.slice po no co,.slice pt nt ct,.slice pr nr cr,.slice pv nv cv]) k (hk:k<n)=>next1Gr po no co O pt nt ct T pr nr cr R pv nv cv V gr k W (hO.ext h) (hT.ext h) (offOk_of (halfB_off e3)) hct (by omega) hB)
 have HNB:=Lib.hid (fun gr W (h:Ext w W) (hB:Blk W gr 27 #[.slice po no co,.slice pt nt ct,.slice pr nr cr,.slice pv nv cv]) k (hk:k<n)=>next3Gr po no co O pt nt ct T pr nr cr R pv nv cv V gr k W (hR.ext h) (hV.ext h) (offOk_of (halfB_off e4)) hcv (by omega) hB)
 clear hO hT hR hV hct hcv hck hno hOP e1 e2 e3 e4 r hbr
 generalize rowL O T=nak at *
 generalize rowL R V=nbk at *
 generalize byL O R n=L at *
 go_enter Tryz.func45,Tryz.ntmps45
 go_wp2_with (first | (go_at_call 83;go_must (refine(HBY.out _ S1.out.ext).mono ?_;rintro e w2 ⟨q2,c2,rfl,Z⟩;have S2:=Lib.hid (S1.out.comp Z);clear Z)) | (go_at_call 82;go_must (refine(HC.out _ S0.out.ext).mono ?_;rintro e w1 ⟨rfl,hb⟩;have S1:=Lib.hid (S0.out.call hb);obtain⟨xz,x0,x1,x2,x3⟩:=bklc0c1c2c3 (S1.out.blk 1 rfl);clear hb)))
 have HRH:=Lib.hid (S2.out.rdx 0 rfl)
 have HBB:=Lib.hid (S2.out.blk 2 rfl)
 refine reg_mono (α:=Nat × Option Addr × Option Addr) (fun x a=>(((((a.put (some 29) (.int .i64 n)).put (some 30) (.slice x.2.1 n n)).put (some 31) (.int .i64 n)).put (some 32) (.slice x.2.2 n n)).put (some 33) (.agg #[.slice x.2.1 n n,.slice x.2.2 n n])).put (some 7) (.pointer (some ⟨x.1,0,none⟩))) (fun x w'=>Sep w2 w' [.blk x.1 67 #[.slice x.2.1 n n,.slice x.2.2 n n],.own 32 1 x.2.1 n n (encH (List.replicate n ⟨none,0,0⟩)),.own 32 1 x.2.2 n n (encH (List.replicate n ⟨none,0,0⟩))]) ?_ ?_
 ·have b1:(0:Int)≤n:=by omega
  have b2:(n:Int)*24≤281474976710656:=by omega
  have hmk:∀ W:World,(Instr.makeSlice 65 (.int .i64 (n:Int)) (.int .i64 (n:Int))).run Tryz.prog W=.ok (.slice (some ⟨W.heap.size,0,none⟩) n n) (W.alloc (.cells (madeCells #[.slice none 0 0] n) 32)):=fun W=>run_make_row' (P:=Tryz.prog) (w:=W) 65 32 (.slice none 0 0) 24 Tryz.underlying65 infHits rfl .i64 .i64 n (by omega) (by omega)
  clear HBY HC S0 S1 xz x0 x1 x2 x3
  go_region
  ·(refine⟨rfl,(w2.heap.size+1+1,some ⟨w2.heap.size,0,none⟩,some ⟨w2.heap.size+1,0,none⟩),by simp [Act.put],?_⟩;have T:=Sep.drew ((((Sep.start w2).alrow (madeCells #[.slice none 0 0] n) 32 1 n w2.heap.size (by simp) (by unfold maxLen;omega) (by simp [madeCells])).alrow (madeCells #[.slice none 0 0] n) 32 1 n (w2.heap.size+1) (by simp) (by unfold maxLen;omega) (by simp [madeCells])).al #[.slice (some ⟨w2.heap.size,0,none⟩) n n,.slice (some ⟨w2.heap.size+1,0,none⟩) n n] 67 (w2.heap.size+1+1) (by simp));rw [madeH] at T;exact T.pick [0,2,1] (by decide) rfl)
  ·(refine⟨rfl,(w2.heap.size+1,some ⟨w2.heap.size,0,none⟩,some ⟨w2.heap.size+1+1,0,none⟩),by simp [Act.put],?_⟩;have T:=Sep.drew ((((Sep.start w2).alrow (madeCells #[.slice none 0 0] n) 32 1 n w2.heap.size (by simp) (by unfold maxLen;omega) (by simp [madeCells])).al #[.slice (some ⟨w2.heap.size,0,none⟩) n n,.slice (some ⟨w2.heap.size+1+1,0,none⟩) n n] 67 (w2.heap.size+1) (by simp)).alrow (madeCells #[.slice none 0 0] n) 32 1 n (w2.heap.size+1+1) (by simp) (by unfold maxLen;omega) (by simp [madeCells]));rw [madeH] at T;exact T.pick [1,2,0] (by decide) rfl)
  ·(refine⟨rfl,(w2.heap.size+1+1,some ⟨w2.heap.size+1,0,none⟩,some ⟨w2.heap.size,0,none⟩),by simp [Act.put],?_⟩;have T:=Sep.drew ((((Sep.start w2).alrow (madeCells #[.slice none 0 0] n) 32 1 n w2.heap.size (by simp) (by unfold maxLen;omega) (by simp [madeCells])).alrow (madeCells #[.slice none 0 0] n) 32 1 n (w2.heap.size+1) (by simp) (by unfold maxLen;omega) (by simp [madeCells])).al #[.slice (some ⟨w2.heap.size+1,0,none⟩) n n,.slice (some ⟨w2.heap.size,0,none⟩) n n] 67 (w2.heap.size+1+1) (by simp));rw [madeH] at T;exact T.pick [0,1,2] (by decide) rfl)
  ·(refine⟨rfl,(w2.heap.size+1,some ⟨w2.heap.size+1+1,0,none⟩,some ⟨w2.heap.size,0,none⟩),by simp [Act.put],?_⟩;have T:=Sep.drew ((((Sep.start w2).alrow (madeCells #[.slice none 0 0] n) 32 1 n w2.heap.size (by simp) (by unfold maxLen;omega) (by simp [madeCells])).al #[.slice (some ⟨w2.heap.size+1+1,0,none⟩) n n,.slice (some ⟨w2.heap.size,0,none⟩) n n] 67 (w2.heap.size+1) (by simp)).alrow (madeCells #[.slice none 0 0] n) 32 1 n (w2.heap.size+1+1) (by simp) (by unfold maxLen;omega) (by simp [madeCells]));rw [madeH] at T;exact T.pick [1,0,2] (by decide) rfl)
  ·(refine⟨rfl,(w2.heap.size,some ⟨w2.heap.size+1,0,none⟩,some ⟨w2.heap.size+1+1,0,none⟩),by simp [Act.put],?_⟩;have T:=Sep.drew ((((Sep.start w2).al #[.slice (some ⟨w2.heap.size+1,0,none⟩) n n,.slice (some ⟨w2.heap.size+1+1,0,none⟩) n n] 67 w2.heap.size (by simp)).alrow (madeCells #[.slice none 0 0] n) 32 1 n (w2.heap.size+1) (by simp) (by unfold maxLen;omega) (by simp [madeCells])).alrow (madeCells #[.slice none 0 0] n) 32 1 n (w2.heap.size+1+1) (by simp) (by unfold maxLen;omega) (by simp [madeCells]));rw [madeH] at T;exact T.pick [2,1,0] (by decide) rfl)
  ·(refine⟨rfl,(w2.heap.size,some ⟨w2.heap.size+1+1,0,none⟩,some ⟨w2.heap.size+1,0,none⟩),by simp [Act.put],?_⟩;have T:=Sep.drew ((((Sep.start w2).al #[.slice (some ⟨w2.heap.size+1+1,0,none⟩) n n,.slice (some ⟨w2.heap.size+1,0,none⟩) n n] 67 w2.heap.size (by simp)).alrow (madeCells #[.slice none 0 0] n) 32 1 n (w2.heap.size+1) (by simp) (by unfold maxLen;omega) (by simp [madeCells])).alrow (madeCells #[.slice none 0 0] n) 32 1 n (w2.heap.size+1+1) (by simp) (by unfold maxLen;omega) (by simp [madeCells]));rw [madeH] at T;exact T.pick [2,0,1] (by decide) rfl)
 ·rintro⟨gl,qO,qI⟩ w3 S3'
  have S3:=Lib.hid S3'
  clear S3'
  obtain⟨b0,b1⟩:=bkc0c1 (S3.out.blk 0 rfl)
  have S4:Hid (Sep w2 ((w3.alloc (.cells #[.func (.func 84) #[] #[.pointer (some ⟨w.heap.size,0,none⟩)],.func (.func 85) #[] #[.pointer (some ⟨gl,0,none⟩)]] 131)).alloc (.cells #[.func (.func 86) #[] #[.pointer (some ⟨w.heap.size,0,none⟩)],.func (.func 87) #[] #[.pointer (some ⟨gl,0,none⟩)]] 131)) (.blk gl 67 #[.slice qO n n,.slice qI n n] :: .own 32 1 qO n n (encH (List.replicate n ⟨none,0,0⟩)) :: .own 32 1 qI n n (encH (List.replicate n ⟨none,0,0⟩)) :: .blk w3.heap.size 131 #[.func (.func 84) #[] #[.pointer (some ⟨w.heap.size,0,none⟩)],.func (.func 85) #[] #[.pointer (some ⟨gl,0,none⟩)]] :: .blk (w3.heap.size+1) 131 #[.func (.func 86) #[] #[.pointer (some ⟨w.heap.size,0,none⟩)],.func (.func 87) #[] #[.pointer (some ⟨gl,0,none⟩)]] :: (rowsS n (List.replicate n ⟨none,0,0⟩) (labT nbk n L 0) (List.replicate n ⟨none,0,0⟩) (labT nbk n L 0) ++ (rowsS n (List.replicate n ⟨none,0,0⟩) (labT nak n L 0) (List.replicate n ⟨none,0,0⟩) (labT nak n L 0) ++ [])))):=by
   have T:=((S3.out.al #[.func (.func 84) #[] #[.pointer (some ⟨w.heap.size,0,none⟩)],.func (.func 85) #[] #[.pointer (some ⟨gl,0,none⟩)]] 131 w3.heap.size rfl).al #[.func (.func 86) #[] #[.pointer (some ⟨w.heap.size,0,none⟩)],.func (.func 87) #[] #[.pointer (some ⟨gl,0,none⟩)]] 131 (w3.heap.size+1) (by simp)).pick [2,3,4,1,0] (by decide) rfl
   exact T.empties (fun p hp=>by
    rcases List.mem_append.1 hp with hp | hp
    ·exact rowsS_nil n _ nbk L p hp
    ·rw [List.append_nil] at hp
     exact rowsS_nil n _ nak L p hp)
  try simp [Act.put]
  go_wp2
  generalize (w3.alloc (.cells #[.func (.func 84) #[] #[.pointer (some ⟨w.heap.size,0,none⟩)],.func (.func 85) #[] #[.pointer (some ⟨gl,0,none⟩)]] 131)).alloc (.cells #[.func (.func 86) #[] #[.pointer (some ⟨w.heap.size,0,none⟩)],.func (.func 87) #[] #[.pointer (some ⟨gl,0,none⟩)]] 131)=w5 at *
  clear S3 b0 b1
  go_loopw [11,12,13,42] (fun _ _ _ i wr=>∃ (k:Nat) (HO HI:List Hd),k≤n∧i=.int .i64 k∧HO.length=n∧HI.length=n∧Sep w2 wr (.blk gl 67 #[.slice qO n n,.slice qI n n] :: .own 32 1 qO n n (encH HO) :: .own 32 1 qI n n (encH HI) :: .blk w3.heap.size 131 #[.func (.func 84) #[] #[.pointer (some ⟨w.heap.size,0,none⟩)],.func (.func 85) #[] #[.pointer (some ⟨gl,0,none⟩)]] :: .blk (w3.heap.size+1) 131 #[.func (.func 86) #[] #[.pointer (some ⟨w.heap.size,0,none⟩)],.func (.func 87) #[] #[.pointer (some ⟨gl,0,none⟩)]] :: (rowsS n HO (labT nbk n L k) HO (labT nbk n L k) ++ (rowsS n HI (labT nak n L k) HI (labT nak n L k) ++ [])))) (fun _ _ _ i _=>n - (intOf i).toNat)
  case atStart=>exact⟨0,_,_,Nat.zero_le _,rfl,by simp,by simp,S4.out⟩
  case round =>
   clear S4
   obtain⟨k,HO,HI,hk,rfl,hHO,hHI,S⟩:=hrel
   obtain⟨b0,b1,bz⟩:=bkc0c1l (S.blk 0 rfl)
   by_cases hlt:k<n
   ·obtain⟨h,hh⟩:∃ h:Nat,nth L k=(h:Int):=⟨(nth L k).toNat,(ord_int HOP.out hlt).symm⟩
    have hhn:h<n:=by have:=ord_lt HOP.out hlt;rw [hh,Int.toNat_natCast] at this;exact this
    have g1:=S.ext.cell (HRH.out.cI hlt)
    rw [hh] at g1
    have gO:=(S.rdx 1 rfl).cH hhn
    have gI:=(S.rdx 2 rfl).cH hhn
    have pH:=HRH.out.ptr
    have pO:=(S.rdx 1 rfl).ptr
    have pI:=(S.rdx 2 rfl).ptr
    have zO:=World.block_lt_of_cell? wr _ gO
    have zI:=World.block_lt_of_cell? wr _ gI
    have d1:(0:Int)≤k:=by omega
    have d2:(k:Int)<n:=by omega
    have d3:(0:Int)≤h:=by omega
    have d4:(h:Int)<n:=by omega
    have HH:=Lib.hid hh
    clear hh
    obtain⟨hO',ho'⟩:∃ x,nth HO h=x:=⟨_,rfl⟩
    obtain⟨hI',hi'⟩:∃ x,nth HI h=x:=⟨_,rfl⟩
    rw [ho'] at gO
    rw [hi'] at gI
    have HOO:=Lib.hid ho'
    have HII:=Lib.hid hi'
    clear ho' hi'
    obtain⟨ap,an,ac⟩:=hO'
    obtain⟨bp,bn,bc⟩:=hI'
    simp only at gO gI
    simp at b0 b1
    have SK:=Lib.hid S;clear S
    go_wp2
    refine reg_mono (α:=Nat × Nat) (fun x a=>((((((((((((a.put (some 46) (.pointer (some ⟨gl,0,none⟩))).put (some 47) (.slice qO n n)).put (some 48) (.int .i64 h)).put (some 49) (.pointer (some (adr qO h)))).put (some 50) (.slice ap an ac)).put (some 51) (.pointer (some ⟨gl,1,none⟩))).put (some 52) (.slice qI n n)).put (some 53) (.int .i64 h)).put (some 54) (.pointer (some (adr qI h)))).put (some 55) (.slice bp bn bc)).put (some 12) (.pointer (some ⟨x.1,0,none⟩))).put (some 13) (.pointer (some ⟨x.2,0,none⟩)))) (fun x w'=>Sep w2 w' (.blk x.1 32 #[.slice ap an ac] :: .blk x.2 32 #[.slice bp bn bc] :: (.blk gl 67 #[.slice qO n n,.slice qI n n] :: .own 32 1 qO n n (encH HO) :: .own 32 1 qI n n (encH HI) :: .blk w3.heap.size 131 #[.func (.func 84) #[] #[.pointer (some ⟨w.heap.size,0,none⟩)],.func (.func 85) #[] #[.pointer (some ⟨gl,0,none⟩)]] :: .blk (w3.heap.size+1) 131 #[.func (.func 86) #[] #[.pointer (some ⟨w.heap.size,0,none⟩)],.func (.func 87) #[] #[.pointer (some ⟨gl,0,none⟩)]] :: (rowsS n HO (labT nbk n L k) HO (labT nbk n L k) ++ (rowsS n HI (labT nak n L k) HI (labT nak n L k) ++ []))))) ?_ ?_
    ·refine wp_region_held_drew (S:=fun w'=>w'.cell? ⟨gl,0,none⟩=some (.slice qO n n)∧w'.cell? ⟨gl,1,none⟩=some (.slice qI n n)∧w'.cell? (adr qO h)=some (.slice ap an ac)∧w'.cell? (adr qI h)=some (.slice bp bn bc)) (by kernel_rfl) (by(try dsimp only);go_keep) (fun hHeld=>?_)
     refine wpAnyH_take (i:=0) (v:=.pointer (some ⟨gl,0,none⟩)) rfl (by kernel_rfl) (by kernel_rfl) (by kernel_rfl) (fun _ _ _ h=>by cases h.1) (Or.inl ⟨by rfl,fun W hSw=>by obtain⟨h1,h2,h3,h4⟩:=hSw;go_simp⟩) hHeld ?_
     refine wpAnyH_take (i:=1) (v:=.slice qO n n) rfl (by kernel_rfl) (by kernel_rfl) (by kernel_rfl) (fun _ _ _ h=>by cases h.1) (Or.inl ⟨by rfl,fun W hSw=>by obtain⟨h1,h2,h3,h4⟩:=hSw;go_simp⟩) hHeld ?_
     refine wpAnyH_take (i:=2) (v:=.int .i64 h) rfl (by kernel_rfl) (by kernel_rfl) (by kernel_rfl) (fun _ _ _ h=>by cases h.1) (Or.inl ⟨by rfl,fun W hSw=>by obtain⟨h1,h2,h3,h4⟩:=hSw;go_simp⟩) hHeld ?_
     refine wpAnyH_take (i:=3) (v:=.pointer (some (adr qO h))) rfl (by kernel_rfl) (by kernel_rfl) (by kernel_rfl) (fun _ _ _ h=>by cases h.1) (Or.inl ⟨by rfl,fun W hSw=>by obtain⟨h1,h2,h3,h4⟩:=hSw;go_simp⟩) hHeld ?_
     refine wpAnyH_take (i:=4) (v:=.slice ap an ac) rfl (by kernel_rfl) (by kernel_rfl) (by kernel_rfl) (fun _ _ _ h=>by cases h.1) (Or.inl ⟨by rfl,fun W hSw=>by obtain⟨h1,h2,h3,h4⟩:=hSw;go_simp⟩) hHeld ?_
     refine wpAnyH_take (i:=5) (v:=.pointer (some ⟨gl,1,none⟩)) rfl (by kernel_rfl) (by kernel_rfl) (by kernel_rfl) (fun _ _ _ h=>by cases h.1) (Or.inl ⟨by rfl,fun W hSw=>by obtain⟨h1,h2,h3,h4⟩:=hSw;go_simp⟩) hHeld ?_
     refine wpAnyH_take (i:=6) (v:=.slice qI n n) rfl (by kernel_rfl) (by kernel_rfl) (by kernel_rfl) (fun _ _ _ h=>by cases h.1) (Or.inl ⟨by rfl,fun W hSw=>by obtain⟨h1,h2,h3,h4⟩:=hSw;go_simp⟩) hHeld ?_
     refine wpAnyH_take (i:=7) (v:=.int .i64 h) rfl (by kernel_rfl) (by kernel_rfl) (by kernel_rfl) (fun _ _ _ h=>by cases h.1) (Or.inl ⟨by rfl,fun W hSw=>by obtain⟨h1,h2,h3,h4⟩:=hSw;go_simp⟩) hHeld ?_
     refine wpAnyH_take (i:=8) (v:=.pointer (some (adr qI h))) rfl (by kernel_rfl) (by kernel_rfl) (by kernel_rfl) (fun _ _ _ h=>by cases h.1) (Or.inl ⟨by rfl,fun W hSw=>by obtain⟨h1,h2,h3,h4⟩:=hSw;go_simp⟩) hHeld ?_
     refine wpAnyH_take (i:=9) (v:=.slice bp bn bc) rfl (by kernel_rfl) (by kernel_rfl) (by kernel_rfl) (fun _ _ _ h=>by cases h.1) (Or.inl ⟨by rfl,fun W hSw=>by obtain⟨h1,h2,h3,h4⟩:=hSw;go_simp⟩) hHeld ?_
     refine wpAnyH_ready (rs:=[10,11]) (by kernel_rfl) (by simp) (AllReadyH.cons rfl (fun K hK=>?_) (AllReadyH.cons rfl (fun K hK=>?_) AllReadyH.nil))
     ·go_simp
      refine hK.out _ _ (by(try dsimp only);go_keep) (fun hHeld=>?_)
      clear hK
      refine wpAnyH_ready (rs:=[11]) (by kernel_rfl) (by simp) (AllReadyH.cons rfl (fun K hK=>?_) AllReadyH.nil)
      go_simp
      refine hK.out _ _ (by(try dsimp only);go_keep) (fun hHeld=>?_)
      clear hK
      refine wpAnyH_ready (rs:=[12]) (by kernel_rfl) (by simp) (AllReadyH.cons rfl (fun K hK=>?_) AllReadyH.nil)
      go_simp
      refine hK.out _ _ (by(try dsimp only);go_keep) (fun hHeld=>?_)
      clear hK
      refine wpAnyH_ready (rs:=[13]) (by kernel_rfl) (by simp) (AllReadyH.cons rfl (fun K hK=>?_) AllReadyH.nil)
      go_simp
      refine hK.out _ _ (by(try dsimp only);go_keep) (fun hHeld=>?_)
      clear hK
      refine wpAnyH_done (by kernel_rfl) ?_ _
      refine⟨rfl,(wr.heap.size,wr.heap.size+1),by simp [Act.put],?_⟩
      exact(((SK.out.al #[.slice ap an ac] 32 wr.heap.size rfl).al #[.slice bp bn bc] 32 (wr.heap.size+1) (by simp)).drew).perm (List.Perm.swap _ _ _)
     ·go_simp
      refine hK.out _ _ (by(try dsimp only);go_keep) (fun hHeld=>?_)
      clear hK
      refine wpAnyH_ready (rs:=[10]) (by kernel_rfl) (by simp) (AllReadyH.cons rfl (fun K hK=>?_) AllReadyH.nil)
      go_simp
      refine hK.out _ _ (by(try dsimp only);go_keep) (fun hHeld=>?_)
      clear hK
      refine wpAnyH_ready (rs:=[12]) (by kernel_rfl) (by simp) (AllReadyH.cons rfl (fun K hK=>?_) AllReadyH.nil)
      go_simp
      refine hK.out _ _ (by(try dsimp only);go_keep) (fun hHeld=>?_)
      clear hK
      refine wpAnyH_ready (rs:=[13]) (by kernel_rfl) (by simp) (AllReadyH.cons rfl (fun K hK=>?_) AllReadyH.nil)
      go_simp
      refine hK.out _ _ (by(try dsimp only);go_keep) (fun hHeld=>?_)
      clear hK
      refine wpAnyH_done (by kernel_rfl) ?_ _
      refine⟨rfl,(wr.heap.size+1,wr.heap.size),by simp [Act.put],?_⟩
      exact((SK.out.al #[.slice bp bn bc] 32 wr.heap.size rfl).al #[.slice ap an ac] 32 (wr.heap.size+1) (by simp)).drew
    ·rintro⟨ga,gb⟩ w6 S6'
     have S6:=Lib.hid S6'
     obtain⟨y0,y1,yz⟩:=bkc0c1l (S6'.blk 5 rfl)
     clear S6' SK b0 b1 bz gO gI pO pI zO zI g1 pH
     simp at y0 y1
     have hR:=HRE.out
     have hR2:Rev nbk nak n:=fun u v hu hv=>(hR v u hv hu).symm
     have hto:(nth L k).toNat=h:=by rw [HH.out,Int.toNat_natCast]
     have HXI:=Lib.hid (label_search hR HOP.out HINA.out hlt)
     have HXO:=Lib.hid (label_search hR2 HOP.out HINB.out hlt)
     have HSI:=Lib.hid (label_step (nx:=nak) HOP.out hlt)
     have HSO:=Lib.hid (label_step (nx:=nbk) HOP.out hlt)
     rw [hto] at HXI HXO HSI HSO
     have hcm:(fun (row:List (Int × Int)) (d:Int)=>nearB (leastV (labI nak n L k h) row) d)=fun row d=>nearB (leastV row (labI nak n L k h)) d:=by
      funext row d;rw [leastV_comm]
     rw [hcm] at HXO
     have HPI:Hid (∀ (X:List Pc) W,(Pc.all (X ++ rowsS n HO (labT nbk n L k) HO (labT nbk n L k))).holds W→Rd W 2 ap an (encE (labI nbk n L k h))):=fun X W hW=>by
      have hm:=rowsS_at (H0:=HO) (T0:=labT nbk n L k) (H:=HO) (T:=labT nbk n L k) (Φ:=[]) hhn
      rw [List.append_nil] at hm
      have:=hW.1 _ (List.mem_append_right _ (List.mem_of_getElem? hm))
      have h2:Rd W 2 (nth HO h).p (nth HO h).n (encE (nth (labT nbk n L k) h)):=this.2
      rw [HOO.out,labT_nth hhn] at h2
      exact h2
     have HPO:Hid (∀ (X:List Pc) H1 T1 W,(Pc.all (X ++ rowsS n HI (labT nak n L k) H1 T1)).holds W→Rd W 2 bp bn (encE (labI nak n L k h))):=fun X H1 T1 W hW=>by
      have hm:=rowsS_at (H0:=HI) (T0:=labT nak n L k) (H:=H1) (T:=T1) (Φ:=[]) hhn
      rw [List.append_nil] at hm
      have:=hW.1 _ (List.mem_append_right _ (List.mem_of_getElem? hm))
      have h2:Rd W 2 (nth HI h).p (nth HI h).n (encE (nth (labT nak n L k) h)):=this.2
      rw [HII.out,labT_nth hhn] at h2
      exact h2
     have HSRI:=Lib.hid (fun W SS=>searchI w.heap.size gl ga qO n n qI n n ap an ac (labI nbk n L k h) (Pc.all (.blk gb 32 #[.slice bp bn bc] :: .own 32 1 qO n n (encH HO) :: .blk w3.heap.size 131 #[.func (.func 84) #[] #[.pointer (some ⟨w.heap.size,0,none⟩)],.func (.func 85) #[] #[.pointer (some ⟨gl,0,none⟩)]] :: .blk (w3.heap.size+1) 131 #[.func (.func 86) #[] #[.pointer (some ⟨w.heap.size,0,none⟩)],.func (.func 87) #[] #[.pointer (some ⟨gl,0,none⟩)]] :: rowsS n HO (labT nbk n L k) HO (labT nbk n L k))) HI (labT nak n L k) [] h nak _ _ W w2 SS (HPI.out [_,_,_,_]) (labI_sm HOP.out hn (by omega) hhn) (fun v hv=>by rw [labT_nth hv];exact labI_sm HOP.out hn (by omega) hv) (fun v hv=>by rw [labT_nth hv];exact Nat.le_trans (labI_len _ _ _ _ _) (by omega)) hn hHI HXI.out (HNA.out w.heap.size w2 S2.out.ext HBB.out))
     have HSRO:=Lib.hid (fun H1 T1 W SS=>searchO w.heap.size gl gb qI n n qO n n bp bn bc (labI nak n L k h) (Pc.all (.blk ga 32 #[.slice ap an ac] :: .own 32 1 qI n n (encH H1) :: .blk w3.heap.size 131 #[.func (.func 84) #[] #[.pointer (some ⟨w.heap.size,0,none⟩)],.func (.func 85) #[] #[.pointer (some ⟨gl,0,none⟩)]] :: .blk (w3.heap.size+1) 131 #[.func (.func 86) #[] #[.pointer (some ⟨w.heap.size,0,none⟩)],.func (.func 87) #[] #[.pointer (some ⟨gl,0,none⟩)]] :: rowsS n HI (labT nak n L k) H1 T1)) HO (labT nbk n L k) [] h nbk _ _ W w2 SS (HPO.out [_,_,_,_] H1 T1) (labI_sm HOP.out hn (by omega) hhn) (fun v hv=>by rw [labT_nth hv];exact labI_sm HOP.out hn (by omega) hv) (fun v hv=>by rw [labT_nth hv];exact Nat.le_trans (labI_len _ _ _ _ _) (by omega)) hn hHO HXO.out (HNB.out w.heap.size w2 S2.out.ext HBB.out))
     rw [HSI.out] at HSRI
     rw [HSO.out] at HSRO
     clear HXI HXO HSI HSO HPI HPO hcm hto hR hR2
     try simp [Act.put]
     go_wp2_with (first
      | (go_at_call 88;have _t:=S7;go_must (refine(HSRO.out _ _ _ S7.out.toO).mono ?_;rintro e w8 ⟨rfl,H2,hl2,Z⟩;have HL2:=Lib.hid hl2;have S8:=Lib.hid (Sep.ofO Z);clear Z hl2))
      | (go_at_call 88;go_must (refine(HSRI.out _ S6.out.toI).mono ?_;rintro e w7 ⟨rfl,H1,hl1,Z⟩;have HL1:=Lib.hid hl1;have Z7:=Sep.ofI Z;have S7:=Lib.hid Z7;obtain⟨z0,z1,zz⟩:=bkc0c1l (Z7.blk 6 rfl);clear Z Z7 hl1)))
     go_roundw
     case rel =>
      refine⟨k+1,H2,H1,by omega,by go_num,HL2.out,HL1.out,?_⟩
      have T1:=S8.out.sub ((List.sublist_cons_self _ _).trans (List.sublist_cons_self _ _))
      have T2:=rowsS_reset (A:=[_,_,_,_,_]) T1
      have T3:=rowsS_reset (A:=[_,_,_,_,_] ++ rowsS n H2 (labT nbk n L (k+1)) H2 (labT nbk n L (k+1))) (by rw [List.append_assoc];exact T2)
      rw [List.append_assoc] at T3
      exact T3
     case measure=>simp [intOf];omega
   ·obtain rfl:k=n:=by omega
    have hb:=(S2.out.blk 1 rfl).ext S.ext
    have l0:=hb.cell 0
    have l1:=hb.cell 1
    have lf0:=hb.frozen 0
    have lf1:=hb.frozen 1
    have lz:=hb.lt
    simp at b0 b1 l0 l1
    have SF:=Lib.hid (S2.out.comp S)
    clear hb
    have T2:Hid (Sep w ((wr.setCell ⟨w.heap.size+1,0,none⟩ (.slice qO k k)).setCell ⟨w.heap.size+1,1,none⟩ (.slice qI k k)) (.blk (w.heap.size+1) 67 #[.slice qO k k,.slice qI k k] :: (((.blk gl 67 #[.slice qO k k,.slice qI k k] :: .own 32 1 qO k k (encH HO) :: .own 32 1 qI k k (encH HI) :: .blk w3.heap.size 131 #[.func (.func 84) #[] #[.pointer (some ⟨w.heap.size,0,none⟩)],.func (.func 85) #[] #[.pointer (some ⟨gl,0,none⟩)]] :: .blk (w3.heap.size+1) 131 #[.func (.func 86) #[] #[.pointer (some ⟨w.heap.size,0,none⟩)],.func (.func 87) #[] #[.pointer (some ⟨gl,0,none⟩)]] :: (rowsS k HO (labT nbk k L k) HO (labT nbk k L k) ++ (rowsS k HI (labT nak k L k) HI (labT nak k L k) ++ []))) ++ [.own 3 1 q2 k c2 (encI L)]) ++ [.blk w.heap.size 27 #[.slice po no co,.slice pt nt ct,.slice pr nr cr,.slice pv nv cv]]))):=by
     have T0:Sep w wr (.blk (w.heap.size+1) 67 #[.slice none 0 0,.slice none 0 0] :: (((.blk gl 67 #[.slice qO k k,.slice qI k k] :: .own 32 1 qO k k (encH HO) :: .own 32 1 qI k k (encH HI) :: .blk w3.heap.size 131 #[.func (.func 84) #[] #[.pointer (some ⟨w.heap.size,0,none⟩)],.func (.func 85) #[] #[.pointer (some ⟨gl,0,none⟩)]] :: .blk (w3.heap.size+1) 131 #[.func (.func 86) #[] #[.pointer (some ⟨w.heap.size,0,none⟩)],.func (.func 87) #[] #[.pointer (some ⟨gl,0,none⟩)]] :: (rowsS k HO (labT nbk k L k) HO (labT nbk k L k) ++ (rowsS k HI (labT nak k L k) HI (labT nak k L k) ++ []))) ++ [.own 3 1 q2 k c2 (encI L)]) ++ [.blk w.heap.size 27 #[.slice po no co,.slice pt nt ct,.slice pr nr cr,.slice pv nv cv]])):=SF.out.perm (by
      have e:(.blk gl 67 #[.slice qO k k,.slice qI k k] :: .own 32 1 qO k k (encH HO) :: .own 32 1 qI k k (encH HI) :: .blk w3.heap.size 131 #[.func (.func 84) #[] #[.pointer (some ⟨w.heap.size,0,none⟩)],.func (.func 85) #[] #[.pointer (some ⟨gl,0,none⟩)]] :: .blk (w3.heap.size+1) 131 #[.func (.func 86) #[] #[.pointer (some ⟨w.heap.size,0,none⟩)],.func (.func 87) #[] #[.pointer (some ⟨gl,0,none⟩)]] :: (rowsS k HO (labT nbk k L k) HO (labT nbk k L k) ++ (rowsS k HI (labT nak k L k) HI (labT nak k L k) ++ []))) ++ [.own 3 1 q2 k c2 (encI L),.blk (w.heap.size+1) 67 #[.slice none 0 0,.slice none 0 0],.blk w.heap.size 27 #[.slice po no co,.slice pt nt ct,.slice pr nr cr,.slice pv nv cv]]=((.blk gl 67 #[.slice qO k k,.slice qI k k] :: .own 32 1 qO k k (encH HO) :: .own 32 1 qI k k (encH HI) :: .blk w3.heap.size 131 #[.func (.func 84) #[] #[.pointer (some ⟨w.heap.size,0,none⟩)],.func (.func 85) #[] #[.pointer (some ⟨gl,0,none⟩)]] :: .blk (w3.heap.size+1) 131 #[.func (.func 86) #[] #[.pointer (some ⟨w.heap.size,0,none⟩)],.func (.func 87) #[] #[.pointer (some ⟨gl,0,none⟩)]] :: (rowsS k HO (labT nbk k L k) HO (labT nbk k L k) ++ (rowsS k HI (labT nak k L k) HI (labT nak k L k) ++ []))) ++ [.own 3 1 q2 k c2 (encI L)]) ++ Pc.blk (w.heap.size+1) 67 #[.slice none 0 0,.slice none 0 0] :: [.blk w.heap.size 27 #[.slice po no co,.slice pt nt ct,.slice pr nr cr,.slice pv nv cv]]:=by simp
      refine List.Perm.trans (List.perm_middle (a:=Pc.blk (w.heap.size+1) 67 #[.slice none 0 0,.slice none 0 0]) (l₁:=(.blk gl 67 #[.slice qO k k,.slice qI k k] :: .own 32 1 qO k k (encH HO) :: .own 32 1 qI k k (encH HI) :: .blk w3.heap.size 131 #[.func (.func 84) #[] #[.pointer (some ⟨w.heap.size,0,none⟩)],.func (.func 85) #[] #[.pointer (some ⟨gl,0,none⟩)]] :: .blk (w3.heap.size+1) 131 #[.func (.func 86) #[] #[.pointer (some ⟨w.heap.size,0,none⟩)],.func (.func 87) #[] #[.pointer (some ⟨gl,0,none⟩)]] :: (rowsS k HO (labT nbk k L k) HO (labT nbk k L k) ++ (rowsS k HI (labT nak k L k) HI (labT nak k L k) ++ []))) ++ [.own 3 1 q2 k c2 (encI L)]) (l₂:=[.blk w.heap.size 27 #[.slice po no co,.slice pt nt ct,.slice pr nr cr,.slice pv nv cv]])).symm ?_
      rw [← e]
      exact List.Perm.refl _)
     exact(T0.set 0 rfl 0 (.slice qO k k)).set 0 rfl 1 (.slice qI k k)
    obtain⟨c0,c1⟩:=bkc0c1 (T2.out.blk 0 rfl)
    simp at c0 c1
    clear SF
    have SK:=Lib.hid S;clear S
    go_wp2
    refine bodyPost_ret (v:=.tuple #[.agg #[.slice qO k k,.slice qI k k],.int .i64 0]) (by simp [results,Tryz.results45,go_sem,c0,c1,Tryz.sizeOf67,Tryz.isAgg67]) rfl ⟨qO,k,qI,k,HO,HI,rfl,?_⟩
    exact T2.out.sub (List.Sublist.cons _ (by
     refine List.Sublist.trans ?_ (List.sublist_append_left _ _)
     refine List.Sublist.trans ?_ (List.sublist_append_left _ _)
     exact .cons _ (.cons_cons _ (.cons_cons _ (.cons _ (.cons _ (List.Sublist.refl _)))))))
end
section
open Go Go.RowKit Go.Maps
theorem BuildG_no (po:Option Addr) (no co:Nat) (O:List Int) (pt:Option Addr) (nt ct:Nat) (T:List Int) (pr:Option Addr) (nr cr:Nat) (R:List Int) (pv:Option Addr) (nv cv:Nat) (V:List Int) (w:World) (hO:Rd w 1 po no (encI O)) (hT:Rd w 1 pt nt (encI T)) (hR:Rd w 1 pr nr (encI R)) (hV:Rd w 1 pv nv (encI V)) (hct:nt≤ct) (hcv:nv≤cv) (hck:checkR O T R V=false) :
  Calls Tryz.prog 45 #[.agg #[.slice po no co,.slice pt nt ct,.slice pr nr cr,.slice pv nv cv]] w fun e w'=>e=.returned (.tuple #[.agg #[.slice none 0 0,.slice none 0 0],.int .i64 40])∧Ext w w':=by
 have HC:=Lib.hid (fun W1 (h:Ext w W1)=>CheckR po no co O pt nt ct T pr nr cr R pv nv cv V W1 (hO.ext h) (hT.ext h) (hR.ext h) (hV.ext h) hct hcv)
 rw [hck] at HC
 have S0:=Lib.hid (((Sep.start w).al #[.slice po no co,.slice pt nt ct,.slice pr nr cr,.slice pv nv cv] 27 w.heap.size rfl).al #[.slice none 0 0,.slice none 0 0] 67 (w.heap.size+1) (by simp))
 clear hO hT hR hV hct hcv hck
 go_enter Tryz.func45,Tryz.ntmps45
 go_wp2_with (go_at_call 82;go_must (refine(HC.out _ S0.out.ext).mono ?_;rintro e w1 ⟨rfl,hb⟩;have S1:=Lib.hid (S0.out.call hb);have l0:=((S0.out.call hb).blk 0 rfl).cell 0;have l1:=((S0.out.call hb).blk 0 rfl).cell 1;have lz:=((S0.out.call hb).blk 0 rfl).lt;have lf0:=((S0.out.call hb).blk 0 rfl).frozen 0;have lf1:=((S0.out.call hb).blk 0 rfl).frozen 1;clear hb))
 have T:=(S1.out.set 0 rfl 0 (.slice none 0 0)).set 0 rfl 1 (.slice none 0 0)
 obtain⟨c0,c1⟩:=bkc0c1 (T.blk 0 rfl)
 simp at c0 c1
 refine bodyPost_ret (v:=.tuple #[.agg #[.slice none 0 0,.slice none 0 0],.int .i64 40]) (by simp [results,Tryz.results45,go_sem,c0,c1,Tryz.sizeOf67,Tryz.isAgg67]) rfl ⟨rfl,T.ext⟩
def okH (n:Int) (x:Int × Int):Bool:=decide (0≤x.1∧x.1<n∧0≤x.2∧x.2≤200)
def rightB (l:List (Int × Int)) (n:Int):Bool:=l.all (okH n) && decide ((l.map (·.1)).Nodup)
def OkRt (l:List (Int × Int)) (n:Int) (k:Nat):Prop:=(l.take k).all (okH n)=true∧((l.take k).map (·.1)).Nodup
theorem right_no1 {l:List (Int × Int)} {n:Int} {k:Nat} (hk:k<l.length) (h:okH n (nth l k)=false):rightB l n=false:=by
 unfold rightB
 have:l.all (okH n)=false:=by
  rw [← Bool.not_eq_true,List.all_eq_true]
  intro hc
  have:=hc _ (nth_mem hk)
  rw [h] at this;cases this
 rw [this];rfl
theorem right_no2 {l:List (Int × Int)} {n:Int} {k:Nat} (hk:k<l.length) (h:(nth l k).1∈(l.take k).map (·.1)):rightB l n=false:=by
 unfold rightB
 have:¬ (l.map (·.1)).Nodup:=fun hn=>by
  have e:l.map (·.1)=(l.take k).map (·.1) ++ (l.drop k).map (·.1):=by rw [← List.map_append,List.take_append_drop]
  rw [e,List.nodup_append] at hn
  refine absurd rfl (hn.2.2 _ h (nth l k).1 ?_)
  rw [List.drop_eq_getElem_cons hk,← nth_eq hk]
  simp
 rw [decide_eq_false this,Bool.and_false]
theorem right_step {l:List (Int × Int)} {n:Int} {k:Nat} (hk:k<l.length) (h:OkRt l n k) (h1:okH n (nth l k)=true) (h2:(nth l k).1 ∉ (l.take k).map (·.1)):OkRt l n (k+1):=by
 unfold OkRt
 rw [take_succ_nth l k hk,List.all_append,List.map_append]
 refine⟨by rw [h.1];simp [h1],?_⟩
 rw [List.nodup_append]
 refine⟨h.2,by simp,fun a ha b hb e=>?_⟩
 simp at hb
 subst hb;subst e
 exact h2 ha
theorem right_end {l:List (Int × Int)} {n:Int} {k:Nat} (hk:k=l.length) (h:OkRt l n k):rightB l n=true:=by
 subst hk
 unfold OkRt at h
 rw [List.take_length] at h
 unfold rightB
 rw [h.1,decide_eq_true h.2];rfl
theorem okRt_len {l:List (Int × Int)} {n k:Nat} (h:OkRt l n k):((l.take k).map (·.1)).length≤n:=nodup_small h.2 fun x hx=>by
 obtain⟨y,hy,rfl⟩:=List.mem_map.1 hx
 have:=List.all_eq_true.1 h.1 y hy
 unfold okH at this
 rw [decide_eq_true_eq] at this
 omega
theorem RightG (p:Option Addr) (m c:Nat) (l:List (Int × Int)) (n:Nat) (w:World) (hl:Rd w 2 p m (encE l)) (hn:n≤100000) :
  Calls Tryz.prog 126 #[.slice p m c,.int .i64 n] w fun e w'=>e=.returned (.bool (rightB l n))∧Ext w w':=by
 have L1:=Lib.hid hl.nE
 have p1:=hl.ptr
 have n1:=hl.small
 have HL:=Lib.hid hl;clear hl
 have hmm:=@run_makeMap Tryz.prog
 have S0:=Lib.hid ((Sep.start w).mkmap EBm (k:=3))
 go_enter Tryz.func126,Tryz.ntmps126
 go_wp2
 go_loopw [7,11] (fun _ i wr=>∃ (k mm:Nat) (f:Int→Option Bool),k≤m∧i=.int .i64 k∧Hid (OkRt l n k)∧mm≤((l.take k).map (·.1)).length∧Sep w wr [.map Tryz.prog 3 EBm w.heap.size mm f]∧∀ x,f x=some true↔x∈(l.take k).map (·.1)) (fun _ i _=>m - (intOf i).toNat)
 case atStart=>exact⟨0,0,_,Nat.zero_le _,rfl,⟨rfl,List.nodup_nil⟩,Nat.le_refl _,S0.out,fun x=>by simp⟩
 case round =>
  clear S0
  obtain⟨k,mm,f,hk,rfl,ok,hmk,S,hf⟩:=hrel
  by_cases hlt:k<m
  ·have hkL:k<l.length:=by rw [← L1.out];exact hlt
   have HKN:=Lib.hid (okRt_len ok.out)
   have g1:=S.ext.cell (HL.out.cE hlt)
   have g2:=S.ext.cell (HL.out.cE2 hlt)
   have d1:(0:Int)≤k:=by omega
   have d2:(k:Int)<m:=by omega
   have HN1:Hid (okH n (nth l k)=false→rightB l n=false):=fun h=>right_no1 hkL h
   have HN2:Hid ((nth l k).1∈(l.take k).map (·.1)→rightB l n=false):=fun h=>right_no2 hkL h
   have HST:Hid (okH n (nth l k)=true→(nth l k).1 ∉ (l.take k).map (·.1)→OkRt l n (k+1)):=fun h1 h2=>right_step hkL ok.out h1 h2
   have HTK:Hid ((l.take (k+1)).map (·.1)=(l.take k).map (·.1) ++ [(nth l k).1]):=by unfold Hid;rw [take_succ_nth l k hkL,List.map_append];rfl
   generalize (l.take k).map (·.1)=K at *
   generalize nth l k=x at *
   obtain⟨x1,x2⟩:=x
   simp only at *
   unfold okH at HN1 HST
   simp only at HN1 HST
   by_cases h1:x1<0
   ·have f1:decide (x1<0)=true:=by simpa using h1
    have HF:Hid (rightB l n=false):=HN1.out (decide_eq_false (by omega))
    clear HN1 HN2 HST HTK hf h1 ok
    have SH:=Lib.hid S;clear S
    go_wp2
    go_ret
    exact⟨by rw [HF.out];rfl,Ext.trans SH.out.ext (Ext.alloc (Below.refl _ _) _)⟩
   ·have f1:decide (x1<0)=false:=by simpa using h1
    by_cases h2:(n:Int)≤x1
    ·have f2:decide ((n:Int)≤x1)=true:=by simpa using h2
     have HF:Hid (rightB l n=false):=HN1.out (decide_eq_false (by omega))
     clear HN1 HN2 HST HTK hf h1 h2 ok
     have SH:=Lib.hid S;clear S
     go_wp2
     go_ret
     exact⟨by rw [HF.out];rfl,Ext.trans SH.out.ext (Ext.alloc (Below.refl _ _) _)⟩
    ·have f2:decide ((n:Int)≤x1)=false:=by simpa using h2
     by_cases h3:x2<0
     ·have f3:decide (x2<0)=true:=by simpa using h3
      have HF:Hid (rightB l n=false):=HN1.out (decide_eq_false (by omega))
      clear HN1 HN2 HST HTK hf h1 h2 h3 ok
      have SH:=Lib.hid S;clear S
      go_wp2
      go_ret
      exact⟨by rw [HF.out];rfl,Ext.trans SH.out.ext (Ext.alloc (Below.refl _ _) _)⟩
     ·have f3:decide (x2<0)=false:=by simpa using h3
      by_cases h4:200<x2
      ·have f4:decide (200<x2)=true:=by simpa using h4
       have HF:Hid (rightB l n=false):=HN1.out (decide_eq_false (by omega))
       clear HN1 HN2 HST HTK hf h1 h2 h3 h4 ok
       have SH:=Lib.hid S;clear S
       go_wp2
       go_ret
       exact⟨by rw [HF.out];rfl,Ext.trans SH.out.ext (Ext.alloc (Below.refl _ _) _)⟩
      ·have f4:decide (200<x2)=false:=by simpa using h4
       obtain⟨b,rfl⟩:∃ b:Nat,x1=b:=⟨x1.toNat,by omega⟩
       have f2n:decide (n≤b)=false:=by simp;omega
       have hok:decide (0≤(b:Int)∧(b:Int)<n∧0≤x2∧x2≤200)=true:=decide_eq_true (by omega)
       have HS2:Hid ((b:Int) ∉ K→OkRt l n (k+1)):=HST.out hok
       have HIb:Hid (I64 (b:Int)):=I64.nat (by omega)
       have S2:=Lib.hid (S.junk (.cells #[.int .i64 (b:Int),.int .i64 x2] 105))
       have hlk:=(S2.out.map 0 rfl).lookup Tryz.underlying3 Tryz.underlying251 HIb.out
       obtain⟨u,hu⟩:∃ u,u=(f (b:Int)).getD EBm.z:=⟨_,rfl⟩
       rw [← hu] at hlk
       have hlk2:(Instr.lookup 251 (.map (some w.heap.size)) (.int .i64 (b:Int)) false).run Tryz.prog (wr.alloc (.cells #[.int .i64 (b:Int),.int .i64 x2] 105))=.ok (.bool u) (wr.alloc (.cells #[.int .i64 (b:Int),.int .i64 x2] 105)):=hlk
       have hui:u=true↔(b:Int)∈K:=by
        rw [← hf,hu]
        cases hfb:f (b:Int) with
        | none=>simp;decide
        | some t=>simp
       clear hlk hu HN1 HST h1 h2 h3 h4 ok hok
       have HFN:=Lib.hid hf;clear hf
       have SH:=Lib.hid S;clear S
       cases u with
       | true =>
        have HF:Hid (rightB l n=false):=HN2.out (hui.1 rfl)
        clear hui HN2
        go_wp2
        go_ret
        exact⟨by rw [HF.out];rfl,S2.out.ext⟩
       | false =>
        have HO:Hid (OkRt l n (k+1)):=HS2.out fun h=>by have:=hui.2 h;cases this
        clear hui HN2 HS2
        go_wp2_with (at_mapUpdate;go_must (refine wpList_update_sep rfl _ _ _ _ rfl Tryz.underlying3 Tryz.underlying251 rfl S2.out 0 rfl (by have:=HKN.out;omega) (b:Int) true rfl rfl HIb.out ?_;intro w1 S1 hg;have S3:=Lib.hid S1;clear S1 hg))
        go_roundw
        case rel=>exact⟨k+1,mm+1,_,by omega,by go_num,HO.out,by rw [HTK.out,List.length_append,List.length_singleton];omega,S3.out,fun x=>by
         rw [HTK.out,List.mem_append,List.mem_singleton,← HFN.out x]
         unfold upF
         by_cases e:x=(b:Int) <;> simp [e]⟩
        case measure=>simp [intOf];omega
  ·obtain rfl:k=m:=by omega
   have HF:=Lib.hid (right_end L1.out ok.out)
   clear hf ok
   have SH:=Lib.hid S;clear S
   go_wp2
   go_ret
   exact⟨by rw [HF.out];rfl,SH.out.ext⟩
end
section
open Go Go.RowKit
structure RdT (w:World) (p:Option Addr) (n:Nat) (hs:List Hd) (T:SrT):Prop where
 row:Rd w 1 p n (encH hs)
 len:T.length=n
 each:∀ j,j<n→Rd w 2 (nth hs j).p (nth hs j).n (encE (nth T j))
theorem RdT.ext {w w':World} {p:Option Addr} {n:Nat} {hs:List Hd} {T:SrT} (h:RdT w p n hs T) (he:Ext w w'):RdT w' p n hs T:=⟨h.row.ext he,h.len,fun j hj=>(h.each j hj).ext he⟩
def lchkB (A B:SrT):Bool:=decide (1≤A.length∧A.length≤200∧B.length=A.length) && (List.range A.length).all fun v=>rightB (nth A v) A.length && rightB (nth B v) A.length
theorem lchk_no1 {A B:SrT} (h:¬ (1≤A.length∧A.length≤200∧B.length=A.length)):lchkB A B=false:=by unfold lchkB;rw [decide_eq_false h];rfl
theorem lchk_no2 {A B:SrT} {v:Nat} (hv:v<A.length) (h:(rightB (nth A v) A.length && rightB (nth B v) A.length)=false):lchkB A B=false:=by
 unfold lchkB
 have:((List.range A.length).all fun v=>rightB (nth A v) A.length && rightB (nth B v) A.length)=false:=by
  rw [← Bool.not_eq_true,List.all_eq_true]
  intro hc
  have:=hc v (List.mem_range.2 hv)
  rw [h] at this;cases this
 rw [this,Bool.and_false]
theorem lchk_yes {A B:SrT} (h:1≤A.length∧A.length≤200∧B.length=A.length) (h2:∀ v,v<A.length→(rightB (nth A v) A.length && rightB (nth B v) A.length)=true):lchkB A B=true:=by
 unfold lchkB
 rw [decide_eq_true h,Bool.true_and,List.all_eq_true]
 exact fun v hv=>h2 v (List.mem_range.1 hv)
theorem lchk_parts {A B:SrT} (h:lchkB A B=true):(1≤A.length∧A.length≤200∧B.length=A.length)∧∀ v,v<A.length→rightB (nth A v) A.length=true∧rightB (nth B v) A.length=true:=by
 unfold lchkB at h
 rw [Bool.and_eq_true,decide_eq_true_eq,List.all_eq_true] at h
 refine⟨h.1,fun v hv=>?_⟩
 have:=h.2 v (List.mem_range.2 hv)
 rwa [Bool.and_eq_true] at this
theorem right_sm {l:List (Int × Int)} {n:Int} (h:rightB l n=true):SmH l:=fun x hx=>by
 unfold rightB at h
 rw [Bool.and_eq_true,List.all_eq_true] at h
 have:=h.1 x hx
 unfold okH at this
 rw [decide_eq_true_eq] at this
 omega
theorem LCheckG (pA:Option Addr) (nA cA:Nat) (hA:List Hd) (A:SrT) (pB:Option Addr) (nB cB:Nat) (hB:List Hd) (B:SrT) (w:World) (RA:RdT w pA nA hA A) (RB:RdT w pB nB hB B):Calls Tryz.prog 75 #[.agg #[.slice pA nA cA,.slice pB nB cB]] w fun e w'=>e=.returned (.bool (lchkB A B))∧Ext w w':=by
 have S0:=Lib.hid ((Sep.start w).al #[.slice pA nA cA,.slice pB nB cB] 67 w.heap.size rfl)
 have hlA:=RA.len
 have hlB:=RB.len
 by_cases hp:1≤nA∧nA≤200∧nB=nA
 ·obtain⟨h1,h2,rfl⟩:=hp
  have c1:decide ((nB:Int)<1)=false:=by simp;omega
  have c2:decide ((200:Int)<nB)=false:=by simp;omega
  have c3:((nB:Int) != (nB:Int))=false:=by simp
  have HY:Hid ((∀ v,v<nB→(rightB (nth A v) nB && rightB (nth B v) nB)=true)→lchkB A B=true):=fun h=>lchk_yes ⟨by omega,by omega,by omega⟩ fun v hv=>by have:=h v (by omega);rw [hlA];exact this
  have HN:Hid (∀ v,v<nB→(rightB (nth A v) nB && rightB (nth B v) nB)=false→lchkB A B=false):=fun v hv h=>lchk_no2 (v:=v) (by omega) (by rw [hlA];exact h)
  have HPA:=Lib.hid RA
  have HPB:=Lib.hid RB
  have pA':=RA.row.ptr
  have pB':=RB.row.ptr
  clear hlA hlB RA RB
  go_enter Tryz.func75,Tryz.ntmps75
  go_wp2
  go_loopw [4,22] (fun _ i wr=>∃ k:Nat,k≤nB∧i=.int .i64 k∧Hid (∀ v,v<k→(rightB (nth A v) nB && rightB (nth B v) nB)=true)∧Sep w wr [.blk w.heap.size 67 #[.slice pA nB cA,.slice pB nB cB]]) (fun _ i _=>nB - (intOf i).toNat)
  case atStart=>exact⟨0,Nat.zero_le _,rfl,fun v hv=>by omega,S0.out⟩
  case round =>
   clear S0
   obtain⟨k,hk,rfl,HK,S⟩:=hrel
   obtain⟨b0,b1,bz⟩:=bkc0c1l (S.blk 0 rfl)
   by_cases hlt:k<nB
   ·have gA:=S.ext.cell (HPA.out.row.cH hlt)
    have gB:=S.ext.cell (HPB.out.row.cH hlt)
    have d1:(0:Int)≤k:=by omega
    have d2:(k:Int)<nB:=by omega
    have eA:=HPA.out.each k hlt
    have eB:=HPB.out.each k hlt
    have HRA:=Lib.hid (fun W (h:Ext w W)=>RightG (nth hA k).p (nth hA k).n (nth hA k).c (nth A k) nB W (eA.ext h) (by omega))
    have HRB:=Lib.hid (fun W (h:Ext w W)=>RightG (nth hB k).p (nth hB k).n (nth hB k).c (nth B k) nB W (eB.ext h) (by omega))
    obtain⟨ha,hha⟩:∃ x,nth hA k=x:=⟨_,rfl⟩
    obtain⟨hb,hhb⟩:∃ x,nth hB k=x:=⟨_,rfl⟩
    rw [hha] at gA HRA
    rw [hhb] at gB HRB
    obtain⟨ap,an,ac⟩:=ha
    obtain⟨bp,bn,bc⟩:=hb
    simp only at gA gB HRA HRB
    have gB3:=fun W (h:Ext wr W)=>h.cell gB
    clear eA eB hha hhb
    cases hr1:rightB (nth A k) nB with
    | false =>
     have HF:Hid (lchkB A B=false):=HN.out k hlt (by rw [hr1];rfl)
     rw [hr1] at HRA
     clear hr1 HN HY HK gB3
     have SH:=Lib.hid S;clear S
     go_wp2_with (go_at_call 126;have _t:=SH;go_must (refine(HRA.out _ SH.out.ext).mono ?_;rintro e w3 ⟨rfl,hb⟩;have S3:=Lib.hid (SH.out.call hb);have z0:=((SH.out.call hb).blk 0 rfl).cell 0;have z1:=((SH.out.call hb).blk 0 rfl).cell 1;have zz:=((SH.out.call hb).blk 0 rfl).lt;clear hb))
     go_ret
     exact⟨by rw [HF.out];rfl,S3.out.ext⟩
    | true =>
     rw [hr1] at HRA
     cases hr2:rightB (nth B k) nB with
     | false =>
      have HF:Hid (lchkB A B=false):=HN.out k hlt (by rw [hr1,hr2];rfl)
      rw [hr2] at HRB
      clear hr1 hr2 HN HY HK
      have HG3:=Lib.hid gB3
      clear gB3
      have SH:=Lib.hid S;clear S
      go_wp2_with (first | (go_at_call 126;have _t:=S3;go_must (refine(HRB.out _ S3.out.ext).mono ?_;rintro e w4 ⟨rfl,hb⟩;have S4:=Lib.hid (S3.out.call hb);clear hb)) | (go_at_call 126;have _t:=SH;go_must (refine(HRA.out _ SH.out.ext).mono ?_;rintro e w3 ⟨rfl,hb⟩;have S3:=Lib.hid (SH.out.call hb);have g3:=HG3.out _ hb;have z0:=((SH.out.call hb).blk 0 rfl).cell 0;have z1:=((SH.out.call hb).blk 0 rfl).cell 1;have zz:=((SH.out.call hb).blk 0 rfl).lt;clear hb)))
      go_ret
      exact⟨by rw [HF.out];rfl,S4.out.ext⟩
     | true =>
      have HK2:Hid (∀ v,v<k+1→(rightB (nth A v) nB && rightB (nth B v) nB)=true):=fun v hv=>by
       by_cases e:v=k
       ·subst e;rw [hr1,hr2];rfl
       ·exact HK.out v (by omega)
      rw [hr2] at HRB
      clear hr1 hr2 HN HY HK
      have HG3:=Lib.hid gB3
      clear gB3
      have SH:=Lib.hid S;clear S
      go_wp2_with (first | (go_at_call 126;have _t:=S3;go_must (refine(HRB.out _ S3.out.ext).mono ?_;rintro e w4 ⟨rfl,hb⟩;have S4:=Lib.hid (S3.out.call hb);clear hb)) | (go_at_call 126;have _t:=SH;go_must (refine(HRA.out _ SH.out.ext).mono ?_;rintro e w3 ⟨rfl,hb⟩;have S3:=Lib.hid (SH.out.call hb);have g3:=HG3.out _ hb;have z0:=((SH.out.call hb).blk 0 rfl).cell 0;have z1:=((SH.out.call hb).blk 0 rfl).cell 1;have zz:=((SH.out.call hb).blk 0 rfl).lt;clear hb)))
      go_roundw
      case rel=>exact⟨k+1,by omega,by go_num,HK2.out,S4.out⟩
      case measure=>simp [intOf];omega
   ·obtain rfl:k=nB:=by omega
    have HF:Hid (lchkB A B=true):=HY.out HK.out
    have SH:=Lib.hid S;clear S
    go_wp2
    go_ret
    exact⟨by rw [HF.out];rfl,SH.out.ext⟩
 ·have HF:Hid (lchkB A B=false):=lchk_no1 (by omega)
  clear RA RB hlA hlB
  by_cases h1:nA<1
  ·have c1:decide ((nA:Int)<1)=true:=by simp;omega
   clear hp h1
   go_enter Tryz.func75,Tryz.ntmps75
   go_wp2
   go_ret
   exact⟨by rw [HF.out];rfl,S0.out.ext⟩
  ·have c1:decide ((nA:Int)<1)=false:=by simp;omega
   by_cases h2:200<nA
   ·have c2:decide ((200:Int)<nA)=true:=by simp;omega
    clear hp h1 h2
    go_enter Tryz.func75,Tryz.ntmps75
    go_wp2
    go_ret
    exact⟨by rw [HF.out];rfl,S0.out.ext⟩
   ·have c2:decide ((200:Int)<nA)=false:=by simp;omega
    have c3:((nB:Int) != (nA:Int))=true:=by simp;omega
    clear hp h1 h2
    go_enter Tryz.func75,Tryz.ntmps75
    go_wp2
    go_ret
    exact⟨by rw [HF.out];rfl,S0.out.ext⟩
end
section
open Go Go.RowKit
def queryB (A B:SrT) (f t:Int):Bool:=lchkB A B && decide (0≤f) && decide (f<A.length) && decide (0≤t) && decide (t<A.length)
def queryN (A B:SrT) (f t:Int):Int:=if queryB A B f t=true then (leastV (nth A f.toNat) (nth B t.toNat)).1 else 0
def queryO (A B:SrT) (f t:Int):Bool:=if queryB A B f t=true then (leastV (nth A f.toNat) (nth B t.toNat)).2 else false
def queryC (A B:SrT) (f t:Int):Int:=if queryB A B f t=true then 0 else 1
theorem LQueryG (pA:Option Addr) (nA cA:Nat) (hA:List Hd) (A:SrT) (pB:Option Addr) (nB cB:Nat) (hB:List Hd) (B:SrT) (f t:Int) (w:World) (RA:RdT w pA nA hA A) (RB:RdT w pB nB hB B):Calls Tryz.prog 78 #[.agg #[.slice pA nA cA,.slice pB nB cB],.int .i64 f,.int .i64 t] w fun e w'=>e=.returned (.tuple #[.int .i64 (queryN A B f t),.bool (queryO A B f t),.int .i64 (queryC A B f t)])∧Ext w w':=by
 have S0:=Lib.hid ((Sep.start w).al #[.slice pA nA cA,.slice pB nB cB] 67 w.heap.size rfl)
 have HC:=Lib.hid (fun W (h:Ext w W)=>LCheckG pA nA cA hA A pB nB cB hB B W (RA.ext h) (RB.ext h))
 have hlA:=RA.len
 cases hc:lchkB A B with
 | false =>
  rw [hc] at HC
  clear RA RB
  have hq:queryB A B f t=false:=by(unfold queryB;rw [hc];rfl)
  have HQ:Hid (queryN A B f t=0∧queryO A B f t=false∧queryC A B f t=1):=by(unfold Hid queryN queryO queryC;rw [hq];exact⟨rfl,rfl,rfl⟩)
  clear hq hlA hc
  go_enter Tryz.func78,Tryz.ntmps78
  go_wp2_with (go_at_call 75;go_must (refine(HC.out _ S0.out.ext).mono ?_;rintro e w1 ⟨rfl,hb⟩;have S1:=Lib.hid (S0.out.call hb);have x0:=((S0.out.call hb).blk 0 rfl).cell 0;have x1:=((S0.out.call hb).blk 0 rfl).cell 1;have xz:=((S0.out.call hb).blk 0 rfl).lt;clear hb))
  go_ret3
  exact⟨by rw [HQ.out.1,HQ.out.2.1,HQ.out.2.2];rfl,S1.out.ext⟩
 | true =>
  rw [hc] at HC
  by_cases h1:f<0
  ·have c1:decide (f<0)=true:=by simpa using h1
   clear RA RB
   have hq:queryB A B f t=false:=by(unfold queryB;rw [hc,decide_eq_false (show ¬ 0≤f by omega)];rfl)
   have HQ:Hid (queryN A B f t=0∧queryO A B f t=false∧queryC A B f t=1):=by(unfold Hid queryN queryO queryC;rw [hq];exact⟨rfl,rfl,rfl⟩)
   clear hq hlA hc h1
   go_enter Tryz.func78,Tryz.ntmps78
   go_wp2_with (go_at_call 75;go_must (refine(HC.out _ S0.out.ext).mono ?_;rintro e w1 ⟨rfl,hb⟩;have S1:=Lib.hid (S0.out.call hb);have x0:=((S0.out.call hb).blk 0 rfl).cell 0;have x1:=((S0.out.call hb).blk 0 rfl).cell 1;have xz:=((S0.out.call hb).blk 0 rfl).lt;clear hb))
   go_ret3
   exact⟨by rw [HQ.out.1,HQ.out.2.1,HQ.out.2.2];rfl,S1.out.ext⟩
  ·have c1:decide (f<0)=false:=by simpa using h1
   by_cases h2:(nA:Int)≤f
   ·have c2:decide ((nA:Int)≤f)=true:=by simpa using h2
    clear RA RB
    have hq:queryB A B f t=false:=by(unfold queryB;rw [decide_eq_false (show ¬ f<A.length by omega)];simp)
    have HQ:Hid (queryN A B f t=0∧queryO A B f t=false∧queryC A B f t=1):=by(unfold Hid queryN queryO queryC;rw [hq];exact⟨rfl,rfl,rfl⟩)
    clear hq hlA hc h1 h2
    go_enter Tryz.func78,Tryz.ntmps78
    go_wp2_with (go_at_call 75;go_must (refine(HC.out _ S0.out.ext).mono ?_;rintro e w1 ⟨rfl,hb⟩;have S1:=Lib.hid (S0.out.call hb);have x0:=((S0.out.call hb).blk 0 rfl).cell 0;have x1:=((S0.out.call hb).blk 0 rfl).cell 1;have xz:=((S0.out.call hb).blk 0 rfl).lt;clear hb))
    go_ret3
    exact⟨by rw [HQ.out.1,HQ.out.2.1,HQ.out.2.2];rfl,S1.out.ext⟩
   ·have c2:decide ((nA:Int)≤f)=false:=by simpa using h2
    by_cases h3:t<0
    ·have c3:decide (t<0)=true:=by simpa using h3
     clear RA RB
     have hq:queryB A B f t=false:=by(unfold queryB;rw [decide_eq_false (show ¬ 0≤t by omega)];simp)
     have HQ:Hid (queryN A B f t=0∧queryO A B f t=false∧queryC A B f t=1):=by(unfold Hid queryN queryO queryC;rw [hq];exact⟨rfl,rfl,rfl⟩)
     clear hq hlA hc h1 h2 h3
     go_enter Tryz.func78,Tryz.ntmps78
     go_wp2_with (go_at_call 75;go_must (refine(HC.out _ S0.out.ext).mono ?_;rintro e w1 ⟨rfl,hb⟩;have S1:=Lib.hid (S0.out.call hb);have x0:=((S0.out.call hb).blk 0 rfl).cell 0;have x1:=((S0.out.call hb).blk 0 rfl).cell 1;have xz:=((S0.out.call hb).blk 0 rfl).lt;clear hb))
     go_ret3
     exact⟨by rw [HQ.out.1,HQ.out.2.1,HQ.out.2.2];rfl,S1.out.ext⟩
    ·have c3:decide (t<0)=false:=by simpa using h3
     by_cases h4:(nA:Int)≤t
     ·have c4:decide ((nA:Int)≤t)=true:=by simpa using h4
      clear RA RB
      have hq:queryB A B f t=false:=by(unfold queryB;rw [decide_eq_false (show ¬ t<A.length by omega)];simp)
      have HQ:Hid (queryN A B f t=0∧queryO A B f t=false∧queryC A B f t=1):=by(unfold Hid queryN queryO queryC;rw [hq];exact⟨rfl,rfl,rfl⟩)
      clear hq hlA hc h1 h2 h3 h4
      go_enter Tryz.func78,Tryz.ntmps78
      go_wp2_with (go_at_call 75;go_must (refine(HC.out _ S0.out.ext).mono ?_;rintro e w1 ⟨rfl,hb⟩;have S1:=Lib.hid (S0.out.call hb);have x0:=((S0.out.call hb).blk 0 rfl).cell 0;have x1:=((S0.out.call hb).blk 0 rfl).cell 1;have xz:=((S0.out.call hb).blk 0 rfl).lt;clear hb))
      go_ret3
      exact⟨by rw [HQ.out.1,HQ.out.2.1,HQ.out.2.2];rfl,S1.out.ext⟩
     ·have c4:decide ((nA:Int)≤t)=false:=by simpa using h4
      have hq:queryB A B f t=true:=by
       unfold queryB
       rw [hc,decide_eq_true (show 0≤f by omega),decide_eq_true (show f<A.length by omega),decide_eq_true (show 0≤t by omega),decide_eq_true (show t<A.length by omega)];rfl
      unfold queryN queryO queryC
      rw [if_pos hq,if_pos hq,if_pos hq]
      obtain⟨a,rfl⟩:∃ a:Nat,f=a:=⟨f.toNat,by omega⟩
      obtain⟨b,rfl⟩:∃ b:Nat,t=b:=⟨t.toNat,by omega⟩
      rw [Int.toNat_natCast,Int.toNat_natCast]
      obtain⟨⟨p1,p2,p3⟩,p4⟩:=lchk_parts hc
      have hlB:=RB.len
      have ha:a<nA:=by omega
      have hb:b<nB:=by omega
      have eA:=RA.each a ha
      have eB:=RB.each b hb
      have gA:=RA.row.cH ha
      have gB:=RB.row.cH hb
      have qA:=RA.row.ptr
      have qB:=RB.row.ptr
      have HL:=Lib.hid (fun W (h:Ext w W)=>LeastG (nth hA a).p (nth hA a).n (nth hA a).c (nth A a) (nth hB b).p (nth hB b).n (nth hB b).c (nth B b) W (eA.ext h) (eB.ext h) (right_sm (p4 a (by omega)).1) (right_sm (p4 b (by omega)).2))
      obtain⟨xa,hxa⟩:∃ x,nth hA a=x:=⟨_,rfl⟩
      obtain⟨xb,hxb⟩:∃ x,nth hB b=x:=⟨_,rfl⟩
      rw [hxa] at gA HL
      rw [hxb] at gB HL
      obtain⟨ap,an,ac⟩:=xa
      obtain⟨bp,bn,bc⟩:=xb
      simp only at gA gB HL
      obtain⟨r,hr⟩:∃ r,leastV (nth A a) (nth B b)=r:=⟨_,rfl⟩
      rw [hr] at HL ⊢
      obtain⟨rn,rk⟩:=r
      simp only at HL ⊢
      have d1:(0:Int)≤a:=by omega
      have d2:(a:Int)<nA:=by omega
      have d3:(0:Int)≤b:=by omega
      have d4:(b:Int)<nB:=by omega
      have HGA:=Lib.hid gA
      have HGB:=Lib.hid gB
      have c2n:decide (nA≤a)=false:=by simp;omega
      have c4n:decide (nA≤b)=false:=by simp;omega
      clear RA RB hlA hlB hq hc h1 h2 h3 h4 p1 p2 p3 p4 eA eB hxa hxb hr gA gB
      go_enter Tryz.func78,Tryz.ntmps78
      go_wp2_with (go_at_call 75;go_must (refine(HC.out _ S0.out.ext).mono ?_;rintro e w1 ⟨rfl,hb⟩;have S1:=Lib.hid (S0.out.call hb);have x0:=((S0.out.call hb).blk 0 rfl).cell 0;have x1:=((S0.out.call hb).blk 0 rfl).cell 1;have xz:=((S0.out.call hb).blk 0 rfl).lt;clear hb))
      have gA:=S1.out.ext.cell HGA.out
      have gB:=S1.out.ext.cell HGB.out
      have u0:=fun x:ExtOf w1=>x.ext.cell x0
      have u1:=fun x:ExtOf w1=>x.ext.cell x1
      have u2:=fun x:ExtOf w1=>x.ext.cell gA
      have u3:=fun x:ExtOf w1=>x.ext.cell gB
      refine wp_region_mix [true,true,true,true,true,true,true,true,true,true,false,false,false,false,false,false] (NearQ 10 rn rk) (by kernel_rfl) (by kernel_rfl) (by kernel_rfl) (fun _ _ _ _ _ h=>⟨h.a,h.b',h.c1,h.c2,h.d1,h.d2⟩) ?_
      simp only [nfM]
      repeat (go_big_quiet_step ((fail)))
      refine wpQuiet_nil ⟨⟨fun vs W1 hE hd=>?_,fun vs W1 hE hd=>?_,fun vs W1 hE hd=>?_,fun vs W1 hE hd=>?_,fun vs W1 hE hd=>?_,fun vs W1 hE hd=>?_,trivial⟩,fun vs W1 hE hkn=>?_⟩
      ·(simp [putM,go_sem];exact(HL.out _ (Ext.trans S1.out.ext hE)).mono fun e w' ⟨h1,h2⟩=>⟨_,h1,NearQ.of (by simp),h2⟩)
      ·(have k1:=NearQ.a (hd 10 (by decide +kernel) rfl) rfl;simp [putM,execOp,go_sem,k1];exact⟨NearQ.of (by simp),Below.refl _ _⟩)
      ·(have k1:=NearQ.b' (hd 11 (by decide +kernel) rfl) rfl;simp [putM,execOp,go_sem,k1];exact⟨NearQ.of (by simp),Below.refl _ _⟩)
      ·(have k1:=NearQ.b' (hd 11 (by decide +kernel) rfl) rfl;simp [putM,execOp,go_sem,k1];exact⟨NearQ.of (by simp),Below.refl _ _⟩)
      ·(have k1:=NearQ.c1 (hd 12 (by decide +kernel) rfl) rfl;simp [putM,execOp,go_sem,k1];exact⟨NearQ.of (by simp),Below.refl _ _⟩)
      ·(have k1:=NearQ.c2 (hd 13 (by decide +kernel) rfl) rfl;simp [putM,execOp,go_sem,k1];exact⟨NearQ.of (by simp),Below.refl _ _⟩)
      simp only [knowM] at hkn
      have k1:=NearQ.d1 hkn.2.2.2.2.1 rfl
      have k2:=NearQ.d2 hkn.2.2.2.2.2.1 rfl
      have S2:=Lib.hid (S1.out.call hE)
      simp only [putM,k1,k2,List.length_cons,List.length_nil,Nat.zero_add,Nat.reduceAdd,List.drop_succ_cons,List.drop_zero]
      try simp [Act.put]
      clear u0 u1 u2 u3 k1 k2 hkn x0 x1 xz gA gB hE
      go_wp2
      go_ret3
      exact⟨rfl,S2.out.ext⟩
end
section
open Go Go.RowKit
theorem hubCl (pA:Option Addr) (nA cA:Nat) (pB:Option Addr) (nB cB:Nat) (f t x y:Int) (o:Bool) (gb:Nat) (w:World) (hB:Blk w gb 67 #[.slice pA nA cA,.slice pB nB cB])
  (h:∀ W,Ext w W→Calls Tryz.prog 78 #[.agg #[.slice pA nA cA,.slice pB nB cB],.int .i64 f,.int .i64 t] W fun e w'=>e=.returned (.tuple #[.int .i64 x,.bool o,.int .i64 y])∧Ext W w') :
  Calls Tryz.prog 77 #[.int .i64 f,.int .i64 t,.pointer (some ⟨gb,0,none⟩)] w fun e w'=>e=.returned (.tuple #[.int .i64 x,.bool o,.int .i64 y])∧Ext w w':=by
 have l0:=hB.cell 0
 have l1:=hB.cell 1
 have lz:=hB.lt
 have HQ:=Lib.hid h
 clear h hB
 go_enter Tryz.func77,Tryz.ntmps77
 go_wp2_with (go_at_call 78;go_must (refine(HQ.out _ (Below.refl _ _)).mono ?_;rintro e w1 ⟨rfl,hb⟩;have E1:=Lib.hid hb;clear hb))
 go_ret3
 exact⟨rfl,E1.out⟩
end
section
open Go Go.RowKit
def hubE (c:Bool) (q k:Int):Int:=if c=false then 1 else if q=0 then (if k=3 then 180 else 0) else q
def hubB (c:Bool) (q k:Int) (o:Bool):Bool:=if hubE c q k=0 then o else false
def hubD (c:Bool) (q k x:Int):Int:=if hubE c q k=0 then (if k=2 then 0 else x) else 0
end
section
open Go Go.RowKit
theorem HubK (k:Int) (f t:Int) (pw:Option Addr) (nw cw:Nat) (rad most:Int) (pA:Option Addr) (nA cA:Nat) (pB:Option Addr) (nB cB:Nat) (b:Bool) (d:Int) (F:List (Int × Int)) (ec:Int) (w:World) (h1:∀ W,Ext w W→Calls Tryz.prog 75 #[.agg #[.slice pA nA cA,.slice pB nB cB]] W fun e w'=>e=.returned (.bool true)∧Ext W w') (h2:∀ W,Ext w W→Calls Tryz.prog 76 #[.agg #[.int .i64 k,.int .i64 f,.int .i64 t,.slice pw nw cw,.int .i64 rad,.int .i64 most],.int .i64 (nA:Int)] W fun e w'=>e=.returned (.int .i64 0)∧Ext W w') (HM:∀ W,Ext w W→Blk W (w.heap.size+1) 67 #[.slice pA nA cA,.slice pB nB cB]→Calls Tryz.prog 70 #[.agg #[.int .i64 k,.int .i64 f,.int .i64 t,.slice pw nw cw,.int .i64 rad,.int .i64 most,.func (.func 77) #[] #[.pointer (some ⟨w.heap.size+1,0,none⟩)],.nilFunc]] W (AnsQ b d F ec W)):Calls Tryz.prog 43 #[.agg #[.int .i64 k,.int .i64 f,.int .i64 t,.slice pw nw cw,.int .i64 rad,.int .i64 most],.agg #[.slice pA nA cA,.slice pB nB cB]] w (AnsQ b d F ec w):=by
 have S0:=Lib.hid ((((Sep.start w).al #[.int .i64 k,.int .i64 f,.int .i64 t,.slice pw nw cw,.int .i64 rad,.int .i64 most] 24 w.heap.size rfl).al #[.slice pA nA cA,.slice pB nB cB] 67 (w.heap.size+1) (by simp)).al #[.bool false,.int .i64 0,.slice none 0 0] 34 (w.heap.size+1+1) (by simp))
 have HLC:=Lib.hid h1
 have HCK:=Lib.hid h2
 have HMM:=Lib.hid HM
 clear h1 h2 HM
 go_enter Tryz.func43,Tryz.ntmps43
 go_wp2_with (first | (go_at_call 70;have _t:=S2;go_must (refine(HMM.out _ S2.out.ext (S2.out.blk 1 rfl)).mono ?_;rintro e w4 ⟨q4,c4,rfl,Z⟩;have S4:=Lib.hid (S2.out.comp Z);clear a0 a1 a2 a3 a4 a5 az l0 l1 lz y0 y1 y2 yz f0 f1 f2;obtain⟨y0,y1,y2,yz,f0,f1,f2⟩:=bkc0c1c2lz0z1z2 (S4.out.blk 1 rfl);clear Z)) | (go_at_call 76;have _t:=S1;go_must (refine(HCK.out _ S1.out.ext).mono ?_;rintro e w2 ⟨rfl,hb⟩;have S2:=Lib.hid (S1.out.call hb);clear a0 a1 a2 a3 a4 a5 az l0 l1 lz y0 y1 y2 yz f0 f1 f2;obtain⟨y0,y1,y2,yz,f0,f1,f2⟩:=bkc0c1c2lz0z1z2 (S2.out.blk 0 rfl);obtain⟨l0,l1,lz⟩:=bkc0c1l (S2.out.blk 1 rfl);obtain⟨a0,a1,a2,a3,a4,a5,az⟩:=bkc0c1c2c3c4c5l (S2.out.blk 2 rfl);clear hb)) | (go_at_call 75;go_must (refine(HLC.out _ S0.out.ext).mono ?_;rintro e w1 ⟨rfl,hb⟩;have S1:=Lib.hid (S0.out.call hb);obtain⟨y0,y1,y2,yz,f0,f1,f2⟩:=bkc0c1c2lz0z1z2 (S1.out.blk 0 rfl);obtain⟨l0,l1,lz⟩:=bkc0c1l (S1.out.blk 1 rfl);obtain⟨a0,a1,a2,a3,a4,a5,az⟩:=bkc0c1c2c3c4c5l (S1.out.blk 2 rfl);clear hb)))
 have S9:=Lib.hid (((S4.out.set 1 rfl 0 (.bool b)).set 1 rfl 1 (.int .i64 d)).set 1 rfl 2 (.slice q4 F.length c4))
 obtain⟨x0,x1,x2⟩:=bkc0c1c2 (S9.out.blk 1 rfl)
 refine bodyPost_ret (v:=.tuple #[.agg #[.bool b,.int .i64 d,.slice q4 F.length c4],.int .i64 ec]) (by simp [results,Tryz.results43,go_sem,x0,x1,x2,Tryz.sizeOf34,Tryz.isAgg34]) rfl ?_
 exact⟨q4,c4,rfl,S9.out.pick [0] (by decide) rfl⟩
theorem HubsG20 (k:Int) (f t:Int) (pw:Option Addr) (nw cw:Nat) (rad most:Int) (pA:Option Addr) (nA cA:Nat) (pB:Option Addr) (nB cB:Nat) (c o:Bool) (q x y:Int) (w:World) (h1:∀ W,Ext w W→Calls Tryz.prog 75 #[.agg #[.slice pA nA cA,.slice pB nB cB]] W fun e w'=>e=.returned (.bool c)∧Ext W w') (h2:∀ W,Ext w W→Calls Tryz.prog 76 #[.agg #[.int .i64 k,.int .i64 f,.int .i64 t,.slice pw nw cw,.int .i64 rad,.int .i64 most],.int .i64 (nA:Int)] W fun e w'=>e=.returned (.int .i64 q)∧Ext W w')
  (h3:∀ W,Ext w W→Calls Tryz.prog 78 #[.agg #[.slice pA nA cA,.slice pB nB cB],.int .i64 f,.int .i64 t] W fun e w'=>e=.returned (.tuple #[.int .i64 x,.bool o,.int .i64 y])∧Ext W w') (hk:c=true→q=0→(k=1∨k=2∨k=3)∧(k≠3→y=0)) :
  Calls Tryz.prog 43 #[.agg #[.int .i64 k,.int .i64 f,.int .i64 t,.slice pw nw cw,.int .i64 rad,.int .i64 most],.agg #[.slice pA nA cA,.slice pB nB cB]] w (AnsQ (hubB c q k o) (hubD c q k x) [] (hubE c q k) w):=by
 cases c with
 | false =>
  rw [show hubB false q k o=false from rfl,show hubD false q k x=0 from rfl,show hubE false q k=1 from rfl]
  have S0:=Lib.hid ((((Sep.start w).al #[.int .i64 k,.int .i64 f,.int .i64 t,.slice pw nw cw,.int .i64 rad,.int .i64 most] 24 w.heap.size rfl).al #[.slice pA nA cA,.slice pB nB cB] 67 (w.heap.size+1) (by simp)).al #[.bool false,.int .i64 0,.slice none 0 0] 34 (w.heap.size+1+1) (by simp))
  have HLC:=Lib.hid h1
  clear h1 h2 h3 hk
  go_enter Tryz.func43,Tryz.ntmps43
  go_wp2_with (go_at_call 75;go_must (refine(HLC.out _ S0.out.ext).mono ?_;rintro e w1 ⟨rfl,hb⟩;have S1:=Lib.hid (S0.out.call hb);obtain⟨y0,y1,y2,yz,f0,f1,f2⟩:=bkc0c1c2lz0z1z2 (S1.out.blk 0 rfl);obtain⟨l0,l1,lz⟩:=bkc0c1l (S1.out.blk 1 rfl);obtain⟨a0,a1,a2,a3,a4,a5,az⟩:=bkc0c1c2c3c4c5l (S1.out.blk 2 rfl);clear hb))
  have S9:=Lib.hid (((S1.out.set 0 rfl 0 (.bool false)).set 0 rfl 1 (.int .i64 0)).set 0 rfl 2 (.slice none 0 0))
  obtain⟨x0,x1,x2⟩:=bkc0c1c2 (S9.out.blk 0 rfl)
  refine bodyPost_ret (v:=.tuple #[.agg #[.bool false,.int .i64 0,.slice none 0 0],.int .i64 1]) (by simp [results,Tryz.results43,go_sem,x0,x1,x2,Tryz.sizeOf34,Tryz.isAgg34]) rfl ?_
  exact ansQ_nil rfl S9.out.ext
 | true =>
  by_cases hq:q=0
  ·subst hq
   obtain⟨hk1,hy⟩:=hk rfl rfl
   rcases hk1 with rfl | rfl | rfl
   ·obtain rfl:=hy (by decide)
    rw [show hubB true 0 1 o=o from rfl,show hubD true 0 1 x=x from rfl,show hubE true 0 1=0 from rfl]
    refine HubK 1 f t pw nw cw rad most pA nA cA pB nB cB _ _ [] _ w h1 h2 ?_
    intro W hW hB
    exact ansH1 f t pw nw cw rad most _ _ _ [] _ W fun W1 hW1=>distH 1 f t pw nw cw rad most _ o x 0 W1 fun W2 hW2=>hubCl pA nA cA pB nB cB f t x 0 o _ W2 (hB.ext (Ext.trans hW1 hW2)) fun W3 hW3=>h3 W3 (Ext.trans hW (Ext.trans hW1 (Ext.trans hW2 hW3)))
   ·obtain rfl:=hy (by decide)
    rw [show hubB true 0 2 o=o from rfl,show hubD true 0 2 x=0 from rfl,show hubE true 0 2=0 from rfl]
    refine HubK 2 f t pw nw cw rad most pA nA cA pB nB cB _ _ [] _ w h1 h2 ?_
    intro W hW hB
    exact ansH2 f t pw nw cw rad most _ _ _ [] _ W fun W1 hW1=>reachH 2 f t pw nw cw rad most _ o x 0 W1 fun W2 hW2=>hubCl pA nA cA pB nB cB f t x 0 o _ W2 (hB.ext (Ext.trans hW1 hW2)) fun W3 hW3=>h3 W3 (Ext.trans hW (Ext.trans hW1 (Ext.trans hW2 hW3)))
   ·rw [show hubB true 0 3 o=false from rfl,show hubD true 0 3 x=0 from rfl,show hubE true 0 3=180 from rfl]
    refine HubK 3 f t pw nw cw rad most pA nA cA pB nB cB _ _ [] _ w h1 h2 ?_
    intro W hW hB
    exact ansH3 f t pw nw cw rad most _ _ _ [] _ W fun W1 _=>nearH 3 f t pw nw cw rad most _ W1
  ·have d1:decide (q=0)=false:=by simpa using hq
   have d2:(q == 0)=false:=by simpa using hq
   have hE:hubE true q k=q:=by unfold hubE;rw [if_neg (by simp),if_neg hq]
   rw [show hubB true q k o=false by unfold hubB;rw [hE,if_neg hq],show hubD true q k x=0 by unfold hubD;rw [hE,if_neg hq],hE]
   have S0:=Lib.hid ((((Sep.start w).al #[.int .i64 k,.int .i64 f,.int .i64 t,.slice pw nw cw,.int .i64 rad,.int .i64 most] 24 w.heap.size rfl).al #[.slice pA nA cA,.slice pB nB cB] 67 (w.heap.size+1) (by simp)).al #[.bool false,.int .i64 0,.slice none 0 0] 34 (w.heap.size+1+1) (by simp))
   have HLC:=Lib.hid h1
   have HCK:=Lib.hid h2
   clear hE h1 h2 h3 hk
   go_enter Tryz.func43,Tryz.ntmps43
   go_wp2_with (first | (go_at_call 76;have _t:=S1;go_must (refine(HCK.out _ S1.out.ext).mono ?_;rintro e w2 ⟨rfl,hb⟩;have S2:=Lib.hid (S1.out.call hb);clear a0 a1 a2 a3 a4 a5 az l0 l1 lz y0 y1 y2 yz f0 f1 f2;obtain⟨y0,y1,y2,yz,f0,f1,f2⟩:=bkc0c1c2lz0z1z2 (S2.out.blk 0 rfl);obtain⟨l0,l1,lz⟩:=bkc0c1l (S2.out.blk 1 rfl);obtain⟨a0,a1,a2,a3,a4,a5,az⟩:=bkc0c1c2c3c4c5l (S2.out.blk 2 rfl);clear hb)) | (go_at_call 75;go_must (refine(HLC.out _ S0.out.ext).mono ?_;rintro e w1 ⟨rfl,hb⟩;have S1:=Lib.hid (S0.out.call hb);obtain⟨y0,y1,y2,yz,f0,f1,f2⟩:=bkc0c1c2lz0z1z2 (S1.out.blk 0 rfl);obtain⟨l0,l1,lz⟩:=bkc0c1l (S1.out.blk 1 rfl);obtain⟨a0,a1,a2,a3,a4,a5,az⟩:=bkc0c1c2c3c4c5l (S1.out.blk 2 rfl);clear hb)))
   have S9:=Lib.hid (((S2.out.set 0 rfl 0 (.bool false)).set 0 rfl 1 (.int .i64 0)).set 0 rfl 2 (.slice none 0 0))
   obtain⟨x0,x1,x2⟩:=bkc0c1c2 (S9.out.blk 0 rfl)
   refine bodyPost_ret (v:=.tuple #[.agg #[.bool false,.int .i64 0,.slice none 0 0],.int .i64 q]) (by simp [results,Tryz.results43,go_sem,x0,x1,x2,Tryz.sizeOf34,Tryz.isAgg34]) rfl ?_
   exact ansQ_nil rfl S9.out.ext
end
section
open Go Go.RowKit
theorem hub_facts {A B:SrT} {nA:Nat} {k f t rad most:Int} {ws:List ByteArray} (hl:A.length=nA) (hc:lchkB A B=true) (hq:chkQ k f t ws rad most nA=0) :
  (k=1∨k=2∨k=3)∧(k≠3→queryC A B f t=0):=by
 have ho:=chkQ_zero.1 hq
 by_cases h12:k=1∨k=2
 ·refine⟨by omega,fun _=>?_⟩
  rw [okQ_12 h12,Bool.and_eq_true] at ho
  obtain⟨o1,o2⟩:=ho
  rw [plcB_iff] at o1 o2
  unfold queryC
  rw [if_pos]
  unfold queryB
  rw [hc,hl,decide_eq_true o1.1,decide_eq_true o1.2,decide_eq_true o2.1,decide_eq_true o2.2]
  rfl
 ·by_cases h3:k=3
  ·exact⟨.inr (.inr h3),fun h=>absurd h3 h⟩
  ·rw [okQ_else h12 h3] at ho
   cases ho
end
section
open Go Go.RowKit
theorem rowsRd {w0 w:World} {A B:List Pc} {n i:Nat} {H:List Hd} {nx:Nat→List Int} {L:List Int} {k:Nat} {H0:List Hd} {T0:SrT} (S:Sep w0 w (A ++ (rowsS n H0 T0 H (labT nx n L k) ++ B))) (_hA:A.length=i) {p:Option Addr} (hr:Rd w 1 p n (encH H)):RdT w p n H (labT nx n L k):=by
 subst _hA
 refine⟨hr,labT_len ..,fun j hj=>?_⟩
 have h:=S.all _ (List.mem_append_right A (List.mem_of_getElem? (rowsS_at (Φ:=B) (H0:=H0) (T0:=T0) (H:=H) (T:=labT nx n L k) hj)))
 exact Rd.of_own h.1 (own_sm h.1)
theorem BuildRd (po:Option Addr) (no co:Nat) (O:List Int) (pt:Option Addr) (nt ct:Nat) (T:List Int) (pr:Option Addr) (nr cr:Nat) (R:List Int) (pv:Option Addr) (nv cv:Nat) (V:List Int) (n:Nat) (w:World) (hO:Rd w 1 po no (encI O)) (hT:Rd w 1 pt nt (encI T)) (hR:Rd w 1 pr nr (encI R)) (hV:Rd w 1 pv nv (encI V)) (hct:nt≤ct) (hcv:nv≤cv) (hck:checkR O T R V=true) (hno:O.length=n+1) :
  Calls Tryz.prog 45 #[.agg #[.slice po no co,.slice pt nt ct,.slice pr nr cr,.slice pv nv cv]] w fun e w'=>∃ qO cO qI cI HO HI,e=.returned (.tuple #[.agg #[.slice qO n cO,.slice qI n cI],.int .i64 0])∧RdT w' qO n HO (labT (rowL R V) n (byL O R n) n)∧RdT w' qI n HI (labT (rowL O T) n (byL O R n) n)∧Ext w w':=by
 refine(BuildG_yes po no co O pt nt ct T pr nr cr R pv nv cv V n w hO hT hR hV hct hcv hck hno).mono ?_
 rintro e w' ⟨qO,cO,qI,cI,HO,HI,rfl,S⟩
 have r1:=S.rdx 0 rfl
 have r2:=S.rdx 1 rfl
 refine⟨qO,cO,qI,cI,HO,HI,rfl,?_,?_,S.ext⟩
 ·exact rowsRd (A:=[_,_]) (i:=2) S rfl r1
 ·exact rowsRd (A:=.own 32 1 qO n cO (encH HO) :: .own 32 1 qI n cI (encH HI) :: rowsS n HO (labT (rowL R V) n (byL O R n) n) HO (labT (rowL R V) n (byL O R n) n)) (B:=[]) (i:=_) S rfl r2
end
section
open Go Go.RowKit
theorem right_lab {nx:Nat→List Int} {n:Nat} {L:List Int} (hL:OrdP L n) (hn:n≤200) {v:Nat} (hv:v<n):rightB (labI nx n L n v) n=true:=by
 unfold rightB
 rw [Bool.and_eq_true,List.all_eq_true,decide_eq_true_eq]
 refine⟨fun x hx=>?_,?_⟩
 ·obtain⟨i,hi,h1,rfl⟩:=labI_mem.1 hx
  have h2:=(hubW_iff.1 h1).1
  have h3:=lev_lt (nx:=nx) (ord_lt hL hi) hv
  have h4:=ord_lt hL hi
  have h5:=ord_int hL hi
  unfold okH
  rw [decide_eq_true_eq]
  simp only
  omega
 ·unfold labI
  rw [List.map_map]
  have h0:((List.range n).filter fun i=>hubW nx n L i (nth L i).toNat v).Nodup:=List.nodup_range.filter _
  unfold List.Nodup at h0 ⊢
  refine List.pairwise_map.2 (h0.imp_of_mem fun {x y} hx hy hne e=>hne ?_)
  rw [List.mem_filter,List.mem_range] at hx hy
  exact ord_inj hL hx.1 hy.1 e
section
variable {O T R V:List Int} {n:Nat}
theorem lab_check (hck:checkR O T R V=true) (hno:O.length=n+1):lchkB (labT (rowL R V) n (byL O R n) n) (labT (rowL O T) n (byL O R n) n)=true:=by
 have hL:=byL_ord (O:=O) (R:=R) (n:=n) fun v hv=>way_rng hck hno hv
 have r:=offB_parts (halfB_off (checkR_half hck).2.2.1)
 have e:=labT_len
 refine lchk_yes ⟨by rw [labT_len];omega,by rw [labT_len];omega,by rw [labT_len,labT_len]⟩ fun v hv=>?_
 rw [labT_len] at hv ⊢
 rw [labT_nth hv,labT_nth hv,right_lab hL (by omega) hv,right_lab hL (by omega) hv];rfl
theorem lab_query (hck:checkR O T R V=true) (hno:O.length=n+1) {a b:Nat} (ha:a<n) (hb:b<n) :
  queryN (labT (rowL R V) n (byL O R n) n) (labT (rowL O T) n (byL O R n) n) a b=distN (lev (rowL O T) n a b)∧queryO (labT (rowL R V) n (byL O R n) n) (labT (rowL O T) n (byL O R n) n) a b=distB (lev (rowL O T) n a b)∧queryC (labT (rowL R V) n (byL O R n) n) (labT (rowL O T) n (byL O R n) n) a b=0:=by
 have hL:=byL_ord (O:=O) (R:=R) (n:=n) fun v hv=>way_rng hck hno hv
 have hrev:Rev (rowL O T) (rowL R V) n:=by have:=nxR_rev hck false;rw [hno] at this;exact this
 have hq:queryB (labT (rowL R V) n (byL O R n) n) (labT (rowL O T) n (byL O R n) n) a b=true:=by
  unfold queryB
  rw [lab_check hck hno,labT_len]
  simp;omega
 have ht:=label_tells hrev hL ha hb
 unfold queryN queryO queryC
 rw [if_pos hq,if_pos hq,if_pos hq,Int.toNat_natCast,Int.toNat_natCast,labT_nth ha,labT_nth hb,ht]
 unfold distN distB
 by_cases h0:0≤lev (rowL O T) n a b
 ·rw [if_pos h0,if_pos h0];exact⟨rfl,by simpa using h0,rfl⟩
 ·rw [if_neg h0,if_neg h0];exact⟨rfl,by simp;omega,rfl⟩
end
end
end Go.Proofs.YtfjhjennfiihhaaGreat
