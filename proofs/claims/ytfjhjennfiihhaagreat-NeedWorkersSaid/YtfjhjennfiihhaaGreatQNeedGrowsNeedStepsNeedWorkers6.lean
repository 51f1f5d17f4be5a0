/- Texts of this claim, one behind the other: Nd6, Nd7, Nd2, Nd4, PlainCl, RunCl, PlainNc, ExN, LMakes, Needs21, Pq5, Far20, Far21, PlainNg, LPicks20, LGrows21, Post, Open4, Rput, Rf7, Rst19, Rf6, Rrun20, RSt21, Most21, RSt21b, LSteps21. -/
import Derived.Test.YtfjhjennfiihhaaGreatQNeedGrowsNeedStepsNeedWorkers5
set_option maxRecDepth 100000
set_option maxHeartbeats 16000000
namespace Go.Proofs.YtfjhjennfiihhaaGreat
section
open Go Go.RowKit
def rowsN (LL:List (List Int)) (hs:List Hd):List (Hd × List Value):=hs.zip (LL.map encI)
theorem rowsN_snoc (LL:List (List Int)) (hs:List Hd) (r:List Int) (a:Hd) (h:hs.length=LL.length):rowsN (LL ++ [r]) (hs ++ [a])=rowsN LL hs ++ [(a,encI r)]:=by
 unfold rowsN
 rw [List.map_append,List.zip_append (by simpa using h)];rfl
theorem rowsN_at {LL:List (List Int)} {hs:List Hd} {k:Nat} (h:hs.length=LL.length) (hk:k<LL.length):(nth hs k,encI (nth LL k))∈rowsN LL hs:=by
 unfold rowsN
 rw [List.mem_iff_getElem]
 refine⟨k,by simp;omega,?_⟩
 rw [List.getElem_zip,nth_eq (by omega),nth_eq hk,List.getElem_map]
theorem RdL.of_sep {w0 w:World} {Γ:List Pc} (S:Sep w0 w Γ) (j i:Nat) {q:Option Addr} {n c:Nat} {hs:List Hd} {LL:List (List Int)} (hj:Γ[j]?=some (.many 3 1 (rowsN LL hs))) (hi:Γ[i]?=some (.own 25 1 q n c (encH hs))) (hl:hs.length=LL.length):RdL w q n hs LL:=by
 have hr:=S.rdx i hi
 refine⟨hl,hr,fun k hk=>?_⟩
 have hn:=hr.nH
 have h1:=S.manyAt j hj _ (rowsN_at hl (show k<LL.length by omega))
 exact Rd.of_own h1 (own_small h1)
theorem encH_snoc (hs:List Hd) (a:Hd):encH hs ++ [a.v]=encH (hs ++ [a]):=by unfold encH;rw [List.map_append];rfl
theorem infRow:(Tryz.prog.info? 25).map (fun i=>(i.zero,i.size,i.bytes))=some (some (.slice none 0 0),1,24):=by kernel_rfl
def NdQ (X:List (List Int)) (e:Int) (w:World) (x:Ending) (w':World):Prop:=∃ q c hs,x=.returned (.tuple #[.slice q X.length c,.int .i64 e])∧RdL w' q X.length hs X∧Ext w w'
theorem ndQ_nil {e:Int} {w w':World} {x:Ending} (h:x=.returned (.tuple #[.slice none 0 0,.int .i64 e])) (hE:Ext w w'):NdQ [] e w x w':=⟨none,0,[],h,RdL.nil _,hE⟩
theorem stepperG (k f t:Int) (pw:Option Addr) (nw cw:Nat) (rad most:Int) (po:Option Addr) (no co:Nat) (pt:Option Addr) (nt ct:Nat) (pr:Option Addr) (nr cr:Nat) (pv:Option Addr) (nv cv:Nat) (pl:Option Addr) (nl cl wk:Nat) (w:World):Calls Tryz.prog 63 #[.agg #[.int .i64 k,.int .i64 f,.int .i64 t,.slice pw nw cw,.int .i64 rad,.int .i64 most],.agg #[.slice po no co,.slice pt nt ct,.slice pr nr cr,.slice pv nv cv],.slice pl nl cl,.int .i64 wk] w fun e w'=>∃ gq gr gl gw gs gm q c,e=.returned (.func (.func 108) #[] #[.pointer (some ⟨gq,0,none⟩),.pointer (some ⟨gr,0,none⟩),.pointer (some ⟨gs,0,none⟩),.pointer (some ⟨gm,0,none⟩),.pointer (some ⟨gw,0,none⟩),.pointer (some ⟨gl,0,none⟩)])∧Sep w w' (.own 146 4 none 0 0 (encQ (([]:List Sq),startQ k f t 0).1) :: .own 138 4 q (startQ k f t 0).length c (encQ (([]:List Sq),startQ k f t 0).2) :: .blk gs 85 #[.slice none 0 0] :: .blk gm 83 #[.slice q (startQ k f t 0).length c] :: .blk gw 3 #[.int .i64 wk] :: .blk gl 28 #[.slice pl nl cl] :: .blk gr 27 #[.slice po no co,.slice pt nt ct,.slice pr nr cr,.slice pv nv cv] :: .blk gq 24 #[.int .i64 k,.int .i64 f,.int .i64 t,.slice pw nw cw,.int .i64 rad,.int .i64 most] :: []):=by
 have S0:=Lib.hid ((((((Sep.start w).al #[.int .i64 k,.int .i64 f,.int .i64 t,.slice pw nw cw,.int .i64 rad,.int .i64 most] 24 w.heap.size rfl).al #[.slice po no co,.slice pt nt ct,.slice pr nr cr,.slice pv nv cv] 27 (w.heap.size+1) (by simp)).al #[.slice pl nl cl] 28 (w.heap.size+1+1) (by simp)).al #[.int .i64 wk] 3 (w.heap.size+1+1+1) (by simp)).al #[.slice none 0 0] 85 (w.heap.size+1+1+1+1) (by simp))
 have HS:=Lib.hid (fun W=>StartQ k f t pw nw cw rad most 0 W)
 generalize startQ k f t 0=M at *
 go_enter Tryz.func63,Tryz.ntmps63
 go_wp2_with (go_at_call 51;go_must (refine(HS.out _).mono ?_;rintro e w1 ⟨q,c,rfl,Z⟩;have S1:=Lib.hid (((S0.out.comp Z).al #[.slice q M.length c] 83 w1.heap.size rfl).nilrow 146 4);clear Z))
 go_ret
 exact⟨_,_,_,_,_,_,q,c,rfl,S1.out.pick [0,2,3,1,4,5,6,7] (by decide) rfl⟩
theorem runS_err {O T R V:List Int} {L:List Po} {k f t:Int} {ws:List ByteArray} {rad most wv:Int} {b:Bool} {d:Int} {F:List (Int × Int)} {n e:Int} (h200:O.length≤201) (h:RunS O T R V L k f t ws rad most wv 1000 b d F n e) :
  e=if chkJ (checkR O T R V) k f t ws rad most O.length≠0 then chkJ (checkR O T R V) k f t ws rad most O.length else if 1≤wv∧wv≤16 then 0 else 1:=by
 by_cases h0:chkJ (checkR O T R V) k f t ws rad most O.length=0
 ·rw [if_neg (by rw [h0];simp)]
  by_cases h1:1≤wv∧wv≤16
  ·rw [if_pos h1]
   obtain⟨_,m,a1,_,_,a4,_⟩:=h.2.2 h0 ⟨h1.1,h1.2,by omega⟩
   exact(a4 (by omega)).2.2
  ·rw [if_neg h1]
   exact(h.2.1 h0 (by omega)).2.2.2.2
 ·rw [if_pos h0]
  exact(h.1 h0).2.2.2.2
theorem StepsErr (k f t:Int) (pw:Option Addr) (nw cw:Nat) (rad most:Int) (po:Option Addr) (no co:Nat) (pt:Option Addr) (nt ct:Nat) (pr:Option Addr) (nr cr:Nat) (pv:Option Addr) (nv cv:Nat) (pl:Option Addr) (nl cl:Nat) (wv E:Int) (P:Bool→Int→List (Int × Int)→Int→Int→Prop) (w:World) (hE:E≠0)
  (HRN0:∀ W,Ext w W→Calls Tryz.prog 17 #[.agg #[.int .i64 k,.int .i64 f,.int .i64 t,.slice pw nw cw,.int .i64 rad,.int .i64 most],.agg #[.slice po no co,.slice pt nt ct,.slice pr nr cr,.slice pv nv cv],.slice pl nl cl,.int .i64 wv,.int .i64 1000,.slice none 0 0] W fun x w'=>∃ b d F n e,P b d F n e∧RunQ b d F n e W x w') (HER0:∀ b d F n e,P b d F n e→E=e) :
  Calls Tryz.prog 34 #[.agg #[.int .i64 k,.int .i64 f,.int .i64 t,.slice pw nw cw,.int .i64 rad,.int .i64 most],.agg #[.slice po no co,.slice pt nt ct,.slice pr nr cr,.slice pv nv cv],.slice pl nl cl,.int .i64 wv] w (NdQ [] E w):=by
 have S0:=Lib.hid (((Sep.start w).al #[.int .i64 k,.int .i64 f,.int .i64 t,.slice pw nw cw,.int .i64 rad,.int .i64 most] 24 w.heap.size rfl).al #[.slice po no co,.slice pt nt ct,.slice pr nr cr,.slice pv nv cv] 27 (w.heap.size+1) (by simp))
 have HRN:=Lib.hid HRN0
 have HER:=Lib.hid HER0
 have d1:decide (E=0)=false:=by simpa using hE
 have d2:(E == 0)=false:=by simpa using hE
 clear hE HRN0 HER0
 go_enter Tryz.func34,Tryz.ntmps34
 go_wp2
 go_step3
 go_wp2_with (go_at_call 17;go_must (refine(HRN.out _ S0.out.ext).mono ?_;rintro e w1 ⟨b1',d1',F1,n1',e1',g1,q1,c1,rfl,Z⟩;obtain rfl:=HER.out _ _ _ _ _ g1;have S1:=Lib.hid ((S0.out.call Z.ext).al #[.bool b1',.int .i64 d1',.slice q1 F1.length c1] 34 w1.heap.size rfl);obtain⟨b0,b1,b2,b3,bz⟩:=bkc0c1c2c3l (S1.out.blk 1 rfl);obtain⟨a0,a1,a2,a3,a4,a5,az⟩:=bkc0c1c2c3c4c5l (S1.out.blk 2 rfl);clear Z g1))
 try rw [Exit.noGoto_ret]
 go_ret2
 exact ndQ_nil rfl S1.out.ext
def ndR (rn:Nat→List Sq × List Sq) (wk m:Nat):List (List Int):=(List.range m).map fun i=>eachL (rn (i+1)).1 wk
theorem ndR_snoc (rn:Nat→List Sq × List Sq) (wk m:Nat):ndR rn wk (m+1)=ndR rn wk m ++ [eachL (rn (m+1)).1 wk]:=by
 unfold ndR
 rw [List.range_succ,List.map_append]
 rfl
theorem ndR_len (rn:Nat→List Sq × List Sq) (wk m:Nat):(ndR rn wk m).length=m:=by simp [ndR]
theorem sq_ok {n i:Nat} {p:List Sq × List Sq} (h:RunI n i p) (hn:n≤200) (hi:i≤201):∀ x∈p.1,x.I∧(-1000000≤x.d∧x.d≤1000000)∧mayB x=true:=fun x hx=>by
 obtain⟨hk,x5,x6⟩:=h.st x hx
 have hm:=may_run hk hn (by omega) (by omega)
 obtain⟨x1,x2,x3,x4⟩:=hk
 refine⟨?_,⟨by omega,by omega⟩,hm⟩
 unfold Sq.I I64
 have q1:IntKind.i64.min = -9223372036854775808:=rfl
 have q2:IntKind.i64.max=9223372036854775807:=rfl
 refine⟨?_,?_,?_,?_⟩ <;> (show (_ && _)=true;simp;omega)
theorem StepsOk (k f t:Int) (pw:Option Addr) (nw cw:Nat) (ws:List ByteArray) (rad most:Int) (po:Option Addr) (no co:Nat) (O:List Int) (pt:Option Addr) (nt ct:Nat) (T:List Int) (pr:Option Addr) (nr cr:Nat) (R:List Int) (pv:Option Addr) (nv cv:Nat) (V:List Int) (pl:Option Addr) (nl cl:Nat) (hs:List Hd) (L:List Po) (wk n m:Nat) (rn:Nat→List Sq × List Sq) (w:World) (hO:Rd w 1 po no (encI O)) (hT:Rd w 1 pt nt (encI T)) (hR:Rd w 1 pr nr (encI R)) (hV:Rd w 1 pv nv (encI V)) (hct:nt≤ct) (hcv:nv≤cv)
  (hL:RdP w pl nl hs L) (hW:Rd w 1 pw nw (encS ws)) (hck:checkR O T R V=true) (hn:O.length=n+1) (h200:n≤200) (h1:1≤wk) (h16:wk≤16)
  (hm:m<200) (hk:k=1∨k=2∨k=3) (ht:I64 t) (hcw:nw≤cw) (hnw:nw≤100) (hok:PoOk L)
  (hr0:rn 0=([],startQ k f t 0)) (hrn:∀ i,RunI n i (rn i)) (hrs:∀ i,rn (i+1)=stepM (nextL k rad true O T R V) (rn i).1 (rn i).2)
  (hdn:doneB k t (rn (m+1))=true) (hfn:∀ j,j<m→doneB k t (rn (j+1))=false)
  (P:Bool→Int→List (Int × Int)→Int→Int→Prop)
  (HRN0:∀ W,Ext w W→Calls Tryz.prog 17 #[.agg #[.int .i64 k,.int .i64 f,.int .i64 t,.slice pw nw cw,.int .i64 rad,.int .i64 most],.agg #[.slice po no co,.slice pt nt ct,.slice pr nr cr,.slice pv nv cv],.slice pl nl cl,.int .i64 wk,.int .i64 1000,.slice none 0 0] W fun x w'=>∃ b d F n e,P b d F n e∧RunQ b d F n e W x w') (HER0:∀ b d F n e,P b d F n e→0=e) :
  Calls Tryz.prog 34 #[.agg #[.int .i64 k,.int .i64 f,.int .i64 t,.slice pw nw cw,.int .i64 rad,.int .i64 most],.agg #[.slice po no co,.slice pt nt ct,.slice pr nr cr,.slice pv nv cv],.slice pl nl cl,.int .i64 wk] w (NdQ (ndR rn wk (m+1)) 0 w):=by
 obtain⟨i0,hi0,hz0,hz1,hz2⟩:=info_parts infRow
 have S0:=Lib.hid (((Sep.start w).al #[.int .i64 k,.int .i64 f,.int .i64 t,.slice pw nw cw,.int .i64 rad,.int .i64 most] 24 w.heap.size rfl).al #[.slice po no co,.slice pt nt ct,.slice pr nr cr,.slice pv nv cv] 27 (w.heap.size+1) (by simp))
 have HRN:=Lib.hid HRN0
 have HER:=Lib.hid HER0
 have HST:=Lib.hid (fun i (hi:i≤200) (W:World) (E:Ext w W) (ps:Option Addr) (ns cs:Nat) (pm:Option Addr) (nm cm:Nat) (hs:Rd W 4 ps ns (encQ (rn i).1)) (hm:Rd W 4 pm nm (encQ (rn i).2)) =>
  StepRun k f t pw nw cw rad most po no co O pt nt ct T pr nr cr R pv nv cv V W n i (rn i) ps ns cs pm nm cm wk none 0 0 [] (hO.ext E) (hT.ext E) (hR.ext E) (hV.ext E) hct hcv hck hn h200 hi (hrn i) h1 h16 hs hm (Rd.nil _ _ _))
 have HLN:=Lib.hid (fun i=>show (rn i).1.length≤400 by have:=run_most (hrn i).kst (fun x hx=>((hrn i).st x hx).1);omega)
 have HDN:=Lib.hid (fun i (hi:i≤201) (ps:Option Addr) (ns cs:Nat) (pm:Option Addr) (nm cm:Nat) (hns:ns=(rn i).1.length)=>show ∃ b d F,∀ W,Ext w W→Rd W 4 ps ns (encQ (rn i).1)→Rd W 4 pm nm (encQ (rn i).2) →
   Calls Tryz.prog 95 #[.agg #[.int .i64 k,.int .i64 f,.int .i64 t,.slice pw nw cw,.int .i64 rad,.int .i64 most],.slice pl nl cl,.slice ps ns cs,.slice pm nm cm] W (DoneQ b d F (doneB k t (rn i)) W) by
  have hx:=sq_ok (hrn i) h200 hi
  obtain⟨b,d,F,hA,hD⟩:=Done_run k f t pw nw cw ws rad most pl nl cl hs L ps ns cs (rn i).1 pm nm cm (rn i).2 hk ht hcw hnw hok (fun x h=>(hx x h).1) (fun x h=>(hx x h).2.1) (by have:=HLN.out i;omega)
  exact⟨b,d,F,fun W E g1 g2=>(hD W (hL.ext E) (hW.ext E) g1 g2).1⟩)
 have HEA:=Lib.hid (fun i (hi:i≤201) (ps:Option Addr) (ns cs:Nat) W (hr:Rd W 4 ps ns (encQ (rn i).1))=>EachG ps ns cs (rn i).1 wk W hr (fun x hx=>(sq_ok (hrn i) h200 hi x hx).2.2) h1 h16 (by rw [hr.nQ];have:=HLN.out i;omega))
 have HRS:=Lib.hid hrs
 have HR0:=Lib.hid hr0
 have HDM:=Lib.hid hdn
 have HFN:=Lib.hid hfn
 have HSG:=Lib.hid (fun W=>stepperG k f t pw nw cw rad most po no co pt nt ct pr nr cr pv nv cv pl nl cl wk W)
 clear hO hT hR hV hct hcv hL hW hck hn h200 h1 h16 hk ht hcw hnw hok hr0 hrn hrs hdn hfn HRN0 HER0
 go_enter Tryz.func34,Tryz.ntmps34
 go_wp2
 go_step3
 go_wp2_with (first
  | (go_at_call 63;go_must (refine(HSG.out _).mono ?_;rintro e w2 ⟨gq,gr,gl,gw,gs,gm,q2,c2,rfl,Z⟩;have SZ:=Lib.hid (show Sep w w2 (.own 146 4 none 0 0 (encQ (([]:List Sq),startQ k f t 0).1) :: .own 138 4 q2 (startQ k f t 0).length c2 (encQ (([]:List Sq),startQ k f t 0).2) :: .blk gs 85 #[.slice none 0 0] :: .blk gm 83 #[.slice q2 (startQ k f t 0).length c2] :: .blk gw 3 #[.int .i64 wk] :: .blk gl 28 #[.slice pl nl cl] :: .blk gr 27 #[.slice po no co,.slice pt nt ct,.slice pr nr cr,.slice pv nv cv] :: .blk gq 24 #[.int .i64 k,.int .i64 f,.int .i64 t,.slice pw nw cw,.int .i64 rad,.int .i64 most] :: []) from((Sep.start w).call S1.out.ext).comp Z);clear a0 a1 a2 a3 a4 a5 az b0 b1 b2 b3 bz;clear Z))
  | (go_at_call 17;go_must (refine(HRN.out _ S0.out.ext).mono ?_;rintro e w1 ⟨b1',d1',F1,n1',e1',g1,q1,c1,rfl,Z⟩;obtain rfl:=HER.out _ _ _ _ _ g1;have S1:=Lib.hid ((S0.out.call Z.ext).al #[.bool b1',.int .i64 d1',.slice q1 F1.length c1] 34 w1.heap.size rfl);obtain⟨b0,b1,b2,b3,bz⟩:=bkc0c1c2c3l (S1.out.blk 1 rfl);obtain⟨a0,a1,a2,a3,a4,a5,az⟩:=bkc0c1c2c3c4c5l (S1.out.blk 2 rfl);clear Z g1)))
 have S4:Hid (Sep w w2 (.own 146 4 none 0 0 (encQ (rn 0).1) :: .own 138 4 q2 (startQ k f t 0).length c2 (encQ (rn 0).2) :: .blk gs 85 #[.slice none 0 0] :: .blk gm 83 #[.slice q2 (startQ k f t 0).length c2] :: .blk gw 3 #[.int .i64 wk] :: .blk gl 28 #[.slice pl nl cl] :: .blk gr 27 #[.slice po no co,.slice pt nt ct,.slice pr nr cr,.slice pv nv cv] :: .blk gq 24 #[.int .i64 k,.int .i64 f,.int .i64 t,.slice pw nw cw,.int .i64 rad,.int .i64 most] :: [.own 25 1 none 0 0 (encH []),.many 3 1 (rowsN (ndR rn wk 0) [])])):=by
  unfold Hid
  rw [HR0.out]
  exact((SZ.out.nilrow 25 1).many0 3 1).pick [2,3,4,5,6,7,8,9,1,0] (by decide) rfl
 clear S0 S1 SZ HSG HR0 HRN HER
 go_step3
 go_wp2
 go_loopg [13,15,16,17,18,19] m (fun g ov _ _ _ _ _ wr=>∃ (i:Nat) (ps:Option Addr) (ns cs:Nat) (pm:Option Addr) (nm cm:Nat) (qo:Option Addr) (oc:Nat) (hd:List Hd),i+g=m∧ov=.slice qo i oc∧Hid (hd.length=i)∧Hid (Sep w wr (.own 146 4 ps ns cs (encQ (rn i).1) :: .own 138 4 pm nm cm (encQ (rn i).2) :: .blk gs 85 #[.slice ps ns cs] :: .blk gm 83 #[.slice pm nm cm] :: .blk gw 3 #[.int .i64 wk] :: .blk gl 28 #[.slice pl nl cl] :: .blk gr 27 #[.slice po no co,.slice pt nt ct,.slice pr nr cr,.slice pv nv cv] :: .blk gq 24 #[.int .i64 k,.int .i64 f,.int .i64 t,.slice pw nw cw,.int .i64 rad,.int .i64 most] :: [.own 25 1 qo i oc (encH hd),.many 3 1 (rowsN (ndR rn wk i) hd)])))
 case atStart=>exact⟨0,none,0,0,q2,(startQ k f t 0).length,c2,none,0,[],by omega,rfl,rfl,S4⟩
 case round =>
  clear S4
  obtain⟨i,ps,ns,cs,pm,nm,cm,qo,oc,hd,hig,rfl,HHD,SH⟩:=hrel
  have hi200:i≤200:=by omega
  have HST1:=Lib.hid (fun W h ps ns cs pm nm cm g1 g2=>HST.out i hi200 W h ps ns cs pm nm cm g1 g2)
  rw [← HRS.out i] at HST1
  have HDN1:=Lib.hid (HDN.out (i+1) (by omega))
  have HEA1:=Lib.hid (HEA.out (i+1) (by omega))
  have HSN:=Lib.hid (ndR_snoc rn wk i)
  obtain⟨Y,hY⟩:∃ Y,rn (i+1)=Y:=⟨_,rfl⟩
  have HRY:=Lib.hid hY
  rw [hY] at HST1 HDN1 HEA1 HSN
  obtain⟨dn,hdnb⟩:∃ dn,doneB k t Y=dn:=⟨_,rfl⟩
  rw [hdnb] at HDN1
  have HSC:=Lib.hid (stepperCl k f t pw nw cw rad most po no co pt nt ct pr nr cr pv nv cv pl nl cl wk (rn i) Y dn gq gr gl gw gs gm ps ns cs pm nm cm w wr _ SH.out (fun W h g1 g2=>HST1.out W h ps ns cs pm nm cm g1 g2) HDN1.out)
  have HDB:=Lib.hid hdnb
  have HIG:=Lib.hid hig
  clear hY hdnb HST1 HDN1 hig
  by_cases him:i=m
  ·obtain rfl:dn=true:=by rw [← HDB.out,← HRY.out,him,HDM.out]
   subst him
   go_wp2_with (first | (at_builtin;have _t:=S2;go_must (refine wpList_append_sep rfl _ _ _ rfl 25 i0 _ 1 24 Tryz.underlying45 hi0 hz0 hz1 hz2 rfl (by omega) (S2.out.junk _) 9 qo i oc _ rfl rfl _ 1 1 _ rfl (Rd.new _ _ _ 1 1 rfl (by omega)) (one_slice _ _ _) (by omega) (by omega) ?_;intro u' e' w6 S' hsz;have S3:=Lib.hid S';clear S' hsz)) | (go_at_call 64;have _t:=S1;go_must (refine(HEA1.out _ _ _ _ (S1.out.rdx 0 rfl)).mono ?_;rintro e w5 ⟨q5,rfl,Z⟩;have S2:=Lib.hid (S1.out.comp Z);clear Z)) | (go_at_call 108;go_must (refine HSC.out.mono ?_;rintro e w4 ⟨q3,c3',q4,c4',rfl,Z⟩;have S1:=Lib.hid Z;clear Z)))
   try rw [Exit.noGoto_ret]
   go_ret2
   have HL2:=Lib.hid (ndR_len rn wk (i+1))
   have S5:=(S3.out.pick (Δ:=(.own 3 1 q5 wk wk (encI (eachL Y.1 wk)) :: .many 3 1 (rowsN (ndR rn wk i) hd) :: (.own 146 4 q3 Y.1.length c3' (encQ Y.1) :: .own 138 4 q4 Y.2.length c4' (encQ Y.2) :: .blk gs 85 #[.slice q3 Y.1.length c3'] :: .blk gm 83 #[.slice q4 Y.2.length c4'] :: .blk gw 3 #[.int .i64 wk] :: .blk gl 28 #[.slice pl nl cl] :: .blk gr 27 #[.slice po no co,.slice pt nt ct,.slice pr nr cr,.slice pv nv cv] :: .blk gq 24 #[.int .i64 k,.int .i64 f,.int .i64 t,.slice pw nw cw,.int .i64 rad,.int .i64 most] :: [.own 25 1 u' (i+1) e' (encH hd ++ [.slice q5 wk wk])]))) [0,10,1,2,3,4,5,6,7,8,9] (by decide) rfl).gather
   rw [show encH hd ++ [Value.slice q5 wk wk]=encH (hd ++ [⟨q5,wk,wk⟩]) from encH_snoc hd ⟨q5,wk,wk⟩,← rowsN_snoc _ _ _ _ (by rw [HHD.out,ndR_len]),← HSN.out] at S5
   have S6:Sep w w6 [.many 3 1 (rowsN (ndR rn wk (i+1)) (hd ++ [⟨q5,wk,wk⟩])),.own 25 1 u' (i+1) e' (encH (hd ++ [⟨q5,wk,wk⟩]))]:=S5.pick [0,9] (by decide) rfl
   exact⟨u',e',hd ++ [⟨q5,wk,wk⟩],by rw [HL2.out];rfl,by rw [HL2.out];exact RdL.of_sep S6 0 1 rfl rfl (by rw [List.length_append,HHD.out,HL2.out];rfl),S6.ext⟩
  ·obtain rfl:dn=false:=by rw [← HDB.out,← HRY.out,HFN.out i (by have:=HIG.out;omega)]
   have hlt:i<m:=by have:=HIG.out;omega
   clear him
   go_wp2_with (first | (at_builtin;have _t:=S2;go_must (refine wpList_append_sep rfl _ _ _ rfl 25 i0 _ 1 24 Tryz.underlying45 hi0 hz0 hz1 hz2 rfl (by omega) (S2.out.junk _) 9 qo i oc _ rfl rfl _ 1 1 _ rfl (Rd.new _ _ _ 1 1 rfl (by omega)) (one_slice _ _ _) (by omega) (by omega) ?_;intro u' e' w6 S' hsz;have S3:=Lib.hid S';clear S' hsz)) | (go_at_call 64;have _t:=S1;go_must (refine(HEA1.out _ _ _ _ (S1.out.rdx 0 rfl)).mono ?_;rintro e w5 ⟨q5,rfl,Z⟩;have S2:=Lib.hid (S1.out.comp Z);clear Z)) | (go_at_call 108;go_must (refine HSC.out.mono ?_;rintro e w4 ⟨q3,c3',q4,c4',rfl,Z⟩;have S1:=Lib.hid Z;clear Z)))
   have S5:=(S3.out.pick (Δ:=(.own 3 1 q5 wk wk (encI (eachL Y.1 wk)) :: .many 3 1 (rowsN (ndR rn wk i) hd) :: (.own 146 4 q3 Y.1.length c3' (encQ Y.1) :: .own 138 4 q4 Y.2.length c4' (encQ Y.2) :: .blk gs 85 #[.slice q3 Y.1.length c3'] :: .blk gm 83 #[.slice q4 Y.2.length c4'] :: .blk gw 3 #[.int .i64 wk] :: .blk gl 28 #[.slice pl nl cl] :: .blk gr 27 #[.slice po no co,.slice pt nt ct,.slice pr nr cr,.slice pv nv cv] :: .blk gq 24 #[.int .i64 k,.int .i64 f,.int .i64 t,.slice pw nw cw,.int .i64 rad,.int .i64 most] :: [.own 25 1 u' (i+1) e' (encH hd ++ [.slice q5 wk wk])]))) [0,10,1,2,3,4,5,6,7,8,9] (by decide) rfl).gather
   rw [show encH hd ++ [Value.slice q5 wk wk]=encH (hd ++ [⟨q5,wk,wk⟩]) from encH_snoc hd ⟨q5,wk,wk⟩,← rowsN_snoc _ _ _ _ (by rw [HHD.out,ndR_len]),← HSN.out] at S5
   have HS5:=Lib.hid S5
   clear S5
   go_roundg (m - (i+1))
   case rel=>exact⟨i+1,q3,Y.1.length,c3',q4,Y.2.length,c4',u',e',hd ++ [⟨q5,wk,wk⟩],by omega,rfl,by unfold Hid;rw [List.length_append,HHD.out];rfl,by unfold Hid;rw [HRY.out];exact HS5.out.pick [1,2,3,4,5,6,7,8,9,0] (by decide) rfl⟩
   case measure=>have:=HIG.out;omega
end
section
open Go Go.RowKit
theorem needSteps (k f t:Int) (pw:Option Addr) (nw cw:Nat) (ws:List ByteArray) (rad most:Int) (po:Option Addr) (no co:Nat) (O:List Int) (pt:Option Addr) (nt ct:Nat) (T:List Int) (pr:Option Addr) (nr cr:Nat) (R:List Int) (pv:Option Addr) (nv cv:Nat) (V:List Int) (pl:Option Addr) (nl cl:Nat) (hs:List Hd) (L:List Po) (wv:Int) (w:World) (hO:Rd w 1 po no (encI O)) (hT:Rd w 1 pt nt (encI T)) (hR:Rd w 1 pr nr (encI R)) (hV:Rd w 1 pv nv (encI V)) (hct:nt≤ct) (hcv:nv≤cv)
  (hL:RdP w pl nl hs L) (hW:Rd w 1 pw nw (encS ws)) (h200:no≤200) (hz:∀ s∈ws,s.size≤1000000) (ht:I64 t) (hcw:nw≤cw) (hnw:nw≤100) (hok:PoOk L) :
  Calls Tryz.prog 34 #[.agg #[.int .i64 k,.int .i64 f,.int .i64 t,.slice pw nw cw,.int .i64 rad,.int .i64 most],.agg #[.slice po no co,.slice pt nt ct,.slice pr nr cr,.slice pv nv cv],.slice pl nl cl,.int .i64 wv] w fun x w'=>∃ X e,NeedS O T R V k f t ws rad most wv X e∧NdQ X e w x w':=by
 have hno:=hO.nI
 have HRN:=fun W (h:Ext w W)=>RunG k f t pw nw cw ws rad most po no co O pt nt ct T pr nr cr R pv nv cv V pl nl cl hs L wv 1000 none 0 0 [] W (hO.ext h) (hT.ext h) (hR.ext h) (hV.ext h) hct hcv (hL.ext h) (hW.ext h) (Rd.nil _ _ _) h200 hz (by decide) ht hcw hnw hok
 by_cases h0:chkJ (checkR O T R V) k f t ws rad most O.length=0
 ·by_cases h1:1≤wv∧wv≤16
  ·obtain⟨hck,hq,n,hn,_⟩:=chkJ_facts h0
   have hq2:chkQ k f t ws rad most (n:Int)=0:=by rw [← hq];congr 1;omega
   obtain⟨hk,hI,m,hm,hd,hf⟩:=run_m (k:=k) (rad:=rad) hck hn (by omega) hq2
   obtain⟨wk,rfl⟩:∃ wk:Nat,wv=(wk:Int):=⟨wv.toNat,by omega⟩
   refine(StepsOk k f t pw nw cw ws rad most po no co O pt nt ct T pr nr cr R pv nv cv V pl nl cl hs L wk n m (runM (nextL k rad true O T R V) (startQ k f t 0)) w hO hT hR hV hct hcv hL hW hck hn (by omega) (by omega) (by omega) (by omega) hk ht hcw hnw hok rfl hI (fun _=>rfl) hd hf _ HRN (fun b d F n' e hR=>?_)).mono ?_
   ·have:=runS_err (by omega) hR
    rw [this,h0,if_neg (by simp),if_pos h1]
   ·intro x w' hx
    exact⟨_,0,⟨fun h=>absurd h0 h,fun _ h=>absurd h1 h,fun _ _=>⟨rfl,m,by omega,hd,hf,by rw [Int.toNat_natCast];rfl⟩⟩,hx⟩
  ·refine(StepsErr k f t pw nw cw rad most po no co pt nt ct pr nr cr pv nv cv pl nl cl wv 1 _ w (by decide) HRN (fun b d F n' e hR=>?_)).mono ?_
   ·have:=runS_err (by omega) hR
    rw [this,h0,if_neg (by simp),if_neg h1]
   ·intro x w' hx
    exact⟨[],1,⟨fun h=>absurd h0 h,fun _ _=>⟨rfl,rfl⟩,fun _ h=>absurd h h1⟩,hx⟩
 ·refine(StepsErr k f t pw nw cw rad most po no co pt nt ct pr nr cr pv nv cv pl nl cl wv (chkJ (checkR O T R V) k f t ws rad most O.length) _ w h0 HRN (fun b d F n' e hR=>?_)).mono ?_
  ·have:=runS_err (by omega) hR
   rw [this,if_pos h0]
  ·intro x w' hx
   exact⟨[],_,⟨fun _=>⟨rfl,rfl⟩,fun h=>absurd h h0,fun h=>absurd h h0⟩,hx⟩
def lastR (X:List (List Int)):List Int:=nth X (X.length - 1)
def MoQ (Y:List Int) (e:Int) (w:World) (x:Ending) (w':World):Prop:=∃ q c,x=.returned (.tuple #[.slice q Y.length c,.int .i64 e])∧Rd w' 1 q Y.length (encI Y)∧Ext w w'
theorem needS_some {O T R V:List Int} {k f t:Int} {ws:List ByteArray} {rad most wv:Int} {X:List (List Int)} {e:Int} (h:NeedS O T R V k f t ws rad most wv X e):(e=0→X≠[])∧(e≠0→X=[]):=by
 by_cases h0:chkJ (checkR O T R V) k f t ws rad most O.length=0
 ·by_cases h1:1≤wv∧wv≤16
  ·obtain⟨a1,m,a2,a3,a4,a5⟩:=h.2.2 h0 h1
   refine⟨fun _ hX=>?_,fun h=>absurd a1 h⟩
   have:=needL_len O T R V k f t rad wv.toNat (m+1)
   rw [← a5,hX] at this
   cases this
  ·obtain⟨a1,a2⟩:=h.2.1 h0 h1
   exact⟨fun h=>by omega,fun _=>a1⟩
 ·obtain⟨a1,a2⟩:=h.1 h0
  exact⟨fun h=>absurd (a2.symm.trans h) h0,fun _=>a1⟩
end
section
open Go Go.RowKit
theorem longR_snoc (l:List (List Int)) (r:List Int):longR (l ++ [r])=max (longR l) r.length:=by
 induction l with
 | nil=>show max r.length 0=max 0 r.length;omega
 | cons a l ih=>show max a.length (longR (l ++ [r]))=max (max a.length (longR l)) r.length;rw [ih];omega
theorem longR_le {l:List (List Int)} {b:Nat} (h:∀ r∈l,r.length≤b):longR l≤b:=by
 induction l with
 | nil=>exact Nat.zero_le _
 | cons a l ih =>
  have:=ih fun r hr=>h r (List.mem_cons_of_mem _ hr)
  have:=h a (List.mem_cons_self ..)
  show max a.length (longR l)≤b
  omega
theorem longR_ge {l:List (List Int)} {r:List Int} (h:r∈l):r.length≤longR l:=by
 induction l with
 | nil=>cases h
 | cons a l ih =>
  show r.length≤max a.length (longR l)
  rcases List.mem_cons.1 h with rfl | h
  ·omega
  ·have:=ih h;omega
def addK (acc r:List Int) (k:Nat):List Int:=(List.range acc.length).map fun i=>nth acc i+if i<k then nth r i else 0
theorem addK_len (acc r:List Int) (k:Nat):(addK acc r k).length=acc.length:=by simp [addK]
theorem addK_nth {acc r:List Int} {k i:Nat} (h:i<acc.length):nth (addK acc r k) i=nth acc i+if i<k then nth r i else 0:=by
 unfold addK
 rw [nth_eq (by rw [List.length_map,List.length_range];exact h),List.getElem_map,List.getElem_range]
theorem addK_zero (acc r:List Int):addK acc r 0=acc:=by
 refine List.ext_getElem (addK_len _ _ _) fun i h1 h2=>?_
 have:=addK_nth (acc:=acc) (r:=r) (k:=0) h2
 rw [nth_eq h1,nth_eq h2] at this
 rw [this,if_neg (by omega)];omega
theorem addK_succ {acc r:List Int} {k:Nat}:addK acc r (k+1)=(addK acc r k).set k (nth acc k+nth r k):=by
 refine List.ext_getElem (by simp [addK]) fun i h1 h2=>?_
 rw [addK_len] at h1
 have e:=addK_nth (acc:=acc) (r:=r) (k:=k+1) h1
 have e2:=addK_nth (acc:=acc) (r:=r) (k:=k) h1
 rw [nth_eq (by rw [addK_len];exact h1)] at e e2
 rw [e,List.getElem_set]
 by_cases h:k=i
 ·subst h;rw [if_pos (by omega),if_pos rfl]
 ·rw [if_neg h,e2]
  by_cases g:i<k
  ·rw [if_pos g,if_pos (by omega)]
  ·rw [if_neg g,if_neg (by omega)]
def accR (N:Nat) (LL:List (List Int)) (j:Nat):List Int:=(List.range N).map (sumAt (LL.take j))
theorem accR_len (N:Nat) (LL:List (List Int)) (j:Nat):(accR N LL j).length=N:=by simp [accR]
theorem accR_nth {N:Nat} {LL:List (List Int)} {j i:Nat} (h:i<N):nth (accR N LL j) i=sumAt (LL.take j) i:=by
 unfold accR
 rw [nth_eq (by rw [List.length_map,List.length_range];exact h),List.getElem_map,List.getElem_range]
theorem sumAt_snoc (l:List (List Int)) (r:List Int) (i:Nat):sumAt (l ++ [r]) i=sumAt l i+nth r i:=by
 unfold sumAt
 rw [List.map_append,List.sum_append]
 simp
theorem accR_zero (N:Nat) (LL:List (List Int)):accR N LL 0=List.replicate N 0:=by
 unfold accR
 refine List.ext_getElem (by simp) fun i h1 h2=>?_
 simp [sumAt]
theorem accR_succ {N:Nat} {LL:List (List Int)} {j:Nat} (hj:j<LL.length):accR N LL (j+1)=addK (accR N LL j) (nth LL j) (nth LL j).length:=by
 refine List.ext_getElem (by rw [addK_len,accR_len,accR_len]) fun i h1 h2=>?_
 rw [accR_len] at h1
 have e1:=accR_nth (LL:=LL) (j:=j+1) h1
 have e2:=addK_nth (acc:=accR N LL j) (r:=nth LL j) (k:=(nth LL j).length) (i:=i) (by rw [accR_len];exact h1)
 rw [nth_eq (by rw [accR_len];exact h1)] at e1
 rw [nth_eq (by rw [addK_len,accR_len];exact h1),accR_nth h1] at e2
 rw [e1,e2,take_succ_nth LL j hj,sumAt_snoc]
 by_cases h:i<(nth LL j).length
 ·rw [if_pos h]
 ·rw [if_neg h,nth_over (by omega)]
theorem accR_all (LL:List (List Int)):accR (longR LL) LL LL.length=sumR LL:=by unfold accR sumR;rw [List.take_length]
def SmL (LL:List (List Int)):Prop:=LL.length≤1000∧∀ r∈LL,r.length≤1000∧∀ x∈r,-1000000000≤x∧x≤1000000000
theorem smL_at {LL:List (List Int)} (h:SmL LL) {j i:Nat} (hj:j<LL.length):-1000000000≤nth (nth LL j) i∧nth (nth LL j) i≤1000000000:=by
 have hr:=(h.2 (nth LL j) (by rw [nth_eq hj];exact List.getElem_mem _)).2
 by_cases hi:i<(nth LL j).length
 ·exact hr _ (by rw [nth_eq hi];exact List.getElem_mem _)
 ·rw [nth_over (by omega)];omega
theorem smL_sum {LL:List (List Int)} (h:SmL LL) (i:Nat):∀ j,j≤LL.length→-(1000000000*(j:Int))≤sumAt (LL.take j) i∧sumAt (LL.take j) i≤1000000000*(j:Int)
 | 0,_=>by simp [sumAt]
 | j+1,hj=>by
  have ih:=smL_sum h i j (by omega)
  have:=smL_at h (i:=i) (show j<LL.length by omega)
  rw [take_succ_nth LL j (by omega),sumAt_snoc]
  omega
theorem sumCl1 (m:Nat) (p:Option Addr) (n c:Nat) (w:World):Calls Tryz.prog 60 #[.int .i64 m,.slice p n c] w fun e w'=>e=.returned (.int .i64 ((max m n:Nat):Int))∧w=w':=by
 have e1:max (m:Int) (n:Int)=((max m n:Nat):Int):=by omega
 have HE:=Lib.hid e1
 go_enter Tryz.func60,Tryz.ntmps60
 go_wp2
 go_ret
 exact⟨by rw [← HE.out];rfl,rfl⟩
theorem FoldMax (p:Option Addr) (n c:Nat) (hs:List Hd) (LL:List (List Int)) (w:World) (hL:RdL w p n hs LL) :
  Calls Tryz.prog 59 #[.int .i64 0,.slice p n c,.func (.func 60) #[] #[]] w fun e w'=>e=.returned (.int .i64 ((longR LL:Nat):Int))∧w=w':=by
 have p1:=hL.row.ptr
 have n1:=hL.row.small
 have L1:=Lib.hid hL.nL
 have HL:=Lib.hid hL
 clear hL
 go_enter Tryz.func59,Tryz.ntmps59
 go_wp2
 go_loop [0,8,11] (fun x _ i=>∃ k m:Nat,k≤n∧i=.int .i64 k∧x=.int .i64 (m:Int)∧Hid (m=longR (LL.take k))) (fun _ _ i=>n - (intOf i).toNat)
 case atStart=>exact⟨0,0,Nat.zero_le _,rfl,rfl,rfl⟩
 case round =>
  obtain⟨k,m,hk,rfl,rfl,HM⟩:=hrel
  by_cases hlt:k<n
  ·have g1:=HL.out.row.cH hlt
   have hkl:k<LL.length:=by rw [← L1.out];exact hlt
   have hln:(nth hs k).n=(nth LL k).length:=(HL.out.each k hlt).nI
   have HM2:Hid (max m (nth hs k).n=longR (LL.take (k+1))):=by unfold Hid;rw [take_succ_nth LL k hkl,longR_snoc,← HM.out,hln]
   have d1:(0:Int)≤k:=by omega
   have d2:(k:Int)<n:=by omega
   have HC:=Lib.hid (fun W=>sumCl1 m (nth hs k).p (nth hs k).n (nth hs k).c W)
   clear hln hkl
   generalize nth hs k=hd at *
   obtain⟨hp,hn',hc⟩:=hd
   simp only at g1 HM2 HC
   obtain⟨m2,hm2⟩:∃ m2,max m hn'=m2:=⟨_,rfl⟩
   rw [hm2] at HM2 HC
   clear hm2 HM
   go_wp2_with (go_at_call 60;go_must (refine(HC.out _).mono ?_;rintro e w' ⟨rfl,rfl⟩))
   go_round
   case rel=>exact⟨k+1,m2,by omega,by go_num,rfl,HM2.out⟩
   case measure=>simp [intOf];omega
  ·have HF:Hid (m=longR LL):=by
    unfold Hid
    rw [HM.out,List.take_of_length_le (by rw [← L1.out];omega)]
   go_wp2
   go_ret
   exact⟨by rw [HF.out];rfl,rfl⟩
theorem sumCl2 (pr:Option Addr) (n cr:Nat) (r acc:List Int) (q:Option Addr) (N c:Nat) (w0 w:World) (Γ:List Pc) (S:Sep w0 w (.own 3 1 q N c (encI acc) :: Γ)) (hr:Rd w0 1 pr n (encI r)) (hn:n≤N) (hN:N≤1000) (hb:∀ i,-1000000000000≤nth acc i∧nth acc i≤1000000000000) (hb2:∀ i,-1000000000≤nth r i∧nth r i≤1000000000) :
  Calls Tryz.prog 62 #[.slice q N c,.slice pr n cr] w fun e w'=>e=.returned (.slice q N c)∧Sep w0 w' (.own 3 1 q N c (encI (addK acc r n)) :: Γ):=by
 have p1:=hr.ptr
 have HR:=Lib.hid hr
 have hal:=(S.rdx 0 rfl).nI
 have HAL:=Lib.hid hal
 have HB:=Lib.hid hb
 have HB2:=Lib.hid hb2
 have SH:=Lib.hid S
 clear hr hal hb hb2 S
 go_enter Tryz.func62,Tryz.ntmps62
 go_wp2
 go_loopw [5,6,9] (fun _ _ i wr=>∃ k:Nat,k≤n∧i=.int .i64 k∧Sep w0 wr (.own 3 1 q N c (encI (addK acc r k)) :: Γ)) (fun _ _ i _=>n - (intOf i).toNat)
 case atStart=>exact⟨0,Nat.zero_le _,rfl,by rw [addK_zero];exact SH.out⟩
 case round =>
  clear SH
  obtain⟨k,hk,rfl,S⟩:=hrel
  by_cases hlt:k<n
  ·have hkN:k<N:=by omega
   have g1:=(HR.out.ext S.ext).cI hlt
   have g2:=(S.rdx 0 rfl).cI hkN
   have e0:nth (addK acc r k) k=nth acc k:=by rw [addK_nth (by rw [← HAL.out];exact hkN),if_neg (by omega)];omega
   rw [e0] at g2
   have HS:=Lib.hid (addK_succ (acc:=acc) (r:=r) (k:=k))
   have b1:=HB.out k
   have b2:=HB2.out k
   have d1:(0:Int)≤k:=by omega
   have d2:(k:Int)<n:=by omega
   have d3:(k:Int)<N:=by omega
   have pq:=(S.rdx 0 rfl).ptr
   have fz:=own_frozen (S.own 0 rfl) (by omega) k
   have S3:=Lib.hid (S.setRow 0 rfl k (by omega) (.int .i64 (nth acc k+nth r k)))
   generalize nth acc k=x at *
   generalize nth r k=y at *
   clear S e0
   obtain⟨b3,b4⟩:=b1
   obtain⟨b5,b6⟩:=b2
   go_wp2
   go_roundw
   case rel=>exact⟨k+1,by omega,by go_num,by rw [HS.out,← encI_set];exact S3.out⟩
   case measure=>simp [intOf];omega
  ·obtain rfl:k=n:=by omega
   have SH:=Lib.hid S
   clear S
   go_wp2
   go_ret
   exact⟨rfl,SH.out⟩
theorem FoldSum (p:Option Addr) (n c:Nat) (hs:List Hd) (LL:List (List Int)) (q:Option Addr) (N cq:Nat) (w0 w:World) (S:Sep w0 w [.own 3 1 q N cq (encI (accR N LL 0))]) (hL:RdL w0 p n hs LL) (hN:N=longR LL) (hsm:SmL LL) :
  Calls Tryz.prog 61 #[.slice q N cq,.slice p n c,.func (.func 62) #[] #[]] w fun e w'=>e=.returned (.slice q N cq)∧Sep w0 w' [.own 3 1 q N cq (encI (accR N LL LL.length))]:=by
 have p1:=hL.row.ptr
 have n1:=hL.row.small
 have L1:=Lib.hid hL.nL
 have HL:=Lib.hid hL
 have hN1:N≤1000:=by rw [hN];exact longR_le fun r hr=>(hsm.2 r hr).1
 have HLE:Hid (∀ k,k<LL.length→(nth LL k).length≤N):=fun k hk=>by rw [hN];exact longR_ge (by rw [nth_eq hk];exact List.getElem_mem _)
 have HSM:=Lib.hid hsm
 have SH:=Lib.hid S
 clear hL S hN hsm
 go_enter Tryz.func61,Tryz.ntmps61
 go_wp2
 go_loopw [0,8,11] (fun x _ i wr=>∃ k:Nat,k≤n∧i=.int .i64 k∧x=.slice q N cq∧Sep w0 wr [.own 3 1 q N cq (encI (accR N LL k))]) (fun _ _ i _=>n - (intOf i).toNat)
 case atStart=>exact⟨0,Nat.zero_le _,rfl,rfl,SH.out⟩
 case round =>
  clear SH
  obtain⟨k,hk,rfl,rfl,S⟩:=hrel
  by_cases hlt:k<n
  ·have g1:=(HL.out.ext S.ext).row.cH hlt
   have hkl:k<LL.length:=by rw [← L1.out];exact hlt
   have hE:=HL.out.each k hlt
   have hln:(nth hs k).n=(nth LL k).length:=hE.nI
   have hle:(nth hs k).n≤N:=by rw [hln];exact HLE.out k hkl
   have HC:=Lib.hid (sumCl2 (nth hs k).p (nth hs k).n (nth hs k).c (nth LL k) (accR N LL k) q N cq w0 wr [] S hE hle hN1 (fun i=>by
    by_cases hi:i<N
    ·rw [accR_nth hi]
     have:=smL_sum HSM.out i k (by omega)
     have:=HSM.out.1
     omega
    ·rw [nth_over (by rw [accR_len];omega)];omega) (fun i=>smL_at HSM.out hkl))
   rw [hln,← accR_succ hkl,← hln] at HC
   have d1:(0:Int)≤k:=by omega
   have d2:(k:Int)<n:=by omega
   clear hln hle hkl S hE
   generalize nth hs k=hd at *
   obtain⟨hp,hn',hc⟩:=hd
   simp only at g1 HC
   go_wp2_with (go_at_call 62;go_must (refine HC.out.mono ?_;rintro e w' ⟨rfl,Z⟩;have S2:=Lib.hid Z;clear Z))
   go_roundw
   case rel=>exact⟨k+1,by omega,by go_num,rfl,S2.out⟩
   case measure=>simp [intOf];omega
  ·obtain rfl:k=n:=by omega
   have SH:=Lib.hid S
   clear S
   go_wp2
   go_ret
   exact⟨rfl,by rw [← L1.out];exact SH.out⟩
theorem SumG (p:Option Addr) (n c:Nat) (hs:List Hd) (LL:List (List Int)) (w:World) (hL:RdL w p n hs LL) (hsm:SmL LL) :
  Calls Tryz.prog 30 #[.slice p n c] w fun e w'=>∃ q c',e=.returned (.slice q (sumR LL).length c')∧Sep w w' [.own 3 1 q (sumR LL).length c' (encI (sumR LL))]:=by
 obtain⟨j0,ji0,jz0,jz1,jz2⟩:=info_parts infI
 have hN1:longR LL≤1000:=longR_le fun r hr=>(hsm.2 r hr).1
 have HM:=Lib.hid (FoldMax p n c hs LL w hL)
 have HS:=Lib.hid (fun q cq w' (S:Sep w w' [.own 3 1 q (longR LL) cq (encI (accR (longR LL) LL 0))])=>FoldSum p n c hs LL q (longR LL) cq w w' S hL rfl hsm)
 have HA:=Lib.hid (accR_all LL)
 have HZ:=Lib.hid (accR_zero (longR LL) LL)
 have HLN:=Lib.hid (sumR_len LL)
 clear hL hsm
 generalize longR LL=N at *
 go_enter Tryz.func30,Tryz.ntmps30
 go_wp2_with (first
  | (go_at_call 61;go_must (refine(HS.out _ _ _ S2.out).mono ?_;rintro e w3 ⟨rfl,Z⟩;have S3:=Lib.hid Z;clear Z))
  | (at_make;go_must (refine wpList_make_sep rfl _ _ _ rfl 3 j0 _ 1 Tryz.underlying25 ji0 jz0 jz1 (N:Int) N rfl rfl rfl (by rw [jz2];omega) (by unfold maxLen;omega) (Sep.start w) ?_;intro w2 S';rw [made_encI,← HZ.out] at S';have S2:=Lib.hid S';clear S'))
  | (go_at_call 59;go_must (refine HM.out.mono ?_;rintro e w1 ⟨rfl,rfl⟩)))
 go_ret
 rw [HA.out] at S3
 exact⟨_,_,by rw [HLN.out];rfl,by rw [HLN.out];exact S3.out⟩
end
section
open Go Go.RowKit
theorem Same06 (p q:Option Addr) (n c d:Nat) (hs ht:List Hd) (LL:List (List Int)) (w:World) (h1:RdL w p n hs LL) (h2:RdL w q n ht LL) :
  Calls Tryz.prog 32 #[.slice p n c,.slice q n d] w fun e w'=>e=.returned (.bool true)∧Ext w w':=by
 have p1:=h1.row.ptr
 have p2:=h2.row.ptr
 have n1:=h1.row.small
 have H1:=Lib.hid h1
 have H2:=Lib.hid h2
 clear h1 h2
 go_enter Tryz.func32,Tryz.ntmps32
 go_wp2
 go_loopw [5] (fun i wr=>∃ k:Nat,k≤n∧i=.int .i64 k∧Ext w wr) (fun i _=>n - (intOf i).toNat)
 case atStart=>exact⟨0,Nat.zero_le _,rfl,Below.refl _ _⟩
 case round =>
  obtain⟨k,hk,rfl,hE⟩:=hrel
  have HE:=Lib.hid hE
  by_cases hlt:k<n
  ·have g1:=(H1.out.ext hE).row.cH hlt
   have g2:=(H2.out.ext hE).row.cH hlt
   have HI:=Lib.hid (fun y:ExtOf wr=>IntsY (nth hs k).p (nth ht k).p (nth hs k).n (nth ht k).n (nth hs k).c (nth ht k).c (nth LL k) y.val ((H1.out.each k hlt).ext (Ext.trans hE y.ext)) ((H2.out.each k hlt).ext (Ext.trans hE y.ext)))
   have d1:(0:Int)≤k:=by omega
   have d2:(k:Int)<n:=by omega
   clear hE
   generalize nth hs k=hd at *
   generalize nth ht k=he at *
   obtain⟨hp,hn',hc⟩:=hd
   obtain⟨ep,en,ec⟩:=he
   simp only at g1 g2 HI
   go_wp2
   have u1:=fun x:ExtOf wr=>x.ext.cell g1
   have u2:=fun x:ExtOf wr=>x.ext.cell g2
   refine wp_region_ext (by kernel_rfl) (by kernel_rfl) ?_
   repeat (go_big_quiet_step (((go_at_call 29;exact Calls.ext_of (HI.out _)))))
   refine wpQuiet_nil ?_
   rintro w9 ⟨⟨_,hb9⟩,rfl⟩
   have HX:=Lib.hid (Ext.trans HE.out hb9)
   clear hb9
   go_wp2
   go_roundw
   case rel=>exact⟨k+1,by omega,by go_num,HX.out⟩
   case measure=>simp [intOf];omega
  ·clear hE
   go_wp2
   go_ret
   exact⟨rfl,HE.out⟩
end
section
open Go Go.RowKit
def clO:List Int:=[0,1,2,2]
def clT:List Int:=[1,2]
def clR:List Int:=[0,0,1,2]
def clV:List Int:=[0,1]
theorem cl_4a:doneB 2 2 (runM (nextL 2 0 true clO clT clR clV) (startQ 2 0 2 0) 1)=false:=by kernel_rfl
theorem cl_4b:doneB 2 2 (runM (nextL 2 0 true clO clT clR clV) (startQ 2 0 2 0) 2)=false:=by kernel_rfl
theorem cl_4c:doneB 2 2 (runM (nextL 2 0 true clO clT clR clV) (startQ 2 0 2 0) 3)=true:=by kernel_rfl
end
section
open Go Go.RowKit
theorem cl_first {p:Nat→Bool} {m c:Nat} (h:p m=true) (hf:∀ j,j<m→p j=false) (hc:p c=true) (hcf:∀ j,j<c→p j=false):m=c:=least_uniqB h hf hc hcf
end
section
open Go Go.RowKit
theorem cl_nl:needL clO clT clR clV 2 0 2 0 2 3=[[0,1],[1,1],[1,2]]:=by kernel_rfl
theorem cl_sum:sumR [[0,1],[1,1],[1,2]]=[2,4]:=by kernel_rfl
theorem cl_need1 {X:List (List Int)} {e:Int} (h:NeedS clO clT clR clV 2 0 2 [] 0 0 2 X e):X=[[0,1],[1,1],[1,2]]∧e=0:=by
 obtain⟨h1,m,h2,h3,h4,h5⟩:=h.2.2 (by kernel_rfl) (by decide)
 obtain rfl:m=2:=cl_first (p:=fun i=>doneB 2 2 (runM (nextL 2 0 true clO clT clR clV) (startQ 2 0 2 0) (i+1))) h3 h4 cl_4c (fun j hj=>by
  rcases (show j=0∨j=1 by omega) with rfl | rfl
  ·exact cl_4a
  ·exact cl_4b)
 exact⟨h5.trans cl_nl,h1⟩
theorem cl_need2 {X:List (List Int)} {e:Int} (h:NeedS clO clT clR clV 0 0 0 [] 0 0 2 X e):X=[]∧e=180:=by
 have hc:chkJ (checkR clO clT clR clV) 0 0 0 [] 0 0 clO.length=180:=by kernel_rfl
 obtain⟨h1,h2⟩:=h.1 (by rw [hc];decide)
 exact⟨h1,by rw [h2,hc]⟩
theorem cl_small:SmL [[0,1],[1,1],[1,2]]:=⟨by decide,fun r hr=>by
 simp at hr
 rcases hr with rfl | rfl | rfl <;> exact⟨by decide,fun x hx=>by simp at hx;omega⟩⟩
end
section
open Go Go.RowKit
attribute [local go_sem ↓] eqHit9 neqHit9 guardHit9
def e9E:List (Int × Int):=[(0,1),(1,2)]
def e9O:List Int:=[0,1,2,2]
def e9T:List Int:=[1,2]
def e9R:List Int:=[0,0,1,2]
def e9V:List Int:=[0,1]
theorem e9I:isB 3 e9E [[],[],[]]=true:=by decide +kernel
theorem e9O_eq:offL 3 e9E=e9O:=by decide +kernel
theorem e9T_eq:toL e9E=e9T:=by decide +kernel
theorem e9R_eq:offL 3 (turnE e9E)=e9R:=by decide +kernel
theorem e9V_eq:toL (turnE e9E)=e9V:=by decide +kernel
theorem e9Cells:(#[.int .i64 0,.int .i64 1,.int .i64 1,.int .i64 2]:Array Value).toList=encE e9E:=by simp [encE,e9E]
theorem made3n:(madeCells (Value.slice none 0 0).cells (3*1)).toList=[.slice none 0 0,.slice none 0 0,.slice none 0 0]:=by kernel_rfl
theorem e9Mk (p q:Option Addr) (W:World) (h1:Rd W 2 p 2 (encE e9E)) (h0:Rd W 1 q 3 [.slice none 0 0,.slice none 0 0,.slice none 0 0]):Calls Tryz.prog 57 #[.agg #[.int .i64 3,.slice p 2 2,.slice q 3 3]] W fun e w' =>
  ∃ po no co pt nt ct pr nr cr pv nv cv,e=.returned (.tuple #[.agg #[.slice po no co,.slice pt nt ct,.slice pr nr cr,.slice pv nv cv],.int .i64 0])∧R4 w' po no pt nt pr nr pv nv e9O e9T e9R e9V∧nt≤ct∧nv≤cv∧Ext W w':=by
 have h2:RdW W q 3 [⟨none,0,0⟩,⟨none,0,0⟩,⟨none,0,0⟩] [[],[],[]]:=⟨rfl,h0,fun j hj=>by
  have:j=0∨j=1∨j=2:=by omega
  rcases this with rfl | rfl | rfl <;> exact Rd.nil _ _ _⟩
 have hz:SzW [[],[],[]]:=fun l hl s hs=>by simp at hl;subst hl;cases hs
 refine(RMakeG_yes 3 _ 2 2 _ 3 3 e9E _ _ W h1 h2 hz e9I).mono ?_
 rintro e w' ⟨v,rfl,⟨po,no,co,pt,nt,ct,pr,nr,cr,pv,nv,cv,rfl,k1,k2,k3,k4,k5,k6,k7,k8⟩,hb⟩
 rw [e9O_eq] at k1
 rw [e9T_eq] at k2
 rw [e9R_eq] at k3
 rw [e9V_eq] at k4
 exact⟨po,no,co,pt,nt,ct,pr,nr,cr,pv,nv,cv,rfl,⟨k1,k2,k3,k4⟩,k6,k8,hb⟩
end
section
open Go Go.RowKit
theorem RdP.nil (w:World):RdP w none 0 [] []:=⟨rfl,.inl rfl,by omega,fun k hk=>by omega,fun k hk=>by omega,fun k hk=>by omega⟩
end
section
open Go Go.RowKit
theorem rdl3 {w:World} {p q0 q1 q2:Option Addr} {c0 c1 c2:Nat} {A B C:List Int} {na nb nc:Nat} (h:Rd w 1 p 3 [.slice q0 na c0,.slice q1 nb c1,.slice q2 nc c2]) (h0:Rd w 1 q0 na (encI A)) (h1:Rd w 1 q1 nb (encI B)) (h2:Rd w 1 q2 nc (encI C)):RdL w p 3 [⟨q0,na,c0⟩,⟨q1,nb,c1⟩,⟨q2,nc,c2⟩] [A,B,C] :=
 ⟨rfl,h,fun j hj=>by
  have:j=0∨j=1∨j=2:=by omega
  rcases this with rfl | rfl | rfl
  ·exact h0
  ·exact h1
  ·exact h2⟩
theorem fit1:fitsB [1,2] [1,2]=true:=by decide
theorem fit2:fitsB [1,2] [2,1]=false:=by decide
theorem fit3:fitsB [1] []=false:=by decide
theorem Needs21 (w:World):Calls Tryz.prog 26 #[] w fun e w'=>e=.returned (.bool true)∧Ext w w':=by
 obtain⟨i0,hi0,hz0,hz1,hz2⟩:=info_parts inf35
 have SE:Hid (Sep w (w.alloc (.cells #[.int .i64 0,.int .i64 1,.int .i64 1,.int .i64 2] 98)) [.own 98 2 (some ⟨w.heap.size,0,none⟩) 2 2 (encE e9E)]):=by
  have h:=(Sep.start w).alrow #[.int .i64 0,.int .i64 1,.int .i64 1,.int .i64 2] 98 2 2 w.heap.size rfl (by decide) rfl
  rw [e9Cells] at h
  exact h
 have HQ:Hid ((w.alloc (.cells #[.int .i64 0,.int .i64 1,.int .i64 1,.int .i64 2] 98)).heap.size=w.heap.size+1):=by unfold Hid;simp
 go_enter Tryz.func26,Tryz.ntmps26
 go_wp2_with (first
  | (at_make;go_must (refine wpList_make_sep rfl _ _ _ rfl 22 i0 _ 1 Tryz.underlying100 hi0 hz0 hz1 (3:Int) 3 rfl rfl rfl (by rw [hz2];omega) (by unfold maxLen;omega) SE.out ?_;intro w0 S';rw [made3n,HQ.out] at S';have S0:=Lib.hid S';clear S'))
  | (go_at_call 34;have _t:=S2;go_must (refine(needSteps 0 0 0 none 0 0 [] 0 0 po no co e9O pt nt ct e9T pr nr cr e9R pv nv cv e9V none 0 0 [] [] 2 _ (HR.out.ext S2.out.ext).o (HR.out.ext S2.out.ext).t (HR.out.ext S2.out.ext).r (HR.out.ext S2.out.ext).v hct hcv (RdP.nil _) (Rd.nil _ _ _) (by have:=HR.out.o.nI;rw [this];decide) (fun s hs=>by cases hs) (by unfold I64;decide) (by decide) (by decide) (fun p hp=>by cases hp)).mono ?_;rintro e w3 ⟨X2,e2,h2,qy,cy,hsy,rfl,_,hb⟩;obtain⟨rfl,rfl⟩:=cl_need2 h2;have S3:=Lib.hid (S2.out.call hb);have HX3:=Lib.hid (HX.out.ext hb);have T4:=Lib.hid (((((Sep.start w3).alrow #[.int .i64 0,.int .i64 1] 3 1 2 w3.heap.size rfl (by decide) rfl).alrow #[.int .i64 1,.int .i64 1] 3 1 2 (w3.heap.size+1) (by simp) (by decide) rfl).alrow #[.int .i64 1,.int .i64 2] 3 1 2 (w3.heap.size+1+1) (by simp) (by decide) rfl).alrow #[.slice (some ⟨w3.heap.size,0,none⟩) 2 2,.slice (some ⟨w3.heap.size+1,0,none⟩) 2 2,.slice (some ⟨w3.heap.size+1+1,0,none⟩) 2 2] 25 1 3 (w3.heap.size+1+1+1) (by simp) (by decide) rfl);clear hb h2))
  | (go_at_call 34;go_must (refine(needSteps 2 0 2 none 0 0 [] 0 0 po no co e9O pt nt ct e9T pr nr cr e9R pv nv cv e9V none 0 0 [] [] 2 _ (HR.out.ext S1.out.ext).o (HR.out.ext S1.out.ext).t (HR.out.ext S1.out.ext).r (HR.out.ext S1.out.ext).v hct hcv (RdP.nil _) (Rd.nil _ _ _) (by have:=HR.out.o.nI;rw [this];decide) (fun s hs=>by cases hs) (by unfold I64;decide) (by decide) (by decide) (fun p hp=>by cases hp)).mono ?_;rintro e w2 ⟨X1,e1,h1,qx,cx,hsx,rfl,hx,hb⟩;obtain⟨rfl,rfl⟩:=cl_need1 h1;have S2:=Lib.hid (S1.out.call hb);have HX:=Lib.hid hx;obtain⟨bz,b0,b1,b2,b3⟩:=bklc0c1c2c3 (S2.out.blk 0 rfl);clear hb h1 hx))
  | (go_at_call 57;go_must (refine(e9Mk _ _ _ (S0.out.rd 1 rfl (by decide)) (S0.out.rd 0 rfl (by decide))).mono ?_;rintro e w1 ⟨po,no,co,pt,nt,ct,pr,nr,cr,pv,nv,cv,rfl,hr,hct,hcv,hb⟩;have E1:=Lib.hid (Ext.trans S0.out.ext hb);have HR:=Lib.hid hr;have S1:=Lib.hid ((Sep.start w1).al #[.slice po no co,.slice pt nt ct,.slice pr nr cr,.slice pv nv cv] 27 w1.heap.size rfl);clear hb hr))
  | (go_at_call 32;go_must (refine(Same06 qx _ 3 cx 3 hsx _ [[0,1],[1,1],[1,2]] _ (HX3.out.ext T4.out.ext) (rdl3 (T4.out.rdx 0 rfl) (T4.out.rdx 3 rfl) (T4.out.rdx 2 rfl) (T4.out.rdx 1 rfl))).mono ?_;rintro e w4 ⟨rfl,hb⟩;have HX4:=Lib.hid (HX3.out.ext (Ext.trans T4.out.ext hb));have E4:=Lib.hid (Ext.trans S3.out.ext (Ext.trans T4.out.ext hb));have F4:=Lib.hid (((Sep.start w4).alrow #[.int .i64 1,.int .i64 2] 3 1 2 w4.heap.size rfl (by decide) rfl).alrow #[.int .i64 1,.int .i64 2] 3 1 2 (w4.heap.size+1) (by simp) (by decide) rfl);clear hb))
  | (go_at_call 27;have _t:=F6;go_must (refine(FitsG _ 1 1 [1] none 0 0 [] _ (F6.out.rdx 0 rfl) (Rd.nil _ _ _)).mono ?_;rintro e w7 ⟨hf,hb⟩;rw [fit3] at hf;subst hf;have HX7:=Lib.hid (HX6.out.ext (Ext.trans F6.out.ext hb));have E7:=Lib.hid (Ext.trans E6.out (Ext.trans F6.out.ext hb));clear hb))
  | (go_at_call 27;have _t:=F5;go_must (refine(FitsG _ 2 2 [1,2] _ 2 2 [2,1] _ (F5.out.rdx 1 rfl) (F5.out.rdx 0 rfl)).mono ?_;rintro e w6 ⟨hf,hb⟩;rw [fit2] at hf;subst hf;have HX6:=Lib.hid (HX5.out.ext (Ext.trans F5.out.ext hb));have E6:=Lib.hid (Ext.trans E5.out (Ext.trans F5.out.ext hb));have F6:=Lib.hid ((Sep.start w6).alrow #[.int .i64 1] 3 1 1 w6.heap.size rfl (by decide) rfl);clear hb))
  | (go_at_call 27;have _t:=F4;go_must (refine(FitsG _ 2 2 [1,2] _ 2 2 [1,2] _ (F4.out.rdx 1 rfl) (F4.out.rdx 0 rfl)).mono ?_;rintro e w5 ⟨hf,hb⟩;rw [fit1] at hf;subst hf;have HX5:=Lib.hid (HX4.out.ext (Ext.trans F4.out.ext hb));have E5:=Lib.hid (Ext.trans E4.out (Ext.trans F4.out.ext hb));have F5:=Lib.hid (((Sep.start w5).alrow #[.int .i64 1,.int .i64 2] 3 1 2 w5.heap.size rfl (by decide) rfl).alrow #[.int .i64 2,.int .i64 1] 3 1 2 (w5.heap.size+1) (by simp) (by decide) rfl);clear hb))
  | (go_at_call 30;have _t:=HX7;go_must (refine(SumG qx 3 cx hsx _ _ HX7.out cl_small).mono ?_;rw [cl_sum];rintro e w8 ⟨qs,cs,rfl,Z⟩;have F8:=Lib.hid (Z.alrow #[.int .i64 2,.int .i64 4] 3 1 2 w8.heap.size rfl (by decide) rfl);clear Z))
  | (go_at_call 29;have _t:=F8;go_must (refine(IntsY qs _ 2 2 cs 2 [2,4] _ (F8.out.rdx 1 rfl) (F8.out.rdx 0 rfl)).mono ?_;rintro e w9 ⟨rfl,hb⟩;have F9:=Lib.hid (F8.out.call hb);clear hb)))
 go_ret
 exact⟨rfl,Ext.trans E1.out (Ext.trans E7.out F9.out.ext)⟩
end
section
open Go Go.RowKit
def longQ (s:ByteArray):Bool:=decide (60<s.size)
def bigQ (ws:List ByteArray):Bool:=(decide (ws.length≤20) && ws.any longQ) || decide (20<ws.length)
theorem bigQ_no {ws:List ByteArray} (h:bigQ ws=false):ws.length≤20∧∀ s∈ws,s.size≤60:=by
 unfold bigQ at h
 rw [Bool.or_eq_false_iff,decide_eq_false_iff_not] at h
 have h1:ws.length≤20:=by omega
 refine⟨h1,fun s hs=>?_⟩
 have h2:=h.1
 rw [decide_eq_true h1,Bool.true_and] at h2
 have:=List.any_eq_false.1 h2 s hs
 simpa [longQ] using this
theorem BigQ (k f t:Int) (pw:Option Addr) (nw cw:Nat) (ws:List ByteArray) (rad most:Int) (w:World) (hw:Rd w 1 pw nw (encS ws)) :
  Calls Tryz.prog 46 #[.agg #[.int .i64 k,.int .i64 f,.int .i64 t,.slice pw nw cw,.int .i64 rad,.int .i64 most]] w fun e w'=>e=.returned (.bool (bigQ ws))∧Ext w w':=by
 have l1:=hw.nS
 have p1:=hw.ptr
 have n1:=hw.small
 have HE:=Lib.hid ((Sep.start w).al #[.int .i64 k,.int .i64 f,.int .i64 t,.slice pw nw cw,.int .i64 rad,.int .i64 most] 24 w.heap.size rfl).ext
 have HW:=Lib.hid (hw.ext HE.out)
 have L1:=Lib.hid l1
 clear l1 hw
 by_cases h20:nw≤20
 ·have HB:Hid (bigQ ws=ws.any longQ):=by unfold Hid bigQ;rw [← L1.out,decide_eq_true h20,decide_eq_false (by omega)];simp
  go_enter Tryz.func46,Tryz.ntmps46
  go_wp2
  go_loop [3] (fun i=>∃ j:Nat,j≤nw∧i=.int .i64 j∧(ws.take j).any longQ=false) (fun i=>nw - (intOf i).toNat)
  case atStart=>exact⟨0,Nat.zero_le _,rfl,rfl⟩
  case round =>
   obtain⟨j,hj,rfl,ha⟩:=hrel
   have HA:=Lib.hid ha;clear ha
   by_cases hlt:j<nw
   ·have g1:=HW.out.cS hlt
    have hjl:j<ws.length:=by rw [← L1.out];exact hlt
    have d1:(0:Int)≤j:=by omega
    have d2:(j:Int)<nw:=by omega
    have HTA:=Lib.hid (any_true_at longQ ws j hjl)
    have HST:=Lib.hid (any_step longQ ws j hjl HA.out)
    clear hjl
    generalize nth ws j=s at *
    by_cases h60:60<s.size
    ·have HF:=Lib.hid (HTA.out (by unfold longQ;exact decide_eq_true h60))
     clear HTA HST
     go_wp2
     go_ret
     exact⟨ret_bool (by rw [HB.out,HF.out]),HE.out⟩
    ·have HF:=Lib.hid (HST.out (by unfold longQ;exact decide_eq_false h60))
     have e1:decide (60<s.size)=false:=by simpa using h60
     have e2:decide ((60:Int)<(s.size:Int))=false:=by simp;omega
     clear HTA HST h60
     go_wp2
     go_round
     case rel=>exact⟨j+1,by omega,by go_num,HF.out⟩
     case measure=>simp [intOf];omega
   ·have HF:=Lib.hid (any_end _ _ _ (by rw [← L1.out];exact hlt) HA.out)
    have e1:decide (20<nw)=false:=by simp;omega
    have e2:decide ((20:Int)<(nw:Int))=false:=by simp;omega
    go_wp2
    go_ret
    exact⟨ret_bool (by rw [HB.out,HF.out]),HE.out⟩
 ·have HB:Hid (bigQ ws=true):=by unfold Hid bigQ;rw [← L1.out,decide_eq_true (show 20<nw by omega)];simp
  have e1:decide (nw≤20)=false:=by simpa using h20
  have e2:decide ((nw:Int)≤20)=false:=by simp;omega
  have e3:0<nw:=by omega
  have e4:20<nw:=by omega
  clear h20
  go_enter Tryz.func46,Tryz.ntmps46
  go_wp2
  go_loop [3] (fun i=>i=.int .i64 0) (fun _=>0)
  case atStart=>rfl
  case round =>
   obtain rfl:=hrel
   go_wp2
   go_ret
   exact⟨ret_bool (by rw [HB.out];simp;omega),HE.out⟩
end
section
open Go Go.RowKit
def farJ (ws:List ByteArray) (O T R V:List Int) (L:List Po) (np:Nat):Bool:=bigQ ws || (bigR O T R V || (decide (30<O.length) || (bigP L || decide (60<np))))
theorem farJ_no {ws:List ByteArray} {O T R V:List Int} {L:List Po} {np:Nat} (h:farJ ws O T R V L np=false):bigQ ws=false∧bigR O T R V=false∧O.length≤30∧bigP L=false∧np≤60:=by
 unfold farJ at h
 simp only [Bool.or_eq_false_iff,decide_eq_false_iff_not] at h
 exact⟨h.1,h.2.1,by omega,h.2.2.2.1,by omega⟩
end
section
open Go Go.RowKit
theorem FarN21 (k f t:Int) (pw:Option Addr) (nw cw:Nat) (ws:List ByteArray) (rad most:Int) (po:Option Addr) (no co:Nat) (O:List Int) (pt:Option Addr) (nt ct:Nat) (T:List Int) (pr:Option Addr) (nr cr:Nat) (R:List Int) (pv:Option Addr) (nv cv:Nat) (V:List Int) (pl:Option Addr) (nl cl:Nat) (hs:List Hd) (L:List Po) (w:World) (hO:Rd w 1 po no (encI O)) (hT:Rd w 1 pt nt (encI T)) (hR:Rd w 1 pr nr (encI R)) (hV:Rd w 1 pv nv (encI V)) (hW:Rd w 1 pw nw (encS ws)) (hL:RdP w pl nl hs L) :
  Calls Tryz.prog 33 #[.agg #[.int .i64 k,.int .i64 f,.int .i64 t,.slice pw nw cw,.int .i64 rad,.int .i64 most],.agg #[.slice po no co,.slice pt nt ct,.slice pr nr cr,.slice pv nv cv],.slice pl nl cl] w fun e w'=>e=.returned (.bool (farJ ws O T R V L 0))∧Ext w w':=by
 have HBG:=Lib.hid (fun W (h:Ext w W)=>BigQ k f t pw nw cw ws rad most W (hW.ext h))
 have HBR:=Lib.hid (fun W (h:Ext w W)=>Big04 po no co O pt nt ct T pr nr cr R pv nv cv V W (hO.ext h) (hT.ext h) (hR.ext h) (hV.ext h))
 have HBP:=Lib.hid (fun W (h:Ext w W)=>Big05 pl nl cl hs L W (hL.ext h))
 have S0:=Lib.hid (((Sep.start w).al #[.int .i64 k,.int .i64 f,.int .i64 t,.slice pw nw cw,.int .i64 rad,.int .i64 most] 24 w.heap.size rfl).al #[.slice po no co,.slice pt nt ct,.slice pr nr cr,.slice pv nv cv] 27 (w.heap.size+1) (by simp))
 have hno:=hO.nI
 unfold farJ
 rw [← hno,decide_eq_false (show ¬ 60<0 by omega),Bool.or_false]
 clear hO hT hR hV hW hL hno
 generalize bigQ ws=b1 at *
 generalize bigR O T R V=b2 at *
 generalize bigP L=b3 at *
 cases b1 with
 | true =>
  go_enter Tryz.func33,Tryz.ntmps33
  go_wp2_with (first | (go_at_call 48;have _t:=S2;go_must (refine(HBP.out _ S2.out.ext).mono ?_;rintro e w3 ⟨rfl,hb⟩;have S3:=Lib.hid (S2.out.call hb);clear hb)) | (go_at_call 47;have _t:=S1;go_must (refine(HBR.out _ S1.out.ext).mono ?_;rintro e w2 ⟨rfl,hb⟩;have S2:=Lib.hid (S1.out.call hb);clear b0 b1 b2 b3 bz;obtain⟨b0,b1,b2,b3,bz⟩:=bkc0c1c2c3l (S2.out.blk 0 rfl);clear hb)) | (go_at_call 46;go_must (refine(HBG.out _ S0.out.ext).mono ?_;rintro e w1 ⟨rfl,hb⟩;have S1:=Lib.hid (S0.out.call hb);obtain⟨b0,b1,b2,b3,bz⟩:=bkc0c1c2c3l (S1.out.blk 0 rfl);clear hb)))
  go_ret
  exact⟨rfl,S1.out.ext⟩
 | false =>
  cases b2 with
  | true =>
   go_enter Tryz.func33,Tryz.ntmps33
   go_wp2_with (first | (go_at_call 48;have _t:=S2;go_must (refine(HBP.out _ S2.out.ext).mono ?_;rintro e w3 ⟨rfl,hb⟩;have S3:=Lib.hid (S2.out.call hb);clear hb)) | (go_at_call 47;have _t:=S1;go_must (refine(HBR.out _ S1.out.ext).mono ?_;rintro e w2 ⟨rfl,hb⟩;have S2:=Lib.hid (S1.out.call hb);clear b0 b1 b2 b3 bz;obtain⟨b0,b1,b2,b3,bz⟩:=bkc0c1c2c3l (S2.out.blk 0 rfl);clear hb)) | (go_at_call 46;go_must (refine(HBG.out _ S0.out.ext).mono ?_;rintro e w1 ⟨rfl,hb⟩;have S1:=Lib.hid (S0.out.call hb);obtain⟨b0,b1,b2,b3,bz⟩:=bkc0c1c2c3l (S1.out.blk 0 rfl);clear hb)))
   go_ret
   exact⟨rfl,S2.out.ext⟩
  | false =>
   rw [Bool.false_or,Bool.false_or]
   by_cases h1:30<no
   ·have e1:decide ((30:Int)<(no:Int))=true:=by simp;omega
    have e1n:decide (30<no)=true:=by simpa using h1
    rw [e1n,Bool.true_or]
    clear h1
    go_enter Tryz.func33,Tryz.ntmps33
    go_wp2_with (first | (go_at_call 48;have _t:=S2;go_must (refine(HBP.out _ S2.out.ext).mono ?_;rintro e w3 ⟨rfl,hb⟩;have S3:=Lib.hid (S2.out.call hb);clear hb)) | (go_at_call 47;have _t:=S1;go_must (refine(HBR.out _ S1.out.ext).mono ?_;rintro e w2 ⟨rfl,hb⟩;have S2:=Lib.hid (S1.out.call hb);clear b0 b1 b2 b3 bz;obtain⟨b0,b1,b2,b3,bz⟩:=bkc0c1c2c3l (S2.out.blk 0 rfl);clear hb)) | (go_at_call 46;go_must (refine(HBG.out _ S0.out.ext).mono ?_;rintro e w1 ⟨rfl,hb⟩;have S1:=Lib.hid (S0.out.call hb);obtain⟨b0,b1,b2,b3,bz⟩:=bkc0c1c2c3l (S1.out.blk 0 rfl);clear hb)))
    go_ret
    exact⟨rfl,S2.out.ext⟩
   ·have e1:decide ((30:Int)<(no:Int))=false:=by simp;omega
    have e1n:decide (30<no)=false:=by simpa using h1
    rw [e1n,Bool.false_or]
    clear h1
    cases b3 with
    | true =>
     go_enter Tryz.func33,Tryz.ntmps33
     go_wp2_with (first | (go_at_call 48;have _t:=S2;go_must (refine(HBP.out _ S2.out.ext).mono ?_;rintro e w3 ⟨rfl,hb⟩;have S3:=Lib.hid (S2.out.call hb);clear hb)) | (go_at_call 47;have _t:=S1;go_must (refine(HBR.out _ S1.out.ext).mono ?_;rintro e w2 ⟨rfl,hb⟩;have S2:=Lib.hid (S1.out.call hb);clear b0 b1 b2 b3 bz;obtain⟨b0,b1,b2,b3,bz⟩:=bkc0c1c2c3l (S2.out.blk 0 rfl);clear hb)) | (go_at_call 46;go_must (refine(HBG.out _ S0.out.ext).mono ?_;rintro e w1 ⟨rfl,hb⟩;have S1:=Lib.hid (S0.out.call hb);obtain⟨b0,b1,b2,b3,bz⟩:=bkc0c1c2c3l (S1.out.blk 0 rfl);clear hb)))
     go_ret
     exact⟨rfl,S3.out.ext⟩
    | false =>
     go_enter Tryz.func33,Tryz.ntmps33
     go_wp2_with (first | (go_at_call 48;have _t:=S2;go_must (refine(HBP.out _ S2.out.ext).mono ?_;rintro e w3 ⟨rfl,hb⟩;have S3:=Lib.hid (S2.out.call hb);clear hb)) | (go_at_call 47;have _t:=S1;go_must (refine(HBR.out _ S1.out.ext).mono ?_;rintro e w2 ⟨rfl,hb⟩;have S2:=Lib.hid (S1.out.call hb);clear b0 b1 b2 b3 bz;obtain⟨b0,b1,b2,b3,bz⟩:=bkc0c1c2c3l (S2.out.blk 0 rfl);clear hb)) | (go_at_call 46;go_must (refine(HBG.out _ S0.out.ext).mono ?_;rintro e w1 ⟨rfl,hb⟩;have S1:=Lib.hid (S0.out.call hb);obtain⟨b0,b1,b2,b3,bz⟩:=bkc0c1c2c3l (S1.out.blk 0 rfl);clear hb)))
     go_ret
     exact⟨rfl,S3.out.ext⟩
end
section
open Go Go.RowKit
theorem needS_zero {O T R V:List Int} {k f t:Int} {ws:List ByteArray} {rad most wv:Int} {X:List (List Int)} (h:NeedS O T R V k f t ws rad most wv X 0):chkJ (checkR O T R V) k f t ws rad most O.length=0∧1≤wv∧wv≤16:=by
 by_cases h0:chkJ (checkR O T R V) k f t ws rad most O.length=0
 ·by_cases h1:1≤wv∧wv≤16
  ·exact⟨h0,h1.1,h1.2⟩
  ·have:=(h.2.1 h0 h1).2;omega
 ·exact absurd (h.1 h0).2.symm h0
theorem needS_grow {O T R V:List Int} {k f t:Int} {ws:List ByteArray} {rad most wv:Int} {X:List (List Int)} (h:NeedS O T R V k f t ws rad most wv X 0) (h200:O.length≤201) :
  ∃ wk:Nat,wv=(wk:Int)∧(∀ i,i<X.length→(nth X i).length=wk∧1≤(nth X i).sum∧(nth X i).sum≤2*((O.length:Int) - 1)∧∀ y∈nth X i,0≤y)∧∀ i,i+1<X.length→fitsB (nth X i) (nth X (i+1))=true:=by
 obtain⟨h0,h1,h16⟩:=needS_zero h
 obtain⟨_,m,_,_,_,hX⟩:=h.2.2 h0 ⟨h1,h16⟩
 refine⟨wv.toNat,by omega,fun i hi=>?_,fun i hi=>?_⟩
 ·rw [hX,needL_len] at hi
  obtain⟨s1,s2,s3⟩:=need_sum (wk:=wv.toNat) h0 h200 (by omega) hi
  rw [hX]
  refine⟨by rw [needL_nth hi,eachL_len],by omega,by omega,fun y hy=>?_⟩
  rw [needL_nth hi] at hy
  obtain⟨j,hj,rfl⟩:=List.getElem_of_mem hy
  rw [← nth_eq hj,eachL_nth (by rw [eachL_len] at hj;exact hj)]
  omega
 ·rw [hX,needL_len] at hi
  rw [hX]
  exact need_grow h0 h200 hi
theorem zcase (e:Int):e=0∨(e≠0∧decide (e=0)=false∧(e == 0)=false):=by
 by_cases h:e=0
 ·exact .inl h
 ·exact .inr ⟨h,by simpa using h,by simpa using h⟩
theorem take_sum {r:List Int} {j:Nat} (h:j<r.length):(r.take (j+1)).sum=(r.take j).sum+nth r j:=by
 rw [List.take_succ_eq_append_getElem h,List.sum_append,← nth_eq h];simp
theorem sum_nn {r:List Int} (h:∀ y∈r,0≤y):0≤r.sum:=by
 induction r with
 | nil=>simp
 | cons a r ih =>
  rw [List.sum_cons]
  have:=h a List.mem_cons_self
  have:=ih fun y hy=>h y (List.mem_cons_of_mem _ hy)
  omega
theorem take_bd {r:List Int} (h:∀ y∈r,0≤y) (j:Nat):0≤(r.take j).sum∧(r.take j).sum≤r.sum:=by
 have h1:=sum_nn (r:=r.take j) fun y hy=>h y (List.mem_of_mem_take hy)
 have h2:=sum_nn (r:=r.drop j) fun y hy=>h y (List.mem_of_mem_drop hy)
 have h3:r.sum=(r.take j).sum+(r.drop j).sum:=by rw [← List.sum_append,List.take_append_drop]
 omega
end
section
open Go Go.RowKit
theorem jobFacts (k f t:Int) (pw:Option Addr) (nw cw:Nat) (ws:List ByteArray) (rad most:Int) {O T R V:List Int} {L:List Po} {np:Nat} (_:pw=pw) (_:nw=nw) (_:cw=cw) (_:k=k) (_:f=f) (_:t=t) (_:rad=rad) (_:most=most) (h:farJ ws O T R V L np=false) (hLI:∀ q∈L,∀ x∈q.2,I64 x) :
  ws.length≤20∧(∀ s∈ws,s.size≤1000000)∧O.length≤30∧PoOk L∧np≤60:=by
 obtain⟨h1,h2,h3,h4,h5⟩:=farJ_no h
 obtain⟨w1,w2⟩:=bigQ_no h1
 exact⟨w1,fun s hs=>Nat.le_trans (w2 s hs) (by omega),h3,poOk_of h4 hLI,h5⟩
end
section
open Go Go.RowKit
theorem lawGrows21 (k f t : Int) (pw : Option Addr) (nw cw : Nat) (ws : List ByteArray) (rad most : Int) (po : Option Addr) (no co : Nat) (O : List Int) (pt : Option Addr) (nt ct : Nat) (T : List Int) (pr : Option Addr) (nr cr : Nat) (R : List Int) (pv : Option Addr) (nv cv : Nat) (V : List Int) (pl : Option Addr) (nl cl : Nat) (hs : List Hd) (L : List Po) (wv : Int) (w : World) (hO : Rd w 1 po no (encI O)) (hT : Rd w 1 pt nt (encI T)) (hR : Rd w 1 pr nr (encI R)) (hV : Rd w 1 pv nv (encI V)) (hct : nt ≤ ct) (hcv : nv ≤ cv)
    (hW : Rd w 1 pw nw (encS ws)) (hcw : nw ≤ cw) (ht : I64 t) (hL : RdP w pl nl hs L) (hLI : ∀ q ∈ L, ∀ x ∈ q.2, I64 x) :
    Calls Tryz.prog 6 #[.agg #[.int .i64 k, .int .i64 f, .int .i64 t, .slice pw nw cw, .int .i64 rad, .int .i64 most], .agg #[.slice po no co, .slice pt nt ct, .slice pr nr cr, .slice pv nv cv], .slice pl nl cl, .int .i64 wv] w fun e w' => e = .returned (.bool true) ∧ Ext w w' := by
  have S0 := Lib.hid (((Sep.start w).al #[.int .i64 k, .int .i64 f, .int .i64 t, .slice pw nw cw, .int .i64 rad, .int .i64 most] 24 w.heap.size rfl).al #[.slice po no co, .slice pt nt ct, .slice pr nr cr, .slice pv nv cv] 27 (w.heap.size + 1) (by simp))
  have HFR := Lib.hid (fun W (h : Ext w W) => FarN21 k f t pw nw cw ws rad most po no co O pt nt ct T pr nr cr R pv nv cv V pl nl cl hs L W (hO.ext h) (hT.ext h) (hR.ext h) (hV.ext h) (hW.ext h) (hL.ext h))
  cases hfar : farJ ws O T R V L 0 with
  | true =>
    rw [hfar] at HFR
    clear hO hT hR hV hct hcv hW hL hfar
    go_enter Tryz.func6, Tryz.ntmps6
    go_wp2_with (go_at_call 33; go_must (refine (HFR.out _ S0.out.ext).mono ?_; rintro e w1 ⟨rfl, hb⟩; have S1 := Lib.hid (S0.out.call hb); have b0 := (S1.out.blk 0 rfl).cell 0; have b1 := (S1.out.blk 0 rfl).cell 1; have b2 := (S1.out.blk 0 rfl).cell 2; have b3 := (S1.out.blk 0 rfl).cell 3; have bz := (S1.out.blk 0 rfl).lt; have a0 := (S1.out.blk 1 rfl).cell 0; have a1 := (S1.out.blk 1 rfl).cell 1; have a2 := (S1.out.blk 1 rfl).cell 2; have a3 := (S1.out.blk 1 rfl).cell 3; have a4 := (S1.out.blk 1 rfl).cell 4; have a5 := (S1.out.blk 1 rfl).cell 5; have az := (S1.out.blk 1 rfl).lt; clear hb))
    go_ret
    exact ⟨rfl, S1.out.ext⟩
  | false =>
    rw [hfar] at HFR
    obtain ⟨f1, f2, f3, f4, f5⟩ := jobFacts k f t pw nw cw ws rad most rfl rfl rfl rfl rfl rfl rfl rfl hfar hLI
    have hno := hO.nI
    have hnw := hW.nS
    have HRN := Lib.hid (fun W (h : Ext w W) => RunG k f t pw nw cw ws rad most po no co O pt nt ct T pr nr cr R pv nv cv V pl nl cl hs L wv 1000 none 0 0 [] W (hO.ext h) (hT.ext h) (hR.ext h) (hV.ext h) hct hcv (hL.ext h) (hW.ext h) (Rd.nil _ _ _) (by omega) f2 (by omega) ht hcw (by omega) f4)
    have HST := Lib.hid (fun W (h : Ext w W) => needSteps k f t pw nw cw ws rad most po no co O pt nt ct T pr nr cr R pv nv cv V pl nl cl hs L wv W (hO.ext h) (hT.ext h) (hR.ext h) (hV.ext h) hct hcv (hL.ext h) (hW.ext h) (by omega) f2 ht hcw (by omega) f4)
    have HNR := Lib.hid (fun (X : List (List Int)) (b : Bool) (d : Int) (F : List (Int × Int)) (n e e' : Int) (hR : RunS O T R V L k f t ws rad most wv 1000 b d F n e) (hN : NeedS O T R V k f t ws rad most wv X e') => needS_run (by omega) hR hN)
    have HGR := Lib.hid (fun (X : List (List Int)) (h : NeedS O T R V k f t ws rad most wv X 0) => needS_grow h (by omega))
    have HO1 := Lib.hid hno
    have d0 : no ≤ 30 := by omega
    clear hO hT hR hV hct hcv hW hL hfar f1 f2 f3 f4 f5 hno hnw ht hcw hLI
    go_enter Tryz.func6, Tryz.ntmps6
    go_wp2_with (first | (go_at_call 17; have _t := S2; go_must (refine (HRN.out _ S2.out.ext).mono ?_; rintro e w3 ⟨b1', d1', F1, n1', e1', g1, q1, c1, rfl, Z⟩; obtain ⟨rfl, k1, k2⟩ := HNR.out _ _ _ _ _ _ _ g1 G1.out; have K1 := Lib.hid k1; have K2 := Lib.hid k2; have HX := Lib.hid (HX2.out.ext (Ext.trans Z.ext ((Sep.start w3).al #[.bool b1', .int .i64 d1', .slice q1 F1.length c1] 34 w3.heap.size rfl).ext)); have S3 := Lib.hid ((S2.out.comp Z).al #[.bool b1', .int .i64 d1', .slice q1 F1.length c1] 34 w3.heap.size rfl); clear HX2; clear a0 a1 a2 a3 a4 a5 az b0 b1 b2 b3 bz; have b0 := (S3.out.blk 2 rfl).cell 0; have b1 := (S3.out.blk 2 rfl).cell 1; have b2 := (S3.out.blk 2 rfl).cell 2; have b3 := (S3.out.blk 2 rfl).cell 3; have bz := (S3.out.blk 2 rfl).lt; clear Z g1 k1 k2; rcases zcase e1' with rfl | ⟨hz, z1, z2⟩)) | (go_at_call 34; have _t := S1; go_must (refine (HST.out _ S1.out.ext).mono ?_; rintro e w2 ⟨X, e1, g1, qx, cx, hsx, rfl, hx, hb⟩; have G1 := Lib.hid g1; have HX2 := Lib.hid hx; have S2 := Lib.hid (S1.out.call hb); clear a0 a1 a2 a3 a4 a5 az b0 b1 b2 b3 bz; have b0 := (S2.out.blk 0 rfl).cell 0; have b1 := (S2.out.blk 0 rfl).cell 1; have b2 := (S2.out.blk 0 rfl).cell 2; have b3 := (S2.out.blk 0 rfl).cell 3; have bz := (S2.out.blk 0 rfl).lt; have a0 := (S2.out.blk 1 rfl).cell 0; have a1 := (S2.out.blk 1 rfl).cell 1; have a2 := (S2.out.blk 1 rfl).cell 2; have a3 := (S2.out.blk 1 rfl).cell 3; have a4 := (S2.out.blk 1 rfl).cell 4; have a5 := (S2.out.blk 1 rfl).cell 5; have az := (S2.out.blk 1 rfl).lt; clear hb g1 hx)) | (go_at_call 33; go_must (refine (HFR.out _ S0.out.ext).mono ?_; rintro e w1 ⟨rfl, hb⟩; have S1 := Lib.hid (S0.out.call hb); have b0 := (S1.out.blk 0 rfl).cell 0; have b1 := (S1.out.blk 0 rfl).cell 1; have b2 := (S1.out.blk 0 rfl).cell 2; have b3 := (S1.out.blk 0 rfl).cell 3; have bz := (S1.out.blk 0 rfl).lt; have a0 := (S1.out.blk 1 rfl).cell 0; have a1 := (S1.out.blk 1 rfl).cell 1; have a2 := (S1.out.blk 1 rfl).cell 2; have a3 := (S1.out.blk 1 rfl).cell 3; have a4 := (S1.out.blk 1 rfl).cell 4; have a5 := (S1.out.blk 1 rfl).cell 5; have az := (S1.out.blk 1 rfl).lt; clear hb)))
    · obtain ⟨wk, rfl, hA, hB⟩ := HGR.out _ G1.out
      obtain rfl : (X.length : Int) = n1' := K1.out (by first | exact trivial | rfl)
      have HA := Lib.hid hA
      have HB := Lib.hid hB
      clear hA hB G1 HGR HNR HRN HST K1 K2 HFR b0 b1 b2 b3 bz
      have px := HX.out.row.ptr
      have nx := HX.out.row.small
      have HXN := Lib.hid HX.out.hn
      go_loopw [14, 15, 16] (fun i _ _ wr => ∃ m : Nat, m ≤ X.length ∧ i = .int .i64 m ∧ Ext (w3.alloc (.cells #[.bool b1', .int .i64 d1', .slice q1 F1.length c1] 34)) wr) (fun i _ _ _ => X.length - (intOf i).toNat)
      case atStart => exact ⟨0, Nat.zero_le _, rfl, Below.refl _ _⟩
      case round =>
        obtain ⟨m, hm, rfl, hE⟩ := hrel
        have HE := Lib.hid hE
        by_cases hlt : m < X.length
        · obtain ⟨r1, r2, r3, r4⟩ := HA.out m hlt
          have HRW := Lib.hid (fun W (h : Ext (w3.alloc (.cells #[.bool b1', .int .i64 d1', .slice q1 F1.length c1] 34)) W) => (HX.out.ext h).row.cH hlt)
          have HEa := Lib.hid (HX.out.each m hlt)
          have hln := HEa.out.nI
          rw [r1] at hln
          have HM : m = 0 ∨ ∃ m', m = m' + 1 ∧ wr.cell? (adr qx m') = some (.slice (nth hsx m').p (nth hsx m').n (nth hsx m').c) ∧ Hid (∀ y : ExtOf wr, Calls Tryz.prog 27 #[.slice (nth hsx m').p (nth hsx m').n (nth hsx m').c, .slice (nth hsx m).p (nth hsx m).n (nth hsx m).c] y.val fun e w' => e = .returned (.bool true) ∧ Ext y.val w') := by
            rcases m with _ | m'
            · exact .inl rfl
            · refine .inr ⟨m', rfl, (HX.out.ext hE).row.cH (by omega), fun y => ?_⟩
              have := FitsG (nth hsx m').p (nth hsx m').n (nth hsx m').c (nth X m') (nth hsx (m' + 1)).p (nth hsx (m' + 1)).n (nth hsx (m' + 1)).c (nth X (m' + 1)) y.val ((HX.out.each m' (by omega)).ext (Ext.trans hE y.ext)) ((HX.out.each (m' + 1) hlt).ext (Ext.trans hE y.ext))
              rw [HB.out m' hlt] at this
              exact this
          have HTB := Lib.hid (take_bd r4)
          have HTS := Lib.hid (fun j (hj : j < wk) => take_sum (r := nth X m) (j := j) (by rw [r1]; exact hj))
          have HTE : Hid (((nth X m).take wk).sum = (nth X m).sum) := by unfold Hid; rw [← r1, List.take_length]
          have g1 := HRW.out _ hE
          have d1 : (0:Int) ≤ m := by omega
          have d2 : (m:Int) < X.length := by omega
          clear hE r4 r1
          generalize nth hsx m = hd at *
          obtain ⟨hp, hn', hc⟩ := hd
          simp only at HRW HEa hln HM g1
          obtain rfl : hn' = wk := hln
          have pr := HEa.out.ptr
          have nr := HEa.out.small
          have HL2 := Lib.hid HEa.out.nI
          generalize nth X m = r at *
          generalize hS : r.sum = s at *
          have e1 : decide (2 * ((no:Int) - 1) < s) = false := by rw [decide_eq_false_iff_not]; have := HO1.out; omega
          have e2 : decide (s < 1) = false := by rw [decide_eq_false_iff_not]; omega
          rcases HM with rfl | ⟨m', rfl, g0, HI⟩
          all_goals
            go_wp2
            first
              | (have u1 := fun x : ExtOf wr => x.ext.cell g1
                 have u0 := fun x : ExtOf wr => x.ext.cell g0
                 refine wp_region_ext (by kernel_rfl) (by kernel_rfl) ?_
                 repeat (go_big_quiet_step (((go_at_call 27; exact Calls.ext_of (HI.out _)))))
                 refine wpQuiet_nil ?_
                 rintro w9 ⟨⟨_, hb9⟩, rfl⟩)
              | (have u1 := fun x : ExtOf wr => x.ext.cell g1
                 refine wp_region_ext (by kernel_rfl) (by kernel_rfl) ?_
                 repeat (go_big_quiet_step (fail))
                 refine wpQuiet_nil ?_
                 rintro w9 ⟨⟨_, hb9⟩, rfl⟩)
            have HE9 := Lib.hid (Ext.trans HE.out hb9)
            clear hb9 HE
            have g9 := HRW.out _ HE9.out
            have b0 := ((S3.out.call HE9.out).blk 2 rfl).cell 0
            have bz := ((S3.out.call HE9.out).blk 2 rfl).lt
            have gx := fun j (hj : j < hn') => (HEa.out.ext HE9.out).cI hj
            have HGX := Lib.hid gx
            clear gx
            go_wp2
            go_loopw [15, 16] (fun a i wr2 => ∃ j : Nat, j ≤ hn' ∧ i = .int .i64 j ∧ a = .int .i64 ((r.take j).sum) ∧ wr2 = w9) (fun _ i _ => hn' - (intOf i).toNat)
            case atStart => exact ⟨0, Nat.zero_le _, rfl, rfl, rfl⟩
            case round =>
              obtain ⟨j, hj, rfl, rfl, hw9⟩ := hrel
              subst hw9
              by_cases hj2 : j < hn'
              · have gx := HGX.out j hj2
                have ts := HTS.out j hj2
                have t0 := HTB.out j
                have t1 := HTB.out (j + 1)
                rw [ts] at t1
                have HT2 := Lib.hid ts
                clear ts
                generalize (r.take j).sum = a at *
                generalize nth r j = y at *
                have hso := HO1.out
                have d3 : (0:Int) ≤ j := by omega
                have d4 : (j:Int) < hn' := by omega
                have d5 : -9223372036854775808 ≤ a + y ∧ a + y ≤ 9223372036854775807 := by omega
                obtain ⟨d6, d7⟩ := d5
                clear t0 t1 hso
                go_wp2
                go_roundw
                case rel => exact ⟨j + 1, by omega, by go_num, by rw [HT2.out], by first | exact trivial | rfl⟩
                case measure => simp [intOf]; omega
              · obtain rfl : j = hn' := by omega
                rw [HTE.out]
                clear HTB HTS HGX HEa
                go_wp2
                go_roundw
                case rel => first | exact ⟨m' + 1 + 1, by omega, by go_num, HE9.out⟩ | exact ⟨1, by omega, by go_num, HE9.out⟩
                case measure => simp [intOf]; omega
        · clear hE
          go_wp2_with (go_at_call 26; have _t := S3; go_must (refine (Needs21 _).mono ?_; rintro e w4 ⟨rfl, hb⟩; have E4 := Lib.hid (Ext.trans (Ext.trans S3.out.ext HE.out) hb); clear hb))
          go_ret
          exact ⟨rfl, E4.out⟩
    · obtain rfl : X = [] := K2.out hz
      clear HX K1 K2
      go_wp2_with (go_at_call 26; have _t := S3; go_must (refine (Needs21 _).mono ?_; rintro e w4 ⟨rfl, hb⟩; have E4 := Lib.hid (Ext.trans S3.out.ext hb); clear hb))
      go_ret
      exact ⟨rfl, E4.out⟩
end
section
open Go Go.RowKit Go.WideShapes Go.ChangeShapes
theorem own:ownKnob Tryz.prog.godebug=none:=by kernel_rfl
theorem laidOut:laidOutB Tryz.prog=true:=by kernel_rfl
theorem law_post {H:Type} {enc:TypeId × Value→H} {f:Func} {s:ChangeSpec} {apart fresh handsOn again:Bool} {W W':World} {args:Array Value} {ds:List (DataW H)} {before:List MemPlace}
  (hW:DataW.Whole enc Tryz.prog f.params.toList s.vars apart W args.toList ds [] before) (ht:f.resultTypes=#[4]) (hvars:s.vars=[])
  (hfn:s.fn H (ds ++ [])={ results:=[.lit (.bool true)],args:=ds })
  (hargs:∀ sp:Nat→Bool,(∀ p∈before,sp p.block=true)→DataW.TrodAll enc Tryz.prog W' 0 sp true f.params.toList args.toList ds before)
  (hb:Below W.heap.size W W'):s.post enc Tryz.prog f apart fresh handsOn again W args (.bool true) W':=by
 have lits:∀ (b:Nat) (sp:Nat→Bool) (hd:Bool),DataW.TrodAll enc Tryz.prog W' b sp hd f.resultTypes.toList ((Value.bool true).resultList f.resultTypes.size) (s.fn H (ds ++ [])).results []:=by
  intro b sp hd
  rw [hfn,ht]
  exact trodAll_mk1 (shut_bool Tryz.underlying4 true)
 have hold:∀ sp:Nat→Bool,(∀ p∈before,sp p.block=true)→DataW.TrodAll enc Tryz.prog W' 0 sp true f.params.toList args.toList (s.fn H (ds ++ [])).args before:=by
  intro sp hsp
  rw [hfn];exact hargs sp hsp
 have hv:∀ sp:Nat→Bool,DataW.TrodVars enc Tryz.prog W' sp s.vars (s.fn H (ds ++ [])).vars []:=by
  intro sp;rw [hfn,hvars];rfl
 have hin:∀ p∈before,p.block<W.heap.size:=fun p hp=>hW.lt p hp
 have same:before=before ++ []:=by simp
 refine⟨ds,[],before,[],before,[],hW,lits _ _ _,hold _ (fun p hp=>by simpa using hin p hp),hv _,World.keptBut_mono (fun p hp=>⟨hp,.inr (by simpa using hp)⟩) (hb.frame (·∈before)),fun _=>?_⟩
 have hW2:=hW
 obtain⟨_,_,_,_,_,hz,hn⟩:=hW2
 refine⟨ok_one (by rw [ht]) rfl (okWide_bool_mk Tryz.underlying4 _),_,_,([] ++ before) ++ [],⟨[] ++ before,[],trodAll_append (hold _ (fun _ _=>rfl)) (lits _ _ _),hv _,rfl,?_,?_⟩,?_⟩
 ·intro b off hp
  have hp2:MemPlace.cell b off∈before:=by simpa using hp
  rw [hb.frozen (hin _ hp2)]
  exact hz b off hp2
 ·intro ha
  simpa using hn ha
 ·intro p hp _
  simpa using hp
theorem stays {H:Type} {enc:TypeId × Value→H} {W W':World} {t:TypeId} {v:Value} {d:DataW H} {ps:List MemPlace} (hr:Tryz.prog.readableRec t=true) (hrow:t<Tryz.prog.types.size) (h:DataW.Trod enc Tryz.prog W 0 (fun _=>true) true t v d ps)
  (hb:Below W.heap.size W W') (hlt:∀ x∈ps,x.block<W.heap.size) {sp:Nat→Bool} (hsp:∀ x∈ps,sp x.block=true):DataW.Trod enc Tryz.prog W' 0 sp true t v d ps :=
 WideElems.Trod_stays laidOut hr hrow h (fun x hx=>hb.same (hlt x hx)) hsp
theorem trodAll_turn {H:Type} {enc:TypeId × Value→H} {P:Program} {W W':World} {sp sp':Nat→Bool} {hd:Bool} (ts:List TypeId):∀ {vs:List Value} {ds:List (DataW H)} {ps:List MemPlace},DataW.TrodAll enc P W 0 sp hd ts vs ds ps →
  (∀ t∈ts,∀ v d p,(∀ x∈p,x∈ps)→DataW.Trod enc P W 0 sp hd t v d p→DataW.Trod enc P W' 0 sp' hd t v d p)→DataW.TrodAll enc P W' 0 sp' hd ts vs ds ps:=by
 induction ts with
 | nil =>
  intro vs ds ps h _
  obtain⟨rfl,rfl,rfl⟩:=trodAll_nil h
  exact trodAll_mk0
 | cons t ts ih =>
  intro vs ds ps h hk
  obtain⟨v,vs',d,ds',p,q,rfl,rfl,rfl,h1,h2⟩:=trodAll_cons h
  exact trodAll_cons_mk (hk t (by simp) v d p (fun x hx=>by simp [hx]) h1) (ih h2 fun t' ht' v' d' p' hp' h'=>hk t' (by simp [ht']) v' d' p' (fun x hx=>by simp [hp' x hx]) h')
theorem stays_all {H:Type} {enc:TypeId × Value→H} {W W':World} {ts:List TypeId} {vs:List Value} {ds:List (DataW H)} {ps:List MemPlace} (hr:ts.all (fun t=>Tryz.prog.readableRec t && decide (t<Tryz.prog.types.size))=true)
  (h:DataW.TrodAll enc Tryz.prog W 0 (fun _=>true) true ts vs ds ps) (hb:Below W.heap.size W W') (hlt:∀ x∈ps,x.block<W.heap.size) {sp:Nat→Bool} (hsp:∀ x∈ps,sp x.block=true):DataW.TrodAll enc Tryz.prog W' 0 sp true ts vs ds ps :=
 trodAll_turn ts h fun t ht v d p hp h1=>by
  have h2:=List.all_eq_true.1 hr t ht
  rw [Bool.and_eq_true,decide_eq_true_eq] at h2
  exact stays h2.1 h2.2 h1 hb (fun x hx=>hlt x (hp x hx)) (fun x hx=>hsp x (hp x hx))
theorem andT {a b:Bool} (h:a=true) (g:b=true):(a && b)=true:=by rw [h,g];rfl
end
section
open Go Go.RowKit Go.ChangeShapes Go.WideShapes Go.ChangeAt Go.Deep Go.Joins
section
variable {H:Type} {enc:TypeId × Value→H} {w:World} {base:Nat} {spare:Nat→Bool} {held:Bool}
theorem open_rowsarg {r:Reach} {b0:Nat} {v:Value} {d:DataW H} {p:List MemPlace} (hv:Value.okWide Tryz.prog w r b0 27 v) (h:DataW.Trod enc Tryz.prog w base spare held 27 v d p) :
  ∃ po no co O pt nt ct T pr nr cr R pv nv cv V,v=.agg #[.slice po no co,.slice pt nt ct,.slice pr nr cr,.slice pv nv cv]∧Rd w 1 po no (encI O)∧Rd w 1 pt nt (encI T)∧Rd w 1 pr nr (encI R)∧Rd w 1 pv nv (encI V)∧no≤co∧nt≤ct∧nr≤cr∧nv≤cv:=by
 obtain⟨v0,v1,v2,v3,y0,y1,y2,y3,n,rfl,_,_,t0,t1,t2,t3⟩:=open_agg4 Tryz.underlying27 (by kernel_rfl) (by kernel_rfl) hv h
 obtain⟨po,no,co,O,rfl,c0,h0,_⟩:=trod_ints Tryz.underlying25 t0
 obtain⟨pt,nt,ct,T,rfl,c1,h1,_⟩:=trod_ints Tryz.underlying25 t1
 obtain⟨pr,nr,cr,R,rfl,c2,h2,_⟩:=trod_ints Tryz.underlying25 t2
 obtain⟨pv,nv,cv,V,rfl,c3,h3,_⟩:=trod_ints Tryz.underlying25 t3
 exact⟨po,no,co,O,pt,nt,ct,T,pr,nr,cr,R,pv,nv,cv,V,rfl,h0,h1,h2,h3,c0,c1,c2,c3⟩
end
end
section
open Go Go.RowKit
theorem eqKey (a b:Sq) (w:World):(binOp .eql 136 (.agg #[.int .i64 a.s,.int .i64 a.r,.int .i64 a.v]) (.agg #[.int .i64 b.s,.int .i64 b.r,.int .i64 b.v])).run Tryz.prog w=.ok (.bool (decide (sameK a b))) w:=by
 have u3:=Tryz.underlying3
 have a3:=Tryz.isAgg3
 have z3:=Tryz.sizeOf3
 have hS:Tryz.prog.underlying 136=some (.struct (Tryz.prog.fieldsOf 136)):=by kernel_rfl
 have hp:Tryz.prog.stoodInHeld 136=false:=by kernel_rfl
 rw [run_eql_struct,show (10000:Nat)=9999+1 from rfl,run_equalIn_agg w 9999 136 _ _ hS hp]
 simp only [Program.fieldsOf,Tryz.underlying136]
 go_simp
 by_cases h1:a.s=b.s <;> by_cases h2:a.r=b.r <;> by_cases h3:a.v=b.v <;> simp [h1,h2,h3,sameK]
theorem guardKey (op:BinOp) (x y:Operand) (xs ys:Array Value) (w:World):(eqGuard op 136 x y (.agg xs) (.agg ys)).run Tryz.prog w=.ok () w:=run_eqGuard_agg w op 136 x y xs ys (by kernel_rfl)
theorem rd_takeQ {w:World} {q:Option Addr} {n d:Nat} {L:List Sq} (h:Rd w 4 q n (encQ L)) (hd:d≤n):Rd w 4 q d (encQ (L.take d)):=by
 have:=h.take (k:=d) hd
 rwa [← encQ_take] at this
theorem rd_cutQ {w:World} {q:Option Addr} {n d c:Nat} {L:List Sq} (h:Rd w 4 q n (encQ L)) (hd:d≤n) (hc:n≤c):Rd w 4 (cutp q c d 4) (n - d) (encQ (L.drop d)):=by
 have hl:=h.nQ
 have:=h.cut (l:=d) (h:=n) (c:=c) hd (Nat.le_refl _) hc
 rw [← encQ_drop,← encQ_take,List.take_of_length_le (by rw [List.length_drop];omega)] at this
 exact this
theorem Put19 (p:Option Addr) (n c:Nat) (l:List Sq) (x:Sq) (w:World) (hl:Rd w 4 p n (encQ l)) (hc:n≤c) (hn:n≤100000) :
  Calls Tryz.prog 102 #[.slice p n c,.agg #[.int .i64 x.s,.int .i64 x.r,.int .i64 x.v,.int .i64 x.d]] w fun e w'=>∃ q c',e=.returned (.slice q (putK x l).length c')∧Sep w w' [.own 146 4 q (putK x l).length c' (encQ (putK x l))]:=by
 obtain⟨i0,hi0,hz0,hz1,hz2⟩:=info_parts infStt
 have S0:=Lib.hid ((Sep.start w).al #[.int .i64 x.s,.int .i64 x.r,.int .i64 x.v,.int .i64 x.d] 146 w.heap.size rfl)
 have hln:=hl.nQ
 have LL:=Lib.hid hln
 have p1:=hl.ptr
 have HL:=Lib.hid hl
 have HA:=fun (b:Sq) W=>Less14 b x W
 clear hl hln
 go_enter Tryz.func102,Tryz.ntmps102
 go_wp2
 go_loopw [5] (fun i wr=>∃ k:Nat,k≤n∧i=.int .i64 k∧Hid (∀ j,j<k→keyLt (nth l j) x=true)∧Sep w wr [.blk w.heap.size 146 #[.int .i64 x.s,.int .i64 x.r,.int .i64 x.v,.int .i64 x.d]]) (fun i _=>n - (intOf i).toNat)
 case atStart=>exact⟨0,Nat.zero_le _,rfl,fun i hi=>by omega,S0.out⟩
 case round =>
  clear S0
  obtain⟨k,hk,rfl,HK,S⟩:=hrel
  have SH:=Lib.hid S
  clear S
  obtain⟨b0,b1,b2,b3,bz⟩:=bkc0c1c2c3l (SH.out.blk 0 rfl)
  by_cases hlt:k<n
  ·have hkL:k<l.length:=by rw [← LL.out];exact hlt
   obtain⟨g1,g2,g3,g4⟩:=(HL.out.ext SH.out.ext).cQ hlt
   have d1:(0:Int)≤k:=by omega
   have d2:(k:Int)<n:=by omega
   have HAT:Hid (keyLt (nth l k) x=false→putK x l=l.take k ++ ([x] ++ l.drop k)):=fun h=>putK_at x l k (by omega) HK.out fun _=>h
   have HAK:Hid (keyLt (nth l k) x=true→∀ i,i<k+1→keyLt (nth l i) x=true):=fun h i hi=>by
    by_cases e:i=k
    ·subst e;exact h
    ·exact HK.out i (by omega)
   have HAx:=Lib.hid (fun y:ExtOf wr=>HA (nth l k) y.val)
   generalize nth l k=y at *
   cases hy:keyLt y x with
   | true =>
    rw [hy] at HAx
    have HK2:=Lib.hid (HAK.out hy)
    clear hy HAT HAK HK g4 b3
    go_wp2
    have u0:=fun x:ExtOf wr=>x.ext.cell b0
    have u1:=fun x:ExtOf wr=>x.ext.cell b1
    have u2:=fun x:ExtOf wr=>x.ext.cell b2
    have v1:=fun x:ExtOf wr=>x.ext.cell g1
    have v2:=fun x:ExtOf wr=>x.ext.cell g2
    have v3:=fun x:ExtOf wr=>x.ext.cell g3
    refine wp_region_ext (by kernel_rfl) (by kernel_rfl) ?_
    repeat (go_big_quiet_step (((go_at_call 159;exact Calls.ext_of (HAx.out _)))))
    refine wpQuiet_nil ?_
    rintro w9 ⟨⟨_,hb9⟩,rfl⟩
    go_wp2
    go_roundw
    case rel=>exact⟨k+1,by omega,by go_num,HK2.out,SH.out.call hb9⟩
    case measure=>simp [intOf];omega
   | false =>
    rw [hy] at HAx
    have HF:=Lib.hid (HAT.out hy)
    clear hy HAT HAK HK g4 b3
    go_wp2
    have u0:=fun x:ExtOf wr=>x.ext.cell b0
    have u1:=fun x:ExtOf wr=>x.ext.cell b1
    have u2:=fun x:ExtOf wr=>x.ext.cell b2
    have v1:=fun x:ExtOf wr=>x.ext.cell g1
    have v2:=fun x:ExtOf wr=>x.ext.cell g2
    have v3:=fun x:ExtOf wr=>x.ext.cell g3
    refine wp_region_ext (by kernel_rfl) (by kernel_rfl) ?_
    repeat (go_big_quiet_step (((go_at_call 159;exact Calls.ext_of (HAx.out _)))))
    refine wpQuiet_nil ?_
    rintro w9 ⟨⟨_,hb9⟩,rfl⟩
    have S9:=Lib.hid (SH.out.call hb9)
    have hkn:(k:Int)≤n:=by omega
    clear hb9 g1 g2 g3 HAx u0 u1 u2 v1 v2 v3 b0 b1 b2 bz SH
    obtain⟨b0,b1,b2,b3,bz⟩:=bkc0c1c2c3l (S9.out.blk 0 rfl)
    go_wp2_with (first | (at_builtin;have _t:=T2;go_must (refine wpList_append_sep rfl _ _ _ rfl 146 i0 _ 4 32 Tryz.underlying85 hi0 hz0 hz1 hz2 rfl (by omega) T2.out 0 q7 (k+1) c7 _ rfl rfl _ _ _ (encQ (l.drop k)) rfl (by have hz:=rd_cutQ (d:=k) (HL.out.ext T2.out.ext) (by omega) hc;simpa [cutp,Addr.add] using hz) (one_encQ _) (by omega) (by omega) ?_;intro q8 c8 w8 S' hsz;have T3:=Lib.hid S';clear S' hsz)) | (at_builtin;have _t:=T1;go_must (refine wpList_append_sep rfl _ _ _ rfl 146 i0 _ 4 32 Tryz.underlying85 hi0 hz0 hz1 hz2 rfl (by omega) (T1.out.junk _) 0 q6 k c6 _ rfl rfl _ 1 1 _ rfl (Rd.oneQ _ _ x) (one_encQ _) (by omega) (by omega) ?_;intro q7 c7 w7 S' hsz;have T2:=Lib.hid S';clear S' hsz)) | (at_builtin;have _t:=S9;go_must (refine wpList_append_sep rfl _ _ _ rfl 146 i0 _ 4 32 Tryz.underlying85 hi0 hz0 hz1 hz2 rfl (by omega) (S9.out.nilrow 146 4) 0 none 0 0 [] rfl rfl p k c _ rfl (rd_takeQ (HL.out.ext S9.out.ext) (by omega)) (one_encQ _) (by omega) (by omega) ?_;intro q6 c6 w6 S' hsz;(try simp only [Nat.zero_add,List.nil_append] at S');have T1:=Lib.hid S';obtain⟨e0,e1,e2,e3,ez⟩:=bkc0c1c2c3l (S'.blk 1 rfl);clear S' hsz)))
    go_ret
    have hL2:k+1+(n - k)=(putK x l).length:=by(rw [HF.out,List.length_append,List.length_append,List.length_take,List.length_drop,← LL.out];simp;omega)
    have T:Sep w w8 [.own 146 4 q8 (k+1+(n - k)) c8 (encQ (l.take k) ++ encQ [x] ++ encQ (l.drop k))]:=T3.out.pick [0] (by decide) rfl
    rw [List.append_assoc,← encQ_append,← encQ_append,hL2,← HF.out] at T
    exact⟨q8,c8,ret_slc hL2,T⟩
  ·have hkn':k=n:=by omega
   have HF:Hid (putK x l=l.take k ++ ([x] ++ l.drop k)):=putK_at x l k (by have:=LL.out;omega) HK.out fun h=>absurd h (by have:=LL.out;omega)
   have d2:decide ((k:Int)<n)=false:=by simp;omega
   have d2n:decide (k<n)=false:=by simp;omega
   have d1:(0:Int)≤k:=by omega
   have hkn:(k:Int)≤n:=by omega
   clear hkn' hlt HK
   have HAx:=Lib.hid (fun y:ExtOf wr=>HA x y.val)
   go_wp2
   have u0:=fun x:ExtOf wr=>x.ext.cell b0
   have u1:=fun x:ExtOf wr=>x.ext.cell b1
   have u2:=fun x:ExtOf wr=>x.ext.cell b2
   refine wp_region_ext (by kernel_rfl) (by kernel_rfl) ?_
   repeat (go_big_quiet_step (((go_at_call 159;exact Calls.ext_of (HAx.out _)))))
   refine wpQuiet_nil ?_
   rintro w9 ⟨⟨_,hb9⟩,rfl⟩
   have S9:=Lib.hid (SH.out.call hb9)
   clear hb9 HAx u0 u1 u2 b0 b1 b2 b3 bz SH
   obtain⟨b0,b1,b2,b3,bz⟩:=bkc0c1c2c3l (S9.out.blk 0 rfl)
   go_wp2_with (first | (at_builtin;have _t:=T2;go_must (refine wpList_append_sep rfl _ _ _ rfl 146 i0 _ 4 32 Tryz.underlying85 hi0 hz0 hz1 hz2 rfl (by omega) T2.out 0 q7 (k+1) c7 _ rfl rfl _ _ _ (encQ (l.drop k)) rfl (by have hz:=rd_cutQ (d:=k) (HL.out.ext T2.out.ext) (by omega) hc;simpa [cutp,Addr.add] using hz) (one_encQ _) (by omega) (by omega) ?_;intro q8 c8 w8 S' hsz;have T3:=Lib.hid S';clear S' hsz)) | (at_builtin;have _t:=T1;go_must (refine wpList_append_sep rfl _ _ _ rfl 146 i0 _ 4 32 Tryz.underlying85 hi0 hz0 hz1 hz2 rfl (by omega) (T1.out.junk _) 0 q6 k c6 _ rfl rfl _ 1 1 _ rfl (Rd.oneQ _ _ x) (one_encQ _) (by omega) (by omega) ?_;intro q7 c7 w7 S' hsz;have T2:=Lib.hid S';clear S' hsz)) | (at_builtin;have _t:=S9;go_must (refine wpList_append_sep rfl _ _ _ rfl 146 i0 _ 4 32 Tryz.underlying85 hi0 hz0 hz1 hz2 rfl (by omega) (S9.out.nilrow 146 4) 0 none 0 0 [] rfl rfl p k c _ rfl (rd_takeQ (HL.out.ext S9.out.ext) (by omega)) (one_encQ _) (by omega) (by omega) ?_;intro q6 c6 w6 S' hsz;(try simp only [Nat.zero_add,List.nil_append] at S');have T1:=Lib.hid S';obtain⟨e0,e1,e2,e3,ez⟩:=bkc0c1c2c3l (S'.blk 1 rfl);clear S' hsz)))
   go_ret
   have hL2:k+1+(n - k)=(putK x l).length:=by(rw [HF.out,List.length_append,List.length_append,List.length_take,List.length_drop,← LL.out];simp;omega)
   have T:Sep w w8 [.own 146 4 q8 (k+1+(n - k)) c8 (encQ (l.take k) ++ encQ [x] ++ encQ (l.drop k))]:=T3.out.pick [0] (by decide) rfl
   rw [List.append_assoc,← encQ_append,← encQ_append,hL2,← HF.out] at T
   exact⟨q8,c8,ret_slc hL2,T⟩
attribute [local go_sem ↓] eqKey guardKey
theorem There19 (p:Option Addr) (n c:Nat) (l:List Sq) (x:Sq) (w:World) (hl:Rd w 4 p n (encQ l)) :
  Calls Tryz.prog 162 #[.slice p n c,.agg #[.int .i64 x.s,.int .i64 x.r,.int .i64 x.v]] w fun e w'=>e=.returned (.bool (hasK l x))∧Ext w w':=by
 have S0:=Lib.hid ((Sep.start w).al #[.int .i64 x.s,.int .i64 x.r,.int .i64 x.v] 136 w.heap.size rfl)
 have p1:=hl.ptr
 have n1:=hl.small
 have LL:=Lib.hid hl.nQ
 have HL:=Lib.hid hl
 clear hl
 go_enter Tryz.func162,Tryz.ntmps162
 go_wp2
 go_loopw [5] (fun i wr=>∃ k:Nat,k≤n∧i=.int .i64 k∧Hid ((l.take k).any (fun y=>decide (sameK y x))=false)∧Sep w wr [.blk w.heap.size 136 #[.int .i64 x.s,.int .i64 x.r,.int .i64 x.v]]) (fun i _=>n - (intOf i).toNat)
 case atStart=>exact⟨0,Nat.zero_le _,rfl,rfl,S0.out⟩
 case round =>
  clear S0
  obtain⟨k,hk,rfl,HA,S⟩:=hrel
  obtain⟨b0,b1,b2,bz⟩:=bkc0c1c2l (S.blk 0 rfl)
  have SH:=Lib.hid S
  clear S
  by_cases hlt:k<n
  ·have hkL:k<l.length:=by rw [← LL.out];exact hlt
   obtain⟨g1,g2,g3,_⟩:=(HL.out.ext SH.out.ext).cQ hlt
   have HTA:=Lib.hid (any_true_at (fun y:Sq=>decide (sameK y x)) l k hkL)
   have HST:=Lib.hid (any_step (fun y:Sq=>decide (sameK y x)) l k hkL HA.out)
   have d1:(0:Int)≤k:=by omega
   have d2:(k:Int)<n:=by omega
   clear hkL
   generalize nth l k=y at *
   by_cases hs:sameK y x
   ·have e1:decide (sameK y x)=true:=decide_eq_true hs
    have HF:Hid (hasK l x=true):=HTA.out e1
    clear hs HTA HST
    go_wp2
    have u0:=fun x:ExtOf wr=>x.ext.cell b0
    have u1:=fun x:ExtOf wr=>x.ext.cell b1
    have u2:=fun x:ExtOf wr=>x.ext.cell b2
    have v1:=fun x:ExtOf wr=>x.ext.cell g1
    have v2:=fun x:ExtOf wr=>x.ext.cell g2
    have v3:=fun x:ExtOf wr=>x.ext.cell g3
    refine wp_region_ext (by kernel_rfl) (by kernel_rfl) ?_
    repeat (go_big_quiet_step ((fail)))
    refine wpQuiet_nil ?_
    rintro w9 ⟨⟨_,hb9⟩,rfl⟩
    have S9:=Lib.hid (SH.out.call hb9)
    clear hb9
    go_wp2
    go_ret
    exact⟨ret_bool HF.out.symm,S9.out.ext⟩
   ·have e1:decide (sameK y x)=false:=decide_eq_false hs
    have HF:=Lib.hid (HST.out e1)
    clear hs HTA HST
    go_wp2
    have u0:=fun x:ExtOf wr=>x.ext.cell b0
    have u1:=fun x:ExtOf wr=>x.ext.cell b1
    have u2:=fun x:ExtOf wr=>x.ext.cell b2
    have v1:=fun x:ExtOf wr=>x.ext.cell g1
    have v2:=fun x:ExtOf wr=>x.ext.cell g2
    have v3:=fun x:ExtOf wr=>x.ext.cell g3
    refine wp_region_ext (by kernel_rfl) (by kernel_rfl) ?_
    repeat (go_big_quiet_step ((fail)))
    refine wpQuiet_nil ?_
    rintro w9 ⟨⟨_,hb9⟩,rfl⟩
    have S9:=Lib.hid (SH.out.call hb9)
    clear hb9
    go_wp2
    go_roundw
    case rel=>exact⟨k+1,by omega,by go_num,HF.out,S9.out⟩
    case measure=>simp [intOf];omega
  ·have HF:Hid (hasK l x=false):=any_end _ _ _ (by rw [← LL.out];exact hlt) HA.out
   go_wp2
   go_ret
   exact⟨ret_bool HF.out.symm,SH.out.ext⟩
theorem Put16 (p:Option Addr) (n c:Nat) (l:List Sq) (x:Sq) (w:World) (hl:Rd w 4 p n (encQ l)) (hc:n≤c) (hn:n≤100000) :
  Calls Tryz.prog 219 #[.slice p n c,.agg #[.int .i64 x.s,.int .i64 x.r,.int .i64 x.v,.int .i64 x.d]] w fun e w'=>∃ q c',e=.returned (.slice q (putC x l).length c')∧Sep w w' [.own 138 4 q (putC x l).length c' (encQ (putC x l))]:=by
 obtain⟨i0,hi0,hz0,hz1,hz2⟩:=info_parts infMail
 have S0:=Lib.hid ((Sep.start w).al #[.int .i64 x.s,.int .i64 x.r,.int .i64 x.v,.int .i64 x.d] 138 w.heap.size rfl)
 have hln:=hl.nQ
 have LL:=Lib.hid hln
 have p1:=hl.ptr
 have n1:=hl.small
 have HL:=Lib.hid hl
 have HA:=fun (b:Sq) W=>Less14 b x W
 clear hl hln
 go_enter Tryz.func219,Tryz.ntmps219
 go_wp2
 go_loopw [5] (fun i wr=>∃ k:Nat,k≤n∧i=.int .i64 k∧Hid (∀ j,j<k→keyLt (nth l j) x=true)∧Sep w wr [.blk w.heap.size 138 #[.int .i64 x.s,.int .i64 x.r,.int .i64 x.v,.int .i64 x.d]]) (fun i _=>n - (intOf i).toNat)
 case atStart=>exact⟨0,Nat.zero_le _,rfl,fun i hi=>by omega,S0.out⟩
 case round =>
  clear S0
  obtain⟨k,hk,rfl,HK,S⟩:=hrel
  have SH:=Lib.hid S
  clear S
  obtain⟨b0,b1,b2,b3,bz⟩:=bkc0c1c2c3l (SH.out.blk 0 rfl)
  by_cases hlt:k<n
  ·have hkL:k<l.length:=by rw [← LL.out];exact hlt
   obtain⟨g1,g2,g3,g4⟩:=(HL.out.ext SH.out.ext).cQ hlt
   have d1:(0:Int)≤k:=by omega
   have d2:(k:Int)<n:=by omega
   have HCQ:Hid (∀ W,Ext w W→W.cell? (adr p (k*4))=some (.int .i64 (nth l k).s)∧W.cell? (adr p (k*4+1))=some (.int .i64 (nth l k).r)∧W.cell? (adr p (k*4+2))=some (.int .i64 (nth l k).v)∧W.cell? (adr p (k*4+3))=some (.int .i64 (nth l k).d)):=fun W hW=>(HL.out.ext hW).cQ hlt
   have HAT:Hid (keyLt (nth l k) x=false→putC x l=l.take k ++ (if sameK (nth l k) x then ⟨x.s,x.r,x.v,min x.d (nth l k).d⟩:: l.drop (k+1) else x :: l.drop k)):=fun h=>by
    rw [putC_at x l k (by omega) HK.out fun _=>h]
    by_cases hs:sameK (nth l k) x
    ·rw [if_pos ⟨hkL,hs⟩,if_pos hs]
    ·rw [if_neg (fun h2=>hs h2.2),if_neg hs]
   have HAK:Hid (keyLt (nth l k) x=true→∀ i,i<k+1→keyLt (nth l i) x=true):=fun h i hi=>by
    by_cases e:i=k
    ·subst e;exact h
    ·exact HK.out i (by omega)
   have HAx:=Lib.hid (fun y:ExtOf wr=>HA (nth l k) y.val)
   generalize nth l k=y at *
   cases hy:keyLt y x with
   | true =>
    rw [hy] at HAx
    have HK2:=Lib.hid (HAK.out hy)
    clear hy HAT HAK HK g4 b3 HCQ
    go_wp2
    have u0:=fun x:ExtOf wr=>x.ext.cell b0
    have u1:=fun x:ExtOf wr=>x.ext.cell b1
    have u2:=fun x:ExtOf wr=>x.ext.cell b2
    have v1:=fun x:ExtOf wr=>x.ext.cell g1
    have v2:=fun x:ExtOf wr=>x.ext.cell g2
    have v3:=fun x:ExtOf wr=>x.ext.cell g3
    refine wp_region_ext (by kernel_rfl) (by kernel_rfl) ?_
    repeat (go_big_quiet_step (((go_at_call 159;exact Calls.ext_of (HAx.out _)))))
    refine wpQuiet_nil ?_
    rintro w9 ⟨⟨_,hb9⟩,rfl⟩
    go_wp2
    go_roundw
    case rel=>exact⟨k+1,by omega,by go_num,HK2.out,SH.out.call hb9⟩
    case measure=>simp [intOf];omega
   | false =>
    rw [hy] at HAx
    have HF0:=Lib.hid (HAT.out hy)
    clear hy HAT HAK HK g4 b3
    go_wp2
    have u0:=fun x:ExtOf wr=>x.ext.cell b0
    have u1:=fun x:ExtOf wr=>x.ext.cell b1
    have u2:=fun x:ExtOf wr=>x.ext.cell b2
    have v1:=fun x:ExtOf wr=>x.ext.cell g1
    have v2:=fun x:ExtOf wr=>x.ext.cell g2
    have v3:=fun x:ExtOf wr=>x.ext.cell g3
    refine wp_region_ext (by kernel_rfl) (by kernel_rfl) ?_
    repeat (go_big_quiet_step (((go_at_call 159;exact Calls.ext_of (HAx.out _)))))
    refine wpQuiet_nil ?_
    rintro w9 ⟨⟨_,hb9⟩,rfl⟩
    have S9:=Lib.hid (SH.out.call hb9)
    have hkn:(k:Int)≤n:=by omega
    clear hb9 g1 g2 g3 HAx u0 u1 u2 v1 v2 v3 b0 b1 b2 bz SH
    obtain⟨b0,b1,b2,b3,bz⟩:=bkc0c1c2c3l (S9.out.blk 0 rfl)
    by_cases hs:sameK y x
    ·have HF:Hid (putC x l=l.take k ++ ([⟨x.s,x.r,x.v,min x.d y.d⟩] ++ l.drop (k+1))):=by unfold Hid;rw [HF0.out,if_pos hs];rfl
     have e1:decide (sameK y x)=true:=decide_eq_true hs
     clear HF0 hs
     go_wp2_with (first | (at_builtin;have _t:=S9;go_must (refine wpList_append_sep rfl _ _ _ rfl 138 i0 _ 4 32 Tryz.underlying83 hi0 hz0 hz1 hz2 rfl (by omega) (S9.out.nilrow 138 4) 0 none 0 0 [] rfl rfl p k c _ rfl (rd_takeQ (HL.out.ext S9.out.ext) (by omega)) (one_encQ _) (by omega) (by omega) ?_;intro q6 c6 w6 S' hsz;(try simp only [Nat.zero_add,List.nil_append] at S');have T1:=Lib.hid S';obtain⟨e0,e1,e2,e3,ez⟩:=bkc0c1c2c3l (S'.blk 1 rfl);clear S' hsz)))
     obtain⟨g1,g2,g3,g4⟩:=HCQ.out _ T1.out.ext
     have u0:=fun x:ExtOf w6=>x.ext.cell e0
     have u1:=fun x:ExtOf w6=>x.ext.cell e1
     have u2:=fun x:ExtOf w6=>x.ext.cell e2
     have v1:=fun x:ExtOf w6=>x.ext.cell g1
     have v2:=fun x:ExtOf w6=>x.ext.cell g2
     have v3:=fun x:ExtOf w6=>x.ext.cell g3
     refine wp_region_ext (by kernel_rfl) (by kernel_rfl) ?_
     repeat (go_big_quiet_step ((fail)))
     refine wpQuiet_nil ?_
     rintro w5 ⟨⟨_,hb5⟩,rfl⟩
     have T2:=Lib.hid (T1.out.call hb5)
     clear T1 hb5 e0 e1 e2 e3 ez u0 u1 u2 v1 v2 v3 g1 g2 g3 g4
     obtain⟨b0,b1,b2,b3,bz⟩:=bkc0c1c2c3l (T2.out.blk 1 rfl)
     obtain⟨g1,g2,g3,g4⟩:=HCQ.out _ T2.out.ext
     go_wp2
     refine wp_region_noPanic ?_
     refine wp_region_held_drew (S:=fun W=>W.cell? ⟨w.heap.size,0,none⟩=some (.int .i64 x.s)∧W.cell? ⟨w.heap.size,1,none⟩=some (.int .i64 x.r)∧W.cell? ⟨w.heap.size,2,none⟩=some (.int .i64 x.v)∧W.cell? ⟨w.heap.size,3,none⟩=some (.int .i64 x.d)∧W.cell? (adr p (k*4+3))=some (.int .i64 y.d)) (by kernel_rfl) ⟨b0,b1,b2,b3,g4⟩ (fun hHeld=>?_)
     have SD:=Lib.hid T2.out.drew
     clear T2 g1 g2 g3 g4 b0 b1 b2 b3 bz
     generalize w5.drew=D at SD hHeld ⊢
     refine wpAnyH_take (i:=0) (v:=.slice q6 k c6) rfl (by kernel_rfl) (by kernel_rfl) (by kernel_rfl) (noPanic_q _ _) (Or.inl ⟨by kernel_rfl,fun W hSw=>by obtain⟨h0,h1,h2,h3,h4⟩:=hSw;go_simp⟩) hHeld ?_
     refine wpAnyH_take (i:=1) (v:=.pointer (some ⟨w.heap.size,0,none⟩)) rfl (by kernel_rfl) (by kernel_rfl) (by kernel_rfl) (noPanic_q _ _) (Or.inl ⟨by kernel_rfl,fun W hSw=>by obtain⟨h0,h1,h2,h3,h4⟩:=hSw;go_simp⟩) hHeld ?_
     refine wpAnyH_take (i:=2) (v:=.agg #[.int .i64 x.s,.int .i64 x.r,.int .i64 x.v]) rfl (by kernel_rfl) (by kernel_rfl) (by kernel_rfl) (noPanic_q _ _) (Or.inl ⟨by kernel_rfl,fun W hSw=>by obtain⟨h0,h1,h2,h3,h4⟩:=hSw;go_simp⟩) hHeld ?_
     refine wpAnyH_take (i:=3) (v:=.pointer (some ⟨w.heap.size,3,none⟩)) rfl (by kernel_rfl) (by kernel_rfl) (by kernel_rfl) (noPanic_q _ _) (Or.inl ⟨by kernel_rfl,fun W hSw=>by obtain⟨h0,h1,h2,h3,h4⟩:=hSw;go_simp⟩) hHeld ?_
     refine wpAnyH_take (i:=4) (v:=.int .i64 x.d) rfl (by kernel_rfl) (by kernel_rfl) (by kernel_rfl) (noPanic_q _ _) (Or.inl ⟨by kernel_rfl,fun W hSw=>by obtain⟨h0,h1,h2,h3,h4⟩:=hSw;go_simp⟩) hHeld ?_
     refine wpAnyH_take (i:=5) (v:=.slice p n c) rfl (by kernel_rfl) (by kernel_rfl) (by kernel_rfl) (noPanic_q _ _) (Or.inl ⟨by kernel_rfl,fun W hSw=>by obtain⟨h0,h1,h2,h3,h4⟩:=hSw;go_simp⟩) hHeld ?_
     refine wpAnyH_take (i:=6) (v:=.int .i64 (k:Int)) rfl (by kernel_rfl) (by kernel_rfl) (by kernel_rfl) (noPanic_q _ _) (Or.inl ⟨by kernel_rfl,fun W hSw=>by obtain⟨h0,h1,h2,h3,h4⟩:=hSw;go_simp⟩) hHeld ?_
     refine wpAnyH_take (i:=7) (v:=.pointer (some (adr p (k*4)))) rfl (by kernel_rfl) (by kernel_rfl) (by kernel_rfl) (noPanic_q _ _) (Or.inl ⟨by kernel_rfl,fun W hSw=>by obtain⟨h0,h1,h2,h3,h4⟩:=hSw;go_simp⟩) hHeld ?_
     refine wpAnyH_take (i:=8) (v:=.pointer (some (adr p (k*4+3)))) rfl (by kernel_rfl) (by kernel_rfl) (by kernel_rfl) (noPanic_q _ _) (Or.inl ⟨by kernel_rfl,fun W hSw=>by obtain⟨h0,h1,h2,h3,h4⟩:=hSw;go_simp⟩) hHeld ?_
     refine wpAnyH_take (i:=9) (v:=.int .i64 y.d) rfl (by kernel_rfl) (by kernel_rfl) (by kernel_rfl) (noPanic_q _ _) (Or.inl ⟨by kernel_rfl,fun W hSw=>by obtain⟨h0,h1,h2,h3,h4⟩:=hSw;go_simp⟩) hHeld ?_
     obtain⟨m,hm⟩:∃ m,min x.d y.d=m:=⟨_,rfl⟩
     rw [hm] at HF
     refine wpAnyH_take (i:=10) (v:=.int .i64 m) rfl (by kernel_rfl) (by kernel_rfl) (by kernel_rfl) (noPanic_q _ _) (Or.inl ⟨by kernel_rfl,fun W hSw=>by clear hSw;go_simp⟩) hHeld ?_
     refine wpAnyH_take (i:=11) (v:=.agg #[.int .i64 x.s,.int .i64 x.r,.int .i64 x.v,.int .i64 m]) rfl (by kernel_rfl) (by kernel_rfl) (by kernel_rfl) (noPanic_q _ _) (Or.inl ⟨by kernel_rfl,fun W hSw=>by obtain⟨h0,h1,h2,h3,h4⟩:=hSw;go_simp⟩) hHeld ?_
     clear hm
     have SA:=Lib.hid (SD.out.alrw #[.int .i64 x.s,.int .i64 x.r,.int .i64 x.v,.int .i64 m] 138 4 1 D.heap.size rfl (by decide) rfl)
     obtain⟨q7,c7,w7,hrun,S'⟩:=SA.out.appended 1 83 83 138 i0 _ 4 32 Tryz.underlying83 hi0 hz0 hz1 hz2 rfl (by omega) q6 k c6 _ rfl (some ⟨D.heap.size,0,none⟩) 1 1 (encQ [⟨x.s,x.r,x.v,m⟩]) (SA.out.rdx 0 rfl) (one_encQ _) (by omega) (by omega)
     have T4:=Lib.hid S'
     refine wpAnyH_ready (rs:=[12]) (by kernel_rfl) (by simp) (AllReadyH.cons rfl (fun K hK=>?_) AllReadyH.nil)
     go_simp
     refine hK.out _ _ ⟨(SA.out.blk 2 rfl).cell 0,(SA.out.blk 2 rfl).cell 1,(SA.out.blk 2 rfl).cell 2,(SA.out.blk 2 rfl).cell 3,(HCQ.out _ SA.out.ext).2.2.2⟩ (fun hHeld=>?_)
     clear hK
     refine wpAnyH_ready (rs:=[13]) (by kernel_rfl) (by simp) (AllReadyH.cons rfl (fun K hK=>?_) AllReadyH.nil)
     rw [if_pos (by rfl)]
     refine operwp_append (.tmp 42) (.tmp 54) 83 (by rfl) (by rfl) (by rfl) hrun ?_
     refine hK.out _ _ ⟨(T4.out.blk 2 rfl).cell 0,(T4.out.blk 2 rfl).cell 1,(T4.out.blk 2 rfl).cell 2,(T4.out.blk 2 rfl).cell 3,(HCQ.out _ T4.out.ext).2.2.2⟩ (fun hHeld=>?_)
     clear hK
     refine wpAnyH_take (i:=14) (v:=.slice q7 (k+1) c7) rfl (by kernel_rfl) (by kernel_rfl) (by kernel_rfl) (noPanic_q _ _) (Or.inl ⟨by kernel_rfl,fun W hSw=>by obtain⟨h0,h1,h2,h3,h4⟩:=hSw;go_simp⟩) hHeld ?_
     refine wpAnyH_done (by kernel_rfl) ?_ _
     refine noPanic_mk ?_
     clear hHeld hrun S'
     try simp [Act.put]
     go_wp2_with (at_builtin;have _t:=T4;go_must (refine wpList_append_sep rfl _ _ _ rfl 138 i0 _ 4 32 Tryz.underlying83 hi0 hz0 hz1 hz2 rfl (by omega) T4.out 1 q7 (k+1) c7 _ rfl rfl _ _ _ (encQ (l.drop (k+1))) rfl (by have hz:=rd_cutQ (d:=k+1) (HL.out.ext T4.out.ext) (by omega) hc;simpa [cutp,Addr.add] using hz) (one_encQ _) (by omega) (by omega) ?_;intro q8 c8 w8 S' hsz;have T5:=Lib.hid S';clear S' hsz))
     all_goals
      go_ret
      have hL2:k+1+(n - (k+1))=(putC x l).length:=by
       rw [HF.out,List.length_append,List.length_append,List.length_take,List.length_drop,← LL.out];simp;omega
      have T:Sep w w8 [.own 138 4 q8 (k+1+(n - (k+1))) c8 (encQ (l.take k) ++ encQ [⟨x.s,x.r,x.v,m⟩] ++ encQ (l.drop (k+1)))]:=T5.out.pick [1] (by decide) rfl
      rw [List.append_assoc,← encQ_append,← encQ_append,hL2,← HF.out] at T
      exact⟨q8,c8,ret_slc hL2,T⟩
    ·have HF:Hid (putC x l=l.take k ++ ([x] ++ l.drop k)):=by unfold Hid;rw [HF0.out,if_neg hs];rfl
     have e1:decide (sameK y x)=false:=decide_eq_false hs
     clear HF0 hs
     go_wp2_with (first | (at_builtin;have _t:=S9;go_must (refine wpList_append_sep rfl _ _ _ rfl 138 i0 _ 4 32 Tryz.underlying83 hi0 hz0 hz1 hz2 rfl (by omega) (S9.out.nilrow 138 4) 0 none 0 0 [] rfl rfl p k c _ rfl (rd_takeQ (HL.out.ext S9.out.ext) (by omega)) (one_encQ _) (by omega) (by omega) ?_;intro q6 c6 w6 S' hsz;(try simp only [Nat.zero_add,List.nil_append] at S');have T1:=Lib.hid S';obtain⟨e0,e1,e2,e3,ez⟩:=bkc0c1c2c3l (S'.blk 1 rfl);clear S' hsz)))
     have u0:=fun x:ExtOf w6=>x.ext.cell e0
     have u1:=fun x:ExtOf w6=>x.ext.cell e1
     have u2:=fun x:ExtOf w6=>x.ext.cell e2
     (obtain⟨g1,g2,g3,g4⟩:=HCQ.out _ T1.out.ext);have v1:=fun x:ExtOf w6=>x.ext.cell g1;have v2:=fun x:ExtOf w6=>x.ext.cell g2;have v3:=fun x:ExtOf w6=>x.ext.cell g3
     refine wp_region_ext (by kernel_rfl) (by kernel_rfl) ?_
     repeat (go_big_quiet_step ((fail)))
     refine wpQuiet_nil ?_
     rintro w5 ⟨⟨_,hb5⟩,rfl⟩
     have T1':=Lib.hid (T1.out.call hb5)
     clear T1 hb5 e0 e1 e2 e3 ez u0 u1 u2
     have T1:=T1'
     clear T1'
     obtain⟨e0,e1,e2,e3,ez⟩:=bkc0c1c2c3l (T1.out.blk 1 rfl)
     go_wp2_with (first | (at_builtin;have _t:=T2;go_must (refine wpList_append_sep rfl _ _ _ rfl 138 i0 _ 4 32 Tryz.underlying83 hi0 hz0 hz1 hz2 rfl (by omega) T2.out 0 q7 (k+1) c7 _ rfl rfl _ _ _ (encQ (l.drop k)) rfl (by have hz:=rd_cutQ (d:=k) (HL.out.ext T2.out.ext) (by omega) hc;simpa [cutp,Addr.add] using hz) (one_encQ _) (by omega) (by omega) ?_;intro q8 c8 w8 S' hsz;have T3:=Lib.hid S';clear S' hsz)) | (at_builtin;have _t:=T1;go_must (refine wpList_append_sep rfl _ _ _ rfl 138 i0 _ 4 32 Tryz.underlying83 hi0 hz0 hz1 hz2 rfl (by omega) (T1.out.junk _) 0 q6 k c6 _ rfl rfl _ 1 1 _ rfl (Rd.oneQ _ _ x) (one_encQ _) (by omega) (by omega) ?_;intro q7 c7 w7 S' hsz;have T2:=Lib.hid S';clear S' hsz)))
     go_ret
     have hL2:k+1+(n - k)=(putC x l).length:=by(rw [HF.out,List.length_append,List.length_append,List.length_take,List.length_drop,← LL.out];simp;omega)
     have T:Sep w w8 [.own 138 4 q8 (k+1+(n - k)) c8 (encQ (l.take k) ++ encQ [x] ++ encQ (l.drop k))]:=T3.out.pick [0] (by decide) rfl
     rw [List.append_assoc,← encQ_append,← encQ_append,hL2,← HF.out] at T
     exact⟨q8,c8,ret_slc hL2,T⟩
  ·have hkn':k=n:=by omega
   have HF:Hid (putC x l=l.take k ++ ([x] ++ l.drop k)):=by
    have h:=putC_at x l k (by have:=LL.out;omega) HK.out (fun h=>absurd h (by have:=LL.out;omega))
    rw [if_neg (fun h2=>absurd h2.1 (by have:=LL.out;omega))] at h
    exact h
   have d2:decide ((k:Int)<n)=false:=by simp;omega
   have d2n:decide (k<n)=false:=by simp;omega
   have d1:(0:Int)≤k:=by omega
   have hkn:(k:Int)≤n:=by omega
   clear hkn' hlt HK
   have HAx:=Lib.hid (fun y:ExtOf wr=>HA x y.val)
   go_wp2
   have u0:=fun x:ExtOf wr=>x.ext.cell b0
   have u1:=fun x:ExtOf wr=>x.ext.cell b1
   have u2:=fun x:ExtOf wr=>x.ext.cell b2
   refine wp_region_ext (by kernel_rfl) (by kernel_rfl) ?_
   repeat (go_big_quiet_step (((go_at_call 159;exact Calls.ext_of (HAx.out _)))))
   refine wpQuiet_nil ?_
   rintro w9 ⟨⟨_,hb9⟩,rfl⟩
   have S9:=Lib.hid (SH.out.call hb9)
   clear hb9 HAx u0 u1 u2 b0 b1 b2 b3 bz SH
   obtain⟨b0,b1,b2,b3,bz⟩:=bkc0c1c2c3l (S9.out.blk 0 rfl)
   go_wp2_with (first | (at_builtin;have _t:=S9;go_must (refine wpList_append_sep rfl _ _ _ rfl 138 i0 _ 4 32 Tryz.underlying83 hi0 hz0 hz1 hz2 rfl (by omega) (S9.out.nilrow 138 4) 0 none 0 0 [] rfl rfl p k c _ rfl (rd_takeQ (HL.out.ext S9.out.ext) (by omega)) (one_encQ _) (by omega) (by omega) ?_;intro q6 c6 w6 S' hsz;(try simp only [Nat.zero_add,List.nil_append] at S');have T1:=Lib.hid S';obtain⟨e0,e1,e2,e3,ez⟩:=bkc0c1c2c3l (S'.blk 1 rfl);clear S' hsz)))
   have u0:=fun x:ExtOf w6=>x.ext.cell e0
   have u1:=fun x:ExtOf w6=>x.ext.cell e1
   have u2:=fun x:ExtOf w6=>x.ext.cell e2
   skip
   refine wp_region_ext (by kernel_rfl) (by kernel_rfl) ?_
   repeat (go_big_quiet_step ((fail)))
   refine wpQuiet_nil ?_
   rintro w5 ⟨⟨_,hb5⟩,rfl⟩
   have T1':=Lib.hid (T1.out.call hb5)
   clear T1 hb5 e0 e1 e2 e3 ez u0 u1 u2
   have T1:=T1'
   clear T1'
   obtain⟨e0,e1,e2,e3,ez⟩:=bkc0c1c2c3l (T1.out.blk 1 rfl)
   go_wp2_with (first | (at_builtin;have _t:=T2;go_must (refine wpList_append_sep rfl _ _ _ rfl 138 i0 _ 4 32 Tryz.underlying83 hi0 hz0 hz1 hz2 rfl (by omega) T2.out 0 q7 (k+1) c7 _ rfl rfl _ _ _ (encQ (l.drop k)) rfl (by have hz:=rd_cutQ (d:=k) (HL.out.ext T2.out.ext) (by omega) hc;simpa [cutp,Addr.add] using hz) (one_encQ _) (by omega) (by omega) ?_;intro q8 c8 w8 S' hsz;have T3:=Lib.hid S';clear S' hsz)) | (at_builtin;have _t:=T1;go_must (refine wpList_append_sep rfl _ _ _ rfl 138 i0 _ 4 32 Tryz.underlying83 hi0 hz0 hz1 hz2 rfl (by omega) (T1.out.junk _) 0 q6 k c6 _ rfl rfl _ 1 1 _ rfl (Rd.oneQ _ _ x) (one_encQ _) (by omega) (by omega) ?_;intro q7 c7 w7 S' hsz;have T2:=Lib.hid S';clear S' hsz)))
   go_ret
   have hL2:k+1+(n - k)=(putC x l).length:=by(rw [HF.out,List.length_append,List.length_append,List.length_take,List.length_drop,← LL.out];simp;omega)
   have T:Sep w w8 [.own 138 4 q8 (k+1+(n - k)) c8 (encQ (l.take k) ++ encQ [x] ++ encQ (l.drop k))]:=T3.out.pick [0] (by decide) rfl
   rw [List.append_assoc,← encQ_append,← encQ_append,hL2,← HF.out] at T
   exact⟨q8,c8,ret_slc hL2,T⟩
theorem Comb16r (p:Option Addr) (n c:Nat) (l:List Sq) (w:World) (hl:Rd w 4 p n (encQ l)) (hn:n≤100000) :
  Calls Tryz.prog 161 #[.slice p n c] w fun e w'=>∃ q c',e=.returned (.slice q (combM l).length c')∧Sep w w' [.own 138 4 q (combM l).length c' (encQ (combM l))]:=by
 have p1:=hl.ptr
 have n1:=hl.small
 have L1:=Lib.hid hl.nQ
 have HL:=Lib.hid hl
 have S0:=Lib.hid ((Sep.start w).nilrow 138 4)
 clear hl
 go_enter Tryz.func161,Tryz.ntmps161
 go_wp2
 go_loopw [3,4] (fun v i wr=>∃ (j m:Nat) (q:Option Addr) (d:Nat),j≤n∧m≤j∧i=.int .i64 j∧v=.slice q m d∧Sep w wr [.own 138 4 q m d (encQ (combM (l.take j)))]) (fun _ i _=>n - (intOf i).toNat)
 case atStart=>exact⟨0,0,none,0,Nat.zero_le _,Nat.le_refl _,rfl,rfl,S0.out⟩
 case round =>
  clear S0
  obtain⟨j,m,q,d,hj,hmj,rfl,rfl,S⟩:=hrel
  by_cases hlt:j<n
  ·obtain⟨g1,g2,g3,g4⟩:=(HL.out.ext S.ext).cQ hlt
   have hT:=take_succ_nth l j (by rw [← L1.out];exact hlt)
   have d1:(0:Int)≤j:=by omega
   have d2:(j:Int)<n:=by omega
   have hcap:=own_cap (S.own 0 rfl)
   generalize nth l j=y at *
   have HS:=Lib.hid (combM_snoc (l.take j) y)
   rw [← hT] at HS
   have hml:m=(combM (l.take j)).length:=(S.rdx 0 rfl).nQ
   have HML:Hid ((putC y (combM (l.take j))).length≤j+1):=by
    have:=putC_len y (combM (l.take j))
    unfold Hid;omega
   have HPU:=Lib.hid (Put16 q m d (combM (l.take j)) y wr (S.rdx 0 rfl) hcap (by omega))
   rw [← HS.out] at HPU HML
   have SH:=Lib.hid S
   clear S hml hT
   generalize (combM (l.take (j+1))).length=m2 at HPU HML
   go_wp2_with (go_at_call 219;go_must (refine HPU.out.mono ?_;rintro e w3 ⟨q',d',rfl,Z⟩;have S3:=Lib.hid (SH.out.comp Z);clear Z))
   go_roundw
   case rel=>exact⟨j+1,m2,q',d',by omega,HML.out,by go_num,rfl,S3.out.pick [0] (by decide) rfl⟩
   case measure=>simp [intOf];omega
  ·obtain rfl:j=n:=by omega
   rw [List.take_of_length_le (by rw [← L1.out];exact Nat.le_refl _)] at S
   have HML:Hid (m=(combM l).length):=(S.rdx 0 rfl).nQ
   have S2:=Lib.hid S
   clear S
   go_wp2
   go_ret
   exact⟨q,d,ret_slc HML.out,by rw [← HML.out];exact S2.out⟩
theorem fresh_snoc {st C:List Sq} {j:Nat} (h:j<C.length):(C.take (j+1)).filter (fun x=>!hasK st x)=(C.take j).filter (fun x=>!hasK st x) ++ if hasK st (nth C j)=true then [] else [nth C j]:=by
 rw [take_succ_nth C j h,List.filter_append]
 congr 1
 cases hb:hasK st (nth C j) <;> simp [hb]
theorem Fresh19 (p:Option Addr) (n c:Nat) (st:List Sq) (pm:Option Addr) (nm cm:Nat) (M:List Sq) (w:World) (hl:Rd w 4 p n (encQ st)) (hM:Rd w 4 pm nm (encQ M)) (hnm:nm≤100000) :
  Calls Tryz.prog 100 #[.slice p n c,.slice pm nm cm] w fun e w'=>∃ q c',e=.returned (.slice q (freshM st M).length c')∧Sep w w' [.own 138 4 q (freshM st M).length c' (encQ (freshM st M))]:=by
 obtain⟨i0,hi0,hz0,hz1,hz2⟩:=info_parts infMail
 have HCO:=Lib.hid (Comb16r pm nm cm M w hM hnm)
 have HTH:=Lib.hid (fun (x:Sq) W (h:Ext w W)=>There19 p n c st x W (hl.ext h))
 have HCL:Hid ((combM M).length≤100000):=by have:=combM_len M;have:=hM.nQ;unfold Hid;omega
 obtain⟨C,hC⟩:∃ C,combM M=C:=⟨_,rfl⟩
 have hF:freshM st M=C.filter (fun x=>!hasK st x):=by unfold freshM;rw [hC]
 rw [hC] at HCO HCL
 rw [hF]
 clear hl hM hC hF hnm
 go_enter Tryz.func100,Tryz.ntmps100
 go_wp2_with (go_at_call 161;go_must (refine HCO.out.mono ?_;rintro e w1 ⟨qc,dc,rfl,Z⟩;have S0:=Lib.hid (Z.nilrow 138 4);clear Z))
 clear HCO
 go_loopw [6,7] (fun v i wr=>∃ (j m:Nat) (q:Option Addr) (d:Nat),j≤C.length∧m≤j∧i=.int .i64 j∧v=.slice q m d∧Sep w wr [.own 138 4 q m d (encQ ((C.take j).filter (fun x=>!hasK st x))),.own 138 4 qc C.length dc (encQ C)]) (fun _ i _=>C.length - (intOf i).toNat)
 case atStart=>exact⟨0,0,none,0,Nat.zero_le _,Nat.le_refl _,rfl,rfl,S0.out⟩
 case round =>
  clear S0
  obtain⟨j,m,q,d,hj,hmj,rfl,rfl,S⟩:=hrel
  have pc:=(S.rdx 1 rfl).ptr
  have nc:=(S.rdx 1 rfl).small
  by_cases hlt:j<C.length
  ·obtain⟨g1,g2,g3,g4⟩:=(S.rdx 1 rfl).cQ hlt
   have HFS:=Lib.hid (fresh_snoc (st:=st) hlt)
   have d1:(0:Int)≤j:=by omega
   have d2:(j:Int)<C.length:=by omega
   have HCU:Hid (∀ W,Rd W 4 qc C.length (encQ C)→W.cell? (adr qc (j*4))=some (.int .i64 (nth C j).s)∧W.cell? (adr qc (j*4+1))=some (.int .i64 (nth C j).r)∧W.cell? (adr qc (j*4+2))=some (.int .i64 (nth C j).v)∧W.cell? (adr qc (j*4+3))=some (.int .i64 (nth C j).d)):=fun W hr=>hr.cQ hlt
   generalize nth C j=y at *
   have HTY:=Lib.hid (HTH.out y wr S.ext)
   have SH:=Lib.hid S
   have hCL:=HCL.out
   clear S
   cases hy:hasK st y with
   | true =>
    rw [hy] at HTY HFS
    rw [if_pos rfl,List.append_nil] at HFS
    clear hy
    go_wp2_with (go_at_call 162;go_must (refine HTY.out.mono ?_;rintro e w3 ⟨rfl,hb⟩;have S3:=Lib.hid (SH.out.call hb);clear hb))
    go_roundw
    case rel=>exact⟨j+1,m,q,d,by omega,by omega,by go_num,rfl,by rw [HFS.out];exact S3.out⟩
    case measure=>simp [intOf];omega
   | false =>
    rw [hy] at HTY HFS
    rw [if_neg (by simp)] at HFS
    clear hy g4
    go_wp2_with (first
     | (at_builtin;have _t:=S3;go_must (refine wpList_append_sep rfl _ _ _ rfl 138 i0 _ 4 32 Tryz.underlying83 hi0 hz0 hz1 hz2 rfl (by omega) (S3.out.junk _) 0 q m d _ rfl rfl _ 1 1 _ rfl (Rd.oneQ _ _ y) (one_encQ _) (by omega) (by omega) ?_;intro q7 c7 w7 S' hsz;have S4:=Lib.hid S';clear S' hsz))
     | (go_at_call 162;go_must (refine HTY.out.mono ?_;rintro e w3 ⟨rfl,hb⟩;have S3:=Lib.hid (SH.out.call hb);obtain⟨k1,k2,k3,k4⟩:=HCU.out _ (S3.out.rdx 1 rfl);clear hb)))
    go_roundw
    case rel=>exact⟨j+1,m+1,q7,c7,by omega,by omega,by go_num,rfl,by rw [HFS.out,encQ_append];exact S4.out.pick [0,1] (by decide) rfl⟩
    case measure=>simp [intOf];omega
  ·obtain rfl:j=C.length:=by omega
   rw [List.take_length] at S
   have HML:Hid (m=(C.filter (fun x=>!hasK st x)).length):=(S.rdx 0 rfl).nQ
   have S2:=Lib.hid S
   clear S
   go_wp2
   go_ret
   exact⟨q,d,ret_slc HML.out,by rw [← HML.out];exact S2.out.pick [0] (by decide) rfl⟩
end
section
open Go Go.RowKit
attribute [local go_sem] Oper.semAt_some
theorem Next18 (k f t:Int) (pw:Option Addr) (nw cw:Nat) (rad most:Int) (po:Option Addr) (no co:Nat) (O:List Int) (pt:Option Addr) (nt ct:Nat) (T:List Int) (pr:Option Addr) (nr cr:Nat) (R:List Int) (pv:Option Addr) (nv cv:Nat) (V:List Int) (w:World) (s r v d:Int) (hO:Rd w 1 po no (encI O)) (hT:Rd w 1 pt nt (encI T)) (hR:Rd w 1 pr nr (encI R)) (hV:Rd w 1 pv nv (encI V)) (hct:nt≤ct) (hcv:nv≤cv) (hb:∀ v,checkR O T R V=true→(outL (checkR O T R V) O T v).length≤100000∧(outL (checkR O T R V) R V v).length≤100000) :
  Calls Tryz.prog 101 #[.agg #[.int .i64 k,.int .i64 f,.int .i64 t,.slice pw nw cw,.int .i64 rad,.int .i64 most],.agg #[.slice po no co,.slice pt nt ct,.slice pr nr cr,.slice pv nv cv],.agg #[.int .i64 s,.int .i64 r,.int .i64 v,.int .i64 d]] w fun e w'=>∃ q c,e=.returned (.tuple #[.slice q (nextL k rad (checkR O T R V) O T R V ⟨s,r,v,d⟩).length c,.int .i64 (nextC (checkR O T R V) O R ⟨s,r,v,d⟩)])∧Sep w w' [.own 138 4 q (nextL k rad (checkR O T R V) O T R V ⟨s,r,v,d⟩).length c (encQ (nextL k rad (checkR O T R V) O T R V ⟨s,r,v,d⟩))]:=by
 obtain⟨i0,hi0,hz0,hz1,hz2⟩:=info_parts infMail
 have S0:=Lib.hid ((((Sep.start w).al #[.int .i64 k,.int .i64 f,.int .i64 t,.slice pw nw cw,.int .i64 rad,.int .i64 most] 24 w.heap.size rfl).al #[.slice po no co,.slice pt nt ct,.slice pr nr cr,.slice pv nv cv] 27 (w.heap.size+1) (by simp)).al #[.int .i64 s,.int .i64 r,.int .i64 v,.int .i64 d] 146 (w.heap.size+1+1) (by simp))
 have HC:=Lib.hid (fun W1 (h:Ext w W1)=>Check04 po no co O pt nt ct T pr nr cr R pv nv cv V W1 (hO.ext h) (hT.ext h) (hR.ext h) (hV.ext h) hct hcv)
 have HG:=Lib.hid (fun W1 (h:Ext w W1)=>Out04 po no co O pt nt ct T pr nr cr R pv nv cv V W1 v (hO.ext h) (hT.ext h) (hR.ext h) (hV.ext h) hct hcv)
 have HI:=Lib.hid (fun W1 (h:Ext w W1)=>In04 po no co O pt nt ct T pr nr cr R pv nv cv V W1 v (hO.ext h) (hT.ext h) (hR.ext h) (hV.ext h) hct hcv)
 have hOn:=hO.nI
 have hOs:=hO.small
 unfold nextL nextC
 cases hck:checkR O T R V with
 | false =>
  rw [hck] at HC
  rw [nxC_40,nxL_no (Or.inl (by decide))]
  clear hO hT hR hV hck hb HG HI hOn
  go_enter Tryz.func101,Tryz.ntmps101
  go_wp2_with (go_at_call 96;go_must (refine(HC.out _ S0.out.ext).mono ?_;rintro e w1 ⟨rfl,hb⟩;have S1:=Lib.hid (S0.out.call hb);obtain⟨y0,y1,y2,y3,yz⟩:=bkc0c1c2c3l (S1.out.blk 0 rfl);obtain⟨b0,b1,b2,b3,bz⟩:=bkc0c1c2c3l (S1.out.blk 1 rfl);obtain⟨a0,a4,az⟩:=bkc0c4l (S1.out.blk 2 rfl);clear hb))
  go_ret2
  exact⟨none,0,rfl,(S1.out.nilrow _ _).pick [0] (by decide) rfl⟩
 | true =>
  obtain⟨hor,_⟩:=checkR_half hck
  have hbL:=hb v hck
  rw [hck] at HC HG HI hbL
  clear hO hT hR hV hck hb
  have HB:Hid (outB true (if r=1 then R else O) v=(decide (0≤v) && decide (v<(no:Int) - 1))):=by
   unfold Hid outB
   split
   ·rw [← hor,← hOn];rfl
   ·rw [← hOn];rfl
  by_cases hbad:r<0∨1<r∨v<0∨(no:Int) - 1≤v∨d<0∨200<d
  ·have hN:nxC true (outB true (if r=1 then R else O) v) ⟨s,r,v,d⟩=1:=by
    refine nxC_1 fun h=>?_
    rw [HB.out,Bool.and_eq_true,decide_eq_true_eq,decide_eq_true_eq] at h
    simp only at h
    omega
   simp only [hN]
   rw [nxL_no (Or.inl (by decide))]
   clear hN HB hbL HG HI hor hOn
   by_cases g1:r<0
   ·clear hbad
    go_enter Tryz.func101,Tryz.ntmps101
    go_wp2_with (go_at_call 96;go_must (refine(HC.out _ S0.out.ext).mono ?_;rintro e w1 ⟨rfl,hb⟩;have S1:=Lib.hid ((S0.out.call hb).al #[.int .i64 s,.int .i64 r,.int .i64 v] 136 w1.heap.size rfl);have S1':=Lib.hid (S0.out.call hb);obtain⟨y0,y1,y2,y3,yz⟩:=bkc0c1c2c3l (S1'.out.blk 0 rfl);obtain⟨b0,b1,b2,b3,bz⟩:=bkc0c1c2c3l (S1'.out.blk 1 rfl);obtain⟨a0,a4,az⟩:=bkc0c4l (S1'.out.blk 2 rfl);clear hb S1'))
    go_ret2
    exact⟨none,0,rfl,(S1.out.nilrow _ _).pick [0] (by decide) rfl⟩
   ·have f1:decide (r<0)=false:=by simpa using g1
    by_cases g2:1<r
    ·have f2:decide (1<r)=true:=by simpa using g2
     clear hbad
     go_enter Tryz.func101,Tryz.ntmps101
     go_wp2_with (go_at_call 96;go_must (refine(HC.out _ S0.out.ext).mono ?_;rintro e w1 ⟨rfl,hb⟩;have S1:=Lib.hid ((S0.out.call hb).al #[.int .i64 s,.int .i64 r,.int .i64 v] 136 w1.heap.size rfl);have S1':=Lib.hid (S0.out.call hb);obtain⟨y0,y1,y2,y3,yz⟩:=bkc0c1c2c3l (S1'.out.blk 0 rfl);obtain⟨b0,b1,b2,b3,bz⟩:=bkc0c1c2c3l (S1'.out.blk 1 rfl);obtain⟨a0,a4,az⟩:=bkc0c4l (S1'.out.blk 2 rfl);clear hb S1'))
     go_ret2
     exact⟨none,0,rfl,(S1.out.nilrow _ _).pick [0] (by decide) rfl⟩
    ·have f2:decide (1<r)=false:=by simpa using g2
     by_cases g3:v<0
     ·clear hbad
      go_enter Tryz.func101,Tryz.ntmps101
      go_wp2_with (go_at_call 96;go_must (refine(HC.out _ S0.out.ext).mono ?_;rintro e w1 ⟨rfl,hb⟩;have S1:=Lib.hid ((S0.out.call hb).al #[.int .i64 s,.int .i64 r,.int .i64 v] 136 w1.heap.size rfl);have S1':=Lib.hid (S0.out.call hb);obtain⟨y0,y1,y2,y3,yz⟩:=bkc0c1c2c3l (S1'.out.blk 0 rfl);obtain⟨b0,b1,b2,b3,bz⟩:=bkc0c1c2c3l (S1'.out.blk 1 rfl);obtain⟨a0,a4,az⟩:=bkc0c4l (S1'.out.blk 2 rfl);clear hb S1'))
      go_ret2
      exact⟨none,0,rfl,(S1.out.nilrow _ _).pick [0] (by decide) rfl⟩
     ·have f3:decide (v<0)=false:=by simpa using g3
      by_cases g4:(no:Int) - 1≤v
      ·have f4:decide ((no:Int) - 1≤v)=true:=by simpa using g4
       clear hbad
       go_enter Tryz.func101,Tryz.ntmps101
       go_wp2_with (go_at_call 96;go_must (refine(HC.out _ S0.out.ext).mono ?_;rintro e w1 ⟨rfl,hb⟩;have S1:=Lib.hid ((S0.out.call hb).al #[.int .i64 s,.int .i64 r,.int .i64 v] 136 w1.heap.size rfl);have S1':=Lib.hid (S0.out.call hb);obtain⟨y0,y1,y2,y3,yz⟩:=bkc0c1c2c3l (S1'.out.blk 0 rfl);obtain⟨b0,b1,b2,b3,bz⟩:=bkc0c1c2c3l (S1'.out.blk 1 rfl);obtain⟨a0,a4,az⟩:=bkc0c4l (S1'.out.blk 2 rfl);clear hb S1'))
       go_ret2
       exact⟨none,0,rfl,(S1.out.nilrow _ _).pick [0] (by decide) rfl⟩
      ·have f4:decide ((no:Int) - 1≤v)=false:=by simpa using g4
       by_cases g5:d<0
       ·clear hbad
        go_enter Tryz.func101,Tryz.ntmps101
        go_wp2_with (go_at_call 96;go_must (refine(HC.out _ S0.out.ext).mono ?_;rintro e w1 ⟨rfl,hb⟩;have S1:=Lib.hid ((S0.out.call hb).al #[.int .i64 s,.int .i64 r,.int .i64 v] 136 w1.heap.size rfl);have S1':=Lib.hid (S0.out.call hb);obtain⟨y0,y1,y2,y3,yz⟩:=bkc0c1c2c3l (S1'.out.blk 0 rfl);obtain⟨b0,b1,b2,b3,bz⟩:=bkc0c1c2c3l (S1'.out.blk 1 rfl);obtain⟨a0,a4,az⟩:=bkc0c4l (S1'.out.blk 2 rfl);clear hb S1'))
        go_ret2
        exact⟨none,0,rfl,(S1.out.nilrow _ _).pick [0] (by decide) rfl⟩
       ·have f5:decide (d<0)=false:=by simpa using g5
        have f6:decide (200<d)=true:=by simp;omega
        clear hbad
        go_enter Tryz.func101,Tryz.ntmps101
        go_wp2_with (go_at_call 96;go_must (refine(HC.out _ S0.out.ext).mono ?_;rintro e w1 ⟨rfl,hb⟩;have S1:=Lib.hid ((S0.out.call hb).al #[.int .i64 s,.int .i64 r,.int .i64 v] 136 w1.heap.size rfl);have S1':=Lib.hid (S0.out.call hb);obtain⟨y0,y1,y2,y3,yz⟩:=bkc0c1c2c3l (S1'.out.blk 0 rfl);obtain⟨b0,b1,b2,b3,bz⟩:=bkc0c1c2c3l (S1'.out.blk 1 rfl);obtain⟨a0,a4,az⟩:=bkc0c4l (S1'.out.blk 2 rfl);clear hb S1'))
        go_ret2
        exact⟨none,0,rfl,(S1.out.nilrow _ _).pick [0] (by decide) rfl⟩
  ·have f1:decide (r<0)=false:=by simp;omega
   have f2:decide (1<r)=false:=by simp;omega
   have f3:decide (v<0)=false:=by simp;omega
   have f4:decide ((no:Int) - 1≤v)=false:=by simp;omega
   have f5:decide (d<0)=false:=by simp;omega
   have f6:decide (200<d)=false:=by simp;omega
   have hN:nxC true (outB true (if r=1 then R else O) v) ⟨s,r,v,d⟩=0:=by
    refine nxC_0 ?_
    rw [HB.out,Bool.and_eq_true,decide_eq_true_eq,decide_eq_true_eq]
    simp only
    omega
   simp only [hN]
   by_cases h3:k=3∧rad≤d
   ·rw [nxL_no (Or.inr h3)]
    obtain⟨rfl,h3⟩:=h3
    clear hN HB hbL HG HI hor hOn hbad
    go_enter Tryz.func101,Tryz.ntmps101
    go_wp2_with (go_at_call 96;go_must (refine(HC.out _ S0.out.ext).mono ?_;rintro e w1 ⟨rfl,hb⟩;have S1:=Lib.hid ((S0.out.call hb).al #[.int .i64 s,.int .i64 r,.int .i64 v] 136 w1.heap.size rfl);have S1':=Lib.hid (S0.out.call hb);obtain⟨y0,y1,y2,y3,yz⟩:=bkc0c1c2c3l (S1'.out.blk 0 rfl);obtain⟨b0,b1,b2,b3,bz⟩:=bkc0c1c2c3l (S1'.out.blk 1 rfl);obtain⟨a0,a4,az⟩:=bkc0c4l (S1'.out.blk 2 rfl);clear hb S1'))
    go_ret2
    exact⟨none,0,rfl,(S1.out.nilrow _ _).pick [0] (by decide) rfl⟩
   ·rw [nxL_yes rfl h3,List.length_map]
    have H3:Hid (k=3→d<rad):=fun e=>Int.not_le.1 fun h=>h3 ⟨e,h⟩
    have hk3:(k == 3)=true∧decide (rad≤d)=false∨(k == 3)=false:=by
     by_cases e:k=3
     ·exact .inl ⟨by simpa using e,by simpa using H3.out e⟩
     ·exact .inr (by simpa using e)
    have hd0:0≤d:=by omega
    have hd1:d≤200:=by omega
    have hr01:r=0∨r=1:=by omega
    clear H3 h3 hN HB hor hOn hbad
    rcases hr01 with hr | hr
    ·simp only [show ¬ (r=1) from by omega,if_false]
     have e1:(r == 1)=false:=by rw [hr];rfl
     have HL:=Lib.hid hbL.1
     clear hbL HI hr
     generalize outL true O T v=L at *
     generalize outB true O v=ob at *
     rcases hk3 with ⟨k3,k4⟩ | k3
     ·obtain rfl:k=3:=by simpa using k3
      clear k3
      go_enter Tryz.func101,Tryz.ntmps101
      go_wp2_with (first | (go_at_call 163;go_must (refine(HG.out _ S1.out.ext).mono ?_;rintro e w2 ⟨q,c,rfl,Z⟩;have S2:=Lib.hid (S1.out.comp Z);clear y0 y1 y2 y3 yz b0 b1 b2 b3 bz a0 a4 az;obtain⟨y0,y1,y2,y3,yz⟩:=bkc0c1c2c3l (S2.out.blk 2 rfl);obtain⟨b0,b1,b2,b3,bz⟩:=bkc0c1c2c3l (S2.out.blk 3 rfl);obtain⟨a0,a4,az⟩:=bkc0c4l (S2.out.blk 4 rfl);obtain⟨e0,e1,e2,ez⟩:=bkc0c1c2l (S2.out.blk 1 rfl);clear Z)) | (go_at_call 96;go_must (refine(HC.out _ S0.out.ext).mono ?_;rintro e w1 ⟨rfl,hb⟩;have S1:=Lib.hid ((S0.out.call hb).al #[.int .i64 s,.int .i64 r,.int .i64 v] 136 w1.heap.size rfl);have S1':=Lib.hid (S0.out.call hb);obtain⟨y0,y1,y2,y3,yz⟩:=bkc0c1c2c3l (S1'.out.blk 0 rfl);obtain⟨b0,b1,b2,b3,bz⟩:=bkc0c1c2c3l (S1'.out.blk 1 rfl);obtain⟨a0,a4,az⟩:=bkc0c4l (S1'.out.blk 2 rfl);clear hb S1')))
      have S9:=Lib.hid ((S2.out.nilrow 138 4).pick [0,1,2,3] (by decide) rfl:Sep w _ [.own 138 4 none 0 0 [],.own 3 1 q L.length c (encI L),.blk w1.heap.size 136 #[.int .i64 s,.int .i64 r,.int .i64 v],.blk (w.heap.size+1+1) 146 #[.int .i64 s,.int .i64 r,.int .i64 v,.int .i64 d]])
      clear S0 S1 S2 HC HG
      go_loopw [13,14] (fun m i wr=>∃ (j:Nat) (q':Option Addr) (c':Nat),j≤L.length∧i=.int .i64 j∧m=.slice q' j c'∧Sep w wr [.own 138 4 q' j c' (encQ ((L.take j).map fun v=>(⟨s,r,v,d+1⟩:Sq))),.own 3 1 q L.length c (encI L),.blk w1.heap.size 136 #[.int .i64 s,.int .i64 r,.int .i64 v],.blk (w.heap.size+1+1) 146 #[.int .i64 s,.int .i64 r,.int .i64 v,.int .i64 d]]) (fun _ i _=>L.length - (intOf i).toNat)
      case atStart=>exact⟨0,none,0,Nat.zero_le _,rfl,rfl,S9.out⟩
      case round =>
       clear S9
       obtain⟨j,q',c',hj,rfl,rfl,S⟩:=hrel
       by_cases hlt:j<L.length
       ·have g1:=(S.rdx 1 rfl).cI hlt
        have pq:=(S.rdx 1 rfl).ptr
        have pn:=(S.rdx 1 rfl).small
        have HT:=Lib.hid (take_succ_nth L j hlt)
        have HCU:Hid (∀ W,Rd W 1 q L.length (encI L)→W.cell? (adr q j)=some (.int .i64 (nth L j))):=fun W hr=>hr.cI hlt
        have d1:(0:Int)≤j:=by omega
        have d2:(j:Int)<L.length:=by omega
        have hl:=HL.out
        have hwd:IntKind.i64.wrap (d+1)=d+1:=IntWalk.i64_in _ (by omega)
        have SH:=Lib.hid S;clear S
        generalize nth L j=u at *
        clear g1
        go_wp2
        have k1:wr.cell? ⟨w1.heap.size,0,none⟩=some (.int .i64 s):=(SH.out.blk 2 rfl).cell 0
        have k2:wr.cell? ⟨w1.heap.size,1,none⟩=some (.int .i64 r):=(SH.out.blk 2 rfl).cell 1
        have k3:=HCU.out _ (SH.out.rdx 1 rfl)
        have k4:wr.cell? ⟨w.heap.size+1+1,3,none⟩=some (.int .i64 d):=(SH.out.blk 3 rfl).cell 3
        refine wp_region_noPanic ?_
        refine wp_region_held_drew (S:=fun w'=>w'.cell? ⟨w1.heap.size,0,none⟩=some (.int .i64 s)∧w'.cell? ⟨w1.heap.size,1,none⟩=some (.int .i64 r)∧w'.cell? (adr q j)=some (.int .i64 u)∧w'.cell? ⟨w.heap.size+1+1,3,none⟩=some (.int .i64 d)) (by kernel_rfl) ⟨k1,k2,k3,k4⟩ (fun hHeld=>?_)
        clear k1 k2 k3 k4
        have SD:=Lib.hid SH.out.drew
        clear SH
        generalize wr.drew=D at SD hHeld ⊢
        refine wpAnyH_take (i:=0) (v:=.slice q' j c') rfl (by kernel_rfl) (by kernel_rfl) (by kernel_rfl) (noPanic_q _ _) (Or.inl ⟨by kernel_rfl,fun W hSw=>by obtain⟨h1,h2,h3,h4⟩:=hSw;go_simp⟩) hHeld ?_
        refine wpAnyH_take (i:=1) (v:=.pointer (some ⟨w1.heap.size,0,none⟩)) rfl (by kernel_rfl) (by kernel_rfl) (by kernel_rfl) (noPanic_q _ _) (Or.inl ⟨by kernel_rfl,fun W hSw=>by obtain⟨h1,h2,h3,h4⟩:=hSw;go_simp⟩) hHeld ?_
        refine wpAnyH_take (i:=2) (v:=.int .i64 s) rfl (by kernel_rfl) (by kernel_rfl) (by kernel_rfl) (noPanic_q _ _) (Or.inl ⟨by kernel_rfl,fun W hSw=>by obtain⟨h1,h2,h3,h4⟩:=hSw;go_simp⟩) hHeld ?_
        refine wpAnyH_take (i:=3) (v:=.pointer (some ⟨w1.heap.size,1,none⟩)) rfl (by kernel_rfl) (by kernel_rfl) (by kernel_rfl) (noPanic_q _ _) (Or.inl ⟨by kernel_rfl,fun W hSw=>by obtain⟨h1,h2,h3,h4⟩:=hSw;go_simp⟩) hHeld ?_
        refine wpAnyH_take (i:=4) (v:=.int .i64 r) rfl (by kernel_rfl) (by kernel_rfl) (by kernel_rfl) (noPanic_q _ _) (Or.inl ⟨by kernel_rfl,fun W hSw=>by obtain⟨h1,h2,h3,h4⟩:=hSw;go_simp⟩) hHeld ?_
        refine wpAnyH_take (i:=5) (v:=.slice q L.length c) rfl (by kernel_rfl) (by kernel_rfl) (by kernel_rfl) (noPanic_q _ _) (Or.inl ⟨by kernel_rfl,fun W hSw=>by obtain⟨h1,h2,h3,h4⟩:=hSw;go_simp⟩) hHeld ?_
        refine wpAnyH_take (i:=6) (v:=.int .i64 (j:Int)) rfl (by kernel_rfl) (by kernel_rfl) (by kernel_rfl) (noPanic_q _ _) (Or.inl ⟨by kernel_rfl,fun W hSw=>by obtain⟨h1,h2,h3,h4⟩:=hSw;go_simp⟩) hHeld ?_
        refine wpAnyH_take (i:=7) (v:=.pointer (some (adr q j))) rfl (by kernel_rfl) (by kernel_rfl) (by kernel_rfl) (noPanic_q _ _) (Or.inl ⟨by kernel_rfl,fun W hSw=>by obtain⟨h1,h2,h3,h4⟩:=hSw;go_simp⟩) hHeld ?_
        refine wpAnyH_take (i:=8) (v:=.int .i64 u) rfl (by kernel_rfl) (by kernel_rfl) (by kernel_rfl) (noPanic_q _ _) (Or.inl ⟨by kernel_rfl,fun W hSw=>by obtain⟨h1,h2,h3,h4⟩:=hSw;go_simp⟩) hHeld ?_
        refine wpAnyH_take (i:=9) (v:=.agg #[.int .i64 s,.int .i64 r,.int .i64 u]) rfl (by kernel_rfl) (by kernel_rfl) (by kernel_rfl) (noPanic_q _ _) (Or.inl ⟨by kernel_rfl,fun W hSw=>by obtain⟨h1,h2,h3,h4⟩:=hSw;go_simp⟩) hHeld ?_
        refine wpAnyH_take (i:=10) (v:=.pointer (some ⟨w.heap.size+1+1,3,none⟩)) rfl (by kernel_rfl) (by kernel_rfl) (by kernel_rfl) (noPanic_q _ _) (Or.inl ⟨by kernel_rfl,fun W hSw=>by obtain⟨h1,h2,h3,h4⟩:=hSw;go_simp⟩) hHeld ?_
        refine wpAnyH_take (i:=11) (v:=.int .i64 d) rfl (by kernel_rfl) (by kernel_rfl) (by kernel_rfl) (noPanic_q _ _) (Or.inl ⟨by kernel_rfl,fun W hSw=>by obtain⟨h1,h2,h3,h4⟩:=hSw;go_simp⟩) hHeld ?_
        refine wpAnyH_take (i:=12) (v:=.int .i64 (d+1)) rfl (by kernel_rfl) (by kernel_rfl) (by kernel_rfl) (noPanic_q _ _) (Or.inl ⟨by kernel_rfl,fun W hSw=>by obtain⟨h1,h2,h3,h4⟩:=hSw;go_simp⟩) hHeld ?_
        refine wpAnyH_take (i:=13) (v:=.agg #[.int .i64 s,.int .i64 r,.int .i64 u,.int .i64 (d+1)]) rfl (by kernel_rfl) (by kernel_rfl) (by kernel_rfl) (noPanic_q _ _) (Or.inl ⟨by kernel_rfl,fun W hSw=>by obtain⟨h1,h2,h3,h4⟩:=hSw;go_simp⟩) hHeld ?_
        have SA:=Lib.hid (SD.out.alrw #[.int .i64 s,.int .i64 r,.int .i64 u,.int .i64 (d+1)] 138 4 1 D.heap.size rfl (by decide) rfl)
        obtain⟨q7,c7,w7,hrun,S'⟩:=SA.out.appended 1 83 83 138 i0 _ 4 32 Tryz.underlying83 hi0 hz0 hz1 hz2 rfl (by omega) q' j c' (encQ ((L.take j).map fun v=>(⟨s,r,v,d+1⟩:Sq))) rfl (some ⟨D.heap.size,0,none⟩) 1 1 (encQ [⟨s,r,u,d+1⟩]) (SA.out.rdx 0 rfl) (one_encQ _) (by omega) (by omega)
        have S7:=Lib.hid S'
        refine wpAnyH_ready (rs:=[14]) (by kernel_rfl) (by simp) (AllReadyH.cons rfl (fun K hK=>?_) AllReadyH.nil)
        go_simp
        refine hK.out _ _ ⟨(SA.out.blk 3 rfl).cell 0,(SA.out.blk 3 rfl).cell 1,HCU.out _ (SA.out.rdx 2 rfl),(SA.out.blk 4 rfl).cell 3⟩ (fun hHeld=>?_)
        clear hK
        refine wpAnyH_ready (rs:=[15]) (by kernel_rfl) (by simp) (AllReadyH.cons rfl (fun K hK=>?_) AllReadyH.nil)
        rw [if_pos (by rfl)]
        refine operwp_append (.tmp 86) (.tmp 100) 83 (by rfl) (by rfl) (by rfl) hrun ?_
        refine hK.out _ _ ⟨(S7.out.blk 3 rfl).cell 0,(S7.out.blk 3 rfl).cell 1,HCU.out _ (S7.out.rdx 2 rfl),(S7.out.blk 4 rfl).cell 3⟩ (fun hHeld=>?_)
        clear hK
        refine wpAnyH_take (i:=16) (v:=.slice q7 (j+1) c7) rfl (by kernel_rfl) (by kernel_rfl) (by kernel_rfl) (noPanic_q _ _) (Or.inl ⟨by kernel_rfl,fun W hSw=>by obtain⟨h1,h2,h3,h4⟩:=hSw;go_simp⟩) hHeld ?_
        refine wpAnyH_done (by kernel_rfl) ?_ _
        refine noPanic_mk ?_
        clear hHeld hrun S'
        try simp [Act.put]
        go_wp2
        go_roundw
        case rel=>exact⟨j+1,q7,c7,by omega,by go_num,rfl,by rw [HT.out,List.map_append,encQ_append];exact S7.out.pick [1,2,3,4] (by decide) rfl⟩
        case measure=>simp [intOf];omega
       ·obtain rfl:j=L.length:=by omega
        rw [List.take_length] at S
        have SH:=Lib.hid S;clear S
        go_wp2
        go_ret2
        exact⟨q',c',rfl,SH.out.pick [0] (by decide) rfl⟩
     ·go_enter Tryz.func101,Tryz.ntmps101
      go_wp2_with (first | (go_at_call 163;go_must (refine(HG.out _ S1.out.ext).mono ?_;rintro e w2 ⟨q,c,rfl,Z⟩;have S2:=Lib.hid (S1.out.comp Z);clear y0 y1 y2 y3 yz b0 b1 b2 b3 bz a0 a4 az;obtain⟨y0,y1,y2,y3,yz⟩:=bkc0c1c2c3l (S2.out.blk 2 rfl);obtain⟨b0,b1,b2,b3,bz⟩:=bkc0c1c2c3l (S2.out.blk 3 rfl);obtain⟨a0,a4,az⟩:=bkc0c4l (S2.out.blk 4 rfl);obtain⟨e0,e1,e2,ez⟩:=bkc0c1c2l (S2.out.blk 1 rfl);clear Z)) | (go_at_call 96;go_must (refine(HC.out _ S0.out.ext).mono ?_;rintro e w1 ⟨rfl,hb⟩;have S1:=Lib.hid ((S0.out.call hb).al #[.int .i64 s,.int .i64 r,.int .i64 v] 136 w1.heap.size rfl);have S1':=Lib.hid (S0.out.call hb);obtain⟨y0,y1,y2,y3,yz⟩:=bkc0c1c2c3l (S1'.out.blk 0 rfl);obtain⟨b0,b1,b2,b3,bz⟩:=bkc0c1c2c3l (S1'.out.blk 1 rfl);obtain⟨a0,a4,az⟩:=bkc0c4l (S1'.out.blk 2 rfl);clear hb S1')))
      have S9:=Lib.hid ((S2.out.nilrow 138 4).pick [0,1,2,3] (by decide) rfl:Sep w _ [.own 138 4 none 0 0 [],.own 3 1 q L.length c (encI L),.blk w1.heap.size 136 #[.int .i64 s,.int .i64 r,.int .i64 v],.blk (w.heap.size+1+1) 146 #[.int .i64 s,.int .i64 r,.int .i64 v,.int .i64 d]])
      clear S0 S1 S2 HC HG
      go_loopw [13,14] (fun m i wr=>∃ (j:Nat) (q':Option Addr) (c':Nat),j≤L.length∧i=.int .i64 j∧m=.slice q' j c'∧Sep w wr [.own 138 4 q' j c' (encQ ((L.take j).map fun v=>(⟨s,r,v,d+1⟩:Sq))),.own 3 1 q L.length c (encI L),.blk w1.heap.size 136 #[.int .i64 s,.int .i64 r,.int .i64 v],.blk (w.heap.size+1+1) 146 #[.int .i64 s,.int .i64 r,.int .i64 v,.int .i64 d]]) (fun _ i _=>L.length - (intOf i).toNat)
      case atStart=>exact⟨0,none,0,Nat.zero_le _,rfl,rfl,S9.out⟩
      case round =>
       clear S9
       obtain⟨j,q',c',hj,rfl,rfl,S⟩:=hrel
       by_cases hlt:j<L.length
       ·have g1:=(S.rdx 1 rfl).cI hlt
        have pq:=(S.rdx 1 rfl).ptr
        have pn:=(S.rdx 1 rfl).small
        have HT:=Lib.hid (take_succ_nth L j hlt)
        have HCU:Hid (∀ W,Rd W 1 q L.length (encI L)→W.cell? (adr q j)=some (.int .i64 (nth L j))):=fun W hr=>hr.cI hlt
        have d1:(0:Int)≤j:=by omega
        have d2:(j:Int)<L.length:=by omega
        have hl:=HL.out
        have hwd:IntKind.i64.wrap (d+1)=d+1:=IntWalk.i64_in _ (by omega)
        have SH:=Lib.hid S;clear S
        generalize nth L j=u at *
        clear g1
        go_wp2
        have k1:wr.cell? ⟨w1.heap.size,0,none⟩=some (.int .i64 s):=(SH.out.blk 2 rfl).cell 0
        have k2:wr.cell? ⟨w1.heap.size,1,none⟩=some (.int .i64 r):=(SH.out.blk 2 rfl).cell 1
        have k3:=HCU.out _ (SH.out.rdx 1 rfl)
        have k4:wr.cell? ⟨w.heap.size+1+1,3,none⟩=some (.int .i64 d):=(SH.out.blk 3 rfl).cell 3
        refine wp_region_noPanic ?_
        refine wp_region_held_drew (S:=fun w'=>w'.cell? ⟨w1.heap.size,0,none⟩=some (.int .i64 s)∧w'.cell? ⟨w1.heap.size,1,none⟩=some (.int .i64 r)∧w'.cell? (adr q j)=some (.int .i64 u)∧w'.cell? ⟨w.heap.size+1+1,3,none⟩=some (.int .i64 d)) (by kernel_rfl) ⟨k1,k2,k3,k4⟩ (fun hHeld=>?_)
        clear k1 k2 k3 k4
        have SD:=Lib.hid SH.out.drew
        clear SH
        generalize wr.drew=D at SD hHeld ⊢
        refine wpAnyH_take (i:=0) (v:=.slice q' j c') rfl (by kernel_rfl) (by kernel_rfl) (by kernel_rfl) (noPanic_q _ _) (Or.inl ⟨by kernel_rfl,fun W hSw=>by obtain⟨h1,h2,h3,h4⟩:=hSw;go_simp⟩) hHeld ?_
        refine wpAnyH_take (i:=1) (v:=.pointer (some ⟨w1.heap.size,0,none⟩)) rfl (by kernel_rfl) (by kernel_rfl) (by kernel_rfl) (noPanic_q _ _) (Or.inl ⟨by kernel_rfl,fun W hSw=>by obtain⟨h1,h2,h3,h4⟩:=hSw;go_simp⟩) hHeld ?_
        refine wpAnyH_take (i:=2) (v:=.int .i64 s) rfl (by kernel_rfl) (by kernel_rfl) (by kernel_rfl) (noPanic_q _ _) (Or.inl ⟨by kernel_rfl,fun W hSw=>by obtain⟨h1,h2,h3,h4⟩:=hSw;go_simp⟩) hHeld ?_
        refine wpAnyH_take (i:=3) (v:=.pointer (some ⟨w1.heap.size,1,none⟩)) rfl (by kernel_rfl) (by kernel_rfl) (by kernel_rfl) (noPanic_q _ _) (Or.inl ⟨by kernel_rfl,fun W hSw=>by obtain⟨h1,h2,h3,h4⟩:=hSw;go_simp⟩) hHeld ?_
        refine wpAnyH_take (i:=4) (v:=.int .i64 r) rfl (by kernel_rfl) (by kernel_rfl) (by kernel_rfl) (noPanic_q _ _) (Or.inl ⟨by kernel_rfl,fun W hSw=>by obtain⟨h1,h2,h3,h4⟩:=hSw;go_simp⟩) hHeld ?_
        refine wpAnyH_take (i:=5) (v:=.slice q L.length c) rfl (by kernel_rfl) (by kernel_rfl) (by kernel_rfl) (noPanic_q _ _) (Or.inl ⟨by kernel_rfl,fun W hSw=>by obtain⟨h1,h2,h3,h4⟩:=hSw;go_simp⟩) hHeld ?_
        refine wpAnyH_take (i:=6) (v:=.int .i64 (j:Int)) rfl (by kernel_rfl) (by kernel_rfl) (by kernel_rfl) (noPanic_q _ _) (Or.inl ⟨by kernel_rfl,fun W hSw=>by obtain⟨h1,h2,h3,h4⟩:=hSw;go_simp⟩) hHeld ?_
        refine wpAnyH_take (i:=7) (v:=.pointer (some (adr q j))) rfl (by kernel_rfl) (by kernel_rfl) (by kernel_rfl) (noPanic_q _ _) (Or.inl ⟨by kernel_rfl,fun W hSw=>by obtain⟨h1,h2,h3,h4⟩:=hSw;go_simp⟩) hHeld ?_
        refine wpAnyH_take (i:=8) (v:=.int .i64 u) rfl (by kernel_rfl) (by kernel_rfl) (by kernel_rfl) (noPanic_q _ _) (Or.inl ⟨by kernel_rfl,fun W hSw=>by obtain⟨h1,h2,h3,h4⟩:=hSw;go_simp⟩) hHeld ?_
        refine wpAnyH_take (i:=9) (v:=.agg #[.int .i64 s,.int .i64 r,.int .i64 u]) rfl (by kernel_rfl) (by kernel_rfl) (by kernel_rfl) (noPanic_q _ _) (Or.inl ⟨by kernel_rfl,fun W hSw=>by obtain⟨h1,h2,h3,h4⟩:=hSw;go_simp⟩) hHeld ?_
        refine wpAnyH_take (i:=10) (v:=.pointer (some ⟨w.heap.size+1+1,3,none⟩)) rfl (by kernel_rfl) (by kernel_rfl) (by kernel_rfl) (noPanic_q _ _) (Or.inl ⟨by kernel_rfl,fun W hSw=>by obtain⟨h1,h2,h3,h4⟩:=hSw;go_simp⟩) hHeld ?_
        refine wpAnyH_take (i:=11) (v:=.int .i64 d) rfl (by kernel_rfl) (by kernel_rfl) (by kernel_rfl) (noPanic_q _ _) (Or.inl ⟨by kernel_rfl,fun W hSw=>by obtain⟨h1,h2,h3,h4⟩:=hSw;go_simp⟩) hHeld ?_
        refine wpAnyH_take (i:=12) (v:=.int .i64 (d+1)) rfl (by kernel_rfl) (by kernel_rfl) (by kernel_rfl) (noPanic_q _ _) (Or.inl ⟨by kernel_rfl,fun W hSw=>by obtain⟨h1,h2,h3,h4⟩:=hSw;go_simp⟩) hHeld ?_
        refine wpAnyH_take (i:=13) (v:=.agg #[.int .i64 s,.int .i64 r,.int .i64 u,.int .i64 (d+1)]) rfl (by kernel_rfl) (by kernel_rfl) (by kernel_rfl) (noPanic_q _ _) (Or.inl ⟨by kernel_rfl,fun W hSw=>by obtain⟨h1,h2,h3,h4⟩:=hSw;go_simp⟩) hHeld ?_
        have SA:=Lib.hid (SD.out.alrw #[.int .i64 s,.int .i64 r,.int .i64 u,.int .i64 (d+1)] 138 4 1 D.heap.size rfl (by decide) rfl)
        obtain⟨q7,c7,w7,hrun,S'⟩:=SA.out.appended 1 83 83 138 i0 _ 4 32 Tryz.underlying83 hi0 hz0 hz1 hz2 rfl (by omega) q' j c' (encQ ((L.take j).map fun v=>(⟨s,r,v,d+1⟩:Sq))) rfl (some ⟨D.heap.size,0,none⟩) 1 1 (encQ [⟨s,r,u,d+1⟩]) (SA.out.rdx 0 rfl) (one_encQ _) (by omega) (by omega)
        have S7:=Lib.hid S'
        refine wpAnyH_ready (rs:=[14]) (by kernel_rfl) (by simp) (AllReadyH.cons rfl (fun K hK=>?_) AllReadyH.nil)
        go_simp
        refine hK.out _ _ ⟨(SA.out.blk 3 rfl).cell 0,(SA.out.blk 3 rfl).cell 1,HCU.out _ (SA.out.rdx 2 rfl),(SA.out.blk 4 rfl).cell 3⟩ (fun hHeld=>?_)
        clear hK
        refine wpAnyH_ready (rs:=[15]) (by kernel_rfl) (by simp) (AllReadyH.cons rfl (fun K hK=>?_) AllReadyH.nil)
        rw [if_pos (by rfl)]
        refine operwp_append (.tmp 86) (.tmp 100) 83 (by rfl) (by rfl) (by rfl) hrun ?_
        refine hK.out _ _ ⟨(S7.out.blk 3 rfl).cell 0,(S7.out.blk 3 rfl).cell 1,HCU.out _ (S7.out.rdx 2 rfl),(S7.out.blk 4 rfl).cell 3⟩ (fun hHeld=>?_)
        clear hK
        refine wpAnyH_take (i:=16) (v:=.slice q7 (j+1) c7) rfl (by kernel_rfl) (by kernel_rfl) (by kernel_rfl) (noPanic_q _ _) (Or.inl ⟨by kernel_rfl,fun W hSw=>by obtain⟨h1,h2,h3,h4⟩:=hSw;go_simp⟩) hHeld ?_
        refine wpAnyH_done (by kernel_rfl) ?_ _
        refine noPanic_mk ?_
        clear hHeld hrun S'
        try simp [Act.put]
        go_wp2
        go_roundw
        case rel=>exact⟨j+1,q7,c7,by omega,by go_num,rfl,by rw [HT.out,List.map_append,encQ_append];exact S7.out.pick [1,2,3,4] (by decide) rfl⟩
        case measure=>simp [intOf];omega
       ·obtain rfl:j=L.length:=by omega
        rw [List.take_length] at S
        have SH:=Lib.hid S;clear S
        go_wp2
        go_ret2
        exact⟨q',c',rfl,SH.out.pick [0] (by decide) rfl⟩
    ·simp only [if_pos hr]
     have e1:(r == 1)=true:=by rw [hr];rfl
     have HL:=Lib.hid hbL.2
     clear hbL hr
     generalize outL true R V v=L at *
     generalize outB true R v=ob at *
     generalize outL true O T v=L0 at *
     generalize outB true O v=ob0 at *
     rcases hk3 with ⟨k3,k4⟩ | k3
     ·obtain rfl:k=3:=by simpa using k3
      clear k3
      go_enter Tryz.func101,Tryz.ntmps101
      go_wp2_with (first | (go_at_call 164;have _t:=S2;go_must (refine(HI.out _ S2.out.ext).mono ?_;rintro e w3 ⟨q1,c1,rfl,Z⟩;have S3:=Lib.hid (S2.out.comp Z);clear y0 y1 y2 y3 yz b0 b1 b2 b3 bz a0 a4 az;clear Z e0 e1 e2 ez)) | (go_at_call 163;go_must (refine(HG.out _ S1.out.ext).mono ?_;rintro e w2 ⟨q,c,rfl,Z⟩;have S2:=Lib.hid (S1.out.comp Z);clear y0 y1 y2 y3 yz b0 b1 b2 b3 bz a0 a4 az;obtain⟨y0,y1,y2,y3,yz⟩:=bkc0c1c2c3l (S2.out.blk 2 rfl);obtain⟨b0,b1,b2,b3,bz⟩:=bkc0c1c2c3l (S2.out.blk 3 rfl);obtain⟨a0,a4,az⟩:=bkc0c4l (S2.out.blk 4 rfl);obtain⟨e0,e1,e2,ez⟩:=bkc0c1c2l (S2.out.blk 1 rfl);clear Z)) | (go_at_call 96;go_must (refine(HC.out _ S0.out.ext).mono ?_;rintro e w1 ⟨rfl,hb⟩;have S1:=Lib.hid ((S0.out.call hb).al #[.int .i64 s,.int .i64 r,.int .i64 v] 136 w1.heap.size rfl);have S1':=Lib.hid (S0.out.call hb);obtain⟨y0,y1,y2,y3,yz⟩:=bkc0c1c2c3l (S1'.out.blk 0 rfl);obtain⟨b0,b1,b2,b3,bz⟩:=bkc0c1c2c3l (S1'.out.blk 1 rfl);obtain⟨a0,a4,az⟩:=bkc0c4l (S1'.out.blk 2 rfl);clear hb S1')))
      have S9:=Lib.hid ((S3.out.nilrow 138 4).pick [0,1,3,4] (by decide) rfl:Sep w _ [.own 138 4 none 0 0 [],.own 3 1 q1 L.length c1 (encI L),.blk w1.heap.size 136 #[.int .i64 s,.int .i64 r,.int .i64 v],.blk (w.heap.size+1+1) 146 #[.int .i64 s,.int .i64 r,.int .i64 v,.int .i64 d]])
      clear S0 S1 S2 HC HG
      go_loopw [13,14] (fun m i wr=>∃ (j:Nat) (q':Option Addr) (c':Nat),j≤L.length∧i=.int .i64 j∧m=.slice q' j c'∧Sep w wr [.own 138 4 q' j c' (encQ ((L.take j).map fun v=>(⟨s,r,v,d+1⟩:Sq))),.own 3 1 q1 L.length c1 (encI L),.blk w1.heap.size 136 #[.int .i64 s,.int .i64 r,.int .i64 v],.blk (w.heap.size+1+1) 146 #[.int .i64 s,.int .i64 r,.int .i64 v,.int .i64 d]]) (fun _ i _=>L.length - (intOf i).toNat)
      case atStart=>exact⟨0,none,0,Nat.zero_le _,rfl,rfl,S9.out⟩
      case round =>
       clear S9
       obtain⟨j,q',c',hj,rfl,rfl,S⟩:=hrel
       by_cases hlt:j<L.length
       ·have g1:=(S.rdx 1 rfl).cI hlt
        have pq:=(S.rdx 1 rfl).ptr
        have pn:=(S.rdx 1 rfl).small
        have HT:=Lib.hid (take_succ_nth L j hlt)
        have HCU:Hid (∀ W,Rd W 1 q1 L.length (encI L)→W.cell? (adr q1 j)=some (.int .i64 (nth L j))):=fun W hr=>hr.cI hlt
        have d1:(0:Int)≤j:=by omega
        have d2:(j:Int)<L.length:=by omega
        have hl:=HL.out
        have hwd:IntKind.i64.wrap (d+1)=d+1:=IntWalk.i64_in _ (by omega)
        have SH:=Lib.hid S;clear S
        generalize nth L j=u at *
        clear g1
        go_wp2
        have k1:wr.cell? ⟨w1.heap.size,0,none⟩=some (.int .i64 s):=(SH.out.blk 2 rfl).cell 0
        have k2:wr.cell? ⟨w1.heap.size,1,none⟩=some (.int .i64 r):=(SH.out.blk 2 rfl).cell 1
        have k3:=HCU.out _ (SH.out.rdx 1 rfl)
        have k4:wr.cell? ⟨w.heap.size+1+1,3,none⟩=some (.int .i64 d):=(SH.out.blk 3 rfl).cell 3
        refine wp_region_noPanic ?_
        refine wp_region_held_drew (S:=fun w'=>w'.cell? ⟨w1.heap.size,0,none⟩=some (.int .i64 s)∧w'.cell? ⟨w1.heap.size,1,none⟩=some (.int .i64 r)∧w'.cell? (adr q1 j)=some (.int .i64 u)∧w'.cell? ⟨w.heap.size+1+1,3,none⟩=some (.int .i64 d)) (by kernel_rfl) ⟨k1,k2,k3,k4⟩ (fun hHeld=>?_)
        clear k1 k2 k3 k4
        have SD:=Lib.hid SH.out.drew
        clear SH
        generalize wr.drew=D at SD hHeld ⊢
        refine wpAnyH_take (i:=0) (v:=.slice q' j c') rfl (by kernel_rfl) (by kernel_rfl) (by kernel_rfl) (noPanic_q _ _) (Or.inl ⟨by kernel_rfl,fun W hSw=>by obtain⟨h1,h2,h3,h4⟩:=hSw;go_simp⟩) hHeld ?_
        refine wpAnyH_take (i:=1) (v:=.pointer (some ⟨w1.heap.size,0,none⟩)) rfl (by kernel_rfl) (by kernel_rfl) (by kernel_rfl) (noPanic_q _ _) (Or.inl ⟨by kernel_rfl,fun W hSw=>by obtain⟨h1,h2,h3,h4⟩:=hSw;go_simp⟩) hHeld ?_
        refine wpAnyH_take (i:=2) (v:=.int .i64 s) rfl (by kernel_rfl) (by kernel_rfl) (by kernel_rfl) (noPanic_q _ _) (Or.inl ⟨by kernel_rfl,fun W hSw=>by obtain⟨h1,h2,h3,h4⟩:=hSw;go_simp⟩) hHeld ?_
        refine wpAnyH_take (i:=3) (v:=.pointer (some ⟨w1.heap.size,1,none⟩)) rfl (by kernel_rfl) (by kernel_rfl) (by kernel_rfl) (noPanic_q _ _) (Or.inl ⟨by kernel_rfl,fun W hSw=>by obtain⟨h1,h2,h3,h4⟩:=hSw;go_simp⟩) hHeld ?_
        refine wpAnyH_take (i:=4) (v:=.int .i64 r) rfl (by kernel_rfl) (by kernel_rfl) (by kernel_rfl) (noPanic_q _ _) (Or.inl ⟨by kernel_rfl,fun W hSw=>by obtain⟨h1,h2,h3,h4⟩:=hSw;go_simp⟩) hHeld ?_
        refine wpAnyH_take (i:=5) (v:=.slice q1 L.length c1) rfl (by kernel_rfl) (by kernel_rfl) (by kernel_rfl) (noPanic_q _ _) (Or.inl ⟨by kernel_rfl,fun W hSw=>by obtain⟨h1,h2,h3,h4⟩:=hSw;go_simp⟩) hHeld ?_
        refine wpAnyH_take (i:=6) (v:=.int .i64 (j:Int)) rfl (by kernel_rfl) (by kernel_rfl) (by kernel_rfl) (noPanic_q _ _) (Or.inl ⟨by kernel_rfl,fun W hSw=>by obtain⟨h1,h2,h3,h4⟩:=hSw;go_simp⟩) hHeld ?_
        refine wpAnyH_take (i:=7) (v:=.pointer (some (adr q1 j))) rfl (by kernel_rfl) (by kernel_rfl) (by kernel_rfl) (noPanic_q _ _) (Or.inl ⟨by kernel_rfl,fun W hSw=>by obtain⟨h1,h2,h3,h4⟩:=hSw;go_simp⟩) hHeld ?_
        refine wpAnyH_take (i:=8) (v:=.int .i64 u) rfl (by kernel_rfl) (by kernel_rfl) (by kernel_rfl) (noPanic_q _ _) (Or.inl ⟨by kernel_rfl,fun W hSw=>by obtain⟨h1,h2,h3,h4⟩:=hSw;go_simp⟩) hHeld ?_
        refine wpAnyH_take (i:=9) (v:=.agg #[.int .i64 s,.int .i64 r,.int .i64 u]) rfl (by kernel_rfl) (by kernel_rfl) (by kernel_rfl) (noPanic_q _ _) (Or.inl ⟨by kernel_rfl,fun W hSw=>by obtain⟨h1,h2,h3,h4⟩:=hSw;go_simp⟩) hHeld ?_
        refine wpAnyH_take (i:=10) (v:=.pointer (some ⟨w.heap.size+1+1,3,none⟩)) rfl (by kernel_rfl) (by kernel_rfl) (by kernel_rfl) (noPanic_q _ _) (Or.inl ⟨by kernel_rfl,fun W hSw=>by obtain⟨h1,h2,h3,h4⟩:=hSw;go_simp⟩) hHeld ?_
        refine wpAnyH_take (i:=11) (v:=.int .i64 d) rfl (by kernel_rfl) (by kernel_rfl) (by kernel_rfl) (noPanic_q _ _) (Or.inl ⟨by kernel_rfl,fun W hSw=>by obtain⟨h1,h2,h3,h4⟩:=hSw;go_simp⟩) hHeld ?_
        refine wpAnyH_take (i:=12) (v:=.int .i64 (d+1)) rfl (by kernel_rfl) (by kernel_rfl) (by kernel_rfl) (noPanic_q _ _) (Or.inl ⟨by kernel_rfl,fun W hSw=>by obtain⟨h1,h2,h3,h4⟩:=hSw;go_simp⟩) hHeld ?_
        refine wpAnyH_take (i:=13) (v:=.agg #[.int .i64 s,.int .i64 r,.int .i64 u,.int .i64 (d+1)]) rfl (by kernel_rfl) (by kernel_rfl) (by kernel_rfl) (noPanic_q _ _) (Or.inl ⟨by kernel_rfl,fun W hSw=>by obtain⟨h1,h2,h3,h4⟩:=hSw;go_simp⟩) hHeld ?_
        have SA:=Lib.hid (SD.out.alrw #[.int .i64 s,.int .i64 r,.int .i64 u,.int .i64 (d+1)] 138 4 1 D.heap.size rfl (by decide) rfl)
        obtain⟨q7,c7,w7,hrun,S'⟩:=SA.out.appended 1 83 83 138 i0 _ 4 32 Tryz.underlying83 hi0 hz0 hz1 hz2 rfl (by omega) q' j c' (encQ ((L.take j).map fun v=>(⟨s,r,v,d+1⟩:Sq))) rfl (some ⟨D.heap.size,0,none⟩) 1 1 (encQ [⟨s,r,u,d+1⟩]) (SA.out.rdx 0 rfl) (one_encQ _) (by omega) (by omega)
        have S7:=Lib.hid S'
        refine wpAnyH_ready (rs:=[14]) (by kernel_rfl) (by simp) (AllReadyH.cons rfl (fun K hK=>?_) AllReadyH.nil)
        go_simp
        refine hK.out _ _ ⟨(SA.out.blk 3 rfl).cell 0,(SA.out.blk 3 rfl).cell 1,HCU.out _ (SA.out.rdx 2 rfl),(SA.out.blk 4 rfl).cell 3⟩ (fun hHeld=>?_)
        clear hK
        refine wpAnyH_ready (rs:=[15]) (by kernel_rfl) (by simp) (AllReadyH.cons rfl (fun K hK=>?_) AllReadyH.nil)
        rw [if_pos (by rfl)]
        refine operwp_append (.tmp 86) (.tmp 100) 83 (by rfl) (by rfl) (by rfl) hrun ?_
        refine hK.out _ _ ⟨(S7.out.blk 3 rfl).cell 0,(S7.out.blk 3 rfl).cell 1,HCU.out _ (S7.out.rdx 2 rfl),(S7.out.blk 4 rfl).cell 3⟩ (fun hHeld=>?_)
        clear hK
        refine wpAnyH_take (i:=16) (v:=.slice q7 (j+1) c7) rfl (by kernel_rfl) (by kernel_rfl) (by kernel_rfl) (noPanic_q _ _) (Or.inl ⟨by kernel_rfl,fun W hSw=>by obtain⟨h1,h2,h3,h4⟩:=hSw;go_simp⟩) hHeld ?_
        refine wpAnyH_done (by kernel_rfl) ?_ _
        refine noPanic_mk ?_
        clear hHeld hrun S'
        try simp [Act.put]
        go_wp2
        go_roundw
        case rel=>exact⟨j+1,q7,c7,by omega,by go_num,rfl,by rw [HT.out,List.map_append,encQ_append];exact S7.out.pick [1,2,3,4] (by decide) rfl⟩
        case measure=>simp [intOf];omega
       ·obtain rfl:j=L.length:=by omega
        rw [List.take_length] at S
        have SH:=Lib.hid S;clear S
        go_wp2
        go_ret2
        exact⟨q',c',rfl,SH.out.pick [0] (by decide) rfl⟩
     ·go_enter Tryz.func101,Tryz.ntmps101
      go_wp2_with (first | (go_at_call 164;have _t:=S2;go_must (refine(HI.out _ S2.out.ext).mono ?_;rintro e w3 ⟨q1,c1,rfl,Z⟩;have S3:=Lib.hid (S2.out.comp Z);clear y0 y1 y2 y3 yz b0 b1 b2 b3 bz a0 a4 az;clear Z e0 e1 e2 ez)) | (go_at_call 163;go_must (refine(HG.out _ S1.out.ext).mono ?_;rintro e w2 ⟨q,c,rfl,Z⟩;have S2:=Lib.hid (S1.out.comp Z);clear y0 y1 y2 y3 yz b0 b1 b2 b3 bz a0 a4 az;obtain⟨y0,y1,y2,y3,yz⟩:=bkc0c1c2c3l (S2.out.blk 2 rfl);obtain⟨b0,b1,b2,b3,bz⟩:=bkc0c1c2c3l (S2.out.blk 3 rfl);obtain⟨a0,a4,az⟩:=bkc0c4l (S2.out.blk 4 rfl);obtain⟨e0,e1,e2,ez⟩:=bkc0c1c2l (S2.out.blk 1 rfl);clear Z)) | (go_at_call 96;go_must (refine(HC.out _ S0.out.ext).mono ?_;rintro e w1 ⟨rfl,hb⟩;have S1:=Lib.hid ((S0.out.call hb).al #[.int .i64 s,.int .i64 r,.int .i64 v] 136 w1.heap.size rfl);have S1':=Lib.hid (S0.out.call hb);obtain⟨y0,y1,y2,y3,yz⟩:=bkc0c1c2c3l (S1'.out.blk 0 rfl);obtain⟨b0,b1,b2,b3,bz⟩:=bkc0c1c2c3l (S1'.out.blk 1 rfl);obtain⟨a0,a4,az⟩:=bkc0c4l (S1'.out.blk 2 rfl);clear hb S1')))
      have S9:=Lib.hid ((S3.out.nilrow 138 4).pick [0,1,3,4] (by decide) rfl:Sep w _ [.own 138 4 none 0 0 [],.own 3 1 q1 L.length c1 (encI L),.blk w1.heap.size 136 #[.int .i64 s,.int .i64 r,.int .i64 v],.blk (w.heap.size+1+1) 146 #[.int .i64 s,.int .i64 r,.int .i64 v,.int .i64 d]])
      clear S0 S1 S2 HC HG
      go_loopw [13,14] (fun m i wr=>∃ (j:Nat) (q':Option Addr) (c':Nat),j≤L.length∧i=.int .i64 j∧m=.slice q' j c'∧Sep w wr [.own 138 4 q' j c' (encQ ((L.take j).map fun v=>(⟨s,r,v,d+1⟩:Sq))),.own 3 1 q1 L.length c1 (encI L),.blk w1.heap.size 136 #[.int .i64 s,.int .i64 r,.int .i64 v],.blk (w.heap.size+1+1) 146 #[.int .i64 s,.int .i64 r,.int .i64 v,.int .i64 d]]) (fun _ i _=>L.length - (intOf i).toNat)
      case atStart=>exact⟨0,none,0,Nat.zero_le _,rfl,rfl,S9.out⟩
      case round =>
       clear S9
       obtain⟨j,q',c',hj,rfl,rfl,S⟩:=hrel
       by_cases hlt:j<L.length
       ·have g1:=(S.rdx 1 rfl).cI hlt
        have pq:=(S.rdx 1 rfl).ptr
        have pn:=(S.rdx 1 rfl).small
        have HT:=Lib.hid (take_succ_nth L j hlt)
        have HCU:Hid (∀ W,Rd W 1 q1 L.length (encI L)→W.cell? (adr q1 j)=some (.int .i64 (nth L j))):=fun W hr=>hr.cI hlt
        have d1:(0:Int)≤j:=by omega
        have d2:(j:Int)<L.length:=by omega
        have hl:=HL.out
        have hwd:IntKind.i64.wrap (d+1)=d+1:=IntWalk.i64_in _ (by omega)
        have SH:=Lib.hid S;clear S
        generalize nth L j=u at *
        clear g1
        go_wp2
        have k1:wr.cell? ⟨w1.heap.size,0,none⟩=some (.int .i64 s):=(SH.out.blk 2 rfl).cell 0
        have k2:wr.cell? ⟨w1.heap.size,1,none⟩=some (.int .i64 r):=(SH.out.blk 2 rfl).cell 1
        have k3:=HCU.out _ (SH.out.rdx 1 rfl)
        have k4:wr.cell? ⟨w.heap.size+1+1,3,none⟩=some (.int .i64 d):=(SH.out.blk 3 rfl).cell 3
        refine wp_region_noPanic ?_
        refine wp_region_held_drew (S:=fun w'=>w'.cell? ⟨w1.heap.size,0,none⟩=some (.int .i64 s)∧w'.cell? ⟨w1.heap.size,1,none⟩=some (.int .i64 r)∧w'.cell? (adr q1 j)=some (.int .i64 u)∧w'.cell? ⟨w.heap.size+1+1,3,none⟩=some (.int .i64 d)) (by kernel_rfl) ⟨k1,k2,k3,k4⟩ (fun hHeld=>?_)
        clear k1 k2 k3 k4
        have SD:=Lib.hid SH.out.drew
        clear SH
        generalize wr.drew=D at SD hHeld ⊢
        refine wpAnyH_take (i:=0) (v:=.slice q' j c') rfl (by kernel_rfl) (by kernel_rfl) (by kernel_rfl) (noPanic_q _ _) (Or.inl ⟨by kernel_rfl,fun W hSw=>by obtain⟨h1,h2,h3,h4⟩:=hSw;go_simp⟩) hHeld ?_
        refine wpAnyH_take (i:=1) (v:=.pointer (some ⟨w1.heap.size,0,none⟩)) rfl (by kernel_rfl) (by kernel_rfl) (by kernel_rfl) (noPanic_q _ _) (Or.inl ⟨by kernel_rfl,fun W hSw=>by obtain⟨h1,h2,h3,h4⟩:=hSw;go_simp⟩) hHeld ?_
        refine wpAnyH_take (i:=2) (v:=.int .i64 s) rfl (by kernel_rfl) (by kernel_rfl) (by kernel_rfl) (noPanic_q _ _) (Or.inl ⟨by kernel_rfl,fun W hSw=>by obtain⟨h1,h2,h3,h4⟩:=hSw;go_simp⟩) hHeld ?_
        refine wpAnyH_take (i:=3) (v:=.pointer (some ⟨w1.heap.size,1,none⟩)) rfl (by kernel_rfl) (by kernel_rfl) (by kernel_rfl) (noPanic_q _ _) (Or.inl ⟨by kernel_rfl,fun W hSw=>by obtain⟨h1,h2,h3,h4⟩:=hSw;go_simp⟩) hHeld ?_
        refine wpAnyH_take (i:=4) (v:=.int .i64 r) rfl (by kernel_rfl) (by kernel_rfl) (by kernel_rfl) (noPanic_q _ _) (Or.inl ⟨by kernel_rfl,fun W hSw=>by obtain⟨h1,h2,h3,h4⟩:=hSw;go_simp⟩) hHeld ?_
        refine wpAnyH_take (i:=5) (v:=.slice q1 L.length c1) rfl (by kernel_rfl) (by kernel_rfl) (by kernel_rfl) (noPanic_q _ _) (Or.inl ⟨by kernel_rfl,fun W hSw=>by obtain⟨h1,h2,h3,h4⟩:=hSw;go_simp⟩) hHeld ?_
        refine wpAnyH_take (i:=6) (v:=.int .i64 (j:Int)) rfl (by kernel_rfl) (by kernel_rfl) (by kernel_rfl) (noPanic_q _ _) (Or.inl ⟨by kernel_rfl,fun W hSw=>by obtain⟨h1,h2,h3,h4⟩:=hSw;go_simp⟩) hHeld ?_
        refine wpAnyH_take (i:=7) (v:=.pointer (some (adr q1 j))) rfl (by kernel_rfl) (by kernel_rfl) (by kernel_rfl) (noPanic_q _ _) (Or.inl ⟨by kernel_rfl,fun W hSw=>by obtain⟨h1,h2,h3,h4⟩:=hSw;go_simp⟩) hHeld ?_
        refine wpAnyH_take (i:=8) (v:=.int .i64 u) rfl (by kernel_rfl) (by kernel_rfl) (by kernel_rfl) (noPanic_q _ _) (Or.inl ⟨by kernel_rfl,fun W hSw=>by obtain⟨h1,h2,h3,h4⟩:=hSw;go_simp⟩) hHeld ?_
        refine wpAnyH_take (i:=9) (v:=.agg #[.int .i64 s,.int .i64 r,.int .i64 u]) rfl (by kernel_rfl) (by kernel_rfl) (by kernel_rfl) (noPanic_q _ _) (Or.inl ⟨by kernel_rfl,fun W hSw=>by obtain⟨h1,h2,h3,h4⟩:=hSw;go_simp⟩) hHeld ?_
        refine wpAnyH_take (i:=10) (v:=.pointer (some ⟨w.heap.size+1+1,3,none⟩)) rfl (by kernel_rfl) (by kernel_rfl) (by kernel_rfl) (noPanic_q _ _) (Or.inl ⟨by kernel_rfl,fun W hSw=>by obtain⟨h1,h2,h3,h4⟩:=hSw;go_simp⟩) hHeld ?_
        refine wpAnyH_take (i:=11) (v:=.int .i64 d) rfl (by kernel_rfl) (by kernel_rfl) (by kernel_rfl) (noPanic_q _ _) (Or.inl ⟨by kernel_rfl,fun W hSw=>by obtain⟨h1,h2,h3,h4⟩:=hSw;go_simp⟩) hHeld ?_
        refine wpAnyH_take (i:=12) (v:=.int .i64 (d+1)) rfl (by kernel_rfl) (by kernel_rfl) (by kernel_rfl) (noPanic_q _ _) (Or.inl ⟨by kernel_rfl,fun W hSw=>by obtain⟨h1,h2,h3,h4⟩:=hSw;go_simp⟩) hHeld ?_
        refine wpAnyH_take (i:=13) (v:=.agg #[.int .i64 s,.int .i64 r,.int .i64 u,.int .i64 (d+1)]) rfl (by kernel_rfl) (by kernel_rfl) (by kernel_rfl) (noPanic_q _ _) (Or.inl ⟨by kernel_rfl,fun W hSw=>by obtain⟨h1,h2,h3,h4⟩:=hSw;go_simp⟩) hHeld ?_
        have SA:=Lib.hid (SD.out.alrw #[.int .i64 s,.int .i64 r,.int .i64 u,.int .i64 (d+1)] 138 4 1 D.heap.size rfl (by decide) rfl)
        obtain⟨q7,c7,w7,hrun,S'⟩:=SA.out.appended 1 83 83 138 i0 _ 4 32 Tryz.underlying83 hi0 hz0 hz1 hz2 rfl (by omega) q' j c' (encQ ((L.take j).map fun v=>(⟨s,r,v,d+1⟩:Sq))) rfl (some ⟨D.heap.size,0,none⟩) 1 1 (encQ [⟨s,r,u,d+1⟩]) (SA.out.rdx 0 rfl) (one_encQ _) (by omega) (by omega)
        have S7:=Lib.hid S'
        refine wpAnyH_ready (rs:=[14]) (by kernel_rfl) (by simp) (AllReadyH.cons rfl (fun K hK=>?_) AllReadyH.nil)
        go_simp
        refine hK.out _ _ ⟨(SA.out.blk 3 rfl).cell 0,(SA.out.blk 3 rfl).cell 1,HCU.out _ (SA.out.rdx 2 rfl),(SA.out.blk 4 rfl).cell 3⟩ (fun hHeld=>?_)
        clear hK
        refine wpAnyH_ready (rs:=[15]) (by kernel_rfl) (by simp) (AllReadyH.cons rfl (fun K hK=>?_) AllReadyH.nil)
        rw [if_pos (by rfl)]
        refine operwp_append (.tmp 86) (.tmp 100) 83 (by rfl) (by rfl) (by rfl) hrun ?_
        refine hK.out _ _ ⟨(S7.out.blk 3 rfl).cell 0,(S7.out.blk 3 rfl).cell 1,HCU.out _ (S7.out.rdx 2 rfl),(S7.out.blk 4 rfl).cell 3⟩ (fun hHeld=>?_)
        clear hK
        refine wpAnyH_take (i:=16) (v:=.slice q7 (j+1) c7) rfl (by kernel_rfl) (by kernel_rfl) (by kernel_rfl) (noPanic_q _ _) (Or.inl ⟨by kernel_rfl,fun W hSw=>by obtain⟨h1,h2,h3,h4⟩:=hSw;go_simp⟩) hHeld ?_
        refine wpAnyH_done (by kernel_rfl) ?_ _
        refine noPanic_mk ?_
        clear hHeld hrun S'
        try simp [Act.put]
        go_wp2
        go_roundw
        case rel=>exact⟨j+1,q7,c7,by omega,by go_num,rfl,by rw [HT.out,List.map_append,encQ_append];exact S7.out.pick [1,2,3,4] (by decide) rfl⟩
        case measure=>simp [intOf];omega
       ·obtain rfl:j=L.length:=by omega
        rw [List.take_length] at S
        have SH:=Lib.hid S;clear S
        go_wp2
        go_ret2
        exact⟨q',c',rfl,SH.out.pick [0] (by decide) rfl⟩
end
section
open Go Go.RowKit
theorem putKs_snoc (st P:List Sq) (x:Sq):putKs st (P ++ [x])=putK x (putKs st P):=by unfold putKs;rw [List.foldl_append];rfl
theorem putKs_len (st P:List Sq):(putKs st P).length=st.length+P.length:=by
 unfold putKs
 induction P generalizing st with
 | nil=>rfl
 | cons x P ih=>rw [List.foldl_cons,ih,putK_len,List.length_cons];omega
theorem Step19 (k f t:Int) (pw:Option Addr) (nw cw:Nat) (rad most:Int) (po:Option Addr) (no co:Nat) (pt:Option Addr) (nt ct:Nat) (pr:Option Addr) (nr cr:Nat) (pv:Option Addr) (nv cv:Nat) (n:Nat) (F:Sq→List Sq) (ps:Option Addr) (ns cs:Nat) (st:List Sq) (pm:Option Addr) (nm cm:Nat) (M:List Sq) (wk:Nat) (w:World)
  (hno:no=n+1) (h200:n≤200) (h1:1≤wk) (h16:wk≤16) (hs:Rd w 4 ps ns (encQ st)) (hm:Rd w 4 pm nm (encQ M))
  (hku:KeysUp st) (hst:∀ x∈st,mayB x=true∧x.v<n) (hms:∀ x∈M,mayB x=true∧x.v<n) (hFl:∀ x∈M,(F x).length≤200) (hns:ns≤400) (hnm:nm≤400)
  (HCK0:∀ W,Ext w W→Calls Tryz.prog 96 #[.agg #[.slice po no co,.slice pt nt ct,.slice pr nr cr,.slice pv nv cv]] W fun e w'=>e=.returned (.bool true)∧Ext W w')
  (HN0:∀ x∈M,∀ W,Ext w W→Calls Tryz.prog 101 #[.agg #[.int .i64 k,.int .i64 f,.int .i64 t,.slice pw nw cw,.int .i64 rad,.int .i64 most],.agg #[.slice po no co,.slice pt nt ct,.slice pr nr cr,.slice pv nv cv],.agg #[.int .i64 x.s,.int .i64 x.r,.int .i64 x.v,.int .i64 x.d]] W fun e w'=>∃ q c,e=.returned (.tuple #[.slice q (F x).length c,.int .i64 0])∧Sep W w' [.own 138 4 q (F x).length c (encQ (F x))]) :
  Calls Tryz.prog 55 #[.agg #[.int .i64 k,.int .i64 f,.int .i64 t,.slice pw nw cw,.int .i64 rad,.int .i64 most],.agg #[.slice po no co,.slice pt nt ct,.slice pr nr cr,.slice pv nv cv],.slice ps ns cs,.slice pm nm cm,.int .i64 wk] w fun e w'=>∃ q c q2 c2,e=.returned (.tuple #[.slice q (stepM F st M).1.length c,.slice q2 (stepM F st M).2.length c2,.int .i64 0]) ∧
   Sep w w' [.own 146 4 q (stepM F st M).1.length c (encQ (stepM F st M).1),.own 138 4 q2 (stepM F st M).2.length c2 (encQ (stepM F st M).2)]:=by
 obtain⟨i0,hi0,hz0,hz1,hz2⟩:=info_parts infMail
 obtain⟨j0,ji0,jz0,jz1,jz2⟩:=info_parts infStt
 have S0:=Lib.hid (((Sep.start w).al #[.int .i64 k,.int .i64 f,.int .i64 t,.slice pw nw cw,.int .i64 rad,.int .i64 most] 24 w.heap.size rfl).al #[.slice po no co,.slice pt nt ct,.slice pr nr cr,.slice pv nv cv] 27 (w.heap.size+1) (by simp))
 have HCK:=Lib.hid HCK0
 have HRG:=Lib.hid (fun W (h:Ext w W)=>Right19 ps ns cs st W (hs.ext h) hku (fun x hx=>(hst x hx).1) (by omega))
 have HCM:=Lib.hid (fun W (h:Ext w W)=>Check16r pm nm cm M W (hm.ext h) (fun x hx=>(hms x hx).1))
 have HWI:=Lib.hid (fun W (h:Ext w W)=>Within19 ps ns cs st pm nm cm M ((no:Int) - 1) W (hs.ext h) (hm.ext h) (fun x hx=>by have:=(hst x hx).2;omega) (fun x hx=>by have:=(hms x hx).2;omega))
 have HFR:=Lib.hid (fun W (h:Ext w W)=>Fresh19 ps ns cs st pm nm cm M W (hs.ext h) (hm.ext h) (by omega))
 have HFM:Hid (∀ x∈freshM st M,x∈M):=fun x hx=>(freshM_mem.1 hx).1.1
 have hPl:=freshM_len st M
 have hnsl:=hs.nQ
 have hnml:=hm.nQ
 have HS:=Lib.hid hs
 have hno2:no≤1000:=by omega
 have c3:decide ((wk:Int)<1)=false:=by simp;omega
 have c4:decide (16<(wk:Int))=false:=by simp;omega
 have HN:=Lib.hid HN0
 have HFL:=Lib.hid hFl
 obtain⟨P,hP⟩:∃ P,freshM st M=P:=⟨_,rfl⟩
 have HST:Hid ((stepM F st M).1=putKs st P∧(stepM F st M).2=freshM (putKs st P) (P.flatMap F)):=by rw [← hP];exact⟨rfl,rfl⟩
 rw [hP] at HFR HFM hPl
 have HPL:Hid (P.length≤400):=by unfold Hid;omega
 have HNL:Hid (st.length=ns):=hnsl.symm
 have ps1:=hs.ptr
 have ps2:=hs.small
 clear hs hm hku hst hms hFl hnm HCK0 HN0 hPl hnml hP hnsl h1 h16 h200 hno
 rw [HST.out.1,HST.out.2]
 clear HST
 go_enter Tryz.func55,Tryz.ntmps55
 go_wp2_with (first
  | (at_builtin;have _t:=S5;go_must (refine wpList_append_sep rfl _ _ _ rfl 146 j0 _ 4 32 Tryz.underlying85 ji0 jz0 jz1 jz2 rfl (by omega) (S5.out.nilrow 146 4) 0 none 0 0 [] rfl rfl ps ns cs _ rfl (HS.out.ext S5.out.ext) (one_encQ _) (by omega) (by omega) ?_;intro q6 c6 w6 S' hsz;(try simp only [Nat.zero_add,List.nil_append] at S');have S6:=Lib.hid S';clear S' hsz))
  | (go_at_call 100;have _t:=S4;go_must (refine(HFR.out _ S4.out.ext).mono ?_;rintro e w5 ⟨q5,c5,rfl,Z⟩;have S5:=Lib.hid (S4.out.comp Z);clear Z))
  | (go_at_call 99;have _t:=S3;go_must (refine(HWI.out _ S3.out.ext).mono ?_;rintro e w4 ⟨rfl,hb⟩;have S4:=Lib.hid (S3.out.call hb);clear hb))
  | (go_at_call 98;have _t:=S2;go_must (refine(HCM.out _ S2.out.ext).mono ?_;rintro e w3 ⟨rfl,hb⟩;have S3:=Lib.hid (S2.out.call hb);clear a0 a1 a2 a3 a4 a5 az b0 b1 b2 b3 bz;obtain⟨b0,b1,b2,b3,bz⟩:=bkc0c1c2c3l (S3.out.blk 0 rfl);obtain⟨a0,a1,a2,a3,a4,a5,az⟩:=bkc0c1c2c3c4c5l (S3.out.blk 1 rfl);clear hb))
  | (go_at_call 97;have _t:=S1;go_must (refine(HRG.out _ S1.out.ext).mono ?_;rintro e w2 ⟨rfl,hb⟩;have S2:=Lib.hid (S1.out.call hb);clear a0 a1 a2 a3 a4 a5 az b0 b1 b2 b3 bz;obtain⟨b0,b1,b2,b3,bz⟩:=bkc0c1c2c3l (S2.out.blk 0 rfl);obtain⟨a0,a1,a2,a3,a4,a5,az⟩:=bkc0c1c2c3c4c5l (S2.out.blk 1 rfl);clear hb))
  | (go_at_call 96;go_must (refine(HCK.out _ S0.out.ext).mono ?_;rintro e w1 ⟨rfl,hb⟩;have S1:=Lib.hid (S0.out.call hb);obtain⟨b0,b1,b2,b3,bz⟩:=bkc0c1c2c3l (S1.out.blk 0 rfl);obtain⟨a0,a1,a2,a3,a4,a5,az⟩:=bkc0c1c2c3c4c5l (S1.out.blk 1 rfl);clear hb)))
 have S7:=Lib.hid ((S6.out.nilrow 138 4).pick (Δ:=[.own 146 4 q6 ns c6 (encQ st),.own 138 4 none 0 0 [],.own 138 4 q5 P.length c5 (encQ P),.blk (w.heap.size+1) 27 #[.slice po no co,.slice pt nt ct,.slice pr nr cr,.slice pv nv cv],.blk w.heap.size 24 #[.int .i64 k,.int .i64 f,.int .i64 t,.slice pw nw cw,.int .i64 rad,.int .i64 most]]) [1,0,2,3,4] (by decide) rfl)
 clear S0 S1 S2 S3 S4 S5 S6 HCK HRG HCM HWI HFR HS
 clear a0 a1 a2 a3 a4 a5 az b0 b1 b2 b3 bz
 go_loopw [14,15,16,17,18,19] (fun nwv sn i _ _ _ wr=>∃ (j ms:Nat) (qn:Option Addr) (dn:Nat) (qs:Option Addr) (ds:Nat),j≤P.length∧ms≤j*200∧i=.int .i64 j∧nwv=.slice qn (ns+j) dn∧sn=.slice qs ms ds ∧
  Sep w wr [.own 146 4 qn (ns+j) dn (encQ (putKs st (P.take j))),.own 138 4 qs ms ds (encQ ((P.take j).flatMap F)),.own 138 4 q5 P.length c5 (encQ P),.blk (w.heap.size+1) 27 #[.slice po no co,.slice pt nt ct,.slice pr nr cr,.slice pv nv cv],.blk w.heap.size 24 #[.int .i64 k,.int .i64 f,.int .i64 t,.slice pw nw cw,.int .i64 rad,.int .i64 most]]) (fun _ _ i _ _ _ _=>P.length - (intOf i).toNat)
 case atStart=>exact⟨0,0,q6,c6,none,0,Nat.zero_le _,Nat.zero_le _,rfl,rfl,rfl,S7.out⟩
 case round =>
  clear S7
  obtain⟨j,ms,qn,dn,qs,ds,hj,hms,rfl,rfl,rfl,S⟩:=hrel
  have pc:=(S.rdx 2 rfl).ptr
  have nc:=(S.rdx 2 rfl).small
  have hPL:=HPL.out
  by_cases hlt:j<P.length
  ·obtain⟨g1,g2,g3,g4⟩:=(S.rdx 2 rfl).cQ hlt
   have hT:=take_succ_nth P j hlt
   have d1:(0:Int)≤j:=by omega
   have d2:(j:Int)<P.length:=by omega
   have hcap:=own_cap (S.own 0 rfl)
   have hxM:=HFM.out (nth P j) (by rw [nth_eq hlt];exact List.getElem_mem _)
   have HCU0:=Lib.hid (fun W (hr:Rd W 4 q5 P.length (encQ P))=>hr.cQ hlt)
   generalize nth P j=x at *
   have HK1:Hid (putKs st (P.take (j+1))=putK x (putKs st (P.take j))):=by unfold Hid;rw [hT,putKs_snoc]
   have HK2:Hid (encQ ((P.take (j+1)).flatMap F)=encQ ((P.take j).flatMap F) ++ encQ (F x)):=by unfold Hid;rw [hT,List.flatMap_append,encQ_append];simp
   have HLK:Hid ((putK x (putKs st (P.take j))).length=ns+(j+1)):=by
    unfold Hid;rw [putK_len,putKs_len,List.length_take,HNL.out];omega
   have HNX:=Lib.hid (fun W h=>HN.out x hxM W h)
   have hFx:=HFL.out x hxM
   have HPU:=Lib.hid (fun W (hr:Rd W 4 qn (ns+j) (encQ (putKs st (P.take j))))=>Put19 qn (ns+j) dn _ x W hr hcap (by omega))
   rw [HLK.out] at HPU
   obtain⟨L,hL⟩:∃ L,F x=L:=⟨_,rfl⟩
   rw [hL] at HNX HK2 hFx
   have HLL:=Lib.hid hFx
   have SH:=Lib.hid S
   have HJ:=Lib.hid hms
   clear S hT hxM hL hFx hcap
   have HCU:Hid (∀ W,Rd W 4 q5 P.length (encQ P)→W.cell? (adr q5 (j*4))=some (.int .i64 x.s)∧W.cell? (adr q5 (j*4+1))=some (.int .i64 x.r)∧W.cell? (adr q5 (j*4+2))=some (.int .i64 x.v)∧W.cell? (adr q5 (j*4+3))=some (.int .i64 x.d)):=HCU0
   clear HCU0
   go_wp2
   refine wp_region_noPanic ?_
   refine wp_region_held_drew (S:=fun W=>W.cell? (adr q5 (j*4))=some (.int .i64 x.s)∧W.cell? (adr q5 (j*4+1))=some (.int .i64 x.r)∧W.cell? (adr q5 (j*4+2))=some (.int .i64 x.v)∧W.cell? (adr q5 (j*4+3))=some (.int .i64 x.d)) (by kernel_rfl) ⟨g1,g2,g3,g4⟩ (fun hHeld=>?_)
   have SD:=Lib.hid SH.out.drew
   clear SH g1 g2 g3 g4
   generalize wr.drew=D at SD hHeld ⊢
   refine wpAnyH_take (i:=0) (v:=.slice q5 P.length c5) rfl (by kernel_rfl) (by kernel_rfl) (by kernel_rfl) (noPanic_q _ _) (Or.inl ⟨by kernel_rfl,fun W hSw=>by obtain⟨h1,h2,h3,h4⟩:=hSw;go_simp⟩) hHeld ?_
   refine wpAnyH_take (i:=1) (v:=.int .i64 (j:Int)) rfl (by kernel_rfl) (by kernel_rfl) (by kernel_rfl) (noPanic_q _ _) (Or.inl ⟨by kernel_rfl,fun W hSw=>by obtain⟨h1,h2,h3,h4⟩:=hSw;go_simp⟩) hHeld ?_
   refine wpAnyH_take (i:=2) (v:=.pointer (some (adr q5 (j*4)))) rfl (by kernel_rfl) (by kernel_rfl) (by kernel_rfl) (noPanic_q _ _) (Or.inl ⟨by kernel_rfl,fun W hSw=>by obtain⟨h1,h2,h3,h4⟩:=hSw;go_simp⟩) hHeld ?_
   refine wpAnyH_take (i:=3) (v:=.pointer (some (adr q5 (j*4)))) rfl (by kernel_rfl) (by kernel_rfl) (by kernel_rfl) (noPanic_q _ _) (Or.inl ⟨by kernel_rfl,fun W hSw=>by obtain⟨h1,h2,h3,h4⟩:=hSw;go_simp⟩) hHeld ?_
   refine wpAnyH_take (i:=4) (v:=.agg #[.int .i64 x.s,.int .i64 x.r,.int .i64 x.v]) rfl (by kernel_rfl) (by kernel_rfl) (by kernel_rfl) (noPanic_q _ _) (Or.inl ⟨by kernel_rfl,fun W hSw=>by obtain⟨h1,h2,h3,h4⟩:=hSw;go_simp⟩) hHeld ?_
   refine wpAnyH_take (i:=5) (v:=.slice q5 P.length c5) rfl (by kernel_rfl) (by kernel_rfl) (by kernel_rfl) (noPanic_q _ _) (Or.inl ⟨by kernel_rfl,fun W hSw=>by obtain⟨h1,h2,h3,h4⟩:=hSw;go_simp⟩) hHeld ?_
   refine wpAnyH_take (i:=6) (v:=.int .i64 (j:Int)) rfl (by kernel_rfl) (by kernel_rfl) (by kernel_rfl) (noPanic_q _ _) (Or.inl ⟨by kernel_rfl,fun W hSw=>by obtain⟨h1,h2,h3,h4⟩:=hSw;go_simp⟩) hHeld ?_
   refine wpAnyH_take (i:=7) (v:=.pointer (some (adr q5 (j*4)))) rfl (by kernel_rfl) (by kernel_rfl) (by kernel_rfl) (noPanic_q _ _) (Or.inl ⟨by kernel_rfl,fun W hSw=>by obtain⟨h1,h2,h3,h4⟩:=hSw;go_simp⟩) hHeld ?_
   refine wpAnyH_take (i:=8) (v:=.pointer (some (adr q5 (j*4+3)))) rfl (by kernel_rfl) (by kernel_rfl) (by kernel_rfl) (noPanic_q _ _) (Or.inl ⟨by kernel_rfl,fun W hSw=>by obtain⟨h1,h2,h3,h4⟩:=hSw;go_simp⟩) hHeld ?_
   refine wpAnyH_take (i:=9) (v:=.int .i64 x.d) rfl (by kernel_rfl) (by kernel_rfl) (by kernel_rfl) (noPanic_q _ _) (Or.inl ⟨by kernel_rfl,fun W hSw=>by obtain⟨h1,h2,h3,h4⟩:=hSw;go_simp⟩) hHeld ?_
   refine wpAnyH_take (i:=10) (v:=.agg #[.int .i64 x.s,.int .i64 x.r,.int .i64 x.v,.int .i64 x.d]) rfl (by kernel_rfl) (by kernel_rfl) (by kernel_rfl) (noPanic_q _ _) (Or.inl ⟨by kernel_rfl,fun W hSw=>by obtain⟨h1,h2,h3,h4⟩:=hSw;go_simp⟩) hHeld ?_
   refine wpAnyH_ready (rs:=[11]) (by kernel_rfl) (by simp) (AllReadyH.cons rfl (fun K hK=>?_) AllReadyH.nil)
   go_simp
   have SA:=Lib.hid (SD.out.al #[.int .i64 0,.int .i64 0,.int .i64 0,.int .i64 0] 146 D.heap.size rfl)
   refine hK.out _ _ (HCU.out _ (SA.out.rdx 3 rfl)) (fun hHeld=>?_)
   clear hK
   obtain⟨k0,k1,k2,k3,kz,f0,f1,f2,f3⟩:=bkc0c1c2c3lz0z1z2z3 (SA.out.blk 0 rfl)
   clear SD
   generalize D.alloc (.cells #[.int .i64 0,.int .i64 0,.int .i64 0,.int .i64 0] 146)=E at *
   generalize D.heap.size=gx at *
   refine wpAnyH_ready (rs:=[12]) (by kernel_rfl) (by simp) (AllReadyH.cons rfl (fun K hK=>?_) AllReadyH.nil)
   go_simp
   have SX:=Lib.hid (show Sep w ((((E.setCell ⟨gx,0,none⟩ (.int .i64 x.s)).setCell ⟨gx,1,none⟩ (.int .i64 x.r)).setCell ⟨gx,2,none⟩ (.int .i64 x.v)).setCell ⟨gx,3,none⟩ (.int .i64 x.d)) [.blk gx 146 #[.int .i64 x.s,.int .i64 x.r,.int .i64 x.v,.int .i64 x.d],.own 146 4 qn (ns+j) dn (encQ (putKs st (P.take j))),.own 138 4 qs ms ds (encQ ((P.take j).flatMap F)),.own 138 4 q5 P.length c5 (encQ P),.blk (w.heap.size+1) 27 #[.slice po no co,.slice pt nt ct,.slice pr nr cr,.slice pv nv cv],.blk w.heap.size 24 #[.int .i64 k,.int .i64 f,.int .i64 t,.slice pw nw cw,.int .i64 rad,.int .i64 most]] from(((SA.out.set 0 rfl 0 (.int .i64 x.s)).set 0 rfl 1 (.int .i64 x.r)).set 0 rfl 2 (.int .i64 x.v)).set 0 rfl 3 (.int .i64 x.d))
   clear hHeld
   refine hK.out _ _ (HCU.out _ (SX.out.rdx 3 rfl)) (fun hHeld=>?_)
   clear hK hHeld k0 k1 k2 k3 kz f0 f1 f2 f3 SA
   refine wpAnyH_done (by kernel_rfl) ?_ _
   refine noPanic_mk ?_
   generalize (((E.setCell ⟨gx,0,none⟩ (.int .i64 x.s)).setCell ⟨gx,1,none⟩ (.int .i64 x.r)).setCell ⟨gx,2,none⟩ (.int .i64 x.v)).setCell ⟨gx,3,none⟩ (.int .i64 x.d)=W1 at SX ⊢
   have S2:=SX
   clear SX
   obtain⟨y0,y1,y2,y3,yz⟩:=bkc0c1c2c3l (S2.out.blk 0 rfl)
   obtain⟨b0,b1,b2,b3,bz⟩:=bkc0c1c2c3l (S2.out.blk 4 rfl)
   obtain⟨a0,a1,a2,a3,a4,a5,az⟩:=bkc0c1c2c3c4c5l (S2.out.blk 5 rfl)
   try simp [Act.put]
   have hll:=HLL.out
   have hms2:=HJ.out
   go_wp2_with (first
    | (at_builtin;have _t:=S4;go_must (refine wpList_append_sep rfl _ _ _ rfl 138 i0 _ 4 32 Tryz.underlying83 hi0 hz0 hz1 hz2 rfl (by omega) S4.out 4 qs ms ds _ rfl rfl _ _ _ (encQ L) rfl (S4.out.rdx 1 rfl) (one_encQ _) (by omega) (by omega) ?_;intro q7 c7 w7 S' hsz;have S5:=Lib.hid S';clear S' hsz))
    | (go_at_call 102;have _t:=S3;go_must (refine(HPU.out _ (S3.out.rdx 2 rfl)).mono ?_;rintro e w4 ⟨q4,c4',rfl,Z⟩;have S4:=Lib.hid (S3.out.comp Z);clear Z))
    | (go_at_call 101;go_must (refine(HNX.out _ S2.out.ext).mono ?_;rintro e w3 ⟨q3,c3',rfl,Z⟩;have S3:=Lib.hid (S2.out.comp Z);clear a0 a1 a2 a3 a4 a5 az b0 b1 b2 b3 bz;clear y0 y1 y2 y3 yz;obtain⟨y0,y1,y2,y3,yz⟩:=bkc0c1c2c3l (S3.out.blk 1 rfl);clear Z)))
   go_roundw
   case rel=>exact⟨j+1,ms+L.length,q4,c4',q7,c7,by omega,by omega,by go_num,rfl,rfl,by rw [HK1.out,HK2.out];exact S5.out.pick [0,4,5,6,7] (by decide) rfl⟩
   case measure=>simp [intOf];omega
  ·obtain rfl:j=P.length:=by omega
   rw [List.take_length] at S
   have HL1:Hid (ns+P.length=(putKs st P).length):=(S.rdx 0 rfl).nQ
   have HFR:=Lib.hid (fun W (h:Ext wr W)=>Fresh19 qn (ns+P.length) dn (putKs st P) qs ms ds (P.flatMap F) W ((S.rdx 0 rfl).ext h) ((S.rdx 1 rfl).ext h) (by omega))
   have SH:=Lib.hid S
   clear S
   go_wp2_with (go_at_call 100;go_must (refine(HFR.out _ (Below.refl _ _)).mono ?_;rintro e w3 ⟨q3,c3',rfl,Z⟩;have S3:=Lib.hid (SH.out.comp Z);clear Z))
   go_ret3
   rw [← HL1.out]
   exact⟨qn,dn,q3,c3',rfl,S3.out.pick [1,0] (by decide) rfl⟩
end
section
open Go Go.RowKit
theorem Place18 (v n:Int) (w:World):Calls Tryz.prog 132 #[.int .i64 v,.int .i64 n] w fun e w'=>e=.returned (.bool (plcB v n))∧w=w':=by
 by_cases h:0≤v
 ·go_enter Tryz.func132,Tryz.ntmps132
  go_wp2
  go_ret
  exact⟨ret_bool (by unfold plcB;simp [h]),rfl⟩
 ·have e0:decide (0≤v)=false:=by simpa using h
  go_enter Tryz.func132,Tryz.ntmps132
  go_wp2
  go_ret
  exact⟨ret_bool (by unfold plcB;rw [e0];rfl),rfl⟩
theorem Start18 (k f t:Int) (pw:Option Addr) (nw cw:Nat) (rad most s:Int) (w:World) :
  Calls Tryz.prog 54 #[.agg #[.int .i64 k,.int .i64 f,.int .i64 t,.slice pw nw cw,.int .i64 rad,.int .i64 most],.int .i64 s] w fun e w'=>∃ q c,e=.returned (.slice q (startQ k f t s).length c)∧Sep w w' [.own 138 4 q (startQ k f t s).length c (encQ (startQ k f t s))]:=by
 obtain⟨i0,hi0,hz0,hz1,hz2⟩:=info_parts infMail
 have S0:=Lib.hid ((Sep.start w).al #[.int .i64 k,.int .i64 f,.int .i64 t,.slice pw nw cw,.int .i64 rad,.int .i64 most] 24 w.heap.size rfl)
 by_cases h0:k<1
 ·have HQ:Hid (startQ k f t s=[]):=by unfold Hid startQ;rw [if_neg (by omega),if_neg (by omega)]
  rw [HQ.out]
  go_enter Tryz.func54,Tryz.ntmps54
  go_wp2
  go_ret
  exact⟨none,0,rfl,(S0.out.nilrow _ _).pick [0] (by decide) rfl⟩
 ·have e0:decide (k<1)=false:=by simpa using h0
  by_cases h3:3<k
  ·have e3:decide (3<k)=true:=by simpa using h3
   have HQ:Hid (startQ k f t s=[]):=by unfold Hid startQ;rw [if_neg (by omega),if_neg (by omega)]
   rw [HQ.out]
   go_enter Tryz.func54,Tryz.ntmps54
   go_wp2
   go_ret
   exact⟨none,0,rfl,(S0.out.nilrow _ _).pick [0] (by decide) rfl⟩
  ·have e3:decide (3<k)=false:=by simpa using h3
   have S1:=Lib.hid (S0.out.alrw #[.int .i64 s,.int .i64 0,.int .i64 f,.int .i64 0] 138 4 1 (w.heap.size+1) (by simp) (by decide) rfl)
   by_cases k1:k=1
   ·subst k1
    have HQ:Hid (startQ 1 f t s=[⟨s,0,f,0⟩,⟨s,1,t,0⟩]):=rfl
    rw [HQ.out]
    clear h0 h3 HQ
    go_enter Tryz.func54,Tryz.ntmps54
    go_wp2_with (at_builtin;go_must (refine wpList_append_sep rfl _ _ _ rfl 138 i0 _ 4 32 Tryz.underlying83 hi0 hz0 hz1 hz2 rfl (by omega) (S1.out.junk _) 0 (some ⟨w.heap.size+1,0,none⟩) 1 1 (encQ [⟨s,0,f,0⟩]) rfl rfl _ 1 1 _ rfl (Rd.newAt _ _ _ 1 4 _ (by simp) rfl (by omega)) (one_encQ [⟨s,1,t,0⟩]) (by omega) (by omega) ?_;intro q7 c7 w7 S' hsz;have S7:=Lib.hid S';clear S' hsz))
    go_ret
    exact⟨q7,c7,rfl,S7.out.pick [0] (by decide) rfl⟩
   ·have HQ:Hid (startQ k f t s=[⟨s,0,f,0⟩]):=by unfold Hid startQ;rw [if_neg k1,if_pos (by omega)]
    have e1:(k == 1)=false:=by simpa using k1
    rw [HQ.out]
    clear h0 h3 HQ k1
    go_enter Tryz.func54,Tryz.ntmps54
    go_wp2
    go_ret
    exact⟨some ⟨w.heap.size+1,0,none⟩,1,by simp,S1.out.pick [0] (by decide) rfl⟩
theorem all_word_end {l:List ByteArray} {k:Nat} (h:¬ k<l.length) (ha:(l.take k).all wordB=true):l.all wordB=true:=by rwa [List.take_of_length_le (by omega)] at ha
theorem all_word_bad {l:List ByteArray} {k:Nat} (h:k<l.length) (hb:wordB (nth l k)=false):l.all wordB=false:=by
 rw [Bool.eq_false_iff]
 intro ha
 rw [List.all_eq_true] at ha
 have:=ha (nth l k) (by rw [nth_eq h];exact List.getElem_mem _)
 rw [hb] at this;cases this
theorem all_word_step {l:List ByteArray} {k:Nat} (h:k<l.length) (ha:(l.take k).all wordB=true) (hb:wordB (nth l k)=true):(l.take (k+1)).all wordB=true:=by
 rw [take_succ_nth l k h,List.all_append,ha];simp [hb]
theorem Check18 (k f t:Int) (pw:Option Addr) (nw cw:Nat) (ws:List ByteArray) (rad most:Int) (n:Int) (w:World) (hw:Rd w 1 pw nw (encS ws)) (hz:∀ s∈ws,s.size≤1000000) :
  Calls Tryz.prog 80 #[.agg #[.int .i64 k,.int .i64 f,.int .i64 t,.slice pw nw cw,.int .i64 rad,.int .i64 most],.int .i64 n] w fun e w'=>e=.returned (.int .i64 (chkQ k f t ws rad most n))∧Ext w w':=by
 have l1:=hw.nS
 have p1:=hw.ptr
 have n1:=hw.small
 have S0:=Lib.hid ((Sep.start w).al #[.int .i64 k,.int .i64 f,.int .i64 t,.slice pw nw cw,.int .i64 rad,.int .i64 most] 24 w.heap.size rfl)
 have HE:=Lib.hid S0.out.ext
 have HW:=Lib.hid hw
 have HZ:=Lib.hid hz
 have L1:=Lib.hid l1
 clear hz l1 hw
 by_cases h0:k<1
 ·have HF:Hid (chkQ k f t ws rad most n=180):=chkQ_no (okQ_else (by omega) (by omega))
  clear S0
  go_enter Tryz.func80,Tryz.ntmps80
  go_wp2_with (first | (go_at_call 132;refine(Place18 _ _ _).mono ?_;rintro e w' ⟨rfl,rfl⟩))
  go_ret
  exact⟨by(rw [HF.out];rfl),HE.out⟩
 ·have e0:decide (k<1)=false:=by simpa using h0
  by_cases h3:3<k
  ·have e3:decide (3<k)=true:=by simpa using h3
   have HF:Hid (chkQ k f t ws rad most n=180):=chkQ_no (okQ_else (by omega) (by omega))
   clear S0
   go_enter Tryz.func80,Tryz.ntmps80
   go_wp2_with (first | (go_at_call 132;refine(Place18 _ _ _).mono ?_;rintro e w' ⟨rfl,rfl⟩))
   go_ret
   exact⟨by(rw [HF.out];rfl),HE.out⟩
  ·have e3:decide (3<k)=false:=by simpa using h3
   by_cases k3:k=3
   ·subst k3
    clear h0 h3 e0 e3
    have HO:=Lib.hid (okQ_3 (f:=f) (t:=t) (ws:=ws) (rad:=rad) (most:=most) (n:=n))
    cases h1:plcB f n with
    | false =>
     have HF:Hid (chkQ 3 f t ws rad most n=180):=chkQ_no (by rw [HO.out,h1];simp)
     go_enter Tryz.func80,Tryz.ntmps80
     go_wp2_with (first | (go_at_call 132;refine(Place18 _ _ _).mono ?_;rintro e w' ⟨rfl,rfl⟩))
     go_ret
     exact⟨by(rw [HF.out];rfl),HE.out⟩
    | true =>
     rw [h1,Bool.true_and] at HO
     by_cases c1:nw<1
     ·have HM:manyB ws=false:=by unfold manyB;rw [← L1.out];simp [Nat.not_le.2 c1]
      have HF:Hid (chkQ 3 f t ws rad most n=180):=chkQ_no (by rw [HO.out,HM];simp)
      have e:decide ((nw:Int)<1)=true:=by simp;omega
      clear HM
      go_enter Tryz.func80,Tryz.ntmps80
      go_wp2_with (first | (go_at_call 132;refine(Place18 _ _ _).mono ?_;rintro e w' ⟨rfl,rfl⟩))
      go_ret
      exact⟨by(rw [HF.out];rfl),HE.out⟩
     ·have e4:decide ((nw:Int)<1)=false:=by simp;omega
      have e4n:decide (nw<1)=false:=by simpa using c1
      by_cases c2:8<nw
      ·have HM:manyB ws=false:=by unfold manyB;rw [← L1.out];simp [Nat.not_le.2 c2]
       have HF:Hid (chkQ 3 f t ws rad most n=180):=chkQ_no (by rw [HO.out,HM];simp)
       have e:decide ((8:Int)<(nw:Int))=true:=by simp;omega
       clear HM
       go_enter Tryz.func80,Tryz.ntmps80
       go_wp2_with (first | (go_at_call 132;refine(Place18 _ _ _).mono ?_;rintro e w' ⟨rfl,rfl⟩))
       go_ret
       exact⟨by(rw [HF.out];rfl),HE.out⟩
      ·have e5:decide ((8:Int)<(nw:Int))=false:=by simp;omega
       have e5n:decide (8<nw)=false:=by simpa using c2
       by_cases r1:rad<0
       ·have HF:Hid (chkQ 3 f t ws rad most n=180):=chkQ_no (by rw [HO.out];unfold numB;rw [decide_eq_false (Int.not_le.2 r1)];simp)
        go_enter Tryz.func80,Tryz.ntmps80
        go_wp2_with (first | (go_at_call 132;refine(Place18 _ _ _).mono ?_;rintro e w' ⟨rfl,rfl⟩))
        go_ret
        exact⟨by(rw [HF.out];rfl),HE.out⟩
       ·have e6:decide (rad<0)=false:=by simpa using r1
        by_cases r2:200<rad
        ·have HF:Hid (chkQ 3 f t ws rad most n=180):=chkQ_no (by rw [HO.out];unfold numB;rw [decide_eq_false (Int.not_le.2 r2)];simp)
         go_enter Tryz.func80,Tryz.ntmps80
         go_wp2_with (first | (go_at_call 132;refine(Place18 _ _ _).mono ?_;rintro e w' ⟨rfl,rfl⟩))
         go_ret
         exact⟨by(rw [HF.out];rfl),HE.out⟩
        ·have e7:decide (200<rad)=false:=by simpa using r2
         by_cases m1:most<1
         ·have HF:Hid (chkQ 3 f t ws rad most n=180):=chkQ_no (by rw [HO.out];unfold numB;rw [decide_eq_false (Int.not_le.2 m1)];simp)
          go_enter Tryz.func80,Tryz.ntmps80
          go_wp2_with (first | (go_at_call 132;refine(Place18 _ _ _).mono ?_;rintro e w' ⟨rfl,rfl⟩))
          go_ret
          exact⟨by(rw [HF.out];rfl),HE.out⟩
         ·have e8:decide (most<1)=false:=by simpa using m1
          by_cases m2:100<most
          ·have HF:Hid (chkQ 3 f t ws rad most n=180):=chkQ_no (by rw [HO.out];unfold numB;rw [decide_eq_false (Int.not_le.2 m2)];simp)
           go_enter Tryz.func80,Tryz.ntmps80
           go_wp2_with (first | (go_at_call 132;refine(Place18 _ _ _).mono ?_;rintro e w' ⟨rfl,rfl⟩))
           go_ret
           exact⟨by(rw [HF.out];rfl),HE.out⟩
          ·have e9:decide (100<most)=false:=by simpa using m2
           have HOK:Hid (chkQ 3 f t ws rad most n=if ws.all wordB=true then 0 else 180):=by
            have hn:numB rad most=true:=by unfold numB;simp;omega
            have hm:manyB ws=ws.all wordB:=by unfold manyB;rw [← L1.out];simp;omega
            unfold Hid chkQ
            rw [HO.out,hn,hm,Bool.and_true]
           clear HO c1 c2 r1 r2 m1 m2
           go_enter Tryz.func80,Tryz.ntmps80
           go_wp2_with (first | (go_at_call 132;refine(Place18 _ _ _).mono ?_;rintro e w' ⟨rfl,rfl⟩))
           go_loopw [5] (fun i wr=>∃ j:Nat,j≤nw∧i=.int .i64 j∧Hid ((ws.take j).all wordB=true)∧Sep w wr [.blk w.heap.size 24 #[.int .i64 3,.int .i64 f,.int .i64 t,.slice pw nw cw,.int .i64 rad,.int .i64 most]]) (fun i _=>nw - (intOf i).toNat)
           case atStart=>exact⟨0,Nat.zero_le _,rfl,rfl,S0.out⟩
           case round =>
            obtain⟨j,hj,rfl,HA,S⟩:=hrel
            clear S0
            obtain⟨b3,bz⟩:=bkc3l (S.blk 0 rfl)
            by_cases hlt:j<nw
            ·have g1:=(HW.out.ext S.ext).cS hlt
             have hjl:j<ws.length:=by rw [← L1.out];exact hlt
             have hsz:(nth ws j).size≤140737488355328:=by
              have:=HZ.out (nth ws j) (by rw [nth_eq hjl];exact List.getElem_mem _)
              omega
             cases hb:wordB (nth ws j) with
             | true =>
              have HS:=Lib.hid (all_word_step hjl HA.out hb)
              clear hjl
              go_wp2_with (go_at_call 133;refine(Word02 _ _ hsz).mono ?_;rintro e w' ⟨rfl,rfl⟩)
              go_roundw
              case rel=>exact⟨j+1,by omega,by go_num,HS,S⟩
              case measure=>simp [intOf];omega
             | false =>
              have HS:=Lib.hid (all_word_bad hjl hb)
              clear hjl
              go_wp2_with (go_at_call 133;refine(Word02 _ _ hsz).mono ?_;rintro e w' ⟨rfl,rfl⟩)
              go_ret
              exact⟨by(rw [HOK.out,HS.out];rfl),S.ext⟩
            ·go_wp2
             go_ret
             exact⟨by(rw [HOK.out,if_pos (all_word_end (by rw [← L1.out];exact hlt) HA.out)];rfl),S.ext⟩
   ·have e1:decide (k<3)=true:=by simp;omega
    have HO:=Lib.hid (okQ_12 (f:=f) (t:=t) (ws:=ws) (rad:=rad) (most:=most) (n:=n) (show k=1∨k=2 by omega))
    cases h1:plcB f n with
    | false =>
     have HF:Hid (chkQ k f t ws rad most n=180):=chkQ_no (by rw [HO.out,h1];rfl)
     clear S0 HO
     go_enter Tryz.func80,Tryz.ntmps80
     go_wp2_with (first | (go_at_call 132;refine(Place18 _ _ _).mono ?_;rintro e w' ⟨rfl,rfl⟩))
     go_ret
     exact⟨by(rw [HF.out];rfl),HE.out⟩
    | true =>
     cases h2:plcB t n with
     | false =>
      have HF:Hid (chkQ k f t ws rad most n=180):=chkQ_no (by rw [HO.out,h1,h2];rfl)
      clear S0 HO
      go_enter Tryz.func80,Tryz.ntmps80
      go_wp2_with (first | (go_at_call 132;refine(Place18 _ _ _).mono ?_;rintro e w' ⟨rfl,rfl⟩))
      go_ret
      exact⟨by(rw [HF.out];rfl),HE.out⟩
     | true =>
      have HF:Hid (chkQ k f t ws rad most n=0):=chkQ_yes (by rw [HO.out,h1,h2];rfl)
      clear S0 HO
      go_enter Tryz.func80,Tryz.ntmps80
      go_wp2_with (first | (go_at_call 132;refine(Place18 _ _ _).mono ?_;rintro e w' ⟨rfl,rfl⟩))
      go_ret
      exact⟨by(rw [HF.out];rfl),HE.out⟩
end
section
open Go Go.RowKit
theorem StepRunR (k f t:Int) (pw:Option Addr) (nw cw:Nat) (rad most:Int) (po:Option Addr) (no co:Nat) (O:List Int) (pt:Option Addr) (nt ct:Nat) (T:List Int) (pr:Option Addr) (nr cr:Nat) (R:List Int) (pv:Option Addr) (nv cv:Nat) (V:List Int) (w:World) (n i:Nat) (p:List Sq × List Sq) (ps:Option Addr) (ns cs:Nat) (pm:Option Addr) (nm cm:Nat) (wk:Nat) (hO:Rd w 1 po no (encI O)) (hT:Rd w 1 pt nt (encI T)) (hR:Rd w 1 pr nr (encI R)) (hV:Rd w 1 pv nv (encI V)) (hct:nt≤ct) (hcv:nv≤cv)
  (hck:checkR O T R V=true) (hn:O.length=n+1) (h200:n≤200) (hi:i≤200) (hI:RunI n i p) (h1:1≤wk) (h16:wk≤16) (hs:Rd w 4 ps ns (encQ p.1)) (hm:Rd w 4 pm nm (encQ p.2)) :
  Calls Tryz.prog 55 #[.agg #[.int .i64 k,.int .i64 f,.int .i64 t,.slice pw nw cw,.int .i64 rad,.int .i64 most],.agg #[.slice po no co,.slice pt nt ct,.slice pr nr cr,.slice pv nv cv],.slice ps ns cs,.slice pm nm cm,.int .i64 wk] w fun e w'=>∃ q c q2 c2,e=.returned (.tuple #[.slice q (stepM (nextL k rad true O T R V) p.1 p.2).1.length c,.slice q2 (stepM (nextL k rad true O T R V) p.1 p.2).2.length c2,.int .i64 0]) ∧
   Sep w w' [.own 146 4 q (stepM (nextL k rad true O T R V) p.1 p.2).1.length c (encQ (stepM (nextL k rad true O T R V) p.1 p.2).1),.own 138 4 q2 (stepM (nextL k rad true O T R V) p.1 p.2).2.length c2 (encQ (stepM (nextL k rad true O T R V) p.1 p.2).2)]:=by
 have hl:Leads n (nextL k rad true O T R V):=next_leads hck hn
 have hms:∀ x∈p.2,mayB x=true∧x.v<n:=fun x hx=>by
  obtain⟨a,b⟩:=hI.ms x hx
  exact⟨may_run a h200 (by omega) (by omega),a.2.2.2⟩
 refine Step19 k f t pw nw cw rad most po no co pt nt ct pr nr cr pv nv cv n (nextL k rad true O T R V) ps ns cs p.1 pm nm cm p.2 wk w (by rw [hO.nI,hn]) h200 h1 h16 hs hm hI.kst
  (fun x hx=>by
   obtain⟨a,b,c⟩:=hI.st x hx
   exact⟨may_run a h200 (by omega) (by omega),a.2.2.2⟩) hms (fun x hx=>Nat.le_trans (next_up hck hn (hI.ms x hx).1) h200)
  (by rw [hs.nQ];have:=run_most hI.kst (fun x hx=>(hI.st x hx).1);omega) (by rw [hm.nQ];have:=run_most hI.kms (fun x hx=>(hI.ms x hx).1);omega)
  (fun W h=>?_) (fun x hx W h=>?_)
 ·have:=Check04 po no co O pt nt ct T pr nr cr R pv nv cv V W (hO.ext h) (hT.ext h) (hR.ext h) (hV.ext h) hct hcv
  rw [hck] at this
  exact this
 ·have hN:=Next18 k f t pw nw cw rad most po no co O pt nt ct T pr nr cr R pv nv cv V W x.s x.r x.v x.d (hO.ext h) (hT.ext h) (hR.ext h) (hV.ext h) hct hcv (fun v _=>by
   rw [hck]
   have:=out_2000 hck v
   omega)
  obtain⟨a1,a2⟩:=hI.ms x hx
  obtain⟨x1,x2,x3,x4⟩:=a1
  have hc:nextC true O R ⟨x.s,x.r,x.v,x.d⟩=0:=by
   obtain⟨e1,_⟩:=checkR_half hck
   have hb:outB true (if x.r=1 then R else O) x.v=true:=by
    rw [outB_iff]
    split
    ·refine⟨rfl,x3,?_⟩;omega
    ·refine⟨rfl,x3,?_⟩;omega
   unfold nextC
   rw [hb]
   exact nxC_0 ⟨rfl,x2,by show 0≤x.d;omega,by show x.d≤200;omega⟩
  rw [hck,hc] at hN
  exact hN
theorem Check20 (k f t:Int) (pw:Option Addr) (nw cw:Nat) (ws:List ByteArray) (rad most:Int) (po:Option Addr) (no co:Nat) (O:List Int) (pt:Option Addr) (nt ct:Nat) (T:List Int) (pr:Option Addr) (nr cr:Nat) (R:List Int) (pv:Option Addr) (nv cv:Nat) (V:List Int) (w:World) (hO:Rd w 1 po no (encI O)) (hT:Rd w 1 pt nt (encI T)) (hR:Rd w 1 pr nr (encI R)) (hV:Rd w 1 pv nv (encI V)) (hct:nt≤ct) (hcv:nv≤cv) (hW:Rd w 1 pw nw (encS ws)) (hz:∀ s∈ws,s.size≤1000000) (h1000:no≤1000) :
  Calls Tryz.prog 53 #[.agg #[.int .i64 k,.int .i64 f,.int .i64 t,.slice pw nw cw,.int .i64 rad,.int .i64 most],.agg #[.slice po no co,.slice pt nt ct,.slice pr nr cr,.slice pv nv cv]] w fun e w'=>e=.returned (.int .i64 (chkJ (checkR O T R V) k f t ws rad most no))∧Ext w w':=by
 have HCK:=Lib.hid (fun W (h:Ext w W)=>Check04 po no co O pt nt ct T pr nr cr R pv nv cv V W (hO.ext h) (hT.ext h) (hR.ext h) (hV.ext h) hct hcv)
 have HQ:=Lib.hid (fun W (h:Ext w W)=>Check18 k f t pw nw cw ws rad most ((no:Int) - 1) W (hW.ext h) hz)
 have S0:=Lib.hid (((Sep.start w).al #[.int .i64 k,.int .i64 f,.int .i64 t,.slice pw nw cw,.int .i64 rad,.int .i64 most] 24 w.heap.size rfl).al #[.slice po no co,.slice pt nt ct,.slice pr nr cr,.slice pv nv cv] 27 (w.heap.size+1) (by simp))
 clear hO hT hR hV hct hcv hW hz
 obtain⟨ck,hck⟩:∃ ck,checkR O T R V=ck:=⟨_,rfl⟩
 rw [hck] at HCK ⊢
 obtain⟨x,hx⟩:∃ x,chkQ k f t ws rad most ((no:Int) - 1)=x:=⟨_,rfl⟩
 rw [hx] at HQ
 have e1:chkJ ck k f t ws rad most no=if ck=true then x else 40:=by unfold chkJ;rw [hx]
 rw [e1]
 clear e1 hx hck
 go_enter Tryz.func53,Tryz.ntmps53
 cases ck with
 | false =>
  go_wp2_with (go_at_call 96;go_must (refine(HCK.out _ S0.out.ext).mono ?_;rintro e w1 ⟨rfl,hb⟩;have S1:=Lib.hid (S0.out.call hb);clear hb))
  go_ret
  exact⟨rfl,S1.out.ext⟩
 | true =>
  go_wp2_with (first | (go_at_call 96;go_must (refine(HCK.out _ S0.out.ext).mono ?_;rintro e w1 ⟨rfl,hb⟩;have S1:=Lib.hid (S0.out.call hb);obtain⟨b0,b1,b2,b3,b4,b5,bz⟩:=bkc0c1c2c3c4c5l (S1.out.blk 1 rfl);obtain⟨c0,cz⟩:=bkc0l (S1.out.blk 0 rfl);clear hb)) | (go_at_call 80;go_must (refine(HQ.out _ S1.out.ext).mono ?_;rintro e w2 ⟨rfl,hb⟩;have S2:=Lib.hid (S1.out.call hb);clear hb)))
  go_ret
  exact⟨rfl,S2.out.ext⟩
theorem RunRefErr (k f t:Int) (pw:Option Addr) (nw cw:Nat) (ws:List ByteArray) (rad most:Int) (po:Option Addr) (no co:Nat) (O:List Int) (pt:Option Addr) (nt ct:Nat) (T:List Int) (pr:Option Addr) (nr cr:Nat) (R:List Int) (pv:Option Addr) (nv cv:Nat) (V:List Int) (w:World) (pl:Option Addr) (nl cl:Nat) (wv bud:Int) (hO:Rd w 1 po no (encI O)) (hT:Rd w 1 pt nt (encI T)) (hR:Rd w 1 pr nr (encI R)) (hV:Rd w 1 pv nv (encI V)) (hct:nt≤ct) (hcv:nv≤cv)
  (hW:Rd w 1 pw nw (encS ws)) (hz:∀ s∈ws,s.size≤1000000) (h1000:no≤1000)
  (h:chkJ (checkR O T R V) k f t ws rad most no≠0∨¬ (1≤wv∧wv≤16)∨bud<1) :
  Calls Tryz.prog 18 #[.agg #[.int .i64 k,.int .i64 f,.int .i64 t,.slice pw nw cw,.int .i64 rad,.int .i64 most],.agg #[.slice po no co,.slice pt nt ct,.slice pr nr cr,.slice pv nv cv],.slice pl nl cl,.int .i64 wv,.int .i64 bud] w (RunQ false 0 [] 0 (if chkJ (checkR O T R V) k f t ws rad most no≠0 then chkJ (checkR O T R V) k f t ws rad most no else 1) w):=by
 have HCJ:=Lib.hid (fun W (h:Ext w W)=>Check20 k f t pw nw cw ws rad most po no co O pt nt ct T pr nr cr R pv nv cv V W (hO.ext h) (hT.ext h) (hR.ext h) (hV.ext h) hct hcv (hW.ext h) hz h1000)
 obtain⟨E,hE⟩:∃ E,chkJ (checkR O T R V) k f t ws rad most no=E:=⟨_,rfl⟩
 rw [hE] at HCJ h ⊢
 have S0:=Lib.hid ((((Sep.start w).al #[.int .i64 k,.int .i64 f,.int .i64 t,.slice pw nw cw,.int .i64 rad,.int .i64 most] 24 w.heap.size rfl).al #[.slice po no co,.slice pt nt ct,.slice pr nr cr,.slice pv nv cv] 27 (w.heap.size+1) (by simp)).al #[.bool false,.int .i64 0,.slice none 0 0] 34 (w.heap.size+1+1) (by simp))
 clear hO hT hR hV hct hcv hW hz hE h1000
 by_cases h0:E=0
 ·subst h0
  rw [if_neg (by simp)]
  by_cases h1:wv<1
  ·clear h
   go_enter Tryz.func18,Tryz.ntmps18
   go_wp2_with (go_at_call 53;go_must (refine(HCJ.out _ S0.out.ext).mono ?_;rintro e w1 ⟨rfl,hb⟩;have S1:=Lib.hid (S0.out.call hb);obtain⟨y0,y1,y2,yz,f0,f1,f2⟩:=bkc0c1c2lz0z1z2 (S1.out.blk 0 rfl);obtain⟨b0,b1,b2,b3,bz⟩:=bkc0c1c2c3l (S1.out.blk 1 rfl);obtain⟨a0,a1,a2,a3,a4,a5,az⟩:=bkc0c1c2c3c4c5l (S1.out.blk 2 rfl);clear hb))
   have S9:=Lib.hid (((S1.out.set 0 rfl 0 (.bool false)).set 0 rfl 1 (.int .i64 0)).set 0 rfl 2 (.slice none 0 0))
   obtain⟨x0,x1,x2⟩:=bkc0c1c2 (S9.out.blk 0 rfl)
   refine bodyPost_ret (v:=.tuple #[.agg #[.bool false,.int .i64 0,.slice none 0 0],.int .i64 0,.int .i64 1]) (by simp [results,Tryz.results18,go_sem,x0,x1,x2,Tryz.sizeOf34,Tryz.isAgg34]) rfl ?_
   have SN:=((S9.out.nilrow 105 2).pick (Δ:=[Pc.own 105 2 none 0 0 (encE [])]) [0] (by decide) rfl)
   exact⟨none,0,rfl,SN⟩
  ·have e1:decide (wv<1)=false:=by simpa using h1
   by_cases h2:16<wv
   ·clear h
    have e2:decide (16<wv)=true:=by simpa using h2
    go_enter Tryz.func18,Tryz.ntmps18
    go_wp2_with (go_at_call 53;go_must (refine(HCJ.out _ S0.out.ext).mono ?_;rintro e w1 ⟨rfl,hb⟩;have S1:=Lib.hid (S0.out.call hb);obtain⟨y0,y1,y2,yz,f0,f1,f2⟩:=bkc0c1c2lz0z1z2 (S1.out.blk 0 rfl);obtain⟨b0,b1,b2,b3,bz⟩:=bkc0c1c2c3l (S1.out.blk 1 rfl);obtain⟨a0,a1,a2,a3,a4,a5,az⟩:=bkc0c1c2c3c4c5l (S1.out.blk 2 rfl);clear hb))
    have S9:=Lib.hid (((S1.out.set 0 rfl 0 (.bool false)).set 0 rfl 1 (.int .i64 0)).set 0 rfl 2 (.slice none 0 0))
    obtain⟨x0,x1,x2⟩:=bkc0c1c2 (S9.out.blk 0 rfl)
    refine bodyPost_ret (v:=.tuple #[.agg #[.bool false,.int .i64 0,.slice none 0 0],.int .i64 0,.int .i64 1]) (by simp [results,Tryz.results18,go_sem,x0,x1,x2,Tryz.sizeOf34,Tryz.isAgg34]) rfl ?_
    have SN:=((S9.out.nilrow 105 2).pick (Δ:=[Pc.own 105 2 none 0 0 (encE [])]) [0] (by decide) rfl)
    exact⟨none,0,rfl,SN⟩
   ·have e2:decide (16<wv)=false:=by simpa using h2
    have h3:bud<1:=by omega
    clear h
    go_enter Tryz.func18,Tryz.ntmps18
    go_wp2_with (go_at_call 53;go_must (refine(HCJ.out _ S0.out.ext).mono ?_;rintro e w1 ⟨rfl,hb⟩;have S1:=Lib.hid (S0.out.call hb);obtain⟨y0,y1,y2,yz,f0,f1,f2⟩:=bkc0c1c2lz0z1z2 (S1.out.blk 0 rfl);obtain⟨b0,b1,b2,b3,bz⟩:=bkc0c1c2c3l (S1.out.blk 1 rfl);obtain⟨a0,a1,a2,a3,a4,a5,az⟩:=bkc0c1c2c3c4c5l (S1.out.blk 2 rfl);clear hb))
    have S9:=Lib.hid (((S1.out.set 0 rfl 0 (.bool false)).set 0 rfl 1 (.int .i64 0)).set 0 rfl 2 (.slice none 0 0))
    obtain⟨x0,x1,x2⟩:=bkc0c1c2 (S9.out.blk 0 rfl)
    refine bodyPost_ret (v:=.tuple #[.agg #[.bool false,.int .i64 0,.slice none 0 0],.int .i64 0,.int .i64 1]) (by simp [results,Tryz.results18,go_sem,x0,x1,x2,Tryz.sizeOf34,Tryz.isAgg34]) rfl ?_
    have SN:=((S9.out.nilrow 105 2).pick (Δ:=[Pc.own 105 2 none 0 0 (encE [])]) [0] (by decide) rfl)
    exact⟨none,0,rfl,SN⟩
 ·rw [if_pos h0]
  have d1:decide (E=0)=false:=by simpa using h0
  have d2:(E == 0)=false:=by simpa using h0
  clear h h0
  go_enter Tryz.func18,Tryz.ntmps18
  go_wp2_with (go_at_call 53;go_must (refine(HCJ.out _ S0.out.ext).mono ?_;rintro e w1 ⟨rfl,hb⟩;have S1:=Lib.hid (S0.out.call hb);obtain⟨y0,y1,y2,yz,f0,f1,f2⟩:=bkc0c1c2lz0z1z2 (S1.out.blk 0 rfl);obtain⟨b0,b1,b2,b3,bz⟩:=bkc0c1c2c3l (S1.out.blk 1 rfl);obtain⟨a0,a1,a2,a3,a4,a5,az⟩:=bkc0c1c2c3c4c5l (S1.out.blk 2 rfl);clear hb))
  have S9:=Lib.hid (((S1.out.set 0 rfl 0 (.bool false)).set 0 rfl 1 (.int .i64 0)).set 0 rfl 2 (.slice none 0 0))
  obtain⟨x0,x1,x2⟩:=bkc0c1c2 (S9.out.blk 0 rfl)
  refine bodyPost_ret (v:=.tuple #[.agg #[.bool false,.int .i64 0,.slice none 0 0],.int .i64 0,.int .i64 E]) (by simp [results,Tryz.results18,go_sem,x0,x1,x2,Tryz.sizeOf34,Tryz.isAgg34]) rfl ?_
  have SN:=((S9.out.nilrow 105 2).pick (Δ:=[Pc.own 105 2 none 0 0 (encE [])]) [0] (by decide) rfl)
  exact⟨none,0,rfl,SN⟩
theorem runR_mk {k t:Int} {L:List Po} {ws:List ByteArray} {most bud:Int} {m:Nat} {p:List Sq × List Sq} {w:World} {x:Ending} {w':World} (h:∃ b d F,((m:Int)+1≤bud→AnsD k t L ws most p b d F∧RunQ b d F ((m:Int)+1) 0 w x w')∧(bud<(m:Int)+1→RunQ false 0 [] bud 251 w x w')):RunR k t L ws most bud m p w x w':=h
theorem RunRefOk (k f t:Int) (pw:Option Addr) (nw cw:Nat) (ws:List ByteArray) (rad most:Int) (po:Option Addr) (no co:Nat) (O:List Int) (pt:Option Addr) (nt ct:Nat) (T:List Int) (pr:Option Addr) (nr cr:Nat) (R:List Int) (pv:Option Addr) (nv cv:Nat) (V:List Int) (w:World) (pl:Option Addr) (nl cl:Nat) (hs:List Hd) (L:List Po) (wk:Nat) (bud:Int) (n m:Nat) (rn:Nat→List Sq × List Sq) (hO:Rd w 1 po no (encI O)) (hT:Rd w 1 pt nt (encI T)) (hR:Rd w 1 pr nr (encI R)) (hV:Rd w 1 pv nv (encI V)) (hct:nt≤ct) (hcv:nv≤cv)
  (hL:RdP w pl nl hs L) (hW:Rd w 1 pw nw (encS ws)) (hz:∀ s∈ws,s.size≤1000000) (hck:checkR O T R V=true) (hn:O.length=n+1) (h200:n≤200) (h1:1≤wk) (h16:wk≤16) (hq:chkQ k f t ws rad most (n:Int)=0)
  (hb1:1≤bud) (hb2:bud≤9223372036854775807) (hm:m<200) (hk:k=1∨k=2∨k=3) (ht:I64 t) (hcw:nw≤cw) (hnw:nw≤100) (hok:PoOk L)
  (hr0:rn 0=([],startQ k f t 0)) (hrn:∀ i,RunI n i (rn i)) (hrs:∀ i,rn (i+1)=stepM (nextL k rad true O T R V) (rn i).1 (rn i).2)
  (hdn:doneB k t (rn (m+1))=true) (hfn:∀ j,j<m→doneB k t (rn (j+1))=false) :
  Calls Tryz.prog 18 #[.agg #[.int .i64 k,.int .i64 f,.int .i64 t,.slice pw nw cw,.int .i64 rad,.int .i64 most],.agg #[.slice po no co,.slice pt nt ct,.slice pr nr cr,.slice pv nv cv],.slice pl nl cl,.int .i64 wk,.int .i64 bud] w (RunR k t L ws most bud m (rn (m+1)) w):=by
 have hno:=hO.nI
 have hcj:chkJ (checkR O T R V) k f t ws rad most no=0:=by
  unfold chkJ
  rw [if_pos hck,hno,hn]
  have e:(((n+1:Nat):Int) - 1)=(n:Int):=by omega
  rw [e];exact hq
 have HCJ:=Lib.hid (fun W (h:Ext w W)=>Check20 k f t pw nw cw ws rad most po no co O pt nt ct T pr nr cr R pv nv cv V W (hO.ext h) (hT.ext h) (hR.ext h) (hV.ext h) hct hcv (hW.ext h) hz (by omega))
 rw [hcj] at HCJ
 have HST:=Lib.hid (fun i (hi:i≤200) (W:World) (E:Ext w W) (ps:Option Addr) (ns cs:Nat) (pm:Option Addr) (nm cm:Nat) (hs:Rd W 4 ps ns (encQ (rn i).1)) (hm:Rd W 4 pm nm (encQ (rn i).2)) =>
  StepRunR k f t pw nw cw rad most po no co O pt nt ct T pr nr cr R pv nv cv V W n i (rn i) ps ns cs pm nm cm wk (hO.ext E) (hT.ext E) (hR.ext E) (hV.ext E) hct hcv hck hn h200 hi (hrn i) h1 h16 hs hm)
 have HLN:=Lib.hid (fun i=>show (rn i).1.length≤400 by have:=run_most (hrn i).kst (fun x hx=>((hrn i).st x hx).1);omega)
 have hdne:∀ i (hi:i≤200) (ps:Option Addr) (ns cs:Nat) (pm:Option Addr) (nm cm:Nat),ns=(rn i).1.length→∃ b d F,AnsD k t L ws most (rn i) b d F∧∀ W,Ext w W→Rd W 4 ps ns (encQ (rn i).1)→Rd W 4 pm nm (encQ (rn i).2) →
   Calls Tryz.prog 56 #[.agg #[.int .i64 k,.int .i64 f,.int .i64 t,.slice pw nw cw,.int .i64 rad,.int .i64 most],.slice pl nl cl,.slice ps ns cs,.slice pm nm cm] W (DoneQ b d F (doneB k t (rn i)) W):=fun i hi ps ns cs pm nm cm hns=>by
  have hx:∀ x∈(rn i).1,x.I∧-1000000≤x.d∧x.d≤1000000:=fun x hx=>by
   obtain⟨⟨x1,x2,x3,x4⟩,x5,x6⟩:=(hrn i).st x hx
   refine⟨?_,by omega,by omega⟩
   unfold Sq.I I64
   have q1:IntKind.i64.min = -9223372036854775808:=rfl
   have q2:IntKind.i64.max=9223372036854775807:=rfl
   refine⟨?_,?_,?_,?_⟩ <;> (show (_ && _)=true;simp;omega)
  obtain⟨b,d,F,hA,hD⟩:=Done_run k f t pw nw cw ws rad most pl nl cl hs L ps ns cs (rn i).1 pm nm cm (rn i).2 hk ht hcw hnw hok (fun x h=>(hx x h).1) (fun x h=>(hx x h).2) (by have:=HLN.out i;omega)
  exact⟨b,d,F,hA,fun W E g1 g2=>(hD W (hL.ext E) (hW.ext E) g1 g2).2⟩
 have HDN:=Lib.hid hdne
 have HRS:=Lib.hid hrs
 have HSQ:=Lib.hid (fun W=>Start18 k f t pw nw cw rad most 0 W)
 have HR0:=Lib.hid hr0
 have HDM:=Lib.hid hdn
 have HFN:=Lib.hid hfn
 have c3:decide ((wk:Int)<1)=false:=by simp;omega
 have c4:decide (16<(wk:Int))=false:=by simp;omega
 have c5:decide (bud<1)=false:=by simp;omega
 have S0:=Lib.hid ((((Sep.start w).al #[.int .i64 k,.int .i64 f,.int .i64 t,.slice pw nw cw,.int .i64 rad,.int .i64 most] 24 w.heap.size rfl).al #[.slice po no co,.slice pt nt ct,.slice pr nr cr,.slice pv nv cv] 27 (w.heap.size+1) (by simp)).al #[.bool false,.int .i64 0,.slice none 0 0] 34 (w.heap.size+1+1) (by simp))
 clear hO hT hR hV hct hcv hL hW hz hck hn h200 h1 h16 hq hk ht hcw hnw hok hr0 hrn hrs hdn hfn hdne hcj hno
 go_enter Tryz.func18,Tryz.ntmps18
 go_wp2_with (first
  | (go_at_call 54;have _t:=S1;go_must (refine(HSQ.out _).mono ?_;rintro e w2 ⟨q2,c2,rfl,Z⟩;have S2:=Lib.hid ((S1.out.comp Z).nilrow 146 4);clear a0 a1 a2 a3 a4 a5 az b0 b1 b2 b3 bz;clear y0 y1 y2 yz f0 f1 f2;clear Z))
  | (go_at_call 53;go_must (refine(HCJ.out _ S0.out.ext).mono ?_;rintro e w1 ⟨rfl,hb⟩;have S1:=Lib.hid (S0.out.call hb);obtain⟨y0,y1,y2,yz,f0,f1,f2⟩:=bkc0c1c2lz0z1z2 (S1.out.blk 0 rfl);obtain⟨b0,b1,b2,b3,bz⟩:=bkc0c1c2c3l (S1.out.blk 1 rfl);obtain⟨a0,a1,a2,a3,a4,a5,az⟩:=bkc0c1c2c3c4c5l (S1.out.blk 2 rfl);clear hb)))
 have S3:Hid (Sep w w2 [.own 146 4 none 0 0 (encQ (rn 0).1),.own 138 4 q2 (startQ k f t 0).length c2 (encQ (rn 0).2),.blk (w.heap.size+1+1) 34 #[.bool false,.int .i64 0,.slice none 0 0],.blk (w.heap.size+1) 27 #[.slice po no co,.slice pt nt ct,.slice pr nr cr,.slice pv nv cv],.blk w.heap.size 24 #[.int .i64 k,.int .i64 f,.int .i64 t,.slice pw nw cw,.int .i64 rad,.int .i64 most]]):=by unfold Hid;rw [HR0.out];exact S2.out
 clear S0 S1 S2 HCJ HSQ
 go_loopw [14,15,16,17,18,19,20,21] (fun sv mv i _ _ _ _ _ wr=>∃ (j:Nat) (ps:Option Addr) (ns cs:Nat) (pm:Option Addr) (nm cm:Nat),j≤m∧(j:Int)≤bud∧i=.int .i64 ((j:Int)+1)∧sv=.slice ps ns cs∧mv=.slice pm nm cm∧Hid (Sep w wr [.own 146 4 ps ns cs (encQ (rn j).1),.own 138 4 pm nm cm (encQ (rn j).2),.blk (w.heap.size+1+1) 34 #[.bool false,.int .i64 0,.slice none 0 0],.blk (w.heap.size+1) 27 #[.slice po no co,.slice pt nt ct,.slice pr nr cr,.slice pv nv cv],.blk w.heap.size 24 #[.int .i64 k,.int .i64 f,.int .i64 t,.slice pw nw cw,.int .i64 rad,.int .i64 most]])) (fun _ _ i _ _ _ _ _ _=>m+2 - (intOf i).toNat)
 case atStart=>exact⟨0,none,0,0,q2,(startQ k f t 0).length,c2,Nat.zero_le _,by omega,by simp,rfl,rfl,S3⟩
 case round =>
  clear S3
  obtain⟨j,ps,ns,cs,pm,nm,cm,hjm,hjb,rfl,rfl,rfl,SH⟩:=hrel
  have d1:(0:Int)≤(j:Int):=by omega
  have d2:(j:Int)≤1000:=by omega
  by_cases hlt:(j:Int)+1≤bud
  ·have e1:decide ((j:Int)+1≤bud)=true:=by simpa using hlt
   have HE0:=Lib.hid (HST.out j (by omega) wr SH.out.ext ps ns cs pm nm cm (SH.out.rdx 0 rfl) (SH.out.rdx 1 rfl))
   rw [← HRS.out j] at HE0
   have hDN:=HDN.out (j+1) (by omega)
   obtain⟨Y,hY⟩:∃ Y,rn (j+1)=Y:=⟨_,rfl⟩
   have HRY:=Lib.hid hY
   rw [hY] at HE0 hDN
   have HD:=Lib.hid hDN
   obtain⟨dn,hdnb⟩:∃ dn,doneB k t Y=dn:=⟨_,rfl⟩
   rw [hdnb] at HD
   have HDB:=Lib.hid hdnb
   clear hY hDN hdnb
   obtain⟨b0,b1,b2,b3,bz⟩:=bkc0c1c2c3l (SH.out.blk 3 rfl)
   obtain⟨a0,a1,a2,a3,a4,a5,az⟩:=bkc0c1c2c3c4c5l (SH.out.blk 4 rfl)
   by_cases hjm2:j=m
   ·obtain rfl:dn=true:=by rw [← HDB.out,← HRY.out,hjm2,HDM.out]
    have HJ:=Lib.hid hjm2
    clear hjm2
    go_wp2_with (first
     | (go_at_call 56;have _t:=S1;go_must (obtain⟨yb,yd,yF,hAn,hDn⟩:=HD.out q3 Y.1.length c3' q4 Y.2.length c4' rfl;refine(hDn _ S1.out.ext (S1.out.rdx 0 rfl) (S1.out.rdx 1 rfl)).mono ?_;rintro e w4 ⟨q5,c5',rfl,Z⟩;have HAN:=Lib.hid hAn;have S4:=Lib.hid ((S1.out.comp Z).al #[.bool yb,.int .i64 yd,.slice q5 yF.length c5'] 34 w4.heap.size rfl);clear Z hAn hDn;clear a0 a1 a2 a3 a4 a5 az b0 b1 b2 b3 bz;obtain⟨s0,s1,s2,sz⟩:=bkc0c1c2l (S4.out.blk 0 rfl);obtain⟨y0,y1,y2,yz,f0,f1,f2⟩:=bkc0c1c2lz0z1z2 (S4.out.blk 6 rfl)))
     | (go_at_call 55;go_must (refine HE0.out.mono ?_;rintro e w3 ⟨q3,c3',q4,c4',rfl,Z⟩;have S1:=Lib.hid (SH.out.comp Z);clear Z;clear a0 a1 a2 a3 a4 a5 az b0 b1 b2 b3 bz;obtain⟨b0,b1,b2,b3,bz⟩:=bkc0c1c2c3l (S1.out.blk 5 rfl);obtain⟨a0,a1,a2,a3,a4,a5,az⟩:=bkc0c1c2c3c4c5l (S1.out.blk 6 rfl))))
    have S9:=Lib.hid (((S4.out.set 6 rfl 0 (.bool yb)).set 6 rfl 1 (.int .i64 yd)).set 6 rfl 2 (.slice q5 yF.length c5'))
    obtain⟨x0,x1,x2⟩:=bkc0c1c2 (S9.out.blk 6 rfl)
    refine bodyPost_ret (v:=.tuple #[.agg #[.bool yb,.int .i64 yd,.slice q5 yF.length c5'],.int .i64 ((j:Int)+1),.int .i64 0]) (by simp [results,Tryz.results18,go_sem,x0,x1,x2,Tryz.sizeOf34,Tryz.isAgg34]) rfl ?_
    have hj:=HJ.out
    subst hj
    exact runR_mk ⟨yb,yd,yF,fun _=>⟨by rw [HRY.out];exact HAN.out,q5,c5',rfl,S9.out.pick [1] (by decide) rfl⟩,fun h=>by omega⟩
   ·have hjm3:j<m:=by omega
    obtain rfl:dn=false:=by rw [← HDB.out,← HRY.out,HFN.out j hjm3]
    clear hjm2
    go_wp2_with (first
     | (go_at_call 56;have _t:=S1;go_must (obtain⟨yb,yd,yF,hAn,hDn⟩:=HD.out q3 Y.1.length c3' q4 Y.2.length c4' rfl;refine(hDn _ S1.out.ext (S1.out.rdx 0 rfl) (S1.out.rdx 1 rfl)).mono ?_;rintro e w4 ⟨q5,c5',rfl,Z⟩;have S4:=Lib.hid ((S1.out.comp Z).al #[.bool yb,.int .i64 yd,.slice q5 yF.length c5'] 34 w4.heap.size rfl);clear Z hAn hDn;clear a0 a1 a2 a3 a4 a5 az b0 b1 b2 b3 bz))
     | (go_at_call 55;go_must (refine HE0.out.mono ?_;rintro e w3 ⟨q3,c3',q4,c4',rfl,Z⟩;have S1:=Lib.hid (SH.out.comp Z);clear Z;clear a0 a1 a2 a3 a4 a5 az b0 b1 b2 b3 bz;obtain⟨b0,b1,b2,b3,bz⟩:=bkc0c1c2c3l (S1.out.blk 5 rfl);obtain⟨a0,a1,a2,a3,a4,a5,az⟩:=bkc0c1c2c3c4c5l (S1.out.blk 6 rfl))))
    go_roundw
    case rel=>exact⟨j+1,q3,Y.1.length,c3',q4,Y.2.length,c4',by omega,by omega,by go_num,rfl,rfl,by unfold Hid;rw [HRY.out];exact S4.out.pick [2,3,6,7,8] (by decide) rfl⟩
    case measure=>simp [intOf];omega
  ·have e1:decide ((j:Int)+1≤bud)=false:=by simpa using hlt
   have hjb2:(j:Int)=bud:=by omega
   have HJ:=Lib.hid hjb2
   clear hjb2
   obtain⟨y0,y1,y2,yz,f0,f1,f2⟩:=bkc0c1c2lz0z1z2 (SH.out.blk 2 rfl)
   go_wp2
   have S9:=Lib.hid (((SH.out.set 2 rfl 0 (.bool false)).set 2 rfl 1 (.int .i64 0)).set 2 rfl 2 (.slice none 0 0))
   obtain⟨x0,x1,x2⟩:=bkc0c1c2 (S9.out.blk 2 rfl)
   refine bodyPost_ret (v:=.tuple #[.agg #[.bool false,.int .i64 0,.slice none 0 0],.int .i64 bud,.int .i64 251]) (by simp [results,Tryz.results18,go_sem,x0,x1,x2,Tryz.sizeOf34,Tryz.isAgg34]) rfl ?_
   have SN:=((S9.out.nilrow 105 2).pick (Δ:=[Pc.own 105 2 none 0 0 (encE [])]) [0] (by decide) rfl)
   have hj:=HJ.out
   exact runR_mk ⟨false,0,[],fun h=>by omega,fun _=>⟨none,0,rfl,SN⟩⟩
theorem RunRef (k f t:Int) (pw:Option Addr) (nw cw:Nat) (ws:List ByteArray) (rad most:Int) (po:Option Addr) (no co:Nat) (O:List Int) (pt:Option Addr) (nt ct:Nat) (T:List Int) (pr:Option Addr) (nr cr:Nat) (R:List Int) (pv:Option Addr) (nv cv:Nat) (V:List Int) (w:World) (pl:Option Addr) (nl cl:Nat) (hs:List Hd) (L:List Po) (wv bud:Int) (hO:Rd w 1 po no (encI O)) (hT:Rd w 1 pt nt (encI T)) (hR:Rd w 1 pr nr (encI R)) (hV:Rd w 1 pv nv (encI V)) (hct:nt≤ct) (hcv:nv≤cv)
  (hL:RdP w pl nl hs L) (hW:Rd w 1 pw nw (encS ws)) (h200:no≤200) (hz:∀ s∈ws,s.size≤1000000) (hb2:bud≤9223372036854775807)
  (ht:I64 t) (hcw:nw≤cw) (hnw:nw≤100) (hok:PoOk L) :
  Calls Tryz.prog 18 #[.agg #[.int .i64 k,.int .i64 f,.int .i64 t,.slice pw nw cw,.int .i64 rad,.int .i64 most],.agg #[.slice po no co,.slice pt nt ct,.slice pr nr cr,.slice pv nv cv],.slice pl nl cl,.int .i64 wv,.int .i64 bud] w fun x w'=>∃ b d F n e,RunS O T R V L k f t ws rad most wv bud b d F n e∧RunQ b d F n e w x w':=by
 have hno:=hO.nI
 by_cases h0:chkJ (checkR O T R V) k f t ws rad most O.length=0
 ·by_cases h1:1≤wv∧wv≤16∧1≤bud
  ·have hck:checkR O T R V=true:=by
    cases hc:checkR O T R V with
    | true=>rfl
    | false=>rw [hc] at h0;unfold chkJ at h0;rw [if_neg (by simp)] at h0;cases h0
   have hq:chkQ k f t ws rad most ((O.length:Int) - 1)=0:=by rw [hck] at h0;unfold chkJ at h0;rw [if_pos rfl] at h0;exact h0
   obtain⟨n,hn⟩:∃ n,O.length=n+1:=by
    obtain⟨e1,e2,e3,e4⟩:=checkR_half hck
    obtain⟨r1,r2,r3,r4,r5,r6⟩:=offB_parts (halfB_off e3)
    exact⟨O.length - 1,by omega⟩
   have hq2:chkQ k f t ws rad most (n:Int)=0:=by rw [hn] at hq;rw [← hq];congr 1;omega
   obtain⟨hk,hI,m,hm,hd,hf⟩:=run_m (k:=k) (rad:=rad) hck hn (by omega) hq2
   obtain⟨wk,rfl⟩:∃ wk:Nat,wv=(wk:Int):=⟨wv.toNat,by omega⟩
   refine(RunRefOk k f t pw nw cw ws rad most po no co O pt nt ct T pr nr cr R pv nv cv V w pl nl cl hs L wk bud n m (runM (nextL k rad true O T R V) (startQ k f t 0)) hO hT hR hV hct hcv hL hW hz hck hn (by omega) (by omega) (by omega) hq2 h1.2.2 hb2 (by omega) hk ht hcw hnw hok rfl hI (fun _=>rfl) hd hf).mono ?_
   rintro x w' ⟨b,d,F,g1,g2⟩
   by_cases hb:(m:Int)+1≤bud
   ·obtain⟨a1,a2⟩:=g1 hb
    exact⟨b,d,F,_,_,⟨fun h=>absurd h0 h,fun _ h=>absurd h1 h,fun _ _=>⟨hk,m,by omega,hd,hf,fun _=>⟨a1,rfl,rfl⟩,fun h=>by omega⟩⟩,a2⟩
   ·exact⟨false,0,[],_,_,⟨fun h=>absurd h0 h,fun _ h=>absurd h1 h,fun _ _=>⟨hk,m,by omega,hd,hf,fun h=>absurd h hb,fun _=>⟨rfl,rfl,rfl,rfl,rfl⟩⟩⟩,g2 (by omega)⟩
  ·have h:=RunRefErr k f t pw nw cw ws rad most po no co O pt nt ct T pr nr cr R pv nv cv V w pl nl cl wv bud hO hT hR hV hct hcv hW hz (by omega) (by rw [hno];omega)
   rw [hno,if_neg (by rw [h0];simp)] at h
   rw [hno]
   exact h.mono fun x w' hx=>⟨_,_,_,_,_,⟨fun h=>absurd h0 h,fun _ _=>⟨rfl,rfl,rfl,rfl,rfl⟩,fun _ h=>absurd h h1⟩,hx⟩
 ·have h:=RunRefErr k f t pw nw cw ws rad most po no co O pt nt ct T pr nr cr R pv nv cv V w pl nl cl wv bud hO hT hR hV hct hcv hW hz (by omega) (Or.inl (by rw [hno];exact h0))
  rw [hno,if_pos h0] at h
  rw [hno]
  exact h.mono fun x w' hx=>⟨_,_,_,_,_,⟨fun _=>⟨rfl,rfl,rfl,rfl,rfl⟩,fun h=>absurd h h0,fun h=>absurd h h0⟩,hx⟩
end
section
open Go Go.RowKit
theorem RStepsErr (k f t:Int) (pw:Option Addr) (nw cw:Nat) (rad most:Int) (po:Option Addr) (no co:Nat) (pt:Option Addr) (nt ct:Nat) (pr:Option Addr) (nr cr:Nat) (pv:Option Addr) (nv cv:Nat) (pl:Option Addr) (nl cl:Nat) (wv E:Int) (P:Bool→Int→List (Int × Int)→Int→Int→Prop) (w:World) (hE:E≠0)
  (HRN0:∀ W,Ext w W→Calls Tryz.prog 18 #[.agg #[.int .i64 k,.int .i64 f,.int .i64 t,.slice pw nw cw,.int .i64 rad,.int .i64 most],.agg #[.slice po no co,.slice pt nt ct,.slice pr nr cr,.slice pv nv cv],.slice pl nl cl,.int .i64 wv,.int .i64 1000] W fun x w'=>∃ b d F n e,P b d F n e∧RunQ b d F n e W x w') (HER0:∀ b d F n e,P b d F n e→E=e) :
  Calls Tryz.prog 36 #[.agg #[.int .i64 k,.int .i64 f,.int .i64 t,.slice pw nw cw,.int .i64 rad,.int .i64 most],.agg #[.slice po no co,.slice pt nt ct,.slice pr nr cr,.slice pv nv cv],.slice pl nl cl,.int .i64 wv] w (NdQ [] E w):=by
 have S0:=Lib.hid (((Sep.start w).al #[.int .i64 k,.int .i64 f,.int .i64 t,.slice pw nw cw,.int .i64 rad,.int .i64 most] 24 w.heap.size rfl).al #[.slice po no co,.slice pt nt ct,.slice pr nr cr,.slice pv nv cv] 27 (w.heap.size+1) (by simp))
 have HRN:=Lib.hid HRN0
 have HER:=Lib.hid HER0
 have d1:decide (E=0)=false:=by simpa using hE
 have d2:(E == 0)=false:=by simpa using hE
 clear HRN0 HER0
 go_enter Tryz.func36,Tryz.ntmps36
 go_wp2_with (go_at_call 18;go_must (refine(HRN.out _ S0.out.ext).mono ?_;rintro e w1 ⟨b1',d1',F1,n1',e1',g1,q1,c1,rfl,Z⟩;obtain rfl:=HER.out _ _ _ _ _ g1;have S1:=Lib.hid ((S0.out.call Z.ext).al #[.bool b1',.int .i64 d1',.slice q1 F1.length c1] 34 w1.heap.size rfl);obtain⟨b0,b1,b2,b3,bz⟩:=bkc0c1c2c3l (S1.out.blk 1 rfl);obtain⟨a0,a1,a2,a3,a4,a5,az⟩:=bkc0c1c2c3c4c5l (S1.out.blk 2 rfl);clear Z g1))
 try rw [Exit.noGoto_ret]
 go_ret2
 exact ndQ_nil rfl S1.out.ext
theorem RStepsOk (k f t:Int) (pw:Option Addr) (nw cw:Nat) (_:List ByteArray) (rad most:Int) (po:Option Addr) (no co:Nat) (O:List Int) (pt:Option Addr) (nt ct:Nat) (T:List Int) (pr:Option Addr) (nr cr:Nat) (R:List Int) (pv:Option Addr) (nv cv:Nat) (V:List Int) (pl:Option Addr) (nl cl:Nat) (wk n m:Nat) (rn:Nat→List Sq × List Sq) (w:World) (hO:Rd w 1 po no (encI O)) (hT:Rd w 1 pt nt (encI T)) (hR:Rd w 1 pr nr (encI R)) (hV:Rd w 1 pv nv (encI V)) (hct:nt≤ct) (hcv:nv≤cv)
  (hck:checkR O T R V=true) (hn:O.length=n+1) (h200:n≤200) (h1:1≤wk) (h16:wk≤16) (hm:m<200)
  (hr0:rn 0=([],startQ k f t 0)) (hrn:∀ i,RunI n i (rn i)) (hrs:∀ i,rn (i+1)=stepM (nextL k rad true O T R V) (rn i).1 (rn i).2)
  (P:Bool→Int→List (Int × Int)→Int→Int→Prop)
  (HRN0:∀ W,Ext w W→Calls Tryz.prog 18 #[.agg #[.int .i64 k,.int .i64 f,.int .i64 t,.slice pw nw cw,.int .i64 rad,.int .i64 most],.agg #[.slice po no co,.slice pt nt ct,.slice pr nr cr,.slice pv nv cv],.slice pl nl cl,.int .i64 wk,.int .i64 1000] W fun x w'=>∃ b d F n e,P b d F n e∧RunQ b d F n e W x w') (HER0:∀ b d F n' e,P b d F n' e→0=e∧(m:Int)+1=n') :
  Calls Tryz.prog 36 #[.agg #[.int .i64 k,.int .i64 f,.int .i64 t,.slice pw nw cw,.int .i64 rad,.int .i64 most],.agg #[.slice po no co,.slice pt nt ct,.slice pr nr cr,.slice pv nv cv],.slice pl nl cl,.int .i64 wk] w (NdQ (ndR rn wk (m+1)) 0 w):=by
 obtain⟨i0,hi0,hz0,hz1,hz2⟩:=info_parts infRow
 have S0:=Lib.hid (((Sep.start w).al #[.int .i64 k,.int .i64 f,.int .i64 t,.slice pw nw cw,.int .i64 rad,.int .i64 most] 24 w.heap.size rfl).al #[.slice po no co,.slice pt nt ct,.slice pr nr cr,.slice pv nv cv] 27 (w.heap.size+1) (by simp))
 have HRN:=Lib.hid HRN0
 have HER:=Lib.hid HER0
 have HST:=Lib.hid (fun i (hi:i≤200) (W:World) (E:Ext w W) (ps:Option Addr) (ns cs:Nat) (pm:Option Addr) (nm cm:Nat) (hs:Rd W 4 ps ns (encQ (rn i).1)) (hm:Rd W 4 pm nm (encQ (rn i).2)) =>
  StepRunR k f t pw nw cw rad most po no co O pt nt ct T pr nr cr R pv nv cv V W n i (rn i) ps ns cs pm nm cm wk (hO.ext E) (hT.ext E) (hR.ext E) (hV.ext E) hct hcv hck hn h200 hi (hrn i) h1 h16 hs hm)
 have HEA:=Lib.hid (fun i (hi:i≤201) (ps:Option Addr) (ns cs:Nat) W (hr:Rd W 4 ps ns (encQ (rn i).1))=>Each19r ps ns cs (rn i).1 wk W hr (fun x hx=>(sq_ok (hrn i) h200 hi x hx).2.2) h1 h16 (by rw [hr.nQ];have:=run_most (hrn i).kst (fun x hx=>((hrn i).st x hx).1);omega))
 have HRS:=Lib.hid hrs
 have HR0:=Lib.hid hr0
 have HSQ:=Lib.hid (fun W=>Start18 k f t pw nw cw rad most 0 W)
 clear hO hT hR hV hct hcv hck hn h200 h1 h16 hr0 hrn hrs HRN0 HER0
 go_enter Tryz.func36,Tryz.ntmps36
 go_wp2_with (first
  | (go_at_call 54;have _t:=S1;go_must (refine(HSQ.out _).mono ?_;rintro e w2 ⟨q2,c2,rfl,Z⟩;have S2:=Lib.hid ((((S1.out.comp Z).nilrow 146 4).nilrow 25 1).many0 3 1);clear a0 a1 a2 a3 a4 a5 az b0 b1 b2 b3 bz;clear Z))
  | (go_at_call 18;go_must (refine(HRN.out _ S0.out.ext).mono ?_;rintro e w1 ⟨b1',d1',F1,n1',e1',g1,q1,c1,rfl,Z⟩;obtain⟨rfl,rfl⟩:=HER.out _ _ _ _ _ g1;have S1:=Lib.hid ((S0.out.call Z.ext).al #[.bool b1',.int .i64 d1',.slice q1 F1.length c1] 34 w1.heap.size rfl);obtain⟨b0,b1,b2,b3,bz⟩:=bkc0c1c2c3l (S1.out.blk 1 rfl);obtain⟨a0,a1,a2,a3,a4,a5,az⟩:=bkc0c1c2c3c4c5l (S1.out.blk 2 rfl);clear Z g1)))
 have S4:Hid (Sep w w2 [.own 146 4 none 0 0 (encQ (rn (0)).1),.own 138 4 q2 (startQ k f t 0).length c2 (encQ (rn (0)).2),.own 25 1 none (0) 0 (encH ([]:List Hd)),.many 3 1 (rowsN (ndR rn wk (0)) ([]:List Hd)),.blk (w.heap.size+1) 27 #[.slice po no co,.slice pt nt ct,.slice pr nr cr,.slice pv nv cv],.blk w.heap.size 24 #[.int .i64 k,.int .i64 f,.int .i64 t,.slice pw nw cw,.int .i64 rad,.int .i64 most]]):=by
  unfold Hid
  rw [HR0.out]
  exact S2.out.pick [2,3,1,0,5,6] (by decide) rfl
 clear S0 S1 S2 HSQ HR0 HRN HER
 go_loopw [13,14,15,16,17,18,19,20,21] (fun sv mv ov iv _ _ _ _ _ wr=>∃ (i:Nat) (ps:Option Addr) (ns cs:Nat) (pm:Option Addr) (nm cm:Nat) (qo:Option Addr) (oc:Nat) (hd:List Hd),i≤m+1∧iv=.int .i64 i∧sv=.slice ps ns cs∧mv=.slice pm nm cm∧ov=.slice qo i oc∧Hid (hd.length=i)∧Hid (Sep w wr [.own 146 4 ps ns cs (encQ (rn (i)).1),.own 138 4 pm nm cm (encQ (rn (i)).2),.own 25 1 qo (i) oc (encH hd),.many 3 1 (rowsN (ndR rn wk (i)) hd),.blk (w.heap.size+1) 27 #[.slice po no co,.slice pt nt ct,.slice pr nr cr,.slice pv nv cv],.blk w.heap.size 24 #[.int .i64 k,.int .i64 f,.int .i64 t,.slice pw nw cw,.int .i64 rad,.int .i64 most]])) (fun _ _ _ iv _ _ _ _ _ _=>m+2 - (intOf iv).toNat)
 case atStart=>exact⟨0,none,0,0,q2,(startQ k f t 0).length,c2,none,0,[],by omega,by simp,rfl,rfl,rfl,rfl,S4⟩
 case round =>
  clear S4
  obtain⟨i,ps,ns,cs,pm,nm,cm,qo,oc,hd,him,rfl,rfl,rfl,rfl,HHD,SH⟩:=hrel
  have d1:(0:Int)≤(i:Int):=by omega
  have d2:(i:Int)≤1000:=by omega
  by_cases hlt:i<m+1
  ·have e1:decide ((i:Int)<(m:Int)+1)=true:=by simp;omega
   have HE0:=Lib.hid (HST.out i (by omega) wr SH.out.ext ps ns cs pm nm cm (SH.out.rdx 0 rfl) (SH.out.rdx 1 rfl))
   rw [← HRS.out i] at HE0
   have HEA1:=Lib.hid (HEA.out (i+1) (by omega))
   have HSN:=Lib.hid (ndR_snoc rn wk i)
   have HI1:Hid (∃ Y,rn (i+1)=Y):=⟨_,rfl⟩
   obtain⟨Y,hY⟩:=HI1.out
   have HRY:=Lib.hid hY
   rw [hY] at HE0 HEA1 HSN
   clear hY HI1
   obtain⟨b0,b1,b2,b3,bz⟩:=bkc0c1c2c3l (SH.out.blk 4 rfl)
   obtain⟨a0,a1,a2,a3,a4,a5,az⟩:=bkc0c1c2c3c4c5l (SH.out.blk 5 rfl)
   go_wp2_with (first
    | (at_builtin;have _t:=S2;go_must (refine wpList_append_sep rfl _ _ _ rfl 25 i0 _ 1 24 Tryz.underlying45 hi0 hz0 hz1 hz2 rfl (by omega) (S2.out.junk _) 5 qo i oc _ rfl rfl _ 1 1 _ rfl (Rd.new _ _ _ 1 1 rfl (by omega)) (one_slice _ _ _) (by omega) (by omega) ?_;intro u' e' w6 S' hsz;have S3:=Lib.hid S';clear S' hsz))
    | (go_at_call 65;have _t:=S1;go_must (refine(HEA1.out _ _ _ _ (S1.out.rdx 0 rfl)).mono ?_;rintro e w5 ⟨q5,rfl,Z⟩;have S2:=Lib.hid (S1.out.comp Z);clear Z))
    | (go_at_call 55;go_must (refine HE0.out.mono ?_;rintro e w3 ⟨q3,c3',q4,c4',rfl,Z⟩;have S1:=Lib.hid (SH.out.comp Z);clear Z;clear a0 a1 a2 a3 a4 a5 az b0 b1 b2 b3 bz)))
   have S5:=(S3.out.pick (Δ:=(.own 3 1 q5 wk wk (encI (eachL Y.1 wk)) :: .many 3 1 (rowsN (ndR rn wk i) hd) :: [.own 146 4 q3 Y.1.length c3' (encQ Y.1),.own 138 4 q4 Y.2.length c4' (encQ Y.2),.own 25 1 u' (i+1) e' (encH hd ++ [.slice q5 wk wk]),.blk (w.heap.size+1) 27 #[.slice po no co,.slice pt nt ct,.slice pr nr cr,.slice pv nv cv],.blk w.heap.size 24 #[.int .i64 k,.int .i64 f,.int .i64 t,.slice pw nw cw,.int .i64 rad,.int .i64 most]])) [0,6,1,2,5,7,8] (by decide) rfl).gather
   rw [show encH hd ++ [Value.slice q5 wk wk]=encH (hd ++ [⟨q5,wk,wk⟩]) from encH_snoc hd ⟨q5,wk,wk⟩,← rowsN_snoc _ _ _ _ (by rw [HHD.out,ndR_len]),← HSN.out,← HRY.out] at S5
   have HS5:=Lib.hid S5
   clear S5
   go_roundw
   case rel=>exact⟨i+1,q3,Y.1.length,c3',q4,Y.2.length,c4',u',e',hd ++ [⟨q5,wk,wk⟩],by omega,by go_num,rfl,rfl,rfl,by unfold Hid;rw [List.length_append,HHD.out];rfl,by rw [← HRY.out];exact HS5.out.pick [1,2,3,0,4,5] (by decide) rfl⟩
   case measure=>simp [intOf];omega
  ·obtain rfl:i=m+1:=by omega
   have e1:decide (((m:Int)+1)<(m:Int)+1)=false:=by simp
   go_wp2
   try rw [Exit.noGoto_ret]
   go_ret2
   have HL2:=Lib.hid (ndR_len rn wk (m+1))
   exact⟨qo,oc,hd,by rw [HL2.out];rfl,by rw [HL2.out];exact RdL.of_sep SH.out 3 2 rfl rfl (by rw [HHD.out,HL2.out]),SH.out.ext⟩
end
section
open Go Go.RowKit
theorem mostcase {w:World} {X:List (List Int)} {e:Int} {qx:Option Addr} {hsx:List Hd} (h1:(e=0→X≠[])∧(e≠0→X=[])) (hx:RdL w qx X.length hsx X) :
  (e=0∧(1:Int)≤X.length∧(X.length:Int) - 1<X.length∧(0:Int)≤(X.length:Int) - 1∧X.length≤9223372036854775807∧SlP qx X.length∧w.cell? (adr qx (X.length - 1))=some (.slice (nth hsx (X.length - 1)).p (nth hsx (X.length - 1)).n (nth hsx (X.length - 1)).c)∧Hid (Rd w 1 (nth hsx (X.length - 1)).p (nth hsx (X.length - 1)).n (encI (nth X (X.length - 1))))∧decide ((X.length:Int)=0)=false)∨(X=[]∧e≠0∧decide (e=0)=false∧(e == 0)=false):=by
 rcases zcase e with rfl | ⟨hz,z1,z2⟩
 ·have hne:=h1.1 rfl
  have hX:0<X.length:=List.length_pos_iff.2 hne
  have nx:=hx.row.small
  exact .inl ⟨rfl,by omega,by omega,by omega,nx,hx.row.ptr,hx.row.cH (by omega),hx.each _ (by omega),by rw [decide_eq_false_iff_not];omega⟩
 ·exact .inr ⟨h1.2 hz,hz,z1,z2⟩
theorem MostG (k f t:Int) (pw:Option Addr) (nw cw:Nat) (ws:List ByteArray) (rad most:Int) (po:Option Addr) (no co:Nat) (O:List Int) (pt:Option Addr) (nt ct:Nat) (T:List Int) (pr:Option Addr) (nr cr:Nat) (R:List Int) (pv:Option Addr) (nv cv:Nat) (V:List Int) (pl:Option Addr) (nl cl:Nat) (hs:List Hd) (L:List Po) (wv:Int) (w:World) (hO:Rd w 1 po no (encI O)) (hT:Rd w 1 pt nt (encI T)) (hR:Rd w 1 pr nr (encI R)) (hV:Rd w 1 pv nv (encI V)) (hct:nt≤ct) (hcv:nv≤cv)
  (hL:RdP w pl nl hs L) (hW:Rd w 1 pw nw (encS ws)) (h200:no≤200) (hz:∀ s∈ws,s.size≤1000000) (ht:I64 t) (hcw:nw≤cw) (hnw:nw≤100) (hok:PoOk L) :
  Calls Tryz.prog 37 #[.agg #[.int .i64 k,.int .i64 f,.int .i64 t,.slice pw nw cw,.int .i64 rad,.int .i64 most],.agg #[.slice po no co,.slice pt nt ct,.slice pr nr cr,.slice pv nv cv],.slice pl nl cl,.int .i64 wv] w fun x w'=>∃ X e,NeedS O T R V k f t ws rad most wv X e∧MoQ (lastR X) e w x w':=by
 have S0:=Lib.hid (((Sep.start w).al #[.int .i64 k,.int .i64 f,.int .i64 t,.slice pw nw cw,.int .i64 rad,.int .i64 most] 24 w.heap.size rfl).al #[.slice po no co,.slice pt nt ct,.slice pr nr cr,.slice pv nv cv] 27 (w.heap.size+1) (by simp))
 have HST:=Lib.hid (fun W (h:Ext w W)=>needSteps k f t pw nw cw ws rad most po no co O pt nt ct T pr nr cr R pv nv cv V pl nl cl hs L wv W (hO.ext h) (hT.ext h) (hR.ext h) (hV.ext h) hct hcv (hL.ext h) (hW.ext h) h200 hz ht hcw hnw hok)
 have HSO:=Lib.hid (fun (X:List (List Int)) (e:Int) (h:NeedS O T R V k f t ws rad most wv X e)=>needS_some h)
 clear hO hT hR hV hct hcv hL hW h200 hz ht hcw hnw hok
 go_enter Tryz.func37,Tryz.ntmps37
 go_wp2_with (go_at_call 34;go_must (refine(HST.out _ S0.out.ext).mono ?_;rintro e w2 ⟨X,e1,g1,qx,cx,hsx,rfl,hx,hb⟩;have G1:=Lib.hid g1;have HX2:=Lib.hid hx;have S2:=Lib.hid (S0.out.call hb);rcases mostcase (HSO.out _ _ g1) hx with ⟨rfl,c4,c5,c6,nx,px,g2,HE1,c7⟩ | ⟨rfl,hz,z1,z2⟩ <;> clear hb g1 hx))
 ·try rw [Exit.noGoto_ret]
  go_ret2
  have hr:=HE1.out
  have hl:=hr.nI
  refine⟨X,0,G1.out,(nth hsx (X.length - 1)).p,(nth hsx (X.length - 1)).c,?_,?_,S2.out.ext⟩
  ·unfold lastR;rw [← hl];rfl
  ·unfold lastR;rw [← hl];exact hr
 ·try rw [Exit.noGoto_ret]
  go_ret2
  exact⟨[],_,G1.out,none,0,rfl,Rd.nil _ _ _,S2.out.ext⟩
def SumOk (r:List Int):Prop:=(∀ y∈r,0≤y)∧r.sum≤1000000
theorem Total21 (p:Option Addr) (n c:Nat) (r:List Int) (w:World) (hr:Rd w 1 p n (encI r)) (hs:SumOk r) :
  Calls Tryz.prog 39 #[.slice p n c] w fun e w'=>e=.returned (.int .i64 r.sum)∧Ext w w':=by
 have pr:=hr.ptr
 have nr:=hr.small
 have HL:=Lib.hid hr.nI
 have HR:=Lib.hid hr
 have HTB:=Lib.hid (take_bd hs.1)
 have HTS:=Lib.hid (fun j (hj:j<n)=>take_sum (r:=r) (j:=j) (by rw [← hr.nI];exact hj))
 have HTE:Hid ((r.take n).sum=r.sum):=by unfold Hid;rw [hr.nI,List.take_length]
 have hb:=hs.2
 clear hr hs
 go_enter Tryz.func39,Tryz.ntmps39
 go_wp2
 go_loopw [3,4] (fun a i wr=>∃ j:Nat,j≤n∧i=.int .i64 j∧a=.int .i64 ((r.take j).sum)∧Ext w wr) (fun _ i _=>n - (intOf i).toNat)
 case atStart=>exact⟨0,Nat.zero_le _,rfl,rfl,Below.refl _ _⟩
 case round =>
  obtain⟨j,hj,rfl,rfl,hE⟩:=hrel
  have HE:=Lib.hid hE
  by_cases hj2:j<n
  ·have gx:=(HR.out.ext hE).cI hj2
   have ts:=HTS.out j hj2
   have t0:=HTB.out j
   have t1:=HTB.out (j+1)
   rw [ts] at t1
   have HT2:=Lib.hid ts
   clear ts hE
   generalize (r.take j).sum=a at *
   generalize nth r j=y at *
   generalize r.sum=s at *
   have d3:(0:Int)≤j:=by omega
   have d4:(j:Int)<n:=by omega
   have d5:-9223372036854775808≤a+y∧a+y≤9223372036854775807:=by omega
   obtain⟨d6,d7⟩:=d5
   clear t0 t1
   go_wp2
   go_roundw
   case rel=>exact⟨j+1,by omega,by go_num,by rw [HT2.out],HE.out⟩
   case measure=>simp [intOf];omega
  ·obtain rfl:j=n:=by omega
   rw [HTE.out]
   clear hE
   go_wp2
   go_ret
   exact⟨rfl,HE.out⟩
end
section
open Go Go.RowKit
theorem RSteps21 (k f t:Int) (pw:Option Addr) (nw cw:Nat) (ws:List ByteArray) (rad most:Int) (po:Option Addr) (no co:Nat) (O:List Int) (pt:Option Addr) (nt ct:Nat) (T:List Int) (pr:Option Addr) (nr cr:Nat) (R:List Int) (pv:Option Addr) (nv cv:Nat) (V:List Int) (pl:Option Addr) (nl cl:Nat) (hs:List Hd) (L:List Po) (wv:Int) (w:World) (hO:Rd w 1 po no (encI O)) (hT:Rd w 1 pt nt (encI T)) (hR:Rd w 1 pr nr (encI R)) (hV:Rd w 1 pv nv (encI V)) (hct:nt≤ct) (hcv:nv≤cv)
  (hL:RdP w pl nl hs L) (hW:Rd w 1 pw nw (encS ws)) (h200:no≤200) (hz:∀ s∈ws,s.size≤1000000) (ht:I64 t) (hcw:nw≤cw) (hnw:nw≤100) (hok:PoOk L) :
  Calls Tryz.prog 36 #[.agg #[.int .i64 k,.int .i64 f,.int .i64 t,.slice pw nw cw,.int .i64 rad,.int .i64 most],.agg #[.slice po no co,.slice pt nt ct,.slice pr nr cr,.slice pv nv cv],.slice pl nl cl,.int .i64 wv] w fun x w'=>∃ X e,NeedS O T R V k f t ws rad most wv X e∧NdQ X e w x w':=by
 have hno:=hO.nI
 have HRN:=fun W (h:Ext w W)=>RunRef k f t pw nw cw ws rad most po no co O pt nt ct T pr nr cr R pv nv cv V W pl nl cl hs L wv 1000 (hO.ext h) (hT.ext h) (hR.ext h) (hV.ext h) hct hcv (hL.ext h) (hW.ext h) h200 hz (by decide) ht hcw hnw hok
 by_cases h0:chkJ (checkR O T R V) k f t ws rad most O.length=0
 ·by_cases h1:1≤wv∧wv≤16
  ·obtain⟨hck,hq,n,hn,_⟩:=chkJ_facts h0
   have hq2:chkQ k f t ws rad most (n:Int)=0:=by rw [← hq];congr 1;omega
   obtain⟨hk,hI,m,hm,hd,hf⟩:=run_m (k:=k) (rad:=rad) hck hn (by omega) hq2
   obtain⟨wk,rfl⟩:∃ wk:Nat,wv=(wk:Int):=⟨wv.toNat,by omega⟩
   refine(RStepsOk k f t pw nw cw ws rad most po no co O pt nt ct T pr nr cr R pv nv cv V pl nl cl wk n m (runM (nextL k rad true O T R V) (startQ k f t 0)) w hO hT hR hV hct hcv hck hn (by omega) (by omega) (by omega) (by omega) rfl hI (fun _=>rfl) _ HRN (fun b d F n' e hR=>?_)).mono ?_
   ·have:=runS_err (by omega) hR
    obtain⟨_,m2,a1,a2,a3,a4,_⟩:=hR.2.2 h0 ⟨h1.1,h1.2,by omega⟩
    obtain rfl:m=m2:=least_uniqB (p:=fun i=>doneB k t (runM (nextL k rad true O T R V) (startQ k f t 0) (i+1))) hd hf a2 a3
    obtain⟨_,x2,_⟩:=a4 (by omega)
    refine⟨?_,x2.symm⟩
    rw [this,h0,if_neg (by simp),if_pos h1]
   ·intro x w' hx
    exact⟨_,0,⟨fun h=>absurd h0 h,fun _ h=>absurd h1 h,fun _ _=>⟨rfl,m,by omega,hd,hf,by rw [Int.toNat_natCast];rfl⟩⟩,hx⟩
  ·refine(RStepsErr k f t pw nw cw rad most po no co pt nt ct pr nr cr pv nv cv pl nl cl wv 1 _ w (by decide) HRN (fun b d F n' e hR=>?_)).mono ?_
   ·have:=runS_err (by omega) hR
    rw [this,h0,if_neg (by simp),if_neg h1]
   ·intro x w' hx
    exact⟨[],1,⟨fun h=>absurd h0 h,fun _ _=>⟨rfl,rfl⟩,fun _ h=>absurd h h1⟩,hx⟩
 ·refine(RStepsErr k f t pw nw cw rad most po no co pt nt ct pr nr cr pv nv cv pl nl cl wv (chkJ (checkR O T R V) k f t ws rad most O.length) _ w h0 HRN (fun b d F n' e hR=>?_)).mono ?_
  ·have:=runS_err (by omega) hR
   rw [this,if_pos h0]
  ·intro x w' hx
   exact⟨[],_,⟨fun _=>⟨rfl,rfl⟩,fun h=>absurd h h0,fun h=>absurd h h0⟩,hx⟩
theorem RMost21 (k f t:Int) (pw:Option Addr) (nw cw:Nat) (ws:List ByteArray) (rad most:Int) (po:Option Addr) (no co:Nat) (O:List Int) (pt:Option Addr) (nt ct:Nat) (T:List Int) (pr:Option Addr) (nr cr:Nat) (R:List Int) (pv:Option Addr) (nv cv:Nat) (V:List Int) (pl:Option Addr) (nl cl:Nat) (hs:List Hd) (L:List Po) (wv:Int) (w:World) (hO:Rd w 1 po no (encI O)) (hT:Rd w 1 pt nt (encI T)) (hR:Rd w 1 pr nr (encI R)) (hV:Rd w 1 pv nv (encI V)) (hct:nt≤ct) (hcv:nv≤cv)
  (hL:RdP w pl nl hs L) (hW:Rd w 1 pw nw (encS ws)) (h200:no≤200) (hz:∀ s∈ws,s.size≤1000000) (ht:I64 t) (hcw:nw≤cw) (hnw:nw≤100) (hok:PoOk L) :
  Calls Tryz.prog 38 #[.agg #[.int .i64 k,.int .i64 f,.int .i64 t,.slice pw nw cw,.int .i64 rad,.int .i64 most],.agg #[.slice po no co,.slice pt nt ct,.slice pr nr cr,.slice pv nv cv],.slice pl nl cl,.int .i64 wv] w fun x w'=>∃ X e,NeedS O T R V k f t ws rad most wv X e∧MoQ (lastR X) e w x w':=by
 have S0:=Lib.hid (((Sep.start w).al #[.int .i64 k,.int .i64 f,.int .i64 t,.slice pw nw cw,.int .i64 rad,.int .i64 most] 24 w.heap.size rfl).al #[.slice po no co,.slice pt nt ct,.slice pr nr cr,.slice pv nv cv] 27 (w.heap.size+1) (by simp))
 have HST:=Lib.hid (fun W (h:Ext w W)=>RSteps21 k f t pw nw cw ws rad most po no co O pt nt ct T pr nr cr R pv nv cv V pl nl cl hs L wv W (hO.ext h) (hT.ext h) (hR.ext h) (hV.ext h) hct hcv (hL.ext h) (hW.ext h) h200 hz ht hcw hnw hok)
 have HSO:=Lib.hid (fun (X:List (List Int)) (e:Int) (h:NeedS O T R V k f t ws rad most wv X e)=>needS_some h)
 clear hO hT hR hV hct hcv hL hW h200 hz ht hcw hnw hok
 go_enter Tryz.func38,Tryz.ntmps38
 go_wp2_with (go_at_call 36;go_must (refine(HST.out _ S0.out.ext).mono ?_;rintro e w2 ⟨X,e1,g1,qx,cx,hsx,rfl,hx,hb⟩;have G1:=Lib.hid g1;have HX2:=Lib.hid hx;have S2:=Lib.hid (S0.out.call hb);rcases mostcase (HSO.out _ _ g1) hx with ⟨rfl,c4,c5,c6,nx,px,g2,HE1,c7⟩ | ⟨rfl,hz,z1,z2⟩ <;> clear hb g1 hx))
 ·try rw [Exit.noGoto_ret]
  go_ret2
  have hr:=HE1.out
  have hl:=hr.nI
  refine⟨X,0,G1.out,(nth hsx (X.length - 1)).p,(nth hsx (X.length - 1)).c,?_,?_,S2.out.ext⟩
  ·unfold lastR;rw [← hl];rfl
  ·unfold lastR;rw [← hl];exact hr
 ·try rw [Exit.noGoto_ret]
  go_ret2
  exact⟨[],_,G1.out,none,0,rfl,Rd.nil _ _ _,S2.out.ext⟩
end
section
open Go Go.RowKit
theorem lawSteps21 (k f t:Int) (pw:Option Addr) (nw cw:Nat) (ws:List ByteArray) (rad most:Int) (po:Option Addr) (no co:Nat) (O:List Int) (pt:Option Addr) (nt ct:Nat) (T:List Int) (pr:Option Addr) (nr cr:Nat) (R:List Int) (pv:Option Addr) (nv cv:Nat) (V:List Int) (pl:Option Addr) (nl cl:Nat) (hs:List Hd) (L:List Po) (wv:Int) (w:World) (hO:Rd w 1 po no (encI O)) (hT:Rd w 1 pt nt (encI T)) (hR:Rd w 1 pr nr (encI R)) (hV:Rd w 1 pv nv (encI V)) (hct:nt≤ct) (hcv:nv≤cv)
  (hW:Rd w 1 pw nw (encS ws)) (hcw:nw≤cw) (ht:I64 t) (hL:RdP w pl nl hs L) (hLI:∀ q∈L,∀ x∈q.2,I64 x) :
  Calls Tryz.prog 8 #[.agg #[.int .i64 k,.int .i64 f,.int .i64 t,.slice pw nw cw,.int .i64 rad,.int .i64 most],.agg #[.slice po no co,.slice pt nt ct,.slice pr nr cr,.slice pv nv cv],.slice pl nl cl,.int .i64 wv] w fun e w'=>e=.returned (.bool true)∧Ext w w':=by
 have S0:=Lib.hid (((Sep.start w).al #[.int .i64 k,.int .i64 f,.int .i64 t,.slice pw nw cw,.int .i64 rad,.int .i64 most] 24 w.heap.size rfl).al #[.slice po no co,.slice pt nt ct,.slice pr nr cr,.slice pv nv cv] 27 (w.heap.size+1) (by simp))
 have HFR:=Lib.hid (fun W (h:Ext w W)=>FarN21 k f t pw nw cw ws rad most po no co O pt nt ct T pr nr cr R pv nv cv V pl nl cl hs L W (hO.ext h) (hT.ext h) (hR.ext h) (hV.ext h) (hW.ext h) (hL.ext h))
 cases hfar:farJ ws O T R V L 0 with
 | true =>
  rw [hfar] at HFR
  clear hO hT hR hV hct hcv hW hL hfar
  go_enter Tryz.func8,Tryz.ntmps8
  go_wp2_with (go_at_call 33;go_must (refine(HFR.out _ S0.out.ext).mono ?_;rintro e w1 ⟨rfl,hb⟩;have S1:=Lib.hid (S0.out.call hb);obtain⟨b0,b1,b2,b3,bz⟩:=bkc0c1c2c3l (S1.out.blk 0 rfl);obtain⟨a0,a1,a2,a3,a4,a5,az⟩:=bkc0c1c2c3c4c5l (S1.out.blk 1 rfl);clear hb))
  go_ret
  exact⟨rfl,S1.out.ext⟩
 | false =>
  rw [hfar] at HFR
  obtain⟨f1,f2,f3,f4,f5⟩:=jobFacts k f t pw nw cw ws rad most rfl rfl rfl rfl rfl rfl rfl rfl hfar hLI
  have hno:=hO.nI
  have hnw:=hW.nS
  have HST:=Lib.hid (fun W (h:Ext w W)=>needSteps k f t pw nw cw ws rad most po no co O pt nt ct T pr nr cr R pv nv cv V pl nl cl hs L wv W (hO.ext h) (hT.ext h) (hR.ext h) (hV.ext h) hct hcv (hL.ext h) (hW.ext h) (by omega) f2 ht hcw (by omega) f4)
  have HSR:=Lib.hid (fun W (h:Ext w W)=>RSteps21 k f t pw nw cw ws rad most po no co O pt nt ct T pr nr cr R pv nv cv V pl nl cl hs L wv W (hO.ext h) (hT.ext h) (hR.ext h) (hV.ext h) hct hcv (hL.ext h) (hW.ext h) (by omega) f2 ht hcw (by omega) f4)
  have HMO:=Lib.hid (fun W (h:Ext w W)=>MostG k f t pw nw cw ws rad most po no co O pt nt ct T pr nr cr R pv nv cv V pl nl cl hs L wv W (hO.ext h) (hT.ext h) (hR.ext h) (hV.ext h) hct hcv (hL.ext h) (hW.ext h) (by omega) f2 ht hcw (by omega) f4)
  have HMR:=Lib.hid (fun W (h:Ext w W)=>RMost21 k f t pw nw cw ws rad most po no co O pt nt ct T pr nr cr R pv nv cv V pl nl cl hs L wv W (hO.ext h) (hT.ext h) (hR.ext h) (hV.ext h) hct hcv (hL.ext h) (hW.ext h) (by omega) f2 ht hcw (by omega) f4)
  clear hO hT hR hV hct hcv hW hL hfar f1 f2 f3 f4 f5 hno hnw ht hcw hLI
  go_enter Tryz.func8,Tryz.ntmps8
  go_wp2_with (first | (go_at_call 29;have _t:=E7;go_must (refine(IntsY qm qk _ _ cm ck (lastR X) _ HM7.out HK7.out).mono ?_;rintro e w8 ⟨rfl,hb⟩;have E8:=Lib.hid (Ext.trans E7.out hb);clear hb)) | (go_at_call 32;have _t:=E6;go_must (refine(Same06 qx qy _ cx cy hsx hsy X _ HX6.out HY6.out).mono ?_;rintro e w7 ⟨rfl,hb⟩;have E7:=Lib.hid (Ext.trans E6.out hb);have HM7:=Lib.hid (HM6.out.ext hb);have HK7:=Lib.hid (HK6.out.ext hb);clear hb)) | (go_at_call 26;have _t:=E5;go_must (refine(Needs21 _).mono ?_;rintro e w6 ⟨rfl,hb⟩;have E6:=Lib.hid (Ext.trans E5.out hb);have HX6:=Lib.hid (HX5.out.ext hb);have HY6:=Lib.hid (HY5.out.ext hb);have HM6:=Lib.hid (HM5.out.ext hb);have HK6:=Lib.hid (HK5.out.ext hb);clear hb)) | (go_at_call 38;have _t:=S4;go_must (refine(HMR.out _ S4.out.ext).mono ?_;rintro e w5 ⟨X',e',g1',qk,ck,rfl,hm,hb⟩;obtain⟨rfl,rfl⟩:=needS_uniq G1.out g1';have HM5:=Lib.hid (HM4.out.ext hb);have HK5:=Lib.hid hm;have HX5:=Lib.hid (HX4.out.ext hb);have HY5:=Lib.hid (HY4.out.ext hb);have E5:=Lib.hid (Ext.trans S4.out.ext hb);clear a0 a1 a2 a3 a4 a5 az b0 b1 b2 b3 bz;clear hb hm g1')) | (go_at_call 37;have _t:=S3;go_must (refine(HMO.out _ S3.out.ext).mono ?_;rintro e w4 ⟨X',e',g1',qm,cm,rfl,hm,hb⟩;obtain⟨rfl,rfl⟩:=needS_uniq G1.out g1';have HM4:=Lib.hid hm;have HX4:=Lib.hid (HX3.out.ext hb);have HY4:=Lib.hid (HY3.out.ext hb);have S4:=Lib.hid (S3.out.call hb);clear a0 a1 a2 a3 a4 a5 az b0 b1 b2 b3 bz;obtain⟨b0,b1,b2,b3,bz⟩:=bkc0c1c2c3l (S4.out.blk 0 rfl);obtain⟨a0,a1,a2,a3,a4,a5,az⟩:=bkc0c1c2c3c4c5l (S4.out.blk 1 rfl);clear hb hm g1')) | (go_at_call 36;have _t:=S2;go_must (refine(HSR.out _ S2.out.ext).mono ?_;rintro e w3 ⟨Y,f1,g2,qy,cy,hsy,rfl,hy,hb⟩;obtain⟨rfl,rfl⟩:=needS_uniq G1.out g2;have HX3:=Lib.hid (HX2.out.ext hb);have HY3:=Lib.hid hy;have S3:=Lib.hid (S2.out.call hb);clear a0 a1 a2 a3 a4 a5 az b0 b1 b2 b3 bz;obtain⟨b0,b1,b2,b3,bz⟩:=bkc0c1c2c3l (S3.out.blk 0 rfl);obtain⟨a0,a1,a2,a3,a4,a5,az⟩:=bkc0c1c2c3c4c5l (S3.out.blk 1 rfl);clear hb g2 hy)) | (go_at_call 34;have _t:=S1;go_must (refine(HST.out _ S1.out.ext).mono ?_;rintro e w2 ⟨X,e1,g1,qx,cx,hsx,rfl,hx,hb⟩;have G1:=Lib.hid g1;have HX2:=Lib.hid hx;have S2:=Lib.hid (S1.out.call hb);clear a0 a1 a2 a3 a4 a5 az b0 b1 b2 b3 bz;obtain⟨b0,b1,b2,b3,bz⟩:=bkc0c1c2c3l (S2.out.blk 0 rfl);obtain⟨a0,a1,a2,a3,a4,a5,az⟩:=bkc0c1c2c3c4c5l (S2.out.blk 1 rfl);clear hb g1 hx)) | (go_at_call 33;go_must (refine(HFR.out _ S0.out.ext).mono ?_;rintro e w1 ⟨rfl,hb⟩;have S1:=Lib.hid (S0.out.call hb);obtain⟨b0,b1,b2,b3,bz⟩:=bkc0c1c2c3l (S1.out.blk 0 rfl);obtain⟨a0,a1,a2,a3,a4,a5,az⟩:=bkc0c1c2c3c4c5l (S1.out.blk 1 rfl);clear hb)))
  go_ret
  exact⟨rfl,E8.out⟩
end
end Go.Proofs.YtfjhjennfiihhaaGreat
