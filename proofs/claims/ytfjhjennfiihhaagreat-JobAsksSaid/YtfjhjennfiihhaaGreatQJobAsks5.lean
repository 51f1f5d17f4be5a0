/- Texts of this claim, one behind the other: Stp19, Pq6, Pq6b, PlainBfs, PlainEnd, PlainNx, PlainGo, StR19, Pg5, Bs9, Ex5, PlainP, LPTells, Pg6, Pg7, PlainSeen, PlainAsk, Dm18, HeldIn, RngD, KpN, Jst20, Chk20, HeldR, FrmR, Run20, RunE20, PlainRm, RunG20, PlainCl, RunCl, Hn1, Hn2. -/
import Derived.Test.YtfjhjennfiihhaaGreatQJobAsks4
set_option maxRecDepth 100000
set_option maxHeartbeats 16000000
namespace Go.Proofs.YtfjhjennfiihhaaGreat
open Go Go.RowKit Tryz
section
open Go Go.RowKit
attribute [local go_sem] Oper.semAt_some
theorem Ic.marks {w0 w:World} {Γ:List Pc} (S:Ic w0 w Γ) (hΓ:∀ p∈Γ,p.cells):∀ (Ds:List Nat),Ij w0.heap.size Ds w->Ic w0 w (Γ ++ Ds.map fun D=>Pc.obj D (.deferred (some [])))
 | [],_=>by simpa using S
 | D :: Ds,h=>by
  obtain⟨hn,hd⟩:=List.nodup_cons.1 h.1
  have ih:=S.marks hΓ Ds ⟨hd,fun E hE=>h.2 E (List.mem_cons_of_mem _ hE)⟩
  obtain⟨hB,hD⟩:=h.2 D (List.mem_cons_self ..)
  have key:Ic w0 w (Pc.obj D (.deferred (some [])) :: (Γ ++ Ds.map fun D=>Pc.obj D (.deferred (some [])))):=by
   refine⟨ih.ext,fun p hp=>?_,fun p hp k hk=>?_,List.pairwise_cons.2 ⟨fun q hq k hk hk2=>?_,ih.apart⟩⟩
   ·rcases List.mem_cons.1 hp with rfl | hp
    ·exact hD
    ·exact ih.all p hp
   ·rcases List.mem_cons.1 hp with rfl | hp
    ·have hk:k=D:=hk
     subst hk;exact hB
    ·exact ih.new p hp k hk
   ·have hk:k=D:=hk
    subst hk
    rcases List.mem_append.1 hq with hq | hq
    ·obtain⟨o,h1,h2⟩:=hΓ q hq w (S.all q hq) k hk2
     rw [hD] at h1;injection h1 with h1;subst h1;cases h2
    ·obtain⟨E,hE,rfl⟩:=List.mem_map.1 hq
     have hk2:k=E:=hk2
     subst hk2;exact hn hE
  exact key.perm (by rw [List.map_cons];exact List.perm_middle)
theorem Ic.unmarks {w0 w w':World} {Γ:List Pc} {Ds:List Nat} (h:Ij w0.heap.size Ds w) (S:Ic w0 w' (Γ ++ Ds.map fun D=>Pc.obj D (.deferred (some [])))):Ic w0 w' Γ/\Ij w0.heap.size Ds w' :=
 ⟨S.sub (List.sublist_append_left _ _),h.1,fun D hD=>⟨(h.2 D hD).1,S.all _ (List.mem_append_right _ (List.mem_map.2 ⟨D,hD,rfl⟩))⟩⟩
theorem li (P:Pc) (wk:Nat) (hs:List Hd) (M:List Sq) (Γ:List Pc) (j:Nat) {p:Pc} (h:Γ[j]?=some p):((P :: eE wk hs M) ++ Γ)[wk+1+j]?=some p:=by
 rw [List.getElem?_append_right (by simp [eE])]
 simpa [eE] using h
theorem FS (k f t:Int) (pw:Option Addr) (nw cw:Nat) (rad most:Int) (po:Option Addr) (no co:Nat) (pt:Option Addr) (nt ct:Nat) (pr:Option Addr) (nr cr:Nat) (pv:Option Addr) (nv cv:Nat) (n:Nat) (F:Sq->List Sq) (ps:Option Addr) (ns cs:Nat) (st:List Sq) (pm:Option Addr) (nm cm:Nat) (M:List Sq) (wk:Nat) (pp:Option Addr) (np cp:Nat) (pk:List Int) (w:World)
  (hno:no=n+1) (Iu:n<=200) (h1:1<=wk) (h16:wk<=16) (hs:Rd w 4 ps ns (au st)) (hm:Rd w 4 pm nm (au M)) (hpk:Rd w 1 pp np (ab pk))
  (UO:aS st) (hst:∀ x∈st,mT x=true/\x.v<n) (hms:∀ x∈M,mT x=true/\x.v<n) (Wp:∀ x∈M,(F x).length<=200/\∀ y∈F x,y.I) (hns:ns<=1000) (hnm:nm<=100000) (Ws:∀ x,x∈st\/x∈M->iW n x)
  (PP:∀ W,Ext w W->Calls prog 82 #[.agg #[.slice po no co,.slice pt nt ct,.slice pr nr cr,.slice pv nv cv]] W fun e w'=>e=.returned (.bool true)/\Ext W w')
  (Pt:∀ x∈M,∀ W,Ext w W->Calls prog 213 #[.agg #[.int .i64 k,.int .i64 f,.int .i64 t,.slice pw nw cw,.int .i64 rad,.int .i64 most],.agg #[.slice po no co,.slice pt nt ct,.slice pr nr cr,.slice pv nv cv],.agg #[.int .i64 x.s,.int .i64 x.r,.int .i64 x.v,.int .i64 x.d]] W fun e w'=>∃ q c,e=.returned (.tuple #[.slice q (F x).length c,.int .i64 0])/\Ic W w' [.own 138 4 q (F x).length c (au (F x))]) :
  Calls prog 94 #[.agg #[.int .i64 k,.int .i64 f,.int .i64 t,.slice pw nw cw,.int .i64 rad,.int .i64 most],.agg #[.slice po no co,.slice pt nt ct,.slice pr nr cr,.slice pv nv cv],.slice ps ns cs,.slice pm nm cm,.int .i64 wk,.slice pp np cp] w fun e w'=>∃ q c q2 c2,e=.returned (.tuple #[.slice q (cU F st M).1.length c,.slice q2 (cU F st M).2.length c2,.int .i64 0]) /\
   Ic w w' [.own 146 4 q (cU F st M).1.length c (au (cU F st M).1),.own 138 4 q2 (cU F st M).2.length c2 (au (cU F st M).2)]:=by
 obtain⟨i0,hi0,hz0,hz1,hz2⟩:=info_parts iE
 obtain⟨j0,hj0,hy0,hy1,hy2⟩:=info_parts A9
 have K9:∀ x,mT x=true->x.I:=fun x hx=>by
  obtain⟨a1,a2,a3,a4,a5,a6,a7⟩:=kT.1 hx
  unfold Sq.I Ii
  have q1:IntKind.i64.min = -9223372036854775808:=rfl
  have q2:IntKind.i64.max=9223372036854775807:=rfl
  refine⟨?_,?_,?_,?_⟩ <;> (show (_ && _)=true;simp;omega)
 have en:((no:Int)) - 1=(n:Int):=by omega
 have IK:=lh PP
 have IM:=lh Pt
 have VR:=lh (fun W (h:Ext w W)=>Eo wk pp np cp pk W (hpk.ext h) (by omega))
 have hfr:=fun W (h:Ext w W)=>zS ps ns cs st pm nm cm M W (hs.ext h) (hm.ext h) (fun x hx=>K9 x (hst x hx).1) (fun x hx=>K9 x (hms x hx).1) (by omega) hnm
 have hfi:∀ x∈bI st M,x∈M:=fun x hx=>(dr.1 hx).1.1
 have hfl:(bI st M).length<=100000:=by
  have:=vq st M
  have:=hm.nQ
  omega
 obtain⟨Fr,UH⟩:∃ Fr,bI st M=Fr:=⟨_,rfl⟩
 rw [UH] at hfr hfi hfl
 have JM:=lh hfr
 have Kw:=lh hfi
 have QJ:=lh hfl
 have Tx:=lh (fun x (hx:x∈Fr)=>(hms x (hfi x hx)).1)
 have VT:=lh (fun W (h:Ext w W)=>E0 ps ns cs st n W (hs.ext h) UO hst (by omega))
 have HCM:=lh (fun W (h:Ext w W)=>uD pm nm cm M W (hm.ext h) (fun x hx=>(hms x hx).1))
 have T9:=lh hm
 have XC:=lh (fun x (hx:x∈M)=>(hms x hx).2)
 have PQ:=lh (fun W (h:Ext w W)=>Ec ps ns cs st W (hs.ext h) (by omega))
 have XK:=lh hpk
 have VJ:=lh UO
 have QM:=lh Ws
 have IU:=lh Wp
 have NT:=lh UH
 have HST:=lh hs.nQ
 obtain⟨S',hS'⟩:∃ S',cU F st M=S':=⟨_,rfl⟩
 rw [hS']
 have XO:=lh hS'
 have S0:=lh ((((Ic.start w).al #[.int .i64 k,.int .i64 f,.int .i64 t,.slice pw nw cw,.int .i64 rad,.int .i64 most] 24 w.heap.size rfl).al #[.slice po no co,.slice pt nt ct,.slice pr nr cr,.slice pv nv cv] 27 (w.heap.size+1) (by simp)).al #[.int .i64 (n:Int)] 3 (w.heap.size+1+1) (by simp))
 have XP:=lh (fun x (hx:x∈st)=>K9 x (hst x hx).1)
 have XD:=lh (fun x (hx:x∈M)=>K9 x (hms x hx).1)
 clear hs hm hpk UO hst hms Wp PP Pt hfr hfi hfl UH Ws hS' K9 hno
 refine(callsIn_wide (n:=9)).1 ?_
 refine callsIn_of_wp_marks func94 rfl trivial ?_ rfl
 simp only [ntmps94,List.size_toArray,List.length_cons,List.length_nil,Nat.reduceAdd,Nat.reduceSub,Array.replicate_succ,Array.replicate_zero,List.push_toArray,List.append_toArray,List.nil_append,List.cons_append]
 refine wpIn_wide.2 ?_
 go_wp2
 go_step3
 go_wp2_with (first | (go_at_call 145;go_must (refine(PQ.out _ S7.out.ext).mono ?_;rintro e w8 ⟨qn,cn,rfl,Z⟩;have S8:=lh Z;clear Z)) | (go_at_call 144;go_must (refine Vy.out.mono ?_;rintro e w7 ⟨rfl,hb⟩;have S7:=lh (S6.out.call hb);clear hb)) | (go_at_call 143;go_must (refine(HCM.out _ S5.out.ext).mono ?_;rintro e w6 ⟨rfl,hb⟩;have S6:=lh (S5.out.call hb);have Vy:=lh (nj pm nm cm (w.heap.size+1+1) M n w6 (T9.out.ext S6.out.ext) (S6.out.blk (wk+1+2) (li _ wk hs Fr _ 2 rfl)) XC.out);clear hb)) | (go_at_call 142;go_must (refine(VT.out _ S4.out.ext).mono ?_;rintro e w5 ⟨rfl,hb⟩;have S5:=lh (S4.out.call hb);clear hb)) | (go_at_call 140;go_must (refine VX.out.mono ?_;rintro e w4 ⟨qb,hs,WC,rfl,Z⟩;have PV:=lh WC;have S4:=lh (S3.out.comp Z);obtain⟨n0,nz⟩:=fj (S4.out.blk (wk+1+2) (li _ wk hs Fr _ 2 rfl));clear Z WC)) | (go_at_call 141;go_must (refine(JM.out _ S2.out.ext).mono ?_;rintro e w3 ⟨qf,cf,rfl,Z⟩;have S3:=lh (S2.out.comp Z);have VX:=lh (Eq qf Fr.length cf Fr wk w3 (S3.out.rdx 0 rfl) Tx.out h1 h16 QJ.out);clear Z)) | (go_at_call 139;go_must (refine(VR.out _ S1.out.ext).mono ?_;rintro e w2 ⟨Ja,qo,ZE,hP,rfl,Z⟩;have Mx:=lh hP;have S2:=lh (S1.out.comp Z);clear Z hP)) | (go_at_call 82;go_must (refine(IK.out _ S0.out.ext).mono ?_;rintro e w1 ⟨rfl,hb⟩;have S1:=lh (S0.out.call hb);clear hb)))
 go_step3
 go_wp2
 have S9:=lh ((((S8.out.al #[.slice qn ns cn] 85 w8.heap.size rfl).al #[.slice none 0 0] 83 (w8.heap.size+1) (by simp)).nilrow 138 4).pick [2,1,3,0] (by decide) rfl:Ic w7 _ [.blk w8.heap.size 85 #[.slice qn ns cn],.blk (w8.heap.size+1) 83 #[.slice none 0 0],.own 146 4 qn ns cn (au st),.own 138 4 none 0 0 []])
 have Tu:=lh S7.out.ext
 have QT:=lh (S7.out.rdx (wk+1+1) (li _ wk hs Fr _ 1 rfl))
 have VU:=lh (S7.out.rdx 0 rfl)
 have JG:=lh (fun h (hh:h<wk)=>S7.out.rdx (h+1) (by rw [List.cons_append,List.getElem?_cons_succ,List.getElem?_append_left (by simpa [eE] using hh)];exact uh hh))
 have Mr:=lh (S7.out.blk (wk+1+3) (li _ wk hs Fr _ 3 rfl))
 have Vw:=lh (S7.out.blk (wk+1+4) (li _ wk hs Fr _ 4 rfl))
 have Xr:Hid (w7.heap.size<=w8.heap.size):=S8.out.ext.size
 clear S0 S1 S2 S3 S4 S5 S6 S7 S8 IK VR JM VX VT HCM Vy PQ n0 nz
 obtain⟨gN,hgN⟩:∃ gN,w8.heap.size=gN:=⟨_,rfl⟩
 obtain⟨W9,NH⟩:∃ W9,(w8.alloc (.cells #[.slice qn ns cn] 85)).alloc (.cells #[.slice none 0 0] 83)=W9:=⟨_,rfl⟩
 rw [hgN,NH] at S9
 rw [hgN] at Xr
 rw [NH,hgN]
 clear hgN NH
 refine Bj _ _ _ _ _ _ _ _ _ _ _ _ _ _ _ _ _ _ _ _ _ _ _ _ _ _ _ _ _ _ _ _ _ _ _ _ _ _ _ _ _ _ _ _ _ _ _ _ _ _ _ _ _ _ _ _ _ _ _ _ _ _ _ _ _ _ _ _ _ _ _ _ _ _ _ _ _ _ _ _ _ _ _ _ _ _ _ _ _ _ _ _ _ _ _ _ _ _ _ _ _ _ _ _ _ _ _ _ _ _ _ _ _ _ _ _ _ _ _ _ _ (n0:=wk) (R:=fun nn JE Kh ds wr=>∃ (j:Nat) (P:List Sq) (Ds:List Nat) (q1:Option Addr) (c1:Nat) (q2:Option Addr) (c2:Nat),j+nn=wk/\JE=.int .i64 0/\Kh=.int .i64 j/\ds=Ds.map DS/\Hid (JA Fr wk ((Ja.take j).map Int.toNat) P)/\Hid (Ij w7.heap.size Ds wr)/\Hid (Ic w7 wr [.blk gN 85 #[.slice q1 (st ++ P).length c1],.blk (gN+1) 83 #[.slice q2 (P.flatMap F).length c2],.own 146 4 q1 (st ++ P).length c1 (au (st ++ P)),.own 138 4 q2 (P.flatMap F).length c2 (au (P.flatMap F))])) (h0:=?_) (round:=?_)
 ·exact⟨0,[],[],qn,cn,none,0,by omega,rfl,rfl,rfl,yj _ _,yQ _ _,by rw [List.append_nil,<- HST.out];exact S9.out⟩
 ·intro nn JE u24 u25 u26 u27 u28 Kh Ls Lt Lu Lv Lx LA LB LC LD LF LG LH LJ LK LP u93 LQ LU LV LY LZ L6 Jl Jm Jn Jo Jp u105 Jq Jr Js Jt Ju ds wr hrel K hK
  obtain⟨j,P,Ds,q1,c1,q2,c2,hj,rfl,rfl,rfl,HD,HM,S⟩:=hrel
  clear S9
  have HK:=lh hK
  clear hK
  by_cases hlt:j<wk
  ·obtain⟨h,Wy,Wz,hh3,WA⟩:=Dg Mx.out hlt
   have g0:=(QT.out.ext S.out.ext).cI hlt
   rw [Wy] at g0
   have ZZ:=QT.out.ptr
   have ZY:=VU.out.ptr
   have gh:=VU.out.cH Wz
   have hrb:=JG.out h Wz
   have hnl:=hrb.nQ
   have hbl:=kD Fr wk h
   have Xu:=lh hh3
   have Xv:=lh WA
   obtain⟨hd,hhd⟩:∃ hd,ae hs h=hd:=⟨_,rfl⟩
   rw [hhd] at gh hrb hnl
   obtain⟨hp,hn',hc⟩:=hd
   simp only at gh hrb hnl
   have VL:=lh (fun W (hW:Ext w7 W)=>El hp hn' hc (jU Fr wk h) pp np cp pk W (hrb.ext hW) (XK.out.ext (Ext.trans Tu.out hW)) (by have:=QJ.out;omega))
   have XH:=lh hnl
   have d1:(0:Int)<=j:=by omega
   have d2:(j:Int)<wk:=by omega
   have d3:(0:Int)<=h:=by omega
   have d4:(h:Int)<wk:=by omega
   have VD:=lh gh
   clear Wy hh3 WA hrb hnl hbl hhd gh
   go_wp2
   refine wp_region_noPanic ?_
   refine wp_region_held_drew (S:=fun W=>Ih W w.heap.size 24 #[.int .i64 k,.int .i64 f,.int .i64 t,.slice pw nw cw,.int .i64 rad,.int .i64 most]/\Ih W (w.heap.size+1) 27 #[.slice po no co,.slice pt nt ct,.slice pr nr cr,.slice pv nv cv]/\W.cell? (be qb h)=some (.slice hp hn' hc)) (by kernel_rfl) ⟨(Vw.out.ext S.out.ext).ext (Below.refl _ _).drew,(Mr.out.ext S.out.ext).ext (Below.refl _ _).drew,S.out.ext.cell VD.out⟩ (fun hHeld=>?_)
   have SD:=lh S.out.drew
   have TV:=lh (HM.out.ext (Below.refl wr.heap.size wr).drew)
   clear S g0
   generalize wr.drew=D at SD TV hHeld ⊢
   refine br 0 (.agg #[.int .i64 k,.int .i64 f,.int .i64 t,.slice pw nw cw,.int .i64 rad,.int .i64 most]) rfl (fun W hSw=>by have h0:=hSw.1.cell 0;have h1:=hSw.1.cell 1;have h2:=hSw.1.cell 2;have h3:=hSw.1.cell 3;have h4:=hSw.1.cell 4;have h5:=hSw.1.cell 5;clear hSw;go_simp) hHeld ?_
   refine br 1 (.agg #[.slice po no co,.slice pt nt ct,.slice pr nr cr,.slice pv nv cv]) rfl (fun W hSw=>by have h0:=hSw.2.1.cell 0;have h1:=hSw.2.1.cell 1;have h2:=hSw.2.1.cell 2;have h3:=hSw.2.1.cell 3;clear hSw;go_simp) hHeld ?_
   refine br 2 (.slice qb wk wk) rfl (fun W hSw=>by skip;clear hSw;go_simp) hHeld ?_
   refine br 3 (.int .i64 h) rfl (fun W hSw=>by skip;clear hSw;go_simp) hHeld ?_
   refine br 4 (.pointer (some (be qb h))) rfl (fun W hSw=>by skip;clear hSw;go_simp) hHeld ?_
   refine br 5 (.slice hp hn' hc) rfl (fun W hSw=>by have h0:=hSw.2.2;clear hSw;go_simp) hHeld ?_
   refine br 6 (.slice pp np cp) rfl (fun W hSw=>by skip;clear hSw;go_simp) hHeld ?_
   refine wpAnyH_ready (rs:=[7]) (by kernel_rfl) (by simp) (AllReadyH.cons rfl (fun K hK=>?_) AllReadyH.nil)
   go_simp
   refine(VL.out D SD.out.ext).mono ?_
   rintro e NN ⟨Bx,qm,Mm,hBx,rfl,Z⟩
   have Ny:=lh hBx
   have SE:=lh (SD.out.comp Z)
   have QP:=lh (TV.out.ext Z.ext)
   have UL:=hHeld
   have NY:=lh (Vw.out.ext SE.out.ext)
   have NZ:=lh (Mr.out.ext SE.out.ext)
   have NU:=lh (SE.out.ext.cell VD.out)
   clear Z SD TV hBx UL
   refine hK.out _ _ ⟨NY.out,NZ.out,NU.out⟩ (fun hHeld=>?_)
   clear hK
   refine br 8 (.agg #[.int .i64 k,.int .i64 f,.int .i64 t,.slice pw nw cw,.int .i64 rad,.int .i64 most,.slice po no co,.slice pt nt ct,.slice pr nr cr,.slice pv nv cv,.slice qm hn' Mm,.int .i64 0]) rfl (fun W hSw=>by skip;clear hSw;go_simp) hHeld ?_
   refine wpAnyH_ready (rs:=[9]) (by kernel_rfl) (by simp) (AllReadyH.cons rfl (fun K hK=>?_) AllReadyH.nil)
   go_simp
   have SG:=lh (SE.out.al #[.int .i64 k,.int .i64 f,.int .i64 t,.slice pw nw cw,.int .i64 rad,.int .i64 most,.slice po no co,.slice pt nt ct,.slice pr nr cr,.slice pv nv cv,.slice qm hn' Mm,.int .i64 0] 206 NN.heap.size rfl)
   refine hK.out _ _ ⟨NY.out.ext (Ext.alloc (Below.refl _ _) _),NZ.out.ext (Ext.alloc (Below.refl _ _) _),(Ext.alloc (Below.refl _ _) _:Ext NN _).cell NU.out⟩ (fun hHeld=>?_)
   clear hK
   refine br 10 (.pointer (some ⟨NN.heap.size,0,none⟩)) rfl (fun W hSw=>by skip;clear hSw;go_simp) hHeld ?_
   refine wpAnyH_done (by kernel_rfl) ?_ _
   refine bm ?_
   have VM:=lh (QP.out.ext (Ext.alloc (Below.refl _ _) (.cells #[.int .i64 k,.int .i64 f,.int .i64 t,.slice pw nw cw,.int .i64 rad,.int .i64 most,.slice po no co,.slice pt nt ct,.slice pr nr cr,.slice pv nv cv,.slice qm hn' Mm,.int .i64 0] 206)))
   clear hHeld NY NZ NU QP SE VL
   simp [Act.put]
   go_wp2_with (go_at_call 147;go_must (refine(FT _ _).mono ?_;rintro e Vd ⟨rfl,rfl⟩))
   have SA:=SG.out.al #[.pointer (some ⟨NN.heap.size,0,none⟩)] 203 (NN.heap.size+1) (by simp)
   obtain⟨JQ,Om⟩:∃ JQ,(NN.alloc (.cells #[.int .i64 k,.int .i64 f,.int .i64 t,.slice pw nw cw,.int .i64 rad,.int .i64 most,.slice po no co,.slice pt nt ct,.slice pr nr cr,.slice pv nv cv,.slice qm hn' Mm,.int .i64 0] 206)).alloc (.cells #[.pointer (some ⟨NN.heap.size,0,none⟩)] 203)=JQ:=⟨_,rfl⟩
   have PX:Hid (Ij w7.heap.size Ds JQ):=by rw [<- Om];exact VM.out.ext (Ext.alloc (Below.refl _ _) _)
   rw [Om] at SA ⊢
   clear Om VM SG
   generalize NN.heap.size=gw at *
   obtain⟨AA,Qf⟩:∃ AA,AA=[Pc.blk (gw+1) 203 #[.pointer (some ⟨gw,0,none⟩)],.blk gw 206 #[.int .i64 k,.int .i64 f,.int .i64 t,.slice pw nw cw,.int .i64 rad,.int .i64 most,.slice po no co,.slice pt nt ct,.slice pr nr cr,.slice pv nv cv,.slice qm hn' Mm,.int .i64 0],.own 138 4 qm hn' Mm (au Bx)]:=⟨_,rfl⟩
   have X3:Hid (Ic w7 JQ (Pc.fix (j3 AA) JQ :: [.blk gN 85 #[.slice q1 (st ++ P).length c1],.blk (gN+1) 83 #[.slice q2 (P.flatMap F).length c2],.own 146 4 q1 (st ++ P).length c1 (au (st ++ P)),.own 138 4 q2 (P.flatMap F).length c2 (au (P.flatMap F))])):=Ic.fixed (A:=AA) (by rw [Qf];exact SA)
   have PO:Hid (∀ p∈AA,p.holds JQ):=fun p hp=>SA.all p (by rw [Qf] at hp;simp only [List.mem_cons,List.not_mem_nil,or_false] at hp ⊢;rcases hp with rfl | rfl | rfl <;> simp)
   have Pg:Hid (∀ p∈AA,∀ kk,p.foot kk->kk<JQ.heap.size):=fun p hp kk hk=>p.inh JQ (PO.out p hp) kk hk
   have Vs:Hid (∀ p∈AA,p.cells):=fun p hp=>by
    rw [Qf] at hp
    exact dD (fun p hp=>by
     simp only [List.mem_cons,List.not_mem_nil,or_false] at hp
     rcases hp with rfl | rfl | rfl
     ·exact .inl ⟨_,_,_,rfl⟩
     ·exact .inl ⟨_,_,_,rfl⟩
     ·exact .inr ⟨_,_,_,_,_,_,rfl⟩) p hp
   have Ki:Hid (w7.heap.size<=JQ.heap.size):=SA.ext.size
   have QI:=lh SA.ext
   have TT:=lh PX.out.lt
   have Ti:=lh Qf
   clear SA Qf
   obtain⟨Ks,hKs⟩:∃ Ks:Nat->Prop,Ks=fun kk=>kk<w7.heap.size\/j3 AA kk:=⟨_,rfl⟩
   have Mf:=lh hKs
   clear hKs
   have Xz:Hid (∀ W,IC Ks JQ W->Ext w7 W):=fun W h=>⟨h.os.trans QI.out.os,h.tape.trans QI.out.tape,h.output.trans QI.out.output,Nat.le_trans Ki.out h.size,fun kk hk=>(h.block kk (by rw [Mf.out];exact .inl hk)).trans (QI.out.block kk hk)⟩
   have XA:Hid (∀ W,IC Ks JQ W->∀ p∈AA,p.holds W):=fun W h p hp=>p.loc JQ W (PO.out p hp) fun kk hk=>h.block kk (by rw [Mf.out];exact .inr ⟨p,hp,hk⟩)
   refine wpIn_wide.1 (jA (F:=Fence.wide) (n:=9) rfl (by omega) (gf:=212) (lb:=#[.pointer (some ⟨gw+1,0,none⟩)]) rfl trivial (enters_of func212 (by kernel_rfl) rfl)
    (E8 8 (by omega) k f t pw nw cw rad most po no co pt nt ct pr nr cr pv nv cv (gw+1) gw qm hn' Mm Bx F Ks JQ ?hKl ?hF ?hN)
    (fun h k=>h.trans k) ?hKb (Below.refl _ _) (fun _=>rfl)
    (fun pre W=>∃ q1 c1 q2 c2,Ij w7.heap.size Ds W/\Ic w7 W [Pc.fix (j3 AA) JQ,.blk gN 85 #[.slice q1 (st ++ (P ++ pre.map (·.x))).length c1],.blk (gN+1) 83 #[.slice q2 ((P ++ pre.map (·.x)).flatMap F).length c2],.own 146 4 q1 (st ++ (P ++ pre.map (·.x))).length c1 (au (st ++ (P ++ pre.map (·.x)))),.own 138 4 q2 ((P ++ pre.map (·.x)).flatMap F).length c2 (au ((P ++ pre.map (·.x)).flatMap F))])
    (fun _ _ _=>False) ?hI (fun _ _ _ _ _ h _ _=>h.elim) (fun _ _ _=>trivial) ?h0
    (fun pre y a' W=>∃ gx,vp (.pointer (some ⟨gN,0,none⟩)) (.pointer (some ⟨gN+1,0,none⟩)) (.pointer (some ⟨gx,0,none⟩)) (.slice y.q (F y.x).length y.c) a'/\(∃ q1 c1 q2 c2,Ij w7.heap.size Ds W/\Ic w7 W (.blk gx 146 #[.int .i64 y.x.s,.int .i64 y.x.r,.int .i64 y.x.v,.int .i64 y.x.d] :: .own 138 4 y.q (F y.x).length y.c (au (F y.x)) :: [Pc.fix (j3 AA) JQ,.blk gN 85 #[.slice q1 (st ++ (P ++ pre.map (·.x))).length c1],.blk (gN+1) 83 #[.slice q2 ((P ++ pre.map (·.x)).flatMap F).length c2],.own 146 4 q1 (st ++ (P ++ pre.map (·.x))).length c1 (au (st ++ (P ++ pre.map (·.x)))),.own 138 4 q2 ((P ++ pre.map (·.x)).flatMap F).length c2 (au ((P ++ pre.map (·.x)).flatMap F))]))/\(pre ++ [y]).map (·.x)=Bx.take (pre.length+1)/\pre.length<Bx.length)
    ?hAx ?assign ?body ?done (fun D c pre W _ _ h _=>h.elim))
   case hKl =>
    intro kk hk
    rw [Mf.out] at hk
    rcases hk with hk | ⟨p,hp,hk⟩
    ·exact Nat.lt_of_lt_of_le hk Ki.out
    ·exact Pg.out p hp kk hk
   case hF =>
    intro W NH
    have h3:=XA.out W NH
    rw [Ti.out] at h3
    refine⟨h3 _ (List.mem_cons_self ..),h3 _ (List.mem_cons_of_mem _ (List.mem_cons_self ..)),Rd.of_own (aP (h3 (.own 138 4 qm hn' Mm (au Bx)) (by simp)) (Nat.le_refl _)) ?_⟩
    have:=XH.out
    have:=kD Fr wk h
    have:=QJ.out
    omega
   case hN =>
    intro x hx W h
    exact IM.out x (Kw.out x (nJ.1 (Ny.out.mem_iff.1 hx)).1) W (Ext.trans Tu.out (Xz.out W h))
   case hKb =>
    intro W l o o' hl ho _ _
    refine⟨rfl,rfl,rfl,by simp,fun kk hk=>World.putObj_heap_other ?_⟩
    rw [Mf.out] at hk
    rcases hk with hk | ⟨p,hp,hk⟩
    ·have:=Ki.out;omega
    ·have:=Pg.out p hp kk hk;omega
   case hI =>
    rintro pre W W' row ⟨q1,c1,q2,c2,hm,S⟩ hg hr
    exact⟨q1,c1,q2,c2,ov hm TT.out hg hr,S.turn (fun p hp=>by
     simp only [List.mem_cons,List.not_mem_nil,or_false] at hp
     rcases hp with rfl | rfl | rfl | rfl | rfl
     ·exact qC Vs.out PO.out
     ·exact Pc.blk_cells _ _ _
     ·exact Pc.blk_cells _ _ _
     ·exact Pc.own_cells _ _ _ _ _ _
     ·exact Pc.own_cells _ _ _ _ _ _) Ki.out hg hr⟩
   case h0=>exact⟨q1,c1,q2,c2,PX.out,by rw [List.map_nil,List.append_nil];exact X3.out⟩
   case hAx =>
    rintro pre y a' _ W W' row ⟨gx,hfr,⟨q1,c1,q2,c2,hm,S⟩,hp⟩ hg hr
    exact⟨gx,hfr,⟨q1,c1,q2,c2,ov hm TT.out hg hr,S.turn (fun p hp=>by
     simp only [List.mem_cons,List.not_mem_nil,or_false] at hp
     rcases hp with rfl | rfl | rfl | rfl | rfl | rfl | rfl
     ·exact Pc.blk_cells _ _ _
     ·exact Pc.own_cells _ _ _ _ _ _
     ·exact qC Vs.out PO.out
     ·exact Pc.blk_cells _ _ _
     ·exact Pc.blk_cells _ _ _
     ·exact Pc.own_cells _ _ _ _ _ _
     ·exact Pc.own_cells _ _ _ _ _ _) Ki.out hg hr⟩,hp⟩
   case assign =>
    rintro l pre y V0 W Kx ⟨q1,c1,q2,c2,hm,S⟩ hE ⟨hl,hp1,hp2⟩ hKx
    have TP:=lh hKx
    have SY:=lh ((S.comp hl).al #[.int .i64 y.x.s,.int .i64 y.x.r,.int .i64 y.x.v,.int .i64 y.x.d] 146 W.heap.size rfl)
    have Kz:=lh ((hm.ext hE).ext (Ext.alloc (Below.refl _ W) (.cells #[.int .i64 y.x.s,.int .i64 y.x.r,.int .i64 y.x.v,.int .i64 y.x.d] 146)))
    have XB:Hid (IC Ks W (W.alloc (.cells #[.int .i64 y.x.s,.int .i64 y.x.r,.int .i64 y.x.v,.int .i64 y.x.d] 146))):=by
     have hx:Ext W (W.alloc (.cells #[.int .i64 y.x.s,.int .i64 y.x.r,.int .i64 y.x.v,.int .i64 y.x.d] 146)):=Ext.alloc (Below.refl _ W) _
     refine⟨hx.os,hx.tape,hx.output,hx.size,fun kk hk=>hx.block kk ?_⟩
     rw [Mf.out] at hk
     rcases hk with hk | hk
     ·exact Nat.lt_of_lt_of_le hk (Nat.le_trans S.ext.size hE.size)
     ·exact Nat.lt_of_lt_of_le (S.all _ (List.mem_cons_self ..) kk hk).1 hE.size
    have XI:=lh hp1
    have NA:=lh hp2
    clear hKx S hm hl hp1 hp2 hE
    simp only [Hx]
    gi_wp2
    exact TP.out _ _ ((eG (Ext.alloc (Below.refl _ _) _)).from _) XB.out ⟨q1,c1,q2,c2,Kz.out,SY.out.pick [2,3,4,5,6] (by decide) rfl⟩ ⟨W.heap.size,yr,⟨q1,c1,q2,c2,Kz.out,SY.out⟩,XI.out,NA.out⟩
   case body =>
    rintro l pre y a' W _ ⟨gx,hfr,⟨q1,c1,q2,c2,hm,S⟩,hp1,hp2⟩
    have hel:∀ x∈P ++ (pre ++ [y]).map (·.x),x∈M:=fun x hx=>by
     rcases List.mem_append.1 hx with hx | hx
     ·exact Kw.out x ((HD.out.mem x).1 hx).1
     ·rw [hp1] at hx
      exact Kw.out x (nJ.1 (Ny.out.mem_iff.1 (List.mem_of_mem_take hx))).1
    have UK:P.length<=400:=by
     have:=oB (n:=n) HD.out.two fun x hx=>QM.out x (.inr (Kw.out x ((HD.out.mem x).1 hx).1))
     omega
    have hbx:Bx.length<=100000:=by
     rw [Ny.out.length_eq]
     exact Nat.le_trans (kD Fr wk h) QJ.out
    have K6:=HST.out
    have NJ:((pre ++ [y]).map (·.x)).length=pre.length+1:=by simp
    have hXl:(st ++ (P ++ pre.map (·.x))).length<=200000:=by
     simp only [List.length_append,List.length_map];omega
    have Oo:((P ++ (pre ++ [y]).map (·.x)).flatMap F).length<=40000000:=by
     have h9:=mu (f:=F) (P:=P ++ (pre ++ [y]).map (·.x)) (b:=200) (fun x hx=>(IU.out x (hel x hx)).1)
     rw [List.length_append,NJ] at h9
     omega
    have Qi:st ++ (P ++ (pre ++ [y]).map (·.x))=(st ++ (P ++ pre.map (·.x))) ++ [y.x]:=by simp
    have PH:(P ++ (pre ++ [y]).map (·.x)).flatMap F=((P ++ pre.map (·.x)).flatMap F) ++ F y.x:=by simp
    rw [PH,List.length_append] at Oo
    obtain⟨X,hX⟩:∃ X,st ++ (P ++ pre.map (·.x))=X:=⟨_,rfl⟩
    obtain⟨Z,hZ⟩:∃ Z,(P ++ pre.map (·.x)).flatMap F=Z:=⟨_,rfl⟩
    obtain⟨FY,Wo⟩:∃ FY,F y.x=FY:=⟨_,rfl⟩
    rw [hX] at Qi hXl S
    rw [hZ] at PH Oo S
    rw [Wo] at PH Oo S hfr
    obtain⟨JV,hpre⟩:∃ JV,pre ++ [y]=JV:=⟨_,rfl⟩
    rw [hpre] at Qi PH ⊢
    obtain⟨yx,hyx⟩:∃ yx,y.x=yx:=⟨_,rfl⟩
    rw [hyx] at Qi S
    have XT:=lh Qi
    have XV:=lh PH
    have XF:=lh hm
    clear Qi PH hX hZ Wo hpre hyx hel hp1 hp2 NJ hm UK hbx K6
    have b0:W.cell? ⟨gN,0,none⟩=some (.slice q1 X.length c1):=(S.blk 3 rfl).cell 0
    have bz:=(S.blk 3 rfl).lt
    obtain⟨x0,x1,x2,x3,xz⟩:=ah (S.blk 0 rfl)
    simp at x0 x1 x2 x3
    have SH:=lh S;clear S
    have kE:=lh (eG (Ext.alloc (Below.refl _ W) (.cells #[.int .i64 yx.s,.int .i64 yx.r,.int .i64 yx.v,.int .i64 yx.d] 146)))
    unfold vp at hfr
    (repeat obtain⟨_,hfr⟩:=hfr)
    refine wpIn_block ?_
    refine wpIn_seq_k fun K2 hK2=>?_
    have Kj:=lh hK2
    clear hK2
    refine iu (by rintro⟨_,_,h⟩;exact h) (by kernel_rfl) ?_
    go_wp2_with (at_builtin;go_must (refine gj rfl _ _ _ rfl 146 j0 _ 4 32 underlying85 hj0 hy0 hy1 hy2 rfl (by omega) (SH.out.junk _) 5 q1 X.length c1 _ rfl rfl _ 1 1 _ rfl (Rd.newAt _ _ _ 1 4 _ (by simp) rfl (by omega)) (cP [yx]) (by omega) (by omega) ?_;intro q5 c5 w5 S' hsz hK1;obtain⟨k4,kf,kz⟩:=dC (S'.blk 3 rfl);have S5:=lh S';have K5:=lh hK1;clear S' hsz hK1))
    have S6:=S5.out.set 3 rfl 0 (.slice q5 (X.length+1) c5)
    have kS:=KeepsOthers.setCell w5 ⟨gN,0,none⟩ (.slice q5 (X.length+1) c5)
    refine Kj.out _ _ ?_
    clear b0 bz x0 x1 x2 x3 xz k4 kf kz
    obtain⟨W6,Wv⟩:∃ W6,w5.setCell ⟨gN,0,none⟩ (.slice q5 (X.length+1) c5)=W6:=⟨_,rfl⟩
    rw [Wv] at S6 kS ⊢
    have KS:=lh kS
    have b0:W6.cell? ⟨gN+1,0,none⟩=some (.slice q2 Z.length c2):=(S6.blk 4 rfl).cell 0
    have bz:=(S6.blk 4 rfl).lt
    have SI:=lh S6
    have N8:=lh (S6.rdx 1 rfl)
    clear Wv S6 kS S5 Kj
    refine iu (by rintro⟨_,_,h⟩;exact h) (by kernel_rfl) ?_
    go_wp2_with (at_builtin;go_must (refine gj rfl _ _ _ rfl 138 i0 _ 4 32 underlying83 hi0 hz0 hz1 hz2 rfl (by omega) SI.out 6 q2 Z.length c2 _ rfl rfl _ FY.length y.c _ rfl N8.out (cP FY) (by omega) (by omega) ?_;intro q7 c7 Zo S' hsz hK1;obtain⟨k4,kf,kz⟩:=dC (S'.blk 4 rfl);have S7:=lh S';have K7:=lh hK1;clear S' hsz hK1))
    have S8:=S7.out.set 4 rfl 0 (.slice q7 (Z.length+FY.length) c7)
    have kS:=KeepsOthers.setCell Zo ⟨gN+1,0,none⟩ (.slice q7 (Z.length+FY.length) c7)
    have KA:=(((kE.out.trans K5.out).trans KS.out).trans K7.out).trans kS
    refine⟨KA.from _,⟨S8.ext.os.trans SH.out.ext.os.symm,S8.ext.tape.trans SH.out.ext.tape.symm,S8.ext.output.trans SH.out.ext.output.symm,KA.size,fun kk hk=>?_⟩,q5,c5,q7,c7,XF.out.keeps KA,?_⟩
    ·rw [Mf.out] at hk
     rcases hk with hk | hk
     ·exact(S8.ext.block kk hk).trans (SH.out.ext.block kk hk).symm
     ·exact(S8.all (Pc.fix (j3 AA) JQ) (by simp) kk hk).2.trans (SH.out.all (Pc.fix (j3 AA) JQ) (by simp) kk hk).2.symm
    ·rw [XT.out,XV.out,List.length_append,List.length_append,bC,bC]
     exact S8.pick [2,3,4,5,6] (by decide) rfl
   case done =>
    rintro D ys W hD hys ⟨q3,c3,q4,c4,hm,S⟩ Wq
    rw [hys] at S
    have JI:Ih W gw 206 #[.int .i64 k,.int .i64 f,.int .i64 t,.slice pw nw cw,.int .i64 rad,.int .i64 most,.slice po no co,.slice pt nt ct,.slice pr nr cr,.slice pv nv cv,.slice qm hn' Mm,.int .i64 0]:=S.fixAt (p:=.blk gw 206 #[.int .i64 k,.int .i64 f,.int .i64 t,.slice pw nw cw,.int .i64 rad,.int .i64 most,.slice po no co,.slice pt nt ct,.slice pr nr cr,.slice pv nv cv,.slice qm hn' Mm,.int .i64 0]) (by rw [Ti.out];simp) (PO.out _ (by rw [Ti.out];simp))
    have b0:W.cell? ⟨gw,11,none⟩=some (.int .i64 0):=JI.cell 11
    have bz:=JI.lt
    have ZA:=(show W.heap[gw]?=_ from JI)
    have Mc:Hid (JA Fr wk ((Ja.take (j+1)).map Int.toNat) (P ++ Bx)):=by
     rw [Xv.out]
     exact vi (by rw [<- NT.out];exact dE _ _) HD.out Xu.out Ny.out
    have XE:Hid (Ij w7.heap.size (D :: Ds) W):=hm.cons (fun hin=>by have:=TT.out D hin;omega) (Nat.le_trans Ki.out hD) Wq
    have Ka:=lh (S.pick [1,2,3,4] (by decide) rfl:Ic w7 W [.blk gN 85 #[.slice q3 (st ++ (P ++ Bx)).length c3],.blk (gN+1) 83 #[.slice q4 ((P ++ Bx).flatMap F).length c4],.own 146 4 q3 (st ++ (P ++ Bx)).length c3 (au (st ++ (P ++ Bx))),.own 138 4 q4 ((P ++ Bx).flatMap F).length c4 (au ((P ++ Bx).flatMap F))])
    clear hm S Wq hys JI
    go_wp2
    refine HK.out (nn - 1) _ _ _ _ _ _ _ _ _ _ _ _ _ _ _ _ _ _ _ _ _ _ _ _ _ _ _ _ _ _ _ _ _ _ _ _ _ _ _ _ _ _ (by omega) ⟨j+1,P ++ Bx,D :: Ds,q3,c3,q4,c4,by omega,rfl,by go_num,rfl,Mc,XE,Ka⟩
  ·obtain rfl:wk=j:=by omega
   have UJ:=yi (by omega) HD.out (Bv Mx.out)
   have UK:P.length<=400:=by
    have:=oB (n:=n) HD.out.two fun x hx=>QM.out x (.inr (Kw.out x ((HD.out.mem x).1 hx).1))
    omega
   obtain⟨e1,e2⟩:=sf (f:=F) (M:=M) VJ.out (P:=P) (fun x=>by rw [NT.out];exact UJ x) HD.out.two
   rw [XO.out] at e1 e2
   have h3:Il (st ++ P):=fw.2 ⟨jj VJ.out,HD.out.two,fun x hx y hy e=>by
    have hy2:=(UJ y).1 hy
    rw [<- NT.out] at hy2
    exact(dr.1 hy2).2 ⟨x,hx,e⟩⟩
   have K6:=HST.out
   have hXl:(st ++ P).length<=100000:=by rw [List.length_append];omega
   have Oo:(P.flatMap F).length<=100000:=by
    have h9:=mu (f:=F) (P:=P) (b:=200) (fun x hx=>(IU.out x (Kw.out x ((HD.out.mem x).1 hx).1)).1)
    omega
   have Wu:∀ x∈S'.1,x.I:=fun x hx=>by
    rw [<- e1,jQ] at hx
    rcases List.mem_append.1 hx with hx | hx
    ·exact XP.out x hx
    ·exact XD.out x (Kw.out x ((HD.out.mem x).1 hx).1)
   have UI:∀ y∈P.flatMap F,y.I:=fun y hy=>by
    obtain⟨x,hx,hxy⟩:=List.mem_flatMap.1 hy
    exact(IU.out x (Kw.out x ((HD.out.mem x).1 hx).1)).2 y hxy
   have NE:(st ++ P).length=S'.1.length:=by rw [<- e1,ip]
   obtain⟨X,hX⟩:∃ X,st ++ P=X:=⟨_,rfl⟩
   obtain⟨Z,hZ⟩:∃ Z,P.flatMap F=Z:=⟨_,rfl⟩
   have SX:Ic w7 wr [.blk gN 85 #[.slice q1 X.length c1],.blk (gN+1) 83 #[.slice q2 Z.length c2],.own 146 4 q1 X.length c1 (au X),.own 138 4 q2 Z.length c2 (au Z)]:=by rw [<- hX,<- hZ];exact S.out
   rw [hX] at e1 h3 hXl NE
   rw [hX,hZ] at e2
   rw [hZ] at Oo UI
   have QU:=lh (SX.marks (dD (fun p hp=>by
    simp only [List.mem_cons,List.not_mem_nil,or_false] at hp
    rcases hp with rfl | rfl | rfl | rfl
    ·exact .inl ⟨_,_,_,rfl⟩
    ·exact .inl ⟨_,_,_,rfl⟩
    ·exact .inr ⟨_,_,_,_,_,_,rfl⟩
    ·exact .inr ⟨_,_,_,_,_,_,rfl⟩)) Ds HM.out)
   have Py:=lh (xG QU.out 2 rfl h3 (by omega))
   rw [e1] at Py
   have Ty:=lh (fun W (hs:Rd W 4 q1 X.length (au S'.1)) (hm:Rd W 4 q2 Z.length (au Z))=>zS q1 X.length c1 S'.1 q2 Z.length c2 Z W hs hm Wu UI hXl Oo)
   have HE2:bI S'.1 Z=S'.2:=by rw [<- e2,e1]
   rw [HE2] at Ty
   have XQ:=lh NE
   have b0:wr.cell? ⟨gN,0,none⟩=some (.slice q1 X.length c1):=(SX.blk 0 rfl).cell 0
   have bz:=(SX.blk 0 rfl).lt
   clear e1 e2 h3 K6 Wu UI NE UJ UK S SX hX hZ HE2 HD hXl Oo
   go_wp2_with (go_at_call 148;go_must (refine Py.out.mono ?_;rintro e Vd ⟨rfl,We⟩;have SS:=lh (show Ic w7 Vd ([.blk gN 85 #[.slice q1 X.length c1],.blk (gN+1) 83 #[.slice q2 Z.length c2],.own 146 4 q1 X.length c1 (au S'.1),.own 138 4 q2 Z.length c2 (au Z)] ++ Ds.map fun D=>Pc.obj D (.deferred (some []))) from We);clear We))
   refine wp_region_noPanic ?_
   refine wp_region_held_drew (S:=fun W=>W.cell? ⟨gN,0,none⟩=some (.slice q1 X.length c1)/\W.cell? ⟨gN+1,0,none⟩=some (.slice q2 Z.length c2)) (by kernel_rfl) ⟨(SS.out.drew.blk 0 rfl).cell 0,(SS.out.drew.blk 1 rfl).cell 0⟩ (fun hHeld=>?_)
   have SD:=lh SS.out.drew
   clear SS Py QU b0 bz
   generalize Vd.drew=D at SD hHeld ⊢
   refine br 0 (.slice q1 X.length c1) rfl (fun W hSw=>by have h0:=hSw.1;clear hSw;go_simp) hHeld ?_
   refine br 1 (.slice q1 X.length c1) rfl (fun W hSw=>by have h0:=hSw.1;clear hSw;go_simp) hHeld ?_
   refine br 2 (.slice q2 Z.length c2) rfl (fun W hSw=>by have h0:=hSw.2;clear hSw;go_simp) hHeld ?_
   refine wpAnyH_ready (rs:=[3]) (by kernel_rfl) (by simp) (AllReadyH.cons rfl (fun K hK=>?_) AllReadyH.nil)
   go_simp
   refine(Ty.out D (SD.out.rdx 2 rfl) (SD.out.rdx 3 rfl)).mono ?_
   rintro e w13 ⟨q9,c9,rfl,Wh⟩
   have Uo:=lh (SD.out.comp Wh)
   clear Wh SD Ty
   refine hK.out _ _ ⟨(Uo.out.blk 1 rfl).cell 0,(Uo.out.blk 2 rfl).cell 0⟩ (fun hHeld=>?_)
   clear hK
   refine br 4 (.slice q1 X.length c1) rfl (fun W hSw=>by skip;clear hSw;go_simp) hHeld ?_
   refine br 5 (.slice q9 S'.2.length c9) rfl (fun W hSw=>by skip;clear hSw;go_simp) hHeld ?_
   refine br 6 (.int .i64 0) rfl (fun W hSw=>by skip;clear hSw;go_simp) hHeld ?_
   refine wpAnyH_done (by kernel_rfl) ?_ _
   refine bm ?_
   clear hHeld
   have SU:=lh (Ic.unmarks (Γ:=[.own 138 4 q9 S'.2.length c9 (au S'.2),.blk gN 85 #[.slice q1 X.length c1],.blk (gN+1) 83 #[.slice q2 Z.length c2],.own 146 4 q1 X.length c1 (au S'.1),.own 138 4 q2 Z.length c2 (au Z)]) (Ds:=Ds) (w:=wr) HM.out Uo.out)
   simp [Act.put]
   go_wp2
   try rw [Exit.noGoto_ret]
   refine kN (fun W=>Ic w7 W [.own 138 4 q9 S'.2.length c9 (au S'.2),.own 146 4 q1 X.length c1 (au S'.1)]) w7.heap.size (fun W D hB hD hS=>hS.putObj (dD (fun p hp=>by
    simp only [List.mem_cons,List.not_mem_nil,or_false] at hp
    rcases hp with rfl | rfl
    ·exact .inr ⟨_,_,_,_,_,_,rfl⟩
    ·exact .inr ⟨_,_,_,_,_,_,rfl⟩)) (.deferred none) hB hD rfl) (fun W hS=>⟨.tuple #[.slice q1 X.length c1,.slice q9 S'.2.length c9,.int .i64 0],by simp [results,results94,go_sem],?_⟩) Ds _ SU.out.2 (SU.out.1.pick [0,3] (by decide) rfl)
   rw [XQ.out] at hS ⊢
   exact⟨q1,c1,q9,c9,rfl,(((Ic.start w).call Tu.out).comp (hS.pick [1,0] (by decide) rfl:Ic w7 W [.own 146 4 q1 S'.1.length c1 (au S'.1),.own 138 4 q9 S'.2.length c9 (au S'.2)])).pick [0,1] (by decide) rfl⟩
end
def iR (ck:Bool) (O R:List Int) (x:Sq):Int:=DU ck (eY ck (if x.r=1 then R else O) x.v) x
def aG (k rad:Int) (ck:Bool) (O T R V:List Int) (x:Sq):List Sq:=EU k rad (iR ck O R x) x (if x.r=1 then dH ck R V x.v else dH ck O T x.v)
theorem Bw {ck:Bool} {A B:List Int} {v:Int} (hB:B.length<=2000):(dH ck A B v).length<=2000:=by
 unfold dH
 split
 ·unfold aD;rw [List.length_take,List.length_drop];omega
 ·simp
theorem En (k f t:Int) (pw:Option Addr) (nw cw:Nat) (rad most:Int) (po:Option Addr) (no co:Nat) (O:List Int) (pt:Option Addr) (nt ct:Nat) (T:List Int) (pr:Option Addr) (nr cr:Nat) (R:List Int) (pv:Option Addr) (nv cv:Nat) (V:List Int) (w:World) (s v d:Int) (hO:Rd w 1 po no (ab O)) (hT:Rd w 1 pt nt (ab T)) (hR:Rd w 1 pr nr (ab R)) (hV:Rd w 1 pv nv (ab V)) (hct:nt<=ct) (hcv:nv<=cv) (hb:ai O T R V=true->(dH (ai O T R V) R V v).length<=100000) :
  Calls prog 213 #[.agg #[.int .i64 k,.int .i64 f,.int .i64 t,.slice pw nw cw,.int .i64 rad,.int .i64 most],.agg #[.slice po no co,.slice pt nt ct,.slice pr nr cr,.slice pv nv cv],.agg #[.int .i64 s,.int .i64 1,.int .i64 v,.int .i64 d]] w fun e w'=>∃ q c,e=.returned (.tuple #[.slice q (aG k rad (ai O T R V) O T R V ⟨s,1,v,d⟩).length c,.int .i64 (iR (ai O T R V) O R ⟨s,1,v,d⟩)])/\Ic w w' [.own 138 4 q (aG k rad (ai O T R V) O T R V ⟨s,1,v,d⟩).length c (au (aG k rad (ai O T R V) O T R V ⟨s,1,v,d⟩))]:=by
 obtain⟨i0,hi0,hz0,hz1,hz2⟩:=info_parts iE
 have S0:=lh ((((Ic.start w).al #[.int .i64 k,.int .i64 f,.int .i64 t,.slice pw nw cw,.int .i64 rad,.int .i64 most] 24 w.heap.size rfl).al #[.slice po no co,.slice pt nt ct,.slice pr nr cr,.slice pv nv cv] 27 (w.heap.size+1) (by simp)).al #[.int .i64 s,.int .i64 1,.int .i64 v,.int .i64 d] 146 (w.heap.size+1+1) (by simp))
 have HC:=lh (fun W1 (h:Ext w W1)=>iV po no co O pt nt ct T pr nr cr R pv nv cv V W1 (hO.ext h) (hT.ext h) (hR.ext h) (hV.ext h) hct hcv)
 have HG:=lh (fun W1 (h:Ext w W1)=>Hy po no co O pt nt ct T pr nr cr R pv nv cv V W1 v (hO.ext h) (hT.ext h) (hR.ext h) (hV.ext h) hct hcv)
 unfold aG iR
 simp only [if_true]
 clear hO hT hR hV
 cases hck:ai O T R V with
 | false =>
  rw [hck] at HC HG
  rw [Bp,gV (Or.inl (by decide))]
  clear hck hb
  generalize dH false R V v=L at *
  generalize eY false R v=ob at *
  go_enter func213,ntmps213
  go_wp2_with (first | (go_at_call 82;go_must (refine(HC.out _ S1.out.ext).mono ?_;rintro e w2 ⟨rfl,hb⟩;have S2:=lh (S1.out.call hb);clear y0 y1 y2 y3 yz b0 b1 b2 b3 bz hb;obtain⟨y0,y1,y2,y3,yz⟩:=ah (S2.out.blk 1 rfl);obtain⟨a0,a4,az⟩:=cG (S2.out.blk 3 rfl))) | (go_at_call 245;go_must (refine(HG.out _ S0.out.ext).mono ?_;rintro e w1 ⟨q,c,rfl,Z⟩;have S1:=lh (S0.out.comp Z);obtain⟨y0,y1,y2,y3,yz⟩:=ah (S1.out.blk 1 rfl);obtain⟨b0,b1,b2,b3,bz⟩:=ah (S1.out.blk 2 rfl);clear Z)))
  go_ret2
  exact⟨none,0,rfl,(S2.out.nilrow _ _).pick [0] (by decide) rfl⟩
 | true =>
  rw [hck] at HC HG
  have hbL:=hb hck
  rw [hck] at hbL
  clear hck hb
  generalize dH true R V v=L at *
  cases hob:eY true R v with
  | false =>
   rw [hob] at HG
   rw [wP (fun h=>by cases h.1),gV (Or.inl (by decide))]
   clear hob
   go_enter func213,ntmps213
   go_wp2_with (first | (go_at_call 82;go_must (refine(HC.out _ S1.out.ext).mono ?_;rintro e w2 ⟨rfl,hb⟩;have S2:=lh (S1.out.call hb);clear y0 y1 y2 y3 yz b0 b1 b2 b3 bz hb;obtain⟨y0,y1,y2,y3,yz⟩:=ah (S2.out.blk 1 rfl);obtain⟨a0,a4,az⟩:=cG (S2.out.blk 3 rfl))) | (go_at_call 245;go_must (refine(HG.out _ S0.out.ext).mono ?_;rintro e w1 ⟨q,c,rfl,Z⟩;have S1:=lh (S0.out.comp Z);obtain⟨y0,y1,y2,y3,yz⟩:=ah (S1.out.blk 1 rfl);obtain⟨b0,b1,b2,b3,bz⟩:=ah (S1.out.blk 2 rfl);clear Z)))
   go_ret2
   exact⟨none,0,rfl,(S2.out.nilrow _ _).pick [0] (by decide) rfl⟩
  | true =>
   rw [hob] at HG
   clear hob
   by_cases hd:0<=d/\d<=200
   ·rw [wO ⟨rfl,Or.inr rfl,hd⟩]
    obtain⟨hd0,hd1⟩:=hd
    by_cases h3:k=3/\rad<=d
    ·rw [gV (Or.inr h3)]
     obtain⟨rfl,h3⟩:=h3
     go_enter func213,ntmps213
     go_wp2_with (first | (go_at_call 82;go_must (refine(HC.out _ S1.out.ext).mono ?_;rintro e w2 ⟨rfl,hb⟩;have S2:=lh (S1.out.call hb);clear y0 y1 y2 y3 yz b0 b1 b2 b3 bz hb;obtain⟨y0,y1,y2,y3,yz⟩:=ah (S2.out.blk 1 rfl);obtain⟨a0,a4,az⟩:=cG (S2.out.blk 3 rfl))) | (go_at_call 245;go_must (refine(HG.out _ S0.out.ext).mono ?_;rintro e w1 ⟨q,c,rfl,Z⟩;have S1:=lh (S0.out.comp Z);obtain⟨y0,y1,y2,y3,yz⟩:=ah (S1.out.blk 1 rfl);obtain⟨b0,b1,b2,b3,bz⟩:=ah (S1.out.blk 2 rfl);clear Z)))
     go_ret2
     exact⟨none,0,rfl,(S2.out.nilrow _ _).pick [0] (by decide) rfl⟩
    ·rw [rX rfl h3,List.length_map]
     have HL:=lh hbL
     clear hbL
     have H3:Hid (k=3->d<rad):=fun e=>Int.not_le.1 fun h=>h3 ⟨e,h⟩
     have hk3:(k == 3)=true/\decide (rad<=d)=false\/(k == 3)=false:=by
      by_cases e:k=3
      ·exact .inl ⟨by simpa using e,by simpa using H3.out e⟩
      ·exact .inr (by simpa using e)
     clear H3 h3
     rcases hk3 with ⟨k3,k4⟩ | k3
     ·obtain rfl:k=3:=by simpa using k3
      clear k3
      go_enter func213,ntmps213
      go_wp2_with (first | (go_at_call 82;go_must (refine(HC.out _ S1.out.ext).mono ?_;rintro e w2 ⟨rfl,hb⟩;have S2:=lh (S1.out.call hb);clear y0 y1 y2 y3 yz b0 b1 b2 b3 bz hb;obtain⟨y0,y1,y2,y3,yz⟩:=ah (S2.out.blk 1 rfl);obtain⟨a0,a4,az⟩:=cG (S2.out.blk 3 rfl))) | (go_at_call 245;go_must (refine(HG.out _ S0.out.ext).mono ?_;rintro e w1 ⟨q,c,rfl,Z⟩;have S1:=lh (S0.out.comp Z);obtain⟨y0,y1,y2,y3,yz⟩:=ah (S1.out.blk 1 rfl);obtain⟨b0,b1,b2,b3,bz⟩:=ah (S1.out.blk 2 rfl);clear Z)))
      have nL:=lh ((S2.out.rdx 0 rfl).nI)
      have pL:=(S2.out.rdx 0 rfl).ptr
      have sL:=(S2.out.rdx 0 rfl).small
      have S3:=lh ((S2.out.nilrow 138 4).pick [0,1,2] (by decide) rfl:Ic w w2 [.own 138 4 none 0 0 [],.own 3 1 q L.length c (ab L),.blk (w.heap.size+1+1) 146 #[.int .i64 s,.int .i64 1,.int .i64 v,.int .i64 d]])
      clear y0 y1 y2 y3 yz a0 a4 az S2 S1 S0 HC HG
      go_loopw [11,13,69] (fun m _ i wr=>∃ (j:Nat) (q':Option Addr) (c':Nat),j<=L.length/\i=.int .i64 j/\m=.slice q' j c'/\Ic w wr [.own 138 4 q' j c' (au ((L.take j).map fun v=>(⟨s,1,v,d+1⟩:Sq))),.own 3 1 q L.length c (ab L),.blk (w.heap.size+1+1) 146 #[.int .i64 s,.int .i64 1,.int .i64 v,.int .i64 d]]) (fun _ _ i _=>L.length - (intOf i).toNat)
      case atStart=>exact⟨0,none,0,Nat.zero_le _,rfl,rfl,S3.out⟩
      case round =>
       clear S3
       obtain⟨j,q',c',hj,rfl,rfl,S⟩:=hrel
       by_cases hlt:j<L.length
       ·have g1:=(S.rdx 1 rfl).cI hlt
        have HT:=lh (ak L j hlt)
        have d1:(0:Int)<=j:=by omega
        have d2:(j:Int)<L.length:=by omega
        have hl:=HL.out
        have y0:=((lh S).out.blk 2 rfl).cell 0;have y1:=((lh S).out.blk 2 rfl).cell 1;have y2:=((lh S).out.blk 2 rfl).cell 2;have y3:=((lh S).out.blk 2 rfl).cell 3;have yz:=((lh S).out.blk 2 rfl).lt
        have SH:=lh S;clear S
        generalize ae L j=u at *
        go_wp2_with (at_builtin;go_must (refine am rfl _ _ _ rfl 138 i0 _ 4 32 underlying83 hi0 hz0 hz1 hz2 rfl (by omega) (SH.out.junk _) 0 q' j c' _ rfl rfl _ 1 1 _ rfl (Rd.oneQ _ _ ⟨s,1,u,d+1⟩) (cP _) (by omega) (by omega) ?_;intro q7 c7 w7 S' hsz;have S7:=lh S';clear S' hsz))
        go_roundw
        case rel=>exact⟨j+1,q7,c7,by omega,by go_num,rfl,by rw [HT.out,List.map_append,bC];exact S7.out⟩
        case measure=>simp [intOf];omega
       ·obtain rfl:j=L.length:=by omega
        rw [List.take_length] at S
        have SH:=lh S;clear S
        go_wp2
        go_ret2
        exact⟨q',c',rfl,SH.out.pick [0] (by decide) rfl⟩
     ·go_enter func213,ntmps213
      go_wp2_with (first | (go_at_call 82;go_must (refine(HC.out _ S1.out.ext).mono ?_;rintro e w2 ⟨rfl,hb⟩;have S2:=lh (S1.out.call hb);clear y0 y1 y2 y3 yz b0 b1 b2 b3 bz hb;obtain⟨y0,y1,y2,y3,yz⟩:=ah (S2.out.blk 1 rfl);obtain⟨a0,a4,az⟩:=cG (S2.out.blk 3 rfl))) | (go_at_call 245;go_must (refine(HG.out _ S0.out.ext).mono ?_;rintro e w1 ⟨q,c,rfl,Z⟩;have S1:=lh (S0.out.comp Z);obtain⟨y0,y1,y2,y3,yz⟩:=ah (S1.out.blk 1 rfl);obtain⟨b0,b1,b2,b3,bz⟩:=ah (S1.out.blk 2 rfl);clear Z)))
      have nL:=lh ((S2.out.rdx 0 rfl).nI)
      have pL:=(S2.out.rdx 0 rfl).ptr
      have sL:=(S2.out.rdx 0 rfl).small
      have S3:=lh ((S2.out.nilrow 138 4).pick [0,1,2] (by decide) rfl:Ic w w2 [.own 138 4 none 0 0 [],.own 3 1 q L.length c (ab L),.blk (w.heap.size+1+1) 146 #[.int .i64 s,.int .i64 1,.int .i64 v,.int .i64 d]])
      clear y0 y1 y2 y3 yz a0 a4 az S2 S1 S0 HC HG
      go_loopw [11,13,69] (fun m _ i wr=>∃ (j:Nat) (q':Option Addr) (c':Nat),j<=L.length/\i=.int .i64 j/\m=.slice q' j c'/\Ic w wr [.own 138 4 q' j c' (au ((L.take j).map fun v=>(⟨s,1,v,d+1⟩:Sq))),.own 3 1 q L.length c (ab L),.blk (w.heap.size+1+1) 146 #[.int .i64 s,.int .i64 1,.int .i64 v,.int .i64 d]]) (fun _ _ i _=>L.length - (intOf i).toNat)
      case atStart=>exact⟨0,none,0,Nat.zero_le _,rfl,rfl,S3.out⟩
      case round =>
       clear S3
       obtain⟨j,q',c',hj,rfl,rfl,S⟩:=hrel
       by_cases hlt:j<L.length
       ·have g1:=(S.rdx 1 rfl).cI hlt
        have HT:=lh (ak L j hlt)
        have d1:(0:Int)<=j:=by omega
        have d2:(j:Int)<L.length:=by omega
        have hl:=HL.out
        have y0:=((lh S).out.blk 2 rfl).cell 0;have y1:=((lh S).out.blk 2 rfl).cell 1;have y2:=((lh S).out.blk 2 rfl).cell 2;have y3:=((lh S).out.blk 2 rfl).cell 3;have yz:=((lh S).out.blk 2 rfl).lt
        have SH:=lh S;clear S
        generalize ae L j=u at *
        go_wp2_with (at_builtin;go_must (refine am rfl _ _ _ rfl 138 i0 _ 4 32 underlying83 hi0 hz0 hz1 hz2 rfl (by omega) (SH.out.junk _) 0 q' j c' _ rfl rfl _ 1 1 _ rfl (Rd.oneQ _ _ ⟨s,1,u,d+1⟩) (cP _) (by omega) (by omega) ?_;intro q7 c7 w7 S' hsz;have S7:=lh S';clear S' hsz))
        go_roundw
        case rel=>exact⟨j+1,q7,c7,by omega,by go_num,rfl,by rw [HT.out,List.map_append,bC];exact S7.out⟩
        case measure=>simp [intOf];omega
       ·obtain rfl:j=L.length:=by omega
        rw [List.take_length] at S
        have SH:=lh S;clear S
        go_wp2
        go_ret2
        exact⟨q',c',rfl,SH.out.pick [0] (by decide) rfl⟩
   ·rw [wP (fun h=>hd h.2.2),gV (Or.inl (by decide))]
    by_cases hd0:0<=d
    ·have e1:decide (d<0)=false:=by simpa using hd0
     have e2:decide (200<d)=true:=by simp;omega
     clear hd
     go_enter func213,ntmps213
     go_wp2_with (first | (go_at_call 82;go_must (refine(HC.out _ S1.out.ext).mono ?_;rintro e w2 ⟨rfl,hb⟩;have S2:=lh (S1.out.call hb);clear y0 y1 y2 y3 yz b0 b1 b2 b3 bz hb;obtain⟨y0,y1,y2,y3,yz⟩:=ah (S2.out.blk 1 rfl);obtain⟨a0,a4,az⟩:=cG (S2.out.blk 3 rfl))) | (go_at_call 245;go_must (refine(HG.out _ S0.out.ext).mono ?_;rintro e w1 ⟨q,c,rfl,Z⟩;have S1:=lh (S0.out.comp Z);obtain⟨y0,y1,y2,y3,yz⟩:=ah (S1.out.blk 1 rfl);obtain⟨b0,b1,b2,b3,bz⟩:=ah (S1.out.blk 2 rfl);clear Z)))
     go_ret2
     exact⟨none,0,rfl,(S2.out.nilrow _ _).pick [0] (by decide) rfl⟩
    ·have e1:decide (d<0)=true:=by simpa using hd0
     clear hd
     go_enter func213,ntmps213
     go_wp2_with (first | (go_at_call 82;go_must (refine(HC.out _ S1.out.ext).mono ?_;rintro e w2 ⟨rfl,hb⟩;have S2:=lh (S1.out.call hb);clear y0 y1 y2 y3 yz b0 b1 b2 b3 bz hb;obtain⟨y0,y1,y2,y3,yz⟩:=ah (S2.out.blk 1 rfl);obtain⟨a0,a4,az⟩:=cG (S2.out.blk 3 rfl))) | (go_at_call 245;go_must (refine(HG.out _ S0.out.ext).mono ?_;rintro e w1 ⟨q,c,rfl,Z⟩;have S1:=lh (S0.out.comp Z);obtain⟨y0,y1,y2,y3,yz⟩:=ah (S1.out.blk 1 rfl);obtain⟨b0,b1,b2,b3,bz⟩:=ah (S1.out.blk 2 rfl);clear Z)))
     go_ret2
     exact⟨none,0,rfl,(S2.out.nilrow _ _).pick [0] (by decide) rfl⟩
theorem Ct (k f t:Int) (pw:Option Addr) (nw cw:Nat) (rad most:Int) (po:Option Addr) (no co:Nat) (O:List Int) (pt:Option Addr) (nt ct:Nat) (T:List Int) (pr:Option Addr) (nr cr:Nat) (R:List Int) (pv:Option Addr) (nv cv:Nat) (V:List Int) (w:World) (s v d:Int) (hO:Rd w 1 po no (ab O)) (hT:Rd w 1 pt nt (ab T)) (hR:Rd w 1 pr nr (ab R)) (hV:Rd w 1 pv nv (ab V)) (hct:nt<=ct) (hcv:nv<=cv) (hb:ai O T R V=true->(dH (ai O T R V) O T v).length<=100000) :
  Calls prog 213 #[.agg #[.int .i64 k,.int .i64 f,.int .i64 t,.slice pw nw cw,.int .i64 rad,.int .i64 most],.agg #[.slice po no co,.slice pt nt ct,.slice pr nr cr,.slice pv nv cv],.agg #[.int .i64 s,.int .i64 0,.int .i64 v,.int .i64 d]] w fun e w'=>∃ q c,e=.returned (.tuple #[.slice q (aG k rad (ai O T R V) O T R V ⟨s,0,v,d⟩).length c,.int .i64 (iR (ai O T R V) O R ⟨s,0,v,d⟩)])/\Ic w w' [.own 138 4 q (aG k rad (ai O T R V) O T R V ⟨s,0,v,d⟩).length c (au (aG k rad (ai O T R V) O T R V ⟨s,0,v,d⟩))]:=by
 obtain⟨i0,hi0,hz0,hz1,hz2⟩:=info_parts iE
 have S0:=lh ((((Ic.start w).al #[.int .i64 k,.int .i64 f,.int .i64 t,.slice pw nw cw,.int .i64 rad,.int .i64 most] 24 w.heap.size rfl).al #[.slice po no co,.slice pt nt ct,.slice pr nr cr,.slice pv nv cv] 27 (w.heap.size+1) (by simp)).al #[.int .i64 s,.int .i64 0,.int .i64 v,.int .i64 d] 146 (w.heap.size+1+1) (by simp))
 have HC:=lh (fun W1 (h:Ext w W1)=>iV po no co O pt nt ct T pr nr cr R pv nv cv V W1 (hO.ext h) (hT.ext h) (hR.ext h) (hV.ext h) hct hcv)
 have HG:=lh (fun W1 (h:Ext w W1)=>Fx po no co O pt nt ct T pr nr cr R pv nv cv V W1 v (hO.ext h) (hT.ext h) (hR.ext h) (hV.ext h) hct hcv)
 unfold aG iR
 have Qm:((0:Int)=1)=False:=by decide
 simp only [Qm,if_false]
 clear Qm
 clear hO hT hR hV
 cases hck:ai O T R V with
 | false =>
  rw [hck] at HC HG
  rw [Bp,gV (Or.inl (by decide))]
  clear hck hb
  generalize dH false O T v=L at *
  generalize eY false O v=ob at *
  go_enter func213,ntmps213
  go_wp2_with (first | (go_at_call 82;go_must (refine(HC.out _ S1.out.ext).mono ?_;rintro e w2 ⟨rfl,hb⟩;have S2:=lh (S1.out.call hb);clear y0 y1 y2 y3 yz b0 b1 b2 b3 bz hb;obtain⟨y0,y1,y2,y3,yz⟩:=ah (S2.out.blk 1 rfl);obtain⟨a0,a4,az⟩:=cG (S2.out.blk 3 rfl))) | (go_at_call 244;go_must (refine(HG.out _ S0.out.ext).mono ?_;rintro e w1 ⟨q,c,rfl,Z⟩;have S1:=lh (S0.out.comp Z);obtain⟨y0,y1,y2,y3,yz⟩:=ah (S1.out.blk 1 rfl);obtain⟨b0,b1,b2,b3,bz⟩:=ah (S1.out.blk 2 rfl);clear Z)))
  go_ret2
  exact⟨none,0,rfl,(S2.out.nilrow _ _).pick [0] (by decide) rfl⟩
 | true =>
  rw [hck] at HC HG
  have hbL:=hb hck
  rw [hck] at hbL
  clear hck hb
  generalize dH true O T v=L at *
  cases hob:eY true O v with
  | false =>
   rw [hob] at HG
   rw [wP (fun h=>by cases h.1),gV (Or.inl (by decide))]
   clear hob
   go_enter func213,ntmps213
   go_wp2_with (first | (go_at_call 82;go_must (refine(HC.out _ S1.out.ext).mono ?_;rintro e w2 ⟨rfl,hb⟩;have S2:=lh (S1.out.call hb);clear y0 y1 y2 y3 yz b0 b1 b2 b3 bz hb;obtain⟨y0,y1,y2,y3,yz⟩:=ah (S2.out.blk 1 rfl);obtain⟨a0,a4,az⟩:=cG (S2.out.blk 3 rfl))) | (go_at_call 244;go_must (refine(HG.out _ S0.out.ext).mono ?_;rintro e w1 ⟨q,c,rfl,Z⟩;have S1:=lh (S0.out.comp Z);obtain⟨y0,y1,y2,y3,yz⟩:=ah (S1.out.blk 1 rfl);obtain⟨b0,b1,b2,b3,bz⟩:=ah (S1.out.blk 2 rfl);clear Z)))
   go_ret2
   exact⟨none,0,rfl,(S2.out.nilrow _ _).pick [0] (by decide) rfl⟩
  | true =>
   rw [hob] at HG
   clear hob
   by_cases hd:0<=d/\d<=200
   ·rw [wO ⟨rfl,Or.inl rfl,hd⟩]
    obtain⟨hd0,hd1⟩:=hd
    by_cases h3:k=3/\rad<=d
    ·rw [gV (Or.inr h3)]
     obtain⟨rfl,h3⟩:=h3
     go_enter func213,ntmps213
     go_wp2_with (first | (go_at_call 82;go_must (refine(HC.out _ S1.out.ext).mono ?_;rintro e w2 ⟨rfl,hb⟩;have S2:=lh (S1.out.call hb);clear y0 y1 y2 y3 yz b0 b1 b2 b3 bz hb;obtain⟨y0,y1,y2,y3,yz⟩:=ah (S2.out.blk 1 rfl);obtain⟨a0,a4,az⟩:=cG (S2.out.blk 3 rfl))) | (go_at_call 244;go_must (refine(HG.out _ S0.out.ext).mono ?_;rintro e w1 ⟨q,c,rfl,Z⟩;have S1:=lh (S0.out.comp Z);obtain⟨y0,y1,y2,y3,yz⟩:=ah (S1.out.blk 1 rfl);obtain⟨b0,b1,b2,b3,bz⟩:=ah (S1.out.blk 2 rfl);clear Z)))
     go_ret2
     exact⟨none,0,rfl,(S2.out.nilrow _ _).pick [0] (by decide) rfl⟩
    ·rw [rX rfl h3,List.length_map]
     have HL:=lh hbL
     clear hbL
     have H3:Hid (k=3->d<rad):=fun e=>Int.not_le.1 fun h=>h3 ⟨e,h⟩
     have hk3:(k == 3)=true/\decide (rad<=d)=false\/(k == 3)=false:=by
      by_cases e:k=3
      ·exact .inl ⟨by simpa using e,by simpa using H3.out e⟩
      ·exact .inr (by simpa using e)
     clear H3 h3
     rcases hk3 with ⟨k3,k4⟩ | k3
     ·obtain rfl:k=3:=by simpa using k3
      clear k3
      go_enter func213,ntmps213
      go_wp2_with (first | (go_at_call 82;go_must (refine(HC.out _ S1.out.ext).mono ?_;rintro e w2 ⟨rfl,hb⟩;have S2:=lh (S1.out.call hb);clear y0 y1 y2 y3 yz b0 b1 b2 b3 bz hb;obtain⟨y0,y1,y2,y3,yz⟩:=ah (S2.out.blk 1 rfl);obtain⟨a0,a4,az⟩:=cG (S2.out.blk 3 rfl))) | (go_at_call 244;go_must (refine(HG.out _ S0.out.ext).mono ?_;rintro e w1 ⟨q,c,rfl,Z⟩;have S1:=lh (S0.out.comp Z);obtain⟨y0,y1,y2,y3,yz⟩:=ah (S1.out.blk 1 rfl);obtain⟨b0,b1,b2,b3,bz⟩:=ah (S1.out.blk 2 rfl);clear Z)))
      have nL:=lh ((S2.out.rdx 0 rfl).nI)
      have pL:=(S2.out.rdx 0 rfl).ptr
      have sL:=(S2.out.rdx 0 rfl).small
      have S3:=lh ((S2.out.nilrow 138 4).pick [0,1,2] (by decide) rfl:Ic w w2 [.own 138 4 none 0 0 [],.own 3 1 q L.length c (ab L),.blk (w.heap.size+1+1) 146 #[.int .i64 s,.int .i64 0,.int .i64 v,.int .i64 d]])
      clear y0 y1 y2 y3 yz a0 a4 az S2 S1 S0 HC HG
      go_loopw [11,13,69] (fun m _ i wr=>∃ (j:Nat) (q':Option Addr) (c':Nat),j<=L.length/\i=.int .i64 j/\m=.slice q' j c'/\Ic w wr [.own 138 4 q' j c' (au ((L.take j).map fun v=>(⟨s,0,v,d+1⟩:Sq))),.own 3 1 q L.length c (ab L),.blk (w.heap.size+1+1) 146 #[.int .i64 s,.int .i64 0,.int .i64 v,.int .i64 d]]) (fun _ _ i _=>L.length - (intOf i).toNat)
      case atStart=>exact⟨0,none,0,Nat.zero_le _,rfl,rfl,S3.out⟩
      case round =>
       clear S3
       obtain⟨j,q',c',hj,rfl,rfl,S⟩:=hrel
       by_cases hlt:j<L.length
       ·have g1:=(S.rdx 1 rfl).cI hlt
        have HT:=lh (ak L j hlt)
        have d1:(0:Int)<=j:=by omega
        have d2:(j:Int)<L.length:=by omega
        have hl:=HL.out
        have y0:=((lh S).out.blk 2 rfl).cell 0;have y1:=((lh S).out.blk 2 rfl).cell 1;have y2:=((lh S).out.blk 2 rfl).cell 2;have y3:=((lh S).out.blk 2 rfl).cell 3;have yz:=((lh S).out.blk 2 rfl).lt
        have SH:=lh S;clear S
        generalize ae L j=u at *
        go_wp2_with (at_builtin;go_must (refine am rfl _ _ _ rfl 138 i0 _ 4 32 underlying83 hi0 hz0 hz1 hz2 rfl (by omega) (SH.out.junk _) 0 q' j c' _ rfl rfl _ 1 1 _ rfl (Rd.oneQ _ _ ⟨s,0,u,d+1⟩) (cP _) (by omega) (by omega) ?_;intro q7 c7 w7 S' hsz;have S7:=lh S';clear S' hsz))
        go_roundw
        case rel=>exact⟨j+1,q7,c7,by omega,by go_num,rfl,by rw [HT.out,List.map_append,bC];exact S7.out⟩
        case measure=>simp [intOf];omega
       ·obtain rfl:j=L.length:=by omega
        rw [List.take_length] at S
        have SH:=lh S;clear S
        go_wp2
        go_ret2
        exact⟨q',c',rfl,SH.out.pick [0] (by decide) rfl⟩
     ·go_enter func213,ntmps213
      go_wp2_with (first | (go_at_call 82;go_must (refine(HC.out _ S1.out.ext).mono ?_;rintro e w2 ⟨rfl,hb⟩;have S2:=lh (S1.out.call hb);clear y0 y1 y2 y3 yz b0 b1 b2 b3 bz hb;obtain⟨y0,y1,y2,y3,yz⟩:=ah (S2.out.blk 1 rfl);obtain⟨a0,a4,az⟩:=cG (S2.out.blk 3 rfl))) | (go_at_call 244;go_must (refine(HG.out _ S0.out.ext).mono ?_;rintro e w1 ⟨q,c,rfl,Z⟩;have S1:=lh (S0.out.comp Z);obtain⟨y0,y1,y2,y3,yz⟩:=ah (S1.out.blk 1 rfl);obtain⟨b0,b1,b2,b3,bz⟩:=ah (S1.out.blk 2 rfl);clear Z)))
      have nL:=lh ((S2.out.rdx 0 rfl).nI)
      have pL:=(S2.out.rdx 0 rfl).ptr
      have sL:=(S2.out.rdx 0 rfl).small
      have S3:=lh ((S2.out.nilrow 138 4).pick [0,1,2] (by decide) rfl:Ic w w2 [.own 138 4 none 0 0 [],.own 3 1 q L.length c (ab L),.blk (w.heap.size+1+1) 146 #[.int .i64 s,.int .i64 0,.int .i64 v,.int .i64 d]])
      clear y0 y1 y2 y3 yz a0 a4 az S2 S1 S0 HC HG
      go_loopw [11,13,69] (fun m _ i wr=>∃ (j:Nat) (q':Option Addr) (c':Nat),j<=L.length/\i=.int .i64 j/\m=.slice q' j c'/\Ic w wr [.own 138 4 q' j c' (au ((L.take j).map fun v=>(⟨s,0,v,d+1⟩:Sq))),.own 3 1 q L.length c (ab L),.blk (w.heap.size+1+1) 146 #[.int .i64 s,.int .i64 0,.int .i64 v,.int .i64 d]]) (fun _ _ i _=>L.length - (intOf i).toNat)
      case atStart=>exact⟨0,none,0,Nat.zero_le _,rfl,rfl,S3.out⟩
      case round =>
       clear S3
       obtain⟨j,q',c',hj,rfl,rfl,S⟩:=hrel
       by_cases hlt:j<L.length
       ·have g1:=(S.rdx 1 rfl).cI hlt
        have HT:=lh (ak L j hlt)
        have d1:(0:Int)<=j:=by omega
        have d2:(j:Int)<L.length:=by omega
        have hl:=HL.out
        have y0:=((lh S).out.blk 2 rfl).cell 0;have y1:=((lh S).out.blk 2 rfl).cell 1;have y2:=((lh S).out.blk 2 rfl).cell 2;have y3:=((lh S).out.blk 2 rfl).cell 3;have yz:=((lh S).out.blk 2 rfl).lt
        have SH:=lh S;clear S
        generalize ae L j=u at *
        go_wp2_with (at_builtin;go_must (refine am rfl _ _ _ rfl 138 i0 _ 4 32 underlying83 hi0 hz0 hz1 hz2 rfl (by omega) (SH.out.junk _) 0 q' j c' _ rfl rfl _ 1 1 _ rfl (Rd.oneQ _ _ ⟨s,0,u,d+1⟩) (cP _) (by omega) (by omega) ?_;intro q7 c7 w7 S' hsz;have S7:=lh S';clear S' hsz))
        go_roundw
        case rel=>exact⟨j+1,q7,c7,by omega,by go_num,rfl,by rw [HT.out,List.map_append,bC];exact S7.out⟩
        case measure=>simp [intOf];omega
       ·obtain rfl:j=L.length:=by omega
        rw [List.take_length] at S
        have SH:=lh S;clear S
        go_wp2
        go_ret2
        exact⟨q',c',rfl,SH.out.pick [0] (by decide) rfl⟩
   ·rw [wP (fun h=>hd h.2.2),gV (Or.inl (by decide))]
    by_cases hd0:0<=d
    ·have e1:decide (d<0)=false:=by simpa using hd0
     have e2:decide (200<d)=true:=by simp;omega
     clear hd
     go_enter func213,ntmps213
     go_wp2_with (first | (go_at_call 82;go_must (refine(HC.out _ S1.out.ext).mono ?_;rintro e w2 ⟨rfl,hb⟩;have S2:=lh (S1.out.call hb);clear y0 y1 y2 y3 yz b0 b1 b2 b3 bz hb;obtain⟨y0,y1,y2,y3,yz⟩:=ah (S2.out.blk 1 rfl);obtain⟨a0,a4,az⟩:=cG (S2.out.blk 3 rfl))) | (go_at_call 244;go_must (refine(HG.out _ S0.out.ext).mono ?_;rintro e w1 ⟨q,c,rfl,Z⟩;have S1:=lh (S0.out.comp Z);obtain⟨y0,y1,y2,y3,yz⟩:=ah (S1.out.blk 1 rfl);obtain⟨b0,b1,b2,b3,bz⟩:=ah (S1.out.blk 2 rfl);clear Z)))
     go_ret2
     exact⟨none,0,rfl,(S2.out.nilrow _ _).pick [0] (by decide) rfl⟩
    ·have e1:decide (d<0)=true:=by simpa using hd0
     clear hd
     go_enter func213,ntmps213
     go_wp2_with (first | (go_at_call 82;go_must (refine(HC.out _ S1.out.ext).mono ?_;rintro e w2 ⟨rfl,hb⟩;have S2:=lh (S1.out.call hb);clear y0 y1 y2 y3 yz b0 b1 b2 b3 bz hb;obtain⟨y0,y1,y2,y3,yz⟩:=ah (S2.out.blk 1 rfl);obtain⟨a0,a4,az⟩:=cG (S2.out.blk 3 rfl))) | (go_at_call 244;go_must (refine(HG.out _ S0.out.ext).mono ?_;rintro e w1 ⟨q,c,rfl,Z⟩;have S1:=lh (S0.out.comp Z);obtain⟨y0,y1,y2,y3,yz⟩:=ah (S1.out.blk 1 rfl);obtain⟨b0,b1,b2,b3,bz⟩:=ah (S1.out.blk 2 rfl);clear Z)))
     go_ret2
     exact⟨none,0,rfl,(S2.out.nilrow _ _).pick [0] (by decide) rfl⟩
theorem Cs (k f t:Int) (pw:Option Addr) (nw cw:Nat) (rad most:Int) (po:Option Addr) (no co:Nat) (O:List Int) (pt:Option Addr) (nt ct:Nat) (T:List Int) (pr:Option Addr) (nr cr:Nat) (R:List Int) (pv:Option Addr) (nv cv:Nat) (V:List Int) (w:World) (s r v d:Int) (hO:Rd w 1 po no (ab O)) (hT:Rd w 1 pt nt (ab T)) (hR:Rd w 1 pr nr (ab R)) (hV:Rd w 1 pv nv (ab V)) (hct:nt<=ct) (hcv:nv<=cv) (h0:r≠0) (h1:r≠1) :
  Calls prog 213 #[.agg #[.int .i64 k,.int .i64 f,.int .i64 t,.slice pw nw cw,.int .i64 rad,.int .i64 most],.agg #[.slice po no co,.slice pt nt ct,.slice pr nr cr,.slice pv nv cv],.agg #[.int .i64 s,.int .i64 r,.int .i64 v,.int .i64 d]] w fun e w'=>∃ q c,e=.returned (.tuple #[.slice q (aG k rad (ai O T R V) O T R V ⟨s,r,v,d⟩).length c,.int .i64 (iR (ai O T R V) O R ⟨s,r,v,d⟩)])/\Ic w w' [.own 138 4 q (aG k rad (ai O T R V) O T R V ⟨s,r,v,d⟩).length c (au (aG k rad (ai O T R V) O T R V ⟨s,r,v,d⟩))]:=by
 have S0:=lh ((((Ic.start w).al #[.int .i64 k,.int .i64 f,.int .i64 t,.slice pw nw cw,.int .i64 rad,.int .i64 most] 24 w.heap.size rfl).al #[.slice po no co,.slice pt nt ct,.slice pr nr cr,.slice pv nv cv] 27 (w.heap.size+1) (by simp)).al #[.int .i64 s,.int .i64 r,.int .i64 v,.int .i64 d] 146 (w.heap.size+1+1) (by simp))
 have HC:=lh (fun W1 (h:Ext w W1)=>iV po no co O pt nt ct T pr nr cr R pv nv cv V W1 (hO.ext h) (hT.ext h) (hR.ext h) (hV.ext h) hct hcv)
 have HG:=lh (fun W1 (h:Ext w W1)=>Fx po no co O pt nt ct T pr nr cr R pv nv cv V W1 v (hO.ext h) (hT.ext h) (hR.ext h) (hV.ext h) hct hcv)
 unfold aG iR
 simp only [if_neg h1]
 clear hO hT hR hV
 have e1:(r == 1)=false:=by simpa using h1
 have e0:(r != 0)=true:=by simpa using h0
 have e2:(r != 1)=true:=by simpa using h1
 generalize hck:ai O T R V=ck at *
 have HN:Hid (DU ck (eY ck O v) ⟨s,r,v,d⟩=if ck=false then 40 else 1):=by
  unfold Hid DU
  cases ck with
  | false=>rfl
  | true=>simp [h0,h1]
 rw [HN.out,gV (Or.inl (by cases ck <;> decide))]
 clear HN h0 h1 hck
 generalize dH ck O T v=L at *
 generalize eY ck O v=ob at *
 cases ck with
 | false =>
  go_enter func213,ntmps213
  go_wp2_with (first | (go_at_call 82;go_must (refine(HC.out _ S1.out.ext).mono ?_;rintro e w2 ⟨rfl,hb⟩;have S2:=lh (S1.out.call hb);clear y0 y1 y2 y3 yz b0 b1 b2 b3 bz hb;obtain⟨y0,y1,y2,y3,yz⟩:=ah (S2.out.blk 1 rfl);obtain⟨a0,a4,az⟩:=cG (S2.out.blk 3 rfl))) | (go_at_call 244;go_must (refine(HG.out _ S0.out.ext).mono ?_;rintro e w1 ⟨q,c,rfl,Z⟩;have S1:=lh (S0.out.comp Z);obtain⟨y0,y1,y2,y3,yz⟩:=ah (S1.out.blk 1 rfl);obtain⟨b0,b1,b2,b3,bz⟩:=ah (S1.out.blk 2 rfl);clear Z)))
  go_ret2
  exact⟨none,0,rfl,(S2.out.nilrow _ _).pick [0] (by decide) rfl⟩
 | true =>
  cases ob with
  | false =>
   go_enter func213,ntmps213
   go_wp2_with (first | (go_at_call 82;go_must (refine(HC.out _ S1.out.ext).mono ?_;rintro e w2 ⟨rfl,hb⟩;have S2:=lh (S1.out.call hb);clear y0 y1 y2 y3 yz b0 b1 b2 b3 bz hb;obtain⟨y0,y1,y2,y3,yz⟩:=ah (S2.out.blk 1 rfl);obtain⟨a0,a4,az⟩:=cG (S2.out.blk 3 rfl))) | (go_at_call 244;go_must (refine(HG.out _ S0.out.ext).mono ?_;rintro e w1 ⟨q,c,rfl,Z⟩;have S1:=lh (S0.out.comp Z);obtain⟨y0,y1,y2,y3,yz⟩:=ah (S1.out.blk 1 rfl);obtain⟨b0,b1,b2,b3,bz⟩:=ah (S1.out.blk 2 rfl);clear Z)))
   go_ret2
   exact⟨none,0,rfl,(S2.out.nilrow _ _).pick [0] (by decide) rfl⟩
  | true =>
   go_enter func213,ntmps213
   go_wp2_with (first | (go_at_call 82;go_must (refine(HC.out _ S1.out.ext).mono ?_;rintro e w2 ⟨rfl,hb⟩;have S2:=lh (S1.out.call hb);clear y0 y1 y2 y3 yz b0 b1 b2 b3 bz hb;obtain⟨y0,y1,y2,y3,yz⟩:=ah (S2.out.blk 1 rfl);obtain⟨a0,a4,az⟩:=cG (S2.out.blk 3 rfl))) | (go_at_call 244;go_must (refine(HG.out _ S0.out.ext).mono ?_;rintro e w1 ⟨q,c,rfl,Z⟩;have S1:=lh (S0.out.comp Z);obtain⟨y0,y1,y2,y3,yz⟩:=ah (S1.out.blk 1 rfl);obtain⟨b0,b1,b2,b3,bz⟩:=ah (S1.out.blk 2 rfl);clear Z)))
   go_ret2
   exact⟨none,0,rfl,(S2.out.nilrow _ _).pick [0] (by decide) rfl⟩
theorem Ft (k f t:Int) (pw:Option Addr) (nw cw:Nat) (rad most:Int) (po:Option Addr) (no co:Nat) (O:List Int) (pt:Option Addr) (nt ct:Nat) (T:List Int) (pr:Option Addr) (nr cr:Nat) (R:List Int) (pv:Option Addr) (nv cv:Nat) (V:List Int) (w:World) (x:Sq) (hO:Rd w 1 po no (ab O)) (hT:Rd w 1 pt nt (ab T)) (hR:Rd w 1 pr nr (ab R)) (hV:Rd w 1 pv nv (ab V)) (hct:nt<=ct) (hcv:nv<=cv) (hb:∀ v,ai O T R V=true->(dH (ai O T R V) O T v).length<=100000/\(dH (ai O T R V) R V v).length<=100000) :
  Calls prog 213 #[.agg #[.int .i64 k,.int .i64 f,.int .i64 t,.slice pw nw cw,.int .i64 rad,.int .i64 most],.agg #[.slice po no co,.slice pt nt ct,.slice pr nr cr,.slice pv nv cv],.agg #[.int .i64 x.s,.int .i64 x.r,.int .i64 x.v,.int .i64 x.d]] w fun e w'=>∃ q c,e=.returned (.tuple #[.slice q (aG k rad (ai O T R V) O T R V x).length c,.int .i64 (iR (ai O T R V) O R x)])/\Ic w w' [.own 138 4 q (aG k rad (ai O T R V) O T R V x).length c (au (aG k rad (ai O T R V) O T R V x))]:=by
 obtain⟨s,r,v,d⟩:=x
 by_cases h1:r=1
 ·subst h1
  exact En k f t pw nw cw rad most po no co O pt nt ct T pr nr cr R pv nv cv V w s v d hO hT hR hV hct hcv (fun h=>(hb v h).2)
 ·by_cases h0:r=0
  ·subst h0
   exact Ct k f t pw nw cw rad most po no co O pt nt ct T pr nr cr R pv nv cv V w s v d hO hT hR hV hct hcv (fun h=>(hb v h).1)
  ·exact Cs k f t pw nw cw rad most po no co O pt nt ct T pr nr cr R pv nv cv V w s r v d hO hT hR hV hct hcv h0 h1
theorem wX {n s:Nat} (hs:s<n) {nx:Nat->List Int} (hin:xy nx n) {ρ:Int} (_:ρ=0\/ρ=1) {f:Sq->List Sq} {lim:Int} (hlim:0<=lim)
  (hg:∀ x,iW n x->x.r=ρ->0<=x.d->x.d<n->f x=if x.d<lim then (nx x.v.toNat).map (fun v=>⟨x.s,x.r,v,x.d+1⟩) else [])
  (hl:gX n f) {M0:List Sq} (h0:aS M0) (h1:∀ x∈M0,iW n x/\x.d=0) (hM0:∀ x,x.r=ρ->(x∈M0↔x=⟨0,ρ,s,0⟩)) :
  ∀ i:Nat,(∀ x,x.r=ρ->(x∈(bR f M0 i).2↔∃ v:Nat,v<n/\ay nx n s v=i/\(i:Int)<=lim/\x=⟨0,ρ,v,i⟩)) /\
   (∀ x,x.r=ρ->(x∈(bR f M0 i).1↔∃ v d:Nat,v<n/\ay nx n s v=d/\d<i/\(d:Int)<=lim/\x=⟨0,ρ,v,d⟩)):=by
 have MM:=iH nx n s hs
 intro i
 induction i with
 | zero =>
  refine⟨fun x hx=>?_,fun x hx=>?_⟩
  ·show x∈M0↔_
   rw [hM0 x hx]
   constructor
   ·rintro rfl
    exact⟨s,hs,(MM.zero s hs).2 rfl,hlim,rfl⟩
   ·rintro⟨v,hv,h2,_,rfl⟩
    rw [(MM.zero v hv).1 h2];rfl
  ·show x∈[]↔_
   constructor
   ·intro h;cases h
   ·rintro⟨v,d,_,_,h,_⟩;omega
 | succ i ih =>
  obtain⟨U6,YP⟩:=ih
  have hI:=eZ hl h0 h1 i
  have hst:∀ x,x.r=ρ->(x∈(bR f M0 i).1\/x∈(bR f M0 i).2↔∃ v d:Nat,v<n/\ay nx n s v=d/\d<i+1/\(d:Int)<=lim/\x=⟨0,ρ,v,d⟩):=fun x hx=>by
   rw [YP x hx,U6 x hx]
   constructor
   ·rintro(⟨v,d,a,b,c,e,g⟩ | ⟨v,a,b,c,e⟩)
    ·exact⟨v,d,a,b,by omega,e,g⟩
    ·exact⟨v,i,a,b,by omega,c,e⟩
   ·rintro⟨v,d,a,b,c,e,g⟩
    by_cases h:d<i
    ·exact .inl ⟨v,d,a,b,h,e,g⟩
    ·obtain rfl:d=i:=by omega
     exact .inr ⟨v,a,b,e,g⟩
  refine⟨fun x hx=>?_,fun x hx=>by rw [<- hst x hx];exact ng hI f⟩
  show x∈(cU f (bR f M0 i).1 (bR f M0 i).2).2↔_
  rw [lj hI f]
  have KY:∀ z∈(bR f M0 i).2.flatMap f,z.d=(i:Int)+1:=fun z hz=>by
   obtain⟨y,hy,YN⟩:=List.mem_flatMap.1 hz
   obtain⟨a,b⟩:=hI.ms y hy
   rw [(hl y z a YN).1,b]
  constructor
  ·rintro⟨⟨h2,_⟩,h3⟩
   obtain⟨y,hy,hyx⟩:=List.mem_flatMap.1 h2
   obtain⟨yk,yd⟩:=hI.ms y hy
   have NL:y.r=ρ:=by rw [<- hx,(hl y x yk hyx).1]
   obtain⟨u,hu,YC,hil,rfl⟩:=(U6 y NL).1 hy
   have hun:(i:Int)<n:=by have:=km (nx:=nx) hs hu;omega
   rw [hg _ yk rfl (by simp only;omega) (by simpa using hun)] at hyx
   simp only at hyx
   split at hyx
   ·rename_i hlt
    obtain⟨v,hv,rfl⟩:=List.mem_map.1 hyx
    rw [Int.toNat_natCast] at hv
    obtain⟨v0,v1⟩:=hin u hu v hv
    obtain⟨v,rfl⟩:=Int.eq_ofNat_of_zero_le v0
    have Qt:v<n:=by omega
    obtain⟨a,b⟩:=MM.next u v hu Qt hv (by omega)
    have hnot:¬ ay nx n s v<=i:=fun hle=>h3 ⟨⟨0,ρ,v,ay nx n s v⟩,(hst _ rfl).2 ⟨v,(ay nx n s v).toNat,Qt,by omega,by omega,by omega,by rw [Int.toNat_of_nonneg a]⟩,rfl,rfl,rfl⟩
    refine⟨v,Qt,by omega,by omega,?_⟩
    show Sq.mk 0 ρ v ((i:Int)+1)=_
    rfl
   ·cases hyx
  ·rintro⟨v,Qt,hv,hil,rfl⟩
   obtain⟨u,hu,YC,hvu⟩:=MM.pred v Qt (by omega)
   have UQ:ay nx n s u=i:=by omega
   have hy:(⟨0,ρ,u,i⟩:Sq)∈(bR f M0 i).2:=(U6 _ rfl).2 ⟨u,hu,UQ,by omega,rfl⟩
   have hun:(i:Int)<n:=by have:=km (nx:=nx) hs hu;omega
   have hmem:(⟨0,ρ,v,((i+1:Nat):Int)⟩:Sq)∈(bR f M0 i).2.flatMap f:=by
    refine List.mem_flatMap.2 ⟨_,hy,?_⟩
    rw [hg _ (hI.ms _ hy).1 rfl (by simp only;omega) (by simpa using hun)]
    simp only
    rw [if_pos (by omega)]
    exact List.mem_map.2 ⟨v,by rw [Int.toNat_natCast];exact hvu,rfl⟩
   refine⟨⟨hmem,fun z hz _=>by rw [KY z hz];simp only;omega⟩,?_⟩
   rintro⟨y,hy,e⟩
   have NL:y.r=ρ:=e.2.1
   obtain⟨v',d,a,b,c,_,rfl⟩:=(hst y NL).1 hy
   have:v'=v:=by have:=e.2.2;simp only at this;omega
   subst this
   omega
def p8 (nx:Nat->List Int) (n s:Nat) (ρ lim:Int) (m:Nat) (st:List Sq):Prop:=∀ x,x.r=ρ->(x∈st↔∃ v d:Nat,v<n/\ay nx n s v=d/\d<m+1/\(d:Int)<=lim/\x=⟨0,ρ,v,d⟩)
theorem rp {nx nb:Nat->List Int} {n s t m:Nat} {lim:Int} (hlim:(n:Int)<=lim) (hs:s<n) (ht:t<n) {st:List Sq} (h0:p8 nx n s 0 lim m st) (h1:p8 nb n t 1 lim m st) (z:Int) :
  nk st z↔∃ v,v<n/\0<=ay nx n s v/\ay nx n s v<=m/\0<=ay nb n t v/\ay nb n t v<=m/\ay nx n s v+ay nb n t v=z:=by
 constructor
 ·rintro⟨x,hx,y,hy,YL,NL,hv,rfl⟩
  obtain⟨v,d,a,b,c,_,rfl⟩:=(h0 x YL).1 hx
  obtain⟨v',d',a',b',c',_,rfl⟩:=(h1 y NL).1 hy
  simp only at hv ⊢
  obtain rfl:v=v':=by omega
  exact⟨v,a,by omega,by omega,by omega,by omega,by omega⟩
 ·rintro⟨v,a,b,c,d,e,rfl⟩
  have l1:=km (nx:=nx) hs a
  have l2:=km (nx:=nb) ht a
  refine⟨⟨0,0,v,ay nx n s v⟩,(h0 _ rfl).2 ⟨v,(ay nx n s v).toNat,a,by omega,by omega,by omega,by rw [Int.toNat_of_nonneg b]⟩,⟨0,1,v,ay nb n t v⟩,(h1 _ rfl).2 ⟨v,(ay nb n t v).toNat,a,by omega,by omega,by omega,by rw [Int.toNat_of_nonneg d]⟩,rfl,rfl,rfl,rfl⟩
theorem CX {nx nb:Nat->List Int} {n s t m:Nat} {lim:Int} (hlim:(n:Int)<=lim) (hr:Ab nx nb n) (hs:s<n) (ht:t<n) {st:List Sq} (h0:p8 nx n s 0 lim m st) (h1:p8 nb n t 1 lim m st)
  {b:Bool} {d:Int} (hA:iP st b d):b=eW n (ay nx n s) (ay nb n t) m/\(b=true->(∀ j:Nat,j<m->eW n (ay nx n s) (ay nb n t) j=false)->0<=ay nx n s t/\d=ay nx n s t)/\(b=false->d=0):=by
 have hp:=rp hlim hs ht h0 h1
 refine⟨?_,fun hb hf=>?_,fun hb=>(hA.1 hb).1⟩
 ·cases b with
  | false =>
   cases hm:eW n (ay nx n s) (ay nb n t) m with
   | false=>rfl
   | true =>
    obtain⟨v,a,b,c,d,e⟩:=fL.1 hm
    exact absurd ((hp _).2 ⟨v,a,b,c,d,e,rfl⟩) ((hA.1 rfl).2 _)
  | true =>
   obtain⟨v,a,b,c,d,e,_⟩:=(hp _).1 (hA.2 rfl).1
   exact(fL.2 ⟨v,a,b,c,d,e⟩).symm
 ·obtain⟨h2,h3⟩:=hA.2 hb
  obtain⟨v,a,b1,c,d1,e,hz⟩:=(hp _).1 h2
  have h4:=kO hr hs ht a b1 d1
  have hge:2*(m:Int)<=ay nx n s t+1:=by
   cases m with
   | zero=>omega
   | succ m =>
    have:=hf m (by omega)
    have h5:¬ (0<=ay nx n s t/\ay nx n s t<=2*(m:Int)):=fun h=>by rw [(ig hr hs ht).2 h] at this;cases this
    omega
  have hle:=((ig hr hs ht (k:=m)).1 (fL.2 ⟨v,a,b1,c,d1,e⟩)).2
  refine⟨h4.1,?_⟩
  by_cases h6:ay nx n s t<=m
  ·obtain⟨u,hu,g1,g2⟩:=gK hr hs ht (j:=(ay nx n s t).toNat) h4.1 (by omega)
   have:=h3 _ ((hp _).2 ⟨u,hu,by omega,by omega,by omega,by omega,rfl⟩)
   omega
  ·obtain⟨u,hu,g1,g2⟩:=gK hr hs ht (j:=m) h4.1 (by omega)
   have:=h3 _ ((hp _).2 ⟨u,hu,by omega,by omega,by omega,by omega,rfl⟩)
   omega
theorem AR {nx nb:Nat->List Int} {n s t m:Nat} (hr:Ab nx nb n) (hs:s<n) (ht:t<n) (h1:eW n (ay nx n s) (ay nb n t) m=false) (h2:gy n (ay nx n s) (m+1:Nat)=false\/gy n (ay nb n t) (m+1:Nat)=false):ay nx n s t<0:=by
 refine Int.not_le.1 fun h=>?_
 have h3:¬ ay nx n s t<=2*(m:Int):=fun h4=>by rw [(ig hr hs ht).2 ⟨h,h4⟩] at h1;cases h1
 obtain⟨k,hk⟩:∃ k:Nat,ay nx n s t=k:=⟨(ay nx n s t).toNat,by omega⟩
 rcases h2 with h2 | h2
 ·have:=lW (nx:=nx) hs (k:=k) (j:=m+1) (by omega) (dt.2 ⟨t,ht,hk⟩)
  rw [this] at h2;cases h2
 ·have:=lW (nx:=nb) ht (k:=k) (j:=m+1) (by omega) (dt.2 ⟨s,hs,by rw [<- C3 hr hs ht];exact hk⟩)
  rw [this] at h2;cases h2
theorem ik {b:Bool} {A:List Int} {v:Int}:eY b A v=true↔b=true/\0<=v/\v<(A.length:Int) - 1:=by
 unfold eY
 rw [Bool.and_eq_true,Bool.and_eq_true,decide_eq_true_eq,decide_eq_true_eq]
 constructor
 ·rintro⟨⟨h1,h2⟩,h3⟩;exact⟨h1,h2,h3⟩
 ·rintro⟨h1,h2,h3⟩;exact⟨⟨h1,h2⟩,h3⟩
theorem yU {k rad:Int} {ck:Bool} {O T R V:List Int} {x y:Sq} (h:y∈aG k rad ck O T R V x):y=⟨x.s,x.r,y.v,x.d+1⟩/\y.v∈(if x.r=1 then dH ck R V x.v else dH ck O T x.v):=by
 unfold aG EU at h
 split at h
 ·obtain⟨v,hv,rfl⟩:=List.mem_map.1 h
  exact⟨rfl,hv⟩
 ·cases h
theorem vU {O T R V:List Int} (hck:ai O T R V=true) (v:Int):bM fd (dH true O T v)/\bM fd (dH true R V v):=by
 obtain⟨e1,e2,e3,e4⟩:=aK hck
 constructor
 ·cases hb:eY true O v with
  | false=>rw [m9 hb];exact List.Pairwise.nil
  | true =>
   rw [fW hb]
   obtain⟨_,v0,v1⟩:=ik.1 hb
   exact jP e3 (by omega)
 ·cases hb:eY true R v with
  | false=>rw [m9 hb];exact List.Pairwise.nil
  | true =>
   rw [fW hb]
   obtain⟨_,v0,v1⟩:=ik.1 hb
   exact jP e4 (by omega)
theorem vN {k rad:Int} {O T R V:List Int} {x:Sq} (hck:ai O T R V=true):(aG k rad true O T R V x).Pairwise fun a b=>a.v<b.v:=by
 unfold aG EU
 split
 ·refine List.Pairwise.map _ (R:=fun a b=>a<b) (fun a b h=>h) ?_
  have h:=vU hck x.v
  split
  ·exact h.2.imp fun {a b} h=>by simpa [fd] using h
  ·exact h.1.imp fun {a b} h=>by simpa [fd] using h
 ·exact List.Pairwise.nil
theorem By {O T R V:List Int} (hck:ai O T R V=true) (v:Int):(dH true O T v).length<=2000/\(dH true R V v).length<=2000:=by
 obtain⟨e1,e2,e3,e4⟩:=aK hck
 obtain⟨r1,r2,r3,r4,r5,r6⟩:=aQ (aI e3)
 exact⟨Bw (by omega),Bw (by omega)⟩
def kQ (k rad:Int) (n:Nat):Int:=if k=3 then rad else n
def ic (ρ:Int) (O T R V:List Int):Nat->List Int:=wQ (decide (ρ=1)) O T R V
theorem qP {k rad:Int} {O T R V:List Int} {n:Nat} (hck:ai O T R V=true) (hn:O.length=n+1) (Iu:n<=200) {ρ:Int} (_:ρ=0\/ρ=1) (x:Sq) (hx:iW n x) (hr:x.r=ρ) (h0:0<=x.d) (h1:x.d<n) :
  aG k rad true O T R V x=if x.d<kQ k rad n then (ic ρ O T R V x.v.toNat).map (fun v=>⟨x.s,x.r,v,x.d+1⟩) else []:=by
 obtain⟨e1,e2,e3,e4⟩:=aK hck
 obtain⟨x1,x2,x3,x4⟩:=hx
 have hb:eY true (if x.r=1 then R else O) x.v=true:=by
  rw [ik]
  split
  ·refine⟨rfl,x3,?_⟩;omega
  ·refine⟨rfl,x3,?_⟩;omega
 have hc:iR true O R x=0:=by
  unfold iR
  rw [hb]
  exact wO ⟨rfl,x2,h0,by omega⟩
 have hL:(if x.r=1 then dH true R V x.v else dH true O T x.v)=ic ρ O T R V x.v.toNat:=by
  unfold ic wQ
  by_cases h:x.r=1
  ·rw [if_pos h] at hb
   rw [if_pos h,<- hr,if_pos (by simpa using h),fW hb]
  ·rw [if_neg h] at hb
   rw [if_neg h,<- hr,if_neg (by simpa using h),fW hb]
 unfold aG
 rw [hc,hL]
 by_cases hlt:x.d<kQ k rad n
 ·rw [if_pos hlt,rX rfl (fun h=>by unfold kQ at hlt;rw [if_pos h.1] at hlt;omega)]
 ·rw [if_neg hlt]
  unfold kQ at hlt
  split at hlt
  ·rename_i h3
   exact gV (Or.inr ⟨h3,by omega⟩)
  ·omega
theorem rO {O T R V:List Int} {n:Nat} (hck:ai O T R V=true) (hn:O.length=n+1) (ρ:Int):xy (ic ρ O T R V) n:=by
 have:=vQ hck (decide (ρ=1))
 rw [hn] at this
 exact this
theorem dX {k rad:Int} {O T R V:List Int} {n:Nat} (hck:ai O T R V=true) (hn:O.length=n+1):gX n (aG k rad true O T R V):=by
 intro x y hx hy
 obtain⟨e1,e2,e3,e4⟩:=aK hck
 obtain⟨x1,x2,x3,x4⟩:=hx
 obtain⟨h1,h2⟩:=yU hy
 refine⟨h1,?_⟩
 have hv:x.v.toNat<n:=by omega
 have hin:=rO hck hn x.r _ hv y.v
 unfold ic wQ at hin
 by_cases h:x.r=1
 ·rw [if_pos h] at h2
  rw [if_pos (by simpa using h)] at hin
  have hb:eY true R x.v=true:=ik.2 ⟨rfl,x3,by omega⟩
  rw [fW hb] at h2
  exact hin h2
 ·rw [if_neg h] at h2
  rw [if_neg (by simpa using h)] at hin
  have hb:eY true O x.v=true:=ik.2 ⟨rfl,x3,by omega⟩
  rw [fW hb] at h2
  exact hin h2
theorem fc {k rad most:Int} {s t n:Nat} (hk:k=1\/k=2\/k=3) (hs:s<n) (ht:k=1->t<n) (_:rad=rad) (_:most=most) :
  aS (aL k s t 0)/\(∀ x∈aL k s t 0,iW n x/\x.d=0)/\(∀ x,x.r=0->(x∈aL k s t 0↔x=⟨0,0,s,0⟩))/\(k=1->∀ x,x.r=1->(x∈aL k s t 0↔x=⟨0,1,t,0⟩))/\(k≠1->∀ x∈aL k s t 0,x.r=0):=by
 unfold aL
 by_cases h1:k=1
 ·rw [if_pos h1]
  have ht:=ht h1
  refine⟨aU.2 ⟨fun x hx=>?_,aU.2 ⟨fun x hx=>(by cases hx),fH⟩⟩,fun x hx=>?_,fun x hr=>?_,fun _ x hr=>?_,fun h=>absurd h1 h⟩
  ·rw [List.mem_singleton] at hx
   subst hx
   rfl
  ·simp only [List.mem_cons,List.not_mem_nil,or_false] at hx
   rcases hx with rfl | rfl
   ·exact⟨⟨rfl,Or.inl rfl,by simp only;omega,by simp only;omega⟩,rfl⟩
   ·exact⟨⟨rfl,Or.inr rfl,by simp only;omega,by simp only;omega⟩,rfl⟩
  ·simp only [List.mem_cons,List.not_mem_nil,or_false]
   constructor
   ·rintro(rfl | rfl)
    ·rfl
    ·simp at hr
   ·exact Or.inl
  ·simp only [List.mem_cons,List.not_mem_nil,or_false]
   constructor
   ·rintro(rfl | rfl)
    ·simp at hr
    ·rfl
   ·exact Or.inr
 ·rw [if_neg h1,if_pos (by omega)]
  refine⟨aU.2 ⟨fun x hx=>(by cases hx),fH⟩,fun x hx=>?_,fun x hr=>?_,fun h=>absurd h h1,fun _ x hx=>?_⟩
  ·rw [List.mem_singleton] at hx
   subst hx
   exact⟨⟨rfl,Or.inl rfl,by simp only;omega,by simp only;omega⟩,rfl⟩
  ·rw [List.mem_singleton]
  ·rw [List.mem_singleton] at hx
   subst hx
   rfl
theorem wZ {k rad:Int} {O T R V:List Int} {n:Nat} (hck:ai O T R V=true) (hn:O.length=n+1) {M0:List Sq} (h0:aS M0) (h1:∀ x∈M0,iW n x/\x.d=0) (h2:∀ x∈M0,x.r=0) :
  ∀ i,∀ x∈(bR (aG k rad true O T R V) M0 i).2,x.r=0
 | 0,x,hx=>h2 x hx
 | i+1,x,hx=>by
  have hl:gX n (aG k rad true O T R V):=dX hck hn
  have hI:=eZ hl h0 h1 i
  obtain⟨⟨hx1,_⟩,_⟩:=(lj hI _).1 hx
  obtain⟨y,hy,hyx⟩:=List.mem_flatMap.1 hx1
  rw [(hl y x (hI.ms y hy).1 hyx).1]
  exact wZ hck hn h0 h1 h2 i y hy
theorem C8 {k rad:Int} {O T R V:List Int} {n:Nat} (hck:ai O T R V=true) (hn:O.length=n+1) {x:Sq} (hx:iW n x):(aG k rad true O T R V x).length<=n:=by
 have hl:gX n (aG k rad true O T R V):=dX hck hn
 have hm:=iF (n:=n) (ρ:=x.r) (m:=0) (l:=aG k rad true O T R V x)
  (List.Pairwise.imp_of_mem (fun {a b} ha hb h=>by
   have e1:=(hl x a hx ha).1
   have e2:=(hl x b hx hb).1
   have a1:a.s=x.s:=by rw [e1]
   have a2:a.r=x.r:=by rw [e1]
   have b1:b.s=x.s:=by rw [e2]
   have b2:b.r=x.r:=by rw [e2]
   rw [el]
   exact Or.inr ⟨by omega,Or.inr ⟨by omega,by omega⟩⟩) (vN hck))
  (fun y hy=>by
   obtain⟨e,h1,h2⟩:=hl x y hx hy
   refine⟨?_,?_,h1,h2⟩
   ·rw [e];exact hx.1
   ·rw [e]) (by omega)
 omega
theorem CB (k f t:Int) (pw:Option Addr) (nw cw:Nat) (rad most:Int) (po:Option Addr) (no co:Nat) (O:List Int) (pt:Option Addr) (nt ct:Nat) (T:List Int) (pr:Option Addr) (nr cr:Nat) (R:List Int) (pv:Option Addr) (nv cv:Nat) (V:List Int) (w:World) (n i:Nat) (p:List Sq × List Sq) (ps:Option Addr) (ns cs:Nat) (pm:Option Addr) (nm cm:Nat) (wk:Nat) (pp:Option Addr) (np cp:Nat) (pk:List Int) (hO:Rd w 1 po no (ab O)) (hT:Rd w 1 pt nt (ab T)) (hR:Rd w 1 pr nr (ab R)) (hV:Rd w 1 pv nv (ab V)) (hct:nt<=ct) (hcv:nv<=cv)
  (hck:ai O T R V=true) (hn:O.length=n+1) (Iu:n<=200) (hi:i<=200) (hI:Jy n i p) (h1:1<=wk) (h16:wk<=16) (hs:Rd w 4 ps ns (au p.1)) (hm:Rd w 4 pm nm (au p.2)) (hpk:Rd w 1 pp np (ab pk)) :
  Calls prog 94 #[.agg #[.int .i64 k,.int .i64 f,.int .i64 t,.slice pw nw cw,.int .i64 rad,.int .i64 most],.agg #[.slice po no co,.slice pt nt ct,.slice pr nr cr,.slice pv nv cv],.slice ps ns cs,.slice pm nm cm,.int .i64 wk,.slice pp np cp] w fun e w'=>∃ q c q2 c2,e=.returned (.tuple #[.slice q (cU (aG k rad true O T R V) p.1 p.2).1.length c,.slice q2 (cU (aG k rad true O T R V) p.1 p.2).2.length c2,.int .i64 0]) /\
   Ic w w' [.own 146 4 q (cU (aG k rad true O T R V) p.1 p.2).1.length c (au (cU (aG k rad true O T R V) p.1 p.2).1),.own 138 4 q2 (cU (aG k rad true O T R V) p.1 p.2).2.length c2 (au (cU (aG k rad true O T R V) p.1 p.2).2)]:=by
 have hl:gX n (aG k rad true O T R V):=dX hck hn
 have hms:∀ x∈p.2,mT x=true/\x.v<n:=fun x hx=>by
  obtain⟨a,b⟩:=hI.ms x hx
  exact⟨wM a Iu (by omega) (by omega),a.2.2.2⟩
 refine FS k f t pw nw cw rad most po no co pt nt ct pr nr cr pv nv cv n (aG k rad true O T R V) ps ns cs p.1 pm nm cm p.2 wk pp np cp pk w (by rw [hO.nI,hn]) Iu h1 h16 hs hm hpk hI.kst
  (fun x hx=>by
   obtain⟨a,b,c⟩:=hI.st x hx
   exact⟨wM a Iu (by omega) (by omega),a.2.2.2⟩) hms (fun x hx=>⟨Nat.le_trans (C8 hck hn (hI.ms x hx).1) Iu,fun y hy=>?_⟩)
  (by rw [hs.nQ];have:=ju hI.kst (fun x hx=>(hI.st x hx).1);omega) (by rw [hm.nQ];have:=ju hI.kms (fun x hx=>(hI.ms x hx).1);omega)
  (fun x hx=>hx.elim (fun h=>(hI.st x h).1) (fun h=>(hI.ms x h).1)) (fun W h=>?_) (fun x hx W h=>?_)
 ·obtain⟨a1,a2⟩:=hI.ms x hx
  obtain⟨e,y1,y2⟩:=hl x y a1 hy
  obtain⟨x1,x2,x3,x4⟩:=a1
  unfold Sq.I Ii
  have q1:IntKind.i64.min = -9223372036854775808:=rfl
  have q2:IntKind.i64.max=9223372036854775807:=rfl
  have f1:y.s=x.s:=by rw [e]
  have f2:y.r=x.r:=by rw [e]
  have f3:y.d=x.d+1:=by rw [e]
  refine⟨?_,?_,?_,?_⟩ <;> (show (_ && _)=true;simp;omega)
 ·have:=iV po no co O pt nt ct T pr nr cr R pv nv cv V W (hO.ext h) (hT.ext h) (hR.ext h) (hV.ext h) hct hcv
  rw [hck] at this
  exact this
 ·have hN:=Ft k f t pw nw cw rad most po no co O pt nt ct T pr nr cr R pv nv cv V W x (hO.ext h) (hT.ext h) (hR.ext h) (hV.ext h) hct hcv (fun v _=>by
   rw [hck]
   have:=By hck v
   omega)
  obtain⟨a1,a2⟩:=hI.ms x hx
  obtain⟨x1,x2,x3,x4⟩:=a1
  have hc:iR true O R x=0:=by
   obtain⟨e1,_⟩:=aK hck
   have hb:eY true (if x.r=1 then R else O) x.v=true:=by
    rw [ik]
    split
    ·refine⟨rfl,x3,?_⟩;omega
    ·refine⟨rfl,x3,?_⟩;omega
   unfold iR
   rw [hb]
   exact wO ⟨rfl,x2,by omega,by omega⟩
  rw [hck,hc] at hN
  exact hN
section
open Go Go.RowKit Go.Maps
theorem ol {l:List Sq} {f:Int->Option I6} (h:iX l 0 f) (t:Int):(f t).isSome=Ar l t:=by
 cases hf:f t with
 | none =>
  have:=h.1 t hf
  cases ha:Ar l t with
  | false=>rfl
  | true =>
   obtain⟨x,hx,h1,h2⟩:=wA.1 ha
   exact absurd h2 (this x hx h1)
 | some d =>
  obtain⟨x,hx,h1,h2,_⟩:=(h.2 t d hf).1
  exact(wA.2 ⟨x,hx,h1,h2⟩).symm
theorem Fo (f t:Int) (pw:Option Addr) (nw cw:Nat) (rad most:Int) (pl:Option Addr) (nl cl:Nat) (p:Option Addr) (n c:Nat) (l:List Sq) (pm:Option Addr) (nm cm:Nat) (w:World) (hl:Rd w 4 p n (au l)) (hi:∀ x∈l,Ii x.v/\Ii x.d) (hn:n<=1000000) (ht:Ii t) :
  Calls prog 95 #[.agg #[.int .i64 2,.int .i64 f,.int .i64 t,.slice pw nw cw,.int .i64 rad,.int .i64 most],.slice pl nl cl,.slice p n c,.slice pm nm cm] w fun e w'=>e=.returned (.tuple #[.agg #[.bool (Ar l t),.int .i64 0,.slice none 0 0],.bool (Ar l t || decide (nm=0))])/\Ext w w':=by
 have S0:=lh ((((Ic.start w).al #[.int .i64 2,.int .i64 f,.int .i64 t,.slice pw nw cw,.int .i64 rad,.int .i64 most] 24 w.heap.size rfl).al #[.slice pm nm cm] 83 (w.heap.size+1) (by simp)).al #[.bool false,.int .i64 0,.slice none 0 0] 34 (w.heap.size+1+1) (by simp))
 have Pq:=lh (fun W (h:Ext w W)=>Bh p n c l 0 W (hl.ext h) hi hn)
 clear hl hi
 cases hbb:Ar l t with
 | true =>
  have HB:=lh hbb
  have HD:Hid ((true || decide (nm=0))=true):=rfl
  go_enter func95,ntmps95
  go_wp2
  obtain⟨X,hX⟩:∃ X,X=((w.alloc (.cells #[.int .i64 2,.int .i64 f,.int .i64 t,.slice pw nw cw,.int .i64 rad,.int .i64 most] 24)).alloc (.cells #[.slice pm nm cm] 83)).alloc (.cells #[.bool false,.int .i64 0,.slice none 0 0] 34):=⟨_,rfl⟩
  rw [<- hX] at S0 ⊢
  clear hX
  have a2:X.cell? ⟨w.heap.size,2,none⟩=some (.int .i64 t):=(S0.out.blk 2 rfl).cell 2
  refine wp_region_noPanic ?_
  refine wp_region_held_drew (S:=fun w'=>w'.cell? ⟨w.heap.size,2,none⟩=some (.int .i64 t)) (by kernel_rfl) a2 (fun hHeld=>?_)
  have SD:=lh S0.out.drew
  clear S0 a2
  generalize X.drew=D at SD hHeld ⊢
  clear X
  refine br 0 (.slice p n c) rfl (fun W hSw=>by have h1:=hSw;go_simp) hHeld ?_
  refine br 2 (.pointer (some ⟨w.heap.size,2,none⟩)) rfl (fun W hSw=>by have h1:=hSw;go_simp) hHeld ?_
  refine br 3 (.int .i64 t) rfl (fun W hSw=>by have h1:=hSw;go_simp) hHeld ?_
  refine wpAnyH_ready (rs:=[1]) (by kernel_rfl) (by simp) (AllReadyH.cons rfl (fun K hK=>?_) AllReadyH.nil)
  go_simp
  refine(Pq.out _ SD.out.ext).mono ?_
  rintro e w1 ⟨b,m,g,hm,rfl,Z,hg⟩
  have HG:=lh (ol hg t)
  have S1:=lh (SD.out.comp Z)
  clear hg Z SD
  have a2:w1.cell? ⟨w.heap.size,2,none⟩=some (.int .i64 t):=(S1.out.blk 3 rfl).cell 2
  refine hK.out _ _ a2 (fun hHeld=>?_)
  clear hK
  have k0:=(S1.out.map 0 rfl).lookup_ok (t:=214) underlying3 underlying214 ht
  rw [HG.out,HB.out] at k0
  generalize (g t).getD Dt.z=z0 at k0
  have k1:(Instr.lookup 214 (.map (some b)) (.int .i64 t) true).run prog w1=.ok (.tuple #[.int .i64 z0.1,.bool true]) w1:=k0
  clear k0 HG
  refine wpAnyH_ready (rs:=[4]) (by kernel_rfl) (by simp) (AllReadyH.cons rfl (fun K hK=>?_) AllReadyH.nil)
  go_simp
  refine hK.out _ _ a2 (fun hHeld=>?_)
  clear hK k1
  refine br 5 (.tuple #[.int .i64 z0.1,.bool true]) rfl (fun W hSw=>by have h1:=hSw;go_simp) hHeld ?_
  refine br 6 (.int .i64 z0.1) rfl (fun W hSw=>by have h1:=hSw;go_simp) hHeld ?_
  refine br 7 (.bool true) rfl (fun W hSw=>by have h1:=hSw;go_simp) hHeld ?_
  refine br 8 (.int .i64 z0.1) rfl (fun W hSw=>by have h1:=hSw;go_simp) hHeld ?_
  refine br 9 (.bool true) rfl (fun W hSw=>by have h1:=hSw;go_simp) hHeld ?_
  refine wpAnyH_done (by kernel_rfl) ?_ _
  refine bm ?_
  clear hHeld a2
  simp [Act.put]
  go_wp2
  have m0:w1.cell? ⟨w.heap.size+1,0,none⟩=some (.slice pm nm cm):=(S1.out.blk 2 rfl).cell 0
  refine wp_region_noPanic ?_
  refine wp_region_held_drew (S:=fun w'=>w'.cell? ⟨w.heap.size+1,0,none⟩=some (.slice pm nm cm)) (by kernel_rfl) m0 (fun hHeld=>?_)
  have SD:=lh S1.out.drew
  clear S1 m0
  generalize w1.drew=D2 at SD hHeld ⊢
  refine br 0 (.bool true) rfl (fun W hSw=>by have h1:=hSw;go_simp) hHeld ?_
  refine br 1 (.agg #[.bool true,.int .i64 0,.slice none 0 0]) rfl (fun W hSw=>by have h1:=hSw;go_simp) hHeld ?_
  refine br 2 (.bool true) rfl (fun W hSw=>by have h1:=hSw;go_simp) hHeld ?_
  refine br 3 (.bool true) rfl (fun W hSw=>by have h1:=hSw;go_simp) hHeld ?_
  refine zF 4 rfl hHeld ?_
  refine zF 5 rfl hHeld ?_
  refine zF 6 rfl hHeld ?_
  refine br 7 (.bool true) rfl (fun W hSw=>by have h1:=hSw;go_simp) hHeld ?_
  obtain⟨a0,a1,a2,az,f0,f1,f2⟩:=ag (SD.out.blk 1 rfl)
  have S9:=lh (((SD.out.set 1 rfl 0 (.bool true)).set 1 rfl 1 (.int .i64 0)).set 1 rfl 2 (.slice none 0 0))
  refine wpAnyH_ready (rs:=[8]) (by kernel_rfl) (by simp) (AllReadyH.cons rfl (fun K hK=>?_) AllReadyH.nil)
  go_simp
  have c0:=(S9.out.blk 2 rfl).cell 0
  refine hK.out _ _ c0 (fun hHeld=>?_)
  clear hK
  refine br 9 (.bool true) rfl (fun W hSw=>by have h1:=hSw;go_simp) hHeld ?_
  refine wpAnyH_done (by kernel_rfl) ?_ _
  refine bm ?_
  obtain⟨x0,x1,x2⟩:=aw (S9.out.blk 1 rfl)
  go_wp2
  exact bodyPost_ret (v:=.tuple #[.agg #[.bool true,.int .i64 0,.slice none 0 0],.bool true]) (by simp [results,results95,go_sem,x0,x1,x2,sizeOf34,isAgg34]) rfl ⟨by rw [HD.out],S9.out.ext⟩
 | false =>
  have HB:=lh hbb
  by_cases h0:nm=0
  ·have HD:Hid ((false || decide (nm=0))=true):=by unfold Hid;simp [h0]
   have hb0:((nm:Int) == 0)=true:=by simp;omega
   clear h0
   go_enter func95,ntmps95
   go_wp2
   obtain⟨X,hX⟩:∃ X,X=((w.alloc (.cells #[.int .i64 2,.int .i64 f,.int .i64 t,.slice pw nw cw,.int .i64 rad,.int .i64 most] 24)).alloc (.cells #[.slice pm nm cm] 83)).alloc (.cells #[.bool false,.int .i64 0,.slice none 0 0] 34):=⟨_,rfl⟩
   rw [<- hX] at S0 ⊢
   clear hX
   have a2:X.cell? ⟨w.heap.size,2,none⟩=some (.int .i64 t):=(S0.out.blk 2 rfl).cell 2
   refine wp_region_noPanic ?_
   refine wp_region_held_drew (S:=fun w'=>w'.cell? ⟨w.heap.size,2,none⟩=some (.int .i64 t)) (by kernel_rfl) a2 (fun hHeld=>?_)
   have SD:=lh S0.out.drew
   clear S0 a2
   generalize X.drew=D at SD hHeld ⊢
   clear X
   refine br 0 (.slice p n c) rfl (fun W hSw=>by have h1:=hSw;go_simp) hHeld ?_
   refine br 2 (.pointer (some ⟨w.heap.size,2,none⟩)) rfl (fun W hSw=>by have h1:=hSw;go_simp) hHeld ?_
   refine br 3 (.int .i64 t) rfl (fun W hSw=>by have h1:=hSw;go_simp) hHeld ?_
   refine wpAnyH_ready (rs:=[1]) (by kernel_rfl) (by simp) (AllReadyH.cons rfl (fun K hK=>?_) AllReadyH.nil)
   go_simp
   refine(Pq.out _ SD.out.ext).mono ?_
   rintro e w1 ⟨b,m,g,hm,rfl,Z,hg⟩
   have HG:=lh (ol hg t)
   have S1:=lh (SD.out.comp Z)
   clear hg Z SD
   have a2:w1.cell? ⟨w.heap.size,2,none⟩=some (.int .i64 t):=(S1.out.blk 3 rfl).cell 2
   refine hK.out _ _ a2 (fun hHeld=>?_)
   clear hK
   have k0:=(S1.out.map 0 rfl).lookup_ok (t:=214) underlying3 underlying214 ht
   rw [HG.out,HB.out] at k0
   generalize (g t).getD Dt.z=z0 at k0
   have k1:(Instr.lookup 214 (.map (some b)) (.int .i64 t) true).run prog w1=.ok (.tuple #[.int .i64 z0.1,.bool false]) w1:=k0
   clear k0 HG
   refine wpAnyH_ready (rs:=[4]) (by kernel_rfl) (by simp) (AllReadyH.cons rfl (fun K hK=>?_) AllReadyH.nil)
   go_simp
   refine hK.out _ _ a2 (fun hHeld=>?_)
   clear hK k1
   refine br 5 (.tuple #[.int .i64 z0.1,.bool false]) rfl (fun W hSw=>by have h1:=hSw;go_simp) hHeld ?_
   refine br 6 (.int .i64 z0.1) rfl (fun W hSw=>by have h1:=hSw;go_simp) hHeld ?_
   refine br 7 (.bool false) rfl (fun W hSw=>by have h1:=hSw;go_simp) hHeld ?_
   refine br 8 (.int .i64 z0.1) rfl (fun W hSw=>by have h1:=hSw;go_simp) hHeld ?_
   refine br 9 (.bool false) rfl (fun W hSw=>by have h1:=hSw;go_simp) hHeld ?_
   refine wpAnyH_done (by kernel_rfl) ?_ _
   refine bm ?_
   clear hHeld a2
   simp [Act.put]
   go_wp2
   have m0:w1.cell? ⟨w.heap.size+1,0,none⟩=some (.slice pm nm cm):=(S1.out.blk 2 rfl).cell 0
   refine wp_region_noPanic ?_
   refine wp_region_held_drew (S:=fun w'=>w'.cell? ⟨w.heap.size+1,0,none⟩=some (.slice pm nm cm)) (by kernel_rfl) m0 (fun hHeld=>?_)
   have SD:=lh S1.out.drew
   clear S1 m0
   generalize w1.drew=D2 at SD hHeld ⊢
   refine br 0 (.bool false) rfl (fun W hSw=>by have h1:=hSw;go_simp) hHeld ?_
   refine br 1 (.agg #[.bool false,.int .i64 0,.slice none 0 0]) rfl (fun W hSw=>by have h1:=hSw;go_simp) hHeld ?_
   refine br 2 (.bool false) rfl (fun W hSw=>by have h1:=hSw;go_simp) hHeld ?_
   refine br 3 (.bool false) rfl (fun W hSw=>by have h1:=hSw;go_simp) hHeld ?_
   refine br 4 (.slice pm nm cm) rfl (fun W hSw=>by have h1:=hSw;go_simp) hHeld ?_
   refine br 5 (.int .i64 nm) rfl (fun W hSw=>by have h1:=hSw;go_simp) hHeld ?_
   refine br 6 (.bool true) rfl (fun W hSw=>by have h1:=hSw;go_simp) hHeld ?_
   refine br 7 (.bool true) rfl (fun W hSw=>by have h1:=hSw;go_simp) hHeld ?_
   obtain⟨a0,a1,a2,az,f0,f1,f2⟩:=ag (SD.out.blk 1 rfl)
   have S9:=lh (((SD.out.set 1 rfl 0 (.bool false)).set 1 rfl 1 (.int .i64 0)).set 1 rfl 2 (.slice none 0 0))
   refine wpAnyH_ready (rs:=[8]) (by kernel_rfl) (by simp) (AllReadyH.cons rfl (fun K hK=>?_) AllReadyH.nil)
   go_simp
   have c0:=(S9.out.blk 2 rfl).cell 0
   refine hK.out _ _ c0 (fun hHeld=>?_)
   clear hK
   refine br 9 (.bool true) rfl (fun W hSw=>by have h1:=hSw;go_simp) hHeld ?_
   refine wpAnyH_done (by kernel_rfl) ?_ _
   refine bm ?_
   obtain⟨x0,x1,x2⟩:=aw (S9.out.blk 1 rfl)
   go_wp2
   exact bodyPost_ret (v:=.tuple #[.agg #[.bool false,.int .i64 0,.slice none 0 0],.bool true]) (by simp [results,results95,go_sem,x0,x1,x2,sizeOf34,isAgg34]) rfl ⟨by rw [HD.out],S9.out.ext⟩
  ·have HD:Hid ((false || decide (nm=0))=false):=by unfold Hid;simp [h0]
   have hb0:((nm:Int) == 0)=false:=by simp;omega
   clear h0
   go_enter func95,ntmps95
   go_wp2
   obtain⟨X,hX⟩:∃ X,X=((w.alloc (.cells #[.int .i64 2,.int .i64 f,.int .i64 t,.slice pw nw cw,.int .i64 rad,.int .i64 most] 24)).alloc (.cells #[.slice pm nm cm] 83)).alloc (.cells #[.bool false,.int .i64 0,.slice none 0 0] 34):=⟨_,rfl⟩
   rw [<- hX] at S0 ⊢
   clear hX
   have a2:X.cell? ⟨w.heap.size,2,none⟩=some (.int .i64 t):=(S0.out.blk 2 rfl).cell 2
   refine wp_region_noPanic ?_
   refine wp_region_held_drew (S:=fun w'=>w'.cell? ⟨w.heap.size,2,none⟩=some (.int .i64 t)) (by kernel_rfl) a2 (fun hHeld=>?_)
   have SD:=lh S0.out.drew
   clear S0 a2
   generalize X.drew=D at SD hHeld ⊢
   clear X
   refine br 0 (.slice p n c) rfl (fun W hSw=>by have h1:=hSw;go_simp) hHeld ?_
   refine br 2 (.pointer (some ⟨w.heap.size,2,none⟩)) rfl (fun W hSw=>by have h1:=hSw;go_simp) hHeld ?_
   refine br 3 (.int .i64 t) rfl (fun W hSw=>by have h1:=hSw;go_simp) hHeld ?_
   refine wpAnyH_ready (rs:=[1]) (by kernel_rfl) (by simp) (AllReadyH.cons rfl (fun K hK=>?_) AllReadyH.nil)
   go_simp
   refine(Pq.out _ SD.out.ext).mono ?_
   rintro e w1 ⟨b,m,g,hm,rfl,Z,hg⟩
   have HG:=lh (ol hg t)
   have S1:=lh (SD.out.comp Z)
   clear hg Z SD
   have a2:w1.cell? ⟨w.heap.size,2,none⟩=some (.int .i64 t):=(S1.out.blk 3 rfl).cell 2
   refine hK.out _ _ a2 (fun hHeld=>?_)
   clear hK
   have k0:=(S1.out.map 0 rfl).lookup_ok (t:=214) underlying3 underlying214 ht
   rw [HG.out,HB.out] at k0
   generalize (g t).getD Dt.z=z0 at k0
   have k1:(Instr.lookup 214 (.map (some b)) (.int .i64 t) true).run prog w1=.ok (.tuple #[.int .i64 z0.1,.bool false]) w1:=k0
   clear k0 HG
   refine wpAnyH_ready (rs:=[4]) (by kernel_rfl) (by simp) (AllReadyH.cons rfl (fun K hK=>?_) AllReadyH.nil)
   go_simp
   refine hK.out _ _ a2 (fun hHeld=>?_)
   clear hK k1
   refine br 5 (.tuple #[.int .i64 z0.1,.bool false]) rfl (fun W hSw=>by have h1:=hSw;go_simp) hHeld ?_
   refine br 6 (.int .i64 z0.1) rfl (fun W hSw=>by have h1:=hSw;go_simp) hHeld ?_
   refine br 7 (.bool false) rfl (fun W hSw=>by have h1:=hSw;go_simp) hHeld ?_
   refine br 8 (.int .i64 z0.1) rfl (fun W hSw=>by have h1:=hSw;go_simp) hHeld ?_
   refine br 9 (.bool false) rfl (fun W hSw=>by have h1:=hSw;go_simp) hHeld ?_
   refine wpAnyH_done (by kernel_rfl) ?_ _
   refine bm ?_
   clear hHeld a2
   simp [Act.put]
   go_wp2
   have m0:w1.cell? ⟨w.heap.size+1,0,none⟩=some (.slice pm nm cm):=(S1.out.blk 2 rfl).cell 0
   refine wp_region_noPanic ?_
   refine wp_region_held_drew (S:=fun w'=>w'.cell? ⟨w.heap.size+1,0,none⟩=some (.slice pm nm cm)) (by kernel_rfl) m0 (fun hHeld=>?_)
   have SD:=lh S1.out.drew
   clear S1 m0
   generalize w1.drew=D2 at SD hHeld ⊢
   refine br 0 (.bool false) rfl (fun W hSw=>by have h1:=hSw;go_simp) hHeld ?_
   refine br 1 (.agg #[.bool false,.int .i64 0,.slice none 0 0]) rfl (fun W hSw=>by have h1:=hSw;go_simp) hHeld ?_
   refine br 2 (.bool false) rfl (fun W hSw=>by have h1:=hSw;go_simp) hHeld ?_
   refine br 3 (.bool false) rfl (fun W hSw=>by have h1:=hSw;go_simp) hHeld ?_
   refine br 4 (.slice pm nm cm) rfl (fun W hSw=>by have h1:=hSw;go_simp) hHeld ?_
   refine br 5 (.int .i64 nm) rfl (fun W hSw=>by have h1:=hSw;go_simp) hHeld ?_
   refine br 6 (.bool false) rfl (fun W hSw=>by have h1:=hSw;go_simp) hHeld ?_
   refine br 7 (.bool false) rfl (fun W hSw=>by have h1:=hSw;go_simp) hHeld ?_
   obtain⟨a0,a1,a2,az,f0,f1,f2⟩:=ag (SD.out.blk 1 rfl)
   have S9:=lh (((SD.out.set 1 rfl 0 (.bool false)).set 1 rfl 1 (.int .i64 0)).set 1 rfl 2 (.slice none 0 0))
   refine wpAnyH_ready (rs:=[8]) (by kernel_rfl) (by simp) (AllReadyH.cons rfl (fun K hK=>?_) AllReadyH.nil)
   go_simp
   have c0:=(S9.out.blk 2 rfl).cell 0
   refine hK.out _ _ c0 (fun hHeld=>?_)
   clear hK
   refine br 9 (.bool false) rfl (fun W hSw=>by have h1:=hSw;go_simp) hHeld ?_
   refine wpAnyH_done (by kernel_rfl) ?_ _
   refine bm ?_
   obtain⟨x0,x1,x2⟩:=aw (S9.out.blk 1 rfl)
   go_wp2
   exact bodyPost_ret (v:=.tuple #[.agg #[.bool false,.int .i64 0,.slice none 0 0],.bool false]) (by simp [results,results95,go_sem,x0,x1,x2,sizeOf34,isAgg34]) rfl ⟨by rw [HD.out],S9.out.ext⟩
end
theorem A8:(prog.info? 105).map (fun i=>(i.zero,i.size,i.bytes))=some (some (.agg #[.int .i64 0,.int .i64 0]),2,16):=by kernel_rfl
theorem Rd.one2g (w:World) (t:TypeId) (a b:Int) (g:Nat) (h:w.heap.size=g):Rd (w.alloc (.cells #[.int .i64 a,.int .i64 b] t)) 2 (some ⟨g,0,none⟩) 1 (aj [(a,b)]):=by subst h;exact Rd.one2 w t a b
theorem Hi (gb:Nat) (q:Option Addr) (n c:Nat) (X:List (Int × Int)) (mo:Int) (w:World) (hB:Ih w gb 301 #[.slice q n c,.int .i64 mo]) (hl:Rd w 2 q n (aj X)) (hn:n<=80000) :
  Calls prog 236 #[.pointer (some ⟨gb,0,none⟩)] w fun e w'=>∃ q' c',e=.returned (.slice q' n c')/\Ic w w' [.own 105 2 q' n c' (aj (aE cM X))]:=by
 obtain⟨i0,hi0,hz0,hz1,hz2⟩:=info_parts A8
 have b0:w.cell? ⟨gb,0,none⟩=some (.slice q n c):=hB.cell 0
 have bz:=hB.lt
 have IA:=hl.nE
 obtain⟨Y,hY⟩:∃ Y,aE cM X=Y:=⟨_,rfl⟩
 have LX:Hid (Y.length=n):=by unfold Hid;rw [<- hY,fZ,<- IA]
 have HY:=lh hY
 rw [hY]
 have HC:=lh (Ea q n c X w hl (by omega))
 clear hB hl IA hY
 go_enter func236,ntmps236
 go_wp2_with (first
  | (go_at_call 272;go_must (refine(xD S1.out 0 rfl (by omega)).mono ?_;rintro e w2 ⟨rfl,Z⟩;rw [HY.out] at Z;have S2:=lh (Z.nilrow 105 2);clear Z))
  | (go_at_call 271;go_must (refine HC.out.mono ?_;rintro e w1 ⟨q1,c1,rfl,Z⟩;have S1:=lh Z;clear Z)))
 have S3:=lh (S2.out:Ic w w2 [.own 105 2 none 0 0 [],.own 329 2 q1 n c1 (aj Y)])
 clear S1 S2 b0 bz HC
 go_loopw [4,6,19] (fun v _ i wr=>∃ (j:Nat) (q':Option Addr) (c':Nat),j<=n/\i=.int .i64 j/\v=.slice q' j c'/\Ic w wr [.own 105 2 q' j c' (aj (Y.take j)),.own 329 2 q1 n c1 (aj Y)]) (fun _ _ i _=>n - (intOf i).toNat)
 case atStart=>exact⟨0,none,0,Nat.zero_le _,rfl,rfl,S3.out⟩
 case round =>
  clear S3
  obtain⟨j,q',c',hj,rfl,rfl,S⟩:=hrel
  by_cases hlt:j<n
  ·have hr:=S.rdx 1 rfl
   have g1:=hr.cE hlt
   have g2:=hr.cE2 hlt
   have p1:=hr.ptr
   have HT:=lh (ak Y j (by rw [LX.out];exact hlt))
   have d1:(0:Int)<=j:=by omega
   have d2:(j:Int)<n:=by omega
   clear hr
   have SH:=lh S;clear S
   generalize ae Y j=y at *
   go_wp2_with (at_builtin;go_must (refine am rfl _ _ _ rfl 105 i0 _ 2 16 underlying32 hi0 hz0 hz1 hz2 rfl (by omega) ((SH.out.junk _).junk _) 0 q' j c' _ rfl rfl _ 1 1 _ rfl (Rd.one2g _ _ _ _ _ (by simp)) (bu _) (by omega) (by omega) ?_;intro q7 c7 w7 S' hsz;have S7:=lh S';clear S' hsz))
   go_roundw
   case rel=>exact⟨j+1,q7,c7,by omega,by go_num,rfl,by rw [HT.out,aF];exact S7.out⟩
   case measure=>simp [intOf];omega
  ·obtain rfl:j=n:=by omega
   rw [List.take_of_length_le (by rw [LX.out];exact Nat.le_refl _)] at S
   have SH:=lh S;clear S
   go_wp2
   go_ret
   exact⟨q',c',rfl,SH.out.pick [0] (by decide) rfl⟩
theorem wt (p:Option Addr) (n c:Nat) (l:List (Int × Int)) (k:Int) (w:World) (hl:Rd w 2 p n (aj l)) (hn:n<=10000) :
  Calls prog 191 #[.slice p n c,.int .i64 k] w fun e w'=>∃ q c',e=.returned (.slice q (bV l k).length c')/\Ic w w' [.own 105 2 q (bV l k).length c' (aj (bV l k))]:=by
 have p1:=hl.ptr
 have n1:=hl.small
 have L1:=lh hl.nE
 by_cases h1:k<1
 ·have HF:Hid (bV l k=[]):=by unfold Hid bV;rw [if_pos h1]
  rw [HF.out]
  have S0:=lh ((Ic.start w).nilrow 105 2)
  clear HF hl
  go_enter func191,ntmps191
  go_wp2
  go_ret
  exact⟨none,0,rfl,S0.out⟩
 ·obtain⟨mo,rfl⟩:∃ mo:Nat,k=mo:=⟨k.toNat,by omega⟩
  have e1:decide ((mo:Int)<1)=false:=by simpa using h1
  have HF:Hid (bV l mo=(bl l).take mo):=by unfold Hid bV;rw [if_neg h1,Int.toNat_natCast]
  rw [HF.out]
  obtain⟨F,hF⟩:∃ F,(bl l).take mo=F:=⟨_,rfl⟩
  rw [hF]
  have Ms:=lh hF
  clear hF
  have HL:=lh hl
  have S0:=lh (((Ic.start w).al #[.slice none 0 0,.int .i64 (mo:Int)] 301 w.heap.size rfl).nilrow 329 2)
  clear hl h1 HF
  go_enter func191,ntmps191
  go_wp2
  go_loopw [7,15] (fun _ i wr=>∃ (j:Nat) (q:Option Addr) (m d:Nat) (X:List (Int × Int)),j<=n/\i=.int .i64 j/\m<=j/\Hid (cC mA m X)/\Hid (X.Perm ((bl (l.take j)).take mo))/\Ic w wr [.own 329 2 q m d (aj X),.blk w.heap.size 301 #[.slice q m d,.int .i64 (mo:Int)]]) (fun _ i _=>n - (intOf i).toNat)
  case atStart=>exact⟨0,none,0,0,[],Nat.zero_le _,rfl,Nat.zero_le _,fun i h0 h1=>by omega,by unfold Hid;rw [List.take_zero];simp [bl],S0.out⟩
  case round =>
   clear S0
   obtain⟨j,q,m,d,X,hj,rfl,hm,HH,HP,S⟩:=hrel
   by_cases hlt:j<n
   ·have g1:=S.ext.cell (HL.out.cE hlt)
    have g2:=S.ext.cell (HL.out.cE2 hlt)
    have HT:=lh (ak l j (by rw [<- L1.out];exact hlt))
    have d1:(0:Int)<=j:=by omega
    have d2:(j:Int)<n:=by omega
    have SH:=lh S;clear S
    generalize ae l j=y at *
    have JX:=lh (Hk w.heap.size q m d X (l.take j) y mo _ w (.blk wr.heap.size 105 #[.int .i64 y.1,.int .i64 y.2] :: [.own 329 2 q m d (aj X),.blk w.heap.size 301 #[.slice q m d,.int .i64 (mo:Int)]]) 2 1 (SH.out.al #[.int .i64 y.1,.int .i64 y.2] 105 wr.heap.size rfl) rfl rfl (by omega) (by omega) HH.out HP.out)
    go_wp2_with (go_at_call 235;go_must (refine JX.out.mono ?_;rintro e w3 ⟨⟨v,rfl⟩,q',m',d',X',k1,k2,k3,Z⟩;have K2:=lh k2;have K3:=lh k3;have S3:=lh Z;clear k2 k3 Z))
    go_roundw
    case rel=>exact⟨j+1,q',m',d',X',by omega,by go_num,by omega,K2.out,by rw [HT.out];exact K3.out,S3.out.pick [1,2] (by decide) rfl⟩
    case measure=>simp [intOf];omega
   ·obtain rfl:j=n:=by omega
    have HX:Hid (aE cM X=F):=by
     have hp:=HP.out
     rw [List.take_of_length_le (l:=l) (by rw [<- L1.out];exact Nat.le_refl _)] at hp
     unfold Hid
     rw [<- Ms.out]
     exact vn (lm X).1 ((lm X).2.trans hp)
    have HM:Hid (m=F.length):=by
     unfold Hid
     rw [<- HX.out,fZ,<- (S.rdx 0 rfl).nE]
    have HA:=lh (Hi w.heap.size q m d X mo wr (S.blk 1 rfl) (S.rdx 0 rfl) (by omega))
    rw [HX.out] at HA
    have SH:=lh S;clear S
    go_wp2_with (go_at_call 236;go_must (refine HA.out.mono ?_;rintro e w3 ⟨q',d',rfl,Z⟩;have S3:=lh (SH.out.comp Z);clear Z))
    go_ret
    have T:Ic w w3 [.own 105 2 q' m d' (aj F)]:=S3.out.pick [0] (by decide) rfl
    rw [HM.out] at T
    exact⟨q',d',eO HM.out,T⟩
abbrev tA:ByteArray:=⟨#[97]⟩
abbrev tB:ByteArray:=⟨#[98]⟩
theorem ba:a9 tB tA=false:=by unfold a9;rw [ByteArray.toList_eq,ByteArray.toList_eq];rfl
theorem aa:a9 tA tA=false:=fB _
theorem bb:a9 tB tB=false:=fB _
theorem uO (L:List Po) (ws:List ByteArray):bM fd (i3 L ws):=de kt _
theorem An {L:List Po} (hok:Io L) (ws:List ByteArray):(i3 L ws).length<=1000:=by
 rw [<- sH (Nat.le_refl _)];exact sI hok ws _
theorem uV {L:List Po} (h:j9 L=false):L.length<=40/\∀ p∈L,p.1.size<=60/\p.2.length<=60:=by
 unfold j9 at h
 rw [Bool.or_eq_false_iff,Bool.and_eq_false_iff] at h
 have h1:L.length<=40:=by simpa using h.2
 refine⟨h1,fun p hp=>?_⟩
 have h2:L.any i8=false:=by
  rcases h.1 with h3 | h3
  ·simp at h3;omega
  ·exact h3
 have:=List.any_eq_false.1 h2 p hp
 unfold i8 at this
 simp at this
 exact this
theorem Dj {L:List Po} (h:j9 L=false) (hI:∀ q∈L,∀ x∈q.2,Ii x):Io L:=fun p hp=>⟨by have:=((uV h).2 p hp).2;omega,hI p hp⟩
def dj (L:List Po) (ws:List ByteArray):List Int:=if ws.length=0 then [] else i3 L ws
def mq (ws:List ByteArray):Int:=if ws.length=0 then 1 else 0
theorem rL {ws:List ByteArray} (h:ws.length=0):mq ws=1:=by unfold mq;rw [if_pos h]
theorem rM {ws:List ByteArray} (h:0<ws.length):mq ws=0:=by unfold mq;rw [if_neg (by omega)]
theorem uP (L:List Po) {ws:List ByteArray} (h:ws.length=0):dj L ws=[]:=by unfold dj;rw [if_pos h]
theorem Ap (L:List Po) {ws:List ByteArray} (h:0<ws.length):dj L ws=i3 L ws:=by unfold dj;rw [if_neg (by omega)]
theorem kB {L:List Po} (hok:Io L) (ws:List ByteArray):(dj L ws).length<=1000:=by
 unfold dj;split
 ·simp
 ·exact An hok ws
theorem Dr (p:Option Addr) (np cp:Nat) (hs:List Hd) (L:List Po) (pr:Option Addr) (nr cr:Nat) (ws:List ByteArray) (w:World) (hL:IW w p np hs L) (hok:Io L) (hR:Rd w 1 pr nr (bg ws)) (hcr:nr<=cr) (hn:nr<=100):Calls prog 115 #[.slice p np cp,.slice pr nr cr] w fun e w'=>∃ q c,e=.returned (.tuple #[.slice q (dj L ws).length c,.int .i64 (mq ws)])/\Ic w w' [.own 3 1 q (dj L ws).length c (ab (dj L ws))]:=by
 have l1:=hR.nS
 rcases Nat.eq_zero_or_pos nr with h0 | h0
 ·subst h0
  rw [rL l1.symm,uP L l1.symm]
  exact(Fi p np cp pr cr w).mono fun e w' ⟨h1,h2⟩=>⟨none,0,h1,((Ic.start w).call h2).nilrow _ _⟩
 ·rw [rM (by omega),Ap L (by omega)]
  exact GU p np cp hs L pr nr cr ws w hL hok hR hcr h0 hn
theorem D1 (p:Option Addr) (np cp:Nat) (hs:List Hd) (L:List Po) (pr:Option Addr) (nr cr:Nat) (ws:List ByteArray) (w:World) (hL:IW w p np hs L) (hok:Io L) (hR:Rd w 1 pr nr (bg ws)) (hn:nr<=100):Calls prog 122 #[.slice p np cp,.slice pr nr cr] w fun e w'=>∃ q c,e=.returned (.tuple #[.slice q (dj L ws).length c,.int .i64 (mq ws)])/\Ic w w' [.own 3 1 q (dj L ws).length c (ab (dj L ws))]:=by
 have l1:=hR.nS
 rcases Nat.eq_zero_or_pos nr with h0 | h0
 ·subst h0
  rw [rL l1.symm,uP L l1.symm]
  exact(D0 p np cp pr cr w).mono fun e w' ⟨h1,h2⟩=>⟨none,0,h1,((Ic.start w).call h2).nilrow _ _⟩
 ·rw [rM (by omega),Ap L (by omega)]
  exact Fh p np cp hs L pr nr cr ws w hL hok hR h0 hn
def fk (l:List Sq) (P:List Int) (most:Int):List (Int × Int):=bV (jV l P) most
theorem Fq (k f t:Int) (pw:Option Addr) (nw cw:Nat) (ws:List ByteArray) (rad most:Int) (pp:Option Addr) (np cp:Nat) (hs:List Hd) (L:List Po) (p:Option Addr) (n c:Nat) (l:List Sq) (w:World) (hL:IW w pp np hs L) (hok:Io L) (hw:Rd w 1 pw nw (bg ws)) (hcw:nw<=cw) (hnw:nw<=100) (hl:Rd w 4 p n (au l)) (hn:n<=1000) :
  Calls prog 155 #[.agg #[.int .i64 k,.int .i64 f,.int .i64 t,.slice pw nw cw,.int .i64 rad,.int .i64 most],.slice pp np cp,.slice p n c] w fun e w'=>∃ q c',e=.returned (.agg #[.bool (decide (0<(fk l (dj L ws) most).length)),.int .i64 0,.slice q (fk l (dj L ws) most).length c'])/\Ic w w' [.own 105 2 q (fk l (dj L ws) most).length c' (aj (fk l (dj L ws) most))]:=by
 obtain⟨i0,hi0,hz0,hz1,hz2⟩:=info_parts A8
 have p1:=hl.ptr
 have n1:=hl.small
 have L1:=lh hl.nQ
 have LW:=hw.nS
 have S0:=lh (((Ic.start w).al #[.int .i64 k,.int .i64 f,.int .i64 t,.slice pw nw cw,.int .i64 rad,.int .i64 most] 24 w.heap.size rfl).al #[.bool false,.int .i64 0,.slice none 0 0] 34 (w.heap.size+1) (by simp))
 have HA:=lh (fun W (h:Ext w W)=>Dr pp np cp hs L pw nw cw ws W (hL.ext h) hok (hw.ext h) hcw hnw)
 have KC:=lh (kB hok ws)
 have HL:=lh hl
 by_cases h0:ws.length=0
 ·have HF:Hid (fk l (dj L ws) most=[]):=by
   unfold Hid fk
   rw [uP L h0]
   have:jV l []=[]:=by unfold jV;simp
   rw [this]
   have:=(vk [] most).1
   exact List.eq_nil_of_length_eq_zero (by simpa using this)
  rw [rL h0] at HA
  rw [HF.out]
  clear hl hw hL hok h0 LW HF
  generalize dj L ws=P at *
  go_enter func155,ntmps155
  go_wp2_with (go_at_call 115;go_must (refine(HA.out _ S0.out.ext).mono ?_;rintro e w1 ⟨q1,c1,rfl,Z⟩;have S1:=lh (S0.out.comp Z);clear Z;obtain⟨b0,b1,b2,bz,f0,f1,f2⟩:=ag (S1.out.blk 1 rfl)))
  have S9:=lh (((S1.out.set 1 rfl 0 (.bool false)).set 1 rfl 1 (.int .i64 0)).set 1 rfl 2 (.slice none 0 0))
  obtain⟨x0,x1,x2⟩:=aw (S9.out.blk 1 rfl)
  exact bodyPost_ret (v:=.agg #[.bool false,.int .i64 0,.slice none 0 0]) (by simp [results,results155,go_sem,x0,x1,x2,sizeOf34,isAgg34]) rfl ⟨none,0,rfl,(S9.out.nilrow _ _).pick [0] (by decide) rfl⟩
 ·rw [rM (by omega)] at HA
  clear hl hw hL hok h0 LW
  unfold fk
  generalize dj L ws=P at *
  obtain⟨F,hF⟩:∃ F,bV (jV l P) most=F:=⟨_,rfl⟩
  rw [hF]
  have Kw:=lh hF
  clear hF
  go_enter func155,ntmps155
  go_wp2_with (go_at_call 115;go_must (refine(HA.out _ S0.out.ext).mono ?_;rintro e w1 ⟨q1,c1,rfl,Z⟩;have S1:=lh (S0.out.comp Z);clear Z))
  have S3:=lh (S1.out.nilrow 105 2:Ic w w1 [.own 105 2 none 0 0 [],.own 3 1 q1 P.length c1 (ab P),.blk (w.heap.size+1) 34 #[.bool false,.int .i64 0,.slice none 0 0],.blk w.heap.size 24 #[.int .i64 k,.int .i64 f,.int .i64 t,.slice pw nw cw,.int .i64 rad,.int .i64 most]])
  clear S1 S0 HA
  go_loopw [9,11,24] (fun v _ i wr=>∃ (j:Nat) (q:Option Addr) (m d:Nat),j<=n/\i=.int .i64 j/\v=.slice q m d/\m<=j/\Ic w wr [.own 105 2 q m d (aj (jV (l.take j) P)),.own 3 1 q1 P.length c1 (ab P),.blk (w.heap.size+1) 34 #[.bool false,.int .i64 0,.slice none 0 0],.blk w.heap.size 24 #[.int .i64 k,.int .i64 f,.int .i64 t,.slice pw nw cw,.int .i64 rad,.int .i64 most]]) (fun _ _ i _=>n - (intOf i).toNat)
  case atStart=>exact⟨0,none,0,0,Nat.zero_le _,rfl,rfl,Nat.le_refl _,S3.out⟩
  case round =>
   clear S3
   obtain⟨j,q,m,d,hj,rfl,rfl,hm,S⟩:=hrel
   by_cases hlt:j<n
   ·obtain⟨g1,g2,g3,g4⟩:=(HL.out.ext S.ext).cQ hlt
    have HT:=lh (ak l j (by rw [<- L1.out];exact hlt))
    have d1:(0:Int)<=j:=by omega
    have d2:(j:Int)<n:=by omega
    have SH:=lh S;clear S
    generalize ae l j=x at *
    have HS:=lh (yD (l.take j) P x)
    rw [<- HT.out] at HS
    have SX:=lh (SH.out.al #[.int .i64 x.s,.int .i64 x.r,.int .i64 x.v,.int .i64 x.d] 146 wr.heap.size rfl)
    have PR:=lh (Fl q1 P.length c1 P x.v _ (SX.out.rdx 2 rfl))
    have L9:Hid (jY P x.v=P.contains x.v):=by unfold Hid;rw [Bool.eq_iff_iff,fu];simp
    by_cases hr:x.r=0
    ·have e1:(x.r == 0)=true:=by simpa using hr
     rw [e1,Bool.true_and,<- L9.out] at HS
     cases hin:jY P x.v with
     | true =>
      rw [hin] at PR HS
      have HS2:Hid (jV (l.take (j+1)) P=jV (l.take j) P ++ [(x.v,x.d)]):=HS.out.trans (if_pos rfl)
      clear HS hr hin L9
      go_wp2_with (first
       | (at_builtin;go_must (refine am rfl _ _ _ rfl 105 i0 _ 2 16 underlying32 hi0 hz0 hz1 hz2 rfl (by omega) (S2.out.junk _) 1 q m d _ rfl rfl _ 1 1 _ rfl (Rd.one2 _ _ _ _) (bu _) (by omega) (by omega) ?_;intro q7 d7 w7 S' hsz;have S7:=lh S';clear S' hsz))
       | (go_at_call 218;go_must (refine PR.out.mono ?_;rintro e w2 ⟨rfl,hb⟩;have S2:=lh (SX.out.call hb);obtain⟨y2,y3,yz⟩:=wD (S2.out.blk 0 rfl);clear hb)))
      go_roundw
      case rel=>exact⟨j+1,q7,m+1,d7,by omega,by go_num,rfl,by omega,by rw [HS2.out,aF];exact S7.out.pick [1,2,3,4] (by decide) rfl⟩
      case measure=>simp [intOf];omega
     | false =>
      rw [hin] at PR HS
      have HS2:Hid (jV (l.take (j+1)) P=jV (l.take j) P):=HS.out.trans (if_neg (by simp))
      clear HS hr hin L9
      go_wp2_with (go_at_call 218;go_must (refine PR.out.mono ?_;rintro e w2 ⟨rfl,hb⟩;have S2:=lh (SX.out.call hb);clear hb))
      go_roundw
      case rel=>exact⟨j+1,q,m,d,by omega,by go_num,rfl,by omega,by rw [HS2.out];exact S2.out.pick [1,2,3,4] (by decide) rfl⟩
      case measure=>simp [intOf];omega
    ·have e1:(x.r == 0)=false:=by simpa using hr
     rw [e1,Bool.false_and] at HS
     have HS2:Hid (jV (l.take (j+1)) P=jV (l.take j) P):=HS.out.trans (if_neg (by simp))
     clear HS hr L9 PR
     go_wp2
     go_roundw
     case rel=>exact⟨j+1,q,m,d,by omega,by go_num,rfl,by omega,by rw [HS2.out];exact SX.out.pick [1,2,3,4] (by decide) rfl⟩
     case measure=>simp [intOf];omega
   ·obtain rfl:j=n:=by omega
    rw [List.take_of_length_le (by rw [<- L1.out];exact Nat.le_refl _)] at S
    obtain⟨a5,az⟩:=DB (S.blk 3 rfl)
    have JM:=lh (wt q m d (jV l P) most wr (S.rdx 0 rfl) (by omega))
    rw [Kw.out] at JM
    have SH:=lh S;clear S
    go_wp2_with (go_at_call 191;go_must (refine JM.out.mono ?_;rintro e w3 ⟨q3,d3,rfl,Z⟩;have S4:=lh (SH.out.comp Z);clear Z;obtain⟨b0,b1,b2,bz,f0,f1,f2⟩:=ag (S4.out.blk 3 rfl)))
    have S9:=lh (((S4.out.set 3 rfl 0 (.bool (decide (0<F.length)))).set 3 rfl 1 (.int .i64 0)).set 3 rfl 2 (.slice q3 F.length d3))
    obtain⟨x0,x1,x2⟩:=aw (S9.out.blk 3 rfl)
    exact bodyPost_ret (v:=.agg #[.bool (decide (0<F.length)),.int .i64 0,.slice q3 F.length d3]) (by simp [results,results155,go_sem,x0,x1,x2,sizeOf34,isAgg34]) rfl ⟨q3,d3,rfl,S9.out.pick [0] (by decide) rfl⟩
theorem Fp (f t:Int) (pw:Option Addr) (nw cw:Nat) (ws:List ByteArray) (rad most:Int) (pp:Option Addr) (np cp:Nat) (hs:List Hd) (L:List Po) (p:Option Addr) (n c:Nat) (l:List Sq) (pm:Option Addr) (nm cm:Nat) (w:World) (hL:IW w pp np hs L) (hok:Io L) (hw:Rd w 1 pw nw (bg ws)) (hcw:nw<=cw) (hnw:nw<=100) (hl:Rd w 4 p n (au l)) (hn:n<=1000) (hm:nm=0) :
  Calls prog 95 #[.agg #[.int .i64 3,.int .i64 f,.int .i64 t,.slice pw nw cw,.int .i64 rad,.int .i64 most],.slice pp np cp,.slice p n c,.slice pm nm cm] w fun e w'=>∃ q c',e=.returned (.tuple #[.agg #[.bool (decide (0<(fk l (dj L ws) most).length)),.int .i64 0,.slice q (fk l (dj L ws) most).length c'],.bool true])/\Ic w w' [.own 105 2 q (fk l (dj L ws) most).length c' (aj (fk l (dj L ws) most))]:=by
 have S0:=lh ((((Ic.start w).al #[.int .i64 3,.int .i64 f,.int .i64 t,.slice pw nw cw,.int .i64 rad,.int .i64 most] 24 w.heap.size rfl).al #[.slice pm nm cm] 83 (w.heap.size+1) (by simp)).al #[.bool false,.int .i64 0,.slice none 0 0] 34 (w.heap.size+1+1) (by simp))
 have HH:=lh (fun W (h:Ext w W)=>Fq 3 f t pw nw cw ws rad most pp np cp hs L p n c l W (hL.ext h) hok (hw.ext h) hcw hnw (hl.ext h) hn)
 clear hL hok hw hl
 generalize fk l (dj L ws) most=F at *
 subst hm
 go_enter func95,ntmps95
 go_wp2_with (go_at_call 155;go_must (refine(HH.out _ S0.out.ext).mono ?_;rintro e w1 ⟨q,d,rfl,Z⟩;have S1:=lh (S0.out.comp Z);clear Z;obtain⟨b0,b1,b2,bz,f0,f1,f2⟩:=ag (S1.out.blk 1 rfl)))
 have S9:=lh (((S1.out.set 1 rfl 0 (.bool (decide (0<F.length)))).set 1 rfl 1 (.int .i64 0)).set 1 rfl 2 (.slice q F.length d))
 obtain⟨x0,x1,x2⟩:=aw (S9.out.blk 1 rfl)
 exact bodyPost_ret (v:=.tuple #[.agg #[.bool (decide (0<F.length)),.int .i64 0,.slice q F.length d],.bool true]) (by simp [results,results95,go_sem,x0,x1,x2,sizeOf34,isAgg34]) rfl ⟨q,d,rfl,S9.out.pick [0] (by decide) rfl⟩
theorem Ed (f t:Int) (pw:Option Addr) (nw cw:Nat) (rad most:Int) (pp:Option Addr) (np cp:Nat) (p:Option Addr) (n c:Nat) (pm:Option Addr) (nm cm:Nat) (w:World) (hm:0<nm) :
  Calls prog 95 #[.agg #[.int .i64 3,.int .i64 f,.int .i64 t,.slice pw nw cw,.int .i64 rad,.int .i64 most],.slice pp np cp,.slice p n c,.slice pm nm cm] w fun e w'=>e=.returned (.tuple #[.agg #[.bool false,.int .i64 0,.slice none 0 0],.bool false])/\Ext w w':=by
 have S0:=lh ((((Ic.start w).al #[.int .i64 3,.int .i64 f,.int .i64 t,.slice pw nw cw,.int .i64 rad,.int .i64 most] 24 w.heap.size rfl).al #[.slice pm nm cm] 83 (w.heap.size+1) (by simp)).al #[.bool false,.int .i64 0,.slice none 0 0] 34 (w.heap.size+1+1) (by simp))
 have e1:decide ((0:Int)<(nm:Int))=true:=by simp;omega
 go_enter func95,ntmps95
 go_wp2
 have S9:=lh (((S0.out.set 0 rfl 0 (.bool false)).set 0 rfl 1 (.int .i64 0)).set 0 rfl 2 (.slice none 0 0))
 exact bodyPost_ret (v:=.tuple #[.agg #[.bool false,.int .i64 0,.slice none 0 0],.bool false]) (by simp [results,results95,go_sem,sizeOf34,isAgg34]) rfl ⟨rfl,S0.out.ext⟩
def iY (l:List Sq) (i j:Nat) (s:Int):Prop:=(ae l i).r=0/\(ae l j).r=1/\(ae l i).v=(ae l j).v/\(ae l i).d+(ae l j).d=s
def ml (l:List Sq) (P:Nat->Nat->Prop) (b:Bool) (d:Int):Prop :=
 (b=false->d=0/\∀ i j s,P i j->¬ iY l i j s)/\(b=true->(∃ i j,i<l.length/\j<l.length/\iY l i j d)/\∀ i j s,P i j->iY l i j s->d<=s)
theorem ul {l:List Sq} {P Q:Nat->Nat->Prop} {b:Bool} {d:Int} (h:ml l P b d) (hq:∀ i j,Q i j->P i j):ml l Q b d :=
 ⟨fun hb=>⟨(h.1 hb).1,fun i j s hp=>(h.1 hb).2 i j s (hq i j hp)⟩,fun hb=>⟨(h.2 hb).1,fun i j s hp=>(h.2 hb).2 i j s (hq i j hp)⟩⟩
theorem zn {l:List Sq} {P Q:Nat->Nat->Prop} {b:Bool} {d:Int} {i k:Nat} (h:ml l P b d) (hq:∀ a c,Q a c->(a=i/\c=k)\/P a c) (hs:∀ s,iY l i k s->b=true/\d<=s):ml l Q b d:=by
 refine⟨fun hb=>⟨(h.1 hb).1,fun a c s hp JS=>?_⟩,fun hb=>⟨(h.2 hb).1,fun a c s hp JS=>?_⟩⟩
 ·rcases hq a c hp with ⟨rfl,rfl⟩ | h2
  ·rw [(hs s JS).1] at hb;cases hb
  ·exact(h.1 hb).2 a c s h2 JS
 ·rcases hq a c hp with ⟨rfl,rfl⟩ | h2
  ·exact(hs s JS).2
  ·exact(h.2 hb).2 a c s h2 JS
theorem BU {l:List Sq} {P Q:Nat->Nat->Prop} {b:Bool} {d s:Int} {i k:Nat} (h:ml l P b d) (hi:i<l.length) (hk:k<l.length) (hq:∀ a c,Q a c->(a=i/\c=k)\/P a c) (hs:iY l i k s) (hd:b=true->s<=d):ml l Q true s:=by
 refine⟨fun hb=>(by cases hb),fun _=>⟨⟨i,k,hi,hk,hs⟩,fun a c s' hp JS=>?_⟩⟩
 rcases hq a c hp with ⟨rfl,rfl⟩ | h2
 ·have h1:=hs.2.2.2
  have h3:=JS.2.2.2
  omega
 ·cases b with
  | false=>exact absurd JS ((h.1 rfl).2 a c s' h2)
  | true=>have:=(h.2 rfl).2 a c s' h2 JS;have:=hd rfl;omega
theorem BT {l:List Sq} {b:Bool} {d:Int} (h:ml l (fun a c=>a<l.length/\c<l.length) b d):iP l b d:=by
 have key:∀ s,nk l s->∃ i j,(i<l.length/\j<l.length)/\iY l i j s:=by
  rintro s ⟨x,hx,y,hy,h1,h2,h3,h4⟩
  obtain⟨i,hi,rfl⟩:=List.mem_iff_getElem.1 hx
  obtain⟨j,hj,rfl⟩:=List.mem_iff_getElem.1 hy
  refine⟨i,j,⟨hi,hj⟩,?_⟩
  unfold iY
  rw [ar hi,ar hj]
  exact⟨h1,h2,h3,h4⟩
 refine⟨fun hb=>⟨(h.1 hb).1,fun s hs=>?_⟩,fun hb=>⟨?_,fun s hs=>?_⟩⟩
 ·obtain⟨i,j,hp,JS⟩:=key s hs
  exact(h.1 hb).2 i j s hp JS
 ·obtain⟨i,j,hi,hj,h1,h2,h3,h4⟩:=(h.2 hb).1
  rw [ar hi] at h1 h3 h4
  rw [ar hj] at h2 h3 h4
  exact⟨l[i],List.getElem_mem _,l[j],List.getElem_mem _,h1,h2,h3,h4⟩
 ·obtain⟨i,j,hp,JS⟩:=key s hs
  exact(h.2 hb).2 i j s hp JS
section
open Go Go.RowKit
def vM (st:List Sq):Bool:=st.any fun x=>st.any fun y=>x.r == 0 && (y.r == 1 && x.v == y.v)
theorem yR {st:List Sq} {b:Bool} {d:Int} (h:iP st b d):b=vM st:=by
 have hm:vM st=true↔∃ z,nk st z:=by
  unfold vM
  rw [List.any_eq_true]
  constructor
  ·rintro⟨x,hx,h2⟩
   rw [List.any_eq_true] at h2
   obtain⟨y,hy,h3⟩:=h2
   simp only [Bool.and_eq_true,beq_iff_eq] at h3
   exact⟨x.d+y.d,x,hx,y,hy,h3.1,h3.2.1,h3.2.2,rfl⟩
  ·rintro⟨z,x,hx,y,hy,h1,h2,h3,_⟩
   refine⟨x,hx,List.any_eq_true.2 ⟨y,hy,?_⟩⟩
   simp only [Bool.and_eq_true,beq_iff_eq]
   exact⟨h1,h2,h3⟩
 cases b with
 | false =>
  cases hb:vM st with
  | false=>rfl
  | true =>
   obtain⟨z,hz⟩:=hm.1 hb
   exact absurd hz ((h.1 rfl).2 z)
 | true=>exact(hm.2 ⟨d,(h.2 rfl).1⟩).symm
def bt (k t:Int) (p:List Sq × List Sq):Bool:=if k=1 then vM p.1 || !fg p.2 0 || !fg p.2 1 else if k=2 then Ar p.1 t || decide (p.2.length=0) else decide (p.2.length=0)
theorem vw {M:List Sq} {r:Int}:fg M r=true↔∃ x∈M,x.r=r:=by
 unfold fg
 rw [List.any_eq_true]
 constructor
 ·rintro⟨x,h1,h2⟩;exact⟨x,h1,by simpa using h2⟩
 ·rintro⟨x,h1,h2⟩;exact⟨x,h1,by simpa using h2⟩
theorem mZ {M:List Sq} {r:Int}:fg M r=false↔¬ ∃ x∈M,x.r=r:=by rw [<- vw,Bool.not_eq_true]
section
variable {k rad most:Int} {O T R V:List Int} {n s t:Nat} (hck:ai O T R V=true) (hn:O.length=n+1) (Iu:n<=200) (hk:k=1\/k=2\/k=3) (hr3:k=3->0<=rad) (hs:s<n) (ht:k=1->t<n)
include hck hn Iu hk hr3 hs ht
theorem rh (m:Nat):p8 (ic 0 O T R V) n s 0 (kQ k rad n) m (bR (aG k rad true O T R V) (aL k s t 0) (m+1)).1 /\
  ∀ x,x.r=0->(x∈(bR (aG k rad true O T R V) (aL k s t 0) (m+1)).2↔∃ v:Nat,v<n/\ay (ic 0 O T R V) n s v=(m+1:Nat)/\((m+1:Nat):Int)<=kQ k rad n/\x=⟨0,0,v,(m+1:Nat)⟩):=by
 obtain⟨f1,f2,f3,f4,f5⟩:=fc (rad:=rad) (most:=rad) hk hs ht rfl rfl
 have hl:gX n (aG k rad true O T R V):=dX hck hn
 have:=wX hs (rO hck hn 0) (Or.inl rfl) (lim:=kQ k rad n) (by unfold kQ;split;exact hr3 (by assumption);omega) (fun x a b c d=>qP hck hn Iu (Or.inl rfl) x a b c d) hl f1 f2 f3 (m+1)
 exact⟨this.2,this.1⟩
theorem ri (h1:k=1) (m:Nat):p8 (ic 1 O T R V) n t 1 (kQ k rad n) m (bR (aG k rad true O T R V) (aL k s t 0) (m+1)).1 /\
  ∀ x,x.r=1->(x∈(bR (aG k rad true O T R V) (aL k s t 0) (m+1)).2↔∃ v:Nat,v<n/\ay (ic 1 O T R V) n t v=(m+1:Nat)/\((m+1:Nat):Int)<=kQ k rad n/\x=⟨0,1,v,(m+1:Nat)⟩):=by
 obtain⟨f1,f2,f3,f4,f5⟩:=fc (rad:=rad) (most:=rad) hk hs ht rfl rfl
 have hl:gX n (aG k rad true O T R V):=dX hck hn
 have:=wX (ht h1) (rO hck hn 1) (Or.inr rfl) (lim:=kQ k rad n) (by unfold kQ;split;exact hr3 (by assumption);omega) (fun x a b c d=>qP hck hn Iu (Or.inr rfl) x a b c d) hl f1 f2 (f4 h1) (m+1)
 exact⟨this.2,this.1⟩
omit hr3 in
theorem uj:∃ m,m<n/\bt k t (bR (aG k rad true O T R V) (aL k s t 0) (m+1))=true/\∀ j,j<m->bt k t (bR (aG k rad true O T R V) (aL k s t 0) (j+1))=false:=by
 obtain⟨f1,f2,f3,f4,f5⟩:=fc (rad:=rad) (most:=rad) hk hs ht rfl rfl
 have hl:gX n (aG k rad true O T R V):=dX hck hn
 have hno:∀ r,fg (bR (aG k rad true O T R V) (aL k s t 0) (n - 1+1)).2 r=false:=fun r=>by
  rw [mZ]
  intro h
  have:=BS hl f1 f2 r _ h
  omega
 have hd:bt k t (bR (aG k rad true O T R V) (aL k s t 0) (n - 1+1))=true:=by
  have he:k≠1->(bR (aG k rad true O T R V) (aL k s t 0) (n - 1+1)).2.length=0:=fun h=>by
   refine List.length_eq_zero_iff.2 (List.eq_nil_iff_forall_not_mem.2 fun x hx=>?_)
   exact mZ.1 (hno 0) ⟨x,hx,wZ hck hn f1 f2 (f5 h) _ x hx⟩
  unfold bt
  split
  ·rw [hno 0];simp
  ·rename_i h1
   split
   ·rw [he h1];simp
   ·rw [he h1];rfl
 obtain⟨m,h1,h2,h3⟩:=lX (p:=fun j=>bt k t (bR (aG k rad true O T R V) (aL k s t 0) (j+1))) (n - 1) hd
 exact⟨m,by omega,h2,h3⟩
theorem wy (h1:k=1) {m:Nat} (hd:bt k t (bR (aG k rad true O T R V) (aL k s t 0) (m+1))=true) (hf:∀ j,j<m->bt k t (bR (aG k rad true O T R V) (aL k s t 0) (j+1))=false) {b:Bool} {d:Int}
  (hA:iP (bR (aG k rad true O T R V) (aL k s t 0) (m+1)).1 b d):b=ei (ay (aD O T) n s t)/\d=ey (ay (aD O T) n s t):=by
 have ht1:=ht h1
 have hlim:(n:Int)<=kQ k rad n:=by unfold kQ;rw [if_neg (by omega)];omega
 have hrev:Ab (ic 0 O T R V) (ic 1 O T R V) n:=by
  have:=rY hck false
  rw [hn] at this
  exact this
 obtain⟨a1,a2⟩:=rh hck hn Iu hk hr3 hs ht m
 obtain⟨b1,b2⟩:=ri hck hn Iu hk hr3 hs ht h1 m
 have NI:∀ j,vM (bR (aG k rad true O T R V) (aL k s t 0) (j+1)).1=eW n (ay (ic 0 O T R V) n s) (ay (ic 1 O T R V) n t) j:=fun j=>by
  have p:=rp hlim hs ht1 (rh hck hn Iu hk hr3 hs ht j).1 (ri hck hn Iu hk hr3 hs ht h1 j).1
  rw [Bool.eq_iff_iff,fL]
  unfold vM
  rw [List.any_eq_true]
  constructor
  ·rintro⟨x,hx,h2⟩
   rw [List.any_eq_true] at h2
   obtain⟨y,hy,h3⟩:=h2
   simp only [Bool.and_eq_true,beq_iff_eq] at h3
   obtain⟨v,c1,c2,c3,c4,c5,_⟩:=(p _).1 ⟨x,hx,y,hy,h3.1,h3.2.1,h3.2.2,rfl⟩
   exact⟨v,c1,c2,c3,c4,c5⟩
  ·rintro⟨v,c1,c2,c3,c4,c5⟩
   obtain⟨x,hx,y,hy,g1,g2,g3,_⟩:=(p _).2 ⟨v,c1,c2,c3,c4,c5,rfl⟩
   refine⟨x,hx,List.any_eq_true.2 ⟨y,hy,?_⟩⟩
   simp only [Bool.and_eq_true,beq_iff_eq]
   exact⟨g1,g2,g3⟩
 obtain⟨e1,e2,e3⟩:=CX hlim hrev hs ht1 a1 b1 hA
 show b=ei (ay (ic 0 O T R V) n s t)/\d=ey (ay (ic 0 O T R V) n s t)
 cases b with
 | true =>
  have hfm:∀ j:Nat,j<m->eW n (ay (ic 0 O T R V) n s) (ay (ic 1 O T R V) n t) j=false:=fun j hj=>by
   have:=hf j hj
   unfold bt at this
   rw [if_pos h1,Bool.or_eq_false_iff,Bool.or_eq_false_iff] at this
   rw [<- NI j];exact this.1.1
  obtain⟨g1,g2⟩:=e2 rfl hfm
  unfold ei ey
  rw [if_pos g1,decide_eq_true g1]
  exact⟨rfl,g2⟩
 | false =>
  have hno:ay (ic 0 O T R V) n s t<0:=by
   refine AR hrev hs ht1 (m:=m) e1.symm ?_
   unfold bt at hd
   rw [if_pos h1,NI m,<- e1,Bool.false_or,Bool.or_eq_true,Bool.not_eq_true',Bool.not_eq_true'] at hd
   have l1:∀ v,v<n->ay (ic 0 O T R V) n s v<n:=fun v hv=>km hs hv
   have l2:∀ v,v<n->ay (ic 1 O T R V) n t v<n:=fun v hv=>km ht1 hv
   rcases hd with hd | hd
   ·left
    rw [Bool.eq_false_iff]
    intro h
    obtain⟨v,c1,c2⟩:=dt.1 h
    refine mZ.1 hd ⟨⟨0,0,v,(m+1:Nat)⟩,(a2 _ rfl).2 ⟨v,c1,c2,?_,rfl⟩,rfl⟩
    have:=l1 v c1;omega
   ·right
    rw [Bool.eq_false_iff]
    intro h
    obtain⟨v,c1,c2⟩:=dt.1 h
    refine mZ.1 hd ⟨⟨0,1,v,(m+1:Nat)⟩,(b2 _ rfl).2 ⟨v,c1,c2,?_,rfl⟩,rfl⟩
    have:=l2 v c1;omega
  unfold ei ey
  rw [if_neg (by omega),decide_eq_false (by omega)]
  exact⟨rfl,e3 rfl⟩
end
end
def zM (b:Bool) (d:Int) (F:List (Int × Int)) (dn:Bool) (w:World) (e:Ending) (w':World):Prop:=∃ q c',e=.returned (.tuple #[.agg #[.bool b,.int .i64 d,.slice q F.length c'],.bool dn])/\Ic w w' [.own 105 2 q F.length c' (aj F)]
theorem lN {b:Bool} {d:Int} {dn:Bool} {w w':World} {e:Ending} (h:e=.returned (.tuple #[.agg #[.bool b,.int .i64 d,.slice none 0 0],.bool dn])) (hE:Ext w w'):zM b d [] dn w e w':=⟨none,0,h,((Ic.start w).call hE).nilrow _ _⟩
theorem C4 (l:List Sq):∃ b d,iP l b d:=by
 have key:∀ m:Nat,∃ b d,ml l (fun a c=>a*l.length+c<m/\a<l.length/\c<l.length) b d:=by
  intro m
  induction m with
  | zero=>exact⟨false,0,fun _=>⟨rfl,fun i j s h=>by omega⟩,fun h=>by cases h⟩
  | succ m ih =>
   obtain⟨b,d,h⟩:=ih
   by_cases hn:l.length=0
   ·exact⟨b,d,ul h fun a c h2=>by omega⟩
   ·have hq:∀ a c,(a*l.length+c<m+1/\a<l.length/\c<l.length)->(a=m / l.length/\c=m % l.length)\/(a*l.length+c<m/\a<l.length/\c<l.length):=by
     intro a c h2
     by_cases he:a*l.length+c=m
     ·left
      subst he
      have hpos:0<l.length:=by omega
      refine⟨?_,?_⟩
      ·rw [Nat.mul_comm,Nat.mul_add_div hpos,Nat.div_eq_of_lt h2.2.2];rfl
      ·rw [Nat.mul_comm,Nat.mul_add_mod,Nat.mod_eq_of_lt h2.2.2]
     ·right;omega
    by_cases JS:∃ s,iY l (m / l.length) (m % l.length) s/\m / l.length<l.length
    ·obtain⟨s,hs,hlt⟩:=JS
     have hmod:m % l.length<l.length:=Nat.mod_lt _ (by omega)
     by_cases hd:b=true->s<=d
     ·exact⟨true,s,BU h hlt hmod hq hs hd⟩
     ·refine⟨b,d,zn h hq fun s' hs'=>?_⟩
      have hb:b=true:=by
       cases b with
       | true=>rfl
       | false=>exact absurd (fun e=>by cases e) hd
      have h1:=hs.2.2.2
      have h2:=hs'.2.2.2
      refine⟨hb,?_⟩
      have:¬ s<=d:=fun h3=>hd fun _=>h3
      omega
    ·have hq2:∀ a c,(a*l.length+c<m+1/\a<l.length/\c<l.length)->((a*l.length+c<m/\a<l.length/\c<l.length)\/(a=m / l.length/\c=m % l.length/\a<l.length)):=fun a c h2=>by
      rcases hq a c h2 with ⟨h3,h4⟩ | h3
      ·exact .inr ⟨h3,h4,h2.2.1⟩
      ·exact .inl h3
     refine⟨b,d,⟨fun hb=>⟨(h.1 hb).1,fun a c s hp hps=>?_⟩,fun hb=>⟨(h.2 hb).1,fun a c s hp hps=>?_⟩⟩⟩
     ·rcases hq2 a c hp with h3 | ⟨rfl,rfl,h5⟩
      ·exact(h.1 hb).2 a c s h3 hps
      ·exact JS ⟨s,hps,h5⟩
     ·rcases hq2 a c hp with h3 | ⟨rfl,rfl,h5⟩
      ·exact(h.2 hb).2 a c s h3 hps
      ·exact absurd ⟨s,hps,h5⟩ JS
 obtain⟨b,d,h⟩:=key (l.length*l.length)
 refine⟨b,d,BT (ul h fun a c h2=>⟨?_,h2⟩)⟩
 have h3:a*l.length+l.length<=l.length*l.length:=by
  rw [<- Nat.succ_mul];exact Nat.mul_le_mul_right _ h2.1
 omega
def uy (k t:Int) (L:List Po) (ws:List ByteArray) (most:Int) (p:List Sq × List Sq) (b:Bool) (d:Int) (F:List (Int × Int)):Prop :=
 (k=1->iP p.1 b d/\F=[])/\(k=2->b=Ar p.1 t/\d=0/\F=[])/\(k=3->p.2.length=0->F=fk p.1 (dj L ws) most/\b=decide (0<F.length)/\d=0)
theorem xx (k f t:Int) (pw:Option Addr) (nw cw:Nat) (ws:List ByteArray) (rad most:Int) (pp:Option Addr) (np cp:Nat) (hs:List Hd) (L:List Po) (p:Option Addr) (n c:Nat) (l:List Sq) (pm:Option Addr) (nm cm:Nat) (M:List Sq) (hk:k=1\/k=2\/k=3) (ht:Ii t) (hcw:nw<=cw) (hnw:nw<=100) (hok:Io L) (hi:∀ x∈l,x.I) (hb:∀ x∈l,-1000000<=x.d/\x.d<=1000000) (hn:n<=1000) :
  ∃ b d F,uy k t L ws most (l,M) b d F/\∀ w,IW w pp np hs L->Rd w 1 pw nw (bg ws)->Rd w 4 p n (au l)->Rd w 4 pm nm (au M) ->
   Calls prog 95 #[.agg #[.int .i64 k,.int .i64 f,.int .i64 t,.slice pw nw cw,.int .i64 rad,.int .i64 most],.slice pp np cp,.slice p n c,.slice pm nm cm] w (zM b d F (bt k t (l,M)) w):=by
 have hi2:∀ x∈l,Ii x.v/\Ii x.d:=fun x hx=>⟨(hi x hx).2.2.1,(hi x hx).2.2.2⟩
 rcases hk with rfl | rfl | rfl
 ·obtain⟨b,d,hA⟩:=C4 l
  have hdn:bt 1 t (l,M)=(b || !fg M 0 || !fg M 1):=by unfold bt;rw [if_pos rfl,<- yR hA]
  refine⟨b,d,[],⟨fun _=>⟨hA,rfl⟩,fun h=>absurd h (by decide),fun h=>absurd h (by decide)⟩,fun w hL hw hl hM=>?_⟩
  rw [hdn]
  refine(Fm f t pw nw cw rad most pp np cp p n c l pm nm cm M w hl hM hi2 hb (by omega)).mono ?_
  rintro e w' ⟨b',d',rfl,hE,hA'⟩
  obtain⟨rfl,rfl⟩:=vJ hA' hA
  exact lN rfl hE
 ·refine⟨Ar l t,0,[],⟨fun h=>absurd h (by decide),fun _=>⟨rfl,rfl,rfl⟩,fun h=>absurd h (by decide)⟩,fun w hL hw hl hM=>?_⟩
  have hdn:bt 2 t (l,M)=(Ar l t || decide (nm=0)):=by unfold bt;rw [if_neg (by decide),if_pos rfl,hM.nQ]
  rw [hdn]
  exact(Fo f t pw nw cw rad most pp np cp p n c l pm nm cm w hl hi2 (by omega) ht).mono fun e w' ⟨h,hE⟩=>lN h hE
 ·by_cases h0:M.length=0
  ·refine⟨decide (0<(fk l (dj L ws) most).length),0,fk l (dj L ws) most,⟨fun h=>absurd h (by decide),fun h=>absurd h (by decide),fun _ _=>⟨rfl,rfl,rfl⟩⟩,fun w hL hw hl hM=>?_⟩
   have hm:=hM.nQ
   have hdn:bt 3 t (l,M)=true:=by unfold bt;rw [if_neg (by decide),if_neg (by decide)];exact decide_eq_true h0
   rw [hdn]
   exact(Fp f t pw nw cw ws rad most pp np cp hs L p n c l pm nm cm w hL hok hw hcw hnw hl hn (by omega)).mono fun e w' h=>h
  ·refine⟨false,0,[],⟨fun h=>absurd h (by decide),fun h=>absurd h (by decide),fun _ h=>absurd h h0⟩,fun w hL hw hl hM=>?_⟩
   have hm:=hM.nQ
   have hdn:bt 3 t (l,M)=false:=by unfold bt;rw [if_neg (by decide),if_neg (by decide)];exact decide_eq_false h0
   rw [hdn]
   exact(Ed f t pw nw cw rad most pp np cp p n c pm nm cm w (by omega)).mono fun e w' ⟨h,hE⟩=>lN h hE
section
open Go
section
variable {F:Fence} {n:Nat} {P:Program} {ops:Array Oper} {Q:Exit->Act->World->Prop} {md:Region.Mode} {S:World->Prop}
def Iw (P:Program) (ops:Array Oper) (S:World->Prop) (o:Oper) (v:Value) (a:Act):Prop:=YieldsIf P ops S o v a/\∀ w,S w->o.about P w a.eval=none
theorem Iw.same {o:Oper} {v:Value} {a a':Act} (hy:Iw P ops S o v a) (he:execOp a'.eval o=execOp a.eval o)
  (hw:Region.wanted o (yielded ops a'.tmps)=Region.wanted o (yielded ops a.tmps)) (hb:∀ w,o.about P w a'.eval=o.about P w a.eval):Iw P ops S o v a' :=
 ⟨hy.1.of_same he hw,fun w hS=>(hb w).trans (hy.2 w hS)⟩
theorem Iw.step {i:Nat} {o:Oper} {v:Value} {a:Act} (hro:F.round=none) (hi:ops[i]?=some o) (hy:Iw P ops S o v a)
  {K:Act->World->Prop} {w:World} (hS:S w) (h:K (a.put o.dst v) w):wpOpIn F n P ops Q i K a w:=by
 have hab:∀ f,o.about P w a.eval=some f->F.fn f:=fun f hf=>nomatch (hy.2 w hS).symm.trans hf
 unfold wpOpIn
 simp only [hi]
 rcases hy.1 with ⟨hw,hv⟩ | ⟨hw,rfl⟩
 ·simp only [hw,if_true,Oper.wpIn,hro,Oper.semAt_none,hv w hS,Oper.uponIn];exact⟨hab,h⟩
 ·simp only [hw,Bool.false_eq_true,if_false];exact⟨hab,h⟩
theorem Iw.swap {j:Nat} {oi oj:Oper} {v:Value} (hro:F.round=none) (hj:ops[j]?=some oj) (hap:oi.apart ops oj=true)
  (hsi:∀ cs b,oi.op≠.select cs b) (hsj:∀ cs b,oj.op≠.select cs b)
  (hQ:∀ c a w,Q (.panic c) (a.put oi.dst v) w->Q (.panic c) a w) {K:Act->World->Prop} {a:Act} {w:World}
  (hy:Iw P ops S oi v a) (h:wpOpIn F n P ops Q j K (a.put oi.dst v) w) :
  wpOpIn F n P ops Q j (fun a' w'=>Iw P ops S oi v a'/\K (a'.put oi.dst v) w') a w:=by
 obtain⟨h1,h2,h3⟩:=Oper.apart_spec hap
 have hput:∀ u,Iw P ops S oi v (a.put oj.dst u):=fun u =>
  hy.same (execOp_put oi hsi a oj.dst u h3) (wanted_put oi a oj.dst u h3) (fun w=>about_put oi w a oj.dst u h3)
 have hcom:∀ u,(a.put oj.dst u).put oi.dst v=(a.put oi.dst v).put oj.dst u:=fun u=>(Act.put_comm a v u h2).symm
 unfold wpOpIn at *
 simp only [hj] at *
 rw [wanted_put oj a oi.dst v h1,about_put oj w a oi.dst v h1] at h
 split
 next hw =>
  simp only [hw,if_true] at h
  unfold Oper.wpIn at *
  rw [about_put oj w a oi.dst v h1,hro,Oper.semAt_none,execOp_put oj hsj a oi.dst v h1] at h
  rw [hro,Oper.semAt_none]
  obtain⟨hf,h⟩:=h
  refine⟨hf,?_⟩
  generalize (execOp a.eval oj).run P w=r at *
  cases r with
  | ok x w' =>
   cases x <;> simp only [Oper.uponIn] at h ⊢
   case value u=>exact⟨hput u,by rw [hcom];exact h⟩
   case skip=>exact⟨hput _,by rw [hcom];exact h⟩
   case defer d =>
    refine⟨?_,?_⟩
    ·exact hy.same (a':=Act.put { a with defers:=d :: a.defers } oj.dst undef)
      ((execOp_put oi hsi { a with defers:=d :: a.defers } oj.dst undef h3).trans rfl) ((wanted_put oi { a with defers:=d :: a.defers } oj.dst undef h3).trans rfl)
      (fun w=>(about_put oi w { a with defers:=d :: a.defers } oj.dst undef h3).trans rfl)
    ·rw [<- Act.put_comm _ v undef h2,<- Act.put_defers];exact h
   case enter f args =>
    refine⟨h.1,CallsIn.mono h.2 fun e w'' he=>?_⟩
    cases e with
    | returned u=>exact⟨hput u,by rw [hcom];exact he⟩
    | panicked c=>exact hQ _ _ _ he
    | outgrown=>exact he
   case row row args=>exact⟨h.1,RowsIn.mono h.2 fun u w'' he=>⟨hput u,by rw [hcom];exact he⟩⟩
   case round l f tmps assign body =>
    refine⟨h.1,RoundIn.mono h.2 fun e w'' he=>?_⟩
    cases e with
    | returned u=>exact⟨hput u,by rw [hcom];exact he⟩
    | panicked c=>exact hQ _ _ _ he
    | outgrown=>exact he
  | halt x w' =>
   cases x <;> simp only [Oper.uponIn] at h ⊢
   case panic u=>exact hQ _ _ _ h
 next hw =>
  simp only [hw] at h
  exact⟨h.1,hput _,by rw [hcom];exact h.2⟩
def ex (F:Fence) (n:Nat) (P:Program) (md:Region.Mode) (ops:Array Oper) (Q:Exit->Act->World->Prop) (S:World->Prop) (y:Nat):Nat->Array Bool->Act->World->Prop
 | 0,listed,a,w=>Region.ready md ops listed=[]/\Q .normal a w
 | fuel+1,listed,a,w =>
  (Region.ready md ops listed=[]->Q .normal a w) /\
  ∀ i∈Region.ready md ops listed,wpOpIn F n P ops Q i (fun a' w'=>(i=y->wpAnyIn F n P md ops Q fuel (listed.setIfInBounds i true) a' w')/\(i≠y->S w'/\ex F n P md ops Q S y fuel (listed.setIfInBounds i true) a' w')) a w
theorem eK {y:Nat}:∀ (fuel:Nat) (listed:Array Bool) (a:Act) (w:World),ex F n P md ops Q S y fuel listed a w->wpAnyIn F n P md ops Q fuel listed a w
 | 0,_,_,_,h=>h
 | fuel+1,_,_,_,h=>⟨h.1,fun i hi=>wpOpIn_mono (fun a' w' h'=>(by
   by_cases e:i=y
   ·exact h'.1 e
   ·exact eK fuel _ a' w' (h'.2 e).2)) (h.2 i hi)⟩
def DG (md:Region.Mode) (ops:Array Oper) (i:Nat) (D:List Nat):Bool :=
 D.all fun j=>match ops[j]? with
  | none=>false
  | some o=>o.after.any fun e=>Region.binds md e && (e.on == i || D.contains e.on)
theorem mh {listed:Array Bool} {j k:Nat} {oj:Oper} (hoj:ops[j]?=some oj) (hj:j∈Region.ready md ops listed) (hk:listed.getD k true=false) {e:Edge} (he:e∈oj.after) (hb:Region.binds md e=true) (hon:e.on=k):False:=by
 obtain⟨_,oj',MO,hall⟩:=mem_ready.1 hj
 rw [hoj] at MO
 injection MO with MO
 subst MO
 have h1:=hall e he hb
 rw [hon] at h1
 rcases Nat.lt_or_ge k listed.size with h' | h'
 ·simp [h'] at hk h1;rw [hk] at h1;cases h1
 ·simp [Array.getElem?_eq_none h'] at h1
theorem pV {i y:Nat} {oi:Oper} {v:Value} {D:List Nat} (hro:F.round=none) (hi:ops[i]?=some oi) (hsel:∀ (j:Nat) (o:Oper) cs b,ops[j]?=some o->o.op≠.select cs b)
  (hQ:∀ c a w,Q (.panic c) (a.put oi.dst v) w->Q (.panic c) a w) (hD:DG md ops i D=true) (YM:y∈D) (WE:i≠y) :
  ∀ (fuel:Nat) (listed:Array Bool) (a:Act) (w:World),
   (∀ j oj,ops[j]?=some oj->j≠i->listed.getD j true=false->(∀ e∈oj.after,Region.binds md e=true->e.on≠i)->oi.apart ops oj=true) ->
   i∈Region.ready md ops listed->(∀ d∈D,listed.getD d true=false)->Iw P ops S oi v a->S w ->
   ex F n P md ops Q S y fuel (listed.setIfInBounds i true) (a.put oi.dst v) w->ex F n P md ops Q S y (fuel+1) listed a w:=by
 have Yw:∀ (listed:Array Bool) (j:Nat),i∈Region.ready md ops listed->(∀ d∈D,listed.getD d true=false)->j∈Region.ready md ops listed->j ∉ D:=fun listed j hr hun hj Q6=>by
  have h0:=(mem_ready.1 hr).1
  obtain⟨_,oj,hoj,_⟩:=mem_ready.1 hj
  have h1:=List.all_eq_true.1 hD j Q6
  rw [hoj] at h1
  simp only [Array.any_eq_true',Bool.and_eq_true,Bool.or_eq_true,beq_iff_eq,List.contains_iff_mem] at h1
  obtain⟨e,he,hb,h2 | h2⟩:=h1
  ·exact mh hoj hj h0 he hb h2
  ·exact mh hoj hj (hun _ h2) he hb rfl
 intro fuel
 induction fuel with
 | zero =>
  intro listed a w _ hr hun hy hS H
  refine⟨fun h=>(by rw [h] at hr;cases hr),fun j hj=>?_⟩
  by_cases hji:j=i
  ·subst hji;exact hy.step hro hi hS ⟨fun e=>absurd e WE,fun _=>⟨hS,H⟩⟩
  ·have:=ready_mono hj hji
   rw [H.1] at this
   cases this
 | succ fuel ih =>
  intro listed a w hfree hr hun hy hS H
  refine⟨fun h=>(by rw [h] at hr;cases hr),fun j hj=>?_⟩
  by_cases hji:j=i
  ·subst hji;exact hy.step hro hi hS ⟨fun e=>absurd e WE,fun _=>⟨hS,H⟩⟩
  obtain⟨hjun,oj,hoj,hall⟩:=mem_ready.1 hj
  have Q6:=Yw listed j hr hun hj
  have Q7:j≠y:=fun e=>Q6 (e ▸ YM)
  have hnot:∀ e∈oj.after,Region.binds md e=true->e.on≠i:=fun e he hb heq=>mh hoj hj (mem_ready.1 hr).1 he hb heq
  refine wpOpIn_mono (fun a' w' h3=>⟨fun e=>absurd e Q7,fun _=>⟨(h3.2.2 Q7).1,ih (listed.setIfInBounds j true) a' w' (fun k ok hk hki hun hno=>?_) (ready_mono hr (Ne.symm hji)) (fun d hd=>?_) h3.1 (h3.2.2 Q7).1 ?_⟩⟩)
   (Iw.swap hro hoj (hfree j oj hoj hji hjun hnot) (fun cs b=>hsel i oi cs b hi) (fun cs b=>hsel j oj cs b hoj) hQ hy (H.2 j (ready_mono hj hji)))
  ·refine hfree k ok hk hki ?_ hno
   by_cases hjk:j=k
   ·subst hjk;exact hjun
   ·rw [getD_set_ne true hjk] at hun;exact hun
  ·rw [getD_set_ne true (show ¬ j=d from fun e=>Q6 (by rw [e];exact hd))];exact hun d hd
  ·rw [Array.setIfInBounds_comm _ _ hji]
   exact(h3.2.2 Q7).2
theorem aV {y:Nat} (D:List Nat) {i:Nat} {oi:Oper} {v:Value} {fuel:Nat} {listed:Array Bool} {a:Act} {w:World} (hro:F.round=none) (hi:ops[i]?=some oi)
  (hs:Region.noSelect ops=true) (hf:Region.free md ops listed i=true) (hr:(Region.ready md ops listed).contains i=true)
  (hD:(DG md ops i D && (D.contains y && (i != y && D.all fun d=>listed.getD d true == false)))=true)
  (hQ:∀ c a w,Q (.panic c) (a.put oi.dst v) w->Q (.panic c) a w) (hy:Iw P ops S oi v a) (hS:S w)
  (h:ex F n P md ops Q S y fuel (listed.setIfInBounds i true) (a.put oi.dst v) w):ex F n P md ops Q S y (fuel+1) listed a w:=by
 rw [Bool.and_eq_true,Bool.and_eq_true,Bool.and_eq_true] at hD
 obtain⟨d1,d2,d3,d4⟩:=hD
 exact pV hro hi (Region.noSelect_spec hs) hQ d1 (by simpa using d2) (by simpa using d3) fuel listed a w (Region.free_spec hi hf) (by simpa using hr) (fun d hd=>(by simpa using List.all_eq_true.1 d4 d hd)) hy hS h
theorem jy {y:Nat} {i:Nat} {o:Oper} {fuel:Nat} {listed:Array Bool} {a:Act} {w:World} (hr:Region.ready md ops listed=[i]) (ho:ops[i]?=some o) (hy:i≠y)
  (h:∀ K':Act->World->Prop,(∀ a w,S w->ex F n P md ops Q S y fuel (listed.setIfInBounds i true) a w->K' a w) ->
   if Region.wanted o (yielded ops a.tmps)=true then Oper.wpIn F n P o a w K' Q else (∀ f,o.about P w a.eval=some f->F.fn f)/\K' (a.put o.dst undef) w):ex F n P md ops Q S y (fuel+1) listed a w :=
 ⟨fun h0=>(by rw [hr] at h0;cases h0),fun j hj=>by
  rw [hr] at hj
  obtain rfl:j=i:=by simpa using hj
  exact wpOpIn_step ho fun K' hK'=>h K' fun a w hS hh=>hK' a w ⟨fun e=>absurd e hy,fun _=>⟨hS,hh⟩⟩⟩
theorem lC {y:Nat} {o:Oper} {fuel:Nat} {listed:Array Bool} {a:Act} {w:World} (hr:Region.ready md ops listed=[y]) (ho:ops[y]?=some o)
  (h:∀ K':Act->World->Prop,(∀ a w,wpAnyIn F n P md ops Q fuel (listed.setIfInBounds y true) a w->K' a w) ->
   if Region.wanted o (yielded ops a.tmps)=true then Oper.wpIn F n P o a w K' Q else (∀ f,o.about P w a.eval=some f->F.fn f)/\K' (a.put o.dst undef) w):ex F n P md ops Q S y (fuel+1) listed a w :=
 ⟨fun h0=>(by rw [hr] at h0;cases h0),fun j hj=>by
  rw [hr] at hj
  obtain rfl:j=y:=by simpa using hj
  exact wpOpIn_step ho fun K' hK'=>h K' fun a w hh=>hK' a w ⟨fun _=>hh,fun e=>absurd rfl e⟩⟩
theorem lD (y:Nat) {id:Nat} {a:Act} {w:World} (hm:P.follows .mixedOrders=true) (hS:S w.drew)
  (h:S w.drew->ex F n P .any ops Q S y ops.size (Array.replicate ops.size false) a w.drew):(Code.region id ops true).wpIn F n P Q a w :=
 wpIn_region_any hm (eK _ _ _ _ (h hS))
end
end
section
open Go Go.RowKit
def JH {β:Type} (B:Nat) (X:Nat->Prop) (I:β->World->Prop):Prop :=
 ∀ s W W' row,I s W->W.grownBy W' row->(∀ r,row=some r->(B<=r/\∃ o:Obj,W.heap[r]?=some o/\o.isCells=false)\/X r)->I s W'
theorem JH.putObj {β:Type} {B:Nat} {X:Nat->Prop} {I:β->World->Prop} (h:JH B X I) {s:β} {W:World} {l:Nat} {o:Obj} (o':Obj) (hs:I s W) (hB:B<=l) (hl:W.heap[l]?=some o) (ho:o.isCells=false):I s (W.putObj l o') :=
 h s W _ (some l) hs (grownBy_putObj' W l o') (fun r e=>by cases e;exact .inl ⟨hB,o,hl,ho⟩)
theorem JH.alloc {β:Type} {B:Nat} {X:Nat->Prop} {I:β->World->Prop} (h:JH B X I) {s:β} {W:World} (o:Obj) (hs:I s W):I s (W.alloc o) :=
 h s W _ none hs (World.grownBy_alloc W o none) (fun r e=>by cases e)
def FL {α:Type} (F:Fence) (n:Nat) (P:Program) (g:Nat) (lb:Array Value) (encs:α->Array Value) (X:Nat->Prop) (A:World->List α->α->World->Prop) (Kp:World->World->Prop) (S Sp Q:List α->Prop) (w:World):Prop :=
 ∀ (l:Nat) (J Jx:List α->World->Prop) (W:World),Below w.heap.size w W->JH W.heap.size X J->JH W.heap.size X Jx ->
  (∀ pre V,J pre V->Q pre) ->
  (∀ pre x V0 V,J pre V0->Ext V0 V->A V0 pre x V->YieldAt F (n - 1) P l (encs x) V fun e V' =>
   (e=.returned (.bool true)/\J (pre ++ [x]) V'/\Kp V V')\/(e=.returned (.bool false)/\Jx (pre ++ [x]) V')) ->
  J [] W->CallsIn F n P g (#[.func (.yield l) #[] #[]] ++ lb) W fun e V=>(∃ v,e=.returned v)/\((∃ xs,S xs/\J xs V)\/(∃ pre,Sp pre/\Jx pre V))
section
variable {F:Fence} {n:Nat} {P:Program} {w:World}
theorem jB {α:Type} {g:Operand} {ps:Array Tmp} {assign body:Code} {Q:Exit->Act->World->Prop} {a:Act}
  (hro:F.round=none) (h1:1<=n) {gf:Nat} {lb:Array Value} (hg:a.eval g=.func (.func gf) #[] lb) (hF:F.fn gf) (eg:∀ args w,(callFunc gf args).run P w=.ok (.enter gf args) w)
  {encs:α->Array Value} {X:Nat->Prop} {A:World->List α->α->World->Prop} {Kp:World->World->Prop} {S Sp Q':List α->Prop} {w0:World} (hseq:FL F (n - 1) P gf lb encs X A Kp S Sp Q' w0)
  (hX:∀ k,X k->k<w.heap.size) (hKt:∀ {X Y Z:World},Kp X Y->Kp Y Z->Kp X Z) (hKb:∀ (W:World) (l:Nat) (o o':Obj),w.heap.size<=l->W.heap[l]?=some o->o.isCells=false->o.isWalk=false->Kp W (W.putObj l o')) (hb0:Below w0.heap.size w0 w) (hps:∀ x,(encs x).size=ps.size)
  (I:List α->World->Prop) (Ix:Code->List α->World->Prop) (hI:JH w.heap.size X I) (hIx:∀ c,JH w.heap.size X (Ix c)) (hQ:∀ pre W,I pre W->Q' pre) (h0:I [] w)
  (Ax:List α->α->Act->World->Prop) (hAx:∀ pre x a',JH w.heap.size X (fun (_:Unit) W=>Ax pre x a' W))
  (hassign:∀ (l:Nat) (pre:List α) (x:α) (V0 W:World) (K:Act->World->Prop),I pre V0->Ext V0 W->A V0 pre x W->(∀ a' W',KeepsFrom w.heap.size W W'->Kp W W'->I pre W'->Ax pre x a' W'->K a' W') ->
   assign.wpIn (F.inRound l) (n - 1 - 1) P (Exit.then K (fun _ _ _=>False)) { tmps:=(ps.zip (encs x)).foldl (fun t (p,v)=>t.setIfInBounds p v) a.tmps,defers:=[] } W)
  (hbody:∀ (l:Nat) (pre:List α) (x:α) (a':Act) (W:World),I pre W->Ax pre x a' W->body.wpIn (F.inRound l) (n - 1 - 1) P (ownPostG w.heap.size Kp I Ix (pre ++ [x]) W) a' W)
  (hdone:∀ (D:Nat) (xs:List α) (W:World),w.heap.size<=D->S xs->I xs W->W.heap[D]?=some (.deferred (some []))->Q .normal { a with defers:={ target:=.collected D,args:=#[] } :: a.defers } W)
  (hstop:∀ (D:Nat) (c:Code) (pre:List α) (W:World),w.heap.size<=D->Sp pre->Ix c pre W->W.heap[D]?=some (.deferred (some []))->c.wpIn F n P Q { a with defers:={ target:=.collected D,args:=#[] } :: a.defers } W) :
  (Code.rangeFunc g ps assign body).wpIn F n P Q a w:=by
 refine wpIn_rangeFunc fun fn hfn=>?_
 rw [hro]
 have hB:w.heap.size<=w.heap.size+1:=Nat.le_succ _
 obtain⟨mk,hmk⟩:∃ mk:LoopState->Option Code->Loop,mk=fun st pe=>{ state:=st,pending:=pe,fn,tmps:=a.tmps,params:=ps,assign,body,defers:=w.heap.size }:=⟨_,rfl⟩
 obtain⟨V,hV⟩:∃ V,(w.alloc (.deferred (some []))).alloc (.loop (mk .ready none))=V:=⟨_,rfl⟩
 have NG:V.heap[w.heap.size+1]?=some (.loop (mk .ready none)):=by
  have h:=World.alloc_heap_new (w.alloc (.deferred (some []))) (.loop (mk .ready none))
  rw [World.size_alloc] at h
  rw [<- hV];exact h
 have NF:V.heap[w.heap.size]?=some (.deferred (some [])):=by
  rw [<- hV];exact(Below.heap_alloc _ _ _ (by simp)).trans (World.alloc_heap_new w _)
 have Qh:Below w0.heap.size w0 V:=by
  rw [<- hV];exact hb0.trans ((((Below.refl _ w).alloc (Nat.le_refl _) _).alloc (by simp) _).mono hb0.size)
 have Kl:w.heap.size<=V.heap.size:=by have:=(Array.getElem?_eq_some_iff.1 NF).1;omega
 have Qg:I [] V:=by rw [<- hV];exact(hI.alloc _ (hI.alloc _ h0))
 have lV:w.heap.size+1<V.heap.size:=(Array.getElem?_eq_some_iff.1 NG).1
 have keep:∀ {Y Z:World} {row:Option Nat} {k:Nat} {o:Obj},Y.grownBy Z row->(∀ r,row=some r->(V.heap.size<=r/\∃ o:Obj,Y.heap[r]?=some o/\o.isCells=false)\/X r)->w.heap.size<=k->k<V.heap.size->Y.heap[k]?=some o->Z.heap[k]?=some o:=fun {Y Z row k o} hg hr hk0 hk hY=>(hg.block k (Array.getElem?_eq_some_iff.1 hY).1 (fun e=>by
  rcases hr k e.symm with h | h
  ·have:=h.1;omega
  ·have:=hX k h;omega)).trans hY
 have loose:∀ {Y:World} {row:Option Nat},(∀ r,row=some r->(V.heap.size<=r/\∃ o:Obj,Y.heap[r]?=some o/\o.isCells=false)\/X r)->∀ r,row=some r->(w.heap.size<=r/\∃ o:Obj,Y.heap[r]?=some o/\o.isCells=false)\/X r:=fun hr r e=>(hr r e).imp (fun h=>⟨Nat.le_trans Kl h.1,h.2⟩) id
 refine⟨w.heap.size+1,[{ target:=.collected w.heap.size,args:=#[] }],V,{ target:=.fn (.func gf) lb,args:=#[.func (.yield (w.heap.size+1)) #[] #[]] },V,gf,#[.func (.yield (w.heap.size+1)) #[] #[]] ++ lb,V,?_,?_,?_,?_,fun _=>h1,?_⟩
 ·rw [<- hV,hmk];exact run_enterLoop_outer _ _ _ _ _
 ·simp only [resolve,hg];simp [go_sem]
 ·intro f' hf';simp [Target.leads] at hf';subst hf';exact hF
 ·simp [invoke,go_sem,eg]
 refine(hseq (w.heap.size+1)
  (fun pre W=>I pre W/\W.heap[w.heap.size+1]?=some (.loop (mk .ready none))/\W.heap[w.heap.size]?=some (.deferred (some [])))
  (fun pre W=>∃ c,Ix c pre W/\W.heap[w.heap.size+1]?=some (.loop (mk .done (some c)))/\W.heap[w.heap.size]?=some (.deferred (some []))) V Qh
  (fun s Y Z row h hg hr=>⟨hI s Y Z row h.1 hg (loose hr),keep hg hr (by omega) lV h.2.1,keep hg hr (Nat.le_refl _) (by omega) h.2.2⟩)
  (fun s Y Z row h hg hr=>h.elim fun c h=>⟨c,hIx c s Y Z row h.1 hg (loose hr),keep hg hr (by omega) lV h.2.1,keep hg hr (Nat.le_refl _) (by omega) h.2.2⟩)
  (fun pre W h=>hQ pre W h.1) ?_ ⟨Qg,NG,NF⟩).mono ?_
 ·rintro pre x V0 W ⟨hi0,hl0,hk0⟩ hE0 hax
  have hl:W.heap[w.heap.size+1]?=some (.loop (mk .ready none)):=(hE0.block _ (Array.getElem?_eq_some_iff.1 hl0).1).trans hl0
  have hk:W.heap[w.heap.size]?=some (.deferred (some [])):=(hE0.block _ (Array.getElem?_eq_some_iff.1 hk0).1).trans hk0
  have hlt:w.heap.size+1<W.heap.size:=(Array.getElem?_eq_some_iff.1 hl).1
  have hy:=run_yield (P:=P) (args:=encs x) hl (by rw [hmk];exact hps x)
  rw [hmk] at hy
  refine⟨fn,_,assign,body,hy,roundIn_of_wpIn hfn (hassign _ pre x V0 W _ hi0 hE0 hax fun a' W1 hK1 hp1 hi1 Ou=>?_)⟩
  have hl1:W1.heap[w.heap.size+1]?=some (.loop (mk .ready none)):=hK1.same _ _ hB hl rfl
  have hk1:W1.heap[w.heap.size]?=some (.deferred (some [])):=hK1.same _ _ (Nat.le_refl _) hk rfl
  have hlt1:w.heap.size+1<W1.heap.size:=(Array.getElem?_eq_some_iff.1 hl1).1
  refine⟨_,run_beginRound hl1 (by rw [hmk]),?_⟩
  have l2:(W1.putObj (w.heap.size+1) (.loop { mk .ready none with state:=.busy })).heap[w.heap.size+1]?=some (.loop { mk .ready none with state:=.busy }):=World.putObj_heap_same hlt1
  have k2:(W1.putObj (w.heap.size+1) (.loop { mk .ready none with state:=.busy })).heap[w.heap.size]?=some (.deferred (some [])):=(World.putObj_heap_other (by omega)).trans hk1
  have p2:Kp W (W1.putObj (w.heap.size+1) (.loop { mk .ready none with state:=.busy })):=hKt hp1 (hKb _ _ _ _ hB hl1 rfl rfl)
  refine wpIn_mono (hbody _ pre x a' _ (hI.putObj _ hi1 hB hl1 rfl) ((hAx pre x a').putObj (s:=()) _ Ou hB hl1 rfl)) ?_
  have fin:∀ (jump:Option Code) (Y:World),KeepsFrom w.heap.size (W1.putObj (w.heap.size+1) (.loop { mk .ready none with state:=.busy })) Y ->
    (Instr.endRound (w.heap.size+1) jump).run P Y=.ok (.bool jump.isNone) (Y.putObj (w.heap.size+1) (.loop (mk (if jump.isNone then .ready else .done) jump))) /\
    Y.heap[w.heap.size+1]?=some (.loop { mk .ready none with state:=.busy }) /\
    (Y.putObj (w.heap.size+1) (.loop (mk (if jump.isNone then .ready else .done) jump))).heap[w.heap.size+1]?=some (.loop (mk (if jump.isNone then .ready else .done) jump)) /\
    (Y.putObj (w.heap.size+1) (.loop (mk (if jump.isNone then .ready else .done) jump))).heap[w.heap.size]?=some (.deferred (some [])):=fun jump Y hY=>by
   have l3:=hY.same _ _ hB l2 rfl
   have hr:=run_endRound (P:=P) jump l3
   rw [hmk] at hr l3 ⊢
   exact⟨hr,l3,World.putObj_heap_same (Array.getElem?_eq_some_iff.1 l3).1,(World.putObj_heap_other (by omega)).trans (hY.same _ _ (Nat.le_refl _) k2 rfl)⟩
  rintro e a3 Y hp
  cases e with
  | normal =>
   obtain⟨hY,hkp,hi3⟩:=hp
   obtain⟨r1,r2,r3,r4⟩:=fin none Y hY
   exact⟨_,_,r1,.inl ⟨rfl,⟨hI.putObj _ hi3 hB r2 rfl,r3,r4⟩,hKt (hKt p2 hkp) (hKb _ _ _ _ hB r2 rfl rfl)⟩⟩
  | ret =>
   obtain⟨r1,r2,r3,r4⟩:=fin (some .ret) Y hp.1
   exact⟨_,_,r1,.inr ⟨rfl,.ret,(hIx _).putObj _ hp.2 hB r2 rfl,r3,r4⟩⟩
  | exit id =>
   obtain⟨r1,r2,r3,r4⟩:=fin (some (.exit id)) Y hp.1
   exact⟨_,_,r1,.inr ⟨rfl,.exit id,(hIx _).putObj _ hp.2 hB r2 rfl,r3,r4⟩⟩
  | goto t =>
   obtain⟨r1,r2,r3,r4⟩:=fin (some (.goto t)) Y hp.1
   exact⟨_,_,r1,.inr ⟨rfl,.goto t,(hIx _).putObj _ hp.2 hB r2 rfl,r3,r4⟩⟩
  | panic ch=>exact hp.elim
  | outgrown=>exact hp.elim
 ·rintro e Y ⟨⟨v,rfl⟩,(⟨xs,hS,hi,hl,hk⟩ | ⟨pre,hSp,c,hi,hl,hk⟩)⟩
  ·have hr:=run_endLoop (P:=P) hl (by rw [hmk];simp)
   rw [hmk] at hr
   exact⟨none,_,hr,hdone _ xs _ (Nat.le_refl _) hS (hI.putObj _ hi hB hl (by rw [hmk];rfl)) ((World.putObj_heap_other (by omega)).trans hk)⟩
  ·have hr:=run_endLoop (P:=P) hl (by rw [hmk];simp)
   rw [hmk] at hr
   exact⟨some c,_,hr,hstop _ c pre _ (Nat.le_refl _) hSp ((hIx c).putObj _ hi hB hl (by rw [hmk];rfl)) ((World.putObj_heap_other (by omega)).trans hk)⟩
end
end
structure Kb (Bd:Nat->Prop) (C:Nat) (V V':World):Prop where
 os:V'.os=V.os
 tape:V'.tape=V.tape
 output:V'.output=V.output
 size:V.heap.size<=V'.heap.size
 block:∀ k o,¬ Bd k->V.heap[k]?=some o->(k<C\/o.isCells=true)->V'.heap[k]?=some o
theorem Kb.trans {Bd:Nat->Prop} {C:Nat} {X Y Z:World} (h:Kb Bd C X Y) (g:Kb Bd C Y Z):Kb Bd C X Z :=
 ⟨g.os.trans h.os,g.tape.trans h.tape,g.output.trans h.output,Nat.le_trans h.size g.size,fun k o hk ho hc=>g.block k o hk (h.block k o hk ho hc) hc⟩
theorem Kb.of_ext {Bd:Nat->Prop} {C:Nat} {X Y:World} (h:Ext X Y):Kb Bd C X Y :=
 ⟨h.os,h.tape,h.output,h.size,fun k _ _ ho _=>(h.block k (Array.getElem?_eq_some_iff.1 ho).1).trans ho⟩
theorem Kb.putObj {Bd:Nat->Prop} {C:Nat} (W:World) (l:Nat) (o o':Obj) (hl:C<=l) (h:W.heap[l]?=some o) (hc:o.isCells=false):Kb Bd C W (W.putObj l o'):=by
 have g:=grownBy_putObj' W l o'
 refine⟨g.os,g.tape,g.output,g.size,fun k o2 _ h2 h3=>?_⟩
 by_cases e:k=l
 ·subst e
  rw [h] at h2
  cases h2
  rcases h3 with h3 | h3
  ·omega
  ·rw [hc] at h3;cases h3
 ·rw [World.putObj_heap_other (by omega)];exact h2
theorem Kb.cell {Bd:Nat->Prop} {C:Nat} (W:World) (a:Addr) (u:Value) (hl:Bd a.block):Kb Bd C W (W.setCell a u):=by
 have g:=dG W a u
 refine⟨g.os,g.tape,g.output,g.size,fun k o2 hk h2 h3=>?_⟩
 exact(g.block k (Array.getElem?_eq_some_iff.1 h2).1 (fun e=>hk (by injection e with e;rw [<- e] at hl;exact hl))).trans h2
theorem Ic.kpN {w0 V V':World} {Γ:List Pc} {Bd:Nat->Prop} {C:Nat} (S:Ic w0 V Γ) (hΓ:∀ p∈Γ,p.cells) (hf:∀ p∈Γ,∀ k,p.foot k->¬ Bd k) (hB:∀ k,Bd k->w0.heap.size<=k) (hC:w0.heap.size<=C) (h:Kb Bd C V V'):Ic w0 V' Γ:=by
 refine⟨⟨h.os.trans S.ext.os,h.tape.trans S.ext.tape,h.output.trans S.ext.output,Nat.le_trans S.ext.size h.size,fun k hk=>?_⟩,fun p hp=>p.loc V V' (S.all p hp) fun k hk=>?_,S.new,S.apart⟩
 ·have YB:k<V.heap.size:=Nat.lt_of_lt_of_le hk S.ext.size
  have e:=Array.getElem?_eq_getElem YB
  rw [h.block k _ (fun hb=>by have:=hB k hb;omega) e (Or.inl (Nat.lt_of_lt_of_le hk hC)),<- e]
  exact S.ext.block k hk
 ·obtain⟨o,h1,h2⟩:=hΓ p hp V (S.all p hp) k hk
  rw [h1]
  exact h.block k o (hf p hp k hk) h1 (Or.inr h2)
theorem Ic.turnX {w0 w w':World} {Γ:List Pc} {row:Option Nat} {B:Nat} {X:Nat->Prop} (S:Ic w0 w Γ) (hΓ:∀ p∈Γ,p.cells) (hX:∀ p∈Γ,∀ k,p.foot k->¬ X k) (hX0:∀ k,X k->w0.heap.size<=k) (hB:w0.heap.size<=B) (hg:w.grownBy w' row) (hr:∀ r,row=some r->(B<=r/\∃ o:Obj,w.heap[r]?=some o/\o.isCells=false)\/X r):Ic w0 w' Γ:=by
 refine⟨⟨hg.os.trans S.ext.os,hg.tape.trans S.ext.tape,hg.output.trans S.ext.output,Nat.le_trans S.ext.size hg.size,fun k hk=>(hg.block k (Nat.lt_of_lt_of_le hk S.ext.size) (fun e=>?_)).trans (S.ext.block k hk)⟩,
  fun p hp=>p.loc w w' (S.all p hp) fun k hk=>hg.block k (S.lt hp hk) (fun e=>?_),S.new,S.apart⟩
 ·rcases hr k e.symm with h | h
  ·have:=h.1;omega
  ·have:=hX0 k h;omega
 ·rcases hr k e.symm with ⟨_,o,h1,h2⟩ | h
  ·obtain⟨o',h3,h4⟩:=hΓ p hp w (S.all p hp) k hk
   rw [h1] at h3
   injection h3 with h3
   subst h3
   rw [h2] at h4;cases h4
  ·exact hX p hp k hk h
section
open Go Go.RowKit
attribute [local go_sem] Oper.semAt_some
structure KJ where
 yes:Bool
 d:Int
 F:List (Int × Int)
 q:Option Addr
 c:Nat
 dn:Bool
def Hw (y:KJ):Array Value:=#[.agg #[.bool y.yes,.int .i64 y.d,.slice y.q y.F.length y.c],.bool y.dn]
def Ia (k t:Int) (L:List Po) (ws:List ByteArray) (most:Int) (rn:Nat->List Sq × List Sq) (V0:World) (pre:List KJ) (y:KJ) (V:World):Prop :=
 Ic V0 V [.own 105 2 y.q y.F.length y.c (aj y.F)]/\uy k t L ws most (rn (pre.length+1)) y.yes y.d y.F/\y.dn=bt k t (rn (pre.length+1))
theorem Es (b:Nat) (w:World):Calls prog 52 #[.pointer (some ⟨b,0,none⟩)] w fun e w'=>e=.returned (.func (.func 93) #[] #[.pointer (some ⟨w.heap.size,0,none⟩)])/\w'=w.alloc (.cells #[.pointer (some ⟨b,0,none⟩)] 82):=by
 go_enter func52,ntmps52
 go_wp2
 go_ret
 exact⟨rfl,rfl⟩
theorem yw {b bx:Nat} {cs cs2:Array Value} {t1 t2 e1 e2:TypeId} {q1 q2:Option Addr} {n1 c1 n2 c2:Nat} {x1 x2:List Value}:∀ p∈[Pc.blk b t1 cs,Pc.blk bx t2 cs2,Pc.own e1 4 q1 n1 c1 x1,Pc.own e2 4 q2 n2 c2 x2],p.cells:=by
 intro p hp
 simp only [List.mem_cons,List.not_mem_nil,or_false] at hp
 rcases hp with rfl | rfl | rfl | rfl
 ·exact Pc.blk_cells _ _ _
 ·exact Pc.blk_cells _ _ _
 ·exact Pc.own_cells _ _ _ _ _ _
 ·exact Pc.own_cells _ _ _ _ _ _
theorem Dp (n1:Nat) (hn1:1<=n1) (k f t:Int) (pw:Option Addr) (nw cw:Nat) (ws:List ByteArray) (rad most:Int) (po:Option Addr) (no co:Nat) (O:List Int) (pt:Option Addr) (nt ct:Nat) (T:List Int) (pr:Option Addr) (nr cr:Nat) (R:List Int) (pv:Option Addr) (nv cv:Nat) (V:List Int) (pl:Option Addr) (nl cl:Nat) (hs:List Hd) (L:List Po) (wk:Nat) (pp:Option Addr) (np cp:Nat) (pk:List Int) (w0 w:World) (b bx:Nat) (pm:Option Addr) (nm cm:Nat) (n:Nat) (rn:Nat->List Sq × List Sq) (Bd:Nat->Prop) (hO:Rd w0 1 po no (ab O)) (hT:Rd w0 1 pt nt (ab T)) (hR:Rd w0 1 pr nr (ab R)) (hV:Rd w0 1 pv nv (ab V)) (hct:nt<=ct) (hcv:nv<=cv)
  (hL:IW w0 pl nl hs L) (hW:Rd w0 1 pw nw (bg ws)) (hpk:Rd w0 1 pp np (ab pk)) (hck:ai O T R V=true) (hn:O.length=n+1) (Iu:n<=200) (h1:1<=wk) (h16:wk<=16)
  (hk:k=1\/k=2\/k=3) (ht:Ii t) (hcw:nw<=cw) (hnw:nw<=100) (hok:Io L)
  (hr0:(rn 0).1=[]) (hrn:∀ i,Jy n i (rn i)) (hrs:∀ i,rn (i+1)=cU (aG k rad true O T R V) (rn i).1 (rn i).2)
  (S0:Ic w0 w [Pc.blk b 87 #[.int .i64 k,.int .i64 f,.int .i64 t,.slice pw nw cw,.int .i64 rad,.int .i64 most,.slice po no co,.slice pt nt ct,.slice pr nr cr,.slice pv nv cv,.slice pl nl cl,.int .i64 wk,.slice pp np cp,.slice none 0 0,.slice pm nm cm],Pc.blk bx 82 #[.pointer (some ⟨b,0,none⟩)],Pc.own 146 4 none 0 0 (au (rn 0).1),Pc.own 138 4 pm nm cm (au (rn 0).2)]) (hBd:∀ k,Bd k->w0.heap.size<=k/\k<w.heap.size) (hBf:∀ p∈[Pc.blk b 87 #[.int .i64 k,.int .i64 f,.int .i64 t,.slice pw nw cw,.int .i64 rad,.int .i64 most,.slice po no co,.slice pt nt ct,.slice pr nr cr,.slice pv nv cv,.slice pl nl cl,.int .i64 wk,.slice pp np cp,.slice none 0 0,.slice pm nm cm],Pc.blk bx 82 #[.pointer (some ⟨b,0,none⟩)],Pc.own 146 4 none 0 0 (au (rn 0).1),Pc.own 138 4 pm nm cm (au (rn 0).2)],∀ k,p.foot k->¬ Bd k) :
  FL Fence.wide n1 prog 93 #[.pointer (some ⟨bx,0,none⟩)] Hw (fun k=>k=b) (Ia k t L ws most rn) (Kb Bd w.heap.size) (fun _=>False) (fun _=>True) (fun pre=>pre.length<200) w:=by
 intro l J Jx W hW' hJ hJx hQ hY h0
 have HST:=lh (fun i (hi:i<=200) (W:World) (E:Ext w0 W) (ps:Option Addr) (ns cs:Nat) (pm:Option Addr) (nm cm:Nat) (hs:Rd W 4 ps ns (au (rn i).1)) (hm:Rd W 4 pm nm (au (rn i).2)) =>
  CB k f t pw nw cw rad most po no co O pt nt ct T pr nr cr R pv nv cv V W n i (rn i) ps ns cs pm nm cm wk pp np cp pk (hO.ext E) (hT.ext E) (hR.ext E) (hV.ext E) hct hcv hck hn Iu hi (hrn i) h1 h16 hs hm (hpk.ext E))
 have Mg:=lh (fun i=>And.intro (show (rn i).1.length<=400 by have:=ju (hrn i).kst (fun x hx=>((hrn i).st x hx).1);omega) (show (rn i).2.length<=400 by have:=ju (hrn i).kms (fun x hx=>((hrn i).ms x hx).1);omega))
 have hdn:∀ i (hi:i<=200) (ps:Option Addr) (ns cs:Nat) (pm:Option Addr) (nm cm:Nat),ns=(rn i).1.length->∃ b d F,uy k t L ws most (rn i) b d F/\∀ W,Ext w0 W->Rd W 4 ps ns (au (rn i).1)->Rd W 4 pm nm (au (rn i).2) ->
   Calls prog 95 #[.agg #[.int .i64 k,.int .i64 f,.int .i64 t,.slice pw nw cw,.int .i64 rad,.int .i64 most],.slice pl nl cl,.slice ps ns cs,.slice pm nm cm] W (zM b d F (bt k t (rn i)) W):=fun i hi ps ns cs pm nm cm hns=>by
  have hx:∀ x∈(rn i).1,x.I/\-1000000<=x.d/\x.d<=1000000:=fun x hx=>by
   obtain⟨⟨x1,x2,x3,x4⟩,x5,x6⟩:=(hrn i).st x hx
   refine⟨?_,by omega,by omega⟩
   unfold Sq.I Ii
   have q1:IntKind.i64.min = -9223372036854775808:=rfl
   have q2:IntKind.i64.max=9223372036854775807:=rfl
   refine⟨?_,?_,?_,?_⟩ <;> (show (_ && _)=true;simp;omega)
  obtain⟨b,d,F,hA,hD⟩:=xx k f t pw nw cw ws rad most pl nl cl hs L ps ns cs (rn i).1 pm nm cm (rn i).2 hk ht hcw hnw hok (fun x h=>(hx x h).1) (fun x h=>(hx x h).2) (by have:=(Mg.out i).1;omega)
  exact⟨b,d,F,hA,fun W E g1 g2=>hD W (hL.ext E) (hW.ext E) g1 g2⟩
 have Mc:=lh hdn
 have Ud:=lh hrs
 have hb0:w0.heap.size<=b:=S0.bge 0 rfl
 have Ff:b<w.heap.size:=(S0.blk 0 rfl).lt
 have hw0:w0.heap.size<=w.heap.size:=S0.ext.size
 have hws:=hW'.size
 have JW:=lh hBd
 have SW:=lh (S0.call hW')
 have Vv:=lh hBf
 have HQ:=lh hQ
 have XL:=lh hr0
 have HJ:=lh hJ;clear hJ
 have HY:=lh hY;clear hY
 clear hJx hO hT hR hV hct hcv hck hn Iu h1 h16 hpk hL hW hk ht hcw hnw hok hr0 hrn hrs S0 hBd hBf hdn hQ hW'
 refine callsIn_of_wp func93 rfl trivial ?_ rfl
 simp only [ntmps93,List.size_toArray,List.length_cons,List.length_nil,Nat.reduceAdd,Nat.reduceSub,Array.replicate_succ,Array.replicate_zero,List.push_toArray,List.append_toArray,List.nil_append,List.cons_append]
 gi_wp2
 gi_loopg [] 200 (fun g wr=>∃ (pre:List KJ) (ps:Option Addr) (ns cs:Nat) (pm:Option Addr) (nm cm:Nat),pre.length+g=200/\Hid (Ic w0 wr [Pc.blk b 87 #[.int .i64 k,.int .i64 f,.int .i64 t,.slice pw nw cw,.int .i64 rad,.int .i64 most,.slice po no co,.slice pt nt ct,.slice pr nr cr,.slice pv nv cv,.slice pl nl cl,.int .i64 wk,.slice pp np cp,.slice ps ns cs,.slice pm nm cm],Pc.blk bx 82 #[.pointer (some ⟨b,0,none⟩)],Pc.own 146 4 ps ns cs (au (rn pre.length).1),Pc.own 138 4 pm nm cm (au (rn pre.length).2)])/\Hid (∀ p∈[Pc.blk b 87 #[.int .i64 k,.int .i64 f,.int .i64 t,.slice pw nw cw,.int .i64 rad,.int .i64 most,.slice po no co,.slice pt nt ct,.slice pr nr cr,.slice pv nv cv,.slice pl nl cl,.int .i64 wk,.slice pp np cp,.slice ps ns cs,.slice pm nm cm],Pc.blk bx 82 #[.pointer (some ⟨b,0,none⟩)],Pc.own 146 4 ps ns cs (au (rn pre.length).1),Pc.own 138 4 pm nm cm (au (rn pre.length).2)],∀ k,p.foot k->¬ Bd k)/\Hid (J pre wr)/\W.heap.size<=wr.heap.size)
 case atStart =>
  refine⟨[],none,0,0,pm,nm,cm,rfl,SW.out,Vv.out,h0,Nat.le_refl _⟩
 case round =>
  clear h0 SW Vv XL
  obtain⟨pre,ps,ns,cs,pm,nm,cm,hg,SS,HF,Pm,hsz⟩:=hrel
  have hpl:=HQ.out pre wr Pm.out
  clear HQ
  have Px:=lh (SS.out.drew)
  have Pj:=lh (HST.out pre.length (by omega) wr.drew SS.out.drew.ext ps ns cs pm nm cm (SS.out.drew.rdx 2 rfl) (SS.out.drew.rdx 3 rfl))
  obtain⟨m,hm⟩:∃ m,pre.length=m:=⟨_,rfl⟩
  rw [hm] at Pj Px SS HF hpl hg
  rw [<- Ud.out m] at Pj
  obtain⟨Y,hY⟩:∃ Y,rn (m+1)=Y:=⟨_,rfl⟩
  rw [hY] at Pj
  have N8:=lh hY
  clear hY
  have HM:=lh hm
  clear hm
  gi_wp2
  refine wpIn_wide.2 ?_
  refine wp_region_held_drew (S:=fun W=>Ih W b 87 #[.int .i64 k,.int .i64 f,.int .i64 t,.slice pw nw cw,.int .i64 rad,.int .i64 most,.slice po no co,.slice pt nt ct,.slice pr nr cr,.slice pv nv cv,.slice pl nl cl,.int .i64 wk,.slice pp np cp,.slice ps ns cs,.slice pm nm cm]/\Ih W bx 82 #[.pointer (some ⟨b,0,none⟩)]) (by kernel_rfl) ⟨Px.out.blk 0 rfl,Px.out.blk 1 rfl⟩ (fun hHeld=>?_)
  have hw2:W.heap.size<=wr.drew.heap.size:=hsz
  have HJ2:=lh (HJ.out pre wr wr.drew none Pm.out (Ext.grown (Below.refl _ _).drew) (fun r e=>nomatch e))
  clear SS Pm hsz
  generalize wr.drew=D at Px Pj hHeld hw2 HJ2 ⊢
  clear wr
  refine wpAnyH_take (i:=0) (v:=.pointer (some ⟨b,0,none⟩)) rfl (by kernel_rfl) (by kernel_rfl) (by kernel_rfl) (fun _ _ _ h=>h) (Or.inl ⟨by kernel_rfl,fun W hSw=>by have h0:=hSw.2.cell 0;have hz:=hSw.2.lt;clear hSw;go_simp⟩) hHeld ?_
  refine wpAnyH_take (i:=1) (v:=.pointer (some ⟨b,0,none⟩)) rfl (by kernel_rfl) (by kernel_rfl) (by kernel_rfl) (fun _ _ _ h=>h) (Or.inl ⟨by kernel_rfl,fun W hSw=>by have hz:=hSw.1.lt;have hy:=(show W.heap[b]?=_ from hSw.1);clear hSw;go_simp⟩) hHeld ?_
  refine wpAnyH_take (i:=2) (v:=.pointer (some ⟨b,0,none⟩)) rfl (by kernel_rfl) (by kernel_rfl) (by kernel_rfl) (fun _ _ _ h=>h) (Or.inl ⟨by kernel_rfl,fun W hSw=>by skip;clear hSw;go_simp⟩) hHeld ?_
  refine wpAnyH_take (i:=3) (v:=.agg #[.int .i64 k,.int .i64 f,.int .i64 t,.slice pw nw cw,.int .i64 rad,.int .i64 most]) rfl (by kernel_rfl) (by kernel_rfl) (by kernel_rfl) (fun _ _ _ h=>h) (Or.inl ⟨by kernel_rfl,fun W hSw=>by have h0:=hSw.1.cell 0;have h1:=hSw.1.cell 1;have h2:=hSw.1.cell 2;have h3:=hSw.1.cell 3;have h4:=hSw.1.cell 4;have h5:=hSw.1.cell 5;clear hSw;go_simp⟩) hHeld ?_
  refine wpAnyH_take (i:=4) (v:=.pointer (some ⟨b,0,none⟩)) rfl (by kernel_rfl) (by kernel_rfl) (by kernel_rfl) (fun _ _ _ h=>h) (Or.inl ⟨by kernel_rfl,fun W hSw=>by have h0:=hSw.2.cell 0;have hz:=hSw.2.lt;clear hSw;go_simp⟩) hHeld ?_
  refine wpAnyH_take (i:=5) (v:=.pointer (some ⟨b,0,none⟩)) rfl (by kernel_rfl) (by kernel_rfl) (by kernel_rfl) (fun _ _ _ h=>h) (Or.inl ⟨by kernel_rfl,fun W hSw=>by have hz:=hSw.1.lt;have hy:=(show W.heap[b]?=_ from hSw.1);clear hSw;go_simp⟩) hHeld ?_
  refine wpAnyH_take (i:=6) (v:=.pointer (some ⟨b,6,none⟩)) rfl (by kernel_rfl) (by kernel_rfl) (by kernel_rfl) (fun _ _ _ h=>h) (Or.inl ⟨by kernel_rfl,fun W hSw=>by skip;clear hSw;go_simp⟩) hHeld ?_
  refine wpAnyH_take (i:=7) (v:=.agg #[.slice po no co,.slice pt nt ct,.slice pr nr cr,.slice pv nv cv]) rfl (by kernel_rfl) (by kernel_rfl) (by kernel_rfl) (fun _ _ _ h=>h) (Or.inl ⟨by kernel_rfl,fun W hSw=>by have h0:=hSw.1.cell 6;have h1:=hSw.1.cell 7;have h2:=hSw.1.cell 8;have h3:=hSw.1.cell 9;clear hSw;go_simp⟩) hHeld ?_
  refine wpAnyH_take (i:=8) (v:=.pointer (some ⟨b,0,none⟩)) rfl (by kernel_rfl) (by kernel_rfl) (by kernel_rfl) (fun _ _ _ h=>h) (Or.inl ⟨by kernel_rfl,fun W hSw=>by have h0:=hSw.2.cell 0;have hz:=hSw.2.lt;clear hSw;go_simp⟩) hHeld ?_
  refine wpAnyH_take (i:=9) (v:=.pointer (some ⟨b,0,none⟩)) rfl (by kernel_rfl) (by kernel_rfl) (by kernel_rfl) (fun _ _ _ h=>h) (Or.inl ⟨by kernel_rfl,fun W hSw=>by have hz:=hSw.1.lt;have hy:=(show W.heap[b]?=_ from hSw.1);clear hSw;go_simp⟩) hHeld ?_
  refine wpAnyH_take (i:=10) (v:=.pointer (some ⟨b,13,none⟩)) rfl (by kernel_rfl) (by kernel_rfl) (by kernel_rfl) (fun _ _ _ h=>h) (Or.inl ⟨by kernel_rfl,fun W hSw=>by skip;clear hSw;go_simp⟩) hHeld ?_
  refine wpAnyH_take (i:=11) (v:=.slice ps ns cs) rfl (by kernel_rfl) (by kernel_rfl) (by kernel_rfl) (fun _ _ _ h=>h) (Or.inl ⟨by kernel_rfl,fun W hSw=>by have h0:=hSw.1.cell 13;clear hSw;go_simp⟩) hHeld ?_
  refine wpAnyH_take (i:=12) (v:=.pointer (some ⟨b,0,none⟩)) rfl (by kernel_rfl) (by kernel_rfl) (by kernel_rfl) (fun _ _ _ h=>h) (Or.inl ⟨by kernel_rfl,fun W hSw=>by have h0:=hSw.2.cell 0;have hz:=hSw.2.lt;clear hSw;go_simp⟩) hHeld ?_
  refine wpAnyH_take (i:=13) (v:=.pointer (some ⟨b,0,none⟩)) rfl (by kernel_rfl) (by kernel_rfl) (by kernel_rfl) (fun _ _ _ h=>h) (Or.inl ⟨by kernel_rfl,fun W hSw=>by have hz:=hSw.1.lt;have hy:=(show W.heap[b]?=_ from hSw.1);clear hSw;go_simp⟩) hHeld ?_
  refine wpAnyH_take (i:=14) (v:=.pointer (some ⟨b,14,none⟩)) rfl (by kernel_rfl) (by kernel_rfl) (by kernel_rfl) (fun _ _ _ h=>h) (Or.inl ⟨by kernel_rfl,fun W hSw=>by skip;clear hSw;go_simp⟩) hHeld ?_
  refine wpAnyH_take (i:=15) (v:=.slice pm nm cm) rfl (by kernel_rfl) (by kernel_rfl) (by kernel_rfl) (fun _ _ _ h=>h) (Or.inl ⟨by kernel_rfl,fun W hSw=>by have h0:=hSw.1.cell 14;clear hSw;go_simp⟩) hHeld ?_
  refine wpAnyH_take (i:=16) (v:=.pointer (some ⟨b,0,none⟩)) rfl (by kernel_rfl) (by kernel_rfl) (by kernel_rfl) (fun _ _ _ h=>h) (Or.inl ⟨by kernel_rfl,fun W hSw=>by have h0:=hSw.2.cell 0;have hz:=hSw.2.lt;clear hSw;go_simp⟩) hHeld ?_
  refine wpAnyH_take (i:=17) (v:=.pointer (some ⟨b,0,none⟩)) rfl (by kernel_rfl) (by kernel_rfl) (by kernel_rfl) (fun _ _ _ h=>h) (Or.inl ⟨by kernel_rfl,fun W hSw=>by have hz:=hSw.1.lt;have hy:=(show W.heap[b]?=_ from hSw.1);clear hSw;go_simp⟩) hHeld ?_
  refine wpAnyH_take (i:=18) (v:=.pointer (some ⟨b,11,none⟩)) rfl (by kernel_rfl) (by kernel_rfl) (by kernel_rfl) (fun _ _ _ h=>h) (Or.inl ⟨by kernel_rfl,fun W hSw=>by skip;clear hSw;go_simp⟩) hHeld ?_
  refine wpAnyH_take (i:=19) (v:=.int .i64 wk) rfl (by kernel_rfl) (by kernel_rfl) (by kernel_rfl) (fun _ _ _ h=>h) (Or.inl ⟨by kernel_rfl,fun W hSw=>by have h0:=hSw.1.cell 11;clear hSw;go_simp⟩) hHeld ?_
  refine wpAnyH_take (i:=20) (v:=.pointer (some ⟨b,0,none⟩)) rfl (by kernel_rfl) (by kernel_rfl) (by kernel_rfl) (fun _ _ _ h=>h) (Or.inl ⟨by kernel_rfl,fun W hSw=>by have h0:=hSw.2.cell 0;have hz:=hSw.2.lt;clear hSw;go_simp⟩) hHeld ?_
  refine wpAnyH_take (i:=21) (v:=.pointer (some ⟨b,0,none⟩)) rfl (by kernel_rfl) (by kernel_rfl) (by kernel_rfl) (fun _ _ _ h=>h) (Or.inl ⟨by kernel_rfl,fun W hSw=>by have hz:=hSw.1.lt;have hy:=(show W.heap[b]?=_ from hSw.1);clear hSw;go_simp⟩) hHeld ?_
  refine wpAnyH_take (i:=22) (v:=.pointer (some ⟨b,12,none⟩)) rfl (by kernel_rfl) (by kernel_rfl) (by kernel_rfl) (fun _ _ _ h=>h) (Or.inl ⟨by kernel_rfl,fun W hSw=>by skip;clear hSw;go_simp⟩) hHeld ?_
  refine wpAnyH_take (i:=23) (v:=.slice pp np cp) rfl (by kernel_rfl) (by kernel_rfl) (by kernel_rfl) (fun _ _ _ h=>h) (Or.inl ⟨by kernel_rfl,fun W hSw=>by have h0:=hSw.1.cell 12;clear hSw;go_simp⟩) hHeld ?_
  refine wpAnyH_ready (rs:=[24]) (by kernel_rfl) (by simp) (AllReadyH.cons rfl (fun K hK=>?_) AllReadyH.nil)
  go_simp
  refine Pj.out.mono ?_
  rintro e w1 ⟨q,c,q2,c2,rfl,Z⟩
  have S2:=lh (Px.out.comp Z)
  have hw3:=Nat.le_trans hw2 Z.ext.size
  have Me:=lh (HJ.out pre D w1 none HJ2.out (Ext.grown Z.ext) (fun r e=>nomatch e))
  have V3:=lh (fun p (hp:p∈[Pc.own 146 4 q Y.1.length c (au Y.1),Pc.own 138 4 q2 Y.2.length c2 (au Y.2)]) k (hk:p.foot k)=>Z.new p hp k hk)
  clear Z HJ2 Pj
  refine hK.out _ _ ⟨S2.out.blk 2 rfl,S2.out.blk 3 rfl⟩ (fun hHeld=>?_)
  clear hK
  refine wpAnyH_take (i:=25) (v:=.tuple #[.slice q Y.1.length c,.slice q2 Y.2.length c2,.int .i64 0]) rfl (by kernel_rfl) (by kernel_rfl) (by kernel_rfl) (fun _ _ _ h=>h) (Or.inl ⟨by kernel_rfl,fun W hSw=>by skip;clear hSw;go_simp⟩) hHeld ?_
  refine wpAnyH_take (i:=26) (v:=.slice q Y.1.length c) rfl (by kernel_rfl) (by kernel_rfl) (by kernel_rfl) (fun _ _ _ h=>h) (Or.inl ⟨by kernel_rfl,fun W hSw=>by skip;clear hSw;go_simp⟩) hHeld ?_
  refine wpAnyH_take (i:=27) (v:=.slice q2 Y.2.length c2) rfl (by kernel_rfl) (by kernel_rfl) (by kernel_rfl) (fun _ _ _ h=>h) (Or.inl ⟨by kernel_rfl,fun W hSw=>by skip;clear hSw;go_simp⟩) hHeld ?_
  refine wpAnyH_take (i:=28) (v:=.int .i64 0) rfl (by kernel_rfl) (by kernel_rfl) (by kernel_rfl) (fun _ _ _ h=>h) (Or.inl ⟨by kernel_rfl,fun W hSw=>by skip;clear hSw;go_simp⟩) hHeld ?_
  refine wpAnyH_take (i:=29) (v:=.slice q Y.1.length c) rfl (by kernel_rfl) (by kernel_rfl) (by kernel_rfl) (fun _ _ _ h=>h) (Or.inl ⟨by kernel_rfl,fun W hSw=>by skip;clear hSw;go_simp⟩) hHeld ?_
  refine wpAnyH_take (i:=30) (v:=.slice q2 Y.2.length c2) rfl (by kernel_rfl) (by kernel_rfl) (by kernel_rfl) (fun _ _ _ h=>h) (Or.inl ⟨by kernel_rfl,fun W hSw=>by skip;clear hSw;go_simp⟩) hHeld ?_
  refine wpAnyH_take (i:=31) (v:=.int .i64 0) rfl (by kernel_rfl) (by kernel_rfl) (by kernel_rfl) (fun _ _ _ h=>h) (Or.inl ⟨by kernel_rfl,fun W hSw=>by skip;clear hSw;go_simp⟩) hHeld ?_
  refine wpAnyH_done (by kernel_rfl) ?_ _
  clear hHeld
  simp [Act.put]
  gi_wp2
  have HB3:=lh (S2.out.blk 2 rfl)
  have Vu:=lh (S2.out.blk 3 rfl)
  refine wpIn_wide.2 ?_
  refine wp_region_held_drew (S:=fun W=>(∃ cs,Ih W b 87 cs)/\Ih W bx 82 #[.pointer (some ⟨b,0,none⟩)]) (by kernel_rfl) ⟨⟨_,HB3.out.ext (Below.refl _ _).drew⟩,Vu.out.ext (Below.refl _ _).drew⟩ (fun hHeld=>?_)
  have SD:=lh S2.out.drew
  have hw4:W.heap.size<=w1.drew.heap.size:=hw3
  have TH:=lh (HJ.out pre w1 w1.drew none Me.out (Ext.grown (Below.refl _ _).drew) (fun r e=>nomatch e))
  clear S2 Me HB3 Vu hw3
  generalize w1.drew=D2 at SD hHeld hw4 TH ⊢
  clear w1 Px
  refine wpAnyH_take (i:=0) (v:=.pointer (some ⟨b,0,none⟩)) rfl (by kernel_rfl) (by kernel_rfl) (by kernel_rfl) (fun _ _ _ h=>h) (Or.inl ⟨by kernel_rfl,fun W hSw=>by have h0:=hSw.2.cell 0;have hz:=hSw.2.lt;clear hSw;go_simp⟩) hHeld ?_
  refine wpAnyH_take (i:=1) (v:=.pointer (some ⟨b,0,none⟩)) rfl (by kernel_rfl) (by kernel_rfl) (by kernel_rfl) (fun _ _ _ h=>h) (Or.inl ⟨by kernel_rfl,fun W hSw=>by have h0:=hSw.2.cell 0;have hz:=hSw.2.lt;clear hSw;go_simp⟩) hHeld ?_
  refine wpAnyH_take (i:=2) (v:=.slice q Y.1.length c) rfl (by kernel_rfl) (by kernel_rfl) (by kernel_rfl) (fun _ _ _ h=>h) (Or.inl ⟨by kernel_rfl,fun W hSw=>by skip;clear hSw;go_simp⟩) hHeld ?_
  refine wpAnyH_take (i:=3) (v:=.slice q2 Y.2.length c2) rfl (by kernel_rfl) (by kernel_rfl) (by kernel_rfl) (fun _ _ _ h=>h) (Or.inl ⟨by kernel_rfl,fun W hSw=>by skip;clear hSw;go_simp⟩) hHeld ?_
  refine wpAnyH_take (i:=4) (v:=.pointer (some ⟨b,0,none⟩)) rfl (by kernel_rfl) (by kernel_rfl) (by kernel_rfl) (fun _ _ _ h=>h) (Or.inl ⟨by kernel_rfl,fun W hSw=>by obtain⟨cs0,KT⟩:=hSw.1;have hz:=KT.lt;have hy:=(show W.heap[b]?=_ from KT);clear hSw;go_simp⟩) hHeld ?_
  refine wpAnyH_take (i:=5) (v:=.pointer (some ⟨b,13,none⟩)) rfl (by kernel_rfl) (by kernel_rfl) (by kernel_rfl) (fun _ _ _ h=>h) (Or.inl ⟨by kernel_rfl,fun W hSw=>by skip;clear hSw;go_simp⟩) hHeld ?_
  obtain⟨c13,Ut,Us⟩:=xR (SD.out.blk 2 rfl)
  refine wpAnyH_ready (rs:=[6]) (by kernel_rfl) (by simp) (AllReadyH.cons rfl (fun K hK=>?_) AllReadyH.nil)
  go_simp
  clear c13 Ut Us
  have S3:=lh (show Ic w0 (D2.setCell ⟨b,13,none⟩ (.slice q Y.1.length c)) [Pc.own 146 4 q Y.1.length c (au Y.1),Pc.own 138 4 q2 Y.2.length c2 (au Y.2),.blk b 87 #[.int .i64 k,.int .i64 f,.int .i64 t,.slice pw nw cw,.int .i64 rad,.int .i64 most,.slice po no co,.slice pt nt ct,.slice pr nr cr,.slice pv nv cv,.slice pl nl cl,.int .i64 wk,.slice pp np cp,.slice q Y.1.length c,.slice pm nm cm],.blk bx 82 #[.pointer (some ⟨b,0,none⟩)]] from(SD.out.set 2 rfl 13 (.slice q Y.1.length c)).pick [0,1,2,3] (by decide) rfl)
  clear hHeld
  refine hK.out _ _ ⟨⟨_,S3.out.blk 2 rfl⟩,S3.out.blk 3 rfl⟩ (fun hHeld=>?_)
  clear hK
  refine wpAnyH_take (i:=7) (v:=.pointer (some ⟨b,0,none⟩)) rfl (by kernel_rfl) (by kernel_rfl) (by kernel_rfl) (fun _ _ _ h=>h) (Or.inl ⟨by kernel_rfl,fun W hSw=>by obtain⟨cs0,KT⟩:=hSw.1;have hz:=KT.lt;have hy:=(show W.heap[b]?=_ from KT);clear hSw;go_simp⟩) hHeld ?_
  refine wpAnyH_take (i:=8) (v:=.pointer (some ⟨b,14,none⟩)) rfl (by kernel_rfl) (by kernel_rfl) (by kernel_rfl) (fun _ _ _ h=>h) (Or.inl ⟨by kernel_rfl,fun W hSw=>by skip;clear hSw;go_simp⟩) hHeld ?_
  obtain⟨c14,Qe,Qd⟩:=xS (S3.out.blk 2 rfl)
  have U1:W.heap.size<=(D2.setCell ⟨b,13,none⟩ (.slice q Y.1.length c)).heap.size:=Nat.le_trans hw4 (dG ..).size
  have TI:=lh (HJ.out pre D2 _ (some b) TH.out (dG D2 ⟨b,13,none⟩ (.slice q Y.1.length c)) (fun r e=>Or.inr (by injection e with e;exact e.symm)))
  clear TH hw4 SD
  generalize D2.setCell ⟨b,13,none⟩ (.slice q Y.1.length c)=D3 at S3 hHeld U1 TI c14 Qe Qd ⊢
  clear D2
  refine wpAnyH_ready (rs:=[9]) (by kernel_rfl) (by simp) (AllReadyH.cons rfl (fun K hK=>?_) AllReadyH.nil)
  go_simp
  clear c14 Qe Qd
  have S4:=lh (show Ic w0 (D3.setCell ⟨b,14,none⟩ (.slice q2 Y.2.length c2)) [Pc.own 146 4 q Y.1.length c (au Y.1),Pc.own 138 4 q2 Y.2.length c2 (au Y.2),.blk b 87 #[.int .i64 k,.int .i64 f,.int .i64 t,.slice pw nw cw,.int .i64 rad,.int .i64 most,.slice po no co,.slice pt nt ct,.slice pr nr cr,.slice pv nv cv,.slice pl nl cl,.int .i64 wk,.slice pp np cp,.slice q Y.1.length c,.slice q2 Y.2.length c2],.blk bx 82 #[.pointer (some ⟨b,0,none⟩)]] from S3.out.set 2 rfl 14 (.slice q2 Y.2.length c2))
  clear hHeld
  refine hK.out _ _ ⟨⟨_,S4.out.blk 2 rfl⟩,S4.out.blk 3 rfl⟩ (fun hHeld=>?_)
  have U2:W.heap.size<=(D3.setCell ⟨b,14,none⟩ (.slice q2 Y.2.length c2)).heap.size:=Nat.le_trans U1 (dG ..).size
  have TJ:=lh (HJ.out pre D3 _ (some b) TI.out (dG D3 ⟨b,14,none⟩ (.slice q2 Y.2.length c2)) (fun r e=>Or.inr (by injection e with e;exact e.symm)))
  have S5:=lh (S4.out.pick [2,3,0,1] (by decide) rfl)
  clear hK S4 S3 TI U1
  refine wpAnyH_done (by kernel_rfl) ?_ _
  clear hHeld
  generalize D3.setCell ⟨b,14,none⟩ (.slice q2 Y.2.length c2)=D4 at S5 U2 TJ ⊢
  clear D3
  gi_wp2
  have SE:=lh S5.out.drew
  have hw7:W.heap.size<=D4.drew.heap.size:=U2
  have TK:=lh (HJ.out pre D4 D4.drew none TJ.out (Ext.grown (Below.refl _ _).drew) (fun r e=>nomatch e))
  have hl1:Y.1.length=(rn (m+1)).1.length:=by rw [N8.out]
  obtain⟨yb,yd,yF,hAn,hDn⟩:=Mc.out (m+1) (by omega) q Y.1.length c q2 Y.2.length c2 hl1
  have hDn:=hDn D4.drew SE.out.ext (by rw [N8.out];exact SE.out.rdx 2 rfl) (by rw [N8.out];exact SE.out.rdx 3 rfl)
  have Xi:=lh hAn
  have HD:=lh hDn
  clear hAn hDn hl1
  obtain⟨dn,hdn⟩:∃ dn,bt k t (rn (m+1))=dn:=⟨_,rfl⟩
  rw [hdn] at HD
  have Ma:=lh hdn
  clear hdn
  refine lD 14 (S:=fun W=>Ih W b 87 #[.int .i64 k,.int .i64 f,.int .i64 t,.slice pw nw cw,.int .i64 rad,.int .i64 most,.slice po no co,.slice pt nt ct,.slice pr nr cr,.slice pv nv cv,.slice pl nl cl,.int .i64 wk,.slice pp np cp,.slice q Y.1.length c,.slice q2 Y.2.length c2]/\Ih W bx 82 #[.pointer (some ⟨b,0,none⟩)]) (by kernel_rfl) ⟨SE.out.blk 0 rfl,SE.out.blk 1 rfl⟩ (fun hHeld=>?_)
  clear S5 U2 TJ
  generalize D4.drew=D5 at SE HD hHeld hw7 TK ⊢
  refine aV [14] (i:=0) (v:=.func (.yield l) #[] #[]) rfl rfl (by kernel_rfl) (by kernel_rfl) (by kernel_rfl) (by kernel_rfl) (fun _ _ _ h=>h) ⟨Or.inl ⟨by kernel_rfl,fun W hSw=>by skip;clear hSw;go_simp⟩,fun _ _=>rfl⟩ hHeld ?_
  refine aV [2,3,4,11,12,14] (i:=1) (v:=.pointer (some ⟨b,0,none⟩)) rfl rfl (by kernel_rfl) (by kernel_rfl) (by kernel_rfl) (by kernel_rfl) (fun _ _ _ h=>h) ⟨Or.inl ⟨by kernel_rfl,fun W hSw=>by have h0:=hSw.2.cell 0;have hz:=hSw.2.lt;clear hSw;go_simp⟩,fun _ _=>rfl⟩ hHeld ?_
  refine aV [3,4,11,12,14] (i:=2) (v:=.pointer (some ⟨b,0,none⟩)) rfl rfl (by kernel_rfl) (by kernel_rfl) (by kernel_rfl) (by kernel_rfl) (fun _ _ _ h=>h) ⟨Or.inl ⟨by kernel_rfl,fun W hSw=>by have hz:=hSw.1.lt;have hy:=(show W.heap[b]?=_ from hSw.1);clear hSw;go_simp⟩,fun _ _=>rfl⟩ hHeld ?_
  refine aV [4,11,12,14] (i:=3) (v:=.pointer (some ⟨b,0,none⟩)) rfl rfl (by kernel_rfl) (by kernel_rfl) (by kernel_rfl) (by kernel_rfl) (fun _ _ _ h=>h) ⟨Or.inl ⟨by kernel_rfl,fun W hSw=>by skip;clear hSw;go_simp⟩,fun _ _=>rfl⟩ hHeld ?_
  refine aV [11,12,14] (i:=4) (v:=.agg #[.int .i64 k,.int .i64 f,.int .i64 t,.slice pw nw cw,.int .i64 rad,.int .i64 most]) rfl rfl (by kernel_rfl) (by kernel_rfl) (by kernel_rfl) (by kernel_rfl) (fun _ _ _ h=>h) ⟨Or.inl ⟨by kernel_rfl,fun W hSw=>by have h0:=hSw.1.cell 0;have h1:=hSw.1.cell 1;have h2:=hSw.1.cell 2;have h3:=hSw.1.cell 3;have h4:=hSw.1.cell 4;have h5:=hSw.1.cell 5;clear hSw;go_simp⟩,fun _ _=>rfl⟩ hHeld ?_
  refine aV [6,7,8,11,12,14] (i:=5) (v:=.pointer (some ⟨b,0,none⟩)) rfl rfl (by kernel_rfl) (by kernel_rfl) (by kernel_rfl) (by kernel_rfl) (fun _ _ _ h=>h) ⟨Or.inl ⟨by kernel_rfl,fun W hSw=>by have h0:=hSw.2.cell 0;have hz:=hSw.2.lt;clear hSw;go_simp⟩,fun _ _=>rfl⟩ hHeld ?_
  refine aV [7,8,11,12,14] (i:=6) (v:=.pointer (some ⟨b,0,none⟩)) rfl rfl (by kernel_rfl) (by kernel_rfl) (by kernel_rfl) (by kernel_rfl) (fun _ _ _ h=>h) ⟨Or.inl ⟨by kernel_rfl,fun W hSw=>by have hz:=hSw.1.lt;have hy:=(show W.heap[b]?=_ from hSw.1);clear hSw;go_simp⟩,fun _ _=>rfl⟩ hHeld ?_
  refine aV [8,11,12,14] (i:=7) (v:=.pointer (some ⟨b,10,none⟩)) rfl rfl (by kernel_rfl) (by kernel_rfl) (by kernel_rfl) (by kernel_rfl) (fun _ _ _ h=>h) ⟨Or.inl ⟨by kernel_rfl,fun W hSw=>by skip;clear hSw;go_simp⟩,fun _ _=>rfl⟩ hHeld ?_
  refine aV [11,12,14] (i:=8) (v:=.slice pl nl cl) rfl rfl (by kernel_rfl) (by kernel_rfl) (by kernel_rfl) (by kernel_rfl) (fun _ _ _ h=>h) ⟨Or.inl ⟨by kernel_rfl,fun W hSw=>by have h0:=hSw.1.cell 10;clear hSw;go_simp⟩,fun _ _=>rfl⟩ hHeld ?_
  refine aV [11,12,14] (i:=9) (v:=.slice q Y.1.length c) rfl rfl (by kernel_rfl) (by kernel_rfl) (by kernel_rfl) (by kernel_rfl) (fun _ _ _ h=>h) ⟨Or.inl ⟨by kernel_rfl,fun W hSw=>by skip;clear hSw;go_simp⟩,fun _ _=>rfl⟩ hHeld ?_
  refine aV [11,12,14] (i:=10) (v:=.slice q2 Y.2.length c2) rfl rfl (by kernel_rfl) (by kernel_rfl) (by kernel_rfl) (by kernel_rfl) (fun _ _ _ h=>h) ⟨Or.inl ⟨by kernel_rfl,fun W hSw=>by skip;clear hSw;go_simp⟩,fun _ _=>rfl⟩ hHeld ?_
  refine jy (i:=11) (by kernel_rfl) rfl (by decide) (fun K hK=>?_)
  go_simp
  refine⟨trivial,callsIn_wide.2 (HD.out.mono ?_)⟩
  rintro e w6 ⟨hq,hc,rfl,Z⟩
  have S6:=lh (SE.out.comp Z)
  have hw8:=Nat.le_trans hw7 Z.ext.size
  obtain⟨fn,tmps,assign,body,hy,hR⟩:=HY.out pre ⟨yb,yd,yF,hq,hc,dn⟩ D5 w6 TK.out Z.ext ⟨Z,by rw [HM.out];exact Xi.out,by rw [HM.out];exact Ma.out.symm⟩
  have hy2:(Instr.yield l #[.agg #[.bool yb,.int .i64 yd,.slice hq yF.length hc],.bool dn]).run prog w6=_:=hy
  have HR:=lh hR
  clear hy Z hHeld hR HD SE TK
  refine hK _ _ ⟨S6.out.blk 1 rfl,S6.out.blk 2 rfl⟩ ?_
  clear hK
  have hHeld:=And.intro (S6.out.blk 1 rfl) (S6.out.blk 2 rfl)
  refine aV [14] (i:=12) (v:=.agg #[.bool yb,.int .i64 yd,.slice hq yF.length hc]) rfl rfl (by kernel_rfl) (by kernel_rfl) (by kernel_rfl) (by kernel_rfl) (fun _ _ _ h=>h) ⟨Or.inl ⟨by kernel_rfl,fun W hSw=>by skip;clear hSw;go_simp⟩,fun _ _=>rfl⟩ hHeld ?_
  refine aV [14] (i:=13) (v:=.bool dn) rfl rfl (by kernel_rfl) (by kernel_rfl) (by kernel_rfl) (by kernel_rfl) (fun _ _ _ h=>h) ⟨Or.inl ⟨by kernel_rfl,fun W hSw=>by skip;clear hSw;go_simp⟩,fun _ _=>rfl⟩ hHeld ?_
  clear hHeld
  refine lC (by kernel_rfl) rfl (fun K hK=>?_)
  go_simp
  refine HR.out.mono ?_
  clear HR hy2
  rintro e W3 (⟨rfl,hJ3,hk3⟩ | ⟨rfl,hJx3⟩)
  ·have Xx:=lh hJ3
   have Pp:=lh hk3
   clear hJ3 hk3
   refine hK _ _ ?_
   clear hK
   refine wpAnyIn_take (i:=15) (v:=.bool false) rfl rfl (by kernel_rfl) (by kernel_rfl) (by kernel_rfl) (fun _ _ _ h=>h) ⟨Or.inl ⟨by kernel_rfl,fun W=>by go_simp⟩,fun _=>rfl⟩ ?_
   refine wpAnyIn_done (by kernel_rfl) ?_ _
   gi_wp2
   have VB:Hid (∀ p∈[Pc.blk b 87 #[.int .i64 k,.int .i64 f,.int .i64 t,.slice pw nw cw,.int .i64 rad,.int .i64 most,.slice po no co,.slice pt nt ct,.slice pr nr cr,.slice pv nv cv,.slice pl nl cl,.int .i64 wk,.slice pp np cp,.slice q Y.1.length c,.slice q2 Y.2.length c2],Pc.blk bx 82 #[.pointer (some ⟨b,0,none⟩)],Pc.own 146 4 q Y.1.length c (au Y.1),Pc.own 138 4 q2 Y.2.length c2 (au Y.2)],∀ k,p.foot k->¬ Bd k):=fun p hp k hk hb=>by
    have h3:=(JW.out k hb).2
    simp only [List.mem_cons,List.not_mem_nil,or_false] at hp
    rcases hp with rfl | rfl | rfl | rfl
    ·exact HF.out _ (List.mem_cons_self ..) k hk hb
    ·exact HF.out _ (List.mem_cons_of_mem _ (List.mem_cons_self ..)) k hk hb
    ·have:=V3.out _ (List.mem_cons_self ..) k hk
     omega
    ·have:=V3.out _ (List.mem_cons_of_mem _ (List.mem_cons_self ..)) k hk
     omega
   have S7:=lh ((S6.out.pick (Δ:=[Pc.blk b 87 #[.int .i64 k,.int .i64 f,.int .i64 t,.slice pw nw cw,.int .i64 rad,.int .i64 most,.slice po no co,.slice pt nt ct,.slice pr nr cr,.slice pv nv cv,.slice pl nl cl,.int .i64 wk,.slice pp np cp,.slice q Y.1.length c,.slice q2 Y.2.length c2],Pc.blk bx 82 #[.pointer (some ⟨b,0,none⟩)],Pc.own 146 4 q Y.1.length c (au Y.1),Pc.own 138 4 q2 Y.2.length c2 (au Y.2)]) [1,2,3,4] (by decide) rfl).kpN yw VB.out (fun k hb=>(JW.out k hb).1) hw0 Pp.out)
   have YH:W.heap.size<=W3.heap.size:=Nat.le_trans hw8 Pp.out.size
   gi_roundg (gk - 1)
   case rel =>
    have e:(pre ++ [(⟨yb,yd,yF,hq,hc,dn⟩:KJ)]).length=m+1:=by rw [List.length_append,HM.out];rfl
    exact⟨pre ++ [(⟨yb,yd,yF,hq,hc,dn⟩:KJ)],q,Y.1.length,c,q2,Y.2.length,c2,by rw [e];omega,by rw [e,N8.out];exact S7.out,by rw [e,N8.out];exact VB.out,Xx.out,YH⟩
   case measure=>omega
  ·have MC:=lh hJx3
   clear hJx3
   refine hK _ _ ?_
   clear hK
   refine wpAnyIn_take (i:=15) (v:=.bool true) rfl rfl (by kernel_rfl) (by kernel_rfl) (by kernel_rfl) (fun _ _ _ h=>h) ⟨Or.inl ⟨by kernel_rfl,fun W=>by go_simp⟩,fun _=>rfl⟩ ?_
   refine wpAnyIn_done (by kernel_rfl) ?_ _
   gi_wp2
   refine bodyPost_ret (results_none rfl _ _ _) rfl ?_
   exact⟨⟨_,rfl⟩,.inr ⟨_,trivial,MC.out⟩⟩
end
def fe (ck:Bool) (k f t:Int) (ws:List ByteArray) (rad most:Int) (n:Nat):Int:=if ck=true then b7 k f t ws rad most ((n:Int) - 1) else 40
theorem uC (k f t:Int) (pw:Option Addr) (nw cw:Nat) (ws:List ByteArray) (rad most:Int) (po:Option Addr) (no co:Nat) (O:List Int) (pt:Option Addr) (nt ct:Nat) (T:List Int) (pr:Option Addr) (nr cr:Nat) (R:List Int) (pv:Option Addr) (nv cv:Nat) (V:List Int) (w:World) (hO:Rd w 1 po no (ab O)) (hT:Rd w 1 pt nt (ab T)) (hR:Rd w 1 pr nr (ab R)) (hV:Rd w 1 pv nv (ab V)) (hct:nt<=ct) (hcv:nv<=cv) (hW:Rd w 1 pw nw (bg ws)) (hz:∀ s∈ws,s.size<=1000000) (Kk:no<=1000) :
  Calls prog 49 #[.agg #[.int .i64 k,.int .i64 f,.int .i64 t,.slice pw nw cw,.int .i64 rad,.int .i64 most],.agg #[.slice po no co,.slice pt nt ct,.slice pr nr cr,.slice pv nv cv]] w fun e w'=>e=.returned (.int .i64 (fe (ai O T R V) k f t ws rad most no))/\Ext w w':=by
 have IK:=lh (fun W (h:Ext w W)=>iV po no co O pt nt ct T pr nr cr R pv nv cv V W (hO.ext h) (hT.ext h) (hR.ext h) (hV.ext h) hct hcv)
 have HQ:=lh (fun W (h:Ext w W)=>zG k f t pw nw cw ws rad most ((no:Int) - 1) W (hW.ext h) hz)
 have S0:=lh (((Ic.start w).al #[.int .i64 k,.int .i64 f,.int .i64 t,.slice pw nw cw,.int .i64 rad,.int .i64 most] 24 w.heap.size rfl).al #[.slice po no co,.slice pt nt ct,.slice pr nr cr,.slice pv nv cv] 27 (w.heap.size+1) (by simp))
 clear hO hT hR hV hct hcv hW hz
 obtain⟨ck,hck⟩:∃ ck,ai O T R V=ck:=⟨_,rfl⟩
 rw [hck] at IK ⊢
 obtain⟨x,hx⟩:∃ x,b7 k f t ws rad most ((no:Int) - 1)=x:=⟨_,rfl⟩
 rw [hx] at HQ
 have e1:fe ck k f t ws rad most no=if ck=true then x else 40:=by unfold fe;rw [hx]
 rw [e1]
 clear e1 hx hck
 go_enter func49,ntmps49
 cases ck with
 | false =>
  go_wp2_with (go_at_call 82;go_must (refine(IK.out _ S0.out.ext).mono ?_;rintro e w1 ⟨rfl,hb⟩;have S1:=lh (S0.out.call hb);clear hb))
  go_ret
  exact⟨rfl,S1.out.ext⟩
 | true =>
  go_wp2_with (first | (go_at_call 82;go_must (refine(IK.out _ S0.out.ext).mono ?_;rintro e w1 ⟨rfl,hb⟩;have S1:=lh (S0.out.call hb);obtain⟨b0,b1,b2,b3,b4,b5,bz⟩:=ao (S1.out.blk 1 rfl);obtain⟨c0,cz⟩:=fj (S1.out.blk 0 rfl);clear hb)) | (go_at_call 76;go_must (refine(HQ.out _ S1.out.ext).mono ?_;rintro e w2 ⟨rfl,hb⟩;have S2:=lh (S1.out.call hb);clear hb)))
  go_ret
  exact⟨rfl,S2.out.ext⟩
section
open Go
theorem lE {F:Fence} {n r:Nat} {P:Program} {ops:Array Oper} {Q:Exit->Act->World->Prop} {S:World->Prop} (y:Nat) {id:Nat} {a:Act} {w:World} (hro:F.round=none) (hnd:∀ (i:Nat) (o:Oper),ops[i]?=some o->∀ c,o.op≠.defer c) (hm:P.follows .mixedOrders=true) (hS:S w.drew)
  (h:S w.drew->ex F n P .any ops Q S y ops.size (Array.replicate ops.size false) a w.drew):(Code.region id ops true).wpIn (F.inRound r) n P Q a w :=
 wpIn_region_any hm (gW hro hnd _ _ _ _ (eK _ _ _ _ (h hS)))
theorem tO {ops:Array Oper} (h:ops.toList.all iJ=true) (i:Nat) (o:Oper) (hi:ops[i]?=some o) (c):o.op≠.defer c:=by
 intro e
 have:=List.all_eq_true.1 h o (Array.mem_toList_iff.2 (Array.mem_of_getElem? hi))
 unfold iJ at this
 rw [e] at this
 cases this
end
def AX (QX a12 QY QZ Q0 a20 a21:Value) (b:Act):Prop:=∃ u0 u1 u2 u3 u4 u5 u6 u7 u8 u9 MQ M7 u16 M8 JE u22 u23 u24 u25 u26 u27 u28 u29 u30 u31 u32 u33 u34 u35 u36 u37 u38 Na u40 Nb u42 Nc u44 u45 u46 Nf u48 u49 Ng u51 Nh u53 Ni u55 Nj Nk u58 u59 u60 Nl Nn u63 u64 Np u66:Value,b={ tmps:=#[u0,u1,u2,u3,u4,u5,u6,u7,u8,u9,QX,MQ,a12,QY,QZ,M7,u16,M8,JE,Q0,a20,a21,u22,u23,u24,u25,u26,u27,u28,u29,u30,u31,u32,u33,u34,u35,u36,u37,u38,Na,u40,Nb,u42,Nc,u44,u45,u46,Nf,u48,u49,Ng,u51,Nh,u53,Ni,u55,Nj,Nk,u58,u59,u60,Nl,Nn,u63,u64,Np,u66],defers:=[] }
theorem AY {QX a12 QY QZ Q0 a20 a21 u0 u1 u2 u3 u4 u5 u6 u7 u8 u9 MQ M7 u16 M8 JE u22 u23 u24 u25 u26 u27 u28 u29 u30 u31 u32 u33 u34 u35 u36 u37 u38 Na u40 Nb u42 Nc u44 u45 u46 Nf u48 u49 Ng u51 Nh u53 Ni u55 Nj Nk u58 u59 u60 Nl Nn u63 u64 Np u66:Value}:AX QX a12 QY QZ Q0 a20 a21 { tmps:=#[u0,u1,u2,u3,u4,u5,u6,u7,u8,u9,QX,MQ,a12,QY,QZ,M7,u16,M8,JE,Q0,a20,a21,u22,u23,u24,u25,u26,u27,u28,u29,u30,u31,u32,u33,u34,u35,u36,u37,u38,Na,u40,Nb,u42,Nc,u44,u45,u46,Nf,u48,u49,Ng,u51,Nh,u53,Ni,u55,Nj,Nk,u58,u59,u60,Nl,Nn,u63,u64,Np,u66],defers:=[] }:=⟨u0,u1,u2,u3,u4,u5,u6,u7,u8,u9,MQ,M7,u16,M8,JE,u22,u23,u24,u25,u26,u27,u28,u29,u30,u31,u32,u33,u34,u35,u36,u37,u38,Na,u40,Nb,u42,Nc,u44,u45,u46,Nf,u48,u49,Ng,u51,Nh,u53,Ni,u55,Nj,Nk,u58,u59,u60,Nl,Nn,u63,u64,Np,u66,rfl⟩
section
open Go Go.RowKit
attribute [local go_sem] Oper.semAt_some
def CA (b:Bool) (d:Int) (F:List (Int × Int)) (n e:Int) (w:World) (x:Ending) (w':World):Prop:=∃ q c',x=.returned (.tuple #[.agg #[.bool b,.int .i64 d,.slice q F.length c'],.int .i64 n,.int .i64 e])/\Ic w w' [.own 105 2 q F.length c' (aj F)]
def GZ (k t:Int) (L:List Po) (ws:List ByteArray) (most Im:Int) (m:Nat) (p:List Sq × List Sq) (w:World) (x:Ending) (w':World):Prop :=
 ∃ b d F,((m:Int)+1<=Im->uy k t L ws most p b d F/\CA b d F ((m:Int)+1) 0 w x w')/\(Im<(m:Int)+1->CA false 0 [] Im 251 w x w')
theorem jf {a1 a2 a3 a4 a5:Nat} {t1 t2 t3 t4 t5:TypeId} {c1 c2 c3 c4 c5:Array Value}:∀ p∈[Pc.blk a1 t1 c1,Pc.blk a2 t2 c2,Pc.blk a3 t3 c3,Pc.blk a4 t4 c4,Pc.blk a5 t5 c5],p.cells:=by
 intro p hp
 simp only [List.mem_cons,List.not_mem_nil,or_false] at hp
 rcases hp with rfl | rfl | rfl | rfl | rfl <;> exact Pc.blk_cells _ _ _
theorem rQ {a1 a2 a3 a4 a5 b:Nat} {t1 t2 t3 t4 t5:TypeId} {c1 c2 c3 c4 c5:Array Value} (h:a1≠b/\a2≠b/\a3≠b/\a4≠b/\a5≠b):∀ p∈[Pc.blk a1 t1 c1,Pc.blk a2 t2 c2,Pc.blk a3 t3 c3,Pc.blk a4 t4 c4,Pc.blk a5 t5 c5],∀ k,p.foot k->¬ k=b:=by
 intro p hp k hk e
 obtain⟨h1,h2,h3,h4,h5⟩:=h
 simp only [List.mem_cons,List.not_mem_nil,or_false] at hp
 rcases hp with rfl | rfl | rfl | rfl | rfl
 ·exact h1 ((show k=a1 from hk).symm.trans e)
 ·exact h2 ((show k=a2 from hk).symm.trans e)
 ·exact h3 ((show k=a3 from hk).symm.trans e)
 ·exact h4 ((show k=a4 from hk).symm.trans e)
 ·exact h5 ((show k=a5 from hk).symm.trans e)
theorem tk {e0:TypeId} {sz:Nat} {q0:Option Addr} {n0 c0:Nat} {xs:List Value} {a2 a3 a4:Nat} {t2 t3 t4:TypeId} {c2 c3 c4:Array Value}:∀ p∈[Pc.own e0 sz q0 n0 c0 xs,Pc.blk a2 t2 c2,Pc.blk a3 t3 c3,Pc.blk a4 t4 c4],p.cells:=by
 intro p hp
 simp only [List.mem_cons,List.not_mem_nil,or_false] at hp
 rcases hp with rfl | rfl | rfl | rfl
 ·exact Pc.own_cells _ _ _ _ _ _
 all_goals exact Pc.blk_cells _ _ _
theorem C0 {e0:TypeId} {sz:Nat} {q0:Option Addr} {n0 c0:Nat} {xs:List Value} {a2 a3 a4 b:Nat} {t2 t3 t4:TypeId} {c2 c3 c4:Array Value} (h0:∀ kk,bi q0=some kk->kk≠b) (h:a2≠b/\a3≠b/\a4≠b):∀ p∈[Pc.own e0 sz q0 n0 c0 xs,Pc.blk a2 t2 c2,Pc.blk a3 t3 c3,Pc.blk a4 t4 c4],∀ k,p.foot k->¬ k=b:=by
 intro p hp k hk e
 obtain⟨h2,h3,h4⟩:=h
 simp only [List.mem_cons,List.not_mem_nil,or_false] at hp
 rcases hp with rfl | rfl | rfl | rfl
 ·exact h0 k hk e
 ·exact h2 ((show k=a2 from hk).symm.trans e)
 ·exact h3 ((show k=a3 from hk).symm.trans e)
 ·exact h4 ((show k=a4 from hk).symm.trans e)
theorem FJ (k f t:Int) (pw:Option Addr) (nw cw:Nat) (ws:List ByteArray) (rad most:Int) (po:Option Addr) (no co:Nat) (O:List Int) (pt:Option Addr) (nt ct:Nat) (T:List Int) (pr:Option Addr) (nr cr:Nat) (R:List Int) (pv:Option Addr) (nv cv:Nat) (V:List Int) (pl:Option Addr) (nl cl:Nat) (hs:List Hd) (L:List Po) (wk:Nat) (Im:Int) (pp:Option Addr) (np cp:Nat) (pk:List Int) (w:World) (n m:Nat) (rn:Nat->List Sq × List Sq) (hO:Rd w 1 po no (ab O)) (hT:Rd w 1 pt nt (ab T)) (hR:Rd w 1 pr nr (ab R)) (hV:Rd w 1 pv nv (ab V)) (hct:nt<=ct) (hcv:nv<=cv)
  (hL:IW w pl nl hs L) (hW:Rd w 1 pw nw (bg ws)) (hpk:Rd w 1 pp np (ab pk)) (hck:ai O T R V=true) (hn:O.length=n+1) (Iu:n<=200) (h1:1<=wk) (h16:wk<=16)
  (hz:∀ s∈ws,s.size<=1000000) (hq:b7 k f t ws rad most (n:Int)=0) (hb1:1<=Im) (hb2:Im<=9223372036854775807) (hm:m<200)
  (hk:k=1\/k=2\/k=3) (ht:Ii t) (hcw:nw<=cw) (hnw:nw<=100) (hok:Io L)
  (hr0:rn 0=([],aL k f t 0)) (hrn:∀ i,Jy n i (rn i)) (hrs:∀ i,rn (i+1)=cU (aG k rad true O T R V) (rn i).1 (rn i).2)
  (hd:bt k t (rn (m+1))=true) (hf:∀ j,j<m->bt k t (rn (j+1))=false) :
  Calls prog 17 #[.agg #[.int .i64 k,.int .i64 f,.int .i64 t,.slice pw nw cw,.int .i64 rad,.int .i64 most],.agg #[.slice po no co,.slice pt nt ct,.slice pr nr cr,.slice pv nv cv],.slice pl nl cl,.int .i64 wk,.int .i64 Im,.slice pp np cp] w (GZ k t L ws most Im m (rn (m+1)) w):=by
 have hno:no=n+1:=by rw [hO.nI,hn]
 have II:=lh (fun W (h:Ext w W)=>uC k f t pw nw cw ws rad most po no co O pt nt ct T pr nr cr R pv nv cv V W (hO.ext h) (hT.ext h) (hR.ext h) (hV.ext h) hct hcv (hW.ext h) hz (by omega))
 rw [hck] at II
 have e1:fe true k f t ws rad most no=0:=by
  unfold fe
  rw [if_pos rfl,hno]
  have:((n+1:Nat):Int) - 1=n:=by omega
  rw [this,hq]
 rw [e1] at II
 have Ui:=lh (fun W=>Er k f t pw nw cw rad most 0 W)
 obtain⟨M0,hM0⟩:∃ M0,aL k f t 0=M0:=⟨_,rfl⟩
 rw [hM0] at Ui hr0
 have HIT:=lh (fun (W:World) (b bx:Nat) (pm:Option Addr) (nm cm:Nat) (Bd:Nat->Prop) =>
  Dp 8 (by omega) k f t pw nw cw ws rad most po no co O pt nt ct T pr nr cr R pv nv cv V pl nl cl hs L wk pp np cp pk w W b bx pm nm cm n rn Bd hO hT hR hV hct hcv hL hW hpk hck hn Iu h1 h16 hk ht hcw hnw hok (by rw [hr0]) hrn hrs)
 rw [hr0] at HIT
 have Pk:=lh (fun W=>zU 0 wk W (by omega) (by omega) h1 h16)
 have Mc:=lh hd
 have IU:=lh hf
 have db:decide (Im<1)=false:=by simp;omega
 have S0:=lh ((((((((Ic.start w).al #[.int .i64 k,.int .i64 f,.int .i64 t,.slice pw nw cw,.int .i64 rad,.int .i64 most] 24 w.heap.size rfl).al #[.slice po no co,.slice pt nt ct,.slice pr nr cr,.slice pv nv cv] 27 (w.heap.size+1) (by simp)).al #[.int .i64 Im] 3 (w.heap.size+1+1) (by simp)).al #[.bool false,.int .i64 0,.slice none 0 0] 34 (w.heap.size+1+1+1) (by simp)).al #[.int .i64 0] 3 (w.heap.size+1+1+1+1) (by simp)).al #[.int .i64 0] 35 (w.heap.size+1+1+1+1+1) (by simp)))
 clear hO hT hR hV hct hcv hL hW hpk hck hn Iu h1 h16 hz hq hk ht hcw hnw hok hr0 hrn hrs hd hf hM0 e1 hno
 refine(callsIn_wide (n:=9)).1 ?_
 refine callsIn_of_wp_marks func17 rfl trivial ?_ rfl
 simp only [ntmps17,List.size_toArray,List.length_cons,List.length_nil,Nat.reduceAdd,Nat.reduceSub,Array.replicate_succ,Array.replicate_zero,List.push_toArray,List.append_toArray,List.nil_append,List.cons_append]
 refine wpIn_wide.2 ?_
 go_wp2_with (first | (go_at_call 49;go_must (refine(II.out _ S0.out.ext).mono ?_;rintro e w1 ⟨rfl,hb⟩;have S1:=lh (S0.out.call hb);obtain⟨b0,bz⟩:=fj (S1.out.blk 3 rfl);clear hb)) | (go_at_call 50;go_must (refine(Pk.out _).mono ?_;rintro e w2 ⟨rfl,rfl⟩)))
 refine wp_region_noPanic ?_
 refine wp_region_held_drew (S:=fun W=>Ih W w.heap.size 24 #[.int .i64 k,.int .i64 f,.int .i64 t,.slice pw nw cw,.int .i64 rad,.int .i64 most]/\Ih W (w.heap.size+1) 27 #[.slice po no co,.slice pt nt ct,.slice pr nr cr,.slice pv nv cv]) (by kernel_rfl) ⟨S1.out.drew.blk 5 rfl,S1.out.drew.blk 4 rfl⟩ (fun hHeld=>?_)
 have SD:=lh S1.out.drew
 clear S0 S1 b0 bz II Pk db
 generalize World.drew _=D at SD hHeld ⊢
 refine br 0 (.agg #[.int .i64 k,.int .i64 f,.int .i64 t,.slice pw nw cw,.int .i64 rad,.int .i64 most]) rfl (fun W hSw=>by have h0:=hSw.1.cell 0;have h1:=hSw.1.cell 1;have h2:=hSw.1.cell 2;have h3:=hSw.1.cell 3;have h4:=hSw.1.cell 4;have h5:=hSw.1.cell 5;clear hSw;go_simp) hHeld ?_
 refine br 1 (.agg #[.slice po no co,.slice pt nt ct,.slice pr nr cr,.slice pv nv cv]) rfl (fun W hSw=>by have h0:=hSw.2.cell 0;have h1:=hSw.2.cell 1;have h2:=hSw.2.cell 2;have h3:=hSw.2.cell 3;clear hSw;go_simp) hHeld ?_
 refine br 2 (.slice pl nl cl) rfl (fun W hSw=>by skip;clear hSw;go_simp) hHeld ?_
 refine br 3 (.int .i64 wk) rfl (fun W hSw=>by skip;clear hSw;go_simp) hHeld ?_
 refine br 4 (.slice pp np cp) rfl (fun W hSw=>by skip;clear hSw;go_simp) hHeld ?_
 refine br 5 (.agg #[.int .i64 k,.int .i64 f,.int .i64 t,.slice pw nw cw,.int .i64 rad,.int .i64 most]) rfl (fun W hSw=>by have h0:=hSw.1.cell 0;have h1:=hSw.1.cell 1;have h2:=hSw.1.cell 2;have h3:=hSw.1.cell 3;have h4:=hSw.1.cell 4;have h5:=hSw.1.cell 5;clear hSw;go_simp) hHeld ?_
 refine wpAnyH_ready (rs:=[6]) (by kernel_rfl) (by simp) (AllReadyH.cons rfl (fun K hK=>?_) AllReadyH.nil)
 go_simp
 refine(Ui.out D).mono ?_
 rintro e w3 ⟨q,c,rfl,Z⟩
 have S3:=lh (SD.out.comp Z)
 clear Z SD hHeld Ui
 refine hK.out _ _ ⟨S3.out.blk 6 rfl,S3.out.blk 5 rfl⟩ (fun hHeld=>?_)
 clear hK
 refine br 7 (.agg #[.int .i64 k,.int .i64 f,.int .i64 t,.slice pw nw cw,.int .i64 rad,.int .i64 most,.slice po no co,.slice pt nt ct,.slice pr nr cr,.slice pv nv cv,.slice pl nl cl,.int .i64 wk,.slice pp np cp,.slice none 0 0,.slice q M0.length c]) rfl (fun W hSw=>by skip;clear hSw;go_simp) hHeld ?_
 refine wpAnyH_ready (rs:=[8]) (by kernel_rfl) (by simp) (AllReadyH.cons rfl (fun K hK=>?_) AllReadyH.nil)
 go_simp
 have S4:=lh (S3.out.al #[.int .i64 k,.int .i64 f,.int .i64 t,.slice pw nw cw,.int .i64 rad,.int .i64 most,.slice po no co,.slice pt nt ct,.slice pr nr cr,.slice pv nv cv,.slice pl nl cl,.int .i64 wk,.slice pp np cp,.slice none 0 0,.slice q M0.length c] 87 w3.heap.size rfl)
 clear hHeld
 refine hK.out _ _ ⟨S4.out.blk 7 rfl,S4.out.blk 6 rfl⟩ (fun hHeld=>?_)
 clear hK
 refine br 9 (.pointer (some ⟨w3.heap.size,0,none⟩)) rfl (fun W hSw=>by skip;clear hSw;go_simp) hHeld ?_
 refine wpAnyH_done (by kernel_rfl) ?_ _
 refine bm ?_
 clear hHeld
 simp [Act.put]
 obtain⟨X,hX⟩:∃ X,w3.alloc (.cells #[.int .i64 k,.int .i64 f,.int .i64 t,.slice pw nw cw,.int .i64 rad,.int .i64 most,.slice po no co,.slice pt nt ct,.slice pr nr cr,.slice pv nv cv,.slice pl nl cl,.int .i64 wk,.slice pp np cp,.slice none 0 0,.slice q M0.length c] 87)=X:=⟨_,rfl⟩
 rw [hX] at S4 ⊢
 clear hX S3
 generalize w3.heap.size=b at S4 ⊢
 clear w3 D
 have S5:=lh (S4.out.al #[.int .i64 0] 3 X.heap.size rfl)
 have S6:=lh (S5.out.al #[.pointer (some ⟨b,0,none⟩)] 82 (X.heap.size+1) (by simp))
 go_wp2_with (go_at_call 52;go_must (refine(Es b _).mono ?_;rintro e w5 ⟨rfl,rfl⟩))
 obtain⟨V1,hV⟩:∃ V1,(X.alloc (.cells #[.int .i64 0] 3)).alloc (.cells #[.pointer (some ⟨b,0,none⟩)] 82)=V1:=⟨_,rfl⟩
 rw [hV] at S6 ⊢
 clear hV S5 S4
 generalize X.heap.size+1=bx at S6 ⊢
 generalize X.heap.size=gn at S6 ⊢
 generalize w.heap.size+1+1+1+1+1=g14 at S6 ⊢
 generalize w.heap.size+1+1+1+1=g13 at S6 ⊢
 generalize w.heap.size+1+1+1=g12 at S6 ⊢
 generalize w.heap.size+1+1=gb at S6 ⊢
 clear X
 have S7:=lh (S6.out.nilrow 146 4)
 have SG:=lh (S7.out.pick (Δ:=[Pc.blk gn 3 #[.int .i64 0],Pc.blk g12 34 #[.bool false,.int .i64 0,.slice none 0 0],Pc.blk g13 3 #[.int .i64 0],Pc.blk g14 35 #[.int .i64 0],Pc.blk gb 3 #[.int .i64 Im]]) [2,7,6,5,8] (by decide) rfl)
 have SX:=lh (S7.out.pick (Δ:=[Pc.blk b 87 #[.int .i64 k,.int .i64 f,.int .i64 t,.slice pw nw cw,.int .i64 rad,.int .i64 most,.slice po no co,.slice pt nt ct,.slice pr nr cr,.slice pv nv cv,.slice pl nl cl,.int .i64 wk,.slice pp np cp,.slice none 0 0,.slice q M0.length c],Pc.blk bx 82 #[.pointer (some ⟨b,0,none⟩)],Pc.own 146 4 none 0 0 (au []),Pc.own 138 4 q M0.length c (au M0)]) [3,1,0,4] (by decide) rfl)
 have hap:∀ p∈[Pc.blk b 87 #[.int .i64 k,.int .i64 f,.int .i64 t,.slice pw nw cw,.int .i64 rad,.int .i64 most,.slice po no co,.slice pt nt ct,.slice pr nr cr,.slice pv nv cv,.slice pl nl cl,.int .i64 wk,.slice pp np cp,.slice none 0 0,.slice q M0.length c],Pc.blk bx 82 #[.pointer (some ⟨b,0,none⟩)],Pc.own 146 4 none 0 0 (au []),Pc.own 138 4 q M0.length c (au M0)],∀ p2∈[Pc.blk gn 3 #[.int .i64 0],Pc.blk g12 34 #[.bool false,.int .i64 0,.slice none 0 0],Pc.blk g13 3 #[.int .i64 0],Pc.blk g14 35 #[.int .i64 0],Pc.blk gb 3 #[.int .i64 Im]],∀ kk,p.foot kk->p2.foot kk->False:=by
  have hA:=List.pairwise_append.1 (S7.out.pick (Δ:=[Pc.blk b 87 #[.int .i64 k,.int .i64 f,.int .i64 t,.slice pw nw cw,.int .i64 rad,.int .i64 most,.slice po no co,.slice pt nt ct,.slice pr nr cr,.slice pv nv cv,.slice pl nl cl,.int .i64 wk,.slice pp np cp,.slice none 0 0,.slice q M0.length c],Pc.blk bx 82 #[.pointer (some ⟨b,0,none⟩)],Pc.own 146 4 none 0 0 (au []),Pc.own 138 4 q M0.length c (au M0)] ++ [Pc.blk gn 3 #[.int .i64 0],Pc.blk g12 34 #[.bool false,.int .i64 0,.slice none 0 0],Pc.blk g13 3 #[.int .i64 0],Pc.blk g14 35 #[.int .i64 0],Pc.blk gb 3 #[.int .i64 Im]]) [3,1,0,4,2,7,6,5,8] (by decide) rfl).apart
  exact fun p hp p2 hp2 kk hk hk2=>hA.2.2 p hp p2 hp2 kk hk hk2
 have Vt:=lh hap
 clear S6 S7 hap
 have Pv:Hid (gn≠b/\g12≠b/\g13≠b/\g14≠b/\gb≠b):=by
  have key:∀ p2∈[Pc.blk gn 3 #[.int .i64 0],Pc.blk g12 34 #[.bool false,.int .i64 0,.slice none 0 0],Pc.blk g13 3 #[.int .i64 0],Pc.blk g14 35 #[.int .i64 0],Pc.blk gb 3 #[.int .i64 Im]],¬ p2.foot b:=fun p2 hp2 hk2=>Vt.out _ (List.mem_cons_self ..) p2 hp2 b rfl hk2
  exact⟨fun e=>key (Pc.blk gn 3 #[.int .i64 0]) (by simp) e.symm,fun e=>key (Pc.blk g12 34 #[.bool false,.int .i64 0,.slice none 0 0]) (by simp) e.symm,fun e=>key (Pc.blk g13 3 #[.int .i64 0]) (by simp) e.symm,fun e=>key (Pc.blk g14 35 #[.int .i64 0]) (by simp) e.symm,fun e=>key (Pc.blk gb 3 #[.int .i64 Im]) (by simp) e.symm⟩
 obtain⟨Bd,hBd⟩:∃ Bd:Nat->Prop,Bd=j3 [Pc.blk gn 3 #[.int .i64 0],Pc.blk g12 34 #[.bool false,.int .i64 0,.slice none 0 0],Pc.blk g13 3 #[.int .i64 0],Pc.blk g14 35 #[.int .i64 0],Pc.blk gb 3 #[.int .i64 Im]]:=⟨_,rfl⟩
 have JW:=lh hBd
 clear hBd
 refine wpIn_wide.1 (jB (F:=Fence.wide) (n:=9) rfl (by omega) (gf:=93) (lb:=#[.pointer (some ⟨bx,0,none⟩)]) rfl trivial (enters_of func93 (by kernel_rfl) rfl)
  (HIT.out V1 b bx q M0.length c Bd SX.out ?hBl ?hBf) ?hXl
  (fun h k=>h.trans k) ?hKb (Below.refl _ _) (fun _=>rfl)
  (fun (pre:List KJ) W=>Ic w W [Pc.blk gn 3 #[.int .i64 (pre.length:Int)],Pc.blk g12 34 #[.bool false,.int .i64 0,.slice none 0 0],Pc.blk g13 3 #[.int .i64 0],Pc.blk g14 35 #[.int .i64 0],Pc.blk gb 3 #[.int .i64 Im]]/\V1.heap.size<=W.heap.size/\pre.length<=m/\(pre.length:Int)<Im)
  (fun c2 (pre:List KJ) W=>(c2=.ret/\∃ y:KJ,pre.length=m+1/\(m:Int)+1<=Im/\(∀ kk,bi y.q=some kk->kk≠b)/\uy k t L ws most (rn (m+1)) y.yes y.d y.F/\Ic w W [Pc.own 105 2 y.q y.F.length y.c (aj y.F),Pc.blk g12 34 #[.bool y.yes,.int .i64 y.d,.slice y.q y.F.length y.c],Pc.blk g13 3 #[.int .i64 ((m:Int)+1)],Pc.blk g14 35 #[.int .i64 0]])\/(c2=.exit 0/\Im<(m:Int)+1/\Ic w W [Pc.blk gn 3 #[.int .i64 Im],Pc.blk g12 34 #[.bool false,.int .i64 0,.slice none 0 0],Pc.blk g13 3 #[.int .i64 0],Pc.blk g14 35 #[.int .i64 0],Pc.blk gb 3 #[.int .i64 Im]]))
  ?hI ?hIx ?hQ ?h0
  (fun (pre:List KJ) (y:KJ) a' W=>∃ ga,(∀ kk,bi y.q=some kk->kk≠b)/\ga≠b/\AX (.pointer (some ⟨gb,0,none⟩)) (.pointer (some ⟨g12,0,none⟩)) (.pointer (some ⟨g13,0,none⟩)) (.pointer (some ⟨g14,0,none⟩)) (.pointer (some ⟨gn,0,none⟩)) (.pointer (some ⟨ga,0,none⟩)) (.bool y.dn) a'/\Ic w W ([Pc.blk ga 34 #[.bool y.yes,.int .i64 y.d,.slice y.q y.F.length y.c],Pc.own 105 2 y.q y.F.length y.c (aj y.F)] ++ [Pc.blk gn 3 #[.int .i64 (pre.length:Int)],Pc.blk g12 34 #[.bool false,.int .i64 0,.slice none 0 0],Pc.blk g13 3 #[.int .i64 0],Pc.blk g14 35 #[.int .i64 0],Pc.blk gb 3 #[.int .i64 Im]])/\uy k t L ws most (rn (pre.length+1)) y.yes y.d y.F/\y.dn=bt k t (rn (pre.length+1)))
  ?hAx ?assign ?body (fun D xs W _ h _ _=>h.elim) ?stop)
 case hBl =>
  intro kk hk
  rw [JW.out] at hk
  obtain⟨p,hp,hk⟩:=hk
  exact⟨SG.out.new p hp kk hk,SG.out.lt hp hk⟩
 case hBf =>
  intro p hp kk hk hb
  rw [JW.out] at hb
  obtain⟨p2,hp2,hk2⟩:=hb
  exact Vt.out p hp p2 hp2 kk hk hk2
 case hXl=>rintro kk rfl;exact(SX.out.blk 0 rfl).lt
 case hKb=>exact fun W l o o' hl ho hc _=>Kb.putObj W l o o' hl ho hc
 case hI =>
  rintro pre W W' row ⟨S,h1,h2⟩ hg hr
  exact⟨S.turnX jf (rQ Pv.out) (fun kk e=>by rw [e];exact SX.out.bge 0 rfl) SG.out.ext.size hg hr,Nat.le_trans h1 hg.size,h2⟩
 case hIx =>
  rintro c2 pre W W' row h hg hr
  rcases h with ⟨rfl,y,h1,h2,h3,h4,S⟩ | ⟨rfl,h1,S⟩
  ·exact .inl ⟨rfl,y,h1,h2,h3,h4,S.turnX tk (C0 h3 ⟨Pv.out.2.1,Pv.out.2.2.1,Pv.out.2.2.2.1⟩) (fun kk e=>by rw [e];exact SX.out.bge 0 rfl) SG.out.ext.size hg hr⟩
  ·exact .inr ⟨rfl,h1,S.turnX jf (rQ Pv.out) (fun kk e=>by rw [e];exact SX.out.bge 0 rfl) SG.out.ext.size hg hr⟩
 case hQ=>exact fun pre W h=>Nat.lt_of_le_of_lt h.2.2.1 hm
 case h0=>exact⟨SG.out,Nat.le_refl _,Nat.zero_le _,by show ((0:Nat):Int)<Im;omega⟩
 case hAx =>
  rintro pre y a' _ W W' row ⟨ga,h1,h2,h3,S,h4⟩ hg hr
  refine⟨ga,h1,h2,h3,S.turnX (fun p hp=>?_) (fun p hp kk hk e=>?_) (fun kk e=>by rw [e];exact SX.out.bge 0 rfl) SG.out.ext.size hg hr,h4⟩
  ·rcases List.mem_append.1 hp with hp | hp
   ·simp only [List.mem_cons,List.not_mem_nil,or_false] at hp
    rcases hp with rfl | rfl
    ·exact Pc.blk_cells _ _ _
    ·exact Pc.own_cells _ _ _ _ _ _
   ·exact jf p hp
  ·rcases List.mem_append.1 hp with hp | hp
   ·simp only [List.mem_cons,List.not_mem_nil,or_false] at hp
    rcases hp with rfl | rfl
    ·exact h2 ((show kk=ga from hk).symm.trans e)
    ·exact h1 kk hk e
   ·exact rQ Pv.out p hp kk hk e
 case assign =>
  rintro l pre y V0 W Kx ⟨S,Kl,hpm,hpb⟩ hE ⟨hA1,hA2,hA3⟩ hKx
  have TP:=lh hKx
  have SY:=lh ((S.comp hA1).al #[.bool y.yes,.int .i64 y.d,.slice y.q y.F.length y.c] 34 W.heap.size rfl)
  have Vx:=lh (show b<V0.heap.size from Nat.lt_of_lt_of_le (SX.out.blk 0 rfl).lt Kl)
  have HH:=lh (show ∀ kk,bi y.q=some kk->kk≠b from fun kk hk e=>by
   have:=hA1.new _ (List.mem_cons_self ..) kk hk
   have:=Vx.out
   omega)
  have VZ:=lh hE.size
  have HA2:=lh hA2
  have Xg:=lh hA3
  clear hKx S hA1 hA2 hA3
  simp only [Hw]
  gi_wp2
  exact TP.out _ _ ((eG (Ext.alloc (Below.refl _ _) _)).from _) (Kb.of_ext (Ext.alloc (Below.refl _ _) _)) ⟨SY.out.pick [2,3,4,5,6] (by decide) rfl,by rw [World.size_alloc];have:=VZ.out;omega,hpm,hpb⟩ ⟨W.heap.size,HH.out,by have:=VZ.out;have:=Vx.out;omega,AY,SY.out,HA2.out,Xg.out⟩
 case body =>
  rintro l pre y a' W ⟨_,Kl,hpm,hpb⟩ ⟨ga,hyb,hgb,hfr,S,hA,hdn⟩
  obtain⟨j,hj⟩:∃ j,pre.length=j:=⟨_,rfl⟩
  have hj2:(pre ++ [y]).length=j+1:=by rw [List.length_append,hj];rfl
  rw [hj] at hpm hpb S hA hdn
  obtain⟨JV,hpre⟩:∃ JV,pre ++ [y]=JV:=⟨_,rfl⟩
  rw [hpre] at hj2 ⊢
  obtain⟨yes,d,F,yq,yc,dn⟩:=y
  dsimp only at hyb hfr S hA hdn
  have HJ2:=lh hj2
  have XU:=lh hyb
  have HA:=lh hA
  clear hj hj2 hpre hyb hA
  obtain⟨n0,nf,nz⟩:=dC (S.blk 2 rfl)
  have d1:(0:Int)<=(j:Int):=by omega
  have d2:(j:Int)<=1000:=by omega
  have S1:=lh (S.set 2 rfl 0 (.int .i64 ((j:Int)+1)))
  have K1:=lh (KeepsOthers.setCell W ⟨gn,0,none⟩ (.int .i64 ((j:Int)+1)))
  have KP:=lh (Kb.cell (Bd:=Bd) (C:=V1.heap.size) W ⟨gn,0,none⟩ (.int .i64 ((j:Int)+1)) (by rw [JW.out];exact⟨_,List.mem_cons_self ..,rfl⟩))
  have Jh:=lh (show V1.heap.size<=(W.setCell ⟨gn,0,none⟩ (.int .i64 ((j:Int)+1))).heap.size from Nat.le_trans Kl (dG ..).size)
  clear S
  unfold AX at hfr
  (repeat obtain⟨_,hfr⟩:=hfr)
  by_cases hjm:j=m
  ·subst hjm
   have hdt:dn=true:=by rw [hdn,Mc.out]
   subst hdt
   clear hdn IU
   gi_wp2
   clear n0 nf nz
   have S2:=lh (show Ic w (W.setCell ⟨gn,0,none⟩ (.int .i64 ((j:Int)+1))).drew ([Pc.blk ga 34 #[.bool yes,.int .i64 d,.slice yq F.length yc],Pc.own 105 2 yq F.length yc (aj F)] ++ [Pc.blk gn 3 #[.int .i64 ((j:Int)+1)],Pc.blk g12 34 #[.bool false,.int .i64 0,.slice none 0 0],Pc.blk g13 3 #[.int .i64 0],Pc.blk g14 35 #[.int .i64 0],Pc.blk gb 3 #[.int .i64 Im]]) from S1.out.drew)
   have K2:=lh (K1.out.trans (eG (Below.refl _ (W.setCell ⟨gn,0,none⟩ (.int .i64 ((j:Int)+1)))).drew))
   refine lE (S:=fun U=>Ih U ga 34 #[.bool yes,.int .i64 d,.slice yq F.length yc]/\Ih U gn 3 #[.int .i64 ((j:Int)+1)]) 4 rfl (tO (by kernel_rfl)) (by kernel_rfl) ⟨S2.out.blk 0 rfl,S2.out.blk 2 rfl⟩ (fun hHeld=>?_)
   clear S1 K1 KP Jh
   generalize World.drew _=D at S2 K2 hHeld ⊢
   refine aV [2,3,4] (i:=0) (v:=.agg #[.bool yes,.int .i64 d,.slice yq F.length yc]) rfl rfl (by kernel_rfl) (by kernel_rfl) (by kernel_rfl) (by kernel_rfl) (fun _ _ _ h=>h) ⟨Or.inl ⟨by kernel_rfl,fun W hSw=>by have h0:=hSw.1.cell 0;have h1:=hSw.1.cell 1;have h2:=hSw.1.cell 2;have h3:=hSw.1.lt;clear hSw;go_simp⟩,fun _ _=>rfl⟩ hHeld ?_
   refine aV [3,4] (i:=1) (v:=.int .i64 ((j:Int)+1)) rfl rfl (by kernel_rfl) (by kernel_rfl) (by kernel_rfl) (by kernel_rfl) (fun _ _ _ h=>h) ⟨Or.inl ⟨by kernel_rfl,fun W hSw=>by have h0:=hSw.2.cell 0;have h3:=hSw.2.lt;clear hSw;go_simp⟩,fun _ _=>rfl⟩ hHeld ?_
   obtain⟨c0,c1,c2,cz,KL,Uv,Uw⟩:=ag (S2.out.blk 3 rfl)
   refine jy (i:=2) (by kernel_rfl) rfl (by decide) (fun K hK=>?_)
   go_simp
   have S3:=lh (show Ic w (((D.setCell ⟨g12,0,none⟩ (.bool yes)).setCell ⟨g12,1,none⟩ (.int .i64 d)).setCell ⟨g12,2,none⟩ (.slice yq F.length yc)) [Pc.blk ga 34 #[.bool yes,.int .i64 d,.slice yq F.length yc],Pc.own 105 2 yq F.length yc (aj F),Pc.blk gn 3 #[.int .i64 ((j:Int)+1)],Pc.blk g12 34 #[.bool yes,.int .i64 d,.slice yq F.length yc],Pc.blk g13 3 #[.int .i64 0],Pc.blk g14 35 #[.int .i64 0],Pc.blk gb 3 #[.int .i64 Im]] from((S2.out.set 3 rfl 0 (.bool yes)).set 3 rfl 1 (.int .i64 d)).set 3 rfl 2 (.slice yq F.length yc))
   have K3:=lh (((K2.out.trans (KeepsOthers.setCell D ⟨g12,0,none⟩ (.bool yes))).trans (KeepsOthers.setCell _ ⟨g12,1,none⟩ (.int .i64 d))).trans (KeepsOthers.setCell _ ⟨g12,2,none⟩ (.slice yq F.length yc)))
   clear c0 c1 c2 cz KL Uv Uw S2 K2 hHeld
   refine hK _ _ ⟨S3.out.blk 0 rfl,S3.out.blk 2 rfl⟩ ?_
   clear hK
   generalize ((D.setCell ⟨g12,0,none⟩ (.bool yes)).setCell ⟨g12,1,none⟩ (.int .i64 d)).setCell ⟨g12,2,none⟩ (.slice yq F.length yc)=D3 at S3 K3 ⊢
   obtain⟨c0,cz,KL⟩:=cZ (S3.out.blk 4 rfl)
   refine jy (i:=3) (by kernel_rfl) rfl (by decide) (fun K hK=>?_)
   go_simp
   have S4:=lh (show Ic w (D3.setCell ⟨g13,0,none⟩ (.int .i64 ((j:Int)+1))) [Pc.blk ga 34 #[.bool yes,.int .i64 d,.slice yq F.length yc],Pc.own 105 2 yq F.length yc (aj F),Pc.blk gn 3 #[.int .i64 ((j:Int)+1)],Pc.blk g12 34 #[.bool yes,.int .i64 d,.slice yq F.length yc],Pc.blk g13 3 #[.int .i64 ((j:Int)+1)],Pc.blk g14 35 #[.int .i64 0],Pc.blk gb 3 #[.int .i64 Im]] from S3.out.set 4 rfl 0 (.int .i64 ((j:Int)+1)))
   have K4:=lh (K3.out.trans (KeepsOthers.setCell D3 ⟨g13,0,none⟩ (.int .i64 ((j:Int)+1))))
   clear c0 cz KL S3 K3
   refine hK _ _ ⟨S4.out.blk 0 rfl,S4.out.blk 2 rfl⟩ ?_
   clear hK
   generalize D3.setCell ⟨g13,0,none⟩ (.int .i64 ((j:Int)+1))=D4 at S4 K4 ⊢
   obtain⟨c0,cz,KL⟩:=cZ (S4.out.blk 5 rfl)
   refine lC (by kernel_rfl) rfl (fun K hK=>?_)
   go_simp
   have S5:=lh (S4.out.set 5 rfl 0 (.int .i64 0))
   have K5:=lh (K4.out.trans (KeepsOthers.setCell D4 ⟨g14,0,none⟩ (.int .i64 0)))
   clear c0 cz KL S4 K4
   refine hK _ _ ?_
   clear hK
   refine wpAnyIn_done (by kernel_rfl) ?_ _
   gi_wp2
   exact⟨K5.out.from _,.inl ⟨rfl,⟨yes,d,F,yq,yc,true⟩,HJ2.out,by omega,XU.out,HA.out,S5.out.pick [1,3,4,5] (by decide) rfl⟩⟩
  ·have hdf:dn=false:=by rw [hdn];exact IU.out j (by omega)
   subst hdf
   clear hdn Mc
   obtain⟨n1,ZV⟩:=fj (S1.out.blk 2 rfl)
   obtain⟨b1,Zx⟩:=fj (S1.out.blk 6 rfl)
   by_cases hjb:(j:Int)+1=Im
   ·subst hjb
    have e1:decide ((j:Int)+1=(j:Int)+1)=true:=by simp
    gi_wp2
    exact⟨K1.out.from _,.inr ⟨rfl,by omega,S1.out.pick [2,3,4,5,6] (by decide) rfl⟩⟩
   ·have e1:decide ((j:Int)+1=Im)=false:=by simpa using hjb
    have e2:((j:Int)+1 == Im)=false:=by simpa using hjb
    gi_wp2
    have hc:((JV.length:Nat):Int)=(j:Int)+1:=by rw [HJ2.out];omega
    refine⟨K1.out.from _,KP.out,?_,Jh.out,by rw [HJ2.out];omega,by rw [hc];omega⟩
    rw [hc]
    exact S1.out.pick [2,3,4,5,6] (by decide) rfl
 case stop =>
  rintro D c2 pre W hD _ (⟨rfl,y,hl,hmb,hyb,hA,S⟩ | ⟨rfl,hmb,S⟩) hK
  ·obtain⟨yes,d,F,yq,yc,dn⟩:=y
   dsimp only at hA S
   have S':=S.putObj tk (.deferred none) (Nat.le_trans SG.out.ext.size hD) hK rfl
   obtain⟨x0,x1,x2⟩:=aw (S'.blk 1 rfl)
   have x3:=(S'.blk 2 rfl).cell 0
   have x4:=(S'.blk 3 rfl).cell 0
   have SQ:=lh (S'.pick [0] (by decide) rfl:Ic w _ [Pc.own 105 2 yq F.length yc (aj F)])
   have HA:=lh hA
   clear hA S S'
   gi_wp2
   try rw [Exit.noGoto_ret]
   refine⟨by simp,.inl ⟨_,_,rfl,run_takeDeferred hK,?_⟩⟩
   exact⟨.tuple #[.agg #[.bool yes,.int .i64 d,.slice yq F.length yc],.int .i64 ((m:Int)+1),.int .i64 0],by simp [results,results17,go_sem,x0,x1,x2,x3,x4,sizeOf34,isAgg34],yes,d,F,fun _=>⟨HA.out,yq,yc,rfl,SQ.out⟩,fun h=>absurd hmb (by omega)⟩
  ·have Ma:=lh (Nat.le_trans SG.out.ext.size hD)
   have HS:=lh (show Ic w W [Pc.blk gn 3 #[.int .i64 Im],Pc.blk g12 34 #[.bool false,.int .i64 0,.slice none 0 0],Pc.blk g13 3 #[.int .i64 0],Pc.blk g14 35 #[.int .i64 0],Pc.blk gb 3 #[.int .i64 Im],Pc.obj D (.deferred (some []))] from S.obj jf Ma.out hK rfl)
   clear S hK
   gi_wp2
   go_wp2
   refine wp_region_noPanic ?_
   refine wp_region_held_drew (S:=fun U=>Ih U gn 3 #[.int .i64 Im]) (by kernel_rfl) (HS.out.drew.blk 0 rfl) (fun hHeld=>?_)
   have S2:=lh HS.out.drew
   clear HS
   generalize World.drew _=U at S2 hHeld ⊢
   refine br 0 (.agg #[.bool false,.int .i64 0,.slice none 0 0]) rfl (fun W hSw=>by skip;clear hSw;go_simp) hHeld ?_
   refine br 1 (.int .i64 Im) rfl (fun W hSw=>by have h0:=hSw.cell 0;have h1:=hSw.lt;clear hSw;go_simp) hHeld ?_
   obtain⟨c0,c1,c2,cz,KL,Uv,Uw⟩:=ag (S2.out.blk 1 rfl)
   refine wpAnyH_ready (rs:=[2]) (by kernel_rfl) (by simp) (AllReadyH.cons rfl (fun K hK=>?_) AllReadyH.nil)
   go_simp
   have S3:=lh (((S2.out.set 1 rfl 0 (.bool false)).set 1 rfl 1 (.int .i64 0)).set 1 rfl 2 (.slice none 0 0))
   clear c0 c1 c2 cz KL Uv Uw S2 hHeld
   refine hK.out _ _ (S3.out.blk 0 rfl) (fun hHeld=>?_)
   clear hK
   generalize ((U.setCell ⟨g12,0,none⟩ (.bool false)).setCell ⟨g12,1,none⟩ (.int .i64 0)).setCell ⟨g12,2,none⟩ (.slice none 0 0)=U3 at S3 hHeld ⊢
   obtain⟨c0,cz,KL⟩:=cZ (S3.out.blk 2 rfl)
   refine wpAnyH_ready (rs:=[3]) (by kernel_rfl) (by simp) (AllReadyH.cons rfl (fun K hK=>?_) AllReadyH.nil)
   go_simp
   have S4:=lh (S3.out.set 2 rfl 0 (.int .i64 Im))
   clear c0 cz KL S3 hHeld
   refine hK.out _ _ (S4.out.blk 0 rfl) (fun hHeld=>?_)
   clear hK
   generalize U3.setCell ⟨g13,0,none⟩ (.int .i64 Im)=U4 at S4 hHeld ⊢
   obtain⟨c0,cz,KL⟩:=cZ (S4.out.blk 3 rfl)
   refine wpAnyH_ready (rs:=[4]) (by kernel_rfl) (by simp) (AllReadyH.cons rfl (fun K hK=>?_) AllReadyH.nil)
   go_simp
   have S5:=lh (show Ic w (U4.setCell ⟨g14,0,none⟩ (.int .i64 251)) [Pc.blk gn 3 #[.int .i64 Im],Pc.blk g12 34 #[.bool false,.int .i64 0,.slice none 0 0],Pc.blk g13 3 #[.int .i64 Im],Pc.blk g14 35 #[.int .i64 251],Pc.blk gb 3 #[.int .i64 Im],Pc.obj D (.deferred (some []))] from S4.out.set 3 rfl 0 (.int .i64 251))
   clear c0 cz KL S4 hHeld
   refine hK.out _ _ (S5.out.blk 0 rfl) (fun hHeld=>?_)
   clear hK hHeld
   refine wpAnyH_done (by kernel_rfl) ?_ _
   refine bm ?_
   generalize U4.setCell ⟨g14,0,none⟩ (.int .i64 251)=U5 at S5 ⊢
   have hK:U5.heap[D]?=some (.deferred (some [])):=S5.out.all (Pc.obj D (.deferred (some []))) (by simp)
   have S':=(S5.out.pick (Δ:=[Pc.blk gn 3 #[.int .i64 Im],Pc.blk g12 34 #[.bool false,.int .i64 0,.slice none 0 0],Pc.blk g13 3 #[.int .i64 Im],Pc.blk g14 35 #[.int .i64 251],Pc.blk gb 3 #[.int .i64 Im]]) [0,1,2,3,4] (by decide) rfl).putObj jf (.deferred none) Ma.out hK rfl
   obtain⟨x0,x1,x2⟩:=aw (S'.blk 1 rfl)
   have x3:=(S'.blk 2 rfl).cell 0
   have x4:=(S'.blk 3 rfl).cell 0
   have SQ:=lh ((S'.nilrow 105 2).pick (Δ:=[Pc.own 105 2 none 0 0 (aj [])]) [0] (by decide) rfl)
   clear S' S5
   try simp [Act.put]
   go_wp2
   try rw [Exit.noGoto_ret]
   refine⟨by simp,.inl ⟨_,_,rfl,run_takeDeferred hK,?_⟩⟩
   exact⟨.tuple #[.agg #[.bool false,.int .i64 0,.slice none 0 0],.int .i64 Im,.int .i64 251],by simp [results,results17,go_sem,x0,x1,x2,x3,x4,sizeOf34,isAgg34],false,0,[],fun h=>absurd hmb (by omega),fun _=>⟨none,0,rfl,SQ.out⟩⟩
end
theorem A6 (wv:Int):∃ hv ok,ok=decide (1<=wv/\wv<=16)/\∀ W,Calls prog 50 #[.int .i64 0,.int .i64 wv] W fun e w'=>e=.returned (.tuple #[.int .i64 hv,.bool ok])/\W=w':=by
 by_cases h:1<=wv/\wv<=16
 ·obtain⟨n,rfl⟩:∃ n:Nat,wv=(n:Int):=⟨wv.toNat,by omega⟩
  exact⟨_,true,by rw [decide_eq_true h],fun W=>zU 0 n W (by omega) (by omega) (by omega) (by omega)⟩
 ·exact⟨0,false,by rw [decide_eq_false h],fun W=>Eg 0 wv W (by omega)⟩
theorem Ae (k f t:Int) (pw:Option Addr) (nw cw:Nat) (ws:List ByteArray) (rad most:Int) (po:Option Addr) (no co:Nat) (O:List Int) (pt:Option Addr) (nt ct:Nat) (T:List Int) (pr:Option Addr) (nr cr:Nat) (R:List Int) (pv:Option Addr) (nv cv:Nat) (V:List Int) (pl:Option Addr) (nl cl:Nat) (wv Im:Int) (pp:Option Addr) (np cp:Nat) (w:World) (hO:Rd w 1 po no (ab O)) (hT:Rd w 1 pt nt (ab T)) (hR:Rd w 1 pr nr (ab R)) (hV:Rd w 1 pv nv (ab V)) (hct:nt<=ct) (hcv:nv<=cv)
  (hW:Rd w 1 pw nw (bg ws)) (hz:∀ s∈ws,s.size<=1000000) (Kk:no<=1000)
  (h:fe (ai O T R V) k f t ws rad most no≠0\/¬ (1<=wv/\wv<=16)\/Im<1) :
  Calls prog 17 #[.agg #[.int .i64 k,.int .i64 f,.int .i64 t,.slice pw nw cw,.int .i64 rad,.int .i64 most],.agg #[.slice po no co,.slice pt nt ct,.slice pr nr cr,.slice pv nv cv],.slice pl nl cl,.int .i64 wv,.int .i64 Im,.slice pp np cp] w (CA false 0 [] 0 (if fe (ai O T R V) k f t ws rad most no≠0 then fe (ai O T R V) k f t ws rad most no else 1) w):=by
 have II:=lh (fun W (h:Ext w W)=>uC k f t pw nw cw ws rad most po no co O pt nt ct T pr nr cr R pv nv cv V W (hO.ext h) (hT.ext h) (hR.ext h) (hV.ext h) hct hcv (hW.ext h) hz Kk)
 obtain⟨E,hE⟩:∃ E,fe (ai O T R V) k f t ws rad most no=E:=⟨_,rfl⟩
 rw [hE] at II h ⊢
 obtain⟨hv,ok,hok,HH0⟩:=A6 wv
 have Pk:=lh HH0
 have S0:=lh ((((((((Ic.start w).al #[.int .i64 k,.int .i64 f,.int .i64 t,.slice pw nw cw,.int .i64 rad,.int .i64 most] 24 w.heap.size rfl).al #[.slice po no co,.slice pt nt ct,.slice pr nr cr,.slice pv nv cv] 27 (w.heap.size+1) (by simp)).al #[.int .i64 Im] 3 (w.heap.size+1+1) (by simp)).al #[.bool false,.int .i64 0,.slice none 0 0] 34 (w.heap.size+1+1+1) (by simp)).al #[.int .i64 0] 3 (w.heap.size+1+1+1+1) (by simp)).al #[.int .i64 0] 35 (w.heap.size+1+1+1+1+1) (by simp)))
 clear hO hT hR hV hct hcv hW hz HH0 hE Kk
 have key:E≠0\/(E=0/\ok=false)\/(E=0/\ok=true/\Im<1):=by
  by_cases h0:E=0
  ·right
   cases ok with
   | false=>exact .inl ⟨h0,rfl⟩
   | true =>
    have:=of_decide_eq_true hok.symm
    exact .inr ⟨h0,rfl,by rcases h with h | h | h <;> first | exact absurd h0 h | exact absurd this h | exact h⟩
  ·exact .inl h0
 clear h hok
 obtain⟨E2,hE2⟩:∃ E2,(if E≠0 then E else 1)=E2:=⟨_,rfl⟩
 rw [hE2]
 have HE2:=lh hE2
 clear hE2
 go_enter func17,ntmps17
 rcases key with h | ⟨rfl,rfl⟩ | ⟨rfl,rfl,h⟩
 ·have d1:decide (E=0)=false:=by simpa using h
  have d2:(E == 0)=false:=by simpa using h
  have e2:E2=E:=by rw [<- HE2.out,if_pos h]
  subst e2
  clear HE2
  go_wp2_with (first | (go_at_call 49;go_must (refine(II.out _ S0.out.ext).mono ?_;rintro e w1 ⟨rfl,hb⟩;have S1:=lh (S0.out.call hb);obtain⟨b0,bz⟩:=fj (S1.out.blk 3 rfl);obtain⟨c0,c1,c2,cz,f0,f1,f2⟩:=ag (S1.out.blk 2 rfl);obtain⟨a0,az,g0⟩:=cZ (S1.out.blk 1 rfl);obtain⟨y0,yz,h0⟩:=cZ (S1.out.blk 0 rfl);clear hb)) | (go_at_call 50;go_must (refine(Pk.out _).mono ?_;rintro e w2 ⟨rfl,rfl⟩)))
  have S9:=((((S1.out.set 2 rfl 0 (.bool false)).set 2 rfl 1 (.int .i64 0)).set 2 rfl 2 (.slice none 0 0)).set 1 rfl 0 (.int .i64 0)).set 0 rfl 0 (.int .i64 E2)
  obtain⟨x0,x1,x2⟩:=aw (S9.blk 2 rfl)
  have x3:=(S9.blk 1 rfl).cell 0
  have x4:=(S9.blk 0 rfl).cell 0
  exact bodyPost_ret (v:=.tuple #[.agg #[.bool false,.int .i64 0,.slice none 0 0],.int .i64 0,.int .i64 E2]) (by simp [results,results17,go_sem,x0,x1,x2,x3,x4,sizeOf34,isAgg34]) rfl ⟨none,0,rfl,(S9.nilrow 105 2).pick [0] (by decide) rfl⟩
 ·have e2:E2=1:=by rw [<- HE2.out,if_neg (by simp)]
  subst e2
  clear HE2
  go_wp2_with (first | (go_at_call 49;go_must (refine(II.out _ S0.out.ext).mono ?_;rintro e w1 ⟨rfl,hb⟩;have S1:=lh (S0.out.call hb);obtain⟨b0,bz⟩:=fj (S1.out.blk 3 rfl);obtain⟨c0,c1,c2,cz,f0,f1,f2⟩:=ag (S1.out.blk 2 rfl);obtain⟨a0,az,g0⟩:=cZ (S1.out.blk 1 rfl);obtain⟨y0,yz,h0⟩:=cZ (S1.out.blk 0 rfl);clear hb)) | (go_at_call 50;go_must (refine(Pk.out _).mono ?_;rintro e w2 ⟨rfl,rfl⟩)))
  have S9:=((((S1.out.set 2 rfl 0 (.bool false)).set 2 rfl 1 (.int .i64 0)).set 2 rfl 2 (.slice none 0 0)).set 1 rfl 0 (.int .i64 0)).set 0 rfl 0 (.int .i64 1)
  obtain⟨x0,x1,x2⟩:=aw (S9.blk 2 rfl)
  have x3:=(S9.blk 1 rfl).cell 0
  have x4:=(S9.blk 0 rfl).cell 0
  exact bodyPost_ret (v:=.tuple #[.agg #[.bool false,.int .i64 0,.slice none 0 0],.int .i64 0,.int .i64 1]) (by simp [results,results17,go_sem,x0,x1,x2,x3,x4,sizeOf34,isAgg34]) rfl ⟨none,0,rfl,(S9.nilrow 105 2).pick [0] (by decide) rfl⟩
 ·have e2:E2=1:=by rw [<- HE2.out,if_neg (by simp)]
  subst e2
  clear HE2
  have d1:decide (Im<1)=true:=by simpa using h
  go_wp2_with (first | (go_at_call 49;go_must (refine(II.out _ S0.out.ext).mono ?_;rintro e w1 ⟨rfl,hb⟩;have S1:=lh (S0.out.call hb);obtain⟨b0,bz⟩:=fj (S1.out.blk 3 rfl);obtain⟨c0,c1,c2,cz,f0,f1,f2⟩:=ag (S1.out.blk 2 rfl);obtain⟨a0,az,g0⟩:=cZ (S1.out.blk 1 rfl);obtain⟨y0,yz,h0⟩:=cZ (S1.out.blk 0 rfl);clear hb)) | (go_at_call 50;go_must (refine(Pk.out _).mono ?_;rintro e w2 ⟨rfl,rfl⟩)))
  have S9:=((((S1.out.set 2 rfl 0 (.bool false)).set 2 rfl 1 (.int .i64 0)).set 2 rfl 2 (.slice none 0 0)).set 1 rfl 0 (.int .i64 0)).set 0 rfl 0 (.int .i64 1)
  obtain⟨x0,x1,x2⟩:=aw (S9.blk 2 rfl)
  have x3:=(S9.blk 1 rfl).cell 0
  have x4:=(S9.blk 0 rfl).cell 0
  exact bodyPost_ret (v:=.tuple #[.agg #[.bool false,.int .i64 0,.slice none 0 0],.int .i64 0,.int .i64 1]) (by simp [results,results17,go_sem,x0,x1,x2,x3,x4,sizeOf34,isAgg34]) rfl ⟨none,0,rfl,(S9.nilrow 105 2).pick [0] (by decide) rfl⟩
theorem GH {k f t rad most:Int} {ws:List ByteArray} {O T R V:List Int} {n:Nat} (hck:ai O T R V=true) (hn:O.length=n+1) (Iu:n<=200) (hq:b7 k f t ws rad most (n:Int)=0) :
  (k=1\/k=2\/k=3)/\(∀ i,Jy n i (bR (aG k rad true O T R V) (aL k f t 0) i)) /\
  ∃ m,m<n/\bt k t (bR (aG k rad true O T R V) (aL k f t 0) (m+1))=true/\∀ j,j<m->bt k t (bR (aG k rad true O T R V) (aL k f t 0) (j+1))=false:=by
 have hl:gX n (aG k rad true O T R V):=dX hck hn
 have ho:=lK.1 hq
 by_cases h12:k=1\/k=2
 ·have hk:k=1\/k=2\/k=3:=by omega
  rw [oD h12,Bool.and_eq_true] at ho
  obtain⟨o1,o2⟩:=ho
  unfold fh at o1 o2
  simp only [Bool.and_eq_true,decide_eq_true_eq] at o1 o2
  obtain⟨s,rfl⟩:∃ s:Nat,f=(s:Int):=⟨f.toNat,by omega⟩
  obtain⟨u,rfl⟩:∃ u:Nat,t=(u:Int):=⟨t.toNat,by omega⟩
  obtain⟨f1,f2,_⟩:=fc (k:=k) (rad:=rad) (most:=rad) (s:=s) (t:=u) (n:=n) hk (by omega) (fun _=>by omega) rfl rfl
  exact⟨hk,eZ hl f1 f2,uj hck hn Iu hk (by omega) (fun _=>by omega)⟩
 ·by_cases h3:k=3
  ·subst h3
   rw [wR,Bool.and_eq_true,Bool.and_eq_true] at ho
   obtain⟨⟨o1,_⟩,_⟩:=ho
   unfold fh at o1
   simp only [Bool.and_eq_true,decide_eq_true_eq] at o1
   obtain⟨s,rfl⟩:∃ s:Nat,f=(s:Int):=⟨f.toNat,by omega⟩
   have e1:aL 3 (s:Int) t 0=aL 3 (s:Int) ((0:Nat):Int) 0:=rfl
   have e2:∀ p,bt 3 t p=bt 3 ((0:Nat):Int) p:=fun p=>rfl
   obtain⟨f1,f2,_⟩:=fc (k:=3) (rad:=rad) (most:=rad) (s:=s) (t:=0) (n:=n) (Or.inr (Or.inr rfl)) (by omega) (fun h=>absurd h (by decide)) rfl rfl
   rw [e1]
   simp only [e2]
   exact⟨by simp,eZ hl f1 f2,uj (k:=3) (s:=s) (t:=0) hck hn Iu (Or.inr (Or.inr rfl)) (by omega) (fun h=>absurd h (by decide))⟩
  ·rw [ij h12 h3] at ho
   cases ho
def Af (O T R V:List Int) (L:List Po) (k f t:Int) (ws:List ByteArray) (rad most wv Im:Int) (b:Bool) (d:Int) (F:List (Int × Int)) (n e:Int):Prop :=
 (fe (ai O T R V) k f t ws rad most O.length≠0->b=false/\d=0/\F=[]/\n=0/\e=fe (ai O T R V) k f t ws rad most O.length) /\
 (fe (ai O T R V) k f t ws rad most O.length=0->¬ (1<=wv/\wv<=16/\1<=Im)->b=false/\d=0/\F=[]/\n=0/\e=1) /\
 (fe (ai O T R V) k f t ws rad most O.length=0->1<=wv/\wv<=16/\1<=Im->(k=1\/k=2\/k=3)/\∃ m:Nat,m<O.length/\bt k t (bR (aG k rad true O T R V) (aL k f t 0) (m+1))=true/\(∀ j,j<m->bt k t (bR (aG k rad true O T R V) (aL k f t 0) (j+1))=false) /\
  ((m:Int)+1<=Im->uy k t L ws most (bR (aG k rad true O T R V) (aL k f t 0) (m+1)) b d F/\n=(m:Int)+1/\e=0)/\(Im<(m:Int)+1->b=false/\d=0/\F=[]/\n=Im/\e=251))
theorem tJ {p:Nat->Bool} {m m':Nat} (h:p m=true) (hf:∀ j,j<m->p j=false) (h':p m'=true) (hf':∀ j,j<m'->p j=false):m=m':=by
 rcases Nat.lt_trichotomy m m' with h1 | h1 | h1
 ·rw [hf' m h1] at h;cases h
 ·exact h1
 ·rw [hf m' h1] at h';cases h'
theorem Cz (k f t:Int) (pw:Option Addr) (nw cw:Nat) (ws:List ByteArray) (rad most:Int) (po:Option Addr) (no co:Nat) (O:List Int) (pt:Option Addr) (nt ct:Nat) (T:List Int) (pr:Option Addr) (nr cr:Nat) (R:List Int) (pv:Option Addr) (nv cv:Nat) (V:List Int) (pl:Option Addr) (nl cl:Nat) (hs:List Hd) (L:List Po) (wv Im:Int) (pp:Option Addr) (np cp:Nat) (pk:List Int) (w:World) (hO:Rd w 1 po no (ab O)) (hT:Rd w 1 pt nt (ab T)) (hR:Rd w 1 pr nr (ab R)) (hV:Rd w 1 pv nv (ab V)) (hct:nt<=ct) (hcv:nv<=cv)
  (hL:IW w pl nl hs L) (hW:Rd w 1 pw nw (bg ws)) (hpk:Rd w 1 pp np (ab pk)) (Iu:no<=200) (hz:∀ s∈ws,s.size<=1000000) (hb2:Im<=9223372036854775807)
  (ht:Ii t) (hcw:nw<=cw) (hnw:nw<=100) (hok:Io L) :
  Calls prog 17 #[.agg #[.int .i64 k,.int .i64 f,.int .i64 t,.slice pw nw cw,.int .i64 rad,.int .i64 most],.agg #[.slice po no co,.slice pt nt ct,.slice pr nr cr,.slice pv nv cv],.slice pl nl cl,.int .i64 wv,.int .i64 Im,.slice pp np cp] w fun x w'=>∃ b d F n e,Af O T R V L k f t ws rad most wv Im b d F n e/\CA b d F n e w x w':=by
 have hno:=hO.nI
 by_cases h0:fe (ai O T R V) k f t ws rad most O.length=0
 ·by_cases h1:1<=wv/\wv<=16/\1<=Im
  ·have hck:ai O T R V=true:=by
    cases hc:ai O T R V with
    | true=>rfl
    | false=>rw [hc] at h0;unfold fe at h0;rw [if_neg (by simp)] at h0;cases h0
   have hq:b7 k f t ws rad most ((O.length:Int) - 1)=0:=by rw [hck] at h0;unfold fe at h0;rw [if_pos rfl] at h0;exact h0
   obtain⟨n,hn⟩:∃ n,O.length=n+1:=by
    obtain⟨e1,e2,e3,e4⟩:=aK hck
    obtain⟨r1,r2,r3,r4,r5,r6⟩:=aQ (aI e3)
    exact⟨O.length - 1,by omega⟩
   have hq2:b7 k f t ws rad most (n:Int)=0:=by rw [hn] at hq;rw [<- hq];congr 1;omega
   obtain⟨hk,hI,m,hm,hd,hf⟩:=GH (k:=k) (rad:=rad) hck hn (by omega) hq2
   obtain⟨wk,rfl⟩:∃ wk:Nat,wv=(wk:Int):=⟨wv.toNat,by omega⟩
   refine(FJ k f t pw nw cw ws rad most po no co O pt nt ct T pr nr cr R pv nv cv V pl nl cl hs L wk Im pp np cp pk w n m (bR (aG k rad true O T R V) (aL k f t 0)) hO hT hR hV hct hcv hL hW hpk hck hn (by omega) (by omega) (by omega) hz hq2 h1.2.2 hb2 (by omega) hk ht hcw hnw hok rfl hI (fun _=>rfl) hd hf).mono ?_
   rintro x w' ⟨b,d,F,g1,g2⟩
   by_cases hb:(m:Int)+1<=Im
   ·obtain⟨a1,a2⟩:=g1 hb
    exact⟨b,d,F,_,_,⟨fun h=>absurd h0 h,fun _ h=>absurd h1 h,fun _ _=>⟨hk,m,by omega,hd,hf,fun _=>⟨a1,rfl,rfl⟩,fun h=>by omega⟩⟩,a2⟩
   ·exact⟨false,0,[],_,_,⟨fun h=>absurd h0 h,fun _ h=>absurd h1 h,fun _ _=>⟨hk,m,by omega,hd,hf,fun h=>absurd h hb,fun _=>⟨rfl,rfl,rfl,rfl,rfl⟩⟩⟩,g2 (by omega)⟩
  ·have h:=Ae k f t pw nw cw ws rad most po no co O pt nt ct T pr nr cr R pv nv cv V pl nl cl wv Im pp np cp w hO hT hR hV hct hcv hW hz (by omega) (by rw [hno];omega)
   rw [hno,if_neg (by rw [h0];simp)] at h
   rw [hno]
   exact h.mono fun x w' hx=>⟨_,_,_,_,_,⟨fun h=>absurd h0 h,fun _ _=>⟨rfl,rfl,rfl,rfl,rfl⟩,fun _ h=>absurd h h1⟩,hx⟩
 ·have h:=Ae k f t pw nw cw ws rad most po no co O pt nt ct T pr nr cr R pv nv cv V pl nl cl wv Im pp np cp w hO hT hR hV hct hcv hW hz (by omega) (Or.inl (by rw [hno];exact h0))
  rw [hno,if_pos h0] at h
  rw [hno]
  exact h.mono fun x w' hx=>⟨_,_,_,_,_,⟨fun _=>⟨rfl,rfl,rfl,rfl,rfl⟩,fun h=>absurd h h0,fun h=>absurd h h0⟩,hx⟩
def ph:List Int:=[0,1,2,2]
def pj:List Int:=[1,2]
def rJ:List Int:=[0,0,1,2]
def rK:List Int:=[0,1]
theorem DE:ai ph pj rJ rK=true:=by kernel_rfl
theorem Gd:bt 1 2 (bR (aG 1 0 true ph pj rJ rK) (aL 1 0 2 0) 1)=false:=by kernel_rfl
theorem Ge:bt 1 2 (bR (aG 1 0 true ph pj rJ rK) (aL 1 0 2 0) 2)=true:=by kernel_rfl
theorem Gf:bt 1 0 (bR (aG 1 0 true ph pj rJ rK) (aL 1 2 0 0) 1)=true:=by kernel_rfl
theorem Gg:bt 3 0 (bR (aG 3 2 true ph pj rJ rK) (aL 3 0 0 0) 1)=false:=by kernel_rfl
theorem Gh:bt 3 0 (bR (aG 3 2 true ph pj rJ rK) (aL 3 0 0 0) 2)=false:=by kernel_rfl
theorem Gi:bt 3 0 (bR (aG 3 2 true ph pj rJ rK) (aL 3 0 0 0) 3)=true:=by kernel_rfl
theorem Gj:bt 2 2 (bR (aG 2 0 true ph pj rJ rK) (aL 2 0 2 0) 1)=false:=by kernel_rfl
theorem Gk:bt 2 2 (bR (aG 2 0 true ph pj rJ rK) (aL 2 0 2 0) 2)=false:=by kernel_rfl
theorem Gl:bt 2 2 (bR (aG 2 0 true ph pj rJ rK) (aL 2 0 2 0) 3)=true:=by kernel_rfl
theorem Gm:ei (ay (aD ph pj) 3 0 2)=true:=by kernel_rfl
theorem Gn:ey (ay (aD ph pj) 3 0 2)=2:=by kernel_rfl
theorem Gp:ei (ay (aD ph pj) 3 2 0)=false:=by kernel_rfl
theorem Gq:fk (bR (aG 3 2 true ph pj rJ rK) (aL 3 0 0 0) 3).1 (dj [(⟨#[97]⟩,[2])] [⟨#[97]⟩]) 5=[(2,2)]:=by kernel_rfl
theorem kG {p:Nat->Bool} {m c:Nat} (h:p m=true) (hf:∀ j,j<m->p j=false) (hc:p c=true) (hcf:∀ j,j<c->p j=false):m=c:=tJ h hf hc hcf
theorem CO {L:List Po} {b:Bool} {d:Int} {F:List (Int × Int)} {n e:Int} (h:Af ph pj rJ rK L 1 0 2 [] 0 0 2 5 b d F n e):b=true/\d=2/\F=[]/\n=2/\e=0:=by
 obtain⟨hk,m,h1,h2,h3,h4,h5⟩:=h.2.2 (by kernel_rfl) (by decide)
 obtain rfl:m=1:=kG (p:=fun i=>bt 1 2 (bR (aG 1 0 true ph pj rJ rK) (aL 1 0 2 0) (i+1))) h2 h3 Ge (fun j hj=>by
  obtain rfl:j=0:=by omega
  exact Gd)
 obtain⟨a1,a2,a3⟩:=h4 (by decide)
 obtain⟨g1,g2⟩:=a1.1 rfl
 obtain⟨x1,x2⟩:=wy (k:=1) (rad:=0) (n:=3) (s:=0) (t:=2) DE rfl (by decide) (Or.inl rfl) (fun h=>absurd h (by decide)) (by decide) (fun _=>by decide) rfl h2 h3 g1
 exact⟨x1.trans Gm,x2.trans Gn,g2,a2,a3⟩
theorem CP {L:List Po} {b:Bool} {d:Int} {F:List (Int × Int)} {n e:Int} (h:Af ph pj rJ rK L 1 2 0 [] 0 0 2 5 b d F n e):b=false/\n=1/\e=0:=by
 obtain⟨hk,m,h1,h2,h3,h4,h5⟩:=h.2.2 (by kernel_rfl) (by decide)
 obtain rfl:m=0:=kG (p:=fun i=>bt 1 0 (bR (aG 1 0 true ph pj rJ rK) (aL 1 2 0 0) (i+1))) h2 h3 Gf (fun j hj=>absurd hj (by omega))
 obtain⟨a1,a2,a3⟩:=h4 (by decide)
 obtain⟨g1,g2⟩:=a1.1 rfl
 obtain⟨x1,x2⟩:=wy (k:=1) (rad:=0) (n:=3) (s:=2) (t:=0) DE rfl (by decide) (Or.inl rfl) (fun h=>absurd h (by decide)) (by decide) (fun _=>by decide) rfl h2 h3 g1
 exact⟨x1.trans Gp,a2,a3⟩
theorem CQ {b:Bool} {d:Int} {F:List (Int × Int)} {n e:Int} (h:Af ph pj rJ rK [(⟨#[97]⟩,[2])] 3 0 0 [⟨#[97]⟩] 2 5 2 5 b d F n e):b=true/\F=[(2,2)]/\n=3/\e=0:=by
 obtain⟨hk,m,h1,h2,h3,h4,h5⟩:=h.2.2 (by kernel_rfl) (by decide)
 obtain rfl:m=2:=kG (p:=fun i=>bt 3 0 (bR (aG 3 2 true ph pj rJ rK) (aL 3 0 0 0) (i+1))) h2 h3 Gi (fun j hj=>by
  rcases (show j=0\/j=1 by omega) with rfl | rfl
  ·exact Gg
  ·exact Gh)
 obtain⟨a1,a2,a3⟩:=h4 (by decide)
 obtain⟨g1,g2,g3⟩:=a1.2.2 rfl (by kernel_rfl)
 have g4:=g1.trans Gq
 exact⟨by rw [g2,g4];rfl,g4,a2,a3⟩
theorem CR {L:List Po} {b:Bool} {d:Int} {F:List (Int × Int)} {n e:Int} (h:Af ph pj rJ rK L 2 0 2 [] 0 0 2 2 b d F n e):e=251:=by
 obtain⟨hk,m,h1,h2,h3,h4,h5⟩:=h.2.2 (by kernel_rfl) (by decide)
 obtain rfl:m=2:=kG (p:=fun i=>bt 2 2 (bR (aG 2 0 true ph pj rJ rK) (aL 2 0 2 0) (i+1))) h2 h3 Gl (fun j hj=>by
  rcases (show j=0\/j=1 by omega) with rfl | rfl
  ·exact Gj
  ·exact Gk)
 exact(h5 (by decide)).2.2.2.2
theorem wN (q:Option Addr) (n c:Nat) (w:World) (hn:n<=9223372036854775807):Calls prog 365 #[.slice q n c] w fun e w'=>e=.returned (.int .i64 n)/\w'=w:=by
 have _u:=hn
 clear _u
 go_enter func365,ntmps365
 go_wp2
 go_ret
 exact⟨rfl,rfl⟩
theorem jl (q:Option Addr) (n c:Nat) (X:List (Int × Int)) (i k:Nat) (w:World) (hl:Rd w 2 q n (aj X)) (hi:i<n) (hk:k<n) :
  Calls prog 366 #[.slice q n c,.int .i64 i,.int .i64 k] w fun e w'=>e=.returned (.bool (cM (ae X i) (ae X k)))/\Ext w w':=by
 have p1:=hl.ptr
 have n2:=hl.small
 have g1:=hl.cE2 hi
 have g2:=hl.cE2 hk
 have g3:=hl.cE hi
 have g4:=hl.cE hk
 have d1:(0:Int)<=i:=by omega
 have d2:(i:Int)<n:=by omega
 have d3:(0:Int)<=k:=by omega
 have d4:(k:Int)<n:=by omega
 unfold cM
 generalize ae X i=a at *
 generalize ae X k=b at *
 clear hl hi hk
 have S0:=lh (Ic.start w)
 by_cases h1:a.2<b.2
 ·have e1:decide (a.2<b.2)=true:=by simpa using h1
  rw [e1,Bool.true_or]
  go_enter func366,ntmps366
  go_wp2
  have u1:=fun x:Ie w=>x.ext.cell g1
  have u2:=fun x:Ie w=>x.ext.cell g2
  have u3:=fun x:Ie w=>x.ext.cell g3
  have u4:=fun x:Ie w=>x.ext.cell g4
  refine av (by kernel_rfl) (by kernel_rfl) ?_
  repeat (go_big_quiet_step ((fail)))
  refine wpQuiet_nil ?_
  rintro w9 ⟨⟨_,IR⟩,rfl⟩
  go_wp2
  go_ret
  exact⟨rfl,IR⟩
 ·have e1:decide (a.2<b.2)=false:=by simpa using h1
  rw [e1,Bool.false_or]
  by_cases h2:a.2=b.2
  ·have e2:(a.2 == b.2)=true:=by simpa using h2
   rw [decide_eq_true h2,Bool.true_and]
   clear h1 h2
   go_enter func366,ntmps366
   go_wp2
   have u1:=fun x:Ie w=>x.ext.cell g1
   have u2:=fun x:Ie w=>x.ext.cell g2
   have u3:=fun x:Ie w=>x.ext.cell g3
   have u4:=fun x:Ie w=>x.ext.cell g4
   refine av (by kernel_rfl) (by kernel_rfl) ?_
   repeat (go_big_quiet_step ((fail)))
   refine wpQuiet_nil ?_
   rintro w9 ⟨⟨_,IR⟩,rfl⟩
   go_wp2
   go_ret
   exact⟨rfl,IR⟩
  ·have e2:(a.2 == b.2)=false:=by simpa using h2
   rw [decide_eq_false h2,Bool.false_and]
   clear h1 h2
   go_enter func366,ntmps366
   go_wp2
   have u1:=fun x:Ie w=>x.ext.cell g1
   have u2:=fun x:Ie w=>x.ext.cell g2
   have u3:=fun x:Ie w=>x.ext.cell g3
   have u4:=fun x:Ie w=>x.ext.cell g4
   refine av (by kernel_rfl) (by kernel_rfl) ?_
   repeat (go_big_quiet_step ((fail)))
   refine wpQuiet_nil ?_
   rintro w9 ⟨⟨_,IR⟩,rfl⟩
   go_wp2
   go_ret
   exact⟨rfl,IR⟩
theorem Bm (g n c:Nat) (X:List (Int × Int)) (i k:Nat) (w w0:World) (Γ:List Pc) (j:Nat) (S:Ic w0 w Γ) (hj:Γ[j]?=some (.own 105 2 (some ⟨g,0,none⟩) n c (aj X))) (hi:i<n) (hk:k<n) (hik:i≠k) (hn:n<=1000000) :
  Calls prog 369 #[.slice (some ⟨g,0,none⟩) n c,.int .i64 i,.int .i64 k] w fun e w'=>e=.returned (.tuple #[])/\Ic w0 w' (Γ.set j (.own 105 2 (some ⟨g,0,none⟩) n c (aj (bj X i k)))):=by
 have ho:=S.own j hj
 have hl:=S.rd j hj (by omega)
 have g1:=hl.cE2 hi
 have g2:=hl.cE2 hk
 have g3:=hl.cE hi
 have g4:=hl.cE hk
 rw [aB,Nat.zero_add] at g1 g2 g3 g4
 have k1:w.frozen? ⟨g,i*2,none⟩=false:=by have:=aA ho (by omega) (i*2);rwa [aB,Nat.zero_add] at this
 have k2:w.frozen? ⟨g,i*2+1,none⟩=false:=by have:=aA ho (by omega) (i*2+1);rwa [aB,Nat.zero_add] at this
 have k3:w.frozen? ⟨g,k*2,none⟩=false:=by have:=aA ho (by omega) (k*2);rwa [aB,Nat.zero_add] at this
 have k4:w.frozen? ⟨g,k*2+1,none⟩=false:=by have:=aA ho (by omega) (k*2+1);rwa [aB,Nat.zero_add] at this
 have z1:g<w.heap.size:=(S.blt j hj (by omega)).2
 have d1:(0:Int)<=i:=by omega
 have d2:(i:Int)<n:=by omega
 have d3:(0:Int)<=k:=by omega
 have d4:(k:Int)<n:=by omega
 have x1:i*2≠k*2:=by omega
 have x2:i*2+1≠k*2:=by omega
 have x3:i*2≠k*2+1:=by omega
 have x4:i*2+1≠k*2+1:=by omega
 have IA:=hl.nE
 have HX:=lh (qp (X:=X) (i:=i) (k:=k) (by rw [<- IA];exact hi) (by rw [<- IA];exact hk) hik)
 generalize ae X i=a at *
 generalize ae X k=b at *
 clear hl ho
 have SH:=lh S;clear S
 have mixed:(prog).follows Departure.mixedOrders=true:=by kernel_rfl
 clear IA
 go_enter func369,ntmps369
 go_wp2
 go_region_o
 all_goals
  go_end0
  refine⟨rfl,?_⟩
  have T:=((SH.out.setRow2 j hj (i*2) (by omega) (.int .i64 b.1) (.int .i64 b.2)).setRow2 j (dg hj) (k*2) (by omega) (.int .i64 a.1) (.int .i64 a.2)).drew
  simp only [aB,Nat.zero_add,List.set_set] at T
  rw [<- HX.out]
  exact T
theorem Bl (g n c:Nat) (X:List (Int × Int)) (i:Nat) (w w0:World) (Γ:List Pc) (j:Nat) (S:Ic w0 w Γ) (hj:Γ[j]?=some (.own 105 2 (some ⟨g,0,none⟩) n c (aj X))) (hi:i<n) (hn:n<=1000000) :
  Calls prog 369 #[.slice (some ⟨g,0,none⟩) n c,.int .i64 i,.int .i64 i] w fun e w'=>e=.returned (.tuple #[])/\Ic w0 w' (Γ.set j (.own 105 2 (some ⟨g,0,none⟩) n c (aj (bj X i i)))):=by
 have ho:=S.own j hj
 have hl:=S.rd j hj (by omega)
 have g1:=hl.cE2 hi
 have g3:=hl.cE hi
 rw [aB,Nat.zero_add] at g1 g3
 have k1:w.frozen? ⟨g,i*2,none⟩=false:=by have:=aA ho (by omega) (i*2);rwa [aB,Nat.zero_add] at this
 have k2:w.frozen? ⟨g,i*2+1,none⟩=false:=by have:=aA ho (by omega) (i*2+1);rwa [aB,Nat.zero_add] at this
 have z1:g<w.heap.size:=(S.blt j hj (by omega)).2
 have d1:(0:Int)<=i:=by omega
 have d2:(i:Int)<n:=by omega
 have IA:=hl.nE
 have HX:Hid (aj (X.set i (ae X i))=aj (bj X i i)):=by unfold Hid bj;rw [List.set_set]
 rw [jF _ (by omega)] at HX
 generalize ae X i=a at *
 clear hl ho
 have SH:=lh S;clear S
 have mixed:(prog).follows Departure.mixedOrders=true:=by kernel_rfl
 clear IA
 go_enter func369,ntmps369
 go_wp2
 go_region_o
 all_goals
  go_end0
  refine⟨rfl,?_⟩
  have T:=((SH.out.setRow2 j hj (i*2) (by omega) (.int .i64 a.1) (.int .i64 a.2)).setRow2 j (dg hj) (i*2) (by omega) (.int .i64 a.1) (.int .i64 a.2)).drew
  simp only [aB,Nat.zero_add,List.set_set] at T
  rw [rl] at T
  rw [<- HX.out]
  exact T
theorem oz (q:Option Addr) (n c:Nat) (X:List (Int × Int)) (i k:Nat) (w w0:World) (Γ:List Pc) (j:Nat) (S:Ic w0 w Γ) (hj:Γ[j]?=some (.own 105 2 q n c (aj X))) (hi:i<n) (hk:k<n) (hn:n<=1000000) :
  Calls prog 369 #[.slice q n c,.int .i64 i,.int .i64 k] w fun e w'=>e=.returned (.tuple #[])/\Ic w0 w' (Γ.set j (.own 105 2 q n c (aj (bj X i k)))):=by
 obtain⟨g,rfl,_⟩:=cR (S.own j hj) (by omega)
 by_cases e:i=k
 ·subst e
  exact Bl g n c X i w w0 Γ j S hj hi hn
 ·exact Bm g n c X i k w w0 Γ j S hj hi hk e hn
end Go.Proofs.YtfjhjennfiihhaaGreat
