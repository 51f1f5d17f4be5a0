/- Texts of this claim, one behind the other: LFits21, Post, Open21, PlainNt, LSums21. -/
import Derived.Test.YtfjhjennfiihhaaGreatQNeedFitsNeedSums5
set_option maxRecDepth 100000
set_option maxHeartbeats 16000000
namespace Go.Proofs.YtfjhjennfiihhaaGreat
section
open Go Go.RowKit
theorem lawFits21 (pa:Option Addr) (na ca:Nat) (A:List Int) (pb:Option Addr) (nb cb:Nat) (B:List Int) (p:Option Addr) (n c:Nat) (hs:List Hd) (LL:List (List Int)) (w:World)
  (hA:Rd w 1 pa na (encI A)) (hB:Rd w 1 pb nb (encI B)) (hL:RdL w p n hs LL) (hbd:∀ k,k<n→(nth LL k).length≤17592186044415) :
  Calls Tryz.prog 5 #[.slice pa na ca,.slice pb nb cb,.slice p n c] w fun e w'=>e=.returned (.bool true)∧Ext w w':=by
 have HBG:=Lib.hid (Big06 p n c hs LL w hL hbd)
 have HSM:=Lib.hid (fun W (h:Ext w W)=>Small21 p n c hs LL W (hL.ext h))
 have na1:=hA.small
 have nb1:=hB.small
 by_cases h1:60<na
 ·have e1:decide ((60:Int)<(na:Int))=true:=by simp;omega
  clear hA hB hL hbd HBG HSM
  go_enter Tryz.func5,Tryz.ntmps5
  go_wp2
  go_ret
  exact⟨rfl,Ext.refl _⟩
 ·have e1:decide ((60:Int)<(na:Int))=false:=by simp;omega
  by_cases h2:60<nb
  ·have e2:decide ((60:Int)<(nb:Int))=true:=by simp;omega
   clear hA hB hL hbd HBG HSM
   go_enter Tryz.func5,Tryz.ntmps5
   go_wp2
   go_ret
   exact⟨rfl,Ext.refl _⟩
  ·have e2:decide ((60:Int)<(nb:Int))=false:=by simp;omega
   cases hbig:bigL LL with
   | true =>
    rw [hbig] at HBG
    clear hA hB hL hbd HSM
    go_enter Tryz.func5,Tryz.ntmps5
    go_wp2_with (go_at_call 23;go_must (refine(HBG.out).mono ?_;rintro e w1 ⟨rfl,hb⟩;have E1:=Lib.hid hb;clear hb))
    go_ret
    exact⟨rfl,E1.out⟩
   | false =>
    rw [hbig] at HBG
    cases hsml:smallL LL with
    | false =>
     rw [hsml] at HSM
     clear hA hB hL hbd
     go_enter Tryz.func5,Tryz.ntmps5
     go_wp2_with (first | (go_at_call 24;have _t:=E1;go_must (refine(HSM.out _ E1.out).mono ?_;rintro e w2 ⟨rfl,hb⟩;have E2:=Lib.hid (Ext.trans E1.out hb);clear hb)) | (go_at_call 23;go_must (refine(HBG.out).mono ?_;rintro e w1 ⟨rfl,hb⟩;have E1:=Lib.hid hb;clear hb)))
     go_ret
     exact⟨rfl,E2.out⟩
    | true =>
     rw [hsml] at HSM
     obtain⟨g1,g2,g3⟩:=big_sml hbig hsml
     have hn:=hL.nL
     have HOW:=Lib.hid (fun W (h:Ext w W)=>Own06 p n c hs LL W (hL.ext h) (by omega) (fun k hk=>by have:=rdl_bound hL g3 k hk;omega))
     have HS1:=Lib.hid (fun W (h:Ext w W)=>SumG p n c hs LL W (hL.ext h) g1)
     have HS2:=Lib.hid (fun (q:Option Addr) (c':Nat) (hs':List Hd) W (h:RdL W q n hs' LL)=>Sum21 q n c' hs' LL W h g1)
     have HSA:=Lib.hid (fun (q:Option Addr) (c':Nat) (hs':List Hd) W (h:Ext w W) (k:RdL W q n hs' LL)=>Same06 p q n c c' hs hs' LL W (hL.ext h) k)
     have HF1:=Lib.hid (fun W (h:Ext w W)=>FitsG pa na ca A pb nb cb B W (hA.ext h) (hB.ext h))
     have HF2:=Lib.hid (fun W (h:Ext w W)=>Fits21 pa na ca A pb nb cb B W (hA.ext h) (hB.ext h))
     clear hA hB hL hbd hn g1 g2 g3
     generalize fitsB A B=fb at HF1 HF2
     cases fb
     all_goals
      go_enter Tryz.func5,Tryz.ntmps5
      go_wp2_with (first | (go_at_call 32;have _t:=E9;go_must (refine(HSA.out _ _ _ _ E9.out KO9.out).mono ?_;rintro e wa ⟨rfl,hb⟩;have Ea:=Lib.hid (Ext.trans E9.out hb);clear hb)) | (go_at_call 29;have _t:=E8;go_must (refine(IntsY qs qt _ _ cs cu (sumR LL) _ ((Z7.out.rdx 0 rfl).ext Z8.out.ext) (Z8.out.rdx 0 rfl)).mono ?_;rintro e w9 ⟨rfl,hb⟩;have E9:=Lib.hid (Ext.trans E8.out hb);have KO9:=Lib.hid (KO8.out.ext hb);clear hb)) | (go_at_call 31;have _t:=E7;go_must (refine(HS2.out _ _ _ _ KO7.out).mono ?_;rintro e w8 ⟨qt,cu,rfl,Z⟩;have E8:=Lib.hid (Ext.trans E7.out Z.ext);have Z8:=Lib.hid Z;have KO8:=Lib.hid (KO7.out.ext Z.ext);clear Z)) | (go_at_call 30;have _t:=E6;go_must (refine(HS1.out _ E6.out).mono ?_;rintro e w7 ⟨qs,cs,rfl,Z⟩;have E7:=Lib.hid (Ext.trans E6.out Z.ext);have Z7:=Lib.hid Z;have KO7:=Lib.hid (KO6.out.ext Z.ext);clear Z)) | (go_at_call 28;have _t:=E5;go_must (refine(HF2.out _ E5.out).mono ?_;rintro e w6 ⟨rfl,hb⟩;have E6:=Lib.hid (Ext.trans E5.out hb);have KO6:=Lib.hid (KO5.out.ext hb);clear hb)) | (go_at_call 27;have _t:=E4;go_must (refine(HF1.out _ E4.out).mono ?_;rintro e w5 ⟨rfl,hb⟩;have E5:=Lib.hid (Ext.trans E4.out hb);have KO5:=Lib.hid (KO4.out.ext hb);clear hb)) | (go_at_call 26;have _t:=E3;go_must (refine(Needs21 _).mono ?_;rintro e w4 ⟨rfl,hb⟩;have E4:=Lib.hid (Ext.trans E3.out hb);have KO4:=Lib.hid (KO.out.ext hb);clear hb)) | (go_at_call 25;have _t:=E2;go_must (refine(HOW.out _ E2.out).mono ?_;rintro e w3 ⟨q,c',hs',rfl,k1,hb⟩;have E3:=Lib.hid (Ext.trans E2.out hb);have KO:=Lib.hid k1;clear hb k1)) | (go_at_call 24;have _t:=E1;go_must (refine(HSM.out _ E1.out).mono ?_;rintro e w2 ⟨rfl,hb⟩;have E2:=Lib.hid (Ext.trans E1.out hb);clear hb)) | (go_at_call 23;go_must (refine(HBG.out).mono ?_;rintro e w1 ⟨rfl,hb⟩;have E1:=Lib.hid hb;clear hb)))
      go_ret
      exact⟨rfl,Ea.out⟩
end
section
open Go Go.RowKit Go.WideShapes Go.ChangeShapes
theorem own:ownKnob Tryz.prog.godebug=none:=by kernel_rfl
theorem laidOut:laidOutB Tryz.prog=true:=by kernel_rfl
theorem law_post {H:Type} {enc:TypeId × Value→H} {f:Func} {s:ChangeSpec} {apart fresh handsOn again:Bool} {W W':World} {args:Array Value} {ds:List (DataW H)} {before:List MemPlace}
  (hW:DataW.Whole enc Tryz.prog f.params.toList s.vars apart W args.toList ds [] before) (ht:f.resultTypes=#[4]) (hvars:s.vars=[])
  (hfn:s.fn H (ds ++ [])={ results:=[.lit (.bool true)],args:=ds })
  (hargs:∀ sp:Nat→Bool,(∀ p∈before,sp p.block=true)→DataW.TrodAll enc Tryz.prog W' 0 sp true f.params.toList args.toList ds before)
  (hb:Below W.heap.size W W'):s.post enc Tryz.prog f apart fresh handsOn again W args (.bool true) W':=by
 have lits:∀ (b:Nat) (sp:Nat→Bool) (hd:Bool),DataW.TrodAll enc Tryz.prog W' b sp hd f.resultTypes.toList ((Value.bool true).resultList f.resultTypes.size) (s.fn H (ds ++ [])).results []:=by
  intro b sp hd
  rw [hfn,ht]
  exact trodAll_mk1 (shut_bool Tryz.underlying4 true)
 have hold:∀ sp:Nat→Bool,(∀ p∈before,sp p.block=true)→DataW.TrodAll enc Tryz.prog W' 0 sp true f.params.toList args.toList (s.fn H (ds ++ [])).args before:=by
  intro sp hsp
  rw [hfn];exact hargs sp hsp
 have hv:∀ sp:Nat→Bool,DataW.TrodVars enc Tryz.prog W' sp s.vars (s.fn H (ds ++ [])).vars []:=by
  intro sp;rw [hfn,hvars];rfl
 have hin:∀ p∈before,p.block<W.heap.size:=fun p hp=>hW.lt p hp
 have same:before=before ++ []:=by simp
 refine⟨ds,[],before,[],before,[],hW,lits _ _ _,hold _ (fun p hp=>by simpa using hin p hp),hv _,World.keptBut_mono (fun p hp=>⟨hp,.inr (by simpa using hp)⟩) (hb.frame (·∈before)),fun _=>?_⟩
 have hW2:=hW
 obtain⟨_,_,_,_,_,hz,hn⟩:=hW2
 refine⟨ok_one (by rw [ht]) rfl (okWide_bool_mk Tryz.underlying4 _),_,_,([] ++ before) ++ [],⟨[] ++ before,[],trodAll_append (hold _ (fun _ _=>rfl)) (lits _ _ _),hv _,rfl,?_,?_⟩,?_⟩
 ·intro b off hp
  have hp2:MemPlace.cell b off∈before:=by simpa using hp
  rw [hb.frozen (hin _ hp2)]
  exact hz b off hp2
 ·intro ha
  simpa using hn ha
 ·intro p hp _
  simpa using hp
theorem stays {H:Type} {enc:TypeId × Value→H} {W W':World} {t:TypeId} {v:Value} {d:DataW H} {ps:List MemPlace} (hr:Tryz.prog.readableRec t=true) (hrow:t<Tryz.prog.types.size) (h:DataW.Trod enc Tryz.prog W 0 (fun _=>true) true t v d ps)
  (hb:Below W.heap.size W W') (hlt:∀ x∈ps,x.block<W.heap.size) {sp:Nat→Bool} (hsp:∀ x∈ps,sp x.block=true):DataW.Trod enc Tryz.prog W' 0 sp true t v d ps :=
 WideElems.Trod_stays laidOut hr hrow h (fun x hx=>hb.same (hlt x hx)) hsp
theorem trodAll_turn {H:Type} {enc:TypeId × Value→H} {P:Program} {W W':World} {sp sp':Nat→Bool} {hd:Bool} (ts:List TypeId):∀ {vs:List Value} {ds:List (DataW H)} {ps:List MemPlace},DataW.TrodAll enc P W 0 sp hd ts vs ds ps →
  (∀ t∈ts,∀ v d p,(∀ x∈p,x∈ps)→DataW.Trod enc P W 0 sp hd t v d p→DataW.Trod enc P W' 0 sp' hd t v d p)→DataW.TrodAll enc P W' 0 sp' hd ts vs ds ps:=by
 induction ts with
 | nil =>
  intro vs ds ps h _
  obtain⟨rfl,rfl,rfl⟩:=trodAll_nil h
  exact trodAll_mk0
 | cons t ts ih =>
  intro vs ds ps h hk
  obtain⟨v,vs',d,ds',p,q,rfl,rfl,rfl,h1,h2⟩:=trodAll_cons h
  exact trodAll_cons_mk (hk t (by simp) v d p (fun x hx=>by simp [hx]) h1) (ih h2 fun t' ht' v' d' p' hp' h'=>hk t' (by simp [ht']) v' d' p' (fun x hx=>by simp [hp' x hx]) h')
theorem stays_all {H:Type} {enc:TypeId × Value→H} {W W':World} {ts:List TypeId} {vs:List Value} {ds:List (DataW H)} {ps:List MemPlace} (hr:ts.all (fun t=>Tryz.prog.readableRec t && decide (t<Tryz.prog.types.size))=true)
  (h:DataW.TrodAll enc Tryz.prog W 0 (fun _=>true) true ts vs ds ps) (hb:Below W.heap.size W W') (hlt:∀ x∈ps,x.block<W.heap.size) {sp:Nat→Bool} (hsp:∀ x∈ps,sp x.block=true):DataW.TrodAll enc Tryz.prog W' 0 sp true ts vs ds ps :=
 trodAll_turn ts h fun t ht v d p hp h1=>by
  have h2:=List.all_eq_true.1 hr t ht
  rw [Bool.and_eq_true,decide_eq_true_eq] at h2
  exact stays h2.1 h2.2 h1 hb (fun x hx=>hlt x (hp x hx)) (fun x hx=>hsp x (hp x hx))
theorem andT {a b:Bool} (h:a=true) (g:b=true):(a && b)=true:=by rw [h,g];rfl
end
section
open Go Go.RowKit Go.ChangeShapes Go.WideShapes Go.ChangeAt Go.Deep Go.Joins
section
variable {H:Type} {enc:TypeId × Value→H} {w:World} {base:Nat} {spare:Nat→Bool} {held:Bool}
theorem weights_mem21 {e:TypeId}:∀ {l:List (DataW H)} {d:DataW H},d∈l→∀ n∈d.weights Tryz.prog e,n∈DataW.weightsAll Tryz.prog e l
 | [],_,h,_,_=>nomatch h
 | x :: l,d,h,n,hn=>by
  rw [DataW.weightsAll,List.mem_append]
  rcases List.mem_cons.1 h with rfl | h
  ·exact .inl hn
  ·exact .inr (weights_mem21 h n hn)
theorem slice_weight21 {t e:TypeId} {fuel:Nat} {v:Value} {x:DataW H × List MemPlace} (ht:Tryz.prog.underlying t=some (.slice e)) (h:DataW.trod enc Tryz.prog w base spare held fuel t [v]=some x) (hw:∀ m∈x.1.weights Tryz.prog t,m≤reachBytes)
  {p:Option Addr} {n c:Nat} (hv:v=.slice p n c):n*Tryz.prog.bytesOf e≤reachBytes:=by
 rcases open_slice ht h with ⟨h0,_⟩ | ⟨a,len,cap,m,n',D,Pl,hcs,hb,hl,hm,hmm,hx,hi⟩
 ·rw [hv] at h0;simp at h0;rw [h0.2.1];simp [reachBytes]
 ·rw [hv] at hcs;simp at hcs
  obtain⟨_,rfl,_⟩:=hcs
  rw [hx] at hw
  have h1:=hw ((((List.range n).map D).length+((List.range (m - n)).map fun j=>D (n+j)).length)*Tryz.prog.bytesOf e) (by rw [DataW.weights,ht];simp)
  refine Nat.le_trans (Nat.mul_le_mul_right _ ?_) h1
  simp
theorem bytesInt:Tryz.prog.bytesOf 3=8:=by kernel_rfl
theorem open_introws {r:Reach} {b0:Nat} {v:Value} {d:DataW H} {pl:List MemPlace} (hv:Value.okWide Tryz.prog w r b0 45 v) (hh:DataW.Trod enc Tryz.prog w base spare held 45 v d pl) (hw:∀ m∈d.weights Tryz.prog 45,m≤reachBytes) :
  ∃ p n c hs T,v=.slice p n c∧n≤c∧RdL w p n hs T∧∀ k,k<n→(nth T k).length≤17592186044415:=by
 obtain⟨fuel,h⟩:=open_top Tryz.underlying45 hv hh
 rcases open_slice Tryz.underlying45 h with ⟨h0,_⟩ | ⟨a,len,cap,m,n,D,Pl,hcs,hb,hl,hm,hmm,hx,hi⟩
 ·simp at h0;exact⟨none,0,0,[],[],h0,Nat.le_refl _,RdL.nil _,fun k hk=>by omega⟩
 ·simp at hcs
  have hl2:len≤9223372036854775807:=by unfold maxLen at hm;omega
  have hc1:Tryz.prog.cellsOf 25=1:=by kernel_rfl
  rw [hc1] at hi
  have hS:∀ i,i<len→∃ q:Hd × List Int,w.cell? (a.add i)=some (.slice q.1.p q.1.n q.1.c)∧Rd w 1 q.1.p q.1.n (encI q.2)∧q.2.length≤17592186044415:=by
   intro i hil
   obtain⟨cs',hc,ht'⟩:=hi i (by rw [hmm];split <;> omega)
   obtain⟨_,hcl,hat⟩:=World.cells?_some hc
   match cs',hcl with
   | [u],_ =>
    obtain⟨p,n',c',l,e1,_,hr,_⟩:=trod_ints Tryz.underlying25 ht'
    have hwi:∀ m∈(D i).weights Tryz.prog 25,m≤reachBytes:=fun m hm'=>by
     refine hw m ?_
     have hx':d=_:=congrArg Prod.fst hx
     rw [hx',DataW.weights,Tryz.underlying45]
     refine List.mem_cons_of_mem _ (List.mem_append_left _ (weights_mem21 (d:=D i) ?_ m hm'))
     exact List.mem_map.2 ⟨i,List.mem_range.2 hil,rfl⟩
    have hwn:=slice_weight21 (x:=(D i,Pl i)) Tryz.underlying25 ht' hwi e1
    rw [bytesInt] at hwn
    have:=hat 0 (by decide)
    rw [Go.Deep.add_add,Nat.mul_one,Nat.add_zero,e1] at this
    have hn:=hr.nI
    unfold reachBytes at hwn
    exact⟨(⟨p,n',c'⟩,l),this,hr,by simp only;omega⟩
  obtain⟨l,hll,hlc⟩:=exists_list hS
  have hm:∀ i,i<len→nth (l.map (·.1)) i=(nth l i).1∧nth (l.map (·.2)) i=(nth l i).2:=fun i hil=>by
   rw [nth_eq (l:=l.map (·.1)) (by rw [List.length_map];omega),nth_eq (l:=l.map (·.2)) (by rw [List.length_map];omega),nth_eq (l:=l) (by omega)];simp
  refine⟨some a,len,cap,l.map (·.1),l.map (·.2),hcs,hl,⟨by simp,Rd.of_cells (by decide) (by rw [encH_len,List.length_map,hll,Nat.mul_one]) hl2 fun j hj=>?_,fun j hj=>?_⟩,fun k hk=>?_⟩
  ·rw [encH_get _ j (by simp;omega),(hm j (by omega)).1]
   exact(hlc j (by omega)).1
  ·rw [(hm j hj).1,(hm j hj).2]
   exact(hlc j hj).2.1
  ·rw [(hm k hk).2];exact(hlc k hk).2.2
end
end
section
open Go Go.RowKit
def idxL (n:Nat):List Int:=(List.range n).map Int.ofNat
theorem idxL_nth {n i:Nat} (h:i<n):nth (idxL n) i=i:=by
 unfold idxL
 rw [nth_eq (by rw [List.length_map,List.length_range];exact h),List.getElem_map,List.getElem_range];rfl
theorem more_next (B:List Int) {k:Nat} (h:k<B.length):addK B (idxL B.length) (k+1)=(addK B (idxL B.length) k).set k (nth B k+k):=by rw [addK_succ,idxL_nth h]
theorem more_at (B:List Int) {k:Nat} (h:k<B.length):nth (addK B (idxL B.length) k) k=nth B k:=by rw [addK_nth h,if_neg (by omega)];omega
theorem more_fits {A B:List Int} {k:Nat} (hk:k=B.length) (h:fitsB A B=true):fitsB A (addK B (idxL B.length) k)=true:=by
 subst hk
 rw [fitsB_iff] at h ⊢
 intro i hi
 obtain⟨h1,h2⟩:=h i hi
 rw [addK_len]
 refine⟨h1,?_⟩
 rw [addK_nth h1,if_pos h1,idxL_nth h1]
 omega
theorem RdL.tail {w:World} {p:Option Addr} {n c:Nat} {hd:Hd} {hs:List Hd} {r:List Int} {LL:List (List Int)} (h:RdL w p n (hd :: hs) (r :: LL)) (hc:n≤c):RdL w (cutp p c 1 1) (n - 1) hs LL:=by
 have hn:=h.nL
 rw [List.length_cons] at hn
 refine⟨by have:=h.hn;simpa using this,?_,fun j hj=>?_⟩
 ·have:=h.row.cut (l:=1) (h:=n) (c:=c) (by omega) (Nat.le_refl _) hc
  rw [show ((encH (hd :: hs)).drop (1*1)).take ((n - 1)*1)=encH hs from ?_] at this
  ·exact this
  ·have hl:(encH hs).length=n - 1:=by rw [encH_len];have:=h.hn;simp at this;omega
   show (encH hs).take _=_
   rw [Nat.mul_one,← hl,List.take_length]
 ·exact h.each (j+1) (by omega)
theorem sml_tail {r:List Int} {LL:List (List Int)} (h:SmL (r :: LL)):SmL LL:=⟨by have:=h.1;simp at this;omega,fun x hx=>h.2 x (List.mem_cons_of_mem _ hx)⟩
theorem sml_two {r:List Int} {LL:List (List Int)} (hs:smallL (r :: LL)=true) (h:SmL (r :: LL)) (hl:(r :: LL).length≤60) (h150:∀ x∈r :: LL,x.length≤150):SmL [r,sumR LL]:=by
 refine⟨by simp,fun x hx=>?_⟩
 rcases List.mem_cons.1 hx with rfl | hx
 ·exact h.2 x List.mem_cons_self
 ·obtain rfl:=List.mem_singleton.1 hx
  refine⟨by rw [sumR_len];exact Nat.le_trans (longR_le fun y hy=>h150 y (List.mem_cons_of_mem _ hy)) (by omega),fun y hy=>?_⟩
  have hb:∀ (L:List (List Int)),(∀ x∈L,∀ y∈x,smlB y=true)→∀ i,-(1000000*(L.length:Int))≤sumAt L i∧sumAt L i≤1000000*(L.length:Int):=by
   intro L
   induction L with
   | nil=>intro _ i;simp [sumAt]
   | cons a L ih =>
    intro hL i
    have h1:=ih (fun x hx=>hL x (List.mem_cons_of_mem _ hx)) i
    have h2:-1000000≤nth a i∧nth a i≤1000000:=by
     by_cases hi:i<a.length
     ·have:=hL a List.mem_cons_self (nth a i) (by rw [nth_eq hi];exact List.getElem_mem _)
      unfold smlB at this
      simpa using this
     ·rw [nth_over (by omega)];omega
    have e:sumAt (a :: L) i=nth a i+sumAt L i:=by unfold sumAt;rw [List.map_cons,List.sum_cons]
    rw [e,List.length_cons]
    omega
  obtain⟨i,hi,rfl⟩:=List.getElem_of_mem hy
  have:=hb LL (fun x hx y hy=>List.all_eq_true.1 (List.all_eq_true.1 hs x (List.mem_cons_of_mem _ hx)) y hy) i
  rw [← nth_eq hi,sumR_nth]
  rw [List.length_cons] at hl
  omega
theorem rdl_two {w:World} {p q0 q1:Option Addr} {n0 c0 n1 c1:Nat} {A B:List Int} (h:Rd w 1 p 2 [.slice q0 n0 c0,.slice q1 n1 c1]) (h0:Rd w 1 q0 n0 (encI A)) (h1:Rd w 1 q1 n1 (encI B)):RdL w p 2 [⟨q0,n0,c0⟩,⟨q1,n1,c1⟩] [A,B] :=
 ⟨rfl,h,fun j hj=>by
  have:j=0∨j=1:=by omega
  rcases this with rfl | rfl
  ·exact h0
  ·exact h1⟩
end
section
open Go Go.RowKit Go.Deep
theorem lawSums21 (p:Option Addr) (n c:Nat) (hs:List Hd) (LL:List (List Int)) (pa:Option Addr) (na ca:Nat) (A:List Int) (pb:Option Addr) (nb cb:Nat) (B:List Int) (w:World)
  (hL:RdL w p n hs LL) (hbd:∀ k,k<n→(nth LL k).length≤17592186044415) (hnc:n≤c) (hA:Rd w 1 pa na (encI A)) (hB:Rd w 1 pb nb (encI B)) (hBI:∀ x∈B,I64 x) :
  Calls Tryz.prog 7 #[.slice p n c,.slice pa na ca,.slice pb nb cb] w fun e w'=>e=.returned (.bool true)∧Ext w w':=by
 have HBG:=Lib.hid (Big06 p n c hs LL w hL hbd)
 have HSM:=Lib.hid (fun W (h:Ext w W)=>Small21 p n c hs LL W (hL.ext h))
 have na1:=hA.small
 have nb1:=hB.small
 cases hbig:bigL LL with
 | true =>
  rw [hbig] at HBG
  clear hA hB hL hbd HSM
  go_enter Tryz.func7,Tryz.ntmps7
  go_wp2_with (go_at_call 23;go_must (refine(HBG.out).mono ?_;rintro e w1 ⟨rfl,hb⟩;have E1:=Lib.hid hb;clear hb))
  go_ret
  exact⟨rfl,E1.out⟩
 | false =>
  rw [hbig] at HBG
  cases hsml:smallL LL with
  | false =>
   rw [hsml] at HSM
   clear hA hB hL hbd
   go_enter Tryz.func7,Tryz.ntmps7
   go_wp2_with (first | (go_at_call 24;have _t:=E1;go_must (refine(HSM.out _ E1.out).mono ?_;rintro e w2 ⟨rfl,hb⟩;have E2:=Lib.hid (Ext.trans E1.out hb);clear hb)) | (go_at_call 23;go_must (refine(HBG.out).mono ?_;rintro e w1 ⟨rfl,hb⟩;have E1:=Lib.hid hb;clear hb)))
   go_ret
   exact⟨rfl,E2.out⟩
  | true =>
   rw [hsml] at HSM
   by_cases h1:60<na
   ·have e1:decide ((60:Int)<(na:Int))=true:=by simp;omega
    clear hA hB hL hbd
    go_enter Tryz.func7,Tryz.ntmps7
    go_wp2_with (first | (go_at_call 24;have _t:=E1;go_must (refine(HSM.out _ E1.out).mono ?_;rintro e w2 ⟨rfl,hb⟩;have E2:=Lib.hid (Ext.trans E1.out hb);clear hb)) | (go_at_call 23;go_must (refine(HBG.out).mono ?_;rintro e w1 ⟨rfl,hb⟩;have E1:=Lib.hid hb;clear hb)))
    go_ret
    exact⟨rfl,E2.out⟩
   ·have e1:decide ((60:Int)<(na:Int))=false:=by simp;omega
    by_cases h2:60<nb
    ·have e2:decide ((60:Int)<(nb:Int))=true:=by simp;omega
     clear hA hB hL hbd
     go_enter Tryz.func7,Tryz.ntmps7
     go_wp2_with (first | (go_at_call 24;have _t:=E1;go_must (refine(HSM.out _ E1.out).mono ?_;rintro e w2 ⟨rfl,hb⟩;have E2:=Lib.hid (Ext.trans E1.out hb);clear hb)) | (go_at_call 23;go_must (refine(HBG.out).mono ?_;rintro e w1 ⟨rfl,hb⟩;have E1:=Lib.hid hb;clear hb)))
     go_ret
     exact⟨rfl,E2.out⟩
    ·have e2:decide ((60:Int)<(nb:Int))=false:=by simp;omega
     obtain⟨g1,g2,g3⟩:=big_sml hbig hsml
     have HL:=Lib.hid hL
     have HG:=Lib.hid g1
     have HG2:=Lib.hid g2
     have HG3:=Lib.hid g3
     have HSL:=Lib.hid hsml
     have hnb:=hB.nI
     have HBL:=Lib.hid hnb
     have HBI:=Lib.hid (fun k (hk:k<nb)=>show -9223372036854775808≤nth B k by
      exact(hBI (nth B k) (by rw [nth_eq (by omega)];exact List.getElem_mem _)).bd.1)
     have HOW:=Lib.hid (fun W (h:Ext w W)=>OwnI01 pb nb cb B W (hB.ext h) (by omega))
     have HF1:=Lib.hid (fun W (h:Ext w W)=>FitsG pa na ca A pb nb cb B W (hA.ext h) (hB.ext h))
     have HF2:=Lib.hid (fun (q:Option Addr) (c':Nat) (M:List Int) W (h:Ext w W) (hM:Rd W 1 q nb (encI M))=>FitsG pa na ca A q nb c' M W (hA.ext h) hM)
     have HMF:=Lib.hid (more_fits (A:=A) hnb)
     clear hA hB hL hbd g1 g2 g3 hBI hnb
     go_enter Tryz.func7,Tryz.ntmps7
     go_wp2_with (first | (go_at_call 35;have _t:=E2;go_must (refine(HOW.out _ E2.out).mono ?_;rintro e w3 ⟨q,c',rfl,Z⟩;have S3:=Lib.hid Z;clear Z)) | (go_at_call 24;have _t:=E1;go_must (refine(HSM.out _ E1.out).mono ?_;rintro e w2 ⟨rfl,hb⟩;have E2:=Lib.hid (Ext.trans E1.out hb);clear hb)) | (go_at_call 23;go_must (refine(HBG.out).mono ?_;rintro e w1 ⟨rfl,hb⟩;have E1:=Lib.hid hb;clear hb)))
     go_loopw [8] (fun i wr=>∃ k:Nat,k≤nb∧i=.int .i64 k∧Sep w2 wr [.own 3 1 q nb c' (encI (addK B (idxL B.length) k))]) (fun i _=>nb - (intOf i).toNat)
     case atStart=>exact⟨0,Nat.zero_le _,rfl,by rw [addK_zero];exact S3.out⟩
     case round =>
      clear S3
      obtain⟨k,hk,rfl,S⟩:=hrel
      by_cases hlt:k<nb
      ·have hkB:k<B.length:=by rw [← HBL.out];exact hlt
       have gq:=(S.rdx 0 rfl).cI hlt
       rw [more_at B hkB] at gq
       have HS:=Lib.hid (more_next B hkB)
       have b1:=HBI.out k hlt
       have d1:(0:Int)≤k:=by omega
       have d2:(k:Int)<nb:=by omega
       have pq:=(S.rdx 0 rfl).ptr
       have fz:=own_frozen (S.own 0 rfl) (by omega) k
       generalize nth B k=x at *
       by_cases hx:1000000<x
       ·have ex:decide (1000000<x)=true:=by simpa using hx
        have SH:=Lib.hid S
        clear S
        go_wp2_with (go_at_call 26;go_must (refine(Needs21 _).mono ?_;rintro e w4 ⟨rfl,hb⟩;have E4:=Lib.hid (Ext.trans (Ext.trans E2.out SH.out.ext) hb);clear hb))
        go_ret
        exact⟨rfl,E4.out⟩
       ·have ex:decide (1000000<x)=false:=by simpa using hx
        have S4:=Lib.hid (S.setRow 0 rfl k (by omega) (.int .i64 (x+k)))
        clear S
        go_wp2
        go_roundw
        case rel=>exact⟨k+1,by omega,by go_num,by rw [HS.out,← encI_set];exact S4.out⟩
        case measure=>simp [intOf];omega
      ·obtain rfl:k=nb:=by omega
       have SX:=Lib.hid S
       clear S
       generalize addK B (idxL B.length) k=M at SX HMF
       have HF3:=Lib.hid (fun W (h:Ext w W) (hM:Rd W 1 q k (encI M))=>HF2.out q c' M W h hM)
       cases hfb:fitsB A B with
       | false =>
        rw [hfb] at HF1
        clear HMF HF2 HF3
        rcases LL with _ | ⟨r,LL⟩
        ·obtain rfl:n=0:=HL.out.nL
         have HS0:=Lib.hid (fun W (h:Ext w W)=>SumG p 0 c hs [] W (HL.out.ext h) HG.out)
         rw [show (sumR []).length=0 from rfl] at HS0
         go_wp2_with (first | (go_at_call 30;have _t:=E4;go_must (refine(HS0.out _ E4.out).mono ?_;rintro e w7 ⟨qs,cs,rfl,Z⟩;have E7:=Lib.hid (Ext.trans E4.out Z.ext);clear Z)) | (go_at_call 26;go_must (refine(Needs21 _).mono ?_;rintro e w4 ⟨rfl,hb⟩;have E4:=Lib.hid (Ext.trans EF.out hb);clear hb)) | (go_at_call 27;have _t:=S5;go_must (refine(HF3.out _ EF.out (S5.out.rdx 0 rfl)).mono ?_;rintro e w6 ⟨rfl,hb⟩;have S6:=Lib.hid (S5.out.call hb);clear EF;have EF:=Lib.hid (Ext.trans E2.out S6.out.ext);clear hb)) | (go_at_call 27;have _t:=SX;go_must (refine(HF1.out _ (Ext.trans E2.out SX.out.ext)).mono ?_;rintro e w5 ⟨rfl,hb⟩;have S5:=Lib.hid (SX.out.call hb);have EF:=Lib.hid (Ext.trans E2.out S5.out.ext);clear hb)))
         go_ret
         exact⟨rfl,E7.out⟩
        ·rcases hs with _ | ⟨hd,hs⟩
         ·have:=HL.out.hn;simp at this
         have hn1:0<n:=by have:=HL.out.nL;rw [List.length_cons] at this;omega
         have d0:decide ((n:Int)=0)=false:=by simp;omega
         have d1:(1:Int)≤n:=by omega
         have p1:=HL.out.row.ptr
         have HG1:=Lib.hid (fun W (h:Ext w W)=>show W.cell? (adr p 0)=some (.slice hd.p hd.n hd.c) from(HL.out.ext h).row.cH hn1)
         have HSB:=Lib.hid (fun W (h:Ext w W)=>SumG (cutp p c 1 1) (n - 1) (c - 1) hs LL W ((HL.out.ext h).tail hnc) (sml_tail HG.out))
         have HS1:=Lib.hid (fun W (h:Ext w W)=>SumG p n c (hd :: hs) (r :: LL) W (HL.out.ext h) HG.out)
         have HHR:=Lib.hid (fun W (h:Ext w W)=>show Rd W 1 hd.p hd.n (encI r) from(HL.out.ext h).each 0 hn1)
         have HS2:=Lib.hid (fun a b c e W (h:Rd W 1 a 2 [.slice hd.p hd.n hd.c,.slice b c e]) (h0:Rd W 1 hd.p hd.n (encI r)) (h1:Rd W 1 b c (encI (sumR LL)))=>SumG a 2 2 [⟨hd.p,hd.n,hd.c⟩,⟨b,c,e⟩] [r,sumR LL] W (rdl_two h h0 h1) (sml_two HSL.out HG.out HG2.out HG3.out))
         rw [← sumR_cons] at HS2
         clear HL HG HSL HG2 HG3
         go_wp2_with (first | (go_at_call 27;have _t:=S5;go_must (refine(HF3.out _ EF.out (S5.out.rdx 0 rfl)).mono ?_;rintro e w6 ⟨rfl,hb⟩;have S6:=Lib.hid (S5.out.call hb);clear EF;have EF:=Lib.hid (Ext.trans E2.out S6.out.ext);clear hb)) | (go_at_call 27;have _t:=SX;go_must (refine(HF1.out _ (Ext.trans E2.out SX.out.ext)).mono ?_;rintro e w5 ⟨rfl,hb⟩;have S5:=Lib.hid (SX.out.call hb);have EF:=Lib.hid (Ext.trans E2.out S5.out.ext);clear hb)))
         have gz:=HG1.out _ EF.out
         refine wp_region_noPanic ?_
         refine wp_region_held_drew (S:=fun W=>W.cell? (adr p 0)=some (.slice hd.p hd.n hd.c)) (by kernel_rfl) gz (fun hHeld=>?_)
         have ED:=Lib.hid (Ext.trans EF.out (Below.refl _ _).drew)
         clear gz EF
         generalize World.drew _=D at ED hHeld ⊢
         refine wpAnyH_take (i:=0) (v:=.slice p n c) rfl (by kernel_rfl) (by kernel_rfl) (by kernel_rfl) (noPanic_q _ _) (Or.inl ⟨by kernel_rfl,fun W hSw=>by have h0:W.cell? (adr p 0)=some (.slice hd.p hd.n hd.c):=hSw;clear hSw;go_simp⟩) hHeld ?_
         refine wpAnyH_take (i:=1) (v:=.pointer (some (adr p 0))) rfl (by kernel_rfl) (by kernel_rfl) (by kernel_rfl) (noPanic_q _ _) (Or.inl ⟨by kernel_rfl,fun W hSw=>by have h0:W.cell? (adr p 0)=some (.slice hd.p hd.n hd.c):=hSw;clear hSw;go_simp⟩) hHeld ?_
         refine wpAnyH_take (i:=2) (v:=.slice hd.p hd.n hd.c) rfl (by kernel_rfl) (by kernel_rfl) (by kernel_rfl) (noPanic_q _ _) (Or.inl ⟨by kernel_rfl,fun W hSw=>by have h0:W.cell? (adr p 0)=some (.slice hd.p hd.n hd.c):=hSw;clear hSw;go_simp⟩) hHeld ?_
         refine wpAnyH_take (i:=3) (v:=.slice p n c) rfl (by kernel_rfl) (by kernel_rfl) (by kernel_rfl) (noPanic_q _ _) (Or.inl ⟨by kernel_rfl,fun W hSw=>by have h0:W.cell? (adr p 0)=some (.slice hd.p hd.n hd.c):=hSw;clear hSw;go_simp⟩) hHeld ?_
         refine wpAnyH_take (i:=4) (v:=.slice (cutp p c 1 1) (n - 1) (c - 1)) rfl (by kernel_rfl) (by kernel_rfl) (by kernel_rfl) (noPanic_q _ _) (Or.inl ⟨by kernel_rfl,fun W hSw=>by have h0:W.cell? (adr p 0)=some (.slice hd.p hd.n hd.c):=hSw;clear hSw;go_simp⟩) hHeld ?_
         refine wpAnyH_ready (rs:=[5]) (by kernel_rfl) (by simp) (AllReadyH.cons rfl (fun K hK=>?_) AllReadyH.nil)
         go_simp
         refine(HSB.out _ ED.out).mono ?_
         rintro e w7 ⟨qs,cs,rfl,Z⟩
         have Z7:=Lib.hid Z
         clear Z
         refine hK.out _ _ (HG1.out _ (Ext.trans ED.out Z7.out.ext)) (fun hHeld=>?_)
         clear hK
         refine wpAnyH_ready (rs:=[6]) (by kernel_rfl) (by simp) (AllReadyH.cons rfl (fun K hK=>?_) AllReadyH.nil)
         go_simp
         have Z8:=Lib.hid (Z7.out.alrow #[.slice hd.p hd.n hd.c,.slice qs (sumR LL).length cs] 25 1 2 w7.heap.size rfl (by decide) rfl)
         clear Z7
         refine hK.out _ _ (HG1.out _ (Ext.trans ED.out Z8.out.ext)) (fun hHeld=>?_)
         clear hK
         generalize w7.alloc _=w8 at Z8 hHeld ⊢
         generalize w7.heap.size=gb at *
         refine wpAnyH_ready (rs:=[7]) (by kernel_rfl) (by simp) (AllReadyH.cons rfl (fun K hK=>?_) AllReadyH.nil)
         go_simp
         have _e8:=Ext.trans ED.out Z8.out.ext
         refine(HS2.out _ _ _ _ _ (Z8.out.rdx 0 rfl) (HHR.out _ _e8) (Z8.out.rdx 1 rfl)).mono ?_
         rintro e w9 ⟨qt,ct,rfl,Z⟩
         have E9:=Lib.hid (Ext.trans _e8 Z.ext)
         have R9:=Lib.hid (Z.rdx 0 rfl)
         clear Z Z8 _e8
         refine hK.out _ _ (HG1.out _ E9.out) (fun hHeld=>?_)
         clear hK
         refine wpAnyH_take (i:=8) (v:=.slice qt (sumR (r :: LL)).length ct) rfl (by kernel_rfl) (by kernel_rfl) (by kernel_rfl) (noPanic_q _ _) (Or.inl ⟨by kernel_rfl,fun W hSw=>by have h0:W.cell? (adr p 0)=some (.slice hd.p hd.n hd.c):=hSw;clear hSw;go_simp⟩) hHeld ?_
         refine wpAnyH_done (by kernel_rfl) ?_ _
         refine noPanic_mk ?_
         clear hHeld
         try simp [Act.put]
         go_wp2_with (first | (go_at_call 29;have _t:=E7;go_must (refine(IntsY qu qt _ _ cu ct (sumR (r :: LL)) _ (Z7.out.rdx 0 rfl) R7.out).mono ?_;rintro e wc ⟨rfl,hb⟩;have E8:=Lib.hid (Ext.trans E7.out hb);clear hb)) | (go_at_call 30;have _t:=E4;go_must (refine(HS1.out _ E4.out).mono ?_;rintro e wb ⟨qu,cu,rfl,Z⟩;have Z7:=Lib.hid Z;have E7:=Lib.hid (Ext.trans E4.out Z.ext);have R7:=Lib.hid (R4.out.ext Z.ext);clear Z)) | (go_at_call 26;go_must (refine(Needs21 _).mono ?_;rintro e wa ⟨rfl,hb⟩;have E4:=Lib.hid (Ext.trans E9.out hb);have R4:=Lib.hid (R9.out.ext hb);clear hb)))
         go_ret
         exact⟨rfl,E8.out⟩
       | true =>
        rw [hfb] at HF1
        rw [HMF.out hfb] at HF3
        clear HMF HF2
        rcases LL with _ | ⟨r,LL⟩
        ·obtain rfl:n=0:=HL.out.nL
         have HS0:=Lib.hid (fun W (h:Ext w W)=>SumG p 0 c hs [] W (HL.out.ext h) HG.out)
         rw [show (sumR []).length=0 from rfl] at HS0
         go_wp2_with (first | (go_at_call 30;have _t:=E4;go_must (refine(HS0.out _ E4.out).mono ?_;rintro e w7 ⟨qs,cs,rfl,Z⟩;have E7:=Lib.hid (Ext.trans E4.out Z.ext);clear Z)) | (go_at_call 26;go_must (refine(Needs21 _).mono ?_;rintro e w4 ⟨rfl,hb⟩;have E4:=Lib.hid (Ext.trans EF.out hb);clear hb)) | (go_at_call 27;have _t:=S5;go_must (refine(HF3.out _ EF.out (S5.out.rdx 0 rfl)).mono ?_;rintro e w6 ⟨rfl,hb⟩;have S6:=Lib.hid (S5.out.call hb);clear EF;have EF:=Lib.hid (Ext.trans E2.out S6.out.ext);clear hb)) | (go_at_call 27;have _t:=SX;go_must (refine(HF1.out _ (Ext.trans E2.out SX.out.ext)).mono ?_;rintro e w5 ⟨rfl,hb⟩;have S5:=Lib.hid (SX.out.call hb);have EF:=Lib.hid (Ext.trans E2.out S5.out.ext);clear hb)))
         go_ret
         exact⟨rfl,E7.out⟩
        ·rcases hs with _ | ⟨hd,hs⟩
         ·have:=HL.out.hn;simp at this
         have hn1:0<n:=by have:=HL.out.nL;rw [List.length_cons] at this;omega
         have d0:decide ((n:Int)=0)=false:=by simp;omega
         have d1:(1:Int)≤n:=by omega
         have p1:=HL.out.row.ptr
         have HG1:=Lib.hid (fun W (h:Ext w W)=>show W.cell? (adr p 0)=some (.slice hd.p hd.n hd.c) from(HL.out.ext h).row.cH hn1)
         have HSB:=Lib.hid (fun W (h:Ext w W)=>SumG (cutp p c 1 1) (n - 1) (c - 1) hs LL W ((HL.out.ext h).tail hnc) (sml_tail HG.out))
         have HS1:=Lib.hid (fun W (h:Ext w W)=>SumG p n c (hd :: hs) (r :: LL) W (HL.out.ext h) HG.out)
         have HHR:=Lib.hid (fun W (h:Ext w W)=>show Rd W 1 hd.p hd.n (encI r) from(HL.out.ext h).each 0 hn1)
         have HS2:=Lib.hid (fun a b c e W (h:Rd W 1 a 2 [.slice hd.p hd.n hd.c,.slice b c e]) (h0:Rd W 1 hd.p hd.n (encI r)) (h1:Rd W 1 b c (encI (sumR LL)))=>SumG a 2 2 [⟨hd.p,hd.n,hd.c⟩,⟨b,c,e⟩] [r,sumR LL] W (rdl_two h h0 h1) (sml_two HSL.out HG.out HG2.out HG3.out))
         rw [← sumR_cons] at HS2
         clear HL HG HSL HG2 HG3
         go_wp2_with (first | (go_at_call 27;have _t:=S5;go_must (refine(HF3.out _ EF.out (S5.out.rdx 0 rfl)).mono ?_;rintro e w6 ⟨rfl,hb⟩;have S6:=Lib.hid (S5.out.call hb);clear EF;have EF:=Lib.hid (Ext.trans E2.out S6.out.ext);clear hb)) | (go_at_call 27;have _t:=SX;go_must (refine(HF1.out _ (Ext.trans E2.out SX.out.ext)).mono ?_;rintro e w5 ⟨rfl,hb⟩;have S5:=Lib.hid (SX.out.call hb);have EF:=Lib.hid (Ext.trans E2.out S5.out.ext);clear hb)))
         have gz:=HG1.out _ EF.out
         refine wp_region_noPanic ?_
         refine wp_region_held_drew (S:=fun W=>W.cell? (adr p 0)=some (.slice hd.p hd.n hd.c)) (by kernel_rfl) gz (fun hHeld=>?_)
         have ED:=Lib.hid (Ext.trans EF.out (Below.refl _ _).drew)
         clear gz EF
         generalize World.drew _=D at ED hHeld ⊢
         refine wpAnyH_take (i:=0) (v:=.slice p n c) rfl (by kernel_rfl) (by kernel_rfl) (by kernel_rfl) (noPanic_q _ _) (Or.inl ⟨by kernel_rfl,fun W hSw=>by have h0:W.cell? (adr p 0)=some (.slice hd.p hd.n hd.c):=hSw;clear hSw;go_simp⟩) hHeld ?_
         refine wpAnyH_take (i:=1) (v:=.pointer (some (adr p 0))) rfl (by kernel_rfl) (by kernel_rfl) (by kernel_rfl) (noPanic_q _ _) (Or.inl ⟨by kernel_rfl,fun W hSw=>by have h0:W.cell? (adr p 0)=some (.slice hd.p hd.n hd.c):=hSw;clear hSw;go_simp⟩) hHeld ?_
         refine wpAnyH_take (i:=2) (v:=.slice hd.p hd.n hd.c) rfl (by kernel_rfl) (by kernel_rfl) (by kernel_rfl) (noPanic_q _ _) (Or.inl ⟨by kernel_rfl,fun W hSw=>by have h0:W.cell? (adr p 0)=some (.slice hd.p hd.n hd.c):=hSw;clear hSw;go_simp⟩) hHeld ?_
         refine wpAnyH_take (i:=3) (v:=.slice p n c) rfl (by kernel_rfl) (by kernel_rfl) (by kernel_rfl) (noPanic_q _ _) (Or.inl ⟨by kernel_rfl,fun W hSw=>by have h0:W.cell? (adr p 0)=some (.slice hd.p hd.n hd.c):=hSw;clear hSw;go_simp⟩) hHeld ?_
         refine wpAnyH_take (i:=4) (v:=.slice (cutp p c 1 1) (n - 1) (c - 1)) rfl (by kernel_rfl) (by kernel_rfl) (by kernel_rfl) (noPanic_q _ _) (Or.inl ⟨by kernel_rfl,fun W hSw=>by have h0:W.cell? (adr p 0)=some (.slice hd.p hd.n hd.c):=hSw;clear hSw;go_simp⟩) hHeld ?_
         refine wpAnyH_ready (rs:=[5]) (by kernel_rfl) (by simp) (AllReadyH.cons rfl (fun K hK=>?_) AllReadyH.nil)
         go_simp
         refine(HSB.out _ ED.out).mono ?_
         rintro e w7 ⟨qs,cs,rfl,Z⟩
         have Z7:=Lib.hid Z
         clear Z
         refine hK.out _ _ (HG1.out _ (Ext.trans ED.out Z7.out.ext)) (fun hHeld=>?_)
         clear hK
         refine wpAnyH_ready (rs:=[6]) (by kernel_rfl) (by simp) (AllReadyH.cons rfl (fun K hK=>?_) AllReadyH.nil)
         go_simp
         have Z8:=Lib.hid (Z7.out.alrow #[.slice hd.p hd.n hd.c,.slice qs (sumR LL).length cs] 25 1 2 w7.heap.size rfl (by decide) rfl)
         clear Z7
         refine hK.out _ _ (HG1.out _ (Ext.trans ED.out Z8.out.ext)) (fun hHeld=>?_)
         clear hK
         generalize w7.alloc _=w8 at Z8 hHeld ⊢
         generalize w7.heap.size=gb at *
         refine wpAnyH_ready (rs:=[7]) (by kernel_rfl) (by simp) (AllReadyH.cons rfl (fun K hK=>?_) AllReadyH.nil)
         go_simp
         have _e8:=Ext.trans ED.out Z8.out.ext
         refine(HS2.out _ _ _ _ _ (Z8.out.rdx 0 rfl) (HHR.out _ _e8) (Z8.out.rdx 1 rfl)).mono ?_
         rintro e w9 ⟨qt,ct,rfl,Z⟩
         have E9:=Lib.hid (Ext.trans _e8 Z.ext)
         have R9:=Lib.hid (Z.rdx 0 rfl)
         clear Z Z8 _e8
         refine hK.out _ _ (HG1.out _ E9.out) (fun hHeld=>?_)
         clear hK
         refine wpAnyH_take (i:=8) (v:=.slice qt (sumR (r :: LL)).length ct) rfl (by kernel_rfl) (by kernel_rfl) (by kernel_rfl) (noPanic_q _ _) (Or.inl ⟨by kernel_rfl,fun W hSw=>by have h0:W.cell? (adr p 0)=some (.slice hd.p hd.n hd.c):=hSw;clear hSw;go_simp⟩) hHeld ?_
         refine wpAnyH_done (by kernel_rfl) ?_ _
         refine noPanic_mk ?_
         clear hHeld
         try simp [Act.put]
         go_wp2_with (first | (go_at_call 29;have _t:=E7;go_must (refine(IntsY qu qt _ _ cu ct (sumR (r :: LL)) _ (Z7.out.rdx 0 rfl) R7.out).mono ?_;rintro e wc ⟨rfl,hb⟩;have E8:=Lib.hid (Ext.trans E7.out hb);clear hb)) | (go_at_call 30;have _t:=E4;go_must (refine(HS1.out _ E4.out).mono ?_;rintro e wb ⟨qu,cu,rfl,Z⟩;have Z7:=Lib.hid Z;have E7:=Lib.hid (Ext.trans E4.out Z.ext);have R7:=Lib.hid (R4.out.ext Z.ext);clear Z)) | (go_at_call 26;go_must (refine(Needs21 _).mono ?_;rintro e wa ⟨rfl,hb⟩;have E4:=Lib.hid (Ext.trans E9.out hb);have R4:=Lib.hid (R9.out.ext hb);clear hb)))
         go_ret
         exact⟨rfl,E8.out⟩
end
end Go.Proofs.YtfjhjennfiihhaaGreat
