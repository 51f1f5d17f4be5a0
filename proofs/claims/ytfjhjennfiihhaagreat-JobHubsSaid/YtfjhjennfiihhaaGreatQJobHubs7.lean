/- Texts of this claim, one behind the other: PlainHj, LHubs20, Post, Open4. -/
import Derived.Test.YtfjhjennfiihhaaGreatQJobHubs6
set_option maxRecDepth 100000
set_option maxHeartbeats 16000000
namespace Go.Proofs.YtfjhjennfiihhaaGreat
section
open Go Go.RowKit
theorem hubs_ask {O T R V:List Int} {L:List Po} {n:Nat} {k f t:Int} {ws:List ByteArray} {rad most:Int} {b:Bool} {d:Int} {F:List (Int × Int)} {e:Int}
  (hck:checkR O T R V=true) (hno:O.length=n+1) (hk:k≠3) (hA:AskS O T R V L k f t ws rad most b d F e) :
  hubB (lchkB (labT (rowL R V) n (byL O R n) n) (labT (rowL O T) n (byL O R n) n)) (chkQ k f t ws rad most n) k (queryO (labT (rowL R V) n (byL O R n) n) (labT (rowL O T) n (byL O R n) n) f t)=b∧hubD (lchkB (labT (rowL R V) n (byL O R n) n) (labT (rowL O T) n (byL O R n) n)) (chkQ k f t ws rad most n) k (queryN (labT (rowL R V) n (byL O R n) n) (labT (rowL O T) n (byL O R n) n) f t)=d∧[]=F∧hubE (lchkB (labT (rowL R V) n (byL O R n) n) (labT (rowL O T) n (byL O R n) n)) (chkQ k f t ws rad most n) k=e:=by
 obtain⟨he,h1,h0⟩:=hA
 rw [lab_check hck hno]
 have hcq:chkJ (checkR O T R V) k f t ws rad most O.length=chkQ k f t ws rad most n:=by
  unfold chkJ
  rw [hck,if_pos rfl,hno]
  congr 1
  omega
 have hE:hubE true (chkQ k f t ws rad most n) k=e:=by
  rw [he,hcq]
  unfold hubE
  rw [if_neg (by simp),if_neg hk]
  split
  ·rename_i h;exact h.symm
  ·rfl
 by_cases hz:e=0
 ·obtain⟨_,_,n',hn',f0,f1,hcs⟩:=chkJ_facts (he.symm.trans hz)
  obtain rfl:n'=n:=by omega
  rcases hcs with ⟨hk2,t0,t1⟩ | ⟨h3,_⟩
  ·obtain⟨s,rfl⟩:∃ s:Nat,f=(s:Int):=⟨f.toNat,by omega⟩
   obtain⟨u,rfl⟩:∃ u:Nat,t=(u:Int):=⟨t.toNat,by omega⟩
   obtain⟨q1,q2,_⟩:=lab_query hck hno (a:=s) (b:=u) (by omega) (by omega)
   obtain⟨a1,a2,_⟩:=h0 hz
   rw [hno,Int.toNat_natCast,Int.toNat_natCast,Nat.add_sub_cancel] at a1 a2
   refine⟨?_,?_,?_,hE⟩
   ·unfold hubB
    rw [hE,if_pos hz,q2]
    rcases hk2 with h | h
    ·exact(a1 h).1.symm
    ·exact(a2 h).1.symm
   ·unfold hubD
    rw [hE,if_pos hz,q1]
    rcases hk2 with h | h
    ·rw [if_neg (by omega)];exact(a1 h).2.1.symm
    ·rw [if_pos h];exact(a2 h).2.1.symm
   ·rcases hk2 with h | h
    ·exact(a1 h).2.2.symm
    ·exact(a2 h).2.2.symm
  ·exact absurd h3 hk
 ·obtain⟨rfl,rfl,rfl⟩:=h1 hz
  refine⟨?_,?_,rfl,hE⟩
  ·unfold hubB;rw [hE,if_neg hz]
  ·unfold hubD;rw [hE,if_neg hz]
end
section
open Go Go.RowKit
theorem rdpNil (w:World):RdP w none 0 [] []:=⟨rfl,.inl rfl,by omega,fun k hk=>by omega,fun k hk=>by omega,fun k hk=>by omega⟩
theorem lawHubs20 (k f t:Int) (pw:Option Addr) (nw cw:Nat) (ws:List ByteArray) (rad most:Int) (po:Option Addr) (no co:Nat) (O:List Int) (pt:Option Addr) (nt ct:Nat) (T:List Int) (pr:Option Addr) (nr cr:Nat) (R:List Int) (pv:Option Addr) (nv cv:Nat) (V:List Int) (w:World) (hO:Rd w 1 po no (encI O)) (hT:Rd w 1 pt nt (encI T)) (hR:Rd w 1 pr nr (encI R)) (hV:Rd w 1 pv nv (encI V)) (hct:nt≤ct) (hcv:nv≤cv)
  (hW:Rd w 1 pw nw (encS ws)) (hcw:nw≤cw) :
  Calls Tryz.prog 13 #[.agg #[.int .i64 k,.int .i64 f,.int .i64 t,.slice pw nw cw,.int .i64 rad,.int .i64 most],.agg #[.slice po no co,.slice pt nt ct,.slice pr nr cr,.slice pv nv cv]] w fun e w'=>e=.returned (.bool true)∧Ext w w':=by
 have S0:=Lib.hid (((Sep.start w).al #[.int .i64 k,.int .i64 f,.int .i64 t,.slice pw nw cw,.int .i64 rad,.int .i64 most] 24 w.heap.size rfl).al #[.slice po no co,.slice pt nt ct,.slice pr nr cr,.slice pv nv cv] 27 (w.heap.size+1) (by simp))
 have HFR:=Lib.hid (fun W (h:Ext w W)=>FarJ20 k f t pw nw cw ws rad most po no co O pt nt ct T pr nr cr R pv nv cv V none 0 0 [] [] none 0 0 W (hO.ext h) (hT.ext h) (hR.ext h) (hV.ext h) (hW.ext h) (rdpNil _))
 cases hfar:farJ ws O T R V [] 0 with
 | true =>
  rw [hfar] at HFR
  clear hO hT hR hV hct hcv hW hfar
  go_enter Tryz.func13,Tryz.ntmps13
  go_wp2_with (go_at_call 14;go_must (refine(HFR.out _ S0.out.ext).mono ?_;rintro e w1 ⟨rfl,hb⟩;have S1:=Lib.hid (S0.out.call hb);obtain⟨b0,b1,b2,b3,bz⟩:=bkc0c1c2c3l (S1.out.blk 0 rfl);obtain⟨a0,a1,a2,a3,a4,a5,az⟩:=bkc0c1c2c3c4c5l (S1.out.blk 1 rfl);clear hb))
  go_ret
  exact⟨rfl,S1.out.ext⟩
 | false =>
  rw [hfar] at HFR
  by_cases h20:(20:Int)<no
  ·have e20:decide ((20:Int)<no)=true:=decide_eq_true h20
   clear hO hT hR hV hct hcv hW hfar h20
   go_enter Tryz.func13,Tryz.ntmps13
   go_wp2_with (go_at_call 14;go_must (refine(HFR.out _ S0.out.ext).mono ?_;rintro e w1 ⟨rfl,hb⟩;have S1:=Lib.hid (S0.out.call hb);obtain⟨b0,b1,b2,b3,bz⟩:=bkc0c1c2c3l (S1.out.blk 0 rfl);obtain⟨a0,a1,a2,a3,a4,a5,az⟩:=bkc0c1c2c3c4c5l (S1.out.blk 1 rfl);clear hb))
   go_ret
   exact⟨rfl,S1.out.ext⟩
  ·have e20:decide ((20:Int)<no)=false:=decide_eq_false h20
   by_cases hk:k=3
   ·subst hk
    clear hO hT hR hV hct hcv hW hfar h20
    go_enter Tryz.func13,Tryz.ntmps13
    go_wp2_with (go_at_call 14;go_must (refine(HFR.out _ S0.out.ext).mono ?_;rintro e w1 ⟨rfl,hb⟩;have S1:=Lib.hid (S0.out.call hb);obtain⟨b0,b1,b2,b3,bz⟩:=bkc0c1c2c3l (S1.out.blk 0 rfl);obtain⟨a0,a1,a2,a3,a4,a5,az⟩:=bkc0c1c2c3c4c5l (S1.out.blk 1 rfl);clear hb))
    go_ret
    exact⟨rfl,S1.out.ext⟩
   ·have ek:decide (k=3)=false:=decide_eq_false hk
    have ek2:(k == 3)=false:=by simpa using hk
    obtain⟨f1,f2,f3,f4,f5⟩:=jobFacts k f t pw nw cw ws rad most rfl rfl rfl rfl rfl rfl rfl rfl hfar (fun q hq=>by cases hq)
    have hno:=hO.nI
    have hnw:=hW.nS
    have HA1:=Lib.hid (fun W (h:Ext w W)=>AskG12 k f t pw nw cw ws rad most po no co O pt nt ct T pr nr cr R pv nv cv V none 0 0 [] [] W (hO.ext h) (hT.ext h) (hR.ext h) (hV.ext h) hct hcv (rdpNil _) (hW.ext h) (by omega) f2 hcw (by omega) f4 hk)
    cases hck:checkR O T R V with
    | false =>
     have HBu:=Lib.hid (fun W1 (h:Ext w W1)=>BuildG_no po no co O pt nt ct T pr nr cr R pv nv cv V W1 (hO.ext h) (hT.ext h) (hR.ext h) (hV.ext h) hct hcv hck)
     have HAE:=Lib.hid (fun (b:Bool) (d:Int) (F:List (Int × Int)) (e:Int) (hA:AskS O T R V [] k f t ws rad most b d F e)=>show e=40 by have h1:=hA.1;rw [hck] at h1;exact h1)
     have HHB:=Lib.hid (fun W (h:Ext w W)=>HubsG20 k f t pw nw cw rad most none 0 0 none 0 0 false (queryO [] [] f t) (chkQ k f t ws rad most (0:Nat)) (queryN [] [] f t) (queryC [] [] f t) W (fun W2 _=>LCheckG none 0 0 [] [] none 0 0 [] [] W2 ⟨Rd.nil _ _ _,rfl,fun j hj=>by omega⟩ ⟨Rd.nil _ _ _,rfl,fun j hj=>by omega⟩) (fun W2 h2=>CheckQ k f t pw nw cw ws rad most (0:Nat) W2 (hW.ext (Ext.trans h h2)) f2) (fun W2 _=>LQueryG none 0 0 [] [] none 0 0 [] [] f t W2 ⟨Rd.nil _ _ _,rfl,fun j hj=>by omega⟩ ⟨Rd.nil _ _ _,rfl,fun j hj=>by omega⟩) (fun hc=>by cases hc))
     rw [show hubB false (chkQ k f t ws rad most (0:Nat)) k (queryO [] [] f t)=false from rfl,show hubD false (chkQ k f t ws rad most (0:Nat)) k (queryN [] [] f t)=0 from rfl,show hubE false (chkQ k f t ws rad most (0:Nat)) k=1 from rfl] at HHB
     generalize ([]:List (Int × Int))=FH at HHB
     clear hO hT hR hV hct hcv hW hfar f1 f2 f3 f4 f5 hno hnw hcw h20 hk hck
     go_enter Tryz.func13,Tryz.ntmps13
     go_wp2_with (first | (go_at_call 19;have _t:=S4;go_must (refine(Jobs20 _).mono ?_;rintro e w5 ⟨rfl,hb⟩;have S5:=Lib.hid (S4.out.call hb);obtain⟨r0,r1,r2,rz⟩:=bkc0c1c2l (S5.out.blk 0 rfl);obtain⟨s0,s1,s2,sz⟩:=bkc0c1c2l (S5.out.blk 2 rfl);clear hb)) | (go_at_call 40;have _t:=S3;go_must (refine(HA1.out _ S3.out.ext).mono ?_;rintro e w4 ⟨b2',d2',F2,e2',g2,q2,c2,rfl,Z⟩;obtain rfl:=HAE.out _ _ _ _ g2;have S4:=Lib.hid ((S3.out.comp Z).al #[.bool b2',.int .i64 d2',.slice q2 F2.length c2] 34 w4.heap.size rfl);clear a0 a1 a2 a3 a4 a5 az b0 b1 b2 b3 bz;clear Z g2)) | (go_at_call 43;have _t:=S2;go_must (refine(HHB.out _ S2.out.ext).mono ?_;rintro e w3 ⟨q3,c3,rfl,Z⟩;have S3:=Lib.hid ((S2.out.comp Z).al #[.bool false,.int .i64 0,.slice q3 FH.length c3] 34 w3.heap.size rfl);clear a0 a1 a2 a3 a4 a5 az b0 b1 b2 b3 bz;clear l0 l1 lz;obtain⟨b0,b1,b2,b3,bz⟩:=bkc0c1c2c3l (S3.out.blk 3 rfl);obtain⟨a0,a1,a2,a3,a4,a5,az⟩:=bkc0c1c2c3c4c5l (S3.out.blk 4 rfl);clear Z)) | (go_at_call 45;have _t:=S1;go_must (refine(HBu.out _ S1.out.ext).mono ?_;rintro e w2 ⟨rfl,hb⟩;have S2:=Lib.hid ((S1.out.call hb).al #[.slice none 0 0,.slice none 0 0] 67 w2.heap.size rfl);clear a0 a1 a2 a3 a4 a5 az b0 b1 b2 b3 bz;obtain⟨b0,b1,b2,b3,bz⟩:=bkc0c1c2c3l (S2.out.blk 1 rfl);obtain⟨a0,a1,a2,a3,a4,a5,az⟩:=bkc0c1c2c3c4c5l (S2.out.blk 2 rfl);obtain⟨l0,l1,lz⟩:=bkc0c1l (S2.out.blk 0 rfl);clear hb)) | (go_at_call 14;go_must (refine(HFR.out _ S0.out.ext).mono ?_;rintro e w1 ⟨rfl,hb⟩;have S1:=Lib.hid (S0.out.call hb);obtain⟨b0,b1,b2,b3,bz⟩:=bkc0c1c2c3l (S1.out.blk 0 rfl);obtain⟨a0,a1,a2,a3,a4,a5,az⟩:=bkc0c1c2c3c4c5l (S1.out.blk 1 rfl);clear hb)))
     go_ret
     exact⟨rfl,S5.out.ext⟩
    | true =>
     have r:=offB_parts (halfB_off (checkR_half hck).2.2.1)
     obtain⟨n,hn⟩:∃ n,O.length=n+1:=⟨O.length - 1,by omega⟩
     have HBu:=Lib.hid (fun W1 (h:Ext w W1)=>BuildRd po no co O pt nt ct T pr nr cr R pv nv cv V n W1 (hO.ext h) (hT.ext h) (hR.ext h) (hV.ext h) hct hcv hck hn)
     have HAE:=Lib.hid (fun (b:Bool) (d:Int) (F:List (Int × Int)) (e:Int) (hA:AskS O T R V [] k f t ws rad most b d F e)=>hubs_ask hck hn hk hA)
     have HL:(labT (rowL R V) n (byL O R n) n).length=n:=labT_len _ _ _ _
     generalize labT (rowL R V) n (byL O R n) n=A at *
     generalize labT (rowL O T) n (byL O R n) n=B at *
     have HHB:=Lib.hid (fun (qO:Option Addr) (cO:Nat) (HO:List Hd) (qI:Option Addr) (cI:Nat) (HI:List Hd) W (ra:RdT W qO n HO A) (rb:RdT W qI n HI B) (h:Ext w W)=>HubsG20 k f t pw nw cw rad most qO n cO qI n cI (lchkB A B) (queryO A B f t) (chkQ k f t ws rad most n) (queryN A B f t) (queryC A B f t) W (fun W2 h2=>LCheckG qO n cO HO A qI n cI HI B W2 (ra.ext h2) (rb.ext h2)) (fun W2 h2=>CheckQ k f t pw nw cw ws rad most n W2 (hW.ext (Ext.trans h h2)) f2) (fun W2 h2=>LQueryG qO n cO HO A qI n cI HI B f t W2 (ra.ext h2) (rb.ext h2)) (fun hc hq=>hub_facts HL hc hq))
     generalize hubB (lchkB A B) (chkQ k f t ws rad most n) k (queryO A B f t)=bb at HHB HAE
     generalize hubD (lchkB A B) (chkQ k f t ws rad most n) k (queryN A B f t)=dd at HHB HAE
     generalize hubE (lchkB A B) (chkQ k f t ws rad most n) k=ee at HHB HAE
     generalize ([]:List (Int × Int))=FH at HHB HAE
     clear hO hT hR hV hct hcv hW hfar f1 f2 f3 f4 f5 hno hnw hcw h20 hk hck r hn HL
     go_enter Tryz.func13,Tryz.ntmps13
     go_wp2_with (first | (go_at_call 20;have _t:=S5;go_must (refine(Same18 bb dd q3 q2 FH.length FH.length c3 c2 FH _ (S5.out.rdx 3 rfl) (S5.out.rdx 1 rfl)).mono ?_;rintro e w6 ⟨rfl,hb⟩;have S6:=Lib.hid (S5.out.call hb);clear hb)) | (go_at_call 19;have _t:=S4;go_must (refine(Jobs20 _).mono ?_;rintro e w5 ⟨rfl,hb⟩;have S5:=Lib.hid (S4.out.call hb);obtain⟨r0,r1,r2,rz⟩:=bkc0c1c2l (S5.out.blk 0 rfl);obtain⟨s0,s1,s2,sz⟩:=bkc0c1c2l (S5.out.blk 2 rfl);clear hb)) | (go_at_call 40;have _t:=S3;go_must (refine(HA1.out _ S3.out.ext).mono ?_;rintro e w4 ⟨b2',d2',F2,e2',g2,q2,c2,rfl,Z⟩;obtain⟨rfl,rfl,rfl,rfl⟩:=HAE.out _ _ _ _ g2;have S4:=Lib.hid ((S3.out.comp Z).al #[.bool bb,.int .i64 dd,.slice q2 FH.length c2] 34 w4.heap.size rfl);clear a0 a1 a2 a3 a4 a5 az b0 b1 b2 b3 bz;clear Z g2)) | (go_at_call 43;have _t:=S2;go_must (refine(HHB.out qO cO HO qI cI HI _ RA.out RB.out S2.out.ext).mono ?_;rintro e w3 ⟨q3,c3,rfl,Z⟩;have S3:=Lib.hid ((S2.out.comp Z).al #[.bool bb,.int .i64 dd,.slice q3 FH.length c3] 34 w3.heap.size rfl);clear a0 a1 a2 a3 a4 a5 az b0 b1 b2 b3 bz;clear l0 l1 lz;obtain⟨b0,b1,b2,b3,bz⟩:=bkc0c1c2c3l (S3.out.blk 3 rfl);obtain⟨a0,a1,a2,a3,a4,a5,az⟩:=bkc0c1c2c3c4c5l (S3.out.blk 4 rfl);clear Z)) | (go_at_call 45;have _t:=S1;go_must (refine(HBu.out _ S1.out.ext).mono ?_;rintro e w2 ⟨qO,cO,qI,cI,HO,HI,rfl,ra,rb,hb⟩;have RA:=Lib.hid (ra.ext (Ext.alloc (Below.refl _ _) (.cells #[.slice qO n cO,.slice qI n cI] 67)));have RB:=Lib.hid (rb.ext (Ext.alloc (Below.refl _ _) (.cells #[.slice qO n cO,.slice qI n cI] 67)));have S2:=Lib.hid ((S1.out.call hb).al #[.slice qO n cO,.slice qI n cI] 67 w2.heap.size rfl);clear a0 a1 a2 a3 a4 a5 az b0 b1 b2 b3 bz;obtain⟨b0,b1,b2,b3,bz⟩:=bkc0c1c2c3l (S2.out.blk 1 rfl);obtain⟨a0,a1,a2,a3,a4,a5,az⟩:=bkc0c1c2c3c4c5l (S2.out.blk 2 rfl);obtain⟨l0,l1,lz⟩:=bkc0c1l (S2.out.blk 0 rfl);clear hb ra rb)) | (go_at_call 14;go_must (refine(HFR.out _ S0.out.ext).mono ?_;rintro e w1 ⟨rfl,hb⟩;have S1:=Lib.hid (S0.out.call hb);obtain⟨b0,b1,b2,b3,bz⟩:=bkc0c1c2c3l (S1.out.blk 0 rfl);obtain⟨a0,a1,a2,a3,a4,a5,az⟩:=bkc0c1c2c3c4c5l (S1.out.blk 1 rfl);clear hb)))
     go_ret
     exact⟨rfl,S6.out.ext⟩
end
section
open Go Go.RowKit Go.WideShapes Go.ChangeShapes
theorem own:ownKnob Tryz.prog.godebug=none:=by kernel_rfl
theorem laidOut:laidOutB Tryz.prog=true:=by kernel_rfl
theorem law_post {H:Type} {enc:TypeId × Value→H} {f:Func} {s:ChangeSpec} {apart fresh handsOn again:Bool} {W W':World} {args:Array Value} {ds:List (DataW H)} {before:List MemPlace}
  (hW:DataW.Whole enc Tryz.prog f.params.toList s.vars apart W args.toList ds [] before) (ht:f.resultTypes=#[4]) (hvars:s.vars=[])
  (hfn:s.fn H (ds ++ [])={ results:=[.lit (.bool true)],args:=ds })
  (hargs:∀ sp:Nat→Bool,(∀ p∈before,sp p.block=true)→DataW.TrodAll enc Tryz.prog W' 0 sp true f.params.toList args.toList ds before)
  (hb:Below W.heap.size W W'):s.post enc Tryz.prog f apart fresh handsOn again W args (.bool true) W':=by
 have lits:∀ (b:Nat) (sp:Nat→Bool) (hd:Bool),DataW.TrodAll enc Tryz.prog W' b sp hd f.resultTypes.toList ((Value.bool true).resultList f.resultTypes.size) (s.fn H (ds ++ [])).results []:=by
  intro b sp hd
  rw [hfn,ht]
  exact trodAll_mk1 (shut_bool Tryz.underlying4 true)
 have hold:∀ sp:Nat→Bool,(∀ p∈before,sp p.block=true)→DataW.TrodAll enc Tryz.prog W' 0 sp true f.params.toList args.toList (s.fn H (ds ++ [])).args before:=by
  intro sp hsp
  rw [hfn];exact hargs sp hsp
 have hv:∀ sp:Nat→Bool,DataW.TrodVars enc Tryz.prog W' sp s.vars (s.fn H (ds ++ [])).vars []:=by
  intro sp;rw [hfn,hvars];rfl
 have hin:∀ p∈before,p.block<W.heap.size:=fun p hp=>hW.lt p hp
 have same:before=before ++ []:=by simp
 refine⟨ds,[],before,[],before,[],hW,lits _ _ _,hold _ (fun p hp=>by simpa using hin p hp),hv _,World.keptBut_mono (fun p hp=>⟨hp,.inr (by simpa using hp)⟩) (hb.frame (·∈before)),fun _=>?_⟩
 have hW2:=hW
 obtain⟨_,_,_,_,_,hz,hn⟩:=hW2
 refine⟨ok_one (by rw [ht]) rfl (okWide_bool_mk Tryz.underlying4 _),_,_,([] ++ before) ++ [],⟨[] ++ before,[],trodAll_append (hold _ (fun _ _=>rfl)) (lits _ _ _),hv _,rfl,?_,?_⟩,?_⟩
 ·intro b off hp
  have hp2:MemPlace.cell b off∈before:=by simpa using hp
  rw [hb.frozen (hin _ hp2)]
  exact hz b off hp2
 ·intro ha
  simpa using hn ha
 ·intro p hp _
  simpa using hp
theorem stays {H:Type} {enc:TypeId × Value→H} {W W':World} {t:TypeId} {v:Value} {d:DataW H} {ps:List MemPlace} (hr:Tryz.prog.readableRec t=true) (hrow:t<Tryz.prog.types.size) (h:DataW.Trod enc Tryz.prog W 0 (fun _=>true) true t v d ps)
  (hb:Below W.heap.size W W') (hlt:∀ x∈ps,x.block<W.heap.size) {sp:Nat→Bool} (hsp:∀ x∈ps,sp x.block=true):DataW.Trod enc Tryz.prog W' 0 sp true t v d ps :=
 WideElems.Trod_stays laidOut hr hrow h (fun x hx=>hb.same (hlt x hx)) hsp
theorem trodAll_turn {H:Type} {enc:TypeId × Value→H} {P:Program} {W W':World} {sp sp':Nat→Bool} {hd:Bool} (ts:List TypeId):∀ {vs:List Value} {ds:List (DataW H)} {ps:List MemPlace},DataW.TrodAll enc P W 0 sp hd ts vs ds ps →
  (∀ t∈ts,∀ v d p,(∀ x∈p,x∈ps)→DataW.Trod enc P W 0 sp hd t v d p→DataW.Trod enc P W' 0 sp' hd t v d p)→DataW.TrodAll enc P W' 0 sp' hd ts vs ds ps:=by
 induction ts with
 | nil =>
  intro vs ds ps h _
  obtain⟨rfl,rfl,rfl⟩:=trodAll_nil h
  exact trodAll_mk0
 | cons t ts ih =>
  intro vs ds ps h hk
  obtain⟨v,vs',d,ds',p,q,rfl,rfl,rfl,h1,h2⟩:=trodAll_cons h
  exact trodAll_cons_mk (hk t (by simp) v d p (fun x hx=>by simp [hx]) h1) (ih h2 fun t' ht' v' d' p' hp' h'=>hk t' (by simp [ht']) v' d' p' (fun x hx=>by simp [hp' x hx]) h')
theorem stays_all {H:Type} {enc:TypeId × Value→H} {W W':World} {ts:List TypeId} {vs:List Value} {ds:List (DataW H)} {ps:List MemPlace} (hr:ts.all (fun t=>Tryz.prog.readableRec t && decide (t<Tryz.prog.types.size))=true)
  (h:DataW.TrodAll enc Tryz.prog W 0 (fun _=>true) true ts vs ds ps) (hb:Below W.heap.size W W') (hlt:∀ x∈ps,x.block<W.heap.size) {sp:Nat→Bool} (hsp:∀ x∈ps,sp x.block=true):DataW.TrodAll enc Tryz.prog W' 0 sp true ts vs ds ps :=
 trodAll_turn ts h fun t ht v d p hp h1=>by
  have h2:=List.all_eq_true.1 hr t ht
  rw [Bool.and_eq_true,decide_eq_true_eq] at h2
  exact stays h2.1 h2.2 h1 hb (fun x hx=>hlt x (hp x hx)) (fun x hx=>hsp x (hp x hx))
theorem andT {a b:Bool} (h:a=true) (g:b=true):(a && b)=true:=by rw [h,g];rfl
end
section
open Go Go.RowKit Go.ChangeShapes Go.WideShapes Go.ChangeAt Go.Deep Go.Joins
section
variable {H:Type} {enc:TypeId × Value→H} {w:World} {base:Nat} {spare:Nat→Bool} {held:Bool}
theorem open_rowsarg {r:Reach} {b0:Nat} {v:Value} {d:DataW H} {p:List MemPlace} (hv:Value.okWide Tryz.prog w r b0 27 v) (h:DataW.Trod enc Tryz.prog w base spare held 27 v d p) :
  ∃ po no co O pt nt ct T pr nr cr R pv nv cv V,v=.agg #[.slice po no co,.slice pt nt ct,.slice pr nr cr,.slice pv nv cv]∧Rd w 1 po no (encI O)∧Rd w 1 pt nt (encI T)∧Rd w 1 pr nr (encI R)∧Rd w 1 pv nv (encI V)∧no≤co∧nt≤ct∧nr≤cr∧nv≤cv:=by
 obtain⟨v0,v1,v2,v3,y0,y1,y2,y3,n,rfl,_,_,t0,t1,t2,t3⟩:=open_agg4 Tryz.underlying27 (by kernel_rfl) (by kernel_rfl) hv h
 obtain⟨po,no,co,O,rfl,c0,h0,_⟩:=trod_ints Tryz.underlying25 t0
 obtain⟨pt,nt,ct,T,rfl,c1,h1,_⟩:=trod_ints Tryz.underlying25 t1
 obtain⟨pr,nr,cr,R,rfl,c2,h2,_⟩:=trod_ints Tryz.underlying25 t2
 obtain⟨pv,nv,cv,V,rfl,c3,h3,_⟩:=trod_ints Tryz.underlying25 t3
 exact⟨po,no,co,O,pt,nt,ct,T,pr,nr,cr,R,pv,nv,cv,V,rfl,h0,h1,h2,h3,c0,c1,c2,c3⟩
end
end
end Go.Proofs.YtfjhjennfiihhaaGreat
