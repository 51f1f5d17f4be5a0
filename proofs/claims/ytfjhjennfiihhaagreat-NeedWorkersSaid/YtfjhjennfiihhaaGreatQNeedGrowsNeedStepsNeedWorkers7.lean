/- Texts of this claim, one behind the other: LWork21. -/
import Derived.Test.YtfjhjennfiihhaaGreatQNeedGrowsNeedStepsNeedWorkers6
set_option maxRecDepth 100000
set_option maxHeartbeats 16000000
namespace Go.Proofs.YtfjhjennfiihhaaGreat
section
open Go Go.RowKit
theorem needS_two {O T R V:List Int} {k f t:Int} {ws:List ByteArray} {rad most wv ov:Int} {X Y:List (List Int)} {e e':Int} (hX:NeedS O T R V k f t ws rad most wv X e) (hY:NeedS O T R V k f t ws rad most ov Y e') (h1:1≤wv∧wv≤16) (h2:1≤ov∧ov≤16) (h200:O.length≤201) :
  e=e'∧Y.length=X.length∧∀ i,i<X.length→(nth Y i).sum=(nth X i).sum∧SumOk (nth X i)∧SumOk (nth Y i):=by
 by_cases h0:chkJ (checkR O T R V) k f t ws rad most O.length=0
 ·obtain⟨a1,m,a2,a3,a4,a5⟩:=hX.2.2 h0 h1
  obtain⟨c1,m',c2,c3,c4,c5⟩:=hY.2.2 h0 h2
  obtain rfl:m=m':=least_uniqB (p:=fun i=>doneB k t (runM (nextL k rad true O T R V) (startQ k f t 0) (i+1))) a3 a4 c3 c4
  have hl:Y.length=X.length:=by rw [a5,c5,needL_len,needL_len]
  subst a1 c1
  refine⟨rfl,hl,fun i hi=>?_⟩
  have hm:i<m+1:=by rw [a5,needL_len] at hi;exact hi
  have s1:=need_sum (wk:=wv.toNat) h0 h200 (by omega) hm
  have s2:=need_sum (wk:=ov.toNat) h0 h200 (by omega) hm
  rw [← a5] at s1
  rw [← c5] at s2
  obtain⟨_,_,gx,_⟩:=needS_grow hX h200
  obtain⟨_,_,gy,_⟩:=needS_grow hY h200
  have g1:=gx i hi
  have g2:=gy i (by omega)
  exact⟨by omega,⟨g1.2.2.2,by omega⟩,⟨g2.2.2.2,by omega⟩⟩
 ·obtain⟨a1,a2⟩:=hX.1 h0
  obtain⟨c1,c2⟩:=hY.1 h0
  subst a1 c1
  exact⟨by rw [a2,c2],rfl,fun i hi=>by simp at hi⟩
theorem lawWork21 (k f t:Int) (pw:Option Addr) (nw cw:Nat) (ws:List ByteArray) (rad most:Int) (po:Option Addr) (no co:Nat) (O:List Int) (pt:Option Addr) (nt ct:Nat) (T:List Int) (pr:Option Addr) (nr cr:Nat) (R:List Int) (pv:Option Addr) (nv cv:Nat) (V:List Int) (pl:Option Addr) (nl cl:Nat) (hs:List Hd) (L:List Po) (wv ov:Int) (w:World) (hO:Rd w 1 po no (encI O)) (hT:Rd w 1 pt nt (encI T)) (hR:Rd w 1 pr nr (encI R)) (hV:Rd w 1 pv nv (encI V)) (hct:nt≤ct) (hcv:nv≤cv)
  (hW:Rd w 1 pw nw (encS ws)) (hcw:nw≤cw) (ht:I64 t) (hL:RdP w pl nl hs L) (hLI:∀ q∈L,∀ x∈q.2,I64 x) :
  Calls Tryz.prog 9 #[.agg #[.int .i64 k,.int .i64 f,.int .i64 t,.slice pw nw cw,.int .i64 rad,.int .i64 most],.agg #[.slice po no co,.slice pt nt ct,.slice pr nr cr,.slice pv nv cv],.slice pl nl cl,.int .i64 wv,.int .i64 ov] w fun e w'=>e=.returned (.bool true)∧Ext w w':=by
 have S0:=Lib.hid (((Sep.start w).al #[.int .i64 k,.int .i64 f,.int .i64 t,.slice pw nw cw,.int .i64 rad,.int .i64 most] 24 w.heap.size rfl).al #[.slice po no co,.slice pt nt ct,.slice pr nr cr,.slice pv nv cv] 27 (w.heap.size+1) (by simp))
 have HFR:=Lib.hid (fun W (h:Ext w W)=>FarN21 k f t pw nw cw ws rad most po no co O pt nt ct T pr nr cr R pv nv cv V pl nl cl hs L W (hO.ext h) (hT.ext h) (hR.ext h) (hV.ext h) (hW.ext h) (hL.ext h))
 cases hfar:farJ ws O T R V L 0 with
 | true =>
  rw [hfar] at HFR
  clear hO hT hR hV hct hcv hW hL hfar
  go_enter Tryz.func9,Tryz.ntmps9
  go_wp2_with (go_at_call 33;go_must (refine(HFR.out _ S0.out.ext).mono ?_;rintro e w1 ⟨rfl,hb⟩;have S1:=Lib.hid (S0.out.call hb);obtain⟨b0,b1,b2,b3,bz⟩:=bkc0c1c2c3l (S1.out.blk 0 rfl);obtain⟨a0,a1,a2,a3,a4,a5,az⟩:=bkc0c1c2c3c4c5l (S1.out.blk 1 rfl);clear hb))
  go_ret
  exact⟨rfl,S1.out.ext⟩
 | false =>
  rw [hfar] at HFR
  by_cases h1:wv<1
  ·clear hO hT hR hV hct hcv hW hL hfar
   go_enter Tryz.func9,Tryz.ntmps9
   go_wp2_with (go_at_call 33;go_must (refine(HFR.out _ S0.out.ext).mono ?_;rintro e w1 ⟨rfl,hb⟩;have S1:=Lib.hid (S0.out.call hb);obtain⟨b0,b1,b2,b3,bz⟩:=bkc0c1c2c3l (S1.out.blk 0 rfl);obtain⟨a0,a1,a2,a3,a4,a5,az⟩:=bkc0c1c2c3c4c5l (S1.out.blk 1 rfl);clear hb))
   go_ret
   exact⟨rfl,S1.out.ext⟩
  ·have e1:decide (wv<1)=false:=by simpa using h1
   by_cases h2:16<wv
   ·have e2:decide (16<wv)=true:=by simpa using h2
    clear hO hT hR hV hct hcv hW hL hfar
    go_enter Tryz.func9,Tryz.ntmps9
    go_wp2_with (go_at_call 33;go_must (refine(HFR.out _ S0.out.ext).mono ?_;rintro e w1 ⟨rfl,hb⟩;have S1:=Lib.hid (S0.out.call hb);obtain⟨b0,b1,b2,b3,bz⟩:=bkc0c1c2c3l (S1.out.blk 0 rfl);obtain⟨a0,a1,a2,a3,a4,a5,az⟩:=bkc0c1c2c3c4c5l (S1.out.blk 1 rfl);clear hb))
    go_ret
    exact⟨rfl,S1.out.ext⟩
   ·have e2:decide (16<wv)=false:=by simpa using h2
    by_cases h3:ov<1
    ·clear hO hT hR hV hct hcv hW hL hfar
     go_enter Tryz.func9,Tryz.ntmps9
     go_wp2_with (go_at_call 33;go_must (refine(HFR.out _ S0.out.ext).mono ?_;rintro e w1 ⟨rfl,hb⟩;have S1:=Lib.hid (S0.out.call hb);obtain⟨b0,b1,b2,b3,bz⟩:=bkc0c1c2c3l (S1.out.blk 0 rfl);obtain⟨a0,a1,a2,a3,a4,a5,az⟩:=bkc0c1c2c3c4c5l (S1.out.blk 1 rfl);clear hb))
     go_ret
     exact⟨rfl,S1.out.ext⟩
    ·have e3:decide (ov<1)=false:=by simpa using h3
     by_cases h4:16<ov
     ·have e4:decide (16<ov)=true:=by simpa using h4
      clear hO hT hR hV hct hcv hW hL hfar
      go_enter Tryz.func9,Tryz.ntmps9
      go_wp2_with (go_at_call 33;go_must (refine(HFR.out _ S0.out.ext).mono ?_;rintro e w1 ⟨rfl,hb⟩;have S1:=Lib.hid (S0.out.call hb);obtain⟨b0,b1,b2,b3,bz⟩:=bkc0c1c2c3l (S1.out.blk 0 rfl);obtain⟨a0,a1,a2,a3,a4,a5,az⟩:=bkc0c1c2c3c4c5l (S1.out.blk 1 rfl);clear hb))
      go_ret
      exact⟨rfl,S1.out.ext⟩
     ·have e4:decide (16<ov)=false:=by simpa using h4
      obtain⟨f1,f2,f3,f4,f5⟩:=jobFacts k f t pw nw cw ws rad most rfl rfl rfl rfl rfl rfl rfl rfl hfar hLI
      have hno:=hO.nI
      have hnw:=hW.nS
      have HST:=Lib.hid (fun W (h:Ext w W)=>needSteps k f t pw nw cw ws rad most po no co O pt nt ct T pr nr cr R pv nv cv V pl nl cl hs L wv W (hO.ext h) (hT.ext h) (hR.ext h) (hV.ext h) hct hcv (hL.ext h) (hW.ext h) (by omega) f2 ht hcw (by omega) f4)
      have HSO:=Lib.hid (fun W (h:Ext w W)=>needSteps k f t pw nw cw ws rad most po no co O pt nt ct T pr nr cr R pv nv cv V pl nl cl hs L ov W (hO.ext h) (hT.ext h) (hR.ext h) (hV.ext h) hct hcv (hL.ext h) (hW.ext h) (by omega) f2 ht hcw (by omega) f4)
      have HMO:=Lib.hid (fun W (h:Ext w W)=>MostG k f t pw nw cw ws rad most po no co O pt nt ct T pr nr cr R pv nv cv V pl nl cl hs L wv W (hO.ext h) (hT.ext h) (hR.ext h) (hV.ext h) hct hcv (hL.ext h) (hW.ext h) (by omega) f2 ht hcw (by omega) f4)
      have HTW:=Lib.hid (fun (X Y:List (List Int)) (e e':Int) (hX:NeedS O T R V k f t ws rad most wv X e) (hY:NeedS O T R V k f t ws rad most ov Y e')=>needS_two hX hY ⟨by omega,by omega⟩ ⟨by omega,by omega⟩ (by omega))
      clear hO hT hR hV hct hcv hW hL hfar f1 f2 f3 f4 f5 hno hnw ht hcw hLI h1 h2 h3 h4
      go_enter Tryz.func9,Tryz.ntmps9
      go_wp2_with (first | (go_at_call 34;have _t:=S2;go_must (refine(HSO.out _ S2.out.ext).mono ?_;rintro e w3 ⟨Y,f1,g2,qy,cy,hsy,rfl,hy,hb⟩;obtain⟨rfl,hlen,hsm⟩:=HTW.out _ _ _ _ G1.out g2;rw [hlen] at hy ⊢;have HSU:=Lib.hid hsm;have HX:=Lib.hid (HX2.out.ext hb);have HY:=Lib.hid hy;have S3:=Lib.hid (S2.out.call hb);clear a0 a1 a2 a3 a4 a5 az b0 b1 b2 b3 bz;clear hb g2 hy HX2 hlen hsm)) | (go_at_call 34;have _t:=S1;go_must (refine(HST.out _ S1.out.ext).mono ?_;rintro e w2 ⟨X,e1,g1,qx,cx,hsx,rfl,hx,hb⟩;have G1:=Lib.hid g1;have HX2:=Lib.hid hx;have S2:=Lib.hid (S1.out.call hb);clear a0 a1 a2 a3 a4 a5 az b0 b1 b2 b3 bz;obtain⟨b0,b1,b2,b3,bz⟩:=bkc0c1c2c3l (S2.out.blk 0 rfl);obtain⟨a0,a1,a2,a3,a4,a5,az⟩:=bkc0c1c2c3c4c5l (S2.out.blk 1 rfl);clear hb g1 hx)) | (go_at_call 33;go_must (refine(HFR.out _ S0.out.ext).mono ?_;rintro e w1 ⟨rfl,hb⟩;have S1:=Lib.hid (S0.out.call hb);obtain⟨b0,b1,b2,b3,bz⟩:=bkc0c1c2c3l (S1.out.blk 0 rfl);obtain⟨a0,a1,a2,a3,a4,a5,az⟩:=bkc0c1c2c3c4c5l (S1.out.blk 1 rfl);clear hb)))
      clear HST HSO HTW HFR S0 S1 S2
      have px:=HX.out.row.ptr
      have nx:=HX.out.row.small
      have py:=HY.out.row.ptr
      go_loopw [15] (fun i wr=>∃ m:Nat,m≤X.length∧i=.int .i64 m∧Ext w3 wr) (fun i _=>X.length - (intOf i).toNat)
      case atStart=>exact⟨0,Nat.zero_le _,rfl,Below.refl _ _⟩
      case round =>
       obtain⟨m,hm,rfl,hE⟩:=hrel
       have HE:=Lib.hid hE
       by_cases hlt:m<X.length
       ·obtain⟨s1,s2,s3⟩:=HSU.out m hlt
        have g1:=(HX.out.ext hE).row.cH hlt
        have g2:=(HY.out.ext hE).row.cH hlt
        have HT1:=Lib.hid (fun y:ExtOf wr=>Total21 (nth hsx m).p (nth hsx m).n (nth hsx m).c (nth X m) y.val ((HX.out.each m hlt).ext (Ext.trans hE y.ext)) s2)
        have HT2:=Lib.hid (fun y:ExtOf wr=>Total21 (nth hsy m).p (nth hsy m).n (nth hsy m).c (nth Y m) y.val ((HY.out.each m hlt).ext (Ext.trans hE y.ext)) s3)
        rw [s1] at HT2
        have d1:(0:Int)≤m:=by omega
        have d2:(m:Int)<X.length:=by omega
        clear hE s1 s2 s3
        generalize (nth X m).sum=s at HT1 HT2
        generalize nth hsx m=hd at *
        generalize nth hsy m=he at *
        obtain⟨hp,hn',hc⟩:=hd
        obtain⟨ep,en,ec⟩:=he
        simp only at g1 g2 HT1 HT2
        have HT:=Lib.hid (fun (y:ExtOf wr) (a:Array Value) (h:a=#[.slice hp hn' hc]∨a=#[.slice ep en ec])=>show Calls Tryz.prog 39 a y.val (fun e w'=>e=.returned (.int .i64 s)∧Ext y.val w') by
         rcases h with rfl | rfl
         ·exact HT1.out y
         ·exact HT2.out y)
        clear HT1 HT2
        go_wp2
        have u1:=fun x:ExtOf wr=>x.ext.cell g1
        have u2:=fun x:ExtOf wr=>x.ext.cell g2
        refine wp_region_ext (by kernel_rfl) (by kernel_rfl) ?_
        repeat (go_big_quiet_step (((go_at_call 39;exact Calls.ext_of (HT.out _ _ (by first | exact .inl rfl | exact .inr rfl))))))
        refine wpQuiet_nil ?_
        rintro w9 ⟨⟨_,hb9⟩,rfl⟩
        have HE9:=Lib.hid (Ext.trans HE.out hb9)
        clear hb9
        go_wp2
        go_roundw
        case rel=>exact⟨m+1,by omega,by go_num,HE9.out⟩
        case measure=>simp [intOf];omega
       ·clear hE
        have S4:=Lib.hid (S3.out.call HE.out)
        have HX4:=Lib.hid (HX.out.ext HE.out)
        obtain⟨b0,b1,b2,b3,bz⟩:=bkc0c1c2c3l (S4.out.blk 0 rfl)
        obtain⟨a0,a1,a2,a3,a4,a5,az⟩:=bkc0c1c2c3c4c5l (S4.out.blk 1 rfl)
        rcases mostcase (needS_some G1.out) HX4.out with ⟨rfl,c4,c5,c6,nx',px',g2,HE1,c7⟩ | ⟨rfl,hz,z1,z2⟩
        ·clear g2 HE1 nx' px'
         have hln:0<X.length:=by omega
         have hne:¬ X=[]:=fun h=>by rw [h] at hln;simp at hln
         go_wp2_with (first | (go_at_call 29;have _t:=E6;go_must (refine(IntsY qm _ _ _ cm _ (lastR X) _ HM6.out (HX6.out.each (X.length - 1) (by omega))).mono ?_;rintro e w7 ⟨rfl,hb⟩;have E7:=Lib.hid (Ext.trans E6.out hb);clear hb)) | (go_at_call 26;have _t:=E5;go_must (refine(Needs21 _).mono ?_;rintro e w6 ⟨rfl,hb⟩;have E6:=Lib.hid (Ext.trans E5.out hb);have HX6:=Lib.hid (HX5.out.ext hb);have HM6:=Lib.hid (HM5.out.ext hb);have g7:=HX6.out.row.cH (show X.length - 1<X.length by omega);clear hb)) | (go_at_call 37;go_must (refine(HMO.out _ S4.out.ext).mono ?_;rintro e w5 ⟨X',e',g1',qm,cm,rfl,hm,hb⟩;obtain⟨rfl,rfl⟩:=needS_uniq G1.out g1';have HM5:=Lib.hid hm;have HX5:=Lib.hid (HX4.out.ext hb);have E5:=Lib.hid (Ext.trans S4.out.ext hb);clear a0 a1 a2 a3 a4 a5 az b0 b1 b2 b3 bz;clear hb hm g1')))
         go_ret
         exact⟨rfl,E7.out⟩
        ·go_wp2_with (first | (go_at_call 26;have _t:=E5;go_must (refine(Needs21 _).mono ?_;rintro e w6 ⟨rfl,hb⟩;have E6:=Lib.hid (Ext.trans E5.out hb);have HX6:=Lib.hid (HX5.out.ext hb);have HM6:=Lib.hid (HM5.out.ext hb);skip;clear hb)) | (go_at_call 37;go_must (refine(HMO.out _ S4.out.ext).mono ?_;rintro e w5 ⟨X',e',g1',qm,cm,rfl,hm,hb⟩;obtain⟨rfl,rfl⟩:=needS_uniq G1.out g1';have HM5:=Lib.hid hm;have HX5:=Lib.hid (HX4.out.ext hb);have E5:=Lib.hid (Ext.trans S4.out.ext hb);clear a0 a1 a2 a3 a4 a5 az b0 b1 b2 b3 bz;clear hb hm g1')))
         go_ret
         exact⟨rfl,E6.out⟩
end
end Go.Proofs.YtfjhjennfiihhaaGreat
