/- Texts of this claim, one behind the other: G10, Mk4, PlainR2, PlainN, Hp2, OwnSm, Hp3, HpM, Hp4, Hp6, PlainHn, PlainNr, PlainFst, Bs1, Bs2, MapN, Pg1, PlainPg, KeepS, Pg2, Pg3, Pg4, Bs3, BsM, Bs4, Bs5, Bs6, Bs7, Bs8, Srt16, Srt16b, Srt16c, PlainPut, May16, KyS, ElmQ, Open, Open5, OpenQ, NewAt, Cmb16, CopyK, StoK, Trn17, Ord17, Frs19, Frs19b, Frs19c, Prt6, Row4r. -/
import Derived.Test.YtfjhjennfiihhaaGreatQJobAsks2
set_option maxRecDepth 100000
set_option maxHeartbeats 16000000
namespace Go.Proofs.YtfjhjennfiihhaaGreat
open Go Go.RowKit Tryz
section
open Go Go.RowKit Go.Shelf Go.Lib Go.Sort
theorem Ext.growN {w w':World} (h:Ext w w') (os:Array Obj):Ext w (grow w' os) :=
 ⟨h.os,h.tape,h.output,by rw [size_grow];exact Nat.le_trans h.size (Nat.le_add_right _ _),fun k hk=>(heap_grow_old w' os (Nat.lt_of_lt_of_le hk h.size)).trans (h.block k hk)⟩
theorem zO (x y:Int × Int) (W:World):Calls prog 223 #[.agg #[.int .i64 x.1,.int .i64 x.2],.agg #[.int .i64 y.1,.int .i64 y.2]] W fun e w'=>e=.returned (.int .i64 (kb x y))/\Ext W w' :=
 (sy x y W).mono fun e w' ⟨h,q,os,hw⟩=>⟨h,by subst hw;exact Ext.growN (Ext.drewN (Below.refl _ _) q) os⟩
theorem AF (x y:Int × Int):kb x y<0↔a8 x y=true:=by
 have:=fI x y
 unfold ltOf at this
 rw [<- this];simp
theorem AG (x y:ByteArray):mR x y<0↔a9 x y=true:=by
 have:=fJ x y
 unfold ltOf at this
 rw [<- this];simp
theorem FF (p:Option Addr) (n c:Nat) (l:List (Int × Int)) (w:World) (hl:Rd w 2 p n (aj l)) :
  Calls prog 171 #[.slice p n c,.agg #[.func (.func 223) #[] #[]]] w fun e w'=>e=.returned (.bool (dy a8 l))/\Ext w w':=by
 have p1:=hl.ptr
 have n1:=hl.small
 have l1:=hl.nE
 have HL:=lh hl;clear hl
 have L1:=lh l1;clear l1
 go_enter func171,ntmps171
 go_wp2
 go_loopw [5] (fun i wr=>∃ k:Nat,1<=k/\(k<=n\/k=1)/\i=.int .i64 k/\(List.range (k - 1)).all (js a8 l)=true/\Ext w wr/\wr.cell? ⟨w.heap.size,0,none⟩=some (.func (.func 223) #[] #[])) (fun i _=>n+1 - (intOf i).toNat)
 case atStart=>exact⟨1,Nat.le_refl _,.inr rfl,rfl,rfl,(Below.refl _ _).alloc (Nat.le_refl _) _,dP _ _ _ _⟩
 case round =>
  obtain⟨k,hk1,hk,rfl,ha,hb,b0⟩:=hrel
  have HA:=lh ha;clear ha
  have HB:=lh hb;clear hb
  by_cases hlt:k<n
  ·have g1:=HB.out.cell (HL.out.cE hlt)
   have g2:=HB.out.cell (HL.out.cE2 hlt)
   have g3:=HB.out.cell (HL.out.cE (k:=k - 1) (by omega))
   have g4:=HB.out.cell (HL.out.cE2 (k:=k - 1) (by omega))
   have e1:∀ x:Ie wr,x.val.cell? (be p (k*2))=_:=fun x=>x.ext.cell g1
   have e2:∀ x:Ie wr,x.val.cell? (be p (k*2+1))=_:=fun x=>x.ext.cell g2
   have e3:∀ x:Ie wr,x.val.cell? (be p ((k - 1)*2))=_:=fun x=>x.ext.cell g3
   have e4:∀ x:Ie wr,x.val.cell? (be p ((k - 1)*2+1))=_:=fun x=>x.ext.cell g4
   have e5:∀ x:Ie wr,x.val.cell? ⟨w.heap.size,0,none⟩=_:=fun x=>x.ext.cell b0
   have d1:(0:Int)<=k:=by omega
   have d2:(k:Int)<n:=by omega
   have d3:(0:Int)<=(k:Int) - 1:=by omega
   have d4:(1:Int)<=(k:Int):=by omega
   have d5:(k:Int) - 1<n:=by omega
   have d6:((k:Int) - 1).toNat=k - 1:=by omega
   have hkk:k - 1+1=k:=by omega
   have HKK:=lh hkk;clear hkk
   have HC:=fun W'=>zO (ae l (k - 1)) (ae l k) W'
   have hcc:=AF (ae l (k - 1)) (ae l k)
   generalize kb (ae l (k - 1)) (ae l k)=cc at HC hcc
   have Je:=lh HC;clear HC
   by_cases hless:cc<0
   ·have hle:decide (0<=cc)=false:=by simp;omega
    have hls:=lh (hcc.1 hless)
    clear hcc
    go_wp2
    refine av (by kernel_rfl) (by kernel_rfl) ?_
    repeat (go_big_quiet_step ((go_at_call 223;exact Calls.ext_of (Je.out _))))
    refine wpQuiet_nil ?_
    rintro w1 ⟨⟨_,hb1⟩,rfl⟩
    go_wp2
    go_roundw
    case rel=>exact⟨k+1,by omega,.inl (by omega),by go_num,by rw [show k+1 - 1=k - 1+1 from by omega];exact eu _ _ HA.out (by unfold js;rw [HKK.out];exact hls.out),Ext.trans HB.out hb1,hb1.cell b0⟩
    case measure=>simp [intOf];omega
   ·have hle:decide (0<=cc)=true:=by simp;omega
    have hls:a8 (ae l (k - 1)) (ae l k)=false:=by simpa using (fun h=>hless (hcc.2 h))
    have HF:=lh (uf (lt:=a8) (l:=l) (k:=k - 1) (by rw [HKK.out,<- L1.out];exact hlt) (by rw [HKK.out];exact hls))
    clear hcc hls
    go_wp2
    refine av (by kernel_rfl) (by kernel_rfl) ?_
    repeat (go_big_quiet_step ((go_at_call 223;exact Calls.ext_of (Je.out _))))
    refine wpQuiet_nil ?_
    rintro w1 ⟨⟨_,hb1⟩,rfl⟩
    go_wp2
    go_ret
    exact⟨aq HF.out.symm,Ext.trans HB.out hb1⟩
  ·have PS:=lh (rc (by rw [<- L1.out];exact hlt) HA.out)
   go_wp2
   go_ret
   exact⟨aq PS.out.symm,HB.out⟩
theorem FG (p:Option Addr) (n c:Nat) (l:List ByteArray) (w:World) (hl:Rd w 1 p n (bg l)) :
  Calls prog 168 #[.slice p n c,.agg #[.func (.func 220) #[] #[]]] w fun e w'=>e=.returned (.bool (dy a9 l))/\Ext w w':=by
 have p1:=hl.ptr
 have n1:=hl.small
 have l1:=hl.nS
 have HL:=lh hl;clear hl
 have L1:=lh l1;clear l1
 go_enter func168,ntmps168
 go_wp2
 go_loopw [5] (fun i wr=>∃ k:Nat,1<=k/\(k<=n\/k=1)/\i=.int .i64 k/\(List.range (k - 1)).all (js a9 l)=true/\Ext w wr/\wr.cell? ⟨w.heap.size,0,none⟩=some (.func (.func 220) #[] #[])) (fun i _=>n+1 - (intOf i).toNat)
 case atStart=>exact⟨1,Nat.le_refl _,.inr rfl,rfl,rfl,(Below.refl _ _).alloc (Nat.le_refl _) _,dP _ _ _ _⟩
 case round =>
  obtain⟨k,hk1,hk,rfl,ha,hb,b0⟩:=hrel
  have HA:=lh ha;clear ha
  have HB:=lh hb;clear hb
  by_cases hlt:k<n
  ·have g1:=HB.out.cell (HL.out.cS hlt)
   have g3:=HB.out.cell (HL.out.cS (k:=k - 1) (by omega))
   have e1:∀ x:Ie wr,x.val.cell? (be p k)=_:=fun x=>x.ext.cell g1
   have e3:∀ x:Ie wr,x.val.cell? (be p (k - 1))=_:=fun x=>x.ext.cell g3
   have e5:∀ x:Ie wr,x.val.cell? ⟨w.heap.size,0,none⟩=_:=fun x=>x.ext.cell b0
   have d1:(0:Int)<=k:=by omega
   have d2:(k:Int)<n:=by omega
   have d3:(0:Int)<=(k:Int) - 1:=by omega
   have d4:(1:Int)<=(k:Int):=by omega
   have d5:(k:Int) - 1<n:=by omega
   have d6:((k:Int) - 1).toNat=k - 1:=by omega
   have hkk:k - 1+1=k:=by omega
   have HKK:=lh hkk;clear hkk
   have HC:∀ W',Calls prog 220 #[.string (ae l (k - 1)),.string (ae l k)] W' fun e w'=>e=.returned (.int .i64 (mR (ae l (k - 1)) (ae l k)))/\Ext W' w':=fun W'=>(ss (ae l (k - 1)) (ae l k) W').mono fun e w' ⟨h,hw⟩=>⟨h,by subst hw;exact Below.refl _ _⟩
   have hcc:=AG (ae l (k - 1)) (ae l k)
   generalize mR (ae l (k - 1)) (ae l k)=cc at HC hcc
   have Je:=lh HC;clear HC
   by_cases hless:cc<0
   ·have hle:decide (0<=cc)=false:=by simp;omega
    have hls:=lh (hcc.1 hless)
    clear hcc
    go_wp2
    refine av (by kernel_rfl) (by kernel_rfl) ?_
    repeat (go_big_quiet_step ((go_at_call 220;exact Calls.ext_of (Je.out _))))
    refine wpQuiet_nil ?_
    rintro w1 ⟨⟨_,hb1⟩,rfl⟩
    go_wp2
    go_roundw
    case rel=>exact⟨k+1,by omega,.inl (by omega),by go_num,by rw [show k+1 - 1=k - 1+1 from by omega];exact eu _ _ HA.out (by unfold js;rw [HKK.out];exact hls.out),Ext.trans HB.out hb1,hb1.cell b0⟩
    case measure=>simp [intOf];omega
   ·have hle:decide (0<=cc)=true:=by simp;omega
    have hls:a9 (ae l (k - 1)) (ae l k)=false:=by simpa using (fun h=>hless (hcc.2 h))
    have HF:=lh (uf (lt:=a9) (l:=l) (k:=k - 1) (by rw [HKK.out,<- L1.out];exact hlt) (by rw [HKK.out];exact hls))
    clear hcc hls
    go_wp2
    refine av (by kernel_rfl) (by kernel_rfl) ?_
    repeat (go_big_quiet_step ((go_at_call 220;exact Calls.ext_of (Je.out _))))
    refine wpQuiet_nil ?_
    rintro w1 ⟨⟨_,hb1⟩,rfl⟩
    go_wp2
    go_ret
    exact⟨aq HF.out.symm,Ext.trans HB.out hb1⟩
  ·have PS:=lh (rc (by rw [<- L1.out];exact hlt) HA.out)
   go_wp2
   go_ret
   exact⟨aq PS.out.symm,HB.out⟩
theorem Dw (p:Option Addr) (n c:Nat) (l:List ByteArray) (w:World) (hl:Rd w 1 p n (bg l)) :
  Calls prog 167 #[.slice p n c] w fun e w'=>e=.returned (.bool (!dy a9 l))/\Ext w w':=by
 have HL:=lh hl;clear hl
 go_enter func167,ntmps167
 go_wp2_with (first
  | (go_at_call 169;go_must ((refine(Ai _).mono ?_;rintro e w1 ⟨rfl,hb1⟩;have B1:=lh hb1;clear hb1)))
  | (go_at_call 168;have _t:=B1;go_must ((refine(FG _ _ _ _ _ (HL.out.ext B1.out)).mono ?_;rintro e w2 ⟨rfl,hb2⟩;have B2:=lh (Ext.trans B1.out hb2);clear hb2))))
 go_ret
 exact⟨rfl,B2.out⟩
theorem xA (p:Option Addr) (n c:Nat) (hs:List Hd) (W:List (List ByteArray)) (w:World) (hl:JY w p n hs W) :
  Calls prog 224 #[.slice p n c,.func (.func 167) #[] #[]] w fun e w'=>∃ i:Int,e=.returned (.int .i64 i)/\decide (0<=i)=W.any (fun l=>!dy a9 l)/\Ext w w':=by
 have p1:=hl.row.ptr
 have n1:=hl.row.small
 have l1:=hl.nW
 have HL:=lh hl;clear hl
 have L1:=lh l1;clear l1
 go_enter func224,ntmps224
 go_wp2
 go_loopw [5,8] (fun _ i wr=>∃ k:Nat,k<=n/\i=.int .i64 k/\(W.take k).any (fun l=>!dy a9 l)=false/\Ext w wr) (fun _ i _=>n - (intOf i).toNat)
 case atStart=>exact⟨0,Nat.zero_le _,rfl,rfl,Below.refl _ _⟩
 case round =>
  obtain⟨k,hk,rfl,ha,hb⟩:=hrel
  have HA:=lh ha;clear ha
  have HB:=lh hb;clear hb
  by_cases hlt:k<n
  ·have g1:=HB.out.cell (HL.out.row.cH hlt)
   have Q1:=lh ((HL.out.each k hlt).ext HB.out)
   by_cases hw:(!dy a9 (ae W k))=true
   ·have HF:=lh (cW (fun l=>!dy a9 l) W k (by rw [<- L1.out];exact hlt) hw)
    go_wp2_with (go_at_call 167;refine(Dw _ _ _ _ _ Q1.out).mono ?_;rintro e w' ⟨rfl,hb1⟩;have H1:=lh (Ext.trans HB.out hb1);clear hb1)
    go_ret
    exact⟨_,rfl,by rw [HF.out];simp,H1.out⟩
   ·have hw':(!dy a9 (ae W k))=false:=by simpa using hw
    have Ob:=lh hw'
    clear hw
    go_wp2_with (go_at_call 167;refine(Dw _ _ _ _ _ Q1.out).mono ?_;rintro e w' ⟨rfl,hb1⟩;have H1:=lh (Ext.trans HB.out hb1);clear hb1)
    go_roundw
    case rel=>exact⟨k+1,by omega,by go_num,eP _ _ _ (by rw [<- L1.out];exact hlt) HA.out Ob.out,H1.out⟩
    case measure=>simp [intOf];omega
  ·have HF:=lh (gE _ _ _ (by rw [<- L1.out];exact hlt) HA.out)
   go_wp2
   go_ret
   exact⟨_,rfl,by rw [HF.out];rfl,HB.out⟩
theorem ru (p:Option Addr) (n c:Nat) (hs:List Hd) (W:List (List ByteArray)) (w:World) (hl:JY w p n hs W) :
  Calls prog 173 #[.slice p n c,.func (.func 167) #[] #[]] w fun e w'=>e=.returned (.bool (W.any (fun l=>!dy a9 l)))/\Ext w w':=by
 have HC:=lh (xA p n c hs W w hl)
 clear hl
 go_enter func173,ntmps173
 go_wp2_with (go_at_call 224;refine HC.out.mono ?_;rintro e w' ⟨i,rfl,hi,hb⟩;have HI:=lh hi;have HB:=lh hb;clear hi hb)
 go_ret
 exact⟨aq HI.out,HB.out⟩
theorem Hz (N : Int) (pe : Option Addr) (ne ce : Nat) (pw : Option Addr) (nw cw : Nat) (E : List (Int × Int)) (hs : List Hd) (W : List (List ByteArray)) (w : World) (hE : Rd w 2 pe ne (aj E)) (hW : JY w pw nw hs W) (hz : CC W) :
    Calls prog 105 #[.agg #[.int .i64 N, .slice pe ne ce, .slice pw nw cw]] w fun e w' => e = .returned (.bool (Fg N E W)) /\ Ext w w' := by
  have hu : Fg N E W = (bs N E W && dy a8 E && !W.any (fun l => !dy a9 l)) := by unfold Fg; rw [<- List.all_eq_not_any_not]
  rw [hu]
  have Xm := lh (fun W1 (h : Ext w W1) => uB N pe ne ce pw nw cw E hs W W1 (hE.ext h) (hW.ext h) hz)
  have XN := lh (fun W1 (h : Ext w W1) => FF pe ne ce E W1 (hE.ext h))
  have Xn := lh (fun W1 (h : Ext w W1) => ru pw nw cw hs W W1 (hW.ext h))
  clear hE hW hz hu
  generalize bs N E W = b1 at *
  generalize dy a8 E = b2 at *
  generalize W.any (fun l => !dy a9 l) = b3 at *
  have hx : Ext w (w.alloc (.cells #[.int .i64 N, .slice pe ne ce, .slice pw nw cw] 102)) := (Below.refl _ _).alloc (Nat.le_refl _) _
  have c0 : (w.alloc (.cells #[.int .i64 N, .slice pe ne ce, .slice pw nw cw] 102)).cell? ⟨w.heap.size, 0, none⟩ = some (.int .i64 N) := by simp
  have c1 : (w.alloc (.cells #[.int .i64 N, .slice pe ne ce, .slice pw nw cw] 102)).cell? ⟨w.heap.size, 1, none⟩ = some (.slice pe ne ce) := by simp
  have c2 : (w.alloc (.cells #[.int .i64 N, .slice pe ne ce, .slice pw nw cw] 102)).cell? ⟨w.heap.size, 2, none⟩ = some (.slice pw nw cw) := by simp
  cases b1 <;> cases b2 <;> cases b3 <;>
  (go_enter func105, ntmps105
   go_wp2
   obtain ⟨wo, hwo⟩ : ∃ wo, wo = w.alloc (.cells #[.int .i64 N, .slice pe ne ce, .slice pw nw cw] 102) := ⟨_, rfl⟩
   rw [<- hwo] at hx c0 c1 c2 ⊢
   have HX := lh hx
   have e0 : ∀ x : Ie wo, x.val.cell? ⟨w.heap.size, 0, none⟩ = _ := fun x => x.ext.cell c0
   have e1 : ∀ x : Ie wo, x.val.cell? ⟨w.heap.size, 1, none⟩ = _ := fun x => x.ext.cell c1
   have e2 : ∀ x : Ie wo, x.val.cell? ⟨w.heap.size, 2, none⟩ = _ := fun x => x.ext.cell c2
   refine av (by kernel_rfl) (by kernel_rfl) ?_
   repeat (go_big_quiet_step ((first | (go_at_call 170; exact Calls.ext_of (Xm.out _ (Ext.trans HX.out (Ie.ext _)))) | (go_at_call 172; exact Calls.ext_of (zP _)) | (go_at_call 171; exact Calls.ext_of (XN.out _ (Ext.trans HX.out (Ie.ext _)))) | (go_at_call 173; exact Calls.ext_of (Xn.out _ (Ext.trans HX.out (Ie.ext _)))))))
   refine wpQuiet_nil ?_
   rintro w1 ⟨⟨_, hb1⟩, rfl⟩
   go_wp2
   go_ret
   exact ⟨rfl, Ext.trans HX.out hb1⟩)
end
section
open Go Go.RowKit Go.Shelf Go.Lib
def FI (w:World) (v:Value) (O T R V:List Int):Prop :=
 ∃ po no co pt nt ct pr nr cr pv nv cv,v=.agg #[.slice po no co,.slice pt nt ct,.slice pr nr cr,.slice pv nv cv]/\Rd w 1 po no (ab O)/\Rd w 1 pt nt (ab T)/\Rd w 1 pr nr (ab R)/\Rd w 1 pv nv (ab V)/\no<=co/\nt<=ct/\nr<=cr/\nv<=cv
def gR (E:List (Int × Int)):List (Int × Int):=bk a8 (E.map bd)
theorem B6 {N:Int} {E:List (Int × Int)} (h:∀ x∈E,cO N x=true):∀ x∈gR E,0<=x.1/\x.1<N:=fun x hx=>by
 unfold gR at hx
 rw [eI GJ,List.mem_map] at hx
 obtain⟨y,hy,rfl⟩:=hx
 have:=h y hy
 unfold cO at this
 simp at this
 unfold bd
 simp only
 omega
theorem uM (n:Nat) (pe:Option Addr) (ne ce:Nat) (pw:Option Addr) (nw cw:Nat) (E:List (Int × Int)) (hs:List Hd) (W:List (List ByteArray)) (w:World) (hE:Rd w 2 pe ne (aj E)) (hW:JY w pw nw hs W) (hz:CC W) (hi:Fg n E W=true) :
  Calls prog 57 #[.agg #[.int .i64 n,.slice pe ne ce,.slice pw nw cw]] w fun e w'=>∃ v,e=.returned (.tuple #[v,.int .i64 0])/\FI w' v (tT n E) (Ci E) (tT n (gR E)) (Ci (gR E))/\Ext w w':=by
 have HI:=lh (fun W1 (h:Ext w W1)=>Hz n pe ne ce pw nw cw E hs W W1 (hE.ext h) (hW.ext h) hz)
 rw [hi] at HI
 have hc:bs n E W=true:=by
  unfold Fg at hi
  rw [Bool.and_eq_true,Bool.and_eq_true] at hi
  exact hi.1.1
 obtain⟨h1,h2,h3,h4,h5,h6⟩:=kF hc
 have UG:∀ x∈E,cO n x=true:=List.all_eq_true.1 h5
 have l1:=hE.nE
 have HT:=lh (fun W1 (h:Ext w W1)=>CD n pe ne ce pw nw cw E hs W W1 (hE.ext h) (hW.ext h) hz (by omega))
 have hcs:bs n (E.map bd) W=true:=by rw [ve];exact hc
 obtain⟨a1,a2,a3,a4⟩:=Db hcs (rfl:_=gR E) (rfl:_=W.map (bk a9))
 rw [a1,a2,a3,a4] at HT
 have hlt:(gR E).length<=2000:=by
  unfold gR
  have:=oK a8 (E.map bd)
  rw [List.length_map] at this;omega
 have Iz:=lh (fun W1 (h:Ext w W1)=>DR n pe ne ce E W1 (hE.ext h) (by omega) (by omega) (fun x hx=>by have:=UG x hx;unfold cO at this;simp at this;omega))
 have HL2:=lh (fun q c W1 (h:Rd W1 2 q (gR E).length (aj (gR E)))=>DR n q (gR E).length c (gR E) W1 h (by omega) hlt (B6 UG))
 generalize gR E=F at *
 have S0:=lh (((Ic.start w).al #[.int .i64 n,.slice pe ne ce,.slice pw nw cw] 102 w.heap.size rfl).al #[.slice none 0 0,.slice none 0 0,.slice none 0 0,.slice none 0 0] 27 (w.heap.size+1) (by simp))
 have h2':n<=200:=by omega
 have h3':ne<=2000:=by omega
 generalize W.map (bk a9)=V at *
 clear hE hW hz hi hc hcs a1 a2 a3 a4 h1 h2 h3 h4 h5 h6 UG l1
 go_enter func57,ntmps57
 go_wp2_with (first
  | (go_at_call 107;have _t:=T4;go_must (refine(HL2.out q2 k2 _ ((K2.out.ext T4.out.ext).get 0 rfl)).mono ?_;rintro e w5 ⟨qr,cr,qv,cv,rfl,T⟩;have T5:=lh (T4.out.comp T);obtain⟨r0,r1,Z4,r3,Z5,Z6,rz⟩:=mQ (T5.out.blk 4 rfl);have S5:=S2.out.comp T5.out;obtain⟨u0,u1,u2,u3,Z8,Z9,uf2,uf3,uz⟩:=jT (S5.blk 6 rfl);clear T S5))
  | (go_at_call 107;have _t:=S2;go_must (refine(Iz.out _ (Ext.trans S2.out.ext (((Ic.start w2).al #[.int .i64 n,.slice q2 F.length k2,.slice r2 V.length m2] 102 w2.heap.size rfl).al #[.slice none 0 0,.slice none 0 0,.slice none 0 0,.slice none 0 0] 27 (w2.heap.size+1) (by simp)).ext)).mono ?_;rintro e w4 ⟨qo,co,qt,ct,rfl,T⟩;have T3:=(((Ic.start w2).al #[.int .i64 n,.slice q2 F.length k2,.slice r2 V.length m2] 102 w2.heap.size rfl).al #[.slice none 0 0,.slice none 0 0,.slice none 0 0,.slice none 0 0] 27 (w2.heap.size+1) (by simp)).comp T;obtain⟨c0,c1,f0,f1,cz⟩:=sQ (T3.blk 2 rfl);obtain⟨t1,tz⟩:=F9 (T3.blk 3 rfl);have S3:=S2.out.comp T3;obtain⟨n0,nz⟩:=fj (S3.blk 5 rfl);have T4:=lh ((T3.set 2 rfl 0 (.slice qo (n+1) co)).set 2 rfl 1 (.slice qt ne ct));clear T T3 S3))
  | (go_at_call 106;have _t:=S1;go_must (refine(HT.out _ S1.out.ext).mono ?_;rintro e w2 ⟨va,rfl,⟨q2,k2,r2,m2,h2,rfl,oe,ow⟩,hb⟩;have S2:=lh (S1.out.call hb);have K2:=lh ((Kn.nil w2).add (fun w=>Rd w 2 q2 F.length (aj F)) (fun _ he=>(Rd.of_own oe (by omega)).ext he));obtain⟨gz,g0,g1,g2⟩:=eh (S2.out.blk 1 rfl);have ZN:=(S2.out.blk 0 rfl).lt;clear hb oe ow))
  | (go_at_call 105;go_must (refine(HI.out _ S0.out.ext).mono ?_;rintro e w1 ⟨rfl,hb⟩;have S1:=lh (S0.out.call hb);obtain⟨xz,x0,x1,x2⟩:=eh (S1.out.blk 1 rfl);clear hb)))
 have S6:=S2.out.comp ((T5.out.set 4 rfl 2 (.slice qr (n+1) cr)).set 4 rfl 3 (.slice qv F.length cv))
 have S7:=(((S6.set 6 rfl 0 (.slice qo (n+1) co)).set 6 rfl 1 (.slice qt ne ct)).set 6 rfl 2 (.slice qr (n+1) cr)).set 6 rfl 3 (.slice qv F.length cv)
 obtain⟨b0,b1,b2,b3⟩:=cY (S7.blk 6 rfl)
 refine bodyPost_ret (v:=.tuple #[.agg #[.slice qo (n+1) co,.slice qt ne ct,.slice qr (n+1) cr,.slice qv F.length cv],.int .i64 0]) (by simp [results,results57,go_sem,b0,b1,b2,b3,sizeOf27,isAgg27]) rfl ⟨_,rfl,?_,S7.ext⟩
 exact⟨qo,_,co,qt,_,ct,qr,_,cr,qv,_,cv,rfl,S7.rd 3 rfl (by omega),S7.rd 2 rfl (by omega),S7.rd 1 rfl (by omega),S7.rd 0 rfl (by omega),cu (S7.own 3 rfl),cu (S7.own 2 rfl),cu (S7.own 1 rfl),cu (S7.own 0 rfl)⟩
end
theorem tP {α:Type} [DecidableEq α]:∀ {l m:List α},l.Nodup->(∀ x∈l,x∈m)->l.length<=m.length
 | [],_,_,_=>by simp
 | a :: l,m,h,hm=>by
  obtain⟨h1,h2⟩:=List.nodup_cons.1 h
  have ha:=hm a (by simp)
  have ih:=tP (m:=m.erase a) h2 fun x hx=>(List.mem_erase_of_ne (fun e=>h1 (by rw [<- e];exact hx))).2 (hm x (by simp [hx]))
  rw [List.length_erase_of_mem ha] at ih
  have:=List.length_pos_of_mem ha
  rw [List.length_cons];omega
theorem mI {O T:List Int} (h:aN O T=true):∀ k,k<=O.length - 1->bM a8 (bO O T k)
 | 0,_=>List.Pairwise.nil
 | k+1,hk=>by
  rw [cg]
  refine List.pairwise_append.2 ⟨mI h k (by omega),?_,fun a ha b hb=>?_⟩
  ·unfold eo
   rw [List.pairwise_map]
   refine(jP h (by omega)).imp fun {a b} hab=>?_
   rw [lY]
   simp [fd] at hab
   right;exact⟨rfl,hab⟩
  ·unfold bO eo at ha
   unfold eo at hb
   simp only [List.mem_flatMap,List.mem_range,List.mem_map] at ha hb
   obtain⟨v,h1,y,_,rfl⟩:=ha
   obtain⟨z,_,rfl⟩:=hb
   rw [lY];left;simp only;omega
theorem mH {O T:List Int} (h:aN O T=true):(aR O T).length=T.length:=by
 obtain⟨r1,r2,r3,r4,r5,r6⟩:=aQ (aI h)
 have hok:=cJ (aI h)
 have:∀ k,k<O.length->(bO O T k).length=(ae O k).toNat:=by
  intro k
  induction k with
  | zero=>intro _;rw [r4];rfl
  | succ k ih =>
   intro hk
   rw [cg,List.length_append,ih (by omega)]
   unfold eo
   rw [List.length_map,cK hok hk]
   have:=hok.le k hk
   have:=hok.lo k (by omega)
   omega
 unfold aR
 rw [this _ (by omega),r5];omega
theorem C5 {α:Type} [DecidableEq α] {l m:List α} (h:l.Nodup) (hs:∀ x∈l,x∈m) (hl:m.length<=l.length) {x:α} (hx:x∈m):x∈l:=by
 by_cases hn:x∈l
 ·exact hn
 ·have h1:=tP (m:=m.erase x) h fun y hy=>(List.mem_erase_of_ne (fun (e:y=x)=>hn (by rw [<- e];exact hy))).2 (hs y hy)
  rw [List.length_erase_of_mem hx] at h1
  have:=List.length_pos_of_mem hx
  omega
theorem vf {O T R V:List Int} (h:ai O T R V=true) {x:Int × Int}:x∈aR O T↔bd x∈aR R V:=by
 obtain⟨h1,h2,h3,h4⟩:=aK h
 have hall:∀ y∈aR O T,bd y∈aR R V:=fun y hy=>by
  unfold ai at h
  simp only [Bool.and_eq_true,List.all_eq_true] at h
  have h5:=h.2 y hy
  rw [fu] at h5
  have hb:=kZ h3 hy
  exact fM.2 ⟨y.2.toNat,by omega,by unfold bd;simp only;omega,h5⟩
 refine⟨hall x,fun hx=>?_⟩
 have hnd:(aR O T).Nodup:=(mI h3 _ (Nat.le_refl _)).imp fun {a b} hab e=>by subst e;rw [lY] at hab;omega
 have UT:((aR O T).map bd).Nodup:=by
  rw [List.Nodup,List.pairwise_map]
  exact hnd.imp fun {a b} hab e=>hab (by have:=congrArg bd e;rwa [gQ,gQ] at this)
 have h6:=C5 UT (fun y hy=>by obtain⟨z,hz,rfl⟩:=List.mem_map.1 hy;exact hall z hz) (by rw [List.length_map,mH h3,mH h4,h2];exact Nat.le_refl _) hx
 obtain⟨z,hz,e⟩:=List.mem_map.1 h6
 have:z=x:=by have:=congrArg bd e;rwa [gQ,gQ] at this
 exact this ▸ hz
theorem BQ {O T R V:List Int} (h:ai O T R V=true) {v u:Nat} (hv:v<O.length - 1) (hu:u<O.length - 1):jY (aD O T u) v=jY (aD R V v) u:=by
 have h1:=(aK h).1
 rw [Bool.eq_iff_iff,fu,fu]
 have e1:(v:Int)∈aD O T u↔((u:Int),(v:Int))∈aR O T:=by
  rw [fM]
  constructor
  ·intro h;exact⟨u,hu,rfl,h⟩
  ·rintro⟨k,_,h2,h3⟩;simp only at h2;have:u=k:=by omega
   subst this;exact h3
 have e2:(u:Int)∈aD R V v↔((v:Int),(u:Int))∈aR R V:=by
  rw [fM]
  constructor
  ·intro h;exact⟨v,by omega,rfl,h⟩
  ·rintro⟨k,_,h2,h3⟩;simp only at h2;have:v=k:=by omega
   subst this;exact h3
 rw [e1,e2,vf h];rfl
def wQ (back:Bool) (O T R V:List Int):Nat->List Int:=if back=true then aD R V else aD O T
theorem sb {O T:List Int} (h:aN O T=true):xy (aD O T) (O.length - 1):=by
 intro u hu x hx
 unfold aN at h
 rw [Bool.and_eq_true] at h
 have:=List.all_eq_true.1 h.2 u (List.mem_range.2 hu)
 exact(jM.1 this).1 x hx
theorem vQ {O T R V:List Int} (h:ai O T R V=true) (back:Bool):xy (wQ back O T R V) (O.length - 1):=by
 obtain⟨h1,h2,h3,h4⟩:=aK h
 cases back with
 | false=>exact sb h3
 | true=>have:=sb h4;rw [<- h1] at this;exact this
theorem rY {O T R V:List Int} (h:ai O T R V=true) (back:Bool):Ab (wQ back O T R V) (wQ (!back) O T R V) (O.length - 1):=by
 have key:∀ u v:Nat,u<O.length - 1->v<O.length - 1->((v:Int)∈aD O T u↔(u:Int)∈aD R V v):=fun u v hu hv=>by
  have:=BQ h hv hu
  rw [Bool.eq_iff_iff,fu,fu] at this
  exact this
 cases back with
 | false=>exact key
 | true=>exact fun u v hu hv=>(key v u hv hu).symm
def kI (back:Bool) (O T:List Int):List (Int × Int):=if back=true then (aR O T).map bd else aR O T
theorem CW {O T:List Int} (h:aN O T=true) (back:Bool):∀ x∈kI back O T,0<=x.1/\x.1<((O.length - 1:Nat):Int)/\0<=x.2/\x.2<((O.length - 1:Nat):Int):=by
 intro x hx
 cases back with
 | false=>exact kZ h hx
 | true =>
  obtain⟨y,hy,rfl⟩:=List.mem_map.1 hx
  have:=kZ h hy
  exact⟨this.2.2.1,this.2.2.2,this.1,this.2.1⟩
theorem AO {O T R V:List Int} (h:ai O T R V=true) (back:Bool):∀ u v:Nat,u<O.length - 1->v<O.length - 1->(((u:Int),(v:Int))∈kI back O T↔(v:Int)∈wQ back O T R V u):=by
 have key:∀ u v:Nat,u<O.length - 1->(((u:Int),(v:Int))∈aR O T↔(v:Int)∈aD O T u):=fun u v hu=>by
  rw [fM]
  constructor
  ·rintro⟨k,h1,h2,h3⟩
   have:u=k:=by simp only at h2;omega
   subst this;exact h3
  ·intro h1;exact⟨u,hu,rfl,h1⟩
 intro u v hu hv
 cases back with
 | false=>exact key u v hu
 | true =>
  have e:((u:Int),(v:Int))∈kI true O T↔((v:Int),(u:Int))∈aR O T:=by
   show _∈(aR O T).map bd↔_
   rw [List.mem_map]
   constructor
   ·rintro⟨y,hy,e⟩
    unfold bd at e
    injection e with e1 e2
    rw [<- e1,<- e2];exact hy
   ·intro h1;exact⟨_,h1,rfl⟩
  rw [e,key v u hv]
  exact(rY h true u v hu hv).symm
def dV (ck:Bool) (O:List Int) (s:Int):Int:=if ck=true then (if 0<=s/\s<(O.length:Int) - 1 then 0 else 1) else 40
def fU (ck back:Bool) (O T R V:List Int) (s:Int):List Int:=if dV ck O s=0 then (List.range (O.length - 1)).map fun v=>ay (wQ back O T R V) (O.length - 1) s.toNat v else []
theorem dg {Γ:List Pc} {j:Nat} {p q:Pc} (h:Γ[j]?=some p):(Γ.set j q)[j]?=some q:=by
 have:=(List.getElem?_eq_some_iff.1 h).1
 rw [List.getElem?_set,if_pos rfl,if_pos this]
theorem jF {X:List (Int × Int)} {i:Nat} (x:Int × Int) (h:i<X.length):aj (X.set i x)=((aj X).set (i*2) (.int .i64 x.1)).set (i*2+1) (.int .i64 x.2):=by
 rw [<- td X i x h]
 have hl:=bS X
 have e:aj X=(aj X).take (i*2) ++ (aj X).drop (i*2):=(List.take_append_drop _ _).symm
 apply List.ext_getElem?
 intro m
 rw [List.getElem?_set,List.getElem?_set]
 simp only [List.length_set,List.getElem?_append,List.length_append,List.length_take,List.length_cons,List.length_nil,List.getElem?_take,List.getElem?_drop]
 by_cases h1:m<i*2
 ·rw [if_pos (by omega),if_pos (by omega),if_pos h1,if_neg (by omega),if_neg (by omega)]
 ·by_cases h2:m=i*2
  ·subst h2
   rw [if_pos (by omega),if_neg (by omega),if_neg (by omega),if_pos rfl,if_pos (by omega),show i*2 - min (i*2) (aj X).length=0 by omega];rfl
  ·by_cases h3:m=i*2+1
   ·subst h3
    rw [if_pos (by omega),if_neg (by omega),if_pos rfl,if_pos (by omega),show i*2+1 - min (i*2) (aj X).length=1 by omega];rfl
   ·rw [if_neg (by omega),if_neg (by omega),if_neg (by omega)]
    congr 1;omega
theorem rl (l:List Value) (m:Nat) (a b:Value):(((l.set m a).set (m+1) b).set m a).set (m+1) b=(l.set m a).set (m+1) b:=by
 rw [List.set_comm b a (by omega:m+1≠m),List.set_set,List.set_set]
theorem qp {X:List (Int × Int)} {i k:Nat} (hi:i<X.length) (hk:k<X.length) (_:i≠k):((((aj X).set (i*2) (.int .i64 (ae X k).1)).set (i*2+1) (.int .i64 (ae X k).2)).set (k*2) (.int .i64 (ae X i).1)).set (k*2+1) (.int .i64 (ae X i).2)=aj (bj X i k):=by
 unfold bj
 rw [jF _ (by simpa using hk),jF _ hi]
theorem EX {w:World} {base:Nat} {e:TypeId} {size:Nat} {q:Option Addr} {n c:Nat} {xs:List Value} (h:w.ownsRow base e size (.slice q n c) n xs):n<=9223372036854775807:=by
 rcases h.2 with ⟨_,h2⟩ | ⟨g,cap,cur,h1,_,_,h3,h4,_⟩
 ·omega
 ·unfold maxLen at h4;omega
theorem Ic.rdx {w0 w:World} {Γ:List Pc} (S:Ic w0 w Γ) (i:Nat) {e:TypeId} {size:Nat} {q:Option Addr} {n c:Nat} {xs:List Value} (h:Γ[i]?=some (.own e size q n c xs)):Rd w size q n xs:=Rd.of_own (S.own i h) (EX (S.own i h))
section
open Go Go.RowKit
attribute [local go_sem] Oper.semAt_some
theorem cd {P:Program} {o:Oper} {a:Act} {w w':World} {K:Act->World->Prop} {Q:Exit->Act->World->Prop} (s x:Operand) (t:TypeId) {vs vx v:Value}
  (ho:o.op=.call { callee:=.builtin .append,args:=#[s,x],argTypes:=#[t,t] }) (hs:a.eval s=vs) (hx:a.eval x=vx) (hrun:(Builtin.append_ #[t,t] o.type #[vs,vx]).run P w=.ok v w') (h:K (a.put o.dst v) w'):o.wp P a w K Q:=by
 unfold Oper.wp execOp
 simp only [ho,resolve,invoke,builtin,Sem.run_bind,Sem.run_pure,Result.andThen_ok,List.map_toArray,List.map_cons,List.map_nil,hs,hx,hrun]
 exact h
theorem xj {p0 p1:Pc} {Γ:List Pc} {j jb:Nat} (h:j≠jb) {a b:Pc} (hb:Γ[jb]?=some b):((p0 :: p1 :: Γ).set (j+2) a)[jb+2]?=some b:=by
 rw [List.getElem?_set_ne (by omega)];exact hb
theorem Ic.alrw {w0 w:World} {Γ:List Pc} (S:Ic w0 w Γ) (cs:Array Value) (e:TypeId) (size n g:Nat) (hg:w.heap.size=g) (hm:n<=maxLen) (hs:cs.size=n*size):Ic w0 (w.alloc (.cells cs e)) (.own e size (some ⟨g,0,none⟩) n n cs.toList :: Γ):=by
 subst hg
 exact S.fresh (Ext.alloc (Below.refl _ _) _) (World.ownsRow_lit w cs n (Nat.le_refl _) hm hs) (Nat.le_refl _)
theorem Ic.appended {w0 w:World} {Γ:List Pc} (S:Ic w0 w Γ) (j:Nat) (t ty e:TypeId) (i:TypeInfo) (z:Value) (size bytes:Nat) (ht:(prog).underlying t=some (.slice e)) (hi:(prog).info? e=some i) (hz:i.zero=some z)
  (hsize:i.size=size) (hby:i.bytes=bytes) (hzs:z.cells.size=size) (hsz:0<size)
  (q:Option Addr) (n cq:Nat) (xs:List Value) (hj:Γ[j]?=some (.own e size q n cq xs)) (A:Option Addr) (m c:Nat) (news:List Value) (hr:Rd w size A m news) (h1:∀ u∈news,u.oneCell'=true)
  (hbytes:(n+m)*bytes<=140737488355328) (h63:n+m<=140737488355328) :
  ∃ q' c' w',(Builtin.append_ #[t,t] ty #[.slice q n cq,.slice A m c]).run prog w=.ok (.slice q' (n+m) c') w'/\Ic w0 w' (Γ.set j (.own e size q' (n+m) c' (xs ++ news))):=by
 obtain⟨q',c',w',hrun,ho',hg,hat,_⟩:=j7 (P:=prog) w w0.heap.size t ty e i z size bytes ht hi hz hsize hby hzs hsz q n cq xs (S.own j hj) A m c news hr h1 hbytes h63 S.ext.size
 refine⟨q',c',w',hrun,S.put j hj _ hg (fun k hk=>hk) (aP ho' (Nat.zero_le _)) fun k hk=>?_⟩
 rcases hat with h | h
 ·exact .inl (h.symm.trans hk)
 ·have:some w.heap.size=some k:=h.symm.trans hk
  injection this with this
  exact .inr (by omega)
theorem Ic.cut {w0 w:World} {Γ:List Pc} (S:Ic w0 w Γ) (j:Nat) {e:TypeId} {size n c:Nat} {q:Option Addr} {xs ys:List Value} (k:Nat) (hj:Γ[j]?=some (.own e size q n c (xs ++ ys))) (hk:xs.length=k*size) (hkn:k<=n):Ic w0 w (Γ.set j (.own e size q k c xs)) :=
 S.put j hj _ (row:=none) (World.grownBy.refl _ _) (fun _ h=>nomatch h) (aP (jr (S.own j hj) hk hkn) (Nat.zero_le _)) fun _ hk=>.inl hk
end
theorem H8 (s : String) (a : Addr) (xt : TypeId) (W : World) : (Builtin.ssaWrapNilChk_ #[xt] xt #[.pointer (some a), strVal "", strVal s]).run prog W = .ok (.pointer (some a)) W := by kernel_rfl
section
open Go Go.RowKit
attribute [local go_sem] Oper.semAt_some
theorem ll {Γ:List Pc} {j:Nat} {p:Pc} (h:Γ[j]?=some p):Γ.set j p=Γ:=by
 obtain⟨h1,h2⟩:=List.getElem?_eq_some_iff.1 h
 rw [<- h2,List.set_getElem_self]
theorem oZ {α:Type} [Inhabited α] (X:List α) {i k:Nat} (h:i≠k):bj X i k=bj X k i:=by
 unfold bj
 exact List.set_comm _ _ h
end
section
open Go Go.RowKit
attribute [local go_sem] Oper.semAt_some
theorem xe {Γ:List Pc} {j jb:Nat} (h:j≠jb) (a a' b:Pc):((Γ.set j a).set jb b).set j a'=(Γ.set j a').set jb b:=by
 rw [List.set_comm _ _ h,List.set_set,List.set_comm _ _ (fun e=>h e.symm)]
end
def cM (a b:Int × Int):Bool:=decide (a.2<b.2) || (decide (a.2=b.2) && decide (a.1<b.1))
theorem rU {a b:Int × Int}:cM a b=true↔a.2<b.2\/(a.2=b.2/\a.1<b.1):=by
 unfold cM
 rw [Bool.or_eq_true,Bool.and_eq_true,decide_eq_true_eq,decide_eq_true_eq,decide_eq_true_eq]
theorem vI {a b:Int × Int}:cM a b=false↔¬ (a.2<b.2\/(a.2=b.2/\a.1<b.1)):=by
 rw [<- rU];simp
theorem ew:I5 cM where
 irrefl a:=by rw [vI];omega
 trans a b c h k:=by rw [rU] at *;omega
 tri a b h k:=by rw [vI] at *;exact Prod.ext (by omega) (by omega)
def kM (d:List Int) (rad v:Int):Bool:=decide (0<=v) && decide (v<d.length) && decide (0<=ae d v.toNat) && decide (ae d v.toNat<=rad)
theorem qG {d:List Int} {rad v:Int}:kM d rad v=true↔0<=v/\v<d.length/\0<=ae d v.toNat/\ae d v.toNat<=rad:=by
 unfold kM
 rw [Bool.and_eq_true,Bool.and_eq_true,Bool.and_eq_true,decide_eq_true_eq,decide_eq_true_eq,decide_eq_true_eq,decide_eq_true_eq]
 constructor
 ·rintro⟨⟨⟨h1,h2⟩,h3⟩,h4⟩;exact⟨h1,h2,h3,h4⟩
 ·rintro⟨h1,h2,h3,h4⟩;exact⟨⟨⟨h1,h2⟩,h3⟩,h4⟩
def vA (d:List Int) (v:Int):Int × Int:=(v,ae d v.toNat)
def gv (d:List Int) (rad:Int) (P:List Int):List (Int × Int):=(P.filter (kM d rad)).map (vA d)
theorem yu (d:List Int) (rad:Int) (P:List Int) (v:Int):gv d rad (P ++ [v])=if kM d rad v=true then gv d rad P ++ [vA d v] else gv d rad P:=by
 unfold gv
 rw [List.filter_append,List.map_append]
 by_cases h:kM d rad v=true
 ·rw [if_pos h];simp [h]
 ·rw [if_neg h];simp [h]
theorem n6 {d:List Int} {rad:Int} {P:List Int} (h:P.Nodup):(gv d rad P).Nodup:=by
 unfold gv
 have h1:(P.filter (kM d rad)).Nodup:=h.filter _
 unfold List.Nodup at h1 ⊢
 exact List.pairwise_map.2 (h1.imp fun {a b} hne e=>hne (congrArg Prod.fst e))
theorem nZ (d:List Int) (rad:Int) (P:List Int):(gv d rad P).length<=P.length:=by
 unfold gv
 rw [List.length_map]
 exact List.length_filter_le _ _
theorem qF (d:List Int) (rad:Int) {P:List Int} {k:Nat} (hk:k<P.length):gv d rad (P.take (k+1))=if kM d rad (ae P k)=true then gv d rad (P.take k) ++ [vA d (ae P k)] else gv d rad (P.take k):=by
 rw [ak P k hk,yu]
def lG (x:Int × Int):List (Int × Int)->Nat
 | []=>0
 | y :: l=>if cM x y=true then 0 else lG x l+1
theorem uS (x:Int × Int):∀ l,lG x l<=l.length
 | []=>Nat.le_refl _
 | y :: l=>by
  rw [lG]
  split
  ·exact Nat.zero_le _
  ·rw [List.length_cons];exact Nat.succ_le_succ (uS x l)
theorem j8 {x:Int × Int}:∀ {l:List (Int × Int)} {i:Nat},i<lG x l->cM x (ae l i)=false
 | [],i,h=>by rw [lG] at h;omega
 | y :: l,i,h=>by
  rw [lG] at h
  by_cases e:cM x y=true
  ·rw [if_pos e] at h;omega
  ·rw [if_neg e] at h
   cases i with
   | zero=>show cM x y=false;simpa using e
   | succ i=>exact j8 (l:=l) (by omega)
theorem uR {x:Int × Int}:∀ {l:List (Int × Int)},lG x l<l.length->cM x (ae l (lG x l))=true
 | [],h=>by simp at h
 | y :: l,h=>by
  rw [lG] at h ⊢
  by_cases e:cM x y=true
  ·rw [if_pos e];exact e
  ·rw [if_neg e] at h ⊢
   exact uR (l:=l) (by rw [List.length_cons] at h;omega)
theorem rE {x:Int × Int} {l:List (Int × Int)} {k:Nat} (hk:k<=l.length) (h1:∀ i,i<k->cM x (ae l i)=false) (h2:k<l.length->cM x (ae l k)=true):k=lG x l:=by
 have ha:=uS x l
 rcases Nat.lt_trichotomy k (lG x l) with h | h | h
 ·have:=j8 h
  rw [h2 (by omega)] at this;cases this
 ·exact h
 ·have:=h1 _ h
  rw [uR (by omega)] at this;cases this
def df (x:Int × Int) (l:List (Int × Int)):List (Int × Int):=l.take (lG x l) ++ ([x] ++ l.drop (lG x l))
theorem fX (x:Int × Int) (l:List (Int × Int)):(df x l).length=l.length+1:=by
 have:=uS x l
 unfold df
 rw [List.length_append,List.length_append,List.length_take,List.length_drop,List.length_singleton]
 omega
theorem jN (x:Int × Int) (l:List (Int × Int)):(df x l).Perm (l ++ [x]):=by
 unfold df
 have h:(l.take (lG x l) ++ ([x] ++ l.drop (lG x l))).Perm (l.take (lG x l) ++ (l.drop (lG x l) ++ [x])):=List.Perm.append_left _ List.perm_append_comm
 refine h.trans ?_
 rw [<- List.append_assoc,List.take_append_drop]
theorem vX {x:Int × Int} {l:List (Int × Int)} (h:bM cM l) (hx:x ∉ l):bM cM (df x l):=by
 unfold df
 have hs:bM cM (l.take (lG x l) ++ l.drop (lG x l)):=by rw [List.take_append_drop];exact h
 rw [bM,List.pairwise_append] at hs
 obtain⟨h1,h2,h3⟩:=hs
 have hdrop:∀ y∈l.drop (lG x l),cM x y=true:=fun y hy=>by
  obtain⟨i,hi,rfl⟩:=List.getElem_of_mem hy
  rw [List.length_drop] at hi
  have h0:=uR (x:=x) (l:=l) (by omega)
  rw [List.getElem_drop]
  by_cases e:i=0
  ·subst e;rw [ar (by omega)] at h0;simpa using h0
  ·have hp:=List.pairwise_iff_getElem.1 h (lG x l) (lG x l+i) (by omega) (by omega) (by omega)
   rw [ar (by omega)] at h0
   exact ew.trans _ _ _ h0 hp
 have htake:∀ y∈l.take (lG x l),cM y x=true:=fun y hy=>by
  obtain⟨i,hi,rfl⟩:=List.getElem_of_mem hy
  rw [List.length_take] at hi
  have h0:=j8 (x:=x) (l:=l) (i:=i) (by omega)
  rw [ar (by omega)] at h0
  rw [List.getElem_take]
  cases hc:cM l[i] x with
  | true=>rfl
  | false =>
   have:=ew.tri _ _ hc h0
   exact absurd (this ▸ List.getElem_mem _) hx
 rw [bM,List.pairwise_append]
 refine⟨h1,?_,fun a ha b hb=>?_⟩
 ·rw [List.singleton_append,List.pairwise_cons]
  exact⟨hdrop,h2⟩
 ·rcases List.mem_append.1 hb with hb | hb
  ·rw [List.mem_singleton] at hb;subst hb;exact htake a ha
  ·exact h3 a ha b hb
def bl (l:List (Int × Int)):List (Int × Int):=l.foldl (fun acc x=>df x acc) []
theorem dY (l:List (Int × Int)) (x:Int × Int):bl (l ++ [x])=df x (bl l):=by simp [bl]
theorem mg {α:Type} {p:List α->Prop} (nil:p []) (snoc:∀ l x,p l->p (l ++ [x])) (l:List α):p l:=by
 have h:∀ m:List α,p m.reverse:=fun m=>by
  induction m with
  | nil=>exact nil
  | cons a m ih=>rw [List.reverse_cons];exact snoc _ _ ih
 have:=h l.reverse
 rwa [List.reverse_reverse] at this
theorem iM:∀ l,(bl l).Perm l:=by
 refine mg (List.Perm.refl _) fun l x ih=>?_
 rw [dY]
 exact(jN _ _).trans (ih.append_right _)
theorem jR (l:List (Int × Int)):(bl l).length=l.length:=(iM l).length_eq
theorem mK:∀ l:List (Int × Int),l.Nodup->bM cM (bl l):=by
 refine mg (fun _=>List.Pairwise.nil) fun l x ih h=>?_
 rw [dY]
 rw [List.nodup_append] at h
 refine vX (ih h.1) fun hx=>?_
 exact h.2.2 x ((iM l).mem_iff.1 hx) x (by simp) rfl
theorem oU {l out:List (Int × Int)} (hn:l.Nodup) (h1:bM cM out) (hp:out.Perm l):out=bl l :=
 fY ew _ _ h1 (mK l hn) fun x=>by rw [hp.mem_iff,(iM l).mem_iff]
def ix (l:List (Int × Int)):Prop:=l.Pairwise fun a b=>cM b a=false
theorem uo {l m:List (Int × Int)} (h1:ix l) (h2:ix m) (hp:l.Perm m):l=m :=
 List.Perm.eq_of_pairwise (le:=fun a b=>cM b a=false) (fun a b _ _ h k=>ew.tri a b k h) h1 h2 hp
theorem mc (x y:Int × Int) (l:List (Int × Int)):df x (y :: l)=if cM x y=true then x :: y :: l else y :: df x l:=by
 unfold df
 rw [lG]
 by_cases h:cM x y=true
 ·rw [if_pos h,if_pos h];rfl
 ·rw [if_neg h,if_neg h];rfl
theorem BF (x:Int × Int):df x []=[x]:=rfl
theorem BE {x y:Int × Int} {l:List (Int × Int)}:y∈df x l↔y=x\/y∈l:=by
 rw [(jN x l).mem_iff,List.mem_append,List.mem_singleton]
 exact Or.comm
theorem kp (x:Int × Int):∀ {l:List (Int × Int)},ix l->ix (df x l)
 | [],_=>by rw [BF];exact List.pairwise_singleton _ _
 | y :: l,h=>by
  rw [mc]
  have h':=List.pairwise_cons.1 h
  by_cases e:cM x y=true
  ·rw [if_pos e]
   refine List.pairwise_cons.2 ⟨fun z hz=>?_,h⟩
   rcases List.mem_cons.1 hz with rfl | hz
   ·exact ew.asymm e
   ·exact ew.le_trans (ew.asymm e) (h'.1 z hz)
  ·rw [if_neg e]
   refine List.pairwise_cons.2 ⟨fun z hz=>?_,kp x h'.2⟩
   rcases BE.1 hz with rfl | hz
   ·simpa using e
   ·exact h'.1 z hz
theorem mL:∀ l,ix (bl l):=by
 refine mg List.Pairwise.nil fun l x ih=>?_
 rw [dY]
 exact kp x ih
theorem qX (x:Int × Int):∀ (S:List (Int × Int)) (k:Nat),(df x (S.take k)).take k=(df x S).take k
 | [],k=>by simp
 | y :: l,0=>by simp
 | y :: l,k+1=>by
  rw [List.take_succ_cons,mc,mc]
  by_cases e:cM x y=true
  ·rw [if_pos e,if_pos e,List.take_succ_cons,List.take_succ_cons]
   cases k with
   | zero=>rfl
   | succ k=>rw [List.take_succ_cons,List.take_succ_cons,List.take_take,Nat.min_eq_left (Nat.le_succ k)]
  ·rw [if_neg e,if_neg e,List.take_succ_cons,List.take_succ_cons,qX x l k]
theorem vm {p X X':List (Int × Int)} {x:Int × Int} {k:Nat} (hX:X.Perm ((bl p).take k)) (hp:X'.Perm (X ++ [x])) (hk:X'.length<=k):X'.Perm ((bl (p ++ [x])).take k):=by
 have h1:X.length<k:=by have:=hp.length_eq;rw [List.length_append,List.length_singleton] at this;omega
 have h2:=hX.length_eq
 rw [List.length_take] at h2
 rw [List.take_of_length_le (by omega)] at hX
 rw [dY,List.take_of_length_le (by rw [fX];omega)]
 exact hp.trans ((hX.append_right _).trans (jN _ _).symm)
theorem vl {p X X' R : List (Int × Int)} {x m : Int × Int} {k : Nat} (hX : X.Perm ((bl p).take k)) (hp : X'.Perm (X ++ [x])) (hk : k < X'.length) (hm : ∀ b ∈ X', cM m b = false) (hr : (m :: R).Perm X') : R.Perm ((bl (p ++ [x])).take k) := by
  have h1 : k <= X.length := by have := hp.length_eq; rw [List.length_append, List.length_singleton] at this; omega
  have h2 := hX.length_eq
  rw [List.length_take] at h2
  have hY : (df x ((bl p).take k)).Perm X' := (jN _ _).trans ((hX.symm.append_right _).trans hp.symm)
  have hS : ix (df x ((bl p).take k)) := kp x ((mL p).sublist (List.take_sublist _ _))
  have hYl : (df x ((bl p).take k)).length = k + 1 := by rw [fX, List.length_take]; omega
  rw [dY, <- qX]
  generalize df x ((bl p).take k) = Y at *
  obtain ⟨z, hz⟩ : ∃ z, Y = Y.take k ++ [z] := by
    refine ⟨ae Y k, ?_⟩
    have := ak Y k (by omega)
    rwa [List.take_of_length_le (by omega)] at this
  have hzl : ∀ y ∈ Y, cM z y = false := fun y hy => by
    rw [hz] at hy hS
    rw [ix, List.pairwise_append] at hS
    rcases List.mem_append.1 hy with hy | hy
    · exact hS.2.2 y hy z (by simp)
    · rw [List.mem_singleton] at hy; subst hy; exact ew.irrefl _
  have YO : z ∈ Y := by rw [hz]; simp
  have hmz : m = z := ew.tri _ _ (hm z (hY.mem_iff.1 YO)) (hzl m (hY.mem_iff.2 (hr.mem_iff.1 (List.mem_cons_self ..))))
  subst hmz
  have h3 : (m :: R).Perm (m :: Y.take k) := (hr.trans hY.symm).trans (by conv => lhs; rw [hz]
                                                                          exact List.perm_append_singleton _ _)
  exact h3.cons_inv
def bV (l:List (Int × Int)) (k:Int):List (Int × Int):=if k<1 then [] else (bl l).take k.toNat
theorem vk (l:List (Int × Int)) (k:Int):(bV l k).length<=l.length/\((bV l k).length:Int)<=max k 0:=by
 unfold bV
 split
 ·simp;omega
 ·rw [List.length_take,jR];omega
theorem vn {l Y:List (Int × Int)} {k:Nat} (h1:ix Y) (h2:Y.Perm ((bl l).take k)):Y=(bl l).take k :=
 uo h1 ((mL l).sublist (List.take_sublist _ _)) h2
def mA (a b:Int × Int):Bool:=cM b a
theorem oX:I5 mA where
 irrefl a:=ew.irrefl a
 trans a b c h k:=ew.trans c b a k h
 tri a b h k:=(ew.tri b a h k).symm
def kd (a b:Int × Int):Int:=if a.2=b.2 then (if a.1=b.1 then 0 else if a.1<b.1 then -1 else 1) else if a.2<b.2 then -1 else 1
theorem sX (a b:Int × Int):decide (kd a b<0)=cM a b:=by
 rw [Bool.eq_iff_iff,rU,decide_eq_true_eq]
 unfold kd
 by_cases h1:a.2=b.2
 ·rw [if_pos h1]
  by_cases h2:a.1=b.1
  ·rw [if_pos h2];omega
  ·rw [if_neg h2]
   by_cases h3:a.1<b.1
   ·rw [if_pos h3];omega
   ·rw [if_neg h3];omega
 ·rw [if_neg h1]
  by_cases h3:a.2<b.2
  ·rw [if_pos h3];omega
  ·rw [if_neg h3];omega
theorem rF (b:Bool) (w:World):Calls prog 287 #[.bool b] w fun e w'=>e=.returned (.int .i64 (if b=true then -1 else 1))/\w=w':=by
 cases b <;> (go_enter func287,ntmps287;go_wp2;go_ret;exact⟨rfl,rfl⟩)
theorem Hu (x y:Int × Int) (w:World):Calls prog 273 #[.agg #[.int .i64 x.1,.int .i64 x.2],.agg #[.int .i64 y.1,.int .i64 y.2]] w fun e w'=>e=.returned (.int .i64 (kd x y))/\w'=(w.alloc (.cells #[.int .i64 x.1,.int .i64 x.2] 329)).alloc (.cells #[.int .i64 y.1,.int .i64 y.2] 329):=by
 obtain⟨x1,x2⟩:=x
 obtain⟨y1,y2⟩:=y
 unfold kd
 simp only
 by_cases h1:x2=y2
 ·subst h1
  rw [if_pos rfl]
  by_cases h2:x1=y1
  ·subst h2
   rw [if_pos rfl]
   go_enter func273,ntmps273
   go_wp2
   go_ret
   exact⟨rfl,rfl⟩
  ·have e2:(x1 != y1)=true:=by simpa using h2
   rw [if_neg h2]
   by_cases h3:x1<y1
   ·rw [if_pos h3]
    have HB:=lh (fun W=>rF true W)
    clear h2
    go_enter func273,ntmps273
    go_wp2_with (go_at_call 287;go_must (refine(HB.out _).mono ?_;rintro e w1 ⟨rfl,rfl⟩))
    go_ret
    exact⟨rfl,rfl⟩
   ·rw [if_neg h3]
    have e3:decide (x1<y1)=false:=by simpa using h3
    have HB:=lh (fun W=>rF false W)
    clear h2 h3
    go_enter func273,ntmps273
    go_wp2_with (go_at_call 287;go_must (refine(HB.out _).mono ?_;rintro e w1 ⟨rfl,rfl⟩))
    go_ret
    exact⟨rfl,rfl⟩
 ·have e1:(x2 != y2)=true:=by simpa using h1
  rw [if_neg h1]
  by_cases h3:x2<y2
  ·rw [if_pos h3]
   have HB:=lh (fun W=>rF true W)
   clear h1
   go_enter func273,ntmps273
   go_wp2_with (go_at_call 287;go_must (refine(HB.out _).mono ?_;rintro e w1 ⟨rfl,rfl⟩))
   go_ret
   exact⟨rfl,rfl⟩
  ·rw [if_neg h3]
   have e3:decide (x2<y2)=false:=by simpa using h3
   have HB:=lh (fun W=>rF false W)
   clear h1 h3
   go_enter func273,ntmps273
   go_wp2_with (go_at_call 287;go_must (refine(HB.out _).mono ?_;rintro e w1 ⟨rfl,rfl⟩))
   go_ret
   exact⟨rfl,rfl⟩
theorem G3 (x y:Int × Int) (w:World):Calls prog 273 #[.agg #[.int .i64 x.1,.int .i64 x.2],.agg #[.int .i64 y.1,.int .i64 y.2]] w fun e w'=>e=.returned (.int .i64 (kd x y))/\Ext w w' :=
 (Hu x y w).mono fun e w' ⟨h1,h2⟩=>⟨h1,by rw [h2];exact Ext.alloc (Ext.alloc (Below.refl _ _) _) _⟩
theorem Ev (gb:Nat) (q:Option Addr) (n c:Nat) (m:Int) (w:World) (hB:Ih w gb 301 #[.slice q n c,.int .i64 m]) (hn:n<=9223372036854775807):Calls prog 285 #[.pointer (some ⟨gb,0,none⟩)] w fun e w'=>e=.returned (.int .i64 n)/\w'=w:=by
 have b0:w.cell? ⟨gb,0,none⟩=some (.slice q n c):=hB.cell 0
 have bz:=hB.lt
 have _u:=hn
 clear hB _u
 go_enter func285,ntmps285
 go_wp2
 go_ret
 exact⟨rfl,rfl⟩
theorem mp (gb:Nat) (q:Option Addr) (n c:Nat) (m:Int) (X:List (Int × Int)) (i k:Nat) (w:World) (hB:Ih w gb 301 #[.slice q n c,.int .i64 m]) (hl:Rd w 2 q n (aj X)) (hi:i<n) (hk:k<n) :
  Calls prog 375 #[.pointer (some ⟨gb,0,none⟩),.int .i64 i,.int .i64 k] w fun e w'=>e=.returned (.bool (mA (ae X i) (ae X k)))/\Ext w w':=by
 have b0:w.cell? ⟨gb,0,none⟩=some (.slice q n c):=hB.cell 0
 have bz:=hB.lt
 have p1:=hl.ptr
 have n2:=hl.small
 have g1:=hl.cE2 hi
 have g2:=hl.cE2 hk
 have g3:=hl.cE hi
 have g4:=hl.cE hk
 have d1:(0:Int)<=i:=by omega
 have d2:(i:Int)<n:=by omega
 have d3:(0:Int)<=k:=by omega
 have d4:(k:Int)<n:=by omega
 unfold mA
 generalize ae X i=a at *
 generalize ae X k=b at *
 have HT:=lh (fun W=>G3 b a W)
 have HF:=lh (sX b a)
 clear hl hi hk hB
 rw [<- HF.out]
 generalize kd b a=cc at *
 clear HF
 go_enter func375,ntmps375
 go_wp2
 have u0:=fun x:Ie w=>x.ext.cell b0
 have u1:=fun x:Ie w=>x.ext.cell g1
 have u2:=fun x:Ie w=>x.ext.cell g2
 have u3:=fun x:Ie w=>x.ext.cell g3
 have u4:=fun x:Ie w=>x.ext.cell g4
 refine av (by kernel_rfl) (by kernel_rfl) ?_
 repeat (go_big_quiet_step (((go_at_call 273;exact Calls.ext_of (HT.out _)))))
 refine wpQuiet_nil ?_
 rintro w9 ⟨⟨_,IR⟩,rfl⟩
 go_wp2
 go_ret
 exact⟨rfl,IR⟩
theorem CG (gb g n c:Nat) (X:List (Int × Int)) (i k:Nat) (m:Int) (w w0:World) (Γ:List Pc) (jb j:Nat) (S:Ic w0 w Γ) (hb:Γ[jb]?=some (.blk gb 301 #[.slice (some ⟨g,0,none⟩) n c,.int .i64 m])) (hne:jb≠j) (hj:Γ[j]?=some (.own 329 2 (some ⟨g,0,none⟩) n c (aj X))) (hi:i<n) (hk:k<n) (hik:i≠k) (hn:n<=1000000) :
  Calls prog 378 #[.pointer (some ⟨gb,0,none⟩),.int .i64 i,.int .i64 k] w fun e w'=>e=.returned (.tuple #[])/\Ic w0 w' (Γ.set j (.own 329 2 (some ⟨g,0,none⟩) n c (aj (bj X i k)))):=by
 have ho:=S.own j hj
 have b0:w.cell? ⟨gb,0,none⟩=some (.slice (some ⟨g,0,none⟩) n c):=(S.blk jb hb).cell 0
 have bz:=(S.blk jb hb).lt
 have hgb:g≠gb:=by
  exact fun e=>S.apart_at hb hj hne (k:=gb) rfl (by subst e;rfl)
 have hl:=S.rd j hj (by omega)
 have g1:=hl.cE2 hi
 have g2:=hl.cE2 hk
 have g3:=hl.cE hi
 have g4:=hl.cE hk
 rw [aB,Nat.zero_add] at g1 g2 g3 g4
 have k1:w.frozen? ⟨g,i*2,none⟩=false:=by have:=aA ho (by omega) (i*2);rwa [aB,Nat.zero_add] at this
 have k2:w.frozen? ⟨g,i*2+1,none⟩=false:=by have:=aA ho (by omega) (i*2+1);rwa [aB,Nat.zero_add] at this
 have k3:w.frozen? ⟨g,k*2,none⟩=false:=by have:=aA ho (by omega) (k*2);rwa [aB,Nat.zero_add] at this
 have k4:w.frozen? ⟨g,k*2+1,none⟩=false:=by have:=aA ho (by omega) (k*2+1);rwa [aB,Nat.zero_add] at this
 have z1:g<w.heap.size:=(S.blt j hj (by omega)).2
 have d1:(0:Int)<=i:=by omega
 have d2:(i:Int)<n:=by omega
 have d3:(0:Int)<=k:=by omega
 have d4:(k:Int)<n:=by omega
 have x1:i*2≠k*2:=by omega
 have x2:i*2+1≠k*2:=by omega
 have x3:i*2≠k*2+1:=by omega
 have x4:i*2+1≠k*2+1:=by omega
 have IA:=hl.nE
 have HX:=lh (qp (X:=X) (i:=i) (k:=k) (by rw [<- IA];exact hi) (by rw [<- IA];exact hk) hik)
 generalize ae X i=a at *
 generalize ae X k=b at *
 clear hl ho
 have SH:=lh S;clear S
 have mixed:(prog).follows Departure.mixedOrders=true:=by kernel_rfl
 clear IA
 go_enter func378,ntmps378
 go_wp2
 go_region_o
 all_goals
  go_end0
  refine⟨rfl,?_⟩
  have T:=((SH.out.setRow2 j hj (i*2) (by omega) (.int .i64 b.1) (.int .i64 b.2)).setRow2 j (dg hj) (k*2) (by omega) (.int .i64 a.1) (.int .i64 a.2)).drew
  simp only [aB,Nat.zero_add,List.set_set] at T
  rw [<- HX.out]
  exact T
theorem CF (gb g n c:Nat) (X:List (Int × Int)) (i:Nat) (m:Int) (w w0:World) (Γ:List Pc) (jb j:Nat) (S:Ic w0 w Γ) (hb:Γ[jb]?=some (.blk gb 301 #[.slice (some ⟨g,0,none⟩) n c,.int .i64 m])) (hne:jb≠j) (hj:Γ[j]?=some (.own 329 2 (some ⟨g,0,none⟩) n c (aj X))) (hi:i<n) (hn:n<=1000000) :
  Calls prog 378 #[.pointer (some ⟨gb,0,none⟩),.int .i64 i,.int .i64 i] w fun e w'=>e=.returned (.tuple #[])/\Ic w0 w' (Γ.set j (.own 329 2 (some ⟨g,0,none⟩) n c (aj (bj X i i)))):=by
 have ho:=S.own j hj
 have b0:w.cell? ⟨gb,0,none⟩=some (.slice (some ⟨g,0,none⟩) n c):=(S.blk jb hb).cell 0
 have bz:=(S.blk jb hb).lt
 have hgb:g≠gb:=by
  exact fun e=>S.apart_at hb hj hne (k:=gb) rfl (by subst e;rfl)
 have hl:=S.rd j hj (by omega)
 have g1:=hl.cE2 hi
 have g3:=hl.cE hi
 rw [aB,Nat.zero_add] at g1 g3
 have k1:w.frozen? ⟨g,i*2,none⟩=false:=by have:=aA ho (by omega) (i*2);rwa [aB,Nat.zero_add] at this
 have k2:w.frozen? ⟨g,i*2+1,none⟩=false:=by have:=aA ho (by omega) (i*2+1);rwa [aB,Nat.zero_add] at this
 have z1:g<w.heap.size:=(S.blt j hj (by omega)).2
 have d1:(0:Int)<=i:=by omega
 have d2:(i:Int)<n:=by omega
 have IA:=hl.nE
 have HX:Hid (aj (X.set i (ae X i))=aj (bj X i i)):=by unfold Hid bj;rw [List.set_set]
 rw [jF _ (by omega)] at HX
 generalize ae X i=a at *
 clear hl ho
 have SH:=lh S;clear S
 have mixed:(prog).follows Departure.mixedOrders=true:=by kernel_rfl
 clear IA
 go_enter func378,ntmps378
 go_wp2
 go_region_o
 all_goals
  go_end0
  refine⟨rfl,?_⟩
  have T:=((SH.out.setRow2 j hj (i*2) (by omega) (.int .i64 a.1) (.int .i64 a.2)).setRow2 j (dg hj) (i*2) (by omega) (.int .i64 a.1) (.int .i64 a.2)).drew
  simp only [aB,Nat.zero_add,List.set_set] at T
  rw [rl] at T
  rw [<- HX.out]
  exact T
theorem sJ (gb:Nat) (q:Option Addr) (n c:Nat) (X:List (Int × Int)) (i k:Nat) (m:Int) (w w0:World) (Γ:List Pc) (jb j:Nat) (S:Ic w0 w Γ) (hb:Γ[jb]?=some (.blk gb 301 #[.slice q n c,.int .i64 m])) (hne:jb≠j) (hj:Γ[j]?=some (.own 329 2 q n c (aj X))) (hi:i<n) (hk:k<n) (hn:n<=1000000) :
  Calls prog 378 #[.pointer (some ⟨gb,0,none⟩),.int .i64 i,.int .i64 k] w fun e w'=>e=.returned (.tuple #[])/\Ic w0 w' (Γ.set j (.own 329 2 q n c (aj (bj X i k)))):=by
 obtain⟨g,rfl,_⟩:=cR (S.own j hj) (by omega)
 by_cases e:i=k
 ·subst e
  exact CF gb g n c X i m w w0 Γ jb j S hb hne hj hi hn
 ·exact CG gb g n c X i k m w w0 Γ jb j S hb hne hj hi hk e hn
section
open Go Go.RowKit Go.Maps
def I6:Type:={x:Int // Ii x}
theorem k9 {P:Program} {e:TypeId} (he:P.underlying e=some (.int .i64)) (u:Value) (y:DataW Unit × List MemPlace) (h:plainElem (H:=Unit) P e u=some y):∃ v:I6,u=.int .i64 v.1:=by
 unfold plainElem at h
 rw [he] at h
 cases u <;> simp at h
 obtain⟨⟨rfl,h1⟩,_⟩:=h
 exact⟨⟨_,h1⟩,rfl⟩
def Hb (P:Program) (e:TypeId) (he:P.underlying e=some (.int .i64)) (hz:∀ w,(zeroValue e).run P w=.ok (.int .i64 0) w):JF P e I6 :=
 ⟨fun x=>.int .i64 x.1,fun x=>.lit (.int .i64 x.1),⟨0,Ii.nat (k:=0) (by omega)⟩,fun v=>plainElem_int he v.2,k9 he,fun v v' h=>by injection h with h;injection h with _ h;exact Subtype.ext h,hz⟩
end
section
open Go Go.RowKit Go.Maps
theorem Fe (w:World):(zeroValue 3).run prog w=.ok (.int .i64 0) w:=by kernel_rfl
noncomputable def Dt:JF prog 3 I6:=Hb prog 3 underlying3 Fe
def iX (l:List Sq) (dir:Int) (f:Int->Option I6):Prop :=
 (∀ v,f v=none->∀ x∈l,x.r=dir->x.v≠v)/\∀ v d,f v=some d->(∃ x∈l,x.r=dir/\x.v=v/\x.d=d.1)/\∀ x∈l,x.r=dir->x.v=v->d.1<=x.d
theorem yM (dir:Int):iX [] dir (fun _=>none):=⟨fun v _ x h=>(List.not_mem_nil h).elim,fun v d h=>by cases h⟩
theorem kj {l:List Sq} {dir:Int} {f:Int->Option I6} (x:Sq) (h:iX l dir f) (hx:x.r=dir->∃ d,f x.v=some d/\d.1<=x.d):iX (l ++ [x]) dir f:=by
 refine⟨fun v hv y hy hr=>?_,fun v d hv=>⟨?_,fun y hy hr he=>?_⟩⟩
 ·rcases List.mem_append.1 hy with hy | hy
  ·exact h.1 v hv y hy hr
  ·rw [List.mem_singleton] at hy
   subst hy
   obtain⟨d,h1,_⟩:=hx hr
   intro e
   rw [e,hv] at h1
   cases h1
 ·obtain⟨y,hy,h1⟩:=(h.2 v d hv).1
  exact⟨y,List.mem_append_left _ hy,h1⟩
 ·rcases List.mem_append.1 hy with hy | hy
  ·exact(h.2 v d hv).2 y hy hr he
  ·rw [List.mem_singleton] at hy
   subst hy
   obtain⟨d',h1,h2⟩:=hx hr
   rw [he,hv] at h1
   injection h1 with h1
   rw [h1];exact h2
theorem qK {l:List Sq} {dir:Int} {f:Int->Option I6} (x:Sq) (u:I6) (hu:u.1=x.d) (h:iX l dir f) (hr:x.r=dir) (hx:∀ d,f x.v=some d->x.d<=d.1):iX (l ++ [x]) dir (zy f x.v u):=by
 refine⟨fun v hv y hy hr'=>?_,fun v d hv=>?_⟩
 ·unfold zy at hv
  by_cases e:v=x.v
  ·rw [if_pos e] at hv;cases hv
  ·rw [if_neg e] at hv
   rcases List.mem_append.1 hy with hy | hy
   ·exact h.1 v hv y hy hr'
   ·rw [List.mem_singleton] at hy
    subst hy
    exact fun h=>e h.symm
 ·unfold zy at hv
  by_cases e:v=x.v
  ·rw [if_pos e] at hv
   injection hv with hv
   subst hv e
   refine⟨⟨x,by simp,hr,rfl,hu.symm⟩,fun y hy hr' he=>?_⟩
   rcases List.mem_append.1 hy with hy | hy
   ·cases hf:f x.v with
    | none=>exact absurd he (h.1 _ hf y hy hr')
    | some d=>have:=hx d hf;have:=(h.2 _ d hf).2 y hy hr' he;rw [hu];omega
   ·rw [List.mem_singleton] at hy
    subst hy
    rw [hu];exact Int.le_refl _
  ·rw [if_neg e] at hv
   obtain⟨⟨y,hy,h1⟩,h2⟩:=h.2 v d hv
   refine⟨⟨y,List.mem_append_left _ hy,h1⟩,fun y hy hr' he=>?_⟩
   rcases List.mem_append.1 hy with hy | hy
   ·exact h2 y hy hr' he
   ·rw [List.mem_singleton] at hy
    subst hy
    exact absurd he.symm e
theorem Bh (p:Option Addr) (n c:Nat) (l:List Sq) (dir:Int) (w:World) (hl:Rd w 4 p n (au l)) (hi:∀ x∈l,Ii x.v/\Ii x.d) (hn:n<=1000000) :
  Calls prog 154 #[.slice p n c,.int .i64 dir] w fun e w'=>∃ b m f,m<=n/\e=.returned (.map (some b))/\Ic w w' [.map prog 3 Dt b m f]/\iX l dir f:=by
 have p1:=hl.ptr
 have l1:=hl.nQ
 have HL:=lh hl;clear hl
 have L1:=lh l1;clear l1
 have HI:=lh hi;clear hi
 have hmm:=@run_makeMap prog
 have S0:=lh ((Ic.start w).mkmap Dt (k:=3))
 go_enter func154,ntmps154
 go_wp2
 go_loopw [7,8,9,13] (fun _ _ _ i wr=>∃ (k mm:Nat) (f:Int->Option I6),k<=n/\mm<=k/\i=.int .i64 k/\Ic w wr [.map prog 3 Dt w.heap.size mm f]/\Hid (iX (l.take k) dir f)) (fun _ _ _ i _=>n - (intOf i).toNat)
 case atStart=>exact⟨0,0,_,Nat.zero_le _,Nat.le_refl _,rfl,S0.out,by rw [List.take_zero];exact yM dir⟩
 case round =>
  clear S0
  obtain⟨k,mm,f,hk,hm,rfl,S,HF⟩:=hrel
  by_cases hlt:k<n
  ·obtain⟨g1,g2,g3,g4⟩:=(HL.out.ext S.ext).cQ hlt
   have hx2:=HI.out (ae l k) (by rw [ar (by rw [<- L1.out];exact hlt)];exact List.getElem_mem _)
   obtain⟨x,hxl⟩:∃ x,ae l k=x:=⟨_,rfl⟩
   rw [hxl] at g1 g2 g3 g4 hx2
   obtain⟨hxv,hxd⟩:=hx2
   have S1:=lh (S.al #[.int .i64 x.s,.int .i64 x.r,.int .i64 x.v,.int .i64 x.d] 146 wr.heap.size rfl)
   have k1:=(S1.out.map 1 rfl).lookup_ok (t:=214) underlying3 underlying214 hxv
   have d1:(0:Int)<=k:=by omega
   have d2:(k:Int)<n:=by omega
   have ME:=lh hxl
   clear hxl S
   by_cases hr:x.r=dir
   ·have HR:=lh hr
    have e1:(x.r == dir)=true:=by simpa using hr
    clear hr
    cases hf:f x.v with
    | none =>
     have k2:(Instr.lookup 214 (.map (some w.heap.size)) (.int .i64 x.v) true).run prog (wr.alloc (.cells #[.int .i64 x.s,.int .i64 x.r,.int .i64 x.v,.int .i64 x.d] 146))=.ok (.tuple #[.int .i64 0,.bool false]) (wr.alloc (.cells #[.int .i64 x.s,.int .i64 x.r,.int .i64 x.v,.int .i64 x.d] 146)):=by rw [hf] at k1;exact k1
     have Iz:Hid (∀ d,f x.v=some d->x.d<=d.1):=fun d h=>by rw [hf] at h;cases h
     clear k1 hf
     go_wp2_with (at_mapUpdate;go_must (refine bq rfl _ _ _ _ rfl underlying3 underlying214 rfl S1.out 1 rfl (by omega) x.v ⟨x.d,hxd⟩ rfl rfl hxv ?_;intro w1 S' hg;have S2:=lh S';clear S' hg))
     go_roundw
     case rel=>exact⟨k+1,mm+1,_,by omega,by omega,by go_num,S2.out.pick [1] (by decide) rfl,by rw [ak l k (by rw [<- L1.out];exact hlt),ME.out];exact qK x ⟨x.d,hxd⟩ rfl HF.out HR.out Iz.out⟩
     case measure=>simp [intOf];omega
    | some d =>
     obtain⟨dv,hdv⟩:=d
     have k2:(Instr.lookup 214 (.map (some w.heap.size)) (.int .i64 x.v) true).run prog (wr.alloc (.cells #[.int .i64 x.s,.int .i64 x.r,.int .i64 x.v,.int .i64 x.d] 146))=.ok (.tuple #[.int .i64 dv,.bool true]) (wr.alloc (.cells #[.int .i64 x.s,.int .i64 x.r,.int .i64 x.v,.int .i64 x.d] 146)):=by rw [hf] at k1;exact k1
     by_cases hd:x.d<dv
     ·have e2:decide (x.d<dv)=true:=by simpa using hd
      have Iz:Hid (∀ d,f x.v=some d->x.d<=d.1):=fun d h=>by rw [hf] at h;injection h with h;subst h;exact Int.le_of_lt hd
      clear k1 hf hd
      go_wp2_with (at_mapUpdate;go_must (refine bq rfl _ _ _ _ rfl underlying3 underlying214 rfl S1.out 1 rfl (by omega) x.v ⟨x.d,hxd⟩ rfl rfl hxv ?_;intro w1 S' hg;have S2:=lh S';clear S' hg))
      go_roundw
      case rel=>exact⟨k+1,mm+1,_,by omega,by omega,by go_num,S2.out.pick [1] (by decide) rfl,by rw [ak l k (by rw [<- L1.out];exact hlt),ME.out];exact qK x ⟨x.d,hxd⟩ rfl HF.out HR.out Iz.out⟩
      case measure=>simp [intOf];omega
     ·have e2:decide (x.d<dv)=false:=by simpa using hd
      have Iz:Hid (x.r=dir->∃ d,f x.v=some d/\d.1<=x.d):=fun _=>⟨_,hf,by show dv<=x.d;omega⟩
      clear k1 hf hd
      go_wp2
      go_roundw
      case rel=>exact⟨k+1,mm,f,by omega,by omega,by go_num,S1.out.pick [1] (by decide) rfl,by rw [ak l k (by rw [<- L1.out];exact hlt),ME.out];exact kj x HF.out Iz.out⟩
      case measure=>simp [intOf];omega
   ·have e1:(x.r == dir)=false:=by simpa using hr
    have Iz:Hid (x.r=dir->∃ d,f x.v=some d/\d.1<=x.d):=fun h=>absurd h hr
    clear hr
    cases hf:f x.v with
    | none =>
     have k2:(Instr.lookup 214 (.map (some w.heap.size)) (.int .i64 x.v) true).run prog (wr.alloc (.cells #[.int .i64 x.s,.int .i64 x.r,.int .i64 x.v,.int .i64 x.d] 146))=.ok (.tuple #[.int .i64 0,.bool false]) (wr.alloc (.cells #[.int .i64 x.s,.int .i64 x.r,.int .i64 x.v,.int .i64 x.d] 146)):=by rw [hf] at k1;exact k1
     clear k1 hf
     go_wp2
     go_roundw
     case rel=>exact⟨k+1,mm,f,by omega,by omega,by go_num,S1.out.pick [1] (by decide) rfl,by rw [ak l k (by rw [<- L1.out];exact hlt),ME.out];exact kj x HF.out Iz.out⟩
     case measure=>simp [intOf];omega
    | some d =>
     obtain⟨dv,hdv⟩:=d
     have k2:(Instr.lookup 214 (.map (some w.heap.size)) (.int .i64 x.v) true).run prog (wr.alloc (.cells #[.int .i64 x.s,.int .i64 x.r,.int .i64 x.v,.int .i64 x.d] 146))=.ok (.tuple #[.int .i64 dv,.bool true]) (wr.alloc (.cells #[.int .i64 x.s,.int .i64 x.r,.int .i64 x.v,.int .i64 x.d] 146)):=by rw [hf] at k1;exact k1
     clear k1 hf
     go_wp2
     go_roundw
     case rel=>exact⟨k+1,mm,f,by omega,by omega,by go_num,S1.out.pick [1] (by decide) rfl,by rw [ak l k (by rw [<- L1.out];exact hlt),ME.out];exact kj x HF.out Iz.out⟩
     case measure=>simp [intOf];omega
  ·obtain rfl:k=n:=by omega
   have SH:=lh S;clear S
   go_wp2
   go_ret
   exact⟨_,mm,f,hm,rfl,SH.out,by have:=HF.out;rw [List.take_of_length_le (by rw [<- L1.out];omega)] at this;exact this⟩
end
section
open Go Go.RowKit Go.Maps
def nk (l:List Sq) (s:Int):Prop:=∃ x∈l,∃ y∈l,x.r=0/\y.r=1/\x.v=y.v/\x.d+y.d=s
def iP (l:List Sq) (b:Bool) (d:Int):Prop:=(b=false->d=0/\∀ s,¬ nk l s)/\(b=true->nk l d/\∀ s,nk l s->d<=s)
theorem vJ {l:List Sq} {b b':Bool} {d d':Int} (h:iP l b d) (h':iP l b' d'):b=b'/\d=d':=by
 cases b with
 | false =>
  obtain⟨h1,h2⟩:=h.1 rfl
  cases b' with
  | false=>exact⟨rfl,h1.trans (h'.1 rfl).1.symm⟩
  | true=>exact absurd (h'.2 rfl).1 (h2 _)
 | true =>
  obtain⟨h1,h2⟩:=h.2 rfl
  cases b' with
  | false=>exact absurd h1 ((h'.1 rfl).2 _)
  | true =>
   obtain⟨h3,h4⟩:=h'.2 rfl
   have:=h2 _ h3
   have:=h4 _ h1
   exact⟨rfl,by omega⟩
def gY (f g:Int->Option I6) (on:Int->Bool) (b:Bool) (d:Int):Prop :=
 (b=false->d=0/\∀ v x y,on v=true->f v=some x->g v=some y->False) /\
 (b=true->(∃ v x y,f v=some x/\g v=some y/\y.1+x.1=d)/\∀ v x y,on v=true->f v=some x->g v=some y->d<=y.1+x.1)
theorem yS {l:List Sq} {f g:Int->Option I6} {on:Int->Bool} {b:Bool} {d:Int} (hf:iX l 1 f) (hg:iX l 0 g) (hon:∀ v,(g v).isSome=true->on v=true) (h:gY f g on b d):iP l b d:=by
 have key:∀ s,nk l s->∃ v x y,on v=true/\f v=some x/\g v=some y/\y.1+x.1<=s:=by
  rintro s ⟨x,hx,y,hy,h1,h2,h3,rfl⟩
  cases e1:f x.v with
  | none=>exact absurd h3.symm (hf.1 _ e1 y hy h2)
  | some u =>
   cases e2:g x.v with
   | none=>exact absurd rfl (hg.1 _ e2 x hx h1)
   | some t =>
    have k1:=(hf.2 _ u e1).2 y hy h2 h3.symm
    have k2:=(hg.2 _ t e2).2 x hx h1 rfl
    exact⟨x.v,u,t,hon _ (by rw [e2];rfl),e1,e2,by omega⟩
 refine⟨fun hb=>⟨(h.1 hb).1,fun s hs=>?_⟩,fun hb=>⟨?_,fun s hs=>?_⟩⟩
 ·obtain⟨v,x,y,h1,h2,h3,_⟩:=key s hs
  exact(h.1 hb).2 v x y h1 h2 h3
 ·obtain⟨v,x,y,h1,h2,h3⟩:=(h.2 hb).1
  obtain⟨p,hp,p1,p2,p3⟩:=(hf.2 _ x h1).1
  obtain⟨q,hq,q1,q2,q3⟩:=(hg.2 _ y h2).1
  exact⟨q,hq,p,hp,q1,p1,by rw [q2,p2],by rw [q3,p3];exact h3⟩
 ·obtain⟨v,x,y,h1,h2,h3,h4⟩:=key s hs
  have:=(h.2 hb).2 v x y h1 h2 h3
  omega
theorem vL {f g:Int->Option I6} {on on':Int->Bool} {b:Bool} {d:Int} {v:Int} (h:gY f g on b d) (ho:∀ u,on' u=true->u=v\/on u=true) (hv:f v=none):gY f g on' b d:=by
 refine⟨fun hb=>⟨(h.1 hb).1,fun u x y h1 h2 h3=>?_⟩,fun hb=>⟨(h.2 hb).1,fun u x y h1 h2 h3=>?_⟩⟩
 ·rcases ho u h1 with e | e
  ·subst e;rw [hv] at h2;cases h2
  ·exact(h.1 hb).2 u x y e h2 h3
 ·rcases ho u h1 with e | e
  ·subst e;rw [hv] at h2;cases h2
  ·exact(h.2 hb).2 u x y e h2 h3
theorem vK {f g:Int->Option I6} {on on':Int->Bool} {d:Int} {v:Int} {x y:I6} (h:gY f g on true d) (ho:∀ u,on' u=true->u=v\/on u=true) (hf:f v=some x) (hg:g v=some y) (hd:d<=y.1+x.1):gY f g on' true d:=by
 refine⟨fun hb=>(by cases hb),fun hb=>⟨(h.2 hb).1,fun u x' y' h1 h2 h3=>?_⟩⟩
 rcases ho u h1 with e | e
 ·subst e
  rw [hf] at h2;rw [hg] at h3
  injection h2 with h2;injection h3 with h3
  subst h2 h3
  exact hd
 ·exact(h.2 hb).2 u x' y' e h2 h3
theorem qN {f g:Int->Option I6} {on on':Int->Bool} {b:Bool} {d:Int} {v:Int} {x y:I6} (h:gY f g on b d) (ho:∀ u,on' u=true->u=v\/on u=true) (hf:f v=some x) (hg:g v=some y) (hd:b=true->y.1+x.1<=d):gY f g on' true (y.1+x.1):=by
 refine⟨fun hb=>(by cases hb),fun _=>⟨⟨v,x,y,hf,hg,rfl⟩,fun u x' y' h1 h2 h3=>?_⟩⟩
 rcases ho u h1 with e | e
 ·subst e
  rw [hf] at h2;rw [hg] at h3
  injection h2 with h2;injection h3 with h3
  subst h2 h3
  exact Int.le_refl _
 ·cases b with
  | false=>exact((h.1 rfl).2 u x' y' e h2 h3).elim
  | true=>have:=(h.2 rfl).2 u x' y' e h2 h3;have:=hd rfl;omega
end
theorem Ic.weak {w0 w:World} {Γ Δ:List Pc} (S:Ic w0 w Γ) (hl:Δ.length=Γ.length) (h:∀ (i:Nat) p q,Γ[i]?=some p->Δ[i]?=some q->p.holds w->q.holds w/\∀ k,q.foot k->p.foot k):Ic w0 w Δ:=by
 have key:∀ (i:Nat) (q:Pc),Δ[i]?=some q->∃ p,Γ[i]?=some p/\p∈Γ/\q.holds w/\∀ k,q.foot k->p.foot k:=fun i q hq=>by
  have hi:=(List.getElem?_eq_some_iff.1 hq).1
  have hp:Γ[i]?=some Γ[i]:=List.getElem?_eq_getElem (by omega)
  have hm:Γ[i]∈Γ:=List.getElem_mem _
  exact⟨_,hp,hm,h i _ q hp hq (S.all _ hm)⟩
 refine⟨S.ext,fun q hq=>?_,fun q hq k hk=>?_,?_⟩
 ·obtain⟨i,hi,rfl⟩:=List.mem_iff_getElem.1 hq
  obtain⟨p,_,_,h1,_⟩:=key i _ (List.getElem?_eq_getElem hi)
  exact h1
 ·obtain⟨i,hi,rfl⟩:=List.mem_iff_getElem.1 hq
  obtain⟨p,_,hm,_,h2⟩:=key i _ (List.getElem?_eq_getElem hi)
  exact S.new p hm k (h2 k hk)
 ·rw [List.pairwise_iff_getElem]
  intro a b ha hb hab k hka hkb
  obtain⟨p,hp,_,_,h2⟩:=key a _ (List.getElem?_eq_getElem ha)
  obtain⟨p',hp',_,_,h2'⟩:=key b _ (List.getElem?_eq_getElem hb)
  exact S.apart_at hp hp' (by omega) (h2 k hka) (h2' k hkb)
section
open Go Go.RowKit Go.Maps
def Pc.mapR (b:Nat) (es:Array MapEntry) (clock:Nat):Pc :=
 ⟨fun i=>i=b,fun w=>w.heap[b]?=some (.map es clock),fun w h i hi=>by subst hi;exact(Array.getElem?_eq_some_iff.1 h).1,fun _ _ h hi=>(hi b rfl).trans h⟩
theorem Ic.head {w0 w:World} {Γ:List Pc} {p q:Pc} (S:Ic w0 w (p :: Γ)) (h:q.holds w) (hf:∀ k,q.foot k->p.foot k):Ic w0 w (q :: Γ) :=
 S.weak rfl fun i p' q' h1 h2 h3=>by
  cases i with
  | zero =>
   simp at h1 h2
   subst h1 h2
   exact⟨h,hf⟩
  | succ i =>
   simp at h1 h2
   rw [h1] at h2
   injection h2 with h2
   subst h2
   exact⟨h3,fun k hk=>hk⟩
theorem Dc {g:Int->Option I6} {left:Int->Bool} {x u:Int} (h:((g u).isSome && !(left u && u != x))=true):u=x\/((g u).isSome && !left u)=true:=by
 by_cases e:u=x
 ·exact .inl e
 ·have e2:(u != x)=true:=by simpa using e
  rw [e2,Bool.and_true] at h
  exact .inr h
theorem Ff {w0 w:World} {p:Pc} {Γ:List Pc} {b:Nat} {es:Array MapEntry} {clock:Nat} (S:Ic w0 w (p :: .mapR b es clock :: Γ)):w.heap[b]?=some (.map es clock):=S.all (.mapR b es clock) (by simp)
theorem tK (f g:Int->Option I6):gY f g (fun v=>(g v).isSome && !(g v).isSome) false 0:=⟨fun _=>⟨rfl,fun v _ _ h=>(by cases hg:g v <;> simp [hg] at h)⟩,fun h=>(by cases h)⟩
theorem tI {l:List Sq} {dir:Int} {f:Int->Option I6} (h:iX l dir f) (hb:∀ x∈l,-1000000<=x.d/\x.d<=1000000) {v:Int} {d:I6} (hf:f v=some d):-1000000<=d.1/\d.1<=1000000:=by
 obtain⟨x,hx,_,_,h3⟩:=(h.2 v d hf).1
 rw [<- h3];exact hb x hx
theorem EP (p:Option Addr) (n c:Nat) (l:List Sq) (w:World) (hl:Rd w 4 p n (au l)) (hi:∀ x∈l,Ii x.v/\Ii x.d) (hb:∀ x∈l,-1000000<=x.d/\x.d<=1000000) (hn:n<=1000000) :
  Calls prog 153 #[.slice p n c] w fun e w'=>∃ b d,e=.returned (.agg #[.bool b,.int .i64 d,.slice none 0 0])/\Ext w w'/\iP l b d:=by
 have Pq:=lh (fun dir W (h:Ext w W)=>Bh p n c l dir W (hl.ext h) hi hn)
 have JW:=lh hb
 have S0:=lh (((Ic.start w).al #[.bool false,.int .i64 0,.slice none 0 0] 34 w.heap.size rfl).al #[.bool false,.int .i64 0,.slice none 0 0] 34 (w.heap.size+1) (by simp))
 clear hl hi hb
 go_enter func153,ntmps153
 go_wp2_with (first
  | (at_range;go_must (refine eL rfl _ _ rfl underlying3 underlying214 rfl HB2.out Ms.out HS2.out IU.out S2.out w2.heap.size rfl ?_;intro w3 since seen c0 cnt S' R hsz he;have S3:=lh S';have HR:=lh R;clear S' R he hsz))
  | (go_at_call 154;have _t:=S1;go_must (refine(Pq.out _ _ S1.out.ext).mono ?_;rintro e w2 ⟨b2,m2,g,hm2,rfl,Z,hg⟩;have HG:=lh hg;have S2':=S1.out.comp Z;obtain⟨es,clock,hx1,hx2,hx3,hx4⟩:=(S2'.map 0 rfl).raw;have HB2:=lh hx1;have Ms:=lh hx2;have HS2:=lh hx3;have IU:=lh hx4;have S2:=lh (Ic.head (q:=Pc.mapR b2 es clock) S2' hx1 fun k h=>h);clear S2' Z hg hx1 hx2 hx3 hx4))
  | (go_at_call 154;go_must (refine(Pq.out _ _ S0.out.ext).mono ?_;rintro e w1 ⟨b1,m1,f,hm1,rfl,Z,hf⟩;have HF:=lh hf;have S1:=lh (S0.out.comp Z);clear Z hf)))
 go_frame
 go_loopw [5,6,7,8] (fun _ _ _ _ wr=>∃ bb dd since seen c0 cnt left,Ic w wr [.iter w2.heap.size b2 since seen c0,.mapR b2 es clock,.map prog 3 Dt b1 m1 f,.blk (w.heap.size+1) 34 #[.bool bb,.int .i64 dd,.slice none 0 0],.blk w.heap.size 34 #[.bool false,.int .i64 0,.slice none 0 0]]/\Hid (Dy prog 3 Dt es clock since seen c0 m2 g left cnt)/\Hid (gY f g (fun v=>(g v).isSome && !left v) bb dd)) (fun _ _ _ _ wr=>wr.rangeLeft b2 w2.heap.size)
 case atStart=>exact⟨false,0,since,seen,c0,cnt,_,S3.out,HR,tK f g⟩
 case round =>
  clear S3 HR since seen c0 cnt
  obtain⟨bb,dd,since,seen,c0,cnt,left,S,HR,HM⟩:=hrel
  have JI:Hid (wr.heap[b2]?=some (.map es clock)):=S.all _ (List.mem_of_getElem? (show _=some (Pc.mapR b2 es clock) from(rfl:_[1]?=_)))
  have SH:=lh S;clear S
  go_wp2_with (at_next;go_must (refine fi rfl _ rfl underlying3 rfl JI.out SH.out 0 rfl HR.out ?_ ?_))
  ·intro hall
   have HA:Hid (iP l bb dd):=yS HF.out HG.out (fun v hv=>by simp [hv,hall v]) HM.out
   clear hall
   have z3:=(SH.out.blk 3 rfl).lt
   have Ya:wr.cell? ⟨w.heap.size+1,0,none⟩=some (.bool bb):=(SH.out.blk 3 rfl).cell 0
   have c31:wr.cell? ⟨w.heap.size+1,1,none⟩=some (.int .i64 dd):=(SH.out.blk 3 rfl).cell 1
   have c32:wr.cell? ⟨w.heap.size+1,2,none⟩=some (.slice none 0 0):=(SH.out.blk 3 rfl).cell 2
   have z4:=(SH.out.blk 4 rfl).lt
   have c40:wr.cell? ⟨w.heap.size,0,none⟩=some (.bool false):=(SH.out.blk 4 rfl).cell 0
   have ZB:wr.cell? ⟨w.heap.size,1,none⟩=some (.int .i64 0):=(SH.out.blk 4 rfl).cell 1
   have ZC:wr.cell? ⟨w.heap.size,2,none⟩=some (.slice none 0 0):=(SH.out.blk 4 rfl).cell 2
   obtain⟨r0,r1,r2⟩:=sS (SH.out.blk 4 rfl)
   have S9:=lh (((SH.out.set 4 rfl 0 (.bool bb)).set 4 rfl 1 (.int .i64 dd)).set 4 rfl 2 (.slice none 0 0))
   obtain⟨d0,d1,d2⟩:=aw (S9.out.blk 4 rfl)
   go_wp2
   exact bodyPost_ret (v:=.agg #[.bool bb,.int .i64 dd,.slice none 0 0]) (by simp [results,results153,go_sem,d0,d1,d2,sizeOf34,isAgg34]) rfl ⟨bb,dd,rfl,S9.out.ext,HA.out⟩
  ·intro t w1 since' seen' c0' cnt' hx hl hfx S1 R1 hc hsz hb1 hg1 hen
   obtain⟨x,vv⟩:=t
   obtain⟨v,hvw⟩:=vv
   have Ox:(Instr.entry (.pointer (some ⟨w2.heap.size,0,none⟩))).run prog w1=.ok (.tuple #[.int .i64 x,.int .i64 v]) w1:=hen
   have hgx:g x=some ⟨v,hvw⟩:=hfx
   have hx':Ii x:=hx
   have hm1:wr.rangeLeft b2 w2.heap.size=cnt:=cT JI.out (SH.out.iter 0 rfl) HR.out
   have hbv:=tI HG.out JW.out hgx
   have q1:-1000000<=v:=hbv.1
   have q2:v<=1000000:=hbv.2
   have QQ:Hid (∀ u,((g u).isSome && !(left u && u != x))=true->u=x\/((g u).isSome && !left u)=true):=fun u h=>Dc h
   have TB:=lh hgx
   have Ps:=lh hm1
   have HC:=lh hc
   have z3:=(S1.blk 3 rfl).lt
   have Ya:w1.cell? ⟨w.heap.size+1,0,none⟩=some (.bool bb):=(S1.blk 3 rfl).cell 0
   have c31:w1.cell? ⟨w.heap.size+1,1,none⟩=some (.int .i64 dd):=(S1.blk 3 rfl).cell 1
   have c32:w1.cell? ⟨w.heap.size+1,2,none⟩=some (.slice none 0 0):=(S1.blk 3 rfl).cell 2
   obtain⟨r0,r1,r2⟩:=sS (S1.blk 3 rfl)
   have k1:=(S1.map 2 rfl).lookup_ok (t:=214) underlying3 underlying214 hx'
   have JZ:=lh S1;clear S1
   have HR1:=lh R1;clear R1
   clear hg1 hsz JI hen hb1 hc hm1 hgx hfx hx hx' hl hbv
   cases hf:f x with
   | none =>
    have k2:(Instr.lookup 214 (.map (some b1)) (.int .i64 x) true).run prog w1=.ok (.tuple #[.int .i64 0,.bool false]) w1:=by rw [hf] at k1;exact k1
    have Kz:Hid (gY f g (fun u=>(g u).isSome && !(left u && u != x)) bb dd):=vL HM.out QQ.out hf
    clear k1 hf
    go_wp2
    go_roundw
    case rel=>exact⟨_,_,since',seen',c0',cnt',_,JZ.out,HR1.out,Kz.out⟩
    case measure=>rw [Ps.out,cT (Ff JZ.out) (JZ.out.iter 0 rfl) HR1.out];exact HC.out
   | some yy =>
    obtain⟨y,ZQ⟩:=yy
    have k2:(Instr.lookup 214 (.map (some b1)) (.int .i64 x) true).run prog w1=.ok (.tuple #[.int .i64 y,.bool true]) w1:=by rw [hf] at k1;exact k1
    have hby:=tI HF.out JW.out hf
    have q3:-1000000<=y:=hby.1
    have q4:y<=1000000:=hby.2
    have Md:=lh hf
    clear k1 hf hby
    cases bb with
    | false =>
     have Kz:Hid (gY f g (fun u=>(g u).isSome && !(left u && u != x)) true (v+y)):=qN HM.out QQ.out Md.out TB.out (fun h=>by cases h)
     go_wp2
     have S5:=lh (((JZ.out.set 3 rfl 0 (.bool true)).set 3 rfl 1 (.int .i64 (v+y))).set 3 rfl 2 (.slice none 0 0))
     go_roundw
     case rel=>exact⟨true,v+y,since',seen',c0',cnt',_,S5.out,HR1.out,Kz.out⟩
     case measure=>rw [Ps.out,cT (Ff S5.out) (S5.out.iter 0 rfl) HR1.out];exact HC.out
    | true =>
     by_cases hd:v+y<dd
     ·have Kz:Hid (gY f g (fun u=>(g u).isSome && !(left u && u != x)) true (v+y)):=qN HM.out QQ.out Md.out TB.out (fun _=>by show v+y<=dd;omega)
      have e1:decide (v+y<dd)=true:=by simpa using hd
      clear hd
      go_wp2
      have S5:=lh (((JZ.out.set 3 rfl 0 (.bool true)).set 3 rfl 1 (.int .i64 (v+y))).set 3 rfl 2 (.slice none 0 0))
      go_roundw
      case rel=>exact⟨true,v+y,since',seen',c0',cnt',_,S5.out,HR1.out,Kz.out⟩
      case measure=>rw [Ps.out,cT (Ff S5.out) (S5.out.iter 0 rfl) HR1.out];exact HC.out
     ·have Kz:Hid (gY f g (fun u=>(g u).isSome && !(left u && u != x)) true dd):=vK HM.out QQ.out Md.out TB.out (by show dd<=v+y;omega)
      have e1:decide (v+y<dd)=false:=by simpa using hd
      clear hd
      go_wp2
      go_roundw
      case rel=>exact⟨_,_,since',seen',c0',cnt',_,JZ.out,HR1.out,Kz.out⟩
      case measure=>rw [Ps.out,cT (Ff JZ.out) (JZ.out.iter 0 rfl) HR1.out];exact HC.out
end
theorem EO (g:Nat) (x:Sq) (r:Int) (w:World) (hB:Ih w g 3 #[.int .i64 r]):Calls prog 152 #[.agg #[.int .i64 x.s,.int .i64 x.r,.int .i64 x.v,.int .i64 x.d],.pointer (some ⟨g,0,none⟩)] w fun e w'=>e=.returned (.bool (x.r == r))/\Ext w w':=by
 have b0:w.cell? ⟨g,0,none⟩=some (.int .i64 r):=hB.cell 0
 have bz:=hB.lt
 have HE:=lh ((Ic.start w).al #[.int .i64 x.s,.int .i64 x.r,.int .i64 x.v,.int .i64 x.d] 138 w.heap.size rfl).ext
 clear hB
 go_enter func152,ntmps152
 go_wp2
 go_ret
 exact⟨rfl,HE.out⟩
theorem zV (p:Option Addr) (n c g:Nat) (l:List Sq) (r:Int) (w:World) (hl:Rd w 4 p n (au l)) (hB:Ih w g 3 #[.int .i64 r]) :
  Calls prog 210 #[.slice p n c,.func (.func 152) #[] #[.pointer (some ⟨g,0,none⟩)]] w fun e w'=>∃ i:Int,e=.returned (.int .i64 i)/\decide (0<=i)=fg l r/\Ext w w':=by
 have p1:=hl.ptr
 have n1:=hl.small
 have l1:=hl.nQ
 have HL:=lh hl;clear hl
 have L1:=lh l1;clear l1
 have HB:=lh hB;clear hB
 go_enter func210,ntmps210
 go_wp2
 go_loopw [5,8] (fun _ i wr=>∃ k:Nat,k<=n/\i=.int .i64 k/\(l.take k).any (fun x=>x.r == r)=false/\Ext w wr) (fun _ i _=>n - (intOf i).toNat)
 case atStart=>exact⟨0,Nat.zero_le _,rfl,rfl,Below.refl _ _⟩
 case round =>
  obtain⟨k,hk,rfl,ha,hE⟩:=hrel
  have HA:=lh ha;clear ha
  by_cases hlt:k<n
  ·obtain⟨g1,g2,g3,g4⟩:=(HL.out.ext hE).cQ hlt
   have HC:=lh (fun x=>EO g x r wr (HB.out.ext hE))
   have hkl:k<l.length:=by rw [<- L1.out];exact hlt
   have Ml:=lh (cW (fun x:Sq=>x.r == r) l k hkl)
   have HST:=lh (eP (fun x:Sq=>x.r == r) l k hkl HA.out)
   have d1:(0:Int)<=k:=by omega
   have d2:(k:Int)<n:=by omega
   have HE:=lh hE;clear hE
   clear hkl
   generalize ae l k=x at *
   by_cases hw:x.r=r
   ·have e1:(x.r == r)=true:=by simpa using hw
    have HF:=lh (Ml.out e1)
    have IY:=HC.out x
    rw [e1] at IY
    have L8:=lh IY
    clear HST Ml IY e1 hw
    go_wp2_with (go_at_call 152;go_must (refine L8.out.mono ?_;rintro e w' ⟨rfl,hb⟩;have HX:=lh (Ext.trans HE.out hb);clear hb))
    go_ret
    exact⟨_,rfl,by unfold fg;rw [HF.out];simp,HX.out⟩
   ·have e1:(x.r == r)=false:=by simpa using hw
    have HF:=lh (HST.out e1)
    have IY:=HC.out x
    rw [e1] at IY
    have L8:=lh IY
    clear HST Ml IY e1 hw
    go_wp2_with (go_at_call 152;go_must (refine L8.out.mono ?_;rintro e w' ⟨rfl,hb⟩;have HX:=lh (Ext.trans HE.out hb);clear hb))
    go_roundw
    case rel=>exact⟨k+1,by omega,by go_num,HF.out,HX.out⟩
    case measure=>simp [intOf];omega
  ·have HF:=lh (gE _ _ _ (by rw [<- L1.out];exact hlt) HA.out)
   have HE:=lh hE;clear hE
   go_wp2
   go_ret
   exact⟨_,rfl,by unfold fg;rw [HF.out];rfl,HE.out⟩
theorem su (p:Option Addr) (n c g:Nat) (l:List Sq) (r:Int) (w:World) (hl:Rd w 4 p n (au l)) (hB:Ih w g 3 #[.int .i64 r]) :
  Calls prog 144 #[.slice p n c,.func (.func 152) #[] #[.pointer (some ⟨g,0,none⟩)]] w fun e w'=>e=.returned (.bool (fg l r))/\Ext w w':=by
 have HC:=lh (zV p n c g l r w hl hB)
 clear hl hB
 go_enter func144,ntmps144
 go_wp2_with (go_at_call 210;refine HC.out.mono ?_;rintro e w' ⟨i,rfl,hi,hb⟩;have HI:=lh hi;have HX:=lh hb;clear hi hb)
 go_ret
 exact⟨aq HI.out,HX.out⟩
theorem Hh (gm:Nat) (p:Option Addr) (n c:Nat) (l:List Sq) (r:Int) (w:World) (hl:Rd w 4 p n (au l)) (hM:Ih w gm 83 #[.slice p n c]) :
  Calls prog 151 #[.int .i64 r,.pointer (some ⟨gm,0,none⟩)] w fun e w'=>e=.returned (.bool (fg l r))/\Ext w w':=by
 have b0:w.cell? ⟨gm,0,none⟩=some (.slice p n c):=hM.cell 0
 have bz:=hM.lt
 have S0:=lh ((Ic.start w).al #[.int .i64 r] 3 w.heap.size rfl)
 have HC:=lh (su p n c w.heap.size l r _ (hl.ext S0.out.ext) (S0.out.blk 0 rfl))
 clear hl hM
 go_enter func151,ntmps151
 go_wp2_with (go_at_call 144;refine HC.out.mono ?_;rintro e w' ⟨rfl,hb⟩;have HX:=lh (Ext.trans S0.out.ext hb);clear hb)
 go_ret
 exact⟨rfl,HX.out⟩
theorem qQ {Q:Exit->Act->World->Prop} (d:Option Nat) (v:Value):∀ (c:List PanicEntry) (a:Act) (w:World),NoPanic Q (.panic c) (a.put d v) w->NoPanic Q (.panic c) a w:=fun _ _ _ h=>h.elim
theorem br {P:Program} {ops:Array Oper} {Q:Exit->Act->World->Prop} {md:Region.Mode} {S:World->Prop} {oi:Oper} {fuel:Nat} {listed:Array Bool} {a:Act} {w:World} (i:Nat) (v:Value) (hi:ops[i]?=some oi)
  (hv:∀ W,S W->(execOp a.eval oi).run P W=.ok (.value v) W) (hS:S w) (h:wpAnyH P md ops (NoPanic Q) S fuel (listed.setIfInBounds i true) (a.put oi.dst v) w)
  (hs:Region.noSelect ops=true:=by kernel_rfl) (hf:Region.free md ops listed i=true:=by kernel_rfl) (hr:(Region.ready md ops listed).contains i=true:=by kernel_rfl) (hw:Region.wanted oi (yielded ops a.tmps)=true:=by kernel_rfl):wpAnyH P md ops (NoPanic Q) S (fuel+1) listed a w :=
 wpAnyH_take hi hs hf hr (qQ _ _) (Or.inl ⟨hw,hv⟩) hS h
theorem zF {P:Program} {ops:Array Oper} {Q:Exit->Act->World->Prop} {md:Region.Mode} {S:World->Prop} {oi:Oper} {fuel:Nat} {listed:Array Bool} {a:Act} {w:World} (i:Nat) (hi:ops[i]?=some oi)
  (hS:S w) (h:wpAnyH P md ops (NoPanic Q) S fuel (listed.setIfInBounds i true) (a.put oi.dst undef) w)
  (hs:Region.noSelect ops=true:=by kernel_rfl) (hf:Region.free md ops listed i=true:=by kernel_rfl) (hr:(Region.ready md ops listed).contains i=true:=by kernel_rfl) (hw:Region.wanted oi (yielded ops a.tmps)=false:=by kernel_rfl):wpAnyH P md ops (NoPanic Q) S (fuel+1) listed a w :=
 wpAnyH_take hi hs hf hr (qQ _ _) (Or.inr ⟨hw,rfl⟩) hS h
theorem bm {Q:Exit->Act->World->Prop} {a:Act} {w:World} (h:Q .normal a w):NoPanic Q .normal a w:=h
theorem Fm (f t:Int) (pw:Option Addr) (nw cw:Nat) (rad most:Int) (pl:Option Addr) (nl cl:Nat) (p:Option Addr) (n c:Nat) (l:List Sq) (pm:Option Addr) (nm cm:Nat) (M:List Sq) (w:World) (hl:Rd w 4 p n (au l)) (hM:Rd w 4 pm nm (au M)) (hi:∀ x∈l,Ii x.v/\Ii x.d) (hb:∀ x∈l,-1000000<=x.d/\x.d<=1000000) (hn:n<=1000000) :
  Calls prog 95 #[.agg #[.int .i64 1,.int .i64 f,.int .i64 t,.slice pw nw cw,.int .i64 rad,.int .i64 most],.slice pl nl cl,.slice p n c,.slice pm nm cm] w fun e w'=>∃ b d,e=.returned (.tuple #[.agg #[.bool b,.int .i64 d,.slice none 0 0],.bool (b || !fg M 0 || !fg M 1)])/\Ext w w'/\iP l b d:=by
 have S0:=lh ((((Ic.start w).al #[.int .i64 1,.int .i64 f,.int .i64 t,.slice pw nw cw,.int .i64 rad,.int .i64 most] 24 w.heap.size rfl).al #[.slice pm nm cm] 83 (w.heap.size+1) (by simp)).al #[.bool false,.int .i64 0,.slice none 0 0] 34 (w.heap.size+1+1) (by simp))
 have QP:=lh (fun W (h:Ext w W)=>EP p n c l W (hl.ext h) hi hb hn)
 have T9:=lh hM
 clear hl hM hi hb
 go_enter func95,ntmps95
 go_wp2_with (go_at_call 153;go_must (refine(QP.out _ S0.out.ext).mono ?_;rintro e w1 ⟨b,d,rfl,hE,hA⟩;have HA:=lh hA;have S1:=lh (S0.out.call hE);clear hE hA))
 obtain⟨X,hX⟩:∃ X,X=w1.alloc (.cells #[.bool b,.int .i64 d,.slice none 0 0] 34):=⟨_,rfl⟩
 have S4:=lh (hX ▸ S1.out.al #[.bool b,.int .i64 d,.slice none 0 0] 34 w1.heap.size rfl:Ic w X _)
 rw [<- hX]
 clear hX
 have b0:X.cell? ⟨w1.heap.size,0,none⟩=some (.bool b):=(S4.out.blk 0 rfl).cell 0
 have b1:X.cell? ⟨w1.heap.size,1,none⟩=some (.int .i64 d):=(S4.out.blk 0 rfl).cell 1
 have b2:X.cell? ⟨w1.heap.size,2,none⟩=some (.slice none 0 0):=(S4.out.blk 0 rfl).cell 2
 have bz:=(S4.out.blk 0 rfl).lt
 have hne:w1.heap.size≠w.heap.size+1+1:=by have:=(S1.out.blk 0 rfl).lt;omega
 have Mi:=lh (fun r W (h:Ext w W) (hB:Ih W (w.heap.size+1) 83 #[.slice pm nm cm])=>Hh (w.heap.size+1) pm nm cm M r W (T9.out.ext h) hB)
 cases b with
 | true =>
  have HD:Hid ((true || !fg M 0 || !fg M 1)=true):=rfl
  refine wp_region_noPanic ?_
  refine wp_region_held_drew (S:=fun w'=>w'.cell? ⟨w1.heap.size,0,none⟩=some (.bool true)/\w'.cell? ⟨w1.heap.size,1,none⟩=some (.int .i64 d)/\w'.cell? ⟨w1.heap.size,2,none⟩=some (.slice none 0 0)) (by kernel_rfl) ⟨b0,b1,b2⟩ (fun hHeld=>?_)
  have SD:=lh S4.out.drew
  clear b0 b1 b2 bz S4
  generalize X.drew=D at SD hHeld ⊢
  refine br 0 (.agg #[.bool true,.int .i64 d,.slice none 0 0]) rfl (fun W hSw=>by obtain⟨h1,h2,h3⟩:=hSw;go_simp) hHeld ?_
  refine br 1 (.pointer (some ⟨w1.heap.size,0,none⟩)) rfl (fun W hSw=>by obtain⟨h1,h2,h3⟩:=hSw;go_simp) hHeld ?_
  refine br 2 (.bool true) rfl (fun W hSw=>by obtain⟨h1,h2,h3⟩:=hSw;go_simp) hHeld ?_
  refine br 3 (.bool true) rfl (fun W hSw=>by obtain⟨h1,h2,h3⟩:=hSw;go_simp) hHeld ?_
  refine zF 4 rfl hHeld ?_
  refine zF 5 rfl hHeld ?_
  refine zF 6 rfl hHeld ?_
  refine br 7 (.bool true) rfl (fun W hSw=>by obtain⟨h1,h2,h3⟩:=hSw;go_simp) hHeld ?_
  refine br 8 (.bool true) rfl (fun W hSw=>by obtain⟨h1,h2,h3⟩:=hSw;go_simp) hHeld ?_
  refine zF 9 rfl hHeld ?_
  refine zF 10 rfl hHeld ?_
  refine zF 11 rfl hHeld ?_
  refine br 12 (.bool true) rfl (fun W hSw=>by obtain⟨h1,h2,h3⟩:=hSw;go_simp) hHeld ?_
  obtain⟨a0,a1,a2,az,f0,f1,f2⟩:=ag (SD.out.blk 1 rfl)
  have S9:=lh (((SD.out.set 1 rfl 0 (.bool true)).set 1 rfl 1 (.int .i64 d)).set 1 rfl 2 (.slice none 0 0))
  refine wpAnyH_ready (rs:=[13]) (by kernel_rfl) (by simp) (AllReadyH.cons rfl (fun K hK=>?_) AllReadyH.nil)
  go_simp
  obtain⟨c0,c1,c2⟩:=aw (S9.out.blk 0 rfl)
  refine hK.out _ _ ⟨c0,c1,c2⟩ (fun hHeld=>?_)
  clear hK
  refine br 14 (.bool true) rfl (fun W hSw=>by obtain⟨h1,h2,h3⟩:=hSw;go_simp) hHeld ?_
  refine wpAnyH_done (by kernel_rfl) ?_ _
  refine bm ?_
  obtain⟨x0,x1,x2⟩:=aw (S9.out.blk 1 rfl)
  go_wp2
  exact bodyPost_ret (v:=.tuple #[.agg #[.bool true,.int .i64 d,.slice none 0 0],.bool true]) (by simp [results,results95,go_sem,x0,x1,x2,sizeOf34,isAgg34]) rfl ⟨true,d,by rw [HD.out],S9.out.ext,HA.out⟩
 | false =>
  cases h0:fg M 0 with
  | false =>
   have HD:Hid ((false || !fg M 0 || !fg M 1)=true):=by rw [h0];rfl
   have NR:=Mi.out 0
   rw [h0] at NR
   have H0:=lh NR
   clear NR h0 Mi
   refine wp_region_noPanic ?_
   refine wp_region_held_drew (S:=fun w'=>w'.cell? ⟨w1.heap.size,0,none⟩=some (.bool false)/\w'.cell? ⟨w1.heap.size,1,none⟩=some (.int .i64 d)/\w'.cell? ⟨w1.heap.size,2,none⟩=some (.slice none 0 0)) (by kernel_rfl) ⟨b0,b1,b2⟩ (fun hHeld=>?_)
   have SD:=lh S4.out.drew
   clear b0 b1 b2 bz S4
   generalize X.drew=D at SD hHeld ⊢
   refine br 0 (.agg #[.bool false,.int .i64 d,.slice none 0 0]) rfl (fun W hSw=>by obtain⟨h1,h2,h3⟩:=hSw;go_simp) hHeld ?_
   refine br 1 (.pointer (some ⟨w1.heap.size,0,none⟩)) rfl (fun W hSw=>by obtain⟨h1,h2,h3⟩:=hSw;go_simp) hHeld ?_
   refine br 2 (.bool false) rfl (fun W hSw=>by obtain⟨h1,h2,h3⟩:=hSw;go_simp) hHeld ?_
   refine br 3 (.bool false) rfl (fun W hSw=>by obtain⟨h1,h2,h3⟩:=hSw;go_simp) hHeld ?_
   refine br 4 (.func (.func 151) #[] #[.pointer (some ⟨w.heap.size+1,0,none⟩)]) rfl (fun W hSw=>by obtain⟨h1,h2,h3⟩:=hSw;go_simp) hHeld ?_
   refine wpAnyH_ready (rs:=[5]) (by kernel_rfl) (by simp) (AllReadyH.cons rfl (fun K hK=>?_) AllReadyH.nil)
   go_simp
   refine(H0.out _ SD.out.ext (SD.out.blk 2 rfl)).mono ?_
   rintro e w5 ⟨rfl,hx⟩
   have S5:=lh (SD.out.call hx)
   clear hx
   obtain⟨c0,c1,c2⟩:=aw (S5.out.blk 0 rfl)
   refine hK.out _ _ ⟨c0,c1,c2⟩ (fun hHeld=>?_)
   clear hK c0 c1 c2
   refine br 6 (.bool true) rfl (fun W hSw=>by obtain⟨h1,h2,h3⟩:=hSw;go_simp) hHeld ?_
   refine br 7 (.bool true) rfl (fun W hSw=>by obtain⟨h1,h2,h3⟩:=hSw;go_simp) hHeld ?_
   refine br 8 (.bool true) rfl (fun W hSw=>by obtain⟨h1,h2,h3⟩:=hSw;go_simp) hHeld ?_
   refine zF 9 rfl hHeld ?_
   refine zF 10 rfl hHeld ?_
   refine zF 11 rfl hHeld ?_
   refine br 12 (.bool true) rfl (fun W hSw=>by obtain⟨h1,h2,h3⟩:=hSw;go_simp) hHeld ?_
   obtain⟨a0,a1,a2,az,f0,f1,f2⟩:=ag (S5.out.blk 1 rfl)
   have S9:=lh (((S5.out.set 1 rfl 0 (.bool false)).set 1 rfl 1 (.int .i64 d)).set 1 rfl 2 (.slice none 0 0))
   refine wpAnyH_ready (rs:=[13]) (by kernel_rfl) (by simp) (AllReadyH.cons rfl (fun K hK=>?_) AllReadyH.nil)
   go_simp
   obtain⟨c0,c1,c2⟩:=aw (S9.out.blk 0 rfl)
   refine hK.out _ _ ⟨c0,c1,c2⟩ (fun hHeld=>?_)
   clear hK
   refine br 14 (.bool true) rfl (fun W hSw=>by obtain⟨h1,h2,h3⟩:=hSw;go_simp) hHeld ?_
   refine wpAnyH_done (by kernel_rfl) ?_ _
   refine bm ?_
   obtain⟨x0,x1,x2⟩:=aw (S9.out.blk 1 rfl)
   go_wp2
   exact bodyPost_ret (v:=.tuple #[.agg #[.bool false,.int .i64 d,.slice none 0 0],.bool true]) (by simp [results,results95,go_sem,x0,x1,x2,sizeOf34,isAgg34]) rfl ⟨false,d,by rw [HD.out],S9.out.ext,HA.out⟩
  | true =>
   have NR:=Mi.out 0
   rw [h0] at NR
   have H0:=lh NR
   clear NR
   cases h1:fg M 1 with
   | false =>
    have HD:Hid ((false || !fg M 0 || !fg M 1)=true):=by unfold Hid;rw [h1];simp
    have Je:=Mi.out 1
    rw [h1] at Je
    have H1:=lh Je
    clear Je h0 h1 Mi
    refine wp_region_noPanic ?_
    refine wp_region_held_drew (S:=fun w'=>w'.cell? ⟨w1.heap.size,0,none⟩=some (.bool false)/\w'.cell? ⟨w1.heap.size,1,none⟩=some (.int .i64 d)/\w'.cell? ⟨w1.heap.size,2,none⟩=some (.slice none 0 0)) (by kernel_rfl) ⟨b0,b1,b2⟩ (fun hHeld=>?_)
    have SD:=lh S4.out.drew
    clear b0 b1 b2 bz S4
    generalize X.drew=D at SD hHeld ⊢
    refine br 0 (.agg #[.bool false,.int .i64 d,.slice none 0 0]) rfl (fun W hSw=>by obtain⟨h1,h2,h3⟩:=hSw;go_simp) hHeld ?_
    refine br 1 (.pointer (some ⟨w1.heap.size,0,none⟩)) rfl (fun W hSw=>by obtain⟨h1,h2,h3⟩:=hSw;go_simp) hHeld ?_
    refine br 2 (.bool false) rfl (fun W hSw=>by obtain⟨h1,h2,h3⟩:=hSw;go_simp) hHeld ?_
    refine br 3 (.bool false) rfl (fun W hSw=>by obtain⟨h1,h2,h3⟩:=hSw;go_simp) hHeld ?_
    refine br 4 (.func (.func 151) #[] #[.pointer (some ⟨w.heap.size+1,0,none⟩)]) rfl (fun W hSw=>by obtain⟨h1,h2,h3⟩:=hSw;go_simp) hHeld ?_
    refine wpAnyH_ready (rs:=[5]) (by kernel_rfl) (by simp) (AllReadyH.cons rfl (fun K hK=>?_) AllReadyH.nil)
    go_simp
    refine(H0.out _ SD.out.ext (SD.out.blk 2 rfl)).mono ?_
    rintro e w5 ⟨rfl,hx⟩
    have S5:=lh (SD.out.call hx)
    clear hx
    obtain⟨c0,c1,c2⟩:=aw (S5.out.blk 0 rfl)
    refine hK.out _ _ ⟨c0,c1,c2⟩ (fun hHeld=>?_)
    clear hK c0 c1 c2
    refine br 6 (.bool false) rfl (fun W hSw=>by obtain⟨h1,h2,h3⟩:=hSw;go_simp) hHeld ?_
    refine br 7 (.bool false) rfl (fun W hSw=>by obtain⟨h1,h2,h3⟩:=hSw;go_simp) hHeld ?_
    refine br 8 (.bool false) rfl (fun W hSw=>by obtain⟨h1,h2,h3⟩:=hSw;go_simp) hHeld ?_
    refine br 9 (.func (.func 151) #[] #[.pointer (some ⟨w.heap.size+1,0,none⟩)]) rfl (fun W hSw=>by obtain⟨h1,h2,h3⟩:=hSw;go_simp) hHeld ?_
    refine wpAnyH_ready (rs:=[10]) (by kernel_rfl) (by simp) (AllReadyH.cons rfl (fun K hK=>?_) AllReadyH.nil)
    go_simp
    refine(H1.out _ S5.out.ext (S5.out.blk 2 rfl)).mono ?_
    rintro e w6 ⟨rfl,hx⟩
    have S6:=lh (S5.out.call hx)
    clear hx
    obtain⟨c0,c1,c2⟩:=aw (S6.out.blk 0 rfl)
    refine hK.out _ _ ⟨c0,c1,c2⟩ (fun hHeld=>?_)
    clear hK c0 c1 c2
    refine br 11 (.bool true) rfl (fun W hSw=>by obtain⟨h1,h2,h3⟩:=hSw;go_simp) hHeld ?_
    refine br 12 (.bool true) rfl (fun W hSw=>by obtain⟨h1,h2,h3⟩:=hSw;go_simp) hHeld ?_
    obtain⟨a0,a1,a2,az,f0,f1,f2⟩:=ag (S6.out.blk 1 rfl)
    have S9:=lh (((S6.out.set 1 rfl 0 (.bool false)).set 1 rfl 1 (.int .i64 d)).set 1 rfl 2 (.slice none 0 0))
    refine wpAnyH_ready (rs:=[13]) (by kernel_rfl) (by simp) (AllReadyH.cons rfl (fun K hK=>?_) AllReadyH.nil)
    go_simp
    obtain⟨c0,c1,c2⟩:=aw (S9.out.blk 0 rfl)
    refine hK.out _ _ ⟨c0,c1,c2⟩ (fun hHeld=>?_)
    clear hK
    refine br 14 (.bool true) rfl (fun W hSw=>by obtain⟨h1,h2,h3⟩:=hSw;go_simp) hHeld ?_
    refine wpAnyH_done (by kernel_rfl) ?_ _
    refine bm ?_
    obtain⟨x0,x1,x2⟩:=aw (S9.out.blk 1 rfl)
    go_wp2
    exact bodyPost_ret (v:=.tuple #[.agg #[.bool false,.int .i64 d,.slice none 0 0],.bool true]) (by simp [results,results95,go_sem,x0,x1,x2,sizeOf34,isAgg34]) rfl ⟨false,d,by rw [HD.out],S9.out.ext,HA.out⟩
   | true =>
    have HD:Hid ((false || !fg M 0 || !fg M 1)=false):=by rw [h0,h1];rfl
    have Je:=Mi.out 1
    rw [h1] at Je
    have H1:=lh Je
    clear Je h0 h1 Mi
    refine wp_region_noPanic ?_
    refine wp_region_held_drew (S:=fun w'=>w'.cell? ⟨w1.heap.size,0,none⟩=some (.bool false)/\w'.cell? ⟨w1.heap.size,1,none⟩=some (.int .i64 d)/\w'.cell? ⟨w1.heap.size,2,none⟩=some (.slice none 0 0)) (by kernel_rfl) ⟨b0,b1,b2⟩ (fun hHeld=>?_)
    have SD:=lh S4.out.drew
    clear b0 b1 b2 bz S4
    generalize X.drew=D at SD hHeld ⊢
    refine br 0 (.agg #[.bool false,.int .i64 d,.slice none 0 0]) rfl (fun W hSw=>by obtain⟨h1,h2,h3⟩:=hSw;go_simp) hHeld ?_
    refine br 1 (.pointer (some ⟨w1.heap.size,0,none⟩)) rfl (fun W hSw=>by obtain⟨h1,h2,h3⟩:=hSw;go_simp) hHeld ?_
    refine br 2 (.bool false) rfl (fun W hSw=>by obtain⟨h1,h2,h3⟩:=hSw;go_simp) hHeld ?_
    refine br 3 (.bool false) rfl (fun W hSw=>by obtain⟨h1,h2,h3⟩:=hSw;go_simp) hHeld ?_
    refine br 4 (.func (.func 151) #[] #[.pointer (some ⟨w.heap.size+1,0,none⟩)]) rfl (fun W hSw=>by obtain⟨h1,h2,h3⟩:=hSw;go_simp) hHeld ?_
    refine wpAnyH_ready (rs:=[5]) (by kernel_rfl) (by simp) (AllReadyH.cons rfl (fun K hK=>?_) AllReadyH.nil)
    go_simp
    refine(H0.out _ SD.out.ext (SD.out.blk 2 rfl)).mono ?_
    rintro e w5 ⟨rfl,hx⟩
    have S5:=lh (SD.out.call hx)
    clear hx
    obtain⟨c0,c1,c2⟩:=aw (S5.out.blk 0 rfl)
    refine hK.out _ _ ⟨c0,c1,c2⟩ (fun hHeld=>?_)
    clear hK c0 c1 c2
    refine br 6 (.bool false) rfl (fun W hSw=>by obtain⟨h1,h2,h3⟩:=hSw;go_simp) hHeld ?_
    refine br 7 (.bool false) rfl (fun W hSw=>by obtain⟨h1,h2,h3⟩:=hSw;go_simp) hHeld ?_
    refine br 8 (.bool false) rfl (fun W hSw=>by obtain⟨h1,h2,h3⟩:=hSw;go_simp) hHeld ?_
    refine br 9 (.func (.func 151) #[] #[.pointer (some ⟨w.heap.size+1,0,none⟩)]) rfl (fun W hSw=>by obtain⟨h1,h2,h3⟩:=hSw;go_simp) hHeld ?_
    refine wpAnyH_ready (rs:=[10]) (by kernel_rfl) (by simp) (AllReadyH.cons rfl (fun K hK=>?_) AllReadyH.nil)
    go_simp
    refine(H1.out _ S5.out.ext (S5.out.blk 2 rfl)).mono ?_
    rintro e w6 ⟨rfl,hx⟩
    have S6:=lh (S5.out.call hx)
    clear hx
    obtain⟨c0,c1,c2⟩:=aw (S6.out.blk 0 rfl)
    refine hK.out _ _ ⟨c0,c1,c2⟩ (fun hHeld=>?_)
    clear hK c0 c1 c2
    refine br 11 (.bool false) rfl (fun W hSw=>by obtain⟨h1,h2,h3⟩:=hSw;go_simp) hHeld ?_
    refine br 12 (.bool false) rfl (fun W hSw=>by obtain⟨h1,h2,h3⟩:=hSw;go_simp) hHeld ?_
    obtain⟨a0,a1,a2,az,f0,f1,f2⟩:=ag (S6.out.blk 1 rfl)
    have S9:=lh (((S6.out.set 1 rfl 0 (.bool false)).set 1 rfl 1 (.int .i64 d)).set 1 rfl 2 (.slice none 0 0))
    refine wpAnyH_ready (rs:=[13]) (by kernel_rfl) (by simp) (AllReadyH.cons rfl (fun K hK=>?_) AllReadyH.nil)
    go_simp
    obtain⟨c0,c1,c2⟩:=aw (S9.out.blk 0 rfl)
    refine hK.out _ _ ⟨c0,c1,c2⟩ (fun hHeld=>?_)
    clear hK
    refine br 14 (.bool false) rfl (fun W hSw=>by obtain⟨h1,h2,h3⟩:=hSw;go_simp) hHeld ?_
    refine wpAnyH_done (by kernel_rfl) ?_ _
    refine bm ?_
    obtain⟨x0,x1,x2⟩:=aw (S9.out.blk 1 rfl)
    go_wp2
    exact bodyPost_ret (v:=.tuple #[.agg #[.bool false,.int .i64 d,.slice none 0 0],.bool false]) (by simp [results,results95,go_sem,x0,x1,x2,sizeOf34,isAgg34]) rfl ⟨false,d,by rw [HD.out],S9.out.ext,HA.out⟩
section
open Go Go.RowKit
attribute [local go_sem] Oper.semAt_some
def py (x:Int × Int):Value:=.iface 329 (.agg #[.int .i64 x.1,.int .i64 x.2])
theorem AC (a b:Int) (W:World):(Instr.typeAssert (.iface 329 (.agg #[.int .i64 a,.int .i64 b])) 20 329 true).run prog W=.ok (.tuple #[.agg #[.int .i64 a,.int .i64 b],.bool true]) W:=by kernel_rfl
theorem DL:((prog).info? 329).map (fun i=>(i.zero,i.size,i.bytes))=some (some (.agg #[.int .i64 0,.int .i64 0]),2,16):=by kernel_rfl
theorem F7 (gb:Nat) (q:Option Addr) (n c:Nat) (X:List (Int × Int)) (x:Int × Int) (m:Int) (w w0:World) (Γ:List Pc) (jb j:Nat) (S:Ic w0 w Γ) (hb:Γ[jb]?=some (.blk gb 301 #[.slice q n c,.int .i64 m])) (hj:Γ[j]?=some (.own 329 2 q n c (aj X))) (hne:jb≠j) (hn:n<=100000) :
  Calls prog 377 #[.pointer (some ⟨gb,0,none⟩),py x] w fun e w'=>e=.returned (.tuple #[])/\∃ q' c',Ic w0 w' ((Γ.set j (.own 329 2 q' (n+1) c' (aj (X ++ [x])))).set jb (.blk gb 301 #[.slice q' (n+1) c',.int .i64 m])):=by
 obtain⟨b0,bz,bf⟩:=cZ (S.blk jb hb)
 unfold py
 have TA:=AC x.1 x.2
 have SH:=lh S;clear S
 obtain⟨i0,hi0,hz0,hz1,hz2⟩:=info_parts DL
 go_enter func377,ntmps377
 go_wp2
 obtain⟨Y,hY⟩:∃ Y,Y=w.alloc (.cells #[.int .i64 x.1,.int .i64 x.2] 329):=⟨_,rfl⟩
 have S1:=lh (hY ▸ SH.out.al #[.int .i64 x.1,.int .i64 x.2] 329 w.heap.size rfl:Ic w0 Y (.blk w.heap.size 329 #[.int .i64 x.1,.int .i64 x.2] :: Γ))
 rw [<- hY]
 clear hY b0 bz bf
 obtain⟨b0,bz⟩:=fj (S1.out.blk (jb+1) hb)
 obtain⟨e0,e1,ez⟩:=aH (S1.out.blk 0 rfl)
 have S4:=lh (S1.out.alrw #[.int .i64 x.1,.int .i64 x.2] 329 2 1 Y.heap.size rfl (by decide) rfl).drew
 obtain⟨q',c',w7,hrun,S'⟩:=S4.out.appended (j+2) 297 297 329 i0 _ 2 16 underlying297 hi0 hz0 hz1 hz2 rfl (by omega) q n c (aj X) hj (some ⟨Y.heap.size,0,none⟩) 1 1 (aj [x]) (S4.out.rdx 0 rfl) (bu _) (by omega) (by omega)
 have Ov:=xj (p0:=Pc.own 329 2 (some ⟨Y.heap.size,0,none⟩) 1 1 [.int .i64 x.1,.int .i64 x.2]) (p1:=Pc.blk w.heap.size 329 #[.int .i64 x.1,.int .i64 x.2]) (a:=Pc.own 329 2 q' (n+1) c' (aj X ++ aj [x])) (fun e=>hne e.symm) hb
 obtain⟨k4,kf,kz⟩:=dC (S'.blk (jb+2) Ov)
 have S6:=lh S'
 have Ki:=lh Ov
 clear S' Ov hb hj
 refine wp_region_any (by kernel_rfl) ?_
 change wpAny _ _ _ _ _ _ _ (World.drew _)
 refine wpAny_take (i:=0) (v:=.pointer (some ⟨gb,0,none⟩)) rfl (by kernel_rfl) (by kernel_rfl) (by kernel_rfl) (fun _ _ _ h=>h) (Or.inl ⟨by rfl,fun W=>by go_simp⟩) ?_
 refine wpAny_take (i:=1) (v:=.pointer (some ⟨gb,0,none⟩)) rfl (by kernel_rfl) (by kernel_rfl) (by kernel_rfl) (fun _ _ _ h=>h) (Or.inl ⟨by rfl,fun W=>by go_simp⟩) ?_
 refine wpAny_take (i:=2) (v:=.pointer (some ⟨gb,0,none⟩)) rfl (by kernel_rfl) (by kernel_rfl) (by kernel_rfl) (fun _ _ _ h=>h) (Or.inl ⟨by rfl,fun W=>by go_simp⟩) ?_
 refine wpAny_take (i:=3) (v:=.pointer (some ⟨gb,0,none⟩)) rfl (by kernel_rfl) (by kernel_rfl) (by kernel_rfl) (fun _ _ _ h=>h) (Or.inl ⟨by rfl,fun W=>by go_simp⟩) ?_
 refine wpAny_ready (rs:=[4,5]) (by kernel_rfl) (by simp) (AllReady.cons rfl (fun K hK=>?_) (AllReady.cons rfl (fun K hK=>?_) AllReady.nil))
 ·go_simp
  refine hK _ _ ?_
  clear hK
  refine wpAny_ready (rs:=[5]) (by kernel_rfl) (by simp) (AllReady.cons rfl (fun K hK=>?_) AllReady.nil)
  go_simp
  refine hK _ _ ?_
  clear hK
  refine wpAny_ready (rs:=[6]) (by kernel_rfl) (by simp) (AllReady.cons rfl (fun K hK=>?_) AllReady.nil)
  go_simp
  refine hK _ _ ?_
  clear hK
  refine wpAny_ready (rs:=[7]) (by kernel_rfl) (by simp) (AllReady.cons rfl (fun K hK=>?_) AllReady.nil)
  rw [if_pos (by rfl)]
  refine cd (.tmp 16) (.tmp 18) 297 rfl rfl rfl hrun ?_
  refine hK _ _ ?_
  clear hK
  refine wpAny_ready (rs:=[8]) (by kernel_rfl) (by simp) (AllReady.cons rfl (fun K hK=>?_) AllReady.nil)
  go_simp
  refine hK _ _ ?_
  clear hK
  refine wpAny_ready (rs:=[9]) (by kernel_rfl) (by simp) (AllReady.cons rfl (fun K hK=>?_) AllReady.nil)
  go_simp
  refine hK _ _ ?_
  clear hK
  refine wpAny_ready (rs:=[10]) (by kernel_rfl) (by simp) (AllReady.cons rfl (fun K hK=>?_) AllReady.nil)
  go_simp
  refine hK _ _ ?_
  clear hK
  refine wpAny_done (by kernel_rfl) ?_ _
  go_end0
  refine⟨rfl,q',c',?_⟩
  have T:=S6.out.set (jb+2) Ki.out 0 (.slice q' (n+1) c')
  rw [aF]
  exact T.sub ((List.sublist_cons_self _ _).trans (List.sublist_cons_self _ _))
 ·go_simp
  refine hK _ _ ?_
  clear hK
  refine wpAny_ready (rs:=[4,6]) (by kernel_rfl) (by simp) (AllReady.cons rfl (fun K hK=>?_) (AllReady.cons rfl (fun K hK=>?_) AllReady.nil))
  ·go_simp
   refine hK _ _ ?_
   clear hK
   refine wpAny_ready (rs:=[6]) (by kernel_rfl) (by simp) (AllReady.cons rfl (fun K hK=>?_) AllReady.nil)
   go_simp
   refine hK _ _ ?_
   clear hK
   refine wpAny_ready (rs:=[7]) (by kernel_rfl) (by simp) (AllReady.cons rfl (fun K hK=>?_) AllReady.nil)
   rw [if_pos (by rfl)]
   refine cd (.tmp 16) (.tmp 18) 297 rfl rfl rfl hrun ?_
   refine hK _ _ ?_
   clear hK
   refine wpAny_ready (rs:=[8]) (by kernel_rfl) (by simp) (AllReady.cons rfl (fun K hK=>?_) AllReady.nil)
   go_simp
   refine hK _ _ ?_
   clear hK
   refine wpAny_ready (rs:=[9]) (by kernel_rfl) (by simp) (AllReady.cons rfl (fun K hK=>?_) AllReady.nil)
   go_simp
   refine hK _ _ ?_
   clear hK
   refine wpAny_ready (rs:=[10]) (by kernel_rfl) (by simp) (AllReady.cons rfl (fun K hK=>?_) AllReady.nil)
   go_simp
   refine hK _ _ ?_
   clear hK
   refine wpAny_done (by kernel_rfl) ?_ _
   go_end0
   refine⟨rfl,q',c',?_⟩
   have T:=S6.out.set (jb+2) Ki.out 0 (.slice q' (n+1) c')
   rw [aF]
   exact T.sub ((List.sublist_cons_self _ _).trans (List.sublist_cons_self _ _))
  ·go_simp
   refine hK _ _ ?_
   clear hK
   refine wpAny_ready (rs:=[4]) (by kernel_rfl) (by simp) (AllReady.cons rfl (fun K hK=>?_) AllReady.nil)
   go_simp
   refine hK _ _ ?_
   clear hK
   refine wpAny_ready (rs:=[7]) (by kernel_rfl) (by simp) (AllReady.cons rfl (fun K hK=>?_) AllReady.nil)
   rw [if_pos (by rfl)]
   refine cd (.tmp 16) (.tmp 18) 297 rfl rfl rfl hrun ?_
   refine hK _ _ ?_
   clear hK
   refine wpAny_ready (rs:=[8]) (by kernel_rfl) (by simp) (AllReady.cons rfl (fun K hK=>?_) AllReady.nil)
   go_simp
   refine hK _ _ ?_
   clear hK
   refine wpAny_ready (rs:=[9]) (by kernel_rfl) (by simp) (AllReady.cons rfl (fun K hK=>?_) AllReady.nil)
   go_simp
   refine hK _ _ ?_
   clear hK
   refine wpAny_ready (rs:=[10]) (by kernel_rfl) (by simp) (AllReady.cons rfl (fun K hK=>?_) AllReady.nil)
   go_simp
   refine hK _ _ ?_
   clear hK
   refine wpAny_done (by kernel_rfl) ?_ _
   go_end0
   refine⟨rfl,q',c',?_⟩
   have T:=S6.out.set (jb+2) Ki.out 0 (.slice q' (n+1) c')
   rw [aF]
   exact T.sub ((List.sublist_cons_self _ _).trans (List.sublist_cons_self _ _))
theorem G2 (gb:Nat) (q:Option Addr) (n c:Nat) (X:List (Int × Int)) (m:Int) (w w0:World) (Γ:List Pc) (jb j:Nat) (S:Ic w0 w Γ) (hb:Γ[jb]?=some (.blk gb 301 #[.slice q (n+1) c,.int .i64 m])) (hj:Γ[j]?=some (.own 329 2 q (n+1) c (aj X))) (hne:jb≠j) (hn:n<=100000) :
  Calls prog 376 #[.pointer (some ⟨gb,0,none⟩)] w fun e w'=>e=.returned (py (ae X n))/\Ic w0 w' ((Γ.set j (.own 329 2 q n c (aj (X.take n)))).set jb (.blk gb 301 #[.slice q n c,.int .i64 m])):=by
 have b0:w.cell? ⟨gb,0,none⟩=some (.slice q (n+1) c):=(S.blk jb hb).cell 0
 have hl:=S.rd j hj (by omega)
 have hcap:=cu (S.own j hj)
 have Xl:Hid (bv q c 0 2=q):=by
  obtain⟨g,rfl,_⟩:=cR (S.own j hj) (by omega)
  unfold Hid bv
  split
  ·rfl
  ·simp [Addr.add]
 have g1:=hl.cE (k:=n) (by omega)
 have g2:=hl.cE2 (k:=n) (by omega)
 have p1:=hl.ptr
 have IA:=hl.nE
 have d1:(0:Int)<=n:=by omega
 have d2:(n:Int)<(n:Int)+1:=by omega
 have IM:=lh IA
 clear IA
 obtain⟨x,hx0⟩:∃ x,ae X n=x:=⟨_,rfl⟩
 rw [hx0] at g1 g2 ⊢
 have HX:=lh hx0
 clear hx0
 unfold py
 clear hl
 have SH:=lh S;clear S
 go_enter func376,ntmps376
 go_wp2
 refine wp_region_noPanic ?_
 refine wp_region_held_drew (S:=fun w'=>w'.cell? ⟨gb,0,none⟩=some (.slice q (n+1) c)/\w'.cell? (be q (n*2))=some (.int .i64 x.1)/\w'.cell? (be q (n*2+1))=some (.int .i64 x.2)) (by kernel_rfl) ⟨b0,g1,g2⟩ (fun hHeld=>?_)
 have SD:=lh SH.out.drew
 clear SH b0 g1 g2
 generalize w.drew=D at SD hHeld ⊢
 refine br 0 (.pointer (some ⟨gb,0,none⟩)) rfl (fun W hSw=>by obtain⟨h1,h2,h3⟩:=hSw;go_simp) hHeld ?_
 refine br 1 (.pointer (some ⟨gb,0,none⟩)) rfl (fun W hSw=>by obtain⟨h1,h2,h3⟩:=hSw;go_simp) hHeld ?_
 refine br 2 (.pointer (some ⟨gb,0,none⟩)) rfl (fun W hSw=>by obtain⟨h1,h2,h3⟩:=hSw;go_simp) hHeld ?_
 refine br 3 (.slice q (n+1) c) rfl (fun W hSw=>by obtain⟨h1,h2,h3⟩:=hSw;go_simp) hHeld ?_
 refine br 4 (.pointer (some ⟨gb,0,none⟩)) rfl (fun W hSw=>by obtain⟨h1,h2,h3⟩:=hSw;go_simp) hHeld ?_
 refine br 5 (.pointer (some ⟨gb,0,none⟩)) rfl (fun W hSw=>by obtain⟨h1,h2,h3⟩:=hSw;go_simp) hHeld ?_
 refine br 6 (.pointer (some ⟨gb,0,none⟩)) rfl (fun W hSw=>by obtain⟨h1,h2,h3⟩:=hSw;go_simp) hHeld ?_
 refine br 7 (.slice q (n+1) c) rfl (fun W hSw=>by obtain⟨h1,h2,h3⟩:=hSw;go_simp) hHeld ?_
 refine br 8 (.int .i64 ((n:Int)+1)) rfl (fun W hSw=>by obtain⟨h1,h2,h3⟩:=hSw;go_simp) hHeld ?_
 have hw1:IntKind.i64.wrap (n:Int)=(n:Int):=IntWalk.i64_in _ (by omega)
 refine br 9 (.int .i64 (n:Int)) rfl (fun W hSw=>by obtain⟨h1,h2,h3⟩:=hSw;go_simp) hHeld ?_
 clear hw1
 refine br 10 (.pointer (some (be q (n*2)))) rfl (fun W hSw=>by obtain⟨h1,h2,h3⟩:=hSw;go_simp) hHeld ?_
 refine br 11 (.agg #[.int .i64 x.1,.int .i64 x.2]) rfl (fun W hSw=>by obtain⟨h1,h2,h3⟩:=hSw;go_simp) hHeld ?_
 refine wpAnyH_ready (rs:=[12]) (by kernel_rfl) (by simp) (AllReadyH.cons rfl (fun K hK=>?_) AllReadyH.nil)
 go_simp
 have SA:=lh (SD.out.al #[.int .i64 0,.int .i64 0] 329 D.heap.size rfl)
 obtain⟨h1,h2,h3⟩:=hHeld
 have hx:=Ext.alloc (Below.refl D.heap.size D) (.cells #[.int .i64 0,.int .i64 0] 329)
 refine hK.out _ _ ⟨Ext.cell hx h1,Ext.cell hx h2,Ext.cell hx h3⟩ (fun hHeld=>?_)
 clear hK h1 h2 h3 hx
 have S9:=lh ((SA.out.set 0 rfl 0 (.int .i64 x.1)).set 0 rfl 1 (.int .i64 x.2))
 obtain⟨k0,k1,kz,f0,f1⟩:=gF (SA.out.blk 0 rfl)
 clear SD
 generalize D.alloc (.cells #[.int .i64 0,.int .i64 0] 329)=E at *
 generalize D.heap.size=gx at *
 refine wpAnyH_ready (rs:=[13]) (by kernel_rfl) (by simp) (AllReadyH.cons rfl (fun K hK=>?_) AllReadyH.nil)
 go_simp
 have b0:((E.setCell ⟨gx,0,none⟩ (.int .i64 x.1)).setCell ⟨gx,1,none⟩ (.int .i64 x.2)).cell? ⟨gb,0,none⟩=some (.slice q (n+1) c):=(S9.out.blk (jb+1) hb).cell 0
 have hl:=S9.out.rd (j+1) hj (by omega)
 have g1:=hl.cE (k:=n) (by omega)
 have g2:=hl.cE2 (k:=n) (by omega)
 rw [HX.out] at g1 g2
 refine hK.out _ _ ⟨b0,g1,g2⟩ (fun hHeld=>?_)
 clear hK b0 g1 g2 hl
 refine wpAnyH_done (by kernel_rfl) ?_ _
 refine bm ?_
 clear hHeld k0 k1 kz f0 f1
 generalize (E.setCell ⟨gx,0,none⟩ (.int .i64 x.1)).setCell ⟨gx,1,none⟩ (.int .i64 x.2)=F at *
 go_wp2
 have b0:F.cell? ⟨gb,0,none⟩=some (.slice q (n+1) c):=(S9.out.blk (jb+1) hb).cell 0
 have hw1:IntKind.i64.wrap (n:Int)=(n:Int):=IntWalk.i64_in _ (by omega)
 have hcn:n<=c:=by omega
 have UM:¬ c<n:=by omega
 have hcp:=Xl.out
 have u0:=fun x:Ie F=>x.ext.cell b0
 refine aT [true,true,true,true,true,true,true,true,true,true,true,true,true,true] (fun _ _ _=>True) (by kernel_rfl) (by kernel_rfl) (by kernel_rfl) (fun _ _ _ _ _ h=>h) ?_
 simp only [pJ]
 repeat (go_big_quiet_step ((fail)))
 refine wpQuiet_nil ⟨trivial,fun vs G hE hkn=>?_⟩
 clear hkn
 have SG:=lh (S9.out.call hE)
 clear S9 SA hcn UM hcp hw1 u0 b0 hE
 obtain⟨k0,kz,f0⟩:=cZ (SG.out.blk (jb+1) hb)
 have SX:=lh (SG.out.set (jb+1) hb 0 (.slice q n c))
 have x0:(G.setCell ⟨gb,0,none⟩ (.slice q n c)).cell? ⟨gx,0,none⟩=some (.int .i64 x.1):=(SX.out.blk 0 rfl).cell 0
 have x1:(G.setCell ⟨gb,0,none⟩ (.slice q n c)).cell? ⟨gx,1,none⟩=some (.int .i64 x.2):=(SX.out.blk 0 rfl).cell 1
 have xz:gx<(G.setCell ⟨gb,0,none⟩ (.slice q n c)).heap.size:=(SX.out.blk 0 rfl).lt
 simp only [b8,List.length_cons,List.length_nil,Nat.zero_add,Nat.reduceAdd,List.drop_succ_cons,List.drop_zero]
 rename_i K0 HK0
 have HK:=lh HK0
 clear HK0
 go_wp2
 clear k0 kz f0 SG
 generalize G.setCell ⟨gb,0,none⟩ (.slice q n c)=Z at *
 refine HK.out _ _ ?_
 clear HK
 go_wp2
 go_ret
 refine⟨rfl,?_⟩
 have T:Ic w0 Z (Γ.set jb (.blk gb 301 #[.slice q n c,.int .i64 m])):=SX.out.sub (List.sublist_cons_self _ _)
 have hj2:(Γ.set jb (.blk gb 301 #[.slice q n c,.int .i64 m]))[j]?=some (.own 329 2 q (n+1) c (aj (X.take n) ++ aj (X.drop n))):=by
  rw [<- aF,List.take_append_drop,List.getElem?_set_ne hne];exact hj
 have hX:=IM.out
 have T2:=Ic.cut T j n hj2 (by rw [bS,List.length_take];omega) (by omega)
 rw [List.set_comm _ _ hne] at T2
 exact T2
end
theorem DC (gb : Nat) (W : World) (N : Nat) (hN : 0 < N) : (method N 328 (.pointer (some ⟨gb, 0, none⟩)) "Len").run prog W = .ok (285, .pointer (some ⟨gb, 0, none⟩)) W := by
 obtain⟨m,rfl⟩:∃ m,N=m+1:=⟨N - 1,by omega⟩
 kernel_rfl
theorem i9 (gb : Nat) (W : World) (N : Nat) (hN : 0 < N) : (method N 328 (.pointer (some ⟨gb, 0, none⟩)) "Less").run prog W = .ok (375, .pointer (some ⟨gb, 0, none⟩)) W := by
 obtain⟨m,rfl⟩:∃ m,N=m+1:=⟨N - 1,by omega⟩
 kernel_rfl
theorem iA (gb : Nat) (W : World) (N : Nat) (hN : 0 < N) : (method N 328 (.pointer (some ⟨gb, 0, none⟩)) "Swap").run prog W = .ok (378, .pointer (some ⟨gb, 0, none⟩)) W := by
 obtain⟨m,rfl⟩:∃ m,N=m+1:=⟨N - 1,by omega⟩
 kernel_rfl
theorem Ey (gb : Nat) (W : World) (N : Nat) (hN : 0 < N) : (method N 328 (.pointer (some ⟨gb, 0, none⟩)) "Push").run prog W = .ok (377, .pointer (some ⟨gb, 0, none⟩)) W := by
 obtain⟨m,rfl⟩:∃ m,N=m+1:=⟨N - 1,by omega⟩
 kernel_rfl
theorem Gc (gb : Nat) (W : World) (N : Nat) (hN : 0 < N) : (method N 328 (.pointer (some ⟨gb, 0, none⟩)) "Pop").run prog W = .ok (376, .pointer (some ⟨gb, 0, none⟩)) W := by
 obtain⟨m,rfl⟩:∃ m,N=m+1:=⟨N - 1,by omega⟩
 kernel_rfl
section
open Go Go.RowKit
attribute [local go_sem] Oper.semAt_some
def sO (gb:Nat):Value:=.iface 328 (.pointer (some ⟨gb,0,none⟩))
theorem H4 (gb:Nat) (q:Option Addr) (n c i:Nat) (X:List (Int × Int)) (mo:Int) (w w0:World) (Γ:List Pc) (jb j:Nat) (S:Ic w0 w Γ) (hb:Γ[jb]?=some (.blk gb 301 #[.slice q n c,.int .i64 mo])) (hj:Γ[j]?=some (.own 329 2 q n c (aj X))) (hne:jb≠j) (hn:n<=100000) (hi:i<n) (hu:zE mA n i X) :
  Calls prog 190 #[sO gb,.int .i64 i] w fun e w'=>e=.returned (.tuple #[])/\∃ X':List (Int × Int),X'.Perm X/\cC mA n X'/\Ic w0 w' (Γ.set j (.own 329 2 q n c (aj X'))):=by
 unfold sO
 have IA:n=X.length:=(S.rd j hj (by omega)).nE
 have IM:=lh IA
 clear IA
 have SH:=lh S;clear S
 have HU:=lh hu;clear hu
 go_enter func190,ntmps190
 go_wp2
 go_loopw [1,4] (fun v1 _ wr=>∃ (k:Nat) (Y:List (Int × Int)),k<n/\v1=.int .i64 k/\Y.Perm X/\zE mA n k Y/\Ic w0 wr (Γ.set j (.own 329 2 q n c (aj Y)))) (fun v1 _ _=>(intOf v1).toNat)
 case atStart=>exact⟨i,X,hi,rfl,List.Perm.refl _,HU.out,by rw [ll hj];exact SH.out⟩
 case round =>
  clear SH HU
  obtain⟨k,Y,hk,rfl,hp,hu,S⟩:=hrel
  have HP:=lh hp
  have HU:=lh hu
  have IV:Hid (Y.length=n):=by unfold Hid;rw [hp.length_eq];exact IM.out.symm
  have hb2:=(List.getElem?_set_ne (l:=Γ) (a:=Pc.own 329 2 q n c (aj Y)) (i:=j) (j:=jb) (by omega)).trans hb
  have hj2:=dg (q:=Pc.own 329 2 q n c (aj Y)) hj
  have HB2:=lh hb2
  have ML:=fun N hN=>i9 gb wr N hN
  by_cases h0:k=0
  ·subst h0
   have HE:=lh (si hu (.inl rfl))
   have SH:=lh S;clear S
   clear hp hu hb2 hj2
   go_wp2
   go_end0
   exact⟨rfl,Y,HP.out,HE.out,SH.out⟩
  ·obtain⟨p,Km⟩:∃ p,(k - 1) / 2=p:=⟨_,rfl⟩
   have hpk:p<k:=by omega
   have e1:((k:Int) - 1).tdiv 2=(p:Int):=by
    rw [Int.tdiv_eq_ediv_of_nonneg (by omega)];omega
   have e2:((p:Int) == (k:Int))=false:=by simp;omega
   have hL:=mp gb q n c mo Y k p wr (S.blk jb hb2) (S.rd j hj2 (by omega)) hk (by omega)
   cases hlt:mA (ae Y k) (ae Y p) with
   | false =>
    rw [hlt] at hL
    have HE:=lh (si hu (.inr (by rw [Km];exact hlt)))
    have HL:=lh hL
    have SH:=lh S;clear S
    clear hp hu hb2 hj2 hL hlt Km h0
    go_wp2_with (go_at_call 375;go_must (refine HL.out.mono ?_;rintro e w5 ⟨rfl,h5⟩;have S5:=lh (SH.out.call h5);have MS:=fun N hN=>iA gb w5 N hN;clear h5))
    go_end0
    exact⟨rfl,Y,HP.out,HE.out,S5.out⟩
   | true =>
    rw [hlt] at hL
    have HE:=lh (Km ▸ xk oX (by rw [IV.out];exact Nat.le_refl _) hk (by omega) hu (by rw [Km];exact hlt):zE mA n p (bj Y k p))
    have HJ2:=lh hj2
    have Jw:=lh (cL (X:=Y) (i:=k) (j:=p) (by rw [IV.out];exact hk) (by rw [IV.out];omega))
    have HL:=lh hL
    have SH:=lh S;clear S
    clear hp hu hb2 hj2 hL hlt Km h0
    have hkp:p≠k:=by omega
    go_wp2_with (first
     | (go_at_call 378;go_must (refine(sJ gb q n c Y p k mo w5 w0 _ jb j S5.out HB2.out hne HJ2.out (by omega) hk (by omega)).mono ?_;rintro e w6 ⟨rfl,T⟩;rw [List.set_set,oZ Y hkp] at T;have S6:=lh T;clear T))
     | (go_at_call 375;go_must (refine HL.out.mono ?_;rintro e w5 ⟨rfl,h5⟩;have S5:=lh (SH.out.call h5);have MS:=fun N hN=>iA gb w5 N hN;clear h5)))
    go_roundw
    case rel=>exact⟨p,bj Y k p,by omega,rfl,Jw.out.trans HP.out,HE.out,S6.out⟩
    case measure=>simp [intOf];omega
end
section
open Go Go.RowKit
attribute [local go_sem] Oper.semAt_some
theorem F5 (gb:Nat) (q:Option Addr) (n m c:Nat) (X:List (Int × Int)) (mo:Int) (w w0:World) (Γ:List Pc) (jb j:Nat) (S:Ic w0 w Γ) (hb:Γ[jb]?=some (.blk gb 301 #[.slice q m c,.int .i64 mo])) (hj:Γ[j]?=some (.own 329 2 q m c (aj X))) (hne:jb≠j) (hm:m<=100000) (hnm:n<=m) (hu:Cm mA n 0 X) :
  Calls prog 203 #[sO gb,.int .i64 0,.int .i64 n] w fun e w'=>∃ bb,e=.returned (.bool bb)/\∃ X':List (Int × Int),X'.Perm X/\cC mA n X'/\(∀ z,n<=z->z<m->ae X' z=ae X z)/\Ic w0 w' (Γ.set j (.own 329 2 q m c (aj X'))):=by
 unfold sO
 have IA:m=X.length:=(S.rd j hj (by omega)).nE
 have IM:=lh IA
 clear IA
 have SH:=lh S;clear S
 have HU:=lh hu;clear hu
 go_enter func203,ntmps203
 go_wp2
 go_loopw [7,8,9,10] (fun v7 _ _ _ wr=>∃ (k:Nat) (Y:List (Int × Int)),k<=n/\v7=.int .i64 k/\Y.Perm X/\Cm mA n k Y/\(∀ z,n<=z->z<m->ae Y z=ae X z)/\Ic w0 wr (Γ.set j (.own 329 2 q m c (aj Y)))) (fun v7 _ _ _ _=>n - (intOf v7).toNat)
 case atStart=>exact⟨0,X,Nat.zero_le _,rfl,List.Perm.refl _,HU.out,fun _ _ _=>rfl,by rw [ll hj];exact SH.out⟩
 case round =>
  clear SH HU
  obtain⟨k,Y,hk,rfl,hp,hu,ht,S⟩:=hrel
  have HP:=lh hp
  have HU:=lh hu
  have HT:=lh ht
  have IV:Hid (Y.length=m):=by unfold Hid;rw [hp.length_eq];exact IM.out.symm
  have HB2:=lh ((List.getElem?_set_ne (l:=Γ) (a:=Pc.own 329 2 q m c (aj Y)) (i:=j) (j:=jb) (by omega)).trans hb)
  have HJ2:=lh (dg (q:=Pc.own 329 2 q m c (aj Y)) hj)
  have ML:=fun N hN=>i9 gb wr N hN
  obtain⟨a,ha⟩:∃ a,2*k+1=a:=⟨_,rfl⟩
  have e1:2*(k:Int)+1=(a:Int):=by omega
  have e2:decide ((a:Int)<0)=false:=by simp
  clear hp hu ht
  by_cases hA:n<=a
  ·have d1:decide ((n:Int)<=a)=true:=by simp;omega
   have HE:=lh (wF HU.out (by omega))
   have SH:=lh S;clear S
   have Wm:decide (n<=a)=true:=by simpa using hA
   clear ha
   go_wp2
   go_ret
   exact⟨_,rfl,Y,HP.out,HE.out,HT.out,SH.out⟩
  ·have d1:decide ((n:Int)<=a)=false:=by simp;omega
   obtain⟨b,hb'⟩:∃ b,2*k+2=b:=⟨_,rfl⟩
   have e3:(a:Int)+1=(b:Int):=by omega
   by_cases hB:b<n
   ·have d2:decide ((b:Int)<n)=true:=by simp;omega
    have hL1:=mp gb q m c mo Y b a wr (S.blk jb HB2.out) (S.rd j HJ2.out (by omega)) (by omega) (by omega)
    cases hl1:mA (ae Y b) (ae Y a) with
    | false =>
     rw [hl1] at hL1
     have Iz:=lh hL1
     obtain⟨d,hd⟩:∃ d,d=a:=⟨_,rfl⟩
     have IP:=lh (jK oX (n:=n) (j:=k) (X:=Y) (by omega) (.inr (by rw [ha,hb'];exact hl1)))
     rw [ha] at IP
     have SH:=lh S;clear S
     obtain rfl:=hd
     clear hl1 hL1
     cases hlt:mA (ae Y d) (ae Y k) with
     | false =>
      have HE:=lh (lM oX HU.out IP.out hlt)
      have HL2:Hid (∀ W,Ext wr W->Calls prog 375 #[.pointer (some ⟨gb,0,none⟩),.int .i64 d,.int .i64 k] W fun e w'=>e=.returned (.bool false)/\Ext W w'):=fun W h=>hlt ▸ mp gb q m c mo Y d k W ((SH.out.blk jb HB2.out).ext h) ((SH.out.rd j HJ2.out (by omega)).ext h) (by omega) (by omega)
      clear hlt
      go_wp2_with (first | (go_at_call 375;have _t:=S5;go_must (refine(HL2.out _ X5.out).mono ?_;rintro e w6 ⟨rfl,h6⟩;have S6:=lh (S5.out.call h6);have MS:=fun N hN=>iA gb w6 N hN;clear h6)) | (go_at_call 375;have _t:=Iz;go_must (refine Iz.out.mono ?_;rintro e w5 ⟨rfl,h5⟩;have S5:=lh (SH.out.call h5);have X5:=lh h5;have KH:=fun N hN=>i9 gb w5 N hN;clear h5)))
      go_ret
      exact⟨_,rfl,Y,HP.out,HE.out,HT.out,S6.out⟩
     | true =>
      have HE:=lh (jE oX (by rw [IV.out];exact hnm) HU.out IP.out hlt)
      have HL2:Hid (∀ W,Ext wr W->Calls prog 375 #[.pointer (some ⟨gb,0,none⟩),.int .i64 d,.int .i64 k] W fun e w'=>e=.returned (.bool true)/\Ext W w'):=fun W h=>hlt ▸ mp gb q m c mo Y d k W ((SH.out.blk jb HB2.out).ext h) ((SH.out.rd j HJ2.out (by omega)).ext h) (by omega) (by omega)
      have Jw:=lh (cL (X:=Y) (i:=k) (j:=d) (by rw [IV.out];omega) (by rw [IV.out];omega))
      have HT2:Hid (∀ z,n<=z->z<m->ae (bj Y k d) z=ae X z):=fun z h1 h2=>by rw [cV (by rw [IV.out];exact h2),if_neg (by omega),if_neg (by omega)];exact HT.out z h1 h2
      clear hlt
      go_wp2_with (first | (go_at_call 378;go_must (refine(sJ gb q m c Y k d mo w6 w0 _ jb j S6.out HB2.out hne HJ2.out (by omega) (by omega) (by omega)).mono ?_;rintro e w7 ⟨rfl,T⟩;rw [List.set_set] at T;have S7:=lh T;clear T)) | (go_at_call 375;have _t:=S5;go_must (refine(HL2.out _ X5.out).mono ?_;rintro e w6 ⟨rfl,h6⟩;have S6:=lh (S5.out.call h6);have MS:=fun N hN=>iA gb w6 N hN;clear h6)) | (go_at_call 375;have _t:=Iz;go_must (refine Iz.out.mono ?_;rintro e w5 ⟨rfl,h5⟩;have S5:=lh (SH.out.call h5);have X5:=lh h5;have KH:=fun N hN=>i9 gb w5 N hN;clear h5)))
      go_roundw
      case rel=>exact⟨d,bj Y k d,by omega,rfl,Jw.out.trans HP.out,HE.out,HT2.out,S7.out⟩
      case measure=>simp [intOf];omega
    | true =>
     rw [hl1] at hL1
     have Iz:=lh hL1
     have IP:=lh (qL oX (n:=n) (j:=k) (X:=Y) (by omega) (by rw [ha,hb'];exact hl1))
     rw [hb'] at IP
     obtain⟨d,hd⟩:∃ d,d=b:=⟨_,rfl⟩
     have SH:=lh S;clear S
     obtain rfl:=hd
     clear hl1 hL1
     cases hlt:mA (ae Y d) (ae Y k) with
     | false =>
      have HE:=lh (lM oX HU.out IP.out hlt)
      have HL2:Hid (∀ W,Ext wr W->Calls prog 375 #[.pointer (some ⟨gb,0,none⟩),.int .i64 d,.int .i64 k] W fun e w'=>e=.returned (.bool false)/\Ext W w'):=fun W h=>hlt ▸ mp gb q m c mo Y d k W ((SH.out.blk jb HB2.out).ext h) ((SH.out.rd j HJ2.out (by omega)).ext h) (by omega) (by omega)
      clear hlt
      go_wp2_with (first | (go_at_call 375;have _t:=S5;go_must (refine(HL2.out _ X5.out).mono ?_;rintro e w6 ⟨rfl,h6⟩;have S6:=lh (S5.out.call h6);have MS:=fun N hN=>iA gb w6 N hN;clear h6)) | (go_at_call 375;have _t:=Iz;go_must (refine Iz.out.mono ?_;rintro e w5 ⟨rfl,h5⟩;have S5:=lh (SH.out.call h5);have X5:=lh h5;have KH:=fun N hN=>i9 gb w5 N hN;clear h5)))
      go_ret
      exact⟨_,rfl,Y,HP.out,HE.out,HT.out,S6.out⟩
     | true =>
      have HE:=lh (jE oX (by rw [IV.out];exact hnm) HU.out IP.out hlt)
      have HL2:Hid (∀ W,Ext wr W->Calls prog 375 #[.pointer (some ⟨gb,0,none⟩),.int .i64 d,.int .i64 k] W fun e w'=>e=.returned (.bool true)/\Ext W w'):=fun W h=>hlt ▸ mp gb q m c mo Y d k W ((SH.out.blk jb HB2.out).ext h) ((SH.out.rd j HJ2.out (by omega)).ext h) (by omega) (by omega)
      have Jw:=lh (cL (X:=Y) (i:=k) (j:=d) (by rw [IV.out];omega) (by rw [IV.out];omega))
      have HT2:Hid (∀ z,n<=z->z<m->ae (bj Y k d) z=ae X z):=fun z h1 h2=>by rw [cV (by rw [IV.out];exact h2),if_neg (by omega),if_neg (by omega)];exact HT.out z h1 h2
      clear hlt
      go_wp2_with (first | (go_at_call 378;go_must (refine(sJ gb q m c Y k d mo w6 w0 _ jb j S6.out HB2.out hne HJ2.out (by omega) (by omega) (by omega)).mono ?_;rintro e w7 ⟨rfl,T⟩;rw [List.set_set] at T;have S7:=lh T;clear T)) | (go_at_call 375;have _t:=S5;go_must (refine(HL2.out _ X5.out).mono ?_;rintro e w6 ⟨rfl,h6⟩;have S6:=lh (S5.out.call h6);have MS:=fun N hN=>iA gb w6 N hN;clear h6)) | (go_at_call 375;have _t:=Iz;go_must (refine Iz.out.mono ?_;rintro e w5 ⟨rfl,h5⟩;have S5:=lh (SH.out.call h5);have X5:=lh h5;have KH:=fun N hN=>i9 gb w5 N hN;clear h5)))
      go_roundw
      case rel=>exact⟨d,bj Y k d,by omega,rfl,Jw.out.trans HP.out,HE.out,HT2.out,S7.out⟩
      case measure=>simp [intOf];omega
   ·have d2:decide ((b:Int)<n)=false:=by simp;omega
    have IP:=lh (jK oX (n:=n) (j:=k) (X:=Y) (by omega) (.inl (by omega)))
    rw [ha] at IP
    obtain⟨d,hd⟩:∃ d,d=a:=⟨_,rfl⟩
    have SH:=lh S;clear S
    have S5:=lh SH.out
    have X5:Hid (Ext wr wr):=Below.refl _ _
    obtain rfl:=hd
    cases hlt:mA (ae Y d) (ae Y k) with
    | false =>
     have HE:=lh (lM oX HU.out IP.out hlt)
     have HL2:Hid (∀ W,Ext wr W->Calls prog 375 #[.pointer (some ⟨gb,0,none⟩),.int .i64 d,.int .i64 k] W fun e w'=>e=.returned (.bool false)/\Ext W w'):=fun W h=>hlt ▸ mp gb q m c mo Y d k W ((SH.out.blk jb HB2.out).ext h) ((SH.out.rd j HJ2.out (by omega)).ext h) (by omega) (by omega)
     clear hlt
     go_wp2_with (first | (go_at_call 375;have _t:=S5;go_must (refine(HL2.out _ X5.out).mono ?_;rintro e w6 ⟨rfl,h6⟩;have S6:=lh (S5.out.call h6);have MS:=fun N hN=>iA gb w6 N hN;clear h6)) | (go_at_call 375;have _t:=Iz;go_must (refine Iz.out.mono ?_;rintro e w5 ⟨rfl,h5⟩;have S5:=lh (SH.out.call h5);have X5:=lh h5;have KH:=fun N hN=>i9 gb w5 N hN;clear h5)))
     go_ret
     exact⟨_,rfl,Y,HP.out,HE.out,HT.out,S6.out⟩
    | true =>
     have HE:=lh (jE oX (by rw [IV.out];exact hnm) HU.out IP.out hlt)
     have HL2:Hid (∀ W,Ext wr W->Calls prog 375 #[.pointer (some ⟨gb,0,none⟩),.int .i64 d,.int .i64 k] W fun e w'=>e=.returned (.bool true)/\Ext W w'):=fun W h=>hlt ▸ mp gb q m c mo Y d k W ((SH.out.blk jb HB2.out).ext h) ((SH.out.rd j HJ2.out (by omega)).ext h) (by omega) (by omega)
     have Jw:=lh (cL (X:=Y) (i:=k) (j:=d) (by rw [IV.out];omega) (by rw [IV.out];omega))
     have HT2:Hid (∀ z,n<=z->z<m->ae (bj Y k d) z=ae X z):=fun z h1 h2=>by rw [cV (by rw [IV.out];exact h2),if_neg (by omega),if_neg (by omega)];exact HT.out z h1 h2
     clear hlt
     go_wp2_with (first | (go_at_call 378;go_must (refine(sJ gb q m c Y k d mo w6 w0 _ jb j S6.out HB2.out hne HJ2.out (by omega) (by omega) (by omega)).mono ?_;rintro e w7 ⟨rfl,T⟩;rw [List.set_set] at T;have S7:=lh T;clear T)) | (go_at_call 375;have _t:=S5;go_must (refine(HL2.out _ X5.out).mono ?_;rintro e w6 ⟨rfl,h6⟩;have S6:=lh (S5.out.call h6);have MS:=fun N hN=>iA gb w6 N hN;clear h6)) | (go_at_call 375;have _t:=Iz;go_must (refine Iz.out.mono ?_;rintro e w5 ⟨rfl,h5⟩;have S5:=lh (SH.out.call h5);have X5:=lh h5;have KH:=fun N hN=>i9 gb w5 N hN;clear h5)))
     go_roundw
     case rel=>exact⟨d,bj Y k d,by omega,rfl,Jw.out.trans HP.out,HE.out,HT2.out,S7.out⟩
     case measure=>simp [intOf];omega
end
section
open Go Go.RowKit
attribute [local go_sem] Oper.semAt_some
theorem uU {n:Nat} {X:List (Int × Int)} {x:Int × Int} (hn:n=X.length) (h:cC mA n X):zE mA (n+1) n (X ++ [x]):=by
 refine uv fun i h0 h1=>?_
 rw [bW _ _ _ (by omega),bW _ _ _ (by omega)]
 exact h i h0 h1
theorem xN (gb:Nat) (q:Option Addr) (n c:Nat) (X:List (Int × Int)) (x:Int × Int) (mo:Int) (w w0:World) (Γ:List Pc) (jb j:Nat) (S:Ic w0 w Γ) (hb:Γ[jb]?=some (.blk gb 301 #[.slice q n c,.int .i64 mo])) (hj:Γ[j]?=some (.own 329 2 q n c (aj X))) (hne:jb≠j) (hn:n<=90000) (hh:cC mA n X) :
  Calls prog 116 #[sO gb,py x] w fun e w'=>e=.returned (.tuple #[])/\∃ (q':Option Addr) (c':Nat) (X':List (Int × Int)),X'.Perm (X ++ [x])/\cC mA (n+1) X'/\Ic w0 w' ((Γ.set j (.own 329 2 q' (n+1) c' (aj X'))).set jb (.blk gb 301 #[.slice q' (n+1) c',.int .i64 mo])):=by
 have HU:=lh (uU (x:=x) (S.rd j hj (by omega)).nE hh)
 have JX:=lh (F7 gb q n c X x mo w w0 Γ jb j S hb hj hne (by omega))
 have MP:=fun W N hN=>Ey gb W N hN
 have Uk:=lh (fun q1 c1 w1 S1=>H4 gb q1 (n+1) c1 n (X ++ [x]) mo w1 w0 ((Γ.set j (.own 329 2 q1 (n+1) c1 (aj (X ++ [x])))).set jb (.blk gb 301 #[.slice q1 (n+1) c1,.int .i64 mo])) jb j S1 (dg (p:=.blk gb 301 #[.slice q n c,.int .i64 mo]) (by rw [List.getElem?_set_ne (fun e=>hne e.symm)];exact hb)) (by rw [List.getElem?_set_ne hne];exact dg hj) hne (by omega) (by omega) HU.out)
 have HB:=lh (fun q1 c1=>(dg (p:=.blk gb 301 #[.slice q n c,.int .i64 mo]) (q:=.blk gb 301 #[.slice q1 (n+1) c1,.int .i64 mo]) (by rw [List.getElem?_set_ne (fun e=>hne e.symm)];exact hb):((Γ.set j (.own 329 2 q1 (n+1) c1 (aj (X ++ [x])))).set jb (.blk gb 301 #[.slice q1 (n+1) c1,.int .i64 mo]))[jb]?=some _))
 clear S hb hj hh
 unfold sO py
 go_enter func116,ntmps116
 go_wp2_with (first
  | (go_at_call 190;go_must (refine(Uk.out q1 c1 w1 S1.out).mono ?_;rintro e w2 ⟨rfl,X',k1,k2,k3⟩;rw [xe (fun e=>hne e.symm)] at k3;have K1:=lh k1;have K2:=lh k2;have S2:=lh k3;clear k1 k2 k3))
  | (go_at_call 285;go_must (refine(Ev gb _ _ _ mo _ (S1.out.blk jb (HB.out q1 c1)) (by omega)).mono ?_;rintro e wl ⟨rfl,hw⟩;have hw:=hw.symm;subst hw))
  | (go_at_call 377;go_must (refine JX.out.mono ?_;rintro e w1 ⟨rfl,q1,c1,T⟩;have ML:=fun N hN=>DC gb w1 N hN;have S1:=lh T;clear T)))
 go_end0
 exact⟨rfl,q1,c1,X',K1.out,K2.out,S2.out⟩
theorem As (gb:Nat) (q:Option Addr) (n c:Nat) (X:List (Int × Int)) (mo:Int) (w w0:World) (Γ:List Pc) (jb j:Nat) (S:Ic w0 w Γ) (hb:Γ[jb]?=some (.blk gb 301 #[.slice q (n+1) c,.int .i64 mo])) (hj:Γ[j]?=some (.own 329 2 q (n+1) c (aj X))) (hne:jb≠j) (hn:n<=90000) (hh:cC mA (n+1) X) :
  Calls prog 137 #[sO gb] w fun e w'=>e=.returned (py (ae X 0))/\∃ X':List (Int × Int),(ae X 0 :: X').Perm X/\cC mA n X'/\Ic w0 w' ((Γ.set j (.own 329 2 q n c (aj X'))).set jb (.blk gb 301 #[.slice q n c,.int .i64 mo])):=by
 have IA:=(S.rd j hj (by omega)).nE
 have IM:=lh IA
 have HB0:=lh (S.blk jb hb)
 have ML:=fun N hN=>DC gb w N hN
 have MS:=fun N hN=>iA gb w N hN
 have MP:=fun W N hN=>Gc gb W N hN
 have Uj:=lh (sJ gb q (n+1) c X 0 n mo w w0 Γ jb j S hb hne hj (by omega) (by omega) (by omega))
 have Mc:=lh (fun w1 S1=>F5 gb q n (n+1) c (bj X 0 n) mo w1 w0 (Γ.set j (.own 329 2 q (n+1) c (aj (bj X 0 n)))) jb j S1 (by rw [List.getElem?_set_ne (fun e=>hne e.symm)];exact hb) (dg hj) hne (by omega) (by omega) (tc IA.symm hh))
 have Mx:=lh (fun w2 Y S2=>G2 gb q n c Y mo w2 w0 (Γ.set j (.own 329 2 q (n+1) c (aj Y))) jb j S2 (by rw [List.getElem?_set_ne (fun e=>hne e.symm)];exact hb) (dg hj) hne (by omega))
 have Pt:Hid (ae (bj X 0 n) n=ae X 0):=by unfold Hid;rw [cV (by omega),if_pos rfl]
 have Jw:=lh (cL (X:=X) (i:=0) (j:=n) (by omega) (by omega))
 clear S hb hj hh IA
 unfold sO
 go_enter func137,ntmps137
 go_wp2_with (first
  | (go_at_call 376;go_must (refine(Mx.out w2 X' S2.out).mono ?_;rintro e w3 ⟨rfl,T⟩;rw [List.set_set] at T;have S3:=lh T;clear T))
  | (go_at_call 203;go_must (refine(Mc.out w1 S1.out).mono ?_;rintro e w2 ⟨bb,rfl,X',k1,k2,k3,k4⟩;rw [List.set_set] at k4;have K1:=lh k1;have K2:=lh k2;have K3:=lh (k3 n (Nat.le_refl _) (by omega));have S2:=lh k4;clear k1 k2 k3 k4))
  | (go_at_call 378;go_must (refine Uj.out.mono ?_;rintro e w1 ⟨rfl,T⟩;have S1:=lh T;clear T))
  | (go_at_call 285;go_must (refine(Ev gb _ _ _ mo _ (HB0.out) (by omega)).mono ?_;rintro e wl ⟨rfl,hw⟩;have hw:=hw.symm;subst hw)))
 go_ret
 have e0:ae X' n=ae X 0:=K3.out.trans Pt.out
 refine⟨by rw [e0];rfl,X'.take n,?_,qH K2.out ?_,S3.out⟩
 ·exact tZ IM.out.symm (K1.out.trans Jw.out) e0
 ·rw [K1.out.length_eq,Jw.out.length_eq,<- IM.out];omega
end
theorem Ez (a b:Int) (W:World):(Instr.typeAssert (py (a,b)) 20 329 true).run prog W=.ok (.tuple #[.agg #[.int .i64 a,.int .i64 b],.bool true]) W:=AC a b W
theorem wT {Γ:List Pc} {j jb:Nat} {a b c:Pc} (_:jb≠j) (hb:Γ[jb]?=some c):((Γ.set j a).set jb b)[jb]?=some b:=by
 rw [List.getElem?_set_self]
 rw [List.length_set]
 exact(List.getElem?_eq_some_iff.1 hb).1
theorem Di {Γ:List Pc} {j jb:Nat} {a b c:Pc} (h:jb≠j) (hj:Γ[j]?=some c):((Γ.set j a).set jb b)[j]?=some a:=by
 rw [List.getElem?_set_ne h,List.getElem?_set_self]
 exact(List.getElem?_eq_some_iff.1 hj).1
theorem BV {Γ:List Pc} {j jb:Nat} {a b a' b':Pc} (h:jb≠j):(((Γ.set j a).set jb b).set j a').set jb b'=(Γ.set j a').set jb b':=by
 rw [List.set_comm (l:=Γ.set j a) _ _ h,List.set_set,List.set_set]
theorem F6 (gb:Nat) (q:Option Addr) (n c:Nat) (X:List (Int × Int)) (mo:Int) (w w0:World) (Γ:List Pc) (jb j:Nat) (S:Ic w0 w Γ) (hb:Γ[jb]?=some (.blk gb 301 #[.slice q (n+1) c,.int .i64 mo])) (hj:Γ[j]?=some (.own 329 2 q (n+1) c (aj X))) (hne:jb≠j) (hn:n<=90000) (hh:cC mA (n+1) X) :
  Calls prog 270 #[.pointer (some ⟨gb,0,none⟩)] w fun e w'=>e=.returned (.agg #[.int .i64 (ae X 0).1,.int .i64 (ae X 0).2])/\∃ X':List (Int × Int),(ae X 0 :: X').Perm X/\cC mA n X'/\Ic w0 w' ((Γ.set j (.own 329 2 q n c (aj X'))).set jb (.blk gb 301 #[.slice q n c,.int .i64 mo])):=by
 have S0:=lh (S.al #[.int .i64 0,.int .i64 0] 105 w.heap.size rfl)
 have HP:=lh (As gb q n c X mo _ w0 _ (jb+1) (j+1) S0.out hb hj (by omega) hn hh)
 have TA:=Ez (ae X 0).1 (ae X 0).2
 have HX:Hid (py (ae X 0)=py ((ae X 0).1,(ae X 0).2)):=rfl
 clear S hb hj hh
 go_enter func270,ntmps270
 go_wp2_with (go_at_call 137;go_must (refine HP.out.mono ?_;rintro e w1 ⟨rfl,X',k1,k2,k3⟩;rw [HX.out];have K1:=lh k1;have K2:=lh k2;have S1:=lh k3;obtain⟨a0,a1,az,f0,f1⟩:=gF (k3.blk 0 rfl);clear k1 k2 k3))
 have S9:=lh (((S1.out.set 0 rfl 0 (.int .i64 (ae X 0).1)).set 0 rfl 1 (.int .i64 (ae X 0).2)).junk (.cells #[.int .i64 (ae X 0).1,.int .i64 (ae X 0).2] 329))
 obtain⟨x0,x1⟩:=nF (S9.out.blk 0 rfl)
 refine bodyPost_ret (v:=.agg #[.int .i64 (ae X 0).1,.int .i64 (ae X 0).2]) (by simp [results,results270,go_sem,x0,x1,sizeOf105,isAgg105]) rfl ⟨rfl,X',K1.out,K2.out,S9.out.sub (List.sublist_cons_self _ _)⟩
theorem Hj (gb:Nat) (q:Option Addr) (n c:Nat) (m:Int) (w:World) (hB:Ih w gb 301 #[.slice q n c,.int .i64 m]) (hn:n<=9223372036854775807):Calls prog 269 #[.pointer (some ⟨gb,0,none⟩)] w fun e w'=>e=.returned (.int .i64 n)/\w'=w:=by
 have HL:=lh (Ev gb q n c m w hB hn)
 have bz:=hB.lt
 clear hB
 go_enter func269,ntmps269
 go_wp2_with (go_at_call 285;go_must (refine HL.out.mono ?_;rintro e w1 ⟨rfl,hw⟩;have hw:=hw.symm;subst hw))
 go_ret
 exact⟨rfl,rfl⟩
theorem Hk (gb:Nat) (q:Option Addr) (n c:Nat) (X p:List (Int × Int)) (x:Int × Int) (mo:Nat) (w w0:World) (Γ:List Pc) (jb j:Nat) (S:Ic w0 w Γ) (hb:Γ[jb]?=some (.blk gb 301 #[.slice q n c,.int .i64 (mo:Int)])) (hj:Γ[j]?=some (.own 329 2 q n c (aj X))) (hne:jb≠j) (hn:n<=80000) (hh:cC mA n X) (hp:X.Perm ((bl p).take mo)) :
  Calls prog 235 #[.pointer (some ⟨gb,0,none⟩),.agg #[.int .i64 x.1,.int .i64 x.2]] w fun e w'=>(∃ v,e=.returned v)/\∃ (q':Option Addr) (n' c':Nat) (X':List (Int × Int)),n'<=n+1/\cC mA n' X'/\X'.Perm ((bl (p ++ [x])).take mo)/\Ic w0 w' ((Γ.set j (.own 329 2 q' n' c' (aj X'))).set jb (.blk gb 301 #[.slice q' n' c',.int .i64 (mo:Int)])):=by
 have IA:n=X.length:=(S.rd j hj (by omega)).nE
 have IM:=lh IA
 have S0:=lh ((S.al #[.int .i64 x.1,.int .i64 x.2] 105 w.heap.size rfl).al #[.int .i64 0,.int .i64 0] 105 (w.heap.size+1) (by simp))
 have JX:=lh (fun D SD=>xN gb q n c X x mo D w0 (.blk (w.heap.size+1) 105 #[.int .i64 0,.int .i64 0] :: .blk w.heap.size 105 #[.int .i64 x.1,.int .i64 x.2] :: Γ) (jb+1+1) (j+1+1) SD hb hj (by omega) (by omega) hh)
 clear S hh IA
 go_enter func235,ntmps235
 go_wp2
 obtain⟨Y,hY⟩:∃ Y,Y=(w.alloc (.cells #[.int .i64 x.1,.int .i64 x.2] 105)).alloc (.cells #[.int .i64 0,.int .i64 0] 105):=⟨_,rfl⟩
 rw [<- hY] at S0 ⊢
 clear hY
 have h0:Y.cell? ⟨w.heap.size,0,none⟩=some (.int .i64 x.1):=(S0.out.blk 1 rfl).cell 0
 have h1:Y.cell? ⟨w.heap.size,1,none⟩=some (.int .i64 x.2):=(S0.out.blk 1 rfl).cell 1
 refine wp_region_noPanic ?_
 refine wp_region_held_drew (S:=fun w'=>w'.cell? ⟨w.heap.size,0,none⟩=some (.int .i64 x.1)/\w'.cell? ⟨w.heap.size,1,none⟩=some (.int .i64 x.2)) (by kernel_rfl) ⟨h0,h1⟩ (fun hHeld=>?_)
 have SD:=lh S0.out.drew
 clear S0 h0 h1
 generalize Y.drew=D at SD hHeld ⊢
 refine br 0 (.pointer (some ⟨gb,0,none⟩)) rfl (fun W hSw=>by obtain⟨h1,h2⟩:=hSw;go_simp) hHeld ?_
 refine br 1 (.pointer (some ⟨gb,0,none⟩)) rfl (fun W hSw=>by obtain⟨h1,h2⟩:=hSw;go_simp) hHeld ?_
 refine br 2 (.pointer (some ⟨gb,0,none⟩)) rfl (fun W hSw=>by obtain⟨h1,h2⟩:=hSw;go_simp) hHeld ?_
 refine br 3 (.iface 328 (.pointer (some ⟨gb,0,none⟩))) rfl (fun W hSw=>by obtain⟨h1,h2⟩:=hSw;go_simp) hHeld ?_
 refine br 4 (.agg #[.int .i64 x.1,.int .i64 x.2]) rfl (fun W hSw=>by obtain⟨h1,h2⟩:=hSw;go_simp) hHeld ?_
 refine br 5 (.iface 329 (.agg #[.int .i64 x.1,.int .i64 x.2])) rfl (fun W hSw=>by obtain⟨h1,h2⟩:=hSw;go_simp) hHeld ?_
 refine wpAnyH_ready (rs:=[6]) (by kernel_rfl) (by simp) (AllReadyH.cons rfl (fun K hK=>?_) AllReadyH.nil)
 go_simp
 refine(JX.out _ SD.out).mono ?_
 rintro e w1 ⟨rfl,q1,c1,X1,k1,k2,k3⟩
 have K1:=lh k1
 have K2:=lh k2
 have S1:=lh k3
 refine hK.out _ _ ⟨(k3.blk 1 rfl).cell 0,(k3.blk 1 rfl).cell 1⟩ (fun hHeld=>?_)
 clear hK k1 k2 k3 SD JX
 refine wpAnyH_done (by kernel_rfl) ?_ _
 refine bm ?_
 clear hHeld
 go_wp2
 have HB1:=lh (S1.out.blk (jb+1+1) (wT (by omega) hb))
 have b1:w1.cell? ⟨gb,1,none⟩=some (.int .i64 (mo:Int)):=HB1.out.cell 1
 have HQ:=lh (fun (y:Ie w1)=>(Hj gb q1 (n+1) c1 mo y.val (HB1.out.ext y.ext) (by omega)).mono fun e w' (h:e=.returned (.int .i64 ((n+1:Nat):Int))/\w'=y.val)=>(⟨h.1,h.2 ▸ Below.refl _ _⟩:e=.returned (.int .i64 ((n+1:Nat):Int))/\Ext y.val w'))
 have u1:=fun x:Ie w1=>x.ext.cell b1
 by_cases hle:n+1<=mo
 ·have e1:decide ((n:Int)+1<=(mo:Int))=true:=by simp;omega
  refine av (by kernel_rfl) (by kernel_rfl) ?_
  repeat (go_big_quiet_step (((go_at_call 269;exact Calls.ext_of (HQ.out _)))))
  refine wpQuiet_nil ?_
  rintro w9 ⟨⟨_,IR⟩,rfl⟩
  have S2:=lh (S1.out.call IR)
  have N7:=lh (vm hp K1.out (by rw [K1.out.length_eq,List.length_append,List.length_singleton,<- IM.out];exact hle))
  obtain⟨a0,a1,az,f0,f1⟩:=gF (S2.out.blk 0 rfl)
  have S9:=lh ((S2.out.set 0 rfl 0 (.int .i64 0)).set 0 rfl 1 (.int .i64 0))
  obtain⟨x0,x1⟩:=nF (S9.out.blk 0 rfl)
  clear HB1 HQ b1 u1 IR S1 hp
  go_wp2
  refine bodyPost_ret (v:=.tuple #[.agg #[.int .i64 0,.int .i64 0],.bool false]) (by simp [results,results235,go_sem,x0,x1,sizeOf105,isAgg105]) rfl ⟨⟨_,rfl⟩,q1,n+1,c1,X1,Nat.le_refl _,K2.out,N7.out,(S9.out.sub (List.sublist_cons_self _ _)).sub (List.sublist_cons_self _ _)⟩
 ·have e1:decide ((n:Int)+1<=(mo:Int))=false:=by simp;omega
  refine av (by kernel_rfl) (by kernel_rfl) ?_
  repeat (go_big_quiet_step (((go_at_call 269;exact Calls.ext_of (HQ.out _)))))
  refine wpQuiet_nil ?_
  rintro w9 ⟨⟨_,IR⟩,rfl⟩
  have S2:=lh (S1.out.call IR)
  have Iz:Hid (X1.length=n+1):=by unfold Hid;rw [K1.out.length_eq,List.length_append,List.length_singleton,<- IM.out]
  have TY:Hid (∀ b∈X1,cM (ae X1 0) b=false):=fun b hb=>by
   obtain⟨i,hi,rfl⟩:=List.mem_iff_getElem.1 hb
   have:=tq oX K2.out i (by rw [<- Iz.out];exact hi)
   rw [ar hi] at this
   exact this
  have TR:=lh (F6 gb q1 n c1 X1 mo w9 w0 _ (jb+1+1) (j+1+1) S2.out (wT (by omega) hb) (Di (by omega) hj) (by omega) (by omega) K2.out)
  clear HB1 HQ b1 u1 IR S1 S2
  have hne2:jb+1+1≠j+1+1:=by omega
  go_wp2_with (go_at_call 270;go_must (refine TR.out.mono ?_;rintro e w3 ⟨rfl,X2,k1,k2,k3⟩;rw [BV hne2] at k3;have J1:=lh k1;have J2:=lh k2;have S2:=lh k3;clear k1 k2 k3;obtain⟨a0,a1,az,f0,f1⟩:=gF (S2.out.blk 0 rfl)))
  have N7:=lh (vl hp K1.out (by rw [Iz.out];omega) TY.out J1.out)
  have S9:=lh ((S2.out.set 0 rfl 0 (.int .i64 (ae X1 0).1)).set 0 rfl 1 (.int .i64 (ae X1 0).2))
  obtain⟨x0,x1⟩:=nF (S9.out.blk 0 rfl)
  refine bodyPost_ret (v:=.tuple #[.agg #[.int .i64 (ae X1 0).1,.int .i64 (ae X1 0).2],.bool true]) (by simp [results,results235,go_sem,x0,x1,sizeOf105,isAgg105]) rfl ⟨⟨_,rfl⟩,q1,n,c1,X2,by omega,J2.out,N7.out,(S9.out.sub (List.sublist_cons_self _ _)).sub (List.sublist_cons_self _ _)⟩
section
open Go Go.RowKit Go.Shelf Go.Lib Go.Sort
theorem G4 (x y:Int × Int) (W:World):Calls prog 273 #[.agg #[.int .i64 x.1,.int .i64 x.2],.agg #[.int .i64 y.1,.int .i64 y.2]] W fun e w'=>e=.returned (.int .i64 (kd x y))/\∃ q os',w'=grow (W.drewN q) os':=by
 refine(Hu x y W).mono ?_
 rintro e w' ⟨rfl,rfl⟩
 refine⟨rfl,0,#[.cells #[.int .i64 x.1,.int .i64 x.2] 329,.cells #[.int .i64 y.1,.int .i64 y.2] 329],?_⟩
 rw [alloc_eq_grow,alloc_eq_grow,grow_grow]
 rfl
theorem ie (x y:Int × Int):ltOf kd x y=cM x y:=sX x y
theorem Ho:SWO (ltOf kd) where
 irrefl x:=by rw [ie];exact ew.irrefl _
 trans x y z h1 h2:=by rw [ie] at *;exact ew.trans _ _ _ h1 h2
 ntrans x y z h1 h2:=by rw [ie] at *;rw [vI] at *;omega
theorem Hr (x y:Int × Int) (h1:ltOf kd x y=false) (h2:ltOf kd y x=false):x=y:=by
 rw [ie] at *;exact ew.tri _ _ h1 h2
theorem lm (l:List (Int × Int)):ix (aE cM l)/\(aE cM l).Perm l:=by
 refine⟨?_,List.mergeSort_perm l _⟩
 have:=List.pairwise_mergeSort (le:=fun x y:Int × Int=>!cM y x) (fun a b c h k=>by
  simp only [Bool.not_eq_true'] at *
  exact ew.le_trans h k) (fun a b=>by
  cases h:cM b a with
  | false=>rfl
  | true=>rw [ew.asymm h];rfl) l
 exact this.imp fun {a b} h=>by simpa using h
theorem FN (base:Nat) (q:Option Addr) (n c:Nat) (l:List (Int × Int)) (w:World) (ho:w.ownsRow base 329 2 (.slice q n c) n (aj l)) (hn:n<=1000000) (hb:base<=w.heap.size) :
  Calls prog 272 #[.slice q n c,.func (.func 273) #[] #[]] w fun e w' =>
   e=.returned (.tuple #[])/\w'.ownsRow base 329 2 (.slice q n c) n (aj (aE cM l))/\w.grownBy w' (bi q):=by
 have hl:n=l.length:=by have:=ho.1;rw [bS] at this;omega
 by_cases h0:n=0
 ·subst h0
  have hnil:l=[]:=List.eq_nil_of_length_eq_zero hl.symm
  subst hnil
  refine(AnyF.slices_SortFunc_none { Tryz.sortH with } q c (.func (.func 273) #[] #[]) w).mono ?_
  rintro e w' ⟨he,rfl⟩
  exact⟨he,by simpa [aE] using ho,World.grownBy.refl _ _⟩
 ·obtain⟨g,hq,hg⟩:=cR ho h0
  subst hq
  have eg:∀ args w,(callFunc 273 args).run prog w=.ok (.enter 273 args) w:=enters_of func273 (by kernel_rfl) rfl
  have hH:HoldsK jd 2 w g 0 l.toArray:=by
   intro j hj
   have hj2:j<n*2:=by simp at hj;omega
   have r:=Rd.of_own ho (by omega)
   have hc:=r.cells j hj2
   rw [aB] at hc
   have hv:(flatK jd 2 l.toArray)[j]! = (aj l).getD j undef:=by
    rw [getElem!_pos _ j hj,<- iB,List.getD_eq_getElem?_getD,Array.getElem?_toList,Array.getElem?_eq_getElem hj];rfl
   refine⟨by rw [hv];exact hc,?_⟩
   rcases ho.2 with ⟨h1,_⟩ | ⟨g',cap,cur,h1,_,hh,_⟩
   ·cases h1
   ·injection h1 with h1;injection h1 with h1;injection h1 with h1;subst h1
    simp [World.frozen?,hh]
  have hcon:=AnyQ.slices_SortFunc_total Tryz.sortH 2 isAgg329 sizeOf329 jd (fun _=>rfl) (fun x v hv=>by simp [jd] at hv;rcases hv with rfl | rfl <;> rfl) kd Ho 273 #[] g 0 c l.toArray w eg
   (fun m os dk hs x y=>G4 x y _) hH hg (by simp;omega) Hr
  have hsz:l.toArray.size=n:=by simp [hl]
  rw [hsz] at hcon
  refine hcon.mono ?_
  rintro e w' ⟨he,m,os,rfl⟩
  have e1:(fun x y=>!(ltOf kd) y x)=fun x y:Int × Int=>!cM y x:=by funext x y;rw [ie]
  have e2:(flatK jd 2 (l.toArray.toList.mergeSort fun x y=>!(ltOf kd) y x).toArray)=(aj (aE cM l)).toArray:=by
   apply Array.toList_inj.1
   rw [iB,e1];rfl
  have hp:=gO ho (ys:=aj (aE cM l)) (by rw [bS,fZ,hl]) m os
  have e3:sortWorldK jd 2 w g 0 m (l.toArray.toList.mergeSort fun x y=>!(ltOf kd) y x).toArray os=grow (putRow id (Sort.ahead w m) g 0 (aj (aE cM l)).toArray) os:=by
   unfold sortWorldK putRowK;rw [e2]
  rw [e3]
  exact⟨he,hp.1,hp.2⟩
theorem xD {w0 w:World} {Γ:List Pc} (S:Ic w0 w Γ) (j:Nat) {q:Option Addr} {n c:Nat} {l:List (Int × Int)} (hj:Γ[j]?=some (.own 329 2 q n c (aj l))) (hn:n<=1000000) :
  Calls prog 272 #[.slice q n c,.func (.func 273) #[] #[]] w fun e w'=>e=.returned (.tuple #[])/\Ic w0 w' (Γ.set j (.own 329 2 q n c (aj (aE cM l)))) :=
 (FN _ q n c l w (S.own j hj) hn S.ext.size).mono fun _ _ ⟨he,ho,hg⟩=>⟨he,S.put j hj _ hg (fun _ hk=>hk) (aP ho (Nat.zero_le _)) fun _ hk=>.inl hk⟩
theorem Ea (p:Option Addr) (n c:Nat) (l:List (Int × Int)) (w:World) (hl:Rd w 2 p n (aj l)) (hn:n<=100000) :
  Calls prog 271 #[.slice p n c] w fun e w'=>∃ q c',e=.returned (.slice q n c')/\Ic w w' [.own 329 2 q n c' (aj l)]:=by
 obtain⟨i0,hi0,hz0,hz1,hz2⟩:=info_parts DL
 have hp:=hl.ptr
 cases p with
 | none =>
  have h0:n=0:=by rcases hp with h | ⟨_,_,h⟩;exact h;cases h
  subst h0
  have hnil:aj l=[]:=List.eq_nil_of_length_eq_zero (by have:=hl.len;simpa using this)
  rw [hnil]
  clear hl hp hnil
  have hr:=fun W=>Lib.run_eql_slice_nil (P:=prog) W 297 329 none 0 c 0 0 underlying297
  go_enter func271,ntmps271
  go_wp2
  go_ret
  exact⟨none,0,rfl,(Ic.start w).nilrow _ _⟩
 | some ad =>
  have hr:=fun W=>Lib.run_eql_slice_nil (P:=prog) W 297 329 (some ad) n c 0 0 underlying297
  have HL:=lh hl;clear hl hp
  go_enter func271,ntmps271
  go_wp2_with (at_builtin;refine aM rfl _ _ _ rfl w.heap.size 329 i0 _ 2 16 underlying297 hi0 hz0 hz1 hz2 rfl (by omega) (some ⟨w.heap.size,0,none⟩) 0 0 [] rfl (World.ownsRow_made w #[] 0 (Nat.le_refl _) (by simp [maxLen]) rfl) (some ad) n c (aj l) rfl (HL.out.ext (Ext.alloc (Below.refl _ _) _)) (bu l) (by omega) (by omega) (by simp) ?_;intro q' c' w1 hown hg hat hb)
  go_ret
  simp only [Nat.zero_add,List.nil_append] at hown
  exact⟨q',c',rfl,Ic.of_own (Below.trans ((Below.refl _ _).alloc (Nat.le_refl _) _) hb) hown⟩
end
section
open Go Go.RowKit Go.Shelf Go.Lib Go.Sort
def ff (a b:Ky):Int:=mG (gu a.s b.s) (mG (gu a.r b.r) (gu a.v b.v))
theorem uL (b:Nat) (x y z:Int) (w:World) (h0:w.cell? ⟨b,0,none⟩=some (.int .i64 x)) (h1:w.cell? ⟨b,1,none⟩=some (.int .i64 y)) (h2:w.cell? ⟨b,2,none⟩=some (.int .i64 z)) :
  Calls prog 216 #[.slice (some ⟨b,0,none⟩) 3 3] w fun e w'=>e=.returned (.int .i64 (mG x (mG y z)))/\w'=w:=by
 by_cases hx:x=0
 ·have hx2:(x != 0)=false:=by simp [hx]
  by_cases hy:y=0
  ·have hy2:(y != 0)=false:=by simp [hy]
   have HF:Hid (mG x (mG y z)=z):=by unfold Hid mG;rw [if_pos hx,if_pos hy]
   have HX:=lh hx;clear hx
   have HY:=lh hy;clear hy
   by_cases hz:z=0
   ·have hz2:(z != 0)=false:=by simp [hz]
    have HZ:=lh hz;clear hz
    go_enter func216,ntmps216
    go_wp2
    refine wp_loop_rounds 4 ?_
    rw [rounds_succ]
    go_wp2
    rw [rounds_succ]
    go_wp2
    rw [rounds_succ]
    go_wp2
    rw [rounds_succ]
    go_wp2
    go_ret
    exact⟨dh (by rw [HF.out,HZ.out]),rfl⟩
   ·have hz2:(z != 0)=true:=by simp [hz]
    have HZ:=lh hz;clear hz
    go_enter func216,ntmps216
    go_wp2
    refine wp_loop_rounds 3 ?_
    rw [rounds_succ]
    go_wp2
    rw [rounds_succ]
    go_wp2
    rw [rounds_succ]
    go_wp2
    go_ret
    exact⟨dh HF.out.symm,rfl⟩
  ·have hy2:(y != 0)=true:=by simp [hy]
   have HF:Hid (mG x (mG y z)=y):=by unfold Hid mG;rw [if_pos hx,if_neg hy]
   have HX:=lh hx;clear hx
   have HY:=lh hy;clear hy
   go_enter func216,ntmps216
   go_wp2
   refine wp_loop_rounds 2 ?_
   rw [rounds_succ]
   go_wp2
   rw [rounds_succ]
   go_wp2
   go_ret
   exact⟨dh HF.out.symm,rfl⟩
 ·have hx2:(x != 0)=true:=by simp [hx]
  have HF:Hid (mG x (mG y z)=x):=by unfold Hid mG;rw [if_neg hx]
  have HX:=lh hx;clear hx
  go_enter func216,ntmps216
  go_wp2
  refine wp_loop_rounds 1 ?_
  rw [rounds_succ]
  go_wp2
  go_ret
  exact⟨dh HF.out.symm,rfl⟩
theorem qk (x y:Ky) (W:World):Calls prog 150 #[.agg #[.int .i64 x.s,.int .i64 x.r,.int .i64 x.v],.agg #[.int .i64 y.s,.int .i64 y.r,.int .i64 y.v]] W fun e w'=>e=.returned (.int .i64 (ff x y))/\∃ q os',w'=grow (W.drewN q) os':=by
 have Je:=lh (fun W'=>dl x.s y.s W')
 have IY:=lh (fun W'=>dl x.r y.r W')
 have L8:=lh (fun W'=>dl x.v y.v W')
 obtain⟨c1,h1⟩:∃ c,c=gu x.s y.s:=⟨_,rfl⟩
 obtain⟨c2,h2⟩:∃ c,c=gu x.r y.r:=⟨_,rfl⟩
 obtain⟨c3,h3⟩:∃ c,c=gu x.v y.v:=⟨_,rfl⟩
 rw [<- h1] at Je
 rw [<- h2] at IY
 rw [<- h3] at L8
 have HF:Hid (ff x y=mG c1 (mG c2 c3)):=by unfold Hid ff;rw [h1,h2,h3]
 clear h1 h2 h3
 have S0:=((Ic.start W).al #[.int .i64 x.s,.int .i64 x.r,.int .i64 x.v] 136 W.heap.size rfl).al #[.int .i64 y.s,.int .i64 y.r,.int .i64 y.v] 136 (W.heap.size+1) (by simp)
 go_enter func150,ntmps150
 go_wp2
 obtain⟨w0,hw0⟩:∃ w0,w0=(W.alloc (.cells #[.int .i64 x.s,.int .i64 x.r,.int .i64 x.v] 136)).alloc (.cells #[.int .i64 y.s,.int .i64 y.r,.int .i64 y.v] 136):=⟨_,rfl⟩
 rw [<- hw0] at S0 ⊢
 obtain⟨a0,a1,a2⟩:=aw (S0.blk 1 rfl)
 obtain⟨b0,b1,b2⟩:=aw (S0.blk 0 rfl)
 simp at a0 a1 a2 b0 b1 b2
 clear S0
 have HW0:=lh hw0;clear hw0
 refine wp_region_still_tail 15 (by kernel_rfl) (by kernel_rfl) ?_
 simp only [List.take_succ_cons,List.take_zero,List.drop_succ_cons,List.drop_zero]
 iterate 4 still_step
 still_call (Je.out _)
 iterate 4 still_step
 still_call (IY.out _)
 iterate 4 still_step
 still_call (L8.out _)
 refine wpStill_nil ?_
 change wpList _ _ _ _ _ w0.drew
 go_wp2_with (go_at_call 216;refine(uL _ c1 c2 c3 _ (by simp) (by simp) (by simp)).mono ?_;rintro e w' ⟨rfl,rfl⟩)
 go_ret
 exact⟨dh HF.out.symm,1,#[_,_,_],by rw [HW0.out];exact DH _ _ _ _⟩
end
section
open Go Go.RowKit Go.Shelf Go.Lib Go.Sort
theorem DI (W:World) (o1 o2 o3 o4 o5:Obj):(((((W.alloc o1).alloc o2).alloc o3).alloc o4).drew.alloc o5).drew=grow (W.drewN 2) #[o1,o2,o3,o4,o5]:=by
 have h:∀ (V:World) (o:Obj),V.drew.alloc o=(V.alloc o).drew:=fun _ _=>rfl
 have h2:∀ os,(grow W os).drew.drew=grow (W.drewN 2) os:=fun _=>rfl
 rw [h,alloc_eq_grow,alloc_eq_grow,alloc_eq_grow,alloc_eq_grow,alloc_eq_grow,grow_grow,grow_grow,grow_grow,grow_grow,h2]
 congr 1
theorem EA (x y:Sq) (W:World):Calls prog 243 #[.agg #[.int .i64 x.s,.int .i64 x.r,.int .i64 x.v,.int .i64 x.d],.agg #[.int .i64 y.s,.int .i64 y.r,.int .i64 y.v,.int .i64 y.d]] W fun e w'=>e=.returned (.int .i64 (ff x.ky y.ky))/\∃ q os',w'=grow (W.drewN q) os':=by
 have Je:=lh (fun W'=>dl x.s y.s W')
 have IY:=lh (fun W'=>dl x.r y.r W')
 have L8:=lh (fun W'=>dl x.v y.v W')
 obtain⟨c1,h1⟩:∃ c,c=gu x.s y.s:=⟨_,rfl⟩
 obtain⟨c2,h2⟩:∃ c,c=gu x.r y.r:=⟨_,rfl⟩
 obtain⟨c3,h3⟩:∃ c,c=gu x.v y.v:=⟨_,rfl⟩
 rw [<- h1] at Je
 rw [<- h2] at IY
 rw [<- h3] at L8
 have HF:Hid (ff x.ky y.ky=mG c1 (mG c2 c3)):=by unfold Hid ff Sq.ky;rw [h1,h2,h3]
 clear h1 h2 h3
 have S0:=((Ic.start W).al #[.int .i64 x.s,.int .i64 x.r,.int .i64 x.v,.int .i64 x.d] 138 W.heap.size rfl).al #[.int .i64 y.s,.int .i64 y.r,.int .i64 y.v,.int .i64 y.d] 138 (W.heap.size+1) (by simp)
 go_enter func243,ntmps243
 go_wp2
 obtain⟨w0,hw0⟩:∃ w0,w0=(W.alloc (.cells #[.int .i64 x.s,.int .i64 x.r,.int .i64 x.v,.int .i64 x.d] 138)).alloc (.cells #[.int .i64 y.s,.int .i64 y.r,.int .i64 y.v,.int .i64 y.d] 138):=⟨_,rfl⟩
 rw [<- hw0] at S0 ⊢
 obtain⟨a0,a1,a2⟩:=aw (S0.blk 1 rfl)
 obtain⟨b0,b1,b2⟩:=aw (S0.blk 0 rfl)
 have az:=(S0.blk 1 rfl).lt
 have bz:=(S0.blk 0 rfl).lt
 simp at a0 a1 a2 b0 b1 b2
 have HS:=lh S0
 clear S0
 have HW0:=lh hw0;clear hw0
 go_region
 ·obtain⟨w1,hw1⟩:∃ w1,w1=((w0.alloc (.cells #[.int .i64 x.s,.int .i64 x.r,.int .i64 x.v] 136)).alloc (.cells #[.int .i64 y.s,.int .i64 y.r,.int .i64 y.v] 136)).drew:=⟨_,rfl⟩
  rw [<- hw1]
  have T:=(((Ic.start w0).al #[.int .i64 x.s,.int .i64 x.r,.int .i64 x.v] 136 w0.heap.size rfl).al #[.int .i64 y.s,.int .i64 y.r,.int .i64 y.v] 136 (w0.heap.size+1) (by simp)).drew
  rw [<- hw1] at T
  obtain⟨k0,k1,k2⟩:=aw (T.blk 1 rfl)
  obtain⟨l0,l1,l2⟩:=aw (T.blk 0 rfl)
  simp at k0 k1 k2 l0 l1 l2
  have HW1:=lh hw1
  clear T hw1 a0 a1 a2 b0 b1 b2 az bz
  go_wp2
  refine wp_region_still_tail 15 (by kernel_rfl) (by kernel_rfl) ?_
  simp only [List.take_succ_cons,List.take_zero,List.drop_succ_cons,List.drop_zero]
  iterate 4 still_step
  still_call (Je.out _)
  iterate 4 still_step
  still_call (IY.out _)
  iterate 4 still_step
  still_call (L8.out _)
  refine wpStill_nil ?_
  change wpList _ _ _ _ _ w1.drew
  go_wp2_with (go_at_call 216;refine(uL _ c1 c2 c3 _ (by simp) (by simp) (by simp)).mono ?_;rintro e w' ⟨rfl,rfl⟩)
  go_ret
  exact⟨dh HF.out.symm,2,#[_,_,_,_,_],by rw [HW1.out,HW0.out];exact DI _ _ _ _ _ _⟩
 ·obtain⟨w1,hw1⟩:∃ w1,w1=((w0.alloc (.cells #[.int .i64 y.s,.int .i64 y.r,.int .i64 y.v] 136)).alloc (.cells #[.int .i64 x.s,.int .i64 x.r,.int .i64 x.v] 136)).drew:=⟨_,rfl⟩
  rw [<- hw1]
  have T:=(((Ic.start w0).al #[.int .i64 y.s,.int .i64 y.r,.int .i64 y.v] 136 w0.heap.size rfl).al #[.int .i64 x.s,.int .i64 x.r,.int .i64 x.v] 136 (w0.heap.size+1) (by simp)).drew
  rw [<- hw1] at T
  obtain⟨k0,k1,k2⟩:=aw (T.blk 0 rfl)
  obtain⟨l0,l1,l2⟩:=aw (T.blk 1 rfl)
  simp at k0 k1 k2 l0 l1 l2
  have HW1:=lh hw1
  clear T hw1 a0 a1 a2 b0 b1 b2 az bz
  go_wp2
  refine wp_region_still_tail 15 (by kernel_rfl) (by kernel_rfl) ?_
  simp only [List.take_succ_cons,List.take_zero,List.drop_succ_cons,List.drop_zero]
  iterate 4 still_step
  still_call (Je.out _)
  iterate 4 still_step
  still_call (IY.out _)
  iterate 4 still_step
  still_call (L8.out _)
  refine wpStill_nil ?_
  change wpList _ _ _ _ _ w1.drew
  go_wp2_with (go_at_call 216;refine(uL _ c1 c2 c3 _ (by simp) (by simp) (by simp)).mono ?_;rintro e w' ⟨rfl,rfl⟩)
  go_ret
  exact⟨dh HF.out.symm,2,#[_,_,_,_,_],by rw [HW1.out,HW0.out];exact DI _ _ _ _ _ _⟩
end
section
open Go Go.RowKit Go.Shelf Go.Lib Go.Sort
theorem yv {W W1 w':World} {os1:Array Obj} (h1:W1=grow W os1) (h:∃ q os',w'=grow (W1.drewN q) os'):∃ q os',w'=grow (W.drewN q) os':=by
 obtain⟨q,os',rfl⟩:=h
 refine⟨q,os1 ++ os',?_⟩
 rw [h1]
 show grow (grow (W.drewN q) os1) os'=_
 rw [grow_grow]
theorem E4 (x y:Sq) (W:World):Calls prog 149 #[.agg #[.int .i64 x.s,.int .i64 x.r,.int .i64 x.v,.int .i64 x.d],.agg #[.int .i64 y.s,.int .i64 y.r,.int .i64 y.v,.int .i64 y.d]] W fun e w'=>e=.returned (.int .i64 (ff x.ky y.ky))/\∃ q os',w'=grow (W.drewN q) os':=by
 have HC:=lh (fun W'=>qk x.ky y.ky W')
 have HW:Hid ((W.alloc (.cells #[.int .i64 x.s,.int .i64 x.r,.int .i64 x.v,.int .i64 x.d] 146)).alloc (.cells #[.int .i64 y.s,.int .i64 y.r,.int .i64 y.v,.int .i64 y.d] 146)=grow W #[.cells #[.int .i64 x.s,.int .i64 x.r,.int .i64 x.v,.int .i64 x.d] 146,.cells #[.int .i64 y.s,.int .i64 y.r,.int .i64 y.v,.int .i64 y.d] 146]):=by
  unfold Hid
  rw [alloc_eq_grow,alloc_eq_grow,grow_grow];rfl
 go_enter func149,ntmps149
 go_wp2_with (go_at_call 150;go_must (refine(HC.out _).mono ?_;rintro e w1 ⟨rfl,hg⟩;have HG:=lh (yv HW.out hg);clear hg))
 go_ret
 exact⟨rfl,HG.out⟩
theorem yN (x y:Ky):ltOf ff x y=(decide (x.s<y.s) || (x.s == y.s && (decide (x.r<y.r) || (x.r == y.r && decide (x.v<y.v))))):=by
 unfold ltOf ff mG gu
 rw [Bool.eq_iff_iff]
 simp only [decide_eq_true_eq,Bool.or_eq_true,Bool.and_eq_true,beq_iff_eq]
 by_cases a:x.s<y.s <;> by_cases b:x.s=y.s <;> by_cases c:x.r<y.r <;> by_cases d:x.r=y.r <;> by_cases e:x.v<y.v <;> by_cases f:x.v=y.v <;> simp [a,b,c,d,e,f] <;> omega
theorem et (x y:Sq):ltOf ff x.ky y.ky=bH x y:=by rw [yN];rfl
theorem od (κ:Ky) (d:Int):(⟨κ.s,κ.r,κ.v,d⟩:Sq).ky=κ:=rfl
theorem GK:SWO (ltOf ff) where
 irrefl x:=by
  have:=et ⟨x.s,x.r,x.v,0⟩ ⟨x.s,x.r,x.v,0⟩
  rw [od,jJ] at this;exact this
 trans x y z h1 h2:=by
  have e1:=et ⟨x.s,x.r,x.v,0⟩ ⟨y.s,y.r,y.v,0⟩
  have e2:=et ⟨y.s,y.r,y.v,0⟩ ⟨z.s,z.r,z.v,0⟩
  have e3:=et ⟨x.s,x.r,x.v,0⟩ ⟨z.s,z.r,z.v,0⟩
  rw [od,od] at e1 e2 e3
  rw [e1] at h1;rw [e2] at h2;rw [e3]
  exact eT h1 h2
 ntrans x y z h1 h2:=by
  have e1:=et ⟨x.s,x.r,x.v,0⟩ ⟨y.s,y.r,y.v,0⟩
  have e2:=et ⟨y.s,y.r,y.v,0⟩ ⟨z.s,z.r,z.v,0⟩
  have e3:=et ⟨x.s,x.r,x.v,0⟩ ⟨z.s,z.r,z.v,0⟩
  rw [od,od] at e1 e2 e3
  rw [e1] at h1;rw [e2] at h2;rw [e3]
  exact jh h2 h1
theorem GL (x y:Ky) (h1:ltOf ff x y=false) (h2:ltOf ff y x=false):x=y:=by
 have e1:=et ⟨x.s,x.r,x.v,0⟩ ⟨y.s,y.r,y.v,0⟩
 have e2:=et ⟨y.s,y.r,y.v,0⟩ ⟨x.s,x.r,x.v,0⟩
 rw [od,od] at e1 e2
 rw [e1] at h1;rw [e2] at h2
 rcases fG ⟨x.s,x.r,x.v,0⟩ ⟨y.s,y.r,y.v,0⟩ with h | h | h
 ·rw [h] at h1;cases h1
 ·exact gJ.2 h
 ·rw [h] at h2;cases h2
def i7 (d:Ky->Int) (κ:Ky):Sq:=⟨κ.s,κ.r,κ.v,d κ⟩
def er (d:Ky->Int) (κ:Ky):List Value:=[.int .i64 κ.s,.int .i64 κ.r,.int .i64 κ.v,.int .i64 (d κ)]
def GQ (l:List Sq) (κ:Ky):Int:=match l.find? (fun x=>decide (x.ky=κ)) with | some x=>x.d | none=>0
theorem oA {l:List Sq} (h:Il l):∃ d:Ky->Int,l=(l.map Sq.ky).map (i7 d):=by
 refine⟨GQ l,?_⟩
 rw [List.map_map]
 apply List.ext_getElem
 ·simp
 ·intro i h1 h2
  have hf:l.find? (fun x=>decide (x.ky=l[i].ky))=some l[i]:=by
   cases hq:l.find? (fun x=>decide (x.ky=l[i].ky)) with
   | none =>
    have:=List.find?_eq_none.1 hq l[i] (List.getElem_mem _)
    simp at this
   | some y =>
    have h3:=List.find?_some hq
    have h4:=List.mem_of_find?_eq_some hq
    simp only [decide_eq_true_eq] at h3
    obtain⟨j,hj,rfl⟩:=List.mem_iff_getElem.1 h4
    have hij:j=i:=by
     rcases Nat.lt_trichotomy j i with hlt | he | hlt
     ·exact absurd (gJ.1 h3) ((List.pairwise_iff_getElem.1 h) j i hj h1 hlt)
     ·exact he
     ·exact absurd (gJ.1 h3.symm) ((List.pairwise_iff_getElem.1 h) i j h1 hj hlt)
    subst hij;rfl
  have hd:GQ l l[i].ky=l[i].d:=by unfold GQ;rw [hf]
  rw [List.getElem_map]
  show l[i]=⟨l[i].s,l[i].r,l[i].v,GQ l l[i].ky⟩
  rw [hd]
theorem je (d:Ky->Int) (ks:List Ky):au (ks.map (i7 d))=ks.flatMap (er d):=by
 unfold au
 rw [List.flatMap_map];rfl
theorem ro (d:Ky->Int) (ks:List Ky):(ks.mergeSort fun x y=>!(ltOf ff) y x).map (i7 d)=dL (ks.map (i7 d)):=by
 unfold dL
 refine List.map_mergeSort (f:=i7 d) (r:=fun x y=>!(ltOf ff) y x) (s:=fun a b=>!bH b a) fun a _ b _=>?_
 show (!(ltOf ff) b a)=!bH (i7 d b) (i7 d a)
 rw [<- et];rfl
theorem kL (d:Ky->Int) (ks:List Ky):(flatK (er d) 4 ks.toArray).toList=ks.flatMap (er d):=by
 rw [<- je]
 apply List.ext_getElem?
 intro t
 by_cases ht:t<ks.length*4
 ·have h1:t<(flatK (er d) 4 ks.toArray).size:=by simp;omega
  have hk:t / 4<ks.length:=by omega
  have hx:(flatK (er d) 4 ks.toArray)[t]! = (er d (ae ks (t / 4)))[t % 4]!:=by
   rw [get_flatK (er d) 4 ks.toArray t (by simpa using ht)]
   have:ks.toArray[t / 4]! = ae ks (t / 4):=by rw [getElem!_pos _ _ (by simpa using hk),ar hk];simp
   rw [this]
  have hy:=nT (ks.map (i7 d)) (t / 4) (by rw [List.length_map];exact hk)
  have hn:ae (ks.map (i7 d)) (t / 4)=i7 d (ae ks (t / 4)):=by rw [ar (by rw [List.length_map];exact hk),ar hk];simp
  rw [hn] at hy
  rw [Array.getElem?_toList,Array.getElem?_eq_getElem h1,<- getElem!_pos _ t h1,hx]
  have hl:=dq (ks.map (i7 d))
  rw [List.length_map] at hl
  rw [List.getElem?_eq_getElem (by omega)]
  congr 1
  have hz:(au (ks.map (i7 d))).getD t undef=(au (ks.map (i7 d)))[t]'(by omega):=by rw [List.getD_eq_getElem?_getD,List.getElem?_eq_getElem (by omega)];rfl
  rw [<- hz]
  have h5:t % 4=0\/t % 4=1\/t % 4=2\/t % 4=3:=by omega
  obtain⟨g1,g2,g3,g4⟩:=hy
  rcases h5 with h | h | h | h
  ·have e:t=t / 4*4:=by omega
   rw [h];conv=>rhs;rw [e]
   rw [g1];rfl
  ·have e:t=t / 4*4+1:=by omega
   rw [h];conv=>rhs;rw [e]
   rw [g2];rfl
  ·have e:t=t / 4*4+2:=by omega
   rw [h];conv=>rhs;rw [e]
   rw [g3];rfl
  ·have e:t=t / 4*4+3:=by omega
   rw [h];conv=>rhs;rw [e]
   rw [g4];rfl
 ·rw [List.getElem?_eq_none (by simp;omega),List.getElem?_eq_none (by rw [dq,List.length_map];omega)]
theorem FP (base:Nat) (q:Option Addr) (n c:Nat) (l:List Sq) (w:World) (ho:w.ownsRow base 138 4 (.slice q n c) n (au l)) (h2:Il l) (hn:n<=1000000) (hb:base<=w.heap.size) :
  Calls prog 242 #[.slice q n c,.func (.func 243) #[] #[]] w fun e w' =>
   e=.returned (.tuple #[])/\w'.ownsRow base 138 4 (.slice q n c) n (au (dL l))/\w.grownBy w' (bi q):=by
 have hl:n=l.length:=by have:=ho.1;rw [dq] at this;omega
 by_cases h0:n=0
 ·subst h0
  have hnil:l=[]:=List.eq_nil_of_length_eq_zero hl.symm
  subst hnil
  refine(AnyF.slices_SortFunc_none { Tryz.sortM with } q c (.func (.func 243) #[] #[]) w).mono ?_
  rintro e w' ⟨he,rfl⟩
  exact⟨he,by simpa [dL] using ho,World.grownBy.refl _ _⟩
 ·obtain⟨g,hq,hg⟩:=cR ho h0
  subst hq
  obtain⟨d,hd⟩:=oA h2
  obtain⟨ks,hks⟩:∃ ks,ks=l.map Sq.ky:=⟨_,rfl⟩
  rw [<- hks] at hd
  have hkl:ks.length=n:=by rw [hks,List.length_map,hl]
  have eg:∀ args w,(callFunc 243 args).run prog w=.ok (.enter 243 args) w:=enters_of func243 (by kernel_rfl) rfl
  have hH:HoldsK (er d) 4 w g 0 ks.toArray:=by
   intro j hj
   have hj2:j<n*4:=by simp at hj;omega
   have r:=Rd.of_own ho (by omega)
   have hc:=r.cells j hj2
   rw [aB] at hc
   have hv:(flatK (er d) 4 ks.toArray)[j]! = (au l).getD j undef:=by
    rw [getElem!_pos _ j hj,hd,je,<- kL,List.getD_eq_getElem?_getD,Array.getElem?_toList,Array.getElem?_eq_getElem hj];rfl
   refine⟨by rw [hv];exact hc,?_⟩
   rcases ho.2 with ⟨h1,_⟩ | ⟨g',cap,cur,h1,_,hh,_⟩
   ·cases h1
   ·injection h1 with h1;injection h1 with h1;injection h1 with h1;subst h1
    simp [World.frozen?,hh]
  have hcon:=AnyQ.slices_SortFunc_total Tryz.sortM 4 isAgg138 sizeOf138 (er d) (fun _=>rfl) (fun x v hv=>by simp [er] at hv;rcases hv with rfl | rfl | rfl | rfl <;> rfl) ff GK 243 #[] g 0 c ks.toArray w eg
   (fun m os dk hs x y=>EA (i7 d x) (i7 d y) _) hH hg (by simp;omega) GL
  have hsz:ks.toArray.size=n:=by simp [hkl]
  rw [hsz] at hcon
  refine hcon.mono ?_
  rintro e w' ⟨he,m,os,rfl⟩
  have e2:(flatK (er d) 4 (ks.toArray.toList.mergeSort fun x y=>!(ltOf ff) y x).toArray)=(au (dL l)).toArray:=by
   apply Array.toList_inj.1
   rw [kL,<- je,ro,<- hd]
  have hp:=gO ho (ys:=au (dL l)) (by rw [dq,ip,hl]) m os
  have e3:sortWorldK (er d) 4 w g 0 m (ks.toArray.toList.mergeSort fun x y=>!(ltOf ff) y x).toArray os=grow (putRow id (Sort.ahead w m) g 0 (au (dL l)).toArray) os:=by
   unfold sortWorldK putRowK;rw [e2]
  rw [e3]
  exact⟨he,hp.1,hp.2⟩
theorem xF {w0 w:World} {Γ:List Pc} (S:Ic w0 w Γ) (j:Nat) {q:Option Addr} {n c:Nat} {l:List Sq} (hj:Γ[j]?=some (.own 138 4 q n c (au l))) (h2:Il l) (hn:n<=1000000) :
  Calls prog 242 #[.slice q n c,.func (.func 243) #[] #[]] w fun e w'=>e=.returned (.tuple #[])/\Ic w0 w' (Γ.set j (.own 138 4 q n c (au (dL l)))) :=
 (FP _ q n c l w (S.own j hj) h2 hn S.ext.size).mono fun _ _ ⟨he,ho,hg⟩=>⟨he,S.put j hj _ hg (fun _ hk=>hk) (aP ho (Nat.zero_le _)) fun _ hk=>.inl hk⟩
theorem FR (base:Nat) (q:Option Addr) (n c:Nat) (l:List Sq) (w:World) (ho:w.ownsRow base 146 4 (.slice q n c) n (au l)) (h2:Il l) (hn:n<=1000000) (hb:base<=w.heap.size) :
  Calls prog 148 #[.slice q n c,.func (.func 149) #[] #[]] w fun e w' =>
   e=.returned (.tuple #[])/\w'.ownsRow base 146 4 (.slice q n c) n (au (dL l))/\w.grownBy w' (bi q):=by
 have hl:n=l.length:=by have:=ho.1;rw [dq] at this;omega
 by_cases h0:n=0
 ·subst h0
  have hnil:l=[]:=List.eq_nil_of_length_eq_zero hl.symm
  subst hnil
  refine(AnyF.slices_SortFunc_none { Tryz.sortX with } q c (.func (.func 149) #[] #[]) w).mono ?_
  rintro e w' ⟨he,rfl⟩
  exact⟨he,by simpa [dL] using ho,World.grownBy.refl _ _⟩
 ·obtain⟨g,hq,hg⟩:=cR ho h0
  subst hq
  obtain⟨d,hd⟩:=oA h2
  obtain⟨ks,hks⟩:∃ ks,ks=l.map Sq.ky:=⟨_,rfl⟩
  rw [<- hks] at hd
  have hkl:ks.length=n:=by rw [hks,List.length_map,hl]
  have eg:∀ args w,(callFunc 149 args).run prog w=.ok (.enter 149 args) w:=enters_of func149 (by kernel_rfl) rfl
  have hH:HoldsK (er d) 4 w g 0 ks.toArray:=by
   intro j hj
   have hj2:j<n*4:=by simp at hj;omega
   have r:=Rd.of_own ho (by omega)
   have hc:=r.cells j hj2
   rw [aB] at hc
   have hv:(flatK (er d) 4 ks.toArray)[j]! = (au l).getD j undef:=by
    rw [getElem!_pos _ j hj,hd,je,<- kL,List.getD_eq_getElem?_getD,Array.getElem?_toList,Array.getElem?_eq_getElem hj];rfl
   refine⟨by rw [hv];exact hc,?_⟩
   rcases ho.2 with ⟨h1,_⟩ | ⟨g',cap,cur,h1,_,hh,_⟩
   ·cases h1
   ·injection h1 with h1;injection h1 with h1;injection h1 with h1;subst h1
    simp [World.frozen?,hh]
  have hcon:=AnyQ.slices_SortFunc_total Tryz.sortX 4 isAgg146 sizeOf146 (er d) (fun _=>rfl) (fun x v hv=>by simp [er] at hv;rcases hv with rfl | rfl | rfl | rfl <;> rfl) ff GK 149 #[] g 0 c ks.toArray w eg
   (fun m os dk hs x y=>E4 (i7 d x) (i7 d y) _) hH hg (by simp;omega) GL
  have hsz:ks.toArray.size=n:=by simp [hkl]
  rw [hsz] at hcon
  refine hcon.mono ?_
  rintro e w' ⟨he,m,os,rfl⟩
  have e2:(flatK (er d) 4 (ks.toArray.toList.mergeSort fun x y=>!(ltOf ff) y x).toArray)=(au (dL l)).toArray:=by
   apply Array.toList_inj.1
   rw [kL,<- je,ro,<- hd]
  have hp:=gO ho (ys:=au (dL l)) (by rw [dq,ip,hl]) m os
  have e3:sortWorldK (er d) 4 w g 0 m (ks.toArray.toList.mergeSort fun x y=>!(ltOf ff) y x).toArray os=grow (putRow id (Sort.ahead w m) g 0 (au (dL l)).toArray) os:=by
   unfold sortWorldK putRowK;rw [e2]
  rw [e3]
  exact⟨he,hp.1,hp.2⟩
theorem xG {w0 w:World} {Γ:List Pc} (S:Ic w0 w Γ) (j:Nat) {q:Option Addr} {n c:Nat} {l:List Sq} (hj:Γ[j]?=some (.own 146 4 q n c (au l))) (h2:Il l) (hn:n<=1000000) :
  Calls prog 148 #[.slice q n c,.func (.func 149) #[] #[]] w fun e w'=>e=.returned (.tuple #[])/\Ic w0 w' (Γ.set j (.own 146 4 q n c (au (dL l)))) :=
 (FR _ q n c l w (S.own j hj) h2 hn S.ext.size).mono fun _ _ ⟨he,ho,hg⟩=>⟨he,S.put j hj _ hg (fun _ hk=>hk) (aP ho (Nat.zero_le _)) fun _ hk=>.inl hk⟩
theorem A9:(prog.info? 146).map (fun i=>(i.zero,i.size,i.bytes))=some (some (.agg #[.int .i64 0,.int .i64 0,.int .i64 0,.int .i64 0]),4,32):=by kernel_rfl
theorem Ec (p:Option Addr) (n c:Nat) (l:List Sq) (w:World) (hl:Rd w 4 p n (au l)) (hn:n<=100000) :
  Calls prog 145 #[.slice p n c] w fun e w'=>∃ q c',e=.returned (.slice q n c')/\Ic w w' [.own 146 4 q n c' (au l)]:=by
 obtain⟨i0,hi0,hz0,hz1,hz2⟩:=info_parts A9
 have hp:=hl.ptr
 cases p with
 | none =>
  have h0:n=0:=by rcases hp with h | ⟨_,_,h⟩;exact h;cases h
  subst h0
  have hnil:au l=[]:=List.eq_nil_of_length_eq_zero (by have:=hl.len;simpa using this)
  rw [hnil]
  clear hl hp hnil
  have hr:=fun W=>Lib.run_eql_slice_nil (P:=prog) W 85 146 none 0 c 0 0 underlying85
  go_enter func145,ntmps145
  go_wp2
  go_ret
  exact⟨none,0,rfl,(Ic.start w).nilrow _ _⟩
 | some ad =>
  have hr:=fun W=>Lib.run_eql_slice_nil (P:=prog) W 85 146 (some ad) n c 0 0 underlying85
  have HL:=lh hl;clear hl hp
  go_enter func145,ntmps145
  go_wp2_with (at_builtin;refine aM rfl _ _ _ rfl w.heap.size 146 i0 _ 4 32 underlying85 hi0 hz0 hz1 hz2 rfl (by omega) (some ⟨w.heap.size,0,none⟩) 0 0 [] rfl (World.ownsRow_made w #[] 0 (Nat.le_refl _) (by simp [maxLen]) rfl) (some ad) n c (au l) rfl (HL.out.ext (Ext.alloc (Below.refl _ _) _)) (cP l) (by omega) (by omega) (by simp) ?_;intro q' c' w1 hown hg hat hb)
  go_ret
  simp only [Nat.zero_add,List.nil_append] at hown
  exact⟨q',c',rfl,Ic.of_own (Below.trans ((Below.refl _ _).alloc (Nat.le_refl _) _) hb) hown⟩
end
theorem BC (x:Sq) (l:List Sq):(ld x l).length<=l.length+1:=by
 induction l with
 | nil=>simp [ld]
 | cons y l ih =>
  unfold ld
  split
  ·simp only [List.length_cons];omega
  ·split <;> simp
theorem qj (M:List Sq):(dJ M).length<=M.length:=by
 refine zo (p:=fun M=>(dJ M).length<=M.length) (by simp [dJ]) (fun l x h=>?_) M
 rw [vg,List.length_append]
 have:=BC x (dJ l)
 simp only [List.length_singleton]
 omega
theorem vq (st M:List Sq):(bI st M).length<=M.length:=Nat.le_trans (List.length_filter_le _ _) (qj M)
def mT (x:Sq):Bool:=decide (0<=x.s/\x.s<=1000/\(x.r=0\/x.r=1)/\0<=x.v/\x.v<200/\0<=x.d/\x.d<=200)
theorem kT {x:Sq}:mT x=true↔0<=x.s/\x.s<=1000/\(x.r=0\/x.r=1)/\0<=x.v/\x.v<200/\0<=x.d/\x.d<=200:=by unfold mT;rw [decide_eq_true_eq]
theorem wM {n:Nat} {x:Sq} (h:iW n x) (hn:n<=200) (h0:0<=x.d) (h1:x.d<=200):mT x=true:=by
 obtain⟨a,b,c,d⟩:=h
 exact kT.2 ⟨by omega,by omega,b,c,by omega,h0,h1⟩
theorem Hf (x:Sq) (w:World) (h:mT x=true):Calls prog 209 #[.agg #[.int .i64 x.s,.int .i64 x.r,.int .i64 x.v,.int .i64 x.d]] w fun e w'=>e=.returned (.bool true)/\Ext w w':=by
 obtain⟨h1,h2,h3,h4,h5,h6,h7⟩:=kT.1 h
 clear h
 have c1:decide (0<=x.s)=true:=by simpa using h1
 have c2:decide (x.s<=1000)=true:=by simpa using h2
 have c4:decide (0<=x.v)=true:=by simpa using h4
 have c5:decide (x.v<200)=true:=by simpa using h5
 have c6:decide (0<=x.d)=true:=by simpa using h6
 have c7:decide (x.d<=200)=true:=by simpa using h7
 have S0:=lh (((Ic.start w).al #[.int .i64 x.s,.int .i64 x.r,.int .i64 x.v,.int .i64 x.d] 274 w.heap.size rfl).al #[.int .i64 x.s,.int .i64 x.r,.int .i64 x.v] 136 (w.heap.size+1) (by simp))
 by_cases hr:x.r=0
 ·have c3:(x.r == 0)=true:=by simpa using hr
  clear h3 hr
  go_enter func209,ntmps209
  go_wp2
  go_ret
  exact⟨rfl,S0.out.ext⟩
 ·have c3:(x.r == 0)=false:=by simpa using hr
  have c8:(x.r == 1)=true:=by simp;omega
  clear h3 hr
  go_enter func209,ntmps209
  go_wp2
  go_ret
  exact⟨rfl,S0.out.ext⟩
theorem C7 (x y:Sq) (w:World):Calls prog 241 #[.agg #[.int .i64 x.s,.int .i64 x.r,.int .i64 x.v,.int .i64 x.d],.agg #[.int .i64 y.s,.int .i64 y.r,.int .i64 y.v,.int .i64 y.d]] w fun e w'=>e=.returned (.bool (decide (x.d<y.d)))/\Ext w w':=by
 have S0:=lh (((Ic.start w).al #[.int .i64 x.s,.int .i64 x.r,.int .i64 x.v,.int .i64 x.d] 274 w.heap.size rfl).al #[.int .i64 y.s,.int .i64 y.r,.int .i64 y.v,.int .i64 y.d] 138 (w.heap.size+1) (by simp))
 go_enter func241,ntmps241
 go_wp2
 go_ret
 exact⟨rfl,S0.out.ext⟩
theorem uD (p:Option Addr) (n c:Nat) (l:List Sq) (w:World) (hl:Rd w 4 p n (au l)) (hm:∀ x∈l,mT x=true) :
  Calls prog 143 #[.slice p n c] w fun e w'=>e=.returned (.bool true)/\Ext w w':=by
 have p1:=hl.ptr
 have n1:=hl.small
 have L1:=lh hl.nQ
 have HM:=lh hm
 clear hm
 have HL:=lh hl;clear hl
 go_enter func143,ntmps143
 go_wp2
 go_loopw [4,7] (fun _ i wr=>∃ k:Nat,k<=n/\i=.int .i64 k/\Ext w wr) (fun _ i _=>n - (intOf i).toNat)
 case atStart=>exact⟨0,Nat.zero_le _,rfl,Below.refl _ _⟩
 case round =>
  obtain⟨k,hk,rfl,hE⟩:=hrel
  by_cases hlt:k<n
  ·obtain⟨g1,g2,g3,g4⟩:=(HL.out.ext hE).cQ hlt
   have hx:=HM.out (ae l k) (by rw [ar (by rw [<- L1.out];exact hlt)];exact List.getElem_mem _)
   obtain⟨x,hxl⟩:∃ x,ae l k=x:=⟨_,rfl⟩
   rw [hxl] at g1 g2 g3 g4 hx
   have HC:=lh (fun W=>Hf x W hx)
   have S1:=lh (((Ic.start w).call hE).al #[.int .i64 x.s,.int .i64 x.r,.int .i64 x.v,.int .i64 x.d] 138 wr.heap.size rfl)
   have d1:(0:Int)<=k:=by omega
   have d2:(k:Int)<n:=by omega
   clear hxl hE hx
   go_wp2_with (go_at_call 209;go_must (refine(HC.out _).mono ?_;rintro e w' ⟨rfl,hb⟩;have HX:=lh (S1.out.call hb).ext;clear hb))
   go_roundw
   case rel=>exact⟨k+1,by omega,by go_num,HX.out⟩
   case measure=>simp [intOf];omega
  ·have HE:=lh hE
   clear hE
   go_wp2
   go_ret
   exact⟨rfl,HE.out⟩
section
open Go Go.RowKit Go.Maps Go.WideElems
def Ky.val (x:Ky):Value:=.agg #[.int .i64 x.s,.int .i64 x.r,.int .i64 x.v]
def Ky.lit (x:Ky):Lit:=.string (keyBytes [.int .i64 x.s,.int .i64 x.r,.int .i64 x.v])
def Ky.ok (x:Ky):Prop:=Ii x.s/\Ii x.r/\Ii x.v
theorem DQ:WideMaps.KeyLaw prog 136:=deep_law_gate (by kernel_rfl) (Nat.le_of_ble_eq_true (by kernel_rfl)) (Nat.le_of_ble_eq_true (by kernel_rfl)) (by kernel_rfl) (by kernel_rfl)
theorem tC:prog.keyType 136=true/\prog.cellsOf 136=3/\prog.cellsOf 3=1/\∃ m,prog.types.size=m+1:=⟨by kernel_rfl,by kernel_rfl,by kernel_rfl,⟨prog.types.size - 1,by kernel_rfl⟩⟩
theorem Be {x:Ky} (h:x.ok):keyOf prog 136 x.val=some x.lit:=by
 obtain⟨h1,h2,h3⟩:=h
 unfold Ii at h1 h2 h3
 have hu:=underlying136
 have hi:=underlying3
 obtain⟨f1,f2,f3,m,f4⟩:=tC
 have hf:Value.formed prog 136 x.val=true:=by
  unfold Value.formed
  rw [hu]
  simp [Ky.val,f2]
 unfold keyOf
 rw [hu,f1,hf,f4]
 have hl:prog.keyLits (m+1+1) 136 x.val.cells.toList=some [.int .i64 x.s,.int .i64 x.r,.int .i64 x.v]:=by
  unfold Program.keyLits
  rw [hu]
  simp [Ky.val,Value.cells,f2,f3,Program.keyLits,hi,h1,h2,h3]
 simp only [Bool.true_and,if_true]
 rw [hl]
 rfl
theorem jk {P:Program} {t:TypeId} (ht:P.underlying t=some (.int .i64)) {d:Nat} {u:Value} {ls:List Lit} (h:P.keyLits (d+1) t [u]=some ls):∃ x,u=.int .i64 x/\Ii x/\ls=[.int .i64 x]:=by
 unfold Program.keyLits at h
 rw [ht] at h
 cases u <;> simp at h
 obtain⟨⟨rfl,h1⟩,rfl⟩:=h
 exact⟨_,rfl,h1,rfl⟩
theorem EM {v:Value} {l:Lit} (h:keyOf prog 136 v=some l):∃ x:Ky,v=x.val/\l=x.lit/\x.ok:=by
 have hu:=underlying136
 have hi:=underlying3
 obtain⟨f1,f2,f3,m,f4⟩:=tC
 unfold keyOf at h
 rw [hu,f1,f4] at h
 simp only [Bool.true_and] at h
 split at h
 ·rename_i hf
  cases v with
  | agg cs =>
   unfold Value.formed at hf
   rw [hu] at hf
   simp only [f2,beq_iff_eq] at hf
   obtain⟨a,b,c,rfl⟩:∃ a b c,cs=#[a,b,c]:=by
    clear h hu hi f1 f2 f3 f4
    obtain⟨l⟩:=cs
    rcases l with _ | ⟨a,_ | ⟨b,_ | ⟨c,_ | ⟨d,l⟩⟩⟩⟩
    ·cases hf
    ·cases hf
    ·cases hf
    ·exact⟨a,b,c,rfl⟩
    ·simp at hf
   rw [Option.map_eq_some_iff] at h
   obtain⟨ls,h1,h2⟩:=h
   unfold Program.keyLits at h1
   rw [hu] at h1
   simp [Value.cells,f2,f3] at h1
   cases e1:prog.keyLits (m+1) 3 [a] with
   | none=>rw [e1] at h1;cases h1
   | some la =>
    cases e2:prog.keyLits (m+1) 3 [b] with
    | none=>rw [e1,e2] at h1;cases h1
    | some lb =>
     cases e3:prog.keyLits (m+1) 3 [c] with
     | none=>rw [e1,e2,e3] at h1;cases h1
     | some lc =>
      obtain⟨x,rfl,hx,rfl⟩:=jk hi e1
      obtain⟨y,rfl,hy,rfl⟩:=jk hi e2
      obtain⟨z,rfl,hz,rfl⟩:=jk hi e3
      rw [e1,e2,e3] at h1
      injection h1 with h1
      subst h1
      exact⟨⟨x,y,z⟩,rfl,h2.symm,hx,hy,hz⟩
  | _=>simp [Value.formed,hu] at hf
 ·cases h
theorem Bf {x y:Ky} (h:x.val=y.val):x=y:=by
 obtain⟨a,b,c⟩:=x
 obtain⟨a',b',c'⟩:=y
 unfold Ky.val at h
 simp at h
 obtain⟨rfl,rfl,rfl⟩:=h
 rfl
def pH:I4 prog 136:=⟨Ky.val,Ky.lit,Ky.ok,Go.Maps.Keyed.of_law DQ,fun h=>Be h,fun h=>EM h,fun hx hy h=>Bf ((Go.Maps.Keyed.of_law DQ).inj (Be hx) (h ▸ Be hy)),fun h=>Bf h⟩
end
section
open Go Go.RowKit Go.Maps Go.WideElems
def Sq.val (x:Sq):Value:=.agg #[.int .i64 x.s,.int .i64 x.r,.int .i64 x.v,.int .i64 x.d]
def Sq.dat (x:Sq):DataW Unit:=.map [(.int .i64 x.s,.map [(.int .i64 x.r,.map [(.int .i64 x.v,.lit (.int .i64 x.d))])])]
def BJ:Value->Option (DataW Unit × List MemPlace)
 | .agg ⟨[.int .i64 s,.int .i64 r,.int .i64 v,.int .i64 d]⟩=>some (Sq.dat ⟨s,r,v,d⟩,[])
 | _=>none
theorem ze (u:Value) (y:DataW Unit × List MemPlace) (h:BJ u=some y):∃ v:Sq,u=v.val:=by
 unfold BJ at h
 split at h
 ·rename_i s r v d
  exact⟨⟨s,r,v,d⟩,rfl⟩
 ·cases h
theorem CU (v v':Sq) (h:v.dat=v'.dat):v=v':=by
 obtain⟨a,b,c,d⟩:=v
 obtain⟨a',b',c',d'⟩:=v'
 unfold Sq.dat at h
 simp at h
 obtain⟨rfl,rfl,rfl,rfl⟩:=h
 rfl
def Hc (P:Program) (e:TypeId) (hz:∀ w,(zeroValue e).run P w=.ok (.agg #[.int .i64 0,.int .i64 0,.int .i64 0,.int .i64 0]) w):IG P e Sq :=
 ⟨BJ,Sq.val,Sq.dat,⟨0,0,0,0⟩,fun _=>rfl,ze,CU,hz⟩
def BH:Value->Option (DataW Unit × List MemPlace)
 | .bool b=>some (.lit (.bool b),[])
 | _=>none
theorem y9 (u:Value) (y:DataW Unit × List MemPlace) (h:BH u=some y):∃ v:Bool,u=.bool v:=by
 unfold BH at h
 split at h
 ·exact⟨_,rfl⟩
 ·cases h
def Gv (P:Program) (e:TypeId) (hz:∀ w,(zeroValue e).run P w=.ok (.bool false) w):IG P e Bool :=
 ⟨BH,.bool,fun x=>.lit (.bool x),false,fun _=>rfl,y9,fun v v' h=>by injection h with h;injection h,hz⟩
end
section
open Go Go.RowKit Go.ChangeShapes Go.WideShapes Go.ChangeAt Go.Deep Go.Joins
theorem eS {α:Type} [Inhabited α] {n:Nat} {p:Nat->α->Prop} (h:∀ i,i<n->∃ x,p i x):∃ l:List α,l.length=n/\∀ i,i<n->p i (ae l i):=by
 induction n with
 | zero=>exact⟨[],rfl,fun i hi=>by omega⟩
 | succ n ih =>
  obtain⟨l,hl,hp⟩:=ih fun i hi=>h i (by omega)
  obtain⟨x,hx⟩:=h n (by omega)
  refine⟨l ++ [x],by simp [hl],fun i hi=>?_⟩
  by_cases e:i=n
  ·subst e
   have:ae (l ++ [x]) i=x:=by subst hl;exact fV _ _
   rw [this];exact hx
  ·rw [bW _ _ _ (by omega)];exact hp i (by omega)
theorem iN {w:World} {a:Addr} {v:Value} (h:w.cell? a=some v):a=⟨a.block,a.off,none⟩:=by
 unfold World.cell? at h
 split at h
 ·split at h
  ·cases h
  ·rename_i hs
   obtain⟨b,o,s⟩:=a
   cases s with
   | none=>rfl
   | some s=>simp at hs
 ·cases h
theorem Rd.of_cells {w:World} {size n:Nat} {a:Addr} {xs:List Value} (h0:0<size) (hlen:xs.length=n*size) (hs:n<=9223372036854775807) (hc:∀ j,j<n*size->w.cell? (a.add j)=some (xs.getD j undef)):Rd w size (some a) n xs:=by
 rcases Nat.eq_zero_or_pos n with hn | hn
 ·subst hn
  have:xs=[]:=List.eq_nil_of_length_eq_zero (by simpa using hlen)
  subst this
  exact Rd.nil _ _ _
 ·have h1:=hc 0 (Nat.mul_pos hn h0)
  have ha:=iN (a:=a) (by simpa [Addr.add] using h1)
  refine⟨hlen,.inr ⟨_,_,by rw [ha]⟩,hs,fun j hj=>?_⟩
  rw [<- hc j hj]
  congr 1
  rw [ha,aB]
  by_cases hj0:j=0
  ·subst hj0;simp [Addr.add]
  ·simp [Addr.add,hj0]
section
variable {H:Type} {enc:TypeId × Value->H} {w:World} {base:Nat} {spare:Nat->Bool} {held:Bool}
theorem gM {P:Program} {t e:TypeId} {fs:Array Field} {fuel:Nat} {cs:List Value} {x:DataW H × List MemPlace} (ht:P.underlying t=some (.slice e)) (he:P.underlying e=some (.struct fs))
  (hone:oneCellFields P fs=true) (hC:P.cellsOf e=fs.size) (h:DataW.trod enc P w base spare held fuel t cs=some x) :
  (cs=[.slice none 0 0]) \/
  ∃ (a:Addr) (len cap:Nat),cs=[.slice (some a) len cap]/\len<=cap/\cap<=maxLen /\
   ∀ i,i<len->∀ (j:Nat) (f:Field),fs[j]?=some f->∃ (v:Value) (y:DataW H × List MemPlace) (n:Nat),w.cell? (a.add (i*fs.size+j))=some v/\DataW.trod enc P w base spare held n f.type [v]=some y:=by
 rcases open_slice ht h with h0 | ⟨a,len,cap,m,n,D,Pl,hcs,hb,hl,hm,hmm,hx,hi⟩
 ·exact .inl h0.1
 ·refine .inr ⟨a,len,cap,hcs,hl,hm,fun i hil j f hj=>?_⟩
  obtain⟨cs',hc,ht'⟩:=hi i (by rw [hmm];split <;> omega)
  rw [hC] at hc
  obtain⟨ys,n',hn',hy,hlen,hyl,hf⟩:=DataW.trod_struct he ht'
  obtain⟨_,hcl,hat⟩:=World.cells?_some hc
  obtain⟨ho,hk⟩:=hone_of hone j f hj
  have hjl:j<fs.size:=(Array.getElem?_eq_some_iff.1 hj).1
  have hcell:=hat j hjl
  have hv:cs'[j]?=some (cs'[j]'(by omega)):=List.getElem?_eq_getElem (by omega)
  have h1:=hf j f hj
  rw [ho,hk] at h1
  have hone':(cs'.drop j).take 1=[cs'[j]'(by omega)]:=by
   rw [List.drop_eq_getElem_cons (by omega)]
   rfl
  rw [hone'] at h1
  have hys:ys[j]?=some (ys[j]'(by omega)):=List.getElem?_eq_getElem (by omega)
  refine⟨_,_,_,?_,h1.trans hys⟩
  rw [<- Go.Deep.add_add,hcell,hv]
theorem vT {t:TypeId} {fuel:Nat} {v:Value} {x:DataW H × List MemPlace} (ht:prog.underlying t=some (.slice 9)) (h:DataW.trod enc prog w base spare held fuel t [v]=some x) :
  ∃ p n c l,v=.slice p n c/\Rd w 1 p n (bg l):=by
 rcases open_slice ht h with h0 | ⟨a,len,cap,m,n,D,Pl,hcs,hb,hl,hm,hmm,hx,hi⟩
 ·obtain⟨h0,_⟩:=h0;simp at h0;exact⟨none,0,0,[],h0,Rd.nil _ _ _⟩
 ·simp at hcs
  have hl2:len<=9223372036854775807:=by unfold maxLen at hm;omega
  have hc1:prog.cellsOf 9=1:=by kernel_rfl
  rw [hc1] at hi
  have hS:∀ i,i<len->∃ s:ByteArray,w.cell? (a.add i)=some (.string s):=by
   intro i hil
   obtain⟨cs',hc,ht'⟩:=hi i (by rw [hmm];split <;> omega)
   obtain⟨s,e1,_⟩:=DataW.trod_string underlying9 ht'
   obtain⟨_,hcl,hat⟩:=World.cells?_some hc
   have:=hat 0 (by decide)
   rw [Go.Deep.add_add,Nat.mul_one,Nat.add_zero,e1] at this
   exact⟨s,this⟩
  obtain⟨l,hll,hlc⟩:=eS hS
  refine⟨some a,len,cap,l,hcs,Rd.of_cells (by decide) (by rw [dQ,hll,Nat.mul_one]) hl2 fun j hj=>?_⟩
  rw [tg l j (by omega)]
  exact hlc j (by omega)
end
end
section
open Go Go.RowKit Go.ChangeShapes Go.WideShapes Go.ChangeAt Go.Deep Go.Joins
section
variable {H:Type} {enc:TypeId × Value->H} {w:World} {base:Nat} {spare:Nat->Bool} {held:Bool}
theorem iq {t:TypeId} {fuel:Nat} {v:Value} {x:DataW H × List MemPlace} (ht:prog.underlying t=some (.slice 3)) (h:DataW.trod enc prog w base spare held fuel t [v]=some x) :
  ∃ p n c l,v=.slice p n c/\n<=c/\Rd w 1 p n (ab l)/\∀ x∈l,Ii x:=by
 rcases open_slice ht h with h0 | ⟨a,len,cap,m,n,D,Pl,hcs,hb,hl,hm,hmm,hx,hi⟩
 ·obtain⟨h0,_⟩:=h0;simp at h0;exact⟨none,0,0,[],h0,Nat.le_refl _,Rd.nil _ _ _,fun x hx=>nomatch hx⟩
 ·simp at hcs
  have hl2:len<=9223372036854775807:=by unfold maxLen at hm;omega
  have hc1:prog.cellsOf 3=1:=by kernel_rfl
  rw [hc1] at hi
  have hS:∀ i,i<len->∃ s:Int,w.cell? (a.add i)=some (.int .i64 s)/\Ii s:=by
   intro i hil
   obtain⟨cs',hc,ht'⟩:=hi i (by rw [hmm];split <;> omega)
   obtain⟨s,e1,_,hw⟩:=DataW.trod_int underlying3 ht'
   obtain⟨_,hcl,hat⟩:=World.cells?_some hc
   have:=hat 0 (by decide)
   rw [Go.Deep.add_add,Nat.mul_one,Nat.add_zero,e1] at this
   exact⟨s,this,hw⟩
  obtain⟨l,hll,hlc⟩:=eS hS
  refine⟨some a,len,cap,l,hcs,hl,Rd.of_cells (by decide) (by rw [ep,hll,Nat.mul_one]) hl2 fun j hj=>?_,fun x hx=>?_⟩
  ·rw [tf l j (by omega)]
   exact(hlc j (by omega)).1
  ·obtain⟨j,hj,rfl⟩:=List.mem_iff_getElem.1 hx
   rw [<- ar hj]
   exact(hlc j (by omega)).2
theorem wj {t:TypeId} {fuel:Nat} {v:Value} {x:DataW H × List MemPlace} (ht:prog.underlying t=some (.slice 9)) (h:DataW.trod enc prog w base spare held fuel t [v]=some x) :
  ∃ p n c l,v=.slice p n c/\n<=c/\Rd w 1 p n (bg l):=by
 obtain⟨p,n,c,l,rfl,hr⟩:=vT ht h
 refine⟨p,n,c,l,rfl,?_,hr⟩
 rcases open_slice ht h with h0 | ⟨a,len,cap,m,n',D,Pl,hcs,hb,hl,_⟩
 ·obtain⟨h0,_⟩:=h0;simp at h0;omega
 ·simp at hcs;omega
theorem pU {t:TypeId} {fuel:Nat} {v:Value} {x:DataW H × List MemPlace} (ht:prog.underlying t=some (.slice 78)) (h:DataW.trod enc prog w base spare held fuel t [v]=some x) :
  ∃ p n c hs L,v=.slice p n c/\n<=c/\IW w p n hs L/\∀ q∈L,∀ x∈q.2,Ii x:=by
 rcases gM ht underlying78 (by kernel_rfl) (by kernel_rfl) h with h0 | ⟨a,len,cap,hcs,hl,hm,hi⟩
 ·simp at h0;exact⟨none,0,0,[],[],h0,Nat.le_refl _,⟨rfl,.inl rfl,by omega,fun k hk=>by omega,fun k hk=>by omega,fun k hk=>by omega⟩,fun q hq=>nomatch hq⟩
 ·simp at hcs
  have hl2:len<=9223372036854775807:=by unfold maxLen at hm;omega
  have hE:∀ i,i<len->∃ e:(ByteArray × List Int) × Hd,w.cell? (a.add (i*2))=some (.string e.1.1)/\w.cell? (a.add (i*2+1))=some (.slice e.2.p e.2.n e.2.c)/\Rd w 1 e.2.p e.2.n (ab e.1.2)/\∀ x∈e.1.2,Ii x:=by
   intro i hil
   obtain⟨v1,y1,n1,c1,t1⟩:=hi i hil 0 _ rfl
   obtain⟨v2,y2,n2,c2,t2⟩:=hi i hil 1 _ rfl
   obtain⟨s,e1,_⟩:=DataW.trod_string underlying9 t1
   obtain⟨p,n',c',l,e2,_,hr,hI⟩:=iq underlying25 t2
   simp at e1
   subst e1 e2
   exact⟨((s,l),⟨p,n',c'⟩),c1,c2,hr,hI⟩
  obtain⟨E,hEl,ND⟩:=eS hE
  have hm:∀ i,i<len->ae (E.map (·.1)) i=(ae E i).1/\ae (E.map (·.2)) i=(ae E i).2:=fun i hil=>by
   rw [ar (l:=E.map (·.1)) (by rw [List.length_map];omega),ar (l:=E.map (·.2)) (by rw [List.length_map];omega),ar (l:=E) (by omega)];simp
  have UY:Od (some a) len:=by
   rcases Nat.eq_zero_or_pos len with h0 | h0
   ·exact .inl h0
   ·have h1:=(ND 0 h0).1
    exact .inr ⟨_,_,by rw [iN (a:=a) (by simpa [Addr.add] using h1)]⟩
  have Qj:∀ i j,i<len->a.add (i*2+j)=be (some a) (i*2+j):=by
   intro i j hil
   have h1:=(ND 0 (by omega)).1
   have ha:=iN (a:=a) (by simpa [Addr.add] using h1)
   generalize i*2+j=m
   rw [ha,aB]
   by_cases hj0:m=0
   ·rw [hj0];simp [Addr.add]
   ·simp [Addr.add,hj0]
  refine⟨some a,len,cap,E.map (·.2),E.map (·.1),hcs,hl,⟨by simp [hEl],UY,hl2,fun k hk=>?_,fun k hk=>?_,fun k hk=>?_⟩,fun q hq=>?_⟩
  ·rw [(hm k hk).1,<- Nat.add_zero (k*2),<- Qj k 0 hk];exact(ND k hk).1
  ·rw [(hm k hk).2,<- Qj k 1 hk];exact(ND k hk).2.1
  ·rw [(hm k hk).1,(hm k hk).2];exact(ND k hk).2.2.1
  ·obtain⟨e,he,rfl⟩:=List.mem_map.1 hq
   obtain⟨j,hj,rfl⟩:=List.mem_iff_getElem.1 he
   rw [<- ar hj]
   exact(ND j (by omega)).2.2.2
theorem Bu {t e:TypeId} {r:Reach} {b0:Nat} {v:Value} {d:DataW H} {p:List MemPlace} (ht:prog.underlying t=some (.slice e)) (hv:Value.okWide prog w r b0 t v) (h:DataW.Trod enc prog w base spare held t v d p) :
  ∃ fuel,DataW.trod enc prog w base spare held fuel t [v]=some (d,p):=by
 obtain⟨a,n,c,rfl⟩:=okWide_slice ht hv
 exact h
theorem pK {r:Reach} {b0:Nat} {v:Value} {d:DataW H} {p:List MemPlace} (hv:Value.okWide prog w r b0 28 v) (h:DataW.Trod enc prog w base spare held 28 v d p) :
  ∃ p n c hs L,v=.slice p n c/\n<=c/\IW w p n hs L/\∀ q∈L,∀ x∈q.2,Ii x:=by
 obtain⟨f,hf⟩:=Bu underlying28 hv h
 exact pU underlying28 hf
end
end
section
open Go Go.RowKit Go.ChangeShapes Go.WideShapes Go.ChangeAt Go.Deep Go.Joins
def Sq.I (x:Sq):Prop:=Ii x.s/\Ii x.r/\Ii x.v/\Ii x.d
section
variable {H:Type} {enc:TypeId × Value->H} {w:World} {base:Nat} {spare:Nat->Bool} {held:Bool}
theorem vS {r:Reach} {b0:Nat} {v:Value} {d:DataW H} {p:List MemPlace} (hv:Value.okWide prog w r b0 24 v) (h:DataW.Trod enc prog w base spare held 24 v d p) :
  ∃ k f t pw nw cw ws rad most,v=.agg #[.int .i64 k,.int .i64 f,.int .i64 t,.slice pw nw cw,.int .i64 rad,.int .i64 most]/\nw<=cw/\Rd w 1 pw nw (bg ws)/\(Ii k/\Ii f/\Ii t)/\Ii rad/\Ii most:=by
 obtain⟨cs,rfl,hsz⟩:=okWide_struct underlying24 hv
 obtain⟨fuel,hf⟩:=h
 obtain⟨xs,n,_,_,hl,hx,hg⟩:=DataW.trod_struct underlying24 hf
 have hc:prog.cellsOf 24=6:=by kernel_rfl
 have hi:prog.cellsOf 3=1:=by kernel_rfl
 have hs:prog.cellsOf 22=1:=by kernel_rfl
 rw [hc] at hsz
 obtain⟨l⟩:=cs
 match l,hsz,xs,hx with
 | [c0,c1,c2,c3,c4,c5],_,[y0,y1,y2,y3,y4,y5],_ =>
  have t0:DataW.trod enc prog w base spare held n 3 [c0]=some y0:=by simpa [hi,Value.cells] using hg 0 _ rfl
  have t1:DataW.trod enc prog w base spare held n 3 [c1]=some y1:=by simpa [hi,Value.cells] using hg 1 _ rfl
  have t2:DataW.trod enc prog w base spare held n 3 [c2]=some y2:=by simpa [hi,Value.cells] using hg 2 _ rfl
  have t3:DataW.trod enc prog w base spare held n 22 [c3]=some y3:=by simpa [hs,Value.cells] using hg 3 _ rfl
  have t4:DataW.trod enc prog w base spare held n 3 [c4]=some y4:=by simpa [hi,Value.cells] using hg 4 _ rfl
  have t5:DataW.trod enc prog w base spare held n 3 [c5]=some y5:=by simpa [hi,Value.cells] using hg 5 _ rfl
  obtain⟨a0,e0,_,i0⟩:=DataW.trod_int underlying3 t0
  obtain⟨a1,e1,_,i1⟩:=DataW.trod_int underlying3 t1
  obtain⟨a2,e2,_,i2⟩:=DataW.trod_int underlying3 t2
  obtain⟨pw,nw,cw,ws,rfl,hn,hr⟩:=wj underlying22 t3
  obtain⟨a4,e4,_,i4⟩:=DataW.trod_int underlying3 t4
  obtain⟨a5,e5,_,i5⟩:=DataW.trod_int underlying3 t5
  simp at e0 e1 e2 e4 e5
  subst e0 e1 e2 e4 e5
  exact⟨a0,a1,a2,pw,nw,cw,ws,a4,a5,rfl,hn,hr,⟨i0,i1,i2⟩,i4,i5⟩
end
end
theorem Rd.newAt (w:World) (t:TypeId) (cs:List Value) (n size g:Nat) (hg:w.heap.size=g) (h:cs.length=n*size) (hn:n<=9223372036854775807):Rd (w.alloc (.cells cs.toArray t)) size (some ⟨g,0,none⟩) n cs:=by
 subst hg;exact Rd.new w t cs n size h hn
section
open Go Go.RowKit Go.Maps
theorem Cc (w:World):(zeroValue 138).run prog w=.ok (.agg #[.int .i64 0,.int .i64 0,.int .i64 0,.int .i64 0]) w:=by kernel_rfl
noncomputable def uG:IG prog 138 Sq:=Hc prog 138 Cc
theorem zK (p:Option Addr) (n c:Nat) (l:List Sq) (w:World) (hl:Rd w 4 p n (au l)) (hi:∀ x∈l,x.I) (hn:n<=100000) :
  Calls prog 207 #[.slice p n c] w fun e w'=>∃ q c',e=.returned (.slice q (dJ l).length c')/\Ic w w' [.own 138 4 q (dJ l).length c' (au (dJ l))]:=by
 obtain⟨i0,hi0,hz0,hz1,hz2⟩:=info_parts iE
 have p1:=hl.ptr
 have n1:=hl.small
 have L1:=lh hl.nQ
 have HI:=lh hi
 have HL:=lh hl
 clear hl hi
 have hmm:=@run_makeMap prog
 have S0:=lh ((Ic.start w).mkmapK (K:=pH) uG)
 go_enter func207,ntmps207
 go_wp2
 go_loopw [5,6,7,8,15] (fun _ _ _ _ i wr=>∃ (k mm:Nat) (f:Ky->Option Sq),k<=n/\mm<=k/\i=.int .i64 k/\Ic w wr [.mapK pH uG w.heap.size mm f]/\Hid (iv (l.take k) f)) (fun _ _ _ _ i _=>n - (intOf i).toNat)
 case atStart=>exact⟨0,0,_,Nat.zero_le _,Nat.le_refl _,rfl,S0.out,vH⟩
 case round =>
  clear S0
  obtain⟨k,mm,f,hk,hm,rfl,S,HF⟩:=hrel
  by_cases hlt:k<n
  ·obtain⟨g1,g2,g3,g4⟩:=(HL.out.ext S.ext).cQ hlt
   have hkl:k<l.length:=by rw [<- L1.out];exact hlt
   have hx:=HI.out (ae l k) (aY hkl)
   have HT:=lh (ak l k hkl)
   obtain⟨x,hxl⟩:∃ x,ae l k=x:=⟨_,rfl⟩
   rw [hxl] at g1 g2 g3 g4 hx HT
   have hok:pH.ok x.ky:=⟨hx.1,hx.2.1,hx.2.2.1⟩
   have S1:=lh (S.al #[.int .i64 x.s,.int .i64 x.r,.int .i64 x.v,.int .i64 x.d] 138 wr.heap.size rfl)
   have k1:=(S1.out.mapK 1 rfl).lookup_ok (t:=305) underlying305 hok
   obtain⟨W1,hW1⟩:∃ W1,wr.alloc (.cells #[.int .i64 x.s,.int .i64 x.r,.int .i64 x.v,.int .i64 x.d] 138)=W1:=⟨_,rfl⟩
   have d1:(0:Int)<=k:=by omega
   have d2:(k:Int)<n:=by omega
   clear hxl S hx
   cases hf:f x.ky with
   | none =>
    have k2:(Instr.lookup 305 (.map (some w.heap.size)) (.agg #[.int .i64 x.s,.int .i64 x.r,.int .i64 x.v]) true).run prog (wr.alloc (.cells #[.int .i64 x.s,.int .i64 x.r,.int .i64 x.v,.int .i64 x.d] 138))=.ok (.tuple #[.agg #[.int .i64 0,.int .i64 0,.int .i64 0,.int .i64 0],.bool false]) (wr.alloc (.cells #[.int .i64 x.s,.int .i64 x.r,.int .i64 x.v,.int .i64 x.d] 138)):=by rw [hf] at k1;exact k1
    have Iz:Hid (∀ y,f x.ky=some y->x.d<=y.d):=fun y h=>by rw [hf] at h;cases h
    have S2:=lh (S1.out.al #[.int .i64 0,.int .i64 0,.int .i64 0,.int .i64 0] 138 (wr.heap.size+1) (by simp))
    clear k1 hf hW1
    go_wp2_with (at_mapUpdate;go_must (refine dZ (K:=pH) (E:=uG) (P:=prog) rfl _ _ _ _ rfl underlying305 rfl S2.out 2 rfl (by omega) x.ky x rfl rfl hok ?_;intro w5 S' hg;have S5:=lh S';clear S' hg))
    go_roundw
    case rel=>exact⟨k+1,mm+1,_,by omega,by omega,by go_num,S5.out.pick [2] (by decide) rfl,by rw [HT.out];exact oh x HF.out Iz.out⟩
    case measure=>simp [intOf];omega
   | some y =>
    have k2:(Instr.lookup 305 (.map (some w.heap.size)) (.agg #[.int .i64 x.s,.int .i64 x.r,.int .i64 x.v]) true).run prog (wr.alloc (.cells #[.int .i64 x.s,.int .i64 x.r,.int .i64 x.v,.int .i64 x.d] 138))=.ok (.tuple #[.agg #[.int .i64 y.s,.int .i64 y.r,.int .i64 y.v,.int .i64 y.d],.bool true]) (wr.alloc (.cells #[.int .i64 x.s,.int .i64 x.r,.int .i64 x.v,.int .i64 x.d] 138)):=by rw [hf] at k1;exact k1
    have SY:=lh (S1.out.al #[.int .i64 y.s,.int .i64 y.r,.int .i64 y.v,.int .i64 y.d] 138 (wr.heap.size+1) (by simp))
    have HN:=lh (fun W=>C7 x y W)
    by_cases hd:x.d<y.d
    ·have Iz:Hid (∀ u,f x.ky=some u->x.d<=u.d):=fun u h=>by rw [hf] at h;injection h with h;subst h;exact Int.le_of_lt hd
     rw [decide_eq_true hd] at HN
     clear k1 hf hW1 hd
     go_wp2_with (first | (at_mapUpdate;go_must (refine dZ (K:=pH) (E:=uG) (P:=prog) rfl _ _ _ _ rfl underlying305 rfl S2.out 2 rfl (by omega) x.ky x rfl rfl hok ?_;intro w5 S' hg;have S5:=lh S';clear S' hg)) | (go_at_call 241;have _t:=SY;go_must (refine(HN.out _).mono ?_;rintro e w3 ⟨rfl,hb⟩;have S2:=lh (SY.out.call hb);have y0:=(S2.out.blk 0 rfl).cell 0;clear hb y0;obtain⟨x0,x1,x2,x3,xz⟩:=ah (S2.out.blk 1 rfl))))
     go_roundw
     case rel=>exact⟨k+1,mm+1,_,by omega,by omega,by go_num,S5.out.pick [2] (by decide) rfl,by rw [HT.out];exact oh x HF.out Iz.out⟩
     case measure=>simp [intOf];omega
    ·have Iz:Hid (∃ u,f x.ky=some u/\u.d<=x.d):=⟨y,hf,by omega⟩
     rw [decide_eq_false hd] at HN
     clear k1 hf hW1 hd
     go_wp2_with (go_at_call 241;have _t:=SY;go_must (refine(HN.out _).mono ?_;rintro e w3 ⟨rfl,hb⟩;have S2:=lh (SY.out.call hb);have y0:=(S2.out.blk 0 rfl).cell 0;clear hb y0;obtain⟨x0,x1,x2,x3,xz⟩:=ah (S2.out.blk 1 rfl)))
     go_roundw
     case rel=>exact⟨k+1,mm,f,by omega,by omega,by go_num,S2.out.pick [2] (by decide) rfl,by rw [HT.out];exact tH x HF.out Iz.out⟩
     case measure=>simp [intOf];omega
  ·obtain rfl:k=n:=by omega
   rw [List.take_of_length_le (by rw [<- L1.out];exact Nat.le_refl _)] at HF
   obtain⟨es,clock,hx1,hx2,hx3,hx4⟩:=(S.mapK 0 rfl).raw
   have HB2:=lh hx1
   have Ms:=lh hx2
   have HS2:=lh hx3
   have IU:=lh hx4
   have S2:=lh ((Ic.head (q:=Pc.mapR w.heap.size es clock) S hx1 fun k h=>h).nilrow 138 4)
   clear hx1 hx2 hx3 hx4 S
   generalize w.heap.size=b at *
   go_wp2_with (at_range;go_must (refine lF (P:=prog) (K:=pH) (E:=uG) rfl _ _ rfl underlying305 rfl HB2.out Ms.out HS2.out IU.out S2.out wr.heap.size rfl ?_;intro w3 since seen c0 cnt S' R hsz he;have S3:=lh S';have HR:=lh R;have HC:=lh (Dm R);clear S' R he hsz))
   clear S2 HB2
   generalize wr.heap.size=r at *
   go_frame
   go_loopw [9,11] (fun v9 _ wx=>∃ L q m d since seen c0 cnt left,v9=.slice q m d/\Hid (m=L.length/\m+cnt<=k)/\Ic w wx [.iter r b since seen c0,.own 138 4 q m d (au L),.mapR b es clock]/\Hid (xC pH uG es clock since seen c0 mm f left cnt)/\Hid (JJ f left L)) (fun _ _ wx=>wx.rangeLeft b r)
   case atStart=>exact⟨[],none,0,0,since,seen,c0,cnt,_,rfl,⟨rfl,by have:=HC.out;omega⟩,S3.out,HR,xV f⟩
   case round =>
    clear S3 HR HC since seen c0 cnt
    obtain⟨L,q,m,d,since,seen,c0,cnt,left,rfl,HL2,S,HR,HM⟩:=hrel
    have JI:Hid (wr.heap[b]?=some (.map es clock)):=S.all _ (List.mem_of_getElem? (show _=some (Pc.mapR b es clock) from(rfl:_[2]?=_)))
    have SH:=lh S;clear S
    go_wp2_with (at_next;go_must (refine mi (P:=prog) (K:=pH) (E:=uG) rfl _ rfl rfl JI.out SH.out 0 rfl HR.out ?_ ?_))
    ·intro hall
     have HE:=lh (xU HF.out HM.out hall)
     have NJ:=HL2.out
     have Py:=lh (xF SH.out 1 rfl HM.out.two (by omega))
     rw [HE.out] at Py
     have Mg:Hid (m=(dJ l).length):=by unfold Hid;rw [<- HE.out,ip];exact NJ.1
     clear hall NJ
     go_wp2_with (go_at_call 242;go_must (refine Py.out.mono ?_;rintro e w5 ⟨rfl,Z⟩;have S5:=lh Z;clear Z))
     go_ret
     have S6:=S5.out
     rw [Mg.out] at S6
     exact⟨q,d,by rw [Mg.out];rfl,S6.pick [1] (by decide) rfl⟩
    ·intro t w1 since' seen' c0' cnt' hx hl hfx S1 R1 hc hsz hb1 hg1 hen
     obtain⟨κ,u⟩:=t
     have Ox:(Instr.entry (.pointer (some ⟨r,0,none⟩))).run prog w1=.ok (.tuple #[.agg #[.int .i64 κ.s,.int .i64 κ.r,.int .i64 κ.v],.agg #[.int .i64 u.s,.int .i64 u.r,.int .i64 u.v,.int .i64 u.d]]) w1:=hen
     have hm1:wr.rangeLeft b r=cnt:=re JI.out (SH.out.iter 0 rfl) HR.out
     have Kz:=lh (vb HF.out HM.out hfx hl)
     have Ps:=lh hm1
     have HC:=lh hc
     have NJ:=HL2.out
     have hmk:m<=100000:=by omega
     have SX:=lh (S1.al #[.int .i64 u.s,.int .i64 u.r,.int .i64 u.v,.int .i64 u.d] 138 w1.heap.size rfl)
     have HR1:=lh R1;clear R1
     clear hg1 hsz JI hen hb1 hc hm1 hx hl hfx NJ
     go_wp2_with (at_builtin;go_must (refine am rfl _ _ _ rfl 138 i0 _ 4 32 underlying83 hi0 hz0 hz1 hz2 rfl (by omega) (SX.out.junk _) 2 q m d _ rfl rfl _ 1 1 _ rfl (Rd.newAt _ _ _ 1 4 _ (by simp) rfl (by omega)) (cP [u]) (by omega) (by omega) ?_;intro q7 d7 w7 S' U0;have S7:Hid (Ic w w7 [.iter r b since' seen' c0',.own 138 4 q7 (m+1) d7 (au (L ++ [u])),.mapR b es clock]):=(by rw [bC];exact S'.pick [1,2,3] (by decide) rfl);clear S' U0))
     go_roundw
     case rel=>exact⟨L ++ [u],q7,m+1,d7,since',seen',c0',cnt',_,rfl,(by have a1:=HL2.out;have a2:=HC.out;exact⟨by rw [List.length_append,a1.1];rfl,by omega⟩),S7.out,HR1,Kz⟩
     case measure=>rw [Ps.out,re (S7.out.all _ (List.mem_of_getElem? (show _=some (Pc.mapR b es clock) from(rfl:_[2]?=_)))) (S7.out.iter 0 rfl) HR1.out];exact HC.out
end
section
open Go Go.RowKit
section
variable {P:Program}
theorem rf (w:World) (dT sT ty elem:TypeId) (sz n b o dLen dCap:Nat) (a:Addr) (sLen sCap:Nat) (cs:List Value)
  (hu:P.underlying dT=some (.slice elem)) (hs:(P.info? elem).map (·.size)=some sz) (hn:n=Nat.min sLen dLen) (hl0:cs.length=n*sz)
  (hsrc:∀ j v,cs[j]?=some v->w.cell? (a.add j)=some v) (hc:∀ j,j<cs.length->(w.cell? ⟨b,o+j,none⟩).isSome=true) (hf:∀ j,j<cs.length->w.frozen? ⟨b,o+j,none⟩=false) (h1:∀ v∈cs,v.oneCell'=true) :
  (Builtin.copy_ #[dT,sT] ty #[.slice (some ⟨b,o,none⟩) dLen dCap,.slice (some a) sLen sCap]).run P w=.ok (goInt n) (w.setCells b o cs):=by
 have hl:=run_loadCells_list (P:=P) w a cs hsrc
 have hst:=run_storeCells_cells (P:=P) b o cs 0 w (by simpa using hc) (by simpa using hf) h1
 cases hq:P.info? elem with
 | none=>simp [hq] at hs
 | some i =>
  have hi:i.size=sz:=by simpa [hq] using hs
  rw [hl0] at hl
  simp [Builtin.copy_,run_underlying hu,Builtin.lenOf,Builtin.firstCells,sizeOf,typeInfo,hq,hi,<- hn,hl,hst]
theorem jt (w:World) (dT sT ty elem:TypeId) (sz:Nat) (d a:Option Addr) (dLen dCap sLen sCap:Nat) (hu:P.underlying dT=some (.slice elem)) (hs:(P.info? elem).map (·.size)=some sz) (hn:Nat.min sLen dLen=0) :
  (Builtin.copy_ #[dT,sT] ty #[.slice d dLen dCap,.slice a sLen sCap]).run P w=.ok (goInt 0) w:=by
 cases hq:P.info? elem with
 | none=>simp [hq] at hs
 | some i =>
  have hl:∀ (x:Addr),(loadCells x 0).run P w=.ok #[] w:=fun x=>by simpa using run_loadCells_list (P:=P) w x [] (by simp)
  cases d <;> cases a <;> simp [Builtin.copy_,run_underlying hu,Builtin.lenOf,Builtin.firstCells,sizeOf,typeInfo,hq,hn,storeCells,hl]
theorem qT {base:Nat} {e:TypeId} {size:Nat} {g n c:Nat}:∀ (cs:List Value) (o:Nat) (w:World) (xs:List Value),w.ownsRow base e size (.slice (some ⟨g,0,none⟩) n c) n xs->o+cs.length<=n*size ->
  (w.setCells g o cs).ownsRow base e size (.slice (some ⟨g,0,none⟩) n c) n (splice xs o cs)/\w.grownBy (w.setCells g o cs) (some g)
 | [],o,w,xs,ho,_=>⟨by simpa [World.setCells,splice] using ho,World.grownBy.refl _ _⟩
 | v :: cs,o,w,xs,ho,h=>by
  simp only [List.length_cons] at h
  have hl:xs.length=n*size:=ho.1
  have h1:=tX ho o (by omega) v
  have e1:be (some ⟨g,0,none⟩) o=⟨g,o,none⟩:=by simp [be]
  rw [e1] at h1
  obtain⟨h2,h3⟩:=qT cs (o+1) (w.setCell ⟨g,o,none⟩ v) (xs.set o v) h1 (by omega)
  have e2:splice (xs.set o v) (o+1) cs=splice xs o (v :: cs):=by
   unfold splice
   have hx:(xs.set o v).take (o+1)=xs.take o ++ [v]:=by
    rw [List.take_succ_eq_append_getElem (by rw [List.length_set];omega),List.take_set_of_le (Nat.le_refl _)]
    simp
   rw [hx,List.drop_set_of_lt (by omega)]
   simp [Nat.add_comm]
   omega
  rw [World.setCells,<- e2]
  refine⟨h2,?_⟩
  have hg:=dG w ⟨g,o,none⟩ v
  exact⟨h3.os.trans hg.os,h3.tape.trans hg.tape,h3.output.trans hg.output,Nat.le_trans hg.size h3.size,fun k hk hne=>(h3.block k (Nat.lt_of_lt_of_le hk hg.size) hne).trans (hg.block k hk hne)⟩
theorem kX {w:World} {base:Nat} {e:TypeId} {size:Nat} {q:Option Addr} {n c:Nat} {xs:List Value} (ho:w.ownsRow base e size (.slice q n c) n xs) (hn:0<n):∃ g,q=some ⟨g,0,none⟩:=by
 rcases ho.2 with ⟨_,h2⟩ | ⟨g,cap,cur,h1,_⟩
 ·omega
 ·injection h1 with h1;exact⟨g,h1⟩
theorem Ic.setCells {w0 w:World} {Γ:List Pc} (S:Ic w0 w Γ) (j:Nat) {e:TypeId} {size:Nat} {g n c:Nat} {xs:List Value} (hj:Γ[j]?=some (.own e size (some ⟨g,0,none⟩) n c xs)) (o:Nat) (cs:List Value) (h:o+cs.length<=n*size) :
  Ic w0 (w.setCells g o cs) (Γ.set j (.own e size (some ⟨g,0,none⟩) n c (splice xs o cs))):=by
 obtain⟨h1,h2⟩:=qT cs o w xs (S.own j hj) h
 exact S.put j hj _ h2 (fun k hk=>hk) (aP h1 (Nat.zero_le _)) fun k hk=>.inl hk
theorem iU {w0 w:World} {Γ:List Pc} {ops:Array Oper} {rest:List Oper} {o:Oper} {a:Act} {Q:Exit->Act->World->Prop} (hgd:o.guard=none) (d s:Operand) (dT sT:TypeId)
  (ho:o.op=.call { callee:=.builtin .copy,args:=#[d,s],argTypes:=#[dT,sT] }) (elem:TypeId) (hu:P.underlying dT=some (.slice elem)) (sz:Nat) (hs:(P.info? elem).map (·.size)=some sz)
  (S:Ic w0 w Γ) (j:Nat) {e:TypeId} {q:Option Addr} {n c:Nat} {xs:List Value} (hj:Γ[j]?=some (.own e sz q n c xs))
  (m off dLen dCap sLen sCap:Nat) (dp sp:Option Addr) (hd:a.eval d=.slice dp dLen dCap) (UZ:a.eval s=.slice sp sLen sCap) (hm:m=Nat.min sLen dLen) (hdp:0<m->dp=some (be q (off*sz))) (hfit:off+m<=n)
  (cs:List Value) (hr:Rd w sz sp m cs) (h1:∀ u∈cs,u.oneCell'=true)
  (h:∀ w',Ic w0 w' (Γ.set j (.own e sz q n c (splice xs (off*sz) cs)))->w'.heap.size=w.heap.size->wpList P ops Q rest (a.put o.dst (.int .i64 m)) w') :
  wpList P ops Q (o :: rest) a w:=by
 have hrl:=hr.len
 refine wpList_plain hgd fun K' hK'=>?_
 have hjl:=(List.getElem?_eq_some_iff.1 hj).1
 rcases Nat.eq_zero_or_pos m with h0 | h0
 ·have hcs:cs=[]:=List.eq_nil_of_length_eq_zero (by rw [hrl,h0];simp)
  subst hcs
  have hrun:=jt (P:=P) w dT sT o.type elem sz dp sp dLen dCap sLen sCap hu hs (by omega)
  have e1:splice xs (off*sz) []=xs:=by simp [splice]
  have e2:Γ.set j (.own e sz q n c xs)=Γ:=by
   obtain⟨h1,h2⟩:=List.getElem?_eq_some_iff.1 hj
   rw [<- h2,List.set_getElem_self]
  have hh:=h w (by rw [e1,e2];exact S) rfl
  unfold Oper.wp
  simp [execOp,ho,hd,UZ,resolve,invoke,builtin,hrun,Result.andThen]
  subst h0
  exact hK' _ _ hh
 ·have hown:=S.own j hj
  obtain⟨g,rfl⟩:=kX hown (by omega)
  obtain⟨ad,hsp⟩:∃ ad,sp=some ad:=by
   rcases hr.ptr with h2 | ⟨b,o,h2⟩
   ·omega
   ·exact⟨_,h2⟩
  have hb:off*sz+cs.length<=n*sz:=by rw [hrl,<- Nat.add_mul];exact Nat.mul_le_mul_right _ hfit
  have Qn:=hdp h0
  have e1:be (some ⟨g,0,none⟩) (off*sz)=⟨g,off*sz,none⟩:=by simp [be]
  rw [e1] at Qn
  have hrun:=rf (P:=P) w dT sT o.type elem sz m g (off*sz) dLen dCap ad sLen sCap cs hu hs hm hrl (fun k v hk=>by
   have hk2:k<m*sz:=by rw [<- hrl];exact(List.getElem?_eq_some_iff.1 hk).1
   have h3:=hr.cells k hk2
   rw [List.getD_eq_getElem?_getD,hk,Option.getD_some] at h3
   rw [<- h3]
   congr 1
   rcases hr.ptr with h2 | ⟨b,o2,h2⟩
   ·omega
   ·rw [hsp] at h2
    injection h2 with h2
    subst h2
    rw [hsp,aB]
    by_cases hk0:k=0
    ·subst hk0;simp [Addr.add]
    ·simp [Addr.add,hk0])
   (fun k hk=>by
    have h3:=bU hown (k:=off*sz+k) (by omega)
    simp only [be,Option.getD_some,Nat.zero_add] at h3
    rw [h3];rfl)
   (fun k hk=>by
    have h3:=aA hown (by omega) (off*sz+k)
    simpa [be] using h3) h1
  have hh:=h _ (S.setCells j hj (off*sz) cs hb) (by
   have:∀ (l:List Value) (o:Nat) (w:World),(w.setCells g o l).heap.size=w.heap.size:=fun l=>by
    induction l with
    | nil=>intro o w;rfl
    | cons v l ih=>intro o w;rw [World.setCells,ih];simp [World.setCell]
   exact this _ _ _)
  unfold Oper.wp
  rw [Qn] at hd
  rw [hsp] at UZ
  simp [execOp,ho,hd,UZ,resolve,invoke,builtin,hrun,Result.andThen]
  exact hK' _ _ hh
theorem vY (w:World) (t e ty:TypeId) (z:Value) (ht:P.underlying t=some (.slice e)) (hv:∀ w,(zeroValue e).run P w=.ok z w) (h1:∀ u∈z.cells.toList,u.oneCell'=true) (b o n c:Nat) (hn:0<n)
  (hc:∀ j,j<n*z.cells.size->(w.cell? ⟨b,o+j,none⟩).isSome=true) (hf:∀ j,j<n*z.cells.size->w.frozen? ⟨b,o+j,none⟩=false) :
  (Builtin.clear_ #[t] ty #[.slice (some ⟨b,o,none⟩) n c]).run P w=.ok (.tuple #[]) (w.setCells b o (Builtin.zeroCells z.cells n).toList):=by
 have hsz:(Builtin.zeroCells z.cells n).toList.length=n*z.cells.size:=by simp [Builtin.zeroCells]
 have hst:=run_storeCells_cells (P:=P) b o (Builtin.zeroCells z.cells n).toList 0 w (by rw [hsz];simpa using hc) (by rw [hsz];simpa using hf) (by
  intro u hu
  simp only [Builtin.zeroCells,Array.toList_map,List.mem_map,Array.mem_toList_iff,Array.mem_range] at hu
  obtain⟨i,hi,rfl⟩:=hu
  rcases Nat.eq_zero_or_pos z.cells.size with h0 | h0
  ·rw [h0] at hi;simp at hi
  ·rw [getElem!_pos z.cells _ (Nat.mod_lt _ h0)]
   exact h1 _ (by simp))
 simp only [Nat.add_zero] at hst
 obtain⟨m,rfl⟩:∃ m,n=m+1:=⟨n - 1,by omega⟩
 simp [Builtin.clear_,run_underlying ht,hv,hst]
end
end
section
open Go Go.RowKit
section
variable {P:Program} {w0 w:World} {Γ:List Pc}
theorem mj {ops:Array Oper} {rest:List Oper} {o:Oper} {a:Act} {Q:Exit->Act->World->Prop} (hgd:o.guard=none) (ty:TypeId) (x y:Operand) (ho:o.op=.store ty x y)
  (S:Ic w0 w Γ) (j:Nat) {e:TypeId} {size:Nat} {q:Option Addr} {n c:Nat} {xs:List Value} (hj:Γ[j]?=some (.own e size q n c xs)) (k:Nat) (hk:k<n) (cells:Array Value) (hsz:cells.size=size)
  (hx:a.eval x=.pointer (some (be q (k*size)))) (hy:a.eval y=.agg cells) (hi:(P.info? ty).map (·.size)=some cells.size) (h1:cells.all (·.oneCell')=true)
  (h:∀ w',Ic w0 w' (Γ.set j (.own e size q n c (splice xs (k*size) cells.toList)))->w'.heap.size=w.heap.size->wpList P ops Q rest (a.put o.dst undef) w'):wpList P ops Q (o :: rest) a w:=by
 have hown:=S.own j hj
 obtain⟨g,rfl⟩:=kX hown (by omega)
 have e1:be (some ⟨g,0,none⟩) (k*size)=⟨g,k*size,none⟩:=by simp [be]
 rw [e1] at hx
 have e2:(k+1)*size<=n*size:=Nat.mul_le_mul_right _ hk
 have e3:(k+1)*size=k*size+size:=Nat.succ_mul k size
 refine wpList_store_mid hgd ty x y ho g (k*size) cells hx hy (fun t ht=>?_) hi h1 (h _ (S.setCells j hj (k*size) cells.toList (by rw [Array.length_toList,hsz];omega)) ?_)
 ·have h3:=bU hown (k:=k*size+t) (by omega)
  have h4:=aA hown (by omega) (k*size+t)
  simp only [be,Option.getD_some,Nat.zero_add] at h3 h4
  exact⟨by rw [h3];rfl,h4⟩
 ·have:∀ (l:List Value) (o:Nat) (w:World),(w.setCells g o l).heap.size=w.heap.size:=fun l=>by
   induction l with
   | nil=>intro o w;rfl
   | cons v l ih=>intro o w;rw [World.setCells,ih];simp [World.setCell]
  exact this _ _ _
theorem xY (S:Ic w0 w Γ) (j:Nat) {e t:TypeId} {z:Value} {size:Nat} {q:Option Addr} {n c:Nat} {xs:List Value} (hj:Γ[j]?=some (.own e size q n c xs)) (ht:P.underlying t=some (.slice e)) (hv:∀ w,(zeroValue e).run P w=.ok z w) (hz:z.cells.size=size) (h1:∀ u∈z.cells.toList,u.oneCell'=true) (i:Nat) (hi:i<n) :
  ∃ w2,(∀ ty,(Builtin.clear_ #[t] ty #[.slice (bv q c i size) (n - i) (c - i)]).run P w=.ok (.tuple #[]) w2)/\Ic w0 w2 (Γ.set j (.own e size q i c (xs.take (i*size)))):=by
 have hown:=S.own j hj
 have hxl:xs.length=n*size:=hown.1
 have hc:=cu hown
 obtain⟨g,rfl⟩:=kX hown (by omega)
 have e0:bv (some ⟨g,0,none⟩) c i size=some ⟨g,i*size,none⟩:=by unfold bv;rw [if_neg (by omega)];simp [Addr.add_lit]
 have e1:(n - i)*size=n*size - i*size:=Nat.sub_mul n i size
 have e2:i*size<=n*size:=Nat.mul_le_mul_right _ (Nat.le_of_lt hi)
 have hlen:(Builtin.zeroCells z.cells (n - i)).toList.length=(n - i)*size:=by simp [Builtin.zeroCells,hz]
 rw [e0]
 have hs:=S.setCells j hj (i*size) (Builtin.zeroCells z.cells (n - i)).toList (by rw [hlen];omega)
 have hjl:=(List.getElem?_eq_some_iff.1 hj).1
 have ho:=hs.own j (List.getElem?_set_self hjl)
 have hsp:splice xs (i*size) (Builtin.zeroCells z.cells (n - i)).toList=xs.take (i*size) ++ ((Builtin.zeroCells z.cells (n - i)).toList ++ xs.drop (i*size+(Builtin.zeroCells z.cells (n - i)).toList.length)):=rfl
 rw [hsp] at ho hs
 have ho2:=jr (k:=i) ho (by rw [List.length_take,hxl];omega) (Nat.le_of_lt hi)
 have hf:=hs.put j (List.getElem?_set_self hjl) (.own e size (some ⟨g,0,none⟩) i c (xs.take (i*size))) (row:=none) (World.grownBy.refl _ _) (fun _ hk=>by cases hk) (aP ho2 (Nat.zero_le _)) (fun _ hk=>.inl hk)
 rw [List.set_set] at hf
 refine⟨_,fun ty=>vY w t e ty z ht hv h1 g (i*size) (n - i) (c - i) (by omega) (fun t ht=>?_) (fun t ht=>?_),hf⟩
 ·rw [hz,e1] at ht
  have h3:=bU hown (k:=i*size+t) (by omega)
  simp only [be,Option.getD_some,Nat.zero_add] at h3
  rw [h3];rfl
 ·rw [hz,e1] at ht
  have h3:=aA hown (by omega) (i*size+t)
  simpa [be] using h3
end
end
theorem Fy (n:Nat) (p:Int) (w:World) (hn:1<=n) (h2:n<=1000000000) :
  Calls prog 240 #[.int .i64 n,.int .i64 p] w fun e w'=>∃ k:Nat,k<n/\e=.returned (.tuple #[.int .i64 k,.bool true])/\w'=w:=by
 obtain⟨a,ha⟩:∃ a,p.tmod (n:Int)=a:=⟨_,rfl⟩
 have hb:-(n:Int)<a/\a<n:=by
  have h3:=Int.natAbs_tmod p n
  have h4:p.natAbs % n<n:=Nat.mod_lt _ (by omega)
  rw [ha] at h3
  simp at h3
  omega
 obtain⟨b1,b2⟩:=hb
 have d1:(1:Int)<=(n:Int):=by omega
 have d2:(n:Int)<=1000000000:=by omega
 by_cases h0:a<0
 ·go_enter func240,ntmps240
  go_wp2
  go_ret2
  exact⟨(a+n).toNat,by omega,by show Ending.returned (.tuple #[.int .i64 (a+(n:Int)),.bool true])=_;rw [Int.toNat_of_nonneg (by omega)],rfl⟩
 ·go_enter func240,ntmps240
  go_wp2
  go_ret2
  exact⟨a.toNat,by omega,by show Ending.returned (.tuple #[.int .i64 a,.bool true])=_;rw [Int.toNat_of_nonneg (by omega)],rfl⟩
theorem DW (gi gp:Nat) (pp:Option Addr) (np cp:Nat) (ps:List Int) (i m:Nat) (w w0:World) (Γ:List Pc) (ji jp:Nat) (S:Ic w0 w Γ) (hi:Γ[ji]?=some (.blk gi 3 #[.int .i64 ((i:Int) - 1)])) (hp:Γ[jp]?=some (.blk gp 25 #[.slice pp np cp])) (hne:ji≠jp) (hps:Rd w0 1 pp np (ab ps)) (h1:1<=m) (hm:m<=1000000000) (h3:i<=1000000000) :
  Calls prog 239 #[.int .i64 m,.pointer (some ⟨gi,0,none⟩),.pointer (some ⟨gp,0,none⟩)] w fun e w'=>∃ k:Nat,k<m/\e=.returned (.int .i64 k)/\Ic w0 w' (Γ.set ji (.blk gi 3 #[.int .i64 (((i+1:Nat):Int) - 1)])):=by
 obtain⟨a0,az,af⟩:=cZ (S.blk ji hi)
 have hp2:(Γ.set ji (.blk gi 3 #[.int .i64 (i:Int)]))[jp]?=some (.blk gp 25 #[.slice pp np cp]):=by rw [List.getElem?_set_ne hne];exact hp
 have S1:=lh (show Ic w0 (w.setCell ⟨gi,0,none⟩ (.int .i64 (i:Int))) (Γ.set ji (.blk gi 3 #[.int .i64 (i:Int)])) from S.set ji hi 0 (.int .i64 (i:Int)))
 obtain⟨b0,bz⟩:=fj (S1.out.blk jp hp2)
 have hi2:(Γ.set ji (.blk gi 3 #[.int .i64 (i:Int)]))[ji]?=some (.blk gi 3 #[.int .i64 (i:Int)]):=List.getElem?_set_self (List.getElem?_eq_some_iff.1 hi).1
 obtain⟨c0,cz⟩:=fj (S1.out.blk ji hi2)
 have p1:=hps.ptr
 have n1:=hps.small
 have HP:=lh (hps.ext S1.out.ext)
 have HE:Hid (∀ k:Nat,k<m->∀ w',Ic w0 w' (Γ.set ji (.blk gi 3 #[.int .i64 (i:Int)]))->∃ k':Nat,k'<m/\Ending.returned (.int .i64 (k:Int))=.returned (.int .i64 k')/\Ic w0 w' (Γ.set ji (.blk gi 3 #[.int .i64 (((i+1:Nat):Int) - 1)]))):=fun k hk w' h=>⟨k,hk,rfl,by rw [show ((i+1:Nat):Int) - 1=(i:Int) by omega];exact h⟩
 have HG:=lh (fun p w'=>Fy m p w' h1 hm)
 simp at a0 b0 c0
 have q1:(i:Int) - 1+1=(i:Int):=by omega
 have q2:(0:Int)<=(i:Int):=by omega
 have q3:(i:Int)<=1000000000:=by omega
 clear S hi hp hp2 hi2 hps
 by_cases hlt:i<np
 ·have g1:=HP.out.cI hlt
  have e1:decide ((np:Int)<=(i:Int))=false:=by simp;omega
  go_enter func239,ntmps239
  go_wp2_with (go_at_call 240;refine(HG.out _ _).mono ?_;rintro e w' ⟨k,hk,rfl,rfl⟩)
  go_ret
  exact HE.out k hk _ S1.out
 ·have e1:decide ((np:Int)<=(i:Int))=true:=by simp;omega
  go_enter func239,ntmps239
  go_wp2
  go_ret
  exact HE.out 0 (by omega) _ S1.out
section
open Go Go.RowKit
theorem uq {xs:List Value} {i k sz:Nat} (h:xs.length=k*sz) (hi:i<k):(splice xs (i*sz) (xs.drop ((i+1)*sz))).take ((k - 1)*sz)=xs.take (i*sz) ++ xs.drop ((i+1)*sz):=by
 have e1:(i+1)*sz<=k*sz:=Nat.mul_le_mul_right _ hi
 have e2:(i+1)*sz=i*sz+sz:=Nat.succ_mul i sz
 have e3:(k - 1)*sz+sz=k*sz:=by rw [<- Nat.succ_mul];congr 1;omega
 unfold splice
 rw [<- List.append_assoc,List.take_append_of_le_length]
 ·rw [List.take_of_length_le]
  rw [List.length_append,List.length_take,List.length_drop,h];omega
 ·rw [List.length_append,List.length_take,List.length_drop,h];omega
theorem oV {xs cs:List Value} (h:xs.length=cs.length):splice xs 0 cs=cs:=by
 unfold splice
 rw [List.take_zero,List.nil_append,Nat.zero_add,List.drop_of_length_le (by omega),List.append_nil]
theorem pC (l:List Int) (i:Nat):ab (l.eraseIdx i)=(ab l).take (i*1) ++ (ab l).drop ((i+1)*1):=by
 unfold ab
 rw [List.eraseIdx_eq_take_drop_succ,List.map_append,List.map_take,List.map_drop,Nat.mul_one,Nat.mul_one]
theorem lP (l:List Sq) (i:Nat):au (l.take i)=(au l).take (i*4):=by
 induction l generalizing i with
 | nil=>simp [au]
 | cons x l ih =>
  cases i with
  | zero=>simp [au]
  | succ i =>
   rw [List.take_succ_cons]
   show [Value.int .i64 x.s,.int .i64 x.r,.int .i64 x.v,.int .i64 x.d] ++ au (l.take i)=List.take ((i+1)*4) ([Value.int .i64 x.s,.int .i64 x.r,.int .i64 x.v,.int .i64 x.d] ++ au l)
   rw [ih,show (i+1)*4=i*4+4 from by omega]
   rfl
theorem qw (l:List Sq) (i:Nat):au (l.drop i)=(au l).drop (i*4):=by
 induction l generalizing i with
 | nil=>simp [au]
 | cons x l ih =>
  cases i with
  | zero=>simp
  | succ i =>
   rw [List.drop_succ_cons]
   show au (l.drop i)=List.drop ((i+1)*4) ([Value.int .i64 x.s,.int .i64 x.r,.int .i64 x.v,.int .i64 x.d] ++ au l)
   rw [ih,show (i+1)*4=i*4+4 from by omega]
   rfl
theorem pE (l:List Sq) (i:Nat):au (l.eraseIdx i)=(au l).take (i*4) ++ (au l).drop ((i+1)*4):=by
 rw [List.eraseIdx_eq_take_drop_succ,bC,lP,qw]
theorem EK:(prog.info? 138).map (·.size)=some 4:=by kernel_rfl
theorem DM:(prog.info? 3).map (·.size)=some 1:=by kernel_rfl
section
variable {P:Program} {w0 w:World} {Γ:List Pc}
theorem nN (S:Ic w0 w Γ) (j:Nat) {e:TypeId} {sz:Nat} {q:Option Addr} {k c:Nat} {xs:List Value} (hj:Γ[j]?=some (.own e sz q k c xs)) (dT sT ty elem:TypeId) (hu:P.underlying dT=some (.slice elem)) (hs:(P.info? elem).map (·.size)=some sz) (hsz:0<sz)
  (h1:∀ u∈xs,u.oneCell'=true) (i:Nat) (hi:i<k) :
  ∃ w2,(Builtin.copy_ #[dT,sT] ty #[.slice (bv q c i sz) (k - i) (c - i),.slice (bv q c (i+1) sz) (k - (i+1)) (c - (i+1))]).run P w=.ok (.int .i64 ((k - (i+1):Nat):Int)) w2 /\
   Ic w0 w2 (Γ.set j (.own e sz q (k - 1) c (xs.take (i*sz) ++ xs.drop ((i+1)*sz)))):=by
 have hown:=S.own j hj
 have hxl:xs.length=k*sz:=hown.1
 have hkc:=cu hown
 obtain⟨g,rfl⟩:=kX hown (by omega)
 have e1:(i+1)*sz<=k*sz:=Nat.mul_le_mul_right _ hi
 have e2:(i+1)*sz=i*sz+sz:=Nat.succ_mul i sz
 have hmin:Nat.min (k - (i+1)) (k - i)=k - (i+1):=by show min _ _=_;omega
 have hdl:(xs.drop ((i+1)*sz)).length=(k - (i+1))*sz:=by rw [List.length_drop,hxl,Nat.sub_mul]
 have fin:∀ w2,Ic w0 w2 (Γ.set j (.own e sz (some ⟨g,0,none⟩) k c (splice xs (i*sz) (xs.drop ((i+1)*sz)))))->Ic w0 w2 (Γ.set j (.own e sz (some ⟨g,0,none⟩) (k - 1) c (xs.take (i*sz) ++ xs.drop ((i+1)*sz)))):=fun w2 h=>by
  have hjl:=(List.getElem?_eq_some_iff.1 hj).1
  have ho:=h.own j (List.getElem?_set_self hjl)
  have hsp:splice xs (i*sz) (xs.drop ((i+1)*sz))=(xs.take (i*sz) ++ xs.drop ((i+1)*sz)) ++ (splice xs (i*sz) (xs.drop ((i+1)*sz))).drop ((k - 1)*sz):=by
   rw [<- uq hxl hi,List.take_append_drop]
  rw [hsp] at ho
  have ho2:=jr (k:=k - 1) ho (by rw [List.length_append,List.length_take,hdl,hxl,show k - 1=i+(k - (i+1)) from by omega,Nat.add_mul];omega) (by omega)
  have:=h.put j (List.getElem?_set_self hjl) (.own e sz (some ⟨g,0,none⟩) (k - 1) c (xs.take (i*sz) ++ xs.drop ((i+1)*sz))) (row:=none) (World.grownBy.refl _ _) (fun _ hk=>by cases hk) (aP ho2 (Nat.zero_le _)) (fun _ hk=>.inl hk)
  rwa [List.set_set] at this
 rcases Nat.eq_zero_or_pos (k - (i+1)) with h0 | h0
 ·refine⟨w,?_,fin w ?_⟩
  ·rw [h0] at hmin ⊢
   exact jt w dT sT ty elem sz _ _ _ _ _ _ hu hs hmin
  ·have hnil:xs.drop ((i+1)*sz)=[]:=List.eq_nil_of_length_eq_zero (by rw [hdl,h0,Nat.zero_mul])
   have e3:splice xs (i*sz) (xs.drop ((i+1)*sz))=xs:=by rw [hnil];simp [splice]
   rw [e3]
   have e4:Γ.set j (.own e sz (some ⟨g,0,none⟩) k c xs)=Γ:=by
    obtain⟨h1,h2⟩:=List.getElem?_eq_some_iff.1 hj
    rw [<- h2,List.set_getElem_self]
   rw [e4];exact S
 ·have hc1:bv (some ⟨g,0,none⟩) c i sz=some ⟨g,i*sz,none⟩:=by unfold bv;rw [if_neg (by omega)];simp [Addr.add_lit]
  have hc2:bv (some ⟨g,0,none⟩) c (i+1) sz=some ⟨g,(i+1)*sz,none⟩:=by unfold bv;rw [if_neg (by omega)];simp [Addr.add_lit]
  rw [hc1,hc2]
  refine⟨w.setCells g (i*sz) (xs.drop ((i+1)*sz)),?_,fin _ (S.setCells j hj (i*sz) _ (by rw [hdl];rw [<- Nat.add_mul];exact Nat.mul_le_mul_right _ (by omega)))⟩
  refine rf w dT sT ty elem sz (k - (i+1)) g (i*sz) (k - i) (c - i) ⟨g,(i+1)*sz,none⟩ (k - (i+1)) (c - (i+1)) _ hu hs hmin.symm hdl (fun t v ht=>?_) (fun t ht=>?_) (fun t ht=>?_) (fun v hv=>h1 v (List.mem_of_mem_drop hv))
  ·have ht2:t<(k - (i+1))*sz:=by rw [<- hdl];exact(List.getElem?_eq_some_iff.1 ht).1
   rw [List.getElem?_drop] at ht
   have hlt:(i+1)*sz+t<k*sz:=by rw [<- hxl];exact(List.getElem?_eq_some_iff.1 ht).1
   have:=bU hown hlt
   rw [List.getD_eq_getElem?_getD,ht,aB] at this
   rw [Addr.add_lit]
   simpa using this
  ·rw [hdl,Nat.sub_mul] at ht
   have:=bU hown (k:=i*sz+t) (by omega)
   rw [aB] at this
   simp only [Nat.zero_add] at this
   rw [this];rfl
  ·rw [hdl,Nat.sub_mul] at ht
   have:=aA hown (by omega) (i*sz+t)
   rw [aB] at this
   simpa using this
end
end
section
open Go Go.RowKit Go.Maps
theorem Fc (w:World):(zeroValue 4).run prog w=.ok (.bool false) w:=by kernel_rfl
noncomputable def sw:IG prog 4 Bool:=Gv prog 4 Fc
theorem wJ (gt b m:Nat) (f:Ky->Option Bool) (x:Sq) (w:World) (hB:Ih w gt 272 #[.map (some b)]) (hM:Ir pH sw b m f w) (hx:pH.ok x.ky) :
  Calls prog 208 #[.agg #[.int .i64 x.s,.int .i64 x.r,.int .i64 x.v,.int .i64 x.d],.pointer (some ⟨gt,0,none⟩)] w fun e w'=>e=.returned (.bool ((f x.ky).getD false))/\Ext w w':=by
 have b0:w.cell? ⟨gt,0,none⟩=some (.map (some b)):=hB.cell 0
 have bz:=hB.lt
 have hE:=((Ic.start w).al #[.int .i64 x.s,.int .i64 x.r,.int .i64 x.v,.int .i64 x.d] 138 w.heap.size rfl).ext
 have k0:=(hM.ext hE).lookup (t:=272) underlying272 hx
 have k1:(Instr.lookup 272 (.map (some b)) (.agg #[.int .i64 x.s,.int .i64 x.r,.int .i64 x.v]) false).run prog (w.alloc (.cells #[.int .i64 x.s,.int .i64 x.r,.int .i64 x.v,.int .i64 x.d] 138))=.ok (.bool ((f x.ky).getD false)) (w.alloc (.cells #[.int .i64 x.s,.int .i64 x.r,.int .i64 x.v,.int .i64 x.d] 138)):=k0
 have HE:=lh hE
 clear hB hM hx hE k0
 generalize ((f x.ky).getD false)=r at *
 go_enter func208,ntmps208
 go_wp2
 go_ret
 exact⟨rfl,HE.out⟩
theorem uH (gt b m:Nat) (f:Ky->Option Bool) (p:Option Addr) (n c:Nat) (l:List Sq) (w:World) (hl:Rd w 4 p n (au l)) (hB:Ih w gt 272 #[.map (some b)]) (hM:Ir pH sw b m f w) (hx:∀ x∈l,pH.ok x.ky) :
  Calls prog 210 #[.slice p n c,.func (.func 208) #[] #[.pointer (some ⟨gt,0,none⟩)]] w fun e w'=>∃ i:Int,e=.returned (.int .i64 i)/\Ext w w'/\((i = -1/\∀ j,j<n->((f (ae l j).ky).getD false)=false)\/∃ k:Nat,i=k/\k<n/\((f (ae l k).ky).getD false)=true/\∀ j,j<k->((f (ae l j).ky).getD false)=false):=by
 have p1:=hl.ptr
 have n1:=hl.small
 have l1:=hl.nQ
 have HL:=lh hl;clear hl
 have L1:=lh l1;clear l1
 have HX:=lh hx;clear hx
 have HC:=lh (fun x W (h:Ext w W) hx=>wJ gt b m f x W (hB.ext h) (hM.ext h) hx)
 clear hB hM
 go_enter func210,ntmps210
 go_wp2
 go_loopw [5,8] (fun _ i wr=>∃ k:Nat,k<=n/\i=.int .i64 k/\Hid (∀ j,j<k->((f (ae l j).ky).getD false)=false)/\Ext w wr) (fun _ i _=>n - (intOf i).toNat)
 case atStart=>exact⟨0,Nat.zero_le _,rfl,fun j hj=>by omega,Below.refl _ _⟩
 case round =>
  obtain⟨k,hk,rfl,HA,hE⟩:=hrel
  by_cases hlt:k<n
  ·obtain⟨g1,g2,g3,g4⟩:=(HL.out.ext hE).cQ hlt
   have hkl:k<l.length:=by rw [<- L1.out];exact hlt
   have IY:=lh (HC.out (ae l k) wr hE (HX.out _ (aY hkl)))
   have d1:(0:Int)<=k:=by omega
   have d2:(k:Int)<n:=by omega
   have HE:=lh hE
   clear hE
   cases hr:((f (ae l k).ky).getD false) with
   | true =>
    have HR:=lh hr
    rw [hr] at IY
    clear hr hkl
    generalize ae l k=x at IY g1 g2 g3 g4
    go_wp2_with (go_at_call 208;go_must (refine IY.out.mono ?_;rintro e w' ⟨rfl,hb⟩;have QV:=lh (Ext.trans HE.out hb);clear hb))
    go_ret
    exact⟨_,rfl,QV.out,.inr ⟨k,rfl,hlt,HR.out,HA.out⟩⟩
   | false =>
    have HR:=lh hr
    rw [hr] at IY
    clear hr hkl
    generalize ae l k=x at IY g1 g2 g3 g4
    go_wp2_with (go_at_call 208;go_must (refine IY.out.mono ?_;rintro e w' ⟨rfl,hb⟩;have QV:=lh (Ext.trans HE.out hb);clear hb))
    go_roundw
    case rel=>exact⟨k+1,by omega,by go_num,fun j hj=>by
     rcases Nat.lt_or_ge j k with h | h
     ·exact HA.out j h
     ·obtain rfl:j=k:=by omega
      exact HR.out,QV.out⟩
    case measure=>simp [intOf];omega
  ·have HE:=lh hE
   clear hE
   go_wp2
   go_ret
   exact⟨_,rfl,HE.out,.inl ⟨rfl,fun j hj=>HA.out j (by omega)⟩⟩
end
section
open Go Go.RowKit Go.Maps
structure Ji (pr:Sq->Bool) (l X:List Sq) (i j:Nat):Prop where
 len:X.length=l.length
 lt:i<j
 le:j<=l.length
 low:X.take i=(l.take j).filter fun x=>!pr x
 high:X.drop j=l.drop j
theorem vC {pr:Sq->Bool} {l:List Sq} {k:Nat} (hk:k<l.length) (ht:pr (ae l k)=true) (h:∀ j,j<k->pr (ae l j)=false):Ji pr l l k (k+1):=by
 refine⟨rfl,by omega,hk,?_,rfl⟩
 rw [ak l k hk,List.filter_append]
 have h1:(l.take k).filter (fun x=>!pr x)=l.take k:=List.filter_eq_self.2 fun x hx=>by
  obtain⟨i,hi,rfl⟩:=List.mem_iff_getElem.1 hx
  rw [List.length_take] at hi
  have:=h i (by omega)
  rw [ar (by omega)] at this
  rw [List.getElem_take,this];rfl
 rw [h1];simp [ht]
theorem Bc {pr:Sq->Bool} {l X:List Sq} {i j:Nat} (h:Ji pr l X i j) (hj:j<l.length):ae X j=ae l j:=by
 have:=h.high
 rw [kH X j (by rw [h.len];exact hj),kH l j hj] at this
 injection this
theorem yI {pr:Sq->Bool} {l X:List Sq} {i j:Nat} (h:Ji pr l X i j) (hj:j<l.length) (hp:pr (ae l j)=true):Ji pr l X i (j+1):=by
 refine⟨h.len,by have:=h.lt;omega,hj,?_,?_⟩
 ·rw [h.low,ak l j hj,List.filter_append];simp [hp]
 ·rw [<- List.drop_drop,h.high,List.drop_drop]
theorem yH {pr:Sq->Bool} {l X:List Sq} {i j:Nat} (h:Ji pr l X i j) (hj:j<l.length) (hp:pr (ae l j)=false):Ji pr l (X.set i (ae l j)) (i+1) (j+1):=by
 have h1:=h.lt
 have h2:=h.len
 refine⟨by rw [List.length_set];exact h.len,by omega,hj,?_,?_⟩
 ·rw [List.take_succ_eq_append_getElem (by rw [List.length_set];omega),List.take_set_of_le (Nat.le_refl _),h.low,ak l j hj,List.filter_append]
  simp [hp]
 ·rw [List.drop_set_of_lt (by omega),<- List.drop_drop,h.high,List.drop_drop]
theorem AQ (X:List Sq) (i:Nat) (x:Sq) (h:i<X.length):splice (au X) (i*4) [.int .i64 x.s,.int .i64 x.r,.int .i64 x.v,.int .i64 x.d]=au (X.set i x):=by
 have e:X.set i x=X.take i ++ ([x] ++ X.drop (i+1)):=by
  rw [List.set_eq_take_append_cons_drop,if_pos h];rfl
 rw [e,bC,bC,lP,qw,show (i+1)*4=i*4+4 from by omega]
 rfl
theorem yo {pr:Sq->Bool} {l:List Sq} (h:∀ j,j<l.length->pr (ae l j)=false):l.filter (fun x=>!pr x)=l:=List.filter_eq_self.2 fun x hx=>by
 obtain⟨i,hi,rfl⟩:=List.mem_iff_getElem.1 hx
 have:=h i hi
 rw [ar hi] at this
 rw [this];rfl
theorem sv (gt b m:Nat) (f:Ky->Option Bool) (q:Option Addr) (n c:Nat) (l:List Sq) (w w0:World) (S:Ic w0 w [.own 138 4 q n c (au l),.blk gt 272 #[.map (some b)],.mapK pH sw b m f]) (hx:∀ x∈l,pH.ok x.ky) (hn:n<=100000) :
  Calls prog 206 #[.slice q n c,.func (.func 208) #[] #[.pointer (some ⟨gt,0,none⟩)]] w fun e w'=>e=.returned (.slice q (l.filter fun x=>!((f x.ky).getD false)).length c)/\Ic w0 w' [.own 138 4 q (l.filter fun x=>!((f x.ky).getD false)).length c (au (l.filter fun x=>!((f x.ky).getD false))),.blk gt 272 #[.map (some b)],.mapK pH sw b m f]:=by
 have hI:=uH gt b m f q n c l w (S.rdx 0 rfl) (S.blk 1 rfl) (S.mapK 2 rfl) hx
 have L1:=lh (S.rdx 0 rfl).nQ
 have HX:=lh hx
 have VE:=lh hI
 have kc:n<=c:=cu (S.own 0 rfl)
 have S0:=lh S;clear S
 clear hx hI
 obtain⟨pr,hpr⟩:∃ pr:Sq->Bool,(fun x:Sq=>((f x.ky).getD false))=pr:=⟨_,rfl⟩
 have hpx:∀ x:Sq,((f x.ky).getD false)=pr x:=fun x=>congrFun hpr x
 have hfe:(fun x:Sq=>!((f x.ky).getD false))=fun x=>!pr x:=funext fun x=>by rw [hpx]
 rw [hfe]
 have P6:=lh hpx
 clear hpr hpx hfe
 by_cases hall:∀ j,j<n->pr (ae l j)=false
 ·have HF:Hid (l.filter (fun x=>!pr x)=l):=yo fun j hj=>hall j (by rw [L1.out];exact hj)
  have Pg:=lh hall
  clear hall
  rw [HF.out]
  go_enter func206,ntmps206
  go_wp2_with (go_at_call 210;go_must (refine VE.out.mono ?_;rintro e w1 ⟨i,rfl,hb,hc⟩;have S1:=lh (S0.out.call hb);obtain rfl:i = -1:=(hc.resolve_right (by rintro⟨k,_,h1,h2,_⟩;rw [P6.out,Pg.out k h1] at h2;cases h2)).1;clear hc hb))
  go_ret
  exact⟨by rw [<- L1.out];rfl,by rw [<- L1.out];exact S1.out⟩
 ·have Pg:=lh hall
  clear hall
  go_enter func206,ntmps206
  go_wp2_with (go_at_call 210;go_must (refine VE.out.mono ?_;rintro e w1 ⟨i,rfl,hb,hc⟩;have S1:=lh (S0.out.call hb);obtain⟨k0,rfl,hk0,ht,hbef⟩:=hc.resolve_left (by rintro⟨_,h1⟩;exact Pg.out fun j hj=>by rw [<- P6.out];exact h1 j hj);have HK:=lh (vC (pr:=pr) (l:=l) (k:=k0) (by rw [<- L1.out];exact hk0) (by rw [<- P6.out];exact ht) (fun j hj=>by rw [<- P6.out];exact hbef j hj));have e0:((k0:Int) == -1)=false:=(beq_eq_false_iff_ne.2 (by omega));clear hb ht hbef))
  go_loopw [5,6,7] (fun v5 v6 _ wr=>∃ (i j:Nat) (X:List Sq),v5=.int .i64 i/\v6=.int .i64 j/\i<j/\j<=n/\Hid (Ji pr l X i j)/\Hid (Ic w0 wr [.own 138 4 q n c (au X),.blk gt 272 #[.map (some b)],.mapK pH sw b m f])) (fun _ v6 _ _=>n - (intOf v6).toNat)
  case atStart=>exact⟨k0,k0+1,l,rfl,by go_num,by omega,by omega,HK,S1⟩
  case round =>
   clear S1 HK e0 hk0
   obtain⟨i,j,X,rfl,rfl,hij,hj,HK,S⟩:=hrel
   by_cases hlt:j<n
   ·have hjl:j<l.length:=by rw [<- L1.out];exact hlt
    have hnx:=Bc HK.out hjl
    obtain⟨g1,g2,g3,g4⟩:=(S.out.rdx 0 rfl).cQ hlt
    rw [hnx] at g1 g2 g3 g4
    have pq:=(S.out.rdx 0 rfl).ptr
    have Iq:=lh (HX.out _ (aY hjl))
    have d1:(0:Int)<=i:=by omega
    have d2:(i:Int)<n:=by omega
    have d3:(0:Int)<=j:=by omega
    have d4:(j:Int)<n:=by omega
    have d5:(n:Int)<=100000:=by omega
    have SB:=lh (S.out.al #[.int .i64 (ae l j).s,.int .i64 (ae l j).r,.int .i64 (ae l j).v,.int .i64 (ae l j).d] 138 wr.heap.size rfl)
    have HC:=lh (wJ gt b m f (ae l j) _ (SB.out.blk 2 rfl) (SB.out.mapK 3 rfl) Iq.out)
    rw [P6.out] at HC
    cases hp:pr (ae l j) with
    | true =>
     have Mf:=lh (yI HK.out hjl hp)
     rw [hp] at HC
     clear hp hnx S HK hjl Iq
     generalize ae l j=x at *
     go_wp2_with (go_at_call 208;go_must (refine HC.out.mono ?_;rintro e w' ⟨rfl,hb⟩;have S2:=lh (SB.out.call hb);clear hb))
     go_roundw
     case rel=>exact⟨i,j+1,X,rfl,by go_num,by omega,by omega,Mf,S2.out.pick [1,2,3] (by decide) rfl⟩
     case measure=>simp [intOf];omega
    | false =>
     have Mf:=lh (yH HK.out hjl hp)
     have hil:i<X.length:=by rw [HK.out.len];omega
     have Xp:=lh (fun x=>AQ X i x hil)
     rw [hp] at HC
     clear hp hnx S HK hjl Iq hil
     generalize ae l j=x at *
     go_wp2_with (first
      | (have _t:=S2;with_reducible show wpList _ _ _ (⟨none,.store 138 (.tmp 33) _,_,_,_,_⟩:: _) _ _;go_must (refine mj rfl 138 _ _ rfl S2.out 1 rfl i (by omega) #[.int .i64 x.s,.int .i64 x.r,.int .i64 x.v,.int .i64 x.d] (by simp) rfl rfl (by rw [EK];simp) (by simp [Value.oneCell']) ?_;intro w5 S' hsz;have S5:=lh S';clear S' hsz))
      | (go_at_call 208;go_must (refine HC.out.mono ?_;rintro e w' ⟨rfl,hb⟩;have S2:=lh (SB.out.call hb);obtain⟨x0,x1,x2,x3,xz⟩:=ah (S2.out.blk 0 rfl);clear hb)))
     go_roundw
     case rel=>exact⟨i+1,j+1,X.set i x,by go_num,by go_num,by omega,by omega,Mf,by rw [<- Xp.out];exact S5.out.pick [1,2,3] (by decide) rfl⟩
     case measure=>simp [intOf];omega
   ·obtain rfl:j=n:=by omega
    have d1:(0:Int)<=i:=by omega
    have d2:(i:Int)<j:=by omega
    have d5:(j:Int)<=100000:=by omega
    obtain⟨w2,hcl,S'⟩:=xY (P:=prog) (t:=83) (z:=.agg #[.int .i64 0,.int .i64 0,.int .i64 0,.int .i64 0]) S.out 0 rfl underlying83 Cc rfl (by intro u hu;simp [Value.cells] at hu;rcases hu with rfl | rfl | rfl | rfl <;> rfl) i hij
    have hlow:=HK.out.low
    rw [show l.take j=l from List.take_of_length_le (by rw [L1.out];exact Nat.le_refl _)] at hlow
    have hen:=congrArg au hlow
    rw [lP] at hen
    rw [hen] at S'
    have Mg:Hid (i=(l.filter fun x=>!pr x).length):=by
     unfold Hid
     rw [<- hlow,List.length_take,HK.out.len,<- L1.out];omega
    have S9:=lh S'
    have hc2:bv q c i 4=q.map (fun x=>x.add (i*4)):=by unfold bv;rw [if_neg (by omega)]
    have Ql:=hcl
    rw [hc2] at Ql
    have hq0:Hid (bv q c 0 4=q):=by
     obtain⟨g,rfl⟩:=kX (S.out.own 0 rfl) (by omega)
     unfold Hid bv;simp [Addr.add]
    have ec:¬ c=i:=by omega
    have pq:=(S.out.rdx 0 rfl).ptr
    have d6:i<=j:=by omega
    have d7:i<=c:=by omega
    clear S' hen hlow hc2 HK S
    go_wp2
    go_ret
    refine⟨?_,?_⟩
    ·show Ending.returned (.slice (bv q c 0 4) i c)=_
     rw [hq0.out,<- Mg.out]
    rw [<- Mg.out]
    exact S9.out
end
section
open Go Go.RowKit Go.Maps
theorem AJ {M:List Sq} {x:Sq} (h:x∈dJ M):x∈M:=(ia.1 h).1
theorem vt {st M:List Sq} {f:Ky->Option Bool} (h:lI st f):((dJ M).filter fun x=>!((f x.ky).getD false))=bI st M:=by
 unfold bI
 congr 1
 funext x
 rw [wd h]
theorem zS (ps:Option Addr) (ns cs:Nat) (st:List Sq) (pm:Option Addr) (nm cm:Nat) (M:List Sq) (w:World) (hs:Rd w 4 ps ns (au st)) (hm:Rd w 4 pm nm (au M)) (hi:∀ x∈st,x.I) (hj:∀ x∈M,x.I) (hns:ns<=100000) (hnm:nm<=100000) :
  Calls prog 141 #[.slice ps ns cs,.slice pm nm cm] w fun e w'=>∃ q c,e=.returned (.slice q (bI st M).length c)/\Ic w w' [.own 138 4 q (bI st M).length c (au (bI st M))]:=by
 have p1:=hs.ptr
 have n1:=hs.small
 have L1:=lh hs.nQ
 have LM:=lh hm.nQ
 have HI:=lh hi
 have HJ:=lh hj
 have HL:=lh hs
 have HC:=lh (fun W (h:Ext w W)=>zK pm nm cm M W (hm.ext h) hj hnm)
 clear hs hm hi hj
 obtain⟨F,hF⟩:∃ F,bI st M=F:=⟨_,rfl⟩
 rw [hF]
 have Tx:=lh hF
 clear hF
 have hmm:=@run_makeMap prog
 have S0:=lh (((Ic.start w).mkmapK (K:=pH) sw).al #[.map (some w.heap.size)] 272 (w.heap.size+1) (by simp))
 go_enter func141,ntmps141
 go_wp2
 go_loopw [7,11] (fun _ i wr=>∃ (k mm:Nat) (f:Ky->Option Bool),k<=ns/\mm<=k/\i=.int .i64 k/\Ic w wr [.blk (w.heap.size+1) 272 #[.map (some w.heap.size)],.mapK pH sw w.heap.size mm f]/\Hid (lI (st.take k) f)) (fun _ i _=>ns - (intOf i).toNat)
 case atStart=>exact⟨0,0,_,Nat.zero_le _,Nat.le_refl _,rfl,S0.out,we⟩
 case round =>
  clear S0
  obtain⟨k,mm,f,hk,hmk,rfl,S,HF⟩:=hrel
  have b0:wr.cell? ⟨w.heap.size+1,0,none⟩=some (.map (some w.heap.size)):=(S.blk 0 rfl).cell 0
  have bz:=(S.blk 0 rfl).lt
  by_cases hlt:k<ns
  ·obtain⟨g1,g2,g3,g4⟩:=(HL.out.ext S.ext).cQ hlt
   have hkl:k<st.length:=by rw [<- L1.out];exact hlt
   have hx:=HI.out (ae st k) (aY hkl)
   have HT:=lh (ak st k hkl)
   obtain⟨x,hxl⟩:∃ x,ae st k=x:=⟨_,rfl⟩
   rw [hxl] at g1 g2 g3 g4 hx HT
   have hok:pH.ok x.ky:=⟨hx.1,hx.2.1,hx.2.2.1⟩
   have S2:=lh (S.al #[.int .i64 x.s,.int .i64 x.r,.int .i64 x.v,.int .i64 x.d] 146 wr.heap.size rfl)
   have d1:(0:Int)<=k:=by omega
   have d2:(k:Int)<ns:=by omega
   clear hxl S hx hkl
   go_wp2_with (at_mapUpdate;go_must (refine dZ (K:=pH) (E:=sw) (P:=prog) rfl _ _ _ _ rfl underlying272 rfl S2.out 2 rfl (by omega) x.ky true rfl rfl hok ?_;intro w5 S' hg;have S5:=lh S';clear S' hg))
   go_roundw
   case rel=>exact⟨k+1,mm+1,_,by omega,by omega,by go_num,S5.out.pick [1,2] (by decide) rfl,by rw [HT.out];exact wg x HF.out⟩
   case measure=>simp [intOf];omega
  ·obtain rfl:k=ns:=by omega
   rw [List.take_of_length_le (by rw [<- L1.out];exact Nat.le_refl _)] at HF
   have Kv:=lh ((vt (M:=M) HF.out).trans Tx.out)
   have IY:=lh (HC.out wr S.ext)
   have PQ:Hid ((dJ M).length<=100000):=by
    unfold Hid
    have:=qj M
    have:=LM.out
    omega
   have SH:=lh S;clear S
   have Iq:Hid (∀ x∈dJ M,pH.ok x.ky):=fun x hx=>by
    have:=HJ.out x (AJ hx)
    exact⟨this.1,this.2.1,this.2.2.1⟩
   obtain⟨C,hC⟩:∃ C,dJ M=C:=⟨_,rfl⟩
   rw [hC] at IY Kv PQ Iq
   clear hC HC
   go_wp2_with (first
    | (go_at_call 207;go_must (refine IY.out.mono ?_;rintro e w2 ⟨q,c2,rfl,Z⟩;have S2:=lh (SH.out.comp Z);have HD:=lh (sv (w.heap.size+1) w.heap.size mm f q C.length c2 C w2 w S2.out Iq.out PQ.out);rw [Kv.out] at HD;clear Z))
    | (go_at_call 206;go_must (refine HD.out.mono ?_;rintro e w3 ⟨rfl,Z⟩;have S3:=lh Z;clear Z)))
   go_ret
   exact⟨q,c2,rfl,S3.out.pick [0] (by decide) rfl⟩
end
theorem yE {v:Int} {n:Nat} (hn:1<=n):(v*40503+12345) % 65536 % (n:Int)=(eC v n:Int):=by
 unfold eC
 have h3:0<=(v*40503+12345) % 65536 % (n:Int):=Int.emod_nonneg _ (by omega)
 omega
theorem zU (v:Int) (n:Nat) (w:World) (h0:0<=v) (h1:v<=1000000) (hn:1<=n) (h16:n<=16) :
  Calls prog 50 #[.int .i64 v,.int .i64 n] w fun e w'=>e=.returned (.tuple #[.int .i64 (eC v n),.bool true])/\w=w':=by
 have E1:=lh (yE (v:=v) hn)
 have d1:(1:Int)<=(n:Int):=by omega
 have d2:(n:Int)<=16:=by omega
 have c1:decide (v<0)=false:=by simpa using h0
 have c2:decide (1000000<v)=false:=by simpa using h1
 have c3:decide ((n:Int)<1)=false:=by simpa using d1
 have c4:decide (16<(n:Int))=false:=by simpa using d2
 go_enter func50,ntmps50
 go_wp2
 go_ret2
 refine⟨?_,rfl⟩
 show Ending.returned (.tuple #[.int .i64 ((v*40503+12345) % 65536 % (n:Int)),.bool true])=_
 rw [E1.out]
theorem Eg (v n:Int) (w:World) (h:¬ (0<=v/\v<=1000000/\1<=n/\n<=16)) :
  Calls prog 50 #[.int .i64 v,.int .i64 n] w fun e w'=>e=.returned (.tuple #[.int .i64 0,.bool false])/\w=w':=by
 by_cases a1:v<0
 ·have c1:decide (v<0)=true:=by simpa using a1
  clear h
  go_enter func50,ntmps50
  go_wp2
  go_ret2
  exact⟨rfl,rfl⟩
 ·have c1:decide (v<0)=false:=by simpa using a1
  by_cases a2:1000000<v
  ·have c2:decide (1000000<v)=true:=by simpa using a2
   clear h
   go_enter func50,ntmps50
   go_wp2
   go_ret2
   exact⟨rfl,rfl⟩
  ·have c2:decide (1000000<v)=false:=by simpa using a2
   by_cases a3:n<1
   ·have c3:decide (n<1)=true:=by simpa using a3
    clear h
    go_enter func50,ntmps50
    go_wp2
    go_ret2
    exact⟨rfl,rfl⟩
   ·have c3:decide (n<1)=false:=by simpa using a3
    have c4:decide (16<n)=true:=by simp;omega
    clear h
    go_enter func50,ntmps50
    go_wp2
    go_ret2
    exact⟨rfl,rfl⟩
theorem Dv (p:Option Addr) (n c:Nat) (l:List Int) (x:Int) (w:World) (hl:Rd w 1 p n (ab l)) :
  Calls prog 158 #[.slice p n c,.int .i64 x] w fun e w'=>e=.returned (.bool (jY l x))/\Ext w w':=by
 have p1:=hl.ptr
 have n1:=hl.small
 have L1:=lh hl.nI
 have HL:=lh hl;clear hl
 go_enter func158,ntmps158
 go_wp2
 go_loop [5] (fun i=>∃ k:Nat,k<=n/\i=.int .i64 k/\(l.take k).any (fun y=>y == x)=false) (fun i=>n - (intOf i).toNat)
 case atStart=>exact⟨0,Nat.zero_le _,rfl,rfl⟩
 case round =>
  obtain⟨k,hk,rfl,ha⟩:=hrel
  have HA:=lh ha;clear ha
  by_cases hlt:k<n
  ·have g1:=HL.out.cI hlt
   have d1:(0:Int)<=k:=by omega
   have d2:(k:Int)<n:=by omega
   have I7:k<l.length:=by rw [<- L1.out];exact hlt
   cases hq:(ae l k == x) with
   | true =>
    have HF:Hid (jY l x=true):=cW (fun y:Int=>y == x) l k I7 hq
    go_wp2
    go_ret
    exact⟨aq HF.out.symm,Below.refl _ _⟩
   | false =>
    have HF:=lh (eP (fun y:Int=>y == x) l k I7 HA.out hq)
    go_wp2
    go_round
    case rel=>exact⟨k+1,by omega,by go_num,HF.out⟩
    case measure=>simp [intOf];omega
  ·have HF:Hid (jY l x=false):=gE (fun y:Int=>y == x) l k (by rw [<- L1.out];exact hlt) HA.out
   go_wp2
   go_ret
   exact⟨aq HF.out.symm,Below.refl _ _⟩
theorem BM (po:Option Addr) (no co:Nat) (O:List Int) (pt:Option Addr) (nt ct:Nat) (T:List Int) (k:Nat) (w:World) (hO:Rd w 1 po no (ab O)) (hT:Rd w 1 pt nt (ab T)) (hct:nt<=ct) (hok:IJ O T) (hk1:k+1<O.length) (hlen:T.length<=100000) :
  Calls prog 157 #[.slice po no co,.slice pt nt ct,.int .i64 k] w fun e w'=>∃ q c,e=.returned (.slice q (aD O T k).length c)/\Ic w w' [.own 3 1 q (aD O T k).length c (ab (aD O T k))]:=by
 have Qw:=hO.small
 have l1:=hO.nI
 have l2:=hT.nI
 have pA:=hO.ptr
 have q1:=hok.lo k (by omega)
 have q2:=hok.le k hk1
 have q3:=hok.hi (k+1) hk1
 have hrl:=cK hok hk1
 have IQ:=hT.rowOf hok hct hk1
 have g1:=hO.cI (k:=k) (by omega)
 have g2:=hO.cI (k:=k+1) (by omega)
 obtain⟨a,ha⟩:∃ a:Nat,ae O k=(a:Int):=⟨(ae O k).toNat,by omega⟩
 obtain⟨c,hc⟩:∃ c:Nat,ae O (k+1)=(c:Int):=⟨(ae O (k+1)).toNat,by omega⟩
 rw [ha] at q1 q2 hrl IQ g1
 rw [hc] at q2 q3 hrl IQ g2
 simp only [Int.toNat_natCast] at hrl IQ
 have hq3:(c:Int)<=ct:=by omega
 have HLEN:Hid (c - a<=1000000):=by unfold Hid;omega
 have d1:(0:Int)<=k:=by omega
 have d2:(k:Int)<no:=by omega
 have d3:(0:Int)<=(k:Int)+1:=by omega
 have d4:(k:Int)+1<no:=by omega
 have NB:=lh hrl
 have RL:=lh IQ
 clear hO hT hok ha hc hrl IQ hlen l1 l2 q3 hk1
 rw [NB.out]
 go_enter func157,ntmps157
 go_wp2
 have x1:=fun x:Ie w=>x.ext.cell g1
 have x2:=fun x:Ie w=>x.ext.cell g2
 refine aT [true,true,true,true,true,true,true,true,true,true,true,false] (fun _ u W=>∃ q d,u=.slice q (c - a) d/\W.ownsRow w.heap.size 3 1 (.slice q (c - a) d) (c - a) (ab (aD O T k))) (by kernel_rfl) (by kernel_rfl) (by kernel_rfl) (fun _ _ _ _ hE ⟨p,d,h1,h2⟩=>⟨p,d,h1,hE.own h2⟩) ?_
 simp only [pJ]
 repeat (go_big_quiet_step ((fail)))
 refine wpQuiet_nil ⟨⟨fun vs W hE hd=>?_,trivial⟩,fun vs W hE hkn=>?_⟩
 ·simp [b8,go_sem]
  exact(Aa _ (c - a) _ (aD O T k) W (RL.out.ext hE) HLEN.out).mono fun e w' ⟨q,d,h1,S⟩=>⟨_,h1,⟨q,d,rfl,aP (S.own 0 rfl) hE.size⟩,S.ext⟩
 ·obtain⟨⟨q,d,hv,hown⟩,_⟩:=hkn
  have S5:=lh ((Ic.start w).fresh hE hown (Nat.le_refl _))
  simp only [b8,hv,List.length_cons,List.length_nil,Nat.zero_add,Nat.reduceAdd,List.drop_succ_cons,List.drop_zero]
  clear x1 x2 g1 g2 hv hown hE
  go_wp2
  go_ret
  exact⟨q,d,rfl,S5.out⟩
end Go.Proofs.YtfjhjennfiihhaaGreat
