/- Texts of this claim, one behind the other: FndA, Ref5, Spec4, Rng, It4, It4b, Half4, Half4b, Chk4, Chk4b, Out4, Eq4, Ref5b, Eq5, Far20, PlainK, PlainRun, PlainEach, PlainOrd, MapK, PlainCmb, PlainHp, PlainL, PlainBF, PlainD, PlainMk, PlainA, PlainB, PlainR, Laid4, G2, G9, G11, GT, Big2. -/
import Derived.Test.YtfjhjennfiihhaaGreatQJobAsks1
set_option maxRecDepth 100000
set_option maxHeartbeats 16000000
namespace Go.Proofs.YtfjhjennfiihhaaGreat
open Go Go.RowKit Tryz
section
open Go Go.RowKit Go.Maps
theorem C6 (a:Nat) (w:World):Calls prog 188 #[.map (some a)] w fun e w'=>e=.returned (.func (.func 189) #[.map (some a)] #[])/\Ext w w':=by
 go_enter func188,ntmps188
 go_wp2
 go_ret
 exact⟨rfl,Below.refl _ _⟩
def rt (w:World) (L:List Po) (s:ByteArray) (S:Int->Prop) (a n:Nat) (i:Nat) (v:Value) (W:World):Prop :=
 match i with
 | 2=>v=.func (.func 189) #[.map (some a)] #[]
 | 5=>∃ q c,v=.slice q (aW L s).length c/\Rd W 1 q (aW L s).length (ab (aW L s))
 | 6=>∃ b f,v=.map (some b)/\Ik prog 3 EB b 1000 f W/\∀ x,f x=some true↔x∈aW L s
 | 7=>∃ b f,v=.map (some b)/\w.heap.size<=b/\Ik prog 3 EB b (n+1000) f W/\∀ x,f x=some true↔(S x/\x∈aW L s)
 | _=>True
theorem sr {w:World} {L:List Po} {s:ByteArray} {S:Int->Prop} {a n:Nat}:∀ i v W W',Ext W W'->rt w L s S a n i v W->rt w L s S a n i v W':=by
 intro i v W W' he h
 unfold rt at *
 split at h
 ·exact h
 ·obtain⟨q,c,h1,h2⟩:=h;exact⟨q,c,h1,h2.ext he⟩
 ·obtain⟨b,f,h1,h2,h3⟩:=h;exact⟨b,f,h1,h2.ext he,h3⟩
 ·obtain⟨b,f,h1,h0,h2,h3⟩:=h;exact⟨b,f,h1,h0,h2.ext he,h3⟩
 ·trivial
theorem CS (a n:Nat) (f:Int->Option Bool) (S:Int->Prop) (s:ByteArray) (b5 b3:Nat) (p:Option Addr) (np cp:Nat) (hs:List Hd) (L:List Po) (w:World) (hA:Ik prog 3 EB a n f w) (hf:∀ x,f x=some true↔S x)
  (h5:w.cell? ⟨b5,0,none⟩=some (.func (.func 188) #[] #[])) (h3:w.cell? ⟨b3,0,none⟩=some (.slice p np cp)) (hL:IW w p np hs L) (hok:Io L) (hn:n<=500000) :
  Calls prog 233 #[.map (some a),.string s,.pointer (some ⟨b5,0,none⟩),.pointer (some ⟨b3,0,none⟩)] w fun e w'=>∃ c h,e=.returned (.map (some c))/\Ic w w' [.map prog 3 EB c (n+1000) h]/\∀ x,h x=some true↔(S x/\x∈aW L s):=by
 have Mt:=lh (kK hok s)
 have HA:=lh hA;clear hA
 have HF:=lh hf;clear hf
 have HL:=lh hL;clear hL
 have Iq:=lh hok;clear hok
 have x5:=fun x:Ie w=>x.ext.cell h5
 have x3:=fun x:Ie w=>x.ext.cell h3
 go_enter func233,ntmps233
 go_wp2
 refine aT [true,true,false,true,true,false,false,false] (rt w L s S a n) (by kernel_rfl) (by kernel_rfl) (by kernel_rfl) sr ?_
 simp only [pJ]
 repeat (go_big_quiet_step ((fail)))
 refine wpQuiet_nil ⟨⟨fun vs W hE hd=>?_,fun vs W hE hd=>?_,fun vs W hE hd=>?_,fun vs W hE hd=>?_,trivial⟩,fun vs W hE hkn=>?_⟩
 ·simp [b8,execOp,go_sem]
  exact(C6 a W).mono fun e w' ⟨h1,h2⟩=>⟨_,h1,rfl,h2⟩
 ·simp [b8,go_sem]
  exact(Du p np cp hs L s W (HL.out.ext hE) Iq.out).mono fun e w' ⟨q,c,h1,h2⟩=>⟨_,h1,⟨q,c,rfl,h2.rd 0 rfl (by have:=Mt.out.1;omega)⟩,h2.ext⟩
 ·obtain⟨q,c,e1,e2⟩:=hd 5 (by decide) rfl
  simp [b8,go_sem,e1]
  exact(Hv q _ c (aW L s) W e2 Mt.out.2 (by have:=Mt.out.1;omega)).mono fun e w' ⟨b,g,h1,h2,h3⟩=>⟨_,h1,⟨b,g,rfl,(h2.map 0 rfl).mono Mt.out.1,h3⟩,h2.ext⟩
 ·have e0:vs 2=_:=hd 2 (by decide) rfl
  obtain⟨b,g,e1,e2,e3⟩:=hd 6 (by decide) rfl
  simp [b8,execOp,go_sem,e0,e1]
  exact(GA a b n 1000 f g W (HA.out.ext hE) e2 (by omega)).mono fun e w' ⟨c,h,h1,h2,h3⟩=>⟨_,h1,⟨c,h,rfl,Nat.le_trans hE.size (h2.new _ (List.mem_singleton.2 rfl) c rfl),(h2.map 0 rfl).mono (by omega),fun x=>by rw [h3,HF.out,e3]⟩,h2.ext⟩
 ·obtain⟨_,⟨_,_,k1,_⟩,⟨_,_,k2,_⟩,⟨c,h,k3,k4,k5,k6⟩,_⟩:=hkn
  have TN:=lh k5
  have Xy:=lh k6
  have HE:=lh hE
  have TM:=lh k4
  simp only [b8,k3,List.length_cons,List.length_nil,Nat.zero_add,Nat.reduceAdd,List.drop_succ_cons,List.drop_zero]
  clear x5 x3 k1 k2 k3 k4 k5 k6 hE
  go_wp2
  go_ret
  exact⟨c,h,rfl,⟨HE.out,fun q hq=>by rw [List.mem_singleton] at hq;subst hq;exact TN.out,fun q hq i hi=>by rw [List.mem_singleton] at hq;subst hq;have:i=c:=hi;rw [this];exact TM.out,List.pairwise_singleton _ _⟩,Xy.out⟩
theorem CZ (a n:Nat) (f:Int->Option Bool) (S:Int->Prop) (R:List ByteArray) (pr:Option Addr) (nr cr:Nat) (b5 b3:Nat) (p:Option Addr) (np cp:Nat) (hs:List Hd) (L:List Po) (w:World) (hA:Ik prog 3 EB a n f w) (hf:∀ x,f x=some true↔S x)
  (hR:Rd w 1 pr nr (bg R)) (h5:w.cell? ⟨b5,0,none⟩=some (.func (.func 188) #[] #[])) (h3:w.cell? ⟨b3,0,none⟩=some (.slice p np cp)) (hL:IW w p np hs L) (hok:Io L) (hn:n+1000*nr<=400000) :
  Calls prog 230 #[.map (some a),.slice pr nr cr,.func (.func 233) #[] #[.pointer (some ⟨b5,0,none⟩),.pointer (some ⟨b3,0,none⟩)]] w fun e w'=>∃ c h,e=.returned (.map (some c))/\Ik prog 3 EB c (n+1000*nr) h w'/\Ext w w'/\∀ x,h x=some true↔(S x/\∀ u∈R,x∈aW L u):=by
 have p1:=hR.ptr
 have n1:=hR.small
 have l1:=hR.nS
 have HA:=lh hA;clear hA
 have HF:=lh hf;clear hf
 have HL:=lh hL;clear hL
 have Iq:=lh hok;clear hok
 have HR:=lh hR;clear hR
 have L1:=lh l1;clear l1
 have H5:=lh h5;clear h5
 have H3:=lh h3;clear h3
 go_enter func230,ntmps230
 go_wp2
 go_loopw [0,8,11] (fun v _ i wr=>∃ (k b:Nat) (g:Int->Option Bool),k<=nr/\i=.int .i64 k/\v=.map (some b)/\Ext w wr/\Ik prog 3 EB b (n+1000*k) g wr/\∀ x,g x=some true↔(S x/\∀ u∈R.take k,x∈aW L u)) (fun _ _ i _=>nr - (intOf i).toNat)
 case atStart=>exact⟨0,a,f,Nat.zero_le _,rfl,rfl,Below.refl _ _,HA.out,fun x=>by rw [HF.out];simp⟩
 case round =>
  obtain⟨k,b,g,hk,rfl,rfl,hE,hM,hg⟩:=hrel
  have HE:=lh hE;clear hE
  have HM:=lh hM;clear hM
  have HG:=lh hg;clear hg
  by_cases hlt:k<nr
  ·have g1:=HE.out.cell (HR.out.cS hlt)
   have d1:(0:Int)<=k:=by omega
   have d2:(k:Int)<nr:=by omega
   go_wp2_with (go_at_call 233;go_must (refine(CS b (n+1000*k) g _ (ae R k) b5 b3 p np cp hs L _ HM.out HG.out (HE.out.cell H5.out) (HE.out.cell H3.out) (HL.out.ext HE.out) Iq.out (by omega)).mono ?_;rintro e w2 ⟨c,h,rfl,S1,hh⟩;have S2:=lh S1;have HH:=lh hh;clear S1 hh))
   go_roundw
   case rel=>exact⟨k+1,c,h,by omega,by go_num,rfl,Ext.trans HE.out S2.out.ext,(S2.out.map 0 rfl).mono (by omega),fun x=>by
    rw [HH.out,ak R k (by rw [<- L1.out];exact hlt)]
    constructor
    ·rintro⟨⟨h1,h2⟩,h3⟩
     refine⟨h1,fun u hu=>?_⟩
     rcases List.mem_append.1 hu with h | h
     ·exact h2 u h
     ·rw [List.mem_singleton] at h;subst h;exact h3
    ·rintro⟨h1,h2⟩
     exact⟨⟨h1,fun u hu=>h2 u (List.mem_append_left _ hu)⟩,h2 _ (by simp)⟩⟩
   case measure=>simp [intOf];omega
  ·obtain rfl:k=nr:=by omega
   go_wp2
   go_ret
   exact⟨b,g,rfl,HM.out,HE.out,fun x=>by rw [HG.out,List.take_of_length_le (by rw [<- L1.out];omega)]⟩
def i3 (L:List Po) (ws:List ByteArray):List Int:=bk fd ((aW L (ae ws 0)).filter fun x=>ws.all fun u=>(aW L u).contains x)
theorem Ao {L:List Po} {ws:List ByteArray} {x:Int} (h:0<ws.length):(x∈(aW L (ae ws 0)).filter fun x=>ws.all fun u=>(aW L u).contains x)↔(x∈aW L (ae ws 0)/\∀ u∈ws.drop 1,x∈aW L u):=by
 rw [List.mem_filter,List.all_eq_true]
 constructor
 ·rintro⟨h1,h2⟩
  exact⟨h1,fun u hu=>by have:=h2 u (List.mem_of_mem_drop hu);simpa using this⟩
 ·rintro⟨h1,h2⟩
  refine⟨h1,fun u hu=>?_⟩
  rw [<- List.take_append_drop 1 ws] at hu
  rcases List.mem_append.1 hu with hu | hu
  ·have:u=ae ws 0:=by
    have e:ws.take 1=[ae ws 0]:=by rw [ak ws 0 h];simp
    rw [e] at hu;simpa using hu
   rw [this];simpa using h1
  ·simpa using h2 u hu
def rx (L:List Po) (ws:List ByteArray) (nr:Nat) (i:Nat) (v:Value) (W:World):Prop :=
 match i with
 | 4=>∃ q c,v=.slice q (aW L (ae ws 0)).length c/\Rd W 1 q (aW L (ae ws 0)).length (ab (aW L (ae ws 0)))
 | 5=>∃ b f,v=.map (some b)/\Ik prog 3 EB b 1000 f W/\∀ x,f x=some true↔x∈aW L (ae ws 0)
 | 9=>∃ b f,v=.map (some b)/\Ik prog 3 EB b (1000+1000*nr) f W/\∀ x,f x=some true↔(x∈aW L (ae ws 0)/\∀ u∈ws.drop 1,x∈aW L u)
 | _=>True
theorem sA {L:List Po} {ws:List ByteArray} {nr:Nat}:∀ i v W W',Ext W W'->rx L ws nr i v W->rx L ws nr i v W':=by
 intro i v W W' he h
 unfold rx at *
 split at h
 ·obtain⟨q,c,h1,h2⟩:=h;exact⟨q,c,h1,h2.ext he⟩
 ·obtain⟨b,f,h1,h2,h3⟩:=h;exact⟨b,f,h1,h2.ext he,h3⟩
 ·obtain⟨b,f,h1,h2,h3⟩:=h;exact⟨b,f,h1,h2.ext he,h3⟩
 ·trivial
theorem AV (p:Option Addr) (np cp:Nat) (hs:List Hd) (L:List Po) (pr:Option Addr) (nr cr:Nat) (ws:List ByteArray) (w:World) (hL:IW w p np hs L) (hok:Io L) (hR:Rd w 1 pr nr (bg ws)) (hcr:nr<=cr) (h0:0<nr) (hn:nr<=100) :
  Calls prog 187 #[.slice p np cp,.slice pr nr cr,.func (.func 188) #[] #[]] w fun e w'=>∃ q c,e=.returned (.tuple #[.slice q (i3 L ws).length c,.int .i64 0])/\Ic w w' [.own 3 1 q (i3 L ws).length c (ab (i3 L ws))]:=by
 obtain⟨l0,hl0⟩:∃ l0,l0=(aW L (ae ws 0)).filter fun x=>ws.all fun u=>(aW L u).contains x:=⟨_,rfl⟩
 have hal:i3 L ws=bk fd l0:=by rw [hl0];rfl
 rw [hal]
 have TW:Hid (∀ x,x∈l0↔(x∈aW L (ae ws 0)/\∀ u∈ws.drop 1,x∈aW L u)):=fun x=>by rw [hl0];exact Ao (by rw [<- hR.nS];exact h0)
 clear hal hl0
 have Mt:=lh (kK hok (ae ws 0))
 have p1:=hR.ptr
 have n1:=hR.small
 have g1:=hR.cS h0
 have XM:Hid (Rd w 1 (bv pr cr 1 1) (nr - 1) (bg (ws.drop 1))):=by
  have:=hR.cut (l:=1) (h:=nr) (by omega) (Nat.le_refl _) hcr
  rw [ym,List.take_of_length_le (by rw [dQ,List.length_drop,hR.nS];omega)] at this
  exact this
 have L1:=lh hR.nS
 clear hR
 have HL:=lh hL;clear hL
 have Iq:=lh hok;clear hok
 have S0:=lh (((Ic.start w).al #[.slice p np cp] 28 w.heap.size rfl).al #[.func (.func 188) #[] #[]] 254 (w.heap.size+1) (by simp))
 have hne:((nr:Int) == 0)=false:=by simp;omega
 have d1:(1:Int)<=nr:=by omega
 have d2:(0:Int)<nr:=by omega
 have d3:(nr:Int)<=cr:=by omega
 go_enter func187,ntmps187
 go_wp2
 obtain⟨X,hX⟩:∃ X,X=((w.alloc (.cells #[.slice p np cp] 28)).alloc (.cells #[.func (.func 188) #[] #[]] 254)):=⟨_,rfl⟩
 have SX:=S0.out
 rw [<- hX] at SX ⊢
 have HX:=lh SX.ext
 have c3:=(SX.blk 1 rfl).cell 0
 have c5:=(SX.blk 0 rfl).cell 0
 have g2:=HX.out.cell g1
 clear hX S0 g1 SX
 have H3:Hid (X.cell? ⟨w.heap.size,0,none⟩=some (.slice p np cp)):=c3
 have H5:Hid (X.cell? ⟨w.heap.size+1,0,none⟩=some (.func (.func 188) #[] #[])):=c5
 have x3:=fun x:Ie X=>x.ext.cell c3
 have x5:=fun x:Ie X=>x.ext.cell c5
 have xg:=fun x:Ie X=>x.ext.cell g2
 refine aT [true,true,true,true,false,false,true,true,true,false] (rx L ws nr) (by kernel_rfl) (by kernel_rfl) (by kernel_rfl) sA ?_
 simp only [pJ]
 repeat (go_big_quiet_step ((fail)))
 refine wpQuiet_nil ⟨⟨fun vs W hE hd=>?_,fun vs W hE hd=>?_,fun vs W hE hd=>?_,trivial⟩,fun vs W hE hkn=>?_⟩
 ·simp [b8,go_sem]
  exact(Du p np cp hs L _ W ((HL.out.ext HX.out).ext hE) Iq.out).mono fun e w' ⟨q,c,h1,h2⟩=>⟨_,h1,⟨q,c,rfl,h2.rd 0 rfl (by have:=Mt.out.1;omega)⟩,h2.ext⟩
 ·obtain⟨q,c,e1,e2⟩:=hd 4 (by decide) rfl
  simp [b8,go_sem,e1]
  exact(Hv q _ c _ W e2 Mt.out.2 (by have:=Mt.out.1;omega)).mono fun e w' ⟨b,g,h1,h2,h3⟩=>⟨_,h1,⟨b,g,rfl,(h2.map 0 rfl).mono Mt.out.1,h3⟩,h2.ext⟩
 ·obtain⟨b,g,e1,e2,e3⟩:=hd 5 (by decide) rfl
  simp [b8,go_sem,e1]
  exact(CZ b 1000 g _ (ws.drop 1) (bv pr cr 1 1) (nr - 1) (cr - 1) (w.heap.size+1) w.heap.size p np cp hs L W e2 e3 ((XM.out.ext HX.out).ext hE) (hE.cell H5.out) (hE.cell H3.out) ((HL.out.ext HX.out).ext hE) Iq.out (by omega)).mono fun e w' ⟨c,h,h1,h2,h3,h4⟩=>⟨_,h1,⟨c,h,rfl,h2.mono (by omega),h4⟩,h3⟩
 ·obtain⟨⟨_,_,k1,_⟩,⟨_,_,k2,_⟩,⟨b,f,k3,k4,k5⟩,_⟩:=hkn
  have TM:=lh k4
  have HE:=lh (Ext.trans HX.out hE)
  have TN:Hid (∀ x,f x=some true↔x∈l0):=fun x=>by rw [k5,TW.out]
  simp only [b8,k1,k2,k3,List.length_cons,List.length_nil,Nat.zero_add,Nat.reduceAdd,List.drop_succ_cons,List.drop_zero]
  clear x5 x3 xg k1 k2 k3 k4 k5 hE c3 c5 g2
  go_wp2_with (go_at_call 234;go_must (refine(Dl b _ f _ _ TM.out TN.out (by omega)).mono ?_;rintro e w2 ⟨q,c,rfl,S1⟩;have S2:=lh (((Ic.start w).call HE.out).comp S1);clear S1))
  go_ret2
  exact⟨q,c,rfl,S2.out⟩
theorem yp (p:Option Addr) (np cp:Nat) (pr:Option Addr) (cr:Nat) (w:World) :
  Calls prog 187 #[.slice p np cp,.slice pr 0 cr,.func (.func 188) #[] #[]] w fun e w'=>e=.returned (.tuple #[.slice none 0 0,.int .i64 1])/\Ext w w':=by
 go_enter func187,ntmps187
 go_wp2
 go_ret2
 exact⟨rfl,Ext.alloc (Ext.alloc (Below.refl _ _) _) _⟩
end
section
open Go Go.RowKit Go.Maps
def jY (l:List Int) (x:Int):Bool:=l.any fun y=>y == x
theorem fu (l:List Int) (x:Int):jY l x=true↔x∈l:=by unfold jY;simp
theorem GY (p:Option Addr) (n c:Nat) (l:List Int) (x:Int) (w:World) (hl:Rd w 1 p n (ab l)) :
  Calls prog 166 #[.slice p n c,.int .i64 x] w fun e w'=>e=.returned (.bool (jY l x))/\w=w':=by
 have p1:=hl.ptr
 have n1:=hl.small
 have l1:=hl.nI
 have HL:=lh hl;clear hl
 have L1:=lh l1;clear l1
 go_enter func166,ntmps166
 go_wp2
 go_loop [5] (fun i=>∃ k:Nat,k<=n/\i=.int .i64 k/\(l.take k).any (fun y=>y == x)=false) (fun i=>n - (intOf i).toNat)
 case atStart=>exact⟨0,Nat.zero_le _,rfl,rfl⟩
 case round =>
  obtain⟨k,hk,rfl,ha⟩:=hrel
  have HA:=lh ha;clear ha
  by_cases hlt:k<n
  ·have g1:=HL.out.cI hlt
   have d1:(0:Int)<=k:=by omega
   have d2:(k:Int)<n:=by omega
   cases hq:(ae l k == x) with
   | true =>
    have HF:=lh (cW (fun y=>y == x) l k (by rw [<- L1.out];exact hlt) hq)
    go_wp2
    go_ret
    exact⟨aq HF.out.symm,rfl⟩
   | false =>
    have HF:=lh (eP (fun y=>y == x) l k (by rw [<- L1.out];exact hlt) HA.out hq)
    go_wp2
    go_round
    case rel=>exact⟨k+1,by omega,by go_num,HF.out⟩
    case measure=>simp [intOf];omega
  ·have HF:=lh (gE _ l k (by rw [<- L1.out];exact hlt) HA.out)
   go_wp2
   go_ret
   exact⟨aq HF.out.symm,rfl⟩
theorem p7 (p:Option Addr) (n c:Nat) (l:List Int) (w:World) (hl:Rd w 1 p n (ab l)) (hz:n<=1000000) :
  Calls prog 193 #[.slice p n c] w fun e w'=>∃ q c',e=.returned (.slice q (bk fd l).length c')/\Ic w w' [.own 3 1 q (bk fd l).length c' (ab (bk fd l))] :=
 (Ad p n c l w hl hz).mono fun _ _ ⟨q,n',c',he,hn,ho,hx⟩=>by subst hn;exact⟨q,c',he,Ic.of_own hx ho⟩
def qe (a b:List Int):List Int:=bk fd (a.filter (jY b))
theorem lQ {α:Type} [Inhabited α] (f:α->Bool) (l:List α) (k:Nat) (h:k<l.length):(l.take (k+1)).filter f=(l.take k).filter f ++ (if f (ae l k) then [ae l k] else []):=by
 rw [ak l k h,List.filter_append,List.filter_cons];rfl
theorem pG {α:Type} (f:α->Bool) (l:List α) (k:Nat):((l.take k).filter f).length<=k:=Nat.le_trans (List.length_filter_le _ _) (by rw [List.length_take];omega)
theorem D9 (p:Option Addr) (n c:Nat) (a:List Int) (q:Option Addr) (m d:Nat) (b:List Int) (w:World) (ha:Rd w 1 p n (ab a)) (hb:Rd w 1 q m (ab b)) (hn:n<=1000000) :
  Calls prog 195 #[.slice p n c,.slice q m d] w fun e w'=>∃ q c',e=.returned (.slice q (qe a b).length c')/\Ic w w' [.own 3 1 q (qe a b).length c' (ab (qe a b))]:=by
 obtain⟨i0,hi0,hz0,hz1,hz2⟩:=info_parts kg
 have p1:=ha.ptr
 have l1:=ha.nI
 have HA:=lh ha;clear ha
 have HB:=lh hb;clear hb
 have L1:=lh l1;clear l1
 have S0:=lh ((Ic.start w).nilrow 3 1)
 go_enter func195,ntmps195
 go_wp2
 go_loopw [5,6] (fun v i wr=>∃ (k:Nat) (u:Option Addr) (e:Nat),k<=n/\i=.int .i64 k/\v=.slice u ((a.take k).filter (jY b)).length e/\Ic w wr [.own 3 1 u ((a.take k).filter (jY b)).length e (ab ((a.take k).filter (jY b)))]) (fun _ i _=>n - (intOf i).toNat)
 case atStart=>exact⟨0,none,0,Nat.zero_le _,rfl,rfl,S0.out⟩
 case round =>
  clear S0
  obtain⟨k,u,e,hk,rfl,rfl,S⟩:=hrel
  have hfl:=pG (jY b) a k
  by_cases hlt:k<n
  ·have g1:=S.ext.cell (HA.out.cI hlt)
   have SH:=lh S;clear S
   have d1:(0:Int)<=k:=by omega
   have d2:(k:Int)<n:=by omega
   have HT:=lh (lQ (jY b) a k (by rw [<- L1.out];exact hlt))
   have HI:=lh (fun W1 (h:Ext w W1)=>GY q m d b (ae a k) W1 (HB.out.ext h))
   cases hq:jY b (ae a k) with
   | true =>
    rw [hq] at HI HT
    clear hq
    go_wp2_with (first
     | (go_at_call 166;go_must (refine(HI.out _ SH.out.ext).mono ?_;rintro e1 w1 ⟨rfl,rfl⟩))
     | (at_builtin;go_must (refine am rfl _ _ _ rfl 3 i0 _ 1 8 underlying25 hi0 hz0 hz1 hz2 rfl (by omega) (SH.out.junk _) 0 u _ e _ rfl rfl _ 1 1 _ rfl (Rd.oneI _ _ _) (bN _) (by omega) (by omega) ?_;intro u' e' w2 S' hsz;have S3:=lh S';clear S' hsz)))
    go_roundw
    case rel=>exact⟨k+1,u',e',by omega,by go_num,by rw [HT.out];simp,by rw [HT.out];simp only [if_true,List.length_append,b9];exact S3.out⟩
    case measure=>simp [intOf];omega
   | false =>
    rw [hq] at HI HT
    clear hq
    go_wp2_with (go_at_call 166;go_must (refine(HI.out _ SH.out.ext).mono ?_;rintro e1 w1 ⟨rfl,rfl⟩))
    go_roundw
    case rel=>exact⟨k+1,u,e,by omega,by go_num,by rw [HT.out];simp,by rw [HT.out];simpa using SH.out⟩
    case measure=>simp [intOf];omega
  ·obtain rfl:k=n:=by omega
   have HT:Hid ((a.take k).filter (jY b)=a.filter (jY b)):=by unfold Hid;rw [List.take_of_length_le (by rw [<- L1.out];omega)]
   have hrd:=S.rd 0 rfl (by omega)
   rw [HT.out] at hrd
   rw [HT.out] at hfl
   have RD:=lh hrd;clear hrd
   have SH:=lh S;clear S
   obtain⟨F,hF⟩:∃ F,F=a.filter (jY b):=⟨_,rfl⟩
   have Xk:Hid (qe a b=bk fd F):=by unfold Hid;rw [hF];rfl
   rw [HT.out,<- hF]
   rw [<- hF] at RD hfl
   clear hF HT
   go_wp2_with (go_at_call 193;go_must (refine(p7 u F.length e F _ RD.out (by omega)).mono ?_;rintro e1 w1 ⟨q',c',rfl,S1⟩;have S2:=lh ((SH.out.pick [] (by decide) rfl:Ic w _ []).comp S1);clear S1))
   go_ret
   rw [Xk.out]
   exact⟨q',c',rfl,S2.out⟩
end
theorem aY {α:Type} [Inhabited α] {l:List α} {k:Nat} (h:k<l.length):ae l k∈l:=by rw [ar h];exact List.getElem_mem _
theorem zf {l:List Int} (h:bM fd l) {k:Nat} (hk:k+1<l.length):ae l k<ae l (k+1):=by
 rw [ar (by omega),ar hk]
 have:=List.pairwise_iff_getElem.1 h k (k+1) (by omega) hk (by omega)
 simpa [fd] using this
def aD (O T:List Int) (v:Nat):List Int:=(T.drop (ae O v).toNat).take ((ae O (v+1)).toNat - (ae O v).toNat)
def eo (O T:List Int) (v:Nat):List (Int × Int):=(aD O T v).map fun x=>((v:Int),x)
def bO (O T:List Int) (k:Nat):List (Int × Int):=(List.range k).flatMap (eo O T)
def aR (O T:List Int):List (Int × Int):=bO O T (O.length - 1)
theorem cg (O T:List Int) (k:Nat):bO O T (k+1)=bO O T k ++ eo O T k:=by
 unfold bO;rw [List.range_succ,List.flatMap_append];simp
structure IJ (O T:List Int):Prop where
 two:2<=O.length
 lo:∀ v,v<O.length->0<=ae O v
 hi:∀ v,v<O.length->ae O v<=T.length
 le:∀ v,v+1<O.length->ae O v<=ae O (v+1)
theorem cK {O T:List Int} (h:IJ O T) {v:Nat} (hv:v+1<O.length):(aD O T v).length=(ae O (v+1)).toNat - (ae O v).toNat:=by
 have h1:=h.hi (v+1) hv
 unfold aD
 rw [List.length_take,List.length_drop]
 omega
theorem BP {O T:List Int} {v j:Nat} (hj:j<(aD O T v).length):ae (aD O T v) j=ae T ((ae O v).toNat+j):=by
 have hl:(ae O v).toNat+j<T.length:=by unfold aD at hj;rw [List.length_take,List.length_drop] at hj;omega
 rw [ar hj,ar hl]
 simp only [aD,List.getElem_take,List.getElem_drop]
def jn (n:Int) (l:List Int):Bool:=(List.range l.length).all (l7 n l)
theorem jM {n:Int} {l:List Int}:jn n l=true↔(∀ x∈l,0<=x/\x<n)/\bM fd l:=by
 unfold jn
 rw [List.all_eq_true]
 constructor
 ·intro h
  have h1:∀ i,i<l.length->l7 n l i=true:=fun i hi=>h i (List.mem_range.2 hi)
  refine⟨fun x hx=>?_,?_⟩
  ·obtain⟨i,hi,rfl⟩:=List.mem_iff_getElem.1 hx
   have:=h1 i hi
   unfold l7 at this
   rw [ar hi] at this
   simp only [Bool.and_eq_true,decide_eq_true_eq] at this
   exact this.1
  ·rw [<- BK kt]
   unfold dy
   rw [List.all_eq_true]
   intro i hi
   rw [List.mem_range] at hi
   have:=h1 (i+1) (by omega)
   unfold l7 at this
   unfold js fd
   simp at this ⊢
   exact this.2
 ·rintro⟨h1,h2⟩ i hi
  rw [List.mem_range] at hi
  have h3:=h1 _ (aY hi)
  unfold l7
  rw [decide_eq_true h3.1,decide_eq_true h3.2]
  rcases Nat.eq_zero_or_pos i with h4 | h4
  ·simp [h4]
  ·have:=zf h2 (k:=i - 1) (by omega)
   rw [show i - 1+1=i by omega] at this
   simp [this]
def fm (O:List Int):Bool:=(List.range (O.length - 1)).all fun v=>decide (ae O v<=ae O (v+1))
def l6 (O T:List Int):Bool:=decide (2<=O.length) && decide (O.length<=201) && decide (T.length<=2000) && decide (ae O 0=0) && decide (ae O (O.length - 1)=T.length) && fm O
def aN (O T:List Int):Bool:=l6 O T && (List.range (O.length - 1)).all fun v=>jn ((O.length - 1:Nat):Int) (aD O T v)
theorem oR {O:List Int} (h:fm O=true) {v:Nat} (hv:v+1<O.length):ae O v<=ae O (v+1):=by
 unfold fm at h
 have:=List.all_eq_true.1 h v (List.mem_range.2 (by omega))
 simpa using this
theorem oS {O:List Int} (h:fm O=true):∀ (d v:Nat),v+d<O.length->ae O v<=ae O (v+d)
 | 0,v,_=>Int.le_refl _
 | d+1,v,hv=>Int.le_trans (oS h d v (by omega)) (oR h (by omega))
theorem aQ {O T:List Int} (h:l6 O T=true):2<=O.length/\O.length<=201/\T.length<=2000/\ae O 0=0/\ae O (O.length - 1)=T.length/\fm O=true:=by
 unfold l6 at h
 simp only [Bool.and_eq_true,decide_eq_true_eq] at h
 obtain⟨⟨⟨⟨⟨h1,h2⟩,h3⟩,h4⟩,h5⟩,h6⟩:=h
 exact⟨h1,h2,h3,h4,h5,h6⟩
theorem cJ {O T:List Int} (h:l6 O T=true):IJ O T:=by
 obtain⟨h1,h2,h3,h4,h5,h6⟩:=aQ h
 refine⟨h1,fun v hv=>?_,fun v hv=>?_,fun v hv=>oR h6 hv⟩
 ·have:=oS h6 v 0 (by omega)
  rw [h4,Nat.zero_add] at this;exact this
 ·have:=oS h6 (O.length - 1 - v) v (by omega)
  rw [show v+(O.length - 1 - v)=O.length - 1 by omega,h5] at this;exact this
def ai (O T R V:List Int):Bool :=
 decide (O.length=R.length) && decide (T.length=V.length) && aN O T && aN R V && (aR O T).all fun x=>jY (aD R V x.2.toNat) x.1
def jo (n:Int) (p x:Int × Int):Bool:=decide (0<=x.2) && decide (x.2<n) && !(decide (x.1=p.1) && decide (x.2<=p.2))
def bT (n:Int):Int × Int->List (Int × Int)->Bool
 | _,[]=>true
 | p,x :: l=>jo n p x && bT n x l
def eU:Int × Int->List (Int × Int)->Int × Int
 | p,[]=>p
 | _,x :: l=>eU x l
theorem iG (p:Int × Int):∀ (l m:List (Int × Int)),eU p (l ++ m)=eU (eU p l) m
 | [],_=>rfl
 | x :: l,m=>by rw [List.cons_append,eU,eU,iG x l m]
 termination_by l=>l.length
theorem eN (n:Int):∀ (l:List (Int × Int)) (p:Int × Int) (m:List (Int × Int)),bT n p (l ++ m)=(bT n p l && bT n (eU p l) m)
 | [],p,m=>by simp [bT,eU]
 | x :: l,p,m=>by rw [List.cons_append,bT,bT,eN n l x m,eU,Bool.and_assoc]
theorem tU (n:Int) (p:Int × Int) (l:List (Int × Int)) (x:Int × Int):bT n p (l ++ [x])=(bT n p l && jo n (eU p l) x):=by
 rw [eN];simp [bT]
theorem vF (p:Int × Int) (l:List (Int × Int)) (x:Int × Int):eU p (l ++ [x])=x:=by rw [iG];rfl
theorem yW {n:Int} {p:Int × Int} {l m:List (Int × Int)} (h:bT n p l=false) (hp:l <+: m):bT n p m=false:=by
 obtain⟨t,rfl⟩:=hp
 rw [eN,h];rfl
theorem mE (n v:Int):∀ (l:List Int) (y:Int),bT n (v,y) (l.map fun x=>(v,x))=true↔(∀ x∈l,0<=x/\x<n)/\bM fd (y :: l)
 | [],y=>by simp [bT,bM]
 | x :: l,y=>by
  rw [List.map_cons,bT,Bool.and_eq_true,mE n v l x]
  unfold jo
  simp only [decide_true,Bool.true_and,Bool.and_eq_true,decide_eq_true_eq,Bool.not_eq_true',decide_eq_false_iff_not]
  constructor
  ·rintro⟨⟨⟨h1,h2⟩,h3⟩,h4,h5⟩
   refine⟨fun z hz=>?_,?_⟩
   ·rcases List.mem_cons.1 hz with rfl | hz
    ·exact⟨h1,h2⟩
    ·exact h4 z hz
   ·refine List.pairwise_cons.2 ⟨fun z hz=>?_,h5⟩
    rcases List.mem_cons.1 hz with rfl | hz
    ·simp [fd];omega
    ·have:=(List.pairwise_cons.1 h5).1 z hz
     simp [fd] at this ⊢;omega
  ·rintro⟨h1,h2⟩
   obtain⟨h3,h4⟩:=List.pairwise_cons.1 h2
   have:=h3 x (by simp)
   simp [fd] at this
   exact⟨⟨h1 x (by simp),by omega⟩,fun z hz=>h1 z (by simp [hz]),h4⟩
theorem vR {n v:Int} {p:Int × Int} (hp:p.1≠v) (l:List Int):bT n p (l.map fun x=>(v,x))=jn n l:=by
 rw [Bool.eq_iff_iff,jM]
 cases l with
 | nil=>simp [bT,bM]
 | cons x l =>
  rw [List.map_cons,bT,Bool.and_eq_true,mE n v l x]
  unfold jo
  have hne:decide (v=p.1)=false:=by simp;exact fun e=>hp e.symm
  simp only [hne,Bool.false_and,Bool.not_false,Bool.and_true,Bool.and_eq_true,decide_eq_true_eq]
  constructor
  ·rintro⟨h1,h2,h3⟩
   exact⟨fun z hz=>(List.mem_cons.1 hz).elim (fun e=>e ▸ h1) (h2 z),h3⟩
  ·rintro⟨h1,h2⟩
   exact⟨h1 x (by simp),fun z hz=>h1 z (by simp [hz]),h2⟩
theorem qI (p:Int × Int) (v:Int):∀ l:List Int,(eU p (l.map fun x=>(v,x))).1=if l=[] then p.1 else v
 | []=>rfl
 | x :: l=>by
  rw [List.map_cons,eU,qI (v,x) v l]
  by_cases h:l=[] <;> simp [h]
theorem tD (O T:List Int):∀ k:Nat,(eU (-1,0) (bO O T k)).1<k
 | 0=>by simp [bO,eU]
 | k+1=>by
  rw [cg,iG]
  unfold eo
  rw [qI]
  have:=tD O T k
  split <;> omega
theorem kW (n:Int) (O T:List Int):∀ k:Nat,bT n (-1,0) (bO O T k)=(List.range k).all fun v=>jn n (aD O T v)
 | 0=>rfl
 | k+1=>by
  rw [cg,eN,kW n O T k,List.range_succ,List.all_append]
  congr 1
  unfold eo
  rw [vR (by have:=tD O T k;omega)]
  simp
theorem tn {O T:List Int} (h:l6 O T=true):aN O T=bT ((O.length - 1:Nat):Int) (-1,0) (aR O T):=by
 unfold aN aR
 rw [h,kW,Bool.true_and]
theorem fM {O T:List Int} {x:Int × Int}:x∈aR O T↔∃ v,v<O.length - 1/\x.1=(v:Int)/\x.2∈aD O T v:=by
 unfold aR bO eo
 simp only [List.mem_flatMap,List.mem_range,List.mem_map]
 constructor
 ·rintro⟨v,h1,y,h2,rfl⟩;exact⟨v,h1,rfl,h2⟩
 ·rintro⟨v,h1,h2,h3⟩;exact⟨v,h1,x.2,h3,by rw [<- h2]⟩
section
open Go Go.RowKit
section
variable {F:Fence} {n:Nat} {P:Program}
theorem iO {ops:Array Oper} {C:World->Prop} {Q:Act->Prop}:∀ {l:List Oper} {a:Act},wpQuiet P ops C Q l a->wpQuietIn Fence.wide n P ops C Q l a
 | [],_,h=>h
 | o :: l,a,h=>by
  unfold wpQuiet at h
  unfold wpQuietIn
  refine⟨fun _ _ _ _=>trivial,?_⟩
  split
  ·rename_i hw
   rw [if_pos hw] at h
   obtain⟨v,hv,hk⟩:=h
   refine⟨v,fun w hw=>?_,iO hk⟩
   have:=hv w hw
   unfold Oper.quietAt at this
   unfold Oper.quietAtIn
   generalize (execOp a.eval o).run P w=r at this
   cases r with
   | ok x w' =>
    cases x <;> first | exact this | exact this.elim | skip
    obtain⟨h1,h2⟩:=this
    exact⟨h1,fun h=>by simp [Fence.wide] at h,callsIn_wide.2 h2⟩
   | halt x w'=>exact this.elim
  ·rename_i hw
   rw [if_neg hw] at h
   exact iO h
theorem sm {r:Nat} {ops:Array Oper} {Q:Exit->Act->World->Prop} {i:Nat} {K K':Act->World->Prop} {a:Act} {w:World} (_:F.round=none) (hnd:∀ (i:Nat) (o:Oper),ops[i]?=some o->∀ c,o.op≠.defer c)
  (hK:∀ a w,K a w->K' a w) (h:wpOpIn F n P ops Q i K a w):wpOpIn (F.inRound r) n P ops Q i K' a w:=by
 have h:=wpOpIn_mono hK h
 unfold wpOpIn at h ⊢
 split
 ·rename_i ho;rw [ho] at h;exact h
 ·rename_i o ho
  rw [ho] at h
  simp only at h
  split
  ·rename_i hw
   rw [if_pos hw] at h
   refine⟨h.1,?_⟩
   have h2:=h.2
   rw [Oper.semAt_eq _ _ _ (hnd i o ho)] at h2 ⊢
   exact h2
  ·rename_i hw
   rw [if_neg hw] at h
   exact h
theorem gW {r:Nat} {md:Region.Mode} {ops:Array Oper} {Q:Exit->Act->World->Prop} (hro:F.round=none) (hnd:∀ (i:Nat) (o:Oper),ops[i]?=some o->∀ c,o.op≠.defer c) :
  ∀ (fuel:Nat) (listed:Array Bool) (a:Act) (w:World),wpAnyIn F n P md ops Q fuel listed a w->wpAnyIn (F.inRound r) n P md ops Q fuel listed a w
 | 0,_,_,_,h=>h
 | fuel+1,_,_,_,h=>⟨h.1,fun i hi=>sm hro hnd (fun a w=>gW hro hnd fuel _ a w) (h.2 i hi)⟩
def iJ (o:Oper):Bool:=match o.op with | .defer _=>false | _=>true
theorem iT {r:Nat} {id:Nat} {Q:Exit->Act->World->Prop} {a:Act} {w:World} {l:List Oper} (hm:P.follows .mixedOrders=true) (hB:Region.lexB .any l.toArray=true) (hd:l.all iJ=true)
  (h:wpQuiet P l.toArray (fun w'=>∃ x:Ie w,w'=x.val) (fun a'=>∀ w',(∃ x:Ie w,w'=x.val)->Q .normal a' w') l a):(Code.region id l.toArray true).wpIn (Fence.wide.inRound r) n P Q a w:=by
 have hnd:∀ (i:Nat) (o:Oper),l.toArray[i]?=some o->∀ c,o.op≠.defer c:=fun i o ho c e=>by
  have:=List.all_eq_true.1 hd o (List.mem_of_getElem? (by simpa using ho))
  unfold iJ at this
  rw [e] at this
  cases this
 have hB0:=hB
 simp only [Region.lexB,Bool.and_eq_true] at hB
 refine wpIn_region_any hm (gW rfl hnd _ _ _ _ (wpAnyIn_of_quiet (C:=fun w'=>∃ x:Ie w,w'=x.val) (Q:=fun a'=>∀ w',(∃ x:Ie w,w'=x.val)->Q .normal a' w') rfl (fun _ w' hw' h=>h w' hw') _ _ _ _ ⟨⟨{ w with drawn:=w.drawn+1 },⟨rfl,rfl,rfl,Nat.le_refl _,fun _ _=>rfl⟩⟩,rfl⟩ ?_))
 have:=wpAnyQIn_lex (F:=Fence.wide) (n:=n) (C:=fun w'=>∃ x:Ie w,w'=x.val) (md:=.any) hB.1 l 0 (Array.replicate l.toArray.size false) a (by simp) (by simpa using hB.2) (iO h)
 simpa using this
end
section
variable {P:Program} {n r:Nat}
theorem zj {row:String} {args:Array Value} {w:World} {R:Value->World->Prop} (h:Rows P row args w R):RowsIn Fence.wide n P row args w R:=fun c cs _=>let ⟨v,w',hr,s⟩:=h c cs;⟨v,w',hr,stepsIn_wide.2 s⟩
theorem cj {ops:Array Oper} {Q:Exit->Act->World->Prop} (hL:¬ LetsOut Q):∀ (l:List Oper) (a:Act) (w:World),l.all iJ=true->wpList P ops Q l a w->wpListIn (Fence.wide.inRound r) n P ops Q l a w
 | [],_,_,_,h=>h
 | o :: l,a,w,hd,h=>by
  rw [List.all_cons,Bool.and_eq_true] at hd
  have hnd:∀ c,o.op≠.defer c:=fun c e=>by
   have:=hd.1
   unfold iJ at this
   rw [e] at this
   cases this
  unfold wpList at h
  unfold wpListIn
  split
  ·rename_i hw
   rw [if_pos hw] at h
   rcases h with h | h
   ·refine⟨fun _ _=>trivial,?_⟩
    rw [Oper.semAt_eq _ _ _ hnd]
    unfold Oper.wp at h
    generalize (execOp a.eval o).run P w=res at h
    unfold Oper.upon at h
    unfold Oper.uponIn
    split at h
    ·exact cj hL l _ _ hd.2 h
    ·exact cj hL l _ _ hd.2 h
    ·exact cj hL l _ _ hd.2 h
    ·refine⟨fun h=>by simp [Fence.wide] at h,CallsIn.inRound r ((callsIn_wide.2 h).mono fun e w'' hr=>?_)⟩
     cases e with
     | returned v=>exact cj hL l _ _ hd.2 hr
     | panicked chain=>exact hr
     | outgrown=>exact hr
    ·exact⟨fun h=>by simp [Fence.wide] at h,(zj h).mono fun v w'' hr=>cj hL l _ _ hd.2 hr⟩
    ·exact h
    ·exact h.elim
   ·exact absurd h.2 hL
  ·rename_i hw
   rw [if_neg hw] at h
   exact⟨fun _ _=>trivial,cj hL l _ _ hd.2 h⟩
theorem iu {id:Nat} {l:List Oper} {Q:Exit->Act->World->Prop} {a:Act} {w:World} (hL:¬ LetsOut Q) (hd:l.all iJ=true) (h:wpList P l.toArray Q l a w):(Code.region id l.toArray false).wpIn (Fence.wide.inRound r) n P Q a w :=
 wpIn_region_lit (cj hL l a w hd h)
end
def Pc.cells (p:Pc):Prop:=∀ w,p.holds w->∀ k,p.foot k->∃ o:Obj,w.heap[k]?=some o/\o.isCells=true
theorem Pc.blk_cells (g:Nat) (t:TypeId) (cs:Array Value):(Pc.blk g t cs).cells:=fun _ h k e=>by
 cases e
 have h:Ih _ g t cs:=h
 exact⟨_,h,rfl⟩
theorem Pc.own_cells (e:TypeId) (size:Nat) (q:Option Addr) (n c:Nat) (xs:List Value):(Pc.own e size q n c xs).cells:=fun w h k hk=>by
 have h:w.ownsRow 0 e size (.slice q n c) n xs:=h
 rcases h.2 with ⟨h1,h2⟩ | ⟨g,cap,cur,h1,hg,hh,_⟩
 ·subst h2
  rcases h.2 with ⟨h3,_⟩ | ⟨g,cap,cur,h1,hg,hh,_⟩
  ·injection h3 with h3;subst h3;cases hk
  ·injection h1 with h1;subst h1
   obtain rfl:g=k:=by injection hk
   exact⟨_,hh,rfl⟩
 ·injection h1 with h1;subst h1
  obtain rfl:g=k:=by injection hk
  exact⟨_,hh,rfl⟩
theorem Ic.turn {w0 w w':World} {Γ:List Pc} {row:Option Nat} {B:Nat} (S:Ic w0 w Γ) (hΓ:∀ p∈Γ,p.cells) (hB:w0.heap.size<=B) (hg:w.grownBy w' row) (hr:∀ r,row=some r->B<=r/\∃ o:Obj,w.heap[r]?=some o/\o.isCells=false):Ic w0 w' Γ:=by
 refine⟨Below.trans S.ext ⟨hg.os,hg.tape,hg.output,hg.size,fun k hk=>hg.block k (Nat.lt_of_lt_of_le hk S.ext.size) fun e=>?_⟩,fun p hp=>p.loc w w' (S.all p hp) fun k hk=>hg.block k (S.lt hp hk) fun e=>?_,S.new,S.apart⟩
 ·have:=(hr k e.symm).1;omega
 ·obtain⟨_,o,h1,h2⟩:=hr k e.symm
  obtain⟨o',h3,h4⟩:=hΓ p hp w (S.all p hp) k hk
  rw [h1] at h3;injection h3 with h3;subst h3;rw [h2] at h4;cases h4
theorem dD {Γ:List Pc} (h:∀ p∈Γ,(∃ g t cs,p=Pc.blk g t cs)\/∃ e size q n c xs,p=Pc.own e size q n c xs):∀ p∈Γ,p.cells:=fun p hp=>by
 rcases h p hp with ⟨g,t,cs,rfl⟩ | ⟨e,size,q,n,c,xs,rfl⟩
 ·exact Pc.blk_cells _ _ _
 ·exact Pc.own_cells _ _ _ _ _ _
theorem Ic.putObj {w0 w:World} {Γ:List Pc} (S:Ic w0 w Γ) (hΓ:∀ p∈Γ,p.cells) {D:Nat} {o:Obj} (o':Obj) (hD:w0.heap.size<=D) (hK:w.heap[D]?=some o) (ho:o.isCells=false):Ic w0 (w.putObj D o') Γ :=
 S.turn hΓ hD (grownBy_putObj' w D o') fun r e=>by cases e;exact⟨Nat.le_refl _,o,hK,ho⟩
theorem eG {W W':World} (h:Ext W W'):KeepsOthers W W':=⟨h.size,fun k _ hk _=>(h.block k (Array.getElem?_eq_some_iff.1 hk).1).trans hk⟩
theorem gj {P:Program} {w0 w:World} {Γ:List Pc} {ops:Array Oper} {rest:List Oper} {o:Oper} {a:Act} {Q:Exit->Act->World->Prop} (hgd:o.guard=none) (s x:Operand) (t:TypeId)
  (ho:o.op=.call { callee:=.builtin .append,args:=#[s,x],argTypes:=#[t,t] })
  (e:TypeId) (i:TypeInfo) (z:Value) (size bytes:Nat) (ht:P.underlying t=some (.slice e)) (hi:P.info? e=some i) (hz:i.zero=some z)
  (hsize:i.size=size) (hby:i.bytes=bytes) (hzs:z.cells.size=size) (hsz:0<size)
  (S:Ic w0 w Γ) (j:Nat) (q:Option Addr) (n cq:Nat) (xs:List Value) (hs:a.eval s=.slice q n cq) (hj:Γ[j]?=some (.own e size q n cq xs))
  (A:Option Addr) (m c:Nat) (news:List Value) (hx:a.eval x=.slice A m c) (hr:Rd w size A m news) (h1:∀ u∈news,u.oneCell'=true)
  (hbytes:(n+m)*bytes<=140737488355328) (h63:n+m<=140737488355328)
  (h:∀ q' c' w',Ic w0 w' (Γ.set j (.own e size q' (n+m) c' (xs ++ news)))->w.heap.size<=w'.heap.size->KeepsOthers w w'->wpList P ops Q rest (a.put o.dst (.slice q' (n+m) c')) w'):wpList P ops Q (o :: rest) a w:=by
 refine aM hgd s x t ho w0.heap.size e i z size bytes ht hi hz hsize hby hzs hsz q n cq xs hs (S.own j hj) A m c news hx hr h1 hbytes h63 S.ext.size ?_
 intro q' c' w' ho' hg hat _
 refine h q' c' w' (S.put j hj _ hg (fun k hk=>hk) (aP ho' (Nat.zero_le _)) fun k hk=>?_) hg.size (KeepsOthers.of_grownBy hg fun k o ek hk=>?_)
 ·rcases hat with h | h
  ·exact .inl (h.symm.trans hk)
  ·have:some w.heap.size=some k:=h.symm.trans hk
   injection this with this
   exact .inr (by omega)
 ·obtain⟨o',h1,h2⟩:=Pc.own_cells e size q n cq xs w (S.all _ (List.mem_of_getElem? hj)) k ek
  rw [hk] at h1;injection h1 with h1;subst h1;exact h2
end
section
open Go Go.RowKit Go.Shelf Go.Lib
theorem Gz (x y:Int) (w:World):Calls prog 201 #[.int .i64 x,.int .i64 y] w fun e w'=>e=.returned (.bool (decide (x<y)))/\Ext w w' :=
 (Any.cmp_Less_int2 { Tryz.binI with } x y w).mono fun e w' ⟨h1,h2⟩=>⟨h1,by rw [h2];exact Below.refl _ _⟩
theorem p6 (p:Option Addr) (n c:Nat) (l:List Int) (w:World) (hl:Rd w 1 p n (ab l)) (h0:0<n) :
  Calls prog 198 #[.slice p n c] w fun e w'=>e=.returned (.bool (fm l))/\Ext w w':=by
 have p1:=hl.ptr
 have n1:=hl.small
 have l1:=hl.nI
 have HL:=lh hl;clear hl
 have L1:=lh l1;clear l1
 go_enter func198,ntmps198
 go_wp2
 go_loopw [3] (fun i wr=>∃ j:Nat,j<n/\i=.int .i64 j/\(∀ v,j<=v->v+1<n->ae l v<=ae l (v+1))/\Ext w wr) (fun i _=>(intOf i).toNat)
 case atStart=>exact⟨n - 1,by omega,by go_num,fun v h1 h2=>by omega,Below.refl _ _⟩
 case round =>
  obtain⟨j,hj,rfl,ha,hE⟩:=hrel
  have HA:=lh ha;clear ha
  rcases Nat.eq_zero_or_pos j with hz | hz
  ·subst hz
   have HF:Hid (fm l=true):=by
    unfold Hid fm
    rw [List.all_eq_true]
    intro v hv
    rw [List.mem_range] at hv
    exact decide_eq_true (HA.out v (by omega) (by rw [L1.out];omega))
   have HE:=lh hE;clear hE
   go_wp2
   go_ret
   exact⟨aq HF.out.symm,HE.out⟩
  ·have g1:=hE.cell (HL.out.cI hj)
   have g2:=hE.cell (HL.out.cI (k:=j - 1) (by omega))
   have d1:decide ((0:Int)<(j:Int))=true:=by simp;omega
   have Wm:decide (0<j)=true:=by simp;omega
   have d2:(0:Int)<=j:=by omega
   have d3:(j:Int)<n:=by omega
   have d4:(1:Int)<=(j:Int):=by omega
   have d5:(j:Int) - 1<n:=by omega
   have d6:(0:Int)<=(j:Int) - 1:=by omega
   have QO:=lh (fun x:Ie wr=>Gz (ae l j) (ae l (j - 1)) x.val)
   have HE:=lh hE;clear hE
   by_cases hlt:ae l j<ae l (j - 1)
   ·rw [decide_eq_true hlt] at QO
    have HF:Hid (fm l=false):=by
     unfold Hid fm
     refine dI _ _ (j - 1) (by rw [<- L1.out];omega) ?_
     rw [show j - 1+1=j by omega]
     simp;exact hlt
    go_wp2
    have x1:=fun x:Ie wr=>x.ext.cell g1
    have x2:=fun x:Ie wr=>x.ext.cell g2
    refine av (by kernel_rfl) (by kernel_rfl) ?_
    repeat (go_big_quiet_step (((go_at_call 201;exact Calls.ext_of (QO.out _)))))
    refine wpQuiet_nil ?_
    rintro w1 ⟨⟨_,hb1⟩,rfl⟩
    go_wp2
    go_ret
    exact⟨aq HF.out.symm,Ext.trans HE.out hb1⟩
   ·rw [decide_eq_false hlt] at QO
    go_wp2
    have x1:=fun x:Ie wr=>x.ext.cell g1
    have x2:=fun x:Ie wr=>x.ext.cell g2
    refine av (by kernel_rfl) (by kernel_rfl) ?_
    repeat (go_big_quiet_step (((go_at_call 201;exact Calls.ext_of (QO.out _)))))
    refine wpQuiet_nil ?_
    rintro w1 ⟨⟨_,hb1⟩,rfl⟩
    go_wp2
    go_roundw
    case rel=>exact⟨j - 1,by omega,by go_num,fun v h1 h2=>by
     by_cases h3:v=j - 1
     ·subst h3;rw [show j - 1+1=j by omega];omega
     ·exact HA.out v (by omega) h2,Ext.trans HE.out hb1⟩
    case measure=>simp [intOf];omega
def lu (m:Int) (l:List Int):Bool:=l.all fun x=>decide (0<=x) && decide (x<=m)
theorem xl (m:Int) (p:Option Addr) (n c:Nat) (l:List Int) (w:World) (hl:Rd w 1 p n (ab l)) :
  Calls prog 199 #[.int .i64 m,.slice p n c] w fun e w'=>e=.returned (.bool (lu m l))/\w=w':=by
 have p1:=hl.ptr
 have n1:=hl.small
 have l1:=hl.nI
 have HL:=lh hl;clear hl
 have L1:=lh l1;clear l1
 go_enter func199,ntmps199
 go_wp2
 go_loop [6,9] (fun _ i=>∃ k:Nat,k<=n/\i=.int .i64 k/\(l.take k).all (fun x=>decide (0<=x) && decide (x<=m))=true) (fun _ i=>n - (intOf i).toNat)
 case atStart=>exact⟨0,Nat.zero_le _,rfl,rfl⟩
 case round =>
  obtain⟨k,hk,rfl,ha⟩:=hrel
  have HA:=lh ha;clear ha
  by_cases hlt:k<n
  ·have g1:=HL.out.cI hlt
   have d1:(0:Int)<=k:=by omega
   have d2:(k:Int)<n:=by omega
   have I7:k<l.length:=by rw [<- L1.out];exact hlt
   by_cases h1:ae l k<0
   ·have b1:decide (ae l k<0)=true:=by simpa using h1
    have HF:Hid (lu m l=false):=cX _ l k I7 (by simp;omega)
    go_wp2
    go_ret
    exact⟨aq HF.out.symm,rfl⟩
   ·have b1:decide (ae l k<0)=false:=by simpa using h1
    by_cases h2:m<ae l k
    ·have b2:decide (m<ae l k)=true:=by simpa using h2
     have HF:Hid (lu m l=false):=cX _ l k I7 (by simp;omega)
     go_wp2
     go_ret
     exact⟨aq HF.out.symm,rfl⟩
    ·have b2:decide (m<ae l k)=false:=by simpa using h2
     have HS:=lh (i6 (fun x:Int=>decide (0<=x) && decide (x<=m)) l k I7 HA.out (by simp;omega))
     go_wp2
     go_round
     case rel=>exact⟨k+1,by omega,by go_num,HS.out⟩
     case measure=>simp [intOf];omega
  ·have HF:Hid (lu m l=true):=mW _ l k (by rw [<- L1.out];exact hlt) HA.out
   go_wp2
   go_ret
   exact⟨aq HF.out.symm,rfl⟩
theorem FU (po:Option Addr) (no co:Nat) (pt:Option Addr) (nt ct:Nat) (w:World) :
  Calls prog 135 #[.slice po no co,.slice pt nt ct] w fun e w'=>e=.returned (.func (.func 200) #[] #[.pointer (some ⟨w.heap.size,0,none⟩),.pointer (some ⟨w.heap.size+1,0,none⟩)])/\w'=(w.alloc (.cells #[.slice po no co] 25)).alloc (.cells #[.slice pt nt ct] 25):=by
 go_enter func135,ntmps135
 go_wp2
 go_ret
 exact⟨by simp,rfl⟩
theorem Rd.rowOf {w:World} {pt:Option Addr} {nt ct:Nat} {O T:List Int} (hT:Rd w 1 pt nt (ab T)) (hok:IJ O T) (hct:nt<=ct) {k:Nat} (hk:k+1<O.length) :
  Rd w 1 (bv pt ct (ae O k).toNat 1) ((ae O (k+1)).toNat - (ae O k).toNat) (ab (aD O T k)):=by
 have h1:=hok.le k hk
 have h2:=hok.hi (k+1) hk
 have h3:=hT.nI
 have:=hT.cut (l:=(ae O k).toNat) (h:=(ae O (k+1)).toNat) (by omega) (by omega) hct
 rw [qq,qu] at this
 exact this
def JO (n₀ b1 b2:Nat) (W W':World):Prop:=Below n₀ W W'/\W'.heap[b1]?=W.heap[b1]?/\W'.heap[b2]?=W.heap[b2]?
theorem JO.trans {n₀ b1 b2:Nat} {A B C:World} (h:JO n₀ b1 b2 A B) (k:JO n₀ b1 b2 B C):JO n₀ b1 b2 A C:=⟨Below.trans h.1 k.1,k.2.1.trans h.2.1,k.2.2.trans h.2.2⟩
theorem JO.refl (n₀ b1 b2:Nat) (A:World):JO n₀ b1 b2 A A:=⟨Below.refl _ _,rfl,rfl⟩
theorem JO.ext {n₀ b1 b2:Nat} {A B:World} (h:Ext A B) (hn:n₀<=A.heap.size) (h1:b1<A.heap.size) (h2:b2<A.heap.size):JO n₀ b1 b2 A B:=⟨h.mono hn,h.block b1 h1,h.block b2 h2⟩
abbrev gU (O T:List Int):={ x:Int × Int // x∈aR O T }
theorem tY {O T:List Int} {k j:Nat} (hk:k<O.length - 1) (hj:j<(aD O T k).length):((k:Int),ae (aD O T k) j)∈aR O T:=fM.2 ⟨k,hk,rfl,aY hj⟩
theorem im {O T:List Int} {k j:Nat} (hj:j<(aD O T k).length):(eo O T k).take (j+1)=(eo O T k).take j ++ [((k:Int),ae (aD O T k) j)]:=by
 have h1:j<(eo O T k).length:=by unfold eo;rw [List.length_map];exact hj
 rw [ak _ j h1]
 congr 2
 rw [ar h1,ar hj]
 simp [eo]
theorem j6 {O T:List Int} {k:Nat}:∀ d,bO O T k <+: bO O T (k+d)
 | 0=>List.prefix_refl _
 | d+1=>by
  rw [<- Nat.add_assoc,cg]
  exact(j6 d).trans (List.prefix_append _ _)
theorem fy {O T:List Int} {k j:Nat} (hk:k<O.length - 1):bO O T k ++ (eo O T k).take j <+: aR O T:=by
 have h1:bO O T k ++ (eo O T k).take j <+: bO O T (k+1):=by
  rw [cg]
  exact(List.prefix_append_right_inj _).2 (List.take_prefix _ _)
 have h2:=j6 (O:=O) (T:=T) (k:=k+1) (O.length - 1 - (k+1))
 rw [show k+1+(O.length - 1 - (k+1))=O.length - 1 by omega] at h2
 exact h1.trans h2
end
section
open Go Go.RowKit Go.Shelf Go.Lib
attribute [local go_sem] Oper.semAt_some
theorem qc (n:Nat) (hn:1<=n) (b1 b2 n₀:Nat) (po:Option Addr) (no co:Nat) (pt:Option Addr) (nt ct:Nat) (O T:List Int) (w:World) (hw:n₀<=w.heap.size)
  (h1:Ih w b1 25 #[.slice po no co]) (h2:Ih w b2 25 #[.slice pt nt ct]) (hO:Rd w 1 po no (ab O)) (hT:Rd w 1 pt nt (ab T)) (Oi:0<no->(be po 0).block<n₀) (hT0:0<nt->(be pt 0).block<n₀)
  (hok:IJ O T) (hct:nt<=ct) :
  SeqStopsK Fence.wide n prog 200 #[.pointer (some ⟨b1,0,none⟩),.pointer (some ⟨b2,0,none⟩)] (fun x:gU O T=>#[Value.int .i64 x.1.1,Value.int .i64 x.1.2]) (JO n₀ b1 b2)
   (fun ys=>ys.map (·.1)=aR O T) (fun pre=>pre.map (·.1) <+: aR O T) (aR O T).length w:=by
 intro l J Jx W hW hJ hJx hY h0
 have B1:Ih W b1 25 #[.slice po no co]:=h1.ext hW
 have B2:Ih W b2 25 #[.slice pt nt ct]:=h2.ext hW
 have RO:=hO.ext hW
 have RT:=hT.ext hW
 have l1:=lh RO.nI
 have l2:=lh RT.nI
 have pO:=RO.ptr
 have pT:=RT.ptr
 have n1:=RO.small
 have n2:=RT.small
 have w2:=hok.two
 clear h1 h2 hO hT hJx
 have HW:=lh hW;clear hW
 have HJ:=lh hJ;clear hJ
 have HY:=lh hY;clear hY
 have Iq:=lh hok;clear hok
 have QT:=lh RO;clear RO
 have VV:=lh RT;clear RT
 have c1:=B1.cell 0
 have z1:=B1.lt
 have d0:(1:Int)<=no:=by have:=l1.out;omega
 have HB1:=lh B1;clear B1
 have HB2:=lh B2;clear B2
 refine callsIn_of_wp func200 rfl trivial ?_ rfl
 simp only [ntmps200,List.size_toArray,List.length_cons,List.length_nil,Nat.reduceAdd,Nat.reduceSub,Array.replicate_succ,Array.replicate_zero,List.push_toArray,List.append_toArray,List.nil_append,List.cons_append]
 gi_wp2
 gi_loopw [4,6,10] (fun _ _ i wr=>∃ (k:Nat) (pre:List (gU O T)),k<=no - 1/\i=.int .i64 k/\pre.map (·.1)=bO O T k/\J pre wr/\JO n₀ b1 b2 W wr) (fun _ _ i _=>(no - 1) - (intOf i).toNat)
 case atStart=>exact⟨0,[],Nat.zero_le _,rfl,rfl,h0,JO.refl _ _ _ _⟩
 case round =>
  clear c1
  obtain⟨k,pre,hk,rfl,hpre,hJs,PG⟩:=hrel
  have Vl:Ih wr b1 25 #[.slice po no co]:=PG.2.1.trans HB1.out
  have Vm:Ih wr b2 25 #[.slice pt nt ct]:=PG.2.2.trans HB2.out
  have Un:=QT.out.below PG.1 (by simpa using Oi)
  have RT':=VV.out.below PG.1 (by simpa using hT0)
  have HP:=lh hpre;clear hpre
  have Pn:=lh hJs;clear hJs
  have QN:=lh PG;clear PG
  by_cases hlt:k<no - 1
  ·have hk1:k+1<O.length:=by rw [<- l1.out];omega
   have q1:=Iq.out.lo k (by omega)
   have q2:=Iq.out.le k hk1
   have q3:=Iq.out.hi (k+1) hk1
   have c1:=Vl.cell 0
   have c2:=Vm.cell 0
   have g1:=Un.cI (k:=k) (by omega)
   have g2:=Un.cI (k:=k+1) (by omega)
   have hrl:=lh (cK Iq.out hk1)
   have RL:=lh (RT'.rowOf Iq.out hct hk1)
   obtain⟨a,ha⟩:∃ a:Nat,ae O k=(a:Int):=⟨(ae O k).toNat,by omega⟩
   obtain⟨b,hb⟩:∃ b:Nat,ae O (k+1)=(b:Int):=⟨(ae O (k+1)).toNat,by omega⟩
   rw [ha] at g1 q1 q2 hrl RL
   rw [hb] at g2 q2 q3 hrl RL
   have hq3:(b:Int)<=ct:=by have:=l2.out;omega
   simp only [Int.toNat_natCast] at hrl RL
   have NB:Hid (∀ W',Below n₀ W W'->Rd W' 1 (bv pt ct a 1) (b - a) (ab (aD O T k))):=fun W' h=>by
    have h3:=(VV.out.below h (by simpa using hT0)).rowOf Iq.out hct hk1
    rw [ha,hb] at h3
    simpa only [Int.toNat_natCast] using h3
   have d1:(0:Int)<=k:=by omega
   have d2:(k:Int)<no:=by omega
   have ZH:(k:Int)<(no:Int) - 1:=by omega
   have d3:(0:Int)<=(k:Int)+1:=by omega
   have d4:(k:Int)+1<no:=by omega
   clear ha hb Vl Vm Un RT' q3
   gi_wp2
   refine wpIn_wide.2 ?_
   have x1:=fun x:Ie wr=>x.ext.cell c1
   have x2:=fun x:Ie wr=>x.ext.cell c2
   have y1:=fun x:Ie wr=>x.ext.cell g1
   have y2:=fun x:Ie wr=>x.ext.cell g2
   refine av (by kernel_rfl) (by kernel_rfl) ?_
   repeat (go_big_quiet_step ((fail)))
   refine wpQuiet_nil ?_
   rintro w1 ⟨⟨_,hb1⟩,rfl⟩
   have pR:=RL.out.ptr
   have nR:=RL.out.small
   have lR:=lh RL.out.nI
   gi_wp2
   gi_loopw [6,25] (fun _ j wx=>∃ (i:Nat) (pre':List (gU O T)),i<=b - a/\j=.int .i64 i/\pre'.map (·.1)=bO O T k ++ (eo O T k).take i/\J pre' wx/\JO n₀ b1 b2 W wx) (fun _ j _=>(b - a) - (intOf j).toNat)
   case atStart=>exact⟨0,pre,Nat.zero_le _,rfl,by rw [HP.out];simp,HJ.out _ _ _ none Pn.out (Ext.grown hb1) (fun r e=>nomatch e),
    QN.out.trans (JO.ext hb1 (Nat.le_trans hw (Nat.le_trans HW.out.size QN.out.1.size)) (Nat.lt_of_lt_of_le HB1.out.lt QN.out.1.size) (Nat.lt_of_lt_of_le HB2.out.lt QN.out.1.size))⟩
   case round =>
    clear hb1 x1 x2 y1 y2
    obtain⟨i,pre',hi,rfl,hp',hJ',hK'⟩:=hrel
    have Um:=NB.out _ hK'.1
    have QR:=lh hp';clear hp'
    have VG:=lh hJ';clear hJ'
    have VH:=lh hK';clear hK'
    by_cases hli:i<b - a
    ·have hin:i<(aD O T k).length:=by rw [hrl.out];exact hli
     have f1:=Um.cI hli
     have d5:(0:Int)<=i:=by omega
     have d6:(i:Int)<((b - a:Nat):Int):=by omega
     have hlen:pre'.length<(aR O T).length:=by
      have h3:=(fy (O:=O) (T:=T) (k:=k) (j:=i+1) (by omega)).length_le
      rw [im hin,<- List.append_assoc,<- QR.out] at h3
      simp at h3;omega
     obtain⟨fn,tmps,assign,body,hy,hR⟩:=HY.out pre' ⟨((k:Int),ae (aD O T k) i),tY (by rw [<- l1.out];exact hlt) hin⟩ _ VG.out hlen
     dsimp only at hy
     clear Um
     gi_wp2
     refine hR.mono ?_
     rintro e W3 (⟨rfl,hJ3,hk3⟩ | ⟨rfl,hJx3⟩)
     ·have Me:=lh hJ3;clear hJ3
      have Pp:=lh hk3;clear hk3
      gi_wp2
      go_roundw
      case rel=>exact⟨i+1,_,by omega,by go_num,by rw [List.map_append,QR.out,im hin,List.append_assoc];rfl,Me.out,VH.out.trans Pp.out⟩
      case measure=>simp [intOf];omega
     ·have MC:=lh hJx3;clear hJx3
      gi_wp2
      refine bodyPost_ret (results_none rfl _ _ _) rfl ?_
      exact⟨⟨_,rfl⟩,.inr ⟨_,by
       have h3:=fy (O:=O) (T:=T) (k:=k) (j:=i+1) (by rw [<- l1.out];exact hlt)
       rw [im hin,<- List.append_assoc,<- QR.out] at h3
       rw [List.map_append];exact h3,MC.out⟩⟩
    ·obtain rfl:i=b - a:=by omega
     clear Um
     gi_wp2
     go_roundw
     case rel=>exact⟨k+1,pre',by omega,by go_num,by rw [QR.out,cg,List.take_of_length_le (by unfold eo;rw [List.length_map,hrl.out];exact Nat.le_refl _)],VG.out,VH.out⟩
     case measure=>simp [intOf];omega
  ·obtain rfl:k=no - 1:=by omega
   have d2:decide (((no - 1:Nat):Int)<(no:Int) - 1)=false:=by simp;omega
   have d3:((no - 1:Nat):Int)=(no:Int) - 1:=by omega
   gi_wp2
   go_end0
   exact⟨⟨_,rfl⟩,.inl ⟨pre,by rw [HP.out,l1.out];rfl,Pn.out⟩⟩
end
section
open Go Go.RowKit Go.Shelf Go.Lib
attribute [local go_sem] Oper.semAt_some
theorem xO {B:Nat} {w W W':World} (h:Below B w W) (k:Below B w W') (hs:W.heap.size<=W'.heap.size):Below B W W' :=
 ⟨k.os.trans h.os.symm,k.tape.trans h.tape.symm,k.output.trans h.output.symm,hs,fun i hi=>(k.block i hi).trans (h.block i hi).symm⟩
theorem vE {w W W':World} {b1 b2:Nat} {o1 o2:Obj} (h:Ext w W) (k:Ext w W') (hs:W.heap.size<=W'.heap.size) (h1:W.heap[b1]?=some o1) (h2:W.heap[b2]?=some o2) (k1:W'.heap[b1]?=some o1) (k2:W'.heap[b2]?=some o2):JO w.heap.size b1 b2 W W' :=
 ⟨xO h k hs,k1.trans h1.symm,k2.trans h2.symm⟩
theorem DO {w3:World} {n₀ b1 b2:Nat} (hn:n₀<=w3.heap.size) (h1:b1<w3.heap.size) (h2:b2<w3.heap.size) (W:World) (l:Nat) (o o':Obj) (hl:w3.heap.size<=l) (h:W.heap[l]?=some o) (hc:o.isCells=false) (hw:o.isWalk=false):JO n₀ b1 b2 W (W.putObj l o') :=
 ⟨belowK_b hn W l o o' hl h hc hw,World.putObj_heap_other (by omega),World.putObj_heap_other (by omega)⟩
theorem A4 (po:Option Addr) (no co:Nat) (O:List Int) (pt:Option Addr) (nt ct:Nat) (T:List Int) (w:World) (hO:Rd w 1 po no (ab O)) (hT:Rd w 1 pt nt (ab T)) (hct:nt<=ct) (h:l6 O T=false):Calls prog 134 #[.slice po no co,.slice pt nt ct] w fun e w'=>e=.returned (.bool false)/\Ext w w':=by
 have _hc:=hct
 have p1:=hO.ptr
 have n1:=hO.small
 have n2:=hT.small
 have l1:=lh hO.nI
 have l2:=lh hT.nI
 have S0:=lh (((Ic.start w).al #[.bool false] 4 w.heap.size rfl).al #[.int .i64 ((no:Int) - 1)] 3 (w.heap.size+1) (by simp))
 have Pz:=lh (fun W1 (h:Ext w W1) (h0:0<no)=>p6 po no co O W1 (hO.ext h) h0)
 by_cases h1:(no:Int) - 1<1
 ·have d1:decide ((no:Int) - 1<1)=true:=by simpa using h1
  clear hO hT h
  go_enter func134,ntmps134
  go_wp2
  refine bodyPost_ret (v:=.bool false) (by simp [results,results134,go_sem]) rfl ⟨rfl,?_⟩
  first | exact S0.out.ext | exact(S0.out.set 1 rfl 0 _).ext
 ·have d1:decide ((no:Int) - 1<1)=false:=by simpa using h1
  by_cases h2:200<(no:Int) - 1
  ·have d2:decide (200<(no:Int) - 1)=true:=by simpa using h2
   clear hO hT h
   go_enter func134,ntmps134
   go_wp2
   refine bodyPost_ret (v:=.bool false) (by simp [results,results134,go_sem]) rfl ⟨rfl,?_⟩
   first | exact S0.out.ext | exact(S0.out.set 1 rfl 0 _).ext
  ·have d2:decide (200<(no:Int) - 1)=false:=by simpa using h2
   by_cases h3:2000<nt
   ·have d3:decide ((2000:Int)<nt)=true:=by simp;omega
    clear hO hT h
    go_enter func134,ntmps134
    go_wp2
    refine bodyPost_ret (v:=.bool false) (by simp [results,results134,go_sem]) rfl ⟨rfl,?_⟩
    first | exact S0.out.ext | exact(S0.out.set 1 rfl 0 _).ext
   ·have d3:decide ((2000:Int)<nt)=false:=by simp;omega
    have g0:=S0.out.ext.cell (hO.cI (k:=0) (by omega))
    have q1:(0:Int)<no:=by omega
    by_cases h4:ae O 0=0
    ·have d4:(ae O 0 != 0)=false:=by simpa using h4
     have g5:=S0.out.ext.cell (hO.cI (k:=no - 1) (by omega))
     have q2:(0:Int)<=(no:Int) - 1:=by omega
     have q3:(no:Int) - 1<no:=by omega
     by_cases h5:ae O (no - 1)=nt
     ·have d5:(ae O (no - 1) != (nt:Int))=false:=by simpa using h5
      have h6:fm O=false:=by
       cases h7:fm O with
       | false=>rfl
       | true =>
        unfold l6 at h
        rw [h7,h4] at h
        rw [<- l1.out,<- l2.out,h5] at h
        simp at h;omega
      rw [h6] at Pz
      clear hO hT h h6 h4 h5
      go_enter func134,ntmps134
      go_wp2_with (go_at_call 198;go_must (refine(Pz.out _ S0.out.ext (by omega)).mono ?_;rintro e w2 ⟨rfl,hb⟩;have S2:=lh (S0.out.call hb);obtain⟨c4,f4,z4⟩:=dC (S2.out.blk 1 rfl);clear hb))
      refine bodyPost_ret (v:=.bool false) (by simp [results,results134,go_sem,c4]) rfl ⟨rfl,(S2.out.set 1 rfl 0 _).ext⟩
     ·have d5:(ae O (no - 1) != (nt:Int))=true:=by simpa using h5
      clear hO hT h h4 h5
      go_enter func134,ntmps134
      go_wp2
      refine bodyPost_ret (v:=.bool false) (by simp [results,results134,go_sem]) rfl ⟨rfl,?_⟩
      first | exact S0.out.ext | exact(S0.out.set 1 rfl 0 _).ext
    ·have d4:(ae O 0 != 0)=true:=by simpa using h4
     clear hO hT h h4
     go_enter func134,ntmps134
     go_wp2
     refine bodyPost_ret (v:=.bool false) (by simp [results,results134,go_sem]) rfl ⟨rfl,?_⟩
     first | exact S0.out.ext | exact(S0.out.set 1 rfl 0 _).ext
end
section
open Go Go.RowKit Go.Shelf Go.Lib
attribute [local go_sem] Oper.semAt_some
def n7 (b4 b:Nat) (po:Option Addr) (no co:Nat) (pt:Option Addr) (nt ct:Nat) (p:Int × Int) (r:Bool):List Pc :=
 [.blk (b+1+1+1) 25 #[.slice pt nt ct],.blk (b+1+1) 25 #[.slice po no co],.blk (b+1) 3 #[.int .i64 p.2],.blk b 3 #[.int .i64 p.1],.blk (b4+1) 3 #[.int .i64 ((no:Int) - 1)],.blk b4 4 #[.bool r]]
theorem ft (b4 b:Nat) (po:Option Addr) (no co:Nat) (pt:Option Addr) (nt ct:Nat) (p:Int × Int) (r:Bool):∀ q∈n7 b4 b po no co pt nt ct p r,q.cells :=
 dD fun q hq=>by simp [n7] at hq;rcases hq with h | h | h | h | h | h <;> exact .inl ⟨_,_,_,h⟩
theorem yC (po:Option Addr) (no co:Nat) (O:List Int) (pt:Option Addr) (nt ct:Nat) (T:List Int) (w:World) (hO:Rd w 1 po no (ab O)) (hT:Rd w 1 pt nt (ab T)) (hct:nt<=ct) (h:l6 O T=true):Calls prog 134 #[.slice po no co,.slice pt nt ct] w fun e w'=>e=.returned (.bool (aN O T))/\Ext w w':=by
 have p1:=hO.ptr
 have n1:=hO.small
 have n2:=hT.small
 have l1:=hO.nI
 have l2:=hT.nI
 have Mq:=lh (tn h)
 have Iq:=lh (cJ h)
 obtain⟨r1,r2,r3,r4,r5,r6⟩:=aQ h
 have S0:=lh (((Ic.start w).al #[.bool false] 4 w.heap.size rfl).al #[.int .i64 ((no:Int) - 1)] 3 (w.heap.size+1) (by simp))
 have Pz:=lh (fun W1 (h:Ext w W1)=>p6 po no co O W1 (hO.ext h) (by omega))
 rw [r6] at Pz
 have d1:decide ((no:Int) - 1<1)=false:=by simp;omega
 have d2:decide (200<(no:Int) - 1)=false:=by simp;omega
 have d3:decide ((2000:Int)<nt)=false:=by simp;omega
 have g0:=S0.out.ext.cell (hO.cI (k:=0) (by omega))
 have q1:(0:Int)<no:=by omega
 have d4:(ae O 0 != 0)=false:=by simpa using r4
 have g5:=S0.out.ext.cell (hO.cI (k:=no - 1) (by omega))
 have q2:(0:Int)<=(no:Int) - 1:=by omega
 have q3:(no:Int) - 1<no:=by omega
 have d5:(ae O (no - 1) != (nt:Int))=false:=by rw [<- l1,<- l2] at r5;simpa using r5
 have L1:Hid (((O.length - 1:Nat):Int)=(no:Int) - 1):=by unfold Hid;omega
 rw [L1.out] at Mq
 have Oi:0<no->(be po 0).block<w.heap.size:=fun h=>hO.lt (by omega)
 have hT0:0<nt->(be pt 0).block<w.heap.size:=fun h=>hT.lt (by omega)
 have HO:=lh hO;clear hO
 have HT:=lh hT;clear hT
 clear r1 r2 r3 r4 r5 r6 h l1 l2
 refine(callsIn_wide (n:=9)).1 ?_
 refine callsIn_of_wp_marks func134 rfl trivial ?_ rfl
 simp only [ntmps134,List.size_toArray,List.length_cons,List.length_nil,Nat.reduceAdd,Nat.reduceSub,Array.replicate_succ,Array.replicate_zero,List.push_toArray,List.append_toArray,List.nil_append,List.cons_append]
 refine wpIn_wide.2 ?_
 go_wp2_with (first
  | (go_at_call 135;go_must (refine(FU po no co pt nt ct _).mono ?_;rintro e w3 ⟨rfl,hw3⟩;have S3:=(((S2.out.al #[.int .i64 (-1)] 3 w2.heap.size rfl).al #[.int .i64 0] 3 (w2.heap.size+1) (by simp)).al #[.slice po no co] 25 (w2.heap.size+1+1) (by simp)).al #[.slice pt nt ct] 25 (w2.heap.size+1+1+1) (by simp);rw [<- hw3] at S3;have S4:=lh (S3:Ic w w3 (n7 w.heap.size w2.heap.size po no co pt nt ct (-1,0) false));clear S3 hw3))
  | (go_at_call 198;go_must (refine(Pz.out _ S0.out.ext).mono ?_;rintro e w2 ⟨rfl,hb⟩;have S2:=lh (S0.out.call hb);have c4:=(S2.out.blk 1 rfl).cell 0;have c5:=(S2.out.blk 0 rfl).cell 0;have z4:=(S2.out.blk 1 rfl).lt;have z5:=(S2.out.blk 0 rfl).lt;clear hb)))
 clear S0 S2 Pz g0 g5 c4 c5
 generalize w2.heap.size=b at *
 refine wpIn_wide.1 (wpIn_rangeFunc_ownG (F:=Fence.wide) (n:=9) rfl (by omega) (gf:=200) (lb:=#[.pointer (some ⟨b+1+1,0,none⟩),.pointer (some ⟨b+1+1+1,0,none⟩)]) rfl trivial (enters_of func200 (by kernel_rfl) rfl)
  (qc 8 (by omega) (b+1+1) (b+1+1+1) w.heap.size po no co pt nt ct O T w3 S4.out.ext.size (S4.out.blk 1 rfl) (S4.out.blk 0 rfl) (HO.out.ext S4.out.ext) (HT.out.ext S4.out.ext) Oi hT0 Iq.out hct)
  (fun h k=>JO.trans h k) (DO S4.out.ext.size (S4.out.blk 1 rfl).lt (S4.out.blk 0 rfl).lt) (Below.refl _ _) (fun _=>rfl)
  (fun pre W=>bT ((no:Int) - 1) (-1,0) (pre.map (·.1))=true/\Ic w W (n7 w.heap.size b po no co pt nt ct (eU (-1,0) (pre.map (·.1))) false))
  (fun c pre W=>(c=.ret/\bT ((no:Int) - 1) (-1,0) (pre.map (·.1))=false)/\∃ p,Ic w W (n7 w.heap.size b po no co pt nt ct p false))
  ?hI ?hIx ⟨rfl,S4.out⟩ ?a1 ?assign ?body ?done ?stop)
 case hI=>exact fun s A B row hs hg hr=>⟨hs.1,hs.2.turn (ft _ _ _ _ _ _ _ _ _ _) S4.out.ext.size hg hr⟩
 case hIx=>exact fun c s A B row hs hg hr=>⟨hs.1,hs.2.elim fun p S=>⟨p,S.turn (ft _ _ _ _ _ _ _ _ _ _) S4.out.ext.size hg hr⟩⟩
 case assign =>
  intro l x W K hK
  gi_wp2
  exact hK
 case body =>
  rintro l pre ⟨⟨v,u⟩,hx⟩ W ⟨ho,S⟩ _
  have hsn:=tU ((no:Int) - 1) (-1,0) (pre.map (·.1)) (v,u)
  rw [ho,Bool.true_and] at hsn
  have hls:=vF (-1,0) (pre.map (·.1)) (v,u)
  have hm:(pre ++ [(⟨(v,u),hx⟩:gU O T)]).map (·.1)=pre.map (·.1) ++ [(v,u)]:=by simp
  rw [<- hm] at hsn hls
  obtain⟨p,hp⟩:∃ p,p=eU (-1,0) (pre.map (·.1)):=⟨_,rfl⟩
  rw [<- hp] at S hsn
  have Ka:=lh hsn
  have VK:=lh hls
  have c7:=(S.blk 2 rfl).cell 0
  have c6:=(S.blk 3 rfl).cell 0
  have c5:=(S.blk 4 rfl).cell 0
  have c4:=(S.blk 5 rfl).cell 0
  have f7:=(S.blk 2 rfl).frozen 0
  have f6:=(S.blk 3 rfl).frozen 0
  have f4:=(S.blk 5 rfl).frozen 0
  have z7:=(S.blk 2 rfl).lt
  have z6:=(S.blk 3 rfl).lt
  have z5:=(S.blk 4 rfl).lt
  have z4:=(S.blk 5 rfl).lt
  have y1:b≠b+1:=by omega
  have HW:=lh (xl ((no:Int) - 1 - 1) (some ⟨W.heap.size,0,none⟩) 1 1 [u] _ (Rd.oneI W 3 u))
  have hwd:lu ((no:Int) - 1 - 1) [u]=(decide (0<=u) && decide (u<=(no:Int) - 1 - 1)):=by simp [lu]
  have SH:=lh S;clear S
  clear hsn hls hm ho hp S4 HO HT Iq Oi hT0 Mq
  by_cases hu:0<=u/\u<=(no:Int) - 1 - 1
  ·rw [hwd,decide_eq_true hu.1,decide_eq_true hu.2] at HW
   have hu2:decide (u<(no:Int) - 1)=true:=by simp;omega
   by_cases hv:v=p.1
   ·have e1:(v == p.1)=true:=by simpa using hv
    by_cases hw:u<=p.2
    ·have e2:decide (u<=p.2)=true:=by simpa using hw
     have HF:Hid (bT ((no:Int) - 1) (-1,0) ((pre ++ [(⟨(v,u),hx⟩:gU O T)]).map (·.1))=false):=by
      unfold Hid;rw [Ka.out];unfold jo;simp [hv,hw]
     clear hv hw hwd
     gi_wp2_with (refine⟨trivial,?_⟩;gi_at_call 199;refine(CallsIn.inRound l (callsIn_wide.2 HW.out)).mono ?_;rintro e w' ⟨rfl,rfl⟩)
     exact⟨((KeepsOthers.setCell W _ _).trans (KeepsOthers.alloc _ _)).from _,⟨rfl,HF.out⟩,p,(SH.out.set 5 rfl 0 (.bool false)).junk _⟩
    ·have e2:decide (u<=p.2)=false:=by simpa using hw
     have HF:Hid (bT ((no:Int) - 1) (-1,0) ((pre ++ [(⟨(v,u),hx⟩:gU O T)]).map (·.1))=true):=by
      unfold Hid;rw [Ka.out];unfold jo;simp [hu.1,hw];omega
     clear hv hw hwd
     gi_wp2_with (refine⟨trivial,?_⟩;gi_at_call 199;refine(CallsIn.inRound l (callsIn_wide.2 HW.out)).mono ?_;rintro e w' ⟨rfl,rfl⟩)
     have S':=((SH.out.set 3 rfl 0 (.int .i64 v)).set 2 rfl 0 (.int .i64 u)).junk (.cells #[.int .i64 u] 3)
     exact⟨(((KeepsOthers.setCell W _ _).trans (KeepsOthers.setCell _ _ _)).trans (KeepsOthers.alloc _ _)).from _,vE SH.out.ext S'.ext (by simp) (SH.out.blk 1 rfl) (SH.out.blk 0 rfl) (S'.blk 1 rfl) (S'.blk 0 rfl),HF.out,by rw [VK.out];exact S'⟩
   ·have e1:(v == p.1)=false:=by simpa using hv
    have HF:Hid (bT ((no:Int) - 1) (-1,0) ((pre ++ [(⟨(v,u),hx⟩:gU O T)]).map (·.1))=true):=by
     unfold Hid;rw [Ka.out];unfold jo;simp [hu.1,hv];omega
    clear hv hwd
    gi_wp2_with (refine⟨trivial,?_⟩;gi_at_call 199;refine(CallsIn.inRound l (callsIn_wide.2 HW.out)).mono ?_;rintro e w' ⟨rfl,rfl⟩)
    have S':=((SH.out.set 3 rfl 0 (.int .i64 v)).set 2 rfl 0 (.int .i64 u)).junk (.cells #[.int .i64 u] 3)
    exact⟨(((KeepsOthers.setCell W _ _).trans (KeepsOthers.setCell _ _ _)).trans (KeepsOthers.alloc _ _)).from _,vE SH.out.ext S'.ext (by simp) (SH.out.blk 1 rfl) (SH.out.blk 0 rfl) (S'.blk 1 rfl) (S'.blk 0 rfl),HF.out,by rw [VK.out];exact S'⟩
  ·have hwf:lu ((no:Int) - 1 - 1) [u]=false:=by
    rw [hwd]
    by_cases h1:0<=u
    ·simp [h1];omega
    ·simp [h1]
   rw [hwf] at HW
   have HF:Hid (bT ((no:Int) - 1) (-1,0) ((pre ++ [(⟨(v,u),hx⟩:gU O T)]).map (·.1))=false):=by
    unfold Hid;rw [Ka.out];unfold jo
    have:(decide (0<=u) && decide (u<(no:Int) - 1))=false:=by
     by_cases h1:0<=u
     ·simp [h1];omega
     ·simp [h1]
    simp only [this,Bool.false_and]
   clear hwd hwf
   gi_wp2_with (refine⟨trivial,?_⟩;gi_at_call 199;refine(CallsIn.inRound l (callsIn_wide.2 HW.out)).mono ?_;rintro e w' ⟨rfl,rfl⟩)
   exact⟨((KeepsOthers.setCell W _ _).trans (KeepsOthers.alloc _ _)).from _,⟨rfl,HF.out⟩,p,(SH.out.set 5 rfl 0 (.bool false)).junk _⟩
 case done =>
  rintro D ys W hD hys ⟨ho,S⟩ hK
  have HF:Hid (aN O T=true):=by unfold Hid;rw [Mq.out,<- hys];exact ho
  obtain⟨c4,f4,z4⟩:=dC (S.blk 5 rfl)
  have hKs:=(KeepsOthers.setCell W ⟨w.heap.size,0,none⟩ (.bool true)).same D _ hK rfl
  have S':=(S.set 5 rfl 0 (.bool true)).putObj (ft w.heap.size b po no co pt nt ct _ true) (.deferred none) (Nat.le_trans S4.out.ext.size hD) hKs rfl
  have k4:=(S'.blk 5 rfl).cell 0
  have SH:=lh S;clear S
  have KI:=lh S';clear S'
  go_wp2
  refine⟨by simp,.inl ⟨_,_,rfl,run_takeDeferred hKs,?_⟩⟩
  exact⟨.bool true,by simp [results,results134,go_sem,k4],aq HF.out.symm,KI.out.ext⟩
 case stop =>
  rintro D c pre W hD hSp ⟨⟨rfl,hno⟩,p,S⟩ hK
  have HF:Hid (aN O T=false):=by unfold Hid;rw [Mq.out];exact yW hno hSp
  have S':=S.putObj (ft w.heap.size b po no co pt nt ct _ false) (.deferred none) (Nat.le_trans S4.out.ext.size hD) hK rfl
  have k4:=(S'.blk 5 rfl).cell 0
  have SH:=lh S;clear S
  have KI:=lh S';clear S'
  refine wpIn_wide.2 ?_
  go_wp2
  refine⟨by simp,.inl ⟨_,_,rfl,run_takeDeferred hK,?_⟩⟩
  exact⟨.bool false,by simp [results,results134,go_sem,k4],aq HF.out.symm,KI.out.ext⟩
theorem wL (po:Option Addr) (no co:Nat) (O:List Int) (pt:Option Addr) (nt ct:Nat) (T:List Int) (w:World) (hO:Rd w 1 po no (ab O)) (hT:Rd w 1 pt nt (ab T)) (hct:nt<=ct):Calls prog 134 #[.slice po no co,.slice pt nt ct] w fun e w'=>e=.returned (.bool (aN O T))/\Ext w w':=by
 cases h:l6 O T with
 | false =>
  have:aN O T=false:=by unfold aN;rw [h];rfl
  rw [this]
  exact A4 po no co O pt nt ct T w hO hT hct h
 | true=>exact yC po no co O pt nt ct T w hO hT hct h
end
section
open Go Go.RowKit Go.Shelf Go.Lib
attribute [local go_sem] Oper.semAt_some
theorem GX (p:Option Addr) (n c:Nat) (l:List Int) (x:Int) (w:World) (hl:Rd w 1 p n (ab l)) (hs:bM fd l) (hn:n<=1000000) :
  Calls prog 136 #[.slice p n c,.int .i64 x] w fun e w'=>e=.returned (.tuple #[.int .i64 (l.countP (·<x):Nat),.bool (jY l x)])/\Ext w w':=by
 have ln:=hl.nI
 have hin:jY l x=l.contains x:=by rw [Bool.eq_iff_iff,fu];simp
 rw [hin]
 rcases hl.ptr with h0 | ⟨b,o,rfl⟩
 ·subst h0
  have:l=[]:=List.eq_nil_of_length_eq_zero ln.symm
  subst this
  exact(Any.slices_BinarySearch_int_empty Tryz.binI p c x w).mono fun e w' h=>⟨by have:=h.1;simpa using this,by rw [h.2];exact Below.refl _ _⟩
 ·have ht:l.take n=l:=List.take_of_length_le (by omega)
  have:=Any.slices_BinarySearch_int Tryz.binI b o n c l x w (by omega) (by omega) (fun j hj=>by
   have h1:=hl.cI (k:=j) (by omega)
   rw [aB] at h1
   rw [h1,ar hj,List.getD_eq_getElem?_getD,List.getElem?_eq_getElem hj];rfl) (by rw [ht];exact hs.imp (fun {a b} h=>by simp [fd] at h;omega))
  rw [ht] at this
  exact this.mono fun e w' h=>⟨h.1,by obtain⟨q,hq⟩:=h.2;rw [hq];exact Ext.drewN (Below.refl _ _) q⟩
theorem Fl (p:Option Addr) (n c:Nat) (l:List Int) (x:Int) (w:World) (hl:Rd w 1 p n (ab l)) :
  Calls prog 218 #[.slice p n c,.int .i64 x] w fun e w'=>e=.returned (.bool (jY l x))/\Ext w w':=by
 have ln:=hl.nI
 have hin:jY l x=l.contains x:=by rw [Bool.eq_iff_iff,fu];simp
 rw [hin]
 rcases hl.ptr with h0 | ⟨b,o,rfl⟩
 ·subst h0
  have:l=[]:=List.eq_nil_of_length_eq_zero ln.symm
  subst this
  exact(Any.slices_Contains_int_empty Tryz.hasI p c x w).mono fun e w' h=>⟨by have:=h.1;simpa using this,by rw [h.2];exact Below.refl _ _⟩
 ·have ht:l.take n=l:=List.take_of_length_le (by omega)
  have:=Any.slices_Contains_int Tryz.hasI b o n c l x w (by omega) hl.small (fun j hj=>by
   have h1:=hl.cI (k:=j) (by omega)
   rw [aB] at h1
   rw [h1,ar hj,List.getD_eq_getElem?_getD,List.getElem?_eq_getElem hj];rfl)
  rw [ht] at this
  exact this.mono fun e w' h=>⟨h.1,by rw [h.2];exact Below.refl _ _⟩
theorem qi {O T R V:List Int} (h:O.length≠R.length\/T.length≠V.length\/aN O T=false\/aN R V=false):ai O T R V=false:=by
 unfold ai
 rcases h with h | h | h | h <;> simp [h]
theorem xo (po:Option Addr) (no co:Nat) (O:List Int) (pt:Option Addr) (nt ct:Nat) (T:List Int) (pr:Option Addr) (nr cr:Nat) (R:List Int) (pv:Option Addr) (nv cv:Nat) (V:List Int) (w:World) (hO:Rd w 1 po no (ab O)) (hT:Rd w 1 pt nt (ab T)) (hR:Rd w 1 pr nr (ab R)) (hV:Rd w 1 pv nv (ab V)) (hct:nt<=ct) (hcv:nv<=cv) (h:no≠nr\/nt≠nv\/aN O T=false\/aN R V=false) :
  Calls prog 82 #[.agg #[.slice po no co,.slice pt nt ct,.slice pr nr cr,.slice pv nv cv]] w fun e w'=>e=.returned (.bool false)/\Ext w w':=by
 have n1:=hO.small
 have n2:=hT.small
 have n3:=hR.small
 have n4:=hV.small
 have S0:=lh (((Ic.start w).al #[.slice po no co,.slice pt nt ct,.slice pr nr cr,.slice pv nv cv] 27 w.heap.size rfl).al #[.bool false] 4 (w.heap.size+1) (by simp))
 have Jg:=lh (fun W1 (h:Ext w W1)=>wL po no co O pt nt ct T W1 (hO.ext h) (hT.ext h) hct)
 have JC:=lh (fun W1 (h:Ext w W1)=>wL pr nr cr R pv nv cv V W1 (hR.ext h) (hV.ext h) hcv)
 clear hO hT hR hV
 by_cases h1:no=nr
 ·have d1:((no:Int) != (nr:Int))=false:=by simp;omega
  by_cases h2:nt=nv
  ·have d2:((nt:Int) != (nv:Int))=false:=by simp;omega
   cases h3:aN O T with
   | false =>
    rw [h3] at Jg
    clear h h1 h2 h3
    go_enter func82,ntmps82
    go_wp2_with (go_at_call 134;go_must (refine(Jg.out _ S0.out.ext).mono ?_;rintro e w1 ⟨rfl,hb⟩;have S1:=lh (S0.out.call hb);obtain⟨a0,a1,a2,a3,za⟩:=ah (S1.out.blk 1 rfl);obtain⟨b0,f0,zb⟩:=dC (S1.out.blk 0 rfl);clear hb))
    refine bodyPost_ret (v:=.bool false) (by simp [results,results82,go_sem,b0]) rfl ⟨rfl,(S1.out.set 0 rfl 0 _).ext⟩
   | true =>
    have h4:aN R V=false:=by
     rcases h with h | h | h | h
     ·exact absurd h1 h
     ·exact absurd h2 h
     ·rw [h3] at h;cases h
     ·exact h
    rw [h3] at Jg
    rw [h4] at JC
    clear h h1 h2 h3 h4
    go_enter func82,ntmps82
    go_wp2_with (first | (go_at_call 134;have _t:=S1;go_must (refine(JC.out _ S1.out.ext).mono ?_;rintro e w2 ⟨rfl,hb⟩;have S2:=lh (S1.out.call hb);obtain⟨A0,A1,A2,A3,zA⟩:=ah (S2.out.blk 1 rfl);obtain⟨B0,F0,zB⟩:=dC (S2.out.blk 0 rfl);clear hb)) | (go_at_call 134;go_must (refine(Jg.out _ S0.out.ext).mono ?_;rintro e w1 ⟨rfl,hb⟩;have S1:=lh (S0.out.call hb);obtain⟨a0,a1,a2,a3,za⟩:=ah (S1.out.blk 1 rfl);obtain⟨b0,f0,zb⟩:=dC (S1.out.blk 0 rfl);clear hb)))
    refine bodyPost_ret (v:=.bool false) (by simp [results,results82,go_sem,B0]) rfl ⟨rfl,(S2.out.set 0 rfl 0 _).ext⟩
  ·have d2:((nt:Int) != (nv:Int))=true:=by simp;omega
   clear h h1 h2
   go_enter func82,ntmps82
   go_wp2
   refine bodyPost_ret (v:=.bool false) (by simp [results,results82,go_sem]) rfl ⟨rfl,?_⟩
   first | exact S0.out.ext | exact(S0.out.set 0 rfl 0 _).ext
 ·have d1:((no:Int) != (nr:Int))=true:=by simp;omega
  clear h h1
  go_enter func82,ntmps82
  go_wp2
  refine bodyPost_ret (v:=.bool false) (by simp [results,results82,go_sem]) rfl ⟨rfl,?_⟩
  first | exact S0.out.ext | exact(S0.out.set 0 rfl 0 _).ext
end
section
open Go Go.RowKit Go.Shelf Go.Lib
attribute [local go_sem] Oper.semAt_some
def sW (a b:Nat) (po:Option Addr) (no co:Nat) (pt:Option Addr) (nt ct:Nat) (pr:Option Addr) (nr cr:Nat) (pv:Option Addr) (nv cv:Nat) (r:Bool):List Pc :=
 [.blk (b+1) 25 #[.slice pt nt ct],.blk b 25 #[.slice po no co],.blk (a+1) 4 #[.bool r],.blk a 27 #[.slice po no co,.slice pt nt ct,.slice pr nr cr,.slice pv nv cv]]
theorem gG (a b:Nat) (po:Option Addr) (no co:Nat) (pt:Option Addr) (nt ct:Nat) (pr:Option Addr) (nr cr:Nat) (pv:Option Addr) (nv cv:Nat) (r:Bool):∀ q∈sW a b po no co pt nt ct pr nr cr pv nv cv r,q.cells :=
 dD fun q hq=>by simp [sW] at hq;rcases hq with h | h | h | h <;> exact .inl ⟨_,_,_,h⟩
def ef (R V:List Int) (x:Int × Int):Bool:=jY (aD R V x.2.toNat) x.1
theorem kZ {O T:List Int} (h:aN O T=true) {x:Int × Int} (hx:x∈aR O T):0<=x.1/\x.1<((O.length - 1:Nat):Int)/\0<=x.2/\x.2<((O.length - 1:Nat):Int):=by
 obtain⟨v,h1,h2,h3⟩:=fM.1 hx
 unfold aN at h
 rw [Bool.and_eq_true] at h
 have:=List.all_eq_true.1 h.2 v (List.mem_range.2 h1)
 have:=(jM.1 this).1 _ h3
 omega
theorem jP {O T:List Int} (h:aN O T=true) {v:Nat} (hv:v<O.length - 1):bM fd (aD O T v):=by
 unfold aN at h
 rw [Bool.and_eq_true] at h
 exact(jM.1 (List.all_eq_true.1 h.2 v (List.mem_range.2 hv))).2
theorem aI {O T:List Int} (h:aN O T=true):l6 O T=true:=by
 unfold aN at h
 rw [Bool.and_eq_true] at h
 exact h.1
theorem uE (po:Option Addr) (no co:Nat) (O:List Int) (pt:Option Addr) (nt ct:Nat) (T:List Int) (pr:Option Addr) (nr cr:Nat) (R:List Int) (pv:Option Addr) (nv cv:Nat) (V:List Int) (w:World) (hO:Rd w 1 po no (ab O)) (hT:Rd w 1 pt nt (ab T)) (hR:Rd w 1 pr nr (ab R)) (hV:Rd w 1 pv nv (ab V)) (hct:nt<=ct) (hcv:nv<=cv) (e1:no=nr) (e2:nt=nv) (h1:aN O T=true) (h2:aN R V=true) :
  Calls prog 82 #[.agg #[.slice po no co,.slice pt nt ct,.slice pr nr cr,.slice pv nv cv]] w fun e w'=>e=.returned (.bool ((aR O T).all (ef R V)))/\Ext w w':=by
 have n1:=hO.small
 have n2:=hT.small
 have n3:=hR.small
 have n4:=hV.small
 have l1:=hO.nI
 have l2:=hT.nI
 have l3:=hR.nI
 have l4:=hV.nI
 have pR:=hR.ptr
 have S0:=lh (((Ic.start w).al #[.slice po no co,.slice pt nt ct,.slice pr nr cr,.slice pv nv cv] 27 w.heap.size rfl).al #[.bool false] 4 (w.heap.size+1) (by simp))
 have Jg:=lh (fun W1 (h:Ext w W1)=>wL po no co O pt nt ct T W1 (hO.ext h) (hT.ext h) hct)
 have JC:=lh (fun W1 (h:Ext w W1)=>wL pr nr cr R pv nv cv V W1 (hR.ext h) (hV.ext h) hcv)
 rw [h1] at Jg
 rw [h2] at JC
 have d1:((no:Int) != (nr:Int))=false:=by simp;omega
 have d2:((nt:Int) != (nv:Int))=false:=by simp;omega
 have Iq:=lh (cJ (aI h1))
 have KF:=lh (cJ (aI h2))
 have Mk:=lh (fun x (hx:x∈aR O T)=>kZ h1 hx)
 have HRR:=lh (fun v (hv:v<R.length - 1)=>jP h2 hv)
 have r3:=(aQ (aI h2)).2.2.1
 have Oi:0<no->(be po 0).block<w.heap.size:=fun h=>hO.lt (by omega)
 have hT0:0<nt->(be pt 0).block<w.heap.size:=fun h=>hT.lt (by omega)
 have L1:=lh l1
 have L3:=lh l3
 have L4:=lh l4
 have E1:=lh e1
 have E2:=lh e2
 have HO:=lh hO;clear hO
 have HT:=lh hT;clear hT
 have HR:=lh hR;clear hR
 have HV:=lh hV;clear hV
 clear h1 h2 l1 l2 l3 l4 e1 e2
 refine(callsIn_wide (n:=9)).1 ?_
 refine callsIn_of_wp_marks func82 rfl trivial ?_ rfl
 simp only [ntmps82,List.size_toArray,List.length_cons,List.length_nil,Nat.reduceAdd,Nat.reduceSub,Array.replicate_succ,Array.replicate_zero,List.push_toArray,List.append_toArray,List.nil_append,List.cons_append]
 refine wpIn_wide.2 ?_
 go_wp2_with (first
  | (go_at_call 135;go_must (refine(FU po no co pt nt ct _).mono ?_;rintro e w3 ⟨rfl,hw3⟩;have S3:=(S2.out.al #[.slice po no co] 25 w2.heap.size rfl).al #[.slice pt nt ct] 25 (w2.heap.size+1) (by simp);rw [<- hw3] at S3;have S4:=lh (S3:Ic w w3 (sW w.heap.size w2.heap.size po no co pt nt ct pr nr cr pv nv cv false));clear S3 hw3))
  | (go_at_call 134;have _t:=S1;go_must (refine(JC.out _ S1.out.ext).mono ?_;rintro e w2 ⟨rfl,hb⟩;have S2:=lh (S1.out.call hb);obtain⟨A0,A1,zA⟩:=aH (S2.out.blk 1 rfl);clear hb))
  | (go_at_call 134;go_must (refine(Jg.out _ S0.out.ext).mono ?_;rintro e w1 ⟨rfl,hb⟩;have S1:=lh (S0.out.call hb);obtain⟨a2,a3,za⟩:=wD (S1.out.blk 1 rfl);clear hb)))
 clear S0 S1 S2 Jg JC A0 A1 a2 a3
 generalize w2.heap.size=b at *
 refine wpIn_wide.1 (wpIn_rangeFunc_ownG (F:=Fence.wide) (n:=9) rfl (by omega) (gf:=200) (lb:=#[.pointer (some ⟨b,0,none⟩),.pointer (some ⟨b+1,0,none⟩)]) rfl trivial (enters_of func200 (by kernel_rfl) rfl)
  (qc 8 (by omega) b (b+1) w.heap.size po no co pt nt ct O T w3 S4.out.ext.size (S4.out.blk 1 rfl) (S4.out.blk 0 rfl) (HO.out.ext S4.out.ext) (HT.out.ext S4.out.ext) Oi hT0 Iq.out hct)
  (fun h k=>JO.trans h k) (DO S4.out.ext.size (S4.out.blk 1 rfl).lt (S4.out.blk 0 rfl).lt) (Below.refl _ _) (fun _=>rfl)
  (fun pre W=>(pre.map (·.1)).all (ef R V)=true/\Ic w W (sW w.heap.size b po no co pt nt ct pr nr cr pv nv cv false))
  (fun c pre W=>(c=.ret/\(pre.map (·.1)).all (ef R V)=false)/\Ic w W (sW w.heap.size b po no co pt nt ct pr nr cr pv nv cv false))
  ?hI ?hIx ⟨rfl,S4.out⟩ ?a1 ?assign ?body ?done ?stop)
 case hI=>exact fun s A B row hs hg hr=>⟨hs.1,hs.2.turn (gG _ _ _ _ _ _ _ _ _ _ _ _ _ _ _) S4.out.ext.size hg hr⟩
 case hIx=>exact fun c s A B row hs hg hr=>⟨hs.1,hs.2.turn (gG _ _ _ _ _ _ _ _ _ _ _ _ _ _ _) S4.out.ext.size hg hr⟩
 case assign =>
  intro l x W K hK
  gi_wp2
  exact hK
 case body =>
  rintro l pre ⟨⟨v,u⟩,hx⟩ W ⟨ho,S⟩ _
  have hm:(pre ++ [(⟨(v,u),hx⟩:gU O T)]).map (·.1)=pre.map (·.1) ++ [(v,u)]:=by simp
  have hsn:((pre ++ [(⟨(v,u),hx⟩:gU O T)]).map (·.1)).all (ef R V)=ef R V (v,u):=by rw [hm,List.all_append,ho];simp
  have Ka:=lh hsn
  obtain⟨x1,x2,x3,x4⟩:=Mk.out _ hx
  simp only at x1 x2 x3 x4
  obtain⟨k,rfl⟩:∃ k:Nat,u=(k:Int):=⟨u.toNat,by omega⟩
  have hk1:k+1<R.length:=by have:=L1.out;have:=L3.out;have:=E1.out;omega
  have hk2:k+1<nr:=by rw [L3.out];exact hk1
  have q1:=KF.out.lo k (by omega)
  have q2:=KF.out.le k hk1
  have q3:=KF.out.hi (k+1) hk1
  have RR:=HR.out.ext S.ext
  have g1:=RR.cI (k:=k) (by omega)
  have g2:=RR.cI (k:=k+1) (by omega)
  have RL:=(HV.out.ext S.ext).rowOf KF.out hcv hk1
  have hrs:=HRR.out k (by omega)
  have hbk:ef R V (v,(k:Int))=jY (aD R V k) v:=by unfold ef;simp
  obtain⟨a,ha⟩:∃ a:Nat,ae R k=(a:Int):=⟨(ae R k).toNat,by omega⟩
  obtain⟨c,hc⟩:∃ c:Nat,ae R (k+1)=(c:Int):=⟨(ae R (k+1)).toNat,by omega⟩
  rw [ha] at g1 q1 q2 RL
  rw [hc] at g2 q2 q3 RL
  have hq3:(c:Int)<=cv:=by have:=L4.out;omega
  simp only [Int.toNat_natCast] at RL
  have HB:=lh (fun x:Ie W=>GX (bv pv cv a 1) (c - a) (cv - a) (aD R V k) v x.val (RL.ext x.ext) hrs (by have:=L4.out;omega))
  obtain⟨c0,c1⟩:=Ex (S.blk 3 rfl)
  obtain⟨c4,f4,z4⟩:=dC (S.blk 2 rfl)
  have d3:(0:Int)<=k:=by omega
  have d4:(k:Int)<nr:=by omega
  have d5:(0:Int)<=(k:Int)+1:=by omega
  have d6:(k:Int)+1<nr:=by omega
  rw [hbk] at Ka
  have SH:=lh S;clear S
  clear hsn hm ho S4 HO HT HR HV Iq KF Oi hT0 Mk HRR RR RL ha hc hrs hbk x1 x2 x3 x4 q3
  cases hin:jY (aD R V k) v with
  | true =>
   rw [hin] at HB Ka
   clear hin
   gi_wp2
   have y0:=fun x:Ie W=>x.ext.cell c0
   have y1:=fun x:Ie W=>x.ext.cell c1
   have y2:=fun x:Ie W=>x.ext.cell g1
   have y3:=fun x:Ie W=>x.ext.cell g2
   refine iT (by kernel_rfl) (by kernel_rfl) (by kernel_rfl) ?_
   repeat (go_big_quiet_step ((go_at_call 136;exact Calls.ext_of (HB.out _))))
   refine wpQuiet_nil ?_
   rintro w5 ⟨⟨_,hb5⟩,rfl⟩
   have S5:=lh (SH.out.call hb5)
   clear y0 y1 y2 y3
   gi_wp2
   exact⟨(eG hb5).from _,vE SH.out.ext S5.out.ext hb5.size (SH.out.blk 1 rfl) (SH.out.blk 0 rfl) (S5.out.blk 1 rfl) (S5.out.blk 0 rfl),Ka.out,S5.out⟩
  | false =>
   rw [hin] at HB Ka
   clear hin
   gi_wp2
   have y0:=fun x:Ie W=>x.ext.cell c0
   have y1:=fun x:Ie W=>x.ext.cell c1
   have y2:=fun x:Ie W=>x.ext.cell g1
   have y3:=fun x:Ie W=>x.ext.cell g2
   refine iT (by kernel_rfl) (by kernel_rfl) (by kernel_rfl) ?_
   repeat (go_big_quiet_step ((go_at_call 136;exact Calls.ext_of (HB.out _))))
   refine wpQuiet_nil ?_
   rintro w5 ⟨⟨_,hb5⟩,rfl⟩
   have S5:=lh (SH.out.call hb5)
   obtain⟨k4,kf,kz⟩:=dC (S5.out.blk 2 rfl)
   clear y0 y1 y2 y3 c4 f4 z4
   gi_wp2
   exact⟨((eG hb5).trans (KeepsOthers.setCell _ _ _)).from _,⟨rfl,Ka.out⟩,S5.out.set 2 rfl 0 (.bool false)⟩
 case done =>
  rintro D ys W hD hys ⟨ho,S⟩ hK
  have HF:Hid ((aR O T).all (ef R V)=true):=by unfold Hid;rw [<- hys];exact ho
  obtain⟨c4,f4,z4⟩:=dC (S.blk 2 rfl)
  have hKs:=(KeepsOthers.setCell W ⟨w.heap.size+1,0,none⟩ (.bool true)).same D _ hK rfl
  have S':=(S.set 2 rfl 0 (.bool true)).putObj (gG w.heap.size b po no co pt nt ct pr nr cr pv nv cv true) (.deferred none) (Nat.le_trans S4.out.ext.size hD) hKs rfl
  have k4:=(S'.blk 2 rfl).cell 0
  have SH:=lh S;clear S
  have KI:=lh S';clear S'
  go_wp2
  refine⟨by simp,.inl ⟨_,_,rfl,run_takeDeferred hKs,?_⟩⟩
  exact⟨.bool true,by simp [results,results82,go_sem,k4],aq HF.out.symm,KI.out.ext⟩
 case stop =>
  rintro D c pre W hD hSp ⟨⟨rfl,hno⟩,S⟩ hK
  have HF:Hid ((aR O T).all (ef R V)=false):=by
   obtain⟨t,ht⟩:=hSp
   unfold Hid;rw [<- ht,List.all_append,hno];rfl
  have S':=S.putObj (gG w.heap.size b po no co pt nt ct pr nr cr pv nv cv false) (.deferred none) (Nat.le_trans S4.out.ext.size hD) hK rfl
  have k4:=(S'.blk 2 rfl).cell 0
  have SH:=lh S;clear S
  have KI:=lh S';clear S'
  refine wpIn_wide.2 ?_
  go_wp2
  refine⟨by simp,.inl ⟨_,_,rfl,run_takeDeferred hK,?_⟩⟩
  exact⟨.bool false,by simp [results,results82,go_sem,k4],aq HF.out.symm,KI.out.ext⟩
theorem iV (po:Option Addr) (no co:Nat) (O:List Int) (pt:Option Addr) (nt ct:Nat) (T:List Int) (pr:Option Addr) (nr cr:Nat) (R:List Int) (pv:Option Addr) (nv cv:Nat) (V:List Int) (w:World) (hO:Rd w 1 po no (ab O)) (hT:Rd w 1 pt nt (ab T)) (hR:Rd w 1 pr nr (ab R)) (hV:Rd w 1 pv nv (ab V)) (hct:nt<=ct) (hcv:nv<=cv):Calls prog 82 #[.agg #[.slice po no co,.slice pt nt ct,.slice pr nr cr,.slice pv nv cv]] w fun e w'=>e=.returned (.bool (ai O T R V))/\Ext w w':=by
 have l1:=hO.nI
 have l2:=hT.nI
 have l3:=hR.nI
 have l4:=hV.nI
 by_cases h:no≠nr\/nt≠nv\/aN O T=false\/aN R V=false
 ·rw [qi (by rw [<- l1,<- l2,<- l3,<- l4];exact h)]
  exact xo po no co O pt nt ct T pr nr cr R pv nv cv V w hO hT hR hV hct hcv h
 ·have h1:no=nr:=by
   by_cases h1:no=nr
   ·exact h1
   ·exact absurd (.inl h1) h
  have h2:nt=nv:=by
   by_cases h2:nt=nv
   ·exact h2
   ·exact absurd (.inr (.inl h2)) h
  have h3:aN O T=true:=by
   cases h3:aN O T with
   | true=>rfl
   | false=>exact absurd (.inr (.inr (.inl h3))) h
  have h4:aN R V=true:=by
   cases h4:aN R V with
   | true=>rfl
   | false=>exact absurd (.inr (.inr (.inr h4))) h
  have:ai O T R V=(aR O T).all (ef R V):=by
   unfold ai
   rw [h3,h4,<- l1,<- l2,<- l3,<- l4,h1,h2]
   simp only [decide_true,Bool.true_and]
   rfl
  rw [this]
  exact uE po no co O pt nt ct T pr nr cr R pv nv cv V w hO hT hR hV hct hcv h1 h2 h3 h4
end
section
open Go Go.RowKit Go.Shelf Go.Lib
def eY (b:Bool) (A:List Int) (v:Int):Bool:=b && decide (0<=v) && decide (v<(A.length:Int) - 1)
def dH (b:Bool) (A B:List Int) (v:Int):List Int:=if eY b A v=true then aD A B v.toNat else []
theorem m9 {b:Bool} {A B:List Int} {v:Int} (h:eY b A v=false):dH b A B v=[]:=by unfold dH;rw [h];rfl
theorem fW {b:Bool} {A B:List Int} {v:Int} (h:eY b A v=true):dH b A B v=aD A B v.toNat:=by unfold dH;rw [h];rfl
theorem aK {O T R V:List Int} (h:ai O T R V=true):O.length=R.length/\T.length=V.length/\aN O T=true/\aN R V=true:=by
 unfold ai at h
 simp only [Bool.and_eq_true,decide_eq_true_eq] at h
 exact⟨h.1.1.1.1,h.1.1.1.2,h.1.1.2,h.1.2⟩
theorem GG (po:Option Addr) (no co:Nat) (O:List Int) (pt:Option Addr) (nt ct:Nat) (T:List Int) (pr:Option Addr) (nr cr:Nat) (R:List Int) (pv:Option Addr) (nv cv:Nat) (V:List Int) (w:World) (pa:Option Addr) (na ca:Nat) (A:List Int) (pb:Option Addr) (nb cb:Nat) (B:List Int) (v:Int) (hO:Rd w 1 po no (ab O)) (hT:Rd w 1 pt nt (ab T)) (hR:Rd w 1 pr nr (ab R)) (hV:Rd w 1 pv nv (ab V)) (hct:nt<=ct) (hcv:nv<=cv) (hA:Rd w 1 pa na (ab A)) (hB:Rd w 1 pb nb (ab B)) (hcb:nb<=cb) (Q4:ai O T R V=true->l6 A B=true) :
  Calls prog 275 #[.agg #[.slice po no co,.slice pt nt ct,.slice pr nr cr,.slice pv nv cv],.slice pa na ca,.slice pb nb cb,.int .i64 v] w fun e w'=>∃ q c,e=.returned (.tuple #[.slice q (dH (ai O T R V) A B v).length c,.bool (eY (ai O T R V) A v)])/\Ic w w' [.own 3 1 q (dH (ai O T R V) A B v).length c (ab (dH (ai O T R V) A B v))]:=by
 have Qw:=hA.small
 have ZW:=hB.small
 have l1:=lh hA.nI
 have l2:=lh hB.nI
 have pA:=hA.ptr
 have S0:=lh ((Ic.start w).al #[.slice po no co,.slice pt nt ct,.slice pr nr cr,.slice pv nv cv] 27 w.heap.size rfl)
 have HC:=lh (fun W1 (h:Ext w W1)=>iV po no co O pt nt ct T pr nr cr R pv nv cv V W1 (hO.ext h) (hT.ext h) (hR.ext h) (hV.ext h) hct hcv)
 clear hO hT hR hV
 cases hck:ai O T R V with
 | false =>
  rw [hck] at HC
  have hno:eY false A v=false:=rfl
  rw [m9 hno,hno]
  clear hA hB Q4 hck hno
  go_enter func275,ntmps275
  go_wp2_with (go_at_call 82;go_must (refine(HC.out _ S0.out.ext).mono ?_;rintro e w1 ⟨rfl,hb⟩;have S1:=lh (S0.out.call hb);clear hb))
  go_ret2
  exact⟨none,0,rfl,((Ic.start w).call S1.out.ext).nilrow _ _⟩
 | true =>
  rw [hck] at HC
  have hof:=Q4 hck
  have Iq:=cJ hof
  have w2:=Iq.two
  have hwd:lu ((na:Int) - 2) [v]=eY true A v:=by
   unfold lu eY
   rw [<- l1.out]
   simp
   by_cases h1:0<=v <;> simp [h1] <;> omega
  have HW:=lh (fun W1:World=>xl ((na:Int) - 2) (some ⟨W1.heap.size,0,none⟩) 1 1 [v] _ (Rd.oneI W1 3 v))
  rw [hwd] at HW
  have q0:(2:Int)<=na:=by have:=l1.out;omega
  cases ho:eY true A v with
  | false =>
   rw [ho] at HW
   rw [m9 ho]
   clear hA hB Q4 hck Iq hof hwd ho
   go_enter func275,ntmps275
   go_wp2_with (first | (go_at_call 199;go_must (refine(HW.out _).mono ?_;rintro e w2 ⟨rfl,rfl⟩)) | (go_at_call 82;go_must (refine(HC.out _ S0.out.ext).mono ?_;rintro e w1 ⟨rfl,hb⟩;have S1:=lh (S0.out.call hb);clear hb)))
   go_ret2
   exact⟨none,0,rfl,((((Ic.start w).call S1.out.ext).junk _)).nilrow _ _⟩
  | true =>
   rw [ho] at HW
   have ho2:=ho
   unfold eY at ho2
   simp only [Bool.true_and,Bool.and_eq_true,decide_eq_true_eq] at ho2
   obtain⟨v1,v2⟩:=ho2
   rw [fW ho]
   obtain⟨k,rfl⟩:∃ k:Nat,v=(k:Int):=⟨v.toNat,by omega⟩
   rw [Int.toNat_natCast]
   have hk1:k+1<A.length:=by omega
   have q1:=Iq.lo k (by omega)
   have q2:=Iq.le k hk1
   have q3:=Iq.hi (k+1) hk1
   have hrl:=cK Iq hk1
   have IQ:=hB.rowOf Iq hcb hk1
   have HA:=lh hA
   obtain⟨a,ha⟩:∃ a:Nat,ae A k=(a:Int):=⟨(ae A k).toNat,by omega⟩
   obtain⟨c,hc⟩:∃ c:Nat,ae A (k+1)=(c:Int):=⟨(ae A (k+1)).toNat,by omega⟩
   rw [ha] at q1 q2 hrl IQ
   rw [hc] at q2 q3 hrl IQ
   simp only [Int.toNat_natCast] at hrl IQ
   have hq3:(c:Int)<=cb:=by have:=l2.out;omega
   have hlen:=(aQ hof).2.2.1
   have HLEN:Hid (c - a<=100000):=by unfold Hid;have:=l2.out;omega
   have d1:(0:Int)<=k:=by omega
   have d2:(k:Int)<na:=by have:=l1.out;omega
   have d3:(0:Int)<=(k:Int)+1:=by omega
   have d4:(k:Int)+1<na:=by have:=l1.out;omega
   have G1:Hid (∀ W,Ext w W->W.cell? (be pa k)=some (.int .i64 a)/\W.cell? (be pa (k+1))=some (.int .i64 c)):=fun W h=>by
    have h1:=(HA.out.ext h).cI (k:=k) (by omega)
    have h2:=(HA.out.ext h).cI (k:=k+1) (by omega)
    rw [ha] at h1;rw [hc] at h2;exact⟨h1,h2⟩
   have NB:=lh hrl
   have RL:=lh IQ
   clear hA hB Q4 hck Iq hof hwd ho ha hc v1 v2 hk1 q3 hrl IQ hlen HA
   rw [NB.out]
   go_enter func275,ntmps275
   go_wp2_with (first | (go_at_call 199;go_must (refine(HW.out _).mono ?_;rintro e w2 ⟨rfl,rfl⟩;obtain⟨g1,g2⟩:=G1.out _ (S1.out.junk (.cells #[.int .i64 k] 3)).ext)) | (go_at_call 82;go_must (refine(HC.out _ S0.out.ext).mono ?_;rintro e w1 ⟨rfl,hb⟩;have S1:=lh (S0.out.call hb);clear hb)))
   obtain⟨X,hX⟩:∃ X,X=w1.alloc (.cells #[.int .i64 (k:Int)] 3):=⟨_,rfl⟩
   have SX:=lh (hX ▸ (S1.out.junk (.cells #[.int .i64 (k:Int)] 3)):Ic w X _)
   rw [<- hX] at g1 g2 ⊢
   have x1:=fun x:Ie X=>x.ext.cell g1
   have x2:=fun x:Ie X=>x.ext.cell g2
   refine aT [true,true,true,true,true,true,true,true,true,true,true,false] (fun _ u W=>∃ q d,u=.slice q (c - a) d/\W.ownsRow X.heap.size 3 1 (.slice q (c - a) d) (c - a) (ab (aD A B k))) (by kernel_rfl) (by kernel_rfl) (by kernel_rfl) (fun _ _ _ _ hE ⟨p,d,h1,h2⟩=>⟨p,d,h1,hE.own h2⟩) ?_
   simp only [pJ]
   repeat (go_big_quiet_step ((fail)))
   refine wpQuiet_nil ⟨⟨fun vs W hE hd=>?_,trivial⟩,fun vs W hE hkn=>?_⟩
   ·simp [b8,go_sem]
    exact(zJ _ (c - a) _ (aD A B k) W (RL.out.ext (Ext.trans SX.out.ext hE)) HLEN.out).mono fun e w' ⟨q,d,h1,S⟩=>⟨_,h1,⟨q,d,rfl,aP (S.own 0 rfl) hE.size⟩,S.ext⟩
   ·obtain⟨⟨q,d,hv,hown⟩,_⟩:=hkn
    have S5:=lh (SX.out.fresh hE hown (Nat.le_refl _))
    simp only [b8,hv,List.length_cons,List.length_nil,Nat.zero_add,Nat.reduceAdd,List.drop_succ_cons,List.drop_zero]
    clear x1 x2 g1 g2 hv hown hE hX
    go_wp2
    go_ret2
    exact⟨q,d,rfl,S5.out.pick [0] (by decide) rfl⟩
theorem Fx (po:Option Addr) (no co:Nat) (O:List Int) (pt:Option Addr) (nt ct:Nat) (T:List Int) (pr:Option Addr) (nr cr:Nat) (R:List Int) (pv:Option Addr) (nv cv:Nat) (V:List Int) (w:World) (v:Int) (hO:Rd w 1 po no (ab O)) (hT:Rd w 1 pt nt (ab T)) (hR:Rd w 1 pr nr (ab R)) (hV:Rd w 1 pv nv (ab V)) (hct:nt<=ct) (hcv:nv<=cv):Calls prog 244 #[.agg #[.slice po no co,.slice pt nt ct,.slice pr nr cr,.slice pv nv cv],.int .i64 v] w fun e w'=>∃ q c,e=.returned (.tuple #[.slice q (dH (ai O T R V) O T v).length c,.bool (eY (ai O T R V) O v)])/\Ic w w' [.own 3 1 q (dH (ai O T R V) O T v).length c (ab (dH (ai O T R V) O T v))]:=by
 have S0:=lh ((Ic.start w).al #[.slice po no co,.slice pt nt ct,.slice pr nr cr,.slice pv nv cv] 27 w.heap.size rfl)
 have HR:=lh (fun W1 (h:Ext w W1)=>GG po no co O pt nt ct T pr nr cr R pv nv cv V W1 po no co O pt nt ct T v (hO.ext h) (hT.ext h) (hR.ext h) (hV.ext h) hct hcv (hO.ext h) (hT.ext h) hct (fun h=>aI (aK h).2.2.1))
 clear hO hT hR hV
 go_enter func244,ntmps244
 go_wp2_with (go_at_call 275;go_must (refine(HR.out _ S0.out.ext).mono ?_;rintro e w1 ⟨q,c,rfl,T⟩;have S1:=lh (S0.out.comp T);clear T))
 go_ret2
 exact⟨q,c,rfl,S1.out.pick [0] (by decide) rfl⟩
theorem Hy (po:Option Addr) (no co:Nat) (O:List Int) (pt:Option Addr) (nt ct:Nat) (T:List Int) (pr:Option Addr) (nr cr:Nat) (R:List Int) (pv:Option Addr) (nv cv:Nat) (V:List Int) (w:World) (v:Int) (hO:Rd w 1 po no (ab O)) (hT:Rd w 1 pt nt (ab T)) (hR:Rd w 1 pr nr (ab R)) (hV:Rd w 1 pv nv (ab V)) (hct:nt<=ct) (hcv:nv<=cv):Calls prog 245 #[.agg #[.slice po no co,.slice pt nt ct,.slice pr nr cr,.slice pv nv cv],.int .i64 v] w fun e w'=>∃ q c,e=.returned (.tuple #[.slice q (dH (ai O T R V) R V v).length c,.bool (eY (ai O T R V) R v)])/\Ic w w' [.own 3 1 q (dH (ai O T R V) R V v).length c (ab (dH (ai O T R V) R V v))]:=by
 have S0:=lh ((Ic.start w).al #[.slice po no co,.slice pt nt ct,.slice pr nr cr,.slice pv nv cv] 27 w.heap.size rfl)
 have HR:=lh (fun W1 (h:Ext w W1)=>GG po no co O pt nt ct T pr nr cr R pv nv cv V W1 pr nr cr R pv nv cv V v (hO.ext h) (hT.ext h) (hR.ext h) (hV.ext h) hct hcv (hR.ext h) (hV.ext h) hcv (fun h=>aI (aK h).2.2.2))
 clear hO hT hR hV
 go_enter func245,ntmps245
 go_wp2_with (go_at_call 275;go_must (refine(HR.out _ S0.out.ext).mono ?_;rintro e w1 ⟨q,c,rfl,T⟩;have S1:=lh (S0.out.comp T);clear T))
 go_ret2
 exact⟨q,c,rfl,S1.out.pick [0] (by decide) rfl⟩
end
section
open Go Go.RowKit Go.Shelf Go.Lib
attribute [local go_sem ↓] nU m8 jI
def xQ (O T R V:List Int):Bool:=decide (30<O.length) && decide (O.length<=201) || decide (250<O.length) || decide (250<R.length) || decide (150<T.length) && decide (T.length<=2000) || decide (2100<T.length) || decide (2100<V.length)
theorem Fj (po:Option Addr) (no co:Nat) (O:List Int) (pt:Option Addr) (nt ct:Nat) (T:List Int) (pr:Option Addr) (nr cr:Nat) (R:List Int) (pv:Option Addr) (nv cv:Nat) (V:List Int) (w:World) (hO:Rd w 1 po no (ab O)) (hT:Rd w 1 pt nt (ab T)) (hR:Rd w 1 pr nr (ab R)) (hV:Rd w 1 pv nv (ab V)):Calls prog 47 #[.agg #[.slice po no co,.slice pt nt ct,.slice pr nr cr,.slice pv nv cv]] w fun e w'=>e=.returned (.bool (xQ O T R V))/\Ext w w':=by
 have hd:xQ O T R V=(decide (30<no) && decide (no<=201) || decide (250<no) || decide (250<nr) || decide (150<nt) && decide (nt<=2000) || decide (2100<nt) || decide (2100<nv)):=by
  unfold xQ;rw [hO.nI,hT.nI,hR.nI,hV.nI]
 rw [hd]
 clear hd hO hT hR hV
 go_enter func47,ntmps47
 go_wp2
 all_goals (go_ret;refine⟨aq ?_,Ext.alloc (Below.refl _ _) _⟩;rw [Bool.eq_iff_iff];simp only [Bool.or_eq_true,Bool.and_eq_true,decide_eq_true_eq,true_iff];omega)
end
section
open Go Go.RowKit Go.Maps
def iZ (L:List Po) (ws:List ByteArray) (k:Nat):List Int:=bk fd ((aW L (ae ws 0)).filter fun x=>(ws.take k).all fun u=>(aW L u).contains x)
theorem nu {L:List Po} {ws:List ByteArray} {k:Nat} {x:Int}:x∈iZ L ws k↔(x∈aW L (ae ws 0)/\∀ u∈ws.take k,x∈aW L u):=by
 unfold iZ
 rw [eI kt,List.mem_filter,List.all_eq_true]
 simp
theorem Am {L:List Po} {ws:List ByteArray} (h:0<ws.length):iZ L ws 1=bk fd (aW L (ae ws 0)):=by
 refine fY kt _ _ (de kt _) (de kt _) fun x=>?_
 rw [nu,eI kt,ak ws 0 h]
 simp
theorem xJ {L:List Po} {ws:List ByteArray} {k:Nat} (h:k<ws.length):qe (iZ L ws k) (aW L (ae ws k))=iZ L ws (k+1):=by
 refine fY kt _ _ (de kt _) (de kt _) fun x=>?_
 rw [nu]
 unfold qe
 rw [eI kt,List.mem_filter,nu,fu,ak ws k h]
 constructor
 ·rintro⟨⟨h1,h2⟩,h3⟩
  refine⟨h1,fun u hu=>?_⟩
  rcases List.mem_append.1 hu with hu | hu
  ·exact h2 u hu
  ·rw [List.mem_singleton] at hu;subst hu;exact h3
 ·rintro⟨h1,h2⟩
  exact⟨⟨h1,fun u hu=>h2 u (List.mem_append_left _ hu)⟩,h2 _ (by simp)⟩
theorem sI {L:List Po} (hok:Io L) (ws:List ByteArray) (k:Nat):(iZ L ws k).length<=1000:=by
 unfold iZ
 exact Nat.le_trans (oK _ _) (Nat.le_trans (List.length_filter_le _ _) (kK hok _).1)
theorem sH {L:List Po} {ws:List ByteArray} {k:Nat} (h:ws.length<=k):iZ L ws k=i3 L ws:=by
 unfold iZ i3;rw [List.take_of_length_le h]
theorem Fh (p:Option Addr) (np cp:Nat) (hs:List Hd) (L:List Po) (pr:Option Addr) (nr cr:Nat) (ws:List ByteArray) (w:World) (hL:IW w p np hs L) (hok:Io L) (hR:Rd w 1 pr nr (bg ws)) (h0:0<nr) (hn:nr<=100) :
  Calls prog 122 #[.slice p np cp,.slice pr nr cr] w fun e w'=>∃ q c,e=.returned (.tuple #[.slice q (i3 L ws).length c,.int .i64 0])/\Ic w w' [.own 3 1 q (i3 L ws).length c (ab (i3 L ws))]:=by
 have Tv:=lh (kK hok)
 have QL:=lh (sI hok ws)
 have p1:=hR.ptr
 have g1:=hR.cS h0
 have L1:=lh hR.nS
 have HL:=lh hL;clear hL
 have Iq:=lh hok;clear hok
 have HR:=lh hR;clear hR
 have hne:((nr:Int) == 0)=false:=by simp;omega
 have d2:(0:Int)<nr:=by omega
 have NW:Hid (bk fd (aW L (ae ws 0))=iZ L ws 1):=(Am (by rw [<- L1.out];exact h0)).symm
 have S0:=lh (Ic.start w)
 go_enter func122,ntmps122
 go_wp2_with (first
  | (go_at_call 193;go_must (refine(p7 q0 _ c0 (aW L (ae ws 0)) _ (S1.out.rd 0 rfl (by have:=(Tv.out (ae ws 0)).1;omega)) (by have:=(Tv.out (ae ws 0)).1;omega)).mono ?_;rintro e w2 ⟨q1,c1,rfl,T⟩;have S2:=lh (S1.out.comp T);clear T))
  | (go_at_call 194;go_must (refine(zQ p np cp hs L (ae ws 0) _ HL.out Iq.out).mono ?_;rintro e w1 ⟨q0,c0,rfl,T⟩;have S1:=lh T;clear T)))
 rw [NW.out]
 have S3:Hid (Ic w w2 [.own 3 1 q1 (iZ L ws 1).length c1 (ab (iZ L ws 1))]):=by rw [<- NW.out];exact S2.out.pick [0] (by decide) rfl
 clear S2 S1 NW
 go_loopw [6,7] (fun v i wr=>∃ (k:Nat) (u:Option Addr) (c:Nat),1<=k/\k<=nr/\i=.int .i64 k/\v=.slice u (iZ L ws k).length c/\Ic w wr [.own 3 1 u (iZ L ws k).length c (ab (iZ L ws k))]) (fun _ i _=>nr - (intOf i).toNat)
 case atStart=>exact⟨1,q1,c1,Nat.le_refl _,h0,rfl,rfl,S3.out⟩
 case round =>
  clear S3
  obtain⟨k,u,c,hk1,hk,rfl,rfl,S⟩:=hrel
  have hkl:=QL.out k
  by_cases hlt:k<nr
  ·have g2:=S.ext.cell (HR.out.cS hlt)
   have HST:=lh (xJ (L:=L) (ws:=ws) (k:=k) (by rw [<- L1.out];exact hlt))
   have SH:=lh S;clear S
   have d1:(0:Int)<=k:=by omega
   have d3:(k:Int)<nr:=by omega
   go_wp2_with (first
    | (go_at_call 195;go_must (refine(D9 u _ c (iZ L ws k) q3 _ c3 (aW L (ae ws k)) _ (S4.out.rd 1 rfl (by omega)) (S4.out.rd 0 rfl (by have:=(Tv.out (ae ws k)).1;omega)) (by omega)).mono ?_;rintro e w4 ⟨q4,c4,rfl,T⟩;have S5:=lh (S4.out.comp T);clear T))
    | (go_at_call 194;go_must (refine(zQ p np cp hs L (ae ws k) _ (HL.out.ext SH.out.ext) Iq.out).mono ?_;rintro e w3 ⟨q3,c3,rfl,T⟩;have S4:=lh (SH.out.comp T);clear T)))
   go_roundw
   case rel=>exact⟨k+1,q4,c4,by omega,by omega,by go_num,by rw [<- HST.out],by rw [<- HST.out];exact S5.out.pick [0] (by decide) rfl⟩
   case measure=>simp [intOf];omega
  ·have HE:Hid (iZ L ws k=i3 L ws):=sH (by rw [<- L1.out];omega)
   have SH:=lh S;clear S
   go_wp2
   go_ret2
   rw [<- HE.out]
   exact⟨u,c,rfl,SH.out⟩
theorem D0 (p:Option Addr) (np cp:Nat) (pr:Option Addr) (cr:Nat) (w:World):Calls prog 122 #[.slice p np cp,.slice pr 0 cr] w fun e w'=>e=.returned (.tuple #[.slice none 0 0,.int .i64 1])/\Ext w w':=by
 go_enter func122,ntmps122
 go_wp2
 go_ret2
 exact⟨rfl,Below.refl _ _⟩
theorem GU (p:Option Addr) (np cp:Nat) (hs:List Hd) (L:List Po) (pr:Option Addr) (nr cr:Nat) (ws:List ByteArray) (w:World) (hL:IW w p np hs L) (hok:Io L) (hR:Rd w 1 pr nr (bg ws)) (hcr:nr<=cr) (h0:0<nr) (hn:nr<=100) :
  Calls prog 115 #[.slice p np cp,.slice pr nr cr] w fun e w'=>∃ q c,e=.returned (.tuple #[.slice q (i3 L ws).length c,.int .i64 0])/\Ic w w' [.own 3 1 q (i3 L ws).length c (ab (i3 L ws))]:=by
 have HF:=lh (AV p np cp hs L pr nr cr ws w hL hok hR hcr h0 hn)
 clear hL hok hR
 go_enter func115,ntmps115
 go_wp2_with (go_at_call 187;go_must (refine HF.out.mono ?_;rintro e w2 ⟨q1,c1,rfl,T⟩;have S2:=lh T;clear T))
 go_ret2
 exact⟨q1,c1,rfl,S2.out⟩
theorem Fi (p:Option Addr) (np cp:Nat) (pr:Option Addr) (cr:Nat) (w:World):Calls prog 115 #[.slice p np cp,.slice pr 0 cr] w fun e w'=>e=.returned (.tuple #[.slice none 0 0,.int .i64 1])/\Ext w w':=by
 go_enter func115,ntmps115
 go_wp2_with (go_at_call 187;go_must (refine(yp p np cp pr cr _).mono ?_;rintro e w2 ⟨rfl,T⟩;have S2:=lh T;clear T))
 go_ret2
 exact⟨rfl,S2.out⟩
end
section
open Go Go.RowKit Go.Maps
def i8 (p:Po):Bool:=decide (60<p.1.size) || decide (60<p.2.length)
def j9 (L:List Po):Bool:=(decide (L.length<=40) && L.any i8) || decide (40<L.length)
theorem Fk (p:Option Addr) (n c:Nat) (hs:List Hd) (L:List Po) (w:World) (hL:IW w p n hs L) :
  Calls prog 48 #[.slice p n c] w fun e w'=>e=.returned (.bool (j9 L))/\Ext w w':=by
 have p1:=hL.ptr
 have n1:=hL.small
 have L1:=lh hL.hn
 have HL:=lh hL;clear hL
 by_cases h40:n<=40
 ·have b0:decide ((n:Int)<=40)=true:=by simp;omega
  have X4:decide (n<=40)=true:=by simp;omega
  go_enter func48,ntmps48
  go_wp2
  go_loop [3] (fun i=>∃ k:Nat,k<=n/\i=.int .i64 k/\(L.take k).any i8=false) (fun i=>n - (intOf i).toNat)
  case atStart=>exact⟨0,Nat.zero_le _,rfl,rfl⟩
  case round =>
   obtain⟨k,hk,rfl,ha⟩:=hrel
   have HA:=lh ha;clear ha
   by_cases hlt:k<n
   ·have g1:=HL.out.c1 k hlt
    have g2:=HL.out.c2 k hlt
    have LE:=lh (HL.out.each k hlt).nI
    have d1:(0:Int)<=k:=by omega
    have d2:(k:Int)<n:=by omega
    have I7:k<L.length:=by rw [<- L1.out];exact hlt
    have HT:Hid (i8 (ae L k)=true->j9 L=true):=fun h=>by unfold j9;rw [cW i8 L k I7 h,decide_eq_true (by rw [<- L1.out];exact h40)];rfl
    by_cases h6:60<(ae L k).1.size
    ·have HF:Hid (j9 L=true):=HT.out (by unfold i8;simp [h6])
     go_wp2
     go_ret
     exact⟨aq HF.out.symm,Below.refl _ _⟩
    ·by_cases h7:60<(ae hs k).n
     ·have HF:Hid (j9 L=true):=HT.out (by unfold i8;rw [<- LE.out];simp [h7])
      go_wp2
      go_ret
      exact⟨aq HF.out.symm,Below.refl _ _⟩
     ·have HF:=lh (eP i8 L k I7 HA.out (by unfold i8;rw [<- LE.out];simp;omega))
      go_wp2
      go_round
      case rel=>exact⟨k+1,by omega,by go_num,HF.out⟩
      case measure=>simp [intOf];omega
   ·have HF:Hid (j9 L=false):=by unfold Hid j9;rw [gE i8 L k (by rw [<- L1.out];exact hlt) HA.out,<- L1.out];simp;omega
    go_wp2
    go_ret
    exact⟨aq (by rw [HF.out];simp;try omega),Below.refl _ _⟩
 ·have b0:decide ((n:Int)<=40)=false:=by simp;omega
  have X4:decide (n<=40)=false:=by simp;omega
  have HF:Hid (j9 L=true):=by unfold Hid j9;rw [<- L1.out];simp;omega
  go_enter func48,ntmps48
  go_wp2
  refine wp_loop_rounds 1 ?_
  rw [rounds_succ]
  go_wp2
  go_ret
  exact⟨aq (by rw [HF.out];simp;try omega),Below.refl _ _⟩
end
def yn (ws:List ByteArray) (O T R V:List Int) (L:List Po) (np:Nat):Bool:=px ws || (xQ O T R V || (decide (30<O.length) || (j9 L || decide (60<np))))
theorem CY {ws:List ByteArray} {O T R V:List Int} {L:List Po} {np:Nat} (h:yn ws O T R V L np=false):px ws=false/\xQ O T R V=false/\O.length<=30/\j9 L=false/\np<=60:=by
 unfold yn at h
 simp only [Bool.or_eq_false_iff,decide_eq_false_iff_not] at h
 exact⟨h.1,h.2.1,by omega,h.2.2.2.1,by omega⟩
theorem Ee (k f t:Int) (pw:Option Addr) (nw cw:Nat) (ws:List ByteArray) (rad most:Int) (po:Option Addr) (no co:Nat) (O:List Int) (pt:Option Addr) (nt ct:Nat) (T:List Int) (pr:Option Addr) (nr cr:Nat) (R:List Int) (pv:Option Addr) (nv cv:Nat) (V:List Int) (pl:Option Addr) (nl cl:Nat) (hs:List Hd) (L:List Po) (pp:Option Addr) (np cp:Nat) (w:World) (hO:Rd w 1 po no (ab O)) (hT:Rd w 1 pt nt (ab T)) (hR:Rd w 1 pr nr (ab R)) (hV:Rd w 1 pv nv (ab V)) (hW:Rd w 1 pw nw (bg ws)) (hL:IW w pl nl hs L) :
  Calls prog 14 #[.agg #[.int .i64 k,.int .i64 f,.int .i64 t,.slice pw nw cw,.int .i64 rad,.int .i64 most],.agg #[.slice po no co,.slice pt nt ct,.slice pr nr cr,.slice pv nv cv],.slice pl nl cl,.slice pp np cp] w fun e w'=>e=.returned (.bool (yn ws O T R V L np))/\Ext w w':=by
 have Ph:=lh (fun W (h:Ext w W)=>GW k f t pw nw cw ws rad most W (hW.ext h))
 have Mr:=lh (fun W (h:Ext w W)=>Fj po no co O pt nt ct T pr nr cr R pv nv cv V W (hO.ext h) (hT.ext h) (hR.ext h) (hV.ext h))
 have Pi:=lh (fun W (h:Ext w W)=>Fk pl nl cl hs L W (hL.ext h))
 have S0:=lh (((Ic.start w).al #[.int .i64 k,.int .i64 f,.int .i64 t,.slice pw nw cw,.int .i64 rad,.int .i64 most] 24 w.heap.size rfl).al #[.slice po no co,.slice pt nt ct,.slice pr nr cr,.slice pv nv cv] 27 (w.heap.size+1) (by simp))
 have hno:=hO.nI
 unfold yn
 rw [<- hno]
 clear hO hT hR hV hW hL hno
 generalize px ws=b1 at *
 generalize xQ O T R V=b2 at *
 generalize j9 L=b3 at *
 cases b1 with
 | true =>
  go_enter func14,ntmps14
  go_wp2_with (first | (go_at_call 48;have _t:=S2;go_must (refine(Pi.out _ S2.out.ext).mono ?_;rintro e w3 ⟨rfl,hb⟩;have S3:=lh (S2.out.call hb);clear hb)) | (go_at_call 47;have _t:=S1;go_must (refine(Mr.out _ S1.out.ext).mono ?_;rintro e w2 ⟨rfl,hb⟩;have S2:=lh (S1.out.call hb);clear b0 b1 b2 b3 bz;obtain⟨b0,b1,b2,b3,bz⟩:=ah (S2.out.blk 0 rfl);clear hb)) | (go_at_call 46;go_must (refine(Ph.out _ S0.out.ext).mono ?_;rintro e w1 ⟨rfl,hb⟩;have S1:=lh (S0.out.call hb);obtain⟨b0,b1,b2,b3,bz⟩:=ah (S1.out.blk 0 rfl);clear hb)))
  go_ret
  exact⟨rfl,S1.out.ext⟩
 | false =>
  cases b2 with
  | true =>
   go_enter func14,ntmps14
   go_wp2_with (first | (go_at_call 48;have _t:=S2;go_must (refine(Pi.out _ S2.out.ext).mono ?_;rintro e w3 ⟨rfl,hb⟩;have S3:=lh (S2.out.call hb);clear hb)) | (go_at_call 47;have _t:=S1;go_must (refine(Mr.out _ S1.out.ext).mono ?_;rintro e w2 ⟨rfl,hb⟩;have S2:=lh (S1.out.call hb);clear b0 b1 b2 b3 bz;obtain⟨b0,b1,b2,b3,bz⟩:=ah (S2.out.blk 0 rfl);clear hb)) | (go_at_call 46;go_must (refine(Ph.out _ S0.out.ext).mono ?_;rintro e w1 ⟨rfl,hb⟩;have S1:=lh (S0.out.call hb);obtain⟨b0,b1,b2,b3,bz⟩:=ah (S1.out.blk 0 rfl);clear hb)))
   go_ret
   exact⟨rfl,S2.out.ext⟩
  | false =>
   rw [Bool.false_or,Bool.false_or]
   by_cases h1:30<no
   ·have e1:decide ((30:Int)<(no:Int))=true:=by simp;omega
    have UD:decide (30<no)=true:=by simpa using h1
    rw [UD,Bool.true_or]
    clear h1
    go_enter func14,ntmps14
    go_wp2_with (first | (go_at_call 48;have _t:=S2;go_must (refine(Pi.out _ S2.out.ext).mono ?_;rintro e w3 ⟨rfl,hb⟩;have S3:=lh (S2.out.call hb);clear hb)) | (go_at_call 47;have _t:=S1;go_must (refine(Mr.out _ S1.out.ext).mono ?_;rintro e w2 ⟨rfl,hb⟩;have S2:=lh (S1.out.call hb);clear b0 b1 b2 b3 bz;obtain⟨b0,b1,b2,b3,bz⟩:=ah (S2.out.blk 0 rfl);clear hb)) | (go_at_call 46;go_must (refine(Ph.out _ S0.out.ext).mono ?_;rintro e w1 ⟨rfl,hb⟩;have S1:=lh (S0.out.call hb);obtain⟨b0,b1,b2,b3,bz⟩:=ah (S1.out.blk 0 rfl);clear hb)))
    go_ret
    exact⟨rfl,S2.out.ext⟩
   ·have e1:decide ((30:Int)<(no:Int))=false:=by simp;omega
    have UD:decide (30<no)=false:=by simpa using h1
    rw [UD,Bool.false_or]
    clear h1
    cases b3 with
    | true =>
     go_enter func14,ntmps14
     go_wp2_with (first | (go_at_call 48;have _t:=S2;go_must (refine(Pi.out _ S2.out.ext).mono ?_;rintro e w3 ⟨rfl,hb⟩;have S3:=lh (S2.out.call hb);clear hb)) | (go_at_call 47;have _t:=S1;go_must (refine(Mr.out _ S1.out.ext).mono ?_;rintro e w2 ⟨rfl,hb⟩;have S2:=lh (S1.out.call hb);clear b0 b1 b2 b3 bz;obtain⟨b0,b1,b2,b3,bz⟩:=ah (S2.out.blk 0 rfl);clear hb)) | (go_at_call 46;go_must (refine(Ph.out _ S0.out.ext).mono ?_;rintro e w1 ⟨rfl,hb⟩;have S1:=lh (S0.out.call hb);obtain⟨b0,b1,b2,b3,bz⟩:=ah (S1.out.blk 0 rfl);clear hb)))
     go_ret
     exact⟨rfl,S3.out.ext⟩
    | false =>
     rw [Bool.false_or]
     by_cases h2:60<np
     ·have e2:decide ((60:Int)<(np:Int))=true:=by simp;omega
      have UE:decide (60<np)=true:=by simpa using h2
      rw [UE]
      clear h2
      go_enter func14,ntmps14
      go_wp2_with (first | (go_at_call 48;have _t:=S2;go_must (refine(Pi.out _ S2.out.ext).mono ?_;rintro e w3 ⟨rfl,hb⟩;have S3:=lh (S2.out.call hb);clear hb)) | (go_at_call 47;have _t:=S1;go_must (refine(Mr.out _ S1.out.ext).mono ?_;rintro e w2 ⟨rfl,hb⟩;have S2:=lh (S1.out.call hb);clear b0 b1 b2 b3 bz;obtain⟨b0,b1,b2,b3,bz⟩:=ah (S2.out.blk 0 rfl);clear hb)) | (go_at_call 46;go_must (refine(Ph.out _ S0.out.ext).mono ?_;rintro e w1 ⟨rfl,hb⟩;have S1:=lh (S0.out.call hb);obtain⟨b0,b1,b2,b3,bz⟩:=ah (S1.out.blk 0 rfl);clear hb)))
      go_ret
      exact⟨rfl,S3.out.ext⟩
     ·have e2:decide ((60:Int)<(np:Int))=false:=by simp;omega
      have UE:decide (60<np)=false:=by simpa using h2
      rw [UE]
      clear h2
      go_enter func14,ntmps14
      go_wp2_with (first | (go_at_call 48;have _t:=S2;go_must (refine(Pi.out _ S2.out.ext).mono ?_;rintro e w3 ⟨rfl,hb⟩;have S3:=lh (S2.out.call hb);clear hb)) | (go_at_call 47;have _t:=S1;go_must (refine(Mr.out _ S1.out.ext).mono ?_;rintro e w2 ⟨rfl,hb⟩;have S2:=lh (S1.out.call hb);clear b0 b1 b2 b3 bz;obtain⟨b0,b1,b2,b3,bz⟩:=ah (S2.out.blk 0 rfl);clear hb)) | (go_at_call 46;go_must (refine(Ph.out _ S0.out.ext).mono ?_;rintro e w1 ⟨rfl,hb⟩;have S1:=lh (S0.out.call hb);obtain⟨b0,b1,b2,b3,bz⟩:=ah (S1.out.blk 0 rfl);clear hb)))
      go_ret
      exact⟨rfl,S3.out.ext⟩
def bH (a b:Sq):Bool:=decide (a.s<b.s) || (a.s == b.s && (decide (a.r<b.r) || (a.r == b.r && decide (a.v<b.v))))
theorem el {a b:Sq}:bH a b=true↔a.s<b.s\/a.s=b.s/\(a.r<b.r\/a.r=b.r/\a.v<b.v):=by
 unfold bH
 simp only [Bool.or_eq_true,Bool.and_eq_true,decide_eq_true_eq,beq_iff_eq]
def Ig (a b:Sq):Prop:=a.s=b.s/\a.r=b.r/\a.v=b.v
instance (a b:Sq):Decidable (Ig a b):=by unfold Ig;infer_instance
theorem io (a:Sq):Ig a a:=⟨rfl,rfl,rfl⟩
theorem Ig.symm {a b:Sq} (h:Ig a b):Ig b a:=⟨h.1.symm,h.2.1.symm,h.2.2.symm⟩
theorem Ig.trans {a b c:Sq} (h:Ig a b) (g:Ig b c):Ig a c:=⟨h.1.trans g.1,h.2.1.trans g.2.1,h.2.2.trans g.2.2⟩
theorem Ig.eq {a b:Sq} (h:Ig a b) (hd:a.d=b.d):a=b:=by
 obtain⟨a1,a2,a3,a4⟩:=a
 obtain⟨b1,b2,b3,b4⟩:=b
 obtain⟨h1,h2,h3⟩:=h
 simp only at h1 h2 h3 hd
 subst h1;subst h2;subst h3;subst hd;rfl
theorem jJ (a:Sq):bH a a=false:=by rw [Bool.eq_false_iff];intro h;rw [el] at h;omega
theorem fS {a b:Sq} (h:Ig a b):bH a b=false:=by rw [Bool.eq_false_iff];intro h2;rw [el] at h2;obtain⟨h3,h4,h5⟩:=h;omega
theorem eT {a b c:Sq} (h:bH a b=true) (g:bH b c=true):bH a c=true:=by rw [el] at *;omega
theorem mv {a b:Sq} (h:bH a b=true):bH b a=false:=by rw [Bool.eq_false_iff];intro h2;rw [el] at *;omega
theorem fG (a b:Sq):bH a b=true\/Ig a b\/bH b a=true:=by rw [el,el];unfold Ig;omega
theorem n9 {a b c:Sq} (h:Ig a b):bH c a=bH c b:=by obtain⟨h1,h2,h3⟩:=h;unfold bH;rw [h1,h2,h3]
theorem tw {a b c:Sq} (h:Ig a b):bH a c=bH b c:=by obtain⟨h1,h2,h3⟩:=h;unfold bH;rw [h1,h2,h3]
def aS (l:List Sq):Prop:=l.Pairwise fun a b=>bH a b=true
theorem fH:aS []:=List.Pairwise.nil
theorem aU {a:Sq} {l:List Sq}:aS (a :: l)↔(∀ x∈l,bH a x=true)/\aS l:=List.pairwise_cons
theorem fT {l m:List Sq} (hl:aS l) (hm:aS m) (h:∀ x,x∈l↔x∈m):l=m:=by
 induction l generalizing m with
 | nil =>
  cases m with
  | nil=>rfl
  | cons b m=>exact absurd ((h b).2 (List.mem_cons_self ..)) (by simp)
 | cons a l ih =>
  cases m with
  | nil=>exact absurd ((h a).1 (List.mem_cons_self ..)) (by simp)
  | cons b m =>
   obtain⟨ha,hl2⟩:=aU.1 hl
   obtain⟨hb,hm2⟩:=aU.1 hm
   have hab:a=b:=by
    rcases List.mem_cons.1 ((h a).1 (List.mem_cons_self ..)) with e | e
    ·exact e
    ·rcases List.mem_cons.1 ((h b).2 (List.mem_cons_self ..)) with g | g
     ·exact g.symm
     ·have h1:=hb a e
      rw [mv (ha b g)] at h1;cases h1
   subst hab
   refine congrArg (a :: ·) (ih hl2 hm2 fun x=>?_)
   constructor
   ·intro hx
    rcases List.mem_cons.1 ((h x).1 (List.mem_cons_of_mem _ hx)) with e | e
    ·subst e
     have:=ha x hx
     rw [jJ] at this;cases this
    ·exact e
   ·intro hx
    rcases List.mem_cons.1 ((h x).2 (List.mem_cons_of_mem _ hx)) with e | e
    ·subst e
     have:=hb x hx
     rw [jJ] at this;cases this
    ·exact e
theorem yK {l:List Sq} (hl:aS l) {x y:Sq} (hx:x∈l) (hy:y∈l) (h:Ig x y):x=y:=by
 induction l with
 | nil=>cases hx
 | cons a l ih =>
  obtain⟨ha,hl⟩:=aU.1 hl
  rcases List.mem_cons.1 hx with e1 | g1
  ·rcases List.mem_cons.1 hy with e2 | g2
   ·rw [e1,e2]
   ·have:=ha y g2;rw [<- e1,fS h] at this;cases this
  ·rcases List.mem_cons.1 hy with e2 | g2
   ·have:=ha x g1;rw [<- e2,fS h.symm] at this;cases this
   ·exact ih hl g1 g2
def gT (M:List Sq) (x:Sq):Prop:=x∈M/\∀ y∈M,Ig y x->x.d<=y.d
theorem qJ {M:List Sq} {u:Sq} (h:u∈M):∃ y,gT M y/\Ig y u:=by
 induction M with
 | nil=>cases h
 | cons a M ih =>
  by_cases hm:∃ v∈M,Ig v u
  ·obtain⟨v,hv,hvu⟩:=hm
   have ih2:∃ y,gT M y/\Ig y u:=by
    clear h
    suffices ∀ M:List Sq,(∃ v∈M,Ig v u)->∃ y,gT M y/\Ig y u from this M ⟨v,hv,hvu⟩
    clear ih hv hvu v
    intro M
    induction M with
    | nil=>rintro⟨v,hv,_⟩;cases hv
    | cons b M ih =>
     intro hex
     by_cases hm:∃ v∈M,Ig v u
     ·obtain⟨y,⟨hy1,hy2⟩,hy3⟩:=ih hm
      by_cases hb:Ig b u/\b.d<y.d
      ·refine⟨b,⟨List.mem_cons_self ..,fun z hz hzb=>?_⟩,hb.1⟩
       rcases List.mem_cons.1 hz with rfl | hz
       ·exact Int.le_refl _
       ·have:=hy2 z hz (hzb.trans (hb.1.trans hy3.symm));omega
      ·refine⟨y,⟨List.mem_cons_of_mem _ hy1,fun z hz Qu=>?_⟩,hy3⟩
       rcases List.mem_cons.1 hz with rfl | hz
       ·exact Int.not_lt.1 fun h2=>hb ⟨Qu.trans hy3,h2⟩
       ·exact hy2 z hz Qu
     ·obtain⟨v,hv,hvu⟩:=hex
      rcases List.mem_cons.1 hv with rfl | hv
      ·refine⟨v,⟨List.mem_cons_self ..,fun z hz hzb=>?_⟩,hvu⟩
       rcases List.mem_cons.1 hz with rfl | hz
       ·exact Int.le_refl _
       ·exact absurd ⟨z,hz,hzb.trans hvu⟩ hm
      ·exact absurd ⟨v,hv,hvu⟩ hm
   obtain⟨y,⟨hy1,hy2⟩,hy3⟩:=ih2
   by_cases hb:Ig a u/\a.d<y.d
   ·refine⟨a,⟨List.mem_cons_self ..,fun z hz hzb=>?_⟩,hb.1⟩
    rcases List.mem_cons.1 hz with rfl | hz
    ·exact Int.le_refl _
    ·have:=hy2 z hz (hzb.trans (hb.1.trans hy3.symm));omega
   ·refine⟨y,⟨List.mem_cons_of_mem _ hy1,fun z hz Qu=>?_⟩,hy3⟩
    rcases List.mem_cons.1 hz with rfl | hz
    ·exact Int.not_lt.1 fun h2=>hb ⟨Qu.trans hy3,h2⟩
    ·exact hy2 z hz Qu
  ·rcases List.mem_cons.1 h with rfl | h
   ·refine⟨u,⟨List.mem_cons_self ..,fun z hz hzb=>?_⟩,io u⟩
    rcases List.mem_cons.1 hz with rfl | hz
    ·exact Int.le_refl _
    ·exact absurd ⟨z,hz,hzb⟩ hm
   ·exact absurd ⟨u,h,io u⟩ hm
structure Jd (M c:List Sq):Prop where
 keyed:aS c
 mem:∀ x,x∈c↔gT M x
theorem yf {M M' c c':List Sq} (h:Jd M c) (h':Jd M' c') (hm:∀ x,x∈M↔x∈M'):c=c':=by
 refine fT h.keyed h'.keyed fun x=>?_
 rw [h.mem,h'.mem]
 unfold gT
 rw [hm x]
 constructor
 ·rintro⟨h1,h2⟩;exact⟨h1,fun y hy=>h2 y ((hm y).2 hy)⟩
 ·rintro⟨h1,h2⟩;exact⟨h1,fun y hy=>h2 y ((hm y).1 hy)⟩
def ld (x:Sq):List Sq->List Sq
 | []=>[x]
 | y :: l=>if bH y x=true then y :: ld x l else if Ig y x then ⟨x.s,x.r,x.v,min x.d y.d⟩:: l else x :: y :: l
theorem tM {x z:Sq} {c:List Sq} (hc:aS c):z∈ld x c↔(z∈c/\¬ Ig z x)\/(Ig z x/\((∃ y∈c,Ig y x/\z.d=min x.d y.d)\/((∀ y∈c,¬ Ig y x)/\z.d=x.d))):=by
 induction c with
 | nil =>
  unfold ld
  constructor
  ·intro h
   rw [List.mem_singleton] at h
   subst h
   exact .inr ⟨io _,.inr ⟨fun y hy=>(by cases hy),rfl⟩⟩
  ·rintro(⟨h,_⟩ | ⟨h,h2 | h2⟩)
   ·cases h
   ·obtain⟨y,hy,_⟩:=h2;cases hy
   ·rw [List.mem_singleton];exact h.eq h2.2
 | cons a l ih =>
  obtain⟨ha,hl⟩:=aU.1 hc
  have ih:=ih hl
  unfold ld
  by_cases h1:bH a x=true
  ·rw [if_pos h1,List.mem_cons,ih]
   have hax:¬ Ig a x:=fun h=>by rw [fS h] at h1;cases h1
   constructor
   ·rintro(rfl | ⟨h2,h3⟩ | ⟨h2,⟨y,hy,hyx,hd⟩ | ⟨h3,hd⟩⟩)
    ·exact .inl ⟨List.mem_cons_self ..,hax⟩
    ·exact .inl ⟨List.mem_cons_of_mem _ h2,h3⟩
    ·exact .inr ⟨h2,.inl ⟨y,List.mem_cons_of_mem _ hy,hyx,hd⟩⟩
    ·refine .inr ⟨h2,.inr ⟨fun y hy=>?_,hd⟩⟩
     rcases List.mem_cons.1 hy with rfl | hy
     ·exact hax
     ·exact h3 y hy
   ·rintro(⟨h2,h3⟩ | ⟨h2,⟨y,hy,hyx,hd⟩ | ⟨h3,hd⟩⟩)
    ·rcases List.mem_cons.1 h2 with rfl | h2
     ·exact .inl rfl
     ·exact .inr (.inl ⟨h2,h3⟩)
    ·rcases List.mem_cons.1 hy with rfl | hy
     ·exact absurd hyx hax
     ·exact .inr (.inr ⟨h2,.inl ⟨y,hy,hyx,hd⟩⟩)
    ·exact .inr (.inr ⟨h2,.inr ⟨fun y hy=>h3 y (List.mem_cons_of_mem _ hy),hd⟩⟩)
  ·rw [if_neg h1]
   by_cases h2:Ig a x
   ·rw [if_pos h2,List.mem_cons]
    have hno:∀ y∈l,¬ Ig y x:=fun y hy h=>by
     have:=ha y hy
     rw [fS (h2.trans h.symm)] at this;cases this
    constructor
    ·rintro(rfl | hz)
     ·exact .inr ⟨⟨rfl,rfl,rfl⟩,.inl ⟨a,List.mem_cons_self ..,h2,rfl⟩⟩
     ·exact .inl ⟨List.mem_cons_of_mem _ hz,hno z hz⟩
    ·rintro(⟨h3,h4⟩ | ⟨h3,⟨y,hy,hyx,hd⟩ | ⟨h4,hd⟩⟩)
     ·rcases List.mem_cons.1 h3 with rfl | h3
      ·exact absurd h2 h4
      ·exact .inr h3
     ·rcases List.mem_cons.1 hy with rfl | hy
      ·exact .inl (Ig.eq h3 hd)
      ·exact absurd hyx (hno y hy)
     ·exact absurd h2 (h4 a (List.mem_cons_self ..))
   ·rw [if_neg h2,List.mem_cons]
    have hxa:bH x a=true:=by
     rcases fG a x with h | h | h
     ·exact absurd h h1
     ·exact absurd h h2
     ·exact h
    have hno:∀ y∈a :: l,¬ Ig y x:=fun y hy h=>by
     rcases List.mem_cons.1 hy with rfl | hy
     ·exact h2 h
     ·have:=eT hxa (ha y hy)
      rw [fS h.symm] at this;cases this
    constructor
    ·rintro(rfl | hz)
     ·exact .inr ⟨io _,.inr ⟨hno,rfl⟩⟩
     ·exact .inl ⟨hz,hno z hz⟩
    ·rintro(⟨h3,h4⟩ | ⟨h3,⟨y,hy,hyx,hd⟩ | ⟨h4,hd⟩⟩)
     ·exact .inr h3
     ·exact absurd hyx (hno y hy)
     ·exact .inl (h3.eq hd)
theorem vD {x:Sq} {c:List Sq} (hc:aS c):aS (ld x c):=by
 induction c with
 | nil=>exact aU.2 ⟨fun y hy=>(by cases hy),fH⟩
 | cons a l ih =>
  obtain⟨ha,hl⟩:=aU.1 hc
  unfold ld
  by_cases h1:bH a x=true
  ·rw [if_pos h1]
   refine aU.2 ⟨fun z hz=>?_,ih hl⟩
   rcases (tM hl).1 hz with ⟨h2,_⟩ | ⟨h2,_⟩
   ·exact ha z h2
   ·rw [n9 h2];exact h1
  ·rw [if_neg h1]
   by_cases h2:Ig a x
   ·rw [if_pos h2]
    refine aU.2 ⟨fun z hz=>?_,hl⟩
    have hs:Ig ⟨x.s,x.r,x.v,min x.d a.d⟩ a:=⟨h2.1.symm,h2.2.1.symm,h2.2.2.symm⟩
    rw [tw hs];exact ha z hz
   ·rw [if_neg h2]
    have hxa:bH x a=true:=by
     rcases fG a x with h | h | h
     ·exact absurd h h1
     ·exact absurd h h2
     ·exact h
    refine aU.2 ⟨fun z hz=>?_,hc⟩
    rcases List.mem_cons.1 hz with rfl | hz
    ·exact hxa
    ·exact eT hxa (ha z hz)
theorem AK {M c:List Sq} (h:Jd M c) (x:Sq):Jd (M ++ [x]) (ld x c):=by
 refine⟨vD h.keyed,fun z=>?_⟩
 rw [tM h.keyed]
 have hmem:∀ u,u∈M ++ [x]↔u∈M\/u=x:=fun u=>by rw [List.mem_append,List.mem_singleton]
 constructor
 ·rintro(⟨h1,h2⟩ | ⟨h1,⟨y,hy,hyx,hd⟩ | ⟨h2,hd⟩⟩)
  ·have h3:=(h.mem z).1 h1
   refine⟨(hmem z).2 (.inl h3.1),fun u hu PK=>?_⟩
   rcases (hmem u).1 hu with hu | rfl
   ·exact h3.2 u hu PK
   ·exact absurd PK.symm h2
  ·have h3:=(h.mem y).1 hy
   refine⟨?_,fun u hu PK=>?_⟩
   ·rcases Int.le_total x.d y.d with g | g
    ·have:z=x:=h1.eq (by omega)
     exact(hmem z).2 (.inr this)
    ·have:z=y:=(h1.trans hyx.symm).eq (by omega)
     rw [this];exact(hmem y).2 (.inl h3.1)
   ·rcases (hmem u).1 hu with hu | rfl
    ·have:=h3.2 u hu (PK.trans (h1.trans hyx.symm));omega
    ·omega
  ·have hz:z=x:=h1.eq hd
   subst hz
   refine⟨(hmem z).2 (.inr rfl),fun u hu PK=>?_⟩
   rcases (hmem u).1 hu with hu | rfl
   ·obtain⟨y,hy,hyu⟩:=qJ hu
    exact absurd (hyu.trans PK) (h2 y ((h.mem y).2 hy))
   ·exact Int.le_refl _
 ·rintro⟨h1,h2⟩
  by_cases hs:Ig z x
  ·refine .inr ⟨hs,?_⟩
   have hzx:z.d<=x.d:=h2 x ((hmem x).2 (.inr rfl)) hs.symm
   by_cases hy:∃ y∈c,Ig y x
   ·obtain⟨y,hy,hyx⟩:=hy
    refine .inl ⟨y,hy,hyx,?_⟩
    have h3:=(h.mem y).1 hy
    have h4:=h2 y ((hmem y).2 (.inl h3.1)) (hyx.trans hs.symm)
    rcases (hmem z).1 h1 with hz | rfl
    ·have:=h3.2 z hz (hs.trans hyx.symm);omega
    ·omega
   ·refine .inr ⟨fun y h3 h4=>hy ⟨y,h3,h4⟩,?_⟩
    rcases (hmem z).1 h1 with hz | rfl
    ·obtain⟨y,h3,h4⟩:=qJ hz
     exact absurd ⟨y,(h.mem y).2 h3,h4.trans hs⟩ hy
    ·rfl
  ·refine .inl ⟨(h.mem z).2 ⟨?_,fun u hu=>h2 u ((hmem u).2 (.inl hu))⟩,hs⟩
   rcases (hmem z).1 h1 with hz | rfl
   ·exact hz
   ·exact absurd (io z) hs
def dJ (M:List Sq):List Sq:=M.foldl (fun c x=>ld x c) []
theorem vg (M:List Sq) (x:Sq):dJ (M ++ [x])=ld x (dJ M):=by unfold dJ;rw [List.foldl_append];rfl
theorem ja (M:List Sq):Jd M (dJ M):=by
 suffices ∀ (N M c:List Sq),Jd M c->Jd (M ++ N) (N.foldl (fun c x=>ld x c) c) from by
  have:=this M [] [] ⟨fH,fun x=>⟨fun h=>(by cases h),fun h=>(by cases h.1)⟩⟩
  rwa [List.nil_append] at this
 intro N
 induction N with
 | nil=>intro M c h;rw [List.append_nil];exact h
 | cons x N ih =>
  intro M c h
  have:=ih (M ++ [x]) (ld x c) (AK h x)
  rw [List.append_assoc] at this
  exact this
theorem ia {M:List Sq} {x:Sq}:x∈dJ M↔gT M x:=(ja M).mem x
theorem ye {M M':List Sq} (h:∀ x,x∈M↔x∈M'):dJ M=dJ M':=yf (ja M) (ja M') h
def C1 (l:List Sq) (x:Sq):Bool:=l.any fun y=>decide (Ig y x)
theorem tp {l:List Sq} {x:Sq}:C1 l x=true↔∃ y∈l,Ig y x:=by
 unfold C1;rw [List.any_eq_true]
 constructor
 ·rintro⟨y,h1,h2⟩;exact⟨y,h1,of_decide_eq_true h2⟩
 ·rintro⟨y,h1,h2⟩;exact⟨y,h1,decide_eq_true h2⟩
def bI (st M:List Sq):List Sq:=(dJ M).filter fun x=>!C1 st x
theorem dE (st M:List Sq):aS (bI st M):=(ja M).keyed.filter _
theorem dr {st M:List Sq} {x:Sq}:x∈bI st M↔gT M x/\¬ ∃ y∈st,Ig y x:=by
 unfold bI
 rw [List.mem_filter,ia,Bool.not_eq_true',<- Bool.not_eq_true,tp]
theorem vr {st st' M M':List Sq} (hs:∀ x,x∈st↔x∈st') (h:∀ x,x∈M↔x∈M'):bI st M=bI st' M':=by
 refine fT (dE _ _) (dE _ _) fun x=>?_
 rw [dr,dr,<- ia,<- ia,ye h]
 constructor
 ·rintro⟨h1,h2⟩;exact⟨h1,fun ⟨y,hy,e⟩=>h2 ⟨y,(hs y).2 hy,e⟩⟩
 ·rintro⟨h1,h2⟩;exact⟨h1,fun ⟨y,hy,e⟩=>h2 ⟨y,(hs y).1 hy,e⟩⟩
def oM (x:Sq):List Sq->List Sq
 | []=>[x]
 | y :: l=>if bH y x=true then y :: oM x l else x :: y :: l
theorem ii {x z:Sq} {l:List Sq}:z∈oM x l↔z=x\/z∈l:=by
 induction l with
 | nil=>unfold oM;simp
 | cons a l ih =>
  unfold oM
  split
  ·rw [List.mem_cons,ih,List.mem_cons]
   constructor
   ·rintro(h | h | h)
    ·exact .inr (.inl h)
    ·exact .inl h
    ·exact .inr (.inr h)
   ·rintro(h | h | h)
    ·exact .inr (.inl h)
    ·exact .inl h
    ·exact .inr (.inr h)
  ·rw [List.mem_cons]
theorem ki {x:Sq} {l:List Sq} (hl:aS l) (hx:¬ ∃ y∈l,Ig y x):aS (oM x l):=by
 induction l with
 | nil=>exact aU.2 ⟨fun y hy=>(by cases hy),fH⟩
 | cons a l ih =>
  obtain⟨ha,hl2⟩:=aU.1 hl
  unfold oM
  split
  ·rename_i h1
   refine aU.2 ⟨fun z hz=>?_,ih hl2 fun ⟨y,hy,e⟩=>hx ⟨y,List.mem_cons_of_mem _ hy,e⟩⟩
   rcases ii.1 hz with rfl | hz
   ·exact h1
   ·exact ha z hz
  ·rename_i h1
   have hxa:bH x a=true:=by
    rcases fG a x with h | h | h
    ·exact absurd h h1
    ·exact absurd ⟨a,List.mem_cons_self ..,h⟩ hx
    ·exact h
   refine aU.2 ⟨fun z hz=>?_,hl⟩
   rcases List.mem_cons.1 hz with rfl | hz
   ·exact hxa
   ·exact eT hxa (ha z hz)
def qV (st F:List Sq):List Sq:=F.foldl (fun l x=>oM x l) st
theorem jL {F:List Sq}:∀ {st:List Sq} {z:Sq},z∈qV st F↔z∈st\/z∈F:=by
 induction F with
 | nil=>intro st z;show z∈st↔_;simp
 | cons x F ih =>
  intro st z
  show z∈qV (oM x st) F↔_
  rw [ih,ii,List.mem_cons]
  constructor
  ·rintro((h | h) | h)
   ·exact .inr (.inl h)
   ·exact .inl h
   ·exact .inr (.inr h)
  ·rintro(h | h | h)
   ·exact .inl (.inr h)
   ·exact .inl (.inl h)
   ·exact .inr h
theorem tx {F:List Sq}:∀ {st:List Sq},aS st->aS F->(∀ x∈F,¬ ∃ y∈st,Ig y x)->aS (qV st F):=by
 induction F with
 | nil=>intro st h _ _;exact h
 | cons x F ih =>
  intro st h hF hx
  obtain⟨h1,h2⟩:=aU.1 hF
  refine ih (ki h (hx x (List.mem_cons_self ..))) h2 fun z hz=>?_
  rintro⟨y,hy,e⟩
  rcases ii.1 hy with rfl | hy
  ·have:=h1 z hz;rw [fS e] at this;cases this
  ·exact hx z (List.mem_cons_of_mem _ hz) ⟨y,hy,e⟩
def cU (f:Sq->List Sq) (st M:List Sq):List Sq × List Sq:=(qV st (bI st M),bI (qV st (bI st M)) ((bI st M).flatMap f))
theorem mM {f:Sq->List Sq} {st M:List Sq} (h:aS st):aS (cU f st M).1:=tx h (dE _ _) fun _ hx=>(dr.1 hx).2
theorem wb {f:Sq->List Sq} {st M P now:List Sq} (h:aS st) (hP:∀ x,x∈P↔x∈bI st M) (hn:aS now) (hm:∀ x,x∈now↔x∈st\/x∈P):now=(cU f st M).1/\bI now (P.flatMap f)=(cU f st M).2:=by
 have h1:now=(cU f st M).1:=fT hn (mM h) fun x=>by
  rw [hm,hP];exact jL.symm
 refine⟨h1,?_⟩
 rw [h1]
 exact vr (fun _=>Iff.rfl) fun x=>by rw [List.mem_flatMap,List.mem_flatMap];exact⟨fun ⟨y,hy,e⟩=>⟨y,(hP y).1 hy,e⟩,fun ⟨y,hy,e⟩=>⟨y,(hP y).2 hy,e⟩⟩
def bR (f:Sq->List Sq) (M0:List Sq):Nat->List Sq × List Sq
 | 0=>([],M0)
 | i+1=>cU f (bR f M0 i).1 (bR f M0 i).2
def iW (n:Nat) (x:Sq):Prop:=x.s=0/\(x.r=0\/x.r=1)/\0<=x.v/\x.v<n
def gX (n:Nat) (f:Sq->List Sq):Prop:=∀ x y,iW n x->y∈f x->y=⟨x.s,x.r,y.v,x.d+1⟩/\0<=y.v/\y.v<n
structure Jy (n:Nat) (i:Nat) (p:List Sq × List Sq):Prop where
 kst:aS p.1
 kms:aS p.2
 st:∀ x∈p.1,iW n x/\0<=x.d/\x.d<i
 ms:∀ x∈p.2,iW n x/\x.d=i
 new:∀ x∈p.2,¬ ∃ y∈p.1,Ig y x
theorem rS {M:List Sq} (h:aS M) {x:Sq}:gT M x↔x∈M:=by
 constructor
 ·exact fun h=>h.1
 ·exact fun hx=>⟨hx,fun y hy e=>by rw [yK h hy hx e];exact Int.le_refl _⟩
theorem oP {n i:Nat} {p:List Sq × List Sq} (h:Jy n i p):bI p.1 p.2=p.2 :=
 fT (dE _ _) h.kms fun x=>by
  rw [dr,rS h.kms]
  exact⟨fun h2=>h2.1,fun h2=>⟨h2,h.new x h2⟩⟩
theorem ng {n i:Nat} {p:List Sq × List Sq} (h:Jy n i p) (f:Sq->List Sq) {x:Sq}:x∈(cU f p.1 p.2).1↔x∈p.1\/x∈p.2:=by
 unfold cU
 rw [oP h]
 exact jL
theorem lj {n i:Nat} {p:List Sq × List Sq} (h:Jy n i p) (f:Sq->List Sq) {x:Sq}:x∈(cU f p.1 p.2).2↔gT (p.2.flatMap f) x/\¬ ∃ y,(y∈p.1\/y∈p.2)/\Ig y x:=by
 show x∈bI (qV p.1 (bI p.1 p.2)) ((bI p.1 p.2).flatMap f)↔_
 rw [oP h,dr]
 constructor
 ·rintro⟨h1,h2⟩;exact⟨h1,fun ⟨y,hy,e⟩=>h2 ⟨y,jL.2 hy,e⟩⟩
 ·rintro⟨h1,h2⟩;exact⟨h1,fun ⟨y,hy,e⟩=>h2 ⟨y,jL.1 hy,e⟩⟩
theorem zk {n i:Nat} {p:List Sq × List Sq} {f:Sq->List Sq} (hf:gX n f) (h:Jy n i p):Jy n (i+1) (cU f p.1 p.2):=by
 have KY:∀ x∈p.2.flatMap f,iW n x/\x.d=(i+1:Nat):=fun x hx=>by
  obtain⟨y,hy,hyx⟩:=List.mem_flatMap.1 hx
  obtain⟨h1,h2⟩:=h.ms y hy
  obtain⟨h3,h4,h5⟩:=hf y x h1 hyx
  rw [h3]
  refine⟨⟨h1.1,h1.2.1,?_,?_⟩,?_⟩
  ·exact h4
  ·exact h5
  ·simp only;omega
 refine⟨mM h.kst,dE _ _,fun x hx=>?_,fun x hx=>?_,fun x hx=>?_⟩
 ·rcases (ng h f).1 hx with h1 | h1
  ·obtain⟨h2,h3,h4⟩:=h.st x h1
   exact⟨h2,h3,by omega⟩
  ·obtain⟨h2,h3⟩:=h.ms x h1
   exact⟨h2,by omega,by omega⟩
 ·exact KY x ((lj h f).1 hx).1.1
 ·rintro⟨y,hy,e⟩
  exact((lj h f).1 hx).2 ⟨y,(ng h f).1 hy,e⟩
theorem eZ {n:Nat} {f:Sq->List Sq} {M0:List Sq} (hf:gX n f) (h0:aS M0) (h1:∀ x∈M0,iW n x/\x.d=0):∀ i,Jy n i (bR f M0 i)
 | 0=>⟨fH,h0,fun x hx=>(by cases hx),fun x hx=>⟨(h1 x hx).1,by rw [(h1 x hx).2];rfl⟩,fun x hx=>by rintro⟨y,hy,_⟩;cases hy⟩
 | i+1=>zk hf (eZ hf h0 h1 i)
theorem iF {n:Nat} {ρ:Int}:∀ {l:List Sq} {m:Int},aS l->(∀ x∈l,x.s=0/\x.r=ρ/\m<=x.v/\x.v<n)->m<=n->(l.length:Int)<=n - m:=by
 intro l
 induction l with
 | nil=>intro m _ _ hm;simp;omega
 | cons a l ih =>
  intro m h hx hm
  obtain⟨h1,h2⟩:=aU.1 h
  obtain⟨a1,a2,a3,a4⟩:=hx a (List.mem_cons_self ..)
  have:=ih (m:=a.v+1) h2 (fun x hxl=>by
   obtain⟨x1,x2,x3,x4⟩:=hx x (List.mem_cons_of_mem _ hxl)
   have h3:=h1 x hxl
   rw [el] at h3
   exact⟨x1,x2,by omega,x4⟩) (by omega)
  rw [List.length_cons]
  omega
def nO (ρ:Int) (l:List Sq):List Sq:=l.filter fun x=>x.r == ρ
theorem eR {ρ:Int} {l:List Sq} {x:Sq}:x∈nO ρ l↔x∈l/\x.r=ρ:=by unfold nO;rw [List.mem_filter];simp
theorem fQ {ρ:Int} {l:List Sq} (h:aS l):aS (nO ρ l):=List.Pairwise.filter _ h
theorem ua (x:Sq) (l:List Sq):(oM x l).length=l.length+1:=by
 induction l with
 | nil=>rfl
 | cons a l ih=>unfold oM;split <;> simp [ih]
theorem yJ:∀ {l m:List Sq},aS l->aS m->(∀ x∈l,x∈m)->l.length<=m.length:=by
 intro l
 induction l with
 | nil=>intro m _ _ _;exact Nat.zero_le _
 | cons a l ih =>
  intro m hl hm h
  obtain⟨h1,h2⟩:=aU.1 hl
  have ha:a∈m:=h a (List.mem_cons_self ..)
  have hlen:(m.erase a).length+1=m.length:=by
   have:=List.length_erase_of_mem ha
   have:0<m.length:=List.length_pos_of_mem ha
   omega
  have:=ih (m:=m.erase a) h2 (List.Pairwise.sublist List.erase_sublist hm) fun x hx=>by
   refine(List.mem_erase_of_ne fun e=>?_).2 (h x (List.mem_cons_of_mem _ hx))
   subst e
   have:=h1 x hx
   rw [jJ] at this;cases this
  rw [List.length_cons]
  omega
theorem wY {n:Nat} {f:Sq->List Sq} {M0:List Sq} (hf:gX n f) (h0:aS M0) (h1:∀ x∈M0,iW n x/\x.d=0) (ρ:Int):∀ i,(∃ x∈(bR f M0 i).2,x.r=ρ)->i<=(nO ρ (bR f M0 i).1).length
 | 0,_=>Nat.zero_le _
 | i+1,⟨x,hx,hr⟩=>by
  have hI:=eZ hf h0 h1 i
  obtain⟨hx1,_⟩:=(lj hI f).1 hx
  obtain⟨y,hy,hyx⟩:=List.mem_flatMap.1 hx1.1
  obtain⟨hy1,hy2⟩:=hI.ms y hy
  obtain⟨hxy,_⟩:=hf y x hy1 hyx
  have NL:y.r=ρ:=by rw [<- hr,hxy]
  have ih:=wY hf h0 h1 ρ i ⟨y,hy,NL⟩
  have hI2:=eZ hf h0 h1 (i+1)
  have hno:¬ ∃ z∈nO ρ (bR f M0 i).1,Ig z y:=by
   rintro⟨z,hz,e⟩
   exact hI.new y hy ⟨z,(eR.1 hz).1,e⟩
  have hle:=yJ (l:=oM y (nO ρ (bR f M0 i).1)) (m:=nO ρ (bR f M0 (i+1)).1) (ki (fQ hI.kst) hno) (fQ hI2.kst) fun z hz=>by
   refine eR.2 ⟨(ng hI f).2 ?_,?_⟩
   ·rcases ii.1 hz with rfl | hz
    ·exact .inr hy
    ·exact .inl (eR.1 hz).1
   ·rcases ii.1 hz with rfl | hz
    ·exact NL
    ·exact(eR.1 hz).2
  rw [ua] at hle
  omega
theorem BS {n:Nat} {f:Sq->List Sq} {M0:List Sq} (hf:gX n f) (h0:aS M0) (h1:∀ x∈M0,iW n x/\x.d=0) (ρ:Int) (i:Nat) (h:∃ x∈(bR f M0 i).2,x.r=ρ):i+1<=n:=by
 have hi:=wY hf h0 h1 ρ i h
 obtain⟨x,hx,hr⟩:=h
 have hI:=eZ hf h0 h1 i
 have hno:¬ ∃ z∈nO ρ (bR f M0 i).1,Ig z x:=by
  rintro⟨z,hz,e⟩
  exact hI.new x hx ⟨z,(eR.1 hz).1,e⟩
 have hk:=ki (fQ hI.kst) hno
 have hm:=iF (n:=n) (ρ:=ρ) (m:=0) hk (fun z hz=>by
  rcases ii.1 hz with rfl | hz
  ·obtain⟨⟨a,b,c,d⟩,_⟩:=hI.ms z hx
   exact⟨a,hr,c,d⟩
  ·obtain⟨hz1,hz2⟩:=eR.1 hz
   obtain⟨⟨a,b,c,d⟩,_⟩:=hI.st z hz1
   exact⟨a,hz2,c,d⟩) (by omega)
 rw [ua] at hm
 omega
def eC (v:Int) (w:Nat):Nat:=((v*40503+12345) % 65536 % w).toNat
theorem tv {v:Int} {w:Nat} (hw:0<w):eC v w<w:=by
 unfold eC
 have:=Int.emod_lt_of_pos ((v*40503+12345) % 65536) (show (0:Int)<w by omega)
 have:=Int.emod_nonneg ((v*40503+12345) % 65536) (show (w:Int)≠0 by omega)
 omega
theorem zo {p:List Sq->Prop} (nil:p []) (snoc:∀ l x,p l->p (l ++ [x])) (l:List Sq):p l:=by
 suffices ∀ m:List Sq,p m.reverse from by have:=this l.reverse;rwa [List.reverse_reverse] at this
 intro m
 induction m with
 | nil=>exact nil
 | cons a m ih=>rw [List.reverse_cons];exact snoc _ _ ih
theorem ju {n:Nat} {st:List Sq} (h:aS st) (hx:∀ x∈st,iW n x):st.length<=2*n:=by
 have k0:=iF (n:=n) (ρ:=0) (m:=0) (fQ (ρ:=0) h) (fun x hxl=>by
  obtain⟨h1,h2⟩:=eR.1 hxl
  obtain⟨a,_,c,d⟩:=hx x h1
  exact⟨a,h2,c,d⟩) (by omega)
 have k1:=iF (n:=n) (ρ:=1) (m:=0) (fQ (ρ:=1) h) (fun x hxl=>by
  obtain⟨h1,h2⟩:=eR.1 hxl
  obtain⟨a,_,c,d⟩:=hx x h1
  exact⟨a,h2,c,d⟩) (by omega)
 have:st.length=(nO 0 st).length+(nO 1 st).length:=by
  clear h k0 k1
  induction st with
  | nil=>rfl
  | cons a l ih =>
   have ih:=ih fun x hxl=>hx x (List.mem_cons_of_mem _ hxl)
   obtain⟨_,hr,_⟩:=hx a (List.mem_cons_self ..)
   unfold nO at ih ⊢
   rw [List.filter_cons,List.filter_cons,List.length_cons]
   rcases hr with hr | hr
   ·rw [if_pos (by simpa using hr),if_neg (by simp [hr]),List.length_cons];omega
   ·rw [if_neg (by simp [hr]),if_pos (by simpa using hr),List.length_cons];omega
 omega
def Il (l:List Sq):Prop:=l.Pairwise fun a b=>¬ Ig a b
theorem jj {l:List Sq} (h:aS l):Il l:=List.Pairwise.imp (fun {a b} h2 h3=>by rw [fS h3] at h2;cases h2) h
theorem Il.perm {l m:List Sq} (h:Il l) (p:l.Perm m):Il m:=p.pairwise h fun h2 h3=>h2 h3.symm
theorem qR:Il []:=List.Pairwise.nil
theorem fw {l m:List Sq}:Il (l ++ m)↔Il l/\Il m/\∀ x∈l,∀ y∈m,¬ Ig x y:=List.pairwise_append
def dL (l:List Sq):List Sq:=l.mergeSort fun a b=>!bH b a
theorem kr (l:List Sq):(dL l).Perm l:=List.mergeSort_perm l _
theorem ip (l:List Sq):(dL l).length=l.length:=(kr l).length_eq
theorem jQ {l:List Sq} {x:Sq}:x∈dL l↔x∈l:=(kr l).mem_iff
theorem jh {a b c:Sq} (h:bH b a=false) (k:bH c b=false):bH c a=false:=by
 rw [Bool.eq_false_iff] at *
 intro h2
 rcases fG a b with h3 | h3 | h3
 ·exact k (eT h2 h3)
 ·rw [n9 h3] at h2;exact k h2
 ·exact h h3
theorem jw {l:List Sq} (h:Il l):aS (dL l):=by
 have hs:(dL l).Pairwise fun a b=>(!bH b a)=true:=List.pairwise_mergeSort (le:=fun a b:Sq=>!bH b a) (fun a b c h k=>by
  simp only [Bool.not_eq_true'] at *
  exact jh h k) (fun a b=>by
  cases h:bH b a with
  | false=>rfl
  | true=>rw [mv h];rfl) l
 have hn:=h.perm (kr l).symm
 unfold aS
 unfold Il at hn
 refine(hs.and hn).imp fun {a b} ⟨h1,h2⟩=>?_
 rcases fG a b with h3 | h3 | h3
 ·exact h3
 ·exact absurd h3 h2
 ·rw [h3] at h1;cases h1
def jU (M:List Sq) (w h:Nat):List Sq:=M.filter fun x=>eC x.v w == h
theorem nJ {M:List Sq} {w h:Nat} {x:Sq}:x∈jU M w h↔x∈M/\eC x.v w=h:=by unfold jU;rw [List.mem_filter,beq_iff_eq]
theorem AB (w h:Nat):jU [] w h=[]:=rfl
theorem xT (M:List Sq) (x:Sq) (w h:Nat):jU (M ++ [x]) w h=if eC x.v w=h then jU M w h ++ [x] else jU M w h:=by
 unfold jU
 rw [List.filter_append]
 by_cases e:eC x.v w=h
 ·rw [if_pos e];simp [e]
 ·rw [if_neg e];simp [e]
theorem kD (M:List Sq) (w h:Nat):(jU M w h).length<=M.length:=List.length_filter_le _ _
theorem uZ {M:List Sq} (hM:aS M) (w h:Nat):aS (jU M w h):=List.Pairwise.filter _ hM
structure JA (F:List Sq) (w:Nat) (hs:List Nat) (P:List Sq):Prop where
 mem:∀ x,x∈P↔x∈F/\eC x.v w∈hs
 two:Il P
theorem yj (F:List Sq) (w:Nat):JA F w [] []:=⟨fun x=>by simp,qR⟩
theorem vi {F:List Sq} {w:Nat} {hs:List Nat} {P B:List Sq} {h:Nat} (hF:aS F) (D:JA F w hs P) (hn:h ∉ hs) (hB:B.Perm (jU F w h)):JA F w (hs ++ [h]) (P ++ B):=by
 have Wx:∀ x,x∈B↔x∈F/\eC x.v w=h:=fun x=>by rw [hB.mem_iff];exact nJ
 refine⟨fun x=>?_,fw.2 ⟨D.two,(jj (uZ hF w h)).perm hB.symm,fun x hx y hy e=>?_⟩⟩
 ·rw [List.mem_append,List.mem_append,D.mem,Wx,List.mem_singleton,<- and_or_left]
 ·have h1:=((D.mem x).1 hx).2
  have h2:=((Wx y).1 hy).2
  rw [e.2.2,h2] at h1
  exact hn h1
theorem yi {F:List Sq} {w:Nat} {hs:List Nat} {P:List Sq} (hw:0<w) (D:JA F w hs P) (hp:hs.Perm (List.range w)):∀ x,x∈P↔x∈F:=fun x=>by
 rw [D.mem,hp.mem_iff,List.mem_range]
 exact⟨fun h=>h.1,fun h=>⟨h,tv hw⟩⟩
theorem oB {n:Nat} {l:List Sq} (h:Il l) (hx:∀ x∈l,iW n x):l.length<=2*n:=by
 have:=ju (jw h) (fun x hx2=>hx x (jQ.1 hx2))
 rwa [ip] at this
theorem sf {f:Sq->List Sq} {st M P:List Sq} (h:aS st) (hP:∀ x,x∈P↔x∈bI st M) (h2:Il P):dL (st ++ P)=(cU f st M).1/\bI (dL (st ++ P)) (P.flatMap f)=(cU f st M).2:=by
 have h3:Il (st ++ P):=fw.2 ⟨jj h,h2,fun x hx y hy e=>(dr.1 ((hP y).1 hy)).2 ⟨x,hx,e⟩⟩
 exact wb h hP (jw h3) fun x=>by rw [jQ,List.mem_append]
theorem qU {α:Type} [Inhabited α] {out left l:List α} {i:Nat} (h:(out ++ left).Perm l) (hi:i<left.length):((out ++ [ae left i]) ++ left.eraseIdx i).Perm l:=by
 refine List.Perm.trans ?_ h
 rw [List.append_assoc]
 refine List.Perm.append_left out ?_
 rw [ar hi,List.eraseIdx_eq_take_drop_succ]
 conv=>rhs;rw [<- List.take_append_drop i left,List.drop_eq_getElem_cons hi]
 rw [List.singleton_append]
 exact List.perm_middle.symm
theorem mu {f:Sq->List Sq} {P:List Sq} {b:Nat} (h:∀ x∈P,(f x).length<=b):(P.flatMap f).length<=P.length*b:=by
 induction P with
 | nil=>simp
 | cons x P ih =>
  rw [List.flatMap_cons,List.length_append,List.length_cons,Nat.succ_mul]
  have h1:=h x (List.mem_cons_self ..)
  have h2:=ih fun y hy=>h y (List.mem_cons_of_mem _ hy)
  omega
section
open Go Go.RowKit Go.Maps Go.WideElems
structure Ky where
 s:Int
 r:Int
 v:Int
deriving DecidableEq,Inhabited
structure I4 (P:Program) (k:TypeId) where
 val:Ky->Value
 lit:Ky->Lit
 ok:Ky->Prop
 law:Go.Maps.Keyed P k
 of:∀ {x},ok x->keyOf P k (val x)=some (lit x)
 inv:∀ {v l},keyOf P k v=some l->∃ x,v=val x/\l=lit x/\ok x
 injL:∀ {x y},ok x->ok y->lit x=lit y->x=y
 injV:∀ {x y},val x=val y->x=y
structure IG (P:Program) (e:TypeId) (β:Type) where
 R:Value->Option (DataW Unit × List MemPlace)
 val:β->Value
 rd:β->DataW Unit
 z:β
 reads:∀ v,R (val v)=some (rd v,[])
 inv:∀ u y,R u=some y->∃ v,u=val v
 inj:∀ v v',rd v=rd v'->v=v'
 zero:∀ w,(zeroValue e).run P w=.ok (val z) w
section
variable {P:Program} {k e:TypeId} {β:Type} {K:I4 P k}
def Ko (K:I4 P k) (E:IG P e β) (D:DataW Unit) (f:Ky->Option β):Prop :=
 (∀ x,K.ok x->Maps.has D (K.lit x)=(f x).isSome)/\(∀ x v,f x=some v->K.ok x/\∀ zd,D.atKey (K.lit x) zd=E.rd v)
def Ir (K:I4 P k) (E:IG P e β) (b n:Nat) (f:Ky->Option β) (w:World):Prop :=
 ∃ D:DataW Unit,w.ownsMap P k E.R b n D/\Ko K E D f
def Cj (f:Ky->Option β) (x:Ky) (v:β):Ky->Option β:=fun y=>if y=x then some v else f y
theorem vB (K:I4 P k) {x:Ky} (hx:K.ok x):WideAt.IsKeyLit (K.lit x):=K.law.key (K.of hx)
theorem Ir.lt {E:IG P e β} {b n:Nat} {f:Ky->Option β} {w:World} (h:Ir K E b n f w):b<w.heap.size:=h.choose_spec.1.lt
theorem Ir.loc {E:IG P e β} {b n:Nat} {f:Ky->Option β} {w w':World} (h:Ir K E b n f w) (hb:w'.heap[b]?=w.heap[b]?):Ir K E b n f w':=by
 obtain⟨D,⟨es,clock,h1,F,h2,h3⟩,hf⟩:=h
 exact⟨D,⟨es,clock,hb.trans h1,F,h2,h3⟩,hf⟩
theorem Ir.ext {E:IG P e β} {b n:Nat} {f:Ky->Option β} {w w':World} (h:Ir K E b n f w) (he:Ext w w'):Ir K E b n f w':=h.loc (he.block b h.lt)
theorem Ir.made (E:IG P e β) (w:World):Ir K E w.heap.size 0 (fun _=>none) (w.alloc (.map #[] 0)) :=
 ⟨.map [],World.ownsMap_made w P k _,fun x _=>rfl,fun x v h=>by cases h⟩
def Pc.mapK (K:I4 P k) (E:IG P e β) (b n:Nat) (f:Ky->Option β):Pc :=
 ⟨fun i=>i=b,fun w=>Ir K E b n f w,fun _ h i hi=>by subst hi;exact h.lt,fun _ _ h hi=>h.loc (hi b rfl)⟩
variable {E:IG P e β} {b n:Nat} {f:Ky->Option β} {w:World}
theorem Ir.update {t:TypeId} (h:Ir K E b n f w) (ht:P.underlying t=some (.map k e)) (hn:n<140737488355328) {x:Ky} (hx:K.ok x) (v:β) :
  ∃ w',(Instr.mapUpdate t (.map (some b)) (K.val x) (E.val v)).run P w=.ok () w'/\Ir K E b (n+1) (Cj f x v) w'/\w.grownBy w' (some b):=by
 obtain⟨D,h1,h2,h3⟩:=h
 obtain⟨w',hr,ho,hg⟩:=h1.update (K.law) ht (by unfold maxLen;omega) (K.of hx) (E.reads v)
 have hm:=h1.isMap
 refine⟨w',hr,⟨_,ho,fun y hy=>?_,fun y u hu=>?_⟩,hg⟩
 ·unfold Cj
  by_cases e:y=x
  ·subst e;rw [has_put_same hm (vB K hx)];simp
  ·rw [has_put_other (fun h=>e (K.injL hy hx h)),if_neg e];exact h2 y hy
 ·unfold Cj at hu
  by_cases e:y=x
  ·subst e;simp at hu;subst hu;exact⟨hx,fun zd=>atKey_put_same hm (vB K hx) _ _⟩
  ·rw [if_neg e] at hu
   obtain⟨g1,g2⟩:=h3 y u hu
   exact⟨g1,fun zd=>by rw [atKey_put_other (fun h=>e (K.injL g1 hx h))];exact g2 zd⟩
theorem Ko.at {D:DataW Unit} (h:Ko K E D f) {x:Ky} (hx:K.ok x):D.atKey (K.lit x) (E.rd E.z)=E.rd ((f x).getD E.z):=by
 cases hf:f x with
 | none=>exact atKey_of_not_has (by rw [h.1 x hx,hf];rfl) _
 | some v=>exact(h.2 x v hf).2 _
theorem Ir.lookup {t:TypeId} (h:Ir K E b n f w) (ht:P.underlying t=some (.map k e)) {x:Ky} (hx:K.ok x) :
  (Instr.lookup t (.map (some b)) (K.val x) false).run P w=.ok (E.val ((f x).getD E.z)) w:=by
 obtain⟨D,h1,hf⟩:=h
 obtain⟨v,ps,hr,hv⟩:=h1.lookup (K.law) ht (E.zero w) (E.reads E.z) (K.of hx)
 obtain⟨u,rfl⟩:=E.inv _ _ hv
 have:=E.reads u
 rw [hv] at this
 injection this with this
 injection this with h4
 rw [hf.at hx] at h4
 rw [hr,E.inj _ _ h4]
theorem Ir.lookup_ok {t:TypeId} (h:Ir K E b n f w) (ht:P.underlying t=some (.map k e)) {x:Ky} (hx:K.ok x) :
  (Instr.lookup t (.map (some b)) (K.val x) true).run P w=.ok (.tuple #[E.val ((f x).getD E.z),.bool (f x).isSome]) w:=by
 obtain⟨D,h1,hf⟩:=h
 obtain⟨v,ps,hr,hv⟩:=h1.look_ok (K.law) ht (E.zero w) (E.reads E.z) (K.of hx)
 obtain⟨u,rfl⟩:=E.inv _ _ hv
 have:=E.reads u
 rw [hv] at this
 injection this with this
 injection this with h4
 rw [hf.at hx] at h4
 rw [hr,E.inj _ _ h4,hf.1 x hx]
def xC (K:I4 P k) (E:IG P e β) (es:Array MapEntry) (clock since:Nat) (seen:Array Nat) (c0 n:Nat) (f:Ky->Option β) (left:Ky->Bool) (cnt:Nat):Prop :=
 ∃ D:DataW Unit,∃ lf:Lit->Bool,Ko K E D f/\(∀ x,K.ok x->lf (K.lit x)=left x)/\(∀ x,left x=true->(f x).isSome=true)/\Fit P k (E.R) es clock/\es.size<=n/\D=.map ((es.toList.map (rg P k E.R)).foldr DataW.insert []) /\
  (∀ x∈es.toList,x.born<since)/\(leftOf es seen).size=cnt/\(∀ x∈es.toList,lf (rg P k (E.R) x).1=!seen.contains x.born)/\(∀ kl,lf kl=true->∃ x∈es.toList,(rg P k (E.R) x).1=kl)/\since<=c0/\since<=clock
theorem Ir.raw (h:Ir K E b n f w):∃ es clock,w.heap[b]?=some (.map es clock)/\Fit P k (E.R) es clock/\es.size<=n/\Ko K E (.map ((es.toList.map (rg P k E.R)).foldr DataW.insert [])) f:=by
 obtain⟨D,⟨es,clock,h1,F,h2,rfl⟩,hf⟩:=h
 exact⟨es,clock,h1,F,h2,hf⟩
variable {w0:World} {Γ:List Pc} {ops:Array Oper} {rest:List Oper} {o:Oper} {a:Act} {Q:Exit->Act->World->Prop}
structure Te (β:Type) where
 x:Ky
 v:β
theorem lF (hg:o.guard=none) (m:Operand) (t:TypeId) (hop:o.op=Op.range t m) (ht:P.underlying t=some (.map k e))
  (hm:a.eval m=.map (some b)) {es:Array MapEntry} {clock:Nat} (hb:w.heap[b]?=some (.map es clock)) (F:Fit P k (E.R) es clock) (hn:es.size<=n) (hf:Ko K E (.map ((es.toList.map (rg P k E.R)).foldr DataW.insert [])) f)
  (S:Ic w0 w Γ) (r:Nat) (hr:w.heap.size=r)
  (hK:∀ w' since seen c0 cnt,Ic w0 w' (.iter r b since seen c0 :: Γ)->xC K E es clock since seen c0 n f (fun x=>(f x).isSome) cnt->w'.heap.size=r+1->Ext w w'->wpList P ops Q rest (a.put o.dst (.pointer (some ⟨r,0,none⟩))) w') :
  wpList P ops Q (o :: rest) a w:=by
 subst hr
 have hown:w.ownsMap P k (E.R) b n (.map ((es.toList.map (rg P k E.R)).foldr DataW.insert [])):=⟨es,clock,hb,F,hn,rfl⟩
 refine wpList_range_own w hg m t hop k e (K.law) ht (E.R) b n _ hm hown ?_
 intro w' hr hgr hsz
 have Ke:Ext w w':=⟨hgr.os,hgr.tape,hgr.output,hgr.size,fun i hi=>hgr.block i hi (by simp)⟩
 have hb':w'.heap[b]?=some (.map es clock):=(Ke.block b (Array.getElem?_eq_some_iff.1 hb).1).trans hb
 obtain⟨es',clock',since,seen,c0,e1,F',e2,e3,e4,e5,e6,e7,e8,e9,e10⟩:=hr
 rw [hb'] at e1
 injection e1 with e1
 injection e1 with ea eb
 subst ea eb
 refine hK w' since seen c0 _ (S.comp (Δ:=[.iter w.heap.size b since seen c0]) ⟨Ke,fun p hp=>?_,fun p hp i hi=>?_,List.pairwise_singleton _ _⟩) ⟨_,_,hf,fun x hx=>?_,fun x hx=>hx,F',e2,rfl,e5,e6,e7,e8,e9,e10⟩ hsz Ke
 ·rw [List.mem_singleton] at hp;subst hp;exact e4
 ·rw [List.mem_singleton] at hp;subst hp;have:i=w.heap.size:=hi;omega
 ·exact hf.1 x hx
theorem mi (hg:o.guard=none) (it:Operand) (hop:o.op=Op.next it false) {r since:Nat} {seen:Array Nat} {c0 cnt:Nat} {left:Ky->Bool} {es:Array MapEntry} {clock:Nat}
  (hit:a.eval it=.pointer (some ⟨r,0,none⟩)) (hb:w.heap[b]?=some (.map es clock)) (S:Ic w0 w Γ) (j:Nat) (hj:Γ[j]?=some (.iter r b since seen c0)) (R:xC K E es clock since seen c0 n f left cnt)
  (hDone:(∀ x,left x=false)->wpList P ops Q rest (a.put o.dst (.tuple #[.bool false])) w)
  (hMore:∀ (x:Te β) w' since' seen' c0' cnt',K.ok x.x->left x.x=true->f x.x=some x.v->Ic w0 w' (Γ.set j (.iter r b since' seen' c0'))->xC K E es clock since' seen' c0' n f (fun z=>left z && !decide (z=x.x)) cnt'->cnt'<cnt ->
   w'.heap.size=w.heap.size->w'.heap[b]?=some (.map es clock)->w.grownBy w' (some r)->(Instr.entry (.pointer (some ⟨r,0,none⟩))).run P w'=.ok (.tuple #[K.val x.x,E.val x.v]) w'->wpList P ops Q rest (a.put o.dst (.tuple #[.bool true,K.val x.x,E.val x.v])) w') :
  wpList P ops Q (o :: rest) a w:=by
 obtain⟨D,lf,hf,hlf,hlt,F,e2,rfl,e5,e6,e7,e8,e9,e10⟩:=R
 have hr:w.heap[r]?=some (.mapIter (some b) since seen c0):=S.all _ (List.mem_of_getElem? hj)
 have hrange:w.ranges P k (E.R) b r n (.map ((es.toList.map (rg P k E.R)).foldr DataW.insert [])) lf cnt:=⟨es,clock,since,seen,c0,hb,F,e2,rfl,hr,e5,e6,e7,e8,e9,e10⟩
 have hne:r≠b:=hrange.ne
 refine wpList_next_ranges w hg it hop k (K.law) (E.R) K.val E.val (fun key kl h=>by obtain⟨x,h1,_⟩:=K.inv h;exact⟨x,h1⟩) (fun v y h=>E.inv v y h) b r n _ lf cnt hit hrange ?_ ?_
 ·intro _ hall
  refine hDone fun x=>?_
  by_cases hx:left x=true
  ·have h1:=hlt x hx
   obtain⟨v,hv⟩:=Option.isSome_iff_exists.1 h1
   have:=hlf x (hf.2 x v hv).1
   rw [hall] at this
   rw [<- this] at hx;cases hx
  ·simpa using hx
 ·intro x c kl y w' cnt' hkey hl hR hat hrg hlt' hgr hsz hen
  obtain⟨x',hx1,hx2,hx3⟩:=K.inv hkey
  have hx1:=K.injV hx1
  subst hx1;subst hx2
  have PL:K.ok x:=hx3
  have hlx:left x=true:=by rw [<- hlf x PL];exact hl
  obtain⟨v,hv⟩:=Option.isSome_iff_exists.1 (hlt x hlx)
  have hc:v=c:=by
   refine E.inj _ _ ?_
   have h1:=(hf.2 x v hv).2 (E.rd v)
   have h2:=hat (E.rd v)
   have h3:=E.reads c
   rw [hR] at h3
   injection h3 with h3
   rw [<- h1,h2,h3]
  subst hc
  have hb':w'.heap[b]?=some (.map es clock):=(hgr.block b (Array.getElem?_eq_some_iff.1 hb).1 (fun e=>hne (by injection e with e;exact e.symm))).trans hb
  obtain⟨es',clock',since',seen',c0',g1,F',g2,g3,g4,g5,g6,g7,g8,g9,g10⟩:=hrg
  rw [hb'] at g1
  injection g1 with g1
  injection g1 with ga gb
  subst ga gb
  refine hMore ⟨x,v⟩ w' since' seen' c0' cnt' PL hlx hv (S.put j hj (.iter r b since' seen' c0') hgr (fun i hi=>by injection hi with hi;exact hi.symm) g4 (fun i hi=>.inl hi)) ⟨_,_,hf,fun z hz=>?_,fun z hz=>?_,F',g2,rfl,g5,g6,g7,g8,g9,g10⟩ hlt' hsz hb' hgr hen
  ·rw [hlf z hz]
   by_cases e:z=x
   ·subst e;rw [WideAt.sameKey_self (vB K hz)];simp
   ·rw [sameKey_ne (fun h=>e (K.injL hz PL h))];simp [e]
  ·simp only [Bool.and_eq_true] at hz;exact hlt z hz.1
theorem dZ (hg:o.guard=none) (m x v:Operand) (t:TypeId) (hop:o.op=Op.mapUpdate t m x v) (ht:P.underlying t=some (.map k e))
  (hm:a.eval m=.map (some b)) (S:Ic w0 w Γ) (j:Nat) (hj:Γ[j]?=some (.mapK K E b n f)) (hn:n<140737488355328) (kx:Ky) (u:β) (hx:a.eval x=K.val kx) (hv:a.eval v=E.val u) (hi:K.ok kx)
  (hK:∀ w',Ic w0 w' (Γ.set j (.mapK K E b (n+1) (Cj f kx u)))->w.grownBy w' (some b)->wpList P ops Q rest (a.put o.dst undef) w') :
  wpList P ops Q (o :: rest) a w:=by
 refine wpList_plain hg fun K' hK'=>?_
 obtain⟨w',hrun,r1,r2⟩:=Ir.update (S.all _ (List.mem_of_getElem? hj)) ht hn hi u
 unfold Oper.wp
 simp [execOp,hop,hm,hx,hv,hrun,Result.andThen]
 exact hK' _ _ (hK w' (S.put j hj _ r2 (fun i hi=>by injection hi with hi;exact hi.symm) r1 (fun i hi=>.inl hi)) r2)
end
theorem re {P:Program} {k e:TypeId} {β:Type} {K:I4 P k} {E:IG P e β} {w:World} {b n:Nat} {f:Ky->Option β} {es:Array MapEntry} {clock r since:Nat} {seen:Array Nat} {c0 cnt:Nat} {left:Ky->Bool} (hb:w.heap[b]?=some (.map es clock)) (hr:w.heap[r]?=some (.mapIter (some b) since seen c0)) (R:xC K E es clock since seen c0 n f left cnt):w.rangeLeft b r=cnt:=by
 obtain⟨_,_,_,_,_,_,_,_,_,h,_⟩:=R
 unfold World.rangeLeft;rw [hb,hr];exact h
theorem Dm {P:Program} {k e:TypeId} {β:Type} {K:I4 P k} {E:IG P e β} {n:Nat} {f:Ky->Option β} {es:Array MapEntry} {clock since:Nat} {seen:Array Nat} {c0 cnt:Nat} {left:Ky->Bool} (R:xC K E es clock since seen c0 n f left cnt):cnt<=n:=by
 obtain⟨_,_,_,_,_,_,h2,_,_,h,_⟩:=R
 refine Nat.le_trans ?_ h2
 rw [<- h]
 unfold leftOf
 exact Array.size_filter_le
theorem Ic.mkmapK {P:Program} {k e:TypeId} {β:Type} {K:I4 P k} (E:IG P e β) {w0 w:World} {Γ:List Pc} (S:Ic w0 w Γ):Ic w0 (w.alloc (.map #[] 0)) (.mapK K E w.heap.size 0 (fun _=>none) :: Γ) :=
 S.comp (Δ:=[.mapK K E w.heap.size 0 (fun _=>none)]) ⟨Ext.alloc (Below.refl _ _) _,fun p hp=>by rw [List.mem_singleton] at hp;subst hp;exact Ir.made E w,fun p hp i hi=>by rw [List.mem_singleton] at hp;subst hp;have:i=w.heap.size:=hi;omega,List.pairwise_singleton _ _⟩
theorem Ic.mapK {P:Program} {k e:TypeId} {β:Type} {K:I4 P k} {E:IG P e β} {w0 w:World} {Γ:List Pc} (S:Ic w0 w Γ) (j:Nat) {b n:Nat} {f:Ky->Option β} (hj:Γ[j]?=some (.mapK K E b n f)):Ir K E b n f w:=S.all _ (List.mem_of_getElem? hj)
end
def Sq.ky (x:Sq):Ky:=⟨x.s,x.r,x.v⟩
theorem gJ {x y:Sq}:x.ky=y.ky↔Ig x y:=by
 unfold Sq.ky Ig
 constructor
 ·intro h;injection h with h1 h2 h3;exact⟨h1,h2,h3⟩
 ·rintro⟨h1,h2,h3⟩;rw [h1,h2,h3]
def iv (l:List Sq) (f:Ky->Option Sq):Prop :=
 (∀ κ,f κ=none->∀ x∈l,x.ky≠κ)/\∀ κ y,f κ=some y->y∈l/\y.ky=κ/\∀ x∈l,x.ky=κ->y.d<=x.d
theorem vH:iv [] (fun _=>none):=⟨fun _ _ x h=>(List.not_mem_nil h).elim,fun _ _ h=>by cases h⟩
theorem tH {l:List Sq} {f:Ky->Option Sq} (x:Sq) (h:iv l f) (hx:∃ y,f x.ky=some y/\y.d<=x.d):iv (l ++ [x]) f:=by
 obtain⟨y,hy,hd⟩:=hx
 refine⟨fun κ hκ z hz=>?_,fun κ u hu=>?_⟩
 ·rcases List.mem_append.1 hz with hz | hz
  ·exact h.1 κ hκ z hz
  ·rw [List.mem_singleton] at hz
   subst hz
   intro e;rw [<- e,hy] at hκ;cases hκ
 ·obtain⟨h1,h2,h3⟩:=h.2 κ u hu
  refine⟨List.mem_append_left _ h1,h2,fun z hz e=>?_⟩
  rcases List.mem_append.1 hz with hz | hz
  ·exact h3 z hz e
  ·rw [List.mem_singleton] at hz
   subst hz
   rw [e,hu] at hy
   injection hy with hy
   rw [hy];exact hd
theorem oh {l:List Sq} {f:Ky->Option Sq} (x:Sq) (h:iv l f) (hx:∀ y,f x.ky=some y->x.d<=y.d):iv (l ++ [x]) (Cj f x.ky x):=by
 refine⟨fun κ hκ z hz=>?_,fun κ u hu=>?_⟩
 ·unfold Cj at hκ
  by_cases e:κ=x.ky
  ·rw [if_pos e] at hκ;cases hκ
  ·rw [if_neg e] at hκ
   rcases List.mem_append.1 hz with hz | hz
   ·exact h.1 κ hκ z hz
   ·rw [List.mem_singleton] at hz
    subst hz
    exact fun h2=>e h2.symm
 ·unfold Cj at hu
  by_cases e:κ=x.ky
  ·rw [if_pos e] at hu
   injection hu with hu
   subst hu
   subst e
   refine⟨by simp,rfl,fun z hz e=>?_⟩
   rcases List.mem_append.1 hz with hz | hz
   ·cases hf:f x.ky with
    | none=>exact absurd e (h.1 _ hf z hz)
    | some y=>have:=hx y hf;have:=(h.2 _ y hf).2.2 z hz e;omega
   ·rw [List.mem_singleton] at hz
    subst hz;exact Int.le_refl _
  ·rw [if_neg e] at hu
   obtain⟨h1,h2,h3⟩:=h.2 κ u hu
   refine⟨List.mem_append_left _ h1,h2,fun z hz e2=>?_⟩
   rcases List.mem_append.1 hz with hz | hz
   ·exact h3 z hz e2
   ·rw [List.mem_singleton] at hz
    subst hz
    exact absurd e2.symm e
theorem vG {M:List Sq} {f:Ky->Option Sq} (h:iv M f) (x:Sq):f x.ky=some x↔gT M x:=by
 constructor
 ·intro hf
  obtain⟨h1,_,h3⟩:=h.2 _ _ hf
  exact⟨h1,fun y hy e=>h3 y hy (gJ.2 e)⟩
 ·rintro⟨hx,hl⟩
  cases hf:f x.ky with
  | none=>exact absurd rfl (h.1 _ hf x hx)
  | some y =>
   obtain⟨h1,h2,h3⟩:=h.2 _ _ hf
   have e:=gJ.1 h2
   have a:=h3 x hx rfl
   have b:=hl y h1 e
   rw [Ig.eq e (by omega)]
structure JJ (f:Ky->Option Sq) (left:Ky->Bool) (L:List Sq):Prop where
 mem:∀ x,x∈L↔f x.ky=some x/\left x.ky=false
 two:Il L
theorem xV (f:Ky->Option Sq):JJ f (fun κ=>(f κ).isSome) []:=⟨fun x=>by simp;intro h;simp [h],qR⟩
theorem vb {M:List Sq} {f:Ky->Option Sq} {left:Ky->Bool} {L:List Sq} (hf:iv M f) (h:JJ f left L) {κ:Ky} {u:Sq} (hκ:f κ=some u) (hl:left κ=true):JJ f (fun z=>left z && !decide (z=κ)) (L ++ [u]):=by
 have hu:u.ky=κ:=(hf.2 _ _ hκ).2.1
 refine⟨fun x=>?_,fw.2 ⟨h.two,List.pairwise_singleton _ _,fun x hx y hy e=>?_⟩⟩
 ·rw [List.mem_append,List.mem_singleton,h.mem]
  constructor
  ·rintro(⟨h1,h2⟩ | rfl)
   ·exact⟨h1,by rw [h2];rfl⟩
   ·rw [hu];exact⟨hκ,by simp⟩
  ·rintro⟨h1,h2⟩
   by_cases e:x.ky=κ
   ·right;rw [e,hκ] at h1;injection h1 with h1;exact h1.symm
   ·left;refine⟨h1,?_⟩
    simpa [e] using h2
 ·rw [List.mem_singleton] at hy
  subst hy
  have h2:=((h.mem x).1 hx).2
  rw [gJ.2 e,hu,hl] at h2
  cases h2
theorem xU {M:List Sq} {f:Ky->Option Sq} {left:Ky->Bool} {L:List Sq} (hf:iv M f) (h:JJ f left L) (hl:∀ κ,left κ=false):dL L=dJ M :=
 fT (jw h.two) (ja M).keyed fun x=>by
  rw [jQ,h.mem,vG hf,ia]
  exact⟨fun h=>h.1,fun h2=>⟨h2,hl _⟩⟩
def lI (l:List Sq) (f:Ky->Option Bool):Prop:=∀ κ,(f κ=some true↔∃ x∈l,x.ky=κ)/\f κ≠some false
theorem we:lI [] (fun _=>none):=fun κ=>⟨by simp,by simp⟩
theorem wg {l:List Sq} {f:Ky->Option Bool} (x:Sq) (h:lI l f):lI (l ++ [x]) (Cj f x.ky true):=fun κ=>by
 unfold Cj
 by_cases e:κ=x.ky
 ·rw [if_pos e]
  exact⟨⟨fun _=>⟨x,by simp,e.symm⟩,fun _=>rfl⟩,by simp⟩
 ·rw [if_neg e]
  refine⟨?_,(h κ).2⟩
  rw [(h κ).1]
  constructor
  ·rintro⟨y,hy,h2⟩;exact⟨y,List.mem_append_left _ hy,h2⟩
  ·rintro⟨y,hy,h2⟩
   rcases List.mem_append.1 hy with hy | hy
   ·exact⟨y,hy,h2⟩
   ·rw [List.mem_singleton] at hy;subst hy;exact absurd h2.symm e
theorem wd {l:List Sq} {f:Ky->Option Bool} (h:lI l f) (x:Sq):(f x.ky).getD false=C1 l x:=by
 have h1:=(h x.ky).1
 have h2:=(h x.ky).2
 rw [Bool.eq_iff_iff,tp]
 have h3:(f x.ky).getD false=true↔f x.ky=some true:=by
  cases hf:f x.ky with
  | none=>simp
  | some b=>simp
 rw [h3,h1]
 constructor
 ·rintro⟨y,hy,e⟩;exact⟨y,hy,gJ.1 e⟩
 ·rintro⟨y,hy,e⟩;exact⟨y,hy,gJ.2 e⟩
section
open Go Go.RowKit
section
variable {α:Type} [Inhabited α] {lt:α->α->Bool}
def bj (X:List α) (i j:Nat):List α:=(X.set i (ae X j)).set j (ae X i)
theorem tS {X:List α} {i k:Nat} {a:α} (hk:k<X.length):ae (X.set i a) k=if k=i then a else ae X k:=by
 rw [ar (by simpa using hk),List.getElem_set]
 by_cases h:i=k
 ·rw [if_pos h,if_pos h.symm]
 ·rw [if_neg h,if_neg (fun e=>h e.symm),ar hk]
theorem cV {X:List α} {i j k:Nat} (hk:k<X.length):ae (bj X i j) k=if k=j then ae X i else if k=i then ae X j else ae X k:=by
 unfold bj
 rw [tS (by simpa using hk),tS hk]
theorem um {X:List α}:∀ {i:Nat} {a:α},i<X.length->(a :: X).Perm (ae X i :: X.set i a):=by
 induction X with
 | nil=>intro i a h;cases h
 | cons b X ih =>
  intro i a h
  cases i with
  | zero=>rw [ar (by simp)];exact List.Perm.swap _ _ _
  | succ i =>
   have h':i<X.length:=by simpa using h
   have e:ae (b :: X) (i+1)=ae X i:=by rw [ar (by simpa using h),ar h'];simp
   rw [e,List.set_cons_succ]
   exact(List.Perm.swap _ _ _).trans (((ih h').cons b).trans (List.Perm.swap _ _ _))
theorem cL {X:List α} {i j:Nat} (hi:i<X.length) (hj:j<X.length):(bj X i j).Perm X:=by
 have h1:=um (X:=X) (i:=i) (a:=ae X j) hi
 have h2:=um (X:=X.set i (ae X j)) (i:=j) (a:=ae X i) (by simpa using hj)
 have e:ae (X.set i (ae X j)) j=ae X j:=by
  rw [ar (by simpa using hj),List.getElem_set]
  by_cases h:i=j
  ·rw [if_pos h]
  ·rw [if_neg h,ar hj]
 rw [e] at h2
 exact((h2.symm.trans h1.symm).cons_inv)
def cC (lt:α->α->Bool) (n:Nat) (X:List α):Prop:=∀ i,0<i->i<n->lt (ae X i) (ae X ((i - 1) / 2))=false
def zE (lt:α->α->Bool) (n j:Nat) (X:List α):Prop:=(∀ i,0<i->i<n->i≠j->lt (ae X i) (ae X ((i - 1) / 2))=false)/\∀ i,0<i->i<n->(i - 1) / 2=j->0<j->lt (ae X i) (ae X ((j - 1) / 2))=false
def Cm (lt:α->α->Bool) (n j:Nat) (X:List α):Prop:=(∀ i,0<i->i<n->(i - 1) / 2≠j->lt (ae X i) (ae X ((i - 1) / 2))=false)/\∀ i,0<i->i<n->(i - 1) / 2=j->0<j->lt (ae X i) (ae X ((j - 1) / 2))=false
theorem uv {n:Nat} {X:List α} (h:cC lt n X):zE lt (n+1) n X :=
 ⟨fun i h0 h1 h2=>h i h0 (by omega),fun i h0 h1 h2 h3=>by omega⟩
theorem si {n j:Nat} {X:List α} (h:zE lt n j X) (hj:j=0\/lt (ae X j) (ae X ((j - 1) / 2))=false):cC lt n X:=fun i h0 h1=>by
 by_cases e:i=j
 ·subst e
  rcases hj with h2 | h2
  ·omega
  ·exact h2
 ·exact h.1 i h0 h1 e
omit [Inhabited α] in
theorem I5.le_trans (hs:I5 lt) {a b c:α} (h1:lt b a=false) (h2:lt c b=false):lt c a=false:=by
 cases h:lt c a with
 | false=>rfl
 | true=>rw [hs.le_lt h2 h] at h1;cases h1
theorem xk (hs:I5 lt) {n j:Nat} {X:List α} (hn:n<=X.length) (hj:j<n) (h0:0<j) (h:zE lt n j X) (hl:lt (ae X j) (ae X ((j - 1) / 2))=true):zE lt n ((j - 1) / 2) (bj X j ((j - 1) / 2)):=by
 have hp:(j - 1) / 2<j:=by omega
 generalize Km:(j - 1) / 2=p at *
 have es:∀ k,k<n->ae (bj X j p) k=if k=p then ae X j else if k=j then ae X p else ae X k:=fun k hk=>cV (by omega)
 constructor
 ·intro i hi1 hi2 hi3
  rw [es i hi2,es ((i - 1) / 2) (by omega),if_neg hi3]
  by_cases e:i=j
  ·subst e
   rw [if_pos rfl,Km,if_pos rfl]
   exact hs.asymm hl
  ·rw [if_neg e]
   by_cases e1:(i - 1) / 2=p
   ·rw [if_pos e1]
    have h2:=h.1 i hi1 hi2 e
    rw [e1] at h2
    exact hs.le_trans (hs.asymm hl) h2
   ·rw [if_neg e1]
    by_cases e2:(i - 1) / 2=j
    ·rw [if_pos e2]
     have:=h.2 i hi1 hi2 e2 h0
     rw [Km] at this;exact this
    ·rw [if_neg e2];exact h.1 i hi1 hi2 e
 ·intro i hi1 hi2 hi3 hp0
  have UW:(p - 1) / 2≠p:=by omega
  have UX:(p - 1) / 2≠j:=by omega
  have Yz:i≠p:=by omega
  rw [es i hi2,es ((p - 1) / 2) (by omega),if_neg Yz,if_neg UW,if_neg UX]
  have Qs:=h.1 p hp0 (by omega) (by omega)
  by_cases e:i=j
  ·rw [if_pos e];exact Qs
  ·rw [if_neg e]
   have h2:=h.1 i hi1 hi2 e
   rw [hi3] at h2
   exact hs.le_trans Qs h2
theorem tc {n:Nat} {X:List α} (hn:X.length=n+1) (h:cC lt (n+1) X):Cm lt n 0 (bj X 0 n):=by
 have es:∀ k,k<n->0<k->ae (bj X 0 n) k=ae X k:=fun k hk h0=>by
  rw [cV (by omega),if_neg (by omega),if_neg (by omega)]
 exact⟨fun i h0 h1 h2=>by rw [es i h1 h0,es _ (by omega) (by omega)];exact h i h0 (by omega),fun i h0 h1 h2 h3=>by omega⟩
theorem wF {n j:Nat} {X:List α} (h:Cm lt n j X) (hj:n<=2*j+1):cC lt n X:=fun i h0 h1=>h.1 i h0 h1 (by omega)
def ry (lt:α->α->Bool) (n j c:Nat) (X:List α):Prop:=c<n/\0<c/\(c - 1) / 2=j/\∀ k,0<k->k<n->(k - 1) / 2=j->lt (ae X k) (ae X c)=false
theorem jK (hs:I5 lt) {n j:Nat} {X:List α} (h:2*j+1<n) (h2:n<=2*j+2\/lt (ae X (2*j+2)) (ae X (2*j+1))=false):ry lt n j (2*j+1) X :=
 ⟨h,by omega,by omega,fun k h0 h1 h3=>by
  have:k=2*j+1\/k=2*j+2:=by omega
  rcases this with rfl | rfl
  ·exact hs.irrefl _
  ·rcases h2 with h2 | h2
   ·omega
   ·exact h2⟩
theorem qL (hs:I5 lt) {n j:Nat} {X:List α} (h:2*j+2<n) (h2:lt (ae X (2*j+2)) (ae X (2*j+1))=true):ry lt n j (2*j+2) X :=
 ⟨h,by omega,by omega,fun k h0 h1 h3=>by
  have:k=2*j+1\/k=2*j+2:=by omega
  rcases this with rfl | rfl
  ·exact hs.asymm h2
  ·exact hs.irrefl _⟩
theorem lM (hs:I5 lt) {n j c:Nat} {X:List α} (h:Cm lt n j X) (hc:ry lt n j c X) (hl:lt (ae X c) (ae X j)=false):cC lt n X:=fun i h0 h1=>by
 by_cases e:(i - 1) / 2=j
 ·rw [e];exact hs.le_trans hl (hc.2.2.2 i h0 h1 e)
 ·exact h.1 i h0 h1 e
theorem jE (hs:I5 lt) {n j c:Nat} {X:List α} (hn:n<=X.length) (h:Cm lt n j X) (hc:ry lt n j c X) (hl:lt (ae X c) (ae X j)=true):Cm lt n c (bj X j c):=by
 obtain⟨c1,c2,c3,c4⟩:=hc
 have hjc:j<c:=by omega
 have es:∀ k,k<n->ae (bj X j c) k=if k=c then ae X j else if k=j then ae X c else ae X k:=fun k hk=>cV (by omega)
 constructor
 ·intro i hi1 hi2 hi3
  rw [es i hi2,es ((i - 1) / 2) (by omega),if_neg hi3]
  by_cases e:i=c
  ·subst e
   rw [if_pos rfl,c3,if_pos rfl]
   exact hs.asymm hl
  ·rw [if_neg e]
   by_cases e1:i=j
   ·subst e1
    rw [if_pos rfl,if_neg (by omega)]
    exact h.2 c c2 c1 c3 hi1
   ·rw [if_neg e1]
    by_cases e2:(i - 1) / 2=j
    ·rw [if_pos e2];exact c4 i hi1 hi2 e2
    ·rw [if_neg e2];exact h.1 i hi1 hi2 e2
 ·intro i hi1 hi2 hi3 _
  have h1:i≠c:=by omega
  have h2:i≠j:=by omega
  rw [es i hi2,c3,es j (by omega),if_neg h1,if_neg h2,if_neg (by omega),if_pos rfl]
  have:=h.1 i hi1 hi2 (by omega)
  rw [hi3] at this;exact this
theorem tq (hs:I5 lt) {n:Nat} {X:List α} (h:cC lt n X):∀ i,i<n->lt (ae X i) (ae X 0)=false:=by
 intro i
 induction i using Nat.strongRecOn with
 | _ i ih =>
  intro hi
  by_cases h0:i=0
  ·subst h0;exact hs.irrefl _
  ·exact hs.le_trans (ih ((i - 1) / 2) (by omega) (by omega)) (h i (by omega) hi)
theorem qH {n:Nat} {X:List α} (h:cC lt n X) (hn:n<=X.length):cC lt n (X.take n):=fun i h0 h1=>by
 have e:∀ k,k<n->ae (X.take n) k=ae X k:=fun k hk=>by rw [ar (by simp;omega),ar (by omega)];simp
 rw [e i h1,e _ (by omega)];exact h i h0 h1
theorem tZ {n:Nat} {X Y:List α} {m:α} (hX:X.length=n+1) (hp:Y.Perm X) (hm:ae Y n=m):(m :: Y.take n).Perm X:=by
 have hl:Y.length=n+1:=by rw [hp.length_eq,hX]
 have e:Y=Y.take n ++ [m]:=by
  have h1:=List.take_append_drop n Y
  have h2:Y.drop n=[m]:=by
   rw [<- hm,ar (by omega),List.drop_eq_getElem_cons (by omega),List.drop_of_length_le (by omega)]
  rw [h2] at h1;exact h1.symm
 refine List.Perm.trans ?_ hp
 conv=>rhs;rw [e]
 exact(List.perm_append_singleton m _).symm
omit [Inhabited α] in
theorem y6 (hs:I5 lt) {out rest all:List α} (hp:(out ++ rest).Perm all) (hn:all.Nodup) (h1:bM lt out) (h2:∀ a∈out,∀ b∈rest,lt b a=false) {m:α} {rest':List α} (hr:(m :: rest').Perm rest) (hm:∀ b∈rest,lt b m=false) :
  ((out ++ [m]) ++ rest').Perm all/\bM lt (out ++ [m])/\∀ a∈out ++ [m],∀ b∈rest',lt b a=false:=by
 have hp2:((out ++ [m]) ++ rest').Perm all:=by
  rw [List.append_assoc]
  exact(hr.append_left out).trans hp
 have hnd:(out ++ rest).Nodup:=hp.nodup_iff.2 hn
 have hmr:m∈rest:=hr.mem_iff.1 (List.mem_cons_self ..)
 refine⟨hp2,?_,?_⟩
 ·rw [bM,List.pairwise_append]
  refine⟨h1,List.pairwise_singleton _ _,fun a ha b hb=>?_⟩
  obtain rfl:=List.mem_singleton.1 hb
  cases h:lt a b with
  | true=>rfl
  | false =>
   have e:=hs.tri a b h (h2 a ha b hmr)
   subst e
   exact absurd rfl ((List.nodup_append.1 hnd).2.2 a ha a hmr)
 ·intro a ha b hb
  have hbr:b∈rest:=hr.mem_iff.1 (List.mem_cons_of_mem _ hb)
  rcases List.mem_append.1 ha with ha | ha
  ·exact h2 a ha b hbr
  ·obtain rfl:=List.mem_singleton.1 ha
   exact hm b hbr
end
end
def wk (nx:Nat->List Int) (n s:Nat):Nat->Nat->Bool
 | 0,v=>v == s
 | k+1,v=>(List.range n).any fun u=>wk nx n s k u && (nx u).contains (v:Int)
def ay (nx:Nat->List Int) (n s v:Nat):Int:=match (List.range n).find? (fun k=>wk nx n s k v) with | some k=>(k:Int) | none=>-1
structure P9 (nx:Nat->List Int) (n s:Nat) (f:Nat->Int):Prop where
 ge:∀ v,v<n->-1<=f v
 zero:∀ v,v<n->(f v=0↔v=s)
 next:∀ u v,u<n->v<n->(v:Int)∈nx u->0<=f u->0<=f v/\f v<=f u+1
 pred:∀ v,v<n->0<f v->∃ u,u<n/\f u=f v - 1/\(v:Int)∈nx u
theorem di {nx:Nat->List Int} {n s k v:Nat}:wk nx n s (k+1) v=true↔∃ u,u<n/\wk nx n s k u=true/\(v:Int)∈nx u:=by
 simp [wk]
def sk (nx:Nat->List Int) (n s k v:Nat):Bool:=(List.range (k+1)).any fun j=>wk nx n s j v
theorem jS {nx:Nat->List Int} {n s k v:Nat}:sk nx n s k v=true↔∃ j,j<=k/\wk nx n s j v=true:=by
 simp only [sk,List.any_eq_true,List.mem_range]
 constructor
 ·rintro⟨j,h1,h2⟩;exact⟨j,by omega,h2⟩
 ·rintro⟨j,h1,h2⟩;exact⟨j,by omega,h2⟩
theorem jc {α:Type} (p q:α->Bool):∀ l:List α,(∀ x∈l,p x=true->q x=true)->(∃ x,x∈l/\q x=true/\p x=false)->l.countP p<l.countP q
 | [],_,h=>by obtain⟨x,hx,_⟩:=h;cases hx
 | a :: l,h1,h2=>by
  have hle:l.countP p<=l.countP q:=List.countP_mono_left fun x hx=>h1 x (List.mem_cons_of_mem _ hx)
  obtain⟨x,hx,hq,hp⟩:=h2
  rw [List.countP_cons,List.countP_cons]
  rcases List.mem_cons.1 hx with rfl | hx
  ·simp only [hq,hp];simp;omega
  ·have:=jc p q l (fun x hx=>h1 x (List.mem_cons_of_mem _ hx)) ⟨x,hx,hq,hp⟩
   have h3:=h1 a (List.mem_cons_self ..)
   cases ha:p a with
   | false=>simp only [Bool.false_eq_true,if_false];split <;> omega
   | true=>rw [h3 ha];simp;omega
theorem ux {nx:Nat->List Int} {n s:Nat}:∀ m k,(List.range n).countP (fun v=>!sk nx n s k v)<=m->∃ j,j<=k+m/\∀ v,v<n->sk nx n s (j+1) v=true->sk nx n s j v=true
 | m,k,h=>by
  by_cases hs:∀ v,v<n->sk nx n s (k+1) v=true->sk nx n s k v=true
  ·exact⟨k,by omega,hs⟩
  ·have:∃ v,v<n/\sk nx n s (k+1) v=true/\sk nx n s k v=false:=by
    apply Classical.byContradiction
    intro hc
    apply hs
    intro v hv h1
    cases h2:sk nx n s k v with
    | true=>rfl
    | false=>exact absurd ⟨v,hv,h1,h2⟩ hc
   obtain⟨v,hv,h1,h2⟩:=this
   have hlt:=jc (fun v=>!sk nx n s (k+1) v) (fun v=>!sk nx n s k v) (List.range n) (fun x _ hx=>by
    simp only [Bool.not_eq_eq_eq_not,Bool.not_true] at hx ⊢
    cases h3:sk nx n s k x with
    | false=>rfl
    | true =>
     obtain⟨j,hj,h4⟩:=jS.1 h3
     rw [jS.2 ⟨j,by omega,h4⟩] at hx;cases hx) ⟨v,List.mem_range.2 hv,by simp [h2],by simp [h1]⟩
   cases m with
   | zero=>omega
   | succ m =>
    obtain⟨j,hj,h3⟩:=ux (nx:=nx) (n:=n) (s:=s) m (k+1) (by omega)
    exact⟨j,by omega,h3⟩
theorem o7 {nx:Nat->List Int} {n s j:Nat} (h:∀ v,v<n->sk nx n s (j+1) v=true->sk nx n s j v=true):∀ k v,v<n->wk nx n s k v=true->sk nx n s j v=true
 | 0,v,_,hk=>jS.2 ⟨0,Nat.zero_le _,hk⟩
 | k+1,v,hv,hk=>by
  obtain⟨u,hu,h1,h2⟩:=di.1 hk
  obtain⟨i,hi,h3⟩:=jS.1 (o7 h k u hu h1)
  exact h v hv (jS.2 ⟨i+1,by omega,di.2 ⟨u,hu,h3,h2⟩⟩)
theorem Ca {nx:Nat->List Int} {n s:Nat} (hs:s<n) {k v:Nat} (hv:v<n) (hk:wk nx n s k v=true):∃ j,j<n/\wk nx n s j v=true:=by
 have h0:(List.range n).countP (fun v=>!sk nx n s 0 v)<=n - 1:=by
  have:=jc (fun v=>!sk nx n s 0 v) (fun _=>true) (List.range n) (fun _ _ _=>rfl) ⟨s,List.mem_range.2 hs,rfl,by simp [sk,wk,List.range_succ]⟩
  rw [List.countP_true,List.length_range] at this
  omega
 obtain⟨j,hj,h1⟩:=ux (nx:=nx) (s:=s) (n - 1) 0 h0
 obtain⟨i,hi,h2⟩:=jS.1 (o7 h1 k v hv hk)
 exact⟨i,by omega,h2⟩
theorem lX {p:Nat->Bool}:∀ k,p k=true->∃ j,j<=k/\p j=true/\∀ i,i<j->p i=false
 | 0,h=>⟨0,Nat.le_refl _,h,fun i hi=>by omega⟩
 | k+1,h=>by
  by_cases h1:∃ j,j<=k/\p j=true
  ·obtain⟨j,hj,h2⟩:=h1
   obtain⟨i,hi,h3,h4⟩:=lX j h2
   exact⟨i,by omega,h3,h4⟩
  ·refine⟨k+1,Nat.le_refl _,h,fun i hi=>?_⟩
   cases h2:p i with
   | false=>rfl
   | true=>exact absurd ⟨i,by omega,h2⟩ h1
theorem vj {p:Nat->Bool} {n k:Nat} (hk:k<n) (h1:p k=true) (h2:∀ i,i<k->p i=false):(List.range n).find? p=some k:=by
 rw [List.find?_eq_some_iff_append]
 refine⟨h1,List.range k,(List.range (n - k - 1)).map (·+(k+1)),?_,fun i hi=>by rw [h2 i (List.mem_range.1 hi)];rfl⟩
 have:n=k+1+(n - k - 1):=by omega
 conv=>lhs;rw [this,List.range_add,List.range_succ]
 rw [List.append_assoc,List.singleton_append]
 have he:(fun x:Nat=>k+1+x)=fun x=>x+(k+1):=by funext x;omega
 rw [he]
theorem kP {nx:Nat->List Int} {n s v:Nat} (hs:s<n) (hv:v<n) {k:Nat} (hk:wk nx n s k v=true):∃ j,j<=k/\j<n/\ay nx n s v=j/\wk nx n s j v=true/\∀ i,i<j->wk nx n s i v=false:=by
 obtain⟨i,hi,h1⟩:=Ca hs hv hk
 obtain⟨j,hj,h2,h3⟩:=lX (p:=fun k=>wk nx n s k v) i h1
 have hjk:j<=k:=by
  by_cases h:j<=k
  ·exact h
  ·have:=h3 k (by omega);rw [hk] at this;cases this
 refine⟨j,hjk,by omega,?_,h2,h3⟩
 unfold ay
 rw [vj (p:=fun k=>wk nx n s k v) (by omega:j<n) h2 h3]
theorem em {nx:Nat->List Int} {n s v:Nat} (hs:s<n) (hv:v<n):(ay nx n s v = -1/\∀ k,wk nx n s k v=false)\/∃ j:Nat,j<n/\ay nx n s v=j/\wk nx n s j v=true/\∀ i,i<j->wk nx n s i v=false:=by
 by_cases h:∃ k,wk nx n s k v=true
 ·obtain⟨k,hk⟩:=h
  obtain⟨j,_,h1,h2,h3,h4⟩:=kP hs hv hk
  exact Or.inr ⟨j,h1,h2,h3,h4⟩
 ·have h':∀ k,wk nx n s k v=false:=fun k=>by
   cases h2:wk nx n s k v with
   | false=>rfl
   | true=>exact absurd ⟨k,h2⟩ h
  refine .inl ⟨?_,h'⟩
  unfold ay
  rw [List.find?_eq_none.2 (fun x _=>by simp [h' x])]
theorem iH (nx:Nat->List Int) (n s:Nat) (hs:s<n):P9 nx n s (ay nx n s):=by
 refine⟨fun v hv=>?_,fun v hv=>?_,fun u v hu hv hm h0=>?_,fun v hv h0=>?_⟩
 ·rcases em (nx:=nx) hs hv with ⟨h,_⟩ | ⟨j,_,h,_⟩ <;> omega
 ·constructor
  ·intro h
   rcases em (nx:=nx) hs hv with ⟨h1,_⟩ | ⟨j,_,h1,h2,_⟩
   ·omega
   ·have:j=0:=by omega
    subst this
    simpa [wk] using h2
  ·rintro rfl
   obtain⟨j,hj,_,h1,_⟩:=kP (nx:=nx) (k:=0) hs hv (by simp [wk])
   omega
 ·rcases em (nx:=nx) hs hu with ⟨h1,_⟩ | ⟨j,_,h1,h2,_⟩
  ·omega
  ·obtain⟨i,hi,_,h3,_⟩:=kP hs hv (di.2 ⟨u,hu,h2,hm⟩)
   omega
 ·rcases em (nx:=nx) hs hv with ⟨h1,_⟩ | ⟨j,_,h1,h2,h3⟩
  ·omega
  ·obtain⟨k,rfl⟩:∃ k,j=k+1:=⟨j - 1,by omega⟩
   obtain⟨u,hu,h4,h5⟩:=di.1 h2
   refine⟨u,hu,?_,h5⟩
   obtain⟨i,hi,_,h6,h7,_⟩:=kP hs hu h4
   have:i=k:=by
    by_cases h:i=k
    ·exact h
    ·have:=h3 (i+1) (by omega)
     rw [di.2 ⟨u,hu,h7,h5⟩] at this;cases this
   omega
theorem km {nx:Nat->List Int} {n s v:Nat} (hs:s<n) (hv:v<n):ay nx n s v<n:=by
 rcases em (nx:=nx) hs hv with ⟨h,_⟩ | ⟨j,hj,h,_⟩ <;> omega
section
open Go Go.RowKit
def Aw (X:List Int) (x:Int × Int):List Int :=
 if 0<=ae X x.1.toNat/\(ae X x.2.toNat<0\/ae X x.1.toNat+1<ae X x.2.toNat) then X.set x.2.toNat (ae X x.1.toNat+1) else X
def uT (l:List (Int × Int)) (X:List Int):List Int:=l.foldl Aw X
def rH (l:List (Int × Int)) (X:List Int):Nat->List Int
 | 0=>X
 | t+1=>uT l (rH l X t)
theorem sN {l:List (Int × Int)} {X:List Int} {i:Nat} (h:i<l.length):uT (l.take (i+1)) X=Aw (uT (l.take i) X) (ae l i):=by
 unfold uT;rw [ak l i h,List.foldl_append];rfl
theorem iK (X:List Int) (i j:Nat) (a:Int) (hi:i<X.length):ae (X.set i a) j=if j=i then a else ae X j:=by
 unfold ae
 rw [List.getD_eq_getElem?_getD,List.getD_eq_getElem?_getD,List.getElem?_set]
 by_cases h:i=j
 ·subst h;simp [hi]
 ·rw [if_neg h,if_neg (fun e=>h e.symm)]
section
variable {nx:Nat->List Int} {n s:Nat} (hs:s<n) {l:List (Int × Int)}
 (hr:∀ x∈l,0<=x.1/\x.1<n/\0<=x.2/\x.2<n) (hl:∀ u v:Nat,u<n->v<n->(((u:Int),(v:Int))∈l↔(v:Int)∈nx u))
def Dx (nx:Nat->List Int) (n s:Nat) (X:List Int):Prop:=X.length=n/\∀ v,v<n->ae X v = -1\/(0<=ay nx n s v/\ay nx n s v<=ae X v)
include hs hr hl in
theorem CI {X:List Int} (h:Dx nx n s X) {x:Int × Int} (hx:x∈l):Dx nx n s (Aw X x)/\(∀ v,v<n->0<=ay nx n s v->ae X v=ay nx n s v->ae (Aw X x) v=ay nx n s v) /\
  (0<=ay nx n s x.1.toNat->ae X x.1.toNat=ay nx n s x.1.toNat->ay nx n s x.2.toNat=ay nx n s x.1.toNat+1->ae (Aw X x) x.2.toNat=ay nx n s x.2.toNat):=by
 obtain⟨h1,h2,h3,h4⟩:=hr x hx
 have hm:((x.2.toNat:Nat):Int)∈nx x.1.toNat:=by
  rw [<- hl x.1.toNat x.2.toNat (by omega) (by omega)]
  rw [Int.toNat_of_nonneg h1,Int.toNat_of_nonneg h3];exact hx
 have hn:=(iH nx n s hs).next x.1.toNat x.2.toNat (by omega) (by omega) hm
 have hlo:=h.2 x.1.toNat (by omega)
 have hlo2:=h.2 x.2.toNat (by omega)
 generalize hu:x.1.toNat=u at *
 generalize hw:x.2.toNat=w at *
 have hwn:w<X.length:=by have:=h.1;omega
 unfold Aw
 rw [hu,hw]
 by_cases hc:0<=ae X u/\(ae X w<0\/ae X u+1<ae X w)
 ·rw [if_pos hc]
  have hle:0<=ay nx n s w/\ay nx n s w<=ae X u+1:=by omega
  refine⟨⟨by rw [List.length_set];exact h.1,fun v hv=>?_⟩,fun v hv h0 he=>?_,fun h0 he he2=>?_⟩
  ·rw [iK _ _ _ _ hwn]
   split
   ·rename_i e;subst e;exact .inr hle
   ·exact h.2 v hv
  ·rw [iK _ _ _ _ hwn]
   split
   ·rename_i e;subst e;omega
   ·exact he
  ·rw [iK _ _ _ _ hwn,if_pos rfl];omega
 ·rw [if_neg hc]
  refine⟨h,fun v hv h0 he=>he,fun h0 he he2=>?_⟩
  omega
include hs hr hl in
theorem wC:∀ (k:List (Int × Int)) (X:List Int),(∀ x∈k,x∈l)->Dx nx n s X->Dx nx n s (uT k X)/\(∀ v,v<n->0<=ay nx n s v->ae X v=ay nx n s v->ae (uT k X) v=ay nx n s v) /\
  (∀ x∈k,0<=ay nx n s x.1.toNat->ae X x.1.toNat=ay nx n s x.1.toNat->ay nx n s x.2.toNat=ay nx n s x.1.toNat+1->ae (uT k X) x.2.toNat=ay nx n s x.2.toNat)
 | [],X,_,h=>⟨h,fun _ _ _ e=>e,fun _ hx=>nomatch hx⟩
 | a :: k,X,hk,h=>by
  obtain⟨h1,h2,h3⟩:=CI hs hr hl h (hk a (List.mem_cons_self ..))
  obtain⟨g1,g2,g3⟩:=wC k (Aw X a) (fun x hx=>hk x (List.mem_cons_of_mem _ hx)) h1
  refine⟨g1,fun v hv h0 he=>g2 v hv h0 (h2 v hv h0 he),fun x hx h0 he he2=>?_⟩
  obtain⟨r1,r2,r3,r4⟩:=hr x (hk x hx)
  rcases List.mem_cons.1 hx with rfl | hx
  ·exact g2 _ (by omega) (by omega) (h3 h0 he he2)
  ·exact g3 x hx h0 (h2 _ (by omega) h0 he) he2
include hs hr hl in
theorem sM {X:List Int} (h:Dx nx n s X) (h0:ae X s=0):∀ t,Dx nx n s (rH l X t)/\∀ v,v<n->0<=ay nx n s v->ay nx n s v<=t->ae (rH l X t) v=ay nx n s v
 | 0=>⟨h,fun v hv h1 h2=>by
  have h3:ay nx n s v=0:=by omega
  have:=((iH nx n s hs).zero v hv).1 h3
  subst this
  rw [h3];exact h0⟩
 | t+1=>by
  obtain⟨h1,h2⟩:=sM h h0 t
  obtain⟨g1,g2,g3⟩:=wC hs hr hl l (rH l X t) (fun _ hx=>hx) h1
  refine⟨g1,fun v hv h3 h4=>?_⟩
  by_cases h5:ay nx n s v<=t
  ·exact g2 v hv h3 (h2 v hv h3 h5)
  ·obtain⟨u,hu,h6,h7⟩:=(iH nx n s hs).pred v hv (by omega)
   have h8:=g3 ((u:Int),(v:Int)) ((hl u v hu hv).2 h7)
   simp only [Int.toNat_natCast] at h8
   exact h8 (by omega) (h2 u hu (by omega) (by omega)) (by omega)
include hs hr hl in
theorem CJ {X:List Int} (h:Dx nx n s X) (h0:ae X s=0):rH l X n=(List.range n).map fun v=>ay nx n s v:=by
 obtain⟨h1,h2⟩:=sM hs hr hl h h0 n
 apply List.ext_getElem
 ·rw [h1.1];simp
 ·intro v hv1 hv2
  have hv:v<n:=by simpa using hv2
  rw [<- ar hv1]
  simp only [List.getElem_map,List.getElem_range]
  rcases em (nx:=nx) hs hv with ⟨h3,h4⟩ | ⟨j,hj,h3,_⟩
  ·rcases h1.2 v hv with h5 | h5
   ·rw [h5,h3]
   ·omega
  ·exact h2 v hv (by omega) (by omega)
end
def kC (n s:Nat):List Int:=(List.replicate n (-1)).set s 0
theorem rG {n s:Nat} (hs:s<n) (v:Nat) (hv:v<n):ae (kC n s) v=if v=s then 0 else -1:=by
 unfold kC
 rw [iK _ _ _ _ (by simpa using hs)]
 split
 ·rfl
 ·rw [ar (by simpa using hv)];simp
theorem CH {nx:Nat->List Int} {n s:Nat} (hs:s<n):Dx nx n s (kC n s):=by
 refine⟨by simp [kC],fun v hv=>?_⟩
 rw [rG hs v hv]
 split
 ·rename_i e;subst e
  have:=((iH nx n v hs).zero v hv).2 rfl
  omega
 ·exact .inl rfl
theorem xP {X:List Int} {x:Int × Int} {B:Int} (_:-1<=B) (h:∀ v,-1<=ae X v/\ae X v<=B):∀ v,-1<=ae (Aw X x) v/\ae (Aw X x) v<=B+1:=by
 intro v
 unfold Aw
 have h1:=h v
 have h2:=h x.1.toNat
 split
 ·by_cases hw:x.2.toNat<X.length
  ·rw [iK _ _ _ _ hw]
   split <;> omega
  ·rw [List.set_eq_of_length_le (by omega)];omega
 ·omega
theorem wV {n v:Nat} (hv:v<n):(List.replicate v (-1:Int) ++ List.replicate (n - v) 0).set v (-1)=List.replicate (v+1) (-1) ++ List.replicate (n - (v+1)) 0:=by
 obtain⟨m,rfl⟩:∃ m,n=v+1+m:=⟨n - v - 1,by omega⟩
 rw [show v+1+m - v=m+1 by omega,show v+1+m - (v+1)=m by omega,List.replicate_succ (n:=m),List.replicate_succ' (n:=v)]
 rw [List.set_append_right _ _ (by simp)]
 simp
theorem rI {l:List (Int × Int)} {B:Int}:∀ i X,0<=B->(∀ v,-1<=ae X v/\ae X v<=B)->∀ v,-1<=ae (uT (l.take i) X) v/\ae (uT (l.take i) X) v<=B+i
 | 0,X,_,h=>fun v=>by have:=h v;simp [uT];omega
 | i+1,X,hB,h=>fun v=>by
  by_cases hi:i<l.length
  ·rw [sN hi]
   have:=xP (x:=ae l i) (B:=B+i) (by omega) (rI (l:=l) i X hB h) v
   omega
  ·have:=rI (l:=l) i X hB h v
   rw [List.take_of_length_le (by omega:l.length<=i+1)]
   rw [List.take_of_length_le (by omega:l.length<=i)] at this
   omega
theorem Ew (n s:Nat) (v:Nat):-1<=ae (kC n s) v/\ae (kC n s) v<=0:=by
 unfold kC
 by_cases h:s<n
 ·rw [iK _ _ _ _ (by simpa using h)]
  split
  ·omega
  ·by_cases hv:v<n
   ·rw [ar (by simpa using hv)];simp
   ·unfold ae;simp [hv]
 ·rw [List.set_eq_of_length_le (by simp;omega)]
  by_cases hv:v<n
  ·rw [ar (by simpa using hv)];simp
  ·unfold ae;simp [hv]
theorem Ay {l:List (Int × Int)} {n s:Nat}:∀ t v,-1<=ae (rH l (kC n s) t) v/\ae (rH l (kC n s) t) v<=(t*l.length:Nat)
 | 0,v=>by have:=Ew n s v;simp [rH];omega
 | t+1,v=>by
  have:=rI (l:=l) l.length (rH l (kC n s) t) (by omega) (Ay t) v
  rw [List.take_length] at this
  rw [rH,Nat.add_mul,Nat.one_mul]
  omega
end
section
open Go Go.RowKit
theorem gS {nx:Nat->List Int} {n s v:Nat}:wk nx n s 0 v=true↔v=s:=by simp [wk]
theorem o8 {nx:Nat->List Int} {n s:Nat} (hs:s<n):∀ {k v:Nat},v<n->(wk nx n s (k+1) v=true↔∃ u,u<n/\(u:Int)∈nx s/\wk nx n u k v=true)
 | 0,v,hv=>by
  rw [di]
  constructor
  ·rintro⟨u,hu,h1,h2⟩
   have:=gS.1 h1;subst this
   exact⟨v,hv,h2,gS.2 rfl⟩
  ·rintro⟨u,hu,h1,h2⟩
   have:=gS.1 h2;subst this
   exact⟨s,hs,gS.2 rfl,h1⟩
 | k+1,v,hv=>by
  rw [di]
  constructor
  ·rintro⟨u,hu,h1,h2⟩
   obtain⟨x,hx,h3,h4⟩:=(o8 hs hu).1 h1
   exact⟨x,hx,h3,di.2 ⟨u,hu,h4,h2⟩⟩
  ·rintro⟨x,hx,h3,h4⟩
   obtain⟨u,hu,h5,h6⟩:=di.1 h4
   exact⟨u,hu,(o8 hs hu).2 ⟨x,hx,h3,h5⟩,h6⟩
theorem pd {nx:Nat->List Int} {n s v:Nat} {a:Nat} (h1:wk nx n s a v=true):∀ b t,t<n->wk nx n v b t=true->wk nx n s (a+b) t=true
 | 0,t,_,h2=>by have:=gS.1 h2;subst this;exact h1
 | b+1,t,_,h2=>by
  obtain⟨u,hu,h3,h4⟩:=di.1 h2
  exact di.2 ⟨u,hu,pd h1 b u hu h3,h4⟩
theorem pc {nx:Nat->List Int} {n s:Nat} {a:Nat}:∀ b t,t<n->wk nx n s (a+b) t=true->∃ v,v<n/\wk nx n s a v=true/\wk nx n v b t=true
 | 0,t,ht,h=>⟨t,ht,h,gS.2 rfl⟩
 | b+1,t,ht,h=>by
  obtain⟨u,hu,h1,h2⟩:=di.1 h
  obtain⟨v,hv,h3,h4⟩:=pc b u hu h1
  exact⟨v,hv,h3,di.2 ⟨u,hu,h4,h2⟩⟩
def Ab (nx nb:Nat->List Int) (n:Nat):Prop:=∀ u v:Nat,u<n->v<n->((v:Int)∈nx u↔(u:Int)∈nb v)
theorem o9 {nx nb:Nat->List Int} {n:Nat} (h:Ab nx nb n):∀ k s v,s<n->v<n->(wk nx n s k v=true↔wk nb n v k s=true)
 | 0,s,v,_,_=>by rw [gS,gS];exact⟨fun e=>e.symm,fun e=>e.symm⟩
 | k+1,s,v,hs,hv=>by
  rw [di,o8 hv hs]
  constructor
  ·rintro⟨u,hu,h1,h2⟩
   exact⟨u,hu,(h u v hu hv).1 h2,(o9 h k s u hs hu).1 h1⟩
  ·rintro⟨u,hu,h1,h2⟩
   exact⟨u,hu,(o9 h k s u hs hu).2 h2,(h u v hu hv).2 h1⟩
theorem C3 {nx nb:Nat->List Int} {n s t:Nat} (h:Ab nx nb n) (hs:s<n) (ht:t<n):ay nx n s t=ay nb n t s:=by
 have e:∀ k,wk nx n s k t=wk nb n t k s:=fun k=>by rw [Bool.eq_iff_iff];exact o9 h k s t hs ht
 unfold ay
 rw [show (fun k=>wk nx n s k t)=fun k=>wk nb n t k s from funext e]
theorem ou {nx:Nat->List Int} {n s v:Nat} (hs:s<n) (hv:v<n) (h:0<=ay nx n s v):wk nx n s (ay nx n s v).toNat v=true:=by
 rcases em (nx:=nx) hs hv with ⟨h1,_⟩ | ⟨j,_,h1,h2,_⟩
 ·omega
 ·rw [h1];exact h2
theorem ot {nx:Nat->List Int} {n s v k:Nat} (hs:s<n) (hv:v<n) (h:wk nx n s k v=true):0<=ay nx n s v/\ay nx n s v<=k:=by
 obtain⟨j,h1,_,h2,_⟩:=kP hs hv h;omega
section
variable {nx nb:Nat->List Int} {n s t:Nat} (h:Ab nx nb n) (hs:s<n) (ht:t<n)
include h hs ht in
theorem kO {v:Nat} (hv:v<n) (h1:0<=ay nx n s v) (h2:0<=ay nb n t v):0<=ay nx n s t/\ay nx n s t<=ay nx n s v+ay nb n t v:=by
 have g1:=ou hs hv h1
 have g2:=(o9 h _ v t hv ht).2 (ou ht hv h2)
 have g3:=ot hs ht (pd g1 _ t ht g2)
 omega
include h hs ht in
theorem gK {j:Nat} (h0:0<=ay nx n s t) (hj:j<=ay nx n s t):∃ v,v<n/\ay nx n s v=j/\ay nb n t v=ay nx n s t - j:=by
 have g:=ou hs ht h0
 rw [show (ay nx n s t).toNat=j+((ay nx n s t).toNat - j) by omega] at g
 obtain⟨v,hv,g1,g2⟩:=pc _ t ht g
 have g3:=ot hs hv g1
 have g4:=ot ht hv ((o9 h _ v t hv ht).1 g2)
 have g5:=kO h hs ht hv g3.1 g4.1
 exact⟨v,hv,by omega,by omega⟩
end
def sn (f:Nat->Int) (k:Int) (v:Nat):Int:=if 0<=f v/\f v<=k then f v else -1
theorem lL {f:Nat->Int} {k:Int} {v:Nat}:0<=sn f k v↔0<=f v/\f v<=k:=by unfold sn;split <;> omega
theorem AM {f:Nat->Int} {k:Int} {v:Nat} (h:0<=sn f k v):sn f k v=f v:=by unfold sn at *;split at h <;> simp_all
def eW (n:Nat) (f g:Nat->Int) (k:Int):Bool:=(List.range n).any fun v=>decide (0<=f v) && decide (f v<=k) && decide (0<=g v) && decide (g v<=k)
theorem fL {n:Nat} {f g:Nat->Int} {k:Int}:eW n f g k=true↔∃ v,v<n/\0<=f v/\f v<=k/\0<=g v/\g v<=k:=by
 simp [eW,and_assoc]
def gy (n:Nat) (f:Nat->Int) (k:Int):Bool:=(List.range n).any fun v=>f v == k
theorem dt {n:Nat} {f:Nat->Int} {k:Int}:gy n f k=true↔∃ v,v<n/\f v=k:=by
 simp [gy]
section
variable {nx nb:Nat->List Int} {n s t:Nat} (h:Ab nx nb n) (hs:s<n) (ht:t<n)
include h hs ht in
theorem ig {k:Nat}:eW n (ay nx n s) (ay nb n t) k=true↔0<=ay nx n s t/\ay nx n s t<=2*(k:Int):=by
 rw [fL]
 constructor
 ·rintro⟨v,hv,h1,h2,h3,h4⟩
  have:=kO h hs ht hv h1 h3;omega
 ·rintro⟨h1,h2⟩
  by_cases h3:ay nx n s t<=k
  ·obtain⟨v,hv,g1,g2⟩:=gK h hs ht (j:=(ay nx n s t).toNat) h1 (by omega)
   exact⟨v,hv,by omega,by omega,by omega,by omega⟩
  ·obtain⟨v,hv,g1,g2⟩:=gK h hs ht (j:=k) h1 (by omega)
   exact⟨v,hv,by omega,by omega,by omega,by omega⟩
include hs in
theorem lW {k j:Nat} (hj:j<=k) (hk:gy n (ay nx n s) k=true):gy n (ay nx n s) j=true:=by
 obtain⟨v,hv,h1⟩:=dt.1 hk
 have g:=ou (nx:=nx) hs hv (by omega)
 rw [h1,Int.toNat_natCast,show k=j+(k - j) by omega] at g
 obtain⟨u,hu,g1,g2⟩:=pc _ v hv g
 have g3:=ot hs hu g1
 have g4:=ou (nx:=nx) hs hu g3.1
 have g5:=ot hs hv (pd g4 _ v hv g2)
 exact dt.2 ⟨u,hu,by omega⟩
include hs in
theorem vy {k:Nat} (hk:gy n (ay nx n s) k=true):k<n:=by
 obtain⟨v,hv,h1⟩:=dt.1 hk
 have:=km (nx:=nx) hs hv;omega
include hs in
end
def gc (n:Nat) (f g:Nat->Int):Nat->Nat->Nat
 | 0,k=>k
 | m+1,k=>if eW n f g k=true then k else if gy n f (k+1)=true/\gy n g (k+1)=true then gc n f g m (k+1) else k
def oW (n:Nat) (f g:Nat->Int):Nat:=gc n f g (n+1) 0
end
theorem qS {α:Type} [DecidableEq α]:∀ {l m:List α},l.Nodup->(∀ x∈l,x∈m)->l.length<=m.length
 | [],_,_,_=>by simp
 | a :: l,m,h,hm=>by
  obtain⟨h1,h2⟩:=List.nodup_cons.1 h
  have ha:=hm a (by simp)
  have ih:=qS (m:=m.erase a) h2 fun x hx=>(List.mem_erase_of_ne (fun e=>h1 (by rw [<- e];exact hx))).2 (hm x (by simp [hx]))
  rw [List.length_erase_of_mem ha] at ih
  have:=List.length_pos_of_mem ha
  rw [List.length_cons];omega
def xH (X:List Int) (l:List Int) (w:Int):List Int:=if ae X w.toNat<0/\w ∉ l then l ++ [w] else l
def mP (X:List Int) (m:List Int) (l:List Int):List Int:=m.foldl (xH X) l
def lJ (nx:Nat->List Int) (X:List Int) (F:List Int) (l:List Int):List Int:=F.foldl (fun l v=>mP X (nx v.toNat) l) l
theorem kA {X m l:List Int} {j:Nat} (h:j<m.length):mP X (m.take (j+1)) l=xH X (mP X (m.take j) l) (ae m j):=by
 unfold mP;rw [ak m j h,List.foldl_append];rfl
theorem kw {nx:Nat->List Int} {X F l:List Int} {j:Nat} (h:j<F.length):lJ nx X (F.take (j+1)) l=mP X (nx (ae F j).toNat) (lJ nx X (F.take j) l):=by
 unfold lJ;rw [ak F j h,List.foldl_append];rfl
theorem CE {X l:List Int} {w x:Int}:x∈xH X l w↔x∈l\/(x=w/\ae X w.toNat<0):=by
 unfold xH
 split
 ·rename_i h
  rw [List.mem_append,List.mem_singleton]
  constructor
  ·rintro(h1 | h1)
   ·exact .inl h1
   ·exact .inr ⟨h1,h.1⟩
  ·rintro(h1 | h1)
   ·exact .inl h1
   ·exact .inr h1.1
 ·rename_i h
  constructor
  ·exact .inl
  ·rintro(h1 | ⟨h1,h2⟩)
   ·exact h1
   ·subst h1
    by_cases h3:x∈l
    ·exact h3
    ·exact absurd ⟨h2,h3⟩ h
theorem jD {X:List Int} {x:Int}:∀ {m l:List Int},x∈mP X m l↔x∈l\/(x∈m/\ae X x.toNat<0)
 | [],l=>by simp [mP]
 | a :: m,l=>by
  have:=jD (X:=X) (x:=x) (m:=m) (l:=xH X l a)
  unfold mP at *
  rw [List.foldl_cons,this,CE,List.mem_cons]
  constructor
  ·rintro((h | ⟨rfl,h⟩) | h)
   ·exact .inl h
   ·exact .inr ⟨.inl rfl,h⟩
   ·exact .inr ⟨.inr h.1,h.2⟩
  ·rintro(h | ⟨rfl | h,h2⟩)
   ·exact .inl (.inl h)
   ·exact .inl (.inr ⟨rfl,h2⟩)
   ·exact .inr ⟨h,h2⟩
theorem gD {nx:Nat->List Int} {X:List Int} {x:Int}:∀ {F l:List Int},x∈lJ nx X F l↔x∈l\/(∃ v∈F,x∈nx v.toNat/\ae X x.toNat<0)
 | [],l=>by simp [lJ]
 | a :: F,l=>by
  have:=gD (nx:=nx) (X:=X) (x:=x) (F:=F) (l:=mP X (nx a.toNat) l)
  unfold lJ at *
  rw [List.foldl_cons,this,jD]
  constructor
  ·rintro((h | h) | ⟨v,h1,h2⟩)
   ·exact .inl h
   ·exact .inr ⟨a,List.mem_cons_self ..,h⟩
   ·exact .inr ⟨v,List.mem_cons_of_mem _ h1,h2⟩
  ·rintro(h | ⟨v,h1,h2⟩)
   ·exact .inl (.inl h)
   ·rcases List.mem_cons.1 h1 with rfl | h1
    ·exact .inl (.inr h2)
    ·exact .inr ⟨v,h1,h2⟩
theorem xI {X l:List Int} {w:Int} (h:l.Nodup):(xH X l w).Nodup:=by
 unfold xH
 split
 ·rename_i h1
  rw [List.nodup_append]
  exact⟨h,by simp,fun a ha b hb e=>by rw [List.mem_singleton] at hb;subst hb;subst e;exact h1.2 ha⟩
 ·exact h
theorem fC {X:List Int}:∀ {m l:List Int},l.Nodup->(mP X m l).Nodup
 | [],_,h=>h
 | a :: m,l,h=>by
  have:=fC (X:=X) (m:=m) (xI (X:=X) (w:=a) h)
  unfold mP at *
  exact this
theorem ed {nx:Nat->List Int} {X:List Int}:∀ {F l:List Int},l.Nodup->(lJ nx X F l).Nodup
 | [],_,h=>h
 | a :: F,l,h=>by
  have:=ed (nx:=nx) (X:=X) (F:=F) (fC (X:=X) (m:=nx a.toNat) h)
  unfold lJ at *
  exact this
theorem bo {l:List Int} {n:Nat} (h:l.Nodup) (hb:∀ x∈l,0<=x/\x<n):l.length<=n:=by
 have:=qS (m:=(List.range n).map fun v:Nat=>(v:Int)) h fun x hx=>by
  obtain⟨h1,h2⟩:=hb x hx
  rw [List.mem_map]
  exact⟨x.toNat,List.mem_range.2 (by omega),by omega⟩
 simpa using this
def cF (f:Nat->Int) (n:Nat) (k:Int) (F:List Int):Prop:=F.Nodup/\∀ x,x∈F↔0<=x/\x<n/\f x.toNat=k
def xy (nx:Nat->List Int) (n:Nat):Prop:=∀ u,u<n->∀ x∈nx u,0<=x/\x<n
theorem iC {nx:Nat->List Int} {n s:Nat} (hs:s<n) (hin:xy nx n) {k:Nat} {F X:List Int} (hF:cF (ay nx n s) n k F)
  (hX:∀ v,v<n->(ae X v<0↔¬ (0<=ay nx n s v/\ay nx n s v<=k))):cF (ay nx n s) n (k+1:Nat) (lJ nx X F []):=by
 refine⟨ed List.nodup_nil,fun x=>?_⟩
 rw [gD]
 have L:=iH nx n s hs
 constructor
 ·rintro(h | ⟨v,h1,h2,h3⟩)
  ·cases h
  ·obtain⟨g1,g2,g3⟩:=(hF.2 v).1 h1
   obtain⟨g4,g5⟩:=hin v.toNat (by omega) x h2
   have g6:=(hX x.toNat (by omega)).1 h3
   have g7:=L.next v.toNat x.toNat (by omega) (by omega) (by rw [Int.toNat_of_nonneg g4];exact h2) (by omega)
   exact⟨g4,g5,by omega⟩
 ·rintro⟨h1,h2,h3⟩
  obtain⟨u,hu,g1,g2⟩:=L.pred x.toNat (by omega) (by omega)
  rw [Int.toNat_of_nonneg h1] at g2
  refine .inr ⟨(u:Int),(hF.2 u).2 ⟨by omega,by omega,by rw [Int.toNat_natCast];omega⟩,by rw [Int.toNat_natCast];exact g2,(hX x.toNat (by omega)).2 (by omega)⟩
theorem mY {nx:Nat->List Int} {n s:Nat} (hs:s<n):cF (ay nx n s) n 0 [(s:Int)]:=by
 refine⟨by simp,fun x=>?_⟩
 rw [List.mem_singleton]
 have L:=iH nx n s hs
 constructor
 ·rintro rfl
  exact⟨by omega,by omega,by rw [Int.toNat_natCast];exact(L.zero s hs).2 rfl⟩
 ·rintro⟨h1,h2,h3⟩
  have:=(L.zero x.toNat (by omega)).1 h3
  omega
def bh (f:Nat->Int) (n:Nat) (k:Int):List Int:=(List.range n).map fun v=>sn f k v
theorem fO (f:Nat->Int) (n:Nat) (k:Int):(bh f n k).length=n:=by simp [bh]
theorem bw {f:Nat->Int} {n:Nat} {k:Int} {v:Nat} (hv:v<n):ae (bh f n k) v=sn f k v:=by
 rw [ar (by rw [fO];exact hv)];simp [bh]
def ut (c:Int) (m:List Int) (X:List Int):List Int:=m.foldl (fun X w=>X.set w.toNat c) X
theorem o6 {c:Int} {X m:List Int} {j:Nat} (h:j<m.length):ut c (m.take (j+1)) X=(ut c (m.take j) X).set (ae m j).toNat c:=by
 unfold ut;rw [ak m j h,List.foldl_append];rfl
theorem sg {c:Int}:∀ {m X:List Int},(ut c m X).length=X.length
 | [],X=>rfl
 | a :: m,X=>by
  have:=sg (c:=c) (m:=m) (X:=X.set a.toNat c)
  unfold ut at *
  rw [List.foldl_cons,this,List.length_set]
theorem ni {c:Int} {v:Nat}:∀ {m X:List Int},(∀ x∈m,0<=x/\x<X.length)->ae (ut c m X) v=if (v:Int)∈m then c else ae X v
 | [],X,_=>by simp [ut]
 | a :: m,X,h=>by
  have h0:=h a (List.mem_cons_self ..)
  have:=ni (c:=c) (v:=v) (m:=m) (X:=X.set a.toNat c) (fun x hx=>by rw [List.length_set];exact h x (List.mem_cons_of_mem _ hx))
  unfold ut at *
  rw [List.foldl_cons,this,iK _ _ _ _ (by omega)]
  simp only [List.mem_cons]
  by_cases h1:(v:Int)∈m
  ·simp [h1]
  ·by_cases h2:v=a.toNat
   ·rw [if_neg h1,if_pos h2,if_pos (.inl (by omega))]
   ·rw [if_neg h1,if_neg h2,if_neg]
    rintro(h3 | h3)
    ·omega
    ·exact h1 h3
theorem us {f:Nat->Int} {n:Nat} {k:Nat} {m:List Int} (hm:cF f n (k+1:Nat) m):ut ((k:Int)+1) m (bh f n k)=bh f n (k+1:Nat):=by
 apply List.ext_getElem
 ·rw [sg,fO,fO]
 ·intro v h1 h2
  have hv:v<n:=by rw [fO] at h2;exact h2
  rw [<- ar h1,<- ar h2,bw hv,ni (fun x hx=>by have:=(hm.2 x).1 hx;rw [fO];omega),bw hv]
  have h3:=hm.2 (v:Int)
  rw [Int.toNat_natCast] at h3
  unfold sn
  by_cases h4:(v:Int)∈m
  ·have:=h3.1 h4
   rw [if_pos h4,if_pos (by omega)];omega
  ·have:¬ f v=((k+1:Nat):Int):=fun e=>h4 (h3.2 ⟨by omega,by omega,e⟩)
   rw [if_neg h4]
   by_cases h5:0<=f v/\f v<=k
   ·rw [if_pos h5,if_pos (by omega)]
   ·rw [if_neg h5,if_neg (by omega)]
theorem DF {nx:Nat->List Int} {n s:Nat} (hs:s<n):bh (ay nx n s) n 0=kC n s:=by
 apply List.ext_getElem
 ·rw [fO];simp [kC]
 ·intro v h1 h2
  have hv:v<n:=by rw [fO] at h1;exact h1
  rw [<- ar h1,<- ar h2,bw hv,rG hs v hv]
  have L:=(iH nx n s hs).zero v hv
  unfold sn
  by_cases h:v=s
  ·rw [if_pos h,if_pos (by have:=L.2 h;omega)];exact L.2 h
  ·have:¬ ay nx n s v=0:=fun e=>h (L.1 e)
   rw [if_neg h,if_neg (by omega)]
theorem rN {f:Nat->Int} {k:Int} {v:Nat}:sn f k v<0↔¬ (0<=f v/\f v<=k):=by
 have:=lL (f:=f) (k:=k) (v:=v);omega
section
open Go Go.RowKit
def wB (X Y:List Int) (s:Int × Bool) (v:Nat):Int × Bool:=if 0<=ae X v/\0<=ae Y v/\(s.2=false\/ae X v+ae Y v<s.1) then (ae X v+ae Y v,true) else s
def eQ (X Y:List Int) (k:Nat):Int × Bool:=(List.range k).foldl (wB X Y) (0,false)
theorem nD (X Y:List Int) (k:Nat):eQ X Y (k+1)=wB X Y (eQ X Y k) k:=by
 unfold eQ;rw [List.range_succ,List.foldl_append];rfl
theorem sK (X Y:List Int):∀ k,((eQ X Y k).2=false->(eQ X Y k).1=0/\∀ v,v<k->¬ (0<=ae X v/\0<=ae Y v)) /\
  ((eQ X Y k).2=true->(∃ v,v<k/\0<=ae X v/\0<=ae Y v/\(eQ X Y k).1=ae X v+ae Y v)/\∀ v,v<k->0<=ae X v->0<=ae Y v->(eQ X Y k).1<=ae X v+ae Y v)
 | 0=>⟨fun _=>⟨rfl,fun v hv=>by omega⟩,fun h=>by cases h⟩
 | k+1=>by
  obtain⟨h1,h2⟩:=sK X Y k
  rw [nD]
  generalize eQ X Y k=s at *
  obtain⟨m,b⟩:=s
  unfold wB
  by_cases hc:0<=ae X k/\0<=ae Y k/\(b=false\/ae X k+ae Y k<m)
  ·rw [if_pos hc]
   refine⟨fun h=>by(simp at h),fun _=>⟨⟨k,by omega,hc.1,hc.2.1,rfl⟩,fun v hv g1 g2=>?_⟩⟩
   by_cases hv':v=k
   ·subst hv';exact Int.le_refl _
   ·cases b with
    | false=>exact absurd ⟨g1,g2⟩ ((h1 rfl).2 v (by omega))
    | true =>
     have:=(h2 rfl).2 v (by omega) g1 g2
     rcases hc.2.2 with h | h
     ·cases h
     ·simp only at this ⊢;omega
  ·rw [if_neg hc]
   cases b with
   | false =>
    refine⟨fun _=>⟨(h1 rfl).1,fun v hv g=>?_⟩,fun h=>by cases h⟩
    by_cases hv':v=k
    ·subst hv';exact hc ⟨g.1,g.2,.inl rfl⟩
    ·exact(h1 rfl).2 v (by omega) g
   | true =>
    refine⟨fun h=>(by cases h),fun _=>⟨?_,fun v hv g1 g2=>?_⟩⟩
    ·obtain⟨v,hv,g⟩:=(h2 rfl).1
     exact⟨v,by omega,g⟩
    ·by_cases hv':v=k
     ·subst hv'
      apply Classical.byContradiction
      intro hlt
      exact hc ⟨g1,g2,.inr (by simp only at hlt ⊢;omega)⟩
     ·exact(h2 rfl).2 v (by omega) g1 g2
section
variable {nx nb:Nat->List Int} {n s t:Nat} (h:Ab nx nb n) (hs:s<n) (ht:t<n)
include h hs ht in
theorem Au {k:Nat} (_:0<=ay nx n s t->2*(k:Int)<=ay nx n s t+1) :
  (eW n (ay nx n s) (ay nb n t) k=true->eQ (bh (ay nx n s) n k) (bh (ay nb n t) n k) n=(ay nx n s t,true)) /\
  (eW n (ay nx n s) (ay nb n t) k=false->eQ (bh (ay nx n s) n k) (bh (ay nb n t) n k) n=(0,false)):=by
 obtain⟨h1,h2⟩:=sK (bh (ay nx n s) n k) (bh (ay nb n t) n k) n
 generalize hb:eQ (bh (ay nx n s) n k) (bh (ay nb n t) n k) n=b at *
 obtain⟨m,o⟩:=b
 constructor
 ·intro hm
  obtain⟨g1,g2⟩:=(ig h hs ht).1 hm
  have hex:∃ v,v<n/\ay nx n s v<=k/\0<=ay nx n s v/\ay nb n t v<=k/\0<=ay nb n t v/\ay nx n s v+ay nb n t v=ay nx n s t:=by
   by_cases h3:ay nx n s t<=k
   ·obtain⟨v,hv,e1,e2⟩:=gK h hs ht (j:=(ay nx n s t).toNat) g1 (by omega)
    exact⟨v,hv,by omega,by omega,by omega,by omega,by omega⟩
   ·obtain⟨v,hv,e1,e2⟩:=gK h hs ht (j:=k) g1 (by omega)
    exact⟨v,hv,by omega,by omega,by omega,by omega,by omega⟩
  obtain⟨v,hv,e1,e2,e3,e4,e5⟩:=hex
  have c1:ae (bh (ay nx n s) n k) v=ay nx n s v:=by rw [bw hv];unfold sn;rw [if_pos ⟨e2,e1⟩]
  have c2:ae (bh (ay nb n t) n k) v=ay nb n t v:=by rw [bw hv];unfold sn;rw [if_pos ⟨e4,e3⟩]
  cases o with
  | false=>exact absurd ⟨by rw [c1];exact e2,by rw [c2];exact e4⟩ ((h1 rfl).2 v hv)
  | true =>
   obtain⟨⟨u,hu,f1,f2,f3⟩,f4⟩:=h2 rfl
   have f5:=f4 v hv (by rw [c1];exact e2) (by rw [c2];exact e4)
   rw [c1,c2] at f5
   rw [bw hu] at f1 f3
   rw [bw hu] at f2 f3
   have f6:=AM f1
   have f7:=AM f2
   have f8:=kO h hs ht hu (by rw [<- f6];exact f1) (by rw [<- f7];exact f2)
   simp only at f3 f5
   have:m=ay nx n s t:=by omega
   rw [this]
 ·intro hm
  cases o with
  | false=>rw [show m=0 from(h1 rfl).1]
  | true =>
   obtain⟨⟨u,hu,f1,f2,_⟩,_⟩:=h2 rfl
   rw [bw hu] at f1
   rw [bw hu] at f2
   have f3:=lL.1 f1
   have f4:=lL.1 f2
   rw [fL.2 ⟨u,hu,f3.1,f3.2,f4.1,f4.2⟩] at hm
   cases hm
theorem dF {f:Nat->Int} {k:Int} {F:List Int} (hF:cF f n k F):(gy n f k=true↔0<F.length):=by
 rw [dt]
 constructor
 ·rintro⟨v,hv,e⟩
  exact List.length_pos_of_mem ((hF.2 (v:Int)).2 ⟨by omega,by omega,by rw [Int.toNat_natCast];exact e⟩)
 ·intro h
  obtain⟨x,hx⟩:=List.exists_mem_of_length_pos h
  obtain⟨h1,h2,h3⟩:=(hF.2 x).1 hx
  exact⟨x.toNat,by omega,h3⟩
end
def ey (d:Int):Int:=if 0<=d then d else 0
def ei (d:Int):Bool:=decide (0<=d)
theorem ur {n m k:Nat} {f g:Nat->Int} (h:eW n f g k=true):gc n f g (m+1) k=k:=by unfold gc;rw [if_pos h]
theorem wc {n m k:Nat} {f g:Nat->Int} (h:eW n f g k=false) (h2:¬ (gy n f (k+1)=true/\gy n g (k+1)=true)):gc n f g (m+1) k=k:=by
 unfold gc;rw [if_neg (by rw [h];simp),if_neg h2]
theorem zs {n m k:Nat} {f g:Nat->Int} (h:eW n f g k=false) (h2:gy n f (k+1)=true/\gy n g (k+1)=true):gc n f g (m+1) k=gc n f g m (k+1):=by
 conv=>lhs;unfold gc
 rw [if_neg (by rw [h];simp),if_pos h2]
end
def tT (n:Nat) (E:List (Int × Int)):List Int:=(List.range (n+1)).map fun (j:Nat)=>((E.countP fun x=>decide (x.1<(j:Int))):Int)
def Ci (E:List (Int × Int)):List Int:=E.map (·.2)
def fN (n:Nat) (E:List (Int × Int)):List Int:=(List.range (n+1)).map fun (j:Nat)=>((E.countP fun x=>decide (x.1+1=(j:Int))):Int)
theorem AH (n:Nat) (E:List (Int × Int)):(fN n E).length=n+1:=by simp [fN]
theorem sY {n j:Nat} (E:List (Int × Int)) (h:j<n+1):ae (fN n E) j=((E.countP fun x=>decide (x.1+1=(j:Int))):Int):=by
 rw [ar (by rw [AH];exact h)]
 simp [fN]
theorem xZ {n:Nat} (E:List (Int × Int)) (x:Int × Int) {k:Nat} (hk:x.1=(k:Int)) (hn:k<n):fN n (E ++ [x])=(fN n E).set (k+1) (ae (fN n E) (k+1)+1):=by
 apply List.ext_getElem
 ·simp [fN]
 ·intro i h1 h2
  rw [List.getElem_set]
  by_cases e:k+1=i
  ·subst e
   rw [if_pos rfl,sY E (by omega)]
   simp [fN,List.countP_append,hk]
  ·rw [if_neg e]
   have:¬ ((k:Int)+1=(i:Int)):=by omega
   simp [fN,List.countP_append,hk,this]
def gd (n:Nat) (E:List (Int × Int)) (v:Nat):List Int:=(List.range (n+1)).map fun (j:Nat)=>if j<=v then ((E.countP fun x=>decide (x.1<(j:Int))):Int) else ((E.countP fun x=>decide (x.1+1=(j:Int))):Int)
theorem B5 (n:Nat) (E:List (Int × Int)) (v:Nat):(gd n E v).length=n+1:=by simp [gd]
theorem oY {n j v:Nat} (E:List (Int × Int)) (h:j<n+1):ae (gd n E v) j=if j<=v then ((E.countP fun x=>decide (x.1<(j:Int))):Int) else ((E.countP fun x=>decide (x.1+1=(j:Int))):Int):=by
 rw [ar (by rw [B5];exact h)]
 simp [gd]
theorem zu {n:Nat} {E:List (Int × Int)} (h:∀ x∈E,0<=x.1):gd n E 0=fN n E:=by
 apply List.ext_getElem
 ·simp [gd,fN]
 ·intro i h1 h2
  simp only [gd,fN,List.getElem_map,List.getElem_range]
  by_cases e:i<=0
  ·obtain rfl:i=0:=by omega
   rw [if_pos e]
   rw [List.countP_eq_zero.2 fun x hx=>by have:=h x hx;simp;omega,List.countP_eq_zero.2 fun x hx=>by have:=h x hx;simp;omega]
  ·rw [if_neg e]
theorem B4 (n:Nat) (E:List (Int × Int)):gd n E n=tT n E:=by
 apply List.ext_getElem
 ·simp [gd,tT]
 ·intro i h1 h2
  simp only [gd,tT,List.getElem_map,List.getElem_range]
  rw [if_pos (by simp [gd] at h1;omega)]
theorem vh (E:List (Int × Int)) (v:Nat):(E.countP fun x=>decide (x.1<((v+1:Nat):Int)))=(E.countP fun x=>decide (x.1+1=((v+1:Nat):Int)))+E.countP fun x=>decide (x.1<(v:Int)):=by
 induction E with
 | nil=>rfl
 | cons x E ih =>
  simp only [List.countP_cons]
  rw [ih]
  by_cases h1:x.1<(v:Int)
  ·have h2:x.1<((v+1:Nat):Int):=by omega
   have h3:¬ (x.1+1=((v+1:Nat):Int)):=by omega
   simp only [h1,h2,h3,decide_true,decide_false,if_true,Bool.false_eq_true,if_false];omega
  ·by_cases h2:x.1+1=((v+1:Nat):Int)
   ·have h3:x.1<((v+1:Nat):Int):=by omega
    simp only [h1,h2,h3,decide_true,decide_false,if_true,Bool.false_eq_true,if_false];omega
   ·have h3:¬ x.1<((v+1:Nat):Int):=by omega
    simp only [h1,h2,h3,decide_false,Bool.false_eq_true,if_false];omega
theorem zt {n:Nat} (E:List (Int × Int)) {v:Nat} (hv:v<n):gd n E (v+1)=(gd n E v).set (v+1) (ae (gd n E v) (v+1)+ae (gd n E v) v):=by
 apply List.ext_getElem
 ·simp [gd]
 ·intro i h1 h2
  rw [List.getElem_set]
  by_cases e:v+1=i
  ·subst e
   rw [if_pos rfl,oY E (by omega),oY E (by omega),if_neg (by omega),if_pos (Nat.le_refl _)]
   simp only [gd,List.getElem_map,List.getElem_range]
   rw [if_pos (Nat.le_refl _),vh]
   omega
  ·rw [if_neg e]
   simp only [gd,List.getElem_map,List.getElem_range]
   by_cases e2:i<=v
   ·rw [if_pos e2,if_pos (by omega)]
   ·rw [if_neg e2,if_neg (by omega)]
theorem lY {a b:Int × Int}:a8 a b=true↔a.1<b.1\/a.1=b.1/\a.2<b.2:=by unfold a8;simp
section
open Go Go.RowKit Go.Shelf Go.Lib
theorem dm (l:List Int) (k:Nat) (x:Int):(ab l).set k (.int .i64 x)=ab (l.set k x):=by simp [ab,List.map_set]
theorem fK (n:Nat):(madeCells (Value.int .i64 0).cells (n*1)).toList=ab (List.replicate n 0):=by
 apply List.ext_getElem
 ·simp [madeCells,ab]
 ·intro i h1 h2
  simp [madeCells,ab,Value.cells,Nat.mod_one]
theorem AI (n:Nat):fN n []=List.replicate (n+1) 0:=by
 apply List.ext_getElem
 ·simp [fN]
 ·intro i h1 h2
  simp [fN]
theorem Rd.oneIat (w:World) (t:TypeId) (a:Int) (b:Nat) (h:w.heap.size=b):Rd (w.alloc (.cells #[.int .i64 a] t)) 1 (some ⟨b,0,none⟩) 1 (ab [a]):=by subst h;exact Rd.oneI w t a
theorem aX {P:Program} {w0 w:World} {Γ:List Pc} {ops:Array Oper} {rest:List Oper} {o:Oper} {a:Act} {Q:Exit->Act->World->Prop}
  (hg:o.guard=none) (l c:Operand) (t:TypeId) (hop:o.op=Op.makeSlice t l c)
  (e:TypeId) (i:TypeInfo) (z:Value) (size:Nat) (h1:P.underlying t=some (.slice e)) (h2:P.info? e=some i) (h3:i.zero=some z) (h4:i.size=size)
  (L:Int) (n:Nat) (hl:a.eval l=.int .i64 L) (hc:a.eval c=.int .i64 L) (hL:L=(n:Int)) (b2:i.bytes*n<=281474976710656) (b3:n<=maxLen) (S:Ic w0 w Γ)
  (hK:∀ w',Ic w0 w' (.own e size (some ⟨w.heap.size,0,none⟩) n n (madeCells z.cells (n*size)).toList :: Γ)->wpList P ops Q rest (a.put o.dst (.slice (some ⟨w.heap.size,0,none⟩) n n)) w') :
  wpList P ops Q (o :: rest) a w :=
 wpList_make_full w hg l c t hop w.heap.size e i z size h1 h2 h3 h4 .i64 .i64 L L n hl hc hL hL b2 b3 (Nat.le_refl _) fun w' ho hgr =>
  hK w' (S.fresh ⟨hgr.os,hgr.tape,hgr.output,hgr.size,fun k hk=>hgr.block k hk (by simp)⟩ ho (Nat.le_refl _))
theorem DR (n:Nat) (p:Option Addr) (m c:Nat) (E:List (Int × Int)) (w:World) (hE:Rd w 2 p m (aj E)) (hn:n<=200) (hm:m<=2000) (hb:∀ x∈E,0<=x.1/\x.1<n) :
  Calls prog 107 #[.int .i64 n,.slice p m c] w fun e w'=>∃ qo co qt ct,e=.returned (.tuple #[.slice qo (n+1) co,.slice qt m ct])/\Ic w w' [.own 3 1 qt m ct (ab (Ci E)),.own 3 1 qo (n+1) co (ab (tT n E))]:=by
 obtain⟨i0,hi0,hz0,hz1,hz2⟩:=info_parts kg
 have p1:=hE.ptr
 have L1:=lh hE.nE
 have HB:=lh hb
 clear hb
 have HE:=lh hE;clear hE
 go_enter func107,ntmps107
 go_wp2_with (at_make;go_must (refine aX rfl _ _ _ rfl 3 i0 _ 1 underlying25 hi0 hz0 hz1 ((n:Int)+1) (n+1) rfl rfl (by omega) (by rw [hz2];omega) (by unfold maxLen;omega) (Ic.start w) ?_;intro w1 S';rw [fK,<- AI] at S';have S1:=lh S';clear S'))
 generalize hqo:(some ⟨w.heap.size,0,none⟩:Option Addr)=qo at *
 clear hqo
 go_loopw [5,7,14] (fun t _ i wr=>∃ (k:Nat) (q:Option Addr) (d:Nat),k<=m/\i=.int .i64 k/\t=.slice q k d/\Ic w wr [.own 3 1 q k d (ab (Ci (E.take k))),.own 3 1 qo (n+1) (n+1) (ab (fN n (E.take k)))]) (fun _ _ i _=>m - (intOf i).toNat)
 case atStart=>exact⟨0,none,0,Nat.zero_le _,rfl,rfl,S1.out.nilrow _ _⟩
 case round =>
  clear S1
  obtain⟨k,q,d,hk,rfl,rfl,S⟩:=hrel
  by_cases hlt:k<m
  ·have Q8:k<E.length:=by rw [<- L1.out];exact hlt
   have e1:=S.ext.cell (HE.out.cE hlt)
   have e2:=S.ext.cell (HE.out.cE2 hlt)
   obtain⟨b1,b2⟩:=HB.out _ (aY Q8)
   obtain⟨f,hf⟩:∃ f:Nat,(ae E k).1=(f:Int):=⟨(ae E k).1.toNat,by omega⟩
   have HT:Hid (Ci (E.take (k+1))=Ci (E.take k) ++ [(ae E k).2]):=by unfold Hid Ci;rw [eM _ E k Q8]
   have HC:Hid (fN n (E.take (k+1))=(fN n (E.take k)).set (f+1) (ae (fN n (E.take k)) (f+1)+1)):=by
    unfold Hid;rw [ak E k Q8];exact xZ _ _ hf (by omega)
   rw [hf] at e1 b1 b2
   have c1:=(S.rd 1 rfl (by omega)).cI (k:=f+1) (by omega)
   have po:=(S.rd 1 rfl (by omega)).ptr
   have fz:=aA (S.own 1 rfl) (by omega) (f+1)
   have zz:(be qo (f+1)).block<wr.heap.size:=(S.blt 1 rfl (by omega)).2
   have y0:be qo (f+1)≠⟨wr.heap.size,1,none⟩:=fun e=>by
    have e2:(be qo (f+1)).block=wr.heap.size:=by rw [e]
    omega
   have y1:(⟨wr.heap.size,1,none⟩:Addr)≠be qo (f+1):=fun e=>y0 e.symm
   have d1:(0:Int)<=k:=by omega
   have d2:(k:Int)<m:=by omega
   have d3:(0:Int)<=(f:Int)+1:=by omega
   have d4:(f:Int)+1<((n+1:Nat):Int):=by omega
   have hcb:ae (fN n (E.take k)) (f+1)<=2000/\0<=ae (fN n (E.take k)) (f+1):=by
    rw [sY _ (by omega)]
    have h1:=List.countP_le_length (p:=fun x:Int × Int=>decide (x.1+1=((f+1:Nat):Int))) (l:=E.take k)
    rw [List.length_take] at h1
    omega
   obtain⟨u,hu⟩:∃ u,ae (fN n (E.take k)) (f+1)=u:=⟨_,rfl⟩
   rw [hu] at c1 hcb HC
   have SH:=lh S;clear S
   clear hf hu Q8
   have SX:=lh ((SH.out.junk (.cells #[.int .i64 (f:Int),.int .i64 (ae E k).2] 98)).setRow 1 rfl (f+1) (by omega) (.int .i64 (u+1)))
   go_wp2_with (at_builtin;go_must (refine am rfl _ _ _ rfl 3 i0 _ 1 8 underlying25 hi0 hz0 hz1 hz2 rfl (by omega) (SX.out.junk _) 0 q k d _ rfl rfl _ 1 1 _ rfl (Rd.oneIat _ _ _ _ (by simp [World.setCell])) (bN _) (by omega) (by omega) ?_;intro q' d' w' S' hsz;have S5:=lh S';clear S' hsz))
   go_roundw
   case rel=>exact⟨k+1,q',d',by omega,by go_num,rfl,by rw [HT.out,HC.out,b9,<- dm];exact S5.out⟩
   case measure=>simp [intOf];omega
  ·obtain rfl:k=m:=by omega
   have HT:Hid (E.take k=E):=by unfold Hid;rw [List.take_of_length_le (by rw [<- L1.out];omega)]
   rw [HT.out,<- zu (fun x hx=>(HB.out x hx).1)] at S
   have SH:=lh S;clear S
   go_wp2
   go_loopw [8,33] (fun _ i wr=>∃ v:Nat,v<=n/\i=.int .i64 v/\Ic w wr [.own 3 1 q k d (ab (Ci E)),.own 3 1 qo (n+1) (n+1) (ab (gd n E v))]) (fun _ i _=>n - (intOf i).toNat)
   case atStart=>exact⟨0,Nat.zero_le _,rfl,SH.out⟩
   case round =>
    clear SH
    obtain⟨v,hv,rfl,S⟩:=hrel
    by_cases hlv:v<n
    ·have c0:=(S.rd 1 rfl (by omega)).cI (k:=v) (by omega)
     have c1:=(S.rd 1 rfl (by omega)).cI (k:=v+1) (by omega)
     have po:=(S.rd 1 rfl (by omega)).ptr
     have fz:=aA (S.own 1 rfl) (by omega) (v+1)
     have HC:=lh (zt E hlv)
     have bnd:∀ j,j<n+1->0<=ae (gd n E v) j/\ae (gd n E v) j<=2000:=fun j hj=>by
      rw [oY _ hj]
      have:=L1.out
      split
      ·have h1:=List.countP_le_length (p:=fun x:Int × Int=>decide (x.1<(j:Int))) (l:=E)
       omega
      ·have h1:=List.countP_le_length (p:=fun x:Int × Int=>decide (x.1+1=(j:Int))) (l:=E)
       omega
     have Zy:=bnd v (by omega)
     have Zz:=bnd (v+1) (by omega)
     generalize ae (gd n E v) v=x0 at *
     generalize ae (gd n E v) (v+1)=x1 at *
     have d1:(0:Int)<=v:=by omega
     have d2:(v:Int)<n:=by omega
     have d3:(0:Int)<=(v:Int)+1:=by omega
     have d4:(v:Int)+1<((n+1:Nat):Int):=by omega
     have d5:(v:Int)<((n+1:Nat):Int):=by omega
     clear bnd
     have SH:=lh S;clear S
     go_wp2
     have y0:=fun x:Ie wr=>x.ext.cell c0
     have y1:=fun x:Ie wr=>x.ext.cell c1
     refine aT [true,true,true,true,true,true,true,true,true,true,true] (fun _ _ _=>True) (by kernel_rfl) (by kernel_rfl) (by kernel_rfl) (fun _ _ _ _ _ h=>h) ?_
     simp only [pJ]
     repeat (go_big_quiet_step ((fail)))
     refine wpQuiet_nil ⟨trivial,fun vs W1 hE _=>?_⟩
     have S2:=SH.out.call hE
     have Zb:=(S2.rd 1 rfl (by omega)).ptr
     have Q3:=aA (S2.own 1 rfl) (by omega) (v+1)
     have k1:=hE.cell c1
     have S3:=lh (S2.setRow 1 rfl (v+1) (by omega) (.int .i64 (x1+x0)))
     clear S2 y0 y1 c0 c1 fz
     simp only [b8,List.length_cons,List.length_nil,Nat.zero_add,Nat.reduceAdd,List.drop_succ_cons,List.drop_zero]
     go_wp2
     go_roundw
     case rel=>exact⟨v+1,by omega,by go_num,by rw [HC.out,<- dm];exact S3.out⟩
     case measure=>simp [intOf];omega
    ·obtain rfl:v=n:=by omega
     rw [B4] at S
     have SH:=lh S;clear S
     go_wp2
     go_ret2
     exact⟨qo,_,q,d,rfl,SH.out⟩
end
theorem uB (N:Int) (pe:Option Addr) (ne ce:Nat) (pw:Option Addr) (nw cw:Nat) (E:List (Int × Int)) (hs:List Hd) (W:List (List ByteArray)) (w:World) (hE:Rd w 2 pe ne (aj E)) (hW:JY w pw nw hs W) (hz:CC W) :
  Calls prog 170 #[.agg #[.int .i64 N,.slice pe ne ce,.slice pw nw cw]] w fun e w'=>e=.returned (.bool (bs N E W))/\Ext w w':=by
 have p1:=hE.ptr
 have p2:=hW.row.ptr
 have n1:=hE.small
 have n2:=hW.row.small
 have l1:=hE.nE
 have l2:=hW.nW
 have HE:=lh hE;clear hE
 have HW:=lh hW;clear hW
 have HZ:=lh hz;clear hz
 by_cases hpre:1<=N/\N<=200/\ne<=2000/\(nw:Int)=N
 ·obtain⟨c1,c2,c3,rfl⟩:=hpre
  have YES:∀ (h5:E.all (cO nw)=true) (h6:W.all iS=true),bs nw E W=true:=vd c1 c2 (by omega) (by omega)
  have L1:=lh l1;clear l1
  have L2:=lh l2;clear l2
  have HY:=lh YES;clear YES
  have t1:((nw:Int) != (nw:Int))=false:=by simp
  go_enter func170,ntmps170
  go_wp2
  go_loopw [4,32] (fun _ i wr=>∃ k:Nat,k<=ne/\i=.int .i64 k/\(E.take k).all (cO nw)=true/\Ext w wr/\J6 wr w.heap.size (nw:Int) pe ne ce pw nw cw) (fun _ i _=>ne - (intOf i).toNat)
  case atStart=>exact⟨0,Nat.zero_le _,rfl,rfl,(Below.refl _ _).alloc (Nat.le_refl _) _,J6.new _ _⟩
  case round =>
   obtain⟨k,hk,rfl,ha,hb,Wn⟩:=hrel
   have HA:=lh ha;clear ha
   have HB:=lh hb;clear hb
   have G1:=lh Wn
   obtain⟨b0,b1,b2⟩:=Wn
   have z0:w.heap.size<wr.heap.size:=World.block_lt_of_cell? wr _ b0
   by_cases hlt:k<ne
   ·have g1:=HB.out.cell (HE.out.cE hlt)
    have g2:=HB.out.cell (HE.out.cE2 hlt)
    by_cases hok:0<=(ae E k).1/\(ae E k).1<nw/\0<=(ae E k).2/\(ae E k).2<nw
    ·have HO:Hid (cO nw (ae E k)=true):=by unfold Hid cO;exact decide_eq_true hok
     obtain⟨o1,o2,o3,o4⟩:=hok
     go_wp2_with (first | (go_at_call 221;have _t:=F1;refine(dS _ _ _ _ _ _ _ _ _).mono ?_;rintro e w3 ⟨rfl,hb3⟩;have F2:=lh (Ext.trans F1.out hb3);clear hb3) | (go_at_call 221;refine(dS _ _ _ _ _ _ _ _ _).mono ?_;rintro e w2 ⟨rfl,hb2⟩;have F1:=lh (Ext.trans (Ext.alloc (Below.refl wr.heap.size wr) _) hb2);have b0':=Ext.cell F1.out b0;have b1':=Ext.cell F1.out b1;have b2':=Ext.cell F1.out b2;have x0:=Ext.cell hb2 (dP _ _ _ _);have x1:=Ext.cell hb2 (hU _ _ _ _ _);clear hb2))
     go_roundw
     case rel=>exact⟨k+1,by omega,by go_num,i6 _ _ _ (by rw [<- L1.out];exact hlt) HA.out HO.out,Ext.trans HB.out F2.out,G1.out.ext F2.out⟩
     case measure=>simp [intOf];omega
    ·have HO:Hid (cO nw (ae E k)=false):=by unfold Hid cO;exact decide_eq_false hok
     have HF:=lh (AE (W:=W) (by rw [<- L1.out];exact hlt) HO.out)
     clear HO
     by_cases o1:0<=(ae E k).1
     ·by_cases o2:(ae E k).1<nw
      ·by_cases o3:0<=(ae E k).2
       ·have o4:(nw:Int)<=(ae E k).2:=Int.not_lt.1 fun h=>hok ⟨o1,o2,o3,h⟩
        have o5:decide ((ae E k).2<(nw:Int))=false:=by simp;omega
        clear hok
        go_wp2_with (first | (go_at_call 221;have _t:=F1;refine(dS _ _ _ _ _ _ _ _ _).mono ?_;rintro e w3 ⟨rfl,hb3⟩;have F2:=lh (Ext.trans F1.out hb3);clear hb3) | (go_at_call 221;refine(dS _ _ _ _ _ _ _ _ _).mono ?_;rintro e w2 ⟨rfl,hb2⟩;have F1:=lh (Ext.trans (Ext.alloc (Below.refl wr.heap.size wr) _) hb2);have b0':=Ext.cell F1.out b0;have b1':=Ext.cell F1.out b1;have b2':=Ext.cell F1.out b2;have x0:=Ext.cell hb2 (dP _ _ _ _);have x1:=Ext.cell hb2 (hU _ _ _ _ _);clear hb2))
        go_ret
        exact⟨aq HF.out.symm,Ext.trans HB.out F2.out⟩
       ·have o5:decide (0<=(ae E k).2)=false:=by simp;omega
        clear hok
        go_wp2_with (first | (go_at_call 221;have _t:=F1;refine(dS _ _ _ _ _ _ _ _ _).mono ?_;rintro e w3 ⟨rfl,hb3⟩;have F2:=lh (Ext.trans F1.out hb3);clear hb3) | (go_at_call 221;refine(dS _ _ _ _ _ _ _ _ _).mono ?_;rintro e w2 ⟨rfl,hb2⟩;have F1:=lh (Ext.trans (Ext.alloc (Below.refl wr.heap.size wr) _) hb2);have b0':=Ext.cell F1.out b0;have b1':=Ext.cell F1.out b1;have b2':=Ext.cell F1.out b2;have x0:=Ext.cell hb2 (dP _ _ _ _);have x1:=Ext.cell hb2 (hU _ _ _ _ _);clear hb2))
        go_ret
        exact⟨aq HF.out.symm,Ext.trans HB.out F2.out⟩
      ·have o5:decide ((ae E k).1<(nw:Int))=false:=by simp;omega
       clear hok
       go_wp2_with (first | (go_at_call 221;have _t:=F1;refine(dS _ _ _ _ _ _ _ _ _).mono ?_;rintro e w3 ⟨rfl,hb3⟩;have F2:=lh (Ext.trans F1.out hb3);clear hb3) | (go_at_call 221;refine(dS _ _ _ _ _ _ _ _ _).mono ?_;rintro e w2 ⟨rfl,hb2⟩;have F1:=lh (Ext.trans (Ext.alloc (Below.refl wr.heap.size wr) _) hb2);have b0':=Ext.cell F1.out b0;have b1':=Ext.cell F1.out b1;have b2':=Ext.cell F1.out b2;have x0:=Ext.cell hb2 (dP _ _ _ _);have x1:=Ext.cell hb2 (hU _ _ _ _ _);clear hb2))
       go_ret
       exact⟨aq HF.out.symm,Ext.trans HB.out F1.out⟩
     ·have o5:decide (0<=(ae E k).1)=false:=by simp;omega
      clear hok
      go_wp2_with (first | (go_at_call 221;have _t:=F1;refine(dS _ _ _ _ _ _ _ _ _).mono ?_;rintro e w3 ⟨rfl,hb3⟩;have F2:=lh (Ext.trans F1.out hb3);clear hb3) | (go_at_call 221;refine(dS _ _ _ _ _ _ _ _ _).mono ?_;rintro e w2 ⟨rfl,hb2⟩;have F1:=lh (Ext.trans (Ext.alloc (Below.refl wr.heap.size wr) _) hb2);have b0':=Ext.cell F1.out b0;have b1':=Ext.cell F1.out b1;have b2':=Ext.cell F1.out b2;have x0:=Ext.cell hb2 (dP _ _ _ _);have x1:=Ext.cell hb2 (hU _ _ _ _ _);clear hb2))
      go_ret
      exact⟨aq HF.out.symm,Ext.trans HB.out F1.out⟩
   ·have PS:=lh (mW _ _ _ (by rw [<- L1.out];exact hlt) HA.out)
    go_wp2
    clear hlt HA hk
    obtain⟨wo,rfl⟩:∃ wo:World,wo=wr:=⟨_,rfl⟩
    go_loop [6,52] (fun _ i=>∃ k:Nat,k<=nw/\i=.int .i64 k/\(W.take k).all iS=true) (fun _ i=>nw - (intOf i).toNat)
    case atStart=>exact⟨0,Nat.zero_le _,rfl,rfl⟩
    case round =>
     obtain⟨k,hk,rfl,ha⟩:=hrel
     have HA:=lh ha;clear ha
     by_cases hlt:k<nw
     ·have g1:=HB.out.cell (HW.out.row.cH hlt)
      have q1:=(HW.out.each k hlt).ext HB.out
      have l3:=q1.nS
      have Q1:=lh q1;clear q1
      have L3:=lh l3;clear l3
      have hsz:=lh (HZ.out (ae W k) (by rw [ar (by rw [<- L2.out];exact hlt)];exact List.getElem_mem _))
      by_cases h8:(ae hs k).n<=8
      ·by_cases hw:(ae W k).any (fun s=>!bE s)=true
       ·have HF:=lh (sV (N:=nw) (E:=E) (k:=k) (W:=W) (by rw [<- L2.out];exact hlt) (by unfold iS;rw [show (ae W k).all bE=false from by rw [<- Bool.not_eq_true,List.all_eq_not_any_not,hw];simp];rfl))
        go_wp2_with (go_at_call 130;refine(ku _ _ _ _ _ Q1.out hsz.out).mono ?_;rintro e w' ⟨rfl,rfl⟩)
        go_ret
        exact⟨aq HF.out.symm,HB.out⟩
       ·have hw':(ae W k).any (fun s=>!bE s)=false:=by simpa using hw
        have Ob:=lh hw'
        clear hw
        go_wp2_with (go_at_call 130;refine(ku _ _ _ _ _ Q1.out hsz.out).mono ?_;rintro e w' ⟨rfl,rfl⟩)
        go_round
        case rel=>exact⟨k+1,by omega,by go_num,i6 _ _ _ (by rw [<- L2.out];exact hlt) HA.out (by unfold iS;rw [List.all_eq_not_any_not,Ob.out,<- L3.out];simp [h8])⟩
        case measure=>simp [intOf];omega
      ·have HF:=lh (sV (N:=nw) (E:=E) (k:=k) (W:=W) (by rw [<- L2.out];exact hlt) (by unfold iS;rw [<- L3.out];simp [h8]))
       go_wp2
       go_ret
       exact⟨aq HF.out.symm,HB.out⟩
     ·have HR:=lh (mW _ _ _ (by rw [<- L2.out];exact hlt) HA.out)
      go_wp2
      go_ret
      exact⟨aq (HY.out PS.out HR.out).symm,HB.out⟩
 ·have HF:=lh (vc (N:=N) (E:=E) (W:=W) (by rw [<- l1,<- l2];exact hpre))
  clear l1 l2 HE HW HZ p1 p2
  have h1:∀ o1:Obj,Ext w (w.alloc o1):=fun o1=>(Below.refl _ _).alloc (Nat.le_refl _) _
  by_cases c1:1<=N
  ·by_cases c2:N<=200
   ·by_cases c3:ne<=2000
    ·have c4:((nw:Int) != N)=true:=by rw [bne_iff_ne];exact fun h=>hpre ⟨c1,c2,c3,h⟩
     clear hpre
     go_enter func170,ntmps170
     go_wp2
     go_ret
     exact⟨aq HF.out.symm,h1 _⟩
    ·clear hpre
     go_enter func170,ntmps170
     go_wp2
     go_ret
     exact⟨aq HF.out.symm,h1 _⟩
   ·clear hpre
    go_enter func170,ntmps170
    go_wp2
    go_ret
    exact⟨aq HF.out.symm,h1 _⟩
  ·clear hpre
   go_enter func170,ntmps170
   go_wp2
   go_ret
   exact⟨aq HF.out.symm,h1 _⟩
section
open Go Go.RowKit Go.Shelf Go.Lib Go.Sort
theorem ny {p:Nat->Prop}:∀ i,i<0->p i:=fun i h=>absurd h (Nat.not_lt_zero i)
theorem bD {n:Nat} {p:Nat->Prop} (h:∀ i,i<n->p i) (hn:p n):∀ i,i<n+1->p i:=fun i hi=>by
 rcases Nat.lt_or_ge i n with h1 | h1
 ·exact h i h1
 ·obtain rfl:i=n:=by omega
  exact hn
def IE (w:World) (base:Nat) (v:Value) (N:Int) (E:List (Int × Int)) (W:List (List ByteArray)):Prop :=
 ∃ pe ce pw cw hs,v=.agg #[.int .i64 N,.slice pe E.length ce,.slice pw W.length cw]/\w.ownsRow base 98 2 (.slice pe E.length ce) E.length (aj E)/\IL w base pw W.length cw hs W
theorem uK (N:Int) (pe:Option Addr) (ne ce:Nat) (pw:Option Addr) (nw cw:Nat) (E:List (Int × Int)) (hs:List Hd) (W:List (List ByteArray)) (w:World) (hE:Rd w 2 pe ne (aj E)) (hW:JY w pw nw hs W) (hz:CC W) (hc:bs N E W=false) :
  Calls prog 175 #[.agg #[.int .i64 N,.slice pe ne ce,.slice pw nw cw]] w fun e w'=>e=.returned (.tuple #[.agg #[.int .i64 0,.slice none 0 0,.slice none 0 0],.int .i64 20])/\Ext w w':=by
 have HE:=lh hE;clear hE
 have HW:=lh hW;clear hW
 have HZ:=lh hz;clear hz
 go_enter func175,ntmps175
 go_wp2_with (go_at_call 170;refine(uB _ _ _ _ _ _ _ E hs W _ (HE.out.ext (iy w _ _).2.2) (HW.out.ext (iy w _ _).2.2) HZ.out).mono ?_;rintro e w1 ⟨rfl,hb1⟩;have BR:Ih w1 (w.heap.size+1) _ _:=(hb1.block _ (by simp)).trans (iy w _ _).2.1;have r0:=BR.cell 0;have r1:=BR.cell 1;have r2:=BR.cell 2;have k0:=BR.frozen 0;have k1:=BR.frozen 1;have k2:=BR.frozen 2;have HB:=lh (Ext.trans (iy w _ _).2.2 hb1);have NP:=lh BR;clear BR hb1)
 have B0:=NP.out
 have B1:=B0.set_ 0 (.int .i64 0)
 have B2:=B1.set_ 1 (.slice none 0 0)
 have c0:=(B2.set_ 2 (.slice none 0 0)).cell 0
 have c1':=(B2.set_ 2 (.slice none 0 0)).cell 1
 have c2:=(B2.set_ 2 (.slice none 0 0)).cell 2
 refine bodyPost_ret (v:=.tuple #[.agg #[.int .i64 0,.slice none 0 0,.slice none 0 0],.int .i64 20]) (by simp [results,results175,go_sem,c0,c1',c2,sizeOf102,isAgg102]) rfl ⟨rfl,?_⟩
 exact((HB.out.setCell (by simp) _).setCell (by simp) _).setCell (by simp) _
def R3 (b:Nat) (wz N:Nat) (pe:Option Addr) (ne ce:Nat) (D:List (Int × Int)) (i:Nat) (v:Value) (W:World):Prop :=
 match i with
 | 0=>v=.pointer (some ⟨b,0,none⟩)
 | 1=>v=.int .i64 N
 | 2=>v=.pointer (some ⟨b,1,none⟩)
 | 3=>v=.slice pe ne ce
 | 4=>v=.agg #[.func (.func 223) #[] #[]]
 | 5=>∃ q c,v=.slice q D.length c/\W.ownsRow wz 98 2 (.slice q D.length c) D.length (aj D)
 | 6=>∃ q c,v=.agg #[.int .i64 N,.slice q D.length c,.slice none 0 0]/\W.ownsRow wz 98 2 (.slice q D.length c) D.length (aj D)
 | 7=>∃ g,v=.pointer (some ⟨g,0,none⟩)/\wz<=g/\Ih W g 102 #[.int .i64 0,.slice none 0 0,.slice none 0 0]
 | _=>True
theorem Cv {b wz N:Nat} {pe:Option Addr} {ne ce:Nat} {D:List (Int × Int)}:∀ i v W W',Ext W W'->R3 b wz N pe ne ce D i v W->R3 b wz N pe ne ce D i v W':=by
 intro i v W W' he h
 match i with
 | 0=>exact h
 | 1=>exact h
 | 2=>exact h
 | 3=>exact h
 | 4=>exact h
 | 5=>obtain⟨q,c,h1,h2⟩:=h;exact⟨q,c,h1,he.own h2⟩
 | 6=>obtain⟨q,c,h1,h2⟩:=h;exact⟨q,c,h1,he.own h2⟩
 | 7=>obtain⟨g,h1,h2,h3⟩:=h;exact⟨g,h1,h2,h3.ext he⟩
 | _+8=>trivial
def R7 (wz g:Nat) (qh:Option Addr) (j ch:Nat) (pl:Option Addr) (nl cl:Nat) (D:List ByteArray) (i:Nat) (v:Value) (W:World):Prop :=
 match i with
 | 0=>v=.pointer (some ⟨g,2,none⟩)
 | 1=>v=.slice qh j ch
 | 2=>v=.slice pl nl cl
 | 3=>v=.agg #[.func (.func 220) #[] #[]]
 | 4=>∃ q c,v=.slice q D.length c/\W.ownsRow wz 9 1 (.slice q D.length c) D.length (bg D)
 | 5=>∃ q c a,v=.slice a 1 1/\Rd W 1 a 1 [.slice q D.length c]/\W.ownsRow wz 9 1 (.slice q D.length c) D.length (bg D)
 | _=>True
theorem Cw {wz g:Nat} {qh:Option Addr} {j ch:Nat} {pl:Option Addr} {nl cl:Nat} {D:List ByteArray}:∀ i v W W',Ext W W'->R7 wz g qh j ch pl nl cl D i v W->R7 wz g qh j ch pl nl cl D i v W':=by
 intro i v W W' he h
 match i with
 | 0=>exact h
 | 1=>exact h
 | 2=>exact h
 | 3=>exact h
 | 4=>obtain⟨q,c,h1,h2⟩:=h;exact⟨q,c,h1,he.own h2⟩
 | 5=>obtain⟨q,c,a,h1,h2,h3⟩:=h;exact⟨q,c,a,h1,h2.ext he,he.own h3⟩
 | _+6=>trivial
theorem sF (N:Int) (pe:Option Addr) (ne ce:Nat) (pw:Option Addr) (nw cw:Nat) (E:List (Int × Int)) (hs:List Hd) (W:List (List ByteArray)) (w:World) (hE:Rd w 2 pe ne (aj E)) (hW:JY w pw nw hs W) (hz:CC W) (hc:bs N E W=true) :
  Calls prog 175 #[.agg #[.int .i64 N,.slice pe ne ce,.slice pw nw cw]] w fun e w'=>∃ v,e=.returned (.tuple #[v,.int .i64 0])/\IE w' w.heap.size v N (aO (aE a8 E)) (W.map fun l=>aO (aE a9 l))/\Ext w w':=by
 obtain⟨j0,hj0,hy0,hy1,hy2⟩:=info_parts DK
 obtain⟨_,hN,hE2,Yy,_,Ww⟩:=kF hc
 have NH:=zg Ww
 have p1:=hE.ptr
 have p2:=hW.row.ptr
 have l1:=hE.nE
 have l2:=hW.nW
 have n1:ne<=2000:=by omega
 have n2:nw<=200:=by omega
 obtain rfl:N=(nw:Int):=by omega
 have HE:=lh hE;clear hE
 have HW:=lh hW;clear hW
 have HZ:=lh hz;clear hz
 have L1:=lh l1;clear l1
 have L2:=lh l2;clear l2
 have H9:=lh NH;clear NH
 clear Ww hE2 hN Yy
 go_enter func175,ntmps175
 go_wp2_with (go_at_call 170;refine(uB _ _ _ _ _ _ _ E hs W _ (HE.out.ext (iy w _ _).2.2) (HW.out.ext (iy w _ _).2.2) HZ.out).mono ?_;rintro e w1 ⟨rfl,hb1⟩;have BG:Ih w1 w.heap.size _ _:=(hb1.block _ (by simp;omega)).trans (iy w _ _).1;have BR:Ih w1 (w.heap.size+1) _ _:=(hb1.block _ (by simp)).trans (iy w _ _).2.1;have g0:=BG.cell 0;have g1:=BG.cell 1;have zb:=BR.lt;have HB:=lh (Ext.trans (iy w _ _).2.2 hb1);have NP:=lh BR;have Pe:=lh BG;clear BR BG hb1)
 refine gq 8 [11,12,13,14,15,16,17,4] (R3 w.heap.size w1.heap.size nw pe ne ce (aO (aE a8 E))) (by kernel_rfl) (by kernel_rfl) (by kernel_rfl) Cv ?_ ?_
 ·refine bD (bD (bD (bD (bD (bD (bD (bD ny ?_) ?_) ?_) ?_) ?_) ?_) ?_) ?_ <;> intro ev vs W2 hE2 hin hout hcs hf hg hd o ho <;> obtain rfl:=Option.some.inj ho
  ·have e1:=hout 1 rfl
   simp [go_sem] at e1
   simp [execOp,go_sem,e1]
   exact⟨rfl,Below.refl _ _⟩
  ·have e1:_=Value.pointer _:=(hin 11 0 rfl).trans (hd 0 (by decide))
   have c:=(Pe.out.ext hE2).cell 0
   simp [execOp,go_sem,e1,c]
   exact⟨rfl,Below.refl _ _⟩
  ·have e1:=hout 1 rfl
   simp [go_sem] at e1
   simp [execOp,go_sem,e1]
   exact⟨rfl,Below.refl _ _⟩
  ·have e1:_=Value.pointer _:=(hin 13 2 rfl).trans (hd 2 (by decide))
   have c:=(Pe.out.ext hE2).cell 1
   simp [execOp,go_sem,e1,c]
   exact⟨rfl,Below.refl _ _⟩
  ·have e1:=hf 172
   simp [go_sem] at e1
   simp [execOp,go_sem,e1]
   exact(zP W2).mono fun e w' ⟨h1,h2⟩=>⟨_,h1,rfl,h2⟩
  ·have e1:=hf 225
   have e2:_=Value.slice _ _ _:=(hin 14 3 rfl).trans (hd 3 (by decide))
   have e3:_=Value.agg _:=(hin 15 4 rfl).trans (hd 4 (by decide))
   simp [go_sem] at e1
   simp [execOp,go_sem,e1,e2,e3]
   exact(Fu _ _ _ E W2 (HE.out.ext (Ext.trans HB.out hE2)) (by omega)).mono fun e w' ⟨q,c,h1,h2,h3⟩=>⟨_,h1,⟨q,c,rfl,aP h2 hE2.size⟩,h3⟩
  ·have e1:_=Value.int _ _:=(hin 12 1 rfl).trans (hd 1 (by decide))
   obtain⟨q,c,e2,e3⟩:=(hd 5 (by decide):R3 _ _ _ _ _ _ _ 5 (vs 5) W2)
   have e4:=(hin 16 5 rfl).trans e2
   simp [execOp,go_sem,e1,e4]
   exact⟨⟨q,c,rfl,e3⟩,Below.refl _ _⟩
  ·simp [execOp,go_sem]
   exact⟨⟨_,rfl,hE2.size,Ih.new _ _ _⟩,(Below.refl _ _).alloc (Nat.le_refl _) _⟩
 ·intro vs W2 hE2 hR
  have r0:vs 0=_:=hR 0 (by decide)
  have r1:vs 1=_:=hR 1 (by decide)
  have r2:vs 2=_:=hR 2 (by decide)
  have r3:vs 3=_:=hR 3 (by decide)
  have r4:vs 4=_:=hR 4 (by decide)
  obtain⟨q5,c5,r5,_⟩:=hR 5 (by decide)
  obtain⟨q,cq,r6,oF⟩:=hR 6 (by decide)
  obtain⟨g,r7,hg,BO⟩:=hR 7 (by decide)
  simp only [eD,List.mapIdx_toArray,List.mapIdx_cons,List.mapIdx_nil,Nat.zero_add,Nat.reduceAdd]
  simp [List.idxOf?_cons,List.idxOf?_nil,r0,r1,r2,r3,r4,r5,r6,r7]
  have s2:=hE2.size
  have Ff:w.heap.size+1<W2.heap.size:=by omega
  have B1:=BO.set_ 0 (.int .i64 nw)
  have B2:=B1.set_ 1 (.slice q (aO (aE a8 E)).length cq)
  have B3:=B2.set_ 2 (.slice none 0 0)
  have Vp:=lh B3
  have V8:=lh (fx (fx (fx oF BO (by decide) 0 (.int .i64 nw)) B1 (by decide) 1 (.slice q (aO (aE a8 E)).length cq)) B2 (by decide) 2 (.slice none 0 0))
  have b0:=BO.cell 0
  have b1:=BO.cell 1
  have b2:=BO.cell 2
  have f0:=BO.frozen 0
  have f1:=BO.frozen 1
  have f2:=BO.frozen 2
  have Xq:=lh BO.lt
  have hgw:w.heap.size+1<g:=by omega
  have SN:=lh ((((Pe.out.ext hE2).far (p:=⟨g,0,none⟩) (by simp;omega) (.int .i64 nw)).far (p:=⟨g,1,none⟩) (by simp;omega) (.slice q (aO (aE a8 E)).length cq)).far (p:=⟨g,2,none⟩) (by simp;omega) (.slice none 0 0))
  have Vr:=lh ((((NP.out.ext hE2).far (p:=⟨g,0,none⟩) (by simp;omega) (.int .i64 nw)).far (p:=⟨g,1,none⟩) (by simp;omega) (.slice q (aO (aE a8 E)).length cq)).far (p:=⟨g,2,none⟩) (by simp;omega) (.slice none 0 0))
  have HX:=lh ((((Ext.trans HB.out hE2).setCell (p:=⟨g,0,none⟩) (by simp;omega) (.int .i64 nw)).setCell (p:=⟨g,1,none⟩) (by simp;omega) (.slice q (aO (aE a8 E)).length cq)).setCell (p:=⟨g,2,none⟩) (by simp;omega) (.slice none 0 0))
  have gx:=SN.out.cell 2
  clear g0 g1 Pe NP HB B1 B2 B3 oF BO
  go_wp2
  go_loopw [6,21] (fun _ i wr=>∃ (j:Nat) (qh:Option Addr) (ch:Nat) (hs':List Hd),j<=nw/\i=.int .i64 j/\IL wr W2.heap.size qh j ch hs' ((W.take j).map fun l=>aO (aE a9 l))/\wr.ownsRow w1.heap.size 98 2 (.slice q (aO (aE a8 E)).length cq) (aO (aE a8 E)).length (aj (aO (aE a8 E))) /\
    Ih wr w.heap.size 102 #[.int .i64 nw,.slice pe ne ce,.slice pw nw cw]/\Ih wr (w.heap.size+1) 102 #[.int .i64 0,.slice none 0 0,.slice none 0 0]/\Ih wr g 102 #[.int .i64 nw,.slice q (aO (aE a8 E)).length cq,.slice qh j ch]/\Ext w wr/\W2.heap.size<=wr.heap.size) (fun _ i _=>nw - (intOf i).toNat)
  case atStart=>exact⟨0,none,0,[],Nat.zero_le _,rfl,IL.nil _ _,V8.out,SN.out,Vr.out,Vp.out,HX.out,by simp [World.setCell]⟩
  case round =>
   clear gx V8 SN Vr Vp HX
   obtain⟨j,qh,ch,hs',hj,rfl,OW,OE,BG,BR,BO,HB,V4⟩:=hrel
   have g2:=BG.cell 2
   have o0:=BO.cell 0
   have o1:=BO.cell 1
   have o2:=BO.cell 2
   have r0:=BR.cell 0
   have r1:=BR.cell 1
   have r2:=BR.cell 2
   have q0:=BR.frozen 0
   have q1:=BR.frozen 1
   have q2:=BR.frozen 2
   have MG:=lh OW;clear OW
   have V6:=lh OE;clear OE
   have Pe:=lh BG;clear BG
   have NP:=lh BR;clear BR
   have Vo:=lh BO;clear BO
   have HB0:=lh HB;clear HB
   by_cases hjt:j<nw
   ·have gh:=HB0.out.cell (HW.out.row.cH hjt)
    have QS:=lh ((HW.out.each j hjt).ext HB0.out)
    have hlen:(ae hs j).n<=8:=by rw [QS.out.nS];exact H9.out _ (by rw [ar (by rw [<- L2.out];exact hjt)];exact List.getElem_mem _)
    have HT2:=lh (eM (fun l=>aO (aE a9 l)) W j (by rw [<- L2.out];exact hjt))
    have m1:(ae hs j).n<=1000000:=by omega
    have m3:(j+1)*24<=140737488355328:=by omega
    have m4:j+1<=140737488355328:=by omega
    have M3:=lh m3;clear m3
    have M4:=lh m4;clear m4
    go_wp2
    refine gq 6 [25,26,27,28,29,30] (R7 wr.heap.size g qh j ch (ae hs j).p (ae hs j).n (ae hs j).c (aO (aE a9 (ae W j)))) (by kernel_rfl) (by kernel_rfl) (by kernel_rfl) Cw ?_ ?_
    ·refine bD (bD (bD (bD (bD (bD ny ?_) ?_) ?_) ?_) ?_) ?_ <;> intro ev vs W3 Kt hin hout hcs hf hg3 hd o ho <;> obtain rfl:=Option.some.inj ho
     ·have e1:=hout 4 rfl
      simp [go_sem] at e1
      simp [execOp,go_sem,e1]
      exact⟨rfl,Below.refl _ _⟩
     ·have e1:_=Value.pointer _:=(hin 25 0 rfl).trans (hd 0 (by decide))
      have c:=(Vo.out.ext Kt).cell 2
      simp [execOp,go_sem,e1,c]
      exact⟨rfl,Below.refl _ _⟩
     ·have e1:=hout 6 rfl
      simp [go_sem] at e1
      simp [execOp,go_sem,e1]
      exact⟨rfl,Below.refl _ _⟩
     ·have e1:=hf 169
      simp [go_sem] at e1
      simp [execOp,go_sem,e1]
      exact(Ai W3).mono fun e w' ⟨h1,h2⟩=>⟨_,h1,rfl,h2⟩
     ·have e1:=hf 226
      have e2:_=Value.slice _ _ _:=(hin 27 2 rfl).trans (hd 2 (by decide))
      have e3:_=Value.agg _:=(hin 28 3 rfl).trans (hd 3 (by decide))
      simp [go_sem] at e1
      simp [execOp,go_sem,e1,e2,e3]
      exact(Fv _ _ _ (ae W j) W3 (QS.out.ext Kt) (by omega)).mono fun e w' ⟨q,c,h1,h2,h3⟩=>⟨_,h1,⟨q,c,rfl,aP h2 Kt.size⟩,h3⟩
     ·obtain⟨q,c,e2,e3⟩:=(hd 4 (by decide):R7 _ _ _ _ _ _ _ _ _ 4 (vs 4) W3)
      have e4:=(hin 29 4 rfl).trans e2
      simp [execOp,go_sem,e4]
      exact⟨⟨q,c,_,rfl,Rd.oneH _ _ _ _ _,e3.alloc _⟩,(Below.refl _ _).alloc (Nat.le_refl _) _⟩
    ·intro vs W3 Kt Oj
     have r0:vs 0=_:=Oj 0 (by decide)
     have r1:vs 1=_:=Oj 1 (by decide)
     have r2:vs 2=_:=Oj 2 (by decide)
     have r3:vs 3=_:=Oj 3 (by decide)
     obtain⟨q4,c4,r4,_⟩:=Oj 4 (by decide)
     obtain⟨p',d',a',r5,RA,OR⟩:=Oj 5 (by decide)
     have XX:=lh (aP OR V4)
     have XY:=lh RA
     have QV:=lh Kt
     have KD:=lh (MG.out.ext Kt)
     have Xa:=lh (Vo.out.ext Kt)
     have WY:=lh (Pe.out.ext Kt)
     have Xb:=lh (NP.out.ext Kt)
     have V7:=lh (Kt.own V6.out)
     have HB2:=lh (Ext.trans HB0.out Kt)
     have hz3:W2.heap.size<=W3.heap.size:=Nat.le_trans V4 Kt.size
     simp only [eD,List.mapIdx_toArray,List.mapIdx_cons,List.mapIdx_nil,Nat.zero_add,Nat.reduceAdd]
     simp [List.idxOf?_cons,List.idxOf?_nil,r0,r1,r2,r3,r4,r5]
     clear r0 r1 r2 r3 r4 r5 OR RA Kt Oj
     go_wp2_with (at_builtin;go_must ((refine aM rfl _ _ _ rfl W2.heap.size 22 j0 _ 1 24 underlying100 hj0 hy0 hy1 hy2 rfl (by omega) qh j ch _ rfl KD.out.row a' 1 1 _ rfl XY.out (yY _ _ _) M3.out M4.out hz3 ?_;intro q3 c3 w3 JU hg3 KQ hl3;have QH:Ih w3 g _ _:=(hl3.block g Xq.out).trans Xa.out;have Vn:Ih w3 w.heap.size _ _:=(hl3.block _ (by omega)).trans WY.out;have Vq:Ih w3 (w.heap.size+1) _ _:=(hl3.block _ (by omega)).trans Xb.out;have HB3:=lh (Below.trans HB2.out (hl3.mono (by omega)));have XW:=lh (l8 V7.out hg3 (kn KD.out.row V7.out (by decide)));have Qb:=lh (IL.push KD.out XX.out JU hg3);have x2:=QH.cell 2;have xf:=QH.frozen 2;have SV:=lh QH;have WZ:=lh Vn;have Xc:=lh Vq;have Zu:=hl3.size;clear JU hg3 KQ hl3 QH Vn Vq)))
     go_roundw
     case rel=>exact⟨j+1,q3,c3,_,by omega,by go_num,by rw [HT2.out];exact Qb.out.set_ SV.out (by decide) (by decide) _ _,fx XW.out SV.out (by decide) _ _,WZ.out.far (by simp;omega) _,Xc.out.far (by simp;omega) _,SV.out.set_ 2 _,HB3.out.setCell (by simp;omega) _,by simp [World.setCell];omega⟩
     case measure=>simp [intOf];omega
   ·have hjn:j=nw:=by omega
    subst hjn
    have HT2:Hid ((W.take j).map (fun l=>aO (aE a9 l))=W.map (fun l=>aO (aE a9 l))):=by unfold Hid;rw [List.take_of_length_le (by rw [<- L2.out];omega)]
    go_wp2
    have B0:=NP.out
    have B1:=B0.set_ 0 (.int .i64 j)
    have B2:=B1.set_ 1 (.slice q (aO (aE a8 E)).length cq)
    have c0:=(B2.set_ 2 (.slice qh j ch)).cell 0
    have c1':=(B2.set_ 2 (.slice qh j ch)).cell 1
    have c2:=(B2.set_ 2 (.slice qh j ch)).cell 2
    refine bodyPost_ret (v:=.tuple #[.agg #[.int .i64 j,.slice q (aO (aE a8 E)).length cq,.slice qh j ch],.int .i64 0]) (by simp [results,results175,go_sem,c0,c1',c2,sizeOf102,isAgg102]) rfl ⟨_,rfl,?_,?_⟩
    ·have OW:=((MG.out.set_ B0 (by decide) (by decide) 0 (.int .i64 j)).set_ B1 (by decide) (by decide) 1 (.slice q (aO (aE a8 E)).length cq)).set_ B2 (by decide) (by decide) 2 (.slice qh j ch)
     have OE:=fx (fx (fx V6.out B0 (by decide) 0 (.int .i64 j)) B1 (by decide) 1 (.slice q (aO (aE a8 E)).length cq)) B2 (by decide) 2 (.slice qh j ch)
     rw [HT2.out] at OW
     have hl:=OW.len
     exact⟨q,cq,qh,ch,hs',by rw [<- hl],aP OE (by omega),by rw [<- hl];exact⟨OW.hn,aP OW.row (by omega),fun j hj=>aP (OW.each j hj) (by omega)⟩⟩
    ·exact((HB0.out.setCell (by simp) _).setCell (by simp) _).setCell (by simp) _
theorem zZ (N:Int) (pe:Option Addr) (ne ce:Nat) (pw:Option Addr) (nw cw:Nat) (E:List (Int × Int)) (hs:List Hd) (W:List (List ByteArray)) (w:World) (hE:Rd w 2 pe ne (aj E)) (hW:JY w pw nw hs W) (hz:CC W) :
  Calls prog 175 #[.agg #[.int .i64 N,.slice pe ne ce,.slice pw nw cw]] w fun e w'=>∃ v,e=.returned (.tuple #[v,.int .i64 (oC N E W)])/\IE w' w.heap.size v (if bs N E W then N else 0) (if bs N E W then aO (aE a8 E) else []) (if bs N E W then W.map fun l=>aO (aE a9 l) else [])/\Ext w w':=by
 unfold oC
 by_cases hc:bs N E W=true
 ·simp only [hc,if_true]
  exact sF N pe ne ce pw nw cw E hs W w hE hW hz hc
 ·have hc':bs N E W=false:=by simpa using hc
  simp only [hc']
  refine(uK N pe ne ce pw nw cw E hs W w hE hW hz hc').mono fun e w' ⟨he,hb⟩=>⟨_,he,?_,hb⟩
  exact⟨none,0,none,0,[],rfl,World.ownsRow_nil _ _ _ _,IL.nil _ _⟩
end
section
open Go Go.RowKit Go.Shelf Go.Lib Go.Sort
theorem Cu (N:Int) (pe:Option Addr) (ne ce:Nat) (pw:Option Addr) (nw cw:Nat) (E:List (Int × Int)) (hs:List Hd) (W:List (List ByteArray)) (w:World) (hE:Rd w 2 pe ne (aj E)) (hW:JY w pw nw hs W) (hz:CC W) :
  Calls prog 175 #[.agg #[.int .i64 N,.slice pe ne ce,.slice pw nw cw]] w fun e w'=>∃ v,e=.returned (.tuple #[v,.int .i64 (oC N E W)])/\IE w' w.heap.size v (mC N E W) (mB N E W) (mD N E W)/\Ext w w':=by
 refine(zZ N pe ne ce pw nw cw E hs W w hE hW hz).mono ?_
 rintro e w' ⟨v,h1,h2,h3⟩
 refine⟨v,h1,?_,h3⟩
 unfold mC mB mD
 rw [<- mF GJ,show (bk a9:List ByteArray->_)=fun l=>aO (aE a9 l) from funext fun l=>(mF Hm l).symm]
 exact h2
theorem r8 {w:World} {base:Nat} {e:TypeId} {size n c:Nat} {q:Option Addr} {xs:List Value} (h:w.ownsRow base e size (.slice q n c) n xs) {b:Nat} (hb:b<base) (i:Nat) (u:Value):(w.setCell ⟨b,i,none⟩ u).ownsRow base e size (.slice q n c) n xs:=by
 refine⟨h.1,?_⟩
 rcases h.2 with h2 | ⟨g,cap,cur,h1,hg,hh,r⟩
 ·exact .inl h2
 ·exact .inr ⟨g,cap,cur,h1,hg,(Below.heap_setCell w ⟨b,i,none⟩ u g (by show g≠b;omega)).trans hh,r⟩
theorem IE.set {w:World} {base:Nat} {v:Value} {N:Int} {E:List (Int × Int)} {W:List (List ByteArray)} (h:IE w base v N E W) {b:Nat} (hb:b<base) (i:Nat) (u:Value):IE (w.setCell ⟨b,i,none⟩ u) base v N E W:=by
 obtain⟨pe,ce,pw,cw,hs,h1,h2,h3⟩:=h
 exact⟨pe,ce,pw,cw,hs,h1,r8 h2 hb i u,h3.hn,r8 h3.row hb i u,fun j hj=>r8 (h3.each j hj) hb i u⟩
theorem IE.mono {w:World} {base b:Nat} {v:Value} {N:Int} {E:List (Int × Int)} {W:List (List ByteArray)} (h:IE w base v N E W) (hb:b<=base):IE w b v N E W:=by
 obtain⟨pe,ce,pw,cw,hs,h1,h2,h3⟩:=h
 exact⟨pe,ce,pw,cw,hs,h1,aP h2 hb,h3.hn,aP h3.row hb,fun j hj=>aP (h3.each j hj) hb⟩
end
section
open Go Go.RowKit Go.Shelf Go.Lib Go.Sort
def fo (E:List (Int × Int)) (k:Nat):List (Int × Int):=(E.take k).map bd ++ E.drop k
theorem zw (E:List (Int × Int)) (k:Nat):(fo E k).length=E.length:=by simp [fo];omega
theorem zx (E:List (Int × Int)) (k:Nat) (h:k<E.length):ae (fo E k) k=ae E k:=by
 have hl:k<(fo E k).length:=by rw [zw];exact h
 unfold ae fo
 rw [List.getD_eq_getElem?_getD,List.getD_eq_getElem?_getD,List.getElem?_append_right (by simp;omega)]
 simp [Nat.min_eq_left (Nat.le_of_lt h)]
theorem wm (E:List (Int × Int)) (k:Nat) (h:k<E.length):((aj (fo E k)).set (k*2) (.int .i64 (ae E k).2)).set (k*2+1) (.int .i64 (ae E k).1)=aj (fo E (k+1)):=by
 have h1:aj (fo E k)=aj ((E.take k).map bd) ++ ([.int .i64 (ae E k).1,.int .i64 (ae E k).2] ++ aj (E.drop (k+1))):=by
  unfold fo
  rw [aF,kH E k h]
  rfl
 have h2:aj (fo E (k+1))=aj ((E.take k).map bd) ++ ([.int .i64 (ae E k).2,.int .i64 (ae E k).1] ++ aj (E.drop (k+1))):=by
  unfold fo
  rw [eM bd E k h,aF,aF,List.append_assoc]
  rfl
 have hl:(aj ((E.take k).map bd)).length=k*2:=by rw [bS,List.length_map,List.length_take];omega
 rw [h1,h2,List.set_append_right _ _ (by omega),List.set_append_right _ _ (by omega),hl]
 simp [show k*2+1 - k*2=1 from by omega]
theorem CD (N:Int) (pe:Option Addr) (ne ce:Nat) (pw:Option Addr) (nw cw:Nat) (E:List (Int × Int)) (hs:List Hd) (W:List (List ByteArray)) (w:World) (hE:Rd w 2 pe ne (aj E)) (hW:JY w pw nw hs W) (hz:CC W) (hn:ne<=100000) :
  Calls prog 106 #[.agg #[.int .i64 N,.slice pe ne ce,.slice pw nw cw]] w fun e w'=>∃ v,e=.returned (.tuple #[v,.int .i64 (oC N (E.map bd) W)])/\IE w' w.heap.size v (mC N (E.map bd) W) (mB N (E.map bd) W) (mD N (E.map bd) W)/\Ext w w':=by
 have l1:=hE.nE
 have NS:=lh (fun W1 (h:Ext w W1)=>zI pe ne ce E W1 (hE.ext h) hn)
 have HW:=lh hW;clear hW
 have HZ:=lh hz;clear hz
 have L1:=lh l1;clear l1
 clear hE
 have S0:=lh (((Ic.start w).al #[.int .i64 N,.slice pe ne ce,.slice pw nw cw] 102 w.heap.size rfl).al #[.int .i64 0,.slice none 0 0,.slice none 0 0] 102 (w.heap.size+1) (by simp))
 go_enter func106,ntmps106
 go_wp2_with (go_at_call 174;go_must (refine(NS.out _ S0.out.ext).mono ?_;rintro e w1 ⟨q,c,rfl,ho,hb⟩;have S1:=S0.out.fresh hb ho (Nat.le_refl _);obtain⟨c0,c1,c2,f1⟩:=uW (S1.blk 2 rfl);have S2:=lh S1;clear S1 ho hb))
 go_loopw [4,5,13] (fun _ _ i wr=>∃ k:Nat,k<=ne/\i=.int .i64 k/\Ic w wr [.own 98 2 q ne c (aj (fo E k)),.blk (w.heap.size+1) 102 #[.int .i64 0,.slice none 0 0,.slice none 0 0],.blk w.heap.size 102 #[.int .i64 N,.slice q ne c,.slice pw nw cw]]) (fun _ _ i _=>ne - (intOf i).toNat)
 case atStart=>exact⟨0,Nat.zero_le _,rfl,by have:=S2.out.set 2 rfl 1 (.slice q ne c);rwa [show fo E 0=E from by simp [fo]]⟩
 case round =>
  clear S2 c0 c1 c2 f1
  obtain⟨k,hk,rfl,S⟩:=hrel
  obtain⟨cz,c0,c1,c2⟩:=eh (S.blk 2 rfl)
  by_cases hlt:k<ne
  ·have p1:=(S.rd 0 rfl (by omega)).ptr
   have e1:=(S.rd 0 rfl (by omega)).cE hlt
   have e2:=(S.rd 0 rfl (by omega)).cE2 hlt
   rw [zx E k (by rw [<- L1.out];exact hlt)] at e1 e2
   have k1:=aA (S.own 0 rfl) (by omega) (k*2)
   have k2:=aA (S.own 0 rfl) (by omega) (k*2+1)
   have z1:=(S.blt 0 rfl (by omega)).2
   have z2:(be q (k*2)).block<wr.heap.size:=z1
   have k3:wr.frozen? ⟨(be q (k*2)).block,(be q (k*2)).off+1,none⟩=false:=k2
   have e3:wr.cell? ⟨(be q (k*2)).block,(be q (k*2)).off+1,none⟩=some (.int .i64 (ae E k).2):=e2
   have ya:_≠_:=p9 q (show (k*2)≠(k*2)+1 by omega)
   have yb:_≠_:=p9 q (show (k*2)+1≠(k*2) by omega)
   have yc:be q ((k*2))≠⟨(be q ((k*2))).block,(be q ((k*2))).off+1,none⟩:=ya
   have d1:(0:Int)<=k:=by omega
   have d2:(k:Int)<ne:=by omega
   have hst:=lh (wm E k (by rw [<- L1.out];exact hlt))
   have SH:=lh S;clear S
   go_wp2
   go_roundw
   case rel=>exact⟨k+1,by omega,by go_num,by rw [<- hst.out];exact(SH.out.junk _).setRow2 0 rfl (k*2) (by omega) _ _⟩
   case measure=>simp [intOf];omega
  ·obtain rfl:k=ne:=by omega
   have HT:Hid (fo E k=E.map bd):=by unfold Hid fo;rw [List.take_of_length_le (by rw [<- L1.out];omega),List.drop_of_length_le (by rw [<- L1.out];omega),List.append_nil]
   have RQ:=lh (S.rd 0 rfl (by omega))
   rw [HT.out] at RQ
   have SH:=lh S;clear S
   go_wp2_with (go_at_call 175;go_must (refine(Cu N q k c pw nw cw (E.map bd) hs W _ RQ.out (HW.out.ext SH.out.ext) HZ.out).mono ?_;rintro e w2 ⟨v,rfl,hG,hb2⟩;have S2:=SH.out.call hb2;have z2:w.heap.size+1<wr.heap.size:=(SH.out.blk 1 rfl).lt;have HG:=lh hG;obtain⟨U7,Uu,U8,Uz,hs',rfl,_,_⟩:=hG;obtain⟨x0,x1,x2,f0,f1,f2⟩:=nG (S2.blk 1 rfl);have S3:=lh S2;clear S2))
   have S4:=((S3.out.set 1 rfl 0 (.int .i64 (mC N (E.map bd) W))).set 1 rfl 1 (.slice U7 (mB N (E.map bd) W).length Uu)).set 1 rfl 2 (.slice U8 (mD N (E.map bd) W).length Uz)
   obtain⟨b0,b1,b2⟩:=aw (S4.blk 1 rfl)
   refine bodyPost_ret (v:=.tuple #[.agg #[.int .i64 (mC N (E.map bd) W),.slice U7 (mB N (E.map bd) W).length Uu,.slice U8 (mD N (E.map bd) W).length Uz],.int .i64 (oC N (E.map bd) W)]) (by simp [results,results106,go_sem,b0,b1,b2,sizeOf102,isAgg102]) rfl ⟨_,rfl,?_,S4.ext⟩
   have hg1:=HG.out.set z2 0 (.int .i64 (mC N (E.map bd) W))
   exact((hg1.set z2 1 (.slice U7 (mB N (E.map bd) W).length Uu)).set z2 2 (.slice U8 (mD N (E.map bd) W).length Uz)).mono (by omega)
end
theorem Ih.rd {W:World} {g:Nat} {t:TypeId} {cs:Array Value} (h:Ih W g t cs) {n size:Nat} {xs:List Value} (hx:cs.toList=xs) (hn:xs.length=n*size) (hs:n<=9223372036854775807):Rd W size (some ⟨g,0,none⟩) n xs:=by
 subst hx
 refine⟨hn,.inr ⟨_,_,rfl⟩,hs,fun j hj=>?_⟩
 rw [aB,Nat.zero_add,h.cell j]
 rw [List.getD_eq_getElem?_getD,Array.getElem?_toList,Array.getElem?_eq_getElem (by simp at hn;omega)]
 rfl
end Go.Proofs.YtfjhjennfiihhaaGreat
