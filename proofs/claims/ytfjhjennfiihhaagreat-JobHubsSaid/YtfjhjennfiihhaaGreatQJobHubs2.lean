/- Texts of this claim, one behind the other: FndA, Ref5, Spec4, Rng, It4, It4b, Half4, Half4b, Chk4, Chk4b, Out4, Eq4, Ref5b, Own5, Eq5, Far20, PlainK, PlainRun, PlainEach, PlainOrd, MapK, PlainCmb, PlainHp, PlainL, PlainBF, PlainD, PlainMk, PlainA, PlainB, PlainR, Laid4, G2, G9, G11, GT, Big2. -/
import Derived.Test.YtfjhjennfiihhaaGreatQJobHubs1
set_option maxRecDepth 100000
set_option maxHeartbeats 16000000
namespace Go.Proofs.YtfjhjennfiihhaaGreat
section
open Go Go.RowKit Go.Maps
theorem methAll (a:Nat) (w:World):Calls Tryz.prog 188 #[.map (some a)] w fun e w'=>e=.returned (.func (.func 189) #[.map (some a)] #[])∧Ext w w':=by
 go_enter Tryz.func188,Tryz.ntmps188
 go_wp2
 go_ret
 exact⟨rfl,Below.refl _ _⟩
def CloAll (w:World) (L:List Po) (s:ByteArray) (S:Int→Prop) (a n:Nat) (i:Nat) (v:Value) (W:World):Prop :=
 match i with
 | 2=>v=.func (.func 189) #[.map (some a)] #[]
 | 5=>∃ q c,v=.slice q (findL L s).length c∧Rd W 1 q (findL L s).length (encI (findL L s))
 | 6=>∃ b f,v=.map (some b)∧MapI Tryz.prog 3 EB b 1000 f W∧∀ x,f x=some true↔x∈findL L s
 | 7=>∃ b f,v=.map (some b)∧w.heap.size≤b∧MapI Tryz.prog 3 EB b (n+1000) f W∧∀ x,f x=some true↔(S x∧x∈findL L s)
 | _=>True
theorem CloAll_mono {w:World} {L:List Po} {s:ByteArray} {S:Int→Prop} {a n:Nat}:∀ i v W W',Ext W W'→CloAll w L s S a n i v W→CloAll w L s S a n i v W':=by
 intro i v W W' he h
 unfold CloAll at *
 split at h
 ·exact h
 ·obtain⟨q,c,h1,h2⟩:=h;exact⟨q,c,h1,h2.ext he⟩
 ·obtain⟨b,f,h1,h2,h3⟩:=h;exact⟨b,f,h1,h2.ext he,h3⟩
 ·obtain⟨b,f,h1,h0,h2,h3⟩:=h;exact⟨b,f,h1,h0,h2.ext he,h3⟩
 ·trivial
theorem closAll (a n:Nat) (f:Int→Option Bool) (S:Int→Prop) (s:ByteArray) (b5 b3:Nat) (p:Option Addr) (np cp:Nat) (hs:List Hd) (L:List Po) (w:World) (hA:MapI Tryz.prog 3 EB a n f w) (hf:∀ x,f x=some true↔S x)
  (h5:w.cell? ⟨b5,0,none⟩=some (.func (.func 188) #[] #[])) (h3:w.cell? ⟨b3,0,none⟩=some (.slice p np cp)) (hL:RdP w p np hs L) (hok:PoOk L) (hn:n≤500000) :
  Calls Tryz.prog 233 #[.map (some a),.string s,.pointer (some ⟨b5,0,none⟩),.pointer (some ⟨b3,0,none⟩)] w fun e w'=>∃ c h,e=.returned (.map (some c))∧Sep w w' [.map Tryz.prog 3 EB c (n+1000) h]∧∀ x,h x=some true↔(S x∧x∈findL L s):=by
 have HFO:=Lib.hid (findL_ok hok s)
 have HA:=Lib.hid hA;clear hA
 have HF:=Lib.hid hf;clear hf
 have HL:=Lib.hid hL;clear hL
 have HOK:=Lib.hid hok;clear hok
 have x5:=fun x:ExtOf w=>x.ext.cell h5
 have x3:=fun x:ExtOf w=>x.ext.cell h3
 go_enter Tryz.func233,Tryz.ntmps233
 go_wp2
 refine wp_region_mix [true,true,false,true,true,false,false,false] (CloAll w L s S a n) (by kernel_rfl) (by kernel_rfl) (by kernel_rfl) CloAll_mono ?_
 simp only [nfM]
 repeat (go_big_quiet_step ((fail)))
 refine wpQuiet_nil ⟨⟨fun vs W hE hd=>?_,fun vs W hE hd=>?_,fun vs W hE hd=>?_,fun vs W hE hd=>?_,trivial⟩,fun vs W hE hkn=>?_⟩
 ·simp [putM,execOp,go_sem]
  exact(methAll a W).mono fun e w' ⟨h1,h2⟩=>⟨_,h1,rfl,h2⟩
 ·simp [putM,go_sem]
  exact(FindG p np cp hs L s W (HL.out.ext hE) HOK.out).mono fun e w' ⟨q,c,h1,h2⟩=>⟨_,h1,⟨q,c,rfl,h2.rd 0 rfl (by have:=HFO.out.1;omega)⟩,h2.ext⟩
 ·obtain⟨q,c,e1,e2⟩:=hd 5 (by decide) rfl
  simp [putM,go_sem,e1]
  exact(ofG q _ c (findL L s) W e2 HFO.out.2 (by have:=HFO.out.1;omega)).mono fun e w' ⟨b,g,h1,h2,h3⟩=>⟨_,h1,⟨b,g,rfl,(h2.map 0 rfl).mono HFO.out.1,h3⟩,h2.ext⟩
 ·have e0:vs 2=_:=hd 2 (by decide) rfl
  obtain⟨b,g,e1,e2,e3⟩:=hd 6 (by decide) rfl
  simp [putM,execOp,go_sem,e0,e1]
  exact(meetG a b n 1000 f g W (HA.out.ext hE) e2 (by omega)).mono fun e w' ⟨c,h,h1,h2,h3⟩=>⟨_,h1,⟨c,h,rfl,Nat.le_trans hE.size (h2.new _ (List.mem_singleton.2 rfl) c rfl),(h2.map 0 rfl).mono (by omega),fun x=>by rw [h3,HF.out,e3]⟩,h2.ext⟩
 ·obtain⟨_,⟨_,_,k1,_⟩,⟨_,_,k2,_⟩,⟨c,h,k3,k4,k5,k6⟩,_⟩:=hkn
  have HK5:=Lib.hid k5
  have HK6:=Lib.hid k6
  have HE:=Lib.hid hE
  have HK4:=Lib.hid k4
  simp only [putM,k3,List.length_cons,List.length_nil,Nat.zero_add,Nat.reduceAdd,List.drop_succ_cons,List.drop_zero]
  clear x5 x3 k1 k2 k3 k4 k5 k6 hE
  go_wp2
  go_ret
  exact⟨c,h,rfl,⟨HE.out,fun q hq=>by rw [List.mem_singleton] at hq;subst hq;exact HK5.out,fun q hq i hi=>by rw [List.mem_singleton] at hq;subst hq;have:i=c:=hi;rw [this];exact HK4.out,List.pairwise_singleton _ _⟩,HK6.out⟩
theorem foldAll (a n:Nat) (f:Int→Option Bool) (S:Int→Prop) (R:List ByteArray) (pr:Option Addr) (nr cr:Nat) (b5 b3:Nat) (p:Option Addr) (np cp:Nat) (hs:List Hd) (L:List Po) (w:World) (hA:MapI Tryz.prog 3 EB a n f w) (hf:∀ x,f x=some true↔S x)
  (hR:Rd w 1 pr nr (encS R)) (h5:w.cell? ⟨b5,0,none⟩=some (.func (.func 188) #[] #[])) (h3:w.cell? ⟨b3,0,none⟩=some (.slice p np cp)) (hL:RdP w p np hs L) (hok:PoOk L) (hn:n+1000*nr≤400000) :
  Calls Tryz.prog 230 #[.map (some a),.slice pr nr cr,.func (.func 233) #[] #[.pointer (some ⟨b5,0,none⟩),.pointer (some ⟨b3,0,none⟩)]] w fun e w'=>∃ c h,e=.returned (.map (some c))∧MapI Tryz.prog 3 EB c (n+1000*nr) h w'∧Ext w w'∧∀ x,h x=some true↔(S x∧∀ u∈R,x∈findL L u):=by
 have p1:=hR.ptr
 have n1:=hR.small
 have l1:=hR.nS
 have HA:=Lib.hid hA;clear hA
 have HF:=Lib.hid hf;clear hf
 have HL:=Lib.hid hL;clear hL
 have HOK:=Lib.hid hok;clear hok
 have HR:=Lib.hid hR;clear hR
 have L1:=Lib.hid l1;clear l1
 have H5:=Lib.hid h5;clear h5
 have H3:=Lib.hid h3;clear h3
 go_enter Tryz.func230,Tryz.ntmps230
 go_wp2
 go_loopw [0,8,11] (fun v _ i wr=>∃ (k b:Nat) (g:Int→Option Bool),k≤nr∧i=.int .i64 k∧v=.map (some b)∧Ext w wr∧MapI Tryz.prog 3 EB b (n+1000*k) g wr∧∀ x,g x=some true↔(S x∧∀ u∈R.take k,x∈findL L u)) (fun _ _ i _=>nr - (intOf i).toNat)
 case atStart=>exact⟨0,a,f,Nat.zero_le _,rfl,rfl,Below.refl _ _,HA.out,fun x=>by rw [HF.out];simp⟩
 case round =>
  obtain⟨k,b,g,hk,rfl,rfl,hE,hM,hg⟩:=hrel
  have HE:=Lib.hid hE;clear hE
  have HM:=Lib.hid hM;clear hM
  have HG:=Lib.hid hg;clear hg
  by_cases hlt:k<nr
  ·have g1:=HE.out.cell (HR.out.cS hlt)
   have d1:(0:Int)≤k:=by omega
   have d2:(k:Int)<nr:=by omega
   go_wp2_with (go_at_call 233;go_must (refine(closAll b (n+1000*k) g _ (nth R k) b5 b3 p np cp hs L _ HM.out HG.out (HE.out.cell H5.out) (HE.out.cell H3.out) (HL.out.ext HE.out) HOK.out (by omega)).mono ?_;rintro e w2 ⟨c,h,rfl,S1,hh⟩;have S2:=Lib.hid S1;have HH:=Lib.hid hh;clear S1 hh))
   go_roundw
   case rel=>exact⟨k+1,c,h,by omega,by go_num,rfl,Ext.trans HE.out S2.out.ext,(S2.out.map 0 rfl).mono (by omega),fun x=>by
    rw [HH.out,take_succ_nth R k (by rw [← L1.out];exact hlt)]
    constructor
    ·rintro⟨⟨h1,h2⟩,h3⟩
     refine⟨h1,fun u hu=>?_⟩
     rcases List.mem_append.1 hu with h | h
     ·exact h2 u h
     ·rw [List.mem_singleton] at h;subst h;exact h3
    ·rintro⟨h1,h2⟩
     exact⟨⟨h1,fun u hu=>h2 u (List.mem_append_left _ hu)⟩,h2 _ (by simp)⟩⟩
   case measure=>simp [intOf];omega
  ·obtain rfl:k=nr:=by omega
   go_wp2
   go_ret
   exact⟨b,g,rfl,HM.out,HE.out,fun x=>by rw [HG.out,List.take_of_length_le (by rw [← L1.out];omega)]⟩
def allS (L:List Po) (ws:List ByteArray):List Int:=putAll ltI ((findL L (nth ws 0)).filter fun x=>ws.all fun u=>(findL L u).contains x)
theorem allS_mem {L:List Po} {ws:List ByteArray} {x:Int} (h:0<ws.length):(x∈(findL L (nth ws 0)).filter fun x=>ws.all fun u=>(findL L u).contains x)↔(x∈findL L (nth ws 0)∧∀ u∈ws.drop 1,x∈findL L u):=by
 rw [List.mem_filter,List.all_eq_true]
 constructor
 ·rintro⟨h1,h2⟩
  exact⟨h1,fun u hu=>by have:=h2 u (List.mem_of_mem_drop hu);simpa using this⟩
 ·rintro⟨h1,h2⟩
  refine⟨h1,fun u hu=>?_⟩
  rw [← List.take_append_drop 1 ws] at hu
  rcases List.mem_append.1 hu with hu | hu
  ·have:u=nth ws 0:=by
    have e:ws.take 1=[nth ws 0]:=by rw [take_succ_nth ws 0 h];simp
    rw [e] at hu;simpa using hu
   rw [this];simpa using h1
  ·simpa using h2 u hu
def FouAll (L:List Po) (ws:List ByteArray) (nr:Nat) (i:Nat) (v:Value) (W:World):Prop :=
 match i with
 | 4=>∃ q c,v=.slice q (findL L (nth ws 0)).length c∧Rd W 1 q (findL L (nth ws 0)).length (encI (findL L (nth ws 0)))
 | 5=>∃ b f,v=.map (some b)∧MapI Tryz.prog 3 EB b 1000 f W∧∀ x,f x=some true↔x∈findL L (nth ws 0)
 | 9=>∃ b f,v=.map (some b)∧MapI Tryz.prog 3 EB b (1000+1000*nr) f W∧∀ x,f x=some true↔(x∈findL L (nth ws 0)∧∀ u∈ws.drop 1,x∈findL L u)
 | _=>True
theorem FouAll_mono {L:List Po} {ws:List ByteArray} {nr:Nat}:∀ i v W W',Ext W W'→FouAll L ws nr i v W→FouAll L ws nr i v W':=by
 intro i v W W' he h
 unfold FouAll at *
 split at h
 ·obtain⟨q,c,h1,h2⟩:=h;exact⟨q,c,h1,h2.ext he⟩
 ·obtain⟨b,f,h1,h2,h3⟩:=h;exact⟨b,f,h1,h2.ext he,h3⟩
 ·obtain⟨b,f,h1,h2,h3⟩:=h;exact⟨b,f,h1,h2.ext he,h3⟩
 ·trivial
theorem foundAll (p:Option Addr) (np cp:Nat) (hs:List Hd) (L:List Po) (pr:Option Addr) (nr cr:Nat) (ws:List ByteArray) (w:World) (hL:RdP w p np hs L) (hok:PoOk L) (hR:Rd w 1 pr nr (encS ws)) (hcr:nr≤cr) (h0:0<nr) (hn:nr≤100) :
  Calls Tryz.prog 187 #[.slice p np cp,.slice pr nr cr,.func (.func 188) #[] #[]] w fun e w'=>∃ q c,e=.returned (.tuple #[.slice q (allS L ws).length c,.int .i64 0])∧Sep w w' [.own 3 1 q (allS L ws).length c (encI (allS L ws))]:=by
 obtain⟨l0,hl0⟩:∃ l0,l0=(findL L (nth ws 0)).filter fun x=>ws.all fun u=>(findL L u).contains x:=⟨_,rfl⟩
 have hal:allS L ws=putAll ltI l0:=by rw [hl0];rfl
 rw [hal]
 have HMEM:Hid (∀ x,x∈l0↔(x∈findL L (nth ws 0)∧∀ u∈ws.drop 1,x∈findL L u)):=fun x=>by rw [hl0];exact allS_mem (by rw [← hR.nS];exact h0)
 clear hal hl0
 have HFO:=Lib.hid (findL_ok hok (nth ws 0))
 have p1:=hR.ptr
 have n1:=hR.small
 have g1:=hR.cS h0
 have HRC:Hid (Rd w 1 (cutp pr cr 1 1) (nr - 1) (encS (ws.drop 1))):=by
  have:=hR.cut (l:=1) (h:=nr) (by omega) (Nat.le_refl _) hcr
  rw [encS_drop,List.take_of_length_le (by rw [encS_len,List.length_drop,hR.nS];omega)] at this
  exact this
 have L1:=Lib.hid hR.nS
 clear hR
 have HL:=Lib.hid hL;clear hL
 have HOK:=Lib.hid hok;clear hok
 have S0:=Lib.hid (((Sep.start w).al #[.slice p np cp] 28 w.heap.size rfl).al #[.func (.func 188) #[] #[]] 254 (w.heap.size+1) (by simp))
 have hne:((nr:Int) == 0)=false:=by simp;omega
 have d1:(1:Int)≤nr:=by omega
 have d2:(0:Int)<nr:=by omega
 have d3:(nr:Int)≤cr:=by omega
 go_enter Tryz.func187,Tryz.ntmps187
 go_wp2
 obtain⟨X,hX⟩:∃ X,X=((w.alloc (.cells #[.slice p np cp] 28)).alloc (.cells #[.func (.func 188) #[] #[]] 254)):=⟨_,rfl⟩
 have SX:=S0.out
 rw [← hX] at SX ⊢
 have HX:=Lib.hid SX.ext
 have c3:=(SX.blk 1 rfl).cell 0
 have c5:=(SX.blk 0 rfl).cell 0
 have g2:=HX.out.cell g1
 clear hX S0 g1 SX
 have H3:Hid (X.cell? ⟨w.heap.size,0,none⟩=some (.slice p np cp)):=c3
 have H5:Hid (X.cell? ⟨w.heap.size+1,0,none⟩=some (.func (.func 188) #[] #[])):=c5
 have x3:=fun x:ExtOf X=>x.ext.cell c3
 have x5:=fun x:ExtOf X=>x.ext.cell c5
 have xg:=fun x:ExtOf X=>x.ext.cell g2
 refine wp_region_mix [true,true,true,true,false,false,true,true,true,false] (FouAll L ws nr) (by kernel_rfl) (by kernel_rfl) (by kernel_rfl) FouAll_mono ?_
 simp only [nfM]
 repeat (go_big_quiet_step ((fail)))
 refine wpQuiet_nil ⟨⟨fun vs W hE hd=>?_,fun vs W hE hd=>?_,fun vs W hE hd=>?_,trivial⟩,fun vs W hE hkn=>?_⟩
 ·simp [putM,go_sem]
  exact(FindG p np cp hs L _ W ((HL.out.ext HX.out).ext hE) HOK.out).mono fun e w' ⟨q,c,h1,h2⟩=>⟨_,h1,⟨q,c,rfl,h2.rd 0 rfl (by have:=HFO.out.1;omega)⟩,h2.ext⟩
 ·obtain⟨q,c,e1,e2⟩:=hd 4 (by decide) rfl
  simp [putM,go_sem,e1]
  exact(ofG q _ c _ W e2 HFO.out.2 (by have:=HFO.out.1;omega)).mono fun e w' ⟨b,g,h1,h2,h3⟩=>⟨_,h1,⟨b,g,rfl,(h2.map 0 rfl).mono HFO.out.1,h3⟩,h2.ext⟩
 ·obtain⟨b,g,e1,e2,e3⟩:=hd 5 (by decide) rfl
  simp [putM,go_sem,e1]
  exact(foldAll b 1000 g _ (ws.drop 1) (cutp pr cr 1 1) (nr - 1) (cr - 1) (w.heap.size+1) w.heap.size p np cp hs L W e2 e3 ((HRC.out.ext HX.out).ext hE) (hE.cell H5.out) (hE.cell H3.out) ((HL.out.ext HX.out).ext hE) HOK.out (by omega)).mono fun e w' ⟨c,h,h1,h2,h3,h4⟩=>⟨_,h1,⟨c,h,rfl,h2.mono (by omega),h4⟩,h3⟩
 ·obtain⟨⟨_,_,k1,_⟩,⟨_,_,k2,_⟩,⟨b,f,k3,k4,k5⟩,_⟩:=hkn
  have HK4:=Lib.hid k4
  have HE:=Lib.hid (Ext.trans HX.out hE)
  have HK5:Hid (∀ x,f x=some true↔x∈l0):=fun x=>by rw [k5,HMEM.out]
  simp only [putM,k1,k2,k3,List.length_cons,List.length_nil,Nat.zero_add,Nat.reduceAdd,List.drop_succ_cons,List.drop_zero]
  clear x5 x3 xg k1 k2 k3 k4 k5 hE c3 c5 g2
  go_wp2_with (go_at_call 234;go_must (refine(risingG b _ f _ _ HK4.out HK5.out (by omega)).mono ?_;rintro e w2 ⟨q,c,rfl,S1⟩;have S2:=Lib.hid (((Sep.start w).call HE.out).comp S1);clear S1))
  go_ret2
  exact⟨q,c,rfl,S2.out⟩
theorem foundAll0 (p:Option Addr) (np cp:Nat) (pr:Option Addr) (cr:Nat) (w:World) :
  Calls Tryz.prog 187 #[.slice p np cp,.slice pr 0 cr,.func (.func 188) #[] #[]] w fun e w'=>e=.returned (.tuple #[.slice none 0 0,.int .i64 1])∧Ext w w':=by
 go_enter Tryz.func187,Tryz.ntmps187
 go_wp2
 go_ret2
 exact⟨rfl,Ext.alloc (Ext.alloc (Below.refl _ _) _) _⟩
end
section
open Go Go.RowKit Go.Maps
def inB (l:List Int) (x:Int):Bool:=l.any fun y=>y == x
theorem inB_iff (l:List Int) (x:Int):inB l x=true↔x∈l:=by unfold inB;simp
end
section
open Go Go.RowKit
theorem nth_mem {α:Type} [Inhabited α] {l:List α} {k:Nat} (h:k<l.length):nth l k∈l:=by rw [nth_eq h];exact List.getElem_mem _
theorem rises_nth {l:List Int} (h:Rises ltI l) {k:Nat} (hk:k+1<l.length):nth l k<nth l (k+1):=by
 rw [nth_eq (by omega),nth_eq hk]
 have:=List.pairwise_iff_getElem.1 h k (k+1) (by omega) hk (by omega)
 simpa [ltI] using this
def rowL (O T:List Int) (v:Nat):List Int:=(T.drop (nth O v).toNat).take ((nth O (v+1)).toNat - (nth O v).toNat)
def rowX (O T:List Int) (v:Nat):List (Int × Int):=(rowL O T v).map fun x=>((v:Int),x)
def pairsK (O T:List Int) (k:Nat):List (Int × Int):=(List.range k).flatMap (rowX O T)
def pairs (O T:List Int):List (Int × Int):=pairsK O T (O.length - 1)
theorem pairsK_step (O T:List Int) (k:Nat):pairsK O T (k+1)=pairsK O T k ++ rowX O T k:=by
 unfold pairsK;rw [List.range_succ,List.flatMap_append];simp
structure OffOk (O T:List Int):Prop where
 two:2≤O.length
 lo:∀ v,v<O.length→0≤nth O v
 hi:∀ v,v<O.length→nth O v≤T.length
 le:∀ v,v+1<O.length→nth O v≤nth O (v+1)
theorem rowL_len {O T:List Int} (h:OffOk O T) {v:Nat} (hv:v+1<O.length):(rowL O T v).length=(nth O (v+1)).toNat - (nth O v).toNat:=by
 have h1:=h.hi (v+1) hv
 unfold rowL
 rw [List.length_take,List.length_drop]
 omega
def okRow (n:Int) (l:List Int):Bool:=(List.range l.length).all (okAt n l)
theorem okRow_iff {n:Int} {l:List Int}:okRow n l=true↔(∀ x∈l,0≤x∧x<n)∧Rises ltI l:=by
 unfold okRow
 rw [List.all_eq_true]
 constructor
 ·intro h
  have h1:∀ i,i<l.length→okAt n l i=true:=fun i hi=>h i (List.mem_range.2 hi)
  refine⟨fun x hx=>?_,?_⟩
  ·obtain⟨i,hi,rfl⟩:=List.mem_iff_getElem.1 hx
   have:=h1 i hi
   unfold okAt at this
   rw [nth_eq hi] at this
   simp only [Bool.and_eq_true,decide_eq_true_eq] at this
   exact this.1
  ·rw [← rise_iff stoI]
   unfold riseB
   rw [List.all_eq_true]
   intro i hi
   rw [List.mem_range] at hi
   have:=h1 (i+1) (by omega)
   unfold okAt at this
   unfold riseAt ltI
   simp at this ⊢
   exact this.2
 ·rintro⟨h1,h2⟩ i hi
  rw [List.mem_range] at hi
  have h3:=h1 _ (nth_mem hi)
  unfold okAt
  rw [decide_eq_true h3.1,decide_eq_true h3.2]
  rcases Nat.eq_zero_or_pos i with h4 | h4
  ·simp [h4]
  ·have:=rises_nth h2 (k:=i - 1) (by omega)
   rw [show i - 1+1=i by omega] at this
   simp [this]
def sortB (O:List Int):Bool:=(List.range (O.length - 1)).all fun v=>decide (nth O v≤nth O (v+1))
def offB (O T:List Int):Bool:=decide (2≤O.length) && decide (O.length≤201) && decide (T.length≤2000) && decide (nth O 0=0) && decide (nth O (O.length - 1)=T.length) && sortB O
def halfB (O T:List Int):Bool:=offB O T && (List.range (O.length - 1)).all fun v=>okRow ((O.length - 1:Nat):Int) (rowL O T v)
theorem sortB_at {O:List Int} (h:sortB O=true) {v:Nat} (hv:v+1<O.length):nth O v≤nth O (v+1):=by
 unfold sortB at h
 have:=List.all_eq_true.1 h v (List.mem_range.2 (by omega))
 simpa using this
theorem sortB_le {O:List Int} (h:sortB O=true):∀ (d v:Nat),v+d<O.length→nth O v≤nth O (v+d)
 | 0,v,_=>Int.le_refl _
 | d+1,v,hv=>Int.le_trans (sortB_le h d v (by omega)) (sortB_at h (by omega))
theorem offB_parts {O T:List Int} (h:offB O T=true):2≤O.length∧O.length≤201∧T.length≤2000∧nth O 0=0∧nth O (O.length - 1)=T.length∧sortB O=true:=by
 unfold offB at h
 simp only [Bool.and_eq_true,decide_eq_true_eq] at h
 obtain⟨⟨⟨⟨⟨h1,h2⟩,h3⟩,h4⟩,h5⟩,h6⟩:=h
 exact⟨h1,h2,h3,h4,h5,h6⟩
theorem offOk_of {O T:List Int} (h:offB O T=true):OffOk O T:=by
 obtain⟨h1,h2,h3,h4,h5,h6⟩:=offB_parts h
 refine⟨h1,fun v hv=>?_,fun v hv=>?_,fun v hv=>sortB_at h6 hv⟩
 ·have:=sortB_le h6 v 0 (by omega)
  rw [h4,Nat.zero_add] at this;exact this
 ·have:=sortB_le h6 (O.length - 1 - v) v (by omega)
  rw [show v+(O.length - 1 - v)=O.length - 1 by omega,h5] at this;exact this
def checkR (O T R V:List Int):Bool :=
 decide (O.length=R.length) && decide (T.length=V.length) && halfB O T && halfB R V && (pairs O T).all fun x=>inB (rowL R V x.2.toNat) x.1
def okStep (n:Int) (p x:Int × Int):Bool:=decide (0≤x.2) && decide (x.2<n) && !(decide (x.1=p.1) && decide (x.2≤p.2))
def okFrom (n:Int):Int × Int→List (Int × Int)→Bool
 | _,[]=>true
 | p,x :: l=>okStep n p x && okFrom n x l
def lastP:Int × Int→List (Int × Int)→Int × Int
 | p,[]=>p
 | _,x :: l=>lastP x l
theorem lastP_append (p:Int × Int):∀ (l m:List (Int × Int)),lastP p (l ++ m)=lastP (lastP p l) m
 | [],_=>rfl
 | x :: l,m=>by rw [List.cons_append,lastP,lastP,lastP_append x l m]
 termination_by l=>l.length
theorem okFrom_append (n:Int):∀ (l:List (Int × Int)) (p:Int × Int) (m:List (Int × Int)),okFrom n p (l ++ m)=(okFrom n p l && okFrom n (lastP p l) m)
 | [],p,m=>by simp [okFrom,lastP]
 | x :: l,p,m=>by rw [List.cons_append,okFrom,okFrom,okFrom_append n l x m,lastP,Bool.and_assoc]
theorem okFrom_snoc (n:Int) (p:Int × Int) (l:List (Int × Int)) (x:Int × Int):okFrom n p (l ++ [x])=(okFrom n p l && okStep n (lastP p l) x):=by
 rw [okFrom_append];simp [okFrom]
theorem lastP_snoc (p:Int × Int) (l:List (Int × Int)) (x:Int × Int):lastP p (l ++ [x])=x:=by rw [lastP_append];rfl
theorem okFrom_no {n:Int} {p:Int × Int} {l m:List (Int × Int)} (h:okFrom n p l=false) (hp:l <+: m):okFrom n p m=false:=by
 obtain⟨t,rfl⟩:=hp
 rw [okFrom_append,h];rfl
theorem okFrom_same (n v:Int):∀ (l:List Int) (y:Int),okFrom n (v,y) (l.map fun x=>(v,x))=true↔(∀ x∈l,0≤x∧x<n)∧Rises ltI (y :: l)
 | [],y=>by simp [okFrom,Rises]
 | x :: l,y=>by
  rw [List.map_cons,okFrom,Bool.and_eq_true,okFrom_same n v l x]
  unfold okStep
  simp only [decide_true,Bool.true_and,Bool.and_eq_true,decide_eq_true_eq,Bool.not_eq_true',decide_eq_false_iff_not]
  constructor
  ·rintro⟨⟨⟨h1,h2⟩,h3⟩,h4,h5⟩
   refine⟨fun z hz=>?_,?_⟩
   ·rcases List.mem_cons.1 hz with rfl | hz
    ·exact⟨h1,h2⟩
    ·exact h4 z hz
   ·refine List.pairwise_cons.2 ⟨fun z hz=>?_,h5⟩
    rcases List.mem_cons.1 hz with rfl | hz
    ·simp [ltI];omega
    ·have:=(List.pairwise_cons.1 h5).1 z hz
     simp [ltI] at this ⊢;omega
  ·rintro⟨h1,h2⟩
   obtain⟨h3,h4⟩:=List.pairwise_cons.1 h2
   have:=h3 x (by simp)
   simp [ltI] at this
   exact⟨⟨h1 x (by simp),by omega⟩,fun z hz=>h1 z (by simp [hz]),h4⟩
theorem okFrom_row {n v:Int} {p:Int × Int} (hp:p.1≠v) (l:List Int):okFrom n p (l.map fun x=>(v,x))=okRow n l:=by
 rw [Bool.eq_iff_iff,okRow_iff]
 cases l with
 | nil=>simp [okFrom,Rises]
 | cons x l =>
  rw [List.map_cons,okFrom,Bool.and_eq_true,okFrom_same n v l x]
  unfold okStep
  have hne:decide (v=p.1)=false:=by simp;exact fun e=>hp e.symm
  simp only [hne,Bool.false_and,Bool.not_false,Bool.and_true,Bool.and_eq_true,decide_eq_true_eq]
  constructor
  ·rintro⟨h1,h2,h3⟩
   exact⟨fun z hz=>(List.mem_cons.1 hz).elim (fun e=>e ▸ h1) (h2 z),h3⟩
  ·rintro⟨h1,h2⟩
   exact⟨h1 x (by simp),fun z hz=>h1 z (by simp [hz]),h2⟩
theorem lastP_row (p:Int × Int) (v:Int):∀ l:List Int,(lastP p (l.map fun x=>(v,x))).1=if l=[] then p.1 else v
 | []=>rfl
 | x :: l=>by
  rw [List.map_cons,lastP,lastP_row (v,x) v l]
  by_cases h:l=[] <;> simp [h]
theorem lastP_lt (O T:List Int):∀ k:Nat,(lastP (-1,0) (pairsK O T k)).1<k
 | 0=>by simp [pairsK,lastP]
 | k+1=>by
  rw [pairsK_step,lastP_append]
  unfold rowX
  rw [lastP_row]
  have:=lastP_lt O T k
  split <;> omega
theorem okFrom_pairs (n:Int) (O T:List Int):∀ k:Nat,okFrom n (-1,0) (pairsK O T k)=(List.range k).all fun v=>okRow n (rowL O T v)
 | 0=>rfl
 | k+1=>by
  rw [pairsK_step,okFrom_append,okFrom_pairs n O T k,List.range_succ,List.all_append]
  congr 1
  unfold rowX
  rw [okFrom_row (by have:=lastP_lt O T k;omega)]
  simp
theorem halfB_pairs {O T:List Int} (h:offB O T=true):halfB O T=okFrom ((O.length - 1:Nat):Int) (-1,0) (pairs O T):=by
 unfold halfB pairs
 rw [h,okFrom_pairs,Bool.true_and]
theorem mem_pairs {O T:List Int} {x:Int × Int}:x∈pairs O T↔∃ v,v<O.length - 1∧x.1=(v:Int)∧x.2∈rowL O T v:=by
 unfold pairs pairsK rowX
 simp only [List.mem_flatMap,List.mem_range,List.mem_map]
 constructor
 ·rintro⟨v,h1,y,h2,rfl⟩;exact⟨v,h1,rfl,h2⟩
 ·rintro⟨v,h1,h2,h3⟩;exact⟨v,h1,x.2,h3,by rw [← h2]⟩
end
section
open Go Go.RowKit
section
variable {F:Fence} {n:Nat} {P:Program}
theorem wpQuietIn_of {ops:Array Oper} {C:World→Prop} {Q:Act→Prop}:∀ {l:List Oper} {a:Act},wpQuiet P ops C Q l a→wpQuietIn Fence.wide n P ops C Q l a
 | [],_,h=>h
 | o :: l,a,h=>by
  unfold wpQuiet at h
  unfold wpQuietIn
  refine⟨fun _ _ _ _=>trivial,?_⟩
  split
  ·rename_i hw
   rw [if_pos hw] at h
   obtain⟨v,hv,hk⟩:=h
   refine⟨v,fun w hw=>?_,wpQuietIn_of hk⟩
   have:=hv w hw
   unfold Oper.quietAt at this
   unfold Oper.quietAtIn
   generalize (execOp a.eval o).run P w=r at this
   cases r with
   | ok x w' =>
    cases x <;> first | exact this | exact this.elim | skip
    obtain⟨h1,h2⟩:=this
    exact⟨h1,fun h=>by simp [Fence.wide] at h,callsIn_wide.2 h2⟩
   | halt x w'=>exact this.elim
  ·rename_i hw
   rw [if_neg hw] at h
   exact wpQuietIn_of h
theorem wpOpIn_round {r:Nat} {ops:Array Oper} {Q:Exit→Act→World→Prop} {i:Nat} {K K':Act→World→Prop} {a:Act} {w:World} (_:F.round=none) (hnd:∀ (i:Nat) (o:Oper),ops[i]?=some o→∀ c,o.op≠.defer c)
  (hK:∀ a w,K a w→K' a w) (h:wpOpIn F n P ops Q i K a w):wpOpIn (F.inRound r) n P ops Q i K' a w:=by
 have h:=wpOpIn_mono hK h
 unfold wpOpIn at h ⊢
 split
 ·rename_i ho;rw [ho] at h;exact h
 ·rename_i o ho
  rw [ho] at h
  simp only at h
  split
  ·rename_i hw
   rw [if_pos hw] at h
   refine⟨h.1,?_⟩
   have h2:=h.2
   rw [Oper.semAt_eq _ _ _ (hnd i o ho)] at h2 ⊢
   exact h2
  ·rename_i hw
   rw [if_neg hw] at h
   exact h
theorem wpAnyIn_round {r:Nat} {md:Region.Mode} {ops:Array Oper} {Q:Exit→Act→World→Prop} (hro:F.round=none) (hnd:∀ (i:Nat) (o:Oper),ops[i]?=some o→∀ c,o.op≠.defer c) :
  ∀ (fuel:Nat) (listed:Array Bool) (a:Act) (w:World),wpAnyIn F n P md ops Q fuel listed a w→wpAnyIn (F.inRound r) n P md ops Q fuel listed a w
 | 0,_,_,_,h=>h
 | fuel+1,_,_,_,h=>⟨h.1,fun i hi=>wpOpIn_round hro hnd (fun a w=>wpAnyIn_round hro hnd fuel _ a w) (h.2 i hi)⟩
def noDefer (o:Oper):Bool:=match o.op with | .defer _=>false | _=>true
theorem wpIn_region_ext {r:Nat} {id:Nat} {Q:Exit→Act→World→Prop} {a:Act} {w:World} {l:List Oper} (hm:P.follows .mixedOrders=true) (hB:Region.lexB .any l.toArray=true) (hd:l.all noDefer=true)
  (h:wpQuiet P l.toArray (fun w'=>∃ x:ExtOf w,w'=x.val) (fun a'=>∀ w',(∃ x:ExtOf w,w'=x.val)→Q .normal a' w') l a):(Code.region id l.toArray true).wpIn (Fence.wide.inRound r) n P Q a w:=by
 have hnd:∀ (i:Nat) (o:Oper),l.toArray[i]?=some o→∀ c,o.op≠.defer c:=fun i o ho c e=>by
  have:=List.all_eq_true.1 hd o (List.mem_of_getElem? (by simpa using ho))
  unfold noDefer at this
  rw [e] at this
  cases this
 have hB0:=hB
 simp only [Region.lexB,Bool.and_eq_true] at hB
 refine wpIn_region_any hm (wpAnyIn_round rfl hnd _ _ _ _ (wpAnyIn_of_quiet (C:=fun w'=>∃ x:ExtOf w,w'=x.val) (Q:=fun a'=>∀ w',(∃ x:ExtOf w,w'=x.val)→Q .normal a' w') rfl (fun _ w' hw' h=>h w' hw') _ _ _ _ ⟨⟨{ w with drawn:=w.drawn+1 },⟨rfl,rfl,rfl,Nat.le_refl _,fun _ _=>rfl⟩⟩,rfl⟩ ?_))
 have:=wpAnyQIn_lex (F:=Fence.wide) (n:=n) (C:=fun w'=>∃ x:ExtOf w,w'=x.val) (md:=.any) hB.1 l 0 (Array.replicate l.toArray.size false) a (by simp) (by simpa using hB.2) (wpQuietIn_of h)
 simpa using this
end
section
variable {P:Program} {n r:Nat}
theorem rowsIn_of {row:String} {args:Array Value} {w:World} {R:Value→World→Prop} (h:Rows P row args w R):RowsIn Fence.wide n P row args w R:=fun c cs _=>let ⟨v,w',hr,s⟩:=h c cs;⟨v,w',hr,stepsIn_wide.2 s⟩
theorem wpListIn_round {ops:Array Oper} {Q:Exit→Act→World→Prop} (hL:¬ LetsOut Q):∀ (l:List Oper) (a:Act) (w:World),l.all noDefer=true→wpList P ops Q l a w→wpListIn (Fence.wide.inRound r) n P ops Q l a w
 | [],_,_,_,h=>h
 | o :: l,a,w,hd,h=>by
  rw [List.all_cons,Bool.and_eq_true] at hd
  have hnd:∀ c,o.op≠.defer c:=fun c e=>by
   have:=hd.1
   unfold noDefer at this
   rw [e] at this
   cases this
  unfold wpList at h
  unfold wpListIn
  split
  ·rename_i hw
   rw [if_pos hw] at h
   rcases h with h | h
   ·refine⟨fun _ _=>trivial,?_⟩
    rw [Oper.semAt_eq _ _ _ hnd]
    unfold Oper.wp at h
    generalize (execOp a.eval o).run P w=res at h
    unfold Oper.upon at h
    unfold Oper.uponIn
    split at h
    ·exact wpListIn_round hL l _ _ hd.2 h
    ·exact wpListIn_round hL l _ _ hd.2 h
    ·exact wpListIn_round hL l _ _ hd.2 h
    ·refine⟨fun h=>by simp [Fence.wide] at h,CallsIn.inRound r ((callsIn_wide.2 h).mono fun e w'' hr=>?_)⟩
     cases e with
     | returned v=>exact wpListIn_round hL l _ _ hd.2 hr
     | panicked chain=>exact hr
     | outgrown=>exact hr
    ·exact⟨fun h=>by simp [Fence.wide] at h,(rowsIn_of h).mono fun v w'' hr=>wpListIn_round hL l _ _ hd.2 hr⟩
    ·exact h
    ·exact h.elim
   ·exact absurd h.2 hL
  ·rename_i hw
   rw [if_neg hw] at h
   exact⟨fun _ _=>trivial,wpListIn_round hL l _ _ hd.2 h⟩
theorem wpIn_region_list {id:Nat} {l:List Oper} {Q:Exit→Act→World→Prop} {a:Act} {w:World} (hL:¬ LetsOut Q) (hd:l.all noDefer=true) (h:wpList P l.toArray Q l a w):(Code.region id l.toArray false).wpIn (Fence.wide.inRound r) n P Q a w :=
 wpIn_region_lit (wpListIn_round hL l a w hd h)
end
theorem Kn.pick {w:World} {Φ:List (World→Prop)} (h:Kn w Φ) (is:List Nat):Kn w (is.filterMap fun i=>Φ[i]?):=fun φ hφ=>by
 obtain⟨i,_,hi⟩:=List.mem_filterMap.1 hφ
 exact h φ (List.mem_of_getElem? hi)
def Pc.cells (p:Pc):Prop:=∀ w,p.holds w→∀ k,p.foot k→∃ o:Obj,w.heap[k]?=some o∧o.isCells=true
theorem Pc.blk_cells (g:Nat) (t:TypeId) (cs:Array Value):(Pc.blk g t cs).cells:=fun _ h k e=>by
 cases e
 have h:Blk _ g t cs:=h
 exact⟨_,h,rfl⟩
theorem Pc.own_cells (e:TypeId) (size:Nat) (q:Option Addr) (n c:Nat) (xs:List Value):(Pc.own e size q n c xs).cells:=fun w h k hk=>by
 have h:w.ownsRow 0 e size (.slice q n c) n xs:=h
 rcases h.2 with ⟨h1,h2⟩ | ⟨g,cap,cur,h1,hg,hh,_⟩
 ·subst h2
  rcases h.2 with ⟨h3,_⟩ | ⟨g,cap,cur,h1,hg,hh,_⟩
  ·injection h3 with h3;subst h3;cases hk
  ·injection h1 with h1;subst h1
   obtain rfl:g=k:=by injection hk
   exact⟨_,hh,rfl⟩
 ·injection h1 with h1;subst h1
  obtain rfl:g=k:=by injection hk
  exact⟨_,hh,rfl⟩
theorem Sep.turn {w0 w w':World} {Γ:List Pc} {row:Option Nat} {B:Nat} (S:Sep w0 w Γ) (hΓ:∀ p∈Γ,p.cells) (hB:w0.heap.size≤B) (hg:w.grownBy w' row) (hr:∀ r,row=some r→B≤r∧∃ o:Obj,w.heap[r]?=some o∧o.isCells=false):Sep w0 w' Γ:=by
 refine⟨Below.trans S.ext ⟨hg.os,hg.tape,hg.output,hg.size,fun k hk=>hg.block k (Nat.lt_of_lt_of_le hk S.ext.size) fun e=>?_⟩,fun p hp=>p.loc w w' (S.all p hp) fun k hk=>hg.block k (S.lt hp hk) fun e=>?_,S.new,S.apart⟩
 ·have:=(hr k e.symm).1;omega
 ·obtain⟨_,o,h1,h2⟩:=hr k e.symm
  obtain⟨o',h3,h4⟩:=hΓ p hp w (S.all p hp) k hk
  rw [h1] at h3;injection h3 with h3;subst h3;rw [h2] at h4;cases h4
theorem cells_all {Γ:List Pc} (h:∀ p∈Γ,(∃ g t cs,p=Pc.blk g t cs)∨∃ e size q n c xs,p=Pc.own e size q n c xs):∀ p∈Γ,p.cells:=fun p hp=>by
 rcases h p hp with ⟨g,t,cs,rfl⟩ | ⟨e,size,q,n,c,xs,rfl⟩
 ·exact Pc.blk_cells _ _ _
 ·exact Pc.own_cells _ _ _ _ _ _
theorem Sep.putObj {w0 w:World} {Γ:List Pc} (S:Sep w0 w Γ) (hΓ:∀ p∈Γ,p.cells) {D:Nat} {o:Obj} (o':Obj) (hD:w0.heap.size≤D) (hK:w.heap[D]?=some o) (ho:o.isCells=false):Sep w0 (w.putObj D o') Γ :=
 S.turn hΓ hD (grownBy_putObj' w D o') fun r e=>by cases e;exact⟨Nat.le_refl _,o,hK,ho⟩
theorem keeps_ext {W W':World} (h:Ext W W'):KeepsOthers W W':=⟨h.size,fun k _ hk _=>(h.block k (Array.getElem?_eq_some_iff.1 hk).1).trans hk⟩
theorem wpList_append_sepK {P:Program} {w0 w:World} {Γ:List Pc} {ops:Array Oper} {rest:List Oper} {o:Oper} {a:Act} {Q:Exit→Act→World→Prop} (hgd:o.guard=none) (s x:Operand) (t:TypeId)
  (ho:o.op=.call { callee:=.builtin .append,args:=#[s,x],argTypes:=#[t,t] })
  (e:TypeId) (i:TypeInfo) (z:Value) (size bytes:Nat) (ht:P.underlying t=some (.slice e)) (hi:P.info? e=some i) (hz:i.zero=some z)
  (hsize:i.size=size) (hby:i.bytes=bytes) (hzs:z.cells.size=size) (hsz:0<size)
  (S:Sep w0 w Γ) (j:Nat) (q:Option Addr) (n cq:Nat) (xs:List Value) (hs:a.eval s=.slice q n cq) (hj:Γ[j]?=some (.own e size q n cq xs))
  (A:Option Addr) (m c:Nat) (news:List Value) (hx:a.eval x=.slice A m c) (hr:Rd w size A m news) (h1:∀ u∈news,u.oneCell'=true)
  (hbytes:(n+m)*bytes≤140737488355328) (h63:n+m≤140737488355328)
  (h:∀ q' c' w',Sep w0 w' (Γ.set j (.own e size q' (n+m) c' (xs ++ news)))→w.heap.size≤w'.heap.size→KeepsOthers w w'→wpList P ops Q rest (a.put o.dst (.slice q' (n+m) c')) w'):wpList P ops Q (o :: rest) a w:=by
 refine wpList_append_rd hgd s x t ho w0.heap.size e i z size bytes ht hi hz hsize hby hzs hsz q n cq xs hs (S.own j hj) A m c news hx hr h1 hbytes h63 S.ext.size ?_
 intro q' c' w' ho' hg hat _
 refine h q' c' w' (S.put j hj _ hg (fun k hk=>hk) (own_base ho' (Nat.zero_le _)) fun k hk=>?_) hg.size (KeepsOthers.of_grownBy hg fun k o ek hk=>?_)
 ·rcases hat with h | h
  ·exact .inl (h.symm.trans hk)
  ·have:some w.heap.size=some k:=h.symm.trans hk
   injection this with this
   exact .inr (by omega)
 ·obtain⟨o',h1,h2⟩:=Pc.own_cells e size q n cq xs w (S.all _ (List.mem_of_getElem? hj)) k ek
  rw [hk] at h1;injection h1 with h1;subst h1;exact h2
end
section
open Go Go.RowKit Go.Shelf Go.Lib
theorem lessI (x y:Int) (w:World):Calls Tryz.prog 201 #[.int .i64 x,.int .i64 y] w fun e w'=>e=.returned (.bool (decide (x<y)))∧Ext w w' :=
 (Any.cmp_Less_int2 { Tryz.binI with } x y w).mono fun e w' ⟨h1,h2⟩=>⟨h1,by rw [h2];exact Below.refl _ _⟩
theorem IsSortedI (p:Option Addr) (n c:Nat) (l:List Int) (w:World) (hl:Rd w 1 p n (encI l)) (h0:0<n) :
  Calls Tryz.prog 198 #[.slice p n c] w fun e w'=>e=.returned (.bool (sortB l))∧Ext w w':=by
 have p1:=hl.ptr
 have n1:=hl.small
 have l1:=hl.nI
 have HL:=Lib.hid hl;clear hl
 have L1:=Lib.hid l1;clear l1
 go_enter Tryz.func198,Tryz.ntmps198
 go_wp2
 go_loopw [3] (fun i wr=>∃ j:Nat,j<n∧i=.int .i64 j∧(∀ v,j≤v→v+1<n→nth l v≤nth l (v+1))∧Ext w wr) (fun i _=>(intOf i).toNat)
 case atStart=>exact⟨n - 1,by omega,by go_num,fun v h1 h2=>by omega,Below.refl _ _⟩
 case round =>
  obtain⟨j,hj,rfl,ha,hE⟩:=hrel
  have HA:=Lib.hid ha;clear ha
  rcases Nat.eq_zero_or_pos j with hz | hz
  ·subst hz
   have HF:Hid (sortB l=true):=by
    unfold Hid sortB
    rw [List.all_eq_true]
    intro v hv
    rw [List.mem_range] at hv
    exact decide_eq_true (HA.out v (by omega) (by rw [L1.out];omega))
   have HE:=Lib.hid hE;clear hE
   go_wp2
   go_ret
   exact⟨ret_bool HF.out.symm,HE.out⟩
  ·have g1:=hE.cell (HL.out.cI hj)
   have g2:=hE.cell (HL.out.cI (k:=j - 1) (by omega))
   have d1:decide ((0:Int)<(j:Int))=true:=by simp;omega
   have d1n:decide (0<j)=true:=by simp;omega
   have d2:(0:Int)≤j:=by omega
   have d3:(j:Int)<n:=by omega
   have d4:(1:Int)≤(j:Int):=by omega
   have d5:(j:Int) - 1<n:=by omega
   have d6:(0:Int)≤(j:Int) - 1:=by omega
   have HLs:=Lib.hid (fun x:ExtOf wr=>lessI (nth l j) (nth l (j - 1)) x.val)
   have HE:=Lib.hid hE;clear hE
   by_cases hlt:nth l j<nth l (j - 1)
   ·rw [decide_eq_true hlt] at HLs
    have HF:Hid (sortB l=false):=by
     unfold Hid sortB
     refine range_all_no _ _ (j - 1) (by rw [← L1.out];omega) ?_
     rw [show j - 1+1=j by omega]
     simp;exact hlt
    go_wp2
    have x1:=fun x:ExtOf wr=>x.ext.cell g1
    have x2:=fun x:ExtOf wr=>x.ext.cell g2
    refine wp_region_ext (by kernel_rfl) (by kernel_rfl) ?_
    repeat (go_big_quiet_step (((go_at_call 201;exact Calls.ext_of (HLs.out _)))))
    refine wpQuiet_nil ?_
    rintro w1 ⟨⟨_,hb1⟩,rfl⟩
    go_wp2
    go_ret
    exact⟨ret_bool HF.out.symm,Ext.trans HE.out hb1⟩
   ·rw [decide_eq_false hlt] at HLs
    go_wp2
    have x1:=fun x:ExtOf wr=>x.ext.cell g1
    have x2:=fun x:ExtOf wr=>x.ext.cell g2
    refine wp_region_ext (by kernel_rfl) (by kernel_rfl) ?_
    repeat (go_big_quiet_step (((go_at_call 201;exact Calls.ext_of (HLs.out _)))))
    refine wpQuiet_nil ?_
    rintro w1 ⟨⟨_,hb1⟩,rfl⟩
    go_wp2
    go_roundw
    case rel=>exact⟨j - 1,by omega,by go_num,fun v h1 h2=>by
     by_cases h3:v=j - 1
     ·subst h3;rw [show j - 1+1=j by omega];omega
     ·exact HA.out v (by omega) h2,Ext.trans HE.out hb1⟩
    case measure=>simp [intOf];omega
def withB (m:Int) (l:List Int):Bool:=l.all fun x=>decide (0≤x) && decide (x≤m)
theorem withinG (m:Int) (p:Option Addr) (n c:Nat) (l:List Int) (w:World) (hl:Rd w 1 p n (encI l)) :
  Calls Tryz.prog 199 #[.int .i64 m,.slice p n c] w fun e w'=>e=.returned (.bool (withB m l))∧w=w':=by
 have p1:=hl.ptr
 have n1:=hl.small
 have l1:=hl.nI
 have HL:=Lib.hid hl;clear hl
 have L1:=Lib.hid l1;clear l1
 go_enter Tryz.func199,Tryz.ntmps199
 go_wp2
 go_loop [6,9] (fun _ i=>∃ k:Nat,k≤n∧i=.int .i64 k∧(l.take k).all (fun x=>decide (0≤x) && decide (x≤m))=true) (fun _ i=>n - (intOf i).toNat)
 case atStart=>exact⟨0,Nat.zero_le _,rfl,rfl⟩
 case round =>
  obtain⟨k,hk,rfl,ha⟩:=hrel
  have HA:=Lib.hid ha;clear ha
  by_cases hlt:k<n
  ·have g1:=HL.out.cI hlt
   have d1:(0:Int)≤k:=by omega
   have d2:(k:Int)<n:=by omega
   have hkL:k<l.length:=by rw [← L1.out];exact hlt
   by_cases h1:nth l k<0
   ·have b1:decide (nth l k<0)=true:=by simpa using h1
    have HF:Hid (withB m l=false):=all_false_at _ l k hkL (by simp;omega)
    go_wp2
    go_ret
    exact⟨ret_bool HF.out.symm,rfl⟩
   ·have b1:decide (nth l k<0)=false:=by simpa using h1
    by_cases h2:m<nth l k
    ·have b2:decide (m<nth l k)=true:=by simpa using h2
     have HF:Hid (withB m l=false):=all_false_at _ l k hkL (by simp;omega)
     go_wp2
     go_ret
     exact⟨ret_bool HF.out.symm,rfl⟩
    ·have b2:decide (m<nth l k)=false:=by simpa using h2
     have HS:=Lib.hid (all_step (fun x:Int=>decide (0≤x) && decide (x≤m)) l k hkL HA.out (by simp;omega))
     go_wp2
     go_round
     case rel=>exact⟨k+1,by omega,by go_num,HS.out⟩
     case measure=>simp [intOf];omega
  ·have HF:Hid (withB m l=true):=all_end _ l k (by rw [← L1.out];exact hlt) HA.out
   go_wp2
   go_ret
   exact⟨ret_bool HF.out.symm,rfl⟩
theorem allG (po:Option Addr) (no co:Nat) (pt:Option Addr) (nt ct:Nat) (w:World) :
  Calls Tryz.prog 135 #[.slice po no co,.slice pt nt ct] w fun e w'=>e=.returned (.func (.func 200) #[] #[.pointer (some ⟨w.heap.size,0,none⟩),.pointer (some ⟨w.heap.size+1,0,none⟩)])∧w'=(w.alloc (.cells #[.slice po no co] 25)).alloc (.cells #[.slice pt nt ct] 25):=by
 go_enter Tryz.func135,Tryz.ntmps135
 go_wp2
 go_ret
 exact⟨by simp,rfl⟩
theorem Rd.rowOf {w:World} {pt:Option Addr} {nt ct:Nat} {O T:List Int} (hT:Rd w 1 pt nt (encI T)) (hok:OffOk O T) (hct:nt≤ct) {k:Nat} (hk:k+1<O.length) :
  Rd w 1 (cutp pt ct (nth O k).toNat 1) ((nth O (k+1)).toNat - (nth O k).toNat) (encI (rowL O T k)):=by
 have h1:=hok.le k hk
 have h2:=hok.hi (k+1) hk
 have h3:=hT.nI
 have:=hT.cut (l:=(nth O k).toNat) (h:=(nth O (k+1)).toNat) (by omega) (by omega) hct
 rw [encI_drop,encI_take] at this
 exact this
def KpA (n₀ b1 b2:Nat) (W W':World):Prop:=Below n₀ W W'∧W'.heap[b1]?=W.heap[b1]?∧W'.heap[b2]?=W.heap[b2]?
theorem KpA.trans {n₀ b1 b2:Nat} {A B C:World} (h:KpA n₀ b1 b2 A B) (k:KpA n₀ b1 b2 B C):KpA n₀ b1 b2 A C:=⟨Below.trans h.1 k.1,k.2.1.trans h.2.1,k.2.2.trans h.2.2⟩
theorem KpA.refl (n₀ b1 b2:Nat) (A:World):KpA n₀ b1 b2 A A:=⟨Below.refl _ _,rfl,rfl⟩
theorem KpA.ext {n₀ b1 b2:Nat} {A B:World} (h:Ext A B) (hn:n₀≤A.heap.size) (h1:b1<A.heap.size) (h2:b2<A.heap.size):KpA n₀ b1 b2 A B:=⟨h.mono hn,h.block b1 h1,h.block b2 h2⟩
abbrev PairOf (O T:List Int):={ x:Int × Int // x∈pairs O T }
theorem pairs_at {O T:List Int} {k j:Nat} (hk:k<O.length - 1) (hj:j<(rowL O T k).length):((k:Int),nth (rowL O T k) j)∈pairs O T:=mem_pairs.2 ⟨k,hk,rfl,nth_mem hj⟩
theorem rowX_take {O T:List Int} {k j:Nat} (hj:j<(rowL O T k).length):(rowX O T k).take (j+1)=(rowX O T k).take j ++ [((k:Int),nth (rowL O T k) j)]:=by
 have h1:j<(rowX O T k).length:=by unfold rowX;rw [List.length_map];exact hj
 rw [take_succ_nth _ j h1]
 congr 2
 rw [nth_eq h1,nth_eq hj]
 simp [rowX]
theorem pairsK_prefix {O T:List Int} {k:Nat}:∀ d,pairsK O T k <+: pairsK O T (k+d)
 | 0=>List.prefix_refl _
 | d+1=>by
  rw [← Nat.add_assoc,pairsK_step]
  exact(pairsK_prefix d).trans (List.prefix_append _ _)
theorem pairs_prefix {O T:List Int} {k j:Nat} (hk:k<O.length - 1):pairsK O T k ++ (rowX O T k).take j <+: pairs O T:=by
 have h1:pairsK O T k ++ (rowX O T k).take j <+: pairsK O T (k+1):=by
  rw [pairsK_step]
  exact(List.prefix_append_right_inj _).2 (List.take_prefix _ _)
 have h2:=pairsK_prefix (O:=O) (T:=T) (k:=k+1) (O.length - 1 - (k+1))
 rw [show k+1+(O.length - 1 - (k+1))=O.length - 1 by omega] at h2
 exact h1.trans h2
end
section
open Go Go.RowKit Go.Shelf Go.Lib
attribute [local go_sem] Oper.semAt_some
theorem all_stops (n:Nat) (hn:1≤n) (b1 b2 n₀:Nat) (po:Option Addr) (no co:Nat) (pt:Option Addr) (nt ct:Nat) (O T:List Int) (w:World) (hw:n₀≤w.heap.size)
  (h1:Blk w b1 25 #[.slice po no co]) (h2:Blk w b2 25 #[.slice pt nt ct]) (hO:Rd w 1 po no (encI O)) (hT:Rd w 1 pt nt (encI T)) (hO0:0<no→(adr po 0).block<n₀) (hT0:0<nt→(adr pt 0).block<n₀)
  (hok:OffOk O T) (hct:nt≤ct) :
  SeqStopsK Fence.wide n Tryz.prog 200 #[.pointer (some ⟨b1,0,none⟩),.pointer (some ⟨b2,0,none⟩)] (fun x:PairOf O T=>#[Value.int .i64 x.1.1,Value.int .i64 x.1.2]) (KpA n₀ b1 b2)
   (fun ys=>ys.map (·.1)=pairs O T) (fun pre=>pre.map (·.1) <+: pairs O T) (pairs O T).length w:=by
 intro l J Jx W hW hJ hJx hY h0
 have B1:Blk W b1 25 #[.slice po no co]:=h1.ext hW
 have B2:Blk W b2 25 #[.slice pt nt ct]:=h2.ext hW
 have RO:=hO.ext hW
 have RT:=hT.ext hW
 have l1:=Lib.hid RO.nI
 have l2:=Lib.hid RT.nI
 have pO:=RO.ptr
 have pT:=RT.ptr
 have n1:=RO.small
 have n2:=RT.small
 have w2:=hok.two
 clear h1 h2 hO hT hJx
 have HW:=Lib.hid hW;clear hW
 have HJ:=Lib.hid hJ;clear hJ
 have HY:=Lib.hid hY;clear hY
 have HOK:=Lib.hid hok;clear hok
 have HRO:=Lib.hid RO;clear RO
 have HRT:=Lib.hid RT;clear RT
 have c1:=B1.cell 0
 have z1:=B1.lt
 have d0:(1:Int)≤no:=by have:=l1.out;omega
 have HB1:=Lib.hid B1;clear B1
 have HB2:=Lib.hid B2;clear B2
 refine callsIn_of_wp Tryz.func200 rfl trivial ?_ rfl
 simp only [Tryz.ntmps200,List.size_toArray,List.length_cons,List.length_nil,Nat.reduceAdd,Nat.reduceSub,Array.replicate_succ,Array.replicate_zero,List.push_toArray,List.append_toArray,List.nil_append,List.cons_append]
 gi_wp2
 gi_loopw [4,6,10] (fun _ _ i wr=>∃ (k:Nat) (pre:List (PairOf O T)),k≤no - 1∧i=.int .i64 k∧pre.map (·.1)=pairsK O T k∧J pre wr∧KpA n₀ b1 b2 W wr) (fun _ _ i _=>(no - 1) - (intOf i).toNat)
 case atStart=>exact⟨0,[],Nat.zero_le _,rfl,rfl,h0,KpA.refl _ _ _ _⟩
 case round =>
  clear c1
  obtain⟨k,pre,hk,rfl,hpre,hJs,hKp⟩:=hrel
  have B1':Blk wr b1 25 #[.slice po no co]:=hKp.2.1.trans HB1.out
  have B2':Blk wr b2 25 #[.slice pt nt ct]:=hKp.2.2.trans HB2.out
  have RO':=HRO.out.below hKp.1 (by simpa using hO0)
  have RT':=HRT.out.below hKp.1 (by simpa using hT0)
  have HP:=Lib.hid hpre;clear hpre
  have HJs:=Lib.hid hJs;clear hJs
  have HKp:=Lib.hid hKp;clear hKp
  by_cases hlt:k<no - 1
  ·have hk1:k+1<O.length:=by rw [← l1.out];omega
   have q1:=HOK.out.lo k (by omega)
   have q2:=HOK.out.le k hk1
   have q3:=HOK.out.hi (k+1) hk1
   have c1:=B1'.cell 0
   have c2:=B2'.cell 0
   have g1:=RO'.cI (k:=k) (by omega)
   have g2:=RO'.cI (k:=k+1) (by omega)
   have hrl:=Lib.hid (rowL_len HOK.out hk1)
   have RL:=Lib.hid (RT'.rowOf HOK.out hct hk1)
   obtain⟨a,ha⟩:∃ a:Nat,nth O k=(a:Int):=⟨(nth O k).toNat,by omega⟩
   obtain⟨b,hb⟩:∃ b:Nat,nth O (k+1)=(b:Int):=⟨(nth O (k+1)).toNat,by omega⟩
   rw [ha] at g1 q1 q2 hrl RL
   rw [hb] at g2 q2 q3 hrl RL
   have hq3:(b:Int)≤ct:=by have:=l2.out;omega
   simp only [Int.toNat_natCast] at hrl RL
   have HRL:Hid (∀ W',Below n₀ W W'→Rd W' 1 (cutp pt ct a 1) (b - a) (encI (rowL O T k))):=fun W' h=>by
    have h3:=(HRT.out.below h (by simpa using hT0)).rowOf HOK.out hct hk1
    rw [ha,hb] at h3
    simpa only [Int.toNat_natCast] using h3
   have d1:(0:Int)≤k:=by omega
   have d2:(k:Int)<no:=by omega
   have d2b:(k:Int)<(no:Int) - 1:=by omega
   have d3:(0:Int)≤(k:Int)+1:=by omega
   have d4:(k:Int)+1<no:=by omega
   clear ha hb B1' B2' RO' RT' q3
   gi_wp2
   refine wpIn_wide.2 ?_
   have x1:=fun x:ExtOf wr=>x.ext.cell c1
   have x2:=fun x:ExtOf wr=>x.ext.cell c2
   have y1:=fun x:ExtOf wr=>x.ext.cell g1
   have y2:=fun x:ExtOf wr=>x.ext.cell g2
   refine wp_region_ext (by kernel_rfl) (by kernel_rfl) ?_
   repeat (go_big_quiet_step ((fail)))
   refine wpQuiet_nil ?_
   rintro w1 ⟨⟨_,hb1⟩,rfl⟩
   have pR:=RL.out.ptr
   have nR:=RL.out.small
   have lR:=Lib.hid RL.out.nI
   gi_wp2
   gi_loopw [6,25] (fun _ j wx=>∃ (i:Nat) (pre':List (PairOf O T)),i≤b - a∧j=.int .i64 i∧pre'.map (·.1)=pairsK O T k ++ (rowX O T k).take i∧J pre' wx∧KpA n₀ b1 b2 W wx) (fun _ j _=>(b - a) - (intOf j).toNat)
   case atStart=>exact⟨0,pre,Nat.zero_le _,rfl,by rw [HP.out];simp,HJ.out _ _ _ none HJs.out (Ext.grown hb1) (fun r e=>nomatch e),
    HKp.out.trans (KpA.ext hb1 (Nat.le_trans hw (Nat.le_trans HW.out.size HKp.out.1.size)) (Nat.lt_of_lt_of_le HB1.out.lt HKp.out.1.size) (Nat.lt_of_lt_of_le HB2.out.lt HKp.out.1.size))⟩
   case round =>
    clear hb1 x1 x2 y1 y2
    obtain⟨i,pre',hi,rfl,hp',hJ',hK'⟩:=hrel
    have RLx:=HRL.out _ hK'.1
    have HP':=Lib.hid hp';clear hp'
    have HJ':=Lib.hid hJ';clear hJ'
    have HK':=Lib.hid hK';clear hK'
    by_cases hli:i<b - a
    ·have hin:i<(rowL O T k).length:=by rw [hrl.out];exact hli
     have f1:=RLx.cI hli
     have d5:(0:Int)≤i:=by omega
     have d6:(i:Int)<((b - a:Nat):Int):=by omega
     have hlen:pre'.length<(pairs O T).length:=by
      have h3:=(pairs_prefix (O:=O) (T:=T) (k:=k) (j:=i+1) (by omega)).length_le
      rw [rowX_take hin,← List.append_assoc,← HP'.out] at h3
      simp at h3;omega
     obtain⟨fn,tmps,assign,body,hy,hR⟩:=HY.out pre' ⟨((k:Int),nth (rowL O T k) i),pairs_at (by rw [← l1.out];exact hlt) hin⟩ _ HJ'.out hlen
     dsimp only at hy
     clear RLx
     gi_wp2
     refine hR.mono ?_
     rintro e W3 (⟨rfl,hJ3,hk3⟩ | ⟨rfl,hJx3⟩)
     ·have HJ3:=Lib.hid hJ3;clear hJ3
      have HK3:=Lib.hid hk3;clear hk3
      gi_wp2
      go_roundw
      case rel=>exact⟨i+1,_,by omega,by go_num,by rw [List.map_append,HP'.out,rowX_take hin,List.append_assoc];rfl,HJ3.out,HK'.out.trans HK3.out⟩
      case measure=>simp [intOf];omega
     ·have HX3:=Lib.hid hJx3;clear hJx3
      gi_wp2
      refine bodyPost_ret (results_none rfl _ _ _) rfl ?_
      exact⟨⟨_,rfl⟩,.inr ⟨_,by
       have h3:=pairs_prefix (O:=O) (T:=T) (k:=k) (j:=i+1) (by rw [← l1.out];exact hlt)
       rw [rowX_take hin,← List.append_assoc,← HP'.out] at h3
       rw [List.map_append];exact h3,HX3.out⟩⟩
    ·obtain rfl:i=b - a:=by omega
     clear RLx
     gi_wp2
     go_roundw
     case rel=>exact⟨k+1,pre',by omega,by go_num,by rw [HP'.out,pairsK_step,List.take_of_length_le (by unfold rowX;rw [List.length_map,hrl.out];exact Nat.le_refl _)],HJ'.out,HK'.out⟩
     case measure=>simp [intOf];omega
  ·obtain rfl:k=no - 1:=by omega
   have d2:decide (((no - 1:Nat):Int)<(no:Int) - 1)=false:=by simp;omega
   have d3:((no - 1:Nat):Int)=(no:Int) - 1:=by omega
   gi_wp2
   go_end0
   exact⟨⟨_,rfl⟩,.inl ⟨pre,by rw [HP.out,l1.out];rfl,HJs.out⟩⟩
end
section
open Go Go.RowKit Go.Shelf Go.Lib
attribute [local go_sem] Oper.semAt_some
theorem below_mid {B:Nat} {w W W':World} (h:Below B w W) (k:Below B w W') (hs:W.heap.size≤W'.heap.size):Below B W W' :=
 ⟨k.os.trans h.os.symm,k.tape.trans h.tape.symm,k.output.trans h.output.symm,hs,fun i hi=>(k.block i hi).trans (h.block i hi).symm⟩
theorem kpA_of {w W W':World} {b1 b2:Nat} {o1 o2:Obj} (h:Ext w W) (k:Ext w W') (hs:W.heap.size≤W'.heap.size) (h1:W.heap[b1]?=some o1) (h2:W.heap[b2]?=some o2) (k1:W'.heap[b1]?=some o1) (k2:W'.heap[b2]?=some o2):KpA w.heap.size b1 b2 W W' :=
 ⟨below_mid h k hs,k1.trans h1.symm,k2.trans h2.symm⟩
theorem kpA_b {w3:World} {n₀ b1 b2:Nat} (hn:n₀≤w3.heap.size) (h1:b1<w3.heap.size) (h2:b2<w3.heap.size) (W:World) (l:Nat) (o o':Obj) (hl:w3.heap.size≤l) (h:W.heap[l]?=some o) (hc:o.isCells=false) (hw:o.isWalk=false):KpA n₀ b1 b2 W (W.putObj l o') :=
 ⟨belowK_b hn W l o o' hl h hc hw,World.putObj_heap_other (by omega),World.putObj_heap_other (by omega)⟩
theorem halfG_no (po:Option Addr) (no co:Nat) (O:List Int) (pt:Option Addr) (nt ct:Nat) (T:List Int) (w:World) (hO:Rd w 1 po no (encI O)) (hT:Rd w 1 pt nt (encI T)) (hct:nt≤ct) (h:offB O T=false):Calls Tryz.prog 134 #[.slice po no co,.slice pt nt ct] w fun e w'=>e=.returned (.bool false)∧Ext w w':=by
 have _hc:=hct
 have p1:=hO.ptr
 have n1:=hO.small
 have n2:=hT.small
 have l1:=Lib.hid hO.nI
 have l2:=Lib.hid hT.nI
 have S0:=Lib.hid (((Sep.start w).al #[.bool false] 4 w.heap.size rfl).al #[.int .i64 ((no:Int) - 1)] 3 (w.heap.size+1) (by simp))
 have HSo:=Lib.hid (fun W1 (h:Ext w W1) (h0:0<no)=>IsSortedI po no co O W1 (hO.ext h) h0)
 by_cases h1:(no:Int) - 1<1
 ·have d1:decide ((no:Int) - 1<1)=true:=by simpa using h1
  clear hO hT h
  go_enter Tryz.func134,Tryz.ntmps134
  go_wp2
  refine bodyPost_ret (v:=.bool false) (by simp [results,Tryz.results134,go_sem]) rfl ⟨rfl,?_⟩
  first | exact S0.out.ext | exact(S0.out.set 1 rfl 0 _).ext
 ·have d1:decide ((no:Int) - 1<1)=false:=by simpa using h1
  by_cases h2:200<(no:Int) - 1
  ·have d2:decide (200<(no:Int) - 1)=true:=by simpa using h2
   clear hO hT h
   go_enter Tryz.func134,Tryz.ntmps134
   go_wp2
   refine bodyPost_ret (v:=.bool false) (by simp [results,Tryz.results134,go_sem]) rfl ⟨rfl,?_⟩
   first | exact S0.out.ext | exact(S0.out.set 1 rfl 0 _).ext
  ·have d2:decide (200<(no:Int) - 1)=false:=by simpa using h2
   by_cases h3:2000<nt
   ·have d3:decide ((2000:Int)<nt)=true:=by simp;omega
    clear hO hT h
    go_enter Tryz.func134,Tryz.ntmps134
    go_wp2
    refine bodyPost_ret (v:=.bool false) (by simp [results,Tryz.results134,go_sem]) rfl ⟨rfl,?_⟩
    first | exact S0.out.ext | exact(S0.out.set 1 rfl 0 _).ext
   ·have d3:decide ((2000:Int)<nt)=false:=by simp;omega
    have g0:=S0.out.ext.cell (hO.cI (k:=0) (by omega))
    have q1:(0:Int)<no:=by omega
    by_cases h4:nth O 0=0
    ·have d4:(nth O 0 != 0)=false:=by simpa using h4
     have g5:=S0.out.ext.cell (hO.cI (k:=no - 1) (by omega))
     have q2:(0:Int)≤(no:Int) - 1:=by omega
     have q3:(no:Int) - 1<no:=by omega
     by_cases h5:nth O (no - 1)=nt
     ·have d5:(nth O (no - 1) != (nt:Int))=false:=by simpa using h5
      have h6:sortB O=false:=by
       cases h7:sortB O with
       | false=>rfl
       | true =>
        unfold offB at h
        rw [h7,h4] at h
        rw [← l1.out,← l2.out,h5] at h
        simp at h;omega
      rw [h6] at HSo
      clear hO hT h h6 h4 h5
      go_enter Tryz.func134,Tryz.ntmps134
      go_wp2_with (go_at_call 198;go_must (refine(HSo.out _ S0.out.ext (by omega)).mono ?_;rintro e w2 ⟨rfl,hb⟩;have S2:=Lib.hid (S0.out.call hb);obtain⟨c4,f4,z4⟩:=bkc0z0l (S2.out.blk 1 rfl);clear hb))
      refine bodyPost_ret (v:=.bool false) (by simp [results,Tryz.results134,go_sem,c4]) rfl ⟨rfl,(S2.out.set 1 rfl 0 _).ext⟩
     ·have d5:(nth O (no - 1) != (nt:Int))=true:=by simpa using h5
      clear hO hT h h4 h5
      go_enter Tryz.func134,Tryz.ntmps134
      go_wp2
      refine bodyPost_ret (v:=.bool false) (by simp [results,Tryz.results134,go_sem]) rfl ⟨rfl,?_⟩
      first | exact S0.out.ext | exact(S0.out.set 1 rfl 0 _).ext
    ·have d4:(nth O 0 != 0)=true:=by simpa using h4
     clear hO hT h h4
     go_enter Tryz.func134,Tryz.ntmps134
     go_wp2
     refine bodyPost_ret (v:=.bool false) (by simp [results,Tryz.results134,go_sem]) rfl ⟨rfl,?_⟩
     first | exact S0.out.ext | exact(S0.out.set 1 rfl 0 _).ext
end
section
open Go Go.RowKit Go.Shelf Go.Lib
attribute [local go_sem] Oper.semAt_some
def halfPc (b4 b:Nat) (po:Option Addr) (no co:Nat) (pt:Option Addr) (nt ct:Nat) (p:Int × Int) (r:Bool):List Pc :=
 [.blk (b+1+1+1) 25 #[.slice pt nt ct],.blk (b+1+1) 25 #[.slice po no co],.blk (b+1) 3 #[.int .i64 p.2],.blk b 3 #[.int .i64 p.1],.blk (b4+1) 3 #[.int .i64 ((no:Int) - 1)],.blk b4 4 #[.bool r]]
theorem halfPc_cells (b4 b:Nat) (po:Option Addr) (no co:Nat) (pt:Option Addr) (nt ct:Nat) (p:Int × Int) (r:Bool):∀ q∈halfPc b4 b po no co pt nt ct p r,q.cells :=
 cells_all fun q hq=>by simp [halfPc] at hq;rcases hq with h | h | h | h | h | h <;> exact .inl ⟨_,_,_,h⟩
theorem halfG_yes (po:Option Addr) (no co:Nat) (O:List Int) (pt:Option Addr) (nt ct:Nat) (T:List Int) (w:World) (hO:Rd w 1 po no (encI O)) (hT:Rd w 1 pt nt (encI T)) (hct:nt≤ct) (h:offB O T=true):Calls Tryz.prog 134 #[.slice po no co,.slice pt nt ct] w fun e w'=>e=.returned (.bool (halfB O T))∧Ext w w':=by
 have p1:=hO.ptr
 have n1:=hO.small
 have n2:=hT.small
 have l1:=hO.nI
 have l2:=hT.nI
 have hhb:=Lib.hid (halfB_pairs h)
 have HOK:=Lib.hid (offOk_of h)
 obtain⟨r1,r2,r3,r4,r5,r6⟩:=offB_parts h
 have S0:=Lib.hid (((Sep.start w).al #[.bool false] 4 w.heap.size rfl).al #[.int .i64 ((no:Int) - 1)] 3 (w.heap.size+1) (by simp))
 have HSo:=Lib.hid (fun W1 (h:Ext w W1)=>IsSortedI po no co O W1 (hO.ext h) (by omega))
 rw [r6] at HSo
 have d1:decide ((no:Int) - 1<1)=false:=by simp;omega
 have d2:decide (200<(no:Int) - 1)=false:=by simp;omega
 have d3:decide ((2000:Int)<nt)=false:=by simp;omega
 have g0:=S0.out.ext.cell (hO.cI (k:=0) (by omega))
 have q1:(0:Int)<no:=by omega
 have d4:(nth O 0 != 0)=false:=by simpa using r4
 have g5:=S0.out.ext.cell (hO.cI (k:=no - 1) (by omega))
 have q2:(0:Int)≤(no:Int) - 1:=by omega
 have q3:(no:Int) - 1<no:=by omega
 have d5:(nth O (no - 1) != (nt:Int))=false:=by rw [← l1,← l2] at r5;simpa using r5
 have L1:Hid (((O.length - 1:Nat):Int)=(no:Int) - 1):=by unfold Hid;omega
 rw [L1.out] at hhb
 have hO0:0<no→(adr po 0).block<w.heap.size:=fun h=>hO.lt (by omega)
 have hT0:0<nt→(adr pt 0).block<w.heap.size:=fun h=>hT.lt (by omega)
 have HO:=Lib.hid hO;clear hO
 have HT:=Lib.hid hT;clear hT
 clear r1 r2 r3 r4 r5 r6 h l1 l2
 refine(callsIn_wide (n:=9)).1 ?_
 refine callsIn_of_wp_marks Tryz.func134 rfl trivial ?_ rfl
 simp only [Tryz.ntmps134,List.size_toArray,List.length_cons,List.length_nil,Nat.reduceAdd,Nat.reduceSub,Array.replicate_succ,Array.replicate_zero,List.push_toArray,List.append_toArray,List.nil_append,List.cons_append]
 refine wpIn_wide.2 ?_
 go_wp2_with (first
  | (go_at_call 135;go_must (refine(allG po no co pt nt ct _).mono ?_;rintro e w3 ⟨rfl,hw3⟩;have S3:=(((S2.out.al #[.int .i64 (-1)] 3 w2.heap.size rfl).al #[.int .i64 0] 3 (w2.heap.size+1) (by simp)).al #[.slice po no co] 25 (w2.heap.size+1+1) (by simp)).al #[.slice pt nt ct] 25 (w2.heap.size+1+1+1) (by simp);rw [← hw3] at S3;have S4:=Lib.hid (S3:Sep w w3 (halfPc w.heap.size w2.heap.size po no co pt nt ct (-1,0) false));clear S3 hw3))
  | (go_at_call 198;go_must (refine(HSo.out _ S0.out.ext).mono ?_;rintro e w2 ⟨rfl,hb⟩;have S2:=Lib.hid (S0.out.call hb);have c4:=(S2.out.blk 1 rfl).cell 0;have c5:=(S2.out.blk 0 rfl).cell 0;have z4:=(S2.out.blk 1 rfl).lt;have z5:=(S2.out.blk 0 rfl).lt;clear hb)))
 clear S0 S2 HSo g0 g5 c4 c5
 generalize w2.heap.size=b at *
 refine wpIn_wide.1 (wpIn_rangeFunc_ownG (F:=Fence.wide) (n:=9) rfl (by omega) (gf:=200) (lb:=#[.pointer (some ⟨b+1+1,0,none⟩),.pointer (some ⟨b+1+1+1,0,none⟩)]) rfl trivial (enters_of Tryz.func200 (by kernel_rfl) rfl)
  (all_stops 8 (by omega) (b+1+1) (b+1+1+1) w.heap.size po no co pt nt ct O T w3 S4.out.ext.size (S4.out.blk 1 rfl) (S4.out.blk 0 rfl) (HO.out.ext S4.out.ext) (HT.out.ext S4.out.ext) hO0 hT0 HOK.out hct)
  (fun h k=>KpA.trans h k) (kpA_b S4.out.ext.size (S4.out.blk 1 rfl).lt (S4.out.blk 0 rfl).lt) (Below.refl _ _) (fun _=>rfl)
  (fun pre W=>okFrom ((no:Int) - 1) (-1,0) (pre.map (·.1))=true∧Sep w W (halfPc w.heap.size b po no co pt nt ct (lastP (-1,0) (pre.map (·.1))) false))
  (fun c pre W=>(c=.ret∧okFrom ((no:Int) - 1) (-1,0) (pre.map (·.1))=false)∧∃ p,Sep w W (halfPc w.heap.size b po no co pt nt ct p false))
  ?hI ?hIx ⟨rfl,S4.out⟩ ?a1 ?assign ?body ?done ?stop)
 case hI=>exact fun s A B row hs hg hr=>⟨hs.1,hs.2.turn (halfPc_cells _ _ _ _ _ _ _ _ _ _) S4.out.ext.size hg hr⟩
 case hIx=>exact fun c s A B row hs hg hr=>⟨hs.1,hs.2.elim fun p S=>⟨p,S.turn (halfPc_cells _ _ _ _ _ _ _ _ _ _) S4.out.ext.size hg hr⟩⟩
 case assign =>
  intro l x W K hK
  gi_wp2
  exact hK
 case body =>
  rintro l pre ⟨⟨v,u⟩,hx⟩ W ⟨ho,S⟩ _
  have hsn:=okFrom_snoc ((no:Int) - 1) (-1,0) (pre.map (·.1)) (v,u)
  rw [ho,Bool.true_and] at hsn
  have hls:=lastP_snoc (-1,0) (pre.map (·.1)) (v,u)
  have hm:(pre ++ [(⟨(v,u),hx⟩:PairOf O T)]).map (·.1)=pre.map (·.1) ++ [(v,u)]:=by simp
  rw [← hm] at hsn hls
  obtain⟨p,hp⟩:∃ p,p=lastP (-1,0) (pre.map (·.1)):=⟨_,rfl⟩
  rw [← hp] at S hsn
  have HSN:=Lib.hid hsn
  have HLS:=Lib.hid hls
  have c7:=(S.blk 2 rfl).cell 0
  have c6:=(S.blk 3 rfl).cell 0
  have c5:=(S.blk 4 rfl).cell 0
  have c4:=(S.blk 5 rfl).cell 0
  have f7:=(S.blk 2 rfl).frozen 0
  have f6:=(S.blk 3 rfl).frozen 0
  have f4:=(S.blk 5 rfl).frozen 0
  have z7:=(S.blk 2 rfl).lt
  have z6:=(S.blk 3 rfl).lt
  have z5:=(S.blk 4 rfl).lt
  have z4:=(S.blk 5 rfl).lt
  have y1:b≠b+1:=by omega
  have HW:=Lib.hid (withinG ((no:Int) - 1 - 1) (some ⟨W.heap.size,0,none⟩) 1 1 [u] _ (Rd.oneI W 3 u))
  have hwd:withB ((no:Int) - 1 - 1) [u]=(decide (0≤u) && decide (u≤(no:Int) - 1 - 1)):=by simp [withB]
  have SH:=Lib.hid S;clear S
  clear hsn hls hm ho hp S4 HO HT HOK hO0 hT0 hhb
  by_cases hu:0≤u∧u≤(no:Int) - 1 - 1
  ·rw [hwd,decide_eq_true hu.1,decide_eq_true hu.2] at HW
   have hu2:decide (u<(no:Int) - 1)=true:=by simp;omega
   by_cases hv:v=p.1
   ·have e1:(v == p.1)=true:=by simpa using hv
    by_cases hw:u≤p.2
    ·have e2:decide (u≤p.2)=true:=by simpa using hw
     have HF:Hid (okFrom ((no:Int) - 1) (-1,0) ((pre ++ [(⟨(v,u),hx⟩:PairOf O T)]).map (·.1))=false):=by
      unfold Hid;rw [HSN.out];unfold okStep;simp [hv,hw]
     clear hv hw hwd
     gi_wp2_with (refine⟨trivial,?_⟩;gi_at_call 199;refine(CallsIn.inRound l (callsIn_wide.2 HW.out)).mono ?_;rintro e w' ⟨rfl,rfl⟩)
     exact⟨((KeepsOthers.setCell W _ _).trans (KeepsOthers.alloc _ _)).from _,⟨rfl,HF.out⟩,p,(SH.out.set 5 rfl 0 (.bool false)).junk _⟩
    ·have e2:decide (u≤p.2)=false:=by simpa using hw
     have HF:Hid (okFrom ((no:Int) - 1) (-1,0) ((pre ++ [(⟨(v,u),hx⟩:PairOf O T)]).map (·.1))=true):=by
      unfold Hid;rw [HSN.out];unfold okStep;simp [hu.1,hw];omega
     clear hv hw hwd
     gi_wp2_with (refine⟨trivial,?_⟩;gi_at_call 199;refine(CallsIn.inRound l (callsIn_wide.2 HW.out)).mono ?_;rintro e w' ⟨rfl,rfl⟩)
     have S':=((SH.out.set 3 rfl 0 (.int .i64 v)).set 2 rfl 0 (.int .i64 u)).junk (.cells #[.int .i64 u] 3)
     exact⟨(((KeepsOthers.setCell W _ _).trans (KeepsOthers.setCell _ _ _)).trans (KeepsOthers.alloc _ _)).from _,kpA_of SH.out.ext S'.ext (by simp) (SH.out.blk 1 rfl) (SH.out.blk 0 rfl) (S'.blk 1 rfl) (S'.blk 0 rfl),HF.out,by rw [HLS.out];exact S'⟩
   ·have e1:(v == p.1)=false:=by simpa using hv
    have HF:Hid (okFrom ((no:Int) - 1) (-1,0) ((pre ++ [(⟨(v,u),hx⟩:PairOf O T)]).map (·.1))=true):=by
     unfold Hid;rw [HSN.out];unfold okStep;simp [hu.1,hv];omega
    clear hv hwd
    gi_wp2_with (refine⟨trivial,?_⟩;gi_at_call 199;refine(CallsIn.inRound l (callsIn_wide.2 HW.out)).mono ?_;rintro e w' ⟨rfl,rfl⟩)
    have S':=((SH.out.set 3 rfl 0 (.int .i64 v)).set 2 rfl 0 (.int .i64 u)).junk (.cells #[.int .i64 u] 3)
    exact⟨(((KeepsOthers.setCell W _ _).trans (KeepsOthers.setCell _ _ _)).trans (KeepsOthers.alloc _ _)).from _,kpA_of SH.out.ext S'.ext (by simp) (SH.out.blk 1 rfl) (SH.out.blk 0 rfl) (S'.blk 1 rfl) (S'.blk 0 rfl),HF.out,by rw [HLS.out];exact S'⟩
  ·have hwf:withB ((no:Int) - 1 - 1) [u]=false:=by
    rw [hwd]
    by_cases h1:0≤u
    ·simp [h1];omega
    ·simp [h1]
   rw [hwf] at HW
   have HF:Hid (okFrom ((no:Int) - 1) (-1,0) ((pre ++ [(⟨(v,u),hx⟩:PairOf O T)]).map (·.1))=false):=by
    unfold Hid;rw [HSN.out];unfold okStep
    have:(decide (0≤u) && decide (u<(no:Int) - 1))=false:=by
     by_cases h1:0≤u
     ·simp [h1];omega
     ·simp [h1]
    simp only [this,Bool.false_and]
   clear hwd hwf
   gi_wp2_with (refine⟨trivial,?_⟩;gi_at_call 199;refine(CallsIn.inRound l (callsIn_wide.2 HW.out)).mono ?_;rintro e w' ⟨rfl,rfl⟩)
   exact⟨((KeepsOthers.setCell W _ _).trans (KeepsOthers.alloc _ _)).from _,⟨rfl,HF.out⟩,p,(SH.out.set 5 rfl 0 (.bool false)).junk _⟩
 case done =>
  rintro D ys W hD hys ⟨ho,S⟩ hK
  have HF:Hid (halfB O T=true):=by unfold Hid;rw [hhb.out,← hys];exact ho
  obtain⟨c4,f4,z4⟩:=bkc0z0l (S.blk 5 rfl)
  have hKs:=(KeepsOthers.setCell W ⟨w.heap.size,0,none⟩ (.bool true)).same D _ hK rfl
  have S':=(S.set 5 rfl 0 (.bool true)).putObj (halfPc_cells w.heap.size b po no co pt nt ct _ true) (.deferred none) (Nat.le_trans S4.out.ext.size hD) hKs rfl
  have k4:=(S'.blk 5 rfl).cell 0
  have SH:=Lib.hid S;clear S
  have SH':=Lib.hid S';clear S'
  go_wp2
  refine⟨by simp,.inl ⟨_,_,rfl,run_takeDeferred hKs,?_⟩⟩
  exact⟨.bool true,by simp [results,Tryz.results134,go_sem,k4],ret_bool HF.out.symm,SH'.out.ext⟩
 case stop =>
  rintro D c pre W hD hSp ⟨⟨rfl,hno⟩,p,S⟩ hK
  have HF:Hid (halfB O T=false):=by unfold Hid;rw [hhb.out];exact okFrom_no hno hSp
  have S':=S.putObj (halfPc_cells w.heap.size b po no co pt nt ct _ false) (.deferred none) (Nat.le_trans S4.out.ext.size hD) hK rfl
  have k4:=(S'.blk 5 rfl).cell 0
  have SH:=Lib.hid S;clear S
  have SH':=Lib.hid S';clear S'
  refine wpIn_wide.2 ?_
  go_wp2
  refine⟨by simp,.inl ⟨_,_,rfl,run_takeDeferred hK,?_⟩⟩
  exact⟨.bool false,by simp [results,Tryz.results134,go_sem,k4],ret_bool HF.out.symm,SH'.out.ext⟩
theorem halfG (po:Option Addr) (no co:Nat) (O:List Int) (pt:Option Addr) (nt ct:Nat) (T:List Int) (w:World) (hO:Rd w 1 po no (encI O)) (hT:Rd w 1 pt nt (encI T)) (hct:nt≤ct):Calls Tryz.prog 134 #[.slice po no co,.slice pt nt ct] w fun e w'=>e=.returned (.bool (halfB O T))∧Ext w w':=by
 cases h:offB O T with
 | false =>
  have:halfB O T=false:=by unfold halfB;rw [h];rfl
  rw [this]
  exact halfG_no po no co O pt nt ct T w hO hT hct h
 | true=>exact halfG_yes po no co O pt nt ct T w hO hT hct h
end
section
open Go Go.RowKit Go.Shelf Go.Lib
attribute [local go_sem] Oper.semAt_some
theorem BinI (p:Option Addr) (n c:Nat) (l:List Int) (x:Int) (w:World) (hl:Rd w 1 p n (encI l)) (hs:Rises ltI l) (hn:n≤1000000) :
  Calls Tryz.prog 136 #[.slice p n c,.int .i64 x] w fun e w'=>e=.returned (.tuple #[.int .i64 (l.countP (·<x):Nat),.bool (inB l x)])∧Ext w w':=by
 have ln:=hl.nI
 have hin:inB l x=l.contains x:=by rw [Bool.eq_iff_iff,inB_iff];simp
 rw [hin]
 rcases hl.ptr with h0 | ⟨b,o,rfl⟩
 ·subst h0
  have:l=[]:=List.eq_nil_of_length_eq_zero ln.symm
  subst this
  exact(Any.slices_BinarySearch_int_empty Tryz.binI p c x w).mono fun e w' h=>⟨by have:=h.1;simpa using this,by rw [h.2];exact Below.refl _ _⟩
 ·have ht:l.take n=l:=List.take_of_length_le (by omega)
  have:=Any.slices_BinarySearch_int Tryz.binI b o n c l x w (by omega) (by omega) (fun j hj=>by
   have h1:=hl.cI (k:=j) (by omega)
   rw [adr_some] at h1
   rw [h1,nth_eq hj,List.getD_eq_getElem?_getD,List.getElem?_eq_getElem hj];rfl) (by rw [ht];exact hs.imp (fun {a b} h=>by simp [ltI] at h;omega))
  rw [ht] at this
  exact this.mono fun e w' h=>⟨h.1,by obtain⟨q,hq⟩:=h.2;rw [hq];exact Ext.drewN (Below.refl _ _) q⟩
theorem ContI (p:Option Addr) (n c:Nat) (l:List Int) (x:Int) (w:World) (hl:Rd w 1 p n (encI l)) :
  Calls Tryz.prog 218 #[.slice p n c,.int .i64 x] w fun e w'=>e=.returned (.bool (inB l x))∧Ext w w':=by
 have ln:=hl.nI
 have hin:inB l x=l.contains x:=by rw [Bool.eq_iff_iff,inB_iff];simp
 rw [hin]
 rcases hl.ptr with h0 | ⟨b,o,rfl⟩
 ·subst h0
  have:l=[]:=List.eq_nil_of_length_eq_zero ln.symm
  subst this
  exact(Any.slices_Contains_int_empty Tryz.hasI p c x w).mono fun e w' h=>⟨by have:=h.1;simpa using this,by rw [h.2];exact Below.refl _ _⟩
 ·have ht:l.take n=l:=List.take_of_length_le (by omega)
  have:=Any.slices_Contains_int Tryz.hasI b o n c l x w (by omega) hl.small (fun j hj=>by
   have h1:=hl.cI (k:=j) (by omega)
   rw [adr_some] at h1
   rw [h1,nth_eq hj,List.getD_eq_getElem?_getD,List.getElem?_eq_getElem hj];rfl)
  rw [ht] at this
  exact this.mono fun e w' h=>⟨h.1,by rw [h.2];exact Below.refl _ _⟩
theorem checkR_no {O T R V:List Int} (h:O.length≠R.length∨T.length≠V.length∨halfB O T=false∨halfB R V=false):checkR O T R V=false:=by
 unfold checkR
 rcases h with h | h | h | h <;> simp [h]
theorem CheckR_no (po:Option Addr) (no co:Nat) (O:List Int) (pt:Option Addr) (nt ct:Nat) (T:List Int) (pr:Option Addr) (nr cr:Nat) (R:List Int) (pv:Option Addr) (nv cv:Nat) (V:List Int) (w:World) (hO:Rd w 1 po no (encI O)) (hT:Rd w 1 pt nt (encI T)) (hR:Rd w 1 pr nr (encI R)) (hV:Rd w 1 pv nv (encI V)) (hct:nt≤ct) (hcv:nv≤cv) (h:no≠nr∨nt≠nv∨halfB O T=false∨halfB R V=false) :
  Calls Tryz.prog 82 #[.agg #[.slice po no co,.slice pt nt ct,.slice pr nr cr,.slice pv nv cv]] w fun e w'=>e=.returned (.bool false)∧Ext w w':=by
 have n1:=hO.small
 have n2:=hT.small
 have n3:=hR.small
 have n4:=hV.small
 have S0:=Lib.hid (((Sep.start w).al #[.slice po no co,.slice pt nt ct,.slice pr nr cr,.slice pv nv cv] 27 w.heap.size rfl).al #[.bool false] 4 (w.heap.size+1) (by simp))
 have HH1:=Lib.hid (fun W1 (h:Ext w W1)=>halfG po no co O pt nt ct T W1 (hO.ext h) (hT.ext h) hct)
 have HH2:=Lib.hid (fun W1 (h:Ext w W1)=>halfG pr nr cr R pv nv cv V W1 (hR.ext h) (hV.ext h) hcv)
 clear hO hT hR hV
 by_cases h1:no=nr
 ·have d1:((no:Int) != (nr:Int))=false:=by simp;omega
  by_cases h2:nt=nv
  ·have d2:((nt:Int) != (nv:Int))=false:=by simp;omega
   cases h3:halfB O T with
   | false =>
    rw [h3] at HH1
    clear h h1 h2 h3
    go_enter Tryz.func82,Tryz.ntmps82
    go_wp2_with (go_at_call 134;go_must (refine(HH1.out _ S0.out.ext).mono ?_;rintro e w1 ⟨rfl,hb⟩;have S1:=Lib.hid (S0.out.call hb);obtain⟨a0,a1,a2,a3,za⟩:=bkc0c1c2c3l (S1.out.blk 1 rfl);obtain⟨b0,f0,zb⟩:=bkc0z0l (S1.out.blk 0 rfl);clear hb))
    refine bodyPost_ret (v:=.bool false) (by simp [results,Tryz.results82,go_sem,b0]) rfl ⟨rfl,(S1.out.set 0 rfl 0 _).ext⟩
   | true =>
    have h4:halfB R V=false:=by
     rcases h with h | h | h | h
     ·exact absurd h1 h
     ·exact absurd h2 h
     ·rw [h3] at h;cases h
     ·exact h
    rw [h3] at HH1
    rw [h4] at HH2
    clear h h1 h2 h3 h4
    go_enter Tryz.func82,Tryz.ntmps82
    go_wp2_with (first | (go_at_call 134;have _t:=S1;go_must (refine(HH2.out _ S1.out.ext).mono ?_;rintro e w2 ⟨rfl,hb⟩;have S2:=Lib.hid (S1.out.call hb);obtain⟨A0,A1,A2,A3,zA⟩:=bkc0c1c2c3l (S2.out.blk 1 rfl);obtain⟨B0,F0,zB⟩:=bkc0z0l (S2.out.blk 0 rfl);clear hb)) | (go_at_call 134;go_must (refine(HH1.out _ S0.out.ext).mono ?_;rintro e w1 ⟨rfl,hb⟩;have S1:=Lib.hid (S0.out.call hb);obtain⟨a0,a1,a2,a3,za⟩:=bkc0c1c2c3l (S1.out.blk 1 rfl);obtain⟨b0,f0,zb⟩:=bkc0z0l (S1.out.blk 0 rfl);clear hb)))
    refine bodyPost_ret (v:=.bool false) (by simp [results,Tryz.results82,go_sem,B0]) rfl ⟨rfl,(S2.out.set 0 rfl 0 _).ext⟩
  ·have d2:((nt:Int) != (nv:Int))=true:=by simp;omega
   clear h h1 h2
   go_enter Tryz.func82,Tryz.ntmps82
   go_wp2
   refine bodyPost_ret (v:=.bool false) (by simp [results,Tryz.results82,go_sem]) rfl ⟨rfl,?_⟩
   first | exact S0.out.ext | exact(S0.out.set 0 rfl 0 _).ext
 ·have d1:((no:Int) != (nr:Int))=true:=by simp;omega
  clear h h1
  go_enter Tryz.func82,Tryz.ntmps82
  go_wp2
  refine bodyPost_ret (v:=.bool false) (by simp [results,Tryz.results82,go_sem]) rfl ⟨rfl,?_⟩
  first | exact S0.out.ext | exact(S0.out.set 0 rfl 0 _).ext
end
section
open Go Go.RowKit Go.Shelf Go.Lib
attribute [local go_sem] Oper.semAt_some
def chkPc (a b:Nat) (po:Option Addr) (no co:Nat) (pt:Option Addr) (nt ct:Nat) (pr:Option Addr) (nr cr:Nat) (pv:Option Addr) (nv cv:Nat) (r:Bool):List Pc :=
 [.blk (b+1) 25 #[.slice pt nt ct],.blk b 25 #[.slice po no co],.blk (a+1) 4 #[.bool r],.blk a 27 #[.slice po no co,.slice pt nt ct,.slice pr nr cr,.slice pv nv cv]]
theorem chkPc_cells (a b:Nat) (po:Option Addr) (no co:Nat) (pt:Option Addr) (nt ct:Nat) (pr:Option Addr) (nr cr:Nat) (pv:Option Addr) (nv cv:Nat) (r:Bool):∀ q∈chkPc a b po no co pt nt ct pr nr cr pv nv cv r,q.cells :=
 cells_all fun q hq=>by simp [chkPc] at hq;rcases hq with h | h | h | h <;> exact .inl ⟨_,_,_,h⟩
def backB (R V:List Int) (x:Int × Int):Bool:=inB (rowL R V x.2.toNat) x.1
theorem pair_bd {O T:List Int} (h:halfB O T=true) {x:Int × Int} (hx:x∈pairs O T):0≤x.1∧x.1<((O.length - 1:Nat):Int)∧0≤x.2∧x.2<((O.length - 1:Nat):Int):=by
 obtain⟨v,h1,h2,h3⟩:=mem_pairs.1 hx
 unfold halfB at h
 rw [Bool.and_eq_true] at h
 have:=List.all_eq_true.1 h.2 v (List.mem_range.2 h1)
 have:=(okRow_iff.1 this).1 _ h3
 omega
theorem row_rises {O T:List Int} (h:halfB O T=true) {v:Nat} (hv:v<O.length - 1):Rises ltI (rowL O T v):=by
 unfold halfB at h
 rw [Bool.and_eq_true] at h
 exact(okRow_iff.1 (List.all_eq_true.1 h.2 v (List.mem_range.2 hv))).2
theorem halfB_off {O T:List Int} (h:halfB O T=true):offB O T=true:=by
 unfold halfB at h
 rw [Bool.and_eq_true] at h
 exact h.1
theorem CheckR_yes (po:Option Addr) (no co:Nat) (O:List Int) (pt:Option Addr) (nt ct:Nat) (T:List Int) (pr:Option Addr) (nr cr:Nat) (R:List Int) (pv:Option Addr) (nv cv:Nat) (V:List Int) (w:World) (hO:Rd w 1 po no (encI O)) (hT:Rd w 1 pt nt (encI T)) (hR:Rd w 1 pr nr (encI R)) (hV:Rd w 1 pv nv (encI V)) (hct:nt≤ct) (hcv:nv≤cv) (e1:no=nr) (e2:nt=nv) (h1:halfB O T=true) (h2:halfB R V=true) :
  Calls Tryz.prog 82 #[.agg #[.slice po no co,.slice pt nt ct,.slice pr nr cr,.slice pv nv cv]] w fun e w'=>e=.returned (.bool ((pairs O T).all (backB R V)))∧Ext w w':=by
 have n1:=hO.small
 have n2:=hT.small
 have n3:=hR.small
 have n4:=hV.small
 have l1:=hO.nI
 have l2:=hT.nI
 have l3:=hR.nI
 have l4:=hV.nI
 have pR:=hR.ptr
 have S0:=Lib.hid (((Sep.start w).al #[.slice po no co,.slice pt nt ct,.slice pr nr cr,.slice pv nv cv] 27 w.heap.size rfl).al #[.bool false] 4 (w.heap.size+1) (by simp))
 have HH1:=Lib.hid (fun W1 (h:Ext w W1)=>halfG po no co O pt nt ct T W1 (hO.ext h) (hT.ext h) hct)
 have HH2:=Lib.hid (fun W1 (h:Ext w W1)=>halfG pr nr cr R pv nv cv V W1 (hR.ext h) (hV.ext h) hcv)
 rw [h1] at HH1
 rw [h2] at HH2
 have d1:((no:Int) != (nr:Int))=false:=by simp;omega
 have d2:((nt:Int) != (nv:Int))=false:=by simp;omega
 have HOK:=Lib.hid (offOk_of (halfB_off h1))
 have HOK2:=Lib.hid (offOk_of (halfB_off h2))
 have HPB:=Lib.hid (fun x (hx:x∈pairs O T)=>pair_bd h1 hx)
 have HRR:=Lib.hid (fun v (hv:v<R.length - 1)=>row_rises h2 hv)
 have r3:=(offB_parts (halfB_off h2)).2.2.1
 have hO0:0<no→(adr po 0).block<w.heap.size:=fun h=>hO.lt (by omega)
 have hT0:0<nt→(adr pt 0).block<w.heap.size:=fun h=>hT.lt (by omega)
 have L1:=Lib.hid l1
 have L3:=Lib.hid l3
 have L4:=Lib.hid l4
 have E1:=Lib.hid e1
 have E2:=Lib.hid e2
 have HO:=Lib.hid hO;clear hO
 have HT:=Lib.hid hT;clear hT
 have HR:=Lib.hid hR;clear hR
 have HV:=Lib.hid hV;clear hV
 clear h1 h2 l1 l2 l3 l4 e1 e2
 refine(callsIn_wide (n:=9)).1 ?_
 refine callsIn_of_wp_marks Tryz.func82 rfl trivial ?_ rfl
 simp only [Tryz.ntmps82,List.size_toArray,List.length_cons,List.length_nil,Nat.reduceAdd,Nat.reduceSub,Array.replicate_succ,Array.replicate_zero,List.push_toArray,List.append_toArray,List.nil_append,List.cons_append]
 refine wpIn_wide.2 ?_
 go_wp2_with (first
  | (go_at_call 135;go_must (refine(allG po no co pt nt ct _).mono ?_;rintro e w3 ⟨rfl,hw3⟩;have S3:=(S2.out.al #[.slice po no co] 25 w2.heap.size rfl).al #[.slice pt nt ct] 25 (w2.heap.size+1) (by simp);rw [← hw3] at S3;have S4:=Lib.hid (S3:Sep w w3 (chkPc w.heap.size w2.heap.size po no co pt nt ct pr nr cr pv nv cv false));clear S3 hw3))
  | (go_at_call 134;have _t:=S1;go_must (refine(HH2.out _ S1.out.ext).mono ?_;rintro e w2 ⟨rfl,hb⟩;have S2:=Lib.hid (S1.out.call hb);obtain⟨A0,A1,zA⟩:=bkc0c1l (S2.out.blk 1 rfl);clear hb))
  | (go_at_call 134;go_must (refine(HH1.out _ S0.out.ext).mono ?_;rintro e w1 ⟨rfl,hb⟩;have S1:=Lib.hid (S0.out.call hb);obtain⟨a2,a3,za⟩:=bkc2c3l (S1.out.blk 1 rfl);clear hb)))
 clear S0 S1 S2 HH1 HH2 A0 A1 a2 a3
 generalize w2.heap.size=b at *
 refine wpIn_wide.1 (wpIn_rangeFunc_ownG (F:=Fence.wide) (n:=9) rfl (by omega) (gf:=200) (lb:=#[.pointer (some ⟨b,0,none⟩),.pointer (some ⟨b+1,0,none⟩)]) rfl trivial (enters_of Tryz.func200 (by kernel_rfl) rfl)
  (all_stops 8 (by omega) b (b+1) w.heap.size po no co pt nt ct O T w3 S4.out.ext.size (S4.out.blk 1 rfl) (S4.out.blk 0 rfl) (HO.out.ext S4.out.ext) (HT.out.ext S4.out.ext) hO0 hT0 HOK.out hct)
  (fun h k=>KpA.trans h k) (kpA_b S4.out.ext.size (S4.out.blk 1 rfl).lt (S4.out.blk 0 rfl).lt) (Below.refl _ _) (fun _=>rfl)
  (fun pre W=>(pre.map (·.1)).all (backB R V)=true∧Sep w W (chkPc w.heap.size b po no co pt nt ct pr nr cr pv nv cv false))
  (fun c pre W=>(c=.ret∧(pre.map (·.1)).all (backB R V)=false)∧Sep w W (chkPc w.heap.size b po no co pt nt ct pr nr cr pv nv cv false))
  ?hI ?hIx ⟨rfl,S4.out⟩ ?a1 ?assign ?body ?done ?stop)
 case hI=>exact fun s A B row hs hg hr=>⟨hs.1,hs.2.turn (chkPc_cells _ _ _ _ _ _ _ _ _ _ _ _ _ _ _) S4.out.ext.size hg hr⟩
 case hIx=>exact fun c s A B row hs hg hr=>⟨hs.1,hs.2.turn (chkPc_cells _ _ _ _ _ _ _ _ _ _ _ _ _ _ _) S4.out.ext.size hg hr⟩
 case assign =>
  intro l x W K hK
  gi_wp2
  exact hK
 case body =>
  rintro l pre ⟨⟨v,u⟩,hx⟩ W ⟨ho,S⟩ _
  have hm:(pre ++ [(⟨(v,u),hx⟩:PairOf O T)]).map (·.1)=pre.map (·.1) ++ [(v,u)]:=by simp
  have hsn:((pre ++ [(⟨(v,u),hx⟩:PairOf O T)]).map (·.1)).all (backB R V)=backB R V (v,u):=by rw [hm,List.all_append,ho];simp
  have HSN:=Lib.hid hsn
  obtain⟨x1,x2,x3,x4⟩:=HPB.out _ hx
  simp only at x1 x2 x3 x4
  obtain⟨k,rfl⟩:∃ k:Nat,u=(k:Int):=⟨u.toNat,by omega⟩
  have hk1:k+1<R.length:=by have:=L1.out;have:=L3.out;have:=E1.out;omega
  have hk2:k+1<nr:=by rw [L3.out];exact hk1
  have q1:=HOK2.out.lo k (by omega)
  have q2:=HOK2.out.le k hk1
  have q3:=HOK2.out.hi (k+1) hk1
  have RR:=HR.out.ext S.ext
  have g1:=RR.cI (k:=k) (by omega)
  have g2:=RR.cI (k:=k+1) (by omega)
  have RL:=(HV.out.ext S.ext).rowOf HOK2.out hcv hk1
  have hrs:=HRR.out k (by omega)
  have hbk:backB R V (v,(k:Int))=inB (rowL R V k) v:=by unfold backB;simp
  obtain⟨a,ha⟩:∃ a:Nat,nth R k=(a:Int):=⟨(nth R k).toNat,by omega⟩
  obtain⟨c,hc⟩:∃ c:Nat,nth R (k+1)=(c:Int):=⟨(nth R (k+1)).toNat,by omega⟩
  rw [ha] at g1 q1 q2 RL
  rw [hc] at g2 q2 q3 RL
  have hq3:(c:Int)≤cv:=by have:=L4.out;omega
  simp only [Int.toNat_natCast] at RL
  have HB:=Lib.hid (fun x:ExtOf W=>BinI (cutp pv cv a 1) (c - a) (cv - a) (rowL R V k) v x.val (RL.ext x.ext) hrs (by have:=L4.out;omega))
  obtain⟨c0,c1⟩:=bkc2c3 (S.blk 3 rfl)
  obtain⟨c4,f4,z4⟩:=bkc0z0l (S.blk 2 rfl)
  have d3:(0:Int)≤k:=by omega
  have d4:(k:Int)<nr:=by omega
  have d5:(0:Int)≤(k:Int)+1:=by omega
  have d6:(k:Int)+1<nr:=by omega
  rw [hbk] at HSN
  have SH:=Lib.hid S;clear S
  clear hsn hm ho S4 HO HT HR HV HOK HOK2 hO0 hT0 HPB HRR RR RL ha hc hrs hbk x1 x2 x3 x4 q3
  cases hin:inB (rowL R V k) v with
  | true =>
   rw [hin] at HB HSN
   clear hin
   gi_wp2
   have y0:=fun x:ExtOf W=>x.ext.cell c0
   have y1:=fun x:ExtOf W=>x.ext.cell c1
   have y2:=fun x:ExtOf W=>x.ext.cell g1
   have y3:=fun x:ExtOf W=>x.ext.cell g2
   refine wpIn_region_ext (by kernel_rfl) (by kernel_rfl) (by kernel_rfl) ?_
   repeat (go_big_quiet_step ((go_at_call 136;exact Calls.ext_of (HB.out _))))
   refine wpQuiet_nil ?_
   rintro w5 ⟨⟨_,hb5⟩,rfl⟩
   have S5:=Lib.hid (SH.out.call hb5)
   clear y0 y1 y2 y3
   gi_wp2
   exact⟨(keeps_ext hb5).from _,kpA_of SH.out.ext S5.out.ext hb5.size (SH.out.blk 1 rfl) (SH.out.blk 0 rfl) (S5.out.blk 1 rfl) (S5.out.blk 0 rfl),HSN.out,S5.out⟩
  | false =>
   rw [hin] at HB HSN
   clear hin
   gi_wp2
   have y0:=fun x:ExtOf W=>x.ext.cell c0
   have y1:=fun x:ExtOf W=>x.ext.cell c1
   have y2:=fun x:ExtOf W=>x.ext.cell g1
   have y3:=fun x:ExtOf W=>x.ext.cell g2
   refine wpIn_region_ext (by kernel_rfl) (by kernel_rfl) (by kernel_rfl) ?_
   repeat (go_big_quiet_step ((go_at_call 136;exact Calls.ext_of (HB.out _))))
   refine wpQuiet_nil ?_
   rintro w5 ⟨⟨_,hb5⟩,rfl⟩
   have S5:=Lib.hid (SH.out.call hb5)
   obtain⟨k4,kf,kz⟩:=bkc0z0l (S5.out.blk 2 rfl)
   clear y0 y1 y2 y3 c4 f4 z4
   gi_wp2
   exact⟨((keeps_ext hb5).trans (KeepsOthers.setCell _ _ _)).from _,⟨rfl,HSN.out⟩,S5.out.set 2 rfl 0 (.bool false)⟩
 case done =>
  rintro D ys W hD hys ⟨ho,S⟩ hK
  have HF:Hid ((pairs O T).all (backB R V)=true):=by unfold Hid;rw [← hys];exact ho
  obtain⟨c4,f4,z4⟩:=bkc0z0l (S.blk 2 rfl)
  have hKs:=(KeepsOthers.setCell W ⟨w.heap.size+1,0,none⟩ (.bool true)).same D _ hK rfl
  have S':=(S.set 2 rfl 0 (.bool true)).putObj (chkPc_cells w.heap.size b po no co pt nt ct pr nr cr pv nv cv true) (.deferred none) (Nat.le_trans S4.out.ext.size hD) hKs rfl
  have k4:=(S'.blk 2 rfl).cell 0
  have SH:=Lib.hid S;clear S
  have SH':=Lib.hid S';clear S'
  go_wp2
  refine⟨by simp,.inl ⟨_,_,rfl,run_takeDeferred hKs,?_⟩⟩
  exact⟨.bool true,by simp [results,Tryz.results82,go_sem,k4],ret_bool HF.out.symm,SH'.out.ext⟩
 case stop =>
  rintro D c pre W hD hSp ⟨⟨rfl,hno⟩,S⟩ hK
  have HF:Hid ((pairs O T).all (backB R V)=false):=by
   obtain⟨t,ht⟩:=hSp
   unfold Hid;rw [← ht,List.all_append,hno];rfl
  have S':=S.putObj (chkPc_cells w.heap.size b po no co pt nt ct pr nr cr pv nv cv false) (.deferred none) (Nat.le_trans S4.out.ext.size hD) hK rfl
  have k4:=(S'.blk 2 rfl).cell 0
  have SH:=Lib.hid S;clear S
  have SH':=Lib.hid S';clear S'
  refine wpIn_wide.2 ?_
  go_wp2
  refine⟨by simp,.inl ⟨_,_,rfl,run_takeDeferred hK,?_⟩⟩
  exact⟨.bool false,by simp [results,Tryz.results82,go_sem,k4],ret_bool HF.out.symm,SH'.out.ext⟩
theorem CheckR (po:Option Addr) (no co:Nat) (O:List Int) (pt:Option Addr) (nt ct:Nat) (T:List Int) (pr:Option Addr) (nr cr:Nat) (R:List Int) (pv:Option Addr) (nv cv:Nat) (V:List Int) (w:World) (hO:Rd w 1 po no (encI O)) (hT:Rd w 1 pt nt (encI T)) (hR:Rd w 1 pr nr (encI R)) (hV:Rd w 1 pv nv (encI V)) (hct:nt≤ct) (hcv:nv≤cv):Calls Tryz.prog 82 #[.agg #[.slice po no co,.slice pt nt ct,.slice pr nr cr,.slice pv nv cv]] w fun e w'=>e=.returned (.bool (checkR O T R V))∧Ext w w':=by
 have l1:=hO.nI
 have l2:=hT.nI
 have l3:=hR.nI
 have l4:=hV.nI
 by_cases h:no≠nr∨nt≠nv∨halfB O T=false∨halfB R V=false
 ·rw [checkR_no (by rw [← l1,← l2,← l3,← l4];exact h)]
  exact CheckR_no po no co O pt nt ct T pr nr cr R pv nv cv V w hO hT hR hV hct hcv h
 ·have h1:no=nr:=by
   by_cases h1:no=nr
   ·exact h1
   ·exact absurd (.inl h1) h
  have h2:nt=nv:=by
   by_cases h2:nt=nv
   ·exact h2
   ·exact absurd (.inr (.inl h2)) h
  have h3:halfB O T=true:=by
   cases h3:halfB O T with
   | true=>rfl
   | false=>exact absurd (.inr (.inr (.inl h3))) h
  have h4:halfB R V=true:=by
   cases h4:halfB R V with
   | true=>rfl
   | false=>exact absurd (.inr (.inr (.inr h4))) h
  have:checkR O T R V=(pairs O T).all (backB R V):=by
   unfold checkR
   rw [h3,h4,← l1,← l2,← l3,← l4,h1,h2]
   simp only [decide_true,Bool.true_and]
   rfl
  rw [this]
  exact CheckR_yes po no co O pt nt ct T pr nr cr R pv nv cv V w hO hT hR hV hct hcv h1 h2 h3 h4
end
section
open Go Go.RowKit Go.Shelf Go.Lib
def outB (b:Bool) (A:List Int) (v:Int):Bool:=b && decide (0≤v) && decide (v<(A.length:Int) - 1)
def outL (b:Bool) (A B:List Int) (v:Int):List Int:=if outB b A v=true then rowL A B v.toNat else []
theorem outL_no {b:Bool} {A B:List Int} {v:Int} (h:outB b A v=false):outL b A B v=[]:=by unfold outL;rw [h];rfl
theorem outL_yes {b:Bool} {A B:List Int} {v:Int} (h:outB b A v=true):outL b A B v=rowL A B v.toNat:=by unfold outL;rw [h];rfl
theorem checkR_half {O T R V:List Int} (h:checkR O T R V=true):O.length=R.length∧T.length=V.length∧halfB O T=true∧halfB R V=true:=by
 unfold checkR at h
 simp only [Bool.and_eq_true,decide_eq_true_eq] at h
 exact⟨h.1.1.1.1,h.1.1.1.2,h.1.1.2,h.1.2⟩
theorem rowG (po:Option Addr) (no co:Nat) (O:List Int) (pt:Option Addr) (nt ct:Nat) (T:List Int) (pr:Option Addr) (nr cr:Nat) (R:List Int) (pv:Option Addr) (nv cv:Nat) (V:List Int) (w:World) (pa:Option Addr) (na ca:Nat) (A:List Int) (pb:Option Addr) (nb cb:Nat) (B:List Int) (v:Int) (hO:Rd w 1 po no (encI O)) (hT:Rd w 1 pt nt (encI T)) (hR:Rd w 1 pr nr (encI R)) (hV:Rd w 1 pv nv (encI V)) (hct:nt≤ct) (hcv:nv≤cv) (hA:Rd w 1 pa na (encI A)) (hB:Rd w 1 pb nb (encI B)) (hcb:nb≤cb) (hAB:checkR O T R V=true→offB A B=true) :
  Calls Tryz.prog 275 #[.agg #[.slice po no co,.slice pt nt ct,.slice pr nr cr,.slice pv nv cv],.slice pa na ca,.slice pb nb cb,.int .i64 v] w fun e w'=>∃ q c,e=.returned (.tuple #[.slice q (outL (checkR O T R V) A B v).length c,.bool (outB (checkR O T R V) A v)])∧Sep w w' [.own 3 1 q (outL (checkR O T R V) A B v).length c (encI (outL (checkR O T R V) A B v))]:=by
 have na1:=hA.small
 have nb1:=hB.small
 have l1:=Lib.hid hA.nI
 have l2:=Lib.hid hB.nI
 have pA:=hA.ptr
 have S0:=Lib.hid ((Sep.start w).al #[.slice po no co,.slice pt nt ct,.slice pr nr cr,.slice pv nv cv] 27 w.heap.size rfl)
 have HC:=Lib.hid (fun W1 (h:Ext w W1)=>CheckR po no co O pt nt ct T pr nr cr R pv nv cv V W1 (hO.ext h) (hT.ext h) (hR.ext h) (hV.ext h) hct hcv)
 clear hO hT hR hV
 cases hck:checkR O T R V with
 | false =>
  rw [hck] at HC
  have hno:outB false A v=false:=rfl
  rw [outL_no hno,hno]
  clear hA hB hAB hck hno
  go_enter Tryz.func275,Tryz.ntmps275
  go_wp2_with (go_at_call 82;go_must (refine(HC.out _ S0.out.ext).mono ?_;rintro e w1 ⟨rfl,hb⟩;have S1:=Lib.hid (S0.out.call hb);clear hb))
  go_ret2
  exact⟨none,0,rfl,((Sep.start w).call S1.out.ext).nilrow _ _⟩
 | true =>
  rw [hck] at HC
  have hof:=hAB hck
  have HOK:=offOk_of hof
  have w2:=HOK.two
  have hwd:withB ((na:Int) - 2) [v]=outB true A v:=by
   unfold withB outB
   rw [← l1.out]
   simp
   by_cases h1:0≤v <;> simp [h1] <;> omega
  have HW:=Lib.hid (fun W1:World=>withinG ((na:Int) - 2) (some ⟨W1.heap.size,0,none⟩) 1 1 [v] _ (Rd.oneI W1 3 v))
  rw [hwd] at HW
  have q0:(2:Int)≤na:=by have:=l1.out;omega
  cases ho:outB true A v with
  | false =>
   rw [ho] at HW
   rw [outL_no ho]
   clear hA hB hAB hck HOK hof hwd ho
   go_enter Tryz.func275,Tryz.ntmps275
   go_wp2_with (first | (go_at_call 199;go_must (refine(HW.out _).mono ?_;rintro e w2 ⟨rfl,rfl⟩)) | (go_at_call 82;go_must (refine(HC.out _ S0.out.ext).mono ?_;rintro e w1 ⟨rfl,hb⟩;have S1:=Lib.hid (S0.out.call hb);clear hb)))
   go_ret2
   exact⟨none,0,rfl,((((Sep.start w).call S1.out.ext).junk _)).nilrow _ _⟩
  | true =>
   rw [ho] at HW
   have ho2:=ho
   unfold outB at ho2
   simp only [Bool.true_and,Bool.and_eq_true,decide_eq_true_eq] at ho2
   obtain⟨v1,v2⟩:=ho2
   rw [outL_yes ho]
   obtain⟨k,rfl⟩:∃ k:Nat,v=(k:Int):=⟨v.toNat,by omega⟩
   rw [Int.toNat_natCast]
   have hk1:k+1<A.length:=by omega
   have q1:=HOK.lo k (by omega)
   have q2:=HOK.le k hk1
   have q3:=HOK.hi (k+1) hk1
   have hrl:=rowL_len HOK hk1
   have RL0:=hB.rowOf HOK hcb hk1
   have HA:=Lib.hid hA
   obtain⟨a,ha⟩:∃ a:Nat,nth A k=(a:Int):=⟨(nth A k).toNat,by omega⟩
   obtain⟨c,hc⟩:∃ c:Nat,nth A (k+1)=(c:Int):=⟨(nth A (k+1)).toNat,by omega⟩
   rw [ha] at q1 q2 hrl RL0
   rw [hc] at q2 q3 hrl RL0
   simp only [Int.toNat_natCast] at hrl RL0
   have hq3:(c:Int)≤cb:=by have:=l2.out;omega
   have hlen:=(offB_parts hof).2.2.1
   have HLEN:Hid (c - a≤100000):=by unfold Hid;have:=l2.out;omega
   have d1:(0:Int)≤k:=by omega
   have d2:(k:Int)<na:=by have:=l1.out;omega
   have d3:(0:Int)≤(k:Int)+1:=by omega
   have d4:(k:Int)+1<na:=by have:=l1.out;omega
   have G1:Hid (∀ W,Ext w W→W.cell? (adr pa k)=some (.int .i64 a)∧W.cell? (adr pa (k+1))=some (.int .i64 c)):=fun W h=>by
    have h1:=(HA.out.ext h).cI (k:=k) (by omega)
    have h2:=(HA.out.ext h).cI (k:=k+1) (by omega)
    rw [ha] at h1;rw [hc] at h2;exact⟨h1,h2⟩
   have HRL:=Lib.hid hrl
   have RL:=Lib.hid RL0
   clear hA hB hAB hck HOK hof hwd ho ha hc v1 v2 hk1 q3 hrl RL0 hlen HA
   rw [HRL.out]
   go_enter Tryz.func275,Tryz.ntmps275
   go_wp2_with (first | (go_at_call 199;go_must (refine(HW.out _).mono ?_;rintro e w2 ⟨rfl,rfl⟩;obtain⟨g1,g2⟩:=G1.out _ (S1.out.junk (.cells #[.int .i64 k] 3)).ext)) | (go_at_call 82;go_must (refine(HC.out _ S0.out.ext).mono ?_;rintro e w1 ⟨rfl,hb⟩;have S1:=Lib.hid (S0.out.call hb);clear hb)))
   obtain⟨X,hX⟩:∃ X,X=w1.alloc (.cells #[.int .i64 (k:Int)] 3):=⟨_,rfl⟩
   have SX:=Lib.hid (hX ▸ (S1.out.junk (.cells #[.int .i64 (k:Int)] 3)):Sep w X _)
   rw [← hX] at g1 g2 ⊢
   have x1:=fun x:ExtOf X=>x.ext.cell g1
   have x2:=fun x:ExtOf X=>x.ext.cell g2
   refine wp_region_mix [true,true,true,true,true,true,true,true,true,true,true,false] (fun _ u W=>∃ q d,u=.slice q (c - a) d∧W.ownsRow X.heap.size 3 1 (.slice q (c - a) d) (c - a) (encI (rowL A B k))) (by kernel_rfl) (by kernel_rfl) (by kernel_rfl) (fun _ _ _ _ hE ⟨p,d,h1,h2⟩=>⟨p,d,h1,hE.own h2⟩) ?_
   simp only [nfM]
   repeat (go_big_quiet_step ((fail)))
   refine wpQuiet_nil ⟨⟨fun vs W hE hd=>?_,trivial⟩,fun vs W hE hkn=>?_⟩
   ·simp [putM,go_sem]
    exact(CloneI _ (c - a) _ (rowL A B k) W (RL.out.ext (Ext.trans SX.out.ext hE)) HLEN.out).mono fun e w' ⟨q,d,h1,S⟩=>⟨_,h1,⟨q,d,rfl,own_base (S.own 0 rfl) hE.size⟩,S.ext⟩
   ·obtain⟨⟨q,d,hv,hown⟩,_⟩:=hkn
    have S5:=Lib.hid (SX.out.fresh hE hown (Nat.le_refl _))
    simp only [putM,hv,List.length_cons,List.length_nil,Nat.zero_add,Nat.reduceAdd,List.drop_succ_cons,List.drop_zero]
    clear x1 x2 g1 g2 hv hown hE hX
    go_wp2
    go_ret2
    exact⟨q,d,rfl,S5.out.pick [0] (by decide) rfl⟩
theorem OutG (po:Option Addr) (no co:Nat) (O:List Int) (pt:Option Addr) (nt ct:Nat) (T:List Int) (pr:Option Addr) (nr cr:Nat) (R:List Int) (pv:Option Addr) (nv cv:Nat) (V:List Int) (w:World) (v:Int) (hO:Rd w 1 po no (encI O)) (hT:Rd w 1 pt nt (encI T)) (hR:Rd w 1 pr nr (encI R)) (hV:Rd w 1 pv nv (encI V)) (hct:nt≤ct) (hcv:nv≤cv):Calls Tryz.prog 244 #[.agg #[.slice po no co,.slice pt nt ct,.slice pr nr cr,.slice pv nv cv],.int .i64 v] w fun e w'=>∃ q c,e=.returned (.tuple #[.slice q (outL (checkR O T R V) O T v).length c,.bool (outB (checkR O T R V) O v)])∧Sep w w' [.own 3 1 q (outL (checkR O T R V) O T v).length c (encI (outL (checkR O T R V) O T v))]:=by
 have S0:=Lib.hid ((Sep.start w).al #[.slice po no co,.slice pt nt ct,.slice pr nr cr,.slice pv nv cv] 27 w.heap.size rfl)
 have HR:=Lib.hid (fun W1 (h:Ext w W1)=>rowG po no co O pt nt ct T pr nr cr R pv nv cv V W1 po no co O pt nt ct T v (hO.ext h) (hT.ext h) (hR.ext h) (hV.ext h) hct hcv (hO.ext h) (hT.ext h) hct (fun h=>halfB_off (checkR_half h).2.2.1))
 clear hO hT hR hV
 go_enter Tryz.func244,Tryz.ntmps244
 go_wp2_with (go_at_call 275;go_must (refine(HR.out _ S0.out.ext).mono ?_;rintro e w1 ⟨q,c,rfl,T⟩;have S1:=Lib.hid (S0.out.comp T);clear T))
 go_ret2
 exact⟨q,c,rfl,S1.out.pick [0] (by decide) rfl⟩
theorem InG (po:Option Addr) (no co:Nat) (O:List Int) (pt:Option Addr) (nt ct:Nat) (T:List Int) (pr:Option Addr) (nr cr:Nat) (R:List Int) (pv:Option Addr) (nv cv:Nat) (V:List Int) (w:World) (v:Int) (hO:Rd w 1 po no (encI O)) (hT:Rd w 1 pt nt (encI T)) (hR:Rd w 1 pr nr (encI R)) (hV:Rd w 1 pv nv (encI V)) (hct:nt≤ct) (hcv:nv≤cv):Calls Tryz.prog 245 #[.agg #[.slice po no co,.slice pt nt ct,.slice pr nr cr,.slice pv nv cv],.int .i64 v] w fun e w'=>∃ q c,e=.returned (.tuple #[.slice q (outL (checkR O T R V) R V v).length c,.bool (outB (checkR O T R V) R v)])∧Sep w w' [.own 3 1 q (outL (checkR O T R V) R V v).length c (encI (outL (checkR O T R V) R V v))]:=by
 have S0:=Lib.hid ((Sep.start w).al #[.slice po no co,.slice pt nt ct,.slice pr nr cr,.slice pv nv cv] 27 w.heap.size rfl)
 have HR:=Lib.hid (fun W1 (h:Ext w W1)=>rowG po no co O pt nt ct T pr nr cr R pv nv cv V W1 pr nr cr R pv nv cv V v (hO.ext h) (hT.ext h) (hR.ext h) (hV.ext h) hct hcv (hR.ext h) (hV.ext h) hcv (fun h=>halfB_off (checkR_half h).2.2.2))
 clear hO hT hR hV
 go_enter Tryz.func245,Tryz.ntmps245
 go_wp2_with (go_at_call 275;go_must (refine(HR.out _ S0.out.ext).mono ?_;rintro e w1 ⟨q,c,rfl,T⟩;have S1:=Lib.hid (S0.out.comp T);clear T))
 go_ret2
 exact⟨q,c,rfl,S1.out.pick [0] (by decide) rfl⟩
end
section
open Go Go.RowKit Go.Shelf Go.Lib
attribute [local go_sem ↓] eqEdge neqEdge guardEdge
def bigR (O T R V:List Int):Bool:=decide (30<O.length) && decide (O.length≤201) || decide (250<O.length) || decide (250<R.length) || decide (150<T.length) && decide (T.length≤2000) || decide (2100<T.length) || decide (2100<V.length)
theorem Big04 (po:Option Addr) (no co:Nat) (O:List Int) (pt:Option Addr) (nt ct:Nat) (T:List Int) (pr:Option Addr) (nr cr:Nat) (R:List Int) (pv:Option Addr) (nv cv:Nat) (V:List Int) (w:World) (hO:Rd w 1 po no (encI O)) (hT:Rd w 1 pt nt (encI T)) (hR:Rd w 1 pr nr (encI R)) (hV:Rd w 1 pv nv (encI V)):Calls Tryz.prog 47 #[.agg #[.slice po no co,.slice pt nt ct,.slice pr nr cr,.slice pv nv cv]] w fun e w'=>e=.returned (.bool (bigR O T R V))∧Ext w w':=by
 have hd:bigR O T R V=(decide (30<no) && decide (no≤201) || decide (250<no) || decide (250<nr) || decide (150<nt) && decide (nt≤2000) || decide (2100<nt) || decide (2100<nv)):=by
  unfold bigR;rw [hO.nI,hT.nI,hR.nI,hV.nI]
 rw [hd]
 clear hd hO hT hR hV
 go_enter Tryz.func47,Tryz.ntmps47
 go_wp2
 all_goals (go_ret;refine⟨ret_bool ?_,Ext.alloc (Below.refl _ _) _⟩;rw [Bool.eq_iff_iff];simp only [Bool.or_eq_true,Bool.and_eq_true,decide_eq_true_eq,true_iff];omega)
end
section
open Go Go.RowKit Go.Maps
def allK (L:List Po) (ws:List ByteArray) (k:Nat):List Int:=putAll ltI ((findL L (nth ws 0)).filter fun x=>(ws.take k).all fun u=>(findL L u).contains x)
theorem allK_len {L:List Po} (hok:PoOk L) (ws:List ByteArray) (k:Nat):(allK L ws k).length≤1000:=by
 unfold allK
 exact Nat.le_trans (putAll_len _ _) (Nat.le_trans (List.length_filter_le _ _) (findL_ok hok _).1)
theorem allK_end {L:List Po} {ws:List ByteArray} {k:Nat} (h:ws.length≤k):allK L ws k=allS L ws:=by
 unfold allK allS;rw [List.take_of_length_le h]
theorem AllG (p:Option Addr) (np cp:Nat) (hs:List Hd) (L:List Po) (pr:Option Addr) (nr cr:Nat) (ws:List ByteArray) (w:World) (hL:RdP w p np hs L) (hok:PoOk L) (hR:Rd w 1 pr nr (encS ws)) (hcr:nr≤cr) (h0:0<nr) (hn:nr≤100) :
  Calls Tryz.prog 115 #[.slice p np cp,.slice pr nr cr] w fun e w'=>∃ q c,e=.returned (.tuple #[.slice q (allS L ws).length c,.int .i64 0])∧Sep w w' [.own 3 1 q (allS L ws).length c (encI (allS L ws))]:=by
 have HF:=Lib.hid (foundAll p np cp hs L pr nr cr ws w hL hok hR hcr h0 hn)
 clear hL hok hR
 go_enter Tryz.func115,Tryz.ntmps115
 go_wp2_with (go_at_call 187;go_must (refine HF.out.mono ?_;rintro e w2 ⟨q1,c1,rfl,T⟩;have S2:=Lib.hid T;clear T))
 go_ret2
 exact⟨q1,c1,rfl,S2.out⟩
theorem AllGn (p:Option Addr) (np cp:Nat) (pr:Option Addr) (cr:Nat) (w:World):Calls Tryz.prog 115 #[.slice p np cp,.slice pr 0 cr] w fun e w'=>e=.returned (.tuple #[.slice none 0 0,.int .i64 1])∧Ext w w':=by
 go_enter Tryz.func115,Tryz.ntmps115
 go_wp2_with (go_at_call 187;go_must (refine(foundAll0 p np cp pr cr _).mono ?_;rintro e w2 ⟨rfl,T⟩;have S2:=Lib.hid T;clear T))
 go_ret2
 exact⟨rfl,S2.out⟩
end
section
open Go Go.RowKit Go.Maps
def rowsP (L:List Po) (hs:List Hd):List (Hd × List Value):=hs.zip (L.map fun p=>encI p.2)
theorem rowsP_snoc (L:List Po) (hs:List Hd) (p:Po) (a:Hd) (h:hs.length=L.length):rowsP (L ++ [p]) (hs ++ [a])=rowsP L hs ++ [(a,encI p.2)]:=by
 unfold rowsP
 rw [List.map_append,List.zip_append (by simpa using h)];rfl
end
section
open Go Go.RowKit Go.Maps
def badPo (p:Po):Bool:=decide (60<p.1.size) || decide (60<p.2.length)
def bigP (L:List Po):Bool:=(decide (L.length≤40) && L.any badPo) || decide (40<L.length)
theorem Big05 (p:Option Addr) (n c:Nat) (hs:List Hd) (L:List Po) (w:World) (hL:RdP w p n hs L) :
  Calls Tryz.prog 48 #[.slice p n c] w fun e w'=>e=.returned (.bool (bigP L))∧Ext w w':=by
 have p1:=hL.ptr
 have n1:=hL.small
 have L1:=Lib.hid hL.hn
 have HL:=Lib.hid hL;clear hL
 by_cases h40:n≤40
 ·have b0:decide ((n:Int)≤40)=true:=by simp;omega
  have b0n:decide (n≤40)=true:=by simp;omega
  go_enter Tryz.func48,Tryz.ntmps48
  go_wp2
  go_loop [3] (fun i=>∃ k:Nat,k≤n∧i=.int .i64 k∧(L.take k).any badPo=false) (fun i=>n - (intOf i).toNat)
  case atStart=>exact⟨0,Nat.zero_le _,rfl,rfl⟩
  case round =>
   obtain⟨k,hk,rfl,ha⟩:=hrel
   have HA:=Lib.hid ha;clear ha
   by_cases hlt:k<n
   ·have g1:=HL.out.c1 k hlt
    have g2:=HL.out.c2 k hlt
    have LE:=Lib.hid (HL.out.each k hlt).nI
    have d1:(0:Int)≤k:=by omega
    have d2:(k:Int)<n:=by omega
    have hkL:k<L.length:=by rw [← L1.out];exact hlt
    have HT:Hid (badPo (nth L k)=true→bigP L=true):=fun h=>by unfold bigP;rw [any_true_at badPo L k hkL h,decide_eq_true (by rw [← L1.out];exact h40)];rfl
    by_cases h6:60<(nth L k).1.size
    ·have HF:Hid (bigP L=true):=HT.out (by unfold badPo;simp [h6])
     go_wp2
     go_ret
     exact⟨ret_bool HF.out.symm,Below.refl _ _⟩
    ·by_cases h7:60<(nth hs k).n
     ·have HF:Hid (bigP L=true):=HT.out (by unfold badPo;rw [← LE.out];simp [h7])
      go_wp2
      go_ret
      exact⟨ret_bool HF.out.symm,Below.refl _ _⟩
     ·have HF:=Lib.hid (any_step badPo L k hkL HA.out (by unfold badPo;rw [← LE.out];simp;omega))
      go_wp2
      go_round
      case rel=>exact⟨k+1,by omega,by go_num,HF.out⟩
      case measure=>simp [intOf];omega
   ·have HF:Hid (bigP L=false):=by unfold Hid bigP;rw [any_end badPo L k (by rw [← L1.out];exact hlt) HA.out,← L1.out];simp;omega
    go_wp2
    go_ret
    exact⟨ret_bool (by rw [HF.out];simp;try omega),Below.refl _ _⟩
 ·have b0:decide ((n:Int)≤40)=false:=by simp;omega
  have b0n:decide (n≤40)=false:=by simp;omega
  have HF:Hid (bigP L=true):=by unfold Hid bigP;rw [← L1.out];simp;omega
  go_enter Tryz.func48,Tryz.ntmps48
  go_wp2
  refine wp_loop_rounds 1 ?_
  rw [rounds_succ]
  go_wp2
  go_ret
  exact⟨ret_bool (by rw [HF.out];simp;try omega),Below.refl _ _⟩
end
section
open Go Go.RowKit
def farJ (ws:List ByteArray) (O T R V:List Int) (L:List Po) (np:Nat):Bool:=bigQ ws || (bigR O T R V || (decide (30<O.length) || (bigP L || decide (60<np))))
theorem farJ_no {ws:List ByteArray} {O T R V:List Int} {L:List Po} {np:Nat} (h:farJ ws O T R V L np=false):bigQ ws=false∧bigR O T R V=false∧O.length≤30∧bigP L=false∧np≤60:=by
 unfold farJ at h
 simp only [Bool.or_eq_false_iff,decide_eq_false_iff_not] at h
 exact⟨h.1,h.2.1,by omega,h.2.2.2.1,by omega⟩
theorem FarJ20 (k f t:Int) (pw:Option Addr) (nw cw:Nat) (ws:List ByteArray) (rad most:Int) (po:Option Addr) (no co:Nat) (O:List Int) (pt:Option Addr) (nt ct:Nat) (T:List Int) (pr:Option Addr) (nr cr:Nat) (R:List Int) (pv:Option Addr) (nv cv:Nat) (V:List Int) (pl:Option Addr) (nl cl:Nat) (hs:List Hd) (L:List Po) (pp:Option Addr) (np cp:Nat) (w:World) (hO:Rd w 1 po no (encI O)) (hT:Rd w 1 pt nt (encI T)) (hR:Rd w 1 pr nr (encI R)) (hV:Rd w 1 pv nv (encI V)) (hW:Rd w 1 pw nw (encS ws)) (hL:RdP w pl nl hs L) :
  Calls Tryz.prog 14 #[.agg #[.int .i64 k,.int .i64 f,.int .i64 t,.slice pw nw cw,.int .i64 rad,.int .i64 most],.agg #[.slice po no co,.slice pt nt ct,.slice pr nr cr,.slice pv nv cv],.slice pl nl cl,.slice pp np cp] w fun e w'=>e=.returned (.bool (farJ ws O T R V L np))∧Ext w w':=by
 have HBG:=Lib.hid (fun W (h:Ext w W)=>BigQ k f t pw nw cw ws rad most W (hW.ext h))
 have HBR:=Lib.hid (fun W (h:Ext w W)=>Big04 po no co O pt nt ct T pr nr cr R pv nv cv V W (hO.ext h) (hT.ext h) (hR.ext h) (hV.ext h))
 have HBP:=Lib.hid (fun W (h:Ext w W)=>Big05 pl nl cl hs L W (hL.ext h))
 have S0:=Lib.hid (((Sep.start w).al #[.int .i64 k,.int .i64 f,.int .i64 t,.slice pw nw cw,.int .i64 rad,.int .i64 most] 24 w.heap.size rfl).al #[.slice po no co,.slice pt nt ct,.slice pr nr cr,.slice pv nv cv] 27 (w.heap.size+1) (by simp))
 have hno:=hO.nI
 unfold farJ
 rw [← hno]
 clear hO hT hR hV hW hL hno
 generalize bigQ ws=b1 at *
 generalize bigR O T R V=b2 at *
 generalize bigP L=b3 at *
 cases b1 with
 | true =>
  go_enter Tryz.func14,Tryz.ntmps14
  go_wp2_with (first | (go_at_call 48;have _t:=S2;go_must (refine(HBP.out _ S2.out.ext).mono ?_;rintro e w3 ⟨rfl,hb⟩;have S3:=Lib.hid (S2.out.call hb);clear hb)) | (go_at_call 47;have _t:=S1;go_must (refine(HBR.out _ S1.out.ext).mono ?_;rintro e w2 ⟨rfl,hb⟩;have S2:=Lib.hid (S1.out.call hb);clear b0 b1 b2 b3 bz;obtain⟨b0,b1,b2,b3,bz⟩:=bkc0c1c2c3l (S2.out.blk 0 rfl);clear hb)) | (go_at_call 46;go_must (refine(HBG.out _ S0.out.ext).mono ?_;rintro e w1 ⟨rfl,hb⟩;have S1:=Lib.hid (S0.out.call hb);obtain⟨b0,b1,b2,b3,bz⟩:=bkc0c1c2c3l (S1.out.blk 0 rfl);clear hb)))
  go_ret
  exact⟨rfl,S1.out.ext⟩
 | false =>
  cases b2 with
  | true =>
   go_enter Tryz.func14,Tryz.ntmps14
   go_wp2_with (first | (go_at_call 48;have _t:=S2;go_must (refine(HBP.out _ S2.out.ext).mono ?_;rintro e w3 ⟨rfl,hb⟩;have S3:=Lib.hid (S2.out.call hb);clear hb)) | (go_at_call 47;have _t:=S1;go_must (refine(HBR.out _ S1.out.ext).mono ?_;rintro e w2 ⟨rfl,hb⟩;have S2:=Lib.hid (S1.out.call hb);clear b0 b1 b2 b3 bz;obtain⟨b0,b1,b2,b3,bz⟩:=bkc0c1c2c3l (S2.out.blk 0 rfl);clear hb)) | (go_at_call 46;go_must (refine(HBG.out _ S0.out.ext).mono ?_;rintro e w1 ⟨rfl,hb⟩;have S1:=Lib.hid (S0.out.call hb);obtain⟨b0,b1,b2,b3,bz⟩:=bkc0c1c2c3l (S1.out.blk 0 rfl);clear hb)))
   go_ret
   exact⟨rfl,S2.out.ext⟩
  | false =>
   rw [Bool.false_or,Bool.false_or]
   by_cases h1:30<no
   ·have e1:decide ((30:Int)<(no:Int))=true:=by simp;omega
    have e1n:decide (30<no)=true:=by simpa using h1
    rw [e1n,Bool.true_or]
    clear h1
    go_enter Tryz.func14,Tryz.ntmps14
    go_wp2_with (first | (go_at_call 48;have _t:=S2;go_must (refine(HBP.out _ S2.out.ext).mono ?_;rintro e w3 ⟨rfl,hb⟩;have S3:=Lib.hid (S2.out.call hb);clear hb)) | (go_at_call 47;have _t:=S1;go_must (refine(HBR.out _ S1.out.ext).mono ?_;rintro e w2 ⟨rfl,hb⟩;have S2:=Lib.hid (S1.out.call hb);clear b0 b1 b2 b3 bz;obtain⟨b0,b1,b2,b3,bz⟩:=bkc0c1c2c3l (S2.out.blk 0 rfl);clear hb)) | (go_at_call 46;go_must (refine(HBG.out _ S0.out.ext).mono ?_;rintro e w1 ⟨rfl,hb⟩;have S1:=Lib.hid (S0.out.call hb);obtain⟨b0,b1,b2,b3,bz⟩:=bkc0c1c2c3l (S1.out.blk 0 rfl);clear hb)))
    go_ret
    exact⟨rfl,S2.out.ext⟩
   ·have e1:decide ((30:Int)<(no:Int))=false:=by simp;omega
    have e1n:decide (30<no)=false:=by simpa using h1
    rw [e1n,Bool.false_or]
    clear h1
    cases b3 with
    | true =>
     go_enter Tryz.func14,Tryz.ntmps14
     go_wp2_with (first | (go_at_call 48;have _t:=S2;go_must (refine(HBP.out _ S2.out.ext).mono ?_;rintro e w3 ⟨rfl,hb⟩;have S3:=Lib.hid (S2.out.call hb);clear hb)) | (go_at_call 47;have _t:=S1;go_must (refine(HBR.out _ S1.out.ext).mono ?_;rintro e w2 ⟨rfl,hb⟩;have S2:=Lib.hid (S1.out.call hb);clear b0 b1 b2 b3 bz;obtain⟨b0,b1,b2,b3,bz⟩:=bkc0c1c2c3l (S2.out.blk 0 rfl);clear hb)) | (go_at_call 46;go_must (refine(HBG.out _ S0.out.ext).mono ?_;rintro e w1 ⟨rfl,hb⟩;have S1:=Lib.hid (S0.out.call hb);obtain⟨b0,b1,b2,b3,bz⟩:=bkc0c1c2c3l (S1.out.blk 0 rfl);clear hb)))
     go_ret
     exact⟨rfl,S3.out.ext⟩
    | false =>
     rw [Bool.false_or]
     by_cases h2:60<np
     ·have e2:decide ((60:Int)<(np:Int))=true:=by simp;omega
      have e2n:decide (60<np)=true:=by simpa using h2
      rw [e2n]
      clear h2
      go_enter Tryz.func14,Tryz.ntmps14
      go_wp2_with (first | (go_at_call 48;have _t:=S2;go_must (refine(HBP.out _ S2.out.ext).mono ?_;rintro e w3 ⟨rfl,hb⟩;have S3:=Lib.hid (S2.out.call hb);clear hb)) | (go_at_call 47;have _t:=S1;go_must (refine(HBR.out _ S1.out.ext).mono ?_;rintro e w2 ⟨rfl,hb⟩;have S2:=Lib.hid (S1.out.call hb);clear b0 b1 b2 b3 bz;obtain⟨b0,b1,b2,b3,bz⟩:=bkc0c1c2c3l (S2.out.blk 0 rfl);clear hb)) | (go_at_call 46;go_must (refine(HBG.out _ S0.out.ext).mono ?_;rintro e w1 ⟨rfl,hb⟩;have S1:=Lib.hid (S0.out.call hb);obtain⟨b0,b1,b2,b3,bz⟩:=bkc0c1c2c3l (S1.out.blk 0 rfl);clear hb)))
      go_ret
      exact⟨rfl,S3.out.ext⟩
     ·have e2:decide ((60:Int)<(np:Int))=false:=by simp;omega
      have e2n:decide (60<np)=false:=by simpa using h2
      rw [e2n]
      clear h2
      go_enter Tryz.func14,Tryz.ntmps14
      go_wp2_with (first | (go_at_call 48;have _t:=S2;go_must (refine(HBP.out _ S2.out.ext).mono ?_;rintro e w3 ⟨rfl,hb⟩;have S3:=Lib.hid (S2.out.call hb);clear hb)) | (go_at_call 47;have _t:=S1;go_must (refine(HBR.out _ S1.out.ext).mono ?_;rintro e w2 ⟨rfl,hb⟩;have S2:=Lib.hid (S1.out.call hb);clear b0 b1 b2 b3 bz;obtain⟨b0,b1,b2,b3,bz⟩:=bkc0c1c2c3l (S2.out.blk 0 rfl);clear hb)) | (go_at_call 46;go_must (refine(HBG.out _ S0.out.ext).mono ?_;rintro e w1 ⟨rfl,hb⟩;have S1:=Lib.hid (S0.out.call hb);obtain⟨b0,b1,b2,b3,bz⟩:=bkc0c1c2c3l (S1.out.blk 0 rfl);clear hb)))
      go_ret
      exact⟨rfl,S3.out.ext⟩
end
section
open Go Go.RowKit
def keyLt (a b:Sq):Bool:=decide (a.s<b.s) || (a.s == b.s && (decide (a.r<b.r) || (a.r == b.r && decide (a.v<b.v))))
theorem keyLt_iff {a b:Sq}:keyLt a b=true↔a.s<b.s∨a.s=b.s∧(a.r<b.r∨a.r=b.r∧a.v<b.v):=by
 unfold keyLt
 simp only [Bool.or_eq_true,Bool.and_eq_true,decide_eq_true_eq,beq_iff_eq]
def sameK (a b:Sq):Prop:=a.s=b.s∧a.r=b.r∧a.v=b.v
instance (a b:Sq):Decidable (sameK a b):=by unfold sameK;infer_instance
theorem sameK_rfl (a:Sq):sameK a a:=⟨rfl,rfl,rfl⟩
theorem sameK.symm {a b:Sq} (h:sameK a b):sameK b a:=⟨h.1.symm,h.2.1.symm,h.2.2.symm⟩
theorem sameK.trans {a b c:Sq} (h:sameK a b) (g:sameK b c):sameK a c:=⟨h.1.trans g.1,h.2.1.trans g.2.1,h.2.2.trans g.2.2⟩
theorem sameK.eq {a b:Sq} (h:sameK a b) (hd:a.d=b.d):a=b:=by
 obtain⟨a1,a2,a3,a4⟩:=a
 obtain⟨b1,b2,b3,b4⟩:=b
 obtain⟨h1,h2,h3⟩:=h
 simp only at h1 h2 h3 hd
 subst h1;subst h2;subst h3;subst hd;rfl
theorem keyLt_irr (a:Sq):keyLt a a=false:=by rw [Bool.eq_false_iff];intro h;rw [keyLt_iff] at h;omega
theorem keyLt_no {a b:Sq} (h:sameK a b):keyLt a b=false:=by rw [Bool.eq_false_iff];intro h2;rw [keyLt_iff] at h2;obtain⟨h3,h4,h5⟩:=h;omega
theorem keyLt_trans {a b c:Sq} (h:keyLt a b=true) (g:keyLt b c=true):keyLt a c=true:=by rw [keyLt_iff] at *;omega
theorem keyLt_asymm {a b:Sq} (h:keyLt a b=true):keyLt b a=false:=by rw [Bool.eq_false_iff];intro h2;rw [keyLt_iff] at *;omega
theorem keyLt_tri (a b:Sq):keyLt a b=true∨sameK a b∨keyLt b a=true:=by rw [keyLt_iff,keyLt_iff];unfold sameK;omega
theorem keyLt_same {a b c:Sq} (h:sameK a b):keyLt c a=keyLt c b:=by obtain⟨h1,h2,h3⟩:=h;unfold keyLt;rw [h1,h2,h3]
theorem keyLt_same' {a b c:Sq} (h:sameK a b):keyLt a c=keyLt b c:=by obtain⟨h1,h2,h3⟩:=h;unfold keyLt;rw [h1,h2,h3]
def KeysUp (l:List Sq):Prop:=l.Pairwise fun a b=>keyLt a b=true
theorem keyed_nil:KeysUp []:=List.Pairwise.nil
theorem keyed_cons {a:Sq} {l:List Sq}:KeysUp (a :: l)↔(∀ x∈l,keyLt a x=true)∧KeysUp l:=List.pairwise_cons
theorem keyed_uniq {l m:List Sq} (hl:KeysUp l) (hm:KeysUp m) (h:∀ x,x∈l↔x∈m):l=m:=by
 induction l generalizing m with
 | nil =>
  cases m with
  | nil=>rfl
  | cons b m=>exact absurd ((h b).2 (List.mem_cons_self ..)) (by simp)
 | cons a l ih =>
  cases m with
  | nil=>exact absurd ((h a).1 (List.mem_cons_self ..)) (by simp)
  | cons b m =>
   obtain⟨ha,hl2⟩:=keyed_cons.1 hl
   obtain⟨hb,hm2⟩:=keyed_cons.1 hm
   have hab:a=b:=by
    rcases List.mem_cons.1 ((h a).1 (List.mem_cons_self ..)) with e | e
    ·exact e
    ·rcases List.mem_cons.1 ((h b).2 (List.mem_cons_self ..)) with g | g
     ·exact g.symm
     ·have h1:=hb a e
      rw [keyLt_asymm (ha b g)] at h1;cases h1
   subst hab
   refine congrArg (a :: ·) (ih hl2 hm2 fun x=>?_)
   constructor
   ·intro hx
    rcases List.mem_cons.1 ((h x).1 (List.mem_cons_of_mem _ hx)) with e | e
    ·subst e
     have:=ha x hx
     rw [keyLt_irr] at this;cases this
    ·exact e
   ·intro hx
    rcases List.mem_cons.1 ((h x).2 (List.mem_cons_of_mem _ hx)) with e | e
    ·subst e
     have:=hb x hx
     rw [keyLt_irr] at this;cases this
    ·exact e
theorem keyed_one {l:List Sq} (hl:KeysUp l) {x y:Sq} (hx:x∈l) (hy:y∈l) (h:sameK x y):x=y:=by
 induction l with
 | nil=>cases hx
 | cons a l ih =>
  obtain⟨ha,hl⟩:=keyed_cons.1 hl
  rcases List.mem_cons.1 hx with e1 | g1
  ·rcases List.mem_cons.1 hy with e2 | g2
   ·rw [e1,e2]
   ·have:=ha y g2;rw [← e1,keyLt_no h] at this;cases this
  ·rcases List.mem_cons.1 hy with e2 | g2
   ·have:=ha x g1;rw [← e2,keyLt_no h.symm] at this;cases this
   ·exact ih hl g1 g2
def LeastM (M:List Sq) (x:Sq):Prop:=x∈M∧∀ y∈M,sameK y x→x.d≤y.d
theorem leastM_ex {M:List Sq} {u:Sq} (h:u∈M):∃ y,LeastM M y∧sameK y u:=by
 induction M with
 | nil=>cases h
 | cons a M ih =>
  by_cases hm:∃ v∈M,sameK v u
  ·obtain⟨v,hv,hvu⟩:=hm
   have ih2:∃ y,LeastM M y∧sameK y u:=by
    clear h
    suffices ∀ M:List Sq,(∃ v∈M,sameK v u)→∃ y,LeastM M y∧sameK y u from this M ⟨v,hv,hvu⟩
    clear ih hv hvu v
    intro M
    induction M with
    | nil=>rintro⟨v,hv,_⟩;cases hv
    | cons b M ih =>
     intro hex
     by_cases hm:∃ v∈M,sameK v u
     ·obtain⟨y,⟨hy1,hy2⟩,hy3⟩:=ih hm
      by_cases hb:sameK b u∧b.d<y.d
      ·refine⟨b,⟨List.mem_cons_self ..,fun z hz hzb=>?_⟩,hb.1⟩
       rcases List.mem_cons.1 hz with rfl | hz
       ·exact Int.le_refl _
       ·have:=hy2 z hz (hzb.trans (hb.1.trans hy3.symm));omega
      ·refine⟨y,⟨List.mem_cons_of_mem _ hy1,fun z hz hzy=>?_⟩,hy3⟩
       rcases List.mem_cons.1 hz with rfl | hz
       ·exact Int.not_lt.1 fun h2=>hb ⟨hzy.trans hy3,h2⟩
       ·exact hy2 z hz hzy
     ·obtain⟨v,hv,hvu⟩:=hex
      rcases List.mem_cons.1 hv with rfl | hv
      ·refine⟨v,⟨List.mem_cons_self ..,fun z hz hzb=>?_⟩,hvu⟩
       rcases List.mem_cons.1 hz with rfl | hz
       ·exact Int.le_refl _
       ·exact absurd ⟨z,hz,hzb.trans hvu⟩ hm
      ·exact absurd ⟨v,hv,hvu⟩ hm
   obtain⟨y,⟨hy1,hy2⟩,hy3⟩:=ih2
   by_cases hb:sameK a u∧a.d<y.d
   ·refine⟨a,⟨List.mem_cons_self ..,fun z hz hzb=>?_⟩,hb.1⟩
    rcases List.mem_cons.1 hz with rfl | hz
    ·exact Int.le_refl _
    ·have:=hy2 z hz (hzb.trans (hb.1.trans hy3.symm));omega
   ·refine⟨y,⟨List.mem_cons_of_mem _ hy1,fun z hz hzy=>?_⟩,hy3⟩
    rcases List.mem_cons.1 hz with rfl | hz
    ·exact Int.not_lt.1 fun h2=>hb ⟨hzy.trans hy3,h2⟩
    ·exact hy2 z hz hzy
  ·rcases List.mem_cons.1 h with rfl | h
   ·refine⟨u,⟨List.mem_cons_self ..,fun z hz hzb=>?_⟩,sameK_rfl u⟩
    rcases List.mem_cons.1 hz with rfl | hz
    ·exact Int.le_refl _
    ·exact absurd ⟨z,hz,hzb⟩ hm
   ·exact absurd ⟨u,h,sameK_rfl u⟩ hm
structure CombQ (M c:List Sq):Prop where
 keyed:KeysUp c
 mem:∀ x,x∈c↔LeastM M x
theorem comb_uniq {M M' c c':List Sq} (h:CombQ M c) (h':CombQ M' c') (hm:∀ x,x∈M↔x∈M'):c=c':=by
 refine keyed_uniq h.keyed h'.keyed fun x=>?_
 rw [h.mem,h'.mem]
 unfold LeastM
 rw [hm x]
 constructor
 ·rintro⟨h1,h2⟩;exact⟨h1,fun y hy=>h2 y ((hm y).2 hy)⟩
 ·rintro⟨h1,h2⟩;exact⟨h1,fun y hy=>h2 y ((hm y).1 hy)⟩
def putC (x:Sq):List Sq→List Sq
 | []=>[x]
 | y :: l=>if keyLt y x=true then y :: putC x l else if sameK y x then ⟨x.s,x.r,x.v,min x.d y.d⟩:: l else x :: y :: l
theorem mem_putC {x z:Sq} {c:List Sq} (hc:KeysUp c):z∈putC x c↔(z∈c∧¬ sameK z x)∨(sameK z x∧((∃ y∈c,sameK y x∧z.d=min x.d y.d)∨((∀ y∈c,¬ sameK y x)∧z.d=x.d))):=by
 induction c with
 | nil =>
  unfold putC
  constructor
  ·intro h
   rw [List.mem_singleton] at h
   subst h
   exact .inr ⟨sameK_rfl _,.inr ⟨fun y hy=>(by cases hy),rfl⟩⟩
  ·rintro(⟨h,_⟩ | ⟨h,h2 | h2⟩)
   ·cases h
   ·obtain⟨y,hy,_⟩:=h2;cases hy
   ·rw [List.mem_singleton];exact h.eq h2.2
 | cons a l ih =>
  obtain⟨ha,hl⟩:=keyed_cons.1 hc
  have ih:=ih hl
  unfold putC
  by_cases h1:keyLt a x=true
  ·rw [if_pos h1,List.mem_cons,ih]
   have hax:¬ sameK a x:=fun h=>by rw [keyLt_no h] at h1;cases h1
   constructor
   ·rintro(rfl | ⟨h2,h3⟩ | ⟨h2,⟨y,hy,hyx,hd⟩ | ⟨h3,hd⟩⟩)
    ·exact .inl ⟨List.mem_cons_self ..,hax⟩
    ·exact .inl ⟨List.mem_cons_of_mem _ h2,h3⟩
    ·exact .inr ⟨h2,.inl ⟨y,List.mem_cons_of_mem _ hy,hyx,hd⟩⟩
    ·refine .inr ⟨h2,.inr ⟨fun y hy=>?_,hd⟩⟩
     rcases List.mem_cons.1 hy with rfl | hy
     ·exact hax
     ·exact h3 y hy
   ·rintro(⟨h2,h3⟩ | ⟨h2,⟨y,hy,hyx,hd⟩ | ⟨h3,hd⟩⟩)
    ·rcases List.mem_cons.1 h2 with rfl | h2
     ·exact .inl rfl
     ·exact .inr (.inl ⟨h2,h3⟩)
    ·rcases List.mem_cons.1 hy with rfl | hy
     ·exact absurd hyx hax
     ·exact .inr (.inr ⟨h2,.inl ⟨y,hy,hyx,hd⟩⟩)
    ·exact .inr (.inr ⟨h2,.inr ⟨fun y hy=>h3 y (List.mem_cons_of_mem _ hy),hd⟩⟩)
  ·rw [if_neg h1]
   by_cases h2:sameK a x
   ·rw [if_pos h2,List.mem_cons]
    have hno:∀ y∈l,¬ sameK y x:=fun y hy h=>by
     have:=ha y hy
     rw [keyLt_no (h2.trans h.symm)] at this;cases this
    constructor
    ·rintro(rfl | hz)
     ·exact .inr ⟨⟨rfl,rfl,rfl⟩,.inl ⟨a,List.mem_cons_self ..,h2,rfl⟩⟩
     ·exact .inl ⟨List.mem_cons_of_mem _ hz,hno z hz⟩
    ·rintro(⟨h3,h4⟩ | ⟨h3,⟨y,hy,hyx,hd⟩ | ⟨h4,hd⟩⟩)
     ·rcases List.mem_cons.1 h3 with rfl | h3
      ·exact absurd h2 h4
      ·exact .inr h3
     ·rcases List.mem_cons.1 hy with rfl | hy
      ·exact .inl (sameK.eq h3 hd)
      ·exact absurd hyx (hno y hy)
     ·exact absurd h2 (h4 a (List.mem_cons_self ..))
   ·rw [if_neg h2,List.mem_cons]
    have hxa:keyLt x a=true:=by
     rcases keyLt_tri a x with h | h | h
     ·exact absurd h h1
     ·exact absurd h h2
     ·exact h
    have hno:∀ y∈a :: l,¬ sameK y x:=fun y hy h=>by
     rcases List.mem_cons.1 hy with rfl | hy
     ·exact h2 h
     ·have:=keyLt_trans hxa (ha y hy)
      rw [keyLt_no h.symm] at this;cases this
    constructor
    ·rintro(rfl | hz)
     ·exact .inr ⟨sameK_rfl _,.inr ⟨hno,rfl⟩⟩
     ·exact .inl ⟨hz,hno z hz⟩
    ·rintro(⟨h3,h4⟩ | ⟨h3,⟨y,hy,hyx,hd⟩ | ⟨h4,hd⟩⟩)
     ·exact .inr h3
     ·exact absurd hyx (hno y hy)
     ·exact .inl (h3.eq hd)
theorem keyed_putC {x:Sq} {c:List Sq} (hc:KeysUp c):KeysUp (putC x c):=by
 induction c with
 | nil=>exact keyed_cons.2 ⟨fun y hy=>(by cases hy),keyed_nil⟩
 | cons a l ih =>
  obtain⟨ha,hl⟩:=keyed_cons.1 hc
  unfold putC
  by_cases h1:keyLt a x=true
  ·rw [if_pos h1]
   refine keyed_cons.2 ⟨fun z hz=>?_,ih hl⟩
   rcases (mem_putC hl).1 hz with ⟨h2,_⟩ | ⟨h2,_⟩
   ·exact ha z h2
   ·rw [keyLt_same h2];exact h1
  ·rw [if_neg h1]
   by_cases h2:sameK a x
   ·rw [if_pos h2]
    refine keyed_cons.2 ⟨fun z hz=>?_,hl⟩
    have hs:sameK ⟨x.s,x.r,x.v,min x.d a.d⟩ a:=⟨h2.1.symm,h2.2.1.symm,h2.2.2.symm⟩
    rw [keyLt_same' hs];exact ha z hz
   ·rw [if_neg h2]
    have hxa:keyLt x a=true:=by
     rcases keyLt_tri a x with h | h | h
     ·exact absurd h h1
     ·exact absurd h h2
     ·exact h
    refine keyed_cons.2 ⟨fun z hz=>?_,hc⟩
    rcases List.mem_cons.1 hz with rfl | hz
    ·exact hxa
    ·exact keyLt_trans hxa (ha z hz)
theorem comb_put {M c:List Sq} (h:CombQ M c) (x:Sq):CombQ (M ++ [x]) (putC x c):=by
 refine⟨keyed_putC h.keyed,fun z=>?_⟩
 rw [mem_putC h.keyed]
 have hmem:∀ u,u∈M ++ [x]↔u∈M∨u=x:=fun u=>by rw [List.mem_append,List.mem_singleton]
 constructor
 ·rintro(⟨h1,h2⟩ | ⟨h1,⟨y,hy,hyx,hd⟩ | ⟨h2,hd⟩⟩)
  ·have h3:=(h.mem z).1 h1
   refine⟨(hmem z).2 (.inl h3.1),fun u hu huz=>?_⟩
   rcases (hmem u).1 hu with hu | rfl
   ·exact h3.2 u hu huz
   ·exact absurd huz.symm h2
  ·have h3:=(h.mem y).1 hy
   refine⟨?_,fun u hu huz=>?_⟩
   ·rcases Int.le_total x.d y.d with g | g
    ·have:z=x:=h1.eq (by omega)
     exact(hmem z).2 (.inr this)
    ·have:z=y:=(h1.trans hyx.symm).eq (by omega)
     rw [this];exact(hmem y).2 (.inl h3.1)
   ·rcases (hmem u).1 hu with hu | rfl
    ·have:=h3.2 u hu (huz.trans (h1.trans hyx.symm));omega
    ·omega
  ·have hz:z=x:=h1.eq hd
   subst hz
   refine⟨(hmem z).2 (.inr rfl),fun u hu huz=>?_⟩
   rcases (hmem u).1 hu with hu | rfl
   ·obtain⟨y,hy,hyu⟩:=leastM_ex hu
    exact absurd (hyu.trans huz) (h2 y ((h.mem y).2 hy))
   ·exact Int.le_refl _
 ·rintro⟨h1,h2⟩
  by_cases hs:sameK z x
  ·refine .inr ⟨hs,?_⟩
   have hzx:z.d≤x.d:=h2 x ((hmem x).2 (.inr rfl)) hs.symm
   by_cases hy:∃ y∈c,sameK y x
   ·obtain⟨y,hy,hyx⟩:=hy
    refine .inl ⟨y,hy,hyx,?_⟩
    have h3:=(h.mem y).1 hy
    have h4:=h2 y ((hmem y).2 (.inl h3.1)) (hyx.trans hs.symm)
    rcases (hmem z).1 h1 with hz | rfl
    ·have:=h3.2 z hz (hs.trans hyx.symm);omega
    ·omega
   ·refine .inr ⟨fun y h3 h4=>hy ⟨y,h3,h4⟩,?_⟩
    rcases (hmem z).1 h1 with hz | rfl
    ·obtain⟨y,h3,h4⟩:=leastM_ex hz
     exact absurd ⟨y,(h.mem y).2 h3,h4.trans hs⟩ hy
    ·rfl
  ·refine .inl ⟨(h.mem z).2 ⟨?_,fun u hu=>h2 u ((hmem u).2 (.inl hu))⟩,hs⟩
   rcases (hmem z).1 h1 with hz | rfl
   ·exact hz
   ·exact absurd (sameK_rfl z) hs
def combM (M:List Sq):List Sq:=M.foldl (fun c x=>putC x c) []
theorem combM_snoc (M:List Sq) (x:Sq):combM (M ++ [x])=putC x (combM M):=by unfold combM;rw [List.foldl_append];rfl
theorem combM_ok (M:List Sq):CombQ M (combM M):=by
 suffices ∀ (N M c:List Sq),CombQ M c→CombQ (M ++ N) (N.foldl (fun c x=>putC x c) c) from by
  have:=this M [] [] ⟨keyed_nil,fun x=>⟨fun h=>(by cases h),fun h=>(by cases h.1)⟩⟩
  rwa [List.nil_append] at this
 intro N
 induction N with
 | nil=>intro M c h;rw [List.append_nil];exact h
 | cons x N ih =>
  intro M c h
  have:=ih (M ++ [x]) (putC x c) (comb_put h x)
  rw [List.append_assoc] at this
  exact this
theorem combM_mem {M:List Sq} {x:Sq}:x∈combM M↔LeastM M x:=(combM_ok M).mem x
theorem combM_set {M M':List Sq} (h:∀ x,x∈M↔x∈M'):combM M=combM M':=comb_uniq (combM_ok M) (combM_ok M') h
def hasK (l:List Sq) (x:Sq):Bool:=l.any fun y=>decide (sameK y x)
theorem hasK_iff {l:List Sq} {x:Sq}:hasK l x=true↔∃ y∈l,sameK y x:=by
 unfold hasK;rw [List.any_eq_true]
 constructor
 ·rintro⟨y,h1,h2⟩;exact⟨y,h1,of_decide_eq_true h2⟩
 ·rintro⟨y,h1,h2⟩;exact⟨y,h1,decide_eq_true h2⟩
def freshM (st M:List Sq):List Sq:=(combM M).filter fun x=>!hasK st x
theorem freshM_keyed (st M:List Sq):KeysUp (freshM st M):=(combM_ok M).keyed.filter _
theorem freshM_mem {st M:List Sq} {x:Sq}:x∈freshM st M↔LeastM M x∧¬ ∃ y∈st,sameK y x:=by
 unfold freshM
 rw [List.mem_filter,combM_mem,Bool.not_eq_true',← Bool.not_eq_true,hasK_iff]
theorem freshM_set {st st' M M':List Sq} (hs:∀ x,x∈st↔x∈st') (h:∀ x,x∈M↔x∈M'):freshM st M=freshM st' M':=by
 refine keyed_uniq (freshM_keyed _ _) (freshM_keyed _ _) fun x=>?_
 rw [freshM_mem,freshM_mem,← combM_mem,← combM_mem,combM_set h]
 constructor
 ·rintro⟨h1,h2⟩;exact⟨h1,fun ⟨y,hy,e⟩=>h2 ⟨y,(hs y).2 hy,e⟩⟩
 ·rintro⟨h1,h2⟩;exact⟨h1,fun ⟨y,hy,e⟩=>h2 ⟨y,(hs y).1 hy,e⟩⟩
def putK (x:Sq):List Sq→List Sq
 | []=>[x]
 | y :: l=>if keyLt y x=true then y :: putK x l else x :: y :: l
theorem mem_putK {x z:Sq} {l:List Sq}:z∈putK x l↔z=x∨z∈l:=by
 induction l with
 | nil=>unfold putK;simp
 | cons a l ih =>
  unfold putK
  split
  ·rw [List.mem_cons,ih,List.mem_cons]
   constructor
   ·rintro(h | h | h)
    ·exact .inr (.inl h)
    ·exact .inl h
    ·exact .inr (.inr h)
   ·rintro(h | h | h)
    ·exact .inr (.inl h)
    ·exact .inl h
    ·exact .inr (.inr h)
  ·rw [List.mem_cons]
theorem keyed_putK {x:Sq} {l:List Sq} (hl:KeysUp l) (hx:¬ ∃ y∈l,sameK y x):KeysUp (putK x l):=by
 induction l with
 | nil=>exact keyed_cons.2 ⟨fun y hy=>(by cases hy),keyed_nil⟩
 | cons a l ih =>
  obtain⟨ha,hl2⟩:=keyed_cons.1 hl
  unfold putK
  split
  ·rename_i h1
   refine keyed_cons.2 ⟨fun z hz=>?_,ih hl2 fun ⟨y,hy,e⟩=>hx ⟨y,List.mem_cons_of_mem _ hy,e⟩⟩
   rcases mem_putK.1 hz with rfl | hz
   ·exact h1
   ·exact ha z hz
  ·rename_i h1
   have hxa:keyLt x a=true:=by
    rcases keyLt_tri a x with h | h | h
    ·exact absurd h h1
    ·exact absurd ⟨a,List.mem_cons_self ..,h⟩ hx
    ·exact h
   refine keyed_cons.2 ⟨fun z hz=>?_,hl⟩
   rcases List.mem_cons.1 hz with rfl | hz
   ·exact hxa
   ·exact keyLt_trans hxa (ha z hz)
def putKs (st F:List Sq):List Sq:=F.foldl (fun l x=>putK x l) st
theorem mem_putKs {F:List Sq}:∀ {st:List Sq} {z:Sq},z∈putKs st F↔z∈st∨z∈F:=by
 induction F with
 | nil=>intro st z;show z∈st↔_;simp
 | cons x F ih =>
  intro st z
  show z∈putKs (putK x st) F↔_
  rw [ih,mem_putK,List.mem_cons]
  constructor
  ·rintro((h | h) | h)
   ·exact .inr (.inl h)
   ·exact .inl h
   ·exact .inr (.inr h)
  ·rintro(h | h | h)
   ·exact .inl (.inr h)
   ·exact .inl (.inl h)
   ·exact .inr h
theorem keyed_putKs {F:List Sq}:∀ {st:List Sq},KeysUp st→KeysUp F→(∀ x∈F,¬ ∃ y∈st,sameK y x)→KeysUp (putKs st F):=by
 induction F with
 | nil=>intro st h _ _;exact h
 | cons x F ih =>
  intro st h hF hx
  obtain⟨h1,h2⟩:=keyed_cons.1 hF
  refine ih (keyed_putK h (hx x (List.mem_cons_self ..))) h2 fun z hz=>?_
  rintro⟨y,hy,e⟩
  rcases mem_putK.1 hy with rfl | hy
  ·have:=h1 z hz;rw [keyLt_no e] at this;cases this
  ·exact hx z (List.mem_cons_of_mem _ hz) ⟨y,hy,e⟩
def stepM (f:Sq→List Sq) (st M:List Sq):List Sq × List Sq:=(putKs st (freshM st M),freshM (putKs st (freshM st M)) ((freshM st M).flatMap f))
theorem stepM_keyed {f:Sq→List Sq} {st M:List Sq} (h:KeysUp st):KeysUp (stepM f st M).1:=keyed_putKs h (freshM_keyed _ _) fun _ hx=>(freshM_mem.1 hx).2
theorem stepM_perm {f:Sq→List Sq} {st M P now:List Sq} (h:KeysUp st) (hP:∀ x,x∈P↔x∈freshM st M) (hn:KeysUp now) (hm:∀ x,x∈now↔x∈st∨x∈P):now=(stepM f st M).1∧freshM now (P.flatMap f)=(stepM f st M).2:=by
 have h1:now=(stepM f st M).1:=keyed_uniq hn (stepM_keyed h) fun x=>by
  rw [hm,hP];exact mem_putKs.symm
 refine⟨h1,?_⟩
 rw [h1]
 exact freshM_set (fun _=>Iff.rfl) fun x=>by rw [List.mem_flatMap,List.mem_flatMap];exact⟨fun ⟨y,hy,e⟩=>⟨y,(hP y).1 hy,e⟩,fun ⟨y,hy,e⟩=>⟨y,(hP y).2 hy,e⟩⟩
end
section
open Go Go.RowKit
def runM (f:Sq→List Sq) (M0:List Sq):Nat→List Sq × List Sq
 | 0=>([],M0)
 | i+1=>stepM f (runM f M0 i).1 (runM f M0 i).2
def KeyN (n:Nat) (x:Sq):Prop:=x.s=0∧(x.r=0∨x.r=1)∧0≤x.v∧x.v<n
def Leads (n:Nat) (f:Sq→List Sq):Prop:=∀ x y,KeyN n x→y∈f x→y=⟨x.s,x.r,y.v,x.d+1⟩∧0≤y.v∧y.v<n
structure RunI (n:Nat) (i:Nat) (p:List Sq × List Sq):Prop where
 kst:KeysUp p.1
 kms:KeysUp p.2
 st:∀ x∈p.1,KeyN n x∧0≤x.d∧x.d<i
 ms:∀ x∈p.2,KeyN n x∧x.d=i
 new:∀ x∈p.2,¬ ∃ y∈p.1,sameK y x
theorem leastM_keyed {M:List Sq} (h:KeysUp M) {x:Sq}:LeastM M x↔x∈M:=by
 constructor
 ·exact fun h=>h.1
 ·exact fun hx=>⟨hx,fun y hy e=>by rw [keyed_one h hy hx e];exact Int.le_refl _⟩
theorem runI_fresh {n i:Nat} {p:List Sq × List Sq} (h:RunI n i p):freshM p.1 p.2=p.2 :=
 keyed_uniq (freshM_keyed _ _) h.kms fun x=>by
  rw [freshM_mem,leastM_keyed h.kms]
  exact⟨fun h2=>h2.1,fun h2=>⟨h2,h.new x h2⟩⟩
theorem runI_st {n i:Nat} {p:List Sq × List Sq} (h:RunI n i p) (f:Sq→List Sq) {x:Sq}:x∈(stepM f p.1 p.2).1↔x∈p.1∨x∈p.2:=by
 unfold stepM
 rw [runI_fresh h]
 exact mem_putKs
theorem runI_ms {n i:Nat} {p:List Sq × List Sq} (h:RunI n i p) (f:Sq→List Sq) {x:Sq}:x∈(stepM f p.1 p.2).2↔LeastM (p.2.flatMap f) x∧¬ ∃ y,(y∈p.1∨y∈p.2)∧sameK y x:=by
 show x∈freshM (putKs p.1 (freshM p.1 p.2)) ((freshM p.1 p.2).flatMap f)↔_
 rw [runI_fresh h,freshM_mem]
 constructor
 ·rintro⟨h1,h2⟩;exact⟨h1,fun ⟨y,hy,e⟩=>h2 ⟨y,mem_putKs.2 hy,e⟩⟩
 ·rintro⟨h1,h2⟩;exact⟨h1,fun ⟨y,hy,e⟩=>h2 ⟨y,mem_putKs.1 hy,e⟩⟩
theorem runI_step {n i:Nat} {p:List Sq × List Sq} {f:Sq→List Sq} (hf:Leads n f) (h:RunI n i p):RunI n (i+1) (stepM f p.1 p.2):=by
 have hsent:∀ x∈p.2.flatMap f,KeyN n x∧x.d=(i+1:Nat):=fun x hx=>by
  obtain⟨y,hy,hyx⟩:=List.mem_flatMap.1 hx
  obtain⟨h1,h2⟩:=h.ms y hy
  obtain⟨h3,h4,h5⟩:=hf y x h1 hyx
  rw [h3]
  refine⟨⟨h1.1,h1.2.1,?_,?_⟩,?_⟩
  ·exact h4
  ·exact h5
  ·simp only;omega
 refine⟨stepM_keyed h.kst,freshM_keyed _ _,fun x hx=>?_,fun x hx=>?_,fun x hx=>?_⟩
 ·rcases (runI_st h f).1 hx with h1 | h1
  ·obtain⟨h2,h3,h4⟩:=h.st x h1
   exact⟨h2,h3,by omega⟩
  ·obtain⟨h2,h3⟩:=h.ms x h1
   exact⟨h2,by omega,by omega⟩
 ·exact hsent x ((runI_ms h f).1 hx).1.1
 ·rintro⟨y,hy,e⟩
  exact((runI_ms h f).1 hx).2 ⟨y,(runI_st h f).1 hy,e⟩
theorem runI_all {n:Nat} {f:Sq→List Sq} {M0:List Sq} (hf:Leads n f) (h0:KeysUp M0) (h1:∀ x∈M0,KeyN n x∧x.d=0):∀ i,RunI n i (runM f M0 i)
 | 0=>⟨keyed_nil,h0,fun x hx=>(by cases hx),fun x hx=>⟨(h1 x hx).1,by rw [(h1 x hx).2];rfl⟩,fun x hx=>by rintro⟨y,hy,_⟩;cases hy⟩
 | i+1=>runI_step hf (runI_all hf h0 h1 i)
theorem keyed_most {n:Nat} {ρ:Int}:∀ {l:List Sq} {m:Int},KeysUp l→(∀ x∈l,x.s=0∧x.r=ρ∧m≤x.v∧x.v<n)→m≤n→(l.length:Int)≤n - m:=by
 intro l
 induction l with
 | nil=>intro m _ _ hm;simp;omega
 | cons a l ih =>
  intro m h hx hm
  obtain⟨h1,h2⟩:=keyed_cons.1 h
  obtain⟨a1,a2,a3,a4⟩:=hx a (List.mem_cons_self ..)
  have:=ih (m:=a.v+1) h2 (fun x hxl=>by
   obtain⟨x1,x2,x3,x4⟩:=hx x (List.mem_cons_of_mem _ hxl)
   have h3:=h1 x hxl
   rw [keyLt_iff] at h3
   exact⟨x1,x2,by omega,x4⟩) (by omega)
  rw [List.length_cons]
  omega
def dirL (ρ:Int) (l:List Sq):List Sq:=l.filter fun x=>x.r == ρ
theorem dirL_mem {ρ:Int} {l:List Sq} {x:Sq}:x∈dirL ρ l↔x∈l∧x.r=ρ:=by unfold dirL;rw [List.mem_filter];simp
theorem dirL_keyed {ρ:Int} {l:List Sq} (h:KeysUp l):KeysUp (dirL ρ l):=List.Pairwise.filter _ h
theorem putK_len (x:Sq) (l:List Sq):(putK x l).length=l.length+1:=by
 induction l with
 | nil=>rfl
 | cons a l ih=>unfold putK;split <;> simp [ih]
theorem keyed_len:∀ {l m:List Sq},KeysUp l→KeysUp m→(∀ x∈l,x∈m)→l.length≤m.length:=by
 intro l
 induction l with
 | nil=>intro m _ _ _;exact Nat.zero_le _
 | cons a l ih =>
  intro m hl hm h
  obtain⟨h1,h2⟩:=keyed_cons.1 hl
  have ha:a∈m:=h a (List.mem_cons_self ..)
  have hlen:(m.erase a).length+1=m.length:=by
   have:=List.length_erase_of_mem ha
   have:0<m.length:=List.length_pos_of_mem ha
   omega
  have:=ih (m:=m.erase a) h2 (List.Pairwise.sublist List.erase_sublist hm) fun x hx=>by
   refine(List.mem_erase_of_ne fun e=>?_).2 (h x (List.mem_cons_of_mem _ hx))
   subst e
   have:=h1 x hx
   rw [keyLt_irr] at this;cases this
  rw [List.length_cons]
  omega
theorem run_dir {n:Nat} {f:Sq→List Sq} {M0:List Sq} (hf:Leads n f) (h0:KeysUp M0) (h1:∀ x∈M0,KeyN n x∧x.d=0) (ρ:Int):∀ i,(∃ x∈(runM f M0 i).2,x.r=ρ)→i≤(dirL ρ (runM f M0 i).1).length
 | 0,_=>Nat.zero_le _
 | i+1,⟨x,hx,hr⟩=>by
  have hI:=runI_all hf h0 h1 i
  obtain⟨hx1,_⟩:=(runI_ms hI f).1 hx
  obtain⟨y,hy,hyx⟩:=List.mem_flatMap.1 hx1.1
  obtain⟨hy1,hy2⟩:=hI.ms y hy
  obtain⟨hxy,_⟩:=hf y x hy1 hyx
  have hyr:y.r=ρ:=by rw [← hr,hxy]
  have ih:=run_dir hf h0 h1 ρ i ⟨y,hy,hyr⟩
  have hI2:=runI_all hf h0 h1 (i+1)
  have hno:¬ ∃ z∈dirL ρ (runM f M0 i).1,sameK z y:=by
   rintro⟨z,hz,e⟩
   exact hI.new y hy ⟨z,(dirL_mem.1 hz).1,e⟩
  have hle:=keyed_len (l:=putK y (dirL ρ (runM f M0 i).1)) (m:=dirL ρ (runM f M0 (i+1)).1) (keyed_putK (dirL_keyed hI.kst) hno) (dirL_keyed hI2.kst) fun z hz=>by
   refine dirL_mem.2 ⟨(runI_st hI f).2 ?_,?_⟩
   ·rcases mem_putK.1 hz with rfl | hz
    ·exact .inr hy
    ·exact .inl (dirL_mem.1 hz).1
   ·rcases mem_putK.1 hz with rfl | hz
    ·exact hyr
    ·exact(dirL_mem.1 hz).2
  rw [putK_len] at hle
  omega
theorem run_ends {n:Nat} {f:Sq→List Sq} {M0:List Sq} (hf:Leads n f) (h0:KeysUp M0) (h1:∀ x∈M0,KeyN n x∧x.d=0) (ρ:Int) (i:Nat) (h:∃ x∈(runM f M0 i).2,x.r=ρ):i+1≤n:=by
 have hi:=run_dir hf h0 h1 ρ i h
 obtain⟨x,hx,hr⟩:=h
 have hI:=runI_all hf h0 h1 i
 have hno:¬ ∃ z∈dirL ρ (runM f M0 i).1,sameK z x:=by
  rintro⟨z,hz,e⟩
  exact hI.new x hx ⟨z,(dirL_mem.1 hz).1,e⟩
 have hk:=keyed_putK (dirL_keyed hI.kst) hno
 have hm:=keyed_most (n:=n) (ρ:=ρ) (m:=0) hk (fun z hz=>by
  rcases mem_putK.1 hz with rfl | hz
  ·obtain⟨⟨a,b,c,d⟩,_⟩:=hI.ms z hx
   exact⟨a,hr,c,d⟩
  ·obtain⟨hz1,hz2⟩:=dirL_mem.1 hz
   obtain⟨⟨a,b,c,d⟩,_⟩:=hI.st z hz1
   exact⟨a,hz2,c,d⟩) (by omega)
 rw [putK_len] at hm
 omega
end
section
open Go Go.RowKit
def homeV (v:Int) (w:Nat):Nat:=((v*40503+12345) % 65536 % w).toNat
theorem homeV_lt {v:Int} {w:Nat} (hw:0<w):homeV v w<w:=by
 unfold homeV
 have:=Int.emod_lt_of_pos ((v*40503+12345) % 65536) (show (0:Int)<w by omega)
 have:=Int.emod_nonneg ((v*40503+12345) % 65536) (show (w:Int)≠0 by omega)
 omega
theorem snoc_indQ {p:List Sq→Prop} (nil:p []) (snoc:∀ l x,p l→p (l ++ [x])) (l:List Sq):p l:=by
 suffices ∀ m:List Sq,p m.reverse from by have:=this l.reverse;rwa [List.reverse_reverse] at this
 intro m
 induction m with
 | nil=>exact nil
 | cons a m ih=>rw [List.reverse_cons];exact snoc _ _ ih
theorem run_most {n:Nat} {st:List Sq} (h:KeysUp st) (hx:∀ x∈st,KeyN n x):st.length≤2*n:=by
 have k0:=keyed_most (n:=n) (ρ:=0) (m:=0) (dirL_keyed (ρ:=0) h) (fun x hxl=>by
  obtain⟨h1,h2⟩:=dirL_mem.1 hxl
  obtain⟨a,_,c,d⟩:=hx x h1
  exact⟨a,h2,c,d⟩) (by omega)
 have k1:=keyed_most (n:=n) (ρ:=1) (m:=0) (dirL_keyed (ρ:=1) h) (fun x hxl=>by
  obtain⟨h1,h2⟩:=dirL_mem.1 hxl
  obtain⟨a,_,c,d⟩:=hx x h1
  exact⟨a,h2,c,d⟩) (by omega)
 have:st.length=(dirL 0 st).length+(dirL 1 st).length:=by
  clear h k0 k1
  induction st with
  | nil=>rfl
  | cons a l ih =>
   have ih:=ih fun x hxl=>hx x (List.mem_cons_of_mem _ hxl)
   obtain⟨_,hr,_⟩:=hx a (List.mem_cons_self ..)
   unfold dirL at ih ⊢
   rw [List.filter_cons,List.filter_cons,List.length_cons]
   rcases hr with hr | hr
   ·rw [if_pos (by simpa using hr),if_neg (by simp [hr]),List.length_cons];omega
   ·rw [if_neg (by simp [hr]),if_pos (by simpa using hr),List.length_cons];omega
 omega
end
section
open Go Go.RowKit
def NoTwo (l:List Sq):Prop:=l.Pairwise fun a b=>¬ sameK a b
theorem keyed_noTwo {l:List Sq} (h:KeysUp l):NoTwo l:=List.Pairwise.imp (fun {a b} h2 h3=>by rw [keyLt_no h3] at h2;cases h2) h
theorem NoTwo.perm {l m:List Sq} (h:NoTwo l) (p:l.Perm m):NoTwo m:=p.pairwise h fun h2 h3=>h2 h3.symm
theorem noTwo_nil:NoTwo []:=List.Pairwise.nil
theorem noTwo_append {l m:List Sq}:NoTwo (l ++ m)↔NoTwo l∧NoTwo m∧∀ x∈l,∀ y∈m,¬ sameK x y:=List.pairwise_append
def sortK (l:List Sq):List Sq:=l.mergeSort fun a b=>!keyLt b a
theorem sortK_perm (l:List Sq):(sortK l).Perm l:=List.mergeSort_perm l _
theorem sortK_len (l:List Sq):(sortK l).length=l.length:=(sortK_perm l).length_eq
theorem sortK_mem {l:List Sq} {x:Sq}:x∈sortK l↔x∈l:=(sortK_perm l).mem_iff
theorem keyLt_le_trans {a b c:Sq} (h:keyLt b a=false) (k:keyLt c b=false):keyLt c a=false:=by
 rw [Bool.eq_false_iff] at *
 intro h2
 rcases keyLt_tri a b with h3 | h3 | h3
 ·exact k (keyLt_trans h2 h3)
 ·rw [keyLt_same h3] at h2;exact k h2
 ·exact h h3
theorem sortK_keyed {l:List Sq} (h:NoTwo l):KeysUp (sortK l):=by
 have hs:(sortK l).Pairwise fun a b=>(!keyLt b a)=true:=List.pairwise_mergeSort (le:=fun a b:Sq=>!keyLt b a) (fun a b c h k=>by
  simp only [Bool.not_eq_true'] at *
  exact keyLt_le_trans h k) (fun a b=>by
  cases h:keyLt b a with
  | false=>rfl
  | true=>rw [keyLt_asymm h];rfl) l
 have hn:=h.perm (sortK_perm l).symm
 unfold KeysUp
 unfold NoTwo at hn
 refine(hs.and hn).imp fun {a b} ⟨h1,h2⟩=>?_
 rcases keyLt_tri a b with h3 | h3 | h3
 ·exact h3
 ·exact absurd h3 h2
 ·rw [h3] at h1;cases h1
def boxQ (M:List Sq) (w h:Nat):List Sq:=M.filter fun x=>homeV x.v w == h
theorem boxQ_mem {M:List Sq} {w h:Nat} {x:Sq}:x∈boxQ M w h↔x∈M∧homeV x.v w=h:=by unfold boxQ;rw [List.mem_filter,beq_iff_eq]
theorem boxQ_nil (w h:Nat):boxQ [] w h=[]:=rfl
theorem boxQ_snoc (M:List Sq) (x:Sq) (w h:Nat):boxQ (M ++ [x]) w h=if homeV x.v w=h then boxQ M w h ++ [x] else boxQ M w h:=by
 unfold boxQ
 rw [List.filter_append]
 by_cases e:homeV x.v w=h
 ·rw [if_pos e];simp [e]
 ·rw [if_neg e];simp [e]
theorem boxQ_len (M:List Sq) (w h:Nat):(boxQ M w h).length≤M.length:=List.length_filter_le _ _
theorem boxQ_keyed {M:List Sq} (hM:KeysUp M) (w h:Nat):KeysUp (boxQ M w h):=List.Pairwise.filter _ hM
structure DoneW (F:List Sq) (w:Nat) (hs:List Nat) (P:List Sq):Prop where
 mem:∀ x,x∈P↔x∈F∧homeV x.v w∈hs
 two:NoTwo P
theorem doneW_nil (F:List Sq) (w:Nat):DoneW F w [] []:=⟨fun x=>by simp,noTwo_nil⟩
theorem doneW_step {F:List Sq} {w:Nat} {hs:List Nat} {P B:List Sq} {h:Nat} (hF:KeysUp F) (D:DoneW F w hs P) (hn:h ∉ hs) (hB:B.Perm (boxQ F w h)):DoneW F w (hs ++ [h]) (P ++ B):=by
 have hbm:∀ x,x∈B↔x∈F∧homeV x.v w=h:=fun x=>by rw [hB.mem_iff];exact boxQ_mem
 refine⟨fun x=>?_,noTwo_append.2 ⟨D.two,(keyed_noTwo (boxQ_keyed hF w h)).perm hB.symm,fun x hx y hy e=>?_⟩⟩
 ·rw [List.mem_append,List.mem_append,D.mem,hbm,List.mem_singleton,← and_or_left]
 ·have h1:=((D.mem x).1 hx).2
  have h2:=((hbm y).1 hy).2
  rw [e.2.2,h2] at h1
  exact hn h1
theorem doneW_all {F:List Sq} {w:Nat} {hs:List Nat} {P:List Sq} (hw:0<w) (D:DoneW F w hs P) (hp:hs.Perm (List.range w)):∀ x,x∈P↔x∈F:=fun x=>by
 rw [D.mem,hp.mem_iff,List.mem_range]
 exact⟨fun h=>h.1,fun h=>⟨h,homeV_lt hw⟩⟩
theorem noTwo_most {n:Nat} {l:List Sq} (h:NoTwo l) (hx:∀ x∈l,KeyN n x):l.length≤2*n:=by
 have:=run_most (sortK_keyed h) (fun x hx2=>hx x (sortK_mem.1 hx2))
 rwa [sortK_len] at this
theorem stepM_sorted {f:Sq→List Sq} {st M P:List Sq} (h:KeysUp st) (hP:∀ x,x∈P↔x∈freshM st M) (h2:NoTwo P):sortK (st ++ P)=(stepM f st M).1∧freshM (sortK (st ++ P)) (P.flatMap f)=(stepM f st M).2:=by
 have h3:NoTwo (st ++ P):=noTwo_append.2 ⟨keyed_noTwo h,h2,fun x hx y hy e=>(freshM_mem.1 ((hP y).1 hy)).2 ⟨x,hx,e⟩⟩
 exact stepM_perm h hP (sortK_keyed h3) fun x=>by rw [sortK_mem,List.mem_append]
theorem perm_take {α:Type} [Inhabited α] {out left l:List α} {i:Nat} (h:(out ++ left).Perm l) (hi:i<left.length):((out ++ [nth left i]) ++ left.eraseIdx i).Perm l:=by
 refine List.Perm.trans ?_ h
 rw [List.append_assoc]
 refine List.Perm.append_left out ?_
 rw [nth_eq hi,List.eraseIdx_eq_take_drop_succ]
 conv=>rhs;rw [← List.take_append_drop i left,List.drop_eq_getElem_cons hi]
 rw [List.singleton_append]
 exact List.perm_middle.symm
theorem flatMap_len {f:Sq→List Sq} {P:List Sq} {b:Nat} (h:∀ x∈P,(f x).length≤b):(P.flatMap f).length≤P.length*b:=by
 induction P with
 | nil=>simp
 | cons x P ih =>
  rw [List.flatMap_cons,List.length_append,List.length_cons,Nat.succ_mul]
  have h1:=h x (List.mem_cons_self ..)
  have h2:=ih fun y hy=>h y (List.mem_cons_of_mem _ hy)
  omega
end
section
open Go Go.RowKit Go.Maps Go.WideElems
structure Ky where
 s:Int
 r:Int
 v:Int
deriving DecidableEq,Inhabited
structure KeyS (P:Program) (k:TypeId) where
 val:Ky→Value
 lit:Ky→Lit
 ok:Ky→Prop
 law:Go.Maps.Keyed P k
 of:∀ {x},ok x→keyOf P k (val x)=some (lit x)
 inv:∀ {v l},keyOf P k v=some l→∃ x,v=val x∧l=lit x∧ok x
 injL:∀ {x y},ok x→ok y→lit x=lit y→x=y
 injV:∀ {x y},val x=val y→x=y
structure ElmR (P:Program) (e:TypeId) (β:Type) where
 R:Value→Option (DataW Unit × List MemPlace)
 val:β→Value
 rd:β→DataW Unit
 z:β
 reads:∀ v,R (val v)=some (rd v,[])
 inv:∀ u y,R u=some y→∃ v,u=val v
 inj:∀ v v',rd v=rd v'→v=v'
 zero:∀ w,(zeroValue e).run P w=.ok (val z) w
section
variable {P:Program} {k e:TypeId} {β:Type} {K:KeyS P k}
def FunK (K:KeyS P k) (E:ElmR P e β) (D:DataW Unit) (f:Ky→Option β):Prop :=
 (∀ x,K.ok x→Maps.has D (K.lit x)=(f x).isSome)∧(∀ x v,f x=some v→K.ok x∧∀ zd,D.atKey (K.lit x) zd=E.rd v)
def MapK (K:KeyS P k) (E:ElmR P e β) (b n:Nat) (f:Ky→Option β) (w:World):Prop :=
 ∃ D:DataW Unit,w.ownsMap P k E.R b n D∧FunK K E D f
def upK (f:Ky→Option β) (x:Ky) (v:β):Ky→Option β:=fun y=>if y=x then some v else f y
theorem isKeyK (K:KeyS P k) {x:Ky} (hx:K.ok x):WideAt.IsKeyLit (K.lit x):=K.law.key (K.of hx)
theorem MapK.lt {E:ElmR P e β} {b n:Nat} {f:Ky→Option β} {w:World} (h:MapK K E b n f w):b<w.heap.size:=h.choose_spec.1.lt
theorem MapK.loc {E:ElmR P e β} {b n:Nat} {f:Ky→Option β} {w w':World} (h:MapK K E b n f w) (hb:w'.heap[b]?=w.heap[b]?):MapK K E b n f w':=by
 obtain⟨D,⟨es,clock,h1,F,h2,h3⟩,hf⟩:=h
 exact⟨D,⟨es,clock,hb.trans h1,F,h2,h3⟩,hf⟩
theorem MapK.ext {E:ElmR P e β} {b n:Nat} {f:Ky→Option β} {w w':World} (h:MapK K E b n f w) (he:Ext w w'):MapK K E b n f w':=h.loc (he.block b h.lt)
theorem MapK.mono {E:ElmR P e β} {b n m:Nat} {f:Ky→Option β} {w:World} (h:MapK K E b n f w) (hn:n≤m):MapK K E b m f w:=by
 obtain⟨D,h1,h2⟩:=h;exact⟨D,h1.mono hn,h2⟩
theorem MapK.made (E:ElmR P e β) (w:World):MapK K E w.heap.size 0 (fun _=>none) (w.alloc (.map #[] 0)) :=
 ⟨.map [],World.ownsMap_made w P k _,fun x _=>rfl,fun x v h=>by cases h⟩
def Pc.mapK (K:KeyS P k) (E:ElmR P e β) (b n:Nat) (f:Ky→Option β):Pc :=
 ⟨fun i=>i=b,fun w=>MapK K E b n f w,fun _ h i hi=>by subst hi;exact h.lt,fun _ _ h hi=>h.loc (hi b rfl)⟩
variable {E:ElmR P e β} {b n:Nat} {f:Ky→Option β} {w:World}
theorem MapK.update {t:TypeId} (h:MapK K E b n f w) (ht:P.underlying t=some (.map k e)) (hn:n<140737488355328) {x:Ky} (hx:K.ok x) (v:β) :
  ∃ w',(Instr.mapUpdate t (.map (some b)) (K.val x) (E.val v)).run P w=.ok () w'∧MapK K E b (n+1) (upK f x v) w'∧w.grownBy w' (some b):=by
 obtain⟨D,h1,h2,h3⟩:=h
 obtain⟨w',hr,ho,hg⟩:=h1.update (K.law) ht (by unfold maxLen;omega) (K.of hx) (E.reads v)
 have hm:=h1.isMap
 refine⟨w',hr,⟨_,ho,fun y hy=>?_,fun y u hu=>?_⟩,hg⟩
 ·unfold upK
  by_cases e:y=x
  ·subst e;rw [has_put_same hm (isKeyK K hx)];simp
  ·rw [has_put_other (fun h=>e (K.injL hy hx h)),if_neg e];exact h2 y hy
 ·unfold upK at hu
  by_cases e:y=x
  ·subst e;simp at hu;subst hu;exact⟨hx,fun zd=>atKey_put_same hm (isKeyK K hx) _ _⟩
  ·rw [if_neg e] at hu
   obtain⟨g1,g2⟩:=h3 y u hu
   exact⟨g1,fun zd=>by rw [atKey_put_other (fun h=>e (K.injL g1 hx h))];exact g2 zd⟩
theorem FunK.at {D:DataW Unit} (h:FunK K E D f) {x:Ky} (hx:K.ok x):D.atKey (K.lit x) (E.rd E.z)=E.rd ((f x).getD E.z):=by
 cases hf:f x with
 | none=>exact atKey_of_not_has (by rw [h.1 x hx,hf];rfl) _
 | some v=>exact(h.2 x v hf).2 _
theorem MapK.lookup {t:TypeId} (h:MapK K E b n f w) (ht:P.underlying t=some (.map k e)) {x:Ky} (hx:K.ok x) :
  (Instr.lookup t (.map (some b)) (K.val x) false).run P w=.ok (E.val ((f x).getD E.z)) w:=by
 obtain⟨D,h1,hf⟩:=h
 obtain⟨v,ps,hr,hv⟩:=h1.lookup (K.law) ht (E.zero w) (E.reads E.z) (K.of hx)
 obtain⟨u,rfl⟩:=E.inv _ _ hv
 have:=E.reads u
 rw [hv] at this
 injection this with this
 injection this with h4
 rw [hf.at hx] at h4
 rw [hr,E.inj _ _ h4]
theorem MapK.lookup_ok {t:TypeId} (h:MapK K E b n f w) (ht:P.underlying t=some (.map k e)) {x:Ky} (hx:K.ok x) :
  (Instr.lookup t (.map (some b)) (K.val x) true).run P w=.ok (.tuple #[E.val ((f x).getD E.z),.bool (f x).isSome]) w:=by
 obtain⟨D,h1,hf⟩:=h
 obtain⟨v,ps,hr,hv⟩:=h1.look_ok (K.law) ht (E.zero w) (E.reads E.z) (K.of hx)
 obtain⟨u,rfl⟩:=E.inv _ _ hv
 have:=E.reads u
 rw [hv] at this
 injection this with this
 injection this with h4
 rw [hf.at hx] at h4
 rw [hr,E.inj _ _ h4,hf.1 x hx]
def RngK (K:KeyS P k) (E:ElmR P e β) (es:Array MapEntry) (clock since:Nat) (seen:Array Nat) (c0 n:Nat) (f:Ky→Option β) (left:Ky→Bool) (cnt:Nat):Prop :=
 ∃ D:DataW Unit,∃ lf:Lit→Bool,FunK K E D f∧(∀ x,K.ok x→lf (K.lit x)=left x)∧(∀ x,left x=true→(f x).isSome=true)∧Fit P k (E.R) es clock∧es.size≤n∧D=.map ((es.toList.map (rg P k E.R)).foldr DataW.insert []) ∧
  (∀ x∈es.toList,x.born<since)∧(leftOf es seen).size=cnt∧(∀ x∈es.toList,lf (rg P k (E.R) x).1=!seen.contains x.born)∧(∀ kl,lf kl=true→∃ x∈es.toList,(rg P k (E.R) x).1=kl)∧since≤c0∧since≤clock
theorem MapK.raw (h:MapK K E b n f w):∃ es clock,w.heap[b]?=some (.map es clock)∧Fit P k (E.R) es clock∧es.size≤n∧FunK K E (.map ((es.toList.map (rg P k E.R)).foldr DataW.insert [])) f:=by
 obtain⟨D,⟨es,clock,h1,F,h2,rfl⟩,hf⟩:=h
 exact⟨es,clock,h1,F,h2,hf⟩
variable {w0:World} {Γ:List Pc} {ops:Array Oper} {rest:List Oper} {o:Oper} {a:Act} {Q:Exit→Act→World→Prop}
structure EntK (β:Type) where
 x:Ky
 v:β
theorem wpList_range_sepK (hg:o.guard=none) (m:Operand) (t:TypeId) (hop:o.op=Op.range t m) (ht:P.underlying t=some (.map k e))
  (hm:a.eval m=.map (some b)) {es:Array MapEntry} {clock:Nat} (hb:w.heap[b]?=some (.map es clock)) (F:Fit P k (E.R) es clock) (hn:es.size≤n) (hf:FunK K E (.map ((es.toList.map (rg P k E.R)).foldr DataW.insert [])) f)
  (S:Sep w0 w Γ) (r:Nat) (hr:w.heap.size=r)
  (hK:∀ w' since seen c0 cnt,Sep w0 w' (.iter r b since seen c0 :: Γ)→RngK K E es clock since seen c0 n f (fun x=>(f x).isSome) cnt→w'.heap.size=r+1→Ext w w'→wpList P ops Q rest (a.put o.dst (.pointer (some ⟨r,0,none⟩))) w') :
  wpList P ops Q (o :: rest) a w:=by
 subst hr
 have hown:w.ownsMap P k (E.R) b n (.map ((es.toList.map (rg P k E.R)).foldr DataW.insert [])):=⟨es,clock,hb,F,hn,rfl⟩
 refine wpList_range_own w hg m t hop k e (K.law) ht (E.R) b n _ hm hown ?_
 intro w' hr hgr hsz
 have hext:Ext w w':=⟨hgr.os,hgr.tape,hgr.output,hgr.size,fun i hi=>hgr.block i hi (by simp)⟩
 have hb':w'.heap[b]?=some (.map es clock):=(hext.block b (Array.getElem?_eq_some_iff.1 hb).1).trans hb
 obtain⟨es',clock',since,seen,c0,e1,F',e2,e3,e4,e5,e6,e7,e8,e9,e10⟩:=hr
 rw [hb'] at e1
 injection e1 with e1
 injection e1 with ea eb
 subst ea eb
 refine hK w' since seen c0 _ (S.comp (Δ:=[.iter w.heap.size b since seen c0]) ⟨hext,fun p hp=>?_,fun p hp i hi=>?_,List.pairwise_singleton _ _⟩) ⟨_,_,hf,fun x hx=>?_,fun x hx=>hx,F',e2,rfl,e5,e6,e7,e8,e9,e10⟩ hsz hext
 ·rw [List.mem_singleton] at hp;subst hp;exact e4
 ·rw [List.mem_singleton] at hp;subst hp;have:i=w.heap.size:=hi;omega
 ·exact hf.1 x hx
theorem wpList_next_sepK (hg:o.guard=none) (it:Operand) (hop:o.op=Op.next it false) {r since:Nat} {seen:Array Nat} {c0 cnt:Nat} {left:Ky→Bool} {es:Array MapEntry} {clock:Nat}
  (hit:a.eval it=.pointer (some ⟨r,0,none⟩)) (hb:w.heap[b]?=some (.map es clock)) (S:Sep w0 w Γ) (j:Nat) (hj:Γ[j]?=some (.iter r b since seen c0)) (R:RngK K E es clock since seen c0 n f left cnt)
  (hDone:(∀ x,left x=false)→wpList P ops Q rest (a.put o.dst (.tuple #[.bool false])) w)
  (hMore:∀ (x:EntK β) w' since' seen' c0' cnt',K.ok x.x→left x.x=true→f x.x=some x.v→Sep w0 w' (Γ.set j (.iter r b since' seen' c0'))→RngK K E es clock since' seen' c0' n f (fun z=>left z && !decide (z=x.x)) cnt'→cnt'<cnt →
   w'.heap.size=w.heap.size→w'.heap[b]?=some (.map es clock)→w.grownBy w' (some r)→(Instr.entry (.pointer (some ⟨r,0,none⟩))).run P w'=.ok (.tuple #[K.val x.x,E.val x.v]) w'→wpList P ops Q rest (a.put o.dst (.tuple #[.bool true,K.val x.x,E.val x.v])) w') :
  wpList P ops Q (o :: rest) a w:=by
 obtain⟨D,lf,hf,hlf,hlt,F,e2,rfl,e5,e6,e7,e8,e9,e10⟩:=R
 have hr:w.heap[r]?=some (.mapIter (some b) since seen c0):=S.all _ (List.mem_of_getElem? hj)
 have hrange:w.ranges P k (E.R) b r n (.map ((es.toList.map (rg P k E.R)).foldr DataW.insert [])) lf cnt:=⟨es,clock,since,seen,c0,hb,F,e2,rfl,hr,e5,e6,e7,e8,e9,e10⟩
 have hne:r≠b:=hrange.ne
 refine wpList_next_ranges w hg it hop k (K.law) (E.R) K.val E.val (fun key kl h=>by obtain⟨x,h1,_⟩:=K.inv h;exact⟨x,h1⟩) (fun v y h=>E.inv v y h) b r n _ lf cnt hit hrange ?_ ?_
 ·intro _ hall
  refine hDone fun x=>?_
  by_cases hx:left x=true
  ·have h1:=hlt x hx
   obtain⟨v,hv⟩:=Option.isSome_iff_exists.1 h1
   have:=hlf x (hf.2 x v hv).1
   rw [hall] at this
   rw [← this] at hx;cases hx
  ·simpa using hx
 ·intro x c kl y w' cnt' hkey hl hR hat hrg hlt' hgr hsz hen
  obtain⟨x',hx1,hx2,hx3⟩:=K.inv hkey
  have hx1:=K.injV hx1
  subst hx1;subst hx2
  have hxw:K.ok x:=hx3
  have hlx:left x=true:=by rw [← hlf x hxw];exact hl
  obtain⟨v,hv⟩:=Option.isSome_iff_exists.1 (hlt x hlx)
  have hc:v=c:=by
   refine E.inj _ _ ?_
   have h1:=(hf.2 x v hv).2 (E.rd v)
   have h2:=hat (E.rd v)
   have h3:=E.reads c
   rw [hR] at h3
   injection h3 with h3
   rw [← h1,h2,h3]
  subst hc
  have hb':w'.heap[b]?=some (.map es clock):=(hgr.block b (Array.getElem?_eq_some_iff.1 hb).1 (fun e=>hne (by injection e with e;exact e.symm))).trans hb
  obtain⟨es',clock',since',seen',c0',g1,F',g2,g3,g4,g5,g6,g7,g8,g9,g10⟩:=hrg
  rw [hb'] at g1
  injection g1 with g1
  injection g1 with ga gb
  subst ga gb
  refine hMore ⟨x,v⟩ w' since' seen' c0' cnt' hxw hlx hv (S.put j hj (.iter r b since' seen' c0') hgr (fun i hi=>by injection hi with hi;exact hi.symm) g4 (fun i hi=>.inl hi)) ⟨_,_,hf,fun z hz=>?_,fun z hz=>?_,F',g2,rfl,g5,g6,g7,g8,g9,g10⟩ hlt' hsz hb' hgr hen
  ·rw [hlf z hz]
   by_cases e:z=x
   ·subst e;rw [WideAt.sameKey_self (isKeyK K hz)];simp
   ·rw [sameKey_ne (fun h=>e (K.injL hz hxw h))];simp [e]
  ·simp only [Bool.and_eq_true] at hz;exact hlt z hz.1
theorem wpList_update_sepK (hg:o.guard=none) (m x v:Operand) (t:TypeId) (hop:o.op=Op.mapUpdate t m x v) (ht:P.underlying t=some (.map k e))
  (hm:a.eval m=.map (some b)) (S:Sep w0 w Γ) (j:Nat) (hj:Γ[j]?=some (.mapK K E b n f)) (hn:n<140737488355328) (kx:Ky) (u:β) (hx:a.eval x=K.val kx) (hv:a.eval v=E.val u) (hi:K.ok kx)
  (hK:∀ w',Sep w0 w' (Γ.set j (.mapK K E b (n+1) (upK f kx u)))→w.grownBy w' (some b)→wpList P ops Q rest (a.put o.dst undef) w') :
  wpList P ops Q (o :: rest) a w:=by
 refine wpList_plain hg fun K' hK'=>?_
 obtain⟨w',hrun,r1,r2⟩:=MapK.update (S.all _ (List.mem_of_getElem? hj)) ht hn hi u
 unfold Oper.wp
 simp [execOp,hop,hm,hx,hv,hrun,Result.andThen]
 exact hK' _ _ (hK w' (S.put j hj _ r2 (fun i hi=>by injection hi with hi;exact hi.symm) r1 (fun i hi=>.inl hi)) r2)
end
theorem rng_leftK {P:Program} {k e:TypeId} {β:Type} {K:KeyS P k} {E:ElmR P e β} {w:World} {b n:Nat} {f:Ky→Option β} {es:Array MapEntry} {clock r since:Nat} {seen:Array Nat} {c0 cnt:Nat} {left:Ky→Bool} (hb:w.heap[b]?=some (.map es clock)) (hr:w.heap[r]?=some (.mapIter (some b) since seen c0)) (R:RngK K E es clock since seen c0 n f left cnt):w.rangeLeft b r=cnt:=by
 obtain⟨_,_,_,_,_,_,_,_,_,h,_⟩:=R
 unfold World.rangeLeft;rw [hb,hr];exact h
theorem rng_leK {P:Program} {k e:TypeId} {β:Type} {K:KeyS P k} {E:ElmR P e β} {n:Nat} {f:Ky→Option β} {es:Array MapEntry} {clock since:Nat} {seen:Array Nat} {c0 cnt:Nat} {left:Ky→Bool} (R:RngK K E es clock since seen c0 n f left cnt):cnt≤n:=by
 obtain⟨_,_,_,_,_,_,h2,_,_,h,_⟩:=R
 refine Nat.le_trans ?_ h2
 rw [← h]
 unfold leftOf
 exact Array.size_filter_le
theorem Sep.mkmapK {P:Program} {k e:TypeId} {β:Type} {K:KeyS P k} (E:ElmR P e β) {w0 w:World} {Γ:List Pc} (S:Sep w0 w Γ):Sep w0 (w.alloc (.map #[] 0)) (.mapK K E w.heap.size 0 (fun _=>none) :: Γ) :=
 S.comp (Δ:=[.mapK K E w.heap.size 0 (fun _=>none)]) ⟨Ext.alloc (Below.refl _ _) _,fun p hp=>by rw [List.mem_singleton] at hp;subst hp;exact MapK.made E w,fun p hp i hi=>by rw [List.mem_singleton] at hp;subst hp;have:i=w.heap.size:=hi;omega,List.pairwise_singleton _ _⟩
theorem Sep.mapK {P:Program} {k e:TypeId} {β:Type} {K:KeyS P k} {E:ElmR P e β} {w0 w:World} {Γ:List Pc} (S:Sep w0 w Γ) (j:Nat) {b n:Nat} {f:Ky→Option β} (hj:Γ[j]?=some (.mapK K E b n f)):MapK K E b n f w:=S.all _ (List.mem_of_getElem? hj)
end
section
open Go Go.RowKit
def Sq.ky (x:Sq):Ky:=⟨x.s,x.r,x.v⟩
theorem ky_same {x y:Sq}:x.ky=y.ky↔sameK x y:=by
 unfold Sq.ky sameK
 constructor
 ·intro h;injection h with h1 h2 h3;exact⟨h1,h2,h3⟩
 ·rintro⟨h1,h2,h3⟩;rw [h1,h2,h3]
def LeastK (l:List Sq) (f:Ky→Option Sq):Prop :=
 (∀ κ,f κ=none→∀ x∈l,x.ky≠κ)∧∀ κ y,f κ=some y→y∈l∧y.ky=κ∧∀ x∈l,x.ky=κ→y.d≤x.d
theorem leastK_nil:LeastK [] (fun _=>none):=⟨fun _ _ x h=>(List.not_mem_nil h).elim,fun _ _ h=>by cases h⟩
theorem leastK_skip {l:List Sq} {f:Ky→Option Sq} (x:Sq) (h:LeastK l f) (hx:∃ y,f x.ky=some y∧y.d≤x.d):LeastK (l ++ [x]) f:=by
 obtain⟨y,hy,hd⟩:=hx
 refine⟨fun κ hκ z hz=>?_,fun κ u hu=>?_⟩
 ·rcases List.mem_append.1 hz with hz | hz
  ·exact h.1 κ hκ z hz
  ·rw [List.mem_singleton] at hz
   subst hz
   intro e;rw [← e,hy] at hκ;cases hκ
 ·obtain⟨h1,h2,h3⟩:=h.2 κ u hu
  refine⟨List.mem_append_left _ h1,h2,fun z hz e=>?_⟩
  rcases List.mem_append.1 hz with hz | hz
  ·exact h3 z hz e
  ·rw [List.mem_singleton] at hz
   subst hz
   rw [e,hu] at hy
   injection hy with hy
   rw [hy];exact hd
theorem leastK_put {l:List Sq} {f:Ky→Option Sq} (x:Sq) (h:LeastK l f) (hx:∀ y,f x.ky=some y→x.d≤y.d):LeastK (l ++ [x]) (upK f x.ky x):=by
 refine⟨fun κ hκ z hz=>?_,fun κ u hu=>?_⟩
 ·unfold upK at hκ
  by_cases e:κ=x.ky
  ·rw [if_pos e] at hκ;cases hκ
  ·rw [if_neg e] at hκ
   rcases List.mem_append.1 hz with hz | hz
   ·exact h.1 κ hκ z hz
   ·rw [List.mem_singleton] at hz
    subst hz
    exact fun h2=>e h2.symm
 ·unfold upK at hu
  by_cases e:κ=x.ky
  ·rw [if_pos e] at hu
   injection hu with hu
   subst hu
   subst e
   refine⟨by simp,rfl,fun z hz e=>?_⟩
   rcases List.mem_append.1 hz with hz | hz
   ·cases hf:f x.ky with
    | none=>exact absurd e (h.1 _ hf z hz)
    | some y=>have:=hx y hf;have:=(h.2 _ y hf).2.2 z hz e;omega
   ·rw [List.mem_singleton] at hz
    subst hz;exact Int.le_refl _
  ·rw [if_neg e] at hu
   obtain⟨h1,h2,h3⟩:=h.2 κ u hu
   refine⟨List.mem_append_left _ h1,h2,fun z hz e2=>?_⟩
   rcases List.mem_append.1 hz with hz | hz
   ·exact h3 z hz e2
   ·rw [List.mem_singleton] at hz
    subst hz
    exact absurd e2.symm e
theorem leastK_mem {M:List Sq} {f:Ky→Option Sq} (h:LeastK M f) (x:Sq):f x.ky=some x↔LeastM M x:=by
 constructor
 ·intro hf
  obtain⟨h1,_,h3⟩:=h.2 _ _ hf
  exact⟨h1,fun y hy e=>h3 y hy (ky_same.2 e)⟩
 ·rintro⟨hx,hl⟩
  cases hf:f x.ky with
  | none=>exact absurd rfl (h.1 _ hf x hx)
  | some y =>
   obtain⟨h1,h2,h3⟩:=h.2 _ _ hf
   have e:=ky_same.1 h2
   have a:=h3 x hx rfl
   have b:=hl y h1 e
   rw [sameK.eq e (by omega)]
structure CameK (f:Ky→Option Sq) (left:Ky→Bool) (L:List Sq):Prop where
 mem:∀ x,x∈L↔f x.ky=some x∧left x.ky=false
 two:NoTwo L
theorem cameK_nil (f:Ky→Option Sq):CameK f (fun κ=>(f κ).isSome) []:=⟨fun x=>by simp;intro h;simp [h],noTwo_nil⟩
theorem cameK_step {M:List Sq} {f:Ky→Option Sq} {left:Ky→Bool} {L:List Sq} (hf:LeastK M f) (h:CameK f left L) {κ:Ky} {u:Sq} (hκ:f κ=some u) (hl:left κ=true):CameK f (fun z=>left z && !decide (z=κ)) (L ++ [u]):=by
 have hu:u.ky=κ:=(hf.2 _ _ hκ).2.1
 refine⟨fun x=>?_,noTwo_append.2 ⟨h.two,List.pairwise_singleton _ _,fun x hx y hy e=>?_⟩⟩
 ·rw [List.mem_append,List.mem_singleton,h.mem]
  constructor
  ·rintro(⟨h1,h2⟩ | rfl)
   ·exact⟨h1,by rw [h2];rfl⟩
   ·rw [hu];exact⟨hκ,by simp⟩
  ·rintro⟨h1,h2⟩
   by_cases e:x.ky=κ
   ·right;rw [e,hκ] at h1;injection h1 with h1;exact h1.symm
   ·left;refine⟨h1,?_⟩
    simpa [e] using h2
 ·rw [List.mem_singleton] at hy
  subst hy
  have h2:=((h.mem x).1 hx).2
  rw [ky_same.2 e,hu,hl] at h2
  cases h2
theorem cameK_end {M:List Sq} {f:Ky→Option Sq} {left:Ky→Bool} {L:List Sq} (hf:LeastK M f) (h:CameK f left L) (hl:∀ κ,left κ=false):sortK L=combM M :=
 keyed_uniq (sortK_keyed h.two) (combM_ok M).keyed fun x=>by
  rw [sortK_mem,h.mem,leastK_mem hf,combM_mem]
  exact⟨fun h=>h.1,fun h2=>⟨h2,hl _⟩⟩
def ThereK (l:List Sq) (f:Ky→Option Bool):Prop:=∀ κ,(f κ=some true↔∃ x∈l,x.ky=κ)∧f κ≠some false
theorem thereK_nil:ThereK [] (fun _=>none):=fun κ=>⟨by simp,by simp⟩
theorem thereK_put {l:List Sq} {f:Ky→Option Bool} (x:Sq) (h:ThereK l f):ThereK (l ++ [x]) (upK f x.ky true):=fun κ=>by
 unfold upK
 by_cases e:κ=x.ky
 ·rw [if_pos e]
  exact⟨⟨fun _=>⟨x,by simp,e.symm⟩,fun _=>rfl⟩,by simp⟩
 ·rw [if_neg e]
  refine⟨?_,(h κ).2⟩
  rw [(h κ).1]
  constructor
  ·rintro⟨y,hy,h2⟩;exact⟨y,List.mem_append_left _ hy,h2⟩
  ·rintro⟨y,hy,h2⟩
   rcases List.mem_append.1 hy with hy | hy
   ·exact⟨y,hy,h2⟩
   ·rw [List.mem_singleton] at hy;subst hy;exact absurd h2.symm e
theorem thereK_has {l:List Sq} {f:Ky→Option Bool} (h:ThereK l f) (x:Sq):(f x.ky).getD false=hasK l x:=by
 have h1:=(h x.ky).1
 have h2:=(h x.ky).2
 rw [Bool.eq_iff_iff,hasK_iff]
 have h3:(f x.ky).getD false=true↔f x.ky=some true:=by
  cases hf:f x.ky with
  | none=>simp
  | some b=>simp
 rw [h3,h1]
 constructor
 ·rintro⟨y,hy,e⟩;exact⟨y,hy,ky_same.1 e⟩
 ·rintro⟨y,hy,e⟩;exact⟨y,hy,ky_same.2 e⟩
end
section
open Go Go.RowKit
section
variable {α:Type} [Inhabited α] {lt:α→α→Bool}
def swapL (X:List α) (i j:Nat):List α:=(X.set i (nth X j)).set j (nth X i)
theorem nth_setg {X:List α} {i k:Nat} {a:α} (hk:k<X.length):nth (X.set i a) k=if k=i then a else nth X k:=by
 rw [nth_eq (by simpa using hk),List.getElem_set]
 by_cases h:i=k
 ·rw [if_pos h,if_pos h.symm]
 ·rw [if_neg h,if_neg (fun e=>h e.symm),nth_eq hk]
theorem swapL_nth {X:List α} {i j k:Nat} (hk:k<X.length):nth (swapL X i j) k=if k=j then nth X i else if k=i then nth X j else nth X k:=by
 unfold swapL
 rw [nth_setg (by simpa using hk),nth_setg hk]
theorem set_perm {X:List α}:∀ {i:Nat} {a:α},i<X.length→(a :: X).Perm (nth X i :: X.set i a):=by
 induction X with
 | nil=>intro i a h;cases h
 | cons b X ih =>
  intro i a h
  cases i with
  | zero=>rw [nth_eq (by simp)];exact List.Perm.swap _ _ _
  | succ i =>
   have h':i<X.length:=by simpa using h
   have e:nth (b :: X) (i+1)=nth X i:=by rw [nth_eq (by simpa using h),nth_eq h'];simp
   rw [e,List.set_cons_succ]
   exact(List.Perm.swap _ _ _).trans (((ih h').cons b).trans (List.Perm.swap _ _ _))
theorem swapL_perm {X:List α} {i j:Nat} (hi:i<X.length) (hj:j<X.length):(swapL X i j).Perm X:=by
 have h1:=set_perm (X:=X) (i:=i) (a:=nth X j) hi
 have h2:=set_perm (X:=X.set i (nth X j)) (i:=j) (a:=nth X i) (by simpa using hj)
 have e:nth (X.set i (nth X j)) j=nth X j:=by
  rw [nth_eq (by simpa using hj),List.getElem_set]
  by_cases h:i=j
  ·rw [if_pos h]
  ·rw [if_neg h,nth_eq hj]
 rw [e] at h2
 exact((h2.symm.trans h1.symm).cons_inv)
def HeapN (lt:α→α→Bool) (n:Nat) (X:List α):Prop:=∀ i,0<i→i<n→lt (nth X i) (nth X ((i - 1) / 2))=false
def UpH (lt:α→α→Bool) (n j:Nat) (X:List α):Prop:=(∀ i,0<i→i<n→i≠j→lt (nth X i) (nth X ((i - 1) / 2))=false)∧∀ i,0<i→i<n→(i - 1) / 2=j→0<j→lt (nth X i) (nth X ((j - 1) / 2))=false
def DnH (lt:α→α→Bool) (n j:Nat) (X:List α):Prop:=(∀ i,0<i→i<n→(i - 1) / 2≠j→lt (nth X i) (nth X ((i - 1) / 2))=false)∧∀ i,0<i→i<n→(i - 1) / 2=j→0<j→lt (nth X i) (nth X ((j - 1) / 2))=false
theorem up_start {n:Nat} {X:List α} (h:HeapN lt n X):UpH lt (n+1) n X :=
 ⟨fun i h0 h1 h2=>h i h0 (by omega),fun i h0 h1 h2 h3=>by omega⟩
theorem up_end {n j:Nat} {X:List α} (h:UpH lt n j X) (hj:j=0∨lt (nth X j) (nth X ((j - 1) / 2))=false):HeapN lt n X:=fun i h0 h1=>by
 by_cases e:i=j
 ·subst e
  rcases hj with h2 | h2
  ·omega
  ·exact h2
 ·exact h.1 i h0 h1 e
omit [Inhabited α] in
theorem STO.le_trans (hs:STO lt) {a b c:α} (h1:lt b a=false) (h2:lt c b=false):lt c a=false:=by
 cases h:lt c a with
 | false=>rfl
 | true=>rw [hs.le_lt h2 h] at h1;cases h1
theorem up_step (hs:STO lt) {n j:Nat} {X:List α} (hn:n≤X.length) (hj:j<n) (h0:0<j) (h:UpH lt n j X) (hl:lt (nth X j) (nth X ((j - 1) / 2))=true):UpH lt n ((j - 1) / 2) (swapL X j ((j - 1) / 2)):=by
 have hp:(j - 1) / 2<j:=by omega
 generalize hpp:(j - 1) / 2=p at *
 have es:∀ k,k<n→nth (swapL X j p) k=if k=p then nth X j else if k=j then nth X p else nth X k:=fun k hk=>swapL_nth (by omega)
 constructor
 ·intro i hi1 hi2 hi3
  rw [es i hi2,es ((i - 1) / 2) (by omega),if_neg hi3]
  by_cases e:i=j
  ·subst e
   rw [if_pos rfl,hpp,if_pos rfl]
   exact hs.asymm hl
  ·rw [if_neg e]
   by_cases e1:(i - 1) / 2=p
   ·rw [if_pos e1]
    have h2:=h.1 i hi1 hi2 e
    rw [e1] at h2
    exact hs.le_trans (hs.asymm hl) h2
   ·rw [if_neg e1]
    by_cases e2:(i - 1) / 2=j
    ·rw [if_pos e2]
     have:=h.2 i hi1 hi2 e2 h0
     rw [hpp] at this;exact this
    ·rw [if_neg e2];exact h.1 i hi1 hi2 e
 ·intro i hi1 hi2 hi3 hp0
  have hpp2:(p - 1) / 2≠p:=by omega
  have hpp3:(p - 1) / 2≠j:=by omega
  have hip:i≠p:=by omega
  rw [es i hi2,es ((p - 1) / 2) (by omega),if_neg hip,if_neg hpp2,if_neg hpp3]
  have hpar:=h.1 p hp0 (by omega) (by omega)
  by_cases e:i=j
  ·rw [if_pos e];exact hpar
  ·rw [if_neg e]
   have h2:=h.1 i hi1 hi2 e
   rw [hi3] at h2
   exact hs.le_trans hpar h2
theorem dn_start {n:Nat} {X:List α} (hn:X.length=n+1) (h:HeapN lt (n+1) X):DnH lt n 0 (swapL X 0 n):=by
 have es:∀ k,k<n→0<k→nth (swapL X 0 n) k=nth X k:=fun k hk h0=>by
  rw [swapL_nth (by omega),if_neg (by omega),if_neg (by omega)]
 exact⟨fun i h0 h1 h2=>by rw [es i h1 h0,es _ (by omega) (by omega)];exact h i h0 (by omega),fun i h0 h1 h2 h3=>by omega⟩
theorem dn_leaf {n j:Nat} {X:List α} (h:DnH lt n j X) (hj:n≤2*j+1):HeapN lt n X:=fun i h0 h1=>h.1 i h0 h1 (by omega)
def LeastC (lt:α→α→Bool) (n j c:Nat) (X:List α):Prop:=c<n∧0<c∧(c - 1) / 2=j∧∀ k,0<k→k<n→(k - 1) / 2=j→lt (nth X k) (nth X c)=false
theorem least_one (hs:STO lt) {n j:Nat} {X:List α} (h:2*j+1<n) (h2:n≤2*j+2∨lt (nth X (2*j+2)) (nth X (2*j+1))=false):LeastC lt n j (2*j+1) X :=
 ⟨h,by omega,by omega,fun k h0 h1 h3=>by
  have:k=2*j+1∨k=2*j+2:=by omega
  rcases this with rfl | rfl
  ·exact hs.irrefl _
  ·rcases h2 with h2 | h2
   ·omega
   ·exact h2⟩
theorem least_two (hs:STO lt) {n j:Nat} {X:List α} (h:2*j+2<n) (h2:lt (nth X (2*j+2)) (nth X (2*j+1))=true):LeastC lt n j (2*j+2) X :=
 ⟨h,by omega,by omega,fun k h0 h1 h3=>by
  have:k=2*j+1∨k=2*j+2:=by omega
  rcases this with rfl | rfl
  ·exact hs.asymm h2
  ·exact hs.irrefl _⟩
theorem dn_end (hs:STO lt) {n j c:Nat} {X:List α} (h:DnH lt n j X) (hc:LeastC lt n j c X) (hl:lt (nth X c) (nth X j)=false):HeapN lt n X:=fun i h0 h1=>by
 by_cases e:(i - 1) / 2=j
 ·rw [e];exact hs.le_trans hl (hc.2.2.2 i h0 h1 e)
 ·exact h.1 i h0 h1 e
theorem dn_step (hs:STO lt) {n j c:Nat} {X:List α} (hn:n≤X.length) (h:DnH lt n j X) (hc:LeastC lt n j c X) (hl:lt (nth X c) (nth X j)=true):DnH lt n c (swapL X j c):=by
 obtain⟨c1,c2,c3,c4⟩:=hc
 have hjc:j<c:=by omega
 have es:∀ k,k<n→nth (swapL X j c) k=if k=c then nth X j else if k=j then nth X c else nth X k:=fun k hk=>swapL_nth (by omega)
 constructor
 ·intro i hi1 hi2 hi3
  rw [es i hi2,es ((i - 1) / 2) (by omega),if_neg hi3]
  by_cases e:i=c
  ·subst e
   rw [if_pos rfl,c3,if_pos rfl]
   exact hs.asymm hl
  ·rw [if_neg e]
   by_cases e1:i=j
   ·subst e1
    rw [if_pos rfl,if_neg (by omega)]
    exact h.2 c c2 c1 c3 hi1
   ·rw [if_neg e1]
    by_cases e2:(i - 1) / 2=j
    ·rw [if_pos e2];exact c4 i hi1 hi2 e2
    ·rw [if_neg e2];exact h.1 i hi1 hi2 e2
 ·intro i hi1 hi2 hi3 _
  have h1:i≠c:=by omega
  have h2:i≠j:=by omega
  rw [es i hi2,c3,es j (by omega),if_neg h1,if_neg h2,if_neg (by omega),if_pos rfl]
  have:=h.1 i hi1 hi2 (by omega)
  rw [hi3] at this;exact this
theorem heap_min (hs:STO lt) {n:Nat} {X:List α} (h:HeapN lt n X):∀ i,i<n→lt (nth X i) (nth X 0)=false:=by
 intro i
 induction i using Nat.strongRecOn with
 | _ i ih =>
  intro hi
  by_cases h0:i=0
  ·subst h0;exact hs.irrefl _
  ·exact hs.le_trans (ih ((i - 1) / 2) (by omega) (by omega)) (h i (by omega) hi)
theorem heap_take {n:Nat} {X:List α} (h:HeapN lt n X) (hn:n≤X.length):HeapN lt n (X.take n):=fun i h0 h1=>by
 have e:∀ k,k<n→nth (X.take n) k=nth X k:=fun k hk=>by rw [nth_eq (by simp;omega),nth_eq (by omega)];simp
 rw [e i h1,e _ (by omega)];exact h i h0 h1
theorem pop_perm {n:Nat} {X Y:List α} {m:α} (hX:X.length=n+1) (hp:Y.Perm X) (hm:nth Y n=m):(m :: Y.take n).Perm X:=by
 have hl:Y.length=n+1:=by rw [hp.length_eq,hX]
 have e:Y=Y.take n ++ [m]:=by
  have h1:=List.take_append_drop n Y
  have h2:Y.drop n=[m]:=by
   rw [← hm,nth_eq (by omega),List.drop_eq_getElem_cons (by omega),List.drop_of_length_le (by omega)]
  rw [h2] at h1;exact h1.symm
 refine List.Perm.trans ?_ hp
 conv=>rhs;rw [e]
 exact(List.perm_append_singleton m _).symm
omit [Inhabited α] in
theorem pops_rise (hs:STO lt) {out rest all:List α} (hp:(out ++ rest).Perm all) (hn:all.Nodup) (h1:Rises lt out) (h2:∀ a∈out,∀ b∈rest,lt b a=false) {m:α} {rest':List α} (hr:(m :: rest').Perm rest) (hm:∀ b∈rest,lt b m=false) :
  ((out ++ [m]) ++ rest').Perm all∧Rises lt (out ++ [m])∧∀ a∈out ++ [m],∀ b∈rest',lt b a=false:=by
 have hp2:((out ++ [m]) ++ rest').Perm all:=by
  rw [List.append_assoc]
  exact(hr.append_left out).trans hp
 have hnd:(out ++ rest).Nodup:=hp.nodup_iff.2 hn
 have hmr:m∈rest:=hr.mem_iff.1 (List.mem_cons_self ..)
 refine⟨hp2,?_,?_⟩
 ·rw [Rises,List.pairwise_append]
  refine⟨h1,List.pairwise_singleton _ _,fun a ha b hb=>?_⟩
  obtain rfl:=List.mem_singleton.1 hb
  cases h:lt a b with
  | true=>rfl
  | false =>
   have e:=hs.tri a b h (h2 a ha b hmr)
   subst e
   exact absurd rfl ((List.nodup_append.1 hnd).2.2 a ha a hmr)
 ·intro a ha b hb
  have hbr:b∈rest:=hr.mem_iff.1 (List.mem_cons_of_mem _ hb)
  rcases List.mem_append.1 ha with ha | ha
  ·exact h2 a ha b hbr
  ·obtain rfl:=List.mem_singleton.1 ha
   exact hm b hbr
end
end
section
open Go Go.RowKit
def wk (nx:Nat→List Int) (n s:Nat):Nat→Nat→Bool
 | 0,v=>v == s
 | k+1,v=>(List.range n).any fun u=>wk nx n s k u && (nx u).contains (v:Int)
def lev (nx:Nat→List Int) (n s v:Nat):Int:=match (List.range n).find? (fun k=>wk nx n s k v) with | some k=>(k:Int) | none=>-1
structure LevOk (nx:Nat→List Int) (n s:Nat) (f:Nat→Int):Prop where
 ge:∀ v,v<n→-1≤f v
 zero:∀ v,v<n→(f v=0↔v=s)
 next:∀ u v,u<n→v<n→(v:Int)∈nx u→0≤f u→0≤f v∧f v≤f u+1
 pred:∀ v,v<n→0<f v→∃ u,u<n∧f u=f v - 1∧(v:Int)∈nx u
theorem wk_succ {nx:Nat→List Int} {n s k v:Nat}:wk nx n s (k+1) v=true↔∃ u,u<n∧wk nx n s k u=true∧(v:Int)∈nx u:=by
 simp [wk]
theorem LevOk.of_wk {nx:Nat→List Int} {n s:Nat} {f:Nat→Int} (h:LevOk nx n s f) (hs:s<n):∀ k v,v<n→wk nx n s k v=true→0≤f v∧f v≤k
 | 0,v,hv,hk=>by
  have:v=s:=by simpa [wk] using hk
  have:=(h.zero v hv).2 this
  omega
 | k+1,v,hv,hk=>by
  obtain⟨u,hu,h1,h2⟩:=wk_succ.1 hk
  have h3:=h.of_wk hs k u hu h1
  have h4:=h.next u v hu hv h2 h3.1
  omega
theorem LevOk.wk {nx:Nat→List Int} {n s:Nat} {f:Nat→Int} (h:LevOk nx n s f):∀ (k v:Nat),v<n→f v=k→wk nx n s k v=true
 | 0,v,hv,hk=>by
  have:=(h.zero v hv).1 (by omega)
  simpa [Proofs.YtfjhjennfiihhaaGreat.wk] using this
 | k+1,v,hv,hk=>by
  obtain⟨u,hu,h1,h2⟩:=h.pred v hv (by omega)
  exact wk_succ.2 ⟨u,hu,h.wk k u hu (by omega),h2⟩
theorem LevOk.uniq {nx:Nat→List Int} {n s:Nat} {f g:Nat→Int} (hf:LevOk nx n s f) (hg:LevOk nx n s g) (hs:s<n):∀ v,v<n→f v=g v:=by
 have key:∀ {f g:Nat→Int},LevOk nx n s f→LevOk nx n s g→∀ v,v<n→0≤f v→0≤g v∧g v≤f v:=by
  intro f g hf hg v hv h0
  obtain⟨k,hk⟩:∃ k:Nat,f v=k:=⟨(f v).toNat,by omega⟩
  have:=hg.of_wk hs k v hv (hf.wk k v hv hk)
  omega
 intro v hv
 have h1:=hf.ge v hv
 have h2:=hg.ge v hv
 by_cases h:0≤f v
 ·have:=key hf hg v hv h
  have:=key hg hf v hv this.1
  omega
 ·by_cases h':0≤g v
  ·have:=key hg hf v hv h';omega
  ·omega
def wkT (nx:Nat→List Int) (n s k v:Nat):Bool:=(List.range (k+1)).any fun j=>wk nx n s j v
theorem wkT_iff {nx:Nat→List Int} {n s k v:Nat}:wkT nx n s k v=true↔∃ j,j≤k∧wk nx n s j v=true:=by
 simp only [wkT,List.any_eq_true,List.mem_range]
 constructor
 ·rintro⟨j,h1,h2⟩;exact⟨j,by omega,h2⟩
 ·rintro⟨j,h1,h2⟩;exact⟨j,by omega,h2⟩
theorem countP_less {α:Type} (p q:α→Bool):∀ l:List α,(∀ x∈l,p x=true→q x=true)→(∃ x,x∈l∧q x=true∧p x=false)→l.countP p<l.countP q
 | [],_,h=>by obtain⟨x,hx,_⟩:=h;cases hx
 | a :: l,h1,h2=>by
  have hle:l.countP p≤l.countP q:=List.countP_mono_left fun x hx=>h1 x (List.mem_cons_of_mem _ hx)
  obtain⟨x,hx,hq,hp⟩:=h2
  rw [List.countP_cons,List.countP_cons]
  rcases List.mem_cons.1 hx with rfl | hx
  ·simp only [hq,hp];simp;omega
  ·have:=countP_less p q l (fun x hx=>h1 x (List.mem_cons_of_mem _ hx)) ⟨x,hx,hq,hp⟩
   have h3:=h1 a (List.mem_cons_self ..)
   cases ha:p a with
   | false=>simp only [Bool.false_eq_true,if_false];split <;> omega
   | true=>rw [h3 ha];simp;omega
theorem wkT_stop {nx:Nat→List Int} {n s:Nat}:∀ m k,(List.range n).countP (fun v=>!wkT nx n s k v)≤m→∃ j,j≤k+m∧∀ v,v<n→wkT nx n s (j+1) v=true→wkT nx n s j v=true
 | m,k,h=>by
  by_cases hs:∀ v,v<n→wkT nx n s (k+1) v=true→wkT nx n s k v=true
  ·exact⟨k,by omega,hs⟩
  ·have:∃ v,v<n∧wkT nx n s (k+1) v=true∧wkT nx n s k v=false:=by
    apply Classical.byContradiction
    intro hc
    apply hs
    intro v hv h1
    cases h2:wkT nx n s k v with
    | true=>rfl
    | false=>exact absurd ⟨v,hv,h1,h2⟩ hc
   obtain⟨v,hv,h1,h2⟩:=this
   have hlt:=countP_less (fun v=>!wkT nx n s (k+1) v) (fun v=>!wkT nx n s k v) (List.range n) (fun x _ hx=>by
    simp only [Bool.not_eq_eq_eq_not,Bool.not_true] at hx ⊢
    cases h3:wkT nx n s k x with
    | false=>rfl
    | true =>
     obtain⟨j,hj,h4⟩:=wkT_iff.1 h3
     rw [wkT_iff.2 ⟨j,by omega,h4⟩] at hx;cases hx) ⟨v,List.mem_range.2 hv,by simp [h2],by simp [h1]⟩
   cases m with
   | zero=>omega
   | succ m =>
    obtain⟨j,hj,h3⟩:=wkT_stop (nx:=nx) (n:=n) (s:=s) m (k+1) (by omega)
    exact⟨j,by omega,h3⟩
theorem wkT_closed {nx:Nat→List Int} {n s j:Nat} (h:∀ v,v<n→wkT nx n s (j+1) v=true→wkT nx n s j v=true):∀ k v,v<n→wk nx n s k v=true→wkT nx n s j v=true
 | 0,v,_,hk=>wkT_iff.2 ⟨0,Nat.zero_le _,hk⟩
 | k+1,v,hv,hk=>by
  obtain⟨u,hu,h1,h2⟩:=wk_succ.1 hk
  obtain⟨i,hi,h3⟩:=wkT_iff.1 (wkT_closed h k u hu h1)
  exact h v hv (wkT_iff.2 ⟨i+1,by omega,wk_succ.2 ⟨u,hu,h3,h2⟩⟩)
theorem wk_short {nx:Nat→List Int} {n s:Nat} (hs:s<n) {k v:Nat} (hv:v<n) (hk:wk nx n s k v=true):∃ j,j<n∧wk nx n s j v=true:=by
 have h0:(List.range n).countP (fun v=>!wkT nx n s 0 v)≤n - 1:=by
  have:=countP_less (fun v=>!wkT nx n s 0 v) (fun _=>true) (List.range n) (fun _ _ _=>rfl) ⟨s,List.mem_range.2 hs,rfl,by simp [wkT,wk,List.range_succ]⟩
  rw [List.countP_true,List.length_range] at this
  omega
 obtain⟨j,hj,h1⟩:=wkT_stop (nx:=nx) (s:=s) (n - 1) 0 h0
 obtain⟨i,hi,h2⟩:=wkT_iff.1 (wkT_closed h1 k v hv hk)
 exact⟨i,by omega,h2⟩
theorem least_nat {p:Nat→Bool}:∀ k,p k=true→∃ j,j≤k∧p j=true∧∀ i,i<j→p i=false
 | 0,h=>⟨0,Nat.le_refl _,h,fun i hi=>by omega⟩
 | k+1,h=>by
  by_cases h1:∃ j,j≤k∧p j=true
  ·obtain⟨j,hj,h2⟩:=h1
   obtain⟨i,hi,h3,h4⟩:=least_nat j h2
   exact⟨i,by omega,h3,h4⟩
  ·refine⟨k+1,Nat.le_refl _,h,fun i hi=>?_⟩
   cases h2:p i with
   | false=>rfl
   | true=>exact absurd ⟨i,by omega,h2⟩ h1
theorem find_range {p:Nat→Bool} {n k:Nat} (hk:k<n) (h1:p k=true) (h2:∀ i,i<k→p i=false):(List.range n).find? p=some k:=by
 rw [List.find?_eq_some_iff_append]
 refine⟨h1,List.range k,(List.range (n - k - 1)).map (·+(k+1)),?_,fun i hi=>by rw [h2 i (List.mem_range.1 hi)];rfl⟩
 have:n=k+1+(n - k - 1):=by omega
 conv=>lhs;rw [this,List.range_add,List.range_succ]
 rw [List.append_assoc,List.singleton_append]
 have he:(fun x:Nat=>k+1+x)=fun x=>x+(k+1):=by funext x;omega
 rw [he]
theorem lev_pos {nx:Nat→List Int} {n s v:Nat} (hs:s<n) (hv:v<n) {k:Nat} (hk:wk nx n s k v=true):∃ j,j≤k∧j<n∧lev nx n s v=j∧wk nx n s j v=true∧∀ i,i<j→wk nx n s i v=false:=by
 obtain⟨i,hi,h1⟩:=wk_short hs hv hk
 obtain⟨j,hj,h2,h3⟩:=least_nat (p:=fun k=>wk nx n s k v) i h1
 have hjk:j≤k:=by
  by_cases h:j≤k
  ·exact h
  ·have:=h3 k (by omega);rw [hk] at this;cases this
 refine⟨j,hjk,by omega,?_,h2,h3⟩
 unfold lev
 rw [find_range (p:=fun k=>wk nx n s k v) (by omega:j<n) h2 h3]
theorem lev_cases {nx:Nat→List Int} {n s v:Nat} (hs:s<n) (hv:v<n):(lev nx n s v = -1∧∀ k,wk nx n s k v=false)∨∃ j:Nat,j<n∧lev nx n s v=j∧wk nx n s j v=true∧∀ i,i<j→wk nx n s i v=false:=by
 by_cases h:∃ k,wk nx n s k v=true
 ·obtain⟨k,hk⟩:=h
  obtain⟨j,_,h1,h2,h3,h4⟩:=lev_pos hs hv hk
  exact Or.inr ⟨j,h1,h2,h3,h4⟩
 ·have h':∀ k,wk nx n s k v=false:=fun k=>by
   cases h2:wk nx n s k v with
   | false=>rfl
   | true=>exact absurd ⟨k,h2⟩ h
  refine .inl ⟨?_,h'⟩
  unfold lev
  rw [List.find?_eq_none.2 (fun x _=>by simp [h' x])]
theorem lev_ok (nx:Nat→List Int) (n s:Nat) (hs:s<n):LevOk nx n s (lev nx n s):=by
 refine⟨fun v hv=>?_,fun v hv=>?_,fun u v hu hv hm h0=>?_,fun v hv h0=>?_⟩
 ·rcases lev_cases (nx:=nx) hs hv with ⟨h,_⟩ | ⟨j,_,h,_⟩ <;> omega
 ·constructor
  ·intro h
   rcases lev_cases (nx:=nx) hs hv with ⟨h1,_⟩ | ⟨j,_,h1,h2,_⟩
   ·omega
   ·have:j=0:=by omega
    subst this
    simpa [wk] using h2
  ·rintro rfl
   obtain⟨j,hj,_,h1,_⟩:=lev_pos (nx:=nx) (k:=0) hs hv (by simp [wk])
   omega
 ·rcases lev_cases (nx:=nx) hs hu with ⟨h1,_⟩ | ⟨j,_,h1,h2,_⟩
  ·omega
  ·obtain⟨i,hi,_,h3,_⟩:=lev_pos hs hv (wk_succ.2 ⟨u,hu,h2,hm⟩)
   omega
 ·rcases lev_cases (nx:=nx) hs hv with ⟨h1,_⟩ | ⟨j,_,h1,h2,h3⟩
  ·omega
  ·obtain⟨k,rfl⟩:∃ k,j=k+1:=⟨j - 1,by omega⟩
   obtain⟨u,hu,h4,h5⟩:=wk_succ.1 h2
   refine⟨u,hu,?_,h5⟩
   obtain⟨i,hi,_,h6,h7,_⟩:=lev_pos hs hu h4
   have:i=k:=by
    by_cases h:i=k
    ·exact h
    ·have:=h3 (i+1) (by omega)
     rw [wk_succ.2 ⟨u,hu,h7,h5⟩] at this;cases this
   omega
theorem lev_lt {nx:Nat→List Int} {n s v:Nat} (hs:s<n) (hv:v<n):lev nx n s v<n:=by
 rcases lev_cases (nx:=nx) hs hv with ⟨h,_⟩ | ⟨j,hj,h,_⟩ <;> omega
end
section
open Go Go.RowKit
theorem nth_set (X:List Int) (i j:Nat) (a:Int) (hi:i<X.length):nth (X.set i a) j=if j=i then a else nth X j:=by
 unfold nth
 rw [List.getD_eq_getElem?_getD,List.getD_eq_getElem?_getD,List.getElem?_set]
 by_cases h:i=j
 ·subst h;simp [hi]
 ·rw [if_neg h,if_neg (fun e=>h e.symm)]
def bf0 (n s:Nat):List Int:=(List.replicate n (-1)).set s 0
theorem bf0_nth {n s:Nat} (hs:s<n) (v:Nat) (hv:v<n):nth (bf0 n s) v=if v=s then 0 else -1:=by
 unfold bf0
 rw [nth_set _ _ _ _ (by simpa using hs)]
 split
 ·rfl
 ·rw [nth_eq (by simpa using hv)];simp
theorem rep_set {n v:Nat} (hv:v<n):(List.replicate v (-1:Int) ++ List.replicate (n - v) 0).set v (-1)=List.replicate (v+1) (-1) ++ List.replicate (n - (v+1)) 0:=by
 obtain⟨m,rfl⟩:∃ m,n=v+1+m:=⟨n - v - 1,by omega⟩
 rw [show v+1+m - v=m+1 by omega,show v+1+m - (v+1)=m by omega,List.replicate_succ (n:=m),List.replicate_succ' (n:=v)]
 rw [List.set_append_right _ _ (by simp)]
 simp
end
section
open Go Go.RowKit
theorem wk_zero {nx:Nat→List Int} {n s v:Nat}:wk nx n s 0 v=true↔v=s:=by simp [wk]
theorem wk_front {nx:Nat→List Int} {n s:Nat} (hs:s<n):∀ {k v:Nat},v<n→(wk nx n s (k+1) v=true↔∃ u,u<n∧(u:Int)∈nx s∧wk nx n u k v=true)
 | 0,v,hv=>by
  rw [wk_succ]
  constructor
  ·rintro⟨u,hu,h1,h2⟩
   have:=wk_zero.1 h1;subst this
   exact⟨v,hv,h2,wk_zero.2 rfl⟩
  ·rintro⟨u,hu,h1,h2⟩
   have:=wk_zero.1 h2;subst this
   exact⟨s,hs,wk_zero.2 rfl,h1⟩
 | k+1,v,hv=>by
  rw [wk_succ]
  constructor
  ·rintro⟨u,hu,h1,h2⟩
   obtain⟨x,hx,h3,h4⟩:=(wk_front hs hu).1 h1
   exact⟨x,hx,h3,wk_succ.2 ⟨u,hu,h4,h2⟩⟩
  ·rintro⟨x,hx,h3,h4⟩
   obtain⟨u,hu,h5,h6⟩:=wk_succ.1 h4
   exact⟨u,hu,(wk_front hs hu).2 ⟨x,hx,h3,h5⟩,h6⟩
theorem wk_trans {nx:Nat→List Int} {n s v:Nat} {a:Nat} (h1:wk nx n s a v=true):∀ b t,t<n→wk nx n v b t=true→wk nx n s (a+b) t=true
 | 0,t,_,h2=>by have:=wk_zero.1 h2;subst this;exact h1
 | b+1,t,_,h2=>by
  obtain⟨u,hu,h3,h4⟩:=wk_succ.1 h2
  exact wk_succ.2 ⟨u,hu,wk_trans h1 b u hu h3,h4⟩
theorem wk_split {nx:Nat→List Int} {n s:Nat} {a:Nat}:∀ b t,t<n→wk nx n s (a+b) t=true→∃ v,v<n∧wk nx n s a v=true∧wk nx n v b t=true
 | 0,t,ht,h=>⟨t,ht,h,wk_zero.2 rfl⟩
 | b+1,t,ht,h=>by
  obtain⟨u,hu,h1,h2⟩:=wk_succ.1 h
  obtain⟨v,hv,h3,h4⟩:=wk_split b u hu h1
  exact⟨v,hv,h3,wk_succ.2 ⟨u,hu,h4,h2⟩⟩
def Rev (nx nb:Nat→List Int) (n:Nat):Prop:=∀ u v:Nat,u<n→v<n→((v:Int)∈nx u↔(u:Int)∈nb v)
theorem wk_rev {nx nb:Nat→List Int} {n:Nat} (h:Rev nx nb n):∀ k s v,s<n→v<n→(wk nx n s k v=true↔wk nb n v k s=true)
 | 0,s,v,_,_=>by rw [wk_zero,wk_zero];exact⟨fun e=>e.symm,fun e=>e.symm⟩
 | k+1,s,v,hs,hv=>by
  rw [wk_succ,wk_front hv hs]
  constructor
  ·rintro⟨u,hu,h1,h2⟩
   exact⟨u,hu,(h u v hu hv).1 h2,(wk_rev h k s u hs hu).1 h1⟩
  ·rintro⟨u,hu,h1,h2⟩
   exact⟨u,hu,(wk_rev h k s u hs hu).2 h2,(h u v hu hv).2 h1⟩
theorem lev_rev {nx nb:Nat→List Int} {n s t:Nat} (h:Rev nx nb n) (hs:s<n) (ht:t<n):lev nx n s t=lev nb n t s:=by
 have e:∀ k,wk nx n s k t=wk nb n t k s:=fun k=>by rw [Bool.eq_iff_iff];exact wk_rev h k s t hs ht
 unfold lev
 rw [show (fun k=>wk nx n s k t)=fun k=>wk nb n t k s from funext e]
theorem lev_wk {nx:Nat→List Int} {n s v:Nat} (hs:s<n) (hv:v<n) (h:0≤lev nx n s v):wk nx n s (lev nx n s v).toNat v=true:=by
 rcases lev_cases (nx:=nx) hs hv with ⟨h1,_⟩ | ⟨j,_,h1,h2,_⟩
 ·omega
 ·rw [h1];exact h2
theorem lev_le {nx:Nat→List Int} {n s v k:Nat} (hs:s<n) (hv:v<n) (h:wk nx n s k v=true):0≤lev nx n s v∧lev nx n s v≤k:=by
 obtain⟨j,h1,_,h2,_⟩:=lev_pos hs hv h;omega
section
variable {nx nb:Nat→List Int} {n s t:Nat} (h:Rev nx nb n) (hs:s<n) (ht:t<n)
include h hs ht in
theorem lev_over {v:Nat} (hv:v<n) (h1:0≤lev nx n s v) (h2:0≤lev nb n t v):0≤lev nx n s t∧lev nx n s t≤lev nx n s v+lev nb n t v:=by
 have g1:=lev_wk hs hv h1
 have g2:=(wk_rev h _ v t hv ht).2 (lev_wk ht hv h2)
 have g3:=lev_le hs ht (wk_trans g1 _ t ht g2)
 omega
include h hs ht in
theorem lev_mid {j:Nat} (h0:0≤lev nx n s t) (hj:j≤lev nx n s t):∃ v,v<n∧lev nx n s v=j∧lev nb n t v=lev nx n s t - j:=by
 have g:=lev_wk hs ht h0
 rw [show (lev nx n s t).toNat=j+((lev nx n s t).toNat - j) by omega] at g
 obtain⟨v,hv,g1,g2⟩:=wk_split _ t ht g
 have g3:=lev_le hs hv g1
 have g4:=lev_le ht hv ((wk_rev h _ v t hv ht).1 g2)
 have g5:=lev_over h hs ht hv g3.1 g4.1
 exact⟨v,hv,by omega,by omega⟩
end
def cut (f:Nat→Int) (k:Int) (v:Nat):Int:=if 0≤f v∧f v≤k then f v else -1
theorem cut_ge {f:Nat→Int} {k:Int} {v:Nat}:0≤cut f k v↔0≤f v∧f v≤k:=by unfold cut;split <;> omega
theorem cut_eq {f:Nat→Int} {k:Int} {v:Nat} (h:0≤cut f k v):cut f k v=f v:=by unfold cut at *;split at h <;> simp_all
def meetB (n:Nat) (f g:Nat→Int) (k:Int):Bool:=(List.range n).any fun v=>decide (0≤f v) && decide (f v≤k) && decide (0≤g v) && decide (g v≤k)
theorem meetB_iff {n:Nat} {f g:Nat→Int} {k:Int}:meetB n f g k=true↔∃ v,v<n∧0≤f v∧f v≤k∧0≤g v∧g v≤k:=by
 simp [meetB,and_assoc]
def hasL (n:Nat) (f:Nat→Int) (k:Int):Bool:=(List.range n).any fun v=>f v == k
theorem hasL_iff {n:Nat} {f:Nat→Int} {k:Int}:hasL n f k=true↔∃ v,v<n∧f v=k:=by
 simp [hasL]
section
variable {nx nb:Nat→List Int} {n s t:Nat} (h:Rev nx nb n) (hs:s<n) (ht:t<n)
include h hs ht in
theorem meet_lev {k:Nat}:meetB n (lev nx n s) (lev nb n t) k=true↔0≤lev nx n s t∧lev nx n s t≤2*(k:Int):=by
 rw [meetB_iff]
 constructor
 ·rintro⟨v,hv,h1,h2,h3,h4⟩
  have:=lev_over h hs ht hv h1 h3;omega
 ·rintro⟨h1,h2⟩
  by_cases h3:lev nx n s t≤k
  ·obtain⟨v,hv,g1,g2⟩:=lev_mid h hs ht (j:=(lev nx n s t).toNat) h1 (by omega)
   exact⟨v,hv,by omega,by omega,by omega,by omega⟩
  ·obtain⟨v,hv,g1,g2⟩:=lev_mid h hs ht (j:=k) h1 (by omega)
   exact⟨v,hv,by omega,by omega,by omega,by omega⟩
include hs in
theorem has_below {k j:Nat} (hj:j≤k) (hk:hasL n (lev nx n s) k=true):hasL n (lev nx n s) j=true:=by
 obtain⟨v,hv,h1⟩:=hasL_iff.1 hk
 have g:=lev_wk (nx:=nx) hs hv (by omega)
 rw [h1,Int.toNat_natCast,show k=j+(k - j) by omega] at g
 obtain⟨u,hu,g1,g2⟩:=wk_split _ v hv g
 have g3:=lev_le hs hu g1
 have g4:=lev_wk (nx:=nx) hs hu g3.1
 have g5:=lev_le hs hv (wk_trans g4 _ v hv g2)
 exact hasL_iff.2 ⟨u,hu,by omega⟩
include hs in
theorem has_lt {k:Nat} (hk:hasL n (lev nx n s) k=true):k<n:=by
 obtain⟨v,hv,h1⟩:=hasL_iff.1 hk
 have:=lev_lt (nx:=nx) hs hv;omega
include hs in
end
def stepsK (n:Nat) (f g:Nat→Int):Nat→Nat→Nat
 | 0,k=>k
 | m+1,k=>if meetB n f g k=true then k else if hasL n f (k+1)=true∧hasL n g (k+1)=true then stepsK n f g m (k+1) else k
def stepsN (n:Nat) (f g:Nat→Int):Nat:=stepsK n f g (n+1) 0
end
section
open Go Go.RowKit
abbrev Occ:=Int × ByteArray
def plc (O:List Occ) (s:ByteArray):List Int:=(O.filter fun x=>decide (x.2=s)).map (·.1)
theorem plc_snoc (O:List Occ) (v:Int) (t s:ByteArray):plc (O ++ [(v,t)]) s=if t=s then plc O s ++ [v] else plc O s:=by
 unfold plc
 rw [List.filter_append,List.filter_cons]
 by_cases h:t=s <;> simp [h]
theorem plc_nil {O:List Occ} {s:ByteArray}:plc O s=[]↔∀ x∈O,x.2≠s:=by
 unfold plc
 rw [List.map_eq_nil_iff,List.filter_eq_nil_iff]
 simp
structure Gath (O:List Occ) (A:List Po):Prop where
 nodup:(A.map (·.1)).Nodup
 keys:∀ s,s∈A.map (·.1)↔∃ x∈O,x.2=s
 at_:∀ p∈A,p.2=plc O p.1
theorem Gath.nil:Gath [] []:=⟨List.nodup_nil,fun s=>by simp,fun p hp=>by cases hp⟩
theorem Gath.new {O:List Occ} {A:List Po} (h:Gath O A) {v:Int} {s:ByteArray} (hs:s ∉ A.map (·.1)):Gath (O ++ [(v,s)]) (A ++ [(s,[v])]):=by
 have hno:∀ x∈O,x.2≠s:=fun x hx e=>hs ((h.keys s).2 ⟨x,hx,e⟩)
 refine⟨?_,fun t=>?_,fun p hp=>?_⟩
 ·rw [List.map_append,List.nodup_append]
  refine⟨h.nodup,by simp,fun a ha b hb=>?_⟩
  simp at hb;subst hb;rintro rfl;exact hs ha
 ·rw [List.map_append,List.mem_append,h.keys t]
  constructor
  ·rintro(⟨x,hx,e⟩ | ht)
   ·exact⟨x,List.mem_append_left _ hx,e⟩
   ·simp at ht;subst ht;exact⟨(v,t),by simp,rfl⟩
  ·rintro⟨x,hx,e⟩
   rcases List.mem_append.1 hx with hx | hx
   ·exact .inl ⟨x,hx,e⟩
   ·rw [List.mem_singleton] at hx;subst hx;right;simp [e.symm]
 ·rw [plc_snoc]
  rcases List.mem_append.1 hp with hp1 | hp1
  ·have hne:s≠p.1:=fun e=>hs (by rw [e];exact List.mem_map_of_mem hp1)
   rw [if_neg hne];exact h.at_ p hp1
  ·rw [List.mem_singleton] at hp1;subst hp1
   rw [if_pos rfl,plc_nil.2 hno];rfl
theorem Gath.find {O:List Occ} {A:List Po} (h:Gath O A) {s:ByteArray} (hs:s∈A.map (·.1)):∃ r,r<A.length∧(nth A r).1=s∧(nth A r).2=plc O s:=by
 obtain⟨p,hp,rfl⟩:=List.mem_map.1 hs
 obtain⟨r,hr,rfl⟩:=List.mem_iff_getElem.1 hp
 refine⟨r,hr,by rw [nth_eq hr],?_⟩
 rw [nth_eq hr];exact h.at_ _ hp
theorem nodup_len {α:Type} [DecidableEq α]:∀ {l m:List α},l.Nodup→(∀ x∈l,x∈m)→l.length≤m.length
 | [],_,_,_=>by simp
 | a :: l,m,h,hm=>by
  obtain⟨h1,h2⟩:=List.nodup_cons.1 h
  have ha:=hm a (by simp)
  have ih:=nodup_len (m:=m.erase a) h2 fun x hx=>(List.mem_erase_of_ne (fun e=>h1 (by rw [← e];exact hx))).2 (hm x (by simp [hx]))
  rw [List.length_erase_of_mem ha] at ih
  have:=List.length_pos_of_mem ha
  rw [List.length_cons];omega
theorem Gath.len {O:List Occ} {A:List Po} (h:Gath O A):A.length≤O.length:=by
 have h1:=nodup_len (m:=O.map (·.2)) h.nodup fun s hs=>by
  obtain⟨x,hx,e⟩:=(h.keys s).1 hs
  exact e ▸ List.mem_map_of_mem hx
 simpa using h1
end
section
open Go Go.RowKit
def ah1 (X:List Int) (l:List Int) (w:Int):List Int:=if nth X w.toNat<0∧w ∉ l then l ++ [w] else l
def ahR (X:List Int) (m:List Int) (l:List Int):List Int:=m.foldl (ah1 X) l
def ahF (nx:Nat→List Int) (X:List Int) (F:List Int) (l:List Int):List Int:=F.foldl (fun l v=>ahR X (nx v.toNat) l) l
theorem ahR_take {X m l:List Int} {j:Nat} (h:j<m.length):ahR X (m.take (j+1)) l=ah1 X (ahR X (m.take j) l) (nth m j):=by
 unfold ahR;rw [take_succ_nth m j h,List.foldl_append];rfl
theorem ahF_take {nx:Nat→List Int} {X F l:List Int} {j:Nat} (h:j<F.length):ahF nx X (F.take (j+1)) l=ahR X (nx (nth F j).toNat) (ahF nx X (F.take j) l):=by
 unfold ahF;rw [take_succ_nth F j h,List.foldl_append];rfl
theorem ah1_mem {X l:List Int} {w x:Int}:x∈ah1 X l w↔x∈l∨(x=w∧nth X w.toNat<0):=by
 unfold ah1
 split
 ·rename_i h
  rw [List.mem_append,List.mem_singleton]
  constructor
  ·rintro(h1 | h1)
   ·exact .inl h1
   ·exact .inr ⟨h1,h.1⟩
  ·rintro(h1 | h1)
   ·exact .inl h1
   ·exact .inr h1.1
 ·rename_i h
  constructor
  ·exact .inl
  ·rintro(h1 | ⟨h1,h2⟩)
   ·exact h1
   ·subst h1
    by_cases h3:x∈l
    ·exact h3
    ·exact absurd ⟨h2,h3⟩ h
theorem ahR_mem {X:List Int} {x:Int}:∀ {m l:List Int},x∈ahR X m l↔x∈l∨(x∈m∧nth X x.toNat<0)
 | [],l=>by simp [ahR]
 | a :: m,l=>by
  have:=ahR_mem (X:=X) (x:=x) (m:=m) (l:=ah1 X l a)
  unfold ahR at *
  rw [List.foldl_cons,this,ah1_mem,List.mem_cons]
  constructor
  ·rintro((h | ⟨rfl,h⟩) | h)
   ·exact .inl h
   ·exact .inr ⟨.inl rfl,h⟩
   ·exact .inr ⟨.inr h.1,h.2⟩
  ·rintro(h | ⟨rfl | h,h2⟩)
   ·exact .inl (.inl h)
   ·exact .inl (.inr ⟨rfl,h2⟩)
   ·exact .inr ⟨h,h2⟩
theorem ahF_mem {nx:Nat→List Int} {X:List Int} {x:Int}:∀ {F l:List Int},x∈ahF nx X F l↔x∈l∨(∃ v∈F,x∈nx v.toNat∧nth X x.toNat<0)
 | [],l=>by simp [ahF]
 | a :: F,l=>by
  have:=ahF_mem (nx:=nx) (X:=X) (x:=x) (F:=F) (l:=ahR X (nx a.toNat) l)
  unfold ahF at *
  rw [List.foldl_cons,this,ahR_mem]
  constructor
  ·rintro((h | h) | ⟨v,h1,h2⟩)
   ·exact .inl h
   ·exact .inr ⟨a,List.mem_cons_self ..,h⟩
   ·exact .inr ⟨v,List.mem_cons_of_mem _ h1,h2⟩
  ·rintro(h | ⟨v,h1,h2⟩)
   ·exact .inl (.inl h)
   ·rcases List.mem_cons.1 h1 with rfl | h1
    ·exact .inl (.inr h2)
    ·exact .inr ⟨v,h1,h2⟩
theorem ah1_nodup {X l:List Int} {w:Int} (h:l.Nodup):(ah1 X l w).Nodup:=by
 unfold ah1
 split
 ·rename_i h1
  rw [List.nodup_append]
  exact⟨h,by simp,fun a ha b hb e=>by rw [List.mem_singleton] at hb;subst hb;subst e;exact h1.2 ha⟩
 ·exact h
theorem ahR_nodup {X:List Int}:∀ {m l:List Int},l.Nodup→(ahR X m l).Nodup
 | [],_,h=>h
 | a :: m,l,h=>by
  have:=ahR_nodup (X:=X) (m:=m) (ah1_nodup (X:=X) (w:=a) h)
  unfold ahR at *
  exact this
theorem ahF_nodup {nx:Nat→List Int} {X:List Int}:∀ {F l:List Int},l.Nodup→(ahF nx X F l).Nodup
 | [],_,h=>h
 | a :: F,l,h=>by
  have:=ahF_nodup (nx:=nx) (X:=X) (F:=F) (ahR_nodup (X:=X) (m:=nx a.toNat) h)
  unfold ahF at *
  exact this
theorem nodup_small {l:List Int} {n:Nat} (h:l.Nodup) (hb:∀ x∈l,0≤x∧x<n):l.length≤n:=by
 have:=nodup_len (m:=(List.range n).map fun v:Nat=>(v:Int)) h fun x hx=>by
  obtain⟨h1,h2⟩:=hb x hx
  rw [List.mem_map]
  exact⟨x.toNat,List.mem_range.2 (by omega),by omega⟩
 simpa using this
def IsFront (f:Nat→Int) (n:Nat) (k:Int) (F:List Int):Prop:=F.Nodup∧∀ x,x∈F↔0≤x∧x<n∧f x.toNat=k
def InN (nx:Nat→List Int) (n:Nat):Prop:=∀ u,u<n→∀ x∈nx u,0≤x∧x<n
theorem front_next {nx:Nat→List Int} {n s:Nat} (hs:s<n) (hin:InN nx n) {k:Nat} {F X:List Int} (hF:IsFront (lev nx n s) n k F)
  (hX:∀ v,v<n→(nth X v<0↔¬ (0≤lev nx n s v∧lev nx n s v≤k))):IsFront (lev nx n s) n (k+1:Nat) (ahF nx X F []):=by
 refine⟨ahF_nodup List.nodup_nil,fun x=>?_⟩
 rw [ahF_mem]
 have L:=lev_ok nx n s hs
 constructor
 ·rintro(h | ⟨v,h1,h2,h3⟩)
  ·cases h
  ·obtain⟨g1,g2,g3⟩:=(hF.2 v).1 h1
   obtain⟨g4,g5⟩:=hin v.toNat (by omega) x h2
   have g6:=(hX x.toNat (by omega)).1 h3
   have g7:=L.next v.toNat x.toNat (by omega) (by omega) (by rw [Int.toNat_of_nonneg g4];exact h2) (by omega)
   exact⟨g4,g5,by omega⟩
 ·rintro⟨h1,h2,h3⟩
  obtain⟨u,hu,g1,g2⟩:=L.pred x.toNat (by omega) (by omega)
  rw [Int.toNat_of_nonneg h1] at g2
  refine .inr ⟨(u:Int),(hF.2 u).2 ⟨by omega,by omega,by rw [Int.toNat_natCast];omega⟩,by rw [Int.toNat_natCast];exact g2,(hX x.toNat (by omega)).2 (by omega)⟩
theorem front_0 {nx:Nat→List Int} {n s:Nat} (hs:s<n):IsFront (lev nx n s) n 0 [(s:Int)]:=by
 refine⟨by simp,fun x=>?_⟩
 rw [List.mem_singleton]
 have L:=lev_ok nx n s hs
 constructor
 ·rintro rfl
  exact⟨by omega,by omega,by rw [Int.toNat_natCast];exact(L.zero s hs).2 rfl⟩
 ·rintro⟨h1,h2,h3⟩
  have:=(L.zero x.toNat (by omega)).1 h3
  omega
def cutL (f:Nat→Int) (n:Nat) (k:Int):List Int:=(List.range n).map fun v=>cut f k v
theorem cutL_len (f:Nat→Int) (n:Nat) (k:Int):(cutL f n k).length=n:=by simp [cutL]
theorem cutL_nth {f:Nat→Int} {n:Nat} {k:Int} {v:Nat} (hv:v<n):nth (cutL f n k) v=cut f k v:=by
 rw [nth_eq (by rw [cutL_len];exact hv)];simp [cutL]
def tkR (c:Int) (m:List Int) (X:List Int):List Int:=m.foldl (fun X w=>X.set w.toNat c) X
theorem tkR_take {c:Int} {X m:List Int} {j:Nat} (h:j<m.length):tkR c (m.take (j+1)) X=(tkR c (m.take j) X).set (nth m j).toNat c:=by
 unfold tkR;rw [take_succ_nth m j h,List.foldl_append];rfl
theorem tkR_len {c:Int}:∀ {m X:List Int},(tkR c m X).length=X.length
 | [],X=>rfl
 | a :: m,X=>by
  have:=tkR_len (c:=c) (m:=m) (X:=X.set a.toNat c)
  unfold tkR at *
  rw [List.foldl_cons,this,List.length_set]
theorem tkR_nth {c:Int} {v:Nat}:∀ {m X:List Int},(∀ x∈m,0≤x∧x<X.length)→nth (tkR c m X) v=if (v:Int)∈m then c else nth X v
 | [],X,_=>by simp [tkR]
 | a :: m,X,h=>by
  have h0:=h a (List.mem_cons_self ..)
  have:=tkR_nth (c:=c) (v:=v) (m:=m) (X:=X.set a.toNat c) (fun x hx=>by rw [List.length_set];exact h x (List.mem_cons_of_mem _ hx))
  unfold tkR at *
  rw [List.foldl_cons,this,nth_set _ _ _ _ (by omega)]
  simp only [List.mem_cons]
  by_cases h1:(v:Int)∈m
  ·simp [h1]
  ·by_cases h2:v=a.toNat
   ·rw [if_neg h1,if_pos h2,if_pos (.inl (by omega))]
   ·rw [if_neg h1,if_neg h2,if_neg]
    rintro(h3 | h3)
    ·omega
    ·exact h1 h3
theorem take_cut {f:Nat→Int} {n:Nat} {k:Nat} {m:List Int} (hm:IsFront f n (k+1:Nat) m):tkR ((k:Int)+1) m (cutL f n k)=cutL f n (k+1:Nat):=by
 apply List.ext_getElem
 ·rw [tkR_len,cutL_len,cutL_len]
 ·intro v h1 h2
  have hv:v<n:=by rw [cutL_len] at h2;exact h2
  rw [← nth_eq h1,← nth_eq h2,cutL_nth hv,tkR_nth (fun x hx=>by have:=(hm.2 x).1 hx;rw [cutL_len];omega),cutL_nth hv]
  have h3:=hm.2 (v:Int)
  rw [Int.toNat_natCast] at h3
  unfold cut
  by_cases h4:(v:Int)∈m
  ·have:=h3.1 h4
   rw [if_pos h4,if_pos (by omega)];omega
  ·have:¬ f v=((k+1:Nat):Int):=fun e=>h4 (h3.2 ⟨by omega,by omega,e⟩)
   rw [if_neg h4]
   by_cases h5:0≤f v∧f v≤k
   ·rw [if_pos h5,if_pos (by omega)]
   ·rw [if_neg h5,if_neg (by omega)]
theorem cut_0 {nx:Nat→List Int} {n s:Nat} (hs:s<n):cutL (lev nx n s) n 0=bf0 n s:=by
 apply List.ext_getElem
 ·rw [cutL_len];simp [bf0]
 ·intro v h1 h2
  have hv:v<n:=by rw [cutL_len] at h1;exact h1
  rw [← nth_eq h1,← nth_eq h2,cutL_nth hv,bf0_nth hs v hv]
  have L:=(lev_ok nx n s hs).zero v hv
  unfold cut
  by_cases h:v=s
  ·rw [if_pos h,if_pos (by have:=L.2 h;omega)];exact L.2 h
  ·have:¬ lev nx n s v=0:=fun e=>h (L.1 e)
   rw [if_neg h,if_neg (by omega)]
theorem cut_lt {f:Nat→Int} {k:Int} {v:Nat}:cut f k v<0↔¬ (0≤f v∧f v≤k):=by
 have:=cut_ge (f:=f) (k:=k) (v:=v);omega
end
section
open Go Go.RowKit
def best1 (X Y:List Int) (s:Int × Bool) (v:Nat):Int × Bool:=if 0≤nth X v∧0≤nth Y v∧(s.2=false∨nth X v+nth Y v<s.1) then (nth X v+nth Y v,true) else s
def bestR (X Y:List Int) (k:Nat):Int × Bool:=(List.range k).foldl (best1 X Y) (0,false)
theorem bestR_succ (X Y:List Int) (k:Nat):bestR X Y (k+1)=best1 X Y (bestR X Y k) k:=by
 unfold bestR;rw [List.range_succ,List.foldl_append];rfl
theorem bestR_is (X Y:List Int):∀ k,((bestR X Y k).2=false→(bestR X Y k).1=0∧∀ v,v<k→¬ (0≤nth X v∧0≤nth Y v)) ∧
  ((bestR X Y k).2=true→(∃ v,v<k∧0≤nth X v∧0≤nth Y v∧(bestR X Y k).1=nth X v+nth Y v)∧∀ v,v<k→0≤nth X v→0≤nth Y v→(bestR X Y k).1≤nth X v+nth Y v)
 | 0=>⟨fun _=>⟨rfl,fun v hv=>by omega⟩,fun h=>by cases h⟩
 | k+1=>by
  obtain⟨h1,h2⟩:=bestR_is X Y k
  rw [bestR_succ]
  generalize bestR X Y k=s at *
  obtain⟨m,b⟩:=s
  unfold best1
  by_cases hc:0≤nth X k∧0≤nth Y k∧(b=false∨nth X k+nth Y k<m)
  ·rw [if_pos hc]
   refine⟨fun h=>by(simp at h),fun _=>⟨⟨k,by omega,hc.1,hc.2.1,rfl⟩,fun v hv g1 g2=>?_⟩⟩
   by_cases hv':v=k
   ·subst hv';exact Int.le_refl _
   ·cases b with
    | false=>exact absurd ⟨g1,g2⟩ ((h1 rfl).2 v (by omega))
    | true =>
     have:=(h2 rfl).2 v (by omega) g1 g2
     rcases hc.2.2 with h | h
     ·cases h
     ·simp only at this ⊢;omega
  ·rw [if_neg hc]
   cases b with
   | false =>
    refine⟨fun _=>⟨(h1 rfl).1,fun v hv g=>?_⟩,fun h=>by cases h⟩
    by_cases hv':v=k
    ·subst hv';exact hc ⟨g.1,g.2,.inl rfl⟩
    ·exact(h1 rfl).2 v (by omega) g
   | true =>
    refine⟨fun h=>(by cases h),fun _=>⟨?_,fun v hv g1 g2=>?_⟩⟩
    ·obtain⟨v,hv,g⟩:=(h2 rfl).1
     exact⟨v,by omega,g⟩
    ·by_cases hv':v=k
     ·subst hv'
      apply Classical.byContradiction
      intro hlt
      exact hc ⟨g1,g2,.inr (by simp only at hlt ⊢;omega)⟩
     ·exact(h2 rfl).2 v (by omega) g1 g2
section
variable {nx nb:Nat→List Int} {n s t:Nat} (h:Rev nx nb n) (hs:s<n) (ht:t<n)
include h hs ht in
theorem best_lev {k:Nat} (_:0≤lev nx n s t→2*(k:Int)≤lev nx n s t+1) :
  (meetB n (lev nx n s) (lev nb n t) k=true→bestR (cutL (lev nx n s) n k) (cutL (lev nb n t) n k) n=(lev nx n s t,true)) ∧
  (meetB n (lev nx n s) (lev nb n t) k=false→bestR (cutL (lev nx n s) n k) (cutL (lev nb n t) n k) n=(0,false)):=by
 obtain⟨h1,h2⟩:=bestR_is (cutL (lev nx n s) n k) (cutL (lev nb n t) n k) n
 generalize hb:bestR (cutL (lev nx n s) n k) (cutL (lev nb n t) n k) n=b at *
 obtain⟨m,o⟩:=b
 constructor
 ·intro hm
  obtain⟨g1,g2⟩:=(meet_lev h hs ht).1 hm
  have hex:∃ v,v<n∧lev nx n s v≤k∧0≤lev nx n s v∧lev nb n t v≤k∧0≤lev nb n t v∧lev nx n s v+lev nb n t v=lev nx n s t:=by
   by_cases h3:lev nx n s t≤k
   ·obtain⟨v,hv,e1,e2⟩:=lev_mid h hs ht (j:=(lev nx n s t).toNat) g1 (by omega)
    exact⟨v,hv,by omega,by omega,by omega,by omega,by omega⟩
   ·obtain⟨v,hv,e1,e2⟩:=lev_mid h hs ht (j:=k) g1 (by omega)
    exact⟨v,hv,by omega,by omega,by omega,by omega,by omega⟩
  obtain⟨v,hv,e1,e2,e3,e4,e5⟩:=hex
  have c1:nth (cutL (lev nx n s) n k) v=lev nx n s v:=by rw [cutL_nth hv];unfold cut;rw [if_pos ⟨e2,e1⟩]
  have c2:nth (cutL (lev nb n t) n k) v=lev nb n t v:=by rw [cutL_nth hv];unfold cut;rw [if_pos ⟨e4,e3⟩]
  cases o with
  | false=>exact absurd ⟨by rw [c1];exact e2,by rw [c2];exact e4⟩ ((h1 rfl).2 v hv)
  | true =>
   obtain⟨⟨u,hu,f1,f2,f3⟩,f4⟩:=h2 rfl
   have f5:=f4 v hv (by rw [c1];exact e2) (by rw [c2];exact e4)
   rw [c1,c2] at f5
   rw [cutL_nth hu] at f1 f3
   rw [cutL_nth hu] at f2 f3
   have f6:=cut_eq f1
   have f7:=cut_eq f2
   have f8:=lev_over h hs ht hu (by rw [← f6];exact f1) (by rw [← f7];exact f2)
   simp only at f3 f5
   have:m=lev nx n s t:=by omega
   rw [this]
 ·intro hm
  cases o with
  | false=>rw [show m=0 from(h1 rfl).1]
  | true =>
   obtain⟨⟨u,hu,f1,f2,_⟩,_⟩:=h2 rfl
   rw [cutL_nth hu] at f1
   rw [cutL_nth hu] at f2
   have f3:=cut_ge.1 f1
   have f4:=cut_ge.1 f2
   rw [meetB_iff.2 ⟨u,hu,f3.1,f3.2,f4.1,f4.2⟩] at hm
   cases hm
theorem front_has {f:Nat→Int} {k:Int} {F:List Int} (hF:IsFront f n k F):(hasL n f k=true↔0<F.length):=by
 rw [hasL_iff]
 constructor
 ·rintro⟨v,hv,e⟩
  exact List.length_pos_of_mem ((hF.2 (v:Int)).2 ⟨by omega,by omega,by rw [Int.toNat_natCast];exact e⟩)
 ·intro h
  obtain⟨x,hx⟩:=List.exists_mem_of_length_pos h
  obtain⟨h1,h2,h3⟩:=(hF.2 x).1 hx
  exact⟨x.toNat,by omega,h3⟩
end
def distN (d:Int):Int:=if 0≤d then d else 0
def distB (d:Int):Bool:=decide (0≤d)
theorem stepsK_meet {n m k:Nat} {f g:Nat→Int} (h:meetB n f g k=true):stepsK n f g (m+1) k=k:=by unfold stepsK;rw [if_pos h]
theorem stepsK_end {n m k:Nat} {f g:Nat→Int} (h:meetB n f g k=false) (h2:¬ (hasL n f (k+1)=true∧hasL n g (k+1)=true)):stepsK n f g (m+1) k=k:=by
 unfold stepsK;rw [if_neg (by rw [h];simp),if_neg h2]
theorem stepsK_go {n m k:Nat} {f g:Nat→Int} (h:meetB n f g k=false) (h2:hasL n f (k+1)=true∧hasL n g (k+1)=true):stepsK n f g (m+1) k=stepsK n f g m (k+1):=by
 conv=>lhs;unfold stepsK
 rw [if_neg (by rw [h];simp),if_pos h2]
end
section
open Go Go.RowKit
def offL (n:Nat) (E:List (Int × Int)):List Int:=(List.range (n+1)).map fun (j:Nat)=>((E.countP fun x=>decide (x.1<(j:Int))):Int)
def toL (E:List (Int × Int)):List Int:=E.map (·.2)
def cntL (n:Nat) (E:List (Int × Int)):List Int:=(List.range (n+1)).map fun (j:Nat)=>((E.countP fun x=>decide (x.1+1=(j:Int))):Int)
theorem cntL_len (n:Nat) (E:List (Int × Int)):(cntL n E).length=n+1:=by simp [cntL]
theorem cntL_nth {n j:Nat} (E:List (Int × Int)) (h:j<n+1):nth (cntL n E) j=((E.countP fun x=>decide (x.1+1=(j:Int))):Int):=by
 rw [nth_eq (by rw [cntL_len];exact h)]
 simp [cntL]
theorem cntL_step {n:Nat} (E:List (Int × Int)) (x:Int × Int) {k:Nat} (hk:x.1=(k:Int)) (hn:k<n):cntL n (E ++ [x])=(cntL n E).set (k+1) (nth (cntL n E) (k+1)+1):=by
 apply List.ext_getElem
 ·simp [cntL]
 ·intro i h1 h2
  rw [List.getElem_set]
  by_cases e:k+1=i
  ·subst e
   rw [if_pos rfl,cntL_nth E (by omega)]
   simp [cntL,List.countP_append,hk]
  ·rw [if_neg e]
   have:¬ ((k:Int)+1=(i:Int)):=by omega
   simp [cntL,List.countP_append,hk,this]
def sumL (n:Nat) (E:List (Int × Int)) (v:Nat):List Int:=(List.range (n+1)).map fun (j:Nat)=>if j≤v then ((E.countP fun x=>decide (x.1<(j:Int))):Int) else ((E.countP fun x=>decide (x.1+1=(j:Int))):Int)
theorem sumL_len (n:Nat) (E:List (Int × Int)) (v:Nat):(sumL n E v).length=n+1:=by simp [sumL]
theorem sumL_nth {n j v:Nat} (E:List (Int × Int)) (h:j<n+1):nth (sumL n E v) j=if j≤v then ((E.countP fun x=>decide (x.1<(j:Int))):Int) else ((E.countP fun x=>decide (x.1+1=(j:Int))):Int):=by
 rw [nth_eq (by rw [sumL_len];exact h)]
 simp [sumL]
theorem sumL_zero {n:Nat} {E:List (Int × Int)} (h:∀ x∈E,0≤x.1):sumL n E 0=cntL n E:=by
 apply List.ext_getElem
 ·simp [sumL,cntL]
 ·intro i h1 h2
  simp only [sumL,cntL,List.getElem_map,List.getElem_range]
  by_cases e:i≤0
  ·obtain rfl:i=0:=by omega
   rw [if_pos e]
   rw [List.countP_eq_zero.2 fun x hx=>by have:=h x hx;simp;omega,List.countP_eq_zero.2 fun x hx=>by have:=h x hx;simp;omega]
  ·rw [if_neg e]
theorem sumL_end (n:Nat) (E:List (Int × Int)):sumL n E n=offL n E:=by
 apply List.ext_getElem
 ·simp [sumL,offL]
 ·intro i h1 h2
  simp only [sumL,offL,List.getElem_map,List.getElem_range]
  rw [if_pos (by simp [sumL] at h1;omega)]
theorem count_step (E:List (Int × Int)) (v:Nat):(E.countP fun x=>decide (x.1<((v+1:Nat):Int)))=(E.countP fun x=>decide (x.1+1=((v+1:Nat):Int)))+E.countP fun x=>decide (x.1<(v:Int)):=by
 induction E with
 | nil=>rfl
 | cons x E ih =>
  simp only [List.countP_cons]
  rw [ih]
  by_cases h1:x.1<(v:Int)
  ·have h2:x.1<((v+1:Nat):Int):=by omega
   have h3:¬ (x.1+1=((v+1:Nat):Int)):=by omega
   simp only [h1,h2,h3,decide_true,decide_false,if_true,Bool.false_eq_true,if_false];omega
  ·by_cases h2:x.1+1=((v+1:Nat):Int)
   ·have h3:x.1<((v+1:Nat):Int):=by omega
    simp only [h1,h2,h3,decide_true,decide_false,if_true,Bool.false_eq_true,if_false];omega
   ·have h3:¬ x.1<((v+1:Nat):Int):=by omega
    simp only [h1,h2,h3,decide_false,Bool.false_eq_true,if_false];omega
theorem sumL_step {n:Nat} (E:List (Int × Int)) {v:Nat} (hv:v<n):sumL n E (v+1)=(sumL n E v).set (v+1) (nth (sumL n E v) (v+1)+nth (sumL n E v) v):=by
 apply List.ext_getElem
 ·simp [sumL]
 ·intro i h1 h2
  rw [List.getElem_set]
  by_cases e:v+1=i
  ·subst e
   rw [if_pos rfl,sumL_nth E (by omega),sumL_nth E (by omega),if_neg (by omega),if_pos (Nat.le_refl _)]
   simp only [sumL,List.getElem_map,List.getElem_range]
   rw [if_pos (Nat.le_refl _),count_step]
   omega
  ·rw [if_neg e]
   simp only [sumL,List.getElem_map,List.getElem_range]
   by_cases e2:i≤v
   ·rw [if_pos e2,if_pos (by omega)]
   ·rw [if_neg e2,if_neg (by omega)]
theorem lessE_iff {a b:Int × Int}:lessE a b=true↔a.1<b.1∨a.1=b.1∧a.2<b.2:=by unfold lessE;simp
end
section
open Go Go.RowKit Go.Shelf Go.Lib
theorem encI_set (l:List Int) (k:Nat) (x:Int):(encI l).set k (.int .i64 x)=encI (l.set k x):=by simp [encI,List.map_set]
theorem made_encI (n:Nat):(madeCells (Value.int .i64 0).cells (n*1)).toList=encI (List.replicate n 0):=by
 apply List.ext_getElem
 ·simp [madeCells,encI]
 ·intro i h1 h2
  simp [madeCells,encI,Value.cells,Nat.mod_one]
theorem cntL_nil (n:Nat):cntL n []=List.replicate (n+1) 0:=by
 apply List.ext_getElem
 ·simp [cntL]
 ·intro i h1 h2
  simp [cntL]
theorem Rd.oneIat (w:World) (t:TypeId) (a:Int) (b:Nat) (h:w.heap.size=b):Rd (w.alloc (.cells #[.int .i64 a] t)) 1 (some ⟨b,0,none⟩) 1 (encI [a]):=by subst h;exact Rd.oneI w t a
theorem wpList_make_sep {P:Program} {w0 w:World} {Γ:List Pc} {ops:Array Oper} {rest:List Oper} {o:Oper} {a:Act} {Q:Exit→Act→World→Prop}
  (hg:o.guard=none) (l c:Operand) (t:TypeId) (hop:o.op=Op.makeSlice t l c)
  (e:TypeId) (i:TypeInfo) (z:Value) (size:Nat) (h1:P.underlying t=some (.slice e)) (h2:P.info? e=some i) (h3:i.zero=some z) (h4:i.size=size)
  (L:Int) (n:Nat) (hl:a.eval l=.int .i64 L) (hc:a.eval c=.int .i64 L) (hL:L=(n:Int)) (b2:i.bytes*n≤281474976710656) (b3:n≤maxLen) (S:Sep w0 w Γ)
  (hK:∀ w',Sep w0 w' (.own e size (some ⟨w.heap.size,0,none⟩) n n (madeCells z.cells (n*size)).toList :: Γ)→wpList P ops Q rest (a.put o.dst (.slice (some ⟨w.heap.size,0,none⟩) n n)) w') :
  wpList P ops Q (o :: rest) a w :=
 wpList_make_full w hg l c t hop w.heap.size e i z size h1 h2 h3 h4 .i64 .i64 L L n hl hc hL hL b2 b3 (Nat.le_refl _) fun w' ho hgr =>
  hK w' (S.fresh ⟨hgr.os,hgr.tape,hgr.output,hgr.size,fun k hk=>hgr.block k hk (by simp)⟩ ho (Nat.le_refl _))
theorem laidG (n:Nat) (p:Option Addr) (m c:Nat) (E:List (Int × Int)) (w:World) (hE:Rd w 2 p m (encE E)) (hn:n≤200) (hm:m≤2000) (hb:∀ x∈E,0≤x.1∧x.1<n) :
  Calls Tryz.prog 107 #[.int .i64 n,.slice p m c] w fun e w'=>∃ qo co qt ct,e=.returned (.tuple #[.slice qo (n+1) co,.slice qt m ct])∧Sep w w' [.own 3 1 qt m ct (encI (toL E)),.own 3 1 qo (n+1) co (encI (offL n E))]:=by
 obtain⟨i0,hi0,hz0,hz1,hz2⟩:=info_parts infI
 have p1:=hE.ptr
 have L1:=Lib.hid hE.nE
 have HB:=Lib.hid hb
 clear hb
 have HE:=Lib.hid hE;clear hE
 go_enter Tryz.func107,Tryz.ntmps107
 go_wp2_with (at_make;go_must (refine wpList_make_sep rfl _ _ _ rfl 3 i0 _ 1 Tryz.underlying25 hi0 hz0 hz1 ((n:Int)+1) (n+1) rfl rfl (by omega) (by rw [hz2];omega) (by unfold maxLen;omega) (Sep.start w) ?_;intro w1 S';rw [made_encI,← cntL_nil] at S';have S1:=Lib.hid S';clear S'))
 generalize hqo:(some ⟨w.heap.size,0,none⟩:Option Addr)=qo at *
 clear hqo
 go_loopw [5,7,14] (fun t _ i wr=>∃ (k:Nat) (q:Option Addr) (d:Nat),k≤m∧i=.int .i64 k∧t=.slice q k d∧Sep w wr [.own 3 1 q k d (encI (toL (E.take k))),.own 3 1 qo (n+1) (n+1) (encI (cntL n (E.take k)))]) (fun _ _ i _=>m - (intOf i).toNat)
 case atStart=>exact⟨0,none,0,Nat.zero_le _,rfl,rfl,S1.out.nilrow _ _⟩
 case round =>
  clear S1
  obtain⟨k,q,d,hk,rfl,rfl,S⟩:=hrel
  by_cases hlt:k<m
  ·have hkE:k<E.length:=by rw [← L1.out];exact hlt
   have e1:=S.ext.cell (HE.out.cE hlt)
   have e2:=S.ext.cell (HE.out.cE2 hlt)
   obtain⟨b1,b2⟩:=HB.out _ (nth_mem hkE)
   obtain⟨f,hf⟩:∃ f:Nat,(nth E k).1=(f:Int):=⟨(nth E k).1.toNat,by omega⟩
   have HT:Hid (toL (E.take (k+1))=toL (E.take k) ++ [(nth E k).2]):=by unfold Hid toL;rw [map_take_succ _ E k hkE]
   have HC:Hid (cntL n (E.take (k+1))=(cntL n (E.take k)).set (f+1) (nth (cntL n (E.take k)) (f+1)+1)):=by
    unfold Hid;rw [take_succ_nth E k hkE];exact cntL_step _ _ hf (by omega)
   rw [hf] at e1 b1 b2
   have c1:=(S.rd 1 rfl (by omega)).cI (k:=f+1) (by omega)
   have po:=(S.rd 1 rfl (by omega)).ptr
   have fz:=own_frozen (S.own 1 rfl) (by omega) (f+1)
   have zz:(adr qo (f+1)).block<wr.heap.size:=(S.blt 1 rfl (by omega)).2
   have y0:adr qo (f+1)≠⟨wr.heap.size,1,none⟩:=fun e=>by
    have e2:(adr qo (f+1)).block=wr.heap.size:=by rw [e]
    omega
   have y1:(⟨wr.heap.size,1,none⟩:Addr)≠adr qo (f+1):=fun e=>y0 e.symm
   have d1:(0:Int)≤k:=by omega
   have d2:(k:Int)<m:=by omega
   have d3:(0:Int)≤(f:Int)+1:=by omega
   have d4:(f:Int)+1<((n+1:Nat):Int):=by omega
   have hcb:nth (cntL n (E.take k)) (f+1)≤2000∧0≤nth (cntL n (E.take k)) (f+1):=by
    rw [cntL_nth _ (by omega)]
    have h1:=List.countP_le_length (p:=fun x:Int × Int=>decide (x.1+1=((f+1:Nat):Int))) (l:=E.take k)
    rw [List.length_take] at h1
    omega
   obtain⟨u,hu⟩:∃ u,nth (cntL n (E.take k)) (f+1)=u:=⟨_,rfl⟩
   rw [hu] at c1 hcb HC
   have SH:=Lib.hid S;clear S
   clear hf hu hkE
   have SX:=Lib.hid ((SH.out.junk (.cells #[.int .i64 (f:Int),.int .i64 (nth E k).2] 98)).setRow 1 rfl (f+1) (by omega) (.int .i64 (u+1)))
   go_wp2_with (at_builtin;go_must (refine wpList_append_sep rfl _ _ _ rfl 3 i0 _ 1 8 Tryz.underlying25 hi0 hz0 hz1 hz2 rfl (by omega) (SX.out.junk _) 0 q k d _ rfl rfl _ 1 1 _ rfl (Rd.oneIat _ _ _ _ (by simp [World.setCell])) (one_encI _) (by omega) (by omega) ?_;intro q' d' w' S' hsz;have S5:=Lib.hid S';clear S' hsz))
   go_roundw
   case rel=>exact⟨k+1,q',d',by omega,by go_num,rfl,by rw [HT.out,HC.out,encI_append,← encI_set];exact S5.out⟩
   case measure=>simp [intOf];omega
  ·obtain rfl:k=m:=by omega
   have HT:Hid (E.take k=E):=by unfold Hid;rw [List.take_of_length_le (by rw [← L1.out];omega)]
   rw [HT.out,← sumL_zero (fun x hx=>(HB.out x hx).1)] at S
   have SH:=Lib.hid S;clear S
   go_wp2
   go_loopw [8,33] (fun _ i wr=>∃ v:Nat,v≤n∧i=.int .i64 v∧Sep w wr [.own 3 1 q k d (encI (toL E)),.own 3 1 qo (n+1) (n+1) (encI (sumL n E v))]) (fun _ i _=>n - (intOf i).toNat)
   case atStart=>exact⟨0,Nat.zero_le _,rfl,SH.out⟩
   case round =>
    clear SH
    obtain⟨v,hv,rfl,S⟩:=hrel
    by_cases hlv:v<n
    ·have c0:=(S.rd 1 rfl (by omega)).cI (k:=v) (by omega)
     have c1:=(S.rd 1 rfl (by omega)).cI (k:=v+1) (by omega)
     have po:=(S.rd 1 rfl (by omega)).ptr
     have fz:=own_frozen (S.own 1 rfl) (by omega) (v+1)
     have HC:=Lib.hid (sumL_step E hlv)
     have bnd:∀ j,j<n+1→0≤nth (sumL n E v) j∧nth (sumL n E v) j≤2000:=fun j hj=>by
      rw [sumL_nth _ hj]
      have:=L1.out
      split
      ·have h1:=List.countP_le_length (p:=fun x:Int × Int=>decide (x.1<(j:Int))) (l:=E)
       omega
      ·have h1:=List.countP_le_length (p:=fun x:Int × Int=>decide (x.1+1=(j:Int))) (l:=E)
       omega
     have bd0:=bnd v (by omega)
     have bd1:=bnd (v+1) (by omega)
     generalize nth (sumL n E v) v=x0 at *
     generalize nth (sumL n E v) (v+1)=x1 at *
     have d1:(0:Int)≤v:=by omega
     have d2:(v:Int)<n:=by omega
     have d3:(0:Int)≤(v:Int)+1:=by omega
     have d4:(v:Int)+1<((n+1:Nat):Int):=by omega
     have d5:(v:Int)<((n+1:Nat):Int):=by omega
     clear bnd
     have SH:=Lib.hid S;clear S
     go_wp2
     have y0:=fun x:ExtOf wr=>x.ext.cell c0
     have y1:=fun x:ExtOf wr=>x.ext.cell c1
     refine wp_region_mix [true,true,true,true,true,true,true,true,true,true,true] (fun _ _ _=>True) (by kernel_rfl) (by kernel_rfl) (by kernel_rfl) (fun _ _ _ _ _ h=>h) ?_
     simp only [nfM]
     repeat (go_big_quiet_step ((fail)))
     refine wpQuiet_nil ⟨trivial,fun vs W1 hE _=>?_⟩
     have S2:=SH.out.call hE
     have po2:=(S2.rd 1 rfl (by omega)).ptr
     have fz2:=own_frozen (S2.own 1 rfl) (by omega) (v+1)
     have k1:=hE.cell c1
     have S3:=Lib.hid (S2.setRow 1 rfl (v+1) (by omega) (.int .i64 (x1+x0)))
     clear S2 y0 y1 c0 c1 fz
     simp only [putM,List.length_cons,List.length_nil,Nat.zero_add,Nat.reduceAdd,List.drop_succ_cons,List.drop_zero]
     go_wp2
     go_roundw
     case rel=>exact⟨v+1,by omega,by go_num,by rw [HC.out,← encI_set];exact S3.out⟩
     case measure=>simp [intOf];omega
    ·obtain rfl:v=n:=by omega
     rw [sumL_end] at S
     have SH:=Lib.hid S;clear S
     go_wp2
     go_ret2
     exact⟨qo,_,q,d,rfl,SH.out⟩
end
section
open Go Go.RowKit
theorem CheckG (N:Int) (pe:Option Addr) (ne ce:Nat) (pw:Option Addr) (nw cw:Nat) (E:List (Int × Int)) (hs:List Hd) (W:List (List ByteArray)) (w:World) (hE:Rd w 2 pe ne (encE E)) (hW:RdW w pw nw hs W) (hz:SzW W) :
  Calls Tryz.prog 170 #[.agg #[.int .i64 N,.slice pe ne ce,.slice pw nw cw]] w fun e w'=>e=.returned (.bool (checkB N E W))∧Ext w w':=by
 have p1:=hE.ptr
 have p2:=hW.row.ptr
 have n1:=hE.small
 have n2:=hW.row.small
 have l1:=hE.nE
 have l2:=hW.nW
 have HE:=Lib.hid hE;clear hE
 have HW:=Lib.hid hW;clear hW
 have HZ:=Lib.hid hz;clear hz
 by_cases hpre:1≤N∧N≤200∧ne≤2000∧(nw:Int)=N
 ·obtain⟨c1,c2,c3,rfl⟩:=hpre
  have YES:∀ (h5:E.all (edgeOk nw)=true) (h6:W.all rowOk=true),checkB nw E W=true:=checkB_yes c1 c2 (by omega) (by omega)
  have L1:=Lib.hid l1;clear l1
  have L2:=Lib.hid l2;clear l2
  have HY:=Lib.hid YES;clear YES
  have t1:((nw:Int) != (nw:Int))=false:=by simp
  go_enter Tryz.func170,Tryz.ntmps170
  go_wp2
  go_loopw [4,32] (fun _ i wr=>∃ k:Nat,k≤ne∧i=.int .i64 k∧(E.take k).all (edgeOk nw)=true∧Ext w wr∧GBox wr w.heap.size (nw:Int) pe ne ce pw nw cw) (fun _ i _=>ne - (intOf i).toNat)
  case atStart=>exact⟨0,Nat.zero_le _,rfl,rfl,(Below.refl _ _).alloc (Nat.le_refl _) _,GBox.new _ _⟩
  case round =>
   obtain⟨k,hk,rfl,ha,hb,gb1⟩:=hrel
   have HA:=Lib.hid ha;clear ha
   have HB:=Lib.hid hb;clear hb
   have G1:=Lib.hid gb1
   obtain⟨b0,b1,b2⟩:=gb1
   have z0:w.heap.size<wr.heap.size:=World.block_lt_of_cell? wr _ b0
   by_cases hlt:k<ne
   ·have g1:=HB.out.cell (HE.out.cE hlt)
    have g2:=HB.out.cell (HE.out.cE2 hlt)
    by_cases hok:0≤(nth E k).1∧(nth E k).1<nw∧0≤(nth E k).2∧(nth E k).2<nw
    ·have HO:Hid (edgeOk nw (nth E k)=true):=by unfold Hid edgeOk;exact decide_eq_true hok
     obtain⟨o1,o2,o3,o4⟩:=hok
     go_wp2_with (first | (go_at_call 221;have _t:=F1;refine(isPlaceG _ _ _ _ _ _ _ _ _).mono ?_;rintro e w3 ⟨rfl,hb3⟩;have F2:=Lib.hid (Ext.trans F1.out hb3);clear hb3) | (go_at_call 221;refine(isPlaceG _ _ _ _ _ _ _ _ _).mono ?_;rintro e w2 ⟨rfl,hb2⟩;have F1:=Lib.hid (Ext.trans (Ext.alloc (Below.refl wr.heap.size wr) _) hb2);have b0':=Ext.cell F1.out b0;have b1':=Ext.cell F1.out b1;have b2':=Ext.cell F1.out b2;have x0:=Ext.cell hb2 (cellnew0 _ _ _ _);have x1:=Ext.cell hb2 (cellnew1 _ _ _ _ _);clear hb2))
     go_roundw
     case rel=>exact⟨k+1,by omega,by go_num,all_step _ _ _ (by rw [← L1.out];exact hlt) HA.out HO.out,Ext.trans HB.out F2.out,G1.out.ext F2.out⟩
     case measure=>simp [intOf];omega
    ·have HO:Hid (edgeOk nw (nth E k)=false):=by unfold Hid edgeOk;exact decide_eq_false hok
     have HF:=Lib.hid (checkB_E (W:=W) (by rw [← L1.out];exact hlt) HO.out)
     clear HO
     by_cases o1:0≤(nth E k).1
     ·by_cases o2:(nth E k).1<nw
      ·by_cases o3:0≤(nth E k).2
       ·have o4:(nw:Int)≤(nth E k).2:=Int.not_lt.1 fun h=>hok ⟨o1,o2,o3,h⟩
        have o5:decide ((nth E k).2<(nw:Int))=false:=by simp;omega
        clear hok
        go_wp2_with (first | (go_at_call 221;have _t:=F1;refine(isPlaceG _ _ _ _ _ _ _ _ _).mono ?_;rintro e w3 ⟨rfl,hb3⟩;have F2:=Lib.hid (Ext.trans F1.out hb3);clear hb3) | (go_at_call 221;refine(isPlaceG _ _ _ _ _ _ _ _ _).mono ?_;rintro e w2 ⟨rfl,hb2⟩;have F1:=Lib.hid (Ext.trans (Ext.alloc (Below.refl wr.heap.size wr) _) hb2);have b0':=Ext.cell F1.out b0;have b1':=Ext.cell F1.out b1;have b2':=Ext.cell F1.out b2;have x0:=Ext.cell hb2 (cellnew0 _ _ _ _);have x1:=Ext.cell hb2 (cellnew1 _ _ _ _ _);clear hb2))
        go_ret
        exact⟨ret_bool HF.out.symm,Ext.trans HB.out F2.out⟩
       ·have o5:decide (0≤(nth E k).2)=false:=by simp;omega
        clear hok
        go_wp2_with (first | (go_at_call 221;have _t:=F1;refine(isPlaceG _ _ _ _ _ _ _ _ _).mono ?_;rintro e w3 ⟨rfl,hb3⟩;have F2:=Lib.hid (Ext.trans F1.out hb3);clear hb3) | (go_at_call 221;refine(isPlaceG _ _ _ _ _ _ _ _ _).mono ?_;rintro e w2 ⟨rfl,hb2⟩;have F1:=Lib.hid (Ext.trans (Ext.alloc (Below.refl wr.heap.size wr) _) hb2);have b0':=Ext.cell F1.out b0;have b1':=Ext.cell F1.out b1;have b2':=Ext.cell F1.out b2;have x0:=Ext.cell hb2 (cellnew0 _ _ _ _);have x1:=Ext.cell hb2 (cellnew1 _ _ _ _ _);clear hb2))
        go_ret
        exact⟨ret_bool HF.out.symm,Ext.trans HB.out F2.out⟩
      ·have o5:decide ((nth E k).1<(nw:Int))=false:=by simp;omega
       clear hok
       go_wp2_with (first | (go_at_call 221;have _t:=F1;refine(isPlaceG _ _ _ _ _ _ _ _ _).mono ?_;rintro e w3 ⟨rfl,hb3⟩;have F2:=Lib.hid (Ext.trans F1.out hb3);clear hb3) | (go_at_call 221;refine(isPlaceG _ _ _ _ _ _ _ _ _).mono ?_;rintro e w2 ⟨rfl,hb2⟩;have F1:=Lib.hid (Ext.trans (Ext.alloc (Below.refl wr.heap.size wr) _) hb2);have b0':=Ext.cell F1.out b0;have b1':=Ext.cell F1.out b1;have b2':=Ext.cell F1.out b2;have x0:=Ext.cell hb2 (cellnew0 _ _ _ _);have x1:=Ext.cell hb2 (cellnew1 _ _ _ _ _);clear hb2))
       go_ret
       exact⟨ret_bool HF.out.symm,Ext.trans HB.out F1.out⟩
     ·have o5:decide (0≤(nth E k).1)=false:=by simp;omega
      clear hok
      go_wp2_with (first | (go_at_call 221;have _t:=F1;refine(isPlaceG _ _ _ _ _ _ _ _ _).mono ?_;rintro e w3 ⟨rfl,hb3⟩;have F2:=Lib.hid (Ext.trans F1.out hb3);clear hb3) | (go_at_call 221;refine(isPlaceG _ _ _ _ _ _ _ _ _).mono ?_;rintro e w2 ⟨rfl,hb2⟩;have F1:=Lib.hid (Ext.trans (Ext.alloc (Below.refl wr.heap.size wr) _) hb2);have b0':=Ext.cell F1.out b0;have b1':=Ext.cell F1.out b1;have b2':=Ext.cell F1.out b2;have x0:=Ext.cell hb2 (cellnew0 _ _ _ _);have x1:=Ext.cell hb2 (cellnew1 _ _ _ _ _);clear hb2))
      go_ret
      exact⟨ret_bool HF.out.symm,Ext.trans HB.out F1.out⟩
   ·have HEE:=Lib.hid (all_end _ _ _ (by rw [← L1.out];exact hlt) HA.out)
    go_wp2
    clear hlt HA hk
    obtain⟨wo,rfl⟩:∃ wo:World,wo=wr:=⟨_,rfl⟩
    go_loop [6,52] (fun _ i=>∃ k:Nat,k≤nw∧i=.int .i64 k∧(W.take k).all rowOk=true) (fun _ i=>nw - (intOf i).toNat)
    case atStart=>exact⟨0,Nat.zero_le _,rfl,rfl⟩
    case round =>
     obtain⟨k,hk,rfl,ha⟩:=hrel
     have HA:=Lib.hid ha;clear ha
     by_cases hlt:k<nw
     ·have g1:=HB.out.cell (HW.out.row.cH hlt)
      have q1:=(HW.out.each k hlt).ext HB.out
      have l3:=q1.nS
      have Q1:=Lib.hid q1;clear q1
      have L3:=Lib.hid l3;clear l3
      have hsz:=Lib.hid (HZ.out (nth W k) (by rw [nth_eq (by rw [← L2.out];exact hlt)];exact List.getElem_mem _))
      by_cases h8:(nth hs k).n≤8
      ·by_cases hw:(nth W k).any (fun s=>!wordB s)=true
       ·have HF:=Lib.hid (checkB_W (N:=nw) (E:=E) (k:=k) (W:=W) (by rw [← L2.out];exact hlt) (by unfold rowOk;rw [show (nth W k).all wordB=false from by rw [← Bool.not_eq_true,List.all_eq_not_any_not,hw];simp];rfl))
        go_wp2_with (go_at_call 130;refine(ContainsWord _ _ _ _ _ Q1.out hsz.out).mono ?_;rintro e w' ⟨rfl,rfl⟩)
        go_ret
        exact⟨ret_bool HF.out.symm,HB.out⟩
       ·have hw':(nth W k).any (fun s=>!wordB s)=false:=by simpa using hw
        have HW':=Lib.hid hw'
        clear hw
        go_wp2_with (go_at_call 130;refine(ContainsWord _ _ _ _ _ Q1.out hsz.out).mono ?_;rintro e w' ⟨rfl,rfl⟩)
        go_round
        case rel=>exact⟨k+1,by omega,by go_num,all_step _ _ _ (by rw [← L2.out];exact hlt) HA.out (by unfold rowOk;rw [List.all_eq_not_any_not,HW'.out,← L3.out];simp [h8])⟩
        case measure=>simp [intOf];omega
      ·have HF:=Lib.hid (checkB_W (N:=nw) (E:=E) (k:=k) (W:=W) (by rw [← L2.out];exact hlt) (by unfold rowOk;rw [← L3.out];simp [h8]))
       go_wp2
       go_ret
       exact⟨ret_bool HF.out.symm,HB.out⟩
     ·have HR:=Lib.hid (all_end _ _ _ (by rw [← L2.out];exact hlt) HA.out)
      go_wp2
      go_ret
      exact⟨ret_bool (HY.out HEE.out HR.out).symm,HB.out⟩
 ·have HF:=Lib.hid (checkB_pre (N:=N) (E:=E) (W:=W) (by rw [← l1,← l2];exact hpre))
  clear l1 l2 HE HW HZ p1 p2
  have h1:∀ o1:Obj,Ext w (w.alloc o1):=fun o1=>(Below.refl _ _).alloc (Nat.le_refl _) _
  by_cases c1:1≤N
  ·by_cases c2:N≤200
   ·by_cases c3:ne≤2000
    ·have c4:((nw:Int) != N)=true:=by rw [bne_iff_ne];exact fun h=>hpre ⟨c1,c2,c3,h⟩
     clear hpre
     go_enter Tryz.func170,Tryz.ntmps170
     go_wp2
     go_ret
     exact⟨ret_bool HF.out.symm,h1 _⟩
    ·clear hpre
     go_enter Tryz.func170,Tryz.ntmps170
     go_wp2
     go_ret
     exact⟨ret_bool HF.out.symm,h1 _⟩
   ·clear hpre
    go_enter Tryz.func170,Tryz.ntmps170
    go_wp2
    go_ret
    exact⟨ret_bool HF.out.symm,h1 _⟩
  ·clear hpre
   go_enter Tryz.func170,Tryz.ntmps170
   go_wp2
   go_ret
   exact⟨ret_bool HF.out.symm,h1 _⟩
end
section
open Go Go.RowKit Go.Shelf Go.Lib Go.Sort
theorem allLt_zero {p:Nat→Prop}:∀ i,i<0→p i:=fun i h=>absurd h (Nat.not_lt_zero i)
theorem allLt_succ {n:Nat} {p:Nat→Prop} (h:∀ i,i<n→p i) (hn:p n):∀ i,i<n+1→p i:=fun i hi=>by
 rcases Nat.lt_or_ge i n with h1 | h1
 ·exact h i h1
 ·obtain rfl:i=n:=by omega
  exact hn
def GraphO (w:World) (base:Nat) (v:Value) (N:Int) (E:List (Int × Int)) (W:List (List ByteArray)):Prop :=
 ∃ pe ce pw cw hs,v=.agg #[.int .i64 N,.slice pe E.length ce,.slice pw W.length cw]∧w.ownsRow base 98 2 (.slice pe E.length ce) E.length (encE E)∧OwnW w base pw W.length cw hs W
theorem NormalG_no (N:Int) (pe:Option Addr) (ne ce:Nat) (pw:Option Addr) (nw cw:Nat) (E:List (Int × Int)) (hs:List Hd) (W:List (List ByteArray)) (w:World) (hE:Rd w 2 pe ne (encE E)) (hW:RdW w pw nw hs W) (hz:SzW W) (hc:checkB N E W=false) :
  Calls Tryz.prog 175 #[.agg #[.int .i64 N,.slice pe ne ce,.slice pw nw cw]] w fun e w'=>e=.returned (.tuple #[.agg #[.int .i64 0,.slice none 0 0,.slice none 0 0],.int .i64 20])∧Ext w w':=by
 have HE:=Lib.hid hE;clear hE
 have HW:=Lib.hid hW;clear hW
 have HZ:=Lib.hid hz;clear hz
 go_enter Tryz.func175,Tryz.ntmps175
 go_wp2_with (go_at_call 170;refine(CheckG _ _ _ _ _ _ _ E hs W _ (HE.out.ext (alloc2 w _ _).2.2) (HW.out.ext (alloc2 w _ _).2.2) HZ.out).mono ?_;rintro e w1 ⟨rfl,hb1⟩;have BR:Blk w1 (w.heap.size+1) _ _:=(hb1.block _ (by simp)).trans (alloc2 w _ _).2.1;have r0:=BR.cell 0;have r1:=BR.cell 1;have r2:=BR.cell 2;have k0:=BR.frozen 0;have k1:=BR.frozen 1;have k2:=BR.frozen 2;have HB:=Lib.hid (Ext.trans (alloc2 w _ _).2.2 hb1);have BR0:=Lib.hid BR;clear BR hb1)
 have B0:=BR0.out
 have B1:=B0.set_ 0 (.int .i64 0)
 have B2:=B1.set_ 1 (.slice none 0 0)
 have c0:=(B2.set_ 2 (.slice none 0 0)).cell 0
 have c1':=(B2.set_ 2 (.slice none 0 0)).cell 1
 have c2:=(B2.set_ 2 (.slice none 0 0)).cell 2
 refine bodyPost_ret (v:=.tuple #[.agg #[.int .i64 0,.slice none 0 0,.slice none 0 0],.int .i64 20]) (by simp [results,Tryz.results175,go_sem,c0,c1',c2,Tryz.sizeOf102,Tryz.isAgg102]) rfl ⟨rfl,?_⟩
 exact((HB.out.setCell (by simp) _).setCell (by simp) _).setCell (by simp) _
def R3 (b:Nat) (wz N:Nat) (pe:Option Addr) (ne ce:Nat) (D:List (Int × Int)) (i:Nat) (v:Value) (W:World):Prop :=
 match i with
 | 0=>v=.pointer (some ⟨b,0,none⟩)
 | 1=>v=.int .i64 N
 | 2=>v=.pointer (some ⟨b,1,none⟩)
 | 3=>v=.slice pe ne ce
 | 4=>v=.agg #[.func (.func 223) #[] #[]]
 | 5=>∃ q c,v=.slice q D.length c∧W.ownsRow wz 98 2 (.slice q D.length c) D.length (encE D)
 | 6=>∃ q c,v=.agg #[.int .i64 N,.slice q D.length c,.slice none 0 0]∧W.ownsRow wz 98 2 (.slice q D.length c) D.length (encE D)
 | 7=>∃ g,v=.pointer (some ⟨g,0,none⟩)∧wz≤g∧Blk W g 102 #[.int .i64 0,.slice none 0 0,.slice none 0 0]
 | _=>True
theorem R3_mono {b wz N:Nat} {pe:Option Addr} {ne ce:Nat} {D:List (Int × Int)}:∀ i v W W',Ext W W'→R3 b wz N pe ne ce D i v W→R3 b wz N pe ne ce D i v W':=by
 intro i v W W' he h
 match i with
 | 0=>exact h
 | 1=>exact h
 | 2=>exact h
 | 3=>exact h
 | 4=>exact h
 | 5=>obtain⟨q,c,h1,h2⟩:=h;exact⟨q,c,h1,he.own h2⟩
 | 6=>obtain⟨q,c,h1,h2⟩:=h;exact⟨q,c,h1,he.own h2⟩
 | 7=>obtain⟨g,h1,h2,h3⟩:=h;exact⟨g,h1,h2,h3.ext he⟩
 | _+8=>trivial
def R7 (wz g:Nat) (qh:Option Addr) (j ch:Nat) (pl:Option Addr) (nl cl:Nat) (D:List ByteArray) (i:Nat) (v:Value) (W:World):Prop :=
 match i with
 | 0=>v=.pointer (some ⟨g,2,none⟩)
 | 1=>v=.slice qh j ch
 | 2=>v=.slice pl nl cl
 | 3=>v=.agg #[.func (.func 220) #[] #[]]
 | 4=>∃ q c,v=.slice q D.length c∧W.ownsRow wz 9 1 (.slice q D.length c) D.length (encS D)
 | 5=>∃ q c a,v=.slice a 1 1∧Rd W 1 a 1 [.slice q D.length c]∧W.ownsRow wz 9 1 (.slice q D.length c) D.length (encS D)
 | _=>True
theorem R7_mono {wz g:Nat} {qh:Option Addr} {j ch:Nat} {pl:Option Addr} {nl cl:Nat} {D:List ByteArray}:∀ i v W W',Ext W W'→R7 wz g qh j ch pl nl cl D i v W→R7 wz g qh j ch pl nl cl D i v W':=by
 intro i v W W' he h
 match i with
 | 0=>exact h
 | 1=>exact h
 | 2=>exact h
 | 3=>exact h
 | 4=>obtain⟨q,c,h1,h2⟩:=h;exact⟨q,c,h1,he.own h2⟩
 | 5=>obtain⟨q,c,a,h1,h2,h3⟩:=h;exact⟨q,c,a,h1,h2.ext he,he.own h3⟩
 | _+6=>trivial
theorem NormalG_yes (N:Int) (pe:Option Addr) (ne ce:Nat) (pw:Option Addr) (nw cw:Nat) (E:List (Int × Int)) (hs:List Hd) (W:List (List ByteArray)) (w:World) (hE:Rd w 2 pe ne (encE E)) (hW:RdW w pw nw hs W) (hz:SzW W) (hc:checkB N E W=true) :
  Calls Tryz.prog 175 #[.agg #[.int .i64 N,.slice pe ne ce,.slice pw nw cw]] w fun e w'=>∃ v,e=.returned (.tuple #[v,.int .i64 0])∧GraphO w' w.heap.size v N (dedup (sortBy lessE E)) (W.map fun l=>dedup (sortBy sLess l))∧Ext w w':=by
 obtain⟨j0,hj0,hy0,hy1,hy2⟩:=info_parts inf35
 obtain⟨_,hN,hE2,hWN,_,hW8⟩:=checkB_parts hc
 have hW9:=rowOk_len hW8
 have p1:=hE.ptr
 have p2:=hW.row.ptr
 have l1:=hE.nE
 have l2:=hW.nW
 have n1:ne≤2000:=by omega
 have n2:nw≤200:=by omega
 obtain rfl:N=(nw:Int):=by omega
 have HE:=Lib.hid hE;clear hE
 have HW:=Lib.hid hW;clear hW
 have HZ:=Lib.hid hz;clear hz
 have L1:=Lib.hid l1;clear l1
 have L2:=Lib.hid l2;clear l2
 have H9:=Lib.hid hW9;clear hW9
 clear hW8 hE2 hN hWN
 go_enter Tryz.func175,Tryz.ntmps175
 go_wp2_with (go_at_call 170;refine(CheckG _ _ _ _ _ _ _ E hs W _ (HE.out.ext (alloc2 w _ _).2.2) (HW.out.ext (alloc2 w _ _).2.2) HZ.out).mono ?_;rintro e w1 ⟨rfl,hb1⟩;have BG:Blk w1 w.heap.size _ _:=(hb1.block _ (by simp;omega)).trans (alloc2 w _ _).1;have BR:Blk w1 (w.heap.size+1) _ _:=(hb1.block _ (by simp)).trans (alloc2 w _ _).2.1;have g0:=BG.cell 0;have g1:=BG.cell 1;have zb:=BR.lt;have HB:=Lib.hid (Ext.trans (alloc2 w _ _).2.2 hb1);have BR0:=Lib.hid BR;have BG0:=Lib.hid BG;clear BR BG hb1)
 refine wp_region_head 8 [11,12,13,14,15,16,17,4] (R3 w.heap.size w1.heap.size nw pe ne ce (dedup (sortBy lessE E))) (by kernel_rfl) (by kernel_rfl) (by kernel_rfl) R3_mono ?_ ?_
 ·refine allLt_succ (allLt_succ (allLt_succ (allLt_succ (allLt_succ (allLt_succ (allLt_succ (allLt_succ allLt_zero ?_) ?_) ?_) ?_) ?_) ?_) ?_) ?_ <;> intro ev vs W2 hE2 hin hout hcs hf hg hd o ho <;> obtain rfl:=Option.some.inj ho
  ·have e1:=hout 1 rfl
   simp [go_sem] at e1
   simp [execOp,go_sem,e1]
   exact⟨rfl,Below.refl _ _⟩
  ·have e1:_=Value.pointer _:=(hin 11 0 rfl).trans (hd 0 (by decide))
   have c:=(BG0.out.ext hE2).cell 0
   simp [execOp,go_sem,e1,c]
   exact⟨rfl,Below.refl _ _⟩
  ·have e1:=hout 1 rfl
   simp [go_sem] at e1
   simp [execOp,go_sem,e1]
   exact⟨rfl,Below.refl _ _⟩
  ·have e1:_=Value.pointer _:=(hin 13 2 rfl).trans (hd 2 (by decide))
   have c:=(BG0.out.ext hE2).cell 1
   simp [execOp,go_sem,e1,c]
   exact⟨rfl,Below.refl _ _⟩
  ·have e1:=hf 172
   simp [go_sem] at e1
   simp [execOp,go_sem,e1]
   exact(EdgesG W2).mono fun e w' ⟨h1,h2⟩=>⟨_,h1,rfl,h2⟩
  ·have e1:=hf 225
   have e2:_=Value.slice _ _ _:=(hin 14 3 rfl).trans (hd 3 (by decide))
   have e3:_=Value.agg _:=(hin 15 4 rfl).trans (hd 4 (by decide))
   simp [go_sem] at e1
   simp [execOp,go_sem,e1,e2,e3]
   exact(OnceE _ _ _ E W2 (HE.out.ext (Ext.trans HB.out hE2)) (by omega)).mono fun e w' ⟨q,c,h1,h2,h3⟩=>⟨_,h1,⟨q,c,rfl,own_base h2 hE2.size⟩,h3⟩
  ·have e1:_=Value.int _ _:=(hin 12 1 rfl).trans (hd 1 (by decide))
   obtain⟨q,c,e2,e3⟩:=(hd 5 (by decide):R3 _ _ _ _ _ _ _ 5 (vs 5) W2)
   have e4:=(hin 16 5 rfl).trans e2
   simp [execOp,go_sem,e1,e4]
   exact⟨⟨q,c,rfl,e3⟩,Below.refl _ _⟩
  ·simp [execOp,go_sem]
   exact⟨⟨_,rfl,hE2.size,Blk.new _ _ _⟩,(Below.refl _ _).alloc (Nat.le_refl _) _⟩
 ·intro vs W2 hE2 hR
  have r0:vs 0=_:=hR 0 (by decide)
  have r1:vs 1=_:=hR 1 (by decide)
  have r2:vs 2=_:=hR 2 (by decide)
  have r3:vs 3=_:=hR 3 (by decide)
  have r4:vs 4=_:=hR 4 (by decide)
  obtain⟨q5,c5,r5,_⟩:=hR 5 (by decide)
  obtain⟨q,cq,r6,own⟩:=hR 6 (by decide)
  obtain⟨g,r7,hg,BO⟩:=hR 7 (by decide)
  simp only [putHd,List.mapIdx_toArray,List.mapIdx_cons,List.mapIdx_nil,Nat.zero_add,Nat.reduceAdd]
  simp [List.idxOf?_cons,List.idxOf?_nil,r0,r1,r2,r3,r4,r5,r6,r7]
  have s2:=hE2.size
  have hbw:w.heap.size+1<W2.heap.size:=by omega
  have B1:=BO.set_ 0 (.int .i64 nw)
  have B2:=B1.set_ 1 (.slice q (dedup (sortBy lessE E)).length cq)
  have B3:=B2.set_ 2 (.slice none 0 0)
  have BOx:=Lib.hid B3
  have OEx:=Lib.hid (own_set (own_set (own_set own BO (by decide) 0 (.int .i64 nw)) B1 (by decide) 1 (.slice q (dedup (sortBy lessE E)).length cq)) B2 (by decide) 2 (.slice none 0 0))
  have b0:=BO.cell 0
  have b1:=BO.cell 1
  have b2:=BO.cell 2
  have f0:=BO.frozen 0
  have f1:=BO.frozen 1
  have f2:=BO.frozen 2
  have HGL:=Lib.hid BO.lt
  have hgw:w.heap.size+1<g:=by omega
  have BGx:=Lib.hid ((((BG0.out.ext hE2).far (p:=⟨g,0,none⟩) (by simp;omega) (.int .i64 nw)).far (p:=⟨g,1,none⟩) (by simp;omega) (.slice q (dedup (sortBy lessE E)).length cq)).far (p:=⟨g,2,none⟩) (by simp;omega) (.slice none 0 0))
  have BRx:=Lib.hid ((((BR0.out.ext hE2).far (p:=⟨g,0,none⟩) (by simp;omega) (.int .i64 nw)).far (p:=⟨g,1,none⟩) (by simp;omega) (.slice q (dedup (sortBy lessE E)).length cq)).far (p:=⟨g,2,none⟩) (by simp;omega) (.slice none 0 0))
  have HX:=Lib.hid ((((Ext.trans HB.out hE2).setCell (p:=⟨g,0,none⟩) (by simp;omega) (.int .i64 nw)).setCell (p:=⟨g,1,none⟩) (by simp;omega) (.slice q (dedup (sortBy lessE E)).length cq)).setCell (p:=⟨g,2,none⟩) (by simp;omega) (.slice none 0 0))
  have gx:=BGx.out.cell 2
  clear g0 g1 BG0 BR0 HB B1 B2 B3 own BO
  go_wp2
  go_loopw [6,21] (fun _ i wr=>∃ (j:Nat) (qh:Option Addr) (ch:Nat) (hs':List Hd),j≤nw∧i=.int .i64 j∧OwnW wr W2.heap.size qh j ch hs' ((W.take j).map fun l=>dedup (sortBy sLess l))∧wr.ownsRow w1.heap.size 98 2 (.slice q (dedup (sortBy lessE E)).length cq) (dedup (sortBy lessE E)).length (encE (dedup (sortBy lessE E))) ∧
    Blk wr w.heap.size 102 #[.int .i64 nw,.slice pe ne ce,.slice pw nw cw]∧Blk wr (w.heap.size+1) 102 #[.int .i64 0,.slice none 0 0,.slice none 0 0]∧Blk wr g 102 #[.int .i64 nw,.slice q (dedup (sortBy lessE E)).length cq,.slice qh j ch]∧Ext w wr∧W2.heap.size≤wr.heap.size) (fun _ i _=>nw - (intOf i).toNat)
  case atStart=>exact⟨0,none,0,[],Nat.zero_le _,rfl,OwnW.nil _ _,OEx.out,BGx.out,BRx.out,BOx.out,HX.out,by simp [World.setCell]⟩
  case round =>
   clear gx OEx BGx BRx BOx HX
   obtain⟨j,qh,ch,hs',hj,rfl,OW,OE,BG,BR,BO,HB,HZZ⟩:=hrel
   have g2:=BG.cell 2
   have o0:=BO.cell 0
   have o1:=BO.cell 1
   have o2:=BO.cell 2
   have r0:=BR.cell 0
   have r1:=BR.cell 1
   have r2:=BR.cell 2
   have q0:=BR.frozen 0
   have q1:=BR.frozen 1
   have q2:=BR.frozen 2
   have OW0:=Lib.hid OW;clear OW
   have OE0:=Lib.hid OE;clear OE
   have BG0:=Lib.hid BG;clear BG
   have BR0:=Lib.hid BR;clear BR
   have BO0:=Lib.hid BO;clear BO
   have HB0:=Lib.hid HB;clear HB
   by_cases hjt:j<nw
   ·have gh:=HB0.out.cell (HW.out.row.cH hjt)
    have QS:=Lib.hid ((HW.out.each j hjt).ext HB0.out)
    have hlen:(nth hs j).n≤8:=by rw [QS.out.nS];exact H9.out _ (by rw [nth_eq (by rw [← L2.out];exact hjt)];exact List.getElem_mem _)
    have HT2:=Lib.hid (map_take_succ (fun l=>dedup (sortBy sLess l)) W j (by rw [← L2.out];exact hjt))
    have m1:(nth hs j).n≤1000000:=by omega
    have m3:(j+1)*24≤140737488355328:=by omega
    have m4:j+1≤140737488355328:=by omega
    have M3:=Lib.hid m3;clear m3
    have M4:=Lib.hid m4;clear m4
    go_wp2
    refine wp_region_head 6 [25,26,27,28,29,30] (R7 wr.heap.size g qh j ch (nth hs j).p (nth hs j).n (nth hs j).c (dedup (sortBy sLess (nth W j)))) (by kernel_rfl) (by kernel_rfl) (by kernel_rfl) R7_mono ?_ ?_
    ·refine allLt_succ (allLt_succ (allLt_succ (allLt_succ (allLt_succ (allLt_succ allLt_zero ?_) ?_) ?_) ?_) ?_) ?_ <;> intro ev vs W3 hE3 hin hout hcs hf hg3 hd o ho <;> obtain rfl:=Option.some.inj ho
     ·have e1:=hout 4 rfl
      simp [go_sem] at e1
      simp [execOp,go_sem,e1]
      exact⟨rfl,Below.refl _ _⟩
     ·have e1:_=Value.pointer _:=(hin 25 0 rfl).trans (hd 0 (by decide))
      have c:=(BO0.out.ext hE3).cell 2
      simp [execOp,go_sem,e1,c]
      exact⟨rfl,Below.refl _ _⟩
     ·have e1:=hout 6 rfl
      simp [go_sem] at e1
      simp [execOp,go_sem,e1]
      exact⟨rfl,Below.refl _ _⟩
     ·have e1:=hf 169
      simp [go_sem] at e1
      simp [execOp,go_sem,e1]
      exact(WordsG W3).mono fun e w' ⟨h1,h2⟩=>⟨_,h1,rfl,h2⟩
     ·have e1:=hf 226
      have e2:_=Value.slice _ _ _:=(hin 27 2 rfl).trans (hd 2 (by decide))
      have e3:_=Value.agg _:=(hin 28 3 rfl).trans (hd 3 (by decide))
      simp [go_sem] at e1
      simp [execOp,go_sem,e1,e2,e3]
      exact(OnceS _ _ _ (nth W j) W3 (QS.out.ext hE3) (by omega)).mono fun e w' ⟨q,c,h1,h2,h3⟩=>⟨_,h1,⟨q,c,rfl,own_base h2 hE3.size⟩,h3⟩
     ·obtain⟨q,c,e2,e3⟩:=(hd 4 (by decide):R7 _ _ _ _ _ _ _ _ _ 4 (vs 4) W3)
      have e4:=(hin 29 4 rfl).trans e2
      simp [execOp,go_sem,e4]
      exact⟨⟨q,c,_,rfl,Rd.oneH _ _ _ _ _,e3.alloc _⟩,(Below.refl _ _).alloc (Nat.le_refl _) _⟩
    ·intro vs W3 hE3 hR3
     have r0:vs 0=_:=hR3 0 (by decide)
     have r1:vs 1=_:=hR3 1 (by decide)
     have r2:vs 2=_:=hR3 2 (by decide)
     have r3:vs 3=_:=hR3 3 (by decide)
     obtain⟨q4,c4,r4,_⟩:=hR3 4 (by decide)
     obtain⟨p',d',a',r5,RA,OR⟩:=hR3 5 (by decide)
     have OR1:=Lib.hid (own_base OR HZZ)
     have RA1:=Lib.hid RA
     have HX2:=Lib.hid hE3
     have OW2:=Lib.hid (OW0.out.ext hE3)
     have BO2:=Lib.hid (BO0.out.ext hE3)
     have BG2:=Lib.hid (BG0.out.ext hE3)
     have BR2:=Lib.hid (BR0.out.ext hE3)
     have OE2:=Lib.hid (hE3.own OE0.out)
     have HB2:=Lib.hid (Ext.trans HB0.out hE3)
     have hz3:W2.heap.size≤W3.heap.size:=Nat.le_trans HZZ hE3.size
     simp only [putHd,List.mapIdx_toArray,List.mapIdx_cons,List.mapIdx_nil,Nat.zero_add,Nat.reduceAdd]
     simp [List.idxOf?_cons,List.idxOf?_nil,r0,r1,r2,r3,r4,r5]
     clear r0 r1 r2 r3 r4 r5 OR RA hE3 hR3
     go_wp2_with (at_builtin;go_must ((refine wpList_append_rd rfl _ _ _ rfl W2.heap.size 22 j0 _ 1 24 Tryz.underlying100 hj0 hy0 hy1 hy2 rfl (by omega) qh j ch _ rfl OW2.out.row a' 1 1 _ rfl RA1.out (one_slice _ _ _) M3.out M4.out hz3 ?_;intro q3 c3 w3 own3 hg3 hat3 hl3;have BO3:Blk w3 g _ _:=(hl3.block g HGL.out).trans BO2.out;have BG3:Blk w3 w.heap.size _ _:=(hl3.block _ (by omega)).trans BG2.out;have BR3:Blk w3 (w.heap.size+1) _ _:=(hl3.block _ (by omega)).trans BR2.out;have HB3:=Lib.hid (Below.trans HB2.out (hl3.mono (by omega)));have OE3:=Lib.hid (own_grown OE2.out hg3 (own_own_ne OW2.out.row OE2.out (by decide)));have OW3:=Lib.hid (OwnW.push OW2.out OR1.out own3 hg3);have x2:=BO3.cell 2;have xf:=BO3.frozen 2;have BO4:=Lib.hid BO3;have BG4:=Lib.hid BG3;have BR4:=Lib.hid BR3;have HS3:=hl3.size;clear own3 hg3 hat3 hl3 BO3 BG3 BR3)))
     go_roundw
     case rel=>exact⟨j+1,q3,c3,_,by omega,by go_num,by rw [HT2.out];exact OW3.out.set_ BO4.out (by decide) (by decide) _ _,own_set OE3.out BO4.out (by decide) _ _,BG4.out.far (by simp;omega) _,BR4.out.far (by simp;omega) _,BO4.out.set_ 2 _,HB3.out.setCell (by simp;omega) _,by simp [World.setCell];omega⟩
     case measure=>simp [intOf];omega
   ·have hjn:j=nw:=by omega
    subst hjn
    have HT2:Hid ((W.take j).map (fun l=>dedup (sortBy sLess l))=W.map (fun l=>dedup (sortBy sLess l))):=by unfold Hid;rw [List.take_of_length_le (by rw [← L2.out];omega)]
    go_wp2
    have B0:=BR0.out
    have B1:=B0.set_ 0 (.int .i64 j)
    have B2:=B1.set_ 1 (.slice q (dedup (sortBy lessE E)).length cq)
    have c0:=(B2.set_ 2 (.slice qh j ch)).cell 0
    have c1':=(B2.set_ 2 (.slice qh j ch)).cell 1
    have c2:=(B2.set_ 2 (.slice qh j ch)).cell 2
    refine bodyPost_ret (v:=.tuple #[.agg #[.int .i64 j,.slice q (dedup (sortBy lessE E)).length cq,.slice qh j ch],.int .i64 0]) (by simp [results,Tryz.results175,go_sem,c0,c1',c2,Tryz.sizeOf102,Tryz.isAgg102]) rfl ⟨_,rfl,?_,?_⟩
    ·have OW:=((OW0.out.set_ B0 (by decide) (by decide) 0 (.int .i64 j)).set_ B1 (by decide) (by decide) 1 (.slice q (dedup (sortBy lessE E)).length cq)).set_ B2 (by decide) (by decide) 2 (.slice qh j ch)
     have OE:=own_set (own_set (own_set OE0.out B0 (by decide) 0 (.int .i64 j)) B1 (by decide) 1 (.slice q (dedup (sortBy lessE E)).length cq)) B2 (by decide) 2 (.slice qh j ch)
     rw [HT2.out] at OW
     have hl:=OW.len
     exact⟨q,cq,qh,ch,hs',by rw [← hl],own_base OE (by omega),by rw [← hl];exact⟨OW.hn,own_base OW.row (by omega),fun j hj=>own_base (OW.each j hj) (by omega)⟩⟩
    ·exact((HB0.out.setCell (by simp) _).setCell (by simp) _).setCell (by simp) _
theorem NormalG0 (N:Int) (pe:Option Addr) (ne ce:Nat) (pw:Option Addr) (nw cw:Nat) (E:List (Int × Int)) (hs:List Hd) (W:List (List ByteArray)) (w:World) (hE:Rd w 2 pe ne (encE E)) (hW:RdW w pw nw hs W) (hz:SzW W) :
  Calls Tryz.prog 175 #[.agg #[.int .i64 N,.slice pe ne ce,.slice pw nw cw]] w fun e w'=>∃ v,e=.returned (.tuple #[v,.int .i64 (normC N E W)])∧GraphO w' w.heap.size v (if checkB N E W then N else 0) (if checkB N E W then dedup (sortBy lessE E) else []) (if checkB N E W then W.map fun l=>dedup (sortBy sLess l) else [])∧Ext w w':=by
 unfold normC
 by_cases hc:checkB N E W=true
 ·simp only [hc,if_true]
  exact NormalG_yes N pe ne ce pw nw cw E hs W w hE hW hz hc
 ·have hc':checkB N E W=false:=by simpa using hc
  simp only [hc']
  refine(NormalG_no N pe ne ce pw nw cw E hs W w hE hW hz hc').mono fun e w' ⟨he,hb⟩=>⟨_,he,?_,hb⟩
  exact⟨none,0,none,0,[],rfl,World.ownsRow_nil _ _ _ _,OwnW.nil _ _⟩
end
section
open Go Go.RowKit Go.Shelf Go.Lib Go.Sort
theorem NormalG (N:Int) (pe:Option Addr) (ne ce:Nat) (pw:Option Addr) (nw cw:Nat) (E:List (Int × Int)) (hs:List Hd) (W:List (List ByteArray)) (w:World) (hE:Rd w 2 pe ne (encE E)) (hW:RdW w pw nw hs W) (hz:SzW W) :
  Calls Tryz.prog 175 #[.agg #[.int .i64 N,.slice pe ne ce,.slice pw nw cw]] w fun e w'=>∃ v,e=.returned (.tuple #[v,.int .i64 (normC N E W)])∧GraphO w' w.heap.size v (normN N E W) (normE N E W) (normW N E W)∧Ext w w':=by
 refine(NormalG0 N pe ne ce pw nw cw E hs W w hE hW hz).mono ?_
 rintro e w' ⟨v,h1,h2,h3⟩
 refine⟨v,h1,?_,h3⟩
 unfold normN normE normW
 rw [← once_putAll stoE,show (putAll sLess:List ByteArray→_)=fun l=>dedup (sortBy sLess l) from funext fun l=>(once_putAll stoS l).symm]
 exact h2
theorem own_far {w:World} {base:Nat} {e:TypeId} {size n c:Nat} {q:Option Addr} {xs:List Value} (h:w.ownsRow base e size (.slice q n c) n xs) {b:Nat} (hb:b<base) (i:Nat) (u:Value):(w.setCell ⟨b,i,none⟩ u).ownsRow base e size (.slice q n c) n xs:=by
 refine⟨h.1,?_⟩
 rcases h.2 with h2 | ⟨g,cap,cur,h1,hg,hh,r⟩
 ·exact .inl h2
 ·exact .inr ⟨g,cap,cur,h1,hg,(Below.heap_setCell w ⟨b,i,none⟩ u g (by show g≠b;omega)).trans hh,r⟩
theorem GraphO.set {w:World} {base:Nat} {v:Value} {N:Int} {E:List (Int × Int)} {W:List (List ByteArray)} (h:GraphO w base v N E W) {b:Nat} (hb:b<base) (i:Nat) (u:Value):GraphO (w.setCell ⟨b,i,none⟩ u) base v N E W:=by
 obtain⟨pe,ce,pw,cw,hs,h1,h2,h3⟩:=h
 exact⟨pe,ce,pw,cw,hs,h1,own_far h2 hb i u,h3.hn,own_far h3.row hb i u,fun j hj=>own_far (h3.each j hj) hb i u⟩
theorem GraphO.mono {w:World} {base b:Nat} {v:Value} {N:Int} {E:List (Int × Int)} {W:List (List ByteArray)} (h:GraphO w base v N E W) (hb:b≤base):GraphO w b v N E W:=by
 obtain⟨pe,ce,pw,cw,hs,h1,h2,h3⟩:=h
 exact⟨pe,ce,pw,cw,hs,h1,own_base h2 hb,h3.hn,own_base h3.row hb,fun j hj=>own_base (h3.each j hj) hb⟩
end
section
open Go Go.RowKit Go.Shelf Go.Lib Go.Sort
def turnK (E:List (Int × Int)) (k:Nat):List (Int × Int):=(E.take k).map swapE ++ E.drop k
theorem turnK_len (E:List (Int × Int)) (k:Nat):(turnK E k).length=E.length:=by simp [turnK];omega
theorem turnK_nth (E:List (Int × Int)) (k:Nat) (h:k<E.length):nth (turnK E k) k=nth E k:=by
 have hl:k<(turnK E k).length:=by rw [turnK_len];exact h
 unfold nth turnK
 rw [List.getD_eq_getElem?_getD,List.getD_eq_getElem?_getD,List.getElem?_append_right (by simp;omega)]
 simp [Nat.min_eq_left (Nat.le_of_lt h)]
theorem turnK_step (E:List (Int × Int)) (k:Nat) (h:k<E.length):((encE (turnK E k)).set (k*2) (.int .i64 (nth E k).2)).set (k*2+1) (.int .i64 (nth E k).1)=encE (turnK E (k+1)):=by
 have h1:encE (turnK E k)=encE ((E.take k).map swapE) ++ ([.int .i64 (nth E k).1,.int .i64 (nth E k).2] ++ encE (E.drop (k+1))):=by
  unfold turnK
  rw [encE_append,drop_nth E k h]
  rfl
 have h2:encE (turnK E (k+1))=encE ((E.take k).map swapE) ++ ([.int .i64 (nth E k).2,.int .i64 (nth E k).1] ++ encE (E.drop (k+1))):=by
  unfold turnK
  rw [map_take_succ swapE E k h,encE_append,encE_append,List.append_assoc]
  rfl
 have hl:(encE ((E.take k).map swapE)).length=k*2:=by rw [encE_len,List.length_map,List.length_take];omega
 rw [h1,h2,List.set_append_right _ _ (by omega),List.set_append_right _ _ (by omega),hl]
 simp [show k*2+1 - k*2=1 from by omega]
theorem TurnedG (N:Int) (pe:Option Addr) (ne ce:Nat) (pw:Option Addr) (nw cw:Nat) (E:List (Int × Int)) (hs:List Hd) (W:List (List ByteArray)) (w:World) (hE:Rd w 2 pe ne (encE E)) (hW:RdW w pw nw hs W) (hz:SzW W) (hn:ne≤100000) :
  Calls Tryz.prog 106 #[.agg #[.int .i64 N,.slice pe ne ce,.slice pw nw cw]] w fun e w'=>∃ v,e=.returned (.tuple #[v,.int .i64 (normC N (E.map swapE) W)])∧GraphO w' w.heap.size v (normN N (E.map swapE) W) (normE N (E.map swapE) W) (normW N (E.map swapE) W)∧Ext w w':=by
 have l1:=hE.nE
 have HClone:=Lib.hid (fun W1 (h:Ext w W1)=>CloneE pe ne ce E W1 (hE.ext h) hn)
 have HW:=Lib.hid hW;clear hW
 have HZ:=Lib.hid hz;clear hz
 have L1:=Lib.hid l1;clear l1
 clear hE
 have S0:=Lib.hid (((Sep.start w).al #[.int .i64 N,.slice pe ne ce,.slice pw nw cw] 102 w.heap.size rfl).al #[.int .i64 0,.slice none 0 0,.slice none 0 0] 102 (w.heap.size+1) (by simp))
 go_enter Tryz.func106,Tryz.ntmps106
 go_wp2_with (go_at_call 174;go_must (refine(HClone.out _ S0.out.ext).mono ?_;rintro e w1 ⟨q,c,rfl,ho,hb⟩;have S1:=S0.out.fresh hb ho (Nat.le_refl _);obtain⟨c0,c1,c2,f1⟩:=bkc0c1c2z1 (S1.blk 2 rfl);have S2:=Lib.hid S1;clear S1 ho hb))
 go_loopw [4,5,13] (fun _ _ i wr=>∃ k:Nat,k≤ne∧i=.int .i64 k∧Sep w wr [.own 98 2 q ne c (encE (turnK E k)),.blk (w.heap.size+1) 102 #[.int .i64 0,.slice none 0 0,.slice none 0 0],.blk w.heap.size 102 #[.int .i64 N,.slice q ne c,.slice pw nw cw]]) (fun _ _ i _=>ne - (intOf i).toNat)
 case atStart=>exact⟨0,Nat.zero_le _,rfl,by have:=S2.out.set 2 rfl 1 (.slice q ne c);rwa [show turnK E 0=E from by simp [turnK]]⟩
 case round =>
  clear S2 c0 c1 c2 f1
  obtain⟨k,hk,rfl,S⟩:=hrel
  obtain⟨cz,c0,c1,c2⟩:=bklc0c1c2 (S.blk 2 rfl)
  by_cases hlt:k<ne
  ·have p1:=(S.rd 0 rfl (by omega)).ptr
   have e1:=(S.rd 0 rfl (by omega)).cE hlt
   have e2:=(S.rd 0 rfl (by omega)).cE2 hlt
   rw [turnK_nth E k (by rw [← L1.out];exact hlt)] at e1 e2
   have k1:=own_frozen (S.own 0 rfl) (by omega) (k*2)
   have k2:=own_frozen (S.own 0 rfl) (by omega) (k*2+1)
   have z1:=(S.blt 0 rfl (by omega)).2
   have z2:(adr q (k*2)).block<wr.heap.size:=z1
   have k3:wr.frozen? ⟨(adr q (k*2)).block,(adr q (k*2)).off+1,none⟩=false:=k2
   have e3:wr.cell? ⟨(adr q (k*2)).block,(adr q (k*2)).off+1,none⟩=some (.int .i64 (nth E k).2):=e2
   have ya:_≠_:=adr_other q (show (k*2)≠(k*2)+1 by omega)
   have yb:_≠_:=adr_other q (show (k*2)+1≠(k*2) by omega)
   have yc:adr q ((k*2))≠⟨(adr q ((k*2))).block,(adr q ((k*2))).off+1,none⟩:=ya
   have d1:(0:Int)≤k:=by omega
   have d2:(k:Int)<ne:=by omega
   have hst:=Lib.hid (turnK_step E k (by rw [← L1.out];exact hlt))
   have SH:=Lib.hid S;clear S
   go_wp2
   go_roundw
   case rel=>exact⟨k+1,by omega,by go_num,by rw [← hst.out];exact(SH.out.junk _).setRow2 0 rfl (k*2) (by omega) _ _⟩
   case measure=>simp [intOf];omega
  ·obtain rfl:k=ne:=by omega
   have HT:Hid (turnK E k=E.map swapE):=by unfold Hid turnK;rw [List.take_of_length_le (by rw [← L1.out];omega),List.drop_of_length_le (by rw [← L1.out];omega),List.append_nil]
   have RQ:=Lib.hid (S.rd 0 rfl (by omega))
   rw [HT.out] at RQ
   have SH:=Lib.hid S;clear S
   go_wp2_with (go_at_call 175;go_must (refine(NormalG N q k c pw nw cw (E.map swapE) hs W _ RQ.out (HW.out.ext SH.out.ext) HZ.out).mono ?_;rintro e w2 ⟨v,rfl,hG,hb2⟩;have S2:=SH.out.call hb2;have z2:w.heap.size+1<wr.heap.size:=(SH.out.blk 1 rfl).lt;have HG:=Lib.hid hG;obtain⟨pe',ce',pw',cw',hs',rfl,_,_⟩:=hG;obtain⟨x0,x1,x2,f0,f1,f2⟩:=bkc0c1c2z0z1z2 (S2.blk 1 rfl);have S3:=Lib.hid S2;clear S2))
   have S4:=((S3.out.set 1 rfl 0 (.int .i64 (normN N (E.map swapE) W))).set 1 rfl 1 (.slice pe' (normE N (E.map swapE) W).length ce')).set 1 rfl 2 (.slice pw' (normW N (E.map swapE) W).length cw')
   obtain⟨b0,b1,b2⟩:=bkc0c1c2 (S4.blk 1 rfl)
   refine bodyPost_ret (v:=.tuple #[.agg #[.int .i64 (normN N (E.map swapE) W),.slice pe' (normE N (E.map swapE) W).length ce',.slice pw' (normW N (E.map swapE) W).length cw'],.int .i64 (normC N (E.map swapE) W)]) (by simp [results,Tryz.results106,go_sem,b0,b1,b2,Tryz.sizeOf102,Tryz.isAgg102]) rfl ⟨_,rfl,?_,S4.ext⟩
   have hg1:=HG.out.set z2 0 (.int .i64 (normN N (E.map swapE) W))
   exact((hg1.set z2 1 (.slice pe' (normE N (E.map swapE) W).length ce')).set z2 2 (.slice pw' (normW N (E.map swapE) W).length cw')).mono (by omega)
end
section
open Go Go.RowKit
theorem Blk.rd {W:World} {g:Nat} {t:TypeId} {cs:Array Value} (h:Blk W g t cs) {n size:Nat} {xs:List Value} (hx:cs.toList=xs) (hn:xs.length=n*size) (hs:n≤9223372036854775807):Rd W size (some ⟨g,0,none⟩) n xs:=by
 subst hx
 refine⟨hn,.inr ⟨_,_,rfl⟩,hs,fun j hj=>?_⟩
 rw [adr_some,Nat.zero_add,h.cell j]
 rw [List.getD_eq_getElem?_getD,Array.getElem?_toList,Array.getElem?_eq_getElem (by simp at hn;omega)]
 rfl
theorem GraphO.rd {w:World} {base:Nat} {v:Value} {N:Int} {E:List (Int × Int)} {W:List (List ByteArray)} (h:GraphO w base v N E W) (h1:E.length≤9223372036854775807) (h2:W.length≤9223372036854775807) (h3:∀ l∈W,l.length≤9223372036854775807):GraphR w v N E W:=by
 obtain⟨pe,ce,pw,cw,hs,rfl,h5,h6⟩:=h
 exact⟨pe,_,ce,pw,_,cw,hs,rfl,Rd.of_own h5 h1,own_cap h5,h6.rd h2 h3,own_cap h6.row⟩
end
end Go.Proofs.YtfjhjennfiihhaaGreat
