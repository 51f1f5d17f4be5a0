/- Texts of this claim, one behind the other: Rf3, MapT, Make5, Ex5, PlainP, LPTells, Pg6, Rf4, Pg7, Hy9, Rf5, PlainAsk, Dn18, Ech19, HeldIn, RngD, KpN, Jst20, Chk20, HeldR, FrmR, Run20, RunE20, PlainRm, RunG20, PlainAk, PlainNd, Nd5, Nd6, Nd7, Nd2, Nd4, PlainCl, RunCl, PlainNc, ExN, LMakes, Needs21, Nd3, Nd8, Nd9, PlainNs. -/
import Derived.Test.YtfjhjennfiihhaaGreatQNeedFitsNeedSums4
set_option maxRecDepth 100000
set_option maxHeartbeats 16000000
namespace Go.Proofs.YtfjhjennfiihhaaGreat
section
open Go Go.RowKit
theorem Put10 (p:Option Addr) (n c:Nat) (l:List (Int × Int)) (x:Int × Int) (w:World) (hl:Rd w 2 p n (encE l)) (hc:n≤c) (hn:n≤100000) :
  Calls Tryz.prog 124 #[.slice p n c,.agg #[.int .i64 x.1,.int .i64 x.2]] w fun e w'=>∃ q c',e=.returned (.slice q (putN x l).length c')∧Sep w w' [.own 105 2 q (putN x l).length c' (encE (putN x l))]:=by
 obtain⟨i0,hi0,hz0,hz1,hz2⟩:=info_parts infAh
 have S0:=Lib.hid ((Sep.start w).al #[.int .i64 x.1,.int .i64 x.2] 105 w.heap.size rfl)
 have hln:=hl.nE
 have LL:=Lib.hid hln
 have p1:=hl.ptr
 have HL:=Lib.hid hl
 have HA:=fun (b:Int × Int) W=>Ahead09 x b W
 obtain⟨x1,x2⟩:=x
 simp only at S0 HA ⊢
 clear hl hln
 go_enter Tryz.func124,Tryz.ntmps124
 go_wp2
 go_loopw [5] (fun i wr=>∃ k:Nat,k≤n∧i=.int .i64 k∧Hid (∀ i,i<k→ltN (x1,x2) (nth l i)=false)∧Sep w wr [.blk w.heap.size 105 #[.int .i64 x1,.int .i64 x2]]) (fun i _=>n - (intOf i).toNat)
 case atStart=>exact⟨0,Nat.zero_le _,rfl,fun i hi=>by omega,S0.out⟩
 case round =>
  clear S0
  obtain⟨k,hk,rfl,HK,S⟩:=hrel
  obtain⟨b0,b1,bz⟩:=bkc0c1l (S.blk 0 rfl)
  by_cases hlt:k<n
  ·have hkL:k<l.length:=by rw [← LL.out];exact hlt
   have g1:=S.ext.cell (HL.out.cE hlt)
   have g2:=S.ext.cell (HL.out.cE2 hlt)
   have d1:(0:Int)≤k:=by omega
   have d2:(k:Int)<n:=by omega
   have HAT:Hid (ltN (x1,x2) (nth l k)=true→k=atN (x1,x2) l):=fun h=>atN_eq (by omega) HK.out fun _=>h
   have HAK:Hid (ltN (x1,x2) (nth l k)=false→∀ i,i<k+1→ltN (x1,x2) (nth l i)=false):=fun h i hi=>by
    by_cases e:i=k
    ·subst e;exact h
    ·exact HK.out i (by omega)
   have HAx:=Lib.hid (fun y:ExtOf wr=>HA (nth l k) y.val)
   generalize nth l k=y at *
   cases hy:ltN (x1,x2) y with
   | false =>
    rw [hy] at HAx
    have HK2:=Lib.hid (HAK.out hy)
    clear hy HAT HAK HK
    have SH:=Lib.hid S;clear S
    go_wp2
    have u0:=fun x:ExtOf wr=>x.ext.cell b0
    have u1:=fun x:ExtOf wr=>x.ext.cell b1
    have u2:=fun x:ExtOf wr=>x.ext.cell g1
    have u3:=fun x:ExtOf wr=>x.ext.cell g2
    refine wp_region_ext (by kernel_rfl) (by kernel_rfl) ?_
    repeat (go_big_quiet_step (((go_at_call 196;exact Calls.ext_of (HAx.out _)))))
    refine wpQuiet_nil ?_
    rintro w9 ⟨⟨_,hb9⟩,rfl⟩
    go_wp2
    go_roundw
    case rel=>exact⟨k+1,by omega,by go_num,HK2.out,SH.out.call hb9⟩
    case measure=>simp [intOf];omega
   | true =>
    rw [hy] at HAx
    have HE:=Lib.hid (HAT.out hy)
    clear hy HAT HAK HK
    have SH:=Lib.hid S;clear S
    go_wp2
    have u0:=fun x:ExtOf wr=>x.ext.cell b0
    have u1:=fun x:ExtOf wr=>x.ext.cell b1
    have u2:=fun x:ExtOf wr=>x.ext.cell g1
    have u3:=fun x:ExtOf wr=>x.ext.cell g2
    refine wp_region_ext (by kernel_rfl) (by kernel_rfl) ?_
    repeat (go_big_quiet_step (((go_at_call 196;exact Calls.ext_of (HAx.out _)))))
    refine wpQuiet_nil ?_
    rintro w9 ⟨⟨_,hb9⟩,rfl⟩
    have S9:=Lib.hid (SH.out.call hb9)
    have HF:Hid (putN (x1,x2) l=l.take k ++ ([(x1,x2)] ++ l.drop k)):=by unfold Hid putN;rw [← HE.out]
    have hkn:(k:Int)≤n:=by omega
    clear hb9 g1 g2 HAx u0 u1 u2 u3 b0 b1 bz SH
    obtain⟨b0,b1,bz⟩:=bkc0c1l (S9.out.blk 0 rfl)
    go_wp2_with (first | (at_builtin;have _t:=T2;go_must (refine wpList_append_sep rfl _ _ _ rfl 105 i0 _ 2 16 Tryz.underlying32 hi0 hz0 hz1 hz2 rfl (by omega) T2.out 0 q7 (k+1) c7 _ rfl rfl _ _ _ (encE (l.drop k)) rfl (by have hz:=rd_cutE (d:=k) (HL.out.ext T2.out.ext) (by omega) hc;simpa [cutp,Addr.add] using hz) (one_encE _) (by omega) (by omega) ?_;intro q8 c8 w8 S' hsz;have T3:=Lib.hid S';clear S' hsz)) | (at_builtin;have _t:=T1;go_must (refine wpList_append_sep rfl _ _ _ rfl 105 i0 _ 2 16 Tryz.underlying32 hi0 hz0 hz1 hz2 rfl (by omega) (T1.out.junk _) 0 q6 k c6 _ rfl rfl _ 1 1 _ rfl (Rd.one2 _ _ _ _) (one_encE _) (by omega) (by omega) ?_;intro q7 c7 w7 S' hsz;have T2:=Lib.hid S';clear S' hsz)) | (at_builtin;have _t:=S9;go_must (refine wpList_append_sep rfl _ _ _ rfl 105 i0 _ 2 16 Tryz.underlying32 hi0 hz0 hz1 hz2 rfl (by omega) (S9.out.nilrow 105 2) 0 none 0 0 [] rfl rfl p k c _ rfl (rd_takeE (HL.out.ext S9.out.ext) (by omega)) (one_encE _) (by omega) (by omega) ?_;intro q6 c6 w6 S' hsz;(try simp only [Nat.zero_add,List.nil_append] at S');have T1:=Lib.hid S';obtain⟨e0,e1,ez⟩:=bkc0c1l (S'.blk 1 rfl);clear S' hsz)))
    go_ret
    have hL2:k+1+(n - k)=(putN (x1,x2) l).length:=by(rw [putN_len,← LL.out];omega)
    have T:Sep w w8 [.own 105 2 q8 (k+1+(n - k)) c8 (encE (l.take k) ++ encE [(x1,x2)] ++ encE (l.drop k))]:=T3.out.pick [0] (by decide) rfl
    rw [List.append_assoc,← encE_append,← encE_append,hL2,← HF.out] at T
    exact⟨q8,c8,ret_slc hL2,T⟩
  ·have hkn':k=n:=by omega
   have HE:Hid (k=atN (x1,x2) l):=atN_eq (by have:=LL.out;omega) HK.out fun h=>absurd h (by have:=LL.out;omega)
   have HF:Hid (putN (x1,x2) l=l.take k ++ ([(x1,x2)] ++ l.drop k)):=by unfold Hid putN;rw [← HE.out]
   have d2:decide ((k:Int)<n)=false:=by simp;omega
   have d2n:decide (k<n)=false:=by simp;omega
   have d1:(0:Int)≤k:=by omega
   have hkn:(k:Int)≤n:=by omega
   clear hkn' hlt HK
   have HAx:=Lib.hid (fun y:ExtOf wr=>HA (0,0) y.val)
   have SH:=Lib.hid S;clear S
   go_wp2
   have u0:=fun x:ExtOf wr=>x.ext.cell b0
   have u1:=fun x:ExtOf wr=>x.ext.cell b1
   refine wp_region_ext (by kernel_rfl) (by kernel_rfl) ?_
   repeat (go_big_quiet_step (((go_at_call 196;exact Calls.ext_of (HAx.out _)))))
   refine wpQuiet_nil ?_
   rintro w9 ⟨⟨_,hb9⟩,rfl⟩
   have S9:=Lib.hid (SH.out.call hb9)
   clear hb9 HAx u0 u1 b0 b1 bz SH
   obtain⟨b0,b1,bz⟩:=bkc0c1l (S9.out.blk 0 rfl)
   go_wp2_with (first | (at_builtin;have _t:=T2;go_must (refine wpList_append_sep rfl _ _ _ rfl 105 i0 _ 2 16 Tryz.underlying32 hi0 hz0 hz1 hz2 rfl (by omega) T2.out 0 q7 (k+1) c7 _ rfl rfl _ _ _ (encE (l.drop k)) rfl (by have hz:=rd_cutE (d:=k) (HL.out.ext T2.out.ext) (by omega) hc;simpa [cutp,Addr.add] using hz) (one_encE _) (by omega) (by omega) ?_;intro q8 c8 w8 S' hsz;have T3:=Lib.hid S';clear S' hsz)) | (at_builtin;have _t:=T1;go_must (refine wpList_append_sep rfl _ _ _ rfl 105 i0 _ 2 16 Tryz.underlying32 hi0 hz0 hz1 hz2 rfl (by omega) (T1.out.junk _) 0 q6 k c6 _ rfl rfl _ 1 1 _ rfl (Rd.one2 _ _ _ _) (one_encE _) (by omega) (by omega) ?_;intro q7 c7 w7 S' hsz;have T2:=Lib.hid S';clear S' hsz)) | (at_builtin;have _t:=S9;go_must (refine wpList_append_sep rfl _ _ _ rfl 105 i0 _ 2 16 Tryz.underlying32 hi0 hz0 hz1 hz2 rfl (by omega) (S9.out.nilrow 105 2) 0 none 0 0 [] rfl rfl p k c _ rfl (rd_takeE (HL.out.ext S9.out.ext) (by omega)) (one_encE _) (by omega) (by omega) ?_;intro q6 c6 w6 S' hsz;(try simp only [Nat.zero_add,List.nil_append] at S');have T1:=Lib.hid S';obtain⟨e0,e1,ez⟩:=bkc0c1l (S'.blk 1 rfl);clear S' hsz)))
   go_ret
   have hL2:k+1+(n - k)=(putN (x1,x2) l).length:=by(rw [putN_len,← LL.out];omega)
   have T:Sep w w8 [.own 105 2 q8 (k+1+(n - k)) c8 (encE (l.take k) ++ encE [(x1,x2)] ++ encE (l.drop k))]:=T3.out.pick [0] (by decide) rfl
   rw [List.append_assoc,← encE_append,← encE_append,hL2,← HF.out] at T
   exact⟨q8,c8,ret_slc hL2,T⟩
theorem First10r (p:Option Addr) (n c:Nat) (l:List (Int × Int)) (k:Int) (w:World) (hl:Rd w 2 p n (encE l)) (hn:n≤10000) :
  Calls Tryz.prog 73 #[.slice p n c,.int .i64 k] w fun e w'=>∃ q c',e=.returned (.slice q (firstN l k).length c')∧Sep w w' [.own 105 2 q (firstN l k).length c' (encE (firstN l k))]:=by
 have p1:=hl.ptr
 have n1:=hl.small
 have L1:=Lib.hid hl.nE
 have HL:=Lib.hid hl
 have S0:=Lib.hid ((Sep.start w).nilrow 105 2)
 obtain⟨F,hF⟩:∃ F,firstN l k=F:=⟨_,rfl⟩
 rw [hF]
 have HF:=Lib.hid hF
 clear hl hF
 go_enter Tryz.func73,Tryz.ntmps73
 go_wp2
 go_loopw [5,6] (fun v i wr=>∃ (j:Nat) (q:Option Addr) (d:Nat),j≤n∧i=.int .i64 j∧v=.slice q j d∧Sep w wr [.own 105 2 q j d (encE (sortN (l.take j)))]) (fun _ i _=>n - (intOf i).toNat)
 case atStart=>exact⟨0,none,0,Nat.zero_le _,rfl,rfl,S0.out⟩
 case round =>
  clear S0
  obtain⟨j,q,d,hj,rfl,rfl,S⟩:=hrel
  by_cases hlt:j<n
  ·have g1:=S.ext.cell (HL.out.cE hlt)
   have g2:=S.ext.cell (HL.out.cE2 hlt)
   have HT:=Lib.hid (take_succ_nth l j (by rw [← L1.out];exact hlt))
   have d1:(0:Int)≤j:=by omega
   have d2:(j:Int)<n:=by omega
   have hcap:=own_cap (S.own 0 rfl)
   generalize nth l j=y at *
   have HS:=Lib.hid (sortN_snoc (l.take j) y)
   rw [← HT.out] at HS
   have HPL:Hid ((putN y (sortN (l.take j))).length=j+1):=by unfold Hid;rw [putN_len,← (S.rdx 0 rfl).nE]
   have HPU:=Lib.hid (Put10 q j d (sortN (l.take j)) y wr (S.rdx 0 rfl) hcap (by omega))
   rw [HPL.out,← HS.out] at HPU
   have SH:=Lib.hid S;clear S
   go_wp2_with (go_at_call 124;go_must (refine HPU.out.mono ?_;rintro e w3 ⟨q',d',rfl,Z⟩;have S3:=Lib.hid (SH.out.comp Z);clear Z))
   go_roundw
   case rel=>exact⟨j+1,q',d',by omega,by go_num,rfl,S3.out.pick [0] (by decide) rfl⟩
   case measure=>simp [intOf];omega
  ·obtain rfl:j=n:=by omega
   rw [List.take_of_length_le (by rw [← L1.out];exact Nat.le_refl _)] at S
   have hcap:=own_cap (S.own 0 rfl)
   have hSL:(sortN l).length=j:=by rw [sortN_len,← L1.out]
   have S2:=Lib.hid S
   clear S
   by_cases h1:k<1
   ·have HN:Hid (F=[]):=by unfold Hid;rw [← HF.out];unfold firstN;rw [if_pos h1]
    have T:Sep w wr [.own 105 2 none F.length 0 (encE F)]:=by
     rw [HN.out]
     exact(S2.out.nilrow 105 2).pick [0] (by decide) rfl
    have HT:=Lib.hid T
    clear T hSL
    go_wp2
    go_ret
    exact⟨none,0,ret_slc (by rw [HN.out];rfl),HT.out⟩
   ·obtain⟨mo,rfl⟩:∃ mo:Nat,k=mo:=⟨k.toNat,by omega⟩
    have HFE:Hid (F=(sortN l).take mo):=by unfold Hid;rw [← HF.out];unfold firstN;rw [if_neg h1,Int.toNat_natCast]
    obtain⟨m,hm⟩:∃ m:Nat,m=min mo j:=⟨_,rfl⟩
    have hmn:min (mo:Int) (j:Int)=(m:Int):=by omega
    have HML:Hid (m=F.length):=by unfold Hid;rw [HFE.out,List.length_take,hSL];exact hm
    have e1:decide ((mo:Int)<1)=false:=by simpa using h1
    have m0:(0:Int)≤(m:Int):=by omega
    have m1:(m:Int)≤d:=by omega
    have m2:m≤d:=by omega
    have hj2:([.own 105 2 q j d (encE (sortN l))]:List Pc)[0]?=some (.own 105 2 q j d (encE ((sortN l).take mo) ++ encE ((sortN l).drop mo))):=by rw [← encE_append,List.take_append_drop];rfl
    have T:=Sep.cut S2.out 0 m hj2 (by rw [encE_len,List.length_take,hSL,hm]) (by omega)
    rw [← HFE.out] at T
    have T2:Sep w wr [.own 105 2 q m d (encE F)]:=T
    rw [HML.out] at T2
    have HT:=Lib.hid T2
    have hcp:cutp q d 0 2=q:=by
     rcases Nat.eq_zero_or_pos j with h0 | h0
     ·rcases (S2.out.own 0 rfl).2 with ⟨h2,_⟩ | ⟨g,cap,cur,h2,_⟩
      ·injection h2 with h2
       rw [h2];unfold cutp;split <;> rfl
      ·injection h2 with h2
       rw [h2];unfold cutp;split
       ·rfl
       ·simp [Addr.add]
     ·obtain⟨g,h2,_⟩:=own_block (S2.out.own 0 rfl) (by omega)
      rw [h2];unfold cutp;split
      ·rfl
      ·simp [Addr.add]
    clear T T2 hSL hj2 hm h1 hcap hj hlt
    go_wp2
    go_ret
    exact⟨q,d,ret_slc HML.out,HT.out⟩
end
section
open Go Go.RowKit Go.Maps Go.WideElems
def heldR (v:Value):Option (DataW Value × List MemPlace):=some (.held v,[])
def keyT (s:ByteArray):Lit:=.string s.data.toList
theorem keyT_inj {s t:ByteArray} (h:keyT s=keyT t):s=t:=by
 unfold keyT at h;injection h with h
 exact ByteArray.ext (Array.toList_inj.1 h)
def MapT (P:Program) (k:TypeId) (b n:Nat) (f:ByteArray→Option Value) (w:World):Prop :=
 ∃ D:DataW Value,w.ownsMap P k heldR b n D∧(∀ s,s.size≤1000000→Maps.has D (keyT s)=(f s).isSome)∧∀ s v,f s=some v→s.size≤1000000∧∀ zd,D.atKey (keyT s) zd=.held v
def upT (f:ByteArray→Option Value) (s:ByteArray) (v:Value):ByteArray→Option Value:=fun t=>if t=s then some v else f t
section
variable {P:Program} {k e:TypeId} {b n:Nat} {f:ByteArray→Option Value} {w w':World}
theorem MapT.lt (h:MapT P k b n f w):b<w.heap.size:=by obtain⟨D,h1,_⟩:=h;exact h1.lt
theorem MapT.loc (h:MapT P k b n f w) (hb:w'.heap[b]?=w.heap[b]?):MapT P k b n f w':=by
 obtain⟨D,⟨es,clock,h1,F,h2,h3⟩,hf⟩:=h
 exact⟨D,⟨es,clock,hb.trans h1,F,h2,h3⟩,hf⟩
theorem MapT.made (w:World):MapT P k w.heap.size 0 (fun _=>none) (w.alloc (.map #[] 0)) :=
 ⟨.map [],World.ownsMap_made w P k _,fun x _=>rfl,fun x v h=>by cases h⟩
def Pc.mapT (P:Program) (k:TypeId) (b n:Nat) (f:ByteArray→Option Value):Pc :=
 ⟨fun i=>i=b,fun w=>MapT P k b n f w,fun _ h i hi=>by subst hi;exact h.lt,fun _ _ h hi=>h.loc (hi b rfl)⟩
theorem keyT_of (hk:P.underlying k=some .string) {s:ByteArray} (hs:s.size≤1000000):keyOf P k (.string s)=some (keyT s):=WideMaps.keyOf_string_mk hk (by unfold maxLen;omega)
theorem isKeyT (hk:P.underlying k=some .string) {s:ByteArray} (hs:s.size≤1000000):WideAt.IsKeyLit (keyT s):=(string_keyed hk).key (keyT_of hk hs)
theorem MapT.update {t:TypeId} (h:MapT P k b n f w) (hk:P.underlying k=some .string) (ht:P.underlying t=some (.map k e)) (hn:n<140737488355328) {s:ByteArray} (hs:s.size≤1000000) (v:Value) :
  ∃ w',(Instr.mapUpdate t (.map (some b)) (.string s) v).run P w=.ok () w'∧MapT P k b (n+1) (upT f s v) w'∧w.grownBy w' (some b):=by
 obtain⟨D,h1,h2,h3⟩:=h
 obtain⟨w',hr,ho,hg⟩:=h1.update (string_keyed hk) ht (by unfold maxLen;omega) (keyT_of hk hs) (show heldR v=some (.held v,[]) from rfl)
 have hm:=h1.isMap
 refine⟨w',hr,⟨_,ho,fun y hy=>?_,fun y u hu=>?_⟩,hg⟩
 ·unfold upT
  by_cases e:y=s
  ·subst e;rw [has_put_same hm (isKeyT hk hs)];simp
  ·rw [has_put_other (fun h=>e (keyT_inj h)),if_neg e];exact h2 y hy
 ·unfold upT at hu
  by_cases e:y=s
  ·subst e;simp at hu;subst hu;exact⟨hs,fun zd=>atKey_put_same hm (isKeyT hk hs) _ _⟩
  ·rw [if_neg e] at hu
   obtain⟨g1,g2⟩:=h3 y u hu
   exact⟨g1,fun zd=>by rw [atKey_put_other (fun h=>e (keyT_inj h))];exact g2 zd⟩
theorem MapT.lookup {t:TypeId} {z:Value} (h:MapT P k b n f w) (hk:P.underlying k=some .string) (ht:P.underlying t=some (.map k e)) (hz:(zeroValue e).run P w=.ok z w) {s:ByteArray} (hs:s.size≤1000000) :
  (Instr.lookup t (.map (some b)) (.string s) false).run P w=.ok ((f s).getD z) w:=by
 obtain⟨D,h1,h2,h3⟩:=h
 obtain⟨v,ps,hr,hv⟩:=h1.lookup (string_keyed hk) ht hz (show heldR z=some (.held z,[]) from rfl) (keyT_of hk hs)
 have hat:D.atKey (keyT s) (.held z)=.held ((f s).getD z):=by
  cases hf:f s with
  | none=>exact atKey_of_not_has (by rw [h2 s hs,hf];rfl) _
  | some u=>exact(h3 s u hf).2 _
 unfold heldR at hv
 injection hv with hv
 injection hv with hv
 rw [hat] at hv
 injection hv with hv
 rw [hr,hv]
variable {w0:World} {Γ:List Pc} {ops:Array Oper} {rest:List Oper} {o:Oper} {a:Act} {Q:Exit→Act→World→Prop}
theorem Sep.mapT (S:Sep w0 w Γ) (j:Nat) (hj:Γ[j]?=some (.mapT P k b n f)):MapT P k b n f w:=S.all _ (List.mem_of_getElem? hj)
end
def apartR (r s:Hd × List Value):Prop:=∀ k,blkOf r.1.p=some k→blkOf s.1.p≠some k
def Pc.rowsD (e:TypeId) (size:Nat) (rows:List (Hd × List Value)):Pc :=
 ⟨fun k=>∃ r∈rows,blkOf r.1.p=some k,fun w=>(∀ r∈rows,w.ownsRow 0 e size (.slice r.1.p r.1.n r.1.c) r.1.n r.2)∧rows.Pairwise apartR,fun _ h _ ⟨r,hr,hk⟩=>(own_lt (h.1 r hr) hk).2,fun _ _ h hk=>⟨fun r hr=>own_loc (h.1 r hr) fun k hb=>hk k ⟨r,hr,hb⟩,h.2⟩⟩
end
section
open Go Go.RowKit
structure GS (w wr:World) (b g:Nat) (cs:Array Value) (O:List Occ) (A:List Po) (hs:List Hd) (q:Option Addr) (c:Nat) (f:ByteArray→Option Value):Prop where
 len:hs.length=A.length
 gath:Gath O A
 some_:∀ r,r<A.length→f (nth A r).1=some (nth hs r).v
 none_:∀ s,s ∉ A.map (·.1)→f s=none
 sep:Sep w wr [.rowsD 3 1 (rowsP A hs),.own 9 1 q A.length c (encS (A.map (·.1))),.mapT Tryz.prog 9 b O.length f,.blk g 102 cs]
theorem GS.new {w wr:World} {b g:Nat} {cs:Array Value} {O:List Occ} {A:List Po} {hs:List Hd} {q:Option Addr} {c:Nat} {f:ByteArray→Option Value} (G:GS w wr b g cs O A hs q c f) {s:ByteArray} (hs':s ∉ A.map (·.1)) {v:Int} {wn:World} {q1 q2:Option Addr} {c1 c2:Nat}
  (S:Sep w wn [.rowsD 3 1 ((rowsP A hs ++ [((⟨none,0,0⟩:Hd),([]:List Value))]).set A.length ((⟨q2,1,c2⟩:Hd),[Value.int .i64 v])),.own 9 1 q1 (A.length+1) c1 (encS (A.map (·.1)) ++ encS [s]),.mapT Tryz.prog 9 b (O.length+1) (upT f s (.slice q2 1 c2)),.blk g 102 cs]) :
  GS w wn b g cs (O ++ [(v,s)]) (A ++ [(s,[v])]) (hs ++ [⟨q2,1,c2⟩]) q1 c1 (upT f s (.slice q2 1 c2)):=by
 have hlen:(rowsP A hs).length=A.length:=by unfold rowsP;simp [G.len]
 have hrow:(rowsP A hs ++ [((⟨none,0,0⟩:Hd),([]:List Value))]).set A.length ((⟨q2,1,c2⟩:Hd),[Value.int .i64 v])=rowsP (A ++ [(s,[v])]) (hs ++ [⟨q2,1,c2⟩]):=by
  rw [rowsP_snoc _ _ _ _ G.len,List.set_append_right _ _ (by omega),hlen,Nat.sub_self];rfl
 refine⟨by simp [G.len],G.gath.new hs',fun r hr=>?_,fun t ht=>?_,?_⟩
 ·rw [List.length_append,List.length_singleton] at hr
  by_cases e:r<A.length
  ·rw [nth_append_left _ _ _ e,nth_append_left _ _ _ (by rw [G.len];exact e)]
   unfold upT
   rw [if_neg]
   ·exact G.some_ r e
   ·rintro he
    exact hs' (by rw [← he,nth_eq e];exact List.mem_map_of_mem (List.getElem_mem _))
  ·have e1:r=A.length:=by omega
   subst e1
   have a1:nth (A ++ [(s,[v])]) A.length=(s,[v]):=nth_append_new _ _
   have a2:nth (hs ++ [(⟨q2,1,c2⟩:Hd)]) A.length=⟨q2,1,c2⟩:=by rw [← G.len];exact nth_append_new _ _
   rw [a1,a2];unfold upT;simp [Hd.v]
 ·rw [List.map_append,List.mem_append,not_or] at ht
  unfold upT
  rw [if_neg (by simpa using ht.2)]
  exact G.none_ t ht.1
 ·rw [hrow,← encS_append] at S
  simpa using S
theorem MapT.size {P:Program} {k:TypeId} {b n:Nat} {f:ByteArray→Option Value} {w:World} (h:MapT P k b n f w) {s:ByteArray} {v:Value} (hf:f s=some v):s.size≤1000000:=by
 obtain⟨D,_,_,h3⟩:=h
 exact(h3 s v hf).1
end
section
open Go Go.RowKit
abbrev tA:ByteArray:=⟨#[97]⟩
abbrev tB:ByteArray:=⟨#[98]⟩
theorem aa:sLess tA tA=false:=sLess_irrefl _
theorem bb:sLess tB tB=false:=sLess_irrefl _
end
section
open Go Go.RowKit
theorem allS_len {L:List Po} (hok:PoOk L) (ws:List ByteArray):(allS L ws).length≤1000:=by
 rw [← allK_end (Nat.le_refl _)];exact allK_len hok ws _
end
section
open Go Go.RowKit
def allX (L:List Po) (ws:List ByteArray):List Int:=if ws.length=0 then [] else allS L ws
def codeX (ws:List ByteArray):Int:=if ws.length=0 then 1 else 0
theorem codeX_0 {ws:List ByteArray} (h:ws.length=0):codeX ws=1:=by unfold codeX;rw [if_pos h]
theorem codeX_1 {ws:List ByteArray} (h:0<ws.length):codeX ws=0:=by unfold codeX;rw [if_neg (by omega)]
theorem allX_0 (L:List Po) {ws:List ByteArray} (h:ws.length=0):allX L ws=[]:=by unfold allX;rw [if_pos h]
theorem allX_1 (L:List Po) {ws:List ByteArray} (h:0<ws.length):allX L ws=allS L ws:=by unfold allX;rw [if_neg (by omega)]
theorem allX_len {L:List Po} (hok:PoOk L) (ws:List ByteArray):(allX L ws).length≤1000:=by
 unfold allX;split
 ·simp
 ·exact allS_len hok ws
theorem AllGx (p:Option Addr) (np cp:Nat) (hs:List Hd) (L:List Po) (pr:Option Addr) (nr cr:Nat) (ws:List ByteArray) (w:World) (hL:RdP w p np hs L) (hok:PoOk L) (hR:Rd w 1 pr nr (encS ws)) (hcr:nr≤cr) (hn:nr≤100):Calls Tryz.prog 115 #[.slice p np cp,.slice pr nr cr] w fun e w'=>∃ q c,e=.returned (.tuple #[.slice q (allX L ws).length c,.int .i64 (codeX ws)])∧Sep w w' [.own 3 1 q (allX L ws).length c (encI (allX L ws))]:=by
 have l1:=hR.nS
 rcases Nat.eq_zero_or_pos nr with h0 | h0
 ·subst h0
  rw [codeX_0 l1.symm,allX_0 L l1.symm]
  exact(AllGn p np cp pr cr w).mono fun e w' ⟨h1,h2⟩=>⟨none,0,h1,((Sep.start w).call h2).nilrow _ _⟩
 ·rw [codeX_1 (by omega),allX_1 L (by omega)]
  exact AllG p np cp hs L pr nr cr ws w hL hok hR hcr h0 hn
theorem All05x (p:Option Addr) (np cp:Nat) (hs:List Hd) (L:List Po) (pr:Option Addr) (nr cr:Nat) (ws:List ByteArray) (w:World) (hL:RdP w p np hs L) (hok:PoOk L) (hR:Rd w 1 pr nr (encS ws)) (hn:nr≤100):Calls Tryz.prog 122 #[.slice p np cp,.slice pr nr cr] w fun e w'=>∃ q c,e=.returned (.tuple #[.slice q (allX L ws).length c,.int .i64 (codeX ws)])∧Sep w w' [.own 3 1 q (allX L ws).length c (encI (allX L ws))]:=by
 have l1:=hR.nS
 rcases Nat.eq_zero_or_pos nr with h0 | h0
 ·subst h0
  rw [codeX_0 l1.symm,allX_0 L l1.symm]
  exact(All05n p np cp pr cr w).mono fun e w' ⟨h1,h2⟩=>⟨none,0,h1,((Sep.start w).call h2).nilrow _ _⟩
 ·rw [codeX_1 (by omega),allX_1 L (by omega)]
  exact All05 p np cp hs L pr nr cr ws w hL hok hR h0 hn
end
section
open Go Go.RowKit
def nearS (l:List Sq) (P:List Int) (most:Int):List (Int × Int):=firstN (hitS l P) most
theorem HitsG (k f t:Int) (pw:Option Addr) (nw cw:Nat) (ws:List ByteArray) (rad most:Int) (pp:Option Addr) (np cp:Nat) (hs:List Hd) (L:List Po) (p:Option Addr) (n c:Nat) (l:List Sq) (w:World) (hL:RdP w pp np hs L) (hok:PoOk L) (hw:Rd w 1 pw nw (encS ws)) (hcw:nw≤cw) (hnw:nw≤100) (hl:Rd w 4 p n (encQ l)) (hn:n≤1000) :
  Calls Tryz.prog 155 #[.agg #[.int .i64 k,.int .i64 f,.int .i64 t,.slice pw nw cw,.int .i64 rad,.int .i64 most],.slice pp np cp,.slice p n c] w fun e w'=>∃ q c',e=.returned (.agg #[.bool (decide (0<(nearS l (allX L ws) most).length)),.int .i64 0,.slice q (nearS l (allX L ws) most).length c'])∧Sep w w' [.own 105 2 q (nearS l (allX L ws) most).length c' (encE (nearS l (allX L ws) most))]:=by
 obtain⟨i0,hi0,hz0,hz1,hz2⟩:=info_parts infAh
 have p1:=hl.ptr
 have n1:=hl.small
 have L1:=Lib.hid hl.nQ
 have LW:=hw.nS
 have S0:=Lib.hid (((Sep.start w).al #[.int .i64 k,.int .i64 f,.int .i64 t,.slice pw nw cw,.int .i64 rad,.int .i64 most] 24 w.heap.size rfl).al #[.bool false,.int .i64 0,.slice none 0 0] 34 (w.heap.size+1) (by simp))
 have HA:=Lib.hid (fun W (h:Ext w W)=>AllGx pp np cp hs L pw nw cw ws W (hL.ext h) hok (hw.ext h) hcw hnw)
 have HPL:=Lib.hid (allX_len hok ws)
 have HL:=Lib.hid hl
 by_cases h0:ws.length=0
 ·have HF:Hid (nearS l (allX L ws) most=[]):=by
   unfold Hid nearS
   rw [allX_0 L h0]
   have:hitS l []=[]:=by unfold hitS;simp
   rw [this]
   have:=(firstN_len [] most).1
   exact List.eq_nil_of_length_eq_zero (by simpa using this)
  rw [codeX_0 h0] at HA
  rw [HF.out]
  clear hl hw hL hok h0 LW HF
  generalize allX L ws=P at *
  go_enter Tryz.func155,Tryz.ntmps155
  go_wp2_with (go_at_call 115;go_must (refine(HA.out _ S0.out.ext).mono ?_;rintro e w1 ⟨q1,c1,rfl,Z⟩;have S1:=Lib.hid (S0.out.comp Z);clear Z;obtain⟨b0,b1,b2,bz,f0,f1,f2⟩:=bkc0c1c2lz0z1z2 (S1.out.blk 1 rfl)))
  have S9:=Lib.hid (((S1.out.set 1 rfl 0 (.bool false)).set 1 rfl 1 (.int .i64 0)).set 1 rfl 2 (.slice none 0 0))
  obtain⟨x0,x1,x2⟩:=bkc0c1c2 (S9.out.blk 1 rfl)
  exact bodyPost_ret (v:=.agg #[.bool false,.int .i64 0,.slice none 0 0]) (by simp [results,Tryz.results155,go_sem,x0,x1,x2,Tryz.sizeOf34,Tryz.isAgg34]) rfl ⟨none,0,rfl,(S9.out.nilrow _ _).pick [0] (by decide) rfl⟩
 ·rw [codeX_1 (by omega)] at HA
  clear hl hw hL hok h0 LW
  unfold nearS
  generalize allX L ws=P at *
  obtain⟨F,hF⟩:∃ F,firstN (hitS l P) most=F:=⟨_,rfl⟩
  rw [hF]
  have HFI:=Lib.hid hF
  clear hF
  go_enter Tryz.func155,Tryz.ntmps155
  go_wp2_with (go_at_call 115;go_must (refine(HA.out _ S0.out.ext).mono ?_;rintro e w1 ⟨q1,c1,rfl,Z⟩;have S1:=Lib.hid (S0.out.comp Z);clear Z))
  have S3:=Lib.hid (S1.out.nilrow 105 2:Sep w w1 [.own 105 2 none 0 0 [],.own 3 1 q1 P.length c1 (encI P),.blk (w.heap.size+1) 34 #[.bool false,.int .i64 0,.slice none 0 0],.blk w.heap.size 24 #[.int .i64 k,.int .i64 f,.int .i64 t,.slice pw nw cw,.int .i64 rad,.int .i64 most]])
  clear S1 S0 HA
  go_loopw [9,11,24] (fun v _ i wr=>∃ (j:Nat) (q:Option Addr) (m d:Nat),j≤n∧i=.int .i64 j∧v=.slice q m d∧m≤j∧Sep w wr [.own 105 2 q m d (encE (hitS (l.take j) P)),.own 3 1 q1 P.length c1 (encI P),.blk (w.heap.size+1) 34 #[.bool false,.int .i64 0,.slice none 0 0],.blk w.heap.size 24 #[.int .i64 k,.int .i64 f,.int .i64 t,.slice pw nw cw,.int .i64 rad,.int .i64 most]]) (fun _ _ i _=>n - (intOf i).toNat)
  case atStart=>exact⟨0,none,0,0,Nat.zero_le _,rfl,rfl,Nat.le_refl _,S3.out⟩
  case round =>
   clear S3
   obtain⟨j,q,m,d,hj,rfl,rfl,hm,S⟩:=hrel
   by_cases hlt:j<n
   ·obtain⟨g1,g2,g3,g4⟩:=(HL.out.ext S.ext).cQ hlt
    have HT:=Lib.hid (take_succ_nth l j (by rw [← L1.out];exact hlt))
    have d1:(0:Int)≤j:=by omega
    have d2:(j:Int)<n:=by omega
    have SH:=Lib.hid S;clear S
    generalize nth l j=x at *
    have HS:=Lib.hid (hitS_snoc (l.take j) P x)
    rw [← HT.out] at HS
    have SX:=Lib.hid (SH.out.al #[.int .i64 x.s,.int .i64 x.r,.int .i64 x.v,.int .i64 x.d] 146 wr.heap.size rfl)
    have HCO:=Lib.hid (ContI q1 P.length c1 P x.v _ (SX.out.rdx 2 rfl))
    have HCN:Hid (inB P x.v=P.contains x.v):=by unfold Hid;rw [Bool.eq_iff_iff,inB_iff];simp
    by_cases hr:x.r=0
    ·have e1:(x.r == 0)=true:=by simpa using hr
     rw [e1,Bool.true_and,← HCN.out] at HS
     cases hin:inB P x.v with
     | true =>
      rw [hin] at HCO HS
      have HS2:Hid (hitS (l.take (j+1)) P=hitS (l.take j) P ++ [(x.v,x.d)]):=HS.out.trans (if_pos rfl)
      clear HS hr hin HCN
      go_wp2_with (first
       | (at_builtin;go_must (refine wpList_append_sep rfl _ _ _ rfl 105 i0 _ 2 16 Tryz.underlying32 hi0 hz0 hz1 hz2 rfl (by omega) (S2.out.junk _) 1 q m d _ rfl rfl _ 1 1 _ rfl (Rd.one2 _ _ _ _) (one_encE _) (by omega) (by omega) ?_;intro q7 d7 w7 S' hsz;have S7:=Lib.hid S';clear S' hsz))
       | (go_at_call 218;go_must (refine HCO.out.mono ?_;rintro e w2 ⟨rfl,hb⟩;have S2:=Lib.hid (SX.out.call hb);obtain⟨y2,y3,yz⟩:=bkc2c3l (S2.out.blk 0 rfl);clear hb)))
      go_roundw
      case rel=>exact⟨j+1,q7,m+1,d7,by omega,by go_num,rfl,by omega,by rw [HS2.out,encE_append];exact S7.out.pick [1,2,3,4] (by decide) rfl⟩
      case measure=>simp [intOf];omega
     | false =>
      rw [hin] at HCO HS
      have HS2:Hid (hitS (l.take (j+1)) P=hitS (l.take j) P):=HS.out.trans (if_neg (by simp))
      clear HS hr hin HCN
      go_wp2_with (go_at_call 218;go_must (refine HCO.out.mono ?_;rintro e w2 ⟨rfl,hb⟩;have S2:=Lib.hid (SX.out.call hb);clear hb))
      go_roundw
      case rel=>exact⟨j+1,q,m,d,by omega,by go_num,rfl,by omega,by rw [HS2.out];exact S2.out.pick [1,2,3,4] (by decide) rfl⟩
      case measure=>simp [intOf];omega
    ·have e1:(x.r == 0)=false:=by simpa using hr
     rw [e1,Bool.false_and] at HS
     have HS2:Hid (hitS (l.take (j+1)) P=hitS (l.take j) P):=HS.out.trans (if_neg (by simp))
     clear HS hr HCN HCO
     go_wp2
     go_roundw
     case rel=>exact⟨j+1,q,m,d,by omega,by go_num,rfl,by omega,by rw [HS2.out];exact SX.out.pick [1,2,3,4] (by decide) rfl⟩
     case measure=>simp [intOf];omega
   ·obtain rfl:j=n:=by omega
    rw [List.take_of_length_le (by rw [← L1.out];exact Nat.le_refl _)] at S
    obtain⟨a5,az⟩:=bkc5l (S.blk 3 rfl)
    have HFR:=Lib.hid (First10 q m d (hitS l P) most wr (S.rdx 0 rfl) (by omega))
    rw [HFI.out] at HFR
    have SH:=Lib.hid S;clear S
    go_wp2_with (go_at_call 191;go_must (refine HFR.out.mono ?_;rintro e w3 ⟨q3,d3,rfl,Z⟩;have S4:=Lib.hid (SH.out.comp Z);clear Z;obtain⟨b0,b1,b2,bz,f0,f1,f2⟩:=bkc0c1c2lz0z1z2 (S4.out.blk 3 rfl)))
    have S9:=Lib.hid (((S4.out.set 3 rfl 0 (.bool (decide (0<F.length)))).set 3 rfl 1 (.int .i64 0)).set 3 rfl 2 (.slice q3 F.length d3))
    obtain⟨x0,x1,x2⟩:=bkc0c1c2 (S9.out.blk 3 rfl)
    exact bodyPost_ret (v:=.agg #[.bool (decide (0<F.length)),.int .i64 0,.slice q3 F.length d3]) (by simp [results,Tryz.results155,go_sem,x0,x1,x2,Tryz.sizeOf34,Tryz.isAgg34]) rfl ⟨q3,d3,rfl,S9.out.pick [0] (by decide) rfl⟩
end
section
open Go Go.RowKit
attribute [local go_sem] Oper.semAt_some
theorem Near18 (k f t:Int) (pw:Option Addr) (nw cw:Nat) (ws:List ByteArray) (rad most:Int) (pp:Option Addr) (np cp:Nat) (hs:List Hd) (L:List Po) (p:Option Addr) (n c:Nat) (l:List Sq) (w:World) (hL:RdP w pp np hs L) (hok:PoOk L) (hw:Rd w 1 pw nw (encS ws)) (hnw:nw≤100) (hl:Rd w 4 p n (encQ l)) (hn:n≤1000) :
  Calls Tryz.prog 104 #[.agg #[.int .i64 k,.int .i64 f,.int .i64 t,.slice pw nw cw,.int .i64 rad,.int .i64 most],.slice pp np cp,.slice p n c] w fun e w'=>∃ q c',e=.returned (.agg #[.bool (decide (0<(nearS l (allX L ws) most).length)),.int .i64 0,.slice q (nearS l (allX L ws) most).length c'])∧Sep w w' [.own 105 2 q (nearS l (allX L ws) most).length c' (encE (nearS l (allX L ws) most))]:=by
 obtain⟨i0,hi0,hz0,hz1,hz2⟩:=info_parts infAh
 have p1:=hl.ptr
 have n1:=hl.small
 have L1:=Lib.hid hl.nQ
 have S0:=Lib.hid (((Sep.start w).al #[.int .i64 k,.int .i64 f,.int .i64 t,.slice pw nw cw,.int .i64 rad,.int .i64 most] 24 w.heap.size rfl).al #[.bool false,.int .i64 0,.slice none 0 0] 34 (w.heap.size+1) (by simp))
 have HA:=Lib.hid (fun W (h:Ext w W)=>All05x pp np cp hs L pw nw cw ws W (hL.ext h) hok (hw.ext h) hnw)
 have HL:=Lib.hid hl
 clear hl hw hL hok
 unfold nearS
 generalize codeX ws=cx at *
 generalize allX L ws=P at *
 obtain⟨F,hF⟩:∃ F,firstN (hitS l P) most=F:=⟨_,rfl⟩
 rw [hF]
 have HFI:=Lib.hid hF
 clear hF
 go_enter Tryz.func104,Tryz.ntmps104
 go_wp2_with (go_at_call 122;go_must (refine(HA.out _ S0.out.ext).mono ?_;rintro e w1 ⟨q1,c1,rfl,Z⟩;have S1:=Lib.hid (S0.out.comp Z);clear Z))
 have S3:=Lib.hid (S1.out.nilrow 105 2:Sep w w1 [.own 105 2 none 0 0 [],.own 3 1 q1 P.length c1 (encI P),.blk (w.heap.size+1) 34 #[.bool false,.int .i64 0,.slice none 0 0],.blk w.heap.size 24 #[.int .i64 k,.int .i64 f,.int .i64 t,.slice pw nw cw,.int .i64 rad,.int .i64 most]])
 clear S1 S0 HA
 go_loopw [9,10,11] (fun v i _ wr=>∃ (j:Nat) (q:Option Addr) (m d:Nat),j≤n∧i=.int .i64 j∧v=.slice q m d∧m≤j∧Sep w wr [.own 105 2 q m d (encE (hitS (l.take j) P)),.own 3 1 q1 P.length c1 (encI P),.blk (w.heap.size+1) 34 #[.bool false,.int .i64 0,.slice none 0 0],.blk w.heap.size 24 #[.int .i64 k,.int .i64 f,.int .i64 t,.slice pw nw cw,.int .i64 rad,.int .i64 most]]) (fun _ i _ _=>n - (intOf i).toNat)
 case atStart=>exact⟨0,none,0,0,Nat.zero_le _,rfl,rfl,Nat.le_refl _,S3.out⟩
 case round =>
  clear S3
  obtain⟨j,q,m,d,hj,rfl,rfl,hm,S⟩:=hrel
  by_cases hlt:j<n
  ·obtain⟨g1,g2,g3,g4⟩:=(HL.out.ext S.ext).cQ hlt
   have hpb:=(HL.out.ext S.ext).lt (by omega)
   have HT:=Lib.hid (take_succ_nth l j (by rw [← L1.out];exact hlt))
   have HD4:Hid (∀ W,Ext w W→W.cell? (adr p (j*4+3))=some (.int .i64 (nth l j).d)):=fun W h=>((HL.out.ext h).cQ hlt).2.2.2
   have d1:(0:Int)≤j:=by omega
   have d2:(j:Int)<n:=by omega
   have SH:=Lib.hid S;clear S
   generalize nth l j=x at *
   have HS:=Lib.hid (hitS_snoc (l.take j) P x)
   rw [← HT.out] at HS
   have SX:=Lib.hid (SH.out.al #[.int .i64 x.s,.int .i64 x.r,.int .i64 x.v] 136 wr.heap.size rfl)
   have HCO:=Lib.hid (In05 q1 P.length c1 P x.v _ (SX.out.rdx 2 rfl))
   have HCN:Hid (inB P x.v=P.contains x.v):=by unfold Hid;rw [Bool.eq_iff_iff,inB_iff];simp
   by_cases hr:x.r=0
   ·have e1:(x.r == 0)=true:=by simpa using hr
    rw [e1,Bool.true_and,← HCN.out] at HS
    cases hin:inB P x.v with
    | true =>
     rw [hin] at HCO HS
     have HS2:Hid (hitS (l.take (j+1)) P=hitS (l.take j) P ++ [(x.v,x.d)]):=HS.out.trans (if_pos rfl)
     clear HS hr hin HCN
     go_wp2_with (go_at_call 166;go_must (refine HCO.out.mono ?_;rintro e w2 ⟨rfl,rfl⟩))
     obtain⟨X,hX⟩:∃ X,X=wr.alloc (.cells #[.int .i64 x.s,.int .i64 x.r,.int .i64 x.v] 136):=⟨_,rfl⟩
     rw [← hX] at SX ⊢
     clear hX g1 g2 g3 g4 HCO
     have k2:X.cell? ⟨wr.heap.size,2,none⟩=some (.int .i64 x.v):=(SX.out.blk 0 rfl).cell 2
     refine wp_region_noPanic ?_
     refine wp_region_held_drew (S:=fun w'=>w'.cell? ⟨wr.heap.size,2,none⟩=some (.int .i64 x.v)∧w'.cell? (adr p (j*4+3))=some (.int .i64 x.d)) (by kernel_rfl) ⟨k2,HD4.out _ SX.out.drew.ext⟩ (fun hHeld=>?_)
     have SD:=Lib.hid SX.out.drew
     clear SX k2
     generalize X.drew=D at SD hHeld ⊢
     refine wpAnyH_take (i:=0) (v:=.slice q m d) rfl (by kernel_rfl) (by kernel_rfl) (by kernel_rfl) (noPanic_q _ _) (Or.inl ⟨by kernel_rfl,fun W hSw=>by obtain⟨h1,h2⟩:=hSw;go_simp⟩) hHeld ?_
     refine wpAnyH_take (i:=1) (v:=.pointer (some ⟨wr.heap.size,2,none⟩)) rfl (by kernel_rfl) (by kernel_rfl) (by kernel_rfl) (noPanic_q _ _) (Or.inl ⟨by kernel_rfl,fun W hSw=>by obtain⟨h1,h2⟩:=hSw;go_simp⟩) hHeld ?_
     refine wpAnyH_take (i:=2) (v:=.int .i64 x.v) rfl (by kernel_rfl) (by kernel_rfl) (by kernel_rfl) (noPanic_q _ _) (Or.inl ⟨by kernel_rfl,fun W hSw=>by obtain⟨h1,h2⟩:=hSw;go_simp⟩) hHeld ?_
     refine wpAnyH_take (i:=3) (v:=.slice p n c) rfl (by kernel_rfl) (by kernel_rfl) (by kernel_rfl) (noPanic_q _ _) (Or.inl ⟨by kernel_rfl,fun W hSw=>by obtain⟨h1,h2⟩:=hSw;go_simp⟩) hHeld ?_
     refine wpAnyH_take (i:=4) (v:=.int .i64 (j:Int)) rfl (by kernel_rfl) (by kernel_rfl) (by kernel_rfl) (noPanic_q _ _) (Or.inl ⟨by kernel_rfl,fun W hSw=>by obtain⟨h1,h2⟩:=hSw;go_simp⟩) hHeld ?_
     refine wpAnyH_take (i:=5) (v:=.pointer (some (adr p (j*4)))) rfl (by kernel_rfl) (by kernel_rfl) (by kernel_rfl) (noPanic_q _ _) (Or.inl ⟨by kernel_rfl,fun W hSw=>by obtain⟨h1,h2⟩:=hSw;go_simp⟩) hHeld ?_
     refine wpAnyH_take (i:=6) (v:=.pointer (some (adr p (j*4+3)))) rfl (by kernel_rfl) (by kernel_rfl) (by kernel_rfl) (noPanic_q _ _) (Or.inl ⟨by kernel_rfl,fun W hSw=>by obtain⟨h1,h2⟩:=hSw;go_simp⟩) hHeld ?_
     refine wpAnyH_take (i:=7) (v:=.int .i64 x.d) rfl (by kernel_rfl) (by kernel_rfl) (by kernel_rfl) (noPanic_q _ _) (Or.inl ⟨by kernel_rfl,fun W hSw=>by obtain⟨h1,h2⟩:=hSw;go_simp⟩) hHeld ?_
     refine wpAnyH_take (i:=8) (v:=.agg #[.int .i64 x.v,.int .i64 x.d]) rfl (by kernel_rfl) (by kernel_rfl) (by kernel_rfl) (noPanic_q _ _) (Or.inl ⟨by kernel_rfl,fun W hSw=>by obtain⟨h1,h2⟩:=hSw;go_simp⟩) hHeld ?_
     have SA:=Lib.hid (SD.out.alrw #[.int .i64 x.v,.int .i64 x.d] 105 2 1 D.heap.size rfl (by decide) rfl)
     obtain⟨q7,d7,w7,hrun,S'⟩:=SA.out.appended 2 32 32 105 i0 _ 2 16 Tryz.underlying32 hi0 hz0 hz1 hz2 rfl (by omega) q m d (encE (hitS (l.take j) P)) rfl (some ⟨D.heap.size,0,none⟩) 1 1 (encE [(x.v,x.d)]) (SA.out.rdx 0 rfl) (one_encE _) (by omega) (by omega)
     have S7:=Lib.hid S'
     refine wpAnyH_ready (rs:=[9]) (by kernel_rfl) (by simp) (AllReadyH.cons rfl (fun K hK=>?_) AllReadyH.nil)
     go_simp
     have hx9:=SA.out.ext
     refine hK.out _ _ ⟨(SA.out.blk 1 rfl).cell 2,HD4.out _ hx9⟩ (fun hHeld=>?_)
     clear hK
     refine wpAnyH_ready (rs:=[10]) (by kernel_rfl) (by simp) (AllReadyH.cons rfl (fun K hK=>?_) AllReadyH.nil)
     rw [if_pos (by rfl)]
     refine operwp_append (.tmp 40) (.tmp 49) 32 (by rfl) (by rfl) (by rfl) hrun ?_
     refine hK.out _ _ ⟨(S7.out.blk 1 rfl).cell 2,HD4.out _ S7.out.ext⟩ (fun hHeld=>?_)
     clear hK
     refine wpAnyH_take (i:=11) (v:=.slice q7 (m+1) d7) rfl (by kernel_rfl) (by kernel_rfl) (by kernel_rfl) (noPanic_q _ _) (Or.inl ⟨by kernel_rfl,fun W hSw=>by obtain⟨h1,h2⟩:=hSw;go_simp⟩) hHeld ?_
     refine wpAnyH_done (by kernel_rfl) ?_ _
     refine noPanic_mk ?_
     clear hHeld hrun S' hx9
     try simp [Act.put]
     go_wp2
     go_roundw
     case rel=>exact⟨j+1,q7,m+1,d7,by omega,by go_num,rfl,by omega,by rw [HS2.out,encE_append];exact S7.out.pick [2,3,4,5] (by decide) rfl⟩
     case measure=>simp [intOf];omega
    | false =>
     rw [hin] at HCO HS
     have HS2:Hid (hitS (l.take (j+1)) P=hitS (l.take j) P):=HS.out.trans (if_neg (by simp))
     clear HS hr hin HCN
     go_wp2_with (go_at_call 166;go_must (refine HCO.out.mono ?_;rintro e w2 ⟨rfl,rfl⟩))
     go_roundw
     case rel=>exact⟨j+1,q,m,d,by omega,by go_num,rfl,by omega,by rw [HS2.out];exact SX.out.pick [1,2,3,4] (by decide) rfl⟩
     case measure=>simp [intOf];omega
   ·have e1:(x.r == 0)=false:=by simpa using hr
    rw [e1,Bool.false_and] at HS
    have HS2:Hid (hitS (l.take (j+1)) P=hitS (l.take j) P):=HS.out.trans (if_neg (by simp))
    clear HS hr HCN HCO
    go_wp2
    go_roundw
    case rel=>exact⟨j+1,q,m,d,by omega,by go_num,rfl,by omega,by rw [HS2.out];exact SX.out.pick [1,2,3,4] (by decide) rfl⟩
    case measure=>simp [intOf];omega
  ·obtain rfl:j=n:=by omega
   rw [List.take_of_length_le (by rw [← L1.out];exact Nat.le_refl _)] at S
   obtain⟨a5,az⟩:=bkc5l (S.blk 3 rfl)
   have HFR:=Lib.hid (First10r q m d (hitS l P) most wr (S.rdx 0 rfl) (by omega))
   rw [HFI.out] at HFR
   have SH:=Lib.hid S;clear S
   go_wp2_with (go_at_call 73;go_must (refine HFR.out.mono ?_;rintro e w3 ⟨q3,d3,rfl,Z⟩;have S4:=Lib.hid (SH.out.comp Z);clear Z;obtain⟨b0,b1,b2,bz,f0,f1,f2⟩:=bkc0c1c2lz0z1z2 (S4.out.blk 3 rfl)))
   have S9:=Lib.hid (((S4.out.set 3 rfl 0 (.bool (decide (0<F.length)))).set 3 rfl 1 (.int .i64 0)).set 3 rfl 2 (.slice q3 F.length d3))
   obtain⟨x0,x1,x2⟩:=bkc0c1c2 (S9.out.blk 3 rfl)
   exact bodyPost_ret (v:=.agg #[.bool (decide (0<F.length)),.int .i64 0,.slice q3 F.length d3]) (by simp [results,Tryz.results104,go_sem,x0,x1,x2,Tryz.sizeOf34,Tryz.isAgg34]) rfl ⟨q3,d3,rfl,S9.out.pick [0] (by decide) rfl⟩
end
section
open Go Go.RowKit
theorem Done3 (f t:Int) (pw:Option Addr) (nw cw:Nat) (ws:List ByteArray) (rad most:Int) (pp:Option Addr) (np cp:Nat) (hs:List Hd) (L:List Po) (p:Option Addr) (n c:Nat) (l:List Sq) (pm:Option Addr) (nm cm:Nat) (w:World) (hL:RdP w pp np hs L) (hok:PoOk L) (hw:Rd w 1 pw nw (encS ws)) (hcw:nw≤cw) (hnw:nw≤100) (hl:Rd w 4 p n (encQ l)) (hn:n≤1000) (hm:nm=0) :
  Calls Tryz.prog 95 #[.agg #[.int .i64 3,.int .i64 f,.int .i64 t,.slice pw nw cw,.int .i64 rad,.int .i64 most],.slice pp np cp,.slice p n c,.slice pm nm cm] w fun e w'=>∃ q c',e=.returned (.tuple #[.agg #[.bool (decide (0<(nearS l (allX L ws) most).length)),.int .i64 0,.slice q (nearS l (allX L ws) most).length c'],.bool true])∧Sep w w' [.own 105 2 q (nearS l (allX L ws) most).length c' (encE (nearS l (allX L ws) most))]:=by
 have S0:=Lib.hid ((((Sep.start w).al #[.int .i64 3,.int .i64 f,.int .i64 t,.slice pw nw cw,.int .i64 rad,.int .i64 most] 24 w.heap.size rfl).al #[.slice pm nm cm] 83 (w.heap.size+1) (by simp)).al #[.bool false,.int .i64 0,.slice none 0 0] 34 (w.heap.size+1+1) (by simp))
 have HH:=Lib.hid (fun W (h:Ext w W)=>HitsG 3 f t pw nw cw ws rad most pp np cp hs L p n c l W (hL.ext h) hok (hw.ext h) hcw hnw (hl.ext h) hn)
 clear hL hok hw hl
 generalize nearS l (allX L ws) most=F at *
 subst hm
 go_enter Tryz.func95,Tryz.ntmps95
 go_wp2_with (go_at_call 155;go_must (refine(HH.out _ S0.out.ext).mono ?_;rintro e w1 ⟨q,d,rfl,Z⟩;have S1:=Lib.hid (S0.out.comp Z);clear Z;obtain⟨b0,b1,b2,bz,f0,f1,f2⟩:=bkc0c1c2lz0z1z2 (S1.out.blk 1 rfl)))
 have S9:=Lib.hid (((S1.out.set 1 rfl 0 (.bool (decide (0<F.length)))).set 1 rfl 1 (.int .i64 0)).set 1 rfl 2 (.slice q F.length d))
 obtain⟨x0,x1,x2⟩:=bkc0c1c2 (S9.out.blk 1 rfl)
 exact bodyPost_ret (v:=.tuple #[.agg #[.bool (decide (0<F.length)),.int .i64 0,.slice q F.length d],.bool true]) (by simp [results,Tryz.results95,go_sem,x0,x1,x2,Tryz.sizeOf34,Tryz.isAgg34]) rfl ⟨q,d,rfl,S9.out.pick [0] (by decide) rfl⟩
theorem Done3m (f t:Int) (pw:Option Addr) (nw cw:Nat) (rad most:Int) (pp:Option Addr) (np cp:Nat) (p:Option Addr) (n c:Nat) (pm:Option Addr) (nm cm:Nat) (w:World) (hm:0<nm) :
  Calls Tryz.prog 95 #[.agg #[.int .i64 3,.int .i64 f,.int .i64 t,.slice pw nw cw,.int .i64 rad,.int .i64 most],.slice pp np cp,.slice p n c,.slice pm nm cm] w fun e w'=>e=.returned (.tuple #[.agg #[.bool false,.int .i64 0,.slice none 0 0],.bool false])∧Ext w w':=by
 have S0:=Lib.hid ((((Sep.start w).al #[.int .i64 3,.int .i64 f,.int .i64 t,.slice pw nw cw,.int .i64 rad,.int .i64 most] 24 w.heap.size rfl).al #[.slice pm nm cm] 83 (w.heap.size+1) (by simp)).al #[.bool false,.int .i64 0,.slice none 0 0] 34 (w.heap.size+1+1) (by simp))
 have e1:decide ((0:Int)<(nm:Int))=true:=by simp;omega
 go_enter Tryz.func95,Tryz.ntmps95
 go_wp2
 have S9:=Lib.hid (((S0.out.set 0 rfl 0 (.bool false)).set 0 rfl 1 (.int .i64 0)).set 0 rfl 2 (.slice none 0 0))
 exact bodyPost_ret (v:=.tuple #[.agg #[.bool false,.int .i64 0,.slice none 0 0],.bool false]) (by simp [results,Tryz.results95,go_sem,Tryz.sizeOf34,Tryz.isAgg34]) rfl ⟨rfl,S0.out.ext⟩
end
section
open Go Go.RowKit
theorem eqHit9 (a b c d:Int) (w:World):(binOp .eql 105 (.agg #[.int .i64 a,.int .i64 b]) (.agg #[.int .i64 c,.int .i64 d])).run Tryz.prog w=.ok (.bool (eqE (a,b) (c,d))) w:=by
 have u3:=Tryz.underlying3
 have a3:=Tryz.isAgg3
 have z3:=Tryz.sizeOf3
 have hS:Tryz.prog.underlying 105=some (.struct (Tryz.prog.fieldsOf 105)):=by kernel_rfl
 have hp:Tryz.prog.stoodInHeld 105=false:=by kernel_rfl
 rw [run_eql_struct,show (10000:Nat)=9999+1 from rfl,run_equalIn_agg w 9999 105 _ _ hS hp]
 simp only [Program.fieldsOf,Tryz.underlying105]
 go_simp
 by_cases h1:a=c <;> by_cases h2:b=d <;> simp [h1,h2,eqE]
theorem neqHit9 (a b c d:Int) (w:World):(binOp .neq 105 (.agg #[.int .i64 a,.int .i64 b]) (.agg #[.int .i64 c,.int .i64 d])).run Tryz.prog w=.ok (.bool (!eqE (a,b) (c,d))) w:=by
 have h:=eqHit9 a b c d w
 rw [run_eql_struct] at h
 rw [run_neq_struct]
 generalize (Op.equalIn 10000 105 (.agg #[.int .i64 a,.int .i64 b]) (.agg #[.int .i64 c,.int .i64 d])).run Tryz.prog w=r at h ⊢
 cases r with
 | ok x w1=>simp only [Result.andThen_ok,Result.ok.injEq,Value.bool.injEq] at h ⊢;rw [h.1,h.2];simp
 | halt x w1=>simp [Result.andThen] at h
theorem guardHit9 (op:BinOp) (x y:Operand) (xs ys:Array Value) (w:World):(eqGuard op 105 x y (.agg xs) (.agg ys)).run Tryz.prog w=.ok () w:=run_eqGuard_agg w op 105 x y xs ys (by kernel_rfl)
attribute [local go_sem ↓] eqHit9 neqHit9 guardHit9
end
section
open Go Go.RowKit
theorem RDone1 (f t:Int) (pw:Option Addr) (nw cw:Nat) (rad most:Int) (pl:Option Addr) (nl cl:Nat) (p:Option Addr) (n c:Nat) (l:List Sq) (pm:Option Addr) (nm cm:Nat) (M:List Sq) (w:World) (hl:Rd w 4 p n (encQ l)) (hM:Rd w 4 pm nm (encQ M)) (hb:∀ x∈l,-1000000≤x.d∧x.d≤1000000) :
  Calls Tryz.prog 56 #[.agg #[.int .i64 1,.int .i64 f,.int .i64 t,.slice pw nw cw,.int .i64 rad,.int .i64 most],.slice pl nl cl,.slice p n c,.slice pm nm cm] w (DistQ l M w):=by
 have S0:=Lib.hid (((Sep.start w).al #[.int .i64 1,.int .i64 f,.int .i64 t,.slice pw nw cw,.int .i64 rad,.int .i64 most] 24 w.heap.size rfl).al #[.bool false,.int .i64 0,.slice none 0 0] 34 (w.heap.size+1) (by simp))
 have HD:=Lib.hid (fun W (h:Ext w W)=>Dist18 p n c l pm nm cm M W (hl.ext h) (hM.ext h) hb)
 clear hl hM hb
 go_enter Tryz.func56,Tryz.ntmps56
 go_wp2_with (go_at_call 103;go_must (refine(HD.out _ S0.out.ext).mono ?_;rintro e w1 ⟨b,d,rfl,hE,hA⟩;have HA:=Lib.hid hA;have S1:=Lib.hid (S0.out.call hE);clear hE hA;obtain⟨b0,b1,b2,bz,f0,f1,f2⟩:=bkc0c1c2lz0z1z2 (S1.out.blk 0 rfl)))
 have S9:=Lib.hid (((S1.out.set 0 rfl 0 (.bool b)).set 0 rfl 1 (.int .i64 d)).set 0 rfl 2 (.slice none 0 0))
 obtain⟨x0,x1,x2⟩:=bkc0c1c2 (S9.out.blk 0 rfl)
 exact bodyPost_ret (v:=.tuple #[.agg #[.bool b,.int .i64 d,.slice none 0 0],.bool (b || !hasD M 0 || !hasD M 1)]) (by simp [results,Tryz.results56,go_sem,x0,x1,x2,Tryz.sizeOf34,Tryz.isAgg34]) rfl (distQ_mk rfl S9.out.ext HA.out)
theorem RDone2 (f t:Int) (pw:Option Addr) (nw cw:Nat) (rad most:Int) (pl:Option Addr) (nl cl:Nat) (p:Option Addr) (n c:Nat) (l:List Sq) (pm:Option Addr) (nm cm:Nat) (w:World) (hl:Rd w 4 p n (encQ l)) :
  Calls Tryz.prog 56 #[.agg #[.int .i64 2,.int .i64 f,.int .i64 t,.slice pw nw cw,.int .i64 rad,.int .i64 most],.slice pl nl cl,.slice p n c,.slice pm nm cm] w fun e w'=>e=.returned (.tuple #[.agg #[.bool (atS l t),.int .i64 0,.slice none 0 0],.bool (atS l t || decide (nm=0))])∧Ext w w':=by
 have S0:=Lib.hid (((Sep.start w).al #[.int .i64 2,.int .i64 f,.int .i64 t,.slice pw nw cw,.int .i64 rad,.int .i64 most] 24 w.heap.size rfl).al #[.bool false,.int .i64 0,.slice none 0 0] 34 (w.heap.size+1) (by simp))
 have p1:=hl.ptr
 have n1:=hl.small
 have L1:=Lib.hid hl.nQ
 have HL:=Lib.hid hl
 clear hl
 go_enter Tryz.func56,Tryz.ntmps56
 go_wp2
 go_loopw [10] (fun i wr=>∃ j:Nat,j≤n∧i=.int .i64 j∧Hid ((l.take j).any (fun x=>x.r == 0 && x.v == t)=false)∧Sep w wr [.blk (w.heap.size+1) 34 #[.bool false,.int .i64 0,.slice none 0 0],.blk w.heap.size 24 #[.int .i64 2,.int .i64 f,.int .i64 t,.slice pw nw cw,.int .i64 rad,.int .i64 most]]) (fun i _=>n - (intOf i).toNat)
 case atStart=>exact⟨0,Nat.zero_le _,rfl,rfl,S0.out⟩
 case round =>
  clear S0
  obtain⟨j,hj,rfl,HA,S⟩:=hrel
  have a2:=(S.blk 1 rfl).cell 2
  by_cases hlt:j<n
  ·obtain⟨g1,g2,g3,g4⟩:=(HL.out.ext S.ext).cQ hlt
   have hjl:j<l.length:=by rw [← L1.out];exact hlt
   have HTA:=Lib.hid (any_true_at (fun x:Sq=>x.r == 0 && x.v == t) l j hjl)
   have HST:=Lib.hid (any_step (fun x:Sq=>x.r == 0 && x.v == t) l j hjl HA.out)
   have d1:(0:Int)≤j:=by omega
   have d2:(j:Int)<n:=by omega
   have SH:=Lib.hid S;clear S
   clear hjl
   generalize nth l j=x at *
   by_cases x1:x.r=0
   ·have e1:(x.r == 0)=true:=by simpa using x1
    by_cases x2:x.v=t
    ·have e2:(x.v == t)=true:=by simpa using x2
     have HF:Hid (atS l t=true):=HTA.out (by rw [e1,e2];rfl)
     clear HTA HST x1 x2
     go_wp2
     have z2:=fun x:ExtOf wr=>x.ext.cell g2
     have z3:=fun x:ExtOf wr=>x.ext.cell g3
     have z4:=fun x:ExtOf wr=>x.ext.cell a2
     refine wp_region_ext (by kernel_rfl) (by kernel_rfl) ?_
     repeat (go_big_quiet_step ((fail)))
     refine wpQuiet_nil ?_
     rintro w9 ⟨⟨_,hb9⟩,rfl⟩
     have S1:=Lib.hid (SH.out.call hb9)
     clear z2 z3 z4
     obtain⟨b0,b1,b2,bz,f0,f1,f2⟩:=bkc0c1c2lz0z1z2 (S1.out.blk 0 rfl)
     have S9:=Lib.hid (((S1.out.set 0 rfl 0 (.bool true)).set 0 rfl 1 (.int .i64 0)).set 0 rfl 2 (.slice none 0 0))
     obtain⟨x0,x1,x2⟩:=bkc0c1c2 (S9.out.blk 0 rfl)
     go_wp2
     exact bodyPost_ret (v:=.tuple #[.agg #[.bool true,.int .i64 0,.slice none 0 0],.bool true]) (by simp [results,Tryz.results56,go_sem,x0,x1,x2,Tryz.sizeOf34,Tryz.isAgg34]) rfl ⟨by rw [HF.out];rfl,S9.out.ext⟩
    ·have e2:(x.v == t)=false:=by simpa using x2
     have HF:=Lib.hid (HST.out (by rw [e1,e2];rfl))
     clear HTA HST x1 x2
     go_wp2
     have z2:=fun x:ExtOf wr=>x.ext.cell g2
     have z3:=fun x:ExtOf wr=>x.ext.cell g3
     have z4:=fun x:ExtOf wr=>x.ext.cell a2
     refine wp_region_ext (by kernel_rfl) (by kernel_rfl) ?_
     repeat (go_big_quiet_step ((fail)))
     refine wpQuiet_nil ?_
     rintro w9 ⟨⟨_,hb9⟩,rfl⟩
     have S1:=Lib.hid (SH.out.call hb9)
     clear z2 z3 z4
     go_wp2
     go_roundw
     case rel=>exact⟨j+1,by omega,by go_num,HF.out,S1.out⟩
     case measure=>simp [intOf];omega
   ·have e1:(x.r == 0)=false:=by simpa using x1
    have HF:=Lib.hid (HST.out (by rw [e1];rfl))
    clear HTA HST x1
    go_wp2
    have z2:=fun x:ExtOf wr=>x.ext.cell g2
    refine wp_region_ext (by kernel_rfl) (by kernel_rfl) ?_
    repeat (go_big_quiet_step ((fail)))
    refine wpQuiet_nil ?_
    rintro w9 ⟨⟨_,hb9⟩,rfl⟩
    have S1:=Lib.hid (SH.out.call hb9)
    clear z2
    go_wp2
    go_roundw
    case rel=>exact⟨j+1,by omega,by go_num,HF.out,S1.out⟩
    case measure=>simp [intOf];omega
  ·have HF:Hid (atS l t=false):=any_end _ _ _ (by rw [← L1.out];exact hlt) HA.out
   have HD:Hid (((nm:Int) == 0)=decide (nm=0)):=by unfold Hid;rw [Bool.eq_iff_iff];simp
   have S1:=Lib.hid S
   clear S a2
   obtain⟨b0,b1,b2,bz,f0,f1,f2⟩:=bkc0c1c2lz0z1z2 (S1.out.blk 0 rfl)
   have S9:=Lib.hid (((S1.out.set 0 rfl 0 (.bool false)).set 0 rfl 1 (.int .i64 0)).set 0 rfl 2 (.slice none 0 0))
   obtain⟨x0,x1,x2⟩:=bkc0c1c2 (S9.out.blk 0 rfl)
   go_wp2
   exact bodyPost_ret (v:=.tuple #[.agg #[.bool false,.int .i64 0,.slice none 0 0],.bool ((nm:Int) == 0)]) (by simp [results,Tryz.results56,go_sem,x0,x1,x2,Tryz.sizeOf34,Tryz.isAgg34]) rfl ⟨by rw [HF.out,HD.out];rfl,S9.out.ext⟩
theorem RDone3 (f t:Int) (pw:Option Addr) (nw cw:Nat) (ws:List ByteArray) (rad most:Int) (pp:Option Addr) (np cp:Nat) (hs:List Hd) (L:List Po) (p:Option Addr) (n c:Nat) (l:List Sq) (pm:Option Addr) (nm cm:Nat) (w:World) (hL:RdP w pp np hs L) (hok:PoOk L) (hw:Rd w 1 pw nw (encS ws)) (hnw:nw≤100) (hl:Rd w 4 p n (encQ l)) (hn:n≤1000) (hm:nm=0) :
  Calls Tryz.prog 56 #[.agg #[.int .i64 3,.int .i64 f,.int .i64 t,.slice pw nw cw,.int .i64 rad,.int .i64 most],.slice pp np cp,.slice p n c,.slice pm nm cm] w fun e w'=>∃ q c',e=.returned (.tuple #[.agg #[.bool (decide (0<(nearS l (allX L ws) most).length)),.int .i64 0,.slice q (nearS l (allX L ws) most).length c'],.bool true])∧Sep w w' [.own 105 2 q (nearS l (allX L ws) most).length c' (encE (nearS l (allX L ws) most))]:=by
 have S0:=Lib.hid (((Sep.start w).al #[.int .i64 3,.int .i64 f,.int .i64 t,.slice pw nw cw,.int .i64 rad,.int .i64 most] 24 w.heap.size rfl).al #[.bool false,.int .i64 0,.slice none 0 0] 34 (w.heap.size+1) (by simp))
 have HH:=Lib.hid (fun W (h:Ext w W)=>Near18 3 f t pw nw cw ws rad most pp np cp hs L p n c l W (hL.ext h) hok (hw.ext h) hnw (hl.ext h) hn)
 clear hL hok hw hl
 generalize nearS l (allX L ws) most=F at *
 subst hm
 go_enter Tryz.func56,Tryz.ntmps56
 go_wp2_with (go_at_call 104;go_must (refine(HH.out _ S0.out.ext).mono ?_;rintro e w1 ⟨q,d,rfl,Z⟩;have S1:=Lib.hid (S0.out.comp Z);clear Z;obtain⟨b0,b1,b2,bz,f0,f1,f2⟩:=bkc0c1c2lz0z1z2 (S1.out.blk 1 rfl)))
 have S9:=Lib.hid (((S1.out.set 1 rfl 0 (.bool (decide (0<F.length)))).set 1 rfl 1 (.int .i64 0)).set 1 rfl 2 (.slice q F.length d))
 obtain⟨x0,x1,x2⟩:=bkc0c1c2 (S9.out.blk 1 rfl)
 exact bodyPost_ret (v:=.tuple #[.agg #[.bool (decide (0<F.length)),.int .i64 0,.slice q F.length d],.bool true]) (by simp [results,Tryz.results56,go_sem,x0,x1,x2,Tryz.sizeOf34,Tryz.isAgg34]) rfl ⟨q,d,rfl,S9.out.pick [0] (by decide) rfl⟩
theorem RDone3m (f t:Int) (pw:Option Addr) (nw cw:Nat) (rad most:Int) (pp:Option Addr) (np cp:Nat) (p:Option Addr) (n c:Nat) (pm:Option Addr) (nm cm:Nat) (w:World) (hm:0<nm) :
  Calls Tryz.prog 56 #[.agg #[.int .i64 3,.int .i64 f,.int .i64 t,.slice pw nw cw,.int .i64 rad,.int .i64 most],.slice pp np cp,.slice p n c,.slice pm nm cm] w fun e w'=>e=.returned (.tuple #[.agg #[.bool false,.int .i64 0,.slice none 0 0],.bool false])∧Ext w w':=by
 have S0:=Lib.hid (((Sep.start w).al #[.int .i64 3,.int .i64 f,.int .i64 t,.slice pw nw cw,.int .i64 rad,.int .i64 most] 24 w.heap.size rfl).al #[.bool false,.int .i64 0,.slice none 0 0] 34 (w.heap.size+1) (by simp))
 have e1:decide ((0:Int)<(nm:Int))=true:=by simp;omega
 go_enter Tryz.func56,Tryz.ntmps56
 go_wp2
 exact bodyPost_ret (v:=.tuple #[.agg #[.bool false,.int .i64 0,.slice none 0 0],.bool false]) (by simp [results,Tryz.results56,go_sem,Tryz.sizeOf34,Tryz.isAgg34]) rfl ⟨rfl,S0.out.ext⟩
end
section
open Go Go.RowKit
def metB (st:List Sq):Bool:=st.any fun x=>st.any fun y=>x.r == 0 && (y.r == 1 && x.v == y.v)
theorem meetA_met {st:List Sq} {b:Bool} {d:Int} (h:MeetA st b d):b=metB st:=by
 have hm:metB st=true↔∃ z,PairD st z:=by
  unfold metB
  rw [List.any_eq_true]
  constructor
  ·rintro⟨x,hx,h2⟩
   rw [List.any_eq_true] at h2
   obtain⟨y,hy,h3⟩:=h2
   simp only [Bool.and_eq_true,beq_iff_eq] at h3
   exact⟨x.d+y.d,x,hx,y,hy,h3.1,h3.2.1,h3.2.2,rfl⟩
  ·rintro⟨z,x,hx,y,hy,h1,h2,h3,_⟩
   refine⟨x,hx,List.any_eq_true.2 ⟨y,hy,?_⟩⟩
   simp only [Bool.and_eq_true,beq_iff_eq]
   exact⟨h1,h2,h3⟩
 cases b with
 | false =>
  cases hb:metB st with
  | false=>rfl
  | true =>
   obtain⟨z,hz⟩:=hm.1 hb
   exact absurd hz ((h.1 rfl).2 z)
 | true=>exact(hm.2 ⟨d,(h.2 rfl).1⟩).symm
def doneB (k t:Int) (p:List Sq × List Sq):Bool:=if k=1 then metB p.1 || !hasD p.2 0 || !hasD p.2 1 else if k=2 then atS p.1 t || decide (p.2.length=0) else decide (p.2.length=0)
theorem hasD_iff18 {M:List Sq} {r:Int}:hasD M r=true↔∃ x∈M,x.r=r:=by
 unfold hasD
 rw [List.any_eq_true]
 constructor
 ·rintro⟨x,h1,h2⟩;exact⟨x,h1,by simpa using h2⟩
 ·rintro⟨x,h1,h2⟩;exact⟨x,h1,by simpa using h2⟩
theorem hasD_no {M:List Sq} {r:Int}:hasD M r=false↔¬ ∃ x∈M,x.r=r:=by rw [← hasD_iff18,Bool.not_eq_true]
section
variable {k rad most:Int} {O T R V:List Int} {n s t:Nat} (hck:checkR O T R V=true) (hn:O.length=n+1) (h200:n≤200) (hk:k=1∨k=2∨k=3) (hr3:k=3→0≤rad) (hs:s<n) (ht:k=1→t<n)
include hck hn h200 hk hr3 hs ht
omit hr3 in
theorem run_done:∃ m,m<n∧doneB k t (runM (nextL k rad true O T R V) (startQ k s t 0) (m+1))=true∧∀ j,j<m→doneB k t (runM (nextL k rad true O T R V) (startQ k s t 0) (j+1))=false:=by
 obtain⟨f1,f2,f3,f4,f5⟩:=start_facts (rad:=rad) (most:=rad) hk hs ht rfl rfl
 have hl:Leads n (nextL k rad true O T R V):=next_leads hck hn
 have hno:∀ r,hasD (runM (nextL k rad true O T R V) (startQ k s t 0) (n - 1+1)).2 r=false:=fun r=>by
  rw [hasD_no]
  intro h
  have:=run_ends hl f1 f2 r _ h
  omega
 have hd:doneB k t (runM (nextL k rad true O T R V) (startQ k s t 0) (n - 1+1))=true:=by
  have he:k≠1→(runM (nextL k rad true O T R V) (startQ k s t 0) (n - 1+1)).2.length=0:=fun h=>by
   refine List.length_eq_zero_iff.2 (List.eq_nil_iff_forall_not_mem.2 fun x hx=>?_)
   exact hasD_no.1 (hno 0) ⟨x,hx,run_out hck hn f1 f2 (f5 h) _ x hx⟩
  unfold doneB
  split
  ·rw [hno 0];simp
  ·rename_i h1
   split
   ·rw [he h1];simp
   ·rw [he h1];rfl
 obtain⟨m,h1,h2,h3⟩:=least_nat (p:=fun j=>doneB k t (runM (nextL k rad true O T R V) (startQ k s t 0) (j+1))) (n - 1) hd
 exact⟨m,by omega,h2,h3⟩
end
end
section
open Go Go.RowKit
def DoneQ (b:Bool) (d:Int) (F:List (Int × Int)) (dn:Bool) (w:World) (e:Ending) (w':World):Prop:=∃ q c',e=.returned (.tuple #[.agg #[.bool b,.int .i64 d,.slice q F.length c'],.bool dn])∧Sep w w' [.own 105 2 q F.length c' (encE F)]
theorem doneQ_nil {b:Bool} {d:Int} {dn:Bool} {w w':World} {e:Ending} (h:e=.returned (.tuple #[.agg #[.bool b,.int .i64 d,.slice none 0 0],.bool dn])) (hE:Ext w w'):DoneQ b d [] dn w e w':=⟨none,0,h,((Sep.start w).call hE).nilrow _ _⟩
theorem meet_ex (l:List Sq):∃ b d,MeetA l b d:=by
 have key:∀ m:Nat,∃ b d,SeenD l (fun a c=>a*l.length+c<m∧a<l.length∧c<l.length) b d:=by
  intro m
  induction m with
  | zero=>exact⟨false,0,fun _=>⟨rfl,fun i j s h=>by omega⟩,fun h=>by cases h⟩
  | succ m ih =>
   obtain⟨b,d,h⟩:=ih
   by_cases hn:l.length=0
   ·exact⟨b,d,seen_imp h fun a c h2=>by omega⟩
   ·have hq:∀ a c,(a*l.length+c<m+1∧a<l.length∧c<l.length)→(a=m / l.length∧c=m % l.length)∨(a*l.length+c<m∧a<l.length∧c<l.length):=by
     intro a c h2
     by_cases he:a*l.length+c=m
     ·left
      subst he
      have hpos:0<l.length:=by omega
      refine⟨?_,?_⟩
      ·rw [Nat.mul_comm,Nat.mul_add_div hpos,Nat.div_eq_of_lt h2.2.2];rfl
      ·rw [Nat.mul_comm,Nat.mul_add_mod,Nat.mod_eq_of_lt h2.2.2]
     ·right;omega
    by_cases hpa:∃ s,PairAt l (m / l.length) (m % l.length) s∧m / l.length<l.length
    ·obtain⟨s,hs,hlt⟩:=hpa
     have hmod:m % l.length<l.length:=Nat.mod_lt _ (by omega)
     by_cases hd:b=true→s≤d
     ·exact⟨true,s,seen_put h hlt hmod hq hs hd⟩
     ·refine⟨b,d,seen_skip h hq fun s' hs'=>?_⟩
      have hb:b=true:=by
       cases b with
       | true=>rfl
       | false=>exact absurd (fun e=>by cases e) hd
      have h1:=hs.2.2.2
      have h2:=hs'.2.2.2
      refine⟨hb,?_⟩
      have:¬ s≤d:=fun h3=>hd fun _=>h3
      omega
    ·have hq2:∀ a c,(a*l.length+c<m+1∧a<l.length∧c<l.length)→((a*l.length+c<m∧a<l.length∧c<l.length)∨(a=m / l.length∧c=m % l.length∧a<l.length)):=fun a c h2=>by
      rcases hq a c h2 with ⟨h3,h4⟩ | h3
      ·exact .inr ⟨h3,h4,h2.2.1⟩
      ·exact .inl h3
     refine⟨b,d,⟨fun hb=>⟨(h.1 hb).1,fun a c s hp hps=>?_⟩,fun hb=>⟨(h.2 hb).1,fun a c s hp hps=>?_⟩⟩⟩
     ·rcases hq2 a c hp with h3 | ⟨rfl,rfl,h5⟩
      ·exact(h.1 hb).2 a c s h3 hps
      ·exact hpa ⟨s,hps,h5⟩
     ·rcases hq2 a c hp with h3 | ⟨rfl,rfl,h5⟩
      ·exact(h.2 hb).2 a c s h3 hps
      ·exact absurd ⟨s,hps,h5⟩ hpa
 obtain⟨b,d,h⟩:=key (l.length*l.length)
 refine⟨b,d,seen_end (seen_imp h fun a c h2=>⟨?_,h2⟩)⟩
 have h3:a*l.length+l.length≤l.length*l.length:=by
  rw [← Nat.succ_mul];exact Nat.mul_le_mul_right _ h2.1
 omega
def AnsD (k t:Int) (L:List Po) (ws:List ByteArray) (most:Int) (p:List Sq × List Sq) (b:Bool) (d:Int) (F:List (Int × Int)):Prop :=
 (k=1→MeetA p.1 b d∧F=[])∧(k=2→b=atS p.1 t∧d=0∧F=[])∧(k=3→p.2.length=0→F=nearS p.1 (allX L ws) most∧b=decide (0<F.length)∧d=0)
theorem Done_run (k f t:Int) (pw:Option Addr) (nw cw:Nat) (ws:List ByteArray) (rad most:Int) (pp:Option Addr) (np cp:Nat) (hs:List Hd) (L:List Po) (p:Option Addr) (n c:Nat) (l:List Sq) (pm:Option Addr) (nm cm:Nat) (M:List Sq) (hk:k=1∨k=2∨k=3) (ht:I64 t) (hcw:nw≤cw) (hnw:nw≤100) (hok:PoOk L) (hi:∀ x∈l,x.I) (hb:∀ x∈l,-1000000≤x.d∧x.d≤1000000) (hn:n≤1000) :
  ∃ b d F,AnsD k t L ws most (l,M) b d F∧∀ w,RdP w pp np hs L→Rd w 1 pw nw (encS ws)→Rd w 4 p n (encQ l)→Rd w 4 pm nm (encQ M) →
   Calls Tryz.prog 95 #[.agg #[.int .i64 k,.int .i64 f,.int .i64 t,.slice pw nw cw,.int .i64 rad,.int .i64 most],.slice pp np cp,.slice p n c,.slice pm nm cm] w (DoneQ b d F (doneB k t (l,M)) w)∧Calls Tryz.prog 56 #[.agg #[.int .i64 k,.int .i64 f,.int .i64 t,.slice pw nw cw,.int .i64 rad,.int .i64 most],.slice pp np cp,.slice p n c,.slice pm nm cm] w (DoneQ b d F (doneB k t (l,M)) w):=by
 have hi2:∀ x∈l,I64 x.v∧I64 x.d:=fun x hx=>⟨(hi x hx).2.2.1,(hi x hx).2.2.2⟩
 rcases hk with rfl | rfl | rfl
 ·obtain⟨b,d,hA⟩:=meet_ex l
  have hdn:doneB 1 t (l,M)=(b || !hasD M 0 || !hasD M 1):=by unfold doneB;rw [if_pos rfl,← meetA_met hA]
  refine⟨b,d,[],⟨fun _=>⟨hA,rfl⟩,fun h=>absurd h (by decide),fun h=>absurd h (by decide)⟩,fun w hL hw hl hM=>?_⟩
  rw [hdn]
  refine⟨?_,?_⟩
  ·refine(Done1 f t pw nw cw rad most pp np cp p n c l pm nm cm M w hl hM hi2 hb (by omega)).mono ?_
   rintro e w' ⟨b',d',rfl,hE,hA'⟩
   obtain⟨rfl,rfl⟩:=meetA_uniq hA' hA
   exact doneQ_nil rfl hE
  ·refine(RDone1 f t pw nw cw rad most pp np cp p n c l pm nm cm M w hl hM hb).mono ?_
   rintro e w' ⟨b',d',rfl,hE,hA'⟩
   obtain⟨rfl,rfl⟩:=meetA_uniq hA' hA
   exact doneQ_nil rfl hE
 ·refine⟨atS l t,0,[],⟨fun h=>absurd h (by decide),fun _=>⟨rfl,rfl,rfl⟩,fun h=>absurd h (by decide)⟩,fun w hL hw hl hM=>?_⟩
  have hdn:doneB 2 t (l,M)=(atS l t || decide (nm=0)):=by unfold doneB;rw [if_neg (by decide),if_pos rfl,hM.nQ]
  rw [hdn]
  refine⟨?_,?_⟩
  ·exact(Done2 f t pw nw cw rad most pp np cp p n c l pm nm cm w hl hi2 (by omega) ht).mono fun e w' ⟨h,hE⟩=>doneQ_nil h hE
  ·exact(RDone2 f t pw nw cw rad most pp np cp p n c l pm nm cm w hl).mono fun e w' ⟨h,hE⟩=>doneQ_nil h hE
 ·by_cases h0:M.length=0
  ·refine⟨decide (0<(nearS l (allX L ws) most).length),0,nearS l (allX L ws) most,⟨fun h=>absurd h (by decide),fun h=>absurd h (by decide),fun _ _=>⟨rfl,rfl,rfl⟩⟩,fun w hL hw hl hM=>?_⟩
   have hm:=hM.nQ
   have hdn:doneB 3 t (l,M)=true:=by unfold doneB;rw [if_neg (by decide),if_neg (by decide)];exact decide_eq_true h0
   rw [hdn]
   refine⟨?_,?_⟩
   ·exact(Done3 f t pw nw cw ws rad most pp np cp hs L p n c l pm nm cm w hL hok hw hcw hnw hl hn (by omega)).mono fun e w' h=>h
   ·exact(RDone3 f t pw nw cw ws rad most pp np cp hs L p n c l pm nm cm w hL hok hw hnw hl hn (by omega)).mono fun e w' h=>h
  ·refine⟨false,0,[],⟨fun h=>absurd h (by decide),fun h=>absurd h (by decide),fun _ h=>absurd h h0⟩,fun w hL hw hl hM=>?_⟩
   have hm:=hM.nQ
   have hdn:doneB 3 t (l,M)=false:=by unfold doneB;rw [if_neg (by decide),if_neg (by decide)];exact decide_eq_false h0
   rw [hdn]
   refine⟨?_,?_⟩
   ·exact(Done3m f t pw nw cw rad most pp np cp p n c pm nm cm w (by omega)).mono fun e w' ⟨h,hE⟩=>doneQ_nil h hE
   ·exact(RDone3m f t pw nw cw rad most pp np cp p n c pm nm cm w (by omega)).mono fun e w' ⟨h,hE⟩=>doneQ_nil h hE
end
section
open Go Go.RowKit
theorem cntH_le (st:List Sq) (w h:Nat):cntH st w h≤st.length:=List.length_filter_le _ _
theorem EachG (p:Option Addr) (n c:Nat) (l:List Sq) (wk:Nat) (w:World) (hl:Rd w 4 p n (encQ l)) (hm:∀ x∈l,mayB x=true) (h1:1≤wk) (h16:wk≤16) (hn:n≤100000) :
  Calls Tryz.prog 64 #[.slice p n c,.int .i64 wk] w fun e w'=>∃ q,e=.returned (.tuple #[.slice q wk wk,.int .i64 0])∧Sep w w' [.own 3 1 q wk wk (encI (eachL l wk))]:=by
 obtain⟨j0,ji0,jz0,jz1,jz2⟩:=info_parts infI
 have p1:=hl.ptr
 have n1:=hl.small
 have L1:=Lib.hid hl.nQ
 have HM:=Lib.hid hm
 have HL:=Lib.hid hl
 have HMY:=Lib.hid (fun (x:Sq) (hx:mayB x=true) W=>stMayG x W hx)
 have HH:=Lib.hid (fun (v:Int) W (a:0≤v) (b:v≤1000000)=>HomeG v wk W a b h1 h16)
 clear hl hm
 go_enter Tryz.func64,Tryz.ntmps64
 go_wp2_with (first
  | (at_make;go_must (refine wpList_make_sep rfl _ _ _ rfl 3 j0 _ 1 Tryz.underlying25 ji0 jz0 jz1 (wk:Int) wk rfl rfl rfl (by rw [jz2];omega) (by unfold maxLen;omega) (Sep.start w) ?_;intro w2 S';rw [made_encI,← eachL_nil] at S';have S2:=Lib.hid S';clear S'))
  | (go_at_call 50;go_must (refine(HH.out 0 _ (by omega) (by omega)).mono ?_;rintro e w1 ⟨rfl,rfl⟩)))
 generalize (some ⟨w.heap.size,0,none⟩:Option Addr)=q at *
 go_loopw [10,11,12,24] (fun _ _ _ i wr=>∃ (k:Nat),k≤n∧i=.int .i64 k∧Sep w wr [.own 3 1 q wk wk (encI (eachL (l.take k) wk))]) (fun _ _ _ i _=>n - (intOf i).toNat)
 case atStart=>exact⟨0,Nat.zero_le _,rfl,S2.out⟩
 case round =>
  clear S2
  obtain⟨k,hk,rfl,S⟩:=hrel
  by_cases hlt:k<n
  ·obtain⟨g1,g2,g3,g4⟩:=(HL.out.ext S.ext).cQ hlt
   have hkl:k<l.length:=by(rw [← L1.out];exact hlt)
   have hx:=HM.out (nth l k) (nth_mem hkl)
   have HT:=Lib.hid (take_succ_nth l k hkl)
   obtain⟨x,hxl⟩:∃ x,nth l k=x:=⟨_,rfl⟩
   rw [hxl] at g1 g2 g3 g4 hx HT
   obtain⟨m1,m2,m3,m4,m5,m6,m7⟩:=mayB_iff.1 hx
   have hhw:homeV x.v wk<wk:=homeV_lt (by omega)
   have HES:=Lib.hid (eachL_snoc (st:=l.take k) (x:=x) (w:=wk))
   have HHX:=Lib.hid (fun W=>HH.out x.v W m4 (by omega))
   have HC:=Lib.hid (fun W=>HMY.out x hx W)
   have HNT:=Lib.hid (eachL_nth (st:=l.take k) hhw)
   have hcn:=cntH_le (l.take k) wk (homeV x.v wk)
   rw [List.length_take] at hcn
   obtain⟨h,hhe⟩:∃ h,homeV x.v wk=h:=⟨_,rfl⟩
   rw [hhe] at HHX hhw HES HNT hcn
   obtain⟨cn,hce⟩:∃ cn,cntH (l.take k) wk h=cn:=⟨_,rfl⟩
   rw [hce] at HES HNT hcn
   have cn1:(0:Int)≤(cn:Int):=by omega
   have cn2:(cn:Int)≤100000:=by omega
   have d1:(0:Int)≤h:=by omega
   have d2:(h:Int)<wk:=by omega
   have dk1:(0:Int)≤k:=by omega
   have dk2:(k:Int)<n:=by omega
   have pq:=(S.rdx 0 rfl).ptr
   have SH:=Lib.hid S
   have HXL:=Lib.hid hxl
   clear hx hxl hkl hhe hce hcn m1 m2 m3 m4 m5 m6 m7 S
   have S1:=Lib.hid (SH.out.al #[.int .i64 x.s,.int .i64 x.r,.int .i64 x.v,.int .i64 x.d] 146 wr.heap.size rfl)
   go_wp2_with (first
    | (go_at_call 109;have _t:=S1;go_must (refine(HC.out _).mono ?_;rintro e w4 ⟨rfl,hb⟩;have S2:=Lib.hid (S1.out.call hb);have fz:=own_frozen (S2.out.own 1 rfl) (by omega) h;have k1:=(S2.out.rdx 1 rfl).cI (k:=h) (by omega);rw [HNT.out] at k1;clear hb))
    | (go_at_call 50;go_must (refine(HHX.out _).mono ?_;rintro e w3 ⟨rfl,rfl⟩)))
   have S3:=Lib.hid (S2.out.setRow 1 rfl h (by omega) (.int .i64 ((cn:Int)+1)))
   go_roundw
   case rel=>exact⟨k+1,by omega,by go_num,by rw [HT.out,HES.out,← encI_set];exact S3.out.pick [1] (by decide) rfl⟩
   case measure=>simp [intOf];omega
  ·obtain rfl:k=n:=by omega
   rw [List.take_of_length_le (by rw [← L1.out];exact Nat.le_refl _)] at S
   have S2:=Lib.hid S
   clear S
   go_wp2
   go_ret2
   exact⟨q,rfl,S2.out⟩
end
section
open Go
section
variable {F:Fence} {n:Nat} {P:Program} {ops:Array Oper} {Q:Exit→Act→World→Prop} {md:Region.Mode} {S:World→Prop}
def CalmIf (P:Program) (ops:Array Oper) (S:World→Prop) (o:Oper) (v:Value) (a:Act):Prop:=YieldsIf P ops S o v a∧∀ w,S w→o.about P w a.eval=none
theorem CalmIf.same {o:Oper} {v:Value} {a a':Act} (hy:CalmIf P ops S o v a) (he:execOp a'.eval o=execOp a.eval o)
  (hw:Region.wanted o (yielded ops a'.tmps)=Region.wanted o (yielded ops a.tmps)) (hb:∀ w,o.about P w a'.eval=o.about P w a.eval):CalmIf P ops S o v a' :=
 ⟨hy.1.of_same he hw,fun w hS=>(hb w).trans (hy.2 w hS)⟩
theorem CalmIf.step {i:Nat} {o:Oper} {v:Value} {a:Act} (hro:F.round=none) (hi:ops[i]?=some o) (hy:CalmIf P ops S o v a)
  {K:Act→World→Prop} {w:World} (hS:S w) (h:K (a.put o.dst v) w):wpOpIn F n P ops Q i K a w:=by
 have hab:∀ f,o.about P w a.eval=some f→F.fn f:=fun f hf=>nomatch (hy.2 w hS).symm.trans hf
 unfold wpOpIn
 simp only [hi]
 rcases hy.1 with ⟨hw,hv⟩ | ⟨hw,rfl⟩
 ·simp only [hw,if_true,Oper.wpIn,hro,Oper.semAt_none,hv w hS,Oper.uponIn];exact⟨hab,h⟩
 ·simp only [hw,Bool.false_eq_true,if_false];exact⟨hab,h⟩
theorem CalmIf.swap {j:Nat} {oi oj:Oper} {v:Value} (hro:F.round=none) (hj:ops[j]?=some oj) (hap:oi.apart ops oj=true)
  (hsi:∀ cs b,oi.op≠.select cs b) (hsj:∀ cs b,oj.op≠.select cs b)
  (hQ:∀ c a w,Q (.panic c) (a.put oi.dst v) w→Q (.panic c) a w) {K:Act→World→Prop} {a:Act} {w:World}
  (hy:CalmIf P ops S oi v a) (h:wpOpIn F n P ops Q j K (a.put oi.dst v) w) :
  wpOpIn F n P ops Q j (fun a' w'=>CalmIf P ops S oi v a'∧K (a'.put oi.dst v) w') a w:=by
 obtain⟨h1,h2,h3⟩:=Oper.apart_spec hap
 have hput:∀ u,CalmIf P ops S oi v (a.put oj.dst u):=fun u =>
  hy.same (execOp_put oi hsi a oj.dst u h3) (wanted_put oi a oj.dst u h3) (fun w=>about_put oi w a oj.dst u h3)
 have hcom:∀ u,(a.put oj.dst u).put oi.dst v=(a.put oi.dst v).put oj.dst u:=fun u=>(Act.put_comm a v u h2).symm
 unfold wpOpIn at *
 simp only [hj] at *
 rw [wanted_put oj a oi.dst v h1,about_put oj w a oi.dst v h1] at h
 split
 next hw =>
  simp only [hw,if_true] at h
  unfold Oper.wpIn at *
  rw [about_put oj w a oi.dst v h1,hro,Oper.semAt_none,execOp_put oj hsj a oi.dst v h1] at h
  rw [hro,Oper.semAt_none]
  obtain⟨hf,h⟩:=h
  refine⟨hf,?_⟩
  generalize (execOp a.eval oj).run P w=r at *
  cases r with
  | ok x w' =>
   cases x <;> simp only [Oper.uponIn] at h ⊢
   case value u=>exact⟨hput u,by rw [hcom];exact h⟩
   case skip=>exact⟨hput _,by rw [hcom];exact h⟩
   case defer d =>
    refine⟨?_,?_⟩
    ·exact hy.same (a':=Act.put { a with defers:=d :: a.defers } oj.dst undef)
      ((execOp_put oi hsi { a with defers:=d :: a.defers } oj.dst undef h3).trans rfl) ((wanted_put oi { a with defers:=d :: a.defers } oj.dst undef h3).trans rfl)
      (fun w=>(about_put oi w { a with defers:=d :: a.defers } oj.dst undef h3).trans rfl)
    ·rw [← Act.put_comm _ v undef h2,← Act.put_defers];exact h
   case enter f args =>
    refine⟨h.1,CallsIn.mono h.2 fun e w'' he=>?_⟩
    cases e with
    | returned u=>exact⟨hput u,by rw [hcom];exact he⟩
    | panicked c=>exact hQ _ _ _ he
    | outgrown=>exact he
   case row row args=>exact⟨h.1,RowsIn.mono h.2 fun u w'' he=>⟨hput u,by rw [hcom];exact he⟩⟩
   case round l f tmps assign body =>
    refine⟨h.1,RoundIn.mono h.2 fun e w'' he=>?_⟩
    cases e with
    | returned u=>exact⟨hput u,by rw [hcom];exact he⟩
    | panicked c=>exact hQ _ _ _ he
    | outgrown=>exact he
  | halt x w' =>
   cases x <;> simp only [Oper.uponIn] at h ⊢
   case panic u=>exact hQ _ _ _ h
 next hw =>
  simp only [hw] at h
  exact⟨h.1,hput _,by rw [hcom];exact h.2⟩
def wpAnyHI (F:Fence) (n:Nat) (P:Program) (md:Region.Mode) (ops:Array Oper) (Q:Exit→Act→World→Prop) (S:World→Prop) (y:Nat):Nat→Array Bool→Act→World→Prop
 | 0,listed,a,w=>Region.ready md ops listed=[]∧Q .normal a w
 | fuel+1,listed,a,w =>
  (Region.ready md ops listed=[]→Q .normal a w) ∧
  ∀ i∈Region.ready md ops listed,wpOpIn F n P ops Q i (fun a' w'=>(i=y→wpAnyIn F n P md ops Q fuel (listed.setIfInBounds i true) a' w')∧(i≠y→S w'∧wpAnyHI F n P md ops Q S y fuel (listed.setIfInBounds i true) a' w')) a w
theorem wpAnyIn_of_heldI {y:Nat}:∀ (fuel:Nat) (listed:Array Bool) (a:Act) (w:World),wpAnyHI F n P md ops Q S y fuel listed a w→wpAnyIn F n P md ops Q fuel listed a w
 | 0,_,_,_,h=>h
 | fuel+1,_,_,_,h=>⟨h.1,fun i hi=>wpOpIn_mono (fun a' w' h'=>(by
   by_cases e:i=y
   ·exact h'.1 e
   ·exact wpAnyIn_of_heldI fuel _ a' w' (h'.2 e).2)) (h.2 i hi)⟩
def downs (md:Region.Mode) (ops:Array Oper) (i:Nat) (D:List Nat):Bool :=
 D.all fun j=>match ops[j]? with
  | none=>false
  | some o=>o.after.any fun e=>Region.binds md e && (e.on == i || D.contains e.on)
theorem waits_not {listed:Array Bool} {j k:Nat} {oj:Oper} (hoj:ops[j]?=some oj) (hj:j∈Region.ready md ops listed) (hk:listed.getD k true=false) {e:Edge} (he:e∈oj.after) (hb:Region.binds md e=true) (hon:e.on=k):False:=by
 obtain⟨_,oj',hoj',hall⟩:=mem_ready.1 hj
 rw [hoj] at hoj'
 injection hoj' with hoj'
 subst hoj'
 have h1:=hall e he hb
 rw [hon] at h1
 rcases Nat.lt_or_ge k listed.size with h' | h'
 ·simp [h'] at hk h1;rw [hk] at h1;cases h1
 ·simp [Array.getElem?_eq_none h'] at h1
theorem wpAnyHI_first {i y:Nat} {oi:Oper} {v:Value} {D:List Nat} (hro:F.round=none) (hi:ops[i]?=some oi) (hsel:∀ (j:Nat) (o:Oper) cs b,ops[j]?=some o→o.op≠.select cs b)
  (hQ:∀ c a w,Q (.panic c) (a.put oi.dst v) w→Q (.panic c) a w) (hD:downs md ops i D=true) (hyD:y∈D) (hiy:i≠y) :
  ∀ (fuel:Nat) (listed:Array Bool) (a:Act) (w:World),
   (∀ j oj,ops[j]?=some oj→j≠i→listed.getD j true=false→(∀ e∈oj.after,Region.binds md e=true→e.on≠i)→oi.apart ops oj=true) →
   i∈Region.ready md ops listed→(∀ d∈D,listed.getD d true=false)→CalmIf P ops S oi v a→S w →
   wpAnyHI F n P md ops Q S y fuel (listed.setIfInBounds i true) (a.put oi.dst v) w→wpAnyHI F n P md ops Q S y (fuel+1) listed a w:=by
 have hDj:∀ (listed:Array Bool) (j:Nat),i∈Region.ready md ops listed→(∀ d∈D,listed.getD d true=false)→j∈Region.ready md ops listed→j ∉ D:=fun listed j hr hun hj hjD=>by
  have h0:=(mem_ready.1 hr).1
  obtain⟨_,oj,hoj,_⟩:=mem_ready.1 hj
  have h1:=List.all_eq_true.1 hD j hjD
  rw [hoj] at h1
  simp only [Array.any_eq_true',Bool.and_eq_true,Bool.or_eq_true,beq_iff_eq,List.contains_iff_mem] at h1
  obtain⟨e,he,hb,h2 | h2⟩:=h1
  ·exact waits_not hoj hj h0 he hb h2
  ·exact waits_not hoj hj (hun _ h2) he hb rfl
 intro fuel
 induction fuel with
 | zero =>
  intro listed a w _ hr hun hy hS H
  refine⟨fun h=>(by rw [h] at hr;cases hr),fun j hj=>?_⟩
  by_cases hji:j=i
  ·subst hji;exact hy.step hro hi hS ⟨fun e=>absurd e hiy,fun _=>⟨hS,H⟩⟩
  ·have:=ready_mono hj hji
   rw [H.1] at this
   cases this
 | succ fuel ih =>
  intro listed a w hfree hr hun hy hS H
  refine⟨fun h=>(by rw [h] at hr;cases hr),fun j hj=>?_⟩
  by_cases hji:j=i
  ·subst hji;exact hy.step hro hi hS ⟨fun e=>absurd e hiy,fun _=>⟨hS,H⟩⟩
  obtain⟨hjun,oj,hoj,hall⟩:=mem_ready.1 hj
  have hjD:=hDj listed j hr hun hj
  have hjy:j≠y:=fun e=>hjD (e ▸ hyD)
  have hnot:∀ e∈oj.after,Region.binds md e=true→e.on≠i:=fun e he hb heq=>waits_not hoj hj (mem_ready.1 hr).1 he hb heq
  refine wpOpIn_mono (fun a' w' h3=>⟨fun e=>absurd e hjy,fun _=>⟨(h3.2.2 hjy).1,ih (listed.setIfInBounds j true) a' w' (fun k ok hk hki hun hno=>?_) (ready_mono hr (Ne.symm hji)) (fun d hd=>?_) h3.1 (h3.2.2 hjy).1 ?_⟩⟩)
   (CalmIf.swap hro hoj (hfree j oj hoj hji hjun hnot) (fun cs b=>hsel i oi cs b hi) (fun cs b=>hsel j oj cs b hoj) hQ hy (H.2 j (ready_mono hj hji)))
  ·refine hfree k ok hk hki ?_ hno
   by_cases hjk:j=k
   ·subst hjk;exact hjun
   ·rw [getD_set_ne true hjk] at hun;exact hun
  ·rw [getD_set_ne true (show ¬ j=d from fun e=>hjD (by rw [e];exact hd))];exact hun d hd
  ·rw [Array.setIfInBounds_comm _ _ hji]
   exact(h3.2.2 hjy).2
theorem wpAnyHI_take {y:Nat} (D:List Nat) {i:Nat} {oi:Oper} {v:Value} {fuel:Nat} {listed:Array Bool} {a:Act} {w:World} (hro:F.round=none) (hi:ops[i]?=some oi)
  (hs:Region.noSelect ops=true) (hf:Region.free md ops listed i=true) (hr:(Region.ready md ops listed).contains i=true)
  (hD:(downs md ops i D && (D.contains y && (i != y && D.all fun d=>listed.getD d true == false)))=true)
  (hQ:∀ c a w,Q (.panic c) (a.put oi.dst v) w→Q (.panic c) a w) (hy:CalmIf P ops S oi v a) (hS:S w)
  (h:wpAnyHI F n P md ops Q S y fuel (listed.setIfInBounds i true) (a.put oi.dst v) w):wpAnyHI F n P md ops Q S y (fuel+1) listed a w:=by
 rw [Bool.and_eq_true,Bool.and_eq_true,Bool.and_eq_true] at hD
 obtain⟨d1,d2,d3,d4⟩:=hD
 exact wpAnyHI_first hro hi (Region.noSelect_spec hs) hQ d1 (by simpa using d2) (by simpa using d3) fuel listed a w (Region.free_spec hi hf) (by simpa using hr) (fun d hd=>(by simpa using List.all_eq_true.1 d4 d hd)) hy hS h
theorem wpAnyHI_one {y:Nat} {i:Nat} {o:Oper} {fuel:Nat} {listed:Array Bool} {a:Act} {w:World} (hr:Region.ready md ops listed=[i]) (ho:ops[i]?=some o) (hy:i≠y)
  (h:∀ K':Act→World→Prop,(∀ a w,S w→wpAnyHI F n P md ops Q S y fuel (listed.setIfInBounds i true) a w→K' a w) →
   if Region.wanted o (yielded ops a.tmps)=true then Oper.wpIn F n P o a w K' Q else (∀ f,o.about P w a.eval=some f→F.fn f)∧K' (a.put o.dst undef) w):wpAnyHI F n P md ops Q S y (fuel+1) listed a w :=
 ⟨fun h0=>(by rw [hr] at h0;cases h0),fun j hj=>by
  rw [hr] at hj
  obtain rfl:j=i:=by simpa using hj
  exact wpOpIn_step ho fun K' hK'=>h K' fun a w hS hh=>hK' a w ⟨fun e=>absurd e hy,fun _=>⟨hS,hh⟩⟩⟩
theorem wpAnyHI_last {y:Nat} {o:Oper} {fuel:Nat} {listed:Array Bool} {a:Act} {w:World} (hr:Region.ready md ops listed=[y]) (ho:ops[y]?=some o)
  (h:∀ K':Act→World→Prop,(∀ a w,wpAnyIn F n P md ops Q fuel (listed.setIfInBounds y true) a w→K' a w) →
   if Region.wanted o (yielded ops a.tmps)=true then Oper.wpIn F n P o a w K' Q else (∀ f,o.about P w a.eval=some f→F.fn f)∧K' (a.put o.dst undef) w):wpAnyHI F n P md ops Q S y (fuel+1) listed a w :=
 ⟨fun h0=>(by rw [hr] at h0;cases h0),fun j hj=>by
  rw [hr] at hj
  obtain rfl:j=y:=by simpa using hj
  exact wpOpIn_step ho fun K' hK'=>h K' fun a w hh=>hK' a w ⟨fun _=>hh,fun e=>absurd rfl e⟩⟩
theorem wpIn_region_heldI (y:Nat) {id:Nat} {a:Act} {w:World} (hm:P.follows .mixedOrders=true) (hS:S w.drew)
  (h:S w.drew→wpAnyHI F n P .any ops Q S y ops.size (Array.replicate ops.size false) a w.drew):(Code.region id ops true).wpIn F n P Q a w :=
 wpIn_region_any hm (wpAnyIn_of_heldI _ _ _ _ (h hS))
end
end
section
open Go Go.RowKit
def OwnX {β:Type} (B:Nat) (X:Nat→Prop) (I:β→World→Prop):Prop :=
 ∀ s W W' row,I s W→W.grownBy W' row→(∀ r,row=some r→(B≤r∧∃ o:Obj,W.heap[r]?=some o∧o.isCells=false)∨X r)→I s W'
theorem OwnX.putObj {β:Type} {B:Nat} {X:Nat→Prop} {I:β→World→Prop} (h:OwnX B X I) {s:β} {W:World} {l:Nat} {o:Obj} (o':Obj) (hs:I s W) (hB:B≤l) (hl:W.heap[l]?=some o) (ho:o.isCells=false):I s (W.putObj l o') :=
 h s W _ (some l) hs (grownBy_putObj' W l o') (fun r e=>by cases e;exact .inl ⟨hB,o,hl,ho⟩)
theorem OwnX.turn {β:Type} {B:Nat} {X:Nat→Prop} {I:β→World→Prop} (h:OwnX B X I) {s:β} {W:World} {l:Nat} (o':Obj) (hs:I s W) (hx:X l):I s (W.putObj l o') :=
 h s W _ (some l) hs (grownBy_putObj' W l o') (fun r e=>by cases e;exact .inr hx)
theorem OwnX.alloc {β:Type} {B:Nat} {X:Nat→Prop} {I:β→World→Prop} (h:OwnX B X I) {s:β} {W:World} (o:Obj) (hs:I s W):I s (W.alloc o) :=
 h s W _ none hs (World.grownBy_alloc W o none) (fun r e=>by cases e)
def SeqD {α:Type} (F:Fence) (n:Nat) (P:Program) (g:Nat) (lb:Array Value) (encs:α→Array Value) (X:Nat→Prop) (A:World→List α→α→World→Prop) (Kp:World→World→Prop) (S Sp Q:List α→Prop) (w:World):Prop :=
 ∀ (l:Nat) (J Jx:List α→World→Prop) (W:World),Below w.heap.size w W→OwnX W.heap.size X J→OwnX W.heap.size X Jx →
  (∀ pre V,J pre V→Q pre) →
  (∀ pre x V0 V,J pre V0→Ext V0 V→A V0 pre x V→YieldAt F (n - 1) P l (encs x) V fun e V' =>
   (e=.returned (.bool true)∧J (pre ++ [x]) V'∧Kp V V')∨(e=.returned (.bool false)∧Jx (pre ++ [x]) V')) →
  J [] W→CallsIn F n P g (#[.func (.yield l) #[] #[]] ++ lb) W fun e V=>(∃ v,e=.returned v)∧((∃ xs,S xs∧J xs V)∨(∃ pre,Sp pre∧Jx pre V))
section
variable {F:Fence} {n:Nat} {P:Program} {w:World}
theorem wpIn_rangeFunc_toldD {α:Type} {g:Operand} {ps:Array Tmp} {assign body:Code} {Q:Exit→Act→World→Prop} {a:Act}
  (hro:F.round=none) (h1:1≤n) {gf:Nat} {lb:Array Value} (hg:a.eval g=.func (.func gf) #[] lb) (hF:F.fn gf) (eg:∀ args w,(callFunc gf args).run P w=.ok (.enter gf args) w)
  {encs:α→Array Value} {X:Nat→Prop} {A:World→List α→α→World→Prop} {Kp:World→World→Prop} {S Sp Q':List α→Prop} {w0:World} (hseq:SeqD F (n - 1) P gf lb encs X A Kp S Sp Q' w0)
  (hX:∀ k,X k→k<w.heap.size) (hKt:∀ {X Y Z:World},Kp X Y→Kp Y Z→Kp X Z) (hKb:∀ (W:World) (l:Nat) (o o':Obj),w.heap.size≤l→W.heap[l]?=some o→o.isCells=false→o.isWalk=false→Kp W (W.putObj l o')) (hb0:Below w0.heap.size w0 w) (hps:∀ x,(encs x).size=ps.size)
  (I:List α→World→Prop) (Ix:Code→List α→World→Prop) (hI:OwnX w.heap.size X I) (hIx:∀ c,OwnX w.heap.size X (Ix c)) (hQ:∀ pre W,I pre W→Q' pre) (h0:I [] w)
  (Ax:List α→α→Act→World→Prop) (hAx:∀ pre x a',OwnX w.heap.size X (fun (_:Unit) W=>Ax pre x a' W))
  (hassign:∀ (l:Nat) (pre:List α) (x:α) (V0 W:World) (K:Act→World→Prop),I pre V0→Ext V0 W→A V0 pre x W→(∀ a' W',KeepsFrom w.heap.size W W'→Kp W W'→I pre W'→Ax pre x a' W'→K a' W') →
   assign.wpIn (F.inRound l) (n - 1 - 1) P (Exit.then K (fun _ _ _=>False)) { tmps:=(ps.zip (encs x)).foldl (fun t (p,v)=>t.setIfInBounds p v) a.tmps,defers:=[] } W)
  (hbody:∀ (l:Nat) (pre:List α) (x:α) (a':Act) (W:World),I pre W→Ax pre x a' W→body.wpIn (F.inRound l) (n - 1 - 1) P (ownPostG w.heap.size Kp I Ix (pre ++ [x]) W) a' W)
  (hdone:∀ (D:Nat) (xs:List α) (W:World),w.heap.size≤D→S xs→I xs W→W.heap[D]?=some (.deferred (some []))→Q .normal { a with defers:={ target:=.collected D,args:=#[] } :: a.defers } W)
  (hstop:∀ (D:Nat) (c:Code) (pre:List α) (W:World),w.heap.size≤D→Sp pre→Ix c pre W→W.heap[D]?=some (.deferred (some []))→c.wpIn F n P Q { a with defers:={ target:=.collected D,args:=#[] } :: a.defers } W) :
  (Code.rangeFunc g ps assign body).wpIn F n P Q a w:=by
 refine wpIn_rangeFunc fun fn hfn=>?_
 rw [hro]
 have hB:w.heap.size≤w.heap.size+1:=Nat.le_succ _
 obtain⟨mk,hmk⟩:∃ mk:LoopState→Option Code→Loop,mk=fun st pe=>{ state:=st,pending:=pe,fn,tmps:=a.tmps,params:=ps,assign,body,defers:=w.heap.size }:=⟨_,rfl⟩
 obtain⟨V,hV⟩:∃ V,(w.alloc (.deferred (some []))).alloc (.loop (mk .ready none))=V:=⟨_,rfl⟩
 have hVl:V.heap[w.heap.size+1]?=some (.loop (mk .ready none)):=by
  have h:=World.alloc_heap_new (w.alloc (.deferred (some []))) (.loop (mk .ready none))
  rw [World.size_alloc] at h
  rw [← hV];exact h
 have hVd:V.heap[w.heap.size]?=some (.deferred (some [])):=by
  rw [← hV];exact(Below.heap_alloc _ _ _ (by simp)).trans (World.alloc_heap_new w _)
 have hVb:Below w0.heap.size w0 V:=by
  rw [← hV];exact hb0.trans ((((Below.refl _ w).alloc (Nat.le_refl _) _).alloc (by simp) _).mono hb0.size)
 have hVs:w.heap.size≤V.heap.size:=by have:=(Array.getElem?_eq_some_iff.1 hVd).1;omega
 have hV0:I [] V:=by rw [← hV];exact(hI.alloc _ (hI.alloc _ h0))
 have lV:w.heap.size+1<V.heap.size:=(Array.getElem?_eq_some_iff.1 hVl).1
 have keep:∀ {Y Z:World} {row:Option Nat} {k:Nat} {o:Obj},Y.grownBy Z row→(∀ r,row=some r→(V.heap.size≤r∧∃ o:Obj,Y.heap[r]?=some o∧o.isCells=false)∨X r)→w.heap.size≤k→k<V.heap.size→Y.heap[k]?=some o→Z.heap[k]?=some o:=fun {Y Z row k o} hg hr hk0 hk hY=>(hg.block k (Array.getElem?_eq_some_iff.1 hY).1 (fun e=>by
  rcases hr k e.symm with h | h
  ·have:=h.1;omega
  ·have:=hX k h;omega)).trans hY
 have loose:∀ {Y:World} {row:Option Nat},(∀ r,row=some r→(V.heap.size≤r∧∃ o:Obj,Y.heap[r]?=some o∧o.isCells=false)∨X r)→∀ r,row=some r→(w.heap.size≤r∧∃ o:Obj,Y.heap[r]?=some o∧o.isCells=false)∨X r:=fun hr r e=>(hr r e).imp (fun h=>⟨Nat.le_trans hVs h.1,h.2⟩) id
 refine⟨w.heap.size+1,[{ target:=.collected w.heap.size,args:=#[] }],V,{ target:=.fn (.func gf) lb,args:=#[.func (.yield (w.heap.size+1)) #[] #[]] },V,gf,#[.func (.yield (w.heap.size+1)) #[] #[]] ++ lb,V,?_,?_,?_,?_,fun _=>h1,?_⟩
 ·rw [← hV,hmk];exact run_enterLoop_outer _ _ _ _ _
 ·simp only [resolve,hg];simp [go_sem]
 ·intro f' hf';simp [Target.leads] at hf';subst hf';exact hF
 ·simp [invoke,go_sem,eg]
 refine(hseq (w.heap.size+1)
  (fun pre W=>I pre W∧W.heap[w.heap.size+1]?=some (.loop (mk .ready none))∧W.heap[w.heap.size]?=some (.deferred (some [])))
  (fun pre W=>∃ c,Ix c pre W∧W.heap[w.heap.size+1]?=some (.loop (mk .done (some c)))∧W.heap[w.heap.size]?=some (.deferred (some []))) V hVb
  (fun s Y Z row h hg hr=>⟨hI s Y Z row h.1 hg (loose hr),keep hg hr (by omega) lV h.2.1,keep hg hr (Nat.le_refl _) (by omega) h.2.2⟩)
  (fun s Y Z row h hg hr=>h.elim fun c h=>⟨c,hIx c s Y Z row h.1 hg (loose hr),keep hg hr (by omega) lV h.2.1,keep hg hr (Nat.le_refl _) (by omega) h.2.2⟩)
  (fun pre W h=>hQ pre W h.1) ?_ ⟨hV0,hVl,hVd⟩).mono ?_
 ·rintro pre x V0 W ⟨hi0,hl0,hk0⟩ hE0 hax
  have hl:W.heap[w.heap.size+1]?=some (.loop (mk .ready none)):=(hE0.block _ (Array.getElem?_eq_some_iff.1 hl0).1).trans hl0
  have hk:W.heap[w.heap.size]?=some (.deferred (some [])):=(hE0.block _ (Array.getElem?_eq_some_iff.1 hk0).1).trans hk0
  have hlt:w.heap.size+1<W.heap.size:=(Array.getElem?_eq_some_iff.1 hl).1
  have hy:=run_yield (P:=P) (args:=encs x) hl (by rw [hmk];exact hps x)
  rw [hmk] at hy
  refine⟨fn,_,assign,body,hy,roundIn_of_wpIn hfn (hassign _ pre x V0 W _ hi0 hE0 hax fun a' W1 hK1 hp1 hi1 hax1=>?_)⟩
  have hl1:W1.heap[w.heap.size+1]?=some (.loop (mk .ready none)):=hK1.same _ _ hB hl rfl
  have hk1:W1.heap[w.heap.size]?=some (.deferred (some [])):=hK1.same _ _ (Nat.le_refl _) hk rfl
  have hlt1:w.heap.size+1<W1.heap.size:=(Array.getElem?_eq_some_iff.1 hl1).1
  refine⟨_,run_beginRound hl1 (by rw [hmk]),?_⟩
  have l2:(W1.putObj (w.heap.size+1) (.loop { mk .ready none with state:=.busy })).heap[w.heap.size+1]?=some (.loop { mk .ready none with state:=.busy }):=World.putObj_heap_same hlt1
  have k2:(W1.putObj (w.heap.size+1) (.loop { mk .ready none with state:=.busy })).heap[w.heap.size]?=some (.deferred (some [])):=(World.putObj_heap_other (by omega)).trans hk1
  have p2:Kp W (W1.putObj (w.heap.size+1) (.loop { mk .ready none with state:=.busy })):=hKt hp1 (hKb _ _ _ _ hB hl1 rfl rfl)
  refine wpIn_mono (hbody _ pre x a' _ (hI.putObj _ hi1 hB hl1 rfl) ((hAx pre x a').putObj (s:=()) _ hax1 hB hl1 rfl)) ?_
  have fin:∀ (jump:Option Code) (Y:World),KeepsFrom w.heap.size (W1.putObj (w.heap.size+1) (.loop { mk .ready none with state:=.busy })) Y →
    (Instr.endRound (w.heap.size+1) jump).run P Y=.ok (.bool jump.isNone) (Y.putObj (w.heap.size+1) (.loop (mk (if jump.isNone then .ready else .done) jump))) ∧
    Y.heap[w.heap.size+1]?=some (.loop { mk .ready none with state:=.busy }) ∧
    (Y.putObj (w.heap.size+1) (.loop (mk (if jump.isNone then .ready else .done) jump))).heap[w.heap.size+1]?=some (.loop (mk (if jump.isNone then .ready else .done) jump)) ∧
    (Y.putObj (w.heap.size+1) (.loop (mk (if jump.isNone then .ready else .done) jump))).heap[w.heap.size]?=some (.deferred (some [])):=fun jump Y hY=>by
   have l3:=hY.same _ _ hB l2 rfl
   have hr:=run_endRound (P:=P) jump l3
   rw [hmk] at hr l3 ⊢
   exact⟨hr,l3,World.putObj_heap_same (Array.getElem?_eq_some_iff.1 l3).1,(World.putObj_heap_other (by omega)).trans (hY.same _ _ (Nat.le_refl _) k2 rfl)⟩
  rintro e a3 Y hp
  cases e with
  | normal =>
   obtain⟨hY,hkp,hi3⟩:=hp
   obtain⟨r1,r2,r3,r4⟩:=fin none Y hY
   exact⟨_,_,r1,.inl ⟨rfl,⟨hI.putObj _ hi3 hB r2 rfl,r3,r4⟩,hKt (hKt p2 hkp) (hKb _ _ _ _ hB r2 rfl rfl)⟩⟩
  | ret =>
   obtain⟨r1,r2,r3,r4⟩:=fin (some .ret) Y hp.1
   exact⟨_,_,r1,.inr ⟨rfl,.ret,(hIx _).putObj _ hp.2 hB r2 rfl,r3,r4⟩⟩
  | exit id =>
   obtain⟨r1,r2,r3,r4⟩:=fin (some (.exit id)) Y hp.1
   exact⟨_,_,r1,.inr ⟨rfl,.exit id,(hIx _).putObj _ hp.2 hB r2 rfl,r3,r4⟩⟩
  | goto t =>
   obtain⟨r1,r2,r3,r4⟩:=fin (some (.goto t)) Y hp.1
   exact⟨_,_,r1,.inr ⟨rfl,.goto t,(hIx _).putObj _ hp.2 hB r2 rfl,r3,r4⟩⟩
  | panic ch=>exact hp.elim
  | outgrown=>exact hp.elim
 ·rintro e Y ⟨⟨v,rfl⟩,(⟨xs,hS,hi,hl,hk⟩ | ⟨pre,hSp,c,hi,hl,hk⟩)⟩
  ·have hr:=run_endLoop (P:=P) hl (by rw [hmk];simp)
   rw [hmk] at hr
   exact⟨none,_,hr,hdone _ xs _ (Nat.le_refl _) hS (hI.putObj _ hi hB hl (by rw [hmk];rfl)) ((World.putObj_heap_other (by omega)).trans hk)⟩
  ·have hr:=run_endLoop (P:=P) hl (by rw [hmk];simp)
   rw [hmk] at hr
   exact⟨some c,_,hr,hstop _ c pre _ (Nat.le_refl _) hSp ((hIx c).putObj _ hi hB hl (by rw [hmk];rfl)) ((World.putObj_heap_other (by omega)).trans hk)⟩
end
end
section
open Go Go.RowKit
structure KpN (Bd:Nat→Prop) (C:Nat) (V V':World):Prop where
 os:V'.os=V.os
 tape:V'.tape=V.tape
 output:V'.output=V.output
 size:V.heap.size≤V'.heap.size
 block:∀ k o,¬ Bd k→V.heap[k]?=some o→(k<C∨o.isCells=true)→V'.heap[k]?=some o
theorem KpN.trans {Bd:Nat→Prop} {C:Nat} {X Y Z:World} (h:KpN Bd C X Y) (g:KpN Bd C Y Z):KpN Bd C X Z :=
 ⟨g.os.trans h.os,g.tape.trans h.tape,g.output.trans h.output,Nat.le_trans h.size g.size,fun k o hk ho hc=>g.block k o hk (h.block k o hk ho hc) hc⟩
theorem KpN.of_ext {Bd:Nat→Prop} {C:Nat} {X Y:World} (h:Ext X Y):KpN Bd C X Y :=
 ⟨h.os,h.tape,h.output,h.size,fun k _ _ ho _=>(h.block k (Array.getElem?_eq_some_iff.1 ho).1).trans ho⟩
theorem KpN.putObj {Bd:Nat→Prop} {C:Nat} (W:World) (l:Nat) (o o':Obj) (hl:C≤l) (h:W.heap[l]?=some o) (hc:o.isCells=false):KpN Bd C W (W.putObj l o'):=by
 have g:=grownBy_putObj' W l o'
 refine⟨g.os,g.tape,g.output,g.size,fun k o2 _ h2 h3=>?_⟩
 by_cases e:k=l
 ·subst e
  rw [h] at h2
  cases h2
  rcases h3 with h3 | h3
  ·omega
  ·rw [hc] at h3;cases h3
 ·rw [World.putObj_heap_other (by omega)];exact h2
theorem KpN.own {Bd:Nat→Prop} {C:Nat} (W:World) (l:Nat) (o':Obj) (hl:Bd l):KpN Bd C W (W.putObj l o'):=by
 have g:=grownBy_putObj' W l o'
 refine⟨g.os,g.tape,g.output,g.size,fun k o2 hk h2 h3=>?_⟩
 have e:k≠l:=fun e=>hk (e ▸ hl)
 rw [World.putObj_heap_other (by omega)];exact h2
theorem KpN.cell {Bd:Nat→Prop} {C:Nat} (W:World) (a:Addr) (u:Value) (hl:Bd a.block):KpN Bd C W (W.setCell a u):=by
 have g:=grown_set W a u
 refine⟨g.os,g.tape,g.output,g.size,fun k o2 hk h2 h3=>?_⟩
 exact(g.block k (Array.getElem?_eq_some_iff.1 h2).1 (fun e=>hk (by injection e with e;rw [← e] at hl;exact hl))).trans h2
theorem Sep.kpN {w0 V V':World} {Γ:List Pc} {Bd:Nat→Prop} {C:Nat} (S:Sep w0 V Γ) (hΓ:∀ p∈Γ,p.cells) (hf:∀ p∈Γ,∀ k,p.foot k→¬ Bd k) (hB:∀ k,Bd k→w0.heap.size≤k) (hC:w0.heap.size≤C) (h:KpN Bd C V V'):Sep w0 V' Γ:=by
 refine⟨⟨h.os.trans S.ext.os,h.tape.trans S.ext.tape,h.output.trans S.ext.output,Nat.le_trans S.ext.size h.size,fun k hk=>?_⟩,fun p hp=>p.loc V V' (S.all p hp) fun k hk=>?_,S.new,S.apart⟩
 ·have hkV:k<V.heap.size:=Nat.lt_of_lt_of_le hk S.ext.size
  have e:=Array.getElem?_eq_getElem hkV
  rw [h.block k _ (fun hb=>by have:=hB k hb;omega) e (Or.inl (Nat.lt_of_lt_of_le hk hC)),← e]
  exact S.ext.block k hk
 ·obtain⟨o,h1,h2⟩:=hΓ p hp V (S.all p hp) k hk
  rw [h1]
  exact h.block k o (hf p hp k hk) h1 (Or.inr h2)
theorem Sep.turnX {w0 w w':World} {Γ:List Pc} {row:Option Nat} {B:Nat} {X:Nat→Prop} (S:Sep w0 w Γ) (hΓ:∀ p∈Γ,p.cells) (hX:∀ p∈Γ,∀ k,p.foot k→¬ X k) (hX0:∀ k,X k→w0.heap.size≤k) (hB:w0.heap.size≤B) (hg:w.grownBy w' row) (hr:∀ r,row=some r→(B≤r∧∃ o:Obj,w.heap[r]?=some o∧o.isCells=false)∨X r):Sep w0 w' Γ:=by
 refine⟨⟨hg.os.trans S.ext.os,hg.tape.trans S.ext.tape,hg.output.trans S.ext.output,Nat.le_trans S.ext.size hg.size,fun k hk=>(hg.block k (Nat.lt_of_lt_of_le hk S.ext.size) (fun e=>?_)).trans (S.ext.block k hk)⟩,
  fun p hp=>p.loc w w' (S.all p hp) fun k hk=>hg.block k (S.lt hp hk) (fun e=>?_),S.new,S.apart⟩
 ·rcases hr k e.symm with h | h
  ·have:=h.1;omega
  ·have:=hX0 k h;omega
 ·rcases hr k e.symm with ⟨_,o,h1,h2⟩ | h
  ·obtain⟨o',h3,h4⟩:=hΓ p hp w (S.all p hp) k hk
   rw [h1] at h3
   injection h3 with h3
   subst h3
   rw [h2] at h4;cases h4
  ·exact hX p hp k hk h
end
section
open Go Go.RowKit
attribute [local go_sem] Oper.semAt_some
structure YdT where
 yes:Bool
 d:Int
 F:List (Int × Int)
 q:Option Addr
 c:Nat
 dn:Bool
def ydE (y:YdT):Array Value:=#[.agg #[.bool y.yes,.int .i64 y.d,.slice y.q y.F.length y.c],.bool y.dn]
def ydA (k t:Int) (L:List Po) (ws:List ByteArray) (most:Int) (rn:Nat→List Sq × List Sq) (V0:World) (pre:List YdT) (y:YdT) (V:World):Prop :=
 Sep V0 V [.own 105 2 y.q y.F.length y.c (encE y.F)]∧AnsD k t L ws most (rn (pre.length+1)) y.yes y.d y.F∧y.dn=doneB k t (rn (pre.length+1))
theorem StepsG (b:Nat) (w:World):Calls Tryz.prog 52 #[.pointer (some ⟨b,0,none⟩)] w fun e w'=>e=.returned (.func (.func 93) #[] #[.pointer (some ⟨w.heap.size,0,none⟩)])∧w'=w.alloc (.cells #[.pointer (some ⟨b,0,none⟩)] 82):=by
 go_enter Tryz.func52,Tryz.ntmps52
 go_wp2
 go_ret
 exact⟨rfl,rfl⟩
theorem gst_cells {b bx:Nat} {cs cs2:Array Value} {t1 t2 e1 e2:TypeId} {q1 q2:Option Addr} {n1 c1 n2 c2:Nat} {x1 x2:List Value}:∀ p∈[Pc.blk b t1 cs,Pc.blk bx t2 cs2,Pc.own e1 4 q1 n1 c1 x1,Pc.own e2 4 q2 n2 c2 x2],p.cells:=by
 intro p hp
 simp only [List.mem_cons,List.not_mem_nil,or_false] at hp
 rcases hp with rfl | rfl | rfl | rfl
 ·exact Pc.blk_cells _ _ _
 ·exact Pc.blk_cells _ _ _
 ·exact Pc.own_cells _ _ _ _ _ _
 ·exact Pc.own_cells _ _ _ _ _ _
theorem stepsIt (n1:Nat) (hn1:1≤n1) (k f t:Int) (pw:Option Addr) (nw cw:Nat) (ws:List ByteArray) (rad most:Int) (po:Option Addr) (no co:Nat) (O:List Int) (pt:Option Addr) (nt ct:Nat) (T:List Int) (pr:Option Addr) (nr cr:Nat) (R:List Int) (pv:Option Addr) (nv cv:Nat) (V:List Int) (pl:Option Addr) (nl cl:Nat) (hs:List Hd) (L:List Po) (wk:Nat) (pp:Option Addr) (np cp:Nat) (pk:List Int) (w0 w:World) (b bx:Nat) (pm:Option Addr) (nm cm:Nat) (n:Nat) (rn:Nat→List Sq × List Sq) (Bd:Nat→Prop) (hO:Rd w0 1 po no (encI O)) (hT:Rd w0 1 pt nt (encI T)) (hR:Rd w0 1 pr nr (encI R)) (hV:Rd w0 1 pv nv (encI V)) (hct:nt≤ct) (hcv:nv≤cv)
  (hL:RdP w0 pl nl hs L) (hW:Rd w0 1 pw nw (encS ws)) (hpk:Rd w0 1 pp np (encI pk)) (hck:checkR O T R V=true) (hn:O.length=n+1) (h200:n≤200) (h1:1≤wk) (h16:wk≤16)
  (hk:k=1∨k=2∨k=3) (ht:I64 t) (hcw:nw≤cw) (hnw:nw≤100) (hok:PoOk L)
  (hr0:(rn 0).1=[]) (hrn:∀ i,RunI n i (rn i)) (hrs:∀ i,rn (i+1)=stepM (nextL k rad true O T R V) (rn i).1 (rn i).2)
  (S0:Sep w0 w [Pc.blk b 87 #[.int .i64 k,.int .i64 f,.int .i64 t,.slice pw nw cw,.int .i64 rad,.int .i64 most,.slice po no co,.slice pt nt ct,.slice pr nr cr,.slice pv nv cv,.slice pl nl cl,.int .i64 wk,.slice pp np cp,.slice none 0 0,.slice pm nm cm],Pc.blk bx 82 #[.pointer (some ⟨b,0,none⟩)],Pc.own 146 4 none 0 0 (encQ (rn 0).1),Pc.own 138 4 pm nm cm (encQ (rn 0).2)]) (hBd:∀ k,Bd k→w0.heap.size≤k∧k<w.heap.size) (hBf:∀ p∈[Pc.blk b 87 #[.int .i64 k,.int .i64 f,.int .i64 t,.slice pw nw cw,.int .i64 rad,.int .i64 most,.slice po no co,.slice pt nt ct,.slice pr nr cr,.slice pv nv cv,.slice pl nl cl,.int .i64 wk,.slice pp np cp,.slice none 0 0,.slice pm nm cm],Pc.blk bx 82 #[.pointer (some ⟨b,0,none⟩)],Pc.own 146 4 none 0 0 (encQ (rn 0).1),Pc.own 138 4 pm nm cm (encQ (rn 0).2)],∀ k,p.foot k→¬ Bd k) :
  SeqD Fence.wide n1 Tryz.prog 93 #[.pointer (some ⟨bx,0,none⟩)] ydE (fun k=>k=b) (ydA k t L ws most rn) (KpN Bd w.heap.size) (fun _=>False) (fun _=>True) (fun pre=>pre.length<200) w:=by
 intro l J Jx W hW' hJ hJx hQ hY h0
 have HST:=Lib.hid (fun i (hi:i≤200) (W:World) (E:Ext w0 W) (ps:Option Addr) (ns cs:Nat) (pm:Option Addr) (nm cm:Nat) (hs:Rd W 4 ps ns (encQ (rn i).1)) (hm:Rd W 4 pm nm (encQ (rn i).2)) =>
  StepRun k f t pw nw cw rad most po no co O pt nt ct T pr nr cr R pv nv cv V W n i (rn i) ps ns cs pm nm cm wk pp np cp pk (hO.ext E) (hT.ext E) (hR.ext E) (hV.ext E) hct hcv hck hn h200 hi (hrn i) h1 h16 hs hm (hpk.ext E))
 have HLN:=Lib.hid (fun i=>And.intro (show (rn i).1.length≤400 by have:=run_most (hrn i).kst (fun x hx=>((hrn i).st x hx).1);omega) (show (rn i).2.length≤400 by have:=run_most (hrn i).kms (fun x hx=>((hrn i).ms x hx).1);omega))
 have hdn:∀ i (hi:i≤200) (ps:Option Addr) (ns cs:Nat) (pm:Option Addr) (nm cm:Nat),ns=(rn i).1.length→∃ b d F,AnsD k t L ws most (rn i) b d F∧∀ W,Ext w0 W→Rd W 4 ps ns (encQ (rn i).1)→Rd W 4 pm nm (encQ (rn i).2) →
   Calls Tryz.prog 95 #[.agg #[.int .i64 k,.int .i64 f,.int .i64 t,.slice pw nw cw,.int .i64 rad,.int .i64 most],.slice pl nl cl,.slice ps ns cs,.slice pm nm cm] W (DoneQ b d F (doneB k t (rn i)) W):=fun i hi ps ns cs pm nm cm hns=>by
  have hx:∀ x∈(rn i).1,x.I∧-1000000≤x.d∧x.d≤1000000:=fun x hx=>by
   obtain⟨⟨x1,x2,x3,x4⟩,x5,x6⟩:=(hrn i).st x hx
   refine⟨?_,by omega,by omega⟩
   unfold Sq.I I64
   have q1:IntKind.i64.min = -9223372036854775808:=rfl
   have q2:IntKind.i64.max=9223372036854775807:=rfl
   refine⟨?_,?_,?_,?_⟩ <;> (show (_ && _)=true;simp;omega)
  obtain⟨b,d,F,hA,hD⟩:=Done_run k f t pw nw cw ws rad most pl nl cl hs L ps ns cs (rn i).1 pm nm cm (rn i).2 hk ht hcw hnw hok (fun x h=>(hx x h).1) (fun x h=>(hx x h).2) (by have:=(HLN.out i).1;omega)
  exact⟨b,d,F,hA,fun W E g1 g2=>(hD W (hL.ext E) (hW.ext E) g1 g2).1⟩
 have HDN:=Lib.hid hdn
 have HRS:=Lib.hid hrs
 have hb0:w0.heap.size≤b:=S0.bge 0 rfl
 have hbw:b<w.heap.size:=(S0.blk 0 rfl).lt
 have hw0:w0.heap.size≤w.heap.size:=S0.ext.size
 have hws:=hW'.size
 have HBD:=Lib.hid hBd
 have SW:=Lib.hid (S0.call hW')
 have HBF:=Lib.hid hBf
 have HQ:=Lib.hid hQ
 have HR0:=Lib.hid hr0
 have HJ:=Lib.hid hJ;clear hJ
 have HY:=Lib.hid hY;clear hY
 clear hJx hO hT hR hV hct hcv hck hn h200 h1 h16 hpk hL hW hk ht hcw hnw hok hr0 hrn hrs S0 hBd hBf hdn hQ hW'
 refine callsIn_of_wp Tryz.func93 rfl trivial ?_ rfl
 simp only [Tryz.ntmps93,List.size_toArray,List.length_cons,List.length_nil,Nat.reduceAdd,Nat.reduceSub,Array.replicate_succ,Array.replicate_zero,List.push_toArray,List.append_toArray,List.nil_append,List.cons_append]
 gi_wp2
 gi_loopg [] 200 (fun g wr=>∃ (pre:List YdT) (ps:Option Addr) (ns cs:Nat) (pm:Option Addr) (nm cm:Nat),pre.length+g=200∧Hid (Sep w0 wr [Pc.blk b 87 #[.int .i64 k,.int .i64 f,.int .i64 t,.slice pw nw cw,.int .i64 rad,.int .i64 most,.slice po no co,.slice pt nt ct,.slice pr nr cr,.slice pv nv cv,.slice pl nl cl,.int .i64 wk,.slice pp np cp,.slice ps ns cs,.slice pm nm cm],Pc.blk bx 82 #[.pointer (some ⟨b,0,none⟩)],Pc.own 146 4 ps ns cs (encQ (rn pre.length).1),Pc.own 138 4 pm nm cm (encQ (rn pre.length).2)])∧Hid (∀ p∈[Pc.blk b 87 #[.int .i64 k,.int .i64 f,.int .i64 t,.slice pw nw cw,.int .i64 rad,.int .i64 most,.slice po no co,.slice pt nt ct,.slice pr nr cr,.slice pv nv cv,.slice pl nl cl,.int .i64 wk,.slice pp np cp,.slice ps ns cs,.slice pm nm cm],Pc.blk bx 82 #[.pointer (some ⟨b,0,none⟩)],Pc.own 146 4 ps ns cs (encQ (rn pre.length).1),Pc.own 138 4 pm nm cm (encQ (rn pre.length).2)],∀ k,p.foot k→¬ Bd k)∧Hid (J pre wr)∧W.heap.size≤wr.heap.size)
 case atStart =>
  refine⟨[],none,0,0,pm,nm,cm,rfl,SW.out,HBF.out,h0,Nat.le_refl _⟩
 case round =>
  clear h0 SW HBF HR0
  obtain⟨pre,ps,ns,cs,pm,nm,cm,hg,SS,HF,HJ1,hsz⟩:=hrel
  have hpl:=HQ.out pre wr HJ1.out
  clear HQ
  have HS1:=Lib.hid (SS.out.drew)
  have HE0:=Lib.hid (HST.out pre.length (by omega) wr.drew SS.out.drew.ext ps ns cs pm nm cm (SS.out.drew.rdx 2 rfl) (SS.out.drew.rdx 3 rfl))
  obtain⟨m,hm⟩:∃ m,pre.length=m:=⟨_,rfl⟩
  rw [hm] at HE0 HS1 SS HF hpl hg
  rw [← HRS.out m] at HE0
  obtain⟨Y,hY⟩:∃ Y,rn (m+1)=Y:=⟨_,rfl⟩
  rw [hY] at HE0
  have HRY:=Lib.hid hY
  clear hY
  have HM:=Lib.hid hm
  clear hm
  gi_wp2
  refine wpIn_wide.2 ?_
  refine wp_region_held_drew (S:=fun W=>Blk W b 87 #[.int .i64 k,.int .i64 f,.int .i64 t,.slice pw nw cw,.int .i64 rad,.int .i64 most,.slice po no co,.slice pt nt ct,.slice pr nr cr,.slice pv nv cv,.slice pl nl cl,.int .i64 wk,.slice pp np cp,.slice ps ns cs,.slice pm nm cm]∧Blk W bx 82 #[.pointer (some ⟨b,0,none⟩)]) (by kernel_rfl) ⟨HS1.out.blk 0 rfl,HS1.out.blk 1 rfl⟩ (fun hHeld=>?_)
  have hw2:W.heap.size≤wr.drew.heap.size:=hsz
  have HJ2:=Lib.hid (HJ.out pre wr wr.drew none HJ1.out (Ext.grown (Below.refl _ _).drew) (fun r e=>nomatch e))
  clear SS HJ1 hsz
  generalize wr.drew=D at HS1 HE0 hHeld hw2 HJ2 ⊢
  clear wr
  refine wpAnyH_take (i:=0) (v:=.pointer (some ⟨b,0,none⟩)) rfl (by kernel_rfl) (by kernel_rfl) (by kernel_rfl) (fun _ _ _ h=>h) (Or.inl ⟨by kernel_rfl,fun W hSw=>by have h0:=hSw.2.cell 0;have hz:=hSw.2.lt;clear hSw;go_simp⟩) hHeld ?_
  refine wpAnyH_take (i:=1) (v:=.pointer (some ⟨b,0,none⟩)) rfl (by kernel_rfl) (by kernel_rfl) (by kernel_rfl) (fun _ _ _ h=>h) (Or.inl ⟨by kernel_rfl,fun W hSw=>by have hz:=hSw.1.lt;have hy:=(show W.heap[b]?=_ from hSw.1);clear hSw;go_simp⟩) hHeld ?_
  refine wpAnyH_take (i:=2) (v:=.pointer (some ⟨b,0,none⟩)) rfl (by kernel_rfl) (by kernel_rfl) (by kernel_rfl) (fun _ _ _ h=>h) (Or.inl ⟨by kernel_rfl,fun W hSw=>by skip;clear hSw;go_simp⟩) hHeld ?_
  refine wpAnyH_take (i:=3) (v:=.agg #[.int .i64 k,.int .i64 f,.int .i64 t,.slice pw nw cw,.int .i64 rad,.int .i64 most]) rfl (by kernel_rfl) (by kernel_rfl) (by kernel_rfl) (fun _ _ _ h=>h) (Or.inl ⟨by kernel_rfl,fun W hSw=>by have h0:=hSw.1.cell 0;have h1:=hSw.1.cell 1;have h2:=hSw.1.cell 2;have h3:=hSw.1.cell 3;have h4:=hSw.1.cell 4;have h5:=hSw.1.cell 5;clear hSw;go_simp⟩) hHeld ?_
  refine wpAnyH_take (i:=4) (v:=.pointer (some ⟨b,0,none⟩)) rfl (by kernel_rfl) (by kernel_rfl) (by kernel_rfl) (fun _ _ _ h=>h) (Or.inl ⟨by kernel_rfl,fun W hSw=>by have h0:=hSw.2.cell 0;have hz:=hSw.2.lt;clear hSw;go_simp⟩) hHeld ?_
  refine wpAnyH_take (i:=5) (v:=.pointer (some ⟨b,0,none⟩)) rfl (by kernel_rfl) (by kernel_rfl) (by kernel_rfl) (fun _ _ _ h=>h) (Or.inl ⟨by kernel_rfl,fun W hSw=>by have hz:=hSw.1.lt;have hy:=(show W.heap[b]?=_ from hSw.1);clear hSw;go_simp⟩) hHeld ?_
  refine wpAnyH_take (i:=6) (v:=.pointer (some ⟨b,6,none⟩)) rfl (by kernel_rfl) (by kernel_rfl) (by kernel_rfl) (fun _ _ _ h=>h) (Or.inl ⟨by kernel_rfl,fun W hSw=>by skip;clear hSw;go_simp⟩) hHeld ?_
  refine wpAnyH_take (i:=7) (v:=.agg #[.slice po no co,.slice pt nt ct,.slice pr nr cr,.slice pv nv cv]) rfl (by kernel_rfl) (by kernel_rfl) (by kernel_rfl) (fun _ _ _ h=>h) (Or.inl ⟨by kernel_rfl,fun W hSw=>by have h0:=hSw.1.cell 6;have h1:=hSw.1.cell 7;have h2:=hSw.1.cell 8;have h3:=hSw.1.cell 9;clear hSw;go_simp⟩) hHeld ?_
  refine wpAnyH_take (i:=8) (v:=.pointer (some ⟨b,0,none⟩)) rfl (by kernel_rfl) (by kernel_rfl) (by kernel_rfl) (fun _ _ _ h=>h) (Or.inl ⟨by kernel_rfl,fun W hSw=>by have h0:=hSw.2.cell 0;have hz:=hSw.2.lt;clear hSw;go_simp⟩) hHeld ?_
  refine wpAnyH_take (i:=9) (v:=.pointer (some ⟨b,0,none⟩)) rfl (by kernel_rfl) (by kernel_rfl) (by kernel_rfl) (fun _ _ _ h=>h) (Or.inl ⟨by kernel_rfl,fun W hSw=>by have hz:=hSw.1.lt;have hy:=(show W.heap[b]?=_ from hSw.1);clear hSw;go_simp⟩) hHeld ?_
  refine wpAnyH_take (i:=10) (v:=.pointer (some ⟨b,13,none⟩)) rfl (by kernel_rfl) (by kernel_rfl) (by kernel_rfl) (fun _ _ _ h=>h) (Or.inl ⟨by kernel_rfl,fun W hSw=>by skip;clear hSw;go_simp⟩) hHeld ?_
  refine wpAnyH_take (i:=11) (v:=.slice ps ns cs) rfl (by kernel_rfl) (by kernel_rfl) (by kernel_rfl) (fun _ _ _ h=>h) (Or.inl ⟨by kernel_rfl,fun W hSw=>by have h0:=hSw.1.cell 13;clear hSw;go_simp⟩) hHeld ?_
  refine wpAnyH_take (i:=12) (v:=.pointer (some ⟨b,0,none⟩)) rfl (by kernel_rfl) (by kernel_rfl) (by kernel_rfl) (fun _ _ _ h=>h) (Or.inl ⟨by kernel_rfl,fun W hSw=>by have h0:=hSw.2.cell 0;have hz:=hSw.2.lt;clear hSw;go_simp⟩) hHeld ?_
  refine wpAnyH_take (i:=13) (v:=.pointer (some ⟨b,0,none⟩)) rfl (by kernel_rfl) (by kernel_rfl) (by kernel_rfl) (fun _ _ _ h=>h) (Or.inl ⟨by kernel_rfl,fun W hSw=>by have hz:=hSw.1.lt;have hy:=(show W.heap[b]?=_ from hSw.1);clear hSw;go_simp⟩) hHeld ?_
  refine wpAnyH_take (i:=14) (v:=.pointer (some ⟨b,14,none⟩)) rfl (by kernel_rfl) (by kernel_rfl) (by kernel_rfl) (fun _ _ _ h=>h) (Or.inl ⟨by kernel_rfl,fun W hSw=>by skip;clear hSw;go_simp⟩) hHeld ?_
  refine wpAnyH_take (i:=15) (v:=.slice pm nm cm) rfl (by kernel_rfl) (by kernel_rfl) (by kernel_rfl) (fun _ _ _ h=>h) (Or.inl ⟨by kernel_rfl,fun W hSw=>by have h0:=hSw.1.cell 14;clear hSw;go_simp⟩) hHeld ?_
  refine wpAnyH_take (i:=16) (v:=.pointer (some ⟨b,0,none⟩)) rfl (by kernel_rfl) (by kernel_rfl) (by kernel_rfl) (fun _ _ _ h=>h) (Or.inl ⟨by kernel_rfl,fun W hSw=>by have h0:=hSw.2.cell 0;have hz:=hSw.2.lt;clear hSw;go_simp⟩) hHeld ?_
  refine wpAnyH_take (i:=17) (v:=.pointer (some ⟨b,0,none⟩)) rfl (by kernel_rfl) (by kernel_rfl) (by kernel_rfl) (fun _ _ _ h=>h) (Or.inl ⟨by kernel_rfl,fun W hSw=>by have hz:=hSw.1.lt;have hy:=(show W.heap[b]?=_ from hSw.1);clear hSw;go_simp⟩) hHeld ?_
  refine wpAnyH_take (i:=18) (v:=.pointer (some ⟨b,11,none⟩)) rfl (by kernel_rfl) (by kernel_rfl) (by kernel_rfl) (fun _ _ _ h=>h) (Or.inl ⟨by kernel_rfl,fun W hSw=>by skip;clear hSw;go_simp⟩) hHeld ?_
  refine wpAnyH_take (i:=19) (v:=.int .i64 wk) rfl (by kernel_rfl) (by kernel_rfl) (by kernel_rfl) (fun _ _ _ h=>h) (Or.inl ⟨by kernel_rfl,fun W hSw=>by have h0:=hSw.1.cell 11;clear hSw;go_simp⟩) hHeld ?_
  refine wpAnyH_take (i:=20) (v:=.pointer (some ⟨b,0,none⟩)) rfl (by kernel_rfl) (by kernel_rfl) (by kernel_rfl) (fun _ _ _ h=>h) (Or.inl ⟨by kernel_rfl,fun W hSw=>by have h0:=hSw.2.cell 0;have hz:=hSw.2.lt;clear hSw;go_simp⟩) hHeld ?_
  refine wpAnyH_take (i:=21) (v:=.pointer (some ⟨b,0,none⟩)) rfl (by kernel_rfl) (by kernel_rfl) (by kernel_rfl) (fun _ _ _ h=>h) (Or.inl ⟨by kernel_rfl,fun W hSw=>by have hz:=hSw.1.lt;have hy:=(show W.heap[b]?=_ from hSw.1);clear hSw;go_simp⟩) hHeld ?_
  refine wpAnyH_take (i:=22) (v:=.pointer (some ⟨b,12,none⟩)) rfl (by kernel_rfl) (by kernel_rfl) (by kernel_rfl) (fun _ _ _ h=>h) (Or.inl ⟨by kernel_rfl,fun W hSw=>by skip;clear hSw;go_simp⟩) hHeld ?_
  refine wpAnyH_take (i:=23) (v:=.slice pp np cp) rfl (by kernel_rfl) (by kernel_rfl) (by kernel_rfl) (fun _ _ _ h=>h) (Or.inl ⟨by kernel_rfl,fun W hSw=>by have h0:=hSw.1.cell 12;clear hSw;go_simp⟩) hHeld ?_
  refine wpAnyH_ready (rs:=[24]) (by kernel_rfl) (by simp) (AllReadyH.cons rfl (fun K hK=>?_) AllReadyH.nil)
  go_simp
  refine HE0.out.mono ?_
  rintro e w1 ⟨q,c,q2,c2,rfl,Z⟩
  have S2:=Lib.hid (HS1.out.comp Z)
  have hw3:=Nat.le_trans hw2 Z.ext.size
  have HJ3:=Lib.hid (HJ.out pre D w1 none HJ2.out (Ext.grown Z.ext) (fun r e=>nomatch e))
  have HZN:=Lib.hid (fun p (hp:p∈[Pc.own 146 4 q Y.1.length c (encQ Y.1),Pc.own 138 4 q2 Y.2.length c2 (encQ Y.2)]) k (hk:p.foot k)=>Z.new p hp k hk)
  clear Z HJ2 HE0
  refine hK.out _ _ ⟨S2.out.blk 2 rfl,S2.out.blk 3 rfl⟩ (fun hHeld=>?_)
  clear hK
  refine wpAnyH_take (i:=25) (v:=.tuple #[.slice q Y.1.length c,.slice q2 Y.2.length c2,.int .i64 0]) rfl (by kernel_rfl) (by kernel_rfl) (by kernel_rfl) (fun _ _ _ h=>h) (Or.inl ⟨by kernel_rfl,fun W hSw=>by skip;clear hSw;go_simp⟩) hHeld ?_
  refine wpAnyH_take (i:=26) (v:=.slice q Y.1.length c) rfl (by kernel_rfl) (by kernel_rfl) (by kernel_rfl) (fun _ _ _ h=>h) (Or.inl ⟨by kernel_rfl,fun W hSw=>by skip;clear hSw;go_simp⟩) hHeld ?_
  refine wpAnyH_take (i:=27) (v:=.slice q2 Y.2.length c2) rfl (by kernel_rfl) (by kernel_rfl) (by kernel_rfl) (fun _ _ _ h=>h) (Or.inl ⟨by kernel_rfl,fun W hSw=>by skip;clear hSw;go_simp⟩) hHeld ?_
  refine wpAnyH_take (i:=28) (v:=.int .i64 0) rfl (by kernel_rfl) (by kernel_rfl) (by kernel_rfl) (fun _ _ _ h=>h) (Or.inl ⟨by kernel_rfl,fun W hSw=>by skip;clear hSw;go_simp⟩) hHeld ?_
  refine wpAnyH_take (i:=29) (v:=.slice q Y.1.length c) rfl (by kernel_rfl) (by kernel_rfl) (by kernel_rfl) (fun _ _ _ h=>h) (Or.inl ⟨by kernel_rfl,fun W hSw=>by skip;clear hSw;go_simp⟩) hHeld ?_
  refine wpAnyH_take (i:=30) (v:=.slice q2 Y.2.length c2) rfl (by kernel_rfl) (by kernel_rfl) (by kernel_rfl) (fun _ _ _ h=>h) (Or.inl ⟨by kernel_rfl,fun W hSw=>by skip;clear hSw;go_simp⟩) hHeld ?_
  refine wpAnyH_take (i:=31) (v:=.int .i64 0) rfl (by kernel_rfl) (by kernel_rfl) (by kernel_rfl) (fun _ _ _ h=>h) (Or.inl ⟨by kernel_rfl,fun W hSw=>by skip;clear hSw;go_simp⟩) hHeld ?_
  refine wpAnyH_done (by kernel_rfl) ?_ _
  clear hHeld
  simp [Act.put]
  gi_wp2
  have HB3:=Lib.hid (S2.out.blk 2 rfl)
  have HB4:=Lib.hid (S2.out.blk 3 rfl)
  refine wpIn_wide.2 ?_
  refine wp_region_held_drew (S:=fun W=>(∃ cs,Blk W b 87 cs)∧Blk W bx 82 #[.pointer (some ⟨b,0,none⟩)]) (by kernel_rfl) ⟨⟨_,HB3.out.ext (Below.refl _ _).drew⟩,HB4.out.ext (Below.refl _ _).drew⟩ (fun hHeld=>?_)
  have SD:=Lib.hid S2.out.drew
  have hw4:W.heap.size≤w1.drew.heap.size:=hw3
  have HJ4:=Lib.hid (HJ.out pre w1 w1.drew none HJ3.out (Ext.grown (Below.refl _ _).drew) (fun r e=>nomatch e))
  clear S2 HJ3 HB3 HB4 hw3
  generalize w1.drew=D2 at SD hHeld hw4 HJ4 ⊢
  clear w1 HS1
  refine wpAnyH_take (i:=0) (v:=.pointer (some ⟨b,0,none⟩)) rfl (by kernel_rfl) (by kernel_rfl) (by kernel_rfl) (fun _ _ _ h=>h) (Or.inl ⟨by kernel_rfl,fun W hSw=>by have h0:=hSw.2.cell 0;have hz:=hSw.2.lt;clear hSw;go_simp⟩) hHeld ?_
  refine wpAnyH_take (i:=1) (v:=.pointer (some ⟨b,0,none⟩)) rfl (by kernel_rfl) (by kernel_rfl) (by kernel_rfl) (fun _ _ _ h=>h) (Or.inl ⟨by kernel_rfl,fun W hSw=>by have h0:=hSw.2.cell 0;have hz:=hSw.2.lt;clear hSw;go_simp⟩) hHeld ?_
  refine wpAnyH_take (i:=2) (v:=.slice q Y.1.length c) rfl (by kernel_rfl) (by kernel_rfl) (by kernel_rfl) (fun _ _ _ h=>h) (Or.inl ⟨by kernel_rfl,fun W hSw=>by skip;clear hSw;go_simp⟩) hHeld ?_
  refine wpAnyH_take (i:=3) (v:=.slice q2 Y.2.length c2) rfl (by kernel_rfl) (by kernel_rfl) (by kernel_rfl) (fun _ _ _ h=>h) (Or.inl ⟨by kernel_rfl,fun W hSw=>by skip;clear hSw;go_simp⟩) hHeld ?_
  refine wpAnyH_take (i:=4) (v:=.pointer (some ⟨b,0,none⟩)) rfl (by kernel_rfl) (by kernel_rfl) (by kernel_rfl) (fun _ _ _ h=>h) (Or.inl ⟨by kernel_rfl,fun W hSw=>by obtain⟨cs0,hcs0⟩:=hSw.1;have hz:=hcs0.lt;have hy:=(show W.heap[b]?=_ from hcs0);clear hSw;go_simp⟩) hHeld ?_
  refine wpAnyH_take (i:=5) (v:=.pointer (some ⟨b,13,none⟩)) rfl (by kernel_rfl) (by kernel_rfl) (by kernel_rfl) (fun _ _ _ h=>h) (Or.inl ⟨by kernel_rfl,fun W hSw=>by skip;clear hSw;go_simp⟩) hHeld ?_
  obtain⟨c13,c13z,c13f⟩:=bkc13lz13 (SD.out.blk 2 rfl)
  refine wpAnyH_ready (rs:=[6]) (by kernel_rfl) (by simp) (AllReadyH.cons rfl (fun K hK=>?_) AllReadyH.nil)
  go_simp
  clear c13 c13z c13f
  have S3:=Lib.hid (show Sep w0 (D2.setCell ⟨b,13,none⟩ (.slice q Y.1.length c)) [Pc.own 146 4 q Y.1.length c (encQ Y.1),Pc.own 138 4 q2 Y.2.length c2 (encQ Y.2),.blk b 87 #[.int .i64 k,.int .i64 f,.int .i64 t,.slice pw nw cw,.int .i64 rad,.int .i64 most,.slice po no co,.slice pt nt ct,.slice pr nr cr,.slice pv nv cv,.slice pl nl cl,.int .i64 wk,.slice pp np cp,.slice q Y.1.length c,.slice pm nm cm],.blk bx 82 #[.pointer (some ⟨b,0,none⟩)]] from(SD.out.set 2 rfl 13 (.slice q Y.1.length c)).pick [0,1,2,3] (by decide) rfl)
  clear hHeld
  refine hK.out _ _ ⟨⟨_,S3.out.blk 2 rfl⟩,S3.out.blk 3 rfl⟩ (fun hHeld=>?_)
  clear hK
  refine wpAnyH_take (i:=7) (v:=.pointer (some ⟨b,0,none⟩)) rfl (by kernel_rfl) (by kernel_rfl) (by kernel_rfl) (fun _ _ _ h=>h) (Or.inl ⟨by kernel_rfl,fun W hSw=>by obtain⟨cs0,hcs0⟩:=hSw.1;have hz:=hcs0.lt;have hy:=(show W.heap[b]?=_ from hcs0);clear hSw;go_simp⟩) hHeld ?_
  refine wpAnyH_take (i:=8) (v:=.pointer (some ⟨b,14,none⟩)) rfl (by kernel_rfl) (by kernel_rfl) (by kernel_rfl) (fun _ _ _ h=>h) (Or.inl ⟨by kernel_rfl,fun W hSw=>by skip;clear hSw;go_simp⟩) hHeld ?_
  obtain⟨c14,c14z,c14f⟩:=bkc14lz14 (S3.out.blk 2 rfl)
  have hw5:W.heap.size≤(D2.setCell ⟨b,13,none⟩ (.slice q Y.1.length c)).heap.size:=Nat.le_trans hw4 (grown_set ..).size
  have HJ5:=Lib.hid (HJ.out pre D2 _ (some b) HJ4.out (grown_set D2 ⟨b,13,none⟩ (.slice q Y.1.length c)) (fun r e=>Or.inr (by injection e with e;exact e.symm)))
  clear HJ4 hw4 SD
  generalize D2.setCell ⟨b,13,none⟩ (.slice q Y.1.length c)=D3 at S3 hHeld hw5 HJ5 c14 c14z c14f ⊢
  clear D2
  refine wpAnyH_ready (rs:=[9]) (by kernel_rfl) (by simp) (AllReadyH.cons rfl (fun K hK=>?_) AllReadyH.nil)
  go_simp
  clear c14 c14z c14f
  have S4:=Lib.hid (show Sep w0 (D3.setCell ⟨b,14,none⟩ (.slice q2 Y.2.length c2)) [Pc.own 146 4 q Y.1.length c (encQ Y.1),Pc.own 138 4 q2 Y.2.length c2 (encQ Y.2),.blk b 87 #[.int .i64 k,.int .i64 f,.int .i64 t,.slice pw nw cw,.int .i64 rad,.int .i64 most,.slice po no co,.slice pt nt ct,.slice pr nr cr,.slice pv nv cv,.slice pl nl cl,.int .i64 wk,.slice pp np cp,.slice q Y.1.length c,.slice q2 Y.2.length c2],.blk bx 82 #[.pointer (some ⟨b,0,none⟩)]] from S3.out.set 2 rfl 14 (.slice q2 Y.2.length c2))
  clear hHeld
  refine hK.out _ _ ⟨⟨_,S4.out.blk 2 rfl⟩,S4.out.blk 3 rfl⟩ (fun hHeld=>?_)
  have hw6:W.heap.size≤(D3.setCell ⟨b,14,none⟩ (.slice q2 Y.2.length c2)).heap.size:=Nat.le_trans hw5 (grown_set ..).size
  have HJ6:=Lib.hid (HJ.out pre D3 _ (some b) HJ5.out (grown_set D3 ⟨b,14,none⟩ (.slice q2 Y.2.length c2)) (fun r e=>Or.inr (by injection e with e;exact e.symm)))
  have S5:=Lib.hid (S4.out.pick [2,3,0,1] (by decide) rfl)
  clear hK S4 S3 HJ5 hw5
  refine wpAnyH_done (by kernel_rfl) ?_ _
  clear hHeld
  generalize D3.setCell ⟨b,14,none⟩ (.slice q2 Y.2.length c2)=D4 at S5 hw6 HJ6 ⊢
  clear D3
  gi_wp2
  have SE:=Lib.hid S5.out.drew
  have hw7:W.heap.size≤D4.drew.heap.size:=hw6
  have HJ7:=Lib.hid (HJ.out pre D4 D4.drew none HJ6.out (Ext.grown (Below.refl _ _).drew) (fun r e=>nomatch e))
  have hl1:Y.1.length=(rn (m+1)).1.length:=by rw [HRY.out]
  obtain⟨yb,yd,yF,hAn,hDn⟩:=HDN.out (m+1) (by omega) q Y.1.length c q2 Y.2.length c2 hl1
  have hDn:=hDn D4.drew SE.out.ext (by rw [HRY.out];exact SE.out.rdx 2 rfl) (by rw [HRY.out];exact SE.out.rdx 3 rfl)
  have HAN:=Lib.hid hAn
  have HD:=Lib.hid hDn
  clear hAn hDn hl1
  obtain⟨dn,hdn⟩:∃ dn,doneB k t (rn (m+1))=dn:=⟨_,rfl⟩
  rw [hdn] at HD
  have HDB:=Lib.hid hdn
  clear hdn
  refine wpIn_region_heldI 14 (S:=fun W=>Blk W b 87 #[.int .i64 k,.int .i64 f,.int .i64 t,.slice pw nw cw,.int .i64 rad,.int .i64 most,.slice po no co,.slice pt nt ct,.slice pr nr cr,.slice pv nv cv,.slice pl nl cl,.int .i64 wk,.slice pp np cp,.slice q Y.1.length c,.slice q2 Y.2.length c2]∧Blk W bx 82 #[.pointer (some ⟨b,0,none⟩)]) (by kernel_rfl) ⟨SE.out.blk 0 rfl,SE.out.blk 1 rfl⟩ (fun hHeld=>?_)
  clear S5 hw6 HJ6
  generalize D4.drew=D5 at SE HD hHeld hw7 HJ7 ⊢
  refine wpAnyHI_take [14] (i:=0) (v:=.func (.yield l) #[] #[]) rfl rfl (by kernel_rfl) (by kernel_rfl) (by kernel_rfl) (by kernel_rfl) (fun _ _ _ h=>h) ⟨Or.inl ⟨by kernel_rfl,fun W hSw=>by skip;clear hSw;go_simp⟩,fun _ _=>rfl⟩ hHeld ?_
  refine wpAnyHI_take [2,3,4,11,12,14] (i:=1) (v:=.pointer (some ⟨b,0,none⟩)) rfl rfl (by kernel_rfl) (by kernel_rfl) (by kernel_rfl) (by kernel_rfl) (fun _ _ _ h=>h) ⟨Or.inl ⟨by kernel_rfl,fun W hSw=>by have h0:=hSw.2.cell 0;have hz:=hSw.2.lt;clear hSw;go_simp⟩,fun _ _=>rfl⟩ hHeld ?_
  refine wpAnyHI_take [3,4,11,12,14] (i:=2) (v:=.pointer (some ⟨b,0,none⟩)) rfl rfl (by kernel_rfl) (by kernel_rfl) (by kernel_rfl) (by kernel_rfl) (fun _ _ _ h=>h) ⟨Or.inl ⟨by kernel_rfl,fun W hSw=>by have hz:=hSw.1.lt;have hy:=(show W.heap[b]?=_ from hSw.1);clear hSw;go_simp⟩,fun _ _=>rfl⟩ hHeld ?_
  refine wpAnyHI_take [4,11,12,14] (i:=3) (v:=.pointer (some ⟨b,0,none⟩)) rfl rfl (by kernel_rfl) (by kernel_rfl) (by kernel_rfl) (by kernel_rfl) (fun _ _ _ h=>h) ⟨Or.inl ⟨by kernel_rfl,fun W hSw=>by skip;clear hSw;go_simp⟩,fun _ _=>rfl⟩ hHeld ?_
  refine wpAnyHI_take [11,12,14] (i:=4) (v:=.agg #[.int .i64 k,.int .i64 f,.int .i64 t,.slice pw nw cw,.int .i64 rad,.int .i64 most]) rfl rfl (by kernel_rfl) (by kernel_rfl) (by kernel_rfl) (by kernel_rfl) (fun _ _ _ h=>h) ⟨Or.inl ⟨by kernel_rfl,fun W hSw=>by have h0:=hSw.1.cell 0;have h1:=hSw.1.cell 1;have h2:=hSw.1.cell 2;have h3:=hSw.1.cell 3;have h4:=hSw.1.cell 4;have h5:=hSw.1.cell 5;clear hSw;go_simp⟩,fun _ _=>rfl⟩ hHeld ?_
  refine wpAnyHI_take [6,7,8,11,12,14] (i:=5) (v:=.pointer (some ⟨b,0,none⟩)) rfl rfl (by kernel_rfl) (by kernel_rfl) (by kernel_rfl) (by kernel_rfl) (fun _ _ _ h=>h) ⟨Or.inl ⟨by kernel_rfl,fun W hSw=>by have h0:=hSw.2.cell 0;have hz:=hSw.2.lt;clear hSw;go_simp⟩,fun _ _=>rfl⟩ hHeld ?_
  refine wpAnyHI_take [7,8,11,12,14] (i:=6) (v:=.pointer (some ⟨b,0,none⟩)) rfl rfl (by kernel_rfl) (by kernel_rfl) (by kernel_rfl) (by kernel_rfl) (fun _ _ _ h=>h) ⟨Or.inl ⟨by kernel_rfl,fun W hSw=>by have hz:=hSw.1.lt;have hy:=(show W.heap[b]?=_ from hSw.1);clear hSw;go_simp⟩,fun _ _=>rfl⟩ hHeld ?_
  refine wpAnyHI_take [8,11,12,14] (i:=7) (v:=.pointer (some ⟨b,10,none⟩)) rfl rfl (by kernel_rfl) (by kernel_rfl) (by kernel_rfl) (by kernel_rfl) (fun _ _ _ h=>h) ⟨Or.inl ⟨by kernel_rfl,fun W hSw=>by skip;clear hSw;go_simp⟩,fun _ _=>rfl⟩ hHeld ?_
  refine wpAnyHI_take [11,12,14] (i:=8) (v:=.slice pl nl cl) rfl rfl (by kernel_rfl) (by kernel_rfl) (by kernel_rfl) (by kernel_rfl) (fun _ _ _ h=>h) ⟨Or.inl ⟨by kernel_rfl,fun W hSw=>by have h0:=hSw.1.cell 10;clear hSw;go_simp⟩,fun _ _=>rfl⟩ hHeld ?_
  refine wpAnyHI_take [11,12,14] (i:=9) (v:=.slice q Y.1.length c) rfl rfl (by kernel_rfl) (by kernel_rfl) (by kernel_rfl) (by kernel_rfl) (fun _ _ _ h=>h) ⟨Or.inl ⟨by kernel_rfl,fun W hSw=>by skip;clear hSw;go_simp⟩,fun _ _=>rfl⟩ hHeld ?_
  refine wpAnyHI_take [11,12,14] (i:=10) (v:=.slice q2 Y.2.length c2) rfl rfl (by kernel_rfl) (by kernel_rfl) (by kernel_rfl) (by kernel_rfl) (fun _ _ _ h=>h) ⟨Or.inl ⟨by kernel_rfl,fun W hSw=>by skip;clear hSw;go_simp⟩,fun _ _=>rfl⟩ hHeld ?_
  refine wpAnyHI_one (i:=11) (by kernel_rfl) rfl (by decide) (fun K hK=>?_)
  go_simp
  refine⟨trivial,callsIn_wide.2 (HD.out.mono ?_)⟩
  rintro e w6 ⟨hq,hc,rfl,Z⟩
  have S6:=Lib.hid (SE.out.comp Z)
  have hw8:=Nat.le_trans hw7 Z.ext.size
  obtain⟨fn,tmps,assign,body,hy,hR⟩:=HY.out pre ⟨yb,yd,yF,hq,hc,dn⟩ D5 w6 HJ7.out Z.ext ⟨Z,by rw [HM.out];exact HAN.out,by rw [HM.out];exact HDB.out.symm⟩
  have hy2:(Instr.yield l #[.agg #[.bool yb,.int .i64 yd,.slice hq yF.length hc],.bool dn]).run Tryz.prog w6=_:=hy
  have HR:=Lib.hid hR
  clear hy Z hHeld hR HD SE HJ7
  refine hK _ _ ⟨S6.out.blk 1 rfl,S6.out.blk 2 rfl⟩ ?_
  clear hK
  have hHeld:=And.intro (S6.out.blk 1 rfl) (S6.out.blk 2 rfl)
  refine wpAnyHI_take [14] (i:=12) (v:=.agg #[.bool yb,.int .i64 yd,.slice hq yF.length hc]) rfl rfl (by kernel_rfl) (by kernel_rfl) (by kernel_rfl) (by kernel_rfl) (fun _ _ _ h=>h) ⟨Or.inl ⟨by kernel_rfl,fun W hSw=>by skip;clear hSw;go_simp⟩,fun _ _=>rfl⟩ hHeld ?_
  refine wpAnyHI_take [14] (i:=13) (v:=.bool dn) rfl rfl (by kernel_rfl) (by kernel_rfl) (by kernel_rfl) (by kernel_rfl) (fun _ _ _ h=>h) ⟨Or.inl ⟨by kernel_rfl,fun W hSw=>by skip;clear hSw;go_simp⟩,fun _ _=>rfl⟩ hHeld ?_
  clear hHeld
  refine wpAnyHI_last (by kernel_rfl) rfl (fun K hK=>?_)
  go_simp
  refine HR.out.mono ?_
  clear HR hy2
  rintro e W3 (⟨rfl,hJ3,hk3⟩ | ⟨rfl,hJx3⟩)
  ·have HJ8:=Lib.hid hJ3
   have HK3:=Lib.hid hk3
   clear hJ3 hk3
   refine hK _ _ ?_
   clear hK
   refine wpAnyIn_take (i:=15) (v:=.bool false) rfl rfl (by kernel_rfl) (by kernel_rfl) (by kernel_rfl) (fun _ _ _ h=>h) ⟨Or.inl ⟨by kernel_rfl,fun W=>by go_simp⟩,fun _=>rfl⟩ ?_
   refine wpAnyIn_done (by kernel_rfl) ?_ _
   gi_wp2
   have HF3:Hid (∀ p∈[Pc.blk b 87 #[.int .i64 k,.int .i64 f,.int .i64 t,.slice pw nw cw,.int .i64 rad,.int .i64 most,.slice po no co,.slice pt nt ct,.slice pr nr cr,.slice pv nv cv,.slice pl nl cl,.int .i64 wk,.slice pp np cp,.slice q Y.1.length c,.slice q2 Y.2.length c2],Pc.blk bx 82 #[.pointer (some ⟨b,0,none⟩)],Pc.own 146 4 q Y.1.length c (encQ Y.1),Pc.own 138 4 q2 Y.2.length c2 (encQ Y.2)],∀ k,p.foot k→¬ Bd k):=fun p hp k hk hb=>by
    have h3:=(HBD.out k hb).2
    simp only [List.mem_cons,List.not_mem_nil,or_false] at hp
    rcases hp with rfl | rfl | rfl | rfl
    ·exact HF.out _ (List.mem_cons_self ..) k hk hb
    ·exact HF.out _ (List.mem_cons_of_mem _ (List.mem_cons_self ..)) k hk hb
    ·have:=HZN.out _ (List.mem_cons_self ..) k hk
     omega
    ·have:=HZN.out _ (List.mem_cons_of_mem _ (List.mem_cons_self ..)) k hk
     omega
   have S7:=Lib.hid ((S6.out.pick (Δ:=[Pc.blk b 87 #[.int .i64 k,.int .i64 f,.int .i64 t,.slice pw nw cw,.int .i64 rad,.int .i64 most,.slice po no co,.slice pt nt ct,.slice pr nr cr,.slice pv nv cv,.slice pl nl cl,.int .i64 wk,.slice pp np cp,.slice q Y.1.length c,.slice q2 Y.2.length c2],Pc.blk bx 82 #[.pointer (some ⟨b,0,none⟩)],Pc.own 146 4 q Y.1.length c (encQ Y.1),Pc.own 138 4 q2 Y.2.length c2 (encQ Y.2)]) [1,2,3,4] (by decide) rfl).kpN gst_cells HF3.out (fun k hb=>(HBD.out k hb).1) hw0 HK3.out)
   have hs9:W.heap.size≤W3.heap.size:=Nat.le_trans hw8 HK3.out.size
   gi_roundg (gk - 1)
   case rel =>
    have e:(pre ++ [(⟨yb,yd,yF,hq,hc,dn⟩:YdT)]).length=m+1:=by rw [List.length_append,HM.out];rfl
    exact⟨pre ++ [(⟨yb,yd,yF,hq,hc,dn⟩:YdT)],q,Y.1.length,c,q2,Y.2.length,c2,by rw [e];omega,by rw [e,HRY.out];exact S7.out,by rw [e,HRY.out];exact HF3.out,HJ8.out,hs9⟩
   case measure=>omega
  ·have HX3:=Lib.hid hJx3
   clear hJx3
   refine hK _ _ ?_
   clear hK
   refine wpAnyIn_take (i:=15) (v:=.bool true) rfl rfl (by kernel_rfl) (by kernel_rfl) (by kernel_rfl) (fun _ _ _ h=>h) ⟨Or.inl ⟨by kernel_rfl,fun W=>by go_simp⟩,fun _=>rfl⟩ ?_
   refine wpAnyIn_done (by kernel_rfl) ?_ _
   gi_wp2
   refine bodyPost_ret (results_none rfl _ _ _) rfl ?_
   exact⟨⟨_,rfl⟩,.inr ⟨_,trivial,HX3.out⟩⟩
end
section
open Go Go.RowKit
def chkJ (ck:Bool) (k f t:Int) (ws:List ByteArray) (rad most:Int) (n:Nat):Int:=if ck=true then chkQ k f t ws rad most ((n:Int) - 1) else 40
theorem CheckJ (k f t:Int) (pw:Option Addr) (nw cw:Nat) (ws:List ByteArray) (rad most:Int) (po:Option Addr) (no co:Nat) (O:List Int) (pt:Option Addr) (nt ct:Nat) (T:List Int) (pr:Option Addr) (nr cr:Nat) (R:List Int) (pv:Option Addr) (nv cv:Nat) (V:List Int) (w:World) (hO:Rd w 1 po no (encI O)) (hT:Rd w 1 pt nt (encI T)) (hR:Rd w 1 pr nr (encI R)) (hV:Rd w 1 pv nv (encI V)) (hct:nt≤ct) (hcv:nv≤cv) (hW:Rd w 1 pw nw (encS ws)) (hz:∀ s∈ws,s.size≤1000000) (h1000:no≤1000) :
  Calls Tryz.prog 49 #[.agg #[.int .i64 k,.int .i64 f,.int .i64 t,.slice pw nw cw,.int .i64 rad,.int .i64 most],.agg #[.slice po no co,.slice pt nt ct,.slice pr nr cr,.slice pv nv cv]] w fun e w'=>e=.returned (.int .i64 (chkJ (checkR O T R V) k f t ws rad most no))∧Ext w w':=by
 have HCK:=Lib.hid (fun W (h:Ext w W)=>CheckR po no co O pt nt ct T pr nr cr R pv nv cv V W (hO.ext h) (hT.ext h) (hR.ext h) (hV.ext h) hct hcv)
 have HQ:=Lib.hid (fun W (h:Ext w W)=>CheckQ k f t pw nw cw ws rad most ((no:Int) - 1) W (hW.ext h) hz)
 have S0:=Lib.hid (((Sep.start w).al #[.int .i64 k,.int .i64 f,.int .i64 t,.slice pw nw cw,.int .i64 rad,.int .i64 most] 24 w.heap.size rfl).al #[.slice po no co,.slice pt nt ct,.slice pr nr cr,.slice pv nv cv] 27 (w.heap.size+1) (by simp))
 clear hO hT hR hV hct hcv hW hz
 obtain⟨ck,hck⟩:∃ ck,checkR O T R V=ck:=⟨_,rfl⟩
 rw [hck] at HCK ⊢
 obtain⟨x,hx⟩:∃ x,chkQ k f t ws rad most ((no:Int) - 1)=x:=⟨_,rfl⟩
 rw [hx] at HQ
 have e1:chkJ ck k f t ws rad most no=if ck=true then x else 40:=by unfold chkJ;rw [hx]
 rw [e1]
 clear e1 hx hck
 go_enter Tryz.func49,Tryz.ntmps49
 cases ck with
 | false =>
  go_wp2_with (go_at_call 82;go_must (refine(HCK.out _ S0.out.ext).mono ?_;rintro e w1 ⟨rfl,hb⟩;have S1:=Lib.hid (S0.out.call hb);clear hb))
  go_ret
  exact⟨rfl,S1.out.ext⟩
 | true =>
  go_wp2_with (first | (go_at_call 82;go_must (refine(HCK.out _ S0.out.ext).mono ?_;rintro e w1 ⟨rfl,hb⟩;have S1:=Lib.hid (S0.out.call hb);obtain⟨b0,b1,b2,b3,b4,b5,bz⟩:=bkc0c1c2c3c4c5l (S1.out.blk 1 rfl);obtain⟨c0,cz⟩:=bkc0l (S1.out.blk 0 rfl);clear hb)) | (go_at_call 76;go_must (refine(HQ.out _ S1.out.ext).mono ?_;rintro e w2 ⟨rfl,hb⟩;have S2:=Lib.hid (S1.out.call hb);clear hb)))
  go_ret
  exact⟨rfl,S2.out.ext⟩
end
section
open Go
theorem wpIn_region_heldR {F:Fence} {n r:Nat} {P:Program} {ops:Array Oper} {Q:Exit→Act→World→Prop} {S:World→Prop} (y:Nat) {id:Nat} {a:Act} {w:World} (hro:F.round=none) (hnd:∀ (i:Nat) (o:Oper),ops[i]?=some o→∀ c,o.op≠.defer c) (hm:P.follows .mixedOrders=true) (hS:S w.drew)
  (h:S w.drew→wpAnyHI F n P .any ops Q S y ops.size (Array.replicate ops.size false) a w.drew):(Code.region id ops true).wpIn (F.inRound r) n P Q a w :=
 wpIn_region_any hm (wpAnyIn_round hro hnd _ _ _ _ (wpAnyIn_of_heldI _ _ _ _ (h hS)))
theorem noDefer_arr {ops:Array Oper} (h:ops.toList.all noDefer=true) (i:Nat) (o:Oper) (hi:ops[i]?=some o) (c):o.op≠.defer c:=by
 intro e
 have:=List.all_eq_true.1 h o (Array.mem_toList_iff.2 (Array.mem_of_getElem? hi))
 unfold noDefer at this
 rw [e] at this
 cases this
end
section
open Go Go.RowKit
def frRun (a10 a12 a13 a14 a19 a20 a21:Value) (b:Act):Prop:=∃ u0 u1 u2 u3 u4 u5 u6 u7 u8 u9 u11 u15 u16 u17 u18 u22 u23 u24 u25 u26 u27 u28 u29 u30 u31 u32 u33 u34 u35 u36 u37 u38 u39 u40 u41 u42 u43 u44 u45 u46 u47 u48 u49 u50 u51 u52 u53 u54 u55 u56 u57 u58 u59 u60 u61 u62 u63 u64 u65 u66:Value,b={ tmps:=#[u0,u1,u2,u3,u4,u5,u6,u7,u8,u9,a10,u11,a12,a13,a14,u15,u16,u17,u18,a19,a20,a21,u22,u23,u24,u25,u26,u27,u28,u29,u30,u31,u32,u33,u34,u35,u36,u37,u38,u39,u40,u41,u42,u43,u44,u45,u46,u47,u48,u49,u50,u51,u52,u53,u54,u55,u56,u57,u58,u59,u60,u61,u62,u63,u64,u65,u66],defers:=[] }
theorem frRun_of {a10 a12 a13 a14 a19 a20 a21 u0 u1 u2 u3 u4 u5 u6 u7 u8 u9 u11 u15 u16 u17 u18 u22 u23 u24 u25 u26 u27 u28 u29 u30 u31 u32 u33 u34 u35 u36 u37 u38 u39 u40 u41 u42 u43 u44 u45 u46 u47 u48 u49 u50 u51 u52 u53 u54 u55 u56 u57 u58 u59 u60 u61 u62 u63 u64 u65 u66:Value}:frRun a10 a12 a13 a14 a19 a20 a21 { tmps:=#[u0,u1,u2,u3,u4,u5,u6,u7,u8,u9,a10,u11,a12,a13,a14,u15,u16,u17,u18,a19,a20,a21,u22,u23,u24,u25,u26,u27,u28,u29,u30,u31,u32,u33,u34,u35,u36,u37,u38,u39,u40,u41,u42,u43,u44,u45,u46,u47,u48,u49,u50,u51,u52,u53,u54,u55,u56,u57,u58,u59,u60,u61,u62,u63,u64,u65,u66],defers:=[] }:=⟨u0,u1,u2,u3,u4,u5,u6,u7,u8,u9,u11,u15,u16,u17,u18,u22,u23,u24,u25,u26,u27,u28,u29,u30,u31,u32,u33,u34,u35,u36,u37,u38,u39,u40,u41,u42,u43,u44,u45,u46,u47,u48,u49,u50,u51,u52,u53,u54,u55,u56,u57,u58,u59,u60,u61,u62,u63,u64,u65,u66,rfl⟩
end
section
open Go Go.RowKit
attribute [local go_sem] Oper.semAt_some
def RunQ (b:Bool) (d:Int) (F:List (Int × Int)) (n e:Int) (w:World) (x:Ending) (w':World):Prop:=∃ q c',x=.returned (.tuple #[.agg #[.bool b,.int .i64 d,.slice q F.length c'],.int .i64 n,.int .i64 e])∧Sep w w' [.own 105 2 q F.length c' (encE F)]
def RunR (k t:Int) (L:List Po) (ws:List ByteArray) (most bud:Int) (m:Nat) (p:List Sq × List Sq) (w:World) (x:Ending) (w':World):Prop :=
 ∃ b d F,((m:Int)+1≤bud→AnsD k t L ws most p b d F∧RunQ b d F ((m:Int)+1) 0 w x w')∧(bud<(m:Int)+1→RunQ false 0 [] bud 251 w x w')
theorem gi_cells {a1 a2 a3 a4 a5:Nat} {t1 t2 t3 t4 t5:TypeId} {c1 c2 c3 c4 c5:Array Value}:∀ p∈[Pc.blk a1 t1 c1,Pc.blk a2 t2 c2,Pc.blk a3 t3 c3,Pc.blk a4 t4 c4,Pc.blk a5 t5 c5],p.cells:=by
 intro p hp
 simp only [List.mem_cons,List.not_mem_nil,or_false] at hp
 rcases hp with rfl | rfl | rfl | rfl | rfl <;> exact Pc.blk_cells _ _ _
theorem gi_feet {a1 a2 a3 a4 a5 b:Nat} {t1 t2 t3 t4 t5:TypeId} {c1 c2 c3 c4 c5:Array Value} (h:a1≠b∧a2≠b∧a3≠b∧a4≠b∧a5≠b):∀ p∈[Pc.blk a1 t1 c1,Pc.blk a2 t2 c2,Pc.blk a3 t3 c3,Pc.blk a4 t4 c4,Pc.blk a5 t5 c5],∀ k,p.foot k→¬ k=b:=by
 intro p hp k hk e
 obtain⟨h1,h2,h3,h4,h5⟩:=h
 simp only [List.mem_cons,List.not_mem_nil,or_false] at hp
 rcases hp with rfl | rfl | rfl | rfl | rfl
 ·exact h1 ((show k=a1 from hk).symm.trans e)
 ·exact h2 ((show k=a2 from hk).symm.trans e)
 ·exact h3 ((show k=a3 from hk).symm.trans e)
 ·exact h4 ((show k=a4 from hk).symm.trans e)
 ·exact h5 ((show k=a5 from hk).symm.trans e)
theorem gr_cells {e0:TypeId} {sz:Nat} {q0:Option Addr} {n0 c0:Nat} {xs:List Value} {a2 a3 a4:Nat} {t2 t3 t4:TypeId} {c2 c3 c4:Array Value}:∀ p∈[Pc.own e0 sz q0 n0 c0 xs,Pc.blk a2 t2 c2,Pc.blk a3 t3 c3,Pc.blk a4 t4 c4],p.cells:=by
 intro p hp
 simp only [List.mem_cons,List.not_mem_nil,or_false] at hp
 rcases hp with rfl | rfl | rfl | rfl
 ·exact Pc.own_cells _ _ _ _ _ _
 all_goals exact Pc.blk_cells _ _ _
theorem gr_feet {e0:TypeId} {sz:Nat} {q0:Option Addr} {n0 c0:Nat} {xs:List Value} {a2 a3 a4 b:Nat} {t2 t3 t4:TypeId} {c2 c3 c4:Array Value} (h0:∀ kk,blkOf q0=some kk→kk≠b) (h:a2≠b∧a3≠b∧a4≠b):∀ p∈[Pc.own e0 sz q0 n0 c0 xs,Pc.blk a2 t2 c2,Pc.blk a3 t3 c3,Pc.blk a4 t4 c4],∀ k,p.foot k→¬ k=b:=by
 intro p hp k hk e
 obtain⟨h2,h3,h4⟩:=h
 simp only [List.mem_cons,List.not_mem_nil,or_false] at hp
 rcases hp with rfl | rfl | rfl | rfl
 ·exact h0 k hk e
 ·exact h2 ((show k=a2 from hk).symm.trans e)
 ·exact h3 ((show k=a3 from hk).symm.trans e)
 ·exact h4 ((show k=a4 from hk).symm.trans e)
theorem RunOk (k f t:Int) (pw:Option Addr) (nw cw:Nat) (ws:List ByteArray) (rad most:Int) (po:Option Addr) (no co:Nat) (O:List Int) (pt:Option Addr) (nt ct:Nat) (T:List Int) (pr:Option Addr) (nr cr:Nat) (R:List Int) (pv:Option Addr) (nv cv:Nat) (V:List Int) (pl:Option Addr) (nl cl:Nat) (hs:List Hd) (L:List Po) (wk:Nat) (bud:Int) (pp:Option Addr) (np cp:Nat) (pk:List Int) (w:World) (n m:Nat) (rn:Nat→List Sq × List Sq) (hO:Rd w 1 po no (encI O)) (hT:Rd w 1 pt nt (encI T)) (hR:Rd w 1 pr nr (encI R)) (hV:Rd w 1 pv nv (encI V)) (hct:nt≤ct) (hcv:nv≤cv)
  (hL:RdP w pl nl hs L) (hW:Rd w 1 pw nw (encS ws)) (hpk:Rd w 1 pp np (encI pk)) (hck:checkR O T R V=true) (hn:O.length=n+1) (h200:n≤200) (h1:1≤wk) (h16:wk≤16)
  (hz:∀ s∈ws,s.size≤1000000) (hq:chkQ k f t ws rad most (n:Int)=0) (hb1:1≤bud) (hb2:bud≤9223372036854775807) (hm:m<200)
  (hk:k=1∨k=2∨k=3) (ht:I64 t) (hcw:nw≤cw) (hnw:nw≤100) (hok:PoOk L)
  (hr0:rn 0=([],startQ k f t 0)) (hrn:∀ i,RunI n i (rn i)) (hrs:∀ i,rn (i+1)=stepM (nextL k rad true O T R V) (rn i).1 (rn i).2)
  (hd:doneB k t (rn (m+1))=true) (hf:∀ j,j<m→doneB k t (rn (j+1))=false) :
  Calls Tryz.prog 17 #[.agg #[.int .i64 k,.int .i64 f,.int .i64 t,.slice pw nw cw,.int .i64 rad,.int .i64 most],.agg #[.slice po no co,.slice pt nt ct,.slice pr nr cr,.slice pv nv cv],.slice pl nl cl,.int .i64 wk,.int .i64 bud,.slice pp np cp] w (RunR k t L ws most bud m (rn (m+1)) w):=by
 have hno:no=n+1:=by rw [hO.nI,hn]
 have HCJ:=Lib.hid (fun W (h:Ext w W)=>CheckJ k f t pw nw cw ws rad most po no co O pt nt ct T pr nr cr R pv nv cv V W (hO.ext h) (hT.ext h) (hR.ext h) (hV.ext h) hct hcv (hW.ext h) hz (by omega))
 rw [hck] at HCJ
 have e1:chkJ true k f t ws rad most no=0:=by
  unfold chkJ
  rw [if_pos rfl,hno]
  have:((n+1:Nat):Int) - 1=n:=by omega
  rw [this,hq]
 rw [e1] at HCJ
 have HSQ:=Lib.hid (fun W=>StartQ k f t pw nw cw rad most 0 W)
 obtain⟨M0,hM0⟩:∃ M0,startQ k f t 0=M0:=⟨_,rfl⟩
 rw [hM0] at HSQ hr0
 have HIT:=Lib.hid (fun (W:World) (b bx:Nat) (pm:Option Addr) (nm cm:Nat) (Bd:Nat→Prop) =>
  stepsIt 8 (by omega) k f t pw nw cw ws rad most po no co O pt nt ct T pr nr cr R pv nv cv V pl nl cl hs L wk pp np cp pk w W b bx pm nm cm n rn Bd hO hT hR hV hct hcv hL hW hpk hck hn h200 h1 h16 hk ht hcw hnw hok (by rw [hr0]) hrn hrs)
 rw [hr0] at HIT
 have HHM:=Lib.hid (fun W=>HomeG 0 wk W (by omega) (by omega) h1 h16)
 have HDN:=Lib.hid hd
 have HFN:=Lib.hid hf
 have db:decide (bud<1)=false:=by simp;omega
 have S0:=Lib.hid ((((((((Sep.start w).al #[.int .i64 k,.int .i64 f,.int .i64 t,.slice pw nw cw,.int .i64 rad,.int .i64 most] 24 w.heap.size rfl).al #[.slice po no co,.slice pt nt ct,.slice pr nr cr,.slice pv nv cv] 27 (w.heap.size+1) (by simp)).al #[.int .i64 bud] 3 (w.heap.size+1+1) (by simp)).al #[.bool false,.int .i64 0,.slice none 0 0] 34 (w.heap.size+1+1+1) (by simp)).al #[.int .i64 0] 3 (w.heap.size+1+1+1+1) (by simp)).al #[.int .i64 0] 35 (w.heap.size+1+1+1+1+1) (by simp)))
 clear hO hT hR hV hct hcv hL hW hpk hck hn h200 h1 h16 hz hq hk ht hcw hnw hok hr0 hrn hrs hd hf hM0 e1 hno
 refine(callsIn_wide (n:=9)).1 ?_
 refine callsIn_of_wp_marks Tryz.func17 rfl trivial ?_ rfl
 simp only [Tryz.ntmps17,List.size_toArray,List.length_cons,List.length_nil,Nat.reduceAdd,Nat.reduceSub,Array.replicate_succ,Array.replicate_zero,List.push_toArray,List.append_toArray,List.nil_append,List.cons_append]
 refine wpIn_wide.2 ?_
 go_wp2_with (first | (go_at_call 49;go_must (refine(HCJ.out _ S0.out.ext).mono ?_;rintro e w1 ⟨rfl,hb⟩;have S1:=Lib.hid (S0.out.call hb);obtain⟨b0,bz⟩:=bkc0l (S1.out.blk 3 rfl);clear hb)) | (go_at_call 50;go_must (refine(HHM.out _).mono ?_;rintro e w2 ⟨rfl,rfl⟩)))
 refine wp_region_noPanic ?_
 refine wp_region_held_drew (S:=fun W=>Blk W w.heap.size 24 #[.int .i64 k,.int .i64 f,.int .i64 t,.slice pw nw cw,.int .i64 rad,.int .i64 most]∧Blk W (w.heap.size+1) 27 #[.slice po no co,.slice pt nt ct,.slice pr nr cr,.slice pv nv cv]) (by kernel_rfl) ⟨S1.out.drew.blk 5 rfl,S1.out.drew.blk 4 rfl⟩ (fun hHeld=>?_)
 have SD:=Lib.hid S1.out.drew
 clear S0 S1 b0 bz HCJ HHM db
 generalize World.drew _=D at SD hHeld ⊢
 refine wpAnyH_take (i:=0) (v:=.agg #[.int .i64 k,.int .i64 f,.int .i64 t,.slice pw nw cw,.int .i64 rad,.int .i64 most]) rfl (by kernel_rfl) (by kernel_rfl) (by kernel_rfl) (noPanic_q _ _) (Or.inl ⟨by kernel_rfl,fun W hSw=>by have h0:=hSw.1.cell 0;have h1:=hSw.1.cell 1;have h2:=hSw.1.cell 2;have h3:=hSw.1.cell 3;have h4:=hSw.1.cell 4;have h5:=hSw.1.cell 5;clear hSw;go_simp⟩) hHeld ?_
 refine wpAnyH_take (i:=1) (v:=.agg #[.slice po no co,.slice pt nt ct,.slice pr nr cr,.slice pv nv cv]) rfl (by kernel_rfl) (by kernel_rfl) (by kernel_rfl) (noPanic_q _ _) (Or.inl ⟨by kernel_rfl,fun W hSw=>by have h0:=hSw.2.cell 0;have h1:=hSw.2.cell 1;have h2:=hSw.2.cell 2;have h3:=hSw.2.cell 3;clear hSw;go_simp⟩) hHeld ?_
 refine wpAnyH_take (i:=2) (v:=.slice pl nl cl) rfl (by kernel_rfl) (by kernel_rfl) (by kernel_rfl) (noPanic_q _ _) (Or.inl ⟨by kernel_rfl,fun W hSw=>by skip;clear hSw;go_simp⟩) hHeld ?_
 refine wpAnyH_take (i:=3) (v:=.int .i64 wk) rfl (by kernel_rfl) (by kernel_rfl) (by kernel_rfl) (noPanic_q _ _) (Or.inl ⟨by kernel_rfl,fun W hSw=>by skip;clear hSw;go_simp⟩) hHeld ?_
 refine wpAnyH_take (i:=4) (v:=.slice pp np cp) rfl (by kernel_rfl) (by kernel_rfl) (by kernel_rfl) (noPanic_q _ _) (Or.inl ⟨by kernel_rfl,fun W hSw=>by skip;clear hSw;go_simp⟩) hHeld ?_
 refine wpAnyH_take (i:=5) (v:=.agg #[.int .i64 k,.int .i64 f,.int .i64 t,.slice pw nw cw,.int .i64 rad,.int .i64 most]) rfl (by kernel_rfl) (by kernel_rfl) (by kernel_rfl) (noPanic_q _ _) (Or.inl ⟨by kernel_rfl,fun W hSw=>by have h0:=hSw.1.cell 0;have h1:=hSw.1.cell 1;have h2:=hSw.1.cell 2;have h3:=hSw.1.cell 3;have h4:=hSw.1.cell 4;have h5:=hSw.1.cell 5;clear hSw;go_simp⟩) hHeld ?_
 refine wpAnyH_ready (rs:=[6]) (by kernel_rfl) (by simp) (AllReadyH.cons rfl (fun K hK=>?_) AllReadyH.nil)
 go_simp
 refine(HSQ.out D).mono ?_
 rintro e w3 ⟨q,c,rfl,Z⟩
 have S3:=Lib.hid (SD.out.comp Z)
 clear Z SD hHeld HSQ
 refine hK.out _ _ ⟨S3.out.blk 6 rfl,S3.out.blk 5 rfl⟩ (fun hHeld=>?_)
 clear hK
 refine wpAnyH_take (i:=7) (v:=.agg #[.int .i64 k,.int .i64 f,.int .i64 t,.slice pw nw cw,.int .i64 rad,.int .i64 most,.slice po no co,.slice pt nt ct,.slice pr nr cr,.slice pv nv cv,.slice pl nl cl,.int .i64 wk,.slice pp np cp,.slice none 0 0,.slice q M0.length c]) rfl (by kernel_rfl) (by kernel_rfl) (by kernel_rfl) (noPanic_q _ _) (Or.inl ⟨by kernel_rfl,fun W hSw=>by skip;clear hSw;go_simp⟩) hHeld ?_
 refine wpAnyH_ready (rs:=[8]) (by kernel_rfl) (by simp) (AllReadyH.cons rfl (fun K hK=>?_) AllReadyH.nil)
 go_simp
 have S4:=Lib.hid (S3.out.al #[.int .i64 k,.int .i64 f,.int .i64 t,.slice pw nw cw,.int .i64 rad,.int .i64 most,.slice po no co,.slice pt nt ct,.slice pr nr cr,.slice pv nv cv,.slice pl nl cl,.int .i64 wk,.slice pp np cp,.slice none 0 0,.slice q M0.length c] 87 w3.heap.size rfl)
 clear hHeld
 refine hK.out _ _ ⟨S4.out.blk 7 rfl,S4.out.blk 6 rfl⟩ (fun hHeld=>?_)
 clear hK
 refine wpAnyH_take (i:=9) (v:=.pointer (some ⟨w3.heap.size,0,none⟩)) rfl (by kernel_rfl) (by kernel_rfl) (by kernel_rfl) (noPanic_q _ _) (Or.inl ⟨by kernel_rfl,fun W hSw=>by skip;clear hSw;go_simp⟩) hHeld ?_
 refine wpAnyH_done (by kernel_rfl) ?_ _
 refine noPanic_mk ?_
 clear hHeld
 simp [Act.put]
 obtain⟨X,hX⟩:∃ X,w3.alloc (.cells #[.int .i64 k,.int .i64 f,.int .i64 t,.slice pw nw cw,.int .i64 rad,.int .i64 most,.slice po no co,.slice pt nt ct,.slice pr nr cr,.slice pv nv cv,.slice pl nl cl,.int .i64 wk,.slice pp np cp,.slice none 0 0,.slice q M0.length c] 87)=X:=⟨_,rfl⟩
 rw [hX] at S4 ⊢
 clear hX S3
 generalize w3.heap.size=b at S4 ⊢
 clear w3 D
 have S5:=Lib.hid (S4.out.al #[.int .i64 0] 3 X.heap.size rfl)
 have S6:=Lib.hid (S5.out.al #[.pointer (some ⟨b,0,none⟩)] 82 (X.heap.size+1) (by simp))
 go_wp2_with (go_at_call 52;go_must (refine(StepsG b _).mono ?_;rintro e w5 ⟨rfl,rfl⟩))
 obtain⟨V1,hV⟩:∃ V1,(X.alloc (.cells #[.int .i64 0] 3)).alloc (.cells #[.pointer (some ⟨b,0,none⟩)] 82)=V1:=⟨_,rfl⟩
 rw [hV] at S6 ⊢
 clear hV S5 S4
 generalize X.heap.size+1=bx at S6 ⊢
 generalize X.heap.size=gn at S6 ⊢
 generalize w.heap.size+1+1+1+1+1=g14 at S6 ⊢
 generalize w.heap.size+1+1+1+1=g13 at S6 ⊢
 generalize w.heap.size+1+1+1=g12 at S6 ⊢
 generalize w.heap.size+1+1=gb at S6 ⊢
 clear X
 have S7:=Lib.hid (S6.out.nilrow 146 4)
 have SG:=Lib.hid (S7.out.pick (Δ:=[Pc.blk gn 3 #[.int .i64 0],Pc.blk g12 34 #[.bool false,.int .i64 0,.slice none 0 0],Pc.blk g13 3 #[.int .i64 0],Pc.blk g14 35 #[.int .i64 0],Pc.blk gb 3 #[.int .i64 bud]]) [2,7,6,5,8] (by decide) rfl)
 have SX:=Lib.hid (S7.out.pick (Δ:=[Pc.blk b 87 #[.int .i64 k,.int .i64 f,.int .i64 t,.slice pw nw cw,.int .i64 rad,.int .i64 most,.slice po no co,.slice pt nt ct,.slice pr nr cr,.slice pv nv cv,.slice pl nl cl,.int .i64 wk,.slice pp np cp,.slice none 0 0,.slice q M0.length c],Pc.blk bx 82 #[.pointer (some ⟨b,0,none⟩)],Pc.own 146 4 none 0 0 (encQ []),Pc.own 138 4 q M0.length c (encQ M0)]) [3,1,0,4] (by decide) rfl)
 have hap:∀ p∈[Pc.blk b 87 #[.int .i64 k,.int .i64 f,.int .i64 t,.slice pw nw cw,.int .i64 rad,.int .i64 most,.slice po no co,.slice pt nt ct,.slice pr nr cr,.slice pv nv cv,.slice pl nl cl,.int .i64 wk,.slice pp np cp,.slice none 0 0,.slice q M0.length c],Pc.blk bx 82 #[.pointer (some ⟨b,0,none⟩)],Pc.own 146 4 none 0 0 (encQ []),Pc.own 138 4 q M0.length c (encQ M0)],∀ p2∈[Pc.blk gn 3 #[.int .i64 0],Pc.blk g12 34 #[.bool false,.int .i64 0,.slice none 0 0],Pc.blk g13 3 #[.int .i64 0],Pc.blk g14 35 #[.int .i64 0],Pc.blk gb 3 #[.int .i64 bud]],∀ kk,p.foot kk→p2.foot kk→False:=by
  have hA:=List.pairwise_append.1 (S7.out.pick (Δ:=[Pc.blk b 87 #[.int .i64 k,.int .i64 f,.int .i64 t,.slice pw nw cw,.int .i64 rad,.int .i64 most,.slice po no co,.slice pt nt ct,.slice pr nr cr,.slice pv nv cv,.slice pl nl cl,.int .i64 wk,.slice pp np cp,.slice none 0 0,.slice q M0.length c],Pc.blk bx 82 #[.pointer (some ⟨b,0,none⟩)],Pc.own 146 4 none 0 0 (encQ []),Pc.own 138 4 q M0.length c (encQ M0)] ++ [Pc.blk gn 3 #[.int .i64 0],Pc.blk g12 34 #[.bool false,.int .i64 0,.slice none 0 0],Pc.blk g13 3 #[.int .i64 0],Pc.blk g14 35 #[.int .i64 0],Pc.blk gb 3 #[.int .i64 bud]]) [3,1,0,4,2,7,6,5,8] (by decide) rfl).apart
  exact fun p hp p2 hp2 kk hk hk2=>hA.2.2 p hp p2 hp2 kk hk hk2
 have HAP:=Lib.hid hap
 clear S6 S7 hap
 have HNE:Hid (gn≠b∧g12≠b∧g13≠b∧g14≠b∧gb≠b):=by
  have key:∀ p2∈[Pc.blk gn 3 #[.int .i64 0],Pc.blk g12 34 #[.bool false,.int .i64 0,.slice none 0 0],Pc.blk g13 3 #[.int .i64 0],Pc.blk g14 35 #[.int .i64 0],Pc.blk gb 3 #[.int .i64 bud]],¬ p2.foot b:=fun p2 hp2 hk2=>HAP.out _ (List.mem_cons_self ..) p2 hp2 b rfl hk2
  exact⟨fun e=>key (Pc.blk gn 3 #[.int .i64 0]) (by simp) e.symm,fun e=>key (Pc.blk g12 34 #[.bool false,.int .i64 0,.slice none 0 0]) (by simp) e.symm,fun e=>key (Pc.blk g13 3 #[.int .i64 0]) (by simp) e.symm,fun e=>key (Pc.blk g14 35 #[.int .i64 0]) (by simp) e.symm,fun e=>key (Pc.blk gb 3 #[.int .i64 bud]) (by simp) e.symm⟩
 obtain⟨Bd,hBd⟩:∃ Bd:Nat→Prop,Bd=footA [Pc.blk gn 3 #[.int .i64 0],Pc.blk g12 34 #[.bool false,.int .i64 0,.slice none 0 0],Pc.blk g13 3 #[.int .i64 0],Pc.blk g14 35 #[.int .i64 0],Pc.blk gb 3 #[.int .i64 bud]]:=⟨_,rfl⟩
 have HBD:=Lib.hid hBd
 clear hBd
 refine wpIn_wide.1 (wpIn_rangeFunc_toldD (F:=Fence.wide) (n:=9) rfl (by omega) (gf:=93) (lb:=#[.pointer (some ⟨bx,0,none⟩)]) rfl trivial (enters_of Tryz.func93 (by kernel_rfl) rfl)
  (HIT.out V1 b bx q M0.length c Bd SX.out ?hBl ?hBf) ?hXl
  (fun h k=>h.trans k) ?hKb (Below.refl _ _) (fun _=>rfl)
  (fun (pre:List YdT) W=>Sep w W [Pc.blk gn 3 #[.int .i64 (pre.length:Int)],Pc.blk g12 34 #[.bool false,.int .i64 0,.slice none 0 0],Pc.blk g13 3 #[.int .i64 0],Pc.blk g14 35 #[.int .i64 0],Pc.blk gb 3 #[.int .i64 bud]]∧V1.heap.size≤W.heap.size∧pre.length≤m∧(pre.length:Int)<bud)
  (fun c2 (pre:List YdT) W=>(c2=.ret∧∃ y:YdT,pre.length=m+1∧(m:Int)+1≤bud∧(∀ kk,blkOf y.q=some kk→kk≠b)∧AnsD k t L ws most (rn (m+1)) y.yes y.d y.F∧Sep w W [Pc.own 105 2 y.q y.F.length y.c (encE y.F),Pc.blk g12 34 #[.bool y.yes,.int .i64 y.d,.slice y.q y.F.length y.c],Pc.blk g13 3 #[.int .i64 ((m:Int)+1)],Pc.blk g14 35 #[.int .i64 0]])∨(c2=.exit 0∧bud<(m:Int)+1∧Sep w W [Pc.blk gn 3 #[.int .i64 bud],Pc.blk g12 34 #[.bool false,.int .i64 0,.slice none 0 0],Pc.blk g13 3 #[.int .i64 0],Pc.blk g14 35 #[.int .i64 0],Pc.blk gb 3 #[.int .i64 bud]]))
  ?hI ?hIx ?hQ ?h0
  (fun (pre:List YdT) (y:YdT) a' W=>∃ ga,(∀ kk,blkOf y.q=some kk→kk≠b)∧ga≠b∧frRun (.pointer (some ⟨gb,0,none⟩)) (.pointer (some ⟨g12,0,none⟩)) (.pointer (some ⟨g13,0,none⟩)) (.pointer (some ⟨g14,0,none⟩)) (.pointer (some ⟨gn,0,none⟩)) (.pointer (some ⟨ga,0,none⟩)) (.bool y.dn) a'∧Sep w W ([Pc.blk ga 34 #[.bool y.yes,.int .i64 y.d,.slice y.q y.F.length y.c],Pc.own 105 2 y.q y.F.length y.c (encE y.F)] ++ [Pc.blk gn 3 #[.int .i64 (pre.length:Int)],Pc.blk g12 34 #[.bool false,.int .i64 0,.slice none 0 0],Pc.blk g13 3 #[.int .i64 0],Pc.blk g14 35 #[.int .i64 0],Pc.blk gb 3 #[.int .i64 bud]])∧AnsD k t L ws most (rn (pre.length+1)) y.yes y.d y.F∧y.dn=doneB k t (rn (pre.length+1)))
  ?hAx ?assign ?body (fun D xs W _ h _ _=>h.elim) ?stop)
 case hBl =>
  intro kk hk
  rw [HBD.out] at hk
  obtain⟨p,hp,hk⟩:=hk
  exact⟨SG.out.new p hp kk hk,SG.out.lt hp hk⟩
 case hBf =>
  intro p hp kk hk hb
  rw [HBD.out] at hb
  obtain⟨p2,hp2,hk2⟩:=hb
  exact HAP.out p hp p2 hp2 kk hk hk2
 case hXl=>rintro kk rfl;exact(SX.out.blk 0 rfl).lt
 case hKb=>exact fun W l o o' hl ho hc _=>KpN.putObj W l o o' hl ho hc
 case hI =>
  rintro pre W W' row ⟨S,h1,h2⟩ hg hr
  exact⟨S.turnX gi_cells (gi_feet HNE.out) (fun kk e=>by rw [e];exact SX.out.bge 0 rfl) SG.out.ext.size hg hr,Nat.le_trans h1 hg.size,h2⟩
 case hIx =>
  rintro c2 pre W W' row h hg hr
  rcases h with ⟨rfl,y,h1,h2,h3,h4,S⟩ | ⟨rfl,h1,S⟩
  ·exact .inl ⟨rfl,y,h1,h2,h3,h4,S.turnX gr_cells (gr_feet h3 ⟨HNE.out.2.1,HNE.out.2.2.1,HNE.out.2.2.2.1⟩) (fun kk e=>by rw [e];exact SX.out.bge 0 rfl) SG.out.ext.size hg hr⟩
  ·exact .inr ⟨rfl,h1,S.turnX gi_cells (gi_feet HNE.out) (fun kk e=>by rw [e];exact SX.out.bge 0 rfl) SG.out.ext.size hg hr⟩
 case hQ=>exact fun pre W h=>Nat.lt_of_le_of_lt h.2.2.1 hm
 case h0=>exact⟨SG.out,Nat.le_refl _,Nat.zero_le _,by show ((0:Nat):Int)<bud;omega⟩
 case hAx =>
  rintro pre y a' _ W W' row ⟨ga,h1,h2,h3,S,h4⟩ hg hr
  refine⟨ga,h1,h2,h3,S.turnX (fun p hp=>?_) (fun p hp kk hk e=>?_) (fun kk e=>by rw [e];exact SX.out.bge 0 rfl) SG.out.ext.size hg hr,h4⟩
  ·rcases List.mem_append.1 hp with hp | hp
   ·simp only [List.mem_cons,List.not_mem_nil,or_false] at hp
    rcases hp with rfl | rfl
    ·exact Pc.blk_cells _ _ _
    ·exact Pc.own_cells _ _ _ _ _ _
   ·exact gi_cells p hp
  ·rcases List.mem_append.1 hp with hp | hp
   ·simp only [List.mem_cons,List.not_mem_nil,or_false] at hp
    rcases hp with rfl | rfl
    ·exact h2 ((show kk=ga from hk).symm.trans e)
    ·exact h1 kk hk e
   ·exact gi_feet HNE.out p hp kk hk e
 case assign =>
  rintro l pre y V0 W Kx ⟨S,hVs,hpm,hpb⟩ hE ⟨hA1,hA2,hA3⟩ hKx
  have HKX:=Lib.hid hKx
  have SY:=Lib.hid ((S.comp hA1).al #[.bool y.yes,.int .i64 y.d,.slice y.q y.F.length y.c] 34 W.heap.size rfl)
  have HBV:=Lib.hid (show b<V0.heap.size from Nat.lt_of_lt_of_le (SX.out.blk 0 rfl).lt hVs)
  have HH:=Lib.hid (show ∀ kk,blkOf y.q=some kk→kk≠b from fun kk hk e=>by
   have:=hA1.new _ (List.mem_cons_self ..) kk hk
   have:=HBV.out
   omega)
  have HWS:=Lib.hid hE.size
  have HA2:=Lib.hid hA2
  have HA3:=Lib.hid hA3
  clear hKx S hA1 hA2 hA3
  simp only [ydE]
  gi_wp2
  exact HKX.out _ _ ((keeps_ext (Ext.alloc (Below.refl _ _) _)).from _) (KpN.of_ext (Ext.alloc (Below.refl _ _) _)) ⟨SY.out.pick [2,3,4,5,6] (by decide) rfl,by rw [World.size_alloc];have:=HWS.out;omega,hpm,hpb⟩ ⟨W.heap.size,HH.out,by have:=HWS.out;have:=HBV.out;omega,frRun_of,SY.out,HA2.out,HA3.out⟩
 case body =>
  rintro l pre y a' W ⟨_,hVs,hpm,hpb⟩ ⟨ga,hyb,hgb,hfr,S,hA,hdn⟩
  obtain⟨j,hj⟩:∃ j,pre.length=j:=⟨_,rfl⟩
  have hj2:(pre ++ [y]).length=j+1:=by rw [List.length_append,hj];rfl
  rw [hj] at hpm hpb S hA hdn
  obtain⟨pre2,hpre⟩:∃ pre2,pre ++ [y]=pre2:=⟨_,rfl⟩
  rw [hpre] at hj2 ⊢
  obtain⟨yes,d,F,yq,yc,dn⟩:=y
  dsimp only at hyb hfr S hA hdn
  have HJ2:=Lib.hid hj2
  have HYB:=Lib.hid hyb
  have HA:=Lib.hid hA
  clear hj hj2 hpre hyb hA
  obtain⟨n0,nf,nz⟩:=bkc0z0l (S.blk 2 rfl)
  have d1:(0:Int)≤(j:Int):=by omega
  have d2:(j:Int)≤1000:=by omega
  have S1:=Lib.hid (S.set 2 rfl 0 (.int .i64 ((j:Int)+1)))
  have K1:=Lib.hid (KeepsOthers.setCell W ⟨gn,0,none⟩ (.int .i64 ((j:Int)+1)))
  have KP:=Lib.hid (KpN.cell (Bd:=Bd) (C:=V1.heap.size) W ⟨gn,0,none⟩ (.int .i64 ((j:Int)+1)) (by rw [HBD.out];exact⟨_,List.mem_cons_self ..,rfl⟩))
  have HSZ:=Lib.hid (show V1.heap.size≤(W.setCell ⟨gn,0,none⟩ (.int .i64 ((j:Int)+1))).heap.size from Nat.le_trans hVs (grown_set ..).size)
  clear S
  unfold frRun at hfr
  (repeat obtain⟨_,hfr⟩:=hfr)
  by_cases hjm:j=m
  ·subst hjm
   have hdt:dn=true:=by rw [hdn,HDN.out]
   subst hdt
   clear hdn HFN
   gi_wp2
   clear n0 nf nz
   have S2:=Lib.hid (show Sep w (W.setCell ⟨gn,0,none⟩ (.int .i64 ((j:Int)+1))).drew ([Pc.blk ga 34 #[.bool yes,.int .i64 d,.slice yq F.length yc],Pc.own 105 2 yq F.length yc (encE F)] ++ [Pc.blk gn 3 #[.int .i64 ((j:Int)+1)],Pc.blk g12 34 #[.bool false,.int .i64 0,.slice none 0 0],Pc.blk g13 3 #[.int .i64 0],Pc.blk g14 35 #[.int .i64 0],Pc.blk gb 3 #[.int .i64 bud]]) from S1.out.drew)
   have K2:=Lib.hid (K1.out.trans (keeps_ext (Below.refl _ (W.setCell ⟨gn,0,none⟩ (.int .i64 ((j:Int)+1)))).drew))
   refine wpIn_region_heldR (S:=fun U=>Blk U ga 34 #[.bool yes,.int .i64 d,.slice yq F.length yc]∧Blk U gn 3 #[.int .i64 ((j:Int)+1)]) 4 rfl (noDefer_arr (by kernel_rfl)) (by kernel_rfl) ⟨S2.out.blk 0 rfl,S2.out.blk 2 rfl⟩ (fun hHeld=>?_)
   clear S1 K1 KP HSZ
   generalize World.drew _=D at S2 K2 hHeld ⊢
   refine wpAnyHI_take [2,3,4] (i:=0) (v:=.agg #[.bool yes,.int .i64 d,.slice yq F.length yc]) rfl rfl (by kernel_rfl) (by kernel_rfl) (by kernel_rfl) (by kernel_rfl) (fun _ _ _ h=>h) ⟨Or.inl ⟨by kernel_rfl,fun W hSw=>by have h0:=hSw.1.cell 0;have h1:=hSw.1.cell 1;have h2:=hSw.1.cell 2;have h3:=hSw.1.lt;clear hSw;go_simp⟩,fun _ _=>rfl⟩ hHeld ?_
   refine wpAnyHI_take [3,4] (i:=1) (v:=.int .i64 ((j:Int)+1)) rfl rfl (by kernel_rfl) (by kernel_rfl) (by kernel_rfl) (by kernel_rfl) (fun _ _ _ h=>h) ⟨Or.inl ⟨by kernel_rfl,fun W hSw=>by have h0:=hSw.2.cell 0;have h3:=hSw.2.lt;clear hSw;go_simp⟩,fun _ _=>rfl⟩ hHeld ?_
   obtain⟨c0,c1,c2,cz,cf0,cf1,cf2⟩:=bkc0c1c2lz0z1z2 (S2.out.blk 3 rfl)
   refine wpAnyHI_one (i:=2) (by kernel_rfl) rfl (by decide) (fun K hK=>?_)
   go_simp
   have S3:=Lib.hid (show Sep w (((D.setCell ⟨g12,0,none⟩ (.bool yes)).setCell ⟨g12,1,none⟩ (.int .i64 d)).setCell ⟨g12,2,none⟩ (.slice yq F.length yc)) [Pc.blk ga 34 #[.bool yes,.int .i64 d,.slice yq F.length yc],Pc.own 105 2 yq F.length yc (encE F),Pc.blk gn 3 #[.int .i64 ((j:Int)+1)],Pc.blk g12 34 #[.bool yes,.int .i64 d,.slice yq F.length yc],Pc.blk g13 3 #[.int .i64 0],Pc.blk g14 35 #[.int .i64 0],Pc.blk gb 3 #[.int .i64 bud]] from((S2.out.set 3 rfl 0 (.bool yes)).set 3 rfl 1 (.int .i64 d)).set 3 rfl 2 (.slice yq F.length yc))
   have K3:=Lib.hid (((K2.out.trans (KeepsOthers.setCell D ⟨g12,0,none⟩ (.bool yes))).trans (KeepsOthers.setCell _ ⟨g12,1,none⟩ (.int .i64 d))).trans (KeepsOthers.setCell _ ⟨g12,2,none⟩ (.slice yq F.length yc)))
   clear c0 c1 c2 cz cf0 cf1 cf2 S2 K2 hHeld
   refine hK _ _ ⟨S3.out.blk 0 rfl,S3.out.blk 2 rfl⟩ ?_
   clear hK
   generalize ((D.setCell ⟨g12,0,none⟩ (.bool yes)).setCell ⟨g12,1,none⟩ (.int .i64 d)).setCell ⟨g12,2,none⟩ (.slice yq F.length yc)=D3 at S3 K3 ⊢
   obtain⟨c0,cz,cf0⟩:=bkc0lz0 (S3.out.blk 4 rfl)
   refine wpAnyHI_one (i:=3) (by kernel_rfl) rfl (by decide) (fun K hK=>?_)
   go_simp
   have S4:=Lib.hid (show Sep w (D3.setCell ⟨g13,0,none⟩ (.int .i64 ((j:Int)+1))) [Pc.blk ga 34 #[.bool yes,.int .i64 d,.slice yq F.length yc],Pc.own 105 2 yq F.length yc (encE F),Pc.blk gn 3 #[.int .i64 ((j:Int)+1)],Pc.blk g12 34 #[.bool yes,.int .i64 d,.slice yq F.length yc],Pc.blk g13 3 #[.int .i64 ((j:Int)+1)],Pc.blk g14 35 #[.int .i64 0],Pc.blk gb 3 #[.int .i64 bud]] from S3.out.set 4 rfl 0 (.int .i64 ((j:Int)+1)))
   have K4:=Lib.hid (K3.out.trans (KeepsOthers.setCell D3 ⟨g13,0,none⟩ (.int .i64 ((j:Int)+1))))
   clear c0 cz cf0 S3 K3
   refine hK _ _ ⟨S4.out.blk 0 rfl,S4.out.blk 2 rfl⟩ ?_
   clear hK
   generalize D3.setCell ⟨g13,0,none⟩ (.int .i64 ((j:Int)+1))=D4 at S4 K4 ⊢
   obtain⟨c0,cz,cf0⟩:=bkc0lz0 (S4.out.blk 5 rfl)
   refine wpAnyHI_last (by kernel_rfl) rfl (fun K hK=>?_)
   go_simp
   have S5:=Lib.hid (S4.out.set 5 rfl 0 (.int .i64 0))
   have K5:=Lib.hid (K4.out.trans (KeepsOthers.setCell D4 ⟨g14,0,none⟩ (.int .i64 0)))
   clear c0 cz cf0 S4 K4
   refine hK _ _ ?_
   clear hK
   refine wpAnyIn_done (by kernel_rfl) ?_ _
   gi_wp2
   exact⟨K5.out.from _,.inl ⟨rfl,⟨yes,d,F,yq,yc,true⟩,HJ2.out,by omega,HYB.out,HA.out,S5.out.pick [1,3,4,5] (by decide) rfl⟩⟩
  ·have hdf:dn=false:=by rw [hdn];exact HFN.out j (by omega)
   subst hdf
   clear hdn HDN
   obtain⟨n1,n1z⟩:=bkc0l (S1.out.blk 2 rfl)
   obtain⟨b1,b1z⟩:=bkc0l (S1.out.blk 6 rfl)
   by_cases hjb:(j:Int)+1=bud
   ·subst hjb
    have e1:decide ((j:Int)+1=(j:Int)+1)=true:=by simp
    gi_wp2
    exact⟨K1.out.from _,.inr ⟨rfl,by omega,S1.out.pick [2,3,4,5,6] (by decide) rfl⟩⟩
   ·have e1:decide ((j:Int)+1=bud)=false:=by simpa using hjb
    have e2:((j:Int)+1 == bud)=false:=by simpa using hjb
    gi_wp2
    have hc:((pre2.length:Nat):Int)=(j:Int)+1:=by rw [HJ2.out];omega
    refine⟨K1.out.from _,KP.out,?_,HSZ.out,by rw [HJ2.out];omega,by rw [hc];omega⟩
    rw [hc]
    exact S1.out.pick [2,3,4,5,6] (by decide) rfl
 case stop =>
  rintro D c2 pre W hD _ (⟨rfl,y,hl,hmb,hyb,hA,S⟩ | ⟨rfl,hmb,S⟩) hK
  ·obtain⟨yes,d,F,yq,yc,dn⟩:=y
   dsimp only at hA S
   have S':=S.putObj gr_cells (.deferred none) (Nat.le_trans SG.out.ext.size hD) hK rfl
   obtain⟨x0,x1,x2⟩:=bkc0c1c2 (S'.blk 1 rfl)
   have x3:=(S'.blk 2 rfl).cell 0
   have x4:=(S'.blk 3 rfl).cell 0
   have SQ:=Lib.hid (S'.pick [0] (by decide) rfl:Sep w _ [Pc.own 105 2 yq F.length yc (encE F)])
   have HA:=Lib.hid hA
   clear hA S S'
   gi_wp2
   try rw [Exit.noGoto_ret]
   refine⟨by simp,.inl ⟨_,_,rfl,run_takeDeferred hK,?_⟩⟩
   exact⟨.tuple #[.agg #[.bool yes,.int .i64 d,.slice yq F.length yc],.int .i64 ((m:Int)+1),.int .i64 0],by simp [results,Tryz.results17,go_sem,x0,x1,x2,x3,x4,Tryz.sizeOf34,Tryz.isAgg34],yes,d,F,fun _=>⟨HA.out,yq,yc,rfl,SQ.out⟩,fun h=>absurd hmb (by omega)⟩
  ·have HDB:=Lib.hid (Nat.le_trans SG.out.ext.size hD)
   have HS:=Lib.hid (show Sep w W [Pc.blk gn 3 #[.int .i64 bud],Pc.blk g12 34 #[.bool false,.int .i64 0,.slice none 0 0],Pc.blk g13 3 #[.int .i64 0],Pc.blk g14 35 #[.int .i64 0],Pc.blk gb 3 #[.int .i64 bud],Pc.obj D (.deferred (some []))] from S.obj gi_cells HDB.out hK rfl)
   clear S hK
   gi_wp2
   go_wp2
   refine wp_region_noPanic ?_
   refine wp_region_held_drew (S:=fun U=>Blk U gn 3 #[.int .i64 bud]) (by kernel_rfl) (HS.out.drew.blk 0 rfl) (fun hHeld=>?_)
   have S2:=Lib.hid HS.out.drew
   clear HS
   generalize World.drew _=U at S2 hHeld ⊢
   refine wpAnyH_take (i:=0) (v:=.agg #[.bool false,.int .i64 0,.slice none 0 0]) rfl (by kernel_rfl) (by kernel_rfl) (by kernel_rfl) (noPanic_q _ _) (Or.inl ⟨by kernel_rfl,fun W hSw=>by skip;clear hSw;go_simp⟩) hHeld ?_
   refine wpAnyH_take (i:=1) (v:=.int .i64 bud) rfl (by kernel_rfl) (by kernel_rfl) (by kernel_rfl) (noPanic_q _ _) (Or.inl ⟨by kernel_rfl,fun W hSw=>by have h0:=hSw.cell 0;have h1:=hSw.lt;clear hSw;go_simp⟩) hHeld ?_
   obtain⟨c0,c1,c2,cz,cf0,cf1,cf2⟩:=bkc0c1c2lz0z1z2 (S2.out.blk 1 rfl)
   refine wpAnyH_ready (rs:=[2]) (by kernel_rfl) (by simp) (AllReadyH.cons rfl (fun K hK=>?_) AllReadyH.nil)
   go_simp
   have S3:=Lib.hid (((S2.out.set 1 rfl 0 (.bool false)).set 1 rfl 1 (.int .i64 0)).set 1 rfl 2 (.slice none 0 0))
   clear c0 c1 c2 cz cf0 cf1 cf2 S2 hHeld
   refine hK.out _ _ (S3.out.blk 0 rfl) (fun hHeld=>?_)
   clear hK
   generalize ((U.setCell ⟨g12,0,none⟩ (.bool false)).setCell ⟨g12,1,none⟩ (.int .i64 0)).setCell ⟨g12,2,none⟩ (.slice none 0 0)=U3 at S3 hHeld ⊢
   obtain⟨c0,cz,cf0⟩:=bkc0lz0 (S3.out.blk 2 rfl)
   refine wpAnyH_ready (rs:=[3]) (by kernel_rfl) (by simp) (AllReadyH.cons rfl (fun K hK=>?_) AllReadyH.nil)
   go_simp
   have S4:=Lib.hid (S3.out.set 2 rfl 0 (.int .i64 bud))
   clear c0 cz cf0 S3 hHeld
   refine hK.out _ _ (S4.out.blk 0 rfl) (fun hHeld=>?_)
   clear hK
   generalize U3.setCell ⟨g13,0,none⟩ (.int .i64 bud)=U4 at S4 hHeld ⊢
   obtain⟨c0,cz,cf0⟩:=bkc0lz0 (S4.out.blk 3 rfl)
   refine wpAnyH_ready (rs:=[4]) (by kernel_rfl) (by simp) (AllReadyH.cons rfl (fun K hK=>?_) AllReadyH.nil)
   go_simp
   have S5:=Lib.hid (show Sep w (U4.setCell ⟨g14,0,none⟩ (.int .i64 251)) [Pc.blk gn 3 #[.int .i64 bud],Pc.blk g12 34 #[.bool false,.int .i64 0,.slice none 0 0],Pc.blk g13 3 #[.int .i64 bud],Pc.blk g14 35 #[.int .i64 251],Pc.blk gb 3 #[.int .i64 bud],Pc.obj D (.deferred (some []))] from S4.out.set 3 rfl 0 (.int .i64 251))
   clear c0 cz cf0 S4 hHeld
   refine hK.out _ _ (S5.out.blk 0 rfl) (fun hHeld=>?_)
   clear hK hHeld
   refine wpAnyH_done (by kernel_rfl) ?_ _
   refine noPanic_mk ?_
   generalize U4.setCell ⟨g14,0,none⟩ (.int .i64 251)=U5 at S5 ⊢
   have hK:U5.heap[D]?=some (.deferred (some [])):=S5.out.all (Pc.obj D (.deferred (some []))) (by simp)
   have S':=(S5.out.pick (Δ:=[Pc.blk gn 3 #[.int .i64 bud],Pc.blk g12 34 #[.bool false,.int .i64 0,.slice none 0 0],Pc.blk g13 3 #[.int .i64 bud],Pc.blk g14 35 #[.int .i64 251],Pc.blk gb 3 #[.int .i64 bud]]) [0,1,2,3,4] (by decide) rfl).putObj gi_cells (.deferred none) HDB.out hK rfl
   obtain⟨x0,x1,x2⟩:=bkc0c1c2 (S'.blk 1 rfl)
   have x3:=(S'.blk 2 rfl).cell 0
   have x4:=(S'.blk 3 rfl).cell 0
   have SQ:=Lib.hid ((S'.nilrow 105 2).pick (Δ:=[Pc.own 105 2 none 0 0 (encE [])]) [0] (by decide) rfl)
   clear S' S5
   try simp [Act.put]
   go_wp2
   try rw [Exit.noGoto_ret]
   refine⟨by simp,.inl ⟨_,_,rfl,run_takeDeferred hK,?_⟩⟩
   exact⟨.tuple #[.agg #[.bool false,.int .i64 0,.slice none 0 0],.int .i64 bud,.int .i64 251],by simp [results,Tryz.results17,go_sem,x0,x1,x2,x3,x4,Tryz.sizeOf34,Tryz.isAgg34],false,0,[],fun h=>absurd hmb (by omega),fun _=>⟨none,0,rfl,SQ.out⟩⟩
end
section
open Go Go.RowKit
theorem home_any (wv:Int):∃ hv ok,ok=decide (1≤wv∧wv≤16)∧∀ W,Calls Tryz.prog 50 #[.int .i64 0,.int .i64 wv] W fun e w'=>e=.returned (.tuple #[.int .i64 hv,.bool ok])∧W=w':=by
 by_cases h:1≤wv∧wv≤16
 ·obtain⟨n,rfl⟩:∃ n:Nat,wv=(n:Int):=⟨wv.toNat,by omega⟩
  exact⟨_,true,by rw [decide_eq_true h],fun W=>HomeG 0 n W (by omega) (by omega) (by omega) (by omega)⟩
 ·exact⟨0,false,by rw [decide_eq_false h],fun W=>HomeNo 0 wv W (by omega)⟩
theorem RunErr (k f t:Int) (pw:Option Addr) (nw cw:Nat) (ws:List ByteArray) (rad most:Int) (po:Option Addr) (no co:Nat) (O:List Int) (pt:Option Addr) (nt ct:Nat) (T:List Int) (pr:Option Addr) (nr cr:Nat) (R:List Int) (pv:Option Addr) (nv cv:Nat) (V:List Int) (pl:Option Addr) (nl cl:Nat) (wv bud:Int) (pp:Option Addr) (np cp:Nat) (w:World) (hO:Rd w 1 po no (encI O)) (hT:Rd w 1 pt nt (encI T)) (hR:Rd w 1 pr nr (encI R)) (hV:Rd w 1 pv nv (encI V)) (hct:nt≤ct) (hcv:nv≤cv)
  (hW:Rd w 1 pw nw (encS ws)) (hz:∀ s∈ws,s.size≤1000000) (h1000:no≤1000)
  (h:chkJ (checkR O T R V) k f t ws rad most no≠0∨¬ (1≤wv∧wv≤16)∨bud<1) :
  Calls Tryz.prog 17 #[.agg #[.int .i64 k,.int .i64 f,.int .i64 t,.slice pw nw cw,.int .i64 rad,.int .i64 most],.agg #[.slice po no co,.slice pt nt ct,.slice pr nr cr,.slice pv nv cv],.slice pl nl cl,.int .i64 wv,.int .i64 bud,.slice pp np cp] w (RunQ false 0 [] 0 (if chkJ (checkR O T R V) k f t ws rad most no≠0 then chkJ (checkR O T R V) k f t ws rad most no else 1) w):=by
 have HCJ:=Lib.hid (fun W (h:Ext w W)=>CheckJ k f t pw nw cw ws rad most po no co O pt nt ct T pr nr cr R pv nv cv V W (hO.ext h) (hT.ext h) (hR.ext h) (hV.ext h) hct hcv (hW.ext h) hz h1000)
 obtain⟨E,hE⟩:∃ E,chkJ (checkR O T R V) k f t ws rad most no=E:=⟨_,rfl⟩
 rw [hE] at HCJ h ⊢
 obtain⟨hv,ok,hok,HH0⟩:=home_any wv
 have HHM:=Lib.hid HH0
 have S0:=Lib.hid ((((((((Sep.start w).al #[.int .i64 k,.int .i64 f,.int .i64 t,.slice pw nw cw,.int .i64 rad,.int .i64 most] 24 w.heap.size rfl).al #[.slice po no co,.slice pt nt ct,.slice pr nr cr,.slice pv nv cv] 27 (w.heap.size+1) (by simp)).al #[.int .i64 bud] 3 (w.heap.size+1+1) (by simp)).al #[.bool false,.int .i64 0,.slice none 0 0] 34 (w.heap.size+1+1+1) (by simp)).al #[.int .i64 0] 3 (w.heap.size+1+1+1+1) (by simp)).al #[.int .i64 0] 35 (w.heap.size+1+1+1+1+1) (by simp)))
 clear hO hT hR hV hct hcv hW hz HH0 hE h1000
 have key:E≠0∨(E=0∧ok=false)∨(E=0∧ok=true∧bud<1):=by
  by_cases h0:E=0
  ·right
   cases ok with
   | false=>exact .inl ⟨h0,rfl⟩
   | true =>
    have:=of_decide_eq_true hok.symm
    exact .inr ⟨h0,rfl,by rcases h with h | h | h <;> first | exact absurd h0 h | exact absurd this h | exact h⟩
  ·exact .inl h0
 clear h hok
 obtain⟨E2,hE2⟩:∃ E2,(if E≠0 then E else 1)=E2:=⟨_,rfl⟩
 rw [hE2]
 have HE2:=Lib.hid hE2
 clear hE2
 go_enter Tryz.func17,Tryz.ntmps17
 rcases key with h | ⟨rfl,rfl⟩ | ⟨rfl,rfl,h⟩
 ·have d1:decide (E=0)=false:=by simpa using h
  have d2:(E == 0)=false:=by simpa using h
  have e2:E2=E:=by rw [← HE2.out,if_pos h]
  subst e2
  clear HE2
  go_wp2_with (first | (go_at_call 49;go_must (refine(HCJ.out _ S0.out.ext).mono ?_;rintro e w1 ⟨rfl,hb⟩;have S1:=Lib.hid (S0.out.call hb);obtain⟨b0,bz⟩:=bkc0l (S1.out.blk 3 rfl);obtain⟨c0,c1,c2,cz,f0,f1,f2⟩:=bkc0c1c2lz0z1z2 (S1.out.blk 2 rfl);obtain⟨a0,az,g0⟩:=bkc0lz0 (S1.out.blk 1 rfl);obtain⟨y0,yz,h0⟩:=bkc0lz0 (S1.out.blk 0 rfl);clear hb)) | (go_at_call 50;go_must (refine(HHM.out _).mono ?_;rintro e w2 ⟨rfl,rfl⟩)))
  have S9:=((((S1.out.set 2 rfl 0 (.bool false)).set 2 rfl 1 (.int .i64 0)).set 2 rfl 2 (.slice none 0 0)).set 1 rfl 0 (.int .i64 0)).set 0 rfl 0 (.int .i64 E2)
  obtain⟨x0,x1,x2⟩:=bkc0c1c2 (S9.blk 2 rfl)
  have x3:=(S9.blk 1 rfl).cell 0
  have x4:=(S9.blk 0 rfl).cell 0
  exact bodyPost_ret (v:=.tuple #[.agg #[.bool false,.int .i64 0,.slice none 0 0],.int .i64 0,.int .i64 E2]) (by simp [results,Tryz.results17,go_sem,x0,x1,x2,x3,x4,Tryz.sizeOf34,Tryz.isAgg34]) rfl ⟨none,0,rfl,(S9.nilrow 105 2).pick [0] (by decide) rfl⟩
 ·have e2:E2=1:=by rw [← HE2.out,if_neg (by simp)]
  subst e2
  clear HE2
  go_wp2_with (first | (go_at_call 49;go_must (refine(HCJ.out _ S0.out.ext).mono ?_;rintro e w1 ⟨rfl,hb⟩;have S1:=Lib.hid (S0.out.call hb);obtain⟨b0,bz⟩:=bkc0l (S1.out.blk 3 rfl);obtain⟨c0,c1,c2,cz,f0,f1,f2⟩:=bkc0c1c2lz0z1z2 (S1.out.blk 2 rfl);obtain⟨a0,az,g0⟩:=bkc0lz0 (S1.out.blk 1 rfl);obtain⟨y0,yz,h0⟩:=bkc0lz0 (S1.out.blk 0 rfl);clear hb)) | (go_at_call 50;go_must (refine(HHM.out _).mono ?_;rintro e w2 ⟨rfl,rfl⟩)))
  have S9:=((((S1.out.set 2 rfl 0 (.bool false)).set 2 rfl 1 (.int .i64 0)).set 2 rfl 2 (.slice none 0 0)).set 1 rfl 0 (.int .i64 0)).set 0 rfl 0 (.int .i64 1)
  obtain⟨x0,x1,x2⟩:=bkc0c1c2 (S9.blk 2 rfl)
  have x3:=(S9.blk 1 rfl).cell 0
  have x4:=(S9.blk 0 rfl).cell 0
  exact bodyPost_ret (v:=.tuple #[.agg #[.bool false,.int .i64 0,.slice none 0 0],.int .i64 0,.int .i64 1]) (by simp [results,Tryz.results17,go_sem,x0,x1,x2,x3,x4,Tryz.sizeOf34,Tryz.isAgg34]) rfl ⟨none,0,rfl,(S9.nilrow 105 2).pick [0] (by decide) rfl⟩
 ·have e2:E2=1:=by rw [← HE2.out,if_neg (by simp)]
  subst e2
  clear HE2
  have d1:decide (bud<1)=true:=by simpa using h
  go_wp2_with (first | (go_at_call 49;go_must (refine(HCJ.out _ S0.out.ext).mono ?_;rintro e w1 ⟨rfl,hb⟩;have S1:=Lib.hid (S0.out.call hb);obtain⟨b0,bz⟩:=bkc0l (S1.out.blk 3 rfl);obtain⟨c0,c1,c2,cz,f0,f1,f2⟩:=bkc0c1c2lz0z1z2 (S1.out.blk 2 rfl);obtain⟨a0,az,g0⟩:=bkc0lz0 (S1.out.blk 1 rfl);obtain⟨y0,yz,h0⟩:=bkc0lz0 (S1.out.blk 0 rfl);clear hb)) | (go_at_call 50;go_must (refine(HHM.out _).mono ?_;rintro e w2 ⟨rfl,rfl⟩)))
  have S9:=((((S1.out.set 2 rfl 0 (.bool false)).set 2 rfl 1 (.int .i64 0)).set 2 rfl 2 (.slice none 0 0)).set 1 rfl 0 (.int .i64 0)).set 0 rfl 0 (.int .i64 1)
  obtain⟨x0,x1,x2⟩:=bkc0c1c2 (S9.blk 2 rfl)
  have x3:=(S9.blk 1 rfl).cell 0
  have x4:=(S9.blk 0 rfl).cell 0
  exact bodyPost_ret (v:=.tuple #[.agg #[.bool false,.int .i64 0,.slice none 0 0],.int .i64 0,.int .i64 1]) (by simp [results,Tryz.results17,go_sem,x0,x1,x2,x3,x4,Tryz.sizeOf34,Tryz.isAgg34]) rfl ⟨none,0,rfl,(S9.nilrow 105 2).pick [0] (by decide) rfl⟩
end
section
open Go Go.RowKit
theorem run_m {k f t rad most:Int} {ws:List ByteArray} {O T R V:List Int} {n:Nat} (hck:checkR O T R V=true) (hn:O.length=n+1) (h200:n≤200) (hq:chkQ k f t ws rad most (n:Int)=0) :
  (k=1∨k=2∨k=3)∧(∀ i,RunI n i (runM (nextL k rad true O T R V) (startQ k f t 0) i)) ∧
  ∃ m,m<n∧doneB k t (runM (nextL k rad true O T R V) (startQ k f t 0) (m+1))=true∧∀ j,j<m→doneB k t (runM (nextL k rad true O T R V) (startQ k f t 0) (j+1))=false:=by
 have hl:Leads n (nextL k rad true O T R V):=next_leads hck hn
 have ho:=chkQ_zero.1 hq
 by_cases h12:k=1∨k=2
 ·have hk:k=1∨k=2∨k=3:=by omega
  rw [okQ_12 h12,Bool.and_eq_true] at ho
  obtain⟨o1,o2⟩:=ho
  unfold plcB at o1 o2
  simp only [Bool.and_eq_true,decide_eq_true_eq] at o1 o2
  obtain⟨s,rfl⟩:∃ s:Nat,f=(s:Int):=⟨f.toNat,by omega⟩
  obtain⟨u,rfl⟩:∃ u:Nat,t=(u:Int):=⟨t.toNat,by omega⟩
  obtain⟨f1,f2,_⟩:=start_facts (k:=k) (rad:=rad) (most:=rad) (s:=s) (t:=u) (n:=n) hk (by omega) (fun _=>by omega) rfl rfl
  exact⟨hk,runI_all hl f1 f2,run_done hck hn h200 hk (by omega) (fun _=>by omega)⟩
 ·by_cases h3:k=3
  ·subst h3
   rw [okQ_3,Bool.and_eq_true,Bool.and_eq_true] at ho
   obtain⟨⟨o1,_⟩,_⟩:=ho
   unfold plcB at o1
   simp only [Bool.and_eq_true,decide_eq_true_eq] at o1
   obtain⟨s,rfl⟩:∃ s:Nat,f=(s:Int):=⟨f.toNat,by omega⟩
   have e1:startQ 3 (s:Int) t 0=startQ 3 (s:Int) ((0:Nat):Int) 0:=rfl
   have e2:∀ p,doneB 3 t p=doneB 3 ((0:Nat):Int) p:=fun p=>rfl
   obtain⟨f1,f2,_⟩:=start_facts (k:=3) (rad:=rad) (most:=rad) (s:=s) (t:=0) (n:=n) (Or.inr (Or.inr rfl)) (by omega) (fun h=>absurd h (by decide)) rfl rfl
   rw [e1]
   simp only [e2]
   exact⟨by simp,runI_all hl f1 f2,run_done (k:=3) (s:=s) (t:=0) hck hn h200 (Or.inr (Or.inr rfl)) (by omega) (fun h=>absurd h (by decide))⟩
  ·rw [okQ_else h12 h3] at ho
   cases ho
end
section
open Go Go.RowKit
def RunS (O T R V:List Int) (L:List Po) (k f t:Int) (ws:List ByteArray) (rad most wv bud:Int) (b:Bool) (d:Int) (F:List (Int × Int)) (n e:Int):Prop :=
 (chkJ (checkR O T R V) k f t ws rad most O.length≠0→b=false∧d=0∧F=[]∧n=0∧e=chkJ (checkR O T R V) k f t ws rad most O.length) ∧
 (chkJ (checkR O T R V) k f t ws rad most O.length=0→¬ (1≤wv∧wv≤16∧1≤bud)→b=false∧d=0∧F=[]∧n=0∧e=1) ∧
 (chkJ (checkR O T R V) k f t ws rad most O.length=0→1≤wv∧wv≤16∧1≤bud→(k=1∨k=2∨k=3)∧∃ m:Nat,m<O.length∧doneB k t (runM (nextL k rad true O T R V) (startQ k f t 0) (m+1))=true∧(∀ j,j<m→doneB k t (runM (nextL k rad true O T R V) (startQ k f t 0) (j+1))=false) ∧
  ((m:Int)+1≤bud→AnsD k t L ws most (runM (nextL k rad true O T R V) (startQ k f t 0) (m+1)) b d F∧n=(m:Int)+1∧e=0)∧(bud<(m:Int)+1→b=false∧d=0∧F=[]∧n=bud∧e=251))
theorem least_uniqB {p:Nat→Bool} {m m':Nat} (h:p m=true) (hf:∀ j,j<m→p j=false) (h':p m'=true) (hf':∀ j,j<m'→p j=false):m=m':=by
 rcases Nat.lt_trichotomy m m' with h1 | h1 | h1
 ·rw [hf' m h1] at h;cases h
 ·exact h1
 ·rw [hf m' h1] at h';cases h'
theorem RunG (k f t:Int) (pw:Option Addr) (nw cw:Nat) (ws:List ByteArray) (rad most:Int) (po:Option Addr) (no co:Nat) (O:List Int) (pt:Option Addr) (nt ct:Nat) (T:List Int) (pr:Option Addr) (nr cr:Nat) (R:List Int) (pv:Option Addr) (nv cv:Nat) (V:List Int) (pl:Option Addr) (nl cl:Nat) (hs:List Hd) (L:List Po) (wv bud:Int) (pp:Option Addr) (np cp:Nat) (pk:List Int) (w:World) (hO:Rd w 1 po no (encI O)) (hT:Rd w 1 pt nt (encI T)) (hR:Rd w 1 pr nr (encI R)) (hV:Rd w 1 pv nv (encI V)) (hct:nt≤ct) (hcv:nv≤cv)
  (hL:RdP w pl nl hs L) (hW:Rd w 1 pw nw (encS ws)) (hpk:Rd w 1 pp np (encI pk)) (h200:no≤200) (hz:∀ s∈ws,s.size≤1000000) (hb2:bud≤9223372036854775807)
  (ht:I64 t) (hcw:nw≤cw) (hnw:nw≤100) (hok:PoOk L) :
  Calls Tryz.prog 17 #[.agg #[.int .i64 k,.int .i64 f,.int .i64 t,.slice pw nw cw,.int .i64 rad,.int .i64 most],.agg #[.slice po no co,.slice pt nt ct,.slice pr nr cr,.slice pv nv cv],.slice pl nl cl,.int .i64 wv,.int .i64 bud,.slice pp np cp] w fun x w'=>∃ b d F n e,RunS O T R V L k f t ws rad most wv bud b d F n e∧RunQ b d F n e w x w':=by
 have hno:=hO.nI
 by_cases h0:chkJ (checkR O T R V) k f t ws rad most O.length=0
 ·by_cases h1:1≤wv∧wv≤16∧1≤bud
  ·have hck:checkR O T R V=true:=by
    cases hc:checkR O T R V with
    | true=>rfl
    | false=>rw [hc] at h0;unfold chkJ at h0;rw [if_neg (by simp)] at h0;cases h0
   have hq:chkQ k f t ws rad most ((O.length:Int) - 1)=0:=by rw [hck] at h0;unfold chkJ at h0;rw [if_pos rfl] at h0;exact h0
   obtain⟨n,hn⟩:∃ n,O.length=n+1:=by
    obtain⟨e1,e2,e3,e4⟩:=checkR_half hck
    obtain⟨r1,r2,r3,r4,r5,r6⟩:=offB_parts (halfB_off e3)
    exact⟨O.length - 1,by omega⟩
   have hq2:chkQ k f t ws rad most (n:Int)=0:=by rw [hn] at hq;rw [← hq];congr 1;omega
   obtain⟨hk,hI,m,hm,hd,hf⟩:=run_m (k:=k) (rad:=rad) hck hn (by omega) hq2
   obtain⟨wk,rfl⟩:∃ wk:Nat,wv=(wk:Int):=⟨wv.toNat,by omega⟩
   refine(RunOk k f t pw nw cw ws rad most po no co O pt nt ct T pr nr cr R pv nv cv V pl nl cl hs L wk bud pp np cp pk w n m (runM (nextL k rad true O T R V) (startQ k f t 0)) hO hT hR hV hct hcv hL hW hpk hck hn (by omega) (by omega) (by omega) hz hq2 h1.2.2 hb2 (by omega) hk ht hcw hnw hok rfl hI (fun _=>rfl) hd hf).mono ?_
   rintro x w' ⟨b,d,F,g1,g2⟩
   by_cases hb:(m:Int)+1≤bud
   ·obtain⟨a1,a2⟩:=g1 hb
    exact⟨b,d,F,_,_,⟨fun h=>absurd h0 h,fun _ h=>absurd h1 h,fun _ _=>⟨hk,m,by omega,hd,hf,fun _=>⟨a1,rfl,rfl⟩,fun h=>by omega⟩⟩,a2⟩
   ·exact⟨false,0,[],_,_,⟨fun h=>absurd h0 h,fun _ h=>absurd h1 h,fun _ _=>⟨hk,m,by omega,hd,hf,fun h=>absurd h hb,fun _=>⟨rfl,rfl,rfl,rfl,rfl⟩⟩⟩,g2 (by omega)⟩
  ·have h:=RunErr k f t pw nw cw ws rad most po no co O pt nt ct T pr nr cr R pv nv cv V pl nl cl wv bud pp np cp w hO hT hR hV hct hcv hW hz (by omega) (by rw [hno];omega)
   rw [hno,if_neg (by rw [h0];simp)] at h
   rw [hno]
   exact h.mono fun x w' hx=>⟨_,_,_,_,_,⟨fun h=>absurd h0 h,fun _ _=>⟨rfl,rfl,rfl,rfl,rfl⟩,fun _ h=>absurd h h1⟩,hx⟩
 ·have h:=RunErr k f t pw nw cw ws rad most po no co O pt nt ct T pr nr cr R pv nv cv V pl nl cl wv bud pp np cp w hO hT hR hV hct hcv hW hz (by omega) (Or.inl (by rw [hno];exact h0))
  rw [hno,if_pos h0] at h
  rw [hno]
  exact h.mono fun x w' hx=>⟨_,_,_,_,_,⟨fun _=>⟨rfl,rfl,rfl,rfl,rfl⟩,fun h=>absurd h h0,fun h=>absurd h h0⟩,hx⟩
end
section
open Go Go.RowKit
theorem chkJ_facts {O T R V:List Int} {k f t rad most:Int} {ws:List ByteArray} (h:chkJ (checkR O T R V) k f t ws rad most O.length=0) :
  checkR O T R V=true∧chkQ k f t ws rad most ((O.length:Int) - 1)=0∧∃ n,O.length=n+1∧0≤f∧f<n ∧
   ((k=1∨k=2)∧0≤t∧t<n∨k=3∧1≤ws.length∧ws.length≤8∧0≤rad∧rad≤200∧1≤most∧most≤100):=by
 have hck:checkR O T R V=true:=by
  cases hc:checkR O T R V with
  | true=>rfl
  | false=>rw [hc] at h;unfold chkJ at h;rw [if_neg (by simp)] at h;cases h
 have hq:chkQ k f t ws rad most ((O.length:Int) - 1)=0:=by rw [hck] at h;unfold chkJ at h;rw [if_pos rfl] at h;exact h
 obtain⟨n,hn⟩:∃ n,O.length=n+1:=by
  obtain⟨e1,e2,e3,e4⟩:=checkR_half hck
  obtain⟨r1,r2,r3,r4,r5,r6⟩:=offB_parts (halfB_off e3)
  exact⟨O.length - 1,by omega⟩
 refine⟨hck,hq,n,hn,?_⟩
 have ho:=chkQ_zero.1 hq
 by_cases h12:k=1∨k=2
 ·rw [okQ_12 h12,Bool.and_eq_true] at ho
  obtain⟨o1,o2⟩:=ho
  rw [plcB_iff] at o1 o2
  exact⟨by omega,by omega,.inl ⟨h12,by omega,by omega⟩⟩
 ·by_cases h3:k=3
  ·subst h3
   rw [okQ_3,Bool.and_eq_true,Bool.and_eq_true] at ho
   obtain⟨⟨o1,o2⟩,o3⟩:=ho
   rw [plcB_iff] at o1
   unfold manyB at o2
   unfold numB at o3
   simp only [Bool.and_eq_true,decide_eq_true_eq] at o2 o3
   exact⟨by omega,by omega,.inr ⟨rfl,by omega,by omega,by omega,by omega,by omega,by omega⟩⟩
  ·rw [okQ_else h12 h3] at ho
   cases ho
end
section
open Go Go.RowKit
def needL (O T R V:List Int) (k f t rad:Int) (wk m:Nat):List (List Int):=(List.range m).map fun i=>eachL (runM (nextL k rad true O T R V) (startQ k f t 0) (i+1)).1 wk
def NeedS (O T R V:List Int) (k f t:Int) (ws:List ByteArray) (rad most wv:Int) (X:List (List Int)) (e:Int):Prop :=
 (chkJ (checkR O T R V) k f t ws rad most O.length≠0→X=[]∧e=chkJ (checkR O T R V) k f t ws rad most O.length)∧(chkJ (checkR O T R V) k f t ws rad most O.length=0→¬ (1≤wv∧wv≤16)→X=[]∧e=1) ∧
 (chkJ (checkR O T R V) k f t ws rad most O.length=0→1≤wv∧wv≤16→e=0∧∃ m:Nat,m<O.length∧doneB k t (runM (nextL k rad true O T R V) (startQ k f t 0) (m+1))=true∧(∀ j,j<m→doneB k t (runM (nextL k rad true O T R V) (startQ k f t 0) (j+1))=false)∧X=needL O T R V k f t rad wv.toNat (m+1))
end
section
open Go Go.RowKit
theorem stepperCl (k f t:Int) (pw:Option Addr) (nw cw:Nat) (rad most:Int) (po:Option Addr) (no co:Nat) (pt:Option Addr) (nt ct:Nat) (pr:Option Addr) (nr cr:Nat) (pv:Option Addr) (nv cv:Nat) (pl:Option Addr) (nl cl wk:Nat) (p Y:List Sq × List Sq) (dn:Bool) (gq gr gl gw gs gm:Nat) (ps:Option Addr) (ns cs:Nat) (pm:Option Addr) (nm cm:Nat) (w0 w:World) (Γ:List Pc) (S:Sep w0 w (.own 146 4 ps ns cs (encQ p.1) :: .own 138 4 pm nm cm (encQ p.2) :: .blk gs 85 #[.slice ps ns cs] :: .blk gm 83 #[.slice pm nm cm] :: .blk gw 3 #[.int .i64 wk] :: .blk gl 28 #[.slice pl nl cl] :: .blk gr 27 #[.slice po no co,.slice pt nt ct,.slice pr nr cr,.slice pv nv cv] :: .blk gq 24 #[.int .i64 k,.int .i64 f,.int .i64 t,.slice pw nw cw,.int .i64 rad,.int .i64 most] :: Γ))
  (HST0:∀ W,Ext w0 W→Rd W 4 ps ns (encQ p.1)→Rd W 4 pm nm (encQ p.2)→Calls Tryz.prog 94 #[.agg #[.int .i64 k,.int .i64 f,.int .i64 t,.slice pw nw cw,.int .i64 rad,.int .i64 most],.agg #[.slice po no co,.slice pt nt ct,.slice pr nr cr,.slice pv nv cv],.slice ps ns cs,.slice pm nm cm,.int .i64 wk,.slice none 0 0] W fun e w'=>∃ q c q2 c2,e=.returned (.tuple #[.slice q Y.1.length c,.slice q2 Y.2.length c2,.int .i64 0])∧Sep W w' [.own 146 4 q Y.1.length c (encQ Y.1),.own 138 4 q2 Y.2.length c2 (encQ Y.2)])
  (HDN0:∀ (ps:Option Addr) (ns cs:Nat) (pm:Option Addr) (nm cm:Nat),ns=Y.1.length→∃ b d F,∀ W,Ext w0 W→Rd W 4 ps ns (encQ Y.1)→Rd W 4 pm nm (encQ Y.2)→Calls Tryz.prog 95 #[.agg #[.int .i64 k,.int .i64 f,.int .i64 t,.slice pw nw cw,.int .i64 rad,.int .i64 most],.slice pl nl cl,.slice ps ns cs,.slice pm nm cm] W (DoneQ b d F dn W)) :
  Calls Tryz.prog 108 #[.pointer (some ⟨gq,0,none⟩),.pointer (some ⟨gr,0,none⟩),.pointer (some ⟨gs,0,none⟩),.pointer (some ⟨gm,0,none⟩),.pointer (some ⟨gw,0,none⟩),.pointer (some ⟨gl,0,none⟩)] w fun e w'=>∃ q c q2 c2,e=.returned (.tuple #[.slice q Y.1.length c,.bool dn,.int .i64 0])∧Sep w0 w' (.own 146 4 q Y.1.length c (encQ Y.1) :: .own 138 4 q2 Y.2.length c2 (encQ Y.2) :: .blk gs 85 #[.slice q Y.1.length c] :: .blk gm 83 #[.slice q2 Y.2.length c2] :: .blk gw 3 #[.int .i64 wk] :: .blk gl 28 #[.slice pl nl cl] :: .blk gr 27 #[.slice po no co,.slice pt nt ct,.slice pr nr cr,.slice pv nv cv] :: .blk gq 24 #[.int .i64 k,.int .i64 f,.int .i64 t,.slice pw nw cw,.int .i64 rad,.int .i64 most] :: Γ):=by
 have SH:=Lib.hid S
 have HST:=Lib.hid HST0
 have HDN:=Lib.hid HDN0
 clear S HST0 HDN0
 obtain⟨s0,sz,sf⟩:=bkc0lz0 (SH.out.blk 2 rfl)
 obtain⟨m0,mz,mf⟩:=bkc0lz0 (SH.out.blk 3 rfl)
 obtain⟨v0,vz,vf⟩:=bkc0lz0 (SH.out.blk 4 rfl)
 obtain⟨b0,b1,b2,b3,bz⟩:=bkc0c1c2c3l (SH.out.blk 6 rfl)
 obtain⟨a0,a1,a2,a3,a4,a5,az⟩:=bkc0c1c2c3c4c5l (SH.out.blk 7 rfl)
 go_enter Tryz.func108,Tryz.ntmps108
 go_wp2_with (first
  | (go_at_call 95;have _t:=S3;go_must (obtain⟨yb,yd,yF,hDn⟩:=HDN.out q Y.1.length c q2 Y.2.length c2 rfl;refine(hDn _ S3.out.ext (S3.out.rdx 0 rfl) (S3.out.rdx 1 rfl)).mono ?_;rintro e w4 ⟨q5,c5',rfl,Z⟩;have S4:=Lib.hid ((S3.out.call Z.ext).junk (.cells #[.bool yb,.int .i64 yd,.slice q5 yF.length c5'] 34));clear Z hDn a0 a1 a2 a3 a4 a5 az l0 lz lf))
  | (go_at_call 94;go_must (refine(HST.out _ SH.out.ext (SH.out.rdx 0 rfl) (SH.out.rdx 1 rfl)).mono ?_;rintro e w1 ⟨q,c,q2,c2,rfl,Z⟩;have S1:=Lib.hid (SH.out.comp Z);clear Z a0 a1 a2 a3 a4 a5 az b0 b1 b2 b3 bz s0 sz sf m0 mz mf v0 vz vf;obtain⟨s0,sz,sf⟩:=bkc0lz0 (S1.out.blk 4 rfl);have S2:=Lib.hid (S1.out.set 4 rfl 0 (.slice q Y.1.length c));obtain⟨m0,mz,mf⟩:=bkc0lz0 (S2.out.blk 5 rfl);have S3':=Lib.hid (S2.out.set 5 rfl 0 (.slice q2 Y.2.length c2));obtain⟨l0,lz,lf⟩:=bkc0lz0 (S3'.out.blk 7 rfl);obtain⟨a0,a1,a2,a3,a4,a5,az⟩:=bkc0c1c2c3c4c5l (S3'.out.blk 9 rfl);have S3:=Lib.hid (show Sep w0 ((w1.setCell ⟨gs,0,none⟩ (.slice q Y.1.length c)).setCell ⟨gm,0,none⟩ (.slice q2 Y.2.length c2)) (.own 146 4 q Y.1.length c (encQ Y.1) :: .own 138 4 q2 Y.2.length c2 (encQ Y.2) :: .blk gs 85 #[.slice q Y.1.length c] :: .blk gm 83 #[.slice q2 Y.2.length c2] :: .blk gw 3 #[.int .i64 wk] :: .blk gl 28 #[.slice pl nl cl] :: .blk gr 27 #[.slice po no co,.slice pt nt ct,.slice pr nr cr,.slice pv nv cv] :: .blk gq 24 #[.int .i64 k,.int .i64 f,.int .i64 t,.slice pw nw cw,.int .i64 rad,.int .i64 most] :: Γ) from S3'.out.sub (List.Sublist.cons_cons _ (List.Sublist.cons_cons _ (List.Sublist.cons _ (List.Sublist.cons _ (List.Sublist.refl _))))));clear S2 S3')))
 go_ret3
 exact⟨q,c,q2,c2,rfl,S4.out⟩
end
section
open Go Go.RowKit
def rowsN (LL:List (List Int)) (hs:List Hd):List (Hd × List Value):=hs.zip (LL.map encI)
theorem rowsN_snoc (LL:List (List Int)) (hs:List Hd) (r:List Int) (a:Hd) (h:hs.length=LL.length):rowsN (LL ++ [r]) (hs ++ [a])=rowsN LL hs ++ [(a,encI r)]:=by
 unfold rowsN
 rw [List.map_append,List.zip_append (by simpa using h)];rfl
theorem rowsN_at {LL:List (List Int)} {hs:List Hd} {k:Nat} (h:hs.length=LL.length) (hk:k<LL.length):(nth hs k,encI (nth LL k))∈rowsN LL hs:=by
 unfold rowsN
 rw [List.mem_iff_getElem]
 refine⟨k,by simp;omega,?_⟩
 rw [List.getElem_zip,nth_eq (by omega),nth_eq hk,List.getElem_map]
theorem RdL.of_sep {w0 w:World} {Γ:List Pc} (S:Sep w0 w Γ) (j i:Nat) {q:Option Addr} {n c:Nat} {hs:List Hd} {LL:List (List Int)} (hj:Γ[j]?=some (.many 3 1 (rowsN LL hs))) (hi:Γ[i]?=some (.own 25 1 q n c (encH hs))) (hl:hs.length=LL.length):RdL w q n hs LL:=by
 have hr:=S.rdx i hi
 refine⟨hl,hr,fun k hk=>?_⟩
 have hn:=hr.nH
 have h1:=S.manyAt j hj _ (rowsN_at hl (show k<LL.length by omega))
 exact Rd.of_own h1 (own_small h1)
theorem encH_snoc (hs:List Hd) (a:Hd):encH hs ++ [a.v]=encH (hs ++ [a]):=by unfold encH;rw [List.map_append];rfl
theorem infRow:(Tryz.prog.info? 25).map (fun i=>(i.zero,i.size,i.bytes))=some (some (.slice none 0 0),1,24):=by kernel_rfl
def NdQ (X:List (List Int)) (e:Int) (w:World) (x:Ending) (w':World):Prop:=∃ q c hs,x=.returned (.tuple #[.slice q X.length c,.int .i64 e])∧RdL w' q X.length hs X∧Ext w w'
theorem ndQ_nil {e:Int} {w w':World} {x:Ending} (h:x=.returned (.tuple #[.slice none 0 0,.int .i64 e])) (hE:Ext w w'):NdQ [] e w x w':=⟨none,0,[],h,RdL.nil _,hE⟩
theorem stepperG (k f t:Int) (pw:Option Addr) (nw cw:Nat) (rad most:Int) (po:Option Addr) (no co:Nat) (pt:Option Addr) (nt ct:Nat) (pr:Option Addr) (nr cr:Nat) (pv:Option Addr) (nv cv:Nat) (pl:Option Addr) (nl cl wk:Nat) (w:World):Calls Tryz.prog 63 #[.agg #[.int .i64 k,.int .i64 f,.int .i64 t,.slice pw nw cw,.int .i64 rad,.int .i64 most],.agg #[.slice po no co,.slice pt nt ct,.slice pr nr cr,.slice pv nv cv],.slice pl nl cl,.int .i64 wk] w fun e w'=>∃ gq gr gl gw gs gm q c,e=.returned (.func (.func 108) #[] #[.pointer (some ⟨gq,0,none⟩),.pointer (some ⟨gr,0,none⟩),.pointer (some ⟨gs,0,none⟩),.pointer (some ⟨gm,0,none⟩),.pointer (some ⟨gw,0,none⟩),.pointer (some ⟨gl,0,none⟩)])∧Sep w w' (.own 146 4 none 0 0 (encQ (([]:List Sq),startQ k f t 0).1) :: .own 138 4 q (startQ k f t 0).length c (encQ (([]:List Sq),startQ k f t 0).2) :: .blk gs 85 #[.slice none 0 0] :: .blk gm 83 #[.slice q (startQ k f t 0).length c] :: .blk gw 3 #[.int .i64 wk] :: .blk gl 28 #[.slice pl nl cl] :: .blk gr 27 #[.slice po no co,.slice pt nt ct,.slice pr nr cr,.slice pv nv cv] :: .blk gq 24 #[.int .i64 k,.int .i64 f,.int .i64 t,.slice pw nw cw,.int .i64 rad,.int .i64 most] :: []):=by
 have S0:=Lib.hid ((((((Sep.start w).al #[.int .i64 k,.int .i64 f,.int .i64 t,.slice pw nw cw,.int .i64 rad,.int .i64 most] 24 w.heap.size rfl).al #[.slice po no co,.slice pt nt ct,.slice pr nr cr,.slice pv nv cv] 27 (w.heap.size+1) (by simp)).al #[.slice pl nl cl] 28 (w.heap.size+1+1) (by simp)).al #[.int .i64 wk] 3 (w.heap.size+1+1+1) (by simp)).al #[.slice none 0 0] 85 (w.heap.size+1+1+1+1) (by simp))
 have HS:=Lib.hid (fun W=>StartQ k f t pw nw cw rad most 0 W)
 generalize startQ k f t 0=M at *
 go_enter Tryz.func63,Tryz.ntmps63
 go_wp2_with (go_at_call 51;go_must (refine(HS.out _).mono ?_;rintro e w1 ⟨q,c,rfl,Z⟩;have S1:=Lib.hid (((S0.out.comp Z).al #[.slice q M.length c] 83 w1.heap.size rfl).nilrow 146 4);clear Z))
 go_ret
 exact⟨_,_,_,_,_,_,q,c,rfl,S1.out.pick [0,2,3,1,4,5,6,7] (by decide) rfl⟩
theorem runS_err {O T R V:List Int} {L:List Po} {k f t:Int} {ws:List ByteArray} {rad most wv:Int} {b:Bool} {d:Int} {F:List (Int × Int)} {n e:Int} (h200:O.length≤201) (h:RunS O T R V L k f t ws rad most wv 1000 b d F n e) :
  e=if chkJ (checkR O T R V) k f t ws rad most O.length≠0 then chkJ (checkR O T R V) k f t ws rad most O.length else if 1≤wv∧wv≤16 then 0 else 1:=by
 by_cases h0:chkJ (checkR O T R V) k f t ws rad most O.length=0
 ·rw [if_neg (by rw [h0];simp)]
  by_cases h1:1≤wv∧wv≤16
  ·rw [if_pos h1]
   obtain⟨_,m,a1,_,_,a4,_⟩:=h.2.2 h0 ⟨h1.1,h1.2,by omega⟩
   exact(a4 (by omega)).2.2
  ·rw [if_neg h1]
   exact(h.2.1 h0 (by omega)).2.2.2.2
 ·rw [if_pos h0]
  exact(h.1 h0).2.2.2.2
theorem StepsErr (k f t:Int) (pw:Option Addr) (nw cw:Nat) (rad most:Int) (po:Option Addr) (no co:Nat) (pt:Option Addr) (nt ct:Nat) (pr:Option Addr) (nr cr:Nat) (pv:Option Addr) (nv cv:Nat) (pl:Option Addr) (nl cl:Nat) (wv E:Int) (P:Bool→Int→List (Int × Int)→Int→Int→Prop) (w:World) (hE:E≠0)
  (HRN0:∀ W,Ext w W→Calls Tryz.prog 17 #[.agg #[.int .i64 k,.int .i64 f,.int .i64 t,.slice pw nw cw,.int .i64 rad,.int .i64 most],.agg #[.slice po no co,.slice pt nt ct,.slice pr nr cr,.slice pv nv cv],.slice pl nl cl,.int .i64 wv,.int .i64 1000,.slice none 0 0] W fun x w'=>∃ b d F n e,P b d F n e∧RunQ b d F n e W x w') (HER0:∀ b d F n e,P b d F n e→E=e) :
  Calls Tryz.prog 34 #[.agg #[.int .i64 k,.int .i64 f,.int .i64 t,.slice pw nw cw,.int .i64 rad,.int .i64 most],.agg #[.slice po no co,.slice pt nt ct,.slice pr nr cr,.slice pv nv cv],.slice pl nl cl,.int .i64 wv] w (NdQ [] E w):=by
 have S0:=Lib.hid (((Sep.start w).al #[.int .i64 k,.int .i64 f,.int .i64 t,.slice pw nw cw,.int .i64 rad,.int .i64 most] 24 w.heap.size rfl).al #[.slice po no co,.slice pt nt ct,.slice pr nr cr,.slice pv nv cv] 27 (w.heap.size+1) (by simp))
 have HRN:=Lib.hid HRN0
 have HER:=Lib.hid HER0
 have d1:decide (E=0)=false:=by simpa using hE
 have d2:(E == 0)=false:=by simpa using hE
 clear hE HRN0 HER0
 go_enter Tryz.func34,Tryz.ntmps34
 go_wp2
 go_step3
 go_wp2_with (go_at_call 17;go_must (refine(HRN.out _ S0.out.ext).mono ?_;rintro e w1 ⟨b1',d1',F1,n1',e1',g1,q1,c1,rfl,Z⟩;obtain rfl:=HER.out _ _ _ _ _ g1;have S1:=Lib.hid ((S0.out.call Z.ext).al #[.bool b1',.int .i64 d1',.slice q1 F1.length c1] 34 w1.heap.size rfl);obtain⟨b0,b1,b2,b3,bz⟩:=bkc0c1c2c3l (S1.out.blk 1 rfl);obtain⟨a0,a1,a2,a3,a4,a5,az⟩:=bkc0c1c2c3c4c5l (S1.out.blk 2 rfl);clear Z g1))
 try rw [Exit.noGoto_ret]
 go_ret2
 exact ndQ_nil rfl S1.out.ext
def ndR (rn:Nat→List Sq × List Sq) (wk m:Nat):List (List Int):=(List.range m).map fun i=>eachL (rn (i+1)).1 wk
theorem ndR_snoc (rn:Nat→List Sq × List Sq) (wk m:Nat):ndR rn wk (m+1)=ndR rn wk m ++ [eachL (rn (m+1)).1 wk]:=by
 unfold ndR
 rw [List.range_succ,List.map_append]
 rfl
theorem ndR_len (rn:Nat→List Sq × List Sq) (wk m:Nat):(ndR rn wk m).length=m:=by simp [ndR]
theorem sq_ok {n i:Nat} {p:List Sq × List Sq} (h:RunI n i p) (hn:n≤200) (hi:i≤201):∀ x∈p.1,x.I∧(-1000000≤x.d∧x.d≤1000000)∧mayB x=true:=fun x hx=>by
 obtain⟨hk,x5,x6⟩:=h.st x hx
 have hm:=may_run hk hn (by omega) (by omega)
 obtain⟨x1,x2,x3,x4⟩:=hk
 refine⟨?_,⟨by omega,by omega⟩,hm⟩
 unfold Sq.I I64
 have q1:IntKind.i64.min = -9223372036854775808:=rfl
 have q2:IntKind.i64.max=9223372036854775807:=rfl
 refine⟨?_,?_,?_,?_⟩ <;> (show (_ && _)=true;simp;omega)
theorem StepsOk (k f t:Int) (pw:Option Addr) (nw cw:Nat) (ws:List ByteArray) (rad most:Int) (po:Option Addr) (no co:Nat) (O:List Int) (pt:Option Addr) (nt ct:Nat) (T:List Int) (pr:Option Addr) (nr cr:Nat) (R:List Int) (pv:Option Addr) (nv cv:Nat) (V:List Int) (pl:Option Addr) (nl cl:Nat) (hs:List Hd) (L:List Po) (wk n m:Nat) (rn:Nat→List Sq × List Sq) (w:World) (hO:Rd w 1 po no (encI O)) (hT:Rd w 1 pt nt (encI T)) (hR:Rd w 1 pr nr (encI R)) (hV:Rd w 1 pv nv (encI V)) (hct:nt≤ct) (hcv:nv≤cv)
  (hL:RdP w pl nl hs L) (hW:Rd w 1 pw nw (encS ws)) (hck:checkR O T R V=true) (hn:O.length=n+1) (h200:n≤200) (h1:1≤wk) (h16:wk≤16)
  (hm:m<200) (hk:k=1∨k=2∨k=3) (ht:I64 t) (hcw:nw≤cw) (hnw:nw≤100) (hok:PoOk L)
  (hr0:rn 0=([],startQ k f t 0)) (hrn:∀ i,RunI n i (rn i)) (hrs:∀ i,rn (i+1)=stepM (nextL k rad true O T R V) (rn i).1 (rn i).2)
  (hdn:doneB k t (rn (m+1))=true) (hfn:∀ j,j<m→doneB k t (rn (j+1))=false)
  (P:Bool→Int→List (Int × Int)→Int→Int→Prop)
  (HRN0:∀ W,Ext w W→Calls Tryz.prog 17 #[.agg #[.int .i64 k,.int .i64 f,.int .i64 t,.slice pw nw cw,.int .i64 rad,.int .i64 most],.agg #[.slice po no co,.slice pt nt ct,.slice pr nr cr,.slice pv nv cv],.slice pl nl cl,.int .i64 wk,.int .i64 1000,.slice none 0 0] W fun x w'=>∃ b d F n e,P b d F n e∧RunQ b d F n e W x w') (HER0:∀ b d F n e,P b d F n e→0=e) :
  Calls Tryz.prog 34 #[.agg #[.int .i64 k,.int .i64 f,.int .i64 t,.slice pw nw cw,.int .i64 rad,.int .i64 most],.agg #[.slice po no co,.slice pt nt ct,.slice pr nr cr,.slice pv nv cv],.slice pl nl cl,.int .i64 wk] w (NdQ (ndR rn wk (m+1)) 0 w):=by
 obtain⟨i0,hi0,hz0,hz1,hz2⟩:=info_parts infRow
 have S0:=Lib.hid (((Sep.start w).al #[.int .i64 k,.int .i64 f,.int .i64 t,.slice pw nw cw,.int .i64 rad,.int .i64 most] 24 w.heap.size rfl).al #[.slice po no co,.slice pt nt ct,.slice pr nr cr,.slice pv nv cv] 27 (w.heap.size+1) (by simp))
 have HRN:=Lib.hid HRN0
 have HER:=Lib.hid HER0
 have HST:=Lib.hid (fun i (hi:i≤200) (W:World) (E:Ext w W) (ps:Option Addr) (ns cs:Nat) (pm:Option Addr) (nm cm:Nat) (hs:Rd W 4 ps ns (encQ (rn i).1)) (hm:Rd W 4 pm nm (encQ (rn i).2)) =>
  StepRun k f t pw nw cw rad most po no co O pt nt ct T pr nr cr R pv nv cv V W n i (rn i) ps ns cs pm nm cm wk none 0 0 [] (hO.ext E) (hT.ext E) (hR.ext E) (hV.ext E) hct hcv hck hn h200 hi (hrn i) h1 h16 hs hm (Rd.nil _ _ _))
 have HLN:=Lib.hid (fun i=>show (rn i).1.length≤400 by have:=run_most (hrn i).kst (fun x hx=>((hrn i).st x hx).1);omega)
 have HDN:=Lib.hid (fun i (hi:i≤201) (ps:Option Addr) (ns cs:Nat) (pm:Option Addr) (nm cm:Nat) (hns:ns=(rn i).1.length)=>show ∃ b d F,∀ W,Ext w W→Rd W 4 ps ns (encQ (rn i).1)→Rd W 4 pm nm (encQ (rn i).2) →
   Calls Tryz.prog 95 #[.agg #[.int .i64 k,.int .i64 f,.int .i64 t,.slice pw nw cw,.int .i64 rad,.int .i64 most],.slice pl nl cl,.slice ps ns cs,.slice pm nm cm] W (DoneQ b d F (doneB k t (rn i)) W) by
  have hx:=sq_ok (hrn i) h200 hi
  obtain⟨b,d,F,hA,hD⟩:=Done_run k f t pw nw cw ws rad most pl nl cl hs L ps ns cs (rn i).1 pm nm cm (rn i).2 hk ht hcw hnw hok (fun x h=>(hx x h).1) (fun x h=>(hx x h).2.1) (by have:=HLN.out i;omega)
  exact⟨b,d,F,fun W E g1 g2=>(hD W (hL.ext E) (hW.ext E) g1 g2).1⟩)
 have HEA:=Lib.hid (fun i (hi:i≤201) (ps:Option Addr) (ns cs:Nat) W (hr:Rd W 4 ps ns (encQ (rn i).1))=>EachG ps ns cs (rn i).1 wk W hr (fun x hx=>(sq_ok (hrn i) h200 hi x hx).2.2) h1 h16 (by rw [hr.nQ];have:=HLN.out i;omega))
 have HRS:=Lib.hid hrs
 have HR0:=Lib.hid hr0
 have HDM:=Lib.hid hdn
 have HFN:=Lib.hid hfn
 have HSG:=Lib.hid (fun W=>stepperG k f t pw nw cw rad most po no co pt nt ct pr nr cr pv nv cv pl nl cl wk W)
 clear hO hT hR hV hct hcv hL hW hck hn h200 h1 h16 hk ht hcw hnw hok hr0 hrn hrs hdn hfn HRN0 HER0
 go_enter Tryz.func34,Tryz.ntmps34
 go_wp2
 go_step3
 go_wp2_with (first
  | (go_at_call 63;go_must (refine(HSG.out _).mono ?_;rintro e w2 ⟨gq,gr,gl,gw,gs,gm,q2,c2,rfl,Z⟩;have SZ:=Lib.hid (show Sep w w2 (.own 146 4 none 0 0 (encQ (([]:List Sq),startQ k f t 0).1) :: .own 138 4 q2 (startQ k f t 0).length c2 (encQ (([]:List Sq),startQ k f t 0).2) :: .blk gs 85 #[.slice none 0 0] :: .blk gm 83 #[.slice q2 (startQ k f t 0).length c2] :: .blk gw 3 #[.int .i64 wk] :: .blk gl 28 #[.slice pl nl cl] :: .blk gr 27 #[.slice po no co,.slice pt nt ct,.slice pr nr cr,.slice pv nv cv] :: .blk gq 24 #[.int .i64 k,.int .i64 f,.int .i64 t,.slice pw nw cw,.int .i64 rad,.int .i64 most] :: []) from((Sep.start w).call S1.out.ext).comp Z);clear a0 a1 a2 a3 a4 a5 az b0 b1 b2 b3 bz;clear Z))
  | (go_at_call 17;go_must (refine(HRN.out _ S0.out.ext).mono ?_;rintro e w1 ⟨b1',d1',F1,n1',e1',g1,q1,c1,rfl,Z⟩;obtain rfl:=HER.out _ _ _ _ _ g1;have S1:=Lib.hid ((S0.out.call Z.ext).al #[.bool b1',.int .i64 d1',.slice q1 F1.length c1] 34 w1.heap.size rfl);obtain⟨b0,b1,b2,b3,bz⟩:=bkc0c1c2c3l (S1.out.blk 1 rfl);obtain⟨a0,a1,a2,a3,a4,a5,az⟩:=bkc0c1c2c3c4c5l (S1.out.blk 2 rfl);clear Z g1)))
 have S4:Hid (Sep w w2 (.own 146 4 none 0 0 (encQ (rn 0).1) :: .own 138 4 q2 (startQ k f t 0).length c2 (encQ (rn 0).2) :: .blk gs 85 #[.slice none 0 0] :: .blk gm 83 #[.slice q2 (startQ k f t 0).length c2] :: .blk gw 3 #[.int .i64 wk] :: .blk gl 28 #[.slice pl nl cl] :: .blk gr 27 #[.slice po no co,.slice pt nt ct,.slice pr nr cr,.slice pv nv cv] :: .blk gq 24 #[.int .i64 k,.int .i64 f,.int .i64 t,.slice pw nw cw,.int .i64 rad,.int .i64 most] :: [.own 25 1 none 0 0 (encH []),.many 3 1 (rowsN (ndR rn wk 0) [])])):=by
  unfold Hid
  rw [HR0.out]
  exact((SZ.out.nilrow 25 1).many0 3 1).pick [2,3,4,5,6,7,8,9,1,0] (by decide) rfl
 clear S0 S1 SZ HSG HR0 HRN HER
 go_step3
 go_wp2
 go_loopg [13,15,16,17,18,19] m (fun g ov _ _ _ _ _ wr=>∃ (i:Nat) (ps:Option Addr) (ns cs:Nat) (pm:Option Addr) (nm cm:Nat) (qo:Option Addr) (oc:Nat) (hd:List Hd),i+g=m∧ov=.slice qo i oc∧Hid (hd.length=i)∧Hid (Sep w wr (.own 146 4 ps ns cs (encQ (rn i).1) :: .own 138 4 pm nm cm (encQ (rn i).2) :: .blk gs 85 #[.slice ps ns cs] :: .blk gm 83 #[.slice pm nm cm] :: .blk gw 3 #[.int .i64 wk] :: .blk gl 28 #[.slice pl nl cl] :: .blk gr 27 #[.slice po no co,.slice pt nt ct,.slice pr nr cr,.slice pv nv cv] :: .blk gq 24 #[.int .i64 k,.int .i64 f,.int .i64 t,.slice pw nw cw,.int .i64 rad,.int .i64 most] :: [.own 25 1 qo i oc (encH hd),.many 3 1 (rowsN (ndR rn wk i) hd)])))
 case atStart=>exact⟨0,none,0,0,q2,(startQ k f t 0).length,c2,none,0,[],by omega,rfl,rfl,S4⟩
 case round =>
  clear S4
  obtain⟨i,ps,ns,cs,pm,nm,cm,qo,oc,hd,hig,rfl,HHD,SH⟩:=hrel
  have hi200:i≤200:=by omega
  have HST1:=Lib.hid (fun W h ps ns cs pm nm cm g1 g2=>HST.out i hi200 W h ps ns cs pm nm cm g1 g2)
  rw [← HRS.out i] at HST1
  have HDN1:=Lib.hid (HDN.out (i+1) (by omega))
  have HEA1:=Lib.hid (HEA.out (i+1) (by omega))
  have HSN:=Lib.hid (ndR_snoc rn wk i)
  obtain⟨Y,hY⟩:∃ Y,rn (i+1)=Y:=⟨_,rfl⟩
  have HRY:=Lib.hid hY
  rw [hY] at HST1 HDN1 HEA1 HSN
  obtain⟨dn,hdnb⟩:∃ dn,doneB k t Y=dn:=⟨_,rfl⟩
  rw [hdnb] at HDN1
  have HSC:=Lib.hid (stepperCl k f t pw nw cw rad most po no co pt nt ct pr nr cr pv nv cv pl nl cl wk (rn i) Y dn gq gr gl gw gs gm ps ns cs pm nm cm w wr _ SH.out (fun W h g1 g2=>HST1.out W h ps ns cs pm nm cm g1 g2) HDN1.out)
  have HDB:=Lib.hid hdnb
  have HIG:=Lib.hid hig
  clear hY hdnb HST1 HDN1 hig
  by_cases him:i=m
  ·obtain rfl:dn=true:=by rw [← HDB.out,← HRY.out,him,HDM.out]
   subst him
   go_wp2_with (first | (at_builtin;have _t:=S2;go_must (refine wpList_append_sep rfl _ _ _ rfl 25 i0 _ 1 24 Tryz.underlying45 hi0 hz0 hz1 hz2 rfl (by omega) (S2.out.junk _) 9 qo i oc _ rfl rfl _ 1 1 _ rfl (Rd.new _ _ _ 1 1 rfl (by omega)) (one_slice _ _ _) (by omega) (by omega) ?_;intro u' e' w6 S' hsz;have S3:=Lib.hid S';clear S' hsz)) | (go_at_call 64;have _t:=S1;go_must (refine(HEA1.out _ _ _ _ (S1.out.rdx 0 rfl)).mono ?_;rintro e w5 ⟨q5,rfl,Z⟩;have S2:=Lib.hid (S1.out.comp Z);clear Z)) | (go_at_call 108;go_must (refine HSC.out.mono ?_;rintro e w4 ⟨q3,c3',q4,c4',rfl,Z⟩;have S1:=Lib.hid Z;clear Z)))
   try rw [Exit.noGoto_ret]
   go_ret2
   have HL2:=Lib.hid (ndR_len rn wk (i+1))
   have S5:=(S3.out.pick (Δ:=(.own 3 1 q5 wk wk (encI (eachL Y.1 wk)) :: .many 3 1 (rowsN (ndR rn wk i) hd) :: (.own 146 4 q3 Y.1.length c3' (encQ Y.1) :: .own 138 4 q4 Y.2.length c4' (encQ Y.2) :: .blk gs 85 #[.slice q3 Y.1.length c3'] :: .blk gm 83 #[.slice q4 Y.2.length c4'] :: .blk gw 3 #[.int .i64 wk] :: .blk gl 28 #[.slice pl nl cl] :: .blk gr 27 #[.slice po no co,.slice pt nt ct,.slice pr nr cr,.slice pv nv cv] :: .blk gq 24 #[.int .i64 k,.int .i64 f,.int .i64 t,.slice pw nw cw,.int .i64 rad,.int .i64 most] :: [.own 25 1 u' (i+1) e' (encH hd ++ [.slice q5 wk wk])]))) [0,10,1,2,3,4,5,6,7,8,9] (by decide) rfl).gather
   rw [show encH hd ++ [Value.slice q5 wk wk]=encH (hd ++ [⟨q5,wk,wk⟩]) from encH_snoc hd ⟨q5,wk,wk⟩,← rowsN_snoc _ _ _ _ (by rw [HHD.out,ndR_len]),← HSN.out] at S5
   have S6:Sep w w6 [.many 3 1 (rowsN (ndR rn wk (i+1)) (hd ++ [⟨q5,wk,wk⟩])),.own 25 1 u' (i+1) e' (encH (hd ++ [⟨q5,wk,wk⟩]))]:=S5.pick [0,9] (by decide) rfl
   exact⟨u',e',hd ++ [⟨q5,wk,wk⟩],by rw [HL2.out];rfl,by rw [HL2.out];exact RdL.of_sep S6 0 1 rfl rfl (by rw [List.length_append,HHD.out,HL2.out];rfl),S6.ext⟩
  ·obtain rfl:dn=false:=by rw [← HDB.out,← HRY.out,HFN.out i (by have:=HIG.out;omega)]
   have hlt:i<m:=by have:=HIG.out;omega
   clear him
   go_wp2_with (first | (at_builtin;have _t:=S2;go_must (refine wpList_append_sep rfl _ _ _ rfl 25 i0 _ 1 24 Tryz.underlying45 hi0 hz0 hz1 hz2 rfl (by omega) (S2.out.junk _) 9 qo i oc _ rfl rfl _ 1 1 _ rfl (Rd.new _ _ _ 1 1 rfl (by omega)) (one_slice _ _ _) (by omega) (by omega) ?_;intro u' e' w6 S' hsz;have S3:=Lib.hid S';clear S' hsz)) | (go_at_call 64;have _t:=S1;go_must (refine(HEA1.out _ _ _ _ (S1.out.rdx 0 rfl)).mono ?_;rintro e w5 ⟨q5,rfl,Z⟩;have S2:=Lib.hid (S1.out.comp Z);clear Z)) | (go_at_call 108;go_must (refine HSC.out.mono ?_;rintro e w4 ⟨q3,c3',q4,c4',rfl,Z⟩;have S1:=Lib.hid Z;clear Z)))
   have S5:=(S3.out.pick (Δ:=(.own 3 1 q5 wk wk (encI (eachL Y.1 wk)) :: .many 3 1 (rowsN (ndR rn wk i) hd) :: (.own 146 4 q3 Y.1.length c3' (encQ Y.1) :: .own 138 4 q4 Y.2.length c4' (encQ Y.2) :: .blk gs 85 #[.slice q3 Y.1.length c3'] :: .blk gm 83 #[.slice q4 Y.2.length c4'] :: .blk gw 3 #[.int .i64 wk] :: .blk gl 28 #[.slice pl nl cl] :: .blk gr 27 #[.slice po no co,.slice pt nt ct,.slice pr nr cr,.slice pv nv cv] :: .blk gq 24 #[.int .i64 k,.int .i64 f,.int .i64 t,.slice pw nw cw,.int .i64 rad,.int .i64 most] :: [.own 25 1 u' (i+1) e' (encH hd ++ [.slice q5 wk wk])]))) [0,10,1,2,3,4,5,6,7,8,9] (by decide) rfl).gather
   rw [show encH hd ++ [Value.slice q5 wk wk]=encH (hd ++ [⟨q5,wk,wk⟩]) from encH_snoc hd ⟨q5,wk,wk⟩,← rowsN_snoc _ _ _ _ (by rw [HHD.out,ndR_len]),← HSN.out] at S5
   have HS5:=Lib.hid S5
   clear S5
   go_roundg (m - (i+1))
   case rel=>exact⟨i+1,q3,Y.1.length,c3',q4,Y.2.length,c4',u',e',hd ++ [⟨q5,wk,wk⟩],by omega,rfl,by unfold Hid;rw [List.length_append,HHD.out];rfl,by unfold Hid;rw [HRY.out];exact HS5.out.pick [1,2,3,4,5,6,7,8,9,0] (by decide) rfl⟩
   case measure=>have:=HIG.out;omega
end
section
open Go Go.RowKit
theorem needSteps (k f t:Int) (pw:Option Addr) (nw cw:Nat) (ws:List ByteArray) (rad most:Int) (po:Option Addr) (no co:Nat) (O:List Int) (pt:Option Addr) (nt ct:Nat) (T:List Int) (pr:Option Addr) (nr cr:Nat) (R:List Int) (pv:Option Addr) (nv cv:Nat) (V:List Int) (pl:Option Addr) (nl cl:Nat) (hs:List Hd) (L:List Po) (wv:Int) (w:World) (hO:Rd w 1 po no (encI O)) (hT:Rd w 1 pt nt (encI T)) (hR:Rd w 1 pr nr (encI R)) (hV:Rd w 1 pv nv (encI V)) (hct:nt≤ct) (hcv:nv≤cv)
  (hL:RdP w pl nl hs L) (hW:Rd w 1 pw nw (encS ws)) (h200:no≤200) (hz:∀ s∈ws,s.size≤1000000) (ht:I64 t) (hcw:nw≤cw) (hnw:nw≤100) (hok:PoOk L) :
  Calls Tryz.prog 34 #[.agg #[.int .i64 k,.int .i64 f,.int .i64 t,.slice pw nw cw,.int .i64 rad,.int .i64 most],.agg #[.slice po no co,.slice pt nt ct,.slice pr nr cr,.slice pv nv cv],.slice pl nl cl,.int .i64 wv] w fun x w'=>∃ X e,NeedS O T R V k f t ws rad most wv X e∧NdQ X e w x w':=by
 have hno:=hO.nI
 have HRN:=fun W (h:Ext w W)=>RunG k f t pw nw cw ws rad most po no co O pt nt ct T pr nr cr R pv nv cv V pl nl cl hs L wv 1000 none 0 0 [] W (hO.ext h) (hT.ext h) (hR.ext h) (hV.ext h) hct hcv (hL.ext h) (hW.ext h) (Rd.nil _ _ _) h200 hz (by decide) ht hcw hnw hok
 by_cases h0:chkJ (checkR O T R V) k f t ws rad most O.length=0
 ·by_cases h1:1≤wv∧wv≤16
  ·obtain⟨hck,hq,n,hn,_⟩:=chkJ_facts h0
   have hq2:chkQ k f t ws rad most (n:Int)=0:=by rw [← hq];congr 1;omega
   obtain⟨hk,hI,m,hm,hd,hf⟩:=run_m (k:=k) (rad:=rad) hck hn (by omega) hq2
   obtain⟨wk,rfl⟩:∃ wk:Nat,wv=(wk:Int):=⟨wv.toNat,by omega⟩
   refine(StepsOk k f t pw nw cw ws rad most po no co O pt nt ct T pr nr cr R pv nv cv V pl nl cl hs L wk n m (runM (nextL k rad true O T R V) (startQ k f t 0)) w hO hT hR hV hct hcv hL hW hck hn (by omega) (by omega) (by omega) (by omega) hk ht hcw hnw hok rfl hI (fun _=>rfl) hd hf _ HRN (fun b d F n' e hR=>?_)).mono ?_
   ·have:=runS_err (by omega) hR
    rw [this,h0,if_neg (by simp),if_pos h1]
   ·intro x w' hx
    exact⟨_,0,⟨fun h=>absurd h0 h,fun _ h=>absurd h1 h,fun _ _=>⟨rfl,m,by omega,hd,hf,by rw [Int.toNat_natCast];rfl⟩⟩,hx⟩
  ·refine(StepsErr k f t pw nw cw rad most po no co pt nt ct pr nr cr pv nv cv pl nl cl wv 1 _ w (by decide) HRN (fun b d F n' e hR=>?_)).mono ?_
   ·have:=runS_err (by omega) hR
    rw [this,h0,if_neg (by simp),if_neg h1]
   ·intro x w' hx
    exact⟨[],1,⟨fun h=>absurd h0 h,fun _ _=>⟨rfl,rfl⟩,fun _ h=>absurd h h1⟩,hx⟩
 ·refine(StepsErr k f t pw nw cw rad most po no co pt nt ct pr nr cr pv nv cv pl nl cl wv (chkJ (checkR O T R V) k f t ws rad most O.length) _ w h0 HRN (fun b d F n' e hR=>?_)).mono ?_
  ·have:=runS_err (by omega) hR
   rw [this,if_pos h0]
  ·intro x w' hx
   exact⟨[],_,⟨fun _=>⟨rfl,rfl⟩,fun h=>absurd h h0,fun h=>absurd h h0⟩,hx⟩
end
section
open Go Go.RowKit
theorem longR_snoc (l:List (List Int)) (r:List Int):longR (l ++ [r])=max (longR l) r.length:=by
 induction l with
 | nil=>show max r.length 0=max 0 r.length;omega
 | cons a l ih=>show max a.length (longR (l ++ [r]))=max (max a.length (longR l)) r.length;rw [ih];omega
theorem longR_le {l:List (List Int)} {b:Nat} (h:∀ r∈l,r.length≤b):longR l≤b:=by
 induction l with
 | nil=>exact Nat.zero_le _
 | cons a l ih =>
  have:=ih fun r hr=>h r (List.mem_cons_of_mem _ hr)
  have:=h a (List.mem_cons_self ..)
  show max a.length (longR l)≤b
  omega
theorem longR_ge {l:List (List Int)} {r:List Int} (h:r∈l):r.length≤longR l:=by
 induction l with
 | nil=>cases h
 | cons a l ih =>
  show r.length≤max a.length (longR l)
  rcases List.mem_cons.1 h with rfl | h
  ·omega
  ·have:=ih h;omega
def addK (acc r:List Int) (k:Nat):List Int:=(List.range acc.length).map fun i=>nth acc i+if i<k then nth r i else 0
theorem addK_len (acc r:List Int) (k:Nat):(addK acc r k).length=acc.length:=by simp [addK]
theorem addK_nth {acc r:List Int} {k i:Nat} (h:i<acc.length):nth (addK acc r k) i=nth acc i+if i<k then nth r i else 0:=by
 unfold addK
 rw [nth_eq (by rw [List.length_map,List.length_range];exact h),List.getElem_map,List.getElem_range]
theorem addK_zero (acc r:List Int):addK acc r 0=acc:=by
 refine List.ext_getElem (addK_len _ _ _) fun i h1 h2=>?_
 have:=addK_nth (acc:=acc) (r:=r) (k:=0) h2
 rw [nth_eq h1,nth_eq h2] at this
 rw [this,if_neg (by omega)];omega
theorem addK_succ {acc r:List Int} {k:Nat}:addK acc r (k+1)=(addK acc r k).set k (nth acc k+nth r k):=by
 refine List.ext_getElem (by simp [addK]) fun i h1 h2=>?_
 rw [addK_len] at h1
 have e:=addK_nth (acc:=acc) (r:=r) (k:=k+1) h1
 have e2:=addK_nth (acc:=acc) (r:=r) (k:=k) h1
 rw [nth_eq (by rw [addK_len];exact h1)] at e e2
 rw [e,List.getElem_set]
 by_cases h:k=i
 ·subst h;rw [if_pos (by omega),if_pos rfl]
 ·rw [if_neg h,e2]
  by_cases g:i<k
  ·rw [if_pos g,if_pos (by omega)]
  ·rw [if_neg g,if_neg (by omega)]
def accR (N:Nat) (LL:List (List Int)) (j:Nat):List Int:=(List.range N).map (sumAt (LL.take j))
theorem accR_len (N:Nat) (LL:List (List Int)) (j:Nat):(accR N LL j).length=N:=by simp [accR]
theorem accR_nth {N:Nat} {LL:List (List Int)} {j i:Nat} (h:i<N):nth (accR N LL j) i=sumAt (LL.take j) i:=by
 unfold accR
 rw [nth_eq (by rw [List.length_map,List.length_range];exact h),List.getElem_map,List.getElem_range]
theorem sumAt_snoc (l:List (List Int)) (r:List Int) (i:Nat):sumAt (l ++ [r]) i=sumAt l i+nth r i:=by
 unfold sumAt
 rw [List.map_append,List.sum_append]
 simp
theorem accR_zero (N:Nat) (LL:List (List Int)):accR N LL 0=List.replicate N 0:=by
 unfold accR
 refine List.ext_getElem (by simp) fun i h1 h2=>?_
 simp [sumAt]
theorem accR_succ {N:Nat} {LL:List (List Int)} {j:Nat} (hj:j<LL.length):accR N LL (j+1)=addK (accR N LL j) (nth LL j) (nth LL j).length:=by
 refine List.ext_getElem (by rw [addK_len,accR_len,accR_len]) fun i h1 h2=>?_
 rw [accR_len] at h1
 have e1:=accR_nth (LL:=LL) (j:=j+1) h1
 have e2:=addK_nth (acc:=accR N LL j) (r:=nth LL j) (k:=(nth LL j).length) (i:=i) (by rw [accR_len];exact h1)
 rw [nth_eq (by rw [accR_len];exact h1)] at e1
 rw [nth_eq (by rw [addK_len,accR_len];exact h1),accR_nth h1] at e2
 rw [e1,e2,take_succ_nth LL j hj,sumAt_snoc]
 by_cases h:i<(nth LL j).length
 ·rw [if_pos h]
 ·rw [if_neg h,nth_over (by omega)]
theorem accR_all (LL:List (List Int)):accR (longR LL) LL LL.length=sumR LL:=by unfold accR sumR;rw [List.take_length]
def SmL (LL:List (List Int)):Prop:=LL.length≤1000∧∀ r∈LL,r.length≤1000∧∀ x∈r,-1000000000≤x∧x≤1000000000
theorem smL_at {LL:List (List Int)} (h:SmL LL) {j i:Nat} (hj:j<LL.length):-1000000000≤nth (nth LL j) i∧nth (nth LL j) i≤1000000000:=by
 have hr:=(h.2 (nth LL j) (by rw [nth_eq hj];exact List.getElem_mem _)).2
 by_cases hi:i<(nth LL j).length
 ·exact hr _ (by rw [nth_eq hi];exact List.getElem_mem _)
 ·rw [nth_over (by omega)];omega
theorem smL_sum {LL:List (List Int)} (h:SmL LL) (i:Nat):∀ j,j≤LL.length→-(1000000000*(j:Int))≤sumAt (LL.take j) i∧sumAt (LL.take j) i≤1000000000*(j:Int)
 | 0,_=>by simp [sumAt]
 | j+1,hj=>by
  have ih:=smL_sum h i j (by omega)
  have:=smL_at h (i:=i) (show j<LL.length by omega)
  rw [take_succ_nth LL j (by omega),sumAt_snoc]
  omega
theorem sumCl1 (m:Nat) (p:Option Addr) (n c:Nat) (w:World):Calls Tryz.prog 60 #[.int .i64 m,.slice p n c] w fun e w'=>e=.returned (.int .i64 ((max m n:Nat):Int))∧w=w':=by
 have e1:max (m:Int) (n:Int)=((max m n:Nat):Int):=by omega
 have HE:=Lib.hid e1
 go_enter Tryz.func60,Tryz.ntmps60
 go_wp2
 go_ret
 exact⟨by rw [← HE.out];rfl,rfl⟩
theorem FoldMax (p:Option Addr) (n c:Nat) (hs:List Hd) (LL:List (List Int)) (w:World) (hL:RdL w p n hs LL) :
  Calls Tryz.prog 59 #[.int .i64 0,.slice p n c,.func (.func 60) #[] #[]] w fun e w'=>e=.returned (.int .i64 ((longR LL:Nat):Int))∧w=w':=by
 have p1:=hL.row.ptr
 have n1:=hL.row.small
 have L1:=Lib.hid hL.nL
 have HL:=Lib.hid hL
 clear hL
 go_enter Tryz.func59,Tryz.ntmps59
 go_wp2
 go_loop [0,8,11] (fun x _ i=>∃ k m:Nat,k≤n∧i=.int .i64 k∧x=.int .i64 (m:Int)∧Hid (m=longR (LL.take k))) (fun _ _ i=>n - (intOf i).toNat)
 case atStart=>exact⟨0,0,Nat.zero_le _,rfl,rfl,rfl⟩
 case round =>
  obtain⟨k,m,hk,rfl,rfl,HM⟩:=hrel
  by_cases hlt:k<n
  ·have g1:=HL.out.row.cH hlt
   have hkl:k<LL.length:=by rw [← L1.out];exact hlt
   have hln:(nth hs k).n=(nth LL k).length:=(HL.out.each k hlt).nI
   have HM2:Hid (max m (nth hs k).n=longR (LL.take (k+1))):=by unfold Hid;rw [take_succ_nth LL k hkl,longR_snoc,← HM.out,hln]
   have d1:(0:Int)≤k:=by omega
   have d2:(k:Int)<n:=by omega
   have HC:=Lib.hid (fun W=>sumCl1 m (nth hs k).p (nth hs k).n (nth hs k).c W)
   clear hln hkl
   generalize nth hs k=hd at *
   obtain⟨hp,hn',hc⟩:=hd
   simp only at g1 HM2 HC
   obtain⟨m2,hm2⟩:∃ m2,max m hn'=m2:=⟨_,rfl⟩
   rw [hm2] at HM2 HC
   clear hm2 HM
   go_wp2_with (go_at_call 60;go_must (refine(HC.out _).mono ?_;rintro e w' ⟨rfl,rfl⟩))
   go_round
   case rel=>exact⟨k+1,m2,by omega,by go_num,rfl,HM2.out⟩
   case measure=>simp [intOf];omega
  ·have HF:Hid (m=longR LL):=by
    unfold Hid
    rw [HM.out,List.take_of_length_le (by rw [← L1.out];omega)]
   go_wp2
   go_ret
   exact⟨by rw [HF.out];rfl,rfl⟩
theorem sumCl2 (pr:Option Addr) (n cr:Nat) (r acc:List Int) (q:Option Addr) (N c:Nat) (w0 w:World) (Γ:List Pc) (S:Sep w0 w (.own 3 1 q N c (encI acc) :: Γ)) (hr:Rd w0 1 pr n (encI r)) (hn:n≤N) (hN:N≤1000) (hb:∀ i,-1000000000000≤nth acc i∧nth acc i≤1000000000000) (hb2:∀ i,-1000000000≤nth r i∧nth r i≤1000000000) :
  Calls Tryz.prog 62 #[.slice q N c,.slice pr n cr] w fun e w'=>e=.returned (.slice q N c)∧Sep w0 w' (.own 3 1 q N c (encI (addK acc r n)) :: Γ):=by
 have p1:=hr.ptr
 have HR:=Lib.hid hr
 have hal:=(S.rdx 0 rfl).nI
 have HAL:=Lib.hid hal
 have HB:=Lib.hid hb
 have HB2:=Lib.hid hb2
 have SH:=Lib.hid S
 clear hr hal hb hb2 S
 go_enter Tryz.func62,Tryz.ntmps62
 go_wp2
 go_loopw [5,6,9] (fun _ _ i wr=>∃ k:Nat,k≤n∧i=.int .i64 k∧Sep w0 wr (.own 3 1 q N c (encI (addK acc r k)) :: Γ)) (fun _ _ i _=>n - (intOf i).toNat)
 case atStart=>exact⟨0,Nat.zero_le _,rfl,by rw [addK_zero];exact SH.out⟩
 case round =>
  clear SH
  obtain⟨k,hk,rfl,S⟩:=hrel
  by_cases hlt:k<n
  ·have hkN:k<N:=by omega
   have g1:=(HR.out.ext S.ext).cI hlt
   have g2:=(S.rdx 0 rfl).cI hkN
   have e0:nth (addK acc r k) k=nth acc k:=by rw [addK_nth (by rw [← HAL.out];exact hkN),if_neg (by omega)];omega
   rw [e0] at g2
   have HS:=Lib.hid (addK_succ (acc:=acc) (r:=r) (k:=k))
   have b1:=HB.out k
   have b2:=HB2.out k
   have d1:(0:Int)≤k:=by omega
   have d2:(k:Int)<n:=by omega
   have d3:(k:Int)<N:=by omega
   have pq:=(S.rdx 0 rfl).ptr
   have fz:=own_frozen (S.own 0 rfl) (by omega) k
   have S3:=Lib.hid (S.setRow 0 rfl k (by omega) (.int .i64 (nth acc k+nth r k)))
   generalize nth acc k=x at *
   generalize nth r k=y at *
   clear S e0
   obtain⟨b3,b4⟩:=b1
   obtain⟨b5,b6⟩:=b2
   go_wp2
   go_roundw
   case rel=>exact⟨k+1,by omega,by go_num,by rw [HS.out,← encI_set];exact S3.out⟩
   case measure=>simp [intOf];omega
  ·obtain rfl:k=n:=by omega
   have SH:=Lib.hid S
   clear S
   go_wp2
   go_ret
   exact⟨rfl,SH.out⟩
theorem FoldSum (p:Option Addr) (n c:Nat) (hs:List Hd) (LL:List (List Int)) (q:Option Addr) (N cq:Nat) (w0 w:World) (S:Sep w0 w [.own 3 1 q N cq (encI (accR N LL 0))]) (hL:RdL w0 p n hs LL) (hN:N=longR LL) (hsm:SmL LL) :
  Calls Tryz.prog 61 #[.slice q N cq,.slice p n c,.func (.func 62) #[] #[]] w fun e w'=>e=.returned (.slice q N cq)∧Sep w0 w' [.own 3 1 q N cq (encI (accR N LL LL.length))]:=by
 have p1:=hL.row.ptr
 have n1:=hL.row.small
 have L1:=Lib.hid hL.nL
 have HL:=Lib.hid hL
 have hN1:N≤1000:=by rw [hN];exact longR_le fun r hr=>(hsm.2 r hr).1
 have HLE:Hid (∀ k,k<LL.length→(nth LL k).length≤N):=fun k hk=>by rw [hN];exact longR_ge (by rw [nth_eq hk];exact List.getElem_mem _)
 have HSM:=Lib.hid hsm
 have SH:=Lib.hid S
 clear hL S hN hsm
 go_enter Tryz.func61,Tryz.ntmps61
 go_wp2
 go_loopw [0,8,11] (fun x _ i wr=>∃ k:Nat,k≤n∧i=.int .i64 k∧x=.slice q N cq∧Sep w0 wr [.own 3 1 q N cq (encI (accR N LL k))]) (fun _ _ i _=>n - (intOf i).toNat)
 case atStart=>exact⟨0,Nat.zero_le _,rfl,rfl,SH.out⟩
 case round =>
  clear SH
  obtain⟨k,hk,rfl,rfl,S⟩:=hrel
  by_cases hlt:k<n
  ·have g1:=(HL.out.ext S.ext).row.cH hlt
   have hkl:k<LL.length:=by rw [← L1.out];exact hlt
   have hE:=HL.out.each k hlt
   have hln:(nth hs k).n=(nth LL k).length:=hE.nI
   have hle:(nth hs k).n≤N:=by rw [hln];exact HLE.out k hkl
   have HC:=Lib.hid (sumCl2 (nth hs k).p (nth hs k).n (nth hs k).c (nth LL k) (accR N LL k) q N cq w0 wr [] S hE hle hN1 (fun i=>by
    by_cases hi:i<N
    ·rw [accR_nth hi]
     have:=smL_sum HSM.out i k (by omega)
     have:=HSM.out.1
     omega
    ·rw [nth_over (by rw [accR_len];omega)];omega) (fun i=>smL_at HSM.out hkl))
   rw [hln,← accR_succ hkl,← hln] at HC
   have d1:(0:Int)≤k:=by omega
   have d2:(k:Int)<n:=by omega
   clear hln hle hkl S hE
   generalize nth hs k=hd at *
   obtain⟨hp,hn',hc⟩:=hd
   simp only at g1 HC
   go_wp2_with (go_at_call 62;go_must (refine HC.out.mono ?_;rintro e w' ⟨rfl,Z⟩;have S2:=Lib.hid Z;clear Z))
   go_roundw
   case rel=>exact⟨k+1,by omega,by go_num,rfl,S2.out⟩
   case measure=>simp [intOf];omega
  ·obtain rfl:k=n:=by omega
   have SH:=Lib.hid S
   clear S
   go_wp2
   go_ret
   exact⟨rfl,by rw [← L1.out];exact SH.out⟩
theorem SumG (p:Option Addr) (n c:Nat) (hs:List Hd) (LL:List (List Int)) (w:World) (hL:RdL w p n hs LL) (hsm:SmL LL) :
  Calls Tryz.prog 30 #[.slice p n c] w fun e w'=>∃ q c',e=.returned (.slice q (sumR LL).length c')∧Sep w w' [.own 3 1 q (sumR LL).length c' (encI (sumR LL))]:=by
 obtain⟨j0,ji0,jz0,jz1,jz2⟩:=info_parts infI
 have hN1:longR LL≤1000:=longR_le fun r hr=>(hsm.2 r hr).1
 have HM:=Lib.hid (FoldMax p n c hs LL w hL)
 have HS:=Lib.hid (fun q cq w' (S:Sep w w' [.own 3 1 q (longR LL) cq (encI (accR (longR LL) LL 0))])=>FoldSum p n c hs LL q (longR LL) cq w w' S hL rfl hsm)
 have HA:=Lib.hid (accR_all LL)
 have HZ:=Lib.hid (accR_zero (longR LL) LL)
 have HLN:=Lib.hid (sumR_len LL)
 clear hL hsm
 generalize longR LL=N at *
 go_enter Tryz.func30,Tryz.ntmps30
 go_wp2_with (first
  | (go_at_call 61;go_must (refine(HS.out _ _ _ S2.out).mono ?_;rintro e w3 ⟨rfl,Z⟩;have S3:=Lib.hid Z;clear Z))
  | (at_make;go_must (refine wpList_make_sep rfl _ _ _ rfl 3 j0 _ 1 Tryz.underlying25 ji0 jz0 jz1 (N:Int) N rfl rfl rfl (by rw [jz2];omega) (by unfold maxLen;omega) (Sep.start w) ?_;intro w2 S';rw [made_encI,← HZ.out] at S';have S2:=Lib.hid S';clear S'))
  | (go_at_call 59;go_must (refine HM.out.mono ?_;rintro e w1 ⟨rfl,rfl⟩)))
 go_ret
 rw [HA.out] at S3
 exact⟨_,_,by rw [HLN.out];rfl,by rw [HLN.out];exact S3.out⟩
end
section
open Go Go.RowKit
theorem Same06 (p q:Option Addr) (n c d:Nat) (hs ht:List Hd) (LL:List (List Int)) (w:World) (h1:RdL w p n hs LL) (h2:RdL w q n ht LL) :
  Calls Tryz.prog 32 #[.slice p n c,.slice q n d] w fun e w'=>e=.returned (.bool true)∧Ext w w':=by
 have p1:=h1.row.ptr
 have p2:=h2.row.ptr
 have n1:=h1.row.small
 have H1:=Lib.hid h1
 have H2:=Lib.hid h2
 clear h1 h2
 go_enter Tryz.func32,Tryz.ntmps32
 go_wp2
 go_loopw [5] (fun i wr=>∃ k:Nat,k≤n∧i=.int .i64 k∧Ext w wr) (fun i _=>n - (intOf i).toNat)
 case atStart=>exact⟨0,Nat.zero_le _,rfl,Below.refl _ _⟩
 case round =>
  obtain⟨k,hk,rfl,hE⟩:=hrel
  have HE:=Lib.hid hE
  by_cases hlt:k<n
  ·have g1:=(H1.out.ext hE).row.cH hlt
   have g2:=(H2.out.ext hE).row.cH hlt
   have HI:=Lib.hid (fun y:ExtOf wr=>IntsY (nth hs k).p (nth ht k).p (nth hs k).n (nth ht k).n (nth hs k).c (nth ht k).c (nth LL k) y.val ((H1.out.each k hlt).ext (Ext.trans hE y.ext)) ((H2.out.each k hlt).ext (Ext.trans hE y.ext)))
   have d1:(0:Int)≤k:=by omega
   have d2:(k:Int)<n:=by omega
   clear hE
   generalize nth hs k=hd at *
   generalize nth ht k=he at *
   obtain⟨hp,hn',hc⟩:=hd
   obtain⟨ep,en,ec⟩:=he
   simp only at g1 g2 HI
   go_wp2
   have u1:=fun x:ExtOf wr=>x.ext.cell g1
   have u2:=fun x:ExtOf wr=>x.ext.cell g2
   refine wp_region_ext (by kernel_rfl) (by kernel_rfl) ?_
   repeat (go_big_quiet_step (((go_at_call 29;exact Calls.ext_of (HI.out _)))))
   refine wpQuiet_nil ?_
   rintro w9 ⟨⟨_,hb9⟩,rfl⟩
   have HX:=Lib.hid (Ext.trans HE.out hb9)
   clear hb9
   go_wp2
   go_roundw
   case rel=>exact⟨k+1,by omega,by go_num,HX.out⟩
   case measure=>simp [intOf];omega
  ·clear hE
   go_wp2
   go_ret
   exact⟨rfl,HE.out⟩
def totL (LL:List (List Int)):Nat:=(LL.map List.length).sum
theorem totL_snoc (l:List (List Int)) (r:List Int):totL (l ++ [r])=totL l+r.length:=by unfold totL;rw [List.map_append,List.sum_append];simp
theorem totL_le {l:List (List Int)} {b:Nat} (h:∀ r∈l,r.length≤b):totL l≤l.length*b:=by
 induction l with
 | nil=>simp [totL]
 | cons a l ih =>
  have:=ih fun r hr=>h r (List.mem_cons_of_mem _ hr)
  have:=h a (List.mem_cons_self ..)
  show a.length+totL l≤_
  rw [List.length_cons,Nat.succ_mul];omega
theorem totL_ge {l:List (List Int)} {r:List Int} (h:r∈l):r.length≤totL l:=by
 induction l with
 | nil=>cases h
 | cons a l ih =>
  show r.length≤a.length+totL l
  rcases List.mem_cons.1 h with rfl | h
  ·omega
  ·have:=ih h;omega
end
section
open Go Go.RowKit
def clO:List Int:=[0,1,2,2]
def clT:List Int:=[1,2]
def clR:List Int:=[0,0,1,2]
def clV:List Int:=[0,1]
theorem cl_4a:doneB 2 2 (runM (nextL 2 0 true clO clT clR clV) (startQ 2 0 2 0) 1)=false:=by kernel_rfl
theorem cl_4b:doneB 2 2 (runM (nextL 2 0 true clO clT clR clV) (startQ 2 0 2 0) 2)=false:=by kernel_rfl
theorem cl_4c:doneB 2 2 (runM (nextL 2 0 true clO clT clR clV) (startQ 2 0 2 0) 3)=true:=by kernel_rfl
end
section
open Go Go.RowKit
theorem cl_first {p:Nat→Bool} {m c:Nat} (h:p m=true) (hf:∀ j,j<m→p j=false) (hc:p c=true) (hcf:∀ j,j<c→p j=false):m=c:=least_uniqB h hf hc hcf
end
section
open Go Go.RowKit
theorem cl_nl:needL clO clT clR clV 2 0 2 0 2 3=[[0,1],[1,1],[1,2]]:=by kernel_rfl
theorem cl_sum:sumR [[0,1],[1,1],[1,2]]=[2,4]:=by kernel_rfl
theorem cl_need1 {X:List (List Int)} {e:Int} (h:NeedS clO clT clR clV 2 0 2 [] 0 0 2 X e):X=[[0,1],[1,1],[1,2]]∧e=0:=by
 obtain⟨h1,m,h2,h3,h4,h5⟩:=h.2.2 (by kernel_rfl) (by decide)
 obtain rfl:m=2:=cl_first (p:=fun i=>doneB 2 2 (runM (nextL 2 0 true clO clT clR clV) (startQ 2 0 2 0) (i+1))) h3 h4 cl_4c (fun j hj=>by
  rcases (show j=0∨j=1 by omega) with rfl | rfl
  ·exact cl_4a
  ·exact cl_4b)
 exact⟨h5.trans cl_nl,h1⟩
theorem cl_need2 {X:List (List Int)} {e:Int} (h:NeedS clO clT clR clV 0 0 0 [] 0 0 2 X e):X=[]∧e=180:=by
 have hc:chkJ (checkR clO clT clR clV) 0 0 0 [] 0 0 clO.length=180:=by kernel_rfl
 obtain⟨h1,h2⟩:=h.1 (by rw [hc];decide)
 exact⟨h1,by rw [h2,hc]⟩
theorem cl_small:SmL [[0,1],[1,1],[1,2]]:=⟨by decide,fun r hr=>by
 simp at hr
 rcases hr with rfl | rfl | rfl <;> exact⟨by decide,fun x hx=>by simp at hx;omega⟩⟩
end
section
open Go Go.RowKit
attribute [local go_sem ↓] eqHit9 neqHit9 guardHit9
def e9E:List (Int × Int):=[(0,1),(1,2)]
def e9O:List Int:=[0,1,2,2]
def e9T:List Int:=[1,2]
def e9R:List Int:=[0,0,1,2]
def e9V:List Int:=[0,1]
theorem e9I:isB 3 e9E [[],[],[]]=true:=by decide +kernel
theorem e9O_eq:offL 3 e9E=e9O:=by decide +kernel
theorem e9T_eq:toL e9E=e9T:=by decide +kernel
theorem e9R_eq:offL 3 (turnE e9E)=e9R:=by decide +kernel
theorem e9V_eq:toL (turnE e9E)=e9V:=by decide +kernel
theorem e9Cells:(#[.int .i64 0,.int .i64 1,.int .i64 1,.int .i64 2]:Array Value).toList=encE e9E:=by simp [encE,e9E]
theorem made3n:(madeCells (Value.slice none 0 0).cells (3*1)).toList=[.slice none 0 0,.slice none 0 0,.slice none 0 0]:=by kernel_rfl
theorem e9Mk (p q:Option Addr) (W:World) (h1:Rd W 2 p 2 (encE e9E)) (h0:Rd W 1 q 3 [.slice none 0 0,.slice none 0 0,.slice none 0 0]):Calls Tryz.prog 57 #[.agg #[.int .i64 3,.slice p 2 2,.slice q 3 3]] W fun e w' =>
  ∃ po no co pt nt ct pr nr cr pv nv cv,e=.returned (.tuple #[.agg #[.slice po no co,.slice pt nt ct,.slice pr nr cr,.slice pv nv cv],.int .i64 0])∧R4 w' po no pt nt pr nr pv nv e9O e9T e9R e9V∧nt≤ct∧nv≤cv∧Ext W w':=by
 have h2:RdW W q 3 [⟨none,0,0⟩,⟨none,0,0⟩,⟨none,0,0⟩] [[],[],[]]:=⟨rfl,h0,fun j hj=>by
  have:j=0∨j=1∨j=2:=by omega
  rcases this with rfl | rfl | rfl <;> exact Rd.nil _ _ _⟩
 have hz:SzW [[],[],[]]:=fun l hl s hs=>by simp at hl;subst hl;cases hs
 refine(RMakeG_yes 3 _ 2 2 _ 3 3 e9E _ _ W h1 h2 hz e9I).mono ?_
 rintro e w' ⟨v,rfl,⟨po,no,co,pt,nt,ct,pr,nr,cr,pv,nv,cv,rfl,k1,k2,k3,k4,k5,k6,k7,k8⟩,hb⟩
 rw [e9O_eq] at k1
 rw [e9T_eq] at k2
 rw [e9R_eq] at k3
 rw [e9V_eq] at k4
 exact⟨po,no,co,pt,nt,ct,pr,nr,cr,pv,nv,cv,rfl,⟨k1,k2,k3,k4⟩,k6,k8,hb⟩
end
section
open Go Go.RowKit
theorem RdP.nil (w:World):RdP w none 0 [] []:=⟨rfl,.inl rfl,by omega,fun k hk=>by omega,fun k hk=>by omega,fun k hk=>by omega⟩
end
section
open Go Go.RowKit
theorem rdl3 {w:World} {p q0 q1 q2:Option Addr} {c0 c1 c2:Nat} {A B C:List Int} {na nb nc:Nat} (h:Rd w 1 p 3 [.slice q0 na c0,.slice q1 nb c1,.slice q2 nc c2]) (h0:Rd w 1 q0 na (encI A)) (h1:Rd w 1 q1 nb (encI B)) (h2:Rd w 1 q2 nc (encI C)):RdL w p 3 [⟨q0,na,c0⟩,⟨q1,nb,c1⟩,⟨q2,nc,c2⟩] [A,B,C] :=
 ⟨rfl,h,fun j hj=>by
  have:j=0∨j=1∨j=2:=by omega
  rcases this with rfl | rfl | rfl
  ·exact h0
  ·exact h1
  ·exact h2⟩
theorem fit1:fitsB [1,2] [1,2]=true:=by decide
theorem fit2:fitsB [1,2] [2,1]=false:=by decide
theorem fit3:fitsB [1] []=false:=by decide
theorem Needs21 (w:World):Calls Tryz.prog 26 #[] w fun e w'=>e=.returned (.bool true)∧Ext w w':=by
 obtain⟨i0,hi0,hz0,hz1,hz2⟩:=info_parts inf35
 have SE:Hid (Sep w (w.alloc (.cells #[.int .i64 0,.int .i64 1,.int .i64 1,.int .i64 2] 98)) [.own 98 2 (some ⟨w.heap.size,0,none⟩) 2 2 (encE e9E)]):=by
  have h:=(Sep.start w).alrow #[.int .i64 0,.int .i64 1,.int .i64 1,.int .i64 2] 98 2 2 w.heap.size rfl (by decide) rfl
  rw [e9Cells] at h
  exact h
 have HQ:Hid ((w.alloc (.cells #[.int .i64 0,.int .i64 1,.int .i64 1,.int .i64 2] 98)).heap.size=w.heap.size+1):=by unfold Hid;simp
 go_enter Tryz.func26,Tryz.ntmps26
 go_wp2_with (first
  | (at_make;go_must (refine wpList_make_sep rfl _ _ _ rfl 22 i0 _ 1 Tryz.underlying100 hi0 hz0 hz1 (3:Int) 3 rfl rfl rfl (by rw [hz2];omega) (by unfold maxLen;omega) SE.out ?_;intro w0 S';rw [made3n,HQ.out] at S';have S0:=Lib.hid S';clear S'))
  | (go_at_call 34;have _t:=S2;go_must (refine(needSteps 0 0 0 none 0 0 [] 0 0 po no co e9O pt nt ct e9T pr nr cr e9R pv nv cv e9V none 0 0 [] [] 2 _ (HR.out.ext S2.out.ext).o (HR.out.ext S2.out.ext).t (HR.out.ext S2.out.ext).r (HR.out.ext S2.out.ext).v hct hcv (RdP.nil _) (Rd.nil _ _ _) (by have:=HR.out.o.nI;rw [this];decide) (fun s hs=>by cases hs) (by unfold I64;decide) (by decide) (by decide) (fun p hp=>by cases hp)).mono ?_;rintro e w3 ⟨X2,e2,h2,qy,cy,hsy,rfl,_,hb⟩;obtain⟨rfl,rfl⟩:=cl_need2 h2;have S3:=Lib.hid (S2.out.call hb);have HX3:=Lib.hid (HX.out.ext hb);have T4:=Lib.hid (((((Sep.start w3).alrow #[.int .i64 0,.int .i64 1] 3 1 2 w3.heap.size rfl (by decide) rfl).alrow #[.int .i64 1,.int .i64 1] 3 1 2 (w3.heap.size+1) (by simp) (by decide) rfl).alrow #[.int .i64 1,.int .i64 2] 3 1 2 (w3.heap.size+1+1) (by simp) (by decide) rfl).alrow #[.slice (some ⟨w3.heap.size,0,none⟩) 2 2,.slice (some ⟨w3.heap.size+1,0,none⟩) 2 2,.slice (some ⟨w3.heap.size+1+1,0,none⟩) 2 2] 25 1 3 (w3.heap.size+1+1+1) (by simp) (by decide) rfl);clear hb h2))
  | (go_at_call 34;go_must (refine(needSteps 2 0 2 none 0 0 [] 0 0 po no co e9O pt nt ct e9T pr nr cr e9R pv nv cv e9V none 0 0 [] [] 2 _ (HR.out.ext S1.out.ext).o (HR.out.ext S1.out.ext).t (HR.out.ext S1.out.ext).r (HR.out.ext S1.out.ext).v hct hcv (RdP.nil _) (Rd.nil _ _ _) (by have:=HR.out.o.nI;rw [this];decide) (fun s hs=>by cases hs) (by unfold I64;decide) (by decide) (by decide) (fun p hp=>by cases hp)).mono ?_;rintro e w2 ⟨X1,e1,h1,qx,cx,hsx,rfl,hx,hb⟩;obtain⟨rfl,rfl⟩:=cl_need1 h1;have S2:=Lib.hid (S1.out.call hb);have HX:=Lib.hid hx;obtain⟨bz,b0,b1,b2,b3⟩:=bklc0c1c2c3 (S2.out.blk 0 rfl);clear hb h1 hx))
  | (go_at_call 57;go_must (refine(e9Mk _ _ _ (S0.out.rd 1 rfl (by decide)) (S0.out.rd 0 rfl (by decide))).mono ?_;rintro e w1 ⟨po,no,co,pt,nt,ct,pr,nr,cr,pv,nv,cv,rfl,hr,hct,hcv,hb⟩;have E1:=Lib.hid (Ext.trans S0.out.ext hb);have HR:=Lib.hid hr;have S1:=Lib.hid ((Sep.start w1).al #[.slice po no co,.slice pt nt ct,.slice pr nr cr,.slice pv nv cv] 27 w1.heap.size rfl);clear hb hr))
  | (go_at_call 32;go_must (refine(Same06 qx _ 3 cx 3 hsx _ [[0,1],[1,1],[1,2]] _ (HX3.out.ext T4.out.ext) (rdl3 (T4.out.rdx 0 rfl) (T4.out.rdx 3 rfl) (T4.out.rdx 2 rfl) (T4.out.rdx 1 rfl))).mono ?_;rintro e w4 ⟨rfl,hb⟩;have HX4:=Lib.hid (HX3.out.ext (Ext.trans T4.out.ext hb));have E4:=Lib.hid (Ext.trans S3.out.ext (Ext.trans T4.out.ext hb));have F4:=Lib.hid (((Sep.start w4).alrow #[.int .i64 1,.int .i64 2] 3 1 2 w4.heap.size rfl (by decide) rfl).alrow #[.int .i64 1,.int .i64 2] 3 1 2 (w4.heap.size+1) (by simp) (by decide) rfl);clear hb))
  | (go_at_call 27;have _t:=F6;go_must (refine(FitsG _ 1 1 [1] none 0 0 [] _ (F6.out.rdx 0 rfl) (Rd.nil _ _ _)).mono ?_;rintro e w7 ⟨hf,hb⟩;rw [fit3] at hf;subst hf;have HX7:=Lib.hid (HX6.out.ext (Ext.trans F6.out.ext hb));have E7:=Lib.hid (Ext.trans E6.out (Ext.trans F6.out.ext hb));clear hb))
  | (go_at_call 27;have _t:=F5;go_must (refine(FitsG _ 2 2 [1,2] _ 2 2 [2,1] _ (F5.out.rdx 1 rfl) (F5.out.rdx 0 rfl)).mono ?_;rintro e w6 ⟨hf,hb⟩;rw [fit2] at hf;subst hf;have HX6:=Lib.hid (HX5.out.ext (Ext.trans F5.out.ext hb));have E6:=Lib.hid (Ext.trans E5.out (Ext.trans F5.out.ext hb));have F6:=Lib.hid ((Sep.start w6).alrow #[.int .i64 1] 3 1 1 w6.heap.size rfl (by decide) rfl);clear hb))
  | (go_at_call 27;have _t:=F4;go_must (refine(FitsG _ 2 2 [1,2] _ 2 2 [1,2] _ (F4.out.rdx 1 rfl) (F4.out.rdx 0 rfl)).mono ?_;rintro e w5 ⟨hf,hb⟩;rw [fit1] at hf;subst hf;have HX5:=Lib.hid (HX4.out.ext (Ext.trans F4.out.ext hb));have E5:=Lib.hid (Ext.trans E4.out (Ext.trans F4.out.ext hb));have F5:=Lib.hid (((Sep.start w5).alrow #[.int .i64 1,.int .i64 2] 3 1 2 w5.heap.size rfl (by decide) rfl).alrow #[.int .i64 2,.int .i64 1] 3 1 2 (w5.heap.size+1) (by simp) (by decide) rfl);clear hb))
  | (go_at_call 30;have _t:=HX7;go_must (refine(SumG qx 3 cx hsx _ _ HX7.out cl_small).mono ?_;rw [cl_sum];rintro e w8 ⟨qs,cs,rfl,Z⟩;have F8:=Lib.hid (Z.alrow #[.int .i64 2,.int .i64 4] 3 1 2 w8.heap.size rfl (by decide) rfl);clear Z))
  | (go_at_call 29;have _t:=F8;go_must (refine(IntsY qs _ 2 2 cs 2 [2,4] _ (F8.out.rdx 1 rfl) (F8.out.rdx 0 rfl)).mono ?_;rintro e w9 ⟨rfl,hb⟩;have F9:=Lib.hid (F8.out.call hb);clear hb)))
 go_ret
 exact⟨rfl,Ext.trans E1.out (Ext.trans E7.out F9.out.ext)⟩
end
section
open Go Go.RowKit
theorem Sum21 (p:Option Addr) (n c:Nat) (hs:List Hd) (LL:List (List Int)) (w:World) (hL:RdL w p n hs LL) (hsm:SmL LL) :
  Calls Tryz.prog 31 #[.slice p n c] w fun e w'=>∃ q c',e=.returned (.slice q (sumR LL).length c')∧Sep w w' [.own 3 1 q (sumR LL).length c' (encI (sumR LL))]:=by
 obtain⟨j0,ji0,jz0,jz1,jz2⟩:=info_parts infI
 have hN1:longR LL≤1000:=longR_le fun r hr=>(hsm.2 r hr).1
 have p1:=hL.row.ptr
 have n1:=hL.row.small
 have L1:=Lib.hid hL.nL
 have HL:=Lib.hid hL
 have HSM:=Lib.hid hsm
 have HA:=Lib.hid (accR_all LL)
 have HZ:=Lib.hid (accR_zero (longR LL) LL)
 have HLN:=Lib.hid (sumR_len LL)
 have HLE:Hid (∀ k,k<LL.length→(nth LL k).length≤longR LL):=fun k hk=>longR_ge (by rw [nth_eq hk];exact List.getElem_mem _)
 clear hL hsm
 go_enter Tryz.func31,Tryz.ntmps31
 go_wp2
 go_loopw [3,4] (fun x i wr=>∃ k m:Nat,k≤n∧i=.int .i64 k∧x=.int .i64 (m:Int)∧Hid (m=longR (LL.take k))∧Ext w wr) (fun _ i _=>n - (intOf i).toNat)
 case atStart=>exact⟨0,0,Nat.zero_le _,rfl,rfl,rfl,Below.refl _ _⟩
 case round =>
  obtain⟨k,m,hk,rfl,rfl,HM,hE⟩:=hrel
  have HE:=Lib.hid hE
  by_cases hlt:k<n
  ·have g1:=(HL.out.ext hE).row.cH hlt
   have hkl:k<LL.length:=by rw [← L1.out];exact hlt
   have hln:(nth hs k).n=(nth LL k).length:=(HL.out.each k hlt).nI
   have HM2:Hid (max m (nth hs k).n=longR (LL.take (k+1))):=by unfold Hid;rw [take_succ_nth LL k hkl,longR_snoc,← HM.out,hln]
   have d1:(0:Int)≤k:=by omega
   have d2:(k:Int)<n:=by omega
   clear hln hkl hE
   generalize nth hs k=hd at *
   obtain⟨hp,hn',hc⟩:=hd
   simp only at g1 HM2
   have e1:max (m:Int) (hn':Int)=((max m hn':Nat):Int):=by omega
   obtain⟨m2,hm2⟩:∃ m2,max m hn'=m2:=⟨_,rfl⟩
   rw [hm2] at HM2 e1
   clear hm2 HM
   go_wp2
   go_roundw
   case rel=>exact⟨k+1,m2,by omega,by go_num,by first | rfl | rw [e1],HM2.out,HE.out⟩
   case measure=>simp [intOf];omega
  ·have HF:Hid (m=longR LL):=by
    unfold Hid
    rw [HM.out,List.take_of_length_le (by rw [← L1.out];omega)]
   rw [HF.out]
   clear HM hE HF
   generalize longR LL=N at *
   go_wp2_with (at_make;go_must (refine wpList_make_sep rfl _ _ _ rfl 3 j0 _ 1 Tryz.underlying25 ji0 jz0 jz1 (N:Int) N rfl rfl rfl (by rw [jz2];omega) (by unfold maxLen;omega) ((Sep.start w).call HE.out) ?_;intro w2 S';rw [made_encI,← HZ.out] at S';have S2:=Lib.hid S';clear S'))
   generalize (some ⟨wr.heap.size,0,none⟩:Option Addr)=q at *
   clear HE HZ
   go_loopw [6,7] (fun i _ wr=>∃ k:Nat,k≤n∧i=.int .i64 k∧Sep w wr [.own 3 1 q N N (encI (accR N LL k))]) (fun i _ _=>n - (intOf i).toNat)
   case atStart=>exact⟨0,Nat.zero_le _,rfl,S2.out⟩
   case round =>
    clear S2
    obtain⟨k,hk,rfl,S⟩:=hrel
    by_cases hlt:k<n
    ·have hkl:k<LL.length:=by rw [← L1.out];exact hlt
     have HEa:=Lib.hid (HL.out.each k hlt)
     have HRW:=Lib.hid (fun W (h:Ext w W)=>(HL.out.ext h).row.cH hlt)
     have hln:(nth hs k).n=(nth LL k).length:=HEa.out.nI
     have HLE2:=Lib.hid (HLE.out k hkl)
     have HSU:=Lib.hid (fun i=>smL_sum HSM.out i k (by omega))
     have HSA:=Lib.hid (fun i=>smL_at HSM.out (i:=i) hkl)
     have HAS:=Lib.hid (accR_succ (N:=N) hkl)
     have hLL:=HSM.out.1
     have hk1000:k≤1000:=by omega
     rw [← hln] at HAS HLE2
     clear hln hkl hLL
     generalize nth hs k=hd at *
     obtain⟨hp,hn',hc⟩:=hd
     simp only at HRW HEa HAS HLE2
     generalize nth LL k=r at *
     have d1:(0:Int)≤k:=by omega
     have d2:(k:Int)<n:=by omega
     have SH:=Lib.hid S
     clear S
     go_wp2
     go_loopw [7] (fun i wr=>∃ j:Nat,j≤hn'∧i=.int .i64 j∧Sep w wr [.own 3 1 q N N (encI (addK (accR N LL k) r j))]) (fun i _=>hn' - (intOf i).toNat)
     case atStart=>exact⟨0,Nat.zero_le _,rfl,by rw [addK_zero];exact SH.out⟩
     case round =>
      clear SH
      obtain⟨j,hj,rfl,S⟩:=hrel
      have g0:=HRW.out _ S.ext
      by_cases hlt2:j<hn'
      ·have hjN:j<N:=by have:=HLE2.out;omega
       have g1:=(HEa.out.ext S.ext).cI hlt2
       have pr:=HEa.out.ptr
       have g2:=(S.rdx 0 rfl).cI hjN
       have e0:nth (addK (accR N LL k) r j) j=sumAt (LL.take k) j:=by rw [addK_nth (by rw [accR_len];exact hjN),if_neg (by omega),accR_nth hjN];omega
       rw [e0] at g2
       have HS:=Lib.hid (addK_succ (acc:=accR N LL k) (r:=r) (k:=j))
       rw [accR_nth hjN] at HS
       obtain⟨b3,b4⟩:=HSU.out j
       obtain⟨b5,b6⟩:=HSA.out j
       have d3:(0:Int)≤j:=by omega
       have d4:(j:Int)<hn':=by omega
       have d5:(j:Int)<N:=by omega
       have pq:=(S.rdx 0 rfl).ptr
       have SH:=Lib.hid S
       generalize sumAt (LL.take k) j=x at *
       generalize nth r j=y at *
       have b7:-1000000000000≤x:=by omega
       have b8:x≤1000000000000:=by omega
       clear S e0 b3 b4
       go_wp2
       have u0:=fun x:ExtOf wr=>x.ext.cell g0
       have u1:=fun x:ExtOf wr=>x.ext.cell g1
       have u2:=fun x:ExtOf wr=>x.ext.cell g2
       refine wp_region_mix [true,true,true,true,true,true,true,true,true,true,true,true,true,true,true] (fun _ _ _=>True) (by kernel_rfl) (by kernel_rfl) (by kernel_rfl) (fun _ _ _ _ _ _=>trivial) ?_
       simp only [nfM]
       repeat (go_big_quiet_step ((fail)))
       refine wpQuiet_nil ⟨trivial,fun vs W1 hE hkn=>?_⟩
       have S2:=SH.out.call hE
       have fz:=own_frozen (S2.own 0 rfl) (by omega) j
       have k1:=own_cell (S2.own 0 rfl) (k:=j) (by omega)
       have S3:=Lib.hid (S2.setRow 0 rfl j (by omega) (.int .i64 (x+y)))
       clear hkn hE SH u0 u1 u2 g0 g1 g2 S2
       simp only [putM,List.length_cons,List.length_nil,Nat.zero_add,Nat.reduceAdd,List.drop_succ_cons,List.drop_zero]
       go_wp2
       go_roundw
       case rel=>exact⟨j+1,by omega,by go_num,by rw [HS.out,← encI_set];exact S3.out⟩
       case measure=>simp [intOf];omega
      ·obtain rfl:j=hn':=by omega
       have SH:=Lib.hid S
       clear S
       go_wp2
       go_roundw
       case rel=>exact⟨k+1,by omega,by go_num,by rw [HAS.out];exact SH.out⟩
       case measure=>simp [intOf];omega
    ·obtain rfl:k=n:=by omega
     have SH:=Lib.hid S
     clear S
     go_wp2
     go_ret
     rw [L1.out,HA.out] at SH
     exact⟨_,_,by rw [HLN.out];rfl,by rw [HLN.out];exact SH.out⟩
end
section
open Go Go.RowKit
def bigL (LL:List (List Int)):Bool:=decide (60<LL.length) || decide (150<totL LL)
theorem Big06 (p:Option Addr) (n c:Nat) (hs:List Hd) (LL:List (List Int)) (w:World) (hL:RdL w p n hs LL) (hb:∀ k,k<n→(nth LL k).length≤17592186044415) :
  Calls Tryz.prog 23 #[.slice p n c] w fun e w'=>e=.returned (.bool (bigL LL))∧Ext w w':=by
 have p1:=hL.row.ptr
 have n1:=hL.row.small
 have L1:=Lib.hid hL.nL
 have HL:=Lib.hid hL
 have HB:=Lib.hid hb
 clear hL hb
 by_cases h60:60<n
 ·have HF:Hid (bigL LL=true):=by unfold Hid bigL;rw [decide_eq_true (by rw [← L1.out];exact h60)];rfl
  have e1:decide ((60:Int)<(n:Int))=true:=by simp;omega
  have e1n:decide (60<n)=true:=by simpa using h60
  go_enter Tryz.func23,Tryz.ntmps23
  go_wp2
  go_loopw [3,4] (fun v i wr=>∃ (k:Nat) (z:Int),k≤n∧i=.int .i64 k∧v=.int .i64 z∧Ext w wr) (fun _ i _=>n - (intOf i).toNat)
  case atStart=>exact⟨0,0,Nat.zero_le _,rfl,rfl,Below.refl _ _⟩
  case round =>
   obtain⟨k,z,hk,rfl,rfl,hE⟩:=hrel
   have HE:=Lib.hid hE
   by_cases hlt:k<n
   ·have g1:=(HL.out.ext hE).row.cH hlt
    have d1:(0:Int)≤k:=by omega
    have d2:(k:Int)<n:=by omega
    clear hE
    generalize nth hs k=hd at *
    obtain⟨hp,hn',hc⟩:=hd
    simp only at g1
    go_wp2
    go_roundw
    case rel=>exact⟨k+1,_,by omega,by go_num,rfl,HE.out⟩
    case measure=>simp [intOf];omega
   ·clear hE
    go_wp2
    go_ret
    exact⟨ret_bool HF.out.symm,HE.out⟩
 ·have e1:decide ((60:Int)<(n:Int))=false:=by simp;omega
  have e1n:decide (60<n)=false:=by simpa using h60
  have HT:Hid (∀ k,k≤n→totL (LL.take k)≤1055531162664900):=fun k hk=>by
   have:=totL_le (l:=LL.take k) (b:=17592186044415) (fun r hr=>by
    obtain⟨j,hj,rfl⟩:=List.mem_iff_getElem.1 hr
    rw [List.length_take] at hj
    rw [List.getElem_take,← nth_eq (by omega)]
    exact HB.out j (by omega))
   have hl:(LL.take k).length≤60:=by rw [List.length_take];omega
   have:=Nat.mul_le_mul_right 17592186044415 hl
   omega
  have HF:Hid (bigL LL=decide ((150:Int)<(totL LL:Nat))):=by
   unfold Hid bigL
   rw [← L1.out,e1n,Bool.false_or]
   by_cases h:150<totL LL
   ·rw [decide_eq_true h,decide_eq_true (by omega)]
   ·rw [decide_eq_false h,decide_eq_false (by omega)]
  clear h60 HB
  go_enter Tryz.func23,Tryz.ntmps23
  go_wp2
  go_loopw [3,4] (fun v i wr=>∃ (k m:Nat),k≤n∧i=.int .i64 k∧v=.int .i64 m∧Hid (m=totL (LL.take k))∧Ext w wr) (fun _ i _=>n - (intOf i).toNat)
  case atStart=>exact⟨0,0,Nat.zero_le _,rfl,rfl,rfl,Below.refl _ _⟩
  case round =>
   obtain⟨k,m,hk,rfl,rfl,HM,hE⟩:=hrel
   have HE:=Lib.hid hE
   by_cases hlt:k<n
   ·have g1:=(HL.out.ext hE).row.cH hlt
    have hkl:k<LL.length:=by rw [← L1.out];exact hlt
    have hln:(nth hs k).n=(nth LL k).length:=(HL.out.each k hlt).nI
    have HM2:Hid (m+(nth hs k).n=totL (LL.take (k+1))):=by unfold Hid;rw [take_succ_nth LL k hkl,totL_snoc,← HM.out,hln]
    have hbd:=HT.out (k+1) (by omega)
    rw [← HM2.out] at hbd
    have d1:(0:Int)≤k:=by omega
    have d2:(k:Int)<n:=by omega
    clear hln hkl hE
    generalize nth hs k=hd at *
    obtain⟨hp,hn',hc⟩:=hd
    simp only at g1 HM2 hbd
    have b1:(m:Int)+(hn':Int)≤1055531162664900:=by omega
    clear HM
    go_wp2
    go_roundw
    case rel=>exact⟨k+1,m+hn',by omega,by go_num,by simp,HM2.out,HE.out⟩
    case measure=>simp [intOf];omega
   ·have hkn:k=n:=by omega
    have HMF:Hid (bigL LL=decide ((150:Int)<(m:Int))):=by
     unfold Hid
     rw [HF.out,HM.out,List.take_of_length_le (by rw [← L1.out];omega)]
    clear hE hkn HM
    go_wp2
    go_ret
    exact⟨ret_bool HMF.out.symm,HE.out⟩
def smlB (x:Int):Bool:=decide (-1000000≤x) && decide (x≤1000000)
def smallL (LL:List (List Int)):Bool:=LL.all fun r=>r.all smlB
theorem Small21 (p:Option Addr) (n c:Nat) (hs:List Hd) (LL:List (List Int)) (w:World) (hL:RdL w p n hs LL) :
  Calls Tryz.prog 24 #[.slice p n c] w fun e w'=>e=.returned (.bool (smallL LL))∧Ext w w':=by
 have p1:=hL.row.ptr
 have n1:=hL.row.small
 have L1:=Lib.hid hL.nL
 have HL:=Lib.hid hL
 clear hL
 go_enter Tryz.func24,Tryz.ntmps24
 go_wp2
 go_loopw [3,4] (fun i _ wr=>∃ k:Nat,k≤n∧i=.int .i64 k∧Hid ((LL.take k).all (fun r=>r.all smlB)=true)∧Ext w wr) (fun i _ _=>n - (intOf i).toNat)
 case atStart=>exact⟨0,Nat.zero_le _,rfl,rfl,Below.refl _ _⟩
 case round =>
  obtain⟨k,hk,rfl,HA,hE⟩:=hrel
  by_cases hlt:k<n
  ·have hkl:k<LL.length:=by rw [← L1.out];exact hlt
   have HFA:=Lib.hid (all_false_at (fun r:List Int=>r.all smlB) LL k hkl)
   have HST:=Lib.hid (all_step (fun r:List Int=>r.all smlB) LL k hkl HA.out)
   have HEa:=Lib.hid (HL.out.each k hlt)
   have HRW:=Lib.hid (fun W (h:Ext w W)=>(HL.out.ext h).row.cH hlt)
   have HE:=Lib.hid hE
   have d1:(0:Int)≤k:=by omega
   have d2:(k:Int)<n:=by omega
   clear hE hkl HA
   generalize nth hs k=hd at *
   obtain⟨hp,hn',hc⟩:=hd
   simp only at HRW HEa
   generalize nth LL k=r at *
   have pr:=HEa.out.ptr
   have pn:=HEa.out.small
   have L2:=Lib.hid HEa.out.nI
   go_wp2
   go_loopw [4] (fun i wr=>∃ j:Nat,j≤hn'∧i=.int .i64 j∧Hid ((r.take j).all smlB=true)∧Ext w wr) (fun i _=>hn' - (intOf i).toNat)
   case atStart=>exact⟨0,Nat.zero_le _,rfl,rfl,HE.out⟩
   case round =>
    clear HE
    obtain⟨j,hj,rfl,HB,hE⟩:=hrel
    have g0:=HRW.out _ hE
    have HE:=Lib.hid hE
    by_cases hlt2:j<hn'
    ·have g1:=(HEa.out.ext hE).cI hlt2
     have hjl:j<r.length:=by rw [← L2.out];exact hlt2
     have HFB:=Lib.hid (all_false_at smlB r j hjl)
     have HSB:=Lib.hid (all_step smlB r j hjl HB.out)
     have d3:(0:Int)≤j:=by omega
     have d4:(j:Int)<hn':=by omega
     clear hE hjl HB
     generalize nth r j=x at *
     by_cases h1:x < -1000000
     ·have HF:Hid (smallL LL=false):=HFA.out (HFB.out (by unfold smlB;rw [decide_eq_false (by omega)];rfl))
      have e1:decide (x < -1000000)=true:=by simpa using h1
      clear HFA HST HFB HSB h1
      go_wp2
      go_ret
      exact⟨ret_bool HF.out.symm,HE.out⟩
     ·have e1:decide (x < -1000000)=false:=by simpa using h1
      by_cases h2:1000000<x
      ·have HF:Hid (smallL LL=false):=HFA.out (HFB.out (by unfold smlB;rw [decide_eq_false (show ¬ x≤1000000 by omega),Bool.and_false]))
       have e2:decide (1000000<x)=true:=by simpa using h2
       clear HFA HST HFB HSB h1 h2
       go_wp2
       go_ret
       exact⟨ret_bool HF.out.symm,HE.out⟩
      ·have HF:=Lib.hid (HSB.out (by unfold smlB;rw [decide_eq_true (show -1000000≤x by omega),decide_eq_true (show x≤1000000 by omega)];rfl))
       have e2:decide (1000000<x)=false:=by simpa using h2
       clear HFB HSB h1 h2
       go_wp2
       go_roundw
       case rel=>exact⟨j+1,by omega,by go_num,HF.out,HE.out⟩
       case measure=>simp [intOf];omega
    ·have HF:=Lib.hid (HST.out (all_end _ _ _ (by rw [← L2.out];exact hlt2) HB.out))
     clear hE HST HFA
     go_wp2
     go_roundw
     case rel=>exact⟨k+1,by omega,by go_num,HF.out,HE.out⟩
     case measure=>simp [intOf];omega
  ·have HF:Hid (smallL LL=true):=all_end _ _ _ (by rw [← L1.out];exact hlt) HA.out
   have HE:=Lib.hid hE
   clear hE
   go_wp2
   go_ret
   exact⟨ret_bool HF.out.symm,HE.out⟩
end
section
open Go Go.RowKit
theorem Own06 (p:Option Addr) (n c:Nat) (hs:List Hd) (LL:List (List Int)) (w:World) (hL:RdL w p n hs LL) (hn:n≤1000) (hb:∀ k,k<n→(nth LL k).length≤1000000) :
  Calls Tryz.prog 25 #[.slice p n c] w fun e w'=>∃ q c' hs',e=.returned (.slice q n c')∧RdL w' q n hs' LL∧Ext w w':=by
 obtain⟨i0,hi0,hz0,hz1,hz2⟩:=info_parts infRow
 have p1:=hL.row.ptr
 have n1:=hL.row.small
 have L1:=Lib.hid hL.nL
 have HL:=Lib.hid hL
 have HB:=Lib.hid hb
 have S0:=Lib.hid ((((Sep.start w).many0 3 1).nilrow 25 1))
 clear hL hb
 go_enter Tryz.func25,Tryz.ntmps25
 go_wp2
 go_loopw [3,4,5] (fun v i _ wr=>∃ (k:Nat) (q:Option Addr) (oc:Nat) (hd:List Hd),k≤n∧i=.int .i64 k∧v=.slice q k oc∧Hid (hd.length=k)∧Hid (Sep w wr [.own 25 1 q k oc (encH hd),.many 3 1 (rowsN (LL.take k) hd)])) (fun _ i _ _=>n - (intOf i).toNat)
 case atStart=>exact⟨0,none,0,[],Nat.zero_le _,rfl,rfl,rfl,S0⟩
 case round =>
  clear S0
  obtain⟨k,q,oc,hd,hk,rfl,rfl,HHD,SH⟩:=hrel
  by_cases hlt:k<n
  ·have g1:=(HL.out.ext SH.out.ext).row.cH hlt
   have hkl:k<LL.length:=by rw [← L1.out];exact hlt
   have hE:=HL.out.each k hlt
   have hln:(nth hs k).n=(nth LL k).length:=hE.nI
   have HO:=Lib.hid (OwnI01 (nth hs k).p (nth hs k).n (nth hs k).c (nth LL k) wr (hE.ext SH.out.ext) (by rw [hln];exact HB.out k hlt))
   have HT:=Lib.hid (take_succ_nth LL k hkl)
   have HTL:Hid ((LL.take k).length=k):=by unfold Hid;rw [List.length_take];omega
   have d1:(0:Int)≤k:=by omega
   have d2:(k:Int)<n:=by omega
   clear hln hkl hE
   generalize nth hs k=he at *
   obtain⟨hp,hn',hc⟩:=he
   simp only at g1 HO
   generalize nth LL k=r at *
   go_wp2_with (first
    | (at_builtin;have _t:=S2;go_must (refine wpList_append_sep rfl _ _ _ rfl 25 i0 _ 1 24 Tryz.underlying45 hi0 hz0 hz1 hz2 rfl (by omega) (S2.out.junk _) 1 q k oc _ rfl rfl _ 1 1 _ rfl (Rd.new _ _ _ 1 1 rfl (by omega)) (one_slice _ _ _) (by omega) (by omega) ?_;intro u' e' w6 S' hsz;have S3:=Lib.hid S';clear S' hsz))
    | (go_at_call 35;go_must (refine HO.out.mono ?_;rintro e w4 ⟨q5,c5,rfl,Z⟩;have S2:=Lib.hid (SH.out.comp Z);clear Z)))
   have S5:=(S3.out.pick (Δ:=[.own 3 1 q5 hn' c5 (encI r),.many 3 1 (rowsN (LL.take k) hd),.own 25 1 u' (k+1) e' (encH hd ++ [.slice q5 hn' c5])]) [0,2,1] (by decide) rfl).gather
   rw [show encH hd ++ [Value.slice q5 hn' c5]=encH (hd ++ [⟨q5,hn',c5⟩]) from encH_snoc hd ⟨q5,hn',c5⟩,← rowsN_snoc _ _ _ _ (by rw [HHD.out,HTL.out]),← HT.out] at S5
   have HS5:=Lib.hid S5
   clear S5
   go_roundw
   case rel=>exact⟨k+1,u',e',hd ++ [⟨q5,hn',c5⟩],by omega,by go_num,rfl,by unfold Hid;rw [List.length_append,HHD.out];rfl,HS5.out.pick [1,0] (by decide) rfl⟩
   case measure=>simp [intOf];omega
  ·obtain rfl:k=n:=by omega
   have S1:=SH.out
   rw [List.take_of_length_le (by rw [← L1.out];exact Nat.le_refl _)] at S1
   have HS:=Lib.hid S1
   clear S1
   go_wp2
   go_ret
   exact⟨q,oc,hd,rfl,RdL.of_sep HS.out 1 0 rfl rfl (by rw [HHD.out,L1.out]),HS.out.ext⟩
end
section
open Go Go.RowKit
theorem big_sml {LL:List (List Int)} (hb:bigL LL=false) (hs:smallL LL=true):SmL LL∧LL.length≤60∧∀ r∈LL,r.length≤150:=by
 unfold bigL at hb
 simp only [Bool.or_eq_false_iff,decide_eq_false_iff_not] at hb
 have h1:∀ r∈LL,r.length≤150:=fun r hr=>by have:=totL_ge hr;omega
 refine⟨⟨by omega,fun r hr=>⟨by have:=h1 r hr;omega,fun x hx=>?_⟩⟩,by omega,h1⟩
 have:=List.all_eq_true.1 (List.all_eq_true.1 hs r hr) x hx
 unfold smlB at this
 simp only [Bool.and_eq_true,decide_eq_true_eq] at this
 omega
theorem rdl_bound {w:World} {p:Option Addr} {n b:Nat} {hs:List Hd} {LL:List (List Int)} (h:RdL w p n hs LL) (hb:∀ r∈LL,r.length≤b):∀ k,k<n→(nth LL k).length≤b:=fun k hk=>by
 have hk':k<LL.length:=by rw [← h.nL];exact hk
 exact hb _ (by rw [nth_eq hk'];exact List.getElem_mem _)
end
end Go.Proofs.YtfjhjennfiihhaaGreat
