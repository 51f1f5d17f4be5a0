/- Texts of this claim, one behind the other: PlainFst, Bs1, Bs2, MapN, Pg1, PlainPg, KeepS, Pg2, PlainPq, Pq1, Pq2, Pg3, Pg4, Bs3, BsM, Bs4, Bs5, Bs6, Bs7, Bs8, Srt16, Srt16b, Srt16c, PlainPut, May16, KyS, ElmQ, Open, Open5, OpenQ, NewAt, Cmb16, CopyK, StoK, Trn17, Ord17, Frs19, Frs19b, Frs19c, Prt6, Row4r. -/
import Derived.Test.YtfjhjennfiihhaaGreatQNeedGrowsNeedStepsNeedWorkers2
set_option maxRecDepth 100000
set_option maxHeartbeats 16000000
namespace Go.Proofs.YtfjhjennfiihhaaGreat
section
open Go Go.RowKit
def SortsN (l:List (Int × Int)):Prop:=l.Pairwise fun a b=>ltN b a=false
theorem sortsN_uniq {l m:List (Int × Int)} (h1:SortsN l) (h2:SortsN m) (hp:l.Perm m):l=m :=
 List.Perm.eq_of_pairwise (le:=fun a b=>ltN b a=false) (fun a b _ _ h k=>stoN.tri a b k h) h1 h2 hp
theorem putN_cons (x y:Int × Int) (l:List (Int × Int)):putN x (y :: l)=if ltN x y=true then x :: y :: l else y :: putN x l:=by
 unfold putN
 rw [atN]
 by_cases h:ltN x y=true
 ·rw [if_pos h,if_pos h];rfl
 ·rw [if_neg h,if_neg h];rfl
theorem putN_nil (x:Int × Int):putN x []=[x]:=rfl
theorem putN_mem {x y:Int × Int} {l:List (Int × Int)}:y∈putN x l↔y=x∨y∈l:=by
 rw [(putN_perm x l).mem_iff,List.mem_append,List.mem_singleton]
 exact Or.comm
theorem putN_sorts (x:Int × Int):∀ {l:List (Int × Int)},SortsN l→SortsN (putN x l)
 | [],_=>by rw [putN_nil];exact List.pairwise_singleton _ _
 | y :: l,h=>by
  rw [putN_cons]
  have h':=List.pairwise_cons.1 h
  by_cases e:ltN x y=true
  ·rw [if_pos e]
   refine List.pairwise_cons.2 ⟨fun z hz=>?_,h⟩
   rcases List.mem_cons.1 hz with rfl | hz
   ·exact stoN.asymm e
   ·exact stoN.le_trans (stoN.asymm e) (h'.1 z hz)
  ·rw [if_neg e]
   refine List.pairwise_cons.2 ⟨fun z hz=>?_,putN_sorts x h'.2⟩
   rcases putN_mem.1 hz with rfl | hz
   ·simpa using e
   ·exact h'.1 z hz
theorem sortN_sorts:∀ l,SortsN (sortN l):=by
 refine snoc_indN List.Pairwise.nil fun l x ih=>?_
 rw [sortN_snoc]
 exact putN_sorts x ih
theorem putN_take (x:Int × Int):∀ (S:List (Int × Int)) (k:Nat),(putN x (S.take k)).take k=(putN x S).take k
 | [],k=>by simp
 | y :: l,0=>by simp
 | y :: l,k+1=>by
  rw [List.take_succ_cons,putN_cons,putN_cons]
  by_cases e:ltN x y=true
  ·rw [if_pos e,if_pos e,List.take_succ_cons,List.take_succ_cons]
   cases k with
   | zero=>rfl
   | succ k=>rw [List.take_succ_cons,List.take_succ_cons,List.take_take,Nat.min_eq_left (Nat.le_succ k)]
  ·rw [if_neg e,if_neg e,List.take_succ_cons,List.take_succ_cons,putN_take x l k]
theorem first_room {p X X':List (Int × Int)} {x:Int × Int} {k:Nat} (hX:X.Perm ((sortN p).take k)) (hp:X'.Perm (X ++ [x])) (hk:X'.length≤k):X'.Perm ((sortN (p ++ [x])).take k):=by
 have h1:X.length<k:=by have:=hp.length_eq;rw [List.length_append,List.length_singleton] at this;omega
 have h2:=hX.length_eq
 rw [List.length_take] at h2
 rw [List.take_of_length_le (by omega)] at hX
 rw [sortN_snoc,List.take_of_length_le (by rw [putN_len];omega)]
 exact hp.trans ((hX.append_right _).trans (putN_perm _ _).symm)
theorem first_full {p X X' R : List (Int × Int)} {x m : Int × Int} {k : Nat} (hX : X.Perm ((sortN p).take k)) (hp : X'.Perm (X ++ [x])) (hk : k < X'.length) (hm : ∀ b ∈ X', ltN m b = false) (hr : (m :: R).Perm X') : R.Perm ((sortN (p ++ [x])).take k) := by
  have h1 : k ≤ X.length := by have := hp.length_eq; rw [List.length_append, List.length_singleton] at this; omega
  have h2 := hX.length_eq
  rw [List.length_take] at h2
  have hY : (putN x ((sortN p).take k)).Perm X' := (putN_perm _ _).trans ((hX.symm.append_right _).trans hp.symm)
  have hS : SortsN (putN x ((sortN p).take k)) := putN_sorts x ((sortN_sorts p).sublist (List.take_sublist _ _))
  have hYl : (putN x ((sortN p).take k)).length = k + 1 := by rw [putN_len, List.length_take]; omega
  rw [sortN_snoc, ← putN_take]
  generalize putN x ((sortN p).take k) = Y at *
  obtain ⟨z, hz⟩ : ∃ z, Y = Y.take k ++ [z] := by
    refine ⟨nth Y k, ?_⟩
    have := take_succ_nth Y k (by omega)
    rwa [List.take_of_length_le (by omega)] at this
  have hzl : ∀ y ∈ Y, ltN z y = false := fun y hy => by
    rw [hz] at hy hS
    rw [SortsN, List.pairwise_append] at hS
    rcases List.mem_append.1 hy with hy | hy
    · exact hS.2.2 y hy z (by simp)
    · rw [List.mem_singleton] at hy; subst hy; exact stoN.irrefl _
  have hzY : z ∈ Y := by rw [hz]; simp
  have hmz : m = z := stoN.tri _ _ (hm z (hY.mem_iff.1 hzY)) (hzl m (hY.mem_iff.2 (hr.mem_iff.1 (List.mem_cons_self ..))))
  subst hmz
  have h3 : (m :: R).Perm (m :: Y.take k) := (hr.trans hY.symm).trans (by conv => lhs; rw [hz]
                                                                          exact List.perm_append_singleton _ _)
  exact h3.cons_inv
def firstN (l:List (Int × Int)) (k:Int):List (Int × Int):=if k<1 then [] else (sortN l).take k.toNat
theorem firstN_len (l:List (Int × Int)) (k:Int):(firstN l k).length≤l.length∧((firstN l k).length:Int)≤max k 0:=by
 unfold firstN
 split
 ·simp;omega
 ·rw [List.length_take,sortN_len];omega
theorem first_uniq {l Y:List (Int × Int)} {k:Nat} (h1:SortsN Y) (h2:Y.Perm ((sortN l).take k)):Y=(sortN l).take k :=
 sortsN_uniq h1 ((sortN_sorts l).sublist (List.take_sublist _ _)) h2
end
section
open Go Go.RowKit
def ltR (a b:Int × Int):Bool:=ltN b a
theorem stoR:STO ltR where
 irrefl a:=stoN.irrefl a
 trans a b c h k:=stoN.trans c b a k h
 tri a b h k:=(stoN.tri b a h k).symm
def cmpN (a b:Int × Int):Int:=if a.2=b.2 then (if a.1=b.1 then 0 else if a.1<b.1 then -1 else 1) else if a.2<b.2 then -1 else 1
theorem cmpN_neg (a b:Int × Int):decide (cmpN a b<0)=ltN a b:=by
 rw [Bool.eq_iff_iff,ltN_iff,decide_eq_true_eq]
 unfold cmpN
 by_cases h1:a.2=b.2
 ·rw [if_pos h1]
  by_cases h2:a.1=b.1
  ·rw [if_pos h2];omega
  ·rw [if_neg h2]
   by_cases h3:a.1<b.1
   ·rw [if_pos h3];omega
   ·rw [if_neg h3];omega
 ·rw [if_neg h1]
  by_cases h3:a.2<b.2
  ·rw [if_pos h3];omega
  ·rw [if_neg h3];omega
theorem bOrder (b:Bool) (w:World):Calls Tryz.prog 287 #[.bool b] w fun e w'=>e=.returned (.int .i64 (if b=true then -1 else 1))∧w=w':=by
 cases b <;> (go_enter Tryz.func287,Tryz.ntmps287;go_wp2;go_ret;exact⟨rfl,rfl⟩)
theorem bTo (x y:Int × Int) (w:World):Calls Tryz.prog 273 #[.agg #[.int .i64 x.1,.int .i64 x.2],.agg #[.int .i64 y.1,.int .i64 y.2]] w fun e w'=>e=.returned (.int .i64 (cmpN x y))∧w'=(w.alloc (.cells #[.int .i64 x.1,.int .i64 x.2] 329)).alloc (.cells #[.int .i64 y.1,.int .i64 y.2] 329):=by
 obtain⟨x1,x2⟩:=x
 obtain⟨y1,y2⟩:=y
 unfold cmpN
 simp only
 by_cases h1:x2=y2
 ·subst h1
  rw [if_pos rfl]
  by_cases h2:x1=y1
  ·subst h2
   rw [if_pos rfl]
   go_enter Tryz.func273,Tryz.ntmps273
   go_wp2
   go_ret
   exact⟨rfl,rfl⟩
  ·have e2:(x1 != y1)=true:=by simpa using h2
   rw [if_neg h2]
   by_cases h3:x1<y1
   ·rw [if_pos h3]
    have HB:=Lib.hid (fun W=>bOrder true W)
    clear h2
    go_enter Tryz.func273,Tryz.ntmps273
    go_wp2_with (go_at_call 287;go_must (refine(HB.out _).mono ?_;rintro e w1 ⟨rfl,rfl⟩))
    go_ret
    exact⟨rfl,rfl⟩
   ·rw [if_neg h3]
    have e3:decide (x1<y1)=false:=by simpa using h3
    have HB:=Lib.hid (fun W=>bOrder false W)
    clear h2 h3
    go_enter Tryz.func273,Tryz.ntmps273
    go_wp2_with (go_at_call 287;go_must (refine(HB.out _).mono ?_;rintro e w1 ⟨rfl,rfl⟩))
    go_ret
    exact⟨rfl,rfl⟩
 ·have e1:(x2 != y2)=true:=by simpa using h1
  rw [if_neg h1]
  by_cases h3:x2<y2
  ·rw [if_pos h3]
   have HB:=Lib.hid (fun W=>bOrder true W)
   clear h1
   go_enter Tryz.func273,Tryz.ntmps273
   go_wp2_with (go_at_call 287;go_must (refine(HB.out _).mono ?_;rintro e w1 ⟨rfl,rfl⟩))
   go_ret
   exact⟨rfl,rfl⟩
  ·rw [if_neg h3]
   have e3:decide (x2<y2)=false:=by simpa using h3
   have HB:=Lib.hid (fun W=>bOrder false W)
   clear h1 h3
   go_enter Tryz.func273,Tryz.ntmps273
   go_wp2_with (go_at_call 287;go_must (refine(HB.out _).mono ?_;rintro e w1 ⟨rfl,rfl⟩))
   go_ret
   exact⟨rfl,rfl⟩
theorem bToE (x y:Int × Int) (w:World):Calls Tryz.prog 273 #[.agg #[.int .i64 x.1,.int .i64 x.2],.agg #[.int .i64 y.1,.int .i64 y.2]] w fun e w'=>e=.returned (.int .i64 (cmpN x y))∧Ext w w' :=
 (bTo x y w).mono fun e w' ⟨h1,h2⟩=>⟨h1,by rw [h2];exact Ext.alloc (Ext.alloc (Below.refl _ _) _) _⟩
theorem bLen (gb:Nat) (q:Option Addr) (n c:Nat) (m:Int) (w:World) (hB:Blk w gb 301 #[.slice q n c,.int .i64 m]) (hn:n≤9223372036854775807):Calls Tryz.prog 285 #[.pointer (some ⟨gb,0,none⟩)] w fun e w'=>e=.returned (.int .i64 n)∧w'=w:=by
 have b0:w.cell? ⟨gb,0,none⟩=some (.slice q n c):=hB.cell 0
 have bz:=hB.lt
 have _u:=hn
 clear hB _u
 go_enter Tryz.func285,Tryz.ntmps285
 go_wp2
 go_ret
 exact⟨rfl,rfl⟩
theorem bLess (gb:Nat) (q:Option Addr) (n c:Nat) (m:Int) (X:List (Int × Int)) (i k:Nat) (w:World) (hB:Blk w gb 301 #[.slice q n c,.int .i64 m]) (hl:Rd w 2 q n (encE X)) (hi:i<n) (hk:k<n) :
  Calls Tryz.prog 375 #[.pointer (some ⟨gb,0,none⟩),.int .i64 i,.int .i64 k] w fun e w'=>e=.returned (.bool (ltR (nth X i) (nth X k)))∧Ext w w':=by
 have b0:w.cell? ⟨gb,0,none⟩=some (.slice q n c):=hB.cell 0
 have bz:=hB.lt
 have p1:=hl.ptr
 have n2:=hl.small
 have g1:=hl.cE2 hi
 have g2:=hl.cE2 hk
 have g3:=hl.cE hi
 have g4:=hl.cE hk
 have d1:(0:Int)≤i:=by omega
 have d2:(i:Int)<n:=by omega
 have d3:(0:Int)≤k:=by omega
 have d4:(k:Int)<n:=by omega
 unfold ltR
 generalize nth X i=a at *
 generalize nth X k=b at *
 have HT:=Lib.hid (fun W=>bToE b a W)
 have HF:=Lib.hid (cmpN_neg b a)
 clear hl hi hk hB
 rw [← HF.out]
 generalize cmpN b a=cc at *
 clear HF
 go_enter Tryz.func375,Tryz.ntmps375
 go_wp2
 have u0:=fun x:ExtOf w=>x.ext.cell b0
 have u1:=fun x:ExtOf w=>x.ext.cell g1
 have u2:=fun x:ExtOf w=>x.ext.cell g2
 have u3:=fun x:ExtOf w=>x.ext.cell g3
 have u4:=fun x:ExtOf w=>x.ext.cell g4
 refine wp_region_ext (by kernel_rfl) (by kernel_rfl) ?_
 repeat (go_big_quiet_step (((go_at_call 273;exact Calls.ext_of (HT.out _)))))
 refine wpQuiet_nil ?_
 rintro w9 ⟨⟨_,hb9⟩,rfl⟩
 go_wp2
 go_ret
 exact⟨rfl,hb9⟩
end
section
open Go Go.RowKit
theorem bSwapNe (gb g n c:Nat) (X:List (Int × Int)) (i k:Nat) (m:Int) (w w0:World) (Γ:List Pc) (jb j:Nat) (S:Sep w0 w Γ) (hb:Γ[jb]?=some (.blk gb 301 #[.slice (some ⟨g,0,none⟩) n c,.int .i64 m])) (hne:jb≠j) (hj:Γ[j]?=some (.own 329 2 (some ⟨g,0,none⟩) n c (encE X))) (hi:i<n) (hk:k<n) (hik:i≠k) (hn:n≤1000000) :
  Calls Tryz.prog 378 #[.pointer (some ⟨gb,0,none⟩),.int .i64 i,.int .i64 k] w fun e w'=>e=.returned (.tuple #[])∧Sep w0 w' (Γ.set j (.own 329 2 (some ⟨g,0,none⟩) n c (encE (swapL X i k)))):=by
 have ho:=S.own j hj
 have b0:w.cell? ⟨gb,0,none⟩=some (.slice (some ⟨g,0,none⟩) n c):=(S.blk jb hb).cell 0
 have bz:=(S.blk jb hb).lt
 have hgb:g≠gb:=by
  exact fun e=>S.apart_at hb hj hne (k:=gb) rfl (by subst e;rfl)
 have hl:=S.rd j hj (by omega)
 have g1:=hl.cE2 hi
 have g2:=hl.cE2 hk
 have g3:=hl.cE hi
 have g4:=hl.cE hk
 rw [adr_some,Nat.zero_add] at g1 g2 g3 g4
 have k1:w.frozen? ⟨g,i*2,none⟩=false:=by have:=own_frozen ho (by omega) (i*2);rwa [adr_some,Nat.zero_add] at this
 have k2:w.frozen? ⟨g,i*2+1,none⟩=false:=by have:=own_frozen ho (by omega) (i*2+1);rwa [adr_some,Nat.zero_add] at this
 have k3:w.frozen? ⟨g,k*2,none⟩=false:=by have:=own_frozen ho (by omega) (k*2);rwa [adr_some,Nat.zero_add] at this
 have k4:w.frozen? ⟨g,k*2+1,none⟩=false:=by have:=own_frozen ho (by omega) (k*2+1);rwa [adr_some,Nat.zero_add] at this
 have z1:g<w.heap.size:=(S.blt j hj (by omega)).2
 have d1:(0:Int)≤i:=by omega
 have d2:(i:Int)<n:=by omega
 have d3:(0:Int)≤k:=by omega
 have d4:(k:Int)<n:=by omega
 have x1:i*2≠k*2:=by omega
 have x2:i*2+1≠k*2:=by omega
 have x3:i*2≠k*2+1:=by omega
 have x4:i*2+1≠k*2+1:=by omega
 have hnX:=hl.nE
 have HX:=Lib.hid (encE_swap (X:=X) (i:=i) (k:=k) (by rw [← hnX];exact hi) (by rw [← hnX];exact hk) hik)
 generalize nth X i=a at *
 generalize nth X k=b at *
 clear hl ho
 have SH:=Lib.hid S;clear S
 have mixed:(Tryz.prog).follows Departure.mixedOrders=true:=by kernel_rfl
 clear hnX
 go_enter Tryz.func378,Tryz.ntmps378
 go_wp2
 go_region_o
 all_goals
  go_end0
  refine⟨rfl,?_⟩
  have T:=((SH.out.setRow2 j hj (i*2) (by omega) (.int .i64 b.1) (.int .i64 b.2)).setRow2 j (pc_set hj) (k*2) (by omega) (.int .i64 a.1) (.int .i64 a.2)).drew
  simp only [adr_some,Nat.zero_add,List.set_set] at T
  rw [← HX.out]
  exact T
theorem bSwapEq (gb g n c:Nat) (X:List (Int × Int)) (i:Nat) (m:Int) (w w0:World) (Γ:List Pc) (jb j:Nat) (S:Sep w0 w Γ) (hb:Γ[jb]?=some (.blk gb 301 #[.slice (some ⟨g,0,none⟩) n c,.int .i64 m])) (hne:jb≠j) (hj:Γ[j]?=some (.own 329 2 (some ⟨g,0,none⟩) n c (encE X))) (hi:i<n) (hn:n≤1000000) :
  Calls Tryz.prog 378 #[.pointer (some ⟨gb,0,none⟩),.int .i64 i,.int .i64 i] w fun e w'=>e=.returned (.tuple #[])∧Sep w0 w' (Γ.set j (.own 329 2 (some ⟨g,0,none⟩) n c (encE (swapL X i i)))):=by
 have ho:=S.own j hj
 have b0:w.cell? ⟨gb,0,none⟩=some (.slice (some ⟨g,0,none⟩) n c):=(S.blk jb hb).cell 0
 have bz:=(S.blk jb hb).lt
 have hgb:g≠gb:=by
  exact fun e=>S.apart_at hb hj hne (k:=gb) rfl (by subst e;rfl)
 have hl:=S.rd j hj (by omega)
 have g1:=hl.cE2 hi
 have g3:=hl.cE hi
 rw [adr_some,Nat.zero_add] at g1 g3
 have k1:w.frozen? ⟨g,i*2,none⟩=false:=by have:=own_frozen ho (by omega) (i*2);rwa [adr_some,Nat.zero_add] at this
 have k2:w.frozen? ⟨g,i*2+1,none⟩=false:=by have:=own_frozen ho (by omega) (i*2+1);rwa [adr_some,Nat.zero_add] at this
 have z1:g<w.heap.size:=(S.blt j hj (by omega)).2
 have d1:(0:Int)≤i:=by omega
 have d2:(i:Int)<n:=by omega
 have hnX:=hl.nE
 have HX:Hid (encE (X.set i (nth X i))=encE (swapL X i i)):=by unfold Hid swapL;rw [List.set_set]
 rw [encE_set2 _ (by omega)] at HX
 generalize nth X i=a at *
 clear hl ho
 have SH:=Lib.hid S;clear S
 have mixed:(Tryz.prog).follows Departure.mixedOrders=true:=by kernel_rfl
 clear hnX
 go_enter Tryz.func378,Tryz.ntmps378
 go_wp2
 go_region_o
 all_goals
  go_end0
  refine⟨rfl,?_⟩
  have T:=((SH.out.setRow2 j hj (i*2) (by omega) (.int .i64 a.1) (.int .i64 a.2)).setRow2 j (pc_set hj) (i*2) (by omega) (.int .i64 a.1) (.int .i64 a.2)).drew
  simp only [adr_some,Nat.zero_add,List.set_set] at T
  rw [set_again] at T
  rw [← HX.out]
  exact T
theorem bSwap (gb:Nat) (q:Option Addr) (n c:Nat) (X:List (Int × Int)) (i k:Nat) (m:Int) (w w0:World) (Γ:List Pc) (jb j:Nat) (S:Sep w0 w Γ) (hb:Γ[jb]?=some (.blk gb 301 #[.slice q n c,.int .i64 m])) (hne:jb≠j) (hj:Γ[j]?=some (.own 329 2 q n c (encE X))) (hi:i<n) (hk:k<n) (hn:n≤1000000) :
  Calls Tryz.prog 378 #[.pointer (some ⟨gb,0,none⟩),.int .i64 i,.int .i64 k] w fun e w'=>e=.returned (.tuple #[])∧Sep w0 w' (Γ.set j (.own 329 2 q n c (encE (swapL X i k)))):=by
 obtain⟨g,rfl,_⟩:=own_block (S.own j hj) (by omega)
 by_cases e:i=k
 ·subst e
  exact bSwapEq gb g n c X i m w w0 Γ jb j S hb hne hj hi hn
 ·exact bSwapNe gb g n c X i k m w w0 Γ jb j S hb hne hj hi hk e hn
end
section
open Go Go.RowKit Go.Maps
def I6:Type:={x:Int // I64 x}
theorem plainElem_int_inv {P:Program} {e:TypeId} (he:P.underlying e=some (.int .i64)) (u:Value) (y:DataW Unit × List MemPlace) (h:plainElem (H:=Unit) P e u=some y):∃ v:I6,u=.int .i64 v.1:=by
 unfold plainElem at h
 rw [he] at h
 cases u <;> simp at h
 obtain⟨⟨rfl,h1⟩,_⟩:=h
 exact⟨⟨_,h1⟩,rfl⟩
def elmI (P:Program) (e:TypeId) (he:P.underlying e=some (.int .i64)) (hz:∀ w,(zeroValue e).run P w=.ok (.int .i64 0) w):Elm P e I6 :=
 ⟨fun x=>.int .i64 x.1,fun x=>.lit (.int .i64 x.1),⟨0,I64.nat (k:=0) (by omega)⟩,fun v=>plainElem_int he v.2,plainElem_int_inv he,fun v v' h=>by injection h with h;injection h with _ h;exact Subtype.ext h,hz⟩
end
section
open Go Go.RowKit Go.Maps
theorem zeroI6 (w:World):(zeroValue 3).run Tryz.prog w=.ok (.int .i64 0) w:=by kernel_rfl
noncomputable def EI6:Elm Tryz.prog 3 I6:=elmI Tryz.prog 3 Tryz.underlying3 zeroI6
def Least (l:List Sq) (dir:Int) (f:Int→Option I6):Prop :=
 (∀ v,f v=none→∀ x∈l,x.r=dir→x.v≠v)∧∀ v d,f v=some d→(∃ x∈l,x.r=dir∧x.v=v∧x.d=d.1)∧∀ x∈l,x.r=dir→x.v=v→d.1≤x.d
theorem least_nil (dir:Int):Least [] dir (fun _=>none):=⟨fun v _ x h=>(List.not_mem_nil h).elim,fun v d h=>by cases h⟩
theorem least_skip {l:List Sq} {dir:Int} {f:Int→Option I6} (x:Sq) (h:Least l dir f) (hx:x.r=dir→∃ d,f x.v=some d∧d.1≤x.d):Least (l ++ [x]) dir f:=by
 refine⟨fun v hv y hy hr=>?_,fun v d hv=>⟨?_,fun y hy hr he=>?_⟩⟩
 ·rcases List.mem_append.1 hy with hy | hy
  ·exact h.1 v hv y hy hr
  ·rw [List.mem_singleton] at hy
   subst hy
   obtain⟨d,h1,_⟩:=hx hr
   intro e
   rw [e,hv] at h1
   cases h1
 ·obtain⟨y,hy,h1⟩:=(h.2 v d hv).1
  exact⟨y,List.mem_append_left _ hy,h1⟩
 ·rcases List.mem_append.1 hy with hy | hy
  ·exact(h.2 v d hv).2 y hy hr he
  ·rw [List.mem_singleton] at hy
   subst hy
   obtain⟨d',h1,h2⟩:=hx hr
   rw [he,hv] at h1
   injection h1 with h1
   rw [h1];exact h2
theorem least_put {l:List Sq} {dir:Int} {f:Int→Option I6} (x:Sq) (u:I6) (hu:u.1=x.d) (h:Least l dir f) (hr:x.r=dir) (hx:∀ d,f x.v=some d→x.d≤d.1):Least (l ++ [x]) dir (upF f x.v u):=by
 refine⟨fun v hv y hy hr'=>?_,fun v d hv=>?_⟩
 ·unfold upF at hv
  by_cases e:v=x.v
  ·rw [if_pos e] at hv;cases hv
  ·rw [if_neg e] at hv
   rcases List.mem_append.1 hy with hy | hy
   ·exact h.1 v hv y hy hr'
   ·rw [List.mem_singleton] at hy
    subst hy
    exact fun h=>e h.symm
 ·unfold upF at hv
  by_cases e:v=x.v
  ·rw [if_pos e] at hv
   injection hv with hv
   subst hv e
   refine⟨⟨x,by simp,hr,rfl,hu.symm⟩,fun y hy hr' he=>?_⟩
   rcases List.mem_append.1 hy with hy | hy
   ·cases hf:f x.v with
    | none=>exact absurd he (h.1 _ hf y hy hr')
    | some d=>have:=hx d hf;have:=(h.2 _ d hf).2 y hy hr' he;rw [hu];omega
   ·rw [List.mem_singleton] at hy
    subst hy
    rw [hu];exact Int.le_refl _
  ·rw [if_neg e] at hv
   obtain⟨⟨y,hy,h1⟩,h2⟩:=h.2 v d hv
   refine⟨⟨y,List.mem_append_left _ hy,h1⟩,fun y hy hr' he=>?_⟩
   rcases List.mem_append.1 hy with hy | hy
   ·exact h2 y hy hr' he
   ·rw [List.mem_singleton] at hy
    subst hy
    exact absurd he.symm e
theorem leastG (p:Option Addr) (n c:Nat) (l:List Sq) (dir:Int) (w:World) (hl:Rd w 4 p n (encQ l)) (hi:∀ x∈l,I64 x.v∧I64 x.d) (hn:n≤1000000) :
  Calls Tryz.prog 154 #[.slice p n c,.int .i64 dir] w fun e w'=>∃ b m f,m≤n∧e=.returned (.map (some b))∧Sep w w' [.map Tryz.prog 3 EI6 b m f]∧Least l dir f:=by
 have p1:=hl.ptr
 have l1:=hl.nQ
 have HL:=Lib.hid hl;clear hl
 have L1:=Lib.hid l1;clear l1
 have HI:=Lib.hid hi;clear hi
 have hmm:=@run_makeMap Tryz.prog
 have S0:=Lib.hid ((Sep.start w).mkmap EI6 (k:=3))
 go_enter Tryz.func154,Tryz.ntmps154
 go_wp2
 go_loopw [7,8,9,13] (fun _ _ _ i wr=>∃ (k mm:Nat) (f:Int→Option I6),k≤n∧mm≤k∧i=.int .i64 k∧Sep w wr [.map Tryz.prog 3 EI6 w.heap.size mm f]∧Hid (Least (l.take k) dir f)) (fun _ _ _ i _=>n - (intOf i).toNat)
 case atStart=>exact⟨0,0,_,Nat.zero_le _,Nat.le_refl _,rfl,S0.out,by rw [List.take_zero];exact least_nil dir⟩
 case round =>
  clear S0
  obtain⟨k,mm,f,hk,hm,rfl,S,HF⟩:=hrel
  by_cases hlt:k<n
  ·obtain⟨g1,g2,g3,g4⟩:=(HL.out.ext S.ext).cQ hlt
   have hx2:=HI.out (nth l k) (by rw [nth_eq (by rw [← L1.out];exact hlt)];exact List.getElem_mem _)
   obtain⟨x,hxl⟩:∃ x,nth l k=x:=⟨_,rfl⟩
   rw [hxl] at g1 g2 g3 g4 hx2
   obtain⟨hxv,hxd⟩:=hx2
   have S1:=Lib.hid (S.al #[.int .i64 x.s,.int .i64 x.r,.int .i64 x.v,.int .i64 x.d] 146 wr.heap.size rfl)
   have k1:=(S1.out.map 1 rfl).lookup_ok (t:=214) Tryz.underlying3 Tryz.underlying214 hxv
   have d1:(0:Int)≤k:=by omega
   have d2:(k:Int)<n:=by omega
   have HXL:=Lib.hid hxl
   clear hxl S
   by_cases hr:x.r=dir
   ·have HR:=Lib.hid hr
    have e1:(x.r == dir)=true:=by simpa using hr
    clear hr
    cases hf:f x.v with
    | none =>
     have k2:(Instr.lookup 214 (.map (some w.heap.size)) (.int .i64 x.v) true).run Tryz.prog (wr.alloc (.cells #[.int .i64 x.s,.int .i64 x.r,.int .i64 x.v,.int .i64 x.d] 146))=.ok (.tuple #[.int .i64 0,.bool false]) (wr.alloc (.cells #[.int .i64 x.s,.int .i64 x.r,.int .i64 x.v,.int .i64 x.d] 146)):=by rw [hf] at k1;exact k1
     have HL1:Hid (∀ d,f x.v=some d→x.d≤d.1):=fun d h=>by rw [hf] at h;cases h
     clear k1 hf
     go_wp2_with (at_mapUpdate;go_must (refine wpList_update_sep rfl _ _ _ _ rfl Tryz.underlying3 Tryz.underlying214 rfl S1.out 1 rfl (by omega) x.v ⟨x.d,hxd⟩ rfl rfl hxv ?_;intro w1 S' hg;have S2:=Lib.hid S';clear S' hg))
     go_roundw
     case rel=>exact⟨k+1,mm+1,_,by omega,by omega,by go_num,S2.out.pick [1] (by decide) rfl,by rw [take_succ_nth l k (by rw [← L1.out];exact hlt),HXL.out];exact least_put x ⟨x.d,hxd⟩ rfl HF.out HR.out HL1.out⟩
     case measure=>simp [intOf];omega
    | some d =>
     obtain⟨dv,hdv⟩:=d
     have k2:(Instr.lookup 214 (.map (some w.heap.size)) (.int .i64 x.v) true).run Tryz.prog (wr.alloc (.cells #[.int .i64 x.s,.int .i64 x.r,.int .i64 x.v,.int .i64 x.d] 146))=.ok (.tuple #[.int .i64 dv,.bool true]) (wr.alloc (.cells #[.int .i64 x.s,.int .i64 x.r,.int .i64 x.v,.int .i64 x.d] 146)):=by rw [hf] at k1;exact k1
     by_cases hd:x.d<dv
     ·have e2:decide (x.d<dv)=true:=by simpa using hd
      have HL1:Hid (∀ d,f x.v=some d→x.d≤d.1):=fun d h=>by rw [hf] at h;injection h with h;subst h;exact Int.le_of_lt hd
      clear k1 hf hd
      go_wp2_with (at_mapUpdate;go_must (refine wpList_update_sep rfl _ _ _ _ rfl Tryz.underlying3 Tryz.underlying214 rfl S1.out 1 rfl (by omega) x.v ⟨x.d,hxd⟩ rfl rfl hxv ?_;intro w1 S' hg;have S2:=Lib.hid S';clear S' hg))
      go_roundw
      case rel=>exact⟨k+1,mm+1,_,by omega,by omega,by go_num,S2.out.pick [1] (by decide) rfl,by rw [take_succ_nth l k (by rw [← L1.out];exact hlt),HXL.out];exact least_put x ⟨x.d,hxd⟩ rfl HF.out HR.out HL1.out⟩
      case measure=>simp [intOf];omega
     ·have e2:decide (x.d<dv)=false:=by simpa using hd
      have HL1:Hid (x.r=dir→∃ d,f x.v=some d∧d.1≤x.d):=fun _=>⟨_,hf,by show dv≤x.d;omega⟩
      clear k1 hf hd
      go_wp2
      go_roundw
      case rel=>exact⟨k+1,mm,f,by omega,by omega,by go_num,S1.out.pick [1] (by decide) rfl,by rw [take_succ_nth l k (by rw [← L1.out];exact hlt),HXL.out];exact least_skip x HF.out HL1.out⟩
      case measure=>simp [intOf];omega
   ·have e1:(x.r == dir)=false:=by simpa using hr
    have HL1:Hid (x.r=dir→∃ d,f x.v=some d∧d.1≤x.d):=fun h=>absurd h hr
    clear hr
    cases hf:f x.v with
    | none =>
     have k2:(Instr.lookup 214 (.map (some w.heap.size)) (.int .i64 x.v) true).run Tryz.prog (wr.alloc (.cells #[.int .i64 x.s,.int .i64 x.r,.int .i64 x.v,.int .i64 x.d] 146))=.ok (.tuple #[.int .i64 0,.bool false]) (wr.alloc (.cells #[.int .i64 x.s,.int .i64 x.r,.int .i64 x.v,.int .i64 x.d] 146)):=by rw [hf] at k1;exact k1
     clear k1 hf
     go_wp2
     go_roundw
     case rel=>exact⟨k+1,mm,f,by omega,by omega,by go_num,S1.out.pick [1] (by decide) rfl,by rw [take_succ_nth l k (by rw [← L1.out];exact hlt),HXL.out];exact least_skip x HF.out HL1.out⟩
     case measure=>simp [intOf];omega
    | some d =>
     obtain⟨dv,hdv⟩:=d
     have k2:(Instr.lookup 214 (.map (some w.heap.size)) (.int .i64 x.v) true).run Tryz.prog (wr.alloc (.cells #[.int .i64 x.s,.int .i64 x.r,.int .i64 x.v,.int .i64 x.d] 146))=.ok (.tuple #[.int .i64 dv,.bool true]) (wr.alloc (.cells #[.int .i64 x.s,.int .i64 x.r,.int .i64 x.v,.int .i64 x.d] 146)):=by rw [hf] at k1;exact k1
     clear k1 hf
     go_wp2
     go_roundw
     case rel=>exact⟨k+1,mm,f,by omega,by omega,by go_num,S1.out.pick [1] (by decide) rfl,by rw [take_succ_nth l k (by rw [← L1.out];exact hlt),HXL.out];exact least_skip x HF.out HL1.out⟩
     case measure=>simp [intOf];omega
  ·obtain rfl:k=n:=by omega
   have SH:=Lib.hid S;clear S
   go_wp2
   go_ret
   exact⟨_,mm,f,hm,rfl,SH.out,by have:=HF.out;rw [List.take_of_length_le (by rw [← L1.out];omega)] at this;exact this⟩
end
section
open Go Go.RowKit Go.Maps
def PairD (l:List Sq) (s:Int):Prop:=∃ x∈l,∃ y∈l,x.r=0∧y.r=1∧x.v=y.v∧x.d+y.d=s
def MeetA (l:List Sq) (b:Bool) (d:Int):Prop:=(b=false→d=0∧∀ s,¬ PairD l s)∧(b=true→PairD l d∧∀ s,PairD l s→d≤s)
theorem meetA_uniq {l:List Sq} {b b':Bool} {d d':Int} (h:MeetA l b d) (h':MeetA l b' d'):b=b'∧d=d':=by
 cases b with
 | false =>
  obtain⟨h1,h2⟩:=h.1 rfl
  cases b' with
  | false=>exact⟨rfl,h1.trans (h'.1 rfl).1.symm⟩
  | true=>exact absurd (h'.2 rfl).1 (h2 _)
 | true =>
  obtain⟨h1,h2⟩:=h.2 rfl
  cases b' with
  | false=>exact absurd h1 ((h'.1 rfl).2 _)
  | true =>
   obtain⟨h3,h4⟩:=h'.2 rfl
   have:=h2 _ h3
   have:=h4 _ h1
   exact⟨rfl,by omega⟩
def MeetP (f g:Int→Option I6) (on:Int→Bool) (b:Bool) (d:Int):Prop :=
 (b=false→d=0∧∀ v x y,on v=true→f v=some x→g v=some y→False) ∧
 (b=true→(∃ v x y,f v=some x∧g v=some y∧y.1+x.1=d)∧∀ v x y,on v=true→f v=some x→g v=some y→d≤y.1+x.1)
theorem meetP_end {l:List Sq} {f g:Int→Option I6} {on:Int→Bool} {b:Bool} {d:Int} (hf:Least l 1 f) (hg:Least l 0 g) (hon:∀ v,(g v).isSome=true→on v=true) (h:MeetP f g on b d):MeetA l b d:=by
 have key:∀ s,PairD l s→∃ v x y,on v=true∧f v=some x∧g v=some y∧y.1+x.1≤s:=by
  rintro s ⟨x,hx,y,hy,h1,h2,h3,rfl⟩
  cases e1:f x.v with
  | none=>exact absurd h3.symm (hf.1 _ e1 y hy h2)
  | some u =>
   cases e2:g x.v with
   | none=>exact absurd rfl (hg.1 _ e2 x hx h1)
   | some t =>
    have k1:=(hf.2 _ u e1).2 y hy h2 h3.symm
    have k2:=(hg.2 _ t e2).2 x hx h1 rfl
    exact⟨x.v,u,t,hon _ (by rw [e2];rfl),e1,e2,by omega⟩
 refine⟨fun hb=>⟨(h.1 hb).1,fun s hs=>?_⟩,fun hb=>⟨?_,fun s hs=>?_⟩⟩
 ·obtain⟨v,x,y,h1,h2,h3,_⟩:=key s hs
  exact(h.1 hb).2 v x y h1 h2 h3
 ·obtain⟨v,x,y,h1,h2,h3⟩:=(h.2 hb).1
  obtain⟨p,hp,p1,p2,p3⟩:=(hf.2 _ x h1).1
  obtain⟨q,hq,q1,q2,q3⟩:=(hg.2 _ y h2).1
  exact⟨q,hq,p,hp,q1,p1,by rw [q2,p2],by rw [q3,p3];exact h3⟩
 ·obtain⟨v,x,y,h1,h2,h3,h4⟩:=key s hs
  have:=(h.2 hb).2 v x y h1 h2 h3
  omega
theorem meetP_skip {f g:Int→Option I6} {on on':Int→Bool} {b:Bool} {d:Int} {v:Int} (h:MeetP f g on b d) (ho:∀ u,on' u=true→u=v∨on u=true) (hv:f v=none):MeetP f g on' b d:=by
 refine⟨fun hb=>⟨(h.1 hb).1,fun u x y h1 h2 h3=>?_⟩,fun hb=>⟨(h.2 hb).1,fun u x y h1 h2 h3=>?_⟩⟩
 ·rcases ho u h1 with e | e
  ·subst e;rw [hv] at h2;cases h2
  ·exact(h.1 hb).2 u x y e h2 h3
 ·rcases ho u h1 with e | e
  ·subst e;rw [hv] at h2;cases h2
  ·exact(h.2 hb).2 u x y e h2 h3
theorem meetP_keep {f g:Int→Option I6} {on on':Int→Bool} {d:Int} {v:Int} {x y:I6} (h:MeetP f g on true d) (ho:∀ u,on' u=true→u=v∨on u=true) (hf:f v=some x) (hg:g v=some y) (hd:d≤y.1+x.1):MeetP f g on' true d:=by
 refine⟨fun hb=>(by cases hb),fun hb=>⟨(h.2 hb).1,fun u x' y' h1 h2 h3=>?_⟩⟩
 rcases ho u h1 with e | e
 ·subst e
  rw [hf] at h2;rw [hg] at h3
  injection h2 with h2;injection h3 with h3
  subst h2 h3
  exact hd
 ·exact(h.2 hb).2 u x' y' e h2 h3
theorem meetP_put {f g:Int→Option I6} {on on':Int→Bool} {b:Bool} {d:Int} {v:Int} {x y:I6} (h:MeetP f g on b d) (ho:∀ u,on' u=true→u=v∨on u=true) (hf:f v=some x) (hg:g v=some y) (hd:b=true→y.1+x.1≤d):MeetP f g on' true (y.1+x.1):=by
 refine⟨fun hb=>(by cases hb),fun _=>⟨⟨v,x,y,hf,hg,rfl⟩,fun u x' y' h1 h2 h3=>?_⟩⟩
 rcases ho u h1 with e | e
 ·subst e
  rw [hf] at h2;rw [hg] at h3
  injection h2 with h2;injection h3 with h3
  subst h2 h3
  exact Int.le_refl _
 ·cases b with
  | false=>exact((h.1 rfl).2 u x' y' e h2 h3).elim
  | true=>have:=(h.2 rfl).2 u x' y' e h2 h3;have:=hd rfl;omega
end
section
open Go Go.RowKit
theorem Rd.loc {w w':World} {size n:Nat} {p:Option Addr} {xs:List Value} (h:Rd w size p n xs) (hk:∀ k,blkOf p=some k→w'.heap[k]?=w.heap[k]?):Rd w' size p n xs:=by
 refine⟨h.len,h.ptr,h.small,fun j hj=>?_⟩
 have h1:=h.cells j hj
 rcases h.ptr with h0 | ⟨b,o,rfl⟩
 ·subst h0;omega
 ·have h2:=hk b rfl
  rw [← h1]
  show w'.cell? ⟨b,o+j,none⟩=w.cell? ⟨b,o+j,none⟩
  simp only [World.cell?,h2]
theorem Sep.weak {w0 w:World} {Γ Δ:List Pc} (S:Sep w0 w Γ) (hl:Δ.length=Γ.length) (h:∀ (i:Nat) p q,Γ[i]?=some p→Δ[i]?=some q→p.holds w→q.holds w∧∀ k,q.foot k→p.foot k):Sep w0 w Δ:=by
 have key:∀ (i:Nat) (q:Pc),Δ[i]?=some q→∃ p,Γ[i]?=some p∧p∈Γ∧q.holds w∧∀ k,q.foot k→p.foot k:=fun i q hq=>by
  have hi:=(List.getElem?_eq_some_iff.1 hq).1
  have hp:Γ[i]?=some Γ[i]:=List.getElem?_eq_getElem (by omega)
  have hm:Γ[i]∈Γ:=List.getElem_mem _
  exact⟨_,hp,hm,h i _ q hp hq (S.all _ hm)⟩
 refine⟨S.ext,fun q hq=>?_,fun q hq k hk=>?_,?_⟩
 ·obtain⟨i,hi,rfl⟩:=List.mem_iff_getElem.1 hq
  obtain⟨p,_,_,h1,_⟩:=key i _ (List.getElem?_eq_getElem hi)
  exact h1
 ·obtain⟨i,hi,rfl⟩:=List.mem_iff_getElem.1 hq
  obtain⟨p,_,hm,_,h2⟩:=key i _ (List.getElem?_eq_getElem hi)
  exact S.new p hm k (h2 k hk)
 ·rw [List.pairwise_iff_getElem]
  intro a b ha hb hab k hka hkb
  obtain⟨p,hp,_,_,h2⟩:=key a _ (List.getElem?_eq_getElem ha)
  obtain⟨p',hp',_,_,h2'⟩:=key b _ (List.getElem?_eq_getElem hb)
  exact S.apart_at hp hp' (by omega) (h2 k hka) (h2' k hkb)
end
section
open Go Go.RowKit Go.Maps
def Pc.mapR (b:Nat) (es:Array MapEntry) (clock:Nat):Pc :=
 ⟨fun i=>i=b,fun w=>w.heap[b]?=some (.map es clock),fun w h i hi=>by subst hi;exact(Array.getElem?_eq_some_iff.1 h).1,fun _ _ h hi=>(hi b rfl).trans h⟩
theorem Sep.head {w0 w:World} {Γ:List Pc} {p q:Pc} (S:Sep w0 w (p :: Γ)) (h:q.holds w) (hf:∀ k,q.foot k→p.foot k):Sep w0 w (q :: Γ) :=
 S.weak rfl fun i p' q' h1 h2 h3=>by
  cases i with
  | zero =>
   simp at h1 h2
   subst h1 h2
   exact⟨h,hf⟩
  | succ i =>
   simp at h1 h2
   rw [h1] at h2
   injection h2 with h2
   subst h2
   exact⟨h3,fun k hk=>hk⟩
theorem on_step {g:Int→Option I6} {left:Int→Bool} {x u:Int} (h:((g u).isSome && !(left u && u != x))=true):u=x∨((g u).isSome && !left u)=true:=by
 by_cases e:u=x
 ·exact .inl e
 ·have e2:(u != x)=true:=by simpa using e
  rw [e2,Bool.and_true] at h
  exact .inr h
theorem hbw {w0 w:World} {p:Pc} {Γ:List Pc} {b:Nat} {es:Array MapEntry} {clock:Nat} (S:Sep w0 w (p :: .mapR b es clock :: Γ)):w.heap[b]?=some (.map es clock):=S.all (.mapR b es clock) (by simp)
theorem meetP_start (f g:Int→Option I6):MeetP f g (fun v=>(g v).isSome && !(g v).isSome) false 0:=⟨fun _=>⟨rfl,fun v _ _ h=>(by cases hg:g v <;> simp [hg] at h)⟩,fun h=>(by cases h)⟩
theorem least_bd {l:List Sq} {dir:Int} {f:Int→Option I6} (h:Least l dir f) (hb:∀ x∈l,-1000000≤x.d∧x.d≤1000000) {v:Int} {d:I6} (hf:f v=some d):-1000000≤d.1∧d.1≤1000000:=by
 obtain⟨x,hx,_,_,h3⟩:=(h.2 v d hf).1
 rw [← h3];exact hb x hx
theorem meetPG (p:Option Addr) (n c:Nat) (l:List Sq) (w:World) (hl:Rd w 4 p n (encQ l)) (hi:∀ x∈l,I64 x.v∧I64 x.d) (hb:∀ x∈l,-1000000≤x.d∧x.d≤1000000) (hn:n≤1000000) :
  Calls Tryz.prog 153 #[.slice p n c] w fun e w'=>∃ b d,e=.returned (.agg #[.bool b,.int .i64 d,.slice none 0 0])∧Ext w w'∧MeetA l b d:=by
 have HLE:=Lib.hid (fun dir W (h:Ext w W)=>leastG p n c l dir W (hl.ext h) hi hn)
 have HBD:=Lib.hid hb
 have S0:=Lib.hid (((Sep.start w).al #[.bool false,.int .i64 0,.slice none 0 0] 34 w.heap.size rfl).al #[.bool false,.int .i64 0,.slice none 0 0] 34 (w.heap.size+1) (by simp))
 clear hl hi hb
 go_enter Tryz.func153,Tryz.ntmps153
 go_wp2_with (first
  | (at_range;go_must (refine wpList_range_sep rfl _ _ rfl Tryz.underlying3 Tryz.underlying214 rfl HB2.out HF2.out HS2.out HFN.out S2.out w2.heap.size rfl ?_;intro w3 since seen c0 cnt S' R hsz he;have S3:=Lib.hid S';have HR:=Lib.hid R;clear S' R he hsz))
  | (go_at_call 154;have _t:=S1;go_must (refine(HLE.out _ _ S1.out.ext).mono ?_;rintro e w2 ⟨b2,m2,g,hm2,rfl,Z,hg⟩;have HG:=Lib.hid hg;have S2':=S1.out.comp Z;obtain⟨es,clock,hx1,hx2,hx3,hx4⟩:=(S2'.map 0 rfl).raw;have HB2:=Lib.hid hx1;have HF2:=Lib.hid hx2;have HS2:=Lib.hid hx3;have HFN:=Lib.hid hx4;have S2:=Lib.hid (Sep.head (q:=Pc.mapR b2 es clock) S2' hx1 fun k h=>h);clear S2' Z hg hx1 hx2 hx3 hx4))
  | (go_at_call 154;go_must (refine(HLE.out _ _ S0.out.ext).mono ?_;rintro e w1 ⟨b1,m1,f,hm1,rfl,Z,hf⟩;have HF:=Lib.hid hf;have S1:=Lib.hid (S0.out.comp Z);clear Z hf)))
 go_frame
 go_loopw [5,6,7,8] (fun _ _ _ _ wr=>∃ bb dd since seen c0 cnt left,Sep w wr [.iter w2.heap.size b2 since seen c0,.mapR b2 es clock,.map Tryz.prog 3 EI6 b1 m1 f,.blk (w.heap.size+1) 34 #[.bool bb,.int .i64 dd,.slice none 0 0],.blk w.heap.size 34 #[.bool false,.int .i64 0,.slice none 0 0]]∧Hid (Rng Tryz.prog 3 EI6 es clock since seen c0 m2 g left cnt)∧Hid (MeetP f g (fun v=>(g v).isSome && !left v) bb dd)) (fun _ _ _ _ wr=>wr.rangeLeft b2 w2.heap.size)
 case atStart=>exact⟨false,0,since,seen,c0,cnt,_,S3.out,HR,meetP_start f g⟩
 case round =>
  clear S3 HR since seen c0 cnt
  obtain⟨bb,dd,since,seen,c0,cnt,left,S,HR,HM⟩:=hrel
  have HBW:Hid (wr.heap[b2]?=some (.map es clock)):=S.all _ (List.mem_of_getElem? (show _=some (Pc.mapR b2 es clock) from(rfl:_[1]?=_)))
  have SH:=Lib.hid S;clear S
  go_wp2_with (at_next;go_must (refine wpList_next_sep rfl _ rfl Tryz.underlying3 rfl HBW.out SH.out 0 rfl HR.out ?_ ?_))
  ·intro hall
   have HA:Hid (MeetA l bb dd):=meetP_end HF.out HG.out (fun v hv=>by simp [hv,hall v]) HM.out
   clear hall
   have z3:=(SH.out.blk 3 rfl).lt
   have c30:wr.cell? ⟨w.heap.size+1,0,none⟩=some (.bool bb):=(SH.out.blk 3 rfl).cell 0
   have c31:wr.cell? ⟨w.heap.size+1,1,none⟩=some (.int .i64 dd):=(SH.out.blk 3 rfl).cell 1
   have c32:wr.cell? ⟨w.heap.size+1,2,none⟩=some (.slice none 0 0):=(SH.out.blk 3 rfl).cell 2
   have z4:=(SH.out.blk 4 rfl).lt
   have c40:wr.cell? ⟨w.heap.size,0,none⟩=some (.bool false):=(SH.out.blk 4 rfl).cell 0
   have c41:wr.cell? ⟨w.heap.size,1,none⟩=some (.int .i64 0):=(SH.out.blk 4 rfl).cell 1
   have c42:wr.cell? ⟨w.heap.size,2,none⟩=some (.slice none 0 0):=(SH.out.blk 4 rfl).cell 2
   obtain⟨r0,r1,r2⟩:=bkz0z1z2 (SH.out.blk 4 rfl)
   have S9:=Lib.hid (((SH.out.set 4 rfl 0 (.bool bb)).set 4 rfl 1 (.int .i64 dd)).set 4 rfl 2 (.slice none 0 0))
   obtain⟨d0,d1,d2⟩:=bkc0c1c2 (S9.out.blk 4 rfl)
   go_wp2
   exact bodyPost_ret (v:=.agg #[.bool bb,.int .i64 dd,.slice none 0 0]) (by simp [results,Tryz.results153,go_sem,d0,d1,d2,Tryz.sizeOf34,Tryz.isAgg34]) rfl ⟨bb,dd,rfl,S9.out.ext,HA.out⟩
  ·intro t w1 since' seen' c0' cnt' hx hl hfx S1 R1 hc hsz hb1 hg1 hen
   obtain⟨x,vv⟩:=t
   obtain⟨v,hvw⟩:=vv
   have hen2:(Instr.entry (.pointer (some ⟨w2.heap.size,0,none⟩))).run Tryz.prog w1=.ok (.tuple #[.int .i64 x,.int .i64 v]) w1:=hen
   have hgx:g x=some ⟨v,hvw⟩:=hfx
   have hx':I64 x:=hx
   have hm1:wr.rangeLeft b2 w2.heap.size=cnt:=rng_left HBW.out (SH.out.iter 0 rfl) HR.out
   have hbv:=least_bd HG.out HBD.out hgx
   have q1:-1000000≤v:=hbv.1
   have q2:v≤1000000:=hbv.2
   have HON:Hid (∀ u,((g u).isSome && !(left u && u != x))=true→u=x∨((g u).isSome && !left u)=true):=fun u h=>on_step h
   have HGX:=Lib.hid hgx
   have HM1:=Lib.hid hm1
   have HC:=Lib.hid hc
   have z3:=(S1.blk 3 rfl).lt
   have c30:w1.cell? ⟨w.heap.size+1,0,none⟩=some (.bool bb):=(S1.blk 3 rfl).cell 0
   have c31:w1.cell? ⟨w.heap.size+1,1,none⟩=some (.int .i64 dd):=(S1.blk 3 rfl).cell 1
   have c32:w1.cell? ⟨w.heap.size+1,2,none⟩=some (.slice none 0 0):=(S1.blk 3 rfl).cell 2
   obtain⟨r0,r1,r2⟩:=bkz0z1z2 (S1.blk 3 rfl)
   have k1:=(S1.map 2 rfl).lookup_ok (t:=214) Tryz.underlying3 Tryz.underlying214 hx'
   have SH1:=Lib.hid S1;clear S1
   have HR1:=Lib.hid R1;clear R1
   clear hg1 hsz HBW hen hb1 hc hm1 hgx hfx hx hx' hl hbv
   cases hf:f x with
   | none =>
    have k2:(Instr.lookup 214 (.map (some b1)) (.int .i64 x) true).run Tryz.prog w1=.ok (.tuple #[.int .i64 0,.bool false]) w1:=by rw [hf] at k1;exact k1
    have HM2:Hid (MeetP f g (fun u=>(g u).isSome && !(left u && u != x)) bb dd):=meetP_skip HM.out HON.out hf
    clear k1 hf
    go_wp2
    go_roundw
    case rel=>exact⟨_,_,since',seen',c0',cnt',_,SH1.out,HR1.out,HM2.out⟩
    case measure=>rw [HM1.out,rng_left (hbw SH1.out) (SH1.out.iter 0 rfl) HR1.out];exact HC.out
   | some yy =>
    obtain⟨y,hyw⟩:=yy
    have k2:(Instr.lookup 214 (.map (some b1)) (.int .i64 x) true).run Tryz.prog w1=.ok (.tuple #[.int .i64 y,.bool true]) w1:=by rw [hf] at k1;exact k1
    have hby:=least_bd HF.out HBD.out hf
    have q3:-1000000≤y:=hby.1
    have q4:y≤1000000:=hby.2
    have HFX:=Lib.hid hf
    clear k1 hf hby
    cases bb with
    | false =>
     have HM2:Hid (MeetP f g (fun u=>(g u).isSome && !(left u && u != x)) true (v+y)):=meetP_put HM.out HON.out HFX.out HGX.out (fun h=>by cases h)
     go_wp2
     have S5:=Lib.hid (((SH1.out.set 3 rfl 0 (.bool true)).set 3 rfl 1 (.int .i64 (v+y))).set 3 rfl 2 (.slice none 0 0))
     go_roundw
     case rel=>exact⟨true,v+y,since',seen',c0',cnt',_,S5.out,HR1.out,HM2.out⟩
     case measure=>rw [HM1.out,rng_left (hbw S5.out) (S5.out.iter 0 rfl) HR1.out];exact HC.out
    | true =>
     by_cases hd:v+y<dd
     ·have HM2:Hid (MeetP f g (fun u=>(g u).isSome && !(left u && u != x)) true (v+y)):=meetP_put HM.out HON.out HFX.out HGX.out (fun _=>by show v+y≤dd;omega)
      have e1:decide (v+y<dd)=true:=by simpa using hd
      clear hd
      go_wp2
      have S5:=Lib.hid (((SH1.out.set 3 rfl 0 (.bool true)).set 3 rfl 1 (.int .i64 (v+y))).set 3 rfl 2 (.slice none 0 0))
      go_roundw
      case rel=>exact⟨true,v+y,since',seen',c0',cnt',_,S5.out,HR1.out,HM2.out⟩
      case measure=>rw [HM1.out,rng_left (hbw S5.out) (S5.out.iter 0 rfl) HR1.out];exact HC.out
     ·have HM2:Hid (MeetP f g (fun u=>(g u).isSome && !(left u && u != x)) true dd):=meetP_keep HM.out HON.out HFX.out HGX.out (by show dd≤v+y;omega)
      have e1:decide (v+y<dd)=false:=by simpa using hd
      clear hd
      go_wp2
      go_roundw
      case rel=>exact⟨_,_,since',seen',c0',cnt',_,SH1.out,HR1.out,HM2.out⟩
      case measure=>rw [HM1.out,rng_left (hbw SH1.out) (SH1.out.iter 0 rfl) HR1.out];exact HC.out
end
section
open Go Go.RowKit
def plcB (v n:Int):Bool:=decide (0≤v) && decide (v<n)
theorem plcB_iff {v n:Int}:plcB v n=true↔0≤v∧v<n:=by
 unfold plcB
 rw [Bool.and_eq_true,decide_eq_true_eq,decide_eq_true_eq]
def manyB (ws:List ByteArray):Bool:=decide (1≤ws.length) && decide (ws.length≤8) && ws.all wordB
def numB (rad most:Int):Bool:=decide (0≤rad) && decide (rad≤200) && decide (1≤most) && decide (most≤100)
def okQ (k f t:Int) (ws:List ByteArray) (rad most n:Int):Bool :=
 if k=1∨k=2 then plcB f n && plcB t n else if k=3 then plcB f n && manyB ws && numB rad most else false
def chkQ (k f t:Int) (ws:List ByteArray) (rad most n:Int):Int:=if okQ k f t ws rad most n=true then 0 else 180
theorem chkQ_yes {k f t rad most n:Int} {ws:List ByteArray} (h:okQ k f t ws rad most n=true):chkQ k f t ws rad most n=0:=by unfold chkQ;rw [if_pos h]
theorem chkQ_no {k f t rad most n:Int} {ws:List ByteArray} (h:okQ k f t ws rad most n=false):chkQ k f t ws rad most n=180:=by unfold chkQ;rw [h];rfl
theorem chkQ_zero {k f t rad most n:Int} {ws:List ByteArray}:chkQ k f t ws rad most n=0↔okQ k f t ws rad most n=true:=by
 unfold chkQ
 cases okQ k f t ws rad most n <;> simp
theorem okQ_12 {k f t rad most n:Int} {ws:List ByteArray} (h:k=1∨k=2):okQ k f t ws rad most n=(plcB f n && plcB t n):=by unfold okQ;rw [if_pos h]
theorem okQ_3 {f t rad most n:Int} {ws:List ByteArray}:okQ 3 f t ws rad most n=(plcB f n && manyB ws && numB rad most):=by unfold okQ;rw [if_neg (by omega),if_pos rfl]
theorem okQ_else {k f t rad most n:Int} {ws:List ByteArray} (h:¬ (k=1∨k=2)) (h3:k≠3):okQ k f t ws rad most n=false:=by unfold okQ;rw [if_neg h,if_neg h3]
def startQ (k f t s:Int):List Sq:=if k=1 then [⟨s,0,f,0⟩,⟨s,1,t,0⟩] else if k=2∨k=3 then [⟨s,0,f,0⟩] else []
def nxC (ck b:Bool) (x:Sq):Int:=if ck=false then 40 else if b=true∧(x.r=0∨x.r=1)∧0≤x.d∧x.d≤200 then 0 else 1
def nxL (k rad:Int) (e:Int) (x:Sq) (L:List Int):List Sq:=if e=0∧¬ (k=3∧rad≤x.d) then L.map (fun v=>⟨x.s,x.r,v,x.d+1⟩) else []
theorem nxL_no {k rad e:Int} {x:Sq} {L:List Int} (h:e≠0∨(k=3∧rad≤x.d)):nxL k rad e x L=[]:=by
 unfold nxL
 rw [if_neg (fun h2=>h.elim (fun h3=>h3 h2.1) h2.2)]
theorem nxL_yes {k rad e:Int} {x:Sq} {L:List Int} (h:e=0) (h2:¬ (k=3∧rad≤x.d)):nxL k rad e x L=L.map (fun v=>⟨x.s,x.r,v,x.d+1⟩):=by
 unfold nxL
 rw [if_pos ⟨h,h2⟩]
theorem nxC_40 {b:Bool} {x:Sq}:nxC false b x=40:=rfl
theorem nxC_1 {b:Bool} {x:Sq} (h:¬ (b=true∧(x.r=0∨x.r=1)∧0≤x.d∧x.d≤200)):nxC true b x=1:=by unfold nxC;rw [if_neg (by simp),if_neg h]
theorem nxC_0 {b:Bool} {x:Sq} (h:b=true∧(x.r=0∨x.r=1)∧0≤x.d∧x.d≤200):nxC true b x=0:=by unfold nxC;rw [if_neg (by simp),if_pos h]
def hasD (M:List Sq) (r:Int):Bool:=M.any fun x=>x.r == r
def atS (l:List Sq) (t:Int):Bool:=l.any fun x=>x.r == 0 && x.v == t
theorem atS_iff {l:List Sq} {t:Int}:atS l t=true↔∃ x∈l,x.r=0∧x.v=t:=by
 unfold atS
 rw [List.any_eq_true]
 constructor
 ·rintro⟨x,h1,h2⟩;simp at h2;exact⟨x,h1,h2⟩
 ·rintro⟨x,h1,h2,h3⟩;exact⟨x,h1,by simp [h2,h3]⟩
def hitS (l:List Sq) (P:List Int):List (Int × Int):=(l.filter fun x=>x.r == 0 && P.contains x.v).map fun x=>(x.v,x.d)
theorem hitS_snoc (l:List Sq) (P:List Int) (x:Sq):hitS (l ++ [x]) P=if (x.r == 0 && P.contains x.v)=true then hitS l P ++ [(x.v,x.d)] else hitS l P:=by
 unfold hitS
 rw [List.filter_append,List.map_append]
 by_cases h:(x.r == 0 && P.contains x.v)=true
 ·rw [if_pos h];simp only [List.filter_cons,h,if_true,List.filter_nil];rfl
 ·rw [if_neg h];simp only [List.filter_cons,h,List.filter_nil];simp
end
section
open Go Go.RowKit
theorem placeCl (g:Nat) (v n:Int) (w:World) (hB:Blk w g 3 #[.int .i64 n]):Calls Tryz.prog 127 #[.int .i64 v,.pointer (some ⟨g,0,none⟩)] w fun e w'=>e=.returned (.bool (plcB v n))∧w=w':=by
 have b0:w.cell? ⟨g,0,none⟩=some (.int .i64 n):=hB.cell 0
 have bz:=hB.lt
 clear hB
 by_cases h:0≤v
 ·go_enter Tryz.func127,Tryz.ntmps127
  go_wp2
  go_ret
  exact⟨ret_bool (by unfold plcB;simp [h]),rfl⟩
 ·have e0:decide (0≤v)=false:=by simpa using h
  go_enter Tryz.func127,Tryz.ntmps127
  go_wp2
  go_ret
  exact⟨ret_bool (by unfold plcB;rw [e0];rfl),rfl⟩
theorem oddCl (s:ByteArray) (w:World) (hs:s.size≤140737488355328):Calls Tryz.prog 128 #[.string s] w fun e w'=>e=.returned (.bool (!wordB s))∧w=w':=by
 go_enter Tryz.func128,Tryz.ntmps128
 go_wp2_with (go_at_call 129;refine(WordG _ _ hs).mono ?_;rintro e w' ⟨rfl,rfl⟩)
 go_ret
 exact⟨rfl,rfl⟩
theorem IndexOdd (p:Option Addr) (n c:Nat) (l:List ByteArray) (w:World) (hl:Rd w 1 p n (encS l)) (hz:∀ s∈l,s.size≤1000000) :
  Calls Tryz.prog 197 #[.slice p n c,.func (.func 128) #[] #[]] w fun e w'=>∃ i:Int,e=.returned (.int .i64 i)∧decide (0≤i)=l.any (fun s=>!wordB s)∧w=w':=by
 have p1:=hl.ptr
 have n1:=hl.small
 have l1:=hl.nS
 have HL:=Lib.hid hl;clear hl
 have L1:=Lib.hid l1;clear l1
 have HZ:=Lib.hid hz;clear hz
 go_enter Tryz.func197,Tryz.ntmps197
 go_wp2
 go_loop [5,8] (fun _ i=>∃ k:Nat,k≤n∧i=.int .i64 k∧(l.take k).any (fun s=>!wordB s)=false) (fun _ i=>n - (intOf i).toNat)
 case atStart=>exact⟨0,Nat.zero_le _,rfl,rfl⟩
 case round =>
  obtain⟨k,hk,rfl,ha⟩:=hrel
  have HA:=Lib.hid ha;clear ha
  by_cases hlt:k<n
  ·have g1:=HL.out.cS hlt
   have hsz:(nth l k).size≤140737488355328:=by
    have:=HZ.out (nth l k) (by rw [nth_eq (by rw [← L1.out];exact hlt)];exact List.getElem_mem _)
    omega
   by_cases hw:(!wordB (nth l k))=true
   ·have HF:=Lib.hid (any_true_at (fun s=>!wordB s) l k (by rw [← L1.out];exact hlt) hw)
    go_wp2_with (go_at_call 128;refine(oddCl _ _ hsz).mono ?_;rintro e w' ⟨rfl,rfl⟩)
    go_ret
    exact⟨_,rfl,by rw [HF.out];simp,rfl⟩
   ·have hw':(!wordB (nth l k))=false:=by simpa using hw
    have HW':=Lib.hid hw'
    clear hw
    go_wp2_with (go_at_call 128;refine(oddCl _ _ hsz).mono ?_;rintro e w' ⟨rfl,rfl⟩)
    go_round
    case rel=>exact⟨k+1,by omega,by go_num,any_step _ _ _ (by rw [← L1.out];exact hlt) HA.out HW'.out⟩
    case measure=>simp [intOf];omega
  ·have HF:=Lib.hid (any_end _ _ _ (by rw [← L1.out];exact hlt) HA.out)
   go_wp2
   go_ret
   exact⟨_,rfl,by rw [HF.out];rfl,rfl⟩
theorem ContainsOdd (p:Option Addr) (n c:Nat) (l:List ByteArray) (w:World) (hl:Rd w 1 p n (encS l)) (hz:∀ s∈l,s.size≤1000000) :
  Calls Tryz.prog 130 #[.slice p n c,.func (.func 128) #[] #[]] w fun e w'=>e=.returned (.bool (l.any (fun s=>!wordB s)))∧w=w':=by
 have HC:=Lib.hid (IndexOdd p n c l w hl hz)
 clear hl hz
 go_enter Tryz.func130,Tryz.ntmps130
 go_wp2_with (go_at_call 197;refine HC.out.mono ?_;rintro e w' ⟨i,rfl,hi,rfl⟩;have HI:=Lib.hid hi;clear hi)
 go_ret
 exact⟨ret_bool HI.out,rfl⟩
theorem all_any_not (ws:List ByteArray):ws.all wordB=!ws.any (fun s=>!wordB s):=by rw [List.all_eq_not_any_not]
theorem Blk.new2 (w:World) (t t2:TypeId) (cs cs2:Array Value):Blk ((w.alloc (.cells cs t)).alloc (.cells cs2 t2)) (w.heap.size+1) t2 cs2:=by
 have:=Blk.new (w.alloc (.cells cs t)) t2 cs2
 rwa [World.size_alloc] at this
theorem CheckQ (k f t:Int) (pw:Option Addr) (nw cw:Nat) (ws:List ByteArray) (rad most:Int) (n:Int) (w:World) (hw:Rd w 1 pw nw (encS ws)) (hz:∀ s∈ws,s.size≤1000000) :
  Calls Tryz.prog 76 #[.agg #[.int .i64 k,.int .i64 f,.int .i64 t,.slice pw nw cw,.int .i64 rad,.int .i64 most],.int .i64 n] w fun e w'=>e=.returned (.int .i64 (chkQ k f t ws rad most n))∧Ext w w':=by
 have l1:=hw.nS
 have p1:=hw.ptr
 have n1:=hw.small
 have HE:=Lib.hid (((Sep.start w).al #[.int .i64 k,.int .i64 f,.int .i64 t,.slice pw nw cw,.int .i64 rad,.int .i64 most] 24 w.heap.size rfl).al #[.int .i64 n] 3 (w.heap.size+1) (by simp)).ext
 have HW:=Lib.hid (hw.ext HE.out)
 have HB:=Lib.hid (Blk.new2 w 24 3 #[.int .i64 k,.int .i64 f,.int .i64 t,.slice pw nw cw,.int .i64 rad,.int .i64 most] #[.int .i64 n])
 have HZ:=Lib.hid hz
 have L1:=Lib.hid l1
 clear hz l1 hw
 by_cases h12:k=1∨k=2
 ·have HO:=Lib.hid (okQ_12 (f:=f) (t:=t) (ws:=ws) (rad:=rad) (most:=most) (n:=n) h12)
  cases h1:plcB f n with
  | false =>
   have HF:Hid (chkQ k f t ws rad most n=180):=chkQ_no (by rw [HO.out,h1];rfl)
   have g3:(k == 3)=false:=by rw [beq_eq_false_iff_ne];omega
   by_cases k1:k=1
   ·subst k1
    clear h12
    go_enter Tryz.func76,Tryz.ntmps76
    go_wp2_with (first | (go_at_call 130;refine(ContainsOdd _ _ _ ws _ HW.out HZ.out).mono ?_;rintro e w' ⟨rfl,rfl⟩) | (go_at_call 127;refine(placeCl _ _ n _ HB.out).mono ?_;rintro e w' ⟨rfl,rfl⟩))
    go_ret
    exact⟨by(rw [HF.out];rfl),HE.out⟩
   ·obtain rfl:k=2:=by omega
    clear h12 k1
    go_enter Tryz.func76,Tryz.ntmps76
    go_wp2_with (first | (go_at_call 130;refine(ContainsOdd _ _ _ ws _ HW.out HZ.out).mono ?_;rintro e w' ⟨rfl,rfl⟩) | (go_at_call 127;refine(placeCl _ _ n _ HB.out).mono ?_;rintro e w' ⟨rfl,rfl⟩))
    go_ret
    exact⟨by(rw [HF.out];rfl),HE.out⟩
  | true =>
   cases h2:plcB t n with
   | false =>
    have HF:Hid (chkQ k f t ws rad most n=180):=chkQ_no (by rw [HO.out,h1,h2];rfl)
    by_cases k1:k=1
    ·subst k1
     clear h12
     go_enter Tryz.func76,Tryz.ntmps76
     go_wp2_with (first | (go_at_call 130;refine(ContainsOdd _ _ _ ws _ HW.out HZ.out).mono ?_;rintro e w' ⟨rfl,rfl⟩) | (go_at_call 127;refine(placeCl _ _ n _ HB.out).mono ?_;rintro e w' ⟨rfl,rfl⟩))
     go_ret
     exact⟨by(rw [HF.out];rfl),HE.out⟩
    ·obtain rfl:k=2:=by omega
     clear h12 k1
     go_enter Tryz.func76,Tryz.ntmps76
     go_wp2_with (first | (go_at_call 130;refine(ContainsOdd _ _ _ ws _ HW.out HZ.out).mono ?_;rintro e w' ⟨rfl,rfl⟩) | (go_at_call 127;refine(placeCl _ _ n _ HB.out).mono ?_;rintro e w' ⟨rfl,rfl⟩))
     go_ret
     exact⟨by(rw [HF.out];rfl),HE.out⟩
   | true =>
    have HF:Hid (chkQ k f t ws rad most n=0):=chkQ_yes (by rw [HO.out,h1,h2];rfl)
    by_cases k1:k=1
    ·subst k1
     clear h12
     go_enter Tryz.func76,Tryz.ntmps76
     go_wp2_with (first | (go_at_call 130;refine(ContainsOdd _ _ _ ws _ HW.out HZ.out).mono ?_;rintro e w' ⟨rfl,rfl⟩) | (go_at_call 127;refine(placeCl _ _ n _ HB.out).mono ?_;rintro e w' ⟨rfl,rfl⟩))
     go_ret
     exact⟨by(rw [HF.out];rfl),HE.out⟩
    ·obtain rfl:k=2:=by omega
     clear h12 k1
     go_enter Tryz.func76,Tryz.ntmps76
     go_wp2_with (first | (go_at_call 130;refine(ContainsOdd _ _ _ ws _ HW.out HZ.out).mono ?_;rintro e w' ⟨rfl,rfl⟩) | (go_at_call 127;refine(placeCl _ _ n _ HB.out).mono ?_;rintro e w' ⟨rfl,rfl⟩))
     go_ret
     exact⟨by(rw [HF.out];rfl),HE.out⟩
 ·have g1:(k == 1)=false:=by rw [beq_eq_false_iff_ne];omega
  have g2:(k == 2)=false:=by rw [beq_eq_false_iff_ne];omega
  by_cases h3:k=3
  ·subst h3
   have HO:=Lib.hid (okQ_3 (f:=f) (t:=t) (ws:=ws) (rad:=rad) (most:=most) (n:=n))
   clear h12
   by_cases c1:1≤nw
   ·by_cases c2:nw≤8
    ·cases hw:ws.any (fun s=>!wordB s) with
     | true =>
      have HM:manyB ws=false:=by unfold manyB;rw [all_any_not,hw];simp
      have HF:Hid (chkQ 3 f t ws rad most n=180):=chkQ_no (by rw [HO.out,HM];simp)
      clear HM
      rcases Bool.eq_false_or_eq_true (plcB f n) with h1 | h1 <;> (go_enter Tryz.func76,Tryz.ntmps76;go_wp2_with (first | (go_at_call 130;refine(ContainsOdd _ _ _ ws _ HW.out HZ.out).mono ?_;rintro e w' ⟨rfl,rfl⟩) | (go_at_call 127;refine(placeCl _ _ n _ HB.out).mono ?_;rintro e w' ⟨rfl,rfl⟩));go_ret;exact⟨by(rw [HF.out];rfl),HE.out⟩)
     | false =>
      have HM:manyB ws=true:=by unfold manyB;rw [all_any_not,hw,← L1.out];simp [c1,c2]
      rw [HM,Bool.and_true] at HO
      clear HM
      cases h1:plcB f n with
      | false =>
       have HF:Hid (chkQ 3 f t ws rad most n=180):=chkQ_no (by rw [HO.out,h1];simp)
       (go_enter Tryz.func76,Tryz.ntmps76;go_wp2_with (first | (go_at_call 130;refine(ContainsOdd _ _ _ ws _ HW.out HZ.out).mono ?_;rintro e w' ⟨rfl,rfl⟩) | (go_at_call 127;refine(placeCl _ _ n _ HB.out).mono ?_;rintro e w' ⟨rfl,rfl⟩));go_ret;exact⟨by(rw [HF.out];rfl),HE.out⟩)
      | true =>
       rw [h1,Bool.true_and] at HO
       by_cases r1:0≤rad
       ·by_cases r2:rad≤200
        ·by_cases m1:1≤most
         ·by_cases m2:most≤100
          ·have HF:Hid (chkQ 3 f t ws rad most n=0):=chkQ_yes (by rw [HO.out];unfold numB;simp [r1,r2,m1,m2])
           (go_enter Tryz.func76,Tryz.ntmps76;go_wp2_with (first | (go_at_call 130;refine(ContainsOdd _ _ _ ws _ HW.out HZ.out).mono ?_;rintro e w' ⟨rfl,rfl⟩) | (go_at_call 127;refine(placeCl _ _ n _ HB.out).mono ?_;rintro e w' ⟨rfl,rfl⟩));go_ret;exact⟨by(rw [HF.out];rfl),HE.out⟩)
          ·have e:decide (most≤100)=false:=by simpa using m2
           have HF:Hid (chkQ 3 f t ws rad most n=180):=chkQ_no (by rw [HO.out];unfold numB;rw [e];simp)
           (go_enter Tryz.func76,Tryz.ntmps76;go_wp2_with (first | (go_at_call 130;refine(ContainsOdd _ _ _ ws _ HW.out HZ.out).mono ?_;rintro e w' ⟨rfl,rfl⟩) | (go_at_call 127;refine(placeCl _ _ n _ HB.out).mono ?_;rintro e w' ⟨rfl,rfl⟩));go_ret;exact⟨by(rw [HF.out];rfl),HE.out⟩)
         ·have e:decide (1≤most)=false:=by simpa using m1
          have HF:Hid (chkQ 3 f t ws rad most n=180):=chkQ_no (by rw [HO.out];unfold numB;rw [e];simp)
          (go_enter Tryz.func76,Tryz.ntmps76;go_wp2_with (first | (go_at_call 130;refine(ContainsOdd _ _ _ ws _ HW.out HZ.out).mono ?_;rintro e w' ⟨rfl,rfl⟩) | (go_at_call 127;refine(placeCl _ _ n _ HB.out).mono ?_;rintro e w' ⟨rfl,rfl⟩));go_ret;exact⟨by(rw [HF.out];rfl),HE.out⟩)
        ·have e:decide (rad≤200)=false:=by simpa using r2
         have HF:Hid (chkQ 3 f t ws rad most n=180):=chkQ_no (by rw [HO.out];unfold numB;rw [e];simp)
         (go_enter Tryz.func76,Tryz.ntmps76;go_wp2_with (first | (go_at_call 130;refine(ContainsOdd _ _ _ ws _ HW.out HZ.out).mono ?_;rintro e w' ⟨rfl,rfl⟩) | (go_at_call 127;refine(placeCl _ _ n _ HB.out).mono ?_;rintro e w' ⟨rfl,rfl⟩));go_ret;exact⟨by(rw [HF.out];rfl),HE.out⟩)
       ·have e:decide (0≤rad)=false:=by simpa using r1
        have HF:Hid (chkQ 3 f t ws rad most n=180):=chkQ_no (by rw [HO.out];unfold numB;rw [e];simp)
        (go_enter Tryz.func76,Tryz.ntmps76;go_wp2_with (first | (go_at_call 130;refine(ContainsOdd _ _ _ ws _ HW.out HZ.out).mono ?_;rintro e w' ⟨rfl,rfl⟩) | (go_at_call 127;refine(placeCl _ _ n _ HB.out).mono ?_;rintro e w' ⟨rfl,rfl⟩));go_ret;exact⟨by(rw [HF.out];rfl),HE.out⟩)
    ·have HM:manyB ws=false:=by unfold manyB;rw [← L1.out];simp [c2]
     have HF:Hid (chkQ 3 f t ws rad most n=180):=chkQ_no (by rw [HO.out,HM];simp)
     have e:decide ((nw:Int)≤8)=false:=by simp;omega
     have en:decide (nw≤8)=false:=by simpa using c2
     clear HM
     rcases Bool.eq_false_or_eq_true (plcB f n) with h1 | h1 <;> (go_enter Tryz.func76,Tryz.ntmps76;go_wp2_with (first | (go_at_call 130;refine(ContainsOdd _ _ _ ws _ HW.out HZ.out).mono ?_;rintro e w' ⟨rfl,rfl⟩) | (go_at_call 127;refine(placeCl _ _ n _ HB.out).mono ?_;rintro e w' ⟨rfl,rfl⟩));go_ret;exact⟨by(rw [HF.out];rfl),HE.out⟩)
   ·have HM:manyB ws=false:=by unfold manyB;rw [← L1.out];simp [c1]
    have HF:Hid (chkQ 3 f t ws rad most n=180):=chkQ_no (by rw [HO.out,HM];simp)
    have e:decide ((1:Int)≤(nw:Int))=false:=by simp;omega
    have en:decide (1≤nw)=false:=by simpa using c1
    clear HM
    rcases Bool.eq_false_or_eq_true (plcB f n) with h1 | h1 <;> (go_enter Tryz.func76,Tryz.ntmps76;go_wp2_with (first | (go_at_call 130;refine(ContainsOdd _ _ _ ws _ HW.out HZ.out).mono ?_;rintro e w' ⟨rfl,rfl⟩) | (go_at_call 127;refine(placeCl _ _ n _ HB.out).mono ?_;rintro e w' ⟨rfl,rfl⟩));go_ret;exact⟨by(rw [HF.out];rfl),HE.out⟩)
  ·have HF:Hid (chkQ k f t ws rad most n=180):=chkQ_no (okQ_else h12 h3)
   have g3:(k == 3)=false:=by rw [beq_eq_false_iff_ne];exact h3
   clear h12 h3
   go_enter Tryz.func76,Tryz.ntmps76
   go_wp2_with (first | (go_at_call 130;refine(ContainsOdd _ _ _ ws _ HW.out HZ.out).mono ?_;rintro e w' ⟨rfl,rfl⟩) | (go_at_call 127;refine(placeCl _ _ n _ HB.out).mono ?_;rintro e w' ⟨rfl,rfl⟩))
   go_ret
   exact⟨by(rw [HF.out];rfl),HE.out⟩
end
section
open Go Go.RowKit
theorem infMail:(Tryz.prog.info? 138).map (fun i=>(i.zero,i.size,i.bytes))=some (some (.agg #[.int .i64 0,.int .i64 0,.int .i64 0,.int .i64 0]),4,32):=by kernel_rfl
theorem one_encQ (l:List Sq):∀ u∈encQ l,u.oneCell'=true:=by
 intro u hu
 simp only [encQ,List.mem_flatMap] at hu
 obtain⟨x,_,hx⟩:=hu
 simp only [List.mem_cons,List.not_mem_nil,or_false] at hx
 rcases hx with rfl | rfl | rfl | rfl <;> rfl
theorem Rd.oneQ (w:World) (t:TypeId) (x:Sq):Rd (w.alloc (.cells #[.int .i64 x.s,.int .i64 x.r,.int .i64 x.v,.int .i64 x.d] t)) 4 (some ⟨w.heap.size,0,none⟩) 1 (encQ [x]):=Rd.new w t [.int .i64 x.s,.int .i64 x.r,.int .i64 x.v,.int .i64 x.d] 1 4 rfl (by omega)
theorem beginCl (gl gs:Nat) (q:Option Addr) (n c:Nat) (L:List Sq) (s r v:Int) (w w0:World) (Γ:List Pc) (S:Sep w0 w (.own 138 4 q n c (encQ L) :: .blk gl 83 #[.slice q n c] :: .blk gs 3 #[.int .i64 s] :: Γ)) (hn:n≤1000) :
  Calls Tryz.prog 92 #[.int .i64 r,.int .i64 v,.pointer (some ⟨gl,0,none⟩),.pointer (some ⟨gs,0,none⟩)] w fun e w'=>e=.returned (.tuple #[])∧∃ q' c',Sep w0 w' (.own 138 4 q' (n+1) c' (encQ (L ++ [⟨s,r,v,0⟩])) :: .blk gl 83 #[.slice q' (n+1) c'] :: .blk gs 3 #[.int .i64 s] :: Γ):=by
 obtain⟨i0,hi0,hz0,hz1,hz2⟩:=info_parts infMail
 have b0:w.cell? ⟨gl,0,none⟩=some (.slice q n c):=(S.blk 1 rfl).cell 0
 have bz:=(S.blk 1 rfl).lt
 have e0:w.cell? ⟨gs,0,none⟩=some (.int .i64 s):=(S.blk 2 rfl).cell 0
 have ez:=(S.blk 2 rfl).lt
 have SH:=Lib.hid S;clear S
 go_enter Tryz.func92,Tryz.ntmps92
 go_wp2_with (at_builtin;go_must (refine wpList_append_sep rfl _ _ _ rfl 138 i0 _ 4 32 Tryz.underlying83 hi0 hz0 hz1 hz2 rfl (by omega) (SH.out.junk _) 0 q n c _ rfl rfl _ 1 1 _ rfl (Rd.oneQ _ _ ⟨s,r,v,0⟩) (one_encQ _) (by omega) (by omega) ?_;intro q' c' w1 S' hsz;have S1:=Lib.hid S';obtain⟨kf,kz⟩:=bkz0l (S'.blk 1 rfl);have k4:w1.cell? ⟨gl,0,none⟩=some (.slice q n c):=(S'.blk 1 rfl).cell 0;clear S' hsz))
 go_end0
 exact⟨rfl,q',c',by rw [encQ_append];exact S1.out.set 1 rfl 0 (.slice q' (n+1) c')⟩
theorem StartQ (k f t:Int) (pw:Option Addr) (nw cw:Nat) (rad most s:Int) (w:World) :
  Calls Tryz.prog 51 #[.agg #[.int .i64 k,.int .i64 f,.int .i64 t,.slice pw nw cw,.int .i64 rad,.int .i64 most],.int .i64 s] w fun e w'=>∃ q c,e=.returned (.slice q (startQ k f t s).length c)∧Sep w w' [.own 138 4 q (startQ k f t s).length c (encQ (startQ k f t s))]:=by
 have S0:=Lib.hid (((((Sep.start w).al #[.int .i64 k,.int .i64 f,.int .i64 t,.slice pw nw cw,.int .i64 rad,.int .i64 most] 24 w.heap.size rfl).al #[.int .i64 s] 3 (w.heap.size+1) (by simp)).al #[.slice none 0 0] 83 (w.heap.size+2) (by simp)).nilrow 138 4)
 by_cases k1:k=1
 ·subst k1
  have HQ:Hid (startQ 1 f t s=[⟨s,0,f,0⟩,⟨s,1,t,0⟩]):=rfl
  rw [HQ.out]
  go_enter Tryz.func51,Tryz.ntmps51
  go_wp2_with (first | (go_at_call 92;have _t:=S1;go_must (refine(beginCl _ _ q1 1 c1 _ s _ _ _ _ _ S1.out (by omega)).mono ?_;rintro e w2 ⟨rfl,q2,c2,T⟩;have S2:=Lib.hid T;clear b0 b2 bz lz l0;have b0:w2.cell? ⟨w.heap.size,1,none⟩=some (.int .i64 f):=(T.blk 3 rfl).cell 1;have b2:w2.cell? ⟨w.heap.size,2,none⟩=some (.int .i64 t):=(T.blk 3 rfl).cell 2;have bz:=(T.blk 3 rfl).lt;have lz:=(T.blk 1 rfl).lt;have l0:w2.cell? ⟨w.heap.size+2,0,none⟩=some (.slice q2 2 c2):=(T.blk 1 rfl).cell 0;clear T)) | (go_at_call 92;go_must (refine(beginCl _ _ none 0 0 [] s _ _ _ _ _ S0.out (by omega)).mono ?_;rintro e w1 ⟨rfl,q1,c1,T⟩;have S1:=Lib.hid T;have b0:w1.cell? ⟨w.heap.size,1,none⟩=some (.int .i64 f):=(T.blk 3 rfl).cell 1;have b2:w1.cell? ⟨w.heap.size,2,none⟩=some (.int .i64 t):=(T.blk 3 rfl).cell 2;have bz:=(T.blk 3 rfl).lt;have lz:=(T.blk 1 rfl).lt;have l0:w1.cell? ⟨w.heap.size+2,0,none⟩=some (.slice q1 1 c1):=(T.blk 1 rfl).cell 0;clear T)))
  go_ret
  exact⟨q2,c2,rfl,S2.out.pick [0] (by decide) rfl⟩
 ·by_cases k23:k=2∨k=3
  ·have HQ:Hid (startQ k f t s=[⟨s,0,f,0⟩]):=by unfold Hid startQ;rw [if_neg k1,if_pos k23]
   rw [HQ.out]
   clear HQ k1
   by_cases k2:k=2
   ·subst k2
    clear k23
    go_enter Tryz.func51,Tryz.ntmps51
    go_wp2_with (first | (go_at_call 92;go_must (refine(beginCl _ _ none 0 0 [] s _ _ _ _ _ S0.out (by omega)).mono ?_;rintro e w1 ⟨rfl,q1,c1,T⟩;have S1:=Lib.hid T;have b0:w1.cell? ⟨w.heap.size,1,none⟩=some (.int .i64 f):=(T.blk 3 rfl).cell 1;have b2:w1.cell? ⟨w.heap.size,2,none⟩=some (.int .i64 t):=(T.blk 3 rfl).cell 2;have bz:=(T.blk 3 rfl).lt;have lz:=(T.blk 1 rfl).lt;have l0:w1.cell? ⟨w.heap.size+2,0,none⟩=some (.slice q1 1 c1):=(T.blk 1 rfl).cell 0;clear T)))
    go_ret
    exact⟨q1,c1,rfl,S1.out.pick [0] (by decide) rfl⟩
   ·obtain rfl:k=3:=by omega
    clear k23 k2
    go_enter Tryz.func51,Tryz.ntmps51
    go_wp2_with (first | (go_at_call 92;go_must (refine(beginCl _ _ none 0 0 [] s _ _ _ _ _ S0.out (by omega)).mono ?_;rintro e w1 ⟨rfl,q1,c1,T⟩;have S1:=Lib.hid T;have b0:w1.cell? ⟨w.heap.size,1,none⟩=some (.int .i64 f):=(T.blk 3 rfl).cell 1;have b2:w1.cell? ⟨w.heap.size,2,none⟩=some (.int .i64 t):=(T.blk 3 rfl).cell 2;have bz:=(T.blk 3 rfl).lt;have lz:=(T.blk 1 rfl).lt;have l0:w1.cell? ⟨w.heap.size+2,0,none⟩=some (.slice q1 1 c1):=(T.blk 1 rfl).cell 0;clear T)))
    go_ret
    exact⟨q1,c1,rfl,S1.out.pick [0] (by decide) rfl⟩
  ·have HQ:Hid (startQ k f t s=[]):=by unfold Hid startQ;rw [if_neg k1,if_neg k23]
   rw [HQ.out]
   have g1:(k == 1)=false:=by rw [beq_eq_false_iff_ne];omega
   have g2:(k == 2)=false:=by rw [beq_eq_false_iff_ne];omega
   have g3:(k == 3)=false:=by rw [beq_eq_false_iff_ne];omega
   clear HQ k1 k23
   go_enter Tryz.func51,Tryz.ntmps51
   go_wp2
   go_ret
   exact⟨none,0,rfl,S0.out.pick [0] (by decide) rfl⟩
end
section
open Go Go.RowKit
theorem mailCl (g:Nat) (x:Sq) (r:Int) (w:World) (hB:Blk w g 3 #[.int .i64 r]):Calls Tryz.prog 152 #[.agg #[.int .i64 x.s,.int .i64 x.r,.int .i64 x.v,.int .i64 x.d],.pointer (some ⟨g,0,none⟩)] w fun e w'=>e=.returned (.bool (x.r == r))∧Ext w w':=by
 have b0:w.cell? ⟨g,0,none⟩=some (.int .i64 r):=hB.cell 0
 have bz:=hB.lt
 have HE:=Lib.hid ((Sep.start w).al #[.int .i64 x.s,.int .i64 x.r,.int .i64 x.v,.int .i64 x.d] 138 w.heap.size rfl).ext
 clear hB
 go_enter Tryz.func152,Tryz.ntmps152
 go_wp2
 go_ret
 exact⟨rfl,HE.out⟩
theorem IndexDir (p:Option Addr) (n c g:Nat) (l:List Sq) (r:Int) (w:World) (hl:Rd w 4 p n (encQ l)) (hB:Blk w g 3 #[.int .i64 r]) :
  Calls Tryz.prog 210 #[.slice p n c,.func (.func 152) #[] #[.pointer (some ⟨g,0,none⟩)]] w fun e w'=>∃ i:Int,e=.returned (.int .i64 i)∧decide (0≤i)=hasD l r∧Ext w w':=by
 have p1:=hl.ptr
 have n1:=hl.small
 have l1:=hl.nQ
 have HL:=Lib.hid hl;clear hl
 have L1:=Lib.hid l1;clear l1
 have HB:=Lib.hid hB;clear hB
 go_enter Tryz.func210,Tryz.ntmps210
 go_wp2
 go_loopw [5,8] (fun _ i wr=>∃ k:Nat,k≤n∧i=.int .i64 k∧(l.take k).any (fun x=>x.r == r)=false∧Ext w wr) (fun _ i _=>n - (intOf i).toNat)
 case atStart=>exact⟨0,Nat.zero_le _,rfl,rfl,Below.refl _ _⟩
 case round =>
  obtain⟨k,hk,rfl,ha,hE⟩:=hrel
  have HA:=Lib.hid ha;clear ha
  by_cases hlt:k<n
  ·obtain⟨g1,g2,g3,g4⟩:=(HL.out.ext hE).cQ hlt
   have HC:=Lib.hid (fun x=>mailCl g x r wr (HB.out.ext hE))
   have hkl:k<l.length:=by rw [← L1.out];exact hlt
   have HTA:=Lib.hid (any_true_at (fun x:Sq=>x.r == r) l k hkl)
   have HST:=Lib.hid (any_step (fun x:Sq=>x.r == r) l k hkl HA.out)
   have d1:(0:Int)≤k:=by omega
   have d2:(k:Int)<n:=by omega
   have HE:=Lib.hid hE;clear hE
   clear hkl
   generalize nth l k=x at *
   by_cases hw:x.r=r
   ·have e1:(x.r == r)=true:=by simpa using hw
    have HF:=Lib.hid (HTA.out e1)
    have HC2:=HC.out x
    rw [e1] at HC2
    have HC3:=Lib.hid HC2
    clear HST HTA HC2 e1 hw
    go_wp2_with (go_at_call 152;go_must (refine HC3.out.mono ?_;rintro e w' ⟨rfl,hb⟩;have HX:=Lib.hid (Ext.trans HE.out hb);clear hb))
    go_ret
    exact⟨_,rfl,by unfold hasD;rw [HF.out];simp,HX.out⟩
   ·have e1:(x.r == r)=false:=by simpa using hw
    have HF:=Lib.hid (HST.out e1)
    have HC2:=HC.out x
    rw [e1] at HC2
    have HC3:=Lib.hid HC2
    clear HST HTA HC2 e1 hw
    go_wp2_with (go_at_call 152;go_must (refine HC3.out.mono ?_;rintro e w' ⟨rfl,hb⟩;have HX:=Lib.hid (Ext.trans HE.out hb);clear hb))
    go_roundw
    case rel=>exact⟨k+1,by omega,by go_num,HF.out,HX.out⟩
    case measure=>simp [intOf];omega
  ·have HF:=Lib.hid (any_end _ _ _ (by rw [← L1.out];exact hlt) HA.out)
   have HE:=Lib.hid hE;clear hE
   go_wp2
   go_ret
   exact⟨_,rfl,by unfold hasD;rw [HF.out];rfl,HE.out⟩
theorem ContainsDir (p:Option Addr) (n c g:Nat) (l:List Sq) (r:Int) (w:World) (hl:Rd w 4 p n (encQ l)) (hB:Blk w g 3 #[.int .i64 r]) :
  Calls Tryz.prog 144 #[.slice p n c,.func (.func 152) #[] #[.pointer (some ⟨g,0,none⟩)]] w fun e w'=>e=.returned (.bool (hasD l r))∧Ext w w':=by
 have HC:=Lib.hid (IndexDir p n c g l r w hl hB)
 clear hl hB
 go_enter Tryz.func144,Tryz.ntmps144
 go_wp2_with (go_at_call 210;refine HC.out.mono ?_;rintro e w' ⟨i,rfl,hi,hb⟩;have HI:=Lib.hid hi;have HX:=Lib.hid hb;clear hi hb)
 go_ret
 exact⟨ret_bool HI.out,HX.out⟩
theorem ofCl (gm:Nat) (p:Option Addr) (n c:Nat) (l:List Sq) (r:Int) (w:World) (hl:Rd w 4 p n (encQ l)) (hM:Blk w gm 83 #[.slice p n c]) :
  Calls Tryz.prog 151 #[.int .i64 r,.pointer (some ⟨gm,0,none⟩)] w fun e w'=>e=.returned (.bool (hasD l r))∧Ext w w':=by
 have b0:w.cell? ⟨gm,0,none⟩=some (.slice p n c):=hM.cell 0
 have bz:=hM.lt
 have S0:=Lib.hid ((Sep.start w).al #[.int .i64 r] 3 w.heap.size rfl)
 have HC:=Lib.hid (ContainsDir p n c w.heap.size l r _ (hl.ext S0.out.ext) (S0.out.blk 0 rfl))
 clear hl hM
 go_enter Tryz.func151,Tryz.ntmps151
 go_wp2_with (go_at_call 144;refine HC.out.mono ?_;rintro e w' ⟨rfl,hb⟩;have HX:=Lib.hid (Ext.trans S0.out.ext hb);clear hb)
 go_ret
 exact⟨rfl,HX.out⟩
end
section
open Go Go.RowKit
theorem noPanic_q {Q:Exit→Act→World→Prop} (d:Option Nat) (v:Value):∀ (c:List PanicEntry) (a:Act) (w:World),NoPanic Q (.panic c) (a.put d v) w→NoPanic Q (.panic c) a w:=fun _ _ _ h=>h.elim
theorem noPanic_mk {Q:Exit→Act→World→Prop} {a:Act} {w:World} (h:Q .normal a w):NoPanic Q .normal a w:=h
theorem Done1 (f t:Int) (pw:Option Addr) (nw cw:Nat) (rad most:Int) (pl:Option Addr) (nl cl:Nat) (p:Option Addr) (n c:Nat) (l:List Sq) (pm:Option Addr) (nm cm:Nat) (M:List Sq) (w:World) (hl:Rd w 4 p n (encQ l)) (hM:Rd w 4 pm nm (encQ M)) (hi:∀ x∈l,I64 x.v∧I64 x.d) (hb:∀ x∈l,-1000000≤x.d∧x.d≤1000000) (hn:n≤1000000) :
  Calls Tryz.prog 95 #[.agg #[.int .i64 1,.int .i64 f,.int .i64 t,.slice pw nw cw,.int .i64 rad,.int .i64 most],.slice pl nl cl,.slice p n c,.slice pm nm cm] w fun e w'=>∃ b d,e=.returned (.tuple #[.agg #[.bool b,.int .i64 d,.slice none 0 0],.bool (b || !hasD M 0 || !hasD M 1)])∧Ext w w'∧MeetA l b d:=by
 have S0:=Lib.hid ((((Sep.start w).al #[.int .i64 1,.int .i64 f,.int .i64 t,.slice pw nw cw,.int .i64 rad,.int .i64 most] 24 w.heap.size rfl).al #[.slice pm nm cm] 83 (w.heap.size+1) (by simp)).al #[.bool false,.int .i64 0,.slice none 0 0] 34 (w.heap.size+1+1) (by simp))
 have HME:=Lib.hid (fun W (h:Ext w W)=>meetPG p n c l W (hl.ext h) hi hb hn)
 have HMR:=Lib.hid hM
 clear hl hM hi hb
 go_enter Tryz.func95,Tryz.ntmps95
 go_wp2_with (go_at_call 153;go_must (refine(HME.out _ S0.out.ext).mono ?_;rintro e w1 ⟨b,d,rfl,hE,hA⟩;have HA:=Lib.hid hA;have S1:=Lib.hid (S0.out.call hE);clear hE hA))
 obtain⟨X,hX⟩:∃ X,X=w1.alloc (.cells #[.bool b,.int .i64 d,.slice none 0 0] 34):=⟨_,rfl⟩
 have S4:=Lib.hid (hX ▸ S1.out.al #[.bool b,.int .i64 d,.slice none 0 0] 34 w1.heap.size rfl:Sep w X _)
 rw [← hX]
 clear hX
 have b0:X.cell? ⟨w1.heap.size,0,none⟩=some (.bool b):=(S4.out.blk 0 rfl).cell 0
 have b1:X.cell? ⟨w1.heap.size,1,none⟩=some (.int .i64 d):=(S4.out.blk 0 rfl).cell 1
 have b2:X.cell? ⟨w1.heap.size,2,none⟩=some (.slice none 0 0):=(S4.out.blk 0 rfl).cell 2
 have bz:=(S4.out.blk 0 rfl).lt
 have hne:w1.heap.size≠w.heap.size+1+1:=by have:=(S1.out.blk 0 rfl).lt;omega
 have HOF:=Lib.hid (fun r W (h:Ext w W) (hB:Blk W (w.heap.size+1) 83 #[.slice pm nm cm])=>ofCl (w.heap.size+1) pm nm cm M r W (HMR.out.ext h) hB)
 cases b with
 | true =>
  have HD:Hid ((true || !hasD M 0 || !hasD M 1)=true):=rfl
  refine wp_region_noPanic ?_
  refine wp_region_held_drew (S:=fun w'=>w'.cell? ⟨w1.heap.size,0,none⟩=some (.bool true)∧w'.cell? ⟨w1.heap.size,1,none⟩=some (.int .i64 d)∧w'.cell? ⟨w1.heap.size,2,none⟩=some (.slice none 0 0)) (by kernel_rfl) ⟨b0,b1,b2⟩ (fun hHeld=>?_)
  have SD:=Lib.hid S4.out.drew
  clear b0 b1 b2 bz S4
  generalize X.drew=D at SD hHeld ⊢
  refine wpAnyH_take (i:=0) (v:=.agg #[.bool true,.int .i64 d,.slice none 0 0]) rfl (by kernel_rfl) (by kernel_rfl) (by kernel_rfl) (noPanic_q _ _) (Or.inl ⟨by kernel_rfl,fun W hSw=>by obtain⟨h1,h2,h3⟩:=hSw;go_simp⟩) hHeld ?_
  refine wpAnyH_take (i:=1) (v:=.pointer (some ⟨w1.heap.size,0,none⟩)) rfl (by kernel_rfl) (by kernel_rfl) (by kernel_rfl) (noPanic_q _ _) (Or.inl ⟨by kernel_rfl,fun W hSw=>by obtain⟨h1,h2,h3⟩:=hSw;go_simp⟩) hHeld ?_
  refine wpAnyH_take (i:=2) (v:=.bool true) rfl (by kernel_rfl) (by kernel_rfl) (by kernel_rfl) (noPanic_q _ _) (Or.inl ⟨by kernel_rfl,fun W hSw=>by obtain⟨h1,h2,h3⟩:=hSw;go_simp⟩) hHeld ?_
  refine wpAnyH_take (i:=3) (v:=.bool true) rfl (by kernel_rfl) (by kernel_rfl) (by kernel_rfl) (noPanic_q _ _) (Or.inl ⟨by kernel_rfl,fun W hSw=>by obtain⟨h1,h2,h3⟩:=hSw;go_simp⟩) hHeld ?_
  refine wpAnyH_take (i:=4) (v:=undef) rfl (by kernel_rfl) (by kernel_rfl) (by kernel_rfl) (noPanic_q _ _) (Or.inr ⟨by kernel_rfl,rfl⟩) hHeld ?_
  refine wpAnyH_take (i:=5) (v:=undef) rfl (by kernel_rfl) (by kernel_rfl) (by kernel_rfl) (noPanic_q _ _) (Or.inr ⟨by kernel_rfl,rfl⟩) hHeld ?_
  refine wpAnyH_take (i:=6) (v:=undef) rfl (by kernel_rfl) (by kernel_rfl) (by kernel_rfl) (noPanic_q _ _) (Or.inr ⟨by kernel_rfl,rfl⟩) hHeld ?_
  refine wpAnyH_take (i:=7) (v:=.bool true) rfl (by kernel_rfl) (by kernel_rfl) (by kernel_rfl) (noPanic_q _ _) (Or.inl ⟨by kernel_rfl,fun W hSw=>by obtain⟨h1,h2,h3⟩:=hSw;go_simp⟩) hHeld ?_
  refine wpAnyH_take (i:=8) (v:=.bool true) rfl (by kernel_rfl) (by kernel_rfl) (by kernel_rfl) (noPanic_q _ _) (Or.inl ⟨by kernel_rfl,fun W hSw=>by obtain⟨h1,h2,h3⟩:=hSw;go_simp⟩) hHeld ?_
  refine wpAnyH_take (i:=9) (v:=undef) rfl (by kernel_rfl) (by kernel_rfl) (by kernel_rfl) (noPanic_q _ _) (Or.inr ⟨by kernel_rfl,rfl⟩) hHeld ?_
  refine wpAnyH_take (i:=10) (v:=undef) rfl (by kernel_rfl) (by kernel_rfl) (by kernel_rfl) (noPanic_q _ _) (Or.inr ⟨by kernel_rfl,rfl⟩) hHeld ?_
  refine wpAnyH_take (i:=11) (v:=undef) rfl (by kernel_rfl) (by kernel_rfl) (by kernel_rfl) (noPanic_q _ _) (Or.inr ⟨by kernel_rfl,rfl⟩) hHeld ?_
  refine wpAnyH_take (i:=12) (v:=.bool true) rfl (by kernel_rfl) (by kernel_rfl) (by kernel_rfl) (noPanic_q _ _) (Or.inl ⟨by kernel_rfl,fun W hSw=>by obtain⟨h1,h2,h3⟩:=hSw;go_simp⟩) hHeld ?_
  obtain⟨a0,a1,a2,az,f0,f1,f2⟩:=bkc0c1c2lz0z1z2 (SD.out.blk 1 rfl)
  have S9:=Lib.hid (((SD.out.set 1 rfl 0 (.bool true)).set 1 rfl 1 (.int .i64 d)).set 1 rfl 2 (.slice none 0 0))
  refine wpAnyH_ready (rs:=[13]) (by kernel_rfl) (by simp) (AllReadyH.cons rfl (fun K hK=>?_) AllReadyH.nil)
  go_simp
  obtain⟨c0,c1,c2⟩:=bkc0c1c2 (S9.out.blk 0 rfl)
  refine hK.out _ _ ⟨c0,c1,c2⟩ (fun hHeld=>?_)
  clear hK
  refine wpAnyH_take (i:=14) (v:=.bool true) rfl (by kernel_rfl) (by kernel_rfl) (by kernel_rfl) (noPanic_q _ _) (Or.inl ⟨by kernel_rfl,fun W hSw=>by obtain⟨h1,h2,h3⟩:=hSw;go_simp⟩) hHeld ?_
  refine wpAnyH_done (by kernel_rfl) ?_ _
  refine noPanic_mk ?_
  obtain⟨x0,x1,x2⟩:=bkc0c1c2 (S9.out.blk 1 rfl)
  go_wp2
  exact bodyPost_ret (v:=.tuple #[.agg #[.bool true,.int .i64 d,.slice none 0 0],.bool true]) (by simp [results,Tryz.results95,go_sem,x0,x1,x2,Tryz.sizeOf34,Tryz.isAgg34]) rfl ⟨true,d,by rw [HD.out],S9.out.ext,HA.out⟩
 | false =>
  cases h0:hasD M 0 with
  | false =>
   have HD:Hid ((false || !hasD M 0 || !hasD M 1)=true):=by rw [h0];rfl
   have HC0:=HOF.out 0
   rw [h0] at HC0
   have H0:=Lib.hid HC0
   clear HC0 h0 HOF
   refine wp_region_noPanic ?_
   refine wp_region_held_drew (S:=fun w'=>w'.cell? ⟨w1.heap.size,0,none⟩=some (.bool false)∧w'.cell? ⟨w1.heap.size,1,none⟩=some (.int .i64 d)∧w'.cell? ⟨w1.heap.size,2,none⟩=some (.slice none 0 0)) (by kernel_rfl) ⟨b0,b1,b2⟩ (fun hHeld=>?_)
   have SD:=Lib.hid S4.out.drew
   clear b0 b1 b2 bz S4
   generalize X.drew=D at SD hHeld ⊢
   refine wpAnyH_take (i:=0) (v:=.agg #[.bool false,.int .i64 d,.slice none 0 0]) rfl (by kernel_rfl) (by kernel_rfl) (by kernel_rfl) (noPanic_q _ _) (Or.inl ⟨by kernel_rfl,fun W hSw=>by obtain⟨h1,h2,h3⟩:=hSw;go_simp⟩) hHeld ?_
   refine wpAnyH_take (i:=1) (v:=.pointer (some ⟨w1.heap.size,0,none⟩)) rfl (by kernel_rfl) (by kernel_rfl) (by kernel_rfl) (noPanic_q _ _) (Or.inl ⟨by kernel_rfl,fun W hSw=>by obtain⟨h1,h2,h3⟩:=hSw;go_simp⟩) hHeld ?_
   refine wpAnyH_take (i:=2) (v:=.bool false) rfl (by kernel_rfl) (by kernel_rfl) (by kernel_rfl) (noPanic_q _ _) (Or.inl ⟨by kernel_rfl,fun W hSw=>by obtain⟨h1,h2,h3⟩:=hSw;go_simp⟩) hHeld ?_
   refine wpAnyH_take (i:=3) (v:=.bool false) rfl (by kernel_rfl) (by kernel_rfl) (by kernel_rfl) (noPanic_q _ _) (Or.inl ⟨by kernel_rfl,fun W hSw=>by obtain⟨h1,h2,h3⟩:=hSw;go_simp⟩) hHeld ?_
   refine wpAnyH_take (i:=4) (v:=.func (.func 151) #[] #[.pointer (some ⟨w.heap.size+1,0,none⟩)]) rfl (by kernel_rfl) (by kernel_rfl) (by kernel_rfl) (noPanic_q _ _) (Or.inl ⟨by kernel_rfl,fun W hSw=>by obtain⟨h1,h2,h3⟩:=hSw;go_simp⟩) hHeld ?_
   refine wpAnyH_ready (rs:=[5]) (by kernel_rfl) (by simp) (AllReadyH.cons rfl (fun K hK=>?_) AllReadyH.nil)
   go_simp
   refine(H0.out _ SD.out.ext (SD.out.blk 2 rfl)).mono ?_
   rintro e w5 ⟨rfl,hx⟩
   have S5:=Lib.hid (SD.out.call hx)
   clear hx
   obtain⟨c0,c1,c2⟩:=bkc0c1c2 (S5.out.blk 0 rfl)
   refine hK.out _ _ ⟨c0,c1,c2⟩ (fun hHeld=>?_)
   clear hK c0 c1 c2
   refine wpAnyH_take (i:=6) (v:=.bool true) rfl (by kernel_rfl) (by kernel_rfl) (by kernel_rfl) (noPanic_q _ _) (Or.inl ⟨by kernel_rfl,fun W hSw=>by obtain⟨h1,h2,h3⟩:=hSw;go_simp⟩) hHeld ?_
   refine wpAnyH_take (i:=7) (v:=.bool true) rfl (by kernel_rfl) (by kernel_rfl) (by kernel_rfl) (noPanic_q _ _) (Or.inl ⟨by kernel_rfl,fun W hSw=>by obtain⟨h1,h2,h3⟩:=hSw;go_simp⟩) hHeld ?_
   refine wpAnyH_take (i:=8) (v:=.bool true) rfl (by kernel_rfl) (by kernel_rfl) (by kernel_rfl) (noPanic_q _ _) (Or.inl ⟨by kernel_rfl,fun W hSw=>by obtain⟨h1,h2,h3⟩:=hSw;go_simp⟩) hHeld ?_
   refine wpAnyH_take (i:=9) (v:=undef) rfl (by kernel_rfl) (by kernel_rfl) (by kernel_rfl) (noPanic_q _ _) (Or.inr ⟨by kernel_rfl,rfl⟩) hHeld ?_
   refine wpAnyH_take (i:=10) (v:=undef) rfl (by kernel_rfl) (by kernel_rfl) (by kernel_rfl) (noPanic_q _ _) (Or.inr ⟨by kernel_rfl,rfl⟩) hHeld ?_
   refine wpAnyH_take (i:=11) (v:=undef) rfl (by kernel_rfl) (by kernel_rfl) (by kernel_rfl) (noPanic_q _ _) (Or.inr ⟨by kernel_rfl,rfl⟩) hHeld ?_
   refine wpAnyH_take (i:=12) (v:=.bool true) rfl (by kernel_rfl) (by kernel_rfl) (by kernel_rfl) (noPanic_q _ _) (Or.inl ⟨by kernel_rfl,fun W hSw=>by obtain⟨h1,h2,h3⟩:=hSw;go_simp⟩) hHeld ?_
   obtain⟨a0,a1,a2,az,f0,f1,f2⟩:=bkc0c1c2lz0z1z2 (S5.out.blk 1 rfl)
   have S9:=Lib.hid (((S5.out.set 1 rfl 0 (.bool false)).set 1 rfl 1 (.int .i64 d)).set 1 rfl 2 (.slice none 0 0))
   refine wpAnyH_ready (rs:=[13]) (by kernel_rfl) (by simp) (AllReadyH.cons rfl (fun K hK=>?_) AllReadyH.nil)
   go_simp
   obtain⟨c0,c1,c2⟩:=bkc0c1c2 (S9.out.blk 0 rfl)
   refine hK.out _ _ ⟨c0,c1,c2⟩ (fun hHeld=>?_)
   clear hK
   refine wpAnyH_take (i:=14) (v:=.bool true) rfl (by kernel_rfl) (by kernel_rfl) (by kernel_rfl) (noPanic_q _ _) (Or.inl ⟨by kernel_rfl,fun W hSw=>by obtain⟨h1,h2,h3⟩:=hSw;go_simp⟩) hHeld ?_
   refine wpAnyH_done (by kernel_rfl) ?_ _
   refine noPanic_mk ?_
   obtain⟨x0,x1,x2⟩:=bkc0c1c2 (S9.out.blk 1 rfl)
   go_wp2
   exact bodyPost_ret (v:=.tuple #[.agg #[.bool false,.int .i64 d,.slice none 0 0],.bool true]) (by simp [results,Tryz.results95,go_sem,x0,x1,x2,Tryz.sizeOf34,Tryz.isAgg34]) rfl ⟨false,d,by rw [HD.out],S9.out.ext,HA.out⟩
  | true =>
   have HC0:=HOF.out 0
   rw [h0] at HC0
   have H0:=Lib.hid HC0
   clear HC0
   cases h1:hasD M 1 with
   | false =>
    have HD:Hid ((false || !hasD M 0 || !hasD M 1)=true):=by unfold Hid;rw [h1];simp
    have HC1:=HOF.out 1
    rw [h1] at HC1
    have H1:=Lib.hid HC1
    clear HC1 h0 h1 HOF
    refine wp_region_noPanic ?_
    refine wp_region_held_drew (S:=fun w'=>w'.cell? ⟨w1.heap.size,0,none⟩=some (.bool false)∧w'.cell? ⟨w1.heap.size,1,none⟩=some (.int .i64 d)∧w'.cell? ⟨w1.heap.size,2,none⟩=some (.slice none 0 0)) (by kernel_rfl) ⟨b0,b1,b2⟩ (fun hHeld=>?_)
    have SD:=Lib.hid S4.out.drew
    clear b0 b1 b2 bz S4
    generalize X.drew=D at SD hHeld ⊢
    refine wpAnyH_take (i:=0) (v:=.agg #[.bool false,.int .i64 d,.slice none 0 0]) rfl (by kernel_rfl) (by kernel_rfl) (by kernel_rfl) (noPanic_q _ _) (Or.inl ⟨by kernel_rfl,fun W hSw=>by obtain⟨h1,h2,h3⟩:=hSw;go_simp⟩) hHeld ?_
    refine wpAnyH_take (i:=1) (v:=.pointer (some ⟨w1.heap.size,0,none⟩)) rfl (by kernel_rfl) (by kernel_rfl) (by kernel_rfl) (noPanic_q _ _) (Or.inl ⟨by kernel_rfl,fun W hSw=>by obtain⟨h1,h2,h3⟩:=hSw;go_simp⟩) hHeld ?_
    refine wpAnyH_take (i:=2) (v:=.bool false) rfl (by kernel_rfl) (by kernel_rfl) (by kernel_rfl) (noPanic_q _ _) (Or.inl ⟨by kernel_rfl,fun W hSw=>by obtain⟨h1,h2,h3⟩:=hSw;go_simp⟩) hHeld ?_
    refine wpAnyH_take (i:=3) (v:=.bool false) rfl (by kernel_rfl) (by kernel_rfl) (by kernel_rfl) (noPanic_q _ _) (Or.inl ⟨by kernel_rfl,fun W hSw=>by obtain⟨h1,h2,h3⟩:=hSw;go_simp⟩) hHeld ?_
    refine wpAnyH_take (i:=4) (v:=.func (.func 151) #[] #[.pointer (some ⟨w.heap.size+1,0,none⟩)]) rfl (by kernel_rfl) (by kernel_rfl) (by kernel_rfl) (noPanic_q _ _) (Or.inl ⟨by kernel_rfl,fun W hSw=>by obtain⟨h1,h2,h3⟩:=hSw;go_simp⟩) hHeld ?_
    refine wpAnyH_ready (rs:=[5]) (by kernel_rfl) (by simp) (AllReadyH.cons rfl (fun K hK=>?_) AllReadyH.nil)
    go_simp
    refine(H0.out _ SD.out.ext (SD.out.blk 2 rfl)).mono ?_
    rintro e w5 ⟨rfl,hx⟩
    have S5:=Lib.hid (SD.out.call hx)
    clear hx
    obtain⟨c0,c1,c2⟩:=bkc0c1c2 (S5.out.blk 0 rfl)
    refine hK.out _ _ ⟨c0,c1,c2⟩ (fun hHeld=>?_)
    clear hK c0 c1 c2
    refine wpAnyH_take (i:=6) (v:=.bool false) rfl (by kernel_rfl) (by kernel_rfl) (by kernel_rfl) (noPanic_q _ _) (Or.inl ⟨by kernel_rfl,fun W hSw=>by obtain⟨h1,h2,h3⟩:=hSw;go_simp⟩) hHeld ?_
    refine wpAnyH_take (i:=7) (v:=.bool false) rfl (by kernel_rfl) (by kernel_rfl) (by kernel_rfl) (noPanic_q _ _) (Or.inl ⟨by kernel_rfl,fun W hSw=>by obtain⟨h1,h2,h3⟩:=hSw;go_simp⟩) hHeld ?_
    refine wpAnyH_take (i:=8) (v:=.bool false) rfl (by kernel_rfl) (by kernel_rfl) (by kernel_rfl) (noPanic_q _ _) (Or.inl ⟨by kernel_rfl,fun W hSw=>by obtain⟨h1,h2,h3⟩:=hSw;go_simp⟩) hHeld ?_
    refine wpAnyH_take (i:=9) (v:=.func (.func 151) #[] #[.pointer (some ⟨w.heap.size+1,0,none⟩)]) rfl (by kernel_rfl) (by kernel_rfl) (by kernel_rfl) (noPanic_q _ _) (Or.inl ⟨by kernel_rfl,fun W hSw=>by obtain⟨h1,h2,h3⟩:=hSw;go_simp⟩) hHeld ?_
    refine wpAnyH_ready (rs:=[10]) (by kernel_rfl) (by simp) (AllReadyH.cons rfl (fun K hK=>?_) AllReadyH.nil)
    go_simp
    refine(H1.out _ S5.out.ext (S5.out.blk 2 rfl)).mono ?_
    rintro e w6 ⟨rfl,hx⟩
    have S6:=Lib.hid (S5.out.call hx)
    clear hx
    obtain⟨c0,c1,c2⟩:=bkc0c1c2 (S6.out.blk 0 rfl)
    refine hK.out _ _ ⟨c0,c1,c2⟩ (fun hHeld=>?_)
    clear hK c0 c1 c2
    refine wpAnyH_take (i:=11) (v:=.bool true) rfl (by kernel_rfl) (by kernel_rfl) (by kernel_rfl) (noPanic_q _ _) (Or.inl ⟨by kernel_rfl,fun W hSw=>by obtain⟨h1,h2,h3⟩:=hSw;go_simp⟩) hHeld ?_
    refine wpAnyH_take (i:=12) (v:=.bool true) rfl (by kernel_rfl) (by kernel_rfl) (by kernel_rfl) (noPanic_q _ _) (Or.inl ⟨by kernel_rfl,fun W hSw=>by obtain⟨h1,h2,h3⟩:=hSw;go_simp⟩) hHeld ?_
    obtain⟨a0,a1,a2,az,f0,f1,f2⟩:=bkc0c1c2lz0z1z2 (S6.out.blk 1 rfl)
    have S9:=Lib.hid (((S6.out.set 1 rfl 0 (.bool false)).set 1 rfl 1 (.int .i64 d)).set 1 rfl 2 (.slice none 0 0))
    refine wpAnyH_ready (rs:=[13]) (by kernel_rfl) (by simp) (AllReadyH.cons rfl (fun K hK=>?_) AllReadyH.nil)
    go_simp
    obtain⟨c0,c1,c2⟩:=bkc0c1c2 (S9.out.blk 0 rfl)
    refine hK.out _ _ ⟨c0,c1,c2⟩ (fun hHeld=>?_)
    clear hK
    refine wpAnyH_take (i:=14) (v:=.bool true) rfl (by kernel_rfl) (by kernel_rfl) (by kernel_rfl) (noPanic_q _ _) (Or.inl ⟨by kernel_rfl,fun W hSw=>by obtain⟨h1,h2,h3⟩:=hSw;go_simp⟩) hHeld ?_
    refine wpAnyH_done (by kernel_rfl) ?_ _
    refine noPanic_mk ?_
    obtain⟨x0,x1,x2⟩:=bkc0c1c2 (S9.out.blk 1 rfl)
    go_wp2
    exact bodyPost_ret (v:=.tuple #[.agg #[.bool false,.int .i64 d,.slice none 0 0],.bool true]) (by simp [results,Tryz.results95,go_sem,x0,x1,x2,Tryz.sizeOf34,Tryz.isAgg34]) rfl ⟨false,d,by rw [HD.out],S9.out.ext,HA.out⟩
   | true =>
    have HD:Hid ((false || !hasD M 0 || !hasD M 1)=false):=by rw [h0,h1];rfl
    have HC1:=HOF.out 1
    rw [h1] at HC1
    have H1:=Lib.hid HC1
    clear HC1 h0 h1 HOF
    refine wp_region_noPanic ?_
    refine wp_region_held_drew (S:=fun w'=>w'.cell? ⟨w1.heap.size,0,none⟩=some (.bool false)∧w'.cell? ⟨w1.heap.size,1,none⟩=some (.int .i64 d)∧w'.cell? ⟨w1.heap.size,2,none⟩=some (.slice none 0 0)) (by kernel_rfl) ⟨b0,b1,b2⟩ (fun hHeld=>?_)
    have SD:=Lib.hid S4.out.drew
    clear b0 b1 b2 bz S4
    generalize X.drew=D at SD hHeld ⊢
    refine wpAnyH_take (i:=0) (v:=.agg #[.bool false,.int .i64 d,.slice none 0 0]) rfl (by kernel_rfl) (by kernel_rfl) (by kernel_rfl) (noPanic_q _ _) (Or.inl ⟨by kernel_rfl,fun W hSw=>by obtain⟨h1,h2,h3⟩:=hSw;go_simp⟩) hHeld ?_
    refine wpAnyH_take (i:=1) (v:=.pointer (some ⟨w1.heap.size,0,none⟩)) rfl (by kernel_rfl) (by kernel_rfl) (by kernel_rfl) (noPanic_q _ _) (Or.inl ⟨by kernel_rfl,fun W hSw=>by obtain⟨h1,h2,h3⟩:=hSw;go_simp⟩) hHeld ?_
    refine wpAnyH_take (i:=2) (v:=.bool false) rfl (by kernel_rfl) (by kernel_rfl) (by kernel_rfl) (noPanic_q _ _) (Or.inl ⟨by kernel_rfl,fun W hSw=>by obtain⟨h1,h2,h3⟩:=hSw;go_simp⟩) hHeld ?_
    refine wpAnyH_take (i:=3) (v:=.bool false) rfl (by kernel_rfl) (by kernel_rfl) (by kernel_rfl) (noPanic_q _ _) (Or.inl ⟨by kernel_rfl,fun W hSw=>by obtain⟨h1,h2,h3⟩:=hSw;go_simp⟩) hHeld ?_
    refine wpAnyH_take (i:=4) (v:=.func (.func 151) #[] #[.pointer (some ⟨w.heap.size+1,0,none⟩)]) rfl (by kernel_rfl) (by kernel_rfl) (by kernel_rfl) (noPanic_q _ _) (Or.inl ⟨by kernel_rfl,fun W hSw=>by obtain⟨h1,h2,h3⟩:=hSw;go_simp⟩) hHeld ?_
    refine wpAnyH_ready (rs:=[5]) (by kernel_rfl) (by simp) (AllReadyH.cons rfl (fun K hK=>?_) AllReadyH.nil)
    go_simp
    refine(H0.out _ SD.out.ext (SD.out.blk 2 rfl)).mono ?_
    rintro e w5 ⟨rfl,hx⟩
    have S5:=Lib.hid (SD.out.call hx)
    clear hx
    obtain⟨c0,c1,c2⟩:=bkc0c1c2 (S5.out.blk 0 rfl)
    refine hK.out _ _ ⟨c0,c1,c2⟩ (fun hHeld=>?_)
    clear hK c0 c1 c2
    refine wpAnyH_take (i:=6) (v:=.bool false) rfl (by kernel_rfl) (by kernel_rfl) (by kernel_rfl) (noPanic_q _ _) (Or.inl ⟨by kernel_rfl,fun W hSw=>by obtain⟨h1,h2,h3⟩:=hSw;go_simp⟩) hHeld ?_
    refine wpAnyH_take (i:=7) (v:=.bool false) rfl (by kernel_rfl) (by kernel_rfl) (by kernel_rfl) (noPanic_q _ _) (Or.inl ⟨by kernel_rfl,fun W hSw=>by obtain⟨h1,h2,h3⟩:=hSw;go_simp⟩) hHeld ?_
    refine wpAnyH_take (i:=8) (v:=.bool false) rfl (by kernel_rfl) (by kernel_rfl) (by kernel_rfl) (noPanic_q _ _) (Or.inl ⟨by kernel_rfl,fun W hSw=>by obtain⟨h1,h2,h3⟩:=hSw;go_simp⟩) hHeld ?_
    refine wpAnyH_take (i:=9) (v:=.func (.func 151) #[] #[.pointer (some ⟨w.heap.size+1,0,none⟩)]) rfl (by kernel_rfl) (by kernel_rfl) (by kernel_rfl) (noPanic_q _ _) (Or.inl ⟨by kernel_rfl,fun W hSw=>by obtain⟨h1,h2,h3⟩:=hSw;go_simp⟩) hHeld ?_
    refine wpAnyH_ready (rs:=[10]) (by kernel_rfl) (by simp) (AllReadyH.cons rfl (fun K hK=>?_) AllReadyH.nil)
    go_simp
    refine(H1.out _ S5.out.ext (S5.out.blk 2 rfl)).mono ?_
    rintro e w6 ⟨rfl,hx⟩
    have S6:=Lib.hid (S5.out.call hx)
    clear hx
    obtain⟨c0,c1,c2⟩:=bkc0c1c2 (S6.out.blk 0 rfl)
    refine hK.out _ _ ⟨c0,c1,c2⟩ (fun hHeld=>?_)
    clear hK c0 c1 c2
    refine wpAnyH_take (i:=11) (v:=.bool false) rfl (by kernel_rfl) (by kernel_rfl) (by kernel_rfl) (noPanic_q _ _) (Or.inl ⟨by kernel_rfl,fun W hSw=>by obtain⟨h1,h2,h3⟩:=hSw;go_simp⟩) hHeld ?_
    refine wpAnyH_take (i:=12) (v:=.bool false) rfl (by kernel_rfl) (by kernel_rfl) (by kernel_rfl) (noPanic_q _ _) (Or.inl ⟨by kernel_rfl,fun W hSw=>by obtain⟨h1,h2,h3⟩:=hSw;go_simp⟩) hHeld ?_
    obtain⟨a0,a1,a2,az,f0,f1,f2⟩:=bkc0c1c2lz0z1z2 (S6.out.blk 1 rfl)
    have S9:=Lib.hid (((S6.out.set 1 rfl 0 (.bool false)).set 1 rfl 1 (.int .i64 d)).set 1 rfl 2 (.slice none 0 0))
    refine wpAnyH_ready (rs:=[13]) (by kernel_rfl) (by simp) (AllReadyH.cons rfl (fun K hK=>?_) AllReadyH.nil)
    go_simp
    obtain⟨c0,c1,c2⟩:=bkc0c1c2 (S9.out.blk 0 rfl)
    refine hK.out _ _ ⟨c0,c1,c2⟩ (fun hHeld=>?_)
    clear hK
    refine wpAnyH_take (i:=14) (v:=.bool false) rfl (by kernel_rfl) (by kernel_rfl) (by kernel_rfl) (noPanic_q _ _) (Or.inl ⟨by kernel_rfl,fun W hSw=>by obtain⟨h1,h2,h3⟩:=hSw;go_simp⟩) hHeld ?_
    refine wpAnyH_done (by kernel_rfl) ?_ _
    refine noPanic_mk ?_
    obtain⟨x0,x1,x2⟩:=bkc0c1c2 (S9.out.blk 1 rfl)
    go_wp2
    exact bodyPost_ret (v:=.tuple #[.agg #[.bool false,.int .i64 d,.slice none 0 0],.bool false]) (by simp [results,Tryz.results95,go_sem,x0,x1,x2,Tryz.sizeOf34,Tryz.isAgg34]) rfl ⟨false,d,by rw [HD.out],S9.out.ext,HA.out⟩
end
section
open Go Go.RowKit
attribute [local go_sem] Oper.semAt_some
def bplV (x:Int × Int):Value:=.iface 329 (.agg #[.int .i64 x.1,.int .i64 x.2])
theorem btaHit (a b:Int) (W:World):(Instr.typeAssert (.iface 329 (.agg #[.int .i64 a,.int .i64 b])) 20 329 true).run Tryz.prog W=.ok (.tuple #[.agg #[.int .i64 a,.int .i64 b],.bool true]) W:=by kernel_rfl
theorem infBh:((Tryz.prog).info? 329).map (fun i=>(i.zero,i.size,i.bytes))=some (some (.agg #[.int .i64 0,.int .i64 0]),2,16):=by kernel_rfl
theorem bPush (gb:Nat) (q:Option Addr) (n c:Nat) (X:List (Int × Int)) (x:Int × Int) (m:Int) (w w0:World) (Γ:List Pc) (jb j:Nat) (S:Sep w0 w Γ) (hb:Γ[jb]?=some (.blk gb 301 #[.slice q n c,.int .i64 m])) (hj:Γ[j]?=some (.own 329 2 q n c (encE X))) (hne:jb≠j) (hn:n≤100000) :
  Calls Tryz.prog 377 #[.pointer (some ⟨gb,0,none⟩),bplV x] w fun e w'=>e=.returned (.tuple #[])∧∃ q' c',Sep w0 w' ((Γ.set j (.own 329 2 q' (n+1) c' (encE (X ++ [x])))).set jb (.blk gb 301 #[.slice q' (n+1) c',.int .i64 m])):=by
 obtain⟨b0,bz,bf⟩:=bkc0lz0 (S.blk jb hb)
 unfold bplV
 have TA:=btaHit x.1 x.2
 have SH:=Lib.hid S;clear S
 obtain⟨i0,hi0,hz0,hz1,hz2⟩:=info_parts infBh
 go_enter Tryz.func377,Tryz.ntmps377
 go_wp2
 obtain⟨Y,hY⟩:∃ Y,Y=w.alloc (.cells #[.int .i64 x.1,.int .i64 x.2] 329):=⟨_,rfl⟩
 have S1:=Lib.hid (hY ▸ SH.out.al #[.int .i64 x.1,.int .i64 x.2] 329 w.heap.size rfl:Sep w0 Y (.blk w.heap.size 329 #[.int .i64 x.1,.int .i64 x.2] :: Γ))
 rw [← hY]
 clear hY b0 bz bf
 obtain⟨b0,bz⟩:=bkc0l (S1.out.blk (jb+1) hb)
 obtain⟨e0,e1,ez⟩:=bkc0c1l (S1.out.blk 0 rfl)
 have S4:=Lib.hid (S1.out.alrw #[.int .i64 x.1,.int .i64 x.2] 329 2 1 Y.heap.size rfl (by decide) rfl).drew
 obtain⟨q',c',w7,hrun,S'⟩:=S4.out.appended (j+2) 297 297 329 i0 _ 2 16 Tryz.underlying297 hi0 hz0 hz1 hz2 rfl (by omega) q n c (encE X) hj (some ⟨Y.heap.size,0,none⟩) 1 1 (encE [x]) (S4.out.rdx 0 rfl) (one_encE _) (by omega) (by omega)
 have hb7:=two_set (p0:=Pc.own 329 2 (some ⟨Y.heap.size,0,none⟩) 1 1 [.int .i64 x.1,.int .i64 x.2]) (p1:=Pc.blk w.heap.size 329 #[.int .i64 x.1,.int .i64 x.2]) (a:=Pc.own 329 2 q' (n+1) c' (encE X ++ encE [x])) (fun e=>hne e.symm) hb
 obtain⟨k4,kf,kz⟩:=bkc0z0l (S'.blk (jb+2) hb7)
 have S6:=Lib.hid S'
 have HB7:=Lib.hid hb7
 clear S' hb7 hb hj
 refine wp_region_any (by kernel_rfl) ?_
 change wpAny _ _ _ _ _ _ _ (World.drew _)
 refine wpAny_take (i:=0) (v:=.pointer (some ⟨gb,0,none⟩)) rfl (by kernel_rfl) (by kernel_rfl) (by kernel_rfl) (fun _ _ _ h=>h) (Or.inl ⟨by rfl,fun W=>by go_simp⟩) ?_
 refine wpAny_take (i:=1) (v:=.pointer (some ⟨gb,0,none⟩)) rfl (by kernel_rfl) (by kernel_rfl) (by kernel_rfl) (fun _ _ _ h=>h) (Or.inl ⟨by rfl,fun W=>by go_simp⟩) ?_
 refine wpAny_take (i:=2) (v:=.pointer (some ⟨gb,0,none⟩)) rfl (by kernel_rfl) (by kernel_rfl) (by kernel_rfl) (fun _ _ _ h=>h) (Or.inl ⟨by rfl,fun W=>by go_simp⟩) ?_
 refine wpAny_take (i:=3) (v:=.pointer (some ⟨gb,0,none⟩)) rfl (by kernel_rfl) (by kernel_rfl) (by kernel_rfl) (fun _ _ _ h=>h) (Or.inl ⟨by rfl,fun W=>by go_simp⟩) ?_
 refine wpAny_ready (rs:=[4,5]) (by kernel_rfl) (by simp) (AllReady.cons rfl (fun K hK=>?_) (AllReady.cons rfl (fun K hK=>?_) AllReady.nil))
 ·go_simp
  refine hK _ _ ?_
  clear hK
  refine wpAny_ready (rs:=[5]) (by kernel_rfl) (by simp) (AllReady.cons rfl (fun K hK=>?_) AllReady.nil)
  go_simp
  refine hK _ _ ?_
  clear hK
  refine wpAny_ready (rs:=[6]) (by kernel_rfl) (by simp) (AllReady.cons rfl (fun K hK=>?_) AllReady.nil)
  go_simp
  refine hK _ _ ?_
  clear hK
  refine wpAny_ready (rs:=[7]) (by kernel_rfl) (by simp) (AllReady.cons rfl (fun K hK=>?_) AllReady.nil)
  rw [if_pos (by rfl)]
  refine operwp_append (.tmp 16) (.tmp 18) 297 rfl rfl rfl hrun ?_
  refine hK _ _ ?_
  clear hK
  refine wpAny_ready (rs:=[8]) (by kernel_rfl) (by simp) (AllReady.cons rfl (fun K hK=>?_) AllReady.nil)
  go_simp
  refine hK _ _ ?_
  clear hK
  refine wpAny_ready (rs:=[9]) (by kernel_rfl) (by simp) (AllReady.cons rfl (fun K hK=>?_) AllReady.nil)
  go_simp
  refine hK _ _ ?_
  clear hK
  refine wpAny_ready (rs:=[10]) (by kernel_rfl) (by simp) (AllReady.cons rfl (fun K hK=>?_) AllReady.nil)
  go_simp
  refine hK _ _ ?_
  clear hK
  refine wpAny_done (by kernel_rfl) ?_ _
  go_end0
  refine⟨rfl,q',c',?_⟩
  have T:=S6.out.set (jb+2) HB7.out 0 (.slice q' (n+1) c')
  rw [encE_append]
  exact T.sub ((List.sublist_cons_self _ _).trans (List.sublist_cons_self _ _))
 ·go_simp
  refine hK _ _ ?_
  clear hK
  refine wpAny_ready (rs:=[4,6]) (by kernel_rfl) (by simp) (AllReady.cons rfl (fun K hK=>?_) (AllReady.cons rfl (fun K hK=>?_) AllReady.nil))
  ·go_simp
   refine hK _ _ ?_
   clear hK
   refine wpAny_ready (rs:=[6]) (by kernel_rfl) (by simp) (AllReady.cons rfl (fun K hK=>?_) AllReady.nil)
   go_simp
   refine hK _ _ ?_
   clear hK
   refine wpAny_ready (rs:=[7]) (by kernel_rfl) (by simp) (AllReady.cons rfl (fun K hK=>?_) AllReady.nil)
   rw [if_pos (by rfl)]
   refine operwp_append (.tmp 16) (.tmp 18) 297 rfl rfl rfl hrun ?_
   refine hK _ _ ?_
   clear hK
   refine wpAny_ready (rs:=[8]) (by kernel_rfl) (by simp) (AllReady.cons rfl (fun K hK=>?_) AllReady.nil)
   go_simp
   refine hK _ _ ?_
   clear hK
   refine wpAny_ready (rs:=[9]) (by kernel_rfl) (by simp) (AllReady.cons rfl (fun K hK=>?_) AllReady.nil)
   go_simp
   refine hK _ _ ?_
   clear hK
   refine wpAny_ready (rs:=[10]) (by kernel_rfl) (by simp) (AllReady.cons rfl (fun K hK=>?_) AllReady.nil)
   go_simp
   refine hK _ _ ?_
   clear hK
   refine wpAny_done (by kernel_rfl) ?_ _
   go_end0
   refine⟨rfl,q',c',?_⟩
   have T:=S6.out.set (jb+2) HB7.out 0 (.slice q' (n+1) c')
   rw [encE_append]
   exact T.sub ((List.sublist_cons_self _ _).trans (List.sublist_cons_self _ _))
  ·go_simp
   refine hK _ _ ?_
   clear hK
   refine wpAny_ready (rs:=[4]) (by kernel_rfl) (by simp) (AllReady.cons rfl (fun K hK=>?_) AllReady.nil)
   go_simp
   refine hK _ _ ?_
   clear hK
   refine wpAny_ready (rs:=[7]) (by kernel_rfl) (by simp) (AllReady.cons rfl (fun K hK=>?_) AllReady.nil)
   rw [if_pos (by rfl)]
   refine operwp_append (.tmp 16) (.tmp 18) 297 rfl rfl rfl hrun ?_
   refine hK _ _ ?_
   clear hK
   refine wpAny_ready (rs:=[8]) (by kernel_rfl) (by simp) (AllReady.cons rfl (fun K hK=>?_) AllReady.nil)
   go_simp
   refine hK _ _ ?_
   clear hK
   refine wpAny_ready (rs:=[9]) (by kernel_rfl) (by simp) (AllReady.cons rfl (fun K hK=>?_) AllReady.nil)
   go_simp
   refine hK _ _ ?_
   clear hK
   refine wpAny_ready (rs:=[10]) (by kernel_rfl) (by simp) (AllReady.cons rfl (fun K hK=>?_) AllReady.nil)
   go_simp
   refine hK _ _ ?_
   clear hK
   refine wpAny_done (by kernel_rfl) ?_ _
   go_end0
   refine⟨rfl,q',c',?_⟩
   have T:=S6.out.set (jb+2) HB7.out 0 (.slice q' (n+1) c')
   rw [encE_append]
   exact T.sub ((List.sublist_cons_self _ _).trans (List.sublist_cons_self _ _))
theorem bPop (gb:Nat) (q:Option Addr) (n c:Nat) (X:List (Int × Int)) (m:Int) (w w0:World) (Γ:List Pc) (jb j:Nat) (S:Sep w0 w Γ) (hb:Γ[jb]?=some (.blk gb 301 #[.slice q (n+1) c,.int .i64 m])) (hj:Γ[j]?=some (.own 329 2 q (n+1) c (encE X))) (hne:jb≠j) (hn:n≤100000) :
  Calls Tryz.prog 376 #[.pointer (some ⟨gb,0,none⟩)] w fun e w'=>e=.returned (bplV (nth X n))∧Sep w0 w' ((Γ.set j (.own 329 2 q n c (encE (X.take n)))).set jb (.blk gb 301 #[.slice q n c,.int .i64 m])):=by
 have b0:w.cell? ⟨gb,0,none⟩=some (.slice q (n+1) c):=(S.blk jb hb).cell 0
 have hl:=S.rd j hj (by omega)
 have hcap:=own_cap (S.own j hj)
 have HCP:Hid (cutp q c 0 2=q):=by
  obtain⟨g,rfl,_⟩:=own_block (S.own j hj) (by omega)
  unfold Hid cutp
  split
  ·rfl
  ·simp [Addr.add]
 have g1:=hl.cE (k:=n) (by omega)
 have g2:=hl.cE2 (k:=n) (by omega)
 have p1:=hl.ptr
 have hnX:=hl.nE
 have d1:(0:Int)≤n:=by omega
 have d2:(n:Int)<(n:Int)+1:=by omega
 have HNX:=Lib.hid hnX
 clear hnX
 obtain⟨x,hx0⟩:∃ x,nth X n=x:=⟨_,rfl⟩
 rw [hx0] at g1 g2 ⊢
 have HX:=Lib.hid hx0
 clear hx0
 unfold bplV
 clear hl
 have SH:=Lib.hid S;clear S
 go_enter Tryz.func376,Tryz.ntmps376
 go_wp2
 refine wp_region_noPanic ?_
 refine wp_region_held_drew (S:=fun w'=>w'.cell? ⟨gb,0,none⟩=some (.slice q (n+1) c)∧w'.cell? (adr q (n*2))=some (.int .i64 x.1)∧w'.cell? (adr q (n*2+1))=some (.int .i64 x.2)) (by kernel_rfl) ⟨b0,g1,g2⟩ (fun hHeld=>?_)
 have SD:=Lib.hid SH.out.drew
 clear SH b0 g1 g2
 generalize w.drew=D at SD hHeld ⊢
 refine wpAnyH_take (i:=0) (v:=.pointer (some ⟨gb,0,none⟩)) rfl (by kernel_rfl) (by kernel_rfl) (by kernel_rfl) (noPanic_q _ _) (Or.inl ⟨by kernel_rfl,fun W hSw=>by obtain⟨h1,h2,h3⟩:=hSw;go_simp⟩) hHeld ?_
 refine wpAnyH_take (i:=1) (v:=.pointer (some ⟨gb,0,none⟩)) rfl (by kernel_rfl) (by kernel_rfl) (by kernel_rfl) (noPanic_q _ _) (Or.inl ⟨by kernel_rfl,fun W hSw=>by obtain⟨h1,h2,h3⟩:=hSw;go_simp⟩) hHeld ?_
 refine wpAnyH_take (i:=2) (v:=.pointer (some ⟨gb,0,none⟩)) rfl (by kernel_rfl) (by kernel_rfl) (by kernel_rfl) (noPanic_q _ _) (Or.inl ⟨by kernel_rfl,fun W hSw=>by obtain⟨h1,h2,h3⟩:=hSw;go_simp⟩) hHeld ?_
 refine wpAnyH_take (i:=3) (v:=.slice q (n+1) c) rfl (by kernel_rfl) (by kernel_rfl) (by kernel_rfl) (noPanic_q _ _) (Or.inl ⟨by kernel_rfl,fun W hSw=>by obtain⟨h1,h2,h3⟩:=hSw;go_simp⟩) hHeld ?_
 refine wpAnyH_take (i:=4) (v:=.pointer (some ⟨gb,0,none⟩)) rfl (by kernel_rfl) (by kernel_rfl) (by kernel_rfl) (noPanic_q _ _) (Or.inl ⟨by kernel_rfl,fun W hSw=>by obtain⟨h1,h2,h3⟩:=hSw;go_simp⟩) hHeld ?_
 refine wpAnyH_take (i:=5) (v:=.pointer (some ⟨gb,0,none⟩)) rfl (by kernel_rfl) (by kernel_rfl) (by kernel_rfl) (noPanic_q _ _) (Or.inl ⟨by kernel_rfl,fun W hSw=>by obtain⟨h1,h2,h3⟩:=hSw;go_simp⟩) hHeld ?_
 refine wpAnyH_take (i:=6) (v:=.pointer (some ⟨gb,0,none⟩)) rfl (by kernel_rfl) (by kernel_rfl) (by kernel_rfl) (noPanic_q _ _) (Or.inl ⟨by kernel_rfl,fun W hSw=>by obtain⟨h1,h2,h3⟩:=hSw;go_simp⟩) hHeld ?_
 refine wpAnyH_take (i:=7) (v:=.slice q (n+1) c) rfl (by kernel_rfl) (by kernel_rfl) (by kernel_rfl) (noPanic_q _ _) (Or.inl ⟨by kernel_rfl,fun W hSw=>by obtain⟨h1,h2,h3⟩:=hSw;go_simp⟩) hHeld ?_
 refine wpAnyH_take (i:=8) (v:=.int .i64 ((n:Int)+1)) rfl (by kernel_rfl) (by kernel_rfl) (by kernel_rfl) (noPanic_q _ _) (Or.inl ⟨by kernel_rfl,fun W hSw=>by obtain⟨h1,h2,h3⟩:=hSw;go_simp⟩) hHeld ?_
 have hw1:IntKind.i64.wrap (n:Int)=(n:Int):=IntWalk.i64_in _ (by omega)
 refine wpAnyH_take (i:=9) (v:=.int .i64 (n:Int)) rfl (by kernel_rfl) (by kernel_rfl) (by kernel_rfl) (noPanic_q _ _) (Or.inl ⟨by kernel_rfl,fun W hSw=>by obtain⟨h1,h2,h3⟩:=hSw;go_simp⟩) hHeld ?_
 clear hw1
 refine wpAnyH_take (i:=10) (v:=.pointer (some (adr q (n*2)))) rfl (by kernel_rfl) (by kernel_rfl) (by kernel_rfl) (noPanic_q _ _) (Or.inl ⟨by kernel_rfl,fun W hSw=>by obtain⟨h1,h2,h3⟩:=hSw;go_simp⟩) hHeld ?_
 refine wpAnyH_take (i:=11) (v:=.agg #[.int .i64 x.1,.int .i64 x.2]) rfl (by kernel_rfl) (by kernel_rfl) (by kernel_rfl) (noPanic_q _ _) (Or.inl ⟨by kernel_rfl,fun W hSw=>by obtain⟨h1,h2,h3⟩:=hSw;go_simp⟩) hHeld ?_
 refine wpAnyH_ready (rs:=[12]) (by kernel_rfl) (by simp) (AllReadyH.cons rfl (fun K hK=>?_) AllReadyH.nil)
 go_simp
 have SA:=Lib.hid (SD.out.al #[.int .i64 0,.int .i64 0] 329 D.heap.size rfl)
 obtain⟨h1,h2,h3⟩:=hHeld
 have hx:=Ext.alloc (Below.refl D.heap.size D) (.cells #[.int .i64 0,.int .i64 0] 329)
 refine hK.out _ _ ⟨Ext.cell hx h1,Ext.cell hx h2,Ext.cell hx h3⟩ (fun hHeld=>?_)
 clear hK h1 h2 h3 hx
 have S9:=Lib.hid ((SA.out.set 0 rfl 0 (.int .i64 x.1)).set 0 rfl 1 (.int .i64 x.2))
 obtain⟨k0,k1,kz,f0,f1⟩:=bkc0c1lz0z1 (SA.out.blk 0 rfl)
 clear SD
 generalize D.alloc (.cells #[.int .i64 0,.int .i64 0] 329)=E at *
 generalize D.heap.size=gx at *
 refine wpAnyH_ready (rs:=[13]) (by kernel_rfl) (by simp) (AllReadyH.cons rfl (fun K hK=>?_) AllReadyH.nil)
 go_simp
 have b0:((E.setCell ⟨gx,0,none⟩ (.int .i64 x.1)).setCell ⟨gx,1,none⟩ (.int .i64 x.2)).cell? ⟨gb,0,none⟩=some (.slice q (n+1) c):=(S9.out.blk (jb+1) hb).cell 0
 have hl:=S9.out.rd (j+1) hj (by omega)
 have g1:=hl.cE (k:=n) (by omega)
 have g2:=hl.cE2 (k:=n) (by omega)
 rw [HX.out] at g1 g2
 refine hK.out _ _ ⟨b0,g1,g2⟩ (fun hHeld=>?_)
 clear hK b0 g1 g2 hl
 refine wpAnyH_done (by kernel_rfl) ?_ _
 refine noPanic_mk ?_
 clear hHeld k0 k1 kz f0 f1
 generalize (E.setCell ⟨gx,0,none⟩ (.int .i64 x.1)).setCell ⟨gx,1,none⟩ (.int .i64 x.2)=F at *
 go_wp2
 have b0:F.cell? ⟨gb,0,none⟩=some (.slice q (n+1) c):=(S9.out.blk (jb+1) hb).cell 0
 have hw1:IntKind.i64.wrap (n:Int)=(n:Int):=IntWalk.i64_in _ (by omega)
 have hcn:n≤c:=by omega
 have hcn2:¬ c<n:=by omega
 have hcp:=HCP.out
 have u0:=fun x:ExtOf F=>x.ext.cell b0
 refine wp_region_mix [true,true,true,true,true,true,true,true,true,true,true,true,true,true] (fun _ _ _=>True) (by kernel_rfl) (by kernel_rfl) (by kernel_rfl) (fun _ _ _ _ _ h=>h) ?_
 simp only [nfM]
 repeat (go_big_quiet_step ((fail)))
 refine wpQuiet_nil ⟨trivial,fun vs G hE hkn=>?_⟩
 clear hkn
 have SG:=Lib.hid (S9.out.call hE)
 clear S9 SA hcn hcn2 hcp hw1 u0 b0 hE
 obtain⟨k0,kz,f0⟩:=bkc0lz0 (SG.out.blk (jb+1) hb)
 have SX:=Lib.hid (SG.out.set (jb+1) hb 0 (.slice q n c))
 have x0:(G.setCell ⟨gb,0,none⟩ (.slice q n c)).cell? ⟨gx,0,none⟩=some (.int .i64 x.1):=(SX.out.blk 0 rfl).cell 0
 have x1:(G.setCell ⟨gb,0,none⟩ (.slice q n c)).cell? ⟨gx,1,none⟩=some (.int .i64 x.2):=(SX.out.blk 0 rfl).cell 1
 have xz:gx<(G.setCell ⟨gb,0,none⟩ (.slice q n c)).heap.size:=(SX.out.blk 0 rfl).lt
 simp only [putM,List.length_cons,List.length_nil,Nat.zero_add,Nat.reduceAdd,List.drop_succ_cons,List.drop_zero]
 rename_i K0 HK0
 have HK:=Lib.hid HK0
 clear HK0
 go_wp2
 clear k0 kz f0 SG
 generalize G.setCell ⟨gb,0,none⟩ (.slice q n c)=Z at *
 refine HK.out _ _ ?_
 clear HK
 go_wp2
 go_ret
 refine⟨rfl,?_⟩
 have T:Sep w0 Z (Γ.set jb (.blk gb 301 #[.slice q n c,.int .i64 m])):=SX.out.sub (List.sublist_cons_self _ _)
 have hj2:(Γ.set jb (.blk gb 301 #[.slice q n c,.int .i64 m]))[j]?=some (.own 329 2 q (n+1) c (encE (X.take n) ++ encE (X.drop n))):=by
  rw [← encE_append,List.take_append_drop,List.getElem?_set_ne hne];exact hj
 have hX:=HNX.out
 have T2:=Sep.cut T j n hj2 (by rw [encE_len,List.length_take];omega) (by omega)
 rw [List.set_comm _ _ hne] at T2
 exact T2
end
section
open Go Go.RowKit
theorem bmLen (gb : Nat) (W : World) (N : Nat) (hN : 0 < N) : (method N 328 (.pointer (some ⟨gb, 0, none⟩)) "Len").run Tryz.prog W = .ok (285, .pointer (some ⟨gb, 0, none⟩)) W := by
 obtain⟨m,rfl⟩:∃ m,N=m+1:=⟨N - 1,by omega⟩
 kernel_rfl
theorem bmLess (gb : Nat) (W : World) (N : Nat) (hN : 0 < N) : (method N 328 (.pointer (some ⟨gb, 0, none⟩)) "Less").run Tryz.prog W = .ok (375, .pointer (some ⟨gb, 0, none⟩)) W := by
 obtain⟨m,rfl⟩:∃ m,N=m+1:=⟨N - 1,by omega⟩
 kernel_rfl
theorem bmSwap (gb : Nat) (W : World) (N : Nat) (hN : 0 < N) : (method N 328 (.pointer (some ⟨gb, 0, none⟩)) "Swap").run Tryz.prog W = .ok (378, .pointer (some ⟨gb, 0, none⟩)) W := by
 obtain⟨m,rfl⟩:∃ m,N=m+1:=⟨N - 1,by omega⟩
 kernel_rfl
theorem bmPush (gb : Nat) (W : World) (N : Nat) (hN : 0 < N) : (method N 328 (.pointer (some ⟨gb, 0, none⟩)) "Push").run Tryz.prog W = .ok (377, .pointer (some ⟨gb, 0, none⟩)) W := by
 obtain⟨m,rfl⟩:∃ m,N=m+1:=⟨N - 1,by omega⟩
 kernel_rfl
theorem bmPop (gb : Nat) (W : World) (N : Nat) (hN : 0 < N) : (method N 328 (.pointer (some ⟨gb, 0, none⟩)) "Pop").run Tryz.prog W = .ok (376, .pointer (some ⟨gb, 0, none⟩)) W := by
 obtain⟨m,rfl⟩:∃ m,N=m+1:=⟨N - 1,by omega⟩
 kernel_rfl
end
section
open Go Go.RowKit
attribute [local go_sem] Oper.semAt_some
def bhpV (gb:Nat):Value:=.iface 328 (.pointer (some ⟨gb,0,none⟩))
theorem bUp (gb:Nat) (q:Option Addr) (n c i:Nat) (X:List (Int × Int)) (mo:Int) (w w0:World) (Γ:List Pc) (jb j:Nat) (S:Sep w0 w Γ) (hb:Γ[jb]?=some (.blk gb 301 #[.slice q n c,.int .i64 mo])) (hj:Γ[j]?=some (.own 329 2 q n c (encE X))) (hne:jb≠j) (hn:n≤100000) (hi:i<n) (hu:UpH ltR n i X) :
  Calls Tryz.prog 190 #[bhpV gb,.int .i64 i] w fun e w'=>e=.returned (.tuple #[])∧∃ X':List (Int × Int),X'.Perm X∧HeapN ltR n X'∧Sep w0 w' (Γ.set j (.own 329 2 q n c (encE X'))):=by
 unfold bhpV
 have hnX:n=X.length:=(S.rd j hj (by omega)).nE
 have HNX:=Lib.hid hnX
 clear hnX
 have SH:=Lib.hid S;clear S
 have HU:=Lib.hid hu;clear hu
 go_enter Tryz.func190,Tryz.ntmps190
 go_wp2
 go_loopw [1,4] (fun v1 _ wr=>∃ (k:Nat) (Y:List (Int × Int)),k<n∧v1=.int .i64 k∧Y.Perm X∧UpH ltR n k Y∧Sep w0 wr (Γ.set j (.own 329 2 q n c (encE Y)))) (fun v1 _ _=>(intOf v1).toNat)
 case atStart=>exact⟨i,X,hi,rfl,List.Perm.refl _,HU.out,by rw [set_same hj];exact SH.out⟩
 case round =>
  clear SH HU
  obtain⟨k,Y,hk,rfl,hp,hu,S⟩:=hrel
  have HP:=Lib.hid hp
  have HU:=Lib.hid hu
  have HYL:Hid (Y.length=n):=by unfold Hid;rw [hp.length_eq];exact HNX.out.symm
  have hb2:=(List.getElem?_set_ne (l:=Γ) (a:=Pc.own 329 2 q n c (encE Y)) (i:=j) (j:=jb) (by omega)).trans hb
  have hj2:=pc_set (q:=Pc.own 329 2 q n c (encE Y)) hj
  have HB2:=Lib.hid hb2
  have ML:=fun N hN=>bmLess gb wr N hN
  by_cases h0:k=0
  ·subst h0
   have HE:=Lib.hid (up_end hu (.inl rfl))
   have SH:=Lib.hid S;clear S
   clear hp hu hb2 hj2
   go_wp2
   go_end0
   exact⟨rfl,Y,HP.out,HE.out,SH.out⟩
  ·obtain⟨p,hpp⟩:∃ p,(k - 1) / 2=p:=⟨_,rfl⟩
   have hpk:p<k:=by omega
   have e1:((k:Int) - 1).tdiv 2=(p:Int):=by
    rw [Int.tdiv_eq_ediv_of_nonneg (by omega)];omega
   have e2:((p:Int) == (k:Int))=false:=by simp;omega
   have hL:=bLess gb q n c mo Y k p wr (S.blk jb hb2) (S.rd j hj2 (by omega)) hk (by omega)
   cases hlt:ltR (nth Y k) (nth Y p) with
   | false =>
    rw [hlt] at hL
    have HE:=Lib.hid (up_end hu (.inr (by rw [hpp];exact hlt)))
    have HL:=Lib.hid hL
    have SH:=Lib.hid S;clear S
    clear hp hu hb2 hj2 hL hlt hpp h0
    go_wp2_with (go_at_call 375;go_must (refine HL.out.mono ?_;rintro e w5 ⟨rfl,h5⟩;have S5:=Lib.hid (SH.out.call h5);have MS:=fun N hN=>bmSwap gb w5 N hN;clear h5))
    go_end0
    exact⟨rfl,Y,HP.out,HE.out,S5.out⟩
   | true =>
    rw [hlt] at hL
    have HE:=Lib.hid (hpp ▸ up_step stoR (by rw [HYL.out];exact Nat.le_refl _) hk (by omega) hu (by rw [hpp];exact hlt):UpH ltR n p (swapL Y k p))
    have HJ2:=Lib.hid hj2
    have HPM:=Lib.hid (swapL_perm (X:=Y) (i:=k) (j:=p) (by rw [HYL.out];exact hk) (by rw [HYL.out];omega))
    have HL:=Lib.hid hL
    have SH:=Lib.hid S;clear S
    clear hp hu hb2 hj2 hL hlt hpp h0
    have hkp:p≠k:=by omega
    go_wp2_with (first
     | (go_at_call 378;go_must (refine(bSwap gb q n c Y p k mo w5 w0 _ jb j S5.out HB2.out hne HJ2.out (by omega) hk (by omega)).mono ?_;rintro e w6 ⟨rfl,T⟩;rw [List.set_set,swapL_comm Y hkp] at T;have S6:=Lib.hid T;clear T))
     | (go_at_call 375;go_must (refine HL.out.mono ?_;rintro e w5 ⟨rfl,h5⟩;have S5:=Lib.hid (SH.out.call h5);have MS:=fun N hN=>bmSwap gb w5 N hN;clear h5)))
    go_roundw
    case rel=>exact⟨p,swapL Y k p,by omega,rfl,HPM.out.trans HP.out,HE.out,S6.out⟩
    case measure=>simp [intOf];omega
end
section
open Go Go.RowKit
attribute [local go_sem] Oper.semAt_some
theorem bDown (gb:Nat) (q:Option Addr) (n m c:Nat) (X:List (Int × Int)) (mo:Int) (w w0:World) (Γ:List Pc) (jb j:Nat) (S:Sep w0 w Γ) (hb:Γ[jb]?=some (.blk gb 301 #[.slice q m c,.int .i64 mo])) (hj:Γ[j]?=some (.own 329 2 q m c (encE X))) (hne:jb≠j) (hm:m≤100000) (hnm:n≤m) (hu:DnH ltR n 0 X) :
  Calls Tryz.prog 203 #[bhpV gb,.int .i64 0,.int .i64 n] w fun e w'=>∃ bb,e=.returned (.bool bb)∧∃ X':List (Int × Int),X'.Perm X∧HeapN ltR n X'∧(∀ z,n≤z→z<m→nth X' z=nth X z)∧Sep w0 w' (Γ.set j (.own 329 2 q m c (encE X'))):=by
 unfold bhpV
 have hnX:m=X.length:=(S.rd j hj (by omega)).nE
 have HNX:=Lib.hid hnX
 clear hnX
 have SH:=Lib.hid S;clear S
 have HU:=Lib.hid hu;clear hu
 go_enter Tryz.func203,Tryz.ntmps203
 go_wp2
 go_loopw [7,8,9,10] (fun v7 _ _ _ wr=>∃ (k:Nat) (Y:List (Int × Int)),k≤n∧v7=.int .i64 k∧Y.Perm X∧DnH ltR n k Y∧(∀ z,n≤z→z<m→nth Y z=nth X z)∧Sep w0 wr (Γ.set j (.own 329 2 q m c (encE Y)))) (fun v7 _ _ _ _=>n - (intOf v7).toNat)
 case atStart=>exact⟨0,X,Nat.zero_le _,rfl,List.Perm.refl _,HU.out,fun _ _ _=>rfl,by rw [set_same hj];exact SH.out⟩
 case round =>
  clear SH HU
  obtain⟨k,Y,hk,rfl,hp,hu,ht,S⟩:=hrel
  have HP:=Lib.hid hp
  have HU:=Lib.hid hu
  have HT:=Lib.hid ht
  have HYL:Hid (Y.length=m):=by unfold Hid;rw [hp.length_eq];exact HNX.out.symm
  have HB2:=Lib.hid ((List.getElem?_set_ne (l:=Γ) (a:=Pc.own 329 2 q m c (encE Y)) (i:=j) (j:=jb) (by omega)).trans hb)
  have HJ2:=Lib.hid (pc_set (q:=Pc.own 329 2 q m c (encE Y)) hj)
  have ML:=fun N hN=>bmLess gb wr N hN
  obtain⟨a,ha⟩:∃ a,2*k+1=a:=⟨_,rfl⟩
  have e1:2*(k:Int)+1=(a:Int):=by omega
  have e2:decide ((a:Int)<0)=false:=by simp
  clear hp hu ht
  by_cases hA:n≤a
  ·have d1:decide ((n:Int)≤a)=true:=by simp;omega
   have HE:=Lib.hid (dn_leaf HU.out (by omega))
   have SH:=Lib.hid S;clear S
   have d1n:decide (n≤a)=true:=by simpa using hA
   clear ha
   go_wp2
   go_ret
   exact⟨_,rfl,Y,HP.out,HE.out,HT.out,SH.out⟩
  ·have d1:decide ((n:Int)≤a)=false:=by simp;omega
   obtain⟨b,hb'⟩:∃ b,2*k+2=b:=⟨_,rfl⟩
   have e3:(a:Int)+1=(b:Int):=by omega
   by_cases hB:b<n
   ·have d2:decide ((b:Int)<n)=true:=by simp;omega
    have hL1:=bLess gb q m c mo Y b a wr (S.blk jb HB2.out) (S.rd j HJ2.out (by omega)) (by omega) (by omega)
    cases hl1:ltR (nth Y b) (nth Y a) with
    | false =>
     rw [hl1] at hL1
     have HL1:=Lib.hid hL1
     obtain⟨d,hd⟩:∃ d,d=a:=⟨_,rfl⟩
     have HLC:=Lib.hid (least_one stoR (n:=n) (j:=k) (X:=Y) (by omega) (.inr (by rw [ha,hb'];exact hl1)))
     rw [ha] at HLC
     have SH:=Lib.hid S;clear S
     obtain rfl:=hd
     clear hl1 hL1
     cases hlt:ltR (nth Y d) (nth Y k) with
     | false =>
      have HE:=Lib.hid (dn_end stoR HU.out HLC.out hlt)
      have HL2:Hid (∀ W,Ext wr W→Calls Tryz.prog 375 #[.pointer (some ⟨gb,0,none⟩),.int .i64 d,.int .i64 k] W fun e w'=>e=.returned (.bool false)∧Ext W w'):=fun W h=>hlt ▸ bLess gb q m c mo Y d k W ((SH.out.blk jb HB2.out).ext h) ((SH.out.rd j HJ2.out (by omega)).ext h) (by omega) (by omega)
      clear hlt
      go_wp2_with (first | (go_at_call 375;have _t:=S5;go_must (refine(HL2.out _ X5.out).mono ?_;rintro e w6 ⟨rfl,h6⟩;have S6:=Lib.hid (S5.out.call h6);have MS:=fun N hN=>bmSwap gb w6 N hN;clear h6)) | (go_at_call 375;have _t:=HL1;go_must (refine HL1.out.mono ?_;rintro e w5 ⟨rfl,h5⟩;have S5:=Lib.hid (SH.out.call h5);have X5:=Lib.hid h5;have ML5:=fun N hN=>bmLess gb w5 N hN;clear h5)))
      go_ret
      exact⟨_,rfl,Y,HP.out,HE.out,HT.out,S6.out⟩
     | true =>
      have HE:=Lib.hid (dn_step stoR (by rw [HYL.out];exact hnm) HU.out HLC.out hlt)
      have HL2:Hid (∀ W,Ext wr W→Calls Tryz.prog 375 #[.pointer (some ⟨gb,0,none⟩),.int .i64 d,.int .i64 k] W fun e w'=>e=.returned (.bool true)∧Ext W w'):=fun W h=>hlt ▸ bLess gb q m c mo Y d k W ((SH.out.blk jb HB2.out).ext h) ((SH.out.rd j HJ2.out (by omega)).ext h) (by omega) (by omega)
      have HPM:=Lib.hid (swapL_perm (X:=Y) (i:=k) (j:=d) (by rw [HYL.out];omega) (by rw [HYL.out];omega))
      have HT2:Hid (∀ z,n≤z→z<m→nth (swapL Y k d) z=nth X z):=fun z h1 h2=>by rw [swapL_nth (by rw [HYL.out];exact h2),if_neg (by omega),if_neg (by omega)];exact HT.out z h1 h2
      clear hlt
      go_wp2_with (first | (go_at_call 378;go_must (refine(bSwap gb q m c Y k d mo w6 w0 _ jb j S6.out HB2.out hne HJ2.out (by omega) (by omega) (by omega)).mono ?_;rintro e w7 ⟨rfl,T⟩;rw [List.set_set] at T;have S7:=Lib.hid T;clear T)) | (go_at_call 375;have _t:=S5;go_must (refine(HL2.out _ X5.out).mono ?_;rintro e w6 ⟨rfl,h6⟩;have S6:=Lib.hid (S5.out.call h6);have MS:=fun N hN=>bmSwap gb w6 N hN;clear h6)) | (go_at_call 375;have _t:=HL1;go_must (refine HL1.out.mono ?_;rintro e w5 ⟨rfl,h5⟩;have S5:=Lib.hid (SH.out.call h5);have X5:=Lib.hid h5;have ML5:=fun N hN=>bmLess gb w5 N hN;clear h5)))
      go_roundw
      case rel=>exact⟨d,swapL Y k d,by omega,rfl,HPM.out.trans HP.out,HE.out,HT2.out,S7.out⟩
      case measure=>simp [intOf];omega
    | true =>
     rw [hl1] at hL1
     have HL1:=Lib.hid hL1
     have HLC:=Lib.hid (least_two stoR (n:=n) (j:=k) (X:=Y) (by omega) (by rw [ha,hb'];exact hl1))
     rw [hb'] at HLC
     obtain⟨d,hd⟩:∃ d,d=b:=⟨_,rfl⟩
     have SH:=Lib.hid S;clear S
     obtain rfl:=hd
     clear hl1 hL1
     cases hlt:ltR (nth Y d) (nth Y k) with
     | false =>
      have HE:=Lib.hid (dn_end stoR HU.out HLC.out hlt)
      have HL2:Hid (∀ W,Ext wr W→Calls Tryz.prog 375 #[.pointer (some ⟨gb,0,none⟩),.int .i64 d,.int .i64 k] W fun e w'=>e=.returned (.bool false)∧Ext W w'):=fun W h=>hlt ▸ bLess gb q m c mo Y d k W ((SH.out.blk jb HB2.out).ext h) ((SH.out.rd j HJ2.out (by omega)).ext h) (by omega) (by omega)
      clear hlt
      go_wp2_with (first | (go_at_call 375;have _t:=S5;go_must (refine(HL2.out _ X5.out).mono ?_;rintro e w6 ⟨rfl,h6⟩;have S6:=Lib.hid (S5.out.call h6);have MS:=fun N hN=>bmSwap gb w6 N hN;clear h6)) | (go_at_call 375;have _t:=HL1;go_must (refine HL1.out.mono ?_;rintro e w5 ⟨rfl,h5⟩;have S5:=Lib.hid (SH.out.call h5);have X5:=Lib.hid h5;have ML5:=fun N hN=>bmLess gb w5 N hN;clear h5)))
      go_ret
      exact⟨_,rfl,Y,HP.out,HE.out,HT.out,S6.out⟩
     | true =>
      have HE:=Lib.hid (dn_step stoR (by rw [HYL.out];exact hnm) HU.out HLC.out hlt)
      have HL2:Hid (∀ W,Ext wr W→Calls Tryz.prog 375 #[.pointer (some ⟨gb,0,none⟩),.int .i64 d,.int .i64 k] W fun e w'=>e=.returned (.bool true)∧Ext W w'):=fun W h=>hlt ▸ bLess gb q m c mo Y d k W ((SH.out.blk jb HB2.out).ext h) ((SH.out.rd j HJ2.out (by omega)).ext h) (by omega) (by omega)
      have HPM:=Lib.hid (swapL_perm (X:=Y) (i:=k) (j:=d) (by rw [HYL.out];omega) (by rw [HYL.out];omega))
      have HT2:Hid (∀ z,n≤z→z<m→nth (swapL Y k d) z=nth X z):=fun z h1 h2=>by rw [swapL_nth (by rw [HYL.out];exact h2),if_neg (by omega),if_neg (by omega)];exact HT.out z h1 h2
      clear hlt
      go_wp2_with (first | (go_at_call 378;go_must (refine(bSwap gb q m c Y k d mo w6 w0 _ jb j S6.out HB2.out hne HJ2.out (by omega) (by omega) (by omega)).mono ?_;rintro e w7 ⟨rfl,T⟩;rw [List.set_set] at T;have S7:=Lib.hid T;clear T)) | (go_at_call 375;have _t:=S5;go_must (refine(HL2.out _ X5.out).mono ?_;rintro e w6 ⟨rfl,h6⟩;have S6:=Lib.hid (S5.out.call h6);have MS:=fun N hN=>bmSwap gb w6 N hN;clear h6)) | (go_at_call 375;have _t:=HL1;go_must (refine HL1.out.mono ?_;rintro e w5 ⟨rfl,h5⟩;have S5:=Lib.hid (SH.out.call h5);have X5:=Lib.hid h5;have ML5:=fun N hN=>bmLess gb w5 N hN;clear h5)))
      go_roundw
      case rel=>exact⟨d,swapL Y k d,by omega,rfl,HPM.out.trans HP.out,HE.out,HT2.out,S7.out⟩
      case measure=>simp [intOf];omega
   ·have d2:decide ((b:Int)<n)=false:=by simp;omega
    have HLC:=Lib.hid (least_one stoR (n:=n) (j:=k) (X:=Y) (by omega) (.inl (by omega)))
    rw [ha] at HLC
    obtain⟨d,hd⟩:∃ d,d=a:=⟨_,rfl⟩
    have SH:=Lib.hid S;clear S
    have S5:=Lib.hid SH.out
    have X5:Hid (Ext wr wr):=Below.refl _ _
    obtain rfl:=hd
    cases hlt:ltR (nth Y d) (nth Y k) with
    | false =>
     have HE:=Lib.hid (dn_end stoR HU.out HLC.out hlt)
     have HL2:Hid (∀ W,Ext wr W→Calls Tryz.prog 375 #[.pointer (some ⟨gb,0,none⟩),.int .i64 d,.int .i64 k] W fun e w'=>e=.returned (.bool false)∧Ext W w'):=fun W h=>hlt ▸ bLess gb q m c mo Y d k W ((SH.out.blk jb HB2.out).ext h) ((SH.out.rd j HJ2.out (by omega)).ext h) (by omega) (by omega)
     clear hlt
     go_wp2_with (first | (go_at_call 375;have _t:=S5;go_must (refine(HL2.out _ X5.out).mono ?_;rintro e w6 ⟨rfl,h6⟩;have S6:=Lib.hid (S5.out.call h6);have MS:=fun N hN=>bmSwap gb w6 N hN;clear h6)) | (go_at_call 375;have _t:=HL1;go_must (refine HL1.out.mono ?_;rintro e w5 ⟨rfl,h5⟩;have S5:=Lib.hid (SH.out.call h5);have X5:=Lib.hid h5;have ML5:=fun N hN=>bmLess gb w5 N hN;clear h5)))
     go_ret
     exact⟨_,rfl,Y,HP.out,HE.out,HT.out,S6.out⟩
    | true =>
     have HE:=Lib.hid (dn_step stoR (by rw [HYL.out];exact hnm) HU.out HLC.out hlt)
     have HL2:Hid (∀ W,Ext wr W→Calls Tryz.prog 375 #[.pointer (some ⟨gb,0,none⟩),.int .i64 d,.int .i64 k] W fun e w'=>e=.returned (.bool true)∧Ext W w'):=fun W h=>hlt ▸ bLess gb q m c mo Y d k W ((SH.out.blk jb HB2.out).ext h) ((SH.out.rd j HJ2.out (by omega)).ext h) (by omega) (by omega)
     have HPM:=Lib.hid (swapL_perm (X:=Y) (i:=k) (j:=d) (by rw [HYL.out];omega) (by rw [HYL.out];omega))
     have HT2:Hid (∀ z,n≤z→z<m→nth (swapL Y k d) z=nth X z):=fun z h1 h2=>by rw [swapL_nth (by rw [HYL.out];exact h2),if_neg (by omega),if_neg (by omega)];exact HT.out z h1 h2
     clear hlt
     go_wp2_with (first | (go_at_call 378;go_must (refine(bSwap gb q m c Y k d mo w6 w0 _ jb j S6.out HB2.out hne HJ2.out (by omega) (by omega) (by omega)).mono ?_;rintro e w7 ⟨rfl,T⟩;rw [List.set_set] at T;have S7:=Lib.hid T;clear T)) | (go_at_call 375;have _t:=S5;go_must (refine(HL2.out _ X5.out).mono ?_;rintro e w6 ⟨rfl,h6⟩;have S6:=Lib.hid (S5.out.call h6);have MS:=fun N hN=>bmSwap gb w6 N hN;clear h6)) | (go_at_call 375;have _t:=HL1;go_must (refine HL1.out.mono ?_;rintro e w5 ⟨rfl,h5⟩;have S5:=Lib.hid (SH.out.call h5);have X5:=Lib.hid h5;have ML5:=fun N hN=>bmLess gb w5 N hN;clear h5)))
     go_roundw
     case rel=>exact⟨d,swapL Y k d,by omega,rfl,HPM.out.trans HP.out,HE.out,HT2.out,S7.out⟩
     case measure=>simp [intOf];omega
end
section
open Go Go.RowKit
attribute [local go_sem] Oper.semAt_some
theorem bheap_snoc {n:Nat} {X:List (Int × Int)} {x:Int × Int} (hn:n=X.length) (h:HeapN ltR n X):UpH ltR (n+1) n (X ++ [x]):=by
 refine up_start fun i h0 h1=>?_
 rw [nth_append_left _ _ _ (by omega),nth_append_left _ _ _ (by omega)]
 exact h i h0 h1
theorem bHeapPush (gb:Nat) (q:Option Addr) (n c:Nat) (X:List (Int × Int)) (x:Int × Int) (mo:Int) (w w0:World) (Γ:List Pc) (jb j:Nat) (S:Sep w0 w Γ) (hb:Γ[jb]?=some (.blk gb 301 #[.slice q n c,.int .i64 mo])) (hj:Γ[j]?=some (.own 329 2 q n c (encE X))) (hne:jb≠j) (hn:n≤90000) (hh:HeapN ltR n X) :
  Calls Tryz.prog 116 #[bhpV gb,bplV x] w fun e w'=>e=.returned (.tuple #[])∧∃ (q':Option Addr) (c':Nat) (X':List (Int × Int)),X'.Perm (X ++ [x])∧HeapN ltR (n+1) X'∧Sep w0 w' ((Γ.set j (.own 329 2 q' (n+1) c' (encE X'))).set jb (.blk gb 301 #[.slice q' (n+1) c',.int .i64 mo])):=by
 have HU:=Lib.hid (bheap_snoc (x:=x) (S.rd j hj (by omega)).nE hh)
 have HPU:=Lib.hid (bPush gb q n c X x mo w w0 Γ jb j S hb hj hne (by omega))
 have MP:=fun W N hN=>bmPush gb W N hN
 have HUP:=Lib.hid (fun q1 c1 w1 S1=>bUp gb q1 (n+1) c1 n (X ++ [x]) mo w1 w0 ((Γ.set j (.own 329 2 q1 (n+1) c1 (encE (X ++ [x])))).set jb (.blk gb 301 #[.slice q1 (n+1) c1,.int .i64 mo])) jb j S1 (pc_set (p:=.blk gb 301 #[.slice q n c,.int .i64 mo]) (by rw [List.getElem?_set_ne (fun e=>hne e.symm)];exact hb)) (by rw [List.getElem?_set_ne hne];exact pc_set hj) hne (by omega) (by omega) HU.out)
 have HB:=Lib.hid (fun q1 c1=>(pc_set (p:=.blk gb 301 #[.slice q n c,.int .i64 mo]) (q:=.blk gb 301 #[.slice q1 (n+1) c1,.int .i64 mo]) (by rw [List.getElem?_set_ne (fun e=>hne e.symm)];exact hb):((Γ.set j (.own 329 2 q1 (n+1) c1 (encE (X ++ [x])))).set jb (.blk gb 301 #[.slice q1 (n+1) c1,.int .i64 mo]))[jb]?=some _))
 clear S hb hj hh
 unfold bhpV bplV
 go_enter Tryz.func116,Tryz.ntmps116
 go_wp2_with (first
  | (go_at_call 190;go_must (refine(HUP.out q1 c1 w1 S1.out).mono ?_;rintro e w2 ⟨rfl,X',k1,k2,k3⟩;rw [set_two (fun e=>hne e.symm)] at k3;have K1:=Lib.hid k1;have K2:=Lib.hid k2;have S2:=Lib.hid k3;clear k1 k2 k3))
  | (go_at_call 285;go_must (refine(bLen gb _ _ _ mo _ (S1.out.blk jb (HB.out q1 c1)) (by omega)).mono ?_;rintro e wl ⟨rfl,hw⟩;have hw:=hw.symm;subst hw))
  | (go_at_call 377;go_must (refine HPU.out.mono ?_;rintro e w1 ⟨rfl,q1,c1,T⟩;have ML:=fun N hN=>bmLen gb w1 N hN;have S1:=Lib.hid T;clear T)))
 go_end0
 exact⟨rfl,q1,c1,X',K1.out,K2.out,S2.out⟩
theorem bHeapPop (gb:Nat) (q:Option Addr) (n c:Nat) (X:List (Int × Int)) (mo:Int) (w w0:World) (Γ:List Pc) (jb j:Nat) (S:Sep w0 w Γ) (hb:Γ[jb]?=some (.blk gb 301 #[.slice q (n+1) c,.int .i64 mo])) (hj:Γ[j]?=some (.own 329 2 q (n+1) c (encE X))) (hne:jb≠j) (hn:n≤90000) (hh:HeapN ltR (n+1) X) :
  Calls Tryz.prog 137 #[bhpV gb] w fun e w'=>e=.returned (bplV (nth X 0))∧∃ X':List (Int × Int),(nth X 0 :: X').Perm X∧HeapN ltR n X'∧Sep w0 w' ((Γ.set j (.own 329 2 q n c (encE X'))).set jb (.blk gb 301 #[.slice q n c,.int .i64 mo])):=by
 have hnX:=(S.rd j hj (by omega)).nE
 have HNX:=Lib.hid hnX
 have HB0:=Lib.hid (S.blk jb hb)
 have ML:=fun N hN=>bmLen gb w N hN
 have MS:=fun N hN=>bmSwap gb w N hN
 have MP:=fun W N hN=>bmPop gb W N hN
 have HSW:=Lib.hid (bSwap gb q (n+1) c X 0 n mo w w0 Γ jb j S hb hne hj (by omega) (by omega) (by omega))
 have HDN:=Lib.hid (fun w1 S1=>bDown gb q n (n+1) c (swapL X 0 n) mo w1 w0 (Γ.set j (.own 329 2 q (n+1) c (encE (swapL X 0 n)))) jb j S1 (by rw [List.getElem?_set_ne (fun e=>hne e.symm)];exact hb) (pc_set hj) hne (by omega) (by omega) (dn_start hnX.symm hh))
 have HPO:=Lib.hid (fun w2 Y S2=>bPop gb q n c Y mo w2 w0 (Γ.set j (.own 329 2 q (n+1) c (encE Y))) jb j S2 (by rw [List.getElem?_set_ne (fun e=>hne e.symm)];exact hb) (pc_set hj) hne (by omega))
 have HN0:Hid (nth (swapL X 0 n) n=nth X 0):=by unfold Hid;rw [swapL_nth (by omega),if_pos rfl]
 have HPM:=Lib.hid (swapL_perm (X:=X) (i:=0) (j:=n) (by omega) (by omega))
 clear S hb hj hh hnX
 unfold bhpV
 go_enter Tryz.func137,Tryz.ntmps137
 go_wp2_with (first
  | (go_at_call 376;go_must (refine(HPO.out w2 X' S2.out).mono ?_;rintro e w3 ⟨rfl,T⟩;rw [List.set_set] at T;have S3:=Lib.hid T;clear T))
  | (go_at_call 203;go_must (refine(HDN.out w1 S1.out).mono ?_;rintro e w2 ⟨bb,rfl,X',k1,k2,k3,k4⟩;rw [List.set_set] at k4;have K1:=Lib.hid k1;have K2:=Lib.hid k2;have K3:=Lib.hid (k3 n (Nat.le_refl _) (by omega));have S2:=Lib.hid k4;clear k1 k2 k3 k4))
  | (go_at_call 378;go_must (refine HSW.out.mono ?_;rintro e w1 ⟨rfl,T⟩;have S1:=Lib.hid T;clear T))
  | (go_at_call 285;go_must (refine(bLen gb _ _ _ mo _ (HB0.out) (by omega)).mono ?_;rintro e wl ⟨rfl,hw⟩;have hw:=hw.symm;subst hw)))
 go_ret
 have e0:nth X' n=nth X 0:=K3.out.trans HN0.out
 refine⟨by rw [e0];rfl,X'.take n,?_,heap_take K2.out ?_,S3.out⟩
 ·exact pop_perm HNX.out.symm (K1.out.trans HPM.out) e0
 ·rw [K1.out.length_eq,HPM.out.length_eq,← HNX.out];omega
end
section
open Go Go.RowKit
theorem btaPop (a b:Int) (W:World):(Instr.typeAssert (bplV (a,b)) 20 329 true).run Tryz.prog W=.ok (.tuple #[.agg #[.int .i64 a,.int .i64 b],.bool true]) W:=btaHit a b W
theorem pc_set2 {Γ:List Pc} {j jb:Nat} {a b c:Pc} (_:jb≠j) (hb:Γ[jb]?=some c):((Γ.set j a).set jb b)[jb]?=some b:=by
 rw [List.getElem?_set_self]
 rw [List.length_set]
 exact(List.getElem?_eq_some_iff.1 hb).1
theorem pc_setj {Γ:List Pc} {j jb:Nat} {a b c:Pc} (h:jb≠j) (hj:Γ[j]?=some c):((Γ.set j a).set jb b)[j]?=some a:=by
 rw [List.getElem?_set_ne h,List.getElem?_set_self]
 exact(List.getElem?_eq_some_iff.1 hj).1
theorem set_set2 {Γ:List Pc} {j jb:Nat} {a b a' b':Pc} (h:jb≠j):(((Γ.set j a).set jb b).set j a').set jb b'=(Γ.set j a').set jb b':=by
 rw [List.set_comm (l:=Γ.set j a) _ _ h,List.set_set,List.set_set]
theorem bLast (gb:Nat) (q:Option Addr) (n c:Nat) (X:List (Int × Int)) (mo:Int) (w w0:World) (Γ:List Pc) (jb j:Nat) (S:Sep w0 w Γ) (hb:Γ[jb]?=some (.blk gb 301 #[.slice q (n+1) c,.int .i64 mo])) (hj:Γ[j]?=some (.own 329 2 q (n+1) c (encE X))) (hne:jb≠j) (hn:n≤90000) (hh:HeapN ltR (n+1) X) :
  Calls Tryz.prog 270 #[.pointer (some ⟨gb,0,none⟩)] w fun e w'=>e=.returned (.agg #[.int .i64 (nth X 0).1,.int .i64 (nth X 0).2])∧∃ X':List (Int × Int),(nth X 0 :: X').Perm X∧HeapN ltR n X'∧Sep w0 w' ((Γ.set j (.own 329 2 q n c (encE X'))).set jb (.blk gb 301 #[.slice q n c,.int .i64 mo])):=by
 have S0:=Lib.hid (S.al #[.int .i64 0,.int .i64 0] 105 w.heap.size rfl)
 have HP:=Lib.hid (bHeapPop gb q n c X mo _ w0 _ (jb+1) (j+1) S0.out hb hj (by omega) hn hh)
 have TA:=btaPop (nth X 0).1 (nth X 0).2
 have HX:Hid (bplV (nth X 0)=bplV ((nth X 0).1,(nth X 0).2)):=rfl
 clear S hb hj hh
 go_enter Tryz.func270,Tryz.ntmps270
 go_wp2_with (go_at_call 137;go_must (refine HP.out.mono ?_;rintro e w1 ⟨rfl,X',k1,k2,k3⟩;rw [HX.out];have K1:=Lib.hid k1;have K2:=Lib.hid k2;have S1:=Lib.hid k3;obtain⟨a0,a1,az,f0,f1⟩:=bkc0c1lz0z1 (k3.blk 0 rfl);clear k1 k2 k3))
 have S9:=Lib.hid (((S1.out.set 0 rfl 0 (.int .i64 (nth X 0).1)).set 0 rfl 1 (.int .i64 (nth X 0).2)).junk (.cells #[.int .i64 (nth X 0).1,.int .i64 (nth X 0).2] 329))
 obtain⟨x0,x1⟩:=bkc0c1 (S9.out.blk 0 rfl)
 refine bodyPost_ret (v:=.agg #[.int .i64 (nth X 0).1,.int .i64 (nth X 0).2]) (by simp [results,Tryz.results270,go_sem,x0,x1,Tryz.sizeOf105,Tryz.isAgg105]) rfl ⟨rfl,X',K1.out,K2.out,S9.out.sub (List.sublist_cons_self _ _)⟩
theorem qLen (gb:Nat) (q:Option Addr) (n c:Nat) (m:Int) (w:World) (hB:Blk w gb 301 #[.slice q n c,.int .i64 m]) (hn:n≤9223372036854775807):Calls Tryz.prog 269 #[.pointer (some ⟨gb,0,none⟩)] w fun e w'=>e=.returned (.int .i64 n)∧w'=w:=by
 have HL:=Lib.hid (bLen gb q n c m w hB hn)
 have bz:=hB.lt
 clear hB
 go_enter Tryz.func269,Tryz.ntmps269
 go_wp2_with (go_at_call 285;go_must (refine HL.out.mono ?_;rintro e w1 ⟨rfl,hw⟩;have hw:=hw.symm;subst hw))
 go_ret
 exact⟨rfl,rfl⟩
theorem qPut (gb:Nat) (q:Option Addr) (n c:Nat) (X p:List (Int × Int)) (x:Int × Int) (mo:Nat) (w w0:World) (Γ:List Pc) (jb j:Nat) (S:Sep w0 w Γ) (hb:Γ[jb]?=some (.blk gb 301 #[.slice q n c,.int .i64 (mo:Int)])) (hj:Γ[j]?=some (.own 329 2 q n c (encE X))) (hne:jb≠j) (hn:n≤80000) (hh:HeapN ltR n X) (hp:X.Perm ((sortN p).take mo)) :
  Calls Tryz.prog 235 #[.pointer (some ⟨gb,0,none⟩),.agg #[.int .i64 x.1,.int .i64 x.2]] w fun e w'=>(∃ v,e=.returned v)∧∃ (q':Option Addr) (n' c':Nat) (X':List (Int × Int)),n'≤n+1∧HeapN ltR n' X'∧X'.Perm ((sortN (p ++ [x])).take mo)∧Sep w0 w' ((Γ.set j (.own 329 2 q' n' c' (encE X'))).set jb (.blk gb 301 #[.slice q' n' c',.int .i64 (mo:Int)])):=by
 have hnX:n=X.length:=(S.rd j hj (by omega)).nE
 have HNX:=Lib.hid hnX
 have S0:=Lib.hid ((S.al #[.int .i64 x.1,.int .i64 x.2] 105 w.heap.size rfl).al #[.int .i64 0,.int .i64 0] 105 (w.heap.size+1) (by simp))
 have HPU:=Lib.hid (fun D SD=>bHeapPush gb q n c X x mo D w0 (.blk (w.heap.size+1) 105 #[.int .i64 0,.int .i64 0] :: .blk w.heap.size 105 #[.int .i64 x.1,.int .i64 x.2] :: Γ) (jb+1+1) (j+1+1) SD hb hj (by omega) (by omega) hh)
 clear S hh hnX
 go_enter Tryz.func235,Tryz.ntmps235
 go_wp2
 obtain⟨Y,hY⟩:∃ Y,Y=(w.alloc (.cells #[.int .i64 x.1,.int .i64 x.2] 105)).alloc (.cells #[.int .i64 0,.int .i64 0] 105):=⟨_,rfl⟩
 rw [← hY] at S0 ⊢
 clear hY
 have h0:Y.cell? ⟨w.heap.size,0,none⟩=some (.int .i64 x.1):=(S0.out.blk 1 rfl).cell 0
 have h1:Y.cell? ⟨w.heap.size,1,none⟩=some (.int .i64 x.2):=(S0.out.blk 1 rfl).cell 1
 refine wp_region_noPanic ?_
 refine wp_region_held_drew (S:=fun w'=>w'.cell? ⟨w.heap.size,0,none⟩=some (.int .i64 x.1)∧w'.cell? ⟨w.heap.size,1,none⟩=some (.int .i64 x.2)) (by kernel_rfl) ⟨h0,h1⟩ (fun hHeld=>?_)
 have SD:=Lib.hid S0.out.drew
 clear S0 h0 h1
 generalize Y.drew=D at SD hHeld ⊢
 refine wpAnyH_take (i:=0) (v:=.pointer (some ⟨gb,0,none⟩)) rfl (by kernel_rfl) (by kernel_rfl) (by kernel_rfl) (noPanic_q _ _) (Or.inl ⟨by kernel_rfl,fun W hSw=>by obtain⟨h1,h2⟩:=hSw;go_simp⟩) hHeld ?_
 refine wpAnyH_take (i:=1) (v:=.pointer (some ⟨gb,0,none⟩)) rfl (by kernel_rfl) (by kernel_rfl) (by kernel_rfl) (noPanic_q _ _) (Or.inl ⟨by kernel_rfl,fun W hSw=>by obtain⟨h1,h2⟩:=hSw;go_simp⟩) hHeld ?_
 refine wpAnyH_take (i:=2) (v:=.pointer (some ⟨gb,0,none⟩)) rfl (by kernel_rfl) (by kernel_rfl) (by kernel_rfl) (noPanic_q _ _) (Or.inl ⟨by kernel_rfl,fun W hSw=>by obtain⟨h1,h2⟩:=hSw;go_simp⟩) hHeld ?_
 refine wpAnyH_take (i:=3) (v:=.iface 328 (.pointer (some ⟨gb,0,none⟩))) rfl (by kernel_rfl) (by kernel_rfl) (by kernel_rfl) (noPanic_q _ _) (Or.inl ⟨by kernel_rfl,fun W hSw=>by obtain⟨h1,h2⟩:=hSw;go_simp⟩) hHeld ?_
 refine wpAnyH_take (i:=4) (v:=.agg #[.int .i64 x.1,.int .i64 x.2]) rfl (by kernel_rfl) (by kernel_rfl) (by kernel_rfl) (noPanic_q _ _) (Or.inl ⟨by kernel_rfl,fun W hSw=>by obtain⟨h1,h2⟩:=hSw;go_simp⟩) hHeld ?_
 refine wpAnyH_take (i:=5) (v:=.iface 329 (.agg #[.int .i64 x.1,.int .i64 x.2])) rfl (by kernel_rfl) (by kernel_rfl) (by kernel_rfl) (noPanic_q _ _) (Or.inl ⟨by kernel_rfl,fun W hSw=>by obtain⟨h1,h2⟩:=hSw;go_simp⟩) hHeld ?_
 refine wpAnyH_ready (rs:=[6]) (by kernel_rfl) (by simp) (AllReadyH.cons rfl (fun K hK=>?_) AllReadyH.nil)
 go_simp
 refine(HPU.out _ SD.out).mono ?_
 rintro e w1 ⟨rfl,q1,c1,X1,k1,k2,k3⟩
 have K1:=Lib.hid k1
 have K2:=Lib.hid k2
 have S1:=Lib.hid k3
 refine hK.out _ _ ⟨(k3.blk 1 rfl).cell 0,(k3.blk 1 rfl).cell 1⟩ (fun hHeld=>?_)
 clear hK k1 k2 k3 SD HPU
 refine wpAnyH_done (by kernel_rfl) ?_ _
 refine noPanic_mk ?_
 clear hHeld
 go_wp2
 have HB1:=Lib.hid (S1.out.blk (jb+1+1) (pc_set2 (by omega) hb))
 have b1:w1.cell? ⟨gb,1,none⟩=some (.int .i64 (mo:Int)):=HB1.out.cell 1
 have HQ:=Lib.hid (fun (y:ExtOf w1)=>(qLen gb q1 (n+1) c1 mo y.val (HB1.out.ext y.ext) (by omega)).mono fun e w' (h:e=.returned (.int .i64 ((n+1:Nat):Int))∧w'=y.val)=>(⟨h.1,h.2 ▸ Below.refl _ _⟩:e=.returned (.int .i64 ((n+1:Nat):Int))∧Ext y.val w'))
 have u1:=fun x:ExtOf w1=>x.ext.cell b1
 by_cases hle:n+1≤mo
 ·have e1:decide ((n:Int)+1≤(mo:Int))=true:=by simp;omega
  refine wp_region_ext (by kernel_rfl) (by kernel_rfl) ?_
  repeat (go_big_quiet_step (((go_at_call 269;exact Calls.ext_of (HQ.out _)))))
  refine wpQuiet_nil ?_
  rintro w9 ⟨⟨_,hb9⟩,rfl⟩
  have S2:=Lib.hid (S1.out.call hb9)
  have HRES:=Lib.hid (first_room hp K1.out (by rw [K1.out.length_eq,List.length_append,List.length_singleton,← HNX.out];exact hle))
  obtain⟨a0,a1,az,f0,f1⟩:=bkc0c1lz0z1 (S2.out.blk 0 rfl)
  have S9:=Lib.hid ((S2.out.set 0 rfl 0 (.int .i64 0)).set 0 rfl 1 (.int .i64 0))
  obtain⟨x0,x1⟩:=bkc0c1 (S9.out.blk 0 rfl)
  clear HB1 HQ b1 u1 hb9 S1 hp
  go_wp2
  refine bodyPost_ret (v:=.tuple #[.agg #[.int .i64 0,.int .i64 0],.bool false]) (by simp [results,Tryz.results235,go_sem,x0,x1,Tryz.sizeOf105,Tryz.isAgg105]) rfl ⟨⟨_,rfl⟩,q1,n+1,c1,X1,Nat.le_refl _,K2.out,HRES.out,(S9.out.sub (List.sublist_cons_self _ _)).sub (List.sublist_cons_self _ _)⟩
 ·have e1:decide ((n:Int)+1≤(mo:Int))=false:=by simp;omega
  refine wp_region_ext (by kernel_rfl) (by kernel_rfl) ?_
  repeat (go_big_quiet_step (((go_at_call 269;exact Calls.ext_of (HQ.out _)))))
  refine wpQuiet_nil ?_
  rintro w9 ⟨⟨_,hb9⟩,rfl⟩
  have S2:=Lib.hid (S1.out.call hb9)
  have HL1:Hid (X1.length=n+1):=by unfold Hid;rw [K1.out.length_eq,List.length_append,List.length_singleton,← HNX.out]
  have HMIN:Hid (∀ b∈X1,ltN (nth X1 0) b=false):=fun b hb=>by
   obtain⟨i,hi,rfl⟩:=List.mem_iff_getElem.1 hb
   have:=heap_min stoR K2.out i (by rw [← HL1.out];exact hi)
   rw [nth_eq hi] at this
   exact this
  have HLA:=Lib.hid (bLast gb q1 n c1 X1 mo w9 w0 _ (jb+1+1) (j+1+1) S2.out (pc_set2 (by omega) hb) (pc_setj (by omega) hj) (by omega) (by omega) K2.out)
  clear HB1 HQ b1 u1 hb9 S1 S2
  have hne2:jb+1+1≠j+1+1:=by omega
  go_wp2_with (go_at_call 270;go_must (refine HLA.out.mono ?_;rintro e w3 ⟨rfl,X2,k1,k2,k3⟩;rw [set_set2 hne2] at k3;have J1:=Lib.hid k1;have J2:=Lib.hid k2;have S2:=Lib.hid k3;clear k1 k2 k3;obtain⟨a0,a1,az,f0,f1⟩:=bkc0c1lz0z1 (S2.out.blk 0 rfl)))
  have HRES:=Lib.hid (first_full hp K1.out (by rw [HL1.out];omega) HMIN.out J1.out)
  have S9:=Lib.hid ((S2.out.set 0 rfl 0 (.int .i64 (nth X1 0).1)).set 0 rfl 1 (.int .i64 (nth X1 0).2))
  obtain⟨x0,x1⟩:=bkc0c1 (S9.out.blk 0 rfl)
  refine bodyPost_ret (v:=.tuple #[.agg #[.int .i64 (nth X1 0).1,.int .i64 (nth X1 0).2],.bool true]) (by simp [results,Tryz.results235,go_sem,x0,x1,Tryz.sizeOf105,Tryz.isAgg105]) rfl ⟨⟨_,rfl⟩,q1,n,c1,X2,by omega,J2.out,HRES.out,(S9.out.sub (List.sublist_cons_self _ _)).sub (List.sublist_cons_self _ _)⟩
end
section
open Go Go.RowKit Go.Shelf Go.Lib Go.Sort
theorem bToL (x y:Int × Int) (W:World):Calls Tryz.prog 273 #[.agg #[.int .i64 x.1,.int .i64 x.2],.agg #[.int .i64 y.1,.int .i64 y.2]] W fun e w'=>e=.returned (.int .i64 (cmpN x y))∧∃ q os',w'=grow (W.drewN q) os':=by
 refine(bTo x y W).mono ?_
 rintro e w' ⟨rfl,rfl⟩
 refine⟨rfl,0,#[.cells #[.int .i64 x.1,.int .i64 x.2] 329,.cells #[.int .i64 y.1,.int .i64 y.2] 329],?_⟩
 rw [alloc_eq_grow,alloc_eq_grow,grow_grow]
 rfl
theorem ltOf_cmpN (x y:Int × Int):ltOf cmpN x y=ltN x y:=cmpN_neg x y
theorem swoH:SWO (ltOf cmpN) where
 irrefl x:=by rw [ltOf_cmpN];exact stoN.irrefl _
 trans x y z h1 h2:=by rw [ltOf_cmpN] at *;exact stoN.trans _ _ _ h1 h2
 ntrans x y z h1 h2:=by rw [ltOf_cmpN] at *;rw [ltN_no] at *;omega
theorem totH (x y:Int × Int) (h1:ltOf cmpN x y=false) (h2:ltOf cmpN y x=false):x=y:=by
 rw [ltOf_cmpN] at *;exact stoN.tri _ _ h1 h2
theorem sortBy_sorts (l:List (Int × Int)):SortsN (sortBy ltN l)∧(sortBy ltN l).Perm l:=by
 refine⟨?_,List.mergeSort_perm l _⟩
 have:=List.pairwise_mergeSort (le:=fun x y:Int × Int=>!ltN y x) (fun a b c h k=>by
  simp only [Bool.not_eq_true'] at *
  exact stoN.le_trans h k) (fun a b=>by
  cases h:ltN b a with
  | false=>rfl
  | true=>rw [stoN.asymm h];rfl) l
 exact this.imp fun {a b} h=>by simpa using h
theorem SortH (base:Nat) (q:Option Addr) (n c:Nat) (l:List (Int × Int)) (w:World) (ho:w.ownsRow base 329 2 (.slice q n c) n (encE l)) (hn:n≤1000000) (hb:base≤w.heap.size) :
  Calls Tryz.prog 272 #[.slice q n c,.func (.func 273) #[] #[]] w fun e w' =>
   e=.returned (.tuple #[])∧w'.ownsRow base 329 2 (.slice q n c) n (encE (sortBy ltN l))∧w.grownBy w' (blkOf q):=by
 have hl:n=l.length:=by have:=ho.1;rw [encE_len] at this;omega
 by_cases h0:n=0
 ·subst h0
  have hnil:l=[]:=List.eq_nil_of_length_eq_zero hl.symm
  subst hnil
  refine(AnyF.slices_SortFunc_none { Tryz.sortH with } q c (.func (.func 273) #[] #[]) w).mono ?_
  rintro e w' ⟨he,rfl⟩
  exact⟨he,by simpa [sortBy] using ho,World.grownBy.refl _ _⟩
 ·obtain⟨g,hq,hg⟩:=own_block ho h0
  subst hq
  have eg:∀ args w,(callFunc 273 args).run Tryz.prog w=.ok (.enter 273 args) w:=enters_of Tryz.func273 (by kernel_rfl) rfl
  have hH:HoldsK encP 2 w g 0 l.toArray:=by
   intro j hj
   have hj2:j<n*2:=by simp at hj;omega
   have r:=Rd.of_own ho (by omega)
   have hc:=r.cells j hj2
   rw [adr_some] at hc
   have hv:(flatK encP 2 l.toArray)[j]! = (encE l).getD j undef:=by
    rw [getElem!_pos _ j hj,← flatK_encP,List.getD_eq_getElem?_getD,Array.getElem?_toList,Array.getElem?_eq_getElem hj];rfl
   refine⟨by rw [hv];exact hc,?_⟩
   rcases ho.2 with ⟨h1,_⟩ | ⟨g',cap,cur,h1,_,hh,_⟩
   ·cases h1
   ·injection h1 with h1;injection h1 with h1;injection h1 with h1;subst h1
    simp [World.frozen?,hh]
  have hcon:=AnyQ.slices_SortFunc_total Tryz.sortH 2 Tryz.isAgg329 Tryz.sizeOf329 encP (fun _=>rfl) (fun x v hv=>by simp [encP] at hv;rcases hv with rfl | rfl <;> rfl) cmpN swoH 273 #[] g 0 c l.toArray w eg
   (fun m os dk hs x y=>bToL x y _) hH hg (by simp;omega) totH
  have hsz:l.toArray.size=n:=by simp [hl]
  rw [hsz] at hcon
  refine hcon.mono ?_
  rintro e w' ⟨he,m,os,rfl⟩
  have e1:(fun x y=>!(ltOf cmpN) y x)=fun x y:Int × Int=>!ltN y x:=by funext x y;rw [ltOf_cmpN]
  have e2:(flatK encP 2 (l.toArray.toList.mergeSort fun x y=>!(ltOf cmpN) y x).toArray)=(encE (sortBy ltN l)).toArray:=by
   apply Array.toList_inj.1
   rw [flatK_encP,e1];rfl
  have hp:=own_put ho (ys:=encE (sortBy ltN l)) (by rw [encE_len,sortBy_len,hl]) m os
  have e3:sortWorldK encP 2 w g 0 m (l.toArray.toList.mergeSort fun x y=>!(ltOf cmpN) y x).toArray os=grow (putRow id (Sort.ahead w m) g 0 (encE (sortBy ltN l)).toArray) os:=by
   unfold sortWorldK putRowK;rw [e2]
  rw [e3]
  exact⟨he,hp.1,hp.2⟩
theorem SortH_sep {w0 w:World} {Γ:List Pc} (S:Sep w0 w Γ) (j:Nat) {q:Option Addr} {n c:Nat} {l:List (Int × Int)} (hj:Γ[j]?=some (.own 329 2 q n c (encE l))) (hn:n≤1000000) :
  Calls Tryz.prog 272 #[.slice q n c,.func (.func 273) #[] #[]] w fun e w'=>e=.returned (.tuple #[])∧Sep w0 w' (Γ.set j (.own 329 2 q n c (encE (sortBy ltN l)))) :=
 (SortH _ q n c l w (S.own j hj) hn S.ext.size).mono fun _ _ ⟨he,ho,hg⟩=>⟨he,S.put j hj _ hg (fun _ hk=>hk) (own_base ho (Nat.zero_le _)) fun _ hk=>.inl hk⟩
theorem CloneH (p:Option Addr) (n c:Nat) (l:List (Int × Int)) (w:World) (hl:Rd w 2 p n (encE l)) (hn:n≤100000) :
  Calls Tryz.prog 271 #[.slice p n c] w fun e w'=>∃ q c',e=.returned (.slice q n c')∧Sep w w' [.own 329 2 q n c' (encE l)]:=by
 obtain⟨i0,hi0,hz0,hz1,hz2⟩:=info_parts infBh
 have hp:=hl.ptr
 cases p with
 | none =>
  have h0:n=0:=by rcases hp with h | ⟨_,_,h⟩;exact h;cases h
  subst h0
  have hnil:encE l=[]:=List.eq_nil_of_length_eq_zero (by have:=hl.len;simpa using this)
  rw [hnil]
  clear hl hp hnil
  have hr:=fun W=>Lib.run_eql_slice_nil (P:=Tryz.prog) W 297 329 none 0 c 0 0 Tryz.underlying297
  go_enter Tryz.func271,Tryz.ntmps271
  go_wp2
  go_ret
  exact⟨none,0,rfl,(Sep.start w).nilrow _ _⟩
 | some ad =>
  have hr:=fun W=>Lib.run_eql_slice_nil (P:=Tryz.prog) W 297 329 (some ad) n c 0 0 Tryz.underlying297
  have HL:=Lib.hid hl;clear hl hp
  go_enter Tryz.func271,Tryz.ntmps271
  go_wp2_with (at_builtin;refine wpList_append_rd rfl _ _ _ rfl w.heap.size 329 i0 _ 2 16 Tryz.underlying297 hi0 hz0 hz1 hz2 rfl (by omega) (some ⟨w.heap.size,0,none⟩) 0 0 [] rfl (World.ownsRow_made w #[] 0 (Nat.le_refl _) (by simp [maxLen]) rfl) (some ad) n c (encE l) rfl (HL.out.ext (Ext.alloc (Below.refl _ _) _)) (one_encE l) (by omega) (by omega) (by simp) ?_;intro q' c' w1 hown hg hat hb)
  go_ret
  simp only [Nat.zero_add,List.nil_append] at hown
  exact⟨q',c',rfl,Sep.of_own (Below.trans ((Below.refl _ _).alloc (Nat.le_refl _) _) hb) hown⟩
end
section
open Go Go.RowKit Go.Shelf Go.Lib Go.Sort
def cmpK (a b:Ky):Int:=orI (cmpI a.s b.s) (orI (cmpI a.r b.r) (cmpI a.v b.v))
theorem OrInt3 (b:Nat) (x y z:Int) (w:World) (h0:w.cell? ⟨b,0,none⟩=some (.int .i64 x)) (h1:w.cell? ⟨b,1,none⟩=some (.int .i64 y)) (h2:w.cell? ⟨b,2,none⟩=some (.int .i64 z)) :
  Calls Tryz.prog 216 #[.slice (some ⟨b,0,none⟩) 3 3] w fun e w'=>e=.returned (.int .i64 (orI x (orI y z)))∧w'=w:=by
 by_cases hx:x=0
 ·have hx2:(x != 0)=false:=by simp [hx]
  by_cases hy:y=0
  ·have hy2:(y != 0)=false:=by simp [hy]
   have HF:Hid (orI x (orI y z)=z):=by unfold Hid orI;rw [if_pos hx,if_pos hy]
   have HX:=Lib.hid hx;clear hx
   have HY:=Lib.hid hy;clear hy
   by_cases hz:z=0
   ·have hz2:(z != 0)=false:=by simp [hz]
    have HZ:=Lib.hid hz;clear hz
    go_enter Tryz.func216,Tryz.ntmps216
    go_wp2
    refine wp_loop_rounds 4 ?_
    rw [rounds_succ]
    go_wp2
    rw [rounds_succ]
    go_wp2
    rw [rounds_succ]
    go_wp2
    rw [rounds_succ]
    go_wp2
    go_ret
    exact⟨ret_int (by rw [HF.out,HZ.out]),rfl⟩
   ·have hz2:(z != 0)=true:=by simp [hz]
    have HZ:=Lib.hid hz;clear hz
    go_enter Tryz.func216,Tryz.ntmps216
    go_wp2
    refine wp_loop_rounds 3 ?_
    rw [rounds_succ]
    go_wp2
    rw [rounds_succ]
    go_wp2
    rw [rounds_succ]
    go_wp2
    go_ret
    exact⟨ret_int HF.out.symm,rfl⟩
  ·have hy2:(y != 0)=true:=by simp [hy]
   have HF:Hid (orI x (orI y z)=y):=by unfold Hid orI;rw [if_pos hx,if_neg hy]
   have HX:=Lib.hid hx;clear hx
   have HY:=Lib.hid hy;clear hy
   go_enter Tryz.func216,Tryz.ntmps216
   go_wp2
   refine wp_loop_rounds 2 ?_
   rw [rounds_succ]
   go_wp2
   rw [rounds_succ]
   go_wp2
   go_ret
   exact⟨ret_int HF.out.symm,rfl⟩
 ·have hx2:(x != 0)=true:=by simp [hx]
  have HF:Hid (orI x (orI y z)=x):=by unfold Hid orI;rw [if_neg hx]
  have HX:=Lib.hid hx;clear hx
  go_enter Tryz.func216,Tryz.ntmps216
  go_wp2
  refine wp_loop_rounds 1 ?_
  rw [rounds_succ]
  go_wp2
  go_ret
  exact⟨ret_int HF.out.symm,rfl⟩
theorem comparedG (x y:Ky) (W:World):Calls Tryz.prog 150 #[.agg #[.int .i64 x.s,.int .i64 x.r,.int .i64 x.v],.agg #[.int .i64 y.s,.int .i64 y.r,.int .i64 y.v]] W fun e w'=>e=.returned (.int .i64 (cmpK x y))∧∃ q os',w'=grow (W.drewN q) os':=by
 have HC1:=Lib.hid (fun W'=>CompareInt x.s y.s W')
 have HC2:=Lib.hid (fun W'=>CompareInt x.r y.r W')
 have HC3:=Lib.hid (fun W'=>CompareInt x.v y.v W')
 obtain⟨c1,h1⟩:∃ c,c=cmpI x.s y.s:=⟨_,rfl⟩
 obtain⟨c2,h2⟩:∃ c,c=cmpI x.r y.r:=⟨_,rfl⟩
 obtain⟨c3,h3⟩:∃ c,c=cmpI x.v y.v:=⟨_,rfl⟩
 rw [← h1] at HC1
 rw [← h2] at HC2
 rw [← h3] at HC3
 have HF:Hid (cmpK x y=orI c1 (orI c2 c3)):=by unfold Hid cmpK;rw [h1,h2,h3]
 clear h1 h2 h3
 have S0:=((Sep.start W).al #[.int .i64 x.s,.int .i64 x.r,.int .i64 x.v] 136 W.heap.size rfl).al #[.int .i64 y.s,.int .i64 y.r,.int .i64 y.v] 136 (W.heap.size+1) (by simp)
 go_enter Tryz.func150,Tryz.ntmps150
 go_wp2
 obtain⟨w0,hw0⟩:∃ w0,w0=(W.alloc (.cells #[.int .i64 x.s,.int .i64 x.r,.int .i64 x.v] 136)).alloc (.cells #[.int .i64 y.s,.int .i64 y.r,.int .i64 y.v] 136):=⟨_,rfl⟩
 rw [← hw0] at S0 ⊢
 obtain⟨a0,a1,a2⟩:=bkc0c1c2 (S0.blk 1 rfl)
 obtain⟨b0,b1,b2⟩:=bkc0c1c2 (S0.blk 0 rfl)
 simp at a0 a1 a2 b0 b1 b2
 clear S0
 have HW0:=Lib.hid hw0;clear hw0
 refine wp_region_still_tail 15 (by kernel_rfl) (by kernel_rfl) ?_
 simp only [List.take_succ_cons,List.take_zero,List.drop_succ_cons,List.drop_zero]
 iterate 4 still_step
 still_call (HC1.out _)
 iterate 4 still_step
 still_call (HC2.out _)
 iterate 4 still_step
 still_call (HC3.out _)
 refine wpStill_nil ?_
 change wpList _ _ _ _ _ w0.drew
 go_wp2_with (go_at_call 216;refine(OrInt3 _ c1 c2 c3 _ (by simp) (by simp) (by simp)).mono ?_;rintro e w' ⟨rfl,rfl⟩)
 go_ret
 exact⟨ret_int HF.out.symm,1,#[_,_,_],by rw [HW0.out];exact grow3 _ _ _ _⟩
end
section
open Go Go.RowKit Go.Shelf Go.Lib Go.Sort
theorem grow5 (W:World) (o1 o2 o3 o4 o5:Obj):(((((W.alloc o1).alloc o2).alloc o3).alloc o4).drew.alloc o5).drew=grow (W.drewN 2) #[o1,o2,o3,o4,o5]:=by
 have h:∀ (V:World) (o:Obj),V.drew.alloc o=(V.alloc o).drew:=fun _ _=>rfl
 have h2:∀ os,(grow W os).drew.drew=grow (W.drewN 2) os:=fun _=>rfl
 rw [h,alloc_eq_grow,alloc_eq_grow,alloc_eq_grow,alloc_eq_grow,alloc_eq_grow,grow_grow,grow_grow,grow_grow,grow_grow,h2]
 congr 1
theorem combCl (x y:Sq) (W:World):Calls Tryz.prog 243 #[.agg #[.int .i64 x.s,.int .i64 x.r,.int .i64 x.v,.int .i64 x.d],.agg #[.int .i64 y.s,.int .i64 y.r,.int .i64 y.v,.int .i64 y.d]] W fun e w'=>e=.returned (.int .i64 (cmpK x.ky y.ky))∧∃ q os',w'=grow (W.drewN q) os':=by
 have HC1:=Lib.hid (fun W'=>CompareInt x.s y.s W')
 have HC2:=Lib.hid (fun W'=>CompareInt x.r y.r W')
 have HC3:=Lib.hid (fun W'=>CompareInt x.v y.v W')
 obtain⟨c1,h1⟩:∃ c,c=cmpI x.s y.s:=⟨_,rfl⟩
 obtain⟨c2,h2⟩:∃ c,c=cmpI x.r y.r:=⟨_,rfl⟩
 obtain⟨c3,h3⟩:∃ c,c=cmpI x.v y.v:=⟨_,rfl⟩
 rw [← h1] at HC1
 rw [← h2] at HC2
 rw [← h3] at HC3
 have HF:Hid (cmpK x.ky y.ky=orI c1 (orI c2 c3)):=by unfold Hid cmpK Sq.ky;rw [h1,h2,h3]
 clear h1 h2 h3
 have S0:=((Sep.start W).al #[.int .i64 x.s,.int .i64 x.r,.int .i64 x.v,.int .i64 x.d] 138 W.heap.size rfl).al #[.int .i64 y.s,.int .i64 y.r,.int .i64 y.v,.int .i64 y.d] 138 (W.heap.size+1) (by simp)
 go_enter Tryz.func243,Tryz.ntmps243
 go_wp2
 obtain⟨w0,hw0⟩:∃ w0,w0=(W.alloc (.cells #[.int .i64 x.s,.int .i64 x.r,.int .i64 x.v,.int .i64 x.d] 138)).alloc (.cells #[.int .i64 y.s,.int .i64 y.r,.int .i64 y.v,.int .i64 y.d] 138):=⟨_,rfl⟩
 rw [← hw0] at S0 ⊢
 obtain⟨a0,a1,a2⟩:=bkc0c1c2 (S0.blk 1 rfl)
 obtain⟨b0,b1,b2⟩:=bkc0c1c2 (S0.blk 0 rfl)
 have az:=(S0.blk 1 rfl).lt
 have bz:=(S0.blk 0 rfl).lt
 simp at a0 a1 a2 b0 b1 b2
 have HS:=Lib.hid S0
 clear S0
 have HW0:=Lib.hid hw0;clear hw0
 go_region
 ·obtain⟨w1,hw1⟩:∃ w1,w1=((w0.alloc (.cells #[.int .i64 x.s,.int .i64 x.r,.int .i64 x.v] 136)).alloc (.cells #[.int .i64 y.s,.int .i64 y.r,.int .i64 y.v] 136)).drew:=⟨_,rfl⟩
  rw [← hw1]
  have T:=(((Sep.start w0).al #[.int .i64 x.s,.int .i64 x.r,.int .i64 x.v] 136 w0.heap.size rfl).al #[.int .i64 y.s,.int .i64 y.r,.int .i64 y.v] 136 (w0.heap.size+1) (by simp)).drew
  rw [← hw1] at T
  obtain⟨k0,k1,k2⟩:=bkc0c1c2 (T.blk 1 rfl)
  obtain⟨l0,l1,l2⟩:=bkc0c1c2 (T.blk 0 rfl)
  simp at k0 k1 k2 l0 l1 l2
  have HW1:=Lib.hid hw1
  clear T hw1 a0 a1 a2 b0 b1 b2 az bz
  go_wp2
  refine wp_region_still_tail 15 (by kernel_rfl) (by kernel_rfl) ?_
  simp only [List.take_succ_cons,List.take_zero,List.drop_succ_cons,List.drop_zero]
  iterate 4 still_step
  still_call (HC1.out _)
  iterate 4 still_step
  still_call (HC2.out _)
  iterate 4 still_step
  still_call (HC3.out _)
  refine wpStill_nil ?_
  change wpList _ _ _ _ _ w1.drew
  go_wp2_with (go_at_call 216;refine(OrInt3 _ c1 c2 c3 _ (by simp) (by simp) (by simp)).mono ?_;rintro e w' ⟨rfl,rfl⟩)
  go_ret
  exact⟨ret_int HF.out.symm,2,#[_,_,_,_,_],by rw [HW1.out,HW0.out];exact grow5 _ _ _ _ _ _⟩
 ·obtain⟨w1,hw1⟩:∃ w1,w1=((w0.alloc (.cells #[.int .i64 y.s,.int .i64 y.r,.int .i64 y.v] 136)).alloc (.cells #[.int .i64 x.s,.int .i64 x.r,.int .i64 x.v] 136)).drew:=⟨_,rfl⟩
  rw [← hw1]
  have T:=(((Sep.start w0).al #[.int .i64 y.s,.int .i64 y.r,.int .i64 y.v] 136 w0.heap.size rfl).al #[.int .i64 x.s,.int .i64 x.r,.int .i64 x.v] 136 (w0.heap.size+1) (by simp)).drew
  rw [← hw1] at T
  obtain⟨k0,k1,k2⟩:=bkc0c1c2 (T.blk 0 rfl)
  obtain⟨l0,l1,l2⟩:=bkc0c1c2 (T.blk 1 rfl)
  simp at k0 k1 k2 l0 l1 l2
  have HW1:=Lib.hid hw1
  clear T hw1 a0 a1 a2 b0 b1 b2 az bz
  go_wp2
  refine wp_region_still_tail 15 (by kernel_rfl) (by kernel_rfl) ?_
  simp only [List.take_succ_cons,List.take_zero,List.drop_succ_cons,List.drop_zero]
  iterate 4 still_step
  still_call (HC1.out _)
  iterate 4 still_step
  still_call (HC2.out _)
  iterate 4 still_step
  still_call (HC3.out _)
  refine wpStill_nil ?_
  change wpList _ _ _ _ _ w1.drew
  go_wp2_with (go_at_call 216;refine(OrInt3 _ c1 c2 c3 _ (by simp) (by simp) (by simp)).mono ?_;rintro e w' ⟨rfl,rfl⟩)
  go_ret
  exact⟨ret_int HF.out.symm,2,#[_,_,_,_,_],by rw [HW1.out,HW0.out];exact grow5 _ _ _ _ _ _⟩
end
section
open Go Go.RowKit Go.Shelf Go.Lib Go.Sort
theorem grow_more {W W1 w':World} {os1:Array Obj} (h1:W1=grow W os1) (h:∃ q os',w'=grow (W1.drewN q) os'):∃ q os',w'=grow (W.drewN q) os':=by
 obtain⟨q,os',rfl⟩:=h
 refine⟨q,os1 ++ os',?_⟩
 rw [h1]
 show grow (grow (W.drewN q) os1) os'=_
 rw [grow_grow]
theorem stepCl (x y:Sq) (W:World):Calls Tryz.prog 149 #[.agg #[.int .i64 x.s,.int .i64 x.r,.int .i64 x.v,.int .i64 x.d],.agg #[.int .i64 y.s,.int .i64 y.r,.int .i64 y.v,.int .i64 y.d]] W fun e w'=>e=.returned (.int .i64 (cmpK x.ky y.ky))∧∃ q os',w'=grow (W.drewN q) os':=by
 have HC:=Lib.hid (fun W'=>comparedG x.ky y.ky W')
 have HW:Hid ((W.alloc (.cells #[.int .i64 x.s,.int .i64 x.r,.int .i64 x.v,.int .i64 x.d] 146)).alloc (.cells #[.int .i64 y.s,.int .i64 y.r,.int .i64 y.v,.int .i64 y.d] 146)=grow W #[.cells #[.int .i64 x.s,.int .i64 x.r,.int .i64 x.v,.int .i64 x.d] 146,.cells #[.int .i64 y.s,.int .i64 y.r,.int .i64 y.v,.int .i64 y.d] 146]):=by
  unfold Hid
  rw [alloc_eq_grow,alloc_eq_grow,grow_grow];rfl
 go_enter Tryz.func149,Tryz.ntmps149
 go_wp2_with (go_at_call 150;go_must (refine(HC.out _).mono ?_;rintro e w1 ⟨rfl,hg⟩;have HG:=Lib.hid (grow_more HW.out hg);clear hg))
 go_ret
 exact⟨rfl,HG.out⟩
theorem ltOf_cmpK (x y:Ky):ltOf cmpK x y=(decide (x.s<y.s) || (x.s == y.s && (decide (x.r<y.r) || (x.r == y.r && decide (x.v<y.v))))):=by
 unfold ltOf cmpK orI cmpI
 rw [Bool.eq_iff_iff]
 simp only [decide_eq_true_eq,Bool.or_eq_true,Bool.and_eq_true,beq_iff_eq]
 by_cases a:x.s<y.s <;> by_cases b:x.s=y.s <;> by_cases c:x.r<y.r <;> by_cases d:x.r=y.r <;> by_cases e:x.v<y.v <;> by_cases f:x.v=y.v <;> simp [a,b,c,d,e,f] <;> omega
theorem ltOf_ky (x y:Sq):ltOf cmpK x.ky y.ky=keyLt x y:=by rw [ltOf_cmpK];rfl
theorem ky_sq (κ:Ky) (d:Int):(⟨κ.s,κ.r,κ.v,d⟩:Sq).ky=κ:=rfl
theorem swoK:SWO (ltOf cmpK) where
 irrefl x:=by
  have:=ltOf_ky ⟨x.s,x.r,x.v,0⟩ ⟨x.s,x.r,x.v,0⟩
  rw [ky_sq,keyLt_irr] at this;exact this
 trans x y z h1 h2:=by
  have e1:=ltOf_ky ⟨x.s,x.r,x.v,0⟩ ⟨y.s,y.r,y.v,0⟩
  have e2:=ltOf_ky ⟨y.s,y.r,y.v,0⟩ ⟨z.s,z.r,z.v,0⟩
  have e3:=ltOf_ky ⟨x.s,x.r,x.v,0⟩ ⟨z.s,z.r,z.v,0⟩
  rw [ky_sq,ky_sq] at e1 e2 e3
  rw [e1] at h1;rw [e2] at h2;rw [e3]
  exact keyLt_trans h1 h2
 ntrans x y z h1 h2:=by
  have e1:=ltOf_ky ⟨x.s,x.r,x.v,0⟩ ⟨y.s,y.r,y.v,0⟩
  have e2:=ltOf_ky ⟨y.s,y.r,y.v,0⟩ ⟨z.s,z.r,z.v,0⟩
  have e3:=ltOf_ky ⟨x.s,x.r,x.v,0⟩ ⟨z.s,z.r,z.v,0⟩
  rw [ky_sq,ky_sq] at e1 e2 e3
  rw [e1] at h1;rw [e2] at h2;rw [e3]
  exact keyLt_le_trans h2 h1
theorem totK (x y:Ky) (h1:ltOf cmpK x y=false) (h2:ltOf cmpK y x=false):x=y:=by
 have e1:=ltOf_ky ⟨x.s,x.r,x.v,0⟩ ⟨y.s,y.r,y.v,0⟩
 have e2:=ltOf_ky ⟨y.s,y.r,y.v,0⟩ ⟨x.s,x.r,x.v,0⟩
 rw [ky_sq,ky_sq] at e1 e2
 rw [e1] at h1;rw [e2] at h2
 rcases keyLt_tri ⟨x.s,x.r,x.v,0⟩ ⟨y.s,y.r,y.v,0⟩ with h | h | h
 ·rw [h] at h1;cases h1
 ·exact ky_same.2 h
 ·rw [h] at h2;cases h2
def atKy (d:Ky→Int) (κ:Ky):Sq:=⟨κ.s,κ.r,κ.v,d κ⟩
def encKy (d:Ky→Int) (κ:Ky):List Value:=[.int .i64 κ.s,.int .i64 κ.r,.int .i64 κ.v,.int .i64 (d κ)]
def dOf (l:List Sq) (κ:Ky):Int:=match l.find? (fun x=>decide (x.ky=κ)) with | some x=>x.d | none=>0
theorem noTwo_keys {l:List Sq} (h:NoTwo l):∃ d:Ky→Int,l=(l.map Sq.ky).map (atKy d):=by
 refine⟨dOf l,?_⟩
 rw [List.map_map]
 apply List.ext_getElem
 ·simp
 ·intro i h1 h2
  have hf:l.find? (fun x=>decide (x.ky=l[i].ky))=some l[i]:=by
   cases hq:l.find? (fun x=>decide (x.ky=l[i].ky)) with
   | none =>
    have:=List.find?_eq_none.1 hq l[i] (List.getElem_mem _)
    simp at this
   | some y =>
    have h3:=List.find?_some hq
    have h4:=List.mem_of_find?_eq_some hq
    simp only [decide_eq_true_eq] at h3
    obtain⟨j,hj,rfl⟩:=List.mem_iff_getElem.1 h4
    have hij:j=i:=by
     rcases Nat.lt_trichotomy j i with hlt | he | hlt
     ·exact absurd (ky_same.1 h3) ((List.pairwise_iff_getElem.1 h) j i hj h1 hlt)
     ·exact he
     ·exact absurd (ky_same.1 h3.symm) ((List.pairwise_iff_getElem.1 h) i j h1 hj hlt)
    subst hij;rfl
  have hd:dOf l l[i].ky=l[i].d:=by unfold dOf;rw [hf]
  rw [List.getElem_map]
  show l[i]=⟨l[i].s,l[i].r,l[i].v,dOf l l[i].ky⟩
  rw [hd]
theorem enc_keys (d:Ky→Int) (ks:List Ky):encQ (ks.map (atKy d))=ks.flatMap (encKy d):=by
 unfold encQ
 rw [List.flatMap_map];rfl
theorem sort_keys (d:Ky→Int) (ks:List Ky):(ks.mergeSort fun x y=>!(ltOf cmpK) y x).map (atKy d)=sortK (ks.map (atKy d)):=by
 unfold sortK
 refine List.map_mergeSort (f:=atKy d) (r:=fun x y=>!(ltOf cmpK) y x) (s:=fun a b=>!keyLt b a) fun a _ b _=>?_
 show (!(ltOf cmpK) b a)=!keyLt (atKy d b) (atKy d a)
 rw [← ltOf_ky];rfl
theorem flatK_ky (d:Ky→Int) (ks:List Ky):(flatK (encKy d) 4 ks.toArray).toList=ks.flatMap (encKy d):=by
 rw [← enc_keys]
 apply List.ext_getElem?
 intro t
 by_cases ht:t<ks.length*4
 ·have h1:t<(flatK (encKy d) 4 ks.toArray).size:=by simp;omega
  have hk:t / 4<ks.length:=by omega
  have hx:(flatK (encKy d) 4 ks.toArray)[t]! = (encKy d (nth ks (t / 4)))[t % 4]!:=by
   rw [get_flatK (encKy d) 4 ks.toArray t (by simpa using ht)]
   have:ks.toArray[t / 4]! = nth ks (t / 4):=by rw [getElem!_pos _ _ (by simpa using hk),nth_eq hk];simp
   rw [this]
  have hy:=encQ_get (ks.map (atKy d)) (t / 4) (by rw [List.length_map];exact hk)
  have hn:nth (ks.map (atKy d)) (t / 4)=atKy d (nth ks (t / 4)):=by rw [nth_eq (by rw [List.length_map];exact hk),nth_eq hk];simp
  rw [hn] at hy
  rw [Array.getElem?_toList,Array.getElem?_eq_getElem h1,← getElem!_pos _ t h1,hx]
  have hl:=encQ_len (ks.map (atKy d))
  rw [List.length_map] at hl
  rw [List.getElem?_eq_getElem (by omega)]
  congr 1
  have hz:(encQ (ks.map (atKy d))).getD t undef=(encQ (ks.map (atKy d)))[t]'(by omega):=by rw [List.getD_eq_getElem?_getD,List.getElem?_eq_getElem (by omega)];rfl
  rw [← hz]
  have h5:t % 4=0∨t % 4=1∨t % 4=2∨t % 4=3:=by omega
  obtain⟨g1,g2,g3,g4⟩:=hy
  rcases h5 with h | h | h | h
  ·have e:t=t / 4*4:=by omega
   rw [h];conv=>rhs;rw [e]
   rw [g1];rfl
  ·have e:t=t / 4*4+1:=by omega
   rw [h];conv=>rhs;rw [e]
   rw [g2];rfl
  ·have e:t=t / 4*4+2:=by omega
   rw [h];conv=>rhs;rw [e]
   rw [g3];rfl
  ·have e:t=t / 4*4+3:=by omega
   rw [h];conv=>rhs;rw [e]
   rw [g4];rfl
 ·rw [List.getElem?_eq_none (by simp;omega),List.getElem?_eq_none (by rw [encQ_len,List.length_map];omega)]
theorem SortM (base:Nat) (q:Option Addr) (n c:Nat) (l:List Sq) (w:World) (ho:w.ownsRow base 138 4 (.slice q n c) n (encQ l)) (h2:NoTwo l) (hn:n≤1000000) (hb:base≤w.heap.size) :
  Calls Tryz.prog 242 #[.slice q n c,.func (.func 243) #[] #[]] w fun e w' =>
   e=.returned (.tuple #[])∧w'.ownsRow base 138 4 (.slice q n c) n (encQ (sortK l))∧w.grownBy w' (blkOf q):=by
 have hl:n=l.length:=by have:=ho.1;rw [encQ_len] at this;omega
 by_cases h0:n=0
 ·subst h0
  have hnil:l=[]:=List.eq_nil_of_length_eq_zero hl.symm
  subst hnil
  refine(AnyF.slices_SortFunc_none { Tryz.sortM with } q c (.func (.func 243) #[] #[]) w).mono ?_
  rintro e w' ⟨he,rfl⟩
  exact⟨he,by simpa [sortK] using ho,World.grownBy.refl _ _⟩
 ·obtain⟨g,hq,hg⟩:=own_block ho h0
  subst hq
  obtain⟨d,hd⟩:=noTwo_keys h2
  obtain⟨ks,hks⟩:∃ ks,ks=l.map Sq.ky:=⟨_,rfl⟩
  rw [← hks] at hd
  have hkl:ks.length=n:=by rw [hks,List.length_map,hl]
  have eg:∀ args w,(callFunc 243 args).run Tryz.prog w=.ok (.enter 243 args) w:=enters_of Tryz.func243 (by kernel_rfl) rfl
  have hH:HoldsK (encKy d) 4 w g 0 ks.toArray:=by
   intro j hj
   have hj2:j<n*4:=by simp at hj;omega
   have r:=Rd.of_own ho (by omega)
   have hc:=r.cells j hj2
   rw [adr_some] at hc
   have hv:(flatK (encKy d) 4 ks.toArray)[j]! = (encQ l).getD j undef:=by
    rw [getElem!_pos _ j hj,hd,enc_keys,← flatK_ky,List.getD_eq_getElem?_getD,Array.getElem?_toList,Array.getElem?_eq_getElem hj];rfl
   refine⟨by rw [hv];exact hc,?_⟩
   rcases ho.2 with ⟨h1,_⟩ | ⟨g',cap,cur,h1,_,hh,_⟩
   ·cases h1
   ·injection h1 with h1;injection h1 with h1;injection h1 with h1;subst h1
    simp [World.frozen?,hh]
  have hcon:=AnyQ.slices_SortFunc_total Tryz.sortM 4 Tryz.isAgg138 Tryz.sizeOf138 (encKy d) (fun _=>rfl) (fun x v hv=>by simp [encKy] at hv;rcases hv with rfl | rfl | rfl | rfl <;> rfl) cmpK swoK 243 #[] g 0 c ks.toArray w eg
   (fun m os dk hs x y=>combCl (atKy d x) (atKy d y) _) hH hg (by simp;omega) totK
  have hsz:ks.toArray.size=n:=by simp [hkl]
  rw [hsz] at hcon
  refine hcon.mono ?_
  rintro e w' ⟨he,m,os,rfl⟩
  have e2:(flatK (encKy d) 4 (ks.toArray.toList.mergeSort fun x y=>!(ltOf cmpK) y x).toArray)=(encQ (sortK l)).toArray:=by
   apply Array.toList_inj.1
   rw [flatK_ky,← enc_keys,sort_keys,← hd]
  have hp:=own_put ho (ys:=encQ (sortK l)) (by rw [encQ_len,sortK_len,hl]) m os
  have e3:sortWorldK (encKy d) 4 w g 0 m (ks.toArray.toList.mergeSort fun x y=>!(ltOf cmpK) y x).toArray os=grow (putRow id (Sort.ahead w m) g 0 (encQ (sortK l)).toArray) os:=by
   unfold sortWorldK putRowK;rw [e2]
  rw [e3]
  exact⟨he,hp.1,hp.2⟩
theorem SortM_sep {w0 w:World} {Γ:List Pc} (S:Sep w0 w Γ) (j:Nat) {q:Option Addr} {n c:Nat} {l:List Sq} (hj:Γ[j]?=some (.own 138 4 q n c (encQ l))) (h2:NoTwo l) (hn:n≤1000000) :
  Calls Tryz.prog 242 #[.slice q n c,.func (.func 243) #[] #[]] w fun e w'=>e=.returned (.tuple #[])∧Sep w0 w' (Γ.set j (.own 138 4 q n c (encQ (sortK l)))) :=
 (SortM _ q n c l w (S.own j hj) h2 hn S.ext.size).mono fun _ _ ⟨he,ho,hg⟩=>⟨he,S.put j hj _ hg (fun _ hk=>hk) (own_base ho (Nat.zero_le _)) fun _ hk=>.inl hk⟩
theorem SortX (base:Nat) (q:Option Addr) (n c:Nat) (l:List Sq) (w:World) (ho:w.ownsRow base 146 4 (.slice q n c) n (encQ l)) (h2:NoTwo l) (hn:n≤1000000) (hb:base≤w.heap.size) :
  Calls Tryz.prog 148 #[.slice q n c,.func (.func 149) #[] #[]] w fun e w' =>
   e=.returned (.tuple #[])∧w'.ownsRow base 146 4 (.slice q n c) n (encQ (sortK l))∧w.grownBy w' (blkOf q):=by
 have hl:n=l.length:=by have:=ho.1;rw [encQ_len] at this;omega
 by_cases h0:n=0
 ·subst h0
  have hnil:l=[]:=List.eq_nil_of_length_eq_zero hl.symm
  subst hnil
  refine(AnyF.slices_SortFunc_none { Tryz.sortX with } q c (.func (.func 149) #[] #[]) w).mono ?_
  rintro e w' ⟨he,rfl⟩
  exact⟨he,by simpa [sortK] using ho,World.grownBy.refl _ _⟩
 ·obtain⟨g,hq,hg⟩:=own_block ho h0
  subst hq
  obtain⟨d,hd⟩:=noTwo_keys h2
  obtain⟨ks,hks⟩:∃ ks,ks=l.map Sq.ky:=⟨_,rfl⟩
  rw [← hks] at hd
  have hkl:ks.length=n:=by rw [hks,List.length_map,hl]
  have eg:∀ args w,(callFunc 149 args).run Tryz.prog w=.ok (.enter 149 args) w:=enters_of Tryz.func149 (by kernel_rfl) rfl
  have hH:HoldsK (encKy d) 4 w g 0 ks.toArray:=by
   intro j hj
   have hj2:j<n*4:=by simp at hj;omega
   have r:=Rd.of_own ho (by omega)
   have hc:=r.cells j hj2
   rw [adr_some] at hc
   have hv:(flatK (encKy d) 4 ks.toArray)[j]! = (encQ l).getD j undef:=by
    rw [getElem!_pos _ j hj,hd,enc_keys,← flatK_ky,List.getD_eq_getElem?_getD,Array.getElem?_toList,Array.getElem?_eq_getElem hj];rfl
   refine⟨by rw [hv];exact hc,?_⟩
   rcases ho.2 with ⟨h1,_⟩ | ⟨g',cap,cur,h1,_,hh,_⟩
   ·cases h1
   ·injection h1 with h1;injection h1 with h1;injection h1 with h1;subst h1
    simp [World.frozen?,hh]
  have hcon:=AnyQ.slices_SortFunc_total Tryz.sortX 4 Tryz.isAgg146 Tryz.sizeOf146 (encKy d) (fun _=>rfl) (fun x v hv=>by simp [encKy] at hv;rcases hv with rfl | rfl | rfl | rfl <;> rfl) cmpK swoK 149 #[] g 0 c ks.toArray w eg
   (fun m os dk hs x y=>stepCl (atKy d x) (atKy d y) _) hH hg (by simp;omega) totK
  have hsz:ks.toArray.size=n:=by simp [hkl]
  rw [hsz] at hcon
  refine hcon.mono ?_
  rintro e w' ⟨he,m,os,rfl⟩
  have e2:(flatK (encKy d) 4 (ks.toArray.toList.mergeSort fun x y=>!(ltOf cmpK) y x).toArray)=(encQ (sortK l)).toArray:=by
   apply Array.toList_inj.1
   rw [flatK_ky,← enc_keys,sort_keys,← hd]
  have hp:=own_put ho (ys:=encQ (sortK l)) (by rw [encQ_len,sortK_len,hl]) m os
  have e3:sortWorldK (encKy d) 4 w g 0 m (ks.toArray.toList.mergeSort fun x y=>!(ltOf cmpK) y x).toArray os=grow (putRow id (Sort.ahead w m) g 0 (encQ (sortK l)).toArray) os:=by
   unfold sortWorldK putRowK;rw [e2]
  rw [e3]
  exact⟨he,hp.1,hp.2⟩
theorem SortX_sep {w0 w:World} {Γ:List Pc} (S:Sep w0 w Γ) (j:Nat) {q:Option Addr} {n c:Nat} {l:List Sq} (hj:Γ[j]?=some (.own 146 4 q n c (encQ l))) (h2:NoTwo l) (hn:n≤1000000) :
  Calls Tryz.prog 148 #[.slice q n c,.func (.func 149) #[] #[]] w fun e w'=>e=.returned (.tuple #[])∧Sep w0 w' (Γ.set j (.own 146 4 q n c (encQ (sortK l)))) :=
 (SortX _ q n c l w (S.own j hj) h2 hn S.ext.size).mono fun _ _ ⟨he,ho,hg⟩=>⟨he,S.put j hj _ hg (fun _ hk=>hk) (own_base ho (Nat.zero_le _)) fun _ hk=>.inl hk⟩
theorem infStt:(Tryz.prog.info? 146).map (fun i=>(i.zero,i.size,i.bytes))=some (some (.agg #[.int .i64 0,.int .i64 0,.int .i64 0,.int .i64 0]),4,32):=by kernel_rfl
theorem CloneX (p:Option Addr) (n c:Nat) (l:List Sq) (w:World) (hl:Rd w 4 p n (encQ l)) (hn:n≤100000) :
  Calls Tryz.prog 145 #[.slice p n c] w fun e w'=>∃ q c',e=.returned (.slice q n c')∧Sep w w' [.own 146 4 q n c' (encQ l)]:=by
 obtain⟨i0,hi0,hz0,hz1,hz2⟩:=info_parts infStt
 have hp:=hl.ptr
 cases p with
 | none =>
  have h0:n=0:=by rcases hp with h | ⟨_,_,h⟩;exact h;cases h
  subst h0
  have hnil:encQ l=[]:=List.eq_nil_of_length_eq_zero (by have:=hl.len;simpa using this)
  rw [hnil]
  clear hl hp hnil
  have hr:=fun W=>Lib.run_eql_slice_nil (P:=Tryz.prog) W 85 146 none 0 c 0 0 Tryz.underlying85
  go_enter Tryz.func145,Tryz.ntmps145
  go_wp2
  go_ret
  exact⟨none,0,rfl,(Sep.start w).nilrow _ _⟩
 | some ad =>
  have hr:=fun W=>Lib.run_eql_slice_nil (P:=Tryz.prog) W 85 146 (some ad) n c 0 0 Tryz.underlying85
  have HL:=Lib.hid hl;clear hl hp
  go_enter Tryz.func145,Tryz.ntmps145
  go_wp2_with (at_builtin;refine wpList_append_rd rfl _ _ _ rfl w.heap.size 146 i0 _ 4 32 Tryz.underlying85 hi0 hz0 hz1 hz2 rfl (by omega) (some ⟨w.heap.size,0,none⟩) 0 0 [] rfl (World.ownsRow_made w #[] 0 (Nat.le_refl _) (by simp [maxLen]) rfl) (some ad) n c (encQ l) rfl (HL.out.ext (Ext.alloc (Below.refl _ _) _)) (one_encQ l) (by omega) (by omega) (by simp) ?_;intro q' c' w1 hown hg hat hb)
  go_ret
  simp only [Nat.zero_add,List.nil_append] at hown
  exact⟨q',c',rfl,Sep.of_own (Below.trans ((Below.refl _ _).alloc (Nat.le_refl _) _) hb) hown⟩
end
section
open Go Go.RowKit
theorem putC_at (x:Sq):∀ (l:List Sq) (k:Nat),k≤l.length→(∀ j,j<k→keyLt (nth l j) x=true)→(k<l.length→keyLt (nth l k) x=false) →
  putC x l=l.take k ++ (if k<l.length∧sameK (nth l k) x then ⟨x.s,x.r,x.v,min x.d (nth l k).d⟩:: l.drop (k+1) else x :: l.drop k)
 | [],k,hk,_,_=>by
  obtain rfl:k=0:=by simpa using hk
  rfl
 | y :: l,0,_,_,h2=>by
  have h3:keyLt y x=false:=h2 (by simp)
  unfold putC
  rw [h3]
  have e:nth (y :: l) 0=y:=rfl
  by_cases hs:sameK y x
  ·simp [e,hs]
  ·simp [e,hs]
 | y :: l,k+1,hk,h1,h2=>by
  have h3:keyLt y x=true:=h1 0 (by omega)
  have ih:=putC_at x l k (by simpa using hk) (fun j hj=>h1 (j+1) (by omega)) (fun h=>h2 (by simpa using h))
  unfold putC
  rw [h3,if_pos rfl,ih]
  have e:nth (y :: l) (k+1)=nth l k:=rfl
  rw [e]
  simp
theorem putK_at (x:Sq):∀ (l:List Sq) (k:Nat),k≤l.length→(∀ j,j<k→keyLt (nth l j) x=true)→(k<l.length→keyLt (nth l k) x=false)→putK x l=l.take k ++ x :: l.drop k
 | [],k,hk,_,_=>by
  obtain rfl:k=0:=by simpa using hk
  rfl
 | y :: l,0,_,_,h2=>by
  have h3:keyLt y x=false:=h2 (by simp)
  unfold putK
  rw [h3];rfl
 | y :: l,k+1,hk,h1,h2=>by
  have h3:keyLt y x=true:=h1 0 (by omega)
  have ih:=putK_at x l k (by simpa using hk) (fun j hj=>h1 (j+1) (by omega)) (fun h=>h2 (by simpa using h))
  unfold putK
  rw [h3,if_pos rfl,ih]
  simp
theorem putC_len (x:Sq) (l:List Sq):(putC x l).length≤l.length+1:=by
 induction l with
 | nil=>simp [putC]
 | cons y l ih =>
  unfold putC
  split
  ·simp only [List.length_cons];omega
  ·split <;> simp
theorem combM_len (M:List Sq):(combM M).length≤M.length:=by
 refine snoc_indQ (p:=fun M=>(combM M).length≤M.length) (by simp [combM]) (fun l x h=>?_) M
 rw [combM_snoc,List.length_append]
 have:=putC_len x (combM l)
 simp only [List.length_singleton]
 omega
theorem freshM_len (st M:List Sq):(freshM st M).length≤M.length:=Nat.le_trans (List.length_filter_le _ _) (combM_len M)
def mayB (x:Sq):Bool:=decide (0≤x.s∧x.s≤1000∧(x.r=0∨x.r=1)∧0≤x.v∧x.v<200∧0≤x.d∧x.d≤200)
theorem mayB_iff {x:Sq}:mayB x=true↔0≤x.s∧x.s≤1000∧(x.r=0∨x.r=1)∧0≤x.v∧x.v<200∧0≤x.d∧x.d≤200:=by unfold mayB;rw [decide_eq_true_eq]
theorem may_run {n:Nat} {x:Sq} (h:KeyN n x) (hn:n≤200) (h0:0≤x.d) (h1:x.d≤200):mayB x=true:=by
 obtain⟨a,b,c,d⟩:=h
 exact mayB_iff.2 ⟨by omega,by omega,b,c,by omega,h0,h1⟩
end
section
open Go Go.RowKit
theorem mayG (x:Sq) (w:World) (h:mayB x=true):Calls Tryz.prog 209 #[.agg #[.int .i64 x.s,.int .i64 x.r,.int .i64 x.v,.int .i64 x.d]] w fun e w'=>e=.returned (.bool true)∧Ext w w':=by
 obtain⟨h1,h2,h3,h4,h5,h6,h7⟩:=mayB_iff.1 h
 clear h
 have c1:decide (0≤x.s)=true:=by simpa using h1
 have c2:decide (x.s≤1000)=true:=by simpa using h2
 have c4:decide (0≤x.v)=true:=by simpa using h4
 have c5:decide (x.v<200)=true:=by simpa using h5
 have c6:decide (0≤x.d)=true:=by simpa using h6
 have c7:decide (x.d≤200)=true:=by simpa using h7
 have S0:=Lib.hid (((Sep.start w).al #[.int .i64 x.s,.int .i64 x.r,.int .i64 x.v,.int .i64 x.d] 274 w.heap.size rfl).al #[.int .i64 x.s,.int .i64 x.r,.int .i64 x.v] 136 (w.heap.size+1) (by simp))
 by_cases hr:x.r=0
 ·have c3:(x.r == 0)=true:=by simpa using hr
  clear h3 hr
  go_enter Tryz.func209,Tryz.ntmps209
  go_wp2
  go_ret
  exact⟨rfl,S0.out.ext⟩
 ·have c3:(x.r == 0)=false:=by simpa using hr
  have c8:(x.r == 1)=true:=by simp;omega
  clear h3 hr
  go_enter Tryz.func209,Tryz.ntmps209
  go_wp2
  go_ret
  exact⟨rfl,S0.out.ext⟩
theorem nearerG (x y:Sq) (w:World):Calls Tryz.prog 241 #[.agg #[.int .i64 x.s,.int .i64 x.r,.int .i64 x.v,.int .i64 x.d],.agg #[.int .i64 y.s,.int .i64 y.r,.int .i64 y.v,.int .i64 y.d]] w fun e w'=>e=.returned (.bool (decide (x.d<y.d)))∧Ext w w':=by
 have S0:=Lib.hid (((Sep.start w).al #[.int .i64 x.s,.int .i64 x.r,.int .i64 x.v,.int .i64 x.d] 274 w.heap.size rfl).al #[.int .i64 y.s,.int .i64 y.r,.int .i64 y.v,.int .i64 y.d] 138 (w.heap.size+1) (by simp))
 go_enter Tryz.func241,Tryz.ntmps241
 go_wp2
 go_ret
 exact⟨rfl,S0.out.ext⟩
theorem CheckM (p:Option Addr) (n c:Nat) (l:List Sq) (w:World) (hl:Rd w 4 p n (encQ l)) (hm:∀ x∈l,mayB x=true) :
  Calls Tryz.prog 143 #[.slice p n c] w fun e w'=>e=.returned (.bool true)∧Ext w w':=by
 have p1:=hl.ptr
 have n1:=hl.small
 have L1:=Lib.hid hl.nQ
 have HM:=Lib.hid hm
 clear hm
 have HL:=Lib.hid hl;clear hl
 go_enter Tryz.func143,Tryz.ntmps143
 go_wp2
 go_loopw [4,7] (fun _ i wr=>∃ k:Nat,k≤n∧i=.int .i64 k∧Ext w wr) (fun _ i _=>n - (intOf i).toNat)
 case atStart=>exact⟨0,Nat.zero_le _,rfl,Below.refl _ _⟩
 case round =>
  obtain⟨k,hk,rfl,hE⟩:=hrel
  by_cases hlt:k<n
  ·obtain⟨g1,g2,g3,g4⟩:=(HL.out.ext hE).cQ hlt
   have hx:=HM.out (nth l k) (by rw [nth_eq (by rw [← L1.out];exact hlt)];exact List.getElem_mem _)
   obtain⟨x,hxl⟩:∃ x,nth l k=x:=⟨_,rfl⟩
   rw [hxl] at g1 g2 g3 g4 hx
   have HC:=Lib.hid (fun W=>mayG x W hx)
   have S1:=Lib.hid (((Sep.start w).call hE).al #[.int .i64 x.s,.int .i64 x.r,.int .i64 x.v,.int .i64 x.d] 138 wr.heap.size rfl)
   have d1:(0:Int)≤k:=by omega
   have d2:(k:Int)<n:=by omega
   clear hxl hE hx
   go_wp2_with (go_at_call 209;go_must (refine(HC.out _).mono ?_;rintro e w' ⟨rfl,hb⟩;have HX:=Lib.hid (S1.out.call hb).ext;clear hb))
   go_roundw
   case rel=>exact⟨k+1,by omega,by go_num,HX.out⟩
   case measure=>simp [intOf];omega
  ·have HE:=Lib.hid hE
   clear hE
   go_wp2
   go_ret
   exact⟨rfl,HE.out⟩
end
section
open Go Go.RowKit Go.Maps Go.WideElems
def Ky.val (x:Ky):Value:=.agg #[.int .i64 x.s,.int .i64 x.r,.int .i64 x.v]
def Ky.lit (x:Ky):Lit:=.string (keyBytes [.int .i64 x.s,.int .i64 x.r,.int .i64 x.v])
def Ky.ok (x:Ky):Prop:=I64 x.s∧I64 x.r∧I64 x.v
theorem kyLaw:WideMaps.KeyLaw Tryz.prog 136:=deep_law_gate (by kernel_rfl) (Nat.le_of_ble_eq_true (by kernel_rfl)) (Nat.le_of_ble_eq_true (by kernel_rfl)) (by kernel_rfl) (by kernel_rfl)
theorem ky_facts:Tryz.prog.keyType 136=true∧Tryz.prog.cellsOf 136=3∧Tryz.prog.cellsOf 3=1∧∃ m,Tryz.prog.types.size=m+1:=⟨by kernel_rfl,by kernel_rfl,by kernel_rfl,⟨Tryz.prog.types.size - 1,by kernel_rfl⟩⟩
theorem ky_of {x:Ky} (h:x.ok):keyOf Tryz.prog 136 x.val=some x.lit:=by
 obtain⟨h1,h2,h3⟩:=h
 unfold I64 at h1 h2 h3
 have hu:=Tryz.underlying136
 have hi:=Tryz.underlying3
 obtain⟨f1,f2,f3,m,f4⟩:=ky_facts
 have hf:Value.formed Tryz.prog 136 x.val=true:=by
  unfold Value.formed
  rw [hu]
  simp [Ky.val,f2]
 unfold keyOf
 rw [hu,f1,hf,f4]
 have hl:Tryz.prog.keyLits (m+1+1) 136 x.val.cells.toList=some [.int .i64 x.s,.int .i64 x.r,.int .i64 x.v]:=by
  unfold Program.keyLits
  rw [hu]
  simp [Ky.val,Value.cells,f2,f3,Program.keyLits,hi,h1,h2,h3]
 simp only [Bool.true_and,if_true]
 rw [hl]
 rfl
theorem lit_int_inv {P:Program} {t:TypeId} (ht:P.underlying t=some (.int .i64)) {d:Nat} {u:Value} {ls:List Lit} (h:P.keyLits (d+1) t [u]=some ls):∃ x,u=.int .i64 x∧I64 x∧ls=[.int .i64 x]:=by
 unfold Program.keyLits at h
 rw [ht] at h
 cases u <;> simp at h
 obtain⟨⟨rfl,h1⟩,rfl⟩:=h
 exact⟨_,rfl,h1,rfl⟩
theorem ky_inv {v:Value} {l:Lit} (h:keyOf Tryz.prog 136 v=some l):∃ x:Ky,v=x.val∧l=x.lit∧x.ok:=by
 have hu:=Tryz.underlying136
 have hi:=Tryz.underlying3
 obtain⟨f1,f2,f3,m,f4⟩:=ky_facts
 unfold keyOf at h
 rw [hu,f1,f4] at h
 simp only [Bool.true_and] at h
 split at h
 ·rename_i hf
  cases v with
  | agg cs =>
   unfold Value.formed at hf
   rw [hu] at hf
   simp only [f2,beq_iff_eq] at hf
   obtain⟨a,b,c,rfl⟩:∃ a b c,cs=#[a,b,c]:=by
    clear h hu hi f1 f2 f3 f4
    obtain⟨l⟩:=cs
    rcases l with _ | ⟨a,_ | ⟨b,_ | ⟨c,_ | ⟨d,l⟩⟩⟩⟩
    ·cases hf
    ·cases hf
    ·cases hf
    ·exact⟨a,b,c,rfl⟩
    ·simp at hf
   rw [Option.map_eq_some_iff] at h
   obtain⟨ls,h1,h2⟩:=h
   unfold Program.keyLits at h1
   rw [hu] at h1
   simp [Value.cells,f2,f3] at h1
   cases e1:Tryz.prog.keyLits (m+1) 3 [a] with
   | none=>rw [e1] at h1;cases h1
   | some la =>
    cases e2:Tryz.prog.keyLits (m+1) 3 [b] with
    | none=>rw [e1,e2] at h1;cases h1
    | some lb =>
     cases e3:Tryz.prog.keyLits (m+1) 3 [c] with
     | none=>rw [e1,e2,e3] at h1;cases h1
     | some lc =>
      obtain⟨x,rfl,hx,rfl⟩:=lit_int_inv hi e1
      obtain⟨y,rfl,hy,rfl⟩:=lit_int_inv hi e2
      obtain⟨z,rfl,hz,rfl⟩:=lit_int_inv hi e3
      rw [e1,e2,e3] at h1
      injection h1 with h1
      subst h1
      exact⟨⟨x,y,z⟩,rfl,h2.symm,hx,hy,hz⟩
  | _=>simp [Value.formed,hu] at hf
 ·cases h
theorem ky_val {x y:Ky} (h:x.val=y.val):x=y:=by
 obtain⟨a,b,c⟩:=x
 obtain⟨a',b',c'⟩:=y
 unfold Ky.val at h
 simp at h
 obtain⟨rfl,rfl,rfl⟩:=h
 rfl
def kyS:KeyS Tryz.prog 136:=⟨Ky.val,Ky.lit,Ky.ok,Go.Maps.Keyed.of_law kyLaw,fun h=>ky_of h,fun h=>ky_inv h,fun hx hy h=>ky_val ((Go.Maps.Keyed.of_law kyLaw).inj (ky_of hx) (h ▸ ky_of hy)),fun h=>ky_val h⟩
end
section
open Go Go.RowKit Go.Maps Go.WideElems
def Sq.val (x:Sq):Value:=.agg #[.int .i64 x.s,.int .i64 x.r,.int .i64 x.v,.int .i64 x.d]
def Sq.dat (x:Sq):DataW Unit:=.map [(.int .i64 x.s,.map [(.int .i64 x.r,.map [(.int .i64 x.v,.lit (.int .i64 x.d))])])]
def readQ:Value→Option (DataW Unit × List MemPlace)
 | .agg ⟨[.int .i64 s,.int .i64 r,.int .i64 v,.int .i64 d]⟩=>some (Sq.dat ⟨s,r,v,d⟩,[])
 | _=>none
theorem readQ_inv (u:Value) (y:DataW Unit × List MemPlace) (h:readQ u=some y):∃ v:Sq,u=v.val:=by
 unfold readQ at h
 split at h
 ·rename_i s r v d
  exact⟨⟨s,r,v,d⟩,rfl⟩
 ·cases h
theorem dat_inj (v v':Sq) (h:v.dat=v'.dat):v=v':=by
 obtain⟨a,b,c,d⟩:=v
 obtain⟨a',b',c',d'⟩:=v'
 unfold Sq.dat at h
 simp at h
 obtain⟨rfl,rfl,rfl,rfl⟩:=h
 rfl
def elmQ (P:Program) (e:TypeId) (hz:∀ w,(zeroValue e).run P w=.ok (.agg #[.int .i64 0,.int .i64 0,.int .i64 0,.int .i64 0]) w):ElmR P e Sq :=
 ⟨readQ,Sq.val,Sq.dat,⟨0,0,0,0⟩,fun _=>rfl,readQ_inv,dat_inj,hz⟩
def readB:Value→Option (DataW Unit × List MemPlace)
 | .bool b=>some (.lit (.bool b),[])
 | _=>none
theorem readB_inv (u:Value) (y:DataW Unit × List MemPlace) (h:readB u=some y):∃ v:Bool,u=.bool v:=by
 unfold readB at h
 split at h
 ·exact⟨_,rfl⟩
 ·cases h
def elmBK (P:Program) (e:TypeId) (hz:∀ w,(zeroValue e).run P w=.ok (.bool false) w):ElmR P e Bool :=
 ⟨readB,.bool,fun x=>.lit (.bool x),false,fun _=>rfl,readB_inv,fun v v' h=>by injection h with h;injection h,hz⟩
end
section
open Go Go.RowKit Go.ChangeShapes Go.WideShapes Go.ChangeAt Go.Deep Go.Joins
theorem exists_list {α:Type} [Inhabited α] {n:Nat} {p:Nat→α→Prop} (h:∀ i,i<n→∃ x,p i x):∃ l:List α,l.length=n∧∀ i,i<n→p i (nth l i):=by
 induction n with
 | zero=>exact⟨[],rfl,fun i hi=>by omega⟩
 | succ n ih =>
  obtain⟨l,hl,hp⟩:=ih fun i hi=>h i (by omega)
  obtain⟨x,hx⟩:=h n (by omega)
  refine⟨l ++ [x],by simp [hl],fun i hi=>?_⟩
  by_cases e:i=n
  ·subst e
   have:nth (l ++ [x]) i=x:=by subst hl;exact nth_append_new _ _
   rw [this];exact hx
  ·rw [nth_append_left _ _ _ (by omega)];exact hp i (by omega)
theorem spot_of_cell {w:World} {a:Addr} {v:Value} (h:w.cell? a=some v):a=⟨a.block,a.off,none⟩:=by
 unfold World.cell? at h
 split at h
 ·split at h
  ·cases h
  ·rename_i hs
   obtain⟨b,o,s⟩:=a
   cases s with
   | none=>rfl
   | some s=>simp at hs
 ·cases h
theorem Rd.of_cells {w:World} {size n:Nat} {a:Addr} {xs:List Value} (h0:0<size) (hlen:xs.length=n*size) (hs:n≤9223372036854775807) (hc:∀ j,j<n*size→w.cell? (a.add j)=some (xs.getD j undef)):Rd w size (some a) n xs:=by
 rcases Nat.eq_zero_or_pos n with hn | hn
 ·subst hn
  have:xs=[]:=List.eq_nil_of_length_eq_zero (by simpa using hlen)
  subst this
  exact Rd.nil _ _ _
 ·have h1:=hc 0 (Nat.mul_pos hn h0)
  have ha:=spot_of_cell (a:=a) (by simpa [Addr.add] using h1)
  refine⟨hlen,.inr ⟨_,_,by rw [ha]⟩,hs,fun j hj=>?_⟩
  rw [← hc j hj]
  congr 1
  rw [ha,adr_some]
  by_cases hj0:j=0
  ·subst hj0;simp [Addr.add]
  ·simp [Addr.add,hj0]
section
variable {H:Type} {enc:TypeId × Value→H} {w:World} {base:Nat} {spare:Nat→Bool} {held:Bool}
theorem open_slice_fields {P:Program} {t e:TypeId} {fs:Array Field} {fuel:Nat} {cs:List Value} {x:DataW H × List MemPlace} (ht:P.underlying t=some (.slice e)) (he:P.underlying e=some (.struct fs))
  (hone:oneCellFields P fs=true) (hC:P.cellsOf e=fs.size) (h:DataW.trod enc P w base spare held fuel t cs=some x) :
  (cs=[.slice none 0 0]) ∨
  ∃ (a:Addr) (len cap:Nat),cs=[.slice (some a) len cap]∧len≤cap∧cap≤maxLen ∧
   ∀ i,i<len→∀ (j:Nat) (f:Field),fs[j]?=some f→∃ (v:Value) (y:DataW H × List MemPlace) (n:Nat),w.cell? (a.add (i*fs.size+j))=some v∧DataW.trod enc P w base spare held n f.type [v]=some y:=by
 rcases open_slice ht h with h0 | ⟨a,len,cap,m,n,D,Pl,hcs,hb,hl,hm,hmm,hx,hi⟩
 ·exact .inl h0.1
 ·refine .inr ⟨a,len,cap,hcs,hl,hm,fun i hil j f hj=>?_⟩
  obtain⟨cs',hc,ht'⟩:=hi i (by rw [hmm];split <;> omega)
  rw [hC] at hc
  obtain⟨ys,n',hn',hy,hlen,hyl,hf⟩:=DataW.trod_struct he ht'
  obtain⟨_,hcl,hat⟩:=World.cells?_some hc
  obtain⟨ho,hk⟩:=hone_of hone j f hj
  have hjl:j<fs.size:=(Array.getElem?_eq_some_iff.1 hj).1
  have hcell:=hat j hjl
  have hv:cs'[j]?=some (cs'[j]'(by omega)):=List.getElem?_eq_getElem (by omega)
  have h1:=hf j f hj
  rw [ho,hk] at h1
  have hone':(cs'.drop j).take 1=[cs'[j]'(by omega)]:=by
   rw [List.drop_eq_getElem_cons (by omega)]
   rfl
  rw [hone'] at h1
  have hys:ys[j]?=some (ys[j]'(by omega)):=List.getElem?_eq_getElem (by omega)
  refine⟨_,_,_,?_,h1.trans hys⟩
  rw [← Go.Deep.add_add,hcell,hv]
theorem open_texts {t:TypeId} {fuel:Nat} {v:Value} {x:DataW H × List MemPlace} (ht:Tryz.prog.underlying t=some (.slice 9)) (h:DataW.trod enc Tryz.prog w base spare held fuel t [v]=some x) :
  ∃ p n c l,v=.slice p n c∧Rd w 1 p n (encS l):=by
 rcases open_slice ht h with h0 | ⟨a,len,cap,m,n,D,Pl,hcs,hb,hl,hm,hmm,hx,hi⟩
 ·obtain⟨h0,_⟩:=h0;simp at h0;exact⟨none,0,0,[],h0,Rd.nil _ _ _⟩
 ·simp at hcs
  have hl2:len≤9223372036854775807:=by unfold maxLen at hm;omega
  have hc1:Tryz.prog.cellsOf 9=1:=by kernel_rfl
  rw [hc1] at hi
  have hS:∀ i,i<len→∃ s:ByteArray,w.cell? (a.add i)=some (.string s):=by
   intro i hil
   obtain⟨cs',hc,ht'⟩:=hi i (by rw [hmm];split <;> omega)
   obtain⟨s,e1,_⟩:=DataW.trod_string Tryz.underlying9 ht'
   obtain⟨_,hcl,hat⟩:=World.cells?_some hc
   have:=hat 0 (by decide)
   rw [Go.Deep.add_add,Nat.mul_one,Nat.add_zero,e1] at this
   exact⟨s,this⟩
  obtain⟨l,hll,hlc⟩:=exists_list hS
  refine⟨some a,len,cap,l,hcs,Rd.of_cells (by decide) (by rw [encS_len,hll,Nat.mul_one]) hl2 fun j hj=>?_⟩
  rw [encS_get l j (by omega)]
  exact hlc j (by omega)
end
end
section
open Go Go.RowKit Go.ChangeShapes Go.WideShapes Go.ChangeAt Go.Deep Go.Joins
section
variable {H:Type} {enc:TypeId × Value→H} {w:World} {base:Nat} {spare:Nat→Bool} {held:Bool}
theorem trod_ints {t:TypeId} {fuel:Nat} {v:Value} {x:DataW H × List MemPlace} (ht:Tryz.prog.underlying t=some (.slice 3)) (h:DataW.trod enc Tryz.prog w base spare held fuel t [v]=some x) :
  ∃ p n c l,v=.slice p n c∧n≤c∧Rd w 1 p n (encI l)∧∀ x∈l,I64 x:=by
 rcases open_slice ht h with h0 | ⟨a,len,cap,m,n,D,Pl,hcs,hb,hl,hm,hmm,hx,hi⟩
 ·obtain⟨h0,_⟩:=h0;simp at h0;exact⟨none,0,0,[],h0,Nat.le_refl _,Rd.nil _ _ _,fun x hx=>nomatch hx⟩
 ·simp at hcs
  have hl2:len≤9223372036854775807:=by unfold maxLen at hm;omega
  have hc1:Tryz.prog.cellsOf 3=1:=by kernel_rfl
  rw [hc1] at hi
  have hS:∀ i,i<len→∃ s:Int,w.cell? (a.add i)=some (.int .i64 s)∧I64 s:=by
   intro i hil
   obtain⟨cs',hc,ht'⟩:=hi i (by rw [hmm];split <;> omega)
   obtain⟨s,e1,_,hw⟩:=DataW.trod_int Tryz.underlying3 ht'
   obtain⟨_,hcl,hat⟩:=World.cells?_some hc
   have:=hat 0 (by decide)
   rw [Go.Deep.add_add,Nat.mul_one,Nat.add_zero,e1] at this
   exact⟨s,this,hw⟩
  obtain⟨l,hll,hlc⟩:=exists_list hS
  refine⟨some a,len,cap,l,hcs,hl,Rd.of_cells (by decide) (by rw [encI_len,hll,Nat.mul_one]) hl2 fun j hj=>?_,fun x hx=>?_⟩
  ·rw [encI_get l j (by omega)]
   exact(hlc j (by omega)).1
  ·obtain⟨j,hj,rfl⟩:=List.mem_iff_getElem.1 hx
   rw [← nth_eq hj]
   exact(hlc j (by omega)).2
theorem trod_texts {t:TypeId} {fuel:Nat} {v:Value} {x:DataW H × List MemPlace} (ht:Tryz.prog.underlying t=some (.slice 9)) (h:DataW.trod enc Tryz.prog w base spare held fuel t [v]=some x) :
  ∃ p n c l,v=.slice p n c∧n≤c∧Rd w 1 p n (encS l):=by
 obtain⟨p,n,c,l,rfl,hr⟩:=open_texts ht h
 refine⟨p,n,c,l,rfl,?_,hr⟩
 rcases open_slice ht h with h0 | ⟨a,len,cap,m,n',D,Pl,hcs,hb,hl,_⟩
 ·obtain⟨h0,_⟩:=h0;simp at h0;omega
 ·simp at hcs;omega
theorem trod_postings {t:TypeId} {fuel:Nat} {v:Value} {x:DataW H × List MemPlace} (ht:Tryz.prog.underlying t=some (.slice 78)) (h:DataW.trod enc Tryz.prog w base spare held fuel t [v]=some x) :
  ∃ p n c hs L,v=.slice p n c∧n≤c∧RdP w p n hs L∧∀ q∈L,∀ x∈q.2,I64 x:=by
 rcases open_slice_fields ht Tryz.underlying78 (by kernel_rfl) (by kernel_rfl) h with h0 | ⟨a,len,cap,hcs,hl,hm,hi⟩
 ·simp at h0;exact⟨none,0,0,[],[],h0,Nat.le_refl _,⟨rfl,.inl rfl,by omega,fun k hk=>by omega,fun k hk=>by omega,fun k hk=>by omega⟩,fun q hq=>nomatch hq⟩
 ·simp at hcs
  have hl2:len≤9223372036854775807:=by unfold maxLen at hm;omega
  have hE:∀ i,i<len→∃ e:(ByteArray × List Int) × Hd,w.cell? (a.add (i*2))=some (.string e.1.1)∧w.cell? (a.add (i*2+1))=some (.slice e.2.p e.2.n e.2.c)∧Rd w 1 e.2.p e.2.n (encI e.1.2)∧∀ x∈e.1.2,I64 x:=by
   intro i hil
   obtain⟨v1,y1,n1,c1,t1⟩:=hi i hil 0 _ rfl
   obtain⟨v2,y2,n2,c2,t2⟩:=hi i hil 1 _ rfl
   obtain⟨s,e1,_⟩:=DataW.trod_string Tryz.underlying9 t1
   obtain⟨p,n',c',l,e2,_,hr,hI⟩:=trod_ints Tryz.underlying25 t2
   simp at e1
   subst e1 e2
   exact⟨((s,l),⟨p,n',c'⟩),c1,c2,hr,hI⟩
  obtain⟨E,hEl,hEc⟩:=exists_list hE
  have hm:∀ i,i<len→nth (E.map (·.1)) i=(nth E i).1∧nth (E.map (·.2)) i=(nth E i).2:=fun i hil=>by
   rw [nth_eq (l:=E.map (·.1)) (by rw [List.length_map];omega),nth_eq (l:=E.map (·.2)) (by rw [List.length_map];omega),nth_eq (l:=E) (by omega)];simp
  have hptr:SlP (some a) len:=by
   rcases Nat.eq_zero_or_pos len with h0 | h0
   ·exact .inl h0
   ·have h1:=(hEc 0 h0).1
    exact .inr ⟨_,_,by rw [spot_of_cell (a:=a) (by simpa [Addr.add] using h1)]⟩
  have hadr:∀ i j,i<len→a.add (i*2+j)=adr (some a) (i*2+j):=by
   intro i j hil
   have h1:=(hEc 0 (by omega)).1
   have ha:=spot_of_cell (a:=a) (by simpa [Addr.add] using h1)
   generalize i*2+j=m
   rw [ha,adr_some]
   by_cases hj0:m=0
   ·rw [hj0];simp [Addr.add]
   ·simp [Addr.add,hj0]
  refine⟨some a,len,cap,E.map (·.2),E.map (·.1),hcs,hl,⟨by simp [hEl],hptr,hl2,fun k hk=>?_,fun k hk=>?_,fun k hk=>?_⟩,fun q hq=>?_⟩
  ·rw [(hm k hk).1,← Nat.add_zero (k*2),← hadr k 0 hk];exact(hEc k hk).1
  ·rw [(hm k hk).2,← hadr k 1 hk];exact(hEc k hk).2.1
  ·rw [(hm k hk).1,(hm k hk).2];exact(hEc k hk).2.2.1
  ·obtain⟨e,he,rfl⟩:=List.mem_map.1 hq
   obtain⟨j,hj,rfl⟩:=List.mem_iff_getElem.1 he
   rw [← nth_eq hj]
   exact(hEc j (by omega)).2.2.2
theorem open_top {t e:TypeId} {r:Reach} {b0:Nat} {v:Value} {d:DataW H} {p:List MemPlace} (ht:Tryz.prog.underlying t=some (.slice e)) (hv:Value.okWide Tryz.prog w r b0 t v) (h:DataW.Trod enc Tryz.prog w base spare held t v d p) :
  ∃ fuel,DataW.trod enc Tryz.prog w base spare held fuel t [v]=some (d,p):=by
 obtain⟨a,n,c,rfl⟩:=okWide_slice ht hv
 exact h
theorem open_postings {r:Reach} {b0:Nat} {v:Value} {d:DataW H} {p:List MemPlace} (hv:Value.okWide Tryz.prog w r b0 28 v) (h:DataW.Trod enc Tryz.prog w base spare held 28 v d p) :
  ∃ p n c hs L,v=.slice p n c∧n≤c∧RdP w p n hs L∧∀ q∈L,∀ x∈q.2,I64 x:=by
 obtain⟨f,hf⟩:=open_top Tryz.underlying28 hv h
 exact trod_postings Tryz.underlying28 hf
end
end
section
open Go Go.RowKit Go.ChangeShapes Go.WideShapes Go.ChangeAt Go.Deep Go.Joins
def Sq.I (x:Sq):Prop:=I64 x.s∧I64 x.r∧I64 x.v∧I64 x.d
section
variable {H:Type} {enc:TypeId × Value→H} {w:World} {base:Nat} {spare:Nat→Bool} {held:Bool}
theorem open_query {r:Reach} {b0:Nat} {v:Value} {d:DataW H} {p:List MemPlace} (hv:Value.okWide Tryz.prog w r b0 24 v) (h:DataW.Trod enc Tryz.prog w base spare held 24 v d p) :
  ∃ k f t pw nw cw ws rad most,v=.agg #[.int .i64 k,.int .i64 f,.int .i64 t,.slice pw nw cw,.int .i64 rad,.int .i64 most]∧nw≤cw∧Rd w 1 pw nw (encS ws)∧(I64 k∧I64 f∧I64 t)∧I64 rad∧I64 most:=by
 obtain⟨cs,rfl,hsz⟩:=okWide_struct Tryz.underlying24 hv
 obtain⟨fuel,hf⟩:=h
 obtain⟨xs,n,_,_,hl,hx,hg⟩:=DataW.trod_struct Tryz.underlying24 hf
 have hc:Tryz.prog.cellsOf 24=6:=by kernel_rfl
 have hi:Tryz.prog.cellsOf 3=1:=by kernel_rfl
 have hs:Tryz.prog.cellsOf 22=1:=by kernel_rfl
 rw [hc] at hsz
 obtain⟨l⟩:=cs
 match l,hsz,xs,hx with
 | [c0,c1,c2,c3,c4,c5],_,[y0,y1,y2,y3,y4,y5],_ =>
  have t0:DataW.trod enc Tryz.prog w base spare held n 3 [c0]=some y0:=by simpa [hi,Value.cells] using hg 0 _ rfl
  have t1:DataW.trod enc Tryz.prog w base spare held n 3 [c1]=some y1:=by simpa [hi,Value.cells] using hg 1 _ rfl
  have t2:DataW.trod enc Tryz.prog w base spare held n 3 [c2]=some y2:=by simpa [hi,Value.cells] using hg 2 _ rfl
  have t3:DataW.trod enc Tryz.prog w base spare held n 22 [c3]=some y3:=by simpa [hs,Value.cells] using hg 3 _ rfl
  have t4:DataW.trod enc Tryz.prog w base spare held n 3 [c4]=some y4:=by simpa [hi,Value.cells] using hg 4 _ rfl
  have t5:DataW.trod enc Tryz.prog w base spare held n 3 [c5]=some y5:=by simpa [hi,Value.cells] using hg 5 _ rfl
  obtain⟨a0,e0,_,i0⟩:=DataW.trod_int Tryz.underlying3 t0
  obtain⟨a1,e1,_,i1⟩:=DataW.trod_int Tryz.underlying3 t1
  obtain⟨a2,e2,_,i2⟩:=DataW.trod_int Tryz.underlying3 t2
  obtain⟨pw,nw,cw,ws,rfl,hn,hr⟩:=trod_texts Tryz.underlying22 t3
  obtain⟨a4,e4,_,i4⟩:=DataW.trod_int Tryz.underlying3 t4
  obtain⟨a5,e5,_,i5⟩:=DataW.trod_int Tryz.underlying3 t5
  simp at e0 e1 e2 e4 e5
  subst e0 e1 e2 e4 e5
  exact⟨a0,a1,a2,pw,nw,cw,ws,a4,a5,rfl,hn,hr,⟨i0,i1,i2⟩,i4,i5⟩
end
end
section
open Go Go.RowKit
theorem Rd.newAt (w:World) (t:TypeId) (cs:List Value) (n size g:Nat) (hg:w.heap.size=g) (h:cs.length=n*size) (hn:n≤9223372036854775807):Rd (w.alloc (.cells cs.toArray t)) size (some ⟨g,0,none⟩) n cs:=by
 subst hg;exact Rd.new w t cs n size h hn
end
section
open Go Go.RowKit Go.Maps
theorem zeroMl (w:World):(zeroValue 138).run Tryz.prog w=.ok (.agg #[.int .i64 0,.int .i64 0,.int .i64 0,.int .i64 0]) w:=by kernel_rfl
noncomputable def EQ16:ElmR Tryz.prog 138 Sq:=elmQ Tryz.prog 138 zeroMl
theorem CombineG (p:Option Addr) (n c:Nat) (l:List Sq) (w:World) (hl:Rd w 4 p n (encQ l)) (hi:∀ x∈l,x.I) (hn:n≤100000) :
  Calls Tryz.prog 207 #[.slice p n c] w fun e w'=>∃ q c',e=.returned (.slice q (combM l).length c')∧Sep w w' [.own 138 4 q (combM l).length c' (encQ (combM l))]:=by
 obtain⟨i0,hi0,hz0,hz1,hz2⟩:=info_parts infMail
 have p1:=hl.ptr
 have n1:=hl.small
 have L1:=Lib.hid hl.nQ
 have HI:=Lib.hid hi
 have HL:=Lib.hid hl
 clear hl hi
 have hmm:=@run_makeMap Tryz.prog
 have S0:=Lib.hid ((Sep.start w).mkmapK (K:=kyS) EQ16)
 go_enter Tryz.func207,Tryz.ntmps207
 go_wp2
 go_loopw [5,6,7,8,15] (fun _ _ _ _ i wr=>∃ (k mm:Nat) (f:Ky→Option Sq),k≤n∧mm≤k∧i=.int .i64 k∧Sep w wr [.mapK kyS EQ16 w.heap.size mm f]∧Hid (LeastK (l.take k) f)) (fun _ _ _ _ i _=>n - (intOf i).toNat)
 case atStart=>exact⟨0,0,_,Nat.zero_le _,Nat.le_refl _,rfl,S0.out,leastK_nil⟩
 case round =>
  clear S0
  obtain⟨k,mm,f,hk,hm,rfl,S,HF⟩:=hrel
  by_cases hlt:k<n
  ·obtain⟨g1,g2,g3,g4⟩:=(HL.out.ext S.ext).cQ hlt
   have hkl:k<l.length:=by rw [← L1.out];exact hlt
   have hx:=HI.out (nth l k) (nth_mem hkl)
   have HT:=Lib.hid (take_succ_nth l k hkl)
   obtain⟨x,hxl⟩:∃ x,nth l k=x:=⟨_,rfl⟩
   rw [hxl] at g1 g2 g3 g4 hx HT
   have hok:kyS.ok x.ky:=⟨hx.1,hx.2.1,hx.2.2.1⟩
   have S1:=Lib.hid (S.al #[.int .i64 x.s,.int .i64 x.r,.int .i64 x.v,.int .i64 x.d] 138 wr.heap.size rfl)
   have k1:=(S1.out.mapK 1 rfl).lookup_ok (t:=305) Tryz.underlying305 hok
   obtain⟨W1,hW1⟩:∃ W1,wr.alloc (.cells #[.int .i64 x.s,.int .i64 x.r,.int .i64 x.v,.int .i64 x.d] 138)=W1:=⟨_,rfl⟩
   have d1:(0:Int)≤k:=by omega
   have d2:(k:Int)<n:=by omega
   clear hxl S hx
   cases hf:f x.ky with
   | none =>
    have k2:(Instr.lookup 305 (.map (some w.heap.size)) (.agg #[.int .i64 x.s,.int .i64 x.r,.int .i64 x.v]) true).run Tryz.prog (wr.alloc (.cells #[.int .i64 x.s,.int .i64 x.r,.int .i64 x.v,.int .i64 x.d] 138))=.ok (.tuple #[.agg #[.int .i64 0,.int .i64 0,.int .i64 0,.int .i64 0],.bool false]) (wr.alloc (.cells #[.int .i64 x.s,.int .i64 x.r,.int .i64 x.v,.int .i64 x.d] 138)):=by rw [hf] at k1;exact k1
    have HL1:Hid (∀ y,f x.ky=some y→x.d≤y.d):=fun y h=>by rw [hf] at h;cases h
    have S2:=Lib.hid (S1.out.al #[.int .i64 0,.int .i64 0,.int .i64 0,.int .i64 0] 138 (wr.heap.size+1) (by simp))
    clear k1 hf hW1
    go_wp2_with (at_mapUpdate;go_must (refine wpList_update_sepK (K:=kyS) (E:=EQ16) (P:=Tryz.prog) rfl _ _ _ _ rfl Tryz.underlying305 rfl S2.out 2 rfl (by omega) x.ky x rfl rfl hok ?_;intro w5 S' hg;have S5:=Lib.hid S';clear S' hg))
    go_roundw
    case rel=>exact⟨k+1,mm+1,_,by omega,by omega,by go_num,S5.out.pick [2] (by decide) rfl,by rw [HT.out];exact leastK_put x HF.out HL1.out⟩
    case measure=>simp [intOf];omega
   | some y =>
    have k2:(Instr.lookup 305 (.map (some w.heap.size)) (.agg #[.int .i64 x.s,.int .i64 x.r,.int .i64 x.v]) true).run Tryz.prog (wr.alloc (.cells #[.int .i64 x.s,.int .i64 x.r,.int .i64 x.v,.int .i64 x.d] 138))=.ok (.tuple #[.agg #[.int .i64 y.s,.int .i64 y.r,.int .i64 y.v,.int .i64 y.d],.bool true]) (wr.alloc (.cells #[.int .i64 x.s,.int .i64 x.r,.int .i64 x.v,.int .i64 x.d] 138)):=by rw [hf] at k1;exact k1
    have SY:=Lib.hid (S1.out.al #[.int .i64 y.s,.int .i64 y.r,.int .i64 y.v,.int .i64 y.d] 138 (wr.heap.size+1) (by simp))
    have HN:=Lib.hid (fun W=>nearerG x y W)
    by_cases hd:x.d<y.d
    ·have HL1:Hid (∀ u,f x.ky=some u→x.d≤u.d):=fun u h=>by rw [hf] at h;injection h with h;subst h;exact Int.le_of_lt hd
     rw [decide_eq_true hd] at HN
     clear k1 hf hW1 hd
     go_wp2_with (first | (at_mapUpdate;go_must (refine wpList_update_sepK (K:=kyS) (E:=EQ16) (P:=Tryz.prog) rfl _ _ _ _ rfl Tryz.underlying305 rfl S2.out 2 rfl (by omega) x.ky x rfl rfl hok ?_;intro w5 S' hg;have S5:=Lib.hid S';clear S' hg)) | (go_at_call 241;have _t:=SY;go_must (refine(HN.out _).mono ?_;rintro e w3 ⟨rfl,hb⟩;have S2:=Lib.hid (SY.out.call hb);have y0:=(S2.out.blk 0 rfl).cell 0;clear hb y0;obtain⟨x0,x1,x2,x3,xz⟩:=bkc0c1c2c3l (S2.out.blk 1 rfl))))
     go_roundw
     case rel=>exact⟨k+1,mm+1,_,by omega,by omega,by go_num,S5.out.pick [2] (by decide) rfl,by rw [HT.out];exact leastK_put x HF.out HL1.out⟩
     case measure=>simp [intOf];omega
    ·have HL1:Hid (∃ u,f x.ky=some u∧u.d≤x.d):=⟨y,hf,by omega⟩
     rw [decide_eq_false hd] at HN
     clear k1 hf hW1 hd
     go_wp2_with (go_at_call 241;have _t:=SY;go_must (refine(HN.out _).mono ?_;rintro e w3 ⟨rfl,hb⟩;have S2:=Lib.hid (SY.out.call hb);have y0:=(S2.out.blk 0 rfl).cell 0;clear hb y0;obtain⟨x0,x1,x2,x3,xz⟩:=bkc0c1c2c3l (S2.out.blk 1 rfl)))
     go_roundw
     case rel=>exact⟨k+1,mm,f,by omega,by omega,by go_num,S2.out.pick [2] (by decide) rfl,by rw [HT.out];exact leastK_skip x HF.out HL1.out⟩
     case measure=>simp [intOf];omega
  ·obtain rfl:k=n:=by omega
   rw [List.take_of_length_le (by rw [← L1.out];exact Nat.le_refl _)] at HF
   obtain⟨es,clock,hx1,hx2,hx3,hx4⟩:=(S.mapK 0 rfl).raw
   have HB2:=Lib.hid hx1
   have HF2:=Lib.hid hx2
   have HS2:=Lib.hid hx3
   have HFN:=Lib.hid hx4
   have S2:=Lib.hid ((Sep.head (q:=Pc.mapR w.heap.size es clock) S hx1 fun k h=>h).nilrow 138 4)
   clear hx1 hx2 hx3 hx4 S
   generalize w.heap.size=b at *
   go_wp2_with (at_range;go_must (refine wpList_range_sepK (P:=Tryz.prog) (K:=kyS) (E:=EQ16) rfl _ _ rfl Tryz.underlying305 rfl HB2.out HF2.out HS2.out HFN.out S2.out wr.heap.size rfl ?_;intro w3 since seen c0 cnt S' R hsz he;have S3:=Lib.hid S';have HR:=Lib.hid R;have HC:=Lib.hid (rng_leK R);clear S' R he hsz))
   clear S2 HB2
   generalize wr.heap.size=r at *
   go_frame
   go_loopw [9,11] (fun v9 _ wx=>∃ L q m d since seen c0 cnt left,v9=.slice q m d∧Hid (m=L.length∧m+cnt≤k)∧Sep w wx [.iter r b since seen c0,.own 138 4 q m d (encQ L),.mapR b es clock]∧Hid (RngK kyS EQ16 es clock since seen c0 mm f left cnt)∧Hid (CameK f left L)) (fun _ _ wx=>wx.rangeLeft b r)
   case atStart=>exact⟨[],none,0,0,since,seen,c0,cnt,_,rfl,⟨rfl,by have:=HC.out;omega⟩,S3.out,HR,cameK_nil f⟩
   case round =>
    clear S3 HR HC since seen c0 cnt
    obtain⟨L,q,m,d,since,seen,c0,cnt,left,rfl,HL2,S,HR,HM⟩:=hrel
    have HBW:Hid (wr.heap[b]?=some (.map es clock)):=S.all _ (List.mem_of_getElem? (show _=some (Pc.mapR b es clock) from(rfl:_[2]?=_)))
    have SH:=Lib.hid S;clear S
    go_wp2_with (at_next;go_must (refine wpList_next_sepK (P:=Tryz.prog) (K:=kyS) (E:=EQ16) rfl _ rfl rfl HBW.out SH.out 0 rfl HR.out ?_ ?_))
    ·intro hall
     have HE:=Lib.hid (cameK_end HF.out HM.out hall)
     have hml:=HL2.out
     have HSO:=Lib.hid (SortM_sep SH.out 1 rfl HM.out.two (by omega))
     rw [HE.out] at HSO
     have HLN:Hid (m=(combM l).length):=by unfold Hid;rw [← HE.out,sortK_len];exact hml.1
     clear hall hml
     go_wp2_with (go_at_call 242;go_must (refine HSO.out.mono ?_;rintro e w5 ⟨rfl,Z⟩;have S5:=Lib.hid Z;clear Z))
     go_ret
     have S6:=S5.out
     rw [HLN.out] at S6
     exact⟨q,d,by rw [HLN.out];rfl,S6.pick [1] (by decide) rfl⟩
    ·intro t w1 since' seen' c0' cnt' hx hl hfx S1 R1 hc hsz hb1 hg1 hen
     obtain⟨κ,u⟩:=t
     have hen2:(Instr.entry (.pointer (some ⟨r,0,none⟩))).run Tryz.prog w1=.ok (.tuple #[.agg #[.int .i64 κ.s,.int .i64 κ.r,.int .i64 κ.v],.agg #[.int .i64 u.s,.int .i64 u.r,.int .i64 u.v,.int .i64 u.d]]) w1:=hen
     have hm1:wr.rangeLeft b r=cnt:=rng_leftK HBW.out (SH.out.iter 0 rfl) HR.out
     have HM2:=Lib.hid (cameK_step HF.out HM.out hfx hl)
     have HM1:=Lib.hid hm1
     have HC:=Lib.hid hc
     have hml:=HL2.out
     have hmk:m≤100000:=by omega
     have SX:=Lib.hid (S1.al #[.int .i64 u.s,.int .i64 u.r,.int .i64 u.v,.int .i64 u.d] 138 w1.heap.size rfl)
     have HR1:=Lib.hid R1;clear R1
     clear hg1 hsz HBW hen hb1 hc hm1 hx hl hfx hml
     go_wp2_with (at_builtin;go_must (refine wpList_append_sep rfl _ _ _ rfl 138 i0 _ 4 32 Tryz.underlying83 hi0 hz0 hz1 hz2 rfl (by omega) (SX.out.junk _) 2 q m d _ rfl rfl _ 1 1 _ rfl (Rd.newAt _ _ _ 1 4 _ (by simp) rfl (by omega)) (one_encQ [u]) (by omega) (by omega) ?_;intro q7 d7 w7 S' hsz7;have S7:Hid (Sep w w7 [.iter r b since' seen' c0',.own 138 4 q7 (m+1) d7 (encQ (L ++ [u])),.mapR b es clock]):=(by rw [encQ_append];exact S'.pick [1,2,3] (by decide) rfl);clear S' hsz7))
     go_roundw
     case rel=>exact⟨L ++ [u],q7,m+1,d7,since',seen',c0',cnt',_,rfl,(by have a1:=HL2.out;have a2:=HC.out;exact⟨by rw [List.length_append,a1.1];rfl,by omega⟩),S7.out,HR1,HM2⟩
     case measure=>rw [HM1.out,rng_leftK (S7.out.all _ (List.mem_of_getElem? (show _=some (Pc.mapR b es clock) from(rfl:_[2]?=_)))) (S7.out.iter 0 rfl) HR1.out];exact HC.out
end
section
open Go Go.RowKit
section
variable {P:Program}
theorem run_copyK (w:World) (dT sT ty elem:TypeId) (sz n b o dLen dCap:Nat) (a:Addr) (sLen sCap:Nat) (cs:List Value)
  (hu:P.underlying dT=some (.slice elem)) (hs:(P.info? elem).map (·.size)=some sz) (hn:n=Nat.min sLen dLen) (hl0:cs.length=n*sz)
  (hsrc:∀ j v,cs[j]?=some v→w.cell? (a.add j)=some v) (hc:∀ j,j<cs.length→(w.cell? ⟨b,o+j,none⟩).isSome=true) (hf:∀ j,j<cs.length→w.frozen? ⟨b,o+j,none⟩=false) (h1:∀ v∈cs,v.oneCell'=true) :
  (Builtin.copy_ #[dT,sT] ty #[.slice (some ⟨b,o,none⟩) dLen dCap,.slice (some a) sLen sCap]).run P w=.ok (goInt n) (w.setCells b o cs):=by
 have hl:=run_loadCells_list (P:=P) w a cs hsrc
 have hst:=run_storeCells_cells (P:=P) b o cs 0 w (by simpa using hc) (by simpa using hf) h1
 cases hq:P.info? elem with
 | none=>simp [hq] at hs
 | some i =>
  have hi:i.size=sz:=by simpa [hq] using hs
  rw [hl0] at hl
  simp [Builtin.copy_,run_underlying hu,Builtin.lenOf,Builtin.firstCells,sizeOf,typeInfo,hq,hi,← hn,hl,hst]
theorem run_copyK_none (w:World) (dT sT ty elem:TypeId) (sz:Nat) (d a:Option Addr) (dLen dCap sLen sCap:Nat) (hu:P.underlying dT=some (.slice elem)) (hs:(P.info? elem).map (·.size)=some sz) (hn:Nat.min sLen dLen=0) :
  (Builtin.copy_ #[dT,sT] ty #[.slice d dLen dCap,.slice a sLen sCap]).run P w=.ok (goInt 0) w:=by
 cases hq:P.info? elem with
 | none=>simp [hq] at hs
 | some i =>
  have hl:∀ (x:Addr),(loadCells x 0).run P w=.ok #[] w:=fun x=>by simpa using run_loadCells_list (P:=P) w x [] (by simp)
  cases d <;> cases a <;> simp [Builtin.copy_,run_underlying hu,Builtin.lenOf,Builtin.firstCells,sizeOf,typeInfo,hq,hn,storeCells,hl]
theorem own_cells {base:Nat} {e:TypeId} {size:Nat} {g n c:Nat}:∀ (cs:List Value) (o:Nat) (w:World) (xs:List Value),w.ownsRow base e size (.slice (some ⟨g,0,none⟩) n c) n xs→o+cs.length≤n*size →
  (w.setCells g o cs).ownsRow base e size (.slice (some ⟨g,0,none⟩) n c) n (splice xs o cs)∧w.grownBy (w.setCells g o cs) (some g)
 | [],o,w,xs,ho,_=>⟨by simpa [World.setCells,splice] using ho,World.grownBy.refl _ _⟩
 | v :: cs,o,w,xs,ho,h=>by
  simp only [List.length_cons] at h
  have hl:xs.length=n*size:=ho.1
  have h1:=own_put1 ho o (by omega) v
  have e1:adr (some ⟨g,0,none⟩) o=⟨g,o,none⟩:=by simp [adr]
  rw [e1] at h1
  obtain⟨h2,h3⟩:=own_cells cs (o+1) (w.setCell ⟨g,o,none⟩ v) (xs.set o v) h1 (by omega)
  have e2:splice (xs.set o v) (o+1) cs=splice xs o (v :: cs):=by
   unfold splice
   have hx:(xs.set o v).take (o+1)=xs.take o ++ [v]:=by
    rw [List.take_succ_eq_append_getElem (by rw [List.length_set];omega),List.take_set_of_le (Nat.le_refl _)]
    simp
   rw [hx,List.drop_set_of_lt (by omega)]
   simp [Nat.add_comm]
   omega
  rw [World.setCells,← e2]
  refine⟨h2,?_⟩
  have hg:=grown_set w ⟨g,o,none⟩ v
  exact⟨h3.os.trans hg.os,h3.tape.trans hg.tape,h3.output.trans hg.output,Nat.le_trans hg.size h3.size,fun k hk hne=>(h3.block k (Nat.lt_of_lt_of_le hk hg.size) hne).trans (hg.block k hk hne)⟩
theorem own_ptr {w:World} {base:Nat} {e:TypeId} {size:Nat} {q:Option Addr} {n c:Nat} {xs:List Value} (ho:w.ownsRow base e size (.slice q n c) n xs) (hn:0<n):∃ g,q=some ⟨g,0,none⟩:=by
 rcases ho.2 with ⟨_,h2⟩ | ⟨g,cap,cur,h1,_⟩
 ·omega
 ·injection h1 with h1;exact⟨g,h1⟩
theorem Sep.setCells {w0 w:World} {Γ:List Pc} (S:Sep w0 w Γ) (j:Nat) {e:TypeId} {size:Nat} {g n c:Nat} {xs:List Value} (hj:Γ[j]?=some (.own e size (some ⟨g,0,none⟩) n c xs)) (o:Nat) (cs:List Value) (h:o+cs.length≤n*size) :
  Sep w0 (w.setCells g o cs) (Γ.set j (.own e size (some ⟨g,0,none⟩) n c (splice xs o cs))):=by
 obtain⟨h1,h2⟩:=own_cells cs o w xs (S.own j hj) h
 exact S.put j hj _ h2 (fun k hk=>hk) (own_base h1 (Nat.zero_le _)) fun k hk=>.inl hk
theorem wpList_copy_sep {w0 w:World} {Γ:List Pc} {ops:Array Oper} {rest:List Oper} {o:Oper} {a:Act} {Q:Exit→Act→World→Prop} (hgd:o.guard=none) (d s:Operand) (dT sT:TypeId)
  (ho:o.op=.call { callee:=.builtin .copy,args:=#[d,s],argTypes:=#[dT,sT] }) (elem:TypeId) (hu:P.underlying dT=some (.slice elem)) (sz:Nat) (hs:(P.info? elem).map (·.size)=some sz)
  (S:Sep w0 w Γ) (j:Nat) {e:TypeId} {q:Option Addr} {n c:Nat} {xs:List Value} (hj:Γ[j]?=some (.own e sz q n c xs))
  (m off dLen dCap sLen sCap:Nat) (dp sp:Option Addr) (hd:a.eval d=.slice dp dLen dCap) (hsr:a.eval s=.slice sp sLen sCap) (hm:m=Nat.min sLen dLen) (hdp:0<m→dp=some (adr q (off*sz))) (hfit:off+m≤n)
  (cs:List Value) (hr:Rd w sz sp m cs) (h1:∀ u∈cs,u.oneCell'=true)
  (h:∀ w',Sep w0 w' (Γ.set j (.own e sz q n c (splice xs (off*sz) cs)))→w'.heap.size=w.heap.size→wpList P ops Q rest (a.put o.dst (.int .i64 m)) w') :
  wpList P ops Q (o :: rest) a w:=by
 have hrl:=hr.len
 refine wpList_plain hgd fun K' hK'=>?_
 have hjl:=(List.getElem?_eq_some_iff.1 hj).1
 rcases Nat.eq_zero_or_pos m with h0 | h0
 ·have hcs:cs=[]:=List.eq_nil_of_length_eq_zero (by rw [hrl,h0];simp)
  subst hcs
  have hrun:=run_copyK_none (P:=P) w dT sT o.type elem sz dp sp dLen dCap sLen sCap hu hs (by omega)
  have e1:splice xs (off*sz) []=xs:=by simp [splice]
  have e2:Γ.set j (.own e sz q n c xs)=Γ:=by
   obtain⟨h1,h2⟩:=List.getElem?_eq_some_iff.1 hj
   rw [← h2,List.set_getElem_self]
  have hh:=h w (by rw [e1,e2];exact S) rfl
  unfold Oper.wp
  simp [execOp,ho,hd,hsr,resolve,invoke,builtin,hrun,Result.andThen]
  subst h0
  exact hK' _ _ hh
 ·have hown:=S.own j hj
  obtain⟨g,rfl⟩:=own_ptr hown (by omega)
  obtain⟨ad,hsp⟩:∃ ad,sp=some ad:=by
   rcases hr.ptr with h2 | ⟨b,o,h2⟩
   ·omega
   ·exact⟨_,h2⟩
  have hb:off*sz+cs.length≤n*sz:=by rw [hrl,← Nat.add_mul];exact Nat.mul_le_mul_right _ hfit
  have hdp':=hdp h0
  have e1:adr (some ⟨g,0,none⟩) (off*sz)=⟨g,off*sz,none⟩:=by simp [adr]
  rw [e1] at hdp'
  have hrun:=run_copyK (P:=P) w dT sT o.type elem sz m g (off*sz) dLen dCap ad sLen sCap cs hu hs hm hrl (fun k v hk=>by
   have hk2:k<m*sz:=by rw [← hrl];exact(List.getElem?_eq_some_iff.1 hk).1
   have h3:=hr.cells k hk2
   rw [List.getD_eq_getElem?_getD,hk,Option.getD_some] at h3
   rw [← h3]
   congr 1
   rcases hr.ptr with h2 | ⟨b,o2,h2⟩
   ·omega
   ·rw [hsp] at h2
    injection h2 with h2
    subst h2
    rw [hsp,adr_some]
    by_cases hk0:k=0
    ·subst hk0;simp [Addr.add]
    ·simp [Addr.add,hk0])
   (fun k hk=>by
    have h3:=own_cell hown (k:=off*sz+k) (by omega)
    simp only [adr,Option.getD_some,Nat.zero_add] at h3
    rw [h3];rfl)
   (fun k hk=>by
    have h3:=own_frozen hown (by omega) (off*sz+k)
    simpa [adr] using h3) h1
  have hh:=h _ (S.setCells j hj (off*sz) cs hb) (by
   have:∀ (l:List Value) (o:Nat) (w:World),(w.setCells g o l).heap.size=w.heap.size:=fun l=>by
    induction l with
    | nil=>intro o w;rfl
    | cons v l ih=>intro o w;rw [World.setCells,ih];simp [World.setCell]
   exact this _ _ _)
  unfold Oper.wp
  rw [hdp'] at hd
  rw [hsp] at hsr
  simp [execOp,ho,hd,hsr,resolve,invoke,builtin,hrun,Result.andThen]
  exact hK' _ _ hh
theorem run_clearK (w:World) (t e ty:TypeId) (z:Value) (ht:P.underlying t=some (.slice e)) (hv:∀ w,(zeroValue e).run P w=.ok z w) (h1:∀ u∈z.cells.toList,u.oneCell'=true) (b o n c:Nat) (hn:0<n)
  (hc:∀ j,j<n*z.cells.size→(w.cell? ⟨b,o+j,none⟩).isSome=true) (hf:∀ j,j<n*z.cells.size→w.frozen? ⟨b,o+j,none⟩=false) :
  (Builtin.clear_ #[t] ty #[.slice (some ⟨b,o,none⟩) n c]).run P w=.ok (.tuple #[]) (w.setCells b o (Builtin.zeroCells z.cells n).toList):=by
 have hsz:(Builtin.zeroCells z.cells n).toList.length=n*z.cells.size:=by simp [Builtin.zeroCells]
 have hst:=run_storeCells_cells (P:=P) b o (Builtin.zeroCells z.cells n).toList 0 w (by rw [hsz];simpa using hc) (by rw [hsz];simpa using hf) (by
  intro u hu
  simp only [Builtin.zeroCells,Array.toList_map,List.mem_map,Array.mem_toList_iff,Array.mem_range] at hu
  obtain⟨i,hi,rfl⟩:=hu
  rcases Nat.eq_zero_or_pos z.cells.size with h0 | h0
  ·rw [h0] at hi;simp at hi
  ·rw [getElem!_pos z.cells _ (Nat.mod_lt _ h0)]
   exact h1 _ (by simp))
 simp only [Nat.add_zero] at hst
 obtain⟨m,rfl⟩:∃ m,n=m+1:=⟨n - 1,by omega⟩
 simp [Builtin.clear_,run_underlying ht,hv,hst]
end
end
section
open Go Go.RowKit
section
variable {P:Program} {w0 w:World} {Γ:List Pc}
theorem wpList_store_sep {ops:Array Oper} {rest:List Oper} {o:Oper} {a:Act} {Q:Exit→Act→World→Prop} (hgd:o.guard=none) (ty:TypeId) (x y:Operand) (ho:o.op=.store ty x y)
  (S:Sep w0 w Γ) (j:Nat) {e:TypeId} {size:Nat} {q:Option Addr} {n c:Nat} {xs:List Value} (hj:Γ[j]?=some (.own e size q n c xs)) (k:Nat) (hk:k<n) (cells:Array Value) (hsz:cells.size=size)
  (hx:a.eval x=.pointer (some (adr q (k*size)))) (hy:a.eval y=.agg cells) (hi:(P.info? ty).map (·.size)=some cells.size) (h1:cells.all (·.oneCell')=true)
  (h:∀ w',Sep w0 w' (Γ.set j (.own e size q n c (splice xs (k*size) cells.toList)))→w'.heap.size=w.heap.size→wpList P ops Q rest (a.put o.dst undef) w'):wpList P ops Q (o :: rest) a w:=by
 have hown:=S.own j hj
 obtain⟨g,rfl⟩:=own_ptr hown (by omega)
 have e1:adr (some ⟨g,0,none⟩) (k*size)=⟨g,k*size,none⟩:=by simp [adr]
 rw [e1] at hx
 have e2:(k+1)*size≤n*size:=Nat.mul_le_mul_right _ hk
 have e3:(k+1)*size=k*size+size:=Nat.succ_mul k size
 refine wpList_store_mid hgd ty x y ho g (k*size) cells hx hy (fun t ht=>?_) hi h1 (h _ (S.setCells j hj (k*size) cells.toList (by rw [Array.length_toList,hsz];omega)) ?_)
 ·have h3:=own_cell hown (k:=k*size+t) (by omega)
  have h4:=own_frozen hown (by omega) (k*size+t)
  simp only [adr,Option.getD_some,Nat.zero_add] at h3 h4
  exact⟨by rw [h3];rfl,h4⟩
 ·have:∀ (l:List Value) (o:Nat) (w:World),(w.setCells g o l).heap.size=w.heap.size:=fun l=>by
   induction l with
   | nil=>intro o w;rfl
   | cons v l ih=>intro o w;rw [World.setCells,ih];simp [World.setCell]
  exact this _ _ _
theorem clear_sep (S:Sep w0 w Γ) (j:Nat) {e t:TypeId} {z:Value} {size:Nat} {q:Option Addr} {n c:Nat} {xs:List Value} (hj:Γ[j]?=some (.own e size q n c xs)) (ht:P.underlying t=some (.slice e)) (hv:∀ w,(zeroValue e).run P w=.ok z w) (hz:z.cells.size=size) (h1:∀ u∈z.cells.toList,u.oneCell'=true) (i:Nat) (hi:i<n) :
  ∃ w2,(∀ ty,(Builtin.clear_ #[t] ty #[.slice (cutp q c i size) (n - i) (c - i)]).run P w=.ok (.tuple #[]) w2)∧Sep w0 w2 (Γ.set j (.own e size q i c (xs.take (i*size)))):=by
 have hown:=S.own j hj
 have hxl:xs.length=n*size:=hown.1
 have hc:=own_cap hown
 obtain⟨g,rfl⟩:=own_ptr hown (by omega)
 have e0:cutp (some ⟨g,0,none⟩) c i size=some ⟨g,i*size,none⟩:=by unfold cutp;rw [if_neg (by omega)];simp [Addr.add_lit]
 have e1:(n - i)*size=n*size - i*size:=Nat.sub_mul n i size
 have e2:i*size≤n*size:=Nat.mul_le_mul_right _ (Nat.le_of_lt hi)
 have hlen:(Builtin.zeroCells z.cells (n - i)).toList.length=(n - i)*size:=by simp [Builtin.zeroCells,hz]
 rw [e0]
 have hs:=S.setCells j hj (i*size) (Builtin.zeroCells z.cells (n - i)).toList (by rw [hlen];omega)
 have hjl:=(List.getElem?_eq_some_iff.1 hj).1
 have ho:=hs.own j (List.getElem?_set_self hjl)
 have hsp:splice xs (i*size) (Builtin.zeroCells z.cells (n - i)).toList=xs.take (i*size) ++ ((Builtin.zeroCells z.cells (n - i)).toList ++ xs.drop (i*size+(Builtin.zeroCells z.cells (n - i)).toList.length)):=rfl
 rw [hsp] at ho hs
 have ho2:=own_take (k:=i) ho (by rw [List.length_take,hxl];omega) (Nat.le_of_lt hi)
 have hf:=hs.put j (List.getElem?_set_self hjl) (.own e size (some ⟨g,0,none⟩) i c (xs.take (i*size))) (row:=none) (World.grownBy.refl _ _) (fun _ hk=>by cases hk) (own_base ho2 (Nat.zero_le _)) (fun _ hk=>.inl hk)
 rw [List.set_set] at hf
 refine⟨_,fun ty=>run_clearK w t e ty z ht hv h1 g (i*size) (n - i) (c - i) (by omega) (fun t ht=>?_) (fun t ht=>?_),hf⟩
 ·rw [hz,e1] at ht
  have h3:=own_cell hown (k:=i*size+t) (by omega)
  simp only [adr,Option.getD_some,Nat.zero_add] at h3
  rw [h3];rfl
 ·rw [hz,e1] at ht
  have h3:=own_frozen hown (by omega) (i*size+t)
  simpa [adr] using h3
end
end
section
open Go Go.RowKit
theorem PickG (n:Nat) (p:Int) (w:World) (hn:1≤n) (h2:n≤1000000000) :
  Calls Tryz.prog 240 #[.int .i64 n,.int .i64 p] w fun e w'=>∃ k:Nat,k<n∧e=.returned (.tuple #[.int .i64 k,.bool true])∧w'=w:=by
 obtain⟨a,ha⟩:∃ a,p.tmod (n:Int)=a:=⟨_,rfl⟩
 have hb:-(n:Int)<a∧a<n:=by
  have h3:=Int.natAbs_tmod p n
  have h4:p.natAbs % n<n:=Nat.mod_lt _ (by omega)
  rw [ha] at h3
  simp at h3
  omega
 obtain⟨b1,b2⟩:=hb
 have d1:(1:Int)≤(n:Int):=by omega
 have d2:(n:Int)≤1000000000:=by omega
 by_cases h0:a<0
 ·go_enter Tryz.func240,Tryz.ntmps240
  go_wp2
  go_ret2
  exact⟨(a+n).toNat,by omega,by show Ending.returned (.tuple #[.int .i64 (a+(n:Int)),.bool true])=_;rw [Int.toNat_of_nonneg (by omega)],rfl⟩
 ·go_enter Tryz.func240,Tryz.ntmps240
  go_wp2
  go_ret2
  exact⟨a.toNat,by omega,by show Ending.returned (.tuple #[.int .i64 a,.bool true])=_;rw [Int.toNat_of_nonneg (by omega)],rfl⟩
theorem ofOne (gi gp:Nat) (pp:Option Addr) (np cp:Nat) (ps:List Int) (i m:Nat) (w w0:World) (Γ:List Pc) (ji jp:Nat) (S:Sep w0 w Γ) (hi:Γ[ji]?=some (.blk gi 3 #[.int .i64 ((i:Int) - 1)])) (hp:Γ[jp]?=some (.blk gp 25 #[.slice pp np cp])) (hne:ji≠jp) (hps:Rd w0 1 pp np (encI ps)) (h1:1≤m) (hm:m≤1000000000) (h3:i≤1000000000) :
  Calls Tryz.prog 239 #[.int .i64 m,.pointer (some ⟨gi,0,none⟩),.pointer (some ⟨gp,0,none⟩)] w fun e w'=>∃ k:Nat,k<m∧e=.returned (.int .i64 k)∧Sep w0 w' (Γ.set ji (.blk gi 3 #[.int .i64 (((i+1:Nat):Int) - 1)])):=by
 obtain⟨a0,az,af⟩:=bkc0lz0 (S.blk ji hi)
 have hp2:(Γ.set ji (.blk gi 3 #[.int .i64 (i:Int)]))[jp]?=some (.blk gp 25 #[.slice pp np cp]):=by rw [List.getElem?_set_ne hne];exact hp
 have S1:=Lib.hid (show Sep w0 (w.setCell ⟨gi,0,none⟩ (.int .i64 (i:Int))) (Γ.set ji (.blk gi 3 #[.int .i64 (i:Int)])) from S.set ji hi 0 (.int .i64 (i:Int)))
 obtain⟨b0,bz⟩:=bkc0l (S1.out.blk jp hp2)
 have hi2:(Γ.set ji (.blk gi 3 #[.int .i64 (i:Int)]))[ji]?=some (.blk gi 3 #[.int .i64 (i:Int)]):=List.getElem?_set_self (List.getElem?_eq_some_iff.1 hi).1
 obtain⟨c0,cz⟩:=bkc0l (S1.out.blk ji hi2)
 have p1:=hps.ptr
 have n1:=hps.small
 have HP:=Lib.hid (hps.ext S1.out.ext)
 have HE:Hid (∀ k:Nat,k<m→∀ w',Sep w0 w' (Γ.set ji (.blk gi 3 #[.int .i64 (i:Int)]))→∃ k':Nat,k'<m∧Ending.returned (.int .i64 (k:Int))=.returned (.int .i64 k')∧Sep w0 w' (Γ.set ji (.blk gi 3 #[.int .i64 (((i+1:Nat):Int) - 1)]))):=fun k hk w' h=>⟨k,hk,rfl,by rw [show ((i+1:Nat):Int) - 1=(i:Int) by omega];exact h⟩
 have HG:=Lib.hid (fun p w'=>PickG m p w' h1 hm)
 simp at a0 b0 c0
 have q1:(i:Int) - 1+1=(i:Int):=by omega
 have q2:(0:Int)≤(i:Int):=by omega
 have q3:(i:Int)≤1000000000:=by omega
 clear S hi hp hp2 hi2 hps
 by_cases hlt:i<np
 ·have g1:=HP.out.cI hlt
  have e1:decide ((np:Int)≤(i:Int))=false:=by simp;omega
  go_enter Tryz.func239,Tryz.ntmps239
  go_wp2_with (go_at_call 240;refine(HG.out _ _).mono ?_;rintro e w' ⟨k,hk,rfl,rfl⟩)
  go_ret
  exact HE.out k hk _ S1.out
 ·have e1:decide ((np:Int)≤(i:Int))=true:=by simp;omega
  go_enter Tryz.func239,Tryz.ntmps239
  go_wp2
  go_ret
  exact HE.out 0 (by omega) _ S1.out
end
section
open Go Go.RowKit
theorem splice_take {xs:List Value} {i k sz:Nat} (h:xs.length=k*sz) (hi:i<k):(splice xs (i*sz) (xs.drop ((i+1)*sz))).take ((k - 1)*sz)=xs.take (i*sz) ++ xs.drop ((i+1)*sz):=by
 have e1:(i+1)*sz≤k*sz:=Nat.mul_le_mul_right _ hi
 have e2:(i+1)*sz=i*sz+sz:=Nat.succ_mul i sz
 have e3:(k - 1)*sz+sz=k*sz:=by rw [← Nat.succ_mul];congr 1;omega
 unfold splice
 rw [← List.append_assoc,List.take_append_of_le_length]
 ·rw [List.take_of_length_le]
  rw [List.length_append,List.length_take,List.length_drop,h];omega
 ·rw [List.length_append,List.length_take,List.length_drop,h];omega
theorem splice_all {xs cs:List Value} (h:xs.length=cs.length):splice xs 0 cs=cs:=by
 unfold splice
 rw [List.take_zero,List.nil_append,Nat.zero_add,List.drop_of_length_le (by omega),List.append_nil]
theorem encI_eraseIdx (l:List Int) (i:Nat):encI (l.eraseIdx i)=(encI l).take (i*1) ++ (encI l).drop ((i+1)*1):=by
 unfold encI
 rw [List.eraseIdx_eq_take_drop_succ,List.map_append,List.map_take,List.map_drop,Nat.mul_one,Nat.mul_one]
theorem encQ_take (l:List Sq) (i:Nat):encQ (l.take i)=(encQ l).take (i*4):=by
 induction l generalizing i with
 | nil=>simp [encQ]
 | cons x l ih =>
  cases i with
  | zero=>simp [encQ]
  | succ i =>
   rw [List.take_succ_cons]
   show [Value.int .i64 x.s,.int .i64 x.r,.int .i64 x.v,.int .i64 x.d] ++ encQ (l.take i)=List.take ((i+1)*4) ([Value.int .i64 x.s,.int .i64 x.r,.int .i64 x.v,.int .i64 x.d] ++ encQ l)
   rw [ih,show (i+1)*4=i*4+4 from by omega]
   rfl
theorem encQ_drop (l:List Sq) (i:Nat):encQ (l.drop i)=(encQ l).drop (i*4):=by
 induction l generalizing i with
 | nil=>simp [encQ]
 | cons x l ih =>
  cases i with
  | zero=>simp
  | succ i =>
   rw [List.drop_succ_cons]
   show encQ (l.drop i)=List.drop ((i+1)*4) ([Value.int .i64 x.s,.int .i64 x.r,.int .i64 x.v,.int .i64 x.d] ++ encQ l)
   rw [ih,show (i+1)*4=i*4+4 from by omega]
   rfl
theorem encQ_eraseIdx (l:List Sq) (i:Nat):encQ (l.eraseIdx i)=(encQ l).take (i*4) ++ (encQ l).drop ((i+1)*4):=by
 rw [List.eraseIdx_eq_take_drop_succ,encQ_append,encQ_take,encQ_drop]
theorem infQ:(Tryz.prog.info? 138).map (·.size)=some 4:=by kernel_rfl
theorem infI1:(Tryz.prog.info? 3).map (·.size)=some 1:=by kernel_rfl
section
variable {P:Program} {w0 w:World} {Γ:List Pc}
theorem copy_shift (S:Sep w0 w Γ) (j:Nat) {e:TypeId} {sz:Nat} {q:Option Addr} {k c:Nat} {xs:List Value} (hj:Γ[j]?=some (.own e sz q k c xs)) (dT sT ty elem:TypeId) (hu:P.underlying dT=some (.slice elem)) (hs:(P.info? elem).map (·.size)=some sz) (hsz:0<sz)
  (h1:∀ u∈xs,u.oneCell'=true) (i:Nat) (hi:i<k) :
  ∃ w2,(Builtin.copy_ #[dT,sT] ty #[.slice (cutp q c i sz) (k - i) (c - i),.slice (cutp q c (i+1) sz) (k - (i+1)) (c - (i+1))]).run P w=.ok (.int .i64 ((k - (i+1):Nat):Int)) w2 ∧
   Sep w0 w2 (Γ.set j (.own e sz q (k - 1) c (xs.take (i*sz) ++ xs.drop ((i+1)*sz)))):=by
 have hown:=S.own j hj
 have hxl:xs.length=k*sz:=hown.1
 have hkc:=own_cap hown
 obtain⟨g,rfl⟩:=own_ptr hown (by omega)
 have e1:(i+1)*sz≤k*sz:=Nat.mul_le_mul_right _ hi
 have e2:(i+1)*sz=i*sz+sz:=Nat.succ_mul i sz
 have hmin:Nat.min (k - (i+1)) (k - i)=k - (i+1):=by show min _ _=_;omega
 have hdl:(xs.drop ((i+1)*sz)).length=(k - (i+1))*sz:=by rw [List.length_drop,hxl,Nat.sub_mul]
 have fin:∀ w2,Sep w0 w2 (Γ.set j (.own e sz (some ⟨g,0,none⟩) k c (splice xs (i*sz) (xs.drop ((i+1)*sz)))))→Sep w0 w2 (Γ.set j (.own e sz (some ⟨g,0,none⟩) (k - 1) c (xs.take (i*sz) ++ xs.drop ((i+1)*sz)))):=fun w2 h=>by
  have hjl:=(List.getElem?_eq_some_iff.1 hj).1
  have ho:=h.own j (List.getElem?_set_self hjl)
  have hsp:splice xs (i*sz) (xs.drop ((i+1)*sz))=(xs.take (i*sz) ++ xs.drop ((i+1)*sz)) ++ (splice xs (i*sz) (xs.drop ((i+1)*sz))).drop ((k - 1)*sz):=by
   rw [← splice_take hxl hi,List.take_append_drop]
  rw [hsp] at ho
  have ho2:=own_take (k:=k - 1) ho (by rw [List.length_append,List.length_take,hdl,hxl,show k - 1=i+(k - (i+1)) from by omega,Nat.add_mul];omega) (by omega)
  have:=h.put j (List.getElem?_set_self hjl) (.own e sz (some ⟨g,0,none⟩) (k - 1) c (xs.take (i*sz) ++ xs.drop ((i+1)*sz))) (row:=none) (World.grownBy.refl _ _) (fun _ hk=>by cases hk) (own_base ho2 (Nat.zero_le _)) (fun _ hk=>.inl hk)
  rwa [List.set_set] at this
 rcases Nat.eq_zero_or_pos (k - (i+1)) with h0 | h0
 ·refine⟨w,?_,fin w ?_⟩
  ·rw [h0] at hmin ⊢
   exact run_copyK_none w dT sT ty elem sz _ _ _ _ _ _ hu hs hmin
  ·have hnil:xs.drop ((i+1)*sz)=[]:=List.eq_nil_of_length_eq_zero (by rw [hdl,h0,Nat.zero_mul])
   have e3:splice xs (i*sz) (xs.drop ((i+1)*sz))=xs:=by rw [hnil];simp [splice]
   rw [e3]
   have e4:Γ.set j (.own e sz (some ⟨g,0,none⟩) k c xs)=Γ:=by
    obtain⟨h1,h2⟩:=List.getElem?_eq_some_iff.1 hj
    rw [← h2,List.set_getElem_self]
   rw [e4];exact S
 ·have hc1:cutp (some ⟨g,0,none⟩) c i sz=some ⟨g,i*sz,none⟩:=by unfold cutp;rw [if_neg (by omega)];simp [Addr.add_lit]
  have hc2:cutp (some ⟨g,0,none⟩) c (i+1) sz=some ⟨g,(i+1)*sz,none⟩:=by unfold cutp;rw [if_neg (by omega)];simp [Addr.add_lit]
  rw [hc1,hc2]
  refine⟨w.setCells g (i*sz) (xs.drop ((i+1)*sz)),?_,fin _ (S.setCells j hj (i*sz) _ (by rw [hdl];rw [← Nat.add_mul];exact Nat.mul_le_mul_right _ (by omega)))⟩
  refine run_copyK w dT sT ty elem sz (k - (i+1)) g (i*sz) (k - i) (c - i) ⟨g,(i+1)*sz,none⟩ (k - (i+1)) (c - (i+1)) _ hu hs hmin.symm hdl (fun t v ht=>?_) (fun t ht=>?_) (fun t ht=>?_) (fun v hv=>h1 v (List.mem_of_mem_drop hv))
  ·have ht2:t<(k - (i+1))*sz:=by rw [← hdl];exact(List.getElem?_eq_some_iff.1 ht).1
   rw [List.getElem?_drop] at ht
   have hlt:(i+1)*sz+t<k*sz:=by rw [← hxl];exact(List.getElem?_eq_some_iff.1 ht).1
   have:=own_cell hown hlt
   rw [List.getD_eq_getElem?_getD,ht,adr_some] at this
   rw [Addr.add_lit]
   simpa using this
  ·rw [hdl,Nat.sub_mul] at ht
   have:=own_cell hown (k:=i*sz+t) (by omega)
   rw [adr_some] at this
   simp only [Nat.zero_add] at this
   rw [this];rfl
  ·rw [hdl,Nat.sub_mul] at ht
   have:=own_frozen hown (by omega) (i*sz+t)
   rw [adr_some] at this
   simpa using this
end
end
section
open Go Go.RowKit Go.Maps
theorem zeroBo (w:World):(zeroValue 4).run Tryz.prog w=.ok (.bool false) w:=by kernel_rfl
noncomputable def EB19:ElmR Tryz.prog 4 Bool:=elmBK Tryz.prog 4 zeroBo
theorem freshCl (gt b m:Nat) (f:Ky→Option Bool) (x:Sq) (w:World) (hB:Blk w gt 272 #[.map (some b)]) (hM:MapK kyS EB19 b m f w) (hx:kyS.ok x.ky) :
  Calls Tryz.prog 208 #[.agg #[.int .i64 x.s,.int .i64 x.r,.int .i64 x.v,.int .i64 x.d],.pointer (some ⟨gt,0,none⟩)] w fun e w'=>e=.returned (.bool ((f x.ky).getD false))∧Ext w w':=by
 have b0:w.cell? ⟨gt,0,none⟩=some (.map (some b)):=hB.cell 0
 have bz:=hB.lt
 have hE:=((Sep.start w).al #[.int .i64 x.s,.int .i64 x.r,.int .i64 x.v,.int .i64 x.d] 138 w.heap.size rfl).ext
 have k0:=(hM.ext hE).lookup (t:=272) Tryz.underlying272 hx
 have k1:(Instr.lookup 272 (.map (some b)) (.agg #[.int .i64 x.s,.int .i64 x.r,.int .i64 x.v]) false).run Tryz.prog (w.alloc (.cells #[.int .i64 x.s,.int .i64 x.r,.int .i64 x.v,.int .i64 x.d] 138))=.ok (.bool ((f x.ky).getD false)) (w.alloc (.cells #[.int .i64 x.s,.int .i64 x.r,.int .i64 x.v,.int .i64 x.d] 138)):=k0
 have HE:=Lib.hid hE
 clear hB hM hx hE k0
 generalize ((f x.ky).getD false)=r at *
 go_enter Tryz.func208,Tryz.ntmps208
 go_wp2
 go_ret
 exact⟨rfl,HE.out⟩
theorem IndexFresh (gt b m:Nat) (f:Ky→Option Bool) (p:Option Addr) (n c:Nat) (l:List Sq) (w:World) (hl:Rd w 4 p n (encQ l)) (hB:Blk w gt 272 #[.map (some b)]) (hM:MapK kyS EB19 b m f w) (hx:∀ x∈l,kyS.ok x.ky) :
  Calls Tryz.prog 210 #[.slice p n c,.func (.func 208) #[] #[.pointer (some ⟨gt,0,none⟩)]] w fun e w'=>∃ i:Int,e=.returned (.int .i64 i)∧Ext w w'∧((i = -1∧∀ j,j<n→((f (nth l j).ky).getD false)=false)∨∃ k:Nat,i=k∧k<n∧((f (nth l k).ky).getD false)=true∧∀ j,j<k→((f (nth l j).ky).getD false)=false):=by
 have p1:=hl.ptr
 have n1:=hl.small
 have l1:=hl.nQ
 have HL:=Lib.hid hl;clear hl
 have L1:=Lib.hid l1;clear l1
 have HX:=Lib.hid hx;clear hx
 have HC:=Lib.hid (fun x W (h:Ext w W) hx=>freshCl gt b m f x W (hB.ext h) (hM.ext h) hx)
 clear hB hM
 go_enter Tryz.func210,Tryz.ntmps210
 go_wp2
 go_loopw [5,8] (fun _ i wr=>∃ k:Nat,k≤n∧i=.int .i64 k∧Hid (∀ j,j<k→((f (nth l j).ky).getD false)=false)∧Ext w wr) (fun _ i _=>n - (intOf i).toNat)
 case atStart=>exact⟨0,Nat.zero_le _,rfl,fun j hj=>by omega,Below.refl _ _⟩
 case round =>
  obtain⟨k,hk,rfl,HA,hE⟩:=hrel
  by_cases hlt:k<n
  ·obtain⟨g1,g2,g3,g4⟩:=(HL.out.ext hE).cQ hlt
   have hkl:k<l.length:=by rw [← L1.out];exact hlt
   have HC2:=Lib.hid (HC.out (nth l k) wr hE (HX.out _ (nth_mem hkl)))
   have d1:(0:Int)≤k:=by omega
   have d2:(k:Int)<n:=by omega
   have HE:=Lib.hid hE
   clear hE
   cases hr:((f (nth l k).ky).getD false) with
   | true =>
    have HR:=Lib.hid hr
    rw [hr] at HC2
    clear hr hkl
    generalize nth l k=x at HC2 g1 g2 g3 g4
    go_wp2_with (go_at_call 208;go_must (refine HC2.out.mono ?_;rintro e w' ⟨rfl,hb⟩;have HX2:=Lib.hid (Ext.trans HE.out hb);clear hb))
    go_ret
    exact⟨_,rfl,HX2.out,.inr ⟨k,rfl,hlt,HR.out,HA.out⟩⟩
   | false =>
    have HR:=Lib.hid hr
    rw [hr] at HC2
    clear hr hkl
    generalize nth l k=x at HC2 g1 g2 g3 g4
    go_wp2_with (go_at_call 208;go_must (refine HC2.out.mono ?_;rintro e w' ⟨rfl,hb⟩;have HX2:=Lib.hid (Ext.trans HE.out hb);clear hb))
    go_roundw
    case rel=>exact⟨k+1,by omega,by go_num,fun j hj=>by
     rcases Nat.lt_or_ge j k with h | h
     ·exact HA.out j h
     ·obtain rfl:j=k:=by omega
      exact HR.out,HX2.out⟩
    case measure=>simp [intOf];omega
  ·have HE:=Lib.hid hE
   clear hE
   go_wp2
   go_ret
   exact⟨_,rfl,HE.out,.inl ⟨rfl,fun j hj=>HA.out j (by omega)⟩⟩
end
section
open Go Go.RowKit Go.Maps
structure KeptL (pr:Sq→Bool) (l X:List Sq) (i j:Nat):Prop where
 len:X.length=l.length
 lt:i<j
 le:j≤l.length
 low:X.take i=(l.take j).filter fun x=>!pr x
 high:X.drop j=l.drop j
theorem kept_start {pr:Sq→Bool} {l:List Sq} {k:Nat} (hk:k<l.length) (ht:pr (nth l k)=true) (h:∀ j,j<k→pr (nth l j)=false):KeptL pr l l k (k+1):=by
 refine⟨rfl,by omega,hk,?_,rfl⟩
 rw [take_succ_nth l k hk,List.filter_append]
 have h1:(l.take k).filter (fun x=>!pr x)=l.take k:=List.filter_eq_self.2 fun x hx=>by
  obtain⟨i,hi,rfl⟩:=List.mem_iff_getElem.1 hx
  rw [List.length_take] at hi
  have:=h i (by omega)
  rw [nth_eq (by omega)] at this
  rw [List.getElem_take,this];rfl
 rw [h1];simp [ht]
theorem kept_nth {pr:Sq→Bool} {l X:List Sq} {i j:Nat} (h:KeptL pr l X i j) (hj:j<l.length):nth X j=nth l j:=by
 have:=h.high
 rw [drop_nth X j (by rw [h.len];exact hj),drop_nth l j hj] at this
 injection this
theorem kept_skip {pr:Sq→Bool} {l X:List Sq} {i j:Nat} (h:KeptL pr l X i j) (hj:j<l.length) (hp:pr (nth l j)=true):KeptL pr l X i (j+1):=by
 refine⟨h.len,by have:=h.lt;omega,hj,?_,?_⟩
 ·rw [h.low,take_succ_nth l j hj,List.filter_append];simp [hp]
 ·rw [← List.drop_drop,h.high,List.drop_drop]
theorem kept_keep {pr:Sq→Bool} {l X:List Sq} {i j:Nat} (h:KeptL pr l X i j) (hj:j<l.length) (hp:pr (nth l j)=false):KeptL pr l (X.set i (nth l j)) (i+1) (j+1):=by
 have h1:=h.lt
 have h2:=h.len
 refine⟨by rw [List.length_set];exact h.len,by omega,hj,?_,?_⟩
 ·rw [List.take_succ_eq_append_getElem (by rw [List.length_set];omega),List.take_set_of_le (Nat.le_refl _),h.low,take_succ_nth l j hj,List.filter_append]
  simp [hp]
 ·rw [List.drop_set_of_lt (by omega),← List.drop_drop,h.high,List.drop_drop]
theorem encQ_set (X:List Sq) (i:Nat) (x:Sq) (h:i<X.length):splice (encQ X) (i*4) [.int .i64 x.s,.int .i64 x.r,.int .i64 x.v,.int .i64 x.d]=encQ (X.set i x):=by
 have e:X.set i x=X.take i ++ ([x] ++ X.drop (i+1)):=by
  rw [List.set_eq_take_append_cons_drop,if_pos h];rfl
 rw [e,encQ_append,encQ_append,encQ_take,encQ_drop,show (i+1)*4=i*4+4 from by omega]
 rfl
theorem filt_none {pr:Sq→Bool} {l:List Sq} (h:∀ j,j<l.length→pr (nth l j)=false):l.filter (fun x=>!pr x)=l:=List.filter_eq_self.2 fun x hx=>by
 obtain⟨i,hi,rfl⟩:=List.mem_iff_getElem.1 hx
 have:=h i hi
 rw [nth_eq hi] at this
 rw [this];rfl
theorem DeleteFresh (gt b m:Nat) (f:Ky→Option Bool) (q:Option Addr) (n c:Nat) (l:List Sq) (w w0:World) (S:Sep w0 w [.own 138 4 q n c (encQ l),.blk gt 272 #[.map (some b)],.mapK kyS EB19 b m f]) (hx:∀ x∈l,kyS.ok x.ky) (hn:n≤100000) :
  Calls Tryz.prog 206 #[.slice q n c,.func (.func 208) #[] #[.pointer (some ⟨gt,0,none⟩)]] w fun e w'=>e=.returned (.slice q (l.filter fun x=>!((f x.ky).getD false)).length c)∧Sep w0 w' [.own 138 4 q (l.filter fun x=>!((f x.ky).getD false)).length c (encQ (l.filter fun x=>!((f x.ky).getD false))),.blk gt 272 #[.map (some b)],.mapK kyS EB19 b m f]:=by
 have hI:=IndexFresh gt b m f q n c l w (S.rdx 0 rfl) (S.blk 1 rfl) (S.mapK 2 rfl) hx
 have L1:=Lib.hid (S.rdx 0 rfl).nQ
 have HX:=Lib.hid hx
 have HIX:=Lib.hid hI
 have kc:n≤c:=own_cap (S.own 0 rfl)
 have S0:=Lib.hid S;clear S
 clear hx hI
 obtain⟨pr,hpr⟩:∃ pr:Sq→Bool,(fun x:Sq=>((f x.ky).getD false))=pr:=⟨_,rfl⟩
 have hpx:∀ x:Sq,((f x.ky).getD false)=pr x:=fun x=>congrFun hpr x
 have hfe:(fun x:Sq=>!((f x.ky).getD false))=fun x=>!pr x:=funext fun x=>by rw [hpx]
 rw [hfe]
 have HPX:=Lib.hid hpx
 clear hpr hpx hfe
 by_cases hall:∀ j,j<n→pr (nth l j)=false
 ·have HF:Hid (l.filter (fun x=>!pr x)=l):=filt_none fun j hj=>hall j (by rw [L1.out];exact hj)
  have HAL:=Lib.hid hall
  clear hall
  rw [HF.out]
  go_enter Tryz.func206,Tryz.ntmps206
  go_wp2_with (go_at_call 210;go_must (refine HIX.out.mono ?_;rintro e w1 ⟨i,rfl,hb,hc⟩;have S1:=Lib.hid (S0.out.call hb);obtain rfl:i = -1:=(hc.resolve_right (by rintro⟨k,_,h1,h2,_⟩;rw [HPX.out,HAL.out k h1] at h2;cases h2)).1;clear hc hb))
  go_ret
  exact⟨by rw [← L1.out];rfl,by rw [← L1.out];exact S1.out⟩
 ·have HAL:=Lib.hid hall
  clear hall
  go_enter Tryz.func206,Tryz.ntmps206
  go_wp2_with (go_at_call 210;go_must (refine HIX.out.mono ?_;rintro e w1 ⟨i,rfl,hb,hc⟩;have S1:=Lib.hid (S0.out.call hb);obtain⟨k0,rfl,hk0,ht,hbef⟩:=hc.resolve_left (by rintro⟨_,h1⟩;exact HAL.out fun j hj=>by rw [← HPX.out];exact h1 j hj);have HK:=Lib.hid (kept_start (pr:=pr) (l:=l) (k:=k0) (by rw [← L1.out];exact hk0) (by rw [← HPX.out];exact ht) (fun j hj=>by rw [← HPX.out];exact hbef j hj));have e0:((k0:Int) == -1)=false:=(beq_eq_false_iff_ne.2 (by omega));clear hb ht hbef))
  go_loopw [5,6,7] (fun v5 v6 _ wr=>∃ (i j:Nat) (X:List Sq),v5=.int .i64 i∧v6=.int .i64 j∧i<j∧j≤n∧Hid (KeptL pr l X i j)∧Hid (Sep w0 wr [.own 138 4 q n c (encQ X),.blk gt 272 #[.map (some b)],.mapK kyS EB19 b m f])) (fun _ v6 _ _=>n - (intOf v6).toNat)
  case atStart=>exact⟨k0,k0+1,l,rfl,by go_num,by omega,by omega,HK,S1⟩
  case round =>
   clear S1 HK e0 hk0
   obtain⟨i,j,X,rfl,rfl,hij,hj,HK,S⟩:=hrel
   by_cases hlt:j<n
   ·have hjl:j<l.length:=by rw [← L1.out];exact hlt
    have hnx:=kept_nth HK.out hjl
    obtain⟨g1,g2,g3,g4⟩:=(S.out.rdx 0 rfl).cQ hlt
    rw [hnx] at g1 g2 g3 g4
    have pq:=(S.out.rdx 0 rfl).ptr
    have HOK:=Lib.hid (HX.out _ (nth_mem hjl))
    have d1:(0:Int)≤i:=by omega
    have d2:(i:Int)<n:=by omega
    have d3:(0:Int)≤j:=by omega
    have d4:(j:Int)<n:=by omega
    have d5:(n:Int)≤100000:=by omega
    have SB:=Lib.hid (S.out.al #[.int .i64 (nth l j).s,.int .i64 (nth l j).r,.int .i64 (nth l j).v,.int .i64 (nth l j).d] 138 wr.heap.size rfl)
    have HC:=Lib.hid (freshCl gt b m f (nth l j) _ (SB.out.blk 2 rfl) (SB.out.mapK 3 rfl) HOK.out)
    rw [HPX.out] at HC
    cases hp:pr (nth l j) with
    | true =>
     have HKS:=Lib.hid (kept_skip HK.out hjl hp)
     rw [hp] at HC
     clear hp hnx S HK hjl HOK
     generalize nth l j=x at *
     go_wp2_with (go_at_call 208;go_must (refine HC.out.mono ?_;rintro e w' ⟨rfl,hb⟩;have S2:=Lib.hid (SB.out.call hb);clear hb))
     go_roundw
     case rel=>exact⟨i,j+1,X,rfl,by go_num,by omega,by omega,HKS,S2.out.pick [1,2,3] (by decide) rfl⟩
     case measure=>simp [intOf];omega
    | false =>
     have HKS:=Lib.hid (kept_keep HK.out hjl hp)
     have hil:i<X.length:=by rw [HK.out.len];omega
     have HES:=Lib.hid (fun x=>encQ_set X i x hil)
     rw [hp] at HC
     clear hp hnx S HK hjl HOK hil
     generalize nth l j=x at *
     go_wp2_with (first
      | (have _t:=S2;with_reducible show wpList _ _ _ (⟨none,.store 138 (.tmp 33) _,_,_,_,_⟩:: _) _ _;go_must (refine wpList_store_sep rfl 138 _ _ rfl S2.out 1 rfl i (by omega) #[.int .i64 x.s,.int .i64 x.r,.int .i64 x.v,.int .i64 x.d] (by simp) rfl rfl (by rw [infQ];simp) (by simp [Value.oneCell']) ?_;intro w5 S' hsz;have S5:=Lib.hid S';clear S' hsz))
      | (go_at_call 208;go_must (refine HC.out.mono ?_;rintro e w' ⟨rfl,hb⟩;have S2:=Lib.hid (SB.out.call hb);obtain⟨x0,x1,x2,x3,xz⟩:=bkc0c1c2c3l (S2.out.blk 0 rfl);clear hb)))
     go_roundw
     case rel=>exact⟨i+1,j+1,X.set i x,by go_num,by go_num,by omega,by omega,HKS,by rw [← HES.out];exact S5.out.pick [1,2,3] (by decide) rfl⟩
     case measure=>simp [intOf];omega
   ·obtain rfl:j=n:=by omega
    have d1:(0:Int)≤i:=by omega
    have d2:(i:Int)<j:=by omega
    have d5:(j:Int)≤100000:=by omega
    obtain⟨w2,hcl,S'⟩:=clear_sep (P:=Tryz.prog) (t:=83) (z:=.agg #[.int .i64 0,.int .i64 0,.int .i64 0,.int .i64 0]) S.out 0 rfl Tryz.underlying83 zeroMl rfl (by intro u hu;simp [Value.cells] at hu;rcases hu with rfl | rfl | rfl | rfl <;> rfl) i hij
    have hlow:=HK.out.low
    rw [show l.take j=l from List.take_of_length_le (by rw [L1.out];exact Nat.le_refl _)] at hlow
    have hen:=congrArg encQ hlow
    rw [encQ_take] at hen
    rw [hen] at S'
    have HLN:Hid (i=(l.filter fun x=>!pr x).length):=by
     unfold Hid
     rw [← hlow,List.length_take,HK.out.len,← L1.out];omega
    have S9:=Lib.hid S'
    have hc2:cutp q c i 4=q.map (fun x=>x.add (i*4)):=by unfold cutp;rw [if_neg (by omega)]
    have hcl2:=hcl
    rw [hc2] at hcl2
    have hq0:Hid (cutp q c 0 4=q):=by
     obtain⟨g,rfl⟩:=own_ptr (S.out.own 0 rfl) (by omega)
     unfold Hid cutp;simp [Addr.add]
    have ec:¬ c=i:=by omega
    have pq:=(S.out.rdx 0 rfl).ptr
    have d6:i≤j:=by omega
    have d7:i≤c:=by omega
    clear S' hen hlow hc2 HK S
    go_wp2
    go_ret
    refine⟨?_,?_⟩
    ·show Ending.returned (.slice (cutp q c 0 4) i c)=_
     rw [hq0.out,← HLN.out]
    rw [← HLN.out]
    exact S9.out
end
section
open Go Go.RowKit Go.Maps
theorem combM_in {M:List Sq} {x:Sq} (h:x∈combM M):x∈M:=(combM_mem.1 h).1
theorem fresh_filt {st M:List Sq} {f:Ky→Option Bool} (h:ThereK st f):((combM M).filter fun x=>!((f x.ky).getD false))=freshM st M:=by
 unfold freshM
 congr 1
 funext x
 rw [thereK_has h]
theorem FreshG (ps:Option Addr) (ns cs:Nat) (st:List Sq) (pm:Option Addr) (nm cm:Nat) (M:List Sq) (w:World) (hs:Rd w 4 ps ns (encQ st)) (hm:Rd w 4 pm nm (encQ M)) (hi:∀ x∈st,x.I) (hj:∀ x∈M,x.I) (hns:ns≤100000) (hnm:nm≤100000) :
  Calls Tryz.prog 141 #[.slice ps ns cs,.slice pm nm cm] w fun e w'=>∃ q c,e=.returned (.slice q (freshM st M).length c)∧Sep w w' [.own 138 4 q (freshM st M).length c (encQ (freshM st M))]:=by
 have p1:=hs.ptr
 have n1:=hs.small
 have L1:=Lib.hid hs.nQ
 have LM:=Lib.hid hm.nQ
 have HI:=Lib.hid hi
 have HJ:=Lib.hid hj
 have HL:=Lib.hid hs
 have HC:=Lib.hid (fun W (h:Ext w W)=>CombineG pm nm cm M W (hm.ext h) hj hnm)
 clear hs hm hi hj
 obtain⟨F,hF⟩:∃ F,freshM st M=F:=⟨_,rfl⟩
 rw [hF]
 have HFM:=Lib.hid hF
 clear hF
 have hmm:=@run_makeMap Tryz.prog
 have S0:=Lib.hid (((Sep.start w).mkmapK (K:=kyS) EB19).al #[.map (some w.heap.size)] 272 (w.heap.size+1) (by simp))
 go_enter Tryz.func141,Tryz.ntmps141
 go_wp2
 go_loopw [7,11] (fun _ i wr=>∃ (k mm:Nat) (f:Ky→Option Bool),k≤ns∧mm≤k∧i=.int .i64 k∧Sep w wr [.blk (w.heap.size+1) 272 #[.map (some w.heap.size)],.mapK kyS EB19 w.heap.size mm f]∧Hid (ThereK (st.take k) f)) (fun _ i _=>ns - (intOf i).toNat)
 case atStart=>exact⟨0,0,_,Nat.zero_le _,Nat.le_refl _,rfl,S0.out,thereK_nil⟩
 case round =>
  clear S0
  obtain⟨k,mm,f,hk,hmk,rfl,S,HF⟩:=hrel
  have b0:wr.cell? ⟨w.heap.size+1,0,none⟩=some (.map (some w.heap.size)):=(S.blk 0 rfl).cell 0
  have bz:=(S.blk 0 rfl).lt
  by_cases hlt:k<ns
  ·obtain⟨g1,g2,g3,g4⟩:=(HL.out.ext S.ext).cQ hlt
   have hkl:k<st.length:=by rw [← L1.out];exact hlt
   have hx:=HI.out (nth st k) (nth_mem hkl)
   have HT:=Lib.hid (take_succ_nth st k hkl)
   obtain⟨x,hxl⟩:∃ x,nth st k=x:=⟨_,rfl⟩
   rw [hxl] at g1 g2 g3 g4 hx HT
   have hok:kyS.ok x.ky:=⟨hx.1,hx.2.1,hx.2.2.1⟩
   have S2:=Lib.hid (S.al #[.int .i64 x.s,.int .i64 x.r,.int .i64 x.v,.int .i64 x.d] 146 wr.heap.size rfl)
   have d1:(0:Int)≤k:=by omega
   have d2:(k:Int)<ns:=by omega
   clear hxl S hx hkl
   go_wp2_with (at_mapUpdate;go_must (refine wpList_update_sepK (K:=kyS) (E:=EB19) (P:=Tryz.prog) rfl _ _ _ _ rfl Tryz.underlying272 rfl S2.out 2 rfl (by omega) x.ky true rfl rfl hok ?_;intro w5 S' hg;have S5:=Lib.hid S';clear S' hg))
   go_roundw
   case rel=>exact⟨k+1,mm+1,_,by omega,by omega,by go_num,S5.out.pick [1,2] (by decide) rfl,by rw [HT.out];exact thereK_put x HF.out⟩
   case measure=>simp [intOf];omega
  ·obtain rfl:k=ns:=by omega
   rw [List.take_of_length_le (by rw [← L1.out];exact Nat.le_refl _)] at HF
   have HFF:=Lib.hid ((fresh_filt (M:=M) HF.out).trans HFM.out)
   have HC2:=Lib.hid (HC.out wr S.ext)
   have HCL:Hid ((combM M).length≤100000):=by
    unfold Hid
    have:=combM_len M
    have:=LM.out
    omega
   have SH:=Lib.hid S;clear S
   have HOK:Hid (∀ x∈combM M,kyS.ok x.ky):=fun x hx=>by
    have:=HJ.out x (combM_in hx)
    exact⟨this.1,this.2.1,this.2.2.1⟩
   obtain⟨C,hC⟩:∃ C,combM M=C:=⟨_,rfl⟩
   rw [hC] at HC2 HFF HCL HOK
   clear hC HC
   go_wp2_with (first
    | (go_at_call 207;go_must (refine HC2.out.mono ?_;rintro e w2 ⟨q,c2,rfl,Z⟩;have S2:=Lib.hid (SH.out.comp Z);have HD:=Lib.hid (DeleteFresh (w.heap.size+1) w.heap.size mm f q C.length c2 C w2 w S2.out HOK.out HCL.out);rw [HFF.out] at HD;clear Z))
    | (go_at_call 206;go_must (refine HD.out.mono ?_;rintro e w3 ⟨rfl,Z⟩;have S3:=Lib.hid Z;clear Z)))
   go_ret
   exact⟨q,c2,rfl,S3.out.pick [0] (by decide) rfl⟩
end
section
open Go Go.RowKit
theorem homeV_val {v:Int} {n:Nat} (hn:1≤n):(v*40503+12345) % 65536 % (n:Int)=(homeV v n:Int):=by
 unfold homeV
 have h3:0≤(v*40503+12345) % 65536 % (n:Int):=Int.emod_nonneg _ (by omega)
 omega
theorem HomeG (v:Int) (n:Nat) (w:World) (h0:0≤v) (h1:v≤1000000) (hn:1≤n) (h16:n≤16) :
  Calls Tryz.prog 50 #[.int .i64 v,.int .i64 n] w fun e w'=>e=.returned (.tuple #[.int .i64 (homeV v n),.bool true])∧w=w':=by
 have E1:=Lib.hid (homeV_val (v:=v) hn)
 have d1:(1:Int)≤(n:Int):=by omega
 have d2:(n:Int)≤16:=by omega
 have c1:decide (v<0)=false:=by simpa using h0
 have c2:decide (1000000<v)=false:=by simpa using h1
 have c3:decide ((n:Int)<1)=false:=by simpa using d1
 have c4:decide (16<(n:Int))=false:=by simpa using d2
 go_enter Tryz.func50,Tryz.ntmps50
 go_wp2
 go_ret2
 refine⟨?_,rfl⟩
 show Ending.returned (.tuple #[.int .i64 ((v*40503+12345) % 65536 % (n:Int)),.bool true])=_
 rw [E1.out]
theorem HomeNo (v n:Int) (w:World) (h:¬ (0≤v∧v≤1000000∧1≤n∧n≤16)) :
  Calls Tryz.prog 50 #[.int .i64 v,.int .i64 n] w fun e w'=>e=.returned (.tuple #[.int .i64 0,.bool false])∧w=w':=by
 by_cases a1:v<0
 ·have c1:decide (v<0)=true:=by simpa using a1
  clear h
  go_enter Tryz.func50,Tryz.ntmps50
  go_wp2
  go_ret2
  exact⟨rfl,rfl⟩
 ·have c1:decide (v<0)=false:=by simpa using a1
  by_cases a2:1000000<v
  ·have c2:decide (1000000<v)=true:=by simpa using a2
   clear h
   go_enter Tryz.func50,Tryz.ntmps50
   go_wp2
   go_ret2
   exact⟨rfl,rfl⟩
  ·have c2:decide (1000000<v)=false:=by simpa using a2
   by_cases a3:n<1
   ·have c3:decide (n<1)=true:=by simpa using a3
    clear h
    go_enter Tryz.func50,Tryz.ntmps50
    go_wp2
    go_ret2
    exact⟨rfl,rfl⟩
   ·have c3:decide (n<1)=false:=by simpa using a3
    have c4:decide (16<n)=true:=by simp;omega
    clear h
    go_enter Tryz.func50,Tryz.ntmps50
    go_wp2
    go_ret2
    exact⟨rfl,rfl⟩
end
section
open Go Go.RowKit
theorem In04x (p:Option Addr) (n c:Nat) (l:List Int) (x:Int) (w:World) (hl:Rd w 1 p n (encI l)) :
  Calls Tryz.prog 158 #[.slice p n c,.int .i64 x] w fun e w'=>e=.returned (.bool (inB l x))∧Ext w w':=by
 have p1:=hl.ptr
 have n1:=hl.small
 have L1:=Lib.hid hl.nI
 have HL:=Lib.hid hl;clear hl
 go_enter Tryz.func158,Tryz.ntmps158
 go_wp2
 go_loop [5] (fun i=>∃ k:Nat,k≤n∧i=.int .i64 k∧(l.take k).any (fun y=>y == x)=false) (fun i=>n - (intOf i).toNat)
 case atStart=>exact⟨0,Nat.zero_le _,rfl,rfl⟩
 case round =>
  obtain⟨k,hk,rfl,ha⟩:=hrel
  have HA:=Lib.hid ha;clear ha
  by_cases hlt:k<n
  ·have g1:=HL.out.cI hlt
   have d1:(0:Int)≤k:=by omega
   have d2:(k:Int)<n:=by omega
   have hkL:k<l.length:=by rw [← L1.out];exact hlt
   cases hq:(nth l k == x) with
   | true =>
    have HF:Hid (inB l x=true):=any_true_at (fun y:Int=>y == x) l k hkL hq
    go_wp2
    go_ret
    exact⟨ret_bool HF.out.symm,Below.refl _ _⟩
   | false =>
    have HF:=Lib.hid (any_step (fun y:Int=>y == x) l k hkL HA.out hq)
    go_wp2
    go_round
    case rel=>exact⟨k+1,by omega,by go_num,HF.out⟩
    case measure=>simp [intOf];omega
  ·have HF:Hid (inB l x=false):=any_end (fun y:Int=>y == x) l k (by rw [← L1.out];exact hlt) HA.out
   go_wp2
   go_ret
   exact⟨ret_bool HF.out.symm,Below.refl _ _⟩
theorem row04 (po:Option Addr) (no co:Nat) (O:List Int) (pt:Option Addr) (nt ct:Nat) (T:List Int) (k:Nat) (w:World) (hO:Rd w 1 po no (encI O)) (hT:Rd w 1 pt nt (encI T)) (hct:nt≤ct) (hok:OffOk O T) (hk1:k+1<O.length) (hlen:T.length≤100000) :
  Calls Tryz.prog 157 #[.slice po no co,.slice pt nt ct,.int .i64 k] w fun e w'=>∃ q c,e=.returned (.slice q (rowL O T k).length c)∧Sep w w' [.own 3 1 q (rowL O T k).length c (encI (rowL O T k))]:=by
 have na1:=hO.small
 have l1:=hO.nI
 have l2:=hT.nI
 have pA:=hO.ptr
 have q1:=hok.lo k (by omega)
 have q2:=hok.le k hk1
 have q3:=hok.hi (k+1) hk1
 have hrl:=rowL_len hok hk1
 have RL0:=hT.rowOf hok hct hk1
 have g1:=hO.cI (k:=k) (by omega)
 have g2:=hO.cI (k:=k+1) (by omega)
 obtain⟨a,ha⟩:∃ a:Nat,nth O k=(a:Int):=⟨(nth O k).toNat,by omega⟩
 obtain⟨c,hc⟩:∃ c:Nat,nth O (k+1)=(c:Int):=⟨(nth O (k+1)).toNat,by omega⟩
 rw [ha] at q1 q2 hrl RL0 g1
 rw [hc] at q2 q3 hrl RL0 g2
 simp only [Int.toNat_natCast] at hrl RL0
 have hq3:(c:Int)≤ct:=by omega
 have HLEN:Hid (c - a≤1000000):=by unfold Hid;omega
 have d1:(0:Int)≤k:=by omega
 have d2:(k:Int)<no:=by omega
 have d3:(0:Int)≤(k:Int)+1:=by omega
 have d4:(k:Int)+1<no:=by omega
 have HRL:=Lib.hid hrl
 have RL:=Lib.hid RL0
 clear hO hT hok ha hc hrl RL0 hlen l1 l2 q3 hk1
 rw [HRL.out]
 go_enter Tryz.func157,Tryz.ntmps157
 go_wp2
 have x1:=fun x:ExtOf w=>x.ext.cell g1
 have x2:=fun x:ExtOf w=>x.ext.cell g2
 refine wp_region_mix [true,true,true,true,true,true,true,true,true,true,true,false] (fun _ u W=>∃ q d,u=.slice q (c - a) d∧W.ownsRow w.heap.size 3 1 (.slice q (c - a) d) (c - a) (encI (rowL O T k))) (by kernel_rfl) (by kernel_rfl) (by kernel_rfl) (fun _ _ _ _ hE ⟨p,d,h1,h2⟩=>⟨p,d,h1,hE.own h2⟩) ?_
 simp only [nfM]
 repeat (go_big_quiet_step ((fail)))
 refine wpQuiet_nil ⟨⟨fun vs W hE hd=>?_,trivial⟩,fun vs W hE hkn=>?_⟩
 ·simp [putM,go_sem]
  exact(OwnI01 _ (c - a) _ (rowL O T k) W (RL.out.ext hE) HLEN.out).mono fun e w' ⟨q,d,h1,S⟩=>⟨_,h1,⟨q,d,rfl,own_base (S.own 0 rfl) hE.size⟩,S.ext⟩
 ·obtain⟨⟨q,d,hv,hown⟩,_⟩:=hkn
  have S5:=Lib.hid ((Sep.start w).fresh hE hown (Nat.le_refl _))
  simp only [putM,hv,List.length_cons,List.length_nil,Nat.zero_add,Nat.reduceAdd,List.drop_succ_cons,List.drop_zero]
  clear x1 x2 g1 g2 hv hown hE
  go_wp2
  go_ret
  exact⟨q,d,rfl,S5.out⟩
end
end Go.Proofs.YtfjhjennfiihhaaGreat
