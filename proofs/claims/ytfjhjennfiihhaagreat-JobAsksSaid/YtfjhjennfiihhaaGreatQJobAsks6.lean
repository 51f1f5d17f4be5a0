/- Texts of this claim, one behind the other: Hn3, HnM, Hn4, Hn5, Hn6, Nr1, Nr2, Ah9, Nr3, Nr4, Nr5, Hy9, ExN, Ex20, Jobs20, Rf3, Rf5, LPicks20, MapF, Ask20, Ask20b, Dst8c, Dst8d, Dst8e, Dst8f, Dst8g, Dst9a, PlainAk, Ask20c, Rf6, Rrun20, Ref8a, RAsk20, RAsk20b, Lb6, Lb7, Lb8, HubC20, PlainHb. -/
import Derived.Test.YtfjhjennfiihhaaGreatQJobAsks5
set_option maxRecDepth 100000
set_option maxHeartbeats 16000000
namespace Go.Proofs.YtfjhjennfiihhaaGreat
open Go Go.RowKit Tryz
section
open Go Go.RowKit
attribute [local go_sem] Oper.semAt_some
def rW (x:Int × Int):Value:=.iface 105 (.agg #[.int .i64 x.1,.int .i64 x.2])
theorem tQ (a b:Int) (W:World):(Instr.typeAssert (.iface 105 (.agg #[.int .i64 a,.int .i64 b])) 20 105 true).run prog W=.ok (.tuple #[.agg #[.int .i64 a,.int .i64 b],.bool true]) W:=by kernel_rfl
theorem Da:((prog).info? 105).map (fun i=>(i.zero,i.size,i.bytes))=some (some (.agg #[.int .i64 0,.int .i64 0]),2,16):=by kernel_rfl
theorem ES (gb:Nat) (q:Option Addr) (n c:Nat) (X:List (Int × Int)) (x:Int × Int) (w w0:World) (Γ:List Pc) (jb j:Nat) (S:Ic w0 w Γ) (hb:Γ[jb]?=some (.blk gb 168 #[.slice q n c])) (hj:Γ[j]?=some (.own 105 2 q n c (aj X))) (hne:jb≠j) (hn:n<=100000) :
  Calls prog 368 #[.pointer (some ⟨gb,0,none⟩),rW x] w fun e w'=>e=.returned (.tuple #[])/\∃ q' c',Ic w0 w' ((Γ.set j (.own 105 2 q' (n+1) c' (aj (X ++ [x])))).set jb (.blk gb 168 #[.slice q' (n+1) c'])):=by
 obtain⟨b0,bz,bf⟩:=cZ (S.blk jb hb)
 unfold rW
 have TA:=tQ x.1 x.2
 have SH:=lh S;clear S
 obtain⟨i0,hi0,hz0,hz1,hz2⟩:=info_parts Da
 go_enter func368,ntmps368
 go_wp2
 obtain⟨Y,hY⟩:∃ Y,Y=w.alloc (.cells #[.int .i64 x.1,.int .i64 x.2] 105):=⟨_,rfl⟩
 have S1:=lh (hY ▸ SH.out.al #[.int .i64 x.1,.int .i64 x.2] 105 w.heap.size rfl:Ic w0 Y (.blk w.heap.size 105 #[.int .i64 x.1,.int .i64 x.2] :: Γ))
 rw [<- hY]
 clear hY b0 bz bf
 obtain⟨b0,bz⟩:=fj (S1.out.blk (jb+1) hb)
 obtain⟨e0,e1,ez⟩:=aH (S1.out.blk 0 rfl)
 have S4:=lh (S1.out.alrw #[.int .i64 x.1,.int .i64 x.2] 105 2 1 Y.heap.size rfl (by decide) rfl).drew
 obtain⟨q',c',w7,hrun,S'⟩:=S4.out.appended (j+2) 168 168 105 i0 _ 2 16 underlying168 hi0 hz0 hz1 hz2 rfl (by omega) q n c (aj X) hj (some ⟨Y.heap.size,0,none⟩) 1 1 (aj [x]) (S4.out.rdx 0 rfl) (bu _) (by omega) (by omega)
 have Ov:=xj (p0:=Pc.own 105 2 (some ⟨Y.heap.size,0,none⟩) 1 1 [.int .i64 x.1,.int .i64 x.2]) (p1:=Pc.blk w.heap.size 105 #[.int .i64 x.1,.int .i64 x.2]) (a:=Pc.own 105 2 q' (n+1) c' (aj X ++ aj [x])) (fun e=>hne e.symm) hb
 obtain⟨k4,kf,kz⟩:=dC (S'.blk (jb+2) Ov)
 have S6:=lh S'
 have Ki:=lh Ov
 clear S' Ov hb hj
 refine wp_region_any (by kernel_rfl) ?_
 change wpAny _ _ _ _ _ _ _ (World.drew _)
 refine wpAny_take (i:=0) (v:=.pointer (some ⟨gb,0,none⟩)) rfl (by kernel_rfl) (by kernel_rfl) (by kernel_rfl) (fun _ _ _ h=>h) (Or.inl ⟨by rfl,fun W=>by go_simp⟩) ?_
 refine wpAny_take (i:=1) (v:=.pointer (some ⟨gb,0,none⟩)) rfl (by kernel_rfl) (by kernel_rfl) (by kernel_rfl) (fun _ _ _ h=>h) (Or.inl ⟨by rfl,fun W=>by go_simp⟩) ?_
 refine wpAny_take (i:=2) (v:=.pointer (some ⟨gb,0,none⟩)) rfl (by kernel_rfl) (by kernel_rfl) (by kernel_rfl) (fun _ _ _ h=>h) (Or.inl ⟨by rfl,fun W=>by go_simp⟩) ?_
 refine wpAny_ready (rs:=[3,4]) (by kernel_rfl) (by simp) (AllReady.cons rfl (fun K hK=>?_) (AllReady.cons rfl (fun K hK=>?_) AllReady.nil))
 ·go_simp
  refine hK _ _ ?_
  clear hK
  refine wpAny_ready (rs:=[4]) (by kernel_rfl) (by simp) (AllReady.cons rfl (fun K hK=>?_) AllReady.nil)
  go_simp
  refine hK _ _ ?_
  clear hK
  refine wpAny_ready (rs:=[5]) (by kernel_rfl) (by simp) (AllReady.cons rfl (fun K hK=>?_) AllReady.nil)
  go_simp
  refine hK _ _ ?_
  clear hK
  refine wpAny_ready (rs:=[6]) (by kernel_rfl) (by simp) (AllReady.cons rfl (fun K hK=>?_) AllReady.nil)
  rw [if_pos (by rfl)]
  refine cd (.tmp 15) (.tmp 17) 168 rfl rfl rfl hrun ?_
  refine hK _ _ ?_
  clear hK
  refine wpAny_ready (rs:=[7]) (by kernel_rfl) (by simp) (AllReady.cons rfl (fun K hK=>?_) AllReady.nil)
  go_simp
  refine hK _ _ ?_
  clear hK
  refine wpAny_ready (rs:=[8]) (by kernel_rfl) (by simp) (AllReady.cons rfl (fun K hK=>?_) AllReady.nil)
  go_simp
  refine hK _ _ ?_
  clear hK
  refine wpAny_done (by kernel_rfl) ?_ _
  go_end0
  refine⟨rfl,q',c',?_⟩
  have T:=S6.out.set (jb+2) Ki.out 0 (.slice q' (n+1) c')
  rw [aF]
  exact T.sub ((List.sublist_cons_self _ _).trans (List.sublist_cons_self _ _))
 ·go_simp
  refine hK _ _ ?_
  clear hK
  refine wpAny_ready (rs:=[3,5]) (by kernel_rfl) (by simp) (AllReady.cons rfl (fun K hK=>?_) (AllReady.cons rfl (fun K hK=>?_) AllReady.nil))
  ·go_simp
   refine hK _ _ ?_
   clear hK
   refine wpAny_ready (rs:=[5]) (by kernel_rfl) (by simp) (AllReady.cons rfl (fun K hK=>?_) AllReady.nil)
   go_simp
   refine hK _ _ ?_
   clear hK
   refine wpAny_ready (rs:=[6]) (by kernel_rfl) (by simp) (AllReady.cons rfl (fun K hK=>?_) AllReady.nil)
   rw [if_pos (by rfl)]
   refine cd (.tmp 15) (.tmp 17) 168 rfl rfl rfl hrun ?_
   refine hK _ _ ?_
   clear hK
   refine wpAny_ready (rs:=[7]) (by kernel_rfl) (by simp) (AllReady.cons rfl (fun K hK=>?_) AllReady.nil)
   go_simp
   refine hK _ _ ?_
   clear hK
   refine wpAny_ready (rs:=[8]) (by kernel_rfl) (by simp) (AllReady.cons rfl (fun K hK=>?_) AllReady.nil)
   go_simp
   refine hK _ _ ?_
   clear hK
   refine wpAny_done (by kernel_rfl) ?_ _
   go_end0
   refine⟨rfl,q',c',?_⟩
   have T:=S6.out.set (jb+2) Ki.out 0 (.slice q' (n+1) c')
   rw [aF]
   exact T.sub ((List.sublist_cons_self _ _).trans (List.sublist_cons_self _ _))
  ·go_simp
   refine hK _ _ ?_
   clear hK
   refine wpAny_ready (rs:=[3]) (by kernel_rfl) (by simp) (AllReady.cons rfl (fun K hK=>?_) AllReady.nil)
   go_simp
   refine hK _ _ ?_
   clear hK
   refine wpAny_ready (rs:=[6]) (by kernel_rfl) (by simp) (AllReady.cons rfl (fun K hK=>?_) AllReady.nil)
   rw [if_pos (by rfl)]
   refine cd (.tmp 15) (.tmp 17) 168 rfl rfl rfl hrun ?_
   refine hK _ _ ?_
   clear hK
   refine wpAny_ready (rs:=[7]) (by kernel_rfl) (by simp) (AllReady.cons rfl (fun K hK=>?_) AllReady.nil)
   go_simp
   refine hK _ _ ?_
   clear hK
   refine wpAny_ready (rs:=[8]) (by kernel_rfl) (by simp) (AllReady.cons rfl (fun K hK=>?_) AllReady.nil)
   go_simp
   refine hK _ _ ?_
   clear hK
   refine wpAny_done (by kernel_rfl) ?_ _
   go_end0
   refine⟨rfl,q',c',?_⟩
   have T:=S6.out.set (jb+2) Ki.out 0 (.slice q' (n+1) c')
   rw [aF]
   exact T.sub ((List.sublist_cons_self _ _).trans (List.sublist_cons_self _ _))
theorem GC (gb:Nat) (q:Option Addr) (n c:Nat) (X:List (Int × Int)) (w w0:World) (Γ:List Pc) (jb j:Nat) (S:Ic w0 w Γ) (hb:Γ[jb]?=some (.blk gb 168 #[.slice q (n+1) c])) (hj:Γ[j]?=some (.own 105 2 q (n+1) c (aj X))) (hne:jb≠j) (hn:n<=100000) :
  Calls prog 367 #[.pointer (some ⟨gb,0,none⟩)] w fun e w'=>e=.returned (rW (ae X n))/\Ic w0 w' ((Γ.set j (.own 105 2 q n c (aj (X.take n)))).set jb (.blk gb 168 #[.slice q n c])):=by
 obtain⟨b0,bz,bf⟩:=cZ (S.blk jb hb)
 have hl:=S.rd j hj (by omega)
 have hcap:=cu (S.own j hj)
 have g1:=hl.cE (k:=n) (by omega)
 have g2:=hl.cE2 (k:=n) (by omega)
 have p1:=hl.ptr
 have IA:=hl.nE
 have d1:(0:Int)<=n:=by omega
 have d2:(n:Int)<(n:Int)+1:=by omega
 have IM:=lh IA
 clear IA
 generalize ae X n=x at *
 unfold rW
 clear hl
 have SH:=lh S;clear S
 go_enter func367,ntmps367
 go_wp2
 go_ret
 refine⟨rfl,?_⟩
 have T:=(SH.out.set jb hb 0 (.slice q n c)).junk (.cells #[.int .i64 x.1,.int .i64 x.2] 105)
 have hj2:(Γ.set jb (.blk gb 168 #[.slice q n c]))[j]?=some (.own 105 2 q (n+1) c (aj (X.take n) ++ aj (X.drop n))):=by
  rw [<- aF,List.take_append_drop,List.getElem?_set_ne hne];exact hj
 have hX:=IM.out
 have T2:=Ic.cut T j n hj2 (by rw [bS,List.length_take];omega) (by omega)
 rw [List.set_comm _ _ hne] at T2
 exact T2
end
theorem vP (s:String) (gb:Nat) (v:Value) (W:World) (h:W.cell? ⟨gb,0,none⟩=some v):(receiverAt 167 (Place.val (.pointer (some ⟨gb,0,none⟩))) false (some s)).run prog W=.ok v W:=by
 simp only [receiverAt,Sem.run_bind]
 simp [go_sem,Place.get,H8,loadVar,h]
theorem Bo (gb : Nat) (v : Value) (W : World) (N : Nat) (hN : 0 < N) (h : W.cell? ⟨gb, 0, none⟩ = some v) : (method N 167 (.pointer (some ⟨gb, 0, none⟩)) "Len").run prog W = .ok (365, v) W := by
 obtain⟨m,rfl⟩:∃ m,N=m+1:=⟨N - 1,by omega⟩
 obtain ⟨mm, h1⟩ : ∃ mm, Array.find? (fun x => x.name == "Len") (Tryz.t167).methods = some mm := ⟨_, rfl⟩
 have h2 : (Array.find? (fun x => x.name == "Len") (Tryz.t167).methods).map (fun x => (x.path, x.func)) = some (#[], some (365, false)) := by kernel_rfl
 rw [h1] at h2
 simp at h2
 simp [method,go_sem,h1,h2,follow,vP _ gb v W h]
theorem jm (gb : Nat) (v : Value) (W : World) (N : Nat) (hN : 0 < N) (h : W.cell? ⟨gb, 0, none⟩ = some v) : (method N 167 (.pointer (some ⟨gb, 0, none⟩)) "Less").run prog W = .ok (366, v) W := by
 obtain⟨m,rfl⟩:∃ m,N=m+1:=⟨N - 1,by omega⟩
 obtain ⟨mm, h1⟩ : ∃ mm, Array.find? (fun x => x.name == "Less") (Tryz.t167).methods = some mm := ⟨_, rfl⟩
 have h2 : (Array.find? (fun x => x.name == "Less") (Tryz.t167).methods).map (fun x => (x.path, x.func)) = some (#[], some (366, false)) := by kernel_rfl
 rw [h1] at h2
 simp at h2
 simp [method,go_sem,h1,h2,follow,vP _ gb v W h]
theorem iI (gb : Nat) (v : Value) (W : World) (N : Nat) (hN : 0 < N) (h : W.cell? ⟨gb, 0, none⟩ = some v) : (method N 167 (.pointer (some ⟨gb, 0, none⟩)) "Swap").run prog W = .ok (369, v) W := by
 obtain⟨m,rfl⟩:∃ m,N=m+1:=⟨N - 1,by omega⟩
 obtain ⟨mm, h1⟩ : ∃ mm, Array.find? (fun x => x.name == "Swap") (Tryz.t167).methods = some mm := ⟨_, rfl⟩
 have h2 : (Array.find? (fun x => x.name == "Swap") (Tryz.t167).methods).map (fun x => (x.path, x.func)) = some (#[], some (369, false)) := by kernel_rfl
 rw [h1] at h2
 simp at h2
 simp [method,go_sem,h1,h2,follow,vP _ gb v W h]
theorem ET (gb : Nat) (W : World) (N : Nat) (hN : 0 < N) : (method N 167 (.pointer (some ⟨gb, 0, none⟩)) "Push").run prog W = .ok (368, .pointer (some ⟨gb, 0, none⟩)) W := by
 obtain⟨m,rfl⟩:∃ m,N=m+1:=⟨N - 1,by omega⟩
 kernel_rfl
theorem GF (gb : Nat) (W : World) (N : Nat) (hN : 0 < N) : (method N 167 (.pointer (some ⟨gb, 0, none⟩)) "Pop").run prog W = .ok (367, .pointer (some ⟨gb, 0, none⟩)) W := by
 obtain⟨m,rfl⟩:∃ m,N=m+1:=⟨N - 1,by omega⟩
 kernel_rfl
section
open Go Go.RowKit
attribute [local go_sem] Oper.semAt_some
def l5 (gb:Nat):Value:=.iface 167 (.pointer (some ⟨gb,0,none⟩))
theorem Hg (gb:Nat) (q:Option Addr) (n c i:Nat) (X:List (Int × Int)) (w w0:World) (Γ:List Pc) (jb j:Nat) (S:Ic w0 w Γ) (hb:Γ[jb]?=some (.blk gb 168 #[.slice q n c])) (hj:Γ[j]?=some (.own 105 2 q n c (aj X))) (hne:jb≠j) (hn:n<=100000) (hi:i<n) (hu:zE cM n i X) :
  Calls prog 190 #[l5 gb,.int .i64 i] w fun e w'=>e=.returned (.tuple #[])/\∃ X':List (Int × Int),X'.Perm X/\cC cM n X'/\Ic w0 w' (Γ.set j (.own 105 2 q n c (aj X'))):=by
 unfold l5
 have IA:n=X.length:=(S.rd j hj (by omega)).nE
 have IM:=lh IA
 clear IA
 have SH:=lh S;clear S
 have HU:=lh hu;clear hu
 go_enter func190,ntmps190
 go_wp2
 go_loopw [1,4] (fun v1 _ wr=>∃ (k:Nat) (Y:List (Int × Int)),k<n/\v1=.int .i64 k/\Y.Perm X/\zE cM n k Y/\Ic w0 wr (Γ.set j (.own 105 2 q n c (aj Y)))) (fun v1 _ _=>(intOf v1).toNat)
 case atStart=>exact⟨i,X,hi,rfl,List.Perm.refl _,HU.out,by rw [ll hj];exact SH.out⟩
 case round =>
  clear SH HU
  obtain⟨k,Y,hk,rfl,hp,hu,S⟩:=hrel
  have HP:=lh hp
  have HU:=lh hu
  have IV:Hid (Y.length=n):=by unfold Hid;rw [hp.length_eq];exact IM.out.symm
  have hb2:=(List.getElem?_set_ne (l:=Γ) (a:=Pc.own 105 2 q n c (aj Y)) (i:=j) (j:=jb) (by omega)).trans hb
  have hj2:=dg (q:=Pc.own 105 2 q n c (aj Y)) hj
  have HB2:=lh hb2
  have b0:=(S.blk jb hb2).cell 0
  have ML:=fun N hN=>jm gb _ wr N hN b0
  by_cases h0:k=0
  ·subst h0
   have HE:=lh (si hu (.inl rfl))
   have SH:=lh S;clear S
   clear hp hu hb2 hj2
   go_wp2
   go_end0
   exact⟨rfl,Y,HP.out,HE.out,SH.out⟩
  ·obtain⟨p,Km⟩:∃ p,(k - 1) / 2=p:=⟨_,rfl⟩
   have hpk:p<k:=by omega
   have e1:((k:Int) - 1).tdiv 2=(p:Int):=by
    rw [Int.tdiv_eq_ediv_of_nonneg (by omega)];omega
   have e2:((p:Int) == (k:Int))=false:=by simp;omega
   have hL:=jl q n c Y k p wr (S.rd j hj2 (by omega)) hk (by omega)
   cases hlt:cM (ae Y k) (ae Y p) with
   | false =>
    rw [hlt] at hL
    have HE:=lh (si hu (.inr (by rw [Km];exact hlt)))
    have HL:=lh hL
    have SH:=lh S;clear S
    clear hp hu hb2 hj2 hL hlt Km h0
    go_wp2_with (go_at_call 366;go_must (refine HL.out.mono ?_;rintro e w5 ⟨rfl,h5⟩;have S5:=lh (SH.out.call h5);have b5:=(S5.out.blk jb HB2.out).cell 0;have MS:=fun N hN=>iI gb _ w5 N hN b5;clear h5))
    go_end0
    exact⟨rfl,Y,HP.out,HE.out,S5.out⟩
   | true =>
    rw [hlt] at hL
    have HE:=lh (Km ▸ xk ew (by rw [IV.out];exact Nat.le_refl _) hk (by omega) hu (by rw [Km];exact hlt):zE cM n p (bj Y k p))
    have HJ2:=lh hj2
    have Jw:=lh (cL (X:=Y) (i:=k) (j:=p) (by rw [IV.out];exact hk) (by rw [IV.out];omega))
    have HL:=lh hL
    have SH:=lh S;clear S
    clear hp hu hb2 hj2 hL hlt Km h0
    have hkp:p≠k:=by omega
    go_wp2_with (first
     | (go_at_call 369;go_must (refine(oz q n c Y p k w5 w0 _ j S5.out HJ2.out (by omega) hk (by omega)).mono ?_;rintro e w6 ⟨rfl,T⟩;rw [List.set_set,oZ Y hkp] at T;have S6:=lh T;clear T))
     | (go_at_call 366;go_must (refine HL.out.mono ?_;rintro e w5 ⟨rfl,h5⟩;have S5:=lh (SH.out.call h5);have b5:=(S5.out.blk jb HB2.out).cell 0;have MS:=fun N hN=>iI gb _ w5 N hN b5;clear h5)))
    go_roundw
    case rel=>exact⟨p,bj Y k p,by omega,rfl,Jw.out.trans HP.out,HE.out,S6.out⟩
    case measure=>simp [intOf];omega
end
section
open Go Go.RowKit
attribute [local go_sem] Oper.semAt_some
theorem ER (gb:Nat) (q:Option Addr) (n m c:Nat) (X:List (Int × Int)) (w w0:World) (Γ:List Pc) (jb j:Nat) (S:Ic w0 w Γ) (hb:Γ[jb]?=some (.blk gb 168 #[.slice q m c])) (hj:Γ[j]?=some (.own 105 2 q m c (aj X))) (hne:jb≠j) (hm:m<=100000) (hnm:n<=m) (hu:Cm cM n 0 X) :
  Calls prog 203 #[l5 gb,.int .i64 0,.int .i64 n] w fun e w'=>∃ bb,e=.returned (.bool bb)/\∃ X':List (Int × Int),X'.Perm X/\cC cM n X'/\(∀ z,n<=z->z<m->ae X' z=ae X z)/\Ic w0 w' (Γ.set j (.own 105 2 q m c (aj X'))):=by
 unfold l5
 have IA:m=X.length:=(S.rd j hj (by omega)).nE
 have IM:=lh IA
 clear IA
 have SH:=lh S;clear S
 have HU:=lh hu;clear hu
 go_enter func203,ntmps203
 go_wp2
 go_loopw [7,8,9,10] (fun v7 _ _ _ wr=>∃ (k:Nat) (Y:List (Int × Int)),k<=n/\v7=.int .i64 k/\Y.Perm X/\Cm cM n k Y/\(∀ z,n<=z->z<m->ae Y z=ae X z)/\Ic w0 wr (Γ.set j (.own 105 2 q m c (aj Y)))) (fun v7 _ _ _ _=>n - (intOf v7).toNat)
 case atStart=>exact⟨0,X,Nat.zero_le _,rfl,List.Perm.refl _,HU.out,fun _ _ _=>rfl,by rw [ll hj];exact SH.out⟩
 case round =>
  clear SH HU
  obtain⟨k,Y,hk,rfl,hp,hu,ht,S⟩:=hrel
  have HP:=lh hp
  have HU:=lh hu
  have HT:=lh ht
  have IV:Hid (Y.length=m):=by unfold Hid;rw [hp.length_eq];exact IM.out.symm
  have HB2:=lh ((List.getElem?_set_ne (l:=Γ) (a:=Pc.own 105 2 q m c (aj Y)) (i:=j) (j:=jb) (by omega)).trans hb)
  have HJ2:=lh (dg (q:=Pc.own 105 2 q m c (aj Y)) hj)
  have b0:=(S.blk jb HB2.out).cell 0
  have ML:=fun N hN=>jm gb _ wr N hN b0
  obtain⟨a,ha⟩:∃ a,2*k+1=a:=⟨_,rfl⟩
  have e1:2*(k:Int)+1=(a:Int):=by omega
  have e2:decide ((a:Int)<0)=false:=by simp
  clear hp hu ht
  by_cases hA:n<=a
  ·have d1:decide ((n:Int)<=a)=true:=by simp;omega
   have HE:=lh (wF HU.out (by omega))
   have SH:=lh S;clear S
   have Wm:decide (n<=a)=true:=by simpa using hA
   clear ha
   go_wp2
   go_ret
   exact⟨_,rfl,Y,HP.out,HE.out,HT.out,SH.out⟩
  ·have d1:decide ((n:Int)<=a)=false:=by simp;omega
   obtain⟨b,hb'⟩:∃ b,2*k+2=b:=⟨_,rfl⟩
   have e3:(a:Int)+1=(b:Int):=by omega
   by_cases hB:b<n
   ·have d2:decide ((b:Int)<n)=true:=by simp;omega
    have hL1:=jl q m c Y b a wr (S.rd j HJ2.out (by omega)) (by omega) (by omega)
    cases hl1:cM (ae Y b) (ae Y a) with
    | false =>
     rw [hl1] at hL1
     have Iz:=lh hL1
     obtain⟨d,hd⟩:∃ d,d=a:=⟨_,rfl⟩
     have IP:=lh (jK ew (n:=n) (j:=k) (X:=Y) (by omega) (.inr (by rw [ha,hb'];exact hl1)))
     rw [ha] at IP
     have SH:=lh S;clear S
     obtain rfl:=hd
     clear hl1 hL1
     cases hlt:cM (ae Y d) (ae Y k) with
     | false =>
      have HE:=lh (lM ew HU.out IP.out hlt)
      have HL2:Hid (∀ W,Ext wr W->Calls prog 366 #[.slice q m c,.int .i64 d,.int .i64 k] W fun e w'=>e=.returned (.bool false)/\Ext W w'):=fun W h=>hlt ▸ jl q m c Y d k W ((SH.out.rd j HJ2.out (by omega)).ext h) (by omega) (by omega)
      clear hlt
      go_wp2_with (first | (go_at_call 366;have _t:=S5;go_must (refine(HL2.out _ X5.out).mono ?_;rintro e w6 ⟨rfl,h6⟩;have S6:=lh (S5.out.call h6);have b6:=(S6.out.blk jb HB2.out).cell 0;have MS:=fun N hN=>iI gb _ w6 N hN b6;clear h6)) | (go_at_call 366;have _t:=Iz;go_must (refine Iz.out.mono ?_;rintro e w5 ⟨rfl,h5⟩;have S5:=lh (SH.out.call h5);have X5:=lh h5;have b5:=(S5.out.blk jb HB2.out).cell 0;have KH:=fun N hN=>jm gb _ w5 N hN b5;clear h5)))
      go_ret
      exact⟨_,rfl,Y,HP.out,HE.out,HT.out,S6.out⟩
     | true =>
      have HE:=lh (jE ew (by rw [IV.out];exact hnm) HU.out IP.out hlt)
      have HL2:Hid (∀ W,Ext wr W->Calls prog 366 #[.slice q m c,.int .i64 d,.int .i64 k] W fun e w'=>e=.returned (.bool true)/\Ext W w'):=fun W h=>hlt ▸ jl q m c Y d k W ((SH.out.rd j HJ2.out (by omega)).ext h) (by omega) (by omega)
      have Jw:=lh (cL (X:=Y) (i:=k) (j:=d) (by rw [IV.out];omega) (by rw [IV.out];omega))
      have HT2:Hid (∀ z,n<=z->z<m->ae (bj Y k d) z=ae X z):=fun z h1 h2=>by rw [cV (by rw [IV.out];exact h2),if_neg (by omega),if_neg (by omega)];exact HT.out z h1 h2
      clear hlt
      go_wp2_with (first | (go_at_call 369;go_must (refine(oz q m c Y k d w6 w0 _ j S6.out HJ2.out (by omega) (by omega) (by omega)).mono ?_;rintro e w7 ⟨rfl,T⟩;rw [List.set_set] at T;have S7:=lh T;clear T)) | (go_at_call 366;have _t:=S5;go_must (refine(HL2.out _ X5.out).mono ?_;rintro e w6 ⟨rfl,h6⟩;have S6:=lh (S5.out.call h6);have b6:=(S6.out.blk jb HB2.out).cell 0;have MS:=fun N hN=>iI gb _ w6 N hN b6;clear h6)) | (go_at_call 366;have _t:=Iz;go_must (refine Iz.out.mono ?_;rintro e w5 ⟨rfl,h5⟩;have S5:=lh (SH.out.call h5);have X5:=lh h5;have b5:=(S5.out.blk jb HB2.out).cell 0;have KH:=fun N hN=>jm gb _ w5 N hN b5;clear h5)))
      go_roundw
      case rel=>exact⟨d,bj Y k d,by omega,rfl,Jw.out.trans HP.out,HE.out,HT2.out,S7.out⟩
      case measure=>simp [intOf];omega
    | true =>
     rw [hl1] at hL1
     have Iz:=lh hL1
     have IP:=lh (qL ew (n:=n) (j:=k) (X:=Y) (by omega) (by rw [ha,hb'];exact hl1))
     rw [hb'] at IP
     obtain⟨d,hd⟩:∃ d,d=b:=⟨_,rfl⟩
     have SH:=lh S;clear S
     obtain rfl:=hd
     clear hl1 hL1
     cases hlt:cM (ae Y d) (ae Y k) with
     | false =>
      have HE:=lh (lM ew HU.out IP.out hlt)
      have HL2:Hid (∀ W,Ext wr W->Calls prog 366 #[.slice q m c,.int .i64 d,.int .i64 k] W fun e w'=>e=.returned (.bool false)/\Ext W w'):=fun W h=>hlt ▸ jl q m c Y d k W ((SH.out.rd j HJ2.out (by omega)).ext h) (by omega) (by omega)
      clear hlt
      go_wp2_with (first | (go_at_call 366;have _t:=S5;go_must (refine(HL2.out _ X5.out).mono ?_;rintro e w6 ⟨rfl,h6⟩;have S6:=lh (S5.out.call h6);have b6:=(S6.out.blk jb HB2.out).cell 0;have MS:=fun N hN=>iI gb _ w6 N hN b6;clear h6)) | (go_at_call 366;have _t:=Iz;go_must (refine Iz.out.mono ?_;rintro e w5 ⟨rfl,h5⟩;have S5:=lh (SH.out.call h5);have X5:=lh h5;have b5:=(S5.out.blk jb HB2.out).cell 0;have KH:=fun N hN=>jm gb _ w5 N hN b5;clear h5)))
      go_ret
      exact⟨_,rfl,Y,HP.out,HE.out,HT.out,S6.out⟩
     | true =>
      have HE:=lh (jE ew (by rw [IV.out];exact hnm) HU.out IP.out hlt)
      have HL2:Hid (∀ W,Ext wr W->Calls prog 366 #[.slice q m c,.int .i64 d,.int .i64 k] W fun e w'=>e=.returned (.bool true)/\Ext W w'):=fun W h=>hlt ▸ jl q m c Y d k W ((SH.out.rd j HJ2.out (by omega)).ext h) (by omega) (by omega)
      have Jw:=lh (cL (X:=Y) (i:=k) (j:=d) (by rw [IV.out];omega) (by rw [IV.out];omega))
      have HT2:Hid (∀ z,n<=z->z<m->ae (bj Y k d) z=ae X z):=fun z h1 h2=>by rw [cV (by rw [IV.out];exact h2),if_neg (by omega),if_neg (by omega)];exact HT.out z h1 h2
      clear hlt
      go_wp2_with (first | (go_at_call 369;go_must (refine(oz q m c Y k d w6 w0 _ j S6.out HJ2.out (by omega) (by omega) (by omega)).mono ?_;rintro e w7 ⟨rfl,T⟩;rw [List.set_set] at T;have S7:=lh T;clear T)) | (go_at_call 366;have _t:=S5;go_must (refine(HL2.out _ X5.out).mono ?_;rintro e w6 ⟨rfl,h6⟩;have S6:=lh (S5.out.call h6);have b6:=(S6.out.blk jb HB2.out).cell 0;have MS:=fun N hN=>iI gb _ w6 N hN b6;clear h6)) | (go_at_call 366;have _t:=Iz;go_must (refine Iz.out.mono ?_;rintro e w5 ⟨rfl,h5⟩;have S5:=lh (SH.out.call h5);have X5:=lh h5;have b5:=(S5.out.blk jb HB2.out).cell 0;have KH:=fun N hN=>jm gb _ w5 N hN b5;clear h5)))
      go_roundw
      case rel=>exact⟨d,bj Y k d,by omega,rfl,Jw.out.trans HP.out,HE.out,HT2.out,S7.out⟩
      case measure=>simp [intOf];omega
   ·have d2:decide ((b:Int)<n)=false:=by simp;omega
    have IP:=lh (jK ew (n:=n) (j:=k) (X:=Y) (by omega) (.inl (by omega)))
    rw [ha] at IP
    obtain⟨d,hd⟩:∃ d,d=a:=⟨_,rfl⟩
    have SH:=lh S;clear S
    have S5:=lh SH.out
    have X5:Hid (Ext wr wr):=Below.refl _ _
    obtain rfl:=hd
    cases hlt:cM (ae Y d) (ae Y k) with
    | false =>
     have HE:=lh (lM ew HU.out IP.out hlt)
     have HL2:Hid (∀ W,Ext wr W->Calls prog 366 #[.slice q m c,.int .i64 d,.int .i64 k] W fun e w'=>e=.returned (.bool false)/\Ext W w'):=fun W h=>hlt ▸ jl q m c Y d k W ((SH.out.rd j HJ2.out (by omega)).ext h) (by omega) (by omega)
     clear hlt
     go_wp2_with (first | (go_at_call 366;have _t:=S5;go_must (refine(HL2.out _ X5.out).mono ?_;rintro e w6 ⟨rfl,h6⟩;have S6:=lh (S5.out.call h6);have b6:=(S6.out.blk jb HB2.out).cell 0;have MS:=fun N hN=>iI gb _ w6 N hN b6;clear h6)) | (go_at_call 366;have _t:=Iz;go_must (refine Iz.out.mono ?_;rintro e w5 ⟨rfl,h5⟩;have S5:=lh (SH.out.call h5);have X5:=lh h5;have b5:=(S5.out.blk jb HB2.out).cell 0;have KH:=fun N hN=>jm gb _ w5 N hN b5;clear h5)))
     go_ret
     exact⟨_,rfl,Y,HP.out,HE.out,HT.out,S6.out⟩
    | true =>
     have HE:=lh (jE ew (by rw [IV.out];exact hnm) HU.out IP.out hlt)
     have HL2:Hid (∀ W,Ext wr W->Calls prog 366 #[.slice q m c,.int .i64 d,.int .i64 k] W fun e w'=>e=.returned (.bool true)/\Ext W w'):=fun W h=>hlt ▸ jl q m c Y d k W ((SH.out.rd j HJ2.out (by omega)).ext h) (by omega) (by omega)
     have Jw:=lh (cL (X:=Y) (i:=k) (j:=d) (by rw [IV.out];omega) (by rw [IV.out];omega))
     have HT2:Hid (∀ z,n<=z->z<m->ae (bj Y k d) z=ae X z):=fun z h1 h2=>by rw [cV (by rw [IV.out];exact h2),if_neg (by omega),if_neg (by omega)];exact HT.out z h1 h2
     clear hlt
     go_wp2_with (first | (go_at_call 369;go_must (refine(oz q m c Y k d w6 w0 _ j S6.out HJ2.out (by omega) (by omega) (by omega)).mono ?_;rintro e w7 ⟨rfl,T⟩;rw [List.set_set] at T;have S7:=lh T;clear T)) | (go_at_call 366;have _t:=S5;go_must (refine(HL2.out _ X5.out).mono ?_;rintro e w6 ⟨rfl,h6⟩;have S6:=lh (S5.out.call h6);have b6:=(S6.out.blk jb HB2.out).cell 0;have MS:=fun N hN=>iI gb _ w6 N hN b6;clear h6)) | (go_at_call 366;have _t:=Iz;go_must (refine Iz.out.mono ?_;rintro e w5 ⟨rfl,h5⟩;have S5:=lh (SH.out.call h5);have X5:=lh h5;have b5:=(S5.out.blk jb HB2.out).cell 0;have KH:=fun N hN=>jm gb _ w5 N hN b5;clear h5)))
     go_roundw
     case rel=>exact⟨d,bj Y k d,by omega,rfl,Jw.out.trans HP.out,HE.out,HT2.out,S7.out⟩
     case measure=>simp [intOf];omega
end
section
open Go Go.RowKit
attribute [local go_sem] Oper.semAt_some
theorem vO {n:Nat} {X:List (Int × Int)} {x:Int × Int} (hn:n=X.length) (h:cC cM n X):zE cM (n+1) n (X ++ [x]):=by
 refine uv fun i h0 h1=>?_
 rw [bW _ _ _ (by omega),bW _ _ _ (by omega)]
 exact h i h0 h1
theorem yT (gb:Nat) (q:Option Addr) (n c:Nat) (X:List (Int × Int)) (x:Int × Int) (w w0:World) (Γ:List Pc) (jb j:Nat) (S:Ic w0 w Γ) (hb:Γ[jb]?=some (.blk gb 168 #[.slice q n c])) (hj:Γ[j]?=some (.own 105 2 q n c (aj X))) (hne:jb≠j) (hn:n<=90000) (hh:cC cM n X) :
  Calls prog 116 #[l5 gb,rW x] w fun e w'=>e=.returned (.tuple #[])/\∃ (q':Option Addr) (c':Nat) (X':List (Int × Int)),X'.Perm (X ++ [x])/\cC cM (n+1) X'/\Ic w0 w' ((Γ.set j (.own 105 2 q' (n+1) c' (aj X'))).set jb (.blk gb 168 #[.slice q' (n+1) c'])):=by
 have HU:=lh (vO (x:=x) (S.rd j hj (by omega)).nE hh)
 have JX:=lh (ES gb q n c X x w w0 Γ jb j S hb hj hne (by omega))
 have MP:=fun W N hN=>ET gb W N hN
 have Uk:=lh (fun q1 c1 w1 S1=>Hg gb q1 (n+1) c1 n (X ++ [x]) w1 w0 ((Γ.set j (.own 105 2 q1 (n+1) c1 (aj (X ++ [x])))).set jb (.blk gb 168 #[.slice q1 (n+1) c1])) jb j S1 (dg (p:=.blk gb 168 #[.slice q n c]) (by rw [List.getElem?_set_ne (fun e=>hne e.symm)];exact hb)) (by rw [List.getElem?_set_ne hne];exact dg hj) hne (by omega) (by omega) HU.out)
 have HB:=lh (fun q1 c1=>(dg (p:=.blk gb 168 #[.slice q n c]) (q:=.blk gb 168 #[.slice q1 (n+1) c1]) (by rw [List.getElem?_set_ne (fun e=>hne e.symm)];exact hb):((Γ.set j (.own 105 2 q1 (n+1) c1 (aj (X ++ [x])))).set jb (.blk gb 168 #[.slice q1 (n+1) c1]))[jb]?=some _))
 clear S hb hj hh
 unfold l5 rW
 go_enter func116,ntmps116
 go_wp2_with (first
  | (go_at_call 190;go_must (refine(Uk.out q1 c1 w1 S1.out).mono ?_;rintro e w2 ⟨rfl,X',k1,k2,k3⟩;rw [xe (fun e=>hne e.symm)] at k3;have K1:=lh k1;have K2:=lh k2;have S2:=lh k3;clear k1 k2 k3))
  | (go_at_call 365;go_must (refine(wN _ _ _ _ (by omega)).mono ?_;rintro e wl ⟨rfl,hw⟩;have hw:=hw.symm;subst hw))
  | (go_at_call 368;go_must (refine JX.out.mono ?_;rintro e w1 ⟨rfl,q1,c1,T⟩;have b1:=(T.blk jb (HB.out q1 c1)).cell 0;have ML:=fun N hN=>Bo gb _ w1 N hN b1;have S1:=lh T;clear T)))
 go_end0
 exact⟨rfl,q1,c1,X',K1.out,K2.out,S2.out⟩
theorem Bn (gb:Nat) (q:Option Addr) (n c:Nat) (X:List (Int × Int)) (w w0:World) (Γ:List Pc) (jb j:Nat) (S:Ic w0 w Γ) (hb:Γ[jb]?=some (.blk gb 168 #[.slice q (n+1) c])) (hj:Γ[j]?=some (.own 105 2 q (n+1) c (aj X))) (hne:jb≠j) (hn:n<=90000) (hh:cC cM (n+1) X) :
  Calls prog 137 #[l5 gb] w fun e w'=>e=.returned (rW (ae X 0))/\∃ X':List (Int × Int),(ae X 0 :: X').Perm X/\cC cM n X'/\Ic w0 w' ((Γ.set j (.own 105 2 q n c (aj X'))).set jb (.blk gb 168 #[.slice q n c])):=by
 have IA:=(S.rd j hj (by omega)).nE
 have IM:=lh IA
 have b0:=(S.blk jb hb).cell 0
 have ML:=fun N hN=>Bo gb _ w N hN b0
 have MS:=fun N hN=>iI gb _ w N hN b0
 have MP:=fun W N hN=>GF gb W N hN
 have Uj:=lh (oz q (n+1) c X 0 n w w0 Γ j S hj (by omega) (by omega) (by omega))
 have Mc:=lh (fun w1 S1=>ER gb q n (n+1) c (bj X 0 n) w1 w0 (Γ.set j (.own 105 2 q (n+1) c (aj (bj X 0 n)))) jb j S1 (by rw [List.getElem?_set_ne (fun e=>hne e.symm)];exact hb) (dg hj) hne (by omega) (by omega) (tc IA.symm hh))
 have Mx:=lh (fun w2 Y S2=>GC gb q n c Y w2 w0 (Γ.set j (.own 105 2 q (n+1) c (aj Y))) jb j S2 (by rw [List.getElem?_set_ne (fun e=>hne e.symm)];exact hb) (dg hj) hne (by omega))
 have Pt:Hid (ae (bj X 0 n) n=ae X 0):=by unfold Hid;rw [cV (by omega),if_pos rfl]
 have Jw:=lh (cL (X:=X) (i:=0) (j:=n) (by omega) (by omega))
 clear S hb hj hh IA
 unfold l5
 go_enter func137,ntmps137
 go_wp2_with (first
  | (go_at_call 367;go_must (refine(Mx.out w2 X' S2.out).mono ?_;rintro e w3 ⟨rfl,T⟩;rw [List.set_set] at T;have S3:=lh T;clear T))
  | (go_at_call 203;go_must (refine(Mc.out w1 S1.out).mono ?_;rintro e w2 ⟨bb,rfl,X',k1,k2,k3,k4⟩;rw [List.set_set] at k4;have K1:=lh k1;have K2:=lh k2;have K3:=lh (k3 n (Nat.le_refl _) (by omega));have S2:=lh k4;clear k1 k2 k3 k4))
  | (go_at_call 369;go_must (refine Uj.out.mono ?_;rintro e w1 ⟨rfl,T⟩;have S1:=lh T;clear T))
  | (go_at_call 365;go_must (refine(wN _ _ _ _ (by omega)).mono ?_;rintro e wl ⟨rfl,hw⟩;have hw:=hw.symm;subst hw)))
 go_ret
 have e0:ae X' n=ae X 0:=K3.out.trans Pt.out
 refine⟨by rw [e0];rfl,X'.take n,?_,qH K2.out ?_,S3.out⟩
 ·exact tZ IM.out.symm (K1.out.trans Jw.out) e0
 ·rw [K1.out.length_eq,Jw.out.length_eq,<- IM.out];omega
end
section
open Go Go.RowKit
attribute [local go_sem] Oper.semAt_some
def Gy:Value->Nat
 | .slice _ n _=>n
 | _=>0
theorem DN:((prog).info? 105).map (fun i=>(i.zero,i.size,i.bytes))=some (some (.agg #[.int .i64 0,.int .i64 0]),2,16):=by kernel_rfl
theorem Fs (gb:Nat) (q:Option Addr) (m c:Nat) (X:List (Int × Int)) (w w0:World) (S:Ic w0 w [.own 105 2 q m c (aj X),.blk gb 168 #[.slice q m c]]) (hm:m<=10000) (hh:cC cM m X) (hnd:X.Nodup) :
  Calls prog 117 #[l5 gb] w fun e w'=>∃ ql cl,e=.returned (.slice ql (bl X).length cl)/\Ic w0 w' [.own 105 2 ql (bl X).length cl (aj (bl X))]:=by
 obtain⟨i0,hi0,hz0,hz1,hz2⟩:=info_parts DN
 have Q9:m=X.length:=(S.rdx 0 rfl).nE
 have Mh:=lh hnd
 have XG:=lh Q9
 have TA:=fun (x:Int × Int) W=>tQ x.1 x.2 W
 unfold l5
 have SH:=lh S;clear S
 clear Q9 hnd
 go_enter func117,ntmps117
 go_wp2
 go_loopw [3,4,5] (fun v3 _ _ wr=>∃ (out:List (Int × Int)) (ql:Option Addr) (cl m2:Nat) (q2:Option Addr) (c2:Nat) (Y:List (Int × Int)),v3=.slice ql out.length cl/\(out ++ Y).Perm X/\bM cM out/\(∀ a∈out,∀ b∈Y,cM b a=false)/\cC cM m2 Y/\Ic w0 wr [.own 105 2 ql out.length cl (aj out),.own 105 2 q2 m2 c2 (aj Y),.blk gb 168 #[.slice q2 m2 c2]]) (fun v3 _ _ _=>m - Gy v3)
 case atStart=>exact⟨[],none,0,m,q,c,X,rfl,List.Perm.refl _,List.Pairwise.nil,fun _ h=>(nomatch h),hh,(SH.out.nilrow 105 2).pick [0,1,2] (by decide) rfl⟩
 case round =>
  clear SH hh
  obtain⟨out,ql,cl,m2,q2,c2,Y,rfl,hp,hr,hle,hh,S⟩:=hrel
  have UR:=(S.rdx 1 rfl).nE
  have hlen:out.length+m2=m:=by have:=hp.length_eq;rw [List.length_append] at this;have:=XG.out;omega
  have b0:=(S.blk 2 rfl).cell 0
  have ML:=fun N hN=>Bo gb _ wr N hN b0
  by_cases hm0:m2=0
  ·subst hm0
   have hY:Y=[]:=List.eq_nil_of_length_eq_zero UR.symm
   subst hY
   rw [List.append_nil] at hp
   have HB:=lh (oU Mh.out hr hp)
   rw [HB.out] at S
   clear hp hr hle hh hlen UR
   rw [HB.out]
   have SJ:=lh S;clear S
   go_wp2_with (go_at_call 365;go_must (refine(wN _ _ _ _ (by omega)).mono ?_;rintro e wl ⟨rfl,hw⟩;have hw:=hw.symm;subst hw))
   go_ret
   exact⟨ql,cl,rfl,SJ.out.pick [0] (by decide) rfl⟩
  ·obtain⟨m',rfl⟩:∃ m',m2=m'+1:=⟨m2 - 1,by omega⟩
   have d2:decide ((0:Int)<(m':Int)+1)=true:=by simp;try omega
   have hmin:=tq ew hh
   have Mx:=lh (fun W (T:Ic w0 W [.own 105 2 ql out.length cl (aj out),.own 105 2 q2 (m'+1) c2 (aj Y),.blk gb 168 #[.slice q2 (m'+1) c2]])=>Bn gb q2 m' c2 Y W w0 _ 2 1 T rfl rfl (by decide) (by omega) hh)
   unfold l5 rW at Mx
   have Ud:Hid (∀ Y',(ae Y 0 :: Y').Perm Y->((out ++ [ae Y 0]) ++ Y').Perm X/\bM cM (out ++ [ae Y 0])/\∀ a∈out ++ [ae Y 0],∀ b∈Y',cM b a=false):=fun Y' h=>y6 ew hp Mh.out hr hle h fun b hb=>by
    obtain⟨i,hi,e⟩:=List.getElem_of_mem hb
    rw [<- e,<- ar hi];exact hmin i (by omega)
   generalize ae Y 0=y at *
   clear hp hr hle hh hmin UR hm0
   have SJ:=lh S;clear S
   go_wp2_with (first
    | (at_builtin;go_must (refine am rfl _ _ _ rfl 105 i0 _ 2 16 underlying32 hi0 hz0 hz1 hz2 rfl (by omega) ((S5.out.junk _).junk _) 0 ql out.length cl _ rfl rfl _ 1 1 _ rfl (Rd.newAt _ _ _ 1 2 _ (by simp) rfl (by omega)) (bu [y]) (by omega) (by omega) ?_;intro q6 c6 w6 S' hsz;have S6:=lh S';clear S' hsz))
    | (go_at_call 137;go_must (refine(Mx.out _ SJ.out).mono ?_;rintro e w5 ⟨rfl,Y',k1,k2,T⟩;have K1:=lh k1;have K2:=lh k2;have S5:=lh T;clear k1 k2 T))
    | (go_at_call 365;go_must (refine(wN _ _ _ _ (by omega)).mono ?_;rintro e wl ⟨rfl,hw⟩;have hw:=hw.symm;subst hw)))
   go_roundw
   case rel =>
    obtain⟨r1,r2,r3⟩:=Ud.out Y' K1.out
    exact⟨out ++ [y],q6,c6,m',q2,c2,Y',by rw [List.length_append];rfl,r1,r2,r3,K2.out,by rw [List.length_append,aF];exact S6.out⟩
   case measure=>simp [Gy];omega
end
section
open Go Go.RowKit
attribute [local go_sem] Oper.semAt_some
def gL (ck:Bool) (O:List Int) (s:Int) (ws:List ByteArray) (rad:Int):Int:=if dV ck O s≠0 then dV ck O s else if ws.length=0\/rad<0 then 1 else 0
def eX (ck:Bool) (O T R V:List Int) (s:Int) (L:List Po) (ws:List ByteArray) (rad:Int):List (Int × Int):=if gL ck O s ws rad=0 then bl (gv (fU ck false O T R V s) rad (dj L ws)) else []
theorem uQ (L:List Po) (ws:List ByteArray):bM fd (dj L ws):=by
 unfold dj;split
 ·exact List.Pairwise.nil
 ·exact uO L ws
theorem nC (L:List Po) (ws:List ByteArray):(dj L ws).Nodup:=(uQ L ws).imp fun {a b} h e=>by subst e;rw [kt.irrefl] at h;cases h
theorem Em (po : Option Addr) (no co : Nat) (O : List Int) (pt : Option Addr) (nt ct : Nat) (T : List Int) (pr : Option Addr) (nr cr : Nat) (R : List Int) (pv : Option Addr) (nv cv : Nat) (V : List Int) (pp : Option Addr) (np cp : Nat) (hs : List Hd) (L : List Po) (pw : Option Addr) (nw cw : Nat) (ws : List ByteArray) (s rad : Int) (w : World) (hO : Rd w 1 po no (ab O)) (hT : Rd w 1 pt nt (ab T)) (hR : Rd w 1 pr nr (ab R)) (hV : Rd w 1 pv nv (ab V)) (hct : nt <= ct) (hcv : nv <= cv) (hL : IW w pp np hs L) (hok : Io L) (hW : Rd w 1 pw nw (bg ws)) (hcw : nw <= cw) (hnw : nw <= 100) :
    Calls prog 69 #[.agg #[.slice po no co, .slice pt nt ct, .slice pr nr cr, .slice pv nv cv], .slice pp np cp, .int .i64 s, .slice pw nw cw, .int .i64 rad] w fun e w' => ∃ q c, e = .returned (.tuple #[.slice q (eX (ai O T R V) O T R V s L ws rad).length c, .int .i64 (gL (ai O T R V) O s ws rad)]) /\ Ic w w' [.own 105 2 q (eX (ai O T R V) O T R V s L ws rad).length c (aj (eX (ai O T R V) O T R V s L ws rad))] := by
  have I1 := lh (fun W (h : Ext w W) => Cr po no co O pt nt ct T pr nr cr R pv nv cv V s false W (hO.ext h) (hT.ext h) (hR.ext h) (hV.ext h) hct hcv)
  have IX := lh (fun W (h : Ext w W) => Dr pp np cp hs L pw nw cw ws W (hL.ext h) hok (hW.ext h) hcw hnw)
  have S0 := lh ((Ic.start w).al #[.slice po no co, .slice pt nt ct, .slice pr nr cr, .slice pv nv cv] 27 w.heap.size rfl)
  have hwl := hW.nS
  have KC := lh (kB hok ws)
  have Mh := lh (fun d => n6 (d := d) (rad := rad) (nC L ws))
  have hlr : (fU (ai O T R V) false O T R V s).length <= 9000000000 := by
    unfold fU
    split
    · rename_i h
      have hck : ai O T R V = true := by
        cases h2 : ai O T R V with
        | true => rfl
        | false => rw [h2] at h; simp [dV] at h
      have r := aQ (aI (aK hck).2.2.1)
      simp; omega
    · simp
  have TS := lh hlr
  have hcx : ∀ c, dV (ai O T R V) O s = c -> gL (ai O T R V) O s ws rad = if c ≠ 0 then c else if ws.length = 0 \/ rad < 0 then 1 else 0 := fun c h => by unfold gL; rw [h]
  have hrx : eX (ai O T R V) O T R V s L ws rad = if gL (ai O T R V) O s ws rad = 0 then bl (gv (fU (ai O T R V) false O T R V s) rad (dj L ws)) else [] := rfl
  clear hO hT hR hV hct hcv hL hok hW hcw hnw hlr
  obtain ⟨lc, hlc⟩ : ∃ lc, dV (ai O T R V) O s = lc := ⟨_, rfl⟩
  have Ip := hcx lc hlc
  rw [hlc] at I1
  clear hcx hlc
  generalize gL (ai O T R V) O s ws rad = nc at *
  generalize eX (ai O T R V) O T R V s L ws rad = Y0 at *
  generalize fU (ai O T R V) false O T R V s = d at *
  obtain ⟨cx, hcw2⟩ : ∃ cx, mq ws = cx := ⟨_, rfl⟩
  have hcw3 : cx = if ws.length = 0 then 1 else 0 := by rw [<- hcw2]; rfl
  rw [hcw2] at IX
  clear hcw2 hwl
  generalize dj L ws = P at *
  by_cases h1 : lc = 0
  · rw [if_neg (by simpa using h1)] at Ip
    have e1 : (lc != 0) = false := by simpa using h1
    by_cases h2 : ws.length = 0
    · rw [if_pos h2] at hcw3
      rw [if_pos (.inl h2)] at Ip
      rw [Ip, if_neg (by decide)] at hrx
      subst hcw3 Ip hrx
      clear h1 h2
      go_enter func69, ntmps69
      go_wp2_with (first | (go_at_call 115; have _t := S1; go_must (refine (IX.out _ S1.out.ext).mono ?_; rintro e w2 ⟨q2, c2, rfl, Z⟩; have S2 := lh (S1.out.comp Z); clear Z)) | (go_at_call 114; go_must (refine (I1.out _ S0.out.ext).mono ?_; rintro e w1 ⟨q1, c1, rfl, Z⟩; have S1 := lh (S0.out.comp Z); clear Z)))
      go_ret2
      exact ⟨none, 0, rfl, ((Ic.start w).call S2.out.ext).nilrow _ _⟩
    · rw [if_neg h2] at hcw3
      by_cases h3 : rad < 0
      · have e3 : decide (rad < 0) = true := by simpa using h3
        rw [if_pos (.inr h3)] at Ip
        rw [Ip, if_neg (by decide)] at hrx
        subst hcw3 Ip hrx
        clear h1 h2 h3
        go_enter func69, ntmps69
        go_wp2_with (first | (go_at_call 115; have _t := S1; go_must (refine (IX.out _ S1.out.ext).mono ?_; rintro e w2 ⟨q2, c2, rfl, Z⟩; have S2 := lh (S1.out.comp Z); clear Z)) | (go_at_call 114; go_must (refine (I1.out _ S0.out.ext).mono ?_; rintro e w1 ⟨q1, c1, rfl, Z⟩; have S1 := lh (S0.out.comp Z); clear Z)))
        go_ret2
        exact ⟨none, 0, rfl, ((Ic.start w).call S2.out.ext).nilrow _ _⟩
      · have e3 : decide (rad < 0) = false := by simpa using h3
        rw [if_neg (by rintro (h | h); · exact h2 h
                       · exact h3 h)] at Ip
        rw [Ip, if_pos rfl] at hrx
        subst hcw3 Ip hrx
        clear h1 h2 h3
        go_enter func69, ntmps69
        go_wp2_with (first | (go_at_call 115; have _t := S1; go_must (refine (IX.out _ S1.out.ext).mono ?_; rintro e w2 ⟨q2, c2, rfl, Z⟩; have S2 := lh (S1.out.comp Z); clear Z)) | (go_at_call 114; go_must (refine (I1.out _ S0.out.ext).mono ?_; rintro e w1 ⟨q1, c1, rfl, Z⟩; have S1 := lh (S0.out.comp Z); clear Z)))
        have S3 := lh (((S2.out.alrw #[] 105 2 0 w2.heap.size rfl (by decide) rfl).al #[.slice (some ⟨w2.heap.size, 0, none⟩) 0 0] 168 (w2.heap.size + 1) (by simp)).pick [1, 0, 2, 3] (by decide) rfl)
        generalize (w2.alloc (.cells #[] 105)).alloc (.cells #[.slice (some ⟨w2.heap.size, 0, none⟩) 0 0] 168) = w3 at *
        generalize hq0 : (some ⟨w2.heap.size, 0, none⟩ : Option Addr) = q0 at *
        generalize hgb : w2.heap.size + 1 = gb at *
        clear hq0 hgb S0 S1 S2 I1 IX
        go_loopw [17, 43] (fun _ i wr => ∃ (k m : Nat) (q : Option Addr) (c : Nat) (X : List (Int × Int)), k <= P.length /\ i = .int .i64 k /\ X.Perm (gv d rad (P.take k)) /\ cC cM m X /\ Ic w wr [.own 105 2 q m c (aj X), .blk gb 168 #[.slice q m c], .own 3 1 q2 P.length c2 (ab P), .own 3 1 q1 d.length c1 (ab d)]) (fun _ i _ => P.length - (intOf i).toNat)
        case atStart => exact ⟨0, 0, q0, 0, [], Nat.zero_le _, rfl, by simp [gv], fun i h0 h1 => by omega, S3.out⟩
        case round =>
          clear S3
          obtain ⟨k, m, q, c, X, hk, rfl, hp, hh, S⟩ := hrel
          have Q9 := (S.rdx 0 rfl).nE
          have hgl := nZ d rad (P.take k)
          have hpl := hp.length_eq
          have hm1 : m <= 1000 := by rw [List.length_take] at hgl; have := KC.out; omega
          have pP := (S.rd 2 rfl (by have := KC.out; omega)).ptr
          clear hgl hpl Q9
          have hP1 := KC.out
          by_cases hlt : k < P.length
          · have d1 : (0:Int) <= k := by omega
            have d2 : (k:Int) < P.length := by omega
            have g1 := (S.rd 2 rfl (by have := KC.out; omega)).cI hlt
            have HST := lh (qF d rad hlt)
            have Jf := lh (qG (d := d) (rad := rad) (v := ae P k))
            have RD := lh (S.rd 3 rfl (by have := TS.out; omega))
            have pD := RD.out.ptr
            generalize ae P k = v at *
            generalize gv d rad (P.take k) = G at *
            have HP := lh hp
            have HH := lh hh
            clear hp hh
            by_cases a1 : 0 <= v
            · have k1 : decide (0 <= v) = true := by simpa using a1
              by_cases a2 : v < d.length
              · have k2 : decide (v < d.length) = true := by simpa using a2
                obtain ⟨u, rfl⟩ : ∃ u : Nat, v = u := ⟨v.toNat, by omega⟩
                have g2 := RD.out.cI (k := u) (by omega)
                rw [Int.toNat_natCast] at Jf
                have HX : Hid (vA d (u:Int) = ((u:Int), ae d u)) := by unfold Hid vA; rw [Int.toNat_natCast]
                generalize ae d u = x at *
                have YT : decide (u < d.length) = true := by simp; omega
                by_cases a3 : 0 <= x
                · have k3 : decide (0 <= x) = true := by simpa using a3
                  by_cases a4 : x <= rad
                  · have k4 : decide (x <= rad) = true := by simpa using a4
                    have hg : kM d rad (u:Int) = true := Jf.out.2 ⟨a1, a2, a3, a4⟩
                    rw [if_pos hg, HX.out] at HST
                    have JX := lh (yT gb q m c X ((u:Int), x) wr w _ 1 0 S rfl rfl (by decide) (by omega) HH.out)
                    unfold l5 rW at JX
                    have SH := lh S; clear S
                    clear a3 a4 hg Jf HX RD
                    go_wp2_with (go_at_call 116; go_must (refine JX.out.mono ?_; rintro e w5 ⟨rfl, q', c', X', k1, k2, T⟩; have K1 := lh k1; have K2 := lh k2; have S5 := lh T; clear k1 k2 T))
                    go_roundw
                    case rel => exact ⟨k + 1, m + 1, q', c', X', by omega, by go_num, by rw [HST.out]; exact K1.out.trans (HP.out.append_right _), K2.out, S5.out⟩
                    case measure => simp [intOf]; omega
                  · have k4 : decide (x <= rad) = false := by simpa using a4
                    rw [if_neg fun h => a4 (Jf.out.1 h).2.2.2] at HST
                    have SH := lh S; clear S
                    clear a3 a4 Jf HX RD
                    go_wp2
                    go_roundw
                    case rel => exact ⟨k + 1, m, q, c, X, by omega, by go_num, by rw [HST.out]; exact HP.out, HH.out, SH.out⟩
                    case measure => simp [intOf]; omega
                · have k3 : decide (0 <= x) = false := by simpa using a3
                  rw [if_neg fun h => a3 (Jf.out.1 h).2.2.1] at HST
                  have SH := lh S; clear S
                  clear a3 Jf HX RD
                  go_wp2
                  go_roundw
                  case rel => exact ⟨k + 1, m, q, c, X, by omega, by go_num, by rw [HST.out]; exact HP.out, HH.out, SH.out⟩
                  case measure => simp [intOf]; omega
              · have k2 : decide (v < d.length) = false := by simpa using a2
                rw [if_neg fun h => a2 (Jf.out.1 h).2.1] at HST
                have SH := lh S; clear S
                clear a2 Jf RD
                go_wp2
                go_roundw
                case rel => exact ⟨k + 1, m, q, c, X, by omega, by go_num, by rw [HST.out]; exact HP.out, HH.out, SH.out⟩
                case measure => simp [intOf]; omega
            · have k1 : decide (0 <= v) = false := by simpa using a1
              rw [if_neg fun h => a1 (Jf.out.1 h).1] at HST
              have SH := lh S; clear S
              clear a1 Jf RD
              go_wp2
              go_roundw
              case rel => exact ⟨k + 1, m, q, c, X, by omega, by go_num, by rw [HST.out]; exact HP.out, HH.out, SH.out⟩
              case measure => simp [intOf]; omega
          · have YA : k = P.length := by omega
            rw [List.take_of_length_le (by omega)] at hp
            have IA : X.Nodup := hp.nodup_iff.2 (Mh.out d)
            have HE := lh (oU (Mh.out d) (mK X IA) ((iM X).trans hp))
            have Nz := lh (Fs gb q m c X wr w (S.pick [0, 1] (by decide) rfl) (by omega) hh IA)
            rw [HE.out] at Nz
            unfold l5 at Nz
            have d2 : decide ((k:Int) < P.length) = false := by simp; omega
            have UB : decide (k < P.length) = false := by simp; omega
            have SH := lh S; clear S
            clear hp hh IA YA hlt
            go_wp2_with (go_at_call 117; go_must (refine Nz.out.mono ?_; rintro e w5 ⟨ql, cl, rfl, T⟩; have S5 := lh T; clear T))
            go_ret2
            exact ⟨ql, cl, rfl, S5.out⟩
  · rw [if_pos h1] at Ip
    have e1 : (lc != 0) = true := by simpa using h1
    rw [Ip, if_neg h1] at hrx
    subst Ip hrx
    clear h1
    go_enter func69, ntmps69
    go_wp2_with (first | (go_at_call 115; have _t := S1; go_must (refine (IX.out _ S1.out.ext).mono ?_; rintro e w2 ⟨q2, c2, rfl, Z⟩; have S2 := lh (S1.out.comp Z); clear Z)) | (go_at_call 114; go_must (refine (I1.out _ S0.out.ext).mono ?_; rintro e w1 ⟨q1, c1, rfl, Z⟩; have S1 := lh (S0.out.comp Z); clear Z)))
    go_ret2
    exact ⟨none, 0, rfl, ((Ic.start w).call S1.out.ext).nilrow _ _⟩
end
theorem wn (a b:Int × Int) (w:World):Calls prog 196 #[.agg #[.int .i64 a.1,.int .i64 a.2],.agg #[.int .i64 b.1,.int .i64 b.2]] w fun e w'=>e=.returned (.bool (cM a b))/\Ext w w':=by
 have S0:=lh (((Ic.start w).al #[.int .i64 a.1,.int .i64 a.2] 105 w.heap.size rfl).al #[.int .i64 b.1,.int .i64 b.2] 105 (w.heap.size+1) (by simp))
 obtain⟨a1,a2⟩:=a
 obtain⟨b1,b2⟩:=b
 unfold cM
 simp only at *
 by_cases h1:a2<b2
 ·have e1:decide (a2<b2)=true:=by simpa using h1
  rw [e1,Bool.true_or]
  clear h1
  go_enter func196,ntmps196
  go_wp2
  go_ret
  exact⟨rfl,S0.out.ext⟩
 ·have e1:decide (a2<b2)=false:=by simpa using h1
  rw [e1,Bool.false_or]
  by_cases h2:a2=b2
  ·have e2:(a2 == b2)=true:=by simpa using h2
   rw [decide_eq_true h2,Bool.true_and]
   clear h1 h2
   go_enter func196,ntmps196
   go_wp2
   go_ret
   exact⟨rfl,S0.out.ext⟩
  ·have e2:(a2 == b2)=false:=by simpa using h2
   rw [decide_eq_false h2,Bool.false_and]
   clear h1 h2
   go_enter func196,ntmps196
   go_wp2
   go_ret
   exact⟨rfl,S0.out.ext⟩
theorem lg {w:World} {q:Option Addr} {n d:Nat} {L:List (Int × Int)} (h:Rd w 2 q n (aj L)) (hd:d<=n):Rd w 2 q d (aj (L.take d)):=by
 have:=h.take (k:=d) hd
 rwa [jG] at this
theorem nd {w:World} {q:Option Addr} {n d c:Nat} {L:List (Int × Int)} (h:Rd w 2 q n (aj L)) (hd:d<=n) (hc:n<=c):Rd w 2 (bv q c d 2) (n - d) (aj (L.drop d)):=by
 have hl:=h.nE
 have:=h.cut (l:=d) (h:=n) (c:=c) hd (Nat.le_refl _) hc
 rw [lO,jG,List.take_of_length_le (by rw [List.length_drop];omega)] at this
 exact this
theorem Fz (p:Option Addr) (n c:Nat) (l:List (Int × Int)) (x:Int × Int) (w:World) (hl:Rd w 2 p n (aj l)) (hc:n<=c) (hn:n<=100000) :
  Calls prog 123 #[.slice p n c,.agg #[.int .i64 x.1,.int .i64 x.2]] w fun e w'=>∃ q c',e=.returned (.slice q (df x l).length c')/\Ic w w' [.own 105 2 q (df x l).length c' (aj (df x l))]:=by
 obtain⟨i0,hi0,hz0,hz1,hz2⟩:=info_parts DN
 have S0:=lh ((Ic.start w).al #[.int .i64 x.1,.int .i64 x.2] 105 w.heap.size rfl)
 have hln:=hl.nE
 have LL:=lh hln
 have p1:=hl.ptr
 have HL:=lh hl
 have HA:=fun (b:Int × Int) W=>wn x b W
 obtain⟨x1,x2⟩:=x
 simp only at S0 HA ⊢
 clear hl hln
 go_enter func123,ntmps123
 go_wp2
 go_loopw [5] (fun i wr=>∃ k:Nat,k<=n/\i=.int .i64 k/\Hid (∀ i,i<k->cM (x1,x2) (ae l i)=false)/\Ic w wr [.blk w.heap.size 105 #[.int .i64 x1,.int .i64 x2]]) (fun i _=>n - (intOf i).toNat)
 case atStart=>exact⟨0,Nat.zero_le _,rfl,fun i hi=>by omega,S0.out⟩
 case round =>
  clear S0
  obtain⟨k,hk,rfl,HK,S⟩:=hrel
  obtain⟨b0,b1,bz⟩:=aH (S.blk 0 rfl)
  by_cases hlt:k<n
  ·have I7:k<l.length:=by rw [<- LL.out];exact hlt
   have g1:=S.ext.cell (HL.out.cE hlt)
   have g2:=S.ext.cell (HL.out.cE2 hlt)
   have d1:(0:Int)<=k:=by omega
   have d2:(k:Int)<n:=by omega
   have HAT:Hid (cM (x1,x2) (ae l k)=true->k=lG (x1,x2) l):=fun h=>rE (by omega) HK.out fun _=>h
   have NQ:Hid (cM (x1,x2) (ae l k)=false->∀ i,i<k+1->cM (x1,x2) (ae l i)=false):=fun h i hi=>by
    by_cases e:i=k
    ·subst e;exact h
    ·exact HK.out i (by omega)
   have JK:=lh (fun y:Ie wr=>HA (ae l k) y.val)
   generalize ae l k=y at *
   cases hy:cM (x1,x2) y with
   | false =>
    rw [hy] at JK
    have Kj:=lh (NQ.out hy)
    clear hy HAT NQ HK
    have SH:=lh S;clear S
    go_wp2
    have u0:=fun x:Ie wr=>x.ext.cell b0
    have u1:=fun x:Ie wr=>x.ext.cell b1
    have u2:=fun x:Ie wr=>x.ext.cell g1
    have u3:=fun x:Ie wr=>x.ext.cell g2
    refine av (by kernel_rfl) (by kernel_rfl) ?_
    repeat (go_big_quiet_step (((go_at_call 196;exact Calls.ext_of (JK.out _)))))
    refine wpQuiet_nil ?_
    rintro w9 ⟨⟨_,IR⟩,rfl⟩
    go_wp2
    go_roundw
    case rel=>exact⟨k+1,by omega,by go_num,Kj.out,SH.out.call IR⟩
    case measure=>simp [intOf];omega
   | true =>
    rw [hy] at JK
    have HE:=lh (HAT.out hy)
    clear hy HAT NQ HK
    have SH:=lh S;clear S
    go_wp2
    have u0:=fun x:Ie wr=>x.ext.cell b0
    have u1:=fun x:Ie wr=>x.ext.cell b1
    have u2:=fun x:Ie wr=>x.ext.cell g1
    have u3:=fun x:Ie wr=>x.ext.cell g2
    refine av (by kernel_rfl) (by kernel_rfl) ?_
    repeat (go_big_quiet_step (((go_at_call 196;exact Calls.ext_of (JK.out _)))))
    refine wpQuiet_nil ?_
    rintro w9 ⟨⟨_,IR⟩,rfl⟩
    have S9:=lh (SH.out.call IR)
    have HF:Hid (df (x1,x2) l=l.take k ++ ([(x1,x2)] ++ l.drop k)):=by unfold Hid df;rw [<- HE.out]
    have hkn:(k:Int)<=n:=by omega
    clear IR g1 g2 JK u0 u1 u2 u3 b0 b1 bz SH
    obtain⟨b0,b1,bz⟩:=aH (S9.out.blk 0 rfl)
    go_wp2_with (first | (at_builtin;have _t:=T2;go_must (refine am rfl _ _ _ rfl 105 i0 _ 2 16 underlying32 hi0 hz0 hz1 hz2 rfl (by omega) T2.out 0 q7 (k+1) c7 _ rfl rfl _ _ _ (aj (l.drop k)) rfl (by have hz:=nd (d:=k) (HL.out.ext T2.out.ext) (by omega) hc;simpa [bv,Addr.add] using hz) (bu _) (by omega) (by omega) ?_;intro q8 c8 w8 S' hsz;have T3:=lh S';clear S' hsz)) | (at_builtin;have _t:=T1;go_must (refine am rfl _ _ _ rfl 105 i0 _ 2 16 underlying32 hi0 hz0 hz1 hz2 rfl (by omega) (T1.out.junk _) 0 q6 k c6 _ rfl rfl _ 1 1 _ rfl (Rd.one2 _ _ _ _) (bu _) (by omega) (by omega) ?_;intro q7 c7 w7 S' hsz;have T2:=lh S';clear S' hsz)) | (at_builtin;have _t:=S9;go_must (refine am rfl _ _ _ rfl 105 i0 _ 2 16 underlying32 hi0 hz0 hz1 hz2 rfl (by omega) (S9.out.nilrow 105 2) 0 none 0 0 [] rfl rfl p k c _ rfl (lg (HL.out.ext S9.out.ext) (by omega)) (bu _) (by omega) (by omega) ?_;intro q6 c6 w6 S' hsz;(try simp only [Nat.zero_add,List.nil_append] at S');have T1:=lh S';obtain⟨e0,e1,ez⟩:=aH (S'.blk 1 rfl);clear S' hsz)))
    go_ret
    have hL2:k+1+(n - k)=(df (x1,x2) l).length:=by(rw [fX,<- LL.out];omega)
    have T:Ic w w8 [.own 105 2 q8 (k+1+(n - k)) c8 (aj (l.take k) ++ aj [(x1,x2)] ++ aj (l.drop k))]:=T3.out.pick [0] (by decide) rfl
    rw [List.append_assoc,<- aF,<- aF,hL2,<- HF.out] at T
    exact⟨q8,c8,eO hL2,T⟩
  ·have hkn':k=n:=by omega
   have HE:Hid (k=lG (x1,x2) l):=rE (by have:=LL.out;omega) HK.out fun h=>absurd h (by have:=LL.out;omega)
   have HF:Hid (df (x1,x2) l=l.take k ++ ([(x1,x2)] ++ l.drop k)):=by unfold Hid df;rw [<- HE.out]
   have d2:decide ((k:Int)<n)=false:=by simp;omega
   have UB:decide (k<n)=false:=by simp;omega
   have d1:(0:Int)<=k:=by omega
   have hkn:(k:Int)<=n:=by omega
   clear hkn' hlt HK
   have JK:=lh (fun y:Ie wr=>HA (0,0) y.val)
   have SH:=lh S;clear S
   go_wp2
   have u0:=fun x:Ie wr=>x.ext.cell b0
   have u1:=fun x:Ie wr=>x.ext.cell b1
   refine av (by kernel_rfl) (by kernel_rfl) ?_
   repeat (go_big_quiet_step (((go_at_call 196;exact Calls.ext_of (JK.out _)))))
   refine wpQuiet_nil ?_
   rintro w9 ⟨⟨_,IR⟩,rfl⟩
   have S9:=lh (SH.out.call IR)
   clear IR JK u0 u1 b0 b1 bz SH
   obtain⟨b0,b1,bz⟩:=aH (S9.out.blk 0 rfl)
   go_wp2_with (first | (at_builtin;have _t:=T2;go_must (refine am rfl _ _ _ rfl 105 i0 _ 2 16 underlying32 hi0 hz0 hz1 hz2 rfl (by omega) T2.out 0 q7 (k+1) c7 _ rfl rfl _ _ _ (aj (l.drop k)) rfl (by have hz:=nd (d:=k) (HL.out.ext T2.out.ext) (by omega) hc;simpa [bv,Addr.add] using hz) (bu _) (by omega) (by omega) ?_;intro q8 c8 w8 S' hsz;have T3:=lh S';clear S' hsz)) | (at_builtin;have _t:=T1;go_must (refine am rfl _ _ _ rfl 105 i0 _ 2 16 underlying32 hi0 hz0 hz1 hz2 rfl (by omega) (T1.out.junk _) 0 q6 k c6 _ rfl rfl _ 1 1 _ rfl (Rd.one2 _ _ _ _) (bu _) (by omega) (by omega) ?_;intro q7 c7 w7 S' hsz;have T2:=lh S';clear S' hsz)) | (at_builtin;have _t:=S9;go_must (refine am rfl _ _ _ rfl 105 i0 _ 2 16 underlying32 hi0 hz0 hz1 hz2 rfl (by omega) (S9.out.nilrow 105 2) 0 none 0 0 [] rfl rfl p k c _ rfl (lg (HL.out.ext S9.out.ext) (by omega)) (bu _) (by omega) (by omega) ?_;intro q6 c6 w6 S' hsz;(try simp only [Nat.zero_add,List.nil_append] at S');have T1:=lh S';obtain⟨e0,e1,ez⟩:=aH (S'.blk 1 rfl);clear S' hsz)))
   go_ret
   have hL2:k+1+(n - k)=(df (x1,x2) l).length:=by(rw [fX,<- LL.out];omega)
   have T:Ic w w8 [.own 105 2 q8 (k+1+(n - k)) c8 (aj (l.take k) ++ aj [(x1,x2)] ++ aj (l.drop k))]:=T3.out.pick [0] (by decide) rfl
   rw [List.append_assoc,<- aF,<- aF,hL2,<- HF.out] at T
   exact⟨q8,c8,eO hL2,T⟩
section
open Go Go.RowKit
attribute [local go_sem] Oper.semAt_some
theorem Ef (po : Option Addr) (no co : Nat) (O : List Int) (pt : Option Addr) (nt ct : Nat) (T : List Int) (pr : Option Addr) (nr cr : Nat) (R : List Int) (pv : Option Addr) (nv cv : Nat) (V : List Int) (pp : Option Addr) (np cp : Nat) (hs : List Hd) (L : List Po) (pw : Option Addr) (nw cw : Nat) (ws : List ByteArray) (s rad : Int) (w : World) (hO : Rd w 1 po no (ab O)) (hT : Rd w 1 pt nt (ab T)) (hR : Rd w 1 pr nr (ab R)) (hV : Rd w 1 pv nv (ab V)) (hct : nt <= ct) (hcv : nv <= cv) (hL : IW w pp np hs L) (hok : Io L) (hW : Rd w 1 pw nw (bg ws)) (hcw : nw <= cw) (hnw : nw <= 100) :
    Calls prog 72 #[.agg #[.slice po no co, .slice pt nt ct, .slice pr nr cr, .slice pv nv cv], .slice pp np cp, .int .i64 s, .slice pw nw cw, .int .i64 rad] w fun e w' => ∃ q c, e = .returned (.tuple #[.slice q (eX (ai O T R V) O T R V s L ws rad).length c, .int .i64 (gL (ai O T R V) O s ws rad)]) /\ Ic w w' [.own 105 2 q (eX (ai O T R V) O T R V s L ws rad).length c (aj (eX (ai O T R V) O T R V s L ws rad))] := by
  have _u := hcw
  clear _u
  have I1 := lh (fun W (h : Ext w W) => zY po no co O pt nt ct T pr nr cr R pv nv cv V W s false (hO.ext h) (hT.ext h) (hR.ext h) (hV.ext h) hct hcv)
  have IX := lh (fun W (h : Ext w W) => D1 pp np cp hs L pw nw cw ws W (hL.ext h) hok (hW.ext h) hnw)
  have S0 := lh ((Ic.start w).al #[.slice po no co, .slice pt nt ct, .slice pr nr cr, .slice pv nv cv] 27 w.heap.size rfl)
  have hwl := hW.nS
  have KC := lh (kB hok ws)
  have Mh := lh (fun d => n6 (d := d) (rad := rad) (nC L ws))
  have hlr : (fU (ai O T R V) false O T R V s).length <= 9000000000 := by
    unfold fU
    split
    · rename_i h
      have hck : ai O T R V = true := by
        cases h2 : ai O T R V with
        | true => rfl
        | false => rw [h2] at h; simp [dV] at h
      have r := aQ (aI (aK hck).2.2.1)
      simp; omega
    · simp
  have TS := lh hlr
  have hcx : ∀ c, dV (ai O T R V) O s = c -> gL (ai O T R V) O s ws rad = if c ≠ 0 then c else if ws.length = 0 \/ rad < 0 then 1 else 0 := fun c h => by unfold gL; rw [h]
  have hrx : eX (ai O T R V) O T R V s L ws rad = if gL (ai O T R V) O s ws rad = 0 then bl (gv (fU (ai O T R V) false O T R V s) rad (dj L ws)) else [] := rfl
  clear hO hT hR hV hct hcv hL hok hW hcw hnw hlr
  obtain ⟨lc, hlc⟩ : ∃ lc, dV (ai O T R V) O s = lc := ⟨_, rfl⟩
  have Ip := hcx lc hlc
  rw [hlc] at I1
  clear hcx hlc
  generalize gL (ai O T R V) O s ws rad = nc at *
  generalize eX (ai O T R V) O T R V s L ws rad = Y0 at *
  generalize fU (ai O T R V) false O T R V s = d at *
  obtain ⟨cx, hcw2⟩ : ∃ cx, mq ws = cx := ⟨_, rfl⟩
  have hcw3 : cx = if ws.length = 0 then 1 else 0 := by rw [<- hcw2]; rfl
  rw [hcw2] at IX
  clear hcw2 hwl
  generalize dj L ws = P at *
  by_cases h1 : lc = 0
  · rw [if_neg (by simpa using h1)] at Ip
    have e1 : (lc != 0) = false := by simpa using h1
    by_cases h2 : ws.length = 0
    · rw [if_pos h2] at hcw3
      rw [if_pos (.inl h2)] at Ip
      rw [Ip, if_neg (by decide)] at hrx
      subst hcw3 Ip hrx
      clear h1 h2
      go_enter func72, ntmps72
      go_wp2_with (first | (go_at_call 122; have _t := S1; go_must (refine (IX.out _ S1.out.ext).mono ?_; rintro e w2 ⟨q2, c2, rfl, Z⟩; have S2 := lh (S1.out.comp Z); clear Z)) | (go_at_call 121; go_must (refine (I1.out _ S0.out.ext).mono ?_; rintro e w1 ⟨q1, c1, rfl, Z⟩; have S1 := lh (S0.out.comp Z); clear Z)))
      go_ret2
      exact ⟨none, 0, rfl, ((Ic.start w).call S2.out.ext).nilrow _ _⟩
    · rw [if_neg h2] at hcw3
      by_cases h3 : rad < 0
      · have e3 : decide (rad < 0) = true := by simpa using h3
        rw [if_pos (.inr h3)] at Ip
        rw [Ip, if_neg (by decide)] at hrx
        subst hcw3 Ip hrx
        clear h1 h2 h3
        go_enter func72, ntmps72
        go_wp2_with (first | (go_at_call 122; have _t := S1; go_must (refine (IX.out _ S1.out.ext).mono ?_; rintro e w2 ⟨q2, c2, rfl, Z⟩; have S2 := lh (S1.out.comp Z); clear Z)) | (go_at_call 121; go_must (refine (I1.out _ S0.out.ext).mono ?_; rintro e w1 ⟨q1, c1, rfl, Z⟩; have S1 := lh (S0.out.comp Z); clear Z)))
        go_ret2
        exact ⟨none, 0, rfl, ((Ic.start w).call S2.out.ext).nilrow _ _⟩
      · have e3 : decide (rad < 0) = false := by simpa using h3
        rw [if_neg (by rintro (h | h); · exact h2 h
                       · exact h3 h)] at Ip
        rw [Ip, if_pos rfl] at hrx
        subst hcw3 Ip hrx
        clear h1 h2 h3
        go_enter func72, ntmps72
        go_wp2_with (first | (go_at_call 122; have _t := S1; go_must (refine (IX.out _ S1.out.ext).mono ?_; rintro e w2 ⟨q2, c2, rfl, Z⟩; have S2 := lh (S1.out.comp Z); clear Z)) | (go_at_call 121; go_must (refine (I1.out _ S0.out.ext).mono ?_; rintro e w1 ⟨q1, c1, rfl, Z⟩; have S1 := lh (S0.out.comp Z); clear Z)))
        have S3 := lh ((S2.out.nilrow 105 2).pick [0, 1, 2] (by decide) rfl)
        clear S0 S1 S2 I1 IX
        go_loopw [16, 17, 18] (fun v16 i _ wr => ∃ (k : Nat) (q : Option Addr) (c : Nat), k <= P.length /\ i = .int .i64 k /\ v16 = .slice q (bl (gv d rad (P.take k))).length c /\ Ic w wr [.own 105 2 q (bl (gv d rad (P.take k))).length c (aj (bl (gv d rad (P.take k)))), .own 3 1 q2 P.length c2 (ab P), .own 3 1 q1 d.length c1 (ab d)]) (fun _ i _ _ => P.length - (intOf i).toNat)
        case atStart => exact ⟨0, none, 0, Nat.zero_le _, rfl, rfl, S3.out⟩
        case round =>
          clear S3
          obtain ⟨k, q, c, hk, rfl, rfl, S⟩ := hrel
          have hgl := nZ d rad (P.take k)
          have hm1 : (bl (gv d rad (P.take k))).length <= 1000 := by rw [jR]; rw [List.length_take] at hgl; have := KC.out; omega
          have pP := (S.rd 1 rfl (by have := KC.out; omega)).ptr
          clear hgl
          have hP1 := KC.out
          by_cases hlt : k < P.length
          · have d1 : (0:Int) <= k := by omega
            have d2 : (k:Int) < P.length := by omega
            have g1 := (S.rd 1 rfl (by have := KC.out; omega)).cI hlt
            have HST := lh (qF d rad hlt)
            have Jf := lh (qG (d := d) (rad := rad) (v := ae P k))
            have RD := lh (S.rd 2 rfl (by have := TS.out; omega))
            have pD := RD.out.ptr
            generalize ae P k = v at *
            generalize gv d rad (P.take k) = G at *
            have Ka := lh (fun x => dY G x)
            have hcap := cu (S.own 0 rfl)
            by_cases a1 : 0 <= v
            · have k1 : decide (0 <= v) = true := by simpa using a1
              by_cases a2 : v < d.length
              · have k2 : decide (v < d.length) = true := by simpa using a2
                obtain ⟨u, rfl⟩ : ∃ u : Nat, v = u := ⟨v.toNat, by omega⟩
                have g2 := RD.out.cI (k := u) (by omega)
                rw [Int.toNat_natCast] at Jf
                have HX : Hid (vA d (u:Int) = ((u:Int), ae d u)) := by unfold Hid vA; rw [Int.toNat_natCast]
                generalize ae d u = x at *
                have YT : decide (u < d.length) = true := by simp; omega
                by_cases a3 : 0 <= x
                · have k3 : decide (0 <= x) = true := by simpa using a3
                  by_cases a4 : x <= rad
                  · have k4 : decide (x <= rad) = true := by simpa using a4
                    have hg : kM d rad (u:Int) = true := Jf.out.2 ⟨a1, a2, a3, a4⟩
                    rw [if_pos hg, HX.out] at HST
                    have JX := lh (Fz q (bl G).length c (bl G) ((u:Int), x) wr (S.rdx 0 rfl) hcap (by omega))
                    have SH := lh S; clear S
                    clear a3 a4 hg Jf HX RD
                    go_wp2_with (go_at_call 123; go_must (refine JX.out.mono ?_; rintro e w5 ⟨q', c', rfl, Z⟩; have S5 := lh ((SH.out.comp Z).pick [0, 2, 3] (by decide) rfl); clear Z))
                    go_roundw
                    case rel => exact ⟨k + 1, q', c', by omega, by go_num, by rw [HST.out, Ka.out], by rw [HST.out, Ka.out]; exact S5.out⟩
                    case measure => simp [intOf]; omega
                  · have k4 : decide (x <= rad) = false := by simpa using a4
                    rw [if_neg fun h => a4 (Jf.out.1 h).2.2.2] at HST
                    have SH := lh S; clear S
                    clear a3 a4 Jf HX RD
                    go_wp2
                    go_roundw
                    case rel => exact ⟨k + 1, q, c, by omega, by go_num, by rw [HST.out], by rw [HST.out]; exact SH.out⟩
                    case measure => simp [intOf]; omega
                · have k3 : decide (0 <= x) = false := by simpa using a3
                  rw [if_neg fun h => a3 (Jf.out.1 h).2.2.1] at HST
                  have SH := lh S; clear S
                  clear a3 Jf HX RD
                  go_wp2
                  go_roundw
                  case rel => exact ⟨k + 1, q, c, by omega, by go_num, by rw [HST.out], by rw [HST.out]; exact SH.out⟩
                  case measure => simp [intOf]; omega
              · have k2 : decide (v < d.length) = false := by simpa using a2
                rw [if_neg fun h => a2 (Jf.out.1 h).2.1] at HST
                have SH := lh S; clear S
                clear a2 Jf RD
                go_wp2
                go_roundw
                case rel => exact ⟨k + 1, q, c, by omega, by go_num, by rw [HST.out], by rw [HST.out]; exact SH.out⟩
                case measure => simp [intOf]; omega
            · have k1 : decide (0 <= v) = false := by simpa using a1
              rw [if_neg fun h => a1 (Jf.out.1 h).1] at HST
              have SH := lh S; clear S
              clear a1 Jf RD
              go_wp2
              go_roundw
              case rel => exact ⟨k + 1, q, c, by omega, by go_num, by rw [HST.out], by rw [HST.out]; exact SH.out⟩
              case measure => simp [intOf]; omega
          · have d2 : decide ((k:Int) < P.length) = false := by simp; omega
            have UB : decide (k < P.length) = false := by simp; omega
            have HT : Hid (P.take k = P) := by unfold Hid; rw [List.take_of_length_le (by omega)]
            rw [HT.out] at S hm1 ⊢
            have SH := lh S; clear S
            clear hlt
            go_wp2
            go_ret2
            exact ⟨q, c, rfl, SH.out.pick [0] (by decide) rfl⟩
  · rw [if_pos h1] at Ip
    have e1 : (lc != 0) = true := by simpa using h1
    rw [Ip, if_neg h1] at hrx
    subst Ip hrx
    clear h1
    go_enter func72, ntmps72
    go_wp2_with (first | (go_at_call 122; have _t := S1; go_must (refine (IX.out _ S1.out.ext).mono ?_; rintro e w2 ⟨q2, c2, rfl, Z⟩; have S2 := lh (S1.out.comp Z); clear Z)) | (go_at_call 121; go_must (refine (I1.out _ S0.out.ext).mono ?_; rintro e w1 ⟨q1, c1, rfl, Z⟩; have S1 := lh (S0.out.comp Z); clear Z)))
    go_ret2
    exact ⟨none, 0, rfl, ((Ic.start w).call S1.out.ext).nilrow _ _⟩
end
theorem qO {ck:Bool} {O T R V:List Int} {s:Int} {L:List Po} {ws:List ByteArray} {rad:Int} (hok:Io L):(eX ck O T R V s L ws rad).length<=1000:=by
 unfold eX
 split
 ·rw [jR]
  exact Nat.le_trans (nZ ..) (kB hok ws)
 ·simp
section
open Go Go.RowKit
theorem rP (a b c d:Int) (w:World):(binOp .eql 105 (.agg #[.int .i64 a,.int .i64 b]) (.agg #[.int .i64 c,.int .i64 d])).run prog w=.ok (.bool (th (a,b) (c,d))) w:=by
 have u3:=underlying3
 have a3:=isAgg3
 have z3:=sizeOf3
 have hS:prog.underlying 105=some (.struct (prog.fieldsOf 105)):=by kernel_rfl
 have hp:prog.stoodInHeld 105=false:=by kernel_rfl
 rw [run_eql_struct,show (10000:Nat)=9999+1 from rfl,run_equalIn_agg w 9999 105 _ _ hS hp]
 simp only [Program.fieldsOf,underlying105]
 go_simp
 by_cases h1:a=c <;> by_cases h2:b=d <;> simp [h1,h2,th]
theorem rV (a b c d:Int) (w:World):(binOp .neq 105 (.agg #[.int .i64 a,.int .i64 b]) (.agg #[.int .i64 c,.int .i64 d])).run prog w=.ok (.bool (!th (a,b) (c,d))) w:=by
 have h:=rP a b c d w
 rw [run_eql_struct] at h
 rw [run_neq_struct]
 generalize (Op.equalIn 10000 105 (.agg #[.int .i64 a,.int .i64 b]) (.agg #[.int .i64 c,.int .i64 d])).run prog w=r at h ⊢
 cases r with
 | ok x w1=>simp only [Result.andThen_ok,Result.ok.injEq,Value.bool.injEq] at h ⊢;rw [h.1,h.2];simp
 | halt x w1=>simp [Result.andThen] at h
theorem lU (op:BinOp) (x y:Operand) (xs ys:Array Value) (w:World):(eqGuard op 105 x y (.agg xs) (.agg ys)).run prog w=.ok () w:=run_eqGuard_agg w op 105 x y xs ys (by kernel_rfl)
attribute [local go_sem ↓] rP rV lU
theorem zT (p q:Option Addr) (n m c d:Nat) (E:List (Int × Int)) (w:World) (h1:Rd w 2 p n (aj E)) (h2:Rd w 2 q m (aj E)) :
  Calls prog 58 #[.slice p n c,.slice q m d] w fun e w'=>e=.returned (.bool true)/\Ext w w':=by
 obtain rfl:n=m:=by rw [h1.nE,h2.nE]
 have p1:=h1.ptr
 have p2:=h2.ptr
 have n1:=h1.small
 have H1:=lh h1;clear h1
 have H2:=lh h2;clear h2
 go_enter func58,ntmps58
 go_wp2
 go_loopw [5] (fun i wr=>∃ k:Nat,k<=n/\i=.int .i64 k/\Ext w wr) (fun i _=>n - (intOf i).toNat)
 case atStart=>exact⟨0,Nat.zero_le _,rfl,Below.refl _ _⟩
 case round =>
  obtain⟨k,hk,rfl,hE⟩:=hrel
  by_cases hlt:k<n
  ·have g1:=hE.cell (H1.out.cE hlt)
   have g2:=hE.cell (H1.out.cE2 hlt)
   have g3:=hE.cell (H2.out.cE hlt)
   have g4:=hE.cell (H2.out.cE2 hlt)
   have d1:(0:Int)<=k:=by omega
   have d2:(k:Int)<n:=by omega
   have hq:th ((ae E k).1,(ae E k).2) ((ae E k).1,(ae E k).2)=true:=by simp [th]
   have HE:=lh hE;clear hE
   go_wp2
   go_quiet (fail)
   go_wp2
   go_roundw
   case rel=>exact⟨k+1,by omega,by go_num,HE.out.drewN _⟩
   case measure=>simp [intOf];omega
  ·have HE:=lh hE;clear hE
   go_wp2
   go_ret
   exact⟨rfl,HE.out⟩
end
section
open Go Go.RowKit
attribute [local go_sem ↓] rP rV lU
def Cd:List (Int × Int):=[(0,1),(1,2)]
def Ce:List Int:=[0,1,2,2]
def Cg:List Int:=[1,2]
def Cf:List Int:=[0,0,1,2]
def Ch:List Int:=[0,1]
theorem H6:Fg 3 Cd [[],[],[]]=true:=by decide +kernel
theorem EC:tT 3 Cd=Ce:=by decide +kernel
theorem EE:Ci Cd=Cg:=by decide +kernel
theorem ED:tT 3 (gR Cd)=Cf:=by decide +kernel
theorem EF:Ci (gR Cd)=Ch:=by decide +kernel
theorem CV:(#[.int .i64 0,.int .i64 1,.int .i64 1,.int .i64 2]:Array Value).toList=aj Cd:=by simp [aj,Cd]
theorem EN:(madeCells (Value.slice none 0 0).cells (3*1)).toList=[.slice none 0 0,.slice none 0 0,.slice none 0 0]:=by kernel_rfl
theorem G9 (p q:Option Addr) (W:World) (h1:Rd W 2 p 2 (aj Cd)) (h0:Rd W 1 q 3 [.slice none 0 0,.slice none 0 0,.slice none 0 0]):Calls prog 57 #[.agg #[.int .i64 3,.slice p 2 2,.slice q 3 3]] W fun e w' =>
  ∃ po no co pt nt ct pr nr cr pv nv cv,e=.returned (.tuple #[.agg #[.slice po no co,.slice pt nt ct,.slice pr nr cr,.slice pv nv cv],.int .i64 0])/\R4 w' po no pt nt pr nr pv nv Ce Cg Cf Ch/\nt<=ct/\nv<=cv/\Ext W w':=by
 have h2:JY W q 3 [⟨none,0,0⟩,⟨none,0,0⟩,⟨none,0,0⟩] [[],[],[]]:=⟨rfl,h0,fun j hj=>by
  have:j=0\/j=1\/j=2:=by omega
  rcases this with rfl | rfl | rfl <;> exact Rd.nil _ _ _⟩
 have hz:CC [[],[],[]]:=fun l hl s hs=>by simp at hl;subst hl;cases hs
 refine(uM 3 _ 2 2 _ 3 3 Cd _ _ W h1 h2 hz H6).mono ?_
 rintro e w' ⟨v,rfl,⟨po,no,co,pt,nt,ct,pr,nr,cr,pv,nv,cv,rfl,k1,k2,k3,k4,k5,k6,k7,k8⟩,hb⟩
 rw [EC] at k1
 rw [EE] at k2
 rw [ED] at k3
 rw [EF] at k4
 exact⟨po,no,co,pt,nt,ct,pr,nr,cr,pv,nv,cv,rfl,⟨k1,k2,k3,k4⟩,k6,k8,hb⟩
theorem Dk {w:World} {p q:Option Addr} {n c:Nat} {s:ByteArray} {l:List Int} (h1:Rd w 2 p 1 [.string s,.slice q n c]) (h2:Rd w 1 q n (ab l)):IW w p 1 [⟨q,n,c⟩] [(s,l)]:=by
 refine⟨rfl,.inr (h1.ptr.resolve_left (by decide)),by decide,fun k hk=>?_,fun k hk=>?_,fun k hk=>?_⟩
 ·obtain rfl:k=0:=by omega
  exact h1.cells 0 (by decide)
 ·obtain rfl:k=0:=by omega
  exact h1.cells 1 (by decide)
 ·obtain rfl:k=0:=by omega
  exact h2
end
theorem wG:Io [((⟨#[97]⟩:ByteArray),[2])]:=fun p hp=>by
 simp at hp;subst hp
 exact⟨by decide,fun x hx=>by simp at hx;subst hx;unfold Ii;decide⟩
theorem G5 (po:Option Addr) (no co:Nat) (pt:Option Addr) (nt ct:Nat) (pr:Option Addr) (nr cr:Nat) (pv:Option Addr) (nv cv:Nat) (hct:nt<=ct) (hcv:nv<=cv) (pp:Option Addr) (hs:List Hd) (w:World) (h:R4 w po no pt nt pr nr pv nv Ce Cg Cf Ch) (hL:IW w pp 1 hs [(⟨#[97]⟩,[2])]):Calls prog 17 #[.agg #[.int .i64 1,.int .i64 0,.int .i64 2,.slice none 0 0,.int .i64 0,.int .i64 0],.agg #[.slice po no co,.slice pt nt ct,.slice pr nr cr,.slice pv nv cv],.slice pp 1 1,.int .i64 2,.int .i64 5,.slice none 0 0] w fun x w'=>∃ q c,x=.returned (.tuple #[.agg #[.bool true,.int .i64 2,.slice q 0 c],.int .i64 2,.int .i64 0])/\Ic w w' [.own 105 2 q 0 c (aj [])]:=by
 have hno:=h.o.nI
 refine(Cz 1 0 2 none 0 0 [] 0 0 po no co Ce pt nt ct Cg pr nr cr Cf pv nv cv Ch pp 1 1 hs _ 2 5 none 0 0 [] w h.o h.t h.r h.v hct hcv hL (Rd.nil _ _ _) (Rd.nil _ _ _) (by rw [hno];decide) (fun s hs=>by cases hs) (by decide) (by unfold Ii;decide) (by decide) (by decide) wG).mono ?_
 rintro x w' ⟨b,d,F,n,e,h1,q,c,rfl,S⟩
 obtain⟨rfl,rfl,rfl,rfl,rfl⟩:=CO h1
 exact⟨q,c,rfl,S⟩
theorem G6 (po:Option Addr) (no co:Nat) (pt:Option Addr) (nt ct:Nat) (pr:Option Addr) (nr cr:Nat) (pv:Option Addr) (nv cv:Nat) (hct:nt<=ct) (hcv:nv<=cv) (pp:Option Addr) (hs:List Hd) (w:World) (h:R4 w po no pt nt pr nr pv nv Ce Cg Cf Ch) (hL:IW w pp 1 hs [(⟨#[97]⟩,[2])]):Calls prog 17 #[.agg #[.int .i64 1,.int .i64 2,.int .i64 0,.slice none 0 0,.int .i64 0,.int .i64 0],.agg #[.slice po no co,.slice pt nt ct,.slice pr nr cr,.slice pv nv cv],.slice pp 1 1,.int .i64 2,.int .i64 5,.slice none 0 0] w fun x w'=>∃ d q m c,x=.returned (.tuple #[.agg #[.bool false,.int .i64 d,.slice q m c],.int .i64 1,.int .i64 0])/\Ext w w':=by
 have hno:=h.o.nI
 refine(Cz 1 2 0 none 0 0 [] 0 0 po no co Ce pt nt ct Cg pr nr cr Cf pv nv cv Ch pp 1 1 hs _ 2 5 none 0 0 [] w h.o h.t h.r h.v hct hcv hL (Rd.nil _ _ _) (Rd.nil _ _ _) (by rw [hno];decide) (fun s hs=>by cases hs) (by decide) (by unfold Ii;decide) (by decide) (by decide) wG).mono ?_
 rintro x w' ⟨b,d,F,n,e,h1,q,c,rfl,S⟩
 obtain⟨rfl,rfl,rfl⟩:=CP h1
 exact⟨d,q,_,c,rfl,S.ext⟩
theorem G7 (po:Option Addr) (no co:Nat) (pt:Option Addr) (nt ct:Nat) (pr:Option Addr) (nr cr:Nat) (pv:Option Addr) (nv cv:Nat) (hct:nt<=ct) (hcv:nv<=cv) (pp:Option Addr) (hs:List Hd) (w:World) (h:R4 w po no pt nt pr nr pv nv Ce Cg Cf Ch) (hL:IW w pp 1 hs [(⟨#[97]⟩,[2])]) (pw:Option Addr) (hW:Rd w 1 pw 1 (bg [⟨#[97]⟩])):Calls prog 17 #[.agg #[.int .i64 3,.int .i64 0,.int .i64 0,.slice pw 1 1,.int .i64 2,.int .i64 5],.agg #[.slice po no co,.slice pt nt ct,.slice pr nr cr,.slice pv nv cv],.slice pp 1 1,.int .i64 2,.int .i64 5,.slice none 0 0] w fun x w'=>∃ d q c,x=.returned (.tuple #[.agg #[.bool true,.int .i64 d,.slice q 1 c],.int .i64 3,.int .i64 0])/\Ic w w' [.own 105 2 q 1 c (aj [(2,2)])]:=by
 have hno:=h.o.nI
 refine(Cz 3 0 0 pw 1 1 [⟨#[97]⟩] 2 5 po no co Ce pt nt ct Cg pr nr cr Cf pv nv cv Ch pp 1 1 hs _ 2 5 none 0 0 [] w h.o h.t h.r h.v hct hcv hL hW (Rd.nil _ _ _) (by rw [hno];decide) (fun s hs=>by simp at hs;subst hs;decide) (by decide) (by unfold Ii;decide) (by decide) (by decide) wG).mono ?_
 rintro x w' ⟨b,d,F,n,e,h1,q,c,rfl,S⟩
 obtain⟨rfl,rfl,rfl,rfl⟩:=CQ h1
 exact⟨d,q,c,rfl,S⟩
theorem G8 (po:Option Addr) (no co:Nat) (pt:Option Addr) (nt ct:Nat) (pr:Option Addr) (nr cr:Nat) (pv:Option Addr) (nv cv:Nat) (hct:nt<=ct) (hcv:nv<=cv) (pp:Option Addr) (hs:List Hd) (w:World) (h:R4 w po no pt nt pr nr pv nv Ce Cg Cf Ch) (hL:IW w pp 1 hs [(⟨#[97]⟩,[2])]):Calls prog 17 #[.agg #[.int .i64 2,.int .i64 0,.int .i64 2,.slice none 0 0,.int .i64 0,.int .i64 0],.agg #[.slice po no co,.slice pt nt ct,.slice pr nr cr,.slice pv nv cv],.slice pp 1 1,.int .i64 2,.int .i64 2,.slice none 0 0] w fun x w'=>∃ b d q m c n,x=.returned (.tuple #[.agg #[.bool b,.int .i64 d,.slice q m c],.int .i64 n,.int .i64 251])/\Ext w w':=by
 have hno:=h.o.nI
 refine(Cz 2 0 2 none 0 0 [] 0 0 po no co Ce pt nt ct Cg pr nr cr Cf pv nv cv Ch pp 1 1 hs _ 2 2 none 0 0 [] w h.o h.t h.r h.v hct hcv hL (Rd.nil _ _ _) (Rd.nil _ _ _) (by rw [hno];decide) (fun s hs=>by cases hs) (by decide) (by unfold Ii;decide) (by decide) (by decide) wG).mono ?_
 rintro x w' ⟨b,d,F,n,e,h1,q,c,rfl,S⟩
 obtain rfl:=CR h1
 exact⟨b,d,q,_,c,n,rfl,S.ext⟩
section
open Go Go.RowKit
attribute [local go_sem ↓] rP rV lU
theorem Ei (w:World):Calls prog 19 #[] w fun e w'=>e=.returned (.bool true)/\Ext w w':=by
 obtain⟨i0,hi0,hz0,hz1,hz2⟩:=info_parts DK
 have SE:Hid (Ic w (w.alloc (.cells #[.int .i64 0,.int .i64 1,.int .i64 1,.int .i64 2] 98)) [.own 98 2 (some ⟨w.heap.size,0,none⟩) 2 2 (aj Cd)]):=by
  have h:=(Ic.start w).alrow #[.int .i64 0,.int .i64 1,.int .i64 1,.int .i64 2] 98 2 2 w.heap.size rfl (by decide) rfl
  rw [CV] at h
  exact h
 have HQ:Hid ((w.alloc (.cells #[.int .i64 0,.int .i64 1,.int .i64 1,.int .i64 2] 98)).heap.size=w.heap.size+1):=by unfold Hid;simp
 go_enter func19,ntmps19
 go_wp2_with (first
  | (at_make;go_must (refine aX rfl _ _ _ rfl 22 i0 _ 1 underlying100 hi0 hz0 hz1 (3:Int) 3 rfl rfl rfl (by rw [hz2];omega) (by unfold maxLen;omega) SE.out ?_;intro w0 S';rw [EN,HQ.out] at S';have S0:=lh S';clear S'))
  | (go_at_call 57;go_must (refine(G9 _ _ _ (S0.out.rd 1 rfl (by decide)) (S0.out.rd 0 rfl (by decide))).mono ?_;rintro e w1 ⟨po,no,co,pt,nt,ct,pr,nr,cr,pv,nv,cv,rfl,hr,hct,hcv,hb⟩;have E1:=lh (Ext.trans S0.out.ext hb);have HR:=lh hr;have S1:=lh ((Ic.start w1).al #[.slice po no co,.slice pt nt ct,.slice pr nr cr,.slice pv nv cv] 27 w1.heap.size rfl);clear hb hr)))
 have S2:=lh ((S1.out.alrow #[.int .i64 2] 3 1 1 (w1.heap.size+1) (by simp) (by decide) rfl).alrow #[.string ⟨#[97]⟩,.slice (some ⟨w1.heap.size+1,0,none⟩) 1 1] 78 2 1 (w1.heap.size+1+1) (by simp) (by decide) rfl)
 have hEq:th ((2:Int),(2:Int)) (2,2)=true:=by decide
 go_wp2_with (first
  | (go_at_call 58;go_must (have S8:=lh (S7.out.alrow #[.int .i64 2,.int .i64 2] 105 2 1 (w5.heap.size+1) (by simp) (by decide) rfl);refine(zT _ _ 1 1 _ _ [(2,2)] _ (S8.out.rdx 3 rfl) (S8.out.rdx 0 rfl)).mono ?_;rintro e w6 ⟨rfl,hb⟩;have S9:=lh (S8.out.call hb);clear hb))
  | (go_at_call 17;have _t:=S6;go_must (refine(G8 po no co pt nt ct pr nr cr pv nv cv hct hcv _ _ _ (HR.out.ext S6.out.ext) (Dk (S6.out.rdx 6 rfl) (S6.out.rdx 7 rfl))).mono ?_;rintro e w5 ⟨b5,d5,q5,m5,c5,n5,rfl,hb⟩;have S7:=lh ((S6.out.call hb).al #[.bool b5,.int .i64 d5,.slice q5 m5 c5] 34 w5.heap.size rfl);obtain⟨iz,i0,i1,i2⟩:=eh (S7.out.blk 5 rfl);obtain⟨jz,j0,j1,j2⟩:=eh (S7.out.blk 4 rfl);obtain⟨lz,l0,l1,l2⟩:=eh (S7.out.blk 1 rfl);clear hb))
  | (go_at_call 17;have _t:=S5;go_must (refine(G7 po no co pt nt ct pr nr cr pv nv cv hct hcv _ _ _ (HR.out.ext S5.out.ext) (Dk (S5.out.rdx 4 rfl) (S5.out.rdx 5 rfl)) _ (S5.out.rdx 0 rfl)).mono ?_;rintro e w4 ⟨d4,q4,c4,rfl,Z⟩;have S6:=lh ((S5.out.comp Z).al #[.bool true,.int .i64 d4,.slice q4 1 c4] 34 w4.heap.size rfl);obtain⟨cz,c0,c1,c2,c3⟩:=aC (S6.out.blk 8 rfl);clear Z))
  | (go_at_call 17;have _t:=S3;go_must (refine(G6 po no co pt nt ct pr nr cr pv nv cv hct hcv _ _ _ (HR.out.ext S3.out.ext) (Dk (S3.out.rdx 2 rfl) (S3.out.rdx 3 rfl))).mono ?_;rintro e w3 ⟨d3,q3,m3,c3,rfl,hb⟩;have S4:=lh ((S3.out.call hb).al #[.bool false,.int .i64 d3,.slice q3 m3 c3] 34 w3.heap.size rfl);have S5:=lh (S4.out.alrow #[.string ⟨#[97]⟩] 9 1 1 (w3.heap.size+1) (by simp) (by decide) rfl);obtain⟨bz,b0,b1,b2,b3⟩:=aC (S5.out.blk 6 rfl);clear hb))
  | (go_at_call 17;go_must (refine(G5 po no co pt nt ct pr nr cr pv nv cv hct hcv _ _ _ (HR.out.ext S2.out.ext) (Dk (S2.out.rdx 0 rfl) (S2.out.rdx 1 rfl))).mono ?_;rintro e w2 ⟨q2,c2,rfl,Z⟩;have S3:=lh ((S2.out.comp Z).al #[.bool true,.int .i64 2,.slice q2 0 c2] 34 w2.heap.size rfl);obtain⟨az,a0,a1,a2,a3⟩:=aC (S3.out.blk 4 rfl);clear Z)))
 go_ret
 exact⟨rfl,Ext.trans E1.out S9.out.ext⟩
end
theorem FA (p:Option Addr) (n c:Nat) (l:List (Int × Int)) (x:Int × Int) (w:World) (hl:Rd w 2 p n (aj l)) (hc:n<=c) (hn:n<=100000) :
  Calls prog 124 #[.slice p n c,.agg #[.int .i64 x.1,.int .i64 x.2]] w fun e w'=>∃ q c',e=.returned (.slice q (df x l).length c')/\Ic w w' [.own 105 2 q (df x l).length c' (aj (df x l))]:=by
 obtain⟨i0,hi0,hz0,hz1,hz2⟩:=info_parts A8
 have S0:=lh ((Ic.start w).al #[.int .i64 x.1,.int .i64 x.2] 105 w.heap.size rfl)
 have hln:=hl.nE
 have LL:=lh hln
 have p1:=hl.ptr
 have HL:=lh hl
 have HA:=fun (b:Int × Int) W=>wn x b W
 obtain⟨x1,x2⟩:=x
 simp only at S0 HA ⊢
 clear hl hln
 go_enter func124,ntmps124
 go_wp2
 go_loopw [5] (fun i wr=>∃ k:Nat,k<=n/\i=.int .i64 k/\Hid (∀ i,i<k->cM (x1,x2) (ae l i)=false)/\Ic w wr [.blk w.heap.size 105 #[.int .i64 x1,.int .i64 x2]]) (fun i _=>n - (intOf i).toNat)
 case atStart=>exact⟨0,Nat.zero_le _,rfl,fun i hi=>by omega,S0.out⟩
 case round =>
  clear S0
  obtain⟨k,hk,rfl,HK,S⟩:=hrel
  obtain⟨b0,b1,bz⟩:=aH (S.blk 0 rfl)
  by_cases hlt:k<n
  ·have I7:k<l.length:=by rw [<- LL.out];exact hlt
   have g1:=S.ext.cell (HL.out.cE hlt)
   have g2:=S.ext.cell (HL.out.cE2 hlt)
   have d1:(0:Int)<=k:=by omega
   have d2:(k:Int)<n:=by omega
   have HAT:Hid (cM (x1,x2) (ae l k)=true->k=lG (x1,x2) l):=fun h=>rE (by omega) HK.out fun _=>h
   have NQ:Hid (cM (x1,x2) (ae l k)=false->∀ i,i<k+1->cM (x1,x2) (ae l i)=false):=fun h i hi=>by
    by_cases e:i=k
    ·subst e;exact h
    ·exact HK.out i (by omega)
   have JK:=lh (fun y:Ie wr=>HA (ae l k) y.val)
   generalize ae l k=y at *
   cases hy:cM (x1,x2) y with
   | false =>
    rw [hy] at JK
    have Kj:=lh (NQ.out hy)
    clear hy HAT NQ HK
    have SH:=lh S;clear S
    go_wp2
    have u0:=fun x:Ie wr=>x.ext.cell b0
    have u1:=fun x:Ie wr=>x.ext.cell b1
    have u2:=fun x:Ie wr=>x.ext.cell g1
    have u3:=fun x:Ie wr=>x.ext.cell g2
    refine av (by kernel_rfl) (by kernel_rfl) ?_
    repeat (go_big_quiet_step (((go_at_call 196;exact Calls.ext_of (JK.out _)))))
    refine wpQuiet_nil ?_
    rintro w9 ⟨⟨_,IR⟩,rfl⟩
    go_wp2
    go_roundw
    case rel=>exact⟨k+1,by omega,by go_num,Kj.out,SH.out.call IR⟩
    case measure=>simp [intOf];omega
   | true =>
    rw [hy] at JK
    have HE:=lh (HAT.out hy)
    clear hy HAT NQ HK
    have SH:=lh S;clear S
    go_wp2
    have u0:=fun x:Ie wr=>x.ext.cell b0
    have u1:=fun x:Ie wr=>x.ext.cell b1
    have u2:=fun x:Ie wr=>x.ext.cell g1
    have u3:=fun x:Ie wr=>x.ext.cell g2
    refine av (by kernel_rfl) (by kernel_rfl) ?_
    repeat (go_big_quiet_step (((go_at_call 196;exact Calls.ext_of (JK.out _)))))
    refine wpQuiet_nil ?_
    rintro w9 ⟨⟨_,IR⟩,rfl⟩
    have S9:=lh (SH.out.call IR)
    have HF:Hid (df (x1,x2) l=l.take k ++ ([(x1,x2)] ++ l.drop k)):=by unfold Hid df;rw [<- HE.out]
    have hkn:(k:Int)<=n:=by omega
    clear IR g1 g2 JK u0 u1 u2 u3 b0 b1 bz SH
    obtain⟨b0,b1,bz⟩:=aH (S9.out.blk 0 rfl)
    go_wp2_with (first | (at_builtin;have _t:=T2;go_must (refine am rfl _ _ _ rfl 105 i0 _ 2 16 underlying32 hi0 hz0 hz1 hz2 rfl (by omega) T2.out 0 q7 (k+1) c7 _ rfl rfl _ _ _ (aj (l.drop k)) rfl (by have hz:=nd (d:=k) (HL.out.ext T2.out.ext) (by omega) hc;simpa [bv,Addr.add] using hz) (bu _) (by omega) (by omega) ?_;intro q8 c8 w8 S' hsz;have T3:=lh S';clear S' hsz)) | (at_builtin;have _t:=T1;go_must (refine am rfl _ _ _ rfl 105 i0 _ 2 16 underlying32 hi0 hz0 hz1 hz2 rfl (by omega) (T1.out.junk _) 0 q6 k c6 _ rfl rfl _ 1 1 _ rfl (Rd.one2 _ _ _ _) (bu _) (by omega) (by omega) ?_;intro q7 c7 w7 S' hsz;have T2:=lh S';clear S' hsz)) | (at_builtin;have _t:=S9;go_must (refine am rfl _ _ _ rfl 105 i0 _ 2 16 underlying32 hi0 hz0 hz1 hz2 rfl (by omega) (S9.out.nilrow 105 2) 0 none 0 0 [] rfl rfl p k c _ rfl (lg (HL.out.ext S9.out.ext) (by omega)) (bu _) (by omega) (by omega) ?_;intro q6 c6 w6 S' hsz;(try simp only [Nat.zero_add,List.nil_append] at S');have T1:=lh S';obtain⟨e0,e1,ez⟩:=aH (S'.blk 1 rfl);clear S' hsz)))
    go_ret
    have hL2:k+1+(n - k)=(df (x1,x2) l).length:=by(rw [fX,<- LL.out];omega)
    have T:Ic w w8 [.own 105 2 q8 (k+1+(n - k)) c8 (aj (l.take k) ++ aj [(x1,x2)] ++ aj (l.drop k))]:=T3.out.pick [0] (by decide) rfl
    rw [List.append_assoc,<- aF,<- aF,hL2,<- HF.out] at T
    exact⟨q8,c8,eO hL2,T⟩
  ·have hkn':k=n:=by omega
   have HE:Hid (k=lG (x1,x2) l):=rE (by have:=LL.out;omega) HK.out fun h=>absurd h (by have:=LL.out;omega)
   have HF:Hid (df (x1,x2) l=l.take k ++ ([(x1,x2)] ++ l.drop k)):=by unfold Hid df;rw [<- HE.out]
   have d2:decide ((k:Int)<n)=false:=by simp;omega
   have UB:decide (k<n)=false:=by simp;omega
   have d1:(0:Int)<=k:=by omega
   have hkn:(k:Int)<=n:=by omega
   clear hkn' hlt HK
   have JK:=lh (fun y:Ie wr=>HA (0,0) y.val)
   have SH:=lh S;clear S
   go_wp2
   have u0:=fun x:Ie wr=>x.ext.cell b0
   have u1:=fun x:Ie wr=>x.ext.cell b1
   refine av (by kernel_rfl) (by kernel_rfl) ?_
   repeat (go_big_quiet_step (((go_at_call 196;exact Calls.ext_of (JK.out _)))))
   refine wpQuiet_nil ?_
   rintro w9 ⟨⟨_,IR⟩,rfl⟩
   have S9:=lh (SH.out.call IR)
   clear IR JK u0 u1 b0 b1 bz SH
   obtain⟨b0,b1,bz⟩:=aH (S9.out.blk 0 rfl)
   go_wp2_with (first | (at_builtin;have _t:=T2;go_must (refine am rfl _ _ _ rfl 105 i0 _ 2 16 underlying32 hi0 hz0 hz1 hz2 rfl (by omega) T2.out 0 q7 (k+1) c7 _ rfl rfl _ _ _ (aj (l.drop k)) rfl (by have hz:=nd (d:=k) (HL.out.ext T2.out.ext) (by omega) hc;simpa [bv,Addr.add] using hz) (bu _) (by omega) (by omega) ?_;intro q8 c8 w8 S' hsz;have T3:=lh S';clear S' hsz)) | (at_builtin;have _t:=T1;go_must (refine am rfl _ _ _ rfl 105 i0 _ 2 16 underlying32 hi0 hz0 hz1 hz2 rfl (by omega) (T1.out.junk _) 0 q6 k c6 _ rfl rfl _ 1 1 _ rfl (Rd.one2 _ _ _ _) (bu _) (by omega) (by omega) ?_;intro q7 c7 w7 S' hsz;have T2:=lh S';clear S' hsz)) | (at_builtin;have _t:=S9;go_must (refine am rfl _ _ _ rfl 105 i0 _ 2 16 underlying32 hi0 hz0 hz1 hz2 rfl (by omega) (S9.out.nilrow 105 2) 0 none 0 0 [] rfl rfl p k c _ rfl (lg (HL.out.ext S9.out.ext) (by omega)) (bu _) (by omega) (by omega) ?_;intro q6 c6 w6 S' hsz;(try simp only [Nat.zero_add,List.nil_append] at S');have T1:=lh S';obtain⟨e0,e1,ez⟩:=aH (S'.blk 1 rfl);clear S' hsz)))
   go_ret
   have hL2:k+1+(n - k)=(df (x1,x2) l).length:=by(rw [fX,<- LL.out];omega)
   have T:Ic w w8 [.own 105 2 q8 (k+1+(n - k)) c8 (aj (l.take k) ++ aj [(x1,x2)] ++ aj (l.drop k))]:=T3.out.pick [0] (by decide) rfl
   rw [List.append_assoc,<- aF,<- aF,hL2,<- HF.out] at T
   exact⟨q8,c8,eO hL2,T⟩
theorem zR (p:Option Addr) (n c:Nat) (l:List (Int × Int)) (k:Int) (w:World) (hl:Rd w 2 p n (aj l)) (hn:n<=10000) :
  Calls prog 73 #[.slice p n c,.int .i64 k] w fun e w'=>∃ q c',e=.returned (.slice q (bV l k).length c')/\Ic w w' [.own 105 2 q (bV l k).length c' (aj (bV l k))]:=by
 have p1:=hl.ptr
 have n1:=hl.small
 have L1:=lh hl.nE
 have HL:=lh hl
 have S0:=lh ((Ic.start w).nilrow 105 2)
 obtain⟨F,hF⟩:∃ F,bV l k=F:=⟨_,rfl⟩
 rw [hF]
 have HF:=lh hF
 clear hl hF
 go_enter func73,ntmps73
 go_wp2
 go_loopw [5,6] (fun v i wr=>∃ (j:Nat) (q:Option Addr) (d:Nat),j<=n/\i=.int .i64 j/\v=.slice q j d/\Ic w wr [.own 105 2 q j d (aj (bl (l.take j)))]) (fun _ i _=>n - (intOf i).toNat)
 case atStart=>exact⟨0,none,0,Nat.zero_le _,rfl,rfl,S0.out⟩
 case round =>
  clear S0
  obtain⟨j,q,d,hj,rfl,rfl,S⟩:=hrel
  by_cases hlt:j<n
  ·have g1:=S.ext.cell (HL.out.cE hlt)
   have g2:=S.ext.cell (HL.out.cE2 hlt)
   have HT:=lh (ak l j (by rw [<- L1.out];exact hlt))
   have d1:(0:Int)<=j:=by omega
   have d2:(j:Int)<n:=by omega
   have hcap:=cu (S.own 0 rfl)
   generalize ae l j=y at *
   have HS:=lh (dY (l.take j) y)
   rw [<- HT.out] at HS
   have KC:Hid ((df y (bl (l.take j))).length=j+1):=by unfold Hid;rw [fX,<- (S.rdx 0 rfl).nE]
   have JX:=lh (FA q j d (bl (l.take j)) y wr (S.rdx 0 rfl) hcap (by omega))
   rw [KC.out,<- HS.out] at JX
   have SH:=lh S;clear S
   go_wp2_with (go_at_call 124;go_must (refine JX.out.mono ?_;rintro e w3 ⟨q',d',rfl,Z⟩;have S3:=lh (SH.out.comp Z);clear Z))
   go_roundw
   case rel=>exact⟨j+1,q',d',by omega,by go_num,rfl,S3.out.pick [0] (by decide) rfl⟩
   case measure=>simp [intOf];omega
  ·obtain rfl:j=n:=by omega
   rw [List.take_of_length_le (by rw [<- L1.out];exact Nat.le_refl _)] at S
   have hcap:=cu (S.own 0 rfl)
   have NE:(bl l).length=j:=by rw [jR,<- L1.out]
   have S2:=lh S
   clear S
   by_cases h1:k<1
   ·have HN:Hid (F=[]):=by unfold Hid;rw [<- HF.out];unfold bV;rw [if_pos h1]
    have T:Ic w wr [.own 105 2 none F.length 0 (aj F)]:=by
     rw [HN.out]
     exact(S2.out.nilrow 105 2).pick [0] (by decide) rfl
    have HT:=lh T
    clear T NE
    go_wp2
    go_ret
    exact⟨none,0,eO (by rw [HN.out];rfl),HT.out⟩
   ·obtain⟨mo,rfl⟩:∃ mo:Nat,k=mo:=⟨k.toNat,by omega⟩
    have VC:Hid (F=(bl l).take mo):=by unfold Hid;rw [<- HF.out];unfold bV;rw [if_neg h1,Int.toNat_natCast]
    obtain⟨m,hm⟩:∃ m:Nat,m=min mo j:=⟨_,rfl⟩
    have NK:min (mo:Int) (j:Int)=(m:Int):=by omega
    have VN:Hid (m=F.length):=by unfold Hid;rw [VC.out,List.length_take,NE];exact hm
    have e1:decide ((mo:Int)<1)=false:=by simpa using h1
    have m0:(0:Int)<=(m:Int):=by omega
    have m1:(m:Int)<=d:=by omega
    have m2:m<=d:=by omega
    have hj2:([.own 105 2 q j d (aj (bl l))]:List Pc)[0]?=some (.own 105 2 q j d (aj ((bl l).take mo) ++ aj ((bl l).drop mo))):=by rw [<- aF,List.take_append_drop];rfl
    have T:=Ic.cut S2.out 0 m hj2 (by rw [bS,List.length_take,NE,hm]) (by omega)
    rw [<- VC.out] at T
    have T2:Ic w wr [.own 105 2 q m d (aj F)]:=T
    rw [VN.out] at T2
    have HT:=lh T2
    have hcp:bv q d 0 2=q:=by
     rcases Nat.eq_zero_or_pos j with h0 | h0
     ·rcases (S2.out.own 0 rfl).2 with ⟨h2,_⟩ | ⟨g,cap,cur,h2,_⟩
      ·injection h2 with h2
       rw [h2];unfold bv;split <;> rfl
      ·injection h2 with h2
       rw [h2];unfold bv;split
       ·rfl
       ·simp [Addr.add]
     ·obtain⟨g,h2,_⟩:=cR (S2.out.own 0 rfl) (by omega)
      rw [h2];unfold bv;split
      ·rfl
      ·simp [Addr.add]
    clear T T2 NE hj2 hm h1 hcap hj hlt
    go_wp2
    go_ret
    exact⟨q,d,eO VN.out,HT.out⟩
theorem Ag (b:Bool) (d:Int) (p q:Option Addr) (n m c e':Nat) (F:List (Int × Int)) (w:World) (h1:Rd w 2 p n (aj F)) (h2:Rd w 2 q m (aj F)) :
  Calls prog 20 #[.agg #[.bool b,.int .i64 d,.slice p n c],.agg #[.bool b,.int .i64 d,.slice q m e']] w fun e w'=>e=.returned (.bool true)/\Ext w w':=by
 have S0:=lh (((Ic.start w).al #[.bool b,.int .i64 d,.slice p n c] 34 w.heap.size rfl).al #[.bool b,.int .i64 d,.slice q m e'] 34 (w.heap.size+1) (by simp))
 have HS:=lh (zT p q n m c e' F _ (h1.ext S0.out.ext) (h2.ext S0.out.ext))
 clear h1 h2
 cases b <;> (go_enter func20,ntmps20;go_wp2_with (go_at_call 58;go_must (refine HS.out.mono ?_;rintro e w1 ⟨rfl,hb⟩;have S1:=lh (S0.out.call hb);clear hb));go_ret;exact⟨rfl,S1.out.ext⟩)
theorem Bb (k f t:Int) (pw:Option Addr) (nw cw:Nat) (ws:List ByteArray) (rad most:Int) {O T R V:List Int} {L:List Po} {np:Nat} (_:pw=pw) (_:nw=nw) (_:cw=cw) (_:k=k) (_:f=f) (_:t=t) (_:rad=rad) (_:most=most) (h:yn ws O T R V L np=false) (Q5:∀ q∈L,∀ x∈q.2,Ii x) :
  ws.length<=20/\(∀ s∈ws,s.size<=1000000)/\O.length<=30/\Io L/\np<=60:=by
 obtain⟨h1,h2,h3,h4,h5⟩:=CY h
 obtain⟨w1,w2⟩:=CK h1
 exact⟨w1,fun s hs=>Nat.le_trans (w2 s hs) (by omega),h3,Dj h4 Q5,h5⟩
section
open Go Go.RowKit Go.Maps Go.WideElems
def Gx (x:Ky):Value:=if x.r=0/\x.v=0 then .int .i64 x.s else .agg #[.int .i64 x.s,.int .i64 x.r,.int .i64 x.v]
def H7 (x:Ky):Prop:=x.r=0/\x.v=0/\Ii x.s
theorem EL {x y:Ky} (h:Gx x=Gx y):x=y:=by
 obtain⟨a,b,c⟩:=x
 obtain⟨a',b',c'⟩:=y
 unfold Gx at h
 simp only at h
 split at h
 ·rename_i h1
  split at h
  ·rename_i h2
   injection h with _ h
   obtain⟨rfl,rfl⟩:=h1
   obtain⟨rfl,rfl⟩:=h2
   rw [h]
  ·cases h
 ·split at h
  ·cases h
  ·injection h with h
   simp at h
   obtain⟨rfl,rfl,rfl⟩:=h
   rfl
def fv (P:Program) (k:TypeId) (hk:P.underlying k=some (.int .i64)):I4 P k where
 val:=Gx
 lit x:=.int .i64 x.s
 ok:=H7
 law:=int_keyed hk
 of:=by
  rintro x ⟨h1,h2,h3⟩
  unfold Gx
  rw [if_pos ⟨h1,h2⟩]
  exact oa hk h3
 inv:=by
  intro v l h
  obtain⟨z,h1,h3,h4⟩:=keyOf_int_inv hk h
  exact⟨⟨z,0,0⟩,by rw [h1];rfl,h3,rfl,rfl,h4⟩
 injL:=by
  rintro⟨a,b,c⟩ ⟨a',b',c'⟩ ⟨h1,h2,_⟩ ⟨h3,h4,_⟩ h
  simp only at h1 h2 h3 h4
  injection h with _ h
  simp only at h
  subst h1 h2 h3 h4 h
  rfl
 injV:=EL
def GM:Option Nat->Value
 | some n=>.func (.func n) #[] #[]
 | none=>.nilFunc
def Gr:Option Nat->DataW Unit
 | some n=>.lit (.int .i64 n)
 | none=>.lit (.bool false)
def BI:Value->Option (DataW Unit × List MemPlace)
 | .func (.func n) ⟨[]⟩ ⟨[]⟩=>some (.lit (.int .i64 n),[])
 | .nilFunc=>some (.lit (.bool false),[])
 | _=>none
theorem zc (u:Value) (y:DataW Unit × List MemPlace) (h:BI u=some y):∃ v:Option Nat,u=GM v:=by
 unfold BI at h
 split at h
 ·exact⟨some _,rfl⟩
 ·exact⟨none,rfl⟩
 ·cases h
def Ha (P:Program) (e:TypeId) (hz:∀ w,(zeroValue e).run P w=.ok .nilFunc w):IG P e (Option Nat) :=
 ⟨BI,GM,Gr,none,fun v=>by cases v <;> rfl,zc,fun v v' h=>by
  cases v <;> cases v' <;> simp [Gr] at h ⊢
  omega,hz⟩
theorem ax {P:Program} {k e:TypeId} {β:Type} {K:I4 P k} {E:IG P e β} {b n:Nat} {f:Ky->Option β} {w0 w:World} {Γ:List Pc} {ops:Array Oper} {rest:List Oper} {o:Oper} {a:Act} {Q:Exit->Act->World->Prop}
  (hg:o.guard=none) (m x v:Operand) (t:TypeId) (hop:o.op=Op.insert t m x v) (ht:P.underlying t=some (.map k e))
  (hm:a.eval m=.map (some b)) (S:Ic w0 w Γ) (j:Nat) (hj:Γ[j]?=some (.mapK K E b n f)) (hn:n<140737488355328) (kx:Ky) (u:β) (hx:a.eval x=K.val kx) (hv:a.eval v=E.val u) (hi:K.ok kx)
  (hK:∀ w',Ic w0 w' (Γ.set j (.mapK K E b (n+1) (Cj f kx u)))->w.grownBy w' (some b)->wpList P ops Q rest (a.put o.dst undef) w') :
  wpList P ops Q (o :: rest) a w:=by
 refine wpList_plain hg fun K' hK'=>?_
 obtain⟨w',hrun,r1,r2⟩:=Ir.update (S.all _ (List.mem_of_getElem? hj)) ht hn hi u
 unfold Oper.wp
 simp [execOp,hop,hm,hx,hv,hrun,Result.andThen]
 exact hK' _ _ (hK w' (S.put j hj _ r2 (fun i hi=>by injection hi with hi;exact hi.symm) r1 (fun i hi=>.inl hi)) r2)
end
section
open Go Go.RowKit
theorem Fd (w:World):(zeroValue 171).run prog w=.ok .nilFunc w:=by simp [go_sem]
noncomputable def fq:IG prog 171 (Option Nat):=Ha prog 171 Fd
def dO (b:Bool) (d:Int) (F:List (Int × Int)) (e:Int) (w:World) (x:Ending) (w':World):Prop:=∃ q c',x=.returned (.tuple #[.agg #[.bool b,.int .i64 d,.slice q F.length c'],.int .i64 e])/\Ic w w' [.own 105 2 q F.length c' (aj F)]
theorem bZ {b:Bool} {d e:Int} {w w':World} {x:Ending} (h:x=.returned (.tuple #[.agg #[.bool b,.int .i64 d,.slice none 0 0],.int .i64 e])) (hE:Ext w w'):dO b d [] e w x w':=⟨none,0,h,((Ic.start w).call hE).nilrow _ _⟩
theorem AT (fn:Fn) (a b:Array Value) (w:World):(binOp .eql 119 (.func fn a b) .nilFunc).run prog w=.ok (.bool false) w:=by
 simp only [binOp,Op.equal,Op.maxDepth]
 unfold Op.equalIn
 simp [go_sem]
theorem AS (w:World):(binOp .eql 119 .nilFunc .nilFunc).run prog w=.ok (.bool true) w:=by
 simp only [binOp,Op.equal,Op.maxDepth]
 unfold Op.equalIn
 simp [go_sem]
theorem tm (op:BinOp) (x y:Operand) (fn:Fn) (a b:Array Value) (w:World):(eqGuard op 119 x y (.func fn a b) .nilFunc).run prog w=.ok () w:=by
 cases op <;> simp [eqGuard,go_sem]
theorem tl (op:BinOp) (x y:Operand) (w:World):(eqGuard op 119 x y .nilFunc .nilFunc).run prog w=.ok () w:=by
 cases op <;> simp [eqGuard,go_sem]
attribute [local go_sem ↓] AT AS tm tl
theorem Gs (k f t:Int) (pw:Option Addr) (nw cw:Nat) (rad most:Int) (gb:Nat) (gl:Nat) (b:Bool) (d ec:Int) (w:World) (HF:∀ W,Ext w W->Calls prog 66 #[.int .i64 f,.int .i64 t,.pointer (some ⟨gb,0,none⟩)] W fun e w'=>e=.returned (.tuple #[.int .i64 d,.bool b,.int .i64 ec])/\Ext W w'):Calls prog 118 #[.agg #[.int .i64 k,.int .i64 f,.int .i64 t,.slice pw nw cw,.int .i64 rad,.int .i64 most,.func (.func 66) #[] #[.pointer (some ⟨gb,0,none⟩)],(.func (.func 68) #[] #[.pointer (some ⟨gb,0,none⟩),.pointer (some ⟨gl,0,none⟩)])]] w (dO b d [] ec w):=by
 have S0:=lh (((Ic.start w).al #[.int .i64 k,.int .i64 f,.int .i64 t,.slice pw nw cw,.int .i64 rad,.int .i64 most,.func (.func 66) #[] #[.pointer (some ⟨gb,0,none⟩)],(.func (.func 68) #[] #[.pointer (some ⟨gb,0,none⟩),.pointer (some ⟨gl,0,none⟩)])] 121 w.heap.size rfl).al #[.bool false,.int .i64 0,.slice none 0 0] 34 (w.heap.size+1) (by simp))
 have Kv:=lh HF
 clear HF
 go_enter func118,ntmps118
 go_wp2_with (go_at_call 66;go_must (refine(Kv.out _ S0.out.ext).mono ?_;rintro e w1 ⟨rfl,hb⟩;have S1:=lh (S0.out.call hb);obtain⟨y0,y1,y2,yz,f0,f1,f2⟩:=ag (S1.out.blk 0 rfl);clear hb))
 have S9:=lh (((S1.out.set 0 rfl 0 (.bool b)).set 0 rfl 1 (.int .i64 d)).set 0 rfl 2 (.slice none 0 0))
 obtain⟨x0,x1,x2⟩:=aw (S9.out.blk 0 rfl)
 refine bodyPost_ret (v:=.tuple #[.agg #[.bool b,.int .i64 d,.slice none 0 0],.int .i64 ec]) (by simp [results,results118,go_sem,x0,x1,x2,sizeOf34,isAgg34]) rfl ?_
 exact bZ rfl S9.out.ext
theorem EY (k f t:Int) (pw:Option Addr) (nw cw:Nat) (rad most:Int) (gb:Nat) (gl:Nat) (b:Bool) (d ec:Int) (w:World) (HF:∀ W,Ext w W->Calls prog 66 #[.int .i64 f,.int .i64 t,.pointer (some ⟨gb,0,none⟩)] W fun e w'=>e=.returned (.tuple #[.int .i64 d,.bool b,.int .i64 ec])/\Ext W w'):Calls prog 119 #[.agg #[.int .i64 k,.int .i64 f,.int .i64 t,.slice pw nw cw,.int .i64 rad,.int .i64 most,.func (.func 66) #[] #[.pointer (some ⟨gb,0,none⟩)],(.func (.func 68) #[] #[.pointer (some ⟨gb,0,none⟩),.pointer (some ⟨gl,0,none⟩)])]] w (dO b 0 [] ec w):=by
 have S0:=lh (((Ic.start w).al #[.int .i64 k,.int .i64 f,.int .i64 t,.slice pw nw cw,.int .i64 rad,.int .i64 most,.func (.func 66) #[] #[.pointer (some ⟨gb,0,none⟩)],(.func (.func 68) #[] #[.pointer (some ⟨gb,0,none⟩),.pointer (some ⟨gl,0,none⟩)])] 121 w.heap.size rfl).al #[.bool false,.int .i64 0,.slice none 0 0] 34 (w.heap.size+1) (by simp))
 have Kv:=lh HF
 clear HF
 go_enter func119,ntmps119
 go_wp2_with (go_at_call 66;go_must (refine(Kv.out _ S0.out.ext).mono ?_;rintro e w1 ⟨rfl,hb⟩;have S1:=lh (S0.out.call hb);obtain⟨y0,y1,y2,yz,f0,f1,f2⟩:=ag (S1.out.blk 0 rfl);clear hb))
 have S9:=lh (((S1.out.set 0 rfl 0 (.bool b)).set 0 rfl 1 (.int .i64 0)).set 0 rfl 2 (.slice none 0 0))
 obtain⟨x0,x1,x2⟩:=aw (S9.out.blk 0 rfl)
 refine bodyPost_ret (v:=.tuple #[.agg #[.bool b,.int .i64 0,.slice none 0 0],.int .i64 ec]) (by simp [results,results119,go_sem,x0,x1,x2,sizeOf34,isAgg34]) rfl ?_
 exact bZ rfl S9.out.ext
theorem Gt (k f t:Int) (pw:Option Addr) (nw cw:Nat) (rad most:Int) (gb:Nat)  (b:Bool) (d ec:Int) (w:World) (HF:∀ W,Ext w W->Calls prog 77 #[.int .i64 f,.int .i64 t,.pointer (some ⟨gb,0,none⟩)] W fun e w'=>e=.returned (.tuple #[.int .i64 d,.bool b,.int .i64 ec])/\Ext W w'):Calls prog 118 #[.agg #[.int .i64 k,.int .i64 f,.int .i64 t,.slice pw nw cw,.int .i64 rad,.int .i64 most,.func (.func 77) #[] #[.pointer (some ⟨gb,0,none⟩)],.nilFunc]] w (dO b d [] ec w):=by
 have S0:=lh (((Ic.start w).al #[.int .i64 k,.int .i64 f,.int .i64 t,.slice pw nw cw,.int .i64 rad,.int .i64 most,.func (.func 77) #[] #[.pointer (some ⟨gb,0,none⟩)],.nilFunc] 121 w.heap.size rfl).al #[.bool false,.int .i64 0,.slice none 0 0] 34 (w.heap.size+1) (by simp))
 have Kv:=lh HF
 clear HF
 go_enter func118,ntmps118
 go_wp2_with (go_at_call 77;go_must (refine(Kv.out _ S0.out.ext).mono ?_;rintro e w1 ⟨rfl,hb⟩;have S1:=lh (S0.out.call hb);obtain⟨y0,y1,y2,yz,f0,f1,f2⟩:=ag (S1.out.blk 0 rfl);clear hb))
 have S9:=lh (((S1.out.set 0 rfl 0 (.bool b)).set 0 rfl 1 (.int .i64 d)).set 0 rfl 2 (.slice none 0 0))
 obtain⟨x0,x1,x2⟩:=aw (S9.out.blk 0 rfl)
 refine bodyPost_ret (v:=.tuple #[.agg #[.bool b,.int .i64 d,.slice none 0 0],.int .i64 ec]) (by simp [results,results118,go_sem,x0,x1,x2,sizeOf34,isAgg34]) rfl ?_
 exact bZ rfl S9.out.ext
theorem EZ (k f t:Int) (pw:Option Addr) (nw cw:Nat) (rad most:Int) (gb:Nat)  (b:Bool) (d ec:Int) (w:World) (HF:∀ W,Ext w W->Calls prog 77 #[.int .i64 f,.int .i64 t,.pointer (some ⟨gb,0,none⟩)] W fun e w'=>e=.returned (.tuple #[.int .i64 d,.bool b,.int .i64 ec])/\Ext W w'):Calls prog 119 #[.agg #[.int .i64 k,.int .i64 f,.int .i64 t,.slice pw nw cw,.int .i64 rad,.int .i64 most,.func (.func 77) #[] #[.pointer (some ⟨gb,0,none⟩)],.nilFunc]] w (dO b 0 [] ec w):=by
 have S0:=lh (((Ic.start w).al #[.int .i64 k,.int .i64 f,.int .i64 t,.slice pw nw cw,.int .i64 rad,.int .i64 most,.func (.func 77) #[] #[.pointer (some ⟨gb,0,none⟩)],.nilFunc] 121 w.heap.size rfl).al #[.bool false,.int .i64 0,.slice none 0 0] 34 (w.heap.size+1) (by simp))
 have Kv:=lh HF
 clear HF
 go_enter func119,ntmps119
 go_wp2_with (go_at_call 77;go_must (refine(Kv.out _ S0.out.ext).mono ?_;rintro e w1 ⟨rfl,hb⟩;have S1:=lh (S0.out.call hb);obtain⟨y0,y1,y2,yz,f0,f1,f2⟩:=ag (S1.out.blk 0 rfl);clear hb))
 have S9:=lh (((S1.out.set 0 rfl 0 (.bool b)).set 0 rfl 1 (.int .i64 0)).set 0 rfl 2 (.slice none 0 0))
 obtain⟨x0,x1,x2⟩:=aw (S9.out.blk 0 rfl)
 refine bodyPost_ret (v:=.tuple #[.agg #[.bool b,.int .i64 0,.slice none 0 0],.int .i64 ec]) (by simp [results,results119,go_sem,x0,x1,x2,sizeOf34,isAgg34]) rfl ?_
 exact bZ rfl S9.out.ext
theorem GE (k f t:Int) (pw:Option Addr) (nw cw:Nat) (rad most:Int) (gb:Nat) (w:World):Calls prog 120 #[.agg #[.int .i64 k,.int .i64 f,.int .i64 t,.slice pw nw cw,.int .i64 rad,.int .i64 most,.func (.func 77) #[] #[.pointer (some ⟨gb,0,none⟩)],.nilFunc]] w (dO false 0 [] 180 w):=by
 have S0:=lh (((Ic.start w).al #[.int .i64 k,.int .i64 f,.int .i64 t,.slice pw nw cw,.int .i64 rad,.int .i64 most,.func (.func 77) #[] #[.pointer (some ⟨gb,0,none⟩)],.nilFunc] 121 w.heap.size rfl).al #[.bool false,.int .i64 0,.slice none 0 0] 34 (w.heap.size+1) (by simp))
 obtain⟨y0,y1,y2,yz,f0,f1,f2⟩:=ag (S0.out.blk 0 rfl)
 go_enter func120,ntmps120
 go_wp2
 obtain⟨x0,x1,x2⟩:=aw (S0.out.blk 0 rfl)
 refine bodyPost_ret (v:=.tuple #[.agg #[.bool false,.int .i64 0,.slice none 0 0],.int .i64 180]) (by simp [results,results120,go_sem,sizeOf34,isAgg34]) rfl ?_
 exact bZ rfl S0.out.ext
theorem GD (k f t:Int) (pw:Option Addr) (nw cw:Nat) (rad most:Int) (gb gl:Nat) (X:List (Int × Int)) (ec:Int) (w:World) (hX:X.length<=1000)
  (HH:∀ W,Ext w W->Calls prog 68 #[.agg #[.int .i64 k,.int .i64 f,.int .i64 t,.slice pw nw cw,.int .i64 rad,.int .i64 most],.pointer (some ⟨gb,0,none⟩),.pointer (some ⟨gl,0,none⟩)] W fun e w'=>∃ q c',e=.returned (.tuple #[.slice q X.length c',.int .i64 ec])/\Ic W w' [.own 105 2 q X.length c' (aj X)]) :
  Calls prog 120 #[.agg #[.int .i64 k,.int .i64 f,.int .i64 t,.slice pw nw cw,.int .i64 rad,.int .i64 most,.func (.func 66) #[] #[.pointer (some ⟨gb,0,none⟩)],(.func (.func 68) #[] #[.pointer (some ⟨gb,0,none⟩),.pointer (some ⟨gl,0,none⟩)])]] w (dO (decide (0<(bV X most).length)) 0 (bV X most) ec w):=by
 have S0:=lh (((Ic.start w).al #[.int .i64 k,.int .i64 f,.int .i64 t,.slice pw nw cw,.int .i64 rad,.int .i64 most,.func (.func 66) #[] #[.pointer (some ⟨gb,0,none⟩)],(.func (.func 68) #[] #[.pointer (some ⟨gb,0,none⟩),.pointer (some ⟨gl,0,none⟩)])] 121 w.heap.size rfl).al #[.bool false,.int .i64 0,.slice none 0 0] 34 (w.heap.size+1) (by simp))
 have Kv:=lh HH
 have Kw:=lh (fun (q:Option Addr) (c':Nat) W (hr:Rd W 2 q X.length (aj X))=>wt q X.length c' X most W hr (by omega))
 clear HH
 generalize bV X most=F at *
 go_enter func120,ntmps120
 go_wp2_with (first
  | (go_at_call 191;go_must (refine(Kw.out _ _ _ (S1.out.rdx 0 rfl)).mono ?_;rintro e w2 ⟨q2,c2,rfl,Z⟩;have S2:=lh (S1.out.comp Z);clear a0 az y0 y1 y2 yz f0 f1 f2;obtain⟨y0,y1,y2,yz,f0,f1,f2⟩:=ag (S2.out.blk 2 rfl);clear Z))
  | (go_at_call 68;go_must (refine(Kv.out _ S0.out.ext).mono ?_;rintro e w1 ⟨q1,c1,rfl,Z⟩;have S1:=lh (S0.out.comp Z);obtain⟨y0,y1,y2,yz,f0,f1,f2⟩:=ag (S1.out.blk 1 rfl);obtain⟨a0,az⟩:=DB (S1.out.blk 2 rfl);clear Z)))
 have S9:=lh (((S2.out.set 2 rfl 0 (.bool (decide (0<F.length)))).set 2 rfl 1 (.int .i64 0)).set 2 rfl 2 ((.slice q2 F.length c2)))
 obtain⟨x0,x1,x2⟩:=aw (S9.out.blk 2 rfl)
 refine bodyPost_ret (v:=.tuple #[.agg #[.bool (decide (0<F.length)),.int .i64 0,(.slice q2 F.length c2)],.int .i64 ec]) (by simp [results,results120,go_sem,x0,x1,x2,sizeOf34,isAgg34]) rfl ?_
 exact⟨q2,c2,rfl,S9.out.pick [0] (by decide) rfl⟩
end
theorem FV (f t:Int) (pw:Option Addr) (nw cw:Nat) (rad most:Int) (gb:Nat) (gl:Nat) (b:Bool) (d:Int) (F:List (Int × Int)) (ec:Int) (w:World) (HD:∀ W,Ext w W->Calls prog 118 #[.agg #[.int .i64 1,.int .i64 f,.int .i64 t,.slice pw nw cw,.int .i64 rad,.int .i64 most,.func (.func 66) #[] #[.pointer (some ⟨gb,0,none⟩)],(.func (.func 68) #[] #[.pointer (some ⟨gb,0,none⟩),.pointer (some ⟨gl,0,none⟩)])]] W (dO b d F ec W)):Calls prog 70 #[.agg #[.int .i64 1,.int .i64 f,.int .i64 t,.slice pw nw cw,.int .i64 rad,.int .i64 most,.func (.func 66) #[] #[.pointer (some ⟨gb,0,none⟩)],(.func (.func 68) #[] #[.pointer (some ⟨gb,0,none⟩),.pointer (some ⟨gl,0,none⟩)])]] w (dO b d F ec w):=by
 have JP:=lh (((Ic.start w).al #[.int .i64 1,.int .i64 f,.int .i64 t,.slice pw nw cw,.int .i64 rad,.int .i64 most,.func (.func 66) #[] #[.pointer (some ⟨gb,0,none⟩)],(.func (.func 68) #[] #[.pointer (some ⟨gb,0,none⟩),.pointer (some ⟨gl,0,none⟩)])] 121 w.heap.size rfl).al #[.bool false,.int .i64 0,.slice none 0 0] 34 (w.heap.size+1) (by simp))
 have hm:=JP.out.mkmapK (K:=(fv prog 3 underlying3)) fq
 have hsz:(((w.alloc (.cells #[.int .i64 1,.int .i64 f,.int .i64 t,.slice pw nw cw,.int .i64 rad,.int .i64 most,.func (.func 66) #[] #[.pointer (some ⟨gb,0,none⟩)],(.func (.func 68) #[] #[.pointer (some ⟨gb,0,none⟩),.pointer (some ⟨gl,0,none⟩)])] 121)).alloc (.cells #[.bool false,.int .i64 0,.slice none 0 0] 34))).heap.size=w.heap.size+1+1:=by simp
 rw [hsz] at hm
 have S0:=lh hm
 clear hm hsz JP
 have JL:=lh HD
 clear HD
 have hmm:=@run_makeMap prog
 go_enter func70,ntmps70
 go_wp2_with (first | (go_at_call 118;go_must (refine(JL.out _ S3.out.ext).mono ?_;rintro e w4 ⟨q4,c4,rfl,Z⟩;have S4:=lh (S3.out.comp Z);clear k1 a0 a1 a2 a3 a4 a5 a6 a7 az y0 y1 y2 yz f0 f1 f2;obtain⟨y0,y1,y2,yz,f0,f1,f2⟩:=ag (S4.out.blk 2 rfl);clear Z)) | (refine ax (K:=(fv prog 3 underlying3)) (E:=fq) rfl _ _ _ _ rfl underlying172 rfl S2.out 0 rfl (by omega) ⟨3,0,0⟩ (some 120) rfl rfl ⟨rfl,rfl,Ii.of (by decide) (by decide)⟩ ?_;intro w3 S' hg;have S3:=lh S';clear S' hg;have k1:(Instr.lookup 172 (.map (some (w.heap.size+1+1))) (.int .i64 1) false).run prog w3=.ok (.func (.func 118) #[] #[]) w3:=(S3.out.mapK 0 rfl).lookup underlying172 (x:=⟨1,0,0⟩) ⟨rfl,rfl,Ii.of (by decide) (by decide)⟩;obtain⟨a0,a1,a2,a3,a4,a5,a6,a7,az⟩:=bG (S3.out.blk 2 rfl);obtain⟨y0,y1,y2,yz,f0,f1,f2⟩:=ag (S3.out.blk 1 rfl)) | (refine ax (K:=(fv prog 3 underlying3)) (E:=fq) rfl _ _ _ _ rfl underlying172 rfl S1.out 0 rfl (by omega) ⟨2,0,0⟩ (some 119) rfl rfl ⟨rfl,rfl,Ii.of (by decide) (by decide)⟩ ?_;intro w2 S' hg;have S2:=lh S';clear S' hg) | (refine ax (K:=(fv prog 3 underlying3)) (E:=fq) rfl _ _ _ _ rfl underlying172 rfl S0.out 0 rfl (by omega) ⟨1,0,0⟩ (some 118) rfl rfl ⟨rfl,rfl,Ii.of (by decide) (by decide)⟩ ?_;intro w1 S' hg;have S1:=lh S';clear S' hg))
 have S9:=lh (((S4.out.set 2 rfl 0 (.bool b)).set 2 rfl 1 (.int .i64 d)).set 2 rfl 2 (.slice q4 F.length c4))
 obtain⟨x0,x1,x2⟩:=aw (S9.out.blk 2 rfl)
 refine bodyPost_ret (v:=.tuple #[.agg #[.bool b,.int .i64 d,.slice q4 F.length c4],.int .i64 ec]) (by simp [results,results70,go_sem,x0,x1,x2,sizeOf34,isAgg34]) rfl ?_
 exact⟨q4,c4,rfl,S9.out.pick [0] (by decide) rfl⟩
theorem FW (f t:Int) (pw:Option Addr) (nw cw:Nat) (rad most:Int) (gb:Nat) (gl:Nat) (b:Bool) (d:Int) (F:List (Int × Int)) (ec:Int) (w:World) (HD:∀ W,Ext w W->Calls prog 119 #[.agg #[.int .i64 2,.int .i64 f,.int .i64 t,.slice pw nw cw,.int .i64 rad,.int .i64 most,.func (.func 66) #[] #[.pointer (some ⟨gb,0,none⟩)],(.func (.func 68) #[] #[.pointer (some ⟨gb,0,none⟩),.pointer (some ⟨gl,0,none⟩)])]] W (dO b d F ec W)):Calls prog 70 #[.agg #[.int .i64 2,.int .i64 f,.int .i64 t,.slice pw nw cw,.int .i64 rad,.int .i64 most,.func (.func 66) #[] #[.pointer (some ⟨gb,0,none⟩)],(.func (.func 68) #[] #[.pointer (some ⟨gb,0,none⟩),.pointer (some ⟨gl,0,none⟩)])]] w (dO b d F ec w):=by
 have JP:=lh (((Ic.start w).al #[.int .i64 2,.int .i64 f,.int .i64 t,.slice pw nw cw,.int .i64 rad,.int .i64 most,.func (.func 66) #[] #[.pointer (some ⟨gb,0,none⟩)],(.func (.func 68) #[] #[.pointer (some ⟨gb,0,none⟩),.pointer (some ⟨gl,0,none⟩)])] 121 w.heap.size rfl).al #[.bool false,.int .i64 0,.slice none 0 0] 34 (w.heap.size+1) (by simp))
 have hm:=JP.out.mkmapK (K:=(fv prog 3 underlying3)) fq
 have hsz:(((w.alloc (.cells #[.int .i64 2,.int .i64 f,.int .i64 t,.slice pw nw cw,.int .i64 rad,.int .i64 most,.func (.func 66) #[] #[.pointer (some ⟨gb,0,none⟩)],(.func (.func 68) #[] #[.pointer (some ⟨gb,0,none⟩),.pointer (some ⟨gl,0,none⟩)])] 121)).alloc (.cells #[.bool false,.int .i64 0,.slice none 0 0] 34))).heap.size=w.heap.size+1+1:=by simp
 rw [hsz] at hm
 have S0:=lh hm
 clear hm hsz JP
 have JL:=lh HD
 clear HD
 have hmm:=@run_makeMap prog
 go_enter func70,ntmps70
 go_wp2_with (first | (go_at_call 119;go_must (refine(JL.out _ S3.out.ext).mono ?_;rintro e w4 ⟨q4,c4,rfl,Z⟩;have S4:=lh (S3.out.comp Z);clear k1 a0 a1 a2 a3 a4 a5 a6 a7 az y0 y1 y2 yz f0 f1 f2;obtain⟨y0,y1,y2,yz,f0,f1,f2⟩:=ag (S4.out.blk 2 rfl);clear Z)) | (refine ax (K:=(fv prog 3 underlying3)) (E:=fq) rfl _ _ _ _ rfl underlying172 rfl S2.out 0 rfl (by omega) ⟨3,0,0⟩ (some 120) rfl rfl ⟨rfl,rfl,Ii.of (by decide) (by decide)⟩ ?_;intro w3 S' hg;have S3:=lh S';clear S' hg;have k1:(Instr.lookup 172 (.map (some (w.heap.size+1+1))) (.int .i64 2) false).run prog w3=.ok (.func (.func 119) #[] #[]) w3:=(S3.out.mapK 0 rfl).lookup underlying172 (x:=⟨2,0,0⟩) ⟨rfl,rfl,Ii.of (by decide) (by decide)⟩;obtain⟨a0,a1,a2,a3,a4,a5,a6,a7,az⟩:=bG (S3.out.blk 2 rfl);obtain⟨y0,y1,y2,yz,f0,f1,f2⟩:=ag (S3.out.blk 1 rfl)) | (refine ax (K:=(fv prog 3 underlying3)) (E:=fq) rfl _ _ _ _ rfl underlying172 rfl S1.out 0 rfl (by omega) ⟨2,0,0⟩ (some 119) rfl rfl ⟨rfl,rfl,Ii.of (by decide) (by decide)⟩ ?_;intro w2 S' hg;have S2:=lh S';clear S' hg) | (refine ax (K:=(fv prog 3 underlying3)) (E:=fq) rfl _ _ _ _ rfl underlying172 rfl S0.out 0 rfl (by omega) ⟨1,0,0⟩ (some 118) rfl rfl ⟨rfl,rfl,Ii.of (by decide) (by decide)⟩ ?_;intro w1 S' hg;have S1:=lh S';clear S' hg))
 have S9:=lh (((S4.out.set 2 rfl 0 (.bool b)).set 2 rfl 1 (.int .i64 d)).set 2 rfl 2 (.slice q4 F.length c4))
 obtain⟨x0,x1,x2⟩:=aw (S9.out.blk 2 rfl)
 refine bodyPost_ret (v:=.tuple #[.agg #[.bool b,.int .i64 d,.slice q4 F.length c4],.int .i64 ec]) (by simp [results,results70,go_sem,x0,x1,x2,sizeOf34,isAgg34]) rfl ?_
 exact⟨q4,c4,rfl,S9.out.pick [0] (by decide) rfl⟩
theorem FX (f t:Int) (pw:Option Addr) (nw cw:Nat) (rad most:Int) (gb:Nat) (gl:Nat) (b:Bool) (d:Int) (F:List (Int × Int)) (ec:Int) (w:World) (HD:∀ W,Ext w W->Calls prog 120 #[.agg #[.int .i64 3,.int .i64 f,.int .i64 t,.slice pw nw cw,.int .i64 rad,.int .i64 most,.func (.func 66) #[] #[.pointer (some ⟨gb,0,none⟩)],(.func (.func 68) #[] #[.pointer (some ⟨gb,0,none⟩),.pointer (some ⟨gl,0,none⟩)])]] W (dO b d F ec W)):Calls prog 70 #[.agg #[.int .i64 3,.int .i64 f,.int .i64 t,.slice pw nw cw,.int .i64 rad,.int .i64 most,.func (.func 66) #[] #[.pointer (some ⟨gb,0,none⟩)],(.func (.func 68) #[] #[.pointer (some ⟨gb,0,none⟩),.pointer (some ⟨gl,0,none⟩)])]] w (dO b d F ec w):=by
 have JP:=lh (((Ic.start w).al #[.int .i64 3,.int .i64 f,.int .i64 t,.slice pw nw cw,.int .i64 rad,.int .i64 most,.func (.func 66) #[] #[.pointer (some ⟨gb,0,none⟩)],(.func (.func 68) #[] #[.pointer (some ⟨gb,0,none⟩),.pointer (some ⟨gl,0,none⟩)])] 121 w.heap.size rfl).al #[.bool false,.int .i64 0,.slice none 0 0] 34 (w.heap.size+1) (by simp))
 have hm:=JP.out.mkmapK (K:=(fv prog 3 underlying3)) fq
 have hsz:(((w.alloc (.cells #[.int .i64 3,.int .i64 f,.int .i64 t,.slice pw nw cw,.int .i64 rad,.int .i64 most,.func (.func 66) #[] #[.pointer (some ⟨gb,0,none⟩)],(.func (.func 68) #[] #[.pointer (some ⟨gb,0,none⟩),.pointer (some ⟨gl,0,none⟩)])] 121)).alloc (.cells #[.bool false,.int .i64 0,.slice none 0 0] 34))).heap.size=w.heap.size+1+1:=by simp
 rw [hsz] at hm
 have S0:=lh hm
 clear hm hsz JP
 have JL:=lh HD
 clear HD
 have hmm:=@run_makeMap prog
 go_enter func70,ntmps70
 go_wp2_with (first | (go_at_call 120;go_must (refine(JL.out _ S3.out.ext).mono ?_;rintro e w4 ⟨q4,c4,rfl,Z⟩;have S4:=lh (S3.out.comp Z);clear k1 a0 a1 a2 a3 a4 a5 a6 a7 az y0 y1 y2 yz f0 f1 f2;obtain⟨y0,y1,y2,yz,f0,f1,f2⟩:=ag (S4.out.blk 2 rfl);clear Z)) | (refine ax (K:=(fv prog 3 underlying3)) (E:=fq) rfl _ _ _ _ rfl underlying172 rfl S2.out 0 rfl (by omega) ⟨3,0,0⟩ (some 120) rfl rfl ⟨rfl,rfl,Ii.of (by decide) (by decide)⟩ ?_;intro w3 S' hg;have S3:=lh S';clear S' hg;have k1:(Instr.lookup 172 (.map (some (w.heap.size+1+1))) (.int .i64 3) false).run prog w3=.ok (.func (.func 120) #[] #[]) w3:=(S3.out.mapK 0 rfl).lookup underlying172 (x:=⟨3,0,0⟩) ⟨rfl,rfl,Ii.of (by decide) (by decide)⟩;obtain⟨a0,a1,a2,a3,a4,a5,a6,a7,az⟩:=bG (S3.out.blk 2 rfl);obtain⟨y0,y1,y2,yz,f0,f1,f2⟩:=ag (S3.out.blk 1 rfl)) | (refine ax (K:=(fv prog 3 underlying3)) (E:=fq) rfl _ _ _ _ rfl underlying172 rfl S1.out 0 rfl (by omega) ⟨2,0,0⟩ (some 119) rfl rfl ⟨rfl,rfl,Ii.of (by decide) (by decide)⟩ ?_;intro w2 S' hg;have S2:=lh S';clear S' hg) | (refine ax (K:=(fv prog 3 underlying3)) (E:=fq) rfl _ _ _ _ rfl underlying172 rfl S0.out 0 rfl (by omega) ⟨1,0,0⟩ (some 118) rfl rfl ⟨rfl,rfl,Ii.of (by decide) (by decide)⟩ ?_;intro w1 S' hg;have S1:=lh S';clear S' hg))
 have S9:=lh (((S4.out.set 2 rfl 0 (.bool b)).set 2 rfl 1 (.int .i64 d)).set 2 rfl 2 (.slice q4 F.length c4))
 obtain⟨x0,x1,x2⟩:=aw (S9.out.blk 2 rfl)
 refine bodyPost_ret (v:=.tuple #[.agg #[.bool b,.int .i64 d,.slice q4 F.length c4],.int .i64 ec]) (by simp [results,results70,go_sem,x0,x1,x2,sizeOf34,isAgg34]) rfl ?_
 exact⟨q4,c4,rfl,S9.out.pick [0] (by decide) rfl⟩
theorem FZ (f t:Int) (pw:Option Addr) (nw cw:Nat) (rad most:Int) (gb:Nat)  (b:Bool) (d:Int) (F:List (Int × Int)) (ec:Int) (w:World) (HD:∀ W,Ext w W->Calls prog 118 #[.agg #[.int .i64 1,.int .i64 f,.int .i64 t,.slice pw nw cw,.int .i64 rad,.int .i64 most,.func (.func 77) #[] #[.pointer (some ⟨gb,0,none⟩)],.nilFunc]] W (dO b d F ec W)):Calls prog 70 #[.agg #[.int .i64 1,.int .i64 f,.int .i64 t,.slice pw nw cw,.int .i64 rad,.int .i64 most,.func (.func 77) #[] #[.pointer (some ⟨gb,0,none⟩)],.nilFunc]] w (dO b d F ec w):=by
 have JP:=lh (((Ic.start w).al #[.int .i64 1,.int .i64 f,.int .i64 t,.slice pw nw cw,.int .i64 rad,.int .i64 most,.func (.func 77) #[] #[.pointer (some ⟨gb,0,none⟩)],.nilFunc] 121 w.heap.size rfl).al #[.bool false,.int .i64 0,.slice none 0 0] 34 (w.heap.size+1) (by simp))
 have hm:=JP.out.mkmapK (K:=(fv prog 3 underlying3)) fq
 have hsz:(((w.alloc (.cells #[.int .i64 1,.int .i64 f,.int .i64 t,.slice pw nw cw,.int .i64 rad,.int .i64 most,.func (.func 77) #[] #[.pointer (some ⟨gb,0,none⟩)],.nilFunc] 121)).alloc (.cells #[.bool false,.int .i64 0,.slice none 0 0] 34))).heap.size=w.heap.size+1+1:=by simp
 rw [hsz] at hm
 have S0:=lh hm
 clear hm hsz JP
 have JL:=lh HD
 clear HD
 have hmm:=@run_makeMap prog
 go_enter func70,ntmps70
 go_wp2_with (first | (go_at_call 118;go_must (refine(JL.out _ S3.out.ext).mono ?_;rintro e w4 ⟨q4,c4,rfl,Z⟩;have S4:=lh (S3.out.comp Z);clear k1 a0 a1 a2 a3 a4 a5 a6 a7 az y0 y1 y2 yz f0 f1 f2;obtain⟨y0,y1,y2,yz,f0,f1,f2⟩:=ag (S4.out.blk 2 rfl);clear Z)) | (refine ax (K:=(fv prog 3 underlying3)) (E:=fq) rfl _ _ _ _ rfl underlying172 rfl S2.out 0 rfl (by omega) ⟨3,0,0⟩ (some 120) rfl rfl ⟨rfl,rfl,Ii.of (by decide) (by decide)⟩ ?_;intro w3 S' hg;have S3:=lh S';clear S' hg;have k1:(Instr.lookup 172 (.map (some (w.heap.size+1+1))) (.int .i64 1) false).run prog w3=.ok (.func (.func 118) #[] #[]) w3:=(S3.out.mapK 0 rfl).lookup underlying172 (x:=⟨1,0,0⟩) ⟨rfl,rfl,Ii.of (by decide) (by decide)⟩;obtain⟨a0,a1,a2,a3,a4,a5,a6,a7,az⟩:=bG (S3.out.blk 2 rfl);obtain⟨y0,y1,y2,yz,f0,f1,f2⟩:=ag (S3.out.blk 1 rfl)) | (refine ax (K:=(fv prog 3 underlying3)) (E:=fq) rfl _ _ _ _ rfl underlying172 rfl S1.out 0 rfl (by omega) ⟨2,0,0⟩ (some 119) rfl rfl ⟨rfl,rfl,Ii.of (by decide) (by decide)⟩ ?_;intro w2 S' hg;have S2:=lh S';clear S' hg) | (refine ax (K:=(fv prog 3 underlying3)) (E:=fq) rfl _ _ _ _ rfl underlying172 rfl S0.out 0 rfl (by omega) ⟨1,0,0⟩ (some 118) rfl rfl ⟨rfl,rfl,Ii.of (by decide) (by decide)⟩ ?_;intro w1 S' hg;have S1:=lh S';clear S' hg))
 have S9:=lh (((S4.out.set 2 rfl 0 (.bool b)).set 2 rfl 1 (.int .i64 d)).set 2 rfl 2 (.slice q4 F.length c4))
 obtain⟨x0,x1,x2⟩:=aw (S9.out.blk 2 rfl)
 refine bodyPost_ret (v:=.tuple #[.agg #[.bool b,.int .i64 d,.slice q4 F.length c4],.int .i64 ec]) (by simp [results,results70,go_sem,x0,x1,x2,sizeOf34,isAgg34]) rfl ?_
 exact⟨q4,c4,rfl,S9.out.pick [0] (by decide) rfl⟩
theorem F3 (f t:Int) (pw:Option Addr) (nw cw:Nat) (rad most:Int) (gb:Nat)  (b:Bool) (d:Int) (F:List (Int × Int)) (ec:Int) (w:World) (HD:∀ W,Ext w W->Calls prog 119 #[.agg #[.int .i64 2,.int .i64 f,.int .i64 t,.slice pw nw cw,.int .i64 rad,.int .i64 most,.func (.func 77) #[] #[.pointer (some ⟨gb,0,none⟩)],.nilFunc]] W (dO b d F ec W)):Calls prog 70 #[.agg #[.int .i64 2,.int .i64 f,.int .i64 t,.slice pw nw cw,.int .i64 rad,.int .i64 most,.func (.func 77) #[] #[.pointer (some ⟨gb,0,none⟩)],.nilFunc]] w (dO b d F ec w):=by
 have JP:=lh (((Ic.start w).al #[.int .i64 2,.int .i64 f,.int .i64 t,.slice pw nw cw,.int .i64 rad,.int .i64 most,.func (.func 77) #[] #[.pointer (some ⟨gb,0,none⟩)],.nilFunc] 121 w.heap.size rfl).al #[.bool false,.int .i64 0,.slice none 0 0] 34 (w.heap.size+1) (by simp))
 have hm:=JP.out.mkmapK (K:=(fv prog 3 underlying3)) fq
 have hsz:(((w.alloc (.cells #[.int .i64 2,.int .i64 f,.int .i64 t,.slice pw nw cw,.int .i64 rad,.int .i64 most,.func (.func 77) #[] #[.pointer (some ⟨gb,0,none⟩)],.nilFunc] 121)).alloc (.cells #[.bool false,.int .i64 0,.slice none 0 0] 34))).heap.size=w.heap.size+1+1:=by simp
 rw [hsz] at hm
 have S0:=lh hm
 clear hm hsz JP
 have JL:=lh HD
 clear HD
 have hmm:=@run_makeMap prog
 go_enter func70,ntmps70
 go_wp2_with (first | (go_at_call 119;go_must (refine(JL.out _ S3.out.ext).mono ?_;rintro e w4 ⟨q4,c4,rfl,Z⟩;have S4:=lh (S3.out.comp Z);clear k1 a0 a1 a2 a3 a4 a5 a6 a7 az y0 y1 y2 yz f0 f1 f2;obtain⟨y0,y1,y2,yz,f0,f1,f2⟩:=ag (S4.out.blk 2 rfl);clear Z)) | (refine ax (K:=(fv prog 3 underlying3)) (E:=fq) rfl _ _ _ _ rfl underlying172 rfl S2.out 0 rfl (by omega) ⟨3,0,0⟩ (some 120) rfl rfl ⟨rfl,rfl,Ii.of (by decide) (by decide)⟩ ?_;intro w3 S' hg;have S3:=lh S';clear S' hg;have k1:(Instr.lookup 172 (.map (some (w.heap.size+1+1))) (.int .i64 2) false).run prog w3=.ok (.func (.func 119) #[] #[]) w3:=(S3.out.mapK 0 rfl).lookup underlying172 (x:=⟨2,0,0⟩) ⟨rfl,rfl,Ii.of (by decide) (by decide)⟩;obtain⟨a0,a1,a2,a3,a4,a5,a6,a7,az⟩:=bG (S3.out.blk 2 rfl);obtain⟨y0,y1,y2,yz,f0,f1,f2⟩:=ag (S3.out.blk 1 rfl)) | (refine ax (K:=(fv prog 3 underlying3)) (E:=fq) rfl _ _ _ _ rfl underlying172 rfl S1.out 0 rfl (by omega) ⟨2,0,0⟩ (some 119) rfl rfl ⟨rfl,rfl,Ii.of (by decide) (by decide)⟩ ?_;intro w2 S' hg;have S2:=lh S';clear S' hg) | (refine ax (K:=(fv prog 3 underlying3)) (E:=fq) rfl _ _ _ _ rfl underlying172 rfl S0.out 0 rfl (by omega) ⟨1,0,0⟩ (some 118) rfl rfl ⟨rfl,rfl,Ii.of (by decide) (by decide)⟩ ?_;intro w1 S' hg;have S1:=lh S';clear S' hg))
 have S9:=lh (((S4.out.set 2 rfl 0 (.bool b)).set 2 rfl 1 (.int .i64 d)).set 2 rfl 2 (.slice q4 F.length c4))
 obtain⟨x0,x1,x2⟩:=aw (S9.out.blk 2 rfl)
 refine bodyPost_ret (v:=.tuple #[.agg #[.bool b,.int .i64 d,.slice q4 F.length c4],.int .i64 ec]) (by simp [results,results70,go_sem,x0,x1,x2,sizeOf34,isAgg34]) rfl ?_
 exact⟨q4,c4,rfl,S9.out.pick [0] (by decide) rfl⟩
theorem F4 (f t:Int) (pw:Option Addr) (nw cw:Nat) (rad most:Int) (gb:Nat)  (b:Bool) (d:Int) (F:List (Int × Int)) (ec:Int) (w:World) (HD:∀ W,Ext w W->Calls prog 120 #[.agg #[.int .i64 3,.int .i64 f,.int .i64 t,.slice pw nw cw,.int .i64 rad,.int .i64 most,.func (.func 77) #[] #[.pointer (some ⟨gb,0,none⟩)],.nilFunc]] W (dO b d F ec W)):Calls prog 70 #[.agg #[.int .i64 3,.int .i64 f,.int .i64 t,.slice pw nw cw,.int .i64 rad,.int .i64 most,.func (.func 77) #[] #[.pointer (some ⟨gb,0,none⟩)],.nilFunc]] w (dO b d F ec w):=by
 have JP:=lh (((Ic.start w).al #[.int .i64 3,.int .i64 f,.int .i64 t,.slice pw nw cw,.int .i64 rad,.int .i64 most,.func (.func 77) #[] #[.pointer (some ⟨gb,0,none⟩)],.nilFunc] 121 w.heap.size rfl).al #[.bool false,.int .i64 0,.slice none 0 0] 34 (w.heap.size+1) (by simp))
 have hm:=JP.out.mkmapK (K:=(fv prog 3 underlying3)) fq
 have hsz:(((w.alloc (.cells #[.int .i64 3,.int .i64 f,.int .i64 t,.slice pw nw cw,.int .i64 rad,.int .i64 most,.func (.func 77) #[] #[.pointer (some ⟨gb,0,none⟩)],.nilFunc] 121)).alloc (.cells #[.bool false,.int .i64 0,.slice none 0 0] 34))).heap.size=w.heap.size+1+1:=by simp
 rw [hsz] at hm
 have S0:=lh hm
 clear hm hsz JP
 have JL:=lh HD
 clear HD
 have hmm:=@run_makeMap prog
 go_enter func70,ntmps70
 go_wp2_with (first | (go_at_call 120;go_must (refine(JL.out _ S3.out.ext).mono ?_;rintro e w4 ⟨q4,c4,rfl,Z⟩;have S4:=lh (S3.out.comp Z);clear k1 a0 a1 a2 a3 a4 a5 a6 a7 az y0 y1 y2 yz f0 f1 f2;obtain⟨y0,y1,y2,yz,f0,f1,f2⟩:=ag (S4.out.blk 2 rfl);clear Z)) | (refine ax (K:=(fv prog 3 underlying3)) (E:=fq) rfl _ _ _ _ rfl underlying172 rfl S2.out 0 rfl (by omega) ⟨3,0,0⟩ (some 120) rfl rfl ⟨rfl,rfl,Ii.of (by decide) (by decide)⟩ ?_;intro w3 S' hg;have S3:=lh S';clear S' hg;have k1:(Instr.lookup 172 (.map (some (w.heap.size+1+1))) (.int .i64 3) false).run prog w3=.ok (.func (.func 120) #[] #[]) w3:=(S3.out.mapK 0 rfl).lookup underlying172 (x:=⟨3,0,0⟩) ⟨rfl,rfl,Ii.of (by decide) (by decide)⟩;obtain⟨a0,a1,a2,a3,a4,a5,a6,a7,az⟩:=bG (S3.out.blk 2 rfl);obtain⟨y0,y1,y2,yz,f0,f1,f2⟩:=ag (S3.out.blk 1 rfl)) | (refine ax (K:=(fv prog 3 underlying3)) (E:=fq) rfl _ _ _ _ rfl underlying172 rfl S1.out 0 rfl (by omega) ⟨2,0,0⟩ (some 119) rfl rfl ⟨rfl,rfl,Ii.of (by decide) (by decide)⟩ ?_;intro w2 S' hg;have S2:=lh S';clear S' hg) | (refine ax (K:=(fv prog 3 underlying3)) (E:=fq) rfl _ _ _ _ rfl underlying172 rfl S0.out 0 rfl (by omega) ⟨1,0,0⟩ (some 118) rfl rfl ⟨rfl,rfl,Ii.of (by decide) (by decide)⟩ ?_;intro w1 S' hg;have S1:=lh S';clear S' hg))
 have S9:=lh (((S4.out.set 2 rfl 0 (.bool b)).set 2 rfl 1 (.int .i64 d)).set 2 rfl 2 (.slice q4 F.length c4))
 obtain⟨x0,x1,x2⟩:=aw (S9.out.blk 2 rfl)
 refine bodyPost_ret (v:=.tuple #[.agg #[.bool b,.int .i64 d,.slice q4 F.length c4],.int .i64 ec]) (by simp [results,results70,go_sem,x0,x1,x2,sizeOf34,isAgg34]) rfl ?_
 exact⟨q4,c4,rfl,S9.out.pick [0] (by decide) rfl⟩
section
open Go Go.RowKit Go.Maps
theorem E9 (w:World):(zeroValue 4).run prog w=.ok (.bool false) w:=by kernel_rfl
noncomputable def zN:JF prog 4 Bool:=Gu prog 4 underlying4 E9
theorem Et (gs gr n:Nat) (ql:Option Addr) (cl:Nat) (X:List Int) (qf:Option Addr) (m cf:Nat) (F:List Int) (nx:Nat->List Int) (w:World)
  (hB:Ih w gs 288 #[.func (.func 177) #[] #[.pointer (some ⟨gr,0,none⟩)],.slice ql n cl,.slice qf m cf]) (hX:Rd w 1 ql n (ab X)) (hF:Rd w 1 qf m (ab F)) (hn:n<=200)
  (J3:∀ x∈F,0<=x/\x<n) (hin:xy nx n)
  (HN:∀ k,k<n->∃ q c,Rd w 1 q (nx k).length (ab (nx k))/\∀ W,Ext w W->Calls prog 177 #[.int .i64 k,.pointer (some ⟨gr,0,none⟩)] W fun e w'=>e=.returned (.slice q (nx k).length c)/\Ext W w') :
  Calls prog 181 #[.pointer (some ⟨gs,0,none⟩)] w fun e w'=>∃ q c,e=.returned (.slice q (lJ nx X F []).length c)/\Ic w w' [.own 3 1 q (lJ nx X F []).length c (ab (lJ nx X F []))]:=by
 obtain⟨i0,hi0,hz0,hz1,hz2⟩:=info_parts kg
 have p1:=hF.ptr
 have p2:=hX.ptr
 have n1:=hF.small
 have L1:=lh hF.nI
 have L2:=lh hX.nI
 have QU:Hid (∀ (G:List Int) (l:List Int),(∀ x∈G,0<=x/\x<n)->l.Nodup->(∀ x∈l,0<=x/\x<n)->(lJ nx X G l).length<=n):=fun G l hG h1 h2=>bo (ed h1) fun x hx=>by
  rcases gD.1 hx with h | ⟨v,h3,h4,_⟩
  ·exact h2 x h
  ·obtain⟨h5,h6⟩:=hG v h3
   exact hin v.toNat (by omega) x h4
 have HB:=lh hB;clear hB
 have HX:=lh hX;clear hX
 have HF:=lh hF;clear hF
 have PT:=lh J3;clear J3
 have Jv:=lh hin;clear hin
 have IM:=lh HN
 clear HN
 have hmm:=@run_makeMap prog
 have S0:=lh (((Ic.start w).mkmap zN (k:=3)).nilrow 3 1)
 have b0:=HB.out.cell 0
 have b1:=HB.out.cell 1
 have b2:=HB.out.cell 2
 have bz:=HB.out.lt
 go_enter func181,ntmps181
 go_wp2
 go_loopw [3,6,8,15] (fun l _ _ i wr=>∃ (k:Nat) (L:List Int) (q:Option Addr) (c mm:Nat) (f:Int->Option Bool),k<=m/\i=.int .i64 k/\l=.slice q L.length c/\L=lJ nx X (F.take k) []/\mm<=L.length/\Ic w wr [.own 3 1 q L.length c (ab L),.map prog 3 zN w.heap.size mm f]/\∀ x,f x=some true↔x∈L) (fun _ _ _ i _=>m - (intOf i).toNat)
 case atStart=>exact⟨0,[],none,0,0,_,Nat.zero_le _,rfl,rfl,rfl,Nat.le_refl _,S0.out,fun x=>by simp⟩
 case round =>
  clear S0 b0 b1 b2 bz
  obtain⟨k,L,q,c,mm,f,hk,rfl,rfl,hL,I8,S,hf⟩:=hrel
  have b0:=S.ext.cell (HB.out.cell 0)
  have b1:=S.ext.cell (HB.out.cell 1)
  have b2:=S.ext.cell (HB.out.cell 2)
  have bz:=Nat.lt_of_lt_of_le HB.out.lt S.ext.size
  by_cases hlt:k<m
  ·have Qq:k<F.length:=by rw [<- L1.out];exact hlt
   have g1:=S.ext.cell (HF.out.cI hlt)
   obtain⟨f1,f2⟩:=PT.out _ (aY Qq)
   have HT:=lh (kw (nx:=nx) (X:=X) (l:=[]) Qq)
   rw [<- hL] at HT
   have Mv:Hid (∀ j l',l'=mP X ((nx (ae F k).toNat).take j) L->l'.length<=n):=fun j l' hl'=>by
    rw [hl',hL]
    refine bo (fC (ed List.nodup_nil)) fun x hx=>?_
    rcases jD.1 hx with h | ⟨h,_⟩
    ·rcases gD.1 h with h | ⟨v,h3,h4,_⟩
     ·cases h
     ·obtain⟨h5,h6⟩:=PT.out v (List.mem_of_mem_take h3)
      exact Jv.out v.toNat (by omega) x h4
    ·exact Jv.out _ (by omega) x (List.mem_of_mem_take h)
   clear hL
   obtain⟨a,ha⟩:∃ a:Nat,ae F k=(a:Int):=⟨(ae F k).toNat,by omega⟩
   rw [ha] at g1 f1 f2 HT Mv
   rw [Int.toNat_natCast] at HT Mv
   obtain⟨qn,cn,RN,CN⟩:=IM.out a (by omega)
   have N9:=lh (Jv.out a (by omega))
   have hln:=RN.small
   have pn:=RN.ptr
   generalize nx a=row at *
   have Uc:=lh RN;clear RN
   have L9:=lh CN;clear CN
   have IU:=lh hf;clear hf
   have SH:=lh S;clear S
   have d1:(0:Int)<=k:=by omega
   have d2:(k:Int)<m:=by omega
   clear ha f1 f2
   go_wp2_with (go_at_call 177;go_must (refine(L9.out _ SH.out.ext).mono ?_;rintro e w1 ⟨rfl,hb⟩;have S1:=lh (SH.out.call hb);clear hb))
   go_loopw [3,8,26] (fun l _ i wr=>∃ (j:Nat) (l':List Int) (q:Option Addr) (c mm:Nat) (f:Int->Option Bool),j<=row.length/\i=.int .i64 j/\l=.slice q l'.length c/\l'=mP X (row.take j) L/\mm<=l'.length/\Ic w wr [.own 3 1 q l'.length c (ab l'),.map prog 3 zN w.heap.size mm f]/\∀ x,f x=some true↔x∈l') (fun _ _ i _=>row.length - (intOf i).toNat)
   case atStart=>exact⟨0,L,q,c,mm,f,Nat.zero_le _,rfl,rfl,rfl,I8,S1.out,IU.out⟩
   case round =>
    clear SH S1 IU L9 b0 b1 b2 bz g1 I8
    obtain⟨j,l',q,c,mm,f,hj,rfl,rfl,hl',I8,S,hf⟩:=hrel
    have b0:=S.ext.cell (HB.out.cell 0)
    have b1:=S.ext.cell (HB.out.cell 1)
    have b2:=S.ext.cell (HB.out.cell 2)
    have bz:=Nat.lt_of_lt_of_le HB.out.lt S.ext.size
    by_cases hlj:j<row.length
    ·have g1:=S.ext.cell (Uc.out.cI hlj)
     obtain⟨f1,f2⟩:=N9.out _ (aY hlj)
     have HT2:=lh (kA (X:=X) (l:=L) hlj)
     rw [<- hl'] at HT2
     have hlen:=Mv.out j l' hl'
     clear hl'
     obtain⟨b,hb⟩:∃ b:Nat,ae row j=(b:Int):=⟨(ae row j).toNat,by omega⟩
     rw [hb] at g1 f1 f2 HT2
     have g2:=S.ext.cell (HX.out.cI (k:=b) (by omega))
     have HI:Hid (Ii (b:Int)):=Ii.nat (by omega)
     have hlk:=(S.map 1 rfl).lookup underlying3 underlying251 HI.out
     obtain⟨u,hu⟩:∃ u,u=(f (b:Int)).getD zN.z:=⟨_,rfl⟩
     rw [<- hu] at hlk
     have hlk2:(Instr.lookup 251 (.map (some w.heap.size)) (.int .i64 (b:Int)) false).run prog wr=.ok (.bool u) wr:=hlk
     have J5:u=true↔(b:Int)∈l':=by
      rw [<- hf,hu]
      cases hfb:f (b:Int) with
      | none=>simp;decide
      | some t=>simp
     clear hlk hb hu
     have IU:=lh hf;clear hf
     have SH:=lh S;clear S
     have d3:(0:Int)<=j:=by omega
     have d4:(j:Int)<row.length:=by omega
     unfold xH at HT2
     rw [Int.toNat_natCast] at HT2
     generalize ae X b=lv at *
     by_cases hlv:lv<0
     ·have d5:decide (lv<0)=true:=by simpa using hlv
      cases u with
      | true =>
       have hmem:=J5.1 rfl
       rw [if_neg (fun h=>h.2 hmem)] at HT2
       clear J5 hmem
       go_wp2
       go_roundw
       case rel=>exact⟨j+1,l',q,c,mm,f,by omega,by go_num,rfl,HT2.out.symm,I8,SH.out,IU.out⟩
       case measure=>simp [intOf];omega
      | false =>
       have hmem:(b:Int) ∉ l':=fun h=>by have:=J5.2 h;cases this
       rw [if_pos ⟨hlv,hmem⟩] at HT2
       clear J5 hmem
       go_wp2_with (first
        | (at_mapUpdate;go_must (refine bq rfl _ _ _ _ rfl underlying3 underlying251 rfl SH.out 1 rfl (by omega) (b:Int) true rfl rfl HI.out ?_;intro w1 S1 hg;have S2:=lh S1;clear S1 hg))
        | (at_builtin;go_must (refine am rfl _ _ _ rfl 3 i0 _ 1 8 underlying25 hi0 hz0 hz1 hz2 rfl (by omega) (S2.out.junk _) 0 q l'.length c _ rfl rfl _ 1 1 _ rfl (Rd.oneI _ _ _) (bN _) (by omega) (by omega) ?_;intro q' c' w3 S' hsz;have S3:=lh S';clear S' hsz)))
       go_roundw
       case rel=>exact⟨j+1,l' ++ [(b:Int)],q',c',mm+1,_,by omega,by go_num,by rw [List.length_append];rfl,HT2.out.symm,by rw [List.length_append];simp;omega,by rw [List.length_append,b9];exact S3.out,fun x=>by
        rw [List.mem_append,List.mem_singleton,<- IU.out x]
        unfold zy
        by_cases e:x=(b:Int) <;> simp [e]⟩
       case measure=>simp [intOf];omega
     ·have d5:decide (lv<0)=false:=by simpa using hlv
      rw [if_neg (fun h=>hlv h.1)] at HT2
      clear J5 hlk2
      go_wp2
      go_roundw
      case rel=>exact⟨j+1,l',q,c,mm,f,by omega,by go_num,rfl,HT2.out.symm,I8,SH.out,IU.out⟩
      case measure=>simp [intOf];omega
    ·obtain rfl:j=row.length:=by omega
     rw [List.take_length,<- HT.out] at hl'
     have TQ:=lh hl';clear hl'
     have IU:=lh hf;clear hf
     have SH:=lh S;clear S
     go_wp2
     go_roundw
     case rel=>exact⟨k+1,l',q,c,mm,f,by omega,by go_num,rfl,TQ.out,I8,SH.out,IU.out⟩
     case measure=>simp [intOf];omega
  ·obtain rfl:k=m:=by omega
   rw [List.take_of_length_le (by rw [<- L1.out];omega)] at hL
   subst hL
   have SH:=lh S;clear S
   clear hf
   go_wp2
   go_ret
   exact⟨q,c,rfl,SH.out.pick [0] (by decide) rfl⟩
theorem Eu (gs gr n:Nat) (ql:Option Addr) (cl:Nat) (X:List Int) (qf:Option Addr) (m cf:Nat) (F:List Int) (nx:Nat->List Int) (w:World)
  (hB:Ih w gs 288 #[.func (.func 178) #[] #[.pointer (some ⟨gr,0,none⟩)],.slice ql n cl,.slice qf m cf]) (hX:Rd w 1 ql n (ab X)) (hF:Rd w 1 qf m (ab F)) (hn:n<=200)
  (J3:∀ x∈F,0<=x/\x<n) (hin:xy nx n)
  (HN:∀ k,k<n->∃ q c,Rd w 1 q (nx k).length (ab (nx k))/\∀ W,Ext w W->Calls prog 178 #[.int .i64 k,.pointer (some ⟨gr,0,none⟩)] W fun e w'=>e=.returned (.slice q (nx k).length c)/\Ext W w') :
  Calls prog 181 #[.pointer (some ⟨gs,0,none⟩)] w fun e w'=>∃ q c,e=.returned (.slice q (lJ nx X F []).length c)/\Ic w w' [.own 3 1 q (lJ nx X F []).length c (ab (lJ nx X F []))]:=by
 obtain⟨i0,hi0,hz0,hz1,hz2⟩:=info_parts kg
 have p1:=hF.ptr
 have p2:=hX.ptr
 have n1:=hF.small
 have L1:=lh hF.nI
 have L2:=lh hX.nI
 have QU:Hid (∀ (G:List Int) (l:List Int),(∀ x∈G,0<=x/\x<n)->l.Nodup->(∀ x∈l,0<=x/\x<n)->(lJ nx X G l).length<=n):=fun G l hG h1 h2=>bo (ed h1) fun x hx=>by
  rcases gD.1 hx with h | ⟨v,h3,h4,_⟩
  ·exact h2 x h
  ·obtain⟨h5,h6⟩:=hG v h3
   exact hin v.toNat (by omega) x h4
 have HB:=lh hB;clear hB
 have HX:=lh hX;clear hX
 have HF:=lh hF;clear hF
 have PT:=lh J3;clear J3
 have Jv:=lh hin;clear hin
 have IM:=lh HN
 clear HN
 have hmm:=@run_makeMap prog
 have S0:=lh (((Ic.start w).mkmap zN (k:=3)).nilrow 3 1)
 have b0:=HB.out.cell 0
 have b1:=HB.out.cell 1
 have b2:=HB.out.cell 2
 have bz:=HB.out.lt
 go_enter func181,ntmps181
 go_wp2
 go_loopw [3,6,8,15] (fun l _ _ i wr=>∃ (k:Nat) (L:List Int) (q:Option Addr) (c mm:Nat) (f:Int->Option Bool),k<=m/\i=.int .i64 k/\l=.slice q L.length c/\L=lJ nx X (F.take k) []/\mm<=L.length/\Ic w wr [.own 3 1 q L.length c (ab L),.map prog 3 zN w.heap.size mm f]/\∀ x,f x=some true↔x∈L) (fun _ _ _ i _=>m - (intOf i).toNat)
 case atStart=>exact⟨0,[],none,0,0,_,Nat.zero_le _,rfl,rfl,rfl,Nat.le_refl _,S0.out,fun x=>by simp⟩
 case round =>
  clear S0 b0 b1 b2 bz
  obtain⟨k,L,q,c,mm,f,hk,rfl,rfl,hL,I8,S,hf⟩:=hrel
  have b0:=S.ext.cell (HB.out.cell 0)
  have b1:=S.ext.cell (HB.out.cell 1)
  have b2:=S.ext.cell (HB.out.cell 2)
  have bz:=Nat.lt_of_lt_of_le HB.out.lt S.ext.size
  by_cases hlt:k<m
  ·have Qq:k<F.length:=by rw [<- L1.out];exact hlt
   have g1:=S.ext.cell (HF.out.cI hlt)
   obtain⟨f1,f2⟩:=PT.out _ (aY Qq)
   have HT:=lh (kw (nx:=nx) (X:=X) (l:=[]) Qq)
   rw [<- hL] at HT
   have Mv:Hid (∀ j l',l'=mP X ((nx (ae F k).toNat).take j) L->l'.length<=n):=fun j l' hl'=>by
    rw [hl',hL]
    refine bo (fC (ed List.nodup_nil)) fun x hx=>?_
    rcases jD.1 hx with h | ⟨h,_⟩
    ·rcases gD.1 h with h | ⟨v,h3,h4,_⟩
     ·cases h
     ·obtain⟨h5,h6⟩:=PT.out v (List.mem_of_mem_take h3)
      exact Jv.out v.toNat (by omega) x h4
    ·exact Jv.out _ (by omega) x (List.mem_of_mem_take h)
   clear hL
   obtain⟨a,ha⟩:∃ a:Nat,ae F k=(a:Int):=⟨(ae F k).toNat,by omega⟩
   rw [ha] at g1 f1 f2 HT Mv
   rw [Int.toNat_natCast] at HT Mv
   obtain⟨qn,cn,RN,CN⟩:=IM.out a (by omega)
   have N9:=lh (Jv.out a (by omega))
   have hln:=RN.small
   have pn:=RN.ptr
   generalize nx a=row at *
   have Uc:=lh RN;clear RN
   have L9:=lh CN;clear CN
   have IU:=lh hf;clear hf
   have SH:=lh S;clear S
   have d1:(0:Int)<=k:=by omega
   have d2:(k:Int)<m:=by omega
   clear ha f1 f2
   go_wp2_with (go_at_call 178;go_must (refine(L9.out _ SH.out.ext).mono ?_;rintro e w1 ⟨rfl,hb⟩;have S1:=lh (SH.out.call hb);clear hb))
   go_loopw [3,8,26] (fun l _ i wr=>∃ (j:Nat) (l':List Int) (q:Option Addr) (c mm:Nat) (f:Int->Option Bool),j<=row.length/\i=.int .i64 j/\l=.slice q l'.length c/\l'=mP X (row.take j) L/\mm<=l'.length/\Ic w wr [.own 3 1 q l'.length c (ab l'),.map prog 3 zN w.heap.size mm f]/\∀ x,f x=some true↔x∈l') (fun _ _ i _=>row.length - (intOf i).toNat)
   case atStart=>exact⟨0,L,q,c,mm,f,Nat.zero_le _,rfl,rfl,rfl,I8,S1.out,IU.out⟩
   case round =>
    clear SH S1 IU L9 b0 b1 b2 bz g1 I8
    obtain⟨j,l',q,c,mm,f,hj,rfl,rfl,hl',I8,S,hf⟩:=hrel
    have b0:=S.ext.cell (HB.out.cell 0)
    have b1:=S.ext.cell (HB.out.cell 1)
    have b2:=S.ext.cell (HB.out.cell 2)
    have bz:=Nat.lt_of_lt_of_le HB.out.lt S.ext.size
    by_cases hlj:j<row.length
    ·have g1:=S.ext.cell (Uc.out.cI hlj)
     obtain⟨f1,f2⟩:=N9.out _ (aY hlj)
     have HT2:=lh (kA (X:=X) (l:=L) hlj)
     rw [<- hl'] at HT2
     have hlen:=Mv.out j l' hl'
     clear hl'
     obtain⟨b,hb⟩:∃ b:Nat,ae row j=(b:Int):=⟨(ae row j).toNat,by omega⟩
     rw [hb] at g1 f1 f2 HT2
     have g2:=S.ext.cell (HX.out.cI (k:=b) (by omega))
     have HI:Hid (Ii (b:Int)):=Ii.nat (by omega)
     have hlk:=(S.map 1 rfl).lookup underlying3 underlying251 HI.out
     obtain⟨u,hu⟩:∃ u,u=(f (b:Int)).getD zN.z:=⟨_,rfl⟩
     rw [<- hu] at hlk
     have hlk2:(Instr.lookup 251 (.map (some w.heap.size)) (.int .i64 (b:Int)) false).run prog wr=.ok (.bool u) wr:=hlk
     have J5:u=true↔(b:Int)∈l':=by
      rw [<- hf,hu]
      cases hfb:f (b:Int) with
      | none=>simp;decide
      | some t=>simp
     clear hlk hb hu
     have IU:=lh hf;clear hf
     have SH:=lh S;clear S
     have d3:(0:Int)<=j:=by omega
     have d4:(j:Int)<row.length:=by omega
     unfold xH at HT2
     rw [Int.toNat_natCast] at HT2
     generalize ae X b=lv at *
     by_cases hlv:lv<0
     ·have d5:decide (lv<0)=true:=by simpa using hlv
      cases u with
      | true =>
       have hmem:=J5.1 rfl
       rw [if_neg (fun h=>h.2 hmem)] at HT2
       clear J5 hmem
       go_wp2
       go_roundw
       case rel=>exact⟨j+1,l',q,c,mm,f,by omega,by go_num,rfl,HT2.out.symm,I8,SH.out,IU.out⟩
       case measure=>simp [intOf];omega
      | false =>
       have hmem:(b:Int) ∉ l':=fun h=>by have:=J5.2 h;cases this
       rw [if_pos ⟨hlv,hmem⟩] at HT2
       clear J5 hmem
       go_wp2_with (first
        | (at_mapUpdate;go_must (refine bq rfl _ _ _ _ rfl underlying3 underlying251 rfl SH.out 1 rfl (by omega) (b:Int) true rfl rfl HI.out ?_;intro w1 S1 hg;have S2:=lh S1;clear S1 hg))
        | (at_builtin;go_must (refine am rfl _ _ _ rfl 3 i0 _ 1 8 underlying25 hi0 hz0 hz1 hz2 rfl (by omega) (S2.out.junk _) 0 q l'.length c _ rfl rfl _ 1 1 _ rfl (Rd.oneI _ _ _) (bN _) (by omega) (by omega) ?_;intro q' c' w3 S' hsz;have S3:=lh S';clear S' hsz)))
       go_roundw
       case rel=>exact⟨j+1,l' ++ [(b:Int)],q',c',mm+1,_,by omega,by go_num,by rw [List.length_append];rfl,HT2.out.symm,by rw [List.length_append];simp;omega,by rw [List.length_append,b9];exact S3.out,fun x=>by
        rw [List.mem_append,List.mem_singleton,<- IU.out x]
        unfold zy
        by_cases e:x=(b:Int) <;> simp [e]⟩
       case measure=>simp [intOf];omega
     ·have d5:decide (lv<0)=false:=by simpa using hlv
      rw [if_neg (fun h=>hlv h.1)] at HT2
      clear J5 hlk2
      go_wp2
      go_roundw
      case rel=>exact⟨j+1,l',q,c,mm,f,by omega,by go_num,rfl,HT2.out.symm,I8,SH.out,IU.out⟩
      case measure=>simp [intOf];omega
    ·obtain rfl:j=row.length:=by omega
     rw [List.take_length,<- HT.out] at hl'
     have TQ:=lh hl';clear hl'
     have IU:=lh hf;clear hf
     have SH:=lh S;clear S
     go_wp2
     go_roundw
     case rel=>exact⟨k+1,l',q,c,mm,f,by omega,by go_num,rfl,TQ.out,I8,SH.out,IU.out⟩
     case measure=>simp [intOf];omega
  ·obtain rfl:k=m:=by omega
   rw [List.take_of_length_le (by rw [<- L1.out];omega)] at hL
   subst hL
   have SH:=lh S;clear S
   clear hf
   go_wp2
   go_ret
   exact⟨q,c,rfl,SH.out.pick [0] (by decide) rfl⟩
end
theorem v4 {α:Type} {Γ:List α} {i j:Nat} {p q:α} (h:Γ[i]?=some p) (hne:i≠j):(Γ.set j q)[i]?=some p:=by
 rw [List.getElem?_set_ne (fun e=>hne e.symm)];exact h
theorem kq {α:Type} {Γ:List α} {j:Nat} {p q:α} (h:Γ[j]?=some p):(Γ.set j q)[j]?=some q:=List.getElem?_set_self (List.getElem?_eq_some_iff.1 h).1
theorem DY {w0 w:World} {Γ:List Pc} (i j:Nat) (gs Og gr n:Nat) (ql:Option Addr) (cl:Nat) (X:List Int) (qf:Option Addr) (mf cf:Nat) (F:List Int) (qm:Option Addr) (m cm:Nat) (L:List Int) (S:Ic w0 w Γ)
  (hij:i≠j) (hi:Γ[i]?=some (.blk gs 288 #[.func (.func Og) #[] #[.pointer (some ⟨gr,0,none⟩)],.slice ql n cl,.slice qf mf cf])) (hj:Γ[j]?=some (.own 3 1 ql n cl (ab X))) (hf:∀ W Y,Ic w0 W (Γ.set j (.own 3 1 ql n cl Y))->Rd W 1 qf mf (ab F)) (hp:∀ W Y,Ic w0 W (Γ.set j (.own 3 1 ql n cl Y))->Rd W 1 qm m (ab L))
  (hn:n<=200) (YE:0<mf) (YF:mf<=200) (hm:m<=200) (hF:0<=ae F 0/\ae F 0<n) (hL:∀ x∈L,0<=x/\x<n) (hne:ae F 0 ∉ L) (c:Int) (hc:ae X (ae F 0).toNat=c) (hc0:0<=c/\c<=1000) :
  Calls prog 182 #[.pointer (some ⟨gs,0,none⟩),.slice qm m cm] w fun e w'=>(∃ v,e=.returned v)/\Ic w0 w' ((Γ.set j (.own 3 1 ql n cl (ab (ut (c+1) L X)))).set i (.blk gs 288 #[.func (.func Og) #[] #[.pointer (some ⟨gr,0,none⟩)],.slice ql n cl,.slice qm m cm])):=by
 have LX:X.length=n:=by have:=(S.rd j hj (by omega)).nI;omega
 have e0:Γ.set j (.own 3 1 ql n cl (ab X))=Γ:=by
  apply List.ext_getElem?
  intro t
  by_cases e:j=t
  ·subst e;rw [kq hj,hj]
  ·rw [List.getElem?_set_ne e]
 have LL:L.length=m:=by have:=(hp w (ab X) (by rw [e0];exact S)).nI;omega
 have Zv:=lh LX
 have V5:=lh LL
 have HL:=lh hL
 obtain⟨a,ha⟩:∃ a:Nat,ae F 0=(a:Int):=⟨(ae F 0).toNat,by omega⟩
 have HA:Hid (∀ k,ae (ut (c+1) (L.take k) X) a=c):=fun k=>by
  rw [ni (fun x hx=>by have:=hL x (List.mem_of_mem_take hx);rw [LX];omega),if_neg (fun h=>hne (by rw [ha];exact List.mem_of_mem_take h))]
  rw [ha,Int.toNat_natCast] at hc;exact hc
 have Xh:=lh ha
 rw [ha] at hF
 clear hL hne hc LX LL ha
 go_enter func182,ntmps182
 go_wp2
 go_loopw [5,8] (fun _ i wr=>∃ k:Nat,k<=m/\i=.int .i64 k/\Ic w0 wr (Γ.set j (.own 3 1 ql n cl (ab (ut (c+1) (L.take k) X))))) (fun _ i _=>m - (intOf i).toNat)
 case atStart=>exact⟨0,Nat.zero_le _,rfl,by show Ic w0 w (Γ.set j (.own 3 1 ql n cl (ab X)));rw [e0];exact S⟩
 case round =>
  obtain⟨k,hk,rfl,S1⟩:=hrel
  obtain⟨az,a0,a1,a2⟩:=eh (S1.blk i (v4 hi hij))
  have po:=(S1.rd j (kq hj) (by omega)).ptr
  have pl:=(hp _ _ S1).ptr
  have pf:=(hf _ _ S1).ptr
  by_cases hlt:k<m
  ·have I7:k<L.length:=by rw [V5.out];exact hlt
   have g1:=(hp _ _ S1).cI hlt
   have g2:=(hf _ _ S1).cI YE
   have g3:=(S1.rd j (kq hj) (by omega)).cI (k:=a) (by omega)
   rw [HA.out] at g3
   rw [Xh.out] at g2
   obtain⟨f1,f2⟩:=HL.out _ (aY I7)
   obtain⟨b,hb⟩:∃ b:Nat,ae L k=(b:Int):=⟨(ae L k).toNat,by omega⟩
   have HT:=lh (o6 (c:=c+1) (X:=X) I7)
   rw [hb] at g1 f1 f2 HT
   rw [Int.toNat_natCast] at HT
   clear hb
   have d1:(0:Int)<=k:=by omega
   have d2:(k:Int)<m:=by omega
   have d3:(0:Int)<mf:=by omega
   have d4:(a:Int)<n:=by omega
   have d5:(0:Int)<=a:=by omega
   have SH:=lh S1;clear S1
   go_wp2
   have x1:=fun x:Ie wr=>x.ext.cell a1
   have x2:=fun x:Ie wr=>x.ext.cell a2
   have x4:=fun x:Ie wr=>x.ext.cell g2
   have x5:=fun x:Ie wr=>x.ext.cell g3
   refine aT [true,true,true,true,true,true,true,true,true,true,true,true,true,true,true,true,true,true,true] (fun _ _ _=>True) (by kernel_rfl) (by kernel_rfl) (by kernel_rfl) (fun _ _ _ _ _ h=>h) ?_
   simp only [pJ]
   repeat (go_big_quiet_step ((fail)))
   refine wpQuiet_nil ⟨trivial,fun vs W1 hE _=>?_⟩
   have S2:=SH.out.call hE
   have Zb:=(S2.rd j (kq hj) (by omega)).ptr
   have Q3:=aA (S2.own j (kq hj)) (by omega) b
   have k1:=bU (S2.own j (kq hj)) (k:=b) (by omega)
   have S3:=lh (S2.setRow j (kq hj) b (by omega) (.int .i64 (c+1)))
   clear S2 x1 x2 x4 x5 g1 g2 g3 a0 a1 a2 az
   simp only [b8,List.length_cons,List.length_nil,Nat.zero_add,Nat.reduceAdd,List.drop_succ_cons,List.drop_zero]
   go_wp2
   go_roundw
   case rel=>exact⟨k+1,by omega,by go_num,by rw [HT.out,<- dm];have:=S3.out;rw [List.set_set] at this;exact this⟩
   case measure=>simp [intOf];omega
  ·obtain rfl:k=m:=by omega
   rw [List.take_of_length_le (by rw [V5.out];exact Nat.le_refl _)] at S1
   have ZM:=(S1.blk i (v4 hi hij)).frozen 2
   have SH:=lh S1;clear S1
   go_wp2
   go_end0
   exact⟨⟨_,rfl⟩,SH.out.set i (v4 hi hij) 2 (.slice qm k cm)⟩
theorem F8 (fa fb gr ga gb n:Nat) (qa:Option Addr) (ca:Nat) (X:List Int) (pa:Option Addr) (ma da:Nat) (qb:Option Addr) (cb:Nat) (Y:List Int) (pb:Option Addr) (mb db:Nat) (w:World)
  (hA:Ih w ga 288 #[.func (.func fa) #[] #[.pointer (some ⟨gr,0,none⟩)],.slice qa n ca,.slice pa ma da]) (hB:Ih w gb 288 #[.func (.func fb) #[] #[.pointer (some ⟨gr,0,none⟩)],.slice qb n cb,.slice pb mb db]) (hX:Rd w 1 qa n (ab X)) (hY:Rd w 1 qb n (ab Y)) (hn:n<=200)
  (bX:∀ v,v<n->ae X v<=1000) (bY:∀ v,v<n->ae Y v<=1000) :
  Calls prog 180 #[.agg #[.pointer (some ⟨ga,0,none⟩),.pointer (some ⟨gb,0,none⟩)]] w fun e w'=>e=.returned (.tuple #[.int .i64 (eQ X Y n).1,.bool (eQ X Y n).2])/\Ext w w':=by
 have p1:=hX.ptr
 have p2:=hY.ptr
 have S0:=lh ((Ic.start w).al #[.pointer (some ⟨ga,0,none⟩),.pointer (some ⟨gb,0,none⟩)] 160 w.heap.size rfl)
 have HA:=lh hA;clear hA
 have HB:=lh hB;clear hB
 have HX:=lh hX;clear hX
 have HY:=lh hY;clear hY
 have BX:=lh bX;clear bX
 have BY:=lh bY;clear bY
 have az:=(HA.out.ext S0.out.ext).lt;have a0:=(HA.out.ext S0.out.ext).cell 0;have a1:=(HA.out.ext S0.out.ext).cell 1;have a2:=(HA.out.ext S0.out.ext).cell 2
 obtain⟨c0,c1,cz⟩:=aH (S0.out.blk 0 rfl)
 go_enter func180,ntmps180
 go_wp2
 go_loopw [4,5,6,7,8,15] (fun m o _ _ _ i wr=>∃ k:Nat,k<=n/\i=.int .i64 k/\m=.int .i64 (eQ X Y k).1/\o=.bool (eQ X Y k).2/\Ic w wr [.blk w.heap.size 160 #[.pointer (some ⟨ga,0,none⟩),.pointer (some ⟨gb,0,none⟩)]]) (fun _ _ _ _ _ i _=>n - (intOf i).toNat)
 case atStart=>exact⟨0,Nat.zero_le _,rfl,rfl,rfl,S0.out⟩
 case round =>
  clear S0 a0 a1 a2 az c0 c1 cz
  obtain⟨k,hk,rfl,rfl,rfl,S⟩:=hrel
  by_cases hlt:k<n
  ·have az:=(HA.out.ext S.ext).lt;have a0:=(HA.out.ext S.ext).cell 0;have a1:=(HA.out.ext S.ext).cell 1;have a2:=(HA.out.ext S.ext).cell 2
   have bz:=(HB.out.ext S.ext).lt;have b0:=(HB.out.ext S.ext).cell 0;have b1:=(HB.out.ext S.ext).cell 1;have b2:=(HB.out.ext S.ext).cell 2
   obtain⟨c0,c1,cz⟩:=aH (S.blk 0 rfl)
   have g1:=S.ext.cell (HX.out.cI hlt)
   have g2:=S.ext.cell (HY.out.cI hlt)
   have HS:=lh (nD X Y k)
   have b1:=BX.out k hlt
   have b2:=BY.out k hlt
   unfold wB at HS
   generalize eQ X Y k=s at *
   obtain⟨m,o⟩:=s
   simp only at HS ⊢
   generalize ae X k=x at *
   generalize ae Y k=y at *
   have d1:(0:Int)<=k:=by omega
   have d2:(k:Int)<n:=by omega
   have SH:=lh S;clear S
   by_cases hx:0<=x
   ·have e1:decide (0<=x)=true:=by simpa using hx
    by_cases hy:0<=y
    ·have e2:decide (0<=y)=true:=by simpa using hy
     cases o with
     | false =>
      rw [if_pos ⟨hx,hy,.inl rfl⟩] at HS
      go_wp2
      go_roundw
      case rel=>exact⟨k+1,by omega,by go_num,by rw [HS.out],by rw [HS.out],SH.out⟩
      case measure=>simp [intOf];omega
     | true =>
      by_cases hm:x+y<m
      ·have e3:decide (x+y<m)=true:=by simpa using hm
       rw [if_pos ⟨hx,hy,.inr hm⟩] at HS
       go_wp2
       go_roundw
       case rel=>exact⟨k+1,by omega,by go_num,by rw [HS.out],by rw [HS.out],SH.out⟩
       case measure=>simp [intOf];omega
      ·have e3:decide (x+y<m)=false:=by simpa using hm
       rw [if_neg (by rintro⟨_,_,h | h⟩;cases h;exact hm h)] at HS
       go_wp2
       go_roundw
       case rel=>exact⟨k+1,by omega,by go_num,by rw [HS.out],by rw [HS.out],SH.out⟩
       case measure=>simp [intOf];omega
    ·have e2:decide (0<=y)=false:=by simpa using hy
     rw [if_neg (fun h=>hy h.2.1)] at HS
     go_wp2
     go_roundw
     case rel=>exact⟨k+1,by omega,by go_num,by rw [HS.out],by rw [HS.out],SH.out⟩
     case measure=>simp [intOf];omega
   ·have e1:decide (0<=x)=false:=by simpa using hx
    rw [if_neg (fun h=>hx h.1)] at HS
    go_wp2
    go_roundw
    case rel=>exact⟨k+1,by omega,by go_num,by rw [HS.out],by rw [HS.out],SH.out⟩
    case measure=>simp [intOf];omega
  ·obtain rfl:k=n:=by omega
   have SH:=lh S;clear S
   go_wp2
   go_ret2
   exact⟨rfl,SH.out.ext⟩
section
open Go Go.RowKit
theorem Ic.freshMany {w0 w w':World} {Γ:List Pc} {e:TypeId} {size:Nat} {rows:List (Hd × List Value)} (S:Ic w0 w Γ) (h:Ext w w') (ho:∀ r∈rows,w'.ownsRow w.heap.size e size (.slice r.1.p r.1.n r.1.c) r.1.n r.2):Ic w0 w' (.many e size rows :: Γ) :=
 S.comp (Δ:=[.many e size rows]) ⟨h,fun p hp=>by rw [List.mem_singleton] at hp;subst hp;exact fun r hr=>aP (ho r hr) (Nat.zero_le _),fun p hp k hk=>by
  rw [List.mem_singleton] at hp;subst hp
  obtain⟨r,hr,hk⟩:=hk
  exact(oH (ho r hr) hk).1,List.pairwise_singleton _ _⟩
theorem Ic.rdMany {w0 w:World} {Γ:List Pc} (S:Ic w0 w Γ) (j:Nat) {e:TypeId} {size:Nat} {rows:List (Hd × List Value)} (hj:Γ[j]?=some (.many e size rows)) {r:Hd × List Value} (hr:r∈rows) (hs:r.1.n<=9223372036854775807):Rd w size r.1.p r.1.n r.2:=Rd.of_own (S.manyAt j hj r hr) hs
section
variable {nx nb:Nat->List Int} {n s t:Nat} (h:Ab nx nb n) (hs:s<n) (ht:t<n)
include h hs ht in
theorem AZ {k:Nat} (h0:0<=ay nx n s t) (hm:eW n (ay nx n s) (ay nb n t) k=false):gy n (ay nx n s) ((k:Int)+1)=true/\gy n (ay nb n t) ((k:Int)+1)=true/\2*(k:Int)<ay nx n s t:=by
 have h2:2*(k:Int)<ay nx n s t:=by
  have:=mt (ig h hs ht (k:=k)).2 (by rw [hm];simp);omega
 refine⟨?_,?_,h2⟩
 ·obtain⟨v,hv,g1,_⟩:=gK h hs ht (j:=k+1) h0 (by omega)
  exact dt.2 ⟨v,hv,by omega⟩
 ·obtain⟨v,hv,_,g1⟩:=gK h hs ht (j:=(ay nx n s t).toNat - (k+1)) h0 (by omega)
  exact dt.2 ⟨v,hv,by omega⟩
end
def ww (b:Nat) (x y:List Int) (i:Nat) (v:Value) (W:World):Prop :=
 match i with
 | 2=>∃ q c,v=.slice q x.length c/\W.ownsRow b 3 1 (.slice q x.length c) x.length (ab x)
 | 5=>∃ q c,v=.slice q y.length c/\W.ownsRow b 3 1 (.slice q y.length c) y.length (ab y)
 | _=>True
theorem uN {b:Nat} {x y:List Int}:∀ i v W W',Ext W W'->ww b x y i v W->ww b x y i v W':=by
 intro i v W W' he h
 unfold ww at *
 split at h <;> first | trivial | (obtain⟨q,c,h1,h2⟩:=h;exact⟨q,c,h1,he.own h2⟩)
theorem Hl (po:Option Addr) (no co:Nat) (O:List Int) (pt:Option Addr) (nt ct:Nat) (T:List Int) (pr:Option Addr) (nr cr:Nat) (R:List Int) (pv:Option Addr) (nv cv:Nat) (V:List Int) (gr ga gb n s t:Nat) (qa qb Jb Jc:Option Addr) (w0 w:World) (hO:Rd w0 1 po no (ab O)) (hT:Rd w0 1 pt nt (ab T)) (hR:Rd w0 1 pr nr (ab R)) (hV:Rd w0 1 pv nv (ab V)) (hct:nt<=ct) (hcv:nv<=cv) (hck:ai O T R V=true) (hno:O.length=n+1) (hs:s<n) (ht:t<n)
  (S:Ic w0 w [.blk gb 288 #[.func (.func 178) #[] #[.pointer (some ⟨gr,0,none⟩)],.slice qb n n,.slice Jc 1 1],.own 3 1 Jc 1 1 (ab [(t:Int)]),.own 3 1 qb n n (ab (kC n t)),.blk ga 288 #[.func (.func 177) #[] #[.pointer (some ⟨gr,0,none⟩)],.slice qa n n,.slice Jb 1 1],.own 3 1 Jb 1 1 (ab [(s:Int)]),.own 3 1 qa n n (ab (kC n s)),.blk gr 27 #[.slice po no co,.slice pt nt ct,.slice pr nr cr,.slice pv nv cv]]) :
  Calls prog 113 #[.agg #[.pointer (some ⟨ga,0,none⟩),.pointer (some ⟨gb,0,none⟩)]] w fun e w'=>e=.returned (.tuple #[.int .i64 (oW n (ay (aD O T) n s) (ay (aD R V) n t)),.int .i64 (ey (ay (aD O T) n s t)),.bool (ei (ay (aD O T) n s t))])/\Ext w0 w':=by
 obtain⟨e1,e2,e3,e4⟩:=aK hck
 have r3:=aQ (aI e3)
 have hn:n<=200:=by omega
 have KG:Hid (Ab (aD O T) (aD R V) n):=by have:=rY hck false;rw [hno] at this;exact this
 have TE:Hid (xy (aD O T) n):=by have:=sb e3;rw [hno] at this;exact this
 have TG:Hid (xy (aD R V) n):=by have:=sb e4;rw [<- e1,hno] at this;exact this
 have VO:=lh (fun W (h:Ext w0 W) (hB:Ih W gr 27 #[.slice po no co,.slice pt nt ct,.slice pr nr cr,.slice pv nv cv]) k (hk:k<n)=>De po no co O pt nt ct T pr nr cr R pv nv cv V gr k W (hO.ext h) (hT.ext h) (cJ (aI e3)) hct (by omega) hB)
 have VP:=lh (fun W (h:Ext w0 W) (hB:Ih W gr 27 #[.slice po no co,.slice pt nt ct,.slice pr nr cr,.slice pv nv cv]) k (hk:k<n)=>Df po no co O pt nt ct T pr nr cr R pv nv cv V gr k W (hR.ext h) (hV.ext h) (cJ (aI e4)) hcv (by omega) hB)
 have S0:=lh ((((((S.many0 3 1).pick [5,0,1,2,3,4,6,7] (by decide) rfl).gather).pick [2,0,1,3,4,5,6] (by decide) rfl).gather.al #[.pointer (some ⟨ga,0,none⟩),.pointer (some ⟨gb,0,none⟩)] 160 w.heap.size rfl).pick [1,2,3,4,5,6,0] (by decide) rfl)
 clear S hO hT hR hV hct hcv hck e1 e2 e3 e4 r3 hno
 have Ug:=DF (nx:=aD O T) hs
 have Uh:=DF (nx:=aD R V) ht
 generalize aD O T=na at *
 generalize aD R V=nb at *
 go_enter func113,ntmps113
 go_wp2
 go_step3
 go_wp2
 go_step3
 go_wp2
 go_loopw [2,3,4,5,6] (fun i _ _ _ _ wr=>∃ (k:Nat) (Fa Fb:List Int) (Lb Ku:Option Addr) (KM Kq:Nat),k<n/\i=.int .i64 k/\cF (ay na n s) n k Fa/\cF (ay nb n t) n k Fb/\0<Fa.length/\0<Fb.length/\(0<=ay na n s t->2*(k:Int)<=ay na n s t+1)/\gc n (ay na n s) (ay nb n t) (n+1 - k) k=oW n (ay na n s) (ay nb n t)/\Ic w0 wr [.many 3 1 [(⟨Lb,Fa.length,KM⟩,ab Fa),(⟨Ku,Fb.length,Kq⟩,ab Fb)],.blk gb 288 #[.func (.func 178) #[] #[.pointer (some ⟨gr,0,none⟩)],.slice qb n n,.slice Ku Fb.length Kq],.own 3 1 qb n n (ab (bh (ay nb n t) n k)),.blk ga 288 #[.func (.func 177) #[] #[.pointer (some ⟨gr,0,none⟩)],.slice qa n n,.slice Lb Fa.length KM],.own 3 1 qa n n (ab (bh (ay na n s) n k)),.blk gr 27 #[.slice po no co,.slice pt nt ct,.slice pr nr cr,.slice pv nv cv],.blk w.heap.size 160 #[.pointer (some ⟨ga,0,none⟩),.pointer (some ⟨gb,0,none⟩)]]) (fun i _ _ _ _ _=>n - (intOf i).toNat)
 case atStart=>exact⟨0,[(s:Int)],[(t:Int)],Jb,Jc,1,1,by omega,rfl,mY hs,mY ht,by simp,by simp,fun h=>by omega,rfl,by rw [show ((0:Nat):Int)=0 from rfl,Ug,Uh];exact S0.out⟩
 case round =>
  clear S0
  obtain⟨k,Fa,Fb,Lb,Ku,KM,Kq,hkn,rfl,Mo,J3,la,lb,hD,hst,S⟩:=hrel
  have V9:=S.rdMany 0 rfl (r:=(⟨Lb,Fa.length,KM⟩,ab Fa)) (by simp) (by have:=bo (n:=n) Mo.1 (fun x hx=>by have:=(Mo.2 x).1 hx;omega);simp only;omega)
  have Wd:=S.rdMany 0 rfl (r:=(⟨Ku,Fb.length,Kq⟩,ab Fb)) (by simp) (by have:=bo (n:=n) J3.1 (fun x hx=>by have:=(J3.2 x).1 hx;omega);simp only;omega)
  have YU:=bo (n:=n) Mo.1 (fun x hx=>by have:=(Mo.2 x).1 hx;omega)
  have YV:=bo (n:=n) J3.1 (fun x hx=>by have:=(J3.2 x).1 hx;omega)
  have JB:=lh (F8 177 178 gr ga gb n qa n (bh (ay na n s) n k) Lb Fa.length KM qb n (bh (ay nb n t) n k) Ku Fb.length Kq wr (S.blk 3 rfl) (S.blk 1 rfl) (S.rd 4 rfl (by omega)) (S.rd 2 rfl (by omega)) hn
   (fun v hv=>by rw [bw hv];unfold sn;split <;> omega) (fun v hv=>by rw [bw hv];unfold sn;split <;> omega))
  obtain⟨BY,BN⟩:=Au KG.out hs ht hD
  obtain⟨pz,p0,p1⟩:=CL (S.blk 6 rfl)
  cases hm:eW n (ay na n s) (ay nb n t) k with
  | true =>
   rw [BY hm] at JB
   have hd:=(ig KG.out hs ht).1 hm
   have hdn:Hid (ey (ay na n s t)=ay na n s t/\ei (ay na n s t)=true):=by
    unfold Hid ey ei;rw [if_pos hd.1];exact⟨rfl,by simpa using hd.1⟩
   have K6:Hid (oW n (ay na n s) (ay nb n t)=k):=by
    unfold Hid
    rw [<- hst,show n+1 - k=(n - k)+1 by omega];exact ur hm
   obtain⟨D,hDe⟩:∃ D,D=ay na n s t:=⟨_,rfl⟩
   rw [<- hDe] at JB
   have UF:=lh hDe
   have SH:=lh S;clear S
   clear BY BN hD hst hm hd Mo J3 la lb V9 Wd YU YV VO VP KG TE TG Ug Uh hDe
   go_wp2_with (go_at_call 180;go_must (refine JB.out.mono ?_;rintro e w1 ⟨rfl,hb⟩;have S1:=lh (SH.out.call hb);clear hb))
   rw [Exit.noGoto_ret]
   go_ret3
   exact⟨by rw [K6.out,hdn.out.1,hdn.out.2,<- UF.out];rfl,S1.out.ext⟩
  | false =>
   rw [BN hm] at JB
   have HX:=lh (iC hs TE.out Mo (X:=bh (ay na n s) n k) (fun v hv=>by rw [bw hv];exact rN))
   have HY:=lh (iC ht TG.out J3 (X:=bh (ay nb n t) n k) (fun v hv=>by rw [bw hv];exact rN))
   have hm':=lh hm
   have hst':=lh hst
   have hD':=lh hD
   have BA:=lh (fun x hx=>⟨((Mo.2 x).1 hx).1,((Mo.2 x).1 hx).2.1⟩:∀ x∈Fa,0<=x/\x<n)
   have BB:=lh (fun x hx=>⟨((J3.2 x).1 hx).1,((J3.2 x).1 hx).2.1⟩:∀ x∈Fb,0<=x/\x<n)
   have Xe:=lh Mo
   have Xf:=lh J3
   have SH:=lh S;clear S
   clear BY BN hD hst hm Mo J3 V9 Wd Ug Uh
   go_wp2_with (go_at_call 180;go_must (refine JB.out.mono ?_;rintro e w1 ⟨rfl,hb⟩;have S1:=lh (SH.out.call hb);clear hb))
   have HA1:=lh (fun W (h:Ext w1 W)=>Et ga gr n qa n (bh (ay na n s) n k) Lb Fa.length KM Fa na W ((S1.out.blk 3 rfl).ext h) ((S1.out.rd 4 rfl (by omega)).ext h) ((S1.out.rdMany 0 rfl (r:=(⟨Lb,Fa.length,KM⟩,ab Fa)) (by simp) (by simp only;omega)).ext h) hn BA.out TE.out (VO.out W (Ext.trans S1.out.ext h) ((S1.out.blk 5 rfl).ext h)))
   have HA2:=lh (fun W (h:Ext w1 W)=>Eu gb gr n qb n (bh (ay nb n t) n k) Ku Fb.length Kq Fb nb W ((S1.out.blk 1 rfl).ext h) ((S1.out.rd 2 rfl (by omega)).ext h) ((S1.out.rdMany 0 rfl (r:=(⟨Ku,Fb.length,Kq⟩,ab Fb)) (by simp) (by simp only;omega)).ext h) hn BB.out TG.out (VP.out W (Ext.trans S1.out.ext h) ((S1.out.blk 5 rfl).ext h)))
   generalize lJ na (bh (ay na n s) n k) Fa []=x at *
   generalize lJ nb (bh (ay nb n t) n k) Fb []=y at *
   have lx:=bo (n:=n) HX.out.1 (fun v hv=>by have:=(HX.out.2 v).1 hv;omega)
   have ly:=bo (n:=n) HY.out.1 (fun v hv=>by have:=(HY.out.2 v).1 hv;omega)
   obtain⟨q0,q1⟩:=nF (S1.out.blk 6 rfl)
   clear JB SH
   have y0:=fun x:Ie w1=>x.ext.cell q0
   have y1:=fun x:Ie w1=>x.ext.cell q1
   refine aT [true,true,false,true,true,false] (ww w1.heap.size x y) (by kernel_rfl) (by kernel_rfl) (by kernel_rfl) uN ?_
   simp only [pJ]
   repeat (go_big_quiet_step ((fail)))
   refine wpQuiet_nil ⟨⟨fun vs W1 hE hd=>?_,fun vs W1 hE hd=>?_,trivial⟩,fun vs W1 hE hkn=>?_⟩
   ·simp [b8,go_sem]
    exact(HA1.out _ hE).mono fun e w' ⟨q,c,h1,S⟩=>⟨_,h1,⟨q,c,rfl,aP (S.own 0 rfl) hE.size⟩,S.ext⟩
   ·simp [b8,go_sem]
    exact(HA2.out _ hE).mono fun e w' ⟨q,c,h1,S⟩=>⟨_,h1,⟨q,c,rfl,aP (S.own 0 rfl) hE.size⟩,S.ext⟩
   obtain⟨⟨qx,cx,k1,ox⟩,⟨qy,cy,k2,oy⟩,_⟩:=hkn
   have S2:=lh (S1.out.freshMany hE (rows:=[(⟨qx,x.length,cx⟩,ab x),(⟨qy,y.length,cy⟩,ab y)]) (fun r hr=>by
    simp only [List.mem_cons,List.not_mem_nil,or_false] at hr
    rcases hr with rfl | rfl
    ·exact ox
    ·exact oy))
   simp only [b8,k1,k2,List.length_cons,List.length_nil,Nat.zero_add,Nat.reduceAdd,List.drop_succ_cons,List.drop_zero]
   clear y0 y1 k1 k2 ox oy hE q0 q1 HA1 HA2 S1
   obtain⟨r0,r1,rz⟩:=aH (S2.out.blk 7 rfl)
   have J8:Hid (x.length=0\/y.length=0->oW n (ay na n s) (ay nb n t)=k/\ey (ay na n s t)=0/\ei (ay na n s t)=false):=fun h0=>by
    have hno:¬ (gy n (ay na n s) ((k:Int)+1)=true/\gy n (ay nb n t) ((k:Int)+1)=true):=by
     rintro⟨g1,g2⟩
     have g1:=(dF HX.out).1 g1
     have g2:=(dF HY.out).1 g2
     omega
    have hneg:ay na n s t<0:=by
     apply Classical.byContradiction
     intro hge
     have:=AZ KG.out hs ht (by omega) hm'.out
     exact hno ⟨this.1,this.2.1⟩
    refine⟨?_,?_,?_⟩
    ·have h1:=hst'.out
     rw [show n+1 - k=(n - k)+1 by omega,wc hm'.out hno] at h1
     exact h1.symm
    ·unfold ey;rw [if_neg (by omega)]
    ·unfold ei;simp;omega
   by_cases hx0:x.length=0
   ·have c1:((x.length:Int) == 0)=true:=by simp [hx0]
    have HE:=lh (J8.out (.inl hx0))
    go_wp2
    rw [Exit.noGoto_ret]
    go_ret3
    exact⟨by rw [HE.out.1,HE.out.2.1,HE.out.2.2];rfl,S2.out.ext⟩
   ·have c1:((x.length:Int) == 0)=false:=by rw [beq_eq_false_iff_ne];omega
    by_cases hy0:y.length=0
    ·have c2:((y.length:Int) == 0)=true:=by simp [hy0]
     have HE:=lh (J8.out (.inr hy0))
     go_wp2
     rw [Exit.noGoto_ret]
     go_ret3
     exact⟨by rw [HE.out.1,HE.out.2.1,HE.out.2.2];rfl,S2.out.ext⟩
    ·have c2:((y.length:Int) == 0)=false:=by rw [beq_eq_false_iff_ne];omega
     clear J8
     have MI:=(Xe.out.2 _).1 (aY (l:=Fa) (k:=0) la)
     have MJ:=(Xf.out.2 _).1 (aY (l:=Fb) (k:=0) lb)
     have Ml:=lh (us HX.out)
     have VY:=lh (us HY.out)
     have T1:=lh (DY 4 5 ga 177 gr n qa n (bh (ay na n s) n k) Lb Fa.length KM Fa qx x.length cx x S2.out (by decide) rfl rfl
      (fun W Y S=>S.rdMany 1 rfl (r:=(⟨Lb,Fa.length,KM⟩,ab Fa)) (by simp) (by simp only;omega))
      (fun W Y S=>S.rdMany 0 rfl (r:=(⟨qx,x.length,cx⟩,ab x)) (by simp) (by simp only;omega))
      hn la (by omega) (by omega) ⟨MI.1,MI.2.1⟩ (fun v hv=>⟨((HX.out.2 v).1 hv).1,((HX.out.2 v).1 hv).2.1⟩) (fun h=>by have:=((HX.out.2 _).1 h).2.2;omega)
      (k:Int) (by rw [bw (by omega)];unfold sn;rw [if_pos (by omega)];exact MI.2.2) (by omega))
     rw [Ml.out] at T1
     have T2:=lh (fun (w2:World) (S:Ic w0 w2 [.many 3 1 [(⟨qx,x.length,cx⟩,ab x),(⟨qy,y.length,cy⟩,ab y)],.many 3 1 [(⟨Lb,Fa.length,KM⟩,ab Fa),(⟨Ku,Fb.length,Kq⟩,ab Fb)],.blk gb 288 #[.func (.func 178) #[] #[.pointer (some ⟨gr,0,none⟩)],.slice qb n n,.slice Ku Fb.length Kq],.own 3 1 qb n n (ab (bh (ay nb n t) n k)),.blk ga 288 #[.func (.func 177) #[] #[.pointer (some ⟨gr,0,none⟩)],.slice qa n n,.slice qx x.length cx],.own 3 1 qa n n (ab (bh (ay na n s) n (k+1:Nat))),.blk gr 27 #[.slice po no co,.slice pt nt ct,.slice pr nr cr,.slice pv nv cv],.blk w.heap.size 160 #[.pointer (some ⟨ga,0,none⟩),.pointer (some ⟨gb,0,none⟩)]]) =>
      DY 2 3 gb 178 gr n qb n (bh (ay nb n t) n k) Ku Fb.length Kq Fb qy y.length cy y S (by decide) rfl rfl
      (fun W Y S=>S.rdMany 1 rfl (r:=(⟨Ku,Fb.length,Kq⟩,ab Fb)) (by simp) (by simp only;omega))
      (fun W Y S=>S.rdMany 0 rfl (r:=(⟨qy,y.length,cy⟩,ab y)) (by simp) (by simp only;omega))
      hn lb (by omega) (by omega) ⟨MJ.1,MJ.2.1⟩ (fun v hv=>⟨((HY.out.2 v).1 hv).1,((HY.out.2 v).1 hv).2.1⟩) (fun h=>by have:=((HY.out.2 _).1 h).2.2;omega)
      (k:Int) (by rw [bw (by omega)];unfold sn;rw [if_pos (by omega)];exact MJ.2.2) (by omega))
     rw [VY.out] at T2
     clear Ml VY MI MJ
     have hk1:k+1<n:=vy hs ((dF HX.out).2 (by omega))
     have JL:Hid (0<=ay na n s t->2*((k+1:Nat):Int)<=ay na n s t+1):=fun h0=>by
      have:=(AZ KG.out hs ht h0 hm'.out).2.2;omega
     have XR:Hid (gc n (ay na n s) (ay nb n t) (n+1 - (k+1)) (k+1)=oW n (ay na n s) (ay nb n t)):=by
      unfold Hid
      rw [<- hst'.out,show n+1 - k=(n - k)+1 by omega,show n+1 - (k+1)=n - k by omega]
      exact(zs hm'.out ⟨(dF HX.out).2 (by omega),(dF HY.out).2 (by omega)⟩).symm
     go_wp2_with (first
      | (go_at_call 182;have _t:=S3;go_must (refine(T2.out _ S3.out).mono ?_;rintro e w3 ⟨⟨v2,rfl⟩,Z⟩;have S4:=lh ((Z.pick [0,2,3,4,5,6,7] (by decide) rfl):Ic w0 w3 [.many 3 1 [(⟨qx,x.length,cx⟩,ab x),(⟨qy,y.length,cy⟩,ab y)],.blk gb 288 #[.func (.func 178) #[] #[.pointer (some ⟨gr,0,none⟩)],.slice qb n n,.slice qy y.length cy],.own 3 1 qb n n (ab (bh (ay nb n t) n (k+1:Nat))),.blk ga 288 #[.func (.func 177) #[] #[.pointer (some ⟨gr,0,none⟩)],.slice qa n n,.slice qx x.length cx],.own 3 1 qa n n (ab (bh (ay na n s) n (k+1:Nat))),.blk gr 27 #[.slice po no co,.slice pt nt ct,.slice pr nr cr,.slice pv nv cv],.blk w.heap.size 160 #[.pointer (some ⟨ga,0,none⟩),.pointer (some ⟨gb,0,none⟩)]]);clear Z))
      | (go_at_call 182;go_must (refine T1.out.mono ?_;rintro e w2 ⟨⟨v1,rfl⟩,Z⟩;have S3:=lh (Z:Ic w0 w2 [.many 3 1 [(⟨qx,x.length,cx⟩,ab x),(⟨qy,y.length,cy⟩,ab y)],.many 3 1 [(⟨Lb,Fa.length,KM⟩,ab Fa),(⟨Ku,Fb.length,Kq⟩,ab Fb)],.blk gb 288 #[.func (.func 178) #[] #[.pointer (some ⟨gr,0,none⟩)],.slice qb n n,.slice Ku Fb.length Kq],.own 3 1 qb n n (ab (bh (ay nb n t) n k)),.blk ga 288 #[.func (.func 177) #[] #[.pointer (some ⟨gr,0,none⟩)],.slice qa n n,.slice qx x.length cx],.own 3 1 qa n n (ab (bh (ay na n s) n (k+1:Nat))),.blk gr 27 #[.slice po no co,.slice pt nt ct,.slice pr nr cr,.slice pv nv cv],.blk w.heap.size 160 #[.pointer (some ⟨ga,0,none⟩),.pointer (some ⟨gb,0,none⟩)]]);obtain⟨q0,q1,qz⟩:=aH (S3.out.blk 7 rfl);clear Z)))
     go_roundw
     case rel=>exact⟨k+1,x,y,qx,qy,cx,cy,hk1,by go_num,HX.out,HY.out,by omega,by omega,JL.out,XR.out,S4.out⟩
     case measure=>simp [intOf];omega
end
theorem yZ (po:Option Addr) (no co:Nat) (O:List Int) (pt:Option Addr) (nt ct:Nat) (T:List Int) (pr:Option Addr) (nr cr:Nat) (R:List Int) (pv:Option Addr) (nv cv:Nat) (V:List Int) (n s t:Nat) (w:World) (hO:Rd w 1 po no (ab O)) (hT:Rd w 1 pt nt (ab T)) (hR:Rd w 1 pr nr (ab R)) (hV:Rd w 1 pv nv (ab V)) (hct:nt<=ct) (hcv:nv<=cv) (hck:ai O T R V=true) (hno:O.length=n+1) (hs:s<n) (ht:t<n) :
  Calls prog 112 #[.agg #[.slice po no co,.slice pt nt ct,.slice pr nr cr,.slice pv nv cv],.int .i64 s,.int .i64 t] w fun e w'=>∃ gr ga gb qa qb Jb Jc,e=.returned (.tuple #[.agg #[.pointer (some ⟨ga,0,none⟩),.pointer (some ⟨gb,0,none⟩)],.int .i64 0]) /\
   Ic w w' [.blk gb 288 #[.func (.func 178) #[] #[.pointer (some ⟨gr,0,none⟩)],.slice qb n n,.slice Jc 1 1],.own 3 1 Jc 1 1 (ab [(t:Int)]),.own 3 1 qb n n (ab (kC n t)),.blk ga 288 #[.func (.func 177) #[] #[.pointer (some ⟨gr,0,none⟩)],.slice qa n n,.slice Jb 1 1],.own 3 1 Jb 1 1 (ab [(s:Int)]),.own 3 1 qa n n (ab (kC n s)),.blk gr 27 #[.slice po no co,.slice pt nt ct,.slice pr nr cr,.slice pv nv cv]]:=by
 have S0:=lh (((Ic.start w).al #[.slice po no co,.slice pt nt ct,.slice pr nr cr,.slice pv nv cv] 27 w.heap.size rfl).al #[.pointer none,.pointer none] 160 (w.heap.size+1) (by simp))
 have HC:=lh (fun W1 (h:Ext w W1)=>iV po no co O pt nt ct T pr nr cr R pv nv cv V W1 (hO.ext h) (hT.ext h) (hR.ext h) (hV.ext h) hct hcv)
 have l1:=hO.nI
 have r:=aQ (aI (aK hck).2.2.1)
 have hn:n<=200:=by omega
 rw [hck] at HC
 have UV:(no:Int)=(n:Int)+1:=by omega
 obtain rfl:no=n+1:=by omega
 have d1:decide ((s:Int)<0)=false:=by simp
 have d2:decide ((n:Int)<=s)=false:=by simp;omega
 have d3:decide ((t:Int)<0)=false:=by simp
 have d4:decide ((n:Int)<=t)=false:=by simp;omega
 have d5:decide (n<=s)=false:=by simp;omega
 have d6:decide (n<=t)=false:=by simp;omega
 have HB1:=lh (fun W=>At 177 w.heap.size n s W hs hn)
 have HB2:=lh (fun W=>At 178 w.heap.size n t W ht hn)
 clear hO hT hR hV hck l1 r hno UV
 go_enter func112,ntmps112
 go_wp2_with (first
  | (go_at_call 179;have _t:=S2;go_must (refine(HB2.out _).mono ?_;rintro e w3 ⟨gb,qb,Jc,rfl,Z⟩;have S3:=lh (S2.out.comp Z);obtain⟨qz,q0,q1,qf,qg⟩:=sR (S3.out.blk 6 rfl);clear Z))
  | (go_at_call 179;have _t:=S1;go_must (refine(HB1.out _).mono ?_;rintro e w2 ⟨ga,qa,Jb,rfl,Z⟩;have S2:=lh (S1.out.comp Z);clear Z))
  | (go_at_call 82;go_must (refine(HC.out _ S0.out.ext).mono ?_;rintro e w1 ⟨rfl,hb⟩;have S1:=lh (S0.out.call hb);clear hb)))
 have S7:=((S3.out.set 6 rfl 0 (.pointer (some ⟨ga,0,none⟩))).set 6 rfl 1 (.pointer (some ⟨gb,0,none⟩)))
 obtain⟨b0,b1⟩:=nF (S7.blk 6 rfl)
 refine bodyPost_ret (v:=.tuple #[.agg #[.pointer (some ⟨ga,0,none⟩),.pointer (some ⟨gb,0,none⟩)],.int .i64 0]) (by simp [results,results112,go_sem,b0,b1,sizeOf160,isAgg160]) rfl ⟨w.heap.size,ga,gb,qa,qb,Jb,Jc,rfl,?_⟩
 exact S7.pick [0,1,2,3,4,5,7] (by decide) rfl
theorem xw (po:Option Addr) (no co:Nat) (O:List Int) (pt:Option Addr) (nt ct:Nat) (T:List Int) (pr:Option Addr) (nr cr:Nat) (R:List Int) (pv:Option Addr) (nv cv:Nat) (V:List Int) (n s t:Nat) (w:World) (hO:Rd w 1 po no (ab O)) (hT:Rd w 1 pt nt (ab T)) (hR:Rd w 1 pr nr (ab R)) (hV:Rd w 1 pv nv (ab V)) (hct:nt<=ct) (hcv:nv<=cv) (hck:ai O T R V=true) (hno:O.length=n+1) (hs:s<n) (ht:t<n) :
  Calls prog 67 #[.agg #[.slice po no co,.slice pt nt ct,.slice pr nr cr,.slice pv nv cv],.int .i64 s,.int .i64 t] w fun e w'=>e=.returned (.tuple #[.int .i64 (ey (ay (aD O T) n s t)),.bool (ei (ay (aD O T) n s t)),.int .i64 0])/\Ext w w':=by
 have HO:=lh (fun W1 (h:Ext w W1)=>yZ po no co O pt nt ct T pr nr cr R pv nv cv V n s t W1 (hO.ext h) (hT.ext h) (hR.ext h) (hV.ext h) hct hcv hck hno hs ht)
 have S0:=lh ((Ic.start w).al #[.slice po no co,.slice pt nt ct,.slice pr nr cr,.slice pv nv cv] 27 w.heap.size rfl)
 have Ue:=lh (fun gr ga gb qa qb Jb Jc W1 S=>Hl po no co O pt nt ct T pr nr cr R pv nv cv V gr ga gb n s t qa qb Jb Jc w W1 hO hT hR hV hct hcv hck hno hs ht S)
 clear hO hT hR hV hck hno
 go_enter func67,ntmps67
 go_wp2_with (first
  | (go_at_call 113;go_must (refine(Ue.out gr ga gb qa qb Jb Jc _ ((S1.out.al #[.pointer (some ⟨ga,0,none⟩),.pointer (some ⟨gb,0,none⟩)] 160 w1.heap.size rfl).pick [1,2,3,4,5,6,7] (by decide) rfl)).mono ?_;rintro e w2 ⟨rfl,hb⟩;have HB:=lh hb;clear hb))
  | (go_at_call 112;go_must (refine(HO.out _ S0.out.ext).mono ?_;rintro e w1 ⟨gr,ga,gb,qa,qb,Jb,Jc,rfl,Z⟩;have S1:=lh (S0.out.comp Z);clear Z)))
 go_ret3
 exact⟨rfl,HB.out⟩
def D6 (O T R V:List Int) (L:List Po) (k f t:Int) (ws:List ByteArray) (rad most:Int) (b:Bool) (d:Int) (F:List (Int × Int)):Prop :=
 (k=1->b=ei (ay (aD O T) (O.length - 1) f.toNat t.toNat)/\d=ey (ay (aD O T) (O.length - 1) f.toNat t.toNat)/\F=[])/\(k=2->b=ei (ay (aD O T) (O.length - 1) f.toNat t.toNat)/\d=0/\F=[])/\(k=3->F=bV (eX true O T R V f L ws rad) most/\b=decide (0<F.length)/\d=0)
def Ck (O T R V:List Int) (L:List Po) (k f t:Int) (ws:List ByteArray) (rad most:Int) (b:Bool) (d:Int) (F:List (Int × Int)) (e:Int):Prop :=
 e=fe (ai O T R V) k f t ws rad most O.length/\(e≠0->b=false/\d=0/\F=[])/\(e=0->D6 O T R V L k f t ws rad most b d F)
theorem ka {O T R V:List Int} {k f t rad most:Int} {ws:List ByteArray} (h:fe (ai O T R V) k f t ws rad most O.length=0) :
  ai O T R V=true/\b7 k f t ws rad most ((O.length:Int) - 1)=0/\∃ n,O.length=n+1/\0<=f/\f<n /\
   ((k=1\/k=2)/\0<=t/\t<n\/k=3/\1<=ws.length/\ws.length<=8/\0<=rad/\rad<=200/\1<=most/\most<=100):=by
 have hck:ai O T R V=true:=by
  cases hc:ai O T R V with
  | true=>rfl
  | false=>rw [hc] at h;unfold fe at h;rw [if_neg (by simp)] at h;cases h
 have hq:b7 k f t ws rad most ((O.length:Int) - 1)=0:=by rw [hck] at h;unfold fe at h;rw [if_pos rfl] at h;exact h
 obtain⟨n,hn⟩:∃ n,O.length=n+1:=by
  obtain⟨e1,e2,e3,e4⟩:=aK hck
  obtain⟨r1,r2,r3,r4,r5,r6⟩:=aQ (aI e3)
  exact⟨O.length - 1,by omega⟩
 refine⟨hck,hq,n,hn,?_⟩
 have ho:=lK.1 hq
 by_cases h12:k=1\/k=2
 ·rw [oD h12,Bool.and_eq_true] at ho
  obtain⟨o1,o2⟩:=ho
  rw [oJ] at o1 o2
  exact⟨by omega,by omega,.inl ⟨h12,by omega,by omega⟩⟩
 ·by_cases h3:k=3
  ·subst h3
   rw [wR,Bool.and_eq_true,Bool.and_eq_true] at ho
   obtain⟨⟨o1,o2⟩,o3⟩:=ho
   rw [oJ] at o1
   unfold eV at o2
   unfold kV at o3
   simp only [Bool.and_eq_true,decide_eq_true_eq] at o2 o3
   exact⟨by omega,by omega,.inr ⟨rfl,by omega,by omega,by omega,by omega,by omega,by omega⟩⟩
  ·rw [ij h12 h3] at ho
   cases ho
theorem tN {O:List Int} {f rad:Int} {ws:List ByteArray} {n:Nat} (hn:O.length=n+1) (h0:0<=f) (h1:f<n) (hw:1<=ws.length) (hr:0<=rad):gL true O f ws rad=0:=by
 have hl:dV true O f=0:=by unfold dV;rw [if_pos rfl,if_pos (by rw [hn];omega)]
 unfold gL
 rw [hl,if_neg (by simp),if_neg (by omega)]
theorem xK {O T R V:List Int} {L:List Po} {k f t:Int} {ws:List ByteArray} {rad most:Int} {b b':Bool} {d d':Int} {F F':List (Int × Int)} (hk:k=1\/k=2\/k=3)
  (h:D6 O T R V L k f t ws rad most b d F) (h':D6 O T R V L k f t ws rad most b' d' F'):b=b'/\d=d'/\F=F':=by
 rcases hk with e | e | e
 ·obtain⟨a1,a2,a3⟩:=h.1 e
  obtain⟨c1,c2,c3⟩:=h'.1 e
  exact⟨by rw [a1,c1],by rw [a2,c2],by rw [a3,c3]⟩
 ·obtain⟨a1,a2,a3⟩:=h.2.1 e
  obtain⟨c1,c2,c3⟩:=h'.2.1 e
  exact⟨by rw [a1,c1],by rw [a2,c2],by rw [a3,c3]⟩
 ·obtain⟨a1,a2,a3⟩:=h.2.2 e
  obtain⟨c1,c2,c3⟩:=h'.2.2 e
  rw [<- a1] at c1
  subst c1
  exact⟨by rw [a2,c2],by rw [a3,c3],rfl⟩
theorem xM {O T R V:List Int} {L:List Po} {k f t:Int} {ws:List ByteArray} {rad most:Int} {b b':Bool} {d d':Int} {F F':List (Int × Int)} {e e':Int}
  (h:Ck O T R V L k f t ws rad most b d F e) (h':Ck O T R V L k f t ws rad most b' d' F' e'):b=b'/\d=d'/\F=F'/\e=e':=by
 have he:e=e':=by rw [h.1,h'.1]
 subst he
 by_cases h0:e=0
 ·have hk:k=1\/k=2\/k=3:=by
   obtain⟨_,_,n,_,_,_,h1⟩:=ka (h.1.symm.trans h0)
   omega
  obtain⟨a,c,g⟩:=xK hk (h.2.2 h0) (h'.2.2 h0)
  exact⟨a,c,g,rfl⟩
 ·obtain⟨a1,a2,a3⟩:=h.2.1 h0
  obtain⟨c1,c2,c3⟩:=h'.2.1 h0
  exact⟨by rw [a1,c1],by rw [a2,c2],by rw [a3,c3],rfl⟩
theorem Aq (po:Option Addr) (no co:Nat) (O:List Int) (pt:Option Addr) (nt ct:Nat) (T:List Int) (pr:Option Addr) (nr cr:Nat) (R:List Int) (pv:Option Addr) (nv cv:Nat) (V:List Int) (n s t gb:Nat) (w:World) (hO:Rd w 1 po no (ab O)) (hT:Rd w 1 pt nt (ab T)) (hR:Rd w 1 pr nr (ab R)) (hV:Rd w 1 pv nv (ab V)) (hct:nt<=ct) (hcv:nv<=cv) (hB:Ih w gb 27 #[.slice po no co,.slice pt nt ct,.slice pr nr cr,.slice pv nv cv]) (hck:ai O T R V=true) (hn:O.length=n+1) (hs:s<n) (ht:t<n) :
  Calls prog 66 #[.int .i64 s,.int .i64 t,.pointer (some ⟨gb,0,none⟩)] w fun e w'=>e=.returned (.tuple #[.int .i64 (ey (ay (aD O T) n s t)),.bool (ei (ay (aD O T) n s t)),.int .i64 0])/\Ext w w':=by
 have HD:=lh (xw po no co O pt nt ct T pr nr cr R pv nv cv V n s t w hO hT hR hV hct hcv hck hn hs ht)
 have b0:=hB.cell 0;have b1:=hB.cell 1;have b2:=hB.cell 2;have b3:=hB.cell 3;have bz:=hB.lt
 clear hB hO hT hR hV
 generalize ay (aD O T) n s t=X at *
 go_enter func66,ntmps66
 go_wp2_with (go_at_call 67;go_must (refine HD.out.mono ?_;rintro e w1 ⟨rfl,hb⟩;have HB:=lh hb;clear hb))
 go_ret3
 exact⟨rfl,HB.out⟩
theorem xL (k f t:Int) (pw:Option Addr) (nw cw:Nat) (ws:List ByteArray) (rad most:Int) (po:Option Addr) (no co:Nat) (O:List Int) (pt:Option Addr) (nt ct:Nat) (T:List Int) (pr:Option Addr) (nr cr:Nat) (R:List Int) (pv:Option Addr) (nv cv:Nat) (V:List Int) (pl:Option Addr) (nl cl:Nat) (hs:List Hd) (L:List Po) (gb gl:Nat) (w:World) (hO:Rd w 1 po no (ab O)) (hT:Rd w 1 pt nt (ab T)) (hR:Rd w 1 pr nr (ab R)) (hV:Rd w 1 pv nv (ab V)) (hct:nt<=ct) (hcv:nv<=cv) (hB:Ih w gb 27 #[.slice po no co,.slice pt nt ct,.slice pr nr cr,.slice pv nv cv]) (hBl:Ih w gl 28 #[.slice pl nl cl])
  (hL:IW w pl nl hs L) (hok:Io L) (hW:Rd w 1 pw nw (bg ws)) (hcw:nw<=cw) (hnw:nw<=100) (hck:ai O T R V=true) (hc:gL true O f ws rad=0) :
  Calls prog 68 #[.agg #[.int .i64 k,.int .i64 f,.int .i64 t,.slice pw nw cw,.int .i64 rad,.int .i64 most],.pointer (some ⟨gb,0,none⟩),.pointer (some ⟨gl,0,none⟩)] w fun e w'=>∃ q c',e=.returned (.tuple #[.slice q (eX true O T R V f L ws rad).length c',.int .i64 0])/\Ic w w' [.own 105 2 q (eX true O T R V f L ws rad).length c' (aj (eX true O T R V f L ws rad))]:=by
 have S0:=lh ((Ic.start w).al #[.int .i64 k,.int .i64 f,.int .i64 t,.slice pw nw cw,.int .i64 rad,.int .i64 most] 24 w.heap.size rfl)
 have HN:=lh (fun W (h:Ext w W)=>Em po no co O pt nt ct T pr nr cr R pv nv cv V pl nl cl hs L pw nw cw ws f rad W (hO.ext h) (hT.ext h) (hR.ext h) (hV.ext h) hct hcv (hL.ext h) hok (hW.ext h) hcw hnw)
 rw [hck,hc] at HN
 have b0:=hB.cell 0;have b1:=hB.cell 1;have b2:=hB.cell 2;have b3:=hB.cell 3;have bz:=hB.lt
 have l0:=hBl.cell 0
 have lz:=hBl.lt
 clear hB hO hT hR hV hBl hL hW hok
 generalize eX true O T R V f L ws rad=X at *
 go_enter func68,ntmps68
 go_wp2_with (go_at_call 69;go_must (refine(HN.out _ S0.out.ext).mono ?_;rintro e w1 ⟨q1,c1,rfl,Z⟩;have S1:=lh (S0.out.comp Z);clear Z))
 go_ret2
 exact⟨q1,c1,rfl,S1.out.pick [0] (by decide) rfl⟩
theorem D7 (k f t:Int) (pw:Option Addr) (nw cw:Nat) (_:List ByteArray) (rad most:Int) (po:Option Addr) (no co:Nat) (_:List Int) (pt:Option Addr) (nt ct:Nat) (_:List Int) (pr:Option Addr) (nr cr:Nat) (_:List Int) (pv:Option Addr) (nv cv:Nat) (_:List Int) (pl:Option Addr) (nl cl:Nat) (E:Int) (w:World) (hE:E≠0)
  (IK:∀ W,Ext w W->Calls prog 49 #[.agg #[.int .i64 k,.int .i64 f,.int .i64 t,.slice pw nw cw,.int .i64 rad,.int .i64 most],.agg #[.slice po no co,.slice pt nt ct,.slice pr nr cr,.slice pv nv cv]] W fun e w'=>e=.returned (.int .i64 E)/\Ext W w') :
  Calls prog 40 #[.agg #[.int .i64 k,.int .i64 f,.int .i64 t,.slice pw nw cw,.int .i64 rad,.int .i64 most],.agg #[.slice po no co,.slice pt nt ct,.slice pr nr cr,.slice pv nv cv],.slice pl nl cl] w (dO false 0 [] E w):=by
 have S0:=lh (((((Ic.start w).al #[.int .i64 k,.int .i64 f,.int .i64 t,.slice pw nw cw,.int .i64 rad,.int .i64 most] 24 w.heap.size rfl).al #[.slice po no co,.slice pt nt ct,.slice pr nr cr,.slice pv nv cv] 27 (w.heap.size+1) (by simp)).al #[.slice pl nl cl] 28 (w.heap.size+1+1) (by simp)).al #[.bool false,.int .i64 0,.slice none 0 0] 34 (w.heap.size+1+1+1) (by simp))
 have II:=lh IK
 have d1:decide (E=0)=false:=by simpa using hE
 have d2:(E == 0)=false:=by simpa using hE
 clear hE IK
 go_enter func40,ntmps40
 go_wp2_with (go_at_call 49;go_must (refine(II.out _ S0.out.ext).mono ?_;rintro e w1 ⟨rfl,hb⟩;have S1:=lh (S0.out.call hb);obtain⟨y0,y1,y2,yz,f0,f1,f2⟩:=ag (S1.out.blk 0 rfl);obtain⟨a0,a1,a2,a3,a4,a5,az⟩:=ao (S1.out.blk 3 rfl);clear hb))
 have S9:=lh (((S1.out.set 0 rfl 0 (.bool false)).set 0 rfl 1 (.int .i64 0)).set 0 rfl 2 (.slice none 0 0))
 obtain⟨x0,x1,x2⟩:=aw (S9.out.blk 0 rfl)
 refine bodyPost_ret (v:=.tuple #[.agg #[.bool false,.int .i64 0,.slice none 0 0],.int .i64 E]) (by simp [results,results40,go_sem,x0,x1,x2,sizeOf34,isAgg34]) rfl ?_
 exact bZ rfl S9.out.ext
theorem D8 (k f t:Int) (pw:Option Addr) (nw cw:Nat) (rad most:Int) (po:Option Addr) (no co:Nat) (_:List Int) (pt:Option Addr) (nt ct:Nat) (_:List Int) (pr:Option Addr) (nr cr:Nat) (_:List Int) (pv:Option Addr) (nv cv:Nat) (_:List Int) (pl:Option Addr) (nl cl:Nat) (b:Bool) (d:Int) (F:List (Int × Int)) (w:World) (IK:∀ W,Ext w W->Calls prog 49 #[.agg #[.int .i64 k,.int .i64 f,.int .i64 t,.slice pw nw cw,.int .i64 rad,.int .i64 most],.agg #[.slice po no co,.slice pt nt ct,.slice pr nr cr,.slice pv nv cv]] W fun e w'=>e=.returned (.int .i64 0)/\Ext W w')
  (HM:∀ W,Ext w W->Ih W (w.heap.size+1) 27 #[.slice po no co,.slice pt nt ct,.slice pr nr cr,.slice pv nv cv]->Ih W (w.heap.size+1+1) 28 #[.slice pl nl cl]->Calls prog 70 #[.agg #[.int .i64 k,.int .i64 f,.int .i64 t,.slice pw nw cw,.int .i64 rad,.int .i64 most,.func (.func 66) #[] #[.pointer (some ⟨w.heap.size+1,0,none⟩)],(.func (.func 68) #[] #[.pointer (some ⟨w.heap.size+1,0,none⟩),.pointer (some ⟨w.heap.size+1+1,0,none⟩)])]] W (dO b d F 0 W)):Calls prog 40 #[.agg #[.int .i64 k,.int .i64 f,.int .i64 t,.slice pw nw cw,.int .i64 rad,.int .i64 most],.agg #[.slice po no co,.slice pt nt ct,.slice pr nr cr,.slice pv nv cv],.slice pl nl cl] w (dO b d F 0 w):=by
 have S0:=lh (((((Ic.start w).al #[.int .i64 k,.int .i64 f,.int .i64 t,.slice pw nw cw,.int .i64 rad,.int .i64 most] 24 w.heap.size rfl).al #[.slice po no co,.slice pt nt ct,.slice pr nr cr,.slice pv nv cv] 27 (w.heap.size+1) (by simp)).al #[.slice pl nl cl] 28 (w.heap.size+1+1) (by simp)).al #[.bool false,.int .i64 0,.slice none 0 0] 34 (w.heap.size+1+1+1) (by simp))
 have II:=lh IK
 have TZ:=lh HM
 clear IK HM
 go_enter func40,ntmps40
 go_wp2_with (first | (go_at_call 70;go_must (refine(TZ.out _ S1.out.ext (S1.out.blk 2 rfl) (S1.out.blk 1 rfl)).mono ?_;rintro e w4 ⟨q4,c4,rfl,Z⟩;have S4:=lh (S1.out.comp Z);clear a0 a1 a2 a3 a4 a5 az y0 y1 y2 yz f0 f1 f2;obtain⟨y0,y1,y2,yz,f0,f1,f2⟩:=ag (S4.out.blk 1 rfl);clear Z)) | (go_at_call 49;go_must (refine(II.out _ S0.out.ext).mono ?_;rintro e w1 ⟨rfl,hb⟩;have S1:=lh (S0.out.call hb);obtain⟨y0,y1,y2,yz,f0,f1,f2⟩:=ag (S1.out.blk 0 rfl);obtain⟨a0,a1,a2,a3,a4,a5,az⟩:=ao (S1.out.blk 3 rfl);clear hb)))
 have S9:=lh (((S4.out.set 1 rfl 0 (.bool b)).set 1 rfl 1 (.int .i64 d)).set 1 rfl 2 (.slice q4 F.length c4))
 obtain⟨x0,x1,x2⟩:=aw (S9.out.blk 1 rfl)
 refine bodyPost_ret (v:=.tuple #[.agg #[.bool b,.int .i64 d,.slice q4 F.length c4],.int .i64 0]) (by simp [results,results40,go_sem,x0,x1,x2,sizeOf34,isAgg34]) rfl ?_
 exact⟨q4,c4,rfl,S9.out.pick [0] (by decide) rfl⟩
theorem GV (k f t:Int) (pw:Option Addr) (nw cw:Nat) (ws:List ByteArray) (rad most:Int) (po:Option Addr) (no co:Nat) (O:List Int) (pt:Option Addr) (nt ct:Nat) (T:List Int) (pr:Option Addr) (nr cr:Nat) (R:List Int) (pv:Option Addr) (nv cv:Nat) (V:List Int) (pl:Option Addr) (nl cl:Nat) (hs:List Hd) (L:List Po) (w:World) (hO:Rd w 1 po no (ab O)) (hT:Rd w 1 pt nt (ab T)) (hR:Rd w 1 pr nr (ab R)) (hV:Rd w 1 pv nv (ab V)) (hct:nt<=ct) (hcv:nv<=cv)
  (hL:IW w pl nl hs L) (hW:Rd w 1 pw nw (bg ws)) (Iu:no<=200) (hz:∀ s∈ws,s.size<=1000000) (hcw:nw<=cw) (hnw:nw<=100) (hok:Io L) :
  Calls prog 40 #[.agg #[.int .i64 k,.int .i64 f,.int .i64 t,.slice pw nw cw,.int .i64 rad,.int .i64 most],.agg #[.slice po no co,.slice pt nt ct,.slice pr nr cr,.slice pv nv cv],.slice pl nl cl] w fun x w'=>∃ b d F e,Ck O T R V L k f t ws rad most b d F e/\dO b d F e w x w':=by
 have hno:=hO.nI
 have II:=fun W (h:Ext w W)=>uC k f t pw nw cw ws rad most po no co O pt nt ct T pr nr cr R pv nv cv V W (hO.ext h) (hT.ext h) (hR.ext h) (hV.ext h) hct hcv (hW.ext h) hz (by omega)
 rw [hno] at II
 by_cases h0:fe (ai O T R V) k f t ws rad most O.length=0
 ·rw [h0] at II
  rw [<- hno] at II
  obtain⟨hck,hq,n,hn,f0,f1,hcs⟩:=ka h0
  obtain⟨s,rfl⟩:∃ s:Nat,f=(s:Int):=⟨f.toNat,by omega⟩
  have MH:O.length - 1=n:=by omega
  rcases hcs with ⟨hk,t0,t1⟩ | ⟨rfl,w1,w8,r0,r2,m1,m2⟩
  ·obtain⟨u,rfl⟩:∃ u:Nat,t=(u:Int):=⟨t.toNat,by omega⟩
   have HF:=fun (gb:Nat) W (h:Ext w W) hB=>Aq po no co O pt nt ct T pr nr cr R pv nv cv V n s u gb W (hO.ext h) (hT.ext h) (hR.ext h) (hV.ext h) hct hcv hB hck hn (by omega) (by omega)
   rcases hk with rfl | rfl
   ·refine(D8 1 (s:Int) (u:Int) pw nw cw rad most po no co O pt nt ct T pr nr cr R pv nv cv V pl nl cl _ _ [] w II (fun W h hB hBl=>FV (s:Int) (u:Int) pw nw cw rad most _ _ _ _ [] 0 W fun W1 h1=>Gs 1 (s:Int) (u:Int) pw nw cw rad most _ _ _ _ 0 W1 (fun W2 h2=>HF _ W2 (Ext.trans h (Ext.trans h1 h2)) (hB.ext (Ext.trans h1 h2))))).mono ?_
    intro x w' hx
    exact⟨_,_,[],0,⟨h0.symm,fun h=>absurd rfl h,fun _=>⟨fun _=>⟨by rw [MH,Int.toNat_natCast,Int.toNat_natCast],by rw [MH,Int.toNat_natCast,Int.toNat_natCast],rfl⟩,fun h=>absurd h (by decide),fun h=>absurd h (by decide)⟩⟩,hx⟩
   ·refine(D8 2 (s:Int) (u:Int) pw nw cw rad most po no co O pt nt ct T pr nr cr R pv nv cv V pl nl cl _ 0 [] w II (fun W h hB hBl=>FW (s:Int) (u:Int) pw nw cw rad most _ _ _ _ [] 0 W fun W1 h1=>EY 2 (s:Int) (u:Int) pw nw cw rad most _ _ _ _ 0 W1 (fun W2 h2=>HF _ W2 (Ext.trans h (Ext.trans h1 h2)) (hB.ext (Ext.trans h1 h2))))).mono ?_
    intro x w' hx
    exact⟨_,0,[],0,⟨h0.symm,fun h=>absurd rfl h,fun _=>⟨fun h=>absurd h (by decide),fun _=>⟨by rw [MH,Int.toNat_natCast,Int.toNat_natCast],rfl,rfl⟩,fun h=>absurd h (by decide)⟩⟩,hx⟩
  ·have hc:=tN (f:=(s:Int)) (ws:=ws) (rad:=rad) hn (by omega) (by omega) w1 r0
   have hnl:=qO (ck:=true) (O:=O) (T:=T) (R:=R) (V:=V) (s:=(s:Int)) (ws:=ws) (rad:=rad) hok
   refine(D8 3 (s:Int) t pw nw cw rad most po no co O pt nt ct T pr nr cr R pv nv cv V pl nl cl _ 0 _ w II (fun W h hB hBl=>FX (s:Int) t pw nw cw rad most _ _ _ _ _ 0 W fun W1 h1=>GD 3 (s:Int) t pw nw cw rad most _ _ _ 0 W1 hnl (fun W2 h2=>have h3:=Ext.trans h1 h2;have h4:=Ext.trans h h3;xL 3 (s:Int) t pw nw cw ws rad most po no co O pt nt ct T pr nr cr R pv nv cv V pl nl cl hs L _ _ W2 (hO.ext h4) (hT.ext h4) (hR.ext h4) (hV.ext h4) hct hcv (hB.ext h3) (hBl.ext h3) (hL.ext h4) hok (hW.ext h4) hcw hnw hck hc))).mono ?_
   intro x w' hx
   exact⟨_,0,_,0,⟨h0.symm,fun h=>absurd rfl h,fun _=>⟨fun h=>absurd h (by decide),fun h=>absurd h (by decide),fun _=>⟨rfl,rfl,rfl⟩⟩⟩,hx⟩
 ·rw [<- hno] at II
  refine(D7 k f t pw nw cw ws rad most po no co O pt nt ct T pr nr cr R pv nv cv V pl nl cl _ w (by rw [hno];exact h0) II).mono ?_
  intro x w' hx
  exact⟨false,0,[],_,⟨by rw [hno],fun _=>⟨rfl,rfl,rfl⟩,fun h=>absurd (by rw [<- hno];exact h) h0⟩,hx⟩
theorem dz (v n:Int) (w:World):Calls prog 132 #[.int .i64 v,.int .i64 n] w fun e w'=>e=.returned (.bool (fh v n))/\w=w':=by
 by_cases h:0<=v
 ·go_enter func132,ntmps132
  go_wp2
  go_ret
  exact⟨aq (by unfold fh;simp [h]),rfl⟩
 ·have e0:decide (0<=v)=false:=by simpa using h
  go_enter func132,ntmps132
  go_wp2
  go_ret
  exact⟨aq (by unfold fh;rw [e0];rfl),rfl⟩
theorem rD {l:List ByteArray} {k:Nat} (h:¬ k<l.length) (ha:(l.take k).all bE=true):l.all bE=true:=by rwa [List.take_of_length_le (by omega)] at ha
theorem rC {l:List ByteArray} {k:Nat} (h:k<l.length) (hb:bE (ae l k)=false):l.all bE=false:=by
 rw [Bool.eq_false_iff]
 intro ha
 rw [List.all_eq_true] at ha
 have:=ha (ae l k) (by rw [ar h];exact List.getElem_mem _)
 rw [hb] at this;cases this
theorem pu {l:List ByteArray} {k:Nat} (h:k<l.length) (ha:(l.take k).all bE=true) (hb:bE (ae l k)=true):(l.take (k+1)).all bE=true:=by
 rw [ak l k h,List.all_append,ha];simp [hb]
theorem wq (k f t:Int) (pw:Option Addr) (nw cw:Nat) (ws:List ByteArray) (rad most:Int) (n:Int) (w:World) (hw:Rd w 1 pw nw (bg ws)) (hz:∀ s∈ws,s.size<=1000000) :
  Calls prog 80 #[.agg #[.int .i64 k,.int .i64 f,.int .i64 t,.slice pw nw cw,.int .i64 rad,.int .i64 most],.int .i64 n] w fun e w'=>e=.returned (.int .i64 (b7 k f t ws rad most n))/\Ext w w':=by
 have l1:=hw.nS
 have p1:=hw.ptr
 have n1:=hw.small
 have S0:=lh ((Ic.start w).al #[.int .i64 k,.int .i64 f,.int .i64 t,.slice pw nw cw,.int .i64 rad,.int .i64 most] 24 w.heap.size rfl)
 have HE:=lh S0.out.ext
 have HW:=lh hw
 have HZ:=lh hz
 have L1:=lh l1
 clear hz l1 hw
 by_cases h0:k<1
 ·have HF:Hid (b7 k f t ws rad most n=180):=bL (ij (by omega) (by omega))
  clear S0
  go_enter func80,ntmps80
  go_wp2_with (first | (go_at_call 132;refine(dz _ _ _).mono ?_;rintro e w' ⟨rfl,rfl⟩))
  go_ret
  exact⟨by(rw [HF.out];rfl),HE.out⟩
 ·have e0:decide (k<1)=false:=by simpa using h0
  by_cases h3:3<k
  ·have e3:decide (3<k)=true:=by simpa using h3
   have HF:Hid (b7 k f t ws rad most n=180):=bL (ij (by omega) (by omega))
   clear S0
   go_enter func80,ntmps80
   go_wp2_with (first | (go_at_call 132;refine(dz _ _ _).mono ?_;rintro e w' ⟨rfl,rfl⟩))
   go_ret
   exact⟨by(rw [HF.out];rfl),HE.out⟩
  ·have e3:decide (3<k)=false:=by simpa using h3
   by_cases k3:k=3
   ·subst k3
    clear h0 h3 e0 e3
    have HO:=lh (wR (f:=f) (t:=t) (ws:=ws) (rad:=rad) (most:=most) (n:=n))
    cases h1:fh f n with
    | false =>
     have HF:Hid (b7 3 f t ws rad most n=180):=bL (by rw [HO.out,h1];simp)
     go_enter func80,ntmps80
     go_wp2_with (first | (go_at_call 132;refine(dz _ _ _).mono ?_;rintro e w' ⟨rfl,rfl⟩))
     go_ret
     exact⟨by(rw [HF.out];rfl),HE.out⟩
    | true =>
     rw [h1,Bool.true_and] at HO
     by_cases c1:nw<1
     ·have HM:eV ws=false:=by unfold eV;rw [<- L1.out];simp [Nat.not_le.2 c1]
      have HF:Hid (b7 3 f t ws rad most n=180):=bL (by rw [HO.out,HM];simp)
      have e:decide ((nw:Int)<1)=true:=by simp;omega
      clear HM
      go_enter func80,ntmps80
      go_wp2_with (first | (go_at_call 132;refine(dz _ _ _).mono ?_;rintro e w' ⟨rfl,rfl⟩))
      go_ret
      exact⟨by(rw [HF.out];rfl),HE.out⟩
     ·have e4:decide ((nw:Int)<1)=false:=by simp;omega
      have ZK:decide (nw<1)=false:=by simpa using c1
      by_cases c2:8<nw
      ·have HM:eV ws=false:=by unfold eV;rw [<- L1.out];simp [Nat.not_le.2 c2]
       have HF:Hid (b7 3 f t ws rad most n=180):=bL (by rw [HO.out,HM];simp)
       have e:decide ((8:Int)<(nw:Int))=true:=by simp;omega
       clear HM
       go_enter func80,ntmps80
       go_wp2_with (first | (go_at_call 132;refine(dz _ _ _).mono ?_;rintro e w' ⟨rfl,rfl⟩))
       go_ret
       exact⟨by(rw [HF.out];rfl),HE.out⟩
      ·have e5:decide ((8:Int)<(nw:Int))=false:=by simp;omega
       have ZL:decide (8<nw)=false:=by simpa using c2
       by_cases r1:rad<0
       ·have HF:Hid (b7 3 f t ws rad most n=180):=bL (by rw [HO.out];unfold kV;rw [decide_eq_false (Int.not_le.2 r1)];simp)
        go_enter func80,ntmps80
        go_wp2_with (first | (go_at_call 132;refine(dz _ _ _).mono ?_;rintro e w' ⟨rfl,rfl⟩))
        go_ret
        exact⟨by(rw [HF.out];rfl),HE.out⟩
       ·have e6:decide (rad<0)=false:=by simpa using r1
        by_cases r2:200<rad
        ·have HF:Hid (b7 3 f t ws rad most n=180):=bL (by rw [HO.out];unfold kV;rw [decide_eq_false (Int.not_le.2 r2)];simp)
         go_enter func80,ntmps80
         go_wp2_with (first | (go_at_call 132;refine(dz _ _ _).mono ?_;rintro e w' ⟨rfl,rfl⟩))
         go_ret
         exact⟨by(rw [HF.out];rfl),HE.out⟩
        ·have e7:decide (200<rad)=false:=by simpa using r2
         by_cases m1:most<1
         ·have HF:Hid (b7 3 f t ws rad most n=180):=bL (by rw [HO.out];unfold kV;rw [decide_eq_false (Int.not_le.2 m1)];simp)
          go_enter func80,ntmps80
          go_wp2_with (first | (go_at_call 132;refine(dz _ _ _).mono ?_;rintro e w' ⟨rfl,rfl⟩))
          go_ret
          exact⟨by(rw [HF.out];rfl),HE.out⟩
         ·have e8:decide (most<1)=false:=by simpa using m1
          by_cases m2:100<most
          ·have HF:Hid (b7 3 f t ws rad most n=180):=bL (by rw [HO.out];unfold kV;rw [decide_eq_false (Int.not_le.2 m2)];simp)
           go_enter func80,ntmps80
           go_wp2_with (first | (go_at_call 132;refine(dz _ _ _).mono ?_;rintro e w' ⟨rfl,rfl⟩))
           go_ret
           exact⟨by(rw [HF.out];rfl),HE.out⟩
          ·have e9:decide (100<most)=false:=by simpa using m2
           have Iq:Hid (b7 3 f t ws rad most n=if ws.all bE=true then 0 else 180):=by
            have hn:kV rad most=true:=by unfold kV;simp;omega
            have hm:eV ws=ws.all bE:=by unfold eV;rw [<- L1.out];simp;omega
            unfold Hid b7
            rw [HO.out,hn,hm,Bool.and_true]
           clear HO c1 c2 r1 r2 m1 m2
           go_enter func80,ntmps80
           go_wp2_with (first | (go_at_call 132;refine(dz _ _ _).mono ?_;rintro e w' ⟨rfl,rfl⟩))
           go_loopw [5] (fun i wr=>∃ j:Nat,j<=nw/\i=.int .i64 j/\Hid ((ws.take j).all bE=true)/\Ic w wr [.blk w.heap.size 24 #[.int .i64 3,.int .i64 f,.int .i64 t,.slice pw nw cw,.int .i64 rad,.int .i64 most]]) (fun i _=>nw - (intOf i).toNat)
           case atStart=>exact⟨0,Nat.zero_le _,rfl,rfl,S0.out⟩
           case round =>
            obtain⟨j,hj,rfl,HA,S⟩:=hrel
            clear S0
            obtain⟨b3,bz⟩:=Ga (S.blk 0 rfl)
            by_cases hlt:j<nw
            ·have g1:=(HW.out.ext S.ext).cS hlt
             have hjl:j<ws.length:=by rw [<- L1.out];exact hlt
             have hsz:(ae ws j).size<=140737488355328:=by
              have:=HZ.out (ae ws j) (by rw [ar hjl];exact List.getElem_mem _)
              omega
             cases hb:bE (ae ws j) with
             | true =>
              have HS:=lh (pu hjl HA.out hb)
              clear hjl
              go_wp2_with (go_at_call 133;refine(Ah _ _ hsz).mono ?_;rintro e w' ⟨rfl,rfl⟩)
              go_roundw
              case rel=>exact⟨j+1,by omega,by go_num,HS,S⟩
              case measure=>simp [intOf];omega
             | false =>
              have HS:=lh (rC hjl hb)
              clear hjl
              go_wp2_with (go_at_call 133;refine(Ah _ _ hsz).mono ?_;rintro e w' ⟨rfl,rfl⟩)
              go_ret
              exact⟨by(rw [Iq.out,HS.out];rfl),S.ext⟩
            ·go_wp2
             go_ret
             exact⟨by(rw [Iq.out,if_pos (rD (by rw [<- L1.out];exact hlt) HA.out)];rfl),S.ext⟩
   ·have e1:decide (k<3)=true:=by simp;omega
    have HO:=lh (oD (f:=f) (t:=t) (ws:=ws) (rad:=rad) (most:=most) (n:=n) (show k=1\/k=2 by omega))
    cases h1:fh f n with
    | false =>
     have HF:Hid (b7 k f t ws rad most n=180):=bL (by rw [HO.out,h1];rfl)
     clear S0 HO
     go_enter func80,ntmps80
     go_wp2_with (first | (go_at_call 132;refine(dz _ _ _).mono ?_;rintro e w' ⟨rfl,rfl⟩))
     go_ret
     exact⟨by(rw [HF.out];rfl),HE.out⟩
    | true =>
     cases h2:fh t n with
     | false =>
      have HF:Hid (b7 k f t ws rad most n=180):=bL (by rw [HO.out,h1,h2];rfl)
      clear S0 HO
      go_enter func80,ntmps80
      go_wp2_with (first | (go_at_call 132;refine(dz _ _ _).mono ?_;rintro e w' ⟨rfl,rfl⟩))
      go_ret
      exact⟨by(rw [HF.out];rfl),HE.out⟩
     | true =>
      have HF:Hid (b7 k f t ws rad most n=0):=nM (by rw [HO.out,h1,h2];rfl)
      clear S0 HO
      go_enter func80,ntmps80
      go_wp2_with (first | (go_at_call 132;refine(dz _ _ _).mono ?_;rintro e w' ⟨rfl,rfl⟩))
      go_ret
      exact⟨by(rw [HF.out];rfl),HE.out⟩
theorem Cl (k f t:Int) (pw:Option Addr) (nw cw:Nat) (ws:List ByteArray) (rad most:Int) (po:Option Addr) (no co:Nat) (O:List Int) (pt:Option Addr) (nt ct:Nat) (T:List Int) (pr:Option Addr) (nr cr:Nat) (R:List Int) (pv:Option Addr) (nv cv:Nat) (V:List Int) (w:World) (hO:Rd w 1 po no (ab O)) (hT:Rd w 1 pt nt (ab T)) (hR:Rd w 1 pr nr (ab R)) (hV:Rd w 1 pv nv (ab V)) (hct:nt<=ct) (hcv:nv<=cv) (hW:Rd w 1 pw nw (bg ws)) (hz:∀ s∈ws,s.size<=1000000) (Kk:no<=1000) :
  Calls prog 53 #[.agg #[.int .i64 k,.int .i64 f,.int .i64 t,.slice pw nw cw,.int .i64 rad,.int .i64 most],.agg #[.slice po no co,.slice pt nt ct,.slice pr nr cr,.slice pv nv cv]] w fun e w'=>e=.returned (.int .i64 (fe (ai O T R V) k f t ws rad most no))/\Ext w w':=by
 have IK:=lh (fun W (h:Ext w W)=>rr po no co O pt nt ct T pr nr cr R pv nv cv V W (hO.ext h) (hT.ext h) (hR.ext h) (hV.ext h) hct hcv)
 have HQ:=lh (fun W (h:Ext w W)=>wq k f t pw nw cw ws rad most ((no:Int) - 1) W (hW.ext h) hz)
 have S0:=lh (((Ic.start w).al #[.int .i64 k,.int .i64 f,.int .i64 t,.slice pw nw cw,.int .i64 rad,.int .i64 most] 24 w.heap.size rfl).al #[.slice po no co,.slice pt nt ct,.slice pr nr cr,.slice pv nv cv] 27 (w.heap.size+1) (by simp))
 clear hO hT hR hV hct hcv hW hz
 obtain⟨ck,hck⟩:∃ ck,ai O T R V=ck:=⟨_,rfl⟩
 rw [hck] at IK ⊢
 obtain⟨x,hx⟩:∃ x,b7 k f t ws rad most ((no:Int) - 1)=x:=⟨_,rfl⟩
 rw [hx] at HQ
 have e1:fe ck k f t ws rad most no=if ck=true then x else 40:=by unfold fe;rw [hx]
 rw [e1]
 clear e1 hx hck
 go_enter func53,ntmps53
 cases ck with
 | false =>
  go_wp2_with (go_at_call 96;go_must (refine(IK.out _ S0.out.ext).mono ?_;rintro e w1 ⟨rfl,hb⟩;have S1:=lh (S0.out.call hb);clear hb))
  go_ret
  exact⟨rfl,S1.out.ext⟩
 | true =>
  go_wp2_with (first | (go_at_call 96;go_must (refine(IK.out _ S0.out.ext).mono ?_;rintro e w1 ⟨rfl,hb⟩;have S1:=lh (S0.out.call hb);obtain⟨b0,b1,b2,b3,b4,b5,bz⟩:=ao (S1.out.blk 1 rfl);obtain⟨c0,cz⟩:=fj (S1.out.blk 0 rfl);clear hb)) | (go_at_call 80;go_must (refine(HQ.out _ S1.out.ext).mono ?_;rintro e w2 ⟨rfl,hb⟩;have S2:=lh (S1.out.call hb);clear hb)))
  go_ret
  exact⟨rfl,S2.out.ext⟩
theorem uY (po:Option Addr) (no co:Nat) (O:List Int) (pt:Option Addr) (nt ct:Nat) (T:List Int) (pr:Option Addr) (nr cr:Nat) (R:List Int) (pv:Option Addr) (nv cv:Nat) (V:List Int) (n s t:Nat) (w:World) (hO:Rd w 1 po no (ab O)) (hT:Rd w 1 pt nt (ab T)) (hR:Rd w 1 pr nr (ab R)) (hV:Rd w 1 pv nv (ab V)) (hct:nt<=ct) (hcv:nv<=cv) (hck:ai O T R V=true) (hno:O.length=n+1) (hs:s<n) (ht:t<n) :
  Calls prog 125 #[.agg #[.slice po no co,.slice pt nt ct,.slice pr nr cr,.slice pv nv cv],.int .i64 s,.int .i64 t] w fun e w'=>∃ q1 c1 q2 c2,e=.returned (.tuple #[.slice q1 n c1,.slice q2 n c2,.int .i64 0])/\Ic w w' [.own 3 1 q2 n c2 (ab ((List.range n).map fun v=>ay (aD R V) n t v)),.own 3 1 q1 n c1 (ab ((List.range n).map fun v=>ay (aD O T) n s v))]:=by
 have S0:=lh ((Ic.start w).al #[.slice po no co,.slice pt nt ct,.slice pr nr cr,.slice pv nv cv] 27 w.heap.size rfl)
 have HA:Hid (∀ W1,Ext w W1->Calls prog 121 #[.agg #[.slice po no co,.slice pt nt ct,.slice pr nr cr,.slice pv nv cv],.int .i64 s,.bool false] W1 fun e w'=>∃ q c,e=.returned (.tuple #[.slice q n c,.int .i64 0])/\Ic W1 w' [.own 3 1 q n c (ab ((List.range n).map fun v=>ay (aD O T) n s v))]) :=
  fun W1 h=>iw po no co O pt nt ct T pr nr cr R pv nv cv V W1 n s false (hO.ext h) (hT.ext h) (hR.ext h) (hV.ext h) hct hcv hck hno hs
 have HB:Hid (∀ W1,Ext w W1->Calls prog 121 #[.agg #[.slice po no co,.slice pt nt ct,.slice pr nr cr,.slice pv nv cv],.int .i64 t,.bool true] W1 fun e w'=>∃ q c,e=.returned (.tuple #[.slice q n c,.int .i64 0])/\Ic W1 w' [.own 3 1 q n c (ab ((List.range n).map fun v=>ay (aD R V) n t v))]) :=
  fun W1 h=>iw po no co O pt nt ct T pr nr cr R pv nv cv V W1 n t true (hO.ext h) (hT.ext h) (hR.ext h) (hV.ext h) hct hcv hck hno ht
 generalize ((List.range n).map fun v=>ay (aD O T) n s v)=A at *
 generalize ((List.range n).map fun v=>ay (aD R V) n t v)=B at *
 clear hO hT hR hV hct hcv hck hno
 go_enter func125,ntmps125
 go_wp2_with (first
  | (go_at_call 121;have _t:=S1;go_must (refine(HB.out _ S1.out.ext).mono ?_;rintro e w2 ⟨q2,c2,rfl,Z⟩;have S2:=lh (S1.out.comp Z);clear Z))
  | (go_at_call 121;go_must (refine(HA.out _ S0.out.ext).mono ?_;rintro e w1 ⟨q1,c1,rfl,Z⟩;have S1:=lh (S0.out.comp Z);obtain⟨az,a0,a1,a2,a3⟩:=aC (S1.out.blk 1 rfl);clear Z)))
 go_ret3
 exact⟨q1,c1,q2,c2,rfl,S2.out.pick [0,1] (by decide) rfl⟩
theorem uF (po:Option Addr) (no co:Nat) (O:List Int) (pt:Option Addr) (nt ct:Nat) (T:List Int) (pr:Option Addr) (nr cr:Nat) (R:List Int) (pv:Option Addr) (nv cv:Nat) (V:List Int) (n s t:Nat) (w:World) (hO:Rd w 1 po no (ab O)) (hT:Rd w 1 pt nt (ab T)) (hR:Rd w 1 pr nr (ab R)) (hV:Rd w 1 pv nv (ab V)) (hct:nt<=ct) (hcv:nv<=cv) (hck:ai O T R V=true) (hno:O.length=n+1) (hs:s<n) (ht:t<n) :
  Calls prog 74 #[.agg #[.slice po no co,.slice pt nt ct,.slice pr nr cr,.slice pv nv cv],.int .i64 s,.int .i64 t] w fun e w'=>e=.returned (.tuple #[.int .i64 (ey (ay (aD O T) n s t)),.bool (ei (ay (aD O T) n s t)),.int .i64 0])/\Ext w w':=by
 have HO:=lh (fun W1 (h:Ext w W1)=>uY po no co O pt nt ct T pr nr cr R pv nv cv V n s t W1 (hO.ext h) (hT.ext h) (hR.ext h) (hV.ext h) hct hcv hck hno hs ht)
 have S0:=lh ((Ic.start w).al #[.slice po no co,.slice pt nt ct,.slice pr nr cr,.slice pv nv cv] 27 w.heap.size rfl)
 have r:=aQ (aI (aK hck).2.2.1)
 have hn:n<=200:=by omega
 have hA:ae ((List.range n).map fun v=>ay (aD O T) n s v) t=ay (aD O T) n s t:=Bi ht
 generalize ((List.range n).map fun v=>ay (aD O T) n s v)=A at *
 generalize ((List.range n).map fun v=>ay (aD R V) n t v)=B at *
 generalize ay (aD O T) n s t=D at *
 have HA:=lh hA
 have d1:(t:Int)<n:=by omega
 clear hO hT hR hV hct hcv hck hno r hA
 by_cases h0:0<=D
 ·have c1:decide (D<0)=false:=by simpa using h0
  have Ma:Hid (ey D=D/\ei D=true):=by unfold ey ei;rw [if_pos h0];exact⟨rfl,by simpa using h0⟩
  clear h0
  go_enter func74,ntmps74
  go_wp2_with (go_at_call 125;go_must (refine(HO.out _ S0.out.ext).mono ?_;rintro e w1 ⟨q1,c1,q2,c2,rfl,Z⟩;have S1:=lh (S0.out.comp Z);have g1:=(S1.out.rd 1 rfl (by omega)).cI (k:=t) (by omega);rw [HA.out] at g1;have pq:=(S1.out.rd 1 rfl (by omega)).ptr;clear Z))
  go_ret3
  exact⟨by rw [Ma.out.1,Ma.out.2];rfl,S1.out.ext⟩
 ·have c1:decide (D<0)=true:=by simpa using h0
  have Ma:Hid (ey D=0/\ei D=false):=by unfold ey ei;rw [if_neg h0];exact⟨rfl,by simpa using h0⟩
  clear h0
  go_enter func74,ntmps74
  go_wp2_with (go_at_call 125;go_must (refine(HO.out _ S0.out.ext).mono ?_;rintro e w1 ⟨q1,c1,q2,c2,rfl,Z⟩;have S1:=lh (S0.out.comp Z);have g1:=(S1.out.rd 1 rfl (by omega)).cI (k:=t) (by omega);rw [HA.out] at g1;have pq:=(S1.out.rd 1 rfl (by omega)).ptr;clear Z))
  go_ret3
  exact⟨by rw [Ma.out.1,Ma.out.2];rfl,S1.out.ext⟩
theorem Cx (k f t:Int) (pw:Option Addr) (nw cw:Nat) (rad most:Int) (po:Option Addr) (no co:Nat) (pt:Option Addr) (nt ct:Nat) (pr:Option Addr) (nr cr:Nat) (pv:Option Addr) (nv cv:Nat) (pl:Option Addr) (nl cl:Nat) (E:Int) (w:World) (hE:E≠0) (IK:∀ W,Ext w W->Calls prog 53 #[.agg #[.int .i64 k,.int .i64 f,.int .i64 t,.slice pw nw cw,.int .i64 rad,.int .i64 most],.agg #[.slice po no co,.slice pt nt ct,.slice pr nr cr,.slice pv nv cv]] W fun e w'=>e=.returned (.int .i64 E)/\Ext W w') :
  Calls prog 42 #[.agg #[.int .i64 k,.int .i64 f,.int .i64 t,.slice pw nw cw,.int .i64 rad,.int .i64 most],.agg #[.slice po no co,.slice pt nt ct,.slice pr nr cr,.slice pv nv cv],.slice pl nl cl] w (dO false 0 [] E w):=by
 have S0:=lh ((((Ic.start w).al #[.int .i64 k,.int .i64 f,.int .i64 t,.slice pw nw cw,.int .i64 rad,.int .i64 most] 24 w.heap.size rfl).al #[.slice po no co,.slice pt nt ct,.slice pr nr cr,.slice pv nv cv] 27 (w.heap.size+1) (by simp)).al #[.bool false,.int .i64 0,.slice none 0 0] 34 (w.heap.size+1+1) (by simp))
 have II:=lh IK
 have d1:decide (E=0)=false:=by simpa using hE
 have d2:(E == 0)=false:=by simpa using hE
 clear IK
 go_enter func42,ntmps42
 go_wp2_with (go_at_call 53;go_must (refine(II.out _ S0.out.ext).mono ?_;rintro e w1 ⟨rfl,hb⟩;have S1:=lh (S0.out.call hb);obtain⟨y0,y1,y2,yz,f0,f1,f2⟩:=ag (S1.out.blk 0 rfl);obtain⟨b0,b1,b2,b3,bz⟩:=ah (S1.out.blk 1 rfl);obtain⟨a0,a1,a2,a3,a4,a5,az⟩:=ao (S1.out.blk 2 rfl);clear hb))
 have S9:=lh (((S1.out.set 0 rfl 0 (.bool false)).set 0 rfl 1 (.int .i64 0)).set 0 rfl 2 (.slice none 0 0))
 obtain⟨x0,x1,x2⟩:=aw (S9.out.blk 0 rfl)
 refine bodyPost_ret (v:=.tuple #[.agg #[.bool false,.int .i64 0,.slice none 0 0],.int .i64 E]) (by simp [results,results42,go_sem,x0,x1,x2,sizeOf34,isAgg34]) rfl ?_
 exact bZ rfl S9.out.ext
theorem FB (f t:Int) (pw:Option Addr) (nw cw:Nat) (rad most:Int) (po:Option Addr) (no co:Nat) (pt:Option Addr) (nt ct:Nat) (pr:Option Addr) (nr cr:Nat) (pv:Option Addr) (nv cv:Nat) (pl:Option Addr) (nl cl:Nat) (b:Bool) (d:Int) (w:World) (IK:∀ W,Ext w W->Calls prog 53 #[.agg #[.int .i64 1,.int .i64 f,.int .i64 t,.slice pw nw cw,.int .i64 rad,.int .i64 most],.agg #[.slice po no co,.slice pt nt ct,.slice pr nr cr,.slice pv nv cv]] W fun e w'=>e=.returned (.int .i64 0)/\Ext W w')
  (HD:∀ W,Ext w W->Calls prog 74 #[.agg #[.slice po no co,.slice pt nt ct,.slice pr nr cr,.slice pv nv cv],.int .i64 f,.int .i64 t] W fun e w'=>e=.returned (.tuple #[.int .i64 d,.bool b,.int .i64 0])/\Ext W w') :
  Calls prog 42 #[.agg #[.int .i64 1,.int .i64 f,.int .i64 t,.slice pw nw cw,.int .i64 rad,.int .i64 most],.agg #[.slice po no co,.slice pt nt ct,.slice pr nr cr,.slice pv nv cv],.slice pl nl cl] w (dO b d [] 0 w):=by
 have S0:=lh ((((Ic.start w).al #[.int .i64 1,.int .i64 f,.int .i64 t,.slice pw nw cw,.int .i64 rad,.int .i64 most] 24 w.heap.size rfl).al #[.slice po no co,.slice pt nt ct,.slice pr nr cr,.slice pv nv cv] 27 (w.heap.size+1) (by simp)).al #[.bool false,.int .i64 0,.slice none 0 0] 34 (w.heap.size+1+1) (by simp))
 have II:=lh IK
 have Tt:=lh HD
 clear IK HD
 go_enter func42,ntmps42
 go_wp2_with (first | (go_at_call 74;have _t:=S1;go_must (refine(Tt.out _ S1.out.ext).mono ?_;rintro e w2 ⟨rfl,hb⟩;have S2:=lh (S1.out.call hb);clear a0 a1 a2 a3 a4 a5 az b0 b1 b2 b3 bz y0 y1 y2 yz f0 f1 f2;obtain⟨y0,y1,y2,yz,f0,f1,f2⟩:=ag (S2.out.blk 0 rfl);obtain⟨a0,a1,a2,a3,a4,a5,az⟩:=ao (S2.out.blk 2 rfl);clear hb)) | (go_at_call 53;go_must (refine(II.out _ S0.out.ext).mono ?_;rintro e w1 ⟨rfl,hb⟩;have S1:=lh (S0.out.call hb);obtain⟨y0,y1,y2,yz,f0,f1,f2⟩:=ag (S1.out.blk 0 rfl);obtain⟨b0,b1,b2,b3,bz⟩:=ah (S1.out.blk 1 rfl);obtain⟨a0,a1,a2,a3,a4,a5,az⟩:=ao (S1.out.blk 2 rfl);clear hb)))
 have S9:=lh (((S2.out.set 0 rfl 0 (.bool b)).set 0 rfl 1 (.int .i64 d)).set 0 rfl 2 (.slice none 0 0))
 obtain⟨x0,x1,x2⟩:=aw (S9.out.blk 0 rfl)
 refine bodyPost_ret (v:=.tuple #[.agg #[.bool b,.int .i64 d,.slice none 0 0],.int .i64 0]) (by simp [results,results42,go_sem,x0,x1,x2,sizeOf34,isAgg34]) rfl ?_
 exact bZ rfl S9.out.ext
theorem FC (f t:Int) (pw:Option Addr) (nw cw:Nat) (rad most:Int) (po:Option Addr) (no co:Nat) (pt:Option Addr) (nt ct:Nat) (pr:Option Addr) (nr cr:Nat) (pv:Option Addr) (nv cv:Nat) (pl:Option Addr) (nl cl:Nat) (b:Bool) (d:Int) (w:World) (IK:∀ W,Ext w W->Calls prog 53 #[.agg #[.int .i64 2,.int .i64 f,.int .i64 t,.slice pw nw cw,.int .i64 rad,.int .i64 most],.agg #[.slice po no co,.slice pt nt ct,.slice pr nr cr,.slice pv nv cv]] W fun e w'=>e=.returned (.int .i64 0)/\Ext W w')
  (HD:∀ W,Ext w W->Calls prog 74 #[.agg #[.slice po no co,.slice pt nt ct,.slice pr nr cr,.slice pv nv cv],.int .i64 f,.int .i64 t] W fun e w'=>e=.returned (.tuple #[.int .i64 d,.bool b,.int .i64 0])/\Ext W w') :
  Calls prog 42 #[.agg #[.int .i64 2,.int .i64 f,.int .i64 t,.slice pw nw cw,.int .i64 rad,.int .i64 most],.agg #[.slice po no co,.slice pt nt ct,.slice pr nr cr,.slice pv nv cv],.slice pl nl cl] w (dO b 0 [] 0 w):=by
 have S0:=lh ((((Ic.start w).al #[.int .i64 2,.int .i64 f,.int .i64 t,.slice pw nw cw,.int .i64 rad,.int .i64 most] 24 w.heap.size rfl).al #[.slice po no co,.slice pt nt ct,.slice pr nr cr,.slice pv nv cv] 27 (w.heap.size+1) (by simp)).al #[.bool false,.int .i64 0,.slice none 0 0] 34 (w.heap.size+1+1) (by simp))
 have II:=lh IK
 have Tt:=lh HD
 clear IK HD
 go_enter func42,ntmps42
 go_wp2_with (first | (go_at_call 74;have _t:=S1;go_must (refine(Tt.out _ S1.out.ext).mono ?_;rintro e w2 ⟨rfl,hb⟩;have S2:=lh (S1.out.call hb);clear a0 a1 a2 a3 a4 a5 az b0 b1 b2 b3 bz y0 y1 y2 yz f0 f1 f2;obtain⟨y0,y1,y2,yz,f0,f1,f2⟩:=ag (S2.out.blk 0 rfl);obtain⟨a0,a1,a2,a3,a4,a5,az⟩:=ao (S2.out.blk 2 rfl);clear hb)) | (go_at_call 53;go_must (refine(II.out _ S0.out.ext).mono ?_;rintro e w1 ⟨rfl,hb⟩;have S1:=lh (S0.out.call hb);obtain⟨y0,y1,y2,yz,f0,f1,f2⟩:=ag (S1.out.blk 0 rfl);obtain⟨b0,b1,b2,b3,bz⟩:=ah (S1.out.blk 1 rfl);obtain⟨a0,a1,a2,a3,a4,a5,az⟩:=ao (S1.out.blk 2 rfl);clear hb)))
 have S9:=lh (((S2.out.set 0 rfl 0 (.bool b)).set 0 rfl 1 (.int .i64 0)).set 0 rfl 2 (.slice none 0 0))
 obtain⟨x0,x1,x2⟩:=aw (S9.out.blk 0 rfl)
 refine bodyPost_ret (v:=.tuple #[.agg #[.bool b,.int .i64 0,.slice none 0 0],.int .i64 0]) (by simp [results,results42,go_sem,x0,x1,x2,sizeOf34,isAgg34]) rfl ?_
 exact bZ rfl S9.out.ext
theorem FD (f t:Int) (pw:Option Addr) (nw cw:Nat) (rad most:Int) (po:Option Addr) (no co:Nat) (pt:Option Addr) (nt ct:Nat) (pr:Option Addr) (nr cr:Nat) (pv:Option Addr) (nv cv:Nat) (pl:Option Addr) (nl cl:Nat) (l:List (Int × Int)) (w:World) (hl:l.length<=10000) (IK:∀ W,Ext w W->Calls prog 53 #[.agg #[.int .i64 3,.int .i64 f,.int .i64 t,.slice pw nw cw,.int .i64 rad,.int .i64 most],.agg #[.slice po no co,.slice pt nt ct,.slice pr nr cr,.slice pv nv cv]] W fun e w'=>e=.returned (.int .i64 0)/\Ext W w')
  (HH:∀ W,Ext w W->Calls prog 72 #[.agg #[.slice po no co,.slice pt nt ct,.slice pr nr cr,.slice pv nv cv],.slice pl nl cl,.int .i64 f,.slice pw nw cw,.int .i64 rad] W fun e w'=>∃ q c,e=.returned (.tuple #[.slice q l.length c,.int .i64 0])/\Ic W w' [.own 105 2 q l.length c (aj l)]) :
  Calls prog 42 #[.agg #[.int .i64 3,.int .i64 f,.int .i64 t,.slice pw nw cw,.int .i64 rad,.int .i64 most],.agg #[.slice po no co,.slice pt nt ct,.slice pr nr cr,.slice pv nv cv],.slice pl nl cl] w (dO (decide (0<(bV l most).length)) 0 (bV l most) 0 w):=by
 have S0:=lh ((((Ic.start w).al #[.int .i64 3,.int .i64 f,.int .i64 t,.slice pw nw cw,.int .i64 rad,.int .i64 most] 24 w.heap.size rfl).al #[.slice po no co,.slice pt nt ct,.slice pr nr cr,.slice pv nv cv] 27 (w.heap.size+1) (by simp)).al #[.bool false,.int .i64 0,.slice none 0 0] 34 (w.heap.size+1+1) (by simp))
 have II:=lh IK
 have Xw:=lh HH
 clear IK HH
 generalize hF:bV l most=F at *
 have HF:=lh hF
 clear hF
 go_enter func42,ntmps42
 go_wp2_with (first | (go_at_call 73;have _t:=S2;go_must (have HX:=zR q2 l.length c2 l most _ (S2.out.rdx 0 rfl) hl;rw [HF.out] at HX;refine HX.mono ?_;rintro e w3 ⟨q3,c3,rfl,Z⟩;have S3:=lh (S2.out.comp Z);clear a0 a1 a2 a3 a4 a5 az y0 y1 y2 yz f0 f1 f2;obtain⟨y0,y1,y2,yz,f0,f1,f2⟩:=ag (S3.out.blk 2 rfl);clear Z HX)) | (go_at_call 72;have _t:=S1;go_must (refine(Xw.out _ S1.out.ext).mono ?_;rintro e w2 ⟨q2,c2,rfl,Z⟩;have S2:=lh (S1.out.comp Z);clear a0 a1 a2 a3 a4 a5 az b0 b1 b2 b3 bz y0 y1 y2 yz f0 f1 f2;obtain⟨y0,y1,y2,yz,f0,f1,f2⟩:=ag (S2.out.blk 1 rfl);obtain⟨a0,a1,a2,a3,a4,a5,az⟩:=ao (S2.out.blk 3 rfl);clear Z)) | (go_at_call 53;go_must (refine(II.out _ S0.out.ext).mono ?_;rintro e w1 ⟨rfl,hb⟩;have S1:=lh (S0.out.call hb);obtain⟨y0,y1,y2,yz,f0,f1,f2⟩:=ag (S1.out.blk 0 rfl);obtain⟨b0,b1,b2,b3,bz⟩:=ah (S1.out.blk 1 rfl);obtain⟨a0,a1,a2,a3,a4,a5,az⟩:=ao (S1.out.blk 2 rfl);clear hb)))
 have S9:=lh (((S3.out.set 2 rfl 0 (.bool (decide (0<F.length)))).set 2 rfl 1 (.int .i64 0)).set 2 rfl 2 (.slice q3 F.length c3))
 obtain⟨x0,x1,x2⟩:=aw (S9.out.blk 2 rfl)
 refine bodyPost_ret (v:=.tuple #[.agg #[.bool (decide (0<F.length)),.int .i64 0,(.slice q3 F.length c3)],.int .i64 0]) (by simp [results,results42,go_sem,x0,x1,x2,sizeOf34,isAgg34]) rfl ?_
 exact⟨q3,c3,rfl,S9.out.pick [0] (by decide) rfl⟩
theorem FE (k f t:Int) (pw:Option Addr) (nw cw:Nat) (ws:List ByteArray) (rad most:Int) (po:Option Addr) (no co:Nat) (O:List Int) (pt:Option Addr) (nt ct:Nat) (T:List Int) (pr:Option Addr) (nr cr:Nat) (R:List Int) (pv:Option Addr) (nv cv:Nat) (V:List Int) (pl:Option Addr) (nl cl:Nat) (hs:List Hd) (L:List Po) (w:World) (hO:Rd w 1 po no (ab O)) (hT:Rd w 1 pt nt (ab T)) (hR:Rd w 1 pr nr (ab R)) (hV:Rd w 1 pv nv (ab V)) (hct:nt<=ct) (hcv:nv<=cv)
  (hL:IW w pl nl hs L) (hW:Rd w 1 pw nw (bg ws)) (Iu:no<=200) (hz:∀ s∈ws,s.size<=1000000) (hcw:nw<=cw) (hnw:nw<=100) (hok:Io L) :
  Calls prog 42 #[.agg #[.int .i64 k,.int .i64 f,.int .i64 t,.slice pw nw cw,.int .i64 rad,.int .i64 most],.agg #[.slice po no co,.slice pt nt ct,.slice pr nr cr,.slice pv nv cv],.slice pl nl cl] w fun x w'=>∃ b d F e,Ck O T R V L k f t ws rad most b d F e/\dO b d F e w x w':=by
 have hno:=hO.nI
 have II:=fun W (h:Ext w W)=>Cl k f t pw nw cw ws rad most po no co O pt nt ct T pr nr cr R pv nv cv V W (hO.ext h) (hT.ext h) (hR.ext h) (hV.ext h) hct hcv (hW.ext h) hz (by omega)
 rw [hno] at II
 by_cases h0:fe (ai O T R V) k f t ws rad most O.length=0
 ·rw [h0] at II
  rw [<- hno] at II
  obtain⟨hck,hq,n,hn,f0,f1,hcs⟩:=ka h0
  obtain⟨s,rfl⟩:∃ s:Nat,f=(s:Int):=⟨f.toNat,by omega⟩
  have MH:O.length - 1=n:=by omega
  rcases hcs with ⟨hk,t0,t1⟩ | ⟨rfl,w1,w8,r0,r2,m1,m2⟩
  ·obtain⟨u,rfl⟩:∃ u:Nat,t=(u:Int):=⟨t.toNat,by omega⟩
   have HF:=fun W (h:Ext w W)=>uF po no co O pt nt ct T pr nr cr R pv nv cv V n s u W (hO.ext h) (hT.ext h) (hR.ext h) (hV.ext h) hct hcv hck hn (by omega) (by omega)
   rcases hk with rfl | rfl
   ·refine(FB (s:Int) (u:Int) pw nw cw rad most po no co pt nt ct pr nr cr pv nv cv pl nl cl _ _ w II HF).mono ?_
    intro x w' hx
    exact⟨_,_,[],0,⟨h0.symm,fun h=>absurd rfl h,fun _=>⟨fun _=>⟨by rw [MH,Int.toNat_natCast,Int.toNat_natCast],by rw [MH,Int.toNat_natCast,Int.toNat_natCast],rfl⟩,fun h=>absurd h (by decide),fun h=>absurd h (by decide)⟩⟩,hx⟩
   ·refine(FC (s:Int) (u:Int) pw nw cw rad most po no co pt nt ct pr nr cr pv nv cv pl nl cl _ _ w II HF).mono ?_
    intro x w' hx
    exact⟨_,0,[],0,⟨h0.symm,fun h=>absurd rfl h,fun _=>⟨fun h=>absurd h (by decide),fun _=>⟨by rw [MH,Int.toNat_natCast,Int.toNat_natCast],rfl,rfl⟩,fun h=>absurd h (by decide)⟩⟩,hx⟩
  ·have hc:=tN (f:=(s:Int)) (ws:=ws) (rad:=rad) hn (by omega) (by omega) w1 r0
   have hnl:=qO (ck:=true) (O:=O) (T:=T) (R:=R) (V:=V) (s:=(s:Int)) (ws:=ws) (rad:=rad) hok
   have HH:=fun W (h:Ext w W)=>Ef po no co O pt nt ct T pr nr cr R pv nv cv V pl nl cl hs L pw nw cw ws (s:Int) rad W (hO.ext h) (hT.ext h) (hR.ext h) (hV.ext h) hct hcv (hL.ext h) hok (hW.ext h) hcw hnw
   rw [hck,hc] at HH
   refine(FD (s:Int) t pw nw cw rad most po no co pt nt ct pr nr cr pv nv cv pl nl cl _ w (by omega) II HH).mono ?_
   intro x w' hx
   exact⟨_,0,_,0,⟨h0.symm,fun h=>absurd rfl h,fun _=>⟨fun h=>absurd h (by decide),fun h=>absurd h (by decide),fun _=>⟨rfl,rfl,rfl⟩⟩⟩,hx⟩
 ·rw [<- hno] at II
  refine(Cx k f t pw nw cw rad most po no co pt nt ct pr nr cr pv nv cv pl nl cl _ w (by rw [hno];exact h0) II).mono ?_
  intro x w' hx
  exact⟨false,0,[],_,⟨by rw [hno],fun _=>⟨rfl,rfl,rfl⟩,fun h=>absurd (by rw [<- hno];exact h) h0⟩,hx⟩
section
open Go Go.RowKit Go.Maps
def yX (n:Int) (x:Int × Int):Bool:=decide (0<=x.1/\x.1<n/\0<=x.2/\x.2<=200)
def aJ (l:List (Int × Int)) (n:Int):Bool:=l.all (yX n) && decide ((l.map (·.1)).Nodup)
def lH (l:List (Int × Int)) (n:Int) (k:Nat):Prop:=(l.take k).all (yX n)=true/\((l.take k).map (·.1)).Nodup
theorem ra {l:List (Int × Int)} {n:Int} {k:Nat} (hk:k<l.length) (h:yX n (ae l k)=false):aJ l n=false:=by
 unfold aJ
 have:l.all (yX n)=false:=by
  rw [<- Bool.not_eq_true,List.all_eq_true]
  intro hc
  have:=hc _ (aY hk)
  rw [h] at this;cases this
 rw [this];rfl
theorem rb {l:List (Int × Int)} {n:Int} {k:Nat} (hk:k<l.length) (h:(ae l k).1∈(l.take k).map (·.1)):aJ l n=false:=by
 unfold aJ
 have:¬ (l.map (·.1)).Nodup:=fun hn=>by
  have e:l.map (·.1)=(l.take k).map (·.1) ++ (l.drop k).map (·.1):=by rw [<- List.map_append,List.take_append_drop]
  rw [e,List.nodup_append] at hn
  refine absurd rfl (hn.2.2 _ h (ae l k).1 ?_)
  rw [List.drop_eq_getElem_cons hk,<- ar hk]
  simp
 rw [decide_eq_false this,Bool.and_false]
theorem oO {l:List (Int × Int)} {n:Int} {k:Nat} (hk:k<l.length) (h:lH l n k) (h1:yX n (ae l k)=true) (h2:(ae l k).1 ∉ (l.take k).map (·.1)):lH l n (k+1):=by
 unfold lH
 rw [ak l k hk,List.all_append,List.map_append]
 refine⟨by rw [h.1];simp [h1],?_⟩
 rw [List.nodup_append]
 refine⟨h.2,by simp,fun a ha b hb e=>?_⟩
 simp at hb
 subst hb;subst e
 exact h2 ha
theorem qZ {l:List (Int × Int)} {n:Int} {k:Nat} (hk:k=l.length) (h:lH l n k):aJ l n=true:=by
 subst hk
 unfold lH at h
 rw [List.take_length] at h
 unfold aJ
 rw [h.1,decide_eq_true h.2];rfl
theorem Br {l:List (Int × Int)} {n k:Nat} (h:lH l n k):((l.take k).map (·.1)).length<=n:=bo h.2 fun x hx=>by
 obtain⟨y,hy,rfl⟩:=List.mem_map.1 hx
 have:=List.all_eq_true.1 h.1 y hy
 unfold yX at this
 rw [decide_eq_true_eq] at this
 omega
theorem Ac (p:Option Addr) (m c:Nat) (l:List (Int × Int)) (n:Nat) (w:World) (hl:Rd w 2 p m (aj l)) (hn:n<=100000) :
  Calls prog 126 #[.slice p m c,.int .i64 n] w fun e w'=>e=.returned (.bool (aJ l n))/\Ext w w':=by
 have L1:=lh hl.nE
 have p1:=hl.ptr
 have n1:=hl.small
 have HL:=lh hl;clear hl
 have hmm:=@run_makeMap prog
 have S0:=lh ((Ic.start w).mkmap zN (k:=3))
 go_enter func126,ntmps126
 go_wp2
 go_loopw [7,11] (fun _ i wr=>∃ (k mm:Nat) (f:Int->Option Bool),k<=m/\i=.int .i64 k/\Hid (lH l n k)/\mm<=((l.take k).map (·.1)).length/\Ic w wr [.map prog 3 zN w.heap.size mm f]/\∀ x,f x=some true↔x∈(l.take k).map (·.1)) (fun _ i _=>m - (intOf i).toNat)
 case atStart=>exact⟨0,0,_,Nat.zero_le _,rfl,⟨rfl,List.nodup_nil⟩,Nat.le_refl _,S0.out,fun x=>by simp⟩
 case round =>
  clear S0
  obtain⟨k,mm,f,hk,rfl,ok,hmk,S,hf⟩:=hrel
  by_cases hlt:k<m
  ·have I7:k<l.length:=by rw [<- L1.out];exact hlt
   have QM:=lh (Br ok.out)
   have g1:=S.ext.cell (HL.out.cE hlt)
   have g2:=S.ext.cell (HL.out.cE2 hlt)
   have d1:(0:Int)<=k:=by omega
   have d2:(k:Int)<m:=by omega
   have I9:Hid (yX n (ae l k)=false->aJ l n=false):=fun h=>ra I7 h
   have J9:Hid ((ae l k).1∈(l.take k).map (·.1)->aJ l n=false):=fun h=>rb I7 h
   have HST:Hid (yX n (ae l k)=true->(ae l k).1 ∉ (l.take k).map (·.1)->lH l n (k+1)):=fun h1 h2=>oO I7 ok.out h1 h2
   have PD:Hid ((l.take (k+1)).map (·.1)=(l.take k).map (·.1) ++ [(ae l k).1]):=by unfold Hid;rw [ak l k I7,List.map_append];rfl
   generalize (l.take k).map (·.1)=K at *
   generalize ae l k=x at *
   obtain⟨x1,x2⟩:=x
   simp only at *
   unfold yX at I9 HST
   simp only at I9 HST
   by_cases h1:x1<0
   ·have f1:decide (x1<0)=true:=by simpa using h1
    have HF:Hid (aJ l n=false):=I9.out (decide_eq_false (by omega))
    clear I9 J9 HST PD hf h1 ok
    have SH:=lh S;clear S
    go_wp2
    go_ret
    exact⟨by rw [HF.out];rfl,Ext.trans SH.out.ext (Ext.alloc (Below.refl _ _) _)⟩
   ·have f1:decide (x1<0)=false:=by simpa using h1
    by_cases h2:(n:Int)<=x1
    ·have f2:decide ((n:Int)<=x1)=true:=by simpa using h2
     have HF:Hid (aJ l n=false):=I9.out (decide_eq_false (by omega))
     clear I9 J9 HST PD hf h1 h2 ok
     have SH:=lh S;clear S
     go_wp2
     go_ret
     exact⟨by rw [HF.out];rfl,Ext.trans SH.out.ext (Ext.alloc (Below.refl _ _) _)⟩
    ·have f2:decide ((n:Int)<=x1)=false:=by simpa using h2
     by_cases h3:x2<0
     ·have f3:decide (x2<0)=true:=by simpa using h3
      have HF:Hid (aJ l n=false):=I9.out (decide_eq_false (by omega))
      clear I9 J9 HST PD hf h1 h2 h3 ok
      have SH:=lh S;clear S
      go_wp2
      go_ret
      exact⟨by rw [HF.out];rfl,Ext.trans SH.out.ext (Ext.alloc (Below.refl _ _) _)⟩
     ·have f3:decide (x2<0)=false:=by simpa using h3
      by_cases h4:200<x2
      ·have f4:decide (200<x2)=true:=by simpa using h4
       have HF:Hid (aJ l n=false):=I9.out (decide_eq_false (by omega))
       clear I9 J9 HST PD hf h1 h2 h3 h4 ok
       have SH:=lh S;clear S
       go_wp2
       go_ret
       exact⟨by rw [HF.out];rfl,Ext.trans SH.out.ext (Ext.alloc (Below.refl _ _) _)⟩
      ·have f4:decide (200<x2)=false:=by simpa using h4
       obtain⟨b,rfl⟩:∃ b:Nat,x1=b:=⟨x1.toNat,by omega⟩
       have Yv:decide (n<=b)=false:=by simp;omega
       have hok:decide (0<=(b:Int)/\(b:Int)<n/\0<=x2/\x2<=200)=true:=decide_eq_true (by omega)
       have HS2:Hid ((b:Int) ∉ K->lH l n (k+1)):=HST.out hok
       have VF:Hid (Ii (b:Int)):=Ii.nat (by omega)
       have S2:=lh (S.junk (.cells #[.int .i64 (b:Int),.int .i64 x2] 105))
       have hlk:=(S2.out.map 0 rfl).lookup underlying3 underlying251 VF.out
       obtain⟨u,hu⟩:∃ u,u=(f (b:Int)).getD zN.z:=⟨_,rfl⟩
       rw [<- hu] at hlk
       have hlk2:(Instr.lookup 251 (.map (some w.heap.size)) (.int .i64 (b:Int)) false).run prog (wr.alloc (.cells #[.int .i64 (b:Int),.int .i64 x2] 105))=.ok (.bool u) (wr.alloc (.cells #[.int .i64 (b:Int),.int .i64 x2] 105)):=hlk
       have J5:u=true↔(b:Int)∈K:=by
        rw [<- hf,hu]
        cases hfb:f (b:Int) with
        | none=>simp;decide
        | some t=>simp
       clear hlk hu I9 HST h1 h2 h3 h4 ok hok
       have IU:=lh hf;clear hf
       have SH:=lh S;clear S
       cases u with
       | true =>
        have HF:Hid (aJ l n=false):=J9.out (J5.1 rfl)
        clear J5 J9
        go_wp2
        go_ret
        exact⟨by rw [HF.out];rfl,S2.out.ext⟩
       | false =>
        have HO:Hid (lH l n (k+1)):=HS2.out fun h=>by have:=J5.2 h;cases this
        clear J5 J9 HS2
        go_wp2_with (at_mapUpdate;go_must (refine bq rfl _ _ _ _ rfl underlying3 underlying251 rfl S2.out 0 rfl (by have:=QM.out;omega) (b:Int) true rfl rfl VF.out ?_;intro w1 S1 hg;have S3:=lh S1;clear S1 hg))
        go_roundw
        case rel=>exact⟨k+1,mm+1,_,by omega,by go_num,HO.out,by rw [PD.out,List.length_append,List.length_singleton];omega,S3.out,fun x=>by
         rw [PD.out,List.mem_append,List.mem_singleton,<- IU.out x]
         unfold zy
         by_cases e:x=(b:Int) <;> simp [e]⟩
        case measure=>simp [intOf];omega
  ·obtain rfl:k=m:=by omega
   have HF:=lh (qZ L1.out ok.out)
   clear hf ok
   have SH:=lh S;clear S
   go_wp2
   go_ret
   exact⟨by rw [HF.out];rfl,SH.out.ext⟩
end
structure JD (w:World) (p:Option Addr) (n:Nat) (hs:List Hd) (T:jC):Prop where
 row:Rd w 1 p n (fR hs)
 len:T.length=n
 each:∀ j,j<n->Rd w 2 (ae hs j).p (ae hs j).n (aj (ae T j))
theorem JD.ext {w w':World} {p:Option Addr} {n:Nat} {hs:List Hd} {T:jC} (h:JD w p n hs T) (he:Ext w w'):JD w' p n hs T:=⟨h.row.ext he,h.len,fun j hj=>(h.each j hj).ext he⟩
def ci (A B:jC):Bool:=decide (1<=A.length/\A.length<=200/\B.length=A.length) && (List.range A.length).all fun v=>aJ (ae A v) A.length && aJ (ae B v) A.length
theorem tE {A B:jC} (h:¬ (1<=A.length/\A.length<=200/\B.length=A.length)):ci A B=false:=by unfold ci;rw [decide_eq_false h];rfl
theorem tF {A B:jC} {v:Nat} (hv:v<A.length) (h:(aJ (ae A v) A.length && aJ (ae B v) A.length)=false):ci A B=false:=by
 unfold ci
 have:((List.range A.length).all fun v=>aJ (ae A v) A.length && aJ (ae B v) A.length)=false:=by
  rw [<- Bool.not_eq_true,List.all_eq_true]
  intro hc
  have:=hc v (List.mem_range.2 hv)
  rw [h] at this;cases this
 rw [this,Bool.and_false]
theorem tG {A B:jC} (h:1<=A.length/\A.length<=200/\B.length=A.length) (h2:∀ v,v<A.length->(aJ (ae A v) A.length && aJ (ae B v) A.length)=true):ci A B=true:=by
 unfold ci
 rw [decide_eq_true h,Bool.true_and,List.all_eq_true]
 exact fun v hv=>h2 v (List.mem_range.1 hv)
theorem og {A B:jC} (h:ci A B=true):(1<=A.length/\A.length<=200/\B.length=A.length)/\∀ v,v<A.length->aJ (ae A v) A.length=true/\aJ (ae B v) A.length=true:=by
 unfold ci at h
 rw [Bool.and_eq_true,decide_eq_true_eq,List.all_eq_true] at h
 refine⟨h.1,fun v hv=>?_⟩
 have:=h.2 v (List.mem_range.2 hv)
 rwa [Bool.and_eq_true] at this
theorem _l {l:List (Int × Int)} {n:Int} (h:aJ l n=true):G0 l:=fun x hx=>by
 unfold aJ at h
 rw [Bool.and_eq_true,List.all_eq_true] at h
 have:=h.1 x hx
 unfold yX at this
 rw [decide_eq_true_eq] at this
 omega
theorem wu (pA:Option Addr) (nA cA:Nat) (hA:List Hd) (A:jC) (pB:Option Addr) (nB cB:Nat) (hB:List Hd) (B:jC) (w:World) (RA:JD w pA nA hA A) (RB:JD w pB nB hB B):Calls prog 75 #[.agg #[.slice pA nA cA,.slice pB nB cB]] w fun e w'=>e=.returned (.bool (ci A B))/\Ext w w':=by
 have S0:=lh ((Ic.start w).al #[.slice pA nA cA,.slice pB nB cB] 67 w.heap.size rfl)
 have hlA:=RA.len
 have hlB:=RB.len
 by_cases hp:1<=nA/\nA<=200/\nB=nA
 ·obtain⟨h1,h2,rfl⟩:=hp
  have c1:decide ((nB:Int)<1)=false:=by simp;omega
  have c2:decide ((200:Int)<nB)=false:=by simp;omega
  have c3:((nB:Int) != (nB:Int))=false:=by simp
  have HY:Hid ((∀ v,v<nB->(aJ (ae A v) nB && aJ (ae B v) nB)=true)->ci A B=true):=fun h=>tG ⟨by omega,by omega,by omega⟩ fun v hv=>by have:=h v (by omega);rw [hlA];exact this
  have HN:Hid (∀ v,v<nB->(aJ (ae A v) nB && aJ (ae B v) nB)=false->ci A B=false):=fun v hv h=>tF (v:=v) (by omega) (by rw [hlA];exact h)
  have PY:=lh RA
  have Mk:=lh RB
  have Y6:=RA.row.ptr
  have Y8:=RB.row.ptr
  clear hlA hlB RA RB
  go_enter func75,ntmps75
  go_wp2
  go_loopw [4,22] (fun _ i wr=>∃ k:Nat,k<=nB/\i=.int .i64 k/\Hid (∀ v,v<k->(aJ (ae A v) nB && aJ (ae B v) nB)=true)/\Ic w wr [.blk w.heap.size 67 #[.slice pA nB cA,.slice pB nB cB]]) (fun _ i _=>nB - (intOf i).toNat)
  case atStart=>exact⟨0,Nat.zero_le _,rfl,fun v hv=>by omega,S0.out⟩
  case round =>
   clear S0
   obtain⟨k,hk,rfl,HK,S⟩:=hrel
   obtain⟨b0,b1,bz⟩:=aH (S.blk 0 rfl)
   by_cases hlt:k<nB
   ·have gA:=S.ext.cell (PY.out.row.cH hlt)
    have gB:=S.ext.cell (Mk.out.row.cH hlt)
    have d1:(0:Int)<=k:=by omega
    have d2:(k:Int)<nB:=by omega
    have eA:=PY.out.each k hlt
    have eB:=Mk.out.each k hlt
    have JN:=lh (fun W (h:Ext w W)=>Ac (ae hA k).p (ae hA k).n (ae hA k).c (ae A k) nB W (eA.ext h) (by omega))
    have JG:=lh (fun W (h:Ext w W)=>Ac (ae hB k).p (ae hB k).n (ae hB k).c (ae B k) nB W (eB.ext h) (by omega))
    obtain⟨ha,Qo⟩:∃ x,ae hA k=x:=⟨_,rfl⟩
    obtain⟨hb,Mq⟩:∃ x,ae hB k=x:=⟨_,rfl⟩
    rw [Qo] at gA JN
    rw [Mq] at gB JG
    obtain⟨ap,an,ac⟩:=ha
    obtain⟨bp,bn,bc⟩:=hb
    simp only at gA gB JN JG
    have KN:=fun W (h:Ext wr W)=>h.cell gB
    clear eA eB Qo Mq
    cases hr1:aJ (ae A k) nB with
    | false =>
     have HF:Hid (ci A B=false):=HN.out k hlt (by rw [hr1];rfl)
     rw [hr1] at JN
     clear hr1 HN HY HK KN
     have SH:=lh S;clear S
     go_wp2_with (go_at_call 126;have _t:=SH;go_must (refine(JN.out _ SH.out.ext).mono ?_;rintro e w3 ⟨rfl,hb⟩;have S3:=lh (SH.out.call hb);have z0:=((SH.out.call hb).blk 0 rfl).cell 0;have z1:=((SH.out.call hb).blk 0 rfl).cell 1;have zz:=((SH.out.call hb).blk 0 rfl).lt;clear hb))
     go_ret
     exact⟨by rw [HF.out];rfl,S3.out.ext⟩
    | true =>
     rw [hr1] at JN
     cases hr2:aJ (ae B k) nB with
     | false =>
      have HF:Hid (ci A B=false):=HN.out k hlt (by rw [hr1,hr2];rfl)
      rw [hr2] at JG
      clear hr1 hr2 HN HY HK
      have NV:=lh KN
      clear KN
      have SH:=lh S;clear S
      go_wp2_with (first | (go_at_call 126;have _t:=S3;go_must (refine(JG.out _ S3.out.ext).mono ?_;rintro e w4 ⟨rfl,hb⟩;have S4:=lh (S3.out.call hb);clear hb)) | (go_at_call 126;have _t:=SH;go_must (refine(JN.out _ SH.out.ext).mono ?_;rintro e w3 ⟨rfl,hb⟩;have S3:=lh (SH.out.call hb);have g3:=NV.out _ hb;have z0:=((SH.out.call hb).blk 0 rfl).cell 0;have z1:=((SH.out.call hb).blk 0 rfl).cell 1;have zz:=((SH.out.call hb).blk 0 rfl).lt;clear hb)))
      go_ret
      exact⟨by rw [HF.out];rfl,S4.out.ext⟩
     | true =>
      have Kj:Hid (∀ v,v<k+1->(aJ (ae A v) nB && aJ (ae B v) nB)=true):=fun v hv=>by
       by_cases e:v=k
       ·subst e;rw [hr1,hr2];rfl
       ·exact HK.out v (by omega)
      rw [hr2] at JG
      clear hr1 hr2 HN HY HK
      have NV:=lh KN
      clear KN
      have SH:=lh S;clear S
      go_wp2_with (first | (go_at_call 126;have _t:=S3;go_must (refine(JG.out _ S3.out.ext).mono ?_;rintro e w4 ⟨rfl,hb⟩;have S4:=lh (S3.out.call hb);clear hb)) | (go_at_call 126;have _t:=SH;go_must (refine(JN.out _ SH.out.ext).mono ?_;rintro e w3 ⟨rfl,hb⟩;have S3:=lh (SH.out.call hb);have g3:=NV.out _ hb;have z0:=((SH.out.call hb).blk 0 rfl).cell 0;have z1:=((SH.out.call hb).blk 0 rfl).cell 1;have zz:=((SH.out.call hb).blk 0 rfl).lt;clear hb)))
      go_roundw
      case rel=>exact⟨k+1,by omega,by go_num,Kj.out,S4.out⟩
      case measure=>simp [intOf];omega
   ·obtain rfl:k=nB:=by omega
    have HF:Hid (ci A B=true):=HY.out HK.out
    have SH:=lh S;clear S
    go_wp2
    go_ret
    exact⟨by rw [HF.out];rfl,SH.out.ext⟩
 ·have HF:Hid (ci A B=false):=tE (by omega)
  clear RA RB hlA hlB
  by_cases h1:nA<1
  ·have c1:decide ((nA:Int)<1)=true:=by simp;omega
   clear hp h1
   go_enter func75,ntmps75
   go_wp2
   go_ret
   exact⟨by rw [HF.out];rfl,S0.out.ext⟩
  ·have c1:decide ((nA:Int)<1)=false:=by simp;omega
   by_cases h2:200<nA
   ·have c2:decide ((200:Int)<nA)=true:=by simp;omega
    clear hp h1 h2
    go_enter func75,ntmps75
    go_wp2
    go_ret
    exact⟨by rw [HF.out];rfl,S0.out.ext⟩
   ·have c2:decide ((200:Int)<nA)=false:=by simp;omega
    have c3:((nB:Int) != (nA:Int))=true:=by simp;omega
    clear hp h1 h2
    go_enter func75,ntmps75
    go_wp2
    go_ret
    exact⟨by rw [HF.out];rfl,S0.out.ext⟩
def bJ (A B:jC) (f t:Int):Bool:=ci A B && decide (0<=f) && decide (f<A.length) && decide (0<=t) && decide (t<A.length)
def bP (A B:jC) (f t:Int):Int:=if bJ A B f t=true then (dN (ae A f.toNat) (ae B t.toNat)).1 else 0
def bQ (A B:jC) (f t:Int):Bool:=if bJ A B f t=true then (dN (ae A f.toNat) (ae B t.toNat)).2 else false
def bK (A B:jC) (f t:Int):Int:=if bJ A B f t=true then 0 else 1
theorem Cp (pA:Option Addr) (nA cA:Nat) (hA:List Hd) (A:jC) (pB:Option Addr) (nB cB:Nat) (hB:List Hd) (B:jC) (f t:Int) (w:World) (RA:JD w pA nA hA A) (RB:JD w pB nB hB B):Calls prog 78 #[.agg #[.slice pA nA cA,.slice pB nB cB],.int .i64 f,.int .i64 t] w fun e w'=>e=.returned (.tuple #[.int .i64 (bP A B f t),.bool (bQ A B f t),.int .i64 (bK A B f t)])/\Ext w w':=by
 have S0:=lh ((Ic.start w).al #[.slice pA nA cA,.slice pB nB cB] 67 w.heap.size rfl)
 have HC:=lh (fun W (h:Ext w W)=>wu pA nA cA hA A pB nB cB hB B W (RA.ext h) (RB.ext h))
 have hlA:=RA.len
 cases hc:ci A B with
 | false =>
  rw [hc] at HC
  clear RA RB
  have hq:bJ A B f t=false:=by(unfold bJ;rw [hc];rfl)
  have HQ:Hid (bP A B f t=0/\bQ A B f t=false/\bK A B f t=1):=by(unfold Hid bP bQ bK;rw [hq];exact⟨rfl,rfl,rfl⟩)
  clear hq hlA hc
  go_enter func78,ntmps78
  go_wp2_with (go_at_call 75;go_must (refine(HC.out _ S0.out.ext).mono ?_;rintro e w1 ⟨rfl,hb⟩;have S1:=lh (S0.out.call hb);have x0:=((S0.out.call hb).blk 0 rfl).cell 0;have x1:=((S0.out.call hb).blk 0 rfl).cell 1;have xz:=((S0.out.call hb).blk 0 rfl).lt;clear hb))
  go_ret3
  exact⟨by rw [HQ.out.1,HQ.out.2.1,HQ.out.2.2];rfl,S1.out.ext⟩
 | true =>
  rw [hc] at HC
  by_cases h1:f<0
  ·have c1:decide (f<0)=true:=by simpa using h1
   clear RA RB
   have hq:bJ A B f t=false:=by(unfold bJ;rw [hc,decide_eq_false (show ¬ 0<=f by omega)];rfl)
   have HQ:Hid (bP A B f t=0/\bQ A B f t=false/\bK A B f t=1):=by(unfold Hid bP bQ bK;rw [hq];exact⟨rfl,rfl,rfl⟩)
   clear hq hlA hc h1
   go_enter func78,ntmps78
   go_wp2_with (go_at_call 75;go_must (refine(HC.out _ S0.out.ext).mono ?_;rintro e w1 ⟨rfl,hb⟩;have S1:=lh (S0.out.call hb);have x0:=((S0.out.call hb).blk 0 rfl).cell 0;have x1:=((S0.out.call hb).blk 0 rfl).cell 1;have xz:=((S0.out.call hb).blk 0 rfl).lt;clear hb))
   go_ret3
   exact⟨by rw [HQ.out.1,HQ.out.2.1,HQ.out.2.2];rfl,S1.out.ext⟩
  ·have c1:decide (f<0)=false:=by simpa using h1
   by_cases h2:(nA:Int)<=f
   ·have c2:decide ((nA:Int)<=f)=true:=by simpa using h2
    clear RA RB
    have hq:bJ A B f t=false:=by(unfold bJ;rw [decide_eq_false (show ¬ f<A.length by omega)];simp)
    have HQ:Hid (bP A B f t=0/\bQ A B f t=false/\bK A B f t=1):=by(unfold Hid bP bQ bK;rw [hq];exact⟨rfl,rfl,rfl⟩)
    clear hq hlA hc h1 h2
    go_enter func78,ntmps78
    go_wp2_with (go_at_call 75;go_must (refine(HC.out _ S0.out.ext).mono ?_;rintro e w1 ⟨rfl,hb⟩;have S1:=lh (S0.out.call hb);have x0:=((S0.out.call hb).blk 0 rfl).cell 0;have x1:=((S0.out.call hb).blk 0 rfl).cell 1;have xz:=((S0.out.call hb).blk 0 rfl).lt;clear hb))
    go_ret3
    exact⟨by rw [HQ.out.1,HQ.out.2.1,HQ.out.2.2];rfl,S1.out.ext⟩
   ·have c2:decide ((nA:Int)<=f)=false:=by simpa using h2
    by_cases h3:t<0
    ·have c3:decide (t<0)=true:=by simpa using h3
     clear RA RB
     have hq:bJ A B f t=false:=by(unfold bJ;rw [decide_eq_false (show ¬ 0<=t by omega)];simp)
     have HQ:Hid (bP A B f t=0/\bQ A B f t=false/\bK A B f t=1):=by(unfold Hid bP bQ bK;rw [hq];exact⟨rfl,rfl,rfl⟩)
     clear hq hlA hc h1 h2 h3
     go_enter func78,ntmps78
     go_wp2_with (go_at_call 75;go_must (refine(HC.out _ S0.out.ext).mono ?_;rintro e w1 ⟨rfl,hb⟩;have S1:=lh (S0.out.call hb);have x0:=((S0.out.call hb).blk 0 rfl).cell 0;have x1:=((S0.out.call hb).blk 0 rfl).cell 1;have xz:=((S0.out.call hb).blk 0 rfl).lt;clear hb))
     go_ret3
     exact⟨by rw [HQ.out.1,HQ.out.2.1,HQ.out.2.2];rfl,S1.out.ext⟩
    ·have c3:decide (t<0)=false:=by simpa using h3
     by_cases h4:(nA:Int)<=t
     ·have c4:decide ((nA:Int)<=t)=true:=by simpa using h4
      clear RA RB
      have hq:bJ A B f t=false:=by(unfold bJ;rw [decide_eq_false (show ¬ t<A.length by omega)];simp)
      have HQ:Hid (bP A B f t=0/\bQ A B f t=false/\bK A B f t=1):=by(unfold Hid bP bQ bK;rw [hq];exact⟨rfl,rfl,rfl⟩)
      clear hq hlA hc h1 h2 h3 h4
      go_enter func78,ntmps78
      go_wp2_with (go_at_call 75;go_must (refine(HC.out _ S0.out.ext).mono ?_;rintro e w1 ⟨rfl,hb⟩;have S1:=lh (S0.out.call hb);have x0:=((S0.out.call hb).blk 0 rfl).cell 0;have x1:=((S0.out.call hb).blk 0 rfl).cell 1;have xz:=((S0.out.call hb).blk 0 rfl).lt;clear hb))
      go_ret3
      exact⟨by rw [HQ.out.1,HQ.out.2.1,HQ.out.2.2];rfl,S1.out.ext⟩
     ·have c4:decide ((nA:Int)<=t)=false:=by simpa using h4
      have hq:bJ A B f t=true:=by
       unfold bJ
       rw [hc,decide_eq_true (show 0<=f by omega),decide_eq_true (show f<A.length by omega),decide_eq_true (show 0<=t by omega),decide_eq_true (show t<A.length by omega)];rfl
      unfold bP bQ bK
      rw [if_pos hq,if_pos hq,if_pos hq]
      obtain⟨a,rfl⟩:∃ a:Nat,f=a:=⟨f.toNat,by omega⟩
      obtain⟨b,rfl⟩:∃ b:Nat,t=b:=⟨t.toNat,by omega⟩
      rw [Int.toNat_natCast,Int.toNat_natCast]
      obtain⟨⟨p1,p2,p3⟩,p4⟩:=og hc
      have hlB:=RB.len
      have ha:a<nA:=by omega
      have hb:b<nB:=by omega
      have eA:=RA.each a ha
      have eB:=RB.each b hb
      have gA:=RA.row.cH ha
      have gB:=RB.row.cH hb
      have qA:=RA.row.ptr
      have qB:=RB.row.ptr
      have HL:=lh (fun W (h:Ext w W)=>Ek (ae hA a).p (ae hA a).n (ae hA a).c (ae A a) (ae hB b).p (ae hB b).n (ae hB b).c (ae B b) W (eA.ext h) (eB.ext h) (_l (p4 a (by omega)).1) (_l (p4 b (by omega)).2))
      obtain⟨xa,hxa⟩:∃ x,ae hA a=x:=⟨_,rfl⟩
      obtain⟨xb,hxb⟩:∃ x,ae hB b=x:=⟨_,rfl⟩
      rw [hxa] at gA HL
      rw [hxb] at gB HL
      obtain⟨ap,an,ac⟩:=xa
      obtain⟨bp,bn,bc⟩:=xb
      simp only at gA gB HL
      obtain⟨r,hr⟩:∃ r,dN (ae A a) (ae B b)=r:=⟨_,rfl⟩
      rw [hr] at HL ⊢
      obtain⟨rn,rk⟩:=r
      simp only at HL ⊢
      have d1:(0:Int)<=a:=by omega
      have d2:(a:Int)<nA:=by omega
      have d3:(0:Int)<=b:=by omega
      have d4:(b:Int)<nB:=by omega
      have Nz:=lh gA
      have Tz:=lh gB
      have X9:decide (nA<=a)=false:=by simp;omega
      have Yb:decide (nA<=b)=false:=by simp;omega
      clear RA RB hlA hlB hq hc h1 h2 h3 h4 p1 p2 p3 p4 eA eB hxa hxb hr gA gB
      go_enter func78,ntmps78
      go_wp2_with (go_at_call 75;go_must (refine(HC.out _ S0.out.ext).mono ?_;rintro e w1 ⟨rfl,hb⟩;have S1:=lh (S0.out.call hb);have x0:=((S0.out.call hb).blk 0 rfl).cell 0;have x1:=((S0.out.call hb).blk 0 rfl).cell 1;have xz:=((S0.out.call hb).blk 0 rfl).lt;clear hb))
      have gA:=S1.out.ext.cell Nz.out
      have gB:=S1.out.ext.cell Tz.out
      have u0:=fun x:Ie w1=>x.ext.cell x0
      have u1:=fun x:Ie w1=>x.ext.cell x1
      have u2:=fun x:Ie w1=>x.ext.cell gA
      have u3:=fun x:Ie w1=>x.ext.cell gB
      refine aT [true,true,true,true,true,true,true,true,true,true,false,false,false,false,false,false] (Iy 10 rn rk) (by kernel_rfl) (by kernel_rfl) (by kernel_rfl) (fun _ _ _ _ _ h=>⟨h.a,h.b',h.c1,h.c2,h.d1,h.d2⟩) ?_
      simp only [pJ]
      repeat (go_big_quiet_step ((fail)))
      refine wpQuiet_nil ⟨⟨fun vs W1 hE hd=>?_,fun vs W1 hE hd=>?_,fun vs W1 hE hd=>?_,fun vs W1 hE hd=>?_,fun vs W1 hE hd=>?_,fun vs W1 hE hd=>?_,trivial⟩,fun vs W1 hE hkn=>?_⟩
      ·(simp [b8,go_sem];exact(HL.out _ (Ext.trans S1.out.ext hE)).mono fun e w' ⟨h1,h2⟩=>⟨_,h1,Iy.of (by simp),h2⟩)
      ·(have k1:=Iy.a (hd 10 (by decide +kernel) rfl) rfl;simp [b8,execOp,go_sem,k1];exact⟨Iy.of (by simp),Below.refl _ _⟩)
      ·(have k1:=Iy.b' (hd 11 (by decide +kernel) rfl) rfl;simp [b8,execOp,go_sem,k1];exact⟨Iy.of (by simp),Below.refl _ _⟩)
      ·(have k1:=Iy.b' (hd 11 (by decide +kernel) rfl) rfl;simp [b8,execOp,go_sem,k1];exact⟨Iy.of (by simp),Below.refl _ _⟩)
      ·(have k1:=Iy.c1 (hd 12 (by decide +kernel) rfl) rfl;simp [b8,execOp,go_sem,k1];exact⟨Iy.of (by simp),Below.refl _ _⟩)
      ·(have k1:=Iy.c2 (hd 13 (by decide +kernel) rfl) rfl;simp [b8,execOp,go_sem,k1];exact⟨Iy.of (by simp),Below.refl _ _⟩)
      simp only [j4] at hkn
      have k1:=Iy.d1 hkn.2.2.2.2.1 rfl
      have k2:=Iy.d2 hkn.2.2.2.2.2.1 rfl
      have S2:=lh (S1.out.call hE)
      simp only [b8,k1,k2,List.length_cons,List.length_nil,Nat.zero_add,Nat.reduceAdd,List.drop_succ_cons,List.drop_zero]
      try simp [Act.put]
      clear u0 u1 u2 u3 k1 k2 hkn x0 x1 xz gA gB hE
      go_wp2
      go_ret3
      exact⟨rfl,S2.out.ext⟩
theorem DJ (pA:Option Addr) (nA cA:Nat) (pB:Option Addr) (nB cB:Nat) (f t x y:Int) (o:Bool) (gb:Nat) (w:World) (hB:Ih w gb 67 #[.slice pA nA cA,.slice pB nB cB])
  (h:∀ W,Ext w W->Calls prog 78 #[.agg #[.slice pA nA cA,.slice pB nB cB],.int .i64 f,.int .i64 t] W fun e w'=>e=.returned (.tuple #[.int .i64 x,.bool o,.int .i64 y])/\Ext W w') :
  Calls prog 77 #[.int .i64 f,.int .i64 t,.pointer (some ⟨gb,0,none⟩)] w fun e w'=>e=.returned (.tuple #[.int .i64 x,.bool o,.int .i64 y])/\Ext w w':=by
 have l0:=hB.cell 0
 have l1:=hB.cell 1
 have lz:=hB.lt
 have HQ:=lh h
 clear h hB
 go_enter func77,ntmps77
 go_wp2_with (go_at_call 78;go_must (refine(HQ.out _ (Below.refl _ _)).mono ?_;rintro e w1 ⟨rfl,hb⟩;have E1:=lh hb;clear hb))
 go_ret3
 exact⟨rfl,E1.out⟩
def jg (c:Bool) (q k:Int):Int:=if c=false then 1 else if q=0 then (if k=3 then 180 else 0) else q
def jW (c:Bool) (q k:Int) (o:Bool):Bool:=if jg c q k=0 then o else false
def jX (c:Bool) (q k x:Int):Int:=if jg c q k=0 then (if k=2 then 0 else x) else 0
end Go.Proofs.YtfjhjennfiihhaaGreat
