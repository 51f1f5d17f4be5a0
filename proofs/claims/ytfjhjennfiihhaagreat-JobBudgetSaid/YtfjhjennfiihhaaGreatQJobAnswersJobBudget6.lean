/- Texts of this claim, one behind the other: RngD, KpN, Jst20, Chk20, HeldR, FrmR, Run20, RunE20, PlainRm, RunG20, PlainCl, RunCl, Hn1, Hn2, Hn3, HnM, Hn4, Hn5, Hn6, Nr1, Nr2, Nr5, ExN, Ex20, Jobs20, LPicks20, MapF, Ask20, Ask20b, Dst8c, Dst8d, Dst8e, Dst8f, Dst8g, Dst9a, PlainAk. -/
import Derived.Test.YtfjhjennfiihhaaGreatQJobAnswersJobBudget5
set_option maxRecDepth 100000
set_option maxHeartbeats 16000000
namespace Go.Proofs.YtfjhjennfiihhaaGreat
section
open Go Go.RowKit
def OwnX {β:Type} (B:Nat) (X:Nat→Prop) (I:β→World→Prop):Prop :=
 ∀ s W W' row,I s W→W.grownBy W' row→(∀ r,row=some r→(B≤r∧∃ o:Obj,W.heap[r]?=some o∧o.isCells=false)∨X r)→I s W'
theorem OwnX.putObj {β:Type} {B:Nat} {X:Nat→Prop} {I:β→World→Prop} (h:OwnX B X I) {s:β} {W:World} {l:Nat} {o:Obj} (o':Obj) (hs:I s W) (hB:B≤l) (hl:W.heap[l]?=some o) (ho:o.isCells=false):I s (W.putObj l o') :=
 h s W _ (some l) hs (grownBy_putObj' W l o') (fun r e=>by cases e;exact .inl ⟨hB,o,hl,ho⟩)
theorem OwnX.turn {β:Type} {B:Nat} {X:Nat→Prop} {I:β→World→Prop} (h:OwnX B X I) {s:β} {W:World} {l:Nat} (o':Obj) (hs:I s W) (hx:X l):I s (W.putObj l o') :=
 h s W _ (some l) hs (grownBy_putObj' W l o') (fun r e=>by cases e;exact .inr hx)
theorem OwnX.alloc {β:Type} {B:Nat} {X:Nat→Prop} {I:β→World→Prop} (h:OwnX B X I) {s:β} {W:World} (o:Obj) (hs:I s W):I s (W.alloc o) :=
 h s W _ none hs (World.grownBy_alloc W o none) (fun r e=>by cases e)
def SeqD {α:Type} (F:Fence) (n:Nat) (P:Program) (g:Nat) (lb:Array Value) (encs:α→Array Value) (X:Nat→Prop) (A:World→List α→α→World→Prop) (Kp:World→World→Prop) (S Sp Q:List α→Prop) (w:World):Prop :=
 ∀ (l:Nat) (J Jx:List α→World→Prop) (W:World),Below w.heap.size w W→OwnX W.heap.size X J→OwnX W.heap.size X Jx →
  (∀ pre V,J pre V→Q pre) →
  (∀ pre x V0 V,J pre V0→Ext V0 V→A V0 pre x V→YieldAt F (n - 1) P l (encs x) V fun e V' =>
   (e=.returned (.bool true)∧J (pre ++ [x]) V'∧Kp V V')∨(e=.returned (.bool false)∧Jx (pre ++ [x]) V')) →
  J [] W→CallsIn F n P g (#[.func (.yield l) #[] #[]] ++ lb) W fun e V=>(∃ v,e=.returned v)∧((∃ xs,S xs∧J xs V)∨(∃ pre,Sp pre∧Jx pre V))
section
variable {F:Fence} {n:Nat} {P:Program} {w:World}
theorem wpIn_rangeFunc_toldD {α:Type} {g:Operand} {ps:Array Tmp} {assign body:Code} {Q:Exit→Act→World→Prop} {a:Act}
  (hro:F.round=none) (h1:1≤n) {gf:Nat} {lb:Array Value} (hg:a.eval g=.func (.func gf) #[] lb) (hF:F.fn gf) (eg:∀ args w,(callFunc gf args).run P w=.ok (.enter gf args) w)
  {encs:α→Array Value} {X:Nat→Prop} {A:World→List α→α→World→Prop} {Kp:World→World→Prop} {S Sp Q':List α→Prop} {w0:World} (hseq:SeqD F (n - 1) P gf lb encs X A Kp S Sp Q' w0)
  (hX:∀ k,X k→k<w.heap.size) (hKt:∀ {X Y Z:World},Kp X Y→Kp Y Z→Kp X Z) (hKb:∀ (W:World) (l:Nat) (o o':Obj),w.heap.size≤l→W.heap[l]?=some o→o.isCells=false→o.isWalk=false→Kp W (W.putObj l o')) (hb0:Below w0.heap.size w0 w) (hps:∀ x,(encs x).size=ps.size)
  (I:List α→World→Prop) (Ix:Code→List α→World→Prop) (hI:OwnX w.heap.size X I) (hIx:∀ c,OwnX w.heap.size X (Ix c)) (hQ:∀ pre W,I pre W→Q' pre) (h0:I [] w)
  (Ax:List α→α→Act→World→Prop) (hAx:∀ pre x a',OwnX w.heap.size X (fun (_:Unit) W=>Ax pre x a' W))
  (hassign:∀ (l:Nat) (pre:List α) (x:α) (V0 W:World) (K:Act→World→Prop),I pre V0→Ext V0 W→A V0 pre x W→(∀ a' W',KeepsFrom w.heap.size W W'→Kp W W'→I pre W'→Ax pre x a' W'→K a' W') →
   assign.wpIn (F.inRound l) (n - 1 - 1) P (Exit.then K (fun _ _ _=>False)) { tmps:=(ps.zip (encs x)).foldl (fun t (p,v)=>t.setIfInBounds p v) a.tmps,defers:=[] } W)
  (hbody:∀ (l:Nat) (pre:List α) (x:α) (a':Act) (W:World),I pre W→Ax pre x a' W→body.wpIn (F.inRound l) (n - 1 - 1) P (ownPostG w.heap.size Kp I Ix (pre ++ [x]) W) a' W)
  (hdone:∀ (D:Nat) (xs:List α) (W:World),w.heap.size≤D→S xs→I xs W→W.heap[D]?=some (.deferred (some []))→Q .normal { a with defers:={ target:=.collected D,args:=#[] } :: a.defers } W)
  (hstop:∀ (D:Nat) (c:Code) (pre:List α) (W:World),w.heap.size≤D→Sp pre→Ix c pre W→W.heap[D]?=some (.deferred (some []))→c.wpIn F n P Q { a with defers:={ target:=.collected D,args:=#[] } :: a.defers } W) :
  (Code.rangeFunc g ps assign body).wpIn F n P Q a w:=by
 refine wpIn_rangeFunc fun fn hfn=>?_
 rw [hro]
 have hB:w.heap.size≤w.heap.size+1:=Nat.le_succ _
 obtain⟨mk,hmk⟩:∃ mk:LoopState→Option Code→Loop,mk=fun st pe=>{ state:=st,pending:=pe,fn,tmps:=a.tmps,params:=ps,assign,body,defers:=w.heap.size }:=⟨_,rfl⟩
 obtain⟨V,hV⟩:∃ V,(w.alloc (.deferred (some []))).alloc (.loop (mk .ready none))=V:=⟨_,rfl⟩
 have hVl:V.heap[w.heap.size+1]?=some (.loop (mk .ready none)):=by
  have h:=World.alloc_heap_new (w.alloc (.deferred (some []))) (.loop (mk .ready none))
  rw [World.size_alloc] at h
  rw [← hV];exact h
 have hVd:V.heap[w.heap.size]?=some (.deferred (some [])):=by
  rw [← hV];exact(Below.heap_alloc _ _ _ (by simp)).trans (World.alloc_heap_new w _)
 have hVb:Below w0.heap.size w0 V:=by
  rw [← hV];exact hb0.trans ((((Below.refl _ w).alloc (Nat.le_refl _) _).alloc (by simp) _).mono hb0.size)
 have hVs:w.heap.size≤V.heap.size:=by have:=(Array.getElem?_eq_some_iff.1 hVd).1;omega
 have hV0:I [] V:=by rw [← hV];exact(hI.alloc _ (hI.alloc _ h0))
 have lV:w.heap.size+1<V.heap.size:=(Array.getElem?_eq_some_iff.1 hVl).1
 have keep:∀ {Y Z:World} {row:Option Nat} {k:Nat} {o:Obj},Y.grownBy Z row→(∀ r,row=some r→(V.heap.size≤r∧∃ o:Obj,Y.heap[r]?=some o∧o.isCells=false)∨X r)→w.heap.size≤k→k<V.heap.size→Y.heap[k]?=some o→Z.heap[k]?=some o:=fun {Y Z row k o} hg hr hk0 hk hY=>(hg.block k (Array.getElem?_eq_some_iff.1 hY).1 (fun e=>by
  rcases hr k e.symm with h | h
  ·have:=h.1;omega
  ·have:=hX k h;omega)).trans hY
 have loose:∀ {Y:World} {row:Option Nat},(∀ r,row=some r→(V.heap.size≤r∧∃ o:Obj,Y.heap[r]?=some o∧o.isCells=false)∨X r)→∀ r,row=some r→(w.heap.size≤r∧∃ o:Obj,Y.heap[r]?=some o∧o.isCells=false)∨X r:=fun hr r e=>(hr r e).imp (fun h=>⟨Nat.le_trans hVs h.1,h.2⟩) id
 refine⟨w.heap.size+1,[{ target:=.collected w.heap.size,args:=#[] }],V,{ target:=.fn (.func gf) lb,args:=#[.func (.yield (w.heap.size+1)) #[] #[]] },V,gf,#[.func (.yield (w.heap.size+1)) #[] #[]] ++ lb,V,?_,?_,?_,?_,fun _=>h1,?_⟩
 ·rw [← hV,hmk];exact run_enterLoop_outer _ _ _ _ _
 ·simp only [resolve,hg];simp [go_sem]
 ·intro f' hf';simp [Target.leads] at hf';subst hf';exact hF
 ·simp [invoke,go_sem,eg]
 refine(hseq (w.heap.size+1)
  (fun pre W=>I pre W∧W.heap[w.heap.size+1]?=some (.loop (mk .ready none))∧W.heap[w.heap.size]?=some (.deferred (some [])))
  (fun pre W=>∃ c,Ix c pre W∧W.heap[w.heap.size+1]?=some (.loop (mk .done (some c)))∧W.heap[w.heap.size]?=some (.deferred (some []))) V hVb
  (fun s Y Z row h hg hr=>⟨hI s Y Z row h.1 hg (loose hr),keep hg hr (by omega) lV h.2.1,keep hg hr (Nat.le_refl _) (by omega) h.2.2⟩)
  (fun s Y Z row h hg hr=>h.elim fun c h=>⟨c,hIx c s Y Z row h.1 hg (loose hr),keep hg hr (by omega) lV h.2.1,keep hg hr (Nat.le_refl _) (by omega) h.2.2⟩)
  (fun pre W h=>hQ pre W h.1) ?_ ⟨hV0,hVl,hVd⟩).mono ?_
 ·rintro pre x V0 W ⟨hi0,hl0,hk0⟩ hE0 hax
  have hl:W.heap[w.heap.size+1]?=some (.loop (mk .ready none)):=(hE0.block _ (Array.getElem?_eq_some_iff.1 hl0).1).trans hl0
  have hk:W.heap[w.heap.size]?=some (.deferred (some [])):=(hE0.block _ (Array.getElem?_eq_some_iff.1 hk0).1).trans hk0
  have hlt:w.heap.size+1<W.heap.size:=(Array.getElem?_eq_some_iff.1 hl).1
  have hy:=run_yield (P:=P) (args:=encs x) hl (by rw [hmk];exact hps x)
  rw [hmk] at hy
  refine⟨fn,_,assign,body,hy,roundIn_of_wpIn hfn (hassign _ pre x V0 W _ hi0 hE0 hax fun a' W1 hK1 hp1 hi1 hax1=>?_)⟩
  have hl1:W1.heap[w.heap.size+1]?=some (.loop (mk .ready none)):=hK1.same _ _ hB hl rfl
  have hk1:W1.heap[w.heap.size]?=some (.deferred (some [])):=hK1.same _ _ (Nat.le_refl _) hk rfl
  have hlt1:w.heap.size+1<W1.heap.size:=(Array.getElem?_eq_some_iff.1 hl1).1
  refine⟨_,run_beginRound hl1 (by rw [hmk]),?_⟩
  have l2:(W1.putObj (w.heap.size+1) (.loop { mk .ready none with state:=.busy })).heap[w.heap.size+1]?=some (.loop { mk .ready none with state:=.busy }):=World.putObj_heap_same hlt1
  have k2:(W1.putObj (w.heap.size+1) (.loop { mk .ready none with state:=.busy })).heap[w.heap.size]?=some (.deferred (some [])):=(World.putObj_heap_other (by omega)).trans hk1
  have p2:Kp W (W1.putObj (w.heap.size+1) (.loop { mk .ready none with state:=.busy })):=hKt hp1 (hKb _ _ _ _ hB hl1 rfl rfl)
  refine wpIn_mono (hbody _ pre x a' _ (hI.putObj _ hi1 hB hl1 rfl) ((hAx pre x a').putObj (s:=()) _ hax1 hB hl1 rfl)) ?_
  have fin:∀ (jump:Option Code) (Y:World),KeepsFrom w.heap.size (W1.putObj (w.heap.size+1) (.loop { mk .ready none with state:=.busy })) Y →
    (Instr.endRound (w.heap.size+1) jump).run P Y=.ok (.bool jump.isNone) (Y.putObj (w.heap.size+1) (.loop (mk (if jump.isNone then .ready else .done) jump))) ∧
    Y.heap[w.heap.size+1]?=some (.loop { mk .ready none with state:=.busy }) ∧
    (Y.putObj (w.heap.size+1) (.loop (mk (if jump.isNone then .ready else .done) jump))).heap[w.heap.size+1]?=some (.loop (mk (if jump.isNone then .ready else .done) jump)) ∧
    (Y.putObj (w.heap.size+1) (.loop (mk (if jump.isNone then .ready else .done) jump))).heap[w.heap.size]?=some (.deferred (some [])):=fun jump Y hY=>by
   have l3:=hY.same _ _ hB l2 rfl
   have hr:=run_endRound (P:=P) jump l3
   rw [hmk] at hr l3 ⊢
   exact⟨hr,l3,World.putObj_heap_same (Array.getElem?_eq_some_iff.1 l3).1,(World.putObj_heap_other (by omega)).trans (hY.same _ _ (Nat.le_refl _) k2 rfl)⟩
  rintro e a3 Y hp
  cases e with
  | normal =>
   obtain⟨hY,hkp,hi3⟩:=hp
   obtain⟨r1,r2,r3,r4⟩:=fin none Y hY
   exact⟨_,_,r1,.inl ⟨rfl,⟨hI.putObj _ hi3 hB r2 rfl,r3,r4⟩,hKt (hKt p2 hkp) (hKb _ _ _ _ hB r2 rfl rfl)⟩⟩
  | ret =>
   obtain⟨r1,r2,r3,r4⟩:=fin (some .ret) Y hp.1
   exact⟨_,_,r1,.inr ⟨rfl,.ret,(hIx _).putObj _ hp.2 hB r2 rfl,r3,r4⟩⟩
  | exit id =>
   obtain⟨r1,r2,r3,r4⟩:=fin (some (.exit id)) Y hp.1
   exact⟨_,_,r1,.inr ⟨rfl,.exit id,(hIx _).putObj _ hp.2 hB r2 rfl,r3,r4⟩⟩
  | goto t =>
   obtain⟨r1,r2,r3,r4⟩:=fin (some (.goto t)) Y hp.1
   exact⟨_,_,r1,.inr ⟨rfl,.goto t,(hIx _).putObj _ hp.2 hB r2 rfl,r3,r4⟩⟩
  | panic ch=>exact hp.elim
  | outgrown=>exact hp.elim
 ·rintro e Y ⟨⟨v,rfl⟩,(⟨xs,hS,hi,hl,hk⟩ | ⟨pre,hSp,c,hi,hl,hk⟩)⟩
  ·have hr:=run_endLoop (P:=P) hl (by rw [hmk];simp)
   rw [hmk] at hr
   exact⟨none,_,hr,hdone _ xs _ (Nat.le_refl _) hS (hI.putObj _ hi hB hl (by rw [hmk];rfl)) ((World.putObj_heap_other (by omega)).trans hk)⟩
  ·have hr:=run_endLoop (P:=P) hl (by rw [hmk];simp)
   rw [hmk] at hr
   exact⟨some c,_,hr,hstop _ c pre _ (Nat.le_refl _) hSp ((hIx c).putObj _ hi hB hl (by rw [hmk];rfl)) ((World.putObj_heap_other (by omega)).trans hk)⟩
end
end
section
open Go Go.RowKit
structure KpN (Bd:Nat→Prop) (C:Nat) (V V':World):Prop where
 os:V'.os=V.os
 tape:V'.tape=V.tape
 output:V'.output=V.output
 size:V.heap.size≤V'.heap.size
 block:∀ k o,¬ Bd k→V.heap[k]?=some o→(k<C∨o.isCells=true)→V'.heap[k]?=some o
theorem KpN.trans {Bd:Nat→Prop} {C:Nat} {X Y Z:World} (h:KpN Bd C X Y) (g:KpN Bd C Y Z):KpN Bd C X Z :=
 ⟨g.os.trans h.os,g.tape.trans h.tape,g.output.trans h.output,Nat.le_trans h.size g.size,fun k o hk ho hc=>g.block k o hk (h.block k o hk ho hc) hc⟩
theorem KpN.of_ext {Bd:Nat→Prop} {C:Nat} {X Y:World} (h:Ext X Y):KpN Bd C X Y :=
 ⟨h.os,h.tape,h.output,h.size,fun k _ _ ho _=>(h.block k (Array.getElem?_eq_some_iff.1 ho).1).trans ho⟩
theorem KpN.putObj {Bd:Nat→Prop} {C:Nat} (W:World) (l:Nat) (o o':Obj) (hl:C≤l) (h:W.heap[l]?=some o) (hc:o.isCells=false):KpN Bd C W (W.putObj l o'):=by
 have g:=grownBy_putObj' W l o'
 refine⟨g.os,g.tape,g.output,g.size,fun k o2 _ h2 h3=>?_⟩
 by_cases e:k=l
 ·subst e
  rw [h] at h2
  cases h2
  rcases h3 with h3 | h3
  ·omega
  ·rw [hc] at h3;cases h3
 ·rw [World.putObj_heap_other (by omega)];exact h2
theorem KpN.own {Bd:Nat→Prop} {C:Nat} (W:World) (l:Nat) (o':Obj) (hl:Bd l):KpN Bd C W (W.putObj l o'):=by
 have g:=grownBy_putObj' W l o'
 refine⟨g.os,g.tape,g.output,g.size,fun k o2 hk h2 h3=>?_⟩
 have e:k≠l:=fun e=>hk (e ▸ hl)
 rw [World.putObj_heap_other (by omega)];exact h2
theorem KpN.cell {Bd:Nat→Prop} {C:Nat} (W:World) (a:Addr) (u:Value) (hl:Bd a.block):KpN Bd C W (W.setCell a u):=by
 have g:=grown_set W a u
 refine⟨g.os,g.tape,g.output,g.size,fun k o2 hk h2 h3=>?_⟩
 exact(g.block k (Array.getElem?_eq_some_iff.1 h2).1 (fun e=>hk (by injection e with e;rw [← e] at hl;exact hl))).trans h2
theorem Sep.kpN {w0 V V':World} {Γ:List Pc} {Bd:Nat→Prop} {C:Nat} (S:Sep w0 V Γ) (hΓ:∀ p∈Γ,p.cells) (hf:∀ p∈Γ,∀ k,p.foot k→¬ Bd k) (hB:∀ k,Bd k→w0.heap.size≤k) (hC:w0.heap.size≤C) (h:KpN Bd C V V'):Sep w0 V' Γ:=by
 refine⟨⟨h.os.trans S.ext.os,h.tape.trans S.ext.tape,h.output.trans S.ext.output,Nat.le_trans S.ext.size h.size,fun k hk=>?_⟩,fun p hp=>p.loc V V' (S.all p hp) fun k hk=>?_,S.new,S.apart⟩
 ·have hkV:k<V.heap.size:=Nat.lt_of_lt_of_le hk S.ext.size
  have e:=Array.getElem?_eq_getElem hkV
  rw [h.block k _ (fun hb=>by have:=hB k hb;omega) e (Or.inl (Nat.lt_of_lt_of_le hk hC)),← e]
  exact S.ext.block k hk
 ·obtain⟨o,h1,h2⟩:=hΓ p hp V (S.all p hp) k hk
  rw [h1]
  exact h.block k o (hf p hp k hk) h1 (Or.inr h2)
theorem Sep.turnX {w0 w w':World} {Γ:List Pc} {row:Option Nat} {B:Nat} {X:Nat→Prop} (S:Sep w0 w Γ) (hΓ:∀ p∈Γ,p.cells) (hX:∀ p∈Γ,∀ k,p.foot k→¬ X k) (hX0:∀ k,X k→w0.heap.size≤k) (hB:w0.heap.size≤B) (hg:w.grownBy w' row) (hr:∀ r,row=some r→(B≤r∧∃ o:Obj,w.heap[r]?=some o∧o.isCells=false)∨X r):Sep w0 w' Γ:=by
 refine⟨⟨hg.os.trans S.ext.os,hg.tape.trans S.ext.tape,hg.output.trans S.ext.output,Nat.le_trans S.ext.size hg.size,fun k hk=>(hg.block k (Nat.lt_of_lt_of_le hk S.ext.size) (fun e=>?_)).trans (S.ext.block k hk)⟩,
  fun p hp=>p.loc w w' (S.all p hp) fun k hk=>hg.block k (S.lt hp hk) (fun e=>?_),S.new,S.apart⟩
 ·rcases hr k e.symm with h | h
  ·have:=h.1;omega
  ·have:=hX0 k h;omega
 ·rcases hr k e.symm with ⟨_,o,h1,h2⟩ | h
  ·obtain⟨o',h3,h4⟩:=hΓ p hp w (S.all p hp) k hk
   rw [h1] at h3
   injection h3 with h3
   subst h3
   rw [h2] at h4;cases h4
  ·exact hX p hp k hk h
end
section
open Go Go.RowKit
attribute [local go_sem] Oper.semAt_some
structure YdT where
 yes:Bool
 d:Int
 F:List (Int × Int)
 q:Option Addr
 c:Nat
 dn:Bool
def ydE (y:YdT):Array Value:=#[.agg #[.bool y.yes,.int .i64 y.d,.slice y.q y.F.length y.c],.bool y.dn]
def ydA (k t:Int) (L:List Po) (ws:List ByteArray) (most:Int) (rn:Nat→List Sq × List Sq) (V0:World) (pre:List YdT) (y:YdT) (V:World):Prop :=
 Sep V0 V [.own 105 2 y.q y.F.length y.c (encE y.F)]∧AnsD k t L ws most (rn (pre.length+1)) y.yes y.d y.F∧y.dn=doneB k t (rn (pre.length+1))
theorem StepsG (b:Nat) (w:World):Calls Tryz.prog 52 #[.pointer (some ⟨b,0,none⟩)] w fun e w'=>e=.returned (.func (.func 93) #[] #[.pointer (some ⟨w.heap.size,0,none⟩)])∧w'=w.alloc (.cells #[.pointer (some ⟨b,0,none⟩)] 82):=by
 go_enter Tryz.func52,Tryz.ntmps52
 go_wp2
 go_ret
 exact⟨rfl,rfl⟩
theorem gst_cells {b bx:Nat} {cs cs2:Array Value} {t1 t2 e1 e2:TypeId} {q1 q2:Option Addr} {n1 c1 n2 c2:Nat} {x1 x2:List Value}:∀ p∈[Pc.blk b t1 cs,Pc.blk bx t2 cs2,Pc.own e1 4 q1 n1 c1 x1,Pc.own e2 4 q2 n2 c2 x2],p.cells:=by
 intro p hp
 simp only [List.mem_cons,List.not_mem_nil,or_false] at hp
 rcases hp with rfl | rfl | rfl | rfl
 ·exact Pc.blk_cells _ _ _
 ·exact Pc.blk_cells _ _ _
 ·exact Pc.own_cells _ _ _ _ _ _
 ·exact Pc.own_cells _ _ _ _ _ _
theorem stepsIt (n1:Nat) (hn1:1≤n1) (k f t:Int) (pw:Option Addr) (nw cw:Nat) (ws:List ByteArray) (rad most:Int) (po:Option Addr) (no co:Nat) (O:List Int) (pt:Option Addr) (nt ct:Nat) (T:List Int) (pr:Option Addr) (nr cr:Nat) (R:List Int) (pv:Option Addr) (nv cv:Nat) (V:List Int) (pl:Option Addr) (nl cl:Nat) (hs:List Hd) (L:List Po) (wk:Nat) (pp:Option Addr) (np cp:Nat) (pk:List Int) (w0 w:World) (b bx:Nat) (pm:Option Addr) (nm cm:Nat) (n:Nat) (rn:Nat→List Sq × List Sq) (Bd:Nat→Prop) (hO:Rd w0 1 po no (encI O)) (hT:Rd w0 1 pt nt (encI T)) (hR:Rd w0 1 pr nr (encI R)) (hV:Rd w0 1 pv nv (encI V)) (hct:nt≤ct) (hcv:nv≤cv)
  (hL:RdP w0 pl nl hs L) (hW:Rd w0 1 pw nw (encS ws)) (hpk:Rd w0 1 pp np (encI pk)) (hck:checkR O T R V=true) (hn:O.length=n+1) (h200:n≤200) (h1:1≤wk) (h16:wk≤16)
  (hk:k=1∨k=2∨k=3) (ht:I64 t) (hcw:nw≤cw) (hnw:nw≤100) (hok:PoOk L)
  (hr0:(rn 0).1=[]) (hrn:∀ i,RunI n i (rn i)) (hrs:∀ i,rn (i+1)=stepM (nextL k rad true O T R V) (rn i).1 (rn i).2)
  (S0:Sep w0 w [Pc.blk b 87 #[.int .i64 k,.int .i64 f,.int .i64 t,.slice pw nw cw,.int .i64 rad,.int .i64 most,.slice po no co,.slice pt nt ct,.slice pr nr cr,.slice pv nv cv,.slice pl nl cl,.int .i64 wk,.slice pp np cp,.slice none 0 0,.slice pm nm cm],Pc.blk bx 82 #[.pointer (some ⟨b,0,none⟩)],Pc.own 146 4 none 0 0 (encQ (rn 0).1),Pc.own 138 4 pm nm cm (encQ (rn 0).2)]) (hBd:∀ k,Bd k→w0.heap.size≤k∧k<w.heap.size) (hBf:∀ p∈[Pc.blk b 87 #[.int .i64 k,.int .i64 f,.int .i64 t,.slice pw nw cw,.int .i64 rad,.int .i64 most,.slice po no co,.slice pt nt ct,.slice pr nr cr,.slice pv nv cv,.slice pl nl cl,.int .i64 wk,.slice pp np cp,.slice none 0 0,.slice pm nm cm],Pc.blk bx 82 #[.pointer (some ⟨b,0,none⟩)],Pc.own 146 4 none 0 0 (encQ (rn 0).1),Pc.own 138 4 pm nm cm (encQ (rn 0).2)],∀ k,p.foot k→¬ Bd k) :
  SeqD Fence.wide n1 Tryz.prog 93 #[.pointer (some ⟨bx,0,none⟩)] ydE (fun k=>k=b) (ydA k t L ws most rn) (KpN Bd w.heap.size) (fun _=>False) (fun _=>True) (fun pre=>pre.length<200) w:=by
 intro l J Jx W hW' hJ hJx hQ hY h0
 have HST:=Lib.hid (fun i (hi:i≤200) (W:World) (E:Ext w0 W) (ps:Option Addr) (ns cs:Nat) (pm:Option Addr) (nm cm:Nat) (hs:Rd W 4 ps ns (encQ (rn i).1)) (hm:Rd W 4 pm nm (encQ (rn i).2)) =>
  StepRun k f t pw nw cw rad most po no co O pt nt ct T pr nr cr R pv nv cv V W n i (rn i) ps ns cs pm nm cm wk pp np cp pk (hO.ext E) (hT.ext E) (hR.ext E) (hV.ext E) hct hcv hck hn h200 hi (hrn i) h1 h16 hs hm (hpk.ext E))
 have HLN:=Lib.hid (fun i=>And.intro (show (rn i).1.length≤400 by have:=run_most (hrn i).kst (fun x hx=>((hrn i).st x hx).1);omega) (show (rn i).2.length≤400 by have:=run_most (hrn i).kms (fun x hx=>((hrn i).ms x hx).1);omega))
 have hdn:∀ i (hi:i≤200) (ps:Option Addr) (ns cs:Nat) (pm:Option Addr) (nm cm:Nat),ns=(rn i).1.length→∃ b d F,AnsD k t L ws most (rn i) b d F∧∀ W,Ext w0 W→Rd W 4 ps ns (encQ (rn i).1)→Rd W 4 pm nm (encQ (rn i).2) →
   Calls Tryz.prog 95 #[.agg #[.int .i64 k,.int .i64 f,.int .i64 t,.slice pw nw cw,.int .i64 rad,.int .i64 most],.slice pl nl cl,.slice ps ns cs,.slice pm nm cm] W (DoneQ b d F (doneB k t (rn i)) W):=fun i hi ps ns cs pm nm cm hns=>by
  have hx:∀ x∈(rn i).1,x.I∧-1000000≤x.d∧x.d≤1000000:=fun x hx=>by
   obtain⟨⟨x1,x2,x3,x4⟩,x5,x6⟩:=(hrn i).st x hx
   refine⟨?_,by omega,by omega⟩
   unfold Sq.I I64
   have q1:IntKind.i64.min = -9223372036854775808:=rfl
   have q2:IntKind.i64.max=9223372036854775807:=rfl
   refine⟨?_,?_,?_,?_⟩ <;> (show (_ && _)=true;simp;omega)
  obtain⟨b,d,F,hA,hD⟩:=Done_run k f t pw nw cw ws rad most pl nl cl hs L ps ns cs (rn i).1 pm nm cm (rn i).2 hk ht hcw hnw hok (fun x h=>(hx x h).1) (fun x h=>(hx x h).2) (by have:=(HLN.out i).1;omega)
  exact⟨b,d,F,hA,fun W E g1 g2=>(hD W (hL.ext E) (hW.ext E) g1 g2).1⟩
 have HDN:=Lib.hid hdn
 have HRS:=Lib.hid hrs
 have hb0:w0.heap.size≤b:=S0.bge 0 rfl
 have hbw:b<w.heap.size:=(S0.blk 0 rfl).lt
 have hw0:w0.heap.size≤w.heap.size:=S0.ext.size
 have hws:=hW'.size
 have HBD:=Lib.hid hBd
 have SW:=Lib.hid (S0.call hW')
 have HBF:=Lib.hid hBf
 have HQ:=Lib.hid hQ
 have HR0:=Lib.hid hr0
 have HJ:=Lib.hid hJ;clear hJ
 have HY:=Lib.hid hY;clear hY
 clear hJx hO hT hR hV hct hcv hck hn h200 h1 h16 hpk hL hW hk ht hcw hnw hok hr0 hrn hrs S0 hBd hBf hdn hQ hW'
 refine callsIn_of_wp Tryz.func93 rfl trivial ?_ rfl
 simp only [Tryz.ntmps93,List.size_toArray,List.length_cons,List.length_nil,Nat.reduceAdd,Nat.reduceSub,Array.replicate_succ,Array.replicate_zero,List.push_toArray,List.append_toArray,List.nil_append,List.cons_append]
 gi_wp2
 gi_loopg [] 200 (fun g wr=>∃ (pre:List YdT) (ps:Option Addr) (ns cs:Nat) (pm:Option Addr) (nm cm:Nat),pre.length+g=200∧Hid (Sep w0 wr [Pc.blk b 87 #[.int .i64 k,.int .i64 f,.int .i64 t,.slice pw nw cw,.int .i64 rad,.int .i64 most,.slice po no co,.slice pt nt ct,.slice pr nr cr,.slice pv nv cv,.slice pl nl cl,.int .i64 wk,.slice pp np cp,.slice ps ns cs,.slice pm nm cm],Pc.blk bx 82 #[.pointer (some ⟨b,0,none⟩)],Pc.own 146 4 ps ns cs (encQ (rn pre.length).1),Pc.own 138 4 pm nm cm (encQ (rn pre.length).2)])∧Hid (∀ p∈[Pc.blk b 87 #[.int .i64 k,.int .i64 f,.int .i64 t,.slice pw nw cw,.int .i64 rad,.int .i64 most,.slice po no co,.slice pt nt ct,.slice pr nr cr,.slice pv nv cv,.slice pl nl cl,.int .i64 wk,.slice pp np cp,.slice ps ns cs,.slice pm nm cm],Pc.blk bx 82 #[.pointer (some ⟨b,0,none⟩)],Pc.own 146 4 ps ns cs (encQ (rn pre.length).1),Pc.own 138 4 pm nm cm (encQ (rn pre.length).2)],∀ k,p.foot k→¬ Bd k)∧Hid (J pre wr)∧W.heap.size≤wr.heap.size)
 case atStart =>
  refine⟨[],none,0,0,pm,nm,cm,rfl,SW.out,HBF.out,h0,Nat.le_refl _⟩
 case round =>
  clear h0 SW HBF HR0
  obtain⟨pre,ps,ns,cs,pm,nm,cm,hg,SS,HF,HJ1,hsz⟩:=hrel
  have hpl:=HQ.out pre wr HJ1.out
  clear HQ
  have HS1:=Lib.hid (SS.out.drew)
  have HE0:=Lib.hid (HST.out pre.length (by omega) wr.drew SS.out.drew.ext ps ns cs pm nm cm (SS.out.drew.rdx 2 rfl) (SS.out.drew.rdx 3 rfl))
  obtain⟨m,hm⟩:∃ m,pre.length=m:=⟨_,rfl⟩
  rw [hm] at HE0 HS1 SS HF hpl hg
  rw [← HRS.out m] at HE0
  obtain⟨Y,hY⟩:∃ Y,rn (m+1)=Y:=⟨_,rfl⟩
  rw [hY] at HE0
  have HRY:=Lib.hid hY
  clear hY
  have HM:=Lib.hid hm
  clear hm
  gi_wp2
  refine wpIn_wide.2 ?_
  refine wp_region_held_drew (S:=fun W=>Blk W b 87 #[.int .i64 k,.int .i64 f,.int .i64 t,.slice pw nw cw,.int .i64 rad,.int .i64 most,.slice po no co,.slice pt nt ct,.slice pr nr cr,.slice pv nv cv,.slice pl nl cl,.int .i64 wk,.slice pp np cp,.slice ps ns cs,.slice pm nm cm]∧Blk W bx 82 #[.pointer (some ⟨b,0,none⟩)]) (by kernel_rfl) ⟨HS1.out.blk 0 rfl,HS1.out.blk 1 rfl⟩ (fun hHeld=>?_)
  have hw2:W.heap.size≤wr.drew.heap.size:=hsz
  have HJ2:=Lib.hid (HJ.out pre wr wr.drew none HJ1.out (Ext.grown (Below.refl _ _).drew) (fun r e=>nomatch e))
  clear SS HJ1 hsz
  generalize wr.drew=D at HS1 HE0 hHeld hw2 HJ2 ⊢
  clear wr
  refine wpAnyH_take (i:=0) (v:=.pointer (some ⟨b,0,none⟩)) rfl (by kernel_rfl) (by kernel_rfl) (by kernel_rfl) (fun _ _ _ h=>h) (Or.inl ⟨by kernel_rfl,fun W hSw=>by have h0:=hSw.2.cell 0;have hz:=hSw.2.lt;clear hSw;go_simp⟩) hHeld ?_
  refine wpAnyH_take (i:=1) (v:=.pointer (some ⟨b,0,none⟩)) rfl (by kernel_rfl) (by kernel_rfl) (by kernel_rfl) (fun _ _ _ h=>h) (Or.inl ⟨by kernel_rfl,fun W hSw=>by have hz:=hSw.1.lt;have hy:=(show W.heap[b]?=_ from hSw.1);clear hSw;go_simp⟩) hHeld ?_
  refine wpAnyH_take (i:=2) (v:=.pointer (some ⟨b,0,none⟩)) rfl (by kernel_rfl) (by kernel_rfl) (by kernel_rfl) (fun _ _ _ h=>h) (Or.inl ⟨by kernel_rfl,fun W hSw=>by skip;clear hSw;go_simp⟩) hHeld ?_
  refine wpAnyH_take (i:=3) (v:=.agg #[.int .i64 k,.int .i64 f,.int .i64 t,.slice pw nw cw,.int .i64 rad,.int .i64 most]) rfl (by kernel_rfl) (by kernel_rfl) (by kernel_rfl) (fun _ _ _ h=>h) (Or.inl ⟨by kernel_rfl,fun W hSw=>by have h0:=hSw.1.cell 0;have h1:=hSw.1.cell 1;have h2:=hSw.1.cell 2;have h3:=hSw.1.cell 3;have h4:=hSw.1.cell 4;have h5:=hSw.1.cell 5;clear hSw;go_simp⟩) hHeld ?_
  refine wpAnyH_take (i:=4) (v:=.pointer (some ⟨b,0,none⟩)) rfl (by kernel_rfl) (by kernel_rfl) (by kernel_rfl) (fun _ _ _ h=>h) (Or.inl ⟨by kernel_rfl,fun W hSw=>by have h0:=hSw.2.cell 0;have hz:=hSw.2.lt;clear hSw;go_simp⟩) hHeld ?_
  refine wpAnyH_take (i:=5) (v:=.pointer (some ⟨b,0,none⟩)) rfl (by kernel_rfl) (by kernel_rfl) (by kernel_rfl) (fun _ _ _ h=>h) (Or.inl ⟨by kernel_rfl,fun W hSw=>by have hz:=hSw.1.lt;have hy:=(show W.heap[b]?=_ from hSw.1);clear hSw;go_simp⟩) hHeld ?_
  refine wpAnyH_take (i:=6) (v:=.pointer (some ⟨b,6,none⟩)) rfl (by kernel_rfl) (by kernel_rfl) (by kernel_rfl) (fun _ _ _ h=>h) (Or.inl ⟨by kernel_rfl,fun W hSw=>by skip;clear hSw;go_simp⟩) hHeld ?_
  refine wpAnyH_take (i:=7) (v:=.agg #[.slice po no co,.slice pt nt ct,.slice pr nr cr,.slice pv nv cv]) rfl (by kernel_rfl) (by kernel_rfl) (by kernel_rfl) (fun _ _ _ h=>h) (Or.inl ⟨by kernel_rfl,fun W hSw=>by have h0:=hSw.1.cell 6;have h1:=hSw.1.cell 7;have h2:=hSw.1.cell 8;have h3:=hSw.1.cell 9;clear hSw;go_simp⟩) hHeld ?_
  refine wpAnyH_take (i:=8) (v:=.pointer (some ⟨b,0,none⟩)) rfl (by kernel_rfl) (by kernel_rfl) (by kernel_rfl) (fun _ _ _ h=>h) (Or.inl ⟨by kernel_rfl,fun W hSw=>by have h0:=hSw.2.cell 0;have hz:=hSw.2.lt;clear hSw;go_simp⟩) hHeld ?_
  refine wpAnyH_take (i:=9) (v:=.pointer (some ⟨b,0,none⟩)) rfl (by kernel_rfl) (by kernel_rfl) (by kernel_rfl) (fun _ _ _ h=>h) (Or.inl ⟨by kernel_rfl,fun W hSw=>by have hz:=hSw.1.lt;have hy:=(show W.heap[b]?=_ from hSw.1);clear hSw;go_simp⟩) hHeld ?_
  refine wpAnyH_take (i:=10) (v:=.pointer (some ⟨b,13,none⟩)) rfl (by kernel_rfl) (by kernel_rfl) (by kernel_rfl) (fun _ _ _ h=>h) (Or.inl ⟨by kernel_rfl,fun W hSw=>by skip;clear hSw;go_simp⟩) hHeld ?_
  refine wpAnyH_take (i:=11) (v:=.slice ps ns cs) rfl (by kernel_rfl) (by kernel_rfl) (by kernel_rfl) (fun _ _ _ h=>h) (Or.inl ⟨by kernel_rfl,fun W hSw=>by have h0:=hSw.1.cell 13;clear hSw;go_simp⟩) hHeld ?_
  refine wpAnyH_take (i:=12) (v:=.pointer (some ⟨b,0,none⟩)) rfl (by kernel_rfl) (by kernel_rfl) (by kernel_rfl) (fun _ _ _ h=>h) (Or.inl ⟨by kernel_rfl,fun W hSw=>by have h0:=hSw.2.cell 0;have hz:=hSw.2.lt;clear hSw;go_simp⟩) hHeld ?_
  refine wpAnyH_take (i:=13) (v:=.pointer (some ⟨b,0,none⟩)) rfl (by kernel_rfl) (by kernel_rfl) (by kernel_rfl) (fun _ _ _ h=>h) (Or.inl ⟨by kernel_rfl,fun W hSw=>by have hz:=hSw.1.lt;have hy:=(show W.heap[b]?=_ from hSw.1);clear hSw;go_simp⟩) hHeld ?_
  refine wpAnyH_take (i:=14) (v:=.pointer (some ⟨b,14,none⟩)) rfl (by kernel_rfl) (by kernel_rfl) (by kernel_rfl) (fun _ _ _ h=>h) (Or.inl ⟨by kernel_rfl,fun W hSw=>by skip;clear hSw;go_simp⟩) hHeld ?_
  refine wpAnyH_take (i:=15) (v:=.slice pm nm cm) rfl (by kernel_rfl) (by kernel_rfl) (by kernel_rfl) (fun _ _ _ h=>h) (Or.inl ⟨by kernel_rfl,fun W hSw=>by have h0:=hSw.1.cell 14;clear hSw;go_simp⟩) hHeld ?_
  refine wpAnyH_take (i:=16) (v:=.pointer (some ⟨b,0,none⟩)) rfl (by kernel_rfl) (by kernel_rfl) (by kernel_rfl) (fun _ _ _ h=>h) (Or.inl ⟨by kernel_rfl,fun W hSw=>by have h0:=hSw.2.cell 0;have hz:=hSw.2.lt;clear hSw;go_simp⟩) hHeld ?_
  refine wpAnyH_take (i:=17) (v:=.pointer (some ⟨b,0,none⟩)) rfl (by kernel_rfl) (by kernel_rfl) (by kernel_rfl) (fun _ _ _ h=>h) (Or.inl ⟨by kernel_rfl,fun W hSw=>by have hz:=hSw.1.lt;have hy:=(show W.heap[b]?=_ from hSw.1);clear hSw;go_simp⟩) hHeld ?_
  refine wpAnyH_take (i:=18) (v:=.pointer (some ⟨b,11,none⟩)) rfl (by kernel_rfl) (by kernel_rfl) (by kernel_rfl) (fun _ _ _ h=>h) (Or.inl ⟨by kernel_rfl,fun W hSw=>by skip;clear hSw;go_simp⟩) hHeld ?_
  refine wpAnyH_take (i:=19) (v:=.int .i64 wk) rfl (by kernel_rfl) (by kernel_rfl) (by kernel_rfl) (fun _ _ _ h=>h) (Or.inl ⟨by kernel_rfl,fun W hSw=>by have h0:=hSw.1.cell 11;clear hSw;go_simp⟩) hHeld ?_
  refine wpAnyH_take (i:=20) (v:=.pointer (some ⟨b,0,none⟩)) rfl (by kernel_rfl) (by kernel_rfl) (by kernel_rfl) (fun _ _ _ h=>h) (Or.inl ⟨by kernel_rfl,fun W hSw=>by have h0:=hSw.2.cell 0;have hz:=hSw.2.lt;clear hSw;go_simp⟩) hHeld ?_
  refine wpAnyH_take (i:=21) (v:=.pointer (some ⟨b,0,none⟩)) rfl (by kernel_rfl) (by kernel_rfl) (by kernel_rfl) (fun _ _ _ h=>h) (Or.inl ⟨by kernel_rfl,fun W hSw=>by have hz:=hSw.1.lt;have hy:=(show W.heap[b]?=_ from hSw.1);clear hSw;go_simp⟩) hHeld ?_
  refine wpAnyH_take (i:=22) (v:=.pointer (some ⟨b,12,none⟩)) rfl (by kernel_rfl) (by kernel_rfl) (by kernel_rfl) (fun _ _ _ h=>h) (Or.inl ⟨by kernel_rfl,fun W hSw=>by skip;clear hSw;go_simp⟩) hHeld ?_
  refine wpAnyH_take (i:=23) (v:=.slice pp np cp) rfl (by kernel_rfl) (by kernel_rfl) (by kernel_rfl) (fun _ _ _ h=>h) (Or.inl ⟨by kernel_rfl,fun W hSw=>by have h0:=hSw.1.cell 12;clear hSw;go_simp⟩) hHeld ?_
  refine wpAnyH_ready (rs:=[24]) (by kernel_rfl) (by simp) (AllReadyH.cons rfl (fun K hK=>?_) AllReadyH.nil)
  go_simp
  refine HE0.out.mono ?_
  rintro e w1 ⟨q,c,q2,c2,rfl,Z⟩
  have S2:=Lib.hid (HS1.out.comp Z)
  have hw3:=Nat.le_trans hw2 Z.ext.size
  have HJ3:=Lib.hid (HJ.out pre D w1 none HJ2.out (Ext.grown Z.ext) (fun r e=>nomatch e))
  have HZN:=Lib.hid (fun p (hp:p∈[Pc.own 146 4 q Y.1.length c (encQ Y.1),Pc.own 138 4 q2 Y.2.length c2 (encQ Y.2)]) k (hk:p.foot k)=>Z.new p hp k hk)
  clear Z HJ2 HE0
  refine hK.out _ _ ⟨S2.out.blk 2 rfl,S2.out.blk 3 rfl⟩ (fun hHeld=>?_)
  clear hK
  refine wpAnyH_take (i:=25) (v:=.tuple #[.slice q Y.1.length c,.slice q2 Y.2.length c2,.int .i64 0]) rfl (by kernel_rfl) (by kernel_rfl) (by kernel_rfl) (fun _ _ _ h=>h) (Or.inl ⟨by kernel_rfl,fun W hSw=>by skip;clear hSw;go_simp⟩) hHeld ?_
  refine wpAnyH_take (i:=26) (v:=.slice q Y.1.length c) rfl (by kernel_rfl) (by kernel_rfl) (by kernel_rfl) (fun _ _ _ h=>h) (Or.inl ⟨by kernel_rfl,fun W hSw=>by skip;clear hSw;go_simp⟩) hHeld ?_
  refine wpAnyH_take (i:=27) (v:=.slice q2 Y.2.length c2) rfl (by kernel_rfl) (by kernel_rfl) (by kernel_rfl) (fun _ _ _ h=>h) (Or.inl ⟨by kernel_rfl,fun W hSw=>by skip;clear hSw;go_simp⟩) hHeld ?_
  refine wpAnyH_take (i:=28) (v:=.int .i64 0) rfl (by kernel_rfl) (by kernel_rfl) (by kernel_rfl) (fun _ _ _ h=>h) (Or.inl ⟨by kernel_rfl,fun W hSw=>by skip;clear hSw;go_simp⟩) hHeld ?_
  refine wpAnyH_take (i:=29) (v:=.slice q Y.1.length c) rfl (by kernel_rfl) (by kernel_rfl) (by kernel_rfl) (fun _ _ _ h=>h) (Or.inl ⟨by kernel_rfl,fun W hSw=>by skip;clear hSw;go_simp⟩) hHeld ?_
  refine wpAnyH_take (i:=30) (v:=.slice q2 Y.2.length c2) rfl (by kernel_rfl) (by kernel_rfl) (by kernel_rfl) (fun _ _ _ h=>h) (Or.inl ⟨by kernel_rfl,fun W hSw=>by skip;clear hSw;go_simp⟩) hHeld ?_
  refine wpAnyH_take (i:=31) (v:=.int .i64 0) rfl (by kernel_rfl) (by kernel_rfl) (by kernel_rfl) (fun _ _ _ h=>h) (Or.inl ⟨by kernel_rfl,fun W hSw=>by skip;clear hSw;go_simp⟩) hHeld ?_
  refine wpAnyH_done (by kernel_rfl) ?_ _
  clear hHeld
  simp [Act.put]
  gi_wp2
  have HB3:=Lib.hid (S2.out.blk 2 rfl)
  have HB4:=Lib.hid (S2.out.blk 3 rfl)
  refine wpIn_wide.2 ?_
  refine wp_region_held_drew (S:=fun W=>(∃ cs,Blk W b 87 cs)∧Blk W bx 82 #[.pointer (some ⟨b,0,none⟩)]) (by kernel_rfl) ⟨⟨_,HB3.out.ext (Below.refl _ _).drew⟩,HB4.out.ext (Below.refl _ _).drew⟩ (fun hHeld=>?_)
  have SD:=Lib.hid S2.out.drew
  have hw4:W.heap.size≤w1.drew.heap.size:=hw3
  have HJ4:=Lib.hid (HJ.out pre w1 w1.drew none HJ3.out (Ext.grown (Below.refl _ _).drew) (fun r e=>nomatch e))
  clear S2 HJ3 HB3 HB4 hw3
  generalize w1.drew=D2 at SD hHeld hw4 HJ4 ⊢
  clear w1 HS1
  refine wpAnyH_take (i:=0) (v:=.pointer (some ⟨b,0,none⟩)) rfl (by kernel_rfl) (by kernel_rfl) (by kernel_rfl) (fun _ _ _ h=>h) (Or.inl ⟨by kernel_rfl,fun W hSw=>by have h0:=hSw.2.cell 0;have hz:=hSw.2.lt;clear hSw;go_simp⟩) hHeld ?_
  refine wpAnyH_take (i:=1) (v:=.pointer (some ⟨b,0,none⟩)) rfl (by kernel_rfl) (by kernel_rfl) (by kernel_rfl) (fun _ _ _ h=>h) (Or.inl ⟨by kernel_rfl,fun W hSw=>by have h0:=hSw.2.cell 0;have hz:=hSw.2.lt;clear hSw;go_simp⟩) hHeld ?_
  refine wpAnyH_take (i:=2) (v:=.slice q Y.1.length c) rfl (by kernel_rfl) (by kernel_rfl) (by kernel_rfl) (fun _ _ _ h=>h) (Or.inl ⟨by kernel_rfl,fun W hSw=>by skip;clear hSw;go_simp⟩) hHeld ?_
  refine wpAnyH_take (i:=3) (v:=.slice q2 Y.2.length c2) rfl (by kernel_rfl) (by kernel_rfl) (by kernel_rfl) (fun _ _ _ h=>h) (Or.inl ⟨by kernel_rfl,fun W hSw=>by skip;clear hSw;go_simp⟩) hHeld ?_
  refine wpAnyH_take (i:=4) (v:=.pointer (some ⟨b,0,none⟩)) rfl (by kernel_rfl) (by kernel_rfl) (by kernel_rfl) (fun _ _ _ h=>h) (Or.inl ⟨by kernel_rfl,fun W hSw=>by obtain⟨cs0,hcs0⟩:=hSw.1;have hz:=hcs0.lt;have hy:=(show W.heap[b]?=_ from hcs0);clear hSw;go_simp⟩) hHeld ?_
  refine wpAnyH_take (i:=5) (v:=.pointer (some ⟨b,13,none⟩)) rfl (by kernel_rfl) (by kernel_rfl) (by kernel_rfl) (fun _ _ _ h=>h) (Or.inl ⟨by kernel_rfl,fun W hSw=>by skip;clear hSw;go_simp⟩) hHeld ?_
  obtain⟨c13,c13z,c13f⟩:=bkc13lz13 (SD.out.blk 2 rfl)
  refine wpAnyH_ready (rs:=[6]) (by kernel_rfl) (by simp) (AllReadyH.cons rfl (fun K hK=>?_) AllReadyH.nil)
  go_simp
  clear c13 c13z c13f
  have S3:=Lib.hid (show Sep w0 (D2.setCell ⟨b,13,none⟩ (.slice q Y.1.length c)) [Pc.own 146 4 q Y.1.length c (encQ Y.1),Pc.own 138 4 q2 Y.2.length c2 (encQ Y.2),.blk b 87 #[.int .i64 k,.int .i64 f,.int .i64 t,.slice pw nw cw,.int .i64 rad,.int .i64 most,.slice po no co,.slice pt nt ct,.slice pr nr cr,.slice pv nv cv,.slice pl nl cl,.int .i64 wk,.slice pp np cp,.slice q Y.1.length c,.slice pm nm cm],.blk bx 82 #[.pointer (some ⟨b,0,none⟩)]] from(SD.out.set 2 rfl 13 (.slice q Y.1.length c)).pick [0,1,2,3] (by decide) rfl)
  clear hHeld
  refine hK.out _ _ ⟨⟨_,S3.out.blk 2 rfl⟩,S3.out.blk 3 rfl⟩ (fun hHeld=>?_)
  clear hK
  refine wpAnyH_take (i:=7) (v:=.pointer (some ⟨b,0,none⟩)) rfl (by kernel_rfl) (by kernel_rfl) (by kernel_rfl) (fun _ _ _ h=>h) (Or.inl ⟨by kernel_rfl,fun W hSw=>by obtain⟨cs0,hcs0⟩:=hSw.1;have hz:=hcs0.lt;have hy:=(show W.heap[b]?=_ from hcs0);clear hSw;go_simp⟩) hHeld ?_
  refine wpAnyH_take (i:=8) (v:=.pointer (some ⟨b,14,none⟩)) rfl (by kernel_rfl) (by kernel_rfl) (by kernel_rfl) (fun _ _ _ h=>h) (Or.inl ⟨by kernel_rfl,fun W hSw=>by skip;clear hSw;go_simp⟩) hHeld ?_
  obtain⟨c14,c14z,c14f⟩:=bkc14lz14 (S3.out.blk 2 rfl)
  have hw5:W.heap.size≤(D2.setCell ⟨b,13,none⟩ (.slice q Y.1.length c)).heap.size:=Nat.le_trans hw4 (grown_set ..).size
  have HJ5:=Lib.hid (HJ.out pre D2 _ (some b) HJ4.out (grown_set D2 ⟨b,13,none⟩ (.slice q Y.1.length c)) (fun r e=>Or.inr (by injection e with e;exact e.symm)))
  clear HJ4 hw4 SD
  generalize D2.setCell ⟨b,13,none⟩ (.slice q Y.1.length c)=D3 at S3 hHeld hw5 HJ5 c14 c14z c14f ⊢
  clear D2
  refine wpAnyH_ready (rs:=[9]) (by kernel_rfl) (by simp) (AllReadyH.cons rfl (fun K hK=>?_) AllReadyH.nil)
  go_simp
  clear c14 c14z c14f
  have S4:=Lib.hid (show Sep w0 (D3.setCell ⟨b,14,none⟩ (.slice q2 Y.2.length c2)) [Pc.own 146 4 q Y.1.length c (encQ Y.1),Pc.own 138 4 q2 Y.2.length c2 (encQ Y.2),.blk b 87 #[.int .i64 k,.int .i64 f,.int .i64 t,.slice pw nw cw,.int .i64 rad,.int .i64 most,.slice po no co,.slice pt nt ct,.slice pr nr cr,.slice pv nv cv,.slice pl nl cl,.int .i64 wk,.slice pp np cp,.slice q Y.1.length c,.slice q2 Y.2.length c2],.blk bx 82 #[.pointer (some ⟨b,0,none⟩)]] from S3.out.set 2 rfl 14 (.slice q2 Y.2.length c2))
  clear hHeld
  refine hK.out _ _ ⟨⟨_,S4.out.blk 2 rfl⟩,S4.out.blk 3 rfl⟩ (fun hHeld=>?_)
  have hw6:W.heap.size≤(D3.setCell ⟨b,14,none⟩ (.slice q2 Y.2.length c2)).heap.size:=Nat.le_trans hw5 (grown_set ..).size
  have HJ6:=Lib.hid (HJ.out pre D3 _ (some b) HJ5.out (grown_set D3 ⟨b,14,none⟩ (.slice q2 Y.2.length c2)) (fun r e=>Or.inr (by injection e with e;exact e.symm)))
  have S5:=Lib.hid (S4.out.pick [2,3,0,1] (by decide) rfl)
  clear hK S4 S3 HJ5 hw5
  refine wpAnyH_done (by kernel_rfl) ?_ _
  clear hHeld
  generalize D3.setCell ⟨b,14,none⟩ (.slice q2 Y.2.length c2)=D4 at S5 hw6 HJ6 ⊢
  clear D3
  gi_wp2
  have SE:=Lib.hid S5.out.drew
  have hw7:W.heap.size≤D4.drew.heap.size:=hw6
  have HJ7:=Lib.hid (HJ.out pre D4 D4.drew none HJ6.out (Ext.grown (Below.refl _ _).drew) (fun r e=>nomatch e))
  have hl1:Y.1.length=(rn (m+1)).1.length:=by rw [HRY.out]
  obtain⟨yb,yd,yF,hAn,hDn⟩:=HDN.out (m+1) (by omega) q Y.1.length c q2 Y.2.length c2 hl1
  have hDn:=hDn D4.drew SE.out.ext (by rw [HRY.out];exact SE.out.rdx 2 rfl) (by rw [HRY.out];exact SE.out.rdx 3 rfl)
  have HAN:=Lib.hid hAn
  have HD:=Lib.hid hDn
  clear hAn hDn hl1
  obtain⟨dn,hdn⟩:∃ dn,doneB k t (rn (m+1))=dn:=⟨_,rfl⟩
  rw [hdn] at HD
  have HDB:=Lib.hid hdn
  clear hdn
  refine wpIn_region_heldI 14 (S:=fun W=>Blk W b 87 #[.int .i64 k,.int .i64 f,.int .i64 t,.slice pw nw cw,.int .i64 rad,.int .i64 most,.slice po no co,.slice pt nt ct,.slice pr nr cr,.slice pv nv cv,.slice pl nl cl,.int .i64 wk,.slice pp np cp,.slice q Y.1.length c,.slice q2 Y.2.length c2]∧Blk W bx 82 #[.pointer (some ⟨b,0,none⟩)]) (by kernel_rfl) ⟨SE.out.blk 0 rfl,SE.out.blk 1 rfl⟩ (fun hHeld=>?_)
  clear S5 hw6 HJ6
  generalize D4.drew=D5 at SE HD hHeld hw7 HJ7 ⊢
  refine wpAnyHI_take [14] (i:=0) (v:=.func (.yield l) #[] #[]) rfl rfl (by kernel_rfl) (by kernel_rfl) (by kernel_rfl) (by kernel_rfl) (fun _ _ _ h=>h) ⟨Or.inl ⟨by kernel_rfl,fun W hSw=>by skip;clear hSw;go_simp⟩,fun _ _=>rfl⟩ hHeld ?_
  refine wpAnyHI_take [2,3,4,11,12,14] (i:=1) (v:=.pointer (some ⟨b,0,none⟩)) rfl rfl (by kernel_rfl) (by kernel_rfl) (by kernel_rfl) (by kernel_rfl) (fun _ _ _ h=>h) ⟨Or.inl ⟨by kernel_rfl,fun W hSw=>by have h0:=hSw.2.cell 0;have hz:=hSw.2.lt;clear hSw;go_simp⟩,fun _ _=>rfl⟩ hHeld ?_
  refine wpAnyHI_take [3,4,11,12,14] (i:=2) (v:=.pointer (some ⟨b,0,none⟩)) rfl rfl (by kernel_rfl) (by kernel_rfl) (by kernel_rfl) (by kernel_rfl) (fun _ _ _ h=>h) ⟨Or.inl ⟨by kernel_rfl,fun W hSw=>by have hz:=hSw.1.lt;have hy:=(show W.heap[b]?=_ from hSw.1);clear hSw;go_simp⟩,fun _ _=>rfl⟩ hHeld ?_
  refine wpAnyHI_take [4,11,12,14] (i:=3) (v:=.pointer (some ⟨b,0,none⟩)) rfl rfl (by kernel_rfl) (by kernel_rfl) (by kernel_rfl) (by kernel_rfl) (fun _ _ _ h=>h) ⟨Or.inl ⟨by kernel_rfl,fun W hSw=>by skip;clear hSw;go_simp⟩,fun _ _=>rfl⟩ hHeld ?_
  refine wpAnyHI_take [11,12,14] (i:=4) (v:=.agg #[.int .i64 k,.int .i64 f,.int .i64 t,.slice pw nw cw,.int .i64 rad,.int .i64 most]) rfl rfl (by kernel_rfl) (by kernel_rfl) (by kernel_rfl) (by kernel_rfl) (fun _ _ _ h=>h) ⟨Or.inl ⟨by kernel_rfl,fun W hSw=>by have h0:=hSw.1.cell 0;have h1:=hSw.1.cell 1;have h2:=hSw.1.cell 2;have h3:=hSw.1.cell 3;have h4:=hSw.1.cell 4;have h5:=hSw.1.cell 5;clear hSw;go_simp⟩,fun _ _=>rfl⟩ hHeld ?_
  refine wpAnyHI_take [6,7,8,11,12,14] (i:=5) (v:=.pointer (some ⟨b,0,none⟩)) rfl rfl (by kernel_rfl) (by kernel_rfl) (by kernel_rfl) (by kernel_rfl) (fun _ _ _ h=>h) ⟨Or.inl ⟨by kernel_rfl,fun W hSw=>by have h0:=hSw.2.cell 0;have hz:=hSw.2.lt;clear hSw;go_simp⟩,fun _ _=>rfl⟩ hHeld ?_
  refine wpAnyHI_take [7,8,11,12,14] (i:=6) (v:=.pointer (some ⟨b,0,none⟩)) rfl rfl (by kernel_rfl) (by kernel_rfl) (by kernel_rfl) (by kernel_rfl) (fun _ _ _ h=>h) ⟨Or.inl ⟨by kernel_rfl,fun W hSw=>by have hz:=hSw.1.lt;have hy:=(show W.heap[b]?=_ from hSw.1);clear hSw;go_simp⟩,fun _ _=>rfl⟩ hHeld ?_
  refine wpAnyHI_take [8,11,12,14] (i:=7) (v:=.pointer (some ⟨b,10,none⟩)) rfl rfl (by kernel_rfl) (by kernel_rfl) (by kernel_rfl) (by kernel_rfl) (fun _ _ _ h=>h) ⟨Or.inl ⟨by kernel_rfl,fun W hSw=>by skip;clear hSw;go_simp⟩,fun _ _=>rfl⟩ hHeld ?_
  refine wpAnyHI_take [11,12,14] (i:=8) (v:=.slice pl nl cl) rfl rfl (by kernel_rfl) (by kernel_rfl) (by kernel_rfl) (by kernel_rfl) (fun _ _ _ h=>h) ⟨Or.inl ⟨by kernel_rfl,fun W hSw=>by have h0:=hSw.1.cell 10;clear hSw;go_simp⟩,fun _ _=>rfl⟩ hHeld ?_
  refine wpAnyHI_take [11,12,14] (i:=9) (v:=.slice q Y.1.length c) rfl rfl (by kernel_rfl) (by kernel_rfl) (by kernel_rfl) (by kernel_rfl) (fun _ _ _ h=>h) ⟨Or.inl ⟨by kernel_rfl,fun W hSw=>by skip;clear hSw;go_simp⟩,fun _ _=>rfl⟩ hHeld ?_
  refine wpAnyHI_take [11,12,14] (i:=10) (v:=.slice q2 Y.2.length c2) rfl rfl (by kernel_rfl) (by kernel_rfl) (by kernel_rfl) (by kernel_rfl) (fun _ _ _ h=>h) ⟨Or.inl ⟨by kernel_rfl,fun W hSw=>by skip;clear hSw;go_simp⟩,fun _ _=>rfl⟩ hHeld ?_
  refine wpAnyHI_one (i:=11) (by kernel_rfl) rfl (by decide) (fun K hK=>?_)
  go_simp
  refine⟨trivial,callsIn_wide.2 (HD.out.mono ?_)⟩
  rintro e w6 ⟨hq,hc,rfl,Z⟩
  have S6:=Lib.hid (SE.out.comp Z)
  have hw8:=Nat.le_trans hw7 Z.ext.size
  obtain⟨fn,tmps,assign,body,hy,hR⟩:=HY.out pre ⟨yb,yd,yF,hq,hc,dn⟩ D5 w6 HJ7.out Z.ext ⟨Z,by rw [HM.out];exact HAN.out,by rw [HM.out];exact HDB.out.symm⟩
  have hy2:(Instr.yield l #[.agg #[.bool yb,.int .i64 yd,.slice hq yF.length hc],.bool dn]).run Tryz.prog w6=_:=hy
  have HR:=Lib.hid hR
  clear hy Z hHeld hR HD SE HJ7
  refine hK _ _ ⟨S6.out.blk 1 rfl,S6.out.blk 2 rfl⟩ ?_
  clear hK
  have hHeld:=And.intro (S6.out.blk 1 rfl) (S6.out.blk 2 rfl)
  refine wpAnyHI_take [14] (i:=12) (v:=.agg #[.bool yb,.int .i64 yd,.slice hq yF.length hc]) rfl rfl (by kernel_rfl) (by kernel_rfl) (by kernel_rfl) (by kernel_rfl) (fun _ _ _ h=>h) ⟨Or.inl ⟨by kernel_rfl,fun W hSw=>by skip;clear hSw;go_simp⟩,fun _ _=>rfl⟩ hHeld ?_
  refine wpAnyHI_take [14] (i:=13) (v:=.bool dn) rfl rfl (by kernel_rfl) (by kernel_rfl) (by kernel_rfl) (by kernel_rfl) (fun _ _ _ h=>h) ⟨Or.inl ⟨by kernel_rfl,fun W hSw=>by skip;clear hSw;go_simp⟩,fun _ _=>rfl⟩ hHeld ?_
  clear hHeld
  refine wpAnyHI_last (by kernel_rfl) rfl (fun K hK=>?_)
  go_simp
  refine HR.out.mono ?_
  clear HR hy2
  rintro e W3 (⟨rfl,hJ3,hk3⟩ | ⟨rfl,hJx3⟩)
  ·have HJ8:=Lib.hid hJ3
   have HK3:=Lib.hid hk3
   clear hJ3 hk3
   refine hK _ _ ?_
   clear hK
   refine wpAnyIn_take (i:=15) (v:=.bool false) rfl rfl (by kernel_rfl) (by kernel_rfl) (by kernel_rfl) (fun _ _ _ h=>h) ⟨Or.inl ⟨by kernel_rfl,fun W=>by go_simp⟩,fun _=>rfl⟩ ?_
   refine wpAnyIn_done (by kernel_rfl) ?_ _
   gi_wp2
   have HF3:Hid (∀ p∈[Pc.blk b 87 #[.int .i64 k,.int .i64 f,.int .i64 t,.slice pw nw cw,.int .i64 rad,.int .i64 most,.slice po no co,.slice pt nt ct,.slice pr nr cr,.slice pv nv cv,.slice pl nl cl,.int .i64 wk,.slice pp np cp,.slice q Y.1.length c,.slice q2 Y.2.length c2],Pc.blk bx 82 #[.pointer (some ⟨b,0,none⟩)],Pc.own 146 4 q Y.1.length c (encQ Y.1),Pc.own 138 4 q2 Y.2.length c2 (encQ Y.2)],∀ k,p.foot k→¬ Bd k):=fun p hp k hk hb=>by
    have h3:=(HBD.out k hb).2
    simp only [List.mem_cons,List.not_mem_nil,or_false] at hp
    rcases hp with rfl | rfl | rfl | rfl
    ·exact HF.out _ (List.mem_cons_self ..) k hk hb
    ·exact HF.out _ (List.mem_cons_of_mem _ (List.mem_cons_self ..)) k hk hb
    ·have:=HZN.out _ (List.mem_cons_self ..) k hk
     omega
    ·have:=HZN.out _ (List.mem_cons_of_mem _ (List.mem_cons_self ..)) k hk
     omega
   have S7:=Lib.hid ((S6.out.pick (Δ:=[Pc.blk b 87 #[.int .i64 k,.int .i64 f,.int .i64 t,.slice pw nw cw,.int .i64 rad,.int .i64 most,.slice po no co,.slice pt nt ct,.slice pr nr cr,.slice pv nv cv,.slice pl nl cl,.int .i64 wk,.slice pp np cp,.slice q Y.1.length c,.slice q2 Y.2.length c2],Pc.blk bx 82 #[.pointer (some ⟨b,0,none⟩)],Pc.own 146 4 q Y.1.length c (encQ Y.1),Pc.own 138 4 q2 Y.2.length c2 (encQ Y.2)]) [1,2,3,4] (by decide) rfl).kpN gst_cells HF3.out (fun k hb=>(HBD.out k hb).1) hw0 HK3.out)
   have hs9:W.heap.size≤W3.heap.size:=Nat.le_trans hw8 HK3.out.size
   gi_roundg (gk - 1)
   case rel =>
    have e:(pre ++ [(⟨yb,yd,yF,hq,hc,dn⟩:YdT)]).length=m+1:=by rw [List.length_append,HM.out];rfl
    exact⟨pre ++ [(⟨yb,yd,yF,hq,hc,dn⟩:YdT)],q,Y.1.length,c,q2,Y.2.length,c2,by rw [e];omega,by rw [e,HRY.out];exact S7.out,by rw [e,HRY.out];exact HF3.out,HJ8.out,hs9⟩
   case measure=>omega
  ·have HX3:=Lib.hid hJx3
   clear hJx3
   refine hK _ _ ?_
   clear hK
   refine wpAnyIn_take (i:=15) (v:=.bool true) rfl rfl (by kernel_rfl) (by kernel_rfl) (by kernel_rfl) (fun _ _ _ h=>h) ⟨Or.inl ⟨by kernel_rfl,fun W=>by go_simp⟩,fun _=>rfl⟩ ?_
   refine wpAnyIn_done (by kernel_rfl) ?_ _
   gi_wp2
   refine bodyPost_ret (results_none rfl _ _ _) rfl ?_
   exact⟨⟨_,rfl⟩,.inr ⟨_,trivial,HX3.out⟩⟩
end
section
open Go Go.RowKit
def chkJ (ck:Bool) (k f t:Int) (ws:List ByteArray) (rad most:Int) (n:Nat):Int:=if ck=true then chkQ k f t ws rad most ((n:Int) - 1) else 40
theorem CheckJ (k f t:Int) (pw:Option Addr) (nw cw:Nat) (ws:List ByteArray) (rad most:Int) (po:Option Addr) (no co:Nat) (O:List Int) (pt:Option Addr) (nt ct:Nat) (T:List Int) (pr:Option Addr) (nr cr:Nat) (R:List Int) (pv:Option Addr) (nv cv:Nat) (V:List Int) (w:World) (hO:Rd w 1 po no (encI O)) (hT:Rd w 1 pt nt (encI T)) (hR:Rd w 1 pr nr (encI R)) (hV:Rd w 1 pv nv (encI V)) (hct:nt≤ct) (hcv:nv≤cv) (hW:Rd w 1 pw nw (encS ws)) (hz:∀ s∈ws,s.size≤1000000) (h1000:no≤1000) :
  Calls Tryz.prog 49 #[.agg #[.int .i64 k,.int .i64 f,.int .i64 t,.slice pw nw cw,.int .i64 rad,.int .i64 most],.agg #[.slice po no co,.slice pt nt ct,.slice pr nr cr,.slice pv nv cv]] w fun e w'=>e=.returned (.int .i64 (chkJ (checkR O T R V) k f t ws rad most no))∧Ext w w':=by
 have HCK:=Lib.hid (fun W (h:Ext w W)=>CheckR po no co O pt nt ct T pr nr cr R pv nv cv V W (hO.ext h) (hT.ext h) (hR.ext h) (hV.ext h) hct hcv)
 have HQ:=Lib.hid (fun W (h:Ext w W)=>CheckQ k f t pw nw cw ws rad most ((no:Int) - 1) W (hW.ext h) hz)
 have S0:=Lib.hid (((Sep.start w).al #[.int .i64 k,.int .i64 f,.int .i64 t,.slice pw nw cw,.int .i64 rad,.int .i64 most] 24 w.heap.size rfl).al #[.slice po no co,.slice pt nt ct,.slice pr nr cr,.slice pv nv cv] 27 (w.heap.size+1) (by simp))
 clear hO hT hR hV hct hcv hW hz
 obtain⟨ck,hck⟩:∃ ck,checkR O T R V=ck:=⟨_,rfl⟩
 rw [hck] at HCK ⊢
 obtain⟨x,hx⟩:∃ x,chkQ k f t ws rad most ((no:Int) - 1)=x:=⟨_,rfl⟩
 rw [hx] at HQ
 have e1:chkJ ck k f t ws rad most no=if ck=true then x else 40:=by unfold chkJ;rw [hx]
 rw [e1]
 clear e1 hx hck
 go_enter Tryz.func49,Tryz.ntmps49
 cases ck with
 | false =>
  go_wp2_with (go_at_call 82;go_must (refine(HCK.out _ S0.out.ext).mono ?_;rintro e w1 ⟨rfl,hb⟩;have S1:=Lib.hid (S0.out.call hb);clear hb))
  go_ret
  exact⟨rfl,S1.out.ext⟩
 | true =>
  go_wp2_with (first | (go_at_call 82;go_must (refine(HCK.out _ S0.out.ext).mono ?_;rintro e w1 ⟨rfl,hb⟩;have S1:=Lib.hid (S0.out.call hb);obtain⟨b0,b1,b2,b3,b4,b5,bz⟩:=bkc0c1c2c3c4c5l (S1.out.blk 1 rfl);obtain⟨c0,cz⟩:=bkc0l (S1.out.blk 0 rfl);clear hb)) | (go_at_call 76;go_must (refine(HQ.out _ S1.out.ext).mono ?_;rintro e w2 ⟨rfl,hb⟩;have S2:=Lib.hid (S1.out.call hb);clear hb)))
  go_ret
  exact⟨rfl,S2.out.ext⟩
end
section
open Go
theorem wpIn_region_heldR {F:Fence} {n r:Nat} {P:Program} {ops:Array Oper} {Q:Exit→Act→World→Prop} {S:World→Prop} (y:Nat) {id:Nat} {a:Act} {w:World} (hro:F.round=none) (hnd:∀ (i:Nat) (o:Oper),ops[i]?=some o→∀ c,o.op≠.defer c) (hm:P.follows .mixedOrders=true) (hS:S w.drew)
  (h:S w.drew→wpAnyHI F n P .any ops Q S y ops.size (Array.replicate ops.size false) a w.drew):(Code.region id ops true).wpIn (F.inRound r) n P Q a w :=
 wpIn_region_any hm (wpAnyIn_round hro hnd _ _ _ _ (wpAnyIn_of_heldI _ _ _ _ (h hS)))
theorem noDefer_arr {ops:Array Oper} (h:ops.toList.all noDefer=true) (i:Nat) (o:Oper) (hi:ops[i]?=some o) (c):o.op≠.defer c:=by
 intro e
 have:=List.all_eq_true.1 h o (Array.mem_toList_iff.2 (Array.mem_of_getElem? hi))
 unfold noDefer at this
 rw [e] at this
 cases this
end
section
open Go Go.RowKit
def frRun (a10 a12 a13 a14 a19 a20 a21:Value) (b:Act):Prop:=∃ u0 u1 u2 u3 u4 u5 u6 u7 u8 u9 u11 u15 u16 u17 u18 u22 u23 u24 u25 u26 u27 u28 u29 u30 u31 u32 u33 u34 u35 u36 u37 u38 u39 u40 u41 u42 u43 u44 u45 u46 u47 u48 u49 u50 u51 u52 u53 u54 u55 u56 u57 u58 u59 u60 u61 u62 u63 u64 u65 u66:Value,b={ tmps:=#[u0,u1,u2,u3,u4,u5,u6,u7,u8,u9,a10,u11,a12,a13,a14,u15,u16,u17,u18,a19,a20,a21,u22,u23,u24,u25,u26,u27,u28,u29,u30,u31,u32,u33,u34,u35,u36,u37,u38,u39,u40,u41,u42,u43,u44,u45,u46,u47,u48,u49,u50,u51,u52,u53,u54,u55,u56,u57,u58,u59,u60,u61,u62,u63,u64,u65,u66],defers:=[] }
theorem frRun_of {a10 a12 a13 a14 a19 a20 a21 u0 u1 u2 u3 u4 u5 u6 u7 u8 u9 u11 u15 u16 u17 u18 u22 u23 u24 u25 u26 u27 u28 u29 u30 u31 u32 u33 u34 u35 u36 u37 u38 u39 u40 u41 u42 u43 u44 u45 u46 u47 u48 u49 u50 u51 u52 u53 u54 u55 u56 u57 u58 u59 u60 u61 u62 u63 u64 u65 u66:Value}:frRun a10 a12 a13 a14 a19 a20 a21 { tmps:=#[u0,u1,u2,u3,u4,u5,u6,u7,u8,u9,a10,u11,a12,a13,a14,u15,u16,u17,u18,a19,a20,a21,u22,u23,u24,u25,u26,u27,u28,u29,u30,u31,u32,u33,u34,u35,u36,u37,u38,u39,u40,u41,u42,u43,u44,u45,u46,u47,u48,u49,u50,u51,u52,u53,u54,u55,u56,u57,u58,u59,u60,u61,u62,u63,u64,u65,u66],defers:=[] }:=⟨u0,u1,u2,u3,u4,u5,u6,u7,u8,u9,u11,u15,u16,u17,u18,u22,u23,u24,u25,u26,u27,u28,u29,u30,u31,u32,u33,u34,u35,u36,u37,u38,u39,u40,u41,u42,u43,u44,u45,u46,u47,u48,u49,u50,u51,u52,u53,u54,u55,u56,u57,u58,u59,u60,u61,u62,u63,u64,u65,u66,rfl⟩
end
section
open Go Go.RowKit
attribute [local go_sem] Oper.semAt_some
def RunQ (b:Bool) (d:Int) (F:List (Int × Int)) (n e:Int) (w:World) (x:Ending) (w':World):Prop:=∃ q c',x=.returned (.tuple #[.agg #[.bool b,.int .i64 d,.slice q F.length c'],.int .i64 n,.int .i64 e])∧Sep w w' [.own 105 2 q F.length c' (encE F)]
def RunR (k t:Int) (L:List Po) (ws:List ByteArray) (most bud:Int) (m:Nat) (p:List Sq × List Sq) (w:World) (x:Ending) (w':World):Prop :=
 ∃ b d F,((m:Int)+1≤bud→AnsD k t L ws most p b d F∧RunQ b d F ((m:Int)+1) 0 w x w')∧(bud<(m:Int)+1→RunQ false 0 [] bud 251 w x w')
theorem gi_cells {a1 a2 a3 a4 a5:Nat} {t1 t2 t3 t4 t5:TypeId} {c1 c2 c3 c4 c5:Array Value}:∀ p∈[Pc.blk a1 t1 c1,Pc.blk a2 t2 c2,Pc.blk a3 t3 c3,Pc.blk a4 t4 c4,Pc.blk a5 t5 c5],p.cells:=by
 intro p hp
 simp only [List.mem_cons,List.not_mem_nil,or_false] at hp
 rcases hp with rfl | rfl | rfl | rfl | rfl <;> exact Pc.blk_cells _ _ _
theorem gi_feet {a1 a2 a3 a4 a5 b:Nat} {t1 t2 t3 t4 t5:TypeId} {c1 c2 c3 c4 c5:Array Value} (h:a1≠b∧a2≠b∧a3≠b∧a4≠b∧a5≠b):∀ p∈[Pc.blk a1 t1 c1,Pc.blk a2 t2 c2,Pc.blk a3 t3 c3,Pc.blk a4 t4 c4,Pc.blk a5 t5 c5],∀ k,p.foot k→¬ k=b:=by
 intro p hp k hk e
 obtain⟨h1,h2,h3,h4,h5⟩:=h
 simp only [List.mem_cons,List.not_mem_nil,or_false] at hp
 rcases hp with rfl | rfl | rfl | rfl | rfl
 ·exact h1 ((show k=a1 from hk).symm.trans e)
 ·exact h2 ((show k=a2 from hk).symm.trans e)
 ·exact h3 ((show k=a3 from hk).symm.trans e)
 ·exact h4 ((show k=a4 from hk).symm.trans e)
 ·exact h5 ((show k=a5 from hk).symm.trans e)
theorem gr_cells {e0:TypeId} {sz:Nat} {q0:Option Addr} {n0 c0:Nat} {xs:List Value} {a2 a3 a4:Nat} {t2 t3 t4:TypeId} {c2 c3 c4:Array Value}:∀ p∈[Pc.own e0 sz q0 n0 c0 xs,Pc.blk a2 t2 c2,Pc.blk a3 t3 c3,Pc.blk a4 t4 c4],p.cells:=by
 intro p hp
 simp only [List.mem_cons,List.not_mem_nil,or_false] at hp
 rcases hp with rfl | rfl | rfl | rfl
 ·exact Pc.own_cells _ _ _ _ _ _
 all_goals exact Pc.blk_cells _ _ _
theorem gr_feet {e0:TypeId} {sz:Nat} {q0:Option Addr} {n0 c0:Nat} {xs:List Value} {a2 a3 a4 b:Nat} {t2 t3 t4:TypeId} {c2 c3 c4:Array Value} (h0:∀ kk,blkOf q0=some kk→kk≠b) (h:a2≠b∧a3≠b∧a4≠b):∀ p∈[Pc.own e0 sz q0 n0 c0 xs,Pc.blk a2 t2 c2,Pc.blk a3 t3 c3,Pc.blk a4 t4 c4],∀ k,p.foot k→¬ k=b:=by
 intro p hp k hk e
 obtain⟨h2,h3,h4⟩:=h
 simp only [List.mem_cons,List.not_mem_nil,or_false] at hp
 rcases hp with rfl | rfl | rfl | rfl
 ·exact h0 k hk e
 ·exact h2 ((show k=a2 from hk).symm.trans e)
 ·exact h3 ((show k=a3 from hk).symm.trans e)
 ·exact h4 ((show k=a4 from hk).symm.trans e)
theorem RunOk (k f t:Int) (pw:Option Addr) (nw cw:Nat) (ws:List ByteArray) (rad most:Int) (po:Option Addr) (no co:Nat) (O:List Int) (pt:Option Addr) (nt ct:Nat) (T:List Int) (pr:Option Addr) (nr cr:Nat) (R:List Int) (pv:Option Addr) (nv cv:Nat) (V:List Int) (pl:Option Addr) (nl cl:Nat) (hs:List Hd) (L:List Po) (wk:Nat) (bud:Int) (pp:Option Addr) (np cp:Nat) (pk:List Int) (w:World) (n m:Nat) (rn:Nat→List Sq × List Sq) (hO:Rd w 1 po no (encI O)) (hT:Rd w 1 pt nt (encI T)) (hR:Rd w 1 pr nr (encI R)) (hV:Rd w 1 pv nv (encI V)) (hct:nt≤ct) (hcv:nv≤cv)
  (hL:RdP w pl nl hs L) (hW:Rd w 1 pw nw (encS ws)) (hpk:Rd w 1 pp np (encI pk)) (hck:checkR O T R V=true) (hn:O.length=n+1) (h200:n≤200) (h1:1≤wk) (h16:wk≤16)
  (hz:∀ s∈ws,s.size≤1000000) (hq:chkQ k f t ws rad most (n:Int)=0) (hb1:1≤bud) (hb2:bud≤9223372036854775807) (hm:m<200)
  (hk:k=1∨k=2∨k=3) (ht:I64 t) (hcw:nw≤cw) (hnw:nw≤100) (hok:PoOk L)
  (hr0:rn 0=([],startQ k f t 0)) (hrn:∀ i,RunI n i (rn i)) (hrs:∀ i,rn (i+1)=stepM (nextL k rad true O T R V) (rn i).1 (rn i).2)
  (hd:doneB k t (rn (m+1))=true) (hf:∀ j,j<m→doneB k t (rn (j+1))=false) :
  Calls Tryz.prog 17 #[.agg #[.int .i64 k,.int .i64 f,.int .i64 t,.slice pw nw cw,.int .i64 rad,.int .i64 most],.agg #[.slice po no co,.slice pt nt ct,.slice pr nr cr,.slice pv nv cv],.slice pl nl cl,.int .i64 wk,.int .i64 bud,.slice pp np cp] w (RunR k t L ws most bud m (rn (m+1)) w):=by
 have hno:no=n+1:=by rw [hO.nI,hn]
 have HCJ:=Lib.hid (fun W (h:Ext w W)=>CheckJ k f t pw nw cw ws rad most po no co O pt nt ct T pr nr cr R pv nv cv V W (hO.ext h) (hT.ext h) (hR.ext h) (hV.ext h) hct hcv (hW.ext h) hz (by omega))
 rw [hck] at HCJ
 have e1:chkJ true k f t ws rad most no=0:=by
  unfold chkJ
  rw [if_pos rfl,hno]
  have:((n+1:Nat):Int) - 1=n:=by omega
  rw [this,hq]
 rw [e1] at HCJ
 have HSQ:=Lib.hid (fun W=>StartQ k f t pw nw cw rad most 0 W)
 obtain⟨M0,hM0⟩:∃ M0,startQ k f t 0=M0:=⟨_,rfl⟩
 rw [hM0] at HSQ hr0
 have HIT:=Lib.hid (fun (W:World) (b bx:Nat) (pm:Option Addr) (nm cm:Nat) (Bd:Nat→Prop) =>
  stepsIt 8 (by omega) k f t pw nw cw ws rad most po no co O pt nt ct T pr nr cr R pv nv cv V pl nl cl hs L wk pp np cp pk w W b bx pm nm cm n rn Bd hO hT hR hV hct hcv hL hW hpk hck hn h200 h1 h16 hk ht hcw hnw hok (by rw [hr0]) hrn hrs)
 rw [hr0] at HIT
 have HHM:=Lib.hid (fun W=>HomeG 0 wk W (by omega) (by omega) h1 h16)
 have HDN:=Lib.hid hd
 have HFN:=Lib.hid hf
 have db:decide (bud<1)=false:=by simp;omega
 have S0:=Lib.hid ((((((((Sep.start w).al #[.int .i64 k,.int .i64 f,.int .i64 t,.slice pw nw cw,.int .i64 rad,.int .i64 most] 24 w.heap.size rfl).al #[.slice po no co,.slice pt nt ct,.slice pr nr cr,.slice pv nv cv] 27 (w.heap.size+1) (by simp)).al #[.int .i64 bud] 3 (w.heap.size+1+1) (by simp)).al #[.bool false,.int .i64 0,.slice none 0 0] 34 (w.heap.size+1+1+1) (by simp)).al #[.int .i64 0] 3 (w.heap.size+1+1+1+1) (by simp)).al #[.int .i64 0] 35 (w.heap.size+1+1+1+1+1) (by simp)))
 clear hO hT hR hV hct hcv hL hW hpk hck hn h200 h1 h16 hz hq hk ht hcw hnw hok hr0 hrn hrs hd hf hM0 e1 hno
 refine(callsIn_wide (n:=9)).1 ?_
 refine callsIn_of_wp_marks Tryz.func17 rfl trivial ?_ rfl
 simp only [Tryz.ntmps17,List.size_toArray,List.length_cons,List.length_nil,Nat.reduceAdd,Nat.reduceSub,Array.replicate_succ,Array.replicate_zero,List.push_toArray,List.append_toArray,List.nil_append,List.cons_append]
 refine wpIn_wide.2 ?_
 go_wp2_with (first | (go_at_call 49;go_must (refine(HCJ.out _ S0.out.ext).mono ?_;rintro e w1 ⟨rfl,hb⟩;have S1:=Lib.hid (S0.out.call hb);obtain⟨b0,bz⟩:=bkc0l (S1.out.blk 3 rfl);clear hb)) | (go_at_call 50;go_must (refine(HHM.out _).mono ?_;rintro e w2 ⟨rfl,rfl⟩)))
 refine wp_region_noPanic ?_
 refine wp_region_held_drew (S:=fun W=>Blk W w.heap.size 24 #[.int .i64 k,.int .i64 f,.int .i64 t,.slice pw nw cw,.int .i64 rad,.int .i64 most]∧Blk W (w.heap.size+1) 27 #[.slice po no co,.slice pt nt ct,.slice pr nr cr,.slice pv nv cv]) (by kernel_rfl) ⟨S1.out.drew.blk 5 rfl,S1.out.drew.blk 4 rfl⟩ (fun hHeld=>?_)
 have SD:=Lib.hid S1.out.drew
 clear S0 S1 b0 bz HCJ HHM db
 generalize World.drew _=D at SD hHeld ⊢
 refine wpAnyH_take (i:=0) (v:=.agg #[.int .i64 k,.int .i64 f,.int .i64 t,.slice pw nw cw,.int .i64 rad,.int .i64 most]) rfl (by kernel_rfl) (by kernel_rfl) (by kernel_rfl) (noPanic_q _ _) (Or.inl ⟨by kernel_rfl,fun W hSw=>by have h0:=hSw.1.cell 0;have h1:=hSw.1.cell 1;have h2:=hSw.1.cell 2;have h3:=hSw.1.cell 3;have h4:=hSw.1.cell 4;have h5:=hSw.1.cell 5;clear hSw;go_simp⟩) hHeld ?_
 refine wpAnyH_take (i:=1) (v:=.agg #[.slice po no co,.slice pt nt ct,.slice pr nr cr,.slice pv nv cv]) rfl (by kernel_rfl) (by kernel_rfl) (by kernel_rfl) (noPanic_q _ _) (Or.inl ⟨by kernel_rfl,fun W hSw=>by have h0:=hSw.2.cell 0;have h1:=hSw.2.cell 1;have h2:=hSw.2.cell 2;have h3:=hSw.2.cell 3;clear hSw;go_simp⟩) hHeld ?_
 refine wpAnyH_take (i:=2) (v:=.slice pl nl cl) rfl (by kernel_rfl) (by kernel_rfl) (by kernel_rfl) (noPanic_q _ _) (Or.inl ⟨by kernel_rfl,fun W hSw=>by skip;clear hSw;go_simp⟩) hHeld ?_
 refine wpAnyH_take (i:=3) (v:=.int .i64 wk) rfl (by kernel_rfl) (by kernel_rfl) (by kernel_rfl) (noPanic_q _ _) (Or.inl ⟨by kernel_rfl,fun W hSw=>by skip;clear hSw;go_simp⟩) hHeld ?_
 refine wpAnyH_take (i:=4) (v:=.slice pp np cp) rfl (by kernel_rfl) (by kernel_rfl) (by kernel_rfl) (noPanic_q _ _) (Or.inl ⟨by kernel_rfl,fun W hSw=>by skip;clear hSw;go_simp⟩) hHeld ?_
 refine wpAnyH_take (i:=5) (v:=.agg #[.int .i64 k,.int .i64 f,.int .i64 t,.slice pw nw cw,.int .i64 rad,.int .i64 most]) rfl (by kernel_rfl) (by kernel_rfl) (by kernel_rfl) (noPanic_q _ _) (Or.inl ⟨by kernel_rfl,fun W hSw=>by have h0:=hSw.1.cell 0;have h1:=hSw.1.cell 1;have h2:=hSw.1.cell 2;have h3:=hSw.1.cell 3;have h4:=hSw.1.cell 4;have h5:=hSw.1.cell 5;clear hSw;go_simp⟩) hHeld ?_
 refine wpAnyH_ready (rs:=[6]) (by kernel_rfl) (by simp) (AllReadyH.cons rfl (fun K hK=>?_) AllReadyH.nil)
 go_simp
 refine(HSQ.out D).mono ?_
 rintro e w3 ⟨q,c,rfl,Z⟩
 have S3:=Lib.hid (SD.out.comp Z)
 clear Z SD hHeld HSQ
 refine hK.out _ _ ⟨S3.out.blk 6 rfl,S3.out.blk 5 rfl⟩ (fun hHeld=>?_)
 clear hK
 refine wpAnyH_take (i:=7) (v:=.agg #[.int .i64 k,.int .i64 f,.int .i64 t,.slice pw nw cw,.int .i64 rad,.int .i64 most,.slice po no co,.slice pt nt ct,.slice pr nr cr,.slice pv nv cv,.slice pl nl cl,.int .i64 wk,.slice pp np cp,.slice none 0 0,.slice q M0.length c]) rfl (by kernel_rfl) (by kernel_rfl) (by kernel_rfl) (noPanic_q _ _) (Or.inl ⟨by kernel_rfl,fun W hSw=>by skip;clear hSw;go_simp⟩) hHeld ?_
 refine wpAnyH_ready (rs:=[8]) (by kernel_rfl) (by simp) (AllReadyH.cons rfl (fun K hK=>?_) AllReadyH.nil)
 go_simp
 have S4:=Lib.hid (S3.out.al #[.int .i64 k,.int .i64 f,.int .i64 t,.slice pw nw cw,.int .i64 rad,.int .i64 most,.slice po no co,.slice pt nt ct,.slice pr nr cr,.slice pv nv cv,.slice pl nl cl,.int .i64 wk,.slice pp np cp,.slice none 0 0,.slice q M0.length c] 87 w3.heap.size rfl)
 clear hHeld
 refine hK.out _ _ ⟨S4.out.blk 7 rfl,S4.out.blk 6 rfl⟩ (fun hHeld=>?_)
 clear hK
 refine wpAnyH_take (i:=9) (v:=.pointer (some ⟨w3.heap.size,0,none⟩)) rfl (by kernel_rfl) (by kernel_rfl) (by kernel_rfl) (noPanic_q _ _) (Or.inl ⟨by kernel_rfl,fun W hSw=>by skip;clear hSw;go_simp⟩) hHeld ?_
 refine wpAnyH_done (by kernel_rfl) ?_ _
 refine noPanic_mk ?_
 clear hHeld
 simp [Act.put]
 obtain⟨X,hX⟩:∃ X,w3.alloc (.cells #[.int .i64 k,.int .i64 f,.int .i64 t,.slice pw nw cw,.int .i64 rad,.int .i64 most,.slice po no co,.slice pt nt ct,.slice pr nr cr,.slice pv nv cv,.slice pl nl cl,.int .i64 wk,.slice pp np cp,.slice none 0 0,.slice q M0.length c] 87)=X:=⟨_,rfl⟩
 rw [hX] at S4 ⊢
 clear hX S3
 generalize w3.heap.size=b at S4 ⊢
 clear w3 D
 have S5:=Lib.hid (S4.out.al #[.int .i64 0] 3 X.heap.size rfl)
 have S6:=Lib.hid (S5.out.al #[.pointer (some ⟨b,0,none⟩)] 82 (X.heap.size+1) (by simp))
 go_wp2_with (go_at_call 52;go_must (refine(StepsG b _).mono ?_;rintro e w5 ⟨rfl,rfl⟩))
 obtain⟨V1,hV⟩:∃ V1,(X.alloc (.cells #[.int .i64 0] 3)).alloc (.cells #[.pointer (some ⟨b,0,none⟩)] 82)=V1:=⟨_,rfl⟩
 rw [hV] at S6 ⊢
 clear hV S5 S4
 generalize X.heap.size+1=bx at S6 ⊢
 generalize X.heap.size=gn at S6 ⊢
 generalize w.heap.size+1+1+1+1+1=g14 at S6 ⊢
 generalize w.heap.size+1+1+1+1=g13 at S6 ⊢
 generalize w.heap.size+1+1+1=g12 at S6 ⊢
 generalize w.heap.size+1+1=gb at S6 ⊢
 clear X
 have S7:=Lib.hid (S6.out.nilrow 146 4)
 have SG:=Lib.hid (S7.out.pick (Δ:=[Pc.blk gn 3 #[.int .i64 0],Pc.blk g12 34 #[.bool false,.int .i64 0,.slice none 0 0],Pc.blk g13 3 #[.int .i64 0],Pc.blk g14 35 #[.int .i64 0],Pc.blk gb 3 #[.int .i64 bud]]) [2,7,6,5,8] (by decide) rfl)
 have SX:=Lib.hid (S7.out.pick (Δ:=[Pc.blk b 87 #[.int .i64 k,.int .i64 f,.int .i64 t,.slice pw nw cw,.int .i64 rad,.int .i64 most,.slice po no co,.slice pt nt ct,.slice pr nr cr,.slice pv nv cv,.slice pl nl cl,.int .i64 wk,.slice pp np cp,.slice none 0 0,.slice q M0.length c],Pc.blk bx 82 #[.pointer (some ⟨b,0,none⟩)],Pc.own 146 4 none 0 0 (encQ []),Pc.own 138 4 q M0.length c (encQ M0)]) [3,1,0,4] (by decide) rfl)
 have hap:∀ p∈[Pc.blk b 87 #[.int .i64 k,.int .i64 f,.int .i64 t,.slice pw nw cw,.int .i64 rad,.int .i64 most,.slice po no co,.slice pt nt ct,.slice pr nr cr,.slice pv nv cv,.slice pl nl cl,.int .i64 wk,.slice pp np cp,.slice none 0 0,.slice q M0.length c],Pc.blk bx 82 #[.pointer (some ⟨b,0,none⟩)],Pc.own 146 4 none 0 0 (encQ []),Pc.own 138 4 q M0.length c (encQ M0)],∀ p2∈[Pc.blk gn 3 #[.int .i64 0],Pc.blk g12 34 #[.bool false,.int .i64 0,.slice none 0 0],Pc.blk g13 3 #[.int .i64 0],Pc.blk g14 35 #[.int .i64 0],Pc.blk gb 3 #[.int .i64 bud]],∀ kk,p.foot kk→p2.foot kk→False:=by
  have hA:=List.pairwise_append.1 (S7.out.pick (Δ:=[Pc.blk b 87 #[.int .i64 k,.int .i64 f,.int .i64 t,.slice pw nw cw,.int .i64 rad,.int .i64 most,.slice po no co,.slice pt nt ct,.slice pr nr cr,.slice pv nv cv,.slice pl nl cl,.int .i64 wk,.slice pp np cp,.slice none 0 0,.slice q M0.length c],Pc.blk bx 82 #[.pointer (some ⟨b,0,none⟩)],Pc.own 146 4 none 0 0 (encQ []),Pc.own 138 4 q M0.length c (encQ M0)] ++ [Pc.blk gn 3 #[.int .i64 0],Pc.blk g12 34 #[.bool false,.int .i64 0,.slice none 0 0],Pc.blk g13 3 #[.int .i64 0],Pc.blk g14 35 #[.int .i64 0],Pc.blk gb 3 #[.int .i64 bud]]) [3,1,0,4,2,7,6,5,8] (by decide) rfl).apart
  exact fun p hp p2 hp2 kk hk hk2=>hA.2.2 p hp p2 hp2 kk hk hk2
 have HAP:=Lib.hid hap
 clear S6 S7 hap
 have HNE:Hid (gn≠b∧g12≠b∧g13≠b∧g14≠b∧gb≠b):=by
  have key:∀ p2∈[Pc.blk gn 3 #[.int .i64 0],Pc.blk g12 34 #[.bool false,.int .i64 0,.slice none 0 0],Pc.blk g13 3 #[.int .i64 0],Pc.blk g14 35 #[.int .i64 0],Pc.blk gb 3 #[.int .i64 bud]],¬ p2.foot b:=fun p2 hp2 hk2=>HAP.out _ (List.mem_cons_self ..) p2 hp2 b rfl hk2
  exact⟨fun e=>key (Pc.blk gn 3 #[.int .i64 0]) (by simp) e.symm,fun e=>key (Pc.blk g12 34 #[.bool false,.int .i64 0,.slice none 0 0]) (by simp) e.symm,fun e=>key (Pc.blk g13 3 #[.int .i64 0]) (by simp) e.symm,fun e=>key (Pc.blk g14 35 #[.int .i64 0]) (by simp) e.symm,fun e=>key (Pc.blk gb 3 #[.int .i64 bud]) (by simp) e.symm⟩
 obtain⟨Bd,hBd⟩:∃ Bd:Nat→Prop,Bd=footA [Pc.blk gn 3 #[.int .i64 0],Pc.blk g12 34 #[.bool false,.int .i64 0,.slice none 0 0],Pc.blk g13 3 #[.int .i64 0],Pc.blk g14 35 #[.int .i64 0],Pc.blk gb 3 #[.int .i64 bud]]:=⟨_,rfl⟩
 have HBD:=Lib.hid hBd
 clear hBd
 refine wpIn_wide.1 (wpIn_rangeFunc_toldD (F:=Fence.wide) (n:=9) rfl (by omega) (gf:=93) (lb:=#[.pointer (some ⟨bx,0,none⟩)]) rfl trivial (enters_of Tryz.func93 (by kernel_rfl) rfl)
  (HIT.out V1 b bx q M0.length c Bd SX.out ?hBl ?hBf) ?hXl
  (fun h k=>h.trans k) ?hKb (Below.refl _ _) (fun _=>rfl)
  (fun (pre:List YdT) W=>Sep w W [Pc.blk gn 3 #[.int .i64 (pre.length:Int)],Pc.blk g12 34 #[.bool false,.int .i64 0,.slice none 0 0],Pc.blk g13 3 #[.int .i64 0],Pc.blk g14 35 #[.int .i64 0],Pc.blk gb 3 #[.int .i64 bud]]∧V1.heap.size≤W.heap.size∧pre.length≤m∧(pre.length:Int)<bud)
  (fun c2 (pre:List YdT) W=>(c2=.ret∧∃ y:YdT,pre.length=m+1∧(m:Int)+1≤bud∧(∀ kk,blkOf y.q=some kk→kk≠b)∧AnsD k t L ws most (rn (m+1)) y.yes y.d y.F∧Sep w W [Pc.own 105 2 y.q y.F.length y.c (encE y.F),Pc.blk g12 34 #[.bool y.yes,.int .i64 y.d,.slice y.q y.F.length y.c],Pc.blk g13 3 #[.int .i64 ((m:Int)+1)],Pc.blk g14 35 #[.int .i64 0]])∨(c2=.exit 0∧bud<(m:Int)+1∧Sep w W [Pc.blk gn 3 #[.int .i64 bud],Pc.blk g12 34 #[.bool false,.int .i64 0,.slice none 0 0],Pc.blk g13 3 #[.int .i64 0],Pc.blk g14 35 #[.int .i64 0],Pc.blk gb 3 #[.int .i64 bud]]))
  ?hI ?hIx ?hQ ?h0
  (fun (pre:List YdT) (y:YdT) a' W=>∃ ga,(∀ kk,blkOf y.q=some kk→kk≠b)∧ga≠b∧frRun (.pointer (some ⟨gb,0,none⟩)) (.pointer (some ⟨g12,0,none⟩)) (.pointer (some ⟨g13,0,none⟩)) (.pointer (some ⟨g14,0,none⟩)) (.pointer (some ⟨gn,0,none⟩)) (.pointer (some ⟨ga,0,none⟩)) (.bool y.dn) a'∧Sep w W ([Pc.blk ga 34 #[.bool y.yes,.int .i64 y.d,.slice y.q y.F.length y.c],Pc.own 105 2 y.q y.F.length y.c (encE y.F)] ++ [Pc.blk gn 3 #[.int .i64 (pre.length:Int)],Pc.blk g12 34 #[.bool false,.int .i64 0,.slice none 0 0],Pc.blk g13 3 #[.int .i64 0],Pc.blk g14 35 #[.int .i64 0],Pc.blk gb 3 #[.int .i64 bud]])∧AnsD k t L ws most (rn (pre.length+1)) y.yes y.d y.F∧y.dn=doneB k t (rn (pre.length+1)))
  ?hAx ?assign ?body (fun D xs W _ h _ _=>h.elim) ?stop)
 case hBl =>
  intro kk hk
  rw [HBD.out] at hk
  obtain⟨p,hp,hk⟩:=hk
  exact⟨SG.out.new p hp kk hk,SG.out.lt hp hk⟩
 case hBf =>
  intro p hp kk hk hb
  rw [HBD.out] at hb
  obtain⟨p2,hp2,hk2⟩:=hb
  exact HAP.out p hp p2 hp2 kk hk hk2
 case hXl=>rintro kk rfl;exact(SX.out.blk 0 rfl).lt
 case hKb=>exact fun W l o o' hl ho hc _=>KpN.putObj W l o o' hl ho hc
 case hI =>
  rintro pre W W' row ⟨S,h1,h2⟩ hg hr
  exact⟨S.turnX gi_cells (gi_feet HNE.out) (fun kk e=>by rw [e];exact SX.out.bge 0 rfl) SG.out.ext.size hg hr,Nat.le_trans h1 hg.size,h2⟩
 case hIx =>
  rintro c2 pre W W' row h hg hr
  rcases h with ⟨rfl,y,h1,h2,h3,h4,S⟩ | ⟨rfl,h1,S⟩
  ·exact .inl ⟨rfl,y,h1,h2,h3,h4,S.turnX gr_cells (gr_feet h3 ⟨HNE.out.2.1,HNE.out.2.2.1,HNE.out.2.2.2.1⟩) (fun kk e=>by rw [e];exact SX.out.bge 0 rfl) SG.out.ext.size hg hr⟩
  ·exact .inr ⟨rfl,h1,S.turnX gi_cells (gi_feet HNE.out) (fun kk e=>by rw [e];exact SX.out.bge 0 rfl) SG.out.ext.size hg hr⟩
 case hQ=>exact fun pre W h=>Nat.lt_of_le_of_lt h.2.2.1 hm
 case h0=>exact⟨SG.out,Nat.le_refl _,Nat.zero_le _,by show ((0:Nat):Int)<bud;omega⟩
 case hAx =>
  rintro pre y a' _ W W' row ⟨ga,h1,h2,h3,S,h4⟩ hg hr
  refine⟨ga,h1,h2,h3,S.turnX (fun p hp=>?_) (fun p hp kk hk e=>?_) (fun kk e=>by rw [e];exact SX.out.bge 0 rfl) SG.out.ext.size hg hr,h4⟩
  ·rcases List.mem_append.1 hp with hp | hp
   ·simp only [List.mem_cons,List.not_mem_nil,or_false] at hp
    rcases hp with rfl | rfl
    ·exact Pc.blk_cells _ _ _
    ·exact Pc.own_cells _ _ _ _ _ _
   ·exact gi_cells p hp
  ·rcases List.mem_append.1 hp with hp | hp
   ·simp only [List.mem_cons,List.not_mem_nil,or_false] at hp
    rcases hp with rfl | rfl
    ·exact h2 ((show kk=ga from hk).symm.trans e)
    ·exact h1 kk hk e
   ·exact gi_feet HNE.out p hp kk hk e
 case assign =>
  rintro l pre y V0 W Kx ⟨S,hVs,hpm,hpb⟩ hE ⟨hA1,hA2,hA3⟩ hKx
  have HKX:=Lib.hid hKx
  have SY:=Lib.hid ((S.comp hA1).al #[.bool y.yes,.int .i64 y.d,.slice y.q y.F.length y.c] 34 W.heap.size rfl)
  have HBV:=Lib.hid (show b<V0.heap.size from Nat.lt_of_lt_of_le (SX.out.blk 0 rfl).lt hVs)
  have HH:=Lib.hid (show ∀ kk,blkOf y.q=some kk→kk≠b from fun kk hk e=>by
   have:=hA1.new _ (List.mem_cons_self ..) kk hk
   have:=HBV.out
   omega)
  have HWS:=Lib.hid hE.size
  have HA2:=Lib.hid hA2
  have HA3:=Lib.hid hA3
  clear hKx S hA1 hA2 hA3
  simp only [ydE]
  gi_wp2
  exact HKX.out _ _ ((keeps_ext (Ext.alloc (Below.refl _ _) _)).from _) (KpN.of_ext (Ext.alloc (Below.refl _ _) _)) ⟨SY.out.pick [2,3,4,5,6] (by decide) rfl,by rw [World.size_alloc];have:=HWS.out;omega,hpm,hpb⟩ ⟨W.heap.size,HH.out,by have:=HWS.out;have:=HBV.out;omega,frRun_of,SY.out,HA2.out,HA3.out⟩
 case body =>
  rintro l pre y a' W ⟨_,hVs,hpm,hpb⟩ ⟨ga,hyb,hgb,hfr,S,hA,hdn⟩
  obtain⟨j,hj⟩:∃ j,pre.length=j:=⟨_,rfl⟩
  have hj2:(pre ++ [y]).length=j+1:=by rw [List.length_append,hj];rfl
  rw [hj] at hpm hpb S hA hdn
  obtain⟨pre2,hpre⟩:∃ pre2,pre ++ [y]=pre2:=⟨_,rfl⟩
  rw [hpre] at hj2 ⊢
  obtain⟨yes,d,F,yq,yc,dn⟩:=y
  dsimp only at hyb hfr S hA hdn
  have HJ2:=Lib.hid hj2
  have HYB:=Lib.hid hyb
  have HA:=Lib.hid hA
  clear hj hj2 hpre hyb hA
  obtain⟨n0,nf,nz⟩:=bkc0z0l (S.blk 2 rfl)
  have d1:(0:Int)≤(j:Int):=by omega
  have d2:(j:Int)≤1000:=by omega
  have S1:=Lib.hid (S.set 2 rfl 0 (.int .i64 ((j:Int)+1)))
  have K1:=Lib.hid (KeepsOthers.setCell W ⟨gn,0,none⟩ (.int .i64 ((j:Int)+1)))
  have KP:=Lib.hid (KpN.cell (Bd:=Bd) (C:=V1.heap.size) W ⟨gn,0,none⟩ (.int .i64 ((j:Int)+1)) (by rw [HBD.out];exact⟨_,List.mem_cons_self ..,rfl⟩))
  have HSZ:=Lib.hid (show V1.heap.size≤(W.setCell ⟨gn,0,none⟩ (.int .i64 ((j:Int)+1))).heap.size from Nat.le_trans hVs (grown_set ..).size)
  clear S
  unfold frRun at hfr
  (repeat obtain⟨_,hfr⟩:=hfr)
  by_cases hjm:j=m
  ·subst hjm
   have hdt:dn=true:=by rw [hdn,HDN.out]
   subst hdt
   clear hdn HFN
   gi_wp2
   clear n0 nf nz
   have S2:=Lib.hid (show Sep w (W.setCell ⟨gn,0,none⟩ (.int .i64 ((j:Int)+1))).drew ([Pc.blk ga 34 #[.bool yes,.int .i64 d,.slice yq F.length yc],Pc.own 105 2 yq F.length yc (encE F)] ++ [Pc.blk gn 3 #[.int .i64 ((j:Int)+1)],Pc.blk g12 34 #[.bool false,.int .i64 0,.slice none 0 0],Pc.blk g13 3 #[.int .i64 0],Pc.blk g14 35 #[.int .i64 0],Pc.blk gb 3 #[.int .i64 bud]]) from S1.out.drew)
   have K2:=Lib.hid (K1.out.trans (keeps_ext (Below.refl _ (W.setCell ⟨gn,0,none⟩ (.int .i64 ((j:Int)+1)))).drew))
   refine wpIn_region_heldR (S:=fun U=>Blk U ga 34 #[.bool yes,.int .i64 d,.slice yq F.length yc]∧Blk U gn 3 #[.int .i64 ((j:Int)+1)]) 4 rfl (noDefer_arr (by kernel_rfl)) (by kernel_rfl) ⟨S2.out.blk 0 rfl,S2.out.blk 2 rfl⟩ (fun hHeld=>?_)
   clear S1 K1 KP HSZ
   generalize World.drew _=D at S2 K2 hHeld ⊢
   refine wpAnyHI_take [2,3,4] (i:=0) (v:=.agg #[.bool yes,.int .i64 d,.slice yq F.length yc]) rfl rfl (by kernel_rfl) (by kernel_rfl) (by kernel_rfl) (by kernel_rfl) (fun _ _ _ h=>h) ⟨Or.inl ⟨by kernel_rfl,fun W hSw=>by have h0:=hSw.1.cell 0;have h1:=hSw.1.cell 1;have h2:=hSw.1.cell 2;have h3:=hSw.1.lt;clear hSw;go_simp⟩,fun _ _=>rfl⟩ hHeld ?_
   refine wpAnyHI_take [3,4] (i:=1) (v:=.int .i64 ((j:Int)+1)) rfl rfl (by kernel_rfl) (by kernel_rfl) (by kernel_rfl) (by kernel_rfl) (fun _ _ _ h=>h) ⟨Or.inl ⟨by kernel_rfl,fun W hSw=>by have h0:=hSw.2.cell 0;have h3:=hSw.2.lt;clear hSw;go_simp⟩,fun _ _=>rfl⟩ hHeld ?_
   obtain⟨c0,c1,c2,cz,cf0,cf1,cf2⟩:=bkc0c1c2lz0z1z2 (S2.out.blk 3 rfl)
   refine wpAnyHI_one (i:=2) (by kernel_rfl) rfl (by decide) (fun K hK=>?_)
   go_simp
   have S3:=Lib.hid (show Sep w (((D.setCell ⟨g12,0,none⟩ (.bool yes)).setCell ⟨g12,1,none⟩ (.int .i64 d)).setCell ⟨g12,2,none⟩ (.slice yq F.length yc)) [Pc.blk ga 34 #[.bool yes,.int .i64 d,.slice yq F.length yc],Pc.own 105 2 yq F.length yc (encE F),Pc.blk gn 3 #[.int .i64 ((j:Int)+1)],Pc.blk g12 34 #[.bool yes,.int .i64 d,.slice yq F.length yc],Pc.blk g13 3 #[.int .i64 0],Pc.blk g14 35 #[.int .i64 0],Pc.blk gb 3 #[.int .i64 bud]] from((S2.out.set 3 rfl 0 (.bool yes)).set 3 rfl 1 (.int .i64 d)).set 3 rfl 2 (.slice yq F.length yc))
   have K3:=Lib.hid (((K2.out.trans (KeepsOthers.setCell D ⟨g12,0,none⟩ (.bool yes))).trans (KeepsOthers.setCell _ ⟨g12,1,none⟩ (.int .i64 d))).trans (KeepsOthers.setCell _ ⟨g12,2,none⟩ (.slice yq F.length yc)))
   clear c0 c1 c2 cz cf0 cf1 cf2 S2 K2 hHeld
   refine hK _ _ ⟨S3.out.blk 0 rfl,S3.out.blk 2 rfl⟩ ?_
   clear hK
   generalize ((D.setCell ⟨g12,0,none⟩ (.bool yes)).setCell ⟨g12,1,none⟩ (.int .i64 d)).setCell ⟨g12,2,none⟩ (.slice yq F.length yc)=D3 at S3 K3 ⊢
   obtain⟨c0,cz,cf0⟩:=bkc0lz0 (S3.out.blk 4 rfl)
   refine wpAnyHI_one (i:=3) (by kernel_rfl) rfl (by decide) (fun K hK=>?_)
   go_simp
   have S4:=Lib.hid (show Sep w (D3.setCell ⟨g13,0,none⟩ (.int .i64 ((j:Int)+1))) [Pc.blk ga 34 #[.bool yes,.int .i64 d,.slice yq F.length yc],Pc.own 105 2 yq F.length yc (encE F),Pc.blk gn 3 #[.int .i64 ((j:Int)+1)],Pc.blk g12 34 #[.bool yes,.int .i64 d,.slice yq F.length yc],Pc.blk g13 3 #[.int .i64 ((j:Int)+1)],Pc.blk g14 35 #[.int .i64 0],Pc.blk gb 3 #[.int .i64 bud]] from S3.out.set 4 rfl 0 (.int .i64 ((j:Int)+1)))
   have K4:=Lib.hid (K3.out.trans (KeepsOthers.setCell D3 ⟨g13,0,none⟩ (.int .i64 ((j:Int)+1))))
   clear c0 cz cf0 S3 K3
   refine hK _ _ ⟨S4.out.blk 0 rfl,S4.out.blk 2 rfl⟩ ?_
   clear hK
   generalize D3.setCell ⟨g13,0,none⟩ (.int .i64 ((j:Int)+1))=D4 at S4 K4 ⊢
   obtain⟨c0,cz,cf0⟩:=bkc0lz0 (S4.out.blk 5 rfl)
   refine wpAnyHI_last (by kernel_rfl) rfl (fun K hK=>?_)
   go_simp
   have S5:=Lib.hid (S4.out.set 5 rfl 0 (.int .i64 0))
   have K5:=Lib.hid (K4.out.trans (KeepsOthers.setCell D4 ⟨g14,0,none⟩ (.int .i64 0)))
   clear c0 cz cf0 S4 K4
   refine hK _ _ ?_
   clear hK
   refine wpAnyIn_done (by kernel_rfl) ?_ _
   gi_wp2
   exact⟨K5.out.from _,.inl ⟨rfl,⟨yes,d,F,yq,yc,true⟩,HJ2.out,by omega,HYB.out,HA.out,S5.out.pick [1,3,4,5] (by decide) rfl⟩⟩
  ·have hdf:dn=false:=by rw [hdn];exact HFN.out j (by omega)
   subst hdf
   clear hdn HDN
   obtain⟨n1,n1z⟩:=bkc0l (S1.out.blk 2 rfl)
   obtain⟨b1,b1z⟩:=bkc0l (S1.out.blk 6 rfl)
   by_cases hjb:(j:Int)+1=bud
   ·subst hjb
    have e1:decide ((j:Int)+1=(j:Int)+1)=true:=by simp
    gi_wp2
    exact⟨K1.out.from _,.inr ⟨rfl,by omega,S1.out.pick [2,3,4,5,6] (by decide) rfl⟩⟩
   ·have e1:decide ((j:Int)+1=bud)=false:=by simpa using hjb
    have e2:((j:Int)+1 == bud)=false:=by simpa using hjb
    gi_wp2
    have hc:((pre2.length:Nat):Int)=(j:Int)+1:=by rw [HJ2.out];omega
    refine⟨K1.out.from _,KP.out,?_,HSZ.out,by rw [HJ2.out];omega,by rw [hc];omega⟩
    rw [hc]
    exact S1.out.pick [2,3,4,5,6] (by decide) rfl
 case stop =>
  rintro D c2 pre W hD _ (⟨rfl,y,hl,hmb,hyb,hA,S⟩ | ⟨rfl,hmb,S⟩) hK
  ·obtain⟨yes,d,F,yq,yc,dn⟩:=y
   dsimp only at hA S
   have S':=S.putObj gr_cells (.deferred none) (Nat.le_trans SG.out.ext.size hD) hK rfl
   obtain⟨x0,x1,x2⟩:=bkc0c1c2 (S'.blk 1 rfl)
   have x3:=(S'.blk 2 rfl).cell 0
   have x4:=(S'.blk 3 rfl).cell 0
   have SQ:=Lib.hid (S'.pick [0] (by decide) rfl:Sep w _ [Pc.own 105 2 yq F.length yc (encE F)])
   have HA:=Lib.hid hA
   clear hA S S'
   gi_wp2
   try rw [Exit.noGoto_ret]
   refine⟨by simp,.inl ⟨_,_,rfl,run_takeDeferred hK,?_⟩⟩
   exact⟨.tuple #[.agg #[.bool yes,.int .i64 d,.slice yq F.length yc],.int .i64 ((m:Int)+1),.int .i64 0],by simp [results,Tryz.results17,go_sem,x0,x1,x2,x3,x4,Tryz.sizeOf34,Tryz.isAgg34],yes,d,F,fun _=>⟨HA.out,yq,yc,rfl,SQ.out⟩,fun h=>absurd hmb (by omega)⟩
  ·have HDB:=Lib.hid (Nat.le_trans SG.out.ext.size hD)
   have HS:=Lib.hid (show Sep w W [Pc.blk gn 3 #[.int .i64 bud],Pc.blk g12 34 #[.bool false,.int .i64 0,.slice none 0 0],Pc.blk g13 3 #[.int .i64 0],Pc.blk g14 35 #[.int .i64 0],Pc.blk gb 3 #[.int .i64 bud],Pc.obj D (.deferred (some []))] from S.obj gi_cells HDB.out hK rfl)
   clear S hK
   gi_wp2
   go_wp2
   refine wp_region_noPanic ?_
   refine wp_region_held_drew (S:=fun U=>Blk U gn 3 #[.int .i64 bud]) (by kernel_rfl) (HS.out.drew.blk 0 rfl) (fun hHeld=>?_)
   have S2:=Lib.hid HS.out.drew
   clear HS
   generalize World.drew _=U at S2 hHeld ⊢
   refine wpAnyH_take (i:=0) (v:=.agg #[.bool false,.int .i64 0,.slice none 0 0]) rfl (by kernel_rfl) (by kernel_rfl) (by kernel_rfl) (noPanic_q _ _) (Or.inl ⟨by kernel_rfl,fun W hSw=>by skip;clear hSw;go_simp⟩) hHeld ?_
   refine wpAnyH_take (i:=1) (v:=.int .i64 bud) rfl (by kernel_rfl) (by kernel_rfl) (by kernel_rfl) (noPanic_q _ _) (Or.inl ⟨by kernel_rfl,fun W hSw=>by have h0:=hSw.cell 0;have h1:=hSw.lt;clear hSw;go_simp⟩) hHeld ?_
   obtain⟨c0,c1,c2,cz,cf0,cf1,cf2⟩:=bkc0c1c2lz0z1z2 (S2.out.blk 1 rfl)
   refine wpAnyH_ready (rs:=[2]) (by kernel_rfl) (by simp) (AllReadyH.cons rfl (fun K hK=>?_) AllReadyH.nil)
   go_simp
   have S3:=Lib.hid (((S2.out.set 1 rfl 0 (.bool false)).set 1 rfl 1 (.int .i64 0)).set 1 rfl 2 (.slice none 0 0))
   clear c0 c1 c2 cz cf0 cf1 cf2 S2 hHeld
   refine hK.out _ _ (S3.out.blk 0 rfl) (fun hHeld=>?_)
   clear hK
   generalize ((U.setCell ⟨g12,0,none⟩ (.bool false)).setCell ⟨g12,1,none⟩ (.int .i64 0)).setCell ⟨g12,2,none⟩ (.slice none 0 0)=U3 at S3 hHeld ⊢
   obtain⟨c0,cz,cf0⟩:=bkc0lz0 (S3.out.blk 2 rfl)
   refine wpAnyH_ready (rs:=[3]) (by kernel_rfl) (by simp) (AllReadyH.cons rfl (fun K hK=>?_) AllReadyH.nil)
   go_simp
   have S4:=Lib.hid (S3.out.set 2 rfl 0 (.int .i64 bud))
   clear c0 cz cf0 S3 hHeld
   refine hK.out _ _ (S4.out.blk 0 rfl) (fun hHeld=>?_)
   clear hK
   generalize U3.setCell ⟨g13,0,none⟩ (.int .i64 bud)=U4 at S4 hHeld ⊢
   obtain⟨c0,cz,cf0⟩:=bkc0lz0 (S4.out.blk 3 rfl)
   refine wpAnyH_ready (rs:=[4]) (by kernel_rfl) (by simp) (AllReadyH.cons rfl (fun K hK=>?_) AllReadyH.nil)
   go_simp
   have S5:=Lib.hid (show Sep w (U4.setCell ⟨g14,0,none⟩ (.int .i64 251)) [Pc.blk gn 3 #[.int .i64 bud],Pc.blk g12 34 #[.bool false,.int .i64 0,.slice none 0 0],Pc.blk g13 3 #[.int .i64 bud],Pc.blk g14 35 #[.int .i64 251],Pc.blk gb 3 #[.int .i64 bud],Pc.obj D (.deferred (some []))] from S4.out.set 3 rfl 0 (.int .i64 251))
   clear c0 cz cf0 S4 hHeld
   refine hK.out _ _ (S5.out.blk 0 rfl) (fun hHeld=>?_)
   clear hK hHeld
   refine wpAnyH_done (by kernel_rfl) ?_ _
   refine noPanic_mk ?_
   generalize U4.setCell ⟨g14,0,none⟩ (.int .i64 251)=U5 at S5 ⊢
   have hK:U5.heap[D]?=some (.deferred (some [])):=S5.out.all (Pc.obj D (.deferred (some []))) (by simp)
   have S':=(S5.out.pick (Δ:=[Pc.blk gn 3 #[.int .i64 bud],Pc.blk g12 34 #[.bool false,.int .i64 0,.slice none 0 0],Pc.blk g13 3 #[.int .i64 bud],Pc.blk g14 35 #[.int .i64 251],Pc.blk gb 3 #[.int .i64 bud]]) [0,1,2,3,4] (by decide) rfl).putObj gi_cells (.deferred none) HDB.out hK rfl
   obtain⟨x0,x1,x2⟩:=bkc0c1c2 (S'.blk 1 rfl)
   have x3:=(S'.blk 2 rfl).cell 0
   have x4:=(S'.blk 3 rfl).cell 0
   have SQ:=Lib.hid ((S'.nilrow 105 2).pick (Δ:=[Pc.own 105 2 none 0 0 (encE [])]) [0] (by decide) rfl)
   clear S' S5
   try simp [Act.put]
   go_wp2
   try rw [Exit.noGoto_ret]
   refine⟨by simp,.inl ⟨_,_,rfl,run_takeDeferred hK,?_⟩⟩
   exact⟨.tuple #[.agg #[.bool false,.int .i64 0,.slice none 0 0],.int .i64 bud,.int .i64 251],by simp [results,Tryz.results17,go_sem,x0,x1,x2,x3,x4,Tryz.sizeOf34,Tryz.isAgg34],false,0,[],fun h=>absurd hmb (by omega),fun _=>⟨none,0,rfl,SQ.out⟩⟩
end
section
open Go Go.RowKit
theorem home_any (wv:Int):∃ hv ok,ok=decide (1≤wv∧wv≤16)∧∀ W,Calls Tryz.prog 50 #[.int .i64 0,.int .i64 wv] W fun e w'=>e=.returned (.tuple #[.int .i64 hv,.bool ok])∧W=w':=by
 by_cases h:1≤wv∧wv≤16
 ·obtain⟨n,rfl⟩:∃ n:Nat,wv=(n:Int):=⟨wv.toNat,by omega⟩
  exact⟨_,true,by rw [decide_eq_true h],fun W=>HomeG 0 n W (by omega) (by omega) (by omega) (by omega)⟩
 ·exact⟨0,false,by rw [decide_eq_false h],fun W=>HomeNo 0 wv W (by omega)⟩
theorem RunErr (k f t:Int) (pw:Option Addr) (nw cw:Nat) (ws:List ByteArray) (rad most:Int) (po:Option Addr) (no co:Nat) (O:List Int) (pt:Option Addr) (nt ct:Nat) (T:List Int) (pr:Option Addr) (nr cr:Nat) (R:List Int) (pv:Option Addr) (nv cv:Nat) (V:List Int) (pl:Option Addr) (nl cl:Nat) (wv bud:Int) (pp:Option Addr) (np cp:Nat) (w:World) (hO:Rd w 1 po no (encI O)) (hT:Rd w 1 pt nt (encI T)) (hR:Rd w 1 pr nr (encI R)) (hV:Rd w 1 pv nv (encI V)) (hct:nt≤ct) (hcv:nv≤cv)
  (hW:Rd w 1 pw nw (encS ws)) (hz:∀ s∈ws,s.size≤1000000) (h1000:no≤1000)
  (h:chkJ (checkR O T R V) k f t ws rad most no≠0∨¬ (1≤wv∧wv≤16)∨bud<1) :
  Calls Tryz.prog 17 #[.agg #[.int .i64 k,.int .i64 f,.int .i64 t,.slice pw nw cw,.int .i64 rad,.int .i64 most],.agg #[.slice po no co,.slice pt nt ct,.slice pr nr cr,.slice pv nv cv],.slice pl nl cl,.int .i64 wv,.int .i64 bud,.slice pp np cp] w (RunQ false 0 [] 0 (if chkJ (checkR O T R V) k f t ws rad most no≠0 then chkJ (checkR O T R V) k f t ws rad most no else 1) w):=by
 have HCJ:=Lib.hid (fun W (h:Ext w W)=>CheckJ k f t pw nw cw ws rad most po no co O pt nt ct T pr nr cr R pv nv cv V W (hO.ext h) (hT.ext h) (hR.ext h) (hV.ext h) hct hcv (hW.ext h) hz h1000)
 obtain⟨E,hE⟩:∃ E,chkJ (checkR O T R V) k f t ws rad most no=E:=⟨_,rfl⟩
 rw [hE] at HCJ h ⊢
 obtain⟨hv,ok,hok,HH0⟩:=home_any wv
 have HHM:=Lib.hid HH0
 have S0:=Lib.hid ((((((((Sep.start w).al #[.int .i64 k,.int .i64 f,.int .i64 t,.slice pw nw cw,.int .i64 rad,.int .i64 most] 24 w.heap.size rfl).al #[.slice po no co,.slice pt nt ct,.slice pr nr cr,.slice pv nv cv] 27 (w.heap.size+1) (by simp)).al #[.int .i64 bud] 3 (w.heap.size+1+1) (by simp)).al #[.bool false,.int .i64 0,.slice none 0 0] 34 (w.heap.size+1+1+1) (by simp)).al #[.int .i64 0] 3 (w.heap.size+1+1+1+1) (by simp)).al #[.int .i64 0] 35 (w.heap.size+1+1+1+1+1) (by simp)))
 clear hO hT hR hV hct hcv hW hz HH0 hE h1000
 have key:E≠0∨(E=0∧ok=false)∨(E=0∧ok=true∧bud<1):=by
  by_cases h0:E=0
  ·right
   cases ok with
   | false=>exact .inl ⟨h0,rfl⟩
   | true =>
    have:=of_decide_eq_true hok.symm
    exact .inr ⟨h0,rfl,by rcases h with h | h | h <;> first | exact absurd h0 h | exact absurd this h | exact h⟩
  ·exact .inl h0
 clear h hok
 obtain⟨E2,hE2⟩:∃ E2,(if E≠0 then E else 1)=E2:=⟨_,rfl⟩
 rw [hE2]
 have HE2:=Lib.hid hE2
 clear hE2
 go_enter Tryz.func17,Tryz.ntmps17
 rcases key with h | ⟨rfl,rfl⟩ | ⟨rfl,rfl,h⟩
 ·have d1:decide (E=0)=false:=by simpa using h
  have d2:(E == 0)=false:=by simpa using h
  have e2:E2=E:=by rw [← HE2.out,if_pos h]
  subst e2
  clear HE2
  go_wp2_with (first | (go_at_call 49;go_must (refine(HCJ.out _ S0.out.ext).mono ?_;rintro e w1 ⟨rfl,hb⟩;have S1:=Lib.hid (S0.out.call hb);obtain⟨b0,bz⟩:=bkc0l (S1.out.blk 3 rfl);obtain⟨c0,c1,c2,cz,f0,f1,f2⟩:=bkc0c1c2lz0z1z2 (S1.out.blk 2 rfl);obtain⟨a0,az,g0⟩:=bkc0lz0 (S1.out.blk 1 rfl);obtain⟨y0,yz,h0⟩:=bkc0lz0 (S1.out.blk 0 rfl);clear hb)) | (go_at_call 50;go_must (refine(HHM.out _).mono ?_;rintro e w2 ⟨rfl,rfl⟩)))
  have S9:=((((S1.out.set 2 rfl 0 (.bool false)).set 2 rfl 1 (.int .i64 0)).set 2 rfl 2 (.slice none 0 0)).set 1 rfl 0 (.int .i64 0)).set 0 rfl 0 (.int .i64 E2)
  obtain⟨x0,x1,x2⟩:=bkc0c1c2 (S9.blk 2 rfl)
  have x3:=(S9.blk 1 rfl).cell 0
  have x4:=(S9.blk 0 rfl).cell 0
  exact bodyPost_ret (v:=.tuple #[.agg #[.bool false,.int .i64 0,.slice none 0 0],.int .i64 0,.int .i64 E2]) (by simp [results,Tryz.results17,go_sem,x0,x1,x2,x3,x4,Tryz.sizeOf34,Tryz.isAgg34]) rfl ⟨none,0,rfl,(S9.nilrow 105 2).pick [0] (by decide) rfl⟩
 ·have e2:E2=1:=by rw [← HE2.out,if_neg (by simp)]
  subst e2
  clear HE2
  go_wp2_with (first | (go_at_call 49;go_must (refine(HCJ.out _ S0.out.ext).mono ?_;rintro e w1 ⟨rfl,hb⟩;have S1:=Lib.hid (S0.out.call hb);obtain⟨b0,bz⟩:=bkc0l (S1.out.blk 3 rfl);obtain⟨c0,c1,c2,cz,f0,f1,f2⟩:=bkc0c1c2lz0z1z2 (S1.out.blk 2 rfl);obtain⟨a0,az,g0⟩:=bkc0lz0 (S1.out.blk 1 rfl);obtain⟨y0,yz,h0⟩:=bkc0lz0 (S1.out.blk 0 rfl);clear hb)) | (go_at_call 50;go_must (refine(HHM.out _).mono ?_;rintro e w2 ⟨rfl,rfl⟩)))
  have S9:=((((S1.out.set 2 rfl 0 (.bool false)).set 2 rfl 1 (.int .i64 0)).set 2 rfl 2 (.slice none 0 0)).set 1 rfl 0 (.int .i64 0)).set 0 rfl 0 (.int .i64 1)
  obtain⟨x0,x1,x2⟩:=bkc0c1c2 (S9.blk 2 rfl)
  have x3:=(S9.blk 1 rfl).cell 0
  have x4:=(S9.blk 0 rfl).cell 0
  exact bodyPost_ret (v:=.tuple #[.agg #[.bool false,.int .i64 0,.slice none 0 0],.int .i64 0,.int .i64 1]) (by simp [results,Tryz.results17,go_sem,x0,x1,x2,x3,x4,Tryz.sizeOf34,Tryz.isAgg34]) rfl ⟨none,0,rfl,(S9.nilrow 105 2).pick [0] (by decide) rfl⟩
 ·have e2:E2=1:=by rw [← HE2.out,if_neg (by simp)]
  subst e2
  clear HE2
  have d1:decide (bud<1)=true:=by simpa using h
  go_wp2_with (first | (go_at_call 49;go_must (refine(HCJ.out _ S0.out.ext).mono ?_;rintro e w1 ⟨rfl,hb⟩;have S1:=Lib.hid (S0.out.call hb);obtain⟨b0,bz⟩:=bkc0l (S1.out.blk 3 rfl);obtain⟨c0,c1,c2,cz,f0,f1,f2⟩:=bkc0c1c2lz0z1z2 (S1.out.blk 2 rfl);obtain⟨a0,az,g0⟩:=bkc0lz0 (S1.out.blk 1 rfl);obtain⟨y0,yz,h0⟩:=bkc0lz0 (S1.out.blk 0 rfl);clear hb)) | (go_at_call 50;go_must (refine(HHM.out _).mono ?_;rintro e w2 ⟨rfl,rfl⟩)))
  have S9:=((((S1.out.set 2 rfl 0 (.bool false)).set 2 rfl 1 (.int .i64 0)).set 2 rfl 2 (.slice none 0 0)).set 1 rfl 0 (.int .i64 0)).set 0 rfl 0 (.int .i64 1)
  obtain⟨x0,x1,x2⟩:=bkc0c1c2 (S9.blk 2 rfl)
  have x3:=(S9.blk 1 rfl).cell 0
  have x4:=(S9.blk 0 rfl).cell 0
  exact bodyPost_ret (v:=.tuple #[.agg #[.bool false,.int .i64 0,.slice none 0 0],.int .i64 0,.int .i64 1]) (by simp [results,Tryz.results17,go_sem,x0,x1,x2,x3,x4,Tryz.sizeOf34,Tryz.isAgg34]) rfl ⟨none,0,rfl,(S9.nilrow 105 2).pick [0] (by decide) rfl⟩
end
section
open Go Go.RowKit
theorem ansD_uniq {k t:Int} {L:List Po} {ws:List ByteArray} {most:Int} {p:List Sq × List Sq} {b b':Bool} {d d':Int} {F F':List (Int × Int)} (hk:k=1∨k=2∨k=3) (hd:doneB k t p=true) (h:AnsD k t L ws most p b d F) (h':AnsD k t L ws most p b' d' F'):b=b'∧d=d'∧F=F':=by
 rcases hk with rfl | rfl | rfl
 ·obtain⟨h1,h2⟩:=h.1 rfl
  obtain⟨g1,g2⟩:=h'.1 rfl
  obtain⟨e1,e2⟩:=meetA_uniq h1 g1
  exact⟨e1,e2,by rw [h2,g2]⟩
 ·obtain⟨h1,h2,h3⟩:=h.2.1 rfl
  obtain⟨g1,g2,g3⟩:=h'.2.1 rfl
  exact⟨by rw [h1,g1],by rw [h2,g2],by rw [h3,g3]⟩
 ·have h0:p.2.length=0:=by
   unfold doneB at hd
   rw [if_neg (by decide),if_neg (by decide)] at hd
   exact of_decide_eq_true hd
  obtain⟨h1,h2,h3⟩:=h.2.2 rfl h0
  obtain⟨g1,g2,g3⟩:=h'.2.2 rfl h0
  subst h1 g1
  exact⟨by rw [h2,g2],by rw [h3,g3],rfl⟩
theorem run_m {k f t rad most:Int} {ws:List ByteArray} {O T R V:List Int} {n:Nat} (hck:checkR O T R V=true) (hn:O.length=n+1) (h200:n≤200) (hq:chkQ k f t ws rad most (n:Int)=0) :
  (k=1∨k=2∨k=3)∧(∀ i,RunI n i (runM (nextL k rad true O T R V) (startQ k f t 0) i)) ∧
  ∃ m,m<n∧doneB k t (runM (nextL k rad true O T R V) (startQ k f t 0) (m+1))=true∧∀ j,j<m→doneB k t (runM (nextL k rad true O T R V) (startQ k f t 0) (j+1))=false:=by
 have hl:Leads n (nextL k rad true O T R V):=next_leads hck hn
 have ho:=chkQ_zero.1 hq
 by_cases h12:k=1∨k=2
 ·have hk:k=1∨k=2∨k=3:=by omega
  rw [okQ_12 h12,Bool.and_eq_true] at ho
  obtain⟨o1,o2⟩:=ho
  unfold plcB at o1 o2
  simp only [Bool.and_eq_true,decide_eq_true_eq] at o1 o2
  obtain⟨s,rfl⟩:∃ s:Nat,f=(s:Int):=⟨f.toNat,by omega⟩
  obtain⟨u,rfl⟩:∃ u:Nat,t=(u:Int):=⟨t.toNat,by omega⟩
  obtain⟨f1,f2,_⟩:=start_facts (k:=k) (rad:=rad) (most:=rad) (s:=s) (t:=u) (n:=n) hk (by omega) (fun _=>by omega) rfl rfl
  exact⟨hk,runI_all hl f1 f2,run_done hck hn h200 hk (by omega) (fun _=>by omega)⟩
 ·by_cases h3:k=3
  ·subst h3
   rw [okQ_3,Bool.and_eq_true,Bool.and_eq_true] at ho
   obtain⟨⟨o1,_⟩,_⟩:=ho
   unfold plcB at o1
   simp only [Bool.and_eq_true,decide_eq_true_eq] at o1
   obtain⟨s,rfl⟩:∃ s:Nat,f=(s:Int):=⟨f.toNat,by omega⟩
   have e1:startQ 3 (s:Int) t 0=startQ 3 (s:Int) ((0:Nat):Int) 0:=rfl
   have e2:∀ p,doneB 3 t p=doneB 3 ((0:Nat):Int) p:=fun p=>rfl
   obtain⟨f1,f2,_⟩:=start_facts (k:=3) (rad:=rad) (most:=rad) (s:=s) (t:=0) (n:=n) (Or.inr (Or.inr rfl)) (by omega) (fun h=>absurd h (by decide)) rfl rfl
   rw [e1]
   simp only [e2]
   exact⟨by simp,runI_all hl f1 f2,run_done (k:=3) (s:=s) (t:=0) hck hn h200 (Or.inr (Or.inr rfl)) (by omega) (fun h=>absurd h (by decide))⟩
  ·rw [okQ_else h12 h3] at ho
   cases ho
end
section
open Go Go.RowKit
def RunS (O T R V:List Int) (L:List Po) (k f t:Int) (ws:List ByteArray) (rad most wv bud:Int) (b:Bool) (d:Int) (F:List (Int × Int)) (n e:Int):Prop :=
 (chkJ (checkR O T R V) k f t ws rad most O.length≠0→b=false∧d=0∧F=[]∧n=0∧e=chkJ (checkR O T R V) k f t ws rad most O.length) ∧
 (chkJ (checkR O T R V) k f t ws rad most O.length=0→¬ (1≤wv∧wv≤16∧1≤bud)→b=false∧d=0∧F=[]∧n=0∧e=1) ∧
 (chkJ (checkR O T R V) k f t ws rad most O.length=0→1≤wv∧wv≤16∧1≤bud→(k=1∨k=2∨k=3)∧∃ m:Nat,m<O.length∧doneB k t (runM (nextL k rad true O T R V) (startQ k f t 0) (m+1))=true∧(∀ j,j<m→doneB k t (runM (nextL k rad true O T R V) (startQ k f t 0) (j+1))=false) ∧
  ((m:Int)+1≤bud→AnsD k t L ws most (runM (nextL k rad true O T R V) (startQ k f t 0) (m+1)) b d F∧n=(m:Int)+1∧e=0)∧(bud<(m:Int)+1→b=false∧d=0∧F=[]∧n=bud∧e=251))
theorem least_uniqB {p:Nat→Bool} {m m':Nat} (h:p m=true) (hf:∀ j,j<m→p j=false) (h':p m'=true) (hf':∀ j,j<m'→p j=false):m=m':=by
 rcases Nat.lt_trichotomy m m' with h1 | h1 | h1
 ·rw [hf' m h1] at h;cases h
 ·exact h1
 ·rw [hf m' h1] at h';cases h'
theorem RunG (k f t:Int) (pw:Option Addr) (nw cw:Nat) (ws:List ByteArray) (rad most:Int) (po:Option Addr) (no co:Nat) (O:List Int) (pt:Option Addr) (nt ct:Nat) (T:List Int) (pr:Option Addr) (nr cr:Nat) (R:List Int) (pv:Option Addr) (nv cv:Nat) (V:List Int) (pl:Option Addr) (nl cl:Nat) (hs:List Hd) (L:List Po) (wv bud:Int) (pp:Option Addr) (np cp:Nat) (pk:List Int) (w:World) (hO:Rd w 1 po no (encI O)) (hT:Rd w 1 pt nt (encI T)) (hR:Rd w 1 pr nr (encI R)) (hV:Rd w 1 pv nv (encI V)) (hct:nt≤ct) (hcv:nv≤cv)
  (hL:RdP w pl nl hs L) (hW:Rd w 1 pw nw (encS ws)) (hpk:Rd w 1 pp np (encI pk)) (h200:no≤200) (hz:∀ s∈ws,s.size≤1000000) (hb2:bud≤9223372036854775807)
  (ht:I64 t) (hcw:nw≤cw) (hnw:nw≤100) (hok:PoOk L) :
  Calls Tryz.prog 17 #[.agg #[.int .i64 k,.int .i64 f,.int .i64 t,.slice pw nw cw,.int .i64 rad,.int .i64 most],.agg #[.slice po no co,.slice pt nt ct,.slice pr nr cr,.slice pv nv cv],.slice pl nl cl,.int .i64 wv,.int .i64 bud,.slice pp np cp] w fun x w'=>∃ b d F n e,RunS O T R V L k f t ws rad most wv bud b d F n e∧RunQ b d F n e w x w':=by
 have hno:=hO.nI
 by_cases h0:chkJ (checkR O T R V) k f t ws rad most O.length=0
 ·by_cases h1:1≤wv∧wv≤16∧1≤bud
  ·have hck:checkR O T R V=true:=by
    cases hc:checkR O T R V with
    | true=>rfl
    | false=>rw [hc] at h0;unfold chkJ at h0;rw [if_neg (by simp)] at h0;cases h0
   have hq:chkQ k f t ws rad most ((O.length:Int) - 1)=0:=by rw [hck] at h0;unfold chkJ at h0;rw [if_pos rfl] at h0;exact h0
   obtain⟨n,hn⟩:∃ n,O.length=n+1:=by
    obtain⟨e1,e2,e3,e4⟩:=checkR_half hck
    obtain⟨r1,r2,r3,r4,r5,r6⟩:=offB_parts (halfB_off e3)
    exact⟨O.length - 1,by omega⟩
   have hq2:chkQ k f t ws rad most (n:Int)=0:=by rw [hn] at hq;rw [← hq];congr 1;omega
   obtain⟨hk,hI,m,hm,hd,hf⟩:=run_m (k:=k) (rad:=rad) hck hn (by omega) hq2
   obtain⟨wk,rfl⟩:∃ wk:Nat,wv=(wk:Int):=⟨wv.toNat,by omega⟩
   refine(RunOk k f t pw nw cw ws rad most po no co O pt nt ct T pr nr cr R pv nv cv V pl nl cl hs L wk bud pp np cp pk w n m (runM (nextL k rad true O T R V) (startQ k f t 0)) hO hT hR hV hct hcv hL hW hpk hck hn (by omega) (by omega) (by omega) hz hq2 h1.2.2 hb2 (by omega) hk ht hcw hnw hok rfl hI (fun _=>rfl) hd hf).mono ?_
   rintro x w' ⟨b,d,F,g1,g2⟩
   by_cases hb:(m:Int)+1≤bud
   ·obtain⟨a1,a2⟩:=g1 hb
    exact⟨b,d,F,_,_,⟨fun h=>absurd h0 h,fun _ h=>absurd h1 h,fun _ _=>⟨hk,m,by omega,hd,hf,fun _=>⟨a1,rfl,rfl⟩,fun h=>by omega⟩⟩,a2⟩
   ·exact⟨false,0,[],_,_,⟨fun h=>absurd h0 h,fun _ h=>absurd h1 h,fun _ _=>⟨hk,m,by omega,hd,hf,fun h=>absurd h hb,fun _=>⟨rfl,rfl,rfl,rfl,rfl⟩⟩⟩,g2 (by omega)⟩
  ·have h:=RunErr k f t pw nw cw ws rad most po no co O pt nt ct T pr nr cr R pv nv cv V pl nl cl wv bud pp np cp w hO hT hR hV hct hcv hW hz (by omega) (by rw [hno];omega)
   rw [hno,if_neg (by rw [h0];simp)] at h
   rw [hno]
   exact h.mono fun x w' hx=>⟨_,_,_,_,_,⟨fun h=>absurd h0 h,fun _ _=>⟨rfl,rfl,rfl,rfl,rfl⟩,fun _ h=>absurd h h1⟩,hx⟩
 ·have h:=RunErr k f t pw nw cw ws rad most po no co O pt nt ct T pr nr cr R pv nv cv V pl nl cl wv bud pp np cp w hO hT hR hV hct hcv hW hz (by omega) (Or.inl (by rw [hno];exact h0))
  rw [hno,if_pos h0] at h
  rw [hno]
  exact h.mono fun x w' hx=>⟨_,_,_,_,_,⟨fun _=>⟨rfl,rfl,rfl,rfl,rfl⟩,fun h=>absurd h h0,fun h=>absurd h h0⟩,hx⟩
end
section
open Go Go.RowKit
def clO:List Int:=[0,1,2,2]
def clT:List Int:=[1,2]
def clR:List Int:=[0,0,1,2]
def clV:List Int:=[0,1]
theorem cl_ck:checkR clO clT clR clV=true:=by kernel_rfl
theorem cl_1a:doneB 1 2 (runM (nextL 1 0 true clO clT clR clV) (startQ 1 0 2 0) 1)=false:=by kernel_rfl
theorem cl_1b:doneB 1 2 (runM (nextL 1 0 true clO clT clR clV) (startQ 1 0 2 0) 2)=true:=by kernel_rfl
theorem cl_2a:doneB 1 0 (runM (nextL 1 0 true clO clT clR clV) (startQ 1 2 0 0) 1)=true:=by kernel_rfl
theorem cl_3a:doneB 3 0 (runM (nextL 3 2 true clO clT clR clV) (startQ 3 0 0 0) 1)=false:=by kernel_rfl
theorem cl_3b:doneB 3 0 (runM (nextL 3 2 true clO clT clR clV) (startQ 3 0 0 0) 2)=false:=by kernel_rfl
theorem cl_3c:doneB 3 0 (runM (nextL 3 2 true clO clT clR clV) (startQ 3 0 0 0) 3)=true:=by kernel_rfl
theorem cl_4a:doneB 2 2 (runM (nextL 2 0 true clO clT clR clV) (startQ 2 0 2 0) 1)=false:=by kernel_rfl
theorem cl_4b:doneB 2 2 (runM (nextL 2 0 true clO clT clR clV) (startQ 2 0 2 0) 2)=false:=by kernel_rfl
theorem cl_4c:doneB 2 2 (runM (nextL 2 0 true clO clT clR clV) (startQ 2 0 2 0) 3)=true:=by kernel_rfl
theorem cl_d1:distB (lev (rowL clO clT) 3 0 2)=true:=by kernel_rfl
theorem cl_d2:distN (lev (rowL clO clT) 3 0 2)=2:=by kernel_rfl
theorem cl_d3:distB (lev (rowL clO clT) 3 2 0)=false:=by kernel_rfl
theorem cl_n3:nearS (runM (nextL 3 2 true clO clT clR clV) (startQ 3 0 0 0) 3).1 (allX [(⟨#[97]⟩,[2])] [⟨#[97]⟩]) 5=[(2,2)]:=by kernel_rfl
end
section
open Go Go.RowKit
theorem cl_first {p:Nat→Bool} {m c:Nat} (h:p m=true) (hf:∀ j,j<m→p j=false) (hc:p c=true) (hcf:∀ j,j<c→p j=false):m=c:=least_uniqB h hf hc hcf
theorem cl_run1 {L:List Po} {b:Bool} {d:Int} {F:List (Int × Int)} {n e:Int} (h:RunS clO clT clR clV L 1 0 2 [] 0 0 2 5 b d F n e):b=true∧d=2∧F=[]∧n=2∧e=0:=by
 obtain⟨hk,m,h1,h2,h3,h4,h5⟩:=h.2.2 (by kernel_rfl) (by decide)
 obtain rfl:m=1:=cl_first (p:=fun i=>doneB 1 2 (runM (nextL 1 0 true clO clT clR clV) (startQ 1 0 2 0) (i+1))) h2 h3 cl_1b (fun j hj=>by
  obtain rfl:j=0:=by omega
  exact cl_1a)
 obtain⟨a1,a2,a3⟩:=h4 (by decide)
 obtain⟨g1,g2⟩:=a1.1 rfl
 obtain⟨x1,x2⟩:=ask_far (k:=1) (rad:=0) (n:=3) (s:=0) (t:=2) cl_ck rfl (by decide) (Or.inl rfl) (fun h=>absurd h (by decide)) (by decide) (fun _=>by decide) rfl h2 h3 g1
 exact⟨x1.trans cl_d1,x2.trans cl_d2,g2,a2,a3⟩
theorem cl_run2 {L:List Po} {b:Bool} {d:Int} {F:List (Int × Int)} {n e:Int} (h:RunS clO clT clR clV L 1 2 0 [] 0 0 2 5 b d F n e):b=false∧n=1∧e=0:=by
 obtain⟨hk,m,h1,h2,h3,h4,h5⟩:=h.2.2 (by kernel_rfl) (by decide)
 obtain rfl:m=0:=cl_first (p:=fun i=>doneB 1 0 (runM (nextL 1 0 true clO clT clR clV) (startQ 1 2 0 0) (i+1))) h2 h3 cl_2a (fun j hj=>absurd hj (by omega))
 obtain⟨a1,a2,a3⟩:=h4 (by decide)
 obtain⟨g1,g2⟩:=a1.1 rfl
 obtain⟨x1,x2⟩:=ask_far (k:=1) (rad:=0) (n:=3) (s:=2) (t:=0) cl_ck rfl (by decide) (Or.inl rfl) (fun h=>absurd h (by decide)) (by decide) (fun _=>by decide) rfl h2 h3 g1
 exact⟨x1.trans cl_d3,a2,a3⟩
theorem cl_run3 {b:Bool} {d:Int} {F:List (Int × Int)} {n e:Int} (h:RunS clO clT clR clV [(⟨#[97]⟩,[2])] 3 0 0 [⟨#[97]⟩] 2 5 2 5 b d F n e):b=true∧F=[(2,2)]∧n=3∧e=0:=by
 obtain⟨hk,m,h1,h2,h3,h4,h5⟩:=h.2.2 (by kernel_rfl) (by decide)
 obtain rfl:m=2:=cl_first (p:=fun i=>doneB 3 0 (runM (nextL 3 2 true clO clT clR clV) (startQ 3 0 0 0) (i+1))) h2 h3 cl_3c (fun j hj=>by
  rcases (show j=0∨j=1 by omega) with rfl | rfl
  ·exact cl_3a
  ·exact cl_3b)
 obtain⟨a1,a2,a3⟩:=h4 (by decide)
 obtain⟨g1,g2,g3⟩:=a1.2.2 rfl (by kernel_rfl)
 have g4:=g1.trans cl_n3
 exact⟨by rw [g2,g4];rfl,g4,a2,a3⟩
theorem cl_run4 {L:List Po} {b:Bool} {d:Int} {F:List (Int × Int)} {n e:Int} (h:RunS clO clT clR clV L 2 0 2 [] 0 0 2 2 b d F n e):e=251:=by
 obtain⟨hk,m,h1,h2,h3,h4,h5⟩:=h.2.2 (by kernel_rfl) (by decide)
 obtain rfl:m=2:=cl_first (p:=fun i=>doneB 2 2 (runM (nextL 2 0 true clO clT clR clV) (startQ 2 0 2 0) (i+1))) h2 h3 cl_4c (fun j hj=>by
  rcases (show j=0∨j=1 by omega) with rfl | rfl
  ·exact cl_4a
  ·exact cl_4b)
 exact(h5 (by decide)).2.2.2.2
end
section
open Go Go.RowKit
theorem nHLen (q:Option Addr) (n c:Nat) (w:World) (hn:n≤9223372036854775807):Calls Tryz.prog 365 #[.slice q n c] w fun e w'=>e=.returned (.int .i64 n)∧w'=w:=by
 have _u:=hn
 clear _u
 go_enter Tryz.func365,Tryz.ntmps365
 go_wp2
 go_ret
 exact⟨rfl,rfl⟩
theorem nHLess (q:Option Addr) (n c:Nat) (X:List (Int × Int)) (i k:Nat) (w:World) (hl:Rd w 2 q n (encE X)) (hi:i<n) (hk:k<n) :
  Calls Tryz.prog 366 #[.slice q n c,.int .i64 i,.int .i64 k] w fun e w'=>e=.returned (.bool (ltN (nth X i) (nth X k)))∧Ext w w':=by
 have p1:=hl.ptr
 have n2:=hl.small
 have g1:=hl.cE2 hi
 have g2:=hl.cE2 hk
 have g3:=hl.cE hi
 have g4:=hl.cE hk
 have d1:(0:Int)≤i:=by omega
 have d2:(i:Int)<n:=by omega
 have d3:(0:Int)≤k:=by omega
 have d4:(k:Int)<n:=by omega
 unfold ltN
 generalize nth X i=a at *
 generalize nth X k=b at *
 clear hl hi hk
 have S0:=Lib.hid (Sep.start w)
 by_cases h1:a.2<b.2
 ·have e1:decide (a.2<b.2)=true:=by simpa using h1
  rw [e1,Bool.true_or]
  go_enter Tryz.func366,Tryz.ntmps366
  go_wp2
  have u1:=fun x:ExtOf w=>x.ext.cell g1
  have u2:=fun x:ExtOf w=>x.ext.cell g2
  have u3:=fun x:ExtOf w=>x.ext.cell g3
  have u4:=fun x:ExtOf w=>x.ext.cell g4
  refine wp_region_ext (by kernel_rfl) (by kernel_rfl) ?_
  repeat (go_big_quiet_step ((fail)))
  refine wpQuiet_nil ?_
  rintro w9 ⟨⟨_,hb9⟩,rfl⟩
  go_wp2
  go_ret
  exact⟨rfl,hb9⟩
 ·have e1:decide (a.2<b.2)=false:=by simpa using h1
  rw [e1,Bool.false_or]
  by_cases h2:a.2=b.2
  ·have e2:(a.2 == b.2)=true:=by simpa using h2
   rw [decide_eq_true h2,Bool.true_and]
   clear h1 h2
   go_enter Tryz.func366,Tryz.ntmps366
   go_wp2
   have u1:=fun x:ExtOf w=>x.ext.cell g1
   have u2:=fun x:ExtOf w=>x.ext.cell g2
   have u3:=fun x:ExtOf w=>x.ext.cell g3
   have u4:=fun x:ExtOf w=>x.ext.cell g4
   refine wp_region_ext (by kernel_rfl) (by kernel_rfl) ?_
   repeat (go_big_quiet_step ((fail)))
   refine wpQuiet_nil ?_
   rintro w9 ⟨⟨_,hb9⟩,rfl⟩
   go_wp2
   go_ret
   exact⟨rfl,hb9⟩
  ·have e2:(a.2 == b.2)=false:=by simpa using h2
   rw [decide_eq_false h2,Bool.false_and]
   clear h1 h2
   go_enter Tryz.func366,Tryz.ntmps366
   go_wp2
   have u1:=fun x:ExtOf w=>x.ext.cell g1
   have u2:=fun x:ExtOf w=>x.ext.cell g2
   have u3:=fun x:ExtOf w=>x.ext.cell g3
   have u4:=fun x:ExtOf w=>x.ext.cell g4
   refine wp_region_ext (by kernel_rfl) (by kernel_rfl) ?_
   repeat (go_big_quiet_step ((fail)))
   refine wpQuiet_nil ?_
   rintro w9 ⟨⟨_,hb9⟩,rfl⟩
   go_wp2
   go_ret
   exact⟨rfl,hb9⟩
end
section
open Go Go.RowKit
theorem nHSwapNe (g n c:Nat) (X:List (Int × Int)) (i k:Nat) (w w0:World) (Γ:List Pc) (j:Nat) (S:Sep w0 w Γ) (hj:Γ[j]?=some (.own 105 2 (some ⟨g,0,none⟩) n c (encE X))) (hi:i<n) (hk:k<n) (hik:i≠k) (hn:n≤1000000) :
  Calls Tryz.prog 369 #[.slice (some ⟨g,0,none⟩) n c,.int .i64 i,.int .i64 k] w fun e w'=>e=.returned (.tuple #[])∧Sep w0 w' (Γ.set j (.own 105 2 (some ⟨g,0,none⟩) n c (encE (swapL X i k)))):=by
 have ho:=S.own j hj
 have hl:=S.rd j hj (by omega)
 have g1:=hl.cE2 hi
 have g2:=hl.cE2 hk
 have g3:=hl.cE hi
 have g4:=hl.cE hk
 rw [adr_some,Nat.zero_add] at g1 g2 g3 g4
 have k1:w.frozen? ⟨g,i*2,none⟩=false:=by have:=own_frozen ho (by omega) (i*2);rwa [adr_some,Nat.zero_add] at this
 have k2:w.frozen? ⟨g,i*2+1,none⟩=false:=by have:=own_frozen ho (by omega) (i*2+1);rwa [adr_some,Nat.zero_add] at this
 have k3:w.frozen? ⟨g,k*2,none⟩=false:=by have:=own_frozen ho (by omega) (k*2);rwa [adr_some,Nat.zero_add] at this
 have k4:w.frozen? ⟨g,k*2+1,none⟩=false:=by have:=own_frozen ho (by omega) (k*2+1);rwa [adr_some,Nat.zero_add] at this
 have z1:g<w.heap.size:=(S.blt j hj (by omega)).2
 have d1:(0:Int)≤i:=by omega
 have d2:(i:Int)<n:=by omega
 have d3:(0:Int)≤k:=by omega
 have d4:(k:Int)<n:=by omega
 have x1:i*2≠k*2:=by omega
 have x2:i*2+1≠k*2:=by omega
 have x3:i*2≠k*2+1:=by omega
 have x4:i*2+1≠k*2+1:=by omega
 have hnX:=hl.nE
 have HX:=Lib.hid (encE_swap (X:=X) (i:=i) (k:=k) (by rw [← hnX];exact hi) (by rw [← hnX];exact hk) hik)
 generalize nth X i=a at *
 generalize nth X k=b at *
 clear hl ho
 have SH:=Lib.hid S;clear S
 have mixed:(Tryz.prog).follows Departure.mixedOrders=true:=by kernel_rfl
 clear hnX
 go_enter Tryz.func369,Tryz.ntmps369
 go_wp2
 go_region_o
 all_goals
  go_end0
  refine⟨rfl,?_⟩
  have T:=((SH.out.setRow2 j hj (i*2) (by omega) (.int .i64 b.1) (.int .i64 b.2)).setRow2 j (pc_set hj) (k*2) (by omega) (.int .i64 a.1) (.int .i64 a.2)).drew
  simp only [adr_some,Nat.zero_add,List.set_set] at T
  rw [← HX.out]
  exact T
theorem nHSwapEq (g n c:Nat) (X:List (Int × Int)) (i:Nat) (w w0:World) (Γ:List Pc) (j:Nat) (S:Sep w0 w Γ) (hj:Γ[j]?=some (.own 105 2 (some ⟨g,0,none⟩) n c (encE X))) (hi:i<n) (hn:n≤1000000) :
  Calls Tryz.prog 369 #[.slice (some ⟨g,0,none⟩) n c,.int .i64 i,.int .i64 i] w fun e w'=>e=.returned (.tuple #[])∧Sep w0 w' (Γ.set j (.own 105 2 (some ⟨g,0,none⟩) n c (encE (swapL X i i)))):=by
 have ho:=S.own j hj
 have hl:=S.rd j hj (by omega)
 have g1:=hl.cE2 hi
 have g3:=hl.cE hi
 rw [adr_some,Nat.zero_add] at g1 g3
 have k1:w.frozen? ⟨g,i*2,none⟩=false:=by have:=own_frozen ho (by omega) (i*2);rwa [adr_some,Nat.zero_add] at this
 have k2:w.frozen? ⟨g,i*2+1,none⟩=false:=by have:=own_frozen ho (by omega) (i*2+1);rwa [adr_some,Nat.zero_add] at this
 have z1:g<w.heap.size:=(S.blt j hj (by omega)).2
 have d1:(0:Int)≤i:=by omega
 have d2:(i:Int)<n:=by omega
 have hnX:=hl.nE
 have HX:Hid (encE (X.set i (nth X i))=encE (swapL X i i)):=by unfold Hid swapL;rw [List.set_set]
 rw [encE_set2 _ (by omega)] at HX
 generalize nth X i=a at *
 clear hl ho
 have SH:=Lib.hid S;clear S
 have mixed:(Tryz.prog).follows Departure.mixedOrders=true:=by kernel_rfl
 clear hnX
 go_enter Tryz.func369,Tryz.ntmps369
 go_wp2
 go_region_o
 all_goals
  go_end0
  refine⟨rfl,?_⟩
  have T:=((SH.out.setRow2 j hj (i*2) (by omega) (.int .i64 a.1) (.int .i64 a.2)).setRow2 j (pc_set hj) (i*2) (by omega) (.int .i64 a.1) (.int .i64 a.2)).drew
  simp only [adr_some,Nat.zero_add,List.set_set] at T
  rw [set_again] at T
  rw [← HX.out]
  exact T
theorem nHSwap (q:Option Addr) (n c:Nat) (X:List (Int × Int)) (i k:Nat) (w w0:World) (Γ:List Pc) (j:Nat) (S:Sep w0 w Γ) (hj:Γ[j]?=some (.own 105 2 q n c (encE X))) (hi:i<n) (hk:k<n) (hn:n≤1000000) :
  Calls Tryz.prog 369 #[.slice q n c,.int .i64 i,.int .i64 k] w fun e w'=>e=.returned (.tuple #[])∧Sep w0 w' (Γ.set j (.own 105 2 q n c (encE (swapL X i k)))):=by
 obtain⟨g,rfl,_⟩:=own_block (S.own j hj) (by omega)
 by_cases e:i=k
 ·subst e
  exact nHSwapEq g n c X i w w0 Γ j S hj hi hn
 ·exact nHSwapNe g n c X i k w w0 Γ j S hj hi hk e hn
end
section
open Go Go.RowKit
attribute [local go_sem] Oper.semAt_some
def nplV (x:Int × Int):Value:=.iface 105 (.agg #[.int .i64 x.1,.int .i64 x.2])
theorem ntaPlace (a b:Int) (W:World):(Instr.typeAssert (.iface 105 (.agg #[.int .i64 a,.int .i64 b])) 20 105 true).run Tryz.prog W=.ok (.tuple #[.agg #[.int .i64 a,.int .i64 b],.bool true]) W:=by kernel_rfl
theorem ninfPla:((Tryz.prog).info? 105).map (fun i=>(i.zero,i.size,i.bytes))=some (some (.agg #[.int .i64 0,.int .i64 0]),2,16):=by kernel_rfl
theorem nHPush (gb:Nat) (q:Option Addr) (n c:Nat) (X:List (Int × Int)) (x:Int × Int) (w w0:World) (Γ:List Pc) (jb j:Nat) (S:Sep w0 w Γ) (hb:Γ[jb]?=some (.blk gb 168 #[.slice q n c])) (hj:Γ[j]?=some (.own 105 2 q n c (encE X))) (hne:jb≠j) (hn:n≤100000) :
  Calls Tryz.prog 368 #[.pointer (some ⟨gb,0,none⟩),nplV x] w fun e w'=>e=.returned (.tuple #[])∧∃ q' c',Sep w0 w' ((Γ.set j (.own 105 2 q' (n+1) c' (encE (X ++ [x])))).set jb (.blk gb 168 #[.slice q' (n+1) c'])):=by
 obtain⟨b0,bz,bf⟩:=bkc0lz0 (S.blk jb hb)
 unfold nplV
 have TA:=ntaPlace x.1 x.2
 have SH:=Lib.hid S;clear S
 obtain⟨i0,hi0,hz0,hz1,hz2⟩:=info_parts ninfPla
 go_enter Tryz.func368,Tryz.ntmps368
 go_wp2
 obtain⟨Y,hY⟩:∃ Y,Y=w.alloc (.cells #[.int .i64 x.1,.int .i64 x.2] 105):=⟨_,rfl⟩
 have S1:=Lib.hid (hY ▸ SH.out.al #[.int .i64 x.1,.int .i64 x.2] 105 w.heap.size rfl:Sep w0 Y (.blk w.heap.size 105 #[.int .i64 x.1,.int .i64 x.2] :: Γ))
 rw [← hY]
 clear hY b0 bz bf
 obtain⟨b0,bz⟩:=bkc0l (S1.out.blk (jb+1) hb)
 obtain⟨e0,e1,ez⟩:=bkc0c1l (S1.out.blk 0 rfl)
 have S4:=Lib.hid (S1.out.alrw #[.int .i64 x.1,.int .i64 x.2] 105 2 1 Y.heap.size rfl (by decide) rfl).drew
 obtain⟨q',c',w7,hrun,S'⟩:=S4.out.appended (j+2) 168 168 105 i0 _ 2 16 Tryz.underlying168 hi0 hz0 hz1 hz2 rfl (by omega) q n c (encE X) hj (some ⟨Y.heap.size,0,none⟩) 1 1 (encE [x]) (S4.out.rdx 0 rfl) (one_encE _) (by omega) (by omega)
 have hb7:=two_set (p0:=Pc.own 105 2 (some ⟨Y.heap.size,0,none⟩) 1 1 [.int .i64 x.1,.int .i64 x.2]) (p1:=Pc.blk w.heap.size 105 #[.int .i64 x.1,.int .i64 x.2]) (a:=Pc.own 105 2 q' (n+1) c' (encE X ++ encE [x])) (fun e=>hne e.symm) hb
 obtain⟨k4,kf,kz⟩:=bkc0z0l (S'.blk (jb+2) hb7)
 have S6:=Lib.hid S'
 have HB7:=Lib.hid hb7
 clear S' hb7 hb hj
 refine wp_region_any (by kernel_rfl) ?_
 change wpAny _ _ _ _ _ _ _ (World.drew _)
 refine wpAny_take (i:=0) (v:=.pointer (some ⟨gb,0,none⟩)) rfl (by kernel_rfl) (by kernel_rfl) (by kernel_rfl) (fun _ _ _ h=>h) (Or.inl ⟨by rfl,fun W=>by go_simp⟩) ?_
 refine wpAny_take (i:=1) (v:=.pointer (some ⟨gb,0,none⟩)) rfl (by kernel_rfl) (by kernel_rfl) (by kernel_rfl) (fun _ _ _ h=>h) (Or.inl ⟨by rfl,fun W=>by go_simp⟩) ?_
 refine wpAny_take (i:=2) (v:=.pointer (some ⟨gb,0,none⟩)) rfl (by kernel_rfl) (by kernel_rfl) (by kernel_rfl) (fun _ _ _ h=>h) (Or.inl ⟨by rfl,fun W=>by go_simp⟩) ?_
 refine wpAny_ready (rs:=[3,4]) (by kernel_rfl) (by simp) (AllReady.cons rfl (fun K hK=>?_) (AllReady.cons rfl (fun K hK=>?_) AllReady.nil))
 ·go_simp
  refine hK _ _ ?_
  clear hK
  refine wpAny_ready (rs:=[4]) (by kernel_rfl) (by simp) (AllReady.cons rfl (fun K hK=>?_) AllReady.nil)
  go_simp
  refine hK _ _ ?_
  clear hK
  refine wpAny_ready (rs:=[5]) (by kernel_rfl) (by simp) (AllReady.cons rfl (fun K hK=>?_) AllReady.nil)
  go_simp
  refine hK _ _ ?_
  clear hK
  refine wpAny_ready (rs:=[6]) (by kernel_rfl) (by simp) (AllReady.cons rfl (fun K hK=>?_) AllReady.nil)
  rw [if_pos (by rfl)]
  refine operwp_append (.tmp 15) (.tmp 17) 168 rfl rfl rfl hrun ?_
  refine hK _ _ ?_
  clear hK
  refine wpAny_ready (rs:=[7]) (by kernel_rfl) (by simp) (AllReady.cons rfl (fun K hK=>?_) AllReady.nil)
  go_simp
  refine hK _ _ ?_
  clear hK
  refine wpAny_ready (rs:=[8]) (by kernel_rfl) (by simp) (AllReady.cons rfl (fun K hK=>?_) AllReady.nil)
  go_simp
  refine hK _ _ ?_
  clear hK
  refine wpAny_done (by kernel_rfl) ?_ _
  go_end0
  refine⟨rfl,q',c',?_⟩
  have T:=S6.out.set (jb+2) HB7.out 0 (.slice q' (n+1) c')
  rw [encE_append]
  exact T.sub ((List.sublist_cons_self _ _).trans (List.sublist_cons_self _ _))
 ·go_simp
  refine hK _ _ ?_
  clear hK
  refine wpAny_ready (rs:=[3,5]) (by kernel_rfl) (by simp) (AllReady.cons rfl (fun K hK=>?_) (AllReady.cons rfl (fun K hK=>?_) AllReady.nil))
  ·go_simp
   refine hK _ _ ?_
   clear hK
   refine wpAny_ready (rs:=[5]) (by kernel_rfl) (by simp) (AllReady.cons rfl (fun K hK=>?_) AllReady.nil)
   go_simp
   refine hK _ _ ?_
   clear hK
   refine wpAny_ready (rs:=[6]) (by kernel_rfl) (by simp) (AllReady.cons rfl (fun K hK=>?_) AllReady.nil)
   rw [if_pos (by rfl)]
   refine operwp_append (.tmp 15) (.tmp 17) 168 rfl rfl rfl hrun ?_
   refine hK _ _ ?_
   clear hK
   refine wpAny_ready (rs:=[7]) (by kernel_rfl) (by simp) (AllReady.cons rfl (fun K hK=>?_) AllReady.nil)
   go_simp
   refine hK _ _ ?_
   clear hK
   refine wpAny_ready (rs:=[8]) (by kernel_rfl) (by simp) (AllReady.cons rfl (fun K hK=>?_) AllReady.nil)
   go_simp
   refine hK _ _ ?_
   clear hK
   refine wpAny_done (by kernel_rfl) ?_ _
   go_end0
   refine⟨rfl,q',c',?_⟩
   have T:=S6.out.set (jb+2) HB7.out 0 (.slice q' (n+1) c')
   rw [encE_append]
   exact T.sub ((List.sublist_cons_self _ _).trans (List.sublist_cons_self _ _))
  ·go_simp
   refine hK _ _ ?_
   clear hK
   refine wpAny_ready (rs:=[3]) (by kernel_rfl) (by simp) (AllReady.cons rfl (fun K hK=>?_) AllReady.nil)
   go_simp
   refine hK _ _ ?_
   clear hK
   refine wpAny_ready (rs:=[6]) (by kernel_rfl) (by simp) (AllReady.cons rfl (fun K hK=>?_) AllReady.nil)
   rw [if_pos (by rfl)]
   refine operwp_append (.tmp 15) (.tmp 17) 168 rfl rfl rfl hrun ?_
   refine hK _ _ ?_
   clear hK
   refine wpAny_ready (rs:=[7]) (by kernel_rfl) (by simp) (AllReady.cons rfl (fun K hK=>?_) AllReady.nil)
   go_simp
   refine hK _ _ ?_
   clear hK
   refine wpAny_ready (rs:=[8]) (by kernel_rfl) (by simp) (AllReady.cons rfl (fun K hK=>?_) AllReady.nil)
   go_simp
   refine hK _ _ ?_
   clear hK
   refine wpAny_done (by kernel_rfl) ?_ _
   go_end0
   refine⟨rfl,q',c',?_⟩
   have T:=S6.out.set (jb+2) HB7.out 0 (.slice q' (n+1) c')
   rw [encE_append]
   exact T.sub ((List.sublist_cons_self _ _).trans (List.sublist_cons_self _ _))
theorem nHPop (gb:Nat) (q:Option Addr) (n c:Nat) (X:List (Int × Int)) (w w0:World) (Γ:List Pc) (jb j:Nat) (S:Sep w0 w Γ) (hb:Γ[jb]?=some (.blk gb 168 #[.slice q (n+1) c])) (hj:Γ[j]?=some (.own 105 2 q (n+1) c (encE X))) (hne:jb≠j) (hn:n≤100000) :
  Calls Tryz.prog 367 #[.pointer (some ⟨gb,0,none⟩)] w fun e w'=>e=.returned (nplV (nth X n))∧Sep w0 w' ((Γ.set j (.own 105 2 q n c (encE (X.take n)))).set jb (.blk gb 168 #[.slice q n c])):=by
 obtain⟨b0,bz,bf⟩:=bkc0lz0 (S.blk jb hb)
 have hl:=S.rd j hj (by omega)
 have hcap:=own_cap (S.own j hj)
 have g1:=hl.cE (k:=n) (by omega)
 have g2:=hl.cE2 (k:=n) (by omega)
 have p1:=hl.ptr
 have hnX:=hl.nE
 have d1:(0:Int)≤n:=by omega
 have d2:(n:Int)<(n:Int)+1:=by omega
 have HNX:=Lib.hid hnX
 clear hnX
 generalize nth X n=x at *
 unfold nplV
 clear hl
 have SH:=Lib.hid S;clear S
 go_enter Tryz.func367,Tryz.ntmps367
 go_wp2
 go_ret
 refine⟨rfl,?_⟩
 have T:=(SH.out.set jb hb 0 (.slice q n c)).junk (.cells #[.int .i64 x.1,.int .i64 x.2] 105)
 have hj2:(Γ.set jb (.blk gb 168 #[.slice q n c]))[j]?=some (.own 105 2 q (n+1) c (encE (X.take n) ++ encE (X.drop n))):=by
  rw [← encE_append,List.take_append_drop,List.getElem?_set_ne hne];exact hj
 have hX:=HNX.out
 have T2:=Sep.cut T j n hj2 (by rw [encE_len,List.length_take];omega) (by omega)
 rw [List.set_comm _ _ hne] at T2
 exact T2
end
section
open Go Go.RowKit
theorem nrecvP (s:String) (gb:Nat) (v:Value) (W:World) (h:W.cell? ⟨gb,0,none⟩=some v):(receiverAt 167 (Place.val (.pointer (some ⟨gb,0,none⟩))) false (some s)).run Tryz.prog W=.ok v W:=by
 simp only [receiverAt,Sem.run_bind]
 simp [go_sem,Place.get,wnc,loadVar,h]
theorem nmLen (gb : Nat) (v : Value) (W : World) (N : Nat) (hN : 0 < N) (h : W.cell? ⟨gb, 0, none⟩ = some v) : (method N 167 (.pointer (some ⟨gb, 0, none⟩)) "Len").run Tryz.prog W = .ok (365, v) W := by
 obtain⟨m,rfl⟩:∃ m,N=m+1:=⟨N - 1,by omega⟩
 obtain ⟨mm, h1⟩ : ∃ mm, Array.find? (fun x => x.name == "Len") (Tryz.t167).methods = some mm := ⟨_, rfl⟩
 have h2 : (Array.find? (fun x => x.name == "Len") (Tryz.t167).methods).map (fun x => (x.path, x.func)) = some (#[], some (365, false)) := by kernel_rfl
 rw [h1] at h2
 simp at h2
 simp [method,go_sem,h1,h2,follow,nrecvP _ gb v W h]
theorem nmLess (gb : Nat) (v : Value) (W : World) (N : Nat) (hN : 0 < N) (h : W.cell? ⟨gb, 0, none⟩ = some v) : (method N 167 (.pointer (some ⟨gb, 0, none⟩)) "Less").run Tryz.prog W = .ok (366, v) W := by
 obtain⟨m,rfl⟩:∃ m,N=m+1:=⟨N - 1,by omega⟩
 obtain ⟨mm, h1⟩ : ∃ mm, Array.find? (fun x => x.name == "Less") (Tryz.t167).methods = some mm := ⟨_, rfl⟩
 have h2 : (Array.find? (fun x => x.name == "Less") (Tryz.t167).methods).map (fun x => (x.path, x.func)) = some (#[], some (366, false)) := by kernel_rfl
 rw [h1] at h2
 simp at h2
 simp [method,go_sem,h1,h2,follow,nrecvP _ gb v W h]
theorem nmSwap (gb : Nat) (v : Value) (W : World) (N : Nat) (hN : 0 < N) (h : W.cell? ⟨gb, 0, none⟩ = some v) : (method N 167 (.pointer (some ⟨gb, 0, none⟩)) "Swap").run Tryz.prog W = .ok (369, v) W := by
 obtain⟨m,rfl⟩:∃ m,N=m+1:=⟨N - 1,by omega⟩
 obtain ⟨mm, h1⟩ : ∃ mm, Array.find? (fun x => x.name == "Swap") (Tryz.t167).methods = some mm := ⟨_, rfl⟩
 have h2 : (Array.find? (fun x => x.name == "Swap") (Tryz.t167).methods).map (fun x => (x.path, x.func)) = some (#[], some (369, false)) := by kernel_rfl
 rw [h1] at h2
 simp at h2
 simp [method,go_sem,h1,h2,follow,nrecvP _ gb v W h]
theorem nmPush (gb : Nat) (W : World) (N : Nat) (hN : 0 < N) : (method N 167 (.pointer (some ⟨gb, 0, none⟩)) "Push").run Tryz.prog W = .ok (368, .pointer (some ⟨gb, 0, none⟩)) W := by
 obtain⟨m,rfl⟩:∃ m,N=m+1:=⟨N - 1,by omega⟩
 kernel_rfl
theorem nmPop (gb : Nat) (W : World) (N : Nat) (hN : 0 < N) : (method N 167 (.pointer (some ⟨gb, 0, none⟩)) "Pop").run Tryz.prog W = .ok (367, .pointer (some ⟨gb, 0, none⟩)) W := by
 obtain⟨m,rfl⟩:∃ m,N=m+1:=⟨N - 1,by omega⟩
 kernel_rfl
end
section
open Go Go.RowKit
attribute [local go_sem] Oper.semAt_some
def nhpV (gb:Nat):Value:=.iface 167 (.pointer (some ⟨gb,0,none⟩))
theorem nHUp (gb:Nat) (q:Option Addr) (n c i:Nat) (X:List (Int × Int)) (w w0:World) (Γ:List Pc) (jb j:Nat) (S:Sep w0 w Γ) (hb:Γ[jb]?=some (.blk gb 168 #[.slice q n c])) (hj:Γ[j]?=some (.own 105 2 q n c (encE X))) (hne:jb≠j) (hn:n≤100000) (hi:i<n) (hu:UpH ltN n i X) :
  Calls Tryz.prog 190 #[nhpV gb,.int .i64 i] w fun e w'=>e=.returned (.tuple #[])∧∃ X':List (Int × Int),X'.Perm X∧HeapN ltN n X'∧Sep w0 w' (Γ.set j (.own 105 2 q n c (encE X'))):=by
 unfold nhpV
 have hnX:n=X.length:=(S.rd j hj (by omega)).nE
 have HNX:=Lib.hid hnX
 clear hnX
 have SH:=Lib.hid S;clear S
 have HU:=Lib.hid hu;clear hu
 go_enter Tryz.func190,Tryz.ntmps190
 go_wp2
 go_loopw [1,4] (fun v1 _ wr=>∃ (k:Nat) (Y:List (Int × Int)),k<n∧v1=.int .i64 k∧Y.Perm X∧UpH ltN n k Y∧Sep w0 wr (Γ.set j (.own 105 2 q n c (encE Y)))) (fun v1 _ _=>(intOf v1).toNat)
 case atStart=>exact⟨i,X,hi,rfl,List.Perm.refl _,HU.out,by rw [set_same hj];exact SH.out⟩
 case round =>
  clear SH HU
  obtain⟨k,Y,hk,rfl,hp,hu,S⟩:=hrel
  have HP:=Lib.hid hp
  have HU:=Lib.hid hu
  have HYL:Hid (Y.length=n):=by unfold Hid;rw [hp.length_eq];exact HNX.out.symm
  have hb2:=(List.getElem?_set_ne (l:=Γ) (a:=Pc.own 105 2 q n c (encE Y)) (i:=j) (j:=jb) (by omega)).trans hb
  have hj2:=pc_set (q:=Pc.own 105 2 q n c (encE Y)) hj
  have HB2:=Lib.hid hb2
  have b0:=(S.blk jb hb2).cell 0
  have ML:=fun N hN=>nmLess gb _ wr N hN b0
  by_cases h0:k=0
  ·subst h0
   have HE:=Lib.hid (up_end hu (.inl rfl))
   have SH:=Lib.hid S;clear S
   clear hp hu hb2 hj2
   go_wp2
   go_end0
   exact⟨rfl,Y,HP.out,HE.out,SH.out⟩
  ·obtain⟨p,hpp⟩:∃ p,(k - 1) / 2=p:=⟨_,rfl⟩
   have hpk:p<k:=by omega
   have e1:((k:Int) - 1).tdiv 2=(p:Int):=by
    rw [Int.tdiv_eq_ediv_of_nonneg (by omega)];omega
   have e2:((p:Int) == (k:Int))=false:=by simp;omega
   have hL:=nHLess q n c Y k p wr (S.rd j hj2 (by omega)) hk (by omega)
   cases hlt:ltN (nth Y k) (nth Y p) with
   | false =>
    rw [hlt] at hL
    have HE:=Lib.hid (up_end hu (.inr (by rw [hpp];exact hlt)))
    have HL:=Lib.hid hL
    have SH:=Lib.hid S;clear S
    clear hp hu hb2 hj2 hL hlt hpp h0
    go_wp2_with (go_at_call 366;go_must (refine HL.out.mono ?_;rintro e w5 ⟨rfl,h5⟩;have S5:=Lib.hid (SH.out.call h5);have b5:=(S5.out.blk jb HB2.out).cell 0;have MS:=fun N hN=>nmSwap gb _ w5 N hN b5;clear h5))
    go_end0
    exact⟨rfl,Y,HP.out,HE.out,S5.out⟩
   | true =>
    rw [hlt] at hL
    have HE:=Lib.hid (hpp ▸ up_step stoN (by rw [HYL.out];exact Nat.le_refl _) hk (by omega) hu (by rw [hpp];exact hlt):UpH ltN n p (swapL Y k p))
    have HJ2:=Lib.hid hj2
    have HPM:=Lib.hid (swapL_perm (X:=Y) (i:=k) (j:=p) (by rw [HYL.out];exact hk) (by rw [HYL.out];omega))
    have HL:=Lib.hid hL
    have SH:=Lib.hid S;clear S
    clear hp hu hb2 hj2 hL hlt hpp h0
    have hkp:p≠k:=by omega
    go_wp2_with (first
     | (go_at_call 369;go_must (refine(nHSwap q n c Y p k w5 w0 _ j S5.out HJ2.out (by omega) hk (by omega)).mono ?_;rintro e w6 ⟨rfl,T⟩;rw [List.set_set,swapL_comm Y hkp] at T;have S6:=Lib.hid T;clear T))
     | (go_at_call 366;go_must (refine HL.out.mono ?_;rintro e w5 ⟨rfl,h5⟩;have S5:=Lib.hid (SH.out.call h5);have b5:=(S5.out.blk jb HB2.out).cell 0;have MS:=fun N hN=>nmSwap gb _ w5 N hN b5;clear h5)))
    go_roundw
    case rel=>exact⟨p,swapL Y k p,by omega,rfl,HPM.out.trans HP.out,HE.out,S6.out⟩
    case measure=>simp [intOf];omega
end
section
open Go Go.RowKit
attribute [local go_sem] Oper.semAt_some
theorem nHDown (gb:Nat) (q:Option Addr) (n m c:Nat) (X:List (Int × Int)) (w w0:World) (Γ:List Pc) (jb j:Nat) (S:Sep w0 w Γ) (hb:Γ[jb]?=some (.blk gb 168 #[.slice q m c])) (hj:Γ[j]?=some (.own 105 2 q m c (encE X))) (hne:jb≠j) (hm:m≤100000) (hnm:n≤m) (hu:DnH ltN n 0 X) :
  Calls Tryz.prog 203 #[nhpV gb,.int .i64 0,.int .i64 n] w fun e w'=>∃ bb,e=.returned (.bool bb)∧∃ X':List (Int × Int),X'.Perm X∧HeapN ltN n X'∧(∀ z,n≤z→z<m→nth X' z=nth X z)∧Sep w0 w' (Γ.set j (.own 105 2 q m c (encE X'))):=by
 unfold nhpV
 have hnX:m=X.length:=(S.rd j hj (by omega)).nE
 have HNX:=Lib.hid hnX
 clear hnX
 have SH:=Lib.hid S;clear S
 have HU:=Lib.hid hu;clear hu
 go_enter Tryz.func203,Tryz.ntmps203
 go_wp2
 go_loopw [7,8,9,10] (fun v7 _ _ _ wr=>∃ (k:Nat) (Y:List (Int × Int)),k≤n∧v7=.int .i64 k∧Y.Perm X∧DnH ltN n k Y∧(∀ z,n≤z→z<m→nth Y z=nth X z)∧Sep w0 wr (Γ.set j (.own 105 2 q m c (encE Y)))) (fun v7 _ _ _ _=>n - (intOf v7).toNat)
 case atStart=>exact⟨0,X,Nat.zero_le _,rfl,List.Perm.refl _,HU.out,fun _ _ _=>rfl,by rw [set_same hj];exact SH.out⟩
 case round =>
  clear SH HU
  obtain⟨k,Y,hk,rfl,hp,hu,ht,S⟩:=hrel
  have HP:=Lib.hid hp
  have HU:=Lib.hid hu
  have HT:=Lib.hid ht
  have HYL:Hid (Y.length=m):=by unfold Hid;rw [hp.length_eq];exact HNX.out.symm
  have HB2:=Lib.hid ((List.getElem?_set_ne (l:=Γ) (a:=Pc.own 105 2 q m c (encE Y)) (i:=j) (j:=jb) (by omega)).trans hb)
  have HJ2:=Lib.hid (pc_set (q:=Pc.own 105 2 q m c (encE Y)) hj)
  have b0:=(S.blk jb HB2.out).cell 0
  have ML:=fun N hN=>nmLess gb _ wr N hN b0
  obtain⟨a,ha⟩:∃ a,2*k+1=a:=⟨_,rfl⟩
  have e1:2*(k:Int)+1=(a:Int):=by omega
  have e2:decide ((a:Int)<0)=false:=by simp
  clear hp hu ht
  by_cases hA:n≤a
  ·have d1:decide ((n:Int)≤a)=true:=by simp;omega
   have HE:=Lib.hid (dn_leaf HU.out (by omega))
   have SH:=Lib.hid S;clear S
   have d1n:decide (n≤a)=true:=by simpa using hA
   clear ha
   go_wp2
   go_ret
   exact⟨_,rfl,Y,HP.out,HE.out,HT.out,SH.out⟩
  ·have d1:decide ((n:Int)≤a)=false:=by simp;omega
   obtain⟨b,hb'⟩:∃ b,2*k+2=b:=⟨_,rfl⟩
   have e3:(a:Int)+1=(b:Int):=by omega
   by_cases hB:b<n
   ·have d2:decide ((b:Int)<n)=true:=by simp;omega
    have hL1:=nHLess q m c Y b a wr (S.rd j HJ2.out (by omega)) (by omega) (by omega)
    cases hl1:ltN (nth Y b) (nth Y a) with
    | false =>
     rw [hl1] at hL1
     have HL1:=Lib.hid hL1
     obtain⟨d,hd⟩:∃ d,d=a:=⟨_,rfl⟩
     have HLC:=Lib.hid (least_one stoN (n:=n) (j:=k) (X:=Y) (by omega) (.inr (by rw [ha,hb'];exact hl1)))
     rw [ha] at HLC
     have SH:=Lib.hid S;clear S
     obtain rfl:=hd
     clear hl1 hL1
     cases hlt:ltN (nth Y d) (nth Y k) with
     | false =>
      have HE:=Lib.hid (dn_end stoN HU.out HLC.out hlt)
      have HL2:Hid (∀ W,Ext wr W→Calls Tryz.prog 366 #[.slice q m c,.int .i64 d,.int .i64 k] W fun e w'=>e=.returned (.bool false)∧Ext W w'):=fun W h=>hlt ▸ nHLess q m c Y d k W ((SH.out.rd j HJ2.out (by omega)).ext h) (by omega) (by omega)
      clear hlt
      go_wp2_with (first | (go_at_call 366;have _t:=S5;go_must (refine(HL2.out _ X5.out).mono ?_;rintro e w6 ⟨rfl,h6⟩;have S6:=Lib.hid (S5.out.call h6);have b6:=(S6.out.blk jb HB2.out).cell 0;have MS:=fun N hN=>nmSwap gb _ w6 N hN b6;clear h6)) | (go_at_call 366;have _t:=HL1;go_must (refine HL1.out.mono ?_;rintro e w5 ⟨rfl,h5⟩;have S5:=Lib.hid (SH.out.call h5);have X5:=Lib.hid h5;have b5:=(S5.out.blk jb HB2.out).cell 0;have ML5:=fun N hN=>nmLess gb _ w5 N hN b5;clear h5)))
      go_ret
      exact⟨_,rfl,Y,HP.out,HE.out,HT.out,S6.out⟩
     | true =>
      have HE:=Lib.hid (dn_step stoN (by rw [HYL.out];exact hnm) HU.out HLC.out hlt)
      have HL2:Hid (∀ W,Ext wr W→Calls Tryz.prog 366 #[.slice q m c,.int .i64 d,.int .i64 k] W fun e w'=>e=.returned (.bool true)∧Ext W w'):=fun W h=>hlt ▸ nHLess q m c Y d k W ((SH.out.rd j HJ2.out (by omega)).ext h) (by omega) (by omega)
      have HPM:=Lib.hid (swapL_perm (X:=Y) (i:=k) (j:=d) (by rw [HYL.out];omega) (by rw [HYL.out];omega))
      have HT2:Hid (∀ z,n≤z→z<m→nth (swapL Y k d) z=nth X z):=fun z h1 h2=>by rw [swapL_nth (by rw [HYL.out];exact h2),if_neg (by omega),if_neg (by omega)];exact HT.out z h1 h2
      clear hlt
      go_wp2_with (first | (go_at_call 369;go_must (refine(nHSwap q m c Y k d w6 w0 _ j S6.out HJ2.out (by omega) (by omega) (by omega)).mono ?_;rintro e w7 ⟨rfl,T⟩;rw [List.set_set] at T;have S7:=Lib.hid T;clear T)) | (go_at_call 366;have _t:=S5;go_must (refine(HL2.out _ X5.out).mono ?_;rintro e w6 ⟨rfl,h6⟩;have S6:=Lib.hid (S5.out.call h6);have b6:=(S6.out.blk jb HB2.out).cell 0;have MS:=fun N hN=>nmSwap gb _ w6 N hN b6;clear h6)) | (go_at_call 366;have _t:=HL1;go_must (refine HL1.out.mono ?_;rintro e w5 ⟨rfl,h5⟩;have S5:=Lib.hid (SH.out.call h5);have X5:=Lib.hid h5;have b5:=(S5.out.blk jb HB2.out).cell 0;have ML5:=fun N hN=>nmLess gb _ w5 N hN b5;clear h5)))
      go_roundw
      case rel=>exact⟨d,swapL Y k d,by omega,rfl,HPM.out.trans HP.out,HE.out,HT2.out,S7.out⟩
      case measure=>simp [intOf];omega
    | true =>
     rw [hl1] at hL1
     have HL1:=Lib.hid hL1
     have HLC:=Lib.hid (least_two stoN (n:=n) (j:=k) (X:=Y) (by omega) (by rw [ha,hb'];exact hl1))
     rw [hb'] at HLC
     obtain⟨d,hd⟩:∃ d,d=b:=⟨_,rfl⟩
     have SH:=Lib.hid S;clear S
     obtain rfl:=hd
     clear hl1 hL1
     cases hlt:ltN (nth Y d) (nth Y k) with
     | false =>
      have HE:=Lib.hid (dn_end stoN HU.out HLC.out hlt)
      have HL2:Hid (∀ W,Ext wr W→Calls Tryz.prog 366 #[.slice q m c,.int .i64 d,.int .i64 k] W fun e w'=>e=.returned (.bool false)∧Ext W w'):=fun W h=>hlt ▸ nHLess q m c Y d k W ((SH.out.rd j HJ2.out (by omega)).ext h) (by omega) (by omega)
      clear hlt
      go_wp2_with (first | (go_at_call 366;have _t:=S5;go_must (refine(HL2.out _ X5.out).mono ?_;rintro e w6 ⟨rfl,h6⟩;have S6:=Lib.hid (S5.out.call h6);have b6:=(S6.out.blk jb HB2.out).cell 0;have MS:=fun N hN=>nmSwap gb _ w6 N hN b6;clear h6)) | (go_at_call 366;have _t:=HL1;go_must (refine HL1.out.mono ?_;rintro e w5 ⟨rfl,h5⟩;have S5:=Lib.hid (SH.out.call h5);have X5:=Lib.hid h5;have b5:=(S5.out.blk jb HB2.out).cell 0;have ML5:=fun N hN=>nmLess gb _ w5 N hN b5;clear h5)))
      go_ret
      exact⟨_,rfl,Y,HP.out,HE.out,HT.out,S6.out⟩
     | true =>
      have HE:=Lib.hid (dn_step stoN (by rw [HYL.out];exact hnm) HU.out HLC.out hlt)
      have HL2:Hid (∀ W,Ext wr W→Calls Tryz.prog 366 #[.slice q m c,.int .i64 d,.int .i64 k] W fun e w'=>e=.returned (.bool true)∧Ext W w'):=fun W h=>hlt ▸ nHLess q m c Y d k W ((SH.out.rd j HJ2.out (by omega)).ext h) (by omega) (by omega)
      have HPM:=Lib.hid (swapL_perm (X:=Y) (i:=k) (j:=d) (by rw [HYL.out];omega) (by rw [HYL.out];omega))
      have HT2:Hid (∀ z,n≤z→z<m→nth (swapL Y k d) z=nth X z):=fun z h1 h2=>by rw [swapL_nth (by rw [HYL.out];exact h2),if_neg (by omega),if_neg (by omega)];exact HT.out z h1 h2
      clear hlt
      go_wp2_with (first | (go_at_call 369;go_must (refine(nHSwap q m c Y k d w6 w0 _ j S6.out HJ2.out (by omega) (by omega) (by omega)).mono ?_;rintro e w7 ⟨rfl,T⟩;rw [List.set_set] at T;have S7:=Lib.hid T;clear T)) | (go_at_call 366;have _t:=S5;go_must (refine(HL2.out _ X5.out).mono ?_;rintro e w6 ⟨rfl,h6⟩;have S6:=Lib.hid (S5.out.call h6);have b6:=(S6.out.blk jb HB2.out).cell 0;have MS:=fun N hN=>nmSwap gb _ w6 N hN b6;clear h6)) | (go_at_call 366;have _t:=HL1;go_must (refine HL1.out.mono ?_;rintro e w5 ⟨rfl,h5⟩;have S5:=Lib.hid (SH.out.call h5);have X5:=Lib.hid h5;have b5:=(S5.out.blk jb HB2.out).cell 0;have ML5:=fun N hN=>nmLess gb _ w5 N hN b5;clear h5)))
      go_roundw
      case rel=>exact⟨d,swapL Y k d,by omega,rfl,HPM.out.trans HP.out,HE.out,HT2.out,S7.out⟩
      case measure=>simp [intOf];omega
   ·have d2:decide ((b:Int)<n)=false:=by simp;omega
    have HLC:=Lib.hid (least_one stoN (n:=n) (j:=k) (X:=Y) (by omega) (.inl (by omega)))
    rw [ha] at HLC
    obtain⟨d,hd⟩:∃ d,d=a:=⟨_,rfl⟩
    have SH:=Lib.hid S;clear S
    have S5:=Lib.hid SH.out
    have X5:Hid (Ext wr wr):=Below.refl _ _
    obtain rfl:=hd
    cases hlt:ltN (nth Y d) (nth Y k) with
    | false =>
     have HE:=Lib.hid (dn_end stoN HU.out HLC.out hlt)
     have HL2:Hid (∀ W,Ext wr W→Calls Tryz.prog 366 #[.slice q m c,.int .i64 d,.int .i64 k] W fun e w'=>e=.returned (.bool false)∧Ext W w'):=fun W h=>hlt ▸ nHLess q m c Y d k W ((SH.out.rd j HJ2.out (by omega)).ext h) (by omega) (by omega)
     clear hlt
     go_wp2_with (first | (go_at_call 366;have _t:=S5;go_must (refine(HL2.out _ X5.out).mono ?_;rintro e w6 ⟨rfl,h6⟩;have S6:=Lib.hid (S5.out.call h6);have b6:=(S6.out.blk jb HB2.out).cell 0;have MS:=fun N hN=>nmSwap gb _ w6 N hN b6;clear h6)) | (go_at_call 366;have _t:=HL1;go_must (refine HL1.out.mono ?_;rintro e w5 ⟨rfl,h5⟩;have S5:=Lib.hid (SH.out.call h5);have X5:=Lib.hid h5;have b5:=(S5.out.blk jb HB2.out).cell 0;have ML5:=fun N hN=>nmLess gb _ w5 N hN b5;clear h5)))
     go_ret
     exact⟨_,rfl,Y,HP.out,HE.out,HT.out,S6.out⟩
    | true =>
     have HE:=Lib.hid (dn_step stoN (by rw [HYL.out];exact hnm) HU.out HLC.out hlt)
     have HL2:Hid (∀ W,Ext wr W→Calls Tryz.prog 366 #[.slice q m c,.int .i64 d,.int .i64 k] W fun e w'=>e=.returned (.bool true)∧Ext W w'):=fun W h=>hlt ▸ nHLess q m c Y d k W ((SH.out.rd j HJ2.out (by omega)).ext h) (by omega) (by omega)
     have HPM:=Lib.hid (swapL_perm (X:=Y) (i:=k) (j:=d) (by rw [HYL.out];omega) (by rw [HYL.out];omega))
     have HT2:Hid (∀ z,n≤z→z<m→nth (swapL Y k d) z=nth X z):=fun z h1 h2=>by rw [swapL_nth (by rw [HYL.out];exact h2),if_neg (by omega),if_neg (by omega)];exact HT.out z h1 h2
     clear hlt
     go_wp2_with (first | (go_at_call 369;go_must (refine(nHSwap q m c Y k d w6 w0 _ j S6.out HJ2.out (by omega) (by omega) (by omega)).mono ?_;rintro e w7 ⟨rfl,T⟩;rw [List.set_set] at T;have S7:=Lib.hid T;clear T)) | (go_at_call 366;have _t:=S5;go_must (refine(HL2.out _ X5.out).mono ?_;rintro e w6 ⟨rfl,h6⟩;have S6:=Lib.hid (S5.out.call h6);have b6:=(S6.out.blk jb HB2.out).cell 0;have MS:=fun N hN=>nmSwap gb _ w6 N hN b6;clear h6)) | (go_at_call 366;have _t:=HL1;go_must (refine HL1.out.mono ?_;rintro e w5 ⟨rfl,h5⟩;have S5:=Lib.hid (SH.out.call h5);have X5:=Lib.hid h5;have b5:=(S5.out.blk jb HB2.out).cell 0;have ML5:=fun N hN=>nmLess gb _ w5 N hN b5;clear h5)))
     go_roundw
     case rel=>exact⟨d,swapL Y k d,by omega,rfl,HPM.out.trans HP.out,HE.out,HT2.out,S7.out⟩
     case measure=>simp [intOf];omega
end
section
open Go Go.RowKit
attribute [local go_sem] Oper.semAt_some
theorem nheap_snoc {n:Nat} {X:List (Int × Int)} {x:Int × Int} (hn:n=X.length) (h:HeapN ltN n X):UpH ltN (n+1) n (X ++ [x]):=by
 refine up_start fun i h0 h1=>?_
 rw [nth_append_left _ _ _ (by omega),nth_append_left _ _ _ (by omega)]
 exact h i h0 h1
theorem nHeapPush (gb:Nat) (q:Option Addr) (n c:Nat) (X:List (Int × Int)) (x:Int × Int) (w w0:World) (Γ:List Pc) (jb j:Nat) (S:Sep w0 w Γ) (hb:Γ[jb]?=some (.blk gb 168 #[.slice q n c])) (hj:Γ[j]?=some (.own 105 2 q n c (encE X))) (hne:jb≠j) (hn:n≤90000) (hh:HeapN ltN n X) :
  Calls Tryz.prog 116 #[nhpV gb,nplV x] w fun e w'=>e=.returned (.tuple #[])∧∃ (q':Option Addr) (c':Nat) (X':List (Int × Int)),X'.Perm (X ++ [x])∧HeapN ltN (n+1) X'∧Sep w0 w' ((Γ.set j (.own 105 2 q' (n+1) c' (encE X'))).set jb (.blk gb 168 #[.slice q' (n+1) c'])):=by
 have HU:=Lib.hid (nheap_snoc (x:=x) (S.rd j hj (by omega)).nE hh)
 have HPU:=Lib.hid (nHPush gb q n c X x w w0 Γ jb j S hb hj hne (by omega))
 have MP:=fun W N hN=>nmPush gb W N hN
 have HUP:=Lib.hid (fun q1 c1 w1 S1=>nHUp gb q1 (n+1) c1 n (X ++ [x]) w1 w0 ((Γ.set j (.own 105 2 q1 (n+1) c1 (encE (X ++ [x])))).set jb (.blk gb 168 #[.slice q1 (n+1) c1])) jb j S1 (pc_set (p:=.blk gb 168 #[.slice q n c]) (by rw [List.getElem?_set_ne (fun e=>hne e.symm)];exact hb)) (by rw [List.getElem?_set_ne hne];exact pc_set hj) hne (by omega) (by omega) HU.out)
 have HB:=Lib.hid (fun q1 c1=>(pc_set (p:=.blk gb 168 #[.slice q n c]) (q:=.blk gb 168 #[.slice q1 (n+1) c1]) (by rw [List.getElem?_set_ne (fun e=>hne e.symm)];exact hb):((Γ.set j (.own 105 2 q1 (n+1) c1 (encE (X ++ [x])))).set jb (.blk gb 168 #[.slice q1 (n+1) c1]))[jb]?=some _))
 clear S hb hj hh
 unfold nhpV nplV
 go_enter Tryz.func116,Tryz.ntmps116
 go_wp2_with (first
  | (go_at_call 190;go_must (refine(HUP.out q1 c1 w1 S1.out).mono ?_;rintro e w2 ⟨rfl,X',k1,k2,k3⟩;rw [set_two (fun e=>hne e.symm)] at k3;have K1:=Lib.hid k1;have K2:=Lib.hid k2;have S2:=Lib.hid k3;clear k1 k2 k3))
  | (go_at_call 365;go_must (refine(nHLen _ _ _ _ (by omega)).mono ?_;rintro e wl ⟨rfl,hw⟩;have hw:=hw.symm;subst hw))
  | (go_at_call 368;go_must (refine HPU.out.mono ?_;rintro e w1 ⟨rfl,q1,c1,T⟩;have b1:=(T.blk jb (HB.out q1 c1)).cell 0;have ML:=fun N hN=>nmLen gb _ w1 N hN b1;have S1:=Lib.hid T;clear T)))
 go_end0
 exact⟨rfl,q1,c1,X',K1.out,K2.out,S2.out⟩
theorem nHeapPop (gb:Nat) (q:Option Addr) (n c:Nat) (X:List (Int × Int)) (w w0:World) (Γ:List Pc) (jb j:Nat) (S:Sep w0 w Γ) (hb:Γ[jb]?=some (.blk gb 168 #[.slice q (n+1) c])) (hj:Γ[j]?=some (.own 105 2 q (n+1) c (encE X))) (hne:jb≠j) (hn:n≤90000) (hh:HeapN ltN (n+1) X) :
  Calls Tryz.prog 137 #[nhpV gb] w fun e w'=>e=.returned (nplV (nth X 0))∧∃ X':List (Int × Int),(nth X 0 :: X').Perm X∧HeapN ltN n X'∧Sep w0 w' ((Γ.set j (.own 105 2 q n c (encE X'))).set jb (.blk gb 168 #[.slice q n c])):=by
 have hnX:=(S.rd j hj (by omega)).nE
 have HNX:=Lib.hid hnX
 have b0:=(S.blk jb hb).cell 0
 have ML:=fun N hN=>nmLen gb _ w N hN b0
 have MS:=fun N hN=>nmSwap gb _ w N hN b0
 have MP:=fun W N hN=>nmPop gb W N hN
 have HSW:=Lib.hid (nHSwap q (n+1) c X 0 n w w0 Γ j S hj (by omega) (by omega) (by omega))
 have HDN:=Lib.hid (fun w1 S1=>nHDown gb q n (n+1) c (swapL X 0 n) w1 w0 (Γ.set j (.own 105 2 q (n+1) c (encE (swapL X 0 n)))) jb j S1 (by rw [List.getElem?_set_ne (fun e=>hne e.symm)];exact hb) (pc_set hj) hne (by omega) (by omega) (dn_start hnX.symm hh))
 have HPO:=Lib.hid (fun w2 Y S2=>nHPop gb q n c Y w2 w0 (Γ.set j (.own 105 2 q (n+1) c (encE Y))) jb j S2 (by rw [List.getElem?_set_ne (fun e=>hne e.symm)];exact hb) (pc_set hj) hne (by omega))
 have HN0:Hid (nth (swapL X 0 n) n=nth X 0):=by unfold Hid;rw [swapL_nth (by omega),if_pos rfl]
 have HPM:=Lib.hid (swapL_perm (X:=X) (i:=0) (j:=n) (by omega) (by omega))
 clear S hb hj hh hnX
 unfold nhpV
 go_enter Tryz.func137,Tryz.ntmps137
 go_wp2_with (first
  | (go_at_call 367;go_must (refine(HPO.out w2 X' S2.out).mono ?_;rintro e w3 ⟨rfl,T⟩;rw [List.set_set] at T;have S3:=Lib.hid T;clear T))
  | (go_at_call 203;go_must (refine(HDN.out w1 S1.out).mono ?_;rintro e w2 ⟨bb,rfl,X',k1,k2,k3,k4⟩;rw [List.set_set] at k4;have K1:=Lib.hid k1;have K2:=Lib.hid k2;have K3:=Lib.hid (k3 n (Nat.le_refl _) (by omega));have S2:=Lib.hid k4;clear k1 k2 k3 k4))
  | (go_at_call 369;go_must (refine HSW.out.mono ?_;rintro e w1 ⟨rfl,T⟩;have S1:=Lib.hid T;clear T))
  | (go_at_call 365;go_must (refine(nHLen _ _ _ _ (by omega)).mono ?_;rintro e wl ⟨rfl,hw⟩;have hw:=hw.symm;subst hw)))
 go_ret
 have e0:nth X' n=nth X 0:=K3.out.trans HN0.out
 refine⟨by rw [e0];rfl,X'.take n,?_,heap_take K2.out ?_,S3.out⟩
 ·exact pop_perm HNX.out.symm (K1.out.trans HPM.out) e0
 ·rw [K1.out.length_eq,HPM.out.length_eq,← HNX.out];omega
end
section
open Go Go.RowKit
attribute [local go_sem] Oper.semAt_some
def lenN:Value→Nat
 | .slice _ n _=>n
 | _=>0
theorem infNr:((Tryz.prog).info? 105).map (fun i=>(i.zero,i.size,i.bytes))=some (some (.agg #[.int .i64 0,.int .i64 0]),2,16):=by kernel_rfl
theorem NGath (gb:Nat) (q:Option Addr) (m c:Nat) (X:List (Int × Int)) (w w0:World) (S:Sep w0 w [.own 105 2 q m c (encE X),.blk gb 168 #[.slice q m c]]) (hm:m≤10000) (hh:HeapN ltN m X) (hnd:X.Nodup) :
  Calls Tryz.prog 117 #[nhpV gb] w fun e w'=>∃ ql cl,e=.returned (.slice ql (sortN X).length cl)∧Sep w0 w' [.own 105 2 ql (sortN X).length cl (encE (sortN X))]:=by
 obtain⟨i0,hi0,hz0,hz1,hz2⟩:=info_parts infNr
 have hmX:m=X.length:=(S.rdx 0 rfl).nE
 have HND:=Lib.hid hnd
 have HMX:=Lib.hid hmX
 have TA:=fun (x:Int × Int) W=>ntaPlace x.1 x.2 W
 unfold nhpV
 have SH:=Lib.hid S;clear S
 clear hmX hnd
 go_enter Tryz.func117,Tryz.ntmps117
 go_wp2
 go_loopw [3,4,5] (fun v3 _ _ wr=>∃ (out:List (Int × Int)) (ql:Option Addr) (cl m2:Nat) (q2:Option Addr) (c2:Nat) (Y:List (Int × Int)),v3=.slice ql out.length cl∧(out ++ Y).Perm X∧Rises ltN out∧(∀ a∈out,∀ b∈Y,ltN b a=false)∧HeapN ltN m2 Y∧Sep w0 wr [.own 105 2 ql out.length cl (encE out),.own 105 2 q2 m2 c2 (encE Y),.blk gb 168 #[.slice q2 m2 c2]]) (fun v3 _ _ _=>m - lenN v3)
 case atStart=>exact⟨[],none,0,m,q,c,X,rfl,List.Perm.refl _,List.Pairwise.nil,fun _ h=>(nomatch h),hh,(SH.out.nilrow 105 2).pick [0,1,2] (by decide) rfl⟩
 case round =>
  clear SH hh
  obtain⟨out,ql,cl,m2,q2,c2,Y,rfl,hp,hr,hle,hh,S⟩:=hrel
  have hmY:=(S.rdx 1 rfl).nE
  have hlen:out.length+m2=m:=by have:=hp.length_eq;rw [List.length_append] at this;have:=HMX.out;omega
  have b0:=(S.blk 2 rfl).cell 0
  have ML:=fun N hN=>nmLen gb _ wr N hN b0
  by_cases hm0:m2=0
  ·subst hm0
   have hY:Y=[]:=List.eq_nil_of_length_eq_zero hmY.symm
   subst hY
   rw [List.append_nil] at hp
   have HB:=Lib.hid (sortN_uniq HND.out hr hp)
   rw [HB.out] at S
   clear hp hr hle hh hlen hmY
   rw [HB.out]
   have SJ:=Lib.hid S;clear S
   go_wp2_with (go_at_call 365;go_must (refine(nHLen _ _ _ _ (by omega)).mono ?_;rintro e wl ⟨rfl,hw⟩;have hw:=hw.symm;subst hw))
   go_ret
   exact⟨ql,cl,rfl,SJ.out.pick [0] (by decide) rfl⟩
  ·obtain⟨m',rfl⟩:∃ m',m2=m'+1:=⟨m2 - 1,by omega⟩
   have d2:decide ((0:Int)<(m':Int)+1)=true:=by simp;try omega
   have hmin:=heap_min stoN hh
   have HPO:=Lib.hid (fun W (T:Sep w0 W [.own 105 2 ql out.length cl (encE out),.own 105 2 q2 (m'+1) c2 (encE Y),.blk gb 168 #[.slice q2 (m'+1) c2]])=>nHeapPop gb q2 m' c2 Y W w0 _ 2 1 T rfl rfl (by decide) (by omega) hh)
   unfold nhpV nplV at HPO
   have HRS:Hid (∀ Y',(nth Y 0 :: Y').Perm Y→((out ++ [nth Y 0]) ++ Y').Perm X∧Rises ltN (out ++ [nth Y 0])∧∀ a∈out ++ [nth Y 0],∀ b∈Y',ltN b a=false):=fun Y' h=>pops_rise stoN hp HND.out hr hle h fun b hb=>by
    obtain⟨i,hi,e⟩:=List.getElem_of_mem hb
    rw [← e,← nth_eq hi];exact hmin i (by omega)
   generalize nth Y 0=y at *
   clear hp hr hle hh hmin hmY hm0
   have SJ:=Lib.hid S;clear S
   go_wp2_with (first
    | (at_builtin;go_must (refine wpList_append_sep rfl _ _ _ rfl 105 i0 _ 2 16 Tryz.underlying32 hi0 hz0 hz1 hz2 rfl (by omega) ((S5.out.junk _).junk _) 0 ql out.length cl _ rfl rfl _ 1 1 _ rfl (Rd.newAt _ _ _ 1 2 _ (by simp) rfl (by omega)) (one_encE [y]) (by omega) (by omega) ?_;intro q6 c6 w6 S' hsz;have S6:=Lib.hid S';clear S' hsz))
    | (go_at_call 137;go_must (refine(HPO.out _ SJ.out).mono ?_;rintro e w5 ⟨rfl,Y',k1,k2,T⟩;have K1:=Lib.hid k1;have K2:=Lib.hid k2;have S5:=Lib.hid T;clear k1 k2 T))
    | (go_at_call 365;go_must (refine(nHLen _ _ _ _ (by omega)).mono ?_;rintro e wl ⟨rfl,hw⟩;have hw:=hw.symm;subst hw)))
   go_roundw
   case rel =>
    obtain⟨r1,r2,r3⟩:=HRS.out Y' K1.out
    exact⟨out ++ [y],q6,c6,m',q2,c2,Y',by rw [List.length_append];rfl,r1,r2,r3,K2.out,by rw [List.length_append,encE_append];exact S6.out⟩
   case measure=>simp [lenN];omega
end
section
open Go Go.RowKit
attribute [local go_sem] Oper.semAt_some
def nearC (ck:Bool) (O:List Int) (s:Int) (ws:List ByteArray) (rad:Int):Int:=if levC ck O s≠0 then levC ck O s else if ws.length=0∨rad<0 then 1 else 0
def nearR (ck:Bool) (O T R V:List Int) (s:Int) (L:List Po) (ws:List ByteArray) (rad:Int):List (Int × Int):=if nearC ck O s ws rad=0 then sortN (gatN (levR ck false O T R V s) rad (allX L ws)) else []
theorem allX_rises (L:List Po) (ws:List ByteArray):Rises ltI (allX L ws):=by
 unfold allX;split
 ·exact List.Pairwise.nil
 ·exact allS_rises L ws
theorem allX_nodup (L:List Po) (ws:List ByteArray):(allX L ws).Nodup:=(allX_rises L ws).imp fun {a b} h e=>by subst e;rw [stoI.irrefl] at h;cases h
theorem NHitsG (po : Option Addr) (no co : Nat) (O : List Int) (pt : Option Addr) (nt ct : Nat) (T : List Int) (pr : Option Addr) (nr cr : Nat) (R : List Int) (pv : Option Addr) (nv cv : Nat) (V : List Int) (pp : Option Addr) (np cp : Nat) (hs : List Hd) (L : List Po) (pw : Option Addr) (nw cw : Nat) (ws : List ByteArray) (s rad : Int) (w : World) (hO : Rd w 1 po no (encI O)) (hT : Rd w 1 pt nt (encI T)) (hR : Rd w 1 pr nr (encI R)) (hV : Rd w 1 pv nv (encI V)) (hct : nt ≤ ct) (hcv : nv ≤ cv) (hL : RdP w pp np hs L) (hok : PoOk L) (hW : Rd w 1 pw nw (encS ws)) (hcw : nw ≤ cw) (hnw : nw ≤ 100) :
    Calls Tryz.prog 69 #[.agg #[.slice po no co, .slice pt nt ct, .slice pr nr cr, .slice pv nv cv], .slice pp np cp, .int .i64 s, .slice pw nw cw, .int .i64 rad] w fun e w' => ∃ q c, e = .returned (.tuple #[.slice q (nearR (checkR O T R V) O T R V s L ws rad).length c, .int .i64 (nearC (checkR O T R V) O s ws rad)]) ∧ Sep w w' [.own 105 2 q (nearR (checkR O T R V) O T R V s L ws rad).length c (encE (nearR (checkR O T R V) O T R V s L ws rad))] := by
  have HLev := Lib.hid (fun W (h : Ext w W) => LevelsG po no co O pt nt ct T pr nr cr R pv nv cv V s false W (hO.ext h) (hT.ext h) (hR.ext h) (hV.ext h) hct hcv)
  have HAll := Lib.hid (fun W (h : Ext w W) => AllGx pp np cp hs L pw nw cw ws W (hL.ext h) hok (hW.ext h) hcw hnw)
  have S0 := Lib.hid ((Sep.start w).al #[.slice po no co, .slice pt nt ct, .slice pr nr cr, .slice pv nv cv] 27 w.heap.size rfl)
  have hwl := hW.nS
  have HPL := Lib.hid (allX_len hok ws)
  have HND := Lib.hid (fun d => gatN_nodup (d := d) (rad := rad) (allX_nodup L ws))
  have hlr : (levR (checkR O T R V) false O T R V s).length ≤ 9000000000 := by
    unfold levR
    split
    · rename_i h
      have hck : checkR O T R V = true := by
        cases h2 : checkR O T R V with
        | true => rfl
        | false => rw [h2] at h; simp [levC] at h
      have r := offB_parts (halfB_off (checkR_half hck).2.2.1)
      simp; omega
    · simp
  have HLR := Lib.hid hlr
  have hcx : ∀ c, levC (checkR O T R V) O s = c → nearC (checkR O T R V) O s ws rad = if c ≠ 0 then c else if ws.length = 0 ∨ rad < 0 then 1 else 0 := fun c h => by unfold nearC; rw [h]
  have hrx : nearR (checkR O T R V) O T R V s L ws rad = if nearC (checkR O T R V) O s ws rad = 0 then sortN (gatN (levR (checkR O T R V) false O T R V s) rad (allX L ws)) else [] := rfl
  clear hO hT hR hV hct hcv hL hok hW hcw hnw hlr
  obtain ⟨lc, hlc⟩ : ∃ lc, levC (checkR O T R V) O s = lc := ⟨_, rfl⟩
  have hcx2 := hcx lc hlc
  rw [hlc] at HLev
  clear hcx hlc
  generalize nearC (checkR O T R V) O s ws rad = nc at *
  generalize nearR (checkR O T R V) O T R V s L ws rad = nr' at *
  generalize levR (checkR O T R V) false O T R V s = d at *
  obtain ⟨cx, hcw2⟩ : ∃ cx, codeX ws = cx := ⟨_, rfl⟩
  have hcw3 : cx = if ws.length = 0 then 1 else 0 := by rw [← hcw2]; rfl
  rw [hcw2] at HAll
  clear hcw2 hwl
  generalize allX L ws = P at *
  by_cases h1 : lc = 0
  · rw [if_neg (by simpa using h1)] at hcx2
    have e1 : (lc != 0) = false := by simpa using h1
    by_cases h2 : ws.length = 0
    · rw [if_pos h2] at hcw3
      rw [if_pos (.inl h2)] at hcx2
      rw [hcx2, if_neg (by decide)] at hrx
      subst hcw3 hcx2 hrx
      clear h1 h2
      go_enter Tryz.func69, Tryz.ntmps69
      go_wp2_with (first | (go_at_call 115; have _t := S1; go_must (refine (HAll.out _ S1.out.ext).mono ?_; rintro e w2 ⟨q2, c2, rfl, Z⟩; have S2 := Lib.hid (S1.out.comp Z); clear Z)) | (go_at_call 114; go_must (refine (HLev.out _ S0.out.ext).mono ?_; rintro e w1 ⟨q1, c1, rfl, Z⟩; have S1 := Lib.hid (S0.out.comp Z); clear Z)))
      go_ret2
      exact ⟨none, 0, rfl, ((Sep.start w).call S2.out.ext).nilrow _ _⟩
    · rw [if_neg h2] at hcw3
      by_cases h3 : rad < 0
      · have e3 : decide (rad < 0) = true := by simpa using h3
        rw [if_pos (.inr h3)] at hcx2
        rw [hcx2, if_neg (by decide)] at hrx
        subst hcw3 hcx2 hrx
        clear h1 h2 h3
        go_enter Tryz.func69, Tryz.ntmps69
        go_wp2_with (first | (go_at_call 115; have _t := S1; go_must (refine (HAll.out _ S1.out.ext).mono ?_; rintro e w2 ⟨q2, c2, rfl, Z⟩; have S2 := Lib.hid (S1.out.comp Z); clear Z)) | (go_at_call 114; go_must (refine (HLev.out _ S0.out.ext).mono ?_; rintro e w1 ⟨q1, c1, rfl, Z⟩; have S1 := Lib.hid (S0.out.comp Z); clear Z)))
        go_ret2
        exact ⟨none, 0, rfl, ((Sep.start w).call S2.out.ext).nilrow _ _⟩
      · have e3 : decide (rad < 0) = false := by simpa using h3
        rw [if_neg (by rintro (h | h); · exact h2 h
                       · exact h3 h)] at hcx2
        rw [hcx2, if_pos rfl] at hrx
        subst hcw3 hcx2 hrx
        clear h1 h2 h3
        go_enter Tryz.func69, Tryz.ntmps69
        go_wp2_with (first | (go_at_call 115; have _t := S1; go_must (refine (HAll.out _ S1.out.ext).mono ?_; rintro e w2 ⟨q2, c2, rfl, Z⟩; have S2 := Lib.hid (S1.out.comp Z); clear Z)) | (go_at_call 114; go_must (refine (HLev.out _ S0.out.ext).mono ?_; rintro e w1 ⟨q1, c1, rfl, Z⟩; have S1 := Lib.hid (S0.out.comp Z); clear Z)))
        have S3 := Lib.hid (((S2.out.alrw #[] 105 2 0 w2.heap.size rfl (by decide) rfl).al #[.slice (some ⟨w2.heap.size, 0, none⟩) 0 0] 168 (w2.heap.size + 1) (by simp)).pick [1, 0, 2, 3] (by decide) rfl)
        generalize (w2.alloc (.cells #[] 105)).alloc (.cells #[.slice (some ⟨w2.heap.size, 0, none⟩) 0 0] 168) = w3 at *
        generalize hq0 : (some ⟨w2.heap.size, 0, none⟩ : Option Addr) = q0 at *
        generalize hgb : w2.heap.size + 1 = gb at *
        clear hq0 hgb S0 S1 S2 HLev HAll
        go_loopw [17, 43] (fun _ i wr => ∃ (k m : Nat) (q : Option Addr) (c : Nat) (X : List (Int × Int)), k ≤ P.length ∧ i = .int .i64 k ∧ X.Perm (gatN d rad (P.take k)) ∧ HeapN ltN m X ∧ Sep w wr [.own 105 2 q m c (encE X), .blk gb 168 #[.slice q m c], .own 3 1 q2 P.length c2 (encI P), .own 3 1 q1 d.length c1 (encI d)]) (fun _ i _ => P.length - (intOf i).toNat)
        case atStart => exact ⟨0, 0, q0, 0, [], Nat.zero_le _, rfl, by simp [gatN], fun i h0 h1 => by omega, S3.out⟩
        case round =>
          clear S3
          obtain ⟨k, m, q, c, X, hk, rfl, hp, hh, S⟩ := hrel
          have hmX := (S.rdx 0 rfl).nE
          have hgl := gatN_len d rad (P.take k)
          have hpl := hp.length_eq
          have hm1 : m ≤ 1000 := by rw [List.length_take] at hgl; have := HPL.out; omega
          have pP := (S.rd 2 rfl (by have := HPL.out; omega)).ptr
          clear hgl hpl hmX
          have hP1 := HPL.out
          by_cases hlt : k < P.length
          · have d1 : (0:Int) ≤ k := by omega
            have d2 : (k:Int) < P.length := by omega
            have g1 := (S.rd 2 rfl (by have := HPL.out; omega)).cI hlt
            have HST := Lib.hid (gatN_take d rad hlt)
            have HGI := Lib.hid (goodN_iff (d := d) (rad := rad) (v := nth P k))
            have RD := Lib.hid (S.rd 3 rfl (by have := HLR.out; omega))
            have pD := RD.out.ptr
            generalize nth P k = v at *
            generalize gatN d rad (P.take k) = G at *
            have HP := Lib.hid hp
            have HH := Lib.hid hh
            clear hp hh
            by_cases a1 : 0 ≤ v
            · have k1 : decide (0 ≤ v) = true := by simpa using a1
              by_cases a2 : v < d.length
              · have k2 : decide (v < d.length) = true := by simpa using a2
                obtain ⟨u, rfl⟩ : ∃ u : Nat, v = u := ⟨v.toNat, by omega⟩
                have g2 := RD.out.cI (k := u) (by omega)
                rw [Int.toNat_natCast] at HGI
                have HX : Hid (hitN d (u:Int) = ((u:Int), nth d u)) := by unfold Hid hitN; rw [Int.toNat_natCast]
                generalize nth d u = x at *
                have k2n : decide (u < d.length) = true := by simp; omega
                by_cases a3 : 0 ≤ x
                · have k3 : decide (0 ≤ x) = true := by simpa using a3
                  by_cases a4 : x ≤ rad
                  · have k4 : decide (x ≤ rad) = true := by simpa using a4
                    have hg : goodN d rad (u:Int) = true := HGI.out.2 ⟨a1, a2, a3, a4⟩
                    rw [if_pos hg, HX.out] at HST
                    have HPU := Lib.hid (nHeapPush gb q m c X ((u:Int), x) wr w _ 1 0 S rfl rfl (by decide) (by omega) HH.out)
                    unfold nhpV nplV at HPU
                    have SH := Lib.hid S; clear S
                    clear a3 a4 hg HGI HX RD
                    go_wp2_with (go_at_call 116; go_must (refine HPU.out.mono ?_; rintro e w5 ⟨rfl, q', c', X', k1, k2, T⟩; have K1 := Lib.hid k1; have K2 := Lib.hid k2; have S5 := Lib.hid T; clear k1 k2 T))
                    go_roundw
                    case rel => exact ⟨k + 1, m + 1, q', c', X', by omega, by go_num, by rw [HST.out]; exact K1.out.trans (HP.out.append_right _), K2.out, S5.out⟩
                    case measure => simp [intOf]; omega
                  · have k4 : decide (x ≤ rad) = false := by simpa using a4
                    rw [if_neg fun h => a4 (HGI.out.1 h).2.2.2] at HST
                    have SH := Lib.hid S; clear S
                    clear a3 a4 HGI HX RD
                    go_wp2
                    go_roundw
                    case rel => exact ⟨k + 1, m, q, c, X, by omega, by go_num, by rw [HST.out]; exact HP.out, HH.out, SH.out⟩
                    case measure => simp [intOf]; omega
                · have k3 : decide (0 ≤ x) = false := by simpa using a3
                  rw [if_neg fun h => a3 (HGI.out.1 h).2.2.1] at HST
                  have SH := Lib.hid S; clear S
                  clear a3 HGI HX RD
                  go_wp2
                  go_roundw
                  case rel => exact ⟨k + 1, m, q, c, X, by omega, by go_num, by rw [HST.out]; exact HP.out, HH.out, SH.out⟩
                  case measure => simp [intOf]; omega
              · have k2 : decide (v < d.length) = false := by simpa using a2
                rw [if_neg fun h => a2 (HGI.out.1 h).2.1] at HST
                have SH := Lib.hid S; clear S
                clear a2 HGI RD
                go_wp2
                go_roundw
                case rel => exact ⟨k + 1, m, q, c, X, by omega, by go_num, by rw [HST.out]; exact HP.out, HH.out, SH.out⟩
                case measure => simp [intOf]; omega
            · have k1 : decide (0 ≤ v) = false := by simpa using a1
              rw [if_neg fun h => a1 (HGI.out.1 h).1] at HST
              have SH := Lib.hid S; clear S
              clear a1 HGI RD
              go_wp2
              go_roundw
              case rel => exact ⟨k + 1, m, q, c, X, by omega, by go_num, by rw [HST.out]; exact HP.out, HH.out, SH.out⟩
              case measure => simp [intOf]; omega
          · have hkP : k = P.length := by omega
            rw [List.take_of_length_le (by omega)] at hp
            have hnX : X.Nodup := hp.nodup_iff.2 (HND.out d)
            have HE := Lib.hid (sortN_uniq (HND.out d) (sortN_rises X hnX) ((sortN_perm X).trans hp))
            have HGA := Lib.hid (NGath gb q m c X wr w (S.pick [0, 1] (by decide) rfl) (by omega) hh hnX)
            rw [HE.out] at HGA
            unfold nhpV at HGA
            have d2 : decide ((k:Int) < P.length) = false := by simp; omega
            have d2n : decide (k < P.length) = false := by simp; omega
            have SH := Lib.hid S; clear S
            clear hp hh hnX hkP hlt
            go_wp2_with (go_at_call 117; go_must (refine HGA.out.mono ?_; rintro e w5 ⟨ql, cl, rfl, T⟩; have S5 := Lib.hid T; clear T))
            go_ret2
            exact ⟨ql, cl, rfl, S5.out⟩
  · rw [if_pos h1] at hcx2
    have e1 : (lc != 0) = true := by simpa using h1
    rw [hcx2, if_neg h1] at hrx
    subst hcx2 hrx
    clear h1
    go_enter Tryz.func69, Tryz.ntmps69
    go_wp2_with (first | (go_at_call 115; have _t := S1; go_must (refine (HAll.out _ S1.out.ext).mono ?_; rintro e w2 ⟨q2, c2, rfl, Z⟩; have S2 := Lib.hid (S1.out.comp Z); clear Z)) | (go_at_call 114; go_must (refine (HLev.out _ S0.out.ext).mono ?_; rintro e w1 ⟨q1, c1, rfl, Z⟩; have S1 := Lib.hid (S0.out.comp Z); clear Z)))
    go_ret2
    exact ⟨none, 0, rfl, ((Sep.start w).call S1.out.ext).nilrow _ _⟩
end
section
open Go Go.RowKit
theorem nearR_len {ck:Bool} {O T R V:List Int} {s:Int} {L:List Po} {ws:List ByteArray} {rad:Int} (hok:PoOk L):(nearR ck O T R V s L ws rad).length≤1000:=by
 unfold nearR
 split
 ·rw [sortN_len]
  exact Nat.le_trans (gatN_len ..) (allX_len hok ws)
 ·simp
end
section
open Go Go.RowKit
attribute [local go_sem ↓] eqHit9 neqHit9 guardHit9
def e9E:List (Int × Int):=[(0,1),(1,2)]
def e9O:List Int:=[0,1,2,2]
def e9T:List Int:=[1,2]
def e9R:List Int:=[0,0,1,2]
def e9V:List Int:=[0,1]
theorem e9I:isB 3 e9E [[],[],[]]=true:=by decide +kernel
theorem e9O_eq:offL 3 e9E=e9O:=by decide +kernel
theorem e9T_eq:toL e9E=e9T:=by decide +kernel
theorem e9R_eq:offL 3 (turnE e9E)=e9R:=by decide +kernel
theorem e9V_eq:toL (turnE e9E)=e9V:=by decide +kernel
theorem e9Cells:(#[.int .i64 0,.int .i64 1,.int .i64 1,.int .i64 2]:Array Value).toList=encE e9E:=by simp [encE,e9E]
theorem made3n:(madeCells (Value.slice none 0 0).cells (3*1)).toList=[.slice none 0 0,.slice none 0 0,.slice none 0 0]:=by kernel_rfl
theorem e9Mk (p q:Option Addr) (W:World) (h1:Rd W 2 p 2 (encE e9E)) (h0:Rd W 1 q 3 [.slice none 0 0,.slice none 0 0,.slice none 0 0]):Calls Tryz.prog 57 #[.agg #[.int .i64 3,.slice p 2 2,.slice q 3 3]] W fun e w' =>
  ∃ po no co pt nt ct pr nr cr pv nv cv,e=.returned (.tuple #[.agg #[.slice po no co,.slice pt nt ct,.slice pr nr cr,.slice pv nv cv],.int .i64 0])∧R4 w' po no pt nt pr nr pv nv e9O e9T e9R e9V∧nt≤ct∧nv≤cv∧Ext W w':=by
 have h2:RdW W q 3 [⟨none,0,0⟩,⟨none,0,0⟩,⟨none,0,0⟩] [[],[],[]]:=⟨rfl,h0,fun j hj=>by
  have:j=0∨j=1∨j=2:=by omega
  rcases this with rfl | rfl | rfl <;> exact Rd.nil _ _ _⟩
 have hz:SzW [[],[],[]]:=fun l hl s hs=>by simp at hl;subst hl;cases hs
 refine(RMakeG_yes 3 _ 2 2 _ 3 3 e9E _ _ W h1 h2 hz e9I).mono ?_
 rintro e w' ⟨v,rfl,⟨po,no,co,pt,nt,ct,pr,nr,cr,pv,nv,cv,rfl,k1,k2,k3,k4,k5,k6,k7,k8⟩,hb⟩
 rw [e9O_eq] at k1
 rw [e9T_eq] at k2
 rw [e9R_eq] at k3
 rw [e9V_eq] at k4
 exact⟨po,no,co,pt,nt,ct,pr,nr,cr,pv,nv,cv,rfl,⟨k1,k2,k3,k4⟩,k6,k8,hb⟩
theorem rdp1 {w:World} {p q:Option Addr} {n c:Nat} {s:ByteArray} {l:List Int} (h1:Rd w 2 p 1 [.string s,.slice q n c]) (h2:Rd w 1 q n (encI l)):RdP w p 1 [⟨q,n,c⟩] [(s,l)]:=by
 refine⟨rfl,.inr (h1.ptr.resolve_left (by decide)),by decide,fun k hk=>?_,fun k hk=>?_,fun k hk=>?_⟩
 ·obtain rfl:k=0:=by omega
  exact h1.cells 0 (by decide)
 ·obtain rfl:k=0:=by omega
  exact h1.cells 1 (by decide)
 ·obtain rfl:k=0:=by omega
  exact h2
end
section
open Go Go.RowKit
theorem e20Ok:PoOk [((⟨#[97]⟩:ByteArray),[2])]:=fun p hp=>by
 simp at hp;subst hp
 exact⟨by decide,fun x hx=>by simp at hx;subst hx;unfold I64;decide⟩
theorem e20a (po:Option Addr) (no co:Nat) (pt:Option Addr) (nt ct:Nat) (pr:Option Addr) (nr cr:Nat) (pv:Option Addr) (nv cv:Nat) (hct:nt≤ct) (hcv:nv≤cv) (pp:Option Addr) (hs:List Hd) (w:World) (h:R4 w po no pt nt pr nr pv nv e9O e9T e9R e9V) (hL:RdP w pp 1 hs [(⟨#[97]⟩,[2])]):Calls Tryz.prog 17 #[.agg #[.int .i64 1,.int .i64 0,.int .i64 2,.slice none 0 0,.int .i64 0,.int .i64 0],.agg #[.slice po no co,.slice pt nt ct,.slice pr nr cr,.slice pv nv cv],.slice pp 1 1,.int .i64 2,.int .i64 5,.slice none 0 0] w fun x w'=>∃ q c,x=.returned (.tuple #[.agg #[.bool true,.int .i64 2,.slice q 0 c],.int .i64 2,.int .i64 0])∧Sep w w' [.own 105 2 q 0 c (encE [])]:=by
 have hno:=h.o.nI
 refine(RunG 1 0 2 none 0 0 [] 0 0 po no co e9O pt nt ct e9T pr nr cr e9R pv nv cv e9V pp 1 1 hs _ 2 5 none 0 0 [] w h.o h.t h.r h.v hct hcv hL (Rd.nil _ _ _) (Rd.nil _ _ _) (by rw [hno];decide) (fun s hs=>by cases hs) (by decide) (by unfold I64;decide) (by decide) (by decide) e20Ok).mono ?_
 rintro x w' ⟨b,d,F,n,e,h1,q,c,rfl,S⟩
 obtain⟨rfl,rfl,rfl,rfl,rfl⟩:=cl_run1 h1
 exact⟨q,c,rfl,S⟩
theorem e20b (po:Option Addr) (no co:Nat) (pt:Option Addr) (nt ct:Nat) (pr:Option Addr) (nr cr:Nat) (pv:Option Addr) (nv cv:Nat) (hct:nt≤ct) (hcv:nv≤cv) (pp:Option Addr) (hs:List Hd) (w:World) (h:R4 w po no pt nt pr nr pv nv e9O e9T e9R e9V) (hL:RdP w pp 1 hs [(⟨#[97]⟩,[2])]):Calls Tryz.prog 17 #[.agg #[.int .i64 1,.int .i64 2,.int .i64 0,.slice none 0 0,.int .i64 0,.int .i64 0],.agg #[.slice po no co,.slice pt nt ct,.slice pr nr cr,.slice pv nv cv],.slice pp 1 1,.int .i64 2,.int .i64 5,.slice none 0 0] w fun x w'=>∃ d q m c,x=.returned (.tuple #[.agg #[.bool false,.int .i64 d,.slice q m c],.int .i64 1,.int .i64 0])∧Ext w w':=by
 have hno:=h.o.nI
 refine(RunG 1 2 0 none 0 0 [] 0 0 po no co e9O pt nt ct e9T pr nr cr e9R pv nv cv e9V pp 1 1 hs _ 2 5 none 0 0 [] w h.o h.t h.r h.v hct hcv hL (Rd.nil _ _ _) (Rd.nil _ _ _) (by rw [hno];decide) (fun s hs=>by cases hs) (by decide) (by unfold I64;decide) (by decide) (by decide) e20Ok).mono ?_
 rintro x w' ⟨b,d,F,n,e,h1,q,c,rfl,S⟩
 obtain⟨rfl,rfl,rfl⟩:=cl_run2 h1
 exact⟨d,q,_,c,rfl,S.ext⟩
theorem e20c (po:Option Addr) (no co:Nat) (pt:Option Addr) (nt ct:Nat) (pr:Option Addr) (nr cr:Nat) (pv:Option Addr) (nv cv:Nat) (hct:nt≤ct) (hcv:nv≤cv) (pp:Option Addr) (hs:List Hd) (w:World) (h:R4 w po no pt nt pr nr pv nv e9O e9T e9R e9V) (hL:RdP w pp 1 hs [(⟨#[97]⟩,[2])]) (pw:Option Addr) (hW:Rd w 1 pw 1 (encS [⟨#[97]⟩])):Calls Tryz.prog 17 #[.agg #[.int .i64 3,.int .i64 0,.int .i64 0,.slice pw 1 1,.int .i64 2,.int .i64 5],.agg #[.slice po no co,.slice pt nt ct,.slice pr nr cr,.slice pv nv cv],.slice pp 1 1,.int .i64 2,.int .i64 5,.slice none 0 0] w fun x w'=>∃ d q c,x=.returned (.tuple #[.agg #[.bool true,.int .i64 d,.slice q 1 c],.int .i64 3,.int .i64 0])∧Sep w w' [.own 105 2 q 1 c (encE [(2,2)])]:=by
 have hno:=h.o.nI
 refine(RunG 3 0 0 pw 1 1 [⟨#[97]⟩] 2 5 po no co e9O pt nt ct e9T pr nr cr e9R pv nv cv e9V pp 1 1 hs _ 2 5 none 0 0 [] w h.o h.t h.r h.v hct hcv hL hW (Rd.nil _ _ _) (by rw [hno];decide) (fun s hs=>by simp at hs;subst hs;decide) (by decide) (by unfold I64;decide) (by decide) (by decide) e20Ok).mono ?_
 rintro x w' ⟨b,d,F,n,e,h1,q,c,rfl,S⟩
 obtain⟨rfl,rfl,rfl,rfl⟩:=cl_run3 h1
 exact⟨d,q,c,rfl,S⟩
theorem e20d (po:Option Addr) (no co:Nat) (pt:Option Addr) (nt ct:Nat) (pr:Option Addr) (nr cr:Nat) (pv:Option Addr) (nv cv:Nat) (hct:nt≤ct) (hcv:nv≤cv) (pp:Option Addr) (hs:List Hd) (w:World) (h:R4 w po no pt nt pr nr pv nv e9O e9T e9R e9V) (hL:RdP w pp 1 hs [(⟨#[97]⟩,[2])]):Calls Tryz.prog 17 #[.agg #[.int .i64 2,.int .i64 0,.int .i64 2,.slice none 0 0,.int .i64 0,.int .i64 0],.agg #[.slice po no co,.slice pt nt ct,.slice pr nr cr,.slice pv nv cv],.slice pp 1 1,.int .i64 2,.int .i64 2,.slice none 0 0] w fun x w'=>∃ b d q m c n,x=.returned (.tuple #[.agg #[.bool b,.int .i64 d,.slice q m c],.int .i64 n,.int .i64 251])∧Ext w w':=by
 have hno:=h.o.nI
 refine(RunG 2 0 2 none 0 0 [] 0 0 po no co e9O pt nt ct e9T pr nr cr e9R pv nv cv e9V pp 1 1 hs _ 2 2 none 0 0 [] w h.o h.t h.r h.v hct hcv hL (Rd.nil _ _ _) (Rd.nil _ _ _) (by rw [hno];decide) (fun s hs=>by cases hs) (by decide) (by unfold I64;decide) (by decide) (by decide) e20Ok).mono ?_
 rintro x w' ⟨b,d,F,n,e,h1,q,c,rfl,S⟩
 obtain rfl:=cl_run4 h1
 exact⟨b,d,q,_,c,n,rfl,S.ext⟩
end
section
open Go Go.RowKit
attribute [local go_sem ↓] eqHit9 neqHit9 guardHit9
theorem Jobs20 (w:World):Calls Tryz.prog 19 #[] w fun e w'=>e=.returned (.bool true)∧Ext w w':=by
 obtain⟨i0,hi0,hz0,hz1,hz2⟩:=info_parts inf35
 have SE:Hid (Sep w (w.alloc (.cells #[.int .i64 0,.int .i64 1,.int .i64 1,.int .i64 2] 98)) [.own 98 2 (some ⟨w.heap.size,0,none⟩) 2 2 (encE e9E)]):=by
  have h:=(Sep.start w).alrow #[.int .i64 0,.int .i64 1,.int .i64 1,.int .i64 2] 98 2 2 w.heap.size rfl (by decide) rfl
  rw [e9Cells] at h
  exact h
 have HQ:Hid ((w.alloc (.cells #[.int .i64 0,.int .i64 1,.int .i64 1,.int .i64 2] 98)).heap.size=w.heap.size+1):=by unfold Hid;simp
 go_enter Tryz.func19,Tryz.ntmps19
 go_wp2_with (first
  | (at_make;go_must (refine wpList_make_sep rfl _ _ _ rfl 22 i0 _ 1 Tryz.underlying100 hi0 hz0 hz1 (3:Int) 3 rfl rfl rfl (by rw [hz2];omega) (by unfold maxLen;omega) SE.out ?_;intro w0 S';rw [made3n,HQ.out] at S';have S0:=Lib.hid S';clear S'))
  | (go_at_call 57;go_must (refine(e9Mk _ _ _ (S0.out.rd 1 rfl (by decide)) (S0.out.rd 0 rfl (by decide))).mono ?_;rintro e w1 ⟨po,no,co,pt,nt,ct,pr,nr,cr,pv,nv,cv,rfl,hr,hct,hcv,hb⟩;have E1:=Lib.hid (Ext.trans S0.out.ext hb);have HR:=Lib.hid hr;have S1:=Lib.hid ((Sep.start w1).al #[.slice po no co,.slice pt nt ct,.slice pr nr cr,.slice pv nv cv] 27 w1.heap.size rfl);clear hb hr)))
 have S2:=Lib.hid ((S1.out.alrow #[.int .i64 2] 3 1 1 (w1.heap.size+1) (by simp) (by decide) rfl).alrow #[.string ⟨#[97]⟩,.slice (some ⟨w1.heap.size+1,0,none⟩) 1 1] 78 2 1 (w1.heap.size+1+1) (by simp) (by decide) rfl)
 have hEq:eqE ((2:Int),(2:Int)) (2,2)=true:=by decide
 go_wp2_with (first
  | (go_at_call 58;go_must (have S8:=Lib.hid (S7.out.alrow #[.int .i64 2,.int .i64 2] 105 2 1 (w5.heap.size+1) (by simp) (by decide) rfl);refine(HitsY9 _ _ 1 1 _ _ [(2,2)] _ (S8.out.rdx 3 rfl) (S8.out.rdx 0 rfl)).mono ?_;rintro e w6 ⟨rfl,hb⟩;have S9:=Lib.hid (S8.out.call hb);clear hb))
  | (go_at_call 17;have _t:=S6;go_must (refine(e20d po no co pt nt ct pr nr cr pv nv cv hct hcv _ _ _ (HR.out.ext S6.out.ext) (rdp1 (S6.out.rdx 6 rfl) (S6.out.rdx 7 rfl))).mono ?_;rintro e w5 ⟨b5,d5,q5,m5,c5,n5,rfl,hb⟩;have S7:=Lib.hid ((S6.out.call hb).al #[.bool b5,.int .i64 d5,.slice q5 m5 c5] 34 w5.heap.size rfl);obtain⟨iz,i0,i1,i2⟩:=bklc0c1c2 (S7.out.blk 5 rfl);obtain⟨jz,j0,j1,j2⟩:=bklc0c1c2 (S7.out.blk 4 rfl);obtain⟨lz,l0,l1,l2⟩:=bklc0c1c2 (S7.out.blk 1 rfl);clear hb))
  | (go_at_call 17;have _t:=S5;go_must (refine(e20c po no co pt nt ct pr nr cr pv nv cv hct hcv _ _ _ (HR.out.ext S5.out.ext) (rdp1 (S5.out.rdx 4 rfl) (S5.out.rdx 5 rfl)) _ (S5.out.rdx 0 rfl)).mono ?_;rintro e w4 ⟨d4,q4,c4,rfl,Z⟩;have S6:=Lib.hid ((S5.out.comp Z).al #[.bool true,.int .i64 d4,.slice q4 1 c4] 34 w4.heap.size rfl);obtain⟨cz,c0,c1,c2,c3⟩:=bklc0c1c2c3 (S6.out.blk 8 rfl);clear Z))
  | (go_at_call 17;have _t:=S3;go_must (refine(e20b po no co pt nt ct pr nr cr pv nv cv hct hcv _ _ _ (HR.out.ext S3.out.ext) (rdp1 (S3.out.rdx 2 rfl) (S3.out.rdx 3 rfl))).mono ?_;rintro e w3 ⟨d3,q3,m3,c3,rfl,hb⟩;have S4:=Lib.hid ((S3.out.call hb).al #[.bool false,.int .i64 d3,.slice q3 m3 c3] 34 w3.heap.size rfl);have S5:=Lib.hid (S4.out.alrow #[.string ⟨#[97]⟩] 9 1 1 (w3.heap.size+1) (by simp) (by decide) rfl);obtain⟨bz,b0,b1,b2,b3⟩:=bklc0c1c2c3 (S5.out.blk 6 rfl);clear hb))
  | (go_at_call 17;go_must (refine(e20a po no co pt nt ct pr nr cr pv nv cv hct hcv _ _ _ (HR.out.ext S2.out.ext) (rdp1 (S2.out.rdx 0 rfl) (S2.out.rdx 1 rfl))).mono ?_;rintro e w2 ⟨q2,c2,rfl,Z⟩;have S3:=Lib.hid ((S2.out.comp Z).al #[.bool true,.int .i64 2,.slice q2 0 c2] 34 w2.heap.size rfl);obtain⟨az,a0,a1,a2,a3⟩:=bklc0c1c2c3 (S3.out.blk 4 rfl);clear Z)))
 go_ret
 exact⟨rfl,Ext.trans E1.out S9.out.ext⟩
end
section
open Go Go.RowKit
theorem jobFacts (k f t:Int) (pw:Option Addr) (nw cw:Nat) (ws:List ByteArray) (rad most:Int) {O T R V:List Int} {L:List Po} {np:Nat} (_:pw=pw) (_:nw=nw) (_:cw=cw) (_:k=k) (_:f=f) (_:t=t) (_:rad=rad) (_:most=most) (h:farJ ws O T R V L np=false) (hLI:∀ q∈L,∀ x∈q.2,I64 x) :
  ws.length≤20∧(∀ s∈ws,s.size≤1000000)∧O.length≤30∧PoOk L∧np≤60:=by
 obtain⟨h1,h2,h3,h4,h5⟩:=farJ_no h
 obtain⟨w1,w2⟩:=bigQ_no h1
 exact⟨w1,fun s hs=>Nat.le_trans (w2 s hs) (by omega),h3,poOk_of h4 hLI,h5⟩
end
section
open Go Go.RowKit Go.Maps Go.WideElems
def kiV (x:Ky):Value:=if x.r=0∧x.v=0 then .int .i64 x.s else .agg #[.int .i64 x.s,.int .i64 x.r,.int .i64 x.v]
def kiO (x:Ky):Prop:=x.r=0∧x.v=0∧I64 x.s
theorem ki_inj {x y:Ky} (h:kiV x=kiV y):x=y:=by
 obtain⟨a,b,c⟩:=x
 obtain⟨a',b',c'⟩:=y
 unfold kiV at h
 simp only at h
 split at h
 ·rename_i h1
  split at h
  ·rename_i h2
   injection h with _ h
   obtain⟨rfl,rfl⟩:=h1
   obtain⟨rfl,rfl⟩:=h2
   rw [h]
  ·cases h
 ·split at h
  ·cases h
  ·injection h with h
   simp at h
   obtain⟨rfl,rfl,rfl⟩:=h
   rfl
def keyI (P:Program) (k:TypeId) (hk:P.underlying k=some (.int .i64)):KeyS P k where
 val:=kiV
 lit x:=.int .i64 x.s
 ok:=kiO
 law:=int_keyed hk
 of:=by
  rintro x ⟨h1,h2,h3⟩
  unfold kiV
  rw [if_pos ⟨h1,h2⟩]
  exact key_of hk h3
 inv:=by
  intro v l h
  obtain⟨z,h1,h3,h4⟩:=keyOf_int_inv hk h
  exact⟨⟨z,0,0⟩,by rw [h1];rfl,h3,rfl,rfl,h4⟩
 injL:=by
  rintro⟨a,b,c⟩ ⟨a',b',c'⟩ ⟨h1,h2,_⟩ ⟨h3,h4,_⟩ h
  simp only at h1 h2 h3 h4
  injection h with _ h
  simp only at h
  subst h1 h2 h3 h4 h
  rfl
 injV:=ki_inj
def valF:Option Nat→Value
 | some n=>.func (.func n) #[] #[]
 | none=>.nilFunc
def datF:Option Nat→DataW Unit
 | some n=>.lit (.int .i64 n)
 | none=>.lit (.bool false)
def readF:Value→Option (DataW Unit × List MemPlace)
 | .func (.func n) ⟨[]⟩ ⟨[]⟩=>some (.lit (.int .i64 n),[])
 | .nilFunc=>some (.lit (.bool false),[])
 | _=>none
theorem readF_inv (u:Value) (y:DataW Unit × List MemPlace) (h:readF u=some y):∃ v:Option Nat,u=valF v:=by
 unfold readF at h
 split at h
 ·exact⟨some _,rfl⟩
 ·exact⟨none,rfl⟩
 ·cases h
def elmF (P:Program) (e:TypeId) (hz:∀ w,(zeroValue e).run P w=.ok .nilFunc w):ElmR P e (Option Nat) :=
 ⟨readF,valF,datF,none,fun v=>by cases v <;> rfl,readF_inv,fun v v' h=>by
  cases v <;> cases v' <;> simp [datF] at h ⊢
  omega,hz⟩
theorem wpList_insert_sepK {P:Program} {k e:TypeId} {β:Type} {K:KeyS P k} {E:ElmR P e β} {b n:Nat} {f:Ky→Option β} {w0 w:World} {Γ:List Pc} {ops:Array Oper} {rest:List Oper} {o:Oper} {a:Act} {Q:Exit→Act→World→Prop}
  (hg:o.guard=none) (m x v:Operand) (t:TypeId) (hop:o.op=Op.insert t m x v) (ht:P.underlying t=some (.map k e))
  (hm:a.eval m=.map (some b)) (S:Sep w0 w Γ) (j:Nat) (hj:Γ[j]?=some (.mapK K E b n f)) (hn:n<140737488355328) (kx:Ky) (u:β) (hx:a.eval x=K.val kx) (hv:a.eval v=E.val u) (hi:K.ok kx)
  (hK:∀ w',Sep w0 w' (Γ.set j (.mapK K E b (n+1) (upK f kx u)))→w.grownBy w' (some b)→wpList P ops Q rest (a.put o.dst undef) w') :
  wpList P ops Q (o :: rest) a w:=by
 refine wpList_plain hg fun K' hK'=>?_
 obtain⟨w',hrun,r1,r2⟩:=MapK.update (S.all _ (List.mem_of_getElem? hj)) ht hn hi u
 unfold Oper.wp
 simp [execOp,hop,hm,hx,hv,hrun,Result.andThen]
 exact hK' _ _ (hK w' (S.put j hj _ r2 (fun i hi=>by injection hi with hi;exact hi.symm) r1 (fun i hi=>.inl hi)) r2)
end
section
open Go Go.RowKit
theorem zeroFq (w:World):(zeroValue 171).run Tryz.prog w=.ok .nilFunc w:=by simp [go_sem]
noncomputable def EF20:ElmR Tryz.prog 171 (Option Nat):=elmF Tryz.prog 171 zeroFq
def AnsQ (b:Bool) (d:Int) (F:List (Int × Int)) (e:Int) (w:World) (x:Ending) (w':World):Prop:=∃ q c',x=.returned (.tuple #[.agg #[.bool b,.int .i64 d,.slice q F.length c'],.int .i64 e])∧Sep w w' [.own 105 2 q F.length c' (encE F)]
theorem ansQ_nil {b:Bool} {d e:Int} {w w':World} {x:Ending} (h:x=.returned (.tuple #[.agg #[.bool b,.int .i64 d,.slice none 0 0],.int .i64 e])) (hE:Ext w w'):AnsQ b d [] e w x w':=⟨none,0,h,((Sep.start w).call hE).nilrow _ _⟩
theorem eqFnSome (fn:Fn) (a b:Array Value) (w:World):(binOp .eql 119 (.func fn a b) .nilFunc).run Tryz.prog w=.ok (.bool false) w:=by
 simp only [binOp,Op.equal,Op.maxDepth]
 unfold Op.equalIn
 simp [go_sem]
theorem eqFnNone (w:World):(binOp .eql 119 .nilFunc .nilFunc).run Tryz.prog w=.ok (.bool true) w:=by
 simp only [binOp,Op.equal,Op.maxDepth]
 unfold Op.equalIn
 simp [go_sem]
theorem guardFnSome (op:BinOp) (x y:Operand) (fn:Fn) (a b:Array Value) (w:World):(eqGuard op 119 x y (.func fn a b) .nilFunc).run Tryz.prog w=.ok () w:=by
 cases op <;> simp [eqGuard,go_sem]
theorem guardFnNone (op:BinOp) (x y:Operand) (w:World):(eqGuard op 119 x y .nilFunc .nilFunc).run Tryz.prog w=.ok () w:=by
 cases op <;> simp [eqGuard,go_sem]
attribute [local go_sem ↓] eqFnSome eqFnNone guardFnSome guardFnNone
theorem distA (k f t:Int) (pw:Option Addr) (nw cw:Nat) (rad most:Int) (gb:Nat) (gl:Nat) (b:Bool) (d ec:Int) (w:World) (HF:∀ W,Ext w W→Calls Tryz.prog 66 #[.int .i64 f,.int .i64 t,.pointer (some ⟨gb,0,none⟩)] W fun e w'=>e=.returned (.tuple #[.int .i64 d,.bool b,.int .i64 ec])∧Ext W w'):Calls Tryz.prog 118 #[.agg #[.int .i64 k,.int .i64 f,.int .i64 t,.slice pw nw cw,.int .i64 rad,.int .i64 most,.func (.func 66) #[] #[.pointer (some ⟨gb,0,none⟩)],(.func (.func 68) #[] #[.pointer (some ⟨gb,0,none⟩),.pointer (some ⟨gl,0,none⟩)])]] w (AnsQ b d [] ec w):=by
 have S0:=Lib.hid (((Sep.start w).al #[.int .i64 k,.int .i64 f,.int .i64 t,.slice pw nw cw,.int .i64 rad,.int .i64 most,.func (.func 66) #[] #[.pointer (some ⟨gb,0,none⟩)],(.func (.func 68) #[] #[.pointer (some ⟨gb,0,none⟩),.pointer (some ⟨gl,0,none⟩)])] 121 w.heap.size rfl).al #[.bool false,.int .i64 0,.slice none 0 0] 34 (w.heap.size+1) (by simp))
 have HFF:=Lib.hid HF
 clear HF
 go_enter Tryz.func118,Tryz.ntmps118
 go_wp2_with (go_at_call 66;go_must (refine(HFF.out _ S0.out.ext).mono ?_;rintro e w1 ⟨rfl,hb⟩;have S1:=Lib.hid (S0.out.call hb);obtain⟨y0,y1,y2,yz,f0,f1,f2⟩:=bkc0c1c2lz0z1z2 (S1.out.blk 0 rfl);clear hb))
 have S9:=Lib.hid (((S1.out.set 0 rfl 0 (.bool b)).set 0 rfl 1 (.int .i64 d)).set 0 rfl 2 (.slice none 0 0))
 obtain⟨x0,x1,x2⟩:=bkc0c1c2 (S9.out.blk 0 rfl)
 refine bodyPost_ret (v:=.tuple #[.agg #[.bool b,.int .i64 d,.slice none 0 0],.int .i64 ec]) (by simp [results,Tryz.results118,go_sem,x0,x1,x2,Tryz.sizeOf34,Tryz.isAgg34]) rfl ?_
 exact ansQ_nil rfl S9.out.ext
theorem reachA (k f t:Int) (pw:Option Addr) (nw cw:Nat) (rad most:Int) (gb:Nat) (gl:Nat) (b:Bool) (d ec:Int) (w:World) (HF:∀ W,Ext w W→Calls Tryz.prog 66 #[.int .i64 f,.int .i64 t,.pointer (some ⟨gb,0,none⟩)] W fun e w'=>e=.returned (.tuple #[.int .i64 d,.bool b,.int .i64 ec])∧Ext W w'):Calls Tryz.prog 119 #[.agg #[.int .i64 k,.int .i64 f,.int .i64 t,.slice pw nw cw,.int .i64 rad,.int .i64 most,.func (.func 66) #[] #[.pointer (some ⟨gb,0,none⟩)],(.func (.func 68) #[] #[.pointer (some ⟨gb,0,none⟩),.pointer (some ⟨gl,0,none⟩)])]] w (AnsQ b 0 [] ec w):=by
 have S0:=Lib.hid (((Sep.start w).al #[.int .i64 k,.int .i64 f,.int .i64 t,.slice pw nw cw,.int .i64 rad,.int .i64 most,.func (.func 66) #[] #[.pointer (some ⟨gb,0,none⟩)],(.func (.func 68) #[] #[.pointer (some ⟨gb,0,none⟩),.pointer (some ⟨gl,0,none⟩)])] 121 w.heap.size rfl).al #[.bool false,.int .i64 0,.slice none 0 0] 34 (w.heap.size+1) (by simp))
 have HFF:=Lib.hid HF
 clear HF
 go_enter Tryz.func119,Tryz.ntmps119
 go_wp2_with (go_at_call 66;go_must (refine(HFF.out _ S0.out.ext).mono ?_;rintro e w1 ⟨rfl,hb⟩;have S1:=Lib.hid (S0.out.call hb);obtain⟨y0,y1,y2,yz,f0,f1,f2⟩:=bkc0c1c2lz0z1z2 (S1.out.blk 0 rfl);clear hb))
 have S9:=Lib.hid (((S1.out.set 0 rfl 0 (.bool b)).set 0 rfl 1 (.int .i64 0)).set 0 rfl 2 (.slice none 0 0))
 obtain⟨x0,x1,x2⟩:=bkc0c1c2 (S9.out.blk 0 rfl)
 refine bodyPost_ret (v:=.tuple #[.agg #[.bool b,.int .i64 0,.slice none 0 0],.int .i64 ec]) (by simp [results,Tryz.results119,go_sem,x0,x1,x2,Tryz.sizeOf34,Tryz.isAgg34]) rfl ?_
 exact ansQ_nil rfl S9.out.ext
theorem nearA (k f t:Int) (pw:Option Addr) (nw cw:Nat) (rad most:Int) (gb gl:Nat) (X:List (Int × Int)) (ec:Int) (w:World) (hX:X.length≤1000)
  (HH:∀ W,Ext w W→Calls Tryz.prog 68 #[.agg #[.int .i64 k,.int .i64 f,.int .i64 t,.slice pw nw cw,.int .i64 rad,.int .i64 most],.pointer (some ⟨gb,0,none⟩),.pointer (some ⟨gl,0,none⟩)] W fun e w'=>∃ q c',e=.returned (.tuple #[.slice q X.length c',.int .i64 ec])∧Sep W w' [.own 105 2 q X.length c' (encE X)]) :
  Calls Tryz.prog 120 #[.agg #[.int .i64 k,.int .i64 f,.int .i64 t,.slice pw nw cw,.int .i64 rad,.int .i64 most,.func (.func 66) #[] #[.pointer (some ⟨gb,0,none⟩)],(.func (.func 68) #[] #[.pointer (some ⟨gb,0,none⟩),.pointer (some ⟨gl,0,none⟩)])]] w (AnsQ (decide (0<(firstN X most).length)) 0 (firstN X most) ec w):=by
 have S0:=Lib.hid (((Sep.start w).al #[.int .i64 k,.int .i64 f,.int .i64 t,.slice pw nw cw,.int .i64 rad,.int .i64 most,.func (.func 66) #[] #[.pointer (some ⟨gb,0,none⟩)],(.func (.func 68) #[] #[.pointer (some ⟨gb,0,none⟩),.pointer (some ⟨gl,0,none⟩)])] 121 w.heap.size rfl).al #[.bool false,.int .i64 0,.slice none 0 0] 34 (w.heap.size+1) (by simp))
 have HFF:=Lib.hid HH
 have HFI:=Lib.hid (fun (q:Option Addr) (c':Nat) W (hr:Rd W 2 q X.length (encE X))=>First10 q X.length c' X most W hr (by omega))
 clear HH
 generalize firstN X most=F at *
 go_enter Tryz.func120,Tryz.ntmps120
 go_wp2_with (first
  | (go_at_call 191;go_must (refine(HFI.out _ _ _ (S1.out.rdx 0 rfl)).mono ?_;rintro e w2 ⟨q2,c2,rfl,Z⟩;have S2:=Lib.hid (S1.out.comp Z);clear a0 az y0 y1 y2 yz f0 f1 f2;obtain⟨y0,y1,y2,yz,f0,f1,f2⟩:=bkc0c1c2lz0z1z2 (S2.out.blk 2 rfl);clear Z))
  | (go_at_call 68;go_must (refine(HFF.out _ S0.out.ext).mono ?_;rintro e w1 ⟨q1,c1,rfl,Z⟩;have S1:=Lib.hid (S0.out.comp Z);obtain⟨y0,y1,y2,yz,f0,f1,f2⟩:=bkc0c1c2lz0z1z2 (S1.out.blk 1 rfl);obtain⟨a0,az⟩:=bkc5l (S1.out.blk 2 rfl);clear Z)))
 have S9:=Lib.hid (((S2.out.set 2 rfl 0 (.bool (decide (0<F.length)))).set 2 rfl 1 (.int .i64 0)).set 2 rfl 2 ((.slice q2 F.length c2)))
 obtain⟨x0,x1,x2⟩:=bkc0c1c2 (S9.out.blk 2 rfl)
 refine bodyPost_ret (v:=.tuple #[.agg #[.bool (decide (0<F.length)),.int .i64 0,(.slice q2 F.length c2)],.int .i64 ec]) (by simp [results,Tryz.results120,go_sem,x0,x1,x2,Tryz.sizeOf34,Tryz.isAgg34]) rfl ?_
 exact⟨q2,c2,rfl,S9.out.pick [0] (by decide) rfl⟩
end
section
open Go Go.RowKit
theorem ansA1 (f t:Int) (pw:Option Addr) (nw cw:Nat) (rad most:Int) (gb:Nat) (gl:Nat) (b:Bool) (d:Int) (F:List (Int × Int)) (ec:Int) (w:World) (HD:∀ W,Ext w W→Calls Tryz.prog 118 #[.agg #[.int .i64 1,.int .i64 f,.int .i64 t,.slice pw nw cw,.int .i64 rad,.int .i64 most,.func (.func 66) #[] #[.pointer (some ⟨gb,0,none⟩)],(.func (.func 68) #[] #[.pointer (some ⟨gb,0,none⟩),.pointer (some ⟨gl,0,none⟩)])]] W (AnsQ b d F ec W)):Calls Tryz.prog 70 #[.agg #[.int .i64 1,.int .i64 f,.int .i64 t,.slice pw nw cw,.int .i64 rad,.int .i64 most,.func (.func 66) #[] #[.pointer (some ⟨gb,0,none⟩)],(.func (.func 68) #[] #[.pointer (some ⟨gb,0,none⟩),.pointer (some ⟨gl,0,none⟩)])]] w (AnsQ b d F ec w):=by
 have S00:=Lib.hid (((Sep.start w).al #[.int .i64 1,.int .i64 f,.int .i64 t,.slice pw nw cw,.int .i64 rad,.int .i64 most,.func (.func 66) #[] #[.pointer (some ⟨gb,0,none⟩)],(.func (.func 68) #[] #[.pointer (some ⟨gb,0,none⟩),.pointer (some ⟨gl,0,none⟩)])] 121 w.heap.size rfl).al #[.bool false,.int .i64 0,.slice none 0 0] 34 (w.heap.size+1) (by simp))
 have hm:=S00.out.mkmapK (K:=(keyI Tryz.prog 3 Tryz.underlying3)) EF20
 have hsz:(((w.alloc (.cells #[.int .i64 1,.int .i64 f,.int .i64 t,.slice pw nw cw,.int .i64 rad,.int .i64 most,.func (.func 66) #[] #[.pointer (some ⟨gb,0,none⟩)],(.func (.func 68) #[] #[.pointer (some ⟨gb,0,none⟩),.pointer (some ⟨gl,0,none⟩)])] 121)).alloc (.cells #[.bool false,.int .i64 0,.slice none 0 0] 34))).heap.size=w.heap.size+1+1:=by simp
 rw [hsz] at hm
 have S0:=Lib.hid hm
 clear hm hsz S00
 have HDD:=Lib.hid HD
 clear HD
 have hmm:=@run_makeMap Tryz.prog
 go_enter Tryz.func70,Tryz.ntmps70
 go_wp2_with (first | (go_at_call 118;go_must (refine(HDD.out _ S3.out.ext).mono ?_;rintro e w4 ⟨q4,c4,rfl,Z⟩;have S4:=Lib.hid (S3.out.comp Z);clear k1 a0 a1 a2 a3 a4 a5 a6 a7 az y0 y1 y2 yz f0 f1 f2;obtain⟨y0,y1,y2,yz,f0,f1,f2⟩:=bkc0c1c2lz0z1z2 (S4.out.blk 2 rfl);clear Z)) | (refine wpList_insert_sepK (K:=(keyI Tryz.prog 3 Tryz.underlying3)) (E:=EF20) rfl _ _ _ _ rfl Tryz.underlying172 rfl S2.out 0 rfl (by omega) ⟨3,0,0⟩ (some 120) rfl rfl ⟨rfl,rfl,I64.of (by decide) (by decide)⟩ ?_;intro w3 S' hg;have S3:=Lib.hid S';clear S' hg;have k1:(Instr.lookup 172 (.map (some (w.heap.size+1+1))) (.int .i64 1) false).run Tryz.prog w3=.ok (.func (.func 118) #[] #[]) w3:=(S3.out.mapK 0 rfl).lookup Tryz.underlying172 (x:=⟨1,0,0⟩) ⟨rfl,rfl,I64.of (by decide) (by decide)⟩;obtain⟨a0,a1,a2,a3,a4,a5,a6,a7,az⟩:=bkc0c1c2c3c4c5c6c7l (S3.out.blk 2 rfl);obtain⟨y0,y1,y2,yz,f0,f1,f2⟩:=bkc0c1c2lz0z1z2 (S3.out.blk 1 rfl)) | (refine wpList_insert_sepK (K:=(keyI Tryz.prog 3 Tryz.underlying3)) (E:=EF20) rfl _ _ _ _ rfl Tryz.underlying172 rfl S1.out 0 rfl (by omega) ⟨2,0,0⟩ (some 119) rfl rfl ⟨rfl,rfl,I64.of (by decide) (by decide)⟩ ?_;intro w2 S' hg;have S2:=Lib.hid S';clear S' hg) | (refine wpList_insert_sepK (K:=(keyI Tryz.prog 3 Tryz.underlying3)) (E:=EF20) rfl _ _ _ _ rfl Tryz.underlying172 rfl S0.out 0 rfl (by omega) ⟨1,0,0⟩ (some 118) rfl rfl ⟨rfl,rfl,I64.of (by decide) (by decide)⟩ ?_;intro w1 S' hg;have S1:=Lib.hid S';clear S' hg))
 have S9:=Lib.hid (((S4.out.set 2 rfl 0 (.bool b)).set 2 rfl 1 (.int .i64 d)).set 2 rfl 2 (.slice q4 F.length c4))
 obtain⟨x0,x1,x2⟩:=bkc0c1c2 (S9.out.blk 2 rfl)
 refine bodyPost_ret (v:=.tuple #[.agg #[.bool b,.int .i64 d,.slice q4 F.length c4],.int .i64 ec]) (by simp [results,Tryz.results70,go_sem,x0,x1,x2,Tryz.sizeOf34,Tryz.isAgg34]) rfl ?_
 exact⟨q4,c4,rfl,S9.out.pick [0] (by decide) rfl⟩
theorem ansA2 (f t:Int) (pw:Option Addr) (nw cw:Nat) (rad most:Int) (gb:Nat) (gl:Nat) (b:Bool) (d:Int) (F:List (Int × Int)) (ec:Int) (w:World) (HD:∀ W,Ext w W→Calls Tryz.prog 119 #[.agg #[.int .i64 2,.int .i64 f,.int .i64 t,.slice pw nw cw,.int .i64 rad,.int .i64 most,.func (.func 66) #[] #[.pointer (some ⟨gb,0,none⟩)],(.func (.func 68) #[] #[.pointer (some ⟨gb,0,none⟩),.pointer (some ⟨gl,0,none⟩)])]] W (AnsQ b d F ec W)):Calls Tryz.prog 70 #[.agg #[.int .i64 2,.int .i64 f,.int .i64 t,.slice pw nw cw,.int .i64 rad,.int .i64 most,.func (.func 66) #[] #[.pointer (some ⟨gb,0,none⟩)],(.func (.func 68) #[] #[.pointer (some ⟨gb,0,none⟩),.pointer (some ⟨gl,0,none⟩)])]] w (AnsQ b d F ec w):=by
 have S00:=Lib.hid (((Sep.start w).al #[.int .i64 2,.int .i64 f,.int .i64 t,.slice pw nw cw,.int .i64 rad,.int .i64 most,.func (.func 66) #[] #[.pointer (some ⟨gb,0,none⟩)],(.func (.func 68) #[] #[.pointer (some ⟨gb,0,none⟩),.pointer (some ⟨gl,0,none⟩)])] 121 w.heap.size rfl).al #[.bool false,.int .i64 0,.slice none 0 0] 34 (w.heap.size+1) (by simp))
 have hm:=S00.out.mkmapK (K:=(keyI Tryz.prog 3 Tryz.underlying3)) EF20
 have hsz:(((w.alloc (.cells #[.int .i64 2,.int .i64 f,.int .i64 t,.slice pw nw cw,.int .i64 rad,.int .i64 most,.func (.func 66) #[] #[.pointer (some ⟨gb,0,none⟩)],(.func (.func 68) #[] #[.pointer (some ⟨gb,0,none⟩),.pointer (some ⟨gl,0,none⟩)])] 121)).alloc (.cells #[.bool false,.int .i64 0,.slice none 0 0] 34))).heap.size=w.heap.size+1+1:=by simp
 rw [hsz] at hm
 have S0:=Lib.hid hm
 clear hm hsz S00
 have HDD:=Lib.hid HD
 clear HD
 have hmm:=@run_makeMap Tryz.prog
 go_enter Tryz.func70,Tryz.ntmps70
 go_wp2_with (first | (go_at_call 119;go_must (refine(HDD.out _ S3.out.ext).mono ?_;rintro e w4 ⟨q4,c4,rfl,Z⟩;have S4:=Lib.hid (S3.out.comp Z);clear k1 a0 a1 a2 a3 a4 a5 a6 a7 az y0 y1 y2 yz f0 f1 f2;obtain⟨y0,y1,y2,yz,f0,f1,f2⟩:=bkc0c1c2lz0z1z2 (S4.out.blk 2 rfl);clear Z)) | (refine wpList_insert_sepK (K:=(keyI Tryz.prog 3 Tryz.underlying3)) (E:=EF20) rfl _ _ _ _ rfl Tryz.underlying172 rfl S2.out 0 rfl (by omega) ⟨3,0,0⟩ (some 120) rfl rfl ⟨rfl,rfl,I64.of (by decide) (by decide)⟩ ?_;intro w3 S' hg;have S3:=Lib.hid S';clear S' hg;have k1:(Instr.lookup 172 (.map (some (w.heap.size+1+1))) (.int .i64 2) false).run Tryz.prog w3=.ok (.func (.func 119) #[] #[]) w3:=(S3.out.mapK 0 rfl).lookup Tryz.underlying172 (x:=⟨2,0,0⟩) ⟨rfl,rfl,I64.of (by decide) (by decide)⟩;obtain⟨a0,a1,a2,a3,a4,a5,a6,a7,az⟩:=bkc0c1c2c3c4c5c6c7l (S3.out.blk 2 rfl);obtain⟨y0,y1,y2,yz,f0,f1,f2⟩:=bkc0c1c2lz0z1z2 (S3.out.blk 1 rfl)) | (refine wpList_insert_sepK (K:=(keyI Tryz.prog 3 Tryz.underlying3)) (E:=EF20) rfl _ _ _ _ rfl Tryz.underlying172 rfl S1.out 0 rfl (by omega) ⟨2,0,0⟩ (some 119) rfl rfl ⟨rfl,rfl,I64.of (by decide) (by decide)⟩ ?_;intro w2 S' hg;have S2:=Lib.hid S';clear S' hg) | (refine wpList_insert_sepK (K:=(keyI Tryz.prog 3 Tryz.underlying3)) (E:=EF20) rfl _ _ _ _ rfl Tryz.underlying172 rfl S0.out 0 rfl (by omega) ⟨1,0,0⟩ (some 118) rfl rfl ⟨rfl,rfl,I64.of (by decide) (by decide)⟩ ?_;intro w1 S' hg;have S1:=Lib.hid S';clear S' hg))
 have S9:=Lib.hid (((S4.out.set 2 rfl 0 (.bool b)).set 2 rfl 1 (.int .i64 d)).set 2 rfl 2 (.slice q4 F.length c4))
 obtain⟨x0,x1,x2⟩:=bkc0c1c2 (S9.out.blk 2 rfl)
 refine bodyPost_ret (v:=.tuple #[.agg #[.bool b,.int .i64 d,.slice q4 F.length c4],.int .i64 ec]) (by simp [results,Tryz.results70,go_sem,x0,x1,x2,Tryz.sizeOf34,Tryz.isAgg34]) rfl ?_
 exact⟨q4,c4,rfl,S9.out.pick [0] (by decide) rfl⟩
theorem ansA3 (f t:Int) (pw:Option Addr) (nw cw:Nat) (rad most:Int) (gb:Nat) (gl:Nat) (b:Bool) (d:Int) (F:List (Int × Int)) (ec:Int) (w:World) (HD:∀ W,Ext w W→Calls Tryz.prog 120 #[.agg #[.int .i64 3,.int .i64 f,.int .i64 t,.slice pw nw cw,.int .i64 rad,.int .i64 most,.func (.func 66) #[] #[.pointer (some ⟨gb,0,none⟩)],(.func (.func 68) #[] #[.pointer (some ⟨gb,0,none⟩),.pointer (some ⟨gl,0,none⟩)])]] W (AnsQ b d F ec W)):Calls Tryz.prog 70 #[.agg #[.int .i64 3,.int .i64 f,.int .i64 t,.slice pw nw cw,.int .i64 rad,.int .i64 most,.func (.func 66) #[] #[.pointer (some ⟨gb,0,none⟩)],(.func (.func 68) #[] #[.pointer (some ⟨gb,0,none⟩),.pointer (some ⟨gl,0,none⟩)])]] w (AnsQ b d F ec w):=by
 have S00:=Lib.hid (((Sep.start w).al #[.int .i64 3,.int .i64 f,.int .i64 t,.slice pw nw cw,.int .i64 rad,.int .i64 most,.func (.func 66) #[] #[.pointer (some ⟨gb,0,none⟩)],(.func (.func 68) #[] #[.pointer (some ⟨gb,0,none⟩),.pointer (some ⟨gl,0,none⟩)])] 121 w.heap.size rfl).al #[.bool false,.int .i64 0,.slice none 0 0] 34 (w.heap.size+1) (by simp))
 have hm:=S00.out.mkmapK (K:=(keyI Tryz.prog 3 Tryz.underlying3)) EF20
 have hsz:(((w.alloc (.cells #[.int .i64 3,.int .i64 f,.int .i64 t,.slice pw nw cw,.int .i64 rad,.int .i64 most,.func (.func 66) #[] #[.pointer (some ⟨gb,0,none⟩)],(.func (.func 68) #[] #[.pointer (some ⟨gb,0,none⟩),.pointer (some ⟨gl,0,none⟩)])] 121)).alloc (.cells #[.bool false,.int .i64 0,.slice none 0 0] 34))).heap.size=w.heap.size+1+1:=by simp
 rw [hsz] at hm
 have S0:=Lib.hid hm
 clear hm hsz S00
 have HDD:=Lib.hid HD
 clear HD
 have hmm:=@run_makeMap Tryz.prog
 go_enter Tryz.func70,Tryz.ntmps70
 go_wp2_with (first | (go_at_call 120;go_must (refine(HDD.out _ S3.out.ext).mono ?_;rintro e w4 ⟨q4,c4,rfl,Z⟩;have S4:=Lib.hid (S3.out.comp Z);clear k1 a0 a1 a2 a3 a4 a5 a6 a7 az y0 y1 y2 yz f0 f1 f2;obtain⟨y0,y1,y2,yz,f0,f1,f2⟩:=bkc0c1c2lz0z1z2 (S4.out.blk 2 rfl);clear Z)) | (refine wpList_insert_sepK (K:=(keyI Tryz.prog 3 Tryz.underlying3)) (E:=EF20) rfl _ _ _ _ rfl Tryz.underlying172 rfl S2.out 0 rfl (by omega) ⟨3,0,0⟩ (some 120) rfl rfl ⟨rfl,rfl,I64.of (by decide) (by decide)⟩ ?_;intro w3 S' hg;have S3:=Lib.hid S';clear S' hg;have k1:(Instr.lookup 172 (.map (some (w.heap.size+1+1))) (.int .i64 3) false).run Tryz.prog w3=.ok (.func (.func 120) #[] #[]) w3:=(S3.out.mapK 0 rfl).lookup Tryz.underlying172 (x:=⟨3,0,0⟩) ⟨rfl,rfl,I64.of (by decide) (by decide)⟩;obtain⟨a0,a1,a2,a3,a4,a5,a6,a7,az⟩:=bkc0c1c2c3c4c5c6c7l (S3.out.blk 2 rfl);obtain⟨y0,y1,y2,yz,f0,f1,f2⟩:=bkc0c1c2lz0z1z2 (S3.out.blk 1 rfl)) | (refine wpList_insert_sepK (K:=(keyI Tryz.prog 3 Tryz.underlying3)) (E:=EF20) rfl _ _ _ _ rfl Tryz.underlying172 rfl S1.out 0 rfl (by omega) ⟨2,0,0⟩ (some 119) rfl rfl ⟨rfl,rfl,I64.of (by decide) (by decide)⟩ ?_;intro w2 S' hg;have S2:=Lib.hid S';clear S' hg) | (refine wpList_insert_sepK (K:=(keyI Tryz.prog 3 Tryz.underlying3)) (E:=EF20) rfl _ _ _ _ rfl Tryz.underlying172 rfl S0.out 0 rfl (by omega) ⟨1,0,0⟩ (some 118) rfl rfl ⟨rfl,rfl,I64.of (by decide) (by decide)⟩ ?_;intro w1 S' hg;have S1:=Lib.hid S';clear S' hg))
 have S9:=Lib.hid (((S4.out.set 2 rfl 0 (.bool b)).set 2 rfl 1 (.int .i64 d)).set 2 rfl 2 (.slice q4 F.length c4))
 obtain⟨x0,x1,x2⟩:=bkc0c1c2 (S9.out.blk 2 rfl)
 refine bodyPost_ret (v:=.tuple #[.agg #[.bool b,.int .i64 d,.slice q4 F.length c4],.int .i64 ec]) (by simp [results,Tryz.results70,go_sem,x0,x1,x2,Tryz.sizeOf34,Tryz.isAgg34]) rfl ?_
 exact⟨q4,c4,rfl,S9.out.pick [0] (by decide) rfl⟩
end
section
open Go Go.RowKit Go.Maps
theorem zeroBm (w:World):(zeroValue 4).run Tryz.prog w=.ok (.bool false) w:=by kernel_rfl
noncomputable def EBm:Elm Tryz.prog 4 Bool:=elmB Tryz.prog 4 Tryz.underlying4 zeroBm
theorem ahead1 (gs gr n:Nat) (ql:Option Addr) (cl:Nat) (X:List Int) (qf:Option Addr) (m cf:Nat) (F:List Int) (nx:Nat→List Int) (w:World)
  (hB:Blk w gs 288 #[.func (.func 177) #[] #[.pointer (some ⟨gr,0,none⟩)],.slice ql n cl,.slice qf m cf]) (hX:Rd w 1 ql n (encI X)) (hF:Rd w 1 qf m (encI F)) (hn:n≤200)
  (hFb:∀ x∈F,0≤x∧x<n) (hin:InN nx n)
  (HN:∀ k,k<n→∃ q c,Rd w 1 q (nx k).length (encI (nx k))∧∀ W,Ext w W→Calls Tryz.prog 177 #[.int .i64 k,.pointer (some ⟨gr,0,none⟩)] W fun e w'=>e=.returned (.slice q (nx k).length c)∧Ext W w') :
  Calls Tryz.prog 181 #[.pointer (some ⟨gs,0,none⟩)] w fun e w'=>∃ q c,e=.returned (.slice q (ahF nx X F []).length c)∧Sep w w' [.own 3 1 q (ahF nx X F []).length c (encI (ahF nx X F []))]:=by
 obtain⟨i0,hi0,hz0,hz1,hz2⟩:=info_parts infI
 have p1:=hF.ptr
 have p2:=hX.ptr
 have n1:=hF.small
 have L1:=Lib.hid hF.nI
 have L2:=Lib.hid hX.nI
 have HSM:Hid (∀ (G:List Int) (l:List Int),(∀ x∈G,0≤x∧x<n)→l.Nodup→(∀ x∈l,0≤x∧x<n)→(ahF nx X G l).length≤n):=fun G l hG h1 h2=>nodup_small (ahF_nodup h1) fun x hx=>by
  rcases ahF_mem.1 hx with h | ⟨v,h3,h4,_⟩
  ·exact h2 x h
  ·obtain⟨h5,h6⟩:=hG v h3
   exact hin v.toNat (by omega) x h4
 have HB:=Lib.hid hB;clear hB
 have HX:=Lib.hid hX;clear hX
 have HF:=Lib.hid hF;clear hF
 have HFB:=Lib.hid hFb;clear hFb
 have HIN:=Lib.hid hin;clear hin
 have HNX:=Lib.hid HN
 clear HN
 have hmm:=@run_makeMap Tryz.prog
 have S0:=Lib.hid (((Sep.start w).mkmap EBm (k:=3)).nilrow 3 1)
 have b0:=HB.out.cell 0
 have b1:=HB.out.cell 1
 have b2:=HB.out.cell 2
 have bz:=HB.out.lt
 go_enter Tryz.func181,Tryz.ntmps181
 go_wp2
 go_loopw [3,6,8,15] (fun l _ _ i wr=>∃ (k:Nat) (L:List Int) (q:Option Addr) (c mm:Nat) (f:Int→Option Bool),k≤m∧i=.int .i64 k∧l=.slice q L.length c∧L=ahF nx X (F.take k) []∧mm≤L.length∧Sep w wr [.own 3 1 q L.length c (encI L),.map Tryz.prog 3 EBm w.heap.size mm f]∧∀ x,f x=some true↔x∈L) (fun _ _ _ i _=>m - (intOf i).toNat)
 case atStart=>exact⟨0,[],none,0,0,_,Nat.zero_le _,rfl,rfl,rfl,Nat.le_refl _,S0.out,fun x=>by simp⟩
 case round =>
  clear S0 b0 b1 b2 bz
  obtain⟨k,L,q,c,mm,f,hk,rfl,rfl,hL,hmm2,S,hf⟩:=hrel
  have b0:=S.ext.cell (HB.out.cell 0)
  have b1:=S.ext.cell (HB.out.cell 1)
  have b2:=S.ext.cell (HB.out.cell 2)
  have bz:=Nat.lt_of_lt_of_le HB.out.lt S.ext.size
  by_cases hlt:k<m
  ·have hkF:k<F.length:=by rw [← L1.out];exact hlt
   have g1:=S.ext.cell (HF.out.cI hlt)
   obtain⟨f1,f2⟩:=HFB.out _ (nth_mem hkF)
   have HT:=Lib.hid (ahF_take (nx:=nx) (X:=X) (l:=[]) hkF)
   rw [← hL] at HT
   have HLB:Hid (∀ j l',l'=ahR X ((nx (nth F k).toNat).take j) L→l'.length≤n):=fun j l' hl'=>by
    rw [hl',hL]
    refine nodup_small (ahR_nodup (ahF_nodup List.nodup_nil)) fun x hx=>?_
    rcases ahR_mem.1 hx with h | ⟨h,_⟩
    ·rcases ahF_mem.1 h with h | ⟨v,h3,h4,_⟩
     ·cases h
     ·obtain⟨h5,h6⟩:=HFB.out v (List.mem_of_mem_take h3)
      exact HIN.out v.toNat (by omega) x h4
    ·exact HIN.out _ (by omega) x (List.mem_of_mem_take h)
   clear hL
   obtain⟨a,ha⟩:∃ a:Nat,nth F k=(a:Int):=⟨(nth F k).toNat,by omega⟩
   rw [ha] at g1 f1 f2 HT HLB
   rw [Int.toNat_natCast] at HT HLB
   obtain⟨qn,cn,RN,CN⟩:=HNX.out a (by omega)
   have HRow:=Lib.hid (HIN.out a (by omega))
   have hln:=RN.small
   have pn:=RN.ptr
   generalize nx a=row at *
   have HRN:=Lib.hid RN;clear RN
   have HCN:=Lib.hid CN;clear CN
   have HFN:=Lib.hid hf;clear hf
   have SH:=Lib.hid S;clear S
   have d1:(0:Int)≤k:=by omega
   have d2:(k:Int)<m:=by omega
   clear ha f1 f2
   go_wp2_with (go_at_call 177;go_must (refine(HCN.out _ SH.out.ext).mono ?_;rintro e w1 ⟨rfl,hb⟩;have S1:=Lib.hid (SH.out.call hb);clear hb))
   go_loopw [3,8,26] (fun l _ i wr=>∃ (j:Nat) (l':List Int) (q:Option Addr) (c mm:Nat) (f:Int→Option Bool),j≤row.length∧i=.int .i64 j∧l=.slice q l'.length c∧l'=ahR X (row.take j) L∧mm≤l'.length∧Sep w wr [.own 3 1 q l'.length c (encI l'),.map Tryz.prog 3 EBm w.heap.size mm f]∧∀ x,f x=some true↔x∈l') (fun _ _ i _=>row.length - (intOf i).toNat)
   case atStart=>exact⟨0,L,q,c,mm,f,Nat.zero_le _,rfl,rfl,rfl,hmm2,S1.out,HFN.out⟩
   case round =>
    clear SH S1 HFN HCN b0 b1 b2 bz g1 hmm2
    obtain⟨j,l',q,c,mm,f,hj,rfl,rfl,hl',hmm2,S,hf⟩:=hrel
    have b0:=S.ext.cell (HB.out.cell 0)
    have b1:=S.ext.cell (HB.out.cell 1)
    have b2:=S.ext.cell (HB.out.cell 2)
    have bz:=Nat.lt_of_lt_of_le HB.out.lt S.ext.size
    by_cases hlj:j<row.length
    ·have g1:=S.ext.cell (HRN.out.cI hlj)
     obtain⟨f1,f2⟩:=HRow.out _ (nth_mem hlj)
     have HT2:=Lib.hid (ahR_take (X:=X) (l:=L) hlj)
     rw [← hl'] at HT2
     have hlen:=HLB.out j l' hl'
     clear hl'
     obtain⟨b,hb⟩:∃ b:Nat,nth row j=(b:Int):=⟨(nth row j).toNat,by omega⟩
     rw [hb] at g1 f1 f2 HT2
     have g2:=S.ext.cell (HX.out.cI (k:=b) (by omega))
     have HI:Hid (I64 (b:Int)):=I64.nat (by omega)
     have hlk:=(S.map 1 rfl).lookup Tryz.underlying3 Tryz.underlying251 HI.out
     obtain⟨u,hu⟩:∃ u,u=(f (b:Int)).getD EBm.z:=⟨_,rfl⟩
     rw [← hu] at hlk
     have hlk2:(Instr.lookup 251 (.map (some w.heap.size)) (.int .i64 (b:Int)) false).run Tryz.prog wr=.ok (.bool u) wr:=hlk
     have hui:u=true↔(b:Int)∈l':=by
      rw [← hf,hu]
      cases hfb:f (b:Int) with
      | none=>simp;decide
      | some t=>simp
     clear hlk hb hu
     have HFN:=Lib.hid hf;clear hf
     have SH:=Lib.hid S;clear S
     have d3:(0:Int)≤j:=by omega
     have d4:(j:Int)<row.length:=by omega
     unfold ah1 at HT2
     rw [Int.toNat_natCast] at HT2
     generalize nth X b=lv at *
     by_cases hlv:lv<0
     ·have d5:decide (lv<0)=true:=by simpa using hlv
      cases u with
      | true =>
       have hmem:=hui.1 rfl
       rw [if_neg (fun h=>h.2 hmem)] at HT2
       clear hui hmem
       go_wp2
       go_roundw
       case rel=>exact⟨j+1,l',q,c,mm,f,by omega,by go_num,rfl,HT2.out.symm,hmm2,SH.out,HFN.out⟩
       case measure=>simp [intOf];omega
      | false =>
       have hmem:(b:Int) ∉ l':=fun h=>by have:=hui.2 h;cases this
       rw [if_pos ⟨hlv,hmem⟩] at HT2
       clear hui hmem
       go_wp2_with (first
        | (at_mapUpdate;go_must (refine wpList_update_sep rfl _ _ _ _ rfl Tryz.underlying3 Tryz.underlying251 rfl SH.out 1 rfl (by omega) (b:Int) true rfl rfl HI.out ?_;intro w1 S1 hg;have S2:=Lib.hid S1;clear S1 hg))
        | (at_builtin;go_must (refine wpList_append_sep rfl _ _ _ rfl 3 i0 _ 1 8 Tryz.underlying25 hi0 hz0 hz1 hz2 rfl (by omega) (S2.out.junk _) 0 q l'.length c _ rfl rfl _ 1 1 _ rfl (Rd.oneI _ _ _) (one_encI _) (by omega) (by omega) ?_;intro q' c' w3 S' hsz;have S3:=Lib.hid S';clear S' hsz)))
       go_roundw
       case rel=>exact⟨j+1,l' ++ [(b:Int)],q',c',mm+1,_,by omega,by go_num,by rw [List.length_append];rfl,HT2.out.symm,by rw [List.length_append];simp;omega,by rw [List.length_append,encI_append];exact S3.out,fun x=>by
        rw [List.mem_append,List.mem_singleton,← HFN.out x]
        unfold upF
        by_cases e:x=(b:Int) <;> simp [e]⟩
       case measure=>simp [intOf];omega
     ·have d5:decide (lv<0)=false:=by simpa using hlv
      rw [if_neg (fun h=>hlv h.1)] at HT2
      clear hui hlk2
      go_wp2
      go_roundw
      case rel=>exact⟨j+1,l',q,c,mm,f,by omega,by go_num,rfl,HT2.out.symm,hmm2,SH.out,HFN.out⟩
      case measure=>simp [intOf];omega
    ·obtain rfl:j=row.length:=by omega
     rw [List.take_length,← HT.out] at hl'
     have HL':=Lib.hid hl';clear hl'
     have HFN:=Lib.hid hf;clear hf
     have SH:=Lib.hid S;clear S
     go_wp2
     go_roundw
     case rel=>exact⟨k+1,l',q,c,mm,f,by omega,by go_num,rfl,HL'.out,hmm2,SH.out,HFN.out⟩
     case measure=>simp [intOf];omega
  ·obtain rfl:k=m:=by omega
   rw [List.take_of_length_le (by rw [← L1.out];omega)] at hL
   subst hL
   have SH:=Lib.hid S;clear S
   clear hf
   go_wp2
   go_ret
   exact⟨q,c,rfl,SH.out.pick [0] (by decide) rfl⟩
theorem ahead2 (gs gr n:Nat) (ql:Option Addr) (cl:Nat) (X:List Int) (qf:Option Addr) (m cf:Nat) (F:List Int) (nx:Nat→List Int) (w:World)
  (hB:Blk w gs 288 #[.func (.func 178) #[] #[.pointer (some ⟨gr,0,none⟩)],.slice ql n cl,.slice qf m cf]) (hX:Rd w 1 ql n (encI X)) (hF:Rd w 1 qf m (encI F)) (hn:n≤200)
  (hFb:∀ x∈F,0≤x∧x<n) (hin:InN nx n)
  (HN:∀ k,k<n→∃ q c,Rd w 1 q (nx k).length (encI (nx k))∧∀ W,Ext w W→Calls Tryz.prog 178 #[.int .i64 k,.pointer (some ⟨gr,0,none⟩)] W fun e w'=>e=.returned (.slice q (nx k).length c)∧Ext W w') :
  Calls Tryz.prog 181 #[.pointer (some ⟨gs,0,none⟩)] w fun e w'=>∃ q c,e=.returned (.slice q (ahF nx X F []).length c)∧Sep w w' [.own 3 1 q (ahF nx X F []).length c (encI (ahF nx X F []))]:=by
 obtain⟨i0,hi0,hz0,hz1,hz2⟩:=info_parts infI
 have p1:=hF.ptr
 have p2:=hX.ptr
 have n1:=hF.small
 have L1:=Lib.hid hF.nI
 have L2:=Lib.hid hX.nI
 have HSM:Hid (∀ (G:List Int) (l:List Int),(∀ x∈G,0≤x∧x<n)→l.Nodup→(∀ x∈l,0≤x∧x<n)→(ahF nx X G l).length≤n):=fun G l hG h1 h2=>nodup_small (ahF_nodup h1) fun x hx=>by
  rcases ahF_mem.1 hx with h | ⟨v,h3,h4,_⟩
  ·exact h2 x h
  ·obtain⟨h5,h6⟩:=hG v h3
   exact hin v.toNat (by omega) x h4
 have HB:=Lib.hid hB;clear hB
 have HX:=Lib.hid hX;clear hX
 have HF:=Lib.hid hF;clear hF
 have HFB:=Lib.hid hFb;clear hFb
 have HIN:=Lib.hid hin;clear hin
 have HNX:=Lib.hid HN
 clear HN
 have hmm:=@run_makeMap Tryz.prog
 have S0:=Lib.hid (((Sep.start w).mkmap EBm (k:=3)).nilrow 3 1)
 have b0:=HB.out.cell 0
 have b1:=HB.out.cell 1
 have b2:=HB.out.cell 2
 have bz:=HB.out.lt
 go_enter Tryz.func181,Tryz.ntmps181
 go_wp2
 go_loopw [3,6,8,15] (fun l _ _ i wr=>∃ (k:Nat) (L:List Int) (q:Option Addr) (c mm:Nat) (f:Int→Option Bool),k≤m∧i=.int .i64 k∧l=.slice q L.length c∧L=ahF nx X (F.take k) []∧mm≤L.length∧Sep w wr [.own 3 1 q L.length c (encI L),.map Tryz.prog 3 EBm w.heap.size mm f]∧∀ x,f x=some true↔x∈L) (fun _ _ _ i _=>m - (intOf i).toNat)
 case atStart=>exact⟨0,[],none,0,0,_,Nat.zero_le _,rfl,rfl,rfl,Nat.le_refl _,S0.out,fun x=>by simp⟩
 case round =>
  clear S0 b0 b1 b2 bz
  obtain⟨k,L,q,c,mm,f,hk,rfl,rfl,hL,hmm2,S,hf⟩:=hrel
  have b0:=S.ext.cell (HB.out.cell 0)
  have b1:=S.ext.cell (HB.out.cell 1)
  have b2:=S.ext.cell (HB.out.cell 2)
  have bz:=Nat.lt_of_lt_of_le HB.out.lt S.ext.size
  by_cases hlt:k<m
  ·have hkF:k<F.length:=by rw [← L1.out];exact hlt
   have g1:=S.ext.cell (HF.out.cI hlt)
   obtain⟨f1,f2⟩:=HFB.out _ (nth_mem hkF)
   have HT:=Lib.hid (ahF_take (nx:=nx) (X:=X) (l:=[]) hkF)
   rw [← hL] at HT
   have HLB:Hid (∀ j l',l'=ahR X ((nx (nth F k).toNat).take j) L→l'.length≤n):=fun j l' hl'=>by
    rw [hl',hL]
    refine nodup_small (ahR_nodup (ahF_nodup List.nodup_nil)) fun x hx=>?_
    rcases ahR_mem.1 hx with h | ⟨h,_⟩
    ·rcases ahF_mem.1 h with h | ⟨v,h3,h4,_⟩
     ·cases h
     ·obtain⟨h5,h6⟩:=HFB.out v (List.mem_of_mem_take h3)
      exact HIN.out v.toNat (by omega) x h4
    ·exact HIN.out _ (by omega) x (List.mem_of_mem_take h)
   clear hL
   obtain⟨a,ha⟩:∃ a:Nat,nth F k=(a:Int):=⟨(nth F k).toNat,by omega⟩
   rw [ha] at g1 f1 f2 HT HLB
   rw [Int.toNat_natCast] at HT HLB
   obtain⟨qn,cn,RN,CN⟩:=HNX.out a (by omega)
   have HRow:=Lib.hid (HIN.out a (by omega))
   have hln:=RN.small
   have pn:=RN.ptr
   generalize nx a=row at *
   have HRN:=Lib.hid RN;clear RN
   have HCN:=Lib.hid CN;clear CN
   have HFN:=Lib.hid hf;clear hf
   have SH:=Lib.hid S;clear S
   have d1:(0:Int)≤k:=by omega
   have d2:(k:Int)<m:=by omega
   clear ha f1 f2
   go_wp2_with (go_at_call 178;go_must (refine(HCN.out _ SH.out.ext).mono ?_;rintro e w1 ⟨rfl,hb⟩;have S1:=Lib.hid (SH.out.call hb);clear hb))
   go_loopw [3,8,26] (fun l _ i wr=>∃ (j:Nat) (l':List Int) (q:Option Addr) (c mm:Nat) (f:Int→Option Bool),j≤row.length∧i=.int .i64 j∧l=.slice q l'.length c∧l'=ahR X (row.take j) L∧mm≤l'.length∧Sep w wr [.own 3 1 q l'.length c (encI l'),.map Tryz.prog 3 EBm w.heap.size mm f]∧∀ x,f x=some true↔x∈l') (fun _ _ i _=>row.length - (intOf i).toNat)
   case atStart=>exact⟨0,L,q,c,mm,f,Nat.zero_le _,rfl,rfl,rfl,hmm2,S1.out,HFN.out⟩
   case round =>
    clear SH S1 HFN HCN b0 b1 b2 bz g1 hmm2
    obtain⟨j,l',q,c,mm,f,hj,rfl,rfl,hl',hmm2,S,hf⟩:=hrel
    have b0:=S.ext.cell (HB.out.cell 0)
    have b1:=S.ext.cell (HB.out.cell 1)
    have b2:=S.ext.cell (HB.out.cell 2)
    have bz:=Nat.lt_of_lt_of_le HB.out.lt S.ext.size
    by_cases hlj:j<row.length
    ·have g1:=S.ext.cell (HRN.out.cI hlj)
     obtain⟨f1,f2⟩:=HRow.out _ (nth_mem hlj)
     have HT2:=Lib.hid (ahR_take (X:=X) (l:=L) hlj)
     rw [← hl'] at HT2
     have hlen:=HLB.out j l' hl'
     clear hl'
     obtain⟨b,hb⟩:∃ b:Nat,nth row j=(b:Int):=⟨(nth row j).toNat,by omega⟩
     rw [hb] at g1 f1 f2 HT2
     have g2:=S.ext.cell (HX.out.cI (k:=b) (by omega))
     have HI:Hid (I64 (b:Int)):=I64.nat (by omega)
     have hlk:=(S.map 1 rfl).lookup Tryz.underlying3 Tryz.underlying251 HI.out
     obtain⟨u,hu⟩:∃ u,u=(f (b:Int)).getD EBm.z:=⟨_,rfl⟩
     rw [← hu] at hlk
     have hlk2:(Instr.lookup 251 (.map (some w.heap.size)) (.int .i64 (b:Int)) false).run Tryz.prog wr=.ok (.bool u) wr:=hlk
     have hui:u=true↔(b:Int)∈l':=by
      rw [← hf,hu]
      cases hfb:f (b:Int) with
      | none=>simp;decide
      | some t=>simp
     clear hlk hb hu
     have HFN:=Lib.hid hf;clear hf
     have SH:=Lib.hid S;clear S
     have d3:(0:Int)≤j:=by omega
     have d4:(j:Int)<row.length:=by omega
     unfold ah1 at HT2
     rw [Int.toNat_natCast] at HT2
     generalize nth X b=lv at *
     by_cases hlv:lv<0
     ·have d5:decide (lv<0)=true:=by simpa using hlv
      cases u with
      | true =>
       have hmem:=hui.1 rfl
       rw [if_neg (fun h=>h.2 hmem)] at HT2
       clear hui hmem
       go_wp2
       go_roundw
       case rel=>exact⟨j+1,l',q,c,mm,f,by omega,by go_num,rfl,HT2.out.symm,hmm2,SH.out,HFN.out⟩
       case measure=>simp [intOf];omega
      | false =>
       have hmem:(b:Int) ∉ l':=fun h=>by have:=hui.2 h;cases this
       rw [if_pos ⟨hlv,hmem⟩] at HT2
       clear hui hmem
       go_wp2_with (first
        | (at_mapUpdate;go_must (refine wpList_update_sep rfl _ _ _ _ rfl Tryz.underlying3 Tryz.underlying251 rfl SH.out 1 rfl (by omega) (b:Int) true rfl rfl HI.out ?_;intro w1 S1 hg;have S2:=Lib.hid S1;clear S1 hg))
        | (at_builtin;go_must (refine wpList_append_sep rfl _ _ _ rfl 3 i0 _ 1 8 Tryz.underlying25 hi0 hz0 hz1 hz2 rfl (by omega) (S2.out.junk _) 0 q l'.length c _ rfl rfl _ 1 1 _ rfl (Rd.oneI _ _ _) (one_encI _) (by omega) (by omega) ?_;intro q' c' w3 S' hsz;have S3:=Lib.hid S';clear S' hsz)))
       go_roundw
       case rel=>exact⟨j+1,l' ++ [(b:Int)],q',c',mm+1,_,by omega,by go_num,by rw [List.length_append];rfl,HT2.out.symm,by rw [List.length_append];simp;omega,by rw [List.length_append,encI_append];exact S3.out,fun x=>by
        rw [List.mem_append,List.mem_singleton,← HFN.out x]
        unfold upF
        by_cases e:x=(b:Int) <;> simp [e]⟩
       case measure=>simp [intOf];omega
     ·have d5:decide (lv<0)=false:=by simpa using hlv
      rw [if_neg (fun h=>hlv h.1)] at HT2
      clear hui hlk2
      go_wp2
      go_roundw
      case rel=>exact⟨j+1,l',q,c,mm,f,by omega,by go_num,rfl,HT2.out.symm,hmm2,SH.out,HFN.out⟩
      case measure=>simp [intOf];omega
    ·obtain rfl:j=row.length:=by omega
     rw [List.take_length,← HT.out] at hl'
     have HL':=Lib.hid hl';clear hl'
     have HFN:=Lib.hid hf;clear hf
     have SH:=Lib.hid S;clear S
     go_wp2
     go_roundw
     case rel=>exact⟨k+1,l',q,c,mm,f,by omega,by go_num,rfl,HL'.out,hmm2,SH.out,HFN.out⟩
     case measure=>simp [intOf];omega
  ·obtain rfl:k=m:=by omega
   rw [List.take_of_length_le (by rw [← L1.out];omega)] at hL
   subst hL
   have SH:=Lib.hid S;clear S
   clear hf
   go_wp2
   go_ret
   exact⟨q,c,rfl,SH.out.pick [0] (by decide) rfl⟩
end
section
open Go Go.RowKit
theorem set_ne {α:Type} {Γ:List α} {i j:Nat} {p q:α} (h:Γ[i]?=some p) (hne:i≠j):(Γ.set j q)[i]?=some p:=by
 rw [List.getElem?_set_ne (fun e=>hne e.symm)];exact h
theorem set_eq {α:Type} {Γ:List α} {j:Nat} {p q:α} (h:Γ[j]?=some p):(Γ.set j q)[j]?=some q:=List.getElem?_set_self (List.getElem?_eq_some_iff.1 h).1
theorem takeG {w0 w:World} {Γ:List Pc} (i j:Nat) (gs fid gr n:Nat) (ql:Option Addr) (cl:Nat) (X:List Int) (qf:Option Addr) (mf cf:Nat) (F:List Int) (qm:Option Addr) (m cm:Nat) (L:List Int) (S:Sep w0 w Γ)
  (hij:i≠j) (hi:Γ[i]?=some (.blk gs 288 #[.func (.func fid) #[] #[.pointer (some ⟨gr,0,none⟩)],.slice ql n cl,.slice qf mf cf])) (hj:Γ[j]?=some (.own 3 1 ql n cl (encI X))) (hf:∀ W Y,Sep w0 W (Γ.set j (.own 3 1 ql n cl Y))→Rd W 1 qf mf (encI F)) (hp:∀ W Y,Sep w0 W (Γ.set j (.own 3 1 ql n cl Y))→Rd W 1 qm m (encI L))
  (hn:n≤200) (hmf:0<mf) (hmf2:mf≤200) (hm:m≤200) (hF:0≤nth F 0∧nth F 0<n) (hL:∀ x∈L,0≤x∧x<n) (hne:nth F 0 ∉ L) (c:Int) (hc:nth X (nth F 0).toNat=c) (hc0:0≤c∧c≤1000) :
  Calls Tryz.prog 182 #[.pointer (some ⟨gs,0,none⟩),.slice qm m cm] w fun e w'=>(∃ v,e=.returned v)∧Sep w0 w' ((Γ.set j (.own 3 1 ql n cl (encI (tkR (c+1) L X)))).set i (.blk gs 288 #[.func (.func fid) #[] #[.pointer (some ⟨gr,0,none⟩)],.slice ql n cl,.slice qm m cm])):=by
 have LX:X.length=n:=by have:=(S.rd j hj (by omega)).nI;omega
 have e0:Γ.set j (.own 3 1 ql n cl (encI X))=Γ:=by
  apply List.ext_getElem?
  intro t
  by_cases e:j=t
  ·subst e;rw [set_eq hj,hj]
  ·rw [List.getElem?_set_ne e]
 have LL:L.length=m:=by have:=(hp w (encI X) (by rw [e0];exact S)).nI;omega
 have LX':=Lib.hid LX
 have LL':=Lib.hid LL
 have HL:=Lib.hid hL
 obtain⟨a,ha⟩:∃ a:Nat,nth F 0=(a:Int):=⟨(nth F 0).toNat,by omega⟩
 have HA:Hid (∀ k,nth (tkR (c+1) (L.take k) X) a=c):=fun k=>by
  rw [tkR_nth (fun x hx=>by have:=hL x (List.mem_of_mem_take hx);rw [LX];omega),if_neg (fun h=>hne (by rw [ha];exact List.mem_of_mem_take h))]
  rw [ha,Int.toNat_natCast] at hc;exact hc
 have HAF:=Lib.hid ha
 rw [ha] at hF
 clear hL hne hc LX LL ha
 go_enter Tryz.func182,Tryz.ntmps182
 go_wp2
 go_loopw [5,8] (fun _ i wr=>∃ k:Nat,k≤m∧i=.int .i64 k∧Sep w0 wr (Γ.set j (.own 3 1 ql n cl (encI (tkR (c+1) (L.take k) X))))) (fun _ i _=>m - (intOf i).toNat)
 case atStart=>exact⟨0,Nat.zero_le _,rfl,by show Sep w0 w (Γ.set j (.own 3 1 ql n cl (encI X)));rw [e0];exact S⟩
 case round =>
  obtain⟨k,hk,rfl,S1⟩:=hrel
  obtain⟨az,a0,a1,a2⟩:=bklc0c1c2 (S1.blk i (set_ne hi hij))
  have po:=(S1.rd j (set_eq hj) (by omega)).ptr
  have pl:=(hp _ _ S1).ptr
  have pf:=(hf _ _ S1).ptr
  by_cases hlt:k<m
  ·have hkL:k<L.length:=by rw [LL'.out];exact hlt
   have g1:=(hp _ _ S1).cI hlt
   have g2:=(hf _ _ S1).cI hmf
   have g3:=(S1.rd j (set_eq hj) (by omega)).cI (k:=a) (by omega)
   rw [HA.out] at g3
   rw [HAF.out] at g2
   obtain⟨f1,f2⟩:=HL.out _ (nth_mem hkL)
   obtain⟨b,hb⟩:∃ b:Nat,nth L k=(b:Int):=⟨(nth L k).toNat,by omega⟩
   have HT:=Lib.hid (tkR_take (c:=c+1) (X:=X) hkL)
   rw [hb] at g1 f1 f2 HT
   rw [Int.toNat_natCast] at HT
   clear hb
   have d1:(0:Int)≤k:=by omega
   have d2:(k:Int)<m:=by omega
   have d3:(0:Int)<mf:=by omega
   have d4:(a:Int)<n:=by omega
   have d5:(0:Int)≤a:=by omega
   have SH:=Lib.hid S1;clear S1
   go_wp2
   have x1:=fun x:ExtOf wr=>x.ext.cell a1
   have x2:=fun x:ExtOf wr=>x.ext.cell a2
   have x4:=fun x:ExtOf wr=>x.ext.cell g2
   have x5:=fun x:ExtOf wr=>x.ext.cell g3
   refine wp_region_mix [true,true,true,true,true,true,true,true,true,true,true,true,true,true,true,true,true,true,true] (fun _ _ _=>True) (by kernel_rfl) (by kernel_rfl) (by kernel_rfl) (fun _ _ _ _ _ h=>h) ?_
   simp only [nfM]
   repeat (go_big_quiet_step ((fail)))
   refine wpQuiet_nil ⟨trivial,fun vs W1 hE _=>?_⟩
   have S2:=SH.out.call hE
   have po2:=(S2.rd j (set_eq hj) (by omega)).ptr
   have fz2:=own_frozen (S2.own j (set_eq hj)) (by omega) b
   have k1:=own_cell (S2.own j (set_eq hj)) (k:=b) (by omega)
   have S3:=Lib.hid (S2.setRow j (set_eq hj) b (by omega) (.int .i64 (c+1)))
   clear S2 x1 x2 x4 x5 g1 g2 g3 a0 a1 a2 az
   simp only [putM,List.length_cons,List.length_nil,Nat.zero_add,Nat.reduceAdd,List.drop_succ_cons,List.drop_zero]
   go_wp2
   go_roundw
   case rel=>exact⟨k+1,by omega,by go_num,by rw [HT.out,← encI_set];have:=S3.out;rw [List.set_set] at this;exact this⟩
   case measure=>simp [intOf];omega
  ·obtain rfl:k=m:=by omega
   rw [List.take_of_length_le (by rw [LL'.out];exact Nat.le_refl _)] at S1
   have fz0:=(S1.blk i (set_ne hi hij)).frozen 2
   have SH:=Lib.hid S1;clear S1
   go_wp2
   go_end0
   exact⟨⟨_,rfl⟩,SH.out.set i (set_ne hi hij) 2 (.slice qm k cm)⟩
end
section
open Go Go.RowKit
theorem bestG (fa fb gr ga gb n:Nat) (qa:Option Addr) (ca:Nat) (X:List Int) (pa:Option Addr) (ma da:Nat) (qb:Option Addr) (cb:Nat) (Y:List Int) (pb:Option Addr) (mb db:Nat) (w:World)
  (hA:Blk w ga 288 #[.func (.func fa) #[] #[.pointer (some ⟨gr,0,none⟩)],.slice qa n ca,.slice pa ma da]) (hB:Blk w gb 288 #[.func (.func fb) #[] #[.pointer (some ⟨gr,0,none⟩)],.slice qb n cb,.slice pb mb db]) (hX:Rd w 1 qa n (encI X)) (hY:Rd w 1 qb n (encI Y)) (hn:n≤200)
  (bX:∀ v,v<n→nth X v≤1000) (bY:∀ v,v<n→nth Y v≤1000) :
  Calls Tryz.prog 180 #[.agg #[.pointer (some ⟨ga,0,none⟩),.pointer (some ⟨gb,0,none⟩)]] w fun e w'=>e=.returned (.tuple #[.int .i64 (bestR X Y n).1,.bool (bestR X Y n).2])∧Ext w w':=by
 have p1:=hX.ptr
 have p2:=hY.ptr
 have S0:=Lib.hid ((Sep.start w).al #[.pointer (some ⟨ga,0,none⟩),.pointer (some ⟨gb,0,none⟩)] 160 w.heap.size rfl)
 have HA:=Lib.hid hA;clear hA
 have HB:=Lib.hid hB;clear hB
 have HX:=Lib.hid hX;clear hX
 have HY:=Lib.hid hY;clear hY
 have BX:=Lib.hid bX;clear bX
 have BY:=Lib.hid bY;clear bY
 have az:=(HA.out.ext S0.out.ext).lt;have a0:=(HA.out.ext S0.out.ext).cell 0;have a1:=(HA.out.ext S0.out.ext).cell 1;have a2:=(HA.out.ext S0.out.ext).cell 2
 obtain⟨c0,c1,cz⟩:=bkc0c1l (S0.out.blk 0 rfl)
 go_enter Tryz.func180,Tryz.ntmps180
 go_wp2
 go_loopw [4,5,6,7,8,15] (fun m o _ _ _ i wr=>∃ k:Nat,k≤n∧i=.int .i64 k∧m=.int .i64 (bestR X Y k).1∧o=.bool (bestR X Y k).2∧Sep w wr [.blk w.heap.size 160 #[.pointer (some ⟨ga,0,none⟩),.pointer (some ⟨gb,0,none⟩)]]) (fun _ _ _ _ _ i _=>n - (intOf i).toNat)
 case atStart=>exact⟨0,Nat.zero_le _,rfl,rfl,rfl,S0.out⟩
 case round =>
  clear S0 a0 a1 a2 az c0 c1 cz
  obtain⟨k,hk,rfl,rfl,rfl,S⟩:=hrel
  by_cases hlt:k<n
  ·have az:=(HA.out.ext S.ext).lt;have a0:=(HA.out.ext S.ext).cell 0;have a1:=(HA.out.ext S.ext).cell 1;have a2:=(HA.out.ext S.ext).cell 2
   have bz:=(HB.out.ext S.ext).lt;have b0:=(HB.out.ext S.ext).cell 0;have b1:=(HB.out.ext S.ext).cell 1;have b2:=(HB.out.ext S.ext).cell 2
   obtain⟨c0,c1,cz⟩:=bkc0c1l (S.blk 0 rfl)
   have g1:=S.ext.cell (HX.out.cI hlt)
   have g2:=S.ext.cell (HY.out.cI hlt)
   have HS:=Lib.hid (bestR_succ X Y k)
   have b1:=BX.out k hlt
   have b2:=BY.out k hlt
   unfold best1 at HS
   generalize bestR X Y k=s at *
   obtain⟨m,o⟩:=s
   simp only at HS ⊢
   generalize nth X k=x at *
   generalize nth Y k=y at *
   have d1:(0:Int)≤k:=by omega
   have d2:(k:Int)<n:=by omega
   have SH:=Lib.hid S;clear S
   by_cases hx:0≤x
   ·have e1:decide (0≤x)=true:=by simpa using hx
    by_cases hy:0≤y
    ·have e2:decide (0≤y)=true:=by simpa using hy
     cases o with
     | false =>
      rw [if_pos ⟨hx,hy,.inl rfl⟩] at HS
      go_wp2
      go_roundw
      case rel=>exact⟨k+1,by omega,by go_num,by rw [HS.out],by rw [HS.out],SH.out⟩
      case measure=>simp [intOf];omega
     | true =>
      by_cases hm:x+y<m
      ·have e3:decide (x+y<m)=true:=by simpa using hm
       rw [if_pos ⟨hx,hy,.inr hm⟩] at HS
       go_wp2
       go_roundw
       case rel=>exact⟨k+1,by omega,by go_num,by rw [HS.out],by rw [HS.out],SH.out⟩
       case measure=>simp [intOf];omega
      ·have e3:decide (x+y<m)=false:=by simpa using hm
       rw [if_neg (by rintro⟨_,_,h | h⟩;cases h;exact hm h)] at HS
       go_wp2
       go_roundw
       case rel=>exact⟨k+1,by omega,by go_num,by rw [HS.out],by rw [HS.out],SH.out⟩
       case measure=>simp [intOf];omega
    ·have e2:decide (0≤y)=false:=by simpa using hy
     rw [if_neg (fun h=>hy h.2.1)] at HS
     go_wp2
     go_roundw
     case rel=>exact⟨k+1,by omega,by go_num,by rw [HS.out],by rw [HS.out],SH.out⟩
     case measure=>simp [intOf];omega
   ·have e1:decide (0≤x)=false:=by simpa using hx
    rw [if_neg (fun h=>hx h.1)] at HS
    go_wp2
    go_roundw
    case rel=>exact⟨k+1,by omega,by go_num,by rw [HS.out],by rw [HS.out],SH.out⟩
    case measure=>simp [intOf];omega
  ·obtain rfl:k=n:=by omega
   have SH:=Lib.hid S;clear S
   go_wp2
   go_ret2
   exact⟨rfl,SH.out.ext⟩
end
section
open Go Go.RowKit
theorem Sep.freshMany {w0 w w':World} {Γ:List Pc} {e:TypeId} {size:Nat} {rows:List (Hd × List Value)} (S:Sep w0 w Γ) (h:Ext w w') (ho:∀ r∈rows,w'.ownsRow w.heap.size e size (.slice r.1.p r.1.n r.1.c) r.1.n r.2):Sep w0 w' (.many e size rows :: Γ) :=
 S.comp (Δ:=[.many e size rows]) ⟨h,fun p hp=>by rw [List.mem_singleton] at hp;subst hp;exact fun r hr=>own_base (ho r hr) (Nat.zero_le _),fun p hp k hk=>by
  rw [List.mem_singleton] at hp;subst hp
  obtain⟨r,hr,hk⟩:=hk
  exact(own_lt (ho r hr) hk).1,List.pairwise_singleton _ _⟩
theorem Sep.rdMany {w0 w:World} {Γ:List Pc} (S:Sep w0 w Γ) (j:Nat) {e:TypeId} {size:Nat} {rows:List (Hd × List Value)} (hj:Γ[j]?=some (.many e size rows)) {r:Hd × List Value} (hr:r∈rows) (hs:r.1.n≤9223372036854775807):Rd w size r.1.p r.1.n r.2:=Rd.of_own (S.manyAt j hj r hr) hs
section
variable {nx nb:Nat→List Int} {n s t:Nat} (h:Rev nx nb n) (hs:s<n) (ht:t<n)
include h hs ht in
theorem go_has {k:Nat} (h0:0≤lev nx n s t) (hm:meetB n (lev nx n s) (lev nb n t) k=false):hasL n (lev nx n s) ((k:Int)+1)=true∧hasL n (lev nb n t) ((k:Int)+1)=true∧2*(k:Int)<lev nx n s t:=by
 have h2:2*(k:Int)<lev nx n s t:=by
  have:=mt (meet_lev h hs ht (k:=k)).2 (by rw [hm];simp);omega
 refine⟨?_,?_,h2⟩
 ·obtain⟨v,hv,g1,_⟩:=lev_mid h hs ht (j:=k+1) h0 (by omega)
  exact hasL_iff.2 ⟨v,hv,by omega⟩
 ·obtain⟨v,hv,_,g1⟩:=lev_mid h hs ht (j:=(lev nx n s t).toNat - (k+1)) h0 (by omega)
  exact hasL_iff.2 ⟨v,hv,by omega⟩
end
def RunQ8 (b:Nat) (x y:List Int) (i:Nat) (v:Value) (W:World):Prop :=
 match i with
 | 2=>∃ q c,v=.slice q x.length c∧W.ownsRow b 3 1 (.slice q x.length c) x.length (encI x)
 | 5=>∃ q c,v=.slice q y.length c∧W.ownsRow b 3 1 (.slice q y.length c) y.length (encI y)
 | _=>True
theorem RunQ8_mono {b:Nat} {x y:List Int}:∀ i v W W',Ext W W'→RunQ8 b x y i v W→RunQ8 b x y i v W':=by
 intro i v W W' he h
 unfold RunQ8 at *
 split at h <;> first | trivial | (obtain⟨q,c,h1,h2⟩:=h;exact⟨q,c,h1,he.own h2⟩)
theorem runG (po:Option Addr) (no co:Nat) (O:List Int) (pt:Option Addr) (nt ct:Nat) (T:List Int) (pr:Option Addr) (nr cr:Nat) (R:List Int) (pv:Option Addr) (nv cv:Nat) (V:List Int) (gr ga gb n s t:Nat) (qa qb qfa0 qfb0:Option Addr) (w0 w:World) (hO:Rd w0 1 po no (encI O)) (hT:Rd w0 1 pt nt (encI T)) (hR:Rd w0 1 pr nr (encI R)) (hV:Rd w0 1 pv nv (encI V)) (hct:nt≤ct) (hcv:nv≤cv) (hck:checkR O T R V=true) (hno:O.length=n+1) (hs:s<n) (ht:t<n)
  (S:Sep w0 w [.blk gb 288 #[.func (.func 178) #[] #[.pointer (some ⟨gr,0,none⟩)],.slice qb n n,.slice qfb0 1 1],.own 3 1 qfb0 1 1 (encI [(t:Int)]),.own 3 1 qb n n (encI (bf0 n t)),.blk ga 288 #[.func (.func 177) #[] #[.pointer (some ⟨gr,0,none⟩)],.slice qa n n,.slice qfa0 1 1],.own 3 1 qfa0 1 1 (encI [(s:Int)]),.own 3 1 qa n n (encI (bf0 n s)),.blk gr 27 #[.slice po no co,.slice pt nt ct,.slice pr nr cr,.slice pv nv cv]]) :
  Calls Tryz.prog 113 #[.agg #[.pointer (some ⟨ga,0,none⟩),.pointer (some ⟨gb,0,none⟩)]] w fun e w'=>e=.returned (.tuple #[.int .i64 (stepsN n (lev (rowL O T) n s) (lev (rowL R V) n t)),.int .i64 (distN (lev (rowL O T) n s t)),.bool (distB (lev (rowL O T) n s t))])∧Ext w0 w':=by
 obtain⟨e1,e2,e3,e4⟩:=checkR_half hck
 have r3:=offB_parts (halfB_off e3)
 have hn:n≤200:=by omega
 have HREV:Hid (Rev (rowL O T) (rowL R V) n):=by have:=nxR_rev hck false;rw [hno] at this;exact this
 have HIA:Hid (InN (rowL O T) n):=by have:=row_in e3;rw [hno] at this;exact this
 have HIB:Hid (InN (rowL R V) n):=by have:=row_in e4;rw [← e1,hno] at this;exact this
 have HNA:=Lib.hid (fun W (h:Ext w0 W) (hB:Blk W gr 27 #[.slice po no co,.slice pt nt ct,.slice pr nr cr,.slice pv nv cv]) k (hk:k<n)=>open1Gr po no co O pt nt ct T pr nr cr R pv nv cv V gr k W (hO.ext h) (hT.ext h) (offOk_of (halfB_off e3)) hct (by omega) hB)
 have HNB:=Lib.hid (fun W (h:Ext w0 W) (hB:Blk W gr 27 #[.slice po no co,.slice pt nt ct,.slice pr nr cr,.slice pv nv cv]) k (hk:k<n)=>open2Gr po no co O pt nt ct T pr nr cr R pv nv cv V gr k W (hR.ext h) (hV.ext h) (offOk_of (halfB_off e4)) hcv (by omega) hB)
 have S0:=Lib.hid ((((((S.many0 3 1).pick [5,0,1,2,3,4,6,7] (by decide) rfl).gather).pick [2,0,1,3,4,5,6] (by decide) rfl).gather.al #[.pointer (some ⟨ga,0,none⟩),.pointer (some ⟨gb,0,none⟩)] 160 w.heap.size rfl).pick [1,2,3,4,5,6,0] (by decide) rfl)
 clear S hO hT hR hV hct hcv hck e1 e2 e3 e4 r3 hno
 have HSA:=cut_0 (nx:=rowL O T) hs
 have HSB:=cut_0 (nx:=rowL R V) ht
 generalize rowL O T=na at *
 generalize rowL R V=nb at *
 go_enter Tryz.func113,Tryz.ntmps113
 go_wp2
 go_step3
 go_wp2
 go_step3
 go_wp2
 go_loopw [2,3,4,5,6] (fun i _ _ _ _ wr=>∃ (k:Nat) (Fa Fb:List Int) (qfa qfb:Option Addr) (cfa cfb:Nat),k<n∧i=.int .i64 k∧IsFront (lev na n s) n k Fa∧IsFront (lev nb n t) n k Fb∧0<Fa.length∧0<Fb.length∧(0≤lev na n s t→2*(k:Int)≤lev na n s t+1)∧stepsK n (lev na n s) (lev nb n t) (n+1 - k) k=stepsN n (lev na n s) (lev nb n t)∧Sep w0 wr [.many 3 1 [(⟨qfa,Fa.length,cfa⟩,encI Fa),(⟨qfb,Fb.length,cfb⟩,encI Fb)],.blk gb 288 #[.func (.func 178) #[] #[.pointer (some ⟨gr,0,none⟩)],.slice qb n n,.slice qfb Fb.length cfb],.own 3 1 qb n n (encI (cutL (lev nb n t) n k)),.blk ga 288 #[.func (.func 177) #[] #[.pointer (some ⟨gr,0,none⟩)],.slice qa n n,.slice qfa Fa.length cfa],.own 3 1 qa n n (encI (cutL (lev na n s) n k)),.blk gr 27 #[.slice po no co,.slice pt nt ct,.slice pr nr cr,.slice pv nv cv],.blk w.heap.size 160 #[.pointer (some ⟨ga,0,none⟩),.pointer (some ⟨gb,0,none⟩)]]) (fun i _ _ _ _ _=>n - (intOf i).toNat)
 case atStart=>exact⟨0,[(s:Int)],[(t:Int)],qfa0,qfb0,1,1,by omega,rfl,front_0 hs,front_0 ht,by simp,by simp,fun h=>by omega,rfl,by rw [show ((0:Nat):Int)=0 from rfl,HSA,HSB];exact S0.out⟩
 case round =>
  clear S0
  obtain⟨k,Fa,Fb,qfa,qfb,cfa,cfb,hkn,rfl,hFa,hFb,la,lb,hD,hst,S⟩:=hrel
  have RFA:=S.rdMany 0 rfl (r:=(⟨qfa,Fa.length,cfa⟩,encI Fa)) (by simp) (by have:=nodup_small (n:=n) hFa.1 (fun x hx=>by have:=(hFa.2 x).1 hx;omega);simp only;omega)
  have RFB:=S.rdMany 0 rfl (r:=(⟨qfb,Fb.length,cfb⟩,encI Fb)) (by simp) (by have:=nodup_small (n:=n) hFb.1 (fun x hx=>by have:=(hFb.2 x).1 hx;omega);simp only;omega)
  have lfa:=nodup_small (n:=n) hFa.1 (fun x hx=>by have:=(hFa.2 x).1 hx;omega)
  have lfb:=nodup_small (n:=n) hFb.1 (fun x hx=>by have:=(hFb.2 x).1 hx;omega)
  have HBest:=Lib.hid (bestG 177 178 gr ga gb n qa n (cutL (lev na n s) n k) qfa Fa.length cfa qb n (cutL (lev nb n t) n k) qfb Fb.length cfb wr (S.blk 3 rfl) (S.blk 1 rfl) (S.rd 4 rfl (by omega)) (S.rd 2 rfl (by omega)) hn
   (fun v hv=>by rw [cutL_nth hv];unfold cut;split <;> omega) (fun v hv=>by rw [cutL_nth hv];unfold cut;split <;> omega))
  obtain⟨BY,BN⟩:=best_lev HREV.out hs ht hD
  obtain⟨pz,p0,p1⟩:=bklc0c1 (S.blk 6 rfl)
  cases hm:meetB n (lev na n s) (lev nb n t) k with
  | true =>
   rw [BY hm] at HBest
   have hd:=(meet_lev HREV.out hs ht).1 hm
   have hdn:Hid (distN (lev na n s t)=lev na n s t∧distB (lev na n s t)=true):=by
    unfold Hid distN distB;rw [if_pos hd.1];exact⟨rfl,by simpa using hd.1⟩
   have hst2:Hid (stepsN n (lev na n s) (lev nb n t)=k):=by
    unfold Hid
    rw [← hst,show n+1 - k=(n - k)+1 by omega];exact stepsK_meet hm
   obtain⟨D,hDe⟩:∃ D,D=lev na n s t:=⟨_,rfl⟩
   rw [← hDe] at HBest
   have hDe':=Lib.hid hDe
   have SH:=Lib.hid S;clear S
   clear BY BN hD hst hm hd hFa hFb la lb RFA RFB lfa lfb HNA HNB HREV HIA HIB HSA HSB hDe
   go_wp2_with (go_at_call 180;go_must (refine HBest.out.mono ?_;rintro e w1 ⟨rfl,hb⟩;have S1:=Lib.hid (SH.out.call hb);clear hb))
   rw [Exit.noGoto_ret]
   go_ret3
   exact⟨by rw [hst2.out,hdn.out.1,hdn.out.2,← hDe'.out];rfl,S1.out.ext⟩
  | false =>
   rw [BN hm] at HBest
   have HX:=Lib.hid (front_next hs HIA.out hFa (X:=cutL (lev na n s) n k) (fun v hv=>by rw [cutL_nth hv];exact cut_lt))
   have HY:=Lib.hid (front_next ht HIB.out hFb (X:=cutL (lev nb n t) n k) (fun v hv=>by rw [cutL_nth hv];exact cut_lt))
   have hm':=Lib.hid hm
   have hst':=Lib.hid hst
   have hD':=Lib.hid hD
   have BA:=Lib.hid (fun x hx=>⟨((hFa.2 x).1 hx).1,((hFa.2 x).1 hx).2.1⟩:∀ x∈Fa,0≤x∧x<n)
   have BB:=Lib.hid (fun x hx=>⟨((hFb.2 x).1 hx).1,((hFb.2 x).1 hx).2.1⟩:∀ x∈Fb,0≤x∧x<n)
   have FAH:=Lib.hid hFa
   have FBH:=Lib.hid hFb
   have SH:=Lib.hid S;clear S
   clear BY BN hD hst hm hFa hFb RFA RFB HSA HSB
   go_wp2_with (go_at_call 180;go_must (refine HBest.out.mono ?_;rintro e w1 ⟨rfl,hb⟩;have S1:=Lib.hid (SH.out.call hb);clear hb))
   have HA1:=Lib.hid (fun W (h:Ext w1 W)=>ahead1 ga gr n qa n (cutL (lev na n s) n k) qfa Fa.length cfa Fa na W ((S1.out.blk 3 rfl).ext h) ((S1.out.rd 4 rfl (by omega)).ext h) ((S1.out.rdMany 0 rfl (r:=(⟨qfa,Fa.length,cfa⟩,encI Fa)) (by simp) (by simp only;omega)).ext h) hn BA.out HIA.out (HNA.out W (Ext.trans S1.out.ext h) ((S1.out.blk 5 rfl).ext h)))
   have HA2:=Lib.hid (fun W (h:Ext w1 W)=>ahead2 gb gr n qb n (cutL (lev nb n t) n k) qfb Fb.length cfb Fb nb W ((S1.out.blk 1 rfl).ext h) ((S1.out.rd 2 rfl (by omega)).ext h) ((S1.out.rdMany 0 rfl (r:=(⟨qfb,Fb.length,cfb⟩,encI Fb)) (by simp) (by simp only;omega)).ext h) hn BB.out HIB.out (HNB.out W (Ext.trans S1.out.ext h) ((S1.out.blk 5 rfl).ext h)))
   generalize ahF na (cutL (lev na n s) n k) Fa []=x at *
   generalize ahF nb (cutL (lev nb n t) n k) Fb []=y at *
   have lx:=nodup_small (n:=n) HX.out.1 (fun v hv=>by have:=(HX.out.2 v).1 hv;omega)
   have ly:=nodup_small (n:=n) HY.out.1 (fun v hv=>by have:=(HY.out.2 v).1 hv;omega)
   obtain⟨q0,q1⟩:=bkc0c1 (S1.out.blk 6 rfl)
   clear HBest SH
   have y0:=fun x:ExtOf w1=>x.ext.cell q0
   have y1:=fun x:ExtOf w1=>x.ext.cell q1
   refine wp_region_mix [true,true,false,true,true,false] (RunQ8 w1.heap.size x y) (by kernel_rfl) (by kernel_rfl) (by kernel_rfl) RunQ8_mono ?_
   simp only [nfM]
   repeat (go_big_quiet_step ((fail)))
   refine wpQuiet_nil ⟨⟨fun vs W1 hE hd=>?_,fun vs W1 hE hd=>?_,trivial⟩,fun vs W1 hE hkn=>?_⟩
   ·simp [putM,go_sem]
    exact(HA1.out _ hE).mono fun e w' ⟨q,c,h1,S⟩=>⟨_,h1,⟨q,c,rfl,own_base (S.own 0 rfl) hE.size⟩,S.ext⟩
   ·simp [putM,go_sem]
    exact(HA2.out _ hE).mono fun e w' ⟨q,c,h1,S⟩=>⟨_,h1,⟨q,c,rfl,own_base (S.own 0 rfl) hE.size⟩,S.ext⟩
   obtain⟨⟨qx,cx,k1,ox⟩,⟨qy,cy,k2,oy⟩,_⟩:=hkn
   have S2:=Lib.hid (S1.out.freshMany hE (rows:=[(⟨qx,x.length,cx⟩,encI x),(⟨qy,y.length,cy⟩,encI y)]) (fun r hr=>by
    simp only [List.mem_cons,List.not_mem_nil,or_false] at hr
    rcases hr with rfl | rfl
    ·exact ox
    ·exact oy))
   simp only [putM,k1,k2,List.length_cons,List.length_nil,Nat.zero_add,Nat.reduceAdd,List.drop_succ_cons,List.drop_zero]
   clear y0 y1 k1 k2 ox oy hE q0 q1 HA1 HA2 S1
   obtain⟨r0,r1,rz⟩:=bkc0c1l (S2.out.blk 7 rfl)
   have HEND:Hid (x.length=0∨y.length=0→stepsN n (lev na n s) (lev nb n t)=k∧distN (lev na n s t)=0∧distB (lev na n s t)=false):=fun h0=>by
    have hno:¬ (hasL n (lev na n s) ((k:Int)+1)=true∧hasL n (lev nb n t) ((k:Int)+1)=true):=by
     rintro⟨g1,g2⟩
     have g1:=(front_has HX.out).1 g1
     have g2:=(front_has HY.out).1 g2
     omega
    have hneg:lev na n s t<0:=by
     apply Classical.byContradiction
     intro hge
     have:=go_has HREV.out hs ht (by omega) hm'.out
     exact hno ⟨this.1,this.2.1⟩
    refine⟨?_,?_,?_⟩
    ·have h1:=hst'.out
     rw [show n+1 - k=(n - k)+1 by omega,stepsK_end hm'.out hno] at h1
     exact h1.symm
    ·unfold distN;rw [if_neg (by omega)]
    ·unfold distB;simp;omega
   by_cases hx0:x.length=0
   ·have c1:((x.length:Int) == 0)=true:=by simp [hx0]
    have HE:=Lib.hid (HEND.out (.inl hx0))
    go_wp2
    rw [Exit.noGoto_ret]
    go_ret3
    exact⟨by rw [HE.out.1,HE.out.2.1,HE.out.2.2];rfl,S2.out.ext⟩
   ·have c1:((x.length:Int) == 0)=false:=by rw [beq_eq_false_iff_ne];omega
    by_cases hy0:y.length=0
    ·have c2:((y.length:Int) == 0)=true:=by simp [hy0]
     have HE:=Lib.hid (HEND.out (.inr hy0))
     go_wp2
     rw [Exit.noGoto_ret]
     go_ret3
     exact⟨by rw [HE.out.1,HE.out.2.1,HE.out.2.2];rfl,S2.out.ext⟩
    ·have c2:((y.length:Int) == 0)=false:=by rw [beq_eq_false_iff_ne];omega
     clear HEND
     have hfa0:=(FAH.out.2 _).1 (nth_mem (l:=Fa) (k:=0) la)
     have hfb0:=(FBH.out.2 _).1 (nth_mem (l:=Fb) (k:=0) lb)
     have HTA:=Lib.hid (take_cut HX.out)
     have HTB:=Lib.hid (take_cut HY.out)
     have T1:=Lib.hid (takeG 4 5 ga 177 gr n qa n (cutL (lev na n s) n k) qfa Fa.length cfa Fa qx x.length cx x S2.out (by decide) rfl rfl
      (fun W Y S=>S.rdMany 1 rfl (r:=(⟨qfa,Fa.length,cfa⟩,encI Fa)) (by simp) (by simp only;omega))
      (fun W Y S=>S.rdMany 0 rfl (r:=(⟨qx,x.length,cx⟩,encI x)) (by simp) (by simp only;omega))
      hn la (by omega) (by omega) ⟨hfa0.1,hfa0.2.1⟩ (fun v hv=>⟨((HX.out.2 v).1 hv).1,((HX.out.2 v).1 hv).2.1⟩) (fun h=>by have:=((HX.out.2 _).1 h).2.2;omega)
      (k:Int) (by rw [cutL_nth (by omega)];unfold cut;rw [if_pos (by omega)];exact hfa0.2.2) (by omega))
     rw [HTA.out] at T1
     have T2:=Lib.hid (fun (w2:World) (S:Sep w0 w2 [.many 3 1 [(⟨qx,x.length,cx⟩,encI x),(⟨qy,y.length,cy⟩,encI y)],.many 3 1 [(⟨qfa,Fa.length,cfa⟩,encI Fa),(⟨qfb,Fb.length,cfb⟩,encI Fb)],.blk gb 288 #[.func (.func 178) #[] #[.pointer (some ⟨gr,0,none⟩)],.slice qb n n,.slice qfb Fb.length cfb],.own 3 1 qb n n (encI (cutL (lev nb n t) n k)),.blk ga 288 #[.func (.func 177) #[] #[.pointer (some ⟨gr,0,none⟩)],.slice qa n n,.slice qx x.length cx],.own 3 1 qa n n (encI (cutL (lev na n s) n (k+1:Nat))),.blk gr 27 #[.slice po no co,.slice pt nt ct,.slice pr nr cr,.slice pv nv cv],.blk w.heap.size 160 #[.pointer (some ⟨ga,0,none⟩),.pointer (some ⟨gb,0,none⟩)]]) =>
      takeG 2 3 gb 178 gr n qb n (cutL (lev nb n t) n k) qfb Fb.length cfb Fb qy y.length cy y S (by decide) rfl rfl
      (fun W Y S=>S.rdMany 1 rfl (r:=(⟨qfb,Fb.length,cfb⟩,encI Fb)) (by simp) (by simp only;omega))
      (fun W Y S=>S.rdMany 0 rfl (r:=(⟨qy,y.length,cy⟩,encI y)) (by simp) (by simp only;omega))
      hn lb (by omega) (by omega) ⟨hfb0.1,hfb0.2.1⟩ (fun v hv=>⟨((HY.out.2 v).1 hv).1,((HY.out.2 v).1 hv).2.1⟩) (fun h=>by have:=((HY.out.2 _).1 h).2.2;omega)
      (k:Int) (by rw [cutL_nth (by omega)];unfold cut;rw [if_pos (by omega)];exact hfb0.2.2) (by omega))
     rw [HTB.out] at T2
     clear HTA HTB hfa0 hfb0
     have hk1:k+1<n:=has_lt hs ((front_has HX.out).2 (by omega))
     have HDD:Hid (0≤lev na n s t→2*((k+1:Nat):Int)≤lev na n s t+1):=fun h0=>by
      have:=(go_has HREV.out hs ht h0 hm'.out).2.2;omega
     have HSS:Hid (stepsK n (lev na n s) (lev nb n t) (n+1 - (k+1)) (k+1)=stepsN n (lev na n s) (lev nb n t)):=by
      unfold Hid
      rw [← hst'.out,show n+1 - k=(n - k)+1 by omega,show n+1 - (k+1)=n - k by omega]
      exact(stepsK_go hm'.out ⟨(front_has HX.out).2 (by omega),(front_has HY.out).2 (by omega)⟩).symm
     go_wp2_with (first
      | (go_at_call 182;have _t:=S3;go_must (refine(T2.out _ S3.out).mono ?_;rintro e w3 ⟨⟨v2,rfl⟩,Z⟩;have S4:=Lib.hid ((Z.pick [0,2,3,4,5,6,7] (by decide) rfl):Sep w0 w3 [.many 3 1 [(⟨qx,x.length,cx⟩,encI x),(⟨qy,y.length,cy⟩,encI y)],.blk gb 288 #[.func (.func 178) #[] #[.pointer (some ⟨gr,0,none⟩)],.slice qb n n,.slice qy y.length cy],.own 3 1 qb n n (encI (cutL (lev nb n t) n (k+1:Nat))),.blk ga 288 #[.func (.func 177) #[] #[.pointer (some ⟨gr,0,none⟩)],.slice qa n n,.slice qx x.length cx],.own 3 1 qa n n (encI (cutL (lev na n s) n (k+1:Nat))),.blk gr 27 #[.slice po no co,.slice pt nt ct,.slice pr nr cr,.slice pv nv cv],.blk w.heap.size 160 #[.pointer (some ⟨ga,0,none⟩),.pointer (some ⟨gb,0,none⟩)]]);clear Z))
      | (go_at_call 182;go_must (refine T1.out.mono ?_;rintro e w2 ⟨⟨v1,rfl⟩,Z⟩;have S3:=Lib.hid (Z:Sep w0 w2 [.many 3 1 [(⟨qx,x.length,cx⟩,encI x),(⟨qy,y.length,cy⟩,encI y)],.many 3 1 [(⟨qfa,Fa.length,cfa⟩,encI Fa),(⟨qfb,Fb.length,cfb⟩,encI Fb)],.blk gb 288 #[.func (.func 178) #[] #[.pointer (some ⟨gr,0,none⟩)],.slice qb n n,.slice qfb Fb.length cfb],.own 3 1 qb n n (encI (cutL (lev nb n t) n k)),.blk ga 288 #[.func (.func 177) #[] #[.pointer (some ⟨gr,0,none⟩)],.slice qa n n,.slice qx x.length cx],.own 3 1 qa n n (encI (cutL (lev na n s) n (k+1:Nat))),.blk gr 27 #[.slice po no co,.slice pt nt ct,.slice pr nr cr,.slice pv nv cv],.blk w.heap.size 160 #[.pointer (some ⟨ga,0,none⟩),.pointer (some ⟨gb,0,none⟩)]]);obtain⟨q0,q1,qz⟩:=bkc0c1l (S3.out.blk 7 rfl);clear Z)))
     go_roundw
     case rel=>exact⟨k+1,x,y,qx,qy,cx,cy,hk1,by go_num,HX.out,HY.out,by omega,by omega,HDD.out,HSS.out,S4.out⟩
     case measure=>simp [intOf];omega
end
section
open Go Go.RowKit
theorem openG_yes (po:Option Addr) (no co:Nat) (O:List Int) (pt:Option Addr) (nt ct:Nat) (T:List Int) (pr:Option Addr) (nr cr:Nat) (R:List Int) (pv:Option Addr) (nv cv:Nat) (V:List Int) (n s t:Nat) (w:World) (hO:Rd w 1 po no (encI O)) (hT:Rd w 1 pt nt (encI T)) (hR:Rd w 1 pr nr (encI R)) (hV:Rd w 1 pv nv (encI V)) (hct:nt≤ct) (hcv:nv≤cv) (hck:checkR O T R V=true) (hno:O.length=n+1) (hs:s<n) (ht:t<n) :
  Calls Tryz.prog 112 #[.agg #[.slice po no co,.slice pt nt ct,.slice pr nr cr,.slice pv nv cv],.int .i64 s,.int .i64 t] w fun e w'=>∃ gr ga gb qa qb qfa0 qfb0,e=.returned (.tuple #[.agg #[.pointer (some ⟨ga,0,none⟩),.pointer (some ⟨gb,0,none⟩)],.int .i64 0]) ∧
   Sep w w' [.blk gb 288 #[.func (.func 178) #[] #[.pointer (some ⟨gr,0,none⟩)],.slice qb n n,.slice qfb0 1 1],.own 3 1 qfb0 1 1 (encI [(t:Int)]),.own 3 1 qb n n (encI (bf0 n t)),.blk ga 288 #[.func (.func 177) #[] #[.pointer (some ⟨gr,0,none⟩)],.slice qa n n,.slice qfa0 1 1],.own 3 1 qfa0 1 1 (encI [(s:Int)]),.own 3 1 qa n n (encI (bf0 n s)),.blk gr 27 #[.slice po no co,.slice pt nt ct,.slice pr nr cr,.slice pv nv cv]]:=by
 have S0:=Lib.hid (((Sep.start w).al #[.slice po no co,.slice pt nt ct,.slice pr nr cr,.slice pv nv cv] 27 w.heap.size rfl).al #[.pointer none,.pointer none] 160 (w.heap.size+1) (by simp))
 have HC:=Lib.hid (fun W1 (h:Ext w W1)=>CheckR po no co O pt nt ct T pr nr cr R pv nv cv V W1 (hO.ext h) (hT.ext h) (hR.ext h) (hV.ext h) hct hcv)
 have l1:=hO.nI
 have r:=offB_parts (halfB_off (checkR_half hck).2.2.1)
 have hn:n≤200:=by omega
 rw [hck] at HC
 have hno2:(no:Int)=(n:Int)+1:=by omega
 obtain rfl:no=n+1:=by omega
 have d1:decide ((s:Int)<0)=false:=by simp
 have d2:decide ((n:Int)≤s)=false:=by simp;omega
 have d3:decide ((t:Int)<0)=false:=by simp
 have d4:decide ((n:Int)≤t)=false:=by simp;omega
 have d5:decide (n≤s)=false:=by simp;omega
 have d6:decide (n≤t)=false:=by simp;omega
 have HB1:=Lib.hid (fun W=>beginG 177 w.heap.size n s W hs hn)
 have HB2:=Lib.hid (fun W=>beginG 178 w.heap.size n t W ht hn)
 clear hO hT hR hV hck l1 r hno hno2
 go_enter Tryz.func112,Tryz.ntmps112
 go_wp2_with (first
  | (go_at_call 179;have _t:=S2;go_must (refine(HB2.out _).mono ?_;rintro e w3 ⟨gb,qb,qfb0,rfl,Z⟩;have S3:=Lib.hid (S2.out.comp Z);obtain⟨qz,q0,q1,qf,qg⟩:=bklc0c1z0z1 (S3.out.blk 6 rfl);clear Z))
  | (go_at_call 179;have _t:=S1;go_must (refine(HB1.out _).mono ?_;rintro e w2 ⟨ga,qa,qfa0,rfl,Z⟩;have S2:=Lib.hid (S1.out.comp Z);clear Z))
  | (go_at_call 82;go_must (refine(HC.out _ S0.out.ext).mono ?_;rintro e w1 ⟨rfl,hb⟩;have S1:=Lib.hid (S0.out.call hb);clear hb)))
 have S7:=((S3.out.set 6 rfl 0 (.pointer (some ⟨ga,0,none⟩))).set 6 rfl 1 (.pointer (some ⟨gb,0,none⟩)))
 obtain⟨b0,b1⟩:=bkc0c1 (S7.blk 6 rfl)
 refine bodyPost_ret (v:=.tuple #[.agg #[.pointer (some ⟨ga,0,none⟩),.pointer (some ⟨gb,0,none⟩)],.int .i64 0]) (by simp [results,Tryz.results112,go_sem,b0,b1,Tryz.sizeOf160,Tryz.isAgg160]) rfl ⟨w.heap.size,ga,gb,qa,qb,qfa0,qfb0,rfl,?_⟩
 exact S7.pick [0,1,2,3,4,5,7] (by decide) rfl
end
section
open Go Go.RowKit
theorem DistG_yes (po:Option Addr) (no co:Nat) (O:List Int) (pt:Option Addr) (nt ct:Nat) (T:List Int) (pr:Option Addr) (nr cr:Nat) (R:List Int) (pv:Option Addr) (nv cv:Nat) (V:List Int) (n s t:Nat) (w:World) (hO:Rd w 1 po no (encI O)) (hT:Rd w 1 pt nt (encI T)) (hR:Rd w 1 pr nr (encI R)) (hV:Rd w 1 pv nv (encI V)) (hct:nt≤ct) (hcv:nv≤cv) (hck:checkR O T R V=true) (hno:O.length=n+1) (hs:s<n) (ht:t<n) :
  Calls Tryz.prog 67 #[.agg #[.slice po no co,.slice pt nt ct,.slice pr nr cr,.slice pv nv cv],.int .i64 s,.int .i64 t] w fun e w'=>e=.returned (.tuple #[.int .i64 (distN (lev (rowL O T) n s t)),.bool (distB (lev (rowL O T) n s t)),.int .i64 0])∧Ext w w':=by
 have HO:=Lib.hid (fun W1 (h:Ext w W1)=>openG_yes po no co O pt nt ct T pr nr cr R pv nv cv V n s t W1 (hO.ext h) (hT.ext h) (hR.ext h) (hV.ext h) hct hcv hck hno hs ht)
 have S0:=Lib.hid ((Sep.start w).al #[.slice po no co,.slice pt nt ct,.slice pr nr cr,.slice pv nv cv] 27 w.heap.size rfl)
 have HRUN:=Lib.hid (fun gr ga gb qa qb qfa0 qfb0 W1 S=>runG po no co O pt nt ct T pr nr cr R pv nv cv V gr ga gb n s t qa qb qfa0 qfb0 w W1 hO hT hR hV hct hcv hck hno hs ht S)
 clear hO hT hR hV hck hno
 go_enter Tryz.func67,Tryz.ntmps67
 go_wp2_with (first
  | (go_at_call 113;go_must (refine(HRUN.out gr ga gb qa qb qfa0 qfb0 _ ((S1.out.al #[.pointer (some ⟨ga,0,none⟩),.pointer (some ⟨gb,0,none⟩)] 160 w1.heap.size rfl).pick [1,2,3,4,5,6,7] (by decide) rfl)).mono ?_;rintro e w2 ⟨rfl,hb⟩;have HB:=Lib.hid hb;clear hb))
  | (go_at_call 112;go_must (refine(HO.out _ S0.out.ext).mono ?_;rintro e w1 ⟨gr,ga,gb,qa,qb,qfa0,qfb0,rfl,Z⟩;have S1:=Lib.hid (S0.out.comp Z);clear Z)))
 go_ret3
 exact⟨rfl,HB.out⟩
end
section
open Go Go.RowKit
def AskA (O T R V:List Int) (L:List Po) (k f t:Int) (ws:List ByteArray) (rad most:Int) (b:Bool) (d:Int) (F:List (Int × Int)):Prop :=
 (k=1→b=distB (lev (rowL O T) (O.length - 1) f.toNat t.toNat)∧d=distN (lev (rowL O T) (O.length - 1) f.toNat t.toNat)∧F=[])∧(k=2→b=distB (lev (rowL O T) (O.length - 1) f.toNat t.toNat)∧d=0∧F=[])∧(k=3→F=firstN (nearR true O T R V f L ws rad) most∧b=decide (0<F.length)∧d=0)
def AskS (O T R V:List Int) (L:List Po) (k f t:Int) (ws:List ByteArray) (rad most:Int) (b:Bool) (d:Int) (F:List (Int × Int)) (e:Int):Prop :=
 e=chkJ (checkR O T R V) k f t ws rad most O.length∧(e≠0→b=false∧d=0∧F=[])∧(e=0→AskA O T R V L k f t ws rad most b d F)
theorem chkJ_facts {O T R V:List Int} {k f t rad most:Int} {ws:List ByteArray} (h:chkJ (checkR O T R V) k f t ws rad most O.length=0) :
  checkR O T R V=true∧chkQ k f t ws rad most ((O.length:Int) - 1)=0∧∃ n,O.length=n+1∧0≤f∧f<n ∧
   ((k=1∨k=2)∧0≤t∧t<n∨k=3∧1≤ws.length∧ws.length≤8∧0≤rad∧rad≤200∧1≤most∧most≤100):=by
 have hck:checkR O T R V=true:=by
  cases hc:checkR O T R V with
  | true=>rfl
  | false=>rw [hc] at h;unfold chkJ at h;rw [if_neg (by simp)] at h;cases h
 have hq:chkQ k f t ws rad most ((O.length:Int) - 1)=0:=by rw [hck] at h;unfold chkJ at h;rw [if_pos rfl] at h;exact h
 obtain⟨n,hn⟩:∃ n,O.length=n+1:=by
  obtain⟨e1,e2,e3,e4⟩:=checkR_half hck
  obtain⟨r1,r2,r3,r4,r5,r6⟩:=offB_parts (halfB_off e3)
  exact⟨O.length - 1,by omega⟩
 refine⟨hck,hq,n,hn,?_⟩
 have ho:=chkQ_zero.1 hq
 by_cases h12:k=1∨k=2
 ·rw [okQ_12 h12,Bool.and_eq_true] at ho
  obtain⟨o1,o2⟩:=ho
  rw [plcB_iff] at o1 o2
  exact⟨by omega,by omega,.inl ⟨h12,by omega,by omega⟩⟩
 ·by_cases h3:k=3
  ·subst h3
   rw [okQ_3,Bool.and_eq_true,Bool.and_eq_true] at ho
   obtain⟨⟨o1,o2⟩,o3⟩:=ho
   rw [plcB_iff] at o1
   unfold manyB at o2
   unfold numB at o3
   simp only [Bool.and_eq_true,decide_eq_true_eq] at o2 o3
   exact⟨by omega,by omega,.inr ⟨rfl,by omega,by omega,by omega,by omega,by omega,by omega⟩⟩
  ·rw [okQ_else h12 h3] at ho
   cases ho
theorem nearC_ok {O:List Int} {f rad:Int} {ws:List ByteArray} {n:Nat} (hn:O.length=n+1) (h0:0≤f) (h1:f<n) (hw:1≤ws.length) (hr:0≤rad):nearC true O f ws rad=0:=by
 have hl:levC true O f=0:=by unfold levC;rw [if_pos rfl,if_pos (by rw [hn];omega)]
 unfold nearC
 rw [hl,if_neg (by simp),if_neg (by omega)]
theorem askA_uniq {O T R V:List Int} {L:List Po} {k f t:Int} {ws:List ByteArray} {rad most:Int} {b b':Bool} {d d':Int} {F F':List (Int × Int)} (hk:k=1∨k=2∨k=3)
  (h:AskA O T R V L k f t ws rad most b d F) (h':AskA O T R V L k f t ws rad most b' d' F'):b=b'∧d=d'∧F=F':=by
 rcases hk with e | e | e
 ·obtain⟨a1,a2,a3⟩:=h.1 e
  obtain⟨c1,c2,c3⟩:=h'.1 e
  exact⟨by rw [a1,c1],by rw [a2,c2],by rw [a3,c3]⟩
 ·obtain⟨a1,a2,a3⟩:=h.2.1 e
  obtain⟨c1,c2,c3⟩:=h'.2.1 e
  exact⟨by rw [a1,c1],by rw [a2,c2],by rw [a3,c3]⟩
 ·obtain⟨a1,a2,a3⟩:=h.2.2 e
  obtain⟨c1,c2,c3⟩:=h'.2.2 e
  rw [← a1] at c1
  subst c1
  exact⟨by rw [a2,c2],by rw [a3,c3],rfl⟩
theorem run_ask {O T R V:List Int} {L:List Po} {k f t:Int} {ws:List ByteArray} {rad most:Int} {m:Nat} {b:Bool} {d:Int} {F:List (Int × Int)} (h0:chkJ (checkR O T R V) k f t ws rad most O.length=0) (h200:O.length≤201)
  (hd:doneB k t (runM (nextL k rad true O T R V) (startQ k f t 0) (m+1))=true) (hf:∀ j,j<m→doneB k t (runM (nextL k rad true O T R V) (startQ k f t 0) (j+1))=false)
  (hA:AnsD k t L ws most (runM (nextL k rad true O T R V) (startQ k f t 0) (m+1)) b d F):AskA O T R V L k f t ws rad most b d F:=by
 obtain⟨hck,hq,n,hn,f0,f1,hcs⟩:=chkJ_facts h0
 obtain⟨s,rfl⟩:∃ s:Nat,f=(s:Int):=⟨f.toNat,by omega⟩
 have hO1:O.length - 1=n:=by omega
 unfold AskA
 rw [hO1,Int.toNat_natCast]
 rcases hcs with ⟨hk,t0,t1⟩ | ⟨hk,w1,w8,r0,r2,m1,m2⟩
 ·obtain⟨u,rfl⟩:∃ u:Nat,t=(u:Int):=⟨t.toNat,by omega⟩
  rw [Int.toNat_natCast]
  refine⟨fun h=>?_,fun h=>?_,fun h=>by omega⟩
  ·subst h
   obtain⟨g1,g2⟩:=hA.1 rfl
   obtain⟨x1,x2⟩:=ask_far (k:=1) (rad:=rad) (n:=n) (s:=s) (t:=u) hck hn (by omega) (Or.inl rfl) (fun h=>absurd h (by decide)) (by omega) (fun _=>by omega) rfl hd hf g1
   exact⟨x1,x2,g2⟩
  ·subst h
   obtain⟨g1,g2,g3⟩:=hA.2.1 rfl
   have x1:=ask_at (k:=2) (rad:=rad) (n:=n) (s:=s) (t:=u) hck hn (by omega) (Or.inr (Or.inl rfl)) (fun h=>absurd h (by decide)) (by omega) (fun h=>absurd h (by decide)) rfl (by omega) hd
   exact⟨g1.trans x1,g2,g3⟩
 ·subst hk
  refine⟨fun h=>absurd h (by decide),fun h=>absurd h (by decide),fun _=>?_⟩
  have e1:startQ 3 (s:Int) t 0=startQ 3 (s:Int) ((0:Nat):Int) 0:=rfl
  have e2:∀ p,doneB 3 t p=doneB 3 ((0:Nat):Int) p:=fun p=>rfl
  rw [e1] at hd hA
  rw [e2] at hd
  obtain⟨x1,x2⟩:=ask_near (k:=3) (rad:=rad) (most:=most) (n:=n) (s:=s) (t:=0) hck hn (by omega) (Or.inr (Or.inr rfl)) (fun _=>r0) (by omega) (fun h=>absurd h (by decide)) rfl hd (P:=allX L ws) (allX_nodup L ws)
  obtain⟨g1,g2,g3⟩:=hA.2.2 rfl x1
  have hl:levC true O (s:Int)=0:=by unfold levC;rw [if_pos rfl,if_pos (by rw [hn];omega)]
  have hR:nearR true O T R V (s:Int) L ws rad=sortN (gatN ((List.range n).map fun v=>lev (rowL O T) n s v) rad (allX L ws)):=by
   unfold nearR
   rw [if_pos (nearC_ok hn (by omega) (by omega) w1 r0)]
   unfold levR
   rw [if_pos hl,hO1,Int.toNat_natCast]
   rfl
  refine⟨?_,g2,g3⟩
  rw [hR]
  exact g1.trans x2
theorem run_asks {O T R V:List Int} {L:List Po} {k f t:Int} {ws:List ByteArray} {rad most wv bud:Int} {b b':Bool} {d d':Int} {F F':List (Int × Int)} {n e e':Int} (h200:O.length≤201)
  (hR:RunS O T R V L k f t ws rad most wv bud b d F n e) (hA:AskS O T R V L k f t ws rad most b' d' F' e') (hw:1≤wv∧wv≤16) (hb:1≤bud) :
  (e=e'∧b=b'∧d=d'∧F=F'∧e≠251∧n≤O.length∧(e=0→n≤bud))∨(e=251∧e'=0∧b=false∧d=0∧F=[]∧n=bud∧bud<O.length):=by
 by_cases h0:chkJ (checkR O T R V) k f t ws rad most O.length=0
 ·obtain⟨hk,m,a1,a2,a3,a4,a5⟩:=hR.2.2 h0 ⟨hw.1,hw.2,hb⟩
  have he':e'=0:=hA.1.trans h0
  by_cases hm:(m:Int)+1≤bud
  ·obtain⟨x1,x2,x3⟩:=a4 hm
   obtain⟨y1,y2,y3⟩:=askA_uniq hk (run_ask h0 h200 a2 a3 x1) (hA.2.2 he')
   exact .inl ⟨by rw [x3,he'],y1,y2,y3,by omega,by omega,fun _=>by omega⟩
  ·obtain⟨x1,x2,x3,x4,x5⟩:=a5 (by omega)
   exact .inr ⟨x5,he',x1,x2,x3,x4,by omega⟩
 ·obtain⟨x1,x2,x3,x4,x5⟩:=hR.1 h0
  have he':e'=chkJ (checkR O T R V) k f t ws rad most O.length:=hA.1
  obtain⟨y1,y2,y3⟩:=hA.2.1 (by rw [he'];exact h0)
  have h251:chkJ (checkR O T R V) k f t ws rad most O.length≠251:=by
   unfold chkJ chkQ
   split
   ·split <;> decide
   ·decide
  exact .inl ⟨by rw [x5,he'],by rw [x1,y1],by rw [x2,y2],by rw [x3,y3],by rw [x5];exact h251,by omega,fun h=>absurd (x5.symm.trans h) h0⟩
theorem run_more {O T R V:List Int} {L:List Po} {k f t:Int} {ws:List ByteArray} {rad most wv bud more:Int} {b b':Bool} {d d':Int} {F F':List (Int × Int)} {n n' e e':Int}
  (hR:RunS O T R V L k f t ws rad most wv bud b d F n e) (hM:RunS O T R V L k f t ws rad most wv more b' d' F' n' e') (hw:1≤wv∧wv≤16) (hb:1≤bud) (hm:bud≤more) :
  (e≠251→e'=e∧b'=b∧d'=d∧F'=F∧n'=n)∧(e=251→e'=251∨e'=0∧bud<n'):=by
 by_cases h0:chkJ (checkR O T R V) k f t ws rad most O.length=0
 ·obtain⟨hk,m,a1,a2,a3,a4,a5⟩:=hR.2.2 h0 ⟨hw.1,hw.2,hb⟩
  obtain⟨_,m',c1,c2,c3,c4,c5⟩:=hM.2.2 h0 ⟨hw.1,hw.2,by omega⟩
  obtain rfl:m=m':=least_uniqB (p:=fun i=>doneB k t (runM (nextL k rad true O T R V) (startQ k f t 0) (i+1))) a2 a3 c2 c3
  by_cases hbm:(m:Int)+1≤bud
  ·obtain⟨x1,x2,x3⟩:=a4 hbm
   obtain⟨y1,y2,y3⟩:=c4 (by omega)
   obtain⟨z1,z2,z3⟩:=ansD_uniq hk a2 x1 y1
   exact⟨fun _=>⟨by rw [x3,y3],z1.symm,z2.symm,z3.symm,by rw [x2,y2]⟩,fun h=>by omega⟩
  ·obtain⟨x1,x2,x3,x4,x5⟩:=a5 (by omega)
   refine⟨fun h=>absurd x5 h,fun _=>?_⟩
   by_cases hbm':(m:Int)+1≤more
   ·obtain⟨y1,y2,y3⟩:=c4 hbm'
    exact .inr ⟨y3,by omega⟩
   ·exact .inl (c5 (by omega)).2.2.2.2
 ·obtain⟨x1,x2,x3,x4,x5⟩:=hR.1 h0
  obtain⟨y1,y2,y3,y4,y5⟩:=hM.1 h0
  have h251:chkJ (checkR O T R V) k f t ws rad most O.length≠251:=by
   unfold chkJ chkQ
   split
   ·split <;> decide
   ·decide
  exact⟨fun _=>⟨by rw [x5,y5],by rw [x1,y1],by rw [x2,y2],by rw [x3,y3],by rw [x4,y4]⟩,fun h=>absurd (x5.symm.trans h) h251⟩
end
end Go.Proofs.YtfjhjennfiihhaaGreat
