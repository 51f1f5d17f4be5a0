/- Texts of this claim, one behind the other: Base, PlainSum, Spec, R1, Sep, Rng, Nd1, Enc4, PlainK, PlainRun, PlainEach, PlainOrd, MapI, MapK, PlainCmb, R2, R3, G3, G4, StrLaws, G5, Plain, Set5, SortI, Rel, Mix, Rise5. -/
import Derived.WalkKit
import Derived.WalkSpells
import Derived.WalkLawsBesides
import Derived.Outline
import Derived.BigQuiet
import Derived.Deep.QuietTactic
import Derived.LoopTactic
import Derived.Lib.Hide
import Derived.Maps.AppendAt
import Derived.Deep.AppendLies
import Derived.OwnWalk
import Derived.Sort.Walk0
import Derived.StillTailTactics
import Derived.Deep.DeepCutAuto
import Derived.Test.YtfjhjennfiihhaaGreatProg
import Derived.RangeFuncNested
import Derived.RangeFuncBound
import Derived.RangeFuncCalls
import Derived.RangeFuncLeaves
import Derived.Sort.QuietThIn
import Derived.OwnWalkIn
import Derived.TacticsInMore
import Derived.LoopNIn
import Derived.LoopIn
import Derived.Maps.RangeWalk
import Derived.Maps.OwnSet
import Derived.Shelf.SlSortCmp.WholeK
import Derived.Test.YtfjhjennfiihhaaGreatLay
import Derived.Lib.Bytealg
import Derived.StillTail
import Derived.Laws.EntriesVeiled
import Derived.Shelf.Abstract
import Derived.Handy
import Derived.Deep.RegionHeld3
import Derived.IntWalk
import Derived.Deep.OwnRows
import Derived.DeepKeys5
import Derived.ProofKit
import Derived.Deep.Slices
import Derived.Deep.Fields
import Derived.ChangeSame
import Derived.Lib.SmallJoins
import Derived.Below
import Derived.Laws.IdiomCopy
import Derived.Laws.CopyOwn
import Derived.Deep.MidRow
import Derived.Deep.RegionWith
import Derived.Deep.DrawnRows
import Derived.WalkMore
import Derived.Deep.LoopGhost
import Derived.Shelf.Bits.Mul64
import Derived.OrdersIn
import Derived.OrdersHeld
import Derived.Deep.RegionHeld
import Derived.Sort.LoopGhostIn
import Derived.Carry
import Derived.OpenShut
set_option maxRecDepth 100000
set_option maxHeartbeats 16000000
namespace Go.Proofs.YtfjhjennfiihhaaGreat
section
open Go Go.RowKit
def adr (p:Option Addr) (j:Nat):Addr:=⟨(p.getD ⟨0,0,none⟩).block,(p.getD ⟨0,0,none⟩).off+j,none⟩
def SlP (p:Option Addr) (n:Nat):Prop:=n=0∨∃ b o,p=some ⟨b,o,none⟩
theorem SlP.some {p:Option Addr} {n:Nat} (h:SlP p n) (hn:0<n):p=Option.some (adr p 0):=by
 rcases h with h | ⟨b,o,rfl⟩
 ·omega
 ·simp [adr]
theorem adr_add (p:Option Addr) (j n:Nat):(adr p j).add n=adr p (j+n):=by
 by_cases h:n=0
 ·subst h;simp [adr,Addr.add]
 ·simp [adr,Addr.add,h,Nat.add_assoc]
theorem adr_block (p:Option Addr) (j:Nat):(adr p j).block=(adr p 0).block:=rfl
theorem adr_some (b o j:Nat):adr (some ⟨b,o,none⟩) j=⟨b,o+j,none⟩:=rfl
theorem adr_zero_add (p:Option Addr) (j:Nat):(adr p j).add 0=adr p j:=by rw [adr_add];rfl
attribute [go_sem ↓ high] adr_add
attribute [go_sem ↓ high] adr_zero_add
section
variable {P:Program}
theorem run_indexAt_opt (w:World) (t:TypeId) (p:Option Addr) (len cap:Nat) (k:IntKind) (i:Int) (h:P.underlying t=some (.slice (P.elem t))) (hp:SlP p len) :
  (Instr.indexAt t (.slice p len cap) (.int k i)).run P w =
   if 0≤i∧i<len then ((sizeOf (P.elem t)).run P w).andThen fun s w=>.ok (.pointer (some (adr p (i.toNat*s)))) w
   else (boundsPanic k i (if p.isSome then (len:Int) else 0) .index).run P w:=by
 rcases hp with hp | ⟨b,o,rfl⟩
 ·subst hp
  rw [if_neg (by omega)]
  cases p <;> simp [Instr.indexAt,run_underlying h,asIntOf]
  intro h1 h2;omega
 ·rw [run_indexAt_slice _ _ _ _ _ _ _ h];simp [adr,Addr.add_lit]
attribute [go_sem] run_indexAt_opt
theorem cell_alloc_adr (w:World) (o:Obj) (p:Option Addr) (j:Nat) (h:(adr p 0).block<w.heap.size):(w.alloc o).cell? (adr p j)=w.cell? (adr p j) :=
 World.cell?_alloc_lt w o (adr p j) h
attribute [go_sem] cell_alloc_adr
end
abbrev Ext (w w':World):Prop:=Below w.heap.size w w'
section
variable {a b c w w':World}
theorem Ext.refl (w:World):Ext w w:=Below.refl _ _
theorem Ext.trans (h:Ext a b) (k:Ext b c):Ext a c:=Below.trans h (k.mono h.size)
theorem Ext.alloc (h:Ext a w) (o:Obj):Ext a (w.alloc o):=Below.alloc h h.size o
theorem Below.drewN {B:Nat} (h:Below B a w) (n:Nat):Below B a (w.drewN n):=⟨h.os,h.tape,h.output,h.size,h.block⟩
theorem Ext.drewN (h:Ext a w) (n:Nat):Ext a (w.drewN n):=⟨h.os,h.tape,h.output,h.size,h.block⟩
theorem Ext.cell (h:Ext a b) {p:Addr} {v:Value} (hc:a.cell? p=some v):b.cell? p=some v:=by
 rw [Below.cell h (World.block_lt_of_cell? a p hc)];exact hc
theorem Ext.grown (h:Ext a b):a.grownBy b none:=⟨h.os,h.tape,h.output,h.size,fun k hk _=>h.block k hk⟩
theorem Ext.own (h:Ext a b) {base:Nat} {e:TypeId} {size:Nat} {v:Value} {n:Nat} {xs:List Value} (ho:a.ownsRow base e size v n xs):b.ownsRow base e size v n xs :=
 ho.kept h.grown (by cases v.ownBlock <;> simp)
end
structure ExtOf (W:World) where
 val:World
 ext:Ext W val
instance (W:World):Nonempty (ExtOf W):=⟨⟨W,Below.refl _ _⟩⟩
section
variable {P:Program}
theorem wp_region_ext {id:Nat} {Q:Exit→Act→World→Prop} {a:Act} {w:World} {l:List Oper} (hm:P.follows .mixedOrders=true) (hB:Region.lexB .any l.toArray=true)
  (h:wpQuiet P l.toArray (fun w'=>∃ x:ExtOf w,w'=x.val) (fun a'=>∀ w',(∃ x:ExtOf w,w'=x.val)→Q .normal a' w') l a):(Code.region id l.toArray true).wp P Q a w :=
 wp_region_quiet (C:=fun w'=>∃ x:ExtOf w,w'=x.val) hm hB ⟨⟨{ w with drawn:=w.drawn+1 },⟨rfl,rfl,rfl,Nat.le_refl _,fun _ _=>rfl⟩⟩,rfl⟩ (by simpa using h)
theorem Calls.ext_of {f:FuncId} {args:Array Value} {w:World} {x:ExtOf w} {v:Value}
  (h:Calls P f args x.val fun e w'=>e=.returned v∧Ext x.val w'):Calls P f args x.val fun e w''=>e=.returned v∧∃ y:ExtOf w,w''=y.val :=
 h.mono fun _ w' ⟨he,hb⟩=>⟨he,⟨w',x.ext.trans hb⟩,rfl⟩
end
structure Rd (w:World) (size:Nat) (p:Option Addr) (n:Nat) (xs:List Value):Prop where
 len:xs.length=n*size
 ptr:SlP p n
 small:n≤9223372036854775807
 cells:∀ j,j<n*size→w.cell? (adr p j)=some (xs.getD j undef)
section
variable {w w':World} {size n:Nat} {p:Option Addr} {xs:List Value}
theorem Rd.nil (w:World) (size:Nat) (p:Option Addr):Rd w size p 0 []:=⟨by simp,.inl rfl,by omega,fun j hj=>by omega⟩
theorem Rd.ext (h:Rd w size p n xs) (he:Ext w w'):Rd w' size p n xs:=⟨h.len,h.ptr,h.small,fun j hj=>he.cell (h.cells j hj)⟩
theorem Rd.drewN (h:Rd w size p n xs) (k:Nat):Rd (w.drewN k) size p n xs:=⟨h.len,h.ptr,h.small,h.cells⟩
theorem Rd.lt (h:Rd w size p n xs) (hn:0<n*size):(adr p 0).block<w.heap.size:=World.block_lt_of_cell? w _ (h.cells 0 hn)
theorem Rd.below {B:Nat} {a:World} (h:Rd a size p n xs) (hb:Below B a w) (hB:0<n*size→(adr p 0).block<B):Rd w size p n xs :=
 ⟨h.len,h.ptr,h.small,fun j hj=>by rw [Below.cell hb (by rw [adr_block];exact hB (by omega))];exact h.cells j hj⟩
end
def nth {α:Type} [Inhabited α] (l:List α) (j:Nat):α:=l.getD j default
theorem nth_eq {α:Type} [Inhabited α] {l:List α} {j:Nat} (h:j<l.length):nth l j=l[j]:=by simp [nth,h]
theorem take_succ_nth {α:Type} [Inhabited α] (l:List α) (k:Nat) (h:k<l.length):l.take (k+1)=l.take k ++ [nth l k]:=by
 rw [List.take_succ_eq_append_getElem h,nth_eq h]
theorem drop_nth {α:Type} [Inhabited α] (l:List α) (k:Nat) (h:k<l.length):l.drop k=nth l k :: l.drop (k+1):=by
 rw [List.drop_eq_getElem_cons h,nth_eq h]
def encI (l:List Int):List Value:=l.map (.int .i64)
def encS (l:List ByteArray):List Value:=l.map .string
def encE (l:List (Int × Int)):List Value:=l.flatMap fun e=>[.int .i64 e.1,.int .i64 e.2]
theorem encI_len (l:List Int):(encI l).length=l.length:=by simp [encI]
theorem encS_len (l:List ByteArray):(encS l).length=l.length:=by simp [encS]
theorem encE_len (l:List (Int × Int)):(encE l).length=l.length*2:=by
 induction l with
 | nil=>rfl
 | cons x l ih=>simp only [encE,List.flatMap_cons,List.length_append,List.length_cons] at ih ⊢;rw [ih];simp;omega
theorem encI_get (l:List Int) (k:Nat) (h:k<l.length):(encI l).getD k undef=.int .i64 (nth l k):=by simp [encI,nth,h]
theorem encS_get (l:List ByteArray) (k:Nat) (h:k<l.length):(encS l).getD k undef=.string (nth l k):=by simp [encS,nth,h]
theorem encE_get (l:List (Int × Int)):∀ (k:Nat),k<l.length→(encE l).getD (k*2) undef=.int .i64 (nth l k).1∧(encE l).getD (k*2+1) undef=.int .i64 (nth l k).2:=by
 induction l with
 | nil=>intro k h;simp at h
 | cons x l ih =>
  intro k h
  cases k with
  | zero=>exact⟨rfl,rfl⟩
  | succ k =>
   have:=ih k (by simpa using h)
   have e1:(k+1)*2=k*2+1+1:=by omega
   have e2:nth (x :: l) (k+1)=nth l k:=rfl
   rw [e1,e2]
   exact this
section
variable {w w':World} {n:Nat} {p:Option Addr}
theorem Rd.nI {l:List Int} (h:Rd w 1 p n (encI l)):n=l.length:=by have:=h.len;rw [encI_len] at this;omega
theorem Rd.nS {l:List ByteArray} (h:Rd w 1 p n (encS l)):n=l.length:=by have:=h.len;rw [encS_len] at this;omega
theorem Rd.nE {l:List (Int × Int)} (h:Rd w 2 p n (encE l)):n=l.length:=by have:=h.len;rw [encE_len] at this;omega
theorem Rd.cI {l:List Int} (h:Rd w 1 p n (encI l)) {k:Nat} (hk:k<n):w.cell? (adr p k)=some (.int .i64 (nth l k)):=by
 rw [h.cells k (by omega),encI_get _ _ (by have:=h.nI;omega)]
theorem Rd.cS {l:List ByteArray} (h:Rd w 1 p n (encS l)) {k:Nat} (hk:k<n):w.cell? (adr p k)=some (.string (nth l k)):=by
 rw [h.cells k (by omega),encS_get _ _ (by have:=h.nS;omega)]
theorem Rd.cE {l:List (Int × Int)} (h:Rd w 2 p n (encE l)) {k:Nat} (hk:k<n):w.cell? (adr p (k*2))=some (.int .i64 (nth l k).1):=by
 rw [h.cells (k*2) (by omega),(encE_get _ _ (by have:=h.nE;omega)).1]
theorem Rd.cE2 {l:List (Int × Int)} (h:Rd w 2 p n (encE l)) {k:Nat} (hk:k<n):w.cell? (adr p (k*2+1))=some (.int .i64 (nth l k).2):=by
 rw [h.cells (k*2+1) (by omega),(encE_get _ _ (by have:=h.nE;omega)).2]
end
structure Hd where
 p:Option Addr
 n:Nat
 c:Nat
instance:Inhabited Hd:=⟨⟨none,0,0⟩⟩
def Hd.v (h:Hd):Value:=.slice h.p h.n h.c
def encH (l:List Hd):List Value:=l.map Hd.v
theorem encH_len (l:List Hd):(encH l).length=l.length:=by simp [encH]
theorem encH_get (l:List Hd) (k:Nat) (h:k<l.length):(encH l).getD k undef=.slice (nth l k).p (nth l k).n (nth l k).c:=by simp [encH,nth,h,Hd.v]
structure RdW (w:World) (p:Option Addr) (n:Nat) (hs:List Hd) (wss:List (List ByteArray)):Prop where
 hn:hs.length=wss.length
 row:Rd w 1 p n (encH hs)
 each:∀ j,j<n→Rd w 1 (nth hs j).p (nth hs j).n (encS (nth wss j))
section
variable {w w':World} {n:Nat} {p:Option Addr} {hs:List Hd} {wss:List (List ByteArray)}
theorem Rd.nH {l:List Hd} (h:Rd w 1 p n (encH l)):n=l.length:=by have:=h.len;rw [encH_len] at this;omega
theorem Rd.cH {l:List Hd} (h:Rd w 1 p n (encH l)) {k:Nat} (hk:k<n):w.cell? (adr p k)=some (.slice (nth l k).p (nth l k).n (nth l k).c):=by
 rw [h.cells k (by omega),encH_get _ _ (by have:=h.nH;omega)]
theorem RdW.nW (h:RdW w p n hs wss):n=wss.length:=by rw [← h.hn];exact h.row.nH
theorem RdW.ext (h:RdW w p n hs wss) (he:Ext w w'):RdW w' p n hs wss:=⟨h.hn,h.row.ext he,fun j hj=>(h.each j hj).ext he⟩
end
section
variable {P:Program}
theorem own_form {w:World} {base:Nat} {e:TypeId} {size:Nat} {v:Value} {n:Nat} {xs:List Value} (h:w.ownsRow base e size v n xs) :
  ∃ p c,v=.slice p n c∧(p=none∨∃ g,p=some ⟨g,0,none⟩∧base≤g∧g<w.heap.size)∧n≤c:=by
 rcases h.2 with ⟨rfl,rfl⟩ | ⟨g,cap,cur,rfl,hg,hh,hn,_⟩
 ·exact⟨none,0,rfl,.inl rfl,Nat.le_refl _⟩
 ·exact⟨_,_,rfl,.inr ⟨g,rfl,hg,(Array.getElem?_eq_some_iff.1 hh).1⟩,hn⟩
theorem Rd.of_own {w:World} {base:Nat} {e:TypeId} {size:Nat} {p:Option Addr} {c n:Nat} {xs:List Value} (h:w.ownsRow base e size (.slice p n c) n xs) (hs:n≤9223372036854775807):Rd w size p n xs:=by
 have hl:=h.1
 rcases h.2 with ⟨h1,rfl⟩ | ⟨g,cap,cur,h1,hg,hh,hn,_⟩
 ·exact⟨hl,.inl rfl,hs,fun j hj=>by omega⟩
 ·injection h1 with h1 h2 h3
  subst h1
  refine⟨hl,.inr ⟨g,0,rfl⟩,hs,fun j hj=>?_⟩
  have hx:xs[j]?=some (xs.getD j undef):=by rw [List.getD_eq_getElem?_getD,List.getElem?_eq_getElem (by omega)];rfl
  have:=h.cells (g:=g) (by simp [Value.ownBlock]) j _ hx
  rw [Addr.add_lit] at this
  rw [adr_some];exact this
def blkOf (p:Option Addr):Option Nat:=p.map (·.block)
theorem ownBlock_slice (p:Option Addr) (n c:Nat):Value.ownBlock (.slice p n c)=blkOf p:=by cases p <;> rfl
theorem run_append_rd (w:World) (base:Nat) (t ty e:TypeId) (i:TypeInfo) (z:Value) (size bytes:Nat) (ht:P.underlying t=some (.slice e)) (hi:P.info? e=some i) (hz:i.zero=some z)
  (hsize:i.size=size) (hby:i.bytes=bytes) (hzs:z.cells.size=size) (hsz:0<size)
  (q:Option Addr) (n cq:Nat) (xs:List Value) (hown:w.ownsRow base e size (.slice q n cq) n xs)
  (A:Option Addr) (m c:Nat) (news:List Value) (hr:Rd w size A m news) (h1:∀ u∈news,u.oneCell'=true)
  (hbytes:(n+m)*bytes≤140737488355328) (h63:n+m≤140737488355328) (hbase:base≤w.heap.size) :
  ∃ q' c' w',(Builtin.append_ #[t,t] ty #[.slice q n cq,.slice A m c]).run P w=.ok (.slice q' (n+m) c') w'∧w'.ownsRow base e size (.slice q' (n+m) c') (n+m) (xs ++ news)∧w.grownBy w' (blkOf q) ∧
   (blkOf q'=blkOf q∨blkOf q'=some w.heap.size)∧Below base w w':=by
 have key:∀ v' w',w'.ownsRow base e size v' (n+m) (xs ++ news)→w.grownBy w' (blkOf q)→(v'.ownBlock=blkOf q∨v'.ownBlock=some w.heap.size) →
   ∃ q' c',v'=.slice q' (n+m) c'∧w'.ownsRow base e size (.slice q' (n+m) c') (n+m) (xs ++ news)∧(blkOf q'=blkOf q∨blkOf q'=some w.heap.size)∧Below base w w':=by
  intro v' w' ho hg hat
  obtain⟨q',c',rfl,_,_⟩:=own_form ho
  rw [ownBlock_slice] at hat
  refine⟨q',c',rfl,ho,hat,Below.grown (Below.refl _ _) hg hbase ?_⟩
  intro k hk
  exact(hown.lt k (by rw [ownBlock_slice];exact hk)).1
 by_cases hm:m=0
 ·subst hm
  have hn:news=[]:=List.eq_nil_of_length_eq_zero (by simpa using hr.len)
  subst hn
  have hrun:(Builtin.append_ #[t,t] ty #[.slice q n cq,.slice A 0 c]).run P w=.ok (.slice q n cq) w:=by
   have hnc:n≤cq:=by
    rcases own_form hown with ⟨p,c',h1,_,h2⟩
    injection h1 with _ _ h3
    omega
   cases A <;> simp [Builtin.append_,run_underlying ht,sizeOf,typeInfo,hi,Builtin.lenOf,Builtin.firstCells,hnc,loadCells,loadCellsFrom]
   all_goals (cases q <;> simp [storeCells])
  exact⟨q,cq,w,hrun,by simpa using hown,World.grownBy.refl w _,.inl rfl,Below.refl _ _⟩
 ·obtain⟨ad,rfl⟩:∃ ad,A=some ad:=by
   rw [hr.ptr.some (by omega)];exact⟨_,rfl⟩
  have had:ad=adr (some ad) 0:=by have:=hr.ptr.some (by omega);injection this
  have hcells:∀ j u,news[j]?=some u→w.cell? (ad.add j)=some u:=by
   intro j u hu
   have hj:j<news.length:=by
    rcases Nat.lt_or_ge j news.length with h | h
    ·exact h
    ·rw [List.getElem?_eq_none h] at hu;cases hu
   have:=hr.cells j (by rw [← hr.len];exact hj)
   rw [had,adr_add,Nat.zero_add,this,List.getD_eq_getElem?_getD,hu];rfl
  obtain⟨v',w',hrun,h2,h3,_,h5⟩:=run_append_own_at (P:=P) w base t ty e i z size bytes ht hi hz hsize hby hzs hsz (.slice q n cq) n xs hown ad m c news hr.len hcells h1 (by unfold maxLen;omega) hbytes hbase
  rw [ownBlock_slice] at h3 h5
  obtain⟨q',c',rfl,ho,hat,hb⟩:=key v' w' h2 h3 h5
  exact⟨q',c',w',hrun,ho,h3,hat,hb⟩
theorem wpList_append_rd {w:World} {ops:Array Oper} {rest:List Oper} {o:Oper} {a:Act} {Q:Exit→Act→World→Prop} (hgd:o.guard=none) (s x:Operand) (t:TypeId)
  (ho:o.op=.call { callee:=.builtin .append,args:=#[s,x],argTypes:=#[t,t] })
  (base:Nat) (e:TypeId) (i:TypeInfo) (z:Value) (size bytes:Nat) (ht:P.underlying t=some (.slice e)) (hi:P.info? e=some i) (hz:i.zero=some z)
  (hsize:i.size=size) (hby:i.bytes=bytes) (hzs:z.cells.size=size) (hsz:0<size)
  (q:Option Addr) (n cq:Nat) (xs:List Value) (hs:a.eval s=.slice q n cq) (hown:w.ownsRow base e size (.slice q n cq) n xs)
  (A:Option Addr) (m c:Nat) (news:List Value) (hx:a.eval x=.slice A m c) (hr:Rd w size A m news) (h1:∀ u∈news,u.oneCell'=true)
  (hbytes:(n+m)*bytes≤140737488355328) (h63:n+m≤140737488355328) (hbase:base≤w.heap.size)
  (h:∀ q' c' w',w'.ownsRow base e size (.slice q' (n+m) c') (n+m) (xs ++ news)→w.grownBy w' (blkOf q)→(blkOf q'=blkOf q∨blkOf q'=some w.heap.size)→Below base w w'→wpList P ops Q rest (a.put o.dst (.slice q' (n+m) c')) w'):wpList P ops Q (o :: rest) a w :=
 wpList_plain hgd fun K hK=>by
  obtain⟨q',c',w',hrun,h2,h3,h4,h5⟩:=run_append_rd (P:=P) w base t o.type e i z size bytes ht hi hz hsize hby hzs hsz q n cq xs hown A m c news hr h1 hbytes h63 hbase
  unfold Oper.wp execOp
  simp only [ho,resolve,invoke,builtin,Sem.run_bind,Sem.run_pure,Result.andThen_ok,List.map_toArray,List.map_cons,List.map_nil,hs,hx,hrun]
  exact hK _ _ (h q' c' w' h2 h3 h4 h5)
end
theorem one_encI (l:List Int):∀ u∈encI l,u.oneCell'=true:=by intro u hu;simp only [encI,List.mem_map] at hu;obtain⟨x,_,rfl⟩:=hu;rfl
theorem one_encS (l:List ByteArray):∀ u∈encS l,u.oneCell'=true:=by intro u hu;simp only [encS,List.mem_map] at hu;obtain⟨x,_,rfl⟩:=hu;rfl
theorem one_encE (l:List (Int × Int)):∀ u∈encE l,u.oneCell'=true:=by
 intro u hu;simp only [encE,List.mem_flatMap] at hu;obtain⟨x,_,h⟩:=hu;simp at h;rcases h with rfl | rfl <;> rfl
def cutp (p:Option Addr) (c l s:Nat):Option Addr:=if c=l then p else p.map (·.add (l*s))
section
variable {P:Program} (w:World) (t:TypeId) (p:Option Addr) (n c:Nat) (ht:P.underlying t=some (.slice (P.elem t)))
include ht
theorem run_cut_h (kh:IntKind) (h:Int) (h0:0≤h) (h2:h≤c) :
  (Instr.slice t (.slice p n c) none (some (.int kh h)) none).run P w=((sizeOf (P.elem t)).run P w).andThen fun s w=>.ok (.slice (cutp p c 0 s) h.toNat c) w:=by
 rw [run_slice_h w t p n c ht kh h h0 h2];simp only [sliced,cutp,Nat.sub_zero]
theorem run_cut_l (kl:IntKind) (l:Int) (h0:0≤l) (h1:l≤n) :
  (Instr.slice t (.slice p n c) (some (.int kl l)) none none).run P w=((sizeOf (P.elem t)).run P w).andThen fun s w=>.ok (.slice (cutp p c l.toNat s) (n - l.toNat) (c - l.toNat)) w:=by
 rw [run_slice_l w t p n c ht kl l h0 h1];simp only [sliced,cutp]
theorem run_cut_lh (kl kh:IntKind) (l h:Int) (h0:0≤l) (h1:l≤h) (h2:h≤c) :
  (Instr.slice t (.slice p n c) (some (.int kl l)) (some (.int kh h)) none).run P w=((sizeOf (P.elem t)).run P w).andThen fun s w=>.ok (.slice (cutp p c l.toNat s) (h.toNat - l.toNat) (c - l.toNat)) w:=by
 rw [run_slice_lh w t p n c ht kl kh l h h0 h1 h2];simp only [sliced,cutp]
end
attribute [go_sem ↓ high] run_cut_h run_cut_l run_cut_lh
theorem Rd.cut {w : World} {size : Nat} {p : Option Addr} {n : Nat} {xs : List Value} (hr : Rd w size p n xs) {l h c : Nat} (hl : l ≤ h) (hh : h ≤ n) (hc : n ≤ c) :
    Rd w size (cutp p c l size) (h - l) ((xs.drop (l * size)).take ((h - l) * size)) := by
  have hlen := hr.len
  have hm : h * size ≤ n * size := Nat.mul_le_mul_right _ hh
  have hlm : l * size ≤ h * size := Nat.mul_le_mul_right _ hl
  have hsub : (h - l) * size = h * size - l * size := Nat.sub_mul _ _ _
  refine ⟨?_, ?_, Nat.le_trans (Nat.sub_le _ _) (Nat.le_trans hh hr.small), ?_⟩
  · rw [List.length_take, List.length_drop]; omega
  · by_cases h0 : h = l
    · subst h0; exact .inl (by omega)
    · rcases hr.ptr with h1 | ⟨b, o, rfl⟩
      · omega
      · unfold cutp
        rw [if_neg (by omega)]
        exact .inr ⟨b, o + l * size, by simp [Addr.add_lit]⟩
  · intro j hj
    have e1 : adr (cutp p c l size) j = adr p (l * size + j) := by
      rcases hr.ptr with h1 | ⟨b, o, rfl⟩
      · subst h1; have : h = 0 := by omega
        subst this; simp at hj
      · unfold cutp
        rw [if_neg (by intro e; subst e; have : h = c := by omega
                       subst this; simp at hj)]
        simp [adr, Addr.add_lit, Nat.add_assoc]
    rw [e1, hr.cells _ (by omega)]
    simp only [List.getD_eq_getElem?_getD, List.getElem?_take, List.getElem?_drop]
    rw [if_pos hj]
theorem Rd.take {w:World} {size:Nat} {p:Option Addr} {n:Nat} {xs:List Value} (hr:Rd w size p n xs) {k:Nat} (hk:k≤n):Rd w size p k (xs.take (k*size)):=by
 have hm:k*size≤n*size:=Nat.mul_le_mul_right _ hk
 refine⟨by rw [List.length_take,hr.len];omega,?_,Nat.le_trans hk hr.small,fun j hj=>?_⟩
 ·rcases hr.ptr with h | h
  ·exact .inl (by omega)
  ·exact .inr h
 ·rw [hr.cells j (by omega)]
  simp only [List.getD_eq_getElem?_getD,List.getElem?_take]
  rw [if_pos hj]
def Blk (w:World) (g:Nat) (t:TypeId) (cs:Array Value):Prop:=w.heap[g]?=some (.cells cs t (0,0))
section
variable {w w':World} {g:Nat} {t:TypeId} {cs:Array Value}
theorem Blk.lt (h:Blk w g t cs):g<w.heap.size:=by
 rcases Nat.lt_or_ge g w.heap.size with hlt | hge
 ·exact hlt
 ·unfold Blk at h;rw [Array.getElem?_eq_none hge] at h;cases h
theorem Blk.cell (h:Blk w g t cs) (i:Nat):w.cell? ⟨g,i,none⟩=cs[i]?:=cell_of_row w g i cs t (0,0) h
theorem Blk.frozen (h:Blk w g t cs) (i:Nat):w.frozen? ⟨g,i,none⟩=false:=by
 unfold Blk at h
 simp [World.frozen?,h]
theorem Blk.new (w:World) (t:TypeId) (cs:Array Value):Blk (w.alloc (.cells cs t)) w.heap.size t cs:=heap_alloc_new w _
theorem Blk.drewN (h:Blk w g t cs) (n:Nat):Blk (w.drewN n) g t cs:=h
theorem Blk.alloc (h:Blk w g t cs) (o:Obj):Blk (w.alloc o) g t cs:=(Below.heap_alloc w o g h.lt).trans h
theorem Blk.set_ (h:Blk w g t cs) (i:Nat) (u:Value):Blk (w.setCell ⟨g,i,none⟩ u) g t (cs.setIfInBounds i u):=by
 unfold Blk at h ⊢
 simp [World.setCell,Array.getElem?_modify,h]
theorem Blk.far (h:Blk w g t cs) {p:Addr} (hp:g≠p.block) (u:Value):Blk (w.setCell p u) g t cs:=(Below.heap_setCell w p u g hp).trans h
theorem Blk.ext (h:Blk w g t cs) (hb:Ext w w'):Blk w' g t cs:=(hb.block g h.lt).trans h
theorem Blk.grown {row:Option Nat} (h:Blk w g t cs) (hb:w.grownBy w' row) (hg:row≠some g):Blk w' g t cs:=(hb.block g h.lt (fun e=>hg e.symm)).trans h
theorem own_blk_ne {base:Nat} {e:TypeId} {size n c:Nat} {q:Option Addr} {xs:List Value} (h:w.ownsRow base e size (.slice q n c) n xs) (hg:Blk w g t cs) (hne:e≠t):blkOf q≠some g:=by
 rcases h.2 with ⟨h1,_⟩ | ⟨g',cap,cur,h1,_,hh,_⟩
 ·injection h1 with h1;subst h1;simp [blkOf]
 ·injection h1 with h1;subst h1
  intro he
  have:g'=g:=by simpa [blkOf] using he
  subst this
  unfold Blk at hg
  rw [hh] at hg
  injection hg with hg
  injection hg with _ ht
  exact hne ht
theorem own_own_ne {base base2:Nat} {e e2:TypeId} {size n c size2 n2 c2:Nat} {q q2:Option Addr} {xs xs2:List Value} (h:w.ownsRow base e size (.slice q n c) n xs) (h2:w.ownsRow base2 e2 size2 (.slice q2 n2 c2) n2 xs2) (hne:e≠e2) :
  blkOf q2=none∨blkOf q2≠blkOf q:=by
 rcases h2.2 with ⟨h1,_⟩ | ⟨g',cap,cur,h1,_,hh,_⟩
 ·injection h1 with h1;subst h1;exact .inl rfl
 ·injection h1 with h1;subst h1
  right
  intro he
  exact own_blk_ne (g:=g') (t:=e2) (cs:=cur) h hh hne (by rw [← he];rfl)
theorem own_grown {base:Nat} {e:TypeId} {size n c:Nat} {q:Option Addr} {xs:List Value} (h:w.ownsRow base e size (.slice q n c) n xs) {row:Option Nat} (hg:w.grownBy w' row) (hne:blkOf q=none∨blkOf q≠row):w'.ownsRow base e size (.slice q n c) n xs :=
 h.kept hg (by rw [ownBlock_slice];exact hne)
theorem own_cap {base:Nat} {e:TypeId} {size n c:Nat} {q:Option Addr} {xs:List Value} (h:w.ownsRow base e size (.slice q n c) n xs):n≤c:=by
 obtain⟨p,c',h1,_,h2⟩:=own_form h
 injection h1 with _ _ h3
 omega
theorem Blk.kept {base:Nat} {e:TypeId} {size n c:Nat} {q:Option Addr} {xs:List Value} (hb:Blk w g t cs) (ho:w.ownsRow base e size (.slice q n c) n xs) (hne:e≠t) {o:Obj} (hg:(w.alloc o).grownBy w' (blkOf q)):Blk w' g t cs :=
 (hb.alloc o).grown hg (own_blk_ne (ho.alloc o) (hb.alloc o) hne)
theorem own_set {base:Nat} {e:TypeId} {size n c:Nat} {q:Option Addr} {xs:List Value} (h:w.ownsRow base e size (.slice q n c) n xs) (hg:Blk w g t cs) (hne:e≠t) (i:Nat) (u:Value):(w.setCell ⟨g,i,none⟩ u).ownsRow base e size (.slice q n c) n xs:=by
 have hb:=own_blk_ne h hg hne
 obtain⟨h1,h2⟩:=h
 refine⟨h1,?_⟩
 rcases h2 with h2 | ⟨g',cap,cur,hv,hgg,hh,r⟩
 ·exact Or.inl h2
 ·refine Or.inr ⟨g',cap,cur,hv,hgg,?_,r⟩
  rw [Below.heap_setCell _ _ _ _ ?_]
  ·exact hh
  ·injection hv with hv
   subst hv
   intro e
   exact hb (by simp only [blkOf,Option.map_some];rw [e])
end
theorem alloc2 (w:World) (o1 o2:Obj):((w.alloc o1).alloc o2).heap[w.heap.size]?=some o1∧((w.alloc o1).alloc o2).heap[w.heap.size+1]?=some o2∧Ext w ((w.alloc o1).alloc o2):=by
 refine⟨?_,?_,((Below.refl _ _).alloc (Nat.le_refl _) _).alloc (by simp) _⟩
 ·rw [Below.heap_alloc _ _ _ (by simp),heap_alloc_new]
 ·have:=heap_alloc_new (w.alloc o1) o2
  rwa [World.size_alloc] at this
theorem Rd.set_ {w:World} {size:Nat} {p:Option Addr} {n:Nat} {xs:List Value} (h:Rd w size p n xs) {g:Nat} (hg:0<n→(adr p 0).block≠g) (i:Nat) (u:Value):Rd (w.setCell ⟨g,i,none⟩ u) size p n xs :=
 ⟨h.len,h.ptr,h.small,fun j hj=>by
  have h0:0<n:=by
   rcases Nat.eq_zero_or_pos n with h0 | h0
   ·subst h0;simp at hj
   ·exact h0
  rw [World.cell?_setCell_other w ⟨g,i,none⟩ (adr p j) u (fun e=>hg h0 (by rw [← adr_block p j,← e]))]
  exact h.cells j hj⟩
theorem cellnew0 (w:World) (a:Value) (l:List Value) (t:TypeId):(w.alloc (.cells (a :: l).toArray t)).cell? ⟨w.heap.size,0,none⟩=some a:=by simp
theorem cellnew1 (w:World) (a b:Value) (l:List Value) (t:TypeId):(w.alloc (.cells (a :: b :: l).toArray t)).cell? ⟨w.heap.size,1,none⟩=some b:=by simp
theorem encE_take (l:List (Int × Int)) (k:Nat):(encE l).take (k*2)=encE (l.take k):=by
 induction l generalizing k with
 | nil=>simp [encE]
 | cons a l ih =>
  cases k with
  | zero=>simp [encE]
  | succ k =>
   have:=ih k
   simp only [encE,List.flatMap_cons,List.take_succ_cons] at this ⊢
   rw [← this,show (k+1)*2=k*2+1+1 from by omega];rfl
theorem encE_drop (l:List (Int × Int)) (k:Nat):(encE l).drop (k*2)=encE (l.drop k):=by
 induction l generalizing k with
 | nil=>simp [encE]
 | cons a l ih =>
  cases k with
  | zero=>simp [encE]
  | succ k =>
   have:=ih k
   simp only [encE,List.flatMap_cons,List.drop_succ_cons] at this ⊢
   rw [← this,show (k+1)*2=k*2+1+1 from by omega];rfl
theorem encE_append (l m:List (Int × Int)):encE (l ++ m)=encE l ++ encE m:=by simp [encE]
theorem Rd.one2 (w:World) (t:TypeId) (a b:Int):Rd (w.alloc (.cells #[.int .i64 a,.int .i64 b] t)) 2 (some ⟨w.heap.size,0,none⟩) 1 (encE [(a,b)]):=by
 refine⟨rfl,.inr ⟨_,_,rfl⟩,by omega,fun j hj=>?_⟩
 rw [adr_some,Nat.zero_add]
 have:j=0∨j=1:=by omega
 rcases this with rfl | rfl <;> simp [encE]
theorem encS_drop (l:List ByteArray) (k:Nat):(encS l).drop (k*1)=encS (l.drop k):=by simp [encS,List.map_drop]
theorem encS_append (l m:List ByteArray):encS (l ++ m)=encS l ++ encS m:=by simp [encS]
theorem own_base {w:World} {base b:Nat} {e:TypeId} {size:Nat} {v:Value} {n:Nat} {xs:List Value} (h:w.ownsRow base e size v n xs) (hb:b≤base):w.ownsRow b e size v n xs:=by
 refine⟨h.1,?_⟩
 rcases h.2 with h2 | ⟨g,cap,cur,hv,hg,r⟩
 ·exact .inl h2
 ·exact .inr ⟨g,cap,cur,hv,Nat.le_trans hb hg,r⟩
theorem Rd.oneH (w:World) (t:TypeId) (p:Option Addr) (m d:Nat):Rd (w.alloc (.cells #[.slice p m d] t)) 1 (some ⟨w.heap.size,0,none⟩) 1 [.slice p m d]:=by
 refine⟨rfl,.inr ⟨_,_,rfl⟩,by omega,fun j hj=>?_⟩
 rw [adr_some,Nat.zero_add]
 have:j=0:=by omega
 subst this;simp
theorem one_slice (p:Option Addr) (m d:Nat):∀ u∈[Value.slice p m d],u.oneCell'=true:=by intro u hu;simp at hu;subst hu;rfl
def sLess (a b:ByteArray):Bool:=Op.bytesLess a.toList b.toList
theorem str_ext {a b:ByteArray} (h:a.toList=b.toList):a=b:=by
 rw [ByteArray.toList_eq,ByteArray.toList_eq] at h
 exact ByteArray.ext (Array.toList_inj.1 h)
theorem str_beq (a b:ByteArray):(a.toList == b.toList)=decide (a=b):=by
 by_cases h:a=b
 ·subst h;simp
 ·simp only [h,decide_false];rw [beq_eq_false_iff_ne];exact fun e=>h (str_ext e)
theorem bkc0c1 {w:World} {g:Nat} {t:TypeId} {cs:Array Value}(h:Blk w g t cs):w.cell? ⟨g,0,none⟩=cs[0]?∧w.cell? ⟨g,1,none⟩=cs[1]?:=⟨h.cell 0,h.cell 1⟩
theorem bkc0c1c2 {w:World} {g:Nat} {t:TypeId} {cs:Array Value}(h:Blk w g t cs):w.cell? ⟨g,0,none⟩=cs[0]?∧w.cell? ⟨g,1,none⟩=cs[1]?∧w.cell? ⟨g,2,none⟩=cs[2]?:=⟨h.cell 0,h.cell 1,h.cell 2⟩
theorem bkc0c1c2c3 {w:World} {g:Nat} {t:TypeId} {cs:Array Value}(h:Blk w g t cs):w.cell? ⟨g,0,none⟩=cs[0]?∧w.cell? ⟨g,1,none⟩=cs[1]?∧w.cell? ⟨g,2,none⟩=cs[2]?∧w.cell? ⟨g,3,none⟩=cs[3]?:=⟨h.cell 0,h.cell 1,h.cell 2,h.cell 3⟩
theorem bkc0c1c2c3c4c5l {w:World} {g:Nat} {t:TypeId} {cs:Array Value}(h:Blk w g t cs):w.cell? ⟨g,0,none⟩=cs[0]?∧w.cell? ⟨g,1,none⟩=cs[1]?∧w.cell? ⟨g,2,none⟩=cs[2]?∧w.cell? ⟨g,3,none⟩=cs[3]?∧w.cell? ⟨g,4,none⟩=cs[4]?∧w.cell? ⟨g,5,none⟩=cs[5]?∧g<w.heap.size:=⟨h.cell 0,h.cell 1,h.cell 2,h.cell 3,h.cell 4,h.cell 5,h.lt⟩
theorem bkc0c1c2c3l {w:World} {g:Nat} {t:TypeId} {cs:Array Value}(h:Blk w g t cs):w.cell? ⟨g,0,none⟩=cs[0]?∧w.cell? ⟨g,1,none⟩=cs[1]?∧w.cell? ⟨g,2,none⟩=cs[2]?∧w.cell? ⟨g,3,none⟩=cs[3]?∧g<w.heap.size:=⟨h.cell 0,h.cell 1,h.cell 2,h.cell 3,h.lt⟩
theorem bkc0c1c2c3lz0z1z2z3 {w:World} {g:Nat} {t:TypeId} {cs:Array Value}(h:Blk w g t cs):w.cell? ⟨g,0,none⟩=cs[0]?∧w.cell? ⟨g,1,none⟩=cs[1]?∧w.cell? ⟨g,2,none⟩=cs[2]?∧w.cell? ⟨g,3,none⟩=cs[3]?∧g<w.heap.size∧w.frozen? ⟨g,0,none⟩=false∧w.frozen? ⟨g,1,none⟩=false∧w.frozen? ⟨g,2,none⟩=false∧w.frozen? ⟨g,3,none⟩=false:=⟨h.cell 0,h.cell 1,h.cell 2,h.cell 3,h.lt,h.frozen 0,h.frozen 1,h.frozen 2,h.frozen 3⟩
theorem bkc0c1c2c3z0z1z2z3l {w:World} {g:Nat} {t:TypeId} {cs:Array Value}(h:Blk w g t cs):w.cell? ⟨g,0,none⟩=cs[0]?∧w.cell? ⟨g,1,none⟩=cs[1]?∧w.cell? ⟨g,2,none⟩=cs[2]?∧w.cell? ⟨g,3,none⟩=cs[3]?∧w.frozen? ⟨g,0,none⟩=false∧w.frozen? ⟨g,1,none⟩=false∧w.frozen? ⟨g,2,none⟩=false∧w.frozen? ⟨g,3,none⟩=false∧g<w.heap.size:=⟨h.cell 0,h.cell 1,h.cell 2,h.cell 3,h.frozen 0,h.frozen 1,h.frozen 2,h.frozen 3,h.lt⟩
theorem bkc0c1c2c3z2z3l {w:World} {g:Nat} {t:TypeId} {cs:Array Value}(h:Blk w g t cs):w.cell? ⟨g,0,none⟩=cs[0]?∧w.cell? ⟨g,1,none⟩=cs[1]?∧w.cell? ⟨g,2,none⟩=cs[2]?∧w.cell? ⟨g,3,none⟩=cs[3]?∧w.frozen? ⟨g,2,none⟩=false∧w.frozen? ⟨g,3,none⟩=false∧g<w.heap.size:=⟨h.cell 0,h.cell 1,h.cell 2,h.cell 3,h.frozen 2,h.frozen 3,h.lt⟩
theorem bkc0c1c2l {w:World} {g:Nat} {t:TypeId} {cs:Array Value}(h:Blk w g t cs):w.cell? ⟨g,0,none⟩=cs[0]?∧w.cell? ⟨g,1,none⟩=cs[1]?∧w.cell? ⟨g,2,none⟩=cs[2]?∧g<w.heap.size:=⟨h.cell 0,h.cell 1,h.cell 2,h.lt⟩
theorem bkc0c1c2lz0z1z2 {w:World} {g:Nat} {t:TypeId} {cs:Array Value}(h:Blk w g t cs):w.cell? ⟨g,0,none⟩=cs[0]?∧w.cell? ⟨g,1,none⟩=cs[1]?∧w.cell? ⟨g,2,none⟩=cs[2]?∧g<w.heap.size∧w.frozen? ⟨g,0,none⟩=false∧w.frozen? ⟨g,1,none⟩=false∧w.frozen? ⟨g,2,none⟩=false:=⟨h.cell 0,h.cell 1,h.cell 2,h.lt,h.frozen 0,h.frozen 1,h.frozen 2⟩
theorem bkc0c1c2z0z1z2 {w:World} {g:Nat} {t:TypeId} {cs:Array Value}(h:Blk w g t cs):w.cell? ⟨g,0,none⟩=cs[0]?∧w.cell? ⟨g,1,none⟩=cs[1]?∧w.cell? ⟨g,2,none⟩=cs[2]?∧w.frozen? ⟨g,0,none⟩=false∧w.frozen? ⟨g,1,none⟩=false∧w.frozen? ⟨g,2,none⟩=false:=⟨h.cell 0,h.cell 1,h.cell 2,h.frozen 0,h.frozen 1,h.frozen 2⟩
theorem bkc0c1c2z1 {w:World} {g:Nat} {t:TypeId} {cs:Array Value}(h:Blk w g t cs):w.cell? ⟨g,0,none⟩=cs[0]?∧w.cell? ⟨g,1,none⟩=cs[1]?∧w.cell? ⟨g,2,none⟩=cs[2]?∧w.frozen? ⟨g,1,none⟩=false:=⟨h.cell 0,h.cell 1,h.cell 2,h.frozen 1⟩
theorem bkc0c1l {w:World} {g:Nat} {t:TypeId} {cs:Array Value}(h:Blk w g t cs):w.cell? ⟨g,0,none⟩=cs[0]?∧w.cell? ⟨g,1,none⟩=cs[1]?∧g<w.heap.size:=⟨h.cell 0,h.cell 1,h.lt⟩
theorem bkc0c1lz0z1 {w:World} {g:Nat} {t:TypeId} {cs:Array Value}(h:Blk w g t cs):w.cell? ⟨g,0,none⟩=cs[0]?∧w.cell? ⟨g,1,none⟩=cs[1]?∧g<w.heap.size∧w.frozen? ⟨g,0,none⟩=false∧w.frozen? ⟨g,1,none⟩=false:=⟨h.cell 0,h.cell 1,h.lt,h.frozen 0,h.frozen 1⟩
theorem bkc0c1z0z1l {w:World} {g:Nat} {t:TypeId} {cs:Array Value}(h:Blk w g t cs):w.cell? ⟨g,0,none⟩=cs[0]?∧w.cell? ⟨g,1,none⟩=cs[1]?∧w.frozen? ⟨g,0,none⟩=false∧w.frozen? ⟨g,1,none⟩=false∧g<w.heap.size:=⟨h.cell 0,h.cell 1,h.frozen 0,h.frozen 1,h.lt⟩
theorem bkc0c4l {w:World} {g:Nat} {t:TypeId} {cs:Array Value}(h:Blk w g t cs):w.cell? ⟨g,0,none⟩=cs[0]?∧w.cell? ⟨g,4,none⟩=cs[4]?∧g<w.heap.size:=⟨h.cell 0,h.cell 4,h.lt⟩
theorem bkc0l {w:World} {g:Nat} {t:TypeId} {cs:Array Value}(h:Blk w g t cs):w.cell? ⟨g,0,none⟩=cs[0]?∧g<w.heap.size:=⟨h.cell 0,h.lt⟩
theorem bkc0lz0 {w:World} {g:Nat} {t:TypeId} {cs:Array Value}(h:Blk w g t cs):w.cell? ⟨g,0,none⟩=cs[0]?∧g<w.heap.size∧w.frozen? ⟨g,0,none⟩=false:=⟨h.cell 0,h.lt,h.frozen 0⟩
theorem bkc0z0l {w:World} {g:Nat} {t:TypeId} {cs:Array Value}(h:Blk w g t cs):w.cell? ⟨g,0,none⟩=cs[0]?∧w.frozen? ⟨g,0,none⟩=false∧g<w.heap.size:=⟨h.cell 0,h.frozen 0,h.lt⟩
theorem bkc13lz13 {w:World} {g:Nat} {t:TypeId} {cs:Array Value}(h:Blk w g t cs):w.cell? ⟨g,13,none⟩=cs[13]?∧g<w.heap.size∧w.frozen? ⟨g,13,none⟩=false:=⟨h.cell 13,h.lt,h.frozen 13⟩
theorem bkc14lz14 {w:World} {g:Nat} {t:TypeId} {cs:Array Value}(h:Blk w g t cs):w.cell? ⟨g,14,none⟩=cs[14]?∧g<w.heap.size∧w.frozen? ⟨g,14,none⟩=false:=⟨h.cell 14,h.lt,h.frozen 14⟩
theorem bkc1l {w:World} {g:Nat} {t:TypeId} {cs:Array Value}(h:Blk w g t cs):w.cell? ⟨g,1,none⟩=cs[1]?∧g<w.heap.size:=⟨h.cell 1,h.lt⟩
theorem bkc2c3 {w:World} {g:Nat} {t:TypeId} {cs:Array Value}(h:Blk w g t cs):w.cell? ⟨g,2,none⟩=cs[2]?∧w.cell? ⟨g,3,none⟩=cs[3]?:=⟨h.cell 2,h.cell 3⟩
theorem bkc2c3l {w:World} {g:Nat} {t:TypeId} {cs:Array Value}(h:Blk w g t cs):w.cell? ⟨g,2,none⟩=cs[2]?∧w.cell? ⟨g,3,none⟩=cs[3]?∧g<w.heap.size:=⟨h.cell 2,h.cell 3,h.lt⟩
theorem bkc3l {w:World} {g:Nat} {t:TypeId} {cs:Array Value}(h:Blk w g t cs):w.cell? ⟨g,3,none⟩=cs[3]?∧g<w.heap.size:=⟨h.cell 3,h.lt⟩
theorem bkc5l {w:World} {g:Nat} {t:TypeId} {cs:Array Value}(h:Blk w g t cs):w.cell? ⟨g,5,none⟩=cs[5]?∧g<w.heap.size:=⟨h.cell 5,h.lt⟩
theorem bklc0c1c2 {w:World} {g:Nat} {t:TypeId} {cs:Array Value}(h:Blk w g t cs):g<w.heap.size∧w.cell? ⟨g,0,none⟩=cs[0]?∧w.cell? ⟨g,1,none⟩=cs[1]?∧w.cell? ⟨g,2,none⟩=cs[2]?:=⟨h.lt,h.cell 0,h.cell 1,h.cell 2⟩
theorem bklc0c1c2c3 {w:World} {g:Nat} {t:TypeId} {cs:Array Value}(h:Blk w g t cs):g<w.heap.size∧w.cell? ⟨g,0,none⟩=cs[0]?∧w.cell? ⟨g,1,none⟩=cs[1]?∧w.cell? ⟨g,2,none⟩=cs[2]?∧w.cell? ⟨g,3,none⟩=cs[3]?:=⟨h.lt,h.cell 0,h.cell 1,h.cell 2,h.cell 3⟩
theorem bkz0l {w:World} {g:Nat} {t:TypeId} {cs:Array Value}(h:Blk w g t cs):w.frozen? ⟨g,0,none⟩=false∧g<w.heap.size:=⟨h.frozen 0,h.lt⟩
theorem bkz0z1 {w:World} {g:Nat} {t:TypeId} {cs:Array Value}(h:Blk w g t cs):w.frozen? ⟨g,0,none⟩=false∧w.frozen? ⟨g,1,none⟩=false:=⟨h.frozen 0,h.frozen 1⟩
theorem bkz0z1z2 {w:World} {g:Nat} {t:TypeId} {cs:Array Value}(h:Blk w g t cs):w.frozen? ⟨g,0,none⟩=false∧w.frozen? ⟨g,1,none⟩=false∧w.frozen? ⟨g,2,none⟩=false:=⟨h.frozen 0,h.frozen 1,h.frozen 2⟩
end
section
open Go Go.RowKit
def fitsB (a b:List Int):Bool:=(List.range a.length).all fun i=>decide (i<b.length) && decide (nth a i≤nth b i)
theorem fitsB_iff {a b:List Int}:fitsB a b=true↔∀ i,i<a.length→i<b.length∧nth a i≤nth b i:=by
 unfold fitsB
 rw [List.all_eq_true]
 constructor
 ·intro h i hi
  have:=h i (List.mem_range.2 hi)
  rw [Bool.and_eq_true,decide_eq_true_eq,decide_eq_true_eq] at this
  exact this
 ·intro h i hi
  rw [Bool.and_eq_true,decide_eq_true_eq,decide_eq_true_eq]
  exact h i (List.mem_range.1 hi)
def longR (l:List (List Int)):Nat:=l.foldr (fun r n=>max r.length n) 0
def sumAt (l:List (List Int)) (i:Nat):Int:=(l.map fun r=>nth r i).sum
def sumR (l:List (List Int)):List Int:=(List.range (longR l)).map (sumAt l)
theorem sumR_len (l:List (List Int)):(sumR l).length=longR l:=by simp [sumR]
theorem nth_over {l:List Int} {i:Nat} (h:l.length≤i):nth l i=0:=by unfold nth;rw [List.getD_eq_getElem?_getD,List.getElem?_eq_none h];rfl
end
section
def lowB (b:UInt8):Bool:=decide (97≤b.toNat∧b.toNat≤122)
def wordB (s:ByteArray):Bool:=s.data.toList.all lowB && decide (1≤s.size) && decide (s.size≤12)
def lessE (a b:Int × Int):Bool:=decide (a.1<b.1∨a.1=b.1∧a.2<b.2)
def edgeOk (N:Int) (x:Int × Int):Bool:=decide (0≤x.1∧x.1<N∧0≤x.2∧x.2<N)
def rowOk (l:List ByteArray):Bool:=l.all wordB && decide (l.length≤8)
def checkB (N:Int) (E:List (Int × Int)) (W:List (List ByteArray)):Bool :=
 decide (1≤N) && decide (N≤200) && decide (E.length≤2000) && decide ((W.length:Int)=N) && E.all (edgeOk N) && W.all rowOk
def sameB (N:Int) (E:List (Int × Int)) (W:List (List ByteArray)) (N2:Int) (E2:List (Int × Int)) (W2:List (List ByteArray)):Bool:=decide (N=N2∧E=E2∧W=W2)
def riseAt {α:Type} [Inhabited α] (lt:α→α→Bool) (l:List α) (i:Nat):Bool:=lt (nth l i) (nth l (i+1))
def riseB {α:Type} [Inhabited α] (lt:α→α→Bool) (l:List α):Bool:=(List.range (l.length - 1)).all (riseAt lt l)
theorem range_all_succ (f:Nat→Bool) (k:Nat) (h:(List.range k).all f=true) (hf:f k=true):(List.range (k+1)).all f=true:=by
 rw [List.range_succ,List.all_append,h];simp [hf]
theorem range_all_no (f:Nat→Bool) (n k:Nat) (hk:k<n) (hf:f k=false):(List.range n).all f=false:=by
 rw [List.all_eq_false];exact⟨k,by simpa using hk,by simp [hf]⟩
def isB (N:Int) (E:List (Int × Int)) (W:List (List ByteArray)):Bool:=checkB N E W && riseB lessE E && W.all (riseB sLess)
theorem take_all_succ {α:Type} [Inhabited α] (f:α→Bool) (l:List α) (k:Nat) (h:k<l.length):(l.take (k+1)).all f=((l.take k).all f && f (nth l k)):=by
 rw [take_succ_nth l k h,List.all_append];simp
theorem all_false_at {α:Type} [Inhabited α] (f:α→Bool) (l:List α) (k:Nat) (h:k<l.length) (hf:f (nth l k)=false):l.all f=false:=by
 rw [List.all_eq_false];rw [nth_eq h] at hf;exact⟨_,List.getElem_mem h,by simp [hf]⟩
section
variable {α:Type} [Inhabited α]
theorem eq_step {l m:List α} {k:Nat} (h:l.length=m.length) (hk:k<l.length) (ht:l.take k=m.take k) (he:nth l k=nth m k):l.take (k+1)=m.take (k+1):=by
 rw [take_succ_nth l k hk,take_succ_nth m k (by omega),ht,he]
theorem eq_no {l m:List α} {k:Nat} (h:l.length=m.length) (_:k<l.length) (he:nth l k≠nth m k):l≠m:=by
 rintro rfl;exact he rfl
omit [Inhabited α] in
theorem eq_end {l m:List α} {k:Nat} (h:l.length=m.length) (hk:¬ k<l.length) (ht:l.take k=m.take k):l=m:=by
 rwa [List.take_of_length_le (by omega),List.take_of_length_le (by omega)] at ht
end
theorem any_step {α:Type} [Inhabited α] (f:α→Bool) (l:List α) (k:Nat) (h:k<l.length) (ha:(l.take k).any f=false) (hf:f (nth l k)=false):(l.take (k+1)).any f=false:=by
 rw [take_succ_nth l k h,List.any_append,ha];simp [hf]
theorem any_true_at {α:Type} [Inhabited α] (f:α→Bool) (l:List α) (k:Nat) (h:k<l.length) (hf:f (nth l k)=true):l.any f=true:=by
 rw [List.any_eq_true];rw [nth_eq h] at hf;exact⟨_,List.getElem_mem h,hf⟩
theorem any_end {α:Type} (f:α→Bool) (l:List α) (k:Nat) (h:¬ k<l.length) (ha:(l.take k).any f=false):l.any f=false:=by
 rwa [List.take_of_length_le (by omega)] at ha
theorem all_step {α:Type} [Inhabited α] (f:α→Bool) (l:List α) (k:Nat) (h:k<l.length) (ha:(l.take k).all f=true) (hf:f (nth l k)=true):(l.take (k+1)).all f=true:=by
 rw [take_succ_nth l k h,List.all_append,ha];simp [hf]
theorem all_end {α:Type} (f:α→Bool) (l:List α) (k:Nat) (h:¬ k<l.length) (ha:(l.take k).all f=true):l.all f=true:=by
 rwa [List.take_of_length_le (by omega)] at ha
def SzW (W:List (List ByteArray)):Prop:=∀ l∈W,∀ s∈l,s.size≤1000000
theorem SzW.at {W:List (List ByteArray)} (h:SzW W) {k j:Nat} (hk:k<W.length) (hj:j<(nth W k).length):(nth (nth W k) j).size≤1000000:=by
 refine h (nth W k) ?_ _ ?_
 ·rw [nth_eq hk];exact List.getElem_mem hk
 ·rw [nth_eq hj];exact List.getElem_mem hj
theorem checkB_pre {N:Int} {E:List (Int × Int)} {W:List (List ByteArray)} (h:¬ (1≤N∧N≤200∧E.length≤2000∧(W.length:Int)=N)):checkB N E W=false:=by
 unfold checkB
 by_cases h1:1≤N <;> by_cases h2:N≤200 <;> by_cases h3:E.length≤2000 <;> by_cases h4:(W.length:Int)=N <;> simp [h1,h2,h3,h4]
 exact absurd ⟨h1,h2,h3,h4⟩ h
theorem checkB_E {N:Int} {E:List (Int × Int)} {W:List (List ByteArray)} {k:Nat} (hk:k<E.length) (h:edgeOk N (nth E k)=false):checkB N E W=false:=by
 unfold checkB;rw [all_false_at (edgeOk N) E k hk h];simp
theorem checkB_W {N:Int} {E:List (Int × Int)} {W:List (List ByteArray)} {k:Nat} (hk:k<W.length) (h:rowOk (nth W k)=false):checkB N E W=false:=by
 unfold checkB;rw [all_false_at rowOk W k hk h];simp
theorem checkB_yes {N:Int} {E:List (Int × Int)} {W:List (List ByteArray)} (h1:1≤N) (h2:N≤200) (h3:E.length≤2000) (h4:(W.length:Int)=N) (h5:E.all (edgeOk N)=true) (h6:W.all rowOk=true):checkB N E W=true:=by
 unfold checkB;rw [h5,h6];simp [h1,h2,h3,h4]
def ahead {α:Type} (lt:α→α→Bool) (l:List α) (x:α):Nat:=(l.takeWhile (fun y=>lt y x)).length
def putL {α:Type} [DecidableEq α] (lt:α→α→Bool) (l:List α) (x:α):List α :=
 if l[ahead lt l x]?=some x then l else l.take (ahead lt l x) ++ ([x] ++ l.drop (ahead lt l x))
theorem ahead_le {α:Type} (lt:α→α→Bool) (l:List α) (x:α):ahead lt l x≤l.length:=by
 unfold ahead;induction l with
 | nil=>simp
 | cons a l ih=>rw [List.takeWhile_cons];split <;> simp;omega
theorem ahead_of {α : Type} [Inhabited α] (lt : α → α → Bool) (l : List α) (x : α) (k : Nat) (hk : k ≤ l.length) (ha : (l.take k).all (fun y => lt y x) = true) (hs : k < l.length → lt (nth l k) x = false) : ahead lt l x = k := by
  unfold ahead
  induction l generalizing k with
  | nil => simp at hk; subst hk; rfl
  | cons a l ih =>
    cases k with
    | zero => have := hs (by simp); rw [List.takeWhile_cons]; have e : nth (a :: l) 0 = a := rfl
              rw [e] at this; rw [this]; rfl
    | succ k =>
      simp only [List.take_succ_cons, List.all_cons, Bool.and_eq_true] at ha
      rw [List.takeWhile_cons, ha.1]
      simp only [if_true, List.length_cons]
      have := ih k (by simpa using hk) ha.2 (fun h => hs (by simpa using h))
      omega
theorem putL_same {α:Type} [Inhabited α] [DecidableEq α] {lt:α→α→Bool} {l:List α} {x:α} {k:Nat} (h:ahead lt l x=k) (hk:k<l.length) (he:nth l k=x):putL lt l x=l:=by
 unfold putL;rw [h,if_pos];rw [List.getElem?_eq_getElem hk,← nth_eq hk,he]
theorem putL_new {α:Type} [Inhabited α] [DecidableEq α] {lt:α→α→Bool} {l:List α} {x:α} {k:Nat} (h:ahead lt l x=k) (he:k<l.length→nth l k≠x):putL lt l x=l.take k ++ ([x] ++ l.drop k):=by
 unfold putL;rw [h,if_neg]
 intro e
 have hk:k<l.length:=by
  rcases Nat.lt_or_ge k l.length with h | h
  ·exact h
  ·rw [List.getElem?_eq_none h] at e;cases e
 rw [List.getElem?_eq_getElem hk] at e;injection e with e
 exact he hk (by rw [nth_eq hk];exact e)
theorem putL_len {α:Type} [DecidableEq α] (lt:α→α→Bool) (l:List α) (x:α):(putL lt l x).length≤l.length+1:=by
 unfold putL;split
 ·omega
 ·simp;have:=ahead_le lt l x;omega
def putAll {α:Type} [DecidableEq α] (lt:α→α→Bool) (l:List α):List α:=l.foldl (putL lt) []
theorem foldl_take_succ {α β:Type} [Inhabited α] (f:β→α→β) (l:List α) (b:β) (k:Nat) (h:k<l.length):(l.take (k+1)).foldl f b=f ((l.take k).foldl f b) (nth l k):=by
 rw [take_succ_nth l k h,List.foldl_append];rfl
theorem foldl_put_len {α:Type} [DecidableEq α] (lt:α→α→Bool) (l:List α) (b:List α):(l.foldl (putL lt) b).length≤b.length+l.length:=by
 induction l generalizing b with
 | nil=>simp
 | cons a l ih=>simp only [List.foldl_cons,List.length_cons];have:=ih (putL lt b a);have:=putL_len lt b a;omega
def normN (N:Int) (E:List (Int × Int)) (W:List (List ByteArray)):Int:=if checkB N E W then N else 0
def normE (N:Int) (E:List (Int × Int)) (W:List (List ByteArray)):List (Int × Int):=if checkB N E W then putAll lessE E else []
def normW (N:Int) (E:List (Int × Int)) (W:List (List ByteArray)):List (List ByteArray):=if checkB N E W then W.map (putAll sLess) else []
def normC (N:Int) (E:List (Int × Int)) (W:List (List ByteArray)):Int:=if checkB N E W then 0 else 20
theorem map_take_succ {α β:Type} [Inhabited α] (f:α→β) (l:List α) (k:Nat) (h:k<l.length):(l.take (k+1)).map f=(l.take k).map f ++ [f (nth l k)]:=by
 rw [take_succ_nth l k h,List.map_append];rfl
theorem checkB_parts {N:Int} {E:List (Int × Int)} {W:List (List ByteArray)} (h:checkB N E W=true):1≤N∧N≤200∧E.length≤2000∧(W.length:Int)=N∧E.all (edgeOk N)=true∧W.all rowOk=true:=by
 unfold checkB at h
 simp only [Bool.and_eq_true,decide_eq_true_eq] at h
 obtain⟨⟨⟨⟨⟨a,b⟩,c⟩,d⟩,e⟩,f⟩:=h
 exact⟨a,b,c,d,e,f⟩
theorem rowOk_len {W:List (List ByteArray)} (h:W.all rowOk=true):∀ l∈W,l.length≤8:=by
 intro l hl
 have:=List.all_eq_true.1 h l hl
 unfold rowOk at this
 simp only [Bool.and_eq_true,decide_eq_true_eq] at this
 exact this.2
theorem putAll_len {α:Type} [DecidableEq α] (lt:α→α→Bool) (l:List α):(putAll lt l).length≤l.length:=by
 have:=foldl_put_len lt l [];simpa [putAll] using this
theorem riseB_no {α:Type} [Inhabited α] {lt:α→α→Bool} {l:List α} {k:Nat} (hk:k+1<l.length) (h:lt (nth l k) (nth l (k+1))=false):riseB lt l=false:=by
 unfold riseB;exact range_all_no _ _ k (by omega) h
theorem riseB_end {α:Type} [Inhabited α] {lt:α→α→Bool} {l:List α} {k:Nat} (hk:¬ k<l.length) (h:(List.range (k - 1)).all (riseAt lt l)=true):riseB lt l=true:=by
 unfold riseB
 rw [List.all_eq_true] at h ⊢
 intro i hi
 have:=List.mem_range.1 hi
 exact h i (List.mem_range.2 (by omega))
end
section
open Go Go.RowKit
theorem ret_bool {a b:Bool} (h:a=b):Ending.returned (.bool a)=.returned (.bool b):=by rw [h]
theorem str_nth (s:ByteArray) (k:Nat) (h:k<s.size):nth s.data.toList k=s[k]:=by
 rw [nth_eq (by simpa using h)];rfl
theorem wordB_no (s:ByteArray) (k:Nat) (h:k<s.size) (hb:(s[k].toNat:Int)<97∨122<(s[k].toNat:Int)):false=wordB s:=by
 unfold wordB
 rw [all_false_at lowB s.data.toList k (by simpa using h) (by rw [str_nth s k h];unfold lowB;rw [decide_eq_false_iff_not];omega)]
 rfl
theorem wordB_step (s:ByteArray) (k:Nat) (h:k<s.size) (ha:(s.data.toList.take k).all lowB=true) (h1:97≤(s[k].toNat:Int)) (h2:(s[k].toNat:Int)≤122):(s.data.toList.take (k+1)).all lowB=true:=by
 rw [take_all_succ lowB s.data.toList k (by simpa using h),ha,str_nth s k h]
 simp [lowB];omega
theorem wordB_end (s:ByteArray) (k:Nat) (h:¬ k<s.size) (ha:(s.data.toList.take k).all lowB=true):wordB s=(decide (1≤s.size) && decide (s.size≤12)):=by
 unfold wordB
 rw [List.take_of_length_le (by simp;omega)] at ha
 rw [ha];simp
theorem Word02 (s:ByteArray) (w:World) (hs:s.size≤140737488355328):Calls Tryz.prog 133 #[.string s] w fun e w'=>e=.returned (.bool (wordB s))∧w=w':=by
 go_enter Tryz.func133,Tryz.ntmps133
 go_wp2
 go_loop [3] (fun i=>∃ k:Nat,k≤s.size∧i=.int .i64 k∧(s.data.toList.take k).all lowB=true) (fun i=>s.size - (intOf i).toNat)
 case atStart=>exact⟨0,Nat.zero_le _,rfl,rfl⟩
 case round =>
  obtain⟨k,hk,rfl,ha⟩:=hrel
  have HA:=Lib.hid ha;clear ha
  by_cases hlt:k<s.size
  ·by_cases h1:(s[k].toNat:Int)<97
   ·go_wp2
    go_ret
    exact⟨ret_bool (wordB_no s k hlt (by omega)),rfl⟩
   ·by_cases h2:122<(s[k].toNat:Int)
    ·go_wp2
     go_ret
     exact⟨ret_bool (wordB_no s k hlt (by omega)),rfl⟩
    ·go_wp2
     go_round
     case rel=>exact⟨k+1,by omega,by go_num,wordB_step s k hlt HA.out (by omega) (by omega)⟩
     case measure=>simp [intOf];omega
  ·have HE:=Lib.hid (wordB_end s k hlt HA.out)
   by_cases h1:1≤s.size
   ·go_wp2
    go_ret
    exact⟨ret_bool (by rw [HE.out];simp [h1];try omega),rfl⟩
   ·go_wp2
    go_ret
    exact⟨ret_bool (by rw [HE.out];simp [h1];try omega),rfl⟩
end
section
open Go Go.RowKit
structure Pc where
 foot:Nat→Prop
 holds:World→Prop
 inh:∀ w:World,holds w→∀ k,foot k→k<w.heap.size
 loc:∀ w w':World,holds w→(∀ k,foot k→w'.heap[k]?=w.heap[k]?)→holds w'
def Pc.blk (g:Nat) (t:TypeId) (cs:Array Value):Pc :=
 ⟨fun k=>k=g,fun w=>Blk w g t cs,fun _ h k e=>by subst e;exact h.lt,fun _ _ h hk=>(hk g rfl).trans h⟩
theorem own_loc {w w':World} {base:Nat} {e:TypeId} {size:Nat} {q:Option Addr} {n c:Nat} {xs:List Value} (h:w.ownsRow base e size (.slice q n c) n xs) (hk:∀ k,blkOf q=some k→w'.heap[k]?=w.heap[k]?) :
  w'.ownsRow base e size (.slice q n c) n xs:=by
 refine⟨h.1,?_⟩
 rcases h.2 with h2 | ⟨g,cap,cur,h1,hg,hh,r⟩
 ·exact .inl h2
 ·refine .inr ⟨g,cap,cur,h1,hg,?_,r⟩
  injection h1 with h1
  exact(hk g (by rw [h1];rfl)).trans hh
theorem own_lt {w:World} {base:Nat} {e:TypeId} {size:Nat} {q:Option Addr} {n c:Nat} {xs:List Value} (h:w.ownsRow base e size (.slice q n c) n xs) {k:Nat} (hk:blkOf q=some k):base≤k∧k<w.heap.size :=
 h.lt k (by rw [ownBlock_slice];exact hk)
theorem own_rebase {w:World} {base B:Nat} {e:TypeId} {size:Nat} {q:Option Addr} {n c:Nat} {xs:List Value} (h:w.ownsRow base e size (.slice q n c) n xs) (hB:∀ k,blkOf q=some k→B≤k):w.ownsRow B e size (.slice q n c) n xs:=by
 refine⟨h.1,?_⟩
 rcases h.2 with h2 | ⟨g,cap,cur,h1,hg,r⟩
 ·exact .inl h2
 ·refine .inr ⟨g,cap,cur,h1,hB g ?_,r⟩
  injection h1 with h1
  rw [h1];rfl
def Pc.own (e:TypeId) (size:Nat) (q:Option Addr) (n c:Nat) (xs:List Value):Pc :=
 ⟨fun k=>blkOf q=some k,fun w=>w.ownsRow 0 e size (.slice q n c) n xs,fun _ h _ hk=>(own_lt h hk).2,fun _ _ h hk=>own_loc h hk⟩
structure Sep (w0 w:World) (Γ:List Pc):Prop where
 ext:Ext w0 w
 all:∀ p∈Γ,p.holds w
 new:∀ p∈Γ,∀ k,p.foot k→w0.heap.size≤k
 apart:Γ.Pairwise fun p q=>∀ k,p.foot k→¬ q.foot k
section
variable {w0 w w':World} {Γ Δ:List Pc}
theorem Sep.start (w:World):Sep w w []:=⟨Below.refl _ _,fun _ h=>(nomatch h),fun _ h=>(nomatch h),List.Pairwise.nil⟩
theorem Sep.lt (S:Sep w0 w Γ) {p:Pc} (hp:p∈Γ) {k:Nat} (hk:p.foot k):k<w.heap.size:=p.inh w (S.all p hp) k hk
theorem Sep.call (S:Sep w0 w Γ) (h:Ext w w'):Sep w0 w' Γ :=
 ⟨Ext.trans S.ext h,fun p hp=>p.loc w w' (S.all p hp) fun k hk=>h.block k (S.lt hp hk),S.new,S.apart⟩
theorem Sep.junk (S:Sep w0 w Γ) (o:Obj):Sep w0 (w.alloc o) Γ:=S.call (Ext.alloc (Below.refl _ _) o)
theorem Sep.drewN (S:Sep w0 w Γ) (n:Nat):Sep w0 (w.drewN n) Γ:=S.call (Ext.drewN (Below.refl _ _) n)
theorem Sep.drew (S:Sep w0 w Γ):Sep w0 w.drew Γ:=S.call (Below.refl _ _).drew
theorem Sep.comp (S:Sep w0 w Γ) (T:Sep w w' Δ):Sep w0 w' (Δ ++ Γ):=by
 refine⟨Ext.trans S.ext T.ext,fun p hp=>?_,fun p hp k hk=>?_,?_⟩
 ·rcases List.mem_append.1 hp with h | h
  ·exact T.all p h
  ·exact(S.call T.ext).all p h
 ·rcases List.mem_append.1 hp with h | h
  ·exact Nat.le_trans S.ext.size (T.new p h k hk)
  ·exact S.new p h k hk
 ·rw [List.pairwise_append]
  refine⟨T.apart,S.apart,fun p hp q hq k hk hk2=>?_⟩
  have h1:=T.new p hp k hk
  have h2:=S.lt hq hk2
  omega
theorem Sep.freshB {g:Nat} {t:TypeId} {cs:Array Value} (S:Sep w0 w Γ) (h:Ext w w') (hb:Blk w' g t cs) (hg:w.heap.size≤g):Sep w0 w' (.blk g t cs :: Γ) :=
 S.comp (Δ:=[.blk g t cs]) ⟨h,fun p hp=>by rw [List.mem_singleton] at hp;subst hp;exact hb,fun p hp k hk=>by rw [List.mem_singleton] at hp;subst hp;cases hk;exact hg,List.pairwise_singleton _ _⟩
theorem Sep.alloc (S:Sep w0 w Γ) (cs:Array Value) (t:TypeId):Sep w0 (w.alloc (.cells cs t)) (.blk w.heap.size t cs :: Γ) :=
 S.freshB (Ext.alloc (Below.refl _ _) _) (Blk.new w t cs) (Nat.le_refl _)
theorem Sep.al (S:Sep w0 w Γ) (cs:Array Value) (t:TypeId) (g:Nat) (hg:w.heap.size=g):Sep w0 (w.alloc (.cells cs t)) (.blk g t cs :: Γ):=by subst hg;exact S.alloc cs t
theorem Sep.fresh {B:Nat} {e:TypeId} {size:Nat} {q:Option Addr} {n c:Nat} {xs:List Value} (S:Sep w0 w Γ) (h:Ext w w') (ho:w'.ownsRow B e size (.slice q n c) n xs) (hB:w.heap.size≤B):Sep w0 w' (.own e size q n c xs :: Γ) :=
 S.comp (Δ:=[.own e size q n c xs]) ⟨h,fun p hp=>by rw [List.mem_singleton] at hp;subst hp;exact own_base ho (Nat.zero_le _),fun p hp k hk=>by rw [List.mem_singleton] at hp;subst hp;exact Nat.le_trans hB (own_lt ho hk).1,List.pairwise_singleton _ _⟩
theorem Sep.nilrow (S:Sep w0 w Γ) (e:TypeId) (size:Nat):Sep w0 w (.own e size none 0 0 [] :: Γ) :=
 S.fresh (Below.refl _ _) (World.ownsRow_nil w w.heap.size e size) (Nat.le_refl _)
theorem Sep.sub (S:Sep w0 w Γ) (h:Δ.Sublist Γ):Sep w0 w Δ :=
 ⟨S.ext,fun p hp=>S.all p (h.subset hp),fun p hp=>S.new p (h.subset hp),S.apart.sublist h⟩
theorem Sep.perm (S:Sep w0 w Γ) (h:Δ.Perm Γ):Sep w0 w Δ :=
 ⟨S.ext,fun p hp=>S.all p (h.subset hp),fun p hp=>S.new p (h.subset hp),(h.symm.pairwise_iff (fun {_ _} h k hq hp=>h k hp hq)).1 S.apart⟩
def pickL (Γ:List Pc) (is:List Nat):List Pc:=is.filterMap fun i=>Γ[i]?
theorem Sep.apart_at (S:Sep w0 w Γ) {i j:Nat} {p q:Pc} (hi:Γ[i]?=some p) (hj:Γ[j]?=some q) (hne:i≠j) {k:Nat} (hp:p.foot k) (hq:q.foot k):False:=by
 obtain⟨hi1,rfl⟩:=List.getElem?_eq_some_iff.1 hi
 obtain⟨hj1,rfl⟩:=List.getElem?_eq_some_iff.1 hj
 rcases Nat.lt_or_gt_of_ne hne with h | h
 ·exact List.pairwise_iff_getElem.1 S.apart i j hi1 hj1 h k hp hq
 ·exact List.pairwise_iff_getElem.1 S.apart j i hj1 hi1 h k hq hp
theorem Sep.pick (S:Sep w0 w Γ) (is:List Nat) (hn:is.Nodup) (he:Δ=pickL Γ is):Sep w0 w Δ:=by
 subst he
 refine⟨S.ext,fun p hp=>?_,fun p hp=>?_,?_⟩
 ·obtain⟨i,_,h⟩:=List.mem_filterMap.1 hp
  exact S.all p (List.mem_of_getElem? h)
 ·obtain⟨i,_,h⟩:=List.mem_filterMap.1 hp
  exact S.new p (List.mem_of_getElem? h)
 ·unfold pickL
  rw [List.pairwise_filterMap]
  refine hn.imp ?_
  intro i j hne p hp q hq k hk hk2
  exact S.apart_at hp hq hne hk hk2
theorem Sep.put (S:Sep w0 w Γ) (j:Nat) {p:Pc} (hj:Γ[j]?=some p) (p':Pc) {row:Option Nat} (hg:w.grownBy w' row) (hrow:∀ k,row=some k→p.foot k) (hp:p'.holds w') (hf:∀ k,p'.foot k→p.foot k∨w.heap.size≤k):Sep w0 w' (Γ.set j p'):=by
 obtain⟨hj1,hj2⟩:=List.getElem?_eq_some_iff.1 hj
 have hpm:p∈Γ:=by rw [← hj2];exact List.getElem_mem _
 have hmem:∀ x∈Γ.set j p',x=p'∨∃ i,i≠j∧Γ[i]?=some x:=by
  intro x hx
  obtain⟨i,hi,rfl⟩:=List.mem_iff_getElem.1 hx
  rw [List.length_set] at hi
  rw [List.getElem_set]
  by_cases e:j=i
  ·left;rw [if_pos e]
  ·right;rw [if_neg e];exact⟨i,fun h=>e h.symm,List.getElem?_eq_getElem hi⟩
 have hold:∀ (i:Nat) x,i≠j→Γ[i]?=some x→∀ k,x.foot k→w'.heap[k]?=w.heap[k]?:=by
  intro i x hi hx k hk
  exact hg.block k (S.lt (List.mem_of_getElem? hx) hk) fun e=>S.apart_at hx hj hi hk (hrow k e.symm)
 refine⟨Below.trans S.ext ⟨hg.os,hg.tape,hg.output,hg.size,fun k hk=>hg.block k (Nat.lt_of_lt_of_le hk S.ext.size) fun e=>?_⟩,fun x hx=>?_,fun x hx k hk=>?_,?_⟩
 ·have:=S.new p hpm k (hrow k e.symm);omega
 ·rcases hmem x hx with rfl | ⟨i,hi,hx⟩
  ·exact hp
  ·exact x.loc w w' (S.all x (List.mem_of_getElem? hx)) (hold i x hi hx)
 ·rcases hmem x hx with rfl | ⟨i,hi,hx⟩
  ·rcases hf k hk with h | h
   ·exact S.new p hpm k h
   ·exact Nat.le_trans S.ext.size h
  ·exact S.new x (List.mem_of_getElem? hx) k hk
 ·rw [List.pairwise_iff_getElem]
  intro a b ha hb hab k hka hkb
  rw [List.length_set] at ha hb
  rw [List.getElem_set] at hka hkb
  have key:∀ i (hi:i<Γ.length),i≠j→p'.foot k→(Γ[i]).foot k→False:=by
   intro i hi hne h1 h2
   rcases hf k h1 with h | h
   ·exact S.apart_at hj (List.getElem?_eq_getElem hi) (fun e=>hne e.symm) h h2
   ·have:=S.lt (List.getElem_mem hi) h2;omega
  by_cases e1:j=a
  ·rw [if_pos e1] at hka
   rw [if_neg (by omega)] at hkb
   exact key b hb (by omega) hka hkb
  ·rw [if_neg e1] at hka
   by_cases e2:j=b
   ·rw [if_pos e2] at hkb
    exact key a ha (fun h=>e1 h.symm) hkb hka
   ·rw [if_neg e2] at hkb
    exact S.apart_at (List.getElem?_eq_getElem ha) (List.getElem?_eq_getElem hb) (by omega) hka hkb
theorem grown_set (w:World) (a:Addr) (u:Value):w.grownBy (w.setCell a u) (some a.block) :=
 ⟨rfl,rfl,rfl,by simp [World.setCell],fun k _ hk=>Below.heap_setCell w a u k (fun e=>hk (by rw [e]))⟩
theorem Sep.blk (S:Sep w0 w Γ) (j:Nat) {g:Nat} {t:TypeId} {cs:Array Value} (hj:Γ[j]?=some (.blk g t cs)):Blk w g t cs:=S.all _ (List.mem_of_getElem? hj)
theorem Sep.bge (S:Sep w0 w Γ) (j:Nat) {g:Nat} {t:TypeId} {cs:Array Value} (hj:Γ[j]?=some (.blk g t cs)):w0.heap.size≤g:=S.new _ (List.mem_of_getElem? hj) g rfl
theorem Sep.own (S:Sep w0 w Γ) (j:Nat) {e:TypeId} {size:Nat} {q:Option Addr} {n c:Nat} {xs:List Value} (hj:Γ[j]?=some (.own e size q n c xs)):w.ownsRow w0.heap.size e size (.slice q n c) n xs :=
 own_rebase (S.all _ (List.mem_of_getElem? hj)) fun k hk=>S.new _ (List.mem_of_getElem? hj) k hk
theorem Sep.rd (S:Sep w0 w Γ) (j:Nat) {e:TypeId} {size:Nat} {q:Option Addr} {n c:Nat} {xs:List Value} (hj:Γ[j]?=some (.own e size q n c xs)) (hs:n≤9223372036854775807):Rd w size q n xs:=Rd.of_own (S.own j hj) hs
theorem Sep.set (S:Sep w0 w Γ) (j:Nat) {g:Nat} {t:TypeId} {cs:Array Value} (hj:Γ[j]?=some (.blk g t cs)) (i:Nat) (u:Value):Sep w0 (w.setCell ⟨g,i,none⟩ u) (Γ.set j (.blk g t (cs.setIfInBounds i u))) :=
 S.put j hj _ (grown_set w ⟨g,i,none⟩ u) (fun k hk=>by injection hk with hk;exact hk.symm) ((S.blk j hj).set_ i u) (fun k hk=>.inl hk)
end
theorem Rd.drew {w:World} {size n:Nat} {p:Option Addr} {xs:List Value} (h:Rd w size p n xs):Rd w.drew size p n xs:=h.ext (Below.refl _ _).drew
def Pc.many (e:TypeId) (size:Nat) (rows:List (Hd × List Value)):Pc :=
 ⟨fun k=>∃ r∈rows,blkOf r.1.p=some k,fun w=>∀ r∈rows,w.ownsRow 0 e size (.slice r.1.p r.1.n r.1.c) r.1.n r.2,fun _ h _ ⟨r,hr,hk⟩=>(own_lt (h r hr) hk).2,fun _ _ h hk r hr=>own_loc (h r hr) fun k hb=>hk k ⟨r,hr,hb⟩⟩
theorem Sep.many0 {w0 w:World} {Γ:List Pc} (S:Sep w0 w Γ) (e:TypeId) (size:Nat):Sep w0 w (.many e size [] :: Γ) :=
 ⟨S.ext,fun p hp=>by
  rcases List.mem_cons.1 hp with rfl | h
  ·exact fun r hr=>nomatch hr
  ·exact S.all p h,fun p hp k hk=>by
  rcases List.mem_cons.1 hp with rfl | h
  ·obtain⟨r,hr,_⟩:=hk;cases hr
  ·exact S.new p h k hk,List.pairwise_cons.2 ⟨(fun q _ k ⟨r,hr,_⟩=>nomatch hr),S.apart⟩⟩
theorem Sep.gather {w0 w:World} {Γ:List Pc} {e:TypeId} {size:Nat} {q:Option Addr} {n c:Nat} {xs:List Value} {rows:List (Hd × List Value)} (S:Sep w0 w (.own e size q n c xs :: .many e size rows :: Γ)):Sep w0 w (.many e size (rows ++ [(⟨q,n,c⟩,xs)]) :: Γ):=by
 have h1:=S.all _ (List.mem_cons_self ..)
 have h2:(Pc.many e size rows).holds w:=S.all _ (List.mem_cons_of_mem _ (List.mem_cons_self ..))
 have p1:=List.pairwise_cons.1 S.apart
 have p2:=List.pairwise_cons.1 p1.2
 have hf:∀ k,(Pc.many e size (rows ++ [(⟨q,n,c⟩,xs)])).foot k→(Pc.own e size q n c xs).foot k∨(Pc.many e size rows).foot k:=by
  rintro k ⟨r,hr,hk⟩
  rcases List.mem_append.1 hr with h | h
  ·exact .inr ⟨r,h,hk⟩
  ·rw [List.mem_singleton] at h;subst h;exact .inl hk
 refine⟨S.ext,fun p hp=>?_,fun p hp k hk=>?_,List.pairwise_cons.2 ⟨fun q' hq' k hk=>?_,p2.2⟩⟩
 ·rcases List.mem_cons.1 hp with rfl | h
  ·intro r hr
   rcases List.mem_append.1 hr with h | h
   ·exact h2 r h
   ·rw [List.mem_singleton] at h;subst h;exact h1
  ·exact S.all p (by simp [h])
 ·rcases List.mem_cons.1 hp with rfl | h
  ·rcases hf k hk with h | h
   ·exact S.new _ (by simp) k h
   ·exact S.new _ (List.mem_cons_of_mem _ (List.mem_cons_self ..)) k h
  ·exact S.new p (by simp [h]) k hk
 ·rcases hf k hk with h | h
  ·exact p1.1 q' (by simp [hq']) k h
  ·exact p2.1 q' hq' k h
theorem Sep.manyAt {w0 w:World} {Γ:List Pc} (S:Sep w0 w Γ) (j:Nat) {e:TypeId} {size:Nat} {rows:List (Hd × List Value)} (hj:Γ[j]?=some (.many e size rows)):∀ r∈rows,w.ownsRow 0 e size (.slice r.1.p r.1.n r.1.c) r.1.n r.2:=S.all _ (List.mem_of_getElem? hj)
def Kn (w:World) (Φ:List (World→Prop)):Prop:=∀ φ∈Φ,∀ w',Ext w w'→φ w'
theorem Kn.nil (w:World):Kn w []:=fun _ h=>nomatch h
theorem Kn.ext {w w':World} {Φ:List (World→Prop)} (h:Kn w Φ) (he:Ext w w'):Kn w' Φ:=fun φ hφ w2 h2=>h φ hφ w2 (Ext.trans he h2)
theorem Kn.add {w:World} {Φ:List (World→Prop)} (h:Kn w Φ) (φ:World→Prop) (hφ:∀ w',Ext w w'→φ w'):Kn w (φ :: Φ):=fun ψ hψ=>by
 rcases List.mem_cons.1 hψ with rfl | h1
 ·exact hφ
 ·exact h ψ h1
theorem Kn.get {w:World} {Φ:List (World→Prop)} (h:Kn w Φ) (i:Nat) {φ:World→Prop} (hi:Φ[i]?=some φ):φ w:=h φ (List.mem_of_getElem? hi) w (Below.refl _ _)
theorem ret_slc {p:Option Addr} {n m c:Nat} (h:n=m):Ending.returned (.slice p n c)=.returned (.slice p m c):=by rw [h]
theorem Rd.new (w:World) (t:TypeId) (cs:List Value) (n size:Nat) (h:cs.length=n*size) (hn:n≤9223372036854775807):Rd (w.alloc (.cells cs.toArray t)) size (some ⟨w.heap.size,0,none⟩) n cs:=by
 refine⟨h,.inr ⟨_,_,rfl⟩,hn,fun j hj=>?_⟩
 rw [adr_some,Nat.zero_add,(Blk.new w t cs.toArray).cell]
 simp [List.getElem?_eq_getElem (show j<cs.length by omega)]
section
variable {P:Program} {w0 w:World} {Γ:List Pc}
theorem own_put1 {base:Nat} {e:TypeId} {size:Nat} {q:Option Addr} {n c:Nat} {xs:List Value} (ho:w.ownsRow base e size (.slice q n c) n xs) (k:Nat) (hk:k<n*size) (u:Value) :
  (w.setCell (adr q k) u).ownsRow base e size (.slice q n c) n (xs.set k u):=by
 refine⟨by rw [List.length_set];exact ho.1,?_⟩
 rcases ho.2 with ⟨h1,h2⟩ | ⟨g,cap,cur,h1,hg,hh,hn,hc,hs,hx⟩
 ·subst h2;simp at hk
 ·injection h1 with h1 h2 h3
  subst h1 h3
  refine .inr ⟨g,c,cur.setIfInBounds k u,rfl,hg,?_,hn,hc,by simpa using hs,?_⟩
  ·have:Blk w g e cur:=hh
   have h4:=this.set_ k u
   unfold Blk at h4
   simpa [adr] using h4
  ·rw [Array.toList_setIfInBounds,← hx,List.take_set]
theorem Sep.setRow (S:Sep w0 w Γ) (j:Nat) {e:TypeId} {size:Nat} {q:Option Addr} {n c:Nat} {xs:List Value} (hj:Γ[j]?=some (.own e size q n c xs)) (k:Nat) (hk:k<n*size) (u:Value) :
  Sep w0 (w.setCell (adr q k) u) (Γ.set j (.own e size q n c (xs.set k u))):=by
 have ho:=S.own j hj
 refine S.put j hj _ (grown_set w (adr q k) u) (fun k' hk'=>?_) (own_base (own_put1 ho k hk u) (Nat.zero_le _)) (fun k hk=>.inl hk)
 injection hk' with hk'
 subst hk'
 show blkOf q=_
 rcases ho.2 with ⟨h1,h2⟩ | ⟨g,cap,cur,h1,_⟩
 ·subst h2;simp at hk
 ·injection h1 with h1
  rw [h1];rfl
theorem own_frozen {base:Nat} {e:TypeId} {size:Nat} {q:Option Addr} {n c:Nat} {xs:List Value} (ho:w.ownsRow base e size (.slice q n c) n xs) (h:0<n*size) (k:Nat):w.frozen? (adr q k)=false:=by
 rcases ho.2 with ⟨h1,h2⟩ | ⟨g,cap,cur,h1,hg,hh,_⟩
 ·subst h2;simp at h
 ·injection h1 with h1 h2 h3
  subst h1
  have:Blk w g e cur:=hh
  simpa [adr] using this.frozen k
theorem own_cell {base:Nat} {e:TypeId} {size:Nat} {q:Option Addr} {n c:Nat} {xs:List Value} (ho:w.ownsRow base e size (.slice q n c) n xs) {k:Nat} (hk:k<n*size):w.cell? (adr q k)=some (xs.getD k undef):=by
 rcases ho.2 with ⟨h1,h2⟩ | ⟨g,cap,cur,h1,hg,hh,hn,hc,hs,hx⟩
 ·subst h2;simp at hk
 ·injection h1 with h1 h2 h3
  subst h1
  have:Blk w g e cur:=hh
  have h4:=this.cell k
  have h5:n*size≤cap*size:=Nat.mul_le_mul_right _ hn
  simp only [adr,Option.getD_some,Nat.zero_add]
  rw [h4,← hx,List.getD_eq_getElem?_getD,List.getElem?_take,if_pos hk]
  simp [show k<cur.size by omega]
theorem frozen_alloc_adr (w:World) (o:Obj) (p:Option Addr) (j:Nat) (h:(adr p 0).block<w.heap.size):(w.alloc o).frozen? (adr p j)=w.frozen? (adr p j) :=
 World.frozen?_of_block (Below.heap_alloc w o _ h)
theorem frozen_alloc_lt (w:World) (o:Obj) (a:Addr) (h:a.block<w.heap.size):(w.alloc o).frozen? a=w.frozen? a :=
 World.frozen?_of_block (Below.heap_alloc w o _ h)
attribute [go_sem] frozen_alloc_adr frozen_alloc_lt
theorem adr_other (q:Option Addr) {i j:Nat} (h:i≠j):adr q i≠adr q j:=by
 unfold adr;intro e;injection e;omega
theorem Sep.blt {w0 w:World} {Γ:List Pc} (S:Sep w0 w Γ) (j:Nat) {e:TypeId} {size:Nat} {q:Option Addr} {n c:Nat} {xs:List Value} (hj:Γ[j]?=some (.own e size q n c xs)) (h:0<n):w0.heap.size≤(adr q 0).block∧(adr q 0).block<w.heap.size:=by
 have ho:=S.own j hj
 rcases ho.2 with ⟨_,h2⟩ | ⟨g,cap,cur,h1,_⟩
 ·omega
 ·injection h1 with h1
  exact own_lt ho (k:=(adr q 0).block) (by rw [h1];rfl)
theorem Sep.setRow2 (S:Sep w0 w Γ) (j:Nat) {e:TypeId} {size:Nat} {q:Option Addr} {n c:Nat} {xs:List Value} (hj:Γ[j]?=some (.own e size q n c xs)) (k:Nat) (hk:k+1<n*size) (u v:Value) :
  Sep w0 ((w.setCell (adr q k) u).setCell ⟨(adr q k).block,(adr q k).off+1,none⟩ v) (Γ.set j (.own e size q n c ((xs.set k u).set (k+1) v))):=by
 have hjl:=(List.getElem?_eq_some_iff.1 hj).1
 have:=(S.setRow j hj k (by omega) u).setRow j (List.getElem?_set_self hjl) (k+1) hk v
 rwa [List.set_set] at this
theorem wpList_append_sep {ops:Array Oper} {rest:List Oper} {o:Oper} {a:Act} {Q:Exit→Act→World→Prop} (hgd:o.guard=none) (s x:Operand) (t:TypeId)
  (ho:o.op=.call { callee:=.builtin .append,args:=#[s,x],argTypes:=#[t,t] })
  (e:TypeId) (i:TypeInfo) (z:Value) (size bytes:Nat) (ht:P.underlying t=some (.slice e)) (hi:P.info? e=some i) (hz:i.zero=some z)
  (hsize:i.size=size) (hby:i.bytes=bytes) (hzs:z.cells.size=size) (hsz:0<size)
  (S:Sep w0 w Γ) (j:Nat) (q:Option Addr) (n cq:Nat) (xs:List Value) (hs:a.eval s=.slice q n cq) (hj:Γ[j]?=some (.own e size q n cq xs))
  (A:Option Addr) (m c:Nat) (news:List Value) (hx:a.eval x=.slice A m c) (hr:Rd w size A m news) (h1:∀ u∈news,u.oneCell'=true)
  (hbytes:(n+m)*bytes≤140737488355328) (h63:n+m≤140737488355328)
  (h:∀ q' c' w',Sep w0 w' (Γ.set j (.own e size q' (n+m) c' (xs ++ news)))→w.heap.size≤w'.heap.size→wpList P ops Q rest (a.put o.dst (.slice q' (n+m) c')) w'):wpList P ops Q (o :: rest) a w:=by
 refine wpList_append_rd hgd s x t ho w0.heap.size e i z size bytes ht hi hz hsize hby hzs hsz q n cq xs hs (S.own j hj) A m c news hx hr h1 hbytes h63 S.ext.size ?_
 intro q' c' w' ho' hg hat _
 refine h q' c' w' (S.put j hj _ hg (fun k hk=>hk) (own_base ho' (Nat.zero_le _)) fun k hk=>?_) hg.size
 rcases hat with h | h
 ·exact .inl (h.symm.trans hk)
 ·have:some w.heap.size=some k:=h.symm.trans hk
  injection this with this
  exact .inr (by omega)
end
end
section
open Go Go.RowKit
section
variable {F:Fence} {n:Nat} {P:Program}
theorem wpQuietIn_of {ops:Array Oper} {C:World→Prop} {Q:Act→Prop}:∀ {l:List Oper} {a:Act},wpQuiet P ops C Q l a→wpQuietIn Fence.wide n P ops C Q l a
 | [],_,h=>h
 | o :: l,a,h=>by
  unfold wpQuiet at h
  unfold wpQuietIn
  refine⟨fun _ _ _ _=>trivial,?_⟩
  split
  ·rename_i hw
   rw [if_pos hw] at h
   obtain⟨v,hv,hk⟩:=h
   refine⟨v,fun w hw=>?_,wpQuietIn_of hk⟩
   have:=hv w hw
   unfold Oper.quietAt at this
   unfold Oper.quietAtIn
   generalize (execOp a.eval o).run P w=r at this
   cases r with
   | ok x w' =>
    cases x <;> first | exact this | exact this.elim | skip
    obtain⟨h1,h2⟩:=this
    exact⟨h1,fun h=>by simp [Fence.wide] at h,callsIn_wide.2 h2⟩
   | halt x w'=>exact this.elim
  ·rename_i hw
   rw [if_neg hw] at h
   exact wpQuietIn_of h
theorem wpOpIn_round {r:Nat} {ops:Array Oper} {Q:Exit→Act→World→Prop} {i:Nat} {K K':Act→World→Prop} {a:Act} {w:World} (_:F.round=none) (hnd:∀ (i:Nat) (o:Oper),ops[i]?=some o→∀ c,o.op≠.defer c)
  (hK:∀ a w,K a w→K' a w) (h:wpOpIn F n P ops Q i K a w):wpOpIn (F.inRound r) n P ops Q i K' a w:=by
 have h:=wpOpIn_mono hK h
 unfold wpOpIn at h ⊢
 split
 ·rename_i ho;rw [ho] at h;exact h
 ·rename_i o ho
  rw [ho] at h
  simp only at h
  split
  ·rename_i hw
   rw [if_pos hw] at h
   refine⟨h.1,?_⟩
   have h2:=h.2
   rw [Oper.semAt_eq _ _ _ (hnd i o ho)] at h2 ⊢
   exact h2
  ·rename_i hw
   rw [if_neg hw] at h
   exact h
theorem wpAnyIn_round {r:Nat} {md:Region.Mode} {ops:Array Oper} {Q:Exit→Act→World→Prop} (hro:F.round=none) (hnd:∀ (i:Nat) (o:Oper),ops[i]?=some o→∀ c,o.op≠.defer c) :
  ∀ (fuel:Nat) (listed:Array Bool) (a:Act) (w:World),wpAnyIn F n P md ops Q fuel listed a w→wpAnyIn (F.inRound r) n P md ops Q fuel listed a w
 | 0,_,_,_,h=>h
 | fuel+1,_,_,_,h=>⟨h.1,fun i hi=>wpOpIn_round hro hnd (fun a w=>wpAnyIn_round hro hnd fuel _ a w) (h.2 i hi)⟩
def noDefer (o:Oper):Bool:=match o.op with | .defer _=>false | _=>true
theorem wpIn_region_ext {r:Nat} {id:Nat} {Q:Exit→Act→World→Prop} {a:Act} {w:World} {l:List Oper} (hm:P.follows .mixedOrders=true) (hB:Region.lexB .any l.toArray=true) (hd:l.all noDefer=true)
  (h:wpQuiet P l.toArray (fun w'=>∃ x:ExtOf w,w'=x.val) (fun a'=>∀ w',(∃ x:ExtOf w,w'=x.val)→Q .normal a' w') l a):(Code.region id l.toArray true).wpIn (Fence.wide.inRound r) n P Q a w:=by
 have hnd:∀ (i:Nat) (o:Oper),l.toArray[i]?=some o→∀ c,o.op≠.defer c:=fun i o ho c e=>by
  have:=List.all_eq_true.1 hd o (List.mem_of_getElem? (by simpa using ho))
  unfold noDefer at this
  rw [e] at this
  cases this
 have hB0:=hB
 simp only [Region.lexB,Bool.and_eq_true] at hB
 refine wpIn_region_any hm (wpAnyIn_round rfl hnd _ _ _ _ (wpAnyIn_of_quiet (C:=fun w'=>∃ x:ExtOf w,w'=x.val) (Q:=fun a'=>∀ w',(∃ x:ExtOf w,w'=x.val)→Q .normal a' w') rfl (fun _ w' hw' h=>h w' hw') _ _ _ _ ⟨⟨{ w with drawn:=w.drawn+1 },⟨rfl,rfl,rfl,Nat.le_refl _,fun _ _=>rfl⟩⟩,rfl⟩ ?_))
 have:=wpAnyQIn_lex (F:=Fence.wide) (n:=n) (C:=fun w'=>∃ x:ExtOf w,w'=x.val) (md:=.any) hB.1 l 0 (Array.replicate l.toArray.size false) a (by simp) (by simpa using hB.2) (wpQuietIn_of h)
 simpa using this
end
section
variable {P:Program} {n r:Nat}
theorem rowsIn_of {row:String} {args:Array Value} {w:World} {R:Value→World→Prop} (h:Rows P row args w R):RowsIn Fence.wide n P row args w R:=fun c cs _=>let ⟨v,w',hr,s⟩:=h c cs;⟨v,w',hr,stepsIn_wide.2 s⟩
theorem wpListIn_round {ops:Array Oper} {Q:Exit→Act→World→Prop} (hL:¬ LetsOut Q):∀ (l:List Oper) (a:Act) (w:World),l.all noDefer=true→wpList P ops Q l a w→wpListIn (Fence.wide.inRound r) n P ops Q l a w
 | [],_,_,_,h=>h
 | o :: l,a,w,hd,h=>by
  rw [List.all_cons,Bool.and_eq_true] at hd
  have hnd:∀ c,o.op≠.defer c:=fun c e=>by
   have:=hd.1
   unfold noDefer at this
   rw [e] at this
   cases this
  unfold wpList at h
  unfold wpListIn
  split
  ·rename_i hw
   rw [if_pos hw] at h
   rcases h with h | h
   ·refine⟨fun _ _=>trivial,?_⟩
    rw [Oper.semAt_eq _ _ _ hnd]
    unfold Oper.wp at h
    generalize (execOp a.eval o).run P w=res at h
    unfold Oper.upon at h
    unfold Oper.uponIn
    split at h
    ·exact wpListIn_round hL l _ _ hd.2 h
    ·exact wpListIn_round hL l _ _ hd.2 h
    ·exact wpListIn_round hL l _ _ hd.2 h
    ·refine⟨fun h=>by simp [Fence.wide] at h,CallsIn.inRound r ((callsIn_wide.2 h).mono fun e w'' hr=>?_)⟩
     cases e with
     | returned v=>exact wpListIn_round hL l _ _ hd.2 hr
     | panicked chain=>exact hr
     | outgrown=>exact hr
    ·exact⟨fun h=>by simp [Fence.wide] at h,(rowsIn_of h).mono fun v w'' hr=>wpListIn_round hL l _ _ hd.2 hr⟩
    ·exact h
    ·exact h.elim
   ·exact absurd h.2 hL
  ·rename_i hw
   rw [if_neg hw] at h
   exact⟨fun _ _=>trivial,wpListIn_round hL l _ _ hd.2 h⟩
theorem wpIn_region_list {id:Nat} {l:List Oper} {Q:Exit→Act→World→Prop} {a:Act} {w:World} (hL:¬ LetsOut Q) (hd:l.all noDefer=true) (h:wpList P l.toArray Q l a w):(Code.region id l.toArray false).wpIn (Fence.wide.inRound r) n P Q a w :=
 wpIn_region_lit (wpListIn_round hL l a w hd h)
end
theorem Kn.pick {w:World} {Φ:List (World→Prop)} (h:Kn w Φ) (is:List Nat):Kn w (is.filterMap fun i=>Φ[i]?):=fun φ hφ=>by
 obtain⟨i,_,hi⟩:=List.mem_filterMap.1 hφ
 exact h φ (List.mem_of_getElem? hi)
def Pc.cells (p:Pc):Prop:=∀ w,p.holds w→∀ k,p.foot k→∃ o:Obj,w.heap[k]?=some o∧o.isCells=true
theorem Pc.blk_cells (g:Nat) (t:TypeId) (cs:Array Value):(Pc.blk g t cs).cells:=fun _ h k e=>by
 cases e
 have h:Blk _ g t cs:=h
 exact⟨_,h,rfl⟩
theorem Pc.own_cells (e:TypeId) (size:Nat) (q:Option Addr) (n c:Nat) (xs:List Value):(Pc.own e size q n c xs).cells:=fun w h k hk=>by
 have h:w.ownsRow 0 e size (.slice q n c) n xs:=h
 rcases h.2 with ⟨h1,h2⟩ | ⟨g,cap,cur,h1,hg,hh,_⟩
 ·subst h2
  rcases h.2 with ⟨h3,_⟩ | ⟨g,cap,cur,h1,hg,hh,_⟩
  ·injection h3 with h3;subst h3;cases hk
  ·injection h1 with h1;subst h1
   obtain rfl:g=k:=by injection hk
   exact⟨_,hh,rfl⟩
 ·injection h1 with h1;subst h1
  obtain rfl:g=k:=by injection hk
  exact⟨_,hh,rfl⟩
theorem Sep.turn {w0 w w':World} {Γ:List Pc} {row:Option Nat} {B:Nat} (S:Sep w0 w Γ) (hΓ:∀ p∈Γ,p.cells) (hB:w0.heap.size≤B) (hg:w.grownBy w' row) (hr:∀ r,row=some r→B≤r∧∃ o:Obj,w.heap[r]?=some o∧o.isCells=false):Sep w0 w' Γ:=by
 refine⟨Below.trans S.ext ⟨hg.os,hg.tape,hg.output,hg.size,fun k hk=>hg.block k (Nat.lt_of_lt_of_le hk S.ext.size) fun e=>?_⟩,fun p hp=>p.loc w w' (S.all p hp) fun k hk=>hg.block k (S.lt hp hk) fun e=>?_,S.new,S.apart⟩
 ·have:=(hr k e.symm).1;omega
 ·obtain⟨_,o,h1,h2⟩:=hr k e.symm
  obtain⟨o',h3,h4⟩:=hΓ p hp w (S.all p hp) k hk
  rw [h1] at h3;injection h3 with h3;subst h3;rw [h2] at h4;cases h4
theorem cells_all {Γ:List Pc} (h:∀ p∈Γ,(∃ g t cs,p=Pc.blk g t cs)∨∃ e size q n c xs,p=Pc.own e size q n c xs):∀ p∈Γ,p.cells:=fun p hp=>by
 rcases h p hp with ⟨g,t,cs,rfl⟩ | ⟨e,size,q,n,c,xs,rfl⟩
 ·exact Pc.blk_cells _ _ _
 ·exact Pc.own_cells _ _ _ _ _ _
theorem Sep.putObj {w0 w:World} {Γ:List Pc} (S:Sep w0 w Γ) (hΓ:∀ p∈Γ,p.cells) {D:Nat} {o:Obj} (o':Obj) (hD:w0.heap.size≤D) (hK:w.heap[D]?=some o) (ho:o.isCells=false):Sep w0 (w.putObj D o') Γ :=
 S.turn hΓ hD (grownBy_putObj' w D o') fun r e=>by cases e;exact⟨Nat.le_refl _,o,hK,ho⟩
theorem keeps_ext {W W':World} (h:Ext W W'):KeepsOthers W W':=⟨h.size,fun k _ hk _=>(h.block k (Array.getElem?_eq_some_iff.1 hk).1).trans hk⟩
theorem wpList_append_sepK {P:Program} {w0 w:World} {Γ:List Pc} {ops:Array Oper} {rest:List Oper} {o:Oper} {a:Act} {Q:Exit→Act→World→Prop} (hgd:o.guard=none) (s x:Operand) (t:TypeId)
  (ho:o.op=.call { callee:=.builtin .append,args:=#[s,x],argTypes:=#[t,t] })
  (e:TypeId) (i:TypeInfo) (z:Value) (size bytes:Nat) (ht:P.underlying t=some (.slice e)) (hi:P.info? e=some i) (hz:i.zero=some z)
  (hsize:i.size=size) (hby:i.bytes=bytes) (hzs:z.cells.size=size) (hsz:0<size)
  (S:Sep w0 w Γ) (j:Nat) (q:Option Addr) (n cq:Nat) (xs:List Value) (hs:a.eval s=.slice q n cq) (hj:Γ[j]?=some (.own e size q n cq xs))
  (A:Option Addr) (m c:Nat) (news:List Value) (hx:a.eval x=.slice A m c) (hr:Rd w size A m news) (h1:∀ u∈news,u.oneCell'=true)
  (hbytes:(n+m)*bytes≤140737488355328) (h63:n+m≤140737488355328)
  (h:∀ q' c' w',Sep w0 w' (Γ.set j (.own e size q' (n+m) c' (xs ++ news)))→w.heap.size≤w'.heap.size→KeepsOthers w w'→wpList P ops Q rest (a.put o.dst (.slice q' (n+m) c')) w'):wpList P ops Q (o :: rest) a w:=by
 refine wpList_append_rd hgd s x t ho w0.heap.size e i z size bytes ht hi hz hsize hby hzs hsz q n cq xs hs (S.own j hj) A m c news hx hr h1 hbytes h63 S.ext.size ?_
 intro q' c' w' ho' hg hat _
 refine h q' c' w' (S.put j hj _ hg (fun k hk=>hk) (own_base ho' (Nat.zero_le _)) fun k hk=>?_) hg.size (KeepsOthers.of_grownBy hg fun k o ek hk=>?_)
 ·rcases hat with h | h
  ·exact .inl (h.symm.trans hk)
  ·have:some w.heap.size=some k:=h.symm.trans hk
   injection this with this
   exact .inr (by omega)
 ·obtain⟨o',h1,h2⟩:=Pc.own_cells e size q n cq xs w (S.all _ (List.mem_of_getElem? hj)) k ek
  rw [hk] at h1;injection h1 with h1;subst h1;exact h2
end
section
open Go Go.RowKit
structure RdL (w:World) (p:Option Addr) (n:Nat) (hs:List Hd) (LL:List (List Int)):Prop where
 hn:hs.length=LL.length
 row:Rd w 1 p n (encH hs)
 each:∀ j,j<n→Rd w 1 (nth hs j).p (nth hs j).n (encI (nth LL j))
theorem RdL.ext {w w':World} {p:Option Addr} {n:Nat} {hs:List Hd} {LL:List (List Int)} (h:RdL w p n hs LL) (he:Ext w w'):RdL w' p n hs LL:=⟨h.hn,h.row.ext he,fun j hj=>(h.each j hj).ext he⟩
theorem RdL.nL {w:World} {p:Option Addr} {n:Nat} {hs:List Hd} {LL:List (List Int)} (h:RdL w p n hs LL):n=LL.length:=by rw [← h.hn];exact h.row.nH
theorem RdL.nil (w:World):RdL w none 0 [] []:=⟨rfl,Rd.nil _ _ _,fun j hj=>by omega⟩
def fitF (A B:List Int) (i:Nat):Bool:=decide (i<B.length) && decide (nth A i≤nth B i)
theorem fitsB_F (A B:List Int):fitsB A B=(List.range A.length).all (fitF A B):=rfl
theorem FitsG (pa:Option Addr) (na ca:Nat) (A:List Int) (pb:Option Addr) (nb cb:Nat) (B:List Int) (w:World) (hA:Rd w 1 pa na (encI A)) (hB:Rd w 1 pb nb (encI B)):Calls Tryz.prog 27 #[.slice pa na ca,.slice pb nb cb] w fun e w'=>e=.returned (.bool (fitsB A B))∧Ext w w':=by
 have p1:=hA.ptr
 have n1:=hA.small
 have p2:=hB.ptr
 have n2:=hB.small
 have L1:=Lib.hid hA.nI
 have L2:=Lib.hid hB.nI
 have HA:=Lib.hid hA
 have HB:=Lib.hid hB
 clear hA hB
 rw [fitsB_F]
 go_enter Tryz.func27,Tryz.ntmps27
 go_wp2
 go_loopw [5,6,9] (fun _ _ i wr=>∃ k:Nat,k≤na∧i=.int .i64 k∧Hid ((List.range k).all (fitF A B)=true)∧Ext w wr) (fun _ _ i _=>na - (intOf i).toNat)
 case atStart=>exact⟨0,Nat.zero_le _,rfl,rfl,Below.refl _ _⟩
 case round =>
  obtain⟨k,hk,rfl,HK,hE⟩:=hrel
  have HE:=Lib.hid hE
  by_cases hlt:k<na
  ·have g1:=(HA.out.ext hE).cI hlt
   have d1:(0:Int)≤k:=by omega
   have d2:(k:Int)<na:=by omega
   by_cases h1:nb≤k
   ·have e1:decide ((nb:Int)≤(k:Int))=true:=by simp;omega
    have e1n:decide (nb≤k)=true:=by simpa using h1
    have HF:Hid ((List.range A.length).all (fitF A B)=false):=range_all_no _ _ k (by rw [← L1.out];exact hlt) (by unfold fitF;rw [decide_eq_false (by rw [← L2.out];omega)];rfl)
    clear hE
    go_wp2
    go_ret
    exact⟨ret_bool HF.out.symm,HE.out⟩
   ·have e1:decide ((nb:Int)≤(k:Int))=false:=by simp;omega
    have e1n:decide (nb≤k)=false:=by simpa using h1
    have g2:=(HB.out.ext hE).cI (show k<nb by omega)
    have d3:(k:Int)<nb:=by omega
    have h1':k<nb:=by omega
    by_cases h2:nth B k<nth A k
    ·have e2:decide (nth B k<nth A k)=true:=by simpa using h2
     have HF:Hid ((List.range A.length).all (fitF A B)=false):=range_all_no _ _ k (by rw [← L1.out];exact hlt) (by unfold fitF;rw [decide_eq_false (show ¬ nth A k≤nth B k by omega),Bool.and_false])
     clear hE h1
     generalize nth A k=x at *
     generalize nth B k=y at *
     go_wp2
     go_ret
     exact⟨ret_bool HF.out.symm,HE.out⟩
    ·have e2:decide (nth B k<nth A k)=false:=by simpa using h2
     have HK2:Hid ((List.range (k+1)).all (fitF A B)=true):=range_all_succ _ _ HK.out (by unfold fitF;rw [decide_eq_true (show k<B.length by rw [← L2.out];omega),decide_eq_true (show nth A k≤nth B k by omega)];rfl)
     clear hE h1
     generalize nth A k=x at *
     generalize nth B k=y at *
     go_wp2
     go_roundw
     case rel=>exact⟨k+1,by omega,by go_num,HK2.out,HE.out⟩
     case measure=>simp [intOf];omega
  ·have hkn:k=na:=by omega
   have HF:Hid ((List.range A.length).all (fitF A B)=true):=by unfold Hid;rw [← L1.out,← hkn];exact HK.out
   clear hE hkn
   go_wp2
   go_ret
   exact⟨ret_bool HF.out.symm,HE.out⟩
end
section
open Go Go.RowKit
structure Sq where
 s:Int
 r:Int
 v:Int
 d:Int
deriving Inhabited,DecidableEq
def encQ (l:List Sq):List Value:=l.flatMap fun x=>[.int .i64 x.s,.int .i64 x.r,.int .i64 x.v,.int .i64 x.d]
theorem encQ_len (l:List Sq):(encQ l).length=l.length*4:=by
 induction l with
 | nil=>rfl
 | cons x l ih=>simp only [encQ,List.flatMap_cons,List.length_append,List.length_cons] at ih ⊢;rw [ih];simp;omega
theorem encQ_append (l m:List Sq):encQ (l ++ m)=encQ l ++ encQ m:=by simp [encQ]
theorem encQ_get (l:List Sq):∀ (k:Nat),k<l.length→(encQ l).getD (k*4) undef=.int .i64 (nth l k).s∧(encQ l).getD (k*4+1) undef=.int .i64 (nth l k).r∧(encQ l).getD (k*4+2) undef=.int .i64 (nth l k).v∧(encQ l).getD (k*4+3) undef=.int .i64 (nth l k).d:=by
 induction l with
 | nil=>intro k h;simp at h
 | cons x l ih =>
  intro k h
  cases k with
  | zero=>exact⟨rfl,rfl,rfl,rfl⟩
  | succ k =>
   have h2:k<l.length:=by simp at h;omega
   have e:encQ (x :: l)=[.int .i64 x.s,.int .i64 x.r,.int .i64 x.v,.int .i64 x.d] ++ encQ l:=rfl
   have e2:nth (x :: l) (k+1)=nth l k:=rfl
   rw [e,e2,show (k+1)*4=k*4+4 from by omega]
   obtain⟨h3,h4,h5,h6⟩:=ih k h2
   refine⟨?_,?_,?_,?_⟩
   ·rw [← h3];rfl
   ·rw [← h4];rfl
   ·rw [← h5];rfl
   ·rw [← h6];rfl
section
variable {w:World} {p:Option Addr} {n:Nat} {l:List Sq}
theorem Rd.nQ (h:Rd w 4 p n (encQ l)):n=l.length:=by have:=h.len;rw [encQ_len] at this;omega
theorem Rd.cQ (h:Rd w 4 p n (encQ l)) {k:Nat} (hk:k<n):w.cell? (adr p (k*4))=some (.int .i64 (nth l k).s)∧w.cell? (adr p (k*4+1))=some (.int .i64 (nth l k).r)∧w.cell? (adr p (k*4+2))=some (.int .i64 (nth l k).v)∧w.cell? (adr p (k*4+3))=some (.int .i64 (nth l k).d):=by
 have hl:=h.nQ
 obtain⟨g1,g2,g3,g4⟩:=encQ_get l k (by omega)
 refine⟨?_,?_,?_,?_⟩
 ·rw [h.cells (k*4) (by omega),g1]
 ·rw [h.cells (k*4+1) (by omega),g2]
 ·rw [h.cells (k*4+2) (by omega),g3]
 ·rw [h.cells (k*4+3) (by omega),g4]
end
end
section
open Go Go.RowKit
def keyLt (a b:Sq):Bool:=decide (a.s<b.s) || (a.s == b.s && (decide (a.r<b.r) || (a.r == b.r && decide (a.v<b.v))))
theorem keyLt_iff {a b:Sq}:keyLt a b=true↔a.s<b.s∨a.s=b.s∧(a.r<b.r∨a.r=b.r∧a.v<b.v):=by
 unfold keyLt
 simp only [Bool.or_eq_true,Bool.and_eq_true,decide_eq_true_eq,beq_iff_eq]
def sameK (a b:Sq):Prop:=a.s=b.s∧a.r=b.r∧a.v=b.v
instance (a b:Sq):Decidable (sameK a b):=by unfold sameK;infer_instance
theorem sameK_rfl (a:Sq):sameK a a:=⟨rfl,rfl,rfl⟩
theorem sameK.symm {a b:Sq} (h:sameK a b):sameK b a:=⟨h.1.symm,h.2.1.symm,h.2.2.symm⟩
theorem sameK.trans {a b c:Sq} (h:sameK a b) (g:sameK b c):sameK a c:=⟨h.1.trans g.1,h.2.1.trans g.2.1,h.2.2.trans g.2.2⟩
theorem sameK.eq {a b:Sq} (h:sameK a b) (hd:a.d=b.d):a=b:=by
 obtain⟨a1,a2,a3,a4⟩:=a
 obtain⟨b1,b2,b3,b4⟩:=b
 obtain⟨h1,h2,h3⟩:=h
 simp only at h1 h2 h3 hd
 subst h1;subst h2;subst h3;subst hd;rfl
theorem keyLt_irr (a:Sq):keyLt a a=false:=by rw [Bool.eq_false_iff];intro h;rw [keyLt_iff] at h;omega
theorem keyLt_no {a b:Sq} (h:sameK a b):keyLt a b=false:=by rw [Bool.eq_false_iff];intro h2;rw [keyLt_iff] at h2;obtain⟨h3,h4,h5⟩:=h;omega
theorem keyLt_trans {a b c:Sq} (h:keyLt a b=true) (g:keyLt b c=true):keyLt a c=true:=by rw [keyLt_iff] at *;omega
theorem keyLt_asymm {a b:Sq} (h:keyLt a b=true):keyLt b a=false:=by rw [Bool.eq_false_iff];intro h2;rw [keyLt_iff] at *;omega
theorem keyLt_tri (a b:Sq):keyLt a b=true∨sameK a b∨keyLt b a=true:=by rw [keyLt_iff,keyLt_iff];unfold sameK;omega
theorem keyLt_same {a b c:Sq} (h:sameK a b):keyLt c a=keyLt c b:=by obtain⟨h1,h2,h3⟩:=h;unfold keyLt;rw [h1,h2,h3]
theorem keyLt_same' {a b c:Sq} (h:sameK a b):keyLt a c=keyLt b c:=by obtain⟨h1,h2,h3⟩:=h;unfold keyLt;rw [h1,h2,h3]
def KeysUp (l:List Sq):Prop:=l.Pairwise fun a b=>keyLt a b=true
theorem keyed_nil:KeysUp []:=List.Pairwise.nil
theorem keyed_cons {a:Sq} {l:List Sq}:KeysUp (a :: l)↔(∀ x∈l,keyLt a x=true)∧KeysUp l:=List.pairwise_cons
theorem keyed_uniq {l m:List Sq} (hl:KeysUp l) (hm:KeysUp m) (h:∀ x,x∈l↔x∈m):l=m:=by
 induction l generalizing m with
 | nil =>
  cases m with
  | nil=>rfl
  | cons b m=>exact absurd ((h b).2 (List.mem_cons_self ..)) (by simp)
 | cons a l ih =>
  cases m with
  | nil=>exact absurd ((h a).1 (List.mem_cons_self ..)) (by simp)
  | cons b m =>
   obtain⟨ha,hl2⟩:=keyed_cons.1 hl
   obtain⟨hb,hm2⟩:=keyed_cons.1 hm
   have hab:a=b:=by
    rcases List.mem_cons.1 ((h a).1 (List.mem_cons_self ..)) with e | e
    ·exact e
    ·rcases List.mem_cons.1 ((h b).2 (List.mem_cons_self ..)) with g | g
     ·exact g.symm
     ·have h1:=hb a e
      rw [keyLt_asymm (ha b g)] at h1;cases h1
   subst hab
   refine congrArg (a :: ·) (ih hl2 hm2 fun x=>?_)
   constructor
   ·intro hx
    rcases List.mem_cons.1 ((h x).1 (List.mem_cons_of_mem _ hx)) with e | e
    ·subst e
     have:=ha x hx
     rw [keyLt_irr] at this;cases this
    ·exact e
   ·intro hx
    rcases List.mem_cons.1 ((h x).2 (List.mem_cons_of_mem _ hx)) with e | e
    ·subst e
     have:=hb x hx
     rw [keyLt_irr] at this;cases this
    ·exact e
theorem keyed_one {l:List Sq} (hl:KeysUp l) {x y:Sq} (hx:x∈l) (hy:y∈l) (h:sameK x y):x=y:=by
 induction l with
 | nil=>cases hx
 | cons a l ih =>
  obtain⟨ha,hl⟩:=keyed_cons.1 hl
  rcases List.mem_cons.1 hx with e1 | g1
  ·rcases List.mem_cons.1 hy with e2 | g2
   ·rw [e1,e2]
   ·have:=ha y g2;rw [← e1,keyLt_no h] at this;cases this
  ·rcases List.mem_cons.1 hy with e2 | g2
   ·have:=ha x g1;rw [← e2,keyLt_no h.symm] at this;cases this
   ·exact ih hl g1 g2
def LeastM (M:List Sq) (x:Sq):Prop:=x∈M∧∀ y∈M,sameK y x→x.d≤y.d
theorem leastM_ex {M:List Sq} {u:Sq} (h:u∈M):∃ y,LeastM M y∧sameK y u:=by
 induction M with
 | nil=>cases h
 | cons a M ih =>
  by_cases hm:∃ v∈M,sameK v u
  ·obtain⟨v,hv,hvu⟩:=hm
   have ih2:∃ y,LeastM M y∧sameK y u:=by
    clear h
    suffices ∀ M:List Sq,(∃ v∈M,sameK v u)→∃ y,LeastM M y∧sameK y u from this M ⟨v,hv,hvu⟩
    clear ih hv hvu v
    intro M
    induction M with
    | nil=>rintro⟨v,hv,_⟩;cases hv
    | cons b M ih =>
     intro hex
     by_cases hm:∃ v∈M,sameK v u
     ·obtain⟨y,⟨hy1,hy2⟩,hy3⟩:=ih hm
      by_cases hb:sameK b u∧b.d<y.d
      ·refine⟨b,⟨List.mem_cons_self ..,fun z hz hzb=>?_⟩,hb.1⟩
       rcases List.mem_cons.1 hz with rfl | hz
       ·exact Int.le_refl _
       ·have:=hy2 z hz (hzb.trans (hb.1.trans hy3.symm));omega
      ·refine⟨y,⟨List.mem_cons_of_mem _ hy1,fun z hz hzy=>?_⟩,hy3⟩
       rcases List.mem_cons.1 hz with rfl | hz
       ·exact Int.not_lt.1 fun h2=>hb ⟨hzy.trans hy3,h2⟩
       ·exact hy2 z hz hzy
     ·obtain⟨v,hv,hvu⟩:=hex
      rcases List.mem_cons.1 hv with rfl | hv
      ·refine⟨v,⟨List.mem_cons_self ..,fun z hz hzb=>?_⟩,hvu⟩
       rcases List.mem_cons.1 hz with rfl | hz
       ·exact Int.le_refl _
       ·exact absurd ⟨z,hz,hzb.trans hvu⟩ hm
      ·exact absurd ⟨v,hv,hvu⟩ hm
   obtain⟨y,⟨hy1,hy2⟩,hy3⟩:=ih2
   by_cases hb:sameK a u∧a.d<y.d
   ·refine⟨a,⟨List.mem_cons_self ..,fun z hz hzb=>?_⟩,hb.1⟩
    rcases List.mem_cons.1 hz with rfl | hz
    ·exact Int.le_refl _
    ·have:=hy2 z hz (hzb.trans (hb.1.trans hy3.symm));omega
   ·refine⟨y,⟨List.mem_cons_of_mem _ hy1,fun z hz hzy=>?_⟩,hy3⟩
    rcases List.mem_cons.1 hz with rfl | hz
    ·exact Int.not_lt.1 fun h2=>hb ⟨hzy.trans hy3,h2⟩
    ·exact hy2 z hz hzy
  ·rcases List.mem_cons.1 h with rfl | h
   ·refine⟨u,⟨List.mem_cons_self ..,fun z hz hzb=>?_⟩,sameK_rfl u⟩
    rcases List.mem_cons.1 hz with rfl | hz
    ·exact Int.le_refl _
    ·exact absurd ⟨z,hz,hzb⟩ hm
   ·exact absurd ⟨u,h,sameK_rfl u⟩ hm
structure CombQ (M c:List Sq):Prop where
 keyed:KeysUp c
 mem:∀ x,x∈c↔LeastM M x
theorem comb_uniq {M M' c c':List Sq} (h:CombQ M c) (h':CombQ M' c') (hm:∀ x,x∈M↔x∈M'):c=c':=by
 refine keyed_uniq h.keyed h'.keyed fun x=>?_
 rw [h.mem,h'.mem]
 unfold LeastM
 rw [hm x]
 constructor
 ·rintro⟨h1,h2⟩;exact⟨h1,fun y hy=>h2 y ((hm y).2 hy)⟩
 ·rintro⟨h1,h2⟩;exact⟨h1,fun y hy=>h2 y ((hm y).1 hy)⟩
def putC (x:Sq):List Sq→List Sq
 | []=>[x]
 | y :: l=>if keyLt y x=true then y :: putC x l else if sameK y x then ⟨x.s,x.r,x.v,min x.d y.d⟩:: l else x :: y :: l
theorem mem_putC {x z:Sq} {c:List Sq} (hc:KeysUp c):z∈putC x c↔(z∈c∧¬ sameK z x)∨(sameK z x∧((∃ y∈c,sameK y x∧z.d=min x.d y.d)∨((∀ y∈c,¬ sameK y x)∧z.d=x.d))):=by
 induction c with
 | nil =>
  unfold putC
  constructor
  ·intro h
   rw [List.mem_singleton] at h
   subst h
   exact .inr ⟨sameK_rfl _,.inr ⟨fun y hy=>(by cases hy),rfl⟩⟩
  ·rintro(⟨h,_⟩ | ⟨h,h2 | h2⟩)
   ·cases h
   ·obtain⟨y,hy,_⟩:=h2;cases hy
   ·rw [List.mem_singleton];exact h.eq h2.2
 | cons a l ih =>
  obtain⟨ha,hl⟩:=keyed_cons.1 hc
  have ih:=ih hl
  unfold putC
  by_cases h1:keyLt a x=true
  ·rw [if_pos h1,List.mem_cons,ih]
   have hax:¬ sameK a x:=fun h=>by rw [keyLt_no h] at h1;cases h1
   constructor
   ·rintro(rfl | ⟨h2,h3⟩ | ⟨h2,⟨y,hy,hyx,hd⟩ | ⟨h3,hd⟩⟩)
    ·exact .inl ⟨List.mem_cons_self ..,hax⟩
    ·exact .inl ⟨List.mem_cons_of_mem _ h2,h3⟩
    ·exact .inr ⟨h2,.inl ⟨y,List.mem_cons_of_mem _ hy,hyx,hd⟩⟩
    ·refine .inr ⟨h2,.inr ⟨fun y hy=>?_,hd⟩⟩
     rcases List.mem_cons.1 hy with rfl | hy
     ·exact hax
     ·exact h3 y hy
   ·rintro(⟨h2,h3⟩ | ⟨h2,⟨y,hy,hyx,hd⟩ | ⟨h3,hd⟩⟩)
    ·rcases List.mem_cons.1 h2 with rfl | h2
     ·exact .inl rfl
     ·exact .inr (.inl ⟨h2,h3⟩)
    ·rcases List.mem_cons.1 hy with rfl | hy
     ·exact absurd hyx hax
     ·exact .inr (.inr ⟨h2,.inl ⟨y,hy,hyx,hd⟩⟩)
    ·exact .inr (.inr ⟨h2,.inr ⟨fun y hy=>h3 y (List.mem_cons_of_mem _ hy),hd⟩⟩)
  ·rw [if_neg h1]
   by_cases h2:sameK a x
   ·rw [if_pos h2,List.mem_cons]
    have hno:∀ y∈l,¬ sameK y x:=fun y hy h=>by
     have:=ha y hy
     rw [keyLt_no (h2.trans h.symm)] at this;cases this
    constructor
    ·rintro(rfl | hz)
     ·exact .inr ⟨⟨rfl,rfl,rfl⟩,.inl ⟨a,List.mem_cons_self ..,h2,rfl⟩⟩
     ·exact .inl ⟨List.mem_cons_of_mem _ hz,hno z hz⟩
    ·rintro(⟨h3,h4⟩ | ⟨h3,⟨y,hy,hyx,hd⟩ | ⟨h4,hd⟩⟩)
     ·rcases List.mem_cons.1 h3 with rfl | h3
      ·exact absurd h2 h4
      ·exact .inr h3
     ·rcases List.mem_cons.1 hy with rfl | hy
      ·exact .inl (sameK.eq h3 hd)
      ·exact absurd hyx (hno y hy)
     ·exact absurd h2 (h4 a (List.mem_cons_self ..))
   ·rw [if_neg h2,List.mem_cons]
    have hxa:keyLt x a=true:=by
     rcases keyLt_tri a x with h | h | h
     ·exact absurd h h1
     ·exact absurd h h2
     ·exact h
    have hno:∀ y∈a :: l,¬ sameK y x:=fun y hy h=>by
     rcases List.mem_cons.1 hy with rfl | hy
     ·exact h2 h
     ·have:=keyLt_trans hxa (ha y hy)
      rw [keyLt_no h.symm] at this;cases this
    constructor
    ·rintro(rfl | hz)
     ·exact .inr ⟨sameK_rfl _,.inr ⟨hno,rfl⟩⟩
     ·exact .inl ⟨hz,hno z hz⟩
    ·rintro(⟨h3,h4⟩ | ⟨h3,⟨y,hy,hyx,hd⟩ | ⟨h4,hd⟩⟩)
     ·exact .inr h3
     ·exact absurd hyx (hno y hy)
     ·exact .inl (h3.eq hd)
theorem keyed_putC {x:Sq} {c:List Sq} (hc:KeysUp c):KeysUp (putC x c):=by
 induction c with
 | nil=>exact keyed_cons.2 ⟨fun y hy=>(by cases hy),keyed_nil⟩
 | cons a l ih =>
  obtain⟨ha,hl⟩:=keyed_cons.1 hc
  unfold putC
  by_cases h1:keyLt a x=true
  ·rw [if_pos h1]
   refine keyed_cons.2 ⟨fun z hz=>?_,ih hl⟩
   rcases (mem_putC hl).1 hz with ⟨h2,_⟩ | ⟨h2,_⟩
   ·exact ha z h2
   ·rw [keyLt_same h2];exact h1
  ·rw [if_neg h1]
   by_cases h2:sameK a x
   ·rw [if_pos h2]
    refine keyed_cons.2 ⟨fun z hz=>?_,hl⟩
    have hs:sameK ⟨x.s,x.r,x.v,min x.d a.d⟩ a:=⟨h2.1.symm,h2.2.1.symm,h2.2.2.symm⟩
    rw [keyLt_same' hs];exact ha z hz
   ·rw [if_neg h2]
    have hxa:keyLt x a=true:=by
     rcases keyLt_tri a x with h | h | h
     ·exact absurd h h1
     ·exact absurd h h2
     ·exact h
    refine keyed_cons.2 ⟨fun z hz=>?_,hc⟩
    rcases List.mem_cons.1 hz with rfl | hz
    ·exact hxa
    ·exact keyLt_trans hxa (ha z hz)
theorem comb_put {M c:List Sq} (h:CombQ M c) (x:Sq):CombQ (M ++ [x]) (putC x c):=by
 refine⟨keyed_putC h.keyed,fun z=>?_⟩
 rw [mem_putC h.keyed]
 have hmem:∀ u,u∈M ++ [x]↔u∈M∨u=x:=fun u=>by rw [List.mem_append,List.mem_singleton]
 constructor
 ·rintro(⟨h1,h2⟩ | ⟨h1,⟨y,hy,hyx,hd⟩ | ⟨h2,hd⟩⟩)
  ·have h3:=(h.mem z).1 h1
   refine⟨(hmem z).2 (.inl h3.1),fun u hu huz=>?_⟩
   rcases (hmem u).1 hu with hu | rfl
   ·exact h3.2 u hu huz
   ·exact absurd huz.symm h2
  ·have h3:=(h.mem y).1 hy
   refine⟨?_,fun u hu huz=>?_⟩
   ·rcases Int.le_total x.d y.d with g | g
    ·have:z=x:=h1.eq (by omega)
     exact(hmem z).2 (.inr this)
    ·have:z=y:=(h1.trans hyx.symm).eq (by omega)
     rw [this];exact(hmem y).2 (.inl h3.1)
   ·rcases (hmem u).1 hu with hu | rfl
    ·have:=h3.2 u hu (huz.trans (h1.trans hyx.symm));omega
    ·omega
  ·have hz:z=x:=h1.eq hd
   subst hz
   refine⟨(hmem z).2 (.inr rfl),fun u hu huz=>?_⟩
   rcases (hmem u).1 hu with hu | rfl
   ·obtain⟨y,hy,hyu⟩:=leastM_ex hu
    exact absurd (hyu.trans huz) (h2 y ((h.mem y).2 hy))
   ·exact Int.le_refl _
 ·rintro⟨h1,h2⟩
  by_cases hs:sameK z x
  ·refine .inr ⟨hs,?_⟩
   have hzx:z.d≤x.d:=h2 x ((hmem x).2 (.inr rfl)) hs.symm
   by_cases hy:∃ y∈c,sameK y x
   ·obtain⟨y,hy,hyx⟩:=hy
    refine .inl ⟨y,hy,hyx,?_⟩
    have h3:=(h.mem y).1 hy
    have h4:=h2 y ((hmem y).2 (.inl h3.1)) (hyx.trans hs.symm)
    rcases (hmem z).1 h1 with hz | rfl
    ·have:=h3.2 z hz (hs.trans hyx.symm);omega
    ·omega
   ·refine .inr ⟨fun y h3 h4=>hy ⟨y,h3,h4⟩,?_⟩
    rcases (hmem z).1 h1 with hz | rfl
    ·obtain⟨y,h3,h4⟩:=leastM_ex hz
     exact absurd ⟨y,(h.mem y).2 h3,h4.trans hs⟩ hy
    ·rfl
  ·refine .inl ⟨(h.mem z).2 ⟨?_,fun u hu=>h2 u ((hmem u).2 (.inl hu))⟩,hs⟩
   rcases (hmem z).1 h1 with hz | rfl
   ·exact hz
   ·exact absurd (sameK_rfl z) hs
def combM (M:List Sq):List Sq:=M.foldl (fun c x=>putC x c) []
theorem combM_snoc (M:List Sq) (x:Sq):combM (M ++ [x])=putC x (combM M):=by unfold combM;rw [List.foldl_append];rfl
theorem combM_ok (M:List Sq):CombQ M (combM M):=by
 suffices ∀ (N M c:List Sq),CombQ M c→CombQ (M ++ N) (N.foldl (fun c x=>putC x c) c) from by
  have:=this M [] [] ⟨keyed_nil,fun x=>⟨fun h=>(by cases h),fun h=>(by cases h.1)⟩⟩
  rwa [List.nil_append] at this
 intro N
 induction N with
 | nil=>intro M c h;rw [List.append_nil];exact h
 | cons x N ih =>
  intro M c h
  have:=ih (M ++ [x]) (putC x c) (comb_put h x)
  rw [List.append_assoc] at this
  exact this
theorem combM_mem {M:List Sq} {x:Sq}:x∈combM M↔LeastM M x:=(combM_ok M).mem x
theorem combM_set {M M':List Sq} (h:∀ x,x∈M↔x∈M'):combM M=combM M':=comb_uniq (combM_ok M) (combM_ok M') h
def hasK (l:List Sq) (x:Sq):Bool:=l.any fun y=>decide (sameK y x)
theorem hasK_iff {l:List Sq} {x:Sq}:hasK l x=true↔∃ y∈l,sameK y x:=by
 unfold hasK;rw [List.any_eq_true]
 constructor
 ·rintro⟨y,h1,h2⟩;exact⟨y,h1,of_decide_eq_true h2⟩
 ·rintro⟨y,h1,h2⟩;exact⟨y,h1,decide_eq_true h2⟩
def freshM (st M:List Sq):List Sq:=(combM M).filter fun x=>!hasK st x
theorem freshM_keyed (st M:List Sq):KeysUp (freshM st M):=(combM_ok M).keyed.filter _
theorem freshM_mem {st M:List Sq} {x:Sq}:x∈freshM st M↔LeastM M x∧¬ ∃ y∈st,sameK y x:=by
 unfold freshM
 rw [List.mem_filter,combM_mem,Bool.not_eq_true',← Bool.not_eq_true,hasK_iff]
theorem freshM_set {st st' M M':List Sq} (hs:∀ x,x∈st↔x∈st') (h:∀ x,x∈M↔x∈M'):freshM st M=freshM st' M':=by
 refine keyed_uniq (freshM_keyed _ _) (freshM_keyed _ _) fun x=>?_
 rw [freshM_mem,freshM_mem,← combM_mem,← combM_mem,combM_set h]
 constructor
 ·rintro⟨h1,h2⟩;exact⟨h1,fun ⟨y,hy,e⟩=>h2 ⟨y,(hs y).2 hy,e⟩⟩
 ·rintro⟨h1,h2⟩;exact⟨h1,fun ⟨y,hy,e⟩=>h2 ⟨y,(hs y).1 hy,e⟩⟩
def putK (x:Sq):List Sq→List Sq
 | []=>[x]
 | y :: l=>if keyLt y x=true then y :: putK x l else x :: y :: l
theorem mem_putK {x z:Sq} {l:List Sq}:z∈putK x l↔z=x∨z∈l:=by
 induction l with
 | nil=>unfold putK;simp
 | cons a l ih =>
  unfold putK
  split
  ·rw [List.mem_cons,ih,List.mem_cons]
   constructor
   ·rintro(h | h | h)
    ·exact .inr (.inl h)
    ·exact .inl h
    ·exact .inr (.inr h)
   ·rintro(h | h | h)
    ·exact .inr (.inl h)
    ·exact .inl h
    ·exact .inr (.inr h)
  ·rw [List.mem_cons]
theorem keyed_putK {x:Sq} {l:List Sq} (hl:KeysUp l) (hx:¬ ∃ y∈l,sameK y x):KeysUp (putK x l):=by
 induction l with
 | nil=>exact keyed_cons.2 ⟨fun y hy=>(by cases hy),keyed_nil⟩
 | cons a l ih =>
  obtain⟨ha,hl2⟩:=keyed_cons.1 hl
  unfold putK
  split
  ·rename_i h1
   refine keyed_cons.2 ⟨fun z hz=>?_,ih hl2 fun ⟨y,hy,e⟩=>hx ⟨y,List.mem_cons_of_mem _ hy,e⟩⟩
   rcases mem_putK.1 hz with rfl | hz
   ·exact h1
   ·exact ha z hz
  ·rename_i h1
   have hxa:keyLt x a=true:=by
    rcases keyLt_tri a x with h | h | h
    ·exact absurd h h1
    ·exact absurd ⟨a,List.mem_cons_self ..,h⟩ hx
    ·exact h
   refine keyed_cons.2 ⟨fun z hz=>?_,hl⟩
   rcases List.mem_cons.1 hz with rfl | hz
   ·exact hxa
   ·exact keyLt_trans hxa (ha z hz)
def putKs (st F:List Sq):List Sq:=F.foldl (fun l x=>putK x l) st
theorem mem_putKs {F:List Sq}:∀ {st:List Sq} {z:Sq},z∈putKs st F↔z∈st∨z∈F:=by
 induction F with
 | nil=>intro st z;show z∈st↔_;simp
 | cons x F ih =>
  intro st z
  show z∈putKs (putK x st) F↔_
  rw [ih,mem_putK,List.mem_cons]
  constructor
  ·rintro((h | h) | h)
   ·exact .inr (.inl h)
   ·exact .inl h
   ·exact .inr (.inr h)
  ·rintro(h | h | h)
   ·exact .inl (.inr h)
   ·exact .inl (.inl h)
   ·exact .inr h
theorem keyed_putKs {F:List Sq}:∀ {st:List Sq},KeysUp st→KeysUp F→(∀ x∈F,¬ ∃ y∈st,sameK y x)→KeysUp (putKs st F):=by
 induction F with
 | nil=>intro st h _ _;exact h
 | cons x F ih =>
  intro st h hF hx
  obtain⟨h1,h2⟩:=keyed_cons.1 hF
  refine ih (keyed_putK h (hx x (List.mem_cons_self ..))) h2 fun z hz=>?_
  rintro⟨y,hy,e⟩
  rcases mem_putK.1 hy with rfl | hy
  ·have:=h1 z hz;rw [keyLt_no e] at this;cases this
  ·exact hx z (List.mem_cons_of_mem _ hz) ⟨y,hy,e⟩
def stepM (f:Sq→List Sq) (st M:List Sq):List Sq × List Sq:=(putKs st (freshM st M),freshM (putKs st (freshM st M)) ((freshM st M).flatMap f))
theorem stepM_keyed {f:Sq→List Sq} {st M:List Sq} (h:KeysUp st):KeysUp (stepM f st M).1:=keyed_putKs h (freshM_keyed _ _) fun _ hx=>(freshM_mem.1 hx).2
theorem stepM_perm {f:Sq→List Sq} {st M P now:List Sq} (h:KeysUp st) (hP:∀ x,x∈P↔x∈freshM st M) (hn:KeysUp now) (hm:∀ x,x∈now↔x∈st∨x∈P):now=(stepM f st M).1∧freshM now (P.flatMap f)=(stepM f st M).2:=by
 have h1:now=(stepM f st M).1:=keyed_uniq hn (stepM_keyed h) fun x=>by
  rw [hm,hP];exact mem_putKs.symm
 refine⟨h1,?_⟩
 rw [h1]
 exact freshM_set (fun _=>Iff.rfl) fun x=>by rw [List.mem_flatMap,List.mem_flatMap];exact⟨fun ⟨y,hy,e⟩=>⟨y,(hP y).1 hy,e⟩,fun ⟨y,hy,e⟩=>⟨y,(hP y).2 hy,e⟩⟩
end
section
open Go Go.RowKit
def runM (f:Sq→List Sq) (M0:List Sq):Nat→List Sq × List Sq
 | 0=>([],M0)
 | i+1=>stepM f (runM f M0 i).1 (runM f M0 i).2
def KeyN (n:Nat) (x:Sq):Prop:=x.s=0∧(x.r=0∨x.r=1)∧0≤x.v∧x.v<n
def Leads (n:Nat) (f:Sq→List Sq):Prop:=∀ x y,KeyN n x→y∈f x→y=⟨x.s,x.r,y.v,x.d+1⟩∧0≤y.v∧y.v<n
structure RunI (n:Nat) (i:Nat) (p:List Sq × List Sq):Prop where
 kst:KeysUp p.1
 kms:KeysUp p.2
 st:∀ x∈p.1,KeyN n x∧0≤x.d∧x.d<i
 ms:∀ x∈p.2,KeyN n x∧x.d=i
 new:∀ x∈p.2,¬ ∃ y∈p.1,sameK y x
theorem leastM_keyed {M:List Sq} (h:KeysUp M) {x:Sq}:LeastM M x↔x∈M:=by
 constructor
 ·exact fun h=>h.1
 ·exact fun hx=>⟨hx,fun y hy e=>by rw [keyed_one h hy hx e];exact Int.le_refl _⟩
theorem runI_fresh {n i:Nat} {p:List Sq × List Sq} (h:RunI n i p):freshM p.1 p.2=p.2 :=
 keyed_uniq (freshM_keyed _ _) h.kms fun x=>by
  rw [freshM_mem,leastM_keyed h.kms]
  exact⟨fun h2=>h2.1,fun h2=>⟨h2,h.new x h2⟩⟩
theorem runI_st {n i:Nat} {p:List Sq × List Sq} (h:RunI n i p) (f:Sq→List Sq) {x:Sq}:x∈(stepM f p.1 p.2).1↔x∈p.1∨x∈p.2:=by
 unfold stepM
 rw [runI_fresh h]
 exact mem_putKs
theorem runI_ms {n i:Nat} {p:List Sq × List Sq} (h:RunI n i p) (f:Sq→List Sq) {x:Sq}:x∈(stepM f p.1 p.2).2↔LeastM (p.2.flatMap f) x∧¬ ∃ y,(y∈p.1∨y∈p.2)∧sameK y x:=by
 show x∈freshM (putKs p.1 (freshM p.1 p.2)) ((freshM p.1 p.2).flatMap f)↔_
 rw [runI_fresh h,freshM_mem]
 constructor
 ·rintro⟨h1,h2⟩;exact⟨h1,fun ⟨y,hy,e⟩=>h2 ⟨y,mem_putKs.2 hy,e⟩⟩
 ·rintro⟨h1,h2⟩;exact⟨h1,fun ⟨y,hy,e⟩=>h2 ⟨y,mem_putKs.1 hy,e⟩⟩
theorem runI_step {n i:Nat} {p:List Sq × List Sq} {f:Sq→List Sq} (hf:Leads n f) (h:RunI n i p):RunI n (i+1) (stepM f p.1 p.2):=by
 have hsent:∀ x∈p.2.flatMap f,KeyN n x∧x.d=(i+1:Nat):=fun x hx=>by
  obtain⟨y,hy,hyx⟩:=List.mem_flatMap.1 hx
  obtain⟨h1,h2⟩:=h.ms y hy
  obtain⟨h3,h4,h5⟩:=hf y x h1 hyx
  rw [h3]
  refine⟨⟨h1.1,h1.2.1,?_,?_⟩,?_⟩
  ·exact h4
  ·exact h5
  ·simp only;omega
 refine⟨stepM_keyed h.kst,freshM_keyed _ _,fun x hx=>?_,fun x hx=>?_,fun x hx=>?_⟩
 ·rcases (runI_st h f).1 hx with h1 | h1
  ·obtain⟨h2,h3,h4⟩:=h.st x h1
   exact⟨h2,h3,by omega⟩
  ·obtain⟨h2,h3⟩:=h.ms x h1
   exact⟨h2,by omega,by omega⟩
 ·exact hsent x ((runI_ms h f).1 hx).1.1
 ·rintro⟨y,hy,e⟩
  exact((runI_ms h f).1 hx).2 ⟨y,(runI_st h f).1 hy,e⟩
theorem runI_all {n:Nat} {f:Sq→List Sq} {M0:List Sq} (hf:Leads n f) (h0:KeysUp M0) (h1:∀ x∈M0,KeyN n x∧x.d=0):∀ i,RunI n i (runM f M0 i)
 | 0=>⟨keyed_nil,h0,fun x hx=>(by cases hx),fun x hx=>⟨(h1 x hx).1,by rw [(h1 x hx).2];rfl⟩,fun x hx=>by rintro⟨y,hy,_⟩;cases hy⟩
 | i+1=>runI_step hf (runI_all hf h0 h1 i)
theorem keyed_most {n:Nat} {ρ:Int}:∀ {l:List Sq} {m:Int},KeysUp l→(∀ x∈l,x.s=0∧x.r=ρ∧m≤x.v∧x.v<n)→m≤n→(l.length:Int)≤n - m:=by
 intro l
 induction l with
 | nil=>intro m _ _ hm;simp;omega
 | cons a l ih =>
  intro m h hx hm
  obtain⟨h1,h2⟩:=keyed_cons.1 h
  obtain⟨a1,a2,a3,a4⟩:=hx a (List.mem_cons_self ..)
  have:=ih (m:=a.v+1) h2 (fun x hxl=>by
   obtain⟨x1,x2,x3,x4⟩:=hx x (List.mem_cons_of_mem _ hxl)
   have h3:=h1 x hxl
   rw [keyLt_iff] at h3
   exact⟨x1,x2,by omega,x4⟩) (by omega)
  rw [List.length_cons]
  omega
def dirL (ρ:Int) (l:List Sq):List Sq:=l.filter fun x=>x.r == ρ
theorem dirL_mem {ρ:Int} {l:List Sq} {x:Sq}:x∈dirL ρ l↔x∈l∧x.r=ρ:=by unfold dirL;rw [List.mem_filter];simp
theorem dirL_keyed {ρ:Int} {l:List Sq} (h:KeysUp l):KeysUp (dirL ρ l):=List.Pairwise.filter _ h
theorem putK_len (x:Sq) (l:List Sq):(putK x l).length=l.length+1:=by
 induction l with
 | nil=>rfl
 | cons a l ih=>unfold putK;split <;> simp [ih]
theorem keyed_len:∀ {l m:List Sq},KeysUp l→KeysUp m→(∀ x∈l,x∈m)→l.length≤m.length:=by
 intro l
 induction l with
 | nil=>intro m _ _ _;exact Nat.zero_le _
 | cons a l ih =>
  intro m hl hm h
  obtain⟨h1,h2⟩:=keyed_cons.1 hl
  have ha:a∈m:=h a (List.mem_cons_self ..)
  have hlen:(m.erase a).length+1=m.length:=by
   have:=List.length_erase_of_mem ha
   have:0<m.length:=List.length_pos_of_mem ha
   omega
  have:=ih (m:=m.erase a) h2 (List.Pairwise.sublist List.erase_sublist hm) fun x hx=>by
   refine(List.mem_erase_of_ne fun e=>?_).2 (h x (List.mem_cons_of_mem _ hx))
   subst e
   have:=h1 x hx
   rw [keyLt_irr] at this;cases this
  rw [List.length_cons]
  omega
theorem run_dir {n:Nat} {f:Sq→List Sq} {M0:List Sq} (hf:Leads n f) (h0:KeysUp M0) (h1:∀ x∈M0,KeyN n x∧x.d=0) (ρ:Int):∀ i,(∃ x∈(runM f M0 i).2,x.r=ρ)→i≤(dirL ρ (runM f M0 i).1).length
 | 0,_=>Nat.zero_le _
 | i+1,⟨x,hx,hr⟩=>by
  have hI:=runI_all hf h0 h1 i
  obtain⟨hx1,_⟩:=(runI_ms hI f).1 hx
  obtain⟨y,hy,hyx⟩:=List.mem_flatMap.1 hx1.1
  obtain⟨hy1,hy2⟩:=hI.ms y hy
  obtain⟨hxy,_⟩:=hf y x hy1 hyx
  have hyr:y.r=ρ:=by rw [← hr,hxy]
  have ih:=run_dir hf h0 h1 ρ i ⟨y,hy,hyr⟩
  have hI2:=runI_all hf h0 h1 (i+1)
  have hno:¬ ∃ z∈dirL ρ (runM f M0 i).1,sameK z y:=by
   rintro⟨z,hz,e⟩
   exact hI.new y hy ⟨z,(dirL_mem.1 hz).1,e⟩
  have hle:=keyed_len (l:=putK y (dirL ρ (runM f M0 i).1)) (m:=dirL ρ (runM f M0 (i+1)).1) (keyed_putK (dirL_keyed hI.kst) hno) (dirL_keyed hI2.kst) fun z hz=>by
   refine dirL_mem.2 ⟨(runI_st hI f).2 ?_,?_⟩
   ·rcases mem_putK.1 hz with rfl | hz
    ·exact .inr hy
    ·exact .inl (dirL_mem.1 hz).1
   ·rcases mem_putK.1 hz with rfl | hz
    ·exact hyr
    ·exact(dirL_mem.1 hz).2
  rw [putK_len] at hle
  omega
theorem run_ends {n:Nat} {f:Sq→List Sq} {M0:List Sq} (hf:Leads n f) (h0:KeysUp M0) (h1:∀ x∈M0,KeyN n x∧x.d=0) (ρ:Int) (i:Nat) (h:∃ x∈(runM f M0 i).2,x.r=ρ):i+1≤n:=by
 have hi:=run_dir hf h0 h1 ρ i h
 obtain⟨x,hx,hr⟩:=h
 have hI:=runI_all hf h0 h1 i
 have hno:¬ ∃ z∈dirL ρ (runM f M0 i).1,sameK z x:=by
  rintro⟨z,hz,e⟩
  exact hI.new x hx ⟨z,(dirL_mem.1 hz).1,e⟩
 have hk:=keyed_putK (dirL_keyed hI.kst) hno
 have hm:=keyed_most (n:=n) (ρ:=ρ) (m:=0) hk (fun z hz=>by
  rcases mem_putK.1 hz with rfl | hz
  ·obtain⟨⟨a,b,c,d⟩,_⟩:=hI.ms z hx
   exact⟨a,hr,c,d⟩
  ·obtain⟨hz1,hz2⟩:=dirL_mem.1 hz
   obtain⟨⟨a,b,c,d⟩,_⟩:=hI.st z hz1
   exact⟨a,hz2,c,d⟩) (by omega)
 rw [putK_len] at hm
 omega
end
section
open Go Go.RowKit
def homeV (v:Int) (w:Nat):Nat:=((v*40503+12345) % 65536 % w).toNat
theorem homeV_lt {v:Int} {w:Nat} (hw:0<w):homeV v w<w:=by
 unfold homeV
 have:=Int.emod_lt_of_pos ((v*40503+12345) % 65536) (show (0:Int)<w by omega)
 have:=Int.emod_nonneg ((v*40503+12345) % 65536) (show (w:Int)≠0 by omega)
 omega
def cntH (st:List Sq) (w h:Nat):Nat:=(st.filter fun x=>homeV x.v w == h).length
def eachL (st:List Sq) (w:Nat):List Int:=(List.range w).map fun h=>(cntH st w h:Int)
theorem eachL_len (st:List Sq) (w:Nat):(eachL st w).length=w:=by simp [eachL]
theorem eachL_nth {st:List Sq} {w h:Nat} (hh:h<w):nth (eachL st w) h=cntH st w h:=by
 unfold eachL
 rw [nth_eq (by rw [List.length_map,List.length_range];exact hh),List.getElem_map,List.getElem_range]
theorem cntH_snoc (st:List Sq) (x:Sq) (w h:Nat):cntH (st ++ [x]) w h=cntH st w h+if homeV x.v w=h then 1 else 0:=by
 unfold cntH
 rw [List.filter_append,List.length_append]
 congr 1
 rw [List.filter_cons]
 by_cases e:homeV x.v w=h
 ·rw [if_pos e,if_pos (by simpa using e)];rfl
 ·rw [if_neg e,if_neg (by simpa using e)];rfl
theorem eachL_nil (w:Nat):eachL [] w=List.replicate w 0:=by
 unfold eachL cntH
 refine List.ext_getElem (by simp) fun i h1 h2=>by simp
theorem eachL_snoc {st:List Sq} {x:Sq} {w:Nat}:eachL (st ++ [x]) w=(eachL st w).set (homeV x.v w) (cntH st w (homeV x.v w)+1):=by
 refine List.ext_getElem (by simp [eachL]) fun i h1 h2=>?_
 rw [List.getElem_set]
 simp only [eachL,List.getElem_map,List.getElem_range]
 rw [cntH_snoc]
 by_cases e:homeV x.v w=i
 ·rw [if_pos e,if_pos e,e];omega
 ·rw [if_neg e,if_neg e];omega
theorem sum_map_add (f g:Nat→Int) (l:List Nat):(l.map fun h=>f h+g h).sum=(l.map f).sum+(l.map g).sum:=by
 induction l with
 | nil=>rfl
 | cons a l ih=>simp only [List.map_cons,List.sum_cons,ih];omega
theorem sum_one {a:Nat}:∀ w,((List.range w).map fun h=>if a=h then (1:Int) else 0).sum=if a<w then 1 else 0:=by
 intro w
 induction w with
 | zero=>rfl
 | succ w ih =>
  rw [List.range_succ,List.map_append,List.sum_append,ih]
  simp only [List.map_cons,List.map_nil,List.sum_cons,List.sum_nil]
  by_cases e:a=w
  ·subst e;rw [if_neg (by omega),if_pos rfl,if_pos (by omega)];omega
  ·by_cases g:a<w
   ·rw [if_pos g,if_neg e,if_pos (by omega)];omega
   ·rw [if_neg g,if_neg e,if_neg (by omega)];omega
theorem snoc_indQ {p:List Sq→Prop} (nil:p []) (snoc:∀ l x,p l→p (l ++ [x])) (l:List Sq):p l:=by
 suffices ∀ m:List Sq,p m.reverse from by have:=this l.reverse;rwa [List.reverse_reverse] at this
 intro m
 induction m with
 | nil=>exact nil
 | cons a m ih=>rw [List.reverse_cons];exact snoc _ _ ih
theorem eachL_sum {w:Nat} (hw:0<w) (st:List Sq):(eachL st w).sum=st.length:=by
 refine snoc_indQ (p:=fun st=>(eachL st w).sum=st.length) ?_ (fun l x ih=>?_) st
 ·rw [eachL_nil]
  have:∀ w:Nat,(List.replicate w (0:Int)).sum=0:=fun w=>by
   induction w with
   | zero=>rfl
   | succ w ih=>rw [List.replicate_succ,List.sum_cons,ih];rfl
  rw [this];rfl
 ·have h:eachL (l ++ [x]) w=(List.range w).map fun h=>(cntH l w h:Int)+(if homeV x.v w=h then 1 else 0):=by
   unfold eachL
   refine List.map_congr_left fun h _=>?_
   rw [cntH_snoc]
   split <;> omega
  rw [h,sum_map_add,sum_one,if_pos (homeV_lt hw)]
  show (eachL l w).sum+1=_
  rw [ih,List.length_append]
  simp
theorem cntH_mono {st st':List Sq} (h:KeysUp st) (h':KeysUp st') (hs:∀ x∈st,x∈st') (w k:Nat):cntH st w k≤cntH st' w k :=
 keyed_len (List.Pairwise.filter _ h) (List.Pairwise.filter _ h') fun x hx=>by
  obtain⟨h1,h2⟩:=List.mem_filter.1 hx
  exact List.mem_filter.2 ⟨hs x h1,h2⟩
theorem run_most {n:Nat} {st:List Sq} (h:KeysUp st) (hx:∀ x∈st,KeyN n x):st.length≤2*n:=by
 have k0:=keyed_most (n:=n) (ρ:=0) (m:=0) (dirL_keyed (ρ:=0) h) (fun x hxl=>by
  obtain⟨h1,h2⟩:=dirL_mem.1 hxl
  obtain⟨a,_,c,d⟩:=hx x h1
  exact⟨a,h2,c,d⟩) (by omega)
 have k1:=keyed_most (n:=n) (ρ:=1) (m:=0) (dirL_keyed (ρ:=1) h) (fun x hxl=>by
  obtain⟨h1,h2⟩:=dirL_mem.1 hxl
  obtain⟨a,_,c,d⟩:=hx x h1
  exact⟨a,h2,c,d⟩) (by omega)
 have:st.length=(dirL 0 st).length+(dirL 1 st).length:=by
  clear h k0 k1
  induction st with
  | nil=>rfl
  | cons a l ih =>
   have ih:=ih fun x hxl=>hx x (List.mem_cons_of_mem _ hxl)
   obtain⟨_,hr,_⟩:=hx a (List.mem_cons_self ..)
   unfold dirL at ih ⊢
   rw [List.filter_cons,List.filter_cons,List.length_cons]
   rcases hr with hr | hr
   ·rw [if_pos (by simpa using hr),if_neg (by simp [hr]),List.length_cons];omega
   ·rw [if_neg (by simp [hr]),if_pos (by simpa using hr),List.length_cons];omega
 omega
end
section
open Go Go.RowKit
def NoTwo (l:List Sq):Prop:=l.Pairwise fun a b=>¬ sameK a b
theorem keyed_noTwo {l:List Sq} (h:KeysUp l):NoTwo l:=List.Pairwise.imp (fun {a b} h2 h3=>by rw [keyLt_no h3] at h2;cases h2) h
theorem NoTwo.perm {l m:List Sq} (h:NoTwo l) (p:l.Perm m):NoTwo m:=p.pairwise h fun h2 h3=>h2 h3.symm
theorem noTwo_nil:NoTwo []:=List.Pairwise.nil
theorem noTwo_append {l m:List Sq}:NoTwo (l ++ m)↔NoTwo l∧NoTwo m∧∀ x∈l,∀ y∈m,¬ sameK x y:=List.pairwise_append
def sortK (l:List Sq):List Sq:=l.mergeSort fun a b=>!keyLt b a
theorem sortK_perm (l:List Sq):(sortK l).Perm l:=List.mergeSort_perm l _
theorem sortK_len (l:List Sq):(sortK l).length=l.length:=(sortK_perm l).length_eq
theorem sortK_mem {l:List Sq} {x:Sq}:x∈sortK l↔x∈l:=(sortK_perm l).mem_iff
theorem keyLt_le_trans {a b c:Sq} (h:keyLt b a=false) (k:keyLt c b=false):keyLt c a=false:=by
 rw [Bool.eq_false_iff] at *
 intro h2
 rcases keyLt_tri a b with h3 | h3 | h3
 ·exact k (keyLt_trans h2 h3)
 ·rw [keyLt_same h3] at h2;exact k h2
 ·exact h h3
theorem sortK_keyed {l:List Sq} (h:NoTwo l):KeysUp (sortK l):=by
 have hs:(sortK l).Pairwise fun a b=>(!keyLt b a)=true:=List.pairwise_mergeSort (le:=fun a b:Sq=>!keyLt b a) (fun a b c h k=>by
  simp only [Bool.not_eq_true'] at *
  exact keyLt_le_trans h k) (fun a b=>by
  cases h:keyLt b a with
  | false=>rfl
  | true=>rw [keyLt_asymm h];rfl) l
 have hn:=h.perm (sortK_perm l).symm
 unfold KeysUp
 unfold NoTwo at hn
 refine(hs.and hn).imp fun {a b} ⟨h1,h2⟩=>?_
 rcases keyLt_tri a b with h3 | h3 | h3
 ·exact h3
 ·exact absurd h3 h2
 ·rw [h3] at h1;cases h1
def boxQ (M:List Sq) (w h:Nat):List Sq:=M.filter fun x=>homeV x.v w == h
theorem boxQ_mem {M:List Sq} {w h:Nat} {x:Sq}:x∈boxQ M w h↔x∈M∧homeV x.v w=h:=by unfold boxQ;rw [List.mem_filter,beq_iff_eq]
theorem boxQ_nil (w h:Nat):boxQ [] w h=[]:=rfl
theorem boxQ_snoc (M:List Sq) (x:Sq) (w h:Nat):boxQ (M ++ [x]) w h=if homeV x.v w=h then boxQ M w h ++ [x] else boxQ M w h:=by
 unfold boxQ
 rw [List.filter_append]
 by_cases e:homeV x.v w=h
 ·rw [if_pos e];simp [e]
 ·rw [if_neg e];simp [e]
theorem boxQ_len (M:List Sq) (w h:Nat):(boxQ M w h).length≤M.length:=List.length_filter_le _ _
theorem boxQ_keyed {M:List Sq} (hM:KeysUp M) (w h:Nat):KeysUp (boxQ M w h):=List.Pairwise.filter _ hM
structure DoneW (F:List Sq) (w:Nat) (hs:List Nat) (P:List Sq):Prop where
 mem:∀ x,x∈P↔x∈F∧homeV x.v w∈hs
 two:NoTwo P
theorem doneW_nil (F:List Sq) (w:Nat):DoneW F w [] []:=⟨fun x=>by simp,noTwo_nil⟩
theorem doneW_step {F:List Sq} {w:Nat} {hs:List Nat} {P B:List Sq} {h:Nat} (hF:KeysUp F) (D:DoneW F w hs P) (hn:h ∉ hs) (hB:B.Perm (boxQ F w h)):DoneW F w (hs ++ [h]) (P ++ B):=by
 have hbm:∀ x,x∈B↔x∈F∧homeV x.v w=h:=fun x=>by rw [hB.mem_iff];exact boxQ_mem
 refine⟨fun x=>?_,noTwo_append.2 ⟨D.two,(keyed_noTwo (boxQ_keyed hF w h)).perm hB.symm,fun x hx y hy e=>?_⟩⟩
 ·rw [List.mem_append,List.mem_append,D.mem,hbm,List.mem_singleton,← and_or_left]
 ·have h1:=((D.mem x).1 hx).2
  have h2:=((hbm y).1 hy).2
  rw [e.2.2,h2] at h1
  exact hn h1
theorem doneW_all {F:List Sq} {w:Nat} {hs:List Nat} {P:List Sq} (hw:0<w) (D:DoneW F w hs P) (hp:hs.Perm (List.range w)):∀ x,x∈P↔x∈F:=fun x=>by
 rw [D.mem,hp.mem_iff,List.mem_range]
 exact⟨fun h=>h.1,fun h=>⟨h,homeV_lt hw⟩⟩
theorem noTwo_most {n:Nat} {l:List Sq} (h:NoTwo l) (hx:∀ x∈l,KeyN n x):l.length≤2*n:=by
 have:=run_most (sortK_keyed h) (fun x hx2=>hx x (sortK_mem.1 hx2))
 rwa [sortK_len] at this
theorem stepM_sorted {f:Sq→List Sq} {st M P:List Sq} (h:KeysUp st) (hP:∀ x,x∈P↔x∈freshM st M) (h2:NoTwo P):sortK (st ++ P)=(stepM f st M).1∧freshM (sortK (st ++ P)) (P.flatMap f)=(stepM f st M).2:=by
 have h3:NoTwo (st ++ P):=noTwo_append.2 ⟨keyed_noTwo h,h2,fun x hx y hy e=>(freshM_mem.1 ((hP y).1 hy)).2 ⟨x,hx,e⟩⟩
 exact stepM_perm h hP (sortK_keyed h3) fun x=>by rw [sortK_mem,List.mem_append]
theorem perm_take {α:Type} [Inhabited α] {out left l:List α} {i:Nat} (h:(out ++ left).Perm l) (hi:i<left.length):((out ++ [nth left i]) ++ left.eraseIdx i).Perm l:=by
 refine List.Perm.trans ?_ h
 rw [List.append_assoc]
 refine List.Perm.append_left out ?_
 rw [nth_eq hi,List.eraseIdx_eq_take_drop_succ]
 conv=>rhs;rw [← List.take_append_drop i left,List.drop_eq_getElem_cons hi]
 rw [List.singleton_append]
 exact List.perm_middle.symm
theorem flatMap_len {f:Sq→List Sq} {P:List Sq} {b:Nat} (h:∀ x∈P,(f x).length≤b):(P.flatMap f).length≤P.length*b:=by
 induction P with
 | nil=>simp
 | cons x P ih =>
  rw [List.flatMap_cons,List.length_append,List.length_cons,Nat.succ_mul]
  have h1:=h x (List.mem_cons_self ..)
  have h2:=ih fun y hy=>h y (List.mem_cons_of_mem _ hy)
  omega
end
section
open Go Go.RowKit Go.Maps Go.WideElems
def I64 (x:Int):Prop:=(Lit.int .i64 x).wf=true
theorem I64.of {x:Int} (h1:-9223372036854775808≤x) (h2:x≤9223372036854775807):I64 x:=by
 unfold I64;simp [Lit.wf,IntKind.min,IntKind.max,IntKind.signed,IntKind.bits];omega
theorem I64.nat {k:Nat} (h:k≤1000000000):I64 (k:Int):=I64.of (by omega) (by omega)
theorem I64.bd {x:Int} (h:I64 x):-9223372036854775808≤x∧x≤9223372036854775807:=by
 unfold I64 at h;simp [Lit.wf,IntKind.min,IntKind.max,IntKind.signed,IntKind.bits] at h;omega
structure Elm (P:Program) (e:TypeId) (β:Type) where
 val:β→Value
 rd:β→DataW Unit
 z:β
 reads:∀ v,plainElem (H:=Unit) P e (val v)=some (rd v,[])
 inv:∀ u y,plainElem (H:=Unit) P e u=some y→∃ v,u=val v
 inj:∀ v v',rd v=rd v'→v=v'
 zero:∀ w,(zeroValue e).run P w=.ok (val z) w
theorem plainElem_bool_inv {P:Program} {e:TypeId} (he:P.underlying e=some .bool) (u:Value) (y:DataW Unit × List MemPlace) (h:plainElem (H:=Unit) P e u=some y):∃ v,u=.bool v:=by
 unfold plainElem at h
 rw [he] at h
 cases u <;> simp at h
 exact⟨_,rfl⟩
def elmB (P:Program) (e:TypeId) (he:P.underlying e=some .bool) (hz:∀ w,(zeroValue e).run P w=.ok (.bool false) w):Elm P e Bool :=
 ⟨.bool,fun x=>.lit (.bool x),false,fun v=>plainElem_bool he v,plainElem_bool_inv he,fun v v' h=>by injection h with h;injection h,hz⟩
section
variable {P:Program} {k e:TypeId} {β:Type}
def Fun (E:Elm P e β) (D:DataW Unit) (f:Int→Option β):Prop :=
 (∀ x,I64 x→Maps.has D (.int .i64 x)=(f x).isSome)∧(∀ x v,f x=some v→I64 x∧∀ zd,D.atKey (.int .i64 x) zd=E.rd v)
def MapI (P:Program) (k:TypeId) (E:Elm P e β) (b n:Nat) (f:Int→Option β) (w:World):Prop :=
 ∃ D:DataW Unit,w.ownsMap P k (plainElem P e) b n D∧Fun E D f
def upF (f:Int→Option β) (x:Int) (v:β):Int→Option β:=fun y=>if y=x then some v else f y
theorem key_of (hk:P.underlying k=some (.int .i64)) {x:Int} (hx:I64 x):keyOf P k (.int .i64 x)=some (.int .i64 x):=keyOf_int_mk hk hx
theorem isKey (hk:P.underlying k=some (.int .i64)) {x:Int} (hx:I64 x):WideAt.IsKeyLit (.int .i64 x):=(int_keyed hk).key (key_of hk hx)
theorem MapI.lt {E:Elm P e β} {b n:Nat} {f:Int→Option β} {w:World} (h:MapI P k E b n f w):b<w.heap.size:=h.choose_spec.1.lt
theorem MapI.loc {E:Elm P e β} {b n:Nat} {f:Int→Option β} {w w':World} (h:MapI P k E b n f w) (hb:w'.heap[b]?=w.heap[b]?):MapI P k E b n f w':=by
 obtain⟨D,⟨es,clock,h1,F,h2,h3⟩,hf⟩:=h
 exact⟨D,⟨es,clock,hb.trans h1,F,h2,h3⟩,hf⟩
theorem MapI.ext {E:Elm P e β} {b n:Nat} {f:Int→Option β} {w w':World} (h:MapI P k E b n f w) (he:Ext w w'):MapI P k E b n f w':=h.loc (he.block b h.lt)
theorem MapI.mono {E:Elm P e β} {b n m:Nat} {f:Int→Option β} {w:World} (h:MapI P k E b n f w) (hn:n≤m):MapI P k E b m f w:=by
 obtain⟨D,h1,h2⟩:=h;exact⟨D,h1.mono hn,h2⟩
theorem MapI.made (E:Elm P e β) (w:World):MapI P k E w.heap.size 0 (fun _=>none) (w.alloc (.map #[] 0)) :=
 ⟨.map [],World.ownsMap_made w P k _,fun x _=>rfl,fun x v h=>by cases h⟩
def Pc.map (P:Program) (k:TypeId) (E:Elm P e β) (b n:Nat) (f:Int→Option β):Pc :=
 ⟨fun i=>i=b,fun w=>MapI P k E b n f w,fun _ h i hi=>by subst hi;exact h.lt,fun _ _ h hi=>h.loc (hi b rfl)⟩
variable {E:Elm P e β} {b n:Nat} {f:Int→Option β} {w:World}
theorem MapI.update {t:TypeId} (h:MapI P k E b n f w) (hk:P.underlying k=some (.int .i64)) (ht:P.underlying t=some (.map k e)) (hn:n<140737488355328) {x:Int} (hx:I64 x) (v:β) :
  ∃ w',(Instr.mapUpdate t (.map (some b)) (.int .i64 x) (E.val v)).run P w=.ok () w'∧MapI P k E b (n+1) (upF f x v) w'∧w.grownBy w' (some b):=by
 obtain⟨D,h1,h2,h3⟩:=h
 obtain⟨w',hr,ho,hg⟩:=h1.update (int_keyed hk) ht (by unfold maxLen;omega) (key_of hk hx) (E.reads v)
 have hm:=h1.isMap
 refine⟨w',hr,⟨_,ho,fun y hy=>?_,fun y u hu=>?_⟩,hg⟩
 ·unfold upF
  by_cases e:y=x
  ·subst e;rw [has_put_same hm (isKey hk hx)];simp
  ·rw [has_put_other (fun h=>e (by injection h)),if_neg e];exact h2 y hy
 ·unfold upF at hu
  by_cases e:y=x
  ·subst e;simp at hu;subst hu;exact⟨hx,fun zd=>atKey_put_same hm (isKey hk hx) _ _⟩
  ·rw [if_neg e] at hu
   obtain⟨g1,g2⟩:=h3 y u hu
   exact⟨g1,fun zd=>by rw [atKey_put_other (fun h=>e (by injection h))];exact g2 zd⟩
theorem Fun.at {D:DataW Unit} (h:Fun E D f) {x:Int} (hx:I64 x):D.atKey (.int .i64 x) (E.rd E.z)=E.rd ((f x).getD E.z):=by
 cases hf:f x with
 | none=>exact atKey_of_not_has (by rw [h.1 x hx,hf];rfl) _
 | some v=>exact(h.2 x v hf).2 _
theorem MapI.lookup {t:TypeId} (h:MapI P k E b n f w) (hk:P.underlying k=some (.int .i64)) (ht:P.underlying t=some (.map k e)) {x:Int} (hx:I64 x) :
  (Instr.lookup t (.map (some b)) (.int .i64 x) false).run P w=.ok (E.val ((f x).getD E.z)) w:=by
 obtain⟨D,h1,hf⟩:=h
 obtain⟨v,ps,hr,hv⟩:=h1.lookup (int_keyed hk) ht (E.zero w) (E.reads E.z) (key_of hk hx)
 obtain⟨u,rfl⟩:=E.inv _ _ hv
 have:=E.reads u
 rw [hv] at this
 injection this with this
 injection this with h4
 rw [hf.at hx] at h4
 rw [hr,E.inj _ _ h4]
theorem MapI.lookup_ok {t:TypeId} (h:MapI P k E b n f w) (hk:P.underlying k=some (.int .i64)) (ht:P.underlying t=some (.map k e)) {x:Int} (hx:I64 x) :
  (Instr.lookup t (.map (some b)) (.int .i64 x) true).run P w=.ok (.tuple #[E.val ((f x).getD E.z),.bool (f x).isSome]) w:=by
 obtain⟨D,h1,hf⟩:=h
 obtain⟨v,ps,hr,hv⟩:=h1.look_ok (int_keyed hk) ht (E.zero w) (E.reads E.z) (key_of hk hx)
 obtain⟨u,rfl⟩:=E.inv _ _ hv
 have:=E.reads u
 rw [hv] at this
 injection this with this
 injection this with h4
 rw [hf.at hx] at h4
 rw [hr,E.inj _ _ h4,hf.1 x hx]
def Rng (P:Program) (k:TypeId) (E:Elm P e β) (es:Array MapEntry) (clock since:Nat) (seen:Array Nat) (c0 n:Nat) (f:Int→Option β) (left:Int→Bool) (cnt:Nat):Prop :=
 ∃ D:DataW Unit,∃ lf:Lit→Bool,Fun E D f∧(∀ x,I64 x→lf (.int .i64 x)=left x)∧(∀ x,left x=true→(f x).isSome=true)∧Fit P k (plainElem (H:=Unit) P e) es clock∧es.size≤n∧D=.map ((es.toList.map (rg P k (plainElem P e))).foldr DataW.insert []) ∧
  (∀ x∈es.toList,x.born<since)∧(leftOf es seen).size=cnt∧(∀ x∈es.toList,lf (rg P k (plainElem (H:=Unit) P e) x).1=!seen.contains x.born)∧(∀ kl,lf kl=true→∃ x∈es.toList,(rg P k (plainElem (H:=Unit) P e) x).1=kl)∧since≤c0∧since≤clock
def Pc.iter (r b since:Nat) (seen:Array Nat) (c0:Nat):Pc :=
 ⟨fun i=>i=r,fun w=>w.heap[r]?=some (.mapIter (some b) since seen c0),fun w h i hi=>by subst hi;exact(Array.getElem?_eq_some_iff.1 h).1,fun _ _ h hi=>(hi r rfl).trans h⟩
theorem MapI.raw (h:MapI P k E b n f w):∃ es clock,w.heap[b]?=some (.map es clock)∧Fit P k (plainElem (H:=Unit) P e) es clock∧es.size≤n∧Fun E (.map ((es.toList.map (rg P k (plainElem P e))).foldr DataW.insert [])) f:=by
 obtain⟨D,⟨es,clock,h1,F,h2,rfl⟩,hf⟩:=h
 exact⟨es,clock,h1,F,h2,hf⟩
variable {w0:World} {Γ:List Pc} {ops:Array Oper} {rest:List Oper} {o:Oper} {a:Act} {Q:Exit→Act→World→Prop}
structure Ent (β:Type) where
 x:Int
 v:β
theorem wpList_range_sep (hg:o.guard=none) (m:Operand) (t:TypeId) (hop:o.op=Op.range t m) (hk:P.underlying k=some (.int .i64)) (ht:P.underlying t=some (.map k e))
  (hm:a.eval m=.map (some b)) {es:Array MapEntry} {clock:Nat} (hb:w.heap[b]?=some (.map es clock)) (F:Fit P k (plainElem (H:=Unit) P e) es clock) (hn:es.size≤n) (hf:Fun E (.map ((es.toList.map (rg P k (plainElem P e))).foldr DataW.insert [])) f)
  (S:Sep w0 w Γ) (r:Nat) (hr:w.heap.size=r)
  (hK:∀ w' since seen c0 cnt,Sep w0 w' (.iter r b since seen c0 :: Γ)→Rng P k E es clock since seen c0 n f (fun x=>(f x).isSome) cnt→w'.heap.size=r+1→Ext w w'→wpList P ops Q rest (a.put o.dst (.pointer (some ⟨r,0,none⟩))) w') :
  wpList P ops Q (o :: rest) a w:=by
 subst hr
 have hown:w.ownsMap P k (plainElem (H:=Unit) P e) b n (.map ((es.toList.map (rg P k (plainElem P e))).foldr DataW.insert [])):=⟨es,clock,hb,F,hn,rfl⟩
 refine wpList_range_own w hg m t hop k e (int_keyed hk) ht (plainElem (H:=Unit) P e) b n _ hm hown ?_
 intro w' hr hgr hsz
 have hext:Ext w w':=⟨hgr.os,hgr.tape,hgr.output,hgr.size,fun i hi=>hgr.block i hi (by simp)⟩
 have hb':w'.heap[b]?=some (.map es clock):=(hext.block b (Array.getElem?_eq_some_iff.1 hb).1).trans hb
 obtain⟨es',clock',since,seen,c0,e1,F',e2,e3,e4,e5,e6,e7,e8,e9,e10⟩:=hr
 rw [hb'] at e1
 injection e1 with e1
 injection e1 with ea eb
 subst ea eb
 refine hK w' since seen c0 _ (S.comp (Δ:=[.iter w.heap.size b since seen c0]) ⟨hext,fun p hp=>?_,fun p hp i hi=>?_,List.pairwise_singleton _ _⟩) ⟨_,_,hf,fun x hx=>?_,fun x hx=>hx,F',e2,rfl,e5,e6,e7,e8,e9,e10⟩ hsz hext
 ·rw [List.mem_singleton] at hp;subst hp;exact e4
 ·rw [List.mem_singleton] at hp;subst hp;have:i=w.heap.size:=hi;omega
 ·exact hf.1 x hx
theorem wpList_next_sep (hg:o.guard=none) (it:Operand) (hop:o.op=Op.next it false) (hk:P.underlying k=some (.int .i64)) {r since:Nat} {seen:Array Nat} {c0 cnt:Nat} {left:Int→Bool} {es:Array MapEntry} {clock:Nat}
  (hit:a.eval it=.pointer (some ⟨r,0,none⟩)) (hb:w.heap[b]?=some (.map es clock)) (S:Sep w0 w Γ) (j:Nat) (hj:Γ[j]?=some (.iter r b since seen c0)) (R:Rng P k E es clock since seen c0 n f left cnt)
  (hDone:(∀ x,left x=false)→wpList P ops Q rest (a.put o.dst (.tuple #[.bool false])) w)
  (hMore:∀ (x:Ent β) w' since' seen' c0' cnt',I64 x.x→left x.x=true→f x.x=some x.v→Sep w0 w' (Γ.set j (.iter r b since' seen' c0'))→Rng P k E es clock since' seen' c0' n f (fun z=>left z && z != x.x) cnt'→cnt'<cnt →
   w'.heap.size=w.heap.size→w'.heap[b]?=some (.map es clock)→w.grownBy w' (some r)→(Instr.entry (.pointer (some ⟨r,0,none⟩))).run P w'=.ok (.tuple #[.int .i64 x.x,E.val x.v]) w'→wpList P ops Q rest (a.put o.dst (.tuple #[.bool true,.int .i64 x.x,E.val x.v])) w') :
  wpList P ops Q (o :: rest) a w:=by
 obtain⟨D,lf,hf,hlf,hlt,F,e2,rfl,e5,e6,e7,e8,e9,e10⟩:=R
 have hr:w.heap[r]?=some (.mapIter (some b) since seen c0):=S.all _ (List.mem_of_getElem? hj)
 have hrange:w.ranges P k (plainElem (H:=Unit) P e) b r n (.map ((es.toList.map (rg P k (plainElem P e))).foldr DataW.insert [])) lf cnt:=⟨es,clock,since,seen,c0,hb,F,e2,rfl,hr,e5,e6,e7,e8,e9,e10⟩
 have hne:r≠b:=hrange.ne
 refine wpList_next_ranges w hg it hop k (int_keyed hk) (plainElem (H:=Unit) P e) (Value.int .i64) E.val (fun key kl h=>by obtain⟨x,h1,_⟩:=keyOf_int_inv hk h;exact⟨x,h1⟩) (fun v y h=>E.inv v y h) b r n _ lf cnt hit hrange ?_ ?_
 ·intro _ hall
  refine hDone fun x=>?_
  by_cases hx:left x=true
  ·have h1:=hlt x hx
   obtain⟨v,hv⟩:=Option.isSome_iff_exists.1 h1
   have:=hlf x (hf.2 x v hv).1
   rw [hall] at this
   rw [← this] at hx;cases hx
  ·simpa using hx
 ·intro x c kl y w' cnt' hkey hl hR hat hrg hlt' hgr hsz hen
  obtain⟨x',hx1,hx2,hx3⟩:=keyOf_int_inv hk hkey
  injection hx1 with _ hx1
  subst hx1 hx2
  have hxw:I64 x:=hx3
  have hlx:left x=true:=by rw [← hlf x hxw];exact hl
  obtain⟨v,hv⟩:=Option.isSome_iff_exists.1 (hlt x hlx)
  have hc:v=c:=by
   refine E.inj _ _ ?_
   have h1:=(hf.2 x v hv).2 (E.rd v)
   have h2:=hat (E.rd v)
   have h3:=E.reads c
   rw [hR] at h3
   injection h3 with h3
   rw [← h1,h2,h3]
  subst hc
  have hb':w'.heap[b]?=some (.map es clock):=(hgr.block b (Array.getElem?_eq_some_iff.1 hb).1 (fun e=>hne (by injection e with e;exact e.symm))).trans hb
  obtain⟨es',clock',since',seen',c0',g1,F',g2,g3,g4,g5,g6,g7,g8,g9,g10⟩:=hrg
  rw [hb'] at g1
  injection g1 with g1
  injection g1 with ga gb
  subst ga gb
  refine hMore ⟨x,v⟩ w' since' seen' c0' cnt' hxw hlx hv (S.put j hj (.iter r b since' seen' c0') hgr (fun i hi=>by injection hi with hi;exact hi.symm) g4 (fun i hi=>.inl hi)) ⟨_,_,hf,fun z hz=>?_,fun z hz=>?_,F',g2,rfl,g5,g6,g7,g8,g9,g10⟩ hlt' hsz hb' hgr hen
  ·rw [hlf z hz]
   by_cases e:z=x
   ·subst e;rw [WideAt.sameKey_self (isKey hk hz)];simp
   ·rw [sameKey_ne (fun h=>e (by injection h))];simp [e]
  ·simp only [Bool.and_eq_true] at hz;exact hlt z hz.1
theorem wpList_update_sep (hg:o.guard=none) (m x v:Operand) (t:TypeId) (hop:o.op=Op.mapUpdate t m x v) (hk:P.underlying k=some (.int .i64)) (ht:P.underlying t=some (.map k e))
  (hm:a.eval m=.map (some b)) (S:Sep w0 w Γ) (j:Nat) (hj:Γ[j]?=some (.map P k E b n f)) (hn:n<140737488355328) (kx:Int) (u:β) (hx:a.eval x=.int .i64 kx) (hv:a.eval v=E.val u) (hi:I64 kx)
  (hK:∀ w',Sep w0 w' (Γ.set j (.map P k E b (n+1) (upF f kx u)))→w.grownBy w' (some b)→wpList P ops Q rest (a.put o.dst undef) w') :
  wpList P ops Q (o :: rest) a w:=by
 refine wpList_plain hg fun K' hK'=>?_
 obtain⟨w',hrun,r1,r2⟩:=MapI.update (S.all _ (List.mem_of_getElem? hj)) hk ht hn hi u
 unfold Oper.wp
 simp [execOp,hop,hm,hx,hv,hrun,Result.andThen]
 exact hK' _ _ (hK w' (S.put j hj _ r2 (fun i hi=>by injection hi with hi;exact hi.symm) r1 (fun i hi=>.inl hi)) r2)
end
theorem rng_left {P:Program} {k e:TypeId} {β:Type} {E:Elm P e β} {w:World} {b n:Nat} {f:Int→Option β} {es:Array MapEntry} {clock r since:Nat} {seen:Array Nat} {c0 cnt:Nat} {left:Int→Bool} (hb:w.heap[b]?=some (.map es clock)) (hr:w.heap[r]?=some (.mapIter (some b) since seen c0)) (R:Rng P k E es clock since seen c0 n f left cnt):w.rangeLeft b r=cnt:=by
 obtain⟨_,_,_,_,_,_,_,_,_,h,_⟩:=R
 unfold World.rangeLeft;rw [hb,hr];exact h
theorem rng_le {P:Program} {k e:TypeId} {β:Type} {E:Elm P e β} {n:Nat} {f:Int→Option β} {es:Array MapEntry} {clock since:Nat} {seen:Array Nat} {c0 cnt:Nat} {left:Int→Bool} (R:Rng P k E es clock since seen c0 n f left cnt):cnt≤n:=by
 obtain⟨_,_,_,_,_,_,h2,_,_,h,_⟩:=R
 refine Nat.le_trans ?_ h2
 rw [← h]
 unfold leftOf
 exact Array.size_filter_le
theorem Sep.iter {w0 w:World} {Γ:List Pc} (S:Sep w0 w Γ) (j:Nat) {r b since c0:Nat} {seen:Array Nat} (hj:Γ[j]?=some (.iter r b since seen c0)):w.heap[r]?=some (.mapIter (some b) since seen c0):=S.all _ (List.mem_of_getElem? hj)
theorem Sep.mkmap {P:Program} {k e:TypeId} {β:Type} (E:Elm P e β) {w0 w:World} {Γ:List Pc} (S:Sep w0 w Γ):Sep w0 (w.alloc (.map #[] 0)) (.map P k E w.heap.size 0 (fun _=>none) :: Γ) :=
 S.comp (Δ:=[.map P k E w.heap.size 0 (fun _=>none)]) ⟨Ext.alloc (Below.refl _ _) _,fun p hp=>by rw [List.mem_singleton] at hp;subst hp;exact MapI.made E w,fun p hp i hi=>by rw [List.mem_singleton] at hp;subst hp;have:i=w.heap.size:=hi;omega,List.pairwise_singleton _ _⟩
theorem Sep.map {P:Program} {k e:TypeId} {β:Type} {E:Elm P e β} {w0 w:World} {Γ:List Pc} (S:Sep w0 w Γ) (j:Nat) {b n:Nat} {f:Int→Option β} (hj:Γ[j]?=some (.map P k E b n f)):MapI P k E b n f w:=S.all _ (List.mem_of_getElem? hj)
end
section
open Go Go.RowKit Go.Maps Go.WideElems
structure Ky where
 s:Int
 r:Int
 v:Int
deriving DecidableEq,Inhabited
structure KeyS (P:Program) (k:TypeId) where
 val:Ky→Value
 lit:Ky→Lit
 ok:Ky→Prop
 law:Go.Maps.Keyed P k
 of:∀ {x},ok x→keyOf P k (val x)=some (lit x)
 inv:∀ {v l},keyOf P k v=some l→∃ x,v=val x∧l=lit x∧ok x
 injL:∀ {x y},ok x→ok y→lit x=lit y→x=y
 injV:∀ {x y},val x=val y→x=y
structure ElmR (P:Program) (e:TypeId) (β:Type) where
 R:Value→Option (DataW Unit × List MemPlace)
 val:β→Value
 rd:β→DataW Unit
 z:β
 reads:∀ v,R (val v)=some (rd v,[])
 inv:∀ u y,R u=some y→∃ v,u=val v
 inj:∀ v v',rd v=rd v'→v=v'
 zero:∀ w,(zeroValue e).run P w=.ok (val z) w
section
variable {P:Program} {k e:TypeId} {β:Type} {K:KeyS P k}
def FunK (K:KeyS P k) (E:ElmR P e β) (D:DataW Unit) (f:Ky→Option β):Prop :=
 (∀ x,K.ok x→Maps.has D (K.lit x)=(f x).isSome)∧(∀ x v,f x=some v→K.ok x∧∀ zd,D.atKey (K.lit x) zd=E.rd v)
def MapK (K:KeyS P k) (E:ElmR P e β) (b n:Nat) (f:Ky→Option β) (w:World):Prop :=
 ∃ D:DataW Unit,w.ownsMap P k E.R b n D∧FunK K E D f
def upK (f:Ky→Option β) (x:Ky) (v:β):Ky→Option β:=fun y=>if y=x then some v else f y
theorem isKeyK (K:KeyS P k) {x:Ky} (hx:K.ok x):WideAt.IsKeyLit (K.lit x):=K.law.key (K.of hx)
theorem MapK.lt {E:ElmR P e β} {b n:Nat} {f:Ky→Option β} {w:World} (h:MapK K E b n f w):b<w.heap.size:=h.choose_spec.1.lt
theorem MapK.loc {E:ElmR P e β} {b n:Nat} {f:Ky→Option β} {w w':World} (h:MapK K E b n f w) (hb:w'.heap[b]?=w.heap[b]?):MapK K E b n f w':=by
 obtain⟨D,⟨es,clock,h1,F,h2,h3⟩,hf⟩:=h
 exact⟨D,⟨es,clock,hb.trans h1,F,h2,h3⟩,hf⟩
theorem MapK.ext {E:ElmR P e β} {b n:Nat} {f:Ky→Option β} {w w':World} (h:MapK K E b n f w) (he:Ext w w'):MapK K E b n f w':=h.loc (he.block b h.lt)
theorem MapK.mono {E:ElmR P e β} {b n m:Nat} {f:Ky→Option β} {w:World} (h:MapK K E b n f w) (hn:n≤m):MapK K E b m f w:=by
 obtain⟨D,h1,h2⟩:=h;exact⟨D,h1.mono hn,h2⟩
theorem MapK.made (E:ElmR P e β) (w:World):MapK K E w.heap.size 0 (fun _=>none) (w.alloc (.map #[] 0)) :=
 ⟨.map [],World.ownsMap_made w P k _,fun x _=>rfl,fun x v h=>by cases h⟩
def Pc.mapK (K:KeyS P k) (E:ElmR P e β) (b n:Nat) (f:Ky→Option β):Pc :=
 ⟨fun i=>i=b,fun w=>MapK K E b n f w,fun _ h i hi=>by subst hi;exact h.lt,fun _ _ h hi=>h.loc (hi b rfl)⟩
variable {E:ElmR P e β} {b n:Nat} {f:Ky→Option β} {w:World}
theorem MapK.update {t:TypeId} (h:MapK K E b n f w) (ht:P.underlying t=some (.map k e)) (hn:n<140737488355328) {x:Ky} (hx:K.ok x) (v:β) :
  ∃ w',(Instr.mapUpdate t (.map (some b)) (K.val x) (E.val v)).run P w=.ok () w'∧MapK K E b (n+1) (upK f x v) w'∧w.grownBy w' (some b):=by
 obtain⟨D,h1,h2,h3⟩:=h
 obtain⟨w',hr,ho,hg⟩:=h1.update (K.law) ht (by unfold maxLen;omega) (K.of hx) (E.reads v)
 have hm:=h1.isMap
 refine⟨w',hr,⟨_,ho,fun y hy=>?_,fun y u hu=>?_⟩,hg⟩
 ·unfold upK
  by_cases e:y=x
  ·subst e;rw [has_put_same hm (isKeyK K hx)];simp
  ·rw [has_put_other (fun h=>e (K.injL hy hx h)),if_neg e];exact h2 y hy
 ·unfold upK at hu
  by_cases e:y=x
  ·subst e;simp at hu;subst hu;exact⟨hx,fun zd=>atKey_put_same hm (isKeyK K hx) _ _⟩
  ·rw [if_neg e] at hu
   obtain⟨g1,g2⟩:=h3 y u hu
   exact⟨g1,fun zd=>by rw [atKey_put_other (fun h=>e (K.injL g1 hx h))];exact g2 zd⟩
theorem FunK.at {D:DataW Unit} (h:FunK K E D f) {x:Ky} (hx:K.ok x):D.atKey (K.lit x) (E.rd E.z)=E.rd ((f x).getD E.z):=by
 cases hf:f x with
 | none=>exact atKey_of_not_has (by rw [h.1 x hx,hf];rfl) _
 | some v=>exact(h.2 x v hf).2 _
theorem MapK.lookup {t:TypeId} (h:MapK K E b n f w) (ht:P.underlying t=some (.map k e)) {x:Ky} (hx:K.ok x) :
  (Instr.lookup t (.map (some b)) (K.val x) false).run P w=.ok (E.val ((f x).getD E.z)) w:=by
 obtain⟨D,h1,hf⟩:=h
 obtain⟨v,ps,hr,hv⟩:=h1.lookup (K.law) ht (E.zero w) (E.reads E.z) (K.of hx)
 obtain⟨u,rfl⟩:=E.inv _ _ hv
 have:=E.reads u
 rw [hv] at this
 injection this with this
 injection this with h4
 rw [hf.at hx] at h4
 rw [hr,E.inj _ _ h4]
theorem MapK.lookup_ok {t:TypeId} (h:MapK K E b n f w) (ht:P.underlying t=some (.map k e)) {x:Ky} (hx:K.ok x) :
  (Instr.lookup t (.map (some b)) (K.val x) true).run P w=.ok (.tuple #[E.val ((f x).getD E.z),.bool (f x).isSome]) w:=by
 obtain⟨D,h1,hf⟩:=h
 obtain⟨v,ps,hr,hv⟩:=h1.look_ok (K.law) ht (E.zero w) (E.reads E.z) (K.of hx)
 obtain⟨u,rfl⟩:=E.inv _ _ hv
 have:=E.reads u
 rw [hv] at this
 injection this with this
 injection this with h4
 rw [hf.at hx] at h4
 rw [hr,E.inj _ _ h4,hf.1 x hx]
def RngK (K:KeyS P k) (E:ElmR P e β) (es:Array MapEntry) (clock since:Nat) (seen:Array Nat) (c0 n:Nat) (f:Ky→Option β) (left:Ky→Bool) (cnt:Nat):Prop :=
 ∃ D:DataW Unit,∃ lf:Lit→Bool,FunK K E D f∧(∀ x,K.ok x→lf (K.lit x)=left x)∧(∀ x,left x=true→(f x).isSome=true)∧Fit P k (E.R) es clock∧es.size≤n∧D=.map ((es.toList.map (rg P k E.R)).foldr DataW.insert []) ∧
  (∀ x∈es.toList,x.born<since)∧(leftOf es seen).size=cnt∧(∀ x∈es.toList,lf (rg P k (E.R) x).1=!seen.contains x.born)∧(∀ kl,lf kl=true→∃ x∈es.toList,(rg P k (E.R) x).1=kl)∧since≤c0∧since≤clock
theorem MapK.raw (h:MapK K E b n f w):∃ es clock,w.heap[b]?=some (.map es clock)∧Fit P k (E.R) es clock∧es.size≤n∧FunK K E (.map ((es.toList.map (rg P k E.R)).foldr DataW.insert [])) f:=by
 obtain⟨D,⟨es,clock,h1,F,h2,rfl⟩,hf⟩:=h
 exact⟨es,clock,h1,F,h2,hf⟩
variable {w0:World} {Γ:List Pc} {ops:Array Oper} {rest:List Oper} {o:Oper} {a:Act} {Q:Exit→Act→World→Prop}
structure EntK (β:Type) where
 x:Ky
 v:β
theorem wpList_range_sepK (hg:o.guard=none) (m:Operand) (t:TypeId) (hop:o.op=Op.range t m) (ht:P.underlying t=some (.map k e))
  (hm:a.eval m=.map (some b)) {es:Array MapEntry} {clock:Nat} (hb:w.heap[b]?=some (.map es clock)) (F:Fit P k (E.R) es clock) (hn:es.size≤n) (hf:FunK K E (.map ((es.toList.map (rg P k E.R)).foldr DataW.insert [])) f)
  (S:Sep w0 w Γ) (r:Nat) (hr:w.heap.size=r)
  (hK:∀ w' since seen c0 cnt,Sep w0 w' (.iter r b since seen c0 :: Γ)→RngK K E es clock since seen c0 n f (fun x=>(f x).isSome) cnt→w'.heap.size=r+1→Ext w w'→wpList P ops Q rest (a.put o.dst (.pointer (some ⟨r,0,none⟩))) w') :
  wpList P ops Q (o :: rest) a w:=by
 subst hr
 have hown:w.ownsMap P k (E.R) b n (.map ((es.toList.map (rg P k E.R)).foldr DataW.insert [])):=⟨es,clock,hb,F,hn,rfl⟩
 refine wpList_range_own w hg m t hop k e (K.law) ht (E.R) b n _ hm hown ?_
 intro w' hr hgr hsz
 have hext:Ext w w':=⟨hgr.os,hgr.tape,hgr.output,hgr.size,fun i hi=>hgr.block i hi (by simp)⟩
 have hb':w'.heap[b]?=some (.map es clock):=(hext.block b (Array.getElem?_eq_some_iff.1 hb).1).trans hb
 obtain⟨es',clock',since,seen,c0,e1,F',e2,e3,e4,e5,e6,e7,e8,e9,e10⟩:=hr
 rw [hb'] at e1
 injection e1 with e1
 injection e1 with ea eb
 subst ea eb
 refine hK w' since seen c0 _ (S.comp (Δ:=[.iter w.heap.size b since seen c0]) ⟨hext,fun p hp=>?_,fun p hp i hi=>?_,List.pairwise_singleton _ _⟩) ⟨_,_,hf,fun x hx=>?_,fun x hx=>hx,F',e2,rfl,e5,e6,e7,e8,e9,e10⟩ hsz hext
 ·rw [List.mem_singleton] at hp;subst hp;exact e4
 ·rw [List.mem_singleton] at hp;subst hp;have:i=w.heap.size:=hi;omega
 ·exact hf.1 x hx
theorem wpList_next_sepK (hg:o.guard=none) (it:Operand) (hop:o.op=Op.next it false) {r since:Nat} {seen:Array Nat} {c0 cnt:Nat} {left:Ky→Bool} {es:Array MapEntry} {clock:Nat}
  (hit:a.eval it=.pointer (some ⟨r,0,none⟩)) (hb:w.heap[b]?=some (.map es clock)) (S:Sep w0 w Γ) (j:Nat) (hj:Γ[j]?=some (.iter r b since seen c0)) (R:RngK K E es clock since seen c0 n f left cnt)
  (hDone:(∀ x,left x=false)→wpList P ops Q rest (a.put o.dst (.tuple #[.bool false])) w)
  (hMore:∀ (x:EntK β) w' since' seen' c0' cnt',K.ok x.x→left x.x=true→f x.x=some x.v→Sep w0 w' (Γ.set j (.iter r b since' seen' c0'))→RngK K E es clock since' seen' c0' n f (fun z=>left z && !decide (z=x.x)) cnt'→cnt'<cnt →
   w'.heap.size=w.heap.size→w'.heap[b]?=some (.map es clock)→w.grownBy w' (some r)→(Instr.entry (.pointer (some ⟨r,0,none⟩))).run P w'=.ok (.tuple #[K.val x.x,E.val x.v]) w'→wpList P ops Q rest (a.put o.dst (.tuple #[.bool true,K.val x.x,E.val x.v])) w') :
  wpList P ops Q (o :: rest) a w:=by
 obtain⟨D,lf,hf,hlf,hlt,F,e2,rfl,e5,e6,e7,e8,e9,e10⟩:=R
 have hr:w.heap[r]?=some (.mapIter (some b) since seen c0):=S.all _ (List.mem_of_getElem? hj)
 have hrange:w.ranges P k (E.R) b r n (.map ((es.toList.map (rg P k E.R)).foldr DataW.insert [])) lf cnt:=⟨es,clock,since,seen,c0,hb,F,e2,rfl,hr,e5,e6,e7,e8,e9,e10⟩
 have hne:r≠b:=hrange.ne
 refine wpList_next_ranges w hg it hop k (K.law) (E.R) K.val E.val (fun key kl h=>by obtain⟨x,h1,_⟩:=K.inv h;exact⟨x,h1⟩) (fun v y h=>E.inv v y h) b r n _ lf cnt hit hrange ?_ ?_
 ·intro _ hall
  refine hDone fun x=>?_
  by_cases hx:left x=true
  ·have h1:=hlt x hx
   obtain⟨v,hv⟩:=Option.isSome_iff_exists.1 h1
   have:=hlf x (hf.2 x v hv).1
   rw [hall] at this
   rw [← this] at hx;cases hx
  ·simpa using hx
 ·intro x c kl y w' cnt' hkey hl hR hat hrg hlt' hgr hsz hen
  obtain⟨x',hx1,hx2,hx3⟩:=K.inv hkey
  have hx1:=K.injV hx1
  subst hx1;subst hx2
  have hxw:K.ok x:=hx3
  have hlx:left x=true:=by rw [← hlf x hxw];exact hl
  obtain⟨v,hv⟩:=Option.isSome_iff_exists.1 (hlt x hlx)
  have hc:v=c:=by
   refine E.inj _ _ ?_
   have h1:=(hf.2 x v hv).2 (E.rd v)
   have h2:=hat (E.rd v)
   have h3:=E.reads c
   rw [hR] at h3
   injection h3 with h3
   rw [← h1,h2,h3]
  subst hc
  have hb':w'.heap[b]?=some (.map es clock):=(hgr.block b (Array.getElem?_eq_some_iff.1 hb).1 (fun e=>hne (by injection e with e;exact e.symm))).trans hb
  obtain⟨es',clock',since',seen',c0',g1,F',g2,g3,g4,g5,g6,g7,g8,g9,g10⟩:=hrg
  rw [hb'] at g1
  injection g1 with g1
  injection g1 with ga gb
  subst ga gb
  refine hMore ⟨x,v⟩ w' since' seen' c0' cnt' hxw hlx hv (S.put j hj (.iter r b since' seen' c0') hgr (fun i hi=>by injection hi with hi;exact hi.symm) g4 (fun i hi=>.inl hi)) ⟨_,_,hf,fun z hz=>?_,fun z hz=>?_,F',g2,rfl,g5,g6,g7,g8,g9,g10⟩ hlt' hsz hb' hgr hen
  ·rw [hlf z hz]
   by_cases e:z=x
   ·subst e;rw [WideAt.sameKey_self (isKeyK K hz)];simp
   ·rw [sameKey_ne (fun h=>e (K.injL hz hxw h))];simp [e]
  ·simp only [Bool.and_eq_true] at hz;exact hlt z hz.1
theorem wpList_update_sepK (hg:o.guard=none) (m x v:Operand) (t:TypeId) (hop:o.op=Op.mapUpdate t m x v) (ht:P.underlying t=some (.map k e))
  (hm:a.eval m=.map (some b)) (S:Sep w0 w Γ) (j:Nat) (hj:Γ[j]?=some (.mapK K E b n f)) (hn:n<140737488355328) (kx:Ky) (u:β) (hx:a.eval x=K.val kx) (hv:a.eval v=E.val u) (hi:K.ok kx)
  (hK:∀ w',Sep w0 w' (Γ.set j (.mapK K E b (n+1) (upK f kx u)))→w.grownBy w' (some b)→wpList P ops Q rest (a.put o.dst undef) w') :
  wpList P ops Q (o :: rest) a w:=by
 refine wpList_plain hg fun K' hK'=>?_
 obtain⟨w',hrun,r1,r2⟩:=MapK.update (S.all _ (List.mem_of_getElem? hj)) ht hn hi u
 unfold Oper.wp
 simp [execOp,hop,hm,hx,hv,hrun,Result.andThen]
 exact hK' _ _ (hK w' (S.put j hj _ r2 (fun i hi=>by injection hi with hi;exact hi.symm) r1 (fun i hi=>.inl hi)) r2)
end
theorem rng_leftK {P:Program} {k e:TypeId} {β:Type} {K:KeyS P k} {E:ElmR P e β} {w:World} {b n:Nat} {f:Ky→Option β} {es:Array MapEntry} {clock r since:Nat} {seen:Array Nat} {c0 cnt:Nat} {left:Ky→Bool} (hb:w.heap[b]?=some (.map es clock)) (hr:w.heap[r]?=some (.mapIter (some b) since seen c0)) (R:RngK K E es clock since seen c0 n f left cnt):w.rangeLeft b r=cnt:=by
 obtain⟨_,_,_,_,_,_,_,_,_,h,_⟩:=R
 unfold World.rangeLeft;rw [hb,hr];exact h
theorem rng_leK {P:Program} {k e:TypeId} {β:Type} {K:KeyS P k} {E:ElmR P e β} {n:Nat} {f:Ky→Option β} {es:Array MapEntry} {clock since:Nat} {seen:Array Nat} {c0 cnt:Nat} {left:Ky→Bool} (R:RngK K E es clock since seen c0 n f left cnt):cnt≤n:=by
 obtain⟨_,_,_,_,_,_,h2,_,_,h,_⟩:=R
 refine Nat.le_trans ?_ h2
 rw [← h]
 unfold leftOf
 exact Array.size_filter_le
theorem Sep.mkmapK {P:Program} {k e:TypeId} {β:Type} {K:KeyS P k} (E:ElmR P e β) {w0 w:World} {Γ:List Pc} (S:Sep w0 w Γ):Sep w0 (w.alloc (.map #[] 0)) (.mapK K E w.heap.size 0 (fun _=>none) :: Γ) :=
 S.comp (Δ:=[.mapK K E w.heap.size 0 (fun _=>none)]) ⟨Ext.alloc (Below.refl _ _) _,fun p hp=>by rw [List.mem_singleton] at hp;subst hp;exact MapK.made E w,fun p hp i hi=>by rw [List.mem_singleton] at hp;subst hp;have:i=w.heap.size:=hi;omega,List.pairwise_singleton _ _⟩
theorem Sep.mapK {P:Program} {k e:TypeId} {β:Type} {K:KeyS P k} {E:ElmR P e β} {w0 w:World} {Γ:List Pc} (S:Sep w0 w Γ) (j:Nat) {b n:Nat} {f:Ky→Option β} (hj:Γ[j]?=some (.mapK K E b n f)):MapK K E b n f w:=S.all _ (List.mem_of_getElem? hj)
end
section
open Go Go.RowKit
def Sq.ky (x:Sq):Ky:=⟨x.s,x.r,x.v⟩
theorem ky_same {x y:Sq}:x.ky=y.ky↔sameK x y:=by
 unfold Sq.ky sameK
 constructor
 ·intro h;injection h with h1 h2 h3;exact⟨h1,h2,h3⟩
 ·rintro⟨h1,h2,h3⟩;rw [h1,h2,h3]
def LeastK (l:List Sq) (f:Ky→Option Sq):Prop :=
 (∀ κ,f κ=none→∀ x∈l,x.ky≠κ)∧∀ κ y,f κ=some y→y∈l∧y.ky=κ∧∀ x∈l,x.ky=κ→y.d≤x.d
theorem leastK_nil:LeastK [] (fun _=>none):=⟨fun _ _ x h=>(List.not_mem_nil h).elim,fun _ _ h=>by cases h⟩
theorem leastK_skip {l:List Sq} {f:Ky→Option Sq} (x:Sq) (h:LeastK l f) (hx:∃ y,f x.ky=some y∧y.d≤x.d):LeastK (l ++ [x]) f:=by
 obtain⟨y,hy,hd⟩:=hx
 refine⟨fun κ hκ z hz=>?_,fun κ u hu=>?_⟩
 ·rcases List.mem_append.1 hz with hz | hz
  ·exact h.1 κ hκ z hz
  ·rw [List.mem_singleton] at hz
   subst hz
   intro e;rw [← e,hy] at hκ;cases hκ
 ·obtain⟨h1,h2,h3⟩:=h.2 κ u hu
  refine⟨List.mem_append_left _ h1,h2,fun z hz e=>?_⟩
  rcases List.mem_append.1 hz with hz | hz
  ·exact h3 z hz e
  ·rw [List.mem_singleton] at hz
   subst hz
   rw [e,hu] at hy
   injection hy with hy
   rw [hy];exact hd
theorem leastK_put {l:List Sq} {f:Ky→Option Sq} (x:Sq) (h:LeastK l f) (hx:∀ y,f x.ky=some y→x.d≤y.d):LeastK (l ++ [x]) (upK f x.ky x):=by
 refine⟨fun κ hκ z hz=>?_,fun κ u hu=>?_⟩
 ·unfold upK at hκ
  by_cases e:κ=x.ky
  ·rw [if_pos e] at hκ;cases hκ
  ·rw [if_neg e] at hκ
   rcases List.mem_append.1 hz with hz | hz
   ·exact h.1 κ hκ z hz
   ·rw [List.mem_singleton] at hz
    subst hz
    exact fun h2=>e h2.symm
 ·unfold upK at hu
  by_cases e:κ=x.ky
  ·rw [if_pos e] at hu
   injection hu with hu
   subst hu
   subst e
   refine⟨by simp,rfl,fun z hz e=>?_⟩
   rcases List.mem_append.1 hz with hz | hz
   ·cases hf:f x.ky with
    | none=>exact absurd e (h.1 _ hf z hz)
    | some y=>have:=hx y hf;have:=(h.2 _ y hf).2.2 z hz e;omega
   ·rw [List.mem_singleton] at hz
    subst hz;exact Int.le_refl _
  ·rw [if_neg e] at hu
   obtain⟨h1,h2,h3⟩:=h.2 κ u hu
   refine⟨List.mem_append_left _ h1,h2,fun z hz e2=>?_⟩
   rcases List.mem_append.1 hz with hz | hz
   ·exact h3 z hz e2
   ·rw [List.mem_singleton] at hz
    subst hz
    exact absurd e2.symm e
theorem leastK_mem {M:List Sq} {f:Ky→Option Sq} (h:LeastK M f) (x:Sq):f x.ky=some x↔LeastM M x:=by
 constructor
 ·intro hf
  obtain⟨h1,_,h3⟩:=h.2 _ _ hf
  exact⟨h1,fun y hy e=>h3 y hy (ky_same.2 e)⟩
 ·rintro⟨hx,hl⟩
  cases hf:f x.ky with
  | none=>exact absurd rfl (h.1 _ hf x hx)
  | some y =>
   obtain⟨h1,h2,h3⟩:=h.2 _ _ hf
   have e:=ky_same.1 h2
   have a:=h3 x hx rfl
   have b:=hl y h1 e
   rw [sameK.eq e (by omega)]
structure CameK (f:Ky→Option Sq) (left:Ky→Bool) (L:List Sq):Prop where
 mem:∀ x,x∈L↔f x.ky=some x∧left x.ky=false
 two:NoTwo L
theorem cameK_nil (f:Ky→Option Sq):CameK f (fun κ=>(f κ).isSome) []:=⟨fun x=>by simp;intro h;simp [h],noTwo_nil⟩
theorem cameK_step {M:List Sq} {f:Ky→Option Sq} {left:Ky→Bool} {L:List Sq} (hf:LeastK M f) (h:CameK f left L) {κ:Ky} {u:Sq} (hκ:f κ=some u) (hl:left κ=true):CameK f (fun z=>left z && !decide (z=κ)) (L ++ [u]):=by
 have hu:u.ky=κ:=(hf.2 _ _ hκ).2.1
 refine⟨fun x=>?_,noTwo_append.2 ⟨h.two,List.pairwise_singleton _ _,fun x hx y hy e=>?_⟩⟩
 ·rw [List.mem_append,List.mem_singleton,h.mem]
  constructor
  ·rintro(⟨h1,h2⟩ | rfl)
   ·exact⟨h1,by rw [h2];rfl⟩
   ·rw [hu];exact⟨hκ,by simp⟩
  ·rintro⟨h1,h2⟩
   by_cases e:x.ky=κ
   ·right;rw [e,hκ] at h1;injection h1 with h1;exact h1.symm
   ·left;refine⟨h1,?_⟩
    simpa [e] using h2
 ·rw [List.mem_singleton] at hy
  subst hy
  have h2:=((h.mem x).1 hx).2
  rw [ky_same.2 e,hu,hl] at h2
  cases h2
theorem cameK_end {M:List Sq} {f:Ky→Option Sq} {left:Ky→Bool} {L:List Sq} (hf:LeastK M f) (h:CameK f left L) (hl:∀ κ,left κ=false):sortK L=combM M :=
 keyed_uniq (sortK_keyed h.two) (combM_ok M).keyed fun x=>by
  rw [sortK_mem,h.mem,leastK_mem hf,combM_mem]
  exact⟨fun h=>h.1,fun h2=>⟨h2,hl _⟩⟩
def ThereK (l:List Sq) (f:Ky→Option Bool):Prop:=∀ κ,(f κ=some true↔∃ x∈l,x.ky=κ)∧f κ≠some false
theorem thereK_nil:ThereK [] (fun _=>none):=fun κ=>⟨by simp,by simp⟩
theorem thereK_put {l:List Sq} {f:Ky→Option Bool} (x:Sq) (h:ThereK l f):ThereK (l ++ [x]) (upK f x.ky true):=fun κ=>by
 unfold upK
 by_cases e:κ=x.ky
 ·rw [if_pos e]
  exact⟨⟨fun _=>⟨x,by simp,e.symm⟩,fun _=>rfl⟩,by simp⟩
 ·rw [if_neg e]
  refine⟨?_,(h κ).2⟩
  rw [(h κ).1]
  constructor
  ·rintro⟨y,hy,h2⟩;exact⟨y,List.mem_append_left _ hy,h2⟩
  ·rintro⟨y,hy,h2⟩
   rcases List.mem_append.1 hy with hy | hy
   ·exact⟨y,hy,h2⟩
   ·rw [List.mem_singleton] at hy;subst hy;exact absurd h2.symm e
theorem thereK_has {l:List Sq} {f:Ky→Option Bool} (h:ThereK l f) (x:Sq):(f x.ky).getD false=hasK l x:=by
 have h1:=(h x.ky).1
 have h2:=(h x.ky).2
 rw [Bool.eq_iff_iff,hasK_iff]
 have h3:(f x.ky).getD false=true↔f x.ky=some true:=by
  cases hf:f x.ky with
  | none=>simp
  | some b=>simp
 rw [h3,h1]
 constructor
 ·rintro⟨y,hy,e⟩;exact⟨y,hy,ky_same.1 e⟩
 ·rintro⟨y,hy,e⟩;exact⟨y,hy,ky_same.2 e⟩
end
section
open Go Go.RowKit
theorem inf9:(Tryz.prog.info? 9).map (fun i=>(i.zero,i.size,i.bytes))=some (some (.string ByteArray.empty),1,16):=by kernel_rfl
end
section
open Go Go.RowKit
structure GBox (w:World) (b:Nat) (N:Int) (pe:Option Addr) (ne ce:Nat) (pw:Option Addr) (nw cw:Nat):Prop where
 c0:w.cell? ⟨b,0,none⟩=some (.int .i64 N)
 c1:w.cell? ⟨b,1,none⟩=some (.slice pe ne ce)
 c2:w.cell? ⟨b,2,none⟩=some (.slice pw nw cw)
section
variable {w w':World} {b:Nat} {N:Int} {pe:Option Addr} {ne ce:Nat} {pw:Option Addr} {nw cw:Nat}
theorem GBox.ext (h:GBox w b N pe ne ce pw nw cw) (he:Ext w w'):GBox w' b N pe ne ce pw nw cw:=⟨he.cell h.c0,he.cell h.c1,he.cell h.c2⟩
theorem GBox.new (w:World) (t:TypeId):GBox (w.alloc (.cells #[.int .i64 N,.slice pe ne ce,.slice pw nw cw] t)) w.heap.size N pe ne ce pw nw cw:=⟨by simp,by simp,by simp⟩
theorem GBox.alloc (h:GBox w b N pe ne ce pw nw cw) (o:Obj):GBox (w.alloc o) b N pe ne ce pw nw cw:=h.ext ((Below.refl _ _).alloc (Nat.le_refl _) o)
end
def eqE (x y:Int × Int):Bool:=decide (x=y)
theorem eqEdge (a b c d:Int) (w:World):(binOp .eql 98 (.agg #[.int .i64 a,.int .i64 b]) (.agg #[.int .i64 c,.int .i64 d])).run Tryz.prog w=.ok (.bool (eqE (a,b) (c,d))) w:=by
 have u3:=Tryz.underlying3
 have a3:=Tryz.isAgg3
 have z3:=Tryz.sizeOf3
 have hS:Tryz.prog.underlying 98=some (.struct (Tryz.prog.fieldsOf 98)):=by kernel_rfl
 have hp:Tryz.prog.stoodInHeld 98=false:=by kernel_rfl
 rw [run_eql_struct,show (10000:Nat)=9999+1 from rfl,run_equalIn_agg w 9999 98 _ _ hS hp]
 simp only [Program.fieldsOf,Tryz.underlying98]
 go_simp
 by_cases h1:a=c <;> by_cases h2:b=d <;> simp [h1,h2,eqE]
theorem neqEdge (a b c d:Int) (w:World):(binOp .neq 98 (.agg #[.int .i64 a,.int .i64 b]) (.agg #[.int .i64 c,.int .i64 d])).run Tryz.prog w=.ok (.bool (!eqE (a,b) (c,d))) w:=by
 have h:=eqEdge a b c d w
 rw [run_eql_struct] at h
 rw [run_neq_struct]
 generalize (Op.equalIn 10000 98 (.agg #[.int .i64 a,.int .i64 b]) (.agg #[.int .i64 c,.int .i64 d])).run Tryz.prog w=r at h ⊢
 cases r with
 | ok x w1=>simp only [Result.andThen_ok,Result.ok.injEq,Value.bool.injEq] at h ⊢;rw [h.1,h.2];simp
 | halt x w1=>simp [Result.andThen] at h
theorem guardEdge (op:BinOp) (x y:Operand) (xs ys:Array Value) (w:World):(eqGuard op 98 x y (.agg xs) (.agg ys)).run Tryz.prog w=.ok () w:=run_eqGuard_agg w op 98 x y xs ys (by kernel_rfl)
attribute [local go_sem ↓] eqEdge neqEdge guardEdge
end
section
open Go Go.RowKit
def cmpI (x y:Int):Int:=if x<y then -1 else if x=y then 0 else 1
def orI (x y:Int):Int:=if x=0 then y else x
def cmpE (a b:Int × Int):Int:=orI (cmpI a.1 b.1) (cmpI a.2 b.2)
theorem ret_int {k:IntKind} {a b:Int} (h:a=b):Ending.returned (.int k a)=.returned (.int k b):=by rw [h]
theorem CompareInt (x y:Int) (w:World):Calls Tryz.prog 217 #[.int .i64 x,.int .i64 y] w fun e w'=>e=.returned (.int .i64 (cmpI x y))∧w'=w:=by
 have hx:(x != x)=false:=by simp
 have hy:(y != y)=false:=by simp
 by_cases h1:x<y
 ·have h2:Hid (cmpI x y = -1):=by unfold Hid cmpI;simp [h1]
  go_enter Tryz.func217,Tryz.ntmps217
  go_wp2
  go_ret
  exact⟨ret_int h2.out.symm,rfl⟩
 ·by_cases h3:y<x
  ·have h2:Hid (cmpI x y=1):=by unfold Hid cmpI;rw [if_neg h1,if_neg (by omega)]
   go_enter Tryz.func217,Tryz.ntmps217
   go_wp2
   go_ret
   exact⟨ret_int h2.out.symm,rfl⟩
  ·have h4:x=y:=by omega
   subst h4
   have h2:Hid (cmpI x x=0):=by unfold Hid cmpI;simp
   go_enter Tryz.func217,Tryz.ntmps217
   go_wp2
   go_ret
   exact⟨ret_int h2.out.symm,rfl⟩
theorem OrInt (b:Nat) (x y:Int) (w:World) (h0:w.cell? ⟨b,0,none⟩=some (.int .i64 x)) (h1:w.cell? ⟨b,1,none⟩=some (.int .i64 y)) :
  Calls Tryz.prog 216 #[.slice (some ⟨b,0,none⟩) 2 2] w fun e w'=>e=.returned (.int .i64 (orI x y))∧w'=w:=by
 by_cases hx:x=0
 ·have h2:Hid (orI x y=y):=by unfold Hid orI;rw [if_pos hx]
  have hx2:(x != 0)=false:=by simp [hx]
  have HX:=Lib.hid hx;clear hx
  by_cases hy:y=0
  ·have hy2:(y != 0)=false:=by simp [hy]
   have HY:=Lib.hid hy;clear hy
   go_enter Tryz.func216,Tryz.ntmps216
   go_wp2
   refine wp_loop_rounds 3 ?_
   rw [rounds_succ]
   go_wp2
   rw [rounds_succ]
   go_wp2
   rw [rounds_succ]
   go_wp2
   go_ret
   exact⟨ret_int (by rw [h2.out,HY.out]),rfl⟩
  ·have hy2:(y != 0)=true:=by simp [hy]
   have HY:=Lib.hid hy;clear hy
   go_enter Tryz.func216,Tryz.ntmps216
   go_wp2
   refine wp_loop_rounds 2 ?_
   rw [rounds_succ]
   go_wp2
   rw [rounds_succ]
   go_wp2
   go_ret
   exact⟨ret_int h2.out.symm,rfl⟩
 ·have h2:Hid (orI x y=x):=by unfold Hid orI;rw [if_neg hx]
  have hx2:(x != 0)=true:=by simp [hx]
  have HX:=Lib.hid hx;clear hx
  go_enter Tryz.func216,Tryz.ntmps216
  go_wp2
  refine wp_loop_rounds 1 ?_
  rw [rounds_succ]
  go_wp2
  go_ret
  exact⟨ret_int h2.out.symm,rfl⟩
end
section
open Go Go.RowKit Go.Shelf Go.Lib Go.Sort
def encP (x:Int × Int):List Value:=[.int .i64 x.1,.int .i64 x.2]
theorem grow3 (W:World) (o1 o2 o3:Obj):(((W.alloc o1).alloc o2).alloc o3).drew=grow (W.drewN 1) #[o1,o2,o3]:=by
 rw [alloc_eq_grow,alloc_eq_grow,alloc_eq_grow,grow_grow,grow_grow];rfl
theorem EdgesLit (x y:Int × Int) (W:World):Calls Tryz.prog 223 #[.agg #[.int .i64 x.1,.int .i64 x.2],.agg #[.int .i64 y.1,.int .i64 y.2]] W fun e w'=>e=.returned (.int .i64 (cmpE x y))∧∃ q os',w'=grow (W.drewN q) os':=by
 have HC1:=Lib.hid (fun W'=>CompareInt x.1 y.1 W')
 have HC2:=Lib.hid (fun W'=>CompareInt x.2 y.2 W')
 obtain⟨c1,h1⟩:∃ c,c=cmpI x.1 y.1:=⟨_,rfl⟩
 obtain⟨c2,h2⟩:∃ c,c=cmpI x.2 y.2:=⟨_,rfl⟩
 rw [← h1] at HC1
 rw [← h2] at HC2
 have HF:Hid (cmpE x y=orI c1 c2):=by unfold Hid cmpE;rw [h1,h2]
 clear h1 h2
 go_enter Tryz.func223,Tryz.ntmps223
 go_wp2
 obtain⟨w0,hw0⟩:∃ w0,w0=(W.alloc (.cells #[.int .i64 x.1,.int .i64 x.2] 98)).alloc (.cells #[.int .i64 y.1,.int .i64 y.2] 98):=⟨_,rfl⟩
 rw [← hw0]
 have a0:w0.cell? ⟨W.heap.size,0,none⟩=some (.int .i64 x.1):=by rw [hw0];simp
 have a1:w0.cell? ⟨W.heap.size,1,none⟩=some (.int .i64 x.2):=by rw [hw0];simp
 have a2:w0.cell? ⟨W.heap.size+1,0,none⟩=some (.int .i64 y.1):=by rw [hw0];have:=cellnew0 (W.alloc (.cells #[.int .i64 x.1,.int .i64 x.2] 98)) (.int .i64 y.1) [.int .i64 y.2] 98;rwa [World.size_alloc] at this
 have a3:w0.cell? ⟨W.heap.size+1,1,none⟩=some (.int .i64 y.2):=by rw [hw0];have:=cellnew1 (W.alloc (.cells #[.int .i64 x.1,.int .i64 x.2] 98)) (.int .i64 y.1) (.int .i64 y.2) [] 98;rwa [World.size_alloc] at this
 have HW0:=Lib.hid hw0;clear hw0
 refine wp_region_still_tail 10 (by kernel_rfl) (by kernel_rfl) ?_
 simp only [List.take_succ_cons,List.take_zero,List.drop_succ_cons,List.drop_zero]
 iterate 4 still_step
 still_call (HC1.out _)
 iterate 4 still_step
 still_call (HC2.out _)
 refine wpStill_nil ?_
 change wpList _ _ _ _ _ w0.drew
 go_wp2_with (go_at_call 216;refine(OrInt _ c1 c2 _ (by simp) (by simp)).mono ?_;rintro e w' ⟨rfl,rfl⟩)
 go_ret
 exact⟨ret_int HF.out.symm,1,#[_,_,_],by rw [HW0.out];exact grow3 _ _ _ _⟩
theorem ltOf_cmpE (x y:Int × Int):ltOf cmpE x y=lessE x y:=by
 unfold ltOf cmpE orI cmpI lessE
 rw [Bool.eq_iff_iff]
 simp only [decide_eq_true_eq]
 by_cases a:x.1<y.1 <;> by_cases b:x.1=y.1 <;> by_cases c:x.2<y.2 <;> by_cases d:x.2=y.2 <;> simp [a,b,c,d] <;> omega
theorem swoE:SWO (ltOf cmpE) where
 irrefl x:=by rw [ltOf_cmpE];simp [lessE]
 trans x y z h1 h2:=by rw [ltOf_cmpE] at *;simp only [lessE,decide_eq_true_eq] at *;omega
 ntrans x y z h1 h2:=by rw [ltOf_cmpE] at *;simp only [lessE,decide_eq_false_iff_not] at *;omega
theorem totE (x y:Int × Int) (h1:ltOf cmpE x y=false) (h2:ltOf cmpE y x=false):x=y:=by
 rw [ltOf_cmpE] at *;simp only [lessE,decide_eq_false_iff_not] at *
 exact Prod.ext (by omega) (by omega)
def sortBy {α:Type} (lt:α→α→Bool) (l:List α):List α:=l.mergeSort fun x y=>!lt y x
theorem sortBy_len {α:Type} (lt:α→α→Bool) (l:List α):(sortBy lt l).length=l.length:=by unfold sortBy;exact List.length_mergeSort l
theorem row_put (w:World) (g:Nat) (cur:Array Value) (e:TypeId) (m:Nat) (F:Array Value) (os:Array Obj) (hg:w.heap[g]?=some (.cells cur e (0,0))) :
  (grow (putRow id (Sort.ahead w m) g 0 F) os).heap[g]?=some (.cells (putCells id 0 F cur) e (0,0))∧w.grownBy (grow (putRow id (Sort.ahead w m) g 0 F) os) (some g):=by
 have hlt:g<w.heap.size:=(Array.getElem?_eq_some_iff.1 hg).1
 have hsz:(putRow id (Sort.ahead w m) g 0 F).heap.size=w.heap.size:=by simp [putRow,mapBlock,Sort.ahead]
 refine⟨?_,⟨rfl,rfl,rfl,by simp [grow,putRow,mapBlock,Sort.ahead],fun k hk hne=>?_⟩⟩
 ·rw [heap_grow_old _ _ (by rw [hsz];exact hlt)]
  simp [putRow,mapBlock,Sort.ahead,Array.getElem?_modify,hg,onCells]
 ·rw [heap_grow_old _ _ (by rw [hsz];exact hk)]
  simp only [putRow,mapBlock,Sort.ahead,Array.getElem?_modify]
  rw [if_neg (by intro e;exact hne (by rw [e]))]
theorem putCells_take (F cur:Array Value) (h:F.size≤cur.size):(putCells id 0 F cur).size=cur.size∧(putCells id 0 F cur).toList.take F.size=F.toList:=by
 refine⟨by simp [putCells],?_⟩
 apply List.ext_getElem?
 intro i
 rw [List.getElem?_take]
 by_cases hi:i<F.size
 ·rw [if_pos hi]
  have hic:i<cur.size:=by omega
  simp only [putCells,Nat.zero_add,Nat.sub_zero,Array.getElem?_toList,Array.getElem?_mapIdx,Array.getElem?_eq_getElem hic,Option.map_some]
  rw [if_pos ⟨Nat.zero_le _,hi⟩,Array.getElem?_eq_getElem hi,getElem!_pos _ i hi];rfl
 ·rw [if_neg hi,List.getElem?_eq_none (by simp;omega)]
theorem flatK_encP (l:List (Int × Int)):(flatK encP 2 l.toArray).toList=encE l:=by
 apply List.ext_getElem?
 intro t
 by_cases ht:t<l.length*2
 ·have h1:t<(flatK encP 2 l.toArray).size:=by simp;omega
  have hk:t / 2<l.length:=by omega
  have hx:(flatK encP 2 l.toArray)[t]! = (encP (nth l (t / 2)))[t % 2]!:=by
   rw [get_flatK encP 2 l.toArray t (by simpa using ht)]
   have:l.toArray[t / 2]! = nth l (t / 2):=by rw [getElem!_pos _ _ (by simpa using hk),nth_eq hk];simp
   rw [this]
  have hy:=encE_get l (t / 2) hk
  rw [Array.getElem?_toList,Array.getElem?_eq_getElem h1,← getElem!_pos _ t h1,hx]
  have hl:=encE_len l
  rw [List.getElem?_eq_getElem (by omega)]
  congr 1
  have hz:(encE l).getD t undef=(encE l)[t]'(by omega):=by rw [List.getD_eq_getElem?_getD,List.getElem?_eq_getElem (by omega)];rfl
  rw [← hz]
  rcases Nat.mod_two_eq_zero_or_one t with h | h
  ·have e:t=t / 2*2:=by omega
   rw [h];conv=>rhs;rw [e]
   rw [hy.1];rfl
  ·have e:t=t / 2*2+1:=by omega
   rw [h];conv=>rhs;rw [e]
   rw [hy.2];rfl
 ·rw [List.getElem?_eq_none (by simp;omega),List.getElem?_eq_none (by rw [encE_len];omega)]
theorem own_put {w:World} {base:Nat} {e:TypeId} {size n c:Nat} {g:Nat} {xs ys:List Value} (ho:w.ownsRow base e size (.slice (some ⟨g,0,none⟩) n c) n xs) (hl:ys.length=n*size) (m:Nat) (os:Array Obj) :
  (grow (putRow id (Sort.ahead w m) g 0 ys.toArray) os).ownsRow base e size (.slice (some ⟨g,0,none⟩) n c) n ys∧w.grownBy (grow (putRow id (Sort.ahead w m) g 0 ys.toArray) os) (some g):=by
 rcases ho.2 with ⟨h1,_⟩ | ⟨g',cap,cur,h1,hb,hh,hn,hm,hs,ht⟩
 ·cases h1
 ·injection h1 with h1 _ h3
  injection h1 with h1
  injection h1 with h1
  subst h1;subst h3
  obtain⟨r1,r2⟩:=row_put w g cur e m ys.toArray os hh
  have hle:ys.toArray.size≤cur.size:=by simp only [List.size_toArray];rw [hl,hs];exact Nat.mul_le_mul_right _ hn
  obtain⟨s1,s2⟩:=putCells_take ys.toArray cur hle
  refine⟨⟨hl,.inr ⟨g,c,_,rfl,hb,r1,hn,hm,by rw [s1];exact hs,?_⟩⟩,r2⟩
  rw [← hl];simpa using s2
theorem SortE (base:Nat) (q:Option Addr) (n c:Nat) (l:List (Int × Int)) (w:World) (ho:w.ownsRow base 98 2 (.slice q n c) n (encE l)) (hn:n≤1000000) (hb:base≤w.heap.size) :
  Calls Tryz.prog 258 #[.slice q n c,.func (.func 223) #[] #[]] w fun e w' =>
   e=.returned (.tuple #[])∧w'.ownsRow base 98 2 (.slice q n c) n (encE (sortBy lessE l))∧w.grownBy w' (blkOf q)∧Below base w w':=by
 have hl:n=l.length:=by have:=ho.1;rw [encE_len] at this;omega
 by_cases h0:n=0
 ·subst h0
  have hnil:l=[]:=List.eq_nil_of_length_eq_zero hl.symm
  subst hnil
  refine(AnyF.slices_SortFunc_none { Tryz.sortE with } q c (.func (.func 223) #[] #[]) w).mono ?_
  rintro e w' ⟨he,rfl⟩
  exact⟨he,by simpa [sortBy] using ho,World.grownBy.refl _ _,Below.refl _ _⟩
 ·obtain⟨g,hq,hg⟩:∃ g,q=some ⟨g,0,none⟩∧g<w.heap.size:=by
   obtain⟨p,c',h1,h2,_⟩:=own_form ho
   injection h1 with h1
   rcases h2 with h2 | ⟨g,h2,_,h3⟩
   ·exfalso
    rcases ho.2 with ⟨_,h4⟩ | ⟨g',cap,cur,h4,_⟩
    ·exact h0 h4
    ·injection h4 with h4;rw [h1,h2] at h4;cases h4
   ·exact⟨g,by rw [h1,h2],h3⟩
  subst hq
  have eg:∀ args w,(callFunc 223 args).run Tryz.prog w=.ok (.enter 223 args) w:=enters_of Tryz.func223 (by kernel_rfl) rfl
  have hH:HoldsK encP 2 w g 0 l.toArray:=by
   intro j hj
   have hj2:j<n*2:=by simp at hj;omega
   have r:=Rd.of_own ho (by omega)
   have hc:=r.cells j hj2
   rw [adr_some] at hc
   have hv:(flatK encP 2 l.toArray)[j]! = (encE l).getD j undef:=by
    rw [getElem!_pos _ j hj,← flatK_encP,List.getD_eq_getElem?_getD,Array.getElem?_toList,Array.getElem?_eq_getElem hj];rfl
   refine⟨by rw [hv];exact hc,?_⟩
   rcases ho.2 with ⟨h1,_⟩ | ⟨g',cap,cur,h1,_,hh,_⟩
   ·cases h1
   ·injection h1 with h1;injection h1 with h1;injection h1 with h1;subst h1
    simp [World.frozen?,hh]
  have hcon:=AnyQ.slices_SortFunc_total Tryz.sortE 2 Tryz.isAgg98 Tryz.sizeOf98 encP (fun _=>rfl) (fun x v hv=>by simp [encP] at hv;rcases hv with rfl | rfl <;> rfl) cmpE swoE 223 #[] g 0 c l.toArray w eg
   (fun m os dk hs x y=>EdgesLit x y _) hH hg (by simp;omega) totE
  have hsz:l.toArray.size=n:=by simp [hl]
  rw [hsz] at hcon
  refine hcon.mono ?_
  rintro e w' ⟨he,m,os,rfl⟩
  have e1:(fun x y=>!(ltOf cmpE) y x)=fun x y:Int × Int=>!lessE y x:=by funext x y;rw [ltOf_cmpE]
  have e2:(flatK encP 2 (l.toArray.toList.mergeSort fun x y=>!(ltOf cmpE) y x).toArray)=(encE (sortBy lessE l)).toArray:=by
   apply Array.toList_inj.1
   rw [flatK_encP,e1];rfl
  have hp:=own_put ho (ys:=encE (sortBy lessE l)) (by rw [encE_len,sortBy_len,hl]) m os
  have e3:sortWorldK encP 2 w g 0 m (l.toArray.toList.mergeSort fun x y=>!(ltOf cmpE) y x).toArray os=grow (putRow id (Sort.ahead w m) g 0 (encE (sortBy lessE l)).toArray) os:=by
   unfold sortWorldK putRowK;rw [e2]
  rw [e3]
  refine⟨he,hp.1,hp.2,Below.grown (Below.refl _ _) hp.2 hb (fun k hk=>?_)⟩
  exact(ho.lt k hk).1
end
section
theorem bl_irrefl:∀ a:List UInt8,Op.bytesLess a a=false
 | []=>rfl
 | a :: x=>by
  have:=bl_irrefl x
  simp only [Op.bytesLess,this,Bool.and_false,Bool.or_false]
  simp
theorem bl_trans:∀ a b c:List UInt8,Op.bytesLess a b=true→Op.bytesLess b c=true→Op.bytesLess a c=true
 | _,_,[],_,h=>by cases ‹List UInt8› <;> simp [Op.bytesLess] at h
 | [],_,_ :: _,_,_=>rfl
 | a :: x,[],_ :: _,h,_=>by simp [Op.bytesLess] at h
 | a :: x,b :: y,c :: z,h,k=>by
  simp only [Op.bytesLess,Bool.or_eq_true,Bool.and_eq_true,decide_eq_true_eq,beq_iff_eq] at h k ⊢
  rcases h with h | ⟨rfl,h⟩
  ·rcases k with k | ⟨rfl,k⟩
   ·left;rw [UInt8.lt_iff_toNat_lt] at *;omega
   ·exact .inl h
  ·rcases k with k | ⟨rfl,k⟩
   ·exact .inl k
   ·exact .inr ⟨rfl,bl_trans x y z h k⟩
theorem bl_tri:∀ a b:List UInt8,Op.bytesLess a b=false→Op.bytesLess b a=false→a=b
 | [],[],_,_=>rfl
 | [],_ :: _,h,_=>by simp [Op.bytesLess] at h
 | _ :: _,[],_,h=>by simp [Op.bytesLess] at h
 | a :: x,b :: y,h,k=>by
  simp only [Op.bytesLess,Bool.or_eq_false_iff,Bool.and_eq_false_iff,decide_eq_false_iff_not,beq_eq_false_iff_ne] at h k
  have e:a=b:=by
   apply UInt8.toNat_inj.1
   rw [UInt8.lt_iff_toNat_lt] at h k
   omega
  subst e
  have h2:=h.2
  have k2:=k.2
  simp at h2 k2
  rw [bl_tri x y h2 k2]
theorem cb_lt:∀ a b:List UInt8,decide (Lib.compareBytes a b<0)=Op.bytesLess a b
 | [],[]=>rfl
 | [],_ :: _=>rfl
 | _ :: _,[]=>rfl
 | a :: x,b :: y=>by
  simp only [Lib.compareBytes,Op.bytesLess]
  have ih:=cb_lt x y
  by_cases h:a<b
  ·simp [h]
  ·by_cases h2:b<a
   ·have h3:(a == b)=false:=by rw [beq_eq_false_iff_ne];rintro rfl;rw [UInt8.lt_iff_toNat_lt] at h2;omega
    simp [h,h2,h3]
   ·have h3:a=b:=by apply UInt8.toNat_inj.1;rw [UInt8.lt_iff_toNat_lt] at h h2;omega
    subst h3
    simp only [h,if_false,decide_false,Bool.false_or,beq_self_eq_true,Bool.true_and]
    exact ih
theorem sLess_irrefl (a:ByteArray):sLess a a=false:=bl_irrefl _
theorem sLess_trans (a b c:ByteArray) (h:sLess a b=true) (k:sLess b c=true):sLess a c=true:=bl_trans _ _ _ h k
theorem sLess_tri (a b:ByteArray) (h:sLess a b=false) (k:sLess b a=false):a=b:=str_ext (bl_tri _ _ h k)
end
section
open Go Go.RowKit Go.Shelf Go.Lib Go.Sort
def cmpS (a b:ByteArray):Int:=compareBytes a.data.toList b.data.toList
theorem ltOf_cmpS (x y:ByteArray):ltOf cmpS x y=sLess x y:=by
 unfold ltOf cmpS sLess;rw [ByteArray.toList_eq,ByteArray.toList_eq];exact cb_lt _ _
theorem swoS:SWO (ltOf cmpS) where
 irrefl x:=by rw [ltOf_cmpS];exact sLess_irrefl x
 trans x y z h1 h2:=by rw [ltOf_cmpS] at *;exact sLess_trans x y z h1 h2
 ntrans x y z h1 h2:=by
  rw [ltOf_cmpS] at *
  rw [← Bool.not_eq_true]
  intro h3
  by_cases h4:sLess z y=true
  ·rw [sLess_trans x z y h3 h4] at h1;cases h1
  ·have h5:=sLess_tri y z h2 (by simpa using h4)
   subst h5
   rw [h3] at h1;cases h1
theorem totS (x y:ByteArray) (h1:ltOf cmpS x y=false) (h2:ltOf cmpS y x=false):x=y:=by
 rw [ltOf_cmpS] at *;exact sLess_tri x y h1 h2
theorem CompareS (a b:ByteArray) (w:World):Calls Tryz.prog 220 #[.string a,.string b] w fun e w'=>e=.returned (.int .i64 (cmpS a b))∧w'=w :=
 Any.strings_Compare Tryz.strCmp a b w
theorem own_block {w:World} {base:Nat} {e:TypeId} {size n c:Nat} {q:Option Addr} {xs:List Value} (ho:w.ownsRow base e size (.slice q n c) n xs) (h0:n≠0):∃ g,q=some ⟨g,0,none⟩∧g<w.heap.size:=by
 obtain⟨p,c',h1,h2,_⟩:=own_form ho
 injection h1 with h1
 rcases h2 with h2 | ⟨g,h2,_,h3⟩
 ·exfalso
  rcases ho.2 with ⟨_,h4⟩ | ⟨g',cap,cur,h4,_⟩
  ·exact h0 h4
  ·injection h4 with h4;rw [h1,h2] at h4;cases h4
 ·exact⟨g,by rw [h1,h2],h3⟩
theorem own_free {w:World} {base:Nat} {e:TypeId} {size n c g:Nat} {xs:List Value} (ho:w.ownsRow base e size (.slice (some ⟨g,0,none⟩) n c) n xs) (j:Nat):w.frozen? ⟨g,j,none⟩=false:=by
 rcases ho.2 with ⟨h1,_⟩ | ⟨g',cap,cur,h1,_,hh,_⟩
 ·cases h1
 ·injection h1 with h1;injection h1 with h1;injection h1 with h1;subst h1
  simp [World.frozen?,hh]
theorem holdsS {w:World} {base n c g:Nat} {l:List ByteArray} (ho:w.ownsRow base 9 1 (.slice (some ⟨g,0,none⟩) n c) n (encS l)) (hn:n≤1000000):Holds Value.string w g 0 l.toArray:=by
 intro j hj
 have hl:n=l.length:=by have:=ho.1;rw [encS_len] at this;omega
 have r:=Rd.of_own ho (by omega)
 have hj2:j<n:=by simp at hj;omega
 have hc:=r.cS hj2
 rw [adr_some] at hc
 refine⟨?_,own_free ho _⟩
 rw [hc,getElem!_pos _ j hj,nth_eq (by omega)];simp
theorem putRow_map (w:World) (g:Nat) (l:List ByteArray):putRow Value.string w g 0 l.toArray=putRow id w g 0 (encS l).toArray:=by
 unfold putRow
 congr 1
 funext c
 unfold putCells
 apply Array.ext_getElem?
 intro k
 simp only [Array.getElem?_mapIdx]
 cases c[k]? with
 | none=>rfl
 | some x =>
  simp only [Option.map_some,Nat.zero_add,Nat.sub_zero,Nat.zero_le,true_and]
  congr 1
  have hs:(encS l).toArray.size=l.toArray.size:=by simp [encS]
  rw [hs]
  by_cases h:k<l.toArray.size
  ·rw [if_pos h,if_pos h,getElem!_pos _ k h,getElem!_pos _ k (by rw [hs];exact h)]
   simp [encS]
  ·rw [if_neg h,if_neg h]
theorem SortS (base:Nat) (q:Option Addr) (n c:Nat) (l:List ByteArray) (w:World) (ho:w.ownsRow base 9 1 (.slice q n c) n (encS l)) (hn:n≤1000000) (hb:base≤w.heap.size) :
  Calls Tryz.prog 261 #[.slice q n c,.func (.func 220) #[] #[]] w fun e w' =>
   e=.returned (.tuple #[])∧w'.ownsRow base 9 1 (.slice q n c) n (encS (sortBy sLess l))∧w.grownBy w' (blkOf q)∧Below base w w':=by
 have hl:n=l.length:=by have:=ho.1;rw [encS_len] at this;omega
 by_cases h0:n=0
 ·subst h0
  have hnil:l=[]:=List.eq_nil_of_length_eq_zero hl.symm
  subst hnil
  refine(AnyF.slices_SortFunc_none { Tryz.sortS with } q c (.func (.func 220) #[] #[]) w).mono ?_
  rintro e w' ⟨he,rfl⟩
  exact⟨he,by simpa [sortBy] using ho,World.grownBy.refl _ _,Below.refl _ _⟩
 ·obtain⟨g,hq,hg⟩:=own_block ho h0
  subst hq
  have eg:∀ args w,(callFunc 220 args).run Tryz.prog w=.ok (.enter 220 args) w:=enters_of Tryz.func220 (by kernel_rfl) rfl
  have hcon:=Any.slices_SortFunc_total Tryz.sortS Value.string (fun _=>rfl) cmpS swoS 220 #[] g 0 c l.toArray w eg
   (fun m os dk hs x y=>(CompareS x y _).mono fun _ _ ⟨he,hw⟩=>⟨he,0,#[],by rw [hw,grow_empty];rfl⟩) (holdsS ho hn) hg (by simp;omega) totS
  have hsz:l.toArray.size=n:=by simp [hl]
  rw [hsz] at hcon
  refine hcon.mono ?_
  rintro e w' ⟨he,m,os,rfl⟩
  have e1:(fun x y=>!(ltOf cmpS) y x)=fun x y:ByteArray=>!sLess y x:=by funext x y;rw [ltOf_cmpS]
  have hp:=own_put ho (ys:=encS (sortBy sLess l)) (by rw [encS_len,sortBy_len,hl,Nat.mul_one]) m os
  have e3:sortWorld Value.string w g 0 m (l.toArray.toList.mergeSort fun x y=>!(ltOf cmpS) y x).toArray os=grow (putRow id (Sort.ahead w m) g 0 (encS (sortBy sLess l)).toArray) os:=by
   unfold sortWorld;rw [putRow_map,e1];rfl
  rw [e3]
  exact⟨he,hp.1,hp.2,Below.grown (Below.refl _ _) hp.2 hb (fun k hk=>(ho.lt k hk).1)⟩
def dedup {α:Type} [DecidableEq α] [Inhabited α] (l:List α):List α:=compactUpTo l.toArray l.length
theorem strEql:EqlAt Tryz.prog 9 Value.string (fun x y=>decide (x=y)):=by
 have h:=EqlAt.string Tryz.prog 9
 have e:(fun x y:ByteArray=>x.toList == y.toList)=fun x y=>decide (x=y):=by funext x y;exact str_beq x y
 rwa [e] at h
theorem strNeq:NeqAt Tryz.prog 9 Value.string (fun x y=>decide (x=y)):=by
 have h:=NeqAt.string Tryz.prog 9
 have e:(fun x y:ByteArray=>x.toList == y.toList)=fun x y=>decide (x=y):=by funext x y;exact str_beq x y
 rwa [e] at h
theorem own_take {w:World} {base:Nat} {e:TypeId} {size n c k:Nat} {q:Option Addr} {xs ys:List Value} (ho:w.ownsRow base e size (.slice q n c) n (xs ++ ys)) (hk:xs.length=k*size) (hkn:k≤n):w.ownsRow base e size (.slice q k c) k xs:=by
 refine⟨hk,?_⟩
 rcases ho.2 with ⟨h1,h2⟩ | ⟨g',cap,cur,h1,hb,hh,hn,hm,hs,ht⟩
 ·injection h1 with h1 _ h3;subst h1;subst h3
  left
  have:k=0:=by omega
  subst this
  exact⟨rfl,rfl⟩
 ·injection h1 with h1 _ h3;subst h1;subst h3
  right
  refine⟨g',c,cur,rfl,hb,hh,Nat.le_trans hkn hn,hm,hs,?_⟩
  have h5:=congrArg (List.take (k*size)) ht
  rw [List.take_take,Nat.min_eq_left (Nat.mul_le_mul_right _ hkn),← hk,List.take_left] at h5
  rw [← hk];exact h5
theorem CompactS0 (q:Option Addr) (c:Nat) (w:World):Calls Tryz.prog 262 #[.slice q 0 c] w fun e w'=>e=.returned (.slice q 0 c)∧w'=w:=by
 go_enter Tryz.func262,Tryz.ntmps262
 go_wp2
 go_ret
 exact⟨rfl,rfl⟩
theorem CompactSC (base:Nat) (q:Option Addr) (n c:Nat) (l:List ByteArray) (w:World) (ho:w.ownsRow base 9 1 (.slice q n c) n (encS l)) (hn:n≤1000000) (hb:base≤w.heap.size) :
  Calls Tryz.prog 262 #[.slice q n c] w fun e w'=>e=.returned (.slice q (dedup l).length c)∧w'.ownsRow base 9 1 (.slice q (dedup l).length c) (dedup l).length (encS (dedup l))∧w.grownBy w' (blkOf q)∧Below base w w':=by
 have hl:n=l.length:=by have:=ho.1;rw [encS_len] at this;omega
 by_cases h0:n=0
 ·subst h0
  have hnil:l=[]:=List.eq_nil_of_length_eq_zero hl.symm
  subst hnil
  refine(CompactS0 q c w).mono ?_
  rintro e w' ⟨he,rfl⟩
  exact⟨he,ho,World.grownBy.refl _ _,Below.refl _ _⟩
 ·obtain⟨g,hq,hg⟩:=own_block ho h0
  subst hq
  have hcon:=AnyE.slices_Compact Tryz.compS Value.string (fun _=>rfl) strEql strNeq ByteArray.empty (fun w=>by kernel_rfl) g 0 c l.toArray w (holdsS ho hn) (by simp;omega) (by have:=own_cap ho;simp;omega)
  have hsz:l.toArray.size=n:=by simp [hl]
  rw [hsz] at hcon
  refine hcon.mono ?_
  rintro e w' ⟨he,m,rfl⟩
  have hd:compactUpTo l.toArray n=dedup l:=by unfold dedup;rw [hl]
  rw [hd] at he ⊢
  have hdl:(dedup l).length≤n:=by
   unfold dedup compactUpTo;rw [hl,List.length_map]
   exact Nat.le_trans (List.length_filter_le _ _) (by simp)
  have e3:putRow Value.string (Sort.ahead w m) g 0 (dedup l ++ List.replicate (n - (dedup l).length) ByteArray.empty).toArray=grow (putRow id (Sort.ahead w m) g 0 (encS (dedup l) ++ encS (List.replicate (n - (dedup l).length) ByteArray.empty)).toArray) #[]:=by
   rw [putRow_map,grow_empty];simp [encS]
  rw [e3]
  have hp:=own_put ho (ys:=encS (dedup l) ++ encS (List.replicate (n - (dedup l).length) ByteArray.empty)) (by rw [List.length_append,encS_len,encS_len,List.length_replicate];omega) m #[]
  exact⟨he,own_take hp.1 (by rw [encS_len,Nat.mul_one]) hdl,hp.2,Below.grown (Below.refl _ _) hp.2 hb (fun k hk=>(ho.lt k hk).1)⟩
end
section
open Go Go.Lib
structure STO {α:Type} (lt:α→α→Bool):Prop where
 irrefl:∀ a,lt a a=false
 trans:∀ a b c,lt a b=true→lt b c=true→lt a c=true
 tri:∀ a b,lt a b=false→lt b a=false→a=b
theorem stoE:STO lessE where
 irrefl a:=by simp [lessE]
 trans a b c h k:=by simp only [lessE,decide_eq_true_eq] at *;omega
 tri a b h k:=by
  simp only [lessE,decide_eq_false_iff_not] at *
  exact Prod.ext (by omega) (by omega)
theorem stoS:STO sLess:=⟨sLess_irrefl,sLess_trans,sLess_tri⟩
section
variable {α:Type} {lt:α→α→Bool}
theorem STO.asymm (h:STO lt) {a b:α} (k:lt a b=true):lt b a=false:=by
 cases hb:lt b a with
 | false=>rfl
 | true=>have:=h.trans a b a k hb;rw [h.irrefl] at this;cases this
theorem STO.le_lt (h:STO lt) {a b c:α} (k:lt b a=false) (m:lt b c=true):lt a c=true:=by
 cases hab:lt a b with
 | true=>exact h.trans a b c hab m
 | false=>have:=h.tri a b hab k;subst this;exact m
abbrev Rises (lt:α→α→Bool) (l:List α):Prop:=l.Pairwise fun a b=>lt a b=true
theorem rises_uniq (h:STO lt):∀ l m:List α,Rises lt l→Rises lt m→(∀ x,x∈l↔x∈m)→l=m:=by
 intro l
 induction l with
 | nil =>
  intro m _ _ hm
  exact(List.eq_nil_iff_forall_not_mem.2 fun x hx=>by have:=(hm x).2 hx;cases this).symm
 | cons a l ih =>
  intro m hl hm hmem
  cases m with
  | nil=>have:=(hmem a).1 (List.mem_cons_self ..);cases this
  | cons b m =>
   have hl1:=List.pairwise_cons.1 hl
   have hm1:=List.pairwise_cons.1 hm
   have hab:a=b:=by
    rcases List.mem_cons.1 ((hmem a).1 (List.mem_cons_self ..)) with h1 | h1
    ·exact h1
    ·rcases List.mem_cons.1 ((hmem b).2 (List.mem_cons_self ..)) with h2 | h2
     ·exact h2.symm
     ·have h3:=hm1.1 a h1
      have h4:=hl1.1 b h2
      rw [h.asymm h3] at h4;cases h4
   subst hab
   rw [ih m hl1.2 hm1.2 (fun x=>?_)]
   constructor
   ·intro hx
    rcases List.mem_cons.1 ((hmem x).1 (List.mem_cons_of_mem _ hx)) with h1 | h1
    ·subst h1;have:=hl1.1 x hx;rw [h.irrefl] at this;cases this
    ·exact h1
   ·intro hx
    rcases List.mem_cons.1 ((hmem x).2 (List.mem_cons_of_mem _ hx)) with h1 | h1
    ·subst h1;have:=hm1.1 x hx;rw [h.irrefl] at this;cases this
    ·exact h1
variable [DecidableEq α]
theorem putL_cons (l:List α) (a x:α):putL lt (a :: l) x=if lt a x=true then a :: putL lt l x else if a=x then a :: l else x :: a :: l:=by
 unfold putL ahead
 rw [List.takeWhile_cons]
 by_cases h:lt a x=true
 ·simp only [h,if_true,List.length_cons,List.getElem?_cons_succ,List.take_succ_cons,List.drop_succ_cons]
  split <;> simp_all
 ·simp only [h]
  split <;> simp_all
theorem putL_nil (x:α):putL lt [] x=[x]:=by simp [putL,ahead]
theorem putL_mem (l:List α) (x y:α):y∈putL lt l x↔y=x∨y∈l:=by
 induction l with
 | nil=>rw [putL_nil];simp
 | cons a l ih =>
  rw [putL_cons]
  by_cases h:lt a x=true
  ·rw [if_pos h,List.mem_cons,ih,List.mem_cons]
   constructor
   ·rintro(h1 | h1 | h1)
    ·exact .inr (.inl h1)
    ·exact .inl h1
    ·exact .inr (.inr h1)
   ·rintro(h1 | h1 | h1)
    ·exact .inr (.inl h1)
    ·exact .inl h1
    ·exact .inr (.inr h1)
  ·rw [if_neg h]
   by_cases e:a=x
   ·rw [if_pos e];subst e;simp
   ·rw [if_neg e];simp
theorem putL_rises (h:STO lt) (l:List α) (x:α) (hl:Rises lt l):Rises lt (putL lt l x):=by
 induction l with
 | nil=>rw [putL_nil];exact List.pairwise_singleton _ _
 | cons a l ih =>
  have hl1:=List.pairwise_cons.1 hl
  rw [putL_cons]
  by_cases hax:lt a x=true
  ·rw [if_pos hax]
   refine List.pairwise_cons.2 ⟨fun y hy=>?_,ih hl1.2⟩
   rcases (putL_mem l x y).1 hy with h1 | h1
   ·subst h1;exact hax
   ·exact hl1.1 y h1
  ·rw [if_neg hax]
   by_cases e:a=x
   ·rw [if_pos e];exact hl
   ·rw [if_neg e]
    have hxa:lt x a=true:=by
     cases hx:lt x a with
     | true=>rfl
     | false=>exact absurd (h.tri a x (by simpa using hax) hx) e
    refine List.pairwise_cons.2 ⟨fun y hy=>?_,hl⟩
    rcases List.mem_cons.1 hy with h1 | h1
    ·subst h1;exact hxa
    ·exact h.trans x a y hxa (hl1.1 y h1)
theorem foldl_put (h:STO lt) (l b:List α) (hb:Rises lt b):Rises lt (l.foldl (putL lt) b)∧∀ y,y∈l.foldl (putL lt) b↔y∈l∨y∈b:=by
 induction l generalizing b with
 | nil=>exact⟨hb,fun y=>by simp⟩
 | cons a l ih =>
  have:=ih (putL lt b a) (putL_rises h b a hb)
  refine⟨this.1,fun y=>?_⟩
  rw [List.foldl_cons,this.2 y,putL_mem,List.mem_cons]
  constructor
  ·rintro(h1 | h1 | h1)
   ·exact .inl (.inr h1)
   ·exact .inl (.inl h1)
   ·exact .inr h1
  ·rintro((h1 | h1) | h1)
   ·exact .inr (.inl h1)
   ·exact .inl h1
   ·exact .inr (.inr h1)
theorem putAll_rises (h:STO lt) (l:List α):Rises lt (putAll lt l):=(foldl_put h l [] List.Pairwise.nil).1
theorem putAll_mem (h:STO lt) (l:List α) (y:α):y∈putAll lt l↔y∈l:=by
 have:=(foldl_put h l [] List.Pairwise.nil).2 y
 simpa [putAll] using this
variable [Inhabited α]
theorem dedup_mem (l:List α) (y:α):y∈dedup l↔y∈l:=by
 unfold dedup compactUpTo
 rw [List.mem_map]
 constructor
 ·rintro⟨j,hj,rfl⟩
  have h1:=(List.mem_filter.1 hj).1
  have h2:=List.mem_range.1 h1
  rw [getElem!_pos _ j (by simpa using h2)]
  simp
 ·intro hy
  obtain⟨j,hj,e⟩:=List.getElem_of_mem hy
  induction j using Nat.strongRecOn with
  | _ j ih =>
   have ej:l.toArray[j]! = y:=by rw [getElem!_pos _ j (by simpa using hj)];simpa using e
   by_cases hk:keeps l.toArray j=true
   ·exact⟨j,List.mem_filter.2 ⟨List.mem_range.2 hj,hk⟩,ej⟩
   ·unfold keeps at hk
    simp only [decide_eq_true_eq] at hk
    obtain⟨h1,h2⟩:=not_or.1 hk
    have h3:l.toArray[j]! = l.toArray[j - 1]!:=Classical.not_not.1 h2
    refine ih (j - 1) (by omega) (by omega) ?_
    rw [ej] at h3
    rw [getElem!_pos _ (j - 1) (by simp;omega)] at h3
    simpa using h3.symm
omit [DecidableEq α] [Inhabited α] in
theorem sortBy_mem (l:List α) (y:α):y∈sortBy lt l↔y∈l:=by unfold sortBy;exact List.mem_mergeSort
omit [DecidableEq α] [Inhabited α] in
theorem sortBy_pairwise (h:STO lt) (l:List α):(sortBy lt l).Pairwise fun a b=>lt b a=false:=by
 have:=List.pairwise_mergeSort (le:=fun x y=>!lt y x) (fun a b c h1 h2=>?_) (fun a b=>?_) l
 ·unfold sortBy
  exact this.imp fun hab=>by simpa using hab
 ·simp only [Bool.not_eq_true'] at h1 h2 ⊢
  cases hca:lt c a with
  | false=>rfl
  | true =>
   have:=h.le_lt (a:=b) (b:=c) (c:=a) h2 hca
   rw [h1] at this;cases this
 ·simp only [Bool.or_eq_true,Bool.not_eq_true']
  cases hba:lt b a with
  | false=>exact .inl rfl
  | true=>exact .inr (h.asymm hba)
theorem dedup_rises (h:STO lt) (l:List α) (hl:l.Pairwise fun a b=>lt b a=false):Rises lt (dedup l):=by
 unfold dedup compactUpTo Rises
 rw [List.pairwise_map,List.pairwise_filter]
 have hp:=List.pairwise_iff_getElem.1 hl
 have hg:∀ i (hi:i<l.length),l.toArray[i]! = l[i]:=fun i hi=>by rw [getElem!_pos _ i (by simpa using hi)];simp
 refine(List.pairwise_lt_range (n:=l.length)).imp_of_mem fun {i j} hi hj hij _ hkj=>?_
 have hj2:=List.mem_range.1 hj
 unfold keeps at hkj
 simp only [decide_eq_true_eq] at hkj
 have hne:l.toArray[j]!≠l.toArray[j - 1]!:=by
  rcases hkj with h0 | h0
  ·omega
  ·exact h0
 rw [hg j hj2,hg (j - 1) (by omega)] at hne
 rw [hg i (by omega),hg j hj2]
 have h1:lt (l[j - 1]'(by omega)) l[j]=true:=by
  cases hx:lt (l[j - 1]'(by omega)) l[j] with
  | true=>rfl
  | false=>exact absurd (h.tri _ _ (hp (j - 1) j (by omega) hj2 (by omega)) hx) hne
 rcases Nat.lt_or_ge i (j - 1) with h2 | h2
 ·exact h.le_lt (hp i (j - 1) (by omega) (by omega) h2) h1
 ·have:i=j - 1:=by omega
  subst this;exact h1
theorem once_putAll (h:STO lt) (l:List α):dedup (sortBy lt l)=putAll lt l :=
 rises_uniq h _ _ (dedup_rises h _ (sortBy_pairwise h l)) (putAll_rises h l) fun x=>by rw [dedup_mem,sortBy_mem,putAll_mem h]
end
end
section
open Go Go.RowKit Go.Maps
theorem zeroB (w:World):(zeroValue 4).run Tryz.prog w=.ok (.bool false) w:=by kernel_rfl
noncomputable def EB:Elm Tryz.prog 4 Bool:=elmB Tryz.prog 4 Tryz.underlying4 zeroB
theorem ofG (p:Option Addr) (n c:Nat) (l:List Int) (w:World) (hl:Rd w 1 p n (encI l)) (hi:∀ x∈l,I64 x) (hn:n≤1000000) :
  Calls Tryz.prog 231 #[.slice p n c] w fun e w'=>∃ b f,e=.returned (.map (some b))∧Sep w w' [.map Tryz.prog 3 EB b n f]∧∀ x,f x=some true↔x∈l:=by
 have p1:=hl.ptr
 have l1:=hl.nI
 have HL:=Lib.hid hl;clear hl
 have L1:=Lib.hid l1;clear l1
 have HI:=Lib.hid hi;clear hi
 have hmm:=@run_makeMap Tryz.prog
 have S0:=Lib.hid ((Sep.start w).mkmap EB (k:=3))
 go_enter Tryz.func231,Tryz.ntmps231
 go_wp2
 go_loopw [5,9] (fun _ i wr=>∃ (k:Nat) (f:Int→Option Bool),k≤n∧i=.int .i64 k∧Sep w wr [.map Tryz.prog 3 EB w.heap.size k f]∧∀ x,f x=some true↔x∈l.take k) (fun _ i _=>n - (intOf i).toNat)
 case atStart=>exact⟨0,_,Nat.zero_le _,rfl,S0.out,fun x=>by simp⟩
 case round =>
  clear S0
  obtain⟨k,f,hk,rfl,S,hf⟩:=hrel
  have HF:=Lib.hid hf;clear hf
  by_cases hlt:k<n
  ·have g1:=S.ext.cell (HL.out.cI hlt)
   have SH:=Lib.hid S;clear S
   have d1:(0:Int)≤k:=by omega
   have d2:(k:Int)<n:=by omega
   have HX:Hid (I64 (nth l k)):=HI.out _ (by rw [nth_eq (by rw [← L1.out];exact hlt)];exact List.getElem_mem _)
   go_wp2_with (at_mapUpdate;go_must (refine wpList_update_sep rfl _ _ _ _ rfl Tryz.underlying3 Tryz.underlying252 rfl SH.out 0 rfl (by omega) (nth l k) true rfl rfl HX.out ?_;intro w1 S1 hg;have S2:=Lib.hid S1;clear S1 hg))
   go_roundw
   case rel=>exact⟨k+1,_,by omega,by go_num,S2.out,fun x=>by
    rw [take_succ_nth l k (by rw [← L1.out];exact hlt),List.mem_append,List.mem_singleton,← HF.out x]
    unfold upF
    by_cases e:x=nth l k <;> simp [e]⟩
   case measure=>simp [intOf];omega
  ·obtain rfl:k=n:=by omega
   have SH:=Lib.hid S;clear S
   go_wp2
   go_ret
   exact⟨_,f,rfl,SH.out,fun x=>by rw [HF.out,List.take_of_length_le (by rw [← L1.out];omega)]⟩
theorem meetG (a b n m:Nat) (f g:Int→Option Bool) (w:World) (hA:MapI Tryz.prog 3 EB a n f w) (hB:MapI Tryz.prog 3 EB b m g w) (hn:n≤1000000) :
  Calls Tryz.prog 189 #[.map (some a),.map (some b)] w fun e w'=>∃ c h,e=.returned (.map (some c))∧Sep w w' [.map Tryz.prog 3 EB c n h]∧∀ x,h x=some true↔f x=some true∧g x=some true:=by
 obtain⟨es,clock,hb,F,hs,hf⟩:=hA.raw
 have HBA:=Lib.hid hb;clear hb
 have HF:=Lib.hid F;clear F
 have HSZ:=Lib.hid hs;clear hs
 have HFN:=Lib.hid hf;clear hf
 have HG:=Lib.hid hB;clear hB
 clear hA
 have hmm:=@run_makeMap Tryz.prog
 have S0:=Lib.hid ((Sep.start w).mkmap EB (k:=3))
 have hlt:a<w.heap.size:=(Array.getElem?_eq_some_iff.1 HBA.out).1
 go_enter Tryz.func189,Tryz.ntmps189
 go_wp2_with (at_range;go_must (refine wpList_range_sep rfl _ _ rfl Tryz.underlying3 Tryz.underlying252 rfl ((S0.out.ext.block a hlt).trans HBA.out) HF.out HSZ.out HFN.out S0.out (w.heap.size+1) (by simp) ?_;intro w1 since seen c0 cnt S1 R hsz he;have S2:=Lib.hid S1;have HR:=Lib.hid R;clear S1 R he))
 go_frame
 go_loopw [6,7] (fun _ _ wr=>∃ since seen c0 cnt left h mm,Sep w wr [.iter (w.heap.size+1) a since seen c0,.map Tryz.prog 3 EB w.heap.size mm h]∧Rng Tryz.prog 3 EB es clock since seen c0 n f left cnt∧mm+cnt≤n∧∀ x,h x=some true↔f x=some true∧g x=some true∧left x=false) (fun _ _ wr=>wr.rangeLeft a (w.heap.size+1))
 case atStart=>exact⟨since,seen,c0,cnt,_,_,0,S2.out,HR.out,by have:=rng_le HR.out;omega,fun x=>by
  constructor
  ·intro h;cases h
  ·rintro⟨h1,_,h3⟩;rw [h1] at h3;cases h3⟩
 case round =>
  clear S2 HR hsz since seen c0 cnt
  obtain⟨since,seen,c0,cnt,left,h,mm,S,R,hmn,hh⟩:=hrel
  have SH:=Lib.hid S;clear S
  have HR:=Lib.hid R;clear R
  have HH:=Lib.hid hh;clear hh
  have HBW:=Lib.hid ((SH.out.ext.block a hlt).trans HBA.out)
  go_wp2_with (at_next;go_must (refine wpList_next_sep rfl _ rfl Tryz.underlying3 rfl HBW.out SH.out 0 rfl HR.out ?_ ?_))
  ·intro hall
   have HALL:=Lib.hid hall;clear hall
   go_wp2
   go_ret
   exact⟨_,h,rfl,(SH.out.pick [1] (by decide) rfl:Sep w _ [.map Tryz.prog 3 EB w.heap.size mm h]).put 0 rfl (.map Tryz.prog 3 EB w.heap.size n h) (World.grownBy.refl _ none) (fun k hk=>by cases hk) ((SH.out.map 1 rfl).mono (by omega)) (fun k hk=>.inl hk),fun x=>by rw [HH.out];simp [HALL.out x]⟩
  ·intro t w1 since' seen' c0' cnt' hx hl hfx S1 R1 hc hsz hb1 hg1 hen
   obtain⟨x,v⟩:=t
   have hlk:=(HG.out.ext S1.ext).lookup Tryz.underlying3 Tryz.underlying252 hx
   have SH1:=Lib.hid S1;clear S1
   have HR1:=Lib.hid R1;clear R1
   have HB1:=Lib.hid hb1;clear hb1
   have HX:=Lib.hid hx;clear hx
   have HL:=Lib.hid hl;clear hl
   have HFX:=Lib.hid hfx;clear hfx
   clear hg1 hsz HBW
   obtain⟨u,hu⟩:∃ u,u=(g x).getD EB.z:=⟨_,rfl⟩
   rw [← hu] at hlk
   have HU:=Lib.hid hu;clear hu
   have hlk2:(Instr.lookup 252 (.map (some b)) (.int .i64 x) false).run Tryz.prog w1=.ok (.bool u) w1:=hlk
   have hen2:(Instr.entry (.pointer (some ⟨w.heap.size+1,0,none⟩))).run Tryz.prog w1=.ok (.tuple #[.int .i64 x,.bool v]) w1:=hen
   clear hlk hen
   cases v with
   | false =>
    go_wp2_with (at_mapUpdate;go_must (refine wpList_update_sep rfl _ _ _ _ rfl Tryz.underlying3 Tryz.underlying252 rfl SH1.out 1 rfl (by omega) x false rfl rfl HX.out ?_;intro w2 S2 hg;have S3:=Lib.hid S2;clear S2 hg))
    go_roundw
    case rel=>exact⟨since',seen',c0',cnt',_,_,mm+1,S3.out,HR1.out,by omega,fun y=>by
     unfold upF
     by_cases e:y=x
     ·subst e;simp [HFX.out]
     ·simp [e,HH.out y]⟩
    case measure=>rw [rng_left ((S3.out.ext.block a hlt).trans HBA.out) (S3.out.iter 0 rfl) HR1.out,rng_left ((SH.out.ext.block a hlt).trans HBA.out) (SH.out.iter 0 rfl) HR.out];exact hc
   | true =>
    go_wp2_with (at_mapUpdate;go_must (refine wpList_update_sep rfl _ _ _ _ rfl Tryz.underlying3 Tryz.underlying252 rfl SH1.out 1 rfl (by omega) x u rfl rfl HX.out ?_;intro w2 S2 hg;have S3:=Lib.hid S2;clear S2 hg))
    go_roundw
    case rel=>exact⟨since',seen',c0',cnt',_,_,mm+1,S3.out,HR1.out,by omega,fun y=>by
     unfold upF
     by_cases e:y=x
     ·subst e
      have hu:=HU.out
      cases hg:g y with
      | none=>rw [hg] at hu;simp [hu,HFX.out];rfl
      | some t=>rw [hg] at hu;simp [hu,HFX.out]
     ·simp [e,HH.out y]⟩
    case measure=>rw [rng_left ((S3.out.ext.block a hlt).trans HBA.out) (S3.out.iter 0 rfl) HR1.out,rng_left ((SH.out.ext.block a hlt).trans HBA.out) (SH.out.iter 0 rfl) HR.out];exact hc
end
section
open Go Go.RowKit Go.Shelf Go.Lib Go.Sort
def ltI (a b:Int):Bool:=decide (a<b)
theorem stoI:STO ltI:=⟨fun a=>by simp [ltI],fun a b c h k=>by simp [ltI] at *;omega,fun a b h k=>by simp [ltI] at *;omega⟩
theorem holdsI {w:World} {base n c g:Nat} {l:List Int} (ho:w.ownsRow base 3 1 (.slice (some ⟨g,0,none⟩) n c) n (encI l)) (hn:n≤1000000):Holds (Value.int .i64) w g 0 l.toArray:=by
 intro j hj
 have hl:n=l.length:=by have:=ho.1;rw [encI_len] at this;omega
 have r:=Rd.of_own ho (by omega)
 have hj2:j<n:=by simp at hj;omega
 have hc:=r.cI hj2
 rw [adr_some] at hc
 refine⟨?_,own_free ho _⟩
 rw [hc,getElem!_pos _ j hj,nth_eq (by omega)];simp
theorem putRow_mapI (w:World) (g:Nat) (l:List Int):putRow (Value.int .i64) w g 0 l.toArray=putRow id w g 0 (encI l).toArray:=by
 unfold putRow
 congr 1
 funext c
 unfold putCells
 apply Array.ext_getElem?
 intro i
 simp only [Array.getElem?_mapIdx]
 cases c[i]? with
 | none=>rfl
 | some v =>
  simp only [Option.map_some]
  by_cases h:i<l.length
  ·simp [encI,h]
  ·simp [encI,h]
def sortI (l:List Int):List Int:=l.mergeSort fun x y=>decide (x≤y)
theorem sortI_len (l:List Int):(sortI l).length=l.length:=by simp [sortI]
theorem sortI_mem (l:List Int) (x:Int):x∈sortI l↔x∈l:=by simp [sortI]
theorem sortI_pairwise (l:List Int):(sortI l).Pairwise fun a b=>a≤b:=by
 have:=List.pairwise_mergeSort (le:=fun x y:Int=>decide (x≤y)) (fun a b c h k=>by simp at *;omega) (fun a b=>by simp;omega) l
 exact this.imp fun h=>by simpa using h
theorem sortI_rises {l:List Int} (h:l.Nodup):Rises ltI (sortI l):=by
 have h1:=sortI_pairwise l
 have h2:(sortI l).Nodup:=(List.mergeSort_perm l _).nodup_iff.2 h
 refine(h1.and h2).imp ?_
 rintro a b ⟨h3,h4⟩
 simp only [ltI,decide_eq_true_eq];omega
theorem sortI_put {l s:List Int} (h:l.Nodup) (hm:∀ x,x∈l↔x∈s):sortI l=putAll ltI s :=
 rises_uniq stoI _ _ (sortI_rises h) (putAll_rises stoI s) fun x=>by rw [sortI_mem,hm,putAll_mem stoI]
theorem SortI (base:Nat) (q:Option Addr) (n c:Nat) (l:List Int) (w:World) (ho:w.ownsRow base 3 1 (.slice q n c) n (encI l)) (hn:n≤1000000) :
  Calls Tryz.prog 268 #[.slice q n c] w fun e w'=>e=.returned (.tuple #[])∧w'.ownsRow base 3 1 (.slice q n c) n (encI (sortI l))∧w.grownBy w' (blkOf q):=by
 have hl:n=l.length:=by have:=ho.1;rw [encI_len] at this;omega
 by_cases h0:n=0
 ·subst h0
  have hnil:l=[]:=List.eq_nil_of_length_eq_zero hl.symm
  subst hnil
  refine(Any.slices_Sort_int_none Tryz.sortI q c w).mono ?_
  rintro e w' ⟨he,rfl⟩
  exact⟨he,by simpa [sortI] using ho,World.grownBy.refl _ _⟩
 ·obtain⟨g,hq,hg⟩:=own_block ho h0
  subst hq
  have hcon:=Any.slices_Sort_int Tryz.sortI g 0 c l w (holdsI ho hn) hg (by omega)
  rw [← hl] at hcon
  refine hcon.mono ?_
  rintro e w' ⟨he,m,os,rfl⟩
  have hp:=own_put ho (ys:=encI (sortI l)) (by rw [encI_len,sortI_len,hl,Nat.mul_one]) m os
  rw [putRow_mapI]
  exact⟨he,hp.1,hp.2⟩
theorem SortI_sep {w0 w:World} {Γ:List Pc} (S:Sep w0 w Γ) (j:Nat) {q:Option Addr} {n c:Nat} {l:List Int} (hj:Γ[j]?=some (.own 3 1 q n c (encI l))) (hn:n≤1000000) :
  Calls Tryz.prog 268 #[.slice q n c] w fun e w'=>e=.returned (.tuple #[])∧Sep w0 w' (Γ.set j (.own 3 1 q n c (encI (sortI l)))) :=
 (SortI _ q n c l w (S.own j hj) hn).mono fun _ _ ⟨he,ho,hg⟩=>⟨he,S.put j hj _ hg (fun _ hk=>hk) (own_base ho (Nat.zero_le _)) fun _ hk=>.inl hk⟩
end
section
open Go Go.RowKit
def depsOf (ops:Array Oper) (i:Nat):List Nat :=
 match ops[i]? with
 | some o=>(o.after.toList.filter (Region.binds .any)).map (·.on)
 | none=>[]
def headB (ops:Array Oper) (n:Nat):Bool :=
 decide (n≤ops.size) && (List.range n).all (fun i=>(depsOf ops i).all (fun j=>decide (j<i)) && (match ops[i]? with | some o=>o.guard.isNone | none=>false)) &&
 (decide (n=ops.size) || (Region.sinkB .any ops n && Region.chainB .any ops n && decide (n<ops.size))) &&
 Region.seqB .any ops (ops.size - n) n (Array.ofFn (n:=ops.size) fun i=>decide (i.val<n))
def upd (vs:Nat→Value) (i:Nat) (v:Value):Nat→Value:=fun j=>if j=i then v else vs j
theorem upd_same (vs:Nat→Value) (i:Nat) (v:Value):upd vs i v i=v:=by simp [upd]
theorem upd_other (vs:Nat→Value) {i j:Nat} (v:Value) (h:j≠i):upd vs i v j=vs j:=by simp [upd,h]
section
variable {P:Program} {ops:Array Oper} {Q:Exit→Act→World→Prop}
def toCome (listed:Array Bool) (n:Nat):Nat:=((List.range n).filter fun i=>!listed.getD i false).length
theorem toCome_set {listed:Array Bool} {n i:Nat} (hi:i<n) (hs:i<listed.size) (hu:listed.getD i false=false):toCome (listed.setIfInBounds i true) n+1=toCome listed n:=by
 unfold toCome
 have key:∀ m,m≤n→((List.range m).filter fun j=>!(listed.setIfInBounds i true).getD j false).length+(if i<m then 1 else 0)=((List.range m).filter fun j=>!listed.getD j false).length:=by
  intro m
  induction m with
  | zero=>intro _;simp
  | succ m ih =>
   intro hm
   have h:=ih (by omega)
   have fl:∀ p:Nat→Bool,(List.filter p [m]).length=if p m then 1 else 0:=by
    intro p;rw [List.filter_cons];split <;> rfl
   rw [List.range_succ,List.filter_append,List.filter_append,List.length_append,List.length_append,fl,fl]
   by_cases e:m=i
   ·subst e
    have h1:(listed.setIfInBounds m true).getD m false=true:=by simp [hs]
    rw [if_neg (Nat.lt_irrefl _)] at h
    rw [h1,hu,if_pos (Nat.lt_succ_self m)]
    simp only [Bool.not_true,Bool.not_false,if_true]
    simp at h ⊢;omega
   ·have h1:(listed.setIfInBounds i true).getD m false=listed.getD m false:=getD_set_ne false (Ne.symm e)
    rw [h1]
    by_cases c:i<m
    ·rw [if_pos c] at h;rw [if_pos (by omega:i<m+1)];omega
    ·rw [if_neg c] at h;rw [if_neg (by omega:¬ i<m+1)];omega
 have:=key n (Nat.le_refl _)
 rw [if_pos hi] at this
 exact this
theorem toCome_zero {listed:Array Bool} {n:Nat} (h:toCome listed n=0):∀ i,i<n→listed.getD i false=true:=by
 intro i hi
 unfold toCome at h
 have h1:=List.eq_nil_of_length_eq_zero h
 rw [List.filter_eq_nil_iff] at h1
 have:=h1 i (List.mem_range.2 hi)
 simpa using this
theorem toCome_pos {listed:Array Bool} {n:Nat} (h:0<toCome listed n):∃ i,i<n∧listed.getD i false=false∧∀ j,j<i→listed.getD j false=true:=by
 have hex:∃ i,i<n∧listed.getD i false=false:=by
  unfold toCome at h
  obtain⟨x,hx⟩:=List.exists_mem_of_length_pos h
  rw [List.mem_filter] at hx
  exact⟨x,List.mem_range.1 hx.1,by simpa using hx.2⟩
 obtain⟨i,hi,hu⟩:=hex
 induction i using Nat.strongRecOn with
 | _ i ih =>
  by_cases hall:∀ j,j<i→listed.getD j false=true
  ·exact⟨i,hi,hu,hall⟩
  ·obtain⟨j,hj⟩:=Classical.not_forall.1 hall
   obtain⟨hj1,hj2⟩:=Classical.not_imp.1 hj
   exact ih j hj1 (by omega) (by simpa using hj2)
theorem mem_deps {i j:Nat} {o:Oper} (ho:ops[i]?=some o):j∈depsOf ops i↔∃ e∈o.after,Region.binds .any e=true∧e.on=j:=by
 unfold depsOf;rw [ho]
 simp only [List.mem_map,List.mem_filter]
 constructor
 ·rintro⟨e,⟨he,hb⟩,rfl⟩;exact⟨e,by simpa using he,hb,rfl⟩
 ·rintro⟨e,he,hb,rfl⟩;exact⟨e,⟨by simpa using he,hb⟩,rfl⟩
theorem wpAny_rel {n:Nat} (F:(Nat→Value)→Act) (R:Nat→Value→World→Prop) (W1:World) (hB:headB ops n=true)
  (mono:∀ i v W W',Ext W W'→R i v W→R i v W')
  (step:∀ i,i<n→∀ vs W,Ext W1 W→(∀ j∈depsOf ops i,R j (vs j) W)→∀ o,ops[i]?=some o→o.wp P (F vs) W (fun a' W'=>∃ v,a'=F (upd vs i v)∧R i v W'∧Ext W W') Q)
  (rest:∀ vs W,Ext W1 W→(∀ i,i<n→R i (vs i) W)→wpList P ops Q (ops.toList.drop n) (F vs) W) :
  ∀ (f:Nat) (listed:Array Bool) (vs:Nat→Value) (W:World),f=toCome listed n+(ops.size - n)→HeadInv .any ops n listed→Ext W1 W→(∀ i,i<n→listed.getD i false=true→R i (vs i) W) →
   wpAny P .any ops Q f listed (F vs) W:=by
 simp only [headB,Bool.and_eq_true,decide_eq_true_eq,Bool.or_eq_true] at hB
 obtain⟨⟨⟨hn,hhead⟩,htl⟩,hseq⟩:=hB
 intro f
 induction f with
 | zero =>
  intro listed vs W hf inv hW hR
  have h0:toCome listed n=0:=by omega
  have hs:ops.size - n=0:=by omega
  have hall:=toCome_zero h0
  refine⟨?_,?_⟩
  ·apply List.eq_nil_iff_forall_not_mem.2
   intro j hj
   obtain⟨h1,o,ho,_⟩:=mem_ready.1 hj
   have hj2:j<ops.size:=(Array.getElem?_eq_some_iff.1 ho).1
   have:=hall j (by omega)
   rw [getD_both h1] at this;cases this
  ·have:=rest vs W hW (fun i hi=>hR i hi (hall i hi))
   rw [List.drop_of_length_le (by simp;omega)] at this
   exact this
 | succ f ih =>
  intro listed vs W hf inv hW hR
  by_cases h0:toCome listed n=0
  ·
   have hall:=toCome_zero h0
   have hl:listed=Array.ofFn (n:=ops.size) fun i=>decide (i.val<n):=by
    apply Array.ext
    ·rw [inv.size];simp
    ·intro i h1 h2
     have h3:i<ops.size:=by rw [inv.size] at h1;exact h1
     simp only [Array.getElem_ofFn]
     by_cases hi:i<n
     ·have:=hall i hi
      simp [h1] at this
      simp [hi,this]
     ·have:=inv.tail i (by omega) h3
      simp [h1] at this
      simp [hi,this]
   have hw:=wpAny_of_seq (md:=.any) (Q':=Q) (ops.toList.drop n) n listed (F vs) W (fun j=>by simp [List.getElem?_drop]) (by rw [hl];simpa using hseq) (rest vs W hW (fun i hi=>hR i hi (hall i hi)))
   have e:(ops.toList.drop n).length=f+1:=by simp;omega
   rw [e] at hw
   exact hw
  ·obtain⟨i0,hi0,hu0,hbelow⟩:=toCome_pos (by omega:0<toCome listed n)
   have hi0s:i0<ops.size:=by omega
   have hr0:i0∈Region.ready .any ops listed:=by
    rw [mem_ready]
    refine⟨getD_in (by rw [inv.size];exact hi0s) hu0,ops[i0],Array.getElem?_eq_getElem hi0s,fun e he hb=>hbelow _ ?_⟩
    have:=List.all_eq_true.1 hhead i0 (List.mem_range.2 hi0)
    simp only [Bool.and_eq_true] at this
    have h2:=List.all_eq_true.1 this.1 e.on ((mem_deps (Array.getElem?_eq_getElem hi0s)).2 ⟨e,he,hb,rfl⟩)
    simpa using h2
   refine⟨fun h=>(by rw [h] at hr0;cases hr0),fun i hi=>?_⟩
   obtain⟨hiu,o,ho,hdep⟩:=mem_ready.1 hi
   have his:i<ops.size:=(Array.getElem?_eq_some_iff.1 ho).1
   have hin:i<n:=by
    rcases Nat.lt_or_ge i n with h | h
    ·exact h
    ·exfalso
     rcases htl with h1 | ⟨⟨hs,hc⟩,hnl⟩
     ·omega
     ·exact tail_waits hs hc hnl inv _ i0 rfl hi0 (getD_in (by rw [inv.size];exact hi0s) hu0) i h hi
   have hg:o.guard=none:=by
    have:=List.all_eq_true.1 hhead i (List.mem_range.2 hin)
    simp only [Bool.and_eq_true,ho] at this
    simpa using this.2
   have hst:=step i hin vs W hW (fun j hj=>by
    obtain⟨e,he,hb,rfl⟩:=(mem_deps ho).1 hj
    have hlt:e.on<n:=by
     have:=List.all_eq_true.1 hhead i (List.mem_range.2 hin)
     simp only [Bool.and_eq_true] at this
     have h2:=List.all_eq_true.1 this.1 e.on hj
     have:e.on<i:=by simpa using h2
     omega
    exact hR _ hlt (hdep e he hb)) o ho
   unfold wpOp
   simp only [ho]
   rw [if_pos (by simp [Region.wanted,hg])]
   refine .inl (Oper.wp_mono ?_ hst)
   rintro a' W' ⟨v,rfl,hRv,hE⟩
   have hset:=toCome_set (listed:=listed) hin (by rw [inv.size];exact his) (getD_both hiu)
   refine ih (listed.setIfInBounds i true) (upd vs i v) W' (by omega) (inv.set hi hin) (Ext.trans hW hE) (fun j hj hl=>?_)
   by_cases e:j=i
   ·subst e;rw [upd_same];exact hRv
   ·rw [upd_other vs v e]
    rw [getD_set_ne false (Ne.symm e)] at hl
    exact mono j _ W W' hE (hR j hj hl)
theorem wp_region_rel {id:Nat} {a:Act} {w:World} {l:List Oper} (n:Nat) (F:(Nat→Value)→Act) (vs0:Nat→Value) (R:Nat→Value→World→Prop) (hm:P.follows .mixedOrders=true) (hB:headB l.toArray n=true) (ha:a=F vs0)
  (mono:∀ i v W W',Ext W W'→R i v W→R i v W')
  (step:∀ i,i<n→∀ vs W,Ext w W→(∀ j∈depsOf l.toArray i,R j (vs j) W)→∀ o,l.toArray[i]?=some o→o.wp P (F vs) W (fun a' W'=>∃ v,a'=F (upd vs i v)∧R i v W'∧Ext W W') Q)
  (rest:∀ vs W,Ext w W→(∀ i,i<n→R i (vs i) W)→wpList P l.toArray Q (l.drop n) (F vs) W):(Code.region id l.toArray true).wp P Q a w:=by
 subst ha
 refine wp_region_any hm ?_
 have inv0:HeadInv .any l.toArray n (Array.replicate l.toArray.size false) :=
  ⟨by simp,fun j oj _ hl=>(by rw [getD_replicate_false] at hl;cases hl),fun t _ ht=>getD_in (by simpa using ht) (getD_replicate_false _ _)⟩
 have hd:Ext w { w with drawn:=w.drawn+1 }:=⟨rfl,rfl,rfl,Nat.le_refl _,fun _ _=>rfl⟩
 have hcount:toCome (Array.replicate l.toArray.size false) n=n:=by
  unfold toCome
  rw [List.filter_eq_self.2 (fun i _=>by rw [getD_replicate_false];rfl)]
  simp
 have hn:n≤l.toArray.size:=by
  simp only [headB,Bool.and_eq_true,decide_eq_true_eq] at hB
  exact hB.1.1.1
 have:=wpAny_rel (P:=P) (Q:=Q) F R w hB mono step rest l.toArray.size (Array.replicate l.toArray.size false) vs0 { w with drawn:=w.drawn+1 } (by rw [hcount];omega) inv0 hd (fun i _ hl=>by rw [getD_replicate_false] at hl;cases hl)
 exact this
def putHd (a:Act) (ds:List Nat) (vs:Nat→Value):Act:={ a with tmps:=a.tmps.mapIdx fun s x=>match ds.idxOf? s with | some k=>vs k | none=>x }
def relUpon (P:Program) (W:World) (Rv:Value→World→Prop):Result Next→Prop
 | .ok (.value v) W'=>Rv v W'∧Ext W W'
 | .ok .skip W'=>Rv undef W'∧Ext W W'
 | .ok (.enter f args) W'=>Calls P f args W' (fun e W''=>∃ v,e=.returned v∧Rv v W''∧Ext W W'')
 | _=>False
attribute [go_sem] relUpon
theorem putHd_eval_in {a:Act} {ds:List Nat} {vs:Nat→Value} {k s:Nat} (h:ds.idxOf? s=some k) (hs:s<a.tmps.size):(putHd a ds vs).eval (.tmp s)=vs k:=by
 simp [putHd,Act.eval,h,hs]
theorem putHd_eval_out {a:Act} {ds:List Nat} {vs:Nat→Value} {s:Nat} (h:ds.idxOf? s=none):(putHd a ds vs).eval (.tmp s)=a.eval (.tmp s):=by
 simp only [putHd,Act.eval]
 by_cases hs:s<a.tmps.size
 ·simp [h,hs]
 ·simp [hs]
theorem putHd_put {a:Act} {ds:List Nat} {vs:Nat→Value} {i d:Nat} {v:Value} (hd:ds.idxOf? d=some i) (hinj:∀ s k,ds.idxOf? s=some k→k=i→s=d):(putHd a ds vs).put (some d) v=putHd a ds (upd vs i v):=by
 unfold putHd Act.put
 simp only
 congr 1
 apply Array.ext_getElem?
 intro s
 rw [Array.getElem?_setIfInBounds]
 by_cases e:d=s
 ·subst e
  rw [if_pos rfl]
  by_cases hs:d<a.tmps.size
  ·simp [hs,hd,upd_same]
  ·simp [hs]
 ·rw [if_neg e]
  simp only [Array.getElem?_mapIdx]
  cases hx:a.tmps[s]? with
  | none=>rfl
  | some x =>
   simp only [Option.map_some]
   cases hk:ds.idxOf? s with
   | none=>rfl
   | some k =>
    have:k≠i:=fun h=>e (hinj s k hk h).symm
    simp [upd_other vs v this]
def dsB (l:List Oper) (n size:Nat) (ds:List Nat):Bool :=
 decide ((l.take n).map (·.dst)=ds.map some) && decide ds.Nodup && ds.all (fun d=>decide (d<size))
theorem wp_region_head {id:Nat} {a:Act} {w:World} {l:List Oper} (n:Nat) (ds:List Nat) (R:Nat→Value→World→Prop) (hm:P.follows .mixedOrders=true) (hB:headB l.toArray n=true) (hds:dsB l n a.tmps.size ds=true)
  (mono:∀ i v W W',Ext W W'→R i v W→R i v W')
  (step:∀ i,i<n→∀ (ev:Operand→Value) (vs:Nat→Value) W,Ext w W→(∀ s k,ds.idxOf? s=some k→ev (.tmp s)=vs k)→(∀ s,ds.idxOf? s=none→ev (.tmp s)=a.eval (.tmp s))→(∀ v,ev (.const v)=v)→(∀ f,ev (.func f)=a.eval (.func f))→(∀ g,ev (.global g)=a.eval (.global g)) →
   (∀ j∈depsOf l.toArray i,R j (vs j) W)→∀ o,l.toArray[i]?=some o→relUpon P W (R i) ((execOp ev o).run P W))
  (rest:∀ vs W,Ext w W→(∀ i,i<n→R i (vs i) W)→wpList P l.toArray Q (l.drop n) (putHd a ds vs) W):(Code.region id l.toArray true).wp P Q a w:=by
 simp only [dsB,Bool.and_eq_true,decide_eq_true_eq,List.all_eq_true] at hds
 obtain⟨⟨h1,h2⟩,h3⟩:=hds
 have hidx:∀ s k,ds.idxOf? s=some k→∃ h:k<ds.length,ds[k]=s:=by
  intro s k h
  have:=List.idxOf?_eq_some_iff.1 h
  obtain⟨hk,he,_⟩:=this
  exact⟨hk,by simpa using he⟩
 refine wp_region_rel n (putHd a ds) (fun k=>a.eval (.tmp (ds.getD k 0))) R hm hB ?_ mono ?_ rest
 ·unfold putHd
  suffices hts:a.tmps=a.tmps.mapIdx (fun s x=>match ds.idxOf? s with | some k=>a.eval (.tmp (ds.getD k 0)) | none=>x) by
   show a={ a with tmps:=_ }
   rw [← hts]
  apply Array.ext_getElem?
  intro s
  rw [Array.getElem?_mapIdx]
  cases hx:a.tmps[s]? with
  | none=>rfl
  | some x =>
   simp only [Option.map_some]
   cases hk:ds.idxOf? s with
   | none=>rfl
   | some k =>
    obtain⟨hk2,hk3⟩:=hidx s k hk
    have e:ds.getD k 0=s:=by rw [List.getD_eq_getElem?_getD,List.getElem?_eq_getElem hk2,hk3];rfl
    simp only [e,Act.eval]
    have:=(Array.getElem?_eq_some_iff.1 hx)
    obtain⟨hs,hs2⟩:=this
    simp [hs,hs2]
 ·intro i hi vs W hE hd o ho
  have hs:=step i hi (putHd a ds vs).eval vs W hE
   (fun s k h=>by
    obtain⟨hk2,hk3⟩:=hidx s k h
    exact putHd_eval_in h (by have:=h3 ds[k] (List.getElem_mem hk2);rw [hk3] at this;simpa using this))
   (fun s h=>putHd_eval_out h) (fun _=>rfl) (fun _=>rfl) (fun _=>rfl) hd o ho
  have hdst:o.dst=some (ds.getD i 0)∧i<ds.length:=by
   have hl:i<l.length:=(Array.getElem?_eq_some_iff.1 ho).1
   have hlen:ds.length=(l.take n).length:=by have:=congrArg List.length h1;simpa using this.symm
   have hi2:i<ds.length:=by rw [hlen,List.length_take];omega
   have:=congrArg (·[i]?) h1
   simp only [List.getElem?_map,List.getElem?_take,hi,if_true] at this
   have ho2:l[i]?=some o:=by simpa using ho
   rw [ho2,List.getElem?_eq_getElem hi2] at this
   simp only [Option.map_some,Option.some.injEq] at this
   refine⟨?_,hi2⟩
   rw [this,List.getD_eq_getElem?_getD,List.getElem?_eq_getElem hi2];rfl
  have hput:∀ v,(putHd a ds vs).put o.dst v=putHd a ds (upd vs i v):=by
   intro v
   rw [hdst.1]
   have hi2:i<ds.length:=hdst.2
   have hgd:ds.getD i 0=ds[i]'hi2:=by rw [List.getD_eq_getElem?_getD,List.getElem?_eq_getElem hi2];rfl
   refine putHd_put ?_ ?_
   ·rw [hgd]
    rw [List.idxOf?_eq_some_iff]
    refine⟨hi2,by simp,fun j hj=>?_⟩
    intro e
    have e2:ds[j]'(by omega)=ds[i]'hi2:=by simpa using e
    have:=(List.pairwise_iff_getElem.1 h2) j i (by omega) hi2 hj
    exact this e2
   ·intro s k hk e
    subst e
    obtain⟨hk2,hk3⟩:=hidx s k hk
    rw [hgd,hk3]
  unfold Oper.wp
  generalize (execOp (putHd a ds vs).eval o).run P W=r at hs ⊢
  cases r with
  | ok x W' =>
   cases x with
   | value v=>exact⟨v,hput v,hs.1,hs.2⟩
   | skip=>exact⟨undef,hput undef,hs.1,hs.2⟩
   | enter f args=>exact Calls.mono hs fun e W'' ⟨v,he,hR,hX⟩=>by subst he;exact⟨v,hput v,hR,hX⟩
   | _=>exact hs.elim
  | halt h W'=>exact hs.elim
end
end
section
open Go Go.RowKit
def noEnter (o:Oper):Bool:=match o.op with | .call c=>(match c.callee with | .builtin .len=>true | _=>false) | .go _=>false | .defer _=>false | .recv ..=>false | .select ..=>false | .send ..=>false | _=>true
def nfM:List Bool→List Oper→List Oper
 | true :: m,o :: l=>o :: nfM m l
 | false :: m,_ :: l=>nfM m l
 | _,_=>[]
def putM:List Bool→List Oper→Nat→Act→(Nat→Value)→Act
 | false :: m,o :: l,i,a,vs=>putM m l (i+1) (a.put o.dst (vs i)) vs
 | true :: m,_ :: l,i,a,vs=>putM m l (i+1) a vs
 | _,_,_,a,_=>a
def freeM (P:Program) (w:World) (ops:Array Oper) (R:Nat→Value→World→Prop) (mask:List Bool) (F:(Nat→Value)→Act):List Bool→List Oper→Nat→Prop
 | false :: m,o :: l,i=>(∀ vs W,Ext w W→(∀ j∈depsOf ops i,mask[j]?=some false→R j (vs j) W)→relUpon P W (R i) ((execOp (F vs).eval o).run P W))∧freeM P w ops R mask F m l (i+1)
 | true :: m,_ :: l,i=>freeM P w ops R mask F m l (i+1)
 | _,_,_=>True
def knowM (R:Nat→Value→World→Prop) (vs:Nat→Value) (W:World):List Bool→Nat→Prop
 | false :: m,i=>R i (vs i) W∧knowM R vs W m (i+1)
 | true :: m,i=>knowM R vs W m (i+1)
 | [],_=>True
def mixB (l:List Oper) (size:Nat) (mask:List Bool):Bool :=
 dsB l mask.length size ((l.take mask.length).map fun o=>o.dst.getD 0) &&
 (List.range mask.length).all fun i=>match l[i]? with
  | none=>false
  | some o=>(match mask[i]? with | some true=>noEnter o | _=>true) && (match o.op with | .select ..=>false | _=>true) &&
   (List.range mask.length).all fun j=>match l[j]? with
    | none=>false
    | some p=>(match p.dst with | none=>false | some s=>!((o.looksAt l.toArray).contains s) || ((depsOf l.toArray i).contains j && (mask[i]? != some true || mask[j]? == some true)))
section
variable {P:Program} {Q:Exit→Act→World→Prop}
def frG (b:Bool) (l:List Oper) (mask:List Bool) (a:Act) (c:Nat→Value):Nat→Act
 | 0=>a
 | k+1=>match l[k]?,mask[k]? with
  | some o,some b'=>if b'=b then (frG b l mask a c k).put o.dst (c k) else frG b l mask a c k
  | _,_=>frG b l mask a c k
theorem frG_congr {b:Bool} {l:List Oper} {mask:List Bool} {a:Act} {c c':Nat→Value}:∀ k,(∀ j,j<k→c j=c' j)→frG b l mask a c k=frG b l mask a c' k
 | 0,_=>rfl
 | k+1,h=>by
  unfold frG
  rw [frG_congr k fun j hj=>h j (by omega),h k (by omega)]
theorem frG_shape (b:Bool) (l:List Oper) (mask:List Bool) (a:Act) (c:Nat→Value):∀ k,∃ ts:Array Value,ts.size=a.tmps.size∧frG b l mask a c k={ a with tmps:=ts }
 | 0=>⟨a.tmps,rfl,rfl⟩
 | k+1=>by
  obtain⟨ts,h1,h2⟩:=frG_shape b l mask a c k
  unfold frG
  split
  ·split
   ·rename_i o b' ho _ _
    rw [h2]
    cases hd:o.dst with
    | none=>exact⟨ts,h1,rfl⟩
    | some d=>exact⟨ts.setIfInBounds d (c k),by simp [h1],rfl⟩
   ·exact⟨ts,h1,h2⟩
  ·exact⟨ts,h1,h2⟩
theorem frG_other {b:Bool} {l:List Oper} {mask:List Bool} {a:Act} {c:Nat→Value} {s:Nat}:∀ k,(∀ j o,j<k→l[j]?=some o→mask[j]?=some b→o.dst≠some s)→(frG b l mask a c k).eval (.tmp s)=a.eval (.tmp s)
 | 0,_=>rfl
 | k+1,h=>by
  have ih:=frG_other (b:=b) (l:=l) (mask:=mask) (a:=a) (c:=c) (s:=s) k fun j o hj=>h j o (by omega)
  unfold frG
  split
  ·split
   ·rename_i o b' ho hm hb
    subst hb
    rw [Act.eval_put,ih]
    intro d hd e
    injection e with e
    exact h k o (by omega) ho hm (by rw [hd,e])
   ·exact ih
  ·exact ih
theorem frG_at {b:Bool} {l:List Oper} {mask:List Bool} {a:Act} {c:Nat→Value} {s i:Nat} {o:Oper} (hi:l[i]?=some o) (hm:mask[i]?=some b) (hd:o.dst=some s) (hs:s<a.tmps.size)
  (hn:∀ j p,l[j]?=some p→j<mask.length→p.dst=some s→j=i):∀ k,i<k→(frG b l mask a c k).eval (.tmp s)=c i
 | 0,h=>by omega
 | k+1,h=>by
  by_cases e:i=k
  ·subst e
   unfold frG
   rw [hi,hm]
   simp only [if_true]
   obtain⟨ts,h1,h2⟩:=frG_shape b l mask a c i
   rw [h2,hd]
   simp [Act.put,Act.eval,h1,hs]
  ·have ih:=frG_at (a:=a) (c:=c) hi hm hd hs hn k (by omega)
   unfold frG
   split
   ·split
    ·rename_i p b' hp hm' hb
     rw [Act.eval_put,ih]
     intro d hd' e'
     injection e' with e'
     have hk:k<mask.length:=(List.getElem?_eq_some_iff.1 hm').1
     exact e (hn k p hp hk (by rw [hd',e'])).symm
    ·exact ih
   ·exact ih
theorem frG_rest {b:Bool} {l:List Oper} {mask:List Bool} {a:Act} {c:Nat→Value} (k:Nat):(∀ v,(frG b l mask a c k).eval (.const v)=a.eval (.const v))∧(∀ f,(frG b l mask a c k).eval (.func f)=a.eval (.func f))∧(∀ g,(frG b l mask a c k).eval (.global g)=a.eval (.global g)):=by
 obtain⟨ts,h1,h2⟩:=frG_shape b l mask a c k
 rw [h2]
 exact⟨fun _=>rfl,fun _=>rfl,fun _=>rfl⟩
theorem frG_yes {b:Bool} {l:List Oper} {mask:List Bool} {a:Act} {c:Nat→Value} {k:Nat} {o:Oper} (ho:l[k]?=some o) (hm:mask[k]?=some b):frG b l mask a c (k+1)=(frG b l mask a c k).put o.dst (c k):=by
 rw [frG,ho,hm];simp
theorem frG_no {b:Bool} {l:List Oper} {mask:List Bool} {a:Act} {c:Nat→Value} {k:Nat} (hm:mask[k]?≠some b):frG b l mask a c (k+1)=frG b l mask a c k:=by
 rw [frG]
 split
 ·rename_i o b' ho hm'
  rw [if_neg]
  intro e;subst e;exact hm hm'
 ·rfl
theorem putM_eq (l:List Oper) (mask:List Bool) (a:Act) (vs:Nat→Value) (hl:mask.length≤l.length):∀ m k,k+m=mask.length→putM (mask.drop k) (l.drop k) k (frG false l mask a vs k) vs=frG false l mask a vs mask.length
 | 0,k,h=>by
  rw [List.drop_of_length_le (by omega:mask.length≤k)]
  have:k=mask.length:=by omega
  subst this;unfold putM;rfl
 | m+1,k,h=>by
  have h1:k<mask.length:=by omega
  have h2:k<l.length:=by omega
  have ih:=putM_eq l mask a vs hl m (k+1) (by omega)
  rw [List.drop_eq_getElem_cons h1,List.drop_eq_getElem_cons h2]
  have g1:=List.getElem?_eq_getElem h1
  have g2:=List.getElem?_eq_getElem h2
  cases hb:mask[k] with
  | true=>rw [hb] at g1;rw [frG_no (by rw [g1];simp)] at ih;rw [← ih];rw [putM]
  | false=>rw [hb] at g1;rw [frG_yes g2 g1] at ih;rw [← ih];rw [putM]
theorem nilc_no {W W':World} {ev:Operand→Value} {o:Oper} {x:Operand} (e:o.op=.nilCheck x) {f:FuncId} {args:Array Value} (hr:(execOp ev o).run P W=.ok (.enter f args) W'):False:=by
 unfold execOp at hr
 rw [e] at hr
 simp only at hr
 split at hr
 ·simp [runtimePanic] at hr
 ·simp [runtimePanic] at hr
 ·simp [runtimePanic] at hr
 ·split at hr
  ·simp [runtimePanic] at hr
  ·rw [Sem.run_bind] at hr
   generalize hq:Sem.run P _ W=r at hr
   cases r with
   | ok b w1 =>
    simp only [Result.andThen] at hr
    rw [Sem.run_bind] at hr
    generalize hq2:Sem.run P _ w1=r2 at hr
    cases r2 with
    | ok c w2 =>
     simp only [Result.andThen] at hr
     split at hr
     ·simp [unsupported,Result.andThen] at hr
     ·simp at hr
    | halt c w2=>simp [Result.andThen] at hr
   | halt b w1=>simp [Result.andThen] at hr
  ·simp at hr
 ·simp at hr
theorem rel_of_quiet {C:World→Prop} {W:World} {v:Value} {ev:Operand→Value} {o:Oper} (hne:noEnter o=true) (h:Oper.quietUpon P C W v ((execOp ev o).run P W)):relUpon P W (fun u _=>u=v) ((execOp ev o).run P W):=by
 have key:∀ f args W',(execOp ev o).run P W=.ok (.enter f args) W'→False:=by
  intro f args W' hr
  by_cases hnc:∃ x,o.op=.nilCheck x
  ·exact nilc_no hnc.choose_spec hr
  unfold execOp at hr
  unfold noEnter at hne
  obtain⟨dst,op,ty,pos,aft,g⟩:=o
  have val:∀ s:Sem Value,(do let x ← s;pure (Next.value x):Sem Next).run P W=.ok (.enter f args) W'→False:=by
   intro s h
   rw [Sem.run_bind] at h
   cases hs:s.run P W with
   | ok x w1=>rw [hs] at h;simp [Result.andThen] at h
   | halt x w1=>rw [hs] at h;simp [Result.andThen] at h
  have uni:∀ s:Sem Unit,(do s;pure Next.skip:Sem Next).run P W=.ok (.enter f args) W'→False:=by
   intro s h
   rw [Sem.run_bind] at h
   cases hs:s.run P W with
   | ok x w1=>rw [hs] at h;simp [Result.andThen] at h
   | halt x w1=>rw [hs] at h;simp [Result.andThen] at h
  cases op <;> simp only at hr hne <;> first | exact val _ hr | exact uni _ hr | exact absurd ⟨_,rfl⟩ hnc | cases hne | skip
  ·simp at hr
  ·simp at hr
  ·rename_i cc aa bb
   rw [Sem.run_bind] at hr
   cases hs:(asBool (ev cc)).run P W with
   | ok x w1=>rw [hs] at hr;simp [Result.andThen] at hr
   | halt x w1=>rw [hs] at hr;simp [Result.andThen] at hr
  ·rename_i c
   obtain⟨callee,cargs,cts⟩:=c
   cases callee with
   | builtin b =>
    cases b with
    | len=>simp only [resolve,invoke,builtin,Sem.run_bind,Sem.run_pure,Result.andThen_ok] at hr;exact val _ (by rw [Sem.run_bind];exact hr)
    | _=>simp at hne
   | _=>simp at hne
 generalize (execOp ev o).run P W=r at h key
 cases r with
 | ok x W' =>
  cases x with
  | value u=>obtain⟨h1,h2⟩:=h;subst h1;exact⟨h2,Below.refl _ _⟩
  | skip=>obtain⟨h1,h2⟩:=h;subst h1;exact⟨h2.symm,Below.refl _ _⟩
  | enter f args=>exact(key f args W' rfl).elim
  | _=>exact h.elim
 | halt x W'=>exact h.elim
theorem quiet_consts {ops:Array Oper} {w:World} {l:List Oper} {mask:List Bool} {a:Act} {K:Act→Prop} (hl:mask.length≤l.length) (hgd:∀ (i:Nat) (o:Oper),i<mask.length→l[i]?=some o→o.guard=none)
  (hne:∀ (i:Nat) (o:Oper),mask[i]?=some true→l[i]?=some o→noEnter o=true):∀ m k c,k+m=mask.length→wpQuiet P ops (fun W=>∃ x:ExtOf w,W=x.val) K (nfM (mask.drop k) (l.drop k)) (frG true l mask a c k) →
   ∃ c',(∀ j,j<k→c' j=c j)∧(∀ (j:Nat) (o:Oper),k≤j→mask[j]?=some true→l[j]?=some o→∀ W,Ext w W→relUpon P W (fun u _=>u=c' j) ((execOp (frG true l mask a c' j).eval o).run P W))∧K (frG true l mask a c' mask.length)
 | 0,k,c,h,hq=>by
  have:k=mask.length:=by omega
  subst this
  rw [List.drop_of_length_le (Nat.le_refl _),nfM] at hq
  exact⟨c,fun _ _=>rfl,fun j o h1 h2=>by have:=(List.getElem?_eq_some_iff.1 h2).1;omega,hq⟩
  all_goals simp
 | m+1,k,c,h,hq=>by
  have h1:k<mask.length:=by omega
  have h2:k<l.length:=by omega
  have g1:=List.getElem?_eq_getElem h1
  have g2:=List.getElem?_eq_getElem h2
  rw [List.drop_eq_getElem_cons h1,List.drop_eq_getElem_cons h2] at hq
  cases hb:mask[k] with
  | false =>
   rw [hb,nfM] at hq
   rw [hb] at g1
   obtain⟨c',e1,e2,e3⟩:=quiet_consts (a:=a) hl hgd hne m (k+1) c (by omega) (by rw [frG_no (by rw [g1];simp)];exact hq)
   refine⟨c',fun j hj=>e1 j (by omega),fun j o hj hm ho=>?_,e3⟩
   have:j≠k:=by intro e;subst e;rw [g1] at hm;cases hm
   exact e2 j o (by omega) hm ho
  | true =>
   rw [hb,nfM] at hq
   rw [hb] at g1
   unfold wpQuiet at hq
   rw [if_pos (by simp [Region.wanted,hgd k _ h1 g2])] at hq
   obtain⟨v,hv,hq⟩:=hq
   have hcc:frG true l mask a (upd c k v) (k+1)=(frG true l mask a c k).put l[k].dst v:=by
    rw [frG_yes g2 g1,upd_same]
    rw [frG_congr k fun j hj=>upd_other c v (by omega)]
   obtain⟨c',e1,e2,e3⟩:=quiet_consts (a:=a) hl hgd hne m (k+1) (upd c k v) (by omega) (by rw [hcc];exact hq)
   refine⟨c',fun j hj=>by rw [e1 j (by omega),upd_other c v (by omega)],fun j o hj hm ho=>?_,e3⟩
   by_cases e:j=k
   ·subst e
    rw [g2] at ho;injection ho with ho;subst ho
    intro W hW
    have hvj:c' j=v:=by rw [e1 j (by omega),upd_same]
    rw [hvj,frG_congr j fun i hi=>(e1 i (by omega)).trans (upd_other c v (by omega))]
    exact rel_of_quiet (hne j _ g1 g2) (hv W ⟨⟨W,hW⟩,rfl⟩)
   ·exact e2 j o (by omega) hm ho
theorem freeM_at {w:World} {ops:Array Oper} {R:Nat→Value→World→Prop} {mask0:List Bool} {F:(Nat→Value)→Act}:∀ (m:List Bool) (l:List Oper) (k:Nat),freeM P w ops R mask0 F m l k→∀ (i:Nat) (o:Oper),m[i]?=some false→l[i]?=some o →
  ∀ vs W,Ext w W→(∀ j∈depsOf ops (k+i),mask0[j]?=some false→R j (vs j) W)→relUpon P W (R (k+i)) ((execOp (F vs).eval o).run P W)
 | [],_,_,_,i,o,h,_=>by simp at h
 | b :: m,[],_,_,i,o,_,h=>by simp at h
 | true :: m,p :: l,k,h,i,o,hm,ho=>by
  cases i with
  | zero=>simp at hm
  | succ i =>
   rw [freeM] at h
   have:=freeM_at m l (k+1) h i o (by simpa using hm) (by simpa using ho)
   rwa [show k+1+i=k+(i+1) from by omega] at this
 | false :: m,p :: l,k,h,i,o,hm,ho=>by
  rw [freeM] at h
  cases i with
  | zero=>simp at ho;subst ho;exact h.1
  | succ i =>
   have:=freeM_at m l (k+1) h.2 i o (by simpa using hm) (by simpa using ho)
   rwa [show k+1+i=k+(i+1) from by omega] at this
theorem knowM_of {R:Nat→Value→World→Prop} {vs:Nat→Value} {W:World}:∀ (m:List Bool) (k:Nat),(∀ i,m[i]?=some false→R (k+i) (vs (k+i)) W)→knowM R vs W m k
 | [],_,_=>trivial
 | true :: m,k,h=>by
  rw [knowM]
  exact knowM_of m (k+1) fun i hi=>by have:=h (i+1) (by simpa using hi);rwa [show k+(i+1)=k+1+i from by omega] at this
 | false :: m,k,h=>by
  rw [knowM]
  exact⟨h 0 rfl,knowM_of m (k+1) fun i hi=>by have:=h (i+1) (by simpa using hi);rwa [show k+(i+1)=k+1+i from by omega] at this⟩
theorem wp_region_mix {id:Nat} {a:Act} {w:World} {l:List Oper} (mask:List Bool) (R:Nat→Value→World→Prop) (hm:P.follows .mixedOrders=true) (hB:headB l.toArray mask.length=true) (hX:mixB l a.tmps.size mask=true)
  (mono:∀ i v W W',Ext W W'→R i v W→R i v W')
  (h:wpQuiet P l.toArray (fun W=>∃ x:ExtOf w,W=x.val) (fun a'=>freeM P w l.toArray R mask (fun vs=>putM mask l 0 a' vs) mask l 0∧∀ vs W,Ext w W→knowM R vs W mask 0→wpList P l.toArray Q (l.drop mask.length) (putM mask l 0 a' vs) W) (nfM mask l) a) :
  (Code.region id l.toArray true).wp P Q a w:=by
 have hB0:=hB
 simp only [headB,Bool.and_eq_true,decide_eq_true_eq,Bool.or_eq_true] at hB0
 obtain⟨⟨⟨hn,hhead⟩,_⟩,_⟩:=hB0
 have hl:mask.length≤l.length:=by simpa using hn
 have hX0:=hX
 simp only [mixB,Bool.and_eq_true] at hX0
 obtain⟨hds,hx⟩:=hX0
 have hgd:∀ (i:Nat) (o:Oper),i<mask.length→l[i]?=some o→o.guard=none:=by
  intro i o hi ho
  have:=List.all_eq_true.1 hhead i (List.mem_range.2 hi)
  simp only [Bool.and_eq_true,List.getElem?_toArray,ho] at this
  simpa using this.2
 have hdep:∀ i,i<mask.length→∀ j∈depsOf l.toArray i,j<i:=by
  intro i hi j hj
  have:=List.all_eq_true.1 hhead i (List.mem_range.2 hi)
  simp only [Bool.and_eq_true] at this
  have h2:=List.all_eq_true.1 this.1 j hj
  simpa using h2
 have hxi:∀ (i:Nat) (o:Oper),i<mask.length→l[i]?=some o→(mask[i]?=some true→noEnter o=true)∧(∀ cs b,o.op≠.select cs b)∧∀ (j:Nat) (p:Oper),j<mask.length→l[j]?=some p→∃ s,p.dst=some s∧(s∈o.looksAt l.toArray→j∈depsOf l.toArray i∧(mask[i]?=some true→mask[j]?=some true)):=by
  intro i o hi ho
  have:=List.all_eq_true.1 hx i (List.mem_range.2 hi)
  simp only [ho,Bool.and_eq_true] at this
  obtain⟨⟨h1,h2⟩,h3⟩:=this
  refine⟨fun hm=>?_,fun cs b e=>?_,fun j p hj hp=>?_⟩
  ·rw [hm] at h1;exact h1
  ·rw [e] at h2;cases h2
  ·have h4:=List.all_eq_true.1 h3 j (List.mem_range.2 hj)
   simp only [hp] at h4
   cases hd:p.dst with
   | none=>rw [hd] at h4;cases h4
   | some s =>
    rw [hd] at h4
    refine⟨s,rfl,fun hs=>?_⟩
    simp only [Bool.or_eq_true,Bool.and_eq_true,Bool.not_eq_true',List.contains_eq_mem,decide_eq_false_iff_not,decide_eq_true_eq,bne_iff_ne,ne_eq,beq_iff_eq] at h4
    rcases h4 with h4 | ⟨h4,h5⟩
    ·exact(h4 hs).elim
    ·refine⟨h4,fun hm=>?_⟩
     rcases h5 with h5 | h5
     ·exact(h5 hm).elim
     ·exact h5
 obtain⟨c,_,hc,hK⟩:=quiet_consts (a:=a) hl hgd (fun i o hm ho=>(hxi i o (List.getElem?_eq_some_iff.1 hm).1 ho).1 hm) mask.length 0 (fun _=>undef) (by omega) (by rw [List.drop_zero,List.drop_zero];exact h)
 obtain⟨hfree,hrest⟩:=hK
 have hds0:=hds
 simp only [dsB,Bool.and_eq_true,decide_eq_true_eq,List.all_eq_true] at hds0
 obtain⟨⟨d1,d2⟩,d3⟩:=hds0
 have hdst:∀ (i:Nat) (o:Oper),i<mask.length→l[i]?=some o→o.dst=some (((l.take mask.length).map fun o=>o.dst.getD 0).getD i 0)∧((l.take mask.length).map fun o=>o.dst.getD 0).idxOf? (o.dst.getD 0)=some i∧o.dst.getD 0<a.tmps.size:=by
  intro i o hi ho
  have hi2:i<l.length:=by omega
  have g:(l.take mask.length)[i]?=some o:=by rw [List.getElem?_take,if_pos hi];exact ho
  have e0:((l.take mask.length).map fun o=>o.dst.getD 0)[i]?=some (o.dst.getD 0):=by rw [List.getElem?_map,g];rfl
  have e1:((l.take mask.length).map fun o=>o.dst.getD 0).getD i 0=o.dst.getD 0:=by rw [List.getD_eq_getElem?_getD,e0];rfl
  obtain⟨hil,he⟩:=List.getElem?_eq_some_iff.1 e0
  refine⟨?_,?_,?_⟩
  ·rw [e1]
   have:=congrArg (·[i]?) d1
   simp only [List.getElem?_map,g,e0,Option.map_some] at this
   injection this
  ·rw [List.idxOf?_eq_some_iff]
   refine⟨hil,by rw [he],fun j hj=>?_⟩
   intro e
   have:=List.pairwise_iff_getElem.1 d2 j i (by omega) hil hj
   exact this (by rw [he];simpa using e)
  ·exact d3 _ (by rw [← he];exact List.getElem_mem _)
 have huniq:∀ (i:Nat) (o:Oper) s,i<mask.length→l[i]?=some o→o.dst=some s→∀ (j:Nat) (p:Oper),l[j]?=some p→j<mask.length→p.dst=some s→j=i:=by
  intro i o s hi ho hs j p hp hj hps
  have h1:=(hdst i o hi ho).2.1
  have h2:=(hdst j p hj hp).2.1
  rw [hs] at h1;rw [hps] at h2
  rw [h1] at h2;injection h2 with h2;exact h2.symm
 have hslot:∀ s,(∃ (i:Nat) (o:Oper),i<mask.length∧l[i]?=some o∧o.dst=some s)∨∀ (i:Nat) (o:Oper),i<mask.length→l[i]?=some o→o.dst≠some s:=by
  intro s
  by_cases he:∃ (i:Nat) (o:Oper),i<mask.length∧l[i]?=some o∧o.dst=some s
  ·exact .inl he
  ·exact .inr fun i o hi ho e=>he ⟨i,o,hi,ho,e⟩
 have hnone:∀ s,(∀ (i:Nat) (o:Oper),i<mask.length→l[i]?=some o→o.dst≠some s)→((l.take mask.length).map fun o=>o.dst.getD 0).idxOf? s=none:=by
  intro s hs
  cases hi:((l.take mask.length).map fun o=>o.dst.getD 0).idxOf? s with
  | none=>rfl
  | some k =>
   exfalso
   obtain⟨hk,he,_⟩:=List.idxOf?_eq_some_iff.1 hi
   have hkm:k<mask.length:=by rw [List.length_map,List.length_take] at hk;omega
   have hkl:k<l.length:=by omega
   have g2:=List.getElem?_eq_getElem hkl
   have h3:=hdst k _ hkm g2
   refine hs k _ hkm g2 ?_
   rw [h3.1]
   have:((l.take mask.length).map fun o=>o.dst.getD 0).getD k 0=s:=by
    rw [List.getD_eq_getElem?_getD,List.getElem?_eq_getElem hk];simpa using he
   rw [this]
 have hC:∀ (i:Nat) (o:Oper) s,i<mask.length→l[i]?=some o→o.dst=some s→mask[i]?=some true→∀ k,i<k→(frG true l mask a c k).eval (.tmp s)=c i:=fun i o s hi ho hs hm' k hk =>
  frG_at ho hm' hs (by have:=(hdst i o hi ho).2.2;rw [hs] at this;exact this) (huniq i o s hi ho hs) k hk
 have hF1:∀ vs (i:Nat) (o:Oper) s,i<mask.length→l[i]?=some o→o.dst=some s→mask[i]?=some false→(frG false l mask (frG true l mask a c mask.length) vs mask.length).eval (.tmp s)=vs i:=fun vs i o s hi ho hs hm' =>
  frG_at ho hm' hs (by obtain⟨ts,h1,h2⟩:=frG_shape true l mask a c mask.length;rw [h2];show s<ts.size;rw [h1];have:=(hdst i o hi ho).2.2;rw [hs] at this;exact this) (huniq i o s hi ho hs) mask.length hi
 have hF2:∀ vs (i:Nat) (o:Oper) s,i<mask.length→l[i]?=some o→o.dst=some s→mask[i]?=some true→(frG false l mask (frG true l mask a c mask.length) vs mask.length).eval (.tmp s)=c i:=fun vs i o s hi ho hs hm'=>by
  rw [frG_other mask.length fun j p hj hp hmj e=>?_]
  ·exact hC i o s hi ho hs hm' mask.length hi
  ·have:=huniq i o s hi ho hs j p hp hj e
   subst this
   rw [hm'] at hmj;cases hmj
 have hput:∀ vs,putM mask l 0 (frG true l mask a c mask.length) vs=frG false l mask (frG true l mask a c mask.length) vs mask.length:=fun vs=>by
  have:=putM_eq l mask (frG true l mask a c mask.length) vs hl mask.length 0 (by omega)
  rw [List.drop_zero,List.drop_zero] at this
  exact this
 have hbool:∀ i,i<mask.length→mask[i]?=some true∨mask[i]?=some false:=by
  intro i hi
  rw [List.getElem?_eq_getElem hi]
  cases mask[i] <;> simp
 refine wp_region_head mask.length ((l.take mask.length).map fun o=>o.dst.getD 0) (fun i v W=>if mask[i]?=some true then v=c i else R i v W) hm hB hds ?_ ?_ ?_
 ·intro i v W W' hE hr
  show if _ then _ else _
  by_cases hi:mask[i]?=some true
  ·rw [if_pos hi] at hr ⊢;exact hr
  ·rw [if_neg hi] at hr ⊢;exact mono i v W W' hE hr
 ·intro i hi ev vs W hE hin hout hcs hf hg hd o ho
  have ho':l[i]?=some o:=by simpa using ho
  obtain⟨_,hsel,hlk⟩:=hxi i o hi ho'
  have hops:∀ (s:Nat),Operand.tmp s∈o.op.operands→s∈o.looksAt l.toArray:=fun s hs=>List.mem_append_left _ (List.mem_filterMap.2 ⟨.tmp s,by simpa using hs,rfl⟩)
  rcases hbool i hi with hmi | hmi
  ·have hcon:=hc i o (Nat.zero_le _) hmi ho' W hE
   have he:execOp ev o=execOp (frG true l mask a c i).eval o:=execOp_congr o hsel fun x hx=>by
    have hr:=frG_rest (b:=true) (l:=l) (mask:=mask) (a:=a) (c:=c) i
    cases x with
    | tmp s =>
     rcases hslot s with ⟨j,p,hj,hp,hps⟩ | hs
     ·obtain⟨s',hs',hlook⟩:=hlk j p hj hp
      rw [hps] at hs';injection hs' with hs';subst hs'
      obtain⟨hdp,hmj⟩:=hlook (hops s hx)
      have hix:=(hdst j p hj hp).2.1
      rw [hps] at hix
      rw [hin s j hix,hC j p s hj hp hps (hmj hmi) i (hdep i hi j hdp)]
      have:=hd j hdp
      simpa [hmj hmi] using this
     ·rw [hout s (hnone s hs),frG_other i fun j p hj hp _=>hs j p (by omega) hp]
    | const v=>rw [hcs,hr.1];rfl
    | func f=>rw [hf,hr.2.1]
    | global g=>rw [hg,hr.2.2]
   rw [he]
   simp only [hmi,if_true]
   exact hcon
  ·have hcon:=freeM_at mask l 0 hfree i o hmi ho' vs W hE (fun j hj hmj=>by
    have:=hd j (by simpa using hj)
    simpa [hmj] using this)
   rw [Nat.zero_add,hput] at hcon
   have he:execOp ev o=execOp (frG false l mask (frG true l mask a c mask.length) vs mask.length).eval o:=execOp_congr o hsel fun x hx=>by
    have hr:=frG_rest (b:=false) (l:=l) (mask:=mask) (a:=frG true l mask a c mask.length) (c:=vs) mask.length
    have hr2:=frG_rest (b:=true) (l:=l) (mask:=mask) (a:=a) (c:=c) mask.length
    cases x with
    | tmp s =>
     rcases hslot s with ⟨j,p,hj,hp,hps⟩ | hs
     ·obtain⟨s',hs',hlook⟩:=hlk j p hj hp
      rw [hps] at hs';injection hs' with hs';subst hs'
      obtain⟨hdp,_⟩:=hlook (hops s hx)
      have hix:=(hdst j p hj hp).2.1
      rw [hps] at hix
      rw [hin s j hix]
      rcases hbool j hj with hmj | hmj
      ·rw [hF2 vs j p s hj hp hps hmj]
       have:=hd j hdp
       simpa [hmj] using this
      ·rw [hF1 vs j p s hj hp hps hmj]
     ·rw [hout s (hnone s hs),frG_other mask.length fun j p hj hp _=>hs j p hj hp,frG_other mask.length fun j p hj hp _=>hs j p hj hp]
    | const v=>rw [hcs,hr.1,hr2.1];rfl
    | func f=>rw [hf,hr.2.1,hr2.2.1]
    | global g=>rw [hg,hr.2.2,hr2.2.2]
   rw [he]
   have e:(fun v W=>if mask[i]?=some true then v=c i else R i v W)=R i:=by
    funext v W;simp [hmi]
   rw [e]
   exact hcon
 ·intro vs W hE hall
  have hkn:knowM R vs W mask 0:=knowM_of mask 0 fun i hi=>by
   rw [Nat.zero_add]
   have hil:=(List.getElem?_eq_some_iff.1 hi).1
   have:=hall i hil
   simpa [hi] using this
  have hr:=hrest vs W hE hkn
  have e:putHd a ((l.take mask.length).map fun o=>o.dst.getD 0) vs=putM mask l 0 (frG true l mask a c mask.length) vs:=by
   rw [hput]
   obtain⟨t1,h1,h2⟩:=frG_shape true l mask a c mask.length
   obtain⟨t2,h3,h4⟩:=frG_shape false l mask (frG true l mask a c mask.length) vs mask.length
   have h5:t2.size=a.tmps.size:=by rw [h3,h2];exact h1
   have h6:frG false l mask (frG true l mask a c mask.length) vs mask.length={ a with tmps:=t2 }:=by rw [h4,h2]
   unfold putHd
   rw [h6]
   congr 1
   apply Array.ext_getElem?
   intro s
   rw [Array.getElem?_mapIdx]
   by_cases hs:s<a.tmps.size
   ·have hsv:∀ u:Act,∀ hu:s<u.tmps.size,u.tmps[s]?=some (u.eval (.tmp s)):=fun u hu=>by simp [Act.eval,hu]
    have ha:=hsv a hs
    have hb:=hsv { a with tmps:=t2 } (by show s<t2.size;omega)
    rw [ha]
    have hb':t2[s]?=some ((frG false l mask (frG true l mask a c mask.length) vs mask.length).eval (.tmp s)):=by rw [h6];exact hb
    rw [hb',Option.map_some]
    congr 1
    rcases hslot s with ⟨j,p,hj,hp,hps⟩ | hn
    ·have hix:=(hdst j p hj hp).2.1
     rw [hps] at hix
     simp only [Option.getD_some] at hix
     rw [hix]
     rcases hbool j hj with hmj | hmj
     ·rw [hF2 vs j p s hj hp hps hmj]
      have:=hall j hj
      simpa [hmj] using this
     ·rw [hF1 vs j p s hj hp hps hmj]
    ·rw [hnone s hn,frG_other mask.length fun j p hj hp _=>hn j p hj hp,frG_other mask.length fun j p hj hp _=>hn j p hj hp]
   ·rw [Array.getElem?_eq_none (by omega),Array.getElem?_eq_none (by omega)];rfl
  rw [e]
  exact hr
end
end
section
open Go Go.RowKit Go.Maps
theorem infI:(Tryz.prog.info? 3).map (fun i=>(i.zero,i.size,i.bytes))=some (some (.int .i64 0),1,8):=by kernel_rfl
theorem Rd.oneI (w:World) (t:TypeId) (a:Int):Rd (w.alloc (.cells #[.int .i64 a] t)) 1 (some ⟨w.heap.size,0,none⟩) 1 (encI [a]):=Rd.new w t [.int .i64 a] 1 1 rfl (by omega)
theorem encI_append (l m:List Int):encI (l ++ m)=encI l ++ encI m:=by simp [encI]
theorem risingG (a n:Nat) (f:Int→Option Bool) (l:List Int) (w:World) (hA:MapI Tryz.prog 3 EB a n f w) (hl:∀ x,f x=some true↔x∈l) (hn:n≤1000000) :
  Calls Tryz.prog 234 #[.map (some a)] w fun e w'=>∃ q c,e=.returned (.slice q (putAll ltI l).length c)∧Sep w w' [.own 3 1 q (putAll ltI l).length c (encI (putAll ltI l))]:=by
 obtain⟨i0,hi0,hz0,hz1,hz2⟩:=info_parts infI
 obtain⟨es,clock,hb,F,hs,hf⟩:=hA.raw
 have HBA:=Lib.hid hb;clear hb
 have HF:=Lib.hid F;clear F
 have HSZ:=Lib.hid hs;clear hs
 have HFN:=Lib.hid hf;clear hf
 have HL:=Lib.hid hl;clear hl
 clear hA
 have S0:=Lib.hid ((Sep.start w).nilrow 3 1)
 have hlt:a<w.heap.size:=(Array.getElem?_eq_some_iff.1 HBA.out).1
 go_enter Tryz.func234,Tryz.ntmps234
 go_wp2_with (at_range;go_must (refine wpList_range_sep rfl _ _ rfl Tryz.underlying3 Tryz.underlying252 rfl HBA.out HF.out HSZ.out HFN.out S0.out w.heap.size rfl ?_;intro w1 since seen c0 cnt S1 R hsz he;have S2:=Lib.hid S1;have HR:=Lib.hid R;clear S1 R he hsz))
 go_frame
 go_loopw [3,4,5] (fun v _ _ wr=>∃ q c acc since seen c0 cnt left,v=.slice q acc.length c∧Sep w wr [.iter w.heap.size a since seen c0,.own 3 1 q acc.length c (encI acc)]∧Rng Tryz.prog 3 EB es clock since seen c0 n f left cnt∧acc.Nodup∧acc.length+cnt≤n∧∀ x,x∈acc↔f x=some true∧left x=false) (fun _ _ _ wr=>wr.rangeLeft a w.heap.size)
 case atStart=>exact⟨none,0,[],since,seen,c0,cnt,_,rfl,S2.out,HR.out,List.nodup_nil,by have:=rng_le HR.out;simp;omega,fun x=>by
  constructor
  ·intro h;cases h
  ·rintro⟨h1,h3⟩;rw [h1] at h3;cases h3⟩
 case round =>
  clear S2 HR since seen c0 cnt
  obtain⟨q,c,acc,since,seen,c0,cnt,left,rfl,S,R,hnd,hmn,hh⟩:=hrel
  have SH:=Lib.hid S;clear S
  have HR:=Lib.hid R;clear R
  have HH:=Lib.hid hh;clear hh
  have HND:=Lib.hid hnd;clear hnd
  have HBW:=Lib.hid ((SH.out.ext.block a hlt).trans HBA.out)
  go_wp2_with (at_next;go_must (refine wpList_next_sep rfl _ rfl Tryz.underlying3 rfl HBW.out SH.out 0 rfl HR.out ?_ ?_))
  ·intro hall
   have HP:Hid (sortI acc=putAll ltI l):=sortI_put HND.out fun x=>by rw [HH.out,hall x,← HL.out x];simp
   have HLN:Hid (acc.length=(putAll ltI l).length):=by unfold Hid;rw [← HP.out,sortI_len]
   clear hall
   go_wp2_with (go_at_call 268;go_must (refine(SortI_sep SH.out 1 rfl (by omega)).mono ?_;rintro e w1 ⟨rfl,S1⟩;have S2:=Lib.hid S1;clear S1))
   go_ret
   have S3:Sep w w1 [.own 3 1 q acc.length c (encI (sortI acc))]:=S2.out.pick [1] (by decide) rfl
   rw [HP.out] at S3
   exact⟨q,c,ret_slc HLN.out,by rw [← HLN.out];exact S3⟩
  ·intro t w1 since' seen' c0' cnt' hx hl hfx S1 R1 hc hsz hb1 hg1 hen
   obtain⟨x,v⟩:=t
   have SH1:=Lib.hid S1;clear S1
   have HR1:=Lib.hid R1;clear R1
   have HB1:=Lib.hid hb1;clear hb1
   have HX:=Lib.hid hx;clear hx
   have HL1:=Lib.hid hl;clear hl
   have HFX:=Lib.hid hfx;clear hfx
   clear hg1 hsz HBW
   have hen2:(Instr.entry (.pointer (some ⟨w.heap.size,0,none⟩))).run Tryz.prog w1=.ok (.tuple #[.int .i64 x,.bool v]) w1:=hen
   clear hen
   cases v with
   | true =>
    go_wp2_with (at_builtin;go_must (refine wpList_append_sep rfl _ _ _ rfl 3 i0 _ 1 8 Tryz.underlying25 hi0 hz0 hz1 hz2 rfl (by omega) (SH1.out.junk _) 1 q acc.length c _ rfl rfl _ 1 1 _ rfl (Rd.oneI _ _ _) (one_encI _) (by omega) (by omega) ?_;intro q' c' w2 S' hsz;have S3:=Lib.hid S';clear S' hsz))
    go_roundw
    case rel=>exact⟨q',c',acc ++ [x],since',seen',c0',cnt',_,by simp,by rw [List.length_append,encI_append];exact S3.out,HR1.out,List.nodup_append.2 ⟨HND.out,by simp,by
     intro y hy z hz
     simp at hz
     subst hz
     rintro rfl
     have:=((HH.out y).1 hy).2
     have h2:=HL1.out
     simp at h2
     rw [h2] at this;cases this⟩,by simp;omega,fun y=>by
     rw [List.mem_append,HH.out y]
     by_cases e:y=x
     ·subst e;simp [HFX.out]
     ·simp [e]⟩
    case measure=>rw [rng_left ((S3.out.ext.block a hlt).trans HBA.out) (S3.out.iter 0 rfl) HR1.out,rng_left ((SH.out.ext.block a hlt).trans HBA.out) (SH.out.iter 0 rfl) HR.out];exact hc
   | false =>
    go_wp2
    go_roundw
    case rel=>exact⟨q,c,acc,since',seen',c0',cnt',_,rfl,SH1.out,HR1.out,HND.out,by omega,fun y=>by
     rw [HH.out y]
     by_cases e:y=x
     ·subst e;simp [HFX.out]
     ·simp [e]⟩
    case measure=>rw [rng_left ((SH1.out.ext.block a hlt).trans HBA.out) (SH1.out.iter 0 rfl) HR1.out,rng_left ((SH.out.ext.block a hlt).trans HBA.out) (SH.out.iter 0 rfl) HR.out];exact hc
end
end Go.Proofs.YtfjhjennfiihhaaGreat
