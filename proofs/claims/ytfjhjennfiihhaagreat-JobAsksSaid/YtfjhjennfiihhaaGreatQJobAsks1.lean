/- Texts of this claim, one behind the other: Base, Spec, R1, R2, R3, G1, Enc4, PlainPq, Rel, Mix, Sep, Pq1, Pq2, G3, G4, StrLaws, G5, Plain, Pq5, MapI, Set5, SortI, Rise5, RI, G6, G7, Gr, R6, G8, Pst5, Chk5, R8, RT, Plain2. -/
import Derived.WalkKit
import Derived.WalkSpells
import Derived.WalkLawsBesides
import Derived.Outline
import Derived.BigQuiet
import Derived.Deep.QuietTactic
import Derived.LoopTactic
import Derived.Lib.Hide
import Derived.Maps.AppendAt
import Derived.Deep.AppendLies
import Derived.OwnWalk
import Derived.Sort.Walk0
import Derived.StillTailTactics
import Derived.Deep.DeepCutAuto
import Derived.Test.YtfjhjennfiihhaaGreatProg
import Derived.StillTail
import Derived.Shelf.SlSortCmp.WholeK
import Derived.Test.YtfjhjennfiihhaaGreatLay
import Derived.Lib.Bytealg
import Derived.Maps.RangeWalk
import Derived.Maps.OwnSet
import Derived.Laws.EntriesVeiled
import Derived.RangeFuncNested
import Derived.RangeFuncBound
import Derived.RangeFuncCalls
import Derived.RangeFuncLeaves
import Derived.Sort.QuietThIn
import Derived.OwnWalkIn
import Derived.TacticsInMore
import Derived.LoopNIn
import Derived.LoopIn
import Derived.Shelf.Abstract
import Derived.Handy
import Derived.Deep.RegionHeld3
import Derived.IntWalk
import Derived.Deep.OwnRows
import Derived.DeepKeys5
import Derived.ProofKit
import Derived.Deep.Slices
import Derived.Deep.Fields
import Derived.ChangeSame
import Derived.Lib.SmallJoins
import Derived.Below
import Derived.Laws.IdiomCopy
import Derived.Laws.CopyOwn
import Derived.Deep.MidRow
import Derived.Deep.RegionWith
import Derived.Deep.DrawnRows
import Derived.WalkMore
import Derived.Deep.LoopGhost
import Derived.Shelf.Bits.Mul64
import Derived.OrdersIn
import Derived.OrdersHeld
import Derived.Deep.RegionHeld
import Derived.Sort.LoopGhostIn
import Derived.Carry
import Derived.OpenShut
import Derived.SizedLaws
set_option maxRecDepth 100000
set_option maxHeartbeats 16000000
namespace Go.Proofs.YtfjhjennfiihhaaGreat
open Go Go.RowKit Tryz
theorem lh {p:Prop}(h:p):Go.RowKit.Hid p:=h
section
open Go Go.RowKit
def be (p:Option Addr) (j:Nat):Addr:=⟨(p.getD ⟨0,0,none⟩).block,(p.getD ⟨0,0,none⟩).off+j,none⟩
def Od (p:Option Addr) (n:Nat):Prop:=n=0\/∃ b o,p=some ⟨b,o,none⟩
theorem Od.some {p:Option Addr} {n:Nat} (h:Od p n) (hn:0<n):p=Option.some (be p 0):=by
 rcases h with h | ⟨b,o,rfl⟩
 ·omega
 ·simp [be]
theorem rA (p:Option Addr) (j n:Nat):(be p j).add n=be p (j+n):=by
 by_cases h:n=0
 ·subst h;simp [be,Addr.add]
 ·simp [be,Addr.add,h,Nat.add_assoc]
theorem gZ (p:Option Addr) (j:Nat):(be p j).block=(be p 0).block:=rfl
theorem aB (b o j:Nat):be (some ⟨b,o,none⟩) j=⟨b,o+j,none⟩:=rfl
theorem rB (p:Option Addr) (j:Nat):(be p j).add 0=be p j:=by rw [rA];rfl
attribute [go_sem ↓ high] rA
attribute [go_sem ↓ high] rB
section
variable {P:Program}
theorem mU (w:World) (t:TypeId) (p:Option Addr) (len cap:Nat) (k:IntKind) (i:Int) (h:P.underlying t=some (.slice (P.elem t))) (hp:Od p len) :
  (Instr.indexAt t (.slice p len cap) (.int k i)).run P w =
   if 0<=i/\i<len then ((sizeOf (P.elem t)).run P w).andThen fun s w=>.ok (.pointer (some (be p (i.toNat*s)))) w
   else (boundsPanic k i (if p.isSome then (len:Int) else 0) .index).run P w:=by
 rcases hp with hp | ⟨b,o,rfl⟩
 ·subst hp
  rw [if_neg (by omega)]
  cases p <;> simp [Instr.indexAt,run_underlying h,asIntOf]
  intro h1 h2;omega
 ·rw [run_indexAt_slice _ _ _ _ _ _ _ h];simp [be,Addr.add_lit]
attribute [go_sem] mU
theorem nK (w:World) (o:Obj) (p:Option Addr) (j:Nat) (h:(be p 0).block<w.heap.size):(w.alloc o).cell? (be p j)=w.cell? (be p j) :=
 World.cell?_alloc_lt w o (be p j) h
attribute [go_sem] nK
end
abbrev Ext (w w':World):Prop:=Below w.heap.size w w'
section
variable {a b c w w':World}
theorem Ext.refl (w:World):Ext w w:=Below.refl _ _
theorem Ext.trans (h:Ext a b) (k:Ext b c):Ext a c:=Below.trans h (k.mono h.size)
theorem Ext.alloc (h:Ext a w) (o:Obj):Ext a (w.alloc o):=Below.alloc h h.size o
theorem Ext.drewN (h:Ext a w) (n:Nat):Ext a (w.drewN n):=⟨h.os,h.tape,h.output,h.size,h.block⟩
theorem Ext.cell (h:Ext a b) {p:Addr} {v:Value} (hc:a.cell? p=some v):b.cell? p=some v:=by
 rw [Below.cell h (World.block_lt_of_cell? a p hc)];exact hc
theorem Ext.grown (h:Ext a b):a.grownBy b none:=⟨h.os,h.tape,h.output,h.size,fun k hk _=>h.block k hk⟩
theorem Ext.own (h:Ext a b) {base:Nat} {e:TypeId} {size:Nat} {v:Value} {n:Nat} {xs:List Value} (ho:a.ownsRow base e size v n xs):b.ownsRow base e size v n xs :=
 ho.kept h.grown (by cases v.ownBlock <;> simp)
end
structure Ie (W:World) where
 val:World
 ext:Ext W val
instance (W:World):Nonempty (Ie W):=⟨⟨W,Below.refl _ _⟩⟩
section
variable {P:Program}
theorem av {id:Nat} {Q:Exit->Act->World->Prop} {a:Act} {w:World} {l:List Oper} (hm:P.follows .mixedOrders=true) (hB:Region.lexB .any l.toArray=true)
  (h:wpQuiet P l.toArray (fun w'=>∃ x:Ie w,w'=x.val) (fun a'=>∀ w',(∃ x:Ie w,w'=x.val)->Q .normal a' w') l a):(Code.region id l.toArray true).wp P Q a w :=
 wp_region_quiet (C:=fun w'=>∃ x:Ie w,w'=x.val) hm hB ⟨⟨{ w with drawn:=w.drawn+1 },⟨rfl,rfl,rfl,Nat.le_refl _,fun _ _=>rfl⟩⟩,rfl⟩ (by simpa using h)
theorem Calls.ext_of {f:FuncId} {args:Array Value} {w:World} {x:Ie w} {v:Value}
  (h:Calls P f args x.val fun e w'=>e=.returned v/\Ext x.val w'):Calls P f args x.val fun e w''=>e=.returned v/\∃ y:Ie w,w''=y.val :=
 h.mono fun _ w' ⟨he,hb⟩=>⟨he,⟨w',x.ext.trans hb⟩,rfl⟩
end
structure Rd (w:World) (size:Nat) (p:Option Addr) (n:Nat) (xs:List Value):Prop where
 len:xs.length=n*size
 ptr:Od p n
 small:n<=9223372036854775807
 cells:∀ j,j<n*size->w.cell? (be p j)=some (xs.getD j undef)
section
variable {w w':World} {size n:Nat} {p:Option Addr} {xs:List Value}
theorem Rd.nil (w:World) (size:Nat) (p:Option Addr):Rd w size p 0 []:=⟨by simp,.inl rfl,by omega,fun j hj=>by omega⟩
theorem Rd.ext (h:Rd w size p n xs) (he:Ext w w'):Rd w' size p n xs:=⟨h.len,h.ptr,h.small,fun j hj=>he.cell (h.cells j hj)⟩
theorem Rd.lt (h:Rd w size p n xs) (hn:0<n*size):(be p 0).block<w.heap.size:=World.block_lt_of_cell? w _ (h.cells 0 hn)
theorem Rd.below {B:Nat} {a:World} (h:Rd a size p n xs) (hb:Below B a w) (hB:0<n*size->(be p 0).block<B):Rd w size p n xs :=
 ⟨h.len,h.ptr,h.small,fun j hj=>by rw [Below.cell hb (by rw [gZ];exact hB (by omega))];exact h.cells j hj⟩
end
def ae {α:Type} [Inhabited α] (l:List α) (j:Nat):α:=l.getD j default
theorem ar {α:Type} [Inhabited α] {l:List α} {j:Nat} (h:j<l.length):ae l j=l[j]:=by simp [ae,h]
theorem ak {α:Type} [Inhabited α] (l:List α) (k:Nat) (h:k<l.length):l.take (k+1)=l.take k ++ [ae l k]:=by
 rw [List.take_succ_eq_append_getElem h,ar h]
theorem kH {α:Type} [Inhabited α] (l:List α) (k:Nat) (h:k<l.length):l.drop k=ae l k :: l.drop (k+1):=by
 rw [List.drop_eq_getElem_cons h,ar h]
def ab (l:List Int):List Value:=l.map (.int .i64)
def bg (l:List ByteArray):List Value:=l.map .string
def aj (l:List (Int × Int)):List Value:=l.flatMap fun e=>[.int .i64 e.1,.int .i64 e.2]
theorem ep (l:List Int):(ab l).length=l.length:=by simp [ab]
theorem dQ (l:List ByteArray):(bg l).length=l.length:=by simp [bg]
theorem bS (l:List (Int × Int)):(aj l).length=l.length*2:=by
 induction l with
 | nil=>rfl
 | cons x l ih=>simp only [aj,List.flatMap_cons,List.length_append,List.length_cons] at ih ⊢;rw [ih];simp;omega
theorem tf (l:List Int) (k:Nat) (h:k<l.length):(ab l).getD k undef=.int .i64 (ae l k):=by simp [ab,ae,h]
theorem tg (l:List ByteArray) (k:Nat) (h:k<l.length):(bg l).getD k undef=.string (ae l k):=by simp [bg,ae,h]
theorem kJ (l:List (Int × Int)):∀ (k:Nat),k<l.length->(aj l).getD (k*2) undef=.int .i64 (ae l k).1/\(aj l).getD (k*2+1) undef=.int .i64 (ae l k).2:=by
 induction l with
 | nil=>intro k h;simp at h
 | cons x l ih =>
  intro k h
  cases k with
  | zero=>exact⟨rfl,rfl⟩
  | succ k =>
   have:=ih k (by simpa using h)
   have e1:(k+1)*2=k*2+1+1:=by omega
   have e2:ae (x :: l) (k+1)=ae l k:=rfl
   rw [e1,e2]
   exact this
section
variable {w w':World} {n:Nat} {p:Option Addr}
theorem Rd.nI {l:List Int} (h:Rd w 1 p n (ab l)):n=l.length:=by have:=h.len;rw [ep] at this;omega
theorem Rd.nS {l:List ByteArray} (h:Rd w 1 p n (bg l)):n=l.length:=by have:=h.len;rw [dQ] at this;omega
theorem Rd.nE {l:List (Int × Int)} (h:Rd w 2 p n (aj l)):n=l.length:=by have:=h.len;rw [bS] at this;omega
theorem Rd.cI {l:List Int} (h:Rd w 1 p n (ab l)) {k:Nat} (hk:k<n):w.cell? (be p k)=some (.int .i64 (ae l k)):=by
 rw [h.cells k (by omega),tf _ _ (by have:=h.nI;omega)]
theorem Rd.cS {l:List ByteArray} (h:Rd w 1 p n (bg l)) {k:Nat} (hk:k<n):w.cell? (be p k)=some (.string (ae l k)):=by
 rw [h.cells k (by omega),tg _ _ (by have:=h.nS;omega)]
theorem Rd.cE {l:List (Int × Int)} (h:Rd w 2 p n (aj l)) {k:Nat} (hk:k<n):w.cell? (be p (k*2))=some (.int .i64 (ae l k).1):=by
 rw [h.cells (k*2) (by omega),(kJ _ _ (by have:=h.nE;omega)).1]
theorem Rd.cE2 {l:List (Int × Int)} (h:Rd w 2 p n (aj l)) {k:Nat} (hk:k<n):w.cell? (be p (k*2+1))=some (.int .i64 (ae l k).2):=by
 rw [h.cells (k*2+1) (by omega),(kJ _ _ (by have:=h.nE;omega)).2]
end
structure Hd where
 p:Option Addr
 n:Nat
 c:Nat
instance:Inhabited Hd:=⟨⟨none,0,0⟩⟩
def Hd.v (h:Hd):Value:=.slice h.p h.n h.c
def fR (l:List Hd):List Value:=l.map Hd.v
theorem nP (l:List Hd):(fR l).length=l.length:=by simp [fR]
theorem te (l:List Hd) (k:Nat) (h:k<l.length):(fR l).getD k undef=.slice (ae l k).p (ae l k).n (ae l k).c:=by simp [fR,ae,h,Hd.v]
structure JY (w:World) (p:Option Addr) (n:Nat) (hs:List Hd) (Jz:List (List ByteArray)):Prop where
 hn:hs.length=Jz.length
 row:Rd w 1 p n (fR hs)
 each:∀ j,j<n->Rd w 1 (ae hs j).p (ae hs j).n (bg (ae Jz j))
section
variable {w w':World} {n:Nat} {p:Option Addr} {hs:List Hd} {Jz:List (List ByteArray)}
theorem Rd.nH {l:List Hd} (h:Rd w 1 p n (fR l)):n=l.length:=by have:=h.len;rw [nP] at this;omega
theorem Rd.cH {l:List Hd} (h:Rd w 1 p n (fR l)) {k:Nat} (hk:k<n):w.cell? (be p k)=some (.slice (ae l k).p (ae l k).n (ae l k).c):=by
 rw [h.cells k (by omega),te _ _ (by have:=h.nH;omega)]
theorem JY.nW (h:JY w p n hs Jz):n=Jz.length:=by rw [<- h.hn];exact h.row.nH
theorem JY.ext (h:JY w p n hs Jz) (he:Ext w w'):JY w' p n hs Jz:=⟨h.hn,h.row.ext he,fun j hj=>(h.each j hj).ext he⟩
end
section
variable {P:Program}
theorem jq {w:World} {base:Nat} {e:TypeId} {size:Nat} {v:Value} {n:Nat} {xs:List Value} (h:w.ownsRow base e size v n xs) :
  ∃ p c,v=.slice p n c/\(p=none\/∃ g,p=some ⟨g,0,none⟩/\base<=g/\g<w.heap.size)/\n<=c:=by
 rcases h.2 with ⟨rfl,rfl⟩ | ⟨g,cap,cur,rfl,hg,hh,hn,_⟩
 ·exact⟨none,0,rfl,.inl rfl,Nat.le_refl _⟩
 ·exact⟨_,_,rfl,.inr ⟨g,rfl,hg,(Array.getElem?_eq_some_iff.1 hh).1⟩,hn⟩
theorem Rd.of_own {w:World} {base:Nat} {e:TypeId} {size:Nat} {p:Option Addr} {c n:Nat} {xs:List Value} (h:w.ownsRow base e size (.slice p n c) n xs) (hs:n<=9223372036854775807):Rd w size p n xs:=by
 have hl:=h.1
 rcases h.2 with ⟨h1,rfl⟩ | ⟨g,cap,cur,h1,hg,hh,hn,_⟩
 ·exact⟨hl,.inl rfl,hs,fun j hj=>by omega⟩
 ·injection h1 with h1 h2 h3
  subst h1
  refine⟨hl,.inr ⟨g,0,rfl⟩,hs,fun j hj=>?_⟩
  have hx:xs[j]?=some (xs.getD j undef):=by rw [List.getD_eq_getElem?_getD,List.getElem?_eq_getElem (by omega)];rfl
  have:=h.cells (g:=g) (by simp [Value.ownBlock]) j _ hx
  rw [Addr.add_lit] at this
  rw [aB];exact this
def bi (p:Option Addr):Option Nat:=p.map (·.block)
theorem dx (p:Option Addr) (n c:Nat):Value.ownBlock (.slice p n c)=bi p:=by cases p <;> rfl
theorem j7 (w:World) (base:Nat) (t ty e:TypeId) (i:TypeInfo) (z:Value) (size bytes:Nat) (ht:P.underlying t=some (.slice e)) (hi:P.info? e=some i) (hz:i.zero=some z)
  (hsize:i.size=size) (hby:i.bytes=bytes) (hzs:z.cells.size=size) (hsz:0<size)
  (q:Option Addr) (n cq:Nat) (xs:List Value) (hown:w.ownsRow base e size (.slice q n cq) n xs)
  (A:Option Addr) (m c:Nat) (news:List Value) (hr:Rd w size A m news) (h1:∀ u∈news,u.oneCell'=true)
  (hbytes:(n+m)*bytes<=140737488355328) (h63:n+m<=140737488355328) (hbase:base<=w.heap.size) :
  ∃ q' c' w',(Builtin.append_ #[t,t] ty #[.slice q n cq,.slice A m c]).run P w=.ok (.slice q' (n+m) c') w'/\w'.ownsRow base e size (.slice q' (n+m) c') (n+m) (xs ++ news)/\w.grownBy w' (bi q) /\
   (bi q'=bi q\/bi q'=some w.heap.size)/\Below base w w':=by
 have key:∀ v' w',w'.ownsRow base e size v' (n+m) (xs ++ news)->w.grownBy w' (bi q)->(v'.ownBlock=bi q\/v'.ownBlock=some w.heap.size) ->
   ∃ q' c',v'=.slice q' (n+m) c'/\w'.ownsRow base e size (.slice q' (n+m) c') (n+m) (xs ++ news)/\(bi q'=bi q\/bi q'=some w.heap.size)/\Below base w w':=by
  intro v' w' ho hg hat
  obtain⟨q',c',rfl,_,_⟩:=jq ho
  rw [dx] at hat
  refine⟨q',c',rfl,ho,hat,Below.grown (Below.refl _ _) hg hbase ?_⟩
  intro k hk
  exact(hown.lt k (by rw [dx];exact hk)).1
 by_cases hm:m=0
 ·subst hm
  have hn:news=[]:=List.eq_nil_of_length_eq_zero (by simpa using hr.len)
  subst hn
  have hrun:(Builtin.append_ #[t,t] ty #[.slice q n cq,.slice A 0 c]).run P w=.ok (.slice q n cq) w:=by
   have hnc:n<=cq:=by
    rcases jq hown with ⟨p,c',h1,_,h2⟩
    injection h1 with _ _ h3
    omega
   cases A <;> simp [Builtin.append_,run_underlying ht,sizeOf,typeInfo,hi,Builtin.lenOf,Builtin.firstCells,hnc,loadCells,loadCellsFrom]
   all_goals (cases q <;> simp [storeCells])
  exact⟨q,cq,w,hrun,by simpa using hown,World.grownBy.refl w _,.inl rfl,Below.refl _ _⟩
 ·obtain⟨ad,rfl⟩:∃ ad,A=some ad:=by
   rw [hr.ptr.some (by omega)];exact⟨_,rfl⟩
  have had:ad=be (some ad) 0:=by have:=hr.ptr.some (by omega);injection this
  have hcells:∀ j u,news[j]?=some u->w.cell? (ad.add j)=some u:=by
   intro j u hu
   have hj:j<news.length:=by
    rcases Nat.lt_or_ge j news.length with h | h
    ·exact h
    ·rw [List.getElem?_eq_none h] at hu;cases hu
   have:=hr.cells j (by rw [<- hr.len];exact hj)
   rw [had,rA,Nat.zero_add,this,List.getD_eq_getElem?_getD,hu];rfl
  obtain⟨v',w',hrun,h2,h3,_,h5⟩:=run_append_own_at (P:=P) w base t ty e i z size bytes ht hi hz hsize hby hzs hsz (.slice q n cq) n xs hown ad m c news hr.len hcells h1 (by unfold maxLen;omega) hbytes hbase
  rw [dx] at h3 h5
  obtain⟨q',c',rfl,ho,hat,hb⟩:=key v' w' h2 h3 h5
  exact⟨q',c',w',hrun,ho,h3,hat,hb⟩
theorem aM {w:World} {ops:Array Oper} {rest:List Oper} {o:Oper} {a:Act} {Q:Exit->Act->World->Prop} (hgd:o.guard=none) (s x:Operand) (t:TypeId)
  (ho:o.op=.call { callee:=.builtin .append,args:=#[s,x],argTypes:=#[t,t] })
  (base:Nat) (e:TypeId) (i:TypeInfo) (z:Value) (size bytes:Nat) (ht:P.underlying t=some (.slice e)) (hi:P.info? e=some i) (hz:i.zero=some z)
  (hsize:i.size=size) (hby:i.bytes=bytes) (hzs:z.cells.size=size) (hsz:0<size)
  (q:Option Addr) (n cq:Nat) (xs:List Value) (hs:a.eval s=.slice q n cq) (hown:w.ownsRow base e size (.slice q n cq) n xs)
  (A:Option Addr) (m c:Nat) (news:List Value) (hx:a.eval x=.slice A m c) (hr:Rd w size A m news) (h1:∀ u∈news,u.oneCell'=true)
  (hbytes:(n+m)*bytes<=140737488355328) (h63:n+m<=140737488355328) (hbase:base<=w.heap.size)
  (h:∀ q' c' w',w'.ownsRow base e size (.slice q' (n+m) c') (n+m) (xs ++ news)->w.grownBy w' (bi q)->(bi q'=bi q\/bi q'=some w.heap.size)->Below base w w'->wpList P ops Q rest (a.put o.dst (.slice q' (n+m) c')) w'):wpList P ops Q (o :: rest) a w :=
 wpList_plain hgd fun K hK=>by
  obtain⟨q',c',w',hrun,h2,h3,h4,h5⟩:=j7 (P:=P) w base t o.type e i z size bytes ht hi hz hsize hby hzs hsz q n cq xs hown A m c news hr h1 hbytes h63 hbase
  unfold Oper.wp execOp
  simp only [ho,resolve,invoke,builtin,Sem.run_bind,Sem.run_pure,Result.andThen_ok,List.map_toArray,List.map_cons,List.map_nil,hs,hx,hrun]
  exact hK _ _ (h q' c' w' h2 h3 h4 h5)
end
theorem bN (l:List Int):∀ u∈ab l,u.oneCell'=true:=by intro u hu;simp only [ab,List.mem_map] at hu;obtain⟨x,_,rfl⟩:=hu;rfl
theorem Bs (l:List ByteArray):∀ u∈bg l,u.oneCell'=true:=by intro u hu;simp only [bg,List.mem_map] at hu;obtain⟨x,_,rfl⟩:=hu;rfl
theorem bu (l:List (Int × Int)):∀ u∈aj l,u.oneCell'=true:=by
 intro u hu;simp only [aj,List.mem_flatMap] at hu;obtain⟨x,_,h⟩:=hu;simp at h;rcases h with rfl | rfl <;> rfl
def bv (p:Option Addr) (c l s:Nat):Option Addr:=if c=l then p else p.map (·.add (l*s))
section
variable {P:Program} (w:World) (t:TypeId) (p:Option Addr) (n c:Nat) (ht:P.underlying t=some (.slice (P.elem t)))
include ht
theorem zl (kh:IntKind) (h:Int) (h0:0<=h) (h2:h<=c) :
  (Instr.slice t (.slice p n c) none (some (.int kh h)) none).run P w=((sizeOf (P.elem t)).run P w).andThen fun s w=>.ok (.slice (bv p c 0 s) h.toNat c) w:=by
 rw [run_slice_h w t p n c ht kh h h0 h2];simp only [sliced,bv,Nat.sub_zero]
theorem zm (kl:IntKind) (l:Int) (h0:0<=l) (h1:l<=n) :
  (Instr.slice t (.slice p n c) (some (.int kl l)) none none).run P w=((sizeOf (P.elem t)).run P w).andThen fun s w=>.ok (.slice (bv p c l.toNat s) (n - l.toNat) (c - l.toNat)) w:=by
 rw [run_slice_l w t p n c ht kl l h0 h1];simp only [sliced,bv]
theorem vZ (kl kh:IntKind) (l h:Int) (h0:0<=l) (h1:l<=h) (h2:h<=c) :
  (Instr.slice t (.slice p n c) (some (.int kl l)) (some (.int kh h)) none).run P w=((sizeOf (P.elem t)).run P w).andThen fun s w=>.ok (.slice (bv p c l.toNat s) (h.toNat - l.toNat) (c - l.toNat)) w:=by
 rw [run_slice_lh w t p n c ht kl kh l h h0 h1 h2];simp only [sliced,bv]
end
attribute [go_sem ↓ high] zl zm vZ
theorem Rd.cut {w : World} {size : Nat} {p : Option Addr} {n : Nat} {xs : List Value} (hr : Rd w size p n xs) {l h c : Nat} (hl : l <= h) (hh : h <= n) (hc : n <= c) :
    Rd w size (bv p c l size) (h - l) ((xs.drop (l * size)).take ((h - l) * size)) := by
  have hlen := hr.len
  have hm : h * size <= n * size := Nat.mul_le_mul_right _ hh
  have hlm : l * size <= h * size := Nat.mul_le_mul_right _ hl
  have hsub : (h - l) * size = h * size - l * size := Nat.sub_mul _ _ _
  refine ⟨?_, ?_, Nat.le_trans (Nat.sub_le _ _) (Nat.le_trans hh hr.small), ?_⟩
  · rw [List.length_take, List.length_drop]; omega
  · by_cases h0 : h = l
    · subst h0; exact .inl (by omega)
    · rcases hr.ptr with h1 | ⟨b, o, rfl⟩
      · omega
      · unfold bv
        rw [if_neg (by omega)]
        exact .inr ⟨b, o + l * size, by simp [Addr.add_lit]⟩
  · intro j hj
    have e1 : be (bv p c l size) j = be p (l * size + j) := by
      rcases hr.ptr with h1 | ⟨b, o, rfl⟩
      · subst h1; have : h = 0 := by omega
        subst this; simp at hj
      · unfold bv
        rw [if_neg (by intro e; subst e; have : h = c := by omega
                       subst this; simp at hj)]
        simp [be, Addr.add_lit, Nat.add_assoc]
    rw [e1, hr.cells _ (by omega)]
    simp only [List.getD_eq_getElem?_getD, List.getElem?_take, List.getElem?_drop]
    rw [if_pos hj]
theorem Rd.take {w:World} {size:Nat} {p:Option Addr} {n:Nat} {xs:List Value} (hr:Rd w size p n xs) {k:Nat} (hk:k<=n):Rd w size p k (xs.take (k*size)):=by
 have hm:k*size<=n*size:=Nat.mul_le_mul_right _ hk
 refine⟨by rw [List.length_take,hr.len];omega,?_,Nat.le_trans hk hr.small,fun j hj=>?_⟩
 ·rcases hr.ptr with h | h
  ·exact .inl (by omega)
  ·exact .inr h
 ·rw [hr.cells j (by omega)]
  simp only [List.getD_eq_getElem?_getD,List.getElem?_take]
  rw [if_pos hj]
def Ih (w:World) (g:Nat) (t:TypeId) (cs:Array Value):Prop:=w.heap[g]?=some (.cells cs t (0,0))
section
variable {w w':World} {g:Nat} {t:TypeId} {cs:Array Value}
theorem Ih.lt (h:Ih w g t cs):g<w.heap.size:=by
 rcases Nat.lt_or_ge g w.heap.size with hlt | hge
 ·exact hlt
 ·unfold Ih at h;rw [Array.getElem?_eq_none hge] at h;cases h
theorem Ih.cell (h:Ih w g t cs) (i:Nat):w.cell? ⟨g,i,none⟩=cs[i]?:=cell_of_row w g i cs t (0,0) h
theorem Ih.frozen (h:Ih w g t cs) (i:Nat):w.frozen? ⟨g,i,none⟩=false:=by
 unfold Ih at h
 simp [World.frozen?,h]
theorem Ih.new (w:World) (t:TypeId) (cs:Array Value):Ih (w.alloc (.cells cs t)) w.heap.size t cs:=heap_alloc_new w _
theorem Ih.set_ (h:Ih w g t cs) (i:Nat) (u:Value):Ih (w.setCell ⟨g,i,none⟩ u) g t (cs.setIfInBounds i u):=by
 unfold Ih at h ⊢
 simp [World.setCell,Array.getElem?_modify,h]
theorem Ih.far (h:Ih w g t cs) {p:Addr} (hp:g≠p.block) (u:Value):Ih (w.setCell p u) g t cs:=(Below.heap_setCell w p u g hp).trans h
theorem Ih.ext (h:Ih w g t cs) (hb:Ext w w'):Ih w' g t cs:=(hb.block g h.lt).trans h
theorem oG {base:Nat} {e:TypeId} {size n c:Nat} {q:Option Addr} {xs:List Value} (h:w.ownsRow base e size (.slice q n c) n xs) (hg:Ih w g t cs) (hne:e≠t):bi q≠some g:=by
 rcases h.2 with ⟨h1,_⟩ | ⟨g',cap,cur,h1,_,hh,_⟩
 ·injection h1 with h1;subst h1;simp [bi]
 ·injection h1 with h1;subst h1
  intro he
  have:g'=g:=by simpa [bi] using he
  subst this
  unfold Ih at hg
  rw [hh] at hg
  injection hg with hg
  injection hg with _ ht
  exact hne ht
theorem kn {base Qc:Nat} {e e2:TypeId} {size n c Qy n2 c2:Nat} {q q2:Option Addr} {xs Zt:List Value} (h:w.ownsRow base e size (.slice q n c) n xs) (h2:w.ownsRow Qc e2 Qy (.slice q2 n2 c2) n2 Zt) (hne:e≠e2) :
  bi q2=none\/bi q2≠bi q:=by
 rcases h2.2 with ⟨h1,_⟩ | ⟨g',cap,cur,h1,_,hh,_⟩
 ·injection h1 with h1;subst h1;exact .inl rfl
 ·injection h1 with h1;subst h1
  right
  intro he
  exact oG (g:=g') (t:=e2) (cs:=cur) h hh hne (by rw [<- he];rfl)
theorem l8 {base:Nat} {e:TypeId} {size n c:Nat} {q:Option Addr} {xs:List Value} (h:w.ownsRow base e size (.slice q n c) n xs) {row:Option Nat} (hg:w.grownBy w' row) (hne:bi q=none\/bi q≠row):w'.ownsRow base e size (.slice q n c) n xs :=
 h.kept hg (by rw [dx];exact hne)
theorem cu {base:Nat} {e:TypeId} {size n c:Nat} {q:Option Addr} {xs:List Value} (h:w.ownsRow base e size (.slice q n c) n xs):n<=c:=by
 obtain⟨p,c',h1,_,h2⟩:=jq h
 injection h1 with _ _ h3
 omega
theorem fx {base:Nat} {e:TypeId} {size n c:Nat} {q:Option Addr} {xs:List Value} (h:w.ownsRow base e size (.slice q n c) n xs) (hg:Ih w g t cs) (hne:e≠t) (i:Nat) (u:Value):(w.setCell ⟨g,i,none⟩ u).ownsRow base e size (.slice q n c) n xs:=by
 have hb:=oG h hg hne
 obtain⟨h1,h2⟩:=h
 refine⟨h1,?_⟩
 rcases h2 with h2 | ⟨g',cap,cur,hv,hgg,hh,r⟩
 ·exact Or.inl h2
 ·refine Or.inr ⟨g',cap,cur,hv,hgg,?_,r⟩
  rw [Below.heap_setCell _ _ _ _ ?_]
  ·exact hh
  ·injection hv with hv
   subst hv
   intro e
   exact hb (by simp only [bi,Option.map_some];rw [e])
end
theorem iy (w:World) (o1 o2:Obj):((w.alloc o1).alloc o2).heap[w.heap.size]?=some o1/\((w.alloc o1).alloc o2).heap[w.heap.size+1]?=some o2/\Ext w ((w.alloc o1).alloc o2):=by
 refine⟨?_,?_,((Below.refl _ _).alloc (Nat.le_refl _) _).alloc (by simp) _⟩
 ·rw [Below.heap_alloc _ _ _ (by simp),heap_alloc_new]
 ·have:=heap_alloc_new (w.alloc o1) o2
  rwa [World.size_alloc] at this
theorem dP (w:World) (a:Value) (l:List Value) (t:TypeId):(w.alloc (.cells (a :: l).toArray t)).cell? ⟨w.heap.size,0,none⟩=some a:=by simp
theorem hU (w:World) (a b:Value) (l:List Value) (t:TypeId):(w.alloc (.cells (a :: b :: l).toArray t)).cell? ⟨w.heap.size,1,none⟩=some b:=by simp
theorem jG (l:List (Int × Int)) (k:Nat):(aj l).take (k*2)=aj (l.take k):=by
 induction l generalizing k with
 | nil=>simp [aj]
 | cons a l ih =>
  cases k with
  | zero=>simp [aj]
  | succ k =>
   have:=ih k
   simp only [aj,List.flatMap_cons,List.take_succ_cons] at this ⊢
   rw [<- this,show (k+1)*2=k*2+1+1 from by omega];rfl
theorem lO (l:List (Int × Int)) (k:Nat):(aj l).drop (k*2)=aj (l.drop k):=by
 induction l generalizing k with
 | nil=>simp [aj]
 | cons a l ih =>
  cases k with
  | zero=>simp [aj]
  | succ k =>
   have:=ih k
   simp only [aj,List.flatMap_cons,List.drop_succ_cons] at this ⊢
   rw [<- this,show (k+1)*2=k*2+1+1 from by omega];rfl
theorem aF (l m:List (Int × Int)):aj (l ++ m)=aj l ++ aj m:=by simp [aj]
theorem Rd.one2 (w:World) (t:TypeId) (a b:Int):Rd (w.alloc (.cells #[.int .i64 a,.int .i64 b] t)) 2 (some ⟨w.heap.size,0,none⟩) 1 (aj [(a,b)]):=by
 refine⟨rfl,.inr ⟨_,_,rfl⟩,by omega,fun j hj=>?_⟩
 rw [aB,Nat.zero_add]
 have:j=0\/j=1:=by omega
 rcases this with rfl | rfl <;> simp [aj]
theorem ym (l:List ByteArray) (k:Nat):(bg l).drop (k*1)=bg (l.drop k):=by simp [bg,List.map_drop]
theorem aP {w:World} {base b:Nat} {e:TypeId} {size:Nat} {v:Value} {n:Nat} {xs:List Value} (h:w.ownsRow base e size v n xs) (hb:b<=base):w.ownsRow b e size v n xs:=by
 refine⟨h.1,?_⟩
 rcases h.2 with h2 | ⟨g,cap,cur,hv,hg,r⟩
 ·exact .inl h2
 ·exact .inr ⟨g,cap,cur,hv,Nat.le_trans hb hg,r⟩
theorem Rd.oneH (w:World) (t:TypeId) (p:Option Addr) (m d:Nat):Rd (w.alloc (.cells #[.slice p m d] t)) 1 (some ⟨w.heap.size,0,none⟩) 1 [.slice p m d]:=by
 refine⟨rfl,.inr ⟨_,_,rfl⟩,by omega,fun j hj=>?_⟩
 rw [aB,Nat.zero_add]
 have:j=0:=by omega
 subst this;simp
theorem yY (p:Option Addr) (m d:Nat):∀ u∈[Value.slice p m d],u.oneCell'=true:=by intro u hu;simp at hu;subst hu;rfl
def a9 (a b:ByteArray):Bool:=Op.bytesLess a.toList b.toList
theorem xh {a b:ByteArray} (h:a.toList=b.toList):a=b:=by
 rw [ByteArray.toList_eq,ByteArray.toList_eq] at h
 exact ByteArray.ext (Array.toList_inj.1 h)
theorem nh (a b:ByteArray):(a.toList == b.toList)=decide (a=b):=by
 by_cases h:a=b
 ·subst h;simp
 ·simp only [h,decide_false];rw [beq_eq_false_iff_ne];exact fun e=>h (xh e)
theorem nF {w:World} {g:Nat} {t:TypeId} {cs:Array Value}(h:Ih w g t cs):w.cell? ⟨g,0,none⟩=cs[0]?/\w.cell? ⟨g,1,none⟩=cs[1]?:=⟨h.cell 0,h.cell 1⟩
theorem aw {w:World} {g:Nat} {t:TypeId} {cs:Array Value}(h:Ih w g t cs):w.cell? ⟨g,0,none⟩=cs[0]?/\w.cell? ⟨g,1,none⟩=cs[1]?/\w.cell? ⟨g,2,none⟩=cs[2]?:=⟨h.cell 0,h.cell 1,h.cell 2⟩
theorem cY {w:World} {g:Nat} {t:TypeId} {cs:Array Value}(h:Ih w g t cs):w.cell? ⟨g,0,none⟩=cs[0]?/\w.cell? ⟨g,1,none⟩=cs[1]?/\w.cell? ⟨g,2,none⟩=cs[2]?/\w.cell? ⟨g,3,none⟩=cs[3]?:=⟨h.cell 0,h.cell 1,h.cell 2,h.cell 3⟩
theorem bG {w:World} {g:Nat} {t:TypeId} {cs:Array Value}(h:Ih w g t cs):w.cell? ⟨g,0,none⟩=cs[0]?/\w.cell? ⟨g,1,none⟩=cs[1]?/\w.cell? ⟨g,2,none⟩=cs[2]?/\w.cell? ⟨g,3,none⟩=cs[3]?/\w.cell? ⟨g,4,none⟩=cs[4]?/\w.cell? ⟨g,5,none⟩=cs[5]?/\w.cell? ⟨g,6,none⟩=cs[6]?/\w.cell? ⟨g,7,none⟩=cs[7]?/\g<w.heap.size:=⟨h.cell 0,h.cell 1,h.cell 2,h.cell 3,h.cell 4,h.cell 5,h.cell 6,h.cell 7,h.lt⟩
theorem ao {w:World} {g:Nat} {t:TypeId} {cs:Array Value}(h:Ih w g t cs):w.cell? ⟨g,0,none⟩=cs[0]?/\w.cell? ⟨g,1,none⟩=cs[1]?/\w.cell? ⟨g,2,none⟩=cs[2]?/\w.cell? ⟨g,3,none⟩=cs[3]?/\w.cell? ⟨g,4,none⟩=cs[4]?/\w.cell? ⟨g,5,none⟩=cs[5]?/\g<w.heap.size:=⟨h.cell 0,h.cell 1,h.cell 2,h.cell 3,h.cell 4,h.cell 5,h.lt⟩
theorem ah {w:World} {g:Nat} {t:TypeId} {cs:Array Value}(h:Ih w g t cs):w.cell? ⟨g,0,none⟩=cs[0]?/\w.cell? ⟨g,1,none⟩=cs[1]?/\w.cell? ⟨g,2,none⟩=cs[2]?/\w.cell? ⟨g,3,none⟩=cs[3]?/\g<w.heap.size:=⟨h.cell 0,h.cell 1,h.cell 2,h.cell 3,h.lt⟩
theorem jT {w:World} {g:Nat} {t:TypeId} {cs:Array Value}(h:Ih w g t cs):w.cell? ⟨g,0,none⟩=cs[0]?/\w.cell? ⟨g,1,none⟩=cs[1]?/\w.cell? ⟨g,2,none⟩=cs[2]?/\w.cell? ⟨g,3,none⟩=cs[3]?/\w.frozen? ⟨g,0,none⟩=false/\w.frozen? ⟨g,1,none⟩=false/\w.frozen? ⟨g,2,none⟩=false/\w.frozen? ⟨g,3,none⟩=false/\g<w.heap.size:=⟨h.cell 0,h.cell 1,h.cell 2,h.cell 3,h.frozen 0,h.frozen 1,h.frozen 2,h.frozen 3,h.lt⟩
theorem mQ {w:World} {g:Nat} {t:TypeId} {cs:Array Value}(h:Ih w g t cs):w.cell? ⟨g,0,none⟩=cs[0]?/\w.cell? ⟨g,1,none⟩=cs[1]?/\w.cell? ⟨g,2,none⟩=cs[2]?/\w.cell? ⟨g,3,none⟩=cs[3]?/\w.frozen? ⟨g,2,none⟩=false/\w.frozen? ⟨g,3,none⟩=false/\g<w.heap.size:=⟨h.cell 0,h.cell 1,h.cell 2,h.cell 3,h.frozen 2,h.frozen 3,h.lt⟩
theorem fD {w:World} {g:Nat} {t:TypeId} {cs:Array Value}(h:Ih w g t cs):w.cell? ⟨g,0,none⟩=cs[0]?/\w.cell? ⟨g,1,none⟩=cs[1]?/\w.cell? ⟨g,2,none⟩=cs[2]?/\g<w.heap.size:=⟨h.cell 0,h.cell 1,h.cell 2,h.lt⟩
theorem ag {w:World} {g:Nat} {t:TypeId} {cs:Array Value}(h:Ih w g t cs):w.cell? ⟨g,0,none⟩=cs[0]?/\w.cell? ⟨g,1,none⟩=cs[1]?/\w.cell? ⟨g,2,none⟩=cs[2]?/\g<w.heap.size/\w.frozen? ⟨g,0,none⟩=false/\w.frozen? ⟨g,1,none⟩=false/\w.frozen? ⟨g,2,none⟩=false:=⟨h.cell 0,h.cell 1,h.cell 2,h.lt,h.frozen 0,h.frozen 1,h.frozen 2⟩
theorem nG {w:World} {g:Nat} {t:TypeId} {cs:Array Value}(h:Ih w g t cs):w.cell? ⟨g,0,none⟩=cs[0]?/\w.cell? ⟨g,1,none⟩=cs[1]?/\w.cell? ⟨g,2,none⟩=cs[2]?/\w.frozen? ⟨g,0,none⟩=false/\w.frozen? ⟨g,1,none⟩=false/\w.frozen? ⟨g,2,none⟩=false:=⟨h.cell 0,h.cell 1,h.cell 2,h.frozen 0,h.frozen 1,h.frozen 2⟩
theorem uW {w:World} {g:Nat} {t:TypeId} {cs:Array Value}(h:Ih w g t cs):w.cell? ⟨g,0,none⟩=cs[0]?/\w.cell? ⟨g,1,none⟩=cs[1]?/\w.cell? ⟨g,2,none⟩=cs[2]?/\w.frozen? ⟨g,1,none⟩=false:=⟨h.cell 0,h.cell 1,h.cell 2,h.frozen 1⟩
theorem aH {w:World} {g:Nat} {t:TypeId} {cs:Array Value}(h:Ih w g t cs):w.cell? ⟨g,0,none⟩=cs[0]?/\w.cell? ⟨g,1,none⟩=cs[1]?/\g<w.heap.size:=⟨h.cell 0,h.cell 1,h.lt⟩
theorem gF {w:World} {g:Nat} {t:TypeId} {cs:Array Value}(h:Ih w g t cs):w.cell? ⟨g,0,none⟩=cs[0]?/\w.cell? ⟨g,1,none⟩=cs[1]?/\g<w.heap.size/\w.frozen? ⟨g,0,none⟩=false/\w.frozen? ⟨g,1,none⟩=false:=⟨h.cell 0,h.cell 1,h.lt,h.frozen 0,h.frozen 1⟩
theorem sQ {w:World} {g:Nat} {t:TypeId} {cs:Array Value}(h:Ih w g t cs):w.cell? ⟨g,0,none⟩=cs[0]?/\w.cell? ⟨g,1,none⟩=cs[1]?/\w.frozen? ⟨g,0,none⟩=false/\w.frozen? ⟨g,1,none⟩=false/\g<w.heap.size:=⟨h.cell 0,h.cell 1,h.frozen 0,h.frozen 1,h.lt⟩
theorem cG {w:World} {g:Nat} {t:TypeId} {cs:Array Value}(h:Ih w g t cs):w.cell? ⟨g,0,none⟩=cs[0]?/\w.cell? ⟨g,4,none⟩=cs[4]?/\g<w.heap.size:=⟨h.cell 0,h.cell 4,h.lt⟩
theorem fj {w:World} {g:Nat} {t:TypeId} {cs:Array Value}(h:Ih w g t cs):w.cell? ⟨g,0,none⟩=cs[0]?/\g<w.heap.size:=⟨h.cell 0,h.lt⟩
theorem cZ {w:World} {g:Nat} {t:TypeId} {cs:Array Value}(h:Ih w g t cs):w.cell? ⟨g,0,none⟩=cs[0]?/\g<w.heap.size/\w.frozen? ⟨g,0,none⟩=false:=⟨h.cell 0,h.lt,h.frozen 0⟩
theorem dC {w:World} {g:Nat} {t:TypeId} {cs:Array Value}(h:Ih w g t cs):w.cell? ⟨g,0,none⟩=cs[0]?/\w.frozen? ⟨g,0,none⟩=false/\g<w.heap.size:=⟨h.cell 0,h.frozen 0,h.lt⟩
theorem xR {w:World} {g:Nat} {t:TypeId} {cs:Array Value}(h:Ih w g t cs):w.cell? ⟨g,13,none⟩=cs[13]?/\g<w.heap.size/\w.frozen? ⟨g,13,none⟩=false:=⟨h.cell 13,h.lt,h.frozen 13⟩
theorem xS {w:World} {g:Nat} {t:TypeId} {cs:Array Value}(h:Ih w g t cs):w.cell? ⟨g,14,none⟩=cs[14]?/\g<w.heap.size/\w.frozen? ⟨g,14,none⟩=false:=⟨h.cell 14,h.lt,h.frozen 14⟩
theorem F9 {w:World} {g:Nat} {t:TypeId} {cs:Array Value}(h:Ih w g t cs):w.cell? ⟨g,1,none⟩=cs[1]?/\g<w.heap.size:=⟨h.cell 1,h.lt⟩
theorem Ex {w:World} {g:Nat} {t:TypeId} {cs:Array Value}(h:Ih w g t cs):w.cell? ⟨g,2,none⟩=cs[2]?/\w.cell? ⟨g,3,none⟩=cs[3]?:=⟨h.cell 2,h.cell 3⟩
theorem wD {w:World} {g:Nat} {t:TypeId} {cs:Array Value}(h:Ih w g t cs):w.cell? ⟨g,2,none⟩=cs[2]?/\w.cell? ⟨g,3,none⟩=cs[3]?/\g<w.heap.size:=⟨h.cell 2,h.cell 3,h.lt⟩
theorem Ga {w:World} {g:Nat} {t:TypeId} {cs:Array Value}(h:Ih w g t cs):w.cell? ⟨g,3,none⟩=cs[3]?/\g<w.heap.size:=⟨h.cell 3,h.lt⟩
theorem DB {w:World} {g:Nat} {t:TypeId} {cs:Array Value}(h:Ih w g t cs):w.cell? ⟨g,5,none⟩=cs[5]?/\g<w.heap.size:=⟨h.cell 5,h.lt⟩
theorem CL {w:World} {g:Nat} {t:TypeId} {cs:Array Value}(h:Ih w g t cs):g<w.heap.size/\w.cell? ⟨g,0,none⟩=cs[0]?/\w.cell? ⟨g,1,none⟩=cs[1]?:=⟨h.lt,h.cell 0,h.cell 1⟩
theorem eh {w:World} {g:Nat} {t:TypeId} {cs:Array Value}(h:Ih w g t cs):g<w.heap.size/\w.cell? ⟨g,0,none⟩=cs[0]?/\w.cell? ⟨g,1,none⟩=cs[1]?/\w.cell? ⟨g,2,none⟩=cs[2]?:=⟨h.lt,h.cell 0,h.cell 1,h.cell 2⟩
theorem aC {w:World} {g:Nat} {t:TypeId} {cs:Array Value}(h:Ih w g t cs):g<w.heap.size/\w.cell? ⟨g,0,none⟩=cs[0]?/\w.cell? ⟨g,1,none⟩=cs[1]?/\w.cell? ⟨g,2,none⟩=cs[2]?/\w.cell? ⟨g,3,none⟩=cs[3]?:=⟨h.lt,h.cell 0,h.cell 1,h.cell 2,h.cell 3⟩
theorem dM {w:World} {g:Nat} {t:TypeId} {cs:Array Value}(h:Ih w g t cs):g<w.heap.size/\w.cell? ⟨g,0,none⟩=cs[0]?/\w.cell? ⟨g,1,none⟩=cs[1]?/\w.cell? ⟨g,2,none⟩=cs[2]?/\w.cell? ⟨g,3,none⟩=cs[3]?/\w.frozen? ⟨g,0,none⟩=false/\w.frozen? ⟨g,1,none⟩=false/\w.frozen? ⟨g,2,none⟩=false/\w.frozen? ⟨g,3,none⟩=false:=⟨h.lt,h.cell 0,h.cell 1,h.cell 2,h.cell 3,h.frozen 0,h.frozen 1,h.frozen 2,h.frozen 3⟩
theorem sR {w:World} {g:Nat} {t:TypeId} {cs:Array Value}(h:Ih w g t cs):g<w.heap.size/\w.cell? ⟨g,0,none⟩=cs[0]?/\w.cell? ⟨g,1,none⟩=cs[1]?/\w.frozen? ⟨g,0,none⟩=false/\w.frozen? ⟨g,1,none⟩=false:=⟨h.lt,h.cell 0,h.cell 1,h.frozen 0,h.frozen 1⟩
theorem Gb {w:World} {g:Nat} {t:TypeId} {cs:Array Value}(h:Ih w g t cs):w.frozen? ⟨g,0,none⟩=false/\g<w.heap.size:=⟨h.frozen 0,h.lt⟩
theorem sS {w:World} {g:Nat} {t:TypeId} {cs:Array Value}(h:Ih w g t cs):w.frozen? ⟨g,0,none⟩=false/\w.frozen? ⟨g,1,none⟩=false/\w.frozen? ⟨g,2,none⟩=false:=⟨h.frozen 0,h.frozen 1,h.frozen 2⟩
theorem uX {w:World} {g:Nat} {t:TypeId} {cs:Array Value}(h:Ih w g t cs):w.frozen? ⟨g,0,none⟩=false/\w.frozen? ⟨g,1,none⟩=false/\w.frozen? ⟨g,2,none⟩=false/\w.frozen? ⟨g,3,none⟩=false:=⟨h.frozen 0,h.frozen 1,h.frozen 2,h.frozen 3⟩
end
def pI (b:UInt8):Bool:=decide (97<=b.toNat/\b.toNat<=122)
def bE (s:ByteArray):Bool:=s.data.toList.all pI && decide (1<=s.size) && decide (s.size<=12)
def a8 (a b:Int × Int):Bool:=decide (a.1<b.1\/a.1=b.1/\a.2<b.2)
def cO (N:Int) (x:Int × Int):Bool:=decide (0<=x.1/\x.1<N/\0<=x.2/\x.2<N)
def iS (l:List ByteArray):Bool:=l.all bE && decide (l.length<=8)
def bs (N:Int) (E:List (Int × Int)) (W:List (List ByteArray)):Bool :=
 decide (1<=N) && decide (N<=200) && decide (E.length<=2000) && decide ((W.length:Int)=N) && E.all (cO N) && W.all iS
def js {α:Type} [Inhabited α] (lt:α->α->Bool) (l:List α) (i:Nat):Bool:=lt (ae l i) (ae l (i+1))
def dy {α:Type} [Inhabited α] (lt:α->α->Bool) (l:List α):Bool:=(List.range (l.length - 1)).all (js lt l)
theorem eu (f:Nat->Bool) (k:Nat) (h:(List.range k).all f=true) (hf:f k=true):(List.range (k+1)).all f=true:=by
 rw [List.range_succ,List.all_append,h];simp [hf]
theorem dI (f:Nat->Bool) (n k:Nat) (hk:k<n) (hf:f k=false):(List.range n).all f=false:=by
 rw [List.all_eq_false];exact⟨k,by simpa using hk,by simp [hf]⟩
def Fg (N:Int) (E:List (Int × Int)) (W:List (List ByteArray)):Bool:=bs N E W && dy a8 E && W.all (dy a9)
theorem pS {α:Type} [Inhabited α] (f:α->Bool) (l:List α) (k:Nat) (h:k<l.length):(l.take (k+1)).all f=((l.take k).all f && f (ae l k)):=by
 rw [ak l k h,List.all_append];simp
theorem cX {α:Type} [Inhabited α] (f:α->Bool) (l:List α) (k:Nat) (h:k<l.length) (hf:f (ae l k)=false):l.all f=false:=by
 rw [List.all_eq_false];rw [ar h] at hf;exact⟨_,List.getElem_mem h,by simp [hf]⟩
theorem eP {α:Type} [Inhabited α] (f:α->Bool) (l:List α) (k:Nat) (h:k<l.length) (ha:(l.take k).any f=false) (hf:f (ae l k)=false):(l.take (k+1)).any f=false:=by
 rw [ak l k h,List.any_append,ha];simp [hf]
theorem cW {α:Type} [Inhabited α] (f:α->Bool) (l:List α) (k:Nat) (h:k<l.length) (hf:f (ae l k)=true):l.any f=true:=by
 rw [List.any_eq_true];rw [ar h] at hf;exact⟨_,List.getElem_mem h,hf⟩
theorem gE {α:Type} (f:α->Bool) (l:List α) (k:Nat) (h:¬ k<l.length) (ha:(l.take k).any f=false):l.any f=false:=by
 rwa [List.take_of_length_le (by omega)] at ha
theorem i6 {α:Type} [Inhabited α] (f:α->Bool) (l:List α) (k:Nat) (h:k<l.length) (ha:(l.take k).all f=true) (hf:f (ae l k)=true):(l.take (k+1)).all f=true:=by
 rw [ak l k h,List.all_append,ha];simp [hf]
theorem mW {α:Type} (f:α->Bool) (l:List α) (k:Nat) (h:¬ k<l.length) (ha:(l.take k).all f=true):l.all f=true:=by
 rwa [List.take_of_length_le (by omega)] at ha
def CC (W:List (List ByteArray)):Prop:=∀ l∈W,∀ s∈l,s.size<=1000000
theorem vc {N:Int} {E:List (Int × Int)} {W:List (List ByteArray)} (h:¬ (1<=N/\N<=200/\E.length<=2000/\(W.length:Int)=N)):bs N E W=false:=by
 unfold bs
 by_cases h1:1<=N <;> by_cases h2:N<=200 <;> by_cases h3:E.length<=2000 <;> by_cases h4:(W.length:Int)=N <;> simp [h1,h2,h3,h4]
 exact absurd ⟨h1,h2,h3,h4⟩ h
theorem AE {N:Int} {E:List (Int × Int)} {W:List (List ByteArray)} {k:Nat} (hk:k<E.length) (h:cO N (ae E k)=false):bs N E W=false:=by
 unfold bs;rw [cX (cO N) E k hk h];simp
theorem sV {N:Int} {E:List (Int × Int)} {W:List (List ByteArray)} {k:Nat} (hk:k<W.length) (h:iS (ae W k)=false):bs N E W=false:=by
 unfold bs;rw [cX iS W k hk h];simp
theorem vd {N:Int} {E:List (Int × Int)} {W:List (List ByteArray)} (h1:1<=N) (h2:N<=200) (h3:E.length<=2000) (h4:(W.length:Int)=N) (h5:E.all (cO N)=true) (h6:W.all iS=true):bs N E W=true:=by
 unfold bs;rw [h5,h6];simp [h1,h2,h3,h4]
def iQ {α:Type} (lt:α->α->Bool) (l:List α) (x:α):Nat:=(l.takeWhile (fun y=>lt y x)).length
def gC {α:Type} [DecidableEq α] (lt:α->α->Bool) (l:List α) (x:α):List α :=
 if l[iQ lt l x]?=some x then l else l.take (iQ lt l x) ++ ([x] ++ l.drop (iQ lt l x))
theorem Ak {α:Type} (lt:α->α->Bool) (l:List α) (x:α):iQ lt l x<=l.length:=by
 unfold iQ;induction l with
 | nil=>simp
 | cons a l ih=>rw [List.takeWhile_cons];split <;> simp;omega
theorem Al {α : Type} [Inhabited α] (lt : α -> α -> Bool) (l : List α) (x : α) (k : Nat) (hk : k <= l.length) (ha : (l.take k).all (fun y => lt y x) = true) (hs : k < l.length -> lt (ae l k) x = false) : iQ lt l x = k := by
  unfold iQ
  induction l generalizing k with
  | nil => simp at hk; subst hk; rfl
  | cons a l ih =>
    cases k with
    | zero => have := hs (by simp); rw [List.takeWhile_cons]; have e : ae (a :: l) 0 = a := rfl
              rw [e] at this; rw [this]; rfl
    | succ k =>
      simp only [List.take_succ_cons, List.all_cons, Bool.and_eq_true] at ha
      rw [List.takeWhile_cons, ha.1]
      simp only [if_true, List.length_cons]
      have := ih k (by simpa using hk) ha.2 (fun h => hs (by simpa using h))
      omega
theorem y8 {α:Type} [Inhabited α] [DecidableEq α] {lt:α->α->Bool} {l:List α} {x:α} {k:Nat} (h:iQ lt l x=k) (hk:k<l.length) (he:ae l k=x):gC lt l x=l:=by
 unfold gC;rw [h,if_pos];rw [List.getElem?_eq_getElem hk,<- ar hk,he]
theorem uc {α:Type} [Inhabited α] [DecidableEq α] {lt:α->α->Bool} {l:List α} {x:α} {k:Nat} (h:iQ lt l x=k) (he:k<l.length->ae l k≠x):gC lt l x=l.take k ++ ([x] ++ l.drop k):=by
 unfold gC;rw [h,if_neg]
 intro e
 have hk:k<l.length:=by
  rcases Nat.lt_or_ge k l.length with h | h
  ·exact h
  ·rw [List.getElem?_eq_none h] at e;cases e
 rw [List.getElem?_eq_getElem hk] at e;injection e with e
 exact he hk (by rw [ar hk];exact e)
theorem BD {α:Type} [DecidableEq α] (lt:α->α->Bool) (l:List α) (x:α):(gC lt l x).length<=l.length+1:=by
 unfold gC;split
 ·omega
 ·simp;have:=Ak lt l x;omega
def bk {α:Type} [DecidableEq α] (lt:α->α->Bool) (l:List α):List α:=l.foldl (gC lt) []
theorem cD {α β:Type} [Inhabited α] (f:β->α->β) (l:List α) (b:β) (k:Nat) (h:k<l.length):(l.take (k+1)).foldl f b=f ((l.take k).foldl f b) (ae l k):=by
 rw [ak l k h,List.foldl_append];rfl
theorem jZ {α:Type} [DecidableEq α] (lt:α->α->Bool) (l:List α) (b:List α):(l.foldl (gC lt) b).length<=b.length+l.length:=by
 induction l generalizing b with
 | nil=>simp
 | cons a l ih=>simp only [List.foldl_cons,List.length_cons];have:=ih (gC lt b a);have:=BD lt b a;omega
def mC (N:Int) (E:List (Int × Int)) (W:List (List ByteArray)):Int:=if bs N E W then N else 0
def mB (N:Int) (E:List (Int × Int)) (W:List (List ByteArray)):List (Int × Int):=if bs N E W then bk a8 E else []
def mD (N:Int) (E:List (Int × Int)) (W:List (List ByteArray)):List (List ByteArray):=if bs N E W then W.map (bk a9) else []
def oC (N:Int) (E:List (Int × Int)) (W:List (List ByteArray)):Int:=if bs N E W then 0 else 20
theorem eM {α β:Type} [Inhabited α] (f:α->β) (l:List α) (k:Nat) (h:k<l.length):(l.take (k+1)).map f=(l.take k).map f ++ [f (ae l k)]:=by
 rw [ak l k h,List.map_append];rfl
theorem kF {N:Int} {E:List (Int × Int)} {W:List (List ByteArray)} (h:bs N E W=true):1<=N/\N<=200/\E.length<=2000/\(W.length:Int)=N/\E.all (cO N)=true/\W.all iS=true:=by
 unfold bs at h
 simp only [Bool.and_eq_true,decide_eq_true_eq] at h
 obtain⟨⟨⟨⟨⟨a,b⟩,c⟩,d⟩,e⟩,f⟩:=h
 exact⟨a,b,c,d,e,f⟩
theorem zg {W:List (List ByteArray)} (h:W.all iS=true):∀ l∈W,l.length<=8:=by
 intro l hl
 have:=List.all_eq_true.1 h l hl
 unfold iS at this
 simp only [Bool.and_eq_true,decide_eq_true_eq] at this
 exact this.2
theorem oK {α:Type} [DecidableEq α] (lt:α->α->Bool) (l:List α):(bk lt l).length<=l.length:=by
 have:=jZ lt l [];simpa [bk] using this
theorem uf {α:Type} [Inhabited α] {lt:α->α->Bool} {l:List α} {k:Nat} (hk:k+1<l.length) (h:lt (ae l k) (ae l (k+1))=false):dy lt l=false:=by
 unfold dy;exact dI _ _ k (by omega) h
theorem rc {α:Type} [Inhabited α] {lt:α->α->Bool} {l:List α} {k:Nat} (hk:¬ k<l.length) (h:(List.range (k - 1)).all (js lt l)=true):dy lt l=true:=by
 unfold dy
 rw [List.all_eq_true] at h ⊢
 intro i hi
 have:=List.mem_range.1 hi
 exact h i (List.mem_range.2 (by omega))
theorem aq {a b:Bool} (h:a=b):Ending.returned (.bool a)=.returned (.bool b):=by rw [h]
theorem xi (s:ByteArray) (k:Nat) (h:k<s.size):ae s.data.toList k=s[k]:=by
 rw [ar (by simpa using h)];rfl
theorem lw (s:ByteArray) (k:Nat) (h:k<s.size) (hb:(s[k].toNat:Int)<97\/122<(s[k].toNat:Int)):false=bE s:=by
 unfold bE
 rw [cX pI s.data.toList k (by simpa using h) (by rw [xi s k h];unfold pI;rw [decide_eq_false_iff_not];omega)]
 rfl
theorem pg (s:ByteArray) (k:Nat) (h:k<s.size) (ha:(s.data.toList.take k).all pI=true) (h1:97<=(s[k].toNat:Int)) (h2:(s[k].toNat:Int)<=122):(s.data.toList.take (k+1)).all pI=true:=by
 rw [pS pI s.data.toList k (by simpa using h),ha,xi s k h]
 simp [pI];omega
theorem rq (s:ByteArray) (k:Nat) (h:¬ k<s.size) (ha:(s.data.toList.take k).all pI=true):bE s=(decide (1<=s.size) && decide (s.size<=12)):=by
 unfold bE
 rw [List.take_of_length_le (by simp;omega)] at ha
 rw [ha];simp
theorem Ah (s:ByteArray) (w:World) (hs:s.size<=140737488355328):Calls prog 133 #[.string s] w fun e w'=>e=.returned (.bool (bE s))/\w=w':=by
 go_enter func133,ntmps133
 go_wp2
 go_loop [3] (fun i=>∃ k:Nat,k<=s.size/\i=.int .i64 k/\(s.data.toList.take k).all pI=true) (fun i=>s.size - (intOf i).toNat)
 case atStart=>exact⟨0,Nat.zero_le _,rfl,rfl⟩
 case round =>
  obtain⟨k,hk,rfl,ha⟩:=hrel
  have HA:=lh ha;clear ha
  by_cases hlt:k<s.size
  ·by_cases h1:(s[k].toNat:Int)<97
   ·go_wp2
    go_ret
    exact⟨aq (lw s k hlt (by omega)),rfl⟩
   ·by_cases h2:122<(s[k].toNat:Int)
    ·go_wp2
     go_ret
     exact⟨aq (lw s k hlt (by omega)),rfl⟩
    ·go_wp2
     go_round
     case rel=>exact⟨k+1,by omega,by go_num,pg s k hlt HA.out (by omega) (by omega)⟩
     case measure=>simp [intOf];omega
  ·have HE:=lh (rq s k hlt HA.out)
   by_cases h1:1<=s.size
   ·go_wp2
    go_ret
    exact⟨aq (by rw [HE.out];simp [h1];try omega),rfl⟩
   ·go_wp2
    go_ret
    exact⟨aq (by rw [HE.out];simp [h1];try omega),rfl⟩
theorem He:(prog.info? 9).map (fun i=>(i.zero,i.size,i.bytes))=some (some (.string ByteArray.empty),1,16):=by kernel_rfl
section
open Go Go.RowKit
structure J6 (w:World) (b:Nat) (N:Int) (pe:Option Addr) (ne ce:Nat) (pw:Option Addr) (nw cw:Nat):Prop where
 c0:w.cell? ⟨b,0,none⟩=some (.int .i64 N)
 c1:w.cell? ⟨b,1,none⟩=some (.slice pe ne ce)
 c2:w.cell? ⟨b,2,none⟩=some (.slice pw nw cw)
section
variable {w w':World} {b:Nat} {N:Int} {pe:Option Addr} {ne ce:Nat} {pw:Option Addr} {nw cw:Nat}
theorem J6.ext (h:J6 w b N pe ne ce pw nw cw) (he:Ext w w'):J6 w' b N pe ne ce pw nw cw:=⟨he.cell h.c0,he.cell h.c1,he.cell h.c2⟩
theorem J6.new (w:World) (t:TypeId):J6 (w.alloc (.cells #[.int .i64 N,.slice pe ne ce,.slice pw nw cw] t)) w.heap.size N pe ne ce pw nw cw:=⟨by simp,by simp,by simp⟩
end
def th (x y:Int × Int):Bool:=decide (x=y)
theorem nU (a b c d:Int) (w:World):(binOp .eql 98 (.agg #[.int .i64 a,.int .i64 b]) (.agg #[.int .i64 c,.int .i64 d])).run prog w=.ok (.bool (th (a,b) (c,d))) w:=by
 have u3:=underlying3
 have a3:=isAgg3
 have z3:=sizeOf3
 have hS:prog.underlying 98=some (.struct (prog.fieldsOf 98)):=by kernel_rfl
 have hp:prog.stoodInHeld 98=false:=by kernel_rfl
 rw [run_eql_struct,show (10000:Nat)=9999+1 from rfl,run_equalIn_agg w 9999 98 _ _ hS hp]
 simp only [Program.fieldsOf,underlying98]
 go_simp
 by_cases h1:a=c <;> by_cases h2:b=d <;> simp [h1,h2,th]
theorem m8 (a b c d:Int) (w:World):(binOp .neq 98 (.agg #[.int .i64 a,.int .i64 b]) (.agg #[.int .i64 c,.int .i64 d])).run prog w=.ok (.bool (!th (a,b) (c,d))) w:=by
 have h:=nU a b c d w
 rw [run_eql_struct] at h
 rw [run_neq_struct]
 generalize (Op.equalIn 10000 98 (.agg #[.int .i64 a,.int .i64 b]) (.agg #[.int .i64 c,.int .i64 d])).run prog w=r at h ⊢
 cases r with
 | ok x w1=>simp only [Result.andThen_ok,Result.ok.injEq,Value.bool.injEq] at h ⊢;rw [h.1,h.2];simp
 | halt x w1=>simp [Result.andThen] at h
theorem jI (op:BinOp) (x y:Operand) (xs ys:Array Value) (w:World):(eqGuard op 98 x y (.agg xs) (.agg ys)).run prog w=.ok () w:=run_eqGuard_agg w op 98 x y xs ys (by kernel_rfl)
attribute [local go_sem ↓] nU m8 jI
end
theorem DA (s : ByteArray) (w : World) (hs : s.size <= 140737488355328) : Calls prog 129 #[.string s] w fun e w' => e = .returned (.bool (bE s)) /\ w = w' := by
  go_enter func129, ntmps129
  go_wp2
  go_loop [3, 6] (fun _ i => ∃ k : Nat, k <= s.size /\ i = .int .i64 k /\ (s.data.toList.take k).all pI = true) (fun _ i => s.size - (intOf i).toNat)
  case atStart => exact ⟨0, Nat.zero_le _, rfl, rfl⟩
  case round =>
    obtain ⟨k, hk, rfl, ha⟩ := hrel
    have HA := lh ha; clear ha
    by_cases hlt : k < s.size
    · by_cases h1 : (s[k].toNat : Int) < 97
      · go_wp2
        go_ret
        exact ⟨aq (lw s k hlt (by omega)), rfl⟩
      · by_cases h2 : 122 < (s[k].toNat : Int)
        · go_wp2
          go_ret
          exact ⟨aq (lw s k hlt (by omega)), rfl⟩
        · go_wp2
          go_round
          case rel => exact ⟨k + 1, by omega, by go_num, pg s k hlt HA.out (by omega) (by omega)⟩
          case measure => simp [intOf]; omega
    · have HE := lh (rq s k hlt HA.out)
      by_cases h1 : s.size = 0
      · have he : s.toList = [] := by rw [ByteArray.toList_eq]; have : s.data.size = 0 := h1; exact List.length_eq_zero_iff.1 (by simpa using this)
        have he2 : (!s.toList.isEmpty) = false := by rw [he]; rfl
        have HZ := lh h1; clear h1
        go_wp2
        go_ret
        exact ⟨aq (by rw [HE.out, HZ.out]; rfl), rfl⟩
      · have he : s.toList ≠ [] := by rw [ByteArray.toList_eq]; intro h; apply h1; have : s.data.toList.length = 0 := by rw [h]; rfl
                                      simpa using this
        have he2 : (!s.toList.isEmpty) = true := by simp [he]
        go_wp2
        go_ret
        exact ⟨aq (by rw [HE.out, Bool.eq_iff_iff]; simp; omega), rfl⟩
theorem dS (N:Int) (pe:Option Addr) (ne ce:Nat) (pw:Option Addr) (nw cw:Nat) (v:Int) (w:World) :
  Calls prog 221 #[.agg #[.int .i64 N,.slice pe ne ce,.slice pw nw cw],.int .i64 v] w fun e w'=>e=.returned (.bool (decide (0<=v/\v<N)))/\Ext w w':=by
 by_cases h:0<=v
 ·go_enter func221,ntmps221
  go_wp2
  go_ret
  exact⟨aq (by rw [Bool.eq_iff_iff];simp [h]),(Below.refl _ _).alloc (Nat.le_refl _) _⟩
 ·go_enter func221,ntmps221
  go_wp2
  go_ret
  exact⟨aq (by rw [Bool.eq_iff_iff];simp;omega),(Below.refl _ _).alloc (Nat.le_refl _) _⟩
theorem sq (s:ByteArray) (w:World) (hs:s.size<=140737488355328):Calls prog 222 #[.string s] w fun e w'=>e=.returned (.bool (!bE s))/\w=w':=by
 go_enter func222,ntmps222
 go_wp2_with (go_at_call 129;refine(DA _ _ hs).mono ?_;rintro e w' ⟨rfl,rfl⟩)
 go_ret
 exact⟨rfl,rfl⟩
theorem xB (p:Option Addr) (n c:Nat) (l:List ByteArray) (w:World) (hl:Rd w 1 p n (bg l)) (hz:∀ s∈l,s.size<=1000000) :
  Calls prog 197 #[.slice p n c,.func (.func 222) #[] #[]] w fun e w'=>∃ i:Int,e=.returned (.int .i64 i)/\decide (0<=i)=l.any (fun s=>!bE s)/\w=w':=by
 have p1:=hl.ptr
 have n1:=hl.small
 have l1:=hl.nS
 have HL:=lh hl;clear hl
 have L1:=lh l1;clear l1
 have HZ:=lh hz;clear hz
 go_enter func197,ntmps197
 go_wp2
 go_loop [5,8] (fun _ i=>∃ k:Nat,k<=n/\i=.int .i64 k/\(l.take k).any (fun s=>!bE s)=false) (fun _ i=>n - (intOf i).toNat)
 case atStart=>exact⟨0,Nat.zero_le _,rfl,rfl⟩
 case round =>
  obtain⟨k,hk,rfl,ha⟩:=hrel
  have HA:=lh ha;clear ha
  by_cases hlt:k<n
  ·have g1:=HL.out.cS hlt
   have hsz:(ae l k).size<=140737488355328:=by
    have:=HZ.out (ae l k) (by rw [ar (by rw [<- L1.out];exact hlt)];exact List.getElem_mem _)
    omega
   by_cases hw:(!bE (ae l k))=true
   ·have HF:=lh (cW (fun s=>!bE s) l k (by rw [<- L1.out];exact hlt) hw)
    go_wp2_with (go_at_call 222;refine(sq _ _ hsz).mono ?_;rintro e w' ⟨rfl,rfl⟩)
    go_ret
    exact⟨_,rfl,by rw [HF.out];simp,rfl⟩
   ·have hw':(!bE (ae l k))=false:=by simpa using hw
    have Ob:=lh hw'
    clear hw
    go_wp2_with (go_at_call 222;refine(sq _ _ hsz).mono ?_;rintro e w' ⟨rfl,rfl⟩)
    go_round
    case rel=>exact⟨k+1,by omega,by go_num,eP _ _ _ (by rw [<- L1.out];exact hlt) HA.out Ob.out⟩
    case measure=>simp [intOf];omega
  ·have HF:=lh (gE _ _ _ (by rw [<- L1.out];exact hlt) HA.out)
   go_wp2
   go_ret
   exact⟨_,rfl,by rw [HF.out];rfl,rfl⟩
theorem ku (p:Option Addr) (n c:Nat) (l:List ByteArray) (w:World) (hl:Rd w 1 p n (bg l)) (hz:∀ s∈l,s.size<=1000000) :
  Calls prog 130 #[.slice p n c,.func (.func 222) #[] #[]] w fun e w'=>e=.returned (.bool (l.any (fun s=>!bE s)))/\w=w':=by
 have HC:=lh (xB p n c l w hl hz)
 clear hl hz
 go_enter func130,ntmps130
 go_wp2_with (go_at_call 197;refine HC.out.mono ?_;rintro e w' ⟨i,rfl,hi,rfl⟩;have HI:=lh hi;clear hi)
 go_ret
 exact⟨aq HI.out,rfl⟩
section
open Go Go.RowKit
structure Sq where
 s:Int
 r:Int
 v:Int
 d:Int
deriving Inhabited,DecidableEq
def au (l:List Sq):List Value:=l.flatMap fun x=>[.int .i64 x.s,.int .i64 x.r,.int .i64 x.v,.int .i64 x.d]
theorem dq (l:List Sq):(au l).length=l.length*4:=by
 induction l with
 | nil=>rfl
 | cons x l ih=>simp only [au,List.flatMap_cons,List.length_append,List.length_cons] at ih ⊢;rw [ih];simp;omega
theorem bC (l m:List Sq):au (l ++ m)=au l ++ au m:=by simp [au]
theorem nT (l:List Sq):∀ (k:Nat),k<l.length->(au l).getD (k*4) undef=.int .i64 (ae l k).s/\(au l).getD (k*4+1) undef=.int .i64 (ae l k).r/\(au l).getD (k*4+2) undef=.int .i64 (ae l k).v/\(au l).getD (k*4+3) undef=.int .i64 (ae l k).d:=by
 induction l with
 | nil=>intro k h;simp at h
 | cons x l ih =>
  intro k h
  cases k with
  | zero=>exact⟨rfl,rfl,rfl,rfl⟩
  | succ k =>
   have h2:k<l.length:=by simp at h;omega
   have e:au (x :: l)=[.int .i64 x.s,.int .i64 x.r,.int .i64 x.v,.int .i64 x.d] ++ au l:=rfl
   have e2:ae (x :: l) (k+1)=ae l k:=rfl
   rw [e,e2,show (k+1)*4=k*4+4 from by omega]
   obtain⟨h3,h4,h5,h6⟩:=ih k h2
   refine⟨?_,?_,?_,?_⟩
   ·rw [<- h3];rfl
   ·rw [<- h4];rfl
   ·rw [<- h5];rfl
   ·rw [<- h6];rfl
section
variable {w:World} {p:Option Addr} {n:Nat} {l:List Sq}
theorem Rd.nQ (h:Rd w 4 p n (au l)):n=l.length:=by have:=h.len;rw [dq] at this;omega
theorem Rd.cQ (h:Rd w 4 p n (au l)) {k:Nat} (hk:k<n):w.cell? (be p (k*4))=some (.int .i64 (ae l k).s)/\w.cell? (be p (k*4+1))=some (.int .i64 (ae l k).r)/\w.cell? (be p (k*4+2))=some (.int .i64 (ae l k).v)/\w.cell? (be p (k*4+3))=some (.int .i64 (ae l k).d):=by
 have hl:=h.nQ
 obtain⟨g1,g2,g3,g4⟩:=nT l k (by omega)
 refine⟨?_,?_,?_,?_⟩
 ·rw [h.cells (k*4) (by omega),g1]
 ·rw [h.cells (k*4+1) (by omega),g2]
 ·rw [h.cells (k*4+2) (by omega),g3]
 ·rw [h.cells (k*4+3) (by omega),g4]
end
end
def fh (v n:Int):Bool:=decide (0<=v) && decide (v<n)
theorem oJ {v n:Int}:fh v n=true↔0<=v/\v<n:=by
 unfold fh
 rw [Bool.and_eq_true,decide_eq_true_eq,decide_eq_true_eq]
def eV (ws:List ByteArray):Bool:=decide (1<=ws.length) && decide (ws.length<=8) && ws.all bE
def kV (rad most:Int):Bool:=decide (0<=rad) && decide (rad<=200) && decide (1<=most) && decide (most<=100)
def Bq (k f t:Int) (ws:List ByteArray) (rad most n:Int):Bool :=
 if k=1\/k=2 then fh f n && fh t n else if k=3 then fh f n && eV ws && kV rad most else false
def b7 (k f t:Int) (ws:List ByteArray) (rad most n:Int):Int:=if Bq k f t ws rad most n=true then 0 else 180
theorem nM {k f t rad most n:Int} {ws:List ByteArray} (h:Bq k f t ws rad most n=true):b7 k f t ws rad most n=0:=by unfold b7;rw [if_pos h]
theorem bL {k f t rad most n:Int} {ws:List ByteArray} (h:Bq k f t ws rad most n=false):b7 k f t ws rad most n=180:=by unfold b7;rw [h];rfl
theorem lK {k f t rad most n:Int} {ws:List ByteArray}:b7 k f t ws rad most n=0↔Bq k f t ws rad most n=true:=by
 unfold b7
 cases Bq k f t ws rad most n <;> simp
theorem oD {k f t rad most n:Int} {ws:List ByteArray} (h:k=1\/k=2):Bq k f t ws rad most n=(fh f n && fh t n):=by unfold Bq;rw [if_pos h]
theorem wR {f t rad most n:Int} {ws:List ByteArray}:Bq 3 f t ws rad most n=(fh f n && eV ws && kV rad most):=by unfold Bq;rw [if_neg (by omega),if_pos rfl]
theorem ij {k f t rad most n:Int} {ws:List ByteArray} (h:¬ (k=1\/k=2)) (h3:k≠3):Bq k f t ws rad most n=false:=by unfold Bq;rw [if_neg h,if_neg h3]
def aL (k f t s:Int):List Sq:=if k=1 then [⟨s,0,f,0⟩,⟨s,1,t,0⟩] else if k=2\/k=3 then [⟨s,0,f,0⟩] else []
def DU (ck b:Bool) (x:Sq):Int:=if ck=false then 40 else if b=true/\(x.r=0\/x.r=1)/\0<=x.d/\x.d<=200 then 0 else 1
def EU (k rad:Int) (e:Int) (x:Sq) (L:List Int):List Sq:=if e=0/\¬ (k=3/\rad<=x.d) then L.map (fun v=>⟨x.s,x.r,v,x.d+1⟩) else []
theorem gV {k rad e:Int} {x:Sq} {L:List Int} (h:e≠0\/(k=3/\rad<=x.d)):EU k rad e x L=[]:=by
 unfold EU
 rw [if_neg (fun h2=>h.elim (fun h3=>h3 h2.1) h2.2)]
theorem rX {k rad e:Int} {x:Sq} {L:List Int} (h:e=0) (h2:¬ (k=3/\rad<=x.d)):EU k rad e x L=L.map (fun v=>⟨x.s,x.r,v,x.d+1⟩):=by
 unfold EU
 rw [if_pos ⟨h,h2⟩]
theorem Bp {b:Bool} {x:Sq}:DU false b x=40:=rfl
theorem wP {b:Bool} {x:Sq} (h:¬ (b=true/\(x.r=0\/x.r=1)/\0<=x.d/\x.d<=200)):DU true b x=1:=by unfold DU;rw [if_neg (by simp),if_neg h]
theorem wO {b:Bool} {x:Sq} (h:b=true/\(x.r=0\/x.r=1)/\0<=x.d/\x.d<=200):DU true b x=0:=by unfold DU;rw [if_neg (by simp),if_pos h]
def fg (M:List Sq) (r:Int):Bool:=M.any fun x=>x.r == r
def Ar (l:List Sq) (t:Int):Bool:=l.any fun x=>x.r == 0 && x.v == t
theorem wA {l:List Sq} {t:Int}:Ar l t=true↔∃ x∈l,x.r=0/\x.v=t:=by
 unfold Ar
 rw [List.any_eq_true]
 constructor
 ·rintro⟨x,h1,h2⟩;simp at h2;exact⟨x,h1,h2⟩
 ·rintro⟨x,h1,h2,h3⟩;exact⟨x,h1,by simp [h2,h3]⟩
def jV (l:List Sq) (P:List Int):List (Int × Int):=(l.filter fun x=>x.r == 0 && P.contains x.v).map fun x=>(x.v,x.d)
theorem yD (l:List Sq) (P:List Int) (x:Sq):jV (l ++ [x]) P=if (x.r == 0 && P.contains x.v)=true then jV l P ++ [(x.v,x.d)] else jV l P:=by
 unfold jV
 rw [List.filter_append,List.map_append]
 by_cases h:(x.r == 0 && P.contains x.v)=true
 ·rw [if_pos h];simp only [List.filter_cons,h,if_true,List.filter_nil];rfl
 ·rw [if_neg h];simp only [List.filter_cons,h,List.filter_nil];simp
section
open Go Go.RowKit
def fP (ops:Array Oper) (i:Nat):List Nat :=
 match ops[i]? with
 | some o=>(o.after.toList.filter (Region.binds .any)).map (·.on)
 | none=>[]
def n8 (ops:Array Oper) (n:Nat):Bool :=
 decide (n<=ops.size) && (List.range n).all (fun i=>(fP ops i).all (fun j=>decide (j<i)) && (match ops[i]? with | some o=>o.guard.isNone | none=>false)) &&
 (decide (n=ops.size) || (Region.sinkB .any ops n && Region.chainB .any ops n && decide (n<ops.size))) &&
 Region.seqB .any ops (ops.size - n) n (Array.ofFn (n:=ops.size) fun i=>decide (i.val<n))
def B9 (vs:Nat->Value) (i:Nat) (v:Value):Nat->Value:=fun j=>if j=i then v else vs j
theorem lr (vs:Nat->Value) (i:Nat) (v:Value):B9 vs i v i=v:=by simp [B9]
theorem ir (vs:Nat->Value) {i j:Nat} (v:Value) (h:j≠i):B9 vs i v j=vs j:=by simp [B9,h]
section
variable {P:Program} {ops:Array Oper} {Q:Exit->Act->World->Prop}
def eJ (listed:Array Bool) (n:Nat):Nat:=((List.range n).filter fun i=>!listed.getD i false).length
theorem wi {listed:Array Bool} {n i:Nat} (hi:i<n) (hs:i<listed.size) (hu:listed.getD i false=false):eJ (listed.setIfInBounds i true) n+1=eJ listed n:=by
 unfold eJ
 have key:∀ m,m<=n->((List.range m).filter fun j=>!(listed.setIfInBounds i true).getD j false).length+(if i<m then 1 else 0)=((List.range m).filter fun j=>!listed.getD j false).length:=by
  intro m
  induction m with
  | zero=>intro _;simp
  | succ m ih =>
   intro hm
   have h:=ih (by omega)
   have fl:∀ p:Nat->Bool,(List.filter p [m]).length=if p m then 1 else 0:=by
    intro p;rw [List.filter_cons];split <;> rfl
   rw [List.range_succ,List.filter_append,List.filter_append,List.length_append,List.length_append,fl,fl]
   by_cases e:m=i
   ·subst e
    have h1:(listed.setIfInBounds m true).getD m false=true:=by simp [hs]
    rw [if_neg (Nat.lt_irrefl _)] at h
    rw [h1,hu,if_pos (Nat.lt_succ_self m)]
    simp only [Bool.not_true,Bool.not_false,if_true]
    simp at h ⊢;omega
   ·have h1:(listed.setIfInBounds i true).getD m false=listed.getD m false:=getD_set_ne false (Ne.symm e)
    rw [h1]
    by_cases c:i<m
    ·rw [if_pos c] at h;rw [if_pos (by omega:i<m+1)];omega
    ·rw [if_neg c] at h;rw [if_neg (by omega:¬ i<m+1)];omega
 have:=key n (Nat.le_refl _)
 rw [if_pos hi] at this
 exact this
theorem mN {listed:Array Bool} {n:Nat} (h:eJ listed n=0):∀ i,i<n->listed.getD i false=true:=by
 intro i hi
 unfold eJ at h
 have h1:=List.eq_nil_of_length_eq_zero h
 rw [List.filter_eq_nil_iff] at h1
 have:=h1 i (List.mem_range.2 hi)
 simpa using this
theorem wh {listed:Array Bool} {n:Nat} (h:0<eJ listed n):∃ i,i<n/\listed.getD i false=false/\∀ j,j<i->listed.getD j false=true:=by
 have hex:∃ i,i<n/\listed.getD i false=false:=by
  unfold eJ at h
  obtain⟨x,hx⟩:=List.exists_mem_of_length_pos h
  rw [List.mem_filter] at hx
  exact⟨x,List.mem_range.1 hx.1,by simpa using hx.2⟩
 obtain⟨i,hi,hu⟩:=hex
 induction i using Nat.strongRecOn with
 | _ i ih =>
  by_cases hall:∀ j,j<i->listed.getD j false=true
  ·exact⟨i,hi,hu,hall⟩
  ·obtain⟨j,hj⟩:=Classical.not_forall.1 hall
   obtain⟨hj1,hj2⟩:=Classical.not_imp.1 hj
   exact ih j hj1 (by omega) (by simpa using hj2)
theorem tL {i j:Nat} {o:Oper} (ho:ops[i]?=some o):j∈fP ops i↔∃ e∈o.after,Region.binds .any e=true/\e.on=j:=by
 unfold fP;rw [ho]
 simp only [List.mem_map,List.mem_filter]
 constructor
 ·rintro⟨e,⟨he,hb⟩,rfl⟩;exact⟨e,by simpa using he,hb,rfl⟩
 ·rintro⟨e,he,hb,rfl⟩;exact⟨e,⟨by simpa using he,hb⟩,rfl⟩
theorem zD {n:Nat} (F:(Nat->Value)->Act) (R:Nat->Value->World->Prop) (W1:World) (hB:n8 ops n=true)
  (mono:∀ i v W W',Ext W W'->R i v W->R i v W')
  (step:∀ i,i<n->∀ vs W,Ext W1 W->(∀ j∈fP ops i,R j (vs j) W)->∀ o,ops[i]?=some o->o.wp P (F vs) W (fun a' W'=>∃ v,a'=F (B9 vs i v)/\R i v W'/\Ext W W') Q)
  (rest:∀ vs W,Ext W1 W->(∀ i,i<n->R i (vs i) W)->wpList P ops Q (ops.toList.drop n) (F vs) W) :
  ∀ (f:Nat) (listed:Array Bool) (vs:Nat->Value) (W:World),f=eJ listed n+(ops.size - n)->HeadInv .any ops n listed->Ext W1 W->(∀ i,i<n->listed.getD i false=true->R i (vs i) W) ->
   wpAny P .any ops Q f listed (F vs) W:=by
 simp only [n8,Bool.and_eq_true,decide_eq_true_eq,Bool.or_eq_true] at hB
 obtain⟨⟨⟨hn,hhead⟩,htl⟩,hseq⟩:=hB
 intro f
 induction f with
 | zero =>
  intro listed vs W hf inv hW hR
  have h0:eJ listed n=0:=by omega
  have hs:ops.size - n=0:=by omega
  have hall:=mN h0
  refine⟨?_,?_⟩
  ·apply List.eq_nil_iff_forall_not_mem.2
   intro j hj
   obtain⟨h1,o,ho,_⟩:=mem_ready.1 hj
   have hj2:j<ops.size:=(Array.getElem?_eq_some_iff.1 ho).1
   have:=hall j (by omega)
   rw [getD_both h1] at this;cases this
  ·have:=rest vs W hW (fun i hi=>hR i hi (hall i hi))
   rw [List.drop_of_length_le (by simp;omega)] at this
   exact this
 | succ f ih =>
  intro listed vs W hf inv hW hR
  by_cases h0:eJ listed n=0
  ·
   have hall:=mN h0
   have hl:listed=Array.ofFn (n:=ops.size) fun i=>decide (i.val<n):=by
    apply Array.ext
    ·rw [inv.size];simp
    ·intro i h1 h2
     have h3:i<ops.size:=by rw [inv.size] at h1;exact h1
     simp only [Array.getElem_ofFn]
     by_cases hi:i<n
     ·have:=hall i hi
      simp [h1] at this
      simp [hi,this]
     ·have:=inv.tail i (by omega) h3
      simp [h1] at this
      simp [hi,this]
   have hw:=wpAny_of_seq (md:=.any) (Q':=Q) (ops.toList.drop n) n listed (F vs) W (fun j=>by simp [List.getElem?_drop]) (by rw [hl];simpa using hseq) (rest vs W hW (fun i hi=>hR i hi (hall i hi)))
   have e:(ops.toList.drop n).length=f+1:=by simp;omega
   rw [e] at hw
   exact hw
  ·obtain⟨i0,hi0,hu0,hbelow⟩:=wh (by omega:0<eJ listed n)
   have MK:i0<ops.size:=by omega
   have hr0:i0∈Region.ready .any ops listed:=by
    rw [mem_ready]
    refine⟨getD_in (by rw [inv.size];exact MK) hu0,ops[i0],Array.getElem?_eq_getElem MK,fun e he hb=>hbelow _ ?_⟩
    have:=List.all_eq_true.1 hhead i0 (List.mem_range.2 hi0)
    simp only [Bool.and_eq_true] at this
    have h2:=List.all_eq_true.1 this.1 e.on ((tL (Array.getElem?_eq_getElem MK)).2 ⟨e,he,hb,rfl⟩)
    simpa using h2
   refine⟨fun h=>(by rw [h] at hr0;cases hr0),fun i hi=>?_⟩
   obtain⟨hiu,o,ho,Ow⟩:=mem_ready.1 hi
   have his:i<ops.size:=(Array.getElem?_eq_some_iff.1 ho).1
   have hin:i<n:=by
    rcases Nat.lt_or_ge i n with h | h
    ·exact h
    ·exfalso
     rcases htl with h1 | ⟨⟨hs,hc⟩,hnl⟩
     ·omega
     ·exact tail_waits hs hc hnl inv _ i0 rfl hi0 (getD_in (by rw [inv.size];exact MK) hu0) i h hi
   have hg:o.guard=none:=by
    have:=List.all_eq_true.1 hhead i (List.mem_range.2 hin)
    simp only [Bool.and_eq_true,ho] at this
    simpa using this.2
   have hst:=step i hin vs W hW (fun j hj=>by
    obtain⟨e,he,hb,rfl⟩:=(tL ho).1 hj
    have hlt:e.on<n:=by
     have:=List.all_eq_true.1 hhead i (List.mem_range.2 hin)
     simp only [Bool.and_eq_true] at this
     have h2:=List.all_eq_true.1 this.1 e.on hj
     have:e.on<i:=by simpa using h2
     omega
    exact hR _ hlt (Ow e he hb)) o ho
   unfold wpOp
   simp only [ho]
   rw [if_pos (by simp [Region.wanted,hg])]
   refine .inl (Oper.wp_mono ?_ hst)
   rintro a' W' ⟨v,rfl,hRv,hE⟩
   have hset:=wi (listed:=listed) hin (by rw [inv.size];exact his) (getD_both hiu)
   refine ih (listed.setIfInBounds i true) (B9 vs i v) W' (by omega) (inv.set hi hin) (Ext.trans hW hE) (fun j hj hl=>?_)
   by_cases e:j=i
   ·subst e;rw [lr];exact hRv
   ·rw [ir vs v e]
    rw [getD_set_ne false (Ne.symm e)] at hl
    exact mono j _ W W' hE (hR j hj hl)
theorem pW {id:Nat} {a:Act} {w:World} {l:List Oper} (n:Nat) (F:(Nat->Value)->Act) (Vb:Nat->Value) (R:Nat->Value->World->Prop) (hm:P.follows .mixedOrders=true) (hB:n8 l.toArray n=true) (ha:a=F Vb)
  (mono:∀ i v W W',Ext W W'->R i v W->R i v W')
  (step:∀ i,i<n->∀ vs W,Ext w W->(∀ j∈fP l.toArray i,R j (vs j) W)->∀ o,l.toArray[i]?=some o->o.wp P (F vs) W (fun a' W'=>∃ v,a'=F (B9 vs i v)/\R i v W'/\Ext W W') Q)
  (rest:∀ vs W,Ext w W->(∀ i,i<n->R i (vs i) W)->wpList P l.toArray Q (l.drop n) (F vs) W):(Code.region id l.toArray true).wp P Q a w:=by
 subst ha
 refine wp_region_any hm ?_
 have inv0:HeadInv .any l.toArray n (Array.replicate l.toArray.size false) :=
  ⟨by simp,fun j oj _ hl=>(by rw [getD_replicate_false] at hl;cases hl),fun t _ ht=>getD_in (by simpa using ht) (getD_replicate_false _ _)⟩
 have hd:Ext w { w with drawn:=w.drawn+1 }:=⟨rfl,rfl,rfl,Nat.le_refl _,fun _ _=>rfl⟩
 have hcount:eJ (Array.replicate l.toArray.size false) n=n:=by
  unfold eJ
  rw [List.filter_eq_self.2 (fun i _=>by rw [getD_replicate_false];rfl)]
  simp
 have hn:n<=l.toArray.size:=by
  simp only [n8,Bool.and_eq_true,decide_eq_true_eq] at hB
  exact hB.1.1.1
 have:=zD (P:=P) (Q:=Q) F R w hB mono step rest l.toArray.size (Array.replicate l.toArray.size false) Vb { w with drawn:=w.drawn+1 } (by rw [hcount];omega) inv0 hd (fun i _ hl=>by rw [getD_replicate_false] at hl;cases hl)
 exact this
def eD (a:Act) (ds:List Nat) (vs:Nat->Value):Act:={ a with tmps:=a.tmps.mapIdx fun s x=>match ds.idxOf? s with | some k=>vs k | none=>x }
def jO (P:Program) (W:World) (Rv:Value->World->Prop):Result Next->Prop
 | .ok (.value v) W'=>Rv v W'/\Ext W W'
 | .ok .skip W'=>Rv undef W'/\Ext W W'
 | .ok (.enter f args) W'=>Calls P f args W' (fun e W''=>∃ v,e=.returned v/\Rv v W''/\Ext W W'')
 | _=>False
attribute [go_sem] jO
theorem pN {a:Act} {ds:List Nat} {vs:Nat->Value} {k s:Nat} (h:ds.idxOf? s=some k) (hs:s<a.tmps.size):(eD a ds vs).eval (.tmp s)=vs k:=by
 simp [eD,Act.eval,h,hs]
theorem oL {a:Act} {ds:List Nat} {vs:Nat->Value} {s:Nat} (h:ds.idxOf? s=none):(eD a ds vs).eval (.tmp s)=a.eval (.tmp s):=by
 simp only [eD,Act.eval]
 by_cases hs:s<a.tmps.size
 ·simp [h,hs]
 ·simp [hs]
theorem y7 {a:Act} {ds:List Nat} {vs:Nat->Value} {i d:Nat} {v:Value} (hd:ds.idxOf? d=some i) (hinj:∀ s k,ds.idxOf? s=some k->k=i->s=d):(eD a ds vs).put (some d) v=eD a ds (B9 vs i v):=by
 unfold eD Act.put
 simp only
 congr 1
 apply Array.ext_getElem?
 intro s
 rw [Array.getElem?_setIfInBounds]
 by_cases e:d=s
 ·subst e
  rw [if_pos rfl]
  by_cases hs:d<a.tmps.size
  ·simp [hs,hd,lr]
  ·simp [hs]
 ·rw [if_neg e]
  simp only [Array.getElem?_mapIdx]
  cases hx:a.tmps[s]? with
  | none=>rfl
  | some x =>
   simp only [Option.map_some]
   cases hk:ds.idxOf? s with
   | none=>rfl
   | some k =>
    have:k≠i:=fun h=>e (hinj s k hk h).symm
    simp [ir vs v this]
def GS (l:List Oper) (n size:Nat) (ds:List Nat):Bool :=
 decide ((l.take n).map (·.dst)=ds.map some) && decide ds.Nodup && ds.all (fun d=>decide (d<size))
theorem gq {id:Nat} {a:Act} {w:World} {l:List Oper} (n:Nat) (ds:List Nat) (R:Nat->Value->World->Prop) (hm:P.follows .mixedOrders=true) (hB:n8 l.toArray n=true) (hds:GS l n a.tmps.size ds=true)
  (mono:∀ i v W W',Ext W W'->R i v W->R i v W')
  (step:∀ i,i<n->∀ (ev:Operand->Value) (vs:Nat->Value) W,Ext w W->(∀ s k,ds.idxOf? s=some k->ev (.tmp s)=vs k)->(∀ s,ds.idxOf? s=none->ev (.tmp s)=a.eval (.tmp s))->(∀ v,ev (.const v)=v)->(∀ f,ev (.func f)=a.eval (.func f))->(∀ g,ev (.global g)=a.eval (.global g)) ->
   (∀ j∈fP l.toArray i,R j (vs j) W)->∀ o,l.toArray[i]?=some o->jO P W (R i) ((execOp ev o).run P W))
  (rest:∀ vs W,Ext w W->(∀ i,i<n->R i (vs i) W)->wpList P l.toArray Q (l.drop n) (eD a ds vs) W):(Code.region id l.toArray true).wp P Q a w:=by
 simp only [GS,Bool.and_eq_true,decide_eq_true_eq,List.all_eq_true] at hds
 obtain⟨⟨h1,h2⟩,h3⟩:=hds
 have hidx:∀ s k,ds.idxOf? s=some k->∃ h:k<ds.length,ds[k]=s:=by
  intro s k h
  have:=List.idxOf?_eq_some_iff.1 h
  obtain⟨hk,he,_⟩:=this
  exact⟨hk,by simpa using he⟩
 refine pW n (eD a ds) (fun k=>a.eval (.tmp (ds.getD k 0))) R hm hB ?_ mono ?_ rest
 ·unfold eD
  suffices hts:a.tmps=a.tmps.mapIdx (fun s x=>match ds.idxOf? s with | some k=>a.eval (.tmp (ds.getD k 0)) | none=>x) by
   show a={ a with tmps:=_ }
   rw [<- hts]
  apply Array.ext_getElem?
  intro s
  rw [Array.getElem?_mapIdx]
  cases hx:a.tmps[s]? with
  | none=>rfl
  | some x =>
   simp only [Option.map_some]
   cases hk:ds.idxOf? s with
   | none=>rfl
   | some k =>
    obtain⟨hk2,hk3⟩:=hidx s k hk
    have e:ds.getD k 0=s:=by rw [List.getD_eq_getElem?_getD,List.getElem?_eq_getElem hk2,hk3];rfl
    simp only [e,Act.eval]
    have:=(Array.getElem?_eq_some_iff.1 hx)
    obtain⟨hs,hs2⟩:=this
    simp [hs,hs2]
 ·intro i hi vs W hE hd o ho
  have hs:=step i hi (eD a ds vs).eval vs W hE
   (fun s k h=>by
    obtain⟨hk2,hk3⟩:=hidx s k h
    exact pN h (by have:=h3 ds[k] (List.getElem_mem hk2);rw [hk3] at this;simpa using this))
   (fun s h=>oL h) (fun _=>rfl) (fun _=>rfl) (fun _=>rfl) hd o ho
  have hdst:o.dst=some (ds.getD i 0)/\i<ds.length:=by
   have hl:i<l.length:=(Array.getElem?_eq_some_iff.1 ho).1
   have hlen:ds.length=(l.take n).length:=by have:=congrArg List.length h1;simpa using this.symm
   have hi2:i<ds.length:=by rw [hlen,List.length_take];omega
   have:=congrArg (·[i]?) h1
   simp only [List.getElem?_map,List.getElem?_take,hi,if_true] at this
   have ho2:l[i]?=some o:=by simpa using ho
   rw [ho2,List.getElem?_eq_getElem hi2] at this
   simp only [Option.map_some,Option.some.injEq] at this
   refine⟨?_,hi2⟩
   rw [this,List.getD_eq_getElem?_getD,List.getElem?_eq_getElem hi2];rfl
  have hput:∀ v,(eD a ds vs).put o.dst v=eD a ds (B9 vs i v):=by
   intro v
   rw [hdst.1]
   have hi2:i<ds.length:=hdst.2
   have hgd:ds.getD i 0=ds[i]'hi2:=by rw [List.getD_eq_getElem?_getD,List.getElem?_eq_getElem hi2];rfl
   refine y7 ?_ ?_
   ·rw [hgd]
    rw [List.idxOf?_eq_some_iff]
    refine⟨hi2,by simp,fun j hj=>?_⟩
    intro e
    have e2:ds[j]'(by omega)=ds[i]'hi2:=by simpa using e
    have:=(List.pairwise_iff_getElem.1 h2) j i (by omega) hi2 hj
    exact this e2
   ·intro s k hk e
    subst e
    obtain⟨hk2,hk3⟩:=hidx s k hk
    rw [hgd,hk3]
  unfold Oper.wp
  generalize (execOp (eD a ds vs).eval o).run P W=r at hs ⊢
  cases r with
  | ok x W' =>
   cases x with
   | value v=>exact⟨v,hput v,hs.1,hs.2⟩
   | skip=>exact⟨undef,hput undef,hs.1,hs.2⟩
   | enter f args=>exact Calls.mono hs fun e W'' ⟨v,he,hR,hX⟩=>by subst he;exact⟨v,hput v,hR,hX⟩
   | _=>exact hs.elim
  | halt h W'=>exact hs.elim
end
end
section
open Go Go.RowKit
def kU (o:Oper):Bool:=match o.op with | .call c=>(match c.callee with | .builtin .len=>true | _=>false) | .go _=>false | .defer _=>false | .recv ..=>false | .select ..=>false | .send ..=>false | _=>true
def pJ:List Bool->List Oper->List Oper
 | true :: m,o :: l=>o :: pJ m l
 | false :: m,_ :: l=>pJ m l
 | _,_=>[]
def b8:List Bool->List Oper->Nat->Act->(Nat->Value)->Act
 | false :: m,o :: l,i,a,vs=>b8 m l (i+1) (a.put o.dst (vs i)) vs
 | true :: m,_ :: l,i,a,vs=>b8 m l (i+1) a vs
 | _,_,_,a,_=>a
def qE (P:Program) (w:World) (ops:Array Oper) (R:Nat->Value->World->Prop) (mask:List Bool) (F:(Nat->Value)->Act):List Bool->List Oper->Nat->Prop
 | false :: m,o :: l,i=>(∀ vs W,Ext w W->(∀ j∈fP ops i,mask[j]?=some false->R j (vs j) W)->jO P W (R i) ((execOp (F vs).eval o).run P W))/\qE P w ops R mask F m l (i+1)
 | true :: m,_ :: l,i=>qE P w ops R mask F m l (i+1)
 | _,_,_=>True
def j4 (R:Nat->Value->World->Prop) (vs:Nat->Value) (W:World):List Bool->Nat->Prop
 | false :: m,i=>R i (vs i) W/\j4 R vs W m (i+1)
 | true :: m,i=>j4 R vs W m (i+1)
 | [],_=>True
def GB (l:List Oper) (size:Nat) (mask:List Bool):Bool :=
 GS l mask.length size ((l.take mask.length).map fun o=>o.dst.getD 0) &&
 (List.range mask.length).all fun i=>match l[i]? with
  | none=>false
  | some o=>(match mask[i]? with | some true=>kU o | _=>true) && (match o.op with | .select ..=>false | _=>true) &&
   (List.range mask.length).all fun j=>match l[j]? with
    | none=>false
    | some p=>(match p.dst with | none=>false | some s=>!((o.looksAt l.toArray).contains s) || ((fP l.toArray i).contains j && (mask[i]? != some true || mask[j]? == some true)))
section
variable {P:Program} {Q:Exit->Act->World->Prop}
def fE (b:Bool) (l:List Oper) (mask:List Bool) (a:Act) (c:Nat->Value):Nat->Act
 | 0=>a
 | k+1=>match l[k]?,mask[k]? with
  | some o,some b'=>if b'=b then (fE b l mask a c k).put o.dst (c k) else fE b l mask a c k
  | _,_=>fE b l mask a c k
theorem lS {b:Bool} {l:List Oper} {mask:List Bool} {a:Act} {c c':Nat->Value}:∀ k,(∀ j,j<k->c j=c' j)->fE b l mask a c k=fE b l mask a c' k
 | 0,_=>rfl
 | k+1,h=>by
  unfold fE
  rw [lS k fun j hj=>h j (by omega),h k (by omega)]
theorem fF (b:Bool) (l:List Oper) (mask:List Bool) (a:Act) (c:Nat->Value):∀ k,∃ ts:Array Value,ts.size=a.tmps.size/\fE b l mask a c k={ a with tmps:=ts }
 | 0=>⟨a.tmps,rfl,rfl⟩
 | k+1=>by
  obtain⟨ts,h1,h2⟩:=fF b l mask a c k
  unfold fE
  split
  ·split
   ·rename_i o b' ho _ _
    rw [h2]
    cases hd:o.dst with
    | none=>exact⟨ts,h1,rfl⟩
    | some d=>exact⟨ts.setIfInBounds d (c k),by simp [h1],rfl⟩
   ·exact⟨ts,h1,h2⟩
  ·exact⟨ts,h1,h2⟩
theorem eF {b:Bool} {l:List Oper} {mask:List Bool} {a:Act} {c:Nat->Value} {s:Nat}:∀ k,(∀ j o,j<k->l[j]?=some o->mask[j]?=some b->o.dst≠some s)->(fE b l mask a c k).eval (.tmp s)=a.eval (.tmp s)
 | 0,_=>rfl
 | k+1,h=>by
  have ih:=eF (b:=b) (l:=l) (mask:=mask) (a:=a) (c:=c) (s:=s) k fun j o hj=>h j o (by omega)
  unfold fE
  split
  ·split
   ·rename_i o b' ho hm hb
    subst hb
    rw [Act.eval_put,ih]
    intro d hd e
    injection e with e
    exact h k o (by omega) ho hm (by rw [hd,e])
   ·exact ih
  ·exact ih
theorem vo {b:Bool} {l:List Oper} {mask:List Bool} {a:Act} {c:Nat->Value} {s i:Nat} {o:Oper} (hi:l[i]?=some o) (hm:mask[i]?=some b) (hd:o.dst=some s) (hs:s<a.tmps.size)
  (hn:∀ j p,l[j]?=some p->j<mask.length->p.dst=some s->j=i):∀ k,i<k->(fE b l mask a c k).eval (.tmp s)=c i
 | 0,h=>by omega
 | k+1,h=>by
  by_cases e:i=k
  ·subst e
   unfold fE
   rw [hi,hm]
   simp only [if_true]
   obtain⟨ts,h1,h2⟩:=fF b l mask a c i
   rw [h2,hd]
   simp [Act.put,Act.eval,h1,hs]
  ·have ih:=vo (a:=a) (c:=c) hi hm hd hs hn k (by omega)
   unfold fE
   split
   ·split
    ·rename_i p b' hp hm' hb
     rw [Act.eval_put,ih]
     intro d hd' e'
     injection e' with e'
     have hk:k<mask.length:=(List.getElem?_eq_some_iff.1 hm').1
     exact e (hn k p hp hk (by rw [hd',e'])).symm
    ·exact ih
   ·exact ih
theorem nX {b:Bool} {l:List Oper} {mask:List Bool} {a:Act} {c:Nat->Value} (k:Nat):(∀ v,(fE b l mask a c k).eval (.const v)=a.eval (.const v))/\(∀ f,(fE b l mask a c k).eval (.func f)=a.eval (.func f))/\(∀ g,(fE b l mask a c k).eval (.global g)=a.eval (.global g)):=by
 obtain⟨ts,h1,h2⟩:=fF b l mask a c k
 rw [h2]
 exact⟨fun _=>rfl,fun _=>rfl,fun _=>rfl⟩
theorem wI {b:Bool} {l:List Oper} {mask:List Bool} {a:Act} {c:Nat->Value} {k:Nat} {o:Oper} (ho:l[k]?=some o) (hm:mask[k]?=some b):fE b l mask a c (k+1)=(fE b l mask a c k).put o.dst (c k):=by
 rw [fE,ho,hm];simp
theorem AW {b:Bool} {l:List Oper} {mask:List Bool} {a:Act} {c:Nat->Value} {k:Nat} (hm:mask[k]?≠some b):fE b l mask a c (k+1)=fE b l mask a c k:=by
 rw [fE]
 split
 ·rename_i o b' ho hm'
  rw [if_neg]
  intro e;subst e;exact hm hm'
 ·rfl
theorem wU (l:List Oper) (mask:List Bool) (a:Act) (vs:Nat->Value) (hl:mask.length<=l.length):∀ m k,k+m=mask.length->b8 (mask.drop k) (l.drop k) k (fE false l mask a vs k) vs=fE false l mask a vs mask.length
 | 0,k,h=>by
  rw [List.drop_of_length_le (by omega:mask.length<=k)]
  have:k=mask.length:=by omega
  subst this;unfold b8;rfl
 | m+1,k,h=>by
  have h1:k<mask.length:=by omega
  have h2:k<l.length:=by omega
  have ih:=wU l mask a vs hl m (k+1) (by omega)
  rw [List.drop_eq_getElem_cons h1,List.drop_eq_getElem_cons h2]
  have g1:=List.getElem?_eq_getElem h1
  have g2:=List.getElem?_eq_getElem h2
  cases hb:mask[k] with
  | true=>rw [hb] at g1;rw [AW (by rw [g1];simp)] at ih;rw [<- ih];rw [b8]
  | false=>rw [hb] at g1;rw [wI g2 g1] at ih;rw [<- ih];rw [b8]
theorem C9 {W W':World} {ev:Operand->Value} {o:Oper} {x:Operand} (e:o.op=.nilCheck x) {f:FuncId} {args:Array Value} (hr:(execOp ev o).run P W=.ok (.enter f args) W'):False:=by
 unfold execOp at hr
 rw [e] at hr
 simp only at hr
 split at hr
 ·simp [runtimePanic] at hr
 ·simp [runtimePanic] at hr
 ·simp [runtimePanic] at hr
 ·split at hr
  ·simp [runtimePanic] at hr
  ·rw [Sem.run_bind] at hr
   generalize hq:Sem.run P _ W=r at hr
   cases r with
   | ok b w1 =>
    simp only [Result.andThen] at hr
    rw [Sem.run_bind] at hr
    generalize hq2:Sem.run P _ w1=r2 at hr
    cases r2 with
    | ok c w2 =>
     simp only [Result.andThen] at hr
     split at hr
     ·simp [unsupported,Result.andThen] at hr
     ·simp at hr
    | halt c w2=>simp [Result.andThen] at hr
   | halt b w1=>simp [Result.andThen] at hr
  ·simp at hr
 ·simp at hr
theorem r9 {C:World->Prop} {W:World} {v:Value} {ev:Operand->Value} {o:Oper} (hne:kU o=true) (h:Oper.quietUpon P C W v ((execOp ev o).run P W)):jO P W (fun u _=>u=v) ((execOp ev o).run P W):=by
 have key:∀ f args W',(execOp ev o).run P W=.ok (.enter f args) W'->False:=by
  intro f args W' hr
  by_cases hnc:∃ x,o.op=.nilCheck x
  ·exact C9 hnc.choose_spec hr
  unfold execOp at hr
  unfold kU at hne
  obtain⟨dst,op,ty,pos,Zw,g⟩:=o
  have val:∀ s:Sem Value,(do let x <- s;pure (Next.value x):Sem Next).run P W=.ok (.enter f args) W'->False:=by
   intro s h
   rw [Sem.run_bind] at h
   cases hs:s.run P W with
   | ok x w1=>rw [hs] at h;simp [Result.andThen] at h
   | halt x w1=>rw [hs] at h;simp [Result.andThen] at h
  have Zn:∀ s:Sem Unit,(do s;pure Next.skip:Sem Next).run P W=.ok (.enter f args) W'->False:=by
   intro s h
   rw [Sem.run_bind] at h
   cases hs:s.run P W with
   | ok x w1=>rw [hs] at h;simp [Result.andThen] at h
   | halt x w1=>rw [hs] at h;simp [Result.andThen] at h
  cases op <;> simp only at hr hne <;> first | exact val _ hr | exact Zn _ hr | exact absurd ⟨_,rfl⟩ hnc | cases hne | skip
  ·simp at hr
  ·simp at hr
  ·rename_i cc aa bb
   rw [Sem.run_bind] at hr
   cases hs:(asBool (ev cc)).run P W with
   | ok x w1=>rw [hs] at hr;simp [Result.andThen] at hr
   | halt x w1=>rw [hs] at hr;simp [Result.andThen] at hr
  ·rename_i c
   obtain⟨callee,Wl,ZF⟩:=c
   cases callee with
   | builtin b =>
    cases b with
    | len=>simp only [resolve,invoke,builtin,Sem.run_bind,Sem.run_pure,Result.andThen_ok] at hr;exact val _ (by rw [Sem.run_bind];exact hr)
    | _=>simp at hne
   | _=>simp at hne
 generalize (execOp ev o).run P W=r at h key
 cases r with
 | ok x W' =>
  cases x with
  | value u=>obtain⟨h1,h2⟩:=h;subst h1;exact⟨h2,Below.refl _ _⟩
  | skip=>obtain⟨h1,h2⟩:=h;subst h1;exact⟨h2.symm,Below.refl _ _⟩
  | enter f args=>exact(key f args W' rfl).elim
  | _=>exact h.elim
 | halt x W'=>exact h.elim
theorem iL {ops:Array Oper} {w:World} {l:List Oper} {mask:List Bool} {a:Act} {K:Act->Prop} (hl:mask.length<=l.length) (hgd:∀ (i:Nat) (o:Oper),i<mask.length->l[i]?=some o->o.guard=none)
  (hne:∀ (i:Nat) (o:Oper),mask[i]?=some true->l[i]?=some o->kU o=true):∀ m k c,k+m=mask.length->wpQuiet P ops (fun W=>∃ x:Ie w,W=x.val) K (pJ (mask.drop k) (l.drop k)) (fE true l mask a c k) ->
   ∃ c',(∀ j,j<k->c' j=c j)/\(∀ (j:Nat) (o:Oper),k<=j->mask[j]?=some true->l[j]?=some o->∀ W,Ext w W->jO P W (fun u _=>u=c' j) ((execOp (fE true l mask a c' j).eval o).run P W))/\K (fE true l mask a c' mask.length)
 | 0,k,c,h,hq=>by
  have:k=mask.length:=by omega
  subst this
  rw [List.drop_of_length_le (Nat.le_refl _),pJ] at hq
  exact⟨c,fun _ _=>rfl,fun j o h1 h2=>by have:=(List.getElem?_eq_some_iff.1 h2).1;omega,hq⟩
  all_goals simp
 | m+1,k,c,h,hq=>by
  have h1:k<mask.length:=by omega
  have h2:k<l.length:=by omega
  have g1:=List.getElem?_eq_getElem h1
  have g2:=List.getElem?_eq_getElem h2
  rw [List.drop_eq_getElem_cons h1,List.drop_eq_getElem_cons h2] at hq
  cases hb:mask[k] with
  | false =>
   rw [hb,pJ] at hq
   rw [hb] at g1
   obtain⟨c',e1,e2,e3⟩:=iL (a:=a) hl hgd hne m (k+1) c (by omega) (by rw [AW (by rw [g1];simp)];exact hq)
   refine⟨c',fun j hj=>e1 j (by omega),fun j o hj hm ho=>?_,e3⟩
   have:j≠k:=by intro e;subst e;rw [g1] at hm;cases hm
   exact e2 j o (by omega) hm ho
  | true =>
   rw [hb,pJ] at hq
   rw [hb] at g1
   unfold wpQuiet at hq
   rw [if_pos (by simp [Region.wanted,hgd k _ h1 g2])] at hq
   obtain⟨v,hv,hq⟩:=hq
   have hcc:fE true l mask a (B9 c k v) (k+1)=(fE true l mask a c k).put l[k].dst v:=by
    rw [wI g2 g1,lr]
    rw [lS k fun j hj=>ir c v (by omega)]
   obtain⟨c',e1,e2,e3⟩:=iL (a:=a) hl hgd hne m (k+1) (B9 c k v) (by omega) (by rw [hcc];exact hq)
   refine⟨c',fun j hj=>by rw [e1 j (by omega),ir c v (by omega)],fun j o hj hm ho=>?_,e3⟩
   by_cases e:j=k
   ·subst e
    rw [g2] at ho;injection ho with ho;subst ho
    intro W hW
    have YJ:c' j=v:=by rw [e1 j (by omega),lr]
    rw [YJ,lS j fun i hi=>(e1 i (by omega)).trans (ir c v (by omega))]
    exact r9 (hne j _ g1 g2) (hv W ⟨⟨W,hW⟩,rfl⟩)
   ·exact e2 j o (by omega) hm ho
theorem nY {w:World} {ops:Array Oper} {R:Nat->Value->World->Prop} {NM:List Bool} {F:(Nat->Value)->Act}:∀ (m:List Bool) (l:List Oper) (k:Nat),qE P w ops R NM F m l k->∀ (i:Nat) (o:Oper),m[i]?=some false->l[i]?=some o ->
  ∀ vs W,Ext w W->(∀ j∈fP ops (k+i),NM[j]?=some false->R j (vs j) W)->jO P W (R (k+i)) ((execOp (F vs).eval o).run P W)
 | [],_,_,_,i,o,h,_=>by simp at h
 | b :: m,[],_,_,i,o,_,h=>by simp at h
 | true :: m,p :: l,k,h,i,o,hm,ho=>by
  cases i with
  | zero=>simp at hm
  | succ i =>
   rw [qE] at h
   have:=nY m l (k+1) h i o (by simpa using hm) (by simpa using ho)
   rwa [show k+1+i=k+(i+1) from by omega] at this
 | false :: m,p :: l,k,h,i,o,hm,ho=>by
  rw [qE] at h
  cases i with
  | zero=>simp at ho;subst ho;exact h.1
  | succ i =>
   have:=nY m l (k+1) h.2 i o (by simpa using hm) (by simpa using ho)
   rwa [show k+1+i=k+(i+1) from by omega] at this
theorem oc {R:Nat->Value->World->Prop} {vs:Nat->Value} {W:World}:∀ (m:List Bool) (k:Nat),(∀ i,m[i]?=some false->R (k+i) (vs (k+i)) W)->j4 R vs W m k
 | [],_,_=>trivial
 | true :: m,k,h=>by
  rw [j4]
  exact oc m (k+1) fun i hi=>by have:=h (i+1) (by simpa using hi);rwa [show k+(i+1)=k+1+i from by omega] at this
 | false :: m,k,h=>by
  rw [j4]
  exact⟨h 0 rfl,oc m (k+1) fun i hi=>by have:=h (i+1) (by simpa using hi);rwa [show k+(i+1)=k+1+i from by omega] at this⟩
theorem aT {id:Nat} {a:Act} {w:World} {l:List Oper} (mask:List Bool) (R:Nat->Value->World->Prop) (hm:P.follows .mixedOrders=true) (hB:n8 l.toArray mask.length=true) (hX:GB l a.tmps.size mask=true)
  (mono:∀ i v W W',Ext W W'->R i v W->R i v W')
  (h:wpQuiet P l.toArray (fun W=>∃ x:Ie w,W=x.val) (fun a'=>qE P w l.toArray R mask (fun vs=>b8 mask l 0 a' vs) mask l 0/\∀ vs W,Ext w W->j4 R vs W mask 0->wpList P l.toArray Q (l.drop mask.length) (b8 mask l 0 a' vs) W) (pJ mask l) a) :
  (Code.region id l.toArray true).wp P Q a w:=by
 have hB0:=hB
 simp only [n8,Bool.and_eq_true,decide_eq_true_eq,Bool.or_eq_true] at hB0
 obtain⟨⟨⟨hn,hhead⟩,_⟩,_⟩:=hB0
 have hl:mask.length<=l.length:=by simpa using hn
 have hX0:=hX
 simp only [GB,Bool.and_eq_true] at hX0
 obtain⟨hds,hx⟩:=hX0
 have hgd:∀ (i:Nat) (o:Oper),i<mask.length->l[i]?=some o->o.guard=none:=by
  intro i o hi ho
  have:=List.all_eq_true.1 hhead i (List.mem_range.2 hi)
  simp only [Bool.and_eq_true,List.getElem?_toArray,ho] at this
  simpa using this.2
 have Ow:∀ i,i<mask.length->∀ j∈fP l.toArray i,j<i:=by
  intro i hi j hj
  have:=List.all_eq_true.1 hhead i (List.mem_range.2 hi)
  simp only [Bool.and_eq_true] at this
  have h2:=List.all_eq_true.1 this.1 j hj
  simpa using h2
 have hxi:∀ (i:Nat) (o:Oper),i<mask.length->l[i]?=some o->(mask[i]?=some true->kU o=true)/\(∀ cs b,o.op≠.select cs b)/\∀ (j:Nat) (p:Oper),j<mask.length->l[j]?=some p->∃ s,p.dst=some s/\(s∈o.looksAt l.toArray->j∈fP l.toArray i/\(mask[i]?=some true->mask[j]?=some true)):=by
  intro i o hi ho
  have:=List.all_eq_true.1 hx i (List.mem_range.2 hi)
  simp only [ho,Bool.and_eq_true] at this
  obtain⟨⟨h1,h2⟩,h3⟩:=this
  refine⟨fun hm=>?_,fun cs b e=>?_,fun j p hj hp=>?_⟩
  ·rw [hm] at h1;exact h1
  ·rw [e] at h2;cases h2
  ·have h4:=List.all_eq_true.1 h3 j (List.mem_range.2 hj)
   simp only [hp] at h4
   cases hd:p.dst with
   | none=>rw [hd] at h4;cases h4
   | some s =>
    rw [hd] at h4
    refine⟨s,rfl,fun hs=>?_⟩
    simp only [Bool.or_eq_true,Bool.and_eq_true,Bool.not_eq_true',List.contains_eq_mem,decide_eq_false_iff_not,decide_eq_true_eq,bne_iff_ne,ne_eq,beq_iff_eq] at h4
    rcases h4 with h4 | ⟨h4,h5⟩
    ·exact(h4 hs).elim
    ·refine⟨h4,fun hm=>?_⟩
     rcases h5 with h5 | h5
     ·exact(h5 hm).elim
     ·exact h5
 obtain⟨c,_,hc,hK⟩:=iL (a:=a) hl hgd (fun i o hm ho=>(hxi i o (List.getElem?_eq_some_iff.1 hm).1 ho).1 hm) mask.length 0 (fun _=>undef) (by omega) (by rw [List.drop_zero,List.drop_zero];exact h)
 obtain⟨hfree,hrest⟩:=hK
 have hds0:=hds
 simp only [GS,Bool.and_eq_true,decide_eq_true_eq,List.all_eq_true] at hds0
 obtain⟨⟨d1,d2⟩,d3⟩:=hds0
 have hdst:∀ (i:Nat) (o:Oper),i<mask.length->l[i]?=some o->o.dst=some (((l.take mask.length).map fun o=>o.dst.getD 0).getD i 0)/\((l.take mask.length).map fun o=>o.dst.getD 0).idxOf? (o.dst.getD 0)=some i/\o.dst.getD 0<a.tmps.size:=by
  intro i o hi ho
  have hi2:i<l.length:=by omega
  have g:(l.take mask.length)[i]?=some o:=by rw [List.getElem?_take,if_pos hi];exact ho
  have e0:((l.take mask.length).map fun o=>o.dst.getD 0)[i]?=some (o.dst.getD 0):=by rw [List.getElem?_map,g];rfl
  have e1:((l.take mask.length).map fun o=>o.dst.getD 0).getD i 0=o.dst.getD 0:=by rw [List.getD_eq_getElem?_getD,e0];rfl
  obtain⟨hil,he⟩:=List.getElem?_eq_some_iff.1 e0
  refine⟨?_,?_,?_⟩
  ·rw [e1]
   have:=congrArg (·[i]?) d1
   simp only [List.getElem?_map,g,e0,Option.map_some] at this
   injection this
  ·rw [List.idxOf?_eq_some_iff]
   refine⟨hil,by rw [he],fun j hj=>?_⟩
   intro e
   have:=List.pairwise_iff_getElem.1 d2 j i (by omega) hil hj
   exact this (by rw [he];simpa using e)
  ·exact d3 _ (by rw [<- he];exact List.getElem_mem _)
 have K8:∀ (i:Nat) (o:Oper) s,i<mask.length->l[i]?=some o->o.dst=some s->∀ (j:Nat) (p:Oper),l[j]?=some p->j<mask.length->p.dst=some s->j=i:=by
  intro i o s hi ho hs j p hp hj hps
  have h1:=(hdst i o hi ho).2.1
  have h2:=(hdst j p hj hp).2.1
  rw [hs] at h1;rw [hps] at h2
  rw [h1] at h2;injection h2 with h2;exact h2.symm
 have KZ:∀ s,(∃ (i:Nat) (o:Oper),i<mask.length/\l[i]?=some o/\o.dst=some s)\/∀ (i:Nat) (o:Oper),i<mask.length->l[i]?=some o->o.dst≠some s:=by
  intro s
  by_cases he:∃ (i:Nat) (o:Oper),i<mask.length/\l[i]?=some o/\o.dst=some s
  ·exact .inl he
  ·exact .inr fun i o hi ho e=>he ⟨i,o,hi,ho,e⟩
 have hnone:∀ s,(∀ (i:Nat) (o:Oper),i<mask.length->l[i]?=some o->o.dst≠some s)->((l.take mask.length).map fun o=>o.dst.getD 0).idxOf? s=none:=by
  intro s hs
  cases hi:((l.take mask.length).map fun o=>o.dst.getD 0).idxOf? s with
  | none=>rfl
  | some k =>
   exfalso
   obtain⟨hk,he,_⟩:=List.idxOf?_eq_some_iff.1 hi
   have WG:k<mask.length:=by rw [List.length_map,List.length_take] at hk;omega
   have hkl:k<l.length:=by omega
   have g2:=List.getElem?_eq_getElem hkl
   have h3:=hdst k _ WG g2
   refine hs k _ WG g2 ?_
   rw [h3.1]
   have:((l.take mask.length).map fun o=>o.dst.getD 0).getD k 0=s:=by
    rw [List.getD_eq_getElem?_getD,List.getElem?_eq_getElem hk];simpa using he
   rw [this]
 have hC:∀ (i:Nat) (o:Oper) s,i<mask.length->l[i]?=some o->o.dst=some s->mask[i]?=some true->∀ k,i<k->(fE true l mask a c k).eval (.tmp s)=c i:=fun i o s hi ho hs hm' k hk =>
  vo ho hm' hs (by have:=(hdst i o hi ho).2.2;rw [hs] at this;exact this) (K8 i o s hi ho hs) k hk
 have hF1:∀ vs (i:Nat) (o:Oper) s,i<mask.length->l[i]?=some o->o.dst=some s->mask[i]?=some false->(fE false l mask (fE true l mask a c mask.length) vs mask.length).eval (.tmp s)=vs i:=fun vs i o s hi ho hs hm' =>
  vo ho hm' hs (by obtain⟨ts,h1,h2⟩:=fF true l mask a c mask.length;rw [h2];show s<ts.size;rw [h1];have:=(hdst i o hi ho).2.2;rw [hs] at this;exact this) (K8 i o s hi ho hs) mask.length hi
 have hF2:∀ vs (i:Nat) (o:Oper) s,i<mask.length->l[i]?=some o->o.dst=some s->mask[i]?=some true->(fE false l mask (fE true l mask a c mask.length) vs mask.length).eval (.tmp s)=c i:=fun vs i o s hi ho hs hm'=>by
  rw [eF mask.length fun j p hj hp JR e=>?_]
  ·exact hC i o s hi ho hs hm' mask.length hi
  ·have:=K8 i o s hi ho hs j p hp hj e
   subst this
   rw [hm'] at JR;cases JR
 have hput:∀ vs,b8 mask l 0 (fE true l mask a c mask.length) vs=fE false l mask (fE true l mask a c mask.length) vs mask.length:=fun vs=>by
  have:=wU l mask (fE true l mask a c mask.length) vs hl mask.length 0 (by omega)
  rw [List.drop_zero,List.drop_zero] at this
  exact this
 have KR:∀ i,i<mask.length->mask[i]?=some true\/mask[i]?=some false:=by
  intro i hi
  rw [List.getElem?_eq_getElem hi]
  cases mask[i] <;> simp
 refine gq mask.length ((l.take mask.length).map fun o=>o.dst.getD 0) (fun i v W=>if mask[i]?=some true then v=c i else R i v W) hm hB hds ?_ ?_ ?_
 ·intro i v W W' hE hr
  show if _ then _ else _
  by_cases hi:mask[i]?=some true
  ·rw [if_pos hi] at hr ⊢;exact hr
  ·rw [if_neg hi] at hr ⊢;exact mono i v W W' hE hr
 ·intro i hi ev vs W hE hin hout hcs hf hg hd o ho
  have ho':l[i]?=some o:=by simpa using ho
  obtain⟨_,hsel,hlk⟩:=hxi i o hi ho'
  have hops:∀ (s:Nat),Operand.tmp s∈o.op.operands->s∈o.looksAt l.toArray:=fun s hs=>List.mem_append_left _ (List.mem_filterMap.2 ⟨.tmp s,by simpa using hs,rfl⟩)
  rcases KR i hi with Oz | Oz
  ·have hcon:=hc i o (Nat.zero_le _) Oz ho' W hE
   have he:execOp ev o=execOp (fE true l mask a c i).eval o:=execOp_congr o hsel fun x hx=>by
    have hr:=nX (b:=true) (l:=l) (mask:=mask) (a:=a) (c:=c) i
    cases x with
    | tmp s =>
     rcases KZ s with ⟨j,p,hj,hp,hps⟩ | hs
     ·obtain⟨s',hs',KV⟩:=hlk j p hj hp
      rw [hps] at hs';injection hs' with hs';subst hs'
      obtain⟨hdp,JR⟩:=KV (hops s hx)
      have hix:=(hdst j p hj hp).2.1
      rw [hps] at hix
      rw [hin s j hix,hC j p s hj hp hps (JR Oz) i (Ow i hi j hdp)]
      have:=hd j hdp
      simpa [JR Oz] using this
     ·rw [hout s (hnone s hs),eF i fun j p hj hp _=>hs j p (by omega) hp]
    | const v=>rw [hcs,hr.1];rfl
    | func f=>rw [hf,hr.2.1]
    | global g=>rw [hg,hr.2.2]
   rw [he]
   simp only [Oz,if_true]
   exact hcon
  ·have hcon:=nY mask l 0 hfree i o Oz ho' vs W hE (fun j hj JR=>by
    have:=hd j (by simpa using hj)
    simpa [JR] using this)
   rw [Nat.zero_add,hput] at hcon
   have he:execOp ev o=execOp (fE false l mask (fE true l mask a c mask.length) vs mask.length).eval o:=execOp_congr o hsel fun x hx=>by
    have hr:=nX (b:=false) (l:=l) (mask:=mask) (a:=fE true l mask a c mask.length) (c:=vs) mask.length
    have hr2:=nX (b:=true) (l:=l) (mask:=mask) (a:=a) (c:=c) mask.length
    cases x with
    | tmp s =>
     rcases KZ s with ⟨j,p,hj,hp,hps⟩ | hs
     ·obtain⟨s',hs',KV⟩:=hlk j p hj hp
      rw [hps] at hs';injection hs' with hs';subst hs'
      obtain⟨hdp,_⟩:=KV (hops s hx)
      have hix:=(hdst j p hj hp).2.1
      rw [hps] at hix
      rw [hin s j hix]
      rcases KR j hj with JR | JR
      ·rw [hF2 vs j p s hj hp hps JR]
       have:=hd j hdp
       simpa [JR] using this
      ·rw [hF1 vs j p s hj hp hps JR]
     ·rw [hout s (hnone s hs),eF mask.length fun j p hj hp _=>hs j p hj hp,eF mask.length fun j p hj hp _=>hs j p hj hp]
    | const v=>rw [hcs,hr.1,hr2.1];rfl
    | func f=>rw [hf,hr.2.1,hr2.2.1]
    | global g=>rw [hg,hr.2.2,hr2.2.2]
   rw [he]
   have e:(fun v W=>if mask[i]?=some true then v=c i else R i v W)=R i:=by
    funext v W;simp [Oz]
   rw [e]
   exact hcon
 ·intro vs W hE hall
  have hkn:j4 R vs W mask 0:=oc mask 0 fun i hi=>by
   rw [Nat.zero_add]
   have hil:=(List.getElem?_eq_some_iff.1 hi).1
   have:=hall i hil
   simpa [hi] using this
  have hr:=hrest vs W hE hkn
  have e:eD a ((l.take mask.length).map fun o=>o.dst.getD 0) vs=b8 mask l 0 (fE true l mask a c mask.length) vs:=by
   rw [hput]
   obtain⟨t1,h1,h2⟩:=fF true l mask a c mask.length
   obtain⟨t2,h3,h4⟩:=fF false l mask (fE true l mask a c mask.length) vs mask.length
   have h5:t2.size=a.tmps.size:=by rw [h3,h2];exact h1
   have h6:fE false l mask (fE true l mask a c mask.length) vs mask.length={ a with tmps:=t2 }:=by rw [h4,h2]
   unfold eD
   rw [h6]
   congr 1
   apply Array.ext_getElem?
   intro s
   rw [Array.getElem?_mapIdx]
   by_cases hs:s<a.tmps.size
   ·have hsv:∀ u:Act,∀ hu:s<u.tmps.size,u.tmps[s]?=some (u.eval (.tmp s)):=fun u hu=>by simp [Act.eval,hu]
    have ha:=hsv a hs
    have hb:=hsv { a with tmps:=t2 } (by show s<t2.size;omega)
    rw [ha]
    have hb':t2[s]?=some ((fE false l mask (fE true l mask a c mask.length) vs mask.length).eval (.tmp s)):=by rw [h6];exact hb
    rw [hb',Option.map_some]
    congr 1
    rcases KZ s with ⟨j,p,hj,hp,hps⟩ | hn
    ·have hix:=(hdst j p hj hp).2.1
     rw [hps] at hix
     simp only [Option.getD_some] at hix
     rw [hix]
     rcases KR j hj with JR | JR
     ·rw [hF2 vs j p s hj hp hps JR]
      have:=hall j hj
      simpa [JR] using this
     ·rw [hF1 vs j p s hj hp hps JR]
    ·rw [hnone s hn,eF mask.length fun j p hj hp _=>hn j p hj hp,eF mask.length fun j p hj hp _=>hn j p hj hp]
   ·rw [Array.getElem?_eq_none (by omega),Array.getElem?_eq_none (by omega)];rfl
  rw [e]
  exact hr
end
end
section
open Go Go.RowKit
structure Pc where
 foot:Nat->Prop
 holds:World->Prop
 inh:∀ w:World,holds w->∀ k,foot k->k<w.heap.size
 loc:∀ w w':World,holds w->(∀ k,foot k->w'.heap[k]?=w.heap[k]?)->holds w'
def Pc.blk (g:Nat) (t:TypeId) (cs:Array Value):Pc :=
 ⟨fun k=>k=g,fun w=>Ih w g t cs,fun _ h k e=>by subst e;exact h.lt,fun _ _ h hk=>(hk g rfl).trans h⟩
theorem wS {w w':World} {base:Nat} {e:TypeId} {size:Nat} {q:Option Addr} {n c:Nat} {xs:List Value} (h:w.ownsRow base e size (.slice q n c) n xs) (hk:∀ k,bi q=some k->w'.heap[k]?=w.heap[k]?) :
  w'.ownsRow base e size (.slice q n c) n xs:=by
 refine⟨h.1,?_⟩
 rcases h.2 with h2 | ⟨g,cap,cur,h1,hg,hh,r⟩
 ·exact .inl h2
 ·refine .inr ⟨g,cap,cur,h1,hg,?_,r⟩
  injection h1 with h1
  exact(hk g (by rw [h1];rfl)).trans hh
theorem oH {w:World} {base:Nat} {e:TypeId} {size:Nat} {q:Option Addr} {n c:Nat} {xs:List Value} (h:w.ownsRow base e size (.slice q n c) n xs) {k:Nat} (hk:bi q=some k):base<=k/\k<w.heap.size :=
 h.lt k (by rw [dx];exact hk)
theorem vV {w:World} {base B:Nat} {e:TypeId} {size:Nat} {q:Option Addr} {n c:Nat} {xs:List Value} (h:w.ownsRow base e size (.slice q n c) n xs) (hB:∀ k,bi q=some k->B<=k):w.ownsRow B e size (.slice q n c) n xs:=by
 refine⟨h.1,?_⟩
 rcases h.2 with h2 | ⟨g,cap,cur,h1,hg,r⟩
 ·exact .inl h2
 ·refine .inr ⟨g,cap,cur,h1,hB g ?_,r⟩
  injection h1 with h1
  rw [h1];rfl
def Pc.own (e:TypeId) (size:Nat) (q:Option Addr) (n c:Nat) (xs:List Value):Pc :=
 ⟨fun k=>bi q=some k,fun w=>w.ownsRow 0 e size (.slice q n c) n xs,fun _ h _ hk=>(oH h hk).2,fun _ _ h hk=>wS h hk⟩
structure Ic (w0 w:World) (Γ:List Pc):Prop where
 ext:Ext w0 w
 all:∀ p∈Γ,p.holds w
 new:∀ p∈Γ,∀ k,p.foot k->w0.heap.size<=k
 apart:Γ.Pairwise fun p q=>∀ k,p.foot k->¬ q.foot k
section
variable {w0 w w':World} {Γ Δ:List Pc}
theorem Ic.start (w:World):Ic w w []:=⟨Below.refl _ _,fun _ h=>(nomatch h),fun _ h=>(nomatch h),List.Pairwise.nil⟩
theorem Ic.lt (S:Ic w0 w Γ) {p:Pc} (hp:p∈Γ) {k:Nat} (hk:p.foot k):k<w.heap.size:=p.inh w (S.all p hp) k hk
theorem Ic.call (S:Ic w0 w Γ) (h:Ext w w'):Ic w0 w' Γ :=
 ⟨Ext.trans S.ext h,fun p hp=>p.loc w w' (S.all p hp) fun k hk=>h.block k (S.lt hp hk),S.new,S.apart⟩
theorem Ic.junk (S:Ic w0 w Γ) (o:Obj):Ic w0 (w.alloc o) Γ:=S.call (Ext.alloc (Below.refl _ _) o)
theorem Ic.drew (S:Ic w0 w Γ):Ic w0 w.drew Γ:=S.call (Below.refl _ _).drew
theorem Ic.comp (S:Ic w0 w Γ) (T:Ic w w' Δ):Ic w0 w' (Δ ++ Γ):=by
 refine⟨Ext.trans S.ext T.ext,fun p hp=>?_,fun p hp k hk=>?_,?_⟩
 ·rcases List.mem_append.1 hp with h | h
  ·exact T.all p h
  ·exact(S.call T.ext).all p h
 ·rcases List.mem_append.1 hp with h | h
  ·exact Nat.le_trans S.ext.size (T.new p h k hk)
  ·exact S.new p h k hk
 ·rw [List.pairwise_append]
  refine⟨T.apart,S.apart,fun p hp q hq k hk hk2=>?_⟩
  have h1:=T.new p hp k hk
  have h2:=S.lt hq hk2
  omega
theorem Ic.freshB {g:Nat} {t:TypeId} {cs:Array Value} (S:Ic w0 w Γ) (h:Ext w w') (hb:Ih w' g t cs) (hg:w.heap.size<=g):Ic w0 w' (.blk g t cs :: Γ) :=
 S.comp (Δ:=[.blk g t cs]) ⟨h,fun p hp=>by rw [List.mem_singleton] at hp;subst hp;exact hb,fun p hp k hk=>by rw [List.mem_singleton] at hp;subst hp;cases hk;exact hg,List.pairwise_singleton _ _⟩
theorem Ic.alloc (S:Ic w0 w Γ) (cs:Array Value) (t:TypeId):Ic w0 (w.alloc (.cells cs t)) (.blk w.heap.size t cs :: Γ) :=
 S.freshB (Ext.alloc (Below.refl _ _) _) (Ih.new w t cs) (Nat.le_refl _)
theorem Ic.al (S:Ic w0 w Γ) (cs:Array Value) (t:TypeId) (g:Nat) (hg:w.heap.size=g):Ic w0 (w.alloc (.cells cs t)) (.blk g t cs :: Γ):=by subst hg;exact S.alloc cs t
theorem Ic.fresh {B:Nat} {e:TypeId} {size:Nat} {q:Option Addr} {n c:Nat} {xs:List Value} (S:Ic w0 w Γ) (h:Ext w w') (ho:w'.ownsRow B e size (.slice q n c) n xs) (hB:w.heap.size<=B):Ic w0 w' (.own e size q n c xs :: Γ) :=
 S.comp (Δ:=[.own e size q n c xs]) ⟨h,fun p hp=>by rw [List.mem_singleton] at hp;subst hp;exact aP ho (Nat.zero_le _),fun p hp k hk=>by rw [List.mem_singleton] at hp;subst hp;exact Nat.le_trans hB (oH ho hk).1,List.pairwise_singleton _ _⟩
theorem Ic.nilrow (S:Ic w0 w Γ) (e:TypeId) (size:Nat):Ic w0 w (.own e size none 0 0 [] :: Γ) :=
 S.fresh (Below.refl _ _) (World.ownsRow_nil w w.heap.size e size) (Nat.le_refl _)
theorem Ic.sub (S:Ic w0 w Γ) (h:Δ.Sublist Γ):Ic w0 w Δ :=
 ⟨S.ext,fun p hp=>S.all p (h.subset hp),fun p hp=>S.new p (h.subset hp),S.apart.sublist h⟩
theorem Ic.perm (S:Ic w0 w Γ) (h:Δ.Perm Γ):Ic w0 w Δ :=
 ⟨S.ext,fun p hp=>S.all p (h.subset hp),fun p hp=>S.new p (h.subset hp),(h.symm.pairwise_iff (fun {_ _} h k hq hp=>h k hp hq)).1 S.apart⟩
def DX (Γ:List Pc) (is:List Nat):List Pc:=is.filterMap fun i=>Γ[i]?
theorem Ic.apart_at (S:Ic w0 w Γ) {i j:Nat} {p q:Pc} (hi:Γ[i]?=some p) (hj:Γ[j]?=some q) (hne:i≠j) {k:Nat} (hp:p.foot k) (hq:q.foot k):False:=by
 obtain⟨hi1,rfl⟩:=List.getElem?_eq_some_iff.1 hi
 obtain⟨hj1,rfl⟩:=List.getElem?_eq_some_iff.1 hj
 rcases Nat.lt_or_gt_of_ne hne with h | h
 ·exact List.pairwise_iff_getElem.1 S.apart i j hi1 hj1 h k hp hq
 ·exact List.pairwise_iff_getElem.1 S.apart j i hj1 hi1 h k hq hp
theorem Ic.pick (S:Ic w0 w Γ) (is:List Nat) (hn:is.Nodup) (he:Δ=DX Γ is):Ic w0 w Δ:=by
 subst he
 refine⟨S.ext,fun p hp=>?_,fun p hp=>?_,?_⟩
 ·obtain⟨i,_,h⟩:=List.mem_filterMap.1 hp
  exact S.all p (List.mem_of_getElem? h)
 ·obtain⟨i,_,h⟩:=List.mem_filterMap.1 hp
  exact S.new p (List.mem_of_getElem? h)
 ·unfold DX
  rw [List.pairwise_filterMap]
  refine hn.imp ?_
  intro i j hne p hp q hq k hk hk2
  exact S.apart_at hp hq hne hk hk2
theorem Ic.put (S:Ic w0 w Γ) (j:Nat) {p:Pc} (hj:Γ[j]?=some p) (p':Pc) {row:Option Nat} (hg:w.grownBy w' row) (hrow:∀ k,row=some k->p.foot k) (hp:p'.holds w') (hf:∀ k,p'.foot k->p.foot k\/w.heap.size<=k):Ic w0 w' (Γ.set j p'):=by
 obtain⟨hj1,hj2⟩:=List.getElem?_eq_some_iff.1 hj
 have hpm:p∈Γ:=by rw [<- hj2];exact List.getElem_mem _
 have hmem:∀ x∈Γ.set j p',x=p'\/∃ i,i≠j/\Γ[i]?=some x:=by
  intro x hx
  obtain⟨i,hi,rfl⟩:=List.mem_iff_getElem.1 hx
  rw [List.length_set] at hi
  rw [List.getElem_set]
  by_cases e:j=i
  ·left;rw [if_pos e]
  ·right;rw [if_neg e];exact⟨i,fun h=>e h.symm,List.getElem?_eq_getElem hi⟩
 have hold:∀ (i:Nat) x,i≠j->Γ[i]?=some x->∀ k,x.foot k->w'.heap[k]?=w.heap[k]?:=by
  intro i x hi hx k hk
  exact hg.block k (S.lt (List.mem_of_getElem? hx) hk) fun e=>S.apart_at hx hj hi hk (hrow k e.symm)
 refine⟨Below.trans S.ext ⟨hg.os,hg.tape,hg.output,hg.size,fun k hk=>hg.block k (Nat.lt_of_lt_of_le hk S.ext.size) fun e=>?_⟩,fun x hx=>?_,fun x hx k hk=>?_,?_⟩
 ·have:=S.new p hpm k (hrow k e.symm);omega
 ·rcases hmem x hx with rfl | ⟨i,hi,hx⟩
  ·exact hp
  ·exact x.loc w w' (S.all x (List.mem_of_getElem? hx)) (hold i x hi hx)
 ·rcases hmem x hx with rfl | ⟨i,hi,hx⟩
  ·rcases hf k hk with h | h
   ·exact S.new p hpm k h
   ·exact Nat.le_trans S.ext.size h
  ·exact S.new x (List.mem_of_getElem? hx) k hk
 ·rw [List.pairwise_iff_getElem]
  intro a b ha hb hab k hka hkb
  rw [List.length_set] at ha hb
  rw [List.getElem_set] at hka hkb
  have key:∀ i (hi:i<Γ.length),i≠j->p'.foot k->(Γ[i]).foot k->False:=by
   intro i hi hne h1 h2
   rcases hf k h1 with h | h
   ·exact S.apart_at hj (List.getElem?_eq_getElem hi) (fun e=>hne e.symm) h h2
   ·have:=S.lt (List.getElem_mem hi) h2;omega
  by_cases e1:j=a
  ·rw [if_pos e1] at hka
   rw [if_neg (by omega)] at hkb
   exact key b hb (by omega) hka hkb
  ·rw [if_neg e1] at hka
   by_cases e2:j=b
   ·rw [if_pos e2] at hkb
    exact key a ha (fun h=>e1 h.symm) hkb hka
   ·rw [if_neg e2] at hkb
    exact S.apart_at (List.getElem?_eq_getElem ha) (List.getElem?_eq_getElem hb) (by omega) hka hkb
theorem dG (w:World) (a:Addr) (u:Value):w.grownBy (w.setCell a u) (some a.block) :=
 ⟨rfl,rfl,rfl,by simp [World.setCell],fun k _ hk=>Below.heap_setCell w a u k (fun e=>hk (by rw [e]))⟩
theorem Ic.blk (S:Ic w0 w Γ) (j:Nat) {g:Nat} {t:TypeId} {cs:Array Value} (hj:Γ[j]?=some (.blk g t cs)):Ih w g t cs:=S.all _ (List.mem_of_getElem? hj)
theorem Ic.bge (S:Ic w0 w Γ) (j:Nat) {g:Nat} {t:TypeId} {cs:Array Value} (hj:Γ[j]?=some (.blk g t cs)):w0.heap.size<=g:=S.new _ (List.mem_of_getElem? hj) g rfl
theorem Ic.own (S:Ic w0 w Γ) (j:Nat) {e:TypeId} {size:Nat} {q:Option Addr} {n c:Nat} {xs:List Value} (hj:Γ[j]?=some (.own e size q n c xs)):w.ownsRow w0.heap.size e size (.slice q n c) n xs :=
 vV (S.all _ (List.mem_of_getElem? hj)) fun k hk=>S.new _ (List.mem_of_getElem? hj) k hk
theorem Ic.rd (S:Ic w0 w Γ) (j:Nat) {e:TypeId} {size:Nat} {q:Option Addr} {n c:Nat} {xs:List Value} (hj:Γ[j]?=some (.own e size q n c xs)) (hs:n<=9223372036854775807):Rd w size q n xs:=Rd.of_own (S.own j hj) hs
theorem Ic.set (S:Ic w0 w Γ) (j:Nat) {g:Nat} {t:TypeId} {cs:Array Value} (hj:Γ[j]?=some (.blk g t cs)) (i:Nat) (u:Value):Ic w0 (w.setCell ⟨g,i,none⟩ u) (Γ.set j (.blk g t (cs.setIfInBounds i u))) :=
 S.put j hj _ (dG w ⟨g,i,none⟩ u) (fun k hk=>by injection hk with hk;exact hk.symm) ((S.blk j hj).set_ i u) (fun k hk=>.inl hk)
end
def Pc.many (e:TypeId) (size:Nat) (rows:List (Hd × List Value)):Pc :=
 ⟨fun k=>∃ r∈rows,bi r.1.p=some k,fun w=>∀ r∈rows,w.ownsRow 0 e size (.slice r.1.p r.1.n r.1.c) r.1.n r.2,fun _ h _ ⟨r,hr,hk⟩=>(oH (h r hr) hk).2,fun _ _ h hk r hr=>wS (h r hr) fun k hb=>hk k ⟨r,hr,hb⟩⟩
theorem Ic.many0 {w0 w:World} {Γ:List Pc} (S:Ic w0 w Γ) (e:TypeId) (size:Nat):Ic w0 w (.many e size [] :: Γ) :=
 ⟨S.ext,fun p hp=>by
  rcases List.mem_cons.1 hp with rfl | h
  ·exact fun r hr=>nomatch hr
  ·exact S.all p h,fun p hp k hk=>by
  rcases List.mem_cons.1 hp with rfl | h
  ·obtain⟨r,hr,_⟩:=hk;cases hr
  ·exact S.new p h k hk,List.pairwise_cons.2 ⟨(fun q _ k ⟨r,hr,_⟩=>nomatch hr),S.apart⟩⟩
theorem Ic.gather {w0 w:World} {Γ:List Pc} {e:TypeId} {size:Nat} {q:Option Addr} {n c:Nat} {xs:List Value} {rows:List (Hd × List Value)} (S:Ic w0 w (.own e size q n c xs :: .many e size rows :: Γ)):Ic w0 w (.many e size (rows ++ [(⟨q,n,c⟩,xs)]) :: Γ):=by
 have h1:=S.all _ (List.mem_cons_self ..)
 have h2:(Pc.many e size rows).holds w:=S.all _ (List.mem_cons_of_mem _ (List.mem_cons_self ..))
 have p1:=List.pairwise_cons.1 S.apart
 have p2:=List.pairwise_cons.1 p1.2
 have hf:∀ k,(Pc.many e size (rows ++ [(⟨q,n,c⟩,xs)])).foot k->(Pc.own e size q n c xs).foot k\/(Pc.many e size rows).foot k:=by
  rintro k ⟨r,hr,hk⟩
  rcases List.mem_append.1 hr with h | h
  ·exact .inr ⟨r,h,hk⟩
  ·rw [List.mem_singleton] at h;subst h;exact .inl hk
 refine⟨S.ext,fun p hp=>?_,fun p hp k hk=>?_,List.pairwise_cons.2 ⟨fun q' hq' k hk=>?_,p2.2⟩⟩
 ·rcases List.mem_cons.1 hp with rfl | h
  ·intro r hr
   rcases List.mem_append.1 hr with h | h
   ·exact h2 r h
   ·rw [List.mem_singleton] at h;subst h;exact h1
  ·exact S.all p (by simp [h])
 ·rcases List.mem_cons.1 hp with rfl | h
  ·rcases hf k hk with h | h
   ·exact S.new _ (by simp) k h
   ·exact S.new _ (List.mem_cons_of_mem _ (List.mem_cons_self ..)) k h
  ·exact S.new p (by simp [h]) k hk
 ·rcases hf k hk with h | h
  ·exact p1.1 q' (by simp [hq']) k h
  ·exact p2.1 q' hq' k h
theorem Ic.manyAt {w0 w:World} {Γ:List Pc} (S:Ic w0 w Γ) (j:Nat) {e:TypeId} {size:Nat} {rows:List (Hd × List Value)} (hj:Γ[j]?=some (.many e size rows)):∀ r∈rows,w.ownsRow 0 e size (.slice r.1.p r.1.n r.1.c) r.1.n r.2:=S.all _ (List.mem_of_getElem? hj)
def Kn (w:World) (Φ:List (World->Prop)):Prop:=∀ φ∈Φ,∀ w',Ext w w'->φ w'
theorem Kn.nil (w:World):Kn w []:=fun _ h=>nomatch h
theorem Kn.ext {w w':World} {Φ:List (World->Prop)} (h:Kn w Φ) (he:Ext w w'):Kn w' Φ:=fun φ hφ w2 h2=>h φ hφ w2 (Ext.trans he h2)
theorem Kn.add {w:World} {Φ:List (World->Prop)} (h:Kn w Φ) (φ:World->Prop) (hφ:∀ w',Ext w w'->φ w'):Kn w (φ :: Φ):=fun ψ hψ=>by
 rcases List.mem_cons.1 hψ with rfl | h1
 ·exact hφ
 ·exact h ψ h1
theorem Kn.get {w:World} {Φ:List (World->Prop)} (h:Kn w Φ) (i:Nat) {φ:World->Prop} (hi:Φ[i]?=some φ):φ w:=h φ (List.mem_of_getElem? hi) w (Below.refl _ _)
theorem eO {p:Option Addr} {n m c:Nat} (h:n=m):Ending.returned (.slice p n c)=.returned (.slice p m c):=by rw [h]
theorem Rd.new (w:World) (t:TypeId) (cs:List Value) (n size:Nat) (h:cs.length=n*size) (hn:n<=9223372036854775807):Rd (w.alloc (.cells cs.toArray t)) size (some ⟨w.heap.size,0,none⟩) n cs:=by
 refine⟨h,.inr ⟨_,_,rfl⟩,hn,fun j hj=>?_⟩
 rw [aB,Nat.zero_add,(Ih.new w t cs.toArray).cell]
 simp [List.getElem?_eq_getElem (show j<cs.length by omega)]
section
variable {P:Program} {w0 w:World} {Γ:List Pc}
theorem tX {base:Nat} {e:TypeId} {size:Nat} {q:Option Addr} {n c:Nat} {xs:List Value} (ho:w.ownsRow base e size (.slice q n c) n xs) (k:Nat) (hk:k<n*size) (u:Value) :
  (w.setCell (be q k) u).ownsRow base e size (.slice q n c) n (xs.set k u):=by
 refine⟨by rw [List.length_set];exact ho.1,?_⟩
 rcases ho.2 with ⟨h1,h2⟩ | ⟨g,cap,cur,h1,hg,hh,hn,hc,hs,hx⟩
 ·subst h2;simp at hk
 ·injection h1 with h1 h2 h3
  subst h1 h3
  refine .inr ⟨g,c,cur.setIfInBounds k u,rfl,hg,?_,hn,hc,by simpa using hs,?_⟩
  ·have:Ih w g e cur:=hh
   have h4:=this.set_ k u
   unfold Ih at h4
   simpa [be] using h4
  ·rw [Array.toList_setIfInBounds,<- hx,List.take_set]
theorem Ic.setRow (S:Ic w0 w Γ) (j:Nat) {e:TypeId} {size:Nat} {q:Option Addr} {n c:Nat} {xs:List Value} (hj:Γ[j]?=some (.own e size q n c xs)) (k:Nat) (hk:k<n*size) (u:Value) :
  Ic w0 (w.setCell (be q k) u) (Γ.set j (.own e size q n c (xs.set k u))):=by
 have ho:=S.own j hj
 refine S.put j hj _ (dG w (be q k) u) (fun k' hk'=>?_) (aP (tX ho k hk u) (Nat.zero_le _)) (fun k hk=>.inl hk)
 injection hk' with hk'
 subst hk'
 show bi q=_
 rcases ho.2 with ⟨h1,h2⟩ | ⟨g,cap,cur,h1,_⟩
 ·subst h2;simp at hk
 ·injection h1 with h1
  rw [h1];rfl
theorem aA {base:Nat} {e:TypeId} {size:Nat} {q:Option Addr} {n c:Nat} {xs:List Value} (ho:w.ownsRow base e size (.slice q n c) n xs) (h:0<n*size) (k:Nat):w.frozen? (be q k)=false:=by
 rcases ho.2 with ⟨h1,h2⟩ | ⟨g,cap,cur,h1,hg,hh,_⟩
 ·subst h2;simp at h
 ·injection h1 with h1 h2 h3
  subst h1
  have:Ih w g e cur:=hh
  simpa [be] using this.frozen k
theorem bU {base:Nat} {e:TypeId} {size:Nat} {q:Option Addr} {n c:Nat} {xs:List Value} (ho:w.ownsRow base e size (.slice q n c) n xs) {k:Nat} (hk:k<n*size):w.cell? (be q k)=some (xs.getD k undef):=by
 rcases ho.2 with ⟨h1,h2⟩ | ⟨g,cap,cur,h1,hg,hh,hn,hc,hs,hx⟩
 ·subst h2;simp at hk
 ·injection h1 with h1 h2 h3
  subst h1
  have:Ih w g e cur:=hh
  have h4:=this.cell k
  have h5:n*size<=cap*size:=Nat.mul_le_mul_right _ hn
  simp only [be,Option.getD_some,Nat.zero_add]
  rw [h4,<- hx,List.getD_eq_getElem?_getD,List.getElem?_take,if_pos hk]
  simp [show k<cur.size by omega]
theorem lT (w:World) (o:Obj) (p:Option Addr) (j:Nat) (h:(be p 0).block<w.heap.size):(w.alloc o).frozen? (be p j)=w.frozen? (be p j) :=
 World.frozen?_of_block (Below.heap_alloc w o _ h)
theorem mS (w:World) (o:Obj) (a:Addr) (h:a.block<w.heap.size):(w.alloc o).frozen? a=w.frozen? a :=
 World.frozen?_of_block (Below.heap_alloc w o _ h)
attribute [go_sem] lT mS
theorem p9 (q:Option Addr) {i j:Nat} (h:i≠j):be q i≠be q j:=by
 unfold be;intro e;injection e;omega
theorem Ic.blt {w0 w:World} {Γ:List Pc} (S:Ic w0 w Γ) (j:Nat) {e:TypeId} {size:Nat} {q:Option Addr} {n c:Nat} {xs:List Value} (hj:Γ[j]?=some (.own e size q n c xs)) (h:0<n):w0.heap.size<=(be q 0).block/\(be q 0).block<w.heap.size:=by
 have ho:=S.own j hj
 rcases ho.2 with ⟨_,h2⟩ | ⟨g,cap,cur,h1,_⟩
 ·omega
 ·injection h1 with h1
  exact oH ho (k:=(be q 0).block) (by rw [h1];rfl)
theorem Ic.setRow2 (S:Ic w0 w Γ) (j:Nat) {e:TypeId} {size:Nat} {q:Option Addr} {n c:Nat} {xs:List Value} (hj:Γ[j]?=some (.own e size q n c xs)) (k:Nat) (hk:k+1<n*size) (u v:Value) :
  Ic w0 ((w.setCell (be q k) u).setCell ⟨(be q k).block,(be q k).off+1,none⟩ v) (Γ.set j (.own e size q n c ((xs.set k u).set (k+1) v))):=by
 have hjl:=(List.getElem?_eq_some_iff.1 hj).1
 have:=(S.setRow j hj k (by omega) u).setRow j (List.getElem?_set_self hjl) (k+1) hk v
 rwa [List.set_set] at this
theorem am {ops:Array Oper} {rest:List Oper} {o:Oper} {a:Act} {Q:Exit->Act->World->Prop} (hgd:o.guard=none) (s x:Operand) (t:TypeId)
  (ho:o.op=.call { callee:=.builtin .append,args:=#[s,x],argTypes:=#[t,t] })
  (e:TypeId) (i:TypeInfo) (z:Value) (size bytes:Nat) (ht:P.underlying t=some (.slice e)) (hi:P.info? e=some i) (hz:i.zero=some z)
  (hsize:i.size=size) (hby:i.bytes=bytes) (hzs:z.cells.size=size) (hsz:0<size)
  (S:Ic w0 w Γ) (j:Nat) (q:Option Addr) (n cq:Nat) (xs:List Value) (hs:a.eval s=.slice q n cq) (hj:Γ[j]?=some (.own e size q n cq xs))
  (A:Option Addr) (m c:Nat) (news:List Value) (hx:a.eval x=.slice A m c) (hr:Rd w size A m news) (h1:∀ u∈news,u.oneCell'=true)
  (hbytes:(n+m)*bytes<=140737488355328) (h63:n+m<=140737488355328)
  (h:∀ q' c' w',Ic w0 w' (Γ.set j (.own e size q' (n+m) c' (xs ++ news)))->w.heap.size<=w'.heap.size->wpList P ops Q rest (a.put o.dst (.slice q' (n+m) c')) w'):wpList P ops Q (o :: rest) a w:=by
 refine aM hgd s x t ho w0.heap.size e i z size bytes ht hi hz hsize hby hzs hsz q n cq xs hs (S.own j hj) A m c news hx hr h1 hbytes h63 S.ext.size ?_
 intro q' c' w' ho' hg hat _
 refine h q' c' w' (S.put j hj _ hg (fun k hk=>hk) (aP ho' (Nat.zero_le _)) fun k hk=>?_) hg.size
 rcases hat with h | h
 ·exact .inl (h.symm.trans hk)
 ·have:some w.heap.size=some k:=h.symm.trans hk
  injection this with this
  exact .inr (by omega)
end
end
theorem cN (g:Nat) (v n:Int) (w:World) (hB:Ih w g 3 #[.int .i64 n]):Calls prog 127 #[.int .i64 v,.pointer (some ⟨g,0,none⟩)] w fun e w'=>e=.returned (.bool (fh v n))/\w=w':=by
 have b0:w.cell? ⟨g,0,none⟩=some (.int .i64 n):=hB.cell 0
 have bz:=hB.lt
 clear hB
 by_cases h:0<=v
 ·go_enter func127,ntmps127
  go_wp2
  go_ret
  exact⟨aq (by unfold fh;simp [h]),rfl⟩
 ·have e0:decide (0<=v)=false:=by simpa using h
  go_enter func127,ntmps127
  go_wp2
  go_ret
  exact⟨aq (by unfold fh;rw [e0];rfl),rfl⟩
theorem DV (s:ByteArray) (w:World) (hs:s.size<=140737488355328):Calls prog 128 #[.string s] w fun e w'=>e=.returned (.bool (!bE s))/\w=w':=by
 go_enter func128,ntmps128
 go_wp2_with (go_at_call 129;refine(DA _ _ hs).mono ?_;rintro e w' ⟨rfl,rfl⟩)
 go_ret
 exact⟨rfl,rfl⟩
theorem zW (p:Option Addr) (n c:Nat) (l:List ByteArray) (w:World) (hl:Rd w 1 p n (bg l)) (hz:∀ s∈l,s.size<=1000000) :
  Calls prog 197 #[.slice p n c,.func (.func 128) #[] #[]] w fun e w'=>∃ i:Int,e=.returned (.int .i64 i)/\decide (0<=i)=l.any (fun s=>!bE s)/\w=w':=by
 have p1:=hl.ptr
 have n1:=hl.small
 have l1:=hl.nS
 have HL:=lh hl;clear hl
 have L1:=lh l1;clear l1
 have HZ:=lh hz;clear hz
 go_enter func197,ntmps197
 go_wp2
 go_loop [5,8] (fun _ i=>∃ k:Nat,k<=n/\i=.int .i64 k/\(l.take k).any (fun s=>!bE s)=false) (fun _ i=>n - (intOf i).toNat)
 case atStart=>exact⟨0,Nat.zero_le _,rfl,rfl⟩
 case round =>
  obtain⟨k,hk,rfl,ha⟩:=hrel
  have HA:=lh ha;clear ha
  by_cases hlt:k<n
  ·have g1:=HL.out.cS hlt
   have hsz:(ae l k).size<=140737488355328:=by
    have:=HZ.out (ae l k) (by rw [ar (by rw [<- L1.out];exact hlt)];exact List.getElem_mem _)
    omega
   by_cases hw:(!bE (ae l k))=true
   ·have HF:=lh (cW (fun s=>!bE s) l k (by rw [<- L1.out];exact hlt) hw)
    go_wp2_with (go_at_call 128;refine(DV _ _ hsz).mono ?_;rintro e w' ⟨rfl,rfl⟩)
    go_ret
    exact⟨_,rfl,by rw [HF.out];simp,rfl⟩
   ·have hw':(!bE (ae l k))=false:=by simpa using hw
    have Ob:=lh hw'
    clear hw
    go_wp2_with (go_at_call 128;refine(DV _ _ hsz).mono ?_;rintro e w' ⟨rfl,rfl⟩)
    go_round
    case rel=>exact⟨k+1,by omega,by go_num,eP _ _ _ (by rw [<- L1.out];exact hlt) HA.out Ob.out⟩
    case measure=>simp [intOf];omega
  ·have HF:=lh (gE _ _ _ (by rw [<- L1.out];exact hlt) HA.out)
   go_wp2
   go_ret
   exact⟨_,rfl,by rw [HF.out];rfl,rfl⟩
theorem aZ (p:Option Addr) (n c:Nat) (l:List ByteArray) (w:World) (hl:Rd w 1 p n (bg l)) (hz:∀ s∈l,s.size<=1000000) :
  Calls prog 130 #[.slice p n c,.func (.func 128) #[] #[]] w fun e w'=>e=.returned (.bool (l.any (fun s=>!bE s)))/\w=w':=by
 have HC:=lh (zW p n c l w hl hz)
 clear hl hz
 go_enter func130,ntmps130
 go_wp2_with (go_at_call 197;refine HC.out.mono ?_;rintro e w' ⟨i,rfl,hi,rfl⟩;have HI:=lh hi;clear hi)
 go_ret
 exact⟨aq HI.out,rfl⟩
theorem mn (ws:List ByteArray):ws.all bE=!ws.any (fun s=>!bE s):=by rw [List.all_eq_not_any_not]
theorem Ih.new2 (w:World) (t t2:TypeId) (cs cs2:Array Value):Ih ((w.alloc (.cells cs t)).alloc (.cells cs2 t2)) (w.heap.size+1) t2 cs2:=by
 have:=Ih.new (w.alloc (.cells cs t)) t2 cs2
 rwa [World.size_alloc] at this
theorem zG (k f t:Int) (pw:Option Addr) (nw cw:Nat) (ws:List ByteArray) (rad most:Int) (n:Int) (w:World) (hw:Rd w 1 pw nw (bg ws)) (hz:∀ s∈ws,s.size<=1000000) :
  Calls prog 76 #[.agg #[.int .i64 k,.int .i64 f,.int .i64 t,.slice pw nw cw,.int .i64 rad,.int .i64 most],.int .i64 n] w fun e w'=>e=.returned (.int .i64 (b7 k f t ws rad most n))/\Ext w w':=by
 have l1:=hw.nS
 have p1:=hw.ptr
 have n1:=hw.small
 have HE:=lh (((Ic.start w).al #[.int .i64 k,.int .i64 f,.int .i64 t,.slice pw nw cw,.int .i64 rad,.int .i64 most] 24 w.heap.size rfl).al #[.int .i64 n] 3 (w.heap.size+1) (by simp)).ext
 have HW:=lh (hw.ext HE.out)
 have HB:=lh (Ih.new2 w 24 3 #[.int .i64 k,.int .i64 f,.int .i64 t,.slice pw nw cw,.int .i64 rad,.int .i64 most] #[.int .i64 n])
 have HZ:=lh hz
 have L1:=lh l1
 clear hz l1 hw
 by_cases h12:k=1\/k=2
 ·have HO:=lh (oD (f:=f) (t:=t) (ws:=ws) (rad:=rad) (most:=most) (n:=n) h12)
  cases h1:fh f n with
  | false =>
   have HF:Hid (b7 k f t ws rad most n=180):=bL (by rw [HO.out,h1];rfl)
   have g3:(k == 3)=false:=by rw [beq_eq_false_iff_ne];omega
   by_cases k1:k=1
   ·subst k1
    clear h12
    go_enter func76,ntmps76
    go_wp2_with (first | (go_at_call 130;refine(aZ _ _ _ ws _ HW.out HZ.out).mono ?_;rintro e w' ⟨rfl,rfl⟩) | (go_at_call 127;refine(cN _ _ n _ HB.out).mono ?_;rintro e w' ⟨rfl,rfl⟩))
    go_ret
    exact⟨by(rw [HF.out];rfl),HE.out⟩
   ·obtain rfl:k=2:=by omega
    clear h12 k1
    go_enter func76,ntmps76
    go_wp2_with (first | (go_at_call 130;refine(aZ _ _ _ ws _ HW.out HZ.out).mono ?_;rintro e w' ⟨rfl,rfl⟩) | (go_at_call 127;refine(cN _ _ n _ HB.out).mono ?_;rintro e w' ⟨rfl,rfl⟩))
    go_ret
    exact⟨by(rw [HF.out];rfl),HE.out⟩
  | true =>
   cases h2:fh t n with
   | false =>
    have HF:Hid (b7 k f t ws rad most n=180):=bL (by rw [HO.out,h1,h2];rfl)
    by_cases k1:k=1
    ·subst k1
     clear h12
     go_enter func76,ntmps76
     go_wp2_with (first | (go_at_call 130;refine(aZ _ _ _ ws _ HW.out HZ.out).mono ?_;rintro e w' ⟨rfl,rfl⟩) | (go_at_call 127;refine(cN _ _ n _ HB.out).mono ?_;rintro e w' ⟨rfl,rfl⟩))
     go_ret
     exact⟨by(rw [HF.out];rfl),HE.out⟩
    ·obtain rfl:k=2:=by omega
     clear h12 k1
     go_enter func76,ntmps76
     go_wp2_with (first | (go_at_call 130;refine(aZ _ _ _ ws _ HW.out HZ.out).mono ?_;rintro e w' ⟨rfl,rfl⟩) | (go_at_call 127;refine(cN _ _ n _ HB.out).mono ?_;rintro e w' ⟨rfl,rfl⟩))
     go_ret
     exact⟨by(rw [HF.out];rfl),HE.out⟩
   | true =>
    have HF:Hid (b7 k f t ws rad most n=0):=nM (by rw [HO.out,h1,h2];rfl)
    by_cases k1:k=1
    ·subst k1
     clear h12
     go_enter func76,ntmps76
     go_wp2_with (first | (go_at_call 130;refine(aZ _ _ _ ws _ HW.out HZ.out).mono ?_;rintro e w' ⟨rfl,rfl⟩) | (go_at_call 127;refine(cN _ _ n _ HB.out).mono ?_;rintro e w' ⟨rfl,rfl⟩))
     go_ret
     exact⟨by(rw [HF.out];rfl),HE.out⟩
    ·obtain rfl:k=2:=by omega
     clear h12 k1
     go_enter func76,ntmps76
     go_wp2_with (first | (go_at_call 130;refine(aZ _ _ _ ws _ HW.out HZ.out).mono ?_;rintro e w' ⟨rfl,rfl⟩) | (go_at_call 127;refine(cN _ _ n _ HB.out).mono ?_;rintro e w' ⟨rfl,rfl⟩))
     go_ret
     exact⟨by(rw [HF.out];rfl),HE.out⟩
 ·have g1:(k == 1)=false:=by rw [beq_eq_false_iff_ne];omega
  have g2:(k == 2)=false:=by rw [beq_eq_false_iff_ne];omega
  by_cases h3:k=3
  ·subst h3
   have HO:=lh (wR (f:=f) (t:=t) (ws:=ws) (rad:=rad) (most:=most) (n:=n))
   clear h12
   by_cases c1:1<=nw
   ·by_cases c2:nw<=8
    ·cases hw:ws.any (fun s=>!bE s) with
     | true =>
      have HM:eV ws=false:=by unfold eV;rw [mn,hw];simp
      have HF:Hid (b7 3 f t ws rad most n=180):=bL (by rw [HO.out,HM];simp)
      clear HM
      rcases Bool.eq_false_or_eq_true (fh f n) with h1 | h1 <;> (go_enter func76,ntmps76;go_wp2_with (first | (go_at_call 130;refine(aZ _ _ _ ws _ HW.out HZ.out).mono ?_;rintro e w' ⟨rfl,rfl⟩) | (go_at_call 127;refine(cN _ _ n _ HB.out).mono ?_;rintro e w' ⟨rfl,rfl⟩));go_ret;exact⟨by(rw [HF.out];rfl),HE.out⟩)
     | false =>
      have HM:eV ws=true:=by unfold eV;rw [mn,hw,<- L1.out];simp [c1,c2]
      rw [HM,Bool.and_true] at HO
      clear HM
      cases h1:fh f n with
      | false =>
       have HF:Hid (b7 3 f t ws rad most n=180):=bL (by rw [HO.out,h1];simp)
       (go_enter func76,ntmps76;go_wp2_with (first | (go_at_call 130;refine(aZ _ _ _ ws _ HW.out HZ.out).mono ?_;rintro e w' ⟨rfl,rfl⟩) | (go_at_call 127;refine(cN _ _ n _ HB.out).mono ?_;rintro e w' ⟨rfl,rfl⟩));go_ret;exact⟨by(rw [HF.out];rfl),HE.out⟩)
      | true =>
       rw [h1,Bool.true_and] at HO
       by_cases r1:0<=rad
       ·by_cases r2:rad<=200
        ·by_cases m1:1<=most
         ·by_cases m2:most<=100
          ·have HF:Hid (b7 3 f t ws rad most n=0):=nM (by rw [HO.out];unfold kV;simp [r1,r2,m1,m2])
           (go_enter func76,ntmps76;go_wp2_with (first | (go_at_call 130;refine(aZ _ _ _ ws _ HW.out HZ.out).mono ?_;rintro e w' ⟨rfl,rfl⟩) | (go_at_call 127;refine(cN _ _ n _ HB.out).mono ?_;rintro e w' ⟨rfl,rfl⟩));go_ret;exact⟨by(rw [HF.out];rfl),HE.out⟩)
          ·have e:decide (most<=100)=false:=by simpa using m2
           have HF:Hid (b7 3 f t ws rad most n=180):=bL (by rw [HO.out];unfold kV;rw [e];simp)
           (go_enter func76,ntmps76;go_wp2_with (first | (go_at_call 130;refine(aZ _ _ _ ws _ HW.out HZ.out).mono ?_;rintro e w' ⟨rfl,rfl⟩) | (go_at_call 127;refine(cN _ _ n _ HB.out).mono ?_;rintro e w' ⟨rfl,rfl⟩));go_ret;exact⟨by(rw [HF.out];rfl),HE.out⟩)
         ·have e:decide (1<=most)=false:=by simpa using m1
          have HF:Hid (b7 3 f t ws rad most n=180):=bL (by rw [HO.out];unfold kV;rw [e];simp)
          (go_enter func76,ntmps76;go_wp2_with (first | (go_at_call 130;refine(aZ _ _ _ ws _ HW.out HZ.out).mono ?_;rintro e w' ⟨rfl,rfl⟩) | (go_at_call 127;refine(cN _ _ n _ HB.out).mono ?_;rintro e w' ⟨rfl,rfl⟩));go_ret;exact⟨by(rw [HF.out];rfl),HE.out⟩)
        ·have e:decide (rad<=200)=false:=by simpa using r2
         have HF:Hid (b7 3 f t ws rad most n=180):=bL (by rw [HO.out];unfold kV;rw [e];simp)
         (go_enter func76,ntmps76;go_wp2_with (first | (go_at_call 130;refine(aZ _ _ _ ws _ HW.out HZ.out).mono ?_;rintro e w' ⟨rfl,rfl⟩) | (go_at_call 127;refine(cN _ _ n _ HB.out).mono ?_;rintro e w' ⟨rfl,rfl⟩));go_ret;exact⟨by(rw [HF.out];rfl),HE.out⟩)
       ·have e:decide (0<=rad)=false:=by simpa using r1
        have HF:Hid (b7 3 f t ws rad most n=180):=bL (by rw [HO.out];unfold kV;rw [e];simp)
        (go_enter func76,ntmps76;go_wp2_with (first | (go_at_call 130;refine(aZ _ _ _ ws _ HW.out HZ.out).mono ?_;rintro e w' ⟨rfl,rfl⟩) | (go_at_call 127;refine(cN _ _ n _ HB.out).mono ?_;rintro e w' ⟨rfl,rfl⟩));go_ret;exact⟨by(rw [HF.out];rfl),HE.out⟩)
    ·have HM:eV ws=false:=by unfold eV;rw [<- L1.out];simp [c2]
     have HF:Hid (b7 3 f t ws rad most n=180):=bL (by rw [HO.out,HM];simp)
     have e:decide ((nw:Int)<=8)=false:=by simp;omega
     have en:decide (nw<=8)=false:=by simpa using c2
     clear HM
     rcases Bool.eq_false_or_eq_true (fh f n) with h1 | h1 <;> (go_enter func76,ntmps76;go_wp2_with (first | (go_at_call 130;refine(aZ _ _ _ ws _ HW.out HZ.out).mono ?_;rintro e w' ⟨rfl,rfl⟩) | (go_at_call 127;refine(cN _ _ n _ HB.out).mono ?_;rintro e w' ⟨rfl,rfl⟩));go_ret;exact⟨by(rw [HF.out];rfl),HE.out⟩)
   ·have HM:eV ws=false:=by unfold eV;rw [<- L1.out];simp [c1]
    have HF:Hid (b7 3 f t ws rad most n=180):=bL (by rw [HO.out,HM];simp)
    have e:decide ((1:Int)<=(nw:Int))=false:=by simp;omega
    have en:decide (1<=nw)=false:=by simpa using c1
    clear HM
    rcases Bool.eq_false_or_eq_true (fh f n) with h1 | h1 <;> (go_enter func76,ntmps76;go_wp2_with (first | (go_at_call 130;refine(aZ _ _ _ ws _ HW.out HZ.out).mono ?_;rintro e w' ⟨rfl,rfl⟩) | (go_at_call 127;refine(cN _ _ n _ HB.out).mono ?_;rintro e w' ⟨rfl,rfl⟩));go_ret;exact⟨by(rw [HF.out];rfl),HE.out⟩)
  ·have HF:Hid (b7 k f t ws rad most n=180):=bL (ij h12 h3)
   have g3:(k == 3)=false:=by rw [beq_eq_false_iff_ne];exact h3
   clear h12 h3
   go_enter func76,ntmps76
   go_wp2_with (first | (go_at_call 130;refine(aZ _ _ _ ws _ HW.out HZ.out).mono ?_;rintro e w' ⟨rfl,rfl⟩) | (go_at_call 127;refine(cN _ _ n _ HB.out).mono ?_;rintro e w' ⟨rfl,rfl⟩))
   go_ret
   exact⟨by(rw [HF.out];rfl),HE.out⟩
theorem iE:(prog.info? 138).map (fun i=>(i.zero,i.size,i.bytes))=some (some (.agg #[.int .i64 0,.int .i64 0,.int .i64 0,.int .i64 0]),4,32):=by kernel_rfl
theorem cP (l:List Sq):∀ u∈au l,u.oneCell'=true:=by
 intro u hu
 simp only [au,List.mem_flatMap] at hu
 obtain⟨x,_,hx⟩:=hu
 simp only [List.mem_cons,List.not_mem_nil,or_false] at hx
 rcases hx with rfl | rfl | rfl | rfl <;> rfl
theorem Rd.oneQ (w:World) (t:TypeId) (x:Sq):Rd (w.alloc (.cells #[.int .i64 x.s,.int .i64 x.r,.int .i64 x.v,.int .i64 x.d] t)) 4 (some ⟨w.heap.size,0,none⟩) 1 (au [x]):=Rd.new w t [.int .i64 x.s,.int .i64 x.r,.int .i64 x.v,.int .i64 x.d] 1 4 rfl (by omega)
theorem mX (gl gs:Nat) (q:Option Addr) (n c:Nat) (L:List Sq) (s r v:Int) (w w0:World) (Γ:List Pc) (S:Ic w0 w (.own 138 4 q n c (au L) :: .blk gl 83 #[.slice q n c] :: .blk gs 3 #[.int .i64 s] :: Γ)) (hn:n<=1000) :
  Calls prog 92 #[.int .i64 r,.int .i64 v,.pointer (some ⟨gl,0,none⟩),.pointer (some ⟨gs,0,none⟩)] w fun e w'=>e=.returned (.tuple #[])/\∃ q' c',Ic w0 w' (.own 138 4 q' (n+1) c' (au (L ++ [⟨s,r,v,0⟩])) :: .blk gl 83 #[.slice q' (n+1) c'] :: .blk gs 3 #[.int .i64 s] :: Γ):=by
 obtain⟨i0,hi0,hz0,hz1,hz2⟩:=info_parts iE
 have b0:w.cell? ⟨gl,0,none⟩=some (.slice q n c):=(S.blk 1 rfl).cell 0
 have bz:=(S.blk 1 rfl).lt
 have e0:w.cell? ⟨gs,0,none⟩=some (.int .i64 s):=(S.blk 2 rfl).cell 0
 have ez:=(S.blk 2 rfl).lt
 have SH:=lh S;clear S
 go_enter func92,ntmps92
 go_wp2_with (at_builtin;go_must (refine am rfl _ _ _ rfl 138 i0 _ 4 32 underlying83 hi0 hz0 hz1 hz2 rfl (by omega) (SH.out.junk _) 0 q n c _ rfl rfl _ 1 1 _ rfl (Rd.oneQ _ _ ⟨s,r,v,0⟩) (cP _) (by omega) (by omega) ?_;intro q' c' w1 S' hsz;have S1:=lh S';obtain⟨kf,kz⟩:=Gb (S'.blk 1 rfl);have k4:w1.cell? ⟨gl,0,none⟩=some (.slice q n c):=(S'.blk 1 rfl).cell 0;clear S' hsz))
 go_end0
 exact⟨rfl,q',c',by rw [bC];exact S1.out.set 1 rfl 0 (.slice q' (n+1) c')⟩
theorem Er (k f t:Int) (pw:Option Addr) (nw cw:Nat) (rad most s:Int) (w:World) :
  Calls prog 51 #[.agg #[.int .i64 k,.int .i64 f,.int .i64 t,.slice pw nw cw,.int .i64 rad,.int .i64 most],.int .i64 s] w fun e w'=>∃ q c,e=.returned (.slice q (aL k f t s).length c)/\Ic w w' [.own 138 4 q (aL k f t s).length c (au (aL k f t s))]:=by
 have S0:=lh (((((Ic.start w).al #[.int .i64 k,.int .i64 f,.int .i64 t,.slice pw nw cw,.int .i64 rad,.int .i64 most] 24 w.heap.size rfl).al #[.int .i64 s] 3 (w.heap.size+1) (by simp)).al #[.slice none 0 0] 83 (w.heap.size+2) (by simp)).nilrow 138 4)
 by_cases k1:k=1
 ·subst k1
  have HQ:Hid (aL 1 f t s=[⟨s,0,f,0⟩,⟨s,1,t,0⟩]):=rfl
  rw [HQ.out]
  go_enter func51,ntmps51
  go_wp2_with (first | (go_at_call 92;have _t:=S1;go_must (refine(mX _ _ q1 1 c1 _ s _ _ _ _ _ S1.out (by omega)).mono ?_;rintro e w2 ⟨rfl,q2,c2,T⟩;have S2:=lh T;clear b0 b2 bz lz l0;have b0:w2.cell? ⟨w.heap.size,1,none⟩=some (.int .i64 f):=(T.blk 3 rfl).cell 1;have b2:w2.cell? ⟨w.heap.size,2,none⟩=some (.int .i64 t):=(T.blk 3 rfl).cell 2;have bz:=(T.blk 3 rfl).lt;have lz:=(T.blk 1 rfl).lt;have l0:w2.cell? ⟨w.heap.size+2,0,none⟩=some (.slice q2 2 c2):=(T.blk 1 rfl).cell 0;clear T)) | (go_at_call 92;go_must (refine(mX _ _ none 0 0 [] s _ _ _ _ _ S0.out (by omega)).mono ?_;rintro e w1 ⟨rfl,q1,c1,T⟩;have S1:=lh T;have b0:w1.cell? ⟨w.heap.size,1,none⟩=some (.int .i64 f):=(T.blk 3 rfl).cell 1;have b2:w1.cell? ⟨w.heap.size,2,none⟩=some (.int .i64 t):=(T.blk 3 rfl).cell 2;have bz:=(T.blk 3 rfl).lt;have lz:=(T.blk 1 rfl).lt;have l0:w1.cell? ⟨w.heap.size+2,0,none⟩=some (.slice q1 1 c1):=(T.blk 1 rfl).cell 0;clear T)))
  go_ret
  exact⟨q2,c2,rfl,S2.out.pick [0] (by decide) rfl⟩
 ·by_cases k23:k=2\/k=3
  ·have HQ:Hid (aL k f t s=[⟨s,0,f,0⟩]):=by unfold Hid aL;rw [if_neg k1,if_pos k23]
   rw [HQ.out]
   clear HQ k1
   by_cases k2:k=2
   ·subst k2
    clear k23
    go_enter func51,ntmps51
    go_wp2_with (first | (go_at_call 92;go_must (refine(mX _ _ none 0 0 [] s _ _ _ _ _ S0.out (by omega)).mono ?_;rintro e w1 ⟨rfl,q1,c1,T⟩;have S1:=lh T;have b0:w1.cell? ⟨w.heap.size,1,none⟩=some (.int .i64 f):=(T.blk 3 rfl).cell 1;have b2:w1.cell? ⟨w.heap.size,2,none⟩=some (.int .i64 t):=(T.blk 3 rfl).cell 2;have bz:=(T.blk 3 rfl).lt;have lz:=(T.blk 1 rfl).lt;have l0:w1.cell? ⟨w.heap.size+2,0,none⟩=some (.slice q1 1 c1):=(T.blk 1 rfl).cell 0;clear T)))
    go_ret
    exact⟨q1,c1,rfl,S1.out.pick [0] (by decide) rfl⟩
   ·obtain rfl:k=3:=by omega
    clear k23 k2
    go_enter func51,ntmps51
    go_wp2_with (first | (go_at_call 92;go_must (refine(mX _ _ none 0 0 [] s _ _ _ _ _ S0.out (by omega)).mono ?_;rintro e w1 ⟨rfl,q1,c1,T⟩;have S1:=lh T;have b0:w1.cell? ⟨w.heap.size,1,none⟩=some (.int .i64 f):=(T.blk 3 rfl).cell 1;have b2:w1.cell? ⟨w.heap.size,2,none⟩=some (.int .i64 t):=(T.blk 3 rfl).cell 2;have bz:=(T.blk 3 rfl).lt;have lz:=(T.blk 1 rfl).lt;have l0:w1.cell? ⟨w.heap.size+2,0,none⟩=some (.slice q1 1 c1):=(T.blk 1 rfl).cell 0;clear T)))
    go_ret
    exact⟨q1,c1,rfl,S1.out.pick [0] (by decide) rfl⟩
  ·have HQ:Hid (aL k f t s=[]):=by unfold Hid aL;rw [if_neg k1,if_neg k23]
   rw [HQ.out]
   have g1:(k == 1)=false:=by rw [beq_eq_false_iff_ne];omega
   have g2:(k == 2)=false:=by rw [beq_eq_false_iff_ne];omega
   have g3:(k == 3)=false:=by rw [beq_eq_false_iff_ne];omega
   clear HQ k1 k23
   go_enter func51,ntmps51
   go_wp2
   go_ret
   exact⟨none,0,rfl,S0.out.pick [0] (by decide) rfl⟩
def gu (x y:Int):Int:=if x<y then -1 else if x=y then 0 else 1
def mG (x y:Int):Int:=if x=0 then y else x
def kb (a b:Int × Int):Int:=mG (gu a.1 b.1) (gu a.2 b.2)
theorem dh {k:IntKind} {a b:Int} (h:a=b):Ending.returned (.int k a)=.returned (.int k b):=by rw [h]
theorem dl (x y:Int) (w:World):Calls prog 217 #[.int .i64 x,.int .i64 y] w fun e w'=>e=.returned (.int .i64 (gu x y))/\w'=w:=by
 have hx:(x != x)=false:=by simp
 have hy:(y != y)=false:=by simp
 by_cases h1:x<y
 ·have h2:Hid (gu x y = -1):=by unfold Hid gu;simp [h1]
  go_enter func217,ntmps217
  go_wp2
  go_ret
  exact⟨dh h2.out.symm,rfl⟩
 ·by_cases h3:y<x
  ·have h2:Hid (gu x y=1):=by unfold Hid gu;rw [if_neg h1,if_neg (by omega)]
   go_enter func217,ntmps217
   go_wp2
   go_ret
   exact⟨dh h2.out.symm,rfl⟩
  ·have h4:x=y:=by omega
   subst h4
   have h2:Hid (gu x x=0):=by unfold Hid gu;simp
   go_enter func217,ntmps217
   go_wp2
   go_ret
   exact⟨dh h2.out.symm,rfl⟩
theorem Fw (b:Nat) (x y:Int) (w:World) (h0:w.cell? ⟨b,0,none⟩=some (.int .i64 x)) (h1:w.cell? ⟨b,1,none⟩=some (.int .i64 y)) :
  Calls prog 216 #[.slice (some ⟨b,0,none⟩) 2 2] w fun e w'=>e=.returned (.int .i64 (mG x y))/\w'=w:=by
 by_cases hx:x=0
 ·have h2:Hid (mG x y=y):=by unfold Hid mG;rw [if_pos hx]
  have hx2:(x != 0)=false:=by simp [hx]
  have HX:=lh hx;clear hx
  by_cases hy:y=0
  ·have hy2:(y != 0)=false:=by simp [hy]
   have HY:=lh hy;clear hy
   go_enter func216,ntmps216
   go_wp2
   refine wp_loop_rounds 3 ?_
   rw [rounds_succ]
   go_wp2
   rw [rounds_succ]
   go_wp2
   rw [rounds_succ]
   go_wp2
   go_ret
   exact⟨dh (by rw [h2.out,HY.out]),rfl⟩
  ·have hy2:(y != 0)=true:=by simp [hy]
   have HY:=lh hy;clear hy
   go_enter func216,ntmps216
   go_wp2
   refine wp_loop_rounds 2 ?_
   rw [rounds_succ]
   go_wp2
   rw [rounds_succ]
   go_wp2
   go_ret
   exact⟨dh h2.out.symm,rfl⟩
 ·have h2:Hid (mG x y=x):=by unfold Hid mG;rw [if_neg hx]
  have hx2:(x != 0)=true:=by simp [hx]
  have HX:=lh hx;clear hx
  go_enter func216,ntmps216
  go_wp2
  refine wp_loop_rounds 1 ?_
  rw [rounds_succ]
  go_wp2
  go_ret
  exact⟨dh h2.out.symm,rfl⟩
section
open Go Go.RowKit Go.Shelf Go.Lib Go.Sort
def jd (x:Int × Int):List Value:=[.int .i64 x.1,.int .i64 x.2]
theorem DH (W:World) (o1 o2 o3:Obj):(((W.alloc o1).alloc o2).alloc o3).drew=grow (W.drewN 1) #[o1,o2,o3]:=by
 rw [alloc_eq_grow,alloc_eq_grow,alloc_eq_grow,grow_grow,grow_grow];rfl
theorem sy (x y:Int × Int) (W:World):Calls prog 223 #[.agg #[.int .i64 x.1,.int .i64 x.2],.agg #[.int .i64 y.1,.int .i64 y.2]] W fun e w'=>e=.returned (.int .i64 (kb x y))/\∃ q os',w'=grow (W.drewN q) os':=by
 have Je:=lh (fun W'=>dl x.1 y.1 W')
 have IY:=lh (fun W'=>dl x.2 y.2 W')
 obtain⟨c1,h1⟩:∃ c,c=gu x.1 y.1:=⟨_,rfl⟩
 obtain⟨c2,h2⟩:∃ c,c=gu x.2 y.2:=⟨_,rfl⟩
 rw [<- h1] at Je
 rw [<- h2] at IY
 have HF:Hid (kb x y=mG c1 c2):=by unfold Hid kb;rw [h1,h2]
 clear h1 h2
 go_enter func223,ntmps223
 go_wp2
 obtain⟨w0,hw0⟩:∃ w0,w0=(W.alloc (.cells #[.int .i64 x.1,.int .i64 x.2] 98)).alloc (.cells #[.int .i64 y.1,.int .i64 y.2] 98):=⟨_,rfl⟩
 rw [<- hw0]
 have a0:w0.cell? ⟨W.heap.size,0,none⟩=some (.int .i64 x.1):=by rw [hw0];simp
 have a1:w0.cell? ⟨W.heap.size,1,none⟩=some (.int .i64 x.2):=by rw [hw0];simp
 have a2:w0.cell? ⟨W.heap.size+1,0,none⟩=some (.int .i64 y.1):=by rw [hw0];have:=dP (W.alloc (.cells #[.int .i64 x.1,.int .i64 x.2] 98)) (.int .i64 y.1) [.int .i64 y.2] 98;rwa [World.size_alloc] at this
 have a3:w0.cell? ⟨W.heap.size+1,1,none⟩=some (.int .i64 y.2):=by rw [hw0];have:=hU (W.alloc (.cells #[.int .i64 x.1,.int .i64 x.2] 98)) (.int .i64 y.1) (.int .i64 y.2) [] 98;rwa [World.size_alloc] at this
 have HW0:=lh hw0;clear hw0
 refine wp_region_still_tail 10 (by kernel_rfl) (by kernel_rfl) ?_
 simp only [List.take_succ_cons,List.take_zero,List.drop_succ_cons,List.drop_zero]
 iterate 4 still_step
 still_call (Je.out _)
 iterate 4 still_step
 still_call (IY.out _)
 refine wpStill_nil ?_
 change wpList _ _ _ _ _ w0.drew
 go_wp2_with (go_at_call 216;refine(Fw _ c1 c2 _ (by simp) (by simp)).mono ?_;rintro e w' ⟨rfl,rfl⟩)
 go_ret
 exact⟨dh HF.out.symm,1,#[_,_,_],by rw [HW0.out];exact DH _ _ _ _⟩
theorem fI (x y:Int × Int):ltOf kb x y=a8 x y:=by
 unfold ltOf kb mG gu a8
 rw [Bool.eq_iff_iff]
 simp only [decide_eq_true_eq]
 by_cases a:x.1<y.1 <;> by_cases b:x.1=y.1 <;> by_cases c:x.2<y.2 <;> by_cases d:x.2=y.2 <;> simp [a,b,c,d] <;> omega
theorem Hn:SWO (ltOf kb) where
 irrefl x:=by rw [fI];simp [a8]
 trans x y z h1 h2:=by rw [fI] at *;simp only [a8,decide_eq_true_eq] at *;omega
 ntrans x y z h1 h2:=by rw [fI] at *;simp only [a8,decide_eq_false_iff_not] at *;omega
theorem Hq (x y:Int × Int) (h1:ltOf kb x y=false) (h2:ltOf kb y x=false):x=y:=by
 rw [fI] at *;simp only [a8,decide_eq_false_iff_not] at *
 exact Prod.ext (by omega) (by omega)
def aE {α:Type} (lt:α->α->Bool) (l:List α):List α:=l.mergeSort fun x y=>!lt y x
theorem fZ {α:Type} (lt:α->α->Bool) (l:List α):(aE lt l).length=l.length:=by unfold aE;exact List.length_mergeSort l
theorem Do (w:World) (g:Nat) (cur:Array Value) (e:TypeId) (m:Nat) (F:Array Value) (os:Array Obj) (hg:w.heap[g]?=some (.cells cur e (0,0))) :
  (grow (putRow id (Sort.ahead w m) g 0 F) os).heap[g]?=some (.cells (putCells id 0 F cur) e (0,0))/\w.grownBy (grow (putRow id (Sort.ahead w m) g 0 F) os) (some g):=by
 have hlt:g<w.heap.size:=(Array.getElem?_eq_some_iff.1 hg).1
 have hsz:(putRow id (Sort.ahead w m) g 0 F).heap.size=w.heap.size:=by simp [putRow,mapBlock,Sort.ahead]
 refine⟨?_,⟨rfl,rfl,rfl,by simp [grow,putRow,mapBlock,Sort.ahead],fun k hk hne=>?_⟩⟩
 ·rw [heap_grow_old _ _ (by rw [hsz];exact hlt)]
  simp [putRow,mapBlock,Sort.ahead,Array.getElem?_modify,hg,onCells]
 ·rw [heap_grow_old _ _ (by rw [hsz];exact hk)]
  simp only [putRow,mapBlock,Sort.ahead,Array.getElem?_modify]
  rw [if_neg (by intro e;exact hne (by rw [e]))]
theorem pM (F cur:Array Value) (h:F.size<=cur.size):(putCells id 0 F cur).size=cur.size/\(putCells id 0 F cur).toList.take F.size=F.toList:=by
 refine⟨by simp [putCells],?_⟩
 apply List.ext_getElem?
 intro i
 rw [List.getElem?_take]
 by_cases hi:i<F.size
 ·rw [if_pos hi]
  have hic:i<cur.size:=by omega
  simp only [putCells,Nat.zero_add,Nat.sub_zero,Array.getElem?_toList,Array.getElem?_mapIdx,Array.getElem?_eq_getElem hic,Option.map_some]
  rw [if_pos ⟨Nat.zero_le _,hi⟩,Array.getElem?_eq_getElem hi,getElem!_pos _ i hi];rfl
 ·rw [if_neg hi,List.getElem?_eq_none (by simp;omega)]
theorem iB (l:List (Int × Int)):(flatK jd 2 l.toArray).toList=aj l:=by
 apply List.ext_getElem?
 intro t
 by_cases ht:t<l.length*2
 ·have h1:t<(flatK jd 2 l.toArray).size:=by simp;omega
  have hk:t / 2<l.length:=by omega
  have hx:(flatK jd 2 l.toArray)[t]! = (jd (ae l (t / 2)))[t % 2]!:=by
   rw [get_flatK jd 2 l.toArray t (by simpa using ht)]
   have:l.toArray[t / 2]! = ae l (t / 2):=by rw [getElem!_pos _ _ (by simpa using hk),ar hk];simp
   rw [this]
  have hy:=kJ l (t / 2) hk
  rw [Array.getElem?_toList,Array.getElem?_eq_getElem h1,<- getElem!_pos _ t h1,hx]
  have hl:=bS l
  rw [List.getElem?_eq_getElem (by omega)]
  congr 1
  have hz:(aj l).getD t undef=(aj l)[t]'(by omega):=by rw [List.getD_eq_getElem?_getD,List.getElem?_eq_getElem (by omega)];rfl
  rw [<- hz]
  rcases Nat.mod_two_eq_zero_or_one t with h | h
  ·have e:t=t / 2*2:=by omega
   rw [h];conv=>rhs;rw [e]
   rw [hy.1];rfl
  ·have e:t=t / 2*2+1:=by omega
   rw [h];conv=>rhs;rw [e]
   rw [hy.2];rfl
 ·rw [List.getElem?_eq_none (by simp;omega),List.getElem?_eq_none (by rw [bS];omega)]
theorem gO {w:World} {base:Nat} {e:TypeId} {size n c:Nat} {g:Nat} {xs ys:List Value} (ho:w.ownsRow base e size (.slice (some ⟨g,0,none⟩) n c) n xs) (hl:ys.length=n*size) (m:Nat) (os:Array Obj) :
  (grow (putRow id (Sort.ahead w m) g 0 ys.toArray) os).ownsRow base e size (.slice (some ⟨g,0,none⟩) n c) n ys/\w.grownBy (grow (putRow id (Sort.ahead w m) g 0 ys.toArray) os) (some g):=by
 rcases ho.2 with ⟨h1,_⟩ | ⟨g',cap,cur,h1,hb,hh,hn,hm,hs,ht⟩
 ·cases h1
 ·injection h1 with h1 _ h3
  injection h1 with h1
  injection h1 with h1
  subst h1;subst h3
  obtain⟨r1,r2⟩:=Do w g cur e m ys.toArray os hh
  have hle:ys.toArray.size<=cur.size:=by simp only [List.size_toArray];rw [hl,hs];exact Nat.mul_le_mul_right _ hn
  obtain⟨s1,s2⟩:=pM ys.toArray cur hle
  refine⟨⟨hl,.inr ⟨g,c,_,rfl,hb,r1,hn,hm,by rw [s1];exact hs,?_⟩⟩,r2⟩
  rw [<- hl];simpa using s2
theorem FM (base:Nat) (q:Option Addr) (n c:Nat) (l:List (Int × Int)) (w:World) (ho:w.ownsRow base 98 2 (.slice q n c) n (aj l)) (hn:n<=1000000) (hb:base<=w.heap.size) :
  Calls prog 258 #[.slice q n c,.func (.func 223) #[] #[]] w fun e w' =>
   e=.returned (.tuple #[])/\w'.ownsRow base 98 2 (.slice q n c) n (aj (aE a8 l))/\w.grownBy w' (bi q)/\Below base w w':=by
 have hl:n=l.length:=by have:=ho.1;rw [bS] at this;omega
 by_cases h0:n=0
 ·subst h0
  have hnil:l=[]:=List.eq_nil_of_length_eq_zero hl.symm
  subst hnil
  refine(AnyF.slices_SortFunc_none { Tryz.sortE with } q c (.func (.func 223) #[] #[]) w).mono ?_
  rintro e w' ⟨he,rfl⟩
  exact⟨he,by simpa [aE] using ho,World.grownBy.refl _ _,Below.refl _ _⟩
 ·obtain⟨g,hq,hg⟩:∃ g,q=some ⟨g,0,none⟩/\g<w.heap.size:=by
   obtain⟨p,c',h1,h2,_⟩:=jq ho
   injection h1 with h1
   rcases h2 with h2 | ⟨g,h2,_,h3⟩
   ·exfalso
    rcases ho.2 with ⟨_,h4⟩ | ⟨g',cap,cur,h4,_⟩
    ·exact h0 h4
    ·injection h4 with h4;rw [h1,h2] at h4;cases h4
   ·exact⟨g,by rw [h1,h2],h3⟩
  subst hq
  have eg:∀ args w,(callFunc 223 args).run prog w=.ok (.enter 223 args) w:=enters_of func223 (by kernel_rfl) rfl
  have hH:HoldsK jd 2 w g 0 l.toArray:=by
   intro j hj
   have hj2:j<n*2:=by simp at hj;omega
   have r:=Rd.of_own ho (by omega)
   have hc:=r.cells j hj2
   rw [aB] at hc
   have hv:(flatK jd 2 l.toArray)[j]! = (aj l).getD j undef:=by
    rw [getElem!_pos _ j hj,<- iB,List.getD_eq_getElem?_getD,Array.getElem?_toList,Array.getElem?_eq_getElem hj];rfl
   refine⟨by rw [hv];exact hc,?_⟩
   rcases ho.2 with ⟨h1,_⟩ | ⟨g',cap,cur,h1,_,hh,_⟩
   ·cases h1
   ·injection h1 with h1;injection h1 with h1;injection h1 with h1;subst h1
    simp [World.frozen?,hh]
  have hcon:=AnyQ.slices_SortFunc_total Tryz.sortE 2 isAgg98 sizeOf98 jd (fun _=>rfl) (fun x v hv=>by simp [jd] at hv;rcases hv with rfl | rfl <;> rfl) kb Hn 223 #[] g 0 c l.toArray w eg
   (fun m os dk hs x y=>sy x y _) hH hg (by simp;omega) Hq
  have hsz:l.toArray.size=n:=by simp [hl]
  rw [hsz] at hcon
  refine hcon.mono ?_
  rintro e w' ⟨he,m,os,rfl⟩
  have e1:(fun x y=>!(ltOf kb) y x)=fun x y:Int × Int=>!a8 y x:=by funext x y;rw [fI]
  have e2:(flatK jd 2 (l.toArray.toList.mergeSort fun x y=>!(ltOf kb) y x).toArray)=(aj (aE a8 l)).toArray:=by
   apply Array.toList_inj.1
   rw [iB,e1];rfl
  have hp:=gO ho (ys:=aj (aE a8 l)) (by rw [bS,fZ,hl]) m os
  have e3:sortWorldK jd 2 w g 0 m (l.toArray.toList.mergeSort fun x y=>!(ltOf kb) y x).toArray os=grow (putRow id (Sort.ahead w m) g 0 (aj (aE a8 l)).toArray) os:=by
   unfold sortWorldK putRowK;rw [e2]
  rw [e3]
  refine⟨he,hp.1,hp.2,Below.grown (Below.refl _ _) hp.2 hb (fun k hk=>?_)⟩
  exact(ho.lt k hk).1
end
theorem qd:∀ a:List UInt8,Op.bytesLess a a=false
 | []=>rfl
 | a :: x=>by
  have:=qd x
  simp only [Op.bytesLess,this,Bool.and_false,Bool.or_false]
  simp
theorem sU:∀ a b c:List UInt8,Op.bytesLess a b=true->Op.bytesLess b c=true->Op.bytesLess a c=true
 | _,_,[],_,h=>by cases ‹List UInt8› <;> simp [Op.bytesLess] at h
 | [],_,_ :: _,_,_=>rfl
 | a :: x,[],_ :: _,h,_=>by simp [Op.bytesLess] at h
 | a :: x,b :: y,c :: z,h,k=>by
  simp only [Op.bytesLess,Bool.or_eq_true,Bool.and_eq_true,decide_eq_true_eq,beq_iff_eq] at h k ⊢
  rcases h with h | ⟨rfl,h⟩
  ·rcases k with k | ⟨rfl,k⟩
   ·left;rw [UInt8.lt_iff_toNat_lt] at *;omega
   ·exact .inl h
  ·rcases k with k | ⟨rfl,k⟩
   ·exact .inl k
   ·exact .inr ⟨rfl,sU x y z h k⟩
theorem Az:∀ a b:List UInt8,Op.bytesLess a b=false->Op.bytesLess b a=false->a=b
 | [],[],_,_=>rfl
 | [],_ :: _,h,_=>by simp [Op.bytesLess] at h
 | _ :: _,[],_,h=>by simp [Op.bytesLess] at h
 | a :: x,b :: y,h,k=>by
  simp only [Op.bytesLess,Bool.or_eq_false_iff,Bool.and_eq_false_iff,decide_eq_false_iff_not,beq_eq_false_iff_ne] at h k
  have e:a=b:=by
   apply UInt8.toNat_inj.1
   rw [UInt8.lt_iff_toNat_lt] at h k
   omega
  subst e
  have h2:=h.2
  have k2:=k.2
  simp at h2 k2
  rw [Az x y h2 k2]
theorem DD:∀ a b:List UInt8,decide (Lib.compareBytes a b<0)=Op.bytesLess a b
 | [],[]=>rfl
 | [],_ :: _=>rfl
 | _ :: _,[]=>rfl
 | a :: x,b :: y=>by
  simp only [Lib.compareBytes,Op.bytesLess]
  have ih:=DD x y
  by_cases h:a<b
  ·simp [h]
  ·by_cases h2:b<a
   ·have h3:(a == b)=false:=by rw [beq_eq_false_iff_ne];rintro rfl;rw [UInt8.lt_iff_toNat_lt] at h2;omega
    simp [h,h2,h3]
   ·have h3:a=b:=by apply UInt8.toNat_inj.1;rw [UInt8.lt_iff_toNat_lt] at h h2;omega
    subst h3
    simp only [h,if_false,decide_false,Bool.false_or,beq_self_eq_true,Bool.true_and]
    exact ih
theorem fB (a:ByteArray):a9 a a=false:=qd _
theorem jv (a b c:ByteArray) (h:a9 a b=true) (k:a9 b c=true):a9 a c=true:=sU _ _ _ h k
theorem me (a b:ByteArray) (h:a9 a b=false) (k:a9 b a=false):a=b:=xh (Az _ _ h k)
section
open Go Go.RowKit Go.Shelf Go.Lib Go.Sort
def mR (a b:ByteArray):Int:=compareBytes a.data.toList b.data.toList
theorem fJ (x y:ByteArray):ltOf mR x y=a9 x y:=by
 unfold ltOf mR a9;rw [ByteArray.toList_eq,ByteArray.toList_eq];exact DD _ _
theorem Hp:SWO (ltOf mR) where
 irrefl x:=by rw [fJ];exact fB x
 trans x y z h1 h2:=by rw [fJ] at *;exact jv x y z h1 h2
 ntrans x y z h1 h2:=by
  rw [fJ] at *
  rw [<- Bool.not_eq_true]
  intro h3
  by_cases h4:a9 z y=true
  ·rw [jv x z y h3 h4] at h1;cases h1
  ·have h5:=me y z h2 (by simpa using h4)
   subst h5
   rw [h3] at h1;cases h1
theorem Hs (x y:ByteArray) (h1:ltOf mR x y=false) (h2:ltOf mR y x=false):x=y:=by
 rw [fJ] at *;exact me x y h1 h2
theorem ss (a b:ByteArray) (w:World):Calls prog 220 #[.string a,.string b] w fun e w'=>e=.returned (.int .i64 (mR a b))/\w'=w :=
 Any.strings_Compare Tryz.strCmp a b w
theorem cR {w:World} {base:Nat} {e:TypeId} {size n c:Nat} {q:Option Addr} {xs:List Value} (ho:w.ownsRow base e size (.slice q n c) n xs) (h0:n≠0):∃ g,q=some ⟨g,0,none⟩/\g<w.heap.size:=by
 obtain⟨p,c',h1,h2,_⟩:=jq ho
 injection h1 with h1
 rcases h2 with h2 | ⟨g,h2,_,h3⟩
 ·exfalso
  rcases ho.2 with ⟨_,h4⟩ | ⟨g',cap,cur,h4,_⟩
  ·exact h0 h4
  ·injection h4 with h4;rw [h1,h2] at h4;cases h4
 ·exact⟨g,by rw [h1,h2],h3⟩
theorem il {w:World} {base:Nat} {e:TypeId} {size n c g:Nat} {xs:List Value} (ho:w.ownsRow base e size (.slice (some ⟨g,0,none⟩) n c) n xs) (j:Nat):w.frozen? ⟨g,j,none⟩=false:=by
 rcases ho.2 with ⟨h1,_⟩ | ⟨g',cap,cur,h1,_,hh,_⟩
 ·cases h1
 ·injection h1 with h1;injection h1 with h1;injection h1 with h1;subst h1
  simp [World.frozen?,hh]
theorem A5 {w:World} {base n c g:Nat} {l:List ByteArray} (ho:w.ownsRow base 9 1 (.slice (some ⟨g,0,none⟩) n c) n (bg l)) (hn:n<=1000000):Holds Value.string w g 0 l.toArray:=by
 intro j hj
 have hl:n=l.length:=by have:=ho.1;rw [dQ] at this;omega
 have r:=Rd.of_own ho (by omega)
 have hj2:j<n:=by simp at hj;omega
 have hc:=r.cS hj2
 rw [aB] at hc
 refine⟨?_,il ho _⟩
 rw [hc,getElem!_pos _ j hj,ar (by omega)];simp
theorem oN (w:World) (g:Nat) (l:List ByteArray):putRow Value.string w g 0 l.toArray=putRow id w g 0 (bg l).toArray:=by
 unfold putRow
 congr 1
 funext c
 unfold putCells
 apply Array.ext_getElem?
 intro k
 simp only [Array.getElem?_mapIdx]
 cases c[k]? with
 | none=>rfl
 | some x =>
  simp only [Option.map_some,Nat.zero_add,Nat.sub_zero,Nat.zero_le,true_and]
  congr 1
  have hs:(bg l).toArray.size=l.toArray.size:=by simp [bg]
  rw [hs]
  by_cases h:k<l.toArray.size
  ·rw [if_pos h,if_pos h,getElem!_pos _ k h,getElem!_pos _ k (by rw [hs];exact h)]
   simp [bg]
  ·rw [if_neg h,if_neg h]
theorem FQ (base:Nat) (q:Option Addr) (n c:Nat) (l:List ByteArray) (w:World) (ho:w.ownsRow base 9 1 (.slice q n c) n (bg l)) (hn:n<=1000000) (hb:base<=w.heap.size) :
  Calls prog 261 #[.slice q n c,.func (.func 220) #[] #[]] w fun e w' =>
   e=.returned (.tuple #[])/\w'.ownsRow base 9 1 (.slice q n c) n (bg (aE a9 l))/\w.grownBy w' (bi q)/\Below base w w':=by
 have hl:n=l.length:=by have:=ho.1;rw [dQ] at this;omega
 by_cases h0:n=0
 ·subst h0
  have hnil:l=[]:=List.eq_nil_of_length_eq_zero hl.symm
  subst hnil
  refine(AnyF.slices_SortFunc_none { Tryz.sortS with } q c (.func (.func 220) #[] #[]) w).mono ?_
  rintro e w' ⟨he,rfl⟩
  exact⟨he,by simpa [aE] using ho,World.grownBy.refl _ _,Below.refl _ _⟩
 ·obtain⟨g,hq,hg⟩:=cR ho h0
  subst hq
  have eg:∀ args w,(callFunc 220 args).run prog w=.ok (.enter 220 args) w:=enters_of func220 (by kernel_rfl) rfl
  have hcon:=Any.slices_SortFunc_total Tryz.sortS Value.string (fun _=>rfl) mR Hp 220 #[] g 0 c l.toArray w eg
   (fun m os dk hs x y=>(ss x y _).mono fun _ _ ⟨he,hw⟩=>⟨he,0,#[],by rw [hw,grow_empty];rfl⟩) (A5 ho hn) hg (by simp;omega) Hs
  have hsz:l.toArray.size=n:=by simp [hl]
  rw [hsz] at hcon
  refine hcon.mono ?_
  rintro e w' ⟨he,m,os,rfl⟩
  have e1:(fun x y=>!(ltOf mR) y x)=fun x y:ByteArray=>!a9 y x:=by funext x y;rw [fJ]
  have hp:=gO ho (ys:=bg (aE a9 l)) (by rw [dQ,fZ,hl,Nat.mul_one]) m os
  have e3:sortWorld Value.string w g 0 m (l.toArray.toList.mergeSort fun x y=>!(ltOf mR) y x).toArray os=grow (putRow id (Sort.ahead w m) g 0 (bg (aE a9 l)).toArray) os:=by
   unfold sortWorld;rw [oN,e1];rfl
  rw [e3]
  exact⟨he,hp.1,hp.2,Below.grown (Below.refl _ _) hp.2 hb (fun k hk=>(ho.lt k hk).1)⟩
def aO {α:Type} [DecidableEq α] [Inhabited α] (l:List α):List α:=compactUpTo l.toArray l.length
theorem E5:EqlAt prog 9 Value.string (fun x y=>decide (x=y)):=by
 have h:=EqlAt.string prog 9
 have e:(fun x y:ByteArray=>x.toList == y.toList)=fun x y=>decide (x=y):=by funext x y;exact nh x y
 rwa [e] at h
theorem E6:NeqAt prog 9 Value.string (fun x y=>decide (x=y)):=by
 have h:=NeqAt.string prog 9
 have e:(fun x y:ByteArray=>x.toList == y.toList)=fun x y=>decide (x=y):=by funext x y;exact nh x y
 rwa [e] at h
theorem jr {w:World} {base:Nat} {e:TypeId} {size n c k:Nat} {q:Option Addr} {xs ys:List Value} (ho:w.ownsRow base e size (.slice q n c) n (xs ++ ys)) (hk:xs.length=k*size) (hkn:k<=n):w.ownsRow base e size (.slice q k c) k xs:=by
 refine⟨hk,?_⟩
 rcases ho.2 with ⟨h1,h2⟩ | ⟨g',cap,cur,h1,hb,hh,hn,hm,hs,ht⟩
 ·injection h1 with h1 _ h3;subst h1;subst h3
  left
  have:k=0:=by omega
  subst this
  exact⟨rfl,rfl⟩
 ·injection h1 with h1 _ h3;subst h1;subst h3
  right
  refine⟨g',c,cur,rfl,hb,hh,Nat.le_trans hkn hn,hm,hs,?_⟩
  have h5:=congrArg (List.take (k*size)) ht
  rw [List.take_take,Nat.min_eq_left (Nat.mul_le_mul_right _ hkn),<- hk,List.take_left] at h5
  rw [<- hk];exact h5
theorem xu (q:Option Addr) (c:Nat) (w:World):Calls prog 262 #[.slice q 0 c] w fun e w'=>e=.returned (.slice q 0 c)/\w'=w:=by
 go_enter func262,ntmps262
 go_wp2
 go_ret
 exact⟨rfl,rfl⟩
theorem xv (base:Nat) (q:Option Addr) (n c:Nat) (l:List ByteArray) (w:World) (ho:w.ownsRow base 9 1 (.slice q n c) n (bg l)) (hn:n<=1000000) (hb:base<=w.heap.size) :
  Calls prog 262 #[.slice q n c] w fun e w'=>e=.returned (.slice q (aO l).length c)/\w'.ownsRow base 9 1 (.slice q (aO l).length c) (aO l).length (bg (aO l))/\w.grownBy w' (bi q)/\Below base w w':=by
 have hl:n=l.length:=by have:=ho.1;rw [dQ] at this;omega
 by_cases h0:n=0
 ·subst h0
  have hnil:l=[]:=List.eq_nil_of_length_eq_zero hl.symm
  subst hnil
  refine(xu q c w).mono ?_
  rintro e w' ⟨he,rfl⟩
  exact⟨he,ho,World.grownBy.refl _ _,Below.refl _ _⟩
 ·obtain⟨g,hq,hg⟩:=cR ho h0
  subst hq
  have hcon:=AnyE.slices_Compact Tryz.compS Value.string (fun _=>rfl) E5 E6 ByteArray.empty (fun w=>by kernel_rfl) g 0 c l.toArray w (A5 ho hn) (by simp;omega) (by have:=cu ho;simp;omega)
  have hsz:l.toArray.size=n:=by simp [hl]
  rw [hsz] at hcon
  refine hcon.mono ?_
  rintro e w' ⟨he,m,rfl⟩
  have hd:compactUpTo l.toArray n=aO l:=by unfold aO;rw [hl]
  rw [hd] at he ⊢
  have hdl:(aO l).length<=n:=by
   unfold aO compactUpTo;rw [hl,List.length_map]
   exact Nat.le_trans (List.length_filter_le _ _) (by simp)
  have e3:putRow Value.string (Sort.ahead w m) g 0 (aO l ++ List.replicate (n - (aO l).length) ByteArray.empty).toArray=grow (putRow id (Sort.ahead w m) g 0 (bg (aO l) ++ bg (List.replicate (n - (aO l).length) ByteArray.empty)).toArray) #[]:=by
   rw [oN,grow_empty];simp [bg]
  rw [e3]
  have hp:=gO ho (ys:=bg (aO l) ++ bg (List.replicate (n - (aO l).length) ByteArray.empty)) (by rw [List.length_append,dQ,dQ,List.length_replicate];omega) m #[]
  exact⟨he,jr hp.1 (by rw [dQ,Nat.mul_one]) hdl,hp.2,Below.grown (Below.refl _ _) hp.2 hb (fun k hk=>(ho.lt k hk).1)⟩
end
section
open Go Go.Lib
structure I5 {α:Type} (lt:α->α->Bool):Prop where
 irrefl:∀ a,lt a a=false
 trans:∀ a b c,lt a b=true->lt b c=true->lt a c=true
 tri:∀ a b,lt a b=false->lt b a=false->a=b
theorem GJ:I5 a8 where
 irrefl a:=by simp [a8]
 trans a b c h k:=by simp only [a8,decide_eq_true_eq] at *;omega
 tri a b h k:=by
  simp only [a8,decide_eq_false_iff_not] at *
  exact Prod.ext (by omega) (by omega)
theorem Hm:I5 a9:=⟨fB,jv,me⟩
section
variable {α:Type} {lt:α->α->Bool}
theorem I5.asymm (h:I5 lt) {a b:α} (k:lt a b=true):lt b a=false:=by
 cases hb:lt b a with
 | false=>rfl
 | true=>have:=h.trans a b a k hb;rw [h.irrefl] at this;cases this
theorem I5.le_lt (h:I5 lt) {a b c:α} (k:lt b a=false) (m:lt b c=true):lt a c=true:=by
 cases hab:lt a b with
 | true=>exact h.trans a b c hab m
 | false=>have:=h.tri a b hab k;subst this;exact m
abbrev bM (lt:α->α->Bool) (l:List α):Prop:=l.Pairwise fun a b=>lt a b=true
theorem fY (h:I5 lt):∀ l m:List α,bM lt l->bM lt m->(∀ x,x∈l↔x∈m)->l=m:=by
 intro l
 induction l with
 | nil =>
  intro m _ _ hm
  exact(List.eq_nil_iff_forall_not_mem.2 fun x hx=>by have:=(hm x).2 hx;cases this).symm
 | cons a l ih =>
  intro m hl hm hmem
  cases m with
  | nil=>have:=(hmem a).1 (List.mem_cons_self ..);cases this
  | cons b m =>
   have hl1:=List.pairwise_cons.1 hl
   have hm1:=List.pairwise_cons.1 hm
   have hab:a=b:=by
    rcases List.mem_cons.1 ((hmem a).1 (List.mem_cons_self ..)) with h1 | h1
    ·exact h1
    ·rcases List.mem_cons.1 ((hmem b).2 (List.mem_cons_self ..)) with h2 | h2
     ·exact h2.symm
     ·have h3:=hm1.1 a h1
      have h4:=hl1.1 b h2
      rw [h.asymm h3] at h4;cases h4
   subst hab
   rw [ih m hl1.2 hm1.2 (fun x=>?_)]
   constructor
   ·intro hx
    rcases List.mem_cons.1 ((hmem x).1 (List.mem_cons_of_mem _ hx)) with h1 | h1
    ·subst h1;have:=hl1.1 x hx;rw [h.irrefl] at this;cases this
    ·exact h1
   ·intro hx
    rcases List.mem_cons.1 ((hmem x).2 (List.mem_cons_of_mem _ hx)) with h1 | h1
    ·subst h1;have:=hm1.1 x hx;rw [h.irrefl] at this;cases this
    ·exact h1
variable [DecidableEq α]
theorem qW (l:List α) (a x:α):gC lt (a :: l) x=if lt a x=true then a :: gC lt l x else if a=x then a :: l else x :: a :: l:=by
 unfold gC iQ
 rw [List.takeWhile_cons]
 by_cases h:lt a x=true
 ·simp only [h,if_true,List.length_cons,List.getElem?_cons_succ,List.take_succ_cons,List.drop_succ_cons]
  split <;> simp_all
 ·simp only [h]
  split <;> simp_all
theorem ud (x:α):gC lt [] x=[x]:=by simp [gC,iQ]
theorem ub (l:List α) (x y:α):y∈gC lt l x↔y=x\/y∈l:=by
 induction l with
 | nil=>rw [ud];simp
 | cons a l ih =>
  rw [qW]
  by_cases h:lt a x=true
  ·rw [if_pos h,List.mem_cons,ih,List.mem_cons]
   constructor
   ·rintro(h1 | h1 | h1)
    ·exact .inr (.inl h1)
    ·exact .inl h1
    ·exact .inr (.inr h1)
   ·rintro(h1 | h1 | h1)
    ·exact .inr (.inl h1)
    ·exact .inl h1
    ·exact .inr (.inr h1)
  ·rw [if_neg h]
   by_cases e:a=x
   ·rw [if_pos e];subst e;simp
   ·rw [if_neg e];simp
theorem vW (h:I5 lt) (l:List α) (x:α) (hl:bM lt l):bM lt (gC lt l x):=by
 induction l with
 | nil=>rw [ud];exact List.pairwise_singleton _ _
 | cons a l ih =>
  have hl1:=List.pairwise_cons.1 hl
  rw [qW]
  by_cases hax:lt a x=true
  ·rw [if_pos hax]
   refine List.pairwise_cons.2 ⟨fun y hy=>?_,ih hl1.2⟩
   rcases (ub l x y).1 hy with h1 | h1
   ·subst h1;exact hax
   ·exact hl1.1 y h1
  ·rw [if_neg hax]
   by_cases e:a=x
   ·rw [if_pos e];exact hl
   ·rw [if_neg e]
    have hxa:lt x a=true:=by
     cases hx:lt x a with
     | true=>rfl
     | false=>exact absurd (h.tri a x (by simpa using hax) hx) e
    refine List.pairwise_cons.2 ⟨fun y hy=>?_,hl⟩
    rcases List.mem_cons.1 hy with h1 | h1
    ·subst h1;exact hxa
    ·exact h.trans x a y hxa (hl1.1 y h1)
theorem qD (h:I5 lt) (l b:List α) (hb:bM lt b):bM lt (l.foldl (gC lt) b)/\∀ y,y∈l.foldl (gC lt) b↔y∈l\/y∈b:=by
 induction l generalizing b with
 | nil=>exact⟨hb,fun y=>by simp⟩
 | cons a l ih =>
  have:=ih (gC lt b a) (vW h b a hb)
  refine⟨this.1,fun y=>?_⟩
  rw [List.foldl_cons,this.2 y,ub,List.mem_cons]
  constructor
  ·rintro(h1 | h1 | h1)
   ·exact .inl (.inr h1)
   ·exact .inl (.inl h1)
   ·exact .inr h1
  ·rintro((h1 | h1) | h1)
   ·exact .inr (.inl h1)
   ·exact .inl h1
   ·exact .inr (.inr h1)
theorem de (h:I5 lt) (l:List α):bM lt (bk lt l):=(qD h l [] List.Pairwise.nil).1
theorem eI (h:I5 lt) (l:List α) (y:α):y∈bk lt l↔y∈l:=by
 have:=(qD h l [] List.Pairwise.nil).2 y
 simpa [bk] using this
variable [Inhabited α]
theorem yh (l:List α) (y:α):y∈aO l↔y∈l:=by
 unfold aO compactUpTo
 rw [List.mem_map]
 constructor
 ·rintro⟨j,hj,rfl⟩
  have h1:=(List.mem_filter.1 hj).1
  have h2:=List.mem_range.1 h1
  rw [getElem!_pos _ j (by simpa using h2)]
  simp
 ·intro hy
  obtain⟨j,hj,e⟩:=List.getElem_of_mem hy
  induction j using Nat.strongRecOn with
  | _ j ih =>
   have ej:l.toArray[j]! = y:=by rw [getElem!_pos _ j (by simpa using hj)];simpa using e
   by_cases hk:keeps l.toArray j=true
   ·exact⟨j,List.mem_filter.2 ⟨List.mem_range.2 hj,hk⟩,ej⟩
   ·unfold keeps at hk
    simp only [decide_eq_true_eq] at hk
    obtain⟨h1,h2⟩:=not_or.1 hk
    have h3:l.toArray[j]! = l.toArray[j - 1]!:=Classical.not_not.1 h2
    refine ih (j - 1) (by omega) (by omega) ?_
    rw [ej] at h3
    rw [getElem!_pos _ (j - 1) (by simp;omega)] at h3
    simpa using h3.symm
omit [DecidableEq α] [Inhabited α] in
theorem wa (l:List α) (y:α):y∈aE lt l↔y∈l:=by unfold aE;exact List.mem_mergeSort
omit [DecidableEq α] [Inhabited α] in
theorem mV (h:I5 lt) (l:List α):(aE lt l).Pairwise fun a b=>lt b a=false:=by
 have:=List.pairwise_mergeSort (le:=fun x y=>!lt y x) (fun a b c h1 h2=>?_) (fun a b=>?_) l
 ·unfold aE
  exact this.imp fun hab=>by simpa using hab
 ·simp only [Bool.not_eq_true'] at h1 h2 ⊢
  cases hca:lt c a with
  | false=>rfl
  | true =>
   have:=h.le_lt (a:=b) (b:=c) (c:=a) h2 hca
   rw [h1] at this;cases this
 ·simp only [Bool.or_eq_true,Bool.not_eq_true']
  cases hba:lt b a with
  | false=>exact .inl rfl
  | true=>exact .inr (h.asymm hba)
theorem ta (h:I5 lt) (l:List α) (hl:l.Pairwise fun a b=>lt b a=false):bM lt (aO l):=by
 unfold aO compactUpTo bM
 rw [List.pairwise_map,List.pairwise_filter]
 have hp:=List.pairwise_iff_getElem.1 hl
 have hg:∀ i (hi:i<l.length),l.toArray[i]! = l[i]:=fun i hi=>by rw [getElem!_pos _ i (by simpa using hi)];simp
 refine(List.pairwise_lt_range (n:=l.length)).imp_of_mem fun {i j} hi hj hij _ hkj=>?_
 have hj2:=List.mem_range.1 hj
 unfold keeps at hkj
 simp only [decide_eq_true_eq] at hkj
 have hne:l.toArray[j]!≠l.toArray[j - 1]!:=by
  rcases hkj with h0 | h0
  ·omega
  ·exact h0
 rw [hg j hj2,hg (j - 1) (by omega)] at hne
 rw [hg i (by omega),hg j hj2]
 have h1:lt (l[j - 1]'(by omega)) l[j]=true:=by
  cases hx:lt (l[j - 1]'(by omega)) l[j] with
  | true=>rfl
  | false=>exact absurd (h.tri _ _ (hp (j - 1) j (by omega) hj2 (by omega)) hx) hne
 rcases Nat.lt_or_ge i (j - 1) with h2 | h2
 ·exact h.le_lt (hp i (j - 1) (by omega) (by omega) h2) h1
 ·have:i=j - 1:=by omega
  subst this;exact h1
theorem mF (h:I5 lt) (l:List α):aO (aE lt l)=bk lt l :=
 fY h _ _ (ta h _ (mV h l)) (de h l) fun x=>by rw [yh,wa,eI h]
end
end
def mz (s:ByteArray):Bool:=decide (60<s.size)
def px (ws:List ByteArray):Bool:=(decide (ws.length<=20) && ws.any mz) || decide (20<ws.length)
theorem CK {ws:List ByteArray} (h:px ws=false):ws.length<=20/\∀ s∈ws,s.size<=60:=by
 unfold px at h
 rw [Bool.or_eq_false_iff,decide_eq_false_iff_not] at h
 have h1:ws.length<=20:=by omega
 refine⟨h1,fun s hs=>?_⟩
 have h2:=h.1
 rw [decide_eq_true h1,Bool.true_and] at h2
 have:=List.any_eq_false.1 h2 s hs
 simpa [mz] using this
theorem GW (k f t:Int) (pw:Option Addr) (nw cw:Nat) (ws:List ByteArray) (rad most:Int) (w:World) (hw:Rd w 1 pw nw (bg ws)) :
  Calls prog 46 #[.agg #[.int .i64 k,.int .i64 f,.int .i64 t,.slice pw nw cw,.int .i64 rad,.int .i64 most]] w fun e w'=>e=.returned (.bool (px ws))/\Ext w w':=by
 have l1:=hw.nS
 have p1:=hw.ptr
 have n1:=hw.small
 have HE:=lh ((Ic.start w).al #[.int .i64 k,.int .i64 f,.int .i64 t,.slice pw nw cw,.int .i64 rad,.int .i64 most] 24 w.heap.size rfl).ext
 have HW:=lh (hw.ext HE.out)
 have L1:=lh l1
 clear l1 hw
 by_cases h20:nw<=20
 ·have HB:Hid (px ws=ws.any mz):=by unfold Hid px;rw [<- L1.out,decide_eq_true h20,decide_eq_false (by omega)];simp
  go_enter func46,ntmps46
  go_wp2
  go_loop [3] (fun i=>∃ j:Nat,j<=nw/\i=.int .i64 j/\(ws.take j).any mz=false) (fun i=>nw - (intOf i).toNat)
  case atStart=>exact⟨0,Nat.zero_le _,rfl,rfl⟩
  case round =>
   obtain⟨j,hj,rfl,ha⟩:=hrel
   have HA:=lh ha;clear ha
   by_cases hlt:j<nw
   ·have g1:=HW.out.cS hlt
    have hjl:j<ws.length:=by rw [<- L1.out];exact hlt
    have d1:(0:Int)<=j:=by omega
    have d2:(j:Int)<nw:=by omega
    have Ml:=lh (cW mz ws j hjl)
    have HST:=lh (eP mz ws j hjl HA.out)
    clear hjl
    generalize ae ws j=s at *
    by_cases h60:60<s.size
    ·have HF:=lh (Ml.out (by unfold mz;exact decide_eq_true h60))
     clear Ml HST
     go_wp2
     go_ret
     exact⟨aq (by rw [HB.out,HF.out]),HE.out⟩
    ·have HF:=lh (HST.out (by unfold mz;exact decide_eq_false h60))
     have e1:decide (60<s.size)=false:=by simpa using h60
     have e2:decide ((60:Int)<(s.size:Int))=false:=by simp;omega
     clear Ml HST h60
     go_wp2
     go_round
     case rel=>exact⟨j+1,by omega,by go_num,HF.out⟩
     case measure=>simp [intOf];omega
   ·have HF:=lh (gE _ _ _ (by rw [<- L1.out];exact hlt) HA.out)
    have e1:decide (20<nw)=false:=by simp;omega
    have e2:decide ((20:Int)<(nw:Int))=false:=by simp;omega
    go_wp2
    go_ret
    exact⟨aq (by rw [HB.out,HF.out]),HE.out⟩
 ·have HB:Hid (px ws=true):=by unfold Hid px;rw [<- L1.out,decide_eq_true (show 20<nw by omega)];simp
  have e1:decide (nw<=20)=false:=by simpa using h20
  have e2:decide ((nw:Int)<=20)=false:=by simp;omega
  have e3:0<nw:=by omega
  have e4:20<nw:=by omega
  clear h20
  go_enter func46,ntmps46
  go_wp2
  go_loop [3] (fun i=>i=.int .i64 0) (fun _=>0)
  case atStart=>rfl
  case round =>
   obtain rfl:=hrel
   go_wp2
   go_ret
   exact⟨aq (by rw [HB.out];simp;omega),HE.out⟩
section
open Go Go.RowKit Go.Maps Go.WideElems
def Ii (x:Int):Prop:=(Lit.int .i64 x).wf=true
theorem Ii.of {x:Int} (h1:-9223372036854775808<=x) (h2:x<=9223372036854775807):Ii x:=by
 unfold Ii;simp [Lit.wf,IntKind.min,IntKind.max,IntKind.signed,IntKind.bits];omega
theorem Ii.nat {k:Nat} (h:k<=1000000000):Ii (k:Int):=Ii.of (by omega) (by omega)
structure JF (P:Program) (e:TypeId) (β:Type) where
 val:β->Value
 rd:β->DataW Unit
 z:β
 reads:∀ v,plainElem (H:=Unit) P e (val v)=some (rd v,[])
 inv:∀ u y,plainElem (H:=Unit) P e u=some y->∃ v,u=val v
 inj:∀ v v',rd v=rd v'->v=v'
 zero:∀ w,(zeroValue e).run P w=.ok (val z) w
theorem ko {P:Program} {e:TypeId} (he:P.underlying e=some .bool) (u:Value) (y:DataW Unit × List MemPlace) (h:plainElem (H:=Unit) P e u=some y):∃ v,u=.bool v:=by
 unfold plainElem at h
 rw [he] at h
 cases u <;> simp at h
 exact⟨_,rfl⟩
def Gu (P:Program) (e:TypeId) (he:P.underlying e=some .bool) (hz:∀ w,(zeroValue e).run P w=.ok (.bool false) w):JF P e Bool :=
 ⟨.bool,fun x=>.lit (.bool x),false,fun v=>plainElem_bool he v,ko he,fun v v' h=>by injection h with h;injection h,hz⟩
section
variable {P:Program} {k e:TypeId} {β:Type}
def Pf (E:JF P e β) (D:DataW Unit) (f:Int->Option β):Prop :=
 (∀ x,Ii x->Maps.has D (.int .i64 x)=(f x).isSome)/\(∀ x v,f x=some v->Ii x/\∀ zd,D.atKey (.int .i64 x) zd=E.rd v)
def Ik (P:Program) (k:TypeId) (E:JF P e β) (b n:Nat) (f:Int->Option β) (w:World):Prop :=
 ∃ D:DataW Unit,w.ownsMap P k (plainElem P e) b n D/\Pf E D f
def zy (f:Int->Option β) (x:Int) (v:β):Int->Option β:=fun y=>if y=x then some v else f y
theorem oa (hk:P.underlying k=some (.int .i64)) {x:Int} (hx:Ii x):keyOf P k (.int .i64 x)=some (.int .i64 x):=keyOf_int_mk hk hx
theorem Ba (hk:P.underlying k=some (.int .i64)) {x:Int} (hx:Ii x):WideAt.IsKeyLit (.int .i64 x):=(int_keyed hk).key (oa hk hx)
theorem Ik.lt {E:JF P e β} {b n:Nat} {f:Int->Option β} {w:World} (h:Ik P k E b n f w):b<w.heap.size:=h.choose_spec.1.lt
theorem Ik.loc {E:JF P e β} {b n:Nat} {f:Int->Option β} {w w':World} (h:Ik P k E b n f w) (hb:w'.heap[b]?=w.heap[b]?):Ik P k E b n f w':=by
 obtain⟨D,⟨es,clock,h1,F,h2,h3⟩,hf⟩:=h
 exact⟨D,⟨es,clock,hb.trans h1,F,h2,h3⟩,hf⟩
theorem Ik.ext {E:JF P e β} {b n:Nat} {f:Int->Option β} {w w':World} (h:Ik P k E b n f w) (he:Ext w w'):Ik P k E b n f w':=h.loc (he.block b h.lt)
theorem Ik.mono {E:JF P e β} {b n m:Nat} {f:Int->Option β} {w:World} (h:Ik P k E b n f w) (hn:n<=m):Ik P k E b m f w:=by
 obtain⟨D,h1,h2⟩:=h;exact⟨D,h1.mono hn,h2⟩
theorem Ik.made (E:JF P e β) (w:World):Ik P k E w.heap.size 0 (fun _=>none) (w.alloc (.map #[] 0)) :=
 ⟨.map [],World.ownsMap_made w P k _,fun x _=>rfl,fun x v h=>by cases h⟩
def Pc.map (P:Program) (k:TypeId) (E:JF P e β) (b n:Nat) (f:Int->Option β):Pc :=
 ⟨fun i=>i=b,fun w=>Ik P k E b n f w,fun _ h i hi=>by subst hi;exact h.lt,fun _ _ h hi=>h.loc (hi b rfl)⟩
variable {E:JF P e β} {b n:Nat} {f:Int->Option β} {w:World}
theorem Ik.update {t:TypeId} (h:Ik P k E b n f w) (hk:P.underlying k=some (.int .i64)) (ht:P.underlying t=some (.map k e)) (hn:n<140737488355328) {x:Int} (hx:Ii x) (v:β) :
  ∃ w',(Instr.mapUpdate t (.map (some b)) (.int .i64 x) (E.val v)).run P w=.ok () w'/\Ik P k E b (n+1) (zy f x v) w'/\w.grownBy w' (some b):=by
 obtain⟨D,h1,h2,h3⟩:=h
 obtain⟨w',hr,ho,hg⟩:=h1.update (int_keyed hk) ht (by unfold maxLen;omega) (oa hk hx) (E.reads v)
 have hm:=h1.isMap
 refine⟨w',hr,⟨_,ho,fun y hy=>?_,fun y u hu=>?_⟩,hg⟩
 ·unfold zy
  by_cases e:y=x
  ·subst e;rw [has_put_same hm (Ba hk hx)];simp
  ·rw [has_put_other (fun h=>e (by injection h)),if_neg e];exact h2 y hy
 ·unfold zy at hu
  by_cases e:y=x
  ·subst e;simp at hu;subst hu;exact⟨hx,fun zd=>atKey_put_same hm (Ba hk hx) _ _⟩
  ·rw [if_neg e] at hu
   obtain⟨g1,g2⟩:=h3 y u hu
   exact⟨g1,fun zd=>by rw [atKey_put_other (fun h=>e (by injection h))];exact g2 zd⟩
theorem Pf.at {D:DataW Unit} (h:Pf E D f) {x:Int} (hx:Ii x):D.atKey (.int .i64 x) (E.rd E.z)=E.rd ((f x).getD E.z):=by
 cases hf:f x with
 | none=>exact atKey_of_not_has (by rw [h.1 x hx,hf];rfl) _
 | some v=>exact(h.2 x v hf).2 _
theorem Ik.lookup {t:TypeId} (h:Ik P k E b n f w) (hk:P.underlying k=some (.int .i64)) (ht:P.underlying t=some (.map k e)) {x:Int} (hx:Ii x) :
  (Instr.lookup t (.map (some b)) (.int .i64 x) false).run P w=.ok (E.val ((f x).getD E.z)) w:=by
 obtain⟨D,h1,hf⟩:=h
 obtain⟨v,ps,hr,hv⟩:=h1.lookup (int_keyed hk) ht (E.zero w) (E.reads E.z) (oa hk hx)
 obtain⟨u,rfl⟩:=E.inv _ _ hv
 have:=E.reads u
 rw [hv] at this
 injection this with this
 injection this with h4
 rw [hf.at hx] at h4
 rw [hr,E.inj _ _ h4]
theorem Ik.lookup_ok {t:TypeId} (h:Ik P k E b n f w) (hk:P.underlying k=some (.int .i64)) (ht:P.underlying t=some (.map k e)) {x:Int} (hx:Ii x) :
  (Instr.lookup t (.map (some b)) (.int .i64 x) true).run P w=.ok (.tuple #[E.val ((f x).getD E.z),.bool (f x).isSome]) w:=by
 obtain⟨D,h1,hf⟩:=h
 obtain⟨v,ps,hr,hv⟩:=h1.look_ok (int_keyed hk) ht (E.zero w) (E.reads E.z) (oa hk hx)
 obtain⟨u,rfl⟩:=E.inv _ _ hv
 have:=E.reads u
 rw [hv] at this
 injection this with this
 injection this with h4
 rw [hf.at hx] at h4
 rw [hr,E.inj _ _ h4,hf.1 x hx]
def Dy (P:Program) (k:TypeId) (E:JF P e β) (es:Array MapEntry) (clock since:Nat) (seen:Array Nat) (c0 n:Nat) (f:Int->Option β) (left:Int->Bool) (cnt:Nat):Prop :=
 ∃ D:DataW Unit,∃ lf:Lit->Bool,Pf E D f/\(∀ x,Ii x->lf (.int .i64 x)=left x)/\(∀ x,left x=true->(f x).isSome=true)/\Fit P k (plainElem (H:=Unit) P e) es clock/\es.size<=n/\D=.map ((es.toList.map (rg P k (plainElem P e))).foldr DataW.insert []) /\
  (∀ x∈es.toList,x.born<since)/\(leftOf es seen).size=cnt/\(∀ x∈es.toList,lf (rg P k (plainElem (H:=Unit) P e) x).1=!seen.contains x.born)/\(∀ kl,lf kl=true->∃ x∈es.toList,(rg P k (plainElem (H:=Unit) P e) x).1=kl)/\since<=c0/\since<=clock
def Pc.iter (r b since:Nat) (seen:Array Nat) (c0:Nat):Pc :=
 ⟨fun i=>i=r,fun w=>w.heap[r]?=some (.mapIter (some b) since seen c0),fun w h i hi=>by subst hi;exact(Array.getElem?_eq_some_iff.1 h).1,fun _ _ h hi=>(hi r rfl).trans h⟩
theorem Ik.raw (h:Ik P k E b n f w):∃ es clock,w.heap[b]?=some (.map es clock)/\Fit P k (plainElem (H:=Unit) P e) es clock/\es.size<=n/\Pf E (.map ((es.toList.map (rg P k (plainElem P e))).foldr DataW.insert [])) f:=by
 obtain⟨D,⟨es,clock,h1,F,h2,rfl⟩,hf⟩:=h
 exact⟨es,clock,h1,F,h2,hf⟩
variable {w0:World} {Γ:List Pc} {ops:Array Oper} {rest:List Oper} {o:Oper} {a:Act} {Q:Exit->Act->World->Prop}
structure Xd (β:Type) where
 x:Int
 v:β
theorem eL (hg:o.guard=none) (m:Operand) (t:TypeId) (hop:o.op=Op.range t m) (hk:P.underlying k=some (.int .i64)) (ht:P.underlying t=some (.map k e))
  (hm:a.eval m=.map (some b)) {es:Array MapEntry} {clock:Nat} (hb:w.heap[b]?=some (.map es clock)) (F:Fit P k (plainElem (H:=Unit) P e) es clock) (hn:es.size<=n) (hf:Pf E (.map ((es.toList.map (rg P k (plainElem P e))).foldr DataW.insert [])) f)
  (S:Ic w0 w Γ) (r:Nat) (hr:w.heap.size=r)
  (hK:∀ w' since seen c0 cnt,Ic w0 w' (.iter r b since seen c0 :: Γ)->Dy P k E es clock since seen c0 n f (fun x=>(f x).isSome) cnt->w'.heap.size=r+1->Ext w w'->wpList P ops Q rest (a.put o.dst (.pointer (some ⟨r,0,none⟩))) w') :
  wpList P ops Q (o :: rest) a w:=by
 subst hr
 have hown:w.ownsMap P k (plainElem (H:=Unit) P e) b n (.map ((es.toList.map (rg P k (plainElem P e))).foldr DataW.insert [])):=⟨es,clock,hb,F,hn,rfl⟩
 refine wpList_range_own w hg m t hop k e (int_keyed hk) ht (plainElem (H:=Unit) P e) b n _ hm hown ?_
 intro w' hr hgr hsz
 have Ke:Ext w w':=⟨hgr.os,hgr.tape,hgr.output,hgr.size,fun i hi=>hgr.block i hi (by simp)⟩
 have hb':w'.heap[b]?=some (.map es clock):=(Ke.block b (Array.getElem?_eq_some_iff.1 hb).1).trans hb
 obtain⟨es',clock',since,seen,c0,e1,F',e2,e3,e4,e5,e6,e7,e8,e9,e10⟩:=hr
 rw [hb'] at e1
 injection e1 with e1
 injection e1 with ea eb
 subst ea eb
 refine hK w' since seen c0 _ (S.comp (Δ:=[.iter w.heap.size b since seen c0]) ⟨Ke,fun p hp=>?_,fun p hp i hi=>?_,List.pairwise_singleton _ _⟩) ⟨_,_,hf,fun x hx=>?_,fun x hx=>hx,F',e2,rfl,e5,e6,e7,e8,e9,e10⟩ hsz Ke
 ·rw [List.mem_singleton] at hp;subst hp;exact e4
 ·rw [List.mem_singleton] at hp;subst hp;have:i=w.heap.size:=hi;omega
 ·exact hf.1 x hx
theorem fi (hg:o.guard=none) (it:Operand) (hop:o.op=Op.next it false) (hk:P.underlying k=some (.int .i64)) {r since:Nat} {seen:Array Nat} {c0 cnt:Nat} {left:Int->Bool} {es:Array MapEntry} {clock:Nat}
  (hit:a.eval it=.pointer (some ⟨r,0,none⟩)) (hb:w.heap[b]?=some (.map es clock)) (S:Ic w0 w Γ) (j:Nat) (hj:Γ[j]?=some (.iter r b since seen c0)) (R:Dy P k E es clock since seen c0 n f left cnt)
  (hDone:(∀ x,left x=false)->wpList P ops Q rest (a.put o.dst (.tuple #[.bool false])) w)
  (hMore:∀ (x:Xd β) w' since' seen' c0' cnt',Ii x.x->left x.x=true->f x.x=some x.v->Ic w0 w' (Γ.set j (.iter r b since' seen' c0'))->Dy P k E es clock since' seen' c0' n f (fun z=>left z && z != x.x) cnt'->cnt'<cnt ->
   w'.heap.size=w.heap.size->w'.heap[b]?=some (.map es clock)->w.grownBy w' (some r)->(Instr.entry (.pointer (some ⟨r,0,none⟩))).run P w'=.ok (.tuple #[.int .i64 x.x,E.val x.v]) w'->wpList P ops Q rest (a.put o.dst (.tuple #[.bool true,.int .i64 x.x,E.val x.v])) w') :
  wpList P ops Q (o :: rest) a w:=by
 obtain⟨D,lf,hf,hlf,hlt,F,e2,rfl,e5,e6,e7,e8,e9,e10⟩:=R
 have hr:w.heap[r]?=some (.mapIter (some b) since seen c0):=S.all _ (List.mem_of_getElem? hj)
 have hrange:w.ranges P k (plainElem (H:=Unit) P e) b r n (.map ((es.toList.map (rg P k (plainElem P e))).foldr DataW.insert [])) lf cnt:=⟨es,clock,since,seen,c0,hb,F,e2,rfl,hr,e5,e6,e7,e8,e9,e10⟩
 have hne:r≠b:=hrange.ne
 refine wpList_next_ranges w hg it hop k (int_keyed hk) (plainElem (H:=Unit) P e) (Value.int .i64) E.val (fun key kl h=>by obtain⟨x,h1,_⟩:=keyOf_int_inv hk h;exact⟨x,h1⟩) (fun v y h=>E.inv v y h) b r n _ lf cnt hit hrange ?_ ?_
 ·intro _ hall
  refine hDone fun x=>?_
  by_cases hx:left x=true
  ·have h1:=hlt x hx
   obtain⟨v,hv⟩:=Option.isSome_iff_exists.1 h1
   have:=hlf x (hf.2 x v hv).1
   rw [hall] at this
   rw [<- this] at hx;cases hx
  ·simpa using hx
 ·intro x c kl y w' cnt' hkey hl hR hat hrg hlt' hgr hsz hen
  obtain⟨x',hx1,hx2,hx3⟩:=keyOf_int_inv hk hkey
  injection hx1 with _ hx1
  subst hx1 hx2
  have PL:Ii x:=hx3
  have hlx:left x=true:=by rw [<- hlf x PL];exact hl
  obtain⟨v,hv⟩:=Option.isSome_iff_exists.1 (hlt x hlx)
  have hc:v=c:=by
   refine E.inj _ _ ?_
   have h1:=(hf.2 x v hv).2 (E.rd v)
   have h2:=hat (E.rd v)
   have h3:=E.reads c
   rw [hR] at h3
   injection h3 with h3
   rw [<- h1,h2,h3]
  subst hc
  have hb':w'.heap[b]?=some (.map es clock):=(hgr.block b (Array.getElem?_eq_some_iff.1 hb).1 (fun e=>hne (by injection e with e;exact e.symm))).trans hb
  obtain⟨es',clock',since',seen',c0',g1,F',g2,g3,g4,g5,g6,g7,g8,g9,g10⟩:=hrg
  rw [hb'] at g1
  injection g1 with g1
  injection g1 with ga gb
  subst ga gb
  refine hMore ⟨x,v⟩ w' since' seen' c0' cnt' PL hlx hv (S.put j hj (.iter r b since' seen' c0') hgr (fun i hi=>by injection hi with hi;exact hi.symm) g4 (fun i hi=>.inl hi)) ⟨_,_,hf,fun z hz=>?_,fun z hz=>?_,F',g2,rfl,g5,g6,g7,g8,g9,g10⟩ hlt' hsz hb' hgr hen
  ·rw [hlf z hz]
   by_cases e:z=x
   ·subst e;rw [WideAt.sameKey_self (Ba hk hz)];simp
   ·rw [sameKey_ne (fun h=>e (by injection h))];simp [e]
  ·simp only [Bool.and_eq_true] at hz;exact hlt z hz.1
theorem bq (hg:o.guard=none) (m x v:Operand) (t:TypeId) (hop:o.op=Op.mapUpdate t m x v) (hk:P.underlying k=some (.int .i64)) (ht:P.underlying t=some (.map k e))
  (hm:a.eval m=.map (some b)) (S:Ic w0 w Γ) (j:Nat) (hj:Γ[j]?=some (.map P k E b n f)) (hn:n<140737488355328) (kx:Int) (u:β) (hx:a.eval x=.int .i64 kx) (hv:a.eval v=E.val u) (hi:Ii kx)
  (hK:∀ w',Ic w0 w' (Γ.set j (.map P k E b (n+1) (zy f kx u)))->w.grownBy w' (some b)->wpList P ops Q rest (a.put o.dst undef) w') :
  wpList P ops Q (o :: rest) a w:=by
 refine wpList_plain hg fun K' hK'=>?_
 obtain⟨w',hrun,r1,r2⟩:=Ik.update (S.all _ (List.mem_of_getElem? hj)) hk ht hn hi u
 unfold Oper.wp
 simp [execOp,hop,hm,hx,hv,hrun,Result.andThen]
 exact hK' _ _ (hK w' (S.put j hj _ r2 (fun i hi=>by injection hi with hi;exact hi.symm) r1 (fun i hi=>.inl hi)) r2)
end
theorem cT {P:Program} {k e:TypeId} {β:Type} {E:JF P e β} {w:World} {b n:Nat} {f:Int->Option β} {es:Array MapEntry} {clock r since:Nat} {seen:Array Nat} {c0 cnt:Nat} {left:Int->Bool} (hb:w.heap[b]?=some (.map es clock)) (hr:w.heap[r]?=some (.mapIter (some b) since seen c0)) (R:Dy P k E es clock since seen c0 n f left cnt):w.rangeLeft b r=cnt:=by
 obtain⟨_,_,_,_,_,_,_,_,_,h,_⟩:=R
 unfold World.rangeLeft;rw [hb,hr];exact h
theorem BL {P:Program} {k e:TypeId} {β:Type} {E:JF P e β} {n:Nat} {f:Int->Option β} {es:Array MapEntry} {clock since:Nat} {seen:Array Nat} {c0 cnt:Nat} {left:Int->Bool} (R:Dy P k E es clock since seen c0 n f left cnt):cnt<=n:=by
 obtain⟨_,_,_,_,_,_,h2,_,_,h,_⟩:=R
 refine Nat.le_trans ?_ h2
 rw [<- h]
 unfold leftOf
 exact Array.size_filter_le
theorem Ic.iter {w0 w:World} {Γ:List Pc} (S:Ic w0 w Γ) (j:Nat) {r b since c0:Nat} {seen:Array Nat} (hj:Γ[j]?=some (.iter r b since seen c0)):w.heap[r]?=some (.mapIter (some b) since seen c0):=S.all _ (List.mem_of_getElem? hj)
theorem Ic.mkmap {P:Program} {k e:TypeId} {β:Type} (E:JF P e β) {w0 w:World} {Γ:List Pc} (S:Ic w0 w Γ):Ic w0 (w.alloc (.map #[] 0)) (.map P k E w.heap.size 0 (fun _=>none) :: Γ) :=
 S.comp (Δ:=[.map P k E w.heap.size 0 (fun _=>none)]) ⟨Ext.alloc (Below.refl _ _) _,fun p hp=>by rw [List.mem_singleton] at hp;subst hp;exact Ik.made E w,fun p hp i hi=>by rw [List.mem_singleton] at hp;subst hp;have:i=w.heap.size:=hi;omega,List.pairwise_singleton _ _⟩
theorem Ic.map {P:Program} {k e:TypeId} {β:Type} {E:JF P e β} {w0 w:World} {Γ:List Pc} (S:Ic w0 w Γ) (j:Nat) {b n:Nat} {f:Int->Option β} (hj:Γ[j]?=some (.map P k E b n f)):Ik P k E b n f w:=S.all _ (List.mem_of_getElem? hj)
end
section
open Go Go.RowKit Go.Maps
theorem GO (w:World):(zeroValue 4).run prog w=.ok (.bool false) w:=by kernel_rfl
noncomputable def EB:JF prog 4 Bool:=Gu prog 4 underlying4 GO
theorem Hv (p:Option Addr) (n c:Nat) (l:List Int) (w:World) (hl:Rd w 1 p n (ab l)) (hi:∀ x∈l,Ii x) (hn:n<=1000000) :
  Calls prog 231 #[.slice p n c] w fun e w'=>∃ b f,e=.returned (.map (some b))/\Ic w w' [.map prog 3 EB b n f]/\∀ x,f x=some true↔x∈l:=by
 have p1:=hl.ptr
 have l1:=hl.nI
 have HL:=lh hl;clear hl
 have L1:=lh l1;clear l1
 have HI:=lh hi;clear hi
 have hmm:=@run_makeMap prog
 have S0:=lh ((Ic.start w).mkmap EB (k:=3))
 go_enter func231,ntmps231
 go_wp2
 go_loopw [5,9] (fun _ i wr=>∃ (k:Nat) (f:Int->Option Bool),k<=n/\i=.int .i64 k/\Ic w wr [.map prog 3 EB w.heap.size k f]/\∀ x,f x=some true↔x∈l.take k) (fun _ i _=>n - (intOf i).toNat)
 case atStart=>exact⟨0,_,Nat.zero_le _,rfl,S0.out,fun x=>by simp⟩
 case round =>
  clear S0
  obtain⟨k,f,hk,rfl,S,hf⟩:=hrel
  have HF:=lh hf;clear hf
  by_cases hlt:k<n
  ·have g1:=S.ext.cell (HL.out.cI hlt)
   have SH:=lh S;clear S
   have d1:(0:Int)<=k:=by omega
   have d2:(k:Int)<n:=by omega
   have HX:Hid (Ii (ae l k)):=HI.out _ (by rw [ar (by rw [<- L1.out];exact hlt)];exact List.getElem_mem _)
   go_wp2_with (at_mapUpdate;go_must (refine bq rfl _ _ _ _ rfl underlying3 underlying252 rfl SH.out 0 rfl (by omega) (ae l k) true rfl rfl HX.out ?_;intro w1 S1 hg;have S2:=lh S1;clear S1 hg))
   go_roundw
   case rel=>exact⟨k+1,_,by omega,by go_num,S2.out,fun x=>by
    rw [ak l k (by rw [<- L1.out];exact hlt),List.mem_append,List.mem_singleton,<- HF.out x]
    unfold zy
    by_cases e:x=ae l k <;> simp [e]⟩
   case measure=>simp [intOf];omega
  ·obtain rfl:k=n:=by omega
   have SH:=lh S;clear S
   go_wp2
   go_ret
   exact⟨_,f,rfl,SH.out,fun x=>by rw [HF.out,List.take_of_length_le (by rw [<- L1.out];omega)]⟩
theorem GA (a b n m:Nat) (f g:Int->Option Bool) (w:World) (hA:Ik prog 3 EB a n f w) (hB:Ik prog 3 EB b m g w) (hn:n<=1000000) :
  Calls prog 189 #[.map (some a),.map (some b)] w fun e w'=>∃ c h,e=.returned (.map (some c))/\Ic w w' [.map prog 3 EB c n h]/\∀ x,h x=some true↔f x=some true/\g x=some true:=by
 obtain⟨es,clock,hb,F,hs,hf⟩:=hA.raw
 have J7:=lh hb;clear hb
 have HF:=lh F;clear F
 have Jh:=lh hs;clear hs
 have IU:=lh hf;clear hf
 have HG:=lh hB;clear hB
 clear hA
 have hmm:=@run_makeMap prog
 have S0:=lh ((Ic.start w).mkmap EB (k:=3))
 have hlt:a<w.heap.size:=(Array.getElem?_eq_some_iff.1 J7.out).1
 go_enter func189,ntmps189
 go_wp2_with (at_range;go_must (refine eL rfl _ _ rfl underlying3 underlying252 rfl ((S0.out.ext.block a hlt).trans J7.out) HF.out Jh.out IU.out S0.out (w.heap.size+1) (by simp) ?_;intro w1 since seen c0 cnt S1 R hsz he;have S2:=lh S1;have HR:=lh R;clear S1 R he))
 go_frame
 go_loopw [6,7] (fun _ _ wr=>∃ since seen c0 cnt left h mm,Ic w wr [.iter (w.heap.size+1) a since seen c0,.map prog 3 EB w.heap.size mm h]/\Dy prog 3 EB es clock since seen c0 n f left cnt/\mm+cnt<=n/\∀ x,h x=some true↔f x=some true/\g x=some true/\left x=false) (fun _ _ wr=>wr.rangeLeft a (w.heap.size+1))
 case atStart=>exact⟨since,seen,c0,cnt,_,_,0,S2.out,HR.out,by have:=BL HR.out;omega,fun x=>by
  constructor
  ·intro h;cases h
  ·rintro⟨h1,_,h3⟩;rw [h1] at h3;cases h3⟩
 case round =>
  clear S2 HR hsz since seen c0 cnt
  obtain⟨since,seen,c0,cnt,left,h,mm,S,R,NK,hh⟩:=hrel
  have SH:=lh S;clear S
  have HR:=lh R;clear R
  have HH:=lh hh;clear hh
  have JI:=lh ((SH.out.ext.block a hlt).trans J7.out)
  go_wp2_with (at_next;go_must (refine fi rfl _ rfl underlying3 rfl JI.out SH.out 0 rfl HR.out ?_ ?_))
  ·intro hall
   have Tj:=lh hall;clear hall
   go_wp2
   go_ret
   exact⟨_,h,rfl,(SH.out.pick [1] (by decide) rfl:Ic w _ [.map prog 3 EB w.heap.size mm h]).put 0 rfl (.map prog 3 EB w.heap.size n h) (World.grownBy.refl _ none) (fun k hk=>by cases hk) ((SH.out.map 1 rfl).mono (by omega)) (fun k hk=>.inl hk),fun x=>by rw [HH.out];simp [Tj.out x]⟩
  ·intro t w1 since' seen' c0' cnt' hx hl hfx S1 R1 hc hsz hb1 hg1 hen
   obtain⟨x,v⟩:=t
   have hlk:=(HG.out.ext S1.ext).lookup underlying3 underlying252 hx
   have JZ:=lh S1;clear S1
   have HR1:=lh R1;clear R1
   have HB1:=lh hb1;clear hb1
   have HX:=lh hx;clear hx
   have HL:=lh hl;clear hl
   have Md:=lh hfx;clear hfx
   clear hg1 hsz JI
   obtain⟨u,hu⟩:∃ u,u=(g x).getD EB.z:=⟨_,rfl⟩
   rw [<- hu] at hlk
   have HU:=lh hu;clear hu
   have hlk2:(Instr.lookup 252 (.map (some b)) (.int .i64 x) false).run prog w1=.ok (.bool u) w1:=hlk
   have Ox:(Instr.entry (.pointer (some ⟨w.heap.size+1,0,none⟩))).run prog w1=.ok (.tuple #[.int .i64 x,.bool v]) w1:=hen
   clear hlk hen
   cases v with
   | false =>
    go_wp2_with (at_mapUpdate;go_must (refine bq rfl _ _ _ _ rfl underlying3 underlying252 rfl JZ.out 1 rfl (by omega) x false rfl rfl HX.out ?_;intro w2 S2 hg;have S3:=lh S2;clear S2 hg))
    go_roundw
    case rel=>exact⟨since',seen',c0',cnt',_,_,mm+1,S3.out,HR1.out,by omega,fun y=>by
     unfold zy
     by_cases e:y=x
     ·subst e;simp [Md.out]
     ·simp [e,HH.out y]⟩
    case measure=>rw [cT ((S3.out.ext.block a hlt).trans J7.out) (S3.out.iter 0 rfl) HR1.out,cT ((SH.out.ext.block a hlt).trans J7.out) (SH.out.iter 0 rfl) HR.out];exact hc
   | true =>
    go_wp2_with (at_mapUpdate;go_must (refine bq rfl _ _ _ _ rfl underlying3 underlying252 rfl JZ.out 1 rfl (by omega) x u rfl rfl HX.out ?_;intro w2 S2 hg;have S3:=lh S2;clear S2 hg))
    go_roundw
    case rel=>exact⟨since',seen',c0',cnt',_,_,mm+1,S3.out,HR1.out,by omega,fun y=>by
     unfold zy
     by_cases e:y=x
     ·subst e
      have hu:=HU.out
      cases hg:g y with
      | none=>rw [hg] at hu;simp [hu,Md.out];rfl
      | some t=>rw [hg] at hu;simp [hu,Md.out]
     ·simp [e,HH.out y]⟩
    case measure=>rw [cT ((S3.out.ext.block a hlt).trans J7.out) (S3.out.iter 0 rfl) HR1.out,cT ((SH.out.ext.block a hlt).trans J7.out) (SH.out.iter 0 rfl) HR.out];exact hc
end
section
open Go Go.RowKit Go.Shelf Go.Lib Go.Sort
def fd (a b:Int):Bool:=decide (a<b)
theorem kt:I5 fd:=⟨fun a=>by simp [fd],fun a b c h k=>by simp [fd] at *;omega,fun a b h k=>by simp [fd] at *;omega⟩
theorem EI {w:World} {base n c g:Nat} {l:List Int} (ho:w.ownsRow base 3 1 (.slice (some ⟨g,0,none⟩) n c) n (ab l)) (hn:n<=1000000):Holds (Value.int .i64) w g 0 l.toArray:=by
 intro j hj
 have hl:n=l.length:=by have:=ho.1;rw [ep] at this;omega
 have r:=Rd.of_own ho (by omega)
 have hj2:j<n:=by simp at hj;omega
 have hc:=r.cI hj2
 rw [aB] at hc
 refine⟨?_,il ho _⟩
 rw [hc,getElem!_pos _ j hj,ar (by omega)];simp
theorem ue (w:World) (g:Nat) (l:List Int):putRow (Value.int .i64) w g 0 l.toArray=putRow id w g 0 (ab l).toArray:=by
 unfold putRow
 congr 1
 funext c
 unfold putCells
 apply Array.ext_getElem?
 intro i
 simp only [Array.getElem?_mapIdx]
 cases c[i]? with
 | none=>rfl
 | some v =>
  simp only [Option.map_some]
  by_cases h:i<l.length
  ·simp [ab,h]
  ·simp [ab,h]
def gP (l:List Int):List Int:=l.mergeSort fun x y=>decide (x<=y)
theorem rm (l:List Int):(gP l).length=l.length:=by simp [gP]
theorem zp (l:List Int) (x:Int):x∈gP l↔x∈l:=by simp [gP]
theorem oT (l:List Int):(gP l).Pairwise fun a b=>a<=b:=by
 have:=List.pairwise_mergeSort (le:=fun x y:Int=>decide (x<=y)) (fun a b c h k=>by simp at *;omega) (fun a b=>by simp;omega) l
 exact this.imp fun h=>by simpa using h
theorem un {l:List Int} (h:l.Nodup):bM fd (gP l):=by
 have h1:=oT l
 have h2:(gP l).Nodup:=(List.mergeSort_perm l _).nodup_iff.2 h
 refine(h1.and h2).imp ?_
 rintro a b ⟨h3,h4⟩
 simp only [fd,decide_eq_true_eq];omega
theorem zq {l s:List Int} (h:l.Nodup) (hm:∀ x,x∈l↔x∈s):gP l=bk fd s :=
 fY kt _ _ (un h) (de kt s) fun x=>by rw [zp,hm,eI kt]
theorem FO (base:Nat) (q:Option Addr) (n c:Nat) (l:List Int) (w:World) (ho:w.ownsRow base 3 1 (.slice q n c) n (ab l)) (hn:n<=1000000) :
  Calls prog 268 #[.slice q n c] w fun e w'=>e=.returned (.tuple #[])/\w'.ownsRow base 3 1 (.slice q n c) n (ab (gP l))/\w.grownBy w' (bi q):=by
 have hl:n=l.length:=by have:=ho.1;rw [ep] at this;omega
 by_cases h0:n=0
 ·subst h0
  have hnil:l=[]:=List.eq_nil_of_length_eq_zero hl.symm
  subst hnil
  refine(Any.slices_Sort_int_none Tryz.sortI q c w).mono ?_
  rintro e w' ⟨he,rfl⟩
  exact⟨he,by simpa [gP] using ho,World.grownBy.refl _ _⟩
 ·obtain⟨g,hq,hg⟩:=cR ho h0
  subst hq
  have hcon:=Any.slices_Sort_int Tryz.sortI g 0 c l w (EI ho hn) hg (by omega)
  rw [<- hl] at hcon
  refine hcon.mono ?_
  rintro e w' ⟨he,m,os,rfl⟩
  have hp:=gO ho (ys:=ab (gP l)) (by rw [ep,rm,hl,Nat.mul_one]) m os
  rw [ue]
  exact⟨he,hp.1,hp.2⟩
theorem xE {w0 w:World} {Γ:List Pc} (S:Ic w0 w Γ) (j:Nat) {q:Option Addr} {n c:Nat} {l:List Int} (hj:Γ[j]?=some (.own 3 1 q n c (ab l))) (hn:n<=1000000) :
  Calls prog 268 #[.slice q n c] w fun e w'=>e=.returned (.tuple #[])/\Ic w0 w' (Γ.set j (.own 3 1 q n c (ab (gP l)))) :=
 (FO _ q n c l w (S.own j hj) hn).mono fun _ _ ⟨he,ho,hg⟩=>⟨he,S.put j hj _ hg (fun _ hk=>hk) (aP ho (Nat.zero_le _)) fun _ hk=>.inl hk⟩
end
section
open Go Go.RowKit Go.Maps
theorem kg:(prog.info? 3).map (fun i=>(i.zero,i.size,i.bytes))=some (some (.int .i64 0),1,8):=by kernel_rfl
theorem Rd.oneI (w:World) (t:TypeId) (a:Int):Rd (w.alloc (.cells #[.int .i64 a] t)) 1 (some ⟨w.heap.size,0,none⟩) 1 (ab [a]):=Rd.new w t [.int .i64 a] 1 1 rfl (by omega)
theorem b9 (l m:List Int):ab (l ++ m)=ab l ++ ab m:=by simp [ab]
theorem Dl (a n:Nat) (f:Int->Option Bool) (l:List Int) (w:World) (hA:Ik prog 3 EB a n f w) (hl:∀ x,f x=some true↔x∈l) (hn:n<=1000000) :
  Calls prog 234 #[.map (some a)] w fun e w'=>∃ q c,e=.returned (.slice q (bk fd l).length c)/\Ic w w' [.own 3 1 q (bk fd l).length c (ab (bk fd l))]:=by
 obtain⟨i0,hi0,hz0,hz1,hz2⟩:=info_parts kg
 obtain⟨es,clock,hb,F,hs,hf⟩:=hA.raw
 have J7:=lh hb;clear hb
 have HF:=lh F;clear F
 have Jh:=lh hs;clear hs
 have IU:=lh hf;clear hf
 have HL:=lh hl;clear hl
 clear hA
 have S0:=lh ((Ic.start w).nilrow 3 1)
 have hlt:a<w.heap.size:=(Array.getElem?_eq_some_iff.1 J7.out).1
 go_enter func234,ntmps234
 go_wp2_with (at_range;go_must (refine eL rfl _ _ rfl underlying3 underlying252 rfl J7.out HF.out Jh.out IU.out S0.out w.heap.size rfl ?_;intro w1 since seen c0 cnt S1 R hsz he;have S2:=lh S1;have HR:=lh R;clear S1 R he hsz))
 go_frame
 go_loopw [3,4,5] (fun v _ _ wr=>∃ q c acc since seen c0 cnt left,v=.slice q acc.length c/\Ic w wr [.iter w.heap.size a since seen c0,.own 3 1 q acc.length c (ab acc)]/\Dy prog 3 EB es clock since seen c0 n f left cnt/\acc.Nodup/\acc.length+cnt<=n/\∀ x,x∈acc↔f x=some true/\left x=false) (fun _ _ _ wr=>wr.rangeLeft a w.heap.size)
 case atStart=>exact⟨none,0,[],since,seen,c0,cnt,_,rfl,S2.out,HR.out,List.nodup_nil,by have:=BL HR.out;simp;omega,fun x=>by
  constructor
  ·intro h;cases h
  ·rintro⟨h1,h3⟩;rw [h1] at h3;cases h3⟩
 case round =>
  clear S2 HR since seen c0 cnt
  obtain⟨q,c,acc,since,seen,c0,cnt,left,rfl,S,R,hnd,NK,hh⟩:=hrel
  have SH:=lh S;clear S
  have HR:=lh R;clear R
  have HH:=lh hh;clear hh
  have Mh:=lh hnd;clear hnd
  have JI:=lh ((SH.out.ext.block a hlt).trans J7.out)
  go_wp2_with (at_next;go_must (refine fi rfl _ rfl underlying3 rfl JI.out SH.out 0 rfl HR.out ?_ ?_))
  ·intro hall
   have HP:Hid (gP acc=bk fd l):=zq Mh.out fun x=>by rw [HH.out,hall x,<- HL.out x];simp
   have Mg:Hid (acc.length=(bk fd l).length):=by unfold Hid;rw [<- HP.out,rm]
   clear hall
   go_wp2_with (go_at_call 268;go_must (refine(xE SH.out 1 rfl (by omega)).mono ?_;rintro e w1 ⟨rfl,S1⟩;have S2:=lh S1;clear S1))
   go_ret
   have S3:Ic w w1 [.own 3 1 q acc.length c (ab (gP acc))]:=S2.out.pick [1] (by decide) rfl
   rw [HP.out] at S3
   exact⟨q,c,eO Mg.out,by rw [<- Mg.out];exact S3⟩
  ·intro t w1 since' seen' c0' cnt' hx hl hfx S1 R1 hc hsz hb1 hg1 hen
   obtain⟨x,v⟩:=t
   have JZ:=lh S1;clear S1
   have HR1:=lh R1;clear R1
   have HB1:=lh hb1;clear hb1
   have HX:=lh hx;clear hx
   have Iz:=lh hl;clear hl
   have Md:=lh hfx;clear hfx
   clear hg1 hsz JI
   have Ox:(Instr.entry (.pointer (some ⟨w.heap.size,0,none⟩))).run prog w1=.ok (.tuple #[.int .i64 x,.bool v]) w1:=hen
   clear hen
   cases v with
   | true =>
    go_wp2_with (at_builtin;go_must (refine am rfl _ _ _ rfl 3 i0 _ 1 8 underlying25 hi0 hz0 hz1 hz2 rfl (by omega) (JZ.out.junk _) 1 q acc.length c _ rfl rfl _ 1 1 _ rfl (Rd.oneI _ _ _) (bN _) (by omega) (by omega) ?_;intro q' c' w2 S' hsz;have S3:=lh S';clear S' hsz))
    go_roundw
    case rel=>exact⟨q',c',acc ++ [x],since',seen',c0',cnt',_,by simp,by rw [List.length_append,b9];exact S3.out,HR1.out,List.nodup_append.2 ⟨Mh.out,by simp,by
     intro y hy z hz
     simp at hz
     subst hz
     rintro rfl
     have:=((HH.out y).1 hy).2
     have h2:=Iz.out
     simp at h2
     rw [h2] at this;cases this⟩,by simp;omega,fun y=>by
     rw [List.mem_append,HH.out y]
     by_cases e:y=x
     ·subst e;simp [Md.out]
     ·simp [e]⟩
    case measure=>rw [cT ((S3.out.ext.block a hlt).trans J7.out) (S3.out.iter 0 rfl) HR1.out,cT ((SH.out.ext.block a hlt).trans J7.out) (SH.out.iter 0 rfl) HR.out];exact hc
   | false =>
    go_wp2
    go_roundw
    case rel=>exact⟨q,c,acc,since',seen',c0',cnt',_,rfl,JZ.out,HR1.out,Mh.out,by omega,fun y=>by
     rw [HH.out y]
     by_cases e:y=x
     ·subst e;simp [Md.out]
     ·simp [e]⟩
    case measure=>rw [cT ((JZ.out.ext.block a hlt).trans J7.out) (JZ.out.iter 0 rfl) HR1.out,cT ((SH.out.ext.block a hlt).trans J7.out) (SH.out.iter 0 rfl) HR.out];exact hc
end
theorem qu (l:List Int) (k:Nat):(ab l).take (k*1)=ab (l.take k):=by simp [ab,List.map_take]
theorem qq (l:List Int) (k:Nat):(ab l).drop (k*1)=ab (l.drop k):=by simp [ab,List.map_drop]
theorem Ad (p:Option Addr) (n c:Nat) (l:List Int) (w:World) (hl:Rd w 1 p n (ab l)) (hz:n<=1000000) :
  Calls prog 193 #[.slice p n c] w fun e w'=>∃ p' n' c',e=.returned (.slice p' n' c')/\n'=(bk fd l).length/\w'.ownsRow w.heap.size 3 1 (.slice p' n' c') n' (ab (bk fd l))/\Ext w w':=by
 obtain⟨i0,hi0,hz0,hz1,hz2⟩:=info_parts kg
 have p1:=hl.ptr
 have n1:=hl.small
 have l1:=hl.nI
 have HL:=lh hl;clear hl
 have L1:=lh l1;clear l1
 go_enter func193,ntmps193
 go_wp2
 go_loopw [3,4,5,6] (fun s i _ _ wr=>∃ (k:Nat) (o:List Int) (q:Option Addr) (m cq:Nat),k<=n/\i=.int .i64 k/\s=.slice q m cq/\o=(l.take k).foldl (gC fd) []/\m=((l.take k).foldl (gC fd) []).length/\wr.ownsRow w.heap.size 3 1 (.slice q m cq) m (ab ((l.take k).foldl (gC fd) []))/\Ext w wr) (fun _ i _ _ _=>n - (intOf i).toNat)
 case atStart=>exact⟨0,[],none,0,0,Nat.zero_le _,rfl,rfl,rfl,rfl,World.ownsRow_nil _ _ _ _,Below.refl _ _⟩
 case round =>
  obtain⟨k,o,q,m,cq,hk,rfl,rfl,ho,hm,hown,hb⟩:=hrel
  rw [<- ho] at hm hown
  have hmk:m<=k:=by
   rw [hm,ho];have:=jZ fd (l.take k) [];rw [List.length_take] at this;simp at this ⊢;omega
  have hmc:=cu hown
  have hq:=Rd.of_own hown (by omega)
  have p2:=hq.ptr
  have HO:=lh ho;clear ho
  have HM:=lh hm;clear hm
  have HB:=lh hb;clear hb
  have HQ:=lh hq;clear hq
  have HOWN:=lh hown;clear hown
  by_cases hlt:k<n
  ·have g0:=HB.out.cell (HL.out.cI hlt)
   go_wp2
   obtain⟨wo,rfl⟩:∃ wo:World,wo=wr:=⟨_,rfl⟩
   go_loopw [5] (fun a wx=>∃ j:Nat,j<=m/\a=.int .i64 j/\(o.take j).all (fun y=>fd y (ae l k))=true/\Ext wo wx) (fun a _=>m - (intOf a).toNat)
   case atStart=>exact⟨0,Nat.zero_le _,rfl,rfl,Below.refl _ _⟩
   case round =>
    obtain⟨j,hj,rfl,ha,hb⟩:=hrel
    have g1:=g0
    replace g0:=hb.cell g0
    have HA:=lh ha;clear ha
    have HX:=lh hb;clear hb
    have d1:(0:Int)<=j:=by omega
    have k1:(0:Int)<=k:=by omega
    have k2:(k:Int)<n:=by omega
    have NC:Hid (∀ (hs:j<m->fd (ae o j) (ae l k)=false),iQ fd o (ae l k)=j):=fun hs=>Al fd o (ae l k) j (by rw [<- HM.out];exact hj) HA.out (fun h=>hs (by rw [HM.out];exact h))
    have RA:Hid (∀ W,Ext wo W->Rd W 1 q j (ab (o.take j))):=fun W hW=>by
     have:=(HQ.out.ext hW).take hj
     rwa [qu] at this
    have RC:Hid (∀ W,Ext wo W->Rd W 1 (bv q cq j 1) (m - j) (ab (o.drop j))):=fun W hW=>by
     have:=(HQ.out.ext hW).cut hj (Nat.le_refl m) hmc
     rw [qq,List.take_of_length_le (by rw [ep,List.length_drop,<- HM.out];omega)] at this
     exact this
    have BW:Hid (∀ i,Ext wo (wr.drewN i)):=fun i=>HX.out.drewN i
    have Z1:=lh HX.out.size
    by_cases hjt:j<m
    ·have g3:=HX.out.cell (HQ.out.cI hjt)
     have d2:(j:Int)<m:=by omega
     have d3:decide ((j:Int)<m)=true:=by simp;omega
     have d4:decide (j<m)=true:=by simp;omega
     by_cases hless:fd (ae o j) (ae l k)=true
     ·have Oy:decide (ae o j<ae l k)=true:=hless
      go_wp2
      go_quiet (fail)
      go_wp2
      go_roundw
      case rel=>exact⟨j+1,by omega,by go_num,i6 _ _ _ (by rw [<- HM.out];exact hjt) HA.out hless,HX.out.drewN _⟩
      case measure=>simp [intOf];omega
     ·have KU:fd (ae o j) (ae l k)=false:=by simpa using hless
      clear hless
      have Oy:decide (ae o j<ae l k)=false:=KU
      have HAT:=lh (NC.out (fun _=>KU))
      by_cases heq:ae o j=ae l k
      ·have hq2:(ae o j == ae l k)=true:=by simp [heq]
       have HF:=lh (y8 HAT.out (by rw [<- HM.out];exact hjt) heq)
       clear heq
       go_wp2
       go_quiet (fail)
       go_wp2
       go_quiet (fail)
       go_wp2
       go_roundw
       case rel=>exact⟨k+1,_,q,m,cq,by omega,by go_num,rfl,rfl,by rw [cD _ _ _ _ (by rw [<- L1.out];exact hlt),<- HO.out,HF.out];exact HM.out,by rw [cD _ _ _ _ (by rw [<- L1.out];exact hlt),<- HO.out,HF.out];exact(BW.out _).own HOWN.out,Ext.trans HB.out (BW.out _)⟩
       case measure=>simp [intOf];omega
      ·have hq2:(ae o j == ae l k)=false:=by simp [heq]
       have HF:=lh (uc HAT.out (fun _=>heq))
       clear heq
       go_wp2
       go_quiet (fail)
       go_wp2
       go_quiet (fail)
       go_wp2_with (first | (at_builtin;have _t:=KD;go_must ((refine aM rfl _ _ _ rfl wo.heap.size 3 i0 _ 1 8 underlying25 hi0 hz0 hz1 hz2 rfl (by omega) q2 (j+1) c2 _ rfl KD.out (bv q cq j 1) (m - j) (cq - j) (ab (o.drop j)) rfl (RC.out _ PN.out) (bN _) (by omega) (by omega) (by exact Nat.le_trans Z1.out (Nat.le_trans PM.out (Nat.le_trans (Nat.le_succ _) Ta.out))) ?_;intro q3 c3 w4 JU hg3 KQ hl3;have Td:=lh (Below.trans PN.out hl3);have Qb:=lh JU;clear JU hg3 KQ hl3))) | (at_builtin;have _t:=Qa;go_must ((refine aM rfl _ _ _ rfl wo.heap.size 3 i0 _ 1 8 underlying25 hi0 hz0 hz1 hz2 rfl (by omega) q1 j c1 _ rfl (World.ownsRow.alloc Qa.out _) _ 1 1 _ rfl (Rd.oneI w2 _ (ae l k)) (bN _) (by omega) (by omega) (by rw [World.size_alloc];exact Nat.le_succ_of_le (Nat.le_trans Z1.out PM.out)) ?_;intro q2 c2 w3 La hg2 Ot hl2;have PN:=lh (Below.trans (Ext.alloc Tc.out _) hl2);have Ta:=lh (by have:=hl2.size;rwa [World.size_alloc] at this);have KD:=lh La;clear La hg2 Ot hl2))) | (at_builtin;go_must ((refine aM rfl _ _ _ rfl wo.heap.size 3 i0 _ 1 8 underlying25 hi0 hz0 hz1 hz2 rfl (by omega) none 0 0 [] rfl (World.ownsRow_nil _ _ _ _) q j cq (ab (o.take j)) rfl (RA.out _ (BW.out _)) (bN _) (by omega) (by omega) (by exact Z1.out) ?_;intro q1 c1 w2 Kg hg1 Oq hl1;have g1':=Ext.cell (Below.trans (BW.out _) hl1) g1;have Tc:=lh (Below.trans (BW.out _) hl1);have PM:=lh hl1.size;simp only [Nat.zero_add,List.nil_append] at Kg;have Qa:=lh Kg;clear Kg hg1 Oq hl1))))
       go_roundw
       case rel=>exact⟨k+1,_,q3,_,c3,by omega,by go_num,rfl,rfl,by rw [cD _ _ _ _ (by rw [<- L1.out];exact hlt),<- HO.out,HF.out,List.length_append,List.length_append,List.length_take,List.length_drop];have YD:=HM.out;simp only [List.length_cons,List.length_nil];omega,by rw [cD _ _ _ _ (by rw [<- L1.out];exact hlt),<- HO.out,HF.out];have:=aP Qb.out (b:=w.heap.size) HB.out.size;simpa [b9,ab] using this,Ext.trans HB.out Td.out⟩
       case measure=>simp [intOf];omega
    ·have HAT:=lh (NC.out (fun h=>absurd h hjt))
     have HF:=lh (uc HAT.out (fun h=>absurd (by rw [HM.out];exact h) hjt))
     have d3:decide ((j:Int)<m)=false:=by simp;omega
     have d4:decide (j<m)=false:=by simp;omega
     go_wp2
     go_quiet (fail)
     go_wp2
     go_quiet (fail)
     go_wp2_with (first | (at_builtin;have _t:=KD;go_must ((refine aM rfl _ _ _ rfl wo.heap.size 3 i0 _ 1 8 underlying25 hi0 hz0 hz1 hz2 rfl (by omega) q2 (j+1) c2 _ rfl KD.out (bv q cq j 1) (m - j) (cq - j) (ab (o.drop j)) rfl (RC.out _ PN.out) (bN _) (by omega) (by omega) (by exact Nat.le_trans Z1.out (Nat.le_trans PM.out (Nat.le_trans (Nat.le_succ _) Ta.out))) ?_;intro q3 c3 w4 JU hg3 KQ hl3;have Td:=lh (Below.trans PN.out hl3);have Qb:=lh JU;clear JU hg3 KQ hl3))) | (at_builtin;have _t:=Qa;go_must ((refine aM rfl _ _ _ rfl wo.heap.size 3 i0 _ 1 8 underlying25 hi0 hz0 hz1 hz2 rfl (by omega) q1 j c1 _ rfl (World.ownsRow.alloc Qa.out _) _ 1 1 _ rfl (Rd.oneI w2 _ (ae l k)) (bN _) (by omega) (by omega) (by rw [World.size_alloc];exact Nat.le_succ_of_le (Nat.le_trans Z1.out PM.out)) ?_;intro q2 c2 w3 La hg2 Ot hl2;have PN:=lh (Below.trans (Ext.alloc Tc.out _) hl2);have Ta:=lh (by have:=hl2.size;rwa [World.size_alloc] at this);have KD:=lh La;clear La hg2 Ot hl2))) | (at_builtin;go_must ((refine aM rfl _ _ _ rfl wo.heap.size 3 i0 _ 1 8 underlying25 hi0 hz0 hz1 hz2 rfl (by omega) none 0 0 [] rfl (World.ownsRow_nil _ _ _ _) q j cq (ab (o.take j)) rfl (RA.out _ (BW.out _)) (bN _) (by omega) (by omega) (by exact Z1.out) ?_;intro q1 c1 w2 Kg hg1 Oq hl1;have g1':=Ext.cell (Below.trans (BW.out _) hl1) g1;have Tc:=lh (Below.trans (BW.out _) hl1);have PM:=lh hl1.size;simp only [Nat.zero_add,List.nil_append] at Kg;have Qa:=lh Kg;clear Kg hg1 Oq hl1))))
     go_roundw
     case rel=>exact⟨k+1,_,q3,_,c3,by omega,by go_num,rfl,rfl,by rw [cD _ _ _ _ (by rw [<- L1.out];exact hlt),<- HO.out,HF.out,List.length_append,List.length_append,List.length_take,List.length_drop];have YD:=HM.out;simp only [List.length_cons,List.length_nil];omega,by rw [cD _ _ _ _ (by rw [<- L1.out];exact hlt),<- HO.out,HF.out];have:=aP Qb.out (b:=w.heap.size) HB.out.size;simpa [b9,ab] using this,Ext.trans HB.out Td.out⟩
     case measure=>simp [intOf];omega
  ·go_wp2
   go_ret
   have hkn:l.take k=l:=List.take_of_length_le (by rw [<- L1.out];omega)
   have:=HO.out
   rw [hkn] at this
   exact⟨q,m,cq,rfl,by unfold bk;rw [<- this];exact HM.out,by unfold bk;rw [<- this];exact HOWN.out,HB.out⟩
section
open Go Go.RowKit Go.Shelf Go.Lib Go.Sort
theorem sd (xs Z:List Value) (o:Nat) (h:o+Z.length<=xs.length):setMany xs.toArray o Z=(xs.take o ++ Z ++ xs.drop (o+Z.length)).toArray:=by
 apply ext_get!
 ·simp;omega
 ·intro t ht
  have ht':t<xs.length:=by simpa using ht
  rw [get_setMany _ _ _ _ (by simpa using ht)]
  have hlen:(xs.take o ++ Z ++ xs.drop (o+Z.length)).length=xs.length:=by simp;omega
  rw [getElem!_pos (xs.take o ++ Z ++ xs.drop (o+Z.length)).toArray t (by simp only [List.size_toArray];omega)]
  simp only [List.getElem_toArray]
  by_cases h1:o<=t/\t<o+Z.length
  ·rw [if_pos h1,List.getElem_append_left (by simp;omega),List.getElem_append_right (by simp;omega)]
   rw [getElem!_pos Z _ (by omega)]
   congr 1
   simp;omega
  ·rw [if_neg h1,getElem!_pos xs.toArray t (by simpa using ht')]
   simp only [List.getElem_toArray]
   by_cases h2:t<o
   ·rw [List.getElem_append_left (by simp;omega),List.getElem_append_left (by simp;omega)]
    simp
   ·rw [List.getElem_append_right (by simp;omega)]
    simp only [List.getElem_drop]
    congr 1
    simp;omega
theorem own_holds {w:World} {base:Nat} {e:TypeId} {size n c g:Nat} {xs:List Value} (ho:w.ownsRow base e size (.slice (some ⟨g,0,none⟩) n c) n xs) (hs:n<=1000000):Holds id w g 0 xs.toArray:=by
 intro j hj
 have r:=Rd.of_own ho (by omega)
 have hl:=r.len
 have hc:=r.cells j (by simp at hj;omega)
 rw [aB] at hc
 refine⟨?_,il ho _⟩
 rw [hc,getElem!_pos _ j hj,List.getD_eq_getElem?_getD,List.getElem?_eq_getElem (by simpa using hj)];rfl
theorem kY {w:World} {base:Nat} {e:TypeId} {size n c g:Nat} {xs:List Value} (ho:w.ownsRow base e size (.slice (some ⟨g,0,none⟩) n c) n xs) (hs:n<=1000000) (o:Nat) (Z:List Value) (h:o+Z.length<=n*size) :
  (w.setCells g o Z).ownsRow base e size (.slice (some ⟨g,0,none⟩) n c) n (xs.take o ++ Z ++ xs.drop (o+Z.length))/\w.grownBy (w.setCells g o Z) (some g):=by
 have hl:=ho.1
 have h1:=putRow_self id w g 0 xs.toArray (own_holds ho hs)
 have h2:=setCells_putRow w g 0 Z o xs.toArray (by simp;omega)
 rw [h1,Nat.zero_add,sd xs Z o (by omega)] at h2
 have h3:=gO ho (ys:=xs.take o ++ Z ++ xs.drop (o+Z.length)) (by simp;omega) 0 #[]
 rw [grow_empty] at h3
 rw [h2]
 exact h3
theorem td (l:List (Int × Int)) (k:Nat) (x:Int × Int) (h:k<l.length):(aj l).take (k*2) ++ [.int .i64 x.1,.int .i64 x.2] ++ (aj l).drop (k*2+2)=aj (l.set k x):=by
 rw [jG,show k*2+2=(k+1)*2 from by omega,lO,List.set_eq_take_append_cons_drop,if_pos h]
 simp [aj]
theorem ui (w:World) (g o n c:Nat) (hn:0<n) (hc:∀ j,j<n*2->(w.cell? ⟨g,o+j,none⟩).isSome=true) (hf:∀ j,j<n*2->w.frozen? ⟨g,o+j,none⟩=false) (ty:TypeId) :
  (Builtin.clear_ #[99] ty #[.slice (some ⟨g,o,none⟩) n c]).run prog w=.ok (.tuple #[]) (w.setCells g o (Builtin.zeroCells #[.int .i64 0,.int .i64 0] n).toList):=by
 have hv:∀ w,(zeroValue 98).run prog w=.ok (.agg #[.int .i64 0,.int .i64 0]) w:=fun w=>by kernel_rfl
 have hsz:(Builtin.zeroCells #[.int .i64 0,.int .i64 0] n).toList.length=n*2:=by simp [Builtin.zeroCells]
 have h1:∀ v∈(Builtin.zeroCells #[.int .i64 0,.int .i64 0] n).toList,v.oneCell'=true:=by
  intro v hv
  simp only [Builtin.zeroCells,Array.toList_map,List.mem_map] at hv
  obtain⟨i,_,rfl⟩:=hv
  rcases Nat.mod_two_eq_zero_or_one i with h | h <;> simp [h,Value.oneCell']
 have hst:=run_storeCells_cells (P:=prog) g o (Builtin.zeroCells #[.int .i64 0,.int .i64 0] n).toList 0 w (by rw [hsz];simpa using hc) (by rw [hsz];simpa using hf) h1
 simp only [Nat.add_zero] at hst
 obtain⟨m,rfl⟩:∃ m,n=m+1:=⟨n - 1,by omega⟩
 simp only [Builtin.clear_]
 simp [run_underlying underlying99,hv,Value.cells,hst]
end
section
open Go Go.RowKit Go.Shelf Go.Lib Go.Sort
attribute [local go_sem ↓] nU m8 jI
theorem fr {w w':World} (h:Ext w w') (row:Option Nat):w.grownBy w' row:=⟨h.os,h.tape,h.output,h.size,fun k hk _=>h.block k hk⟩
theorem gI {a b c:World} {g:Nat} (h:a.grownBy b (some g)) (k:b.grownBy c (some g)):a.grownBy c (some g) :=
 ⟨k.os.trans h.os,k.tape.trans h.tape,k.output.trans h.output,Nat.le_trans h.size k.size,fun i hi hne=>(k.block i (Nat.lt_of_lt_of_le hi h.size) hne).trans (h.block i hi hne)⟩
theorem tb {α:Type} [DecidableEq α] [Inhabited α] (l:List α) (h:l.length<2):aO l=l:=by
 unfold aO
 rw [compactUpTo_all _ _ (fun j hj=>keeps_lt_one l.toArray j (by omega))]
 have:=range_map_get l.toArray
 simpa using this
theorem gH {α:Type} [Inhabited α] (l:List α) (j:Nat) (h:j<l.length):l.toArray[j]! = ae l j:=by
 rw [getElem!_pos _ j (by simpa using h),ar h];simp
theorem tR {α:Type} [Inhabited α] (l:List α) (k j:Nat):ae (l.drop k) j=ae l (k+j):=by
 simp [ae,List.getD_eq_getElem?_getD,List.getElem?_drop]
theorem xq (q:Option Addr) (n c:Nat) (w:World) (h:n<2):Calls prog 259 #[.slice q n c] w fun e w'=>e=.returned (.slice q n c)/\w'=w:=by
 go_enter func259,ntmps259
 go_wp2
 go_ret
 exact⟨rfl,rfl⟩
theorem Aj (q:Option Addr) {i j:Nat} (h:i≠j):be q i≠be q j:=by
 intro e;unfold be at e;injection e with _ e;omega
theorem Bz {w : World} {base g n c k : Nat} {q : Option Addr} {dk : List (Int × Int)} (hq : q = some ⟨g, 0, none⟩) (ho : w.ownsRow base 98 2 (.slice q n c) n (aj dk)) (hn : n <= 100000) (hk : k < n) (hd : dk.length = n) (x : Int × Int) :
    ((w.setCell (be q (k * 2)) (.int .i64 x.1)).setCell ⟨(be q (k * 2)).block, (be q (k * 2)).off + 1, none⟩ (.int .i64 x.2)).ownsRow base 98 2 (.slice q n c) n (aj (dk.set k x)) /\
      w.grownBy ((w.setCell (be q (k * 2)) (.int .i64 x.1)).setCell ⟨(be q (k * 2)).block, (be q (k * 2)).off + 1, none⟩ (.int .i64 x.2)) (bi q) := by
  subst hq
  have h := kY ho (by omega) (k * 2) [.int .i64 x.1, .int .i64 x.2] (by simp; omega)
  simp only [List.length_cons, List.length_nil] at h
  rw [show k * 2 + (0 + 1 + 1) = k * 2 + 2 from rfl, td dk k x (by omega)] at h
  have e : w.setCells g (k * 2) [.int .i64 x.1, .int .i64 x.2] = (w.setCell (be (some ⟨g, 0, none⟩) (k * 2)) (.int .i64 x.1)).setCell ⟨(be (some ⟨g, 0, none⟩) (k * 2)).block, (be (some ⟨g, 0, none⟩) (k * 2)).off + 1, none⟩ (.int .i64 x.2) := by
    rw [aB, Nat.zero_add]; rfl
  rw [e] at h
  exact h
theorem qY {p:Option Addr} {n m c:Nat} (h:n=m):Ending.returned (.slice p n c)=.returned (.slice p m c):=by rw [h]
theorem xX {w:World} {base g n c k:Nat} {q:Option Addr} {dk:List (Int × Int)} (hq:q=some ⟨g,0,none⟩) (ho:w.ownsRow base 98 2 (.slice q n c) n (aj dk)) (hn:n<=100000) (hk:k<n) (hd:dk.length=n) :
  ∃ W',(∀ ty,(Builtin.clear_ #[99] ty #[.slice (bv q c k 2) (n - k) (c - k)]).run prog w=.ok (.tuple #[]) W')/\W'.ownsRow base 98 2 (.slice q k c) k (aj (dk.take k))/\w.grownBy W' (bi q):=by
 subst hq
 have hcap:=cu ho
 have hcut:bv (some ⟨g,0,none⟩) c k 2=some ⟨g,k*2,none⟩:=by unfold bv;rw [if_neg (by omega)];simp [Addr.add_lit]
 have r:=Rd.of_own ho (by omega)
 have hc:=ui w g (k*2) (n - k) (c - k) (by omega) (fun j hj=>by have:=r.cells (k*2+j) (by omega);rw [aB,Nat.zero_add] at this;rw [this];rfl) (fun j _=>il ho _)
 have hz:(Builtin.zeroCells #[.int .i64 0,.int .i64 0] (n - k)).toList.length=(n - k)*2:=by simp [Builtin.zeroCells]
 have h:=kY ho (by omega) (k*2) (Builtin.zeroCells #[.int .i64 0,.int .i64 0] (n - k)).toList (by rw [hz];omega)
 refine⟨_,fun ty=>by rw [hcut];exact hc ty,?_,h.2⟩
 have h1:=h.1
 rw [List.append_assoc,jG] at h1
 exact jr h1 (by rw [bS,List.length_take];omega) (by omega)
theorem xr (base g n c:Nat) (l:List (Int × Int)) (w:World) (ho:w.ownsRow base 98 2 (.slice (some ⟨g,0,none⟩) n c) n (aj l)) (hn:n<=100000) (h2:¬ n<2) :
  Calls prog 259 #[.slice (some ⟨g,0,none⟩) n c] w fun e w'=>e=.returned (.slice (some ⟨g,0,none⟩) (aO l).length c)/\w'.ownsRow base 98 2 (.slice (some ⟨g,0,none⟩) (aO l).length c) (aO l).length (aj (aO l))/\w.grownBy w' (some g):=by
 have hl:n=l.length:=by have:=ho.1;rw [bS] at this;omega
 have hcap:=cu ho
 obtain⟨q,hq⟩:∃ q,q=(some ⟨g,0,none⟩:Option Addr):=⟨_,rfl⟩
 rw [<- hq] at ho ⊢
 have p1:Od q n:=by rw [hq];exact .inr ⟨_,_,rfl⟩
 have HQ:=lh hq;clear hq
 have HL:=lh hl;clear hl
 have HO:=lh ho;clear ho
 have FIN:Hid ((∀ j,j<n->keeps l.toArray j=true)->aO l=l):=by
  intro hall
  unfold aO
  rw [compactUpTo_all _ _ (fun j hj=>hall j (by rw [HL.out];exact hj))]
  have:=range_map_get l.toArray
  simpa using this
 go_enter func259,ntmps259
 go_wp2
 go_loopw [3,4,5] (fun i _ _ wr=>∃ k:Nat,1<=k/\k<=n/\i=.int .i64 k/\(∀ j,j<k->keeps l.toArray j=true)/\Ext w wr) (fun i _ _ _=>n - (intOf i).toNat)
 case atStart=>exact⟨1,Nat.le_refl _,by omega,rfl,keeps_lt_one _,Below.refl _ _⟩
 case round =>
  obtain⟨k,hk1,hk,rfl,hall,hb⟩:=hrel
  have HA:=lh hall;clear hall
  have HB:=lh hb;clear hb
  have OW:=lh (HB.out.own HO.out)
  by_cases hlt:k<n
  ·have R:=lh (Rd.of_own OW.out (by omega))
   have g1:=R.out.cE hlt
   have g2:=R.out.cE2 hlt
   have g3:=R.out.cE (k:=k - 1) (by omega)
   have g4:=R.out.cE2 (k:=k - 1) (by omega)
   have d1:(0:Int)<=k:=by omega
   have d2:(k:Int)<n:=by omega
   have d3:(0:Int)<=(k:Int) - 1:=by omega
   have d4:(1:Int)<=(k:Int):=by omega
   have d5:(k:Int) - 1<n:=by omega
   have d6:((k:Int) - 1).toNat=k - 1:=by omega
   have A1:Hid (l.toArray[k]! = ae l k):=gH l k (by rw [<- HL.out];exact hlt)
   have A2:Hid (l.toArray[k - 1]! = ae l (k - 1)):=gH l (k - 1) (by rw [<- HL.out];omega)
   by_cases hdup:ae l k=ae l (k - 1)
   ·have hq1:th (ae l k) (ae l (k - 1))=true:=by simp [th,hdup]
    have HI0:Hid (CompInv l.toArray (k+1) k l.toArray):=CompInv.start HA.out (keeps_neg (by omega) (by rw [A1.out,A2.out];exact hdup))
    clear hdup
    go_wp2
    go_quiet (fail)
    go_wp2
    clear g1 g2 g3 g4
    obtain⟨wo,hwo⟩:∃ wo:World,wo=wr.drewN nq:=⟨_,rfl⟩
    rw [<- hwo]
    have KD:Hid (wo.ownsRow base 98 2 (.slice q n c) n (aj l)):=by rw [hwo];exact((Ext.refl wr).drewN nq).own OW.out
    have GR:Hid (w.grownBy wo (bi q)):=by rw [hwo];exact fr (HB.out.drewN nq) _
    clear hwo OW R HB
    go_loopw [3,5] (fun i i2 wr=>∃ (kk k2:Nat) (dk:List (Int × Int)),i=.int .i64 kk/\i2=.int .i64 k2/\1<=k2/\k+k2<=n/\CompInv l.toArray (k+k2) kk dk.toArray/\wr.ownsRow base 98 2 (.slice q n c) n (aj dk)/\w.grownBy wr (bi q)) (fun _ i2 _=>n - (intOf i2).toNat)
    case atStart=>exact⟨k,1,l,rfl,rfl,Nat.le_refl _,by omega,HI0.out,KD.out,GR.out⟩
    case round =>
     clear KD GR HI0
     obtain⟨kk,k2,dk,rfl,rfl,h1,hle,hI,OW,GR⟩:=hrel
     have hkk:=hI.lt
     have hds:dk.length=n:=by have:=hI.size;simp at this;rw [this,HL.out]
     have HI:=lh hI;clear hI
     have MG:=lh OW;clear OW
     have Tf:=lh GR;clear GR
     have HD:=lh hds;clear hds
     have R:=lh (Rd.of_own MG.out (by omega))
     have hkle:kk<n:=by omega
     by_cases hlt2:k+k2<n
     ·have RC:Rd wr 2 (bv q c k 2) (n - k) (aj (dk.drop k)):=by
       have:=R.out.cut hk (Nat.le_refl n) hcap
       rwa [lO,List.take_of_length_le (by rw [bS,List.length_drop,HD.out];omega)] at this
      have p5:=RC.ptr
      have QW:=lh RC;clear RC
      have g1:=QW.out.cE (k:=k2) (by omega)
      have g2:=QW.out.cE2 (k:=k2) (by omega)
      have g3:=QW.out.cE (k:=k2 - 1) (by omega)
      have g4:=QW.out.cE2 (k:=k2 - 1) (by omega)
      have s1:=R.out.cE hkle
      have s2:=R.out.cE2 hkle
      have s3:wr.frozen? (be q (kk*2))=false:=by have:=il (by have:=MG.out;rwa [HQ.out] at this) (kk*2);rw [HQ.out,aB,Nat.zero_add];exact this
      have s4:wr.frozen? (be q (kk*2+1))=false:=by have:=il (by have:=MG.out;rwa [HQ.out] at this) (kk*2+1);rw [HQ.out,aB,Nat.zero_add];exact this
      have s5:be q (kk*2)≠be q (kk*2+1):=Aj q (by omega)
      have s6:be q (kk*2+1)≠be q (kk*2):=Aj q (by omega)
      have s7:wr.cell? ⟨(be q (kk*2)).block,(be q (kk*2)).off+1,none⟩=some (.int .i64 (ae dk kk).2):=s2
      have s8:wr.frozen? ⟨(be q (kk*2)).block,(be q (kk*2)).off+1,none⟩=false:=s4
      have s9:be q (kk*2)≠⟨(be q (kk*2)).block,(be q (kk*2)).off+1,none⟩:=s5
      have e1:ae (dk.drop k) k2=ae l (k+k2):=by rw [tR,<- gH dk _ (by rw [HD.out];exact hlt2),HI.out.high _ (by omega),gH l _ (by rw [<- HL.out];exact hlt2)]
      have e2:ae (dk.drop k) (k2 - 1)=ae l (k+k2 - 1):=by rw [tR,show k+(k2 - 1)=k+k2 - 1 from by omega,<- gH dk _ (by rw [HD.out];omega),HI.out.high _ (by omega),gH l _ (by rw [<- HL.out];omega)]
      rw [e1] at g1 g2
      rw [e2] at g3 g4
      have B1:Hid (l.toArray[k+k2]! = ae l (k+k2)):=gH l _ (by rw [<- HL.out];exact hlt2)
      have B2:Hid (l.toArray[k+k2 - 1]! = ae l (k+k2 - 1)):=gH l _ (by rw [<- HL.out];omega)
      clear e1 e2
      have c1:(0:Int)<=k2:=by omega
      have c2:(k2:Int)<(n - k:Nat):=by omega
      have c3:(0:Int)<=(k2:Int) - 1:=by omega
      have c4:(1:Int)<=(k2:Int):=by omega
      have c5:(k2:Int) - 1<(n - k:Nat):=by omega
      have c6:((k2:Int) - 1).toNat=k2 - 1:=by omega
      have c7:k2<n - k:=by omega
      generalize hu:ae l (k+k2)=u at g1 g2 B1
      generalize hv:ae l (k+k2 - 1)=v at g3 g4 B2
      clear hu hv
      by_cases huv:u=v
      ·have hq2:th u v=true:=by simp [th,huv]
       have Ul:=lh huv;clear huv
       go_wp2
       go_quiet (fail)
       go_wp2
       go_roundw
       case rel=>exact⟨kk,k2+1,dk,rfl,by go_num,by omega,by omega,HI.out.skip (keeps_neg (by omega) (by rw [B1.out,B2.out];exact Ul.out)),((Ext.refl wr).drewN _).own MG.out,by have:=gI (g:=g) (by have:=Tf.out;rwa [HQ.out] at this) (fr ((Ext.refl wr).drewN nq) (some g));rw [HQ.out];exact this⟩
       case measure=>simp [intOf];omega
      ·have hq2:th u v=false:=by simp [th,huv]
       have Ul:=lh huv;clear huv
       go_wp2
       go_quiet (fail)
       go_wp2
       have OS:=lh (Bz HQ.out (((Ext.refl wr).drewN nq).own MG.out) hn hkle HD.out u)
       go_roundw
       case rel=>exact⟨kk+1,k2+1,dk.set kk u,by go_num,by go_num,by omega,by omega,by have:=HI.out.keep (by have:=HL.out;simp;omega) (keeps_pos (by rw [B1.out,B2.out];exact Ul.out));rw [B1.out] at this;rw [<- Nat.add_assoc];simpa using this,OS.out.1,by have h1:=gI (g:=g) (by have:=Tf.out;rwa [HQ.out] at this) (fr ((Ext.refl wr).drewN nq) (some g));have h2:=OS.out.2;rw [HQ.out] at h2 ⊢;exact gI h1 h2⟩
       case measure=>simp [intOf];omega
     ·have hend:k+k2=n:=by omega
      obtain⟨W',hcl,hown,hgr⟩:=xX HQ.out MG.out hn hkle HD.out
      have Ql:∀ ty,(Builtin.clear_ #[99] ty #[.slice (Option.map (fun x=>x.add (kk*2)) q) (n - kk) (c - kk)]).run prog wr=.ok (.tuple #[]) W':=fun ty=>by have:=hcl ty;unfold bv at this;rw [if_neg (by omega)] at this;exact this
      have HOW:=lh hown;clear hown
      have Xt:=lh hgr;clear hgr
      have JL:Hid (dk.take kk=aO l/\(aO l).length=kk):=by
       have hI:=HI.out
       rw [hend] at hI
       have e1:compactUpTo l.toArray n=aO l:=by unfold aO;rw [HL.out]
       have e2:=hI.len
       have e3:=hI.low
       rw [e1] at e2 e3
       refine⟨?_,e2⟩
       apply List.ext_getElem?
       intro i
       rw [List.getElem?_take]
       by_cases hi:i<kk
       ·rw [if_pos hi,e3 i hi,getElem!_pos _ i (by simp;rw [HD.out];omega)]
        rw [List.getElem?_eq_getElem (by rw [HD.out];omega)];simp
       ·rw [if_neg hi,List.getElem?_eq_none (by omega)]
      clear hend
      go_wp2
      go_ret
      exact⟨qY JL.out.2.symm,by rw [JL.out.2,<- JL.out.1];exact HOW.out,by have h1:=Tf.out;have h2:=Xt.out;rw [HQ.out] at h1 h2;exact gI h1 h2⟩
   ·have hq1:th (ae l k) (ae l (k - 1))=false:=by simp [th,hdup]
    have HK:=lh (keeps_pos (d:=l.toArray) (m:=k) (by rw [A1.out,A2.out];exact hdup))
    clear hdup
    go_wp2
    go_quiet (fail)
    go_wp2
    go_roundw
    case rel=>exact⟨k+1,by omega,by omega,by go_num,fun j hj=>by
     by_cases e:j=k
     ·subst e;exact HK.out
     ·exact HA.out j (by omega),HB.out.drewN _⟩
    case measure=>simp [intOf];omega
  ·have hkn:k=n:=by omega
   subst hkn
   have HF:=lh (FIN.out HA.out)
   go_wp2
   go_ret
   exact⟨qY (by rw [HF.out];exact HL.out),by rw [HF.out,<- HL.out];exact OW.out,by have:=fr HB.out (some g);exact this⟩
theorem zL (base:Nat) (q:Option Addr) (n c:Nat) (l:List (Int × Int)) (w:World) (ho:w.ownsRow base 98 2 (.slice q n c) n (aj l)) (hn:n<=100000) (hb:base<=w.heap.size) :
  Calls prog 259 #[.slice q n c] w fun e w'=>e=.returned (.slice q (aO l).length c)/\w'.ownsRow base 98 2 (.slice q (aO l).length c) (aO l).length (aj (aO l))/\w.grownBy w' (bi q)/\Below base w w':=by
 have hl:n=l.length:=by have:=ho.1;rw [bS] at this;omega
 by_cases h2:n<2
 ·refine(xq q n c w h2).mono ?_
  rintro e w' ⟨he,rfl⟩
  rw [tb l (by omega),<- hl]
  exact⟨he,ho,World.grownBy.refl _ _,Below.refl _ _⟩
 ·obtain⟨g,hq,hg⟩:=cR ho (by omega)
  subst hq
  exact(xr base g n c l w ho hn h2).mono fun e w' ⟨a,b,d⟩=>⟨a,b,d,Below.grown (Below.refl _ _) d hb (fun k hk=>(ho.lt k hk).1)⟩
end
section
open Go Go.RowKit
structure IL (w:World) (base:Nat) (q:Option Addr) (n c:Nat) (hs:List Hd) (Jz:List (List ByteArray)):Prop where
 hn:hs.length=Jz.length
 row:w.ownsRow base 22 1 (.slice q n c) n (fR hs)
 each:∀ j,j<n->w.ownsRow base 9 1 (.slice (ae hs j).p (ae hs j).n (ae hs j).c) (ae hs j).n (bg (ae Jz j))
section
variable {w w':World} {base:Nat} {q:Option Addr} {n c:Nat} {hs:List Hd} {Jz:List (List ByteArray)}
theorem IL.nil (w:World) (base:Nat):IL w base none 0 0 [] []:=⟨rfl,World.ownsRow_nil _ _ _ _,fun j hj=>by omega⟩
theorem IL.len (h:IL w base q n c hs Jz):n=Jz.length:=by
 have:=h.row.1;rw [nP,h.hn] at this;omega
theorem IL.ext (h:IL w base q n c hs Jz) (he:Ext w w'):IL w' base q n c hs Jz:=⟨h.hn,he.own h.row,fun j hj=>he.own (h.each j hj)⟩
theorem IL.set_ (h:IL w base q n c hs Jz) {g:Nat} {t:TypeId} {cs:Array Value} (hg:Ih w g t cs) (h1:22≠t) (h2:9≠t) (i:Nat) (u:Value):IL (w.setCell ⟨g,i,none⟩ u) base q n c hs Jz :=
 ⟨h.hn,fx h.row hg h1 i u,fun j hj=>fx (h.each j hj) hg h2 i u⟩
theorem bW {α:Type} [Inhabited α] (l m:List α) (j:Nat) (h:j<l.length):ae (l ++ m) j=ae l j:=by
 rw [ar (by simp;omega),ar h,List.getElem_append_left h]
theorem fV {α:Type} [Inhabited α] (l:List α) (x:α):ae (l ++ [x]) l.length=x:=by
 rw [ar (by simp)];simp
theorem IL.push (h:IL w base q n c hs Jz) {p:Option Addr} {m d:Nat} {l:List ByteArray} (hr:w.ownsRow base 9 1 (.slice p m d) m (bg l)) {q':Option Addr} {c':Nat}
  (ho:w'.ownsRow base 22 1 (.slice q' (n+1) c') (n+1) (fR hs ++ [.slice p m d])) (hg:w.grownBy w' (bi q)):IL w' base q' (n+1) c' (hs ++ [⟨p,m,d⟩]) (Jz ++ [l]):=by
 have hl:=h.len
 refine⟨by simp [h.hn],by rw [show fR (hs ++ [⟨p,m,d⟩])=fR hs ++ [.slice p m d] from by simp [fR,Hd.v]];exact ho,fun j hj=>?_⟩
 by_cases hjn:j<n
 ·rw [bW _ _ _ (by rw [h.hn];omega),bW _ _ _ (by omega)]
  exact l8 (h.each j hjn) hg (kn h.row (h.each j hjn) (by decide))
 ·have e1:j=Jz.length:=by omega
  have e2:j=hs.length:=by rw [h.hn];exact e1
  have a1:ae (Jz ++ [l]) j=l:=by rw [e1];exact fV _ _
  have a2:ae (hs ++ [(⟨p,m,d⟩:Hd)]) j=⟨p,m,d⟩:=by rw [e2];exact fV _ _
  rw [a1,a2]
  exact l8 hr hg (kn h.row hr (by decide))
end
end
section
open Go Go.RowKit
attribute [local go_sem ↓] nU m8 jI
theorem A7:(prog.info? 98).map (fun i=>(i.zero,i.size,i.bytes))=some (some (.agg #[.int .i64 0,.int .i64 0]),2,16):=by kernel_rfl
end
section
open Go Go.RowKit Go.Shelf Go.Lib Go.Sort
theorem zI (p:Option Addr) (n c:Nat) (l:List (Int × Int)) (w:World) (hl:Rd w 2 p n (aj l)) (hn:n<=100000) :
  Calls prog 174 #[.slice p n c] w fun e w'=>∃ q c',e=.returned (.slice q n c')/\w'.ownsRow w.heap.size 98 2 (.slice q n c') n (aj l)/\Ext w w':=by
 obtain⟨i0,hi0,hz0,hz1,hz2⟩:=info_parts A7
 have hp:=hl.ptr
 cases p with
 | none =>
  have h0:n=0:=by rcases hp with h | ⟨_,_,h⟩;exact h;cases h
  subst h0
  have hnil:aj l=[]:=List.eq_nil_of_length_eq_zero (by have:=hl.len;simpa using this)
  rw [hnil]
  clear hl hp hnil
  have hr:=fun W=>Lib.run_eql_slice_nil (P:=prog) W 99 98 none 0 c 0 0 underlying99
  go_enter func174,ntmps174
  go_wp2
  go_ret
  exact⟨none,0,rfl,World.ownsRow_nil _ _ _ _,Below.refl _ _⟩
 | some ad =>
  have hr:=fun W=>Lib.run_eql_slice_nil (P:=prog) W 99 98 (some ad) n c 0 0 underlying99
  have HL:=lh hl;clear hl hp
  go_enter func174,ntmps174
  go_wp2_with (at_builtin;refine aM rfl _ _ _ rfl w.heap.size 98 i0 _ 2 16 underlying99 hi0 hz0 hz1 hz2 rfl (by omega) (some ⟨w.heap.size,0,none⟩) 0 0 [] rfl (World.ownsRow_made w #[] 0 (Nat.le_refl _) (by simp [maxLen]) rfl) (some ad) n c (aj l) rfl (HL.out.ext (Ext.alloc (Below.refl _ _) _)) (bu l) (by omega) (by omega) (by simp) ?_;intro q' c' w1 hown hg hat hb)
  go_ret
  simp only [Nat.zero_add,List.nil_append] at hown
  exact⟨q',c',rfl,hown,Below.trans ((Below.refl _ _).alloc (Nat.le_refl _) _) hb⟩
theorem Eb (p:Option Addr) (n c:Nat) (l:List ByteArray) (w:World) (hl:Rd w 1 p n (bg l)) (hn:n<=100000) :
  Calls prog 260 #[.slice p n c] w fun e w'=>∃ q c',e=.returned (.slice q n c')/\w'.ownsRow w.heap.size 9 1 (.slice q n c') n (bg l)/\Ext w w':=by
 obtain⟨i0,hi0,hz0,hz1,hz2⟩:=info_parts He
 have hp:=hl.ptr
 cases p with
 | none =>
  have h0:n=0:=by rcases hp with h | ⟨_,_,h⟩;exact h;cases h
  subst h0
  have hnil:bg l=[]:=List.eq_nil_of_length_eq_zero (by have:=hl.len;simpa using this)
  rw [hnil]
  clear hl hp hnil
  have hr:=fun W=>Lib.run_eql_slice_nil (P:=prog) W 22 9 none 0 c 0 0 underlying22
  go_enter func260,ntmps260
  go_wp2
  go_ret
  exact⟨none,0,rfl,World.ownsRow_nil _ _ _ _,Below.refl _ _⟩
 | some ad =>
  have hr:=fun W=>Lib.run_eql_slice_nil (P:=prog) W 22 9 (some ad) n c 0 0 underlying22
  have HL:=lh hl;clear hl hp
  go_enter func260,ntmps260
  go_wp2_with (at_builtin;refine aM rfl _ _ _ rfl w.heap.size 9 i0 _ 1 16 underlying22 hi0 hz0 hz1 hz2 rfl (by omega) (some ⟨w.heap.size,0,none⟩) 0 0 [] rfl (World.ownsRow_made w #[] 0 (Nat.le_refl _) (by simp [maxLen]) rfl) (some ad) n c (bg l) rfl (HL.out.ext (Ext.alloc (Below.refl _ _) _)) (Bs l) (by omega) (by omega) (by simp) ?_;intro q' c' w1 hown hg hat hb)
  go_ret
  simp only [Nat.zero_add,List.nil_append] at hown
  exact⟨q',c',rfl,hown,Below.trans ((Below.refl _ _).alloc (Nat.le_refl _) _) hb⟩
theorem Fu (p:Option Addr) (n c:Nat) (l:List (Int × Int)) (w:World) (hl:Rd w 2 p n (aj l)) (hn:n<=100000) :
  Calls prog 225 #[.slice p n c,.agg #[.func (.func 223) #[] #[]]] w fun e w'=>∃ q c',e=.returned (.slice q (aO (aE a8 l)).length c')/\w'.ownsRow w.heap.size 98 2 (.slice q (aO (aE a8 l)).length c') (aO (aE a8 l)).length (aj (aO (aE a8 l)))/\Ext w w':=by
 have HL:=lh hl;clear hl
 go_enter func225,ntmps225
 go_wp2_with (first
  | (go_at_call 174;go_must ((refine(zI p n c l _ (HL.out.ext (Ext.alloc (Below.refl _ _) _)) hn).mono ?_;rintro e w1 ⟨q,c1,rfl,oF,hb1⟩;have O1:=lh oF;have B1:=lh hb1;have x0:=Ext.cell hb1 (dP _ _ _ _);clear oF hb1)))
  | (go_at_call 258;have _t:=O1;go_must ((refine(FM _ q n c1 l _ O1.out (Nat.le_trans hn (by omega)) B1.out.size).mono ?_;rintro e w2 ⟨rfl,oF,hgr,hb2⟩;have O2:=lh oF;have B2:=lh hb2;clear oF hgr hb2)))
  | (go_at_call 259;have _t:=O2;go_must ((refine(zL _ q n c1 _ _ O2.out hn (Nat.le_trans B1.out.size B2.out.size)).mono ?_;rintro e w3 ⟨rfl,oF,hgr,hb3⟩;have O3:=lh oF;have B3:=lh hb3;clear oF hgr hb3))))
 go_ret
 refine⟨q,c1,rfl,aP O3.out (by simp),?_⟩
 have h1:=Below.trans (Below.trans B1.out B2.out) B3.out
 exact Below.trans ((Below.refl w.heap.size w).alloc (Nat.le_refl _) _) (h1.mono (by simp))
theorem Fv (p:Option Addr) (n c:Nat) (l:List ByteArray) (w:World) (hl:Rd w 1 p n (bg l)) (hn:n<=100000) :
  Calls prog 226 #[.slice p n c,.agg #[.func (.func 220) #[] #[]]] w fun e w'=>∃ q c',e=.returned (.slice q (aO (aE a9 l)).length c')/\w'.ownsRow w.heap.size 9 1 (.slice q (aO (aE a9 l)).length c') (aO (aE a9 l)).length (bg (aO (aE a9 l)))/\Ext w w':=by
 have HL:=lh hl;clear hl
 go_enter func226,ntmps226
 go_wp2_with (first
  | (go_at_call 260;go_must ((refine(Eb p n c l _ (HL.out.ext (Ext.alloc (Below.refl _ _) _)) hn).mono ?_;rintro e w1 ⟨q,c1,rfl,oF,hb1⟩;have O1:=lh oF;have B1:=lh hb1;have x0:=Ext.cell hb1 (dP _ _ _ _);clear oF hb1)))
  | (go_at_call 261;have _t:=O1;go_must ((refine(FQ _ q n c1 l _ O1.out (Nat.le_trans hn (by omega)) B1.out.size).mono ?_;rintro e w2 ⟨rfl,oF,hgr,hb2⟩;have O2:=lh oF;have B2:=lh hb2;clear oF hgr hb2)))
  | (go_at_call 262;have _t:=O2;go_must ((refine(xv _ q n c1 _ _ O2.out (Nat.le_trans hn (by omega)) (Nat.le_trans B1.out.size B2.out.size)).mono ?_;rintro e w3 ⟨rfl,oF,hgr,hb3⟩;have O3:=lh oF;have B3:=lh hb3;clear oF hgr hb3))))
 go_ret
 refine⟨q,c1,rfl,aP O3.out (by simp),?_⟩
 have h1:=Below.trans (Below.trans B1.out B2.out) B3.out
 exact Below.trans ((Below.refl w.heap.size w).alloc (Nat.le_refl _) _) (h1.mono (by simp))
theorem zP (w:World):Calls prog 172 #[] w fun e w'=>e=.returned (.agg #[.func (.func 223) #[] #[]])/\Ext w w':=by
 go_enter func172,ntmps172
 go_wp2
 exact bodyPost_ret (v:=.agg #[.func (.func 223) #[] #[]]) (by simp [results,results172,go_sem,sizeOf233,isAgg233]) rfl ⟨rfl,(Below.refl _ _).alloc (Nat.le_refl _) _⟩
theorem Ai (w:World):Calls prog 169 #[] w fun e w'=>e=.returned (.agg #[.func (.func 220) #[] #[]])/\Ext w w':=by
 go_enter func169,ntmps169
 go_wp2
 exact bodyPost_ret (v:=.agg #[.func (.func 220) #[] #[]]) (by simp [results,results169,go_sem,sizeOf227,isAgg227]) rfl ⟨rfl,(Below.refl _ _).alloc (Nat.le_refl _) _⟩
end
section
open Go Go.RowKit Go.Maps
abbrev Po:=ByteArray × List Int
structure IW (w:World) (p:Option Addr) (n:Nat) (hs:List Hd) (L:List Po):Prop where
 hn:n=L.length
 ptr:Od p n
 small:n<=9223372036854775807
 c1:∀ k,k<n->w.cell? (be p (k*2))=some (.string (ae L k).1)
 c2:∀ k,k<n->w.cell? (be p (k*2+1))=some (.slice (ae hs k).p (ae hs k).n (ae hs k).c)
 each:∀ k,k<n->Rd w 1 (ae hs k).p (ae hs k).n (ab (ae L k).2)
theorem IW.ext {w w':World} {p:Option Addr} {n:Nat} {hs:List Hd} {L:List Po} (h:IW w p n hs L) (he:Ext w w'):IW w' p n hs L :=
 ⟨h.hn,h.ptr,h.small,fun k hk=>he.cell (h.c1 k hk),fun k hk=>he.cell (h.c2 k hk),fun k hk=>(h.each k hk).ext he⟩
def Io (L:List Po):Prop:=∀ p∈L,p.2.length<=1000/\∀ x∈p.2,Ii x
theorem Io.at {L:List Po} (h:Io L) {k:Nat} (hk:k<L.length):(ae L k).2.length<=1000/\∀ x∈(ae L k).2,Ii x:=h _ (by rw [ar hk];exact List.getElem_mem _)
def aW:List Po->ByteArray->List Int
 | [],_=>[]
 | p :: L,s=>if p.1=s then p.2 else aW L s
theorem nV {L:List Po} {s:ByteArray}:∀ (k:Nat),(∀ j,j<k->(ae L j).1≠s)->k<=L.length->aW L s=aW (L.drop k) s:=by
 induction L with
 | nil=>intro k _ _;simp
 | cons p L ih =>
  intro k h hk
  cases k with
  | zero=>rfl
  | succ k =>
   have h0:p.1≠s:=h 0 (by omega)
   rw [List.drop_succ_cons,aW,if_neg h0]
   exact ih k (fun j hj=>h (j+1) (by omega)) (by simpa using hk)
theorem ti {L:List Po} {s:ByteArray} {k:Nat} (h:∀ j,j<k->(ae L j).1≠s) (hk:k<L.length) (he:(ae L k).1=s):aW L s=(ae L k).2:=by
 rw [nV k h (by omega),kH L k hk,aW,if_pos he]
theorem tj {L:List Po} {s:ByteArray} {k:Nat} (h:∀ j,j<k->(ae L j).1≠s) (hk:¬ k<L.length) (hk2:k<=L.length):aW L s=[]:=by
 rw [nV k h hk2,List.drop_of_length_le (by omega),aW]
theorem kK {L:List Po} (h:Io L) (s:ByteArray):(aW L s).length<=1000/\∀ x∈aW L s,Ii x:=by
 induction L with
 | nil=>exact⟨by simp [aW],fun x hx=>by cases hx⟩
 | cons p L ih =>
  unfold aW
  split
  ·exact h p (by simp)
  ·exact ih fun q hq=>h q (by simp [hq])
theorem Ic.of_own {w w':World} {e:TypeId} {size:Nat} {q:Option Addr} {n c:Nat} {xs:List Value} (he:Ext w w') (ho:w'.ownsRow w.heap.size e size (.slice q n c) n xs):Ic w w' [.own e size q n c xs] :=
 (Ic.start w).fresh he ho (Nat.le_refl _)
theorem zJ (p:Option Addr) (n c:Nat) (l:List Int) (w:World) (hl:Rd w 1 p n (ab l)) (hn:n<=100000) :
  Calls prog 267 #[.slice p n c] w fun e w'=>∃ q c',e=.returned (.slice q n c')/\Ic w w' [.own 3 1 q n c' (ab l)]:=by
 obtain⟨i0,hi0,hz0,hz1,hz2⟩:=info_parts kg
 have hp:=hl.ptr
 cases p with
 | none =>
  have h0:n=0:=by rcases hp with h | ⟨_,_,h⟩;exact h;cases h
  subst h0
  have hnil:ab l=[]:=List.eq_nil_of_length_eq_zero (by have:=hl.len;simpa using this)
  rw [hnil]
  clear hl hp hnil
  have hr:=fun W=>Lib.run_eql_slice_nil (P:=prog) W 25 3 none 0 c 0 0 underlying25
  go_enter func267,ntmps267
  go_wp2
  go_ret
  exact⟨none,0,rfl,(Ic.start w).nilrow _ _⟩
 | some ad =>
  have hr:=fun W=>Lib.run_eql_slice_nil (P:=prog) W 25 3 (some ad) n c 0 0 underlying25
  have HL:=lh hl;clear hl hp
  go_enter func267,ntmps267
  go_wp2_with (at_builtin;refine aM rfl _ _ _ rfl w.heap.size 3 i0 _ 1 8 underlying25 hi0 hz0 hz1 hz2 rfl (by omega) (some ⟨w.heap.size,0,none⟩) 0 0 [] rfl (World.ownsRow_made w #[] 0 (Nat.le_refl _) (by simp [maxLen]) rfl) (some ad) n c (ab l) rfl (HL.out.ext (Ext.alloc (Below.refl _ _) _)) (bN l) (by omega) (by omega) (by simp) ?_;intro q' c' w1 hown hg hat hb)
  go_ret
  simp only [Nat.zero_add,List.nil_append] at hown
  exact⟨q',c',rfl,Ic.of_own (Below.trans ((Below.refl _ _).alloc (Nat.le_refl _) _) hb) hown⟩
theorem Aa (p:Option Addr) (n c:Nat) (l:List Int) (w:World) (hl:Rd w 1 p n (ab l)) (hn:n<=1000000) :
  Calls prog 35 #[.slice p n c] w fun e w'=>∃ q c',e=.returned (.slice q n c')/\Ic w w' [.own 3 1 q n c' (ab l)]:=by
 obtain⟨i0,hi0,hz0,hz1,hz2⟩:=info_parts kg
 have HL:=lh hl;clear hl
 have S0:=lh ((Ic.start w).nilrow 3 1)
 go_enter func35,ntmps35
 go_wp2_with (at_builtin;go_must (refine am rfl _ _ _ rfl 3 i0 _ 1 8 underlying25 hi0 hz0 hz1 hz2 rfl (by omega) S0.out 0 none 0 0 [] rfl rfl p n c (ab l) rfl HL.out (bN l) (by omega) (by omega) ?_;intro q' c' w1 S1 hsz;have S2:=lh S1;clear S1 hsz))
 go_ret
 exact⟨q',c',rfl,by have:=S2.out;rw [Nat.zero_add,List.nil_append] at this;exact this⟩
theorem Du (p:Option Addr) (n c:Nat) (hs:List Hd) (L:List Po) (s:ByteArray) (w:World) (hL:IW w p n hs L) (hok:Io L) :
  Calls prog 232 #[.slice p n c,.string s] w fun e w'=>∃ q c,e=.returned (.slice q (aW L s).length c)/\Ic w w' [.own 3 1 q (aW L s).length c (ab (aW L s))]:=by
 have p1:=hL.ptr
 have n1:=hL.small
 have l1:=hL.hn
 have HL:=lh hL;clear hL
 have L1:=lh l1;clear l1
 have Iq:=lh hok;clear hok
 go_enter func232,ntmps232
 go_wp2
 go_loopw [6,9] (fun _ i wr=>∃ k:Nat,k<=n/\i=.int .i64 k/\(∀ j,j<k->(ae L j).1≠s)/\Ic w wr []) (fun _ i _=>n - (intOf i).toNat)
 case atStart=>exact⟨0,Nat.zero_le _,rfl,fun j hj=>by omega,Ic.start w⟩
 case round =>
  obtain⟨k,hk,rfl,ha,S⟩:=hrel
  have HA:=lh ha;clear ha
  by_cases hlt:k<n
  ·have g1:=S.ext.cell (HL.out.c1 k hlt)
   have g2:=S.ext.cell (HL.out.c2 k hlt)
   have RE:=lh ((HL.out.each k hlt).ext S.ext)
   have SH:=lh S;clear S
   have d1:(0:Int)<=k:=by omega
   have d2:(k:Int)<n:=by omega
   have hb0:=lh (nh (ae L k).1 s)
   have hlen:(ae hs k).n<=1000:=by rw [RE.out.nI];exact(Iq.out.at (by rw [<- L1.out];exact hlt)).1
   by_cases he:(ae L k).1=s
   ·have hq2:((ae L k).1.toList == s.toList)=true:=by rw [hb0.out];simp [he]
    have HF:=lh (ti HA.out (by rw [<- L1.out];exact hlt) he)
    clear he
    go_wp2_with (go_at_call 267;go_must (refine(zJ _ _ _ _ _ (RE.out.ext (Ext.alloc (Below.refl _ _) _)) (by omega)).mono ?_;rintro e w2 ⟨q,c',rfl,S1⟩;have S2:=lh ((SH.out.junk _).comp S1);clear S1))
    go_ret
    rw [HF.out]
    have h3:=RE.out.nI
    exact⟨q,c',eO h3,by rw [<- h3];exact S2.out⟩
   ·have hq2:((ae L k).1.toList == s.toList)=false:=by rw [hb0.out];simp [he]
    have HE:=lh he;clear he
    go_wp2
    go_roundw
    case rel=>exact⟨k+1,by omega,by go_num,fun j hj=>by
     rcases Nat.lt_succ_iff_lt_or_eq.1 hj with h | h
     ·exact HA.out j h
     ·subst h;exact HE.out,SH.out.junk _⟩
    case measure=>simp [intOf];omega
  ·have HF:=lh (tj HA.out (by rw [<- L1.out];exact hlt) (by rw [<- L1.out];exact hk))
   have SH:=lh S;clear S
   go_wp2
   go_ret
   rw [HF.out]
   exact⟨none,0,rfl,SH.out.nilrow _ _⟩
theorem zQ (p:Option Addr) (n c:Nat) (hs:List Hd) (L:List Po) (s:ByteArray) (w:World) (hL:IW w p n hs L) (hok:Io L) :
  Calls prog 194 #[.slice p n c,.string s] w fun e w'=>∃ q c,e=.returned (.slice q (aW L s).length c)/\Ic w w' [.own 3 1 q (aW L s).length c (ab (aW L s))]:=by
 have p1:=hL.ptr
 have n1:=hL.small
 have l1:=hL.hn
 have HL:=lh hL;clear hL
 have L1:=lh l1;clear l1
 have Iq:=lh hok;clear hok
 go_enter func194,ntmps194
 go_wp2
 go_loopw [5] (fun i wr=>∃ k:Nat,k<=n/\i=.int .i64 k/\(∀ j,j<k->(ae L j).1≠s)/\Ic w wr []) (fun i _=>n - (intOf i).toNat)
 case atStart=>exact⟨0,Nat.zero_le _,rfl,fun j hj=>by omega,Ic.start w⟩
 case round =>
  obtain⟨k,hk,rfl,ha,S⟩:=hrel
  have HA:=lh ha;clear ha
  by_cases hlt:k<n
  ·have g1:=S.ext.cell (HL.out.c1 k hlt)
   have g2:=S.ext.cell (HL.out.c2 k hlt)
   have RE:=lh ((HL.out.each k hlt).ext S.ext)
   have SH:=lh S;clear S
   have d1:(0:Int)<=k:=by omega
   have d2:(k:Int)<n:=by omega
   have hb0:=lh (nh (ae L k).1 s)
   have hlen:(ae hs k).n<=1000:=by rw [RE.out.nI];exact(Iq.out.at (by rw [<- L1.out];exact hlt)).1
   by_cases he:(ae L k).1=s
   ·have hq2:((ae L k).1.toList == s.toList)=true:=by rw [hb0.out];simp [he]
    have HF:=lh (ti HA.out (by rw [<- L1.out];exact hlt) he)
    clear he
    go_wp2_with (go_at_call 35;go_must (refine(Aa _ _ _ _ _ RE.out (by omega)).mono ?_;rintro e w2 ⟨q,c',rfl,S1⟩;have S2:=lh (SH.out.comp S1);clear S1))
    go_ret
    rw [HF.out]
    have h3:=RE.out.nI
    exact⟨q,c',eO h3,by rw [<- h3];exact S2.out⟩
   ·have hq2:((ae L k).1.toList == s.toList)=false:=by rw [hb0.out];simp [he]
    have HE:=lh he;clear he
    go_wp2
    go_roundw
    case rel=>exact⟨k+1,by omega,by go_num,fun j hj=>by
     rcases Nat.lt_succ_iff_lt_or_eq.1 hj with h | h
     ·exact HA.out j h
     ·subst h;exact HE.out,SH.out⟩
    case measure=>simp [intOf];omega
  ·have HF:=lh (tj HA.out (by rw [<- L1.out];exact hlt) (by rw [<- L1.out];exact hk))
   have SH:=lh S;clear S
   go_wp2
   go_ret
   rw [HF.out]
   exact⟨none,0,rfl,SH.out.nilrow _ _⟩
end
section
open Go Go.RowKit Go.Maps
def l7 (n:Int) (l:List Int) (i:Nat):Bool:=decide (0<=ae l i) && decide (ae l i<n) && (decide (i=0) || decide (ae l (i - 1)<ae l i))
end
theorem DK:(prog.info? 22).map (fun i=>(i.zero,i.size,i.bytes))=some (some (.slice none 0 0),1,24):=by kernel_rfl
def bd (x:Int × Int):Int × Int:=(x.2,x.1)
theorem BK {α:Type} [Inhabited α] {lt:α->α->Bool} (h:I5 lt) (l:List α):dy lt l=true↔bM lt l:=by
 constructor
 ·intro hr
  unfold dy at hr
  rw [List.all_eq_true] at hr
  have step:∀ i,i+1<l.length->lt (ae l i) (ae l (i+1))=true:=fun i hi=>hr i (List.mem_range.2 (by omega))
  have key:∀ d i,i+d+1<l.length->lt (ae l i) (ae l (i+d+1))=true:=by
   intro d
   induction d with
   | zero=>intro i hi;exact step i hi
   | succ d ih=>intro i hi;exact h.trans _ _ _ (ih i (by omega)) (step (i+d+1) (by omega))
  unfold bM
  rw [List.pairwise_iff_getElem]
  intro i j hi hj hij
  have:=key (j - i - 1) i (by omega)
  rw [show i+(j - i - 1)+1=j from by omega,ar hi,ar hj] at this
  exact this
 ·intro hr
  unfold dy
  rw [List.all_eq_true]
  intro i hi
  have hi2:=List.mem_range.1 hi
  unfold bM at hr
  rw [List.pairwise_iff_getElem] at hr
  unfold js
  rw [ar (by omega),ar (by omega)]
  exact hr i (i+1) (by omega) (by omega) (by omega)
theorem mr (N:Int) (x:Int × Int):cO N (bd x)=cO N x:=by
 unfold cO bd
 rw [Bool.eq_iff_iff];simp;omega
theorem ve {N:Int} {E:List (Int × Int)} {W:List (List ByteArray)}:bs N (E.map bd) W=bs N E W:=by
 have:(E.map bd).all (cO N)=E.all (cO N):=by
  rw [Bool.eq_iff_iff,List.all_eq_true,List.all_eq_true]
  constructor
  ·intro h x hx;rw [<- mr];exact h _ (List.mem_map_of_mem hx)
  ·intro h x hx;obtain⟨y,hy,rfl⟩:=List.mem_map.1 hx;rw [mr];exact h y hy
 unfold bs
 rw [this,List.length_map]
theorem gQ (x:Int × Int):bd (bd x)=x:=rfl
theorem Db {N:Int} {E A:List (Int × Int)} {W V:List (List ByteArray)} (hc:bs N E W=true) (hA:bk a8 E=A) (hV:W.map (bk a9)=V):mC N E W=N/\mB N E W=A/\mD N E W=V/\oC N E W=0:=by
 unfold mC mB mD oC
 rw [hc,hA,hV]
 exact⟨rfl,rfl,rfl,rfl⟩
end Go.Proofs.YtfjhjennfiihhaaGreat
