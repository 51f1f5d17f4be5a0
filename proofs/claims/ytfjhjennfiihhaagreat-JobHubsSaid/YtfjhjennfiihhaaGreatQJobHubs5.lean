/- Texts of this claim, one behind the other: LoopL, PlainOrn, Lv7d, RngM2, Lv7m, KeepM, FixA, Stp19, Pq6, Pq6b, PlainBfs, PlainEnd, PlainNx, PlainGo, StR19, Pg5, Bs9, MapT, Make5, Ex5, PlainP, LPTells, Pg6, Pg7, PlainSeen, PlainAsk, Dm18, HeldIn, RngD, KpN, Jst20, Chk20, HeldR, FrmR. -/
import Derived.Test.YtfjhjennfiihhaaGreatQJobHubs4
set_option maxRecDepth 100000
set_option maxHeartbeats 16000000
namespace Go.Proofs.YtfjhjennfiihhaaGreat
section
open Go Go.RowKit
theorem loopStep {P:Program} {Q:Exit→Act→World→Prop} {w:World} {c:Code} (x0 x1 x2 x3 x4 x5 x6 x7 x8 x9 x10 x11 x12 x13 x14 x15 x16 x17 x19 x20 x21 x22 x23 x29 x30 x31 x32 x33 x34 x35 x36 x37 x38 x39 x40 x41 x42 x43 x44 x45 x46 x47 x48 x49 x50 x51 x52 x53 x54 x55 x56 x57 x58 x59 x60 x61 x62 x63 x64 x65 x66 x67 x68 x69 x70 x71 x72 x73 x74 x75 x76 x111 x112 x113 x114 x115 x116 x117 x118 x119:Value) (y18 y24 y25 y26 y27 y28 y77 y78 y79 y80 y81 y82 y83 y84 y85 y86 y87 y88 y89 y90 y91 y92 y93 y94 y95 y96 y97 y98 y99 y100 y101 y102 y103 y104 y105 y106 y107 y108 y109 y110:Value) (ds0:List Deferred)
  (R:Nat→Value→Value→List Deferred→World→Prop) (n0:Nat) (h0:R n0 y18 y77 ds0 w)
  (round:∀ (n:Nat) (u18 u24 u25 u26 u27 u28 u77 u78 u79 u80 u81 u82 u83 u84 u85 u86 u87 u88 u89 u90 u91 u92 u93 u94 u95 u96 u97 u98 u99 u100 u101 u102 u103 u104 u105 u106 u107 u108 u109 u110:Value) (ds:List Deferred) (wr:World),R n u18 u77 ds wr→∀ K:Act→World→Prop,(∀ (n':Nat) (u18' u24' u25' u26' u27' u28' u77' u78' u79' u80' u81' u82' u83' u84' u85' u86' u87' u88' u89' u90' u91' u92' u93' u94' u95' u96' u97' u98' u99' u100' u101' u102' u103' u104' u105' u106' u107' u108' u109' u110':Value) (ds':List Deferred) (w':World),n'<n→R n' u18' u77' ds' w'→K { tmps:=#[x0,x1,x2,x3,x4,x5,x6,x7,x8,x9,x10,x11,x12,x13,x14,x15,x16,x17,u18',x19,x20,x21,x22,x23,u24',u25',u26',u27',u28',x29,x30,x31,x32,x33,x34,x35,x36,x37,x38,x39,x40,x41,x42,x43,x44,x45,x46,x47,x48,x49,x50,x51,x52,x53,x54,x55,x56,x57,x58,x59,x60,x61,x62,x63,x64,x65,x66,x67,x68,x69,x70,x71,x72,x73,x74,x75,x76,u77',u78',u79',u80',u81',u82',u83',u84',u85',u86',u87',u88',u89',u90',u91',u92',u93',u94',u95',u96',u97',u98',u99',u100',u101',u102',u103',u104',u105',u106',u107',u108',u109',u110',x111,x112,x113,x114,x115,x116,x117,x118,x119],defers:=ds' } w') →
   c.wp P (Exit.then K Q) { tmps:=#[x0,x1,x2,x3,x4,x5,x6,x7,x8,x9,x10,x11,x12,x13,x14,x15,x16,x17,u18,x19,x20,x21,x22,x23,u24,u25,u26,u27,u28,x29,x30,x31,x32,x33,x34,x35,x36,x37,x38,x39,x40,x41,x42,x43,x44,x45,x46,x47,x48,x49,x50,x51,x52,x53,x54,x55,x56,x57,x58,x59,x60,x61,x62,x63,x64,x65,x66,x67,x68,x69,x70,x71,x72,x73,x74,x75,x76,u77,u78,u79,u80,u81,u82,u83,u84,u85,u86,u87,u88,u89,u90,u91,u92,u93,u94,u95,u96,u97,u98,u99,u100,u101,u102,u103,u104,u105,u106,u107,u108,u109,u110,x111,x112,x113,x114,x115,x116,x117,x118,x119],defers:=ds } wr):(Code.loop c).wp P Q { tmps:=#[x0,x1,x2,x3,x4,x5,x6,x7,x8,x9,x10,x11,x12,x13,x14,x15,x16,x17,y18,x19,x20,x21,x22,x23,y24,y25,y26,y27,y28,x29,x30,x31,x32,x33,x34,x35,x36,x37,x38,x39,x40,x41,x42,x43,x44,x45,x46,x47,x48,x49,x50,x51,x52,x53,x54,x55,x56,x57,x58,x59,x60,x61,x62,x63,x64,x65,x66,x67,x68,x69,x70,x71,x72,x73,x74,x75,x76,y77,y78,y79,y80,y81,y82,y83,y84,y85,y86,y87,y88,y89,y90,y91,y92,y93,y94,y95,y96,y97,y98,y99,y100,y101,y102,y103,y104,y105,y106,y107,y108,y109,y110,x111,x112,x113,x114,x115,x116,x117,x118,x119],defers:=ds0 } w:=by
 refine wp_loop_ghost_k (fun n a w=>∃ u18 u24 u25 u26 u27 u28 u77 u78 u79 u80 u81 u82 u83 u84 u85 u86 u87 u88 u89 u90 u91 u92 u93 u94 u95 u96 u97 u98 u99 u100 u101 u102 u103 u104 u105 u106 u107 u108 u109 u110 ds,R n u18 u77 ds w∧a={ tmps:=#[x0,x1,x2,x3,x4,x5,x6,x7,x8,x9,x10,x11,x12,x13,x14,x15,x16,x17,u18,x19,x20,x21,x22,x23,u24,u25,u26,u27,u28,x29,x30,x31,x32,x33,x34,x35,x36,x37,x38,x39,x40,x41,x42,x43,x44,x45,x46,x47,x48,x49,x50,x51,x52,x53,x54,x55,x56,x57,x58,x59,x60,x61,x62,x63,x64,x65,x66,x67,x68,x69,x70,x71,x72,x73,x74,x75,x76,u77,u78,u79,u80,u81,u82,u83,u84,u85,u86,u87,u88,u89,u90,u91,u92,u93,u94,u95,u96,u97,u98,u99,u100,u101,u102,u103,u104,u105,u106,u107,u108,u109,u110,x111,x112,x113,x114,x115,x116,x117,x118,x119],defers:=ds }) n0 ⟨y18,y24,y25,y26,y27,y28,y77,y78,y79,y80,y81,y82,y83,y84,y85,y86,y87,y88,y89,y90,y91,y92,y93,y94,y95,y96,y97,y98,y99,y100,y101,y102,y103,y104,y105,y106,y107,y108,y109,y110,ds0,h0,rfl⟩ ?_
 rintro n a wr ⟨u18,u24,u25,u26,u27,u28,u77,u78,u79,u80,u81,u82,u83,u84,u85,u86,u87,u88,u89,u90,u91,u92,u93,u94,u95,u96,u97,u98,u99,u100,u101,u102,u103,u104,u105,u106,u107,u108,u109,u110,ds,hR,rfl⟩ J K hJ hK
 exact round n u18 u24 u25 u26 u27 u28 u77 u78 u79 u80 u81 u82 u83 u84 u85 u86 u87 u88 u89 u90 u91 u92 u93 u94 u95 u96 u97 u98 u99 u100 u101 u102 u103 u104 u105 u106 u107 u108 u109 u110 ds wr hR K fun n' u18' u24' u25' u26' u27' u28' u77' u78' u79' u80' u81' u82' u83' u84' u85' u86' u87' u88' u89' u90' u91' u92' u93' u94' u95' u96' u97' u98' u99' u100' u101' u102' u103' u104' u105' u106' u107' u108' u109' u110' ds' w' hlt hR'=>hK _ _ ⟨n',hlt,hJ _ _ _ ⟨u18',u24',u25',u26',u27',u28',u77',u78',u79',u80',u81',u82',u83',u84',u85',u86',u87',u88',u89',u90',u91',u92',u93',u94',u95',u96',u97',u98',u99',u100',u101',u102',u103',u104',u105',u106',u107',u108',u109',u110',ds',hR',rfl⟩⟩
def frStep (a21 a22 a27 a28:Value) (b:Act):Prop:=∃ u0 u1 u2 u3 u4 u5 u6 u7 u8 u9 u10 u11 u12 u13 u14 u15 u16 u17 u18 u19 u20 u23 u24 u25 u26 u29 u30 u31 u32 u33 u34 u35 u36 u37 u38 u39 u40 u41 u42 u43 u44 u45 u46 u47 u48 u49 u50 u51 u52 u53 u54 u55 u56 u57 u58 u59 u60 u61 u62 u63 u64 u65 u66 u67 u68 u69 u70 u71 u72 u73 u74 u75 u76 u77 u78 u79 u80 u81 u82 u83 u84 u85 u86 u87 u88 u89 u90 u91 u92 u93 u94 u95 u96 u97 u98 u99 u100 u101 u102 u103 u104 u105 u106 u107 u108 u109 u110 u111 u112 u113 u114 u115 u116 u117 u118 u119:Value,b={ tmps:=#[u0,u1,u2,u3,u4,u5,u6,u7,u8,u9,u10,u11,u12,u13,u14,u15,u16,u17,u18,u19,u20,a21,a22,u23,u24,u25,u26,a27,a28,u29,u30,u31,u32,u33,u34,u35,u36,u37,u38,u39,u40,u41,u42,u43,u44,u45,u46,u47,u48,u49,u50,u51,u52,u53,u54,u55,u56,u57,u58,u59,u60,u61,u62,u63,u64,u65,u66,u67,u68,u69,u70,u71,u72,u73,u74,u75,u76,u77,u78,u79,u80,u81,u82,u83,u84,u85,u86,u87,u88,u89,u90,u91,u92,u93,u94,u95,u96,u97,u98,u99,u100,u101,u102,u103,u104,u105,u106,u107,u108,u109,u110,u111,u112,u113,u114,u115,u116,u117,u118,u119],defers:=[] }
theorem frStep_of {a21 a22 a27 a28 u0 u1 u2 u3 u4 u5 u6 u7 u8 u9 u10 u11 u12 u13 u14 u15 u16 u17 u18 u19 u20 u23 u24 u25 u26 u29 u30 u31 u32 u33 u34 u35 u36 u37 u38 u39 u40 u41 u42 u43 u44 u45 u46 u47 u48 u49 u50 u51 u52 u53 u54 u55 u56 u57 u58 u59 u60 u61 u62 u63 u64 u65 u66 u67 u68 u69 u70 u71 u72 u73 u74 u75 u76 u77 u78 u79 u80 u81 u82 u83 u84 u85 u86 u87 u88 u89 u90 u91 u92 u93 u94 u95 u96 u97 u98 u99 u100 u101 u102 u103 u104 u105 u106 u107 u108 u109 u110 u111 u112 u113 u114 u115 u116 u117 u118 u119:Value}:frStep a21 a22 a27 a28 { tmps:=#[u0,u1,u2,u3,u4,u5,u6,u7,u8,u9,u10,u11,u12,u13,u14,u15,u16,u17,u18,u19,u20,a21,a22,u23,u24,u25,u26,a27,a28,u29,u30,u31,u32,u33,u34,u35,u36,u37,u38,u39,u40,u41,u42,u43,u44,u45,u46,u47,u48,u49,u50,u51,u52,u53,u54,u55,u56,u57,u58,u59,u60,u61,u62,u63,u64,u65,u66,u67,u68,u69,u70,u71,u72,u73,u74,u75,u76,u77,u78,u79,u80,u81,u82,u83,u84,u85,u86,u87,u88,u89,u90,u91,u92,u93,u94,u95,u96,u97,u98,u99,u100,u101,u102,u103,u104,u105,u106,u107,u108,u109,u110,u111,u112,u113,u114,u115,u116,u117,u118,u119],defers:=[] }:=⟨u0,u1,u2,u3,u4,u5,u6,u7,u8,u9,u10,u11,u12,u13,u14,u15,u16,u17,u18,u19,u20,u23,u24,u25,u26,u29,u30,u31,u32,u33,u34,u35,u36,u37,u38,u39,u40,u41,u42,u43,u44,u45,u46,u47,u48,u49,u50,u51,u52,u53,u54,u55,u56,u57,u58,u59,u60,u61,u62,u63,u64,u65,u66,u67,u68,u69,u70,u71,u72,u73,u74,u75,u76,u77,u78,u79,u80,u81,u82,u83,u84,u85,u86,u87,u88,u89,u90,u91,u92,u93,u94,u95,u96,u97,u98,u99,u100,u101,u102,u103,u104,u105,u106,u107,u108,u109,u110,u111,u112,u113,u114,u115,u116,u117,u118,u119,rfl⟩
end
section
open Go Go.RowKit
theorem ordw_len {ord:List Int} {w:Nat} (h:ord.Perm ((List.range w).map fun v:Nat=>(v:Int))):ord.length=w:=by rw [h.length_eq];simp
theorem ordw_nodup {ord:List Int} {w:Nat} (h:ord.Perm ((List.range w).map fun v:Nat=>(v:Int))):(ord.map Int.toNat).Perm (List.range w):=by
 have:=h.map Int.toNat
 rw [List.map_map] at this
 have e:(Int.toNat ∘ fun v:Nat=>(v:Int))=id:=by funext v;simp
 rw [e,List.map_id] at this
 exact this
theorem ordw_at {ord:List Int} {w j:Nat} (h:ord.Perm ((List.range w).map fun v:Nat=>(v:Int))) (hj:j<w) :
  ∃ k:Nat,nth ord j=(k:Int)∧k<w∧k ∉ (ord.take j).map Int.toNat∧(ord.take (j+1)).map Int.toNat=(ord.take j).map Int.toNat ++ [k]:=by
 have hl:=ordw_len h
 have hjl:j<ord.length:=by omega
 have hm:nth ord j∈ord:=by rw [nth_eq hjl];exact List.getElem_mem _
 obtain⟨k,hk,he⟩:=List.mem_map.1 (h.mem_iff.1 hm)
 have he:(k:Int)=nth ord j:=he
 have hn:=(ordw_nodup h).nodup_iff.2 List.nodup_range
 have e:(ord.take (j+1)).map Int.toNat=(ord.take j).map Int.toNat ++ [k]:=by
  rw [take_succ_nth ord j hjl,List.map_append,← he];rfl
 refine⟨k,he.symm,List.mem_range.1 hk,fun hin=>?_,e⟩
 have hd:((ord.take (j+1)).map Int.toNat).Nodup:=by
  rw [List.map_take];exact hn.sublist (List.take_sublist _ _)
 rw [e,List.nodup_append] at hd
 exact hd.2.2 _ hin _ (List.mem_singleton.2 rfl) rfl
theorem ordw_all {ord:List Int} {w:Nat} (h:ord.Perm ((List.range w).map fun v:Nat=>(v:Int))):((ord.take w).map Int.toNat).Perm (List.range w):=by
 rw [List.take_of_length_le (by rw [ordw_len h];exact Nat.le_refl _)]
 exact ordw_nodup h
end
section
open Go Go.RowKit Go.Shelf Go.Lib
attribute [local go_sem] Oper.semAt_some
theorem cell_eq {W W':World} {p:Addr} (h:W'.heap[p.block]?=W.heap[p.block]?):W'.cell? p=W.cell? p:=by unfold World.cell?;rw [h]
end
section
open Go Go.RowKit
structure Cur (gs:Nat) (t:TypeId) (W Z:World) (xs:List Value):Prop where
 size:Z.heap.size=W.heap.size
 chg:Chg (fun k=>k=gs) W Z
 blk:Blk Z gs t xs.toArray
 lt:gs<W.heap.size
theorem Cur.start {gs:Nat} {t:TypeId} {W:World} {xs:List Value} (h:Blk W gs t xs.toArray):Cur gs t W W xs:=⟨rfl,Chg.refl _ _,h,h.lt⟩
theorem Cur.set {gs a:Nat} {t:TypeId} {W Z:World} {xs:List Value} (h:Cur gs t W Z xs) (u:Value):Cur gs t W (Z.setCell ⟨gs,a,none⟩ u) (xs.set a u) :=
 ⟨by simpa using h.size,⟨h.chg.os,h.chg.tape,h.chg.output,by simpa using h.chg.size,fun k hk hne=>by
  rw [Below.heap_setCell Z ⟨gs,a,none⟩ u k hne];exact h.chg.block k hk hne⟩,by
  have:=h.blk.set_ a u
  simpa using this,h.lt⟩
theorem Cur.out {gs:Nat} {t:TypeId} {W Z wx:World} {xs:List Value} (h:Cur gs t W Z xs) (he:Ext Z wx):Chg (fun k=>k=gs) W wx :=
 ⟨he.os.trans h.chg.os,he.tape.trans h.chg.tape,he.output.trans h.chg.output,Nat.le_trans h.chg.size he.size,fun k hk hne=>(he.block k (by rw [h.size];exact hk)).trans (h.chg.block k hk hne)⟩
end
section
open Go Go.RowKit
attribute [local go_sem] Oper.semAt_some
structure KpM (n₀ b1 b2 b3:Nat) (M:Nat→Prop) (W W':World):Prop where
 low:Below n₀ W W'
 x1:W'.heap[b1]?=W.heap[b1]?
 x2:W'.heap[b2]?=W.heap[b2]?
 x3:W'.heap[b3]?=W.heap[b3]?
 up:∀ (k:Nat) (o:Obj),M k→W.heap[k]?=some o→o.isCells=true→W'.heap[k]?=some o
theorem KpM.trans {n₀ b1 b2 b3:Nat} {M:Nat→Prop} {X Y Z:World} (h:KpM n₀ b1 b2 b3 M X Y) (k:KpM n₀ b1 b2 b3 M Y Z):KpM n₀ b1 b2 b3 M X Z :=
 ⟨h.low.trans k.low,k.x1.trans h.x1,k.x2.trans h.x2,k.x3.trans h.x3,fun i o hM h1 h2=>k.up i o hM (h.up i o hM h1 h2) h2⟩
theorem LowF.chg {n₀ b1 b2 b3 gs:Nat} {w W W':World} (h:LowF n₀ b1 b2 b3 w W) (hc:Chg (fun k=>k=gs) W W') (hw:w.heap.size≤W.heap.size) (h0:n₀≤w.heap.size) (h1:b1<w.heap.size) (h2:b2<w.heap.size) (h3:b3<w.heap.size) (hg:w.heap.size≤gs):LowF n₀ b1 b2 b3 w W' :=
 have e:∀ k,k<w.heap.size→W'.heap[k]?=W.heap[k]?:=fun k hk=>hc.block k (by omega) (by omega)
 ⟨⟨hc.os.trans h.low.os,hc.tape.trans h.low.tape,hc.output.trans h.low.output,Nat.le_trans h.low.size hc.size,fun k hk=>(e k (by omega)).trans (h.low.block k hk)⟩,(e b1 h1).trans h.x1,(e b2 h2).trans h.x2,(e b3 h3).trans h.x3⟩
theorem Rd.same {W W':World} {size:Nat} {p:Option Addr} {n:Nat} {xs:List Value} (h:Rd W size p n xs) (he:0<n→W'.heap[(adr p 0).block]?=W.heap[(adr p 0).block]?):Rd W' size p n xs :=
 ⟨h.len,h.ptr,h.small,fun j hj=>by
  have hn:0<n:=by
   rcases Nat.eq_zero_or_pos n with e | e
   ·subst e;simp at hj
   ·exact e
  have e:W'.heap[(adr p j).block]?=W.heap[(adr p j).block]?:=by rw [adr_block];exact he hn
  rw [cell_eq e];exact h.cells j hj⟩
end
section
open Go Go.RowKit Go.Shelf Go.Lib
theorem Sep.chg {w W W':World} {Γ:List Pc} {M:Nat→Prop} (S:Sep w W Γ) (hf:∀ p∈Γ,∀ k,p.foot k→¬ M k) (hM:∀ k,M k→w.heap.size≤k) (hc:Chg M W W'):Sep w W' Γ :=
 ⟨⟨hc.os.trans S.ext.os,hc.tape.trans S.ext.tape,hc.output.trans S.ext.output,Nat.le_trans S.ext.size hc.size,fun k hk=>(hc.block k (Nat.lt_of_lt_of_le hk S.ext.size) fun h=>by have:=hM k h;omega).trans (S.ext.block k hk)⟩,
  fun p hp=>p.loc W W' (S.all p hp) fun k hk=>hc.block k (S.lt hp hk) (hf p hp k hk),S.new,S.apart⟩
def KeepM (w:World) (Γ:List Pc) (M:Nat→Prop) (W:World):Prop:=Sep w W Γ∧(∀ p∈Γ,∀ k,p.foot k→¬ M k)∧∀ k,M k→w.heap.size≤k
theorem KeepM.turn {w W W':World} {Γ:List Pc} {M:Nat→Prop} {row:Option Nat} {B:Nat} (h:KeepM w Γ M W) (hΓ:∀ p∈Γ,p.cells) (hB:w.heap.size≤B) (hg:W.grownBy W' row) (hr:∀ r,row=some r→B≤r∧∃ o:Obj,W.heap[r]?=some o∧o.isCells=false):KeepM w Γ M W':=⟨h.1.turn hΓ hB hg hr,h.2⟩
def Pc.fix (M:Nat→Prop) (W:World):Pc :=
 ⟨M,fun w=>∀ k,M k→k<w.heap.size∧w.heap[k]?=W.heap[k]?,fun w h k hk=>(h k hk).1,fun w w' h hk k hM=>by
  have e:=hk k hM
  obtain⟨h1,h2⟩:=h k hM
  refine⟨?_,e.trans h2⟩
  rw [Array.getElem?_eq_getElem h1] at e
  exact(Array.getElem?_eq_some_iff.1 e).1⟩
def Pc.obj (D:Nat) (o:Obj):Pc :=
 ⟨fun k=>k=D,fun w=>w.heap[D]?=some o,fun w h k hk=>by subst hk;exact(Array.getElem?_eq_some_iff.1 h).1,fun w w' h hk=>(hk D rfl).trans h⟩
theorem KeepM.fix {w W:World} {Γ:List Pc} {M:Nat→Prop} (h:KeepM w Γ M W) (hM:∀ k,M k→k<W.heap.size):Sep w W (Γ ++ [Pc.fix M W]):=by
 refine⟨h.1.ext,fun p hp=>?_,fun p hp k hk=>?_,?_⟩
 ·rcases List.mem_append.1 hp with hp | hp
  ·exact h.1.all p hp
  ·obtain rfl:=List.mem_singleton.1 hp
   exact fun k hk=>⟨hM k hk,rfl⟩
 ·rcases List.mem_append.1 hp with hp | hp
  ·exact h.1.new p hp k hk
  ·obtain rfl:=List.mem_singleton.1 hp
   exact h.2.2 k hk
 ·rw [List.pairwise_append]
  refine⟨h.1.apart,List.pairwise_singleton _ _,fun p hp q hq k hk hk2=>?_⟩
  obtain rfl:=List.mem_singleton.1 hq
  exact h.2.1 p hp k hk hk2
theorem Sep.obj {w W:World} {Γ:List Pc} {D:Nat} {o:Obj} (S:Sep w W Γ) (hΓ:∀ p∈Γ,p.cells) (hD:w.heap.size≤D) (hK:W.heap[D]?=some o) (ho:o.isCells=false):Sep w W (Γ ++ [Pc.obj D o]):=by
 refine⟨S.ext,fun p hp=>?_,fun p hp k hk=>?_,?_⟩
 ·rcases List.mem_append.1 hp with hp | hp
  ·exact S.all p hp
  ·obtain rfl:=List.mem_singleton.1 hp
   exact hK
 ·rcases List.mem_append.1 hp with hp | hp
  ·exact S.new p hp k hk
  ·obtain rfl:=List.mem_singleton.1 hp
   have:k=D:=hk
   omega
 ·rw [List.pairwise_append]
  refine⟨S.apart,List.pairwise_singleton _ _,fun p hp q hq k hk hk2=>?_⟩
  obtain rfl:=List.mem_singleton.1 hq
  have e:k=D:=hk2
  subst e
  obtain⟨o',h1,h2⟩:=hΓ p hp W (S.all p hp) k hk
  rw [hK] at h1
  cases h1
  rw [ho] at h2;cases h2
def BallI {nx:Nat→List Int} {n s:Nat} (w:World) (Γ:Option Addr→List Int→Nat→List Pc) (rad:Int) (pre:List (YlOf nx n s)) (M:Nat→Prop) (W:World):Prop:=∃ q2 c2,KeepM w (Γ q2 (ballP pre) c2) M W∧∀ x∈pre,(x.1.k:Int)≤rad
def BallX {nx:Nat→List Int} {n s:Nat} (w:World) (Γ:Option Addr→List Int→Nat→List Pc) (rad:Int) (pre:List (YlOf nx n s)) (M:Nat→Prop) (W:World):Prop:=∃ (pre':List (YlOf nx n s)) (x:YlOf nx n s),pre=pre' ++ [x]∧rad<(x.1.k:Int)∧BallI w Γ rad pre' M W
theorem BallI.own {nx:Nat→List Int} {n s B:Nat} {w:World} {Γ:Option Addr→List Int→Nat→List Pc} {rad:Int} (hΓ:∀ q l c,∀ p∈Γ q l c,p.cells) (hB:w.heap.size≤B) (M:Nat→Prop):OwnFrom B (fun pre:List (YlOf nx n s)=>BallI w Γ rad pre M):=fun pre _ _ _ h hg hr=>let ⟨q2,c2,h1,h2⟩:=h;⟨q2,c2,h1.turn (hΓ q2 (ballP pre) c2) hB hg hr,h2⟩
theorem BallX.own {nx:Nat→List Int} {n s B:Nat} {w:World} {Γ:Option Addr→List Int→Nat→List Pc} {rad:Int} (hΓ:∀ q l c,∀ p∈Γ q l c,p.cells) (hB:w.heap.size≤B) (M:Nat→Prop):OwnFrom B (fun pre:List (YlOf nx n s)=>BallX w Γ rad pre M):=fun _ W W' row h hg hr=>let ⟨pre',x,e1,e2,h1⟩:=h;⟨pre',x,e1,e2,BallI.own hΓ hB M pre' W W' row h1 hg hr⟩
end
section
open Go Go.RowKit
def footA (A:List Pc):Nat→Prop:=fun k=>∃ p∈A,p.foot k
theorem Sep.fixed {w0 w:World} {A B:List Pc} (S:Sep w0 w (A ++ B)):Sep w0 w (Pc.fix (footA A) w :: B):=by
 have ha:=List.pairwise_append.1 S.apart
 refine⟨S.ext,fun p hp=>?_,fun p hp k hk=>?_,List.pairwise_cons.2 ⟨fun q hq k hk hk2=>?_,ha.2.1⟩⟩
 ·rcases List.mem_cons.1 hp with rfl | hp
  ·exact fun k ⟨p,hp,hk⟩=>⟨S.lt (List.mem_append_left _ hp) hk,rfl⟩
  ·exact S.all p (List.mem_append_right _ hp)
 ·rcases List.mem_cons.1 hp with rfl | hp
  ·obtain⟨p,hp,hk⟩:=hk
   exact S.new p (List.mem_append_left _ hp) k hk
  ·exact S.new p (List.mem_append_right _ hp) k hk
 ·obtain⟨p,hp,hk⟩:=hk
  exact ha.2.2 p hp q hq k hk hk2
theorem fix_cells {w:World} {A:List Pc} (hA:∀ p∈A,p.cells) (h:∀ p∈A,p.holds w):(Pc.fix (footA A) w).cells:=fun W hW k ⟨p,hp,hk⟩=>by
 obtain⟨_,h2⟩:=hW k ⟨p,hp,hk⟩
 rw [h2]
 exact hA p hp w (h p hp) k hk
theorem marks_turn {B C:Nat} {Ds:List Nat} {W W':World} {row:Option Nat} (h:MarksB B Ds W) (hlt:∀ D∈Ds,D<C) (hg:W.grownBy W' row) (hr:∀ r,row=some r→C≤r∧∃ o:Obj,W.heap[r]?=some o∧o.isCells=false):MarksB B Ds W' :=
 ⟨h.1,fun D hD=>⟨(h.2 D hD).1,(hg.block D (h.lt D hD) (fun e=>by have:=(hr D e.symm).1;have:=hlt D hD;omega)).trans (h.2 D hD).2⟩⟩
theorem Sep.fixAt {w0 w W:World} {A B:List Pc} (S:Sep w0 W (Pc.fix (footA A) w :: B)) {p:Pc} (hp:p∈A) (h:p.holds w):p.holds W :=
 p.loc w W h fun k hk=>(S.all _ (List.mem_cons_self ..) k ⟨p,hp,hk⟩).2
end
section
open Go Go.RowKit
attribute [local go_sem] Oper.semAt_some
theorem Sep.marks {w0 w:World} {Γ:List Pc} (S:Sep w0 w Γ) (hΓ:∀ p∈Γ,p.cells):∀ (Ds:List Nat),MarksB w0.heap.size Ds w→Sep w0 w (Γ ++ Ds.map fun D=>Pc.obj D (.deferred (some [])))
 | [],_=>by simpa using S
 | D :: Ds,h=>by
  obtain⟨hn,hd⟩:=List.nodup_cons.1 h.1
  have ih:=S.marks hΓ Ds ⟨hd,fun E hE=>h.2 E (List.mem_cons_of_mem _ hE)⟩
  obtain⟨hB,hD⟩:=h.2 D (List.mem_cons_self ..)
  have key:Sep w0 w (Pc.obj D (.deferred (some [])) :: (Γ ++ Ds.map fun D=>Pc.obj D (.deferred (some [])))):=by
   refine⟨ih.ext,fun p hp=>?_,fun p hp k hk=>?_,List.pairwise_cons.2 ⟨fun q hq k hk hk2=>?_,ih.apart⟩⟩
   ·rcases List.mem_cons.1 hp with rfl | hp
    ·exact hD
    ·exact ih.all p hp
   ·rcases List.mem_cons.1 hp with rfl | hp
    ·have hk:k=D:=hk
     subst hk;exact hB
    ·exact ih.new p hp k hk
   ·have hk:k=D:=hk
    subst hk
    rcases List.mem_append.1 hq with hq | hq
    ·obtain⟨o,h1,h2⟩:=hΓ q hq w (S.all q hq) k hk2
     rw [hD] at h1;injection h1 with h1;subst h1;cases h2
    ·obtain⟨E,hE,rfl⟩:=List.mem_map.1 hq
     have hk2:k=E:=hk2
     subst hk2;exact hn hE
  exact key.perm (by rw [List.map_cons];exact List.perm_middle)
theorem Sep.unmarks {w0 w w':World} {Γ:List Pc} {Ds:List Nat} (h:MarksB w0.heap.size Ds w) (S:Sep w0 w' (Γ ++ Ds.map fun D=>Pc.obj D (.deferred (some [])))):Sep w0 w' Γ∧MarksB w0.heap.size Ds w' :=
 ⟨S.sub (List.sublist_append_left _ _),h.1,fun D hD=>⟨(h.2 D hD).1,S.all _ (List.mem_append_right _ (List.mem_map.2 ⟨D,hD,rfl⟩))⟩⟩
theorem rows_at (P:Pc) (wk:Nat) (hs:List Hd) (M:List Sq) (Γ:List Pc) (j:Nat) {p:Pc} (h:Γ[j]?=some p):((P :: rowsB wk hs M) ++ Γ)[wk+1+j]?=some p:=by
 rw [List.getElem?_append_right (by simp [rowsB])]
 simpa [rowsB] using h
theorem StepG (k f t:Int) (pw:Option Addr) (nw cw:Nat) (rad most:Int) (po:Option Addr) (no co:Nat) (pt:Option Addr) (nt ct:Nat) (pr:Option Addr) (nr cr:Nat) (pv:Option Addr) (nv cv:Nat) (n:Nat) (F:Sq→List Sq) (ps:Option Addr) (ns cs:Nat) (st:List Sq) (pm:Option Addr) (nm cm:Nat) (M:List Sq) (wk:Nat) (pp:Option Addr) (np cp:Nat) (pk:List Int) (w:World)
  (hno:no=n+1) (h200:n≤200) (h1:1≤wk) (h16:wk≤16) (hs:Rd w 4 ps ns (encQ st)) (hm:Rd w 4 pm nm (encQ M)) (hpk:Rd w 1 pp np (encI pk))
  (hku:KeysUp st) (hst:∀ x∈st,mayB x=true∧x.v<n) (hms:∀ x∈M,mayB x=true∧x.v<n) (hFl:∀ x∈M,(F x).length≤200∧∀ y∈F x,y.I) (hns:ns≤1000) (hnm:nm≤100000) (hKN:∀ x,x∈st∨x∈M→KeyN n x)
  (HCK0:∀ W,Ext w W→Calls Tryz.prog 82 #[.agg #[.slice po no co,.slice pt nt ct,.slice pr nr cr,.slice pv nv cv]] W fun e w'=>e=.returned (.bool true)∧Ext W w')
  (HN0:∀ x∈M,∀ W,Ext w W→Calls Tryz.prog 213 #[.agg #[.int .i64 k,.int .i64 f,.int .i64 t,.slice pw nw cw,.int .i64 rad,.int .i64 most],.agg #[.slice po no co,.slice pt nt ct,.slice pr nr cr,.slice pv nv cv],.agg #[.int .i64 x.s,.int .i64 x.r,.int .i64 x.v,.int .i64 x.d]] W fun e w'=>∃ q c,e=.returned (.tuple #[.slice q (F x).length c,.int .i64 0])∧Sep W w' [.own 138 4 q (F x).length c (encQ (F x))]) :
  Calls Tryz.prog 94 #[.agg #[.int .i64 k,.int .i64 f,.int .i64 t,.slice pw nw cw,.int .i64 rad,.int .i64 most],.agg #[.slice po no co,.slice pt nt ct,.slice pr nr cr,.slice pv nv cv],.slice ps ns cs,.slice pm nm cm,.int .i64 wk,.slice pp np cp] w fun e w'=>∃ q c q2 c2,e=.returned (.tuple #[.slice q (stepM F st M).1.length c,.slice q2 (stepM F st M).2.length c2,.int .i64 0]) ∧
   Sep w w' [.own 146 4 q (stepM F st M).1.length c (encQ (stepM F st M).1),.own 138 4 q2 (stepM F st M).2.length c2 (encQ (stepM F st M).2)]:=by
 obtain⟨i0,hi0,hz0,hz1,hz2⟩:=info_parts infMail
 obtain⟨j0,hj0,hy0,hy1,hy2⟩:=info_parts infStt
 have mayI:∀ x,mayB x=true→x.I:=fun x hx=>by
  obtain⟨a1,a2,a3,a4,a5,a6,a7⟩:=mayB_iff.1 hx
  unfold Sq.I I64
  have q1:IntKind.i64.min = -9223372036854775808:=rfl
  have q2:IntKind.i64.max=9223372036854775807:=rfl
  refine⟨?_,?_,?_,?_⟩ <;> (show (_ && _)=true;simp;omega)
 have en:((no:Int)) - 1=(n:Int):=by omega
 have HCK:=Lib.hid HCK0
 have HNX:=Lib.hid HN0
 have HOR:=Lib.hid (fun W (h:Ext w W)=>OrderG wk pp np cp pk W (hpk.ext h) (by omega))
 have hfr:=fun W (h:Ext w W)=>FreshG ps ns cs st pm nm cm M W (hs.ext h) (hm.ext h) (fun x hx=>mayI x (hst x hx).1) (fun x hx=>mayI x (hms x hx).1) (by omega) hnm
 have hfi:∀ x∈freshM st M,x∈M:=fun x hx=>(freshM_mem.1 hx).1.1
 have hfl:(freshM st M).length≤100000:=by
  have:=freshM_len st M
  have:=hm.nQ
  omega
 obtain⟨Fr,hFr⟩:∃ Fr,freshM st M=Fr:=⟨_,rfl⟩
 rw [hFr] at hfr hfi hfl
 have HFR:=Lib.hid hfr
 have HFI:=Lib.hid hfi
 have HFL:=Lib.hid hfl
 have HFM:=Lib.hid (fun x (hx:x∈Fr)=>(hms x (hfi x hx)).1)
 have HRG:=Lib.hid (fun W (h:Ext w W)=>rightG ps ns cs st n W (hs.ext h) hku hst (by omega))
 have HCM:=Lib.hid (fun W (h:Ext w W)=>CheckM pm nm cm M W (hm.ext h) (fun x hx=>(hms x hx).1))
 have HMR:=Lib.hid hm
 have HMB:=Lib.hid (fun x (hx:x∈M)=>(hms x hx).2)
 have HCL:=Lib.hid (fun W (h:Ext w W)=>CloneX ps ns cs st W (hs.ext h) (by omega))
 have HPK:=Lib.hid hpk
 have HKU:=Lib.hid hku
 have HKN:=Lib.hid hKN
 have HFN:=Lib.hid hFl
 have HFRE:=Lib.hid hFr
 have HST:=Lib.hid hs.nQ
 obtain⟨S',hS'⟩:∃ S',stepM F st M=S':=⟨_,rfl⟩
 rw [hS']
 have HS':=Lib.hid hS'
 have S0:=Lib.hid ((((Sep.start w).al #[.int .i64 k,.int .i64 f,.int .i64 t,.slice pw nw cw,.int .i64 rad,.int .i64 most] 24 w.heap.size rfl).al #[.slice po no co,.slice pt nt ct,.slice pr nr cr,.slice pv nv cv] 27 (w.heap.size+1) (by simp)).al #[.int .i64 (n:Int)] 3 (w.heap.size+1+1) (by simp))
 have HSI:=Lib.hid (fun x (hx:x∈st)=>mayI x (hst x hx).1)
 have HMI:=Lib.hid (fun x (hx:x∈M)=>mayI x (hms x hx).1)
 clear hs hm hpk hku hst hms hFl HCK0 HN0 hfr hfi hfl hFr hKN hS' mayI hno
 refine(callsIn_wide (n:=9)).1 ?_
 refine callsIn_of_wp_marks Tryz.func94 rfl trivial ?_ rfl
 simp only [Tryz.ntmps94,List.size_toArray,List.length_cons,List.length_nil,Nat.reduceAdd,Nat.reduceSub,Array.replicate_succ,Array.replicate_zero,List.push_toArray,List.append_toArray,List.nil_append,List.cons_append]
 refine wpIn_wide.2 ?_
 go_wp2
 go_step3
 go_wp2_with (first | (go_at_call 145;go_must (refine(HCL.out _ S7.out.ext).mono ?_;rintro e w8 ⟨qn,cn,rfl,Z⟩;have S8:=Lib.hid Z;clear Z)) | (go_at_call 144;go_must (refine HCB.out.mono ?_;rintro e w7 ⟨rfl,hb⟩;have S7:=Lib.hid (S6.out.call hb);clear hb)) | (go_at_call 143;go_must (refine(HCM.out _ S5.out.ext).mono ?_;rintro e w6 ⟨rfl,hb⟩;have S6:=Lib.hid (S5.out.call hb);have HCB:=Lib.hid (ContainsBeyond pm nm cm (w.heap.size+1+1) M n w6 (HMR.out.ext S6.out.ext) (S6.out.blk (wk+1+2) (rows_at _ wk hs Fr _ 2 rfl)) HMB.out);clear hb)) | (go_at_call 142;go_must (refine(HRG.out _ S4.out.ext).mono ?_;rintro e w5 ⟨rfl,hb⟩;have S5:=Lib.hid (S4.out.call hb);clear hb)) | (go_at_call 140;go_must (refine HSP.out.mono ?_;rintro e w4 ⟨qb,hs,hhl,rfl,Z⟩;have HHL:=Lib.hid hhl;have S4:=Lib.hid (S3.out.comp Z);obtain⟨n0,nz⟩:=bkc0l (S4.out.blk (wk+1+2) (rows_at _ wk hs Fr _ 2 rfl));clear Z hhl)) | (go_at_call 141;go_must (refine(HFR.out _ S2.out.ext).mono ?_;rintro e w3 ⟨qf,cf,rfl,Z⟩;have S3:=Lib.hid (S2.out.comp Z);have HSP:=Lib.hid (SplitG qf Fr.length cf Fr wk w3 (S3.out.rdx 0 rfl) HFM.out h1 h16 HFL.out);clear Z)) | (go_at_call 139;go_must (refine(HOR.out _ S1.out.ext).mono ?_;rintro e w2 ⟨ord,qo,co',hP,rfl,Z⟩;have HPO:=Lib.hid hP;have S2:=Lib.hid (S1.out.comp Z);clear Z hP)) | (go_at_call 82;go_must (refine(HCK.out _ S0.out.ext).mono ?_;rintro e w1 ⟨rfl,hb⟩;have S1:=Lib.hid (S0.out.call hb);clear hb)))
 go_step3
 go_wp2
 have S9:=Lib.hid ((((S8.out.al #[.slice qn ns cn] 85 w8.heap.size rfl).al #[.slice none 0 0] 83 (w8.heap.size+1) (by simp)).nilrow 138 4).pick [2,1,3,0] (by decide) rfl:Sep w7 _ [.blk w8.heap.size 85 #[.slice qn ns cn],.blk (w8.heap.size+1) 83 #[.slice none 0 0],.own 146 4 qn ns cn (encQ st),.own 138 4 none 0 0 []])
 have HE7:=Lib.hid S7.out.ext
 have HRO:=Lib.hid (S7.out.rdx (wk+1+1) (rows_at _ wk hs Fr _ 1 rfl))
 have HRH:=Lib.hid (S7.out.rdx 0 rfl)
 have HRB:=Lib.hid (fun h (hh:h<wk)=>S7.out.rdx (h+1) (by rw [List.cons_append,List.getElem?_cons_succ,List.getElem?_append_left (by simpa [rowsB] using hh)];exact rowsB_at hh))
 have HBR:=Lib.hid (S7.out.blk (wk+1+3) (rows_at _ wk hs Fr _ 3 rfl))
 have HBQ:=Lib.hid (S7.out.blk (wk+1+4) (rows_at _ wk hs Fr _ 4 rfl))
 have HGN:Hid (w7.heap.size≤w8.heap.size):=S8.out.ext.size
 clear S0 S1 S2 S3 S4 S5 S6 S7 S8 HCK HOR HFR HSP HRG HCM HCB HCL n0 nz
 obtain⟨gN,hgN⟩:∃ gN,w8.heap.size=gN:=⟨_,rfl⟩
 obtain⟨W9,hW9⟩:∃ W9,(w8.alloc (.cells #[.slice qn ns cn] 85)).alloc (.cells #[.slice none 0 0] 83)=W9:=⟨_,rfl⟩
 rw [hgN,hW9] at S9
 rw [hgN] at HGN
 rw [hW9,hgN]
 clear hgN hW9
 refine loopStep _ _ _ _ _ _ _ _ _ _ _ _ _ _ _ _ _ _ _ _ _ _ _ _ _ _ _ _ _ _ _ _ _ _ _ _ _ _ _ _ _ _ _ _ _ _ _ _ _ _ _ _ _ _ _ _ _ _ _ _ _ _ _ _ _ _ _ _ _ _ _ _ _ _ _ _ _ _ _ _ _ _ _ _ _ _ _ _ _ _ _ _ _ _ _ _ _ _ _ _ _ _ _ _ _ _ _ _ _ _ _ _ _ _ _ _ _ _ _ _ _ (n0:=wk) (R:=fun nn u18 u77 ds wr=>∃ (j:Nat) (P:List Sq) (Ds:List Nat) (q1:Option Addr) (c1:Nat) (q2:Option Addr) (c2:Nat),j+nn=wk∧u18=.int .i64 0∧u77=.int .i64 j∧ds=Ds.map markD∧Hid (DoneW Fr wk ((ord.take j).map Int.toNat) P)∧Hid (MarksB w7.heap.size Ds wr)∧Hid (Sep w7 wr [.blk gN 85 #[.slice q1 (st ++ P).length c1],.blk (gN+1) 83 #[.slice q2 (P.flatMap F).length c2],.own 146 4 q1 (st ++ P).length c1 (encQ (st ++ P)),.own 138 4 q2 (P.flatMap F).length c2 (encQ (P.flatMap F))])) (h0:=?_) (round:=?_)
 ·exact⟨0,[],[],qn,cn,none,0,by omega,rfl,rfl,rfl,doneW_nil _ _,marks_nil _ _,by rw [List.append_nil,← HST.out];exact S9.out⟩
 ·intro nn u18 u24 u25 u26 u27 u28 u77 u78 u79 u80 u81 u82 u83 u84 u85 u86 u87 u88 u89 u90 u91 u92 u93 u94 u95 u96 u97 u98 u99 u100 u101 u102 u103 u104 u105 u106 u107 u108 u109 u110 ds wr hrel K hK
  obtain⟨j,P,Ds,q1,c1,q2,c2,hj,rfl,rfl,rfl,HD,HM,S⟩:=hrel
  clear S9
  have HK:=Lib.hid hK
  clear hK
  by_cases hlt:j<wk
  ·obtain⟨h,hh1,hh2,hh3,hh4⟩:=ordw_at HPO.out hlt
   have g0:=(HRO.out.ext S.out.ext).cI hlt
   rw [hh1] at g0
   have pqo:=HRO.out.ptr
   have pqb:=HRH.out.ptr
   have gh:=HRH.out.cH hh2
   have hrb:=HRB.out h hh2
   have hnl:=hrb.nQ
   have hbl:=boxQ_len Fr wk h
   have HH3:=Lib.hid hh3
   have HH4:=Lib.hid hh4
   obtain⟨hd,hhd⟩:∃ hd,nth hs h=hd:=⟨_,rfl⟩
   rw [hhd] at gh hrb hnl
   obtain⟨hp,hn',hc⟩:=hd
   simp only at gh hrb hnl
   have HMA:=Lib.hid (fun W (hW:Ext w7 W)=>MailsG hp hn' hc (boxQ Fr wk h) pp np cp pk W (hrb.ext hW) (HPK.out.ext (Ext.trans HE7.out hW)) (by have:=HFL.out;omega))
   have HNL:=Lib.hid hnl
   have d1:(0:Int)≤j:=by omega
   have d2:(j:Int)<wk:=by omega
   have d3:(0:Int)≤h:=by omega
   have d4:(h:Int)<wk:=by omega
   have HGH:=Lib.hid gh
   clear hh1 hh3 hh4 hrb hnl hbl hhd gh
   go_wp2
   refine wp_region_noPanic ?_
   refine wp_region_held_drew (S:=fun W=>Blk W w.heap.size 24 #[.int .i64 k,.int .i64 f,.int .i64 t,.slice pw nw cw,.int .i64 rad,.int .i64 most]∧Blk W (w.heap.size+1) 27 #[.slice po no co,.slice pt nt ct,.slice pr nr cr,.slice pv nv cv]∧W.cell? (adr qb h)=some (.slice hp hn' hc)) (by kernel_rfl) ⟨(HBQ.out.ext S.out.ext).ext (Below.refl _ _).drew,(HBR.out.ext S.out.ext).ext (Below.refl _ _).drew,S.out.ext.cell HGH.out⟩ (fun hHeld=>?_)
   have SD:=Lib.hid S.out.drew
   have HMD:=Lib.hid (HM.out.ext (Below.refl wr.heap.size wr).drew)
   clear S g0
   generalize wr.drew=D at SD HMD hHeld ⊢
   refine wpAnyH_take (i:=0) (v:=.agg #[.int .i64 k,.int .i64 f,.int .i64 t,.slice pw nw cw,.int .i64 rad,.int .i64 most]) rfl (by kernel_rfl) (by kernel_rfl) (by kernel_rfl) (noPanic_q _ _) (Or.inl ⟨by kernel_rfl,fun W hSw=>by have h0:=hSw.1.cell 0;have h1:=hSw.1.cell 1;have h2:=hSw.1.cell 2;have h3:=hSw.1.cell 3;have h4:=hSw.1.cell 4;have h5:=hSw.1.cell 5;clear hSw;go_simp⟩) hHeld ?_
   refine wpAnyH_take (i:=1) (v:=.agg #[.slice po no co,.slice pt nt ct,.slice pr nr cr,.slice pv nv cv]) rfl (by kernel_rfl) (by kernel_rfl) (by kernel_rfl) (noPanic_q _ _) (Or.inl ⟨by kernel_rfl,fun W hSw=>by have h0:=hSw.2.1.cell 0;have h1:=hSw.2.1.cell 1;have h2:=hSw.2.1.cell 2;have h3:=hSw.2.1.cell 3;clear hSw;go_simp⟩) hHeld ?_
   refine wpAnyH_take (i:=2) (v:=.slice qb wk wk) rfl (by kernel_rfl) (by kernel_rfl) (by kernel_rfl) (noPanic_q _ _) (Or.inl ⟨by kernel_rfl,fun W hSw=>by skip;clear hSw;go_simp⟩) hHeld ?_
   refine wpAnyH_take (i:=3) (v:=.int .i64 h) rfl (by kernel_rfl) (by kernel_rfl) (by kernel_rfl) (noPanic_q _ _) (Or.inl ⟨by kernel_rfl,fun W hSw=>by skip;clear hSw;go_simp⟩) hHeld ?_
   refine wpAnyH_take (i:=4) (v:=.pointer (some (adr qb h))) rfl (by kernel_rfl) (by kernel_rfl) (by kernel_rfl) (noPanic_q _ _) (Or.inl ⟨by kernel_rfl,fun W hSw=>by skip;clear hSw;go_simp⟩) hHeld ?_
   refine wpAnyH_take (i:=5) (v:=.slice hp hn' hc) rfl (by kernel_rfl) (by kernel_rfl) (by kernel_rfl) (noPanic_q _ _) (Or.inl ⟨by kernel_rfl,fun W hSw=>by have h0:=hSw.2.2;clear hSw;go_simp⟩) hHeld ?_
   refine wpAnyH_take (i:=6) (v:=.slice pp np cp) rfl (by kernel_rfl) (by kernel_rfl) (by kernel_rfl) (noPanic_q _ _) (Or.inl ⟨by kernel_rfl,fun W hSw=>by skip;clear hSw;go_simp⟩) hHeld ?_
   refine wpAnyH_ready (rs:=[7]) (by kernel_rfl) (by simp) (AllReadyH.cons rfl (fun K hK=>?_) AllReadyH.nil)
   go_simp
   refine(HMA.out D SD.out.ext).mono ?_
   rintro e w10 ⟨Bx,qm,cm',hBx,rfl,Z⟩
   have HBX:=Lib.hid hBx
   have SE:=Lib.hid (SD.out.comp Z)
   have HME:=Lib.hid (HMD.out.ext Z.ext)
   have hS10:=hHeld
   have HQ10:=Lib.hid (HBQ.out.ext SE.out.ext)
   have HR10:=Lib.hid (HBR.out.ext SE.out.ext)
   have HG10:=Lib.hid (SE.out.ext.cell HGH.out)
   clear Z SD HMD hBx hS10
   refine hK.out _ _ ⟨HQ10.out,HR10.out,HG10.out⟩ (fun hHeld=>?_)
   clear hK
   refine wpAnyH_take (i:=8) (v:=.agg #[.int .i64 k,.int .i64 f,.int .i64 t,.slice pw nw cw,.int .i64 rad,.int .i64 most,.slice po no co,.slice pt nt ct,.slice pr nr cr,.slice pv nv cv,.slice qm hn' cm',.int .i64 0]) rfl (by kernel_rfl) (by kernel_rfl) (by kernel_rfl) (noPanic_q _ _) (Or.inl ⟨by kernel_rfl,fun W hSw=>by skip;clear hSw;go_simp⟩) hHeld ?_
   refine wpAnyH_ready (rs:=[9]) (by kernel_rfl) (by simp) (AllReadyH.cons rfl (fun K hK=>?_) AllReadyH.nil)
   go_simp
   have SG:=Lib.hid (SE.out.al #[.int .i64 k,.int .i64 f,.int .i64 t,.slice pw nw cw,.int .i64 rad,.int .i64 most,.slice po no co,.slice pt nt ct,.slice pr nr cr,.slice pv nv cv,.slice qm hn' cm',.int .i64 0] 206 w10.heap.size rfl)
   refine hK.out _ _ ⟨HQ10.out.ext (Ext.alloc (Below.refl _ _) _),HR10.out.ext (Ext.alloc (Below.refl _ _) _),(Ext.alloc (Below.refl _ _) _:Ext w10 _).cell HG10.out⟩ (fun hHeld=>?_)
   clear hK
   refine wpAnyH_take (i:=10) (v:=.pointer (some ⟨w10.heap.size,0,none⟩)) rfl (by kernel_rfl) (by kernel_rfl) (by kernel_rfl) (noPanic_q _ _) (Or.inl ⟨by kernel_rfl,fun W hSw=>by skip;clear hSw;go_simp⟩) hHeld ?_
   refine wpAnyH_done (by kernel_rfl) ?_ _
   refine noPanic_mk ?_
   have HMG:=Lib.hid (HME.out.ext (Ext.alloc (Below.refl _ _) (.cells #[.int .i64 k,.int .i64 f,.int .i64 t,.slice pw nw cw,.int .i64 rad,.int .i64 most,.slice po no co,.slice pt nt ct,.slice pr nr cr,.slice pv nv cv,.slice qm hn' cm',.int .i64 0] 206)))
   clear hHeld HQ10 HR10 HG10 HME SE HMA
   simp [Act.put]
   go_wp2_with (go_at_call 147;go_must (refine(WorkG _ _).mono ?_;rintro e w12 ⟨rfl,rfl⟩))
   have SA:=SG.out.al #[.pointer (some ⟨w10.heap.size,0,none⟩)] 203 (w10.heap.size+1) (by simp)
   obtain⟨W11,hW11⟩:∃ W11,(w10.alloc (.cells #[.int .i64 k,.int .i64 f,.int .i64 t,.slice pw nw cw,.int .i64 rad,.int .i64 most,.slice po no co,.slice pt nt ct,.slice pr nr cr,.slice pv nv cv,.slice qm hn' cm',.int .i64 0] 206)).alloc (.cells #[.pointer (some ⟨w10.heap.size,0,none⟩)] 203)=W11:=⟨_,rfl⟩
   have HM11:Hid (MarksB w7.heap.size Ds W11):=by rw [← hW11];exact HMG.out.ext (Ext.alloc (Below.refl _ _) _)
   rw [hW11] at SA ⊢
   clear hW11 HMG SG
   generalize w10.heap.size=gw at *
   obtain⟨AA,hAA⟩:∃ AA,AA=[Pc.blk (gw+1) 203 #[.pointer (some ⟨gw,0,none⟩)],.blk gw 206 #[.int .i64 k,.int .i64 f,.int .i64 t,.slice pw nw cw,.int .i64 rad,.int .i64 most,.slice po no co,.slice pt nt ct,.slice pr nr cr,.slice pv nv cv,.slice qm hn' cm',.int .i64 0],.own 138 4 qm hn' cm' (encQ Bx)]:=⟨_,rfl⟩
   have SFX:Hid (Sep w7 W11 (Pc.fix (footA AA) W11 :: [.blk gN 85 #[.slice q1 (st ++ P).length c1],.blk (gN+1) 83 #[.slice q2 (P.flatMap F).length c2],.own 146 4 q1 (st ++ P).length c1 (encQ (st ++ P)),.own 138 4 q2 (P.flatMap F).length c2 (encQ (P.flatMap F))])):=Sep.fixed (A:=AA) (by rw [hAA];exact SA)
   have HAH:Hid (∀ p∈AA,p.holds W11):=fun p hp=>SA.all p (by rw [hAA] at hp;simp only [List.mem_cons,List.not_mem_nil,or_false] at hp ⊢;rcases hp with rfl | rfl | rfl <;> simp)
   have HAL:Hid (∀ p∈AA,∀ kk,p.foot kk→kk<W11.heap.size):=fun p hp kk hk=>p.inh W11 (HAH.out p hp) kk hk
   have HAC:Hid (∀ p∈AA,p.cells):=fun p hp=>by
    rw [hAA] at hp
    exact cells_all (fun p hp=>by
     simp only [List.mem_cons,List.not_mem_nil,or_false] at hp
     rcases hp with rfl | rfl | rfl
     ·exact .inl ⟨_,_,_,rfl⟩
     ·exact .inl ⟨_,_,_,rfl⟩
     ·exact .inr ⟨_,_,_,_,_,_,rfl⟩) p hp
   have HB7:Hid (w7.heap.size≤W11.heap.size):=SA.ext.size
   have HEA:=Lib.hid SA.ext
   have HLT:=Lib.hid HM11.out.lt
   have HAA:=Lib.hid hAA
   clear SA hAA
   obtain⟨Ks,hKs⟩:∃ Ks:Nat→Prop,Ks=fun kk=>kk<w7.heap.size∨footA AA kk:=⟨_,rfl⟩
   have HKS:=Lib.hid hKs
   clear hKs
   have HKE:Hid (∀ W,KeptW Ks W11 W→Ext w7 W):=fun W h=>⟨h.os.trans HEA.out.os,h.tape.trans HEA.out.tape,h.output.trans HEA.out.output,Nat.le_trans HB7.out h.size,fun kk hk=>(h.block kk (by rw [HKS.out];exact .inl hk)).trans (HEA.out.block kk hk)⟩
   have HKH:Hid (∀ W,KeptW Ks W11 W→∀ p∈AA,p.holds W):=fun W h p hp=>p.loc W11 W (HAH.out p hp) fun kk hk=>h.block kk (by rw [HKS.out];exact .inr ⟨p,hp,hk⟩)
   refine wpIn_wide.1 (wpIn_rangeFunc_toldC (F:=Fence.wide) (n:=9) rfl (by omega) (gf:=212) (lb:=#[.pointer (some ⟨gw+1,0,none⟩)]) rfl trivial (enters_of Tryz.func212 (by kernel_rfl) rfl)
    (workIt 8 (by omega) k f t pw nw cw rad most po no co pt nt ct pr nr cr pv nv cv (gw+1) gw qm hn' cm' Bx F Ks W11 ?hKl ?hF ?hN)
    (fun h k=>h.trans k) ?hKb (Below.refl _ _) (fun _=>rfl)
    (fun pre W=>∃ q1 c1 q2 c2,MarksB w7.heap.size Ds W∧Sep w7 W [Pc.fix (footA AA) W11,.blk gN 85 #[.slice q1 (st ++ (P ++ pre.map (·.x))).length c1],.blk (gN+1) 83 #[.slice q2 ((P ++ pre.map (·.x)).flatMap F).length c2],.own 146 4 q1 (st ++ (P ++ pre.map (·.x))).length c1 (encQ (st ++ (P ++ pre.map (·.x)))),.own 138 4 q2 ((P ++ pre.map (·.x)).flatMap F).length c2 (encQ ((P ++ pre.map (·.x)).flatMap F))])
    (fun _ _ _=>False) ?hI (fun _ _ _ _ _ h _ _=>h.elim) (fun _ _ _=>trivial) ?h0
    (fun pre y a' W=>∃ gx,frStep (.pointer (some ⟨gN,0,none⟩)) (.pointer (some ⟨gN+1,0,none⟩)) (.pointer (some ⟨gx,0,none⟩)) (.slice y.q (F y.x).length y.c) a'∧(∃ q1 c1 q2 c2,MarksB w7.heap.size Ds W∧Sep w7 W (.blk gx 146 #[.int .i64 y.x.s,.int .i64 y.x.r,.int .i64 y.x.v,.int .i64 y.x.d] :: .own 138 4 y.q (F y.x).length y.c (encQ (F y.x)) :: [Pc.fix (footA AA) W11,.blk gN 85 #[.slice q1 (st ++ (P ++ pre.map (·.x))).length c1],.blk (gN+1) 83 #[.slice q2 ((P ++ pre.map (·.x)).flatMap F).length c2],.own 146 4 q1 (st ++ (P ++ pre.map (·.x))).length c1 (encQ (st ++ (P ++ pre.map (·.x)))),.own 138 4 q2 ((P ++ pre.map (·.x)).flatMap F).length c2 (encQ ((P ++ pre.map (·.x)).flatMap F))]))∧(pre ++ [y]).map (·.x)=Bx.take (pre.length+1)∧pre.length<Bx.length)
    ?hAx ?assign ?body ?done (fun D c pre W _ _ h _=>h.elim))
   case hKl =>
    intro kk hk
    rw [HKS.out] at hk
    rcases hk with hk | ⟨p,hp,hk⟩
    ·exact Nat.lt_of_lt_of_le hk HB7.out
    ·exact HAL.out p hp kk hk
   case hF =>
    intro W hW9
    have h3:=HKH.out W hW9
    rw [HAA.out] at h3
    refine⟨h3 _ (List.mem_cons_self ..),h3 _ (List.mem_cons_of_mem _ (List.mem_cons_self ..)),Rd.of_own (own_base (h3 (.own 138 4 qm hn' cm' (encQ Bx)) (by simp)) (Nat.le_refl _)) ?_⟩
    have:=HNL.out
    have:=boxQ_len Fr wk h
    have:=HFL.out
    omega
   case hN =>
    intro x hx W h
    exact HNX.out x (HFI.out x (boxQ_mem.1 (HBX.out.mem_iff.1 hx)).1) W (Ext.trans HE7.out (HKE.out W h))
   case hKb =>
    intro W l o o' hl ho _ _
    refine⟨rfl,rfl,rfl,by simp,fun kk hk=>World.putObj_heap_other ?_⟩
    rw [HKS.out] at hk
    rcases hk with hk | ⟨p,hp,hk⟩
    ·have:=HB7.out;omega
    ·have:=HAL.out p hp kk hk;omega
   case hI =>
    rintro pre W W' row ⟨q1,c1,q2,c2,hm,S⟩ hg hr
    exact⟨q1,c1,q2,c2,marks_turn hm HLT.out hg hr,S.turn (fun p hp=>by
     simp only [List.mem_cons,List.not_mem_nil,or_false] at hp
     rcases hp with rfl | rfl | rfl | rfl | rfl
     ·exact fix_cells HAC.out HAH.out
     ·exact Pc.blk_cells _ _ _
     ·exact Pc.blk_cells _ _ _
     ·exact Pc.own_cells _ _ _ _ _ _
     ·exact Pc.own_cells _ _ _ _ _ _) HB7.out hg hr⟩
   case h0=>exact⟨q1,c1,q2,c2,HM11.out,by rw [List.map_nil,List.append_nil];exact SFX.out⟩
   case hAx =>
    rintro pre y a' _ W W' row ⟨gx,hfr,⟨q1,c1,q2,c2,hm,S⟩,hp⟩ hg hr
    exact⟨gx,hfr,⟨q1,c1,q2,c2,marks_turn hm HLT.out hg hr,S.turn (fun p hp=>by
     simp only [List.mem_cons,List.not_mem_nil,or_false] at hp
     rcases hp with rfl | rfl | rfl | rfl | rfl | rfl | rfl
     ·exact Pc.blk_cells _ _ _
     ·exact Pc.own_cells _ _ _ _ _ _
     ·exact fix_cells HAC.out HAH.out
     ·exact Pc.blk_cells _ _ _
     ·exact Pc.blk_cells _ _ _
     ·exact Pc.own_cells _ _ _ _ _ _
     ·exact Pc.own_cells _ _ _ _ _ _) HB7.out hg hr⟩,hp⟩
   case assign =>
    rintro l pre y V0 W Kx ⟨q1,c1,q2,c2,hm,S⟩ hE ⟨hl,hp1,hp2⟩ hKx
    have HKX:=Lib.hid hKx
    have SY:=Lib.hid ((S.comp hl).al #[.int .i64 y.x.s,.int .i64 y.x.r,.int .i64 y.x.v,.int .i64 y.x.d] 146 W.heap.size rfl)
    have HM2:=Lib.hid ((hm.ext hE).ext (Ext.alloc (Below.refl _ W) (.cells #[.int .i64 y.x.s,.int .i64 y.x.r,.int .i64 y.x.v,.int .i64 y.x.d] 146)))
    have HKW:Hid (KeptW Ks W (W.alloc (.cells #[.int .i64 y.x.s,.int .i64 y.x.r,.int .i64 y.x.v,.int .i64 y.x.d] 146))):=by
     have hx:Ext W (W.alloc (.cells #[.int .i64 y.x.s,.int .i64 y.x.r,.int .i64 y.x.v,.int .i64 y.x.d] 146)):=Ext.alloc (Below.refl _ W) _
     refine⟨hx.os,hx.tape,hx.output,hx.size,fun kk hk=>hx.block kk ?_⟩
     rw [HKS.out] at hk
     rcases hk with hk | hk
     ·exact Nat.lt_of_lt_of_le hk (Nat.le_trans S.ext.size hE.size)
     ·exact Nat.lt_of_lt_of_le (S.all _ (List.mem_cons_self ..) kk hk).1 hE.size
    have HP1:=Lib.hid hp1
    have HP2:=Lib.hid hp2
    clear hKx S hm hl hp1 hp2 hE
    simp only [ywE]
    gi_wp2
    exact HKX.out _ _ ((keeps_ext (Ext.alloc (Below.refl _ _) _)).from _) HKW.out ⟨q1,c1,q2,c2,HM2.out,SY.out.pick [2,3,4,5,6] (by decide) rfl⟩ ⟨W.heap.size,frStep_of,⟨q1,c1,q2,c2,HM2.out,SY.out⟩,HP1.out,HP2.out⟩
   case body =>
    rintro l pre y a' W _ ⟨gx,hfr,⟨q1,c1,q2,c2,hm,S⟩,hp1,hp2⟩
    have hel:∀ x∈P ++ (pre ++ [y]).map (·.x),x∈M:=fun x hx=>by
     rcases List.mem_append.1 hx with hx | hx
     ·exact HFI.out x ((HD.out.mem x).1 hx).1
     ·rw [hp1] at hx
      exact HFI.out x (boxQ_mem.1 (HBX.out.mem_iff.1 (List.mem_of_mem_take hx))).1
    have hPl:P.length≤400:=by
     have:=noTwo_most (n:=n) HD.out.two fun x hx=>HKN.out x (.inr (HFI.out x ((HD.out.mem x).1 hx).1))
     omega
    have hbx:Bx.length≤100000:=by
     rw [HBX.out.length_eq]
     exact Nat.le_trans (boxQ_len Fr wk h) HFL.out
    have hst2:=HST.out
    have hml:((pre ++ [y]).map (·.x)).length=pre.length+1:=by simp
    have hXl:(st ++ (P ++ pre.map (·.x))).length≤200000:=by
     simp only [List.length_append,List.length_map];omega
    have hZl:((P ++ (pre ++ [y]).map (·.x)).flatMap F).length≤40000000:=by
     have h9:=flatMap_len (f:=F) (P:=P ++ (pre ++ [y]).map (·.x)) (b:=200) (fun x hx=>(HFN.out x (hel x hx)).1)
     rw [List.length_append,hml] at h9
     omega
    have hXE:st ++ (P ++ (pre ++ [y]).map (·.x))=(st ++ (P ++ pre.map (·.x))) ++ [y.x]:=by simp
    have hZE:(P ++ (pre ++ [y]).map (·.x)).flatMap F=((P ++ pre.map (·.x)).flatMap F) ++ F y.x:=by simp
    rw [hZE,List.length_append] at hZl
    obtain⟨X,hX⟩:∃ X,st ++ (P ++ pre.map (·.x))=X:=⟨_,rfl⟩
    obtain⟨Z,hZ⟩:∃ Z,(P ++ pre.map (·.x)).flatMap F=Z:=⟨_,rfl⟩
    obtain⟨FY,hFY⟩:∃ FY,F y.x=FY:=⟨_,rfl⟩
    rw [hX] at hXE hXl S
    rw [hZ] at hZE hZl S
    rw [hFY] at hZE hZl S hfr
    obtain⟨pre2,hpre⟩:∃ pre2,pre ++ [y]=pre2:=⟨_,rfl⟩
    rw [hpre] at hXE hZE ⊢
    obtain⟨yx,hyx⟩:∃ yx,y.x=yx:=⟨_,rfl⟩
    rw [hyx] at hXE S
    have HXE:=Lib.hid hXE
    have HZE:=Lib.hid hZE
    have HMW:=Lib.hid hm
    clear hXE hZE hX hZ hFY hpre hyx hel hp1 hp2 hml hm hPl hbx hst2
    have b0:W.cell? ⟨gN,0,none⟩=some (.slice q1 X.length c1):=(S.blk 3 rfl).cell 0
    have bz:=(S.blk 3 rfl).lt
    obtain⟨x0,x1,x2,x3,xz⟩:=bkc0c1c2c3l (S.blk 0 rfl)
    simp at x0 x1 x2 x3
    have SH:=Lib.hid S;clear S
    have kE:=Lib.hid (keeps_ext (Ext.alloc (Below.refl _ W) (.cells #[.int .i64 yx.s,.int .i64 yx.r,.int .i64 yx.v,.int .i64 yx.d] 146)))
    unfold frStep at hfr
    (repeat obtain⟨_,hfr⟩:=hfr)
    refine wpIn_block ?_
    refine wpIn_seq_k fun K2 hK2=>?_
    have HK2:=Lib.hid hK2
    clear hK2
    refine wpIn_region_list (by rintro⟨_,_,h⟩;exact h) (by kernel_rfl) ?_
    go_wp2_with (at_builtin;go_must (refine wpList_append_sepK rfl _ _ _ rfl 146 j0 _ 4 32 Tryz.underlying85 hj0 hy0 hy1 hy2 rfl (by omega) (SH.out.junk _) 5 q1 X.length c1 _ rfl rfl _ 1 1 _ rfl (Rd.newAt _ _ _ 1 4 _ (by simp) rfl (by omega)) (one_encQ [yx]) (by omega) (by omega) ?_;intro q5 c5 w5 S' hsz hK1;obtain⟨k4,kf,kz⟩:=bkc0z0l (S'.blk 3 rfl);have S5:=Lib.hid S';have K5:=Lib.hid hK1;clear S' hsz hK1))
    have S6:=S5.out.set 3 rfl 0 (.slice q5 (X.length+1) c5)
    have kS:=KeepsOthers.setCell w5 ⟨gN,0,none⟩ (.slice q5 (X.length+1) c5)
    refine HK2.out _ _ ?_
    clear b0 bz x0 x1 x2 x3 xz k4 kf kz
    obtain⟨W6,hW6⟩:∃ W6,w5.setCell ⟨gN,0,none⟩ (.slice q5 (X.length+1) c5)=W6:=⟨_,rfl⟩
    rw [hW6] at S6 kS ⊢
    have KS:=Lib.hid kS
    have b0:W6.cell? ⟨gN+1,0,none⟩=some (.slice q2 Z.length c2):=(S6.blk 4 rfl).cell 0
    have bz:=(S6.blk 4 rfl).lt
    have SI:=Lib.hid S6
    have HRY:=Lib.hid (S6.rdx 1 rfl)
    clear hW6 S6 kS S5 HK2
    refine wpIn_region_list (by rintro⟨_,_,h⟩;exact h) (by kernel_rfl) ?_
    go_wp2_with (at_builtin;go_must (refine wpList_append_sepK rfl _ _ _ rfl 138 i0 _ 4 32 Tryz.underlying83 hi0 hz0 hz1 hz2 rfl (by omega) SI.out 6 q2 Z.length c2 _ rfl rfl _ FY.length y.c _ rfl HRY.out (one_encQ FY) (by omega) (by omega) ?_;intro q7 c7 w7' S' hsz hK1;obtain⟨k4,kf,kz⟩:=bkc0z0l (S'.blk 4 rfl);have S7:=Lib.hid S';have K7:=Lib.hid hK1;clear S' hsz hK1))
    have S8:=S7.out.set 4 rfl 0 (.slice q7 (Z.length+FY.length) c7)
    have kS:=KeepsOthers.setCell w7' ⟨gN+1,0,none⟩ (.slice q7 (Z.length+FY.length) c7)
    have KA:=(((kE.out.trans K5.out).trans KS.out).trans K7.out).trans kS
    refine⟨KA.from _,⟨S8.ext.os.trans SH.out.ext.os.symm,S8.ext.tape.trans SH.out.ext.tape.symm,S8.ext.output.trans SH.out.ext.output.symm,KA.size,fun kk hk=>?_⟩,q5,c5,q7,c7,HMW.out.keeps KA,?_⟩
    ·rw [HKS.out] at hk
     rcases hk with hk | hk
     ·exact(S8.ext.block kk hk).trans (SH.out.ext.block kk hk).symm
     ·exact(S8.all (Pc.fix (footA AA) W11) (by simp) kk hk).2.trans (SH.out.all (Pc.fix (footA AA) W11) (by simp) kk hk).2.symm
    ·rw [HXE.out,HZE.out,List.length_append,List.length_append,encQ_append,encQ_append]
     exact S8.pick [2,3,4,5,6] (by decide) rfl
   case done =>
    rintro D ys W hD hys ⟨q3,c3,q4,c4,hm,S⟩ hK9
    rw [hys] at S
    have HBW:Blk W gw 206 #[.int .i64 k,.int .i64 f,.int .i64 t,.slice pw nw cw,.int .i64 rad,.int .i64 most,.slice po no co,.slice pt nt ct,.slice pr nr cr,.slice pv nv cv,.slice qm hn' cm',.int .i64 0]:=S.fixAt (p:=.blk gw 206 #[.int .i64 k,.int .i64 f,.int .i64 t,.slice pw nw cw,.int .i64 rad,.int .i64 most,.slice po no co,.slice pt nt ct,.slice pr nr cr,.slice pv nv cv,.slice qm hn' cm',.int .i64 0]) (by rw [HAA.out];simp) (HAH.out _ (by rw [HAA.out];simp))
    have b0:W.cell? ⟨gw,11,none⟩=some (.int .i64 0):=HBW.cell 11
    have bz:=HBW.lt
    have by_:=(show W.heap[gw]?=_ from HBW)
    have HDN:Hid (DoneW Fr wk ((ord.take (j+1)).map Int.toNat) (P ++ Bx)):=by
     rw [HH4.out]
     exact doneW_step (by rw [← HFRE.out];exact freshM_keyed _ _) HD.out HH3.out HBX.out
    have HMN:Hid (MarksB w7.heap.size (D :: Ds) W):=hm.cons (fun hin=>by have:=HLT.out D hin;omega) (Nat.le_trans HB7.out hD) hK9
    have HSN:=Lib.hid (S.pick [1,2,3,4] (by decide) rfl:Sep w7 W [.blk gN 85 #[.slice q3 (st ++ (P ++ Bx)).length c3],.blk (gN+1) 83 #[.slice q4 ((P ++ Bx).flatMap F).length c4],.own 146 4 q3 (st ++ (P ++ Bx)).length c3 (encQ (st ++ (P ++ Bx))),.own 138 4 q4 ((P ++ Bx).flatMap F).length c4 (encQ ((P ++ Bx).flatMap F))])
    clear hm S hK9 hys HBW
    go_wp2
    refine HK.out (nn - 1) _ _ _ _ _ _ _ _ _ _ _ _ _ _ _ _ _ _ _ _ _ _ _ _ _ _ _ _ _ _ _ _ _ _ _ _ _ _ _ _ _ _ (by omega) ⟨j+1,P ++ Bx,D :: Ds,q3,c3,q4,c4,by omega,rfl,by go_num,rfl,HDN,HMN,HSN⟩
  ·obtain rfl:wk=j:=by omega
   have hPM:=doneW_all (by omega) HD.out (ordw_all HPO.out)
   have hPl:P.length≤400:=by
    have:=noTwo_most (n:=n) HD.out.two fun x hx=>HKN.out x (.inr (HFI.out x ((HD.out.mem x).1 hx).1))
    omega
   obtain⟨e1,e2⟩:=stepM_sorted (f:=F) (M:=M) HKU.out (P:=P) (fun x=>by rw [HFRE.out];exact hPM x) HD.out.two
   rw [HS'.out] at e1 e2
   have h3:NoTwo (st ++ P):=noTwo_append.2 ⟨keyed_noTwo HKU.out,HD.out.two,fun x hx y hy e=>by
    have hy2:=(hPM y).1 hy
    rw [← HFRE.out] at hy2
    exact(freshM_mem.1 hy2).2 ⟨x,hx,e⟩⟩
   have hst2:=HST.out
   have hXl:(st ++ P).length≤100000:=by rw [List.length_append];omega
   have hZl:(P.flatMap F).length≤100000:=by
    have h9:=flatMap_len (f:=F) (P:=P) (b:=200) (fun x hx=>(HFN.out x (HFI.out x ((HD.out.mem x).1 hx).1)).1)
    omega
   have hSI:∀ x∈S'.1,x.I:=fun x hx=>by
    rw [← e1,sortK_mem] at hx
    rcases List.mem_append.1 hx with hx | hx
    ·exact HSI.out x hx
    ·exact HMI.out x (HFI.out x ((HD.out.mem x).1 hx).1)
   have hMI:∀ y∈P.flatMap F,y.I:=fun y hy=>by
    obtain⟨x,hx,hxy⟩:=List.mem_flatMap.1 hy
    exact(HFN.out x (HFI.out x ((HD.out.mem x).1 hx).1)).2 y hxy
   have hSL:(st ++ P).length=S'.1.length:=by rw [← e1,sortK_len]
   obtain⟨X,hX⟩:∃ X,st ++ P=X:=⟨_,rfl⟩
   obtain⟨Z,hZ⟩:∃ Z,P.flatMap F=Z:=⟨_,rfl⟩
   have SX:Sep w7 wr [.blk gN 85 #[.slice q1 X.length c1],.blk (gN+1) 83 #[.slice q2 Z.length c2],.own 146 4 q1 X.length c1 (encQ X),.own 138 4 q2 Z.length c2 (encQ Z)]:=by rw [← hX,← hZ];exact S.out
   rw [hX] at e1 h3 hXl hSL
   rw [hX,hZ] at e2
   rw [hZ] at hZl hMI
   have HSM:=Lib.hid (SX.marks (cells_all (fun p hp=>by
    simp only [List.mem_cons,List.not_mem_nil,or_false] at hp
    rcases hp with rfl | rfl | rfl | rfl
    ·exact .inl ⟨_,_,_,rfl⟩
    ·exact .inl ⟨_,_,_,rfl⟩
    ·exact .inr ⟨_,_,_,_,_,_,rfl⟩
    ·exact .inr ⟨_,_,_,_,_,_,rfl⟩)) Ds HM.out)
   have HSO:=Lib.hid (SortX_sep HSM.out 2 rfl h3 (by omega))
   rw [e1] at HSO
   have HFS:=Lib.hid (fun W (hs:Rd W 4 q1 X.length (encQ S'.1)) (hm:Rd W 4 q2 Z.length (encQ Z))=>FreshG q1 X.length c1 S'.1 q2 Z.length c2 Z W hs hm hSI hMI hXl hZl)
   have HE2:freshM S'.1 Z=S'.2:=by rw [← e2,e1]
   rw [HE2] at HFS
   have HSL:=Lib.hid hSL
   have b0:wr.cell? ⟨gN,0,none⟩=some (.slice q1 X.length c1):=(SX.blk 0 rfl).cell 0
   have bz:=(SX.blk 0 rfl).lt
   clear e1 e2 h3 hst2 hSI hMI hSL hPM hPl S SX hX hZ HE2 HD hXl hZl
   go_wp2_with (go_at_call 148;go_must (refine HSO.out.mono ?_;rintro e w12 ⟨rfl,Z12⟩;have SS:=Lib.hid (show Sep w7 w12 ([.blk gN 85 #[.slice q1 X.length c1],.blk (gN+1) 83 #[.slice q2 Z.length c2],.own 146 4 q1 X.length c1 (encQ S'.1),.own 138 4 q2 Z.length c2 (encQ Z)] ++ Ds.map fun D=>Pc.obj D (.deferred (some []))) from Z12);clear Z12))
   refine wp_region_noPanic ?_
   refine wp_region_held_drew (S:=fun W=>W.cell? ⟨gN,0,none⟩=some (.slice q1 X.length c1)∧W.cell? ⟨gN+1,0,none⟩=some (.slice q2 Z.length c2)) (by kernel_rfl) ⟨(SS.out.drew.blk 0 rfl).cell 0,(SS.out.drew.blk 1 rfl).cell 0⟩ (fun hHeld=>?_)
   have SD:=Lib.hid SS.out.drew
   clear SS HSO HSM b0 bz
   generalize w12.drew=D at SD hHeld ⊢
   refine wpAnyH_take (i:=0) (v:=.slice q1 X.length c1) rfl (by kernel_rfl) (by kernel_rfl) (by kernel_rfl) (noPanic_q _ _) (Or.inl ⟨by kernel_rfl,fun W hSw=>by have h0:=hSw.1;clear hSw;go_simp⟩) hHeld ?_
   refine wpAnyH_take (i:=1) (v:=.slice q1 X.length c1) rfl (by kernel_rfl) (by kernel_rfl) (by kernel_rfl) (noPanic_q _ _) (Or.inl ⟨by kernel_rfl,fun W hSw=>by have h0:=hSw.1;clear hSw;go_simp⟩) hHeld ?_
   refine wpAnyH_take (i:=2) (v:=.slice q2 Z.length c2) rfl (by kernel_rfl) (by kernel_rfl) (by kernel_rfl) (noPanic_q _ _) (Or.inl ⟨by kernel_rfl,fun W hSw=>by have h0:=hSw.2;clear hSw;go_simp⟩) hHeld ?_
   refine wpAnyH_ready (rs:=[3]) (by kernel_rfl) (by simp) (AllReadyH.cons rfl (fun K hK=>?_) AllReadyH.nil)
   go_simp
   refine(HFS.out D (SD.out.rdx 2 rfl) (SD.out.rdx 3 rfl)).mono ?_
   rintro e w13 ⟨q9,c9,rfl,Z13⟩
   have S13:=Lib.hid (SD.out.comp Z13)
   clear Z13 SD HFS
   refine hK.out _ _ ⟨(S13.out.blk 1 rfl).cell 0,(S13.out.blk 2 rfl).cell 0⟩ (fun hHeld=>?_)
   clear hK
   refine wpAnyH_take (i:=4) (v:=.slice q1 X.length c1) rfl (by kernel_rfl) (by kernel_rfl) (by kernel_rfl) (noPanic_q _ _) (Or.inl ⟨by kernel_rfl,fun W hSw=>by skip;clear hSw;go_simp⟩) hHeld ?_
   refine wpAnyH_take (i:=5) (v:=.slice q9 S'.2.length c9) rfl (by kernel_rfl) (by kernel_rfl) (by kernel_rfl) (noPanic_q _ _) (Or.inl ⟨by kernel_rfl,fun W hSw=>by skip;clear hSw;go_simp⟩) hHeld ?_
   refine wpAnyH_take (i:=6) (v:=.int .i64 0) rfl (by kernel_rfl) (by kernel_rfl) (by kernel_rfl) (noPanic_q _ _) (Or.inl ⟨by kernel_rfl,fun W hSw=>by skip;clear hSw;go_simp⟩) hHeld ?_
   refine wpAnyH_done (by kernel_rfl) ?_ _
   refine noPanic_mk ?_
   clear hHeld
   have SU:=Lib.hid (Sep.unmarks (Γ:=[.own 138 4 q9 S'.2.length c9 (encQ S'.2),.blk gN 85 #[.slice q1 X.length c1],.blk (gN+1) 83 #[.slice q2 Z.length c2],.own 146 4 q1 X.length c1 (encQ S'.1),.own 138 4 q2 Z.length c2 (encQ Z)]) (Ds:=Ds) (w:=wr) HM.out S13.out)
   simp [Act.put]
   go_wp2
   try rw [Exit.noGoto_ret]
   refine leaves_marks (fun W=>Sep w7 W [.own 138 4 q9 S'.2.length c9 (encQ S'.2),.own 146 4 q1 X.length c1 (encQ S'.1)]) w7.heap.size (fun W D hB hD hS=>hS.putObj (cells_all (fun p hp=>by
    simp only [List.mem_cons,List.not_mem_nil,or_false] at hp
    rcases hp with rfl | rfl
    ·exact .inr ⟨_,_,_,_,_,_,rfl⟩
    ·exact .inr ⟨_,_,_,_,_,_,rfl⟩)) (.deferred none) hB hD rfl) (fun W hS=>⟨.tuple #[.slice q1 X.length c1,.slice q9 S'.2.length c9,.int .i64 0],by simp [results,Tryz.results94,go_sem],?_⟩) Ds _ SU.out.2 (SU.out.1.pick [0,3] (by decide) rfl)
   rw [HSL.out] at hS ⊢
   exact⟨q1,c1,q9,c9,rfl,(((Sep.start w).call HE7.out).comp (hS.pick [1,0] (by decide) rfl:Sep w7 W [.own 146 4 q1 S'.1.length c1 (encQ S'.1),.own 138 4 q9 S'.2.length c9 (encQ S'.2)])).pick [0,1] (by decide) rfl⟩
end
section
open Go Go.RowKit
def nextC (ck:Bool) (O R:List Int) (x:Sq):Int:=nxC ck (outB ck (if x.r=1 then R else O) x.v) x
def nextL (k rad:Int) (ck:Bool) (O T R V:List Int) (x:Sq):List Sq:=nxL k rad (nextC ck O R x) x (if x.r=1 then outL ck R V x.v else outL ck O T x.v)
theorem outL_I {ck:Bool} {A B:List Int} {v:Int} (hB:B.length≤2000):(outL ck A B v).length≤2000:=by
 unfold outL
 split
 ·unfold rowL;rw [List.length_take,List.length_drop];omega
 ·simp
theorem NextIn (k f t:Int) (pw:Option Addr) (nw cw:Nat) (rad most:Int) (po:Option Addr) (no co:Nat) (O:List Int) (pt:Option Addr) (nt ct:Nat) (T:List Int) (pr:Option Addr) (nr cr:Nat) (R:List Int) (pv:Option Addr) (nv cv:Nat) (V:List Int) (w:World) (s v d:Int) (hO:Rd w 1 po no (encI O)) (hT:Rd w 1 pt nt (encI T)) (hR:Rd w 1 pr nr (encI R)) (hV:Rd w 1 pv nv (encI V)) (hct:nt≤ct) (hcv:nv≤cv) (hb:checkR O T R V=true→(outL (checkR O T R V) R V v).length≤100000) :
  Calls Tryz.prog 213 #[.agg #[.int .i64 k,.int .i64 f,.int .i64 t,.slice pw nw cw,.int .i64 rad,.int .i64 most],.agg #[.slice po no co,.slice pt nt ct,.slice pr nr cr,.slice pv nv cv],.agg #[.int .i64 s,.int .i64 1,.int .i64 v,.int .i64 d]] w fun e w'=>∃ q c,e=.returned (.tuple #[.slice q (nextL k rad (checkR O T R V) O T R V ⟨s,1,v,d⟩).length c,.int .i64 (nextC (checkR O T R V) O R ⟨s,1,v,d⟩)])∧Sep w w' [.own 138 4 q (nextL k rad (checkR O T R V) O T R V ⟨s,1,v,d⟩).length c (encQ (nextL k rad (checkR O T R V) O T R V ⟨s,1,v,d⟩))]:=by
 obtain⟨i0,hi0,hz0,hz1,hz2⟩:=info_parts infMail
 have S0:=Lib.hid ((((Sep.start w).al #[.int .i64 k,.int .i64 f,.int .i64 t,.slice pw nw cw,.int .i64 rad,.int .i64 most] 24 w.heap.size rfl).al #[.slice po no co,.slice pt nt ct,.slice pr nr cr,.slice pv nv cv] 27 (w.heap.size+1) (by simp)).al #[.int .i64 s,.int .i64 1,.int .i64 v,.int .i64 d] 146 (w.heap.size+1+1) (by simp))
 have HC:=Lib.hid (fun W1 (h:Ext w W1)=>CheckR po no co O pt nt ct T pr nr cr R pv nv cv V W1 (hO.ext h) (hT.ext h) (hR.ext h) (hV.ext h) hct hcv)
 have HG:=Lib.hid (fun W1 (h:Ext w W1)=>InG po no co O pt nt ct T pr nr cr R pv nv cv V W1 v (hO.ext h) (hT.ext h) (hR.ext h) (hV.ext h) hct hcv)
 unfold nextL nextC
 simp only [if_true]
 clear hO hT hR hV
 cases hck:checkR O T R V with
 | false =>
  rw [hck] at HC HG
  rw [nxC_40,nxL_no (Or.inl (by decide))]
  clear hck hb
  generalize outL false R V v=L at *
  generalize outB false R v=ob at *
  go_enter Tryz.func213,Tryz.ntmps213
  go_wp2_with (first | (go_at_call 82;go_must (refine(HC.out _ S1.out.ext).mono ?_;rintro e w2 ⟨rfl,hb⟩;have S2:=Lib.hid (S1.out.call hb);clear y0 y1 y2 y3 yz b0 b1 b2 b3 bz hb;obtain⟨y0,y1,y2,y3,yz⟩:=bkc0c1c2c3l (S2.out.blk 1 rfl);obtain⟨a0,a4,az⟩:=bkc0c4l (S2.out.blk 3 rfl))) | (go_at_call 245;go_must (refine(HG.out _ S0.out.ext).mono ?_;rintro e w1 ⟨q,c,rfl,Z⟩;have S1:=Lib.hid (S0.out.comp Z);obtain⟨y0,y1,y2,y3,yz⟩:=bkc0c1c2c3l (S1.out.blk 1 rfl);obtain⟨b0,b1,b2,b3,bz⟩:=bkc0c1c2c3l (S1.out.blk 2 rfl);clear Z)))
  go_ret2
  exact⟨none,0,rfl,(S2.out.nilrow _ _).pick [0] (by decide) rfl⟩
 | true =>
  rw [hck] at HC HG
  have hbL:=hb hck
  rw [hck] at hbL
  clear hck hb
  generalize outL true R V v=L at *
  cases hob:outB true R v with
  | false =>
   rw [hob] at HG
   rw [nxC_1 (fun h=>by cases h.1),nxL_no (Or.inl (by decide))]
   clear hob
   go_enter Tryz.func213,Tryz.ntmps213
   go_wp2_with (first | (go_at_call 82;go_must (refine(HC.out _ S1.out.ext).mono ?_;rintro e w2 ⟨rfl,hb⟩;have S2:=Lib.hid (S1.out.call hb);clear y0 y1 y2 y3 yz b0 b1 b2 b3 bz hb;obtain⟨y0,y1,y2,y3,yz⟩:=bkc0c1c2c3l (S2.out.blk 1 rfl);obtain⟨a0,a4,az⟩:=bkc0c4l (S2.out.blk 3 rfl))) | (go_at_call 245;go_must (refine(HG.out _ S0.out.ext).mono ?_;rintro e w1 ⟨q,c,rfl,Z⟩;have S1:=Lib.hid (S0.out.comp Z);obtain⟨y0,y1,y2,y3,yz⟩:=bkc0c1c2c3l (S1.out.blk 1 rfl);obtain⟨b0,b1,b2,b3,bz⟩:=bkc0c1c2c3l (S1.out.blk 2 rfl);clear Z)))
   go_ret2
   exact⟨none,0,rfl,(S2.out.nilrow _ _).pick [0] (by decide) rfl⟩
  | true =>
   rw [hob] at HG
   clear hob
   by_cases hd:0≤d∧d≤200
   ·rw [nxC_0 ⟨rfl,Or.inr rfl,hd⟩]
    obtain⟨hd0,hd1⟩:=hd
    by_cases h3:k=3∧rad≤d
    ·rw [nxL_no (Or.inr h3)]
     obtain⟨rfl,h3⟩:=h3
     go_enter Tryz.func213,Tryz.ntmps213
     go_wp2_with (first | (go_at_call 82;go_must (refine(HC.out _ S1.out.ext).mono ?_;rintro e w2 ⟨rfl,hb⟩;have S2:=Lib.hid (S1.out.call hb);clear y0 y1 y2 y3 yz b0 b1 b2 b3 bz hb;obtain⟨y0,y1,y2,y3,yz⟩:=bkc0c1c2c3l (S2.out.blk 1 rfl);obtain⟨a0,a4,az⟩:=bkc0c4l (S2.out.blk 3 rfl))) | (go_at_call 245;go_must (refine(HG.out _ S0.out.ext).mono ?_;rintro e w1 ⟨q,c,rfl,Z⟩;have S1:=Lib.hid (S0.out.comp Z);obtain⟨y0,y1,y2,y3,yz⟩:=bkc0c1c2c3l (S1.out.blk 1 rfl);obtain⟨b0,b1,b2,b3,bz⟩:=bkc0c1c2c3l (S1.out.blk 2 rfl);clear Z)))
     go_ret2
     exact⟨none,0,rfl,(S2.out.nilrow _ _).pick [0] (by decide) rfl⟩
    ·rw [nxL_yes rfl h3,List.length_map]
     have HL:=Lib.hid hbL
     clear hbL
     have H3:Hid (k=3→d<rad):=fun e=>Int.not_le.1 fun h=>h3 ⟨e,h⟩
     have hk3:(k == 3)=true∧decide (rad≤d)=false∨(k == 3)=false:=by
      by_cases e:k=3
      ·exact .inl ⟨by simpa using e,by simpa using H3.out e⟩
      ·exact .inr (by simpa using e)
     clear H3 h3
     rcases hk3 with ⟨k3,k4⟩ | k3
     ·obtain rfl:k=3:=by simpa using k3
      clear k3
      go_enter Tryz.func213,Tryz.ntmps213
      go_wp2_with (first | (go_at_call 82;go_must (refine(HC.out _ S1.out.ext).mono ?_;rintro e w2 ⟨rfl,hb⟩;have S2:=Lib.hid (S1.out.call hb);clear y0 y1 y2 y3 yz b0 b1 b2 b3 bz hb;obtain⟨y0,y1,y2,y3,yz⟩:=bkc0c1c2c3l (S2.out.blk 1 rfl);obtain⟨a0,a4,az⟩:=bkc0c4l (S2.out.blk 3 rfl))) | (go_at_call 245;go_must (refine(HG.out _ S0.out.ext).mono ?_;rintro e w1 ⟨q,c,rfl,Z⟩;have S1:=Lib.hid (S0.out.comp Z);obtain⟨y0,y1,y2,y3,yz⟩:=bkc0c1c2c3l (S1.out.blk 1 rfl);obtain⟨b0,b1,b2,b3,bz⟩:=bkc0c1c2c3l (S1.out.blk 2 rfl);clear Z)))
      have nL:=Lib.hid ((S2.out.rdx 0 rfl).nI)
      have pL:=(S2.out.rdx 0 rfl).ptr
      have sL:=(S2.out.rdx 0 rfl).small
      have S3:=Lib.hid ((S2.out.nilrow 138 4).pick [0,1,2] (by decide) rfl:Sep w w2 [.own 138 4 none 0 0 [],.own 3 1 q L.length c (encI L),.blk (w.heap.size+1+1) 146 #[.int .i64 s,.int .i64 1,.int .i64 v,.int .i64 d]])
      clear y0 y1 y2 y3 yz a0 a4 az S2 S1 S0 HC HG
      go_loopw [11,13,69] (fun m _ i wr=>∃ (j:Nat) (q':Option Addr) (c':Nat),j≤L.length∧i=.int .i64 j∧m=.slice q' j c'∧Sep w wr [.own 138 4 q' j c' (encQ ((L.take j).map fun v=>(⟨s,1,v,d+1⟩:Sq))),.own 3 1 q L.length c (encI L),.blk (w.heap.size+1+1) 146 #[.int .i64 s,.int .i64 1,.int .i64 v,.int .i64 d]]) (fun _ _ i _=>L.length - (intOf i).toNat)
      case atStart=>exact⟨0,none,0,Nat.zero_le _,rfl,rfl,S3.out⟩
      case round =>
       clear S3
       obtain⟨j,q',c',hj,rfl,rfl,S⟩:=hrel
       by_cases hlt:j<L.length
       ·have g1:=(S.rdx 1 rfl).cI hlt
        have HT:=Lib.hid (take_succ_nth L j hlt)
        have d1:(0:Int)≤j:=by omega
        have d2:(j:Int)<L.length:=by omega
        have hl:=HL.out
        have y0:=((Lib.hid S).out.blk 2 rfl).cell 0;have y1:=((Lib.hid S).out.blk 2 rfl).cell 1;have y2:=((Lib.hid S).out.blk 2 rfl).cell 2;have y3:=((Lib.hid S).out.blk 2 rfl).cell 3;have yz:=((Lib.hid S).out.blk 2 rfl).lt
        have SH:=Lib.hid S;clear S
        generalize nth L j=u at *
        go_wp2_with (at_builtin;go_must (refine wpList_append_sep rfl _ _ _ rfl 138 i0 _ 4 32 Tryz.underlying83 hi0 hz0 hz1 hz2 rfl (by omega) (SH.out.junk _) 0 q' j c' _ rfl rfl _ 1 1 _ rfl (Rd.oneQ _ _ ⟨s,1,u,d+1⟩) (one_encQ _) (by omega) (by omega) ?_;intro q7 c7 w7 S' hsz;have S7:=Lib.hid S';clear S' hsz))
        go_roundw
        case rel=>exact⟨j+1,q7,c7,by omega,by go_num,rfl,by rw [HT.out,List.map_append,encQ_append];exact S7.out⟩
        case measure=>simp [intOf];omega
       ·obtain rfl:j=L.length:=by omega
        rw [List.take_length] at S
        have SH:=Lib.hid S;clear S
        go_wp2
        go_ret2
        exact⟨q',c',rfl,SH.out.pick [0] (by decide) rfl⟩
     ·go_enter Tryz.func213,Tryz.ntmps213
      go_wp2_with (first | (go_at_call 82;go_must (refine(HC.out _ S1.out.ext).mono ?_;rintro e w2 ⟨rfl,hb⟩;have S2:=Lib.hid (S1.out.call hb);clear y0 y1 y2 y3 yz b0 b1 b2 b3 bz hb;obtain⟨y0,y1,y2,y3,yz⟩:=bkc0c1c2c3l (S2.out.blk 1 rfl);obtain⟨a0,a4,az⟩:=bkc0c4l (S2.out.blk 3 rfl))) | (go_at_call 245;go_must (refine(HG.out _ S0.out.ext).mono ?_;rintro e w1 ⟨q,c,rfl,Z⟩;have S1:=Lib.hid (S0.out.comp Z);obtain⟨y0,y1,y2,y3,yz⟩:=bkc0c1c2c3l (S1.out.blk 1 rfl);obtain⟨b0,b1,b2,b3,bz⟩:=bkc0c1c2c3l (S1.out.blk 2 rfl);clear Z)))
      have nL:=Lib.hid ((S2.out.rdx 0 rfl).nI)
      have pL:=(S2.out.rdx 0 rfl).ptr
      have sL:=(S2.out.rdx 0 rfl).small
      have S3:=Lib.hid ((S2.out.nilrow 138 4).pick [0,1,2] (by decide) rfl:Sep w w2 [.own 138 4 none 0 0 [],.own 3 1 q L.length c (encI L),.blk (w.heap.size+1+1) 146 #[.int .i64 s,.int .i64 1,.int .i64 v,.int .i64 d]])
      clear y0 y1 y2 y3 yz a0 a4 az S2 S1 S0 HC HG
      go_loopw [11,13,69] (fun m _ i wr=>∃ (j:Nat) (q':Option Addr) (c':Nat),j≤L.length∧i=.int .i64 j∧m=.slice q' j c'∧Sep w wr [.own 138 4 q' j c' (encQ ((L.take j).map fun v=>(⟨s,1,v,d+1⟩:Sq))),.own 3 1 q L.length c (encI L),.blk (w.heap.size+1+1) 146 #[.int .i64 s,.int .i64 1,.int .i64 v,.int .i64 d]]) (fun _ _ i _=>L.length - (intOf i).toNat)
      case atStart=>exact⟨0,none,0,Nat.zero_le _,rfl,rfl,S3.out⟩
      case round =>
       clear S3
       obtain⟨j,q',c',hj,rfl,rfl,S⟩:=hrel
       by_cases hlt:j<L.length
       ·have g1:=(S.rdx 1 rfl).cI hlt
        have HT:=Lib.hid (take_succ_nth L j hlt)
        have d1:(0:Int)≤j:=by omega
        have d2:(j:Int)<L.length:=by omega
        have hl:=HL.out
        have y0:=((Lib.hid S).out.blk 2 rfl).cell 0;have y1:=((Lib.hid S).out.blk 2 rfl).cell 1;have y2:=((Lib.hid S).out.blk 2 rfl).cell 2;have y3:=((Lib.hid S).out.blk 2 rfl).cell 3;have yz:=((Lib.hid S).out.blk 2 rfl).lt
        have SH:=Lib.hid S;clear S
        generalize nth L j=u at *
        go_wp2_with (at_builtin;go_must (refine wpList_append_sep rfl _ _ _ rfl 138 i0 _ 4 32 Tryz.underlying83 hi0 hz0 hz1 hz2 rfl (by omega) (SH.out.junk _) 0 q' j c' _ rfl rfl _ 1 1 _ rfl (Rd.oneQ _ _ ⟨s,1,u,d+1⟩) (one_encQ _) (by omega) (by omega) ?_;intro q7 c7 w7 S' hsz;have S7:=Lib.hid S';clear S' hsz))
        go_roundw
        case rel=>exact⟨j+1,q7,c7,by omega,by go_num,rfl,by rw [HT.out,List.map_append,encQ_append];exact S7.out⟩
        case measure=>simp [intOf];omega
       ·obtain rfl:j=L.length:=by omega
        rw [List.take_length] at S
        have SH:=Lib.hid S;clear S
        go_wp2
        go_ret2
        exact⟨q',c',rfl,SH.out.pick [0] (by decide) rfl⟩
   ·rw [nxC_1 (fun h=>hd h.2.2),nxL_no (Or.inl (by decide))]
    by_cases hd0:0≤d
    ·have e1:decide (d<0)=false:=by simpa using hd0
     have e2:decide (200<d)=true:=by simp;omega
     clear hd
     go_enter Tryz.func213,Tryz.ntmps213
     go_wp2_with (first | (go_at_call 82;go_must (refine(HC.out _ S1.out.ext).mono ?_;rintro e w2 ⟨rfl,hb⟩;have S2:=Lib.hid (S1.out.call hb);clear y0 y1 y2 y3 yz b0 b1 b2 b3 bz hb;obtain⟨y0,y1,y2,y3,yz⟩:=bkc0c1c2c3l (S2.out.blk 1 rfl);obtain⟨a0,a4,az⟩:=bkc0c4l (S2.out.blk 3 rfl))) | (go_at_call 245;go_must (refine(HG.out _ S0.out.ext).mono ?_;rintro e w1 ⟨q,c,rfl,Z⟩;have S1:=Lib.hid (S0.out.comp Z);obtain⟨y0,y1,y2,y3,yz⟩:=bkc0c1c2c3l (S1.out.blk 1 rfl);obtain⟨b0,b1,b2,b3,bz⟩:=bkc0c1c2c3l (S1.out.blk 2 rfl);clear Z)))
     go_ret2
     exact⟨none,0,rfl,(S2.out.nilrow _ _).pick [0] (by decide) rfl⟩
    ·have e1:decide (d<0)=true:=by simpa using hd0
     clear hd
     go_enter Tryz.func213,Tryz.ntmps213
     go_wp2_with (first | (go_at_call 82;go_must (refine(HC.out _ S1.out.ext).mono ?_;rintro e w2 ⟨rfl,hb⟩;have S2:=Lib.hid (S1.out.call hb);clear y0 y1 y2 y3 yz b0 b1 b2 b3 bz hb;obtain⟨y0,y1,y2,y3,yz⟩:=bkc0c1c2c3l (S2.out.blk 1 rfl);obtain⟨a0,a4,az⟩:=bkc0c4l (S2.out.blk 3 rfl))) | (go_at_call 245;go_must (refine(HG.out _ S0.out.ext).mono ?_;rintro e w1 ⟨q,c,rfl,Z⟩;have S1:=Lib.hid (S0.out.comp Z);obtain⟨y0,y1,y2,y3,yz⟩:=bkc0c1c2c3l (S1.out.blk 1 rfl);obtain⟨b0,b1,b2,b3,bz⟩:=bkc0c1c2c3l (S1.out.blk 2 rfl);clear Z)))
     go_ret2
     exact⟨none,0,rfl,(S2.out.nilrow _ _).pick [0] (by decide) rfl⟩
theorem NextOut (k f t:Int) (pw:Option Addr) (nw cw:Nat) (rad most:Int) (po:Option Addr) (no co:Nat) (O:List Int) (pt:Option Addr) (nt ct:Nat) (T:List Int) (pr:Option Addr) (nr cr:Nat) (R:List Int) (pv:Option Addr) (nv cv:Nat) (V:List Int) (w:World) (s v d:Int) (hO:Rd w 1 po no (encI O)) (hT:Rd w 1 pt nt (encI T)) (hR:Rd w 1 pr nr (encI R)) (hV:Rd w 1 pv nv (encI V)) (hct:nt≤ct) (hcv:nv≤cv) (hb:checkR O T R V=true→(outL (checkR O T R V) O T v).length≤100000) :
  Calls Tryz.prog 213 #[.agg #[.int .i64 k,.int .i64 f,.int .i64 t,.slice pw nw cw,.int .i64 rad,.int .i64 most],.agg #[.slice po no co,.slice pt nt ct,.slice pr nr cr,.slice pv nv cv],.agg #[.int .i64 s,.int .i64 0,.int .i64 v,.int .i64 d]] w fun e w'=>∃ q c,e=.returned (.tuple #[.slice q (nextL k rad (checkR O T R V) O T R V ⟨s,0,v,d⟩).length c,.int .i64 (nextC (checkR O T R V) O R ⟨s,0,v,d⟩)])∧Sep w w' [.own 138 4 q (nextL k rad (checkR O T R V) O T R V ⟨s,0,v,d⟩).length c (encQ (nextL k rad (checkR O T R V) O T R V ⟨s,0,v,d⟩))]:=by
 obtain⟨i0,hi0,hz0,hz1,hz2⟩:=info_parts infMail
 have S0:=Lib.hid ((((Sep.start w).al #[.int .i64 k,.int .i64 f,.int .i64 t,.slice pw nw cw,.int .i64 rad,.int .i64 most] 24 w.heap.size rfl).al #[.slice po no co,.slice pt nt ct,.slice pr nr cr,.slice pv nv cv] 27 (w.heap.size+1) (by simp)).al #[.int .i64 s,.int .i64 0,.int .i64 v,.int .i64 d] 146 (w.heap.size+1+1) (by simp))
 have HC:=Lib.hid (fun W1 (h:Ext w W1)=>CheckR po no co O pt nt ct T pr nr cr R pv nv cv V W1 (hO.ext h) (hT.ext h) (hR.ext h) (hV.ext h) hct hcv)
 have HG:=Lib.hid (fun W1 (h:Ext w W1)=>OutG po no co O pt nt ct T pr nr cr R pv nv cv V W1 v (hO.ext h) (hT.ext h) (hR.ext h) (hV.ext h) hct hcv)
 unfold nextL nextC
 have hdir:((0:Int)=1)=False:=by decide
 simp only [hdir,if_false]
 clear hdir
 clear hO hT hR hV
 cases hck:checkR O T R V with
 | false =>
  rw [hck] at HC HG
  rw [nxC_40,nxL_no (Or.inl (by decide))]
  clear hck hb
  generalize outL false O T v=L at *
  generalize outB false O v=ob at *
  go_enter Tryz.func213,Tryz.ntmps213
  go_wp2_with (first | (go_at_call 82;go_must (refine(HC.out _ S1.out.ext).mono ?_;rintro e w2 ⟨rfl,hb⟩;have S2:=Lib.hid (S1.out.call hb);clear y0 y1 y2 y3 yz b0 b1 b2 b3 bz hb;obtain⟨y0,y1,y2,y3,yz⟩:=bkc0c1c2c3l (S2.out.blk 1 rfl);obtain⟨a0,a4,az⟩:=bkc0c4l (S2.out.blk 3 rfl))) | (go_at_call 244;go_must (refine(HG.out _ S0.out.ext).mono ?_;rintro e w1 ⟨q,c,rfl,Z⟩;have S1:=Lib.hid (S0.out.comp Z);obtain⟨y0,y1,y2,y3,yz⟩:=bkc0c1c2c3l (S1.out.blk 1 rfl);obtain⟨b0,b1,b2,b3,bz⟩:=bkc0c1c2c3l (S1.out.blk 2 rfl);clear Z)))
  go_ret2
  exact⟨none,0,rfl,(S2.out.nilrow _ _).pick [0] (by decide) rfl⟩
 | true =>
  rw [hck] at HC HG
  have hbL:=hb hck
  rw [hck] at hbL
  clear hck hb
  generalize outL true O T v=L at *
  cases hob:outB true O v with
  | false =>
   rw [hob] at HG
   rw [nxC_1 (fun h=>by cases h.1),nxL_no (Or.inl (by decide))]
   clear hob
   go_enter Tryz.func213,Tryz.ntmps213
   go_wp2_with (first | (go_at_call 82;go_must (refine(HC.out _ S1.out.ext).mono ?_;rintro e w2 ⟨rfl,hb⟩;have S2:=Lib.hid (S1.out.call hb);clear y0 y1 y2 y3 yz b0 b1 b2 b3 bz hb;obtain⟨y0,y1,y2,y3,yz⟩:=bkc0c1c2c3l (S2.out.blk 1 rfl);obtain⟨a0,a4,az⟩:=bkc0c4l (S2.out.blk 3 rfl))) | (go_at_call 244;go_must (refine(HG.out _ S0.out.ext).mono ?_;rintro e w1 ⟨q,c,rfl,Z⟩;have S1:=Lib.hid (S0.out.comp Z);obtain⟨y0,y1,y2,y3,yz⟩:=bkc0c1c2c3l (S1.out.blk 1 rfl);obtain⟨b0,b1,b2,b3,bz⟩:=bkc0c1c2c3l (S1.out.blk 2 rfl);clear Z)))
   go_ret2
   exact⟨none,0,rfl,(S2.out.nilrow _ _).pick [0] (by decide) rfl⟩
  | true =>
   rw [hob] at HG
   clear hob
   by_cases hd:0≤d∧d≤200
   ·rw [nxC_0 ⟨rfl,Or.inl rfl,hd⟩]
    obtain⟨hd0,hd1⟩:=hd
    by_cases h3:k=3∧rad≤d
    ·rw [nxL_no (Or.inr h3)]
     obtain⟨rfl,h3⟩:=h3
     go_enter Tryz.func213,Tryz.ntmps213
     go_wp2_with (first | (go_at_call 82;go_must (refine(HC.out _ S1.out.ext).mono ?_;rintro e w2 ⟨rfl,hb⟩;have S2:=Lib.hid (S1.out.call hb);clear y0 y1 y2 y3 yz b0 b1 b2 b3 bz hb;obtain⟨y0,y1,y2,y3,yz⟩:=bkc0c1c2c3l (S2.out.blk 1 rfl);obtain⟨a0,a4,az⟩:=bkc0c4l (S2.out.blk 3 rfl))) | (go_at_call 244;go_must (refine(HG.out _ S0.out.ext).mono ?_;rintro e w1 ⟨q,c,rfl,Z⟩;have S1:=Lib.hid (S0.out.comp Z);obtain⟨y0,y1,y2,y3,yz⟩:=bkc0c1c2c3l (S1.out.blk 1 rfl);obtain⟨b0,b1,b2,b3,bz⟩:=bkc0c1c2c3l (S1.out.blk 2 rfl);clear Z)))
     go_ret2
     exact⟨none,0,rfl,(S2.out.nilrow _ _).pick [0] (by decide) rfl⟩
    ·rw [nxL_yes rfl h3,List.length_map]
     have HL:=Lib.hid hbL
     clear hbL
     have H3:Hid (k=3→d<rad):=fun e=>Int.not_le.1 fun h=>h3 ⟨e,h⟩
     have hk3:(k == 3)=true∧decide (rad≤d)=false∨(k == 3)=false:=by
      by_cases e:k=3
      ·exact .inl ⟨by simpa using e,by simpa using H3.out e⟩
      ·exact .inr (by simpa using e)
     clear H3 h3
     rcases hk3 with ⟨k3,k4⟩ | k3
     ·obtain rfl:k=3:=by simpa using k3
      clear k3
      go_enter Tryz.func213,Tryz.ntmps213
      go_wp2_with (first | (go_at_call 82;go_must (refine(HC.out _ S1.out.ext).mono ?_;rintro e w2 ⟨rfl,hb⟩;have S2:=Lib.hid (S1.out.call hb);clear y0 y1 y2 y3 yz b0 b1 b2 b3 bz hb;obtain⟨y0,y1,y2,y3,yz⟩:=bkc0c1c2c3l (S2.out.blk 1 rfl);obtain⟨a0,a4,az⟩:=bkc0c4l (S2.out.blk 3 rfl))) | (go_at_call 244;go_must (refine(HG.out _ S0.out.ext).mono ?_;rintro e w1 ⟨q,c,rfl,Z⟩;have S1:=Lib.hid (S0.out.comp Z);obtain⟨y0,y1,y2,y3,yz⟩:=bkc0c1c2c3l (S1.out.blk 1 rfl);obtain⟨b0,b1,b2,b3,bz⟩:=bkc0c1c2c3l (S1.out.blk 2 rfl);clear Z)))
      have nL:=Lib.hid ((S2.out.rdx 0 rfl).nI)
      have pL:=(S2.out.rdx 0 rfl).ptr
      have sL:=(S2.out.rdx 0 rfl).small
      have S3:=Lib.hid ((S2.out.nilrow 138 4).pick [0,1,2] (by decide) rfl:Sep w w2 [.own 138 4 none 0 0 [],.own 3 1 q L.length c (encI L),.blk (w.heap.size+1+1) 146 #[.int .i64 s,.int .i64 0,.int .i64 v,.int .i64 d]])
      clear y0 y1 y2 y3 yz a0 a4 az S2 S1 S0 HC HG
      go_loopw [11,13,69] (fun m _ i wr=>∃ (j:Nat) (q':Option Addr) (c':Nat),j≤L.length∧i=.int .i64 j∧m=.slice q' j c'∧Sep w wr [.own 138 4 q' j c' (encQ ((L.take j).map fun v=>(⟨s,0,v,d+1⟩:Sq))),.own 3 1 q L.length c (encI L),.blk (w.heap.size+1+1) 146 #[.int .i64 s,.int .i64 0,.int .i64 v,.int .i64 d]]) (fun _ _ i _=>L.length - (intOf i).toNat)
      case atStart=>exact⟨0,none,0,Nat.zero_le _,rfl,rfl,S3.out⟩
      case round =>
       clear S3
       obtain⟨j,q',c',hj,rfl,rfl,S⟩:=hrel
       by_cases hlt:j<L.length
       ·have g1:=(S.rdx 1 rfl).cI hlt
        have HT:=Lib.hid (take_succ_nth L j hlt)
        have d1:(0:Int)≤j:=by omega
        have d2:(j:Int)<L.length:=by omega
        have hl:=HL.out
        have y0:=((Lib.hid S).out.blk 2 rfl).cell 0;have y1:=((Lib.hid S).out.blk 2 rfl).cell 1;have y2:=((Lib.hid S).out.blk 2 rfl).cell 2;have y3:=((Lib.hid S).out.blk 2 rfl).cell 3;have yz:=((Lib.hid S).out.blk 2 rfl).lt
        have SH:=Lib.hid S;clear S
        generalize nth L j=u at *
        go_wp2_with (at_builtin;go_must (refine wpList_append_sep rfl _ _ _ rfl 138 i0 _ 4 32 Tryz.underlying83 hi0 hz0 hz1 hz2 rfl (by omega) (SH.out.junk _) 0 q' j c' _ rfl rfl _ 1 1 _ rfl (Rd.oneQ _ _ ⟨s,0,u,d+1⟩) (one_encQ _) (by omega) (by omega) ?_;intro q7 c7 w7 S' hsz;have S7:=Lib.hid S';clear S' hsz))
        go_roundw
        case rel=>exact⟨j+1,q7,c7,by omega,by go_num,rfl,by rw [HT.out,List.map_append,encQ_append];exact S7.out⟩
        case measure=>simp [intOf];omega
       ·obtain rfl:j=L.length:=by omega
        rw [List.take_length] at S
        have SH:=Lib.hid S;clear S
        go_wp2
        go_ret2
        exact⟨q',c',rfl,SH.out.pick [0] (by decide) rfl⟩
     ·go_enter Tryz.func213,Tryz.ntmps213
      go_wp2_with (first | (go_at_call 82;go_must (refine(HC.out _ S1.out.ext).mono ?_;rintro e w2 ⟨rfl,hb⟩;have S2:=Lib.hid (S1.out.call hb);clear y0 y1 y2 y3 yz b0 b1 b2 b3 bz hb;obtain⟨y0,y1,y2,y3,yz⟩:=bkc0c1c2c3l (S2.out.blk 1 rfl);obtain⟨a0,a4,az⟩:=bkc0c4l (S2.out.blk 3 rfl))) | (go_at_call 244;go_must (refine(HG.out _ S0.out.ext).mono ?_;rintro e w1 ⟨q,c,rfl,Z⟩;have S1:=Lib.hid (S0.out.comp Z);obtain⟨y0,y1,y2,y3,yz⟩:=bkc0c1c2c3l (S1.out.blk 1 rfl);obtain⟨b0,b1,b2,b3,bz⟩:=bkc0c1c2c3l (S1.out.blk 2 rfl);clear Z)))
      have nL:=Lib.hid ((S2.out.rdx 0 rfl).nI)
      have pL:=(S2.out.rdx 0 rfl).ptr
      have sL:=(S2.out.rdx 0 rfl).small
      have S3:=Lib.hid ((S2.out.nilrow 138 4).pick [0,1,2] (by decide) rfl:Sep w w2 [.own 138 4 none 0 0 [],.own 3 1 q L.length c (encI L),.blk (w.heap.size+1+1) 146 #[.int .i64 s,.int .i64 0,.int .i64 v,.int .i64 d]])
      clear y0 y1 y2 y3 yz a0 a4 az S2 S1 S0 HC HG
      go_loopw [11,13,69] (fun m _ i wr=>∃ (j:Nat) (q':Option Addr) (c':Nat),j≤L.length∧i=.int .i64 j∧m=.slice q' j c'∧Sep w wr [.own 138 4 q' j c' (encQ ((L.take j).map fun v=>(⟨s,0,v,d+1⟩:Sq))),.own 3 1 q L.length c (encI L),.blk (w.heap.size+1+1) 146 #[.int .i64 s,.int .i64 0,.int .i64 v,.int .i64 d]]) (fun _ _ i _=>L.length - (intOf i).toNat)
      case atStart=>exact⟨0,none,0,Nat.zero_le _,rfl,rfl,S3.out⟩
      case round =>
       clear S3
       obtain⟨j,q',c',hj,rfl,rfl,S⟩:=hrel
       by_cases hlt:j<L.length
       ·have g1:=(S.rdx 1 rfl).cI hlt
        have HT:=Lib.hid (take_succ_nth L j hlt)
        have d1:(0:Int)≤j:=by omega
        have d2:(j:Int)<L.length:=by omega
        have hl:=HL.out
        have y0:=((Lib.hid S).out.blk 2 rfl).cell 0;have y1:=((Lib.hid S).out.blk 2 rfl).cell 1;have y2:=((Lib.hid S).out.blk 2 rfl).cell 2;have y3:=((Lib.hid S).out.blk 2 rfl).cell 3;have yz:=((Lib.hid S).out.blk 2 rfl).lt
        have SH:=Lib.hid S;clear S
        generalize nth L j=u at *
        go_wp2_with (at_builtin;go_must (refine wpList_append_sep rfl _ _ _ rfl 138 i0 _ 4 32 Tryz.underlying83 hi0 hz0 hz1 hz2 rfl (by omega) (SH.out.junk _) 0 q' j c' _ rfl rfl _ 1 1 _ rfl (Rd.oneQ _ _ ⟨s,0,u,d+1⟩) (one_encQ _) (by omega) (by omega) ?_;intro q7 c7 w7 S' hsz;have S7:=Lib.hid S';clear S' hsz))
        go_roundw
        case rel=>exact⟨j+1,q7,c7,by omega,by go_num,rfl,by rw [HT.out,List.map_append,encQ_append];exact S7.out⟩
        case measure=>simp [intOf];omega
       ·obtain rfl:j=L.length:=by omega
        rw [List.take_length] at S
        have SH:=Lib.hid S;clear S
        go_wp2
        go_ret2
        exact⟨q',c',rfl,SH.out.pick [0] (by decide) rfl⟩
   ·rw [nxC_1 (fun h=>hd h.2.2),nxL_no (Or.inl (by decide))]
    by_cases hd0:0≤d
    ·have e1:decide (d<0)=false:=by simpa using hd0
     have e2:decide (200<d)=true:=by simp;omega
     clear hd
     go_enter Tryz.func213,Tryz.ntmps213
     go_wp2_with (first | (go_at_call 82;go_must (refine(HC.out _ S1.out.ext).mono ?_;rintro e w2 ⟨rfl,hb⟩;have S2:=Lib.hid (S1.out.call hb);clear y0 y1 y2 y3 yz b0 b1 b2 b3 bz hb;obtain⟨y0,y1,y2,y3,yz⟩:=bkc0c1c2c3l (S2.out.blk 1 rfl);obtain⟨a0,a4,az⟩:=bkc0c4l (S2.out.blk 3 rfl))) | (go_at_call 244;go_must (refine(HG.out _ S0.out.ext).mono ?_;rintro e w1 ⟨q,c,rfl,Z⟩;have S1:=Lib.hid (S0.out.comp Z);obtain⟨y0,y1,y2,y3,yz⟩:=bkc0c1c2c3l (S1.out.blk 1 rfl);obtain⟨b0,b1,b2,b3,bz⟩:=bkc0c1c2c3l (S1.out.blk 2 rfl);clear Z)))
     go_ret2
     exact⟨none,0,rfl,(S2.out.nilrow _ _).pick [0] (by decide) rfl⟩
    ·have e1:decide (d<0)=true:=by simpa using hd0
     clear hd
     go_enter Tryz.func213,Tryz.ntmps213
     go_wp2_with (first | (go_at_call 82;go_must (refine(HC.out _ S1.out.ext).mono ?_;rintro e w2 ⟨rfl,hb⟩;have S2:=Lib.hid (S1.out.call hb);clear y0 y1 y2 y3 yz b0 b1 b2 b3 bz hb;obtain⟨y0,y1,y2,y3,yz⟩:=bkc0c1c2c3l (S2.out.blk 1 rfl);obtain⟨a0,a4,az⟩:=bkc0c4l (S2.out.blk 3 rfl))) | (go_at_call 244;go_must (refine(HG.out _ S0.out.ext).mono ?_;rintro e w1 ⟨q,c,rfl,Z⟩;have S1:=Lib.hid (S0.out.comp Z);obtain⟨y0,y1,y2,y3,yz⟩:=bkc0c1c2c3l (S1.out.blk 1 rfl);obtain⟨b0,b1,b2,b3,bz⟩:=bkc0c1c2c3l (S1.out.blk 2 rfl);clear Z)))
     go_ret2
     exact⟨none,0,rfl,(S2.out.nilrow _ _).pick [0] (by decide) rfl⟩
end
section
open Go Go.RowKit
theorem NextBad (k f t:Int) (pw:Option Addr) (nw cw:Nat) (rad most:Int) (po:Option Addr) (no co:Nat) (O:List Int) (pt:Option Addr) (nt ct:Nat) (T:List Int) (pr:Option Addr) (nr cr:Nat) (R:List Int) (pv:Option Addr) (nv cv:Nat) (V:List Int) (w:World) (s r v d:Int) (hO:Rd w 1 po no (encI O)) (hT:Rd w 1 pt nt (encI T)) (hR:Rd w 1 pr nr (encI R)) (hV:Rd w 1 pv nv (encI V)) (hct:nt≤ct) (hcv:nv≤cv) (h0:r≠0) (h1:r≠1) :
  Calls Tryz.prog 213 #[.agg #[.int .i64 k,.int .i64 f,.int .i64 t,.slice pw nw cw,.int .i64 rad,.int .i64 most],.agg #[.slice po no co,.slice pt nt ct,.slice pr nr cr,.slice pv nv cv],.agg #[.int .i64 s,.int .i64 r,.int .i64 v,.int .i64 d]] w fun e w'=>∃ q c,e=.returned (.tuple #[.slice q (nextL k rad (checkR O T R V) O T R V ⟨s,r,v,d⟩).length c,.int .i64 (nextC (checkR O T R V) O R ⟨s,r,v,d⟩)])∧Sep w w' [.own 138 4 q (nextL k rad (checkR O T R V) O T R V ⟨s,r,v,d⟩).length c (encQ (nextL k rad (checkR O T R V) O T R V ⟨s,r,v,d⟩))]:=by
 have S0:=Lib.hid ((((Sep.start w).al #[.int .i64 k,.int .i64 f,.int .i64 t,.slice pw nw cw,.int .i64 rad,.int .i64 most] 24 w.heap.size rfl).al #[.slice po no co,.slice pt nt ct,.slice pr nr cr,.slice pv nv cv] 27 (w.heap.size+1) (by simp)).al #[.int .i64 s,.int .i64 r,.int .i64 v,.int .i64 d] 146 (w.heap.size+1+1) (by simp))
 have HC:=Lib.hid (fun W1 (h:Ext w W1)=>CheckR po no co O pt nt ct T pr nr cr R pv nv cv V W1 (hO.ext h) (hT.ext h) (hR.ext h) (hV.ext h) hct hcv)
 have HG:=Lib.hid (fun W1 (h:Ext w W1)=>OutG po no co O pt nt ct T pr nr cr R pv nv cv V W1 v (hO.ext h) (hT.ext h) (hR.ext h) (hV.ext h) hct hcv)
 unfold nextL nextC
 simp only [if_neg h1]
 clear hO hT hR hV
 have e1:(r == 1)=false:=by simpa using h1
 have e0:(r != 0)=true:=by simpa using h0
 have e2:(r != 1)=true:=by simpa using h1
 generalize hck:checkR O T R V=ck at *
 have HN:Hid (nxC ck (outB ck O v) ⟨s,r,v,d⟩=if ck=false then 40 else 1):=by
  unfold Hid nxC
  cases ck with
  | false=>rfl
  | true=>simp [h0,h1]
 rw [HN.out,nxL_no (Or.inl (by cases ck <;> decide))]
 clear HN h0 h1 hck
 generalize outL ck O T v=L at *
 generalize outB ck O v=ob at *
 cases ck with
 | false =>
  go_enter Tryz.func213,Tryz.ntmps213
  go_wp2_with (first | (go_at_call 82;go_must (refine(HC.out _ S1.out.ext).mono ?_;rintro e w2 ⟨rfl,hb⟩;have S2:=Lib.hid (S1.out.call hb);clear y0 y1 y2 y3 yz b0 b1 b2 b3 bz hb;obtain⟨y0,y1,y2,y3,yz⟩:=bkc0c1c2c3l (S2.out.blk 1 rfl);obtain⟨a0,a4,az⟩:=bkc0c4l (S2.out.blk 3 rfl))) | (go_at_call 244;go_must (refine(HG.out _ S0.out.ext).mono ?_;rintro e w1 ⟨q,c,rfl,Z⟩;have S1:=Lib.hid (S0.out.comp Z);obtain⟨y0,y1,y2,y3,yz⟩:=bkc0c1c2c3l (S1.out.blk 1 rfl);obtain⟨b0,b1,b2,b3,bz⟩:=bkc0c1c2c3l (S1.out.blk 2 rfl);clear Z)))
  go_ret2
  exact⟨none,0,rfl,(S2.out.nilrow _ _).pick [0] (by decide) rfl⟩
 | true =>
  cases ob with
  | false =>
   go_enter Tryz.func213,Tryz.ntmps213
   go_wp2_with (first | (go_at_call 82;go_must (refine(HC.out _ S1.out.ext).mono ?_;rintro e w2 ⟨rfl,hb⟩;have S2:=Lib.hid (S1.out.call hb);clear y0 y1 y2 y3 yz b0 b1 b2 b3 bz hb;obtain⟨y0,y1,y2,y3,yz⟩:=bkc0c1c2c3l (S2.out.blk 1 rfl);obtain⟨a0,a4,az⟩:=bkc0c4l (S2.out.blk 3 rfl))) | (go_at_call 244;go_must (refine(HG.out _ S0.out.ext).mono ?_;rintro e w1 ⟨q,c,rfl,Z⟩;have S1:=Lib.hid (S0.out.comp Z);obtain⟨y0,y1,y2,y3,yz⟩:=bkc0c1c2c3l (S1.out.blk 1 rfl);obtain⟨b0,b1,b2,b3,bz⟩:=bkc0c1c2c3l (S1.out.blk 2 rfl);clear Z)))
   go_ret2
   exact⟨none,0,rfl,(S2.out.nilrow _ _).pick [0] (by decide) rfl⟩
  | true =>
   go_enter Tryz.func213,Tryz.ntmps213
   go_wp2_with (first | (go_at_call 82;go_must (refine(HC.out _ S1.out.ext).mono ?_;rintro e w2 ⟨rfl,hb⟩;have S2:=Lib.hid (S1.out.call hb);clear y0 y1 y2 y3 yz b0 b1 b2 b3 bz hb;obtain⟨y0,y1,y2,y3,yz⟩:=bkc0c1c2c3l (S2.out.blk 1 rfl);obtain⟨a0,a4,az⟩:=bkc0c4l (S2.out.blk 3 rfl))) | (go_at_call 244;go_must (refine(HG.out _ S0.out.ext).mono ?_;rintro e w1 ⟨q,c,rfl,Z⟩;have S1:=Lib.hid (S0.out.comp Z);obtain⟨y0,y1,y2,y3,yz⟩:=bkc0c1c2c3l (S1.out.blk 1 rfl);obtain⟨b0,b1,b2,b3,bz⟩:=bkc0c1c2c3l (S1.out.blk 2 rfl);clear Z)))
   go_ret2
   exact⟨none,0,rfl,(S2.out.nilrow _ _).pick [0] (by decide) rfl⟩
theorem NextQ (k f t:Int) (pw:Option Addr) (nw cw:Nat) (rad most:Int) (po:Option Addr) (no co:Nat) (O:List Int) (pt:Option Addr) (nt ct:Nat) (T:List Int) (pr:Option Addr) (nr cr:Nat) (R:List Int) (pv:Option Addr) (nv cv:Nat) (V:List Int) (w:World) (x:Sq) (hO:Rd w 1 po no (encI O)) (hT:Rd w 1 pt nt (encI T)) (hR:Rd w 1 pr nr (encI R)) (hV:Rd w 1 pv nv (encI V)) (hct:nt≤ct) (hcv:nv≤cv) (hb:∀ v,checkR O T R V=true→(outL (checkR O T R V) O T v).length≤100000∧(outL (checkR O T R V) R V v).length≤100000) :
  Calls Tryz.prog 213 #[.agg #[.int .i64 k,.int .i64 f,.int .i64 t,.slice pw nw cw,.int .i64 rad,.int .i64 most],.agg #[.slice po no co,.slice pt nt ct,.slice pr nr cr,.slice pv nv cv],.agg #[.int .i64 x.s,.int .i64 x.r,.int .i64 x.v,.int .i64 x.d]] w fun e w'=>∃ q c,e=.returned (.tuple #[.slice q (nextL k rad (checkR O T R V) O T R V x).length c,.int .i64 (nextC (checkR O T R V) O R x)])∧Sep w w' [.own 138 4 q (nextL k rad (checkR O T R V) O T R V x).length c (encQ (nextL k rad (checkR O T R V) O T R V x))]:=by
 obtain⟨s,r,v,d⟩:=x
 by_cases h1:r=1
 ·subst h1
  exact NextIn k f t pw nw cw rad most po no co O pt nt ct T pr nr cr R pv nv cv V w s v d hO hT hR hV hct hcv (fun h=>(hb v h).2)
 ·by_cases h0:r=0
  ·subst h0
   exact NextOut k f t pw nw cw rad most po no co O pt nt ct T pr nr cr R pv nv cv V w s v d hO hT hR hV hct hcv (fun h=>(hb v h).1)
  ·exact NextBad k f t pw nw cw rad most po no co O pt nt ct T pr nr cr R pv nv cv V w s r v d hO hT hR hV hct hcv h0 h1
end
section
open Go Go.RowKit
theorem run_bfs {n s:Nat} (hs:s<n) {nx:Nat→List Int} (hin:InN nx n) {ρ:Int} (_:ρ=0∨ρ=1) {f:Sq→List Sq} {lim:Int} (hlim:0≤lim)
  (hg:∀ x,KeyN n x→x.r=ρ→0≤x.d→x.d<n→f x=if x.d<lim then (nx x.v.toNat).map (fun v=>⟨x.s,x.r,v,x.d+1⟩) else [])
  (hl:Leads n f) {M0:List Sq} (h0:KeysUp M0) (h1:∀ x∈M0,KeyN n x∧x.d=0) (hM0:∀ x,x.r=ρ→(x∈M0↔x=⟨0,ρ,s,0⟩)) :
  ∀ i:Nat,(∀ x,x.r=ρ→(x∈(runM f M0 i).2↔∃ v:Nat,v<n∧lev nx n s v=i∧(i:Int)≤lim∧x=⟨0,ρ,v,i⟩)) ∧
   (∀ x,x.r=ρ→(x∈(runM f M0 i).1↔∃ v d:Nat,v<n∧lev nx n s v=d∧d<i∧(d:Int)≤lim∧x=⟨0,ρ,v,d⟩)):=by
 have hlev:=lev_ok nx n s hs
 intro i
 induction i with
 | zero =>
  refine⟨fun x hx=>?_,fun x hx=>?_⟩
  ·show x∈M0↔_
   rw [hM0 x hx]
   constructor
   ·rintro rfl
    exact⟨s,hs,(hlev.zero s hs).2 rfl,hlim,rfl⟩
   ·rintro⟨v,hv,h2,_,rfl⟩
    rw [(hlev.zero v hv).1 h2];rfl
  ·show x∈[]↔_
   constructor
   ·intro h;cases h
   ·rintro⟨v,d,_,_,h,_⟩;omega
 | succ i ih =>
  obtain⟨ihm,ihs⟩:=ih
  have hI:=runI_all hl h0 h1 i
  have hst:∀ x,x.r=ρ→(x∈(runM f M0 i).1∨x∈(runM f M0 i).2↔∃ v d:Nat,v<n∧lev nx n s v=d∧d<i+1∧(d:Int)≤lim∧x=⟨0,ρ,v,d⟩):=fun x hx=>by
   rw [ihs x hx,ihm x hx]
   constructor
   ·rintro(⟨v,d,a,b,c,e,g⟩ | ⟨v,a,b,c,e⟩)
    ·exact⟨v,d,a,b,by omega,e,g⟩
    ·exact⟨v,i,a,b,by omega,c,e⟩
   ·rintro⟨v,d,a,b,c,e,g⟩
    by_cases h:d<i
    ·exact .inl ⟨v,d,a,b,h,e,g⟩
    ·obtain rfl:d=i:=by omega
     exact .inr ⟨v,a,b,e,g⟩
  refine⟨fun x hx=>?_,fun x hx=>by rw [← hst x hx];exact runI_st hI f⟩
  show x∈(stepM f (runM f M0 i).1 (runM f M0 i).2).2↔_
  rw [runI_ms hI f]
  have hsent:∀ z∈(runM f M0 i).2.flatMap f,z.d=(i:Int)+1:=fun z hz=>by
   obtain⟨y,hy,hyz⟩:=List.mem_flatMap.1 hz
   obtain⟨a,b⟩:=hI.ms y hy
   rw [(hl y z a hyz).1,b]
  constructor
  ·rintro⟨⟨h2,_⟩,h3⟩
   obtain⟨y,hy,hyx⟩:=List.mem_flatMap.1 h2
   obtain⟨yk,yd⟩:=hI.ms y hy
   have hyr:y.r=ρ:=by rw [← hx,(hl y x yk hyx).1]
   obtain⟨u,hu,hlu,hil,rfl⟩:=(ihm y hyr).1 hy
   have hun:(i:Int)<n:=by have:=lev_lt (nx:=nx) hs hu;omega
   rw [hg _ yk rfl (by simp only;omega) (by simpa using hun)] at hyx
   simp only at hyx
   split at hyx
   ·rename_i hlt
    obtain⟨v,hv,rfl⟩:=List.mem_map.1 hyx
    rw [Int.toNat_natCast] at hv
    obtain⟨v0,v1⟩:=hin u hu v hv
    obtain⟨v,rfl⟩:=Int.eq_ofNat_of_zero_le v0
    have hvn:v<n:=by omega
    obtain⟨a,b⟩:=hlev.next u v hu hvn hv (by omega)
    have hnot:¬ lev nx n s v≤i:=fun hle=>h3 ⟨⟨0,ρ,v,lev nx n s v⟩,(hst _ rfl).2 ⟨v,(lev nx n s v).toNat,hvn,by omega,by omega,by omega,by rw [Int.toNat_of_nonneg a]⟩,rfl,rfl,rfl⟩
    refine⟨v,hvn,by omega,by omega,?_⟩
    show Sq.mk 0 ρ v ((i:Int)+1)=_
    rfl
   ·cases hyx
  ·rintro⟨v,hvn,hv,hil,rfl⟩
   obtain⟨u,hu,hlu,hvu⟩:=hlev.pred v hvn (by omega)
   have hlu2:lev nx n s u=i:=by omega
   have hy:(⟨0,ρ,u,i⟩:Sq)∈(runM f M0 i).2:=(ihm _ rfl).2 ⟨u,hu,hlu2,by omega,rfl⟩
   have hun:(i:Int)<n:=by have:=lev_lt (nx:=nx) hs hu;omega
   have hmem:(⟨0,ρ,v,((i+1:Nat):Int)⟩:Sq)∈(runM f M0 i).2.flatMap f:=by
    refine List.mem_flatMap.2 ⟨_,hy,?_⟩
    rw [hg _ (hI.ms _ hy).1 rfl (by simp only;omega) (by simpa using hun)]
    simp only
    rw [if_pos (by omega)]
    exact List.mem_map.2 ⟨v,by rw [Int.toNat_natCast];exact hvu,rfl⟩
   refine⟨⟨hmem,fun z hz _=>by rw [hsent z hz];simp only;omega⟩,?_⟩
   rintro⟨y,hy,e⟩
   have hyr:y.r=ρ:=e.2.1
   obtain⟨v',d,a,b,c,_,rfl⟩:=(hst y hyr).1 hy
   have:v'=v:=by have:=e.2.2;simp only at this;omega
   subst this
   omega
end
section
open Go Go.RowKit
def ToldS (nx:Nat→List Int) (n s:Nat) (ρ lim:Int) (m:Nat) (st:List Sq):Prop:=∀ x,x.r=ρ→(x∈st↔∃ v d:Nat,v<n∧lev nx n s v=d∧d<m+1∧(d:Int)≤lim∧x=⟨0,ρ,v,d⟩)
theorem told_pair {nx nb:Nat→List Int} {n s t m:Nat} {lim:Int} (hlim:(n:Int)≤lim) (hs:s<n) (ht:t<n) {st:List Sq} (h0:ToldS nx n s 0 lim m st) (h1:ToldS nb n t 1 lim m st) (z:Int) :
  PairD st z↔∃ v,v<n∧0≤lev nx n s v∧lev nx n s v≤m∧0≤lev nb n t v∧lev nb n t v≤m∧lev nx n s v+lev nb n t v=z:=by
 constructor
 ·rintro⟨x,hx,y,hy,hxr,hyr,hv,rfl⟩
  obtain⟨v,d,a,b,c,_,rfl⟩:=(h0 x hxr).1 hx
  obtain⟨v',d',a',b',c',_,rfl⟩:=(h1 y hyr).1 hy
  simp only at hv ⊢
  obtain rfl:v=v':=by omega
  exact⟨v,a,by omega,by omega,by omega,by omega,by omega⟩
 ·rintro⟨v,a,b,c,d,e,rfl⟩
  have l1:=lev_lt (nx:=nx) hs a
  have l2:=lev_lt (nx:=nb) ht a
  refine⟨⟨0,0,v,lev nx n s v⟩,(h0 _ rfl).2 ⟨v,(lev nx n s v).toNat,a,by omega,by omega,by omega,by rw [Int.toNat_of_nonneg b]⟩,⟨0,1,v,lev nb n t v⟩,(h1 _ rfl).2 ⟨v,(lev nb n t v).toNat,a,by omega,by omega,by omega,by rw [Int.toNat_of_nonneg d]⟩,rfl,rfl,rfl,rfl⟩
theorem end_far {nx nb:Nat→List Int} {n s t m:Nat} {lim:Int} (hlim:(n:Int)≤lim) (hr:Rev nx nb n) (hs:s<n) (ht:t<n) {st:List Sq} (h0:ToldS nx n s 0 lim m st) (h1:ToldS nb n t 1 lim m st)
  {b:Bool} {d:Int} (hA:MeetA st b d):b=meetB n (lev nx n s) (lev nb n t) m∧(b=true→(∀ j:Nat,j<m→meetB n (lev nx n s) (lev nb n t) j=false)→0≤lev nx n s t∧d=lev nx n s t)∧(b=false→d=0):=by
 have hp:=told_pair hlim hs ht h0 h1
 refine⟨?_,fun hb hf=>?_,fun hb=>(hA.1 hb).1⟩
 ·cases b with
  | false =>
   cases hm:meetB n (lev nx n s) (lev nb n t) m with
   | false=>rfl
   | true =>
    obtain⟨v,a,b,c,d,e⟩:=meetB_iff.1 hm
    exact absurd ((hp _).2 ⟨v,a,b,c,d,e,rfl⟩) ((hA.1 rfl).2 _)
  | true =>
   obtain⟨v,a,b,c,d,e,_⟩:=(hp _).1 (hA.2 rfl).1
   exact(meetB_iff.2 ⟨v,a,b,c,d,e⟩).symm
 ·obtain⟨h2,h3⟩:=hA.2 hb
  obtain⟨v,a,b1,c,d1,e,hz⟩:=(hp _).1 h2
  have h4:=lev_over hr hs ht a b1 d1
  have hge:2*(m:Int)≤lev nx n s t+1:=by
   cases m with
   | zero=>omega
   | succ m =>
    have:=hf m (by omega)
    have h5:¬ (0≤lev nx n s t∧lev nx n s t≤2*(m:Int)):=fun h=>by rw [(meet_lev hr hs ht).2 h] at this;cases this
    omega
  have hle:=((meet_lev hr hs ht (k:=m)).1 (meetB_iff.2 ⟨v,a,b1,c,d1,e⟩)).2
  refine⟨h4.1,?_⟩
  by_cases h6:lev nx n s t≤m
  ·obtain⟨u,hu,g1,g2⟩:=lev_mid hr hs ht (j:=(lev nx n s t).toNat) h4.1 (by omega)
   have:=h3 _ ((hp _).2 ⟨u,hu,by omega,by omega,by omega,by omega,rfl⟩)
   omega
  ·obtain⟨u,hu,g1,g2⟩:=lev_mid hr hs ht (j:=m) h4.1 (by omega)
   have:=h3 _ ((hp _).2 ⟨u,hu,by omega,by omega,by omega,by omega,rfl⟩)
   omega
theorem end_none {nx nb:Nat→List Int} {n s t m:Nat} (hr:Rev nx nb n) (hs:s<n) (ht:t<n) (h1:meetB n (lev nx n s) (lev nb n t) m=false) (h2:hasL n (lev nx n s) (m+1:Nat)=false∨hasL n (lev nb n t) (m+1:Nat)=false):lev nx n s t<0:=by
 refine Int.not_le.1 fun h=>?_
 have h3:¬ lev nx n s t≤2*(m:Int):=fun h4=>by rw [(meet_lev hr hs ht).2 ⟨h,h4⟩] at h1;cases h1
 obtain⟨k,hk⟩:∃ k:Nat,lev nx n s t=k:=⟨(lev nx n s t).toNat,by omega⟩
 rcases h2 with h2 | h2
 ·have:=has_below (nx:=nx) hs (k:=k) (j:=m+1) (by omega) (hasL_iff.2 ⟨t,ht,hk⟩)
  rw [this] at h2;cases h2
 ·have:=has_below (nx:=nb) ht (k:=k) (j:=m+1) (by omega) (hasL_iff.2 ⟨s,hs,by rw [← lev_rev hr hs ht];exact hk⟩)
  rw [this] at h2;cases h2
end
section
open Go Go.RowKit
theorem outB_iff {b:Bool} {A:List Int} {v:Int}:outB b A v=true↔b=true∧0≤v∧v<(A.length:Int) - 1:=by
 unfold outB
 rw [Bool.and_eq_true,Bool.and_eq_true,decide_eq_true_eq,decide_eq_true_eq]
 constructor
 ·rintro⟨⟨h1,h2⟩,h3⟩;exact⟨h1,h2,h3⟩
 ·rintro⟨h1,h2,h3⟩;exact⟨⟨h1,h2⟩,h3⟩
theorem nextL_mem {k rad:Int} {ck:Bool} {O T R V:List Int} {x y:Sq} (h:y∈nextL k rad ck O T R V x):y=⟨x.s,x.r,y.v,x.d+1⟩∧y.v∈(if x.r=1 then outL ck R V x.v else outL ck O T x.v):=by
 unfold nextL nxL at h
 split at h
 ·obtain⟨v,hv,rfl⟩:=List.mem_map.1 h
  exact⟨rfl,hv⟩
 ·cases h
theorem outL_rises {O T R V:List Int} (hck:checkR O T R V=true) (v:Int):Rises ltI (outL true O T v)∧Rises ltI (outL true R V v):=by
 obtain⟨e1,e2,e3,e4⟩:=checkR_half hck
 constructor
 ·cases hb:outB true O v with
  | false=>rw [outL_no hb];exact List.Pairwise.nil
  | true =>
   rw [outL_yes hb]
   obtain⟨_,v0,v1⟩:=outB_iff.1 hb
   exact row_rises e3 (by omega)
 ·cases hb:outB true R v with
  | false=>rw [outL_no hb];exact List.Pairwise.nil
  | true =>
   rw [outL_yes hb]
   obtain⟨_,v0,v1⟩:=outB_iff.1 hb
   exact row_rises e4 (by omega)
theorem next_rises {k rad:Int} {O T R V:List Int} {x:Sq} (hck:checkR O T R V=true):(nextL k rad true O T R V x).Pairwise fun a b=>a.v<b.v:=by
 unfold nextL nxL
 split
 ·refine List.Pairwise.map _ (R:=fun a b=>a<b) (fun a b h=>h) ?_
  have h:=outL_rises hck x.v
  split
  ·exact h.2.imp fun {a b} h=>by simpa [ltI] using h
  ·exact h.1.imp fun {a b} h=>by simpa [ltI] using h
 ·exact List.Pairwise.nil
theorem out_2000 {O T R V:List Int} (hck:checkR O T R V=true) (v:Int):(outL true O T v).length≤2000∧(outL true R V v).length≤2000:=by
 obtain⟨e1,e2,e3,e4⟩:=checkR_half hck
 obtain⟨r1,r2,r3,r4,r5,r6⟩:=offB_parts (halfB_off e3)
 exact⟨outL_I (by omega),outL_I (by omega)⟩
end
section
open Go Go.RowKit
def limQ (k rad:Int) (n:Nat):Int:=if k=3 then rad else n
def dirN (ρ:Int) (O T R V:List Int):Nat→List Int:=nxR (decide (ρ=1)) O T R V
theorem next_goes {k rad:Int} {O T R V:List Int} {n:Nat} (hck:checkR O T R V=true) (hn:O.length=n+1) (h200:n≤200) {ρ:Int} (_:ρ=0∨ρ=1) (x:Sq) (hx:KeyN n x) (hr:x.r=ρ) (h0:0≤x.d) (h1:x.d<n) :
  nextL k rad true O T R V x=if x.d<limQ k rad n then (dirN ρ O T R V x.v.toNat).map (fun v=>⟨x.s,x.r,v,x.d+1⟩) else []:=by
 obtain⟨e1,e2,e3,e4⟩:=checkR_half hck
 obtain⟨x1,x2,x3,x4⟩:=hx
 have hb:outB true (if x.r=1 then R else O) x.v=true:=by
  rw [outB_iff]
  split
  ·refine⟨rfl,x3,?_⟩;omega
  ·refine⟨rfl,x3,?_⟩;omega
 have hc:nextC true O R x=0:=by
  unfold nextC
  rw [hb]
  exact nxC_0 ⟨rfl,x2,h0,by omega⟩
 have hL:(if x.r=1 then outL true R V x.v else outL true O T x.v)=dirN ρ O T R V x.v.toNat:=by
  unfold dirN nxR
  by_cases h:x.r=1
  ·rw [if_pos h] at hb
   rw [if_pos h,← hr,if_pos (by simpa using h),outL_yes hb]
  ·rw [if_neg h] at hb
   rw [if_neg h,← hr,if_neg (by simpa using h),outL_yes hb]
 unfold nextL
 rw [hc,hL]
 by_cases hlt:x.d<limQ k rad n
 ·rw [if_pos hlt,nxL_yes rfl (fun h=>by unfold limQ at hlt;rw [if_pos h.1] at hlt;omega)]
 ·rw [if_neg hlt]
  unfold limQ at hlt
  split at hlt
  ·rename_i h3
   exact nxL_no (Or.inr ⟨h3,by omega⟩)
  ·omega
theorem dirN_in {O T R V:List Int} {n:Nat} (hck:checkR O T R V=true) (hn:O.length=n+1) (ρ:Int):InN (dirN ρ O T R V) n:=by
 have:=nxR_in hck (decide (ρ=1))
 rw [hn] at this
 exact this
theorem next_leads {k rad:Int} {O T R V:List Int} {n:Nat} (hck:checkR O T R V=true) (hn:O.length=n+1):Leads n (nextL k rad true O T R V):=by
 intro x y hx hy
 obtain⟨e1,e2,e3,e4⟩:=checkR_half hck
 obtain⟨x1,x2,x3,x4⟩:=hx
 obtain⟨h1,h2⟩:=nextL_mem hy
 refine⟨h1,?_⟩
 have hv:x.v.toNat<n:=by omega
 have hin:=dirN_in hck hn x.r _ hv y.v
 unfold dirN nxR at hin
 by_cases h:x.r=1
 ·rw [if_pos h] at h2
  rw [if_pos (by simpa using h)] at hin
  have hb:outB true R x.v=true:=outB_iff.2 ⟨rfl,x3,by omega⟩
  rw [outL_yes hb] at h2
  exact hin h2
 ·rw [if_neg h] at h2
  rw [if_neg (by simpa using h)] at hin
  have hb:outB true O x.v=true:=outB_iff.2 ⟨rfl,x3,by omega⟩
  rw [outL_yes hb] at h2
  exact hin h2
theorem start_facts {k rad most:Int} {s t n:Nat} (hk:k=1∨k=2∨k=3) (hs:s<n) (ht:k=1→t<n) (_:rad=rad) (_:most=most) :
  KeysUp (startQ k s t 0)∧(∀ x∈startQ k s t 0,KeyN n x∧x.d=0)∧(∀ x,x.r=0→(x∈startQ k s t 0↔x=⟨0,0,s,0⟩))∧(k=1→∀ x,x.r=1→(x∈startQ k s t 0↔x=⟨0,1,t,0⟩))∧(k≠1→∀ x∈startQ k s t 0,x.r=0):=by
 unfold startQ
 by_cases h1:k=1
 ·rw [if_pos h1]
  have ht:=ht h1
  refine⟨keyed_cons.2 ⟨fun x hx=>?_,keyed_cons.2 ⟨fun x hx=>(by cases hx),keyed_nil⟩⟩,fun x hx=>?_,fun x hr=>?_,fun _ x hr=>?_,fun h=>absurd h1 h⟩
  ·rw [List.mem_singleton] at hx
   subst hx
   rfl
  ·simp only [List.mem_cons,List.not_mem_nil,or_false] at hx
   rcases hx with rfl | rfl
   ·exact⟨⟨rfl,Or.inl rfl,by simp only;omega,by simp only;omega⟩,rfl⟩
   ·exact⟨⟨rfl,Or.inr rfl,by simp only;omega,by simp only;omega⟩,rfl⟩
  ·simp only [List.mem_cons,List.not_mem_nil,or_false]
   constructor
   ·rintro(rfl | rfl)
    ·rfl
    ·simp at hr
   ·exact Or.inl
  ·simp only [List.mem_cons,List.not_mem_nil,or_false]
   constructor
   ·rintro(rfl | rfl)
    ·simp at hr
    ·rfl
   ·exact Or.inr
 ·rw [if_neg h1,if_pos (by omega)]
  refine⟨keyed_cons.2 ⟨fun x hx=>(by cases hx),keyed_nil⟩,fun x hx=>?_,fun x hr=>?_,fun h=>absurd h h1,fun _ x hx=>?_⟩
  ·rw [List.mem_singleton] at hx
   subst hx
   exact⟨⟨rfl,Or.inl rfl,by simp only;omega,by simp only;omega⟩,rfl⟩
  ·rw [List.mem_singleton]
  ·rw [List.mem_singleton] at hx
   subst hx
   rfl
theorem run_out {k rad:Int} {O T R V:List Int} {n:Nat} (hck:checkR O T R V=true) (hn:O.length=n+1) {M0:List Sq} (h0:KeysUp M0) (h1:∀ x∈M0,KeyN n x∧x.d=0) (h2:∀ x∈M0,x.r=0) :
  ∀ i,∀ x∈(runM (nextL k rad true O T R V) M0 i).2,x.r=0
 | 0,x,hx=>h2 x hx
 | i+1,x,hx=>by
  have hl:Leads n (nextL k rad true O T R V):=next_leads hck hn
  have hI:=runI_all hl h0 h1 i
  obtain⟨⟨hx1,_⟩,_⟩:=(runI_ms hI _).1 hx
  obtain⟨y,hy,hyx⟩:=List.mem_flatMap.1 hx1
  rw [(hl y x (hI.ms y hy).1 hyx).1]
  exact run_out hck hn h0 h1 h2 i y hy
end
section
open Go Go.RowKit
theorem next_up {k rad:Int} {O T R V:List Int} {n:Nat} (hck:checkR O T R V=true) (hn:O.length=n+1) {x:Sq} (hx:KeyN n x):(nextL k rad true O T R V x).length≤n:=by
 have hl:Leads n (nextL k rad true O T R V):=next_leads hck hn
 have hm:=keyed_most (n:=n) (ρ:=x.r) (m:=0) (l:=nextL k rad true O T R V x)
  (List.Pairwise.imp_of_mem (fun {a b} ha hb h=>by
   have e1:=(hl x a hx ha).1
   have e2:=(hl x b hx hb).1
   have a1:a.s=x.s:=by rw [e1]
   have a2:a.r=x.r:=by rw [e1]
   have b1:b.s=x.s:=by rw [e2]
   have b2:b.r=x.r:=by rw [e2]
   rw [keyLt_iff]
   exact Or.inr ⟨by omega,Or.inr ⟨by omega,by omega⟩⟩) (next_rises hck))
  (fun y hy=>by
   obtain⟨e,h1,h2⟩:=hl x y hx hy
   refine⟨?_,?_,h1,h2⟩
   ·rw [e];exact hx.1
   ·rw [e]) (by omega)
 omega
theorem StepRun (k f t:Int) (pw:Option Addr) (nw cw:Nat) (rad most:Int) (po:Option Addr) (no co:Nat) (O:List Int) (pt:Option Addr) (nt ct:Nat) (T:List Int) (pr:Option Addr) (nr cr:Nat) (R:List Int) (pv:Option Addr) (nv cv:Nat) (V:List Int) (w:World) (n i:Nat) (p:List Sq × List Sq) (ps:Option Addr) (ns cs:Nat) (pm:Option Addr) (nm cm:Nat) (wk:Nat) (pp:Option Addr) (np cp:Nat) (pk:List Int) (hO:Rd w 1 po no (encI O)) (hT:Rd w 1 pt nt (encI T)) (hR:Rd w 1 pr nr (encI R)) (hV:Rd w 1 pv nv (encI V)) (hct:nt≤ct) (hcv:nv≤cv)
  (hck:checkR O T R V=true) (hn:O.length=n+1) (h200:n≤200) (hi:i≤200) (hI:RunI n i p) (h1:1≤wk) (h16:wk≤16) (hs:Rd w 4 ps ns (encQ p.1)) (hm:Rd w 4 pm nm (encQ p.2)) (hpk:Rd w 1 pp np (encI pk)) :
  Calls Tryz.prog 94 #[.agg #[.int .i64 k,.int .i64 f,.int .i64 t,.slice pw nw cw,.int .i64 rad,.int .i64 most],.agg #[.slice po no co,.slice pt nt ct,.slice pr nr cr,.slice pv nv cv],.slice ps ns cs,.slice pm nm cm,.int .i64 wk,.slice pp np cp] w fun e w'=>∃ q c q2 c2,e=.returned (.tuple #[.slice q (stepM (nextL k rad true O T R V) p.1 p.2).1.length c,.slice q2 (stepM (nextL k rad true O T R V) p.1 p.2).2.length c2,.int .i64 0]) ∧
   Sep w w' [.own 146 4 q (stepM (nextL k rad true O T R V) p.1 p.2).1.length c (encQ (stepM (nextL k rad true O T R V) p.1 p.2).1),.own 138 4 q2 (stepM (nextL k rad true O T R V) p.1 p.2).2.length c2 (encQ (stepM (nextL k rad true O T R V) p.1 p.2).2)]:=by
 have hl:Leads n (nextL k rad true O T R V):=next_leads hck hn
 have hms:∀ x∈p.2,mayB x=true∧x.v<n:=fun x hx=>by
  obtain⟨a,b⟩:=hI.ms x hx
  exact⟨may_run a h200 (by omega) (by omega),a.2.2.2⟩
 refine StepG k f t pw nw cw rad most po no co pt nt ct pr nr cr pv nv cv n (nextL k rad true O T R V) ps ns cs p.1 pm nm cm p.2 wk pp np cp pk w (by rw [hO.nI,hn]) h200 h1 h16 hs hm hpk hI.kst
  (fun x hx=>by
   obtain⟨a,b,c⟩:=hI.st x hx
   exact⟨may_run a h200 (by omega) (by omega),a.2.2.2⟩) hms (fun x hx=>⟨Nat.le_trans (next_up hck hn (hI.ms x hx).1) h200,fun y hy=>?_⟩)
  (by rw [hs.nQ];have:=run_most hI.kst (fun x hx=>(hI.st x hx).1);omega) (by rw [hm.nQ];have:=run_most hI.kms (fun x hx=>(hI.ms x hx).1);omega)
  (fun x hx=>hx.elim (fun h=>(hI.st x h).1) (fun h=>(hI.ms x h).1)) (fun W h=>?_) (fun x hx W h=>?_)
 ·obtain⟨a1,a2⟩:=hI.ms x hx
  obtain⟨e,y1,y2⟩:=hl x y a1 hy
  obtain⟨x1,x2,x3,x4⟩:=a1
  unfold Sq.I I64
  have q1:IntKind.i64.min = -9223372036854775808:=rfl
  have q2:IntKind.i64.max=9223372036854775807:=rfl
  have f1:y.s=x.s:=by rw [e]
  have f2:y.r=x.r:=by rw [e]
  have f3:y.d=x.d+1:=by rw [e]
  refine⟨?_,?_,?_,?_⟩ <;> (show (_ && _)=true;simp;omega)
 ·have:=CheckR po no co O pt nt ct T pr nr cr R pv nv cv V W (hO.ext h) (hT.ext h) (hR.ext h) (hV.ext h) hct hcv
  rw [hck] at this
  exact this
 ·have hN:=NextQ k f t pw nw cw rad most po no co O pt nt ct T pr nr cr R pv nv cv V W x (hO.ext h) (hT.ext h) (hR.ext h) (hV.ext h) hct hcv (fun v _=>by
   rw [hck]
   have:=out_2000 hck v
   omega)
  obtain⟨a1,a2⟩:=hI.ms x hx
  obtain⟨x1,x2,x3,x4⟩:=a1
  have hc:nextC true O R x=0:=by
   obtain⟨e1,_⟩:=checkR_half hck
   have hb:outB true (if x.r=1 then R else O) x.v=true:=by
    rw [outB_iff]
    split
    ·refine⟨rfl,x3,?_⟩;omega
    ·refine⟨rfl,x3,?_⟩;omega
   unfold nextC
   rw [hb]
   exact nxC_0 ⟨rfl,x2,by omega,by omega⟩
  rw [hck,hc] at hN
  exact hN
end
section
open Go Go.RowKit Go.Maps
theorem least_at {l:List Sq} {f:Int→Option I6} (h:Least l 0 f) (t:Int):(f t).isSome=atS l t:=by
 cases hf:f t with
 | none =>
  have:=h.1 t hf
  cases ha:atS l t with
  | false=>rfl
  | true =>
   obtain⟨x,hx,h1,h2⟩:=atS_iff.1 ha
   exact absurd h2 (this x hx h1)
 | some d =>
  obtain⟨x,hx,h1,h2,_⟩:=(h.2 t d hf).1
  exact(atS_iff.2 ⟨x,hx,h1,h2⟩).symm
theorem Done2 (f t:Int) (pw:Option Addr) (nw cw:Nat) (rad most:Int) (pl:Option Addr) (nl cl:Nat) (p:Option Addr) (n c:Nat) (l:List Sq) (pm:Option Addr) (nm cm:Nat) (w:World) (hl:Rd w 4 p n (encQ l)) (hi:∀ x∈l,I64 x.v∧I64 x.d) (hn:n≤1000000) (ht:I64 t) :
  Calls Tryz.prog 95 #[.agg #[.int .i64 2,.int .i64 f,.int .i64 t,.slice pw nw cw,.int .i64 rad,.int .i64 most],.slice pl nl cl,.slice p n c,.slice pm nm cm] w fun e w'=>e=.returned (.tuple #[.agg #[.bool (atS l t),.int .i64 0,.slice none 0 0],.bool (atS l t || decide (nm=0))])∧Ext w w':=by
 have S0:=Lib.hid ((((Sep.start w).al #[.int .i64 2,.int .i64 f,.int .i64 t,.slice pw nw cw,.int .i64 rad,.int .i64 most] 24 w.heap.size rfl).al #[.slice pm nm cm] 83 (w.heap.size+1) (by simp)).al #[.bool false,.int .i64 0,.slice none 0 0] 34 (w.heap.size+1+1) (by simp))
 have HLE:=Lib.hid (fun W (h:Ext w W)=>leastG p n c l 0 W (hl.ext h) hi hn)
 clear hl hi
 cases hbb:atS l t with
 | true =>
  have HB:=Lib.hid hbb
  have HD:Hid ((true || decide (nm=0))=true):=rfl
  go_enter Tryz.func95,Tryz.ntmps95
  go_wp2
  obtain⟨X,hX⟩:∃ X,X=((w.alloc (.cells #[.int .i64 2,.int .i64 f,.int .i64 t,.slice pw nw cw,.int .i64 rad,.int .i64 most] 24)).alloc (.cells #[.slice pm nm cm] 83)).alloc (.cells #[.bool false,.int .i64 0,.slice none 0 0] 34):=⟨_,rfl⟩
  rw [← hX] at S0 ⊢
  clear hX
  have a2:X.cell? ⟨w.heap.size,2,none⟩=some (.int .i64 t):=(S0.out.blk 2 rfl).cell 2
  refine wp_region_noPanic ?_
  refine wp_region_held_drew (S:=fun w'=>w'.cell? ⟨w.heap.size,2,none⟩=some (.int .i64 t)) (by kernel_rfl) a2 (fun hHeld=>?_)
  have SD:=Lib.hid S0.out.drew
  clear S0 a2
  generalize X.drew=D at SD hHeld ⊢
  clear X
  refine wpAnyH_take (i:=0) (v:=.slice p n c) rfl (by kernel_rfl) (by kernel_rfl) (by kernel_rfl) (noPanic_q _ _) (Or.inl ⟨by kernel_rfl,fun W hSw=>by have h1:=hSw;go_simp⟩) hHeld ?_
  refine wpAnyH_take (i:=2) (v:=.pointer (some ⟨w.heap.size,2,none⟩)) rfl (by kernel_rfl) (by kernel_rfl) (by kernel_rfl) (noPanic_q _ _) (Or.inl ⟨by kernel_rfl,fun W hSw=>by have h1:=hSw;go_simp⟩) hHeld ?_
  refine wpAnyH_take (i:=3) (v:=.int .i64 t) rfl (by kernel_rfl) (by kernel_rfl) (by kernel_rfl) (noPanic_q _ _) (Or.inl ⟨by kernel_rfl,fun W hSw=>by have h1:=hSw;go_simp⟩) hHeld ?_
  refine wpAnyH_ready (rs:=[1]) (by kernel_rfl) (by simp) (AllReadyH.cons rfl (fun K hK=>?_) AllReadyH.nil)
  go_simp
  refine(HLE.out _ SD.out.ext).mono ?_
  rintro e w1 ⟨b,m,g,hm,rfl,Z,hg⟩
  have HG:=Lib.hid (least_at hg t)
  have S1:=Lib.hid (SD.out.comp Z)
  clear hg Z SD
  have a2:w1.cell? ⟨w.heap.size,2,none⟩=some (.int .i64 t):=(S1.out.blk 3 rfl).cell 2
  refine hK.out _ _ a2 (fun hHeld=>?_)
  clear hK
  have k0:=(S1.out.map 0 rfl).lookup_ok (t:=214) Tryz.underlying3 Tryz.underlying214 ht
  rw [HG.out,HB.out] at k0
  generalize (g t).getD EI6.z=z0 at k0
  have k1:(Instr.lookup 214 (.map (some b)) (.int .i64 t) true).run Tryz.prog w1=.ok (.tuple #[.int .i64 z0.1,.bool true]) w1:=k0
  clear k0 HG
  refine wpAnyH_ready (rs:=[4]) (by kernel_rfl) (by simp) (AllReadyH.cons rfl (fun K hK=>?_) AllReadyH.nil)
  go_simp
  refine hK.out _ _ a2 (fun hHeld=>?_)
  clear hK k1
  refine wpAnyH_take (i:=5) (v:=.tuple #[.int .i64 z0.1,.bool true]) rfl (by kernel_rfl) (by kernel_rfl) (by kernel_rfl) (noPanic_q _ _) (Or.inl ⟨by kernel_rfl,fun W hSw=>by have h1:=hSw;go_simp⟩) hHeld ?_
  refine wpAnyH_take (i:=6) (v:=.int .i64 z0.1) rfl (by kernel_rfl) (by kernel_rfl) (by kernel_rfl) (noPanic_q _ _) (Or.inl ⟨by kernel_rfl,fun W hSw=>by have h1:=hSw;go_simp⟩) hHeld ?_
  refine wpAnyH_take (i:=7) (v:=.bool true) rfl (by kernel_rfl) (by kernel_rfl) (by kernel_rfl) (noPanic_q _ _) (Or.inl ⟨by kernel_rfl,fun W hSw=>by have h1:=hSw;go_simp⟩) hHeld ?_
  refine wpAnyH_take (i:=8) (v:=.int .i64 z0.1) rfl (by kernel_rfl) (by kernel_rfl) (by kernel_rfl) (noPanic_q _ _) (Or.inl ⟨by kernel_rfl,fun W hSw=>by have h1:=hSw;go_simp⟩) hHeld ?_
  refine wpAnyH_take (i:=9) (v:=.bool true) rfl (by kernel_rfl) (by kernel_rfl) (by kernel_rfl) (noPanic_q _ _) (Or.inl ⟨by kernel_rfl,fun W hSw=>by have h1:=hSw;go_simp⟩) hHeld ?_
  refine wpAnyH_done (by kernel_rfl) ?_ _
  refine noPanic_mk ?_
  clear hHeld a2
  simp [Act.put]
  go_wp2
  have m0:w1.cell? ⟨w.heap.size+1,0,none⟩=some (.slice pm nm cm):=(S1.out.blk 2 rfl).cell 0
  refine wp_region_noPanic ?_
  refine wp_region_held_drew (S:=fun w'=>w'.cell? ⟨w.heap.size+1,0,none⟩=some (.slice pm nm cm)) (by kernel_rfl) m0 (fun hHeld=>?_)
  have SD:=Lib.hid S1.out.drew
  clear S1 m0
  generalize w1.drew=D2 at SD hHeld ⊢
  refine wpAnyH_take (i:=0) (v:=.bool true) rfl (by kernel_rfl) (by kernel_rfl) (by kernel_rfl) (noPanic_q _ _) (Or.inl ⟨by kernel_rfl,fun W hSw=>by have h1:=hSw;go_simp⟩) hHeld ?_
  refine wpAnyH_take (i:=1) (v:=.agg #[.bool true,.int .i64 0,.slice none 0 0]) rfl (by kernel_rfl) (by kernel_rfl) (by kernel_rfl) (noPanic_q _ _) (Or.inl ⟨by kernel_rfl,fun W hSw=>by have h1:=hSw;go_simp⟩) hHeld ?_
  refine wpAnyH_take (i:=2) (v:=.bool true) rfl (by kernel_rfl) (by kernel_rfl) (by kernel_rfl) (noPanic_q _ _) (Or.inl ⟨by kernel_rfl,fun W hSw=>by have h1:=hSw;go_simp⟩) hHeld ?_
  refine wpAnyH_take (i:=3) (v:=.bool true) rfl (by kernel_rfl) (by kernel_rfl) (by kernel_rfl) (noPanic_q _ _) (Or.inl ⟨by kernel_rfl,fun W hSw=>by have h1:=hSw;go_simp⟩) hHeld ?_
  refine wpAnyH_take (i:=4) (v:=undef) rfl (by kernel_rfl) (by kernel_rfl) (by kernel_rfl) (noPanic_q _ _) (Or.inr ⟨by kernel_rfl,rfl⟩) hHeld ?_
  refine wpAnyH_take (i:=5) (v:=undef) rfl (by kernel_rfl) (by kernel_rfl) (by kernel_rfl) (noPanic_q _ _) (Or.inr ⟨by kernel_rfl,rfl⟩) hHeld ?_
  refine wpAnyH_take (i:=6) (v:=undef) rfl (by kernel_rfl) (by kernel_rfl) (by kernel_rfl) (noPanic_q _ _) (Or.inr ⟨by kernel_rfl,rfl⟩) hHeld ?_
  refine wpAnyH_take (i:=7) (v:=.bool true) rfl (by kernel_rfl) (by kernel_rfl) (by kernel_rfl) (noPanic_q _ _) (Or.inl ⟨by kernel_rfl,fun W hSw=>by have h1:=hSw;go_simp⟩) hHeld ?_
  obtain⟨a0,a1,a2,az,f0,f1,f2⟩:=bkc0c1c2lz0z1z2 (SD.out.blk 1 rfl)
  have S9:=Lib.hid (((SD.out.set 1 rfl 0 (.bool true)).set 1 rfl 1 (.int .i64 0)).set 1 rfl 2 (.slice none 0 0))
  refine wpAnyH_ready (rs:=[8]) (by kernel_rfl) (by simp) (AllReadyH.cons rfl (fun K hK=>?_) AllReadyH.nil)
  go_simp
  have c0:=(S9.out.blk 2 rfl).cell 0
  refine hK.out _ _ c0 (fun hHeld=>?_)
  clear hK
  refine wpAnyH_take (i:=9) (v:=.bool true) rfl (by kernel_rfl) (by kernel_rfl) (by kernel_rfl) (noPanic_q _ _) (Or.inl ⟨by kernel_rfl,fun W hSw=>by have h1:=hSw;go_simp⟩) hHeld ?_
  refine wpAnyH_done (by kernel_rfl) ?_ _
  refine noPanic_mk ?_
  obtain⟨x0,x1,x2⟩:=bkc0c1c2 (S9.out.blk 1 rfl)
  go_wp2
  exact bodyPost_ret (v:=.tuple #[.agg #[.bool true,.int .i64 0,.slice none 0 0],.bool true]) (by simp [results,Tryz.results95,go_sem,x0,x1,x2,Tryz.sizeOf34,Tryz.isAgg34]) rfl ⟨by rw [HD.out],S9.out.ext⟩
 | false =>
  have HB:=Lib.hid hbb
  by_cases h0:nm=0
  ·have HD:Hid ((false || decide (nm=0))=true):=by unfold Hid;simp [h0]
   have hb0:((nm:Int) == 0)=true:=by simp;omega
   clear h0
   go_enter Tryz.func95,Tryz.ntmps95
   go_wp2
   obtain⟨X,hX⟩:∃ X,X=((w.alloc (.cells #[.int .i64 2,.int .i64 f,.int .i64 t,.slice pw nw cw,.int .i64 rad,.int .i64 most] 24)).alloc (.cells #[.slice pm nm cm] 83)).alloc (.cells #[.bool false,.int .i64 0,.slice none 0 0] 34):=⟨_,rfl⟩
   rw [← hX] at S0 ⊢
   clear hX
   have a2:X.cell? ⟨w.heap.size,2,none⟩=some (.int .i64 t):=(S0.out.blk 2 rfl).cell 2
   refine wp_region_noPanic ?_
   refine wp_region_held_drew (S:=fun w'=>w'.cell? ⟨w.heap.size,2,none⟩=some (.int .i64 t)) (by kernel_rfl) a2 (fun hHeld=>?_)
   have SD:=Lib.hid S0.out.drew
   clear S0 a2
   generalize X.drew=D at SD hHeld ⊢
   clear X
   refine wpAnyH_take (i:=0) (v:=.slice p n c) rfl (by kernel_rfl) (by kernel_rfl) (by kernel_rfl) (noPanic_q _ _) (Or.inl ⟨by kernel_rfl,fun W hSw=>by have h1:=hSw;go_simp⟩) hHeld ?_
   refine wpAnyH_take (i:=2) (v:=.pointer (some ⟨w.heap.size,2,none⟩)) rfl (by kernel_rfl) (by kernel_rfl) (by kernel_rfl) (noPanic_q _ _) (Or.inl ⟨by kernel_rfl,fun W hSw=>by have h1:=hSw;go_simp⟩) hHeld ?_
   refine wpAnyH_take (i:=3) (v:=.int .i64 t) rfl (by kernel_rfl) (by kernel_rfl) (by kernel_rfl) (noPanic_q _ _) (Or.inl ⟨by kernel_rfl,fun W hSw=>by have h1:=hSw;go_simp⟩) hHeld ?_
   refine wpAnyH_ready (rs:=[1]) (by kernel_rfl) (by simp) (AllReadyH.cons rfl (fun K hK=>?_) AllReadyH.nil)
   go_simp
   refine(HLE.out _ SD.out.ext).mono ?_
   rintro e w1 ⟨b,m,g,hm,rfl,Z,hg⟩
   have HG:=Lib.hid (least_at hg t)
   have S1:=Lib.hid (SD.out.comp Z)
   clear hg Z SD
   have a2:w1.cell? ⟨w.heap.size,2,none⟩=some (.int .i64 t):=(S1.out.blk 3 rfl).cell 2
   refine hK.out _ _ a2 (fun hHeld=>?_)
   clear hK
   have k0:=(S1.out.map 0 rfl).lookup_ok (t:=214) Tryz.underlying3 Tryz.underlying214 ht
   rw [HG.out,HB.out] at k0
   generalize (g t).getD EI6.z=z0 at k0
   have k1:(Instr.lookup 214 (.map (some b)) (.int .i64 t) true).run Tryz.prog w1=.ok (.tuple #[.int .i64 z0.1,.bool false]) w1:=k0
   clear k0 HG
   refine wpAnyH_ready (rs:=[4]) (by kernel_rfl) (by simp) (AllReadyH.cons rfl (fun K hK=>?_) AllReadyH.nil)
   go_simp
   refine hK.out _ _ a2 (fun hHeld=>?_)
   clear hK k1
   refine wpAnyH_take (i:=5) (v:=.tuple #[.int .i64 z0.1,.bool false]) rfl (by kernel_rfl) (by kernel_rfl) (by kernel_rfl) (noPanic_q _ _) (Or.inl ⟨by kernel_rfl,fun W hSw=>by have h1:=hSw;go_simp⟩) hHeld ?_
   refine wpAnyH_take (i:=6) (v:=.int .i64 z0.1) rfl (by kernel_rfl) (by kernel_rfl) (by kernel_rfl) (noPanic_q _ _) (Or.inl ⟨by kernel_rfl,fun W hSw=>by have h1:=hSw;go_simp⟩) hHeld ?_
   refine wpAnyH_take (i:=7) (v:=.bool false) rfl (by kernel_rfl) (by kernel_rfl) (by kernel_rfl) (noPanic_q _ _) (Or.inl ⟨by kernel_rfl,fun W hSw=>by have h1:=hSw;go_simp⟩) hHeld ?_
   refine wpAnyH_take (i:=8) (v:=.int .i64 z0.1) rfl (by kernel_rfl) (by kernel_rfl) (by kernel_rfl) (noPanic_q _ _) (Or.inl ⟨by kernel_rfl,fun W hSw=>by have h1:=hSw;go_simp⟩) hHeld ?_
   refine wpAnyH_take (i:=9) (v:=.bool false) rfl (by kernel_rfl) (by kernel_rfl) (by kernel_rfl) (noPanic_q _ _) (Or.inl ⟨by kernel_rfl,fun W hSw=>by have h1:=hSw;go_simp⟩) hHeld ?_
   refine wpAnyH_done (by kernel_rfl) ?_ _
   refine noPanic_mk ?_
   clear hHeld a2
   simp [Act.put]
   go_wp2
   have m0:w1.cell? ⟨w.heap.size+1,0,none⟩=some (.slice pm nm cm):=(S1.out.blk 2 rfl).cell 0
   refine wp_region_noPanic ?_
   refine wp_region_held_drew (S:=fun w'=>w'.cell? ⟨w.heap.size+1,0,none⟩=some (.slice pm nm cm)) (by kernel_rfl) m0 (fun hHeld=>?_)
   have SD:=Lib.hid S1.out.drew
   clear S1 m0
   generalize w1.drew=D2 at SD hHeld ⊢
   refine wpAnyH_take (i:=0) (v:=.bool false) rfl (by kernel_rfl) (by kernel_rfl) (by kernel_rfl) (noPanic_q _ _) (Or.inl ⟨by kernel_rfl,fun W hSw=>by have h1:=hSw;go_simp⟩) hHeld ?_
   refine wpAnyH_take (i:=1) (v:=.agg #[.bool false,.int .i64 0,.slice none 0 0]) rfl (by kernel_rfl) (by kernel_rfl) (by kernel_rfl) (noPanic_q _ _) (Or.inl ⟨by kernel_rfl,fun W hSw=>by have h1:=hSw;go_simp⟩) hHeld ?_
   refine wpAnyH_take (i:=2) (v:=.bool false) rfl (by kernel_rfl) (by kernel_rfl) (by kernel_rfl) (noPanic_q _ _) (Or.inl ⟨by kernel_rfl,fun W hSw=>by have h1:=hSw;go_simp⟩) hHeld ?_
   refine wpAnyH_take (i:=3) (v:=.bool false) rfl (by kernel_rfl) (by kernel_rfl) (by kernel_rfl) (noPanic_q _ _) (Or.inl ⟨by kernel_rfl,fun W hSw=>by have h1:=hSw;go_simp⟩) hHeld ?_
   refine wpAnyH_take (i:=4) (v:=.slice pm nm cm) rfl (by kernel_rfl) (by kernel_rfl) (by kernel_rfl) (noPanic_q _ _) (Or.inl ⟨by kernel_rfl,fun W hSw=>by have h1:=hSw;go_simp⟩) hHeld ?_
   refine wpAnyH_take (i:=5) (v:=.int .i64 nm) rfl (by kernel_rfl) (by kernel_rfl) (by kernel_rfl) (noPanic_q _ _) (Or.inl ⟨by kernel_rfl,fun W hSw=>by have h1:=hSw;go_simp⟩) hHeld ?_
   refine wpAnyH_take (i:=6) (v:=.bool true) rfl (by kernel_rfl) (by kernel_rfl) (by kernel_rfl) (noPanic_q _ _) (Or.inl ⟨by kernel_rfl,fun W hSw=>by have h1:=hSw;go_simp⟩) hHeld ?_
   refine wpAnyH_take (i:=7) (v:=.bool true) rfl (by kernel_rfl) (by kernel_rfl) (by kernel_rfl) (noPanic_q _ _) (Or.inl ⟨by kernel_rfl,fun W hSw=>by have h1:=hSw;go_simp⟩) hHeld ?_
   obtain⟨a0,a1,a2,az,f0,f1,f2⟩:=bkc0c1c2lz0z1z2 (SD.out.blk 1 rfl)
   have S9:=Lib.hid (((SD.out.set 1 rfl 0 (.bool false)).set 1 rfl 1 (.int .i64 0)).set 1 rfl 2 (.slice none 0 0))
   refine wpAnyH_ready (rs:=[8]) (by kernel_rfl) (by simp) (AllReadyH.cons rfl (fun K hK=>?_) AllReadyH.nil)
   go_simp
   have c0:=(S9.out.blk 2 rfl).cell 0
   refine hK.out _ _ c0 (fun hHeld=>?_)
   clear hK
   refine wpAnyH_take (i:=9) (v:=.bool true) rfl (by kernel_rfl) (by kernel_rfl) (by kernel_rfl) (noPanic_q _ _) (Or.inl ⟨by kernel_rfl,fun W hSw=>by have h1:=hSw;go_simp⟩) hHeld ?_
   refine wpAnyH_done (by kernel_rfl) ?_ _
   refine noPanic_mk ?_
   obtain⟨x0,x1,x2⟩:=bkc0c1c2 (S9.out.blk 1 rfl)
   go_wp2
   exact bodyPost_ret (v:=.tuple #[.agg #[.bool false,.int .i64 0,.slice none 0 0],.bool true]) (by simp [results,Tryz.results95,go_sem,x0,x1,x2,Tryz.sizeOf34,Tryz.isAgg34]) rfl ⟨by rw [HD.out],S9.out.ext⟩
  ·have HD:Hid ((false || decide (nm=0))=false):=by unfold Hid;simp [h0]
   have hb0:((nm:Int) == 0)=false:=by simp;omega
   clear h0
   go_enter Tryz.func95,Tryz.ntmps95
   go_wp2
   obtain⟨X,hX⟩:∃ X,X=((w.alloc (.cells #[.int .i64 2,.int .i64 f,.int .i64 t,.slice pw nw cw,.int .i64 rad,.int .i64 most] 24)).alloc (.cells #[.slice pm nm cm] 83)).alloc (.cells #[.bool false,.int .i64 0,.slice none 0 0] 34):=⟨_,rfl⟩
   rw [← hX] at S0 ⊢
   clear hX
   have a2:X.cell? ⟨w.heap.size,2,none⟩=some (.int .i64 t):=(S0.out.blk 2 rfl).cell 2
   refine wp_region_noPanic ?_
   refine wp_region_held_drew (S:=fun w'=>w'.cell? ⟨w.heap.size,2,none⟩=some (.int .i64 t)) (by kernel_rfl) a2 (fun hHeld=>?_)
   have SD:=Lib.hid S0.out.drew
   clear S0 a2
   generalize X.drew=D at SD hHeld ⊢
   clear X
   refine wpAnyH_take (i:=0) (v:=.slice p n c) rfl (by kernel_rfl) (by kernel_rfl) (by kernel_rfl) (noPanic_q _ _) (Or.inl ⟨by kernel_rfl,fun W hSw=>by have h1:=hSw;go_simp⟩) hHeld ?_
   refine wpAnyH_take (i:=2) (v:=.pointer (some ⟨w.heap.size,2,none⟩)) rfl (by kernel_rfl) (by kernel_rfl) (by kernel_rfl) (noPanic_q _ _) (Or.inl ⟨by kernel_rfl,fun W hSw=>by have h1:=hSw;go_simp⟩) hHeld ?_
   refine wpAnyH_take (i:=3) (v:=.int .i64 t) rfl (by kernel_rfl) (by kernel_rfl) (by kernel_rfl) (noPanic_q _ _) (Or.inl ⟨by kernel_rfl,fun W hSw=>by have h1:=hSw;go_simp⟩) hHeld ?_
   refine wpAnyH_ready (rs:=[1]) (by kernel_rfl) (by simp) (AllReadyH.cons rfl (fun K hK=>?_) AllReadyH.nil)
   go_simp
   refine(HLE.out _ SD.out.ext).mono ?_
   rintro e w1 ⟨b,m,g,hm,rfl,Z,hg⟩
   have HG:=Lib.hid (least_at hg t)
   have S1:=Lib.hid (SD.out.comp Z)
   clear hg Z SD
   have a2:w1.cell? ⟨w.heap.size,2,none⟩=some (.int .i64 t):=(S1.out.blk 3 rfl).cell 2
   refine hK.out _ _ a2 (fun hHeld=>?_)
   clear hK
   have k0:=(S1.out.map 0 rfl).lookup_ok (t:=214) Tryz.underlying3 Tryz.underlying214 ht
   rw [HG.out,HB.out] at k0
   generalize (g t).getD EI6.z=z0 at k0
   have k1:(Instr.lookup 214 (.map (some b)) (.int .i64 t) true).run Tryz.prog w1=.ok (.tuple #[.int .i64 z0.1,.bool false]) w1:=k0
   clear k0 HG
   refine wpAnyH_ready (rs:=[4]) (by kernel_rfl) (by simp) (AllReadyH.cons rfl (fun K hK=>?_) AllReadyH.nil)
   go_simp
   refine hK.out _ _ a2 (fun hHeld=>?_)
   clear hK k1
   refine wpAnyH_take (i:=5) (v:=.tuple #[.int .i64 z0.1,.bool false]) rfl (by kernel_rfl) (by kernel_rfl) (by kernel_rfl) (noPanic_q _ _) (Or.inl ⟨by kernel_rfl,fun W hSw=>by have h1:=hSw;go_simp⟩) hHeld ?_
   refine wpAnyH_take (i:=6) (v:=.int .i64 z0.1) rfl (by kernel_rfl) (by kernel_rfl) (by kernel_rfl) (noPanic_q _ _) (Or.inl ⟨by kernel_rfl,fun W hSw=>by have h1:=hSw;go_simp⟩) hHeld ?_
   refine wpAnyH_take (i:=7) (v:=.bool false) rfl (by kernel_rfl) (by kernel_rfl) (by kernel_rfl) (noPanic_q _ _) (Or.inl ⟨by kernel_rfl,fun W hSw=>by have h1:=hSw;go_simp⟩) hHeld ?_
   refine wpAnyH_take (i:=8) (v:=.int .i64 z0.1) rfl (by kernel_rfl) (by kernel_rfl) (by kernel_rfl) (noPanic_q _ _) (Or.inl ⟨by kernel_rfl,fun W hSw=>by have h1:=hSw;go_simp⟩) hHeld ?_
   refine wpAnyH_take (i:=9) (v:=.bool false) rfl (by kernel_rfl) (by kernel_rfl) (by kernel_rfl) (noPanic_q _ _) (Or.inl ⟨by kernel_rfl,fun W hSw=>by have h1:=hSw;go_simp⟩) hHeld ?_
   refine wpAnyH_done (by kernel_rfl) ?_ _
   refine noPanic_mk ?_
   clear hHeld a2
   simp [Act.put]
   go_wp2
   have m0:w1.cell? ⟨w.heap.size+1,0,none⟩=some (.slice pm nm cm):=(S1.out.blk 2 rfl).cell 0
   refine wp_region_noPanic ?_
   refine wp_region_held_drew (S:=fun w'=>w'.cell? ⟨w.heap.size+1,0,none⟩=some (.slice pm nm cm)) (by kernel_rfl) m0 (fun hHeld=>?_)
   have SD:=Lib.hid S1.out.drew
   clear S1 m0
   generalize w1.drew=D2 at SD hHeld ⊢
   refine wpAnyH_take (i:=0) (v:=.bool false) rfl (by kernel_rfl) (by kernel_rfl) (by kernel_rfl) (noPanic_q _ _) (Or.inl ⟨by kernel_rfl,fun W hSw=>by have h1:=hSw;go_simp⟩) hHeld ?_
   refine wpAnyH_take (i:=1) (v:=.agg #[.bool false,.int .i64 0,.slice none 0 0]) rfl (by kernel_rfl) (by kernel_rfl) (by kernel_rfl) (noPanic_q _ _) (Or.inl ⟨by kernel_rfl,fun W hSw=>by have h1:=hSw;go_simp⟩) hHeld ?_
   refine wpAnyH_take (i:=2) (v:=.bool false) rfl (by kernel_rfl) (by kernel_rfl) (by kernel_rfl) (noPanic_q _ _) (Or.inl ⟨by kernel_rfl,fun W hSw=>by have h1:=hSw;go_simp⟩) hHeld ?_
   refine wpAnyH_take (i:=3) (v:=.bool false) rfl (by kernel_rfl) (by kernel_rfl) (by kernel_rfl) (noPanic_q _ _) (Or.inl ⟨by kernel_rfl,fun W hSw=>by have h1:=hSw;go_simp⟩) hHeld ?_
   refine wpAnyH_take (i:=4) (v:=.slice pm nm cm) rfl (by kernel_rfl) (by kernel_rfl) (by kernel_rfl) (noPanic_q _ _) (Or.inl ⟨by kernel_rfl,fun W hSw=>by have h1:=hSw;go_simp⟩) hHeld ?_
   refine wpAnyH_take (i:=5) (v:=.int .i64 nm) rfl (by kernel_rfl) (by kernel_rfl) (by kernel_rfl) (noPanic_q _ _) (Or.inl ⟨by kernel_rfl,fun W hSw=>by have h1:=hSw;go_simp⟩) hHeld ?_
   refine wpAnyH_take (i:=6) (v:=.bool false) rfl (by kernel_rfl) (by kernel_rfl) (by kernel_rfl) (noPanic_q _ _) (Or.inl ⟨by kernel_rfl,fun W hSw=>by have h1:=hSw;go_simp⟩) hHeld ?_
   refine wpAnyH_take (i:=7) (v:=.bool false) rfl (by kernel_rfl) (by kernel_rfl) (by kernel_rfl) (noPanic_q _ _) (Or.inl ⟨by kernel_rfl,fun W hSw=>by have h1:=hSw;go_simp⟩) hHeld ?_
   obtain⟨a0,a1,a2,az,f0,f1,f2⟩:=bkc0c1c2lz0z1z2 (SD.out.blk 1 rfl)
   have S9:=Lib.hid (((SD.out.set 1 rfl 0 (.bool false)).set 1 rfl 1 (.int .i64 0)).set 1 rfl 2 (.slice none 0 0))
   refine wpAnyH_ready (rs:=[8]) (by kernel_rfl) (by simp) (AllReadyH.cons rfl (fun K hK=>?_) AllReadyH.nil)
   go_simp
   have c0:=(S9.out.blk 2 rfl).cell 0
   refine hK.out _ _ c0 (fun hHeld=>?_)
   clear hK
   refine wpAnyH_take (i:=9) (v:=.bool false) rfl (by kernel_rfl) (by kernel_rfl) (by kernel_rfl) (noPanic_q _ _) (Or.inl ⟨by kernel_rfl,fun W hSw=>by have h1:=hSw;go_simp⟩) hHeld ?_
   refine wpAnyH_done (by kernel_rfl) ?_ _
   refine noPanic_mk ?_
   obtain⟨x0,x1,x2⟩:=bkc0c1c2 (S9.out.blk 1 rfl)
   go_wp2
   exact bodyPost_ret (v:=.tuple #[.agg #[.bool false,.int .i64 0,.slice none 0 0],.bool false]) (by simp [results,Tryz.results95,go_sem,x0,x1,x2,Tryz.sizeOf34,Tryz.isAgg34]) rfl ⟨by rw [HD.out],S9.out.ext⟩
end
section
open Go Go.RowKit
theorem infAh:(Tryz.prog.info? 105).map (fun i=>(i.zero,i.size,i.bytes))=some (some (.agg #[.int .i64 0,.int .i64 0]),2,16):=by kernel_rfl
theorem Rd.one2g (w:World) (t:TypeId) (a b:Int) (g:Nat) (h:w.heap.size=g):Rd (w.alloc (.cells #[.int .i64 a,.int .i64 b] t)) 2 (some ⟨g,0,none⟩) 1 (encE [(a,b)]):=by subst h;exact Rd.one2 w t a b
theorem qAll (gb:Nat) (q:Option Addr) (n c:Nat) (X:List (Int × Int)) (mo:Int) (w:World) (hB:Blk w gb 301 #[.slice q n c,.int .i64 mo]) (hl:Rd w 2 q n (encE X)) (hn:n≤80000) :
  Calls Tryz.prog 236 #[.pointer (some ⟨gb,0,none⟩)] w fun e w'=>∃ q' c',e=.returned (.slice q' n c')∧Sep w w' [.own 105 2 q' n c' (encE (sortBy ltN X))]:=by
 obtain⟨i0,hi0,hz0,hz1,hz2⟩:=info_parts infAh
 have b0:w.cell? ⟨gb,0,none⟩=some (.slice q n c):=hB.cell 0
 have bz:=hB.lt
 have hnX:=hl.nE
 obtain⟨Y,hY⟩:∃ Y,sortBy ltN X=Y:=⟨_,rfl⟩
 have LX:Hid (Y.length=n):=by unfold Hid;rw [← hY,sortBy_len,← hnX]
 have HY:=Lib.hid hY
 rw [hY]
 have HC:=Lib.hid (CloneH q n c X w hl (by omega))
 clear hB hl hnX hY
 go_enter Tryz.func236,Tryz.ntmps236
 go_wp2_with (first
  | (go_at_call 272;go_must (refine(SortH_sep S1.out 0 rfl (by omega)).mono ?_;rintro e w2 ⟨rfl,Z⟩;rw [HY.out] at Z;have S2:=Lib.hid (Z.nilrow 105 2);clear Z))
  | (go_at_call 271;go_must (refine HC.out.mono ?_;rintro e w1 ⟨q1,c1,rfl,Z⟩;have S1:=Lib.hid Z;clear Z)))
 have S3:=Lib.hid (S2.out:Sep w w2 [.own 105 2 none 0 0 [],.own 329 2 q1 n c1 (encE Y)])
 clear S1 S2 b0 bz HC
 go_loopw [4,6,19] (fun v _ i wr=>∃ (j:Nat) (q':Option Addr) (c':Nat),j≤n∧i=.int .i64 j∧v=.slice q' j c'∧Sep w wr [.own 105 2 q' j c' (encE (Y.take j)),.own 329 2 q1 n c1 (encE Y)]) (fun _ _ i _=>n - (intOf i).toNat)
 case atStart=>exact⟨0,none,0,Nat.zero_le _,rfl,rfl,S3.out⟩
 case round =>
  clear S3
  obtain⟨j,q',c',hj,rfl,rfl,S⟩:=hrel
  by_cases hlt:j<n
  ·have hr:=S.rdx 1 rfl
   have g1:=hr.cE hlt
   have g2:=hr.cE2 hlt
   have p1:=hr.ptr
   have HT:=Lib.hid (take_succ_nth Y j (by rw [LX.out];exact hlt))
   have d1:(0:Int)≤j:=by omega
   have d2:(j:Int)<n:=by omega
   clear hr
   have SH:=Lib.hid S;clear S
   generalize nth Y j=y at *
   go_wp2_with (at_builtin;go_must (refine wpList_append_sep rfl _ _ _ rfl 105 i0 _ 2 16 Tryz.underlying32 hi0 hz0 hz1 hz2 rfl (by omega) ((SH.out.junk _).junk _) 0 q' j c' _ rfl rfl _ 1 1 _ rfl (Rd.one2g _ _ _ _ _ (by simp)) (one_encE _) (by omega) (by omega) ?_;intro q7 c7 w7 S' hsz;have S7:=Lib.hid S';clear S' hsz))
   go_roundw
   case rel=>exact⟨j+1,q7,c7,by omega,by go_num,rfl,by rw [HT.out,encE_append];exact S7.out⟩
   case measure=>simp [intOf];omega
  ·obtain rfl:j=n:=by omega
   rw [List.take_of_length_le (by rw [LX.out];exact Nat.le_refl _)] at S
   have SH:=Lib.hid S;clear S
   go_wp2
   go_ret
   exact⟨q',c',rfl,SH.out.pick [0] (by decide) rfl⟩
theorem First10 (p:Option Addr) (n c:Nat) (l:List (Int × Int)) (k:Int) (w:World) (hl:Rd w 2 p n (encE l)) (hn:n≤10000) :
  Calls Tryz.prog 191 #[.slice p n c,.int .i64 k] w fun e w'=>∃ q c',e=.returned (.slice q (firstN l k).length c')∧Sep w w' [.own 105 2 q (firstN l k).length c' (encE (firstN l k))]:=by
 have p1:=hl.ptr
 have n1:=hl.small
 have L1:=Lib.hid hl.nE
 by_cases h1:k<1
 ·have HF:Hid (firstN l k=[]):=by unfold Hid firstN;rw [if_pos h1]
  rw [HF.out]
  have S0:=Lib.hid ((Sep.start w).nilrow 105 2)
  clear HF hl
  go_enter Tryz.func191,Tryz.ntmps191
  go_wp2
  go_ret
  exact⟨none,0,rfl,S0.out⟩
 ·obtain⟨mo,rfl⟩:∃ mo:Nat,k=mo:=⟨k.toNat,by omega⟩
  have e1:decide ((mo:Int)<1)=false:=by simpa using h1
  have HF:Hid (firstN l mo=(sortN l).take mo):=by unfold Hid firstN;rw [if_neg h1,Int.toNat_natCast]
  rw [HF.out]
  obtain⟨F,hF⟩:∃ F,(sortN l).take mo=F:=⟨_,rfl⟩
  rw [hF]
  have HF2:=Lib.hid hF
  clear hF
  have HL:=Lib.hid hl
  have S0:=Lib.hid (((Sep.start w).al #[.slice none 0 0,.int .i64 (mo:Int)] 301 w.heap.size rfl).nilrow 329 2)
  clear hl h1 HF
  go_enter Tryz.func191,Tryz.ntmps191
  go_wp2
  go_loopw [7,15] (fun _ i wr=>∃ (j:Nat) (q:Option Addr) (m d:Nat) (X:List (Int × Int)),j≤n∧i=.int .i64 j∧m≤j∧Hid (HeapN ltR m X)∧Hid (X.Perm ((sortN (l.take j)).take mo))∧Sep w wr [.own 329 2 q m d (encE X),.blk w.heap.size 301 #[.slice q m d,.int .i64 (mo:Int)]]) (fun _ i _=>n - (intOf i).toNat)
  case atStart=>exact⟨0,none,0,0,[],Nat.zero_le _,rfl,Nat.zero_le _,fun i h0 h1=>by omega,by unfold Hid;rw [List.take_zero];simp [sortN],S0.out⟩
  case round =>
   clear S0
   obtain⟨j,q,m,d,X,hj,rfl,hm,HH,HP,S⟩:=hrel
   by_cases hlt:j<n
   ·have g1:=S.ext.cell (HL.out.cE hlt)
    have g2:=S.ext.cell (HL.out.cE2 hlt)
    have HT:=Lib.hid (take_succ_nth l j (by rw [← L1.out];exact hlt))
    have d1:(0:Int)≤j:=by omega
    have d2:(j:Int)<n:=by omega
    have SH:=Lib.hid S;clear S
    generalize nth l j=y at *
    have HPU:=Lib.hid (qPut w.heap.size q m d X (l.take j) y mo _ w (.blk wr.heap.size 105 #[.int .i64 y.1,.int .i64 y.2] :: [.own 329 2 q m d (encE X),.blk w.heap.size 301 #[.slice q m d,.int .i64 (mo:Int)]]) 2 1 (SH.out.al #[.int .i64 y.1,.int .i64 y.2] 105 wr.heap.size rfl) rfl rfl (by omega) (by omega) HH.out HP.out)
    go_wp2_with (go_at_call 235;go_must (refine HPU.out.mono ?_;rintro e w3 ⟨⟨v,rfl⟩,q',m',d',X',k1,k2,k3,Z⟩;have K2:=Lib.hid k2;have K3:=Lib.hid k3;have S3:=Lib.hid Z;clear k2 k3 Z))
    go_roundw
    case rel=>exact⟨j+1,q',m',d',X',by omega,by go_num,by omega,K2.out,by rw [HT.out];exact K3.out,S3.out.pick [1,2] (by decide) rfl⟩
    case measure=>simp [intOf];omega
   ·obtain rfl:j=n:=by omega
    have HX:Hid (sortBy ltN X=F):=by
     have hp:=HP.out
     rw [List.take_of_length_le (l:=l) (by rw [← L1.out];exact Nat.le_refl _)] at hp
     unfold Hid
     rw [← HF2.out]
     exact first_uniq (sortBy_sorts X).1 ((sortBy_sorts X).2.trans hp)
    have HM:Hid (m=F.length):=by
     unfold Hid
     rw [← HX.out,sortBy_len,← (S.rdx 0 rfl).nE]
    have HA:=Lib.hid (qAll w.heap.size q m d X mo wr (S.blk 1 rfl) (S.rdx 0 rfl) (by omega))
    rw [HX.out] at HA
    have SH:=Lib.hid S;clear S
    go_wp2_with (go_at_call 236;go_must (refine HA.out.mono ?_;rintro e w3 ⟨q',d',rfl,Z⟩;have S3:=Lib.hid (SH.out.comp Z);clear Z))
    go_ret
    have T:Sep w w3 [.own 105 2 q' m d' (encE F)]:=S3.out.pick [0] (by decide) rfl
    rw [HM.out] at T
    exact⟨q',d',ret_slc HM.out,T⟩
end
section
open Go Go.RowKit Go.Maps Go.WideElems
def heldR (v:Value):Option (DataW Value × List MemPlace):=some (.held v,[])
def keyT (s:ByteArray):Lit:=.string s.data.toList
theorem keyT_inj {s t:ByteArray} (h:keyT s=keyT t):s=t:=by
 unfold keyT at h;injection h with h
 exact ByteArray.ext (Array.toList_inj.1 h)
def MapT (P:Program) (k:TypeId) (b n:Nat) (f:ByteArray→Option Value) (w:World):Prop :=
 ∃ D:DataW Value,w.ownsMap P k heldR b n D∧(∀ s,s.size≤1000000→Maps.has D (keyT s)=(f s).isSome)∧∀ s v,f s=some v→s.size≤1000000∧∀ zd,D.atKey (keyT s) zd=.held v
def upT (f:ByteArray→Option Value) (s:ByteArray) (v:Value):ByteArray→Option Value:=fun t=>if t=s then some v else f t
section
variable {P:Program} {k e:TypeId} {b n:Nat} {f:ByteArray→Option Value} {w w':World}
theorem MapT.lt (h:MapT P k b n f w):b<w.heap.size:=by obtain⟨D,h1,_⟩:=h;exact h1.lt
theorem MapT.loc (h:MapT P k b n f w) (hb:w'.heap[b]?=w.heap[b]?):MapT P k b n f w':=by
 obtain⟨D,⟨es,clock,h1,F,h2,h3⟩,hf⟩:=h
 exact⟨D,⟨es,clock,hb.trans h1,F,h2,h3⟩,hf⟩
theorem MapT.made (w:World):MapT P k w.heap.size 0 (fun _=>none) (w.alloc (.map #[] 0)) :=
 ⟨.map [],World.ownsMap_made w P k _,fun x _=>rfl,fun x v h=>by cases h⟩
def Pc.mapT (P:Program) (k:TypeId) (b n:Nat) (f:ByteArray→Option Value):Pc :=
 ⟨fun i=>i=b,fun w=>MapT P k b n f w,fun _ h i hi=>by subst hi;exact h.lt,fun _ _ h hi=>h.loc (hi b rfl)⟩
theorem keyT_of (hk:P.underlying k=some .string) {s:ByteArray} (hs:s.size≤1000000):keyOf P k (.string s)=some (keyT s):=WideMaps.keyOf_string_mk hk (by unfold maxLen;omega)
theorem isKeyT (hk:P.underlying k=some .string) {s:ByteArray} (hs:s.size≤1000000):WideAt.IsKeyLit (keyT s):=(string_keyed hk).key (keyT_of hk hs)
theorem MapT.update {t:TypeId} (h:MapT P k b n f w) (hk:P.underlying k=some .string) (ht:P.underlying t=some (.map k e)) (hn:n<140737488355328) {s:ByteArray} (hs:s.size≤1000000) (v:Value) :
  ∃ w',(Instr.mapUpdate t (.map (some b)) (.string s) v).run P w=.ok () w'∧MapT P k b (n+1) (upT f s v) w'∧w.grownBy w' (some b):=by
 obtain⟨D,h1,h2,h3⟩:=h
 obtain⟨w',hr,ho,hg⟩:=h1.update (string_keyed hk) ht (by unfold maxLen;omega) (keyT_of hk hs) (show heldR v=some (.held v,[]) from rfl)
 have hm:=h1.isMap
 refine⟨w',hr,⟨_,ho,fun y hy=>?_,fun y u hu=>?_⟩,hg⟩
 ·unfold upT
  by_cases e:y=s
  ·subst e;rw [has_put_same hm (isKeyT hk hs)];simp
  ·rw [has_put_other (fun h=>e (keyT_inj h)),if_neg e];exact h2 y hy
 ·unfold upT at hu
  by_cases e:y=s
  ·subst e;simp at hu;subst hu;exact⟨hs,fun zd=>atKey_put_same hm (isKeyT hk hs) _ _⟩
  ·rw [if_neg e] at hu
   obtain⟨g1,g2⟩:=h3 y u hu
   exact⟨g1,fun zd=>by rw [atKey_put_other (fun h=>e (keyT_inj h))];exact g2 zd⟩
theorem MapT.lookup {t:TypeId} {z:Value} (h:MapT P k b n f w) (hk:P.underlying k=some .string) (ht:P.underlying t=some (.map k e)) (hz:(zeroValue e).run P w=.ok z w) {s:ByteArray} (hs:s.size≤1000000) :
  (Instr.lookup t (.map (some b)) (.string s) false).run P w=.ok ((f s).getD z) w:=by
 obtain⟨D,h1,h2,h3⟩:=h
 obtain⟨v,ps,hr,hv⟩:=h1.lookup (string_keyed hk) ht hz (show heldR z=some (.held z,[]) from rfl) (keyT_of hk hs)
 have hat:D.atKey (keyT s) (.held z)=.held ((f s).getD z):=by
  cases hf:f s with
  | none=>exact atKey_of_not_has (by rw [h2 s hs,hf];rfl) _
  | some u=>exact(h3 s u hf).2 _
 unfold heldR at hv
 injection hv with hv
 injection hv with hv
 rw [hat] at hv
 injection hv with hv
 rw [hr,hv]
variable {w0:World} {Γ:List Pc} {ops:Array Oper} {rest:List Oper} {o:Oper} {a:Act} {Q:Exit→Act→World→Prop}
theorem Sep.mapT (S:Sep w0 w Γ) (j:Nat) (hj:Γ[j]?=some (.mapT P k b n f)):MapT P k b n f w:=S.all _ (List.mem_of_getElem? hj)
end
def apartR (r s:Hd × List Value):Prop:=∀ k,blkOf r.1.p=some k→blkOf s.1.p≠some k
def Pc.rowsD (e:TypeId) (size:Nat) (rows:List (Hd × List Value)):Pc :=
 ⟨fun k=>∃ r∈rows,blkOf r.1.p=some k,fun w=>(∀ r∈rows,w.ownsRow 0 e size (.slice r.1.p r.1.n r.1.c) r.1.n r.2)∧rows.Pairwise apartR,fun _ h _ ⟨r,hr,hk⟩=>(own_lt (h.1 r hr) hk).2,fun _ _ h hk=>⟨fun r hr=>own_loc (h.1 r hr) fun k hb=>hk k ⟨r,hr,hb⟩,h.2⟩⟩
end
section
open Go Go.RowKit
structure GS (w wr:World) (b g:Nat) (cs:Array Value) (O:List Occ) (A:List Po) (hs:List Hd) (q:Option Addr) (c:Nat) (f:ByteArray→Option Value):Prop where
 len:hs.length=A.length
 gath:Gath O A
 some_:∀ r,r<A.length→f (nth A r).1=some (nth hs r).v
 none_:∀ s,s ∉ A.map (·.1)→f s=none
 sep:Sep w wr [.rowsD 3 1 (rowsP A hs),.own 9 1 q A.length c (encS (A.map (·.1))),.mapT Tryz.prog 9 b O.length f,.blk g 102 cs]
theorem GS.new {w wr:World} {b g:Nat} {cs:Array Value} {O:List Occ} {A:List Po} {hs:List Hd} {q:Option Addr} {c:Nat} {f:ByteArray→Option Value} (G:GS w wr b g cs O A hs q c f) {s:ByteArray} (hs':s ∉ A.map (·.1)) {v:Int} {wn:World} {q1 q2:Option Addr} {c1 c2:Nat}
  (S:Sep w wn [.rowsD 3 1 ((rowsP A hs ++ [((⟨none,0,0⟩:Hd),([]:List Value))]).set A.length ((⟨q2,1,c2⟩:Hd),[Value.int .i64 v])),.own 9 1 q1 (A.length+1) c1 (encS (A.map (·.1)) ++ encS [s]),.mapT Tryz.prog 9 b (O.length+1) (upT f s (.slice q2 1 c2)),.blk g 102 cs]) :
  GS w wn b g cs (O ++ [(v,s)]) (A ++ [(s,[v])]) (hs ++ [⟨q2,1,c2⟩]) q1 c1 (upT f s (.slice q2 1 c2)):=by
 have hlen:(rowsP A hs).length=A.length:=by unfold rowsP;simp [G.len]
 have hrow:(rowsP A hs ++ [((⟨none,0,0⟩:Hd),([]:List Value))]).set A.length ((⟨q2,1,c2⟩:Hd),[Value.int .i64 v])=rowsP (A ++ [(s,[v])]) (hs ++ [⟨q2,1,c2⟩]):=by
  rw [rowsP_snoc _ _ _ _ G.len,List.set_append_right _ _ (by omega),hlen,Nat.sub_self];rfl
 refine⟨by simp [G.len],G.gath.new hs',fun r hr=>?_,fun t ht=>?_,?_⟩
 ·rw [List.length_append,List.length_singleton] at hr
  by_cases e:r<A.length
  ·rw [nth_append_left _ _ _ e,nth_append_left _ _ _ (by rw [G.len];exact e)]
   unfold upT
   rw [if_neg]
   ·exact G.some_ r e
   ·rintro he
    exact hs' (by rw [← he,nth_eq e];exact List.mem_map_of_mem (List.getElem_mem _))
  ·have e1:r=A.length:=by omega
   subst e1
   have a1:nth (A ++ [(s,[v])]) A.length=(s,[v]):=nth_append_new _ _
   have a2:nth (hs ++ [(⟨q2,1,c2⟩:Hd)]) A.length=⟨q2,1,c2⟩:=by rw [← G.len];exact nth_append_new _ _
   rw [a1,a2];unfold upT;simp [Hd.v]
 ·rw [List.map_append,List.mem_append,not_or] at ht
  unfold upT
  rw [if_neg (by simpa using ht.2)]
  exact G.none_ t ht.1
 ·rw [hrow,← encS_append] at S
  simpa using S
theorem MapT.size {P:Program} {k:TypeId} {b n:Nat} {f:ByteArray→Option Value} {w:World} (h:MapT P k b n f w) {s:ByteArray} {v:Value} (hf:f s=some v):s.size≤1000000:=by
 obtain⟨D,_,_,h3⟩:=h
 exact(h3 s v hf).1
end
section
open Go Go.RowKit
abbrev tA:ByteArray:=⟨#[97]⟩
abbrev tB:ByteArray:=⟨#[98]⟩
theorem aa:sLess tA tA=false:=sLess_irrefl _
theorem bb:sLess tB tB=false:=sLess_irrefl _
end
section
open Go Go.RowKit
theorem allS_len {L:List Po} (hok:PoOk L) (ws:List ByteArray):(allS L ws).length≤1000:=by
 rw [← allK_end (Nat.le_refl _)];exact allK_len hok ws _
theorem bigP_facts {L:List Po} (h:bigP L=false):L.length≤40∧∀ p∈L,p.1.size≤60∧p.2.length≤60:=by
 unfold bigP at h
 rw [Bool.or_eq_false_iff,Bool.and_eq_false_iff] at h
 have h1:L.length≤40:=by simpa using h.2
 refine⟨h1,fun p hp=>?_⟩
 have h2:L.any badPo=false:=by
  rcases h.1 with h3 | h3
  ·simp at h3;omega
  ·exact h3
 have:=List.any_eq_false.1 h2 p hp
 unfold badPo at this
 simp at this
 exact this
theorem poOk_of {L:List Po} (h:bigP L=false) (hI:∀ q∈L,∀ x∈q.2,I64 x):PoOk L:=fun p hp=>⟨by have:=((bigP_facts h).2 p hp).2;omega,hI p hp⟩
end
section
open Go Go.RowKit
def allX (L:List Po) (ws:List ByteArray):List Int:=if ws.length=0 then [] else allS L ws
def codeX (ws:List ByteArray):Int:=if ws.length=0 then 1 else 0
theorem codeX_0 {ws:List ByteArray} (h:ws.length=0):codeX ws=1:=by unfold codeX;rw [if_pos h]
theorem codeX_1 {ws:List ByteArray} (h:0<ws.length):codeX ws=0:=by unfold codeX;rw [if_neg (by omega)]
theorem allX_0 (L:List Po) {ws:List ByteArray} (h:ws.length=0):allX L ws=[]:=by unfold allX;rw [if_pos h]
theorem allX_1 (L:List Po) {ws:List ByteArray} (h:0<ws.length):allX L ws=allS L ws:=by unfold allX;rw [if_neg (by omega)]
theorem allX_len {L:List Po} (hok:PoOk L) (ws:List ByteArray):(allX L ws).length≤1000:=by
 unfold allX;split
 ·simp
 ·exact allS_len hok ws
theorem AllGx (p:Option Addr) (np cp:Nat) (hs:List Hd) (L:List Po) (pr:Option Addr) (nr cr:Nat) (ws:List ByteArray) (w:World) (hL:RdP w p np hs L) (hok:PoOk L) (hR:Rd w 1 pr nr (encS ws)) (hcr:nr≤cr) (hn:nr≤100):Calls Tryz.prog 115 #[.slice p np cp,.slice pr nr cr] w fun e w'=>∃ q c,e=.returned (.tuple #[.slice q (allX L ws).length c,.int .i64 (codeX ws)])∧Sep w w' [.own 3 1 q (allX L ws).length c (encI (allX L ws))]:=by
 have l1:=hR.nS
 rcases Nat.eq_zero_or_pos nr with h0 | h0
 ·subst h0
  rw [codeX_0 l1.symm,allX_0 L l1.symm]
  exact(AllGn p np cp pr cr w).mono fun e w' ⟨h1,h2⟩=>⟨none,0,h1,((Sep.start w).call h2).nilrow _ _⟩
 ·rw [codeX_1 (by omega),allX_1 L (by omega)]
  exact AllG p np cp hs L pr nr cr ws w hL hok hR hcr h0 hn
end
section
open Go Go.RowKit
def nearS (l:List Sq) (P:List Int) (most:Int):List (Int × Int):=firstN (hitS l P) most
theorem HitsG (k f t:Int) (pw:Option Addr) (nw cw:Nat) (ws:List ByteArray) (rad most:Int) (pp:Option Addr) (np cp:Nat) (hs:List Hd) (L:List Po) (p:Option Addr) (n c:Nat) (l:List Sq) (w:World) (hL:RdP w pp np hs L) (hok:PoOk L) (hw:Rd w 1 pw nw (encS ws)) (hcw:nw≤cw) (hnw:nw≤100) (hl:Rd w 4 p n (encQ l)) (hn:n≤1000) :
  Calls Tryz.prog 155 #[.agg #[.int .i64 k,.int .i64 f,.int .i64 t,.slice pw nw cw,.int .i64 rad,.int .i64 most],.slice pp np cp,.slice p n c] w fun e w'=>∃ q c',e=.returned (.agg #[.bool (decide (0<(nearS l (allX L ws) most).length)),.int .i64 0,.slice q (nearS l (allX L ws) most).length c'])∧Sep w w' [.own 105 2 q (nearS l (allX L ws) most).length c' (encE (nearS l (allX L ws) most))]:=by
 obtain⟨i0,hi0,hz0,hz1,hz2⟩:=info_parts infAh
 have p1:=hl.ptr
 have n1:=hl.small
 have L1:=Lib.hid hl.nQ
 have LW:=hw.nS
 have S0:=Lib.hid (((Sep.start w).al #[.int .i64 k,.int .i64 f,.int .i64 t,.slice pw nw cw,.int .i64 rad,.int .i64 most] 24 w.heap.size rfl).al #[.bool false,.int .i64 0,.slice none 0 0] 34 (w.heap.size+1) (by simp))
 have HA:=Lib.hid (fun W (h:Ext w W)=>AllGx pp np cp hs L pw nw cw ws W (hL.ext h) hok (hw.ext h) hcw hnw)
 have HPL:=Lib.hid (allX_len hok ws)
 have HL:=Lib.hid hl
 by_cases h0:ws.length=0
 ·have HF:Hid (nearS l (allX L ws) most=[]):=by
   unfold Hid nearS
   rw [allX_0 L h0]
   have:hitS l []=[]:=by unfold hitS;simp
   rw [this]
   have:=(firstN_len [] most).1
   exact List.eq_nil_of_length_eq_zero (by simpa using this)
  rw [codeX_0 h0] at HA
  rw [HF.out]
  clear hl hw hL hok h0 LW HF
  generalize allX L ws=P at *
  go_enter Tryz.func155,Tryz.ntmps155
  go_wp2_with (go_at_call 115;go_must (refine(HA.out _ S0.out.ext).mono ?_;rintro e w1 ⟨q1,c1,rfl,Z⟩;have S1:=Lib.hid (S0.out.comp Z);clear Z;obtain⟨b0,b1,b2,bz,f0,f1,f2⟩:=bkc0c1c2lz0z1z2 (S1.out.blk 1 rfl)))
  have S9:=Lib.hid (((S1.out.set 1 rfl 0 (.bool false)).set 1 rfl 1 (.int .i64 0)).set 1 rfl 2 (.slice none 0 0))
  obtain⟨x0,x1,x2⟩:=bkc0c1c2 (S9.out.blk 1 rfl)
  exact bodyPost_ret (v:=.agg #[.bool false,.int .i64 0,.slice none 0 0]) (by simp [results,Tryz.results155,go_sem,x0,x1,x2,Tryz.sizeOf34,Tryz.isAgg34]) rfl ⟨none,0,rfl,(S9.out.nilrow _ _).pick [0] (by decide) rfl⟩
 ·rw [codeX_1 (by omega)] at HA
  clear hl hw hL hok h0 LW
  unfold nearS
  generalize allX L ws=P at *
  obtain⟨F,hF⟩:∃ F,firstN (hitS l P) most=F:=⟨_,rfl⟩
  rw [hF]
  have HFI:=Lib.hid hF
  clear hF
  go_enter Tryz.func155,Tryz.ntmps155
  go_wp2_with (go_at_call 115;go_must (refine(HA.out _ S0.out.ext).mono ?_;rintro e w1 ⟨q1,c1,rfl,Z⟩;have S1:=Lib.hid (S0.out.comp Z);clear Z))
  have S3:=Lib.hid (S1.out.nilrow 105 2:Sep w w1 [.own 105 2 none 0 0 [],.own 3 1 q1 P.length c1 (encI P),.blk (w.heap.size+1) 34 #[.bool false,.int .i64 0,.slice none 0 0],.blk w.heap.size 24 #[.int .i64 k,.int .i64 f,.int .i64 t,.slice pw nw cw,.int .i64 rad,.int .i64 most]])
  clear S1 S0 HA
  go_loopw [9,11,24] (fun v _ i wr=>∃ (j:Nat) (q:Option Addr) (m d:Nat),j≤n∧i=.int .i64 j∧v=.slice q m d∧m≤j∧Sep w wr [.own 105 2 q m d (encE (hitS (l.take j) P)),.own 3 1 q1 P.length c1 (encI P),.blk (w.heap.size+1) 34 #[.bool false,.int .i64 0,.slice none 0 0],.blk w.heap.size 24 #[.int .i64 k,.int .i64 f,.int .i64 t,.slice pw nw cw,.int .i64 rad,.int .i64 most]]) (fun _ _ i _=>n - (intOf i).toNat)
  case atStart=>exact⟨0,none,0,0,Nat.zero_le _,rfl,rfl,Nat.le_refl _,S3.out⟩
  case round =>
   clear S3
   obtain⟨j,q,m,d,hj,rfl,rfl,hm,S⟩:=hrel
   by_cases hlt:j<n
   ·obtain⟨g1,g2,g3,g4⟩:=(HL.out.ext S.ext).cQ hlt
    have HT:=Lib.hid (take_succ_nth l j (by rw [← L1.out];exact hlt))
    have d1:(0:Int)≤j:=by omega
    have d2:(j:Int)<n:=by omega
    have SH:=Lib.hid S;clear S
    generalize nth l j=x at *
    have HS:=Lib.hid (hitS_snoc (l.take j) P x)
    rw [← HT.out] at HS
    have SX:=Lib.hid (SH.out.al #[.int .i64 x.s,.int .i64 x.r,.int .i64 x.v,.int .i64 x.d] 146 wr.heap.size rfl)
    have HCO:=Lib.hid (ContI q1 P.length c1 P x.v _ (SX.out.rdx 2 rfl))
    have HCN:Hid (inB P x.v=P.contains x.v):=by unfold Hid;rw [Bool.eq_iff_iff,inB_iff];simp
    by_cases hr:x.r=0
    ·have e1:(x.r == 0)=true:=by simpa using hr
     rw [e1,Bool.true_and,← HCN.out] at HS
     cases hin:inB P x.v with
     | true =>
      rw [hin] at HCO HS
      have HS2:Hid (hitS (l.take (j+1)) P=hitS (l.take j) P ++ [(x.v,x.d)]):=HS.out.trans (if_pos rfl)
      clear HS hr hin HCN
      go_wp2_with (first
       | (at_builtin;go_must (refine wpList_append_sep rfl _ _ _ rfl 105 i0 _ 2 16 Tryz.underlying32 hi0 hz0 hz1 hz2 rfl (by omega) (S2.out.junk _) 1 q m d _ rfl rfl _ 1 1 _ rfl (Rd.one2 _ _ _ _) (one_encE _) (by omega) (by omega) ?_;intro q7 d7 w7 S' hsz;have S7:=Lib.hid S';clear S' hsz))
       | (go_at_call 218;go_must (refine HCO.out.mono ?_;rintro e w2 ⟨rfl,hb⟩;have S2:=Lib.hid (SX.out.call hb);obtain⟨y2,y3,yz⟩:=bkc2c3l (S2.out.blk 0 rfl);clear hb)))
      go_roundw
      case rel=>exact⟨j+1,q7,m+1,d7,by omega,by go_num,rfl,by omega,by rw [HS2.out,encE_append];exact S7.out.pick [1,2,3,4] (by decide) rfl⟩
      case measure=>simp [intOf];omega
     | false =>
      rw [hin] at HCO HS
      have HS2:Hid (hitS (l.take (j+1)) P=hitS (l.take j) P):=HS.out.trans (if_neg (by simp))
      clear HS hr hin HCN
      go_wp2_with (go_at_call 218;go_must (refine HCO.out.mono ?_;rintro e w2 ⟨rfl,hb⟩;have S2:=Lib.hid (SX.out.call hb);clear hb))
      go_roundw
      case rel=>exact⟨j+1,q,m,d,by omega,by go_num,rfl,by omega,by rw [HS2.out];exact S2.out.pick [1,2,3,4] (by decide) rfl⟩
      case measure=>simp [intOf];omega
    ·have e1:(x.r == 0)=false:=by simpa using hr
     rw [e1,Bool.false_and] at HS
     have HS2:Hid (hitS (l.take (j+1)) P=hitS (l.take j) P):=HS.out.trans (if_neg (by simp))
     clear HS hr HCN HCO
     go_wp2
     go_roundw
     case rel=>exact⟨j+1,q,m,d,by omega,by go_num,rfl,by omega,by rw [HS2.out];exact SX.out.pick [1,2,3,4] (by decide) rfl⟩
     case measure=>simp [intOf];omega
   ·obtain rfl:j=n:=by omega
    rw [List.take_of_length_le (by rw [← L1.out];exact Nat.le_refl _)] at S
    obtain⟨a5,az⟩:=bkc5l (S.blk 3 rfl)
    have HFR:=Lib.hid (First10 q m d (hitS l P) most wr (S.rdx 0 rfl) (by omega))
    rw [HFI.out] at HFR
    have SH:=Lib.hid S;clear S
    go_wp2_with (go_at_call 191;go_must (refine HFR.out.mono ?_;rintro e w3 ⟨q3,d3,rfl,Z⟩;have S4:=Lib.hid (SH.out.comp Z);clear Z;obtain⟨b0,b1,b2,bz,f0,f1,f2⟩:=bkc0c1c2lz0z1z2 (S4.out.blk 3 rfl)))
    have S9:=Lib.hid (((S4.out.set 3 rfl 0 (.bool (decide (0<F.length)))).set 3 rfl 1 (.int .i64 0)).set 3 rfl 2 (.slice q3 F.length d3))
    obtain⟨x0,x1,x2⟩:=bkc0c1c2 (S9.out.blk 3 rfl)
    exact bodyPost_ret (v:=.agg #[.bool (decide (0<F.length)),.int .i64 0,.slice q3 F.length d3]) (by simp [results,Tryz.results155,go_sem,x0,x1,x2,Tryz.sizeOf34,Tryz.isAgg34]) rfl ⟨q3,d3,rfl,S9.out.pick [0] (by decide) rfl⟩
end
section
open Go Go.RowKit
theorem Done3 (f t:Int) (pw:Option Addr) (nw cw:Nat) (ws:List ByteArray) (rad most:Int) (pp:Option Addr) (np cp:Nat) (hs:List Hd) (L:List Po) (p:Option Addr) (n c:Nat) (l:List Sq) (pm:Option Addr) (nm cm:Nat) (w:World) (hL:RdP w pp np hs L) (hok:PoOk L) (hw:Rd w 1 pw nw (encS ws)) (hcw:nw≤cw) (hnw:nw≤100) (hl:Rd w 4 p n (encQ l)) (hn:n≤1000) (hm:nm=0) :
  Calls Tryz.prog 95 #[.agg #[.int .i64 3,.int .i64 f,.int .i64 t,.slice pw nw cw,.int .i64 rad,.int .i64 most],.slice pp np cp,.slice p n c,.slice pm nm cm] w fun e w'=>∃ q c',e=.returned (.tuple #[.agg #[.bool (decide (0<(nearS l (allX L ws) most).length)),.int .i64 0,.slice q (nearS l (allX L ws) most).length c'],.bool true])∧Sep w w' [.own 105 2 q (nearS l (allX L ws) most).length c' (encE (nearS l (allX L ws) most))]:=by
 have S0:=Lib.hid ((((Sep.start w).al #[.int .i64 3,.int .i64 f,.int .i64 t,.slice pw nw cw,.int .i64 rad,.int .i64 most] 24 w.heap.size rfl).al #[.slice pm nm cm] 83 (w.heap.size+1) (by simp)).al #[.bool false,.int .i64 0,.slice none 0 0] 34 (w.heap.size+1+1) (by simp))
 have HH:=Lib.hid (fun W (h:Ext w W)=>HitsG 3 f t pw nw cw ws rad most pp np cp hs L p n c l W (hL.ext h) hok (hw.ext h) hcw hnw (hl.ext h) hn)
 clear hL hok hw hl
 generalize nearS l (allX L ws) most=F at *
 subst hm
 go_enter Tryz.func95,Tryz.ntmps95
 go_wp2_with (go_at_call 155;go_must (refine(HH.out _ S0.out.ext).mono ?_;rintro e w1 ⟨q,d,rfl,Z⟩;have S1:=Lib.hid (S0.out.comp Z);clear Z;obtain⟨b0,b1,b2,bz,f0,f1,f2⟩:=bkc0c1c2lz0z1z2 (S1.out.blk 1 rfl)))
 have S9:=Lib.hid (((S1.out.set 1 rfl 0 (.bool (decide (0<F.length)))).set 1 rfl 1 (.int .i64 0)).set 1 rfl 2 (.slice q F.length d))
 obtain⟨x0,x1,x2⟩:=bkc0c1c2 (S9.out.blk 1 rfl)
 exact bodyPost_ret (v:=.tuple #[.agg #[.bool (decide (0<F.length)),.int .i64 0,.slice q F.length d],.bool true]) (by simp [results,Tryz.results95,go_sem,x0,x1,x2,Tryz.sizeOf34,Tryz.isAgg34]) rfl ⟨q,d,rfl,S9.out.pick [0] (by decide) rfl⟩
theorem Done3m (f t:Int) (pw:Option Addr) (nw cw:Nat) (rad most:Int) (pp:Option Addr) (np cp:Nat) (p:Option Addr) (n c:Nat) (pm:Option Addr) (nm cm:Nat) (w:World) (hm:0<nm) :
  Calls Tryz.prog 95 #[.agg #[.int .i64 3,.int .i64 f,.int .i64 t,.slice pw nw cw,.int .i64 rad,.int .i64 most],.slice pp np cp,.slice p n c,.slice pm nm cm] w fun e w'=>e=.returned (.tuple #[.agg #[.bool false,.int .i64 0,.slice none 0 0],.bool false])∧Ext w w':=by
 have S0:=Lib.hid ((((Sep.start w).al #[.int .i64 3,.int .i64 f,.int .i64 t,.slice pw nw cw,.int .i64 rad,.int .i64 most] 24 w.heap.size rfl).al #[.slice pm nm cm] 83 (w.heap.size+1) (by simp)).al #[.bool false,.int .i64 0,.slice none 0 0] 34 (w.heap.size+1+1) (by simp))
 have e1:decide ((0:Int)<(nm:Int))=true:=by simp;omega
 go_enter Tryz.func95,Tryz.ntmps95
 go_wp2
 have S9:=Lib.hid (((S0.out.set 0 rfl 0 (.bool false)).set 0 rfl 1 (.int .i64 0)).set 0 rfl 2 (.slice none 0 0))
 exact bodyPost_ret (v:=.tuple #[.agg #[.bool false,.int .i64 0,.slice none 0 0],.bool false]) (by simp [results,Tryz.results95,go_sem,Tryz.sizeOf34,Tryz.isAgg34]) rfl ⟨rfl,S0.out.ext⟩
end
section
open Go Go.RowKit
def PairAt (l:List Sq) (i j:Nat) (s:Int):Prop:=(nth l i).r=0∧(nth l j).r=1∧(nth l i).v=(nth l j).v∧(nth l i).d+(nth l j).d=s
def SeenD (l:List Sq) (P:Nat→Nat→Prop) (b:Bool) (d:Int):Prop :=
 (b=false→d=0∧∀ i j s,P i j→¬ PairAt l i j s)∧(b=true→(∃ i j,i<l.length∧j<l.length∧PairAt l i j d)∧∀ i j s,P i j→PairAt l i j s→d≤s)
theorem seen_imp {l:List Sq} {P Q:Nat→Nat→Prop} {b:Bool} {d:Int} (h:SeenD l P b d) (hq:∀ i j,Q i j→P i j):SeenD l Q b d :=
 ⟨fun hb=>⟨(h.1 hb).1,fun i j s hp=>(h.1 hb).2 i j s (hq i j hp)⟩,fun hb=>⟨(h.2 hb).1,fun i j s hp=>(h.2 hb).2 i j s (hq i j hp)⟩⟩
theorem seen_skip {l:List Sq} {P Q:Nat→Nat→Prop} {b:Bool} {d:Int} {i k:Nat} (h:SeenD l P b d) (hq:∀ a c,Q a c→(a=i∧c=k)∨P a c) (hs:∀ s,PairAt l i k s→b=true∧d≤s):SeenD l Q b d:=by
 refine⟨fun hb=>⟨(h.1 hb).1,fun a c s hp hpa=>?_⟩,fun hb=>⟨(h.2 hb).1,fun a c s hp hpa=>?_⟩⟩
 ·rcases hq a c hp with ⟨rfl,rfl⟩ | h2
  ·rw [(hs s hpa).1] at hb;cases hb
  ·exact(h.1 hb).2 a c s h2 hpa
 ·rcases hq a c hp with ⟨rfl,rfl⟩ | h2
  ·exact(hs s hpa).2
  ·exact(h.2 hb).2 a c s h2 hpa
theorem seen_put {l:List Sq} {P Q:Nat→Nat→Prop} {b:Bool} {d s:Int} {i k:Nat} (h:SeenD l P b d) (hi:i<l.length) (hk:k<l.length) (hq:∀ a c,Q a c→(a=i∧c=k)∨P a c) (hs:PairAt l i k s) (hd:b=true→s≤d):SeenD l Q true s:=by
 refine⟨fun hb=>(by cases hb),fun _=>⟨⟨i,k,hi,hk,hs⟩,fun a c s' hp hpa=>?_⟩⟩
 rcases hq a c hp with ⟨rfl,rfl⟩ | h2
 ·have h1:=hs.2.2.2
  have h3:=hpa.2.2.2
  omega
 ·cases b with
  | false=>exact absurd hpa ((h.1 rfl).2 a c s' h2)
  | true=>have:=(h.2 rfl).2 a c s' h2 hpa;have:=hd rfl;omega
theorem seen_end {l:List Sq} {b:Bool} {d:Int} (h:SeenD l (fun a c=>a<l.length∧c<l.length) b d):MeetA l b d:=by
 have key:∀ s,PairD l s→∃ i j,(i<l.length∧j<l.length)∧PairAt l i j s:=by
  rintro s ⟨x,hx,y,hy,h1,h2,h3,h4⟩
  obtain⟨i,hi,rfl⟩:=List.mem_iff_getElem.1 hx
  obtain⟨j,hj,rfl⟩:=List.mem_iff_getElem.1 hy
  refine⟨i,j,⟨hi,hj⟩,?_⟩
  unfold PairAt
  rw [nth_eq hi,nth_eq hj]
  exact⟨h1,h2,h3,h4⟩
 refine⟨fun hb=>⟨(h.1 hb).1,fun s hs=>?_⟩,fun hb=>⟨?_,fun s hs=>?_⟩⟩
 ·obtain⟨i,j,hp,hpa⟩:=key s hs
  exact(h.1 hb).2 i j s hp hpa
 ·obtain⟨i,j,hi,hj,h1,h2,h3,h4⟩:=(h.2 hb).1
  rw [nth_eq hi] at h1 h3 h4
  rw [nth_eq hj] at h2 h3 h4
  exact⟨l[i],List.getElem_mem _,l[j],List.getElem_mem _,h1,h2,h3,h4⟩
 ·obtain⟨i,j,hp,hpa⟩:=key s hs
  exact(h.2 hb).2 i j s hp hpa
end
section
open Go Go.RowKit
def metB (st:List Sq):Bool:=st.any fun x=>st.any fun y=>x.r == 0 && (y.r == 1 && x.v == y.v)
theorem meetA_met {st:List Sq} {b:Bool} {d:Int} (h:MeetA st b d):b=metB st:=by
 have hm:metB st=true↔∃ z,PairD st z:=by
  unfold metB
  rw [List.any_eq_true]
  constructor
  ·rintro⟨x,hx,h2⟩
   rw [List.any_eq_true] at h2
   obtain⟨y,hy,h3⟩:=h2
   simp only [Bool.and_eq_true,beq_iff_eq] at h3
   exact⟨x.d+y.d,x,hx,y,hy,h3.1,h3.2.1,h3.2.2,rfl⟩
  ·rintro⟨z,x,hx,y,hy,h1,h2,h3,_⟩
   refine⟨x,hx,List.any_eq_true.2 ⟨y,hy,?_⟩⟩
   simp only [Bool.and_eq_true,beq_iff_eq]
   exact⟨h1,h2,h3⟩
 cases b with
 | false =>
  cases hb:metB st with
  | false=>rfl
  | true =>
   obtain⟨z,hz⟩:=hm.1 hb
   exact absurd hz ((h.1 rfl).2 z)
 | true=>exact(hm.2 ⟨d,(h.2 rfl).1⟩).symm
def doneB (k t:Int) (p:List Sq × List Sq):Bool:=if k=1 then metB p.1 || !hasD p.2 0 || !hasD p.2 1 else if k=2 then atS p.1 t || decide (p.2.length=0) else decide (p.2.length=0)
theorem hasD_iff18 {M:List Sq} {r:Int}:hasD M r=true↔∃ x∈M,x.r=r:=by
 unfold hasD
 rw [List.any_eq_true]
 constructor
 ·rintro⟨x,h1,h2⟩;exact⟨x,h1,by simpa using h2⟩
 ·rintro⟨x,h1,h2⟩;exact⟨x,h1,by simpa using h2⟩
theorem hasD_no {M:List Sq} {r:Int}:hasD M r=false↔¬ ∃ x∈M,x.r=r:=by rw [← hasD_iff18,Bool.not_eq_true]
section
variable {k rad most:Int} {O T R V:List Int} {n s t:Nat} (hck:checkR O T R V=true) (hn:O.length=n+1) (h200:n≤200) (hk:k=1∨k=2∨k=3) (hr3:k=3→0≤rad) (hs:s<n) (ht:k=1→t<n)
include hck hn h200 hk hr3 hs ht
theorem run_told0 (m:Nat):ToldS (dirN 0 O T R V) n s 0 (limQ k rad n) m (runM (nextL k rad true O T R V) (startQ k s t 0) (m+1)).1 ∧
  ∀ x,x.r=0→(x∈(runM (nextL k rad true O T R V) (startQ k s t 0) (m+1)).2↔∃ v:Nat,v<n∧lev (dirN 0 O T R V) n s v=(m+1:Nat)∧((m+1:Nat):Int)≤limQ k rad n∧x=⟨0,0,v,(m+1:Nat)⟩):=by
 obtain⟨f1,f2,f3,f4,f5⟩:=start_facts (rad:=rad) (most:=rad) hk hs ht rfl rfl
 have hl:Leads n (nextL k rad true O T R V):=next_leads hck hn
 have:=run_bfs hs (dirN_in hck hn 0) (Or.inl rfl) (lim:=limQ k rad n) (by unfold limQ;split;exact hr3 (by assumption);omega) (fun x a b c d=>next_goes hck hn h200 (Or.inl rfl) x a b c d) hl f1 f2 f3 (m+1)
 exact⟨this.2,this.1⟩
theorem run_told1 (h1:k=1) (m:Nat):ToldS (dirN 1 O T R V) n t 1 (limQ k rad n) m (runM (nextL k rad true O T R V) (startQ k s t 0) (m+1)).1 ∧
  ∀ x,x.r=1→(x∈(runM (nextL k rad true O T R V) (startQ k s t 0) (m+1)).2↔∃ v:Nat,v<n∧lev (dirN 1 O T R V) n t v=(m+1:Nat)∧((m+1:Nat):Int)≤limQ k rad n∧x=⟨0,1,v,(m+1:Nat)⟩):=by
 obtain⟨f1,f2,f3,f4,f5⟩:=start_facts (rad:=rad) (most:=rad) hk hs ht rfl rfl
 have hl:Leads n (nextL k rad true O T R V):=next_leads hck hn
 have:=run_bfs (ht h1) (dirN_in hck hn 1) (Or.inr rfl) (lim:=limQ k rad n) (by unfold limQ;split;exact hr3 (by assumption);omega) (fun x a b c d=>next_goes hck hn h200 (Or.inr rfl) x a b c d) hl f1 f2 (f4 h1) (m+1)
 exact⟨this.2,this.1⟩
omit hr3 in
theorem run_done:∃ m,m<n∧doneB k t (runM (nextL k rad true O T R V) (startQ k s t 0) (m+1))=true∧∀ j,j<m→doneB k t (runM (nextL k rad true O T R V) (startQ k s t 0) (j+1))=false:=by
 obtain⟨f1,f2,f3,f4,f5⟩:=start_facts (rad:=rad) (most:=rad) hk hs ht rfl rfl
 have hl:Leads n (nextL k rad true O T R V):=next_leads hck hn
 have hno:∀ r,hasD (runM (nextL k rad true O T R V) (startQ k s t 0) (n - 1+1)).2 r=false:=fun r=>by
  rw [hasD_no]
  intro h
  have:=run_ends hl f1 f2 r _ h
  omega
 have hd:doneB k t (runM (nextL k rad true O T R V) (startQ k s t 0) (n - 1+1))=true:=by
  have he:k≠1→(runM (nextL k rad true O T R V) (startQ k s t 0) (n - 1+1)).2.length=0:=fun h=>by
   refine List.length_eq_zero_iff.2 (List.eq_nil_iff_forall_not_mem.2 fun x hx=>?_)
   exact hasD_no.1 (hno 0) ⟨x,hx,run_out hck hn f1 f2 (f5 h) _ x hx⟩
  unfold doneB
  split
  ·rw [hno 0];simp
  ·rename_i h1
   split
   ·rw [he h1];simp
   ·rw [he h1];rfl
 obtain⟨m,h1,h2,h3⟩:=least_nat (p:=fun j=>doneB k t (runM (nextL k rad true O T R V) (startQ k s t 0) (j+1))) (n - 1) hd
 exact⟨m,by omega,h2,h3⟩
theorem ask_far (h1:k=1) {m:Nat} (hd:doneB k t (runM (nextL k rad true O T R V) (startQ k s t 0) (m+1))=true) (hf:∀ j,j<m→doneB k t (runM (nextL k rad true O T R V) (startQ k s t 0) (j+1))=false) {b:Bool} {d:Int}
  (hA:MeetA (runM (nextL k rad true O T R V) (startQ k s t 0) (m+1)).1 b d):b=distB (lev (rowL O T) n s t)∧d=distN (lev (rowL O T) n s t):=by
 have ht1:=ht h1
 have hlim:(n:Int)≤limQ k rad n:=by unfold limQ;rw [if_neg (by omega)];omega
 have hrev:Rev (dirN 0 O T R V) (dirN 1 O T R V) n:=by
  have:=nxR_rev hck false
  rw [hn] at this
  exact this
 obtain⟨a1,a2⟩:=run_told0 hck hn h200 hk hr3 hs ht m
 obtain⟨b1,b2⟩:=run_told1 hck hn h200 hk hr3 hs ht h1 m
 have hmeet:∀ j,metB (runM (nextL k rad true O T R V) (startQ k s t 0) (j+1)).1=meetB n (lev (dirN 0 O T R V) n s) (lev (dirN 1 O T R V) n t) j:=fun j=>by
  have p:=told_pair hlim hs ht1 (run_told0 hck hn h200 hk hr3 hs ht j).1 (run_told1 hck hn h200 hk hr3 hs ht h1 j).1
  rw [Bool.eq_iff_iff,meetB_iff]
  unfold metB
  rw [List.any_eq_true]
  constructor
  ·rintro⟨x,hx,h2⟩
   rw [List.any_eq_true] at h2
   obtain⟨y,hy,h3⟩:=h2
   simp only [Bool.and_eq_true,beq_iff_eq] at h3
   obtain⟨v,c1,c2,c3,c4,c5,_⟩:=(p _).1 ⟨x,hx,y,hy,h3.1,h3.2.1,h3.2.2,rfl⟩
   exact⟨v,c1,c2,c3,c4,c5⟩
  ·rintro⟨v,c1,c2,c3,c4,c5⟩
   obtain⟨x,hx,y,hy,g1,g2,g3,_⟩:=(p _).2 ⟨v,c1,c2,c3,c4,c5,rfl⟩
   refine⟨x,hx,List.any_eq_true.2 ⟨y,hy,?_⟩⟩
   simp only [Bool.and_eq_true,beq_iff_eq]
   exact⟨g1,g2,g3⟩
 obtain⟨e1,e2,e3⟩:=end_far hlim hrev hs ht1 a1 b1 hA
 show b=distB (lev (dirN 0 O T R V) n s t)∧d=distN (lev (dirN 0 O T R V) n s t)
 cases b with
 | true =>
  have hfm:∀ j:Nat,j<m→meetB n (lev (dirN 0 O T R V) n s) (lev (dirN 1 O T R V) n t) j=false:=fun j hj=>by
   have:=hf j hj
   unfold doneB at this
   rw [if_pos h1,Bool.or_eq_false_iff,Bool.or_eq_false_iff] at this
   rw [← hmeet j];exact this.1.1
  obtain⟨g1,g2⟩:=e2 rfl hfm
  unfold distB distN
  rw [if_pos g1,decide_eq_true g1]
  exact⟨rfl,g2⟩
 | false =>
  have hno:lev (dirN 0 O T R V) n s t<0:=by
   refine end_none hrev hs ht1 (m:=m) e1.symm ?_
   unfold doneB at hd
   rw [if_pos h1,hmeet m,← e1,Bool.false_or,Bool.or_eq_true,Bool.not_eq_true',Bool.not_eq_true'] at hd
   have l1:∀ v,v<n→lev (dirN 0 O T R V) n s v<n:=fun v hv=>lev_lt hs hv
   have l2:∀ v,v<n→lev (dirN 1 O T R V) n t v<n:=fun v hv=>lev_lt ht1 hv
   rcases hd with hd | hd
   ·left
    rw [Bool.eq_false_iff]
    intro h
    obtain⟨v,c1,c2⟩:=hasL_iff.1 h
    refine hasD_no.1 hd ⟨⟨0,0,v,(m+1:Nat)⟩,(a2 _ rfl).2 ⟨v,c1,c2,?_,rfl⟩,rfl⟩
    have:=l1 v c1;omega
   ·right
    rw [Bool.eq_false_iff]
    intro h
    obtain⟨v,c1,c2⟩:=hasL_iff.1 h
    refine hasD_no.1 hd ⟨⟨0,1,v,(m+1:Nat)⟩,(b2 _ rfl).2 ⟨v,c1,c2,?_,rfl⟩,rfl⟩
    have:=l2 v c1;omega
  unfold distB distN
  rw [if_neg (by omega),decide_eq_false (by omega)]
  exact⟨rfl,e3 rfl⟩
end
end
section
open Go Go.RowKit
def DoneQ (b:Bool) (d:Int) (F:List (Int × Int)) (dn:Bool) (w:World) (e:Ending) (w':World):Prop:=∃ q c',e=.returned (.tuple #[.agg #[.bool b,.int .i64 d,.slice q F.length c'],.bool dn])∧Sep w w' [.own 105 2 q F.length c' (encE F)]
theorem doneQ_nil {b:Bool} {d:Int} {dn:Bool} {w w':World} {e:Ending} (h:e=.returned (.tuple #[.agg #[.bool b,.int .i64 d,.slice none 0 0],.bool dn])) (hE:Ext w w'):DoneQ b d [] dn w e w':=⟨none,0,h,((Sep.start w).call hE).nilrow _ _⟩
theorem meet_ex (l:List Sq):∃ b d,MeetA l b d:=by
 have key:∀ m:Nat,∃ b d,SeenD l (fun a c=>a*l.length+c<m∧a<l.length∧c<l.length) b d:=by
  intro m
  induction m with
  | zero=>exact⟨false,0,fun _=>⟨rfl,fun i j s h=>by omega⟩,fun h=>by cases h⟩
  | succ m ih =>
   obtain⟨b,d,h⟩:=ih
   by_cases hn:l.length=0
   ·exact⟨b,d,seen_imp h fun a c h2=>by omega⟩
   ·have hq:∀ a c,(a*l.length+c<m+1∧a<l.length∧c<l.length)→(a=m / l.length∧c=m % l.length)∨(a*l.length+c<m∧a<l.length∧c<l.length):=by
     intro a c h2
     by_cases he:a*l.length+c=m
     ·left
      subst he
      have hpos:0<l.length:=by omega
      refine⟨?_,?_⟩
      ·rw [Nat.mul_comm,Nat.mul_add_div hpos,Nat.div_eq_of_lt h2.2.2];rfl
      ·rw [Nat.mul_comm,Nat.mul_add_mod,Nat.mod_eq_of_lt h2.2.2]
     ·right;omega
    by_cases hpa:∃ s,PairAt l (m / l.length) (m % l.length) s∧m / l.length<l.length
    ·obtain⟨s,hs,hlt⟩:=hpa
     have hmod:m % l.length<l.length:=Nat.mod_lt _ (by omega)
     by_cases hd:b=true→s≤d
     ·exact⟨true,s,seen_put h hlt hmod hq hs hd⟩
     ·refine⟨b,d,seen_skip h hq fun s' hs'=>?_⟩
      have hb:b=true:=by
       cases b with
       | true=>rfl
       | false=>exact absurd (fun e=>by cases e) hd
      have h1:=hs.2.2.2
      have h2:=hs'.2.2.2
      refine⟨hb,?_⟩
      have:¬ s≤d:=fun h3=>hd fun _=>h3
      omega
    ·have hq2:∀ a c,(a*l.length+c<m+1∧a<l.length∧c<l.length)→((a*l.length+c<m∧a<l.length∧c<l.length)∨(a=m / l.length∧c=m % l.length∧a<l.length)):=fun a c h2=>by
      rcases hq a c h2 with ⟨h3,h4⟩ | h3
      ·exact .inr ⟨h3,h4,h2.2.1⟩
      ·exact .inl h3
     refine⟨b,d,⟨fun hb=>⟨(h.1 hb).1,fun a c s hp hps=>?_⟩,fun hb=>⟨(h.2 hb).1,fun a c s hp hps=>?_⟩⟩⟩
     ·rcases hq2 a c hp with h3 | ⟨rfl,rfl,h5⟩
      ·exact(h.1 hb).2 a c s h3 hps
      ·exact hpa ⟨s,hps,h5⟩
     ·rcases hq2 a c hp with h3 | ⟨rfl,rfl,h5⟩
      ·exact(h.2 hb).2 a c s h3 hps
      ·exact absurd ⟨s,hps,h5⟩ hpa
 obtain⟨b,d,h⟩:=key (l.length*l.length)
 refine⟨b,d,seen_end (seen_imp h fun a c h2=>⟨?_,h2⟩)⟩
 have h3:a*l.length+l.length≤l.length*l.length:=by
  rw [← Nat.succ_mul];exact Nat.mul_le_mul_right _ h2.1
 omega
def AnsD (k t:Int) (L:List Po) (ws:List ByteArray) (most:Int) (p:List Sq × List Sq) (b:Bool) (d:Int) (F:List (Int × Int)):Prop :=
 (k=1→MeetA p.1 b d∧F=[])∧(k=2→b=atS p.1 t∧d=0∧F=[])∧(k=3→p.2.length=0→F=nearS p.1 (allX L ws) most∧b=decide (0<F.length)∧d=0)
theorem Done_runP (k f t:Int) (pw:Option Addr) (nw cw:Nat) (ws:List ByteArray) (rad most:Int) (pp:Option Addr) (np cp:Nat) (hs:List Hd) (L:List Po) (p:Option Addr) (n c:Nat) (l:List Sq) (pm:Option Addr) (nm cm:Nat) (M:List Sq) (hk:k=1∨k=2∨k=3) (ht:I64 t) (hcw:nw≤cw) (hnw:nw≤100) (hok:PoOk L) (hi:∀ x∈l,x.I) (hb:∀ x∈l,-1000000≤x.d∧x.d≤1000000) (hn:n≤1000) :
  ∃ b d F,AnsD k t L ws most (l,M) b d F∧∀ w,RdP w pp np hs L→Rd w 1 pw nw (encS ws)→Rd w 4 p n (encQ l)→Rd w 4 pm nm (encQ M) →
   Calls Tryz.prog 95 #[.agg #[.int .i64 k,.int .i64 f,.int .i64 t,.slice pw nw cw,.int .i64 rad,.int .i64 most],.slice pp np cp,.slice p n c,.slice pm nm cm] w (DoneQ b d F (doneB k t (l,M)) w):=by
 have hi2:∀ x∈l,I64 x.v∧I64 x.d:=fun x hx=>⟨(hi x hx).2.2.1,(hi x hx).2.2.2⟩
 rcases hk with rfl | rfl | rfl
 ·obtain⟨b,d,hA⟩:=meet_ex l
  have hdn:doneB 1 t (l,M)=(b || !hasD M 0 || !hasD M 1):=by unfold doneB;rw [if_pos rfl,← meetA_met hA]
  refine⟨b,d,[],⟨fun _=>⟨hA,rfl⟩,fun h=>absurd h (by decide),fun h=>absurd h (by decide)⟩,fun w hL hw hl hM=>?_⟩
  rw [hdn]
  refine(Done1 f t pw nw cw rad most pp np cp p n c l pm nm cm M w hl hM hi2 hb (by omega)).mono ?_
  rintro e w' ⟨b',d',rfl,hE,hA'⟩
  obtain⟨rfl,rfl⟩:=meetA_uniq hA' hA
  exact doneQ_nil rfl hE
 ·refine⟨atS l t,0,[],⟨fun h=>absurd h (by decide),fun _=>⟨rfl,rfl,rfl⟩,fun h=>absurd h (by decide)⟩,fun w hL hw hl hM=>?_⟩
  have hdn:doneB 2 t (l,M)=(atS l t || decide (nm=0)):=by unfold doneB;rw [if_neg (by decide),if_pos rfl,hM.nQ]
  rw [hdn]
  exact(Done2 f t pw nw cw rad most pp np cp p n c l pm nm cm w hl hi2 (by omega) ht).mono fun e w' ⟨h,hE⟩=>doneQ_nil h hE
 ·by_cases h0:M.length=0
  ·refine⟨decide (0<(nearS l (allX L ws) most).length),0,nearS l (allX L ws) most,⟨fun h=>absurd h (by decide),fun h=>absurd h (by decide),fun _ _=>⟨rfl,rfl,rfl⟩⟩,fun w hL hw hl hM=>?_⟩
   have hm:=hM.nQ
   have hdn:doneB 3 t (l,M)=true:=by unfold doneB;rw [if_neg (by decide),if_neg (by decide)];exact decide_eq_true h0
   rw [hdn]
   exact(Done3 f t pw nw cw ws rad most pp np cp hs L p n c l pm nm cm w hL hok hw hcw hnw hl hn (by omega)).mono fun e w' h=>h
  ·refine⟨false,0,[],⟨fun h=>absurd h (by decide),fun h=>absurd h (by decide),fun _ h=>absurd h h0⟩,fun w hL hw hl hM=>?_⟩
   have hm:=hM.nQ
   have hdn:doneB 3 t (l,M)=false:=by unfold doneB;rw [if_neg (by decide),if_neg (by decide)];exact decide_eq_false h0
   rw [hdn]
   exact(Done3m f t pw nw cw rad most pp np cp p n c pm nm cm w (by omega)).mono fun e w' ⟨h,hE⟩=>doneQ_nil h hE
end
section
open Go
section
variable {F:Fence} {n:Nat} {P:Program} {ops:Array Oper} {Q:Exit→Act→World→Prop} {md:Region.Mode} {S:World→Prop}
def CalmIf (P:Program) (ops:Array Oper) (S:World→Prop) (o:Oper) (v:Value) (a:Act):Prop:=YieldsIf P ops S o v a∧∀ w,S w→o.about P w a.eval=none
theorem CalmIf.same {o:Oper} {v:Value} {a a':Act} (hy:CalmIf P ops S o v a) (he:execOp a'.eval o=execOp a.eval o)
  (hw:Region.wanted o (yielded ops a'.tmps)=Region.wanted o (yielded ops a.tmps)) (hb:∀ w,o.about P w a'.eval=o.about P w a.eval):CalmIf P ops S o v a' :=
 ⟨hy.1.of_same he hw,fun w hS=>(hb w).trans (hy.2 w hS)⟩
theorem CalmIf.step {i:Nat} {o:Oper} {v:Value} {a:Act} (hro:F.round=none) (hi:ops[i]?=some o) (hy:CalmIf P ops S o v a)
  {K:Act→World→Prop} {w:World} (hS:S w) (h:K (a.put o.dst v) w):wpOpIn F n P ops Q i K a w:=by
 have hab:∀ f,o.about P w a.eval=some f→F.fn f:=fun f hf=>nomatch (hy.2 w hS).symm.trans hf
 unfold wpOpIn
 simp only [hi]
 rcases hy.1 with ⟨hw,hv⟩ | ⟨hw,rfl⟩
 ·simp only [hw,if_true,Oper.wpIn,hro,Oper.semAt_none,hv w hS,Oper.uponIn];exact⟨hab,h⟩
 ·simp only [hw,Bool.false_eq_true,if_false];exact⟨hab,h⟩
theorem CalmIf.swap {j:Nat} {oi oj:Oper} {v:Value} (hro:F.round=none) (hj:ops[j]?=some oj) (hap:oi.apart ops oj=true)
  (hsi:∀ cs b,oi.op≠.select cs b) (hsj:∀ cs b,oj.op≠.select cs b)
  (hQ:∀ c a w,Q (.panic c) (a.put oi.dst v) w→Q (.panic c) a w) {K:Act→World→Prop} {a:Act} {w:World}
  (hy:CalmIf P ops S oi v a) (h:wpOpIn F n P ops Q j K (a.put oi.dst v) w) :
  wpOpIn F n P ops Q j (fun a' w'=>CalmIf P ops S oi v a'∧K (a'.put oi.dst v) w') a w:=by
 obtain⟨h1,h2,h3⟩:=Oper.apart_spec hap
 have hput:∀ u,CalmIf P ops S oi v (a.put oj.dst u):=fun u =>
  hy.same (execOp_put oi hsi a oj.dst u h3) (wanted_put oi a oj.dst u h3) (fun w=>about_put oi w a oj.dst u h3)
 have hcom:∀ u,(a.put oj.dst u).put oi.dst v=(a.put oi.dst v).put oj.dst u:=fun u=>(Act.put_comm a v u h2).symm
 unfold wpOpIn at *
 simp only [hj] at *
 rw [wanted_put oj a oi.dst v h1,about_put oj w a oi.dst v h1] at h
 split
 next hw =>
  simp only [hw,if_true] at h
  unfold Oper.wpIn at *
  rw [about_put oj w a oi.dst v h1,hro,Oper.semAt_none,execOp_put oj hsj a oi.dst v h1] at h
  rw [hro,Oper.semAt_none]
  obtain⟨hf,h⟩:=h
  refine⟨hf,?_⟩
  generalize (execOp a.eval oj).run P w=r at *
  cases r with
  | ok x w' =>
   cases x <;> simp only [Oper.uponIn] at h ⊢
   case value u=>exact⟨hput u,by rw [hcom];exact h⟩
   case skip=>exact⟨hput _,by rw [hcom];exact h⟩
   case defer d =>
    refine⟨?_,?_⟩
    ·exact hy.same (a':=Act.put { a with defers:=d :: a.defers } oj.dst undef)
      ((execOp_put oi hsi { a with defers:=d :: a.defers } oj.dst undef h3).trans rfl) ((wanted_put oi { a with defers:=d :: a.defers } oj.dst undef h3).trans rfl)
      (fun w=>(about_put oi w { a with defers:=d :: a.defers } oj.dst undef h3).trans rfl)
    ·rw [← Act.put_comm _ v undef h2,← Act.put_defers];exact h
   case enter f args =>
    refine⟨h.1,CallsIn.mono h.2 fun e w'' he=>?_⟩
    cases e with
    | returned u=>exact⟨hput u,by rw [hcom];exact he⟩
    | panicked c=>exact hQ _ _ _ he
    | outgrown=>exact he
   case row row args=>exact⟨h.1,RowsIn.mono h.2 fun u w'' he=>⟨hput u,by rw [hcom];exact he⟩⟩
   case round l f tmps assign body =>
    refine⟨h.1,RoundIn.mono h.2 fun e w'' he=>?_⟩
    cases e with
    | returned u=>exact⟨hput u,by rw [hcom];exact he⟩
    | panicked c=>exact hQ _ _ _ he
    | outgrown=>exact he
  | halt x w' =>
   cases x <;> simp only [Oper.uponIn] at h ⊢
   case panic u=>exact hQ _ _ _ h
 next hw =>
  simp only [hw] at h
  exact⟨h.1,hput _,by rw [hcom];exact h.2⟩
def wpAnyHI (F:Fence) (n:Nat) (P:Program) (md:Region.Mode) (ops:Array Oper) (Q:Exit→Act→World→Prop) (S:World→Prop) (y:Nat):Nat→Array Bool→Act→World→Prop
 | 0,listed,a,w=>Region.ready md ops listed=[]∧Q .normal a w
 | fuel+1,listed,a,w =>
  (Region.ready md ops listed=[]→Q .normal a w) ∧
  ∀ i∈Region.ready md ops listed,wpOpIn F n P ops Q i (fun a' w'=>(i=y→wpAnyIn F n P md ops Q fuel (listed.setIfInBounds i true) a' w')∧(i≠y→S w'∧wpAnyHI F n P md ops Q S y fuel (listed.setIfInBounds i true) a' w')) a w
theorem wpAnyIn_of_heldI {y:Nat}:∀ (fuel:Nat) (listed:Array Bool) (a:Act) (w:World),wpAnyHI F n P md ops Q S y fuel listed a w→wpAnyIn F n P md ops Q fuel listed a w
 | 0,_,_,_,h=>h
 | fuel+1,_,_,_,h=>⟨h.1,fun i hi=>wpOpIn_mono (fun a' w' h'=>(by
   by_cases e:i=y
   ·exact h'.1 e
   ·exact wpAnyIn_of_heldI fuel _ a' w' (h'.2 e).2)) (h.2 i hi)⟩
def downs (md:Region.Mode) (ops:Array Oper) (i:Nat) (D:List Nat):Bool :=
 D.all fun j=>match ops[j]? with
  | none=>false
  | some o=>o.after.any fun e=>Region.binds md e && (e.on == i || D.contains e.on)
theorem waits_not {listed:Array Bool} {j k:Nat} {oj:Oper} (hoj:ops[j]?=some oj) (hj:j∈Region.ready md ops listed) (hk:listed.getD k true=false) {e:Edge} (he:e∈oj.after) (hb:Region.binds md e=true) (hon:e.on=k):False:=by
 obtain⟨_,oj',hoj',hall⟩:=mem_ready.1 hj
 rw [hoj] at hoj'
 injection hoj' with hoj'
 subst hoj'
 have h1:=hall e he hb
 rw [hon] at h1
 rcases Nat.lt_or_ge k listed.size with h' | h'
 ·simp [h'] at hk h1;rw [hk] at h1;cases h1
 ·simp [Array.getElem?_eq_none h'] at h1
theorem wpAnyHI_first {i y:Nat} {oi:Oper} {v:Value} {D:List Nat} (hro:F.round=none) (hi:ops[i]?=some oi) (hsel:∀ (j:Nat) (o:Oper) cs b,ops[j]?=some o→o.op≠.select cs b)
  (hQ:∀ c a w,Q (.panic c) (a.put oi.dst v) w→Q (.panic c) a w) (hD:downs md ops i D=true) (hyD:y∈D) (hiy:i≠y) :
  ∀ (fuel:Nat) (listed:Array Bool) (a:Act) (w:World),
   (∀ j oj,ops[j]?=some oj→j≠i→listed.getD j true=false→(∀ e∈oj.after,Region.binds md e=true→e.on≠i)→oi.apart ops oj=true) →
   i∈Region.ready md ops listed→(∀ d∈D,listed.getD d true=false)→CalmIf P ops S oi v a→S w →
   wpAnyHI F n P md ops Q S y fuel (listed.setIfInBounds i true) (a.put oi.dst v) w→wpAnyHI F n P md ops Q S y (fuel+1) listed a w:=by
 have hDj:∀ (listed:Array Bool) (j:Nat),i∈Region.ready md ops listed→(∀ d∈D,listed.getD d true=false)→j∈Region.ready md ops listed→j ∉ D:=fun listed j hr hun hj hjD=>by
  have h0:=(mem_ready.1 hr).1
  obtain⟨_,oj,hoj,_⟩:=mem_ready.1 hj
  have h1:=List.all_eq_true.1 hD j hjD
  rw [hoj] at h1
  simp only [Array.any_eq_true',Bool.and_eq_true,Bool.or_eq_true,beq_iff_eq,List.contains_iff_mem] at h1
  obtain⟨e,he,hb,h2 | h2⟩:=h1
  ·exact waits_not hoj hj h0 he hb h2
  ·exact waits_not hoj hj (hun _ h2) he hb rfl
 intro fuel
 induction fuel with
 | zero =>
  intro listed a w _ hr hun hy hS H
  refine⟨fun h=>(by rw [h] at hr;cases hr),fun j hj=>?_⟩
  by_cases hji:j=i
  ·subst hji;exact hy.step hro hi hS ⟨fun e=>absurd e hiy,fun _=>⟨hS,H⟩⟩
  ·have:=ready_mono hj hji
   rw [H.1] at this
   cases this
 | succ fuel ih =>
  intro listed a w hfree hr hun hy hS H
  refine⟨fun h=>(by rw [h] at hr;cases hr),fun j hj=>?_⟩
  by_cases hji:j=i
  ·subst hji;exact hy.step hro hi hS ⟨fun e=>absurd e hiy,fun _=>⟨hS,H⟩⟩
  obtain⟨hjun,oj,hoj,hall⟩:=mem_ready.1 hj
  have hjD:=hDj listed j hr hun hj
  have hjy:j≠y:=fun e=>hjD (e ▸ hyD)
  have hnot:∀ e∈oj.after,Region.binds md e=true→e.on≠i:=fun e he hb heq=>waits_not hoj hj (mem_ready.1 hr).1 he hb heq
  refine wpOpIn_mono (fun a' w' h3=>⟨fun e=>absurd e hjy,fun _=>⟨(h3.2.2 hjy).1,ih (listed.setIfInBounds j true) a' w' (fun k ok hk hki hun hno=>?_) (ready_mono hr (Ne.symm hji)) (fun d hd=>?_) h3.1 (h3.2.2 hjy).1 ?_⟩⟩)
   (CalmIf.swap hro hoj (hfree j oj hoj hji hjun hnot) (fun cs b=>hsel i oi cs b hi) (fun cs b=>hsel j oj cs b hoj) hQ hy (H.2 j (ready_mono hj hji)))
  ·refine hfree k ok hk hki ?_ hno
   by_cases hjk:j=k
   ·subst hjk;exact hjun
   ·rw [getD_set_ne true hjk] at hun;exact hun
  ·rw [getD_set_ne true (show ¬ j=d from fun e=>hjD (by rw [e];exact hd))];exact hun d hd
  ·rw [Array.setIfInBounds_comm _ _ hji]
   exact(h3.2.2 hjy).2
theorem wpAnyHI_take {y:Nat} (D:List Nat) {i:Nat} {oi:Oper} {v:Value} {fuel:Nat} {listed:Array Bool} {a:Act} {w:World} (hro:F.round=none) (hi:ops[i]?=some oi)
  (hs:Region.noSelect ops=true) (hf:Region.free md ops listed i=true) (hr:(Region.ready md ops listed).contains i=true)
  (hD:(downs md ops i D && (D.contains y && (i != y && D.all fun d=>listed.getD d true == false)))=true)
  (hQ:∀ c a w,Q (.panic c) (a.put oi.dst v) w→Q (.panic c) a w) (hy:CalmIf P ops S oi v a) (hS:S w)
  (h:wpAnyHI F n P md ops Q S y fuel (listed.setIfInBounds i true) (a.put oi.dst v) w):wpAnyHI F n P md ops Q S y (fuel+1) listed a w:=by
 rw [Bool.and_eq_true,Bool.and_eq_true,Bool.and_eq_true] at hD
 obtain⟨d1,d2,d3,d4⟩:=hD
 exact wpAnyHI_first hro hi (Region.noSelect_spec hs) hQ d1 (by simpa using d2) (by simpa using d3) fuel listed a w (Region.free_spec hi hf) (by simpa using hr) (fun d hd=>(by simpa using List.all_eq_true.1 d4 d hd)) hy hS h
theorem wpAnyHI_one {y:Nat} {i:Nat} {o:Oper} {fuel:Nat} {listed:Array Bool} {a:Act} {w:World} (hr:Region.ready md ops listed=[i]) (ho:ops[i]?=some o) (hy:i≠y)
  (h:∀ K':Act→World→Prop,(∀ a w,S w→wpAnyHI F n P md ops Q S y fuel (listed.setIfInBounds i true) a w→K' a w) →
   if Region.wanted o (yielded ops a.tmps)=true then Oper.wpIn F n P o a w K' Q else (∀ f,o.about P w a.eval=some f→F.fn f)∧K' (a.put o.dst undef) w):wpAnyHI F n P md ops Q S y (fuel+1) listed a w :=
 ⟨fun h0=>(by rw [hr] at h0;cases h0),fun j hj=>by
  rw [hr] at hj
  obtain rfl:j=i:=by simpa using hj
  exact wpOpIn_step ho fun K' hK'=>h K' fun a w hS hh=>hK' a w ⟨fun e=>absurd e hy,fun _=>⟨hS,hh⟩⟩⟩
theorem wpAnyHI_last {y:Nat} {o:Oper} {fuel:Nat} {listed:Array Bool} {a:Act} {w:World} (hr:Region.ready md ops listed=[y]) (ho:ops[y]?=some o)
  (h:∀ K':Act→World→Prop,(∀ a w,wpAnyIn F n P md ops Q fuel (listed.setIfInBounds y true) a w→K' a w) →
   if Region.wanted o (yielded ops a.tmps)=true then Oper.wpIn F n P o a w K' Q else (∀ f,o.about P w a.eval=some f→F.fn f)∧K' (a.put o.dst undef) w):wpAnyHI F n P md ops Q S y (fuel+1) listed a w :=
 ⟨fun h0=>(by rw [hr] at h0;cases h0),fun j hj=>by
  rw [hr] at hj
  obtain rfl:j=y:=by simpa using hj
  exact wpOpIn_step ho fun K' hK'=>h K' fun a w hh=>hK' a w ⟨fun _=>hh,fun e=>absurd rfl e⟩⟩
theorem wpIn_region_heldI (y:Nat) {id:Nat} {a:Act} {w:World} (hm:P.follows .mixedOrders=true) (hS:S w.drew)
  (h:S w.drew→wpAnyHI F n P .any ops Q S y ops.size (Array.replicate ops.size false) a w.drew):(Code.region id ops true).wpIn F n P Q a w :=
 wpIn_region_any hm (wpAnyIn_of_heldI _ _ _ _ (h hS))
end
end
section
open Go Go.RowKit
def OwnX {β:Type} (B:Nat) (X:Nat→Prop) (I:β→World→Prop):Prop :=
 ∀ s W W' row,I s W→W.grownBy W' row→(∀ r,row=some r→(B≤r∧∃ o:Obj,W.heap[r]?=some o∧o.isCells=false)∨X r)→I s W'
theorem OwnX.putObj {β:Type} {B:Nat} {X:Nat→Prop} {I:β→World→Prop} (h:OwnX B X I) {s:β} {W:World} {l:Nat} {o:Obj} (o':Obj) (hs:I s W) (hB:B≤l) (hl:W.heap[l]?=some o) (ho:o.isCells=false):I s (W.putObj l o') :=
 h s W _ (some l) hs (grownBy_putObj' W l o') (fun r e=>by cases e;exact .inl ⟨hB,o,hl,ho⟩)
theorem OwnX.turn {β:Type} {B:Nat} {X:Nat→Prop} {I:β→World→Prop} (h:OwnX B X I) {s:β} {W:World} {l:Nat} (o':Obj) (hs:I s W) (hx:X l):I s (W.putObj l o') :=
 h s W _ (some l) hs (grownBy_putObj' W l o') (fun r e=>by cases e;exact .inr hx)
theorem OwnX.alloc {β:Type} {B:Nat} {X:Nat→Prop} {I:β→World→Prop} (h:OwnX B X I) {s:β} {W:World} (o:Obj) (hs:I s W):I s (W.alloc o) :=
 h s W _ none hs (World.grownBy_alloc W o none) (fun r e=>by cases e)
def SeqD {α:Type} (F:Fence) (n:Nat) (P:Program) (g:Nat) (lb:Array Value) (encs:α→Array Value) (X:Nat→Prop) (A:World→List α→α→World→Prop) (Kp:World→World→Prop) (S Sp Q:List α→Prop) (w:World):Prop :=
 ∀ (l:Nat) (J Jx:List α→World→Prop) (W:World),Below w.heap.size w W→OwnX W.heap.size X J→OwnX W.heap.size X Jx →
  (∀ pre V,J pre V→Q pre) →
  (∀ pre x V0 V,J pre V0→Ext V0 V→A V0 pre x V→YieldAt F (n - 1) P l (encs x) V fun e V' =>
   (e=.returned (.bool true)∧J (pre ++ [x]) V'∧Kp V V')∨(e=.returned (.bool false)∧Jx (pre ++ [x]) V')) →
  J [] W→CallsIn F n P g (#[.func (.yield l) #[] #[]] ++ lb) W fun e V=>(∃ v,e=.returned v)∧((∃ xs,S xs∧J xs V)∨(∃ pre,Sp pre∧Jx pre V))
section
variable {F:Fence} {n:Nat} {P:Program} {w:World}
theorem wpIn_rangeFunc_toldD {α:Type} {g:Operand} {ps:Array Tmp} {assign body:Code} {Q:Exit→Act→World→Prop} {a:Act}
  (hro:F.round=none) (h1:1≤n) {gf:Nat} {lb:Array Value} (hg:a.eval g=.func (.func gf) #[] lb) (hF:F.fn gf) (eg:∀ args w,(callFunc gf args).run P w=.ok (.enter gf args) w)
  {encs:α→Array Value} {X:Nat→Prop} {A:World→List α→α→World→Prop} {Kp:World→World→Prop} {S Sp Q':List α→Prop} {w0:World} (hseq:SeqD F (n - 1) P gf lb encs X A Kp S Sp Q' w0)
  (hX:∀ k,X k→k<w.heap.size) (hKt:∀ {X Y Z:World},Kp X Y→Kp Y Z→Kp X Z) (hKb:∀ (W:World) (l:Nat) (o o':Obj),w.heap.size≤l→W.heap[l]?=some o→o.isCells=false→o.isWalk=false→Kp W (W.putObj l o')) (hb0:Below w0.heap.size w0 w) (hps:∀ x,(encs x).size=ps.size)
  (I:List α→World→Prop) (Ix:Code→List α→World→Prop) (hI:OwnX w.heap.size X I) (hIx:∀ c,OwnX w.heap.size X (Ix c)) (hQ:∀ pre W,I pre W→Q' pre) (h0:I [] w)
  (Ax:List α→α→Act→World→Prop) (hAx:∀ pre x a',OwnX w.heap.size X (fun (_:Unit) W=>Ax pre x a' W))
  (hassign:∀ (l:Nat) (pre:List α) (x:α) (V0 W:World) (K:Act→World→Prop),I pre V0→Ext V0 W→A V0 pre x W→(∀ a' W',KeepsFrom w.heap.size W W'→Kp W W'→I pre W'→Ax pre x a' W'→K a' W') →
   assign.wpIn (F.inRound l) (n - 1 - 1) P (Exit.then K (fun _ _ _=>False)) { tmps:=(ps.zip (encs x)).foldl (fun t (p,v)=>t.setIfInBounds p v) a.tmps,defers:=[] } W)
  (hbody:∀ (l:Nat) (pre:List α) (x:α) (a':Act) (W:World),I pre W→Ax pre x a' W→body.wpIn (F.inRound l) (n - 1 - 1) P (ownPostG w.heap.size Kp I Ix (pre ++ [x]) W) a' W)
  (hdone:∀ (D:Nat) (xs:List α) (W:World),w.heap.size≤D→S xs→I xs W→W.heap[D]?=some (.deferred (some []))→Q .normal { a with defers:={ target:=.collected D,args:=#[] } :: a.defers } W)
  (hstop:∀ (D:Nat) (c:Code) (pre:List α) (W:World),w.heap.size≤D→Sp pre→Ix c pre W→W.heap[D]?=some (.deferred (some []))→c.wpIn F n P Q { a with defers:={ target:=.collected D,args:=#[] } :: a.defers } W) :
  (Code.rangeFunc g ps assign body).wpIn F n P Q a w:=by
 refine wpIn_rangeFunc fun fn hfn=>?_
 rw [hro]
 have hB:w.heap.size≤w.heap.size+1:=Nat.le_succ _
 obtain⟨mk,hmk⟩:∃ mk:LoopState→Option Code→Loop,mk=fun st pe=>{ state:=st,pending:=pe,fn,tmps:=a.tmps,params:=ps,assign,body,defers:=w.heap.size }:=⟨_,rfl⟩
 obtain⟨V,hV⟩:∃ V,(w.alloc (.deferred (some []))).alloc (.loop (mk .ready none))=V:=⟨_,rfl⟩
 have hVl:V.heap[w.heap.size+1]?=some (.loop (mk .ready none)):=by
  have h:=World.alloc_heap_new (w.alloc (.deferred (some []))) (.loop (mk .ready none))
  rw [World.size_alloc] at h
  rw [← hV];exact h
 have hVd:V.heap[w.heap.size]?=some (.deferred (some [])):=by
  rw [← hV];exact(Below.heap_alloc _ _ _ (by simp)).trans (World.alloc_heap_new w _)
 have hVb:Below w0.heap.size w0 V:=by
  rw [← hV];exact hb0.trans ((((Below.refl _ w).alloc (Nat.le_refl _) _).alloc (by simp) _).mono hb0.size)
 have hVs:w.heap.size≤V.heap.size:=by have:=(Array.getElem?_eq_some_iff.1 hVd).1;omega
 have hV0:I [] V:=by rw [← hV];exact(hI.alloc _ (hI.alloc _ h0))
 have lV:w.heap.size+1<V.heap.size:=(Array.getElem?_eq_some_iff.1 hVl).1
 have keep:∀ {Y Z:World} {row:Option Nat} {k:Nat} {o:Obj},Y.grownBy Z row→(∀ r,row=some r→(V.heap.size≤r∧∃ o:Obj,Y.heap[r]?=some o∧o.isCells=false)∨X r)→w.heap.size≤k→k<V.heap.size→Y.heap[k]?=some o→Z.heap[k]?=some o:=fun {Y Z row k o} hg hr hk0 hk hY=>(hg.block k (Array.getElem?_eq_some_iff.1 hY).1 (fun e=>by
  rcases hr k e.symm with h | h
  ·have:=h.1;omega
  ·have:=hX k h;omega)).trans hY
 have loose:∀ {Y:World} {row:Option Nat},(∀ r,row=some r→(V.heap.size≤r∧∃ o:Obj,Y.heap[r]?=some o∧o.isCells=false)∨X r)→∀ r,row=some r→(w.heap.size≤r∧∃ o:Obj,Y.heap[r]?=some o∧o.isCells=false)∨X r:=fun hr r e=>(hr r e).imp (fun h=>⟨Nat.le_trans hVs h.1,h.2⟩) id
 refine⟨w.heap.size+1,[{ target:=.collected w.heap.size,args:=#[] }],V,{ target:=.fn (.func gf) lb,args:=#[.func (.yield (w.heap.size+1)) #[] #[]] },V,gf,#[.func (.yield (w.heap.size+1)) #[] #[]] ++ lb,V,?_,?_,?_,?_,fun _=>h1,?_⟩
 ·rw [← hV,hmk];exact run_enterLoop_outer _ _ _ _ _
 ·simp only [resolve,hg];simp [go_sem]
 ·intro f' hf';simp [Target.leads] at hf';subst hf';exact hF
 ·simp [invoke,go_sem,eg]
 refine(hseq (w.heap.size+1)
  (fun pre W=>I pre W∧W.heap[w.heap.size+1]?=some (.loop (mk .ready none))∧W.heap[w.heap.size]?=some (.deferred (some [])))
  (fun pre W=>∃ c,Ix c pre W∧W.heap[w.heap.size+1]?=some (.loop (mk .done (some c)))∧W.heap[w.heap.size]?=some (.deferred (some []))) V hVb
  (fun s Y Z row h hg hr=>⟨hI s Y Z row h.1 hg (loose hr),keep hg hr (by omega) lV h.2.1,keep hg hr (Nat.le_refl _) (by omega) h.2.2⟩)
  (fun s Y Z row h hg hr=>h.elim fun c h=>⟨c,hIx c s Y Z row h.1 hg (loose hr),keep hg hr (by omega) lV h.2.1,keep hg hr (Nat.le_refl _) (by omega) h.2.2⟩)
  (fun pre W h=>hQ pre W h.1) ?_ ⟨hV0,hVl,hVd⟩).mono ?_
 ·rintro pre x V0 W ⟨hi0,hl0,hk0⟩ hE0 hax
  have hl:W.heap[w.heap.size+1]?=some (.loop (mk .ready none)):=(hE0.block _ (Array.getElem?_eq_some_iff.1 hl0).1).trans hl0
  have hk:W.heap[w.heap.size]?=some (.deferred (some [])):=(hE0.block _ (Array.getElem?_eq_some_iff.1 hk0).1).trans hk0
  have hlt:w.heap.size+1<W.heap.size:=(Array.getElem?_eq_some_iff.1 hl).1
  have hy:=run_yield (P:=P) (args:=encs x) hl (by rw [hmk];exact hps x)
  rw [hmk] at hy
  refine⟨fn,_,assign,body,hy,roundIn_of_wpIn hfn (hassign _ pre x V0 W _ hi0 hE0 hax fun a' W1 hK1 hp1 hi1 hax1=>?_)⟩
  have hl1:W1.heap[w.heap.size+1]?=some (.loop (mk .ready none)):=hK1.same _ _ hB hl rfl
  have hk1:W1.heap[w.heap.size]?=some (.deferred (some [])):=hK1.same _ _ (Nat.le_refl _) hk rfl
  have hlt1:w.heap.size+1<W1.heap.size:=(Array.getElem?_eq_some_iff.1 hl1).1
  refine⟨_,run_beginRound hl1 (by rw [hmk]),?_⟩
  have l2:(W1.putObj (w.heap.size+1) (.loop { mk .ready none with state:=.busy })).heap[w.heap.size+1]?=some (.loop { mk .ready none with state:=.busy }):=World.putObj_heap_same hlt1
  have k2:(W1.putObj (w.heap.size+1) (.loop { mk .ready none with state:=.busy })).heap[w.heap.size]?=some (.deferred (some [])):=(World.putObj_heap_other (by omega)).trans hk1
  have p2:Kp W (W1.putObj (w.heap.size+1) (.loop { mk .ready none with state:=.busy })):=hKt hp1 (hKb _ _ _ _ hB hl1 rfl rfl)
  refine wpIn_mono (hbody _ pre x a' _ (hI.putObj _ hi1 hB hl1 rfl) ((hAx pre x a').putObj (s:=()) _ hax1 hB hl1 rfl)) ?_
  have fin:∀ (jump:Option Code) (Y:World),KeepsFrom w.heap.size (W1.putObj (w.heap.size+1) (.loop { mk .ready none with state:=.busy })) Y →
    (Instr.endRound (w.heap.size+1) jump).run P Y=.ok (.bool jump.isNone) (Y.putObj (w.heap.size+1) (.loop (mk (if jump.isNone then .ready else .done) jump))) ∧
    Y.heap[w.heap.size+1]?=some (.loop { mk .ready none with state:=.busy }) ∧
    (Y.putObj (w.heap.size+1) (.loop (mk (if jump.isNone then .ready else .done) jump))).heap[w.heap.size+1]?=some (.loop (mk (if jump.isNone then .ready else .done) jump)) ∧
    (Y.putObj (w.heap.size+1) (.loop (mk (if jump.isNone then .ready else .done) jump))).heap[w.heap.size]?=some (.deferred (some [])):=fun jump Y hY=>by
   have l3:=hY.same _ _ hB l2 rfl
   have hr:=run_endRound (P:=P) jump l3
   rw [hmk] at hr l3 ⊢
   exact⟨hr,l3,World.putObj_heap_same (Array.getElem?_eq_some_iff.1 l3).1,(World.putObj_heap_other (by omega)).trans (hY.same _ _ (Nat.le_refl _) k2 rfl)⟩
  rintro e a3 Y hp
  cases e with
  | normal =>
   obtain⟨hY,hkp,hi3⟩:=hp
   obtain⟨r1,r2,r3,r4⟩:=fin none Y hY
   exact⟨_,_,r1,.inl ⟨rfl,⟨hI.putObj _ hi3 hB r2 rfl,r3,r4⟩,hKt (hKt p2 hkp) (hKb _ _ _ _ hB r2 rfl rfl)⟩⟩
  | ret =>
   obtain⟨r1,r2,r3,r4⟩:=fin (some .ret) Y hp.1
   exact⟨_,_,r1,.inr ⟨rfl,.ret,(hIx _).putObj _ hp.2 hB r2 rfl,r3,r4⟩⟩
  | exit id =>
   obtain⟨r1,r2,r3,r4⟩:=fin (some (.exit id)) Y hp.1
   exact⟨_,_,r1,.inr ⟨rfl,.exit id,(hIx _).putObj _ hp.2 hB r2 rfl,r3,r4⟩⟩
  | goto t =>
   obtain⟨r1,r2,r3,r4⟩:=fin (some (.goto t)) Y hp.1
   exact⟨_,_,r1,.inr ⟨rfl,.goto t,(hIx _).putObj _ hp.2 hB r2 rfl,r3,r4⟩⟩
  | panic ch=>exact hp.elim
  | outgrown=>exact hp.elim
 ·rintro e Y ⟨⟨v,rfl⟩,(⟨xs,hS,hi,hl,hk⟩ | ⟨pre,hSp,c,hi,hl,hk⟩)⟩
  ·have hr:=run_endLoop (P:=P) hl (by rw [hmk];simp)
   rw [hmk] at hr
   exact⟨none,_,hr,hdone _ xs _ (Nat.le_refl _) hS (hI.putObj _ hi hB hl (by rw [hmk];rfl)) ((World.putObj_heap_other (by omega)).trans hk)⟩
  ·have hr:=run_endLoop (P:=P) hl (by rw [hmk];simp)
   rw [hmk] at hr
   exact⟨some c,_,hr,hstop _ c pre _ (Nat.le_refl _) hSp ((hIx c).putObj _ hi hB hl (by rw [hmk];rfl)) ((World.putObj_heap_other (by omega)).trans hk)⟩
end
end
section
open Go Go.RowKit
structure KpN (Bd:Nat→Prop) (C:Nat) (V V':World):Prop where
 os:V'.os=V.os
 tape:V'.tape=V.tape
 output:V'.output=V.output
 size:V.heap.size≤V'.heap.size
 block:∀ k o,¬ Bd k→V.heap[k]?=some o→(k<C∨o.isCells=true)→V'.heap[k]?=some o
theorem KpN.trans {Bd:Nat→Prop} {C:Nat} {X Y Z:World} (h:KpN Bd C X Y) (g:KpN Bd C Y Z):KpN Bd C X Z :=
 ⟨g.os.trans h.os,g.tape.trans h.tape,g.output.trans h.output,Nat.le_trans h.size g.size,fun k o hk ho hc=>g.block k o hk (h.block k o hk ho hc) hc⟩
theorem KpN.of_ext {Bd:Nat→Prop} {C:Nat} {X Y:World} (h:Ext X Y):KpN Bd C X Y :=
 ⟨h.os,h.tape,h.output,h.size,fun k _ _ ho _=>(h.block k (Array.getElem?_eq_some_iff.1 ho).1).trans ho⟩
theorem KpN.putObj {Bd:Nat→Prop} {C:Nat} (W:World) (l:Nat) (o o':Obj) (hl:C≤l) (h:W.heap[l]?=some o) (hc:o.isCells=false):KpN Bd C W (W.putObj l o'):=by
 have g:=grownBy_putObj' W l o'
 refine⟨g.os,g.tape,g.output,g.size,fun k o2 _ h2 h3=>?_⟩
 by_cases e:k=l
 ·subst e
  rw [h] at h2
  cases h2
  rcases h3 with h3 | h3
  ·omega
  ·rw [hc] at h3;cases h3
 ·rw [World.putObj_heap_other (by omega)];exact h2
theorem KpN.own {Bd:Nat→Prop} {C:Nat} (W:World) (l:Nat) (o':Obj) (hl:Bd l):KpN Bd C W (W.putObj l o'):=by
 have g:=grownBy_putObj' W l o'
 refine⟨g.os,g.tape,g.output,g.size,fun k o2 hk h2 h3=>?_⟩
 have e:k≠l:=fun e=>hk (e ▸ hl)
 rw [World.putObj_heap_other (by omega)];exact h2
theorem KpN.cell {Bd:Nat→Prop} {C:Nat} (W:World) (a:Addr) (u:Value) (hl:Bd a.block):KpN Bd C W (W.setCell a u):=by
 have g:=grown_set W a u
 refine⟨g.os,g.tape,g.output,g.size,fun k o2 hk h2 h3=>?_⟩
 exact(g.block k (Array.getElem?_eq_some_iff.1 h2).1 (fun e=>hk (by injection e with e;rw [← e] at hl;exact hl))).trans h2
theorem Sep.kpN {w0 V V':World} {Γ:List Pc} {Bd:Nat→Prop} {C:Nat} (S:Sep w0 V Γ) (hΓ:∀ p∈Γ,p.cells) (hf:∀ p∈Γ,∀ k,p.foot k→¬ Bd k) (hB:∀ k,Bd k→w0.heap.size≤k) (hC:w0.heap.size≤C) (h:KpN Bd C V V'):Sep w0 V' Γ:=by
 refine⟨⟨h.os.trans S.ext.os,h.tape.trans S.ext.tape,h.output.trans S.ext.output,Nat.le_trans S.ext.size h.size,fun k hk=>?_⟩,fun p hp=>p.loc V V' (S.all p hp) fun k hk=>?_,S.new,S.apart⟩
 ·have hkV:k<V.heap.size:=Nat.lt_of_lt_of_le hk S.ext.size
  have e:=Array.getElem?_eq_getElem hkV
  rw [h.block k _ (fun hb=>by have:=hB k hb;omega) e (Or.inl (Nat.lt_of_lt_of_le hk hC)),← e]
  exact S.ext.block k hk
 ·obtain⟨o,h1,h2⟩:=hΓ p hp V (S.all p hp) k hk
  rw [h1]
  exact h.block k o (hf p hp k hk) h1 (Or.inr h2)
theorem Sep.turnX {w0 w w':World} {Γ:List Pc} {row:Option Nat} {B:Nat} {X:Nat→Prop} (S:Sep w0 w Γ) (hΓ:∀ p∈Γ,p.cells) (hX:∀ p∈Γ,∀ k,p.foot k→¬ X k) (hX0:∀ k,X k→w0.heap.size≤k) (hB:w0.heap.size≤B) (hg:w.grownBy w' row) (hr:∀ r,row=some r→(B≤r∧∃ o:Obj,w.heap[r]?=some o∧o.isCells=false)∨X r):Sep w0 w' Γ:=by
 refine⟨⟨hg.os.trans S.ext.os,hg.tape.trans S.ext.tape,hg.output.trans S.ext.output,Nat.le_trans S.ext.size hg.size,fun k hk=>(hg.block k (Nat.lt_of_lt_of_le hk S.ext.size) (fun e=>?_)).trans (S.ext.block k hk)⟩,
  fun p hp=>p.loc w w' (S.all p hp) fun k hk=>hg.block k (S.lt hp hk) (fun e=>?_),S.new,S.apart⟩
 ·rcases hr k e.symm with h | h
  ·have:=h.1;omega
  ·have:=hX0 k h;omega
 ·rcases hr k e.symm with ⟨_,o,h1,h2⟩ | h
  ·obtain⟨o',h3,h4⟩:=hΓ p hp w (S.all p hp) k hk
   rw [h1] at h3
   injection h3 with h3
   subst h3
   rw [h2] at h4;cases h4
  ·exact hX p hp k hk h
end
section
open Go Go.RowKit
attribute [local go_sem] Oper.semAt_some
structure YdT where
 yes:Bool
 d:Int
 F:List (Int × Int)
 q:Option Addr
 c:Nat
 dn:Bool
def ydE (y:YdT):Array Value:=#[.agg #[.bool y.yes,.int .i64 y.d,.slice y.q y.F.length y.c],.bool y.dn]
def ydA (k t:Int) (L:List Po) (ws:List ByteArray) (most:Int) (rn:Nat→List Sq × List Sq) (V0:World) (pre:List YdT) (y:YdT) (V:World):Prop :=
 Sep V0 V [.own 105 2 y.q y.F.length y.c (encE y.F)]∧AnsD k t L ws most (rn (pre.length+1)) y.yes y.d y.F∧y.dn=doneB k t (rn (pre.length+1))
theorem StepsG (b:Nat) (w:World):Calls Tryz.prog 52 #[.pointer (some ⟨b,0,none⟩)] w fun e w'=>e=.returned (.func (.func 93) #[] #[.pointer (some ⟨w.heap.size,0,none⟩)])∧w'=w.alloc (.cells #[.pointer (some ⟨b,0,none⟩)] 82):=by
 go_enter Tryz.func52,Tryz.ntmps52
 go_wp2
 go_ret
 exact⟨rfl,rfl⟩
theorem gst_cells {b bx:Nat} {cs cs2:Array Value} {t1 t2 e1 e2:TypeId} {q1 q2:Option Addr} {n1 c1 n2 c2:Nat} {x1 x2:List Value}:∀ p∈[Pc.blk b t1 cs,Pc.blk bx t2 cs2,Pc.own e1 4 q1 n1 c1 x1,Pc.own e2 4 q2 n2 c2 x2],p.cells:=by
 intro p hp
 simp only [List.mem_cons,List.not_mem_nil,or_false] at hp
 rcases hp with rfl | rfl | rfl | rfl
 ·exact Pc.blk_cells _ _ _
 ·exact Pc.blk_cells _ _ _
 ·exact Pc.own_cells _ _ _ _ _ _
 ·exact Pc.own_cells _ _ _ _ _ _
theorem stepsIt (n1:Nat) (hn1:1≤n1) (k f t:Int) (pw:Option Addr) (nw cw:Nat) (ws:List ByteArray) (rad most:Int) (po:Option Addr) (no co:Nat) (O:List Int) (pt:Option Addr) (nt ct:Nat) (T:List Int) (pr:Option Addr) (nr cr:Nat) (R:List Int) (pv:Option Addr) (nv cv:Nat) (V:List Int) (pl:Option Addr) (nl cl:Nat) (hs:List Hd) (L:List Po) (wk:Nat) (pp:Option Addr) (np cp:Nat) (pk:List Int) (w0 w:World) (b bx:Nat) (pm:Option Addr) (nm cm:Nat) (n:Nat) (rn:Nat→List Sq × List Sq) (Bd:Nat→Prop) (hO:Rd w0 1 po no (encI O)) (hT:Rd w0 1 pt nt (encI T)) (hR:Rd w0 1 pr nr (encI R)) (hV:Rd w0 1 pv nv (encI V)) (hct:nt≤ct) (hcv:nv≤cv)
  (hL:RdP w0 pl nl hs L) (hW:Rd w0 1 pw nw (encS ws)) (hpk:Rd w0 1 pp np (encI pk)) (hck:checkR O T R V=true) (hn:O.length=n+1) (h200:n≤200) (h1:1≤wk) (h16:wk≤16)
  (hk:k=1∨k=2∨k=3) (ht:I64 t) (hcw:nw≤cw) (hnw:nw≤100) (hok:PoOk L)
  (hr0:(rn 0).1=[]) (hrn:∀ i,RunI n i (rn i)) (hrs:∀ i,rn (i+1)=stepM (nextL k rad true O T R V) (rn i).1 (rn i).2)
  (S0:Sep w0 w [Pc.blk b 87 #[.int .i64 k,.int .i64 f,.int .i64 t,.slice pw nw cw,.int .i64 rad,.int .i64 most,.slice po no co,.slice pt nt ct,.slice pr nr cr,.slice pv nv cv,.slice pl nl cl,.int .i64 wk,.slice pp np cp,.slice none 0 0,.slice pm nm cm],Pc.blk bx 82 #[.pointer (some ⟨b,0,none⟩)],Pc.own 146 4 none 0 0 (encQ (rn 0).1),Pc.own 138 4 pm nm cm (encQ (rn 0).2)]) (hBd:∀ k,Bd k→w0.heap.size≤k∧k<w.heap.size) (hBf:∀ p∈[Pc.blk b 87 #[.int .i64 k,.int .i64 f,.int .i64 t,.slice pw nw cw,.int .i64 rad,.int .i64 most,.slice po no co,.slice pt nt ct,.slice pr nr cr,.slice pv nv cv,.slice pl nl cl,.int .i64 wk,.slice pp np cp,.slice none 0 0,.slice pm nm cm],Pc.blk bx 82 #[.pointer (some ⟨b,0,none⟩)],Pc.own 146 4 none 0 0 (encQ (rn 0).1),Pc.own 138 4 pm nm cm (encQ (rn 0).2)],∀ k,p.foot k→¬ Bd k) :
  SeqD Fence.wide n1 Tryz.prog 93 #[.pointer (some ⟨bx,0,none⟩)] ydE (fun k=>k=b) (ydA k t L ws most rn) (KpN Bd w.heap.size) (fun _=>False) (fun _=>True) (fun pre=>pre.length<200) w:=by
 intro l J Jx W hW' hJ hJx hQ hY h0
 have HST:=Lib.hid (fun i (hi:i≤200) (W:World) (E:Ext w0 W) (ps:Option Addr) (ns cs:Nat) (pm:Option Addr) (nm cm:Nat) (hs:Rd W 4 ps ns (encQ (rn i).1)) (hm:Rd W 4 pm nm (encQ (rn i).2)) =>
  StepRun k f t pw nw cw rad most po no co O pt nt ct T pr nr cr R pv nv cv V W n i (rn i) ps ns cs pm nm cm wk pp np cp pk (hO.ext E) (hT.ext E) (hR.ext E) (hV.ext E) hct hcv hck hn h200 hi (hrn i) h1 h16 hs hm (hpk.ext E))
 have HLN:=Lib.hid (fun i=>And.intro (show (rn i).1.length≤400 by have:=run_most (hrn i).kst (fun x hx=>((hrn i).st x hx).1);omega) (show (rn i).2.length≤400 by have:=run_most (hrn i).kms (fun x hx=>((hrn i).ms x hx).1);omega))
 have hdn:∀ i (hi:i≤200) (ps:Option Addr) (ns cs:Nat) (pm:Option Addr) (nm cm:Nat),ns=(rn i).1.length→∃ b d F,AnsD k t L ws most (rn i) b d F∧∀ W,Ext w0 W→Rd W 4 ps ns (encQ (rn i).1)→Rd W 4 pm nm (encQ (rn i).2) →
   Calls Tryz.prog 95 #[.agg #[.int .i64 k,.int .i64 f,.int .i64 t,.slice pw nw cw,.int .i64 rad,.int .i64 most],.slice pl nl cl,.slice ps ns cs,.slice pm nm cm] W (DoneQ b d F (doneB k t (rn i)) W):=fun i hi ps ns cs pm nm cm hns=>by
  have hx:∀ x∈(rn i).1,x.I∧-1000000≤x.d∧x.d≤1000000:=fun x hx=>by
   obtain⟨⟨x1,x2,x3,x4⟩,x5,x6⟩:=(hrn i).st x hx
   refine⟨?_,by omega,by omega⟩
   unfold Sq.I I64
   have q1:IntKind.i64.min = -9223372036854775808:=rfl
   have q2:IntKind.i64.max=9223372036854775807:=rfl
   refine⟨?_,?_,?_,?_⟩ <;> (show (_ && _)=true;simp;omega)
  obtain⟨b,d,F,hA,hD⟩:=Done_runP k f t pw nw cw ws rad most pl nl cl hs L ps ns cs (rn i).1 pm nm cm (rn i).2 hk ht hcw hnw hok (fun x h=>(hx x h).1) (fun x h=>(hx x h).2) (by have:=(HLN.out i).1;omega)
  exact⟨b,d,F,hA,fun W E g1 g2=>hD W (hL.ext E) (hW.ext E) g1 g2⟩
 have HDN:=Lib.hid hdn
 have HRS:=Lib.hid hrs
 have hb0:w0.heap.size≤b:=S0.bge 0 rfl
 have hbw:b<w.heap.size:=(S0.blk 0 rfl).lt
 have hw0:w0.heap.size≤w.heap.size:=S0.ext.size
 have hws:=hW'.size
 have HBD:=Lib.hid hBd
 have SW:=Lib.hid (S0.call hW')
 have HBF:=Lib.hid hBf
 have HQ:=Lib.hid hQ
 have HR0:=Lib.hid hr0
 have HJ:=Lib.hid hJ;clear hJ
 have HY:=Lib.hid hY;clear hY
 clear hJx hO hT hR hV hct hcv hck hn h200 h1 h16 hpk hL hW hk ht hcw hnw hok hr0 hrn hrs S0 hBd hBf hdn hQ hW'
 refine callsIn_of_wp Tryz.func93 rfl trivial ?_ rfl
 simp only [Tryz.ntmps93,List.size_toArray,List.length_cons,List.length_nil,Nat.reduceAdd,Nat.reduceSub,Array.replicate_succ,Array.replicate_zero,List.push_toArray,List.append_toArray,List.nil_append,List.cons_append]
 gi_wp2
 gi_loopg [] 200 (fun g wr=>∃ (pre:List YdT) (ps:Option Addr) (ns cs:Nat) (pm:Option Addr) (nm cm:Nat),pre.length+g=200∧Hid (Sep w0 wr [Pc.blk b 87 #[.int .i64 k,.int .i64 f,.int .i64 t,.slice pw nw cw,.int .i64 rad,.int .i64 most,.slice po no co,.slice pt nt ct,.slice pr nr cr,.slice pv nv cv,.slice pl nl cl,.int .i64 wk,.slice pp np cp,.slice ps ns cs,.slice pm nm cm],Pc.blk bx 82 #[.pointer (some ⟨b,0,none⟩)],Pc.own 146 4 ps ns cs (encQ (rn pre.length).1),Pc.own 138 4 pm nm cm (encQ (rn pre.length).2)])∧Hid (∀ p∈[Pc.blk b 87 #[.int .i64 k,.int .i64 f,.int .i64 t,.slice pw nw cw,.int .i64 rad,.int .i64 most,.slice po no co,.slice pt nt ct,.slice pr nr cr,.slice pv nv cv,.slice pl nl cl,.int .i64 wk,.slice pp np cp,.slice ps ns cs,.slice pm nm cm],Pc.blk bx 82 #[.pointer (some ⟨b,0,none⟩)],Pc.own 146 4 ps ns cs (encQ (rn pre.length).1),Pc.own 138 4 pm nm cm (encQ (rn pre.length).2)],∀ k,p.foot k→¬ Bd k)∧Hid (J pre wr)∧W.heap.size≤wr.heap.size)
 case atStart =>
  refine⟨[],none,0,0,pm,nm,cm,rfl,SW.out,HBF.out,h0,Nat.le_refl _⟩
 case round =>
  clear h0 SW HBF HR0
  obtain⟨pre,ps,ns,cs,pm,nm,cm,hg,SS,HF,HJ1,hsz⟩:=hrel
  have hpl:=HQ.out pre wr HJ1.out
  clear HQ
  have HS1:=Lib.hid (SS.out.drew)
  have HE0:=Lib.hid (HST.out pre.length (by omega) wr.drew SS.out.drew.ext ps ns cs pm nm cm (SS.out.drew.rdx 2 rfl) (SS.out.drew.rdx 3 rfl))
  obtain⟨m,hm⟩:∃ m,pre.length=m:=⟨_,rfl⟩
  rw [hm] at HE0 HS1 SS HF hpl hg
  rw [← HRS.out m] at HE0
  obtain⟨Y,hY⟩:∃ Y,rn (m+1)=Y:=⟨_,rfl⟩
  rw [hY] at HE0
  have HRY:=Lib.hid hY
  clear hY
  have HM:=Lib.hid hm
  clear hm
  gi_wp2
  refine wpIn_wide.2 ?_
  refine wp_region_held_drew (S:=fun W=>Blk W b 87 #[.int .i64 k,.int .i64 f,.int .i64 t,.slice pw nw cw,.int .i64 rad,.int .i64 most,.slice po no co,.slice pt nt ct,.slice pr nr cr,.slice pv nv cv,.slice pl nl cl,.int .i64 wk,.slice pp np cp,.slice ps ns cs,.slice pm nm cm]∧Blk W bx 82 #[.pointer (some ⟨b,0,none⟩)]) (by kernel_rfl) ⟨HS1.out.blk 0 rfl,HS1.out.blk 1 rfl⟩ (fun hHeld=>?_)
  have hw2:W.heap.size≤wr.drew.heap.size:=hsz
  have HJ2:=Lib.hid (HJ.out pre wr wr.drew none HJ1.out (Ext.grown (Below.refl _ _).drew) (fun r e=>nomatch e))
  clear SS HJ1 hsz
  generalize wr.drew=D at HS1 HE0 hHeld hw2 HJ2 ⊢
  clear wr
  refine wpAnyH_take (i:=0) (v:=.pointer (some ⟨b,0,none⟩)) rfl (by kernel_rfl) (by kernel_rfl) (by kernel_rfl) (fun _ _ _ h=>h) (Or.inl ⟨by kernel_rfl,fun W hSw=>by have h0:=hSw.2.cell 0;have hz:=hSw.2.lt;clear hSw;go_simp⟩) hHeld ?_
  refine wpAnyH_take (i:=1) (v:=.pointer (some ⟨b,0,none⟩)) rfl (by kernel_rfl) (by kernel_rfl) (by kernel_rfl) (fun _ _ _ h=>h) (Or.inl ⟨by kernel_rfl,fun W hSw=>by have hz:=hSw.1.lt;have hy:=(show W.heap[b]?=_ from hSw.1);clear hSw;go_simp⟩) hHeld ?_
  refine wpAnyH_take (i:=2) (v:=.pointer (some ⟨b,0,none⟩)) rfl (by kernel_rfl) (by kernel_rfl) (by kernel_rfl) (fun _ _ _ h=>h) (Or.inl ⟨by kernel_rfl,fun W hSw=>by skip;clear hSw;go_simp⟩) hHeld ?_
  refine wpAnyH_take (i:=3) (v:=.agg #[.int .i64 k,.int .i64 f,.int .i64 t,.slice pw nw cw,.int .i64 rad,.int .i64 most]) rfl (by kernel_rfl) (by kernel_rfl) (by kernel_rfl) (fun _ _ _ h=>h) (Or.inl ⟨by kernel_rfl,fun W hSw=>by have h0:=hSw.1.cell 0;have h1:=hSw.1.cell 1;have h2:=hSw.1.cell 2;have h3:=hSw.1.cell 3;have h4:=hSw.1.cell 4;have h5:=hSw.1.cell 5;clear hSw;go_simp⟩) hHeld ?_
  refine wpAnyH_take (i:=4) (v:=.pointer (some ⟨b,0,none⟩)) rfl (by kernel_rfl) (by kernel_rfl) (by kernel_rfl) (fun _ _ _ h=>h) (Or.inl ⟨by kernel_rfl,fun W hSw=>by have h0:=hSw.2.cell 0;have hz:=hSw.2.lt;clear hSw;go_simp⟩) hHeld ?_
  refine wpAnyH_take (i:=5) (v:=.pointer (some ⟨b,0,none⟩)) rfl (by kernel_rfl) (by kernel_rfl) (by kernel_rfl) (fun _ _ _ h=>h) (Or.inl ⟨by kernel_rfl,fun W hSw=>by have hz:=hSw.1.lt;have hy:=(show W.heap[b]?=_ from hSw.1);clear hSw;go_simp⟩) hHeld ?_
  refine wpAnyH_take (i:=6) (v:=.pointer (some ⟨b,6,none⟩)) rfl (by kernel_rfl) (by kernel_rfl) (by kernel_rfl) (fun _ _ _ h=>h) (Or.inl ⟨by kernel_rfl,fun W hSw=>by skip;clear hSw;go_simp⟩) hHeld ?_
  refine wpAnyH_take (i:=7) (v:=.agg #[.slice po no co,.slice pt nt ct,.slice pr nr cr,.slice pv nv cv]) rfl (by kernel_rfl) (by kernel_rfl) (by kernel_rfl) (fun _ _ _ h=>h) (Or.inl ⟨by kernel_rfl,fun W hSw=>by have h0:=hSw.1.cell 6;have h1:=hSw.1.cell 7;have h2:=hSw.1.cell 8;have h3:=hSw.1.cell 9;clear hSw;go_simp⟩) hHeld ?_
  refine wpAnyH_take (i:=8) (v:=.pointer (some ⟨b,0,none⟩)) rfl (by kernel_rfl) (by kernel_rfl) (by kernel_rfl) (fun _ _ _ h=>h) (Or.inl ⟨by kernel_rfl,fun W hSw=>by have h0:=hSw.2.cell 0;have hz:=hSw.2.lt;clear hSw;go_simp⟩) hHeld ?_
  refine wpAnyH_take (i:=9) (v:=.pointer (some ⟨b,0,none⟩)) rfl (by kernel_rfl) (by kernel_rfl) (by kernel_rfl) (fun _ _ _ h=>h) (Or.inl ⟨by kernel_rfl,fun W hSw=>by have hz:=hSw.1.lt;have hy:=(show W.heap[b]?=_ from hSw.1);clear hSw;go_simp⟩) hHeld ?_
  refine wpAnyH_take (i:=10) (v:=.pointer (some ⟨b,13,none⟩)) rfl (by kernel_rfl) (by kernel_rfl) (by kernel_rfl) (fun _ _ _ h=>h) (Or.inl ⟨by kernel_rfl,fun W hSw=>by skip;clear hSw;go_simp⟩) hHeld ?_
  refine wpAnyH_take (i:=11) (v:=.slice ps ns cs) rfl (by kernel_rfl) (by kernel_rfl) (by kernel_rfl) (fun _ _ _ h=>h) (Or.inl ⟨by kernel_rfl,fun W hSw=>by have h0:=hSw.1.cell 13;clear hSw;go_simp⟩) hHeld ?_
  refine wpAnyH_take (i:=12) (v:=.pointer (some ⟨b,0,none⟩)) rfl (by kernel_rfl) (by kernel_rfl) (by kernel_rfl) (fun _ _ _ h=>h) (Or.inl ⟨by kernel_rfl,fun W hSw=>by have h0:=hSw.2.cell 0;have hz:=hSw.2.lt;clear hSw;go_simp⟩) hHeld ?_
  refine wpAnyH_take (i:=13) (v:=.pointer (some ⟨b,0,none⟩)) rfl (by kernel_rfl) (by kernel_rfl) (by kernel_rfl) (fun _ _ _ h=>h) (Or.inl ⟨by kernel_rfl,fun W hSw=>by have hz:=hSw.1.lt;have hy:=(show W.heap[b]?=_ from hSw.1);clear hSw;go_simp⟩) hHeld ?_
  refine wpAnyH_take (i:=14) (v:=.pointer (some ⟨b,14,none⟩)) rfl (by kernel_rfl) (by kernel_rfl) (by kernel_rfl) (fun _ _ _ h=>h) (Or.inl ⟨by kernel_rfl,fun W hSw=>by skip;clear hSw;go_simp⟩) hHeld ?_
  refine wpAnyH_take (i:=15) (v:=.slice pm nm cm) rfl (by kernel_rfl) (by kernel_rfl) (by kernel_rfl) (fun _ _ _ h=>h) (Or.inl ⟨by kernel_rfl,fun W hSw=>by have h0:=hSw.1.cell 14;clear hSw;go_simp⟩) hHeld ?_
  refine wpAnyH_take (i:=16) (v:=.pointer (some ⟨b,0,none⟩)) rfl (by kernel_rfl) (by kernel_rfl) (by kernel_rfl) (fun _ _ _ h=>h) (Or.inl ⟨by kernel_rfl,fun W hSw=>by have h0:=hSw.2.cell 0;have hz:=hSw.2.lt;clear hSw;go_simp⟩) hHeld ?_
  refine wpAnyH_take (i:=17) (v:=.pointer (some ⟨b,0,none⟩)) rfl (by kernel_rfl) (by kernel_rfl) (by kernel_rfl) (fun _ _ _ h=>h) (Or.inl ⟨by kernel_rfl,fun W hSw=>by have hz:=hSw.1.lt;have hy:=(show W.heap[b]?=_ from hSw.1);clear hSw;go_simp⟩) hHeld ?_
  refine wpAnyH_take (i:=18) (v:=.pointer (some ⟨b,11,none⟩)) rfl (by kernel_rfl) (by kernel_rfl) (by kernel_rfl) (fun _ _ _ h=>h) (Or.inl ⟨by kernel_rfl,fun W hSw=>by skip;clear hSw;go_simp⟩) hHeld ?_
  refine wpAnyH_take (i:=19) (v:=.int .i64 wk) rfl (by kernel_rfl) (by kernel_rfl) (by kernel_rfl) (fun _ _ _ h=>h) (Or.inl ⟨by kernel_rfl,fun W hSw=>by have h0:=hSw.1.cell 11;clear hSw;go_simp⟩) hHeld ?_
  refine wpAnyH_take (i:=20) (v:=.pointer (some ⟨b,0,none⟩)) rfl (by kernel_rfl) (by kernel_rfl) (by kernel_rfl) (fun _ _ _ h=>h) (Or.inl ⟨by kernel_rfl,fun W hSw=>by have h0:=hSw.2.cell 0;have hz:=hSw.2.lt;clear hSw;go_simp⟩) hHeld ?_
  refine wpAnyH_take (i:=21) (v:=.pointer (some ⟨b,0,none⟩)) rfl (by kernel_rfl) (by kernel_rfl) (by kernel_rfl) (fun _ _ _ h=>h) (Or.inl ⟨by kernel_rfl,fun W hSw=>by have hz:=hSw.1.lt;have hy:=(show W.heap[b]?=_ from hSw.1);clear hSw;go_simp⟩) hHeld ?_
  refine wpAnyH_take (i:=22) (v:=.pointer (some ⟨b,12,none⟩)) rfl (by kernel_rfl) (by kernel_rfl) (by kernel_rfl) (fun _ _ _ h=>h) (Or.inl ⟨by kernel_rfl,fun W hSw=>by skip;clear hSw;go_simp⟩) hHeld ?_
  refine wpAnyH_take (i:=23) (v:=.slice pp np cp) rfl (by kernel_rfl) (by kernel_rfl) (by kernel_rfl) (fun _ _ _ h=>h) (Or.inl ⟨by kernel_rfl,fun W hSw=>by have h0:=hSw.1.cell 12;clear hSw;go_simp⟩) hHeld ?_
  refine wpAnyH_ready (rs:=[24]) (by kernel_rfl) (by simp) (AllReadyH.cons rfl (fun K hK=>?_) AllReadyH.nil)
  go_simp
  refine HE0.out.mono ?_
  rintro e w1 ⟨q,c,q2,c2,rfl,Z⟩
  have S2:=Lib.hid (HS1.out.comp Z)
  have hw3:=Nat.le_trans hw2 Z.ext.size
  have HJ3:=Lib.hid (HJ.out pre D w1 none HJ2.out (Ext.grown Z.ext) (fun r e=>nomatch e))
  have HZN:=Lib.hid (fun p (hp:p∈[Pc.own 146 4 q Y.1.length c (encQ Y.1),Pc.own 138 4 q2 Y.2.length c2 (encQ Y.2)]) k (hk:p.foot k)=>Z.new p hp k hk)
  clear Z HJ2 HE0
  refine hK.out _ _ ⟨S2.out.blk 2 rfl,S2.out.blk 3 rfl⟩ (fun hHeld=>?_)
  clear hK
  refine wpAnyH_take (i:=25) (v:=.tuple #[.slice q Y.1.length c,.slice q2 Y.2.length c2,.int .i64 0]) rfl (by kernel_rfl) (by kernel_rfl) (by kernel_rfl) (fun _ _ _ h=>h) (Or.inl ⟨by kernel_rfl,fun W hSw=>by skip;clear hSw;go_simp⟩) hHeld ?_
  refine wpAnyH_take (i:=26) (v:=.slice q Y.1.length c) rfl (by kernel_rfl) (by kernel_rfl) (by kernel_rfl) (fun _ _ _ h=>h) (Or.inl ⟨by kernel_rfl,fun W hSw=>by skip;clear hSw;go_simp⟩) hHeld ?_
  refine wpAnyH_take (i:=27) (v:=.slice q2 Y.2.length c2) rfl (by kernel_rfl) (by kernel_rfl) (by kernel_rfl) (fun _ _ _ h=>h) (Or.inl ⟨by kernel_rfl,fun W hSw=>by skip;clear hSw;go_simp⟩) hHeld ?_
  refine wpAnyH_take (i:=28) (v:=.int .i64 0) rfl (by kernel_rfl) (by kernel_rfl) (by kernel_rfl) (fun _ _ _ h=>h) (Or.inl ⟨by kernel_rfl,fun W hSw=>by skip;clear hSw;go_simp⟩) hHeld ?_
  refine wpAnyH_take (i:=29) (v:=.slice q Y.1.length c) rfl (by kernel_rfl) (by kernel_rfl) (by kernel_rfl) (fun _ _ _ h=>h) (Or.inl ⟨by kernel_rfl,fun W hSw=>by skip;clear hSw;go_simp⟩) hHeld ?_
  refine wpAnyH_take (i:=30) (v:=.slice q2 Y.2.length c2) rfl (by kernel_rfl) (by kernel_rfl) (by kernel_rfl) (fun _ _ _ h=>h) (Or.inl ⟨by kernel_rfl,fun W hSw=>by skip;clear hSw;go_simp⟩) hHeld ?_
  refine wpAnyH_take (i:=31) (v:=.int .i64 0) rfl (by kernel_rfl) (by kernel_rfl) (by kernel_rfl) (fun _ _ _ h=>h) (Or.inl ⟨by kernel_rfl,fun W hSw=>by skip;clear hSw;go_simp⟩) hHeld ?_
  refine wpAnyH_done (by kernel_rfl) ?_ _
  clear hHeld
  simp [Act.put]
  gi_wp2
  have HB3:=Lib.hid (S2.out.blk 2 rfl)
  have HB4:=Lib.hid (S2.out.blk 3 rfl)
  refine wpIn_wide.2 ?_
  refine wp_region_held_drew (S:=fun W=>(∃ cs,Blk W b 87 cs)∧Blk W bx 82 #[.pointer (some ⟨b,0,none⟩)]) (by kernel_rfl) ⟨⟨_,HB3.out.ext (Below.refl _ _).drew⟩,HB4.out.ext (Below.refl _ _).drew⟩ (fun hHeld=>?_)
  have SD:=Lib.hid S2.out.drew
  have hw4:W.heap.size≤w1.drew.heap.size:=hw3
  have HJ4:=Lib.hid (HJ.out pre w1 w1.drew none HJ3.out (Ext.grown (Below.refl _ _).drew) (fun r e=>nomatch e))
  clear S2 HJ3 HB3 HB4 hw3
  generalize w1.drew=D2 at SD hHeld hw4 HJ4 ⊢
  clear w1 HS1
  refine wpAnyH_take (i:=0) (v:=.pointer (some ⟨b,0,none⟩)) rfl (by kernel_rfl) (by kernel_rfl) (by kernel_rfl) (fun _ _ _ h=>h) (Or.inl ⟨by kernel_rfl,fun W hSw=>by have h0:=hSw.2.cell 0;have hz:=hSw.2.lt;clear hSw;go_simp⟩) hHeld ?_
  refine wpAnyH_take (i:=1) (v:=.pointer (some ⟨b,0,none⟩)) rfl (by kernel_rfl) (by kernel_rfl) (by kernel_rfl) (fun _ _ _ h=>h) (Or.inl ⟨by kernel_rfl,fun W hSw=>by have h0:=hSw.2.cell 0;have hz:=hSw.2.lt;clear hSw;go_simp⟩) hHeld ?_
  refine wpAnyH_take (i:=2) (v:=.slice q Y.1.length c) rfl (by kernel_rfl) (by kernel_rfl) (by kernel_rfl) (fun _ _ _ h=>h) (Or.inl ⟨by kernel_rfl,fun W hSw=>by skip;clear hSw;go_simp⟩) hHeld ?_
  refine wpAnyH_take (i:=3) (v:=.slice q2 Y.2.length c2) rfl (by kernel_rfl) (by kernel_rfl) (by kernel_rfl) (fun _ _ _ h=>h) (Or.inl ⟨by kernel_rfl,fun W hSw=>by skip;clear hSw;go_simp⟩) hHeld ?_
  refine wpAnyH_take (i:=4) (v:=.pointer (some ⟨b,0,none⟩)) rfl (by kernel_rfl) (by kernel_rfl) (by kernel_rfl) (fun _ _ _ h=>h) (Or.inl ⟨by kernel_rfl,fun W hSw=>by obtain⟨cs0,hcs0⟩:=hSw.1;have hz:=hcs0.lt;have hy:=(show W.heap[b]?=_ from hcs0);clear hSw;go_simp⟩) hHeld ?_
  refine wpAnyH_take (i:=5) (v:=.pointer (some ⟨b,13,none⟩)) rfl (by kernel_rfl) (by kernel_rfl) (by kernel_rfl) (fun _ _ _ h=>h) (Or.inl ⟨by kernel_rfl,fun W hSw=>by skip;clear hSw;go_simp⟩) hHeld ?_
  obtain⟨c13,c13z,c13f⟩:=bkc13lz13 (SD.out.blk 2 rfl)
  refine wpAnyH_ready (rs:=[6]) (by kernel_rfl) (by simp) (AllReadyH.cons rfl (fun K hK=>?_) AllReadyH.nil)
  go_simp
  clear c13 c13z c13f
  have S3:=Lib.hid (show Sep w0 (D2.setCell ⟨b,13,none⟩ (.slice q Y.1.length c)) [Pc.own 146 4 q Y.1.length c (encQ Y.1),Pc.own 138 4 q2 Y.2.length c2 (encQ Y.2),.blk b 87 #[.int .i64 k,.int .i64 f,.int .i64 t,.slice pw nw cw,.int .i64 rad,.int .i64 most,.slice po no co,.slice pt nt ct,.slice pr nr cr,.slice pv nv cv,.slice pl nl cl,.int .i64 wk,.slice pp np cp,.slice q Y.1.length c,.slice pm nm cm],.blk bx 82 #[.pointer (some ⟨b,0,none⟩)]] from(SD.out.set 2 rfl 13 (.slice q Y.1.length c)).pick [0,1,2,3] (by decide) rfl)
  clear hHeld
  refine hK.out _ _ ⟨⟨_,S3.out.blk 2 rfl⟩,S3.out.blk 3 rfl⟩ (fun hHeld=>?_)
  clear hK
  refine wpAnyH_take (i:=7) (v:=.pointer (some ⟨b,0,none⟩)) rfl (by kernel_rfl) (by kernel_rfl) (by kernel_rfl) (fun _ _ _ h=>h) (Or.inl ⟨by kernel_rfl,fun W hSw=>by obtain⟨cs0,hcs0⟩:=hSw.1;have hz:=hcs0.lt;have hy:=(show W.heap[b]?=_ from hcs0);clear hSw;go_simp⟩) hHeld ?_
  refine wpAnyH_take (i:=8) (v:=.pointer (some ⟨b,14,none⟩)) rfl (by kernel_rfl) (by kernel_rfl) (by kernel_rfl) (fun _ _ _ h=>h) (Or.inl ⟨by kernel_rfl,fun W hSw=>by skip;clear hSw;go_simp⟩) hHeld ?_
  obtain⟨c14,c14z,c14f⟩:=bkc14lz14 (S3.out.blk 2 rfl)
  have hw5:W.heap.size≤(D2.setCell ⟨b,13,none⟩ (.slice q Y.1.length c)).heap.size:=Nat.le_trans hw4 (grown_set ..).size
  have HJ5:=Lib.hid (HJ.out pre D2 _ (some b) HJ4.out (grown_set D2 ⟨b,13,none⟩ (.slice q Y.1.length c)) (fun r e=>Or.inr (by injection e with e;exact e.symm)))
  clear HJ4 hw4 SD
  generalize D2.setCell ⟨b,13,none⟩ (.slice q Y.1.length c)=D3 at S3 hHeld hw5 HJ5 c14 c14z c14f ⊢
  clear D2
  refine wpAnyH_ready (rs:=[9]) (by kernel_rfl) (by simp) (AllReadyH.cons rfl (fun K hK=>?_) AllReadyH.nil)
  go_simp
  clear c14 c14z c14f
  have S4:=Lib.hid (show Sep w0 (D3.setCell ⟨b,14,none⟩ (.slice q2 Y.2.length c2)) [Pc.own 146 4 q Y.1.length c (encQ Y.1),Pc.own 138 4 q2 Y.2.length c2 (encQ Y.2),.blk b 87 #[.int .i64 k,.int .i64 f,.int .i64 t,.slice pw nw cw,.int .i64 rad,.int .i64 most,.slice po no co,.slice pt nt ct,.slice pr nr cr,.slice pv nv cv,.slice pl nl cl,.int .i64 wk,.slice pp np cp,.slice q Y.1.length c,.slice q2 Y.2.length c2],.blk bx 82 #[.pointer (some ⟨b,0,none⟩)]] from S3.out.set 2 rfl 14 (.slice q2 Y.2.length c2))
  clear hHeld
  refine hK.out _ _ ⟨⟨_,S4.out.blk 2 rfl⟩,S4.out.blk 3 rfl⟩ (fun hHeld=>?_)
  have hw6:W.heap.size≤(D3.setCell ⟨b,14,none⟩ (.slice q2 Y.2.length c2)).heap.size:=Nat.le_trans hw5 (grown_set ..).size
  have HJ6:=Lib.hid (HJ.out pre D3 _ (some b) HJ5.out (grown_set D3 ⟨b,14,none⟩ (.slice q2 Y.2.length c2)) (fun r e=>Or.inr (by injection e with e;exact e.symm)))
  have S5:=Lib.hid (S4.out.pick [2,3,0,1] (by decide) rfl)
  clear hK S4 S3 HJ5 hw5
  refine wpAnyH_done (by kernel_rfl) ?_ _
  clear hHeld
  generalize D3.setCell ⟨b,14,none⟩ (.slice q2 Y.2.length c2)=D4 at S5 hw6 HJ6 ⊢
  clear D3
  gi_wp2
  have SE:=Lib.hid S5.out.drew
  have hw7:W.heap.size≤D4.drew.heap.size:=hw6
  have HJ7:=Lib.hid (HJ.out pre D4 D4.drew none HJ6.out (Ext.grown (Below.refl _ _).drew) (fun r e=>nomatch e))
  have hl1:Y.1.length=(rn (m+1)).1.length:=by rw [HRY.out]
  obtain⟨yb,yd,yF,hAn,hDn⟩:=HDN.out (m+1) (by omega) q Y.1.length c q2 Y.2.length c2 hl1
  have hDn:=hDn D4.drew SE.out.ext (by rw [HRY.out];exact SE.out.rdx 2 rfl) (by rw [HRY.out];exact SE.out.rdx 3 rfl)
  have HAN:=Lib.hid hAn
  have HD:=Lib.hid hDn
  clear hAn hDn hl1
  obtain⟨dn,hdn⟩:∃ dn,doneB k t (rn (m+1))=dn:=⟨_,rfl⟩
  rw [hdn] at HD
  have HDB:=Lib.hid hdn
  clear hdn
  refine wpIn_region_heldI 14 (S:=fun W=>Blk W b 87 #[.int .i64 k,.int .i64 f,.int .i64 t,.slice pw nw cw,.int .i64 rad,.int .i64 most,.slice po no co,.slice pt nt ct,.slice pr nr cr,.slice pv nv cv,.slice pl nl cl,.int .i64 wk,.slice pp np cp,.slice q Y.1.length c,.slice q2 Y.2.length c2]∧Blk W bx 82 #[.pointer (some ⟨b,0,none⟩)]) (by kernel_rfl) ⟨SE.out.blk 0 rfl,SE.out.blk 1 rfl⟩ (fun hHeld=>?_)
  clear S5 hw6 HJ6
  generalize D4.drew=D5 at SE HD hHeld hw7 HJ7 ⊢
  refine wpAnyHI_take [14] (i:=0) (v:=.func (.yield l) #[] #[]) rfl rfl (by kernel_rfl) (by kernel_rfl) (by kernel_rfl) (by kernel_rfl) (fun _ _ _ h=>h) ⟨Or.inl ⟨by kernel_rfl,fun W hSw=>by skip;clear hSw;go_simp⟩,fun _ _=>rfl⟩ hHeld ?_
  refine wpAnyHI_take [2,3,4,11,12,14] (i:=1) (v:=.pointer (some ⟨b,0,none⟩)) rfl rfl (by kernel_rfl) (by kernel_rfl) (by kernel_rfl) (by kernel_rfl) (fun _ _ _ h=>h) ⟨Or.inl ⟨by kernel_rfl,fun W hSw=>by have h0:=hSw.2.cell 0;have hz:=hSw.2.lt;clear hSw;go_simp⟩,fun _ _=>rfl⟩ hHeld ?_
  refine wpAnyHI_take [3,4,11,12,14] (i:=2) (v:=.pointer (some ⟨b,0,none⟩)) rfl rfl (by kernel_rfl) (by kernel_rfl) (by kernel_rfl) (by kernel_rfl) (fun _ _ _ h=>h) ⟨Or.inl ⟨by kernel_rfl,fun W hSw=>by have hz:=hSw.1.lt;have hy:=(show W.heap[b]?=_ from hSw.1);clear hSw;go_simp⟩,fun _ _=>rfl⟩ hHeld ?_
  refine wpAnyHI_take [4,11,12,14] (i:=3) (v:=.pointer (some ⟨b,0,none⟩)) rfl rfl (by kernel_rfl) (by kernel_rfl) (by kernel_rfl) (by kernel_rfl) (fun _ _ _ h=>h) ⟨Or.inl ⟨by kernel_rfl,fun W hSw=>by skip;clear hSw;go_simp⟩,fun _ _=>rfl⟩ hHeld ?_
  refine wpAnyHI_take [11,12,14] (i:=4) (v:=.agg #[.int .i64 k,.int .i64 f,.int .i64 t,.slice pw nw cw,.int .i64 rad,.int .i64 most]) rfl rfl (by kernel_rfl) (by kernel_rfl) (by kernel_rfl) (by kernel_rfl) (fun _ _ _ h=>h) ⟨Or.inl ⟨by kernel_rfl,fun W hSw=>by have h0:=hSw.1.cell 0;have h1:=hSw.1.cell 1;have h2:=hSw.1.cell 2;have h3:=hSw.1.cell 3;have h4:=hSw.1.cell 4;have h5:=hSw.1.cell 5;clear hSw;go_simp⟩,fun _ _=>rfl⟩ hHeld ?_
  refine wpAnyHI_take [6,7,8,11,12,14] (i:=5) (v:=.pointer (some ⟨b,0,none⟩)) rfl rfl (by kernel_rfl) (by kernel_rfl) (by kernel_rfl) (by kernel_rfl) (fun _ _ _ h=>h) ⟨Or.inl ⟨by kernel_rfl,fun W hSw=>by have h0:=hSw.2.cell 0;have hz:=hSw.2.lt;clear hSw;go_simp⟩,fun _ _=>rfl⟩ hHeld ?_
  refine wpAnyHI_take [7,8,11,12,14] (i:=6) (v:=.pointer (some ⟨b,0,none⟩)) rfl rfl (by kernel_rfl) (by kernel_rfl) (by kernel_rfl) (by kernel_rfl) (fun _ _ _ h=>h) ⟨Or.inl ⟨by kernel_rfl,fun W hSw=>by have hz:=hSw.1.lt;have hy:=(show W.heap[b]?=_ from hSw.1);clear hSw;go_simp⟩,fun _ _=>rfl⟩ hHeld ?_
  refine wpAnyHI_take [8,11,12,14] (i:=7) (v:=.pointer (some ⟨b,10,none⟩)) rfl rfl (by kernel_rfl) (by kernel_rfl) (by kernel_rfl) (by kernel_rfl) (fun _ _ _ h=>h) ⟨Or.inl ⟨by kernel_rfl,fun W hSw=>by skip;clear hSw;go_simp⟩,fun _ _=>rfl⟩ hHeld ?_
  refine wpAnyHI_take [11,12,14] (i:=8) (v:=.slice pl nl cl) rfl rfl (by kernel_rfl) (by kernel_rfl) (by kernel_rfl) (by kernel_rfl) (fun _ _ _ h=>h) ⟨Or.inl ⟨by kernel_rfl,fun W hSw=>by have h0:=hSw.1.cell 10;clear hSw;go_simp⟩,fun _ _=>rfl⟩ hHeld ?_
  refine wpAnyHI_take [11,12,14] (i:=9) (v:=.slice q Y.1.length c) rfl rfl (by kernel_rfl) (by kernel_rfl) (by kernel_rfl) (by kernel_rfl) (fun _ _ _ h=>h) ⟨Or.inl ⟨by kernel_rfl,fun W hSw=>by skip;clear hSw;go_simp⟩,fun _ _=>rfl⟩ hHeld ?_
  refine wpAnyHI_take [11,12,14] (i:=10) (v:=.slice q2 Y.2.length c2) rfl rfl (by kernel_rfl) (by kernel_rfl) (by kernel_rfl) (by kernel_rfl) (fun _ _ _ h=>h) ⟨Or.inl ⟨by kernel_rfl,fun W hSw=>by skip;clear hSw;go_simp⟩,fun _ _=>rfl⟩ hHeld ?_
  refine wpAnyHI_one (i:=11) (by kernel_rfl) rfl (by decide) (fun K hK=>?_)
  go_simp
  refine⟨trivial,callsIn_wide.2 (HD.out.mono ?_)⟩
  rintro e w6 ⟨hq,hc,rfl,Z⟩
  have S6:=Lib.hid (SE.out.comp Z)
  have hw8:=Nat.le_trans hw7 Z.ext.size
  obtain⟨fn,tmps,assign,body,hy,hR⟩:=HY.out pre ⟨yb,yd,yF,hq,hc,dn⟩ D5 w6 HJ7.out Z.ext ⟨Z,by rw [HM.out];exact HAN.out,by rw [HM.out];exact HDB.out.symm⟩
  have hy2:(Instr.yield l #[.agg #[.bool yb,.int .i64 yd,.slice hq yF.length hc],.bool dn]).run Tryz.prog w6=_:=hy
  have HR:=Lib.hid hR
  clear hy Z hHeld hR HD SE HJ7
  refine hK _ _ ⟨S6.out.blk 1 rfl,S6.out.blk 2 rfl⟩ ?_
  clear hK
  have hHeld:=And.intro (S6.out.blk 1 rfl) (S6.out.blk 2 rfl)
  refine wpAnyHI_take [14] (i:=12) (v:=.agg #[.bool yb,.int .i64 yd,.slice hq yF.length hc]) rfl rfl (by kernel_rfl) (by kernel_rfl) (by kernel_rfl) (by kernel_rfl) (fun _ _ _ h=>h) ⟨Or.inl ⟨by kernel_rfl,fun W hSw=>by skip;clear hSw;go_simp⟩,fun _ _=>rfl⟩ hHeld ?_
  refine wpAnyHI_take [14] (i:=13) (v:=.bool dn) rfl rfl (by kernel_rfl) (by kernel_rfl) (by kernel_rfl) (by kernel_rfl) (fun _ _ _ h=>h) ⟨Or.inl ⟨by kernel_rfl,fun W hSw=>by skip;clear hSw;go_simp⟩,fun _ _=>rfl⟩ hHeld ?_
  clear hHeld
  refine wpAnyHI_last (by kernel_rfl) rfl (fun K hK=>?_)
  go_simp
  refine HR.out.mono ?_
  clear HR hy2
  rintro e W3 (⟨rfl,hJ3,hk3⟩ | ⟨rfl,hJx3⟩)
  ·have HJ8:=Lib.hid hJ3
   have HK3:=Lib.hid hk3
   clear hJ3 hk3
   refine hK _ _ ?_
   clear hK
   refine wpAnyIn_take (i:=15) (v:=.bool false) rfl rfl (by kernel_rfl) (by kernel_rfl) (by kernel_rfl) (fun _ _ _ h=>h) ⟨Or.inl ⟨by kernel_rfl,fun W=>by go_simp⟩,fun _=>rfl⟩ ?_
   refine wpAnyIn_done (by kernel_rfl) ?_ _
   gi_wp2
   have HF3:Hid (∀ p∈[Pc.blk b 87 #[.int .i64 k,.int .i64 f,.int .i64 t,.slice pw nw cw,.int .i64 rad,.int .i64 most,.slice po no co,.slice pt nt ct,.slice pr nr cr,.slice pv nv cv,.slice pl nl cl,.int .i64 wk,.slice pp np cp,.slice q Y.1.length c,.slice q2 Y.2.length c2],Pc.blk bx 82 #[.pointer (some ⟨b,0,none⟩)],Pc.own 146 4 q Y.1.length c (encQ Y.1),Pc.own 138 4 q2 Y.2.length c2 (encQ Y.2)],∀ k,p.foot k→¬ Bd k):=fun p hp k hk hb=>by
    have h3:=(HBD.out k hb).2
    simp only [List.mem_cons,List.not_mem_nil,or_false] at hp
    rcases hp with rfl | rfl | rfl | rfl
    ·exact HF.out _ (List.mem_cons_self ..) k hk hb
    ·exact HF.out _ (List.mem_cons_of_mem _ (List.mem_cons_self ..)) k hk hb
    ·have:=HZN.out _ (List.mem_cons_self ..) k hk
     omega
    ·have:=HZN.out _ (List.mem_cons_of_mem _ (List.mem_cons_self ..)) k hk
     omega
   have S7:=Lib.hid ((S6.out.pick (Δ:=[Pc.blk b 87 #[.int .i64 k,.int .i64 f,.int .i64 t,.slice pw nw cw,.int .i64 rad,.int .i64 most,.slice po no co,.slice pt nt ct,.slice pr nr cr,.slice pv nv cv,.slice pl nl cl,.int .i64 wk,.slice pp np cp,.slice q Y.1.length c,.slice q2 Y.2.length c2],Pc.blk bx 82 #[.pointer (some ⟨b,0,none⟩)],Pc.own 146 4 q Y.1.length c (encQ Y.1),Pc.own 138 4 q2 Y.2.length c2 (encQ Y.2)]) [1,2,3,4] (by decide) rfl).kpN gst_cells HF3.out (fun k hb=>(HBD.out k hb).1) hw0 HK3.out)
   have hs9:W.heap.size≤W3.heap.size:=Nat.le_trans hw8 HK3.out.size
   gi_roundg (gk - 1)
   case rel =>
    have e:(pre ++ [(⟨yb,yd,yF,hq,hc,dn⟩:YdT)]).length=m+1:=by rw [List.length_append,HM.out];rfl
    exact⟨pre ++ [(⟨yb,yd,yF,hq,hc,dn⟩:YdT)],q,Y.1.length,c,q2,Y.2.length,c2,by rw [e];omega,by rw [e,HRY.out];exact S7.out,by rw [e,HRY.out];exact HF3.out,HJ8.out,hs9⟩
   case measure=>omega
  ·have HX3:=Lib.hid hJx3
   clear hJx3
   refine hK _ _ ?_
   clear hK
   refine wpAnyIn_take (i:=15) (v:=.bool true) rfl rfl (by kernel_rfl) (by kernel_rfl) (by kernel_rfl) (fun _ _ _ h=>h) ⟨Or.inl ⟨by kernel_rfl,fun W=>by go_simp⟩,fun _=>rfl⟩ ?_
   refine wpAnyIn_done (by kernel_rfl) ?_ _
   gi_wp2
   refine bodyPost_ret (results_none rfl _ _ _) rfl ?_
   exact⟨⟨_,rfl⟩,.inr ⟨_,trivial,HX3.out⟩⟩
end
section
open Go Go.RowKit
def chkJ (ck:Bool) (k f t:Int) (ws:List ByteArray) (rad most:Int) (n:Nat):Int:=if ck=true then chkQ k f t ws rad most ((n:Int) - 1) else 40
theorem CheckJ (k f t:Int) (pw:Option Addr) (nw cw:Nat) (ws:List ByteArray) (rad most:Int) (po:Option Addr) (no co:Nat) (O:List Int) (pt:Option Addr) (nt ct:Nat) (T:List Int) (pr:Option Addr) (nr cr:Nat) (R:List Int) (pv:Option Addr) (nv cv:Nat) (V:List Int) (w:World) (hO:Rd w 1 po no (encI O)) (hT:Rd w 1 pt nt (encI T)) (hR:Rd w 1 pr nr (encI R)) (hV:Rd w 1 pv nv (encI V)) (hct:nt≤ct) (hcv:nv≤cv) (hW:Rd w 1 pw nw (encS ws)) (hz:∀ s∈ws,s.size≤1000000) (h1000:no≤1000) :
  Calls Tryz.prog 49 #[.agg #[.int .i64 k,.int .i64 f,.int .i64 t,.slice pw nw cw,.int .i64 rad,.int .i64 most],.agg #[.slice po no co,.slice pt nt ct,.slice pr nr cr,.slice pv nv cv]] w fun e w'=>e=.returned (.int .i64 (chkJ (checkR O T R V) k f t ws rad most no))∧Ext w w':=by
 have HCK:=Lib.hid (fun W (h:Ext w W)=>CheckR po no co O pt nt ct T pr nr cr R pv nv cv V W (hO.ext h) (hT.ext h) (hR.ext h) (hV.ext h) hct hcv)
 have HQ:=Lib.hid (fun W (h:Ext w W)=>CheckQ k f t pw nw cw ws rad most ((no:Int) - 1) W (hW.ext h) hz)
 have S0:=Lib.hid (((Sep.start w).al #[.int .i64 k,.int .i64 f,.int .i64 t,.slice pw nw cw,.int .i64 rad,.int .i64 most] 24 w.heap.size rfl).al #[.slice po no co,.slice pt nt ct,.slice pr nr cr,.slice pv nv cv] 27 (w.heap.size+1) (by simp))
 clear hO hT hR hV hct hcv hW hz
 obtain⟨ck,hck⟩:∃ ck,checkR O T R V=ck:=⟨_,rfl⟩
 rw [hck] at HCK ⊢
 obtain⟨x,hx⟩:∃ x,chkQ k f t ws rad most ((no:Int) - 1)=x:=⟨_,rfl⟩
 rw [hx] at HQ
 have e1:chkJ ck k f t ws rad most no=if ck=true then x else 40:=by unfold chkJ;rw [hx]
 rw [e1]
 clear e1 hx hck
 go_enter Tryz.func49,Tryz.ntmps49
 cases ck with
 | false =>
  go_wp2_with (go_at_call 82;go_must (refine(HCK.out _ S0.out.ext).mono ?_;rintro e w1 ⟨rfl,hb⟩;have S1:=Lib.hid (S0.out.call hb);clear hb))
  go_ret
  exact⟨rfl,S1.out.ext⟩
 | true =>
  go_wp2_with (first | (go_at_call 82;go_must (refine(HCK.out _ S0.out.ext).mono ?_;rintro e w1 ⟨rfl,hb⟩;have S1:=Lib.hid (S0.out.call hb);obtain⟨b0,b1,b2,b3,b4,b5,bz⟩:=bkc0c1c2c3c4c5l (S1.out.blk 1 rfl);obtain⟨c0,cz⟩:=bkc0l (S1.out.blk 0 rfl);clear hb)) | (go_at_call 76;go_must (refine(HQ.out _ S1.out.ext).mono ?_;rintro e w2 ⟨rfl,hb⟩;have S2:=Lib.hid (S1.out.call hb);clear hb)))
  go_ret
  exact⟨rfl,S2.out.ext⟩
end
section
open Go
theorem wpIn_region_heldR {F:Fence} {n r:Nat} {P:Program} {ops:Array Oper} {Q:Exit→Act→World→Prop} {S:World→Prop} (y:Nat) {id:Nat} {a:Act} {w:World} (hro:F.round=none) (hnd:∀ (i:Nat) (o:Oper),ops[i]?=some o→∀ c,o.op≠.defer c) (hm:P.follows .mixedOrders=true) (hS:S w.drew)
  (h:S w.drew→wpAnyHI F n P .any ops Q S y ops.size (Array.replicate ops.size false) a w.drew):(Code.region id ops true).wpIn (F.inRound r) n P Q a w :=
 wpIn_region_any hm (wpAnyIn_round hro hnd _ _ _ _ (wpAnyIn_of_heldI _ _ _ _ (h hS)))
theorem noDefer_arr {ops:Array Oper} (h:ops.toList.all noDefer=true) (i:Nat) (o:Oper) (hi:ops[i]?=some o) (c):o.op≠.defer c:=by
 intro e
 have:=List.all_eq_true.1 h o (Array.mem_toList_iff.2 (Array.mem_of_getElem? hi))
 unfold noDefer at this
 rw [e] at this
 cases this
end
section
open Go Go.RowKit
def frRun (a10 a12 a13 a14 a19 a20 a21:Value) (b:Act):Prop:=∃ u0 u1 u2 u3 u4 u5 u6 u7 u8 u9 u11 u15 u16 u17 u18 u22 u23 u24 u25 u26 u27 u28 u29 u30 u31 u32 u33 u34 u35 u36 u37 u38 u39 u40 u41 u42 u43 u44 u45 u46 u47 u48 u49 u50 u51 u52 u53 u54 u55 u56 u57 u58 u59 u60 u61 u62 u63 u64 u65 u66:Value,b={ tmps:=#[u0,u1,u2,u3,u4,u5,u6,u7,u8,u9,a10,u11,a12,a13,a14,u15,u16,u17,u18,a19,a20,a21,u22,u23,u24,u25,u26,u27,u28,u29,u30,u31,u32,u33,u34,u35,u36,u37,u38,u39,u40,u41,u42,u43,u44,u45,u46,u47,u48,u49,u50,u51,u52,u53,u54,u55,u56,u57,u58,u59,u60,u61,u62,u63,u64,u65,u66],defers:=[] }
theorem frRun_of {a10 a12 a13 a14 a19 a20 a21 u0 u1 u2 u3 u4 u5 u6 u7 u8 u9 u11 u15 u16 u17 u18 u22 u23 u24 u25 u26 u27 u28 u29 u30 u31 u32 u33 u34 u35 u36 u37 u38 u39 u40 u41 u42 u43 u44 u45 u46 u47 u48 u49 u50 u51 u52 u53 u54 u55 u56 u57 u58 u59 u60 u61 u62 u63 u64 u65 u66:Value}:frRun a10 a12 a13 a14 a19 a20 a21 { tmps:=#[u0,u1,u2,u3,u4,u5,u6,u7,u8,u9,a10,u11,a12,a13,a14,u15,u16,u17,u18,a19,a20,a21,u22,u23,u24,u25,u26,u27,u28,u29,u30,u31,u32,u33,u34,u35,u36,u37,u38,u39,u40,u41,u42,u43,u44,u45,u46,u47,u48,u49,u50,u51,u52,u53,u54,u55,u56,u57,u58,u59,u60,u61,u62,u63,u64,u65,u66],defers:=[] }:=⟨u0,u1,u2,u3,u4,u5,u6,u7,u8,u9,u11,u15,u16,u17,u18,u22,u23,u24,u25,u26,u27,u28,u29,u30,u31,u32,u33,u34,u35,u36,u37,u38,u39,u40,u41,u42,u43,u44,u45,u46,u47,u48,u49,u50,u51,u52,u53,u54,u55,u56,u57,u58,u59,u60,u61,u62,u63,u64,u65,u66,rfl⟩
end
end Go.Proofs.YtfjhjennfiihhaaGreat
