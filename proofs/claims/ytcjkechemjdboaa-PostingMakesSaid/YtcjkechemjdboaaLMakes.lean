/- The law PostingMakes: a graph has just these postings, or is refused. -/
import Derived.Test.YtcjkechemjdboaaEx5
import Derived.Test.YtcjkechemjdboaaR9
import Derived.Test.YtcjkechemjdboaaR4
import Derived.Test.YtcjkechemjdboaaR5
import Derived.Test.YtcjkechemjdboaaR3
namespace Go.Proofs.Ytcjkechemjdboaa
open Go Go.RowKit
def mkP (N : Int) (E : List (Int × Int)) (W : List (List ByteArray)) : List Po := if isB N E W = true then makeP W else []
def mkC (N : Int) (E : List (Int × Int)) (W : List (List ByteArray)) : Int := if isB N E W = true then 0 else 20
theorem RdP.nil (w : World) : RdP w none 0 [] [] := ⟨rfl, .inl rfl, by omega, fun k hk => by omega, fun k hk => by omega, fun k hk => by omega⟩
theorem MakeGb (N : Int) (pe : Option Addr) (ne ce : Nat) (pw : Option Addr) (nw cw : Nat) (E : List (Int × Int)) (hs : List Hd) (W : List (List ByteArray)) (w : World) (hE : Rd w 2 pe ne (encE E)) (hW : RdW w pw nw hs W) (hz : SzW W) :
    Calls Try.prog 15 #[.agg #[.int .i64 N, .slice pe ne ce, .slice pw nw cw]] w fun e w' => ∃ q n c hs', e = .returned (.tuple #[.slice q n c, .int .i64 (mkC N E W)]) ∧ RdP w' q n hs' (mkP N E W) ∧ Ext w w' := by
  refine (MakeG N pe ne ce pw nw cw E hs W w hE hW hz).mono ?_
  rintro e w' ⟨⟨h, rfl⟩ | ⟨h, q, n, c, hs', rfl, hr⟩, he⟩
  · unfold mkC mkP; rw [h]; exact ⟨none, 0, 0, [], rfl, RdP.nil _, he⟩
  · unfold mkC mkP; rw [h]; exact ⟨q, n, c, hs', rfl, hr, he⟩
theorem Mk5rb (N : Int) (pe : Option Addr) (ne ce : Nat) (pw : Option Addr) (nw cw : Nat) (E : List (Int × Int)) (hs : List Hd) (W : List (List ByteArray)) (w : World) (hE : Rd w 2 pe ne (encE E)) (hW : RdW w pw nw hs W) (hz : SzW W) :
    Calls Try.prog 16 #[.agg #[.int .i64 N, .slice pe ne ce, .slice pw nw cw]] w fun e w' => ∃ q n c hs', e = .returned (.tuple #[.slice q n c, .int .i64 (mkC N E W)]) ∧ RdP w' q n hs' (mkP N E W) ∧ Ext w w' := by
  refine (Mk5r N pe ne ce pw nw cw E hs W w hE hW hz).mono ?_
  rintro e w' ⟨⟨h, rfl⟩ | ⟨h, q, n, c, hs', rfl, hr⟩, he⟩
  · unfold mkC mkP; rw [h]; exact ⟨none, 0, 0, [], rfl, RdP.nil _, he⟩
  · unfold mkC mkP; rw [h]; exact ⟨q, n, c, hs', rfl, hr, he⟩
set_option maxRecDepth 100000 in
set_option maxHeartbeats 8000000 in
theorem lawMakes (N : Int) (pe : Option Addr) (ne ce : Nat) (pw : Option Addr) (nw cw : Nat) (E : List (Int × Int)) (hs : List Hd) (W : List (List ByteArray)) (w : World) (hE : Rd w 2 pe ne (encE E)) (hW : RdW w pw nw hs W) : Calls Try.prog 3 #[.agg #[.int .i64 N, .slice pe ne ce, .slice pw nw cw]] w fun e w' => e = .returned (.bool true) ∧ Ext w w' := by
  have HBig := Lib.hid (fun W1 (h : Ext w W1) => Big02 N pe ne ce pw nw cw E hs W W1 (hE.ext h) (hW.ext h))
  have S0 := Lib.hid ((Sep.start w).al #[.int .i64 N, .slice pe ne ce, .slice pw nw cw] 25 w.heap.size rfl)
  by_cases hbig : bigB E W = true
  · rw [hbig] at HBig
    clear hE hW
    go_enter Try.func3, Try.ntmps3
    go_wp2_with (go_at_call 13; go_must (refine (HBig.out _ S0.out.ext).mono ?_; rintro e w1 ⟨rfl, hb1⟩; have S1 := Lib.hid (S0.out.call hb1); clear hb1))
    go_ret
    exact ⟨rfl, S1.out.ext⟩
  · have hbig' : bigB E W = false := by simpa using hbig
    have hz := szW_of_big hbig'
    obtain ⟨l1, l2, l3⟩ := lens_of_big hbig'
    rw [hbig'] at HBig
    clear hbig hbig'
    have n1 := hE.nE
    have n2 := hW.nW
    have HOwn := Lib.hid (fun W1 (h : Ext w W1) => Own02 N pe ne ce pw nw cw E hs W W1 (hE.ext h) (hW.ext h) (by omega) (by omega) (fun l hl => Nat.le_trans (l3 l hl) (by omega)))
    have HM := Lib.hid (fun W1 (h : Ext w W1) => MakeGb N pe ne ce pw nw cw E hs W W1 (hE.ext h) (hW.ext h) hz)
    have HM2 := Lib.hid (fun po no co pq mo do' ho W1 (h1 : Rd W1 2 po no (encE E)) (h2 : RdW W1 pq mo ho W) => Mk5rb N po no co pq mo do' E ho W W1 h1 h2 hz)
    have HSame2 := Lib.hid (fun po no co pq mo do' ho W1 (h3 : Rd W1 2 pe ne (encE E)) (h4 : RdW W1 pw nw hs W) (h1 : Rd W1 2 po no (encE E)) (h2 : RdW W1 pq mo ho W) => Same02 N pe ne ce pw nw cw E hs W N po no co pq mo do' E ho W W1 h3 h4 h1 h2)
    have hself : ∀ M D V, sameB M D V M D V = true := fun M D V => by simp [sameB]
    rw [hself] at HSame2
    have K0 := Lib.hid (((Kn.nil w).add (fun w => Rd w 2 pe ne (encE E)) (fun _ he => hE.ext he)).add (fun w => RdW w pw nw hs W) (fun _ he => hW.ext he))
    clear hE hW hz l3 n1 n2
    generalize mkP N E W = L at *
    generalize mkC N E W = cc at *
    go_enter Try.func3, Try.ntmps3
    go_wp2_with (first
      | (go_at_call 19; go_must (refine (HSame2.out po no co pq mo do' ho _ (K6.out.get 5 rfl) (K6.out.get 4 rfl) (K6.out.get 3 rfl) (K6.out.get 2 rfl)).mono ?_; rintro e w7 ⟨rfl, hb⟩; have S7 := Lib.hid (S6.out.call hb); clear hb))
      | (go_at_call 18; go_must (refine (Same05 qa qb na nb _ _ ha hb' L L _ (K5.out.get 1 rfl) (K5.out.get 0 rfl)).mono ?_; rintro e w6 ⟨rfl, hb⟩; have S6 := Lib.hid (S5.out.call hb); have K6 := Lib.hid (K5.out.ext hb); have oz := (S6.out.blk 0 rfl).lt; have o0 := (S6.out.blk 0 rfl).cell 0; have o1 := (S6.out.blk 0 rfl).cell 1; have o2 := (S6.out.blk 0 rfl).cell 2; have gz := (S6.out.blk 1 rfl).lt; have g0 := (S6.out.blk 1 rfl).cell 0; have g1 := (S6.out.blk 1 rfl).cell 1; have g2 := (S6.out.blk 1 rfl).cell 2; clear hb))
      | (go_at_call 17; go_must (refine (Posted _).mono ?_; rintro e w5 ⟨rfl, hb⟩; have S5 := Lib.hid (S4.out.call hb); have K5 := Lib.hid (K4.out.ext hb); clear hb))
      | (go_at_call 16; go_must (refine (HM2.out po no co pq mo do' ho _ (K3.out.get 2 rfl) (K3.out.get 1 rfl)).mono ?_; rintro e w4 ⟨qb, nb, cb, hb', rfl, hr, hb⟩; have S4 := Lib.hid (S3.out.call hb); have K4 := Lib.hid ((K3.out.ext hb).add (fun w => RdP w qb nb hb' L) (fun _ he => hr.ext he)); clear hb hr))
      | (go_at_call 15; go_must (refine (HM.out _ (S2.out.al #[.int .i64 N, .slice po no co, .slice pq mo do'] 25 w2.heap.size rfl).ext).mono ?_; rintro e w3 ⟨qa, na, ca, ha, rfl, hr, hb⟩; have S3 := Lib.hid ((S2.out.al #[.int .i64 N, .slice po no co, .slice pq mo do'] 25 w2.heap.size rfl).call hb); have K3 := Lib.hid ((K2.out.ext (Ext.trans (Ext.alloc (Below.refl _ _) _) hb)).add (fun w => RdP w qa na ha L) (fun _ he => hr.ext he)); have oz := (S3.out.blk 0 rfl).lt; have o0 := (S3.out.blk 0 rfl).cell 0; have o1 := (S3.out.blk 0 rfl).cell 1; have o2 := (S3.out.blk 0 rfl).cell 2; clear hb hr))
      | (go_at_call 14; have _t := S1; go_must (refine (HOwn.out _ S1.out.ext).mono ?_; rintro e w2 ⟨vo, rfl, ⟨po, no, co, pq, mo, do', ho, rfl, ro, _, rp, _⟩, hb⟩; have S2 := Lib.hid (S1.out.call hb); have K2 := Lib.hid (((K0.out.ext S2.out.ext).add (fun w => Rd w 2 po no (encE E)) (fun _ he => ro.ext he)).add (fun w => RdW w pq mo ho W) (fun _ he => rp.ext he)); have cz := (S2.out.blk 0 rfl).lt; have c0 := (S2.out.blk 0 rfl).cell 0; have c1 := (S2.out.blk 0 rfl).cell 1; have c2 := (S2.out.blk 0 rfl).cell 2; clear hb ro rp))
      | (go_at_call 13; go_must (refine (HBig.out _ S0.out.ext).mono ?_; rintro e w1 ⟨rfl, hb1⟩; have S1 := Lib.hid (S0.out.call hb1); have K1 := Lib.hid (K0.out.ext (Ext.trans (Ext.alloc (Below.refl _ _) _) hb1)); have xz := (S1.out.blk 0 rfl).lt; have x0 := (S1.out.blk 0 rfl).cell 0; have x1 := (S1.out.blk 0 rfl).cell 1; have x2 := (S1.out.blk 0 rfl).cell 2; clear hb1)))
    go_ret
    exact ⟨rfl, S7.out.ext⟩
end Go.Proofs.Ytcjkechemjdboaa
