/- The last step of a law's row: the result is true, the arguments read as they did, where the call only made memory. -/
import Derived.Below
import Derived.Carry
import Derived.ChangeSame
import Derived.ProofKit
import Derived.OpenShut
import Derived.Test.YtcjkechemjdboaaProg
namespace Go.Proofs.Ytcjkechemjdboaa
open Go Go.RowKit Go.WideShapes Go.ChangeShapes
theorem own : ownKnob Try.prog.godebug = none := by kernel_rfl
theorem laidOut : laidOutB Try.prog = true := by kernel_rfl
set_option maxRecDepth 100000 in
/-- true comes back, the arguments stay: what is left to show is their reading -/
theorem law_post {H : Type} {enc : TypeId × Value → H} {f : Func} {s : ChangeSpec} {apart fresh handsOn again : Bool} {W W' : World} {args : Array Value} {ds : List (DataW H)} {before : List MemPlace}
    (hW : DataW.Whole enc Try.prog f.params.toList s.vars apart W args.toList ds [] before) (ht : f.resultTypes = #[4]) (hvars : s.vars = [])
    (hfn : s.fn H (ds ++ []) = { results := [.lit (.bool true)], args := ds })
    (hargs : ∀ sp : Nat → Bool, (∀ p ∈ before, sp p.block = true) → DataW.TrodAll enc Try.prog W' 0 sp true f.params.toList args.toList ds before)
    (hb : Below W.heap.size W W') : s.post enc Try.prog f apart fresh handsOn again W args (.bool true) W' := by
  have lits : ∀ (b : Nat) (sp : Nat → Bool) (hd : Bool), DataW.TrodAll enc Try.prog W' b sp hd f.resultTypes.toList ((Value.bool true).resultList f.resultTypes.size) (s.fn H (ds ++ [])).results [] := by
    intro b sp hd
    rw [hfn, ht]
    exact trodAll_mk1 (shut_bool Try.underlying4 true)
  have hold : ∀ sp : Nat → Bool, (∀ p ∈ before, sp p.block = true) → DataW.TrodAll enc Try.prog W' 0 sp true f.params.toList args.toList (s.fn H (ds ++ [])).args before := by
    intro sp hsp
    rw [hfn]; exact hargs sp hsp
  have hv : ∀ sp : Nat → Bool, DataW.TrodVars enc Try.prog W' sp s.vars (s.fn H (ds ++ [])).vars [] := by
    intro sp; rw [hfn, hvars]; rfl
  have hin : ∀ p ∈ before, p.block < W.heap.size := fun p hp => hW.lt p hp
  have same : before = before ++ [] := by simp
  refine ⟨ds, [], before, [], before, [], hW, lits _ _ _, hold _ (fun p hp => by simpa using hin p hp), hv _, World.keptBut_mono (fun p hp => ⟨hp, .inr (by simpa using hp)⟩) (hb.frame (· ∈ before)), fun _ => ?_⟩
  have hW2 := hW
  obtain ⟨_, _, _, _, _, hz, hn⟩ := hW2
  refine ⟨ok_one (by rw [ht]) rfl (okWide_bool_mk Try.underlying4 _), _, _, ([] ++ before) ++ [], ⟨[] ++ before, [], trodAll_append (hold _ (fun _ _ => rfl)) (lits _ _ _), hv _, rfl, ?_, ?_⟩, ?_⟩
  · intro b off hp
    have hp2 : MemPlace.cell b off ∈ before := by simpa using hp
    rw [hb.frozen (hin _ hp2)]
    exact hz b off hp2
  · intro ha
    simpa using hn ha
  · intro p hp _
    simpa using hp
/-- an argument's reading, carried behind the call -/
theorem stays {H : Type} {enc : TypeId × Value → H} {W W' : World} {t : TypeId} {v : Value} {d : DataW H} {ps : List MemPlace} (hr : Try.prog.readableRec t = true) (hrow : t < Try.prog.types.size) (h : DataW.Trod enc Try.prog W 0 (fun _ => true) true t v d ps)
    (hb : Below W.heap.size W W') (hlt : ∀ x ∈ ps, x.block < W.heap.size) {sp : Nat → Bool} (hsp : ∀ x ∈ ps, sp x.block = true) : DataW.Trod enc Try.prog W' 0 sp true t v d ps :=
  WideElems.Trod_stays laidOut hr hrow h (fun x hx => hb.same (hlt x hx)) hsp
/-- all readings, one by one -/
theorem trodAll_turn {H : Type} {enc : TypeId × Value → H} {P : Program} {W W' : World} {sp sp' : Nat → Bool} {hd : Bool} (ts : List TypeId) : ∀ {vs : List Value} {ds : List (DataW H)} {ps : List MemPlace}, DataW.TrodAll enc P W 0 sp hd ts vs ds ps →
    (∀ t ∈ ts, ∀ v d p, (∀ x ∈ p, x ∈ ps) → DataW.Trod enc P W 0 sp hd t v d p → DataW.Trod enc P W' 0 sp' hd t v d p) → DataW.TrodAll enc P W' 0 sp' hd ts vs ds ps := by
  induction ts with
  | nil =>
    intro vs ds ps h _
    obtain ⟨rfl, rfl, rfl⟩ := trodAll_nil h
    exact trodAll_mk0
  | cons t ts ih =>
    intro vs ds ps h hk
    obtain ⟨v, vs', d, ds', p, q, rfl, rfl, rfl, h1, h2⟩ := trodAll_cons h
    exact trodAll_cons_mk (hk t (by simp) v d p (fun x hx => by simp [hx]) h1) (ih h2 fun t' ht' v' d' p' hp' h' => hk t' (by simp [ht']) v' d' p' (fun x hx => by simp [hp' x hx]) h')
/-- all arguments' reading, carried behind the call -/
theorem stays_all {H : Type} {enc : TypeId × Value → H} {W W' : World} {ts : List TypeId} {vs : List Value} {ds : List (DataW H)} {ps : List MemPlace} (hr : ts.all (fun t => Try.prog.readableRec t && decide (t < Try.prog.types.size)) = true)
    (h : DataW.TrodAll enc Try.prog W 0 (fun _ => true) true ts vs ds ps) (hb : Below W.heap.size W W') (hlt : ∀ x ∈ ps, x.block < W.heap.size) {sp : Nat → Bool} (hsp : ∀ x ∈ ps, sp x.block = true) : DataW.TrodAll enc Try.prog W' 0 sp true ts vs ds ps :=
  trodAll_turn ts h fun t ht v d p hp h1 => by
    have h2 := List.all_eq_true.1 hr t ht
    rw [Bool.and_eq_true, decide_eq_true_eq] at h2
    exact stays h2.1 h2.2 h1 hb (fun x hx => hlt x (hp x hx)) (fun x hx => hsp x (hp x hx))
end Go.Proofs.Ytcjkechemjdboaa
