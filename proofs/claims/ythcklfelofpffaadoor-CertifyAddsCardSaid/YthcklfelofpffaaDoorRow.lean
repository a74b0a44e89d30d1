/- What a row's last step needs, for a law that returns true and leaves every argument as it was: each argument reads behind the call as it read before. -/
import Derived.Test.YthcklfelofpffaaDoorBase
import Derived.Test.YthcklfelofpffaaDoorRows
import Derived.WalkKit
import Derived.ProofKit
import Derived.OpenShut
import Derived.JoinedCond
namespace Go.Proofs.YthcklfelofpffaaDoor
open Go.ChangeShapes Go.WideShapes Go.ChangeAt Go.RowKit
variable {H : Type} {enc : TypeId × Value → H} {P : Program}

/-- A readable type of the program. -/
def readT (P : Program) (t : TypeId) : Bool := P.readableRec t && decide (t < P.types.size)
theorem stays {W W' : World} (hl : laidOutB P = true) (hb : Below W.heap.size W W') (sp : Nat → Bool) : ∀ {ts : List TypeId} {vs : List Value} {ds : List (DataW H)} {p : List MemPlace},
    ts.all (readT P) = true → DataW.TrodAll enc P W 0 (fun _ => true) true ts vs ds p → (∀ x ∈ p, x.block < W.heap.size) → (∀ x ∈ p, sp x.block = true) → DataW.TrodAll enc P W' 0 sp true ts vs ds p := by
  intro ts
  induction ts with
  | nil =>
    intro vs ds p _ h _ _
    obtain ⟨rfl, rfl, rfl⟩ := trodAll_nil h
    exact trodAll_mk0
  | cons t ts ih =>
    intro vs ds p hr h hlt hsp
    obtain ⟨v, vs', d, ds', q, q', rfl, rfl, rfl, h1, h2⟩ := trodAll_cons h
    rw [List.all_cons, Bool.and_eq_true] at hr
    have hr1 := hr.1
    unfold readT at hr1
    rw [Bool.and_eq_true, decide_eq_true_iff] at hr1
    exact trodAll_cons_mk (WideElems.Trod_stays hl hr1.1 hr1.2 h1 (fun x hx => hb.same (hlt x (List.mem_append_left _ hx))) (fun x hx => hsp x (List.mem_append_left _ hx)))
      (ih hr.2 h2 (fun x hx => hlt x (List.mem_append_right _ hx)) (fun x hx => hsp x (List.mem_append_right _ hx)))

/-- The row's last step. -/
theorem row_close {f : Func} {s : ChangeSpec} {W W' : World} {args : Array Value} {ds gs : List (DataW H)} {before : List MemPlace} {tb : TypeId} {fresh handsOn : Bool}
    (hl : laidOutB P = true) (ht : P.underlying tb = some .bool) (hrt : f.resultTypes = #[tb]) (hr : f.params.toList.all (readT P) = true) (hv : s.vars = [])
    (hW : DataW.Whole enc P f.params.toList s.vars false W args.toList ds gs before) (hres : (s.fn H (ds ++ gs)) = { results := [.lit (.bool true)], args := ds }) (hb : Below W.heap.size W W') :
    s.post enc P f false fresh handsOn false W args (.bool true) W' := by
  have hlt : ∀ p ∈ before, p.block < W.heap.size := fun p hp => hW.lt p hp
  have hW' := hW
  obtain ⟨p, q, hA, hV, rfl, hz, _⟩ := hW
  rw [hv] at hV
  obtain ⟨rfl, rfl⟩ := trodVars_none hV
  rw [List.append_nil] at hlt hz hW'
  refine ⟨ds, [], p, [], p, [], hW', ?_, ?_, ?_, hb.frame _, fun h => by cases h⟩
  · rw [hrt, hres]
    exact trodAll_cons_mk (shut_bool ht true) trodAll_mk0
  · rw [hres]
    exact stays hl hb _ hr hA hlt (fun x hx => by simpa using hlt x hx)
  · rw [hres, hv]; rfl

/-- An int64 argument is in range. -/
theorem i64_wf {n : Int} (h : (Lit.int .i64 n).wf = true) : -9223372036854775808 ≤ n ∧ n ≤ 9223372036854775807 := by
  simpa [Lit.wf, IntKind.min, IntKind.max, IntKind.signed, IntKind.bits] using h
end Go.Proofs.YthcklfelofpffaaDoor
