/- Plain laws of the ranges: which words lie in them, and the set of groups there. No program is in sight. -/
import Derived.Test.YtfncpofcgalllaaSealLaw
namespace Go.Proofs.Ytfncpofcgalllaa
open Go.RowKit
/-- Whether a word lies in one of some ranges. -/
def inSp (l : List Span) (x : Int) : Bool := l.any fun s => decide (s.f ≤ x ∧ x < s.u)
theorem inSp_take_succ (l : List Span) (x : Int) (k : Nat) (h : k < l.length) : inSp (l.take (k + 1)) x = (inSp (l.take k) x || decide (l[k].f ≤ x ∧ x < l[k].u)) := by
  unfold inSp; rw [List.take_succ_eq_append_getElem h, List.any_append]; simp
theorem inSp_of_take (l : List Span) (x : Int) (k : Nat) (h : inSp (l.take k) x = true) : inSp l x = true := by
  unfold inSp at *; rw [List.any_eq_true] at *; obtain ⟨s, hs, h⟩ := h; exact ⟨s, List.mem_of_mem_take hs, h⟩
theorem inSp_miss {l : List Span} {x : Int} {k : Nat} (h : k < l.length) (h0 : inSp (l.take k) x = false) (hs : ¬ (l[k].f ≤ x ∧ x < l[k].u)) : inSp (l.take (k + 1)) x = false := by
  rw [inSp_take_succ l x k h, h0, decide_eq_false hs]; rfl
theorem inSp_hit {l : List Span} {x : Int} {k : Nat} (h : k < l.length) (h1 : l[k].f ≤ x) (h2 : x < l[k].u) : inSp l x = true :=
  inSp_of_take l x (k + 1) (by rw [inSp_take_succ l x k h, decide_eq_true ⟨h1, h2⟩, Bool.or_true])
theorem Canon.inSp {P : Int → Prop} {hi lo : Int} {l : List Span} (h : Canon P hi lo l) (x : Int) (h1 : lo ≤ x) (h2 : x < hi) : inSp l x = true ↔ P x := by
  rw [h.mem x h1 h2]; unfold Go.Proofs.Ytfncpofcgalllaa.inSp; rw [List.any_eq_true]
  constructor
  · rintro ⟨s, hs, h⟩; exact ⟨s, hs, of_decide_eq_true h⟩
  · rintro ⟨s, hs, h⟩; exact ⟨s, hs, decide_eq_true h⟩
theorem gset_nil_iff (l : List Seal) : gset l = 0 ↔ l = [] := by
  constructor
  · intro h
    cases l with
    | nil => rfl
    | cons s r =>
      have := gset_bit (s :: r) s.g.toNat
      rw [h, List.any_cons, decide_eq_true rfl] at this
      simp at this
  · rintro rfl; rfl
theorem gset_cov (l : List Seal) (e v x : Int) : gset (l.filter (onP e v x)) ≠ 0 ↔ cov l e v x := by
  rw [Ne, gset_nil_iff, List.filter_eq_nil_iff]
  unfold cov
  constructor
  · intro h
    apply Classical.byContradiction
    intro hn
    exact h fun s hs hp => hn ⟨s, hs, hp⟩
  · rintro ⟨s, hs, hp⟩ h; exact h s hs hp
/-- The end of the range before. -/
def lastOf (h : List Span) : Nat → Int
  | 0 => -1
  | k + 1 => match h[k]? with
    | some s => s.u
    | none => -1
theorem lastOf_succ (h : List Span) (k : Nat) (hk : k < h.length) : lastOf h (k + 1) = h[k].u := by
  simp only [lastOf, List.getElem?_eq_getElem hk]
theorem lastOf_lt {P : Int → Prop} {hi : Int} {h : List Span} (hc : Canon P hi 0 h) (k : Nat) (hk : k < h.length) : lastOf h k < h[k].f := by
  rcases k with _ | k
  · have := (hc.le h[0] (List.getElem_mem hk)).1; show (-1 : Int) < _; omega
  · rw [lastOf_succ h k (by omega)]; exact hc.apart k (k + 1) (by omega) hk
end Go.Proofs.Ytfncpofcgalllaa
