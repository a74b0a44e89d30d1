/- Plain laws of lists of seals with the same effect. No program is in sight. -/
import Derived.Test.YtfncpofcgalllaaSealLaw2
namespace Go.Proofs.Ytfncpofcgalllaa
open Go.RowKit
/-- Two lists have the same effect on every word. -/
def alike (a b : List Seal) : Prop := ∀ e v x, gset (a.filter (onP e v x)) = gset (b.filter (onP e v x))
theorem alike_cov {a b : List Seal} (h : alike a b) (e v x : Int) : cov a e v x ↔ cov b e v x := by
  rw [← gset_cov, ← gset_cov, h e v x]
/-- Lists are alike when each group stands at the same words. -/
theorem alike_of {a b : List Seal} (h : ∀ e v x i, (∃ s ∈ a, onP e v x s = true ∧ s.g.toNat = i) ↔ (∃ s ∈ b, onP e v x s = true ∧ s.g.toNat = i)) : alike a b := by
  intro e v x
  apply Nat.eq_of_testBit_eq
  intro i
  rw [gset_bit, gset_bit, Bool.eq_iff_iff, List.any_eq_true, List.any_eq_true]
  have := h e v x i
  constructor
  · rintro ⟨s, hs, hd⟩
    rw [List.mem_filter] at hs
    obtain ⟨t, ht, h1, h2⟩ := this.1 ⟨s, hs.1, hs.2, of_decide_eq_true hd⟩
    exact ⟨t, List.mem_filter.2 ⟨ht, h1⟩, decide_eq_true h2⟩
  · rintro ⟨s, hs, hd⟩
    rw [List.mem_filter] at hs
    obtain ⟨t, ht, h1, h2⟩ := this.2 ⟨s, hs.1, hs.2, of_decide_eq_true hd⟩
    exact ⟨t, List.mem_filter.2 ⟨ht, h1⟩, decide_eq_true h2⟩
theorem alike_mem {a b : List Seal} (h : ∀ s, s ∈ a ↔ s ∈ b) : alike a b :=
  alike_of fun _ _ _ _ => ⟨fun ⟨s, hs, q⟩ => ⟨s, (h s).1 hs, q⟩, fun ⟨s, hs, q⟩ => ⟨s, (h s).2 hs, q⟩⟩
theorem swap_perm (l : List Seal) (i j : Nat) (hi : i < l.length) (hj : j < l.length) : ((l.set i l[j]).set j l[i]).Perm l := by
  exact List.set_set_perm hi hj
end Go.Proofs.Ytfncpofcgalllaa
