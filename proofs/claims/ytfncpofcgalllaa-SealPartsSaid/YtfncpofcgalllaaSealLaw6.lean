/- Plain laws of a seal that is replaced by two seals of parts of its range. No program is in sight. -/
import Derived.Test.YtfncpofcgalllaaSealLaw5
import Derived.Test.YtfncpofcgalllaaSealL25
namespace Go.Proofs.Ytfncpofcgalllaa
open Go.RowKit
/-- The list after a seal was added, if it could be. -/
def putS (m : List Seal) (s : Seal) : List Seal := if s ∈ m then m else m ++ [s]
theorem putS_mem (m : List Seal) (s t : Seal) : t ∈ putS m s ↔ t ∈ m ∨ t = s := by
  unfold putS
  split
  · rename_i h
    constructor
    · exact .inl
    · rintro (h1 | rfl) <;> assumption
  · simp
theorem putS_le (m : List Seal) (s : Seal) : (putS m s).length ≤ m.length + 1 := by
  unfold putS; split <;> simp
def firstS (s : Seal) (k : Int) : Seal := ⟨s.e, s.v, s.f, k, s.g⟩
def secondS (s : Seal) (k : Int) : Seal := ⟨s.e, s.v, k, s.u, s.g⟩
theorem firstS_small {s : Seal} {k : Int} (h : small s) (h1 : s.f < k) (h2 : k < s.u) : small (firstS s k) := by
  simp only [small, firstS] at *; omega
theorem secondS_small {s : Seal} {k : Int} (h : small s) (h1 : s.f ≤ k) (h2 : k < s.u) : small (secondS s k) := by
  simp only [small, secondS] at *; omega
def restS (m : List Seal) (s : Seal) : List Seal := m.filter fun x => !decide (x = s)
theorem restS_mem (m : List Seal) (s t : Seal) : t ∈ restS m s ↔ t ∈ m ∧ t ≠ s := by
  unfold restS; rw [List.mem_filter]; simp
theorem sliftE_mem {m : List Seal} {s : Seal} (h : s ∈ m) : sliftE m s = (restS m s, 0) := by
  unfold sliftE restS; rw [if_pos h]
theorem parts_one {m : List Seal} {s : Seal} (hs : s ∈ m) : alike m (putS (restS m s) (secondS s s.f)) := by
  have e : secondS s s.f = s := rfl
  rw [e]
  refine alike_mem fun t => ?_
  rw [putS_mem, restS_mem]
  by_cases h : t = s
  · subst h; simp [hs]
  · simp [h]
theorem parts_two {m : List Seal} {s : Seal} {k : Int} (hs : s ∈ m) (h1 : s.f < k) (h2 : k < s.u) : alike m (putS (putS (restS m s) (firstS s k)) (secondS s k)) := by
  refine alike_of fun e v x i => ⟨?_, ?_⟩
  · rintro ⟨t, ht, hp, hg⟩
    by_cases h : t = s
    · subst h
      obtain ⟨a1, a2, a3, a4⟩ := (onP_iff _ _ _ _).1 hp
      by_cases hx : x < k
      · exact ⟨firstS t k, by rw [putS_mem, putS_mem]; exact .inl (.inr rfl), (onP_iff _ _ _ _).2 ⟨a1, a2, a3, hx⟩, hg⟩
      · exact ⟨secondS t k, by rw [putS_mem]; exact .inr rfl, (onP_iff _ _ _ _).2 ⟨a1, a2, by simp only [secondS]; omega, a4⟩, hg⟩
    · exact ⟨t, by rw [putS_mem, putS_mem, restS_mem]; exact .inl (.inl ⟨ht, h⟩), hp, hg⟩
  · rintro ⟨t, ht, hp, hg⟩
    rw [putS_mem, putS_mem, restS_mem] at ht
    rcases ht with (⟨ht, _⟩ | rfl) | rfl
    · exact ⟨t, ht, hp, hg⟩
    · obtain ⟨a1, a2, a3, a4⟩ := (onP_iff _ _ _ _).1 hp
      simp only [firstS] at a1 a2 a3 a4
      exact ⟨s, hs, (onP_iff _ _ _ _).2 ⟨a1, a2, a3, by omega⟩, hg⟩
    · obtain ⟨a1, a2, a3, a4⟩ := (onP_iff _ _ _ _).1 hp
      simp only [secondS] at a1 a2 a3 a4
      exact ⟨s, hs, (onP_iff _ _ _ _).2 ⟨a1, a2, by omega, a4⟩, hg⟩
theorem restS_small {m : List Seal} {s : Seal} (h : ∀ t ∈ m, small t) : ∀ t ∈ restS m s, small t := fun t ht => h t ((restS_mem _ _ _).1 ht).1
theorem putS_small {m : List Seal} {s : Seal} (h : ∀ t ∈ m, small t) (hs : small s) : ∀ t ∈ putS m s, small t := by
  intro t ht
  rcases (putS_mem _ _ _).1 ht with h1 | rfl
  · exact h t h1
  · exact hs
theorem restS_le (m : List Seal) (s : Seal) : (restS m s).length ≤ m.length := List.length_filter_le _ _
/-- Add of a valid seal to a short list: the list that is kept, by the error. -/
theorem addE_put {m : List Seal} {s : Seal} (hv : vld s = true) (hl : m.length < 1000) : (addE m s = (putS m s, 0) ∧ s ∉ m) ∨ (addE m s = ([], 4) ∧ putS m s = m) := by
  by_cases h : s ∈ m
  · right; exact ⟨addE_dup hv h, by unfold putS; rw [if_pos h]⟩
  · left; refine ⟨?_, h⟩; rw [addE_new hv h hl]; unfold putS; rw [if_neg h]
theorem fit_of {m : List Seal} (h : ∀ t ∈ m, small t) (hl : m.length ≤ 12) : fit m := ⟨hl, small.g h, small.f h⟩
end Go.Proofs.Ytfncpofcgalllaa
