/- Plain laws of Add and Lift, and of what one seal more does to the groups. No program is in sight. -/
import Derived.Test.YtfncpofcgalllaaSealLaw3
namespace Go.Proofs.Ytfncpofcgalllaa
open Go.RowKit
theorem gset_add (m : List Seal) (s : Seal) (e v x : Int) : gset ((m ++ [s]).filter (onP e v x)) = if onP e v x s = true then gOr (gset (m.filter (onP e v x))) s else gset (m.filter (onP e v x)) := by
  rw [List.filter_append, List.filter_cons, List.filter_nil]
  split
  · unfold gset; rw [List.foldl_append]; rfl
  · rw [List.append_nil]
theorem addE_dup {m : List Seal} {s : Seal} (hv : vld s = true) (h : s ∈ m) : addE m s = ([], 4) := by
  unfold addE; rw [if_neg (by rw [hv]; simp), if_pos h]
theorem addE_new {m : List Seal} {s : Seal} (hv : vld s = true) (h : s ∉ m) (hl : m.length < 1000) : addE m s = (m ++ [s], 0) := by
  unfold addE; rw [if_neg (by rw [hv]; simp), if_neg h, if_neg (by omega)]
theorem seals_one (n : Int) : seals [n] = [mkSeal (aro n 10000000)] := rfl
theorem small.fit1 {m : List Seal} {s : Seal} (hm : ∀ t ∈ m, small t) (hs : small s) : ∀ t ∈ m ++ [s], small t := by
  intro t ht
  rcases List.mem_append.1 ht with h | h
  · exact hm t h
  · rw [List.mem_singleton.1 h]; exact hs
theorem small.g {m : List Seal} (h : ∀ t ∈ m, small t) : ∀ s ∈ m, 0 ≤ s.g ∧ s.g < 16 := fun s hs => by have := h s hs; simp only [small] at this; omega
theorem small.f {m : List Seal} (h : ∀ t ∈ m, small t) : ∀ s ∈ m, 0 ≤ s.f ∧ s.f < s.u := fun s hs => by have := h s hs; simp only [small] at this; omega
end Go.Proofs.Ytfncpofcgalllaa
