/- Plain laws of what further seals and further groups let see, and of Lift of an added seal. No program is in sight. -/
import Derived.Test.YtfncpofcgalllaaSealLaw4
import Derived.Test.YtfncpofcgalllaaSealW16
namespace Go.Proofs.Ytfncpofcgalllaa
open Go.RowKit
theorem gset_sub {a b : List Seal} (h : ∀ s ∈ a, s ∈ b) (p : Seal → Bool) (i : Nat) (hi : (gset (a.filter p)).testBit i = true) : (gset (b.filter p)).testBit i = true := by
  rw [gset_bit, List.any_eq_true] at hi ⊢
  obtain ⟨s, hs, hd⟩ := hi
  rw [List.mem_filter] at hs
  exact ⟨s, List.mem_filter.2 ⟨h s hs.1, hs.2⟩, hd⟩
theorem bv_get (n i : Nat) (hi : i < 64) : (BitVec.ofNat 64 n)[i] = n.testBit i := by
  rw [← BitVec.getLsbD_eq_getElem, BitVec.getLsbD_ofNat]; simp [hi]
theorem may_sub {A B : Nat} {x : Int} (h : ∀ i, A.testBit i = true → B.testBit i = true) (hb : may B x = true) : may A x = true := by
  unfold may at *
  rw [decide_eq_true_iff] at *
  ext i hi
  have h1 := congrArg (fun z : BitVec 64 => z[i]'hi) hb
  simp only [BitVec.getElem_and, bv_get _ i hi] at h1 ⊢
  have h2 := h i
  cases ha : A.testBit i
  · rfl
  · rw [h2 ha] at h1; simpa using h1
theorem may_more {G few y : Nat} (h : may G (few : Int) = true) : may G ((few ||| y : Nat) : Int) = true := by
  unfold may at *
  rw [decide_eq_true_iff] at *
  ext i hi
  have h1 := congrArg (fun z : BitVec 64 => z[i]'hi) h
  rw [BitVec.ofInt_natCast] at *
  simp only [BitVec.getElem_and, bv_get _ i hi, Nat.testBit_or] at h1 ⊢
  cases ha : G.testBit i
  · rfl
  · rw [ha] at h1; simp at h1; simp [h1]
theorem sliftE_add {m : List Seal} {s : Seal} (h : s ∉ m) : sliftE (m ++ [s]) s = (m, 0) := by
  unfold sliftE
  rw [if_pos (by simp)]
  congr 1
  rw [List.filter_append]
  have : m.filter (fun x => !decide (x = s)) = m := by
    rw [List.filter_eq_self]
    intro x hx
    have : x ≠ s := fun e => h (e ▸ hx)
    simp [this]
  rw [this]; simp
end Go.Proofs.Ytfncpofcgalllaa
