/- Plain laws: the two ways to lift a seal agree on a list that has each seal once. No program is in sight. -/
import Derived.Test.YtfncpofcgalllaaSealLaw
import Derived.Test.YtfncpofcgalllaaSealW10
namespace Go.Proofs.Ytfncpofcgalllaa
open Go.RowKit
theorem filter_idx (s : Seal) (l : List Seal) (hn : l.Nodup) (hs : s ∈ l) (k : Nat) : l.filter (fun x => !decide (x = s)) = l.take ((idx s l k).toNat - k) ++ l.drop ((idx s l k).toNat - k + 1) := by
  induction l generalizing k with
  | nil => cases hs
  | cons x r ih =>
    rw [List.nodup_cons] at hn
    by_cases h : x = s
    · subst h
      have e : idx x (x :: r) k = k := by unfold idx; rw [if_pos rfl]
      rw [e]
      have e2 : r.filter (fun y => !decide (y = x)) = r := by
        rw [List.filter_eq_self]
        intro y hy
        have : y ≠ x := fun e => hn.1 (e ▸ hy)
        simp [this]
      simp [e2]
    · have hs' : s ∈ r := by
        rcases List.mem_cons.1 hs with e | e
        · exact absurd e.symm h
        · exact e
      have e : idx s (x :: r) k = idx s r (k + 1) := by rw [idx, if_neg h]
      have hlo := (idx_lo s r (k + 1))
      have hge : ∀ (r : List Seal) (q : Nat), s ∈ r → (q : Int) ≤ idx s r q := by
        intro r
        induction r with
        | nil => intro q hq; cases hq
        | cons y r ihr =>
          intro q hq
          unfold idx
          split
          · omega
          · rename_i hne
            rcases List.mem_cons.1 hq with e | e
            · exact absurd e.symm hne
            · have := ihr (q + 1) e; omega
      have h1 := hge r (k + 1) hs'
      have h2 : (idx s r (k + 1)).toNat - k = (idx s r (k + 1)).toNat - (k + 1) + 1 := by omega
      rw [e, h2, List.filter_cons]
      simp only [h, decide_false, Bool.not_false, if_true, List.take_succ_cons, List.drop_succ_cons, List.cons_append]
      rw [ih hn.2 hs' (k + 1)]
theorem slift_eq (l : List Seal) (s : Seal) (hn : l.Nodup) : sliftE l s = liftE l s := by
  unfold sliftE liftE
  by_cases h : s ∈ l
  · rw [if_pos h, if_pos h, filter_idx s l hn h 0]; simp
  · rw [if_neg h, if_neg h]
theorem manyS_nodup (n : Nat) : (manyS n).Nodup := by
  unfold manyS
  rw [List.Nodup, List.pairwise_map]
  refine List.Pairwise.imp (fun {a b} h e => h ?_) List.nodup_range
  have := congrArg Seal.e e
  simp only [oneOf] at this
  omega
theorem manyS_ok (n : Nat) (hn : n ≤ 2000) : ∀ s ∈ manyS n, s.ok := by
  intro s hs
  unfold manyS at hs
  obtain ⟨i, hi, rfl⟩ := List.mem_map.1 hs
  have := List.mem_range.1 hi
  simp only [Seal.ok, oneOf, I64]; omega
end Go.Proofs.Ytfncpofcgalllaa
