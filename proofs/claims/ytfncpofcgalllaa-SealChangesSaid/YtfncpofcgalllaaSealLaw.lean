/- Plain laws of the seals that are made from numbers: small, valid, each once. No program is in sight. -/
import Derived.Test.YtfncpofcgalllaaSealPlain2
namespace Go.Proofs.Ytfncpofcgalllaa
open Go.RowKit

/-- A seal made from a number is small. -/
def small (s : Seal) : Prop := 0 ≤ s.e ∧ s.e < 3 ∧ 0 ≤ s.v ∧ s.v < 3 ∧ 0 ≤ s.f ∧ s.f < s.u ∧ s.u ≤ 34 ∧ 0 ≤ s.g ∧ s.g < 4
theorem mkSeal_small (n : Int) : small (mkSeal n) := by
  simp only [small, mkSeal]; omega
theorem small.ok {s : Seal} (h : small s) : s.ok := by
  simp only [small] at h; simp only [Seal.ok, I64]; omega
theorem small.vld {s : Seal} (h : small s) : vld s = true := by
  simp only [small] at h; exact vld_t (by omega)
theorem addSeal_inv (out : List Seal) (x : Int) (h : (∀ s ∈ out, small s) ∧ out.Nodup) : (∀ s ∈ addSeal out x, small s) ∧ (addSeal out x).Nodup := by
  unfold addSeal
  split
  · rename_i hlt
    have hn : mkSeal (aro x 10000000) ∉ out := fun hm => by have := (idx_mem _ out).2 hm; omega
    refine ⟨fun s hs => ?_, ?_⟩
    · rcases List.mem_append.1 hs with hs | hs
      · exact h.1 s hs
      · rw [List.mem_singleton.1 hs]; exact mkSeal_small _
    · rw [List.nodup_append]
      refine ⟨h.2, by simp, fun a ha b hb => ?_⟩
      rw [List.mem_singleton.1 hb]
      exact fun e => hn (e ▸ ha)
  · exact h
theorem foldl_inv (l : List Int) (out : List Seal) (h : (∀ s ∈ out, small s) ∧ out.Nodup) : (∀ s ∈ l.foldl addSeal out, small s) ∧ (l.foldl addSeal out).Nodup := by
  induction l generalizing out with
  | nil => exact h
  | cons x r ih => exact ih _ (addSeal_inv out x h)
theorem seals_small (l : List Int) : ∀ s ∈ seals l, small s := (foldl_inv _ _ ⟨by simp, by simp⟩).1
theorem seals_nodup (l : List Int) : (seals l).Nodup := (foldl_inv _ _ ⟨by simp, by simp⟩).2
theorem seals_le (l : List Int) : (seals l).length ≤ 8 := by
  have e : seals l = sealsTo (l.take 8) 8 := by unfold seals sealsTo; rw [List.take_take, Nat.min_self]
  rw [e]; exact sealsTo_le _ 8
theorem seals_g (l : List Int) : ∀ s ∈ seals l, 0 ≤ s.g ∧ s.g < 16 := fun s hs => by have := seals_small l s hs; simp only [small] at this; omega
theorem seals_f (l : List Int) : ∀ s ∈ seals l, 0 ≤ s.f ∧ s.f < s.u := fun s hs => by have := seals_small l s hs; simp only [small] at this; omega
theorem seals_u (l : List Int) : ∀ s ∈ seals l, s.u ≤ 1048576 := fun s hs => by have := seals_small l s hs; simp only [small] at this; omega
theorem small_chkTo (pre l : List Seal) (hv : ∀ s ∈ l, vld s = true) (hn : (pre ++ l).Nodup) : chkTo pre l = 0 := by
  induction l generalizing pre with
  | nil => rfl
  | cons x r ih =>
    unfold chkTo
    rw [if_neg (by rw [hv x (by simp)]; simp), if_neg]
    · exact ih _ (fun s hs => hv s (List.mem_cons_of_mem _ hs)) (by rw [List.append_assoc]; exact hn)
    · intro hm
      exact (List.nodup_append.1 hn).2.2 x hm x (by simp) rfl
theorem seals_chk (l : List Int) : chk (seals l) = 0 := by
  unfold chk
  rw [if_neg (by have := seals_le l; omega)]
  exact small_chkTo [] _ (fun s hs => (seals_small l s hs).vld) (by simpa using seals_nodup l)

/-- The bits of a set of groups. -/
theorem gset_bit (l : List Seal) (i : Nat) : (gset l).testBit i = l.any fun s => decide (s.g.toNat = i) := by
  unfold gset
  suffices H : ∀ a, (l.foldl gOr a).testBit i = (a.testBit i || l.any fun s => decide (s.g.toNat = i)) by rw [H 0]; simp
  induction l with
  | nil => intro a; simp
  | cons x r ih =>
    intro a
    rw [List.foldl_cons, ih]
    simp only [gOr, Nat.testBit_or, Nat.testBit_two_pow, List.any_cons, Bool.or_assoc]
theorem rgTo_bit (l : List Seal) (e v x : Int) (k i : Nat) : (rgTo l e v x k).testBit i = (decide (i < k) && hasG l e v x i) := by
  induction k with
  | zero => simp [rgTo]
  | succ k ih =>
    have hlt := rgTo_lt l e v x k
    unfold rgTo
    by_cases hg : hasG l e v x k = true
    · rw [if_pos hg, Nat.add_comm]
      rcases Nat.lt_trichotomy i k with h | h | h
      · rw [Nat.testBit_two_pow_add_gt h, ih]; simp [h, show i < k + 1 by omega]
      · subst h; rw [Nat.testBit_two_pow_add_eq, ih]; simp [hg]
      · rw [Nat.testBit_lt_two_pow]
        · simp [show ¬ i < k + 1 by omega]
        · have : 2 ^ (k + 1) ≤ 2 ^ i := Nat.pow_le_pow_right (by omega) (by omega)
          rw [Nat.pow_succ] at this; omega
    · rw [if_neg hg, ih]
      by_cases h1 : i < k
      · simp [h1]; omega
      · by_cases h2 : i = k
        · subst h2; simp [hg]
        · simp [h1, show ¬ i < k + 1 by omega]
theorem gset_rgTo (l : List Seal) (e v x : Int) (h : ∀ s ∈ l, 0 ≤ s.g ∧ s.g < 16) : gset (l.filter (onP e v x)) = rgTo l e v x 16 := by
  apply Nat.eq_of_testBit_eq
  intro i
  rw [gset_bit, rgTo_bit, List.any_filter]
  have H : ∀ s ∈ l, (onP e v x s && decide (s.g.toNat = i)) = (decide (i < 16) && (decide (s.g = (i : Int)) && onP e v x s)) := by
    intro s hs
    have := h s hs
    by_cases h1 : s.g = (i : Int)
    · rw [decide_eq_true h1, decide_eq_true (show s.g.toNat = i by omega), decide_eq_true (show i < 16 by omega)]; simp
    · rw [decide_eq_false h1, decide_eq_false (show ¬ s.g.toNat = i by omega)]; simp
  unfold hasG
  by_cases h16 : i < 16
  · simp only [decide_eq_true h16, Bool.true_and] at H ⊢
    clear h
    induction l with
    | nil => rfl
    | cons y r ih => rw [List.any_cons, List.any_cons, H y (by simp), ih fun s hs => H s (List.mem_cons_of_mem _ hs)]
  · simp only [decide_eq_false h16, Bool.false_and] at H ⊢
    rw [List.any_eq_false]
    intro s hs; rw [H s hs]; simp
end Go.Proofs.Ytfncpofcgalllaa
