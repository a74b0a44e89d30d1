/- index of the reference finds the first equal seal. No condition. -/
import Derived.Test.YtfncpofcgalllaaSealW1
namespace Go.Proofs.Ytfncpofcgalllaa
open Go.RowKit
set_option maxHeartbeats 400000 in
theorem around_any (n m : Int) (w : World) (hn : I64 n) (hm : 1 ≤ m) (hm2 : m ≤ 9223372036854775807) :
    Calls Try.prog 14 #[.int .i64 n, .int .i64 m] w fun e w' => e = .returned (.int .i64 (aro n m)) ∧ w = w' := by
  obtain ⟨h0, h1⟩ := hn
  go_enter Try.func14, Try.ntmps14
  by_cases h : n < 0
  · have e : aro n m = (-(n + 1)) % m := by unfold aro; rw [if_pos h]
    have E := Lib.hid e
    clear e
    have hp : 0 ≤ -(n + 1) := by omega
    go_wp2
    go_ret
    refine ⟨ret_int ?_, rfl⟩
    rw [E.out]
    rw [← Int.neg_tmod, Int.tmod_eq_emod_of_nonneg hp]
  · have e : aro n m = n % m := by unfold aro; rw [if_neg h]
    have E := Lib.hid e
    clear e
    go_wp2
    go_ret
    exact ⟨ret_int (by rw [E.out]), rfl⟩
set_option maxHeartbeats 400000 in
theorem rvalid_any (s : Seal) (w : World) :
    Calls Try.prog 34 #[.agg s.cells.toArray] w fun e w' => e = .returned (.bool (vld s)) ∧ Below w.heap.size w w' := by
  unfold Seal.cells
  go_enter Try.func34, Try.ntmps34
  go_wp2
  all_goals go_ret
  all_goals refine ⟨ret_bool ?_, (Below.refl _ _).alloc (Nat.le_refl _) _⟩
  all_goals first | (symm; apply vld_t; omega) | (symm; apply vld_f; omega) | (unfold vld; apply decide_eq_decide.2; omega)
set_option maxHeartbeats 400000 in
theorem valid_any (s : Seal) (w : World) :
    Calls Try.prog 33 #[.agg s.cells.toArray] w fun e w' => e = .returned (.bool (vld s)) ∧ Below w.heap.size w w' := by
  unfold Seal.cells
  go_enter Try.func33, Try.ntmps33
  go_wp2
  all_goals go_ret
  all_goals refine ⟨ret_bool ?_, (Below.refl _ _).alloc (Nat.le_refl _) _⟩
  all_goals first | (symm; apply vld_t; omega) | (symm; apply vld_f; omega) | (unfold vld; apply decide_eq_decide.2; omega)
set_option maxHeartbeats 400000 in
theorem bit_any (n : Int) (w : World) (h0 : 0 ≤ n) (h1 : n ≤ 16) :
    Calls Try.prog 37 #[.int .i64 n] w fun e w' => e = .returned (.int .i64 (pow2 n)) ∧ w = w' := by
  go_enter Try.func37, Try.ntmps37
  go_wp2
  go_loop [3, 4] (fun p i => ∃ k : Nat, (k : Int) ≤ n ∧ i = .int .i64 k ∧ p = .int .i64 ((2 ^ k : Nat) : Int)) (fun _ i => (n - intOf i).toNat)
  case atStart => exact ⟨0, h0, rfl, rfl⟩
  case round =>
    obtain ⟨k, hk, rfl, rfl⟩ := hrel
    have hp : 2 ^ k ≤ 65536 := Nat.pow_le_pow_right (by omega : 0 < 2) (by omega : k ≤ 16)
    have hs := Lib.hid (Nat.pow_succ (n := 2) (m := k))
    have hfin : (k : Int) = n → pow2 n = ((2 ^ k : Nat) : Int) := by rintro rfl; rfl
    have Hfin := Lib.hid hfin
    clear hfin
    generalize 2 ^ k = q at *
    by_cases hlt : (k : Int) < n
    · go_wp2
      go_round
      case rel => exact ⟨k + 1, by omega, by go_num, by rw [hs.out]; go_num⟩
      case measure => simp [intOf]; omega
    · go_wp2
      go_ret
      exact ⟨ret_int (Hfin.out (by omega)).symm, rfl⟩
end Go.Proofs.Ytfncpofcgalllaa
