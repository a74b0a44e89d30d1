/- Decimal of the reference is the library's numeral; Box of both. No condition but what the tables hold. -/
import Derived.Test.YtgnblofjjondpaaDoorGlyW3
import Derived.Lib.ItoaNum
namespace Go.Proofs.YtgnblofjjondpaaDoor
open Go.RowKit
/-- The digits of m, none for 0. -/
def decD (m : Nat) : List UInt8 := if m = 0 then [] else Lib.decDigits m
theorem decD_step (m : Nat) (h : m ≠ 0) : decD m = decD (m / 10) ++ [UInt8.ofNat (48 + m % 10)] := by
  unfold decD
  rw [if_neg h, Lib.decDigits]
  split
  · rename_i h10
    rw [if_pos (by omega), Nat.mod_eq_of_lt h10]; rfl
  · rw [if_neg (by omega)]
theorem digit_at : ∀ d, d < 10 → (⟨#[48, 49, 50, 51, 52, 53, 54, 55, 56, 57]⟩ : ByteArray).extract d (d + 1) = ⟨#[UInt8.ofNat (48 + d)]⟩ := by decide
theorem nd_le : ∀ (k u : Nat), u < 10 ^ (k + 1) → Lib.nDigits u ≤ k + 1
  | 0, u, h => by rw [Lib.nDigits_small (by simpa using h)]; exact Nat.le_refl _
  | k + 1, u, h => by
    by_cases h10 : u < 10
    · rw [Lib.nDigits_small h10]; omega
    · rw [Lib.nDigits_big h10]
      have := nd_le k (u / 10) (by rw [Nat.pow_succ] at h; omega)
      omega
theorem dec_len (m : Nat) (hm : m ≤ 9223372036854775808) : (Lib.decDigits m).length ≤ 19 := by
  rw [Lib.decDigits_length]; exact nd_le 18 m (by omega)
set_option maxHeartbeats 400000 in
theorem dec_pos (m0 : Nat) (h : 0 < m0) (hm : m0 ≤ 9223372036854775807) (w : World) :
    Calls Tryd.prog 39 #[.int .i64 (m0 : Int)] w fun e w' => e = .returned (.string ⟨(Lib.decDigits m0).toArray⟩) ∧ w = w' := by
  have h0 : ((m0 : Int) == 0) = false := by rw [beq_eq_false_iff_ne]; omega
  have hneg : ¬ (m0 : Int) < 0 := by omega
  have hlen := dec_len m0 (by omega)
  have HD := Lib.hid (show Lib.decDigits m0 = decD m0 by unfold decD; rw [if_neg (by omega)])
  go_enter Tryd.func39, Tryd.ntmps39
  go_wp2_with fail
  go_loop [4, 5, 6] (fun s k _ => ∃ (m : Nat) (S : List UInt8), m ≤ 9223372036854775807 ∧ k = .int .i64 (m : Int) ∧ s = .string ⟨S.toArray⟩ ∧ Hid (decD m ++ S = Lib.decDigits m0)) (fun _ k _ => (intOf k).toNat)
  case atStart => exact ⟨m0, [], hm, rfl, rfl, by simp; exact HD.out.symm⟩
  case round =>
    obtain ⟨m, S, hm2, rfl, rfl, hS⟩ := hrel
    by_cases hz : m = 0
    · have E := Lib.hid (show S = Lib.decDigits m0 by rw [← hS.out, hz]; rfl)
      subst hz
      go_wp2_with fail
      go_ret
      exact ⟨ret_str (by rw [E.out]), rfl⟩
    · have hne : ((m : Int) != 0) = true := by rw [bne_iff_ne]; omega
      have hST := Lib.hid (decD_step m hz)
      have hd := Lib.hid (digit_at (m % 10) (by omega))
      have b0 : (0 : Int) ≤ (m : Int) % 10 := by omega
      have b1 : (m : Int) % 10 < 10 := by omega
      have b2 : ¬ (m : Int) % 10 < 0 := by omega
      have b3 : (0 : Int) ≤ (m : Int) := by omega
      have hSl : S.length ≤ 19 := by have := congrArg List.length hS.out; rw [List.length_append] at this; omega
      have b4 : min (m % 10 + 1) 10 - m % 10 + S.length ≤ 9223372036854775807 := by omega
      clear hlen
      go_wp2_with fail
      go_round
      case rel => exact ⟨m / 10, UInt8.ofNat (48 + m % 10) :: S, by omega, by go_num, by rw [hd.out]; rfl, (show decD (m / 10) ++ (UInt8.ofNat (48 + m % 10) :: S) = Lib.decDigits m0 by rw [← hS.out, hST.out]; simp)⟩
      case measure => simp [intOf]; omega
theorem tmod_neg (m : Nat) : Int.tmod (-(m : Int)) 10 = -((m % 10 : Nat) : Int) := by rw [Int.neg_tmod]; rfl
theorem tdiv_neg (m : Nat) : Int.tdiv (-(m : Int)) 10 = -((m / 10 : Nat) : Int) := by rw [Int.neg_tdiv]; rfl
set_option maxHeartbeats 400000 in
theorem dec_neg (m0 : Nat) (h : 0 < m0) (hm : m0 ≤ 9223372036854775808) (w : World) :
    Calls Tryd.prog 39 #[.int .i64 (-(m0 : Int))] w fun e w' => e = .returned (.string ⟨(45 :: Lib.decDigits m0).toArray⟩) ∧ w = w' := by
  have h0 : (-(m0 : Int) == 0) = false := by rw [beq_eq_false_iff_ne]; omega
  have hneg : -(m0 : Int) < 0 := by omega
  have hlen := dec_len m0 (by omega)
  have HD := Lib.hid (show Lib.decDigits m0 = decD m0 by unfold decD; rw [if_neg (by omega)])
  go_enter Tryd.func39, Tryd.ntmps39
  go_wp2_with fail
  go_loop [4, 5, 6] (fun s k _ => ∃ (m : Nat) (S : List UInt8), m ≤ 9223372036854775808 ∧ k = .int .i64 (-(m : Int)) ∧ s = .string ⟨S.toArray⟩ ∧ Hid (decD m ++ S = Lib.decDigits m0)) (fun _ k _ => (-(intOf k)).toNat)
  case atStart => exact ⟨m0, [], hm, rfl, rfl, by simp; exact HD.out.symm⟩
  case round =>
    obtain ⟨m, S, hm2, rfl, rfl, hS⟩ := hrel
    have hSl : S.length ≤ 19 := by have := congrArg List.length hS.out; rw [List.length_append] at this; omega
    by_cases hz : m = 0
    · have E := Lib.hid (show S = Lib.decDigits m0 by rw [← hS.out, hz]; rfl)
      subst hz
      have b4 : 1 + S.length ≤ 9223372036854775807 := by omega
      clear hlen
      go_wp2_with fail
      go_ret
      exact ⟨ret_str (by rw [← E.out]; rfl), rfl⟩
    · have hne : (-(m : Int) != 0) = true := by rw [bne_iff_ne]; omega
      have hST := Lib.hid (decD_step m hz)
      have hr : m % 10 < 10 := by omega
      have hq := tdiv_neg m
      have hmd := tmod_neg m
      have hq0 : m / 10 < m := by omega
      generalize m % 10 = r at *
      generalize m / 10 = q at *
      have hd := Lib.hid (digit_at r hr)
      have b4 : min (r + 1) 10 - r + S.length ≤ 9223372036854775807 := by omega
      clear hlen hz
      by_cases hr0 : r = 0
      · subst hr0
        go_wp2_with fail
        go_round
        case rel => exact ⟨q, UInt8.ofNat (48 + 0) :: S, by omega, rfl, by rw [hd.out]; rfl, (show decD q ++ (UInt8.ofNat (48 + 0) :: S) = Lib.decDigits m0 by rw [← hS.out, hST.out]; simp)⟩
        case measure => simp [intOf]; omega
      · have b2 : -(r : Int) < 0 := by omega
        have b3 : (0 : Int) ≤ (r : Int) := by omega
        have b5 : (r : Int) < 10 := by omega
        clear hr0
        go_wp2_with fail
        go_round
        case rel => exact ⟨q, UInt8.ofNat (48 + r) :: S, by omega, rfl, by rw [hd.out]; rfl, (show decD q ++ (UInt8.ofNat (48 + r) :: S) = Lib.decDigits m0 by rw [← hS.out, hST.out]; simp)⟩
        case measure => simp [intOf]; omega
set_option maxHeartbeats 400000 in
theorem decimal_any (n : Int) (hn : I64 n) (w : World) :
    Calls Tryd.prog 39 #[.int .i64 n] w fun e w' => e = .returned (.string ⟨(Lib.itoa n).toArray⟩) ∧ w = w' := by
  rcases Int.lt_trichotomy n 0 with h | h | h
  · obtain ⟨m, rfl⟩ : ∃ m : Nat, n = -(m : Int) := ⟨n.natAbs, by omega⟩
    have e : Lib.itoa (-(m : Int)) = 45 :: Lib.decDigits m := by unfold Lib.itoa; rw [if_pos h]; congr 2; omega
    rw [e]
    exact dec_neg m (by omega) (by have := hn.1; omega) w
  · subst h
    have e : Lib.itoa 0 = [48] := by unfold Lib.itoa; rw [if_neg (by decide), Lib.decDigits]; rfl
    rw [e]
    go_enter Tryd.func39, Tryd.ntmps39
    go_wp2_with fail
    go_ret
    exact ⟨rfl, rfl⟩
  · obtain ⟨m, rfl⟩ := Int.eq_ofNat_of_zero_le (Int.le_of_lt h)
    have e : Lib.itoa (m : Int) = Lib.decDigits m := by unfold Lib.itoa; rw [if_neg (by omega)]; rfl
    rw [e]
    exact dec_pos m (by omega) (by have := hn.2; omega) w
/-- What stands for a word of a width. -/
def box (n : Int) : ByteArray := ⟨(91 :: (Lib.itoa n ++ [93])).toArray⟩
theorem itoa_len (n : Int) (hn : I64 n) : (Lib.itoa n).length ≤ 20 := by
  unfold Lib.itoa
  split
  · have := dec_len n.natAbs (by have := hn.1; omega); simp; omega
  · have := dec_len n.toNat (by have := hn.2; omega); omega
set_option maxHeartbeats 400000 in
theorem rbox_any (n : Int) (hn : I64 n) (w : World) :
    Calls Tryd.prog 22 #[.int .i64 n] w fun e w' => e = .returned (.string (box n)) ∧ w = w' := by
  have hl := itoa_len n hn
  have HB := Lib.hid (show box n = ⟨(91 :: (Lib.itoa n ++ [93])).toArray⟩ from rfl)
  go_enter Tryd.func22, Tryd.ntmps22
  go_wp2_with fail
  refine (decimal_any n hn _).mono ?_
  rintro e w' ⟨rfl, rfl⟩
  generalize Lib.itoa n = l at *
  have h1 : 1 + l.length ≤ 9223372036854775807 := by omega
  have h2 : 1 + l.length + 1 ≤ 9223372036854775807 := by omega
  clear hl
  go_wp2_with fail
  go_ret
  exact ⟨ret_str (by rw [HB.out]; apply ByteArray.ext; simp), rfl⟩
end Go.Proofs.YtgnblofjjondpaaDoor
