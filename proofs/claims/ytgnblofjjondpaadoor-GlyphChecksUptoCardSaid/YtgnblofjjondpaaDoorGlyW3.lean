/- Valid and Width of the reference; Short; equal lists of strings. No condition. -/
import Derived.Test.YtgnblofjjondpaaDoorGlyW2
namespace Go.Proofs.YtgnblofjjondpaaDoor
open Go.RowKit
theorem valid_lo (s : ByteArray) (h : s.size < 1) : valid s = false := by
  unfold valid; rw [decide_eq_false (by omega)]; rfl
theorem valid_hi (s : ByteArray) (h : 40 < s.size) : valid s = false := by
  unfold valid; rw [decide_eq_false (by omega)]; rfl
theorem valid_mid (s : ByteArray) (h : 1 ≤ s.size) (h2 : s.size ≤ 40) : valid s = okW s.data.toList := by
  unfold valid; rw [decide_eq_true ⟨h, h2⟩]; rfl
theorem width_of (s : ByteArray) : width s = if valid s then sumW s.data.toList else 0 := by
  by_cases h1 : s.size < 1
  · rw [valid_lo s h1]
    have hl : s.data.toList.length = s.size := by simp
    have : s.data.toList = [] := List.eq_nil_of_length_eq_zero (by rw [hl]; omega)
    unfold width
    rw [this]; simp [sumW]
  · by_cases h2 : 40 < s.size
    · rw [valid_hi s h2]; unfold width; rw [if_pos h2]; rfl
    · rw [valid_mid s (by omega) (by omega)]; unfold width; rw [if_neg h2]
set_option maxHeartbeats 400000 in
theorem rvalid_any (s : ByteArray) (w : World) (hmax : s.size ≤ 9223372036854775807) :
    Calls Tryd.prog 14 #[.string s] w fun e w' => e = .returned (.bool (valid s)) ∧ w = w' := by
  by_cases h1 : s.size < 1
  · have E := Lib.hid (valid_lo s h1)
    have h1' : (s.size : Int) < 1 := by omega
    go_enter Tryd.func14, Tryd.ntmps14
    go_wp2_with fail
    go_ret
    exact ⟨ret_bool E.out.symm, rfl⟩
  · by_cases h2 : 40 < s.size
    · have E := Lib.hid (valid_hi s h2)
      have h1' : ¬ (s.size : Int) < 1 := by omega
      have h2' : (40 : Int) < (s.size : Int) := by omega
      go_enter Tryd.func14, Tryd.ntmps14
      go_wp2_with fail
      go_ret
      exact ⟨ret_bool E.out.symm, rfl⟩
    · have E := Lib.hid (valid_mid s (by omega) (by omega))
      have h1' : ¬ (s.size : Int) < 1 := by omega
      have h2' : ¬ (40 : Int) < (s.size : Int) := by omega
      have hs : s.size ≤ 40 := by omega
      go_enter Tryd.func14, Tryd.ntmps14
      go_wp2_with fail
      go_loop [3] (fun i => ∃ k : Nat, k ≤ s.size ∧ i = .int .i64 k ∧ Hid (okW (s.data.toList.take k) = true)) (fun i => s.size - (intOf i).toNat)
      case atStart => exact ⟨0, Nat.zero_le _, rfl, rfl⟩
      case round =>
        obtain ⟨k, hk, rfl, hok⟩ := hrel
        by_cases hlt : k < s.size
        · have hkl : (k : Int) < (s.size : Int) := by omega
          have hk0 : (0 : Int) ≤ (k : Int) := by omega
          have HO := Lib.hid (okW_take s k hlt)
          have HN := Lib.hid (okW_not s k hlt)
          have HG := Lib.hid (glyph_any s[k].toNat s[k].toNat_lt)
          go_wp2_with fail
          refine (HG.out _).mono ?_
          rintro e w' ⟨rfl, rfl⟩
          by_cases h0 : gw s[k].toNat = 0
          · have E2 := Lib.hid (show valid s = false by rw [E.out, HN.out h0])
            rw [h0]
            clear h0
            go_wp2_with fail
            go_ret
            exact ⟨ret_bool E2.out.symm, rfl⟩
          · have E2 := Lib.hid (show okW (s.data.toList.take (k + 1)) = true by rw [HO.out, hok.out]; simp [h0])
            generalize gw s[k].toNat = g at *
            have hB : (g == 0) = false := beq_eq_false_iff_ne.2 h0
            clear h0
            go_wp2_with fail
            go_round
            case rel => exact ⟨k + 1, by omega, by go_num, E2.out⟩
            case measure => simp [intOf]; omega
        · have E2 := Lib.hid (show valid s = true by rw [E.out, ← takeAll s k (by omega)]; exact hok.out)
          go_wp2_with fail
          go_ret
          exact ⟨ret_bool E2.out.symm, rfl⟩
set_option maxHeartbeats 400000 in
theorem rwidth_any (s : ByteArray) (w : World) (hmax : s.size ≤ 9223372036854775807) :
    Calls Tryd.prog 16 #[.string s] w fun e w' => e = .returned (.int .i64 (width s)) ∧ w = w' := by
  have HW := Lib.hid (width_of s)
  go_enter Tryd.func16, Tryd.ntmps16
  go_wp2_with fail
  refine (rvalid_any s _ hmax).mono ?_
  rintro e w' ⟨rfl, rfl⟩
  cases hv : valid s
  · have E := Lib.hid (show width s = 0 by rw [HW.out, hv]; rfl)
    clear hv
    go_wp2_with fail
    go_ret
    exact ⟨ret_int E.out.symm, rfl⟩
  · have E := Lib.hid (show width s = sumW s.data.toList by rw [HW.out, hv]; rfl)
    have hs : s.size ≤ 40 := by
      by_cases h2 : 40 < s.size
      · rw [valid_hi s h2] at hv; cases hv
      · omega
    clear hv
    go_wp2_with fail
    go_loop [3, 4] (fun n i => ∃ k : Nat, k ≤ s.size ∧ i = .int .i64 k ∧ n = .int .i64 (sumW (s.data.toList.take k))) (fun _ i => s.size - (intOf i).toNat)
    case atStart => exact ⟨0, Nat.zero_le _, rfl, rfl⟩
    case round =>
      obtain ⟨k, hk, rfl, rfl⟩ := hrel
      have hbd := sumW_bd (s.data.toList.take k)
      have hl : (s.data.toList.take k).length ≤ k := List.length_take_le _ _
      by_cases hlt : k < s.size
      · have hkl : (k : Int) < (s.size : Int) := by omega
        have hk0 : (0 : Int) ≤ (k : Int) := by omega
        have HS := Lib.hid (sumW_take s k hlt)
        have hg := gw_bd s[k].toNat s[k].toNat_lt
        have HG := Lib.hid (glyph_any s[k].toNat s[k].toNat_lt)
        generalize sumW (s.data.toList.take k) = S at *
        go_wp2_with fail
        refine (HG.out _).mono ?_
        rintro e w' ⟨rfl, rfl⟩
        generalize gw s[k].toNat = g at *
        go_wp2_with fail
        go_round
        case rel => exact ⟨k + 1, by omega, by go_num, by rw [HS.out]⟩
        case measure => simp [intOf]; omega
      · have E2 := Lib.hid (show width s = sumW (s.data.toList.take k) by rw [E.out, takeAll s k (by omega)])
        go_wp2_with fail
        go_ret
        exact ⟨ret_int E2.out.symm, rfl⟩
theorem ret_str {a b : ByteArray} (h : a = b) : Ending.returned (.string a) = .returned (.string b) := by rw [h]
/-- The first bytes of a string. -/
def short (s : ByteArray) (m : Nat) : ByteArray := s.extract 0 (min s.size m)
theorem short_size (s : ByteArray) (m : Nat) : (short s m).size ≤ m := by
  unfold short; rw [ByteArray.size_extract]; omega
set_option maxHeartbeats 400000 in
theorem short_any (s : ByteArray) (m : Nat) (w : World) (hmax : s.size ≤ 9223372036854775807) (hm : m ≤ 1000) :
    Calls Tryd.prog 12 #[.string s, .int .i64 (m : Int)] w fun e w' => e = .returned (.string (short s m)) ∧ w = w' := by
  have hs : (s.size : Int) ≤ 9223372036854775807 := by omega
  by_cases h : m < s.size
  · have E := Lib.hid (show short s m = s.extract 0 m by unfold short; rw [Nat.min_eq_right (by omega)])
    go_enter Tryd.func12, Tryd.ntmps12
    go_wp2_with fail
    go_ret
    exact ⟨ret_str E.out.symm, rfl⟩
  · have E := Lib.hid (show short s m = s by unfold short; rw [Nat.min_eq_left (by omega)]; exact ByteArray.extract_zero_size)
    go_enter Tryd.func12, Tryd.ntmps12
    go_wp2_with fail
    go_ret
    exact ⟨ret_str E.out.symm, rfl⟩
end Go.Proofs.YtgnblofjjondpaaDoor
