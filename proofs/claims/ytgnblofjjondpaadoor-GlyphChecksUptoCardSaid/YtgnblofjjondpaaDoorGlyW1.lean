/- The width of a glyph, of the program and of the reference. No condition but what the table holds. -/
import Derived.Test.YtgnblofjjondpaaDoorGlyData
import Derived.WalkKit
import Derived.Deep.QuietTactic
import Derived.BigQuiet
import Derived.IntWalk
namespace Go.Proofs.YtgnblofjjondpaaDoor
open Go.RowKit
set_option maxHeartbeats 400000 in
theorem glyphWidth_any (c : Nat) (hc : c < 256) (w : World) (hL : Laid w) :
    Calls Tryd.prog 36 #[.int .u8 (c : Int)] w fun e w' => e = .returned (.int .i64 (gw c)) ∧ w = w' := by
  by_cases h1 : c < 33
  · have e := Lib.hid (gw_lo c h1)
    have h1' : (c : Int) < 33 := by omega
    go_enter Tryd.func36, Tryd.ntmps36
    go_wp2_with fail
    go_ret
    exact ⟨ret_int e.out.symm, rfl⟩
  · by_cases h2 : 127 ≤ c
    · have e := Lib.hid (gw_hi c hc h2)
      have h1' : ¬ (c : Int) < 33 := by omega
      have h2' : (127 : Int) ≤ (c : Int) := by omega
      have h3 : (c : Int) ≤ 255 := by omega
      go_enter Tryd.func36, Tryd.ntmps36
      go_wp2_with fail
      go_ret
      exact ⟨ret_int e.out.symm, rfl⟩
    · obtain ⟨d, rfl⟩ : ∃ d, c = d + 33 := ⟨c - 33, by omega⟩
      have hc0 := hL.cell d (by omega)
      have hb := gw_bd (d + 33) hc
      generalize gw (d + 33) = g at *
      have hd : d < 94 := by omega
      have hd2 : (d : Int) < 94 := by omega
      clear h1 h2 hc
      go_enter Tryd.func36, Tryd.ntmps36
      go_wp2_with fail
      go_ret
      exact ⟨rfl, rfl⟩
set_option maxHeartbeats 400000 in
theorem width_any (s : ByteArray) (w : World) (hL : Laid w) :
    Calls Tryd.prog 15 #[.string s] w fun e w' => e = .returned (.int .i64 (width s)) ∧ w = w' := by
  have HL := Lib.hid hL
  clear hL
  by_cases hbig : 40 < s.size
  · have e := Lib.hid (show width s = 0 by unfold width; rw [if_pos hbig])
    go_enter Tryd.func15, Tryd.ntmps15
    go_wp2_with fail
    go_ret
    exact ⟨ret_int e.out.symm, rfl⟩
  · have hs : s.size ≤ 40 := by omega
    have hs2 : (s.size : Int) ≤ 40 := by omega
    have Hw := Lib.hid (show width s = if okW s.data.toList then sumW s.data.toList else 0 by unfold width; rw [if_neg hbig])
    clear hbig
    go_enter Tryd.func15, Tryd.ntmps15
    go_wp2_with fail
    go_loop [3, 4, 5, 11] (fun n _ _ i => ∃ k : Nat, k ≤ s.size ∧ i = .int .i64 k ∧ n = .int .i64 (sumW (s.data.toList.take k)) ∧ Hid (okW (s.data.toList.take k) = true)) (fun _ _ _ i => s.size - (intOf i).toNat)
    case atStart => exact ⟨0, Nat.zero_le _, rfl, rfl, rfl⟩
    case round =>
      obtain ⟨k, hk, rfl, rfl, hok⟩ := hrel
      have hbd := sumW_bd (s.data.toList.take k)
      have hl : (s.data.toList.take k).length ≤ k := List.length_take_le _ _
      by_cases hlt : k < s.size
      · have hkl : (k : Int) < (s.size : Int) := by omega
        have hk0 : (0 : Int) ≤ (k : Int) := by omega
        have HS := Lib.hid (sumW_take s k hlt)
        have HO := Lib.hid (okW_take s k hlt)
        have HN := Lib.hid (okW_not s k hlt)
        have hg := gw_bd s[k].toNat s[k].toNat_lt
        have HG := Lib.hid (fun w => glyphWidth_any s[k].toNat s[k].toNat_lt w)
        generalize sumW (s.data.toList.take k) = S at *
        go_wp2_with fail
        refine (HG.out _ HL.out).mono ?_
        rintro e w' ⟨rfl, rfl⟩
        by_cases h0 : gw s[k].toNat = 0
        · have E := Lib.hid (show width s = 0 by rw [Hw.out, HN.out h0]; rfl)
          rw [h0]
          clear h0
          go_wp2_with fail
          go_ret
          exact ⟨ret_int E.out.symm, rfl⟩
        · have E := Lib.hid (show okW (s.data.toList.take (k + 1)) = true by rw [HO.out, hok.out]; simp [h0])
          generalize gw s[k].toNat = g at *
          have hB : (g == 0) = false := beq_eq_false_iff_ne.2 h0
          clear h0
          go_wp2_with fail
          go_round
          case rel => exact ⟨k + 1, by omega, by go_num, by rw [HS.out], E.out⟩
          case measure => simp [intOf]; omega
      · have E := Lib.hid (show width s = sumW (s.data.toList.take k) by rw [Hw.out, takeAll s k (by omega)]; rw [if_pos]; rw [← takeAll s k (by omega)]; exact hok.out)
        go_wp2_with fail
        go_ret
        exact ⟨ret_int E.out.symm, rfl⟩
set_option maxHeartbeats 400000 in
theorem gvalid_any (s : ByteArray) (w : World) (hL : Laid w) :
    Calls Tryd.prog 13 #[.string s] w fun e w' => e = .returned (.bool (valid s)) ∧ w = w' := by
  have HV := Lib.hid (valid_iff s)
  go_enter Tryd.func13, Tryd.ntmps13
  go_wp2_with fail
  refine (width_any s _ hL).mono ?_
  rintro e w' ⟨rfl, rfl⟩
  generalize width s = q at *
  go_wp2_with fail
  go_ret
  exact ⟨ret_bool HV.out.symm, rfl⟩
end Go.Proofs.YtgnblofjjondpaaDoor
