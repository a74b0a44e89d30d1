/- GlyphSums: what the law answers. No condition but what the tables hold. -/
import Derived.Test.YtgnblofjjondpaaDoorGlyInt
namespace Go.Proofs.YtgnblofjjondpaaDoor
open Go.RowKit
theorem cat_valid (a b : ByteArray) (ha : valid a = true) (hb : valid b = true) (h1 : a.size ≤ 20) (h2 : b.size ≤ 20) : valid (a ++ b) = true ∧ width (a ++ b) = width a + width b ∧ 0 ≤ width a ∧ width a ≤ 480 ∧ 0 ≤ width b ∧ width b ≤ 480 := by
  have e : (a ++ b).data.toList = a.data.toList ++ b.data.toList := by simp
  have es : (a ++ b).size = a.size + b.size := ByteArray.size_append ..
  unfold valid at ha hb
  rw [Bool.and_eq_true, decide_eq_true_iff] at ha hb
  have hv : valid (a ++ b) = true := by
    unfold valid
    rw [Bool.and_eq_true, decide_eq_true_iff]
    refine ⟨by omega, ?_⟩
    have h3 := ha.2
    have h4 := hb.2
    unfold okW at h3 h4 ⊢
    rw [e, List.all_append, h3, h4]; rfl
  have wa : width a = sumW a.data.toList := by unfold width; rw [if_neg (by omega), if_pos ha.2]
  have wb : width b = sumW b.data.toList := by unfold width; rw [if_neg (by omega), if_pos hb.2]
  have la : a.data.toList.length = a.size := by simp
  have lb : b.data.toList.length = b.size := by simp
  have ba := sumW_bd a.data.toList
  have bb := sumW_bd b.data.toList
  refine ⟨hv, ?_, ?_⟩
  · rw [width_of, hv, if_pos rfl, e, sumW_append, wa, wb]
  · omega
set_option maxHeartbeats 1000000 in
theorem sums_any (s t : ByteArray) (w : World) (hs : s.size ≤ maxLen) (ht : t.size ≤ maxLen) (hT : Tabs w) :
    Calls Tryd.prog 8 #[.string s, .string t] w fun e w' => e = .returned (.bool true) ∧ Below w.heap.size w w' := by
  have HT := Lib.hid hT
  have HS : Hid (s.size ≤ 9223372036854775807) := Lib.hid (Nat.le_trans hs (by decide))
  have HU : Hid (t.size ≤ 9223372036854775807) := Lib.hid (Nat.le_trans ht (by decide))
  have ha := short_size s 20
  have hb := short_size t 20
  clear hT hs ht
  go_enter Tryd.func8, Tryd.ntmps8
  go_wp2_with fail
  refine (short_any s 20 _ HS.out (by decide)).mono ?_
  rintro e w' ⟨rfl, rfl⟩
  go_wp2_with fail
  refine (short_any t 20 _ HU.out (by decide)).mono ?_
  rintro e w' ⟨rfl, rfl⟩
  generalize short s 20 = a at *
  generalize short t 20 = b at *
  go_wp2_with fail
  refine (gvalid_any a _ HT.out.1).mono ?_
  rintro e w' ⟨rfl, rfl⟩
  by_cases hva : valid a = true
  · have HC := Lib.hid (fun h => cat_valid a b hva h ha hb)
    rw [hva]
    clear hva
    go_wp2_with fail
    refine (gvalid_any b _ HT.out.1).mono ?_
    rintro e w' ⟨rfl, rfl⟩
    by_cases hvb : valid b = true
    · obtain ⟨e1, e2, b1, b2, b3, b4⟩ := HC.out hvb
      have hsz : (a.size : Int) + (b.size : Int) ≤ 9223372036854775807 := by omega
      have hszn : a.size + b.size ≤ 9223372036854775807 := by omega
      have E1 := Lib.hid e1
      have E2 := Lib.hid e2
      rw [hvb]
      clear hvb HC e1 e2
      go_wp2_with fail
      refine (gvalid_any (a ++ b) _ HT.out.1).mono ?_
      rintro e w' ⟨rfl, rfl⟩
      rw [E1.out]
      go_wp2_with fail
      refine (width_any (a ++ b) _ HT.out.1).mono ?_
      rintro e w' ⟨rfl, rfl⟩
      rw [E2.out]
      clear E1 E2
      go_wp2_with fail
      refine (width_any a _ HT.out.1).mono ?_
      rintro e w' ⟨rfl, rfl⟩
      generalize width a = wa at *
      go_wp2_with fail
      refine (width_any b _ HT.out.1).mono ?_
      rintro e w' ⟨rfl, rfl⟩
      generalize width b = wb at *
      go_wp2_with fail
      refine (lives_any _ HT.out).mono ?_
      rintro e w3 ⟨rfl, hb3⟩
      have HF := Lib.hid hb3
      clear hb3
      go_wp2_with fail
      go_ret
      exact ⟨rfl, HF.out⟩
    · have hvb' := eq_false_of_ne_true hvb
      rw [hvb']
      clear hvb hvb' HC
      go_wp2_with fail
      refine (lives_any _ HT.out).mono ?_
      rintro e w3 ⟨rfl, hb3⟩
      have HF := Lib.hid hb3
      clear hb3
      go_wp2_with fail
      go_ret
      exact ⟨rfl, HF.out⟩
  · have hva' := eq_false_of_ne_true hva
    rw [hva']
    clear hva hva'
    go_wp2_with fail
    refine (lives_any _ HT.out).mono ?_
    rintro e w3 ⟨rfl, hb3⟩
    have HF := Lib.hid hb3
    clear hb3
    go_wp2_with fail
    go_ret
    exact ⟨rfl, HF.out⟩
end Go.Proofs.YtgnblofjjondpaaDoor
