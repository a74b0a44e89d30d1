/- GlyphFillers: what the law answers. No condition but what the tables hold. -/
import Derived.Test.YtgnblofjjondpaaDoorGlyS1
import Derived.Test.YtgnblofjjondpaaDoorCalm
namespace Go.Proofs.YtgnblofjjondpaaDoor
open Go.RowKit
theorem fill_law : ∀ n : Nat, n < 481 → fillOk (n : Int) = true → valid (fillS (n : Int)) = true ∧ width (fillS (n : Int)) = (n : Int) := by decide +kernel
theorem fill_int (n : Int) (h : fillOk n = true) : valid (fillS n) = true ∧ width (fillS n) = n := by
  have h' := h
  unfold fillOk at h'
  rw [decide_eq_true_iff] at h'
  obtain ⟨m, rfl⟩ := Int.eq_ofNat_of_zero_le (show 0 ≤ n by omega)
  exact fill_law m (by omega) h
theorem box_bad (n : Int) : valid (box n) = false := by
  unfold valid box okW
  rw [List.toList_toArray, List.all_cons]
  have : (gw (91 : UInt8).toNat != 0) = false := by decide
  rw [this, Bool.false_and, Bool.and_false]
theorem sumW_even (l : List UInt8) : sumW l % 2 = 0 := by
  induction l with
  | nil => rfl
  | cons c r ih => have := gw_pos c.toNat c.toNat_lt; simp only [sumW]; omega
theorem fill_width (s : ByteArray) : fillOk (width s) = valid s := by
  rw [Bool.eq_iff_iff]
  constructor
  · intro h
    unfold fillOk at h
    rw [decide_eq_true_iff] at h
    rw [valid_iff, decide_eq_true_iff]; omega
  · intro h
    have hw := width_of s
    rw [h, if_pos rfl] at hw
    unfold valid at h
    rw [Bool.and_eq_true, decide_eq_true_iff] at h
    have h1 := sumW_pos _ h.2
    have h2 := sumW_bd s.data.toList
    have h3 := sumW_even s.data.toList
    have hl : s.data.toList.length = s.size := by simp
    unfold fillOk
    rw [decide_eq_true_iff, hw]
    omega
theorem width_bd (s : ByteArray) : 0 ≤ width s ∧ width s ≤ 480 := by
  unfold width
  have h2 := sumW_bd s.data.toList
  have hl : s.data.toList.length = s.size := by simp
  split
  · omega
  · split <;> omega
theorem aro_bd (n m : Int) (hm : 1 ≤ m) : 0 ≤ aro n m ∧ aro n m < m := by
  unfold aro
  split
  · exact ⟨Int.emod_nonneg _ (by omega), Int.emod_lt_of_pos _ (by omega)⟩
  · exact ⟨Int.emod_nonneg _ (by omega), Int.emod_lt_of_pos _ (by omega)⟩
theorem sl_ints3 {w : World} {B : Nat} {t : TypeId} {fr : Nat × Nat} {a b c : Int} (hB : w.heap[B]? = some (.cells #[.int .i64 a, .int .i64 b, .int .i64 c] t fr)) (ha : I64 a) (hb : I64 b) (hc : I64 c) : Sl w (fun b => b < w.heap.size) (some ⟨B, 0, none⟩) 3 [a, b, c] :=
  Sl.block hB (Array.getElem?_eq_some_iff.1 hB).1 (by simp [maxLen]) (fun i hi => by
    have : i = 0 ∨ i = 1 ∨ i = 2 := by simp at hi; omega
    rcases this with rfl | rfl | rfl
    · exact ⟨rfl, ha⟩
    · exact ⟨rfl, hb⟩
    · exact ⟨rfl, hc⟩)
set_option maxRecDepth 100000 in
set_option maxHeartbeats 4000000 in
theorem fillers_any (s : ByteArray) (n : Int) (w : World) (hs : s.size ≤ maxLen) (hn : I64 n) (hT : Tabs w) :
    Calls Tryd.prog 9 #[.string s, .int .i64 n] w fun e w' => e = .returned (.bool true) ∧ Below w.heap.size w w' := by
  have HT := Lib.hid hT
  have HS : Hid (s.size ≤ 9223372036854775807) := Lib.hid (Nat.le_trans hs (by decide))
  have HN := Lib.hid hn
  obtain ⟨m0, m1⟩ := aro_bd n 245 (by decide)
  clear hT hs hn
  go_enter Tryd.func9, Tryd.ntmps9
  go_wp2_with fail
  refine (short_any s 40 _ HS.out (by decide)).mono ?_
  rintro e w' ⟨rfl, rfl⟩
  generalize short s 40 = a at *
  go_wp2_with fail
  refine (width_any a _ HT.out.1).mono ?_
  rintro e w' ⟨rfl, rfl⟩
  go_wp2_with fail
  refine (around_any n 245 _ HN.out (by decide) (by decide)).mono ?_
  rintro e w' ⟨rfl, rfl⟩
  generalize aro n 245 = m at *
  obtain ⟨k0, k1⟩ := width_bd a
  have HW := Lib.hid (fill_width a)
  generalize hwe : width a = wd at *
  have HWE := Lib.hid hwe
  clear hwe
  have HI : Hid (I64 wd ∧ I64 (2 * m)) := Lib.hid ⟨⟨by omega, by omega⟩, ⟨by omega, by omega⟩⟩
  have hb0 := ((Below.refl w.heap.size w).alloc (Nat.le_refl _) (.cells #[.int .i64 wd, .int .i64 (2 * m), .int .i64 n] 3))
  have HB := Lib.hid hb0
  have HS := Lib.hid (sl_ints3 (heap_alloc_new w (.cells #[.int .i64 wd, .int .i64 (2 * m), .int .i64 n] 3)) HI.out.1 HI.out.2 HN.out)
  clear hb0
  go_wp2_with fail
  obtain ⟨xs, hxs⟩ : ∃ xs : List Int, xs = [wd, 2 * m, n] := ⟨_, rfl⟩
  have hlen : xs.length = 3 := by rw [hxs]; rfl
  rw [← hxs] at HS
  clear hxs
  generalize (w.alloc (.cells #[.int .i64 wd, .int .i64 (2 * m), .int .i64 n] 3)) = w1 at *
  generalize (some (⟨w.heap.size, 0, none⟩ : Addr)) = A at *
  go_loopw [7, 8, 9, 10] (fun i _ _ _ wr => ∃ k : Nat, k ≤ 3 ∧ i = .int .i64 k ∧ Below w.heap.size w wr ∧ Below w1.heap.size w1 wr) (fun i _ _ _ _ => 3 - (intOf i).toNat)
  case atStart => exact ⟨0, by omega, rfl, HB.out, Below.refl _ _⟩
  case round =>
    obtain ⟨k, hk, rfl, hb, hb1⟩ := hrel
    by_cases hlt : k < 3
    · obtain ⟨b, o, rfl, _, hbl, hx, hc⟩ := int_at (HS.out.to hb1) (show k < xs.length by omega)
      have hk2 : (k : Int) < 3 := by omega
      have hk0 : (0 : Int) ≤ (k : Int) := by omega
      generalize xs[k] = x at *
      have Hx := Lib.hid hx
      have Hb := Lib.hid hb
      have Hb1 := Lib.hid hb1
      clear hb hb1
      obtain ⟨wo, rfl⟩ : ∃ wo : World, wo = wr := ⟨_, rfl⟩
      have HF := Lib.hid (fill_int x)
      have HF0 := Lib.hid (fun h => fillS_no (n := x) h)
      have HF1 : Hid ((4 ≤ x ∧ x ≤ 480 ∧ x % 2 = 0) → fillOk x = true) := Lib.hid (fun h => decide_eq_true h)
      clear hx
      go_wp2_with fail
      refine (gfill_any x Hx.out _).mono ?_
      rintro e w2 ⟨rfl, hb2⟩
      have hc2 := (hb2.cell hbl).trans hc
      have Hb3 := Lib.hid (Hb.out.trans (hb2.mono Hb.out.size))
      have Hb31 := Lib.hid (Hb1.out.trans (hb2.mono Hb1.out.size))
      have hbl2 := Nat.lt_of_lt_of_le hbl hb2.size
      have HC2 := Lib.hid hc2
      clear hb2 hc
      have hz3 := Hb3.out.size
      have hz31 := Hb31.out.size
      have HBX := Lib.hid (box_bad x)
      by_cases hin : 4 ≤ x ∧ x ≤ 480 ∧ x % 2 = 0
      · have hok := HF1.out hin
        obtain ⟨hv, hw⟩ := HF.out hok
        have HV := Lib.hid hv
        have HWd := Lib.hid hw
        rw [hok]
        generalize fillS x = fs at *
        obtain ⟨g1, g2, g3⟩ := hin
        have g4 : 0 ≤ x := by omega
        clear hok hv hw HF HF0 HF1
        go_wp2_with fail
        refine wp_region_calm (by kernel_rfl) (by kernel_rfl) ?_
        intro T hT f hf hg
        have cc : ∀ d, (f d).cell? ⟨b, o + k, none⟩ = some (.int .i64 x) := fun d => ((hf d).cell hbl2).trans HC2.out
        have HF5 := Lib.hid hf
        have HG5 := Lib.hid hg
        clear hf hg
        repeat (go_big_quiet_step (first
          | (go_at_call 13; refine (gvalid_any fs _ (((HT.out.to Hb3.out).to (HF5.out _)).1)).mono ?_; rintro e w6 ⟨rfl, rfl⟩; rw [HV.out]; exact ⟨rfl, _, rfl⟩)
          | (go_at_call 15; refine (width_any fs _ (((HT.out.to Hb3.out).to (HF5.out _)).1)).mono ?_; rintro e w6 ⟨rfl, rfl⟩; rw [HWd.out]; exact ⟨rfl, _, rfl⟩)
          | (go_at_call 21; refine (gbox_any x Hx.out _ ((HT.out.to Hb3.out).to (HF5.out _))).mono ?_; rintro e w4 ⟨rfl, hb4⟩; exact ⟨rfl, HG5.out _ _ hb4⟩)
          | (go_at_call 13; refine (gvalid_any (box x) _ (((HT.out.to Hb3.out).to (HF5.out _)).1)).mono ?_; rintro e w6 ⟨rfl, rfl⟩; rw [HBX.out]; exact ⟨rfl, _, rfl⟩)))
        refine wpQuiet_nil ?_
        rintro _ ⟨nq, rfl⟩
        have Hd := Lib.hid (HF5.out nq)
        clear HF5 HG5 cc
        go_wp2_with fail
        go_roundw
        case rel => exact ⟨k + 1, by omega, by go_num, Hb3.out.trans (Hd.out.mono hz3), Hb31.out.trans (Hd.out.mono hz31)⟩
        case measure => simp [intOf]; omega
      · obtain ⟨hf, hok⟩ := HF0.out hin
        rw [hf, hok]
        clear hf hok HF HF0 HF1
        by_cases g1 : 4 ≤ x
        · by_cases g2 : x ≤ 480
          · have g3 : x % 2 = 1 := by omega
            have g4 : 0 ≤ x := by omega
            clear hin
            go_wp2_with fail
            refine wp_region_calm (by kernel_rfl) (by kernel_rfl) ?_
            intro T hT f hf hg
            have cc : ∀ d, (f d).cell? ⟨b, o + k, none⟩ = some (.int .i64 x) := fun d => ((hf d).cell hbl2).trans HC2.out
            have HF5 := Lib.hid hf
            have HG5 := Lib.hid hg
            clear hf hg
            repeat (go_big_quiet_step (first
              | (go_at_call 21; refine (gbox_any x Hx.out _ ((HT.out.to Hb3.out).to (HF5.out _))).mono ?_; rintro e w4 ⟨rfl, hb4⟩; exact ⟨rfl, HG5.out _ _ hb4⟩)
              | (go_at_call 13; refine (gvalid_any (box x) _ (((HT.out.to Hb3.out).to (HF5.out _)).1)).mono ?_; rintro e w6 ⟨rfl, rfl⟩; rw [HBX.out]; exact ⟨rfl, _, rfl⟩)))
            refine wpQuiet_nil ?_
            rintro _ ⟨nq, rfl⟩
            have Hd := Lib.hid (HF5.out nq)
            clear HF5 HG5 cc
            go_wp2_with fail
            go_roundw
            case rel => exact ⟨k + 1, by omega, by go_num, Hb3.out.trans (Hd.out.mono hz3), Hb31.out.trans (Hd.out.mono hz31)⟩
            case measure => simp [intOf]; omega
          · have g3 : ¬ x ≤ 480 := g2
            clear hin
            go_wp2_with fail
            refine wp_region_calm (by kernel_rfl) (by kernel_rfl) ?_
            intro T hT f hf hg
            have cc : ∀ d, (f d).cell? ⟨b, o + k, none⟩ = some (.int .i64 x) := fun d => ((hf d).cell hbl2).trans HC2.out
            have HF5 := Lib.hid hf
            have HG5 := Lib.hid hg
            clear hf hg
            repeat (go_big_quiet_step (first
              | (go_at_call 21; refine (gbox_any x Hx.out _ ((HT.out.to Hb3.out).to (HF5.out _))).mono ?_; rintro e w4 ⟨rfl, hb4⟩; exact ⟨rfl, HG5.out _ _ hb4⟩)
              | (go_at_call 13; refine (gvalid_any (box x) _ (((HT.out.to Hb3.out).to (HF5.out _)).1)).mono ?_; rintro e w6 ⟨rfl, rfl⟩; rw [HBX.out]; exact ⟨rfl, _, rfl⟩)))
            refine wpQuiet_nil ?_
            rintro _ ⟨nq, rfl⟩
            have Hd := Lib.hid (HF5.out nq)
            clear HF5 HG5 cc
            go_wp2_with fail
            go_roundw
            case rel => exact ⟨k + 1, by omega, by go_num, Hb3.out.trans (Hd.out.mono hz3), Hb31.out.trans (Hd.out.mono hz31)⟩
            case measure => simp [intOf]; omega
        · clear hin
          go_wp2_with fail
          refine wp_region_calm (by kernel_rfl) (by kernel_rfl) ?_
          intro T hT f hf hg
          have cc : ∀ d, (f d).cell? ⟨b, o + k, none⟩ = some (.int .i64 x) := fun d => ((hf d).cell hbl2).trans HC2.out
          have HF5 := Lib.hid hf
          have HG5 := Lib.hid hg
          clear hf hg
          repeat (go_big_quiet_step (first
            | (go_at_call 21; refine (gbox_any x Hx.out _ ((HT.out.to Hb3.out).to (HF5.out _))).mono ?_; rintro e w4 ⟨rfl, hb4⟩; exact ⟨rfl, HG5.out _ _ hb4⟩)
            | (go_at_call 13; refine (gvalid_any (box x) _ (((HT.out.to Hb3.out).to (HF5.out _)).1)).mono ?_; rintro e w6 ⟨rfl, rfl⟩; rw [HBX.out]; exact ⟨rfl, _, rfl⟩)))
          refine wpQuiet_nil ?_
          rintro _ ⟨nq, rfl⟩
          have Hd := Lib.hid (HF5.out nq)
          clear HF5 HG5 cc
          go_wp2_with fail
          go_roundw
          case rel => exact ⟨k + 1, by omega, by go_num, Hb3.out.trans (Hd.out.mono hz3), Hb31.out.trans (Hd.out.mono hz31)⟩
          case measure => simp [intOf]; omega
    · obtain rfl : k = 3 := by omega
      have Hb := Lib.hid hb
      clear hb hb1
      go_wp2_with fail
      refine (width_any a _ (HT.out.to Hb.out).1).mono ?_
      rintro e w' ⟨rfl, rfl⟩
      rw [HWE.out]
      go_wp2_with fail
      refine (gfill_any wd HI.out.1 _).mono ?_
      rintro e w3 ⟨rfl, hb3⟩
      have Hb3 := Lib.hid (Hb.out.trans (hb3.mono Hb.out.size))
      rw [HW.out]
      clear hb3
      go_wp2_with fail
      refine (gvalid_any a _ (HT.out.to Hb3.out).1).mono ?_
      rintro e w' ⟨rfl, rfl⟩
      generalize valid a = va at *
      cases va
      all_goals go_wp2_with fail
      all_goals refine (lives_any _ (HT.out.to Hb3.out)).mono ?_
      all_goals rintro e w4 ⟨rfl, hb4⟩
      all_goals have Hb4 := Lib.hid (Hb3.out.trans (hb4.mono Hb3.out.size))
      all_goals clear hb4
      all_goals go_wp2_with fail
      all_goals go_ret
      all_goals exact ⟨rfl, Hb4.out⟩
end Go.Proofs.YtgnblofjjondpaaDoor
