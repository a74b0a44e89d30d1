/- GlyphStands: what the law answers. No condition but what the tables hold. -/
import Derived.Test.YtgnblofjjondpaaDoorGlyInt
namespace Go.Proofs.YtgnblofjjondpaaDoor
open Go.RowKit
theorem aro_bounds (n : Int) : 0 ≤ aro n 500 ∧ aro n 500 ≤ 499 := by
  unfold aro; split <;> omega
set_option maxHeartbeats 1000000 in
theorem stands_any (n : Int) (w : World) (hn : I64 n) (hT : Tabs w) :
    Calls Tryd.prog 4 #[.int .i64 n] w fun e w' => e = .returned (.bool true) ∧ Below w.heap.size w w' := by
  have HT := Lib.hid hT
  obtain ⟨m0, m1⟩ := aro_bounds n
  have HN := Lib.hid hn
  have hb0 := ((Below.refl w.heap.size w).alloc (Nat.le_refl _) (.cells #[.int .i64 n, .int .i64 (aro n 500 - 5)] 3))
  have HI : Hid (I64 (aro n 500 - 5)) := Lib.hid ⟨by omega, by omega⟩
  have HB := Lib.hid hb0
  have c0 : (w.alloc (.cells #[.int .i64 n, .int .i64 (aro n 500 - 5)] 3)).heap[w.heap.size]? = some (.cells #[.int .i64 n, .int .i64 (aro n 500 - 5)] 3 (0, 0)) := heap_alloc_new w _
  have HS := Lib.hid (sl_ints2 c0 HN.out HI.out)
  clear hT hb0 c0 hn
  go_enter Tryd.func4, Tryd.ntmps4
  go_wp2_with fail
  refine (around_any n 500 _ HN.out (by decide) (by decide)).mono ?_
  rintro e w' ⟨rfl, rfl⟩
  generalize aro n 500 = m at *
  go_wp2_with fail
  obtain ⟨xs, hxs⟩ : ∃ xs : List Int, xs = [n, m - 5] := ⟨_, rfl⟩
  have hlen : xs.length = 2 := by rw [hxs]; rfl
  rw [← hxs] at HS
  clear hxs
  generalize (w.alloc (.cells #[.int .i64 n, .int .i64 (m - 5)] 3)) = w1 at *
  generalize (some (⟨w.heap.size, 0, none⟩ : Addr)) = A at *
  go_loopw [4, 5, 6, 7, 8] (fun i _ _ _ _ wr => ∃ k : Nat, k ≤ 2 ∧ i = .int .i64 k ∧ Below w.heap.size w wr ∧ Below w1.heap.size w1 wr) (fun i _ _ _ _ _ => 2 - (intOf i).toNat)
  case atStart => exact ⟨0, by omega, rfl, HB.out, Below.refl _ _⟩
  case round =>
    obtain ⟨k, hk, rfl, hb, hb1⟩ := hrel
    by_cases hlt : k < 2
    · obtain ⟨b, o, rfl, _, hbl, hx, hc⟩ := int_at (HS.out.to hb1) (show k < xs.length by omega)
      have hk2 : (k : Int) < 2 := by omega
      have hk0 : (0 : Int) ≤ (k : Int) := by omega
      generalize xs[k] = x at *
      have Hx := Lib.hid hx
      have Hb := Lib.hid hb
      have Hb1 := Lib.hid hb1
      clear hb hb1 hx
      obtain ⟨wo, rfl⟩ : ∃ wo : World, wo = wr := ⟨_, rfl⟩
      go_wp2_with fail
      refine (gfill_any x Hx.out _).mono ?_
      rintro e w2 ⟨rfl, hb2⟩
      have hc2 := (hb2.cell hbl).trans hc
      have Hb2 := Lib.hid hb2
      clear hb2
      go_wp2_with fail
      refine (rfill_any x Hx.out _).mono ?_
      rintro e w3 ⟨rfl, rfl⟩
      generalize fillS x = fs at *
      generalize fillOk x = fo at *
      have Hb3 := Lib.hid (Hb.out.trans (Hb2.out.mono Hb.out.size))
      have Hb31 := Lib.hid (Hb1.out.trans (Hb2.out.mono Hb1.out.size))
      have hbl2 := Nat.lt_of_lt_of_le hbl Hb2.out.size
      clear Hb2 hc
      go_wp2_with fail
      have HC2 := Lib.hid hc2
      go_region_held3 (fun w' => w'.cell? ⟨b, o + k, none⟩ = some (.int .i64 x)) (go_keep)
        (first
          | (go_at_call 21; refine (gbox_any x Hx.out _ ((HT.out.to Hb3.out).to ((Below.refl _ _).drew))).mono ?_; rintro e w4 ⟨rfl, hb4⟩; have hb24 := (Below.refl w2.heap.size w2).drew.trans hb4; have f0 := (hb24.cell (p := ⟨b, o + k, none⟩) hbl2).trans HC2.out)
          | (go_at_call 22; refine (rbox_any x Hx.out _).mono ?_; rintro e w5 ⟨rfl, rfl⟩; have hdone := hb24; have f1 := f0))
      have hz3 := Hb3.out.size
      have hz31 := Hb31.out.size
      clear hc2 f0 f1
      go_wp2_with fail
      go_roundw
      case rel => exact ⟨k + 1, by omega, by go_num, Hb3.out.trans (hdone.mono hz3), Hb31.out.trans (hdone.mono hz31)⟩
      case measure => simp [intOf]; omega
    · obtain rfl : k = 2 := by omega
      have Hb := Lib.hid hb
      clear hb hb1
      go_wp2_with fail
      refine (lives_any _ (HT.out.to Hb.out)).mono ?_
      rintro e w3 ⟨rfl, hb3⟩
      have HF := Lib.hid (Hb.out.trans (hb3.mono Hb.out.size))
      clear hb3
      go_wp2_with fail
      go_ret
      exact ⟨rfl, HF.out⟩
end Go.Proofs.YtgnblofjjondpaaDoor
