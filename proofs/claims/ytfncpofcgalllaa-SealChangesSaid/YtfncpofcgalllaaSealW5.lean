/- Check of the reference returns the specified error. No condition. -/
import Derived.Test.YtfncpofcgalllaaSealW4
import Derived.Deep.RegionHeld3
import Derived.Deep.DrawnRows
namespace Go.Proofs.Ytfncpofcgalllaa
open Go.RowKit
attribute [local go_sem ↓] Go.wp_at_zero Go.wp_at_succ
set_option maxHeartbeats 1000000 in
theorem rcheck_any (A : Option Addr) (c : Nat) (l : List Seal) (w : World) (hl : Sl w (fun b => b < w.heap.size) A c l) :
    Calls Try.prog 16 #[.slice A l.length c] w fun e w' => e = .returned (.int .i64 (chk l)) ∧ Below w.heap.size w w' := by
  have hlen : l.length ≤ 9223372036854775807 := by have := hl.1; have := hl.2.1; unfold maxLen at this; omega
  have hlc : (l.length : Int) ≤ (c : Int) := by have := hl.1; omega
  by_cases hbig : 1000 < l.length
  · have hfin : chk l = 2 := by unfold chk; rw [if_pos hbig]
    have Hfin := Lib.hid hfin
    clear hfin
    go_enter Try.func16, Try.ntmps16
    go_wp2_with fail
    go_ret
    exact ⟨ret_int Hfin.out.symm, Below.refl _ _⟩
  · have hfin : chk l = chkTo [] l := by unfold chk; rw [if_neg hbig]
    have Hfin := Lib.hid hfin
    clear hfin
    go_enter Try.func16, Try.ntmps16
    go_wp2_with fail
    go_loopw [3] (fun i wr => ∃ k : Nat, k ≤ l.length ∧ i = .int .i64 k ∧ Hid (chk l = chkTo (l.take k) (l.drop k)) ∧ Below w.heap.size w wr) (fun i _ => l.length - (intOf i).toNat)
    case atStart => exact ⟨0, Nat.zero_le _, rfl, Hfin.out, Below.refl _ _⟩
    case round =>
      obtain ⟨k, hk, rfl, hi, hb⟩ := hrel
      by_cases hlt : k < l.length
      · obtain ⟨b, o, rfl, hbS, hbl, hok, c0, c1, c2, c3, c4⟩ := seal_at (hl.to hb) hlt
        have hkl : (k : Int) < (l.length : Int) := by omega
        have hk0 : (0 : Int) ≤ (k : Int) := by omega
        have hat := Lib.hid (chkTo_at l k hlt)
        go_wp2_with fail
        refine (rvalid_any l[k] _).mono ?_
        rintro e w1 ⟨rfl, hb1⟩
        have hbw1 := hb.trans (hb1.mono hb.size)
        obtain ⟨b', o', e', hbS', hbl', hok', d0, d1, d2, d3, d4⟩ := seal_at (hl.to hbw1) hlt
        cases e'
        cases hv : vld l[k]
        · rw [hv] at hat
          have Hv := Lib.hid hv
          clear hv
          go_wp2_with fail
          go_ret
          exact ⟨ret_int (by rw [hi.out, hat.out]; rfl), hbw1⟩
        · rw [hv] at hat
          have Hv := Lib.hid hv
          clear hv
          go_wp2_with fail
          clear c0 c1 c2 c3 c4
          have hkc : (k : Int) ≤ (c : Int) := by omega
          go_region_held3 (fun w' => w'.cell? ⟨b, o + k * 5, none⟩ = some (.int .i64 l[k].e) ∧ w'.cell? ⟨b, o + k * 5 + 1, none⟩ = some (.int .i64 l[k].v) ∧
      w'.cell? ⟨b, o + k * 5 + 2, none⟩ = some (.int .i64 l[k].f) ∧ w'.cell? ⟨b, o + k * 5 + 3, none⟩ = some (.int .i64 l[k].u) ∧ w'.cell? ⟨b, o + k * 5 + 4, none⟩ = some (.int .i64 l[k].g)) (go_keep)
            (first | (go_at_call 32; refine (index_n _ c k (l.take k) l[k] _ ((hl.to hbw1).drew.take k (by omega)) (by rw [List.length_take]; omega) hok').mono ?_; rintro e w2 ⟨rfl, hb2⟩; obtain ⟨b2, o2, e2, _, _, _, f0, f1, f2, f3, f4⟩ := seal_at (hl.to (hbw1.drew.trans (hb2.mono hbw1.size))) hlt; cases e2))
          have hbw2 : Below w.heap.size w w2 := hbw1.drew.trans (hb2.mono hbw1.size)
          by_cases hin : l[k] ∈ l.take k
          · have hq : 0 ≤ idx l[k] (l.take k) 0 := (idx_mem _ _).2 hin
            rw [if_neg (by simp), if_pos hin] at hat
            generalize idx l[k] (l.take k) 0 = q at *
            clear hin
            go_wp2_with fail
            go_ret
            exact ⟨ret_int (by rw [hi.out, hat.out]), hbw2⟩
          · have hq : idx l[k] (l.take k) 0 < 0 := by have := mt (idx_mem l[k] (l.take k)).1 hin; omega
            rw [if_neg (by simp), if_neg hin] at hat
            generalize idx l[k] (l.take k) 0 = q at *
            clear hin
            go_wp2_with fail
            go_roundw
            case rel => exact ⟨k + 1, by omega, by go_num, by rw [hi.out, hat.out]; rfl, hbw2⟩
            case measure => simp [intOf]; omega
      · go_wp2_with fail
        go_ret
        exact ⟨ret_int (by rw [hi.out, List.drop_of_length_le (by omega)]; rfl), hb⟩
end Go.Proofs.Ytfncpofcgalllaa
