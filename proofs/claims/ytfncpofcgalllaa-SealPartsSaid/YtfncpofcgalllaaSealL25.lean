/- equal returns true for lists that are alike. -/
import Derived.Test.YtfncpofcgalllaaSealL5
import Derived.Test.YtfncpofcgalllaaSealLaw3
namespace Go.Proofs.Ytfncpofcgalllaa
open Go.RowKit
attribute [local go_sem ↓] Go.wp_at_zero Go.wp_at_succ
/-- A list of seals that the program's functions take. -/
def fit (l : List Seal) : Prop := l.length ≤ 12 ∧ (∀ s ∈ l, 0 ≤ s.g ∧ s.g < 16) ∧ ∀ s ∈ l, 0 ≤ s.f ∧ s.f < s.u
set_option maxRecDepth 100000 in
set_option maxHeartbeats 4000000 in
theorem equal_any (A B : Option Addr) (c d n m : Nat) (a b : List Seal) (w : World) (ha : Sl w (fun b => b < w.heap.size) A c a) (hb : Sl w (fun b => b < w.heap.size) B d b) (hn : a.length = n) (hm : b.length = m)
    (fa : fit a) (fb : fit b) (hal : alike a b) :
    Calls Try.prog 25 #[.slice A n c, .slice B m d] w fun e w' => e = .returned (.bool true) ∧ Below w.heap.size w w' := by
  have Ha := Lib.hid ha
  have Hb := Lib.hid hb
  have Hfa := Lib.hid fa
  have Hfb := Lib.hid fb
  have Hal := Lib.hid hal
  have hle1 := fa.1
  have hle2 := fb.1
  clear ha hb fa fb hal
  go_enter Try.func25, Try.ntmps25
  go_wp2_with fail
  go_loopw [5, 6] (fun i _ wr => ∃ k : Nat, k ≤ 16 ∧ i = .int .i64 k ∧ Below w.heap.size w wr) (fun i _ _ => 16 - (intOf i).toNat)
  case atStart => exact ⟨0, by omega, rfl, Below.refl _ _⟩
  case round =>
    obtain ⟨k, hk, rfl, hb3⟩ := hrel
    have Hb3 := Lib.hid hb3
    have hz3 := hb3.size
    clear hb3
    by_cases hlt : k < 16
    · have hlt2 : (k : Int) < 16 := by omega
      have hk0 : (0 : Int) ≤ (k : Int) := by omega
      go_wp2_with fail
      refine (hidden_c A c n a _ _ 40 _ (Ha.out.to Hb3.out) hn (by omega) ⟨by decide, by decide⟩ Hfa.out.2.2).mono ?_
      rintro e w4 ⟨y, h, rfl, hcan, hown, hb4⟩
      obtain ⟨A4, c4, rfl, hs4⟩ := hown.sl
      have Hcan := Lib.hid hcan
      have Hs4 := Lib.hid hs4
      have Hb4 := Lib.hid (Hb3.out.trans (hb4.mono hz3))
      clear hcan hs4 hown hb4
      go_wp2_with fail
      refine (hidden_c B d m b _ _ 40 _ (Hb.out.to Hb4.out) hm (by omega) ⟨by decide, by decide⟩ Hfb.out.2.2).mono ?_
      rintro e w5 ⟨y, h5, rfl, hcan, hown, hb5⟩
      obtain ⟨A5, c5, rfl, hs5⟩ := hown.sl
      have heq : h = h5 := Canon.unique Hcan.out (hcan.congr fun x _ _ => (alike_cov Hal.out _ _ x).symm)
      subst heq
      have Hs5 := Lib.hid hs5
      have Hs45 := Lib.hid (Hs4.out.to hb5)
      have Hb5 := Lib.hid (Hb4.out.trans (hb5.mono Hb4.out.size))
      clear hcan hs5 hown hb5 Hs4
      go_wp2_with fail
      refine (same_n A4 A5 c4 c5 _ _ h h _ Hs45.out Hs5.out rfl rfl).mono ?_
      rintro e w6 ⟨rfl, hb6⟩
      have Hb6 := Lib.hid (Hb5.out.trans (hb6.mono Hb5.out.size))
      clear hb6
      rw [decide_eq_true rfl]
      go_wp2_with fail
      obtain ⟨wo, hwo⟩ : ∃ wo : World, wo = w6 := ⟨_, rfl⟩
      go_loopw [6] (fun i wr => ∃ k : Nat, k ≤ 40 ∧ i = .int .i64 k ∧ Below w.heap.size w wr) (fun i _ => 40 - (intOf i).toNat)
      case atStart => exact ⟨0, by omega, rfl, Hb6.out⟩
      case round =>
        obtain ⟨j, hj, rfl, hb7⟩ := hrel
        have Hb7 := Lib.hid hb7
        have hz7 := hb7.size
        clear hb7
        by_cases hjlt : j < 40
        · have hjlt2 : (j : Int) < 40 := by omega
          have hj0 : (0 : Int) ≤ (j : Int) := by omega
          go_wp2_with fail
          refine (groups_any A c n a _ _ j _ (Ha.out.to Hb7.out) hn (by omega) Hfa.out.2.1).mono ?_
          rintro e w8 ⟨rfl, hb8⟩
          have Hb8 := Lib.hid (Hb7.out.trans (hb8.mono hz7))
          clear hb8
          rw [Hal.out]
          go_wp2_with fail
          refine (groups_any B d m b _ _ j _ (Hb.out.to Hb8.out) hm (by omega) Hfb.out.2.1).mono ?_
          rintro e w9 ⟨rfl, hb9⟩
          have Hb9 := Lib.hid (Hb8.out.trans (hb9.mono Hb8.out.size))
          clear hb9
          generalize gset (b.filter _) = G at *
          go_wp2_with fail
          go_roundw
          case rel => exact ⟨j + 1, by omega, by go_num, Hb9.out⟩
          case measure => simp [intOf]; omega
        · obtain rfl : j = 40 := by omega
          go_wp2_with fail
          go_roundw
          case rel => exact ⟨k + 1, by omega, by go_num, Hb7.out⟩
          case measure => simp [intOf]; omega
    · obtain rfl : k = 16 := by omega
      go_wp2_with fail
      go_ret
      exact ⟨rfl, Hb3.out⟩
end Go.Proofs.Ytfncpofcgalllaa
