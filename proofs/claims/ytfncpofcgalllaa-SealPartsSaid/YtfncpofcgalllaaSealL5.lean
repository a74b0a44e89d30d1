/- SealHides returns true for all arguments. No condition. -/
import Derived.Test.YtfncpofcgalllaaSealW19
import Derived.Test.YtfncpofcgalllaaSealLaw
namespace Go.Proofs.Ytfncpofcgalllaa
open Go.RowKit
attribute [local go_sem ↓] Go.wp_at_zero Go.wp_at_succ
theorem same_n (A B : Option Addr) (c d n m : Nat) (l k : List Span) (w : World) (hl : Sl w (fun b => b < w.heap.size) A c l) (hm : Sl w (fun b => b < w.heap.size) B d k) (hn : l.length = n) (hk : k.length = m) :
    Calls Try.prog 22 #[.slice A n c, .slice B m d] w fun e w' => e = .returned (.bool (decide (l = k))) ∧ Below w.heap.size w w' := by
  subst hn; subst hk; exact same_spans A B c d l k w hl hm
set_option maxRecDepth 100000 in
set_option maxHeartbeats 4000000 in
theorem hides_any (A : Option Addr) (c : Nat) (l : List Int) (n : Int) (w : World) (hl : Sl w (fun b => b < w.heap.size) A c l) (hn : I64 n) :
    Calls Try.prog 5 #[.slice A l.length c, .int .i64 n] w fun e w' => e = .returned (.bool true) ∧ Below w.heap.size w w' := by
  have hle := seals_le l
  have hf := seals_f l
  have hu := seals_u l
  have Hf := Lib.hid hf
  have Hu := Lib.hid hu
  have ha := aro_lt n 40 (by omega)
  clear hf hu
  go_enter Try.func5, Try.ntmps5
  go_wp2_with fail
  refine (seals_any A c l w hl).mono ?_
  rintro e w1 ⟨v, rfl, hown, hb⟩
  obtain ⟨A1, c1, rfl, hs⟩ := hown.sl
  generalize hll : seals l = m at *
  have Hs := Lib.hid hs
  have Hb := Lib.hid hb
  have hz1 := hb.size
  clear hs hb hown hll
  go_wp2_with fail
  refine (around_any n 40 w1 hn (by omega) (by omega)).mono ?_
  rintro e w1' ⟨rfl, rfl⟩
  go_wp2_with fail
  generalize aro n 40 = an at *
  have HN0 : (w1.alloc (.cells #[.int .i64 n, .int .i64 an] 3)).cell? ⟨w1.heap.size, 0, none⟩ = some (.int .i64 n) := by go_simp
  have HN1 : (w1.alloc (.cells #[.int .i64 n, .int .i64 an] 3)).cell? ⟨w1.heap.size, 1, none⟩ = some (.int .i64 an) := by go_simp
  have hz2 : w1.heap.size < (w1.alloc (.cells #[.int .i64 n, .int .i64 an] 3)).heap.size := by simp
  have Hb2 := Lib.hid (Hb.out.alloc hz1 (.cells #[.int .i64 n, .int .i64 an] 3))
  have Hs2 := Lib.hid (Hs.out.alloc (.cells #[.int .i64 n, .int .i64 an] 3))
  have HN : ∀ j : Nat, j < 2 → ∃ num, I64 num ∧ (w1.alloc (.cells #[.int .i64 n, .int .i64 an] 3)).cell? ⟨w1.heap.size, j, none⟩ = some (.int .i64 num) := by
    intro j hj
    rcases (show j = 0 ∨ j = 1 by omega) with rfl | rfl
    · exact ⟨n, hn, HN0⟩
    · exact ⟨an, ⟨by omega, by omega⟩, HN1⟩
  have HN' := Lib.hid HN
  clear HN HN0 HN1
  generalize hw2 : w1.alloc (.cells #[.int .i64 n, .int .i64 an] 3) = w2 at *
  clear hw2
  generalize w1.heap.size = B at *
  go_loopw [7, 8, 9] (fun a _ _ wr => ∃ k : Nat, k ≤ 4 ∧ a = .int .i64 k ∧ Below w2.heap.size w2 wr) (fun a _ _ _ => 4 - (intOf a).toNat)
  case atStart => exact ⟨0, by omega, rfl, Below.refl _ _⟩
  case round =>
    obtain ⟨k, hk, rfl, hb3⟩ := hrel
    have Hb3 := Lib.hid hb3
    clear hb3
    by_cases hlt : k < 4
    · have hlt2 : (k : Int) < 4 := by omega
      go_wp2_with fail
      obtain ⟨wo, hwo⟩ : ∃ wo : World, wo = wr := ⟨_, rfl⟩
      go_loopw [8, 9] (fun a _ wr => ∃ k : Nat, k ≤ 4 ∧ a = .int .i64 k ∧ Below w2.heap.size w2 wr) (fun a _ _ => 4 - (intOf a).toNat)
      case atStart => exact ⟨0, by omega, rfl, Hb3.out⟩
      case round =>
        obtain ⟨q, hq, rfl, hb4⟩ := hrel
        have Hb4 := Lib.hid hb4
        clear hb4
        by_cases hqlt : q < 4
        · have hqlt2 : (q : Int) < 4 := by omega
          go_wp2_with fail
          obtain ⟨wo2, hwo2⟩ : ∃ wo : World, wo = wr := ⟨_, rfl⟩
          go_loopw [9] (fun a wr => ∃ k : Nat, k ≤ 2 ∧ a = .int .i64 k ∧ Below w2.heap.size w2 wr) (fun a _ => 2 - (intOf a).toNat)
          case atStart => exact ⟨0, by omega, rfl, Hb4.out⟩
          case round =>
            obtain ⟨j, hj, rfl, hb5⟩ := hrel
            by_cases hjlt : j < 2
            · have hjlt2 : (j : Int) < 2 := by omega
              obtain ⟨num, hnum, hcell⟩ := HN'.out j hjlt
              have HNc := Lib.hid hcell
              have hcell' := (hb5.cell (p := ⟨B, j, none⟩) hz2).trans hcell
              clear hcell
              have Hb5 := Lib.hid hb5
              have hz5 := hb5.size
              clear hb5
              have e5 : (k : Int) < 4 ∧ (q : Int) < 4 := ⟨hlt2, hqlt2⟩
              have HI : I64 (k : Int) ∧ I64 (q : Int) := ⟨⟨by omega, by omega⟩, ⟨by omega, by omega⟩⟩
              go_wp2_with fail
              go_region_held3 (fun w' => w'.cell? ⟨B, j, none⟩ = some (.int .i64 num)) (go_keep)
                (first
                  | (go_at_call 23; refine (hidden_c A1 c1 _ m k q num _ ((Hs2.out.to Hb5.out).to ((Below.refl _ _).drew)) rfl (by omega) hnum Hf.out).mono ?_; rintro e w3 ⟨y3, out3, rfl, hcan3, hown3, hb3⟩; have f0 := (((Hb5.out.drew).trans (hb3.mono hz5)).cell (p := ⟨B, j, none⟩) hz2).trans HNc.out; obtain ⟨A3, c3, rfl, hs3⟩ := hown3.sl; have Hs3 := Lib.hid hs3; clear hs3 hown3; have Hcan3 := Lib.hid hcan3; clear hcan3)
                  | (go_at_call 24; refine (rhidden_any A1 c1 _ m k q num _ (((Hs2.out.to Hb5.out).to ((Below.refl _ _).drew)).to hb3) rfl (by omega) hnum Hu.out).mono ?_; rintro e w4 ⟨y4, out4, rfl, hcan4, hown4, hb4⟩; have Hb34 := Lib.hid ((Hb5.out.drew.trans (hb3.mono hz5)).trans (hb4.mono (by have := hb3.size; simp at this; omega))); have f0 := ((Hb34.out).cell (p := ⟨B, j, none⟩) hz2).trans HNc.out; obtain ⟨A4, c4, rfl, hs4⟩ := hown4.sl; have Hs4 := Lib.hid hs4; clear hs4 hown4; have Hs34 := Lib.hid (Hs3.out.to hb4); have Hcan4 := Lib.hid hcan4; clear hcan4)
                  | (go_at_call 22; refine (same_n A3 A4 c3 c4 _ _ out3 out4 _ Hs34.out Hs4.out rfl rfl).mono ?_; rintro e w5 ⟨rfl, hb5⟩; have f0 := ((Hb34.out.trans (hb5.mono Hb34.out.size)).cell (p := ⟨B, j, none⟩) hz2).trans HNc.out)
                  )
              rw [Canon.unique Hcan3.out Hcan4.out, decide_eq_true rfl]
              go_wp2_with fail
              go_roundw
              case rel => exact ⟨j + 1, by omega, by go_num, Hb34.out.trans (hb5.mono Hb34.out.size)⟩
              case measure => simp [intOf]; omega
            · obtain rfl : j = 2 := by omega
              go_wp2_with fail
              go_roundw
              case rel => exact ⟨q + 1, by omega, by go_num, hb5⟩
              case measure => simp [intOf]; omega
        · obtain rfl : q = 4 := by omega
          go_wp2_with fail
          go_roundw
          case rel => exact ⟨k + 1, by omega, by go_num, Hb4.out⟩
          case measure => simp [intOf]; omega
    · obtain rfl : k = 4 := by omega
      go_wp2_with fail
      refine (lives_any _).mono ?_
      rintro e w3 ⟨rfl, hb3⟩
      go_wp2_with fail
      go_ret
      have hz3 := Hb3.out.size
      have h4 := Hb2.out.trans (Hb3.out.mono Hb2.out.size)
      exact ⟨rfl, h4.trans (hb3.mono h4.size)⟩
end Go.Proofs.Ytfncpofcgalllaa
