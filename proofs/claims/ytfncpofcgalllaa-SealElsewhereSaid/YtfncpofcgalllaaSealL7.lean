/- SealElsewhere returns true for all arguments. -/
import Derived.Test.YtfncpofcgalllaaSealW19
import Derived.Test.YtfncpofcgalllaaSealLaw4
namespace Go.Proofs.Ytfncpofcgalllaa
open Go.RowKit
attribute [local go_sem ↓] Go.wp_at_zero Go.wp_at_succ
set_option maxRecDepth 100000 in
set_option maxHeartbeats 4000000 in
theorem elsewhere_any (A : Option Addr) (c : Nat) (l : List Int) (n : Int) (w : World) (hl : Sl w (fun b => b < w.heap.size) A c l) (hn : I64 n) :
    Calls Try.prog 7 #[.slice A l.length c, .int .i64 n] w fun e w' => e = .returned (.bool true) ∧ Below w.heap.size w w' := by
  have hle := seals_le l
  have Hm := Lib.hid (seals_small l)
  go_enter Try.func7, Try.ntmps7
  go_wp2_with fail
  refine (seals_any A c l w hl).mono ?_
  rintro e w1 ⟨v, rfl, hown, hb⟩
  obtain ⟨A1, c1, rfl, hs⟩ := hown.sl
  generalize hll : seals l = m at *
  have Hs := Lib.hid hs
  have Hb := Lib.hid hb
  have hz1 := hb.size
  clear hs hb hown hll
  go_wp2_with fail
  have hone : Sl (w1.alloc (.cells #[.int .i64 n] 3)) (fun b => b < (w1.alloc (.cells #[.int .i64 n] 3)).heap.size) (some ⟨w1.heap.size, 0, none⟩) [n].length [n] := by
    refine Sl.block (heap_alloc_new w1 _) (by simp) (by simp [maxLen]) (fun i hi => ?_)
    obtain rfl : i = 0 := by simp at hi; omega
    exact ⟨rfl, hn⟩
  refine (seals_any _ _ [n] _ hone).mono ?_
  rintro e w2 ⟨v, rfl, hown2, hb2⟩
  rw [seals_one] at hown2
  have hsm := mkSeal_small (aro n 10000000)
  generalize mkSeal (aro n 10000000) = s at *
  obtain ⟨A2, c2, rfl, hs2⟩ := hown2.sl
  obtain ⟨b, o, rfl, _, hbl, _, d0, d1, d2, d3, d4⟩ := seal_at hs2 (k := 0) (by simp)
  simp only [List.getElem_cons_zero, Nat.zero_mul, Nat.add_zero] at d0 d1 d2 d3 d4
  have Hb2 := Lib.hid (((Below.refl w1.heap.size w1).alloc (Nat.le_refl _) (.cells #[.int .i64 n] 3)).trans (hb2.mono (by simp)))
  clear hb2 hown2 hs2 hone
  go_wp2_with fail
  have Hbox := Lib.hid (heap_alloc_new w2 (.cells #[.int .i64 s.e, .int .i64 s.v, .int .i64 s.f, .int .i64 s.u, .int .i64 s.g] 41))
  have Hb3 := Lib.hid (Hb2.out.alloc Hb2.out.size (.cells #[.int .i64 s.e, .int .i64 s.v, .int .i64 s.f, .int .i64 s.u, .int .i64 s.g] 41))
  have hzb : w2.heap.size < (w2.alloc (.cells #[.int .i64 s.e, .int .i64 s.v, .int .i64 s.f, .int .i64 s.u, .int .i64 s.g] 41)).heap.size := by simp
  have hsok := hsm.ok
  have hsv := hsm.vld
  clear d0 d1 d2 d3 d4
  generalize hw3 : w2.alloc (.cells #[.int .i64 s.e, .int .i64 s.v, .int .i64 s.f, .int .i64 s.u, .int .i64 s.g] 41) = w3 at *
  clear hw3
  generalize w2.heap.size = X at *
  refine (sadd_any A1 c1 _ m s _ (Hs.out.to Hb3.out) rfl hsok).mono ?_
  rintro e w4 ⟨v4, rfl, hown4, hb4⟩
  have Hb34 := Lib.hid hb4
  have Hb4 := Lib.hid (Hb3.out.trans (hb4.mono Hb3.out.size))
  clear hb4
  by_cases hin : s ∈ m
  · rw [addE_dup hsv hin] at *
    clear hown4 hin
    go_wp2_with fail
    refine (lives_any _).mono ?_
    rintro e w5 ⟨rfl, hb5⟩
    have Hb5 := Lib.hid (Hb.out.trans ((Hb4.out.trans (hb5.mono Hb4.out.size)).mono hz1))
    clear hb5
    go_wp2_with fail
    go_ret
    exact ⟨rfl, Hb5.out⟩
  · rw [addE_new hsv hin (by omega)] at *
    obtain ⟨A4, c4, rfl, hs4⟩ := hown4.sl
    have Hms := Lib.hid (small.fit1 Hm.out hsm)
    have HA := Lib.hid (gset_add m s)
    have hm2 : (m ++ [s]).length ≤ 9 := by simp; omega
    clear hown4 hin
    generalize m ++ [s] = m2 at *
    have Hs4 := Lib.hid hs4
    clear hs4
    go_wp2_with fail
    go_loopw [9, 10, 11, 12, 13] (fun a _ _ _ _ wr => ∃ k : Nat, k ≤ 9 ∧ a = .int .i64 k ∧ Below w4.heap.size w4 wr) (fun a _ _ _ _ _ => 9 - (intOf a).toNat)
    case atStart => exact ⟨0, by omega, rfl, Below.refl _ _⟩
    case round =>
      obtain ⟨k, hk, rfl, hb5⟩ := hrel
      have Hb5 := Lib.hid hb5
      clear hb5
      by_cases hlt : k < 9
      · have hlt2 : (k : Int) < 9 := by omega
        have hk0 : (0 : Int) ≤ (k : Int) := by omega
        go_wp2_with fail
        obtain ⟨wo, hwo⟩ : ∃ wo : World, wo = wr := ⟨_, rfl⟩
        go_loopw [10, 11, 12, 13] (fun a _ _ _ wr => ∃ k : Nat, k ≤ 40 ∧ a = .int .i64 k ∧ Below w4.heap.size w4 wr) (fun a _ _ _ _ => 40 - (intOf a).toNat)
        case atStart => exact ⟨0, by omega, rfl, Hb5.out⟩
        case round =>
          obtain ⟨j, hj, rfl, hb6⟩ := hrel
          have Hb6 := Lib.hid hb6
          have hz6 := hb6.size
          clear hb6
          by_cases hjlt : j < 40
          · have hjlt2 : (j : Int) < 40 := by omega
            have hj0 : (0 : Int) ≤ (j : Int) := by omega
            go_wp2_with fail
            refine (groups_any A1 c1 _ m _ _ j _ ((Hs.out.to Hb4.out).to Hb6.out) rfl (by omega) (small.g Hm.out)).mono ?_
            rintro e w7 ⟨rfl, hb7⟩
            have Hb7 := Lib.hid (Hb6.out.trans (hb7.mono hz6))
            clear hb7
            go_wp2_with fail
            refine (groups_any A4 c4 _ m2 _ _ j _ (Hs4.out.to Hb7.out) rfl (by omega) (small.g Hms.out)).mono ?_
            rintro e w8 ⟨rfl, hb8⟩
            have Hb8 := Lib.hid (Hb7.out.trans (hb8.mono Hb7.out.size))
            clear hb8
            rw [HA.out]
            have hX : X < w3.heap.size := hzb
            obtain ⟨f0, f1, f2, f3, f4⟩ := seal_box (s := s) ((((Hb34.out.trans (Hb8.out.mono Hb34.out.size)).block X hX)).trans Hbox.out)
            have HG := Lib.hid (gset_lt (m.filter (onP ((k : Int) / 3) ((k : Int) % 3) j)) (fun t ht => by have := small.g Hm.out t (List.mem_filter.1 ht).1; omega))
            have hgs : 0 ≤ s.g ∧ s.g < 16 := by simp only [small] at hsm; omega
            by_cases hP : onP ((k : Int) / 3) ((k : Int) % 3) j s = true
            · rw [if_pos hP]
              have hQ := (onP_iff _ _ _ _).1 hP
              have HO := Lib.hid (or_shl (gset (m.filter (onP ((k : Int) / 3) ((k : Int) % 3) j))) s.g HG.out hgs.1 hgs.2)
              have B1 : (((k : Int) / 3) == s.e) = true := beq_iff_eq.2 hQ.1.symm
              have B2 : (((k : Int) % 3) == s.v) = true := beq_iff_eq.2 hQ.2.1.symm
              have Q3 := hQ.2.2.1
              have Q4 := hQ.2.2.2
              obtain ⟨hg0, hg1⟩ := hgs
              clear hP hQ
              unfold gOr
              generalize gset (m.filter _) = G at *
              have HB : (((G ||| 2 ^ s.g.toNat : Nat) : Int) != bits .or .i64 (G : Int) (wrap64 (2 ^ s.g.toNat))) = false := by rw [HO.out]; simp
              go_wp2_with fail
              all_goals
                go_roundw
                case rel => exact ⟨j + 1, by omega, by go_num, Hb8.out⟩
                case measure => simp [intOf]; omega
            · rw [if_neg hP]
              have hQ := mt (onP_iff ((k : Int) / 3) ((k : Int) % 3) j s).2 hP
              clear hP
              generalize gset (m.filter _) = G at *
              go_wp2_with fail
              all_goals
                go_roundw
                case rel => exact ⟨j + 1, by omega, by go_num, Hb8.out⟩
                case measure => simp [intOf]; omega
          · obtain rfl : j = 40 := by omega
            go_wp2_with fail
            go_roundw
            case rel => exact ⟨k + 1, by omega, by go_num, Hb6.out⟩
            case measure => simp [intOf]; omega
      · obtain rfl : k = 9 := by omega
        go_wp2_with fail
        refine (lives_any _).mono ?_
        rintro e w6 ⟨rfl, hb6⟩
        have Hb6 := Lib.hid (Hb.out.trans ((Hb4.out.trans ((Hb5.out.trans (hb6.mono Hb5.out.size)).mono Hb4.out.size)).mono hz1))
        clear hb6
        go_wp2_with fail
        go_ret
        exact ⟨rfl, Hb6.out⟩
end Go.Proofs.Ytfncpofcgalllaa
