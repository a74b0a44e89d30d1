/- SealRemoves returns true for all arguments. -/
import Derived.Test.YtfncpofcgalllaaSealW19
import Derived.Test.YtfncpofcgalllaaSealLaw5
namespace Go.Proofs.Ytfncpofcgalllaa
open Go.RowKit
attribute [local go_sem ↓] Go.wp_at_zero Go.wp_at_succ
set_option maxRecDepth 100000 in
set_option maxHeartbeats 4000000 in
theorem removes_any (A : Option Addr) (c : Nat) (l : List Int) (B : Option Addr) (d : Nat) (fu : List Int) (n1 n2 : Int) (w : World) (hl : Sl w (fun b => b < w.heap.size) A c l) (hfu : Sl w (fun b => b < w.heap.size) B d fu) (hn1 : I64 n1) (hn2 : I64 n2) :
    Calls Try.prog 11 #[.slice A l.length c, .slice B fu.length d, .int .i64 n1, .int .i64 n2] w fun e w' => e = .returned (.bool true) ∧ Below w.heap.size w w' := by
  have hle := seals_le l
  have hlf := seals_le fu
  have Hm := Lib.hid (seals_small l)
  have Hf := Lib.hid (seals_small fu)
  have Hfu := Lib.hid hfu
  clear hfu
  go_enter Try.func11, Try.ntmps11
  go_wp2_with fail
  refine (seals_any A c l w hl).mono ?_
  rintro e w1 ⟨v, rfl, hown, hb⟩
  obtain ⟨A1, c1, rfl, hs⟩ := hown.sl
  generalize hll : seals l = m at *
  have Hs := Lib.hid hs
  have Hb := Lib.hid hb
  have hz1 := hb.size
  clear hs hb hown hll
  go_wp2_with fail
  refine (seals_any B d fu w1 (Hfu.out.to Hb.out)).mono ?_
  rintro e w2 ⟨v, rfl, hown, hb⟩
  obtain ⟨A2, c2, rfl, hs⟩ := hown.sl
  generalize hll : seals fu = al at *
  have Hs2 := Lib.hid hs
  have Hs1 := Lib.hid (Hs.out.to hb)
  have Hb2 := Lib.hid (Hb.out.trans (hb.mono hz1))
  have hz2 := hb.size
  clear hs hb hown hll Hs Hb
  go_wp2_with fail
  go_loopw [10, 12, 13, 14, 15, 16] (fun b i _ _ _ _ wr => ∃ k : Nat, k ≤ al.length ∧ i = .int .i64 k ∧ (∃ A3 c3, ∃ m3 : List Seal, b = .slice A3 m3.length c3 ∧ Sl wr (fun b => b < wr.heap.size) A3 c3 m3 ∧ (∀ s ∈ m3, small s) ∧ (∀ s ∈ m, s ∈ m3) ∧ m3.length ≤ 8 + k) ∧ Below w2.heap.size w2 wr) (fun _ i _ _ _ _ _ => al.length - (intOf i).toNat)
  case atStart => exact ⟨0, Nat.zero_le _, rfl, ⟨A1, c1, m, rfl, Hs1.out, Hm.out, fun s h => h, by omega⟩, Below.refl _ _⟩
  case round =>
    obtain ⟨k, hk, rfl, ⟨A3, c3, m3, rfl, hs3, hsm3, hsub, hle3⟩, hb3⟩ := hrel
    have Hs3 := Lib.hid hs3
    have Hsm3 := Lib.hid hsm3
    have Hsub := Lib.hid hsub
    have Hb3 := Lib.hid hb3
    have hz3 := hb3.size
    clear hs3 hsm3 hsub hb3
    by_cases hlt : k < al.length
    · have hkl : (k : Int) < (al.length : Int) := by omega
      have hk0 : (0 : Int) ≤ (k : Int) := by omega
      obtain ⟨b, o, rfl, hbS, hbl, hok, d0, d1, d2, d3, d4⟩ := seal_at (Hs2.out.to Hb3.out) hlt
      have hsm := Hf.out al[k] (List.getElem_mem hlt)
      generalize al[k] = s at *
      have hsok := hsm.ok
      have hsv := hsm.vld
      go_wp2_with fail
      refine (sadd_any A3 c3 _ m3 s _ Hs3.out rfl hsok).mono ?_
      rintro e w4 ⟨v4, rfl, hown4, hb4⟩
      have Hb34 := Lib.hid hb4
      have Hb4 := Lib.hid (Hb3.out.trans (hb4.mono hz3))
      have e0 := (hb4.cell (p := ⟨b, o + k * 5, none⟩) hbl).trans d0
      have e1 := (hb4.cell (p := ⟨b, o + k * 5 + 1, none⟩) hbl).trans d1
      have e2 := (hb4.cell (p := ⟨b, o + k * 5 + 2, none⟩) hbl).trans d2
      have e3 := (hb4.cell (p := ⟨b, o + k * 5 + 3, none⟩) hbl).trans d3
      have e4 := (hb4.cell (p := ⟨b, o + k * 5 + 4, none⟩) hbl).trans d4
      clear hb4 d0 d1 d2 d3 d4
      by_cases hin : s ∈ m3
      · rw [addE_dup hsv hin] at *
        clear hown4 hin e0 e1 e2 e3 e4
        go_wp2_with fail
        go_roundw
        case rel => exact ⟨k + 1, by omega, by go_num, ⟨A3, c3, m3, rfl, Hs3.out.to Hb34.out, Hsm3.out, Hsub.out, by omega⟩, Hb4.out⟩
        case measure => simp [intOf]; omega
      · rw [addE_new hsv hin (by omega)] at *
        have HL := Lib.hid (sliftE_add hin)
        obtain ⟨A4, c4, rfl, hs4⟩ := hown4.sl
        have Hms := Lib.hid (small.fit1 Hsm3.out hsm)
        have Hsub4 := Lib.hid (fun x hx => List.mem_append_left [s] (Hsub.out x hx))
        have hm4 : (m3 ++ [s]).length ≤ 8 + (k + 1) := by simp; omega
        clear hown4 hin
        generalize m3 ++ [s] = m4 at *
        have Hs4 := Lib.hid hs4
        clear hs4
        go_wp2_with fail
        refine (slift_any A4 c4 _ m4 s _ Hs4.out rfl (by omega)).mono ?_
        rintro e w5 ⟨v5, rfl, hown5, hb5⟩
        rw [HL.out] at *
        obtain ⟨A5, c5, rfl, hs5⟩ := hown5.sl
        have Hs5 := Lib.hid hs5
        have Hs35 := Lib.hid ((Hs3.out.to Hb34.out).to hb5)
        have Hs45 := Lib.hid (Hs4.out.to hb5)
        have Hb5 := Lib.hid (Hb4.out.trans (hb5.mono Hb4.out.size))
        clear hown5 hs5 hb5 e0 e1 e2 e3 e4
        go_wp2_with fail
        refine (same_seals A5 A3 c5 c3 m3 m3 _ Hs5.out Hs35.out).mono ?_
        rintro e w6 ⟨rfl, hb6⟩
        rw [decide_eq_true rfl]
        have Hs46 := Lib.hid (Hs45.out.to hb6)
        have Hb6 := Lib.hid (Hb5.out.trans (hb6.mono Hb5.out.size))
        clear hb6
        go_wp2_with fail
        go_roundw
        case rel => exact ⟨k + 1, by omega, by go_num, ⟨A4, c4, m4, rfl, Hs46.out, Hms.out, Hsub4.out, by omega⟩, Hb6.out⟩
        case measure => simp [intOf]; omega
    · obtain rfl : k = al.length := by omega
      have hf1 := aro_lt n1 16 (by omega)
      have hf2 := aro_lt n2 16 (by omega)
      go_wp2_with fail
      refine (around_any n1 16 wr hn1 (by omega) (by omega)).mono ?_
      rintro e w4 ⟨rfl, rfl⟩
      obtain ⟨f1, e1⟩ := Int.eq_ofNat_of_zero_le hf1.1
      have HE1 := Lib.hid e1
      rw [e1] at hf1
      rw [e1]
      clear e1
      obtain ⟨f2, e2⟩ := Int.eq_ofNat_of_zero_le hf2.1
      have HE2 := Lib.hid e2
      rw [e2] at hf2
      clear e2
      go_wp2_with fail
      refine (around_any n2 16 wr hn2 (by omega) (by omega)).mono ?_
      rintro e w4 ⟨rfl, rfl⟩
      rw [HE2.out]
      have HO : bits .or .i64 (f1 : Int) (f2 : Int) = ((f1 ||| f2 : Nat) : Int) := i64_or_nat f1 f2 (by omega) (by omega)
      have HM := Lib.hid (fun G => may_more (G := G) (few := f1) (y := f2))
      generalize ((f1 ||| f2 : Nat) : Int) = mo at *
      clear hf1 hf2 HE1 HE2
      go_wp2_with fail
      clear HO
      obtain ⟨wo, rfl⟩ : ∃ wo : World, wo = wr := ⟨_, rfl⟩
      go_loopw [19, 20, 21] (fun a _ _ wr' => ∃ k : Nat, k ≤ 9 ∧ a = .int .i64 k ∧ Below wo.heap.size wo wr') (fun a _ _ _ => 9 - (intOf a).toNat)
      case atStart => exact ⟨0, by omega, rfl, Below.refl _ _⟩
      case round =>
        obtain ⟨i, hi, rfl, hb5⟩ := hrel
        have Hb5 := Lib.hid hb5
        clear hb5
        by_cases hlt : i < 9
        · have hlt2 : (i : Int) < 9 := by omega
          have hk0 : (0 : Int) ≤ (i : Int) := by omega
          go_wp2_with fail
          obtain ⟨wi, hwi⟩ : ∃ wi : World, wi = wr := ⟨_, rfl⟩
          go_loopw [20, 21] (fun a _ wr' => ∃ k : Nat, k ≤ 40 ∧ a = .int .i64 k ∧ Below wo.heap.size wo wr') (fun a _ _ => 40 - (intOf a).toNat)
          case atStart => exact ⟨0, by omega, rfl, Hb5.out⟩
          case round =>
            obtain ⟨j, hj, rfl, hb6⟩ := hrel
            have Hb6 := Lib.hid hb6
            clear hb6
            by_cases hjlt : j < 40
            · have hjlt2 : (j : Int) < 40 := by omega
              have hj0 : (0 : Int) ≤ (j : Int) := by omega
              go_wp2_with fail
              refine (may_any A3 c3 _ m3 _ _ _ j _ (Hs3.out.to Hb6.out) rfl (by omega) (small.g Hsm3.out)).mono ?_
              rintro e w7 ⟨rfl, hb7⟩
              have Hb7 := Lib.hid (Hb6.out.trans (hb7.mono Hb6.out.size))
              clear hb7
              have HS := Lib.hid (fun h => may_sub (x := (f1 : Int)) (gset_sub Hsub.out (onP ((i : Int) / 3) ((i : Int) % 3) j)) h)
              have HM2 := Lib.hid (HM.out (gset (m3.filter (onP ((i : Int) / 3) ((i : Int) % 3) j))))
              cases hmy : may (gset (m3.filter (onP ((i : Int) / 3) ((i : Int) % 3) j))) (f1 : Int)
              · clear hmy HS HM2
                go_wp2_with fail
                go_roundw
                case rel => exact ⟨j + 1, by omega, by go_num, Hb7.out⟩
                case measure => simp [intOf]; omega
              · have HS1 := Lib.hid (HS.out hmy)
                have HM1 := Lib.hid (HM2.out hmy)
                clear hmy HS HM2
                go_wp2_with fail
                refine (may_any A1 c1 _ m _ _ _ j _ ((Hs1.out.to Hb3.out).to Hb7.out) rfl (by omega) (small.g Hm.out)).mono ?_
                rintro e w8 ⟨rfl, hb8⟩
                rw [HS1.out]
                have Hb8 := Lib.hid (Hb7.out.trans (hb8.mono Hb7.out.size))
                clear hb8
                go_wp2_with fail
                refine (may_any A3 c3 _ m3 _ _ _ j _ (Hs3.out.to Hb8.out) rfl (by omega) (small.g Hsm3.out)).mono ?_
                rintro e w9 ⟨rfl, hb9⟩
                rw [HM1.out]
                have Hb9 := Lib.hid (Hb8.out.trans (hb9.mono Hb8.out.size))
                clear hb9
                go_wp2_with fail
                go_roundw
                case rel => exact ⟨j + 1, by omega, by go_num, Hb9.out⟩
                case measure => simp [intOf]; omega
            · obtain rfl : j = 40 := by omega
              go_wp2_with fail
              go_roundw
              case rel => exact ⟨i + 1, by omega, by go_num, Hb6.out⟩
              case measure => simp [intOf]; omega
        · obtain rfl : i = 9 := by omega
          go_wp2_with fail
          refine (lives_any _).mono ?_
          rintro e w6 ⟨rfl, hb6⟩
          have Hb6 := Lib.hid (Hb2.out.trans ((Hb3.out.trans ((Hb5.out.trans (hb6.mono Hb5.out.size)).mono Hb3.out.size)).mono Hb2.out.size))
          clear hb6
          go_wp2_with fail
          go_ret
          exact ⟨rfl, Hb6.out⟩
end Go.Proofs.Ytfncpofcgalllaa
