/- SealRanges returns true for all arguments. -/
import Derived.Test.YtfncpofcgalllaaSealW19
import Derived.Test.YtfncpofcgalllaaSealLaw2
namespace Go.Proofs.Ytfncpofcgalllaa
open Go.RowKit
attribute [local go_sem ↓] Go.wp_at_zero Go.wp_at_succ
set_option maxHeartbeats 1000000 in
theorem within_any (A : Option Addr) (c n : Nat) (l : List Span) (x : Int) (w : World) (hl : Sl w (fun b => b < w.heap.size) A c l) (hn : l.length = n) :
    Calls Try.prog 27 #[.slice A n c, .int .i64 x] w fun r w' => r = .returned (.bool (inSp l x)) ∧ w = w' := by
  subst hn
  have hlen : l.length ≤ 9223372036854775807 := by have := hl.1; have := hl.2.1; unfold maxLen at this; omega
  have hle1 : (l.length : Int) ≤ 9223372036854775807 := by omega
  go_enter Try.func27, Try.ntmps27
  go_wp2_with fail
  go_loopw [5] (fun i wr => ∃ k : Nat, k ≤ l.length ∧ i = .int .i64 k ∧ inSp (l.take k) x = false ∧ wr = w) (fun i _ => l.length - (intOf i).toNat)
  case atStart => exact ⟨0, Nat.zero_le _, rfl, rfl, rfl⟩
  case round =>
    obtain ⟨k, hk, rfl, hi, rfl⟩ := hrel
    have Hi := Lib.hid hi
    clear hi
    by_cases hlt : k < l.length
    · obtain ⟨b, o, rfl, hbS, hbl, hok, c0, c1⟩ := span_at hl hlt
      have hkl : (k : Int) < (l.length : Int) := by omega
      have hk0 : (0 : Int) ≤ (k : Int) := by omega
      have hok1 := hok.1
      have hok2 := hok.2
      have HM := Lib.hid (fun h => inSp_miss (l := l) (x := x) hlt Hi.out h)
      have HH := Lib.hid (inSp_hit (l := l) (x := x) hlt)
      generalize l[k].f = f at *
      generalize l[k].u = u at *
      clear hok hok1 hok2
      go_wp2_with fail
      · go_ret
        exact ⟨ret_bool (HH.out (by assumption) (by assumption)).symm, rfl⟩
      all_goals go_roundw
      all_goals first
        | (exact ⟨k + 1, by omega, by go_num, HM.out (by omega), by first | trivial | rfl⟩)
        | (simp [intOf]; omega)
    · have e : inSp l x = false := by have := Hi.out; rwa [List.take_of_length_le (by omega)] at this
      have E := Lib.hid e
      clear e
      go_wp2_with fail
      go_ret
      exact ⟨ret_bool E.out.symm, rfl⟩
set_option maxRecDepth 100000 in
set_option maxHeartbeats 4000000 in
theorem ranges_any (A : Option Addr) (c : Nat) (l : List Int) (n : Int) (w : World) (hl : Sl w (fun b => b < w.heap.size) A c l) (hn : I64 n) :
    Calls Try.prog 8 #[.slice A l.length c, .int .i64 n] w fun e w' => e = .returned (.bool true) ∧ Below w.heap.size w w' := by
  have hle := seals_le l
  have Hf := Lib.hid (seals_f l)
  have Hg := Lib.hid (seals_g l)
  have ha := aro_lt n 60 (by omega)
  go_enter Try.func8, Try.ntmps8
  go_wp2_with fail
  refine (seals_any A c l w hl).mono ?_
  rintro e w1 ⟨v, rfl, hown, hb⟩
  obtain ⟨A1, c1, rfl, hs⟩ := hown.sl
  generalize hll : seals l = m at *
  have Hs := Lib.hid hs
  have Hb := Lib.hid hb
  have hz1 := hb.size
  clear hs hb hown hll
  go_wp2_with fail
  refine (around_any n 60 w1 hn (by omega) (by omega)).mono ?_
  rintro e w1' ⟨rfl, rfl⟩
  generalize aro n 60 = cnt at *
  have hcnt : I64 cnt := ⟨by omega, by omega⟩
  go_wp2_with fail
  go_loopw [7, 8, 9, 10, 11] (fun a _ _ _ _ wr => ∃ k : Nat, k ≤ 9 ∧ a = .int .i64 k ∧ Below w1.heap.size w1 wr) (fun a _ _ _ _ _ => 9 - (intOf a).toNat)
  case atStart => exact ⟨0, by omega, rfl, Below.refl _ _⟩
  case round =>
    obtain ⟨k, hk, rfl, hb3⟩ := hrel
    have Hb3 := Lib.hid hb3
    have hz3 := hb3.size
    clear hb3
    by_cases hlt : k < 9
    · have hlt2 : (k : Int) < 9 := by omega
      have hk0 : (0 : Int) ≤ (k : Int) := by omega
      go_wp2_with fail
      refine (hidden_c A1 c1 _ m _ _ cnt _ (Hs.out.to Hb3.out) rfl (by omega) hcnt Hf.out).mono ?_
      rintro e w4 ⟨y, h, rfl, hcan, hown, hb4⟩
      obtain ⟨A4, c4, rfl, hs4⟩ := hown.sl
      have hlen : h.length ≤ 9223372036854775807 := by have := hs4.1; have := hs4.2.1; unfold maxLen at this; omega
      have hle1 : (h.length : Int) ≤ 9223372036854775807 := by omega
      have Hcan := Lib.hid hcan
      have Hs4 := Lib.hid hs4
      have Hb14 := Lib.hid (Hb3.out.trans (hb4.mono hz3))
      have Hb4 := Lib.hid hb4
      clear hcan hs4 hown hb4
      go_wp2_with fail
      obtain ⟨wo, hwo⟩ : ∃ wo : World, wo = w4 := ⟨_, rfl⟩
      go_loopw [9, 10] (fun a i wr => ∃ k : Nat, k ≤ h.length ∧ i = .int .i64 k ∧ a = .int .i64 (lastOf h k) ∧ Below w4.heap.size w4 wr) (fun _ i _ => h.length - (intOf i).toNat)
      case atStart => exact ⟨0, by omega, rfl, rfl, Below.refl _ _⟩
      case round =>
        obtain ⟨q, hq, rfl, rfl, hb5⟩ := hrel
        by_cases hqlt : q < h.length
        · obtain ⟨b, o, rfl, hbS, hbl, hok, c0, c1'⟩ := span_at (Hs4.out.to hb5) hqlt
          have hql : (q : Int) < (h.length : Int) := by omega
          have hq0 : (0 : Int) ≤ (q : Int) := by omega
          have g1 := lastOf_lt Hcan.out q hqlt
          have g2 := (Hcan.out.le h[q] (List.getElem_mem hqlt)).2.1
          have g3 := (Hcan.out.le h[q] (List.getElem_mem hqlt)).2.2
          have HL := Lib.hid (lastOf_succ h q hqlt)
          have Hb5 := Lib.hid hb5
          clear hb5 hok
          generalize h[q].f = f at *
          generalize h[q].u = u at *
          generalize lastOf h q = la at *
          go_wp2_with fail
          go_quiet (fail)
          go_wp2_with fail
          go_roundw
          case rel => exact ⟨q + 1, by omega, by go_num, by rw [HL.out], Below.dn Hb5.out _⟩
          case measure => simp [intOf]; omega
        · obtain rfl : q = h.length := by omega
          have Hb5 := Lib.hid hb5
          have h45 := hb5.size
          have h14 := Hb14.out.size
          clear hb5
          go_wp2_with fail
          obtain ⟨wo2, hwo2⟩ : ∃ wo : World, wo = wr := ⟨_, rfl⟩
          go_loopw [11] (fun a wr => ∃ k : Nat, (k : Int) ≤ cnt ∧ a = .int .i64 k ∧ Below w4.heap.size w4 wr) (fun a _ => cnt.toNat - (intOf a).toNat)
          case atStart => exact ⟨0, by omega, rfl, Hb5.out⟩
          case round =>
            obtain ⟨j, hj, rfl, hb6⟩ := hrel
            have Hb6 := Lib.hid hb6
            have h46 := hb6.size
            clear hb6
            by_cases hjlt : (j : Int) < cnt
            · have hj0 : (0 : Int) ≤ (j : Int) := by omega
              go_wp2_with fail
              refine (within_any A4 c4 _ h j _ (Hs4.out.to Hb6.out) rfl).mono ?_
              rintro e w7 ⟨rfl, rfl⟩
              have hin := Hcan.out.inSp j hj0 hjlt
              go_wp2_with fail
              refine (groups_any A1 c1 _ m _ _ j _ ((Hs.out.to Hb14.out).to Hb6.out) rfl (by omega) Hg.out).mono ?_
              rintro e w8 ⟨rfl, hb8⟩
              rw [← gset_cov] at hin
              have Hb68 := Lib.hid (Hb6.out.trans (hb8.mono h46))
              clear hb8
              generalize gset (m.filter _) = G at *
              generalize inSp h j = I at *
              cases I
              · have hG : (G : Int) = 0 := by have := mt hin.2; simp at this; omega
                clear hin
                rw [hG]
                go_wp2_with fail
                go_roundw
                case rel => exact ⟨j + 1, by omega, by go_num, Hb68.out⟩
                case measure => simp [intOf]; omega
              · have hG : (G : Int) ≠ 0 := by have := hin.1 rfl; omega
                have hB : ((G : Int) != 0) = true := bne_iff_ne.2 hG
                clear hin
                go_wp2_with fail
                go_roundw
                case rel => exact ⟨j + 1, by omega, by go_num, Hb68.out⟩
                case measure => simp [intOf]; omega
            · go_wp2_with fail
              go_roundw
              case rel => exact ⟨k + 1, by omega, by go_num, Hb14.out.trans (Hb6.out.mono h14)⟩
              case measure => simp [intOf]; omega
    · obtain rfl : k = 9 := by omega
      go_wp2_with fail
      refine (lives_any _).mono ?_
      rintro e w3 ⟨rfl, hb3⟩
      go_wp2_with fail
      go_ret
      have h4 := Hb.out.trans (Hb3.out.mono hz1)
      exact ⟨rfl, h4.trans (hb3.mono h4.size)⟩
end Go.Proofs.Ytfncpofcgalllaa
