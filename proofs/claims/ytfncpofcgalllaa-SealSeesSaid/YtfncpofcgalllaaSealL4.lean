/- SealSees returns true for all arguments. -/
import Derived.Test.YtfncpofcgalllaaSealW19
import Derived.Test.YtfncpofcgalllaaSealLaw
namespace Go.Proofs.Ytfncpofcgalllaa
open Go.RowKit
attribute [local go_sem ↓] Go.wp_at_zero Go.wp_at_succ
theorem groups_r (A : Option Addr) (c n : Nat) (l : List Seal) (e v x : Int) (w : World) (hl : Sl w (fun b => b < w.heap.size) A c l) (hn : l.length = n) (hsz : n ≤ 1048576) (hg : ∀ s ∈ l, 0 ≤ s.g ∧ s.g < 16) :
    Calls Try.prog 18 #[.slice A n c, .int .i64 e, .int .i64 v, .int .i64 x] w fun r w' => r = .returned (.int .i64 ((rgTo l e v x 16 : Nat) : Int)) ∧ Below w.heap.size w w' := by
  rw [← gset_rgTo l e v x hg]; exact groups_any A c n l e v x w hl hn hsz hg
theorem may_r (A : Option Addr) (c n : Nat) (l : List Seal) (gs e v x : Int) (w : World) (hl : Sl w (fun b => b < w.heap.size) A c l) (hn : l.length = n) (hsz : n ≤ 1048576) (hg : ∀ s ∈ l, 0 ≤ s.g ∧ s.g < 16) :
    Calls Try.prog 20 #[.slice A n c, .int .i64 gs, .int .i64 e, .int .i64 v, .int .i64 x] w fun r w' => r = .returned (.bool (may (rgTo l e v x 16) gs)) ∧ Below w.heap.size w w' := by
  rw [← gset_rgTo l e v x hg]; exact may_any A c n l gs e v x w hl hn hsz hg
set_option maxRecDepth 100000 in
set_option maxHeartbeats 4000000 in
theorem sees_any (A : Option Addr) (c : Nat) (l : List Int) (gs en ve wo : Int) (w : World) (hl : Sl w (fun b => b < w.heap.size) A c l) (hgs : I64 gs) (hen : I64 en) (hve : I64 ve) (hwo : I64 wo) :
    Calls Try.prog 4 #[.slice A l.length c, .int .i64 gs, .int .i64 en, .int .i64 ve, .int .i64 wo] w fun e w' => e = .returned (.bool true) ∧ Below w.heap.size w w' := by
  have hle := seals_le l
  have hg := seals_g l
  have Hg := Lib.hid hg
  have ha1 := aro_lt en 4 (by omega)
  have ha2 := aro_lt ve 4 (by omega)
  have ha3 := aro_lt wo 40 (by omega)
  have ha4 := aro_lt gs 16 (by omega)
  clear hg
  go_enter Try.func4, Try.ntmps4
  go_wp2_with fail
  refine (seals_any A c l w hl).mono ?_
  rintro e w1 ⟨v, rfl, hown, hb⟩
  obtain ⟨A1, c1, rfl, hs⟩ := hown.sl
  generalize hll : seals l = m at *
  have Hs := Lib.hid hs
  have Hb := Lib.hid hb
  have hz1 := hb.size
  clear hs hb hown hll
  go_wp2_with fail
  refine (around_any en 4 w1 hen (by omega) (by omega)).mono ?_
  rintro e w1' ⟨rfl, rfl⟩
  go_wp2_with fail
  refine (around_any ve 4 w1 hve (by omega) (by omega)).mono ?_
  rintro e w1' ⟨rfl, rfl⟩
  go_wp2_with fail
  refine (around_any wo 40 w1 hwo (by omega) (by omega)).mono ?_
  rintro e w1' ⟨rfl, rfl⟩
  go_wp2_with fail
  refine (around_any gs 16 _ hgs (by omega) (by omega)).mono ?_
  rintro e w1' ⟨rfl, rfl⟩
  generalize aro en 4 = a1 at *
  generalize aro ve 4 = a2 at *
  generalize aro wo 40 = a3 at *
  generalize aro gs 16 = a4 at *
  go_wp2_with fail
  have HN0 : ((w1.alloc (.cells #[.int .i64 en, .int .i64 ve, .int .i64 wo, .int .i64 a1, .int .i64 a2, .int .i64 (a3 - 2)] 31)).alloc (.cells #[.int .i64 gs, .int .i64 a4] 3)).cell? ⟨w1.heap.size, 0, none⟩ = some (.int .i64 en) := by go_simp
  have HN1 : ((w1.alloc (.cells #[.int .i64 en, .int .i64 ve, .int .i64 wo, .int .i64 a1, .int .i64 a2, .int .i64 (a3 - 2)] 31)).alloc (.cells #[.int .i64 gs, .int .i64 a4] 3)).cell? ⟨w1.heap.size, 1, none⟩ = some (.int .i64 ve) := by go_simp
  have HN2 : ((w1.alloc (.cells #[.int .i64 en, .int .i64 ve, .int .i64 wo, .int .i64 a1, .int .i64 a2, .int .i64 (a3 - 2)] 31)).alloc (.cells #[.int .i64 gs, .int .i64 a4] 3)).cell? ⟨w1.heap.size, 2, none⟩ = some (.int .i64 wo) := by go_simp
  have HN3 : ((w1.alloc (.cells #[.int .i64 en, .int .i64 ve, .int .i64 wo, .int .i64 a1, .int .i64 a2, .int .i64 (a3 - 2)] 31)).alloc (.cells #[.int .i64 gs, .int .i64 a4] 3)).cell? ⟨w1.heap.size, 3, none⟩ = some (.int .i64 a1) := by go_simp
  have HN4 : ((w1.alloc (.cells #[.int .i64 en, .int .i64 ve, .int .i64 wo, .int .i64 a1, .int .i64 a2, .int .i64 (a3 - 2)] 31)).alloc (.cells #[.int .i64 gs, .int .i64 a4] 3)).cell? ⟨w1.heap.size, 4, none⟩ = some (.int .i64 a2) := by go_simp
  have HN5 : ((w1.alloc (.cells #[.int .i64 en, .int .i64 ve, .int .i64 wo, .int .i64 a1, .int .i64 a2, .int .i64 (a3 - 2)] 31)).alloc (.cells #[.int .i64 gs, .int .i64 a4] 3)).cell? ⟨w1.heap.size, 5, none⟩ = some (.int .i64 (a3 - 2)) := by go_simp
  have HM0 : ((w1.alloc (.cells #[.int .i64 en, .int .i64 ve, .int .i64 wo, .int .i64 a1, .int .i64 a2, .int .i64 (a3 - 2)] 31)).alloc (.cells #[.int .i64 gs, .int .i64 a4] 3)).cell? ⟨w1.heap.size + 1, 0, none⟩ = some (.int .i64 gs) := by go_simp
  have HM1 : ((w1.alloc (.cells #[.int .i64 en, .int .i64 ve, .int .i64 wo, .int .i64 a1, .int .i64 a2, .int .i64 (a3 - 2)] 31)).alloc (.cells #[.int .i64 gs, .int .i64 a4] 3)).cell? ⟨w1.heap.size + 1, 1, none⟩ = some (.int .i64 a4) := by go_simp
  have hz2 : w1.heap.size + 1 < ((w1.alloc (.cells #[.int .i64 en, .int .i64 ve, .int .i64 wo, .int .i64 a1, .int .i64 a2, .int .i64 (a3 - 2)] 31)).alloc (.cells #[.int .i64 gs, .int .i64 a4] 3)).heap.size := by simp
  have Hb2 := Lib.hid ((Hb.out.alloc hz1 (.cells #[.int .i64 en, .int .i64 ve, .int .i64 wo, .int .i64 a1, .int .i64 a2, .int .i64 (a3 - 2)] 31)).alloc (by simp; omega) (.cells #[.int .i64 gs, .int .i64 a4] 3))
  have Hs2 := Lib.hid ((Hs.out.alloc (.cells #[.int .i64 en, .int .i64 ve, .int .i64 wo, .int .i64 a1, .int .i64 a2, .int .i64 (a3 - 2)] 31)).alloc (.cells #[.int .i64 gs, .int .i64 a4] 3))
  have HN : ∀ i : Nat, i < 2 → ∃ e1 v1 x1, ((w1.alloc (.cells #[.int .i64 en, .int .i64 ve, .int .i64 wo, .int .i64 a1, .int .i64 a2, .int .i64 (a3 - 2)] 31)).alloc (.cells #[.int .i64 gs, .int .i64 a4] 3)).cell? ⟨w1.heap.size, i * 3, none⟩ = some (.int .i64 e1) ∧ ((w1.alloc (.cells #[.int .i64 en, .int .i64 ve, .int .i64 wo, .int .i64 a1, .int .i64 a2, .int .i64 (a3 - 2)] 31)).alloc (.cells #[.int .i64 gs, .int .i64 a4] 3)).cell? ⟨w1.heap.size, i * 3 + 1, none⟩ = some (.int .i64 v1) ∧ ((w1.alloc (.cells #[.int .i64 en, .int .i64 ve, .int .i64 wo, .int .i64 a1, .int .i64 a2, .int .i64 (a3 - 2)] 31)).alloc (.cells #[.int .i64 gs, .int .i64 a4] 3)).cell? ⟨w1.heap.size, i * 3 + 2, none⟩ = some (.int .i64 x1) := by
    intro i hi
    rcases (show i = 0 ∨ i = 1 by omega) with rfl | rfl
    · exact ⟨_, _, _, HN0, HN1, HN2⟩
    · exact ⟨_, _, _, HN3, HN4, HN5⟩
  have HM : ∀ i : Nat, i < 2 → ∃ g1, ((w1.alloc (.cells #[.int .i64 en, .int .i64 ve, .int .i64 wo, .int .i64 a1, .int .i64 a2, .int .i64 (a3 - 2)] 31)).alloc (.cells #[.int .i64 gs, .int .i64 a4] 3)).cell? ⟨w1.heap.size + 1, i, none⟩ = some (.int .i64 g1) := by
    intro i hi
    rcases (show i = 0 ∨ i = 1 by omega) with rfl | rfl
    · exact ⟨_, HM0⟩
    · exact ⟨_, HM1⟩
  have HN' := Lib.hid HN
  have HM' := Lib.hid HM
  clear HN HM HN0 HN1 HN2 HN3 HN4 HN5 HM0 HM1
  generalize hw2 : ((w1.alloc (.cells #[.int .i64 en, .int .i64 ve, .int .i64 wo, .int .i64 a1, .int .i64 a2, .int .i64 (a3 - 2)] 31)).alloc (.cells #[.int .i64 gs, .int .i64 a4] 3)) = w2 at *
  clear hw2
  generalize w1.heap.size = B at *
  go_loopw [14, 15, 16] (fun a _ _ wr => ∃ k : Nat, k ≤ 2 ∧ a = .int .i64 k ∧ Below w2.heap.size w2 wr) (fun a _ _ _ => 2 - (intOf a).toNat)
  case atStart => exact ⟨0, by omega, rfl, Below.refl _ _⟩
  case round =>
    obtain ⟨k, hk, rfl, hb3⟩ := hrel
    by_cases hlt : k < 2
    · have hlt2 : (k : Int) < 2 := by omega
      have hk0 : (0 : Int) ≤ (k : Int) := by omega
      obtain ⟨e1, v1, x1, c0, c1', c2⟩ := HN'.out k hlt
      have d0 := (hb3.cell (p := ⟨B, k * 3, none⟩) (by simp only; omega)).trans c0
      have d1 := (hb3.cell (p := ⟨B, k * 3 + 1, none⟩) (by simp only; omega)).trans c1'
      have d2 := (hb3.cell (p := ⟨B, k * 3 + 2, none⟩) (by simp only; omega)).trans c2
      have Hb3 := Lib.hid hb3
      have hz3 := hb3.size
      clear hb3 c0 c1' c2
      go_wp2_with fail
      have P0 : (wr.alloc (.cells #[.int .i64 e1, .int .i64 v1, .int .i64 x1] 31)).cell? ⟨wr.heap.size, 0, none⟩ = some (.int .i64 e1) := by go_simp
      have P1 : (wr.alloc (.cells #[.int .i64 e1, .int .i64 v1, .int .i64 x1] 31)).cell? ⟨wr.heap.size, 1, none⟩ = some (.int .i64 v1) := by go_simp
      have P2 : (wr.alloc (.cells #[.int .i64 e1, .int .i64 v1, .int .i64 x1] 31)).cell? ⟨wr.heap.size, 2, none⟩ = some (.int .i64 x1) := by go_simp
      have hzp : wr.heap.size < (wr.alloc (.cells #[.int .i64 e1, .int .i64 v1, .int .i64 x1] 31)).heap.size := by simp
      have Hb4 := Lib.hid (Hb3.out.alloc hz3 (.cells #[.int .i64 e1, .int .i64 v1, .int .i64 x1] 31))
      clear d0 d1 d2
      generalize hw3 : wr.alloc (.cells #[.int .i64 e1, .int .i64 v1, .int .i64 x1] 31) = w3 at *
      clear hw3
      generalize wr.heap.size = Bp at *
      have HP := Lib.hid (And.intro P0 (And.intro P1 P2))
      go_region_held3 (fun w' => w'.cell? ⟨Bp, 0, none⟩ = some (.int .i64 e1) ∧ w'.cell? ⟨Bp, 1, none⟩ = some (.int .i64 v1) ∧ w'.cell? ⟨Bp, 2, none⟩ = some (.int .i64 x1)) (go_keep)
        (first
          | (go_at_call 18; refine (groups_r A1 c1 _ m e1 v1 x1 _ ((Hs2.out.to Hb4.out).to ((Below.refl _ _).drew)) rfl (by omega) Hg.out).mono ?_; rintro e w4 ⟨rfl, hb4⟩; have hb34 := (Below.refl w3.heap.size w3).drew.trans hb4; have f0 := (hb34.cell (p := ⟨Bp, 0, none⟩) hzp).trans HP.out.1; have f1 := (hb34.cell (p := ⟨Bp, 1, none⟩) hzp).trans HP.out.2.1; have f2 := (hb34.cell (p := ⟨Bp, 2, none⟩) hzp).trans HP.out.2.2)
          | (go_at_call 19; refine (rgroups_any A1 c1 _ m e1 v1 x1 _ ((Hs2.out.to Hb4.out).to hb34) rfl (by omega)).mono ?_; rintro e w5 ⟨rfl, hb5⟩; have hb35 := hb34.trans (hb5.mono hb34.size); have f0 := (hb35.cell (p := ⟨Bp, 0, none⟩) hzp).trans HP.out.1; have f1 := (hb35.cell (p := ⟨Bp, 1, none⟩) hzp).trans HP.out.2.1; have f2 := (hb35.cell (p := ⟨Bp, 2, none⟩) hzp).trans HP.out.2.2))
      go_wp2_with fail
      have Hb35 := Lib.hid hb35
      have h24 := Hb4.out.size
      clear f0 f1 f2 hb34 hb35 hb4 hb5 P0 P1 P2
      obtain ⟨wo2, hwo2⟩ : ∃ wo : World, wo = w5 := ⟨_, rfl⟩
      go_loopw [16] (fun a wr => ∃ k : Nat, k ≤ 2 ∧ a = .int .i64 k ∧ Below w3.heap.size w3 wr) (fun a _ => 2 - (intOf a).toNat)
      case atStart => exact ⟨0, by omega, rfl, Hb35.out⟩
      case round =>
        obtain ⟨j, hj, rfl, hb6⟩ := hrel
        have Hb6 := Lib.hid hb6
        have hz6 := hb6.size
        clear hb6
        by_cases hjlt : j < 2
        · have hjlt2 : (j : Int) < 2 := by omega
          have hj0 : (0 : Int) ≤ (j : Int) := by omega
          obtain ⟨g1, hm0⟩ := HM'.out j hjlt
          have HG := Lib.hid ((Hb4.out.cell (p := ⟨B + 1, j, none⟩) hz2).trans hm0)
          have hgz : B + 1 < w3.heap.size := by omega
          have m0 := (Hb6.out.cell (p := ⟨B + 1, j, none⟩) hgz).trans HG.out
          have f0 := (Hb6.out.cell (p := ⟨Bp, 0, none⟩) hzp).trans HP.out.1
          have f1 := (Hb6.out.cell (p := ⟨Bp, 1, none⟩) hzp).trans HP.out.2.1
          have f2 := (Hb6.out.cell (p := ⟨Bp, 2, none⟩) hzp).trans HP.out.2.2
          clear hm0
          go_wp2_with fail
          go_region_held3 (fun w' => w'.cell? ⟨Bp, 0, none⟩ = some (.int .i64 e1) ∧ w'.cell? ⟨Bp, 1, none⟩ = some (.int .i64 v1) ∧ w'.cell? ⟨Bp, 2, none⟩ = some (.int .i64 x1) ∧ w'.cell? ⟨B + 1, j, none⟩ = some (.int .i64 g1)) (go_keep)
            (first
              | (go_at_call 20; refine (may_r A1 c1 _ m g1 e1 v1 x1 _ (((Hs2.out.to Hb4.out).to Hb6.out).to ((Below.refl _ _).drew)) rfl (by omega) Hg.out).mono ?_; rintro e w7 ⟨rfl, hb7⟩; have hb37 := Hb6.out.trans (((Below.refl _ _).drew.trans hb7).mono hz6); have f0' := (hb37.cell (p := ⟨Bp, 0, none⟩) hzp).trans HP.out.1; have f1' := (hb37.cell (p := ⟨Bp, 1, none⟩) hzp).trans HP.out.2.1; have f2' := (hb37.cell (p := ⟨Bp, 2, none⟩) hzp).trans HP.out.2.2; have m0' := (hb37.cell (p := ⟨B + 1, j, none⟩) hgz).trans HG.out)
              | (go_at_call 21; refine (rmay_any A1 c1 _ m g1 e1 v1 x1 _ ((Hs2.out.to Hb4.out).to hb37) rfl (by omega)).mono ?_; rintro e w8 ⟨rfl, hb8⟩; have hb38 := hb37.trans (hb8.mono hb37.size); have f0'' := (hb38.cell (p := ⟨Bp, 0, none⟩) hzp).trans HP.out.1; have f1'' := (hb38.cell (p := ⟨Bp, 1, none⟩) hzp).trans HP.out.2.1; have f2'' := (hb38.cell (p := ⟨Bp, 2, none⟩) hzp).trans HP.out.2.2; have m0'' := (hb38.cell (p := ⟨B + 1, j, none⟩) hgz).trans HG.out))
          generalize may (rgTo m e1 v1 x1 16) g1 = mm at *
          cases mm
          all_goals go_wp2_with fail
          all_goals go_roundw
          all_goals first
            | (exact ⟨j + 1, by omega, by go_num, hb38⟩)
            | (simp [intOf]; omega)
        · obtain rfl : j = 2 := by omega
          go_wp2_with fail
          go_roundw
          case rel => exact ⟨k + 1, by omega, by go_num, Hb4.out.trans (Hb6.out.mono h24)⟩
          case measure => simp [intOf]; omega
    · obtain rfl : k = 2 := by omega
      have Hb3 := Lib.hid hb3
      clear hb3
      go_wp2_with fail
      refine (lives_any _).mono ?_
      rintro e w3 ⟨rfl, hb3⟩
      go_wp2_with fail
      go_ret
      have hz3 := Hb3.out.size
      have h4 := Hb2.out.trans (Hb3.out.mono Hb2.out.size)
      exact ⟨rfl, h4.trans (hb3.mono h4.size)⟩
end Go.Proofs.Ytfncpofcgalllaa
