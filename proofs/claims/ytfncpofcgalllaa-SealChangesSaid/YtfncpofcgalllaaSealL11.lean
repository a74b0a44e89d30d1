/- SealChanges returns true for all arguments. -/
import Derived.Test.YtfncpofcgalllaaSealW19
import Derived.Test.YtfncpofcgalllaaSealLaw7
import Derived.IntWalk
namespace Go.Proofs.Ytfncpofcgalllaa
open Go.RowKit
attribute [local go_sem ↓] Go.wp_at_zero Go.wp_at_succ
theorem many_j (z : Int) (n : Nat) (w : World) (hz : z = (n : Int)) (hn : n ≤ 2000) :
    Calls Try.prog 13 #[.int .i64 z] w fun e w' => ∃ v, e = .returned v ∧ Own w' w.heap.size 41 v (manyS n) ∧ Below w.heap.size w w' := by
  subst hz; exact many_any n w hn
theorem pair_own (w : World) (s : Seal) (hs : s.ok) : Own (w.alloc (.cells #[.int .i64 s.e, .int .i64 s.v, .int .i64 s.f, .int .i64 s.u, .int .i64 s.g] 41)) w.heap.size 41 (.slice (some ⟨w.heap.size, 0, none⟩) 1 1) [s] :=
  Own.lit w w.heap.size 41 s.cells.toArray [s] (Nat.le_refl _) (by simp [maxLen]) rfl (by intro u hu; simp [Seal.cells] at hu; rcases hu with rfl | rfl | rfl | rfl | rfl <;> rfl) (fun i hi => by
    obtain rfl : i = 0 := by simp at hi; omega
    exact ⟨rfl, hs⟩)
set_option maxRecDepth 100000 in
set_option maxHeartbeats 8000000 in
theorem changes_any (A : Option Addr) (c : Nat) (l : List Int) (s : Seal) (at1 n : Int) (w : World) (hl : Sl w (fun b => b < w.heap.size) A c l) (hs : s.ok) (hat : I64 at1) (hn : I64 n) :
    Calls Try.prog 9 #[.slice A l.length c, .agg #[.int .i64 s.e, .int .i64 s.v, .int .i64 s.f, .int .i64 s.u, .int .i64 s.g], .int .i64 at1, .int .i64 n] w fun e w' => e = .returned (.bool true) ∧ Below w.heap.size w w' := by
  have hle := seals_le l
  have Hnd := Lib.hid (seals_nodup l)
  have Hok := Lib.hid (fun s hs => (seals_small l s hs).ok)
  have Hbx := Lib.hid (heap_alloc_new w (.cells s.cells.toArray 41))
  have Hb0 := Lib.hid ((Below.refl w.heap.size w).alloc (Nat.le_refl _) (.cells s.cells.toArray 41))
  have hz0 : w.heap.size < (w.alloc (.cells s.cells.toArray 41)).heap.size := by simp
  have Hl := Lib.hid (hl.alloc (.cells s.cells.toArray 41))
  clear hl
  go_enter Try.func9, Try.ntmps9
  go_wp2_with fail
  refine (seals_any A c l _ Hl.out).mono ?_
  rintro e w1 ⟨v, rfl, hown, hb⟩
  obtain ⟨A1, c1, rfl, hs1⟩ := hown.sl
  generalize hll : seals l = m at *
  have Hs1 := Lib.hid hs1
  have Hb1 := Lib.hid (Hb0.out.trans (hb.mono (Nat.le_of_lt hz0)))
  have Hx1 := Lib.hid ((hb.block w.heap.size hz0).trans Hbx.out)
  have hz1 : w.heap.size < w1.heap.size := Nat.lt_of_lt_of_le hz0 hb.size
  clear hs1 hb hown hll Hb0 Hbx hz0
  have ha := aro_lt n 3 (by omega)
  obtain ⟨q, hq⟩ := Int.eq_ofNat_of_zero_le ha.1
  have Hq := Lib.hid hq
  rw [hq] at ha
  have hq5 : q < 3 := by omega
  clear ha hq
  go_wp2_with fail
  refine (around_any n 3 _ hn (by omega) (by omega)).mono ?_
  rintro e w4 ⟨rfl, rfl⟩
  rw [Hq.out]
  have hq2 : 998 + q ≤ 2000 := by omega
  go_wp2_with fail
  refine (many_j _ (998 + q) _ (by omega) hq2).mono ?_
  rintro e w2 ⟨v5, rfl, hown, hb⟩
  obtain ⟨A2, c2, rfl, hs2⟩ := hown.sl
  have hlm : (manyS (998 + q)).length ≤ 1000 := by rw [manyS_length]; omega
  have Hnd2 := Lib.hid (manyS_nodup (998 + q))
  have Hok2 := Lib.hid (manyS_ok (998 + q) hq2)
  generalize manyS (998 + q) = mm at *
  have Hs2 := Lib.hid hs2
  have Hs12 := Lib.hid (Hs1.out.to hb)
  have Hb2 := Lib.hid (Hb1.out.trans (hb.mono (Nat.le_of_lt hz1)))
  have Hx2 := Lib.hid ((hb.block w.heap.size hz1).trans Hx1.out)
  have hz2 : w.heap.size < w2.heap.size := Nat.lt_of_lt_of_le hz1 hb.size
  clear hs2 hb hown Hs1 Hb1 Hx1 hz1
  go_wp2_with fail
  have Hall := Lib.hid (show ∀ i : Nat, i < 2 → ∃ A c, ∃ t : List Seal, (w2.alloc (.cells #[.slice A1 m.length c1, .slice A2 mm.length c2] 23)).cell? ⟨w2.heap.size, i, none⟩ = some (.slice A t.length c) ∧ Sl (w2.alloc (.cells #[.slice A1 m.length c1, .slice A2 mm.length c2] 23)) (fun b => b < (w2.alloc (.cells #[.slice A1 m.length c1, .slice A2 mm.length c2] 23)).heap.size) A c t ∧ t.length ≤ 1000 ∧ t.Nodup ∧ ∀ s ∈ t, s.ok from by
    intro i hi
    rcases (show i = 0 ∨ i = 1 by omega) with rfl | rfl
    · exact ⟨A1, c1, m, by go_simp, Hs12.out.alloc _, by omega, Hnd.out, Hok.out⟩
    · exact ⟨A2, c2, mm, by go_simp, Hs2.out.alloc _, by omega, Hnd2.out, Hok2.out⟩)
  have Hb3 := Lib.hid (Hb2.out.alloc (Nat.le_of_lt hz2) (.cells #[.slice A1 m.length c1, .slice A2 mm.length c2] 23))
  have Hx3 := Lib.hid ((Below.heap_alloc w2 (.cells #[.slice A1 m.length c1, .slice A2 mm.length c2] 23) w.heap.size hz2).trans Hx2.out)
  have hzA : w2.heap.size < (w2.alloc (.cells #[.slice A1 m.length c1, .slice A2 mm.length c2] 23)).heap.size := by simp
  have hzx : w.heap.size < (w2.alloc (.cells #[.slice A1 m.length c1, .slice A2 mm.length c2] 23)).heap.size := by simp; omega
  clear Hs12 Hs2 Hnd Hok Hnd2 Hok2 Hb2 Hx2
  generalize hw3 : w2.alloc (.cells #[.slice A1 m.length c1, .slice A2 mm.length c2] 23) = w3 at *
  clear hw3 hz2
  generalize hXX : w2.heap.size = XA at *
  clear hXX
  generalize hX0 : w.heap.size = X0 at *
  have HX0 := Lib.hid hX0
  clear hX0
  go_loopw [10, 11, 12, 13, 14, 15, 16, 17, 18, 19, 20] (fun i _ _ _ _ _ _ _ _ _ _ wr => ∃ k : Nat, k ≤ 2 ∧ i = .int .i64 k ∧ Below w3.heap.size w3 wr) (fun i _ _ _ _ _ _ _ _ _ _ _ => 2 - (intOf i).toNat)
  case atStart => exact ⟨0, by omega, rfl, Below.refl _ _⟩
  case round =>
    obtain ⟨k, hk, rfl, hb4⟩ := hrel
    obtain ⟨wq, rfl⟩ : ∃ wq : World, wq = wr := ⟨_, rfl⟩
    have Hb4 := Lib.hid hb4
    have hz4 := hb4.size
    clear hb4
    by_cases hlt : k < 2
    · have hlt2 : (k : Int) < 2 := by omega
      have hk0 : (0 : Int) ≤ (k : Int) := by omega
      obtain ⟨A4, c4, t, hc, hst, htl, htn, hto⟩ := Hall.out k hlt
      have hc4 := (Hb4.out.cell (p := ⟨XA, k, none⟩) hzA).trans hc
      have Hst := Lib.hid (hst.to Hb4.out)
      have Htn := Lib.hid htn
      have Hto := Lib.hid hto
      have HC4 := Lib.hid hc4
      obtain ⟨e0, e1, e2, e3, e4⟩ := seal_box (s := s) ((Hb4.out.block X0 hzx).trans Hx3.out)
      have Hown := Lib.hid (pair_own wq s hs)
      clear hc hst htn hto
      have hzq : XA < wq.heap.size := Nat.lt_of_lt_of_le hzA hz4
      have hcq := (World.cell?_alloc_lt wq (.cells #[.int .i64 s.e, .int .i64 s.v, .int .i64 s.f, .int .i64 s.u, .int .i64 s.g] 41) ⟨XA, k, none⟩ hzq).trans hc4
      by_cases ht0 : t.length = 0
      · have hgt : decide ((t.length : Int) > 0) = false := by rw [ht0]; rfl
        have hgt2 : decide (0 < t.length) = false := by rw [ht0]; rfl
        have Ht0 := Lib.hid ht0
        clear ht0
        go_wp2_with fail
        clear hgt hgt2 e0 e1 e2 e3 e4 hc4 hcq
        obtain ⟨A5, c5, he5, hs5⟩ := Hown.out.sl
        obtain ⟨rfl, hdrop, rfl⟩ := Value.slice.inj he5
        clear he5 hdrop
        have Hb5 := Lib.hid ((Below.refl wq.heap.size wq).alloc (Nat.le_refl _) (.cells #[.int .i64 s.e, .int .i64 s.v, .int .i64 s.f, .int .i64 s.u, .int .i64 s.g] 41))
        have Hs5 := Lib.hid hs5
        have Ht5 := Lib.hid (Hst.out.to Hb5.out)
        have HC5 := Lib.hid ((Hb5.out.cell (p := ⟨XA, k, none⟩) (by show XA < _; omega)).trans HC4.out)
        have hzA5 : XA < (wq.alloc (.cells #[.int .i64 s.e, .int .i64 s.v, .int .i64 s.f, .int .i64 s.u, .int .i64 s.g] 41)).heap.size := by simp; omega
        have Hso := Lib.hid (show ∀ y ∈ [s], y.ok from by intro y hy; rw [List.mem_singleton.1 hy]; exact hs)
        clear hs5 Hown
        generalize (some (⟨wq.heap.size, 0, none⟩ : Addr)) = A5 at *
        generalize hw5 : wq.alloc (.cells #[.int .i64 s.e, .int .i64 s.v, .int .i64 s.f, .int .i64 s.u, .int .i64 s.g] 41) = w5 at *
        clear hw5
        have Hsl := Lib.hid (show [s].length = 1 from rfl)
        generalize [s] = sl at *
        go_loopw [12, 13, 14, 15, 16, 17, 18, 19, 20] (fun i _ _ _ _ _ _ _ _ wr' => ∃ j : Nat, j ≤ 1 ∧ i = .int .i64 j ∧ Below w5.heap.size w5 wr') (fun i _ _ _ _ _ _ _ _ _ => 1 - (intOf i).toNat)
        case atStart => exact ⟨0, by omega, rfl, Below.refl _ _⟩
        case round =>
          obtain ⟨j, hj, rfl, hb6⟩ := hrel
          have Hb6 := Lib.hid hb6
          have hz6 := hb6.size
          clear hb6
          by_cases hjl : j < 1
          · have hjl2 : (j : Int) < 1 := by omega
            have hj0 : (0 : Int) ≤ (j : Int) := by omega
            have hjs : j < sl.length := by rw [Hsl.out]; exact hjl
            obtain ⟨b, o, rfl, hbS, hbl, hyok, e0, e1, e2, e3, e4⟩ := seal_at (Hs5.out.to Hb6.out) hjs
            generalize sl[j] = y at *
            clear hjs
            obtain ⟨o1, r1, hae⟩ : ∃ o1 r1, addE t y = (o1, r1) := ⟨_, _, rfl⟩
            obtain ⟨o2, r2, hle2⟩ : ∃ o2 r2, liftE t y = (o2, r2) := ⟨_, _, rfl⟩
            have HAE := Lib.hid hae
            have HLE := Lib.hid hle2
            have HSE := Lib.hid ((slift_eq t y Htn.out).trans hle2)
            clear hae hle2
            have HE := Lib.hid (And.intro e0 (And.intro e1 (And.intro e2 (And.intro e3 e4))))
            have hcA := (Hb6.out.cell (p := ⟨XA, k, none⟩) hzA5).trans HC5.out
            have HCA := Lib.hid hcA
            have hzA6 : XA < wr.heap.size := Nat.lt_of_lt_of_le hzA5 hz6
            have Ht6 := Lib.hid (Ht5.out.to Hb6.out)
            have HP6 := Lib.hid (Below.refl wr.heap.size wr)
            go_wp2_with fail
            go_region_held3 (fun w' => w'.cell? ⟨XA, k, none⟩ = some (.slice A4 t.length c4) ∧ w'.cell? ⟨b, o + j * 5, none⟩ = some (.int .i64 y.e) ∧ w'.cell? ⟨b, o + j * 5 + 1, none⟩ = some (.int .i64 y.v) ∧ w'.cell? ⟨b, o + j * 5 + 2, none⟩ = some (.int .i64 y.f) ∧ w'.cell? ⟨b, o + j * 5 + 3, none⟩ = some (.int .i64 y.u) ∧ w'.cell? ⟨b, o + j * 5 + 4, none⟩ = some (.int .i64 y.g)) (first | exact ⟨hcc, x0, x1, x2, x3, x4⟩ | exact ⟨hcA, e0, e1, e2, e3, e4⟩)
              ((go_at_call 26; (with_reducible refine (sadd_any A4 c4 _ t y _ ((Ht6.out.to HP6.out).to ((Below.refl _ _).drew)) rfl hyok).mono ?_); rintro e w7 ⟨v7, rfl, hown7, hb7⟩; rw [HAE.out] at hown7 ⊢; dsimp only at hown7 ⊢; have hp7 := HP6.out.trans (((Below.refl _ _).drew.trans hb7).mono HP6.out.size); have hcc := (hp7.cell (p := ⟨XA, k, none⟩) hzA6).trans HCA.out; have x0 := (hp7.cell (p := ⟨b, o + j * 5, none⟩) hbl).trans HE.out.1; have x1 := (hp7.cell (p := ⟨b, o + j * 5 + 1, none⟩) hbl).trans HE.out.2.1; have x2 := (hp7.cell (p := ⟨b, o + j * 5 + 2, none⟩) hbl).trans HE.out.2.2.1; have x3 := (hp7.cell (p := ⟨b, o + j * 5 + 3, none⟩) hbl).trans HE.out.2.2.2.1; have x4 := (hp7.cell (p := ⟨b, o + j * 5 + 4, none⟩) hbl).trans HE.out.2.2.2.2))
            have HP7 := Lib.hid hp7
            obtain ⟨A7, c7, rfl, hs7⟩ := hown7.sl
            have Hs7 := Lib.hid hs7
            have HB7 := Lib.hid ((Below.refl wr.heap.size wr).drew.trans hb7)
            clear hown7 hs7 hb7 hp7 hcA e0 e1 e2 e3 e4
            have hcA := hcc
            have e0 := x0
            have e1 := x1
            have e2 := x2
            have e3 := x3
            have e4 := x4
            clear hcc x0 x1 x2 x3 x4
            go_wp2_with fail
            go_region_held3 (fun w' => w'.cell? ⟨XA, k, none⟩ = some (.slice A4 t.length c4) ∧ w'.cell? ⟨b, o + j * 5, none⟩ = some (.int .i64 y.e) ∧ w'.cell? ⟨b, o + j * 5 + 1, none⟩ = some (.int .i64 y.v) ∧ w'.cell? ⟨b, o + j * 5 + 2, none⟩ = some (.int .i64 y.f) ∧ w'.cell? ⟨b, o + j * 5 + 3, none⟩ = some (.int .i64 y.u) ∧ w'.cell? ⟨b, o + j * 5 + 4, none⟩ = some (.int .i64 y.g)) (first | exact ⟨hcc, x0, x1, x2, x3, x4⟩ | exact ⟨hcA, e0, e1, e2, e3, e4⟩)
              ((go_at_call 28; (with_reducible refine (radd_any A4 c4 _ t y _ ((Ht6.out.to HP7.out).to ((Below.refl _ _).drew)) rfl hyok).mono ?_); rintro e w8 ⟨v8, rfl, hown8, hb8⟩; rw [HAE.out] at hown8 ⊢; dsimp only at hown8 ⊢; have hp8 := HP7.out.trans (((Below.refl _ _).drew.trans hb8).mono HP7.out.size); have hcc := (hp8.cell (p := ⟨XA, k, none⟩) hzA6).trans HCA.out; have x0 := (hp8.cell (p := ⟨b, o + j * 5, none⟩) hbl).trans HE.out.1; have x1 := (hp8.cell (p := ⟨b, o + j * 5 + 1, none⟩) hbl).trans HE.out.2.1; have x2 := (hp8.cell (p := ⟨b, o + j * 5 + 2, none⟩) hbl).trans HE.out.2.2.1; have x3 := (hp8.cell (p := ⟨b, o + j * 5 + 3, none⟩) hbl).trans HE.out.2.2.2.1; have x4 := (hp8.cell (p := ⟨b, o + j * 5 + 4, none⟩) hbl).trans HE.out.2.2.2.2))
            have HP8 := Lib.hid hp8
            obtain ⟨A8, c8, rfl, hs8⟩ := hown8.sl
            have Hs8 := Lib.hid hs8
            have HB8 := Lib.hid ((Below.refl w7.heap.size w7).drew.trans hb8)
            clear hown8 hs8 hb8 hp8 hcA e0 e1 e2 e3 e4
            have hcA := hcc
            have e0 := x0
            have e1 := x1
            have e2 := x2
            have e3 := x3
            have e4 := x4
            clear hcc x0 x1 x2 x3 x4
            go_wp2_with fail
            go_region_held3 (fun w' => w'.cell? ⟨XA, k, none⟩ = some (.slice A4 t.length c4) ∧ w'.cell? ⟨b, o + j * 5, none⟩ = some (.int .i64 y.e) ∧ w'.cell? ⟨b, o + j * 5 + 1, none⟩ = some (.int .i64 y.v) ∧ w'.cell? ⟨b, o + j * 5 + 2, none⟩ = some (.int .i64 y.f) ∧ w'.cell? ⟨b, o + j * 5 + 3, none⟩ = some (.int .i64 y.u) ∧ w'.cell? ⟨b, o + j * 5 + 4, none⟩ = some (.int .i64 y.g)) (first | exact ⟨hcc, x0, x1, x2, x3, x4⟩ | exact ⟨hcA, e0, e1, e2, e3, e4⟩)
              ((go_at_call 29; (with_reducible refine (slift_any A4 c4 _ t y _ ((Ht6.out.to HP8.out).to ((Below.refl _ _).drew)) rfl (by omega)).mono ?_); rintro e w9 ⟨v9, rfl, hown9, hb9⟩; rw [HSE.out] at hown9 ⊢; dsimp only at hown9 ⊢; have hp9 := HP8.out.trans (((Below.refl _ _).drew.trans hb9).mono HP8.out.size); have hcc := (hp9.cell (p := ⟨XA, k, none⟩) hzA6).trans HCA.out; have x0 := (hp9.cell (p := ⟨b, o + j * 5, none⟩) hbl).trans HE.out.1; have x1 := (hp9.cell (p := ⟨b, o + j * 5 + 1, none⟩) hbl).trans HE.out.2.1; have x2 := (hp9.cell (p := ⟨b, o + j * 5 + 2, none⟩) hbl).trans HE.out.2.2.1; have x3 := (hp9.cell (p := ⟨b, o + j * 5 + 3, none⟩) hbl).trans HE.out.2.2.2.1; have x4 := (hp9.cell (p := ⟨b, o + j * 5 + 4, none⟩) hbl).trans HE.out.2.2.2.2))
            have HP9 := Lib.hid hp9
            obtain ⟨A9, c9, rfl, hs9⟩ := hown9.sl
            have Hs9 := Lib.hid hs9
            have HB9 := Lib.hid ((Below.refl w8.heap.size w8).drew.trans hb9)
            clear hown9 hs9 hb9 hp9 hcA e0 e1 e2 e3 e4
            have hcA := hcc
            have e0 := x0
            have e1 := x1
            have e2 := x2
            have e3 := x3
            have e4 := x4
            clear hcc x0 x1 x2 x3 x4
            go_wp2_with fail
            go_region_held3 (fun w' => w'.cell? ⟨XA, k, none⟩ = some (.slice A4 t.length c4) ∧ w'.cell? ⟨b, o + j * 5, none⟩ = some (.int .i64 y.e) ∧ w'.cell? ⟨b, o + j * 5 + 1, none⟩ = some (.int .i64 y.v) ∧ w'.cell? ⟨b, o + j * 5 + 2, none⟩ = some (.int .i64 y.f) ∧ w'.cell? ⟨b, o + j * 5 + 3, none⟩ = some (.int .i64 y.u) ∧ w'.cell? ⟨b, o + j * 5 + 4, none⟩ = some (.int .i64 y.g)) (first | exact ⟨hcc, x0, x1, x2, x3, x4⟩ | exact ⟨hcA, e0, e1, e2, e3, e4⟩)
              ((go_at_call 30; (with_reducible refine (rlift_any A4 c4 _ t y _ ((Ht6.out.to HP9.out).to ((Below.refl _ _).drew)) rfl (by omega) hyok).mono ?_); rintro e w10 ⟨v10, rfl, hown10, hb10⟩; rw [HLE.out] at hown10 ⊢; dsimp only at hown10 ⊢; have hp10 := HP9.out.trans (((Below.refl _ _).drew.trans hb10).mono HP9.out.size); have hcc := (hp10.cell (p := ⟨XA, k, none⟩) hzA6).trans HCA.out; have x0 := (hp10.cell (p := ⟨b, o + j * 5, none⟩) hbl).trans HE.out.1; have x1 := (hp10.cell (p := ⟨b, o + j * 5 + 1, none⟩) hbl).trans HE.out.2.1; have x2 := (hp10.cell (p := ⟨b, o + j * 5 + 2, none⟩) hbl).trans HE.out.2.2.1; have x3 := (hp10.cell (p := ⟨b, o + j * 5 + 3, none⟩) hbl).trans HE.out.2.2.2.1; have x4 := (hp10.cell (p := ⟨b, o + j * 5 + 4, none⟩) hbl).trans HE.out.2.2.2.2))
            have HP10 := Lib.hid hp10
            obtain ⟨A10, c10, rfl, hs10⟩ := hown10.sl
            have Hs10 := Lib.hid hs10
            have HB10 := Lib.hid ((Below.refl w9.heap.size w9).drew.trans hb10)
            clear hown10 hs10 hb10 hp10 hcA e0 e1 e2 e3 e4
            have hcA := hcc
            have e0 := x0
            have e1 := x1
            have e2 := x2
            have e3 := x3
            have e4 := x4
            clear hcc x0 x1 x2 x3 x4
            clear hcA e0 e1 e2 e3 e4
            go_wp2_with fail
            refine (same_seals A7 A8 c7 c8 o1 o1 _ (((Hs7.out.to HB8.out).to HB9.out).to HB10.out) ((Hs8.out.to HB9.out).to HB10.out)).mono ?_
            rintro e w11 ⟨rfl, hb11⟩
            rw [decide_eq_true rfl]
            have HB11 := Lib.hid hb11
            have HP11 := Lib.hid (HP10.out.trans (hb11.mono HP10.out.size))
            clear hb11
            go_wp2_with fail
            refine (same_seals A9 A10 c9 c10 o2 o2 _ ((Hs9.out.to HB10.out).to HB11.out) (Hs10.out.to HB11.out)).mono ?_
            rintro e w12 ⟨rfl, hb12⟩
            rw [decide_eq_true rfl]
            have HP12 := Lib.hid (Hb6.out.trans ((HP11.out.trans (hb12.mono HP11.out.size)).mono hz6))
            clear hb12
            go_wp2_with fail
            go_roundw
            case rel => exact ⟨j + 1, by omega, by go_num, HP12.out⟩
            case measure => simp [intOf]; omega
          · obtain rfl : j = 1 := by omega
            go_wp2_with fail
            go_roundw
            case rel => exact ⟨k + 1, by omega, by go_num, Hb4.out.trans ((Hb5.out.trans (Hb6.out.mono Hb5.out.size)).mono hz4)⟩
            case measure => simp [intOf]; omega
      · have htp : 1 ≤ t.length := by omega
        have hpos : (0 : Int) < (t.length : Int) := by omega
        have ha := aro_lt at1 t.length (by omega)
        obtain ⟨x, hx⟩ := Int.eq_ofNat_of_zero_le ha.1
        have Hx := Lib.hid hx
        rw [hx] at ha
        have hxt : x < t.length := by omega
        have hxt2 : (x : Int) < (t.length : Int) := by omega
        have hx0 : (0 : Int) ≤ (x : Int) := by omega
        clear hx ha ht0
        obtain ⟨b1, p1, rfl, hbS1, hbl1, hyok1, d0, d1, d2, d3, d4⟩ := seal_at Hst.out hxt
        generalize t[x] = y1 at *
        have HD := Lib.hid (And.intro d0 (And.intro d1 (And.intro d2 (And.intro d3 d4))))
        have D0 := (World.cell?_alloc_lt wq (.cells #[.int .i64 s.e, .int .i64 s.v, .int .i64 s.f, .int .i64 s.u, .int .i64 s.g] 41) ⟨b1, p1 + x * 5, none⟩ hbl1).trans d0
        have D1 := (World.cell?_alloc_lt wq (.cells #[.int .i64 s.e, .int .i64 s.v, .int .i64 s.f, .int .i64 s.u, .int .i64 s.g] 41) ⟨b1, p1 + x * 5 + 1, none⟩ hbl1).trans d1
        have D2 := (World.cell?_alloc_lt wq (.cells #[.int .i64 s.e, .int .i64 s.v, .int .i64 s.f, .int .i64 s.u, .int .i64 s.g] 41) ⟨b1, p1 + x * 5 + 2, none⟩ hbl1).trans d2
        have D3 := (World.cell?_alloc_lt wq (.cells #[.int .i64 s.e, .int .i64 s.v, .int .i64 s.f, .int .i64 s.u, .int .i64 s.g] 41) ⟨b1, p1 + x * 5 + 3, none⟩ hbl1).trans d3
        have D4 := (World.cell?_alloc_lt wq (.cells #[.int .i64 s.e, .int .i64 s.v, .int .i64 s.f, .int .i64 s.u, .int .i64 s.g] 41) ⟨b1, p1 + x * 5 + 4, none⟩ hbl1).trans d4
        clear d0 d1 d2 d3 d4
        go_wp2_with fail
        clear e0 e1 e2 e3 e4 hc4
        have Hb5' := Lib.hid ((Below.refl wq.heap.size wq).alloc (Nat.le_refl _) (.cells #[.int .i64 s.e, .int .i64 s.v, .int .i64 s.f, .int .i64 s.u, .int .i64 s.g] 41))
        have hzq5 : wq.heap.size < (wq.alloc (.cells #[.int .i64 s.e, .int .i64 s.v, .int .i64 s.f, .int .i64 s.u, .int .i64 s.g] 41)).heap.size := by simp
        generalize (some (⟨wq.heap.size, 0, none⟩ : Addr)) = A5 at *
        generalize hw5 : wq.alloc (.cells #[.int .i64 s.e, .int .i64 s.v, .int .i64 s.f, .int .i64 s.u, .int .i64 s.g] 41) = w5 at *
        clear hw5
        have hne := World.new_ne w5 ⟨XA, k, none⟩ hcq
        have hne0 := World.new_ne w5 ⟨b1, p1 + x * 5, none⟩ D0
        go_region_held3 (fun w' => w'.cell? ⟨XA, k, none⟩ = some (.slice (some ⟨b1, p1, none⟩) t.length c4) ∧ w'.cell? ⟨b1, p1 + x * 5, none⟩ = some (.int .i64 y1.e) ∧ w'.cell? ⟨b1, p1 + x * 5 + 1, none⟩ = some (.int .i64 y1.v) ∧ w'.cell? ⟨b1, p1 + x * 5 + 2, none⟩ = some (.int .i64 y1.f) ∧ w'.cell? ⟨b1, p1 + x * 5 + 3, none⟩ = some (.int .i64 y1.u) ∧ w'.cell? ⟨b1, p1 + x * 5 + 4, none⟩ = some (.int .i64 y1.g)) (go_keep)
          (first
            | (go_at_call 14; refine (around_any at1 t.length _ hat (by omega) (by omega)).mono ?_; rintro e w6 ⟨rfl, rfl⟩; rw [Hx.out]; have hdone := Hown.out.drew)
            | ((have hd2 := hdone); (refine step_push (α := Seal) _ (by rfl) (.tmp 40) (.tmp 54) 23 (by rfl) wq.heap.size 41 (.agg #[.int .i64 0, .int .i64 0, .int .i64 0, .int .i64 0, .int .i64 0]) 40 Try.underlying23 seal_info rfl (by decide) _ [s] (by rfl) (hd2.alloc _) w5.heap.size _ y1 (0, 0) 41 (by rfl) (heap_alloc_new w5.drew _) ⟨rfl, hyok1⟩ (by simp) (by simp) (by simp; omega) _ rfl ?_); intro g6 cap6 w6 hown6 hg6 hat6 hlt6; have hb6 := below_push Hb5'.out.drew hd2 (Nat.le_of_lt hzq5) hg6; have q0 := (hb6.cell (p := ⟨XA, k, none⟩) hzq).trans HC4.out; have q1 := (hb6.cell (p := ⟨b1, p1 + x * 5, none⟩) hbl1).trans HD.out.1; have q2 := (hb6.cell (p := ⟨b1, p1 + x * 5 + 1, none⟩) hbl1).trans HD.out.2.1; have q3 := (hb6.cell (p := ⟨b1, p1 + x * 5 + 2, none⟩) hbl1).trans HD.out.2.2.1; have q4 := (hb6.cell (p := ⟨b1, p1 + x * 5 + 3, none⟩) hbl1).trans HD.out.2.2.2.1; have q5 := (hb6.cell (p := ⟨b1, p1 + x * 5 + 4, none⟩) hbl1).trans HD.out.2.2.2.2))
        have Hb5 := Lib.hid hb6
        clear q0 q1 q2 q3 q4 q5 D0 D1 D2 D3 D4 hne hne0 hcq hd2 hdone hg6 hat6 Hb5' hzq5
        obtain ⟨A7, c7, he7, hs7⟩ := hown6.sl
        obtain ⟨rfl, hdrop, rfl⟩ := Value.slice.inj he7
        have Hs5 := Lib.hid hs7
        have Ht5 := Lib.hid (Hst.out.to Hb5.out)
        have HC5 := Lib.hid ((Hb5.out.cell (p := ⟨XA, k, none⟩) hzq).trans HC4.out)
        have hzA5 : XA < w6.heap.size := Nat.lt_of_lt_of_le hzq Hb5.out.size
        clear he7 hdrop hs7 hown6 hb6 Hown hlt6
        have Hsl := Lib.hid (show ([s] ++ [y1]).length = 2 from rfl)
        rw [show [s].length + 1 = 2 from rfl]
        go_wp2_with fail
        generalize (some (⟨g6, 0, none⟩ : Addr)) = A6 at *
        generalize (some (⟨b1, p1, none⟩ : Addr)) = A4 at *
        generalize [s] ++ [y1] = sl at *
        go_loopw [12, 13, 14, 15, 16, 17, 18, 19, 20] (fun i _ _ _ _ _ _ _ _ wr' => ∃ j : Nat, j ≤ 2 ∧ i = .int .i64 j ∧ Below w6.heap.size w6 wr') (fun i _ _ _ _ _ _ _ _ _ => 2 - (intOf i).toNat)
        case atStart => exact ⟨0, by omega, rfl, Below.refl _ _⟩
        case round =>
          obtain ⟨j, hj, rfl, hb6⟩ := hrel
          have Hb6 := Lib.hid hb6
          have hz6 := hb6.size
          clear hb6
          by_cases hjl : j < 2
          · have hjl2 : (j : Int) < 2 := by omega
            have hj0 : (0 : Int) ≤ (j : Int) := by omega
            have hjs : j < sl.length := by rw [Hsl.out]; exact hjl
            obtain ⟨b, o, rfl, hbS, hbl, hyok, e0, e1, e2, e3, e4⟩ := seal_at (Hs5.out.to Hb6.out) hjs
            generalize sl[j] = y at *
            clear hjs
            obtain ⟨o1, r1, hae⟩ : ∃ o1 r1, addE t y = (o1, r1) := ⟨_, _, rfl⟩
            obtain ⟨o2, r2, hle2⟩ : ∃ o2 r2, liftE t y = (o2, r2) := ⟨_, _, rfl⟩
            have HAE := Lib.hid hae
            have HLE := Lib.hid hle2
            have HSE := Lib.hid ((slift_eq t y Htn.out).trans hle2)
            clear hae hle2
            have HE := Lib.hid (And.intro e0 (And.intro e1 (And.intro e2 (And.intro e3 e4))))
            have hcA := (Hb6.out.cell (p := ⟨XA, k, none⟩) hzA5).trans HC5.out
            have HCA := Lib.hid hcA
            have hzA6 : XA < wr.heap.size := Nat.lt_of_lt_of_le hzA5 hz6
            have Ht6 := Lib.hid (Ht5.out.to Hb6.out)
            have HP6 := Lib.hid (Below.refl wr.heap.size wr)
            go_wp2_with fail
            go_region_held3 (fun w' => w'.cell? ⟨XA, k, none⟩ = some (.slice A4 t.length c4) ∧ w'.cell? ⟨b, o + j * 5, none⟩ = some (.int .i64 y.e) ∧ w'.cell? ⟨b, o + j * 5 + 1, none⟩ = some (.int .i64 y.v) ∧ w'.cell? ⟨b, o + j * 5 + 2, none⟩ = some (.int .i64 y.f) ∧ w'.cell? ⟨b, o + j * 5 + 3, none⟩ = some (.int .i64 y.u) ∧ w'.cell? ⟨b, o + j * 5 + 4, none⟩ = some (.int .i64 y.g)) (first | exact ⟨hcc, x0, x1, x2, x3, x4⟩ | exact ⟨hcA, e0, e1, e2, e3, e4⟩)
              ((go_at_call 26; (with_reducible refine (sadd_any A4 c4 _ t y _ ((Ht6.out.to HP6.out).to ((Below.refl _ _).drew)) rfl hyok).mono ?_); rintro e w7 ⟨v7, rfl, hown7, hb7⟩; rw [HAE.out] at hown7 ⊢; dsimp only at hown7 ⊢; have hp7 := HP6.out.trans (((Below.refl _ _).drew.trans hb7).mono HP6.out.size); have hcc := (hp7.cell (p := ⟨XA, k, none⟩) hzA6).trans HCA.out; have x0 := (hp7.cell (p := ⟨b, o + j * 5, none⟩) hbl).trans HE.out.1; have x1 := (hp7.cell (p := ⟨b, o + j * 5 + 1, none⟩) hbl).trans HE.out.2.1; have x2 := (hp7.cell (p := ⟨b, o + j * 5 + 2, none⟩) hbl).trans HE.out.2.2.1; have x3 := (hp7.cell (p := ⟨b, o + j * 5 + 3, none⟩) hbl).trans HE.out.2.2.2.1; have x4 := (hp7.cell (p := ⟨b, o + j * 5 + 4, none⟩) hbl).trans HE.out.2.2.2.2))
            have HP7 := Lib.hid hp7
            obtain ⟨A7, c7, rfl, hs7⟩ := hown7.sl
            have Hs7 := Lib.hid hs7
            have HB7 := Lib.hid ((Below.refl wr.heap.size wr).drew.trans hb7)
            clear hown7 hs7 hb7 hp7 hcA e0 e1 e2 e3 e4
            have hcA := hcc
            have e0 := x0
            have e1 := x1
            have e2 := x2
            have e3 := x3
            have e4 := x4
            clear hcc x0 x1 x2 x3 x4
            go_wp2_with fail
            go_region_held3 (fun w' => w'.cell? ⟨XA, k, none⟩ = some (.slice A4 t.length c4) ∧ w'.cell? ⟨b, o + j * 5, none⟩ = some (.int .i64 y.e) ∧ w'.cell? ⟨b, o + j * 5 + 1, none⟩ = some (.int .i64 y.v) ∧ w'.cell? ⟨b, o + j * 5 + 2, none⟩ = some (.int .i64 y.f) ∧ w'.cell? ⟨b, o + j * 5 + 3, none⟩ = some (.int .i64 y.u) ∧ w'.cell? ⟨b, o + j * 5 + 4, none⟩ = some (.int .i64 y.g)) (first | exact ⟨hcc, x0, x1, x2, x3, x4⟩ | exact ⟨hcA, e0, e1, e2, e3, e4⟩)
              ((go_at_call 28; (with_reducible refine (radd_any A4 c4 _ t y _ ((Ht6.out.to HP7.out).to ((Below.refl _ _).drew)) rfl hyok).mono ?_); rintro e w8 ⟨v8, rfl, hown8, hb8⟩; rw [HAE.out] at hown8 ⊢; dsimp only at hown8 ⊢; have hp8 := HP7.out.trans (((Below.refl _ _).drew.trans hb8).mono HP7.out.size); have hcc := (hp8.cell (p := ⟨XA, k, none⟩) hzA6).trans HCA.out; have x0 := (hp8.cell (p := ⟨b, o + j * 5, none⟩) hbl).trans HE.out.1; have x1 := (hp8.cell (p := ⟨b, o + j * 5 + 1, none⟩) hbl).trans HE.out.2.1; have x2 := (hp8.cell (p := ⟨b, o + j * 5 + 2, none⟩) hbl).trans HE.out.2.2.1; have x3 := (hp8.cell (p := ⟨b, o + j * 5 + 3, none⟩) hbl).trans HE.out.2.2.2.1; have x4 := (hp8.cell (p := ⟨b, o + j * 5 + 4, none⟩) hbl).trans HE.out.2.2.2.2))
            have HP8 := Lib.hid hp8
            obtain ⟨A8, c8, rfl, hs8⟩ := hown8.sl
            have Hs8 := Lib.hid hs8
            have HB8 := Lib.hid ((Below.refl w7.heap.size w7).drew.trans hb8)
            clear hown8 hs8 hb8 hp8 hcA e0 e1 e2 e3 e4
            have hcA := hcc
            have e0 := x0
            have e1 := x1
            have e2 := x2
            have e3 := x3
            have e4 := x4
            clear hcc x0 x1 x2 x3 x4
            go_wp2_with fail
            go_region_held3 (fun w' => w'.cell? ⟨XA, k, none⟩ = some (.slice A4 t.length c4) ∧ w'.cell? ⟨b, o + j * 5, none⟩ = some (.int .i64 y.e) ∧ w'.cell? ⟨b, o + j * 5 + 1, none⟩ = some (.int .i64 y.v) ∧ w'.cell? ⟨b, o + j * 5 + 2, none⟩ = some (.int .i64 y.f) ∧ w'.cell? ⟨b, o + j * 5 + 3, none⟩ = some (.int .i64 y.u) ∧ w'.cell? ⟨b, o + j * 5 + 4, none⟩ = some (.int .i64 y.g)) (first | exact ⟨hcc, x0, x1, x2, x3, x4⟩ | exact ⟨hcA, e0, e1, e2, e3, e4⟩)
              ((go_at_call 29; (with_reducible refine (slift_any A4 c4 _ t y _ ((Ht6.out.to HP8.out).to ((Below.refl _ _).drew)) rfl (by omega)).mono ?_); rintro e w9 ⟨v9, rfl, hown9, hb9⟩; rw [HSE.out] at hown9 ⊢; dsimp only at hown9 ⊢; have hp9 := HP8.out.trans (((Below.refl _ _).drew.trans hb9).mono HP8.out.size); have hcc := (hp9.cell (p := ⟨XA, k, none⟩) hzA6).trans HCA.out; have x0 := (hp9.cell (p := ⟨b, o + j * 5, none⟩) hbl).trans HE.out.1; have x1 := (hp9.cell (p := ⟨b, o + j * 5 + 1, none⟩) hbl).trans HE.out.2.1; have x2 := (hp9.cell (p := ⟨b, o + j * 5 + 2, none⟩) hbl).trans HE.out.2.2.1; have x3 := (hp9.cell (p := ⟨b, o + j * 5 + 3, none⟩) hbl).trans HE.out.2.2.2.1; have x4 := (hp9.cell (p := ⟨b, o + j * 5 + 4, none⟩) hbl).trans HE.out.2.2.2.2))
            have HP9 := Lib.hid hp9
            obtain ⟨A9, c9, rfl, hs9⟩ := hown9.sl
            have Hs9 := Lib.hid hs9
            have HB9 := Lib.hid ((Below.refl w8.heap.size w8).drew.trans hb9)
            clear hown9 hs9 hb9 hp9 hcA e0 e1 e2 e3 e4
            have hcA := hcc
            have e0 := x0
            have e1 := x1
            have e2 := x2
            have e3 := x3
            have e4 := x4
            clear hcc x0 x1 x2 x3 x4
            go_wp2_with fail
            go_region_held3 (fun w' => w'.cell? ⟨XA, k, none⟩ = some (.slice A4 t.length c4) ∧ w'.cell? ⟨b, o + j * 5, none⟩ = some (.int .i64 y.e) ∧ w'.cell? ⟨b, o + j * 5 + 1, none⟩ = some (.int .i64 y.v) ∧ w'.cell? ⟨b, o + j * 5 + 2, none⟩ = some (.int .i64 y.f) ∧ w'.cell? ⟨b, o + j * 5 + 3, none⟩ = some (.int .i64 y.u) ∧ w'.cell? ⟨b, o + j * 5 + 4, none⟩ = some (.int .i64 y.g)) (first | exact ⟨hcc, x0, x1, x2, x3, x4⟩ | exact ⟨hcA, e0, e1, e2, e3, e4⟩)
              ((go_at_call 30; (with_reducible refine (rlift_any A4 c4 _ t y _ ((Ht6.out.to HP9.out).to ((Below.refl _ _).drew)) rfl (by omega) hyok).mono ?_); rintro e w10 ⟨v10, rfl, hown10, hb10⟩; rw [HLE.out] at hown10 ⊢; dsimp only at hown10 ⊢; have hp10 := HP9.out.trans (((Below.refl _ _).drew.trans hb10).mono HP9.out.size); have hcc := (hp10.cell (p := ⟨XA, k, none⟩) hzA6).trans HCA.out; have x0 := (hp10.cell (p := ⟨b, o + j * 5, none⟩) hbl).trans HE.out.1; have x1 := (hp10.cell (p := ⟨b, o + j * 5 + 1, none⟩) hbl).trans HE.out.2.1; have x2 := (hp10.cell (p := ⟨b, o + j * 5 + 2, none⟩) hbl).trans HE.out.2.2.1; have x3 := (hp10.cell (p := ⟨b, o + j * 5 + 3, none⟩) hbl).trans HE.out.2.2.2.1; have x4 := (hp10.cell (p := ⟨b, o + j * 5 + 4, none⟩) hbl).trans HE.out.2.2.2.2))
            have HP10 := Lib.hid hp10
            obtain ⟨A10, c10, rfl, hs10⟩ := hown10.sl
            have Hs10 := Lib.hid hs10
            have HB10 := Lib.hid ((Below.refl w9.heap.size w9).drew.trans hb10)
            clear hown10 hs10 hb10 hp10 hcA e0 e1 e2 e3 e4
            have hcA := hcc
            have e0 := x0
            have e1 := x1
            have e2 := x2
            have e3 := x3
            have e4 := x4
            clear hcc x0 x1 x2 x3 x4
            clear hcA e0 e1 e2 e3 e4
            go_wp2_with fail
            refine (same_seals A7 A8 c7 c8 o1 o1 _ (((Hs7.out.to HB8.out).to HB9.out).to HB10.out) ((Hs8.out.to HB9.out).to HB10.out)).mono ?_
            rintro e w11 ⟨rfl, hb11⟩
            rw [decide_eq_true rfl]
            have HB11 := Lib.hid hb11
            have HP11 := Lib.hid (HP10.out.trans (hb11.mono HP10.out.size))
            clear hb11
            go_wp2_with fail
            refine (same_seals A9 A10 c9 c10 o2 o2 _ ((Hs9.out.to HB10.out).to HB11.out) (Hs10.out.to HB11.out)).mono ?_
            rintro e w12 ⟨rfl, hb12⟩
            rw [decide_eq_true rfl]
            have HP12 := Lib.hid (Hb6.out.trans ((HP11.out.trans (hb12.mono HP11.out.size)).mono hz6))
            clear hb12
            go_wp2_with fail
            go_roundw
            case rel => exact ⟨j + 1, by omega, by go_num, HP12.out⟩
            case measure => simp [intOf]; omega
          · obtain rfl : j = 2 := by omega
            go_wp2_with fail
            go_roundw
            case rel => exact ⟨k + 1, by omega, by go_num, Hb4.out.trans ((Hb5.out.trans (Hb6.out.mono Hb5.out.size)).mono hz4)⟩
            case measure => simp [intOf]; omega
    · obtain rfl : k = 2 := by omega
      go_wp2_with fail
      refine (lives_any _).mono ?_
      rintro e w6 ⟨rfl, hb6⟩
      have Hb6 := Lib.hid (Hb3.out.trans ((Hb4.out.trans (hb6.mono hz4)).mono (Nat.le_of_lt hzx)))
      clear hb6
      go_wp2_with fail
      go_ret
      exact ⟨rfl, by rw [HX0.out]; exact Hb6.out⟩
end Go.Proofs.Ytfncpofcgalllaa
