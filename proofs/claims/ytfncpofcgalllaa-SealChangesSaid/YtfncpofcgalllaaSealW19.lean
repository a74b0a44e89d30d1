/- The examples of the chapter hold. No condition. -/
import Derived.Test.YtfncpofcgalllaaSealW18
namespace Go.Proofs.Ytfncpofcgalllaa
open Go.RowKit
attribute [local go_sem ↓] Go.wp_at_zero Go.wp_at_succ
/-- Hidden of the program, said of the words. -/
theorem hidden_c (A : Option Addr) (c n : Nat) (l : List Seal) (e v x : Int) (w : World) (hl : Sl w (fun b => b < w.heap.size) A c l) (hn : l.length = n) (hsz : n ≤ 12) (hx : I64 x) (hval : ∀ s ∈ l, 0 ≤ s.f ∧ s.f < s.u) :
    Calls Try.prog 23 #[.slice A n c, .int .i64 e, .int .i64 v, .int .i64 x] w fun r w' => ∃ y out, r = .returned y ∧ Canon (cov l e v) x 0 out ∧ Own w' w.heap.size 47 y out ∧ Below w.heap.size w w' :=
  (hidden_any A c n l e v x w hl hn hsz hx).mono fun _ _ ⟨y, m, h1, h2, h3, h4, h5⟩ => ⟨y, _, h1, hidTo_canon l m e v x h2 h3 hval, h4, h5⟩
/-- The seals of the examples. -/
def exL : List Seal := [⟨1, 5, 2, 4, 0⟩, ⟨1, 5, 3, 6, 2⟩, ⟨1, 7, 0, 9, 1⟩]
theorem exL_g : ∀ s ∈ exL, 0 ≤ s.g ∧ s.g < 16 := by decide
theorem exL_v : ∀ s ∈ exL, 0 ≤ s.f ∧ s.f < s.u := by decide
theorem exL_cov (x : Int) : cov exL 1 5 x ↔ (2 ≤ x ∧ x < 6) := by
  constructor
  · rintro ⟨s, hs, h⟩
    have h2 := (onP_iff _ _ _ _).1 h
    simp only [exL, List.mem_cons, List.not_mem_nil, or_false] at hs
    rcases hs with rfl | rfl | rfl <;> simp only at h2 <;> omega
  · intro h
    by_cases h4 : x < 4
    · exact ⟨⟨1, 5, 2, 4, 0⟩, by simp [exL], (onP_iff _ _ _ _).2 ⟨rfl, rfl, by simp only; omega, by simp only; omega⟩⟩
    · exact ⟨⟨1, 5, 3, 6, 2⟩, by simp [exL], (onP_iff _ _ _ _).2 ⟨rfl, rfl, by simp only; omega, by simp only; omega⟩⟩
theorem ex_can1 : Canon (cov exL 1 5) 10 0 [⟨2, 6⟩] := by
  refine ⟨by decide, by decide, by decide, fun x h1 h2 h => ?_, fun x h1 h2 => ?_, fun _ h => ?_, fun x h1 h2 h => ?_⟩
  · have := (exL_cov x).1 h; simp only at h2; omega
  · exact (exL_cov x).2 ⟨h1, h2⟩
  · have := (exL_cov _).1 h; simp only at this; omega
  · have := (exL_cov x).1 h; simp only at h1; omega
theorem ex_can2 : Canon (cov exL 1 5) 3 0 [⟨2, 3⟩] := by
  refine ⟨by decide, by decide, by decide, fun x h1 h2 h => ?_, fun x h1 h2 => ?_, fun h1 h => ?_, fun x h1 h2 h => ?_⟩
  · have := (exL_cov x).1 h; simp only at h2; omega
  · exact (exL_cov x).2 ⟨h1, by simp only at h2; omega⟩
  · simp only at h1; omega
  · simp only at h1; omega
set_option maxHeartbeats 4000000 in
set_option maxRecDepth 100000 in
theorem lives_any (w : World) : Calls Try.prog 17 #[] w fun e w' => e = .returned (.bool true) ∧ Below w.heap.size w w' := by
  have hsl : Sl (w.alloc (.cells #[.int .i64 1, .int .i64 5, .int .i64 2, .int .i64 4, .int .i64 0, .int .i64 1, .int .i64 5, .int .i64 3, .int .i64 6, .int .i64 2, .int .i64 1, .int .i64 7, .int .i64 0, .int .i64 9, .int .i64 1] 41))
      (fun b => b < (w.alloc (.cells #[.int .i64 1, .int .i64 5, .int .i64 2, .int .i64 4, .int .i64 0, .int .i64 1, .int .i64 5, .int .i64 3, .int .i64 6, .int .i64 2, .int .i64 1, .int .i64 7, .int .i64 0, .int .i64 9, .int .i64 1] 41)).heap.size) (some ⟨w.heap.size, 0, none⟩) 3 exL := by
    refine Sl.block (heap_alloc_new w _) (by simp) (by decide) (fun i hi => ?_)
    have : i = 0 ∨ i = 1 ∨ i = 2 := by simp [exL] at hi; omega
    rcases this with rfl | rfl | rfl
    · exact ⟨rfl, by simp only [exL, List.getElem_cons_zero, Seal.ok, I64]; omega⟩
    · exact ⟨rfl, by simp only [exL, List.getElem_cons_zero, List.getElem_cons_succ, Seal.ok, I64]; omega⟩
    · exact ⟨rfl, by simp only [exL, List.getElem_cons_zero, List.getElem_cons_succ, Seal.ok, I64]; omega⟩
  have Hs := Lib.hid hsl
  have Hb0 := Lib.hid (Below.refl (w.alloc (.cells #[.int .i64 1, .int .i64 5, .int .i64 2, .int .i64 4, .int .i64 0, .int .i64 1, .int .i64 5, .int .i64 3, .int .i64 6, .int .i64 2, .int .i64 1, .int .i64 7, .int .i64 0, .int .i64 9, .int .i64 1] 41)).heap.size (w.alloc (.cells #[.int .i64 1, .int .i64 5, .int .i64 2, .int .i64 4, .int .i64 0, .int .i64 1, .int .i64 5, .int .i64 3, .int .i64 6, .int .i64 2, .int .i64 1, .int .i64 7, .int .i64 0, .int .i64 9, .int .i64 1] 41)))
  have ok26 : Span.ok ⟨2, 6⟩ := ⟨⟨by decide, by decide⟩, ⟨by decide, by decide⟩⟩
  have ok23 : Span.ok ⟨2, 3⟩ := ⟨⟨by decide, by decide⟩, ⟨by decide, by decide⟩⟩
  clear hsl
  have HL0 := Lib.hid (heap_alloc_new w (.cells #[.int .i64 1, .int .i64 5, .int .i64 2, .int .i64 4, .int .i64 0, .int .i64 1, .int .i64 5, .int .i64 3, .int .i64 6, .int .i64 2, .int .i64 1, .int .i64 7, .int .i64 0, .int .i64 9, .int .i64 1] 41))
  have K1 := Lib.hid (show gset (exL.filter (onP 1 5 2)) = 1 from by decide)
  have K2 := Lib.hid (show gset (exL.filter (onP 1 5 3)) = 5 from by decide)
  have K3 := Lib.hid (show gset (exL.filter (onP 1 5 5)) = 4 from by decide)
  have K4 := Lib.hid (show gset (exL.filter (onP 1 5 6)) = 0 from by decide)
  have M1 := Lib.hid (show may (gset (exL.filter (onP 1 5 2))) 1 = true from by decide)
  have M2 := Lib.hid (show may (gset (exL.filter (onP 1 5 3))) 1 = false from by decide)
  have A1 := Lib.hid (show addE exL ⟨1, 5, 3, 6, 2⟩ = ([], 4) from by decide)
  have A2 := Lib.hid (show addE exL ⟨0, 0, 4, 4, 0⟩ = ([], 5) from by decide)
  have A3 := Lib.hid (show addE exL ⟨0, 0, 4, 5, 16⟩ = ([], 5) from by decide)
  have C1 := Lib.hid (show chk exL = 0 from by decide)
  go_enter Try.func17, Try.ntmps17
  go_wp2_with fail
  refine (groups_any _ 3 3 exL 1 5 2 _ Hs.out rfl (by decide) exL_g).mono ?_
  rintro e w1 ⟨rfl, hb1⟩
  rw [K1.out]
  have Hs1 := Lib.hid (Hs.out.to hb1)
  have Hb1 := Lib.hid (Hb0.out.trans (hb1.mono Hb0.out.size))
  clear hb1
  go_wp2_with fail
  refine (groups_any _ 3 3 exL 1 5 3 _ Hs1.out rfl (by decide) exL_g).mono ?_
  rintro e w2 ⟨rfl, hb1⟩
  rw [K2.out]
  have Hs2 := Lib.hid (Hs1.out.to hb1)
  have Hb2 := Lib.hid (Hb1.out.trans (hb1.mono Hb1.out.size))
  clear hb1
  go_wp2_with fail
  refine (groups_any _ 3 3 exL 1 5 5 _ Hs2.out rfl (by decide) exL_g).mono ?_
  rintro e w3 ⟨rfl, hb1⟩
  rw [K3.out]
  have Hs3 := Lib.hid (Hs2.out.to hb1)
  have Hb3 := Lib.hid (Hb2.out.trans (hb1.mono Hb2.out.size))
  clear hb1
  go_wp2_with fail
  refine (groups_any _ 3 3 exL 1 5 6 _ Hs3.out rfl (by decide) exL_g).mono ?_
  rintro e w4 ⟨rfl, hb1⟩
  rw [K4.out]
  have Hs4 := Lib.hid (Hs3.out.to hb1)
  have Hb4 := Lib.hid (Hb3.out.trans (hb1.mono Hb3.out.size))
  clear hb1
  go_wp2_with fail
  refine (may_any _ 3 3 exL 1 1 5 2 _ Hs4.out rfl (by decide) exL_g).mono ?_
  rintro e w5 ⟨rfl, hb1⟩
  rw [M1.out]
  have Hs5 := Lib.hid (Hs4.out.to hb1)
  have Hb5 := Lib.hid (Hb4.out.trans (hb1.mono Hb4.out.size))
  clear hb1
  go_wp2_with fail
  refine (may_any _ 3 3 exL 1 1 5 3 _ Hs5.out rfl (by decide) exL_g).mono ?_
  rintro e w6 ⟨rfl, hb1⟩
  rw [M2.out]
  have Hs6 := Lib.hid (Hs5.out.to hb1)
  have Hb6 := Lib.hid (Hb5.out.trans (hb1.mono Hb5.out.size))
  clear hb1
  go_wp2_with fail
  refine (hidden_c _ 3 3 exL 1 5 10 _ Hs6.out rfl (by decide) ⟨by decide, by decide⟩ exL_v).mono ?_
  rintro e w7 ⟨y, out, rfl, hcan, hown, hb1⟩
  obtain rfl := hcan.unique ex_can1
  obtain ⟨A7x, c7x, rfl, hsy⟩ := hown.sl
  have Hs7 := Lib.hid (Hs6.out.to hb1)
  have Hb7 := Lib.hid (Hb6.out.trans (hb1.mono Hb6.out.size))
  have Hy := Lib.hid hsy
  clear hb1 hown hcan hsy
  go_wp2_with fail
  refine (same_spans A7x (some ⟨w7.heap.size, 0, none⟩) c7x 1 [⟨2, 6⟩] [⟨2, 6⟩] _ (Hy.out.alloc _) (Sl.block (heap_alloc_new w7 _) (by simp) (by decide) (fun i hi => by
    obtain rfl : i = 0 := by simp at hi; omega
    exact ⟨rfl, ok26⟩))).mono ?_
  rintro e w8 ⟨rfl, hb1⟩
  rw [decide_eq_true rfl]
  have hbb1 : Below w7.heap.size w7 w8 := ((Below.refl _ _).alloc (Nat.le_refl _) _).trans (hb1.mono (by simp))
  have Hs8 := Lib.hid (Hs7.out.to hbb1)
  have Hb8 := Lib.hid (Hb7.out.trans (hbb1.mono Hb7.out.size))
  clear hb1 hbb1 Hy
  go_wp2_with fail
  refine (hidden_c _ 3 3 exL 1 5 3 _ Hs8.out rfl (by decide) ⟨by decide, by decide⟩ exL_v).mono ?_
  rintro e w9 ⟨y, out, rfl, hcan, hown, hb1⟩
  obtain rfl := hcan.unique ex_can2
  obtain ⟨A9x, c9x, rfl, hsy⟩ := hown.sl
  have Hs9 := Lib.hid (Hs8.out.to hb1)
  have Hb9 := Lib.hid (Hb8.out.trans (hb1.mono Hb8.out.size))
  have Hy := Lib.hid hsy
  clear hb1 hown hcan hsy
  go_wp2_with fail
  refine (same_spans A9x (some ⟨w9.heap.size, 0, none⟩) c9x 1 [⟨2, 3⟩] [⟨2, 3⟩] _ (Hy.out.alloc _) (Sl.block (heap_alloc_new w9 _) (by simp) (by decide) (fun i hi => by
    obtain rfl : i = 0 := by simp at hi; omega
    exact ⟨rfl, ok23⟩))).mono ?_
  rintro e w10 ⟨rfl, hb1⟩
  rw [decide_eq_true rfl]
  have hbb1 : Below w9.heap.size w9 w10 := ((Below.refl _ _).alloc (Nat.le_refl _) _).trans (hb1.mono (by simp))
  have Hs10 := Lib.hid (Hs9.out.to hbb1)
  have Hb10 := Lib.hid (Hb9.out.trans (hbb1.mono Hb9.out.size))
  clear hb1 hbb1 Hy
  have hL := (Hb10.out.block w.heap.size (by simp)).trans HL0.out
  have e0 := cell_of_row w10 _ 5 _ _ _ hL
  have e1 := cell_of_row w10 _ 6 _ _ _ hL
  have e2 := cell_of_row w10 _ 7 _ _ _ hL
  have e3 := cell_of_row w10 _ 8 _ _ _ hL
  have e4 := cell_of_row w10 _ 9 _ _ _ hL
  simp only [List.getElem?_toArray, List.getElem?_cons_succ, List.getElem?_cons_zero] at e0 e1 e2 e3 e4
  clear hL ok26 ok23
  go_wp2_with fail
  refine (sadd_any _ 3 3 exL ⟨1, 5, 3, 6, 2⟩ _ Hs10.out rfl (by refine ⟨⟨?_, ?_⟩, ⟨?_, ?_⟩, ⟨?_, ?_⟩, ⟨?_, ?_⟩, ⟨?_, ?_⟩⟩ <;> decide)).mono ?_
  rintro e w11 ⟨v11, rfl, hown, hb1⟩
  rw [A1.out]
  have Hs11 := Lib.hid (Hs10.out.to hb1)
  have Hb11 := Lib.hid (Hb10.out.trans (hb1.mono Hb10.out.size))
  clear hb1 hown
  clear e0 e1 e2 e3 e4
  go_wp2_with fail
  refine (sadd_any _ 3 3 exL ⟨0, 0, 4, 4, 0⟩ _ Hs11.out rfl (by refine ⟨⟨?_, ?_⟩, ⟨?_, ?_⟩, ⟨?_, ?_⟩, ⟨?_, ?_⟩, ⟨?_, ?_⟩⟩ <;> decide)).mono ?_
  rintro e w12 ⟨v12, rfl, hown, hb1⟩
  rw [A2.out]
  have Hs12 := Lib.hid (Hs11.out.to hb1)
  have Hb12 := Lib.hid (Hb11.out.trans (hb1.mono Hb11.out.size))
  clear hb1 hown
  go_wp2_with fail
  refine (sadd_any _ 3 3 exL ⟨0, 0, 4, 5, 16⟩ _ Hs12.out rfl (by refine ⟨⟨?_, ?_⟩, ⟨?_, ?_⟩, ⟨?_, ?_⟩, ⟨?_, ?_⟩, ⟨?_, ?_⟩⟩ <;> decide)).mono ?_
  rintro e w13 ⟨v13, rfl, hown, hb1⟩
  rw [A3.out]
  have Hs13 := Lib.hid (Hs12.out.to hb1)
  have Hb13 := Lib.hid (Hb12.out.trans (hb1.mono Hb12.out.size))
  clear hb1 hown
  go_wp2_with fail
  refine (scheck_any _ 3 3 exL _ Hs13.out rfl).mono ?_
  rintro e w14 ⟨rfl, hb1⟩
  rw [C1.out]
  have Hs14 := Lib.hid (Hs13.out.to hb1)
  have Hb14 := Lib.hid (Hb13.out.trans (hb1.mono Hb13.out.size))
  clear hb1
  go_wp2_with fail
  go_ret
  exact ⟨rfl, ((Below.refl _ _).alloc (Nat.le_refl _) _).trans (Hb14.out.mono (by simp))⟩
end Go.Proofs.Ytfncpofcgalllaa
