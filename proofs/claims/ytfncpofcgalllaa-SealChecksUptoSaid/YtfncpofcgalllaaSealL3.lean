/- SealChecks returns true for all arguments that fit. -/
import Derived.Test.YtfncpofcgalllaaSealW19
import Derived.Test.YtfncpofcgalllaaSealLaw
namespace Go.Proofs.Ytfncpofcgalllaa
open Go.RowKit
attribute [local go_sem ↓] Go.wp_at_zero Go.wp_at_succ
theorem many_i (z : Int) (n : Nat) (w : World) (hz : z = (n : Int)) (hn : n ≤ 2000) :
    Calls Try.prog 13 #[.int .i64 z] w fun e w' => ∃ v, e = .returned v ∧ Own w' w.heap.size 41 v (manyS n) ∧ Below w.heap.size w w' := by
  subst hz; exact many_any n w hn
set_option maxRecDepth 100000 in
set_option maxHeartbeats 4000000 in
theorem checks_any (A : Option Addr) (c : Nat) (l : List Int) (B : Option Addr) (d : Nat) (raw : List Seal) (n : Int) (w : World) (hl : Sl w (fun b => b < w.heap.size) A c l) (hraw : Sl w (fun b => b < w.heap.size) B d raw) (hn : I64 n) (hrl : raw.length ≤ 1048576) :
    Calls Try.prog 3 #[.slice A l.length c, .slice B raw.length d, .int .i64 n] w fun e w' => e = .returned (.bool true) ∧ Below w.heap.size w w' := by
  have hle := seals_le l
  have Hchk := Lib.hid (seals_chk l)
  have Hraw := Lib.hid hraw
  clear hraw
  go_enter Try.func3, Try.ntmps3
  go_wp2_with fail
  refine (seals_any A c l w hl).mono ?_
  rintro e w1 ⟨v, rfl, hown, hb⟩
  obtain ⟨A1, c1, rfl, hs⟩ := hown.sl
  generalize hll : seals l = m at *
  have Hs := Lib.hid hs
  have Hb := Lib.hid hb
  have Hr1 := Lib.hid (Hraw.out.to hb)
  have hz1 := hb.size
  clear hs hb hown hll
  go_wp2_with (first
    | (at_builtin; refine wpList_cat (α := Seal) _ rfl (.tmp 13) (.tmp 14) 23 rfl w1.heap.size 41 (.agg #[.int .i64 0, .int .i64 0, .int .i64 0, .int .i64 0, .int .i64 0]) 40 Try.underlying23 seal_info rfl (by decide) (.slice (some ⟨w1.heap.size, 0, none⟩) 0 0) [] rfl (Own.made w1 _ _ (Nat.le_refl _)) A1 c1 m.length m rfl rfl (fun b => b < w1.heap.size) (Hs.out.keep (Kept.all ((Below.refl _ _).alloc (Nat.le_refl _) _)) (by simp)) (by intro i (hi : i < w1.heap.size) _ e; simp [Value.ownBlock] at e; omega) (by first | omega | (simp; done) | (simp; omega)) (by first | omega | (simp; done) | (simp; omega)) (by first | omega | (simp; done) | (simp; omega)) ?_; intro v2 w2 hown2 hg2 hat2; have hb2 := below_cat ((Below.refl w1.heap.size w1).alloc (Nat.le_refl _) _) (Own.made (α := Seal) w1 _ _ (Nat.le_refl _)) (by simp) hg2; rw [List.nil_append] at hown2; have hS2 := Lib.hid (show ∀ i, i < w1.heap.size → i < w2.heap.size → some i ≠ v2.ownBlock from fun i hi _ e => by have := (hown2.lt i e.symm).1; omega); have hz2 := hb2.size; have Hb2 := Lib.hid hb2; clear hb2 hat2 hg2)
    | (at_builtin; refine wpList_cat (α := Seal) _ rfl (.tmp 15) (.tmp 16) 23 rfl w1.heap.size 41 (.agg #[.int .i64 0, .int .i64 0, .int .i64 0, .int .i64 0, .int .i64 0]) 40 Try.underlying23 seal_info rfl (by decide) v2 m rfl hown2 B d raw.length raw rfl rfl (fun b => b < w1.heap.size) (Hr1.out.keep (Kept.all Hb2.out) Hb2.out.size) hS2.out (by first | omega | (simp; done) | (simp; omega)) (by first | omega | (simp; done) | (simp; omega)) (by first | omega | (simp; done) | (simp; omega)) ?_; intro v3 w3 hown3 hg3 hat3))
  have Hb3 := Lib.hid (below_cat Hb2.out hown2 hz2 hg3)
  obtain ⟨A3, c3, rfl, hs3⟩ := hown3.sl
  have hlen3 : (m ++ raw).length ≤ 1048600 := by simp; omega
  generalize m ++ raw = bb at *
  have Hs3 := Lib.hid hs3
  have hz3 := Hb3.out.size
  clear hown2 hown3 hg3 hat3 hs3 hS2 Hb2 hz2
  have ha := aro_lt n 5 (by omega)
  obtain ⟨q, hq⟩ := Int.eq_ofNat_of_zero_le ha.1
  have Hq := Lib.hid hq
  rw [hq] at ha
  have hq5 : q < 5 := by omega
  clear ha hq
  go_wp2_with fail
  refine (around_any n 5 _ hn (by omega) (by omega)).mono ?_
  rintro e w4 ⟨rfl, rfl⟩
  rw [Hq.out]
  have hq2 : 998 + q ≤ 2000 := by omega
  go_wp2_with fail
  refine (many_i _ (998 + q) _ (by omega) hq2).mono ?_
  rintro e w5 ⟨v5, rfl, hown5, hb5⟩
  obtain ⟨A5, c5, rfl, hs5⟩ := hown5.sl
  have hlen5 : (manyS (998 + q)).length ≤ 2000 := by rw [manyS_length]; omega
  generalize manyS (998 + q) = mm at *
  have Hs5 := Lib.hid hs5
  have Hb5 := Lib.hid (Hb3.out.trans (hb5.mono hz3))
  have Ha := Lib.hid (Hs.out.to Hb5.out)
  have Hr := Lib.hid (Hr1.out.to Hb5.out)
  have Hc := Lib.hid (Hs3.out.to hb5)
  have hz5 := Hb5.out.size
  clear hs5 hb5 hown5
  have Hbw := Lib.hid (Below.refl w5.heap.size w5)
  go_wp2_with fail
  refine (scheck_any A1 c1 _ m _ (Ha.out.to Hbw.out) rfl).mono ?_
  rintro e w6 ⟨rfl, hb6⟩
  replace Hbw := Lib.hid (Hbw.out.trans (hb6.mono Hbw.out.size))
  clear hb6
  rw [Hchk.out]
  go_wp2_with fail
  refine (scheck_any B d _ raw _ (Hr.out.to Hbw.out) rfl).mono ?_
  rintro e w7 ⟨rfl, hb7⟩
  replace Hbw := Lib.hid (Hbw.out.trans (hb7.mono Hbw.out.size))
  clear hb7
  go_wp2_with fail
  refine (rcheck_any B d raw _ (Hr.out.to Hbw.out)).mono ?_
  rintro e w8 ⟨rfl, hb8⟩
  replace Hbw := Lib.hid (Hbw.out.trans (hb8.mono Hbw.out.size))
  clear hb8
  go_wp2_with fail
  refine (scheck_any A3 c3 _ bb _ (Hc.out.to Hbw.out) rfl).mono ?_
  rintro e w9 ⟨rfl, hb9⟩
  replace Hbw := Lib.hid (Hbw.out.trans (hb9.mono Hbw.out.size))
  clear hb9
  go_wp2_with fail
  refine (rcheck_any A3 c3 bb _ (Hc.out.to Hbw.out)).mono ?_
  rintro e w10 ⟨rfl, hb10⟩
  replace Hbw := Lib.hid (Hbw.out.trans (hb10.mono Hbw.out.size))
  clear hb10
  go_wp2_with fail
  refine (scheck_any A5 c5 _ mm _ (Hs5.out.to Hbw.out) rfl).mono ?_
  rintro e w11 ⟨rfl, hb11⟩
  replace Hbw := Lib.hid (Hbw.out.trans (hb11.mono Hbw.out.size))
  clear hb11
  go_wp2_with fail
  refine (rcheck_any A5 c5 mm _ (Hs5.out.to Hbw.out)).mono ?_
  rintro e w12 ⟨rfl, hb12⟩
  replace Hbw := Lib.hid (Hbw.out.trans (hb12.mono Hbw.out.size))
  clear hb12
  go_wp2_with fail
  refine (lives_any _).mono ?_
  rintro e w13 ⟨rfl, hb13⟩
  have Hb13 := Lib.hid (Hb.out.trans ((Hb5.out.trans ((Hbw.out.trans (hb13.mono Hbw.out.size)).mono hz5)).mono hz1))
  clear hb13
  go_wp2_with fail
  go_ret
  exact ⟨rfl, Hb13.out⟩
end Go.Proofs.Ytfncpofcgalllaa
