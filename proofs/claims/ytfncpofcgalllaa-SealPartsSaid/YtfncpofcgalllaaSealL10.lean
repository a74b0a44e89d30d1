/- SealParts returns true for all arguments. -/
import Derived.Test.YtfncpofcgalllaaSealW19
import Derived.Test.YtfncpofcgalllaaSealLaw6
import Derived.IntWalk
namespace Go.Proofs.Ytfncpofcgalllaa
open Go.RowKit
theorem three_boxes (w : World) (a b c : Obj) (n : Nat) : Below w.heap.size w ((((w.alloc a).drewN n).alloc b).alloc c) ∧ ((((w.alloc a).drewN n).alloc b).alloc c).heap[w.heap.size]? = some a ∧ ((((w.alloc a).drewN n).alloc b).alloc c).heap[w.heap.size + 1]? = some b ∧
    ((((w.alloc a).drewN n).alloc b).alloc c).heap[w.heap.size + 1 + 1]? = some c ∧ w.heap.size + 3 ≤ ((((w.alloc a).drewN n).alloc b).alloc c).heap.size := by
  have h1 : ((w.alloc a).drewN n).heap.size = w.heap.size + 1 := by show (w.alloc a).heap.size = _; simp
  have h2 : (((w.alloc a).drewN n).alloc b).heap.size = w.heap.size + 2 := by show (Array.push _ _).size = _; rw [Array.size_push, h1]
  have h3 : ((((w.alloc a).drewN n).alloc b).alloc c).heap.size = w.heap.size + 3 := by show (Array.push _ _).size = _; rw [Array.size_push, h2]
  refine ⟨((Below.dn ((Below.refl _ _).alloc (Nat.le_refl _) _) n).alloc (by omega) _).alloc (by omega) _, ?_, ?_, ?_, by omega⟩
  · exact (Below.heap_alloc _ _ _ (by omega)).trans ((Below.heap_alloc _ _ _ (by omega)).trans (heap_at_dn rfl))
  · exact (Below.heap_alloc _ _ _ (by omega)).trans (heap_at (by omega))
  · exact heap_at (by omega)
attribute [local go_sem ↓] Go.wp_at_zero Go.wp_at_succ
set_option maxRecDepth 100000 in
set_option maxHeartbeats 4000000 in
theorem parts_any (A : Option Addr) (c : Nat) (l : List Int) (n1 n2 : Int) (w : World) (hl : Sl w (fun b => b < w.heap.size) A c l) (hn1 : I64 n1) (hn2 : I64 n2) :
    Calls Try.prog 10 #[.slice A l.length c, .int .i64 n1, .int .i64 n2] w fun e w' => e = .returned (.bool true) ∧ Below w.heap.size w w' := by
  have hle := seals_le l
  have Hm := Lib.hid (seals_small l)
  go_enter Try.func10, Try.ntmps10
  go_wp2_with fail
  refine (seals_any A c l w hl).mono ?_
  rintro e w1 ⟨v, rfl, hown, hb⟩
  obtain ⟨A1, c1, rfl, hs⟩ := hown.sl
  generalize hll : seals l = m at *
  have Hs := Lib.hid hs
  have Hb := Lib.hid hb
  have hz1 := hb.size
  clear hs hb hown hll
  by_cases hm0 : m.length = 0
  · have hm0' := hm0
    rw [hm0]
    clear hm0
    go_wp2_with fail
    refine (lives_any _).mono ?_
    rintro e w2 ⟨rfl, hb2⟩
    go_wp2_with fail
    go_ret
    exact ⟨rfl, Hb.out.trans (hb2.mono hz1)⟩
  · have hmp : 1 ≤ m.length := by omega
    have hmp1 : (1 : Int) ≤ (m.length : Int) := by omega
    have hB : ((m.length : Int) == 0) = false := by rw [beq_eq_false_iff_ne]; omega
    have hx := aro_lt n1 m.length (by omega)
    clear hm0
    go_wp2_with fail
    refine (around_any n1 m.length _ hn1 (by omega) (by omega)).mono ?_
    rintro e w2 ⟨rfl, rfl⟩
    obtain ⟨x, e1⟩ := Int.eq_ofNat_of_zero_le hx.1
    rw [e1] at hx
    rw [e1]
    clear e1
    have hxm : x < m.length := by omega
    have hx1 : (x : Int) < (m.length : Int) := by omega
    have hx0 : (0 : Int) ≤ (x : Int) := by omega
    obtain ⟨b, o, rfl, hbS, hbl, hok, d0, d1, d2, d3, d4⟩ := seal_at Hs.out hxm
    have Hin := Lib.hid (List.getElem_mem hxm)
    have hsm := Hm.out m[x] Hin.out
    generalize m[x] = s at *
    clear hx
    have hsf : 0 ≤ s.f ∧ s.f < s.u ∧ s.u ≤ 34 := by simp only [small] at hsm; omega
    obtain ⟨hs0, hs1, hs2⟩ := hsf
    have HW := Lib.hid hB
    clear hB
    have hsub : IntKind.i64.wrap (s.u - s.f) = s.u - s.f := IntWalk.i64_in _ (by omega)
    have hk := aro_lt n2 (s.u - s.f) (by omega)
    have hadd : IntKind.i64.wrap (s.f + aro n2 (s.u - s.f)) = s.f + aro n2 (s.u - s.f) := IntWalk.i64_in _ (by omega)
    go_wp2_with fail
    go_quiet ((go_at_call 14; exact Calls.quiet_of_same ((around_any n2 (s.u - s.f) _ hn2 (by omega) (by omega)).mono fun _ _ h => ⟨h.1, h.2.symm⟩)))
    clear hsub hadd
    obtain ⟨k, hkk⟩ : ∃ k, s.f + aro n2 (s.u - s.f) = k := ⟨_, rfl⟩
    rw [hkk]
    have hk0 : s.f ≤ k := by omega
    have hk1 : k < s.u := by omega
    clear hk hkk
    go_wp2_with fail
    generalize hW2 : (((w1.alloc (.cells #[.int .i64 s.e, .int .i64 s.v, .int .i64 s.f, .int .i64 s.u, .int .i64 s.g] 41)).drewN nq).alloc (.cells #[.int .i64 s.e, .int .i64 s.v, .int .i64 s.f, .int .i64 k, .int .i64 s.g] 41)).alloc (.cells #[.int .i64 s.e, .int .i64 s.v, .int .i64 k, .int .i64 s.u, .int .i64 s.g] 41) = w2 at *
    obtain ⟨Hb2, B0, B1, B2, hz2⟩ := three_boxes w1 (.cells #[.int .i64 s.e, .int .i64 s.v, .int .i64 s.f, .int .i64 s.u, .int .i64 s.g] 41) (.cells #[.int .i64 s.e, .int .i64 s.v, .int .i64 s.f, .int .i64 k, .int .i64 s.g] 41) (.cells #[.int .i64 s.e, .int .i64 s.v, .int .i64 k, .int .i64 s.u, .int .i64 s.g] 41) nq
    rw [hW2] at Hb2 B0 B1 B2 hz2
    clear hW2
    have hb12 := Hb2
    have HB2 := Lib.hid (Hb.out.trans (Hb2.mono hz1))
    have Hs2 := Lib.hid (Hs.out.to Hb2)
    clear hb12 Hb2
    have HB0 := Lib.hid B0
    have HB1 := Lib.hid B1
    have HB3 := Lib.hid B2
    clear B0 B1 B2
    generalize w1.heap.size = X at *
    refine (slift_any _ c1 _ m s w2 Hs2.out rfl (by omega)).mono ?_
    rintro e w3 ⟨v3, rfl, hown3, hb3⟩
    rw [sliftE_mem Hin.out] at *
    obtain ⟨A3, c3, rfl, hs3⟩ := hown3.sl
    have Hs3 := Lib.hid hs3
    have Hr := Lib.hid (restS_small (s := s) Hm.out)
    have hrl := restS_le m s
    have C0 := Lib.hid ((hb3.block _ (by omega)).trans HB0.out)
    have C1 := Lib.hid ((hb3.block _ (by omega)).trans HB1.out)
    have C2 := Lib.hid ((hb3.block _ (by omega)).trans HB3.out)
    have Hb3 := Lib.hid (HB2.out.trans (hb3.mono HB2.out.size))
    have Hs13 := Lib.hid (Hs2.out.to hb3)
    have hz3 : X + 3 ≤ w3.heap.size := by have := hb3.size; omega
    clear hown3 hs3 hb3 HB0 HB1 HB3 HB2 Hs2 hz2
    have Hp1 := Lib.hid (parts_one Hin.out)
    have Hp2 := Lib.hid (fun h => parts_two (k := k) Hin.out h hk1)
    clear Hin
    generalize hrr : restS m s = r at *
    clear hrr
    obtain ⟨e0, e1, e2, e3, e4⟩ := seal_box (s := s) C0.out
    obtain ⟨f0, f1, f2, f3, f4⟩ := seal_box (s := firstS s k) C1.out
    obtain ⟨g0, g1, g2, g3, g4⟩ := seal_box (s := secondS s k) C2.out
    simp only [firstS, secondS] at f0 f1 f2 f3 f4 g0 g1 g2 g3 g4
    by_cases hkf : s.f < k
    · go_wp2_with fail
      refine (sadd_any A3 c3 _ r (firstS s k) _ Hs3.out rfl (firstS_small hsm hkf hk1).ok).mono ?_
      rintro e w4 ⟨v4, rfl, hown4, hb4⟩
      have Hy := Lib.hid (putS_small Hr.out (firstS_small hsm hkf hk1))
      have hyl := putS_le r (firstS s k)
      have Hp := Lib.hid (Hp2.out hkf)
      have Hb4 := Lib.hid hb4
      have Hs4 := Lib.hid (Hs3.out.to hb4)
      have D2 := Lib.hid ((hb4.block _ (by omega)).trans C2.out)
      clear hb4 e0 e1 e2 e3 e4 f0 f1 f2 f3 f4 g0 g1 g2 g3 g4
      obtain ⟨g0, g1, g2, g3, g4⟩ := seal_box (s := secondS s k) D2.out
      simp only [secondS] at g0 g1 g2 g3 g4
      rcases addE_put (m := r) (s := firstS s k) (firstS_small hsm hkf hk1).vld (by omega) with ⟨ha, hni⟩ | ⟨ha, hput⟩
      · rw [ha] at hown4 ⊢
        obtain ⟨A5, c5, rfl, hs5⟩ := hown4.sl
        have Hs5 := Lib.hid hs5
        clear ha hni hown4 hs5
        generalize putS r (firstS s k) = r1 at *
        go_wp2_with fail
        refine (sadd_any A5 c5 _ r1 (secondS s k) _ Hs5.out rfl (secondS_small hsm hk0 hk1).ok).mono ?_
        rintro e w6 ⟨v6, rfl, hown6, hb6⟩
        have Hz := Lib.hid (putS_small Hy.out (secondS_small hsm hk0 hk1))
        have hzl := putS_le r1 (secondS s k)
        have Hal := Lib.hid (Hp.out)
        have Hb6 := Lib.hid (Hb4.out.trans (hb6.mono Hb4.out.size))
        have Hs6 := Lib.hid (Hs5.out.to hb6)
        clear hb6
        rcases addE_put (m := r1) (s := secondS s k) (secondS_small hsm hk0 hk1).vld (by omega) with ⟨ha, hni⟩ | ⟨ha, hput⟩
        · rw [ha] at hown6 ⊢
          obtain ⟨A6, c6, rfl, hs6⟩ := hown6.sl
          have Hs7 := Lib.hid hs6
          clear ha hni hown6 hs6 g0 g1 g2 g3 g4
          generalize putS r1 (secondS s k) = q at *
          go_wp2_with fail
          refine (equal_any _ _ c1 c6 _ _ m q _ (Hs13.out.to Hb6.out) (Hs7.out) rfl rfl (fit_of Hm.out (by omega)) (fit_of Hz.out (by omega)) Hal.out).mono ?_
          rintro e w8 ⟨rfl, hb8⟩
          have Hb8 := Lib.hid (Hb6.out.trans (hb8.mono Hb6.out.size))
          clear hb8
          go_wp2_with fail
          refine (lives_any _).mono ?_
          rintro e w9 ⟨rfl, hb9⟩
          have Hb9 := Lib.hid (Hb3.out.trans ((Hb8.out.trans (hb9.mono Hb8.out.size)).mono Hb3.out.size))
          clear hb9
          go_wp2_with fail
          go_ret
          exact ⟨rfl, Hb9.out⟩
        · rw [ha] at hown6 ⊢
          have Hput := Lib.hid hput
          clear ha hput hown6 g0 g1 g2 g3 g4
          go_wp2_with fail
          refine (equal_any _ _ c1 c5 _ _ m r1 _ (Hs13.out.to Hb6.out) (Hs6.out) rfl rfl (fit_of Hm.out (by omega)) (fit_of Hy.out (by omega)) (by rw [← Hput.out]; exact Hal.out)).mono ?_
          rintro e w8 ⟨rfl, hb8⟩
          have Hb8 := Lib.hid (Hb6.out.trans (hb8.mono Hb6.out.size))
          clear hb8
          go_wp2_with fail
          refine (lives_any _).mono ?_
          rintro e w9 ⟨rfl, hb9⟩
          have Hb9 := Lib.hid (Hb3.out.trans ((Hb8.out.trans (hb9.mono Hb8.out.size)).mono Hb3.out.size))
          clear hb9
          go_wp2_with fail
          go_ret
          exact ⟨rfl, Hb9.out⟩
      · rw [ha] at hown4 ⊢
        rw [hput] at Hp hyl
        clear ha hput hown4
        go_wp2_with fail
        refine (sadd_any A3 c3 _ r (secondS s k) _ Hs4.out rfl (secondS_small hsm hk0 hk1).ok).mono ?_
        rintro e w6 ⟨v6, rfl, hown6, hb6⟩
        have Hz := Lib.hid (putS_small Hr.out (secondS_small hsm hk0 hk1))
        have hzl := putS_le r (secondS s k)
        have Hal := Lib.hid (Hp.out)
        have Hb6 := Lib.hid (Hb4.out.trans (hb6.mono Hb4.out.size))
        have Hs6 := Lib.hid (Hs4.out.to hb6)
        clear hb6
        rcases addE_put (m := r) (s := secondS s k) (secondS_small hsm hk0 hk1).vld (by omega) with ⟨ha, hni⟩ | ⟨ha, hput⟩
        · rw [ha] at hown6 ⊢
          obtain ⟨A6, c6, rfl, hs6⟩ := hown6.sl
          have Hs7 := Lib.hid hs6
          clear ha hni hown6 hs6 g0 g1 g2 g3 g4
          generalize putS r (secondS s k) = q at *
          go_wp2_with fail
          refine (equal_any _ _ c1 c6 _ _ m q _ (Hs13.out.to Hb6.out) (Hs7.out) rfl rfl (fit_of Hm.out (by omega)) (fit_of Hz.out (by omega)) Hal.out).mono ?_
          rintro e w8 ⟨rfl, hb8⟩
          have Hb8 := Lib.hid (Hb6.out.trans (hb8.mono Hb6.out.size))
          clear hb8
          go_wp2_with fail
          refine (lives_any _).mono ?_
          rintro e w9 ⟨rfl, hb9⟩
          have Hb9 := Lib.hid (Hb3.out.trans ((Hb8.out.trans (hb9.mono Hb8.out.size)).mono Hb3.out.size))
          clear hb9
          go_wp2_with fail
          go_ret
          exact ⟨rfl, Hb9.out⟩
        · rw [ha] at hown6 ⊢
          have Hput := Lib.hid hput
          clear ha hput hown6 g0 g1 g2 g3 g4
          go_wp2_with fail
          refine (equal_any _ _ c1 c3 _ _ m r _ (Hs13.out.to Hb6.out) (Hs6.out) rfl rfl (fit_of Hm.out (by omega)) (fit_of Hr.out (by omega)) (by rw [← Hput.out]; exact Hal.out)).mono ?_
          rintro e w8 ⟨rfl, hb8⟩
          have Hb8 := Lib.hid (Hb6.out.trans (hb8.mono Hb6.out.size))
          clear hb8
          go_wp2_with fail
          refine (lives_any _).mono ?_
          rintro e w9 ⟨rfl, hb9⟩
          have Hb9 := Lib.hid (Hb3.out.trans ((Hb8.out.trans (hb9.mono Hb8.out.size)).mono Hb3.out.size))
          clear hb9
          go_wp2_with fail
          go_ret
          exact ⟨rfl, Hb9.out⟩
    · obtain rfl : s.f = k := by omega
      have Hb4 := Lib.hid (Below.refl w3.heap.size w3)
      go_wp2_with fail
      refine (sadd_any A3 c3 _ r (secondS s s.f) _ Hs3.out rfl (secondS_small hsm hk0 hk1).ok).mono ?_
      rintro e w6 ⟨v6, rfl, hown6, hb6⟩
      have Hz := Lib.hid (putS_small Hr.out (secondS_small hsm hk0 hk1))
      have hzl := putS_le r (secondS s s.f)
      have Hal := Lib.hid (Hp1.out)
      have Hb6 := Lib.hid (Hb4.out.trans (hb6.mono Hb4.out.size))
      have Hs6 := Lib.hid (Hs3.out.to hb6)
      clear hb6
      rcases addE_put (m := r) (s := secondS s s.f) (secondS_small hsm hk0 hk1).vld (by omega) with ⟨ha, hni⟩ | ⟨ha, hput⟩
      · rw [ha] at hown6 ⊢
        obtain ⟨A6, c6, rfl, hs6⟩ := hown6.sl
        have Hs7 := Lib.hid hs6
        clear ha hni hown6 hs6 e0 e1 e2 e3 e4 f0 f1 f2 f3 f4 g0 g1 g2 g3 g4
        generalize putS r (secondS s s.f) = q at *
        go_wp2_with fail
        refine (equal_any _ _ c1 c6 _ _ m q _ (Hs13.out.to Hb6.out) (Hs7.out) rfl rfl (fit_of Hm.out (by omega)) (fit_of Hz.out (by omega)) Hal.out).mono ?_
        rintro e w8 ⟨rfl, hb8⟩
        have Hb8 := Lib.hid (Hb6.out.trans (hb8.mono Hb6.out.size))
        clear hb8
        go_wp2_with fail
        refine (lives_any _).mono ?_
        rintro e w9 ⟨rfl, hb9⟩
        have Hb9 := Lib.hid (Hb3.out.trans ((Hb8.out.trans (hb9.mono Hb8.out.size)).mono Hb3.out.size))
        clear hb9
        go_wp2_with fail
        go_ret
        exact ⟨rfl, Hb9.out⟩
      · rw [ha] at hown6 ⊢
        have Hput := Lib.hid hput
        clear ha hput hown6 e0 e1 e2 e3 e4 f0 f1 f2 f3 f4 g0 g1 g2 g3 g4
        go_wp2_with fail
        refine (equal_any _ _ c1 c3 _ _ m r _ (Hs13.out.to Hb6.out) (Hs6.out) rfl rfl (fit_of Hm.out (by omega)) (fit_of Hr.out (by omega)) (by rw [← Hput.out]; exact Hal.out)).mono ?_
        rintro e w8 ⟨rfl, hb8⟩
        have Hb8 := Lib.hid (Hb6.out.trans (hb8.mono Hb6.out.size))
        clear hb8
        go_wp2_with fail
        refine (lives_any _).mono ?_
        rintro e w9 ⟨rfl, hb9⟩
        have Hb9 := Lib.hid (Hb3.out.trans ((Hb8.out.trans (hb9.mono Hb8.out.size)).mono Hb3.out.size))
        clear hb9
        go_wp2_with fail
        go_ret
        exact ⟨rfl, Hb9.out⟩
end Go.Proofs.Ytfncpofcgalllaa
