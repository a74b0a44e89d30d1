/- Same and SameSpans decide equality of lists. No condition. -/
import Derived.Test.YtfncpofcgalllaaSealW2
namespace Go.Proofs.Ytfncpofcgalllaa
open Go.RowKit
set_option maxHeartbeats 400000 in
theorem same_seals (A B : Option Addr) (c d : Nat) (l m : List Seal) (w : World) (hl : Sl w (fun b => b < w.heap.size) A c l) (hm : Sl w (fun b => b < w.heap.size) B d m) :
    Calls Try.prog 31 #[.slice A l.length c, .slice B m.length d] w fun e w' => e = .returned (.bool (decide (l = m))) ∧ Below w.heap.size w w' := by
  have hlen : l.length ≤ 9223372036854775807 := by have := hl.1; have := hl.2.1; unfold maxLen at this; omega
  have hlem : m.length ≤ 9223372036854775807 := by have := hm.1; have := hm.2.1; unfold maxLen at this; omega
  by_cases hll : l.length = m.length
  · have hnn : ((l.length : Int) != (m.length : Int)) = false := by rw [hll]; simp
    have Hll := Lib.hid hll
    go_enter Try.func31, Try.ntmps31
    clear hll
    go_wp2
    go_loopw [5] (fun i wr => ∃ k : Nat, k ≤ l.length ∧ i = .int .i64 k ∧ Hid (l.take k = m.take k) ∧ Below w.heap.size w wr) (fun i _ => l.length - (intOf i).toNat)
    case atStart => exact ⟨0, Nat.zero_le _, rfl, rfl, Below.refl _ _⟩
    case round =>
      obtain ⟨k, hk, rfl, hi, hb⟩ := hrel
      by_cases hlt : k < l.length
      · have hltm : k < m.length := by have := Hll.out; omega
        obtain ⟨b, o, rfl, hbS, hbl, hok, c0, c1, c2, c3, c4⟩ := seal_at (hl.keep (Kept.all hb) hb.size) hlt
        obtain ⟨b2, o2, rfl, hbS2, hbl2, hok2, d0, d1, d2, d3, d4⟩ := seal_at (hm.keep (Kept.all hb) hb.size) hltm
        have hkl : (k : Int) < (l.length : Int) := by omega
        have hkm : (k : Int) < (m.length : Int) := by omega
        have hk0 : (0 : Int) ≤ (k : Int) := by omega
        have hq : ∀ w', (binOp .neq 41 (.agg #[.int .i64 l[k].e, .int .i64 l[k].v, .int .i64 l[k].f, .int .i64 l[k].u, .int .i64 l[k].g]) (.agg #[.int .i64 m[k].e, .int .i64 m[k].v, .int .i64 m[k].f, .int .i64 m[k].u, .int .i64 m[k].g])).run Try.prog w' = .ok (.bool (!decide (l[k] = m[k]))) w' := fun w' => neq_seal _ _ _
        by_cases heq : l[k] = m[k]
        · rw [decide_eq_true heq] at hq
          have Heq := Lib.hid heq
          clear heq
          go_wp2_with fail
          go_quiet (fail)
          go_wp2_with fail
          go_roundw
          case rel => exact ⟨k + 1, by omega, by go_num, take_succ_eq hlt hltm hi.out Heq.out, Below.dn hb _⟩
          case measure => simp [intOf]; omega
        · rw [decide_eq_false heq] at hq
          have Heq := Lib.hid heq
          clear heq
          go_wp2_with fail
          go_quiet (fail)
          go_wp2_with fail
          go_ret
          exact ⟨ret_bool (decide_eq_false (ne_at hlt hltm Heq.out)).symm, Below.dn hb _⟩
      · go_wp2_with fail
        go_ret
        exact ⟨ret_bool (decide_eq_true (eq_all (by omega) (by have := Hll.out; omega) hi.out)).symm, hb⟩
  · have hnn : ((l.length : Int) != (m.length : Int)) = true := by simp; omega
    have Hll := Lib.hid hll
    clear hll
    go_enter Try.func31, Try.ntmps31
    go_wp2
    go_ret
    exact ⟨ret_bool (decide_eq_false (fun e => Hll.out (by rw [e]))).symm, Below.refl _ _⟩
theorem neq_span (a b : Span) (w : World) : (binOp .neq 47 (.agg #[.int .i64 a.f, .int .i64 a.u]) (.agg #[.int .i64 b.f, .int .i64 b.u])).run Try.prog w = .ok (.bool (!decide (a = b))) w := by
  obtain ⟨a1, a2⟩ := a
  obtain ⟨b1, b2⟩ := b
  simp only [Span.mk.injEq]
  go_simp
  repeat' split
  all_goals simp [*]
set_option maxHeartbeats 400000 in
theorem same_spans (A B : Option Addr) (c d : Nat) (l m : List Span) (w : World) (hl : Sl w (fun b => b < w.heap.size) A c l) (hm : Sl w (fun b => b < w.heap.size) B d m) :
    Calls Try.prog 22 #[.slice A l.length c, .slice B m.length d] w fun e w' => e = .returned (.bool (decide (l = m))) ∧ Below w.heap.size w w' := by
  have hlen : l.length ≤ 9223372036854775807 := by have := hl.1; have := hl.2.1; unfold maxLen at this; omega
  have hlem : m.length ≤ 9223372036854775807 := by have := hm.1; have := hm.2.1; unfold maxLen at this; omega
  by_cases hll : l.length = m.length
  · have hnn : ((l.length : Int) != (m.length : Int)) = false := by rw [hll]; simp
    have Hll := Lib.hid hll
    go_enter Try.func22, Try.ntmps22
    clear hll
    go_wp2
    go_loopw [5] (fun i wr => ∃ k : Nat, k ≤ l.length ∧ i = .int .i64 k ∧ Hid (l.take k = m.take k) ∧ Below w.heap.size w wr) (fun i _ => l.length - (intOf i).toNat)
    case atStart => exact ⟨0, Nat.zero_le _, rfl, rfl, Below.refl _ _⟩
    case round =>
      obtain ⟨k, hk, rfl, hi, hb⟩ := hrel
      by_cases hlt : k < l.length
      · have hltm : k < m.length := by have := Hll.out; omega
        obtain ⟨b, o, rfl, hbS, hbl, hok, c0, c1⟩ := span_at (hl.keep (Kept.all hb) hb.size) hlt
        obtain ⟨b2, o2, rfl, hbS2, hbl2, hok2, d0, d1⟩ := span_at (hm.keep (Kept.all hb) hb.size) hltm
        have hkl : (k : Int) < (l.length : Int) := by omega
        have hkm : (k : Int) < (m.length : Int) := by omega
        have hk0 : (0 : Int) ≤ (k : Int) := by omega
        have hq : ∀ w', (binOp .neq 47 (.agg #[.int .i64 l[k].f, .int .i64 l[k].u]) (.agg #[.int .i64 m[k].f, .int .i64 m[k].u])).run Try.prog w' = .ok (.bool (!decide (l[k] = m[k]))) w' := fun w' => neq_span _ _ _
        by_cases heq : l[k] = m[k]
        · rw [decide_eq_true heq] at hq
          have Heq := Lib.hid heq
          clear heq
          go_wp2_with fail
          go_quiet (fail)
          go_wp2_with fail
          go_roundw
          case rel => exact ⟨k + 1, by omega, by go_num, take_succ_eq hlt hltm hi.out Heq.out, Below.dn hb _⟩
          case measure => simp [intOf]; omega
        · rw [decide_eq_false heq] at hq
          have Heq := Lib.hid heq
          clear heq
          go_wp2_with fail
          go_quiet (fail)
          go_wp2_with fail
          go_ret
          exact ⟨ret_bool (decide_eq_false (ne_at hlt hltm Heq.out)).symm, Below.dn hb _⟩
      · go_wp2_with fail
        go_ret
        exact ⟨ret_bool (decide_eq_true (eq_all (by omega) (by have := Hll.out; omega) hi.out)).symm, hb⟩
  · have hnn : ((l.length : Int) != (m.length : Int)) = true := by simp; omega
    have Hll := Lib.hid hll
    clear hll
    go_enter Try.func22, Try.ntmps22
    go_wp2
    go_ret
    exact ⟨ret_bool (decide_eq_false (fun e => Hll.out (by rw [e]))).symm, Below.refl _ _⟩
end Go.Proofs.Ytfncpofcgalllaa
