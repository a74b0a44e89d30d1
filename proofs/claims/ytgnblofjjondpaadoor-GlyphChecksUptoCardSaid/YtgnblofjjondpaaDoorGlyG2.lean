/- The reference's generator of texts: Pick, last, refer. No condition but that the numbers fit. -/
import Derived.Test.YtgnblofjjondpaaDoorGlyG1
import Derived.Test.YtgnblofjjondpaaDoorGlyInt
import Derived.Test.YtgnblofjjondpaaDoorGlyW11
namespace Go.Proofs.YtgnblofjjondpaaDoor
open Go.RowKit
set_option maxHeartbeats 1000000 in
theorem pick_any (A : Option Addr) (c : Nat) (l : List Int) (i : Int) (m : Int) (w : World) (hl : Sl w (fun b => b < w.heap.size) A c l) (hm : 1 ≤ m) (hm2 : m ≤ 1000000) (hi0 : 0 ≤ i) :
    Calls Tryd.prog 40 #[.slice A l.length c, .int .i64 i, .int .i64 m] w fun e w' => ∃ r : Nat, e = .returned (.int .i64 (r : Int)) ∧ (r : Int) < m ∧ w = w' := by
  obtain ⟨i, rfl⟩ := Int.eq_ofNat_of_zero_le hi0
  clear hi0
  have hlen : l.length ≤ 9223372036854775807 := by have := hl.1; have := hl.2.1; unfold maxLen at this; omega
  have h0 : ¬ (i : Int) < 0 := by omega
  by_cases hi : i < l.length
  · obtain ⟨b, o, rfl, _, hbl, hx, hc⟩ := int_at hl hi
    obtain ⟨a0, a1⟩ := aro_lt l[i] m hm
    generalize l[i] = x at *
    have Hx := Lib.hid hx
    have hi1 : ¬ (l.length : Int) ≤ (i : Int) := by omega
    have hi2 : (i : Int) < (l.length : Int) := by omega
    have hi0 : 0 ≤ (i : Int) := by omega
    clear hx hl hi
    go_enter Tryd.func40, Tryd.ntmps40
    go_wp2_with fail
    refine (around_any x m _ Hx.out hm (by omega)).mono ?_
    rintro e w' ⟨rfl, rfl⟩
    generalize aro x m = r at *
    go_wp2_with fail
    go_ret
    exact ⟨r.toNat, ret_int (by omega), by omega, rfl⟩
  · have hi1 : (l.length : Int) ≤ (i : Int) := by omega
    clear hl hi
    go_enter Tryd.func40, Tryd.ntmps40
    go_wp2_with fail
    go_ret
    exact ⟨0, rfl, by omega, rfl⟩
/-- Where no word refers to a note. -/
def noNote (l : List Word) : Prop := ∀ x ∈ l, x.n = 0
set_option maxHeartbeats 1000000 in
theorem last_any (A : Option Addr) (c : Nat) (l : List (List Word)) (n : Nat) (w : World) (hl : Sl w (fun b => b < w.heap.size) A c l) (hn : n ≤ 1000000) :
    Calls Tryd.prog 43 #[.slice A l.length c, .int .i64 (n : Int)] w fun e w' => ∃ b : Bool, e = .returned (.bool b) ∧ (b = false → ∀ p ∈ l.drop (n + 1), noNote p) ∧ w = w' := by
  have hlen : l.length ≤ 9223372036854775807 := by have := hl.1; have := hl.2.1; unfold maxLen at this; omega
  have h1 : (n : Int) ≤ 1000000 := by omega
  have h0 : 0 ≤ (n : Int) := by omega
  have Hl := Lib.hid hl
  clear hl
  go_enter Tryd.func43, Tryd.ntmps43
  go_wp2_with fail
  go_loopw [5, 6] (fun i _ wr => ∃ k : Nat, n + 1 ≤ k ∧ (k ≤ l.length ∨ k = n + 1) ∧ i = .int .i64 k ∧ Hid (∀ j (hj : j < l.length), n + 1 ≤ j → j < k → noNote l[j]) ∧ wr = w) (fun i _ _ => l.length - (intOf i).toNat)
  case atStart => exact ⟨n + 1, Nat.le_refl _, .inr rfl, by go_num, (fun j hj h1 h2 => absurd h1 (by omega)), rfl⟩
  case round =>
    obtain ⟨k, hk, hk2, rfl, hno, rfl⟩ := hrel
    by_cases hlt : k < l.length
    · obtain ⟨b, o, Ap, cp, rfl, _, hbl, hc, hp⟩ := part_at Hl.out hlt
      have hkl : (k : Int) < (l.length : Int) := by omega
      have hk0 : (0 : Int) ≤ (k : Int) := by omega
      have HT := Lib.hid (fun (h : noNote l[k]) j (hj : j < l.length) (h1 : n + 1 ≤ j) (h2 : j < k + 1) => (by by_cases e : j = k; subst e; exact h; exact hno.out j hj h1 (by omega) : noNote l[j]))
      have h2 : l[k].length ≤ 9223372036854775807 := by have := hp.1; have := hp.2.1; unfold maxLen at this; omega
      generalize l[k] = p at *
      have Hp := Lib.hid hp
      have hk3 : (k : Int) ≤ 9223372036854775806 := by omega
      clear hp hk2 hno
      go_wp2_with fail
      obtain ⟨wo, rfl⟩ : ∃ wo : World, wo = wr := ⟨_, rfl⟩
      go_loopw [6] (fun i wr => ∃ j : Nat, j ≤ p.length ∧ i = .int .i64 j ∧ Hid (∀ i (hi : i < p.length), i < j → p[i].n = 0) ∧ wr = wo) (fun i _ => p.length - (intOf i).toNat)
      case atStart => exact ⟨0, Nat.zero_le _, rfl, (fun i hi h => absurd h (by omega)), rfl⟩
      case round =>
        obtain ⟨j, hj, rfl, hno2, rfl⟩ := hrel
        by_cases hjl : j < p.length
        · obtain ⟨b3, o3, rfl, _, hbl3, hok, d0, d1, d2, d3⟩ := word_at Hp.out hjl
          have hj1 : (j : Int) < (p.length : Int) := by omega
          have hj0 : (0 : Int) ≤ (j : Int) := by omega
          have HT2 := Lib.hid (fun (h : p[j].n = 0) i (hi : i < p.length) (h2 : i < j + 1) => (by by_cases e : i = j; subst e; exact h; exact hno2.out i hi (by omega) : p[i].n = 0))
          have hr := hok.2.2.2
          generalize p[j] = x at *
          clear hok d0 d1 d2
          by_cases hx : x.n = 0
          · have E := Lib.hid (HT2.out hx)
            rw [hx] at d3
            clear hx HT2 hno2
            go_wp2_with fail
            go_roundw
            case rel => exact ⟨j + 1, by omega, by go_num, E.out, by first | trivial | rfl⟩
            case measure => simp [intOf]; omega
          · have hB : (x.n == 0) = false := beq_eq_false_iff_ne.2 hx
            clear hx HT2 hno2
            go_wp2_with fail
            go_ret
            exact ⟨true, rfl, fun h => (by cases h), rfl⟩
        · have E := Lib.hid (HT.out (fun x hx => by obtain ⟨i, hi, rfl⟩ := List.getElem_of_mem hx; exact hno2.out i hi (by omega)))
          clear HT hno2
          go_wp2_with fail
          go_roundw
          case rel => exact ⟨k + 1, by omega, by omega, by go_num, E.out, by first | trivial | rfl⟩
          case measure => simp [intOf]; omega
    · have E := Lib.hid (fun p (hp : p ∈ l.drop (n + 1)) => (by
        obtain ⟨i, hi, rfl⟩ := List.getElem_of_mem hp
        rw [List.length_drop] at hi
        rw [List.getElem_drop]
        exact hno.out (n + 1 + i) (by omega) (by omega) (by omega) : noNote p))
      clear hno
      go_wp2_with fail
      go_ret
      exact ⟨false, rfl, fun _ => E.out, rfl⟩
end Go.Proofs.YtgnblofjjondpaaDoor
