/- The reference's generator of texts: refer. No condition but that the numbers fit. -/
import Derived.Test.YtgnblofjjondpaaDoorGlyG2
namespace Go.Proofs.YtgnblofjjondpaaDoor
open Go.RowKit
def withNote (x : Word) (m : Int) : Word := ⟨x.s, x.key, x.t, m⟩
/-- What refer may do: nothing, or to set the note of a word behind which, and at which, none is set. -/
def Referred (p : List Word) (m : Int) (b : Bool) (q : List Word) : Prop :=
  (b = false ∧ q = p) ∨ (b = true ∧ ∃ i, ∃ h : i < p.length, (∀ j (hj : j < p.length), i ≤ j → p[j].n = 0) ∧ q = p.set i (withNote p[i] m))
def RefP (g cap : Nat) (l : List Word) (m : Int) (later : Bool) (w : World) (e : Ending) (w' : World) : Prop :=
  ∃ b : Bool, e = .returned (.bool b) ∧ ∃ q, Referred l m b q ∧ (b = true → later = false) ∧ q.length = l.length ∧ Own w' 0 36 (.slice (some ⟨g, 0, none⟩) l.length cap) q ∧ w.grownBy w' (some g)
set_option maxHeartbeats 1000000 in
theorem refer_any (g cap : Nat) (l : List Word) (n : Nat) (m : Int) (later : Bool) (w : World) (hown : Own w 0 36 (.slice (some ⟨g, 0, none⟩) l.length cap) l) (hn : n ≤ 1000000) (hm0 : 0 ≤ m) (hm : m ≤ 1000) (hlen : l.length ≤ 1000) :
    Calls Tryd.prog 42 #[.slice (some ⟨g, 0, none⟩) l.length cap, .int .i64 (n : Int), .int .i64 m, .bool later] w (RefP g cap l m later w) := by
  have h1 : (n : Int) ≤ 1000000 := by omega
  have h0 : 0 ≤ (n : Int) := by omega
  have h2 : (l.length : Int) ≤ 1000 := by omega
  obtain ⟨A, c, e1, hs⟩ := hown.sl
  obtain ⟨rfl, _, rfl⟩ := Value.slice.inj e1
  have Hs := Lib.hid hs
  have HO := Lib.hid hown
  clear e1 hs hown
  go_enter Tryd.func42, Tryd.ntmps42
  go_wp2_with fail
  go_loopw [9, 10] (fun f i wr => ∃ k : Nat, k ≤ l.length ∧ i = .int .i64 k ∧ (∃ q : Nat, f = .int .i64 (q : Int) ∧ q ≤ k ∧ Hid (∀ j (hj : j < l.length), q ≤ j → j < k → l[j].n = 0)) ∧ wr = w) (fun _ i _ => l.length - (intOf i).toNat)
  case atStart => exact ⟨0, Nat.zero_le _, rfl, ⟨0, rfl, Nat.le_refl _, (fun j hj h1 h2 => absurd h2 (by omega))⟩, rfl⟩
  case round =>
    obtain ⟨k, hk, rfl, ⟨q, rfl, hqk, hno⟩, rfl⟩ := hrel
    by_cases hlt : k < l.length
    · obtain ⟨b3, o3, e3, _, hbl3, hok, d0, d1, d2, d3⟩ := word_at Hs.out hlt
      obtain ⟨rfl, rfl⟩ : b3 = g ∧ o3 = 0 := by simpa using e3.symm
      simp only [Nat.zero_add] at d3
      have hkl : (k : Int) < (l.length : Int) := by omega
      have hk0 : (0 : Int) ≤ (k : Int) := by omega
      have HT := Lib.hid (fun (h : l[k].n = 0) j (hj : j < l.length) (h1 : q ≤ j) (h2 : j < k + 1) => (by by_cases e : j = k; subst e; exact h; exact hno.out j hj h1 (by omega) : l[j].n = 0))
      have hr := hok.2.2.2
      generalize l[k] = x at *
      clear hok d0 d1 d2 e3
      by_cases hx : x.n = 0
      · have E := Lib.hid (HT.out hx)
        rw [hx] at d3
        clear hx HT hno
        go_wp2_with fail
        go_roundw
        case rel => exact ⟨k + 1, by omega, by go_num, ⟨q, rfl, by omega, E.out⟩, by first | trivial | rfl⟩
        case measure => simp [intOf]; omega
      · have hB : (x.n == 0) = false := beq_eq_false_iff_ne.2 hx
        clear hx HT hno
        go_wp2_with fail
        go_roundw
        case rel => exact ⟨k + 1, by omega, by go_num, ⟨k + 1, by go_num, by omega, (fun j hj h1 h2 => absurd h2 (by omega))⟩, by first | trivial | rfl⟩
        case measure => simp [intOf]; omega
    · obtain rfl : k = l.length := by omega
      have hno2 := Lib.hid (fun j (hj : j < l.length) (h1 : q ≤ j) => hno.out j hj h1 hj)
      clear hno
      cases later with
      | true =>
        go_wp2_with fail
        go_ret
        exact ⟨false, rfl, l, .inl ⟨rfl, rfl⟩, fun h => (by cases h), rfl, HO.out, World.grownBy.refl _ _⟩
      | false =>
        by_cases hq : q < l.length
        · have hq1 : (q : Int) < (l.length : Int) := by omega
          have hq0 : (0 : Int) ≤ (q : Int) := by omega
          have hmod : n % (l.length - q) < l.length - q := Nat.mod_lt _ (by omega)
          have hmi : (n : Int) % ((l.length : Int) - (q : Int)) = ((n % (l.length - q) : Nat) : Int) := by
            rw [Int.natCast_emod]; congr 1; omega
          generalize n % (l.length - q) = r at *
          obtain ⟨g', cap', es, e4, _, hg, _, hr4, hcell, hfz⟩ := HO.out.at_ (show q + r < l.length by omega)
          obtain ⟨re, hok⟩ := hr4
          subst re
          have c3 := hcell 3 _ rfl
          rw [show Rep.size Word = 4 from rfl] at c3
          obtain ⟨rfl, _⟩ : g' = g ∧ cap' = cap := by
            have := Value.slice.inj e4
            simp at this
            exact ⟨this.1.symm, this.2.symm⟩
          have HH := Lib.hid (HO.out.setf (q + r) 3 (show q + r < l.length by omega) (by decide) (.int .i64 m) rfl (withNote l[q + r] m) (fun S es h => by
            obtain ⟨h1, h2⟩ := h
            subst h1
            exact ⟨rfl, h2.1, h2.2.1, h2.2.2.1, ⟨by show -9223372036854775808 ≤ m; omega, by show m ≤ 9223372036854775807; omega⟩⟩) (o := (q + r) * 4 + 3) rfl)
          have HR : Hid (Referred l m true (l.set (q + r) (withNote l[q + r] m))) := .inr ⟨rfl, q + r, by omega, fun j hj h => hno2.out j hj (by omega), rfl⟩
          have hk1 : (q : Int) + (r : Int) < (l.length : Int) := by omega
          have hk0 : 0 ≤ (q : Int) + (r : Int) := by omega
          generalize l[q + r].n = old at *
          have HL : Hid ((l.set (q + r) (withNote l[q + r] m)).length = l.length) := Lib.hid (by simp)
          generalize l.set (q + r) _ = l' at *
          clear hok hcell e4
          go_wp2_with fail
          go_ret
          exact ⟨true, rfl, _, HR.out, fun _ => rfl, HL.out, HH.out.1, HH.out.2⟩
        · have hq1 : ¬ (q : Int) < (l.length : Int) := by omega
          go_wp2_with fail
          go_ret
          exact ⟨false, rfl, l, .inl ⟨rfl, rfl⟩, fun h => (by cases h), rfl, HO.out, World.grownBy.refl _ _⟩
end Go.Proofs.YtgnblofjjondpaaDoor
