/- Compare, and facts of lists in order. No condition. -/
import Derived.Test.YtfncpofcgalllaaSealW11
import Derived.BigRegion
namespace Go.Proofs.Ytfncpofcgalllaa
open Go.RowKit
attribute [local go_sem ↓] Go.wp_at_zero Go.wp_at_succ
def cmpI (a b : Int) : Int := if a < b then -1 else if b < a then 1 else 0
set_option maxHeartbeats 400000 in
theorem compare_any (a b : Int) (w : World) : Calls Try.prog 41 #[.int .i64 a, .int .i64 b] w fun e w' => e = .returned (.int .i64 (cmpI a b)) ∧ w = w' := by
  by_cases h1 : a < b
  · have hf : cmpI a b = -1 := by unfold cmpI; rw [if_pos h1]
    have Hf := Lib.hid hf
    clear hf
    go_enter Try.func41, Try.ntmps41
    go_wp2
    go_ret
    exact ⟨ret_int Hf.out.symm, rfl⟩
  · by_cases h2 : b < a
    · have hf : cmpI a b = 1 := by unfold cmpI; rw [if_neg h1, if_pos h2]
      have Hf := Lib.hid hf
      clear hf
      go_enter Try.func41, Try.ntmps41
      go_wp2
      go_ret
      exact ⟨ret_int Hf.out.symm, rfl⟩
    · have hf : cmpI a b = 0 := by unfold cmpI; rw [if_neg h1, if_neg h2]
      have Hf := Lib.hid hf
      clear hf
      go_enter Try.func41, Try.ntmps41
      go_wp2
      go_ret
      exact ⟨ret_int Hf.out.symm, rfl⟩
set_option maxHeartbeats 400000 in
theorem cmpF_any (s t : Seal) (w : World) : Calls Try.prog 40 #[.agg #[.int .i64 s.e, .int .i64 s.v, .int .i64 s.f, .int .i64 s.u, .int .i64 s.g], .agg #[.int .i64 t.e, .int .i64 t.v, .int .i64 t.f, .int .i64 t.u, .int .i64 t.g]] w fun e w' => e = .returned (.int .i64 (cmpI s.f t.f)) ∧ Below w.heap.size w w' := by
  go_enter Try.func40, Try.ntmps40
  go_wp2_with (go_at_call 41; refine (compare_any _ _ _).mono ?_; rintro e w' ⟨rfl, rfl⟩)
  go_ret
  exact ⟨rfl, ((Below.refl _ _).alloc (Nat.le_refl _) _).alloc (by simp) _⟩

/-- In order up to place i, but for place j, which may be too small. -/
def almost (l : List Seal) (i j : Nat) : Prop := ∀ a b, a < b → b ≤ i → b ≠ j → ∀ x y, l[a]? = some x → l[b]? = some y → x.f ≤ y.f
def sortedTo (l : List Seal) (i : Nat) : Prop := ∀ a b, a < b → b < i → ∀ x y, l[a]? = some x → l[b]? = some y → x.f ≤ y.f
def byF (l : List Seal) : Prop := sortedTo l l.length
def swapL (l : List Seal) (j : Nat) (x y : Seal) : List Seal := (l.set j x).set (j - 1) y
theorem swapL_length (l : List Seal) (j : Nat) (x y : Seal) : (swapL l j x y).length = l.length := by simp [swapL]
theorem swapL_get (l : List Seal) (j : Nat) (x y : Seal) (h0 : 0 < j) (hj : j < l.length) (b : Nat) : (swapL l j x y)[b]? = if b = j - 1 then some y else if b = j then some x else l[b]? := by
  unfold swapL
  rw [List.getElem?_set, List.getElem?_set]
  by_cases h1 : b = j - 1
  · rw [if_pos h1.symm, if_pos (by simp; omega), if_pos h1]
  · rw [if_neg (Ne.symm h1), if_neg h1]
    by_cases h2 : b = j
    · rw [if_pos h2.symm, if_pos (by omega), if_pos h2]
    · rw [if_neg (Ne.symm h2), if_neg h2]
theorem swapL_perm (l : List Seal) (j : Nat) (h0 : 0 < j) (hj : j < l.length) : (swapL l j (l[j - 1]'(by omega)) l[j]).Perm l := by
  obtain ⟨p, x, y, r, hp, rfl⟩ : ∃ p x y r, p.length = j - 1 ∧ l = p ++ x :: y :: r := by
    refine ⟨l.take (j - 1), l[j - 1]'(by omega), l[j], l.drop (j + 1), by rw [List.length_take]; omega, ?_⟩
    conv => lhs; rw [← List.take_append_drop (j - 1) l]
    congr 1
    rw [List.drop_eq_getElem_cons (by omega)]
    congr 1
    have e : j - 1 + 1 = j := by omega
    rw [e, List.drop_eq_getElem_cons hj]
  have e : swapL (p ++ x :: y :: r) j ((p ++ x :: y :: r)[j - 1]'(by omega)) (p ++ x :: y :: r)[j] = p ++ y :: x :: r := by
    apply List.ext_getElem?
    intro b
    rw [swapL_get _ _ _ _ h0 hj]
    have g1 : (p ++ x :: y :: r)[j - 1]'(by omega) = x := by rw [List.getElem_append_right (by omega)]; simp [hp]
    have g2 : (p ++ x :: y :: r)[j] = y := by
      rw [List.getElem_append_right (by omega)]
      have e2 : j - p.length = 1 := by omega
      simp [e2]
    rw [g1, g2]
    by_cases h1 : b = j - 1
    · subst h1; rw [if_pos rfl, List.getElem?_append_right (by omega)]; simp [hp]
    · rw [if_neg h1]
      by_cases h2 : b = j
      · subst h2; rw [if_pos rfl, List.getElem?_append_right (by omega), show b - p.length = 1 from by omega]; simp
      · rw [if_neg h2]
        by_cases h3 : b < p.length
        · rw [List.getElem?_append_left h3, List.getElem?_append_left h3]
        · rw [List.getElem?_append_right (by omega), List.getElem?_append_right (by omega)]
          obtain ⟨c, hc⟩ : ∃ c, b - p.length = c + 2 := ⟨b - p.length - 2, by omega⟩
          rw [hc]; simp
  rw [e]
  exact List.Perm.append_left p (List.Perm.swap _ _ _)
theorem almost_start (l : List Seal) (i : Nat) (h : sortedTo l i) : almost l i i := fun a b hab hb hne x y hx hy => h a b hab (by omega) x y hx hy
theorem almost_step (l : List Seal) (i j : Nat) (h : almost l i j) (h0 : 0 < j) (hj : j < l.length) (hlt : l[j].f < (l[j - 1]'(by omega)).f) : almost (swapL l j (l[j - 1]'(by omega)) l[j]) i (j - 1) := by
  intro a b hab hb hne x y hx hy
  rw [swapL_get _ _ _ _ h0 hj] at hx hy
  have gj : l[j]? = some l[j] := List.getElem?_eq_getElem hj
  have gp : l[j - 1]? = some (l[j - 1]'(by omega)) := List.getElem?_eq_getElem (by omega)
  rw [if_neg hne] at hy
  by_cases hbj : b = j
  · rw [if_pos hbj] at hy
    cases hy
    by_cases ha : a = j - 1
    · rw [if_pos ha] at hx; cases hx; omega
    · rw [if_neg ha, if_neg (by omega)] at hx
      exact h a (j - 1) (by omega) (by omega) (by omega) _ _ hx gp
  · rw [if_neg hbj] at hy
    by_cases ha : a = j - 1
    · rw [if_pos ha] at hx; cases hx
      by_cases hjb : j < b
      · exact h j b hjb hb hbj _ _ gj hy
      · omega
    · rw [if_neg ha] at hx
      by_cases ha2 : a = j
      · rw [if_pos ha2] at hx; cases hx
        exact h (j - 1) b (by omega) hb hbj _ _ gp hy
      · rw [if_neg ha2] at hx
        exact h a b hab hb hbj _ _ hx hy
theorem almost_end (l : List Seal) (i j : Nat) (h : almost l i j) (hj : j ≤ i) (hle : 0 < j → ∀ x y, l[j - 1]? = some x → l[j]? = some y → x.f ≤ y.f) : sortedTo l (i + 1) := by
  intro a b hab hb x y hx hy
  by_cases hbj : b = j
  · subst hbj
    have h0 : 0 < b := by omega
    have hlen : b < l.length := (List.getElem?_eq_some_iff.1 hy).1
    have gp : l[b - 1]? = some (l[b - 1]'(by omega)) := List.getElem?_eq_getElem (by omega)
    have h1 := hle h0 _ _ gp hy
    by_cases ha : a = b - 1
    · subst ha; rw [gp] at hx; cases hx; exact h1
    · have := h a (b - 1) (by omega) (by omega) (by omega) _ _ hx gp
      omega
  · exact h a b hab (by omega) hbj _ _ hx hy
theorem cmpF_lt (s t : Seal) (w : World) (h : s.f < t.f) : Calls Try.prog 40 #[.agg #[.int .i64 s.e, .int .i64 s.v, .int .i64 s.f, .int .i64 s.u, .int .i64 s.g], .agg #[.int .i64 t.e, .int .i64 t.v, .int .i64 t.f, .int .i64 t.u, .int .i64 t.g]] w fun e w' => e = .returned (.int .i64 (-1)) ∧ Below w.heap.size w w' := by
  have e : cmpI s.f t.f = -1 := by unfold cmpI; rw [if_pos h]
  have := cmpF_any s t w
  rwa [e] at this
theorem cmpF_ge (s t : Seal) (w : World) (h : ¬ s.f < t.f) : Calls Try.prog 40 #[.agg #[.int .i64 s.e, .int .i64 s.v, .int .i64 s.f, .int .i64 s.u, .int .i64 s.g], .agg #[.int .i64 t.e, .int .i64 t.v, .int .i64 t.f, .int .i64 t.u, .int .i64 t.g]] w fun e w' => ∃ c : Int, 0 ≤ c ∧ e = .returned (.int .i64 c) ∧ Below w.heap.size w w' := by
  refine (cmpF_any s t w).mono fun e w' ⟨he, hb⟩ => ⟨_, ?_, he, hb⟩
  unfold cmpI
  rw [if_neg h]
  split <;> omega
end Go.Proofs.Ytfncpofcgalllaa
