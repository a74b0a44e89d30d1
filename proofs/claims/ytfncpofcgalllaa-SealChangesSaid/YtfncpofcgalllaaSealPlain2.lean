/- The program's ranges are the canonical ones. -/
import Derived.Test.YtfncpofcgalllaaSealPlain
import Derived.Test.YtfncpofcgalllaaSealW15
namespace Go.Proofs.Ytfncpofcgalllaa
open Go.RowKit

/-- Some seal of the list seals the word. -/
def cov (l : List Seal) (e v x : Int) : Prop := ∃ s ∈ l, onP e v x s = true
theorem onP_iff (e v x : Int) (s : Seal) : onP e v x s = true ↔ s.e = e ∧ s.v = v ∧ s.f ≤ x ∧ x < s.u := by unfold onP; exact decide_eq_true_iff
theorem onH_iff (e v x : Int) (s : Seal) : onH e v x s = true ↔ s.e = e ∧ s.v = v ∧ s.f < x := by unfold onH; exact decide_eq_true_iff
theorem hidStep_eq (n : Int) (out : List Span) (s : Seal) : hidStep n out s = hstep s.f (min s.u n) out := by
  rcases List.eq_nil_or_concat out with rfl | ⟨p, y, rfl⟩
  · rfl
  · rw [List.concat_eq_append, hstep_last]
    have hq : (p ++ [y]).length = p.length + 1 := by simp
    have hg : (p ++ [y])[p.length]'(by omega) = y := by simp
    by_cases h : s.f ≤ y.u
    · rw [hidStep_yes n (p ++ [y]) s p.length hq (by omega) (by rw [hg]; exact h), if_pos h]
      simp only [hg]
      rw [List.set_append_right _ _ (Nat.le_refl _)]
      simp
    · rw [hidStep_no n (p ++ [y]) s p.length hq (by omega) (by rw [hg]; exact h), if_neg h]
      simp
theorem hidTo_canon (l m : List Seal) (e v n : Int) (hperm : m.Perm (l.filter (onH e v n))) (hs : byF m) (hval : ∀ s ∈ l, 0 ≤ s.f ∧ s.f < s.u) : Canon (cov l e v) n 0 (hidTo n m) := by
  have hm : ∀ s, s ∈ m ↔ s ∈ l ∧ onH e v n s = true := fun s => by rw [hperm.mem_iff, List.mem_filter]
  have key : ∀ k, k ≤ m.length → Canon (fun x => ∃ s ∈ m.take k, s.f ≤ x ∧ x < min s.u n) n 0 (hidTo n (m.take k)) ∧ ∀ sp ∈ hidTo n (m.take k), ∃ s ∈ m.take k, sp.f = s.f := by
    intro k
    induction k with
    | zero => intro _; exact ⟨fun x _ _ h => by simp at h, by simp [hidTo]⟩
    | succ k ih =>
      intro hk
      obtain ⟨h1, h2⟩ := ih (by omega)
      have hmk := (hm m[k]).1 (List.getElem_mem _)
      have hv := hval _ hmk.1
      have hon := (onH_iff _ _ _ _).1 hmk.2
      rw [hidTo_succ n m k (by omega), hidStep_eq]
      have hle : ∀ s ∈ m.take k, s.f ≤ m[k].f := by
        intro s hs'
        obtain ⟨i, hi, rfl⟩ := List.getElem_of_mem hs'
        have hik : i < k := by rw [List.length_take] at hi; omega
        rw [List.getElem_take]
        exact hs i k hik (by omega) _ _ (List.getElem?_eq_getElem (by omega)) (List.getElem?_eq_getElem (by omega))
      refine ⟨(hstep_canon h1 (fun sp hsp => by obtain ⟨s, hs', e'⟩ := h2 sp hsp; rw [e']; exact hle s hs') hv.1 (by omega) (by omega)).congr ?_, ?_⟩
      · intro x _ _
        rw [List.take_succ_eq_append_getElem (by omega)]
        constructor
        · rintro (⟨s, hs', h⟩ | h)
          · exact ⟨s, List.mem_append_left _ hs', h⟩
          · exact ⟨m[k], List.mem_append_right _ (List.mem_singleton_self _), h⟩
        · rintro ⟨s, hs', h⟩
          rcases List.mem_append.1 hs' with hs' | hs'
          · exact .inl ⟨s, hs', h⟩
          · simp at hs'; subst hs'; exact .inr h
      · intro sp hsp
        rw [List.take_succ_eq_append_getElem (by omega)]
        rcases hstep_f _ _ _ sp hsp with h | ⟨t, ht, h⟩
        · exact ⟨m[k], List.mem_append_right _ (List.mem_singleton_self _), h⟩
        · obtain ⟨s, hs', h'⟩ := h2 t ht
          exact ⟨s, List.mem_append_left _ hs', h.trans h'⟩
  have h := (key m.length (Nat.le_refl _)).1
  rw [List.take_of_length_le (Nat.le_refl _)] at h
  refine h.congr fun x hx0 hxn => ?_
  constructor
  · rintro ⟨s, hs', h1, h2⟩
    have h3 := (hm s).1 hs'
    have h4 := (onH_iff _ _ _ _).1 h3.2
    exact ⟨s, h3.1, (onP_iff _ _ _ _).2 ⟨h4.1, h4.2.1, h1, by omega⟩⟩
  · rintro ⟨s, hs', h1⟩
    have h2 := (onP_iff _ _ _ _).1 h1
    exact ⟨s, (hm s).2 ⟨hs', (onH_iff _ _ _ _).2 ⟨h2.1, h2.2.1, by omega⟩⟩, h2.2.2.1, by omega⟩
end Go.Proofs.Ytfncpofcgalllaa
