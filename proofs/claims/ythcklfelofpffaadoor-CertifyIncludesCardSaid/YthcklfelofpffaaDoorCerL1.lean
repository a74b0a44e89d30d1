/- A ledger has a proof for each certified sheet, and certifying it again changes nothing. No condition but sizes, and no program in sight. -/
import Derived.Test.YthcklfelofpffaaDoorCerW28
namespace Go.Proofs.YthcklfelofpffaaDoor
open Go.RowKit
theorem lastTo_append (l : List ByteArray) (y x : ByteArray) : ∀ k, k ≤ l.length → lastTo (l ++ [y]) x k = lastTo l x k
  | 0, _ => rfl
  | k + 1, h => by
    have e : (l ++ [y])[k]?.getD ⟨#[]⟩ = l[k]?.getD ⟨#[]⟩ := by rw [List.getElem?_append_left (by omega)]
    unfold lastTo
    rw [e, lastTo_append l y x k (by omega)]
theorem lastIx_append (l : List ByteArray) (y x : ByteArray) : lastIx (l ++ [y]) x = if y = x then (l.length : Int) else lastIx l x := by
  unfold lastIx
  rw [List.length_append, List.length_singleton]
  have e : (l ++ [y])[l.length]?.getD ⟨#[]⟩ = y := by simp
  by_cases h : y = x
  · rw [if_pos h]
    exact lastTo_some _ (by omega) (by rw [e, h]) (fun i h1 h2 => by omega)
  · rw [if_neg h, ← lastTo_append l y x l.length (Nat.le_refl _)]
    rw [lastTo, e]
    simp [h]
/-- The last leaf with the sheet's label is the sheet's. -/
def Has (branch : Int) (p : List H32 × List ByteArray) (s : Sheet) : Prop := ∃ k : Nat, lastIx p.2 s.label = (k : Int) ∧ (p.1[k]?).map (·.l) = some (leafOf branch s)
theorem has_addOne (branch : Int) (p : List H32 × List ByteArray) (s : Sheet) (h : p.1.length = p.2.length) : Has branch (addOne branch p s) s := by
  unfold addOne
  split
  · refine ⟨p.2.length, by rw [lastIx_append, if_pos rfl], ?_⟩
    rw [← h]; simp
  · rename_i hc
    rw [not_or] at hc
    refine ⟨(lastIx p.2 s.label).toNat, by omega, ?_⟩
    simpa using hc.2
theorem has_other (branch : Int) (p : List H32 × List ByteArray) (s t : Sheet) (h : Has branch p t) (hne : s.label ≠ t.label) : Has branch (addOne branch p s) t := by
  obtain ⟨k, h1, h2⟩ := h
  unfold addOne
  split
  · refine ⟨k, by rw [lastIx_append, if_neg hne, h1], ?_⟩
    obtain ⟨x, hx, _⟩ := Option.map_eq_some_iff.1 h2
    rw [List.getElem?_append_left (List.getElem?_eq_some_iff.1 hx).1]
    exact h2
  · exact ⟨k, h1, h2⟩
theorem has_all (branch : Int) : ∀ (d : List Sheet) (p : List H32 × List ByteArray), p.1.length = p.2.length → (d.map (·.label)).Nodup → (∀ s ∈ d, Has branch (addAll branch p d) s) ∧ ∀ t, Has branch p t → (∀ s ∈ d, s.label ≠ t.label) → Has branch (addAll branch p d) t
  | [], p, _, _ => ⟨by simp, fun t h _ => h⟩
  | s :: d, p, hp, hn => by
    rw [List.map_cons, List.nodup_cons] at hn
    have hl := addOne_len branch p s hp
    obtain ⟨h1, h2⟩ := has_all branch d (addOne branch p s) hl.1 hn.2
    have hh : ∀ t ∈ d, t.label ≠ s.label := fun t ht e => hn.1 (by rw [← e]; exact List.mem_map_of_mem ht)
    refine ⟨fun t ht => ?_, fun t ht hne => ?_⟩
    · rcases List.mem_cons.1 ht with rfl | ht
      · exact h2 t (has_addOne branch p t hp) hh
      · exact h1 t ht
    · exact h2 t (has_other branch p s t ht (hne s (by simp))) (fun u hu => hne u (by simp [hu]))
theorem has_again (branch : Int) (p : List H32 × List ByteArray) (s : Sheet) (h : Has branch p s) : addOne branch p s = p := by
  obtain ⟨k, h1, h2⟩ := h
  unfold addOne
  rw [if_neg]
  rw [h1]
  simp only [Int.toNat_natCast, h2, ne_eq, not_true_eq_false, or_false]
  omega
theorem all_again (branch : Int) : ∀ (d : List Sheet) (p : List H32 × List ByteArray), (∀ s ∈ d, Has branch p s) → addAll branch p d = p
  | [], _, _ => rfl
  | s :: d, p, h => by
    show addAll branch (addOne branch p s) d = p
    rw [has_again branch p s (h s (by simp))]
    exact all_again branch d p (fun t ht => h t (by simp [ht]))
theorem takeP_last (P D : List H32) (d : H32) (h : P.take (D.length + 1) = D.reverse ++ [d]) : takeP P (D.length + 1, false) = (d.l, (D.length, false)) ∧ P.take D.length = D.reverse := by
  have h1 : P[D.length]? = some d := by
    have : (P.take (D.length + 1))[D.length]? = some d := by rw [h, List.getElem?_append_right (by simp)]; simp
    rwa [List.getElem?_take_of_lt (by omega)] at this
  refine ⟨?_, ?_⟩
  · unfold takeP
    rw [if_neg (by simp)]
    simp only [Nat.add_sub_cancel]
    unfold hAt
    rw [h1]; rfl
  · have e : (P.take (D.length + 1)).take D.length = P.take D.length := by rw [List.take_take]; congr 1; omega
    rw [← e, h, List.take_append_of_le_length (by simp), List.take_of_length_le (by simp)]
/-- The path of a leaf leads from it to the root. -/
theorem climb_down (P : List H32) (leaf : List UInt8) : ∀ (f : Nat) (l : List H32) (i : Nat), l.length ≤ f + 1 → l.length ≤ 1073741824 → (hi : i < l.length) → l[i].l = leaf → P.take (down l i).length = (down l i).reverse →
    climbP f P leaf l.length i ((down l i).length, false) = (root l, (0, false))
  | 0, l, i, hf, _, hi, he, _ => by
    obtain ⟨x, rfl⟩ : ∃ x, l = [x] := List.length_eq_one_iff.1 (by omega)
    obtain rfl : i = 0 := by simpa using hi
    rw [root_one, down_one _ _ (by simp), climbP]
    simp only [List.getElem_cons_zero] at he
    rw [he]; rfl
  | f + 1, l, i, hf, hl, hi, he, hP => by
    by_cases h1 : l.length = 1
    · obtain ⟨x, rfl⟩ : ∃ x, l = [x] := List.length_eq_one_iff.1 h1
      obtain rfl : i = 0 := by simpa using hi
      rw [root_one, down_one _ _ (by simp)]
      simp only [List.getElem_cons_zero] at he
      rw [he]
      exact climbP_one _ _ _ _ _
    · obtain ⟨_, _, h3, h4, _⟩ := splitN_bounds l.length (by omega) (by omega)
      rw [climbP, if_neg h1, root_node l (by omega) hl]
      by_cases hik : i < splitN l.length
      · rw [if_pos hik]
        rw [down_left l i (by omega) hl hik] at hP ⊢
        rw [List.length_cons, List.reverse_cons] at hP
        rw [List.length_cons]
        obtain ⟨ht, hP2⟩ := takeP_last P _ _ hP
        rw [ht]
        have hlen : (l.take (splitN l.length)).length = splitN l.length := by rw [List.length_take]; omega
        have ih := climb_down P leaf f (l.take (splitN l.length)) i (by omega) (by omega) (by omega) (by rw [List.getElem_take]; exact he) hP2
        rw [hlen] at ih
        rw [ih]
      · rw [if_neg hik]
        rw [down_right l i (by omega) hl hik] at hP ⊢
        rw [List.length_cons, List.reverse_cons] at hP
        rw [List.length_cons]
        obtain ⟨ht, hP2⟩ := takeP_last P _ _ hP
        rw [ht]
        have hlen : (l.drop (splitN l.length)).length = l.length - splitN l.length := by rw [List.length_drop]
        have ih := climb_down P leaf f (l.drop (splitN l.length)) (i - splitN l.length) (by omega) (by omega) (by omega) (by rw [List.getElem_drop]; rw [← he]; congr 2; omega) hP2
        rw [hlen] at ih
        rw [ih]
theorem path_includes (l : List H32) (i : Nat) (hi : i < l.length) (hl : l.length ≤ 65536) : includesP (root l) (l.length : Int) (i : Int) l[i].l (pathH l i) = true := by
  unfold includesP
  rw [decide_eq_true (by omega), Bool.true_and]
  have e : (pathH l i).length = (down l i).length := by unfold pathH; rw [List.length_reverse]
  have h := climb_down (pathH l i) l[i].l l.length l i (by omega) (by omega) hi rfl (by rw [← e, List.take_length]; rfl)
  rw [← e] at h
  simp only [Int.toNat_natCast]
  rw [h]
  unfold incRes
  simp
/-- A certified sheet's proof is accepted. -/
theorem has_check (branch : Int) (L : List H32) (N : List ByteArray) (s : Sheet) (h : Has branch (L, N) s) (hl : L.length ≤ 65536) :
    proofB N s.label = true ∧ checkP (L.length : Int) (root L) branch s (proofI N s.label) (proofP L N s.label) = true := by
  obtain ⟨k, h1, h2⟩ := h
  simp only at h1 h2
  have hq : ¬ (k : Int) < 0 := by omega
  unfold proofB proofI proofP checkP
  rw [h1, if_neg hq, if_neg hq, Int.toNat_natCast]
  obtain ⟨x, hx, hx2⟩ := Option.map_eq_some_iff.1 h2
  obtain ⟨hk, hk2⟩ := List.getElem?_eq_some_iff.1 hx
  refine ⟨by simp [hq], ?_⟩
  have := path_includes L k hk hl
  rw [hk2, hx2] at this
  exact this
end Go.Proofs.YthcklfelofpffaaDoor
