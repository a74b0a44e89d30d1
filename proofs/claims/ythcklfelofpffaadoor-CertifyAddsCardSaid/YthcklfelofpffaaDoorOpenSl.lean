/- A slice as an argument, read as plain data, whatever its elements are; its length against the bulk of what is read. No condition. -/
import Derived.Test.YthcklfelofpffaaDoorRow
import Derived.Deep.Slices
import Derived.Deep.Fields
import Derived.ChangeSame
namespace Go.Proofs.YthcklfelofpffaaDoor
open Go.ChangeShapes Go.WideShapes Go.ChangeAt Go.RowKit Go.Deep
theorem exists_list {α : Type} {Q : Nat → α → Prop} (n : Nat) (h : ∀ i, i < n → ∃ a, Q i a) : ∃ l : List α, l.length = n ∧ ∀ i, (hi : i < l.length) → Q i l[i] := by
  induction n with
  | zero => exact ⟨[], rfl, fun i hi => by simp at hi⟩
  | succ n ih =>
    obtain ⟨l, hl, hq⟩ := ih fun i hi => h i (by omega)
    obtain ⟨a, ha⟩ := h n (by omega)
    refine ⟨l ++ [a], by simp [hl], fun i hi => ?_⟩
    by_cases hin : i < l.length
    · rw [List.getElem_append_left hin]; exact hq i hin
    · have : i = n := by simp at hi; omega
      subst this
      rw [List.getElem_append_right (by omega)]
      simpa using ha
theorem addr_plain {w : World} {a : Addr} {v : Value} (h : w.cell? (a.add 0) = some v) : ∃ b o, a = ⟨b, o, none⟩ := by
  obtain ⟨b, o, spot⟩ := a
  have hspot : spot = none := by simpa [Addr.add] using World.cell?_spot h
  subst hspot
  exact ⟨b, o, rfl⟩
theorem bulk_one {H : Type} (d : DataW H) : 1 ≤ Rows.uptoBulk d := by
  cases d with
  | lit l => cases l <;> simp [Rows.uptoBulk]
  | nil => simp [Rows.uptoBulk]
  | ptr d => simp [Rows.uptoBulk]
  | slice elems spare => simp [Rows.uptoBulk]
  | agg parts => simp [Rows.uptoBulk]
  | iface t d => simp [Rows.uptoBulk]
  | map entries => simp [Rows.uptoBulk]
  | held h => simp [Rows.uptoBulk]
theorem bulk_part {H : Type} {d : DataW H} {l : List (DataW H)} (h : d ∈ l) : Rows.uptoBulk d ≤ Rows.uptoBulkAll l := by
  induction l with
  | nil => cases h
  | cons x r ih =>
    simp only [Rows.uptoBulkAll]
    cases List.mem_cons.1 h with
    | inl e => subst e; omega
    | inr e => have := ih e; omega
theorem bulk_length {H : Type} (l : List (DataW H)) : l.length ≤ Rows.uptoBulkAll l := by
  induction l with
  | nil => simp [Rows.uptoBulkAll]
  | cons x r ih => have := bulk_one x; simp only [Rows.uptoBulkAll, List.length_cons]; omega
theorem bulk_slice {H : Type} (elems spare : List (DataW H)) : elems.length + spare.length + 1 ≤ Rows.uptoBulk (.slice elems spare) := by
  have h1 := bulk_length elems
  have h2 := bulk_length spare
  simp only [Rows.uptoBulk]
  omega
/-- THE BOUND. -/
theorem bulk_bound {H : Type} {l : List (DataW H)} (hk : Rows.uptoSmall H l = true) : Rows.uptoBulkAll l ≤ 1048576 := by
  have h := of_decide_eq_true hk
  exact h
variable {H : Type} {enc : TypeId × Value → H} {P : Program}
/-- A slice whose elements are of a kind that is known. -/
theorem open_sl {α : Type} [Rep α] {t e : TypeId} {W : World} {base : Nat} {v : Value} {d : DataW H} {ps : List MemPlace} (ht : P.underlying t = some (.slice e)) (hC : P.cellsOf e = Rep.size α)
    (hel : ∀ fuel cs x, DataW.trod enc P W 0 (fun _ => true) true fuel e cs = some x → ∃ a : α, Rep.R W (fun b => b < W.heap.size) cs a) (hsz : 0 < Rep.size α)
    (hval : Value.okWide P W .any base t v) (h : DataW.Trod enc P W 0 (fun _ => true) true t v d ps) :
    ∃ A c, ∃ l : List α, v = .slice A l.length c ∧ Sl W (fun b => b < W.heap.size) A c l ∧ l.length ≤ Rows.uptoBulk d := by
  obtain ⟨a, len, cap, rfl⟩ := okWide_slice ht hval
  obtain ⟨fuel, hf⟩ := h
  rcases open_slice ht hf with ⟨hcs, _⟩ | ⟨a', len', cap', m, n, D, Pl, hcs, _, hl, hm, hmm, hx, hi⟩
  · simp [Value.cells] at hcs
    obtain ⟨rfl, rfl, rfl⟩ := hcs
    exact ⟨none, 0, [], rfl, Sl.nil _ _ _ _ (by simp [maxLen]), by simp⟩
  · simp [Value.cells] at hcs
    obtain ⟨rfl, rfl, rfl⟩ := hcs
    simp only [if_true] at hmm
    subst hmm
    rw [hC] at hi
    have hQ : ∀ i, i < len → ∃ x : α, ∃ es, Rep.R W (fun b => b < W.heap.size) es x ∧ ∀ j u, es[j]? = some u → W.cell? (a'.add (i * Rep.size α + j)) = some u := by
      intro i hil
      obtain ⟨cs', hc, ht'⟩ := hi i (by omega)
      obtain ⟨x, hr⟩ := hel _ _ _ ht'
      obtain ⟨_, hlen, hat⟩ := World.cells?_some hc
      refine ⟨x, cs', hr, fun j u hu => ?_⟩
      have hj : j < Rep.size α := by rw [← hlen]; exact (List.getElem?_eq_some_iff.1 hu).1
      rw [← Go.Deep.add_add]
      exact (hat j hj).trans hu
    obtain ⟨l, hll, hq⟩ := exists_list len hQ
    refine ⟨some a', m, l, by rw [hll], ⟨by omega, hm, fun h0 => ?_⟩, ?_⟩
    · obtain ⟨es, hr, hc⟩ := hq 0 h0
      have hel0 := Rep.len hr
      obtain ⟨b, o, rfl⟩ := addr_plain (by simpa using hc 0 _ (List.getElem?_eq_getElem (by omega)))
      have hlt := World.block_lt_of_cell? W _ (hc 0 _ (List.getElem?_eq_getElem (by omega)))
      rw [addr_add] at hlt
      refine ⟨b, o, rfl, hlt, hlt, fun i hil => ?_⟩
      obtain ⟨es, hr, hc⟩ := hq i hil
      refine ⟨es, hr, fun j u hu => ?_⟩
      have := hc j u hu
      rwa [addr_add, ← Nat.add_assoc] at this
    · simp only [Prod.mk.injEq] at hx
      rw [hx.1, hll]
      have := bulk_slice ((List.range len).map D) ((List.range (m - len)).map fun j => D (len + j))
      simp only [List.length_map, List.length_range] at this
      omega
end Go.Proofs.YthcklfelofpffaaDoor
