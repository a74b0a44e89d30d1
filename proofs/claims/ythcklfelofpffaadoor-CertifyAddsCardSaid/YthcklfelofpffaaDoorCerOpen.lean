/- Numbers, lists of numbers and lists of these as arguments, read as plain data. No condition. -/
import Derived.Test.YthcklfelofpffaaDoorOpenSl
import Derived.Test.YthcklfelofpffaaDoorCerW25
import Derived.ChangeMaps5
namespace Go.Proofs.YthcklfelofpffaaDoor
open Go.ChangeShapes Go.WideShapes Go.ChangeAt Go.RowKit Go.Deep
variable {H : Type} {enc : TypeId × Value → H} {P : Program}
theorem open_ints_sl {t e : TypeId} {W : World} {base : Nat} {v : Value} {d : DataW H} {ps : List MemPlace} (ht : P.underlying t = some (.slice e)) (he : P.underlying e = some (.int .i64)) (hc : P.cellsOf e = 1)
    (hval : Value.okWide P W .any base t v) (h : DataW.Trod enc P W 0 (fun _ => true) true t v d ps) : ∃ A c, ∃ l : List Int, v = .slice A l.length c ∧ Sl W (fun b => b < W.heap.size) A c l := by
  obtain ⟨a, len, cap, rfl⟩ := okWide_slice ht hval
  obtain ⟨fuel, hf⟩ := h
  rcases open_ints ht he hc hf with ⟨hcs, _⟩ | ⟨a', len', cap', zs, hcs, _, hl, hm, hz, _, hcell, hwf⟩
  · simp [Value.cells] at hcs
    obtain ⟨rfl, rfl, rfl⟩ := hcs
    exact ⟨none, 0, [], rfl, Sl.nil _ _ _ _ (by simp [maxLen])⟩
  · simp [Value.cells] at hcs
    obtain ⟨rfl, rfl, rfl⟩ := hcs
    have hz' : zs.length = cap := by simpa using hz
    have hlt : (zs.take len).length = len := by rw [List.length_take]; omega
    refine ⟨some a', cap, zs.take len, by rw [hlt], by rw [hlt]; exact hl, hm, fun h0 => ?_⟩
    obtain ⟨b, o, rfl, hat⟩ := ints_at hcell (by omega)
    refine ⟨b, o, rfl, World.block_lt_of_cell? W _ (hat 0 (by omega)), World.block_lt_of_cell? W _ (hat 0 (by omega)), fun i hi => ?_⟩
    rw [hlt] at hi
    have e : zs.getD i 0 = (zs.take len)[i]'(by omega) := by
      rw [List.getElem_take, List.getD_eq_getElem?_getD, List.getElem?_eq_getElem (by omega)]; rfl
    refine ⟨[.int .i64 (zs.getD i 0)], ⟨by rw [e], ?_⟩, fun j u hu => ?_⟩
    · exact i64_wf (hwf _ (List.mem_of_mem_take (List.getElem_mem (by omega))))
    · have hj : j = 0 := by
        rcases j with _ | j
        · rfl
        · simp at hu
      subst hj
      simp only [List.getElem?_cons_zero, Option.some.injEq] at hu
      subst hu
      have := hat i (by omega)
      show W.cell? ⟨b, o + i * 1 + 0, none⟩ = _
      rw [Nat.mul_one, Nat.add_zero]; exact this
theorem rep_ints {t e : TypeId} {W : World} (ht : P.underlying t = some (.slice e)) (he : P.underlying e = some (.int .i64)) (hc : P.cellsOf e = 1) (fuel : Nat) (cs : List Value) (x : DataW H × List MemPlace) (hf : DataW.trod enc P W 0 (fun _ => true) true fuel t cs = some x) : ∃ l : List Int, Rep.R W (fun b => b < W.heap.size) cs l := by
  rcases open_ints ht he hc hf with ⟨hcs, _⟩ | ⟨a', len, cap, zs, hcs, _, hl, hm, hz, _, hcell, hwf⟩
  · exact ⟨[], none, 0, hcs, Sl.nil _ _ _ _ (by simp [maxLen]), by simp⟩
  · have hz' : zs.length = cap := by simpa using hz
    have hlt : (zs.take len).length = len := by rw [List.length_take]; omega
    have hm' := hm
    unfold maxLen at hm'
    refine ⟨zs.take len, some a', cap, by rw [hlt]; exact hcs, ⟨by rw [hlt]; exact hl, hm, fun h0 => ?_⟩, by rw [hlt]; omega⟩
    obtain ⟨b, o, rfl, hat⟩ := ints_at hcell (by omega)
    refine ⟨b, o, rfl, World.block_lt_of_cell? W _ (hat 0 (by omega)), World.block_lt_of_cell? W _ (hat 0 (by omega)), fun i hi => ?_⟩
    rw [hlt] at hi
    have e : zs.getD i 0 = (zs.take len)[i]'(by omega) := by
      rw [List.getElem_take, List.getD_eq_getElem?_getD, List.getElem?_eq_getElem (by omega)]; rfl
    refine ⟨[.int .i64 (zs.getD i 0)], ⟨by rw [e], i64_wf (hwf _ (List.mem_of_mem_take (List.getElem_mem (by omega))))⟩, fun j u hu => ?_⟩
    have hj : j = 0 := by
      rcases j with _ | j
      · rfl
      · simp at hu
    subst hj
    simp only [List.getElem?_cons_zero, Option.some.injEq] at hu
    subst hu
    have := hat i (by omega)
    show W.cell? ⟨b, o + i * 1 + 0, none⟩ = _
    rw [Nat.mul_one, Nat.add_zero]; exact this
theorem open_intss {t e ei : TypeId} {W : World} {base : Nat} {v : Value} {d : DataW H} {ps : List MemPlace} (ht : P.underlying t = some (.slice e)) (he : P.underlying e = some (.slice ei)) (hei : P.underlying ei = some (.int .i64)) (hce : P.cellsOf e = 1) (hc : P.cellsOf ei = 1)
    (hval : Value.okWide P W .any base t v) (h : DataW.Trod enc P W 0 (fun _ => true) true t v d ps) : ∃ A c, ∃ l : List (List Int), v = .slice A l.length c ∧ Sl W (fun b => b < W.heap.size) A c l := by
  obtain ⟨A, c, l, h1, h2, _⟩ := open_sl (α := List Int) ht hce (fun fuel cs x hx => rep_ints he hei hc fuel cs x hx) (by decide) hval h
  exact ⟨A, c, l, h1, h2⟩
end Go.Proofs.YthcklfelofpffaaDoor
