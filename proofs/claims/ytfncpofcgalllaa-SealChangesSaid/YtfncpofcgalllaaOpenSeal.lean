/- Seals and slices of seals as arguments, read as plain data. No condition. -/
import Derived.Test.YtfncpofcgalllaaOpenSl
import Derived.Test.YtfncpofcgalllaaOpen
namespace Go.Proofs.Ytfncpofcgalllaa
open Go.ChangeShapes Go.WideShapes Go.ChangeAt Go.RowKit Go.Deep
section
variable {H : Type} {enc : TypeId × Value → H} {P : Program}
/-- A struct of ints: its cells. -/
theorem el_ints {W : World} {t : TypeId} {fs : Array Field} {fuel : Nat} {cs : List Value} {x : DataW H × List MemPlace} (he : P.underlying t = some (.struct fs)) (hone : oneCellFields P fs = true) (hC : P.cellsOf t = fs.size)
    (hty : ∀ (i : Nat) (f : Field), fs[i]? = some f → P.underlying f.type = some (.int .i64)) (h : DataW.trod enc P W 0 (fun _ => true) true fuel t cs = some x) :
    ∃ zs : List Int, zs.length = fs.size ∧ cs = zs.map (.int .i64) ∧ ∀ z ∈ zs, I64 z := by
  obtain ⟨ys, n, _, _, hlen, hyl, hf⟩ := DataW.trod_struct he h
  rw [hC] at hlen
  have hQ : ∀ i, i < fs.size → ∃ z : Int, cs[i]? = some (.int .i64 z) ∧ I64 z := by
    intro i hi
    obtain ⟨ho, hk⟩ := hone_of hone i fs[i] (Array.getElem?_eq_getElem hi)
    have h1 := hf i fs[i] (Array.getElem?_eq_getElem hi)
    rw [ho, hk] at h1
    have hone' : (cs.drop i).take 1 = [cs[i]'(by omega)] := by
      rw [List.drop_eq_getElem_cons (by omega)]
      rfl
    rw [hone', List.getElem?_eq_getElem (by omega : i < ys.length)] at h1
    obtain ⟨z, hz, _, hw⟩ := DataW.trod_int (hty i fs[i] (Array.getElem?_eq_getElem hi)) h1
    simp only [List.cons.injEq, and_true] at hz
    exact ⟨z, by rw [List.getElem?_eq_getElem (by omega), hz], i64_wf hw⟩
  obtain ⟨zs, hl, hz⟩ := exists_list fs.size hQ
  refine ⟨zs, hl, ?_, fun z hzm => ?_⟩
  · apply List.ext_getElem?
    intro i
    by_cases hi : i < zs.length
    · rw [(hz i hi).1, List.getElem?_map, List.getElem?_eq_getElem hi]; rfl
    · rw [List.getElem?_eq_none (by omega), List.getElem?_eq_none (by simp; omega)]
  · obtain ⟨i, hi, rfl⟩ := List.getElem_of_mem hzm
    exact (hz i hi).2
theorem el_seal {W : World} {fuel : Nat} {cs : List Value} {x : DataW H × List MemPlace} (h : DataW.trod enc Try.prog W 0 (fun _ => true) true fuel 41 cs = some x) : ∃ s : Seal, cs = s.cells ∧ s.ok := by
  obtain ⟨zs, hl, rfl, hz⟩ := el_ints Try.underlying41 (by kernel_rfl) (by kernel_rfl) (fun i f hi => by
    match i, hi with
    | 0, hi | 1, hi | 2, hi | 3, hi | 4, hi => cases hi; exact Try.underlying3
    | i + 5, hi => simp at hi) h
  match zs, hl with
  | [a, b, c, d, e], _ => exact ⟨⟨a, b, c, d, e⟩, rfl, hz a (by simp), hz b (by simp), hz c (by simp), hz d (by simp), hz e (by simp)⟩
/-- A seal by value. -/
theorem open_seal {W : World} {base : Nat} {v : Value} {d : DataW H} {ps : List MemPlace} (hval : Value.okWide Try.prog W .any base 41 v) (h : DataW.Trod enc Try.prog W 0 (fun _ => true) true 41 v d ps) :
    ∃ s : Seal, v = .agg #[.int .i64 s.e, .int .i64 s.v, .int .i64 s.f, .int .i64 s.u, .int .i64 s.g] ∧ s.ok := by
  obtain ⟨cs, rfl, hsz⟩ := okWide_struct Try.underlying41 hval
  obtain ⟨fuel, hf⟩ := h
  obtain ⟨s, hs, hok⟩ := el_seal hf
  refine ⟨s, ?_, hok⟩
  have : cs.toList = s.cells := by simpa [Value.cells] using hs
  rw [← Array.toArray_toList (xs := cs), this]
  rfl
theorem open_seals_sl {W : World} {base : Nat} {v : Value} {d : DataW H} {ps : List MemPlace} (hval : Value.okWide Try.prog W .any base 23 v) (h : DataW.Trod enc Try.prog W 0 (fun _ => true) true 23 v d ps) :
    ∃ A c, ∃ l : List Seal, v = .slice A l.length c ∧ Sl W (fun b => b < W.heap.size) A c l ∧ l.length ≤ Rows.uptoBulk d :=
  open_sl Try.underlying23 (by kernel_rfl) (fun _ _ _ h => (el_seal h)) (by decide) hval h
end
end Go.Proofs.Ytfncpofcgalllaa
