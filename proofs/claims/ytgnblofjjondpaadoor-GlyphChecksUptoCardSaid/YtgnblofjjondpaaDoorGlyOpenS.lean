/- A change as an argument, read as plain data. No condition. -/
import Derived.Test.YtgnblofjjondpaaDoorGlyOpenT
import Derived.Test.YtgnblofjjondpaaDoorGlyW17
namespace Go.Proofs.YtgnblofjjondpaaDoor
open Go.ChangeShapes Go.WideShapes Go.ChangeAt Go.RowKit Go.Deep
section
variable {H : Type} {enc : TypeId × Value → H}
set_option maxRecDepth 100000 in
theorem open_spoil {W : World} {base : Nat} {v : Value} {d : DataW H} {ps : List MemPlace} (hval : Value.okWide Tryd.prog W .any base 38 v) (h : DataW.Trod enc Tryd.prog W 0 (fun _ => true) true 38 v d ps) :
    ∃ s : Spoil, v = s.val ∧ I64 s.what ∧ I64 s.at_ ∧ I64 s.n ∧ s.x.ok := by
  obtain ⟨cs, rfl, hsz⟩ := okWide_struct Tryd.underlying38 hval
  obtain ⟨fuel, hf⟩ := h
  obtain ⟨ys, n, _, hx, hlen, hyl, hfs⟩ := DataW.trod_struct Tryd.underlying38 hf
  have h0 : DataW.trod enc Tryd.prog W 0 (fun _ => true) true n 3 ((cs.toList.drop 0).take (Tryd.prog.cellsOf 3)) = some (ys[0]'(by have : ys.length = 4 := hyl; omega)) := (hfs 0 _ rfl).trans (List.getElem?_eq_getElem _)
  have h1 : DataW.trod enc Tryd.prog W 0 (fun _ => true) true n 3 ((cs.toList.drop 1).take (Tryd.prog.cellsOf 3)) = some (ys[1]'(by have : ys.length = 4 := hyl; omega)) := (hfs 1 _ rfl).trans (List.getElem?_eq_getElem _)
  have h2 : DataW.trod enc Tryd.prog W 0 (fun _ => true) true n 3 ((cs.toList.drop 2).take (Tryd.prog.cellsOf 3)) = some (ys[2]'(by have : ys.length = 4 := hyl; omega)) := (hfs 2 _ rfl).trans (List.getElem?_eq_getElem _)
  have h3 : DataW.trod enc Tryd.prog W 0 (fun _ => true) true n 36 ((cs.toList.drop 3).take (Tryd.prog.cellsOf 36)) = some (ys[3]'(by have : ys.length = 4 := hyl; omega)) := (hfs 3 _ rfl).trans (List.getElem?_eq_getElem _)
  have c1 : Tryd.prog.cellsOf 3 = 1 := by kernel_rfl
  have c4 : Tryd.prog.cellsOf 36 = 4 := by kernel_rfl
  have c7 : Tryd.prog.cellsOf 38 = 7 := by kernel_rfl
  have hcl : cs.toList.length = 7 := by have : (Value.agg cs).cells.toList.length = _ := hlen; rw [c7] at this; exact this
  rw [c1] at h0 h1 h2
  rw [c4] at h3
  obtain ⟨n0, e0, _, z0⟩ := DataW.trod_int Tryd.underlying3 h0
  obtain ⟨n1, e1, _, z1⟩ := DataW.trod_int Tryd.underlying3 h1
  obtain ⟨n2, e2, _, z2⟩ := DataW.trod_int Tryd.underlying3 h2
  obtain ⟨x, e3, hx3⟩ := el_word h3
  refine ⟨⟨n0, n1, n2, x⟩, ?_, i64_wf z0, i64_wf z1, i64_wf z2, hx3⟩
  unfold Spoil.val
  congr 1
  apply Array.toList_inj.1
  match cs.toList, hcl, e0, e1, e2, e3 with
  | [a0, a1, a2, a3, a4, a5, a6], _, e0, e1, e2, e3 =>
    simp [Word.cells] at e0 e1 e2 e3
    simp [e0, e1, e2, e3]
end
end Go.Proofs.YtgnblofjjondpaaDoor
