/- Slices of bytes as arguments, read as plain data. No condition. -/
import Derived.Test.YtgnblofjjondpaaDoorGlyOpen
import Derived.Test.YtgnblofjjondpaaDoorGlyS11
namespace Go.Proofs.YtgnblofjjondpaaDoor
open Go.ChangeShapes Go.WideShapes Go.ChangeAt Go.RowKit Go.Deep
theorem el_b8 {H : Type} {enc : TypeId × Value → H} {W : World} {fuel : Nat} {cs : List Value} {x : DataW H × List MemPlace} (h : DataW.trod enc Tryd.prog W 0 (fun _ => true) true fuel 5 cs = some x) : ∃ s : B8, Rep.R W (fun b => b < W.heap.size) cs s := by
  obtain ⟨n, rfl, _, hw⟩ := DataW.trod_int Tryd.underlying5 h
  have hr : 0 ≤ n ∧ n ≤ 255 := by simpa [Lit.wf, IntKind.min, IntKind.max, IntKind.signed, IntKind.bits] using hw
  obtain ⟨m, rfl⟩ := Int.eq_ofNat_of_zero_le hr.1
  exact ⟨⟨m⟩, rfl, by show m ≤ 255; omega⟩
set_option maxRecDepth 100000 in
theorem open_bytes_sl {H : Type} {enc : TypeId × Value → H} {W : World} {base : Nat} {v : Value} {d : DataW H} {ps : List MemPlace} (hval : Value.okWide Tryd.prog W .any base 22 v) (h : DataW.Trod enc Tryd.prog W 0 (fun _ => true) true 22 v d ps) :
    ∃ A c, ∃ l : List B8, v = .slice A l.length c ∧ Sl W (fun b => b < W.heap.size) A c l := by
  obtain ⟨A, c, l, h1, h2, _⟩ := open_sl (α := B8) Tryd.underlying22 (by kernel_rfl) (fun _ _ _ h => el_b8 h) (by decide) hval h
  exact ⟨A, c, l, h1, h2⟩
end Go.Proofs.YtgnblofjjondpaaDoor
