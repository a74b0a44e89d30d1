/- Texts as arguments, read as plain data; their sizes against the bulk of what is read. No condition. -/
import Derived.Test.YtgnblofjjondpaaDoorGlyOpen
import Derived.Test.YtgnblofjjondpaaDoorGlyTX
namespace Go.Proofs.YtgnblofjjondpaaDoor
open Go.ChangeShapes Go.WideShapes Go.ChangeAt Go.RowKit Go.Deep
section
variable {H : Type} {enc : TypeId × Value → H} {P : Program}
/-- A struct's fields, each of one cell. -/
theorem el_fields {W : World} {t : TypeId} {fs : Array Field} {fuel : Nat} {cs : List Value} {x : DataW H × List MemPlace} (he : P.underlying t = some (.struct fs)) (hone : oneCellFields P fs = true) (hC : P.cellsOf t = fs.size)
    (h : DataW.trod enc P W 0 (fun _ => true) true fuel t cs = some x) :
    ∃ (ys : List (DataW H × List MemPlace)) (n : Nat), x.1 = .agg (ys.map (·.1)) ∧ cs.length = fs.size ∧ ys.length = fs.size ∧ ∀ (i : Nat) (f : Field), fs[i]? = some f → ∃ u y, cs[i]? = some u ∧ ys[i]? = some y ∧ DataW.trod enc P W 0 (fun _ => true) true n f.type [u] = some y := by
  obtain ⟨ys, n, _, hx, hlen, hyl, hf⟩ := DataW.trod_struct he h
  rw [hC] at hlen
  refine ⟨ys, n, by rw [hx], hlen, hyl, fun i f hi => ?_⟩
  have hlt : i < fs.size := (Array.getElem?_eq_some_iff.1 hi).1
  obtain ⟨ho, hk⟩ := hone_of hone i f hi
  have h1 := hf i f hi
  rw [ho, hk] at h1
  have hone' : (cs.drop i).take 1 = [cs[i]'(by omega)] := by
    rw [List.drop_eq_getElem_cons (by omega)]; rfl
  rw [hone'] at h1
  exact ⟨_, ys[i]'(by omega), List.getElem?_eq_getElem (by omega), List.getElem?_eq_getElem (by omega), by rw [h1, List.getElem?_eq_getElem (by omega)]⟩
theorem el_word {W : World} {fuel : Nat} {cs : List Value} {x : DataW H × List MemPlace} (h : DataW.trod enc Tryd.prog W 0 (fun _ => true) true fuel 36 cs = some x) : ∃ s : Word, cs = s.cells ∧ s.ok := by
  obtain ⟨ys, n, _, hlen, _, hf⟩ := el_fields Tryd.underlying36 (by kernel_rfl) (by kernel_rfl) h
  obtain ⟨u0, y0, c0, _, h0⟩ := hf 0 _ rfl
  obtain ⟨u1, y1, c1, _, h1⟩ := hf 1 _ rfl
  obtain ⟨u2, y2, c2, _, h2⟩ := hf 2 _ rfl
  obtain ⟨u3, y3, c3, _, h3⟩ := hf 3 _ rfl
  obtain ⟨s0, e0, _, z0⟩ := DataW.trod_string Tryd.underlying9 h0
  obtain ⟨s1, e1, _, z1⟩ := DataW.trod_string Tryd.underlying9 h1
  obtain ⟨n2, e2, _, z2⟩ := DataW.trod_int Tryd.underlying3 h2
  obtain ⟨n3, e3, _, z3⟩ := DataW.trod_int Tryd.underlying3 h3
  simp only [List.cons.injEq, and_true] at e0 e1 e2 e3
  subst e0 e1 e2 e3
  refine ⟨⟨s0, s1, n2, n3⟩, ?_, z0, z1, i64_wf z2, i64_wf z3⟩
  match cs, hlen with
  | [a, b, c, d], _ =>
    simp at c0 c1 c2 c3
    rw [c0, c1, c2, c3]; rfl
theorem el_part {W : World} {fuel : Nat} {cs : List Value} {x : DataW H × List MemPlace} (h : DataW.trod enc Tryd.prog W 0 (fun _ => true) true fuel 61 cs = some x) : ∃ l : List Word, Rep.R W (fun b => b < W.heap.size) cs l ∧ l.length ≤ Rows.uptoBulk x.1 := by
  have hs : ∃ a len cap, cs = [.slice a len cap] := by
    rcases open_slice Tryd.underlying61 h with ⟨hc, _⟩ | ⟨a, len, cap, m, n, D, Pl, hc, _⟩
    · exact ⟨_, _, _, hc⟩
    · exact ⟨_, _, _, hc⟩
  obtain ⟨a, len, cap, rfl⟩ := hs
  obtain ⟨d, ps⟩ := x
  obtain ⟨l, rfl, hsl, hb, _⟩ := open_slm (fun _ : Word => 0) Tryd.underlying61 (by kernel_rfl) (fun _ _ _ h => (by obtain ⟨s, h1, h2⟩ := el_word h; exact ⟨s, ⟨h1, h2⟩, Nat.zero_le _⟩)) (by decide) h
  exact ⟨l, ⟨a, cap, rfl, hsl, by have := hsl.1; have := hsl.2.1; unfold maxLen at this; omega⟩, by show l.length ≤ Rows.uptoBulk d; omega⟩
theorem sum_tot (l : List (List Word)) : (l.map List.length).sum = tot l := by unfold tot; rw [List.length_flatten]
set_option maxRecDepth 100000 in
/-- A text by value. -/
theorem open_text {W : World} {base : Nat} {v : Value} {d : DataW H} {ps : List MemPlace} (hval : Value.okWide Tryd.prog W .any base 41 v) (h : DataW.Trod enc Tryd.prog W 0 (fun _ => true) true 41 v d ps) (hb : Rows.uptoBulk d ≤ 1048576) :
    ∃ A c B e, ∃ a b : List (List Word), v = .agg #[.slice A a.length c, .slice B b.length e] ∧ TX W A c B e a b := by
  obtain ⟨cs, rfl, hsz⟩ := okWide_struct Tryd.underlying41 hval
  obtain ⟨fuel, hf⟩ := h
  obtain ⟨ys, n, hd, hlen, hyl, hfs⟩ := el_fields Tryd.underlying41 (by kernel_rfl) (by kernel_rfl) hf
  obtain ⟨u0, y0, c0, g0, h0⟩ := hfs 0 _ rfl
  obtain ⟨u1, y1, c1, g1, h1⟩ := hfs 1 _ rfl
  have hs : ∀ {u : Value} {y : DataW H × List MemPlace}, DataW.trod enc Tryd.prog W 0 (fun _ => true) true n 39 [u] = some y → ∃ A c, ∃ a : List (List Word), u = .slice A a.length c ∧ Sl W (fun b => b < W.heap.size) A c a ∧ a.length + 1 ≤ Rows.uptoBulk y.1 ∧ tot a ≤ Rows.uptoBulk y.1 := by
    intro u y hu
    have hsu : ∃ a len cap, u = .slice a len cap := by
      rcases open_slice Tryd.underlying39 hu with ⟨hc, _⟩ | ⟨a, len, cap, m, n, D, Pl, hc, _⟩
      · simp only [List.cons.injEq, and_true] at hc; exact ⟨_, _, _, hc⟩
      · simp only [List.cons.injEq, and_true] at hc; exact ⟨_, _, _, hc⟩
    obtain ⟨a, len, cap, rfl⟩ := hsu
    obtain ⟨d', ps'⟩ := y
    obtain ⟨l, rfl, hsl, hbl, hsum⟩ := open_slm (List.length : List Word → Nat) Tryd.underlying39 (by kernel_rfl) (fun _ _ _ h => el_part h) (by decide) hu
    rw [sum_tot] at hsum
    exact ⟨a, cap, l, rfl, hsl, hbl, hsum⟩
  obtain ⟨A, c, a, rfl, s0, b0, t0⟩ := hs h0
  obtain ⟨B, e, b, rfl, s1, b1, t1⟩ := hs h1
  have hbb : Rows.uptoBulk y0.1 + Rows.uptoBulk y1.1 ≤ Rows.uptoBulk d := by
    have hd' : d = .agg (ys.map (·.1)) := hd
    rw [hd']
    have hyy : ys = [y0, y1] := by
      have hyl2 : ys.length = 2 := hyl
      match ys, hyl2, g0, g1 with
      | [p, q], _, g0, g1 =>
        simp only [List.getElem?_cons_zero, List.getElem?_cons_succ, Option.some.injEq] at g0 g1
        rw [g0, g1]
    rw [hyy]
    simp only [List.map_cons, List.map_nil, Rows.uptoBulk, Rows.uptoBulkAll]; omega
  refine ⟨A, c, B, e, a, b, ?_, s0, s1, by omega, by omega, by rw [tot_ab]; omega⟩
  congr 1
  apply Array.toList_inj.1
  have hcl : cs.toList.length = 2 := hlen
  have c0' : cs.toList[0]? = _ := c0
  have c1' : cs.toList[1]? = _ := c1
  match cs.toList, hcl, c0', c1' with
  | [p, q], _, c0, c1 =>
    simp only [List.getElem?_cons_zero, List.getElem?_cons_succ, Option.some.injEq] at c0 c1
    rw [c0, c1]
end
end Go.Proofs.YtgnblofjjondpaaDoor
