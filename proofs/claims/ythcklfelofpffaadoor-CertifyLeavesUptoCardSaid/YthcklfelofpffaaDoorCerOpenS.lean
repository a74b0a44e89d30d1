/- Sheets as arguments, read as plain data; their sizes against the bulk of what is read. No condition. -/
import Derived.Test.YthcklfelofpffaaDoorCerOpen
import Derived.Test.YthcklfelofpffaaDoorCerW37
namespace Go.Proofs.YthcklfelofpffaaDoor
open Go.ChangeShapes Go.WideShapes Go.ChangeAt Go.RowKit Go.Deep
section
variable {H : Type} {enc : TypeId × Value → H} {P : Program}
/-- The same, the elements' own sizes counted. -/
theorem bulk_sum {H : Type} {α : Type} (m : α → Nat) (D : Nat → DataW H) : ∀ (l : List α) (s : Nat), (∀ i (h : i < l.length), m l[i] ≤ Rows.uptoBulk (D (s + i))) → (l.map m).sum ≤ Rows.uptoBulkAll ((List.range' s l.length).map D)
  | [], _, _ => by simp
  | a :: l, s, h => by
    have h0 := h 0 (by simp)
    have ih := bulk_sum m D l (s + 1) (fun i hi => by have := h (i + 1) (by simpa using hi); simp only [List.getElem_cons_succ] at this; rwa [show s + (i + 1) = s + 1 + i by omega] at this)
    rw [List.map_cons, List.sum_cons, List.length_cons, List.range'_succ, List.map_cons]
    simp only [Rows.uptoBulkAll]
    simp only [List.getElem_cons_zero, Nat.add_zero] at h0
    omega
theorem open_slm {α : Type} [Rep α] (m : α → Nat) {t e : TypeId} {W : World} {d : DataW H} {ps : List MemPlace} {a : Option Addr} {len cap : Nat} (ht : P.underlying t = some (.slice e)) (hC : P.cellsOf e = Rep.size α)
    (hel : ∀ fuel cs x, DataW.trod enc P W 0 (fun _ => true) true fuel e cs = some x → ∃ a : α, Rep.R W (fun b => b < W.heap.size) cs a ∧ m a ≤ Rows.uptoBulk x.1) (hsz : 0 < Rep.size α)
    {fuel : Nat} (hf : DataW.trod enc P W 0 (fun _ => true) true fuel t [.slice a len cap] = some (d, ps)) :
    ∃ l : List α, l.length = len ∧ Sl W (fun b => b < W.heap.size) a cap l ∧ l.length + 1 ≤ Rows.uptoBulk d ∧ (l.map m).sum ≤ Rows.uptoBulk d := by
  rcases open_slice ht hf with ⟨hcs, _⟩ | ⟨a', len', cap', m', n, D, Pl, hcs, _, hl, hm, hmm, hx, hi⟩
  · simp at hcs
    obtain ⟨rfl, rfl, rfl⟩ := hcs
    have := bulk_one d
    exact ⟨[], rfl, Sl.nil _ _ _ _ (by simp [maxLen]), by simp; omega, by simp⟩
  · simp at hcs
    obtain ⟨rfl, rfl, rfl⟩ := hcs
    simp only [if_true] at hmm
    subst hmm
    rw [hC] at hi
    have hQ : ∀ i, i < len → ∃ x : α, m x ≤ Rows.uptoBulk (D i) ∧ ∃ es, Rep.R W (fun b => b < W.heap.size) es x ∧ ∀ j u, es[j]? = some u → W.cell? (a'.add (i * Rep.size α + j)) = some u := by
      intro i hil
      obtain ⟨cs', hc, ht'⟩ := hi i (by omega)
      obtain ⟨x, hr, hmx⟩ := hel _ _ _ ht'
      obtain ⟨_, hlen, hat⟩ := World.cells?_some hc
      refine ⟨x, hmx, cs', hr, fun j u hu => ?_⟩
      have hj : j < Rep.size α := by rw [← hlen]; exact (List.getElem?_eq_some_iff.1 hu).1
      rw [← Go.Deep.add_add]
      exact (hat j hj).trans hu
    obtain ⟨l, hll, hq⟩ := exists_list len hQ
    refine ⟨l, hll, ⟨by omega, hm, fun h0 => ?_⟩, ?_, ?_⟩
    · obtain ⟨_, es, hr, hc⟩ := hq 0 h0
      have hel0 := Rep.len hr
      obtain ⟨b, o, rfl⟩ := addr_plain (by simpa using hc 0 _ (List.getElem?_eq_getElem (by omega)))
      have hlt := World.block_lt_of_cell? W _ (hc 0 _ (List.getElem?_eq_getElem (by omega)))
      rw [addr_add] at hlt
      refine ⟨b, o, rfl, hlt, hlt, fun i hil => ?_⟩
      obtain ⟨_, es, hr, hc⟩ := hq i hil
      refine ⟨es, hr, fun j u hu => ?_⟩
      have := hc j u hu
      rwa [addr_add, ← Nat.add_assoc] at this
    · simp only [Prod.mk.injEq] at hx
      rw [hx.1, hll]
      have := bulk_slice ((List.range len).map D) ((List.range (m' - len)).map fun j => D (len + j))
      simp only [List.length_map, List.length_range] at this
      omega
    · simp only [Prod.mk.injEq] at hx
      rw [hx.1]
      have h1 := bulk_sum m D l 0 (fun i hi => by rw [Nat.zero_add]; exact (hq i hi).1)
      rw [hll, ← List.range_eq_range'] at h1
      simp only [Rows.uptoBulk]
      omega
theorem bulk_str {H : Type} {s : ByteArray} {n : Nat} (h : Rows.uptoBulk (.lit (.string s.data.toList) : DataW H) ≤ n) : s.size ≤ n := by
  simp only [Rows.uptoBulk] at h
  have : s.data.toList.length = s.size := by simp
  omega
/-- A struct's fields, each of one cell. -/
theorem el_fields {W : World} {t : TypeId} {fs : Array Field} {fuel : Nat} {cs : List Value} {x : DataW H × List MemPlace} (he : P.underlying t = some (.struct fs)) (hone : oneCellFields P fs = true) (hC : P.cellsOf t = fs.size)
    (h : DataW.trod enc P W 0 (fun _ => true) true fuel t cs = some x) :
    ∃ (ys : List (DataW H × List MemPlace)) (n : Nat), x.1 = .agg (ys.map (·.1)) ∧ cs.length = fs.size ∧ ys.length = fs.size ∧ ∀ (i : Nat) (f : Field), fs[i]? = some f → ∃ u y, cs[i]? = some u ∧ ys[i]? = some y ∧ DataW.trod enc P W 0 (fun _ => true) true n f.type [u] = some y := by
  obtain ⟨ys, n, _, hx, hlen, hyl, hf⟩ := DataW.trod_struct he h
  rw [hC] at hlen
  refine ⟨ys, n, by rw [hx], hlen, hyl, fun i f hi => ?_⟩
  have hlt : i < fs.size := (Array.getElem?_eq_some_iff.1 hi).1
  obtain ⟨ho, hk⟩ := hone_of hone i f hi
  have h1 := hf i f hi
  rw [ho, hk] at h1
  have hone' : (cs.drop i).take 1 = [cs[i]'(by omega)] := by
    rw [List.drop_eq_getElem_cons (by omega)]; rfl
  rw [hone'] at h1
  exact ⟨_, ys[i]'(by omega), List.getElem?_eq_getElem (by omega), List.getElem?_eq_getElem (by omega), by rw [h1, List.getElem?_eq_getElem (by omega)]⟩
theorem cells_strs : Tryd.prog.cellsOf 22 = 1 := by kernel_rfl
theorem str_lit {W : World} {fuel : Nat} {cs : List Value} {x : DataW H × List MemPlace} (h : DataW.trod enc Tryd.prog W 0 (fun _ => true) true fuel 9 cs = some x) : ∃ s : ByteArray, cs = [.string s] ∧ s.size ≤ Rows.uptoBulk x.1 := by
  obtain ⟨s, e, hx, _⟩ := DataW.trod_string Tryd.underlying9 h
  exact ⟨s, e, by rw [hx]; exact bulk_str (Nat.le_refl _)⟩
theorem el_strs {W : World} {fuel : Nat} {cs : List Value} {x : DataW H × List MemPlace} (h : DataW.trod enc Tryd.prog W 0 (fun _ => true) true fuel 22 cs = some x) : ∃ A c, ∃ l : List ByteArray, cs = [.slice A l.length c] ∧ Sl W (fun b => b < W.heap.size) A c l ∧ l.length + 1 ≤ Rows.uptoBulk x.1 ∧ (l.map ByteArray.size).sum ≤ Rows.uptoBulk x.1 := by
  have hs : ∃ a len cap, cs = [.slice a len cap] := by
    rcases open_slice Tryd.underlying22 h with ⟨hc, _⟩ | ⟨a, len, cap, m, n, D, Pl, hc, _⟩
    · exact ⟨_, _, _, hc⟩
    · exact ⟨_, _, _, hc⟩
  obtain ⟨a, len, cap, rfl⟩ := hs
  obtain ⟨d, ps⟩ := x
  obtain ⟨l, rfl, hsl, hb, hsum⟩ := open_slm ByteArray.size Tryd.underlying22 (by kernel_rfl) (fun _ _ _ h => (by obtain ⟨s, h1, h2⟩ := str_lit h; exact ⟨s, h1, h2⟩)) (by decide) h
  exact ⟨a, cap, l, rfl, hsl, hb, hsum⟩
theorem texts_bound : ∀ (l : List ByteArray), (l.flatMap textB).length ≤ (l.map ByteArray.size).sum + 11 * l.length
  | [] => by simp
  | x :: l => by
    have h1 := textB_len x
    have h2 := texts_bound l
    rw [List.flatMap_cons, List.length_append, List.map_cons, List.sum_cons, List.length_cons]; omega
set_option maxRecDepth 100000 in
/-- A sheet by value. -/
theorem open_sheet {W : World} {base : Nat} {v : Value} {d : DataW H} {ps : List MemPlace} (hval : Value.okWide Tryd.prog W .any base 24 v) (h : DataW.Trod enc Tryd.prog W 0 (fun _ => true) true 24 v d ps) (hb : Rows.uptoBulk d ≤ 1048576) :
    ∃ (s : Sheet) (A B : Option Addr) (c e : Nat), v = .agg #[.string s.label, .slice A s.body.length c, .slice B s.notes.length e] ∧ Sl W (fun b => b < W.heap.size) A c s.body ∧ Sl W (fun b => b < W.heap.size) B e s.notes ∧ ∀ branch, (sheetB branch s).length ≤ 1073740000 := by
  obtain ⟨cs, rfl, hsz⟩ := okWide_struct Tryd.underlying24 hval
  obtain ⟨fuel, hf⟩ := h
  obtain ⟨ys, n, hd, hlen, hyl, hfs⟩ := el_fields Tryd.underlying24 (by kernel_rfl) (by kernel_rfl) hf
  obtain ⟨u0, y0, c0, g0, h0⟩ := hfs 0 _ rfl
  obtain ⟨u1, y1, c1, g1, h1⟩ := hfs 1 _ rfl
  obtain ⟨u2, y2, c2, g2, h2⟩ := hfs 2 _ rfl
  obtain ⟨lab, e0, z0⟩ := str_lit h0
  obtain ⟨A, c, a, e1, s1, b1, t1⟩ := el_strs h1
  obtain ⟨B, e, b, e2, s2, b2, t2⟩ := el_strs h2
  simp only [List.cons.injEq, and_true] at e0 e1 e2
  subst e0 e1 e2
  have hbb : Rows.uptoBulk y0.1 + Rows.uptoBulk y1.1 + Rows.uptoBulk y2.1 ≤ Rows.uptoBulk d := by
    have hd' : d = .agg (ys.map (·.1)) := hd
    rw [hd']
    have hyy : ys = [y0, y1, y2] := by
      have hyl2 : ys.length = 3 := hyl
      match ys, hyl2, g0, g1, g2 with
      | [p, q, r], _, g0, g1, g2 =>
        simp only [List.getElem?_cons_zero, List.getElem?_cons_succ, Option.some.injEq] at g0 g1 g2
        rw [g0, g1, g2]
    rw [hyy]
    simp only [List.map_cons, List.map_nil, Rows.uptoBulk, Rows.uptoBulkAll]; omega
  refine ⟨⟨lab, a, b⟩, A, B, c, e, ?_, s1, s2, fun branch => ?_⟩
  · congr 1
    apply Array.toList_inj.1
    have hcl : cs.toList.length = 3 := hlen
    have c0' : cs.toList[0]? = _ := c0
    have c1' : cs.toList[1]? = _ := c1
    have c2' : cs.toList[2]? = _ := c2
    match cs.toList, hcl, c0', c1', c2' with
    | [p, q, r], _, c0, c1, c2 =>
      simp only [List.getElem?_cons_zero, List.getElem?_cons_succ, Option.some.injEq] at c0 c1 c2
      rw [c0, c1, c2]
  · have q0 := textB_len lab
    have q1 := texts_bound a
    have q2 := texts_bound b
    have q3 := uintB_length a.length
    have q4 := uintB_length b.length
    have q5 := uintB_length (zig branch)
    unfold sheetB textsB intB
    simp only [List.length_append]
    omega
end
end Go.Proofs.YthcklfelofpffaaDoor
