/- A text of good words, whose notes are numbered in order, has no error; so has its text of fillers. No program is in sight. -/
import Derived.Test.YtgnblofjjondpaaDoorGlyW13
namespace Go.Proofs.YtgnblofjjondpaaDoor
open Go.RowKit
def up : Int → Nat → List Int
  | _, 0 => []
  | a, m + 1 => (a + 1) :: up (a + 1) m
theorem up_range : ∀ (n : Nat) (a : Int), (List.range n).map (fun i : Nat => a + ((i : Int) + 1)) = up a n
  | 0, _ => rfl
  | n + 1, a => by
    rw [List.range_succ_eq_map, List.map_cons, List.map_map, up, ← up_range n (a + 1)]
    congr 1
    apply List.map_congr_left
    intro i _
    simp only [Function.comp]; omega
theorem up_split : ∀ (l1 l2 : List Int) (a : Int) (m : Nat), l1 ++ l2 = up a m → l1 = up a l1.length ∧ l2 = up (a + l1.length) l2.length ∧ m = l1.length + l2.length
  | [], l2, a, m, h => by
    have hl : l2.length = m := by
      have : ∀ (m : Nat) (a : Int), (up a m).length = m := by
        intro m
        induction m with
        | zero => intro a; rfl
        | succ m ih => intro a; rw [up, List.length_cons, ih]
      have h' := congrArg List.length h
      rw [this] at h'
      simpa using h'
    subst hl
    refine ⟨rfl, ?_, by simp⟩
    simpa using h
  | x :: l1, l2, a, 0, h => by simp [up] at h
  | x :: l1, l2, a, m + 1, h => by
    rw [List.cons_append, up] at h
    obtain ⟨h1, h2⟩ := List.cons.inj h
    obtain ⟨e1, e2, e3⟩ := up_split l1 l2 (a + 1) m h2
    refine ⟨by rw [List.length_cons, up, ← e1, h1], ?_, by rw [List.length_cons]; omega⟩
    rw [List.length_cons, show a + ((l1.length + 1 : Nat) : Int) = a + 1 + l1.length by omega]
    exact e2
theorem seqOf_cons (x : Word) (r : List Word) : seqOf (x :: r) = if x.n = 0 then seqOf r else x.n :: seqOf r := by
  unfold seqOf
  rw [List.map_cons]
  by_cases h : x.n = 0
  · rw [if_pos h, List.filter_cons_of_neg (by simp [h])]
  · rw [if_neg h, List.filter_cons_of_pos (by simp [h])]
def Fine (x : Word) : Prop := badW x = false ∧ (x.t = 0 ∨ x.t = 1)
theorem scanW_fine {np nn i : Nat} (hi : i < np) : ∀ (p : List Word) (notes : Int) (m : Nat), (∀ x ∈ p, Fine x) → seqOf p = up notes m → notes + m ≤ nn → scanW np nn i notes p = (0, notes + m)
  | [], notes, m, _, hs, _ => by
    have : m = 0 := by
      cases m with
      | zero => rfl
      | succ m => simp [seqOf, up] at hs
    subst this; simp [scanW]
  | x :: r, notes, m, hf, hs, hn => by
    have hx := hf x (List.mem_cons_self ..)
    have hr : ∀ y ∈ r, Fine y := fun y hy => hf y (List.mem_cons_of_mem _ hy)
    rw [seqOf_cons] at hs
    by_cases h0 : x.n = 0
    · rw [if_pos h0] at hs
      rw [scanW, step_plain hx.1 hx.2 h0, if_pos rfl]
      exact scanW_fine hi r notes m hr hs hn
    · rw [if_neg h0] at hs
      cases m with
      | zero => simp [up] at hs
      | succ m =>
        rw [up] at hs
        obtain ⟨h1, h2⟩ := List.cons.inj hs
        rw [scanW, step_note hx.1 hx.2 h0 (by rintro (h | h | h) <;> omega), if_pos rfl]
        rw [scanW_fine hi r (notes + 1) m hr h2 (by omega)]
        simp only [Prod.mk.injEq, true_and]; omega
theorem scanW_none {np nn i : Nat} : ∀ (p : List Word) (notes : Int), (∀ x ∈ p, Fine x ∧ x.n = 0) → scanW np nn i notes p = (0, notes)
  | [], notes, _ => rfl
  | x :: r, notes, hf => by
    have hx := hf x (List.mem_cons_self ..)
    rw [scanW, step_plain hx.1.1 hx.1.2 hx.2, if_pos rfl]
    exact scanW_none r notes (fun y hy => hf y (List.mem_cons_of_mem _ hy))
theorem scanP_none {np nn : Nat} : ∀ (l : List (List Word)) (i : Nat) (notes : Int), (∀ p ∈ l, ∀ x ∈ p, Fine x ∧ x.n = 0) → scanP np nn i notes l = (0, notes)
  | [], _, _, _ => rfl
  | p :: r, i, notes, hf => by
    rw [scanP, scanW_none p notes (hf p (List.mem_cons_self ..)), if_pos rfl]
    exact scanP_none r (i + 1) notes (fun q hq => hf q (List.mem_cons_of_mem _ hq))
theorem scanP_fine {np nn : Nat} (R : List (List Word)) : ∀ (l : List (List Word)) (i : Nat) (notes : Int) (m : Nat), i + l.length ≤ np → (∀ p ∈ l, ∀ x ∈ p, Fine x) → seqOf l.flatten = up notes m → notes + m ≤ nn → scanP np nn i notes (l ++ R) = scanP np nn (i + l.length) (notes + m) R
  | [], i, notes, m, _, _, hs, _ => by
    have : m = 0 := by
      cases m with
      | zero => rfl
      | succ m => simp [seqOf, up] at hs
    subst this; simp
  | p :: r, i, notes, m, hi, hf, hs, hn => by
    rw [List.length_cons] at hi
    rw [List.flatten_cons, seqOf_append] at hs
    obtain ⟨e1, e2, e3⟩ := up_split _ _ _ _ hs
    have h1 := scanW_fine (np := np) (nn := nn) (i := i) (by omega) p notes _ (hf p (List.mem_cons_self ..)) e1 (by omega)
    rw [List.cons_append, scanP, h1, if_pos rfl]
    rw [scanP_fine R r (i + 1) _ _ (by omega) (fun q hq => hf q (List.mem_cons_of_mem _ hq)) e2 (by omega)]
    rw [List.length_cons]
    congr 1
    · omega
    · omega
/-- No error. -/
theorem chk_fine (ls ns : List (List Word)) (h1 : ls.length ≤ 100) (h2 : ns.length ≤ 100) (hl : ∀ p ∈ ls ++ ns, 1 ≤ p.length ∧ p.length ≤ 500) (hf : ∀ p ∈ ls, ∀ x ∈ p, Fine x) (hn : ∀ p ∈ ns, ∀ x ∈ p, Fine x ∧ x.n = 0) (hs : seqOf ls.flatten = up 0 ns.length) : chkOf ls ns = 0 := by
  have a1 : anyLen longP (ls ++ ns) = false := by
    unfold anyLen
    rw [List.any_eq_false]
    intro p hp
    have := (hl p hp).2
    simp [longP]; omega
  have a2 : anyLen emptyP (ls ++ ns) = false := by
    unfold anyLen
    rw [List.any_eq_false]
    intro p hp
    have := (hl p hp).1
    simp [emptyP]
    intro e; rw [e] at this; simp at this
  unfold chkOf
  rw [if_neg (by rw [a1]; simp; omega), if_neg (by rw [a2]; simp)]
  rw [scanP_fine ns ls 0 0 ns.length (by omega) hf hs (by omega), scanP_none ns _ _ hn]
  unfold endP
  rw [if_neg (by simp), if_neg (by simp)]
theorem Good.fine {x : Word} (h : Good x) : Fine x := by
  refine ⟨?_, h.2.2⟩
  by_cases hk : x.key = ⟨#[]⟩
  · exact good_nokey h.1 hk
  · exact good_key h.1 (h.2.1.resolve_left hk)
theorem GText.seq {ls ns : List (List Word)} (h : GText ls ns) : seqOf ls.flatten = up 0 ns.length := by
  rw [h.s, ← up_range]
  apply List.map_congr_left
  intro i _; omega
theorem GText.chk {ls ns : List (List Word)} (h : GText ls ns) : chkOf ls ns = 0 :=
  chk_fine ls ns (by have := h.l4; omega) (by have := h.n3; omega)
    (fun p hp => by
      rcases List.mem_append.1 hp with hp | hp
      · have := h.p p hp; exact ⟨this.1, by have := this.2.1; omega⟩
      · have := h.q p hp; exact ⟨this.1, by have := this.2.1; omega⟩)
    (fun p hp x hx => ((h.p p hp).2.2 x hx).fine) (fun p hp x hx => ⟨((h.q p hp).2.2 x hx).1.fine, ((h.q p hp).2.2 x hx).2⟩) h.seq
theorem fillOk_width {s : ByteArray} (h : valid s = true) : fillOk (width s) = true := by rw [fill_width]; exact h
theorem shW_fine {x : Word} (h : Good x) : Fine (shW x) := ⟨good_nokey (fill_int _ (fillOk_width h.1)).1 rfl, h.2.2⟩
theorem shp_flatten (l : List (List Word)) : (shp l).flatten = l.flatten.map shW := by
  unfold shp shP; rw [List.map_flatten]
theorem seq_map (l : List Word) : seqOf (l.map shW) = seqOf l := by
  unfold seqOf; rw [List.map_map]; rfl
theorem mem_shp {l : List (List Word)} {p : List Word} (h : p ∈ shp l) : ∃ q ∈ l, p = q.map shW := by
  unfold shp at h
  obtain ⟨q, hq, rfl⟩ := List.mem_map.1 h
  exact ⟨q, hq, rfl⟩
theorem GText.shape {ls ns : List (List Word)} (h : GText ls ns) : chkOf (shp ls) (shp ns) = 0 := by
  have e1 : (shp ls).length = ls.length := by unfold shp; simp
  have e2 : (shp ns).length = ns.length := by unfold shp; simp
  refine chk_fine _ _ (by rw [e1]; have := h.l4; omega) (by rw [e2]; have := h.n3; omega) (fun p hp => ?_) (fun p hp x hx => ?_) (fun p hp x hx => ?_) (by rw [shp_flatten, seq_map, e2]; exact h.seq)
  · rcases List.mem_append.1 hp with hp | hp
    · obtain ⟨q, hq, rfl⟩ := mem_shp hp
      have := h.p q hq
      rw [List.length_map]; exact ⟨this.1, by have := this.2.1; omega⟩
    · obtain ⟨q, hq, rfl⟩ := mem_shp hp
      have := h.q q hq
      rw [List.length_map]; exact ⟨this.1, by have := this.2.1; omega⟩
  · obtain ⟨q, hq, rfl⟩ := mem_shp hp
    obtain ⟨y, hy, rfl⟩ := List.mem_map.1 hx
    exact shW_fine ((h.p q hq).2.2 y hy)
  · obtain ⟨q, hq, rfl⟩ := mem_shp hp
    obtain ⟨y, hy, rfl⟩ := List.mem_map.1 hx
    have := (h.q q hq).2.2 y hy
    exact ⟨shW_fine this.1, this.2⟩
theorem shp_tot (ls ns : List (List Word)) : tot (shp ls ++ shp ns) = tot (ls ++ ns) := by
  unfold tot; rw [List.flatten_append, List.flatten_append, shp_flatten, shp_flatten, List.length_append, List.length_append, List.length_map, List.length_map]
theorem shp_word (ls ns : List (List Word)) (k : Nat) (h : k < (ls ++ ns).flatten.length) : wordOf (shp ls ++ shp ns) (k : Int) = shW (ls ++ ns).flatten[k] ∧ wordOf (ls ++ ns) (k : Int) = (ls ++ ns).flatten[k] ∧ hasWord (shp ls ++ shp ns) (k : Int) = true ∧ hasWord (ls ++ ns) (k : Int) = true := by
  have e : (shp ls ++ shp ns).flatten = (ls ++ ns).flatten.map shW := by rw [List.flatten_append, List.flatten_append, shp_flatten, shp_flatten, List.map_append]
  have ht : (ls ++ ns).flatten.length = tot (ls ++ ns) := rfl
  refine ⟨?_, ?_, ?_, ?_⟩
  · unfold wordOf
    rw [if_neg (by omega), Int.toNat_natCast, e, List.getD_eq_getElem?_getD, List.getElem?_map, List.getElem?_eq_getElem h]; rfl
  · unfold wordOf
    rw [if_neg (by omega), Int.toNat_natCast, List.getD_eq_getElem?_getD, List.getElem?_eq_getElem h]; rfl
  · unfold hasWord; rw [shp_tot]; exact decide_eq_true (by omega)
  · unfold hasWord; exact decide_eq_true (by omega)
theorem shp_width {x : Word} (h : Good x) : width (shW x).s = width x.s := (fill_int _ (fillOk_width h.1)).2
end Go.Proofs.YtgnblofjjondpaaDoor
