/- Lists of paragraphs whose rows the call itself has made, and may still write. No condition. -/
import Derived.Test.YtgnblofjjondpaaDoorGlyW6
namespace Go.Proofs.YtgnblofjjondpaaDoor
open Go.RowKit
/-- A value that one cell holds. -/
structure Raw where
  v : Value
  one : v.oneCell' = true
instance : Rep Raw where
  size := 1
  R _ _ cs x := cs = [x.v]
  len := by rintro w S cs s rfl; rfl
  one := by rintro w S cs s rfl u hu; simp at hu; subst hu; exact s.one
  keep := by rintro w w' S cs s h _; exact h
  mono := by rintro w S S' cs s h _; exact h
/-- Data that needs no memory but its cells. -/
class Flat (α : Type) [Rep α] : Prop where
  flat : ∀ {w w' : World} {S S' : Nat → Prop} {cs : List Value} {a : α}, Rep.R w S cs a → Rep.R w' S' cs a
instance : Flat Raw := ⟨fun h => h⟩
instance : Flat Word := ⟨fun h => h⟩
theorem Own.at_blocks {α : Type} [Rep α] [Flat α] {w w' : World} {base : Nat} {e : TypeId} {v : Value} {l : List α} (h : Own w base e v l) (hk : ∀ g, g < w.heap.size → v.ownBlock = some g → w'.heap[g]? = w.heap[g]?) : Own w' base e v l := by
  obtain ⟨xs, hx, ho, hr⟩ := h
  refine ⟨xs, ⟨hx.1, ?_⟩, ho, fun i hi => Flat.flat (hr i hi)⟩
  rcases hx.2 with hn | ⟨g, cap, cur, hv, hb, hg, rest⟩
  · exact .inl hn
  · exact .inr ⟨g, cap, cur, hv, hb, (hk g (Array.getElem?_eq_some_iff.1 hg).1 (by rw [hv]; rfl)).trans hg, rest⟩
theorem Own.rebase {α : Type} [Rep α] {w : World} {base lo : Nat} {e : TypeId} {v : Value} {l : List α} (h : Own w base e v l) (hk : ∀ g, v.ownBlock = some g → lo ≤ g) : Own w lo e v l := by
  obtain ⟨xs, hx, ho, hr⟩ := h
  refine ⟨xs, ⟨hx.1, ?_⟩, ho, hr⟩
  rcases hx.2 with hn | ⟨g, cap, cur, hv, hb, hg, rest⟩
  · exact .inl hn
  · exact .inr ⟨g, cap, cur, hv, hk g (by rw [hv]; rfl), hg, rest⟩
theorem Own.one {α : Type} [Rep α] {w : World} {base : Nat} {e : TypeId} {v : Value} {l : List α} (h : Own w base e v l) : v.oneCell' = true := by
  obtain ⟨A, c, rfl, _⟩ := h.form; rfl
/-- The rows of a list, each its own block, and the row of their values. -/
structure Nest (w : World) (B : Nat → Prop) (te ti : TypeId) (v : Value) (us : List Raw) (ls : List (List Word)) : Prop where
  own : Own w 0 te v us
  len : us.length = ls.length
  inn : ∀ i (h : i < us.length) (h' : i < ls.length), Own w 0 ti us[i].v ls[i]
  mv : ∀ g, v.ownBlock = some g → B g
  mi : ∀ i (h : i < us.length) g, us[i].v.ownBlock = some g → B g
  ne : ∀ i (h : i < us.length) g, us[i].v.ownBlock = some g → v.ownBlock ≠ some g
  dis : ∀ i j (hi : i < us.length) (hj : j < us.length) g, i ≠ j → us[i].v.ownBlock = some g → us[j].v.ownBlock ≠ some g
section
variable {w w' : World} {B B' : Nat → Prop} {te ti : TypeId} {v v' : Value} {us : List Raw} {ls : List (List Word)}
theorem Nest.nil (w : World) (B : Nat → Prop) (te ti : TypeId) : Nest w B te ti (.slice none 0 0) [] [] :=
  ⟨Own.nil _ _ _, rfl, fun i h => absurd h (by simp), fun g h => (by cases h), fun i h => absurd h (by simp), fun i h => absurd h (by simp), fun i j h => absurd h (by simp)⟩
theorem Nest.kept (h : Nest w B te ti v us ls) (hk : ∀ g, g < w.heap.size → B g → w'.heap[g]? = w.heap[g]?) : Nest w' B te ti v us ls :=
  ⟨h.own.at_blocks fun g hl hg => hk g hl (h.mv g hg), h.len, fun i hi hi' => (h.inn i hi hi').at_blocks fun g hl hg => hk g hl (h.mi i hi g hg), h.mv, h.mi, h.ne, h.dis⟩
theorem Nest.below (h : Nest w B te ti v us ls) (hb : Below w.heap.size w w') : Nest w' B te ti v us ls := h.kept fun g hl _ => hb.block g hl
theorem Nest.mono (h : Nest w B te ti v us ls) (hB : ∀ g, g < w.heap.size → B g → B' g) : Nest w B' te ti v us ls :=
  ⟨h.own, h.len, h.inn, fun g hg => hB g (h.own.lt g hg).2 (h.mv g hg), fun i hi g hg => hB g ((h.inn i hi (h.len ▸ hi)).lt g hg).2 (h.mi i hi g hg), h.ne, h.dis⟩
theorem Nest.rown (h : Nest w B te ti v us ls) {lo : Nat} (hB : ∀ g, B g → lo ≤ g) : Own w lo te v us := h.own.rebase fun g hg => hB g (h.mv g hg)
theorem Nest.rinn (h : Nest w B te ti v us ls) {lo : Nat} (hB : ∀ g, B g → lo ≤ g) (i : Nat) (hi : i < us.length) (hi' : i < ls.length) : Own w lo ti us[i].v ls[i] := (h.inn i hi hi').rebase fun g hg => hB g (h.mi i hi g hg)
/-- One row more. -/
theorem Nest.push {u : Raw} {l : List Word} {H : Nat} (h : Nest w B te ti v us ls) (hl : Own w 0 ti u.v l) (hu : ∀ g, u.v.ownBlock = some g → ¬ B g ∧ B' g)
    (hk : ∀ b, b < w.heap.size → some b ≠ v.ownBlock → w'.heap[b]? = w.heap[b]?) (hown : Own w' 0 te v' (us ++ [u])) (hat : v'.ownBlock = v.ownBlock ∨ v'.ownBlock = some H) (hH : w.heap.size ≤ H)
    (hB : ∀ g, B g → B' g) (hBH : B' H) : Nest w' B' te ti v' (us ++ [u]) (ls ++ [l]) := by
  have hne : ∀ g, u.v.ownBlock = some g → v.ownBlock ≠ some g := fun g hg e => (hu g hg).1 (h.mv g e)
  have hlt : ∀ i (hi : i < us.length) g, us[i].v.ownBlock = some g → g < w.heap.size := fun i hi g hg => ((h.inn i hi (h.len ▸ hi)).lt g hg).2
  have hlu : ∀ g, u.v.ownBlock = some g → g < w.heap.size := fun g hg => (hl.lt g hg).2
  have hv' : ∀ g, g < w.heap.size → v.ownBlock ≠ some g → v'.ownBlock ≠ some g := fun g hg hn => by
    rcases hat with e | e
    · rw [e]; exact hn
    · rw [e]; intro e2; injection e2 with e2; omega
  have keep : ∀ {x : Value} {m : List Word}, Own w 0 ti x m → (∀ g, x.ownBlock = some g → v.ownBlock ≠ some g) → Own w' 0 ti x m := fun ho hn => ho.at_blocks fun g hg hx => hk g hg fun e => hn g hx e.symm
  refine ⟨hown, by simp [h.len], fun i hi hi' => ?_, fun g hg => ?_, fun i hi g hg => ?_, fun i hi g hg => ?_, fun i j hi hj g hij hg => ?_⟩
  · by_cases hlt' : i < us.length
    · rw [List.getElem_append_left hlt', List.getElem_append_left (h.len ▸ hlt')]
      exact keep (h.inn i hlt' (h.len ▸ hlt')) (h.ne i hlt')
    · obtain rfl : i = us.length := by simp at hi; omega
      have e1 : (us ++ [u])[us.length] = u := by simp
      have e2 : (ls ++ [l])[us.length] = l := by simp [h.len]
      rw [e1, e2]
      exact keep hl hne
  · rcases hat with e | e
    · exact hB g (h.mv g (e ▸ hg))
    · rw [e] at hg; injection hg with hg; exact hg ▸ hBH
  · by_cases hlt' : i < us.length
    · rw [List.getElem_append_left hlt'] at hg; exact hB g (h.mi i hlt' g hg)
    · obtain rfl : i = us.length := by simp at hi; omega
      rw [show (us ++ [u])[us.length] = u by simp] at hg; exact (hu g hg).2
  · by_cases hlt' : i < us.length
    · rw [List.getElem_append_left hlt'] at hg; exact hv' g (hlt i hlt' g hg) (h.ne i hlt' g hg)
    · obtain rfl : i = us.length := by simp at hi; omega
      rw [show (us ++ [u])[us.length] = u by simp] at hg; exact hv' g (hlu g hg) (hne g hg)
  · by_cases hli : i < us.length
    · rw [List.getElem_append_left hli] at hg
      by_cases hlj : j < us.length
      · rw [List.getElem_append_left hlj]; exact h.dis i j hli hlj g hij hg
      · obtain rfl : j = us.length := by simp at hj; omega
        rw [show (us ++ [u])[us.length] = u by simp]
        intro e; exact (hu g e).1 (h.mi i hli g hg)
    · obtain rfl : i = us.length := by simp at hi; omega
      rw [show (us ++ [u])[us.length] = u by simp] at hg
      have hlj : j < us.length := by simp at hj; omega
      rw [List.getElem_append_left hlj]
      intro e; exact (hu g hg).1 (h.mi j hlj g e)
/-- A row written in place. -/
theorem Nest.inner (h : Nest w B te ti v us ls) (i : Nat) (hi : i < us.length) {l : List Word} (hk : ∀ b, b < w.heap.size → some b ≠ us[i].v.ownBlock → w'.heap[b]? = w.heap[b]?) (hown : Own w' 0 ti us[i].v l) : Nest w' B te ti v us (ls.set i l) := by
  refine ⟨h.own.at_blocks fun g hl hg => hk g hl fun e => h.ne i hi g e.symm hg, by rw [List.length_set]; exact h.len, fun j hj hj' => ?_, h.mv, h.mi, h.ne, h.dis⟩
  by_cases hij : i = j
  · subst hij; rw [List.getElem_set_self]; exact hown
  · rw [List.getElem_set_ne hij]
    rw [List.length_set] at hj'
    exact (h.inn j hj hj').at_blocks fun g hl hg => hk g hl fun e => h.dis i j hi hj g hij e.symm hg
/-- Another row in the place of one. -/
theorem Nest.row (h : Nest w B te ti v us ls) (i : Nat) {u : Raw} {l : List Word} (hl : Own w 0 ti u.v l) (hu : ∀ g, u.v.ownBlock = some g → ¬ B g ∧ B' g)
    (hk : ∀ b, b < w.heap.size → some b ≠ v.ownBlock → w'.heap[b]? = w.heap[b]?) (hown : Own w' 0 te v (us.set i u)) (hB : ∀ g, B g → B' g) : Nest w' B' te ti v (us.set i u) (ls.set i l) := by
  have hne : ∀ g, u.v.ownBlock = some g → v.ownBlock ≠ some g := fun g hg e => (hu g hg).1 (h.mv g e)
  have keep : ∀ {x : Value} {m : List Word}, Own w 0 ti x m → (∀ g, x.ownBlock = some g → v.ownBlock ≠ some g) → Own w' 0 ti x m := fun ho hn => ho.at_blocks fun g hg hx => hk g hg fun e => hn g hx e.symm
  refine ⟨hown, by simp [h.len], fun j hj hj' => ?_, fun g hg => hB g (h.mv g hg), fun j hj g hg => ?_, fun j hj g hg => ?_, fun j k hj hk' g hjk hg => ?_⟩
  · rw [List.length_set] at hj hj'
    by_cases hij : i = j
    · subst hij; rw [List.getElem_set_self, List.getElem_set_self]; exact keep hl hne
    · rw [List.getElem_set_ne hij, List.getElem_set_ne hij]; exact keep (h.inn j hj hj') (h.ne j hj)
  · rw [List.length_set] at hj
    by_cases hij : i = j
    · subst hij; rw [List.getElem_set_self] at hg; exact (hu g hg).2
    · rw [List.getElem_set_ne hij] at hg; exact hB g (h.mi j hj g hg)
  · rw [List.length_set] at hj
    by_cases hij : i = j
    · subst hij; rw [List.getElem_set_self] at hg; exact hne g hg
    · rw [List.getElem_set_ne hij] at hg; exact h.ne j hj g hg
  · rw [List.length_set] at hj hk'
    by_cases hij : i = j
    · subst hij
      rw [List.getElem_set_self] at hg
      rw [List.getElem_set_ne hjk]
      intro e; exact (hu g hg).1 (h.mi k hk' g e)
    · rw [List.getElem_set_ne hij] at hg
      by_cases hik : i = k
      · subst hik
        rw [List.getElem_set_self]
        intro e; exact (hu g e).1 (h.mi j hj g hg)
      · rw [List.getElem_set_ne hik]; exact h.dis j k hj hk' g hjk hg
/-- Read as plain data. -/
theorem Nest.sl (h : Nest w B te ti v us ls) (hlen : ∀ l ∈ ls, l.length < 9223372036854775808) : ∃ A c, v = .slice A ls.length c ∧ Sl w (fun b => b < w.heap.size) A c ls := by
  obtain ⟨A, c, rfl, hs⟩ := h.own.sl
  refine ⟨A, c, by rw [h.len], by rw [← h.len]; exact hs.1, hs.2.1, fun hn => ?_⟩
  obtain ⟨b, o, rfl, hb, hlt, hx⟩ := hs.2.2 (by rw [h.len]; exact hn)
  refine ⟨b, o, rfl, hb, hlt, fun i hi => ?_⟩
  have hi' : i < us.length := by rw [h.len]; exact hi
  obtain ⟨es, hr, hc⟩ := hx i hi'
  obtain ⟨A1, c1, e1, hs1⟩ := (h.inn i hi' hi).sl
  have hr' : es = [us[i].v] := hr
  exact ⟨es, ⟨A1, c1, by rw [hr', e1], hs1, hlen _ (List.getElem_mem hi)⟩, hc⟩
/-- The cell of a row. -/
theorem Nest.at_ (h : Nest w B te ti v us ls) {k : Nat} (hk : k < ls.length) :
    ∃ g cap, ∃ hu : k < us.length, v = .slice (some ⟨g, 0, none⟩) ls.length cap ∧ g < w.heap.size ∧ B g ∧ ls.length ≤ cap ∧ w.cell? ⟨g, k, none⟩ = some us[k].v ∧ (∀ o, w.frozen? ⟨g, o, none⟩ = false) := by
  have hu : k < us.length := by rw [h.len]; exact hk
  obtain ⟨g, cap, es, e, _, hlt, hc, hr, hcell, hfz⟩ := h.own.at_ hu
  have hr' : es = [us[k].v] := hr
  subst hr'
  have := hcell 0 _ rfl
  simp only [Rep.size, Nat.mul_one, Nat.add_zero] at this
  refine ⟨g, cap, hu, by rw [← h.len]; exact e, hlt, h.mv g (by rw [e]; rfl), by rw [← h.len]; exact hc, this, hfz⟩
end
theorem heap_set (w : World) (Y o : Nat) (u : Value) {g : Nat} (h : g ≠ Y) : (w.setCell ⟨Y, o, none⟩ u).heap[g]? = w.heap[g]? := by
  simp only [World.setCell, Array.getElem?_modify]
  rw [if_neg (fun e => h e.symm)]
theorem heap_set_at (w : World) (Y o : Nat) (u : Value) {cs : Array Value} {t : TypeId} {fr : Nat × Nat} (h : w.heap[Y]? = some (.cells cs t fr)) : (w.setCell ⟨Y, o, none⟩ u).heap[Y]? = some (.cells (cs.setIfInBounds o u) t fr) := by
  simp only [World.setCell, Array.getElem?_modify, if_true, h, Option.map_some, Option.isSome_none, Bool.false_eq_true, if_false]
/-- A variable of two cells. -/
structure TBox (w : World) (Y : Nat) (a b : Value) : Prop where
  at_ : w.heap[Y]? = some (.cells #[a, b] 41 (0, 0))
section
variable {w w' : World} {Y : Nat} {a b : Value}
theorem TBox.c0 (h : TBox w Y a b) : w.cell? ⟨Y, 0, none⟩ = some a := cell_of_row w _ 0 _ _ _ h.at_
theorem TBox.c1 (h : TBox w Y a b) : w.cell? ⟨Y, 1, none⟩ = some b := cell_of_row w _ 1 _ _ _ h.at_
theorem TBox.fz (h : TBox w Y a b) (o : Nat) : w.frozen? ⟨Y, o, none⟩ = false := by simp [World.frozen?, h.at_]
theorem TBox.lt (h : TBox w Y a b) : Y < w.heap.size := (Array.getElem?_eq_some_iff.1 h.at_).1
theorem TBox.kept (h : TBox w Y a b) (hk : w'.heap[Y]? = w.heap[Y]?) : TBox w' Y a b := ⟨hk.trans h.at_⟩
theorem TBox.below (h : TBox w Y a b) (hb : Below w.heap.size w w') : TBox w' Y a b := h.kept (hb.block Y h.lt)
theorem TBox.set0 (h : TBox w Y a b) (u : Value) : TBox (w.setCell ⟨Y, 0, none⟩ u) Y u b := ⟨heap_set_at w Y 0 u h.at_⟩
theorem TBox.set1 (h : TBox w Y a b) (u : Value) : TBox (w.setCell ⟨Y, 1, none⟩ u) Y a u := ⟨heap_set_at w Y 1 u h.at_⟩
theorem TBox.other (h : TBox w Y a b) {X o : Nat} (hX : Y ≠ X) (u : Value) : TBox (w.setCell ⟨X, o, none⟩ u) Y a b := h.kept (heap_set w X o u hX)
end
end Go.Proofs.YtgnblofjjondpaaDoor
