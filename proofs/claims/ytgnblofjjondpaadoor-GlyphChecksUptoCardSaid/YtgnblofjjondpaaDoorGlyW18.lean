/- A text after a change: a row in the place of one; the end. No condition. -/
import Derived.Test.YtgnblofjjondpaaDoorGlyW17
namespace Go.Proofs.YtgnblofjjondpaaDoor
open Go.RowKit
theorem Own.set_raw {w : World} {base : Nat} {e : TypeId} {g n cap : Nat} {us : List Raw} (h : Own w base e (.slice (some ⟨g, 0, none⟩) n cap) us) (k : Nat) (hk : k < us.length) (u : Raw) :
    Own (w.setCell ⟨g, k, none⟩ u.v) base e (.slice (some ⟨g, 0, none⟩) n cap) (us.set k u) :=
  (Own.setf h k 0 hk (by decide) u.v u.one u (fun S es hr => by have hr' : es = [us[k].v] := hr; subst hr'; rfl) (by show k = k * 1 + 0; omega)).1
/-- Another row, or a grown one, in the place of one. -/
theorem Nest.regrow {w w' : World} {B B' : Nat → Prop} {te ti : TypeId} {v : Value} {us : List Raw} {ls : List (List Word)} (h : Nest w B te ti v us ls) (i : Nat) (hi : i < us.length) {u : Raw} {l : List Word} (hl : Own w' 0 ti u.v l)
    (hu : ∀ g, u.v.ownBlock = some g → us[i].v.ownBlock = some g ∨ (¬ B g ∧ B' g))
    (hk : ∀ b, b < w.heap.size → some b ≠ us[i].v.ownBlock → some b ≠ v.ownBlock → w'.heap[b]? = w.heap[b]?) (hown : Own w' 0 te v (us.set i u)) (hB : ∀ g, B g → B' g) : Nest w' B' te ti v (us.set i u) (ls.set i l) := by
  have hne : ∀ g, u.v.ownBlock = some g → v.ownBlock ≠ some g := fun g hg e => by
    rcases hu g hg with h1 | h1
    · exact h.ne i hi g h1 e
    · exact h1.1 (h.mv g e)
  have hd : ∀ j (hj : j < us.length) g, j ≠ i → us[j].v.ownBlock = some g → u.v.ownBlock ≠ some g := fun j hj g hji hg e => by
    rcases hu g e with h1 | h1
    · exact h.dis i j hi hj g (Ne.symm hji) h1 hg
    · exact h1.1 (h.mi j hj g hg)
  refine ⟨hown, by simp [h.len], fun j hj hj' => ?_, fun g hg => hB g (h.mv g hg), fun j hj g hg => ?_, fun j hj g hg => ?_, fun j k hj hk' g hjk hg => ?_⟩
  · rw [List.length_set] at hj hj'
    by_cases hij : i = j
    · subst hij; rw [List.getElem_set_self, List.getElem_set_self]; exact hl
    · rw [List.getElem_set_ne hij, List.getElem_set_ne hij]
      exact (h.inn j hj hj').at_blocks fun g hg hx => hk g hg (fun e => h.dis i j hi hj g hij e.symm hx) (fun e => h.ne j hj g hx e.symm)
  · rw [List.length_set] at hj
    by_cases hij : i = j
    · subst hij; rw [List.getElem_set_self] at hg
      rcases hu g hg with h1 | h1
      · exact hB g (h.mi i hi g h1)
      · exact h1.2
    · rw [List.getElem_set_ne hij] at hg; exact hB g (h.mi j hj g hg)
  · rw [List.length_set] at hj
    by_cases hij : i = j
    · subst hij; rw [List.getElem_set_self] at hg; exact hne g hg
    · rw [List.getElem_set_ne hij] at hg; exact h.ne j hj g hg
  · rw [List.length_set] at hj hk'
    by_cases hij : i = j
    · subst hij
      rw [List.getElem_set_self] at hg
      rw [List.getElem_set_ne hjk]
      intro e; exact hd k hk' g (Ne.symm hjk) e hg
    · rw [List.getElem_set_ne hij] at hg
      by_cases hik : i = k
      · subst hik
        rw [List.getElem_set_self]
        exact hd j hj g (Ne.symm hij) hg
      · rw [List.getElem_set_ne hik]; exact h.dis j k hj hk' g hjk hg
section
variable {w wr w5 : World} {O : Nat} {ta tb : Value} {s : Spoil} {B1 B2 : Nat → Prop} {v vn : Value} {us un : List Raw} {ps qs : List (List Word)}
/-- A paragraph put in the place of one. -/
theorem Sp.setRow (h : Sp w wr O ta tb s B1 B2 v vn us un ps qs) (i : Nat) (hi : i < us.length) {g n cap : Nat} (hv : v = .slice (some ⟨g, 0, none⟩) n cap) {u : Raw} {p : List Word}
    (hb5 : Below w.heap.size w w5) (_hsz : wr.heap.size ≤ w5.heap.size) (hk : ∀ b, b < wr.heap.size → some b ≠ us[i].v.ownBlock → w5.heap[b]? = wr.heap[b]?) (hu : Own w5 0 36 u.v p)
    (hat : ∀ g, u.v.ownBlock = some g → us[i].v.ownBlock = some g ∨ wr.heap.size ≤ g) :
    Sp w (w5.setCell ⟨g, i, none⟩ u.v) O ta tb s (fun g => B1 g ∨ wr.heap.size ≤ g) (fun g => B2 g ∧ g < wr.heap.size) v vn (us.set i u) un (ps.set i p) qs := by
  have eO := h.eO
  have hvg : v.ownBlock = some g := by rw [hv]; rfl
  have hgB := h.n.mv g hvg
  have hgO := h.l1 g hgB
  have hglt := (h.n.own.lt g hvg).2
  have holt := h.olt
  have hug : ∀ x, us[i].v.ownBlock = some x → B1 x := fun x hx => h.n.mi i hi x hx
  have hngi : us[i].v.ownBlock ≠ some g := fun e => h.n.ne i hi g e hvg
  have hle : ∀ b, b ≤ O → some b ≠ us[i].v.ownBlock := fun b hb e => by have := h.l1 b (hug b e.symm); omega
  have kp : ∀ b, b ≤ O → (w5.setCell ⟨g, i, none⟩ u.v).heap[b]? = wr.heap[b]? := fun b hb => (heap_set _ _ _ _ (by omega)).trans (hk b (by omega) (hle b hb))
  have hvo : Own w5 0 61 v us := h.n.own.at_blocks fun x hx e => hk x hx (fun e2 => h.n.ne i hi x e2.symm e)
  have hvo' : Own (w5.setCell ⟨g, i, none⟩ u.v) 0 61 v (us.set i u) := by
    subst hv; exact hvo.set_raw i hi u
  have hune : ∀ x, u.v.ownBlock = some x → x ≠ g := fun x hx e => by
    subst e
    rcases hat x hx with h1 | h1
    · exact hngi h1
    · omega
  have hu' : Own (w5.setCell ⟨g, i, none⟩ u.v) 0 36 u.v p := hu.at_blocks fun x _ e => heap_set _ _ _ _ (hune x e)
  have n5 : Nest (w5.setCell ⟨g, i, none⟩ u.v) (fun g => B1 g ∨ wr.heap.size ≤ g) 61 36 v (us.set i u) (ps.set i p) := by
    refine Nest.regrow (B := fun g => B1 g ∧ g < wr.heap.size) (h.n.mono fun g hg' hB => ⟨hB, hg'⟩) i hi hu' (fun x hx => (hat x hx).imp id fun h1 => ⟨fun h2 => by have := h2.2; omega, .inr h1⟩) (fun b hb h1 h2 => (heap_set _ _ _ _ (fun e => h2 (by rw [hvg, e]))).trans (hk b hb h1)) hvo' (fun x hx => .inl hx.1)
  refine ⟨eO, h.t.kept (kp _ (by omega)), (kp _ (by omega)).trans h.s, h.r.kept (kp _ (by omega)), h.o.kept (kp _ (Nat.le_refl _)), n5,
    (h.m.mono fun x hx hB => (⟨hB, hx⟩ : B2 x ∧ x < wr.heap.size)).kept fun x hx hB => ?_, fun x hx => ?_, fun x hx => h.l2 x hx.1, fun x h1 h2 => ?_, hb5.setCell (p := ⟨g, i, none⟩) (by show w.heap.size ≤ g; omega) u.v⟩
  · exact (heap_set _ _ _ _ (fun (e : x = g) => h.dj g hgB (by rw [← e]; exact hB.1))).trans (hk x hx (fun e => h.dj x (hug x e.symm) hB.1))
  · rcases hx with hx | hx
    · exact h.l1 x hx
    · omega
  · rcases h1 with h1 | h1
    · exact h.dj x h1 h2.1
    · have := h2.2; omega
/-- The end: what the result reads. -/
structure SpF (w wr : World) (O : Nat) (v vn : Value) (ls ns : List (List Word)) : Prop where
  eO : O = w.heap.size + 3
  r : TBox wr (w.heap.size + 2) (.slice none 0 0) (.slice none 0 0)
  o : TBox wr O v vn
  x : ∀ W : World, W.heap.size = wr.heap.size → (∀ g, g < wr.heap.size → O < g → W.heap[g]? = wr.heap[g]?) → ∃ A c B d, v = .slice A ls.length c ∧ vn = .slice B ns.length d ∧ Sl W (fun b => b < W.heap.size) A c ls ∧ Sl W (fun b => b < W.heap.size) B d ns
  b : Below w.heap.size w wr
  l1 : ls.length ≤ 110
  l2 : ns.length ≤ 4
  t : tot (ls ++ ns) ≤ 100000
theorem tot_600 {ls ns : List (List Word)} (h1 : ls.length ≤ 110) (h2 : ns.length ≤ 4) (h : ∀ p ∈ ls, p.length ≤ 600) (h' : ∀ p ∈ ns, p.length ≤ 600) : tot (ls ++ ns) ≤ 100000 := by
  rw [tot_ab]
  have e1 := tot_bound 600 ls h
  have e2 := tot_bound 600 ns h'
  omega
theorem Sp.fin (h : Sp w wr O ta tb s B1 B2 v vn us un ps qs) (h1 : ps.length ≤ 110) (h2 : qs.length ≤ 4) (h3 : ∀ p ∈ ps, p.length ≤ 600) (h4 : ∀ p ∈ qs, p.length ≤ 600) : SpF w wr O v vn ps qs := by
  refine ⟨h.eO, h.r, h.o, fun W hW hk => ?_, h.b, h1, h2, tot_600 h1 h2 h3 h4⟩
  obtain ⟨A, c, e1, s1⟩ := (h.n.kept (w' := W) fun g hg hB => hk g hg (h.l1 g hB)).sl (fun l hl => by have := h3 l hl; omega)
  obtain ⟨B, d, e2, s2⟩ := (h.m.kept (w' := W) fun g hg hB => hk g hg (h.l2 g hB)).sl (fun l hl => by have := h4 l hl; omega)
  exact ⟨A, c, B, d, e1, e2, s1, s2⟩
theorem Sp.fin5 (h : Sp w wr O ta tb s B1 B2 v vn us un ps qs) (h0 : 0 < qs.length) (h1 : ps.length ≤ 110) (h2 : qs.length ≤ 4) (h3 : ∀ p ∈ ps, p.length ≤ 600) (h4 : ∀ p ∈ qs, p.length ≤ 600) {A : Option Addr} {c : Nat} (hvn : vn = .slice A qs.length c) {v' : Value}
    (hv' : v' = .slice (if c = 1 then A else A.map (·.add 1)) (qs.length - 1) (c - 1)) : SpF w (wr.setCell ⟨O, 1, none⟩ v') O v v' ps (qs.drop 1) := by
  have eO := h.eO
  refine ⟨h.eO, h.r.other (by omega) v', h.o.set1 v', fun W hW hk => ?_, h.b.setCell (p := ⟨O, 1, none⟩) (by show w.heap.size ≤ O; omega) v', h1, by rw [List.length_drop]; omega, tot_600 h1 (by rw [List.length_drop]; omega) h3 (fun p hp => h4 p (List.mem_of_mem_drop hp))⟩
  rw [World.size_setCell] at hW hk
  have hk' : ∀ g, g < wr.heap.size → O < g → W.heap[g]? = wr.heap[g]? := fun g hg hO => (hk g hg hO).trans (heap_set _ _ _ _ (by omega))
  obtain ⟨A1, c1, e1, s1⟩ := (h.n.kept (w' := W) fun g hg hB => hk' g hg (h.l1 g hB)).sl (fun l hl => by have := h3 l hl; omega)
  obtain ⟨B, d, e2, s2⟩ := (h.m.kept (w' := W) fun g hg hB => hk' g hg (h.l2 g hB)).sl (fun l hl => by have := h4 l hl; omega)
  rw [hvn] at e2
  obtain ⟨rfl, _, rfl⟩ : A = B ∧ qs.length = qs.length ∧ c = d := by injection e2 with a b c; exact ⟨a, b, c⟩
  refine ⟨A1, c1, _, _, e1, ?_, s1, s2.drop 1 (by omega)⟩
  rw [hv', List.length_drop, Nat.one_mul]; rfl
theorem SpF.done {ls ns : List (List Word)} (h : SpF w wr O v vn ls ns) :
    ∃ A c B d, v = .slice A ls.length c ∧ vn = .slice B ns.length d ∧ TX ((wr.setCell ⟨w.heap.size + 2, 0, none⟩ v).setCell ⟨w.heap.size + 2, 1, none⟩ vn) A c B d ls ns ∧ Below w.heap.size w ((wr.setCell ⟨w.heap.size + 2, 0, none⟩ v).setCell ⟨w.heap.size + 2, 1, none⟩ vn) := by
  have eO := h.eO
  obtain ⟨A, c, B, d, e1, e2, s1, s2⟩ := h.x ((wr.setCell ⟨w.heap.size + 2, 0, none⟩ v).setCell ⟨w.heap.size + 2, 1, none⟩ vn) (by simp) (fun g _ hg => (heap_set _ _ _ _ (by omega)).trans (heap_set _ _ _ _ (by omega)))
  refine ⟨A, c, B, d, e1, e2, ⟨s1, s2, by have := h.l1; omega, by have := h.l2; omega, by have := h.t; omega⟩, (h.b.setCell (p := ⟨w.heap.size + 2, 0, none⟩) (by show _ ≤ w.heap.size + 2; omega) v).setCell (p := ⟨w.heap.size + 2, 1, none⟩) (by show _ ≤ w.heap.size + 2; omega) vn⟩
end
end Go.Proofs.YtgnblofjjondpaaDoor
