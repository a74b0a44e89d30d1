/- The reference's generator of texts. No condition. -/
import Derived.Test.YtgnblofjjondpaaDoorGlyG3
namespace Go.Proofs.YtgnblofjjondpaaDoor
open Go.RowKit
theorem raw_info : (Tryd.prog.info? 61).map (fun i => (i.zero, i.size, i.bytes)) = some (some (.slice none 0 0), Rep.size Raw, 24) := by kernel_rfl
/-- A paragraph as it is made. -/
def Fresh (m : Nat) (p : List Word) : Prop := 1 ≤ p.length ∧ p.length ≤ m ∧ ∀ x ∈ p, Good x ∧ x.n = 0
theorem Own.fit {α : Type} [Rep α] {w w' : World} {base : Nat} {e : TypeId} {v : Value} {l : List α} (h : Own w' base e v l) (hb : base = w.heap.size) : ∀ g, v.ownBlock = some g → w.heap.size ≤ g := fun g hg => hb ▸ (h.lt g hg).1
/-- The state of the first loop. -/
structure St1 (w wr : World) (Y : Nat) (k : Nat) (v : Value) (us : List Raw) (ls : List (List Word)) : Prop where
  y : TBox wr Y v (.slice none 0 0)
  x : TBox wr w.heap.size (.slice none 0 0) (.slice none 0 0)
  n : Nest wr (fun g => Y < g) 61 36 v us ls
  l : ls.length = k
  f : ∀ p ∈ ls, Fresh 40 p
  b : Below w.heap.size w wr
theorem St1.push {w wr w4 w5 : World} {Y k : Nat} {v v' : Value} {us : List Raw} {ls : List (List Word)} {u : Raw} {p : List Word} {o : Obj} (h : St1 w wr Y k v us ls) (hY : w.heap.size < Y) (hb4 : Below wr.heap.size wr w4) (hu : Own w4 wr.heap.size 36 u.v p) (hp : Fresh 40 p)
    (hown : Own w5 0 61 v' (us ++ [u])) (hg : (w4.alloc o).grownBy w5 v.ownBlock) (hat : v'.ownBlock = v.ownBlock ∨ v'.ownBlock = some (w4.alloc o).heap.size) :
    St1 w (w5.setCell ⟨Y, 0, none⟩ v') Y (k + 1) v' (us ++ [u]) (ls ++ [p]) := by
  have hylt := h.y.lt
  have hz := hb4.size
  have hvB : ∀ g, v.ownBlock = some g → Y < g := h.n.mv
  have keep : ∀ b, b < w4.heap.size → some b ≠ v.ownBlock → w5.heap[b]? = w4.heap[b]? := fun b hb hne => (hg.block b (by simp; omega) hne).trans (Below.heap_alloc w4 o b hb)
  have y5 : TBox w5 Y v (.slice none 0 0) := (h.y.below hb4).kept (keep Y (by omega) (fun e => by have := hvB Y e.symm; omega))
  have x5 : TBox w5 w.heap.size (.slice none 0 0) (.slice none 0 0) := (h.x.below hb4).kept (keep _ (by omega) (fun e => by have := hvB _ e.symm; omega))
  have n5 : Nest w5 (fun g => Y < g) _ _ v' (us ++ [u]) (ls ++ [p]) :=
    (Nest.push (B := fun g => Y < g ∧ g < wr.heap.size) (B' := fun g => Y < g) (H := (w4.alloc o).heap.size) ((h.n.mono fun g hg' hB => ⟨hB, hg'⟩).below hb4) (hu.re (Nat.zero_le _)) (fun g hg' => by have := hu.fit rfl g hg'; exact ⟨fun hh => by have := hh.2; omega, by omega⟩) keep hown hat (by simp) (fun g hh => hh.1) (by simp; omega))
  refine ⟨y5.set0 v', x5.other (by omega) v', n5.kept fun g hg' hB => heap_set w5 Y 0 v' (by omega), by simp [h.l], fun q hq => ?_, ?_⟩
  · rcases List.mem_append.1 hq with hq | hq
    · exact h.f q hq
    · rw [List.mem_singleton] at hq; subst hq; exact hp
  · have b4 : Below w.heap.size w w4 := h.b.trans (hb4.mono h.b.size)
    have b5 : Below w.heap.size w w5 := (b4.alloc b4.size o).grown hg (by have := b4.size; simp; omega) (fun g hg' => by have := hvB g hg'; omega)
    exact b5.setCell (p := ⟨Y, 0, none⟩) (by show w.heap.size ≤ Y; omega) v'
theorem St1.cell {w wr w4 w5 : World} {Y k : Nat} {v : Value} {us : List Raw} {ls : List (List Word)} {o : Obj} (h : St1 w wr Y k v us ls) (_hY : w.heap.size < Y) (hb4 : Below wr.heap.size wr w4) (hg : (w4.alloc o).grownBy w5 v.ownBlock) : w5.cell? ⟨Y, 0, none⟩ = some v ∧ ∀ o, w5.frozen? ⟨Y, o, none⟩ = false := by
  have y5 : TBox w5 Y v (.slice none 0 0) := (h.y.below hb4).kept ((hg.block Y (by have := h.y.lt; have := hb4.size; simp; omega) (fun e => by have := h.n.mv Y e.symm; omega)).trans (Below.heap_alloc w4 o Y (by have := h.y.lt; have := hb4.size; omega)))
  exact ⟨y5.c0, y5.fz⟩
def seqOf (l : List Word) : List Int := (l.map (·.n)).filter (fun x => x != 0)
theorem seqOf_append (a b : List Word) : seqOf (a ++ b) = seqOf a ++ seqOf b := by unfold seqOf; rw [List.map_append, List.filter_append]
theorem seqOf_nil {l : List Word} (h : ∀ x ∈ l, x.n = 0) : seqOf l = [] := by
  unfold seqOf
  rw [List.filter_eq_nil_iff]
  intro y hy
  obtain ⟨x, hx, rfl⟩ := List.mem_map.1 hy
  rw [h x hx]; simp
theorem seqOf_none {ls : List (List Word)} (h : ∀ p ∈ ls, noNote p) : seqOf ls.flatten = [] := seqOf_nil fun x hx => by
  obtain ⟨p, hp, hxp⟩ := List.mem_flatten.1 hx
  exact h p hp x hxp
/-- The notes to which paragraphs refer, in order. -/
theorem seq_set (ls : List (List Word)) (k i : Nat) (hk : k < ls.length) (hi : i < ls[k].length) (m : Int) (hm : m ≠ 0) (hl : ∀ p ∈ ls.drop (k + 1), noNote p) (h0 : ∀ j (hj : j < ls[k].length), i ≤ j → ls[k][j].n = 0) :
    seqOf (ls.set k (ls[k].set i (withNote ls[k][i] m))).flatten = seqOf ls.flatten ++ [m] := by
  have e1 : ls.set k (ls[k].set i (withNote ls[k][i] m)) = ls.take k ++ (ls[k].set i (withNote ls[k][i] m) :: ls.drop (k + 1)) := by rw [List.set_eq_take_append_cons_drop, if_pos hk]
  have e2 : ls = ls.take k ++ (ls[k] :: ls.drop (k + 1)) := by rw [← List.drop_eq_getElem_cons hk, List.take_append_drop]
  have e3 : ls[k].set i (withNote ls[k][i] m) = ls[k].take i ++ (withNote ls[k][i] m :: ls[k].drop (i + 1)) := by rw [List.set_eq_take_append_cons_drop, if_pos hi]
  have e4 : ls[k] = ls[k].take i ++ ls[k].drop i := (List.take_append_drop i _).symm
  have d1 : seqOf (ls[k].drop i) = [] := seqOf_nil fun x hx => by
    obtain ⟨j, hj, rfl⟩ := List.getElem_of_mem hx
    rw [List.length_drop] at hj
    rw [List.getElem_drop]; exact h0 (i + j) (by omega) (by omega)
  have d2 : seqOf (ls[k].drop (i + 1)) = [] := seqOf_nil fun x hx => by
    obtain ⟨j, hj, rfl⟩ := List.getElem_of_mem hx
    rw [List.length_drop] at hj
    rw [List.getElem_drop]; exact h0 (i + 1 + j) (by omega) (by omega)
  have d3 := seqOf_none hl
  have d4 : seqOf [withNote ls[k][i] m] = [m] := by simp [seqOf, withNote, hm]
  have l1 : seqOf (ls.set k (ls[k].set i (withNote ls[k][i] m))).flatten = seqOf (ls.take k).flatten ++ (seqOf (ls[k].take i) ++ [m]) := by
    rw [e1, List.flatten_append, List.flatten_cons, seqOf_append, seqOf_append, d3, List.append_nil, e3, seqOf_append, ← List.singleton_append, seqOf_append, d4, d2, List.append_nil]
  have l2 : seqOf ls.flatten = seqOf (ls.take k).flatten ++ seqOf (ls[k].take i) := by
    conv => lhs; rw [e2, List.flatten_append, List.flatten_cons, seqOf_append, seqOf_append, d3, List.append_nil, e4, seqOf_append, d1, List.append_nil]
  rw [l1, l2, List.append_assoc]
/-- A text as the generator makes it. -/
structure GText (ls ns : List (List Word)) : Prop where
  l1 : 1 ≤ ls.length
  l4 : ls.length ≤ 4
  n3 : ns.length ≤ 3
  p : ∀ p ∈ ls, 1 ≤ p.length ∧ p.length ≤ 40 ∧ ∀ x ∈ p, Good x
  q : ∀ p ∈ ns, Fresh 12 p
  s : seqOf ls.flatten = (List.range ns.length).map (fun i : Nat => (i : Int) + 1)
/-- The state of the second loop. -/
structure St2 (w wr : World) (Y H : Nat) (v vn : Value) (us un : List Raw) (ls ns : List (List Word)) : Prop where
  y : TBox wr Y v vn
  x : TBox wr w.heap.size (.slice none 0 0) (.slice none 0 0)
  n : Nest wr (fun g => Y < g ∧ g < H) 61 36 v us ls
  m : Nest wr (fun g => H ≤ g) 61 36 vn un ns
  b : Below w.heap.size w wr
  hz : H ≤ wr.heap.size
  yh : Y < H
theorem St1.next {w wr : World} {Y k : Nat} {v : Value} {us : List Raw} {ls : List (List Word)} (h : St1 w wr Y k v us ls) : St2 w wr Y wr.heap.size v (.slice none 0 0) us [] ls [] :=
  ⟨h.y, h.x, h.n.mono fun _ hg hB => ⟨hB, hg⟩, Nest.nil _ _ _ _, h.b, Nat.le_refl _, h.y.lt⟩
theorem St2.inner {w wr w' : World} {Y H : Nat} {v vn : Value} {us un : List Raw} {ls ns : List (List Word)} (h : St2 w wr Y H v vn us un ls ns) (hY : w.heap.size < Y) (i : Nat) (hi : i < us.length) {q : List Word} {g : Nat} (hg : us[i].v.ownBlock = some g)
    (hown : Own w' 0 36 us[i].v q) (hgr : wr.grownBy w' (some g)) : St2 w w' Y H v vn us un (ls.set i q) ns := by
  have hgB := h.n.mi i hi g hg
  have kp : ∀ b, b < wr.heap.size → b ≠ g → w'.heap[b]? = wr.heap[b]? := fun b hb hne => hgr.block b hb (fun e => hne (by injection e))
  exact ⟨h.y.kept (kp _ h.y.lt (by omega)), h.x.kept (kp _ h.x.lt (by omega)), h.n.inner i hi (fun b hb hne => kp b hb (fun e => hne (by rw [e, hg]))) hown, h.m.kept (fun b hb hB => kp b hb (by omega)),
    h.b.grown hgr h.b.size (fun g' hg' => by injection hg' with e; omega), Nat.le_trans h.hz hgr.size, h.yh⟩
theorem St2.cells {w wr w4 w5 : World} {Y H : Nat} {v vn : Value} {us un : List Raw} {ls ns : List (List Word)} {o : Obj} (h : St2 w wr Y H v vn us un ls ns) (hb4 : Below wr.heap.size wr w4) (hg : (w4.alloc o).grownBy w5 vn.ownBlock) : w5.cell? ⟨Y, 1, none⟩ = some vn ∧ ∀ o, w5.frozen? ⟨Y, o, none⟩ = false := by
  have y5 : TBox w5 Y v vn := (h.y.below hb4).kept ((hg.block Y (by have := h.y.lt; have := hb4.size; simp; omega) (fun e => by have := h.m.mv Y e.symm; have := h.yh; omega)).trans (Below.heap_alloc w4 o Y (by have := h.y.lt; have := hb4.size; omega)))
  exact ⟨y5.c1, y5.fz⟩
theorem St2.push {w wr w4 w5 : World} {Y H : Nat} {v vn v' : Value} {us un : List Raw} {ls ns : List (List Word)} {u : Raw} {p : List Word} {o : Obj} (h : St2 w wr Y H v vn us un ls ns) (hY : w.heap.size < Y) (hb4 : Below wr.heap.size wr w4) (hu : Own w4 wr.heap.size 36 u.v p)
    (hown : Own w5 0 61 v' (un ++ [u])) (hg : (w4.alloc o).grownBy w5 vn.ownBlock) (hat : v'.ownBlock = vn.ownBlock ∨ v'.ownBlock = some (w4.alloc o).heap.size) :
    St2 w (w5.setCell ⟨Y, 1, none⟩ v') Y H v v' us (un ++ [u]) ls (ns ++ [p]) := by
  have hylt := h.y.lt
  have hz := hb4.size
  have hzH := h.hz
  have hyH := h.yh
  have hvB : ∀ g, vn.ownBlock = some g → H ≤ g := h.m.mv
  have keep : ∀ b, b < w4.heap.size → some b ≠ vn.ownBlock → w5.heap[b]? = w4.heap[b]? := fun b hb hne => (hg.block b (by simp; omega) hne).trans (Below.heap_alloc w4 o b hb)
  have y5 : TBox w5 Y v vn := (h.y.below hb4).kept (keep Y (by omega) (fun e => by have := hvB Y e.symm; omega))
  have x5 : TBox w5 w.heap.size (.slice none 0 0) (.slice none 0 0) := (h.x.below hb4).kept (keep _ (by omega) (fun e => by have := hvB _ e.symm; omega))
  have n5 : Nest w5 (fun g => Y < g ∧ g < H) _ _ v us ls := (h.n.below hb4).kept fun g hg' hB => keep g hg' (fun e => by have := hvB _ e.symm; omega)
  have m5 : Nest w5 (fun g => H ≤ g) _ _ v' (un ++ [u]) (ns ++ [p]) :=
    (Nest.push (B := fun g => H ≤ g ∧ g < wr.heap.size) (B' := fun g => H ≤ g) (H := (w4.alloc o).heap.size) ((h.m.mono fun g hg' hB => ⟨hB, hg'⟩).below hb4) (hu.re (Nat.zero_le _)) (fun g hg' => by have := hu.fit rfl g hg'; exact ⟨fun hh => by have := hh.2; omega, by omega⟩) keep hown hat (by simp) (fun g hh => hh.1) (by simp; omega))
  have b4 : Below w.heap.size w w4 := h.b.trans (hb4.mono h.b.size)
  have b5 : Below w.heap.size w w5 := (b4.alloc b4.size o).grown hg (by have := b4.size; simp; omega) (fun g hg' => by have := hvB g hg'; omega)
  have hz5 := hg.size
  refine ⟨y5.set1 v', x5.other (by omega) v', n5.kept fun g hg' hB => heap_set w5 Y 1 v' (by omega), m5.kept fun g hg' hB => heap_set w5 Y 1 v' (by omega), b5.setCell (p := ⟨Y, 1, none⟩) (by show w.heap.size ≤ Y; omega) v', ?_, h.yh⟩
  have : (w4.alloc o).heap.size = w4.heap.size + 1 := by simp
  simp only [World.size_setCell]; omega
theorem St2.below {w wr w' : World} {Y H : Nat} {v vn : Value} {us un : List Raw} {ls ns : List (List Word)} (h : St2 w wr Y H v vn us un ls ns) (hb : Below wr.heap.size wr w') : St2 w w' Y H v vn us un ls ns :=
  ⟨h.y.below hb, h.x.below hb, h.n.below hb, h.m.below hb, h.b.trans (hb.mono h.b.size), Nat.le_trans h.hz hb.size, h.yh⟩
theorem GText.next {ls ns : List (List Word)} (h : GText ls ns) (k : Nat) (hk : k < ls.length) {q p : List Word} (hq : Referred ls[k] ((ns.length : Int) + 1) true q) (hl : ∀ p ∈ ls.drop (k + 1), noNote p) (hp : Fresh 12 p) (h3 : ns.length + 1 ≤ 3) : GText (ls.set k q) (ns ++ [p]) := by
  rcases hq with ⟨h0, _⟩ | ⟨_, i, hi, h0, rfl⟩
  · cases h0
  · have hpk := h.p ls[k] (List.getElem_mem hk)
    refine ⟨by rw [List.length_set]; exact h.l1, by rw [List.length_set]; exact h.l4, by simp; omega, fun r hr => ?_, fun r hr => ?_, ?_⟩
    · rcases List.mem_or_eq_of_mem_set hr with hr | rfl
      · exact h.p r hr
      · rw [List.length_set]
        refine ⟨hpk.1, hpk.2.1, fun x hx => ?_⟩
        rcases List.mem_or_eq_of_mem_set hx with hx | rfl
        · exact hpk.2.2 x hx
        · exact (show Good ls[k][i] from hpk.2.2 _ (List.getElem_mem hi))
    · rcases List.mem_append.1 hr with hr | hr
      · exact h.q r hr
      · rw [List.mem_singleton] at hr; subst hr; exact hp
    · rw [seq_set ls k i hk hi _ (by omega) hl h0, h.s, List.length_append, List.length_singleton, List.range_succ, List.map_append]; rfl
theorem St2.stay {w wr w' : World} {Y H : Nat} {v vn : Value} {us un : List Raw} {ls ns : List (List Word)} (h : St2 w wr Y H v vn us un ls ns) (hY : w.heap.size < Y) (i : Nat) (hi : i < us.length) (hi' : i < ls.length) {q : List Word} {g : Nat} {m : Int} (hg : us[i].v.ownBlock = some g)
    (hq : Referred ls[i] m false q) (hown : Own w' 0 36 us[i].v q) (hgr : wr.grownBy w' (some g)) : St2 w w' Y H v vn us un ls ns := by
  rcases hq with ⟨_, rfl⟩ | ⟨h0, _⟩
  · have := h.inner hY i hi hg hown hgr
    rwa [List.set_getElem_self] at this
  · cases h0
end Go.Proofs.YtgnblofjjondpaaDoor
