/- A text after a change: what the walk holds. No condition. -/
import Derived.Test.YtgnblofjjondpaaDoorGlyG4
import Derived.Test.YtgnblofjjondpaaDoorGlyTX
import Derived.Test.YtgnblofjjondpaaDoorRegD
namespace Go.Proofs.YtgnblofjjondpaaDoor
open Go.RowKit
/-- What a change is. -/
structure Spoil where
  what : Int
  at_ : Int
  n : Int
  x : Word
def Spoil.val (s : Spoil) : Value := .agg #[.int .i64 s.what, .int .i64 s.at_, .int .i64 s.n, .string s.x.s, .string s.x.key, .int .i64 s.x.t, .int .i64 s.x.n]
def SBox (w : World) (X : Nat) (s : Spoil) : Prop := w.heap[X]? = some (.cells #[.int .i64 s.what, .int .i64 s.at_, .int .i64 s.n, .string s.x.s, .string s.x.key, .int .i64 s.x.t, .int .i64 s.x.n] 38)
/-- The state: the text that came in, the change, the result, the text that is made. -/
structure Sp (w wr : World) (O : Nat) (ta tb : Value) (s : Spoil) (B1 B2 : Nat → Prop) (v vn : Value) (us un : List Raw) (ps qs : List (List Word)) : Prop where
  eO : O = w.heap.size + 3
  t : TBox wr w.heap.size ta tb
  s : SBox wr (w.heap.size + 1) s
  r : TBox wr (w.heap.size + 2) (.slice none 0 0) (.slice none 0 0)
  o : TBox wr O v vn
  n : Nest wr B1 61 36 v us ps
  m : Nest wr B2 61 36 vn un qs
  l1 : ∀ g, B1 g → O < g
  l2 : ∀ g, B2 g → O < g
  dj : ∀ g, B1 g → B2 g → False
  b : Below w.heap.size w wr
section
variable {w wr w4 w5 : World} {O : Nat} {ta tb : Value} {s : Spoil} {B1 B2 : Nat → Prop} {v vn v' : Value} {us un : List Raw} {ps qs : List (List Word)}
theorem Sp.olt (h : Sp w wr O ta tb s B1 B2 v vn us un ps qs) : O < wr.heap.size := h.o.lt
/-- Blocks below O, and O, behind an append onto a row. -/
theorem Sp.keep (h : Sp w wr O ta tb s B1 B2 v vn us un ps qs) {u : Value} {o : Obj} (hb4 : Below wr.heap.size wr w4) (hg : (w4.alloc o).grownBy w5 u.ownBlock) (hu : ∀ g, u.ownBlock = some g → O < g) (i : Nat) (hi : i ≤ O) : w5.heap[i]? = wr.heap[i]? := by
  have h1 := h.olt
  have h2 := hb4.size
  exact ((hg.block i (by simp; omega) (fun e => by have := hu i e.symm; omega)).trans (Below.heap_alloc w4 o i (by omega))).trans (hb4.block i (by omega))
theorem Sp.pushP {u : Raw} {p : List Word} {o : Obj} (h : Sp w wr O ta tb s B1 B2 v vn us un ps qs) (hb4 : Below wr.heap.size wr w4) (hu : Own w4 wr.heap.size 36 u.v p)
    (hown : Own w5 0 61 v' (us ++ [u])) (hg : (w4.alloc o).grownBy w5 v.ownBlock) (hat : v'.ownBlock = v.ownBlock ∨ v'.ownBlock = some (w4.alloc o).heap.size) :
    Sp w (w5.setCell ⟨O, 0, none⟩ v') O ta tb s (fun g => B1 g ∨ wr.heap.size ≤ g) (fun g => B2 g ∧ g < wr.heap.size) v' vn (us ++ [u]) un (ps ++ [p]) qs := by
  have hz := hb4.size
  have holt := h.olt
  have eO := h.eO
  have hvO : ∀ g, v.ownBlock = some g → O < g := fun g hg => h.l1 g (h.n.mv g hg)
  have kp := fun i hi => h.keep hb4 hg hvO i hi
  have keep4 : ∀ b, b < w4.heap.size → some b ≠ v.ownBlock → w5.heap[b]? = w4.heap[b]? := fun b hb hne => (hg.block b (by simp; omega) hne).trans (Below.heap_alloc w4 o b hb)
  have n5 : Nest w5 (fun g => B1 g ∨ wr.heap.size ≤ g) _ _ v' (us ++ [u]) (ps ++ [p]) :=
    (Nest.push (B := fun g => B1 g ∧ g < wr.heap.size) (B' := fun g => B1 g ∨ wr.heap.size ≤ g) (H := (w4.alloc o).heap.size) ((h.n.mono fun g hg' hB => ⟨hB, hg'⟩).below hb4) (hu.re (Nat.zero_le _)) (fun g hg' => by have := hu.fit rfl g hg'; exact ⟨fun hh => by have := hh.2; omega, .inr (by omega)⟩) keep4 hown hat (by simp) (fun g hh => .inl hh.1) (.inr (by simp; omega)))
  have m5 : Nest w5 (fun g => B2 g ∧ g < wr.heap.size) _ _ vn un qs :=
    ((h.m.mono fun g hg' hB => (⟨hB, hg'⟩ : B2 g ∧ g < wr.heap.size)).below hb4).kept fun g hg' hB => keep4 g hg' (fun e => h.dj g (h.n.mv g e.symm) hB.1)
  have b4 : Below w.heap.size w w4 := h.b.trans (hb4.mono h.b.size)
  have b5 : Below w.heap.size w w5 := (b4.alloc b4.size o).grown hg (by have := b4.size; simp; omega) (fun g hg' => by have := hvO g hg'; omega)
  refine ⟨eO, (h.t.kept (kp _ (by omega))).other (by omega) v', (heap_set _ _ _ _ (by omega)).trans ((kp _ (by omega)).trans h.s), (h.r.kept (kp _ (by omega))).other (by omega) v', (h.o.kept (kp _ (Nat.le_refl _))).set0 v', n5.kept fun g hg' hB => heap_set w5 O 0 v' ?_, m5.kept fun g hg' hB => heap_set w5 O 0 v' ?_, fun g hB => ?_, fun g hB => h.l2 g hB.1, fun g h1 h2 => ?_, b5.setCell (p := ⟨O, 0, none⟩) (by show w.heap.size ≤ O; omega) v'⟩
  · rcases hB with hB | hB
    · have := h.l1 g hB; omega
    · omega
  · have := h.l2 g hB.1; omega
  · rcases hB with hB | hB
    · exact h.l1 g hB
    · omega
  · rcases h1 with h1 | h1
    · exact h.dj g h1 h2.1
    · have := h2.2; omega
theorem Sp.pushN {u : Raw} {p : List Word} {o : Obj} (h : Sp w wr O ta tb s B1 B2 v vn us un ps qs) (hb4 : Below wr.heap.size wr w4) (hu : Own w4 wr.heap.size 36 u.v p)
    (hown : Own w5 0 61 v' (un ++ [u])) (hg : (w4.alloc o).grownBy w5 vn.ownBlock) (hat : v'.ownBlock = vn.ownBlock ∨ v'.ownBlock = some (w4.alloc o).heap.size) :
    Sp w (w5.setCell ⟨O, 1, none⟩ v') O ta tb s (fun g => B1 g ∧ g < wr.heap.size) (fun g => B2 g ∨ wr.heap.size ≤ g) v v' us (un ++ [u]) ps (qs ++ [p]) := by
  have hz := hb4.size
  have holt := h.olt
  have eO := h.eO
  have hvO : ∀ g, vn.ownBlock = some g → O < g := fun g hg => h.l2 g (h.m.mv g hg)
  have kp := fun i hi => h.keep hb4 hg hvO i hi
  have keep4 : ∀ b, b < w4.heap.size → some b ≠ vn.ownBlock → w5.heap[b]? = w4.heap[b]? := fun b hb hne => (hg.block b (by simp; omega) hne).trans (Below.heap_alloc w4 o b hb)
  have m5 : Nest w5 (fun g => B2 g ∨ wr.heap.size ≤ g) _ _ v' (un ++ [u]) (qs ++ [p]) :=
    (Nest.push (B := fun g => B2 g ∧ g < wr.heap.size) (B' := fun g => B2 g ∨ wr.heap.size ≤ g) (H := (w4.alloc o).heap.size) ((h.m.mono fun g hg' hB => ⟨hB, hg'⟩).below hb4) (hu.re (Nat.zero_le _)) (fun g hg' => by have := hu.fit rfl g hg'; exact ⟨fun hh => by have := hh.2; omega, .inr (by omega)⟩) keep4 hown hat (by simp) (fun g hh => .inl hh.1) (.inr (by simp; omega)))
  have n5 : Nest w5 (fun g => B1 g ∧ g < wr.heap.size) _ _ v us ps :=
    ((h.n.mono fun g hg' hB => (⟨hB, hg'⟩ : B1 g ∧ g < wr.heap.size)).below hb4).kept fun g hg' hB => keep4 g hg' (fun e => h.dj g hB.1 (h.m.mv g e.symm))
  have b4 : Below w.heap.size w w4 := h.b.trans (hb4.mono h.b.size)
  have b5 : Below w.heap.size w w5 := (b4.alloc b4.size o).grown hg (by have := b4.size; simp; omega) (fun g hg' => by have := hvO g hg'; omega)
  refine ⟨eO, (h.t.kept (kp _ (by omega))).other (by omega) v', (heap_set _ _ _ _ (by omega)).trans ((kp _ (by omega)).trans h.s), (h.r.kept (kp _ (by omega))).other (by omega) v', (h.o.kept (kp _ (Nat.le_refl _))).set1 v', n5.kept fun g hg' hB => heap_set w5 O 1 v' ?_, m5.kept fun g hg' hB => heap_set w5 O 1 v' ?_, fun g hB => h.l1 g hB.1, fun g hB => ?_, fun g h1 h2 => ?_, b5.setCell (p := ⟨O, 1, none⟩) (by show w.heap.size ≤ O; omega) v'⟩
  · have := h.l1 g hB.1; omega
  · rcases hB with hB | hB
    · have := h.l2 g hB; omega
    · omega
  · rcases hB with hB | hB
    · exact h.l2 g hB
    · omega
  · rcases h2 with h2 | h2
    · exact h.dj g h1.1 h2
    · have := h1.2; omega
theorem Sp.below (h : Sp w wr O ta tb s B1 B2 v vn us un ps qs) (hb : Below wr.heap.size wr w4) : Sp w w4 O ta tb s B1 B2 v vn us un ps qs :=
  ⟨h.eO, h.t.below hb, (hb.block _ (Array.getElem?_eq_some_iff.1 h.s).1).trans h.s, h.r.below hb, h.o.below hb, h.n.below hb, h.m.below hb, h.l1, h.l2, h.dj, h.b.trans (hb.mono h.b.size)⟩
end
end Go.Proofs.YtgnblofjjondpaaDoor
