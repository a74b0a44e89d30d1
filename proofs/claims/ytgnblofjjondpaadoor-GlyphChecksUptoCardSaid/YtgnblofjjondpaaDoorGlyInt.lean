/- Numbers of a slice. -/
import Derived.Test.YtgnblofjjondpaaDoorGlyLives
namespace Go.Proofs.YtgnblofjjondpaaDoor
open Go.RowKit
instance : Rep Int where
  size := 1
  R _ _ cs n := cs = [.int .i64 n] ∧ I64 n
  len := by rintro w S cs s ⟨rfl, _⟩; rfl
  one := by rintro w S cs s ⟨rfl, _⟩ u hu; simp at hu; rcases hu with rfl; rfl
  keep := by rintro w w' S cs s h _; exact h
  mono := by rintro w S S' cs s h _; exact h
theorem int_at {w : World} {S : Nat → Prop} {A : Option Addr} {c : Nat} {l : List Int} (h : Sl w S A c l) {k : Nat} (hk : k < l.length) :
    ∃ b o, A = some ⟨b, o, none⟩ ∧ S b ∧ b < w.heap.size ∧ I64 l[k] ∧ w.cell? ⟨b, o + k, none⟩ = some (.int .i64 l[k]) := by
  obtain ⟨b, o, es, rfl, hb, hlt, ⟨rfl, hok⟩, hc⟩ := h.at_ hk
  have := hc 0 _ rfl
  exact ⟨b, o, rfl, hb, hlt, hok, by simpa [Rep.size] using this⟩
theorem sl_ints2 {w : World} {B : Nat} {t : TypeId} {fr : Nat × Nat} {a b : Int} (hB : w.heap[B]? = some (.cells #[.int .i64 a, .int .i64 b] t fr)) (ha : I64 a) (hb : I64 b) : Sl w (fun b => b < w.heap.size) (some ⟨B, 0, none⟩) 2 [a, b] :=
  Sl.block hB (Array.getElem?_eq_some_iff.1 hB).1 (by simp [maxLen]) (fun i hi => by
    have : i = 0 ∨ i = 1 := by simp at hi; omega
    rcases this with rfl | rfl
    · exact ⟨rfl, ha⟩
    · exact ⟨rfl, hb⟩)
end Go.Proofs.YtgnblofjjondpaaDoor
