/- A text in memory; what the generator of texts hands back, as such. No condition. -/
import Derived.Test.YtgnblofjjondpaaDoorGlyG5
import Derived.Test.YtgnblofjjondpaaDoorGlyW12
namespace Go.Proofs.YtgnblofjjondpaaDoor
open Go.RowKit
theorem tot_bound (m : Nat) : ∀ (l : List (List Word)), (∀ p ∈ l, p.length ≤ m) → tot l ≤ l.length * m
  | [], _ => by simp [tot]
  | p :: l, h => by
    have h1 := h p (List.mem_cons_self ..)
    have h2 := tot_bound m l (fun q hq => h q (List.mem_cons_of_mem _ hq))
    have e : tot (p :: l) = p.length + tot l := by unfold tot; rw [List.flatten_cons, List.length_append]
    rw [e, List.length_cons, Nat.add_mul, Nat.one_mul]; omega
theorem GText.tot {ls ns : List (List Word)} (h : GText ls ns) : tot (ls ++ ns) ≤ 196 := by
  rw [tot_ab]
  have h1 := tot_bound 40 ls (fun p hp => (h.p p hp).2.1)
  have h2 := tot_bound 12 ns (fun p hp => (h.q p hp).2.1)
  have h3 : ls.length * 40 ≤ 4 * 40 := Nat.mul_le_mul_right _ h.l4
  have h4 : ns.length * 12 ≤ 3 * 12 := Nat.mul_le_mul_right _ h.n3
  omega
/-- A text that lies in memory. -/
structure TX (w : World) (A : Option Addr) (c : Nat) (B : Option Addr) (d : Nat) (a b : List (List Word)) : Prop where
  sa : Sl w (fun b => b < w.heap.size) A c a
  sb : Sl w (fun b => b < w.heap.size) B d b
  la : a.length ≤ 1048576
  lb : b.length ≤ 1048576
  t : tot (a ++ b) ≤ 1048576
theorem TX.to {w w' : World} {A B : Option Addr} {c d : Nat} {a b : List (List Word)} (h : TX w A c B d a b) (hb : Below w.heap.size w w') : TX w' A c B d a b := ⟨h.sa.to hb, h.sb.to hb, h.la, h.lb, h.t⟩
theorem GText.lens {ls ns : List (List Word)} (h : GText ls ns) : (∀ p ∈ ls, p.length < 9223372036854775808) ∧ (∀ p ∈ ns, p.length < 9223372036854775808) :=
  ⟨fun p hp => by have := (h.p p hp).2.1; omega, fun p hp => by have := (h.q p hp).2.1; omega⟩
/-- The text that Text hands back. -/
theorem IsText.open {w w' : World} {e : Ending} (h : IsText w e w') : ∃ A c B d ls ns, e = .returned (.agg #[.slice A ls.length c, .slice B ns.length d]) ∧ GText ls ns ∧ TX w' A c B d ls ns ∧ Below w.heap.size w w' := by
  obtain ⟨v, vn, ls, ns, rfl, hg, ⟨B0, us, un, hN, hM⟩, hb⟩ := h
  obtain ⟨A, c, rfl, hs⟩ := hN.sl hg.lens.1
  obtain ⟨B, d, rfl, hs2⟩ := hM.sl hg.lens.2
  have h1 := hg.l4
  have h2 := hg.n3
  have h3 := hg.tot
  exact ⟨A, c, B, d, ls, ns, rfl, hg, ⟨hs, hs2, by omega, by omega, by omega⟩, hb⟩
end Go.Proofs.YtgnblofjjondpaaDoor
