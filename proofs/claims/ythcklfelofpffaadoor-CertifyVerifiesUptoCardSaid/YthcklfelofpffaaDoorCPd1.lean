/- The base layer of this seat's proofs: how Go data (structs, slices of structs, nested slices) are held in the model's memory, as relations to plain data; what keeps them; slices that the call itself grows. Nothing here speaks of the program.
SHA-256 in plain words, as lists of 32-bit words. No condition, and no program in sight.
A region that draws its order, whose operations and callees leave all older memory as it is: one walk serves every order. No condition.
Words of 32 bits in the model. No condition.
What a row's last step needs, for a law that returns true and leaves every argument as it was: each argument reads behind the call as it read before.
What the row's list gives: the table of the round constants; a world that pays it.
A region that draws its order, whose operations leave all older memory as it is, but for the last one, which waits for all others: one walk of the text's order serves every order. No condition.
One block of SHA-256: the walk. -/
import Derived.WalkKit
import Derived.WalkSpells
import Derived.WalkLawsBesides
import Derived.Deep.AppendLies
import Derived.Deep.Draws
import Derived.Lib.Hide
import Derived.BigQuiet
import Derived.Test.YthcklfelofpffaaDoorRows
import Derived.Lib.LaidTab
import Derived.LaidSub
import Derived.IntWalk
import Derived.ProofKit
import Derived.OpenShut
import Derived.JoinedCond
import Derived.Test.YthcklfelofpffaaDoorCards
import Derived.Test.YthcklfelofpffaaDoorTie
import Derived.Deep.DeepHandedRow
import Derived.Deep.CutRange
namespace Go.Proofs.YthcklfelofpffaaDoor
open Go.RowKit

/-- Old blocks among S are as they were. -/
def Kept (S : Nat → Prop) (w w' : World) : Prop := ∀ i, S i → i < w.heap.size → w'.heap[i]? = w.heap[i]?

theorem Kept.cell {S : Nat → Prop} {w w' : World} (h : Kept S w w') {b o : Nat} {u : Value} (hb : S b) (hc : w.cell? ⟨b, o, none⟩ = some u) : w'.cell? ⟨b, o, none⟩ = some u :=
  (World.cell?_of_block (a := ⟨b, o, none⟩) (h b hb (World.block_lt_of_cell? w ⟨b, o, none⟩ hc))).trans hc
theorem Kept.below {B : Nat} {S : Nat → Prop} {w w' : World} (h : Below B w w') (hS : ∀ i, S i → i < B) : Kept S w w' := fun i hi _ => h.block i (hS i hi)
theorem Kept.all {S : Nat → Prop} {w w' : World} (h : Below w.heap.size w w') : Kept S w w' := fun i _ hl => h.block i hl
theorem Kept.grown {S : Nat → Prop} {w w' : World} {row : Option Nat} (h : w.grownBy w' row) (hS : ∀ i, S i → some i ≠ row) : Kept S w w' := fun i hi hl => h.block i hl (hS i hi)
theorem Kept.refl (S : Nat → Prop) (w : World) : Kept S w w := fun _ _ _ => rfl
theorem Kept.trans {S : Nat → Prop} {a b c : World} (h : Kept S a b) (k : Kept S b c) (hsz : a.heap.size ≤ b.heap.size) : Kept S a c := fun i hi hl => (k i hi (by omega)).trans (h i hi hl)
theorem Kept.mono {S S' : Nat → Prop} {w w' : World} (h : Kept S w w') (hS : ∀ i, S' i → S i) : Kept S' w w' := fun i hi hl => h i (hS i hi) hl

theorem Below.dn {B : Nat} {a w : World} (h : Below B a w) (n : Nat) : Below B a (w.drewN n) := ⟨h.os, h.tape, h.output, h.size, h.block⟩
theorem ret_int {k : IntKind} {a b : Int} (h : a = b) : Ending.returned (.int k a) = .returned (.int k b) := by rw [h]
theorem ret_bool {a b : Bool} (h : a = b) : Ending.returned (.bool a) = .returned (.bool b) := by rw [h]

theorem take_succ_eq {α : Type} {a b : List α} {k : Nat} (ha : k < a.length) (hb : k < b.length) (h : a.take k = b.take k) (e : a[k] = b[k]) : a.take (k + 1) = b.take (k + 1) := by
  rw [List.take_succ_eq_append_getElem ha, List.take_succ_eq_append_getElem hb, h, e]
theorem ne_at {α : Type} {a b : List α} {k : Nat} (ha : k < a.length) (hb : k < b.length) (e : a[k] ≠ b[k]) : a ≠ b := by
  rintro rfl; exact e rfl
theorem eq_all {α : Type} {a b : List α} {k : Nat} (ha : a.length ≤ k) (hb : b.length ≤ k) (h : a.take k = b.take k) : a = b := by
  rwa [List.take_of_length_le ha, List.take_of_length_le hb] at h

theorem heap_at {W : World} {o : Obj} {B : Nat} (h : W.heap.size = B) : (W.alloc o).heap[B]? = some o := by subst h; exact heap_alloc_new W o
theorem heap_at_dn {W : World} {o : Obj} {B n : Nat} (h : W.heap.size = B) : ((W.alloc o).drewN n).heap[B]? = some o := by subst h; exact heap_alloc_new W o
theorem heap_at_d {W : World} {o : Obj} {B : Nat} (h : W.heap.size = B) : ((W.alloc o).drew).heap[B]? = some o := by subst h; exact heap_alloc_new W o
/-- How a kind of data is held in cells. -/
class Rep (α : Type) where
  size : Nat
  R : World → (Nat → Prop) → List Value → α → Prop
  len : ∀ {w S cs a}, R w S cs a → cs.length = size
  one : ∀ {w S cs a}, R w S cs a → ∀ u ∈ cs, u.oneCell' = true
  keep : ∀ {w w' S cs a}, R w S cs a → Kept S w w' → R w' S cs a
  mono : ∀ {w S S' cs a}, R w S cs a → (∀ i, S i → i < w.heap.size → S' i) → R w S' cs a

/-- The slice (A, length of l, capacity c) reads as l; all memory that it needs lies in blocks of S. -/
def Sl {α : Type} [Rep α] (w : World) (S : Nat → Prop) (A : Option Addr) (c : Nat) (l : List α) : Prop :=
  l.length ≤ c ∧ c ≤ maxLen ∧ (0 < l.length → ∃ b o, A = some ⟨b, o, none⟩ ∧ S b ∧ b < w.heap.size ∧
    ∀ i, (h : i < l.length) → ∃ es, Rep.R w S es l[i] ∧ ∀ j u, es[j]? = some u → w.cell? ⟨b, o + i * Rep.size α + j, none⟩ = some u)

theorem Sl.keep {α : Type} [Rep α] {w w' : World} {S : Nat → Prop} {A : Option Addr} {c : Nat} {l : List α} (h : Sl w S A c l) (hk : Kept S w w') (hsz : w.heap.size ≤ w'.heap.size) : Sl w' S A c l := by
  refine ⟨h.1, h.2.1, fun hn => ?_⟩
  obtain ⟨b, o, e, hb, hlt, hx⟩ := h.2.2 hn
  refine ⟨b, o, e, hb, by omega, fun i hi => ?_⟩
  obtain ⟨es, hr, hc⟩ := hx i hi
  exact ⟨es, Rep.keep hr hk, fun j u hu => hk.cell hb (hc j u hu)⟩
theorem Sl.mono {α : Type} [Rep α] {w : World} {S S' : Nat → Prop} {A : Option Addr} {c : Nat} {l : List α} (h : Sl w S A c l) (hS : ∀ i, S i → i < w.heap.size → S' i) : Sl w S' A c l := by
  refine ⟨h.1, h.2.1, fun hn => ?_⟩
  obtain ⟨b, o, e, hb, hlt, hx⟩ := h.2.2 hn
  refine ⟨b, o, e, hS b hb hlt, hlt, fun i hi => ?_⟩
  obtain ⟨es, hr, hc⟩ := hx i hi
  exact ⟨es, Rep.mono hr hS, hc⟩
theorem Sl.nil {α : Type} [Rep α] (w : World) (S : Nat → Prop) (A : Option Addr) (c : Nat) (hc : c ≤ maxLen) : Sl w S A c ([] : List α) := ⟨by simp, hc, fun h => absurd h (by simp)⟩
/-- Element k: its cells. -/
theorem Sl.at_ {α : Type} [Rep α] {w : World} {S : Nat → Prop} {A : Option Addr} {c : Nat} {l : List α} (h : Sl w S A c l) {k : Nat} (hk : k < l.length) :
    ∃ b o es, A = some ⟨b, o, none⟩ ∧ S b ∧ b < w.heap.size ∧ Rep.R w S es l[k] ∧ ∀ j u, es[j]? = some u → w.cell? ⟨b, o + k * Rep.size α + j, none⟩ = some u := by
  obtain ⟨b, o, e, hb, hlt, hx⟩ := h.2.2 (by omega)
  obtain ⟨es, hr, hc⟩ := hx k hk
  exact ⟨b, o, es, e, hb, hlt, hr, hc⟩

theorem addr_add (b o k : Nat) : (⟨b, o, none⟩ : Addr).add k = ⟨b, o + k, none⟩ := by
  unfold Addr.add; split <;> simp_all

/-- The first k elements. -/
theorem Sl.take {α : Type} [Rep α] {w : World} {S : Nat → Prop} {A : Option Addr} {c : Nat} {l : List α} (h : Sl w S A c l) (k : Nat) (_hk : k ≤ l.length) : Sl w S A c (l.take k) := by
  refine ⟨by have := h.1; rw [List.length_take]; omega, h.2.1, fun hn => ?_⟩
  have hn' : 0 < l.length := by rw [List.length_take] at hn; omega
  obtain ⟨b, o, e, hb, hlt, hx⟩ := h.2.2 hn'
  refine ⟨b, o, e, hb, hlt, fun i hi => ?_⟩
  have hi' : i < l.length := by rw [List.length_take] at hi; omega
  obtain ⟨es, hr, hc⟩ := hx i hi'
  exact ⟨es, by rw [List.getElem_take]; exact hr, hc⟩
/-- The elements from k on, as the model cuts. -/
theorem Sl.drop {α : Type} [Rep α] {w : World} {S : Nat → Prop} {A : Option Addr} {c : Nat} {l : List α} (h : Sl w S A c l) (k : Nat) (hk : k ≤ l.length) :
    Sl w S (if c = k then A else A.map (·.add (k * Rep.size α))) (c - k) (l.drop k) := by
  refine ⟨by have := h.1; rw [List.length_drop]; omega, by have := h.2.1; omega, fun hn => ?_⟩
  rw [List.length_drop] at hn
  obtain ⟨b, o, rfl, hb, hlt, hx⟩ := h.2.2 (by omega)
  rw [if_neg (by have := h.1; omega)]
  refine ⟨b, o + k * Rep.size α, by simp [addr_add], hb, hlt, fun i hi => ?_⟩
  have hi' : k + i < l.length := by rw [List.length_drop] at hi; omega
  obtain ⟨es, hr, hc⟩ := hx (k + i) hi'
  refine ⟨es, by rw [List.getElem_drop]; exact hr, fun j u hu => ?_⟩
  have e := hc j u hu
  rwa [Nat.add_mul, ← Nat.add_assoc] at e

theorem Sl.alloc {α : Type} [Rep α] {w : World} {A : Option Addr} {c : Nat} {l : List α} (h : Sl w (fun b => b < w.heap.size) A c l) (o : Obj) : Sl (w.alloc o) (fun b => b < (w.alloc o).heap.size) A c l :=
  (h.keep (Kept.all ((Below.refl _ _).alloc (Nat.le_refl _) o)) (by simp)).mono fun i hi _ => by simp; omega
theorem Sl.to {α : Type} [Rep α] {w w' : World} {A : Option Addr} {c : Nat} {l : List α} (h : Sl w (fun b => b < w.heap.size) A c l) (hb : Below w.heap.size w w') : Sl w' (fun b => b < w'.heap.size) A c l :=
  (h.keep (Kept.all hb) hb.size).mono fun i hi _ => by have := hb.size; omega

theorem Sl.drew {α : Type} [Rep α] {w : World} {A : Option Addr} {c : Nat} {l : List α} (h : Sl w (fun b => b < w.heap.size) A c l) : Sl w.drew (fun b => b < w.drew.heap.size) A c l := h.to ((Below.refl _ _).drew)
theorem Sl.dn {α : Type} [Rep α] {w : World} {A : Option Addr} {c : Nat} {l : List α} (h : Sl w (fun b => b < w.heap.size) A c l) (n : Nat) : Sl (w.drewN n) (fun b => b < (w.drewN n).heap.size) A c l := h.to (Below.dn (Below.refl _ _) n)

/-- A literal's block as a slice. -/
theorem Sl.block {α : Type} [Rep α] {w : World} {B : Nat} {cs : Array Value} {te : TypeId} {fr : Nat × Nat} {l : List α} {S : Nat → Prop} (hB : w.heap[B]? = some (.cells cs te fr)) (hS : S B) (hm : l.length ≤ maxLen)
    (hr : ∀ i, (h : i < l.length) → Rep.R w S ((cs.toList.drop (i * Rep.size α)).take (Rep.size α)) l[i]) : Sl w S (some ⟨B, 0, none⟩) l.length l := by
  refine ⟨Nat.le_refl _, hm, fun _ => ⟨B, 0, rfl, hS, (Array.getElem?_eq_some_iff.1 hB).1, fun i hi => ⟨_, hr i hi, fun j u hu => ?_⟩⟩⟩
  rw [Nat.zero_add, cell_of_row w B _ cs te fr hB]
  rw [List.getElem?_take] at hu
  split at hu
  · rw [List.getElem?_drop] at hu; simpa using hu
  · cases hu

/-- A slice as data. -/
instance instRepList {α : Type} [Rep α] : Rep (List α) where
  size := 1
  R w S cs l := ∃ A c, cs = [.slice A l.length c] ∧ Sl w S A c l ∧ l.length < 9223372036854775808
  len := by rintro w S cs l ⟨A, c, rfl, _⟩; rfl
  one := by rintro w S cs l ⟨A, c, rfl, _⟩ u hu; simp at hu; subst hu; rfl
  keep := by
    rintro w w' S cs l ⟨A, c, rfl, h, hl⟩ hk
    refine ⟨A, c, rfl, ?_, hl⟩
    refine ⟨h.1, h.2.1, fun hn => ?_⟩
    obtain ⟨b, o, e, hb, hlt, hx⟩ := h.2.2 hn
    have hlt' : b < w'.heap.size := by
      have e1 := hk b hb hlt
      rw [Array.getElem?_eq_getElem hlt] at e1
      exact (Array.getElem?_eq_some_iff.1 e1).1
    refine ⟨b, o, e, hb, hlt', fun i hi => ?_⟩
    obtain ⟨es, hr, hc⟩ := hx i hi
    exact ⟨es, Rep.keep hr hk, fun j u hu => hk.cell hb (hc j u hu)⟩
  mono := by rintro w S S' cs l ⟨A, c, rfl, h, hl⟩ hS; exact ⟨A, c, rfl, h.mono hS, hl⟩

/-- The list's cells in one row. -/
theorem Sl.flat {α : Type} [Rep α] {w : World} {S : Nat → Prop} {A : Option Addr} {c : Nat} {l : List α} (h : Sl w S A c l) (hn : 0 < l.length) :
    ∃ (b o : Nat) (xs : List Value), A = some ⟨b, o, none⟩ ∧ S b ∧ b < w.heap.size ∧ xs.length = l.length * Rep.size α ∧ (∀ u ∈ xs, u.oneCell' = true) ∧ (∀ j u, xs[j]? = some u → w.cell? ⟨b, o + j, none⟩ = some u) ∧
      ∀ i, (h : i < l.length) → Rep.R w S ((xs.drop (i * Rep.size α)).take (Rep.size α)) l[i] := by
  obtain ⟨b, o, rfl, hb, hlt, hx⟩ := h.2.2 hn
  clear h
  refine ⟨b, o, ?_⟩
  suffices H : ∀ k, k ≤ l.length → ∃ xs : List Value, xs.length = k * Rep.size α ∧ (∀ u ∈ xs, u.oneCell' = true) ∧ (∀ j u, xs[j]? = some u → w.cell? ⟨b, o + j, none⟩ = some u) ∧
      ∀ i, (h : i < k) → (h' : i < l.length) → Rep.R w S ((xs.drop (i * Rep.size α)).take (Rep.size α)) l[i] by
    obtain ⟨xs, h1, h2, h3, h4⟩ := H l.length (Nat.le_refl _)
    exact ⟨xs, rfl, hb, hlt, h1, h2, h3, fun i hi => h4 i hi hi⟩
  intro k
  induction k with
  | zero => intro _; exact ⟨[], by simp, by simp, by simp, fun i hi => absurd hi (by omega)⟩
  | succ k ih =>
    intro hk
    obtain ⟨xs, h1, h2, h3, h4⟩ := ih (by omega)
    obtain ⟨es, hr, hc⟩ := hx k (by omega)
    have hel := Rep.len hr
    refine ⟨xs ++ es, by rw [List.length_append, h1, hel, Nat.add_mul, Nat.one_mul], ?_, ?_, ?_⟩
    · intro u hu
      rcases List.mem_append.1 hu with h | h
      · exact h2 u h
      · exact Rep.one hr u h
    · intro j u hu
      by_cases hj : j < xs.length
      · rw [List.getElem?_append_left hj] at hu; exact h3 j u hu
      · rw [List.getElem?_append_right (by omega)] at hu
        have := hc _ u hu
        have e : o + k * Rep.size α + (j - xs.length) = o + j := by rw [h1] at hj ⊢; omega
        rwa [e] at this
    · intro i hi hi'
      by_cases hik : i < k
      · have e : (i + 1) * Rep.size α ≤ xs.length := by rw [h1]; exact Nat.mul_le_mul_right _ hik
        rw [Nat.add_mul, Nat.one_mul] at e
        rw [List.drop_append_of_le_length (by omega), List.take_append_of_le_length (by rw [List.length_drop]; omega)]
        exact h4 i hik hi'
      · obtain rfl : i = k := by omega
        rw [List.drop_append, List.drop_of_length_le (by omega), h1, Nat.sub_self, List.drop_zero, List.nil_append, List.take_of_length_le (by omega)]
        exact hr

/-- A slice value that the call has made and may still grow: it reads as l; its elements need no memory of its own row. -/
def Own {α : Type} [Rep α] (w : World) (base : Nat) (e : TypeId) (v : Value) (l : List α) : Prop :=
  ∃ xs, w.ownsRow base e (Rep.size α) v l.length xs ∧ (∀ u ∈ xs, u.oneCell' = true) ∧ ∀ i, (h : i < l.length) → Rep.R w (fun b => some b ≠ v.ownBlock) ((xs.drop (i * Rep.size α)).take (Rep.size α)) l[i]

section
variable {α : Type} [Rep α] {w w' : World} {base : Nat} {e : TypeId} {v : Value} {l : List α}
theorem Own.nil (w : World) (base : Nat) (e : TypeId) : Own w base e (.slice none 0 0) ([] : List α) := ⟨[], World.ownsRow_nil _ _ _ _, by simp, fun i h => absurd h (by simp)⟩
theorem Own.kept (h : Own w base e v l) (hk : ∀ i, i < w.heap.size → w'.heap[i]? = w.heap[i]?) : Own w' base e v l := by
  obtain ⟨xs, hx, ho, hr⟩ := h
  refine ⟨xs, ⟨hx.1, ?_⟩, ho, fun i hi => Rep.keep (hr i hi) (fun b _ hb => hk b hb)⟩
  rcases hx.2 with hn | ⟨g, cap, cur, hv, hb, hg, rest⟩
  · exact .inl hn
  · refine .inr ⟨g, cap, cur, hv, hb, ?_, rest⟩
    rw [hk g (Array.getElem?_eq_some_iff.1 hg).1]; exact hg
theorem Own.below (h : Own w base e v l) (hb : Below w.heap.size w w') : Own w' base e v l := h.kept hb.block
theorem Own.re (h : Own w base e v l) {B : Nat} (hB : B ≤ base) : Own w B e v l := by
  obtain ⟨xs, hx, ho, hr⟩ := h
  exact ⟨xs, ⟨hx.1, hx.2.imp id (fun ⟨g, cap, cur, h1, h2, h3⟩ => ⟨g, cap, cur, h1, by omega, h3⟩)⟩, ho, hr⟩
theorem Own.drew (h : Own w base e v l) : Own w.drew base e v l := h.kept fun _ _ => rfl
theorem Own.drewN (h : Own w base e v l) (n : Nat) : Own (w.drewN n) base e v l := h.kept fun _ _ => rfl
theorem Own.alloc (h : Own w base e v l) (o : Obj) : Own (w.alloc o) base e v l := h.kept (fun i hi => Below.heap_alloc w o i hi)
/-- It is a slice with the length of the list. -/
theorem Own.form (h : Own w base e v l) : ∃ A c, v = .slice A l.length c ∧ (∀ a, A = some a → base ≤ a.block ∧ a.block < w.heap.size) ∧ l.length ≤ c ∧ c ≤ maxLen := by
  obtain ⟨xs, hx, _, _⟩ := h
  rcases hx.2 with ⟨rfl, hn⟩ | ⟨g, cap, cur, rfl, hb, hg, hnc, hcm, _⟩
  · exact ⟨none, 0, by rw [hn], by simp, by omega, by simp [maxLen]⟩
  · exact ⟨some ⟨g, 0, none⟩, cap, rfl, by rintro a ⟨⟩; exact ⟨hb, (Array.getElem?_eq_some_iff.1 hg).1⟩, hnc, hcm⟩
theorem Own.lt (h : Own w base e v l) : ∀ k, v.ownBlock = some k → base ≤ k ∧ k < w.heap.size := by
  obtain ⟨xs, hx, _, _⟩ := h; exact hx.lt
/-- Read as plain data. -/
theorem Own.sl (h : Own w base e v l) : ∃ A c, v = .slice A l.length c ∧ Sl w (fun b => b < w.heap.size) A c l := by
  obtain ⟨xs, hx, ho, hr⟩ := h
  rcases hx.2 with ⟨rfl, hn⟩ | ⟨g, cap, cur, rfl, hb, hg, hnc, hcm, hcs, htake⟩
  · exact ⟨none, 0, by rw [hn], by omega, by simp [maxLen], fun h => absurd h (by omega)⟩
  · have hlt := (Array.getElem?_eq_some_iff.1 hg).1
    refine ⟨some ⟨g, 0, none⟩, cap, rfl, hnc, hcm, fun _ => ⟨g, 0, rfl, hlt, hlt, fun i hi => ⟨_, Rep.mono (hr i hi) (fun b _ hb' => hb'), fun j u hu => ?_⟩⟩⟩
    rw [Nat.zero_add]
    have e1 := hx.cells (g := g) rfl (i * Rep.size α + j) u (by
      rw [List.getElem?_take] at hu
      split at hu
      · rwa [List.getElem?_drop] at hu
      · cases hu)
    rwa [addr_add, Nat.zero_add] at e1
/-- The same, said with a bound of its own: its memory lies from base on. -/
theorem Own.rep (h : Own w base e v l) (hl : l.length < 9223372036854775808) : Rep.R w (fun b => b < w.heap.size) [v] l := by
  obtain ⟨A, c, rfl, hs⟩ := h.sl
  exact ⟨A, c, rfl, hs, hl⟩
/-- More elements at the end: what an append's law leaves. -/
theorem Own.more {v' : Value} {m : List α} {news : List Value} {H : Nat} (h : Own w base e v l)
    (hown : ∀ xs : List Value, w.ownsRow base e (Rep.size α) v l.length xs → w'.ownsRow base e (Rep.size α) v' (l ++ m).length (xs ++ news))
    (hg : w.grownBy w' v.ownBlock) (hat : v'.ownBlock = v.ownBlock ∨ v'.ownBlock = some H) (hH : w.heap.size ≤ H)
    (ho' : ∀ u ∈ news, u.oneCell' = true) (_hnl : news.length = m.length * Rep.size α)
    (hm : ∀ i, (h : i < m.length) → Rep.R w (fun b => some b ≠ v.ownBlock) ((news.drop (i * Rep.size α)).take (Rep.size α)) m[i]) : Own w' base e v' (l ++ m) := by
  obtain ⟨xs, hx, ho, hr⟩ := h
  have hxl := hx.1
  have kp : Kept (fun b => some b ≠ v.ownBlock) w w' := Kept.grown hg (fun i hi => hi)
  have hS : ∀ i, some i ≠ v.ownBlock → i < w.heap.size → some i ≠ v'.ownBlock := by
    intro i hi hlt
    rcases hat with e1 | e1
    · rw [e1]; exact hi
    · rw [e1]; intro e2; injection e2 with e2; omega
  have fin : ∀ {cs : List Value} {a : α}, Rep.R w (fun b => some b ≠ v.ownBlock) cs a → Rep.R w' (fun b => some b ≠ v'.ownBlock) cs a := by
    intro cs a h
    have h1 := Rep.mono (S' := fun b => some b ≠ v.ownBlock ∧ some b ≠ v'.ownBlock) h (fun i hi hlt => ⟨hi, hS i hi hlt⟩)
    exact Rep.mono (Rep.keep h1 (kp.mono fun i hi => hi.1)) (fun i hi _ => hi.2)
  refine ⟨xs ++ news, hown xs hx, ?_, fun i hi => ?_⟩
  · intro u hu
    rcases List.mem_append.1 hu with h | h
    · exact ho u h
    · exact ho' u h
  · by_cases hil : i < l.length
    · have e : (i + 1) * Rep.size α ≤ xs.length := by rw [hxl]; exact Nat.mul_le_mul_right _ hil
      rw [Nat.add_mul, Nat.one_mul] at e
      rw [List.drop_append_of_le_length (by omega), List.take_append_of_le_length (by rw [List.length_drop]; omega), List.getElem_append_left hil]
      exact fin (hr i hil)
    · have him : i - l.length < m.length := by rw [List.length_append] at hi; omega
      have e : i * Rep.size α = xs.length + (i - l.length) * Rep.size α := by
        rw [hxl, ← Nat.add_mul]; congr 1; omega
      rw [List.getElem_append_right (by omega), List.drop_append, List.drop_of_length_le (by omega), List.nil_append, e, Nat.add_sub_cancel_left]
      exact fin (hm _ him)
end

/-- An append onto the call's own row, behind the block that holds what is appended. -/
theorem below_push {α : Type} [Rep α] {B : Nat} {w0 w1 w2 : World} {e : TypeId} {v : Value} {l : List α} {o : Obj} (hb : Below B w0 w1) (hown : Own w1 B e v l) (hB : B ≤ w1.heap.size) (hg : (w1.alloc o).grownBy w2 v.ownBlock) : Below B w0 w2 :=
  (hb.alloc hB o).grown hg (by simp; omega) (fun k hk => (hown.lt k hk).1)
/-- A block below the own row's bound is as it was behind an append. -/
theorem keep_cat {α : Type} [Rep α] {B : Nat} {w1 w2 : World} {e : TypeId} {v : Value} {l : List α} (hown : Own w1 B e v l) (hg : w1.grownBy w2 v.ownBlock) {b : Nat} (hb : b < B) (hlt : b < w1.heap.size) : w2.heap[b]? = w1.heap[b]? :=
  hg.block b hlt (fun e => by have := (hown.lt b e.symm).1; omega)
theorem keep_push {α : Type} [Rep α] {B : Nat} {w1 w2 : World} {e : TypeId} {v : Value} {l : List α} {o : Obj} (hown : Own w1 B e v l) (hg : (w1.alloc o).grownBy w2 v.ownBlock) {b : Nat} (hb : b < B) (hlt : b < w1.heap.size) : w2.heap[b]? = w1.heap[b]? :=
  (hg.block b (by simp; omega) (fun e => by have := (hown.lt b e.symm).1; omega)).trans (Below.heap_alloc w1 o b hlt)
/-- One cell of element k written: element k becomes d'. -/
theorem Own.setf {α : Type} [Rep α] {w : World} {base : Nat} {e : TypeId} {g n cap : Nat} {l : List α} (h : Own w base e (.slice (some ⟨g, 0, none⟩) n cap) l) (k j : Nat) (hk : k < l.length) (hj : j < Rep.size α) (u : Value) (hu : u.oneCell' = true) (d' : α)
    (hd : ∀ S es, Rep.R w S es l[k] → Rep.R w S (es.set j u) d') {o : Nat} (ho : o = k * Rep.size α + j) :
    Own (w.setCell ⟨g, o, none⟩ u) base e (.slice (some ⟨g, 0, none⟩) n cap) (l.set k d') ∧ w.grownBy (w.setCell ⟨g, o, none⟩ u) (some g) := by
  subst ho
  obtain ⟨xs, hx, ho1, hr⟩ := h
  obtain rfl : n = l.length := by
    rcases hx.2 with ⟨h1, _⟩ | ⟨g', cap', cur, h1, _⟩
    · cases h1
    · cases h1; rfl
  have hst := hx.stored (k * Rep.size α + j) u
  have hxl := hx.1
  have hkk : (k + 1) * Rep.size α ≤ xs.length := by rw [hxl]; exact Nat.mul_le_mul_right _ hk
  rw [Nat.add_mul, Nat.one_mul] at hkk
  have kp : Kept (fun b => some b ≠ (Value.slice (some ⟨g, 0, none⟩) l.length cap).ownBlock) w (w.setCell ⟨g, k * Rep.size α + j, none⟩ u) := Kept.grown hst.2 (fun i hi => hi)
  refine ⟨⟨xs.set (k * Rep.size α + j) u, by rw [List.length_set]; exact hst.1, ?_, fun i hi => ?_⟩, hst.2⟩
  · intro y hy
    rcases List.mem_or_eq_of_mem_set hy with h | h
    · exact ho1 y h
    · rw [h]; exact hu
  · rw [List.length_set] at hi
    rw [List.drop_set, List.getElem_set]
    by_cases hik : k = i
    · subst hik
      rw [if_neg (by omega), if_pos rfl, Nat.add_sub_cancel_left, List.take_set]
      exact Rep.keep (hd _ _ (hr k hi)) kp
    · rw [if_neg hik]
      by_cases hlt : k < i
      · have : (k + 1) * Rep.size α ≤ i * Rep.size α := Nat.mul_le_mul_right _ hlt
        rw [Nat.add_mul, Nat.one_mul] at this
        rw [if_pos (by omega)]
        exact Rep.keep (hr i hi) kp
      · have : (i + 1) * Rep.size α ≤ k * Rep.size α := Nat.mul_le_mul_right _ (by omega : i + 1 ≤ k)
        rw [Nat.add_mul, Nat.one_mul] at this
        rw [if_neg (by omega), List.take_set, List.set_eq_of_length_le (by rw [List.length_take]; omega)]
        exact Rep.keep (hr i hi) kp
/-- A cell of an own row. -/
theorem Own.at_ {α : Type} [Rep α] {w : World} {base : Nat} {e : TypeId} {v : Value} {l : List α} (h : Own w base e v l) {k : Nat} (hk : k < l.length) :
    ∃ g cap es, v = .slice (some ⟨g, 0, none⟩) l.length cap ∧ base ≤ g ∧ g < w.heap.size ∧ l.length ≤ cap ∧ Rep.R w (fun b => b ≠ g) es l[k] ∧ (∀ j u, es[j]? = some u → w.cell? ⟨g, k * Rep.size α + j, none⟩ = some u) ∧ ∀ o, w.frozen? ⟨g, o, none⟩ = false := by
  obtain ⟨xs, hx, ho, hr⟩ := h
  rcases hx.2 with ⟨rfl, hn⟩ | ⟨g, cap, cur, rfl, hb, hg, hnc, hcm, hcs, htake⟩
  · omega
  · have hlt := (Array.getElem?_eq_some_iff.1 hg).1
    refine ⟨g, cap, _, rfl, hb, hlt, hnc, Rep.mono (hr k hk) (fun b hb' _ => by simpa [Value.ownBlock] using hb'), fun j u hu => ?_, fun o => hx.frozenAt o⟩
    have e1 := hx.cells (g := g) rfl (k * Rep.size α + j) u (by
      rw [List.getElem?_take] at hu
      split at hu
      · rwa [List.getElem?_drop] at hu
      · cases hu)
    rwa [addr_add, Nat.zero_add] at e1
/-- Writes that leave all but some blocks: composition. -/
theorem grown_trans2 {a b c : World} {row : Option Nat} (h : a.grownBy b row) (k : b.grownBy c row) : a.grownBy c row :=
  ⟨k.os.trans h.os, k.tape.trans h.tape, k.output.trans h.output, Nat.le_trans h.size k.size, fun i hi hne => (k.block i (Nat.lt_of_lt_of_le hi h.size) hne).trans (h.block i hi hne)⟩
theorem grown_drew {a b : World} {row : Option Nat} (h : a.grownBy b row) : a.grownBy b.drew row := ⟨h.os, h.tape, h.output, h.size, h.block⟩
theorem grown_dn {a b : World} {row : Option Nat} (h : a.grownBy b row) (n : Nat) : a.grownBy (b.drewN n) row := ⟨h.os, h.tape, h.output, h.size, h.block⟩
theorem grown_below {a b : World} (h : Below a.heap.size a b) (row : Option Nat) : a.grownBy b row := ⟨h.os, h.tape, h.output, h.size, fun i hi _ => h.block i hi⟩
theorem below_grown {B : Nat} {w0 a b : World} {row : Option Nat} (h : Below B w0 a) (hg : a.grownBy b row) (hB : B ≤ a.heap.size) (hr : ∀ g, row = some g → B ≤ g) : Below B w0 b := h.grown hg hB hr
section
variable {P : Program} (w : World) {α : Type} [Rep α]
/-- THE LAW OF append(out, x): x stands alone in block B. -/
theorem wp_push {o : Oper} {a : Act} {K : Act → World → Prop} {Q : Exit → Act → World → Prop} (s x : Operand) (t : TypeId)
    (ho : o.op = .call { callee := .builtin .append, args := #[s, x], argTypes := #[t, t] })
    (base : Nat) (e : TypeId) (z : Value) (bytes : Nat) (ht : P.underlying t = some (.slice e)) (hinfo : (P.info? e).map (fun i => (i.zero, i.size, i.bytes)) = some (some z, Rep.size α, bytes))
    (hzs : z.cells.size = Rep.size α) (hsz : 0 < Rep.size α)
    (v : Value) (l : List α) (hs : a.eval s = v) (hown : Own w base e v l)
    (B : Nat) (es : Array Value) (d : α) (fr : Nat × Nat) (te : TypeId) (hx : a.eval x = .slice (some ⟨B, 0, none⟩) 1 1) (hB : w.heap[B]? = some (.cells es te fr)) (hr : Rep.R w (fun b => some b ≠ v.ownBlock) es.toList d)
    (h63 : (l.length + 1) * bytes ≤ 140737488355328) (hml : l.length + 1 ≤ 9223372036854775807) (hbase : base ≤ w.heap.size) (H : Nat) (hH : w.heap.size = H)
    (h : ∀ g cap w', Own w' base e (.slice (some ⟨g, 0, none⟩) (l.length + 1) cap) (l ++ [d]) → w.grownBy w' v.ownBlock → (v.ownBlock = some g ∨ g = H) → g < w'.heap.size → K (a.put o.dst (.slice (some ⟨g, 0, none⟩) (l.length + 1) cap)) w') : o.wp P a w K Q := by
  obtain ⟨i, hi, hz, hz1, hz2⟩ := info_parts hinfo
  obtain ⟨xs, hx1, ho1, hr1⟩ := id hown
  have hel := Rep.len hr
  refine wp_append_lies (P := P) w s x t ho base e i z (Rep.size α) bytes ht hi hz hz1 hz2 hzs hsz v l.length xs hs hx1 ⟨B, 0, none⟩ 1 1 es.toList hx (by rw [hel]; omega) (World.news_of_block hB) (Rep.one hr) (by omega) (by simp only [maxLen]; omega) h63 hbase H hH ?_
  intro g cap w' hown' hgrow hat hlt
  refine h g cap w' ?_ hgrow hat hlt
  refine hown.more (news := es.toList) (H := H) (fun ys hy => ?_) hgrow ?_ (by omega) (Rep.one hr) (by rw [hel]; simp) ?_
  · have e1 : (l ++ [d]).length = l.length + 1 := by simp
    rw [e1]
    obtain rfl : xs = ys := by
      rcases hx1.2 with ⟨r1, r2⟩ | ⟨g1, c1, cu1, r1, _, r3, _, _, _, r4⟩
      · have := hx1.1; have := hy.1
        rw [r2] at *
        simp at *
        simp [*]
      · rcases hy.2 with ⟨q1, q2⟩ | ⟨g2, c2, cu2, q1, _, q3, _, _, _, q4⟩
        · rw [r1] at q1; cases q1
        · rw [r1] at q1; cases q1
          rw [r3] at q3; cases q3
          rw [← r4, ← q4]
    exact hown'
  · rcases hat with e1 | e1
    · exact .inl e1.symm
    · exact .inr (by rw [← e1]; rfl)
  · intro i hi
    obtain rfl : i = 0 := by simpa using hi
    simp only [Nat.zero_mul, List.drop_zero, List.getElem_singleton]
    rw [List.take_of_length_le (by omega)]
    exact hr

theorem wpList_push {ops : Array Oper} {rest : List Oper} {o : Oper} {a : Act} {Q : Exit → Act → World → Prop} (hgd : o.guard = none) (s x : Operand) (t : TypeId)
    (ho : o.op = .call { callee := .builtin .append, args := #[s, x], argTypes := #[t, t] })
    (base : Nat) (e : TypeId) (z : Value) (bytes : Nat) (ht : P.underlying t = some (.slice e)) (hinfo : (P.info? e).map (fun i => (i.zero, i.size, i.bytes)) = some (some z, Rep.size α, bytes))
    (hzs : z.cells.size = Rep.size α) (hsz : 0 < Rep.size α)
    (v : Value) (l : List α) (hs : a.eval s = v) (hown : Own w base e v l)
    (B : Nat) (es : Array Value) (d : α) (fr : Nat × Nat) (te : TypeId) (hx : a.eval x = .slice (some ⟨B, 0, none⟩) 1 1) (hB : w.heap[B]? = some (.cells es te fr)) (hr : Rep.R w (fun b => some b ≠ v.ownBlock) es.toList d)
    (h63 : (l.length + 1) * bytes ≤ 140737488355328) (hml : l.length + 1 ≤ 9223372036854775807) (hbase : base ≤ w.heap.size) (H : Nat) (hH : w.heap.size = H)
    (h : ∀ g cap w', Own w' base e (.slice (some ⟨g, 0, none⟩) (l.length + 1) cap) (l ++ [d]) → w.grownBy w' v.ownBlock → (v.ownBlock = some g ∨ g = H) → g < w'.heap.size → wpList P ops Q rest (a.put o.dst (.slice (some ⟨g, 0, none⟩) (l.length + 1) cap)) w') : wpList P ops Q (o :: rest) a w :=
  wpList_plain hgd fun _ hK => wp_push w s x t ho base e z bytes ht hinfo hzs hsz v l hs hown B es d fr te hx hB hr h63 hml hbase H hH fun g cap w' h2 h3 h4 h5 => hK _ _ (h g cap w' h2 h3 h4 h5)
theorem step_push {ops : Array Oper} {o : Oper} {a : Act} {K : Act → World → Prop} {Q : Exit → Act → World → Prop} {E : Prop} (hgd : o.guard = none) (s x : Operand) (t : TypeId)
    (ho : o.op = .call { callee := .builtin .append, args := #[s, x], argTypes := #[t, t] })
    (base : Nat) (e : TypeId) (z : Value) (bytes : Nat) (ht : P.underlying t = some (.slice e)) (hinfo : (P.info? e).map (fun i => (i.zero, i.size, i.bytes)) = some (some z, Rep.size α, bytes))
    (hzs : z.cells.size = Rep.size α) (hsz : 0 < Rep.size α)
    (v : Value) (l : List α) (hs : a.eval s = v) (hown : Own w base e v l)
    (B : Nat) (es : Array Value) (d : α) (fr : Nat × Nat) (te : TypeId) (hx : a.eval x = .slice (some ⟨B, 0, none⟩) 1 1) (hB : w.heap[B]? = some (.cells es te fr)) (hr : Rep.R w (fun b => some b ≠ v.ownBlock) es.toList d)
    (h63 : (l.length + 1) * bytes ≤ 140737488355328) (hml : l.length + 1 ≤ 9223372036854775807) (hbase : base ≤ w.heap.size) (H : Nat) (hH : w.heap.size = H)
    (h : ∀ g cap w', Own w' base e (.slice (some ⟨g, 0, none⟩) (l.length + 1) cap) (l ++ [d]) → w.grownBy w' v.ownBlock → (v.ownBlock = some g ∨ g = H) → g < w'.heap.size → K (a.put o.dst (.slice (some ⟨g, 0, none⟩) (l.length + 1) cap)) w') :
    if Region.wanted o (yielded ops a.tmps) = true then Oper.wp P o a w K Q else E := by
  have hw : Region.wanted o (yielded ops a.tmps) = true := by simp [Region.wanted, hgd]
  rw [if_pos hw]
  exact wp_push w s x t ho base e z bytes ht hinfo hzs hsz v l hs hown B es d fr te hx hB hr h63 hml hbase H hH h

/-- The same of append(out, l...), whatever slice l is. -/
theorem run_cat (base : Nat) (t ty e : TypeId) (z : Value) (bytes : Nat) (ht : P.underlying t = some (.slice e)) (hinfo : (P.info? e).map (fun i => (i.zero, i.size, i.bytes)) = some (some z, Rep.size α, bytes))
    (hzs : z.cells.size = Rep.size α) (hsz : 0 < Rep.size α) (v : Value) (l : List α) (hown : Own w base e v l)
    (A : Option Addr) (c n : Nat) (m : List α) (hn : m.length = n) (S : Nat → Prop) (hm : Sl w S A c m) (hS : ∀ i, S i → i < w.heap.size → some i ≠ v.ownBlock)
    (hbytes : (l.length + n) * bytes ≤ 140737488355328) (hml : l.length + n ≤ 9223372036854775807) (hbase : base ≤ w.heap.size) :
    ∃ v' w', (Builtin.append_ #[t, t] ty #[v, .slice A n c]).run P w = .ok v' w' ∧ Own w' base e v' (l ++ m) ∧ w.grownBy w' v.ownBlock ∧ (v'.ownBlock = v.ownBlock ∨ v'.ownBlock = some w.heap.size) := by
  obtain ⟨i, hi, hz, hz1, hz2⟩ := info_parts hinfo
  obtain ⟨xs, hx1, ho1, hr1⟩ := id hown
  subst hn
  by_cases h0 : 0 < m.length
  · obtain ⟨b, o, news, rfl, hSb, hlt, hnl, hn1, hnc, hnr⟩ := hm.flat h0
    obtain ⟨v', w', hrun, h2, h3, _, h5⟩ := run_append_own_at (P := P) w base t ty e i z (Rep.size α) bytes ht hi hz hz1 hz2 hzs hsz v l.length xs hx1 ⟨b, o, none⟩ m.length c news hnl
      (fun j u hu => by rw [addr_add]; exact hnc j u hu) hn1 (by simp only [maxLen]; omega) hbytes hbase
    refine ⟨v', w', hrun, ?_, h3, h5⟩
    refine hown.more (news := news) (H := w.heap.size) (fun ys hy => ?_) h3 h5 (Nat.le_refl _) hn1 hnl (fun i hi => Rep.mono (hnr i hi) (fun b hb hl => hS b hb hl))
    have e1 : (l ++ m).length = l.length + m.length := by simp
    rw [e1]
    obtain rfl : xs = ys := by
      rcases hx1.2 with ⟨r1, r2⟩ | ⟨g1, c1, cu1, r1, _, r3, _, _, _, r4⟩
      · have := hx1.1; have := hy.1
        rw [r2] at *
        simp at *
        simp [*]
      · rcases hy.2 with ⟨q1, q2⟩ | ⟨g2, c2, cu2, q1, _, q3, _, _, _, q4⟩
        · rw [r1] at q1; cases q1
        · rw [r1] at q1; cases q1
          rw [r3] at q3; cases q3
          rw [← r4, ← q4]
    exact h2
  · obtain rfl : m = [] := List.eq_nil_of_length_eq_zero (by omega)
    refine ⟨v, w, ?_, by simpa using hown, World.grownBy.refl _ _, .inl rfl⟩
    rcases A with _ | a
    · rcases hx1.2 with ⟨rfl, r2⟩ | ⟨g, cap, cur, rfl, _, _, hnc, _⟩
      · simp [Builtin.append_, run_underlying ht, sizeOf, typeInfo, hi, Builtin.lenOf, Builtin.firstCells]
      · simp [Builtin.append_, run_underlying ht, sizeOf, typeInfo, hi, Builtin.lenOf, Builtin.firstCells, hnc, storeCells]
    · rcases hx1.2 with ⟨rfl, r2⟩ | ⟨g, cap, cur, rfl, _, _, hnc, _⟩
      · simp [Builtin.append_, run_underlying ht, sizeOf, typeInfo, hi, Builtin.lenOf, Builtin.firstCells, loadCells, loadCellsFrom]
      · simp [Builtin.append_, run_underlying ht, sizeOf, typeInfo, hi, Builtin.lenOf, Builtin.firstCells, hnc, storeCells, loadCells, loadCellsFrom]
theorem wp_cat {o : Oper} {a : Act} {K : Act → World → Prop} {Q : Exit → Act → World → Prop} (s x : Operand) (t : TypeId)
    (ho : o.op = .call { callee := .builtin .append, args := #[s, x], argTypes := #[t, t] })
    (base : Nat) (e : TypeId) (z : Value) (bytes : Nat) (ht : P.underlying t = some (.slice e)) (hinfo : (P.info? e).map (fun i => (i.zero, i.size, i.bytes)) = some (some z, Rep.size α, bytes))
    (hzs : z.cells.size = Rep.size α) (hsz : 0 < Rep.size α)
    (v : Value) (l : List α) (hs : a.eval s = v) (hown : Own w base e v l)
    (A : Option Addr) (c n : Nat) (m : List α) (hx : a.eval x = .slice A n c) (hn : m.length = n) (S : Nat → Prop) (hm : Sl w S A c m) (hS : ∀ i, S i → i < w.heap.size → some i ≠ v.ownBlock)
    (hbytes : (l.length + n) * bytes ≤ 140737488355328) (hml : l.length + n ≤ 9223372036854775807) (hbase : base ≤ w.heap.size)
    (h : ∀ v' w', Own w' base e v' (l ++ m) → w.grownBy w' v.ownBlock → (v'.ownBlock = v.ownBlock ∨ v'.ownBlock = some w.heap.size) → K (a.put o.dst v') w') : o.wp P a w K Q := by
  obtain ⟨v', w', hrun, h2, h3, h4⟩ := run_cat (P := P) w base t o.type e z bytes ht hinfo hzs hsz v l hown A c n m hn S hm hS hbytes hml hbase
  unfold Oper.wp execOp
  simp only [ho, resolve, invoke, builtin, Sem.run_bind, Sem.run_pure, Result.andThen_ok, List.map_toArray, List.map_cons, List.map_nil, hs, hx, hrun]
  exact h v' w' h2 h3 h4
theorem wpList_cat {ops : Array Oper} {rest : List Oper} {o : Oper} {a : Act} {Q : Exit → Act → World → Prop} (hgd : o.guard = none) (s x : Operand) (t : TypeId)
    (ho : o.op = .call { callee := .builtin .append, args := #[s, x], argTypes := #[t, t] })
    (base : Nat) (e : TypeId) (z : Value) (bytes : Nat) (ht : P.underlying t = some (.slice e)) (hinfo : (P.info? e).map (fun i => (i.zero, i.size, i.bytes)) = some (some z, Rep.size α, bytes))
    (hzs : z.cells.size = Rep.size α) (hsz : 0 < Rep.size α)
    (v : Value) (l : List α) (hs : a.eval s = v) (hown : Own w base e v l)
    (A : Option Addr) (c n : Nat) (m : List α) (hx : a.eval x = .slice A n c) (hn : m.length = n) (S : Nat → Prop) (hm : Sl w S A c m) (hS : ∀ i, S i → i < w.heap.size → some i ≠ v.ownBlock)
    (hbytes : (l.length + n) * bytes ≤ 140737488355328) (hml : l.length + n ≤ 9223372036854775807) (hbase : base ≤ w.heap.size)
    (h : ∀ v' w', Own w' base e v' (l ++ m) → w.grownBy w' v.ownBlock → (v'.ownBlock = v.ownBlock ∨ v'.ownBlock = some w.heap.size) → wpList P ops Q rest (a.put o.dst v') w') : wpList P ops Q (o :: rest) a w :=
  wpList_plain hgd fun _ hK => wp_cat w s x t ho base e z bytes ht hinfo hzs hsz v l hs hown A c n m hx hn S hm hS hbytes hml hbase fun v' w' h2 h3 h4 => hK _ _ (h v' w' h2 h3 h4)
theorem step_cat {ops : Array Oper} {o : Oper} {a : Act} {K : Act → World → Prop} {Q : Exit → Act → World → Prop} {E : Prop} (hgd : o.guard = none) (s x : Operand) (t : TypeId)
    (ho : o.op = .call { callee := .builtin .append, args := #[s, x], argTypes := #[t, t] })
    (base : Nat) (e : TypeId) (z : Value) (bytes : Nat) (ht : P.underlying t = some (.slice e)) (hinfo : (P.info? e).map (fun i => (i.zero, i.size, i.bytes)) = some (some z, Rep.size α, bytes))
    (hzs : z.cells.size = Rep.size α) (hsz : 0 < Rep.size α)
    (v : Value) (l : List α) (hs : a.eval s = v) (hown : Own w base e v l)
    (A : Option Addr) (c n : Nat) (m : List α) (hx : a.eval x = .slice A n c) (hn : m.length = n) (S : Nat → Prop) (hm : Sl w S A c m) (hS : ∀ i, S i → i < w.heap.size → some i ≠ v.ownBlock)
    (hbytes : (l.length + n) * bytes ≤ 140737488355328) (hml : l.length + n ≤ 9223372036854775807) (hbase : base ≤ w.heap.size)
    (h : ∀ v' w', Own w' base e v' (l ++ m) → w.grownBy w' v.ownBlock → (v'.ownBlock = v.ownBlock ∨ v'.ownBlock = some w.heap.size) → K (a.put o.dst v') w') :
    if Region.wanted o (yielded ops a.tmps) = true then Oper.wp P o a w K Q else E := by
  have hw : Region.wanted o (yielded ops a.tmps) = true := by simp [Region.wanted, hgd]
  rw [if_pos hw]
  exact wp_cat w s x t ho base e z bytes ht hinfo hzs hsz v l hs hown A c n m hx hn S hm hS hbytes hml hbase h
/-- An empty slice that is not nil. -/
theorem Own.made (w : World) (base : Nat) (e : TypeId) (hb : base ≤ w.heap.size) : Own (w.alloc (.cells #[] e)) base e (.slice (some ⟨w.heap.size, 0, none⟩) 0 0) ([] : List α) :=
  ⟨[], World.ownsRow_made w #[] 0 hb (by simp [maxLen]) (by simp), by simp, fun i h => absurd h (by simp)⟩
/-- A literal slice. -/
theorem Own.lit (w : World) (base : Nat) (e : TypeId) (cs : Array Value) (l : List α) (hb : base ≤ w.heap.size) (hm : l.length ≤ maxLen) (hs : cs.size = l.length * Rep.size α) (h1 : ∀ u ∈ cs.toList, u.oneCell' = true)
    (hr : ∀ i, (h : i < l.length) → Rep.R (w.alloc (.cells cs e)) (fun b => b ≠ w.heap.size) ((cs.toList.drop (i * Rep.size α)).take (Rep.size α)) l[i]) :
    Own (w.alloc (.cells cs e)) base e (.slice (some ⟨w.heap.size, 0, none⟩) l.length l.length) l :=
  ⟨cs.toList, World.ownsRow_lit w cs l.length hb hm hs, h1, fun i h => Rep.mono (hr i h) (fun b hb _ => by simpa [Value.ownBlock] using hb)⟩
/-- behind grownBy without a block ahead. -/
theorem below_cat {B : Nat} {w0 w1 w2 : World} {e : TypeId} {v : Value} {l : List α} (hb : Below B w0 w1) (hown : Own w1 B e v l) (hB : B ≤ w1.heap.size) (hg : w1.grownBy w2 v.ownBlock) : Below B w0 w2 :=
  hb.grown hg hB (fun k hk => (hown.lt k hk).1)
end
end Go.Proofs.YthcklfelofpffaaDoor
namespace Go.Proofs.YthcklfelofpffaaDoor
abbrev W32 := BitVec 32
def rotr (x : W32) (n : Nat) : W32 := (x <<< (32 - n)) ||| (x >>> n)
def sg0 (x : W32) : W32 := rotr x 7 ^^^ rotr x 18 ^^^ (x >>> 3)
def sg1 (x : W32) : W32 := rotr x 17 ^^^ rotr x 19 ^^^ (x >>> 10)
def bg0 (x : W32) : W32 := rotr x 2 ^^^ rotr x 13 ^^^ rotr x 22
def bg1 (x : W32) : W32 := rotr x 6 ^^^ rotr x 11 ^^^ rotr x 25
def chW (e f g : W32) : W32 := g ^^^ (e &&& (f ^^^ g))
def majW (a b c : W32) : W32 := (a &&& b) ||| (c &&& (a ||| b))
/-- The round constants. -/
def KS : List Nat := [
  0x428a2f98, 0x71374491, 0xb5c0fbcf, 0xe9b5dba5, 0x3956c25b, 0x59f111f1, 0x923f82a4, 0xab1c5ed5,
  0xd807aa98, 0x12835b01, 0x243185be, 0x550c7dc3, 0x72be5d74, 0x80deb1fe, 0x9bdc06a7, 0xc19bf174,
  0xe49b69c1, 0xefbe4786, 0x0fc19dc6, 0x240ca1cc, 0x2de92c6f, 0x4a7484aa, 0x5cb0a9dc, 0x76f988da,
  0x983e5152, 0xa831c66d, 0xb00327c8, 0xbf597fc7, 0xc6e00bf3, 0xd5a79147, 0x06ca6351, 0x14292967,
  0x27b70a85, 0x2e1b2138, 0x4d2c6dfc, 0x53380d13, 0x650a7354, 0x766a0abb, 0x81c2c92e, 0x92722c85,
  0xa2bfe8a1, 0xa81a664b, 0xc24b8b70, 0xc76c51a3, 0xd192e819, 0xd6990624, 0xf40e3585, 0x106aa070,
  0x19a4c116, 0x1e376c08, 0x2748774c, 0x34b0bcb5, 0x391c0cb3, 0x4ed8aa4a, 0x5b9cca4f, 0x682e6ff3,
  0x748f82ee, 0x78a5636f, 0x84c87814, 0x8cc70208, 0x90befffa, 0xa4506ceb, 0xbef9a3f7, 0xc67178f2]
/-- A word, and eight bits more. -/
def put8 (x : W32) (c : UInt8) : W32 := (x <<< 8) ||| BitVec.ofNat 32 c.toNat
/-- The first sixteen words of a block. -/
def word16 (b : List UInt8) (i : Nat) : W32 := put8 (put8 (put8 (put8 0 (b.getD (4 * i) 0)) (b.getD (4 * i + 1) 0)) (b.getD (4 * i + 2) 0)) (b.getD (4 * i + 3) 0)
def nextW (l : List W32) (t : Nat) : W32 := l.getD (t - 16) 0 + sg0 (l.getD (t - 15) 0) + (l.getD (t - 7) 0 + sg1 (l.getD (t - 2) 0))
def sched (b : List UInt8) : Nat → List W32
  | 0 => []
  | t + 1 => sched b t ++ [if t < 16 then word16 b t else nextW (sched b t) t]
def rnd (v : List W32) (k w : W32) : List W32 :=
  match v with
  | [a, b, c, d, e, f, g, h] => let one := h + bg1 e + chW e f g + k + w; [one + (bg0 a + majW a b c), a, b, c, d + one, e, f, g]
  | v => v
def rnds (h ws : List W32) : Nat → List W32
  | 0 => h
  | n + 1 => rnd (rnds h ws n) (BitVec.ofNat 32 (KS.getD n 0)) (ws.getD n 0)
def blk (h : List W32) (b : List UInt8) : List W32 := List.zipWith (· + ·) h (rnds h (sched b 64) 64)
def H0 : List W32 := [0x6a09e667, 0xbb67ae85, 0x3c6ef372, 0xa54ff53a, 0x510e527f, 0x9b05688c, 0x1f83d9ab, 0x5be0cd19]
/-- The first n blocks of bytes. -/
def blks (h : List W32) (b : List UInt8) : Nat → List W32
  | 0 => h
  | n + 1 => blk (blks h b n) (b.drop (64 * n))
theorem sched_length (b : List UInt8) : ∀ t, (sched b t).length = t
  | 0 => rfl
  | t + 1 => by rw [sched, List.length_append, sched_length b t]; rfl
theorem rnd_length {v : List W32} (h : v.length = 8) (k w : W32) : (rnd v k w).length = 8 := by
  match v, h with
  | [_, _, _, _, _, _, _, _], _ => rfl
theorem rnds_length {h : List W32} (hl : h.length = 8) (ws : List W32) : ∀ n, (rnds h ws n).length = 8
  | 0 => hl
  | n + 1 => rnd_length (rnds_length hl ws n) _ _
theorem blk_length {h : List W32} (hl : h.length = 8) (b : List UInt8) : (blk h b).length = 8 := by
  rw [blk, List.length_zipWith, rnds_length hl, hl]; rfl
theorem blks_length {h : List W32} (hl : h.length = 8) (b : List UInt8) : ∀ n, (blks h b n).length = 8
  | 0 => hl
  | n + 1 => blk_length (blks_length hl b n) _
theorem word16_cong {a b : List UInt8} (i : Nat) (hi : i < 16) (h : ∀ j, j < 64 → a.getD j 0 = b.getD j 0) : word16 a i = word16 b i := by
  unfold word16
  rw [h _ (by omega), h _ (by omega), h _ (by omega), h _ (by omega)]
theorem sched_cong {a b : List UInt8} (h : ∀ j, j < 64 → a.getD j 0 = b.getD j 0) : ∀ t, sched a t = sched b t
  | 0 => rfl
  | t + 1 => by
    rw [sched, sched, sched_cong h t]
    by_cases ht : t < 16
    · rw [if_pos ht, if_pos ht, word16_cong t ht h]
    · rw [if_neg ht, if_neg ht]
theorem blk_cong {a b : List UInt8} (v : List W32) (h : ∀ j, j < 64 → a.getD j 0 = b.getD j 0) : blk v a = blk v b := by
  unfold blk; rw [sched_cong h]
theorem getD_drop {α : Type} (l : List α) (n j : Nat) (d : α) : (l.drop n).getD j d = l.getD (n + j) d := by
  simp [List.getD_eq_getElem?_getD, List.getElem?_drop]
theorem getD_append_lt {α : Type} (a b : List α) (j : Nat) (d : α) (h : j < a.length) : (a ++ b).getD j d = a.getD j d := by
  simp [List.getD_eq_getElem?_getD, List.getElem?_append_left h]
/-- Further bytes leave the full blocks as they are. -/
theorem blks_append (h : List W32) (a b : List UInt8) : ∀ n, 64 * n ≤ a.length → blks h (a ++ b) n = blks h a n
  | 0, _ => rfl
  | n + 1, hn => by
    rw [blks, blks, blks_append h a b n (by omega)]
    exact blk_cong _ fun j hj => by rw [getD_drop, getD_drop, getD_append_lt _ _ _ _ (by omega)]
theorem blks_drop (h : List W32) (b : List UInt8) (m : Nat) : ∀ n, blks (blks h b m) (b.drop (64 * m)) n = blks h b (m + n)
  | 0 => rfl
  | n + 1 => by rw [blks, blks_drop h b m n, List.drop_drop, ← Nat.add_assoc m n 1, blks, show 64 * m + 64 * n = 64 * (m + n) by omega]
theorem KS_length : KS.length = 64 := rfl
/-- The bytes of a number, the greatest first. -/
def be8 (n : Nat) : List UInt8 := [UInt8.ofNat (n >>> 56), UInt8.ofNat (n >>> 48), UInt8.ofNat (n >>> 40), UInt8.ofNat (n >>> 32), UInt8.ofNat (n >>> 24), UInt8.ofNat (n >>> 16), UInt8.ofNat (n >>> 8), UInt8.ofNat n]
def be4 (w : W32) : List UInt8 := [UInt8.ofNat (w.toNat >>> 24), UInt8.ofNat (w.toNat >>> 16), UInt8.ofNat (w.toNat >>> 8), UInt8.ofNat w.toNat]
/-- What is appended to a number of bytes: 128, zeros, the number of bits. -/
def padOf (n : Nat) : List UInt8 := 128 :: (List.replicate ((119 - n % 64) % 64) 0 ++ be8 (n * 8 % 18446744073709551616))
theorem padOf_length (n : Nat) : (n + (padOf n).length) % 64 = 0 := by
  unfold padOf be8; simp only [List.length_cons, List.length_append, List.length_replicate, List.length_nil]; omega
def sha (b : List UInt8) : List UInt8 := (blks H0 (b ++ padOf b.length) ((b.length + (padOf b.length).length) / 64)).flatMap be4
def leafH (b : List UInt8) : List UInt8 := sha (0 :: b)
def nodeH (a b : List UInt8) : List UInt8 := sha (1 :: (a ++ b))
theorem flat4_length : ∀ (l : List W32), (l.flatMap be4).length = 4 * l.length
  | [] => rfl
  | x :: l => by rw [List.flatMap_cons, List.length_append, flat4_length l, List.length_cons]; unfold be4; simp only [List.length_cons, List.length_nil]; omega
theorem sha_length (b : List UInt8) : (sha b).length = 32 := by rw [sha, flat4_length, blks_length rfl]
end Go.Proofs.YthcklfelofpffaaDoor
namespace Go.Proofs.YthcklfelofpffaaDoor
open Go.RowKit
theorem wp_region_calm {P : Program} {id : Nat} {Q : Exit → Act → World → Prop} {a : Act} {w : World} {l : List Oper} (hm : P.follows .mixedOrders = true) (hB : Region.lexB .any l.toArray = true)
    (h : ∀ (T : Type) (_ : Nonempty T) (f : T → World), (∀ d, Below w.heap.size w (f d)) → (∀ d w', Below (f d).heap.size (f d) w' → ∃ m, w' = f m) →
      wpQuiet P l.toArray (fun w' => ∃ n, w' = f n) (fun a' => ∀ w', (∃ n, w' = f n) → Q .normal a' w') l a) : (Code.region id l.toArray true).wp P Q a w := by
  refine wp_region_quiet (C := fun w' => ∃ n, w' = (Subtype.val : {x : World // Below w.heap.size w x} → World) n) hm hB ⟨⟨_, (Below.refl _ w).drew⟩, rfl⟩ ?_
  rw [List.toList_toArray]
  exact h _ ⟨⟨_, (Below.refl _ w).drew⟩⟩ Subtype.val (fun d => d.2) (fun d w' hb => ⟨⟨w', d.2.trans (hb.mono d.2.size)⟩, rfl⟩)
end Go.Proofs.YthcklfelofpffaaDoor
namespace Go.Proofs.YthcklfelofpffaaDoor
open Go.RowKit
/-- A word as the model's number. -/
def u (x : W32) : Int := (x.toNat : Int)
theorem u_bd (x : W32) : 0 ≤ u x ∧ u x < 4294967296 := by have := x.isLt; unfold u; omega
theorem wrap_u32 (n : Int) : IntKind.u32.wrap n = n % 4294967296 := by
  unfold IntKind.wrap; rfl
theorem wrap_u32_nat (n : Nat) : IntKind.u32.wrap (n : Int) = u (BitVec.ofNat 32 n) := by
  rw [wrap_u32]; unfold u; rw [BitVec.toNat_ofNat]; omega
theorem ofInt_u (x : W32) : BitVec.ofInt 32 (u x) = x := by
  unfold u; apply BitVec.eq_of_toNat_eq; rw [BitVec.toNat_ofInt]; have := x.isLt; omega
theorem wrap_back (x : W32) : IntKind.u32.wrap (x.toNat : Int) = u x := by
  rw [wrap_u32]; have := x.isLt; unfold u; omega
theorem u_xor (a b : W32) : bits .xor .u32 (u a) (u b) = u (a ^^^ b) := by
  have : bits .xor .u32 (u a) (u b) = IntKind.u32.wrap ((BitVec.ofInt 32 (u a) ^^^ BitVec.ofInt 32 (u b)).toNat : Int) := rfl
  rw [this, ofInt_u, ofInt_u, wrap_back]
theorem u_and (a b : W32) : bits .and .u32 (u a) (u b) = u (a &&& b) := by
  have : bits .and .u32 (u a) (u b) = IntKind.u32.wrap ((BitVec.ofInt 32 (u a) &&& BitVec.ofInt 32 (u b)).toNat : Int) := rfl
  rw [this, ofInt_u, ofInt_u, wrap_back]
theorem u_or (a b : W32) : bits .or .u32 (u a) (u b) = u (a ||| b) := by
  have : bits .or .u32 (u a) (u b) = IntKind.u32.wrap ((BitVec.ofInt 32 (u a) ||| BitVec.ofInt 32 (u b)).toNat : Int) := rfl
  rw [this, ofInt_u, ofInt_u, wrap_back]
theorem u_add (a b : W32) : IntKind.u32.wrap (u a + u b) = u (a + b) := by
  rw [wrap_u32]; unfold u; rw [BitVec.toNat_add]; omega
theorem u_addm (a b : W32) : (u a + u b) % 4294967296 = u (a + b) := by rw [← wrap_u32]; exact u_add a b
theorem u_shr (x : W32) (n : Nat) : u x / 2 ^ n = u (x >>> n) := by
  unfold u; rw [BitVec.toNat_ushiftRight, Nat.shiftRight_eq_div_pow]; norm_cast
theorem u_shl (x : W32) (n : Nat) : IntKind.u32.wrap (u x * 2 ^ n) = u (x <<< n) := by
  rw [wrap_u32]; unfold u; rw [BitVec.toNat_shiftLeft, Nat.shiftLeft_eq, Int.natCast_emod, Int.natCast_mul, Int.natCast_pow]; rfl
theorem u_shr3 (x : W32) : u x / (8 : Int) = u (x >>> 3) := u_shr x 3
theorem u_shr10 (x : W32) : u x / (1024 : Int) = u (x >>> 10) := u_shr x 10
theorem u_shl8 (x : W32) : IntKind.u32.wrap (u x * (256 : Int)) = u (x <<< 8) := u_shl x 8
theorem u_put8 (x : W32) (c : UInt8) : bits .or .u32 (u (x <<< 8)) (c.toNat : Int) = u (put8 x c) := by
  have h : ((c.toNat : Nat) : Int) = u (BitVec.ofNat 32 c.toNat) := by unfold u; rw [BitVec.toNat_ofNat, Nat.mod_eq_of_lt (Nat.lt_of_lt_of_le c.toNat_lt (by decide))]
  rw [h, u_or]; rfl
theorem wrap_byte (c : UInt8) : IntKind.u32.wrap (c.toNat : Int) = (c.toNat : Int) := by
  rw [wrap_u32]; have := c.toNat_lt; omega
theorem gK : Tryd.prog.globalNamed "rollbook/digest.rounds" = some 0 := by kernel_rfl
/-- What the table of the round constants holds. -/
def KLaid (w : World) : Prop := Lib.TabIs Tryd.prog w "rollbook/digest.rounds" .u32 (KS.map fun k : Nat => (k : Int))
theorem KLaid.row {w : World} (h : KLaid w) : ∃ t fr, w.heap[0]? = some (.cells (KS.map fun k : Nat => Value.int .u32 (k : Int)).toArray t fr) := by
  unfold KLaid Lib.TabIs World.var? at h
  rw [gK] at h
  simp only [Option.bind_some, List.map_map] at h
  split at h
  · rename_i cs t fr hc
    rw [hc]
    simp only [Option.some.injEq] at h
    exact ⟨_, _, by rw [h]; rfl⟩
  · cases h
theorem KLaid.to {w w' : World} (h : KLaid w) (hb : Below w.heap.size w w') : KLaid w' := by
  obtain ⟨t, fr, hr⟩ := h.row
  unfold KLaid Lib.TabIs World.var? at h ⊢
  rw [gK] at h ⊢
  simp only [Option.bind_some] at h ⊢
  rw [hb.block _ (Array.getElem?_eq_some_iff.1 hr).1]; exact h
theorem KS_bd : ∀ k, k < 64 → KS.getD k 0 < 4294967296 := by decide +kernel
theorem KS_at (k : Nat) (h : k < 64) : (KS.map fun k : Nat => Value.int .u32 (k : Int)).toArray[k]? = some (.int .u32 (u (BitVec.ofNat 32 (KS.getD k 0)))) := by
  have h1 := KS_bd k h
  have h2 : k < KS.length := h
  simp only [List.getElem?_toArray, List.getElem?_map, List.getElem?_eq_getElem h2, Option.map_some]
  rw [List.getD_eq_getElem?_getD, List.getElem?_eq_getElem h2, Option.getD_some] at *
  unfold u
  rw [BitVec.toNat_ofNat, Nat.mod_eq_of_lt h1]
set_option maxHeartbeats 400000 in
theorem rotl_any (x : W32) (n : Nat) (z : Int) (hz : z = -(n : Int)) (h1 : 1 ≤ n) (hn : n ≤ 31) (w : World) :
    Calls Tryd.prog 100 #[.int .u32 (u x), .int .i64 z] w fun e w' => e = .returned (.int .u32 (u (rotr x n))) ∧ w = w' := by
  have hs : bits BinOp.and IntKind.u64 (IntKind.u64.wrap z) 31 = ((32 - n : Nat) : Int) := by
    subst hz
    have : ∀ n : Nat, n < 32 → 1 ≤ n → bits BinOp.and IntKind.u64 (IntKind.u64.wrap (-(n : Int))) 31 = ((32 - n : Nat) : Int) := by decide +kernel
    exact this n (by omega) h1
  have hc : (32 - n) + n = 32 := by omega
  have HE : Hid (u (rotr x n) = bits .or .u32 (IntKind.u32.wrap (u x * 2 ^ (32 - n))) (u x / 2 ^ n)) := Lib.hid (by rw [u_shr, u_shl, u_or]; rfl)
  have hb := u_bd x
  clear hz
  generalize hm : (32 - n : Nat) = m at *
  have Hm := Lib.hid hm
  have hm1 : (m : Int) ≤ 31 := by omega
  have hm0 : (0 : Int) ≤ (m : Int) := by omega
  have hm2 : IntKind.u64.wrap (32 - (m : Int)) = (n : Int) := by rw [show (32 - (m : Int)) = (n : Int) by omega]; exact IntWalk.u64_in _ (by omega)
  have hn1 : (n : Int) ≤ 32 := by omega
  have hm3 : (m : Int) ≤ 32 := by omega
  clear hm
  generalize u x = X at *
  go_enter Tryd.func100, Tryd.ntmps100
  go_wp2_with fail
  go_ret
  exact ⟨ret_int HE.out.symm, rfl⟩
end Go.Proofs.YthcklfelofpffaaDoor
namespace Go.Proofs.YthcklfelofpffaaDoor
open Go.ChangeShapes Go.WideShapes Go.ChangeAt Go.RowKit
variable {H : Type} {enc : TypeId × Value → H} {P : Program}

/-- A readable type of the program. -/
def readT (P : Program) (t : TypeId) : Bool := P.readableRec t && decide (t < P.types.size)
theorem stays {W W' : World} (hl : laidOutB P = true) (hb : Below W.heap.size W W') (sp : Nat → Bool) : ∀ {ts : List TypeId} {vs : List Value} {ds : List (DataW H)} {p : List MemPlace},
    ts.all (readT P) = true → DataW.TrodAll enc P W 0 (fun _ => true) true ts vs ds p → (∀ x ∈ p, x.block < W.heap.size) → (∀ x ∈ p, sp x.block = true) → DataW.TrodAll enc P W' 0 sp true ts vs ds p := by
  intro ts
  induction ts with
  | nil =>
    intro vs ds p _ h _ _
    obtain ⟨rfl, rfl, rfl⟩ := trodAll_nil h
    exact trodAll_mk0
  | cons t ts ih =>
    intro vs ds p hr h hlt hsp
    obtain ⟨v, vs', d, ds', q, q', rfl, rfl, rfl, h1, h2⟩ := trodAll_cons h
    rw [List.all_cons, Bool.and_eq_true] at hr
    have hr1 := hr.1
    unfold readT at hr1
    rw [Bool.and_eq_true, decide_eq_true_iff] at hr1
    exact trodAll_cons_mk (WideElems.Trod_stays hl hr1.1 hr1.2 h1 (fun x hx => hb.same (hlt x (List.mem_append_left _ hx))) (fun x hx => hsp x (List.mem_append_left _ hx)))
      (ih hr.2 h2 (fun x hx => hlt x (List.mem_append_right _ hx)) (fun x hx => hsp x (List.mem_append_right _ hx)))

/-- The row's last step. -/
theorem row_close {f : Func} {s : ChangeSpec} {W W' : World} {args : Array Value} {ds gs : List (DataW H)} {before : List MemPlace} {tb : TypeId} {fresh handsOn : Bool}
    (hl : laidOutB P = true) (ht : P.underlying tb = some .bool) (hrt : f.resultTypes = #[tb]) (hr : f.params.toList.all (readT P) = true) (hv : s.vars = [])
    (hW : DataW.Whole enc P f.params.toList s.vars false W args.toList ds gs before) (hres : (s.fn H (ds ++ gs)) = { results := [.lit (.bool true)], args := ds }) (hb : Below W.heap.size W W') :
    s.post enc P f false fresh handsOn false W args (.bool true) W' := by
  have hlt : ∀ p ∈ before, p.block < W.heap.size := fun p hp => hW.lt p hp
  have hW' := hW
  obtain ⟨p, q, hA, hV, rfl, hz, _⟩ := hW
  rw [hv] at hV
  obtain ⟨rfl, rfl⟩ := trodVars_none hV
  rw [List.append_nil] at hlt hz hW'
  refine ⟨ds, [], p, [], p, [], hW', ?_, ?_, ?_, hb.frame _, fun h => by cases h⟩
  · rw [hrt, hres]
    exact trodAll_cons_mk (shut_bool ht true) trodAll_mk0
  · rw [hres]
    exact stays hl hb _ hr hA hlt (fun x hx => by simpa using hlt x hx)
  · rw [hres, hv]; rfl

/-- An int64 argument is in range. -/
theorem i64_wf {n : Int} (h : (Lit.int .i64 n).wf = true) : -9223372036854775808 ≤ n ∧ n ≤ 9223372036854775807 := by
  simpa [Lit.wf, IntKind.min, IntKind.max, IntKind.signed, IntKind.bits] using h
end Go.Proofs.YthcklfelofpffaaDoor
namespace Go.Proofs.YthcklfelofpffaaDoor
open Go.ChangeShapes Go.WideShapes Go.ChangeAt Go.RowKit
def laidL : List (String × DataW Unit) := Rows.certifyLeavesRow.laid
theorem gType_k : (Tryd.prog.globals[0]?).map (·.type) = some 139 := by kernel_rfl
theorem filt_k : laidL.filter (fun x => x.1 == "rollbook/digest.rounds") = [("rollbook/digest.rounds", Lib.tabData .u32 (KS.map fun k : Nat => (k : Int)))] := by kernel_rfl
theorem cells_u32 : Tryd.prog.cellsOf 95 = 1 := by kernel_rfl
theorem cells_k : Tryd.prog.cellsOf 139 = 64 := by kernel_rfl
theorem tabs_of {W : World} (h : laidMetH Tryd.prog laidL W) : KLaid W := by
  have hw := h.filter (fun x => x.1 == "rollbook/digest.rounds")
  rw [filt_k] at hw
  exact Lib.tabIs_of_head (rest := []) gK gType_k Tryd.underlying139 Tryd.underlying95 cells_u32 cells_k hw
def nums : DataW Unit → Array Value
  | .agg xs => (xs.map fun x => match x with | .lit (.int k z) => Value.int k z | _ => .bool false).toArray
  | _ => #[]
def lay (w : World) (b : Nat) (d : DataW Unit) : World :=
  { w with heap := w.heap.modify b fun | .cells _ t fr => .cells (nums d) t fr | o => o }
noncomputable def laidWorld (os : Os) : World :=
  lay (World.holding Tryd.prog os ⟨#[], #[], []⟩) 0 Rows.laid_rollbook_digest_rounds
theorem own : ownKnob Tryd.prog.godebug = none := by kernel_rfl
theorem laidOut : laidOutB Tryd.prog = true := by kernel_rfl
theorem cells_int : Tryd.prog.cellsOf 3 = 1 := by kernel_rfl
theorem cells_ints : Tryd.prog.cellsOf 25 = 1 := by kernel_rfl
end Go.Proofs.YthcklfelofpffaaDoor
namespace Go.Proofs.YthcklfelofpffaaDoor
open Go.RowKit
section
variable {P : Program} {ops : Array Oper} {md : Region.Mode} {C : World → Prop} {m : Nat}
def wpAnyT (P : Program) (md : Region.Mode) (ops : Array Oper) (C : World → Prop) (m : Nat) (Q : Act → Prop) : Nat → Array Bool → Act → Prop
  | 0, listed, a => Region.ready md ops listed = [m] ∧ listed.getD m false = false ∧ Region.ready md ops (listed.setIfInBounds m true) = [] ∧ Q a
  | fuel + 1, listed, a => Region.ready md ops listed ≠ [] ∧ ∀ i ∈ Region.ready md ops listed, i ≠ m ∧ qOp P ops C i (wpAnyT P md ops C m Q fuel (listed.setIfInBounds i true)) a
theorem wpAny_of_T {Q : Act → Prop} {Q' : Exit → Act → World → Prop} (hQ : ∀ a w, C w → Q a → wpOp P ops Q' m (fun a w => Q' .normal a w) a w) : ∀ (fuel : Nat) (listed : Array Bool) (a : Act) (w : World), C w →
    wpAnyT P md ops C m Q fuel listed a → wpAny P md ops Q' (fuel + 1) listed a w
  | 0, listed, a, w, hw, h => by
    obtain ⟨h1, _, h3, h4⟩ := h
    refine ⟨fun h0 => (by rw [h1] at h0; cases h0), fun i hi => ?_⟩
    rw [h1, List.mem_singleton] at hi
    subst hi
    exact wpOp_mono (fun a w hn => ⟨h3, hn⟩) (hQ a w hw h4)
  | fuel + 1, _, _, _, hw, h => ⟨fun h0 => absurd h0 h.1, fun i hi => wpOp_of_qOp hw (fun a' w' hw' => wpAny_of_T hQ fuel _ a' w' hw') (h.2 i hi).2⟩
theorem wpAnyT_first {Q : Act → Prop} {i : Nat} {oi : Oper} {v : Value} (hi : ops[i]? = some oi) (hsel : ∀ (j : Nat) (o : Oper) cs b, ops[j]? = some o → o.op ≠ .select cs b) (him : i ≠ m)
    (hcov : ∀ om, ops[m]? = some om → ∃ e ∈ om.after, Region.binds md e = true ∧ e.on = i) :
    ∀ (fuel : Nat) (listed : Array Bool) (a : Act),
      (∀ j oj, ops[j]? = some oj → j ≠ i → listed.getD j true = false → (∀ e ∈ oj.after, Region.binds md e = true → e.on ≠ i) → oi.apart ops oj = true) →
      i ∈ Region.ready md ops listed → YieldsIn P ops C oi v a →
      wpAnyT P md ops C m Q fuel (listed.setIfInBounds i true) (a.put oi.dst v) → wpAnyT P md ops C m Q (fuel + 1) listed a := by
  have hnotof : ∀ (listed : Array Bool) (j : Nat), i ∈ Region.ready md ops listed → j ∈ Region.ready md ops listed → ∀ oj, ops[j]? = some oj → ∀ e ∈ oj.after, Region.binds md e = true → e.on ≠ i := fun listed j hr hj oj hoj e he hb heq => by
    obtain ⟨hjun, oj', hoj', hall⟩ := mem_ready.1 hj
    rw [hoj] at hoj'; cases hoj'
    have h1 := hall e he hb
    have h0 := (mem_ready.1 hr).1
    rw [heq] at h1
    rcases Nat.lt_or_ge i listed.size with h' | h'
    · simp [h'] at h0 h1; rw [h0] at h1; cases h1
    · simp [Array.getElem?_eq_none h'] at h1
  have hnm : ∀ (listed : Array Bool) (j : Nat), i ∈ Region.ready md ops listed → j ∈ Region.ready md ops listed → j ≠ m := fun listed j hr hj hjm => by
    subst hjm
    obtain ⟨_, oj, hoj, _⟩ := mem_ready.1 hj
    obtain ⟨e, he, hb, heq⟩ := hcov oj hoj
    exact hnotof listed j hr hj oj hoj e he hb heq
  intro fuel
  induction fuel with
  | zero =>
    intro listed a _ hr hy H
    refine ⟨fun h => (by rw [h] at hr; cases hr), fun j hj => ?_⟩
    by_cases hji : j = i
    · subst hji; exact ⟨him, hy.qOp hi H⟩
    · have h2 := ready_mono hj hji
      rw [H.1, List.mem_singleton] at h2
      exact absurd h2 (hnm listed j hr hj)
  | succ fuel ih =>
    intro listed a hfree hr hy H
    refine ⟨fun h => (by rw [h] at hr; cases hr), fun j hj => ?_⟩
    by_cases hji : j = i
    · subst hji; exact ⟨him, hy.qOp hi H⟩
    · have h1 := (H.2 j (ready_mono hj hji)).2
      obtain ⟨hjun, oj, hoj, hall⟩ := mem_ready.1 hj
      have hnot : ∀ e ∈ oj.after, Region.binds md e = true → e.on ≠ i := hnotof listed j hr hj oj hoj
      have h2 := qOp_put hoj (hfree j oj hoj hji hjun hnot) (fun cs b => hsel i oi cs b hi) (fun cs b => hsel j oj cs b hoj) hy h1
      have hfree' : ∀ k ok, ops[k]? = some ok → k ≠ i → (listed.setIfInBounds j true).getD k true = false →
          (∀ e ∈ ok.after, Region.binds md e = true → e.on ≠ i) → oi.apart ops ok = true := fun k ok hk hki hun hno => by
        refine hfree k ok hk hki ?_ hno
        by_cases hjk : j = k
        · subst hjk; exact hjun
        · rw [Go.getD_set_ne true hjk] at hun; exact hun
      refine ⟨hnm listed j hr hj, qOp_mono (fun a' h3 => ih (listed.setIfInBounds j true) a' hfree' (ready_mono hr (Ne.symm hji)) h3.1 ?_) h2⟩
      rw [Array.setIfInBounds_comm _ _ hji]
      exact h3.2
/-- The text's order is one of the orders, and the last operation comes alone. -/
def lexT (md : Region.Mode) (ops : Array Oper) : Nat → Nat → Array Bool → Bool
  | 0, k, listed => Region.ready md ops listed == [k] && !(listed.getD k false) && (Region.ready md ops (listed.setIfInBounds k true)).isEmpty
  | n + 1, k, listed => (Region.ready md ops listed).contains k && Region.free md ops listed k && lexT md ops n (k + 1) (listed.setIfInBounds k true)
def coversM (md : Region.Mode) (ops : Array Oper) (m : Nat) : Bool :=
  (List.range m).all fun i => ((ops[m]?).map fun o => o.after.any fun e => Region.binds md e && e.on == i).getD false
theorem coversM_spec (h : coversM md ops m = true) (i : Nat) (hi : i < m) : ∀ om, ops[m]? = some om → ∃ e ∈ om.after, Region.binds md e = true ∧ e.on = i := by
  intro om hom
  have := (List.all_eq_true.1 h) i (List.mem_range.2 hi)
  rw [hom] at this
  simp only [Option.map_some, Option.getD_some, Array.any_eq_true'] at this
  obtain ⟨e, he, h⟩ := this
  rw [Bool.and_eq_true, beq_iff_eq] at h
  exact ⟨e, he, h.1, h.2⟩
theorem wpAnyT_lex {Q : Act → Prop} (hs : Region.noSelect ops = true) (hc : coversM md ops m = true) : ∀ (l : List Oper) (k : Nat) (listed : Array Bool) (a : Act), k + l.length = m → (∀ j, j < l.length → l[j]? = ops[k + j]?) →
    lexT md ops l.length k listed = true → wpQuiet P ops C Q l a → wpAnyT P md ops C m Q l.length listed a
  | [], k, listed, a, hk, _, hB, h => by
    simp only [List.length_nil, Nat.add_zero] at hk
    subst hk
    simp only [List.length_nil, lexT, Bool.and_eq_true, beq_iff_eq, Bool.not_eq_true', List.isEmpty_iff] at hB
    exact ⟨hB.1.1, hB.1.2, hB.2, h⟩
  | o :: l, k, listed, a, hk, hl, hB, h => by
    have h0 : ops[k]? = some o := by simpa using (hl 0 (by simp)).symm
    simp only [List.length_cons, lexT, Bool.and_eq_true] at hB
    obtain ⟨⟨hr, hf⟩, hB'⟩ := hB
    have hst : qOp P ops C k (wpQuiet P ops C Q l) a := by unfold qOp; simp only [h0]; exact h
    obtain ⟨v, hy, hK⟩ := yieldsIn_of_qOp h0 hst
    rw [List.length_cons] at hk
    exact wpAnyT_first h0 (Region.noSelect_spec hs) (by omega) (coversM_spec hc k (by omega)) l.length listed a (Region.free_spec h0 hf) (by simpa using hr) hy
      (wpAnyT_lex hs hc l (k + 1) _ _ (by omega) (fun j hj => by have := hl (j + 1) (by simpa using hj); simpa [Nat.add_assoc, Nat.add_comm 1 j] using this) hB' hK)
def lexTB (l : List Oper) : Bool := Region.noSelect l.toArray && coversM .any l.toArray (l.length - 1) && lexT .any l.toArray (l.length - 1) 0 (Array.replicate l.length false)
/-- The operations ahead of the last one. -/
theorem wp_region_last {id : Nat} {Q : Exit → Act → World → Prop} {a : Act} {w : World} {l : List Oper} {o : Oper} (hm : P.follows .mixedOrders = true) (hB : lexTB (l ++ [o]) = true)
    (h : ∀ (T : Type) (_ : Nonempty T) (f : T → World), (∀ d, Below w.heap.size w (f d)) → (∀ d w', Below (f d).heap.size (f d) w' → ∃ m, w' = f m) →
      wpQuiet P (l ++ [o]).toArray (fun w' => ∃ n, w' = f n) (fun a' => ∀ w', (∃ n, w' = f n) → Region.wanted o (yielded (l ++ [o]).toArray a'.tmps) = true ∧ o.wp P a' w' (fun a w => Q .normal a w) Q) l a) : (Code.region id (l ++ [o]).toArray true).wp P Q a w := by
  simp only [lexTB, Bool.and_eq_true, List.length_append, List.length_singleton, Nat.add_sub_cancel] at hB
  have hsz : (l ++ [o]).toArray.size = l.length + 1 := by simp
  refine wp_region_any hm ?_
  rw [hsz]
  refine wpAny_of_T (C := fun w' => ∃ n, w' = (Subtype.val : {x : World // Below w.heap.size w x} → World) n) (m := l.length)
    (Q := fun a' => ∀ w', (∃ n, w' = (Subtype.val : {x : World // Below w.heap.size w x} → World) n) → Region.wanted o (yielded (l ++ [o]).toArray a'.tmps) = true ∧ o.wp P a' w' (fun a w => Q .normal a w) Q)
    (fun a w' hw h => ?_) l.length _ a _ ⟨⟨_, (Below.refl _ w).drew⟩, rfl⟩
    (wpAnyT_lex hB.1.1 hB.1.2 l 0 _ a (by simp) (fun j hj => by simp [List.getElem?_append_left hj]) hB.2 (h _ ⟨⟨_, (Below.refl _ w).drew⟩⟩ Subtype.val (fun d => d.2) (fun d w' hb => ⟨⟨w', d.2.trans (hb.mono d.2.size)⟩, rfl⟩)))
  unfold wpOp
  have ho : (l ++ [o]).toArray[l.length]? = some o := by simp
  obtain ⟨h1, h2⟩ := h w' hw
  simp only [ho, h1, if_true]
  exact .inl h2
/-- The same for a region whose operations are written out. -/
theorem wp_region_tail {id : Nat} {Q : Exit → Act → World → Prop} {a : Act} {w : World} {l : List Oper} {o : Oper} (ho : l.dropLast ++ [o] = l) (hm : P.follows .mixedOrders = true) (hB : lexTB l = true)
    (h : ∀ (T : Type) (_ : Nonempty T) (f : T → World), (∀ d, Below w.heap.size w (f d)) → (∀ d w', Below (f d).heap.size (f d) w' → ∃ m, w' = f m) →
      wpQuiet P l.toArray (fun w' => ∃ n, w' = f n) (fun a' => ∀ w', (∃ n, w' = f n) → Region.wanted o (yielded l.toArray a'.tmps) = true ∧ o.wp P a' w' (fun a w => Q .normal a w) Q) l.dropLast a) : (Code.region id l.toArray true).wp P Q a w := by
  rw [← ho] at hB h ⊢
  rw [List.dropLast_concat] at h
  exact wp_region_last hm hB h
end
end Go.Proofs.YthcklfelofpffaaDoor
namespace Go.Proofs.YthcklfelofpffaaDoor
open Go.RowKit
def enc32 (x : W32) : Value := .int .u32 (u x)
instance : Rep UInt8 where
  size := 1
  R _ _ cs c := cs = [.int .u8 (c.toNat : Int)]
  len h := by subst h; rfl
  one h := by subst h; intro u hu; simp at hu; subst hu; rfl
  keep h _ := h
  mono h _ := h
/-- A block of words. -/
def WBox (w : World) (P : Nat) (t : TypeId) (ws : List W32) : Prop := w.heap[P]? = some (.cells (ws.map enc32).toArray t (0, 0))
theorem heap_set (w : World) (Y o : Nat) (u : Value) {i : Nat} (h : i ≠ Y) : (w.setCell ⟨Y, o, none⟩ u).heap[i]? = w.heap[i]? := by
  simp only [World.setCell, Array.getElem?_modify]
  rw [if_neg (fun e => h e.symm)]
theorem heap_set_at (w : World) (Y o : Nat) (u : Value) {cs : Array Value} {t : TypeId} {fr : Nat × Nat} (h : w.heap[Y]? = some (.cells cs t fr)) : (w.setCell ⟨Y, o, none⟩ u).heap[Y]? = some (.cells (cs.setIfInBounds o u) t fr) := by
  simp only [World.setCell, Array.getElem?_modify, if_true, h, Option.map_some, Option.isSome_none, Bool.false_eq_true, if_false]
section
variable {w w' : World} {P : Nat} {t : TypeId} {ws : List W32}
theorem WBox.lt (h : WBox w P t ws) : P < w.heap.size := (Array.getElem?_eq_some_iff.1 h).1
theorem WBox.to (h : WBox w P t ws) (hb : Below w.heap.size w w') : WBox w' P t ws := (hb.block P h.lt).trans h
theorem WBox.cell (h : WBox w P t ws) (i : Nat) (hi : i < ws.length) : w.cell? ⟨P, i, none⟩ = some (.int .u32 (u (ws.getD i 0))) := by
  rw [cell_of_row w P i _ _ _ h]
  simp [List.getD_eq_getElem?_getD, hi, enc32]
theorem WBox.cells8 {a b c d e f g i : W32} (h : WBox w P t [a, b, c, d, e, f, g, i]) : w.cell? ⟨P, 0, none⟩ = some (.int .u32 (u a)) ∧ w.cell? ⟨P, 1, none⟩ = some (.int .u32 (u b)) ∧ w.cell? ⟨P, 2, none⟩ = some (.int .u32 (u c)) ∧ w.cell? ⟨P, 3, none⟩ = some (.int .u32 (u d)) ∧ w.cell? ⟨P, 4, none⟩ = some (.int .u32 (u e)) ∧ w.cell? ⟨P, 5, none⟩ = some (.int .u32 (u f)) ∧ w.cell? ⟨P, 6, none⟩ = some (.int .u32 (u g)) ∧ w.cell? ⟨P, 7, none⟩ = some (.int .u32 (u i)) :=
  ⟨h.cell 0 (by simp), h.cell 1 (by simp), h.cell 2 (by simp), h.cell 3 (by simp), h.cell 4 (by simp), h.cell 5 (by simp), h.cell 6 (by simp), h.cell 7 (by simp)⟩
theorem WBox.fz (h : WBox w P t ws) (o : Nat) : w.frozen? ⟨P, o, none⟩ = false := by
  unfold WBox at h; simp [World.frozen?, h]
theorem WBox.set (h : WBox w P t ws) (i : Nat) (x : W32) : WBox (w.setCell ⟨P, i, none⟩ (.int .u32 (u x))) P t (ws.set i x) := by
  have := heap_set_at w P i (.int .u32 (u x)) h
  unfold WBox
  rw [this]
  simp [List.map_set, enc32]
end
def fill64 (l : List W32) : List W32 := l ++ List.replicate (64 - l.length) 0
theorem fill64_length {l : List W32} (h : l.length ≤ 64) : (fill64 l).length = 64 := by
  unfold fill64; rw [List.length_append, List.length_replicate]; omega
theorem fill64_set {l : List W32} (h : l.length < 64) (x : W32) : (fill64 l).set l.length x = fill64 (l ++ [x]) := by
  unfold fill64
  obtain ⟨n, hn⟩ : ∃ n, 64 - l.length = n + 1 := ⟨63 - l.length, by omega⟩
  have h2 : 64 - (l ++ [x]).length = n := by rw [List.length_append, List.length_singleton]; omega
  rw [hn, h2, List.replicate_succ, List.set_append_right _ _ (Nat.le_refl _), Nat.sub_self, List.set_cons_zero, List.append_assoc]; rfl
theorem fill64_lt {l : List W32} {i : Nat} (h : i < l.length) : (fill64 l).getD i 0 = l.getD i 0 := by
  unfold fill64; exact getD_append_lt _ _ _ _ h
theorem fill64_ge {l : List W32} {i : Nat} (h : l.length ≤ i) : (fill64 l).getD i 0 = 0 := by
  unfold fill64
  rw [List.getD_eq_getElem?_getD, List.getElem?_append_right h]
  by_cases h2 : i - l.length < 64 - l.length
  · rw [List.getElem?_replicate, if_pos h2]; rfl
  · rw [List.getElem?_replicate, if_neg h2]; rfl
theorem byte_at {w : World} {S : Nat → Prop} {bA oA c : Nat} {l : List UInt8} (h : Sl w S (some ⟨bA, oA, none⟩) c l) (i : Nat) (hi : i < l.length) : w.cell? ⟨bA, oA + i, none⟩ = some (.int .u8 ((l.getD i 0).toNat : Int)) := by
  obtain ⟨b, o, e, _, _, hx⟩ := h.2.2 (by omega)
  cases e
  obtain ⟨es, he, hc⟩ := hx i hi
  have he' : es = [.int .u8 (l[i].toNat : Int)] := he
  subst he'
  have := hc 0 _ rfl
  rw [show Rep.size UInt8 = 1 from rfl, Nat.mul_one, Nat.add_zero] at this
  rw [this, List.getD_eq_getElem?_getD, List.getElem?_eq_getElem hi]; rfl
theorem getD_set_self {α : Type} (l : List α) (i : Nat) (x d : α) (h : i < l.length) : (l.set i x).getD i d = x := by
  rw [List.getD_eq_getElem?_getD, List.getElem?_set, if_pos rfl, if_pos h]; rfl
theorem getD_set_ne {α : Type} (l : List α) (i j : Nat) (x d : α) (h : i ≠ j) : (l.set i x).getD j d = l.getD j d := by
  rw [List.getD_eq_getElem?_getD, List.getElem?_set, if_neg h, List.getD_eq_getElem?_getD]
/-- What the walk through a block holds: the chaining values, the result, the words. -/
structure BS (w wr : World) (P R O : Nat) (hv ws : List W32) : Prop where
  eP : P = w.heap.size
  eR : R = w.heap.size + 1
  eO : O = w.heap.size + 2
  h : WBox wr P 96 hv
  r : WBox wr R 96 [0, 0, 0, 0, 0, 0, 0, 0]
  o : WBox wr O 139 ws
  b : Below w.heap.size w wr
theorem BS.to {w wr w' : World} {P R O : Nat} {hv ws : List W32} (h : BS w wr P R O hv ws) (hb : Below wr.heap.size wr w') : BS w w' P R O hv ws :=
  ⟨h.eP, h.eR, h.eO, h.h.to hb, h.r.to hb, h.o.to hb, h.b.trans (hb.mono h.b.size)⟩
theorem BS.setO {w wr : World} {P R O : Nat} {hv ws : List W32} (h : BS w wr P R O hv ws) (i : Nat) (x : W32) : BS w (wr.setCell ⟨O, i, none⟩ (.int .u32 (u x))) P R O hv (ws.set i x) := by
  have h1 := h.eP; have h2 := h.eR; have h3 := h.eO
  exact ⟨h1, h2, h3, (heap_set _ _ _ _ (by omega)).trans h.h, (heap_set _ _ _ _ (by omega)).trans h.r, h.o.set i x, h.b.setCell (p := ⟨O, i, none⟩) (by show w.heap.size ≤ O; omega) _⟩
theorem BS.setV {w wr : World} {P R O V : Nat} {hv ws : List W32} (h : BS w wr P R O hv ws) (hV : O < V) (i : Nat) (x : Value) : BS w (wr.setCell ⟨V, i, none⟩ x) P R O hv ws := by
  have h1 := h.eP; have h2 := h.eR; have h3 := h.eO
  exact ⟨h1, h2, h3, (heap_set _ _ _ _ (by omega)).trans h.h, (heap_set _ _ _ _ (by omega)).trans h.r, (heap_set _ _ _ _ (by omega)).trans h.o, h.b.setCell (p := ⟨V, i, none⟩) (by show w.heap.size ≤ V; omega) _⟩
theorem BS.setH {w wr : World} {P R O : Nat} {hv ws : List W32} (h : BS w wr P R O hv ws) (i : Nat) (x : W32) : BS w (wr.setCell ⟨P, i, none⟩ (.int .u32 (u x))) P R O (hv.set i x) ws := by
  have h1 := h.eP; have h2 := h.eR; have h3 := h.eO
  exact ⟨h1, h2, h3, h.h.set i x, (heap_set _ _ _ _ (by omega)).trans h.r, (heap_set _ _ _ _ (by omega)).trans h.o, h.b.setCell (p := ⟨P, i, none⟩) (by show w.heap.size ≤ P; omega) _⟩
/-- The sums so far. -/
def addTo (hv vs : List W32) : Nat → List W32
  | 0 => hv
  | k + 1 => (addTo hv vs k).set k (hv.getD k 0 + vs.getD k 0)
theorem addTo_length (hv vs : List W32) : ∀ k, (addTo hv vs k).length = hv.length
  | 0 => rfl
  | k + 1 => by rw [addTo, List.length_set, addTo_length hv vs k]
theorem addTo_ge (hv vs : List W32) (i : Nat) : ∀ k, k ≤ i → (addTo hv vs k).getD i 0 = hv.getD i 0
  | 0, _ => rfl
  | k + 1, h => by rw [addTo, getD_set_ne _ _ _ _ _ (by omega), addTo_ge hv vs i k (by omega)]
theorem addTo_8 {hv vs : List W32} (h : hv.length = 8) (h2 : vs.length = 8) : addTo hv vs 8 = List.zipWith (· + ·) hv vs := by
  match hv, h, vs, h2 with
  | [_, _, _, _, _, _, _, _], _, [_, _, _, _, _, _, _, _], _ => rfl
def part (b : List UInt8) (k : Nat) : Nat → W32
  | 0 => 0
  | j + 1 => put8 (part b k j) (b.getD (4 * k + j) 0)
theorem part4 (b : List UInt8) (k : Nat) : part b k 4 = word16 b k := rfl
theorem run_index64 (cs : Array Value) (k : Nat) (v : Value) (h : cs[k]? = some v) (hk : k < 64) (w : World) : (Instr.index 139 (.agg cs) (.int .i64 (k : Int))).run Tryd.prog w = .ok v w := by
  have h0 : (0 : Int) ≤ (k : Int) := by omega
  have hu := Tryd.underlying139
  have hu2 := Tryd.underlying95
  have hz : Tryd.t95.size = 1 := rfl
  have e : k * Tryd.t95.size = k := by rw [hz, Nat.mul_one]
  simp [Instr.index, run_underlying hu, asIntOf, go_sem, h0, hk, isAgg, run_underlying hu2, sizeOf, e, h]
set_option maxRecDepth 100000 in
set_option maxHeartbeats 4000000 in
theorem block_any (h0 h1 h2 h3 h4 h5 h6 h7 : W32) (b : List UInt8) (A : Option Addr) (c : Nat) (w : World) (hs : Sl w (fun b => b < w.heap.size) A c b) (h64 : 64 ≤ b.length) (hK : KLaid w) :
    Calls Tryd.prog 89 #[.agg #[enc32 h0, enc32 h1, enc32 h2, enc32 h3, enc32 h4, enc32 h5, enc32 h6, enc32 h7], .slice A b.length c] w fun e w' => e = .returned (.agg ((blk [h0, h1, h2, h3, h4, h5, h6, h7] b).map enc32).toArray) ∧ Below w.heap.size w w' := by
  unfold enc32
  have HS := Lib.hid hs
  have HK := Lib.hid hK
  clear hs hK
  have hq := h64
  obtain ⟨bA, oA, rfl, hbA, hbA2, hxA⟩ := HS.out.2.2 (by omega)
  have HS' : Hid (∀ wr, Below w.heap.size w wr → ∀ i, i < b.length → wr.cell? ⟨bA, oA + i, none⟩ = some (.int .u8 ((b.getD i 0).toNat : Int))) := Lib.hid (fun wr hb i hi => byte_at (HS.out.to hb) i hi)
  have hcap : b.length ≤ c := HS.out.1
  clear HS hbA hbA2 hq hxA
  go_enter Tryd.func89, Tryd.ntmps89
  go_wp2_with fail
  generalize hw1 : (World.alloc (World.alloc (World.alloc w _) _) _) = w1
  generalize hP : w.heap.size = P
  have HST : Hid (BS w w1 P (P + 1) (P + 2) [h0, h1, h2, h3, h4, h5, h6, h7] (fill64 (sched b 0))) := by
    subst hw1 hP
    exact Lib.hid ⟨rfl, rfl, rfl, (Below.heap_alloc _ _ _ (by first | (simp; done) | (simp; omega))).trans ((Below.heap_alloc _ _ _ (by simp)).trans (heap_at rfl)), (Below.heap_alloc _ _ _ (by first | (simp; done) | (simp; omega))).trans (heap_at (by simp)), heap_at (by simp), (((Below.refl _ _).alloc (Nat.le_refl _) _).alloc (by simp) _).alloc (by first | (simp; done) | (simp; omega)) _⟩
  have HP := Lib.hid hP
  clear hw1 hP
  have eO : P + 1 + 1 = P + 2 := by omega
  rw [eO]
  clear eO
  generalize P + 1 = R at *
  generalize P + 2 = O at *
  go_loopw [6, 8, 20] (fun _ _ i wr => ∃ k : Nat, k ≤ 16 ∧ i = .int .i64 k ∧ Hid (BS w wr P R O [h0, h1, h2, h3, h4, h5, h6, h7] (fill64 (sched b k))))
    (fun _ _ i _ => 16 - (intOf i).toNat)
  case atStart => exact ⟨0, by omega, rfl, HST⟩
  case round =>
    obtain ⟨k, hk, rfl, hst⟩ := hrel
    by_cases hlt : k < 16
    · have hlt2 : (k : Int) < 16 := by omega
      have hk0 : (0 : Int) ≤ (k : Int) := by omega
      have hm4 : IntKind.i64.wrap (4 * (k : Int)) = ((4 * k : Nat) : Int) := by rw [IntWalk.i64_in _ (by omega)]; omega
      have hm5 : IntKind.i64.wrap (((4 * k : Nat) : Int) + 4) = ((4 * k + 4 : Nat) : Int) := by rw [IntWalk.i64_in _ (by omega)]; omega
      have hle : 4 * k + 4 ≤ c := by omega
      have hle2 : 4 * k ≤ 4 * k + 4 := by omega
      have hln : 4 * k + 4 - 4 * k = 4 := by omega
      go_wp2_with fail
      obtain ⟨wo, rfl⟩ : ∃ wo : World, wo = wr := ⟨_, rfl⟩
      go_loopw [8, 31] (fun _ i wr => ∃ j : Nat, j ≤ 4 ∧ i = .int .i64 j ∧ Hid (BS w wr P R O [h0, h1, h2, h3, h4, h5, h6, h7] ((fill64 (sched b k)).set k (part b k j))))
        (fun _ i _ => 4 - (intOf i).toNat)
      case atStart =>
        refine ⟨0, by omega, rfl, ?_⟩
        have e : (fill64 (sched b k)).set k (part b k 0) = fill64 (sched b k) := by
          apply List.ext_getElem?
          intro i
          rw [List.getElem?_set]
          by_cases hi : k = i
          · subst hi
            have h1 := fill64_length (l := sched b k) (by rw [sched_length]; omega)
            have h2 := fill64_ge (l := sched b k) (i := k) (by rw [sched_length]; omega)
            rw [if_pos rfl, if_pos (by omega), List.getElem?_eq_getElem (by omega)]
            rw [List.getD_eq_getElem?_getD, List.getElem?_eq_getElem (by omega)] at h2
            rw [Option.getD_some] at h2
            rw [h2]; rfl
          · rw [if_neg hi]
        rw [e]; exact hst
      case round =>
        obtain ⟨j, hj, rfl, hst2⟩ := hrel
        have hlen : k < ((fill64 (sched b k)).set k (part b k j)).length := by rw [List.length_set, fill64_length (by rw [sched_length]; omega)]; omega
        by_cases hjl : j < 4
        · have hj2 : (j : Int) < 4 := by omega
          have hj0 : (0 : Int) ≤ (j : Int) := by omega
          have hc1 := HS'.out wr hst2.out.b (4 * k + j) (by omega)
          rw [← Nat.add_assoc] at hc1
          have hc2 := hst2.out.o.cell k hlen
          rw [getD_set_self _ _ _ _ (by rw [List.length_set] at hlen; exact hlen)] at hc2
          have hf := hst2.out.o.fz
          have HQ : Hid (BS w (wr.setCell ⟨O, k, none⟩ (.int .u32 (u (part b k (j + 1))))) P R O [h0, h1, h2, h3, h4, h5, h6, h7] ((fill64 (sched b k)).set k (part b k (j + 1)))) := Lib.hid (by have := hst2.out.setO k (part b k (j + 1)); rwa [List.set_set] at this)
          have q1 := u_shl8 (part b k j)
          have q2 := u_put8 (part b k j) (b.getD (4 * k + j) 0)
          have q3 := wrap_byte (b.getD (4 * k + j) 0)
          rw [show put8 (part b k j) (b.getD (4 * k + j) 0) = part b k (j + 1) from rfl] at q2
          generalize hy : part b k (j + 1) = y at *
          have HYE := Lib.hid hy
          clear hy
          generalize u ((part b k j) <<< 8) = z at *
          generalize b.getD (4 * k + j) 0 = cc at *
          generalize u (part b k j) = x at *
          have q4 : IntKind.i64.wrap ((j : Int) + 1) = ((j + 1 : Nat) : Int) := by rw [IntWalk.i64_in _ (by omega)]; omega
          clear hlen hst2
          go_wp2_with fail
          refine ⟨⟨j + 1, by omega, by simp, by rw [HYE.out]; exact HQ⟩, by simp [intOf]; omega⟩
        · obtain rfl : j = 4 := by omega
          have HQ : Hid (BS w wr P R O [h0, h1, h2, h3, h4, h5, h6, h7] (fill64 (sched b (k + 1)))) := Lib.hid (by
            have h1 := hst2.out
            have h2 := fill64_set (l := sched b k) (by rw [sched_length]; omega) (part b k 4)
            rw [sched_length] at h2
            rw [h2] at h1
            rw [sched, if_pos hlt, ← part4]; exact h1)
          clear hst2 hlen
          go_wp2_with fail
          refine ⟨⟨k + 1, by omega, by simp, HQ⟩, by simp [intOf]; omega⟩
    · obtain rfl : k = 16 := by omega
      have HS16 := Lib.hid hst.out
      clear hst
      go_wp2_with fail
      go_loopw [9, 10, 11] (fun i _ _ wr => ∃ k : Nat, 16 ≤ k ∧ k ≤ 64 ∧ i = .int .i64 k ∧ Hid (BS w wr P R O [h0, h1, h2, h3, h4, h5, h6, h7] (fill64 (sched b k))))
        (fun i _ _ _ => 64 - (intOf i).toNat)
      case atStart => exact ⟨16, by omega, by omega, rfl, HS16⟩
      case round =>
        obtain ⟨k, hk1, hk2, rfl, hst⟩ := hrel
        by_cases hlt : k < 64
        · have hlt2 : (k : Int) < 64 := by omega
          have hk0 : (0 : Int) ≤ (k : Int) := by omega
          have hlen := Lib.hid (fill64_length (l := sched b k) (by rw [sched_length]; omega))
          have hsl := sched_length b k
          have HC : Hid (∀ w', BS w w' P R O [h0, h1, h2, h3, h4, h5, h6, h7] (fill64 (sched b k)) → w'.cell? ⟨O, k - 15, none⟩ = some (.int .u32 (u ((sched b k).getD (k - 15) 0))) ∧ w'.cell? ⟨O, k - 2, none⟩ = some (.int .u32 (u ((sched b k).getD (k - 2) 0))) ∧ w'.cell? ⟨O, k - 16, none⟩ = some (.int .u32 (u ((sched b k).getD (k - 16) 0))) ∧ w'.cell? ⟨O, k, none⟩ = some (.int .u32 (u 0))) := Lib.hid (fun w' h =>
            ⟨by rw [← fill64_lt (by omega)]; exact h.o.cell _ (by rw [hlen.out]; omega), by rw [← fill64_lt (by omega)]; exact h.o.cell _ (by rw [hlen.out]; omega), by rw [← fill64_lt (by omega)]; exact h.o.cell _ (by rw [hlen.out]; omega), by rw [← fill64_ge (l := sched b k) (i := k) (by omega)]; exact h.o.cell _ (by rw [hlen.out]; omega)⟩)
          have HD : Hid (∀ w' y, BS w w' P R O [h0, h1, h2, h3, h4, h5, h6, h7] ((fill64 (sched b k)).set k y) → w'.cell? ⟨O, k, none⟩ = some (.int .u32 (u y)) ∧ w'.cell? ⟨O, k - 7, none⟩ = some (.int .u32 (u ((sched b k).getD (k - 7) 0)))) := Lib.hid (fun w' y h => by
            have c1 := h.o.cell k (by rw [List.length_set, hlen.out]; omega)
            have c2 := h.o.cell (k - 7) (by rw [List.length_set, hlen.out]; omega)
            rw [getD_set_self _ _ _ _ (by rw [hlen.out]; omega)] at c1
            rw [getD_set_ne _ _ _ _ _ (by omega), fill64_lt (by omega)] at c2
            exact ⟨c1, c2⟩)
          have HE : Hid (∀ w' y, nextW (sched b k) k = y → BS w w' P R O [h0, h1, h2, h3, h4, h5, h6, h7] ((fill64 (sched b k)).set k y) → BS w w' P R O [h0, h1, h2, h3, h4, h5, h6, h7] (fill64 (sched b (k + 1)))) := Lib.hid (fun w' y hy h => by
            have h2 := fill64_set (l := sched b k) (by omega) y
            rw [hsl] at h2
            rw [h2] at h
            rw [sched, if_neg (by omega), hy]; exact h)
          clear hsl
          have hi15 : (k : Int) - 15 = ((k - 15 : Nat) : Int) := by omega
          have hi2 : (k : Int) - 2 = ((k - 2 : Nat) : Int) := by omega
          have hw15 : IntKind.i64.wrap ((k : Int) - 15) = ((k - 15 : Nat) : Int) := by rw [IntWalk.i64_in _ (by omega)]; omega
          have hw2 : IntKind.i64.wrap ((k : Int) - 2) = ((k - 2 : Nat) : Int) := by rw [IntWalk.i64_in _ (by omega)]; omega
          have hl15 : ((k - 15 : Nat) : Int) < 64 := by omega
          have hl2 : ((k - 2 : Nat) : Int) < 64 := by omega
          have hi16 : (k : Int) - 16 = ((k - 16 : Nat) : Int) := by omega
          have hi7 : (k : Int) - 7 = ((k - 7 : Nat) : Int) := by omega
          have hw16 : IntKind.i64.wrap ((k : Int) - 16) = ((k - 16 : Nat) : Int) := by rw [IntWalk.i64_in _ (by omega)]; omega
          have hw7 : IntKind.i64.wrap ((k : Int) - 7) = ((k - 7 : Nat) : Int) := by rw [IntWalk.i64_in _ (by omega)]; omega
          have hl16 : ((k - 16 : Nat) : Int) < 64 := by omega
          have hl7 : ((k - 7 : Nat) : Int) < 64 := by omega
          have hw1 : IntKind.i64.wrap ((k : Int) + 1) = ((k + 1 : Nat) : Int) := by rw [IntWalk.i64_in _ (by omega)]; omega
          have HX : Hid (nextW (sched b k) k = (sched b k).getD (k - 16) 0 + sg0 ((sched b k).getD (k - 15) 0) + ((sched b k).getD (k - 7) 0 + sg1 ((sched b k).getD (k - 2) 0))) := Lib.hid rfl
          generalize (sched b k).getD (k - 15) 0 = x15 at *
          generalize (sched b k).getD (k - 2) 0 = x2 at *
          generalize (sched b k).getD (k - 16) 0 = x16 at *
          generalize (sched b k).getD (k - 7) 0 = x7 at *
          generalize k - 15 = k15 at *
          generalize k - 2 = k2 at *
          generalize k - 16 = k16 at *
          generalize k - 7 = k7 at *
          obtain ⟨hc15, hc2, _⟩ := HC.out wr hst.out
          go_wp2_with fail
          go_quiet (fail)
          have HST2 := Lib.hid (hst.out.to (Below.dn (Below.refl wr.heap.size wr) nq))
          generalize wr.drewN nq = wd at *
          clear hc15 hc2 hst
          have R7 := Lib.hid (fun W => rotl_any x15 7 (-7) rfl (by omega) (by omega) W)
          have R18 := Lib.hid (fun W => rotl_any x15 18 (-18) rfl (by omega) (by omega) W)
          have R17 := Lib.hid (fun W => rotl_any x2 17 (-17) rfl (by omega) (by omega) W)
          have R19 := Lib.hid (fun W => rotl_any x2 19 (-19) rfl (by omega) (by omega) W)
          unfold Exit.then
          go_wp2_with fail
          refine wp_region_tail rfl (by kernel_rfl) (by kernel_rfl) ?_
          intro T5 hT5 f hf hg
          have a0 : ∀ d, (f d).cell? ⟨O, k16, none⟩ = some (.int .u32 (u x16)) := fun d => (HC.out _ (HST2.out.to (hf d))).2.2.1
          have a3 : ∀ d, (f d).cell? ⟨O, k, none⟩ = some (.int .u32 (u 0)) := fun d => (HC.out _ (HST2.out.to (hf d))).2.2.2
          have a1 : ∀ d o, (f d).frozen? ⟨O, o, none⟩ = false := fun d => (HST2.out.to (hf d)).o.fz
          have HF5 := Lib.hid hf
          clear hf hg
          dsimp only [List.dropLast]
          have q1 := u_xor (rotr x15 7) (rotr x15 18)
          have q2 := u_shr3 x15
          have q3 := u_xor (rotr x15 7 ^^^ rotr x15 18) (x15 >>> 3)
          rw [show rotr x15 7 ^^^ rotr x15 18 ^^^ x15 >>> 3 = sg0 x15 from rfl] at q3
          have q4 := u_addm x16 (sg0 x15)
          generalize x16 + sg0 x15 = y1 at *
          generalize sg0 x15 = y2 at *
          generalize (rotr x15 7 ^^^ rotr x15 18) = y3 at *
          generalize x15 >>> 3 = y4 at *
          repeat (go_big_quiet_step (first
            | (go_at_call 100; with_reducible refine Calls.mono (R7.out _) ?_; rintro e w6 ⟨rfl, rfl⟩; exact ⟨rfl, _, rfl⟩)
            | (go_at_call 100; with_reducible refine Calls.mono (R18.out _) ?_; rintro e w6 ⟨rfl, rfl⟩; exact ⟨rfl, _, rfl⟩)))
          refine wpQuiet_nil ?_
          rintro _ ⟨nq, rfl⟩
          refine ⟨rfl, ?_⟩
          have HST3 := Lib.hid ((HST2.out.to (HF5.out nq)).setO k y1)
          have a2 := a1 nq
          have a4 := a3 nq
          clear HF5 a0 a1 a3 HST2 R7 R18
          generalize f nq = wd2 at *
          go_simp
          clear q1 q2 q3 q4 a2 a4
          generalize wd2.setCell ⟨O, k, none⟩ (.int .u32 (u y1)) = wd3 at *
          go_wp2_with fail
          refine wp_region_tail rfl (by kernel_rfl) (by kernel_rfl) ?_
          intro T6 hT6 f hf hg
          have a0 : ∀ d, (f d).cell? ⟨O, k, none⟩ = some (.int .u32 (u y1)) := fun d => (HD.out _ _ (HST3.out.to (hf d))).1
          have a1 : ∀ d o, (f d).frozen? ⟨O, o, none⟩ = false := fun d => (HST3.out.to (hf d)).o.fz
          have a3 : ∀ d, (f d).cell? ⟨O, k7, none⟩ = some (.int .u32 (u x7)) := fun d => (HD.out _ _ (HST3.out.to (hf d))).2
          have HF5 := Lib.hid hf
          clear hf hg
          dsimp only [List.dropLast]
          have q1 := u_xor (rotr x2 17) (rotr x2 19)
          have q2 := u_shr10 x2
          have q3 := u_xor (rotr x2 17 ^^^ rotr x2 19) (x2 >>> 10)
          rw [show rotr x2 17 ^^^ rotr x2 19 ^^^ x2 >>> 10 = sg1 x2 from rfl] at q3
          have q4 := u_addm x7 (sg1 x2)
          have q5 := u_addm y1 (x7 + sg1 x2)
          generalize hz1 : y1 + (x7 + sg1 x2) = z1 at *
          generalize x7 + sg1 x2 = z5 at *
          generalize sg1 x2 = z2 at *
          generalize (rotr x2 17 ^^^ rotr x2 19) = z3 at *
          generalize x2 >>> 10 = z4 at *
          clear hz1
          repeat (go_big_quiet_step (first
            | (go_at_call 100; with_reducible refine Calls.mono (R17.out _) ?_; rintro e w6 ⟨rfl, rfl⟩; exact ⟨rfl, _, rfl⟩)
            | (go_at_call 100; with_reducible refine Calls.mono (R19.out _) ?_; rintro e w6 ⟨rfl, rfl⟩; exact ⟨rfl, _, rfl⟩)))
          refine wpQuiet_nil ?_
          rintro _ ⟨nq, rfl⟩
          refine ⟨rfl, ?_⟩
          have HST4 : Hid (BS w ((f nq).setCell ⟨O, k, none⟩ (.int .u32 (u z1))) P R O [h0, h1, h2, h3, h4, h5, h6, h7] (fill64 (sched b (k + 1)))) := Lib.hid (HE.out _ _ HX.out (by have h := (HST3.out.to (HF5.out nq)).setO k z1; rwa [List.set_set] at h))
          have a2 := a1 nq
          have a4 := a0 nq
          clear HF5 a0 a1 a3 HST3 R17 R19
          generalize f nq = wd4 at *
          go_simp
          clear q1 q2 q3 q4 q5 a2 a4
          generalize wd4.setCell ⟨O, k, none⟩ (.int .u32 (u z1)) = wd5 at *
          go_wp2_with fail
          go_roundw
          case rel => exact ⟨.int .i64 ((k : Int) + 1), _, _, _, _, _, _, _, _, _, _, _, _, _, _, _, _, _, _, _, _, _, _, _, _, _, _, _, _, _, _, _, _, _, _, _, _, _, _, _, _, _, _, _, _, _, _, _, ⟨k + 1, by omega, by omega, by go_num, HST4⟩, rfl⟩
          case measure => simp [intOf]; omega
        · obtain rfl : k = 64 := by omega
          have HS64 := Lib.hid hst.out
          clear hst
          obtain ⟨p0, p1, p2, p3, p4, p5, p6, p7⟩ := HS64.out.h.cells8
          obtain ⟨tK, frK, hK⟩ := (HK.out.to HS64.out.b).row
          go_upto_region 18 with (fail)
          have HV : Hid (WBox (wr.alloc (.cells #[.int .u32 (u h0), .int .u32 (u h1), .int .u32 (u h2), .int .u32 (u h3), .int .u32 (u h4), .int .u32 (u h5), .int .u32 (u h6), .int .u32 (u h7)] 96)) wr.heap.size 96 (rnds [h0, h1, h2, h3, h4, h5, h6, h7] (sched b 64) 0)) := Lib.hid (heap_alloc_new wr _)
          have hba := ((Below.refl wr.heap.size wr).alloc (Nat.le_refl _) (.cells #[.int .u32 (u h0), .int .u32 (u h1), .int .u32 (u h2), .int .u32 (u h3), .int .u32 (u h4), .int .u32 (u h5), .int .u32 (u h6), .int .u32 (u h7)] 96))
          have HSV := Lib.hid (HS64.out.to hba)
          have HVO : Hid (O < wr.heap.size) := Lib.hid HS64.out.o.lt
          have hK2 := (hba.block _ (Array.getElem?_eq_some_iff.1 hK).1).trans hK
          clear hba hK p0 p1 p2 p3 p4 p5 p6 p7 HS64 HS16
          generalize (wr.alloc (.cells #[.int .u32 (u h0), .int .u32 (u h1), .int .u32 (u h2), .int .u32 (u h3), .int .u32 (u h4), .int .u32 (u h5), .int .u32 (u h6), .int .u32 (u h7)] 96)) = wa at *
          generalize wr.heap.size = V at *
          have HKS := Lib.hid KS_at
          have HKZ : Hid ((KS.map fun k : Nat => Value.int .u32 (k : Int)).toArray.size = 64) := Lib.hid rfl
          generalize (KS.map fun k : Nat => Value.int .u32 (k : Int)).toArray = kc at *
          go_wp2_with (first | (refine wpList_load_row rfl 139 (.global 0) rfl 0 rfl tK kc frK _ hK2 Tryd.underlying139 rfl (by rw [HKZ.out]; kernel_rfl) ?_) | fail)
          have HV2 : Hid (∀ w' k, BS w w' P R O [h0, h1, h2, h3, h4, h5, h6, h7] (fill64 (sched b 64)) → k < 64 → w'.cell? ⟨O, k, none⟩ = some (.int .u32 (u ((sched b 64).getD k 0)))) := Lib.hid (fun w' k h hk => by
            rw [← fill64_lt (by rw [sched_length]; omega)]; exact h.o.cell _ (by rw [fill64_length (by rw [sched_length]; omega)]; omega))
          have HRL := Lib.hid (fun k => rnds_length (h := [h0, h1, h2, h3, h4, h5, h6, h7]) rfl (sched b 64) k)
          generalize hws : sched b 64 = ws at *
          have HWS := Lib.hid hws
          clear hws hK2
          go_loopw [13, 14, 15, 16, 17, 18, 93] (fun _ _ _ _ _ _ i wr => ∃ k : Nat, k ≤ 64 ∧ i = .int .i64 k ∧ Hid (BS w wr P R O [h0, h1, h2, h3, h4, h5, h6, h7] (fill64 ws)) ∧ Hid (WBox wr V 96 (rnds [h0, h1, h2, h3, h4, h5, h6, h7] ws k)))
            (fun _ _ _ _ _ _ i _ => 64 - (intOf i).toNat)
          case atStart => exact ⟨0, by omega, rfl, HSV, HV⟩
          case round =>
            obtain ⟨k, hk, rfl, hst, hv⟩ := hrel
            by_cases hlt : k < 64
            · have hlt2 : (k : Int) < 64 := by omega
              have hk0 : (0 : Int) ≤ (k : Int) := by omega
              have hkc := HKS.out k hlt
              have HRN : Hid (rnds [h0, h1, h2, h3, h4, h5, h6, h7] ws (k + 1) = rnd (rnds [h0, h1, h2, h3, h4, h5, h6, h7] ws k) (BitVec.ofNat 32 (KS.getD k 0)) (ws.getD k 0)) := Lib.hid rfl
              have HWK : Hid (∀ w', BS w w' P R O [h0, h1, h2, h3, h4, h5, h6, h7] (fill64 ws) → w'.cell? ⟨O, k, none⟩ = some (.int .u32 (u (ws.getD k 0)))) := Lib.hid (fun w' h => HV2.out w' k h hlt)
              obtain ⟨a8, b8, c8, d8, e8, f8, g8, h8, hr8⟩ : ∃ a b c d e f g h, rnds [h0, h1, h2, h3, h4, h5, h6, h7] ws k = [a, b, c, d, e, f, g, h] := by
                have hl := HRL.out k
                match rnds [h0, h1, h2, h3, h4, h5, h6, h7] ws k, hl with
                | [a, b, c, d, e, f, g, h], _ => exact ⟨a, b, c, d, e, f, g, h, rfl⟩
              rw [hr8] at hv HRN
              clear hr8
              generalize hr9 : rnds [h0, h1, h2, h3, h4, h5, h6, h7] ws (k + 1) = r9 at *
              have HR9E := Lib.hid hr9
              clear hr9
              generalize BitVec.ofNat 32 (KS.getD k 0) = kk at *
              generalize ws.getD k 0 = wk at *
              obtain ⟨v0, v1, v2, v3, v4, v5, v6, v7⟩ := hv.out.cells8
              have hix := run_index64 kc k _ hkc hlt
              clear hkc
              go_wp2_with fail
              go_quiet (fail)
              have hst2 := Lib.hid (hst.out.to (Below.dn (Below.refl wr.heap.size wr) nq))
              have hv2 := Lib.hid (hv.out.to (Below.dn (Below.refl wr.heap.size wr) nq))
              clear hst hv v0 v1 v2 v3 v4 v5 v6 v7 hix
              generalize wr.drewN nq = wd at *
              have E6 := Lib.hid (fun W => rotl_any e8 6 (-6) rfl (by omega) (by omega) W)
              have E11 := Lib.hid (fun W => rotl_any e8 11 (-11) rfl (by omega) (by omega) W)
              have E25 := Lib.hid (fun W => rotl_any e8 25 (-25) rfl (by omega) (by omega) W)
              have A2 := Lib.hid (fun W => rotl_any a8 2 (-2) rfl (by omega) (by omega) W)
              have A13 := Lib.hid (fun W => rotl_any a8 13 (-13) rfl (by omega) (by omega) W)
              have A22 := Lib.hid (fun W => rotl_any a8 22 (-22) rfl (by omega) (by omega) W)
              have HR9 : Hid (r9 = [h8 + bg1 e8 + chW e8 f8 g8 + kk + wk + (bg0 a8 + majW a8 b8 c8), a8, b8, c8, d8 + (h8 + bg1 e8 + chW e8 f8 g8 + kk + wk), e8, f8, g8]) := Lib.hid HRN.out
              clear HRN
              unfold Exit.then
              go_wp2_with fail
              refine wp_region_calm (by kernel_rfl) (by kernel_rfl) ?_
              intro T5 hT5 f hf hg
              have v5 : ∀ d, (f d).cell? ⟨V, 5, none⟩ = some (.int .u32 (u f8)) := fun d => (hv2.out.to (hf d)).cells8.2.2.2.2.2.1
              have v6 : ∀ d, (f d).cell? ⟨V, 6, none⟩ = some (.int .u32 (u g8)) := fun d => (hv2.out.to (hf d)).cells8.2.2.2.2.2.2.1
              have v7 : ∀ d, (f d).cell? ⟨V, 7, none⟩ = some (.int .u32 (u h8)) := fun d => (hv2.out.to (hf d)).cells8.2.2.2.2.2.2.2
              have vk : ∀ d, (f d).cell? ⟨O, k, none⟩ = some (.int .u32 (u wk)) := fun d => HWK.out _ (hst2.out.to (hf d))
              have HF5 := Lib.hid hf
              clear hf hg
              have q1 := u_xor (rotr e8 6) (rotr e8 11)
              have q2 := u_xor (rotr e8 6 ^^^ rotr e8 11) (rotr e8 25)
              rw [show rotr e8 6 ^^^ rotr e8 11 ^^^ rotr e8 25 = bg1 e8 from rfl] at q2
              have q3 := u_addm h8 (bg1 e8)
              have q4 := u_xor f8 g8
              have q5 := u_and e8 (f8 ^^^ g8)
              have q6 := u_xor g8 (e8 &&& (f8 ^^^ g8))
              rw [show g8 ^^^ (e8 &&& (f8 ^^^ g8)) = chW e8 f8 g8 from rfl] at q6
              have q7 := u_addm (h8 + bg1 e8) (chW e8 f8 g8)
              have q8 := u_addm (h8 + bg1 e8 + chW e8 f8 g8) kk
              have q9 := u_addm (h8 + bg1 e8 + chW e8 f8 g8 + kk) wk
              generalize h8 + bg1 e8 + chW e8 f8 g8 + kk + wk = one at *
              generalize h8 + bg1 e8 + chW e8 f8 g8 + kk = y1 at *
              generalize h8 + bg1 e8 + chW e8 f8 g8 = y2 at *
              generalize h8 + bg1 e8 = y3 at *
              generalize chW e8 f8 g8 = y4 at *
              generalize e8 &&& (f8 ^^^ g8) = y5 at *
              generalize f8 ^^^ g8 = y6 at *
              generalize bg1 e8 = y7 at *
              generalize rotr e8 6 ^^^ rotr e8 11 = y8 at *
              repeat (go_big_quiet_step (first
                | (go_at_call 100; with_reducible refine Calls.mono (E6.out _) ?_; rintro e w6 ⟨rfl, rfl⟩; exact ⟨rfl, _, rfl⟩)
                | (go_at_call 100; with_reducible refine Calls.mono (E11.out _) ?_; rintro e w6 ⟨rfl, rfl⟩; exact ⟨rfl, _, rfl⟩)
                | (go_at_call 100; with_reducible refine Calls.mono (E25.out _) ?_; rintro e w6 ⟨rfl, rfl⟩; exact ⟨rfl, _, rfl⟩)))
              refine wpQuiet_nil ?_
              rintro _ ⟨nq, rfl⟩
              rw [q9]
              have hst3 := Lib.hid (hst2.out.to (HF5.out nq))
              have hv3 := Lib.hid (hv2.out.to (HF5.out nq))
              clear HF5 v5 v6 v7 vk hst2 hv2 q1 q2 q3 q4 q5 q6 q7 q8 q9 E6 E11 E25
              generalize f nq = wd1 at *
              unfold Exit.then
              go_wp2_with fail
              refine wp_region_calm (by kernel_rfl) (by kernel_rfl) ?_
              intro T6 hT6 f hf hg
              have v1 : ∀ d, (f d).cell? ⟨V, 1, none⟩ = some (.int .u32 (u b8)) := fun d => (hv3.out.to (hf d)).cells8.2.1
              have v2 : ∀ d, (f d).cell? ⟨V, 2, none⟩ = some (.int .u32 (u c8)) := fun d => (hv3.out.to (hf d)).cells8.2.2.1
              have HF5 := Lib.hid hf
              clear hf hg
              have q1 := u_xor (rotr a8 2) (rotr a8 13)
              have q2 := u_xor (rotr a8 2 ^^^ rotr a8 13) (rotr a8 22)
              rw [show rotr a8 2 ^^^ rotr a8 13 ^^^ rotr a8 22 = bg0 a8 from rfl] at q2
              have q3 := u_and a8 b8
              have q4 := u_or a8 b8
              have q5 := u_and c8 (a8 ||| b8)
              have q6 := u_or (a8 &&& b8) (c8 &&& (a8 ||| b8))
              rw [show (a8 &&& b8) ||| (c8 &&& (a8 ||| b8)) = majW a8 b8 c8 from rfl] at q6
              have q7 := u_addm (bg0 a8) (majW a8 b8 c8)
              generalize bg0 a8 + majW a8 b8 c8 = two at *
              generalize majW a8 b8 c8 = z1 at *
              generalize c8 &&& (a8 ||| b8) = z2 at *
              generalize a8 ||| b8 = z3 at *
              generalize a8 &&& b8 = z4 at *
              generalize bg0 a8 = z5 at *
              generalize rotr a8 2 ^^^ rotr a8 13 = z6 at *
              repeat (go_big_quiet_step (first
                | (go_at_call 100; with_reducible refine Calls.mono (A2.out _) ?_; rintro e w6 ⟨rfl, rfl⟩; exact ⟨rfl, _, rfl⟩)
                | (go_at_call 100; with_reducible refine Calls.mono (A13.out _) ?_; rintro e w6 ⟨rfl, rfl⟩; exact ⟨rfl, _, rfl⟩)
                | (go_at_call 100; with_reducible refine Calls.mono (A22.out _) ?_; rintro e w6 ⟨rfl, rfl⟩; exact ⟨rfl, _, rfl⟩)))
              refine wpQuiet_nil ?_
              rintro _ ⟨nq, rfl⟩
              rw [q7]
              have hst4 := Lib.hid (hst3.out.to (HF5.out nq))
              have hv4 := Lib.hid (hv3.out.to (HF5.out nq))
              clear HF5 v1 v2 hst3 hv3 q1 q2 q3 q4 q5 q6 q7 A2 A13 A22
              generalize f nq = wd2 at *
              unfold Exit.then
              obtain ⟨v0, v1, v2, v3, v4, v5, v6, v7⟩ := hv4.out.cells8
              have hf := hv4.out.fz
              have q1 := u_addm one two
              have q2 := u_addm d8 one
              generalize one + two = x1 at *
              generalize d8 + one = x2 at *
              have hsto : Hid (BS w ((((((((wd2.setCell ⟨V, 0, none⟩ (.int .u32 (u x1))).setCell ⟨V, 1, none⟩ (.int .u32 (u a8))).setCell ⟨V, 2, none⟩ (.int .u32 (u b8))).setCell ⟨V, 3, none⟩ (.int .u32 (u c8))).setCell ⟨V, 4, none⟩ (.int .u32 (u x2))).setCell ⟨V, 5, none⟩ (.int .u32 (u e8))).setCell ⟨V, 6, none⟩ (.int .u32 (u f8))).setCell ⟨V, 7, none⟩ (.int .u32 (u g8))) P R O [h0, h1, h2, h3, h4, h5, h6, h7] (fill64 ws)) :=
                Lib.hid ((((((((hst4.out.setV HVO.out 0 _).setV HVO.out 1 _).setV HVO.out 2 _).setV HVO.out 3 _).setV HVO.out 4 _).setV HVO.out 5 _).setV HVO.out 6 _).setV HVO.out 7 _)
              have hvo : Hid (WBox ((((((((wd2.setCell ⟨V, 0, none⟩ (.int .u32 (u x1))).setCell ⟨V, 1, none⟩ (.int .u32 (u a8))).setCell ⟨V, 2, none⟩ (.int .u32 (u b8))).setCell ⟨V, 3, none⟩ (.int .u32 (u c8))).setCell ⟨V, 4, none⟩ (.int .u32 (u x2))).setCell ⟨V, 5, none⟩ (.int .u32 (u e8))).setCell ⟨V, 6, none⟩ (.int .u32 (u f8))).setCell ⟨V, 7, none⟩ (.int .u32 (u g8))) V 96 r9) := by
                have h := (((((((hv4.out.set 0 x1).set 1 a8).set 2 b8).set 3 c8).set 4 x2).set 5 e8).set 6 f8).set 7 g8
                rw [HR9.out]; exact Lib.hid h
              clear hst4 hv4 HR9
              go_wp2_with fail
              refine ⟨⟨k + 1, by omega, by simp, hsto, by rw [HR9E.out]; exact hvo⟩, by simp [intOf]; omega⟩
            · obtain rfl : k = 64 := by omega
              have HBK : Hid (blk [h0, h1, h2, h3, h4, h5, h6, h7] b = addTo [h0, h1, h2, h3, h4, h5, h6, h7] (rnds [h0, h1, h2, h3, h4, h5, h6, h7] ws 64) 8) := Lib.hid (by rw [addTo_8 rfl (HRL.out 64), ← HWS.out]; rfl)
              have hrl := HRL.out 64
              generalize rnds [h0, h1, h2, h3, h4, h5, h6, h7] ws 64 = vs at *
              have HVL := Lib.hid hrl
              clear hrl
              have HST9 := Lib.hid hst.out
              have HV9 := Lib.hid hv.out
              clear hst hv HV HSV HWS HV2 HRL HKS
              go_wp2_with fail
              go_loopw [19, 169] (fun _ i wr => ∃ k : Nat, k ≤ 8 ∧ i = .int .i64 k ∧ Hid (BS w wr P R O (addTo [h0, h1, h2, h3, h4, h5, h6, h7] vs k) (fill64 ws)) ∧ Hid (WBox wr V 96 vs))
                (fun _ i _ => 8 - (intOf i).toNat)
              case atStart => exact ⟨0, by omega, rfl, HST9, HV9⟩
              case round =>
                obtain ⟨k, hk, rfl, hst, hv⟩ := hrel
                by_cases hlt : k < 8
                · have hlt2 : (k : Int) < 8 := by omega
                  have hk0 : (0 : Int) ≤ (k : Int) := by omega
                  have HQ1 : Hid (∀ w', BS w w' P R O (addTo [h0, h1, h2, h3, h4, h5, h6, h7] vs k) (fill64 ws) → w'.cell? ⟨P, k, none⟩ = some (.int .u32 (u ([h0, h1, h2, h3, h4, h5, h6, h7].getD k 0)))) := Lib.hid (fun w' h => by
                    rw [← addTo_ge _ vs k k (Nat.le_refl _)]; exact h.h.cell k (by rw [addTo_length]; exact hlt))
                  have HQ2 : Hid (∀ w', WBox w' V 96 vs → w'.cell? ⟨V, k, none⟩ = some (.int .u32 (u (vs.getD k 0)))) := Lib.hid (fun w' h => h.cell k (by rw [HVL.out]; exact hlt))
                  have HQ3 : Hid (addTo [h0, h1, h2, h3, h4, h5, h6, h7] vs (k + 1) = (addTo [h0, h1, h2, h3, h4, h5, h6, h7] vs k).set k ([h0, h1, h2, h3, h4, h5, h6, h7].getD k 0 + vs.getD k 0)) := Lib.hid rfl
                  generalize [h0, h1, h2, h3, h4, h5, h6, h7].getD k 0 = x at *
                  generalize vs.getD k 0 = y at *
                  go_wp2_with fail
                  refine wp_region_tail rfl (by kernel_rfl) (by kernel_rfl) ?_
                  intro T5 hT5 f hf hg
                  have a0 : ∀ d, (f d).cell? ⟨P, k, none⟩ = some (.int .u32 (u x)) := fun d => HQ1.out _ (hst.out.to (hf d))
                  have a1 : ∀ d, (f d).cell? ⟨V, k, none⟩ = some (.int .u32 (u y)) := fun d => HQ2.out _ (hv.out.to (hf d))
                  have a2 : ∀ d o, (f d).frozen? ⟨P, o, none⟩ = false := fun d => (hst.out.to (hf d)).h.fz
                  have HF5 := Lib.hid hf
                  have q1 := u_addm x y
                  clear hf hg
                  dsimp only [List.dropLast]
                  repeat (go_big_quiet_step (fail))
                  refine wpQuiet_nil ?_
                  rintro _ ⟨nq, rfl⟩
                  refine ⟨rfl, ?_⟩
                  have hst2 := Lib.hid ((hst.out.to (HF5.out nq)).setH k (x + y))
                  have hv2 : Hid (WBox ((f nq).setCell ⟨P, k, none⟩ (.int .u32 (u (x + y)))) V 96 vs) := Lib.hid ((heap_set _ _ _ _ (by have h1 := hst.out.eP; have h2 := hst.out.eO; have h3 := HVO.out; omega)).trans (hv.out.to (HF5.out nq)))
                  rw [← HQ3.out] at hst2
                  have a3 := a0 nq
                  have a4 := a2 nq
                  clear HF5 a0 a1 a2 hst hv HQ1 HQ2 HQ3
                  generalize f nq = wd at *
                  generalize x + y = z at *
                  go_simp
                  clear a3 a4 q1
                  generalize wd.setCell ⟨P, k, none⟩ (.int .u32 (u z)) = wd1 at *
                  go_wp2_with fail
                  go_roundw
                  case rel => first | exact ⟨k + 1, by omega, by go_num, hst2, hv2⟩ | exact ⟨_, .int .i64 ((k : Int) + 1), _, _, _, _, _, _, _, _, _, _, _, ⟨k + 1, by omega, by go_num, hst2, hv2⟩, rfl⟩
                  case measure => simp [intOf]; omega
                · obtain rfl : k = 8 := by omega
                  obtain ⟨a8, b8, c8, d8, e8, f8, g8, i8, hr8⟩ : ∃ a b c d e f g i, addTo [h0, h1, h2, h3, h4, h5, h6, h7] vs 8 = [a, b, c, d, e, f, g, i] := by
                    have hl := addTo_length [h0, h1, h2, h3, h4, h5, h6, h7] vs 8
                    match addTo [h0, h1, h2, h3, h4, h5, h6, h7] vs 8, hl with
                    | [a, b, c, d, e, f, g, i], _ => exact ⟨a, b, c, d, e, f, g, i, rfl⟩
                  rw [hr8] at hst HBK
                  clear hr8
                  have hst2 := Lib.hid hst.out
                  obtain ⟨v0, v1, v2, v3, v4, v5, v6, v7⟩ := hst.out.h.cells8
                  obtain ⟨r0, r1, r2, r3, r4, r5, r6, r7⟩ := hst.out.r.cells8
                  have hf := hst.out.r.fz
                  clear hst hv
                  go_wp2_with fail
                  have hle : w.heap.size ≤ R := by have := hst2.out.eR; omega
                  have hRR : Hid (WBox ((((((((wr.setCell ⟨R, 0, none⟩ (.int .u32 (u a8))).setCell ⟨R, 1, none⟩ (.int .u32 (u b8))).setCell ⟨R, 2, none⟩ (.int .u32 (u c8))).setCell ⟨R, 3, none⟩ (.int .u32 (u d8))).setCell ⟨R, 4, none⟩ (.int .u32 (u e8))).setCell ⟨R, 5, none⟩ (.int .u32 (u f8))).setCell ⟨R, 6, none⟩ (.int .u32 (u g8))).setCell ⟨R, 7, none⟩ (.int .u32 (u i8))) R 96 [a8, b8, c8, d8, e8, f8, g8, i8]) := Lib.hid ((((((((hst2.out.r.set 0 a8).set 1 b8).set 2 c8).set 3 d8).set 4 e8).set 5 f8).set 6 g8).set 7 i8)
                  have hBB : Hid (Below w.heap.size w ((((((((wr.setCell ⟨R, 0, none⟩ (.int .u32 (u a8))).setCell ⟨R, 1, none⟩ (.int .u32 (u b8))).setCell ⟨R, 2, none⟩ (.int .u32 (u c8))).setCell ⟨R, 3, none⟩ (.int .u32 (u d8))).setCell ⟨R, 4, none⟩ (.int .u32 (u e8))).setCell ⟨R, 5, none⟩ (.int .u32 (u f8))).setCell ⟨R, 6, none⟩ (.int .u32 (u g8))).setCell ⟨R, 7, none⟩ (.int .u32 (u i8)))) := Lib.hid ((((((((hst2.out.b.setCell (p := ⟨R, 0, none⟩) hle _).setCell (p := ⟨R, 1, none⟩) hle _).setCell (p := ⟨R, 2, none⟩) hle _).setCell (p := ⟨R, 3, none⟩) hle _).setCell (p := ⟨R, 4, none⟩) hle _).setCell (p := ⟨R, 5, none⟩) hle _).setCell (p := ⟨R, 6, none⟩) hle _).setCell (p := ⟨R, 7, none⟩) hle _)
                  generalize ((((((((wr.setCell ⟨R, 0, none⟩ (.int .u32 (u a8))).setCell ⟨R, 1, none⟩ (.int .u32 (u b8))).setCell ⟨R, 2, none⟩ (.int .u32 (u c8))).setCell ⟨R, 3, none⟩ (.int .u32 (u d8))).setCell ⟨R, 4, none⟩ (.int .u32 (u e8))).setCell ⟨R, 5, none⟩ (.int .u32 (u f8))).setCell ⟨R, 6, none⟩ (.int .u32 (u g8))).setCell ⟨R, 7, none⟩ (.int .u32 (u i8))) = wz at *
                  refine bodyPost_ret (v := .agg #[.int .u32 (u a8), .int .u32 (u b8), .int .u32 (u c8), .int .u32 (u d8), .int .u32 (u e8), .int .u32 (u f8), .int .u32 (u g8), .int .u32 (u i8)]) (results_cell_row Tryd.results89 _ _ R _ _ (0, 0) _ rfl hRR.out Tryd.underlying96 rfl (by kernel_rfl)) rfl ⟨?_, hBB.out⟩
                  rw [HBK.out]; rfl
end Go.Proofs.YthcklfelofpffaaDoor
