/- The base layer of this seat's proofs: how Go data (structs, slices of structs, nested slices) are held in the model's memory, as relations to plain data; what keeps them; slices that the call itself grows. Nothing here speaks of the program. -/
import Derived.WalkKit
import Derived.WalkSpells
import Derived.WalkLawsBesides
import Derived.Deep.AppendLies
import Derived.Deep.Draws
import Derived.Lib.Hide
namespace Go.Proofs.YthcklfelofpffaaDoor
open Go.RowKit

/-- Old blocks among S are as they were. -/
def Kept (S : Nat → Prop) (w w' : World) : Prop := ∀ i, S i → i < w.heap.size → w'.heap[i]? = w.heap[i]?

theorem Kept.cell {S : Nat → Prop} {w w' : World} (h : Kept S w w') {b o : Nat} {u : Value} (hb : S b) (hc : w.cell? ⟨b, o, none⟩ = some u) : w'.cell? ⟨b, o, none⟩ = some u :=
  (World.cell?_of_block (a := ⟨b, o, none⟩) (h b hb (World.block_lt_of_cell? w ⟨b, o, none⟩ hc))).trans hc
theorem Kept.below {B : Nat} {S : Nat → Prop} {w w' : World} (h : Below B w w') (hS : ∀ i, S i → i < B) : Kept S w w' := fun i hi _ => h.block i (hS i hi)
theorem Kept.all {S : Nat → Prop} {w w' : World} (h : Below w.heap.size w w') : Kept S w w' := fun i _ hl => h.block i hl
theorem Kept.grown {S : Nat → Prop} {w w' : World} {row : Option Nat} (h : w.grownBy w' row) (hS : ∀ i, S i → some i ≠ row) : Kept S w w' := fun i hi hl => h.block i hl (hS i hi)
theorem Kept.refl (S : Nat → Prop) (w : World) : Kept S w w := fun _ _ _ => rfl
theorem Kept.trans {S : Nat → Prop} {a b c : World} (h : Kept S a b) (k : Kept S b c) (hsz : a.heap.size ≤ b.heap.size) : Kept S a c := fun i hi hl => (k i hi (by omega)).trans (h i hi hl)
theorem Kept.mono {S S' : Nat → Prop} {w w' : World} (h : Kept S w w') (hS : ∀ i, S' i → S i) : Kept S' w w' := fun i hi hl => h i (hS i hi) hl

theorem Below.dn {B : Nat} {a w : World} (h : Below B a w) (n : Nat) : Below B a (w.drewN n) := ⟨h.os, h.tape, h.output, h.size, h.block⟩
theorem ret_int {k : IntKind} {a b : Int} (h : a = b) : Ending.returned (.int k a) = .returned (.int k b) := by rw [h]
theorem ret_bool {a b : Bool} (h : a = b) : Ending.returned (.bool a) = .returned (.bool b) := by rw [h]

theorem take_succ_eq {α : Type} {a b : List α} {k : Nat} (ha : k < a.length) (hb : k < b.length) (h : a.take k = b.take k) (e : a[k] = b[k]) : a.take (k + 1) = b.take (k + 1) := by
  rw [List.take_succ_eq_append_getElem ha, List.take_succ_eq_append_getElem hb, h, e]
theorem ne_at {α : Type} {a b : List α} {k : Nat} (ha : k < a.length) (hb : k < b.length) (e : a[k] ≠ b[k]) : a ≠ b := by
  rintro rfl; exact e rfl
theorem eq_all {α : Type} {a b : List α} {k : Nat} (ha : a.length ≤ k) (hb : b.length ≤ k) (h : a.take k = b.take k) : a = b := by
  rwa [List.take_of_length_le ha, List.take_of_length_le hb] at h

theorem heap_at {W : World} {o : Obj} {B : Nat} (h : W.heap.size = B) : (W.alloc o).heap[B]? = some o := by subst h; exact heap_alloc_new W o
theorem heap_at_dn {W : World} {o : Obj} {B n : Nat} (h : W.heap.size = B) : ((W.alloc o).drewN n).heap[B]? = some o := by subst h; exact heap_alloc_new W o
theorem heap_at_d {W : World} {o : Obj} {B : Nat} (h : W.heap.size = B) : ((W.alloc o).drew).heap[B]? = some o := by subst h; exact heap_alloc_new W o
/-- How a kind of data is held in cells. -/
class Rep (α : Type) where
  size : Nat
  R : World → (Nat → Prop) → List Value → α → Prop
  len : ∀ {w S cs a}, R w S cs a → cs.length = size
  one : ∀ {w S cs a}, R w S cs a → ∀ u ∈ cs, u.oneCell' = true
  keep : ∀ {w w' S cs a}, R w S cs a → Kept S w w' → R w' S cs a
  mono : ∀ {w S S' cs a}, R w S cs a → (∀ i, S i → i < w.heap.size → S' i) → R w S' cs a

/-- The slice (A, length of l, capacity c) reads as l; all memory that it needs lies in blocks of S. -/
def Sl {α : Type} [Rep α] (w : World) (S : Nat → Prop) (A : Option Addr) (c : Nat) (l : List α) : Prop :=
  l.length ≤ c ∧ c ≤ maxLen ∧ (0 < l.length → ∃ b o, A = some ⟨b, o, none⟩ ∧ S b ∧ b < w.heap.size ∧
    ∀ i, (h : i < l.length) → ∃ es, Rep.R w S es l[i] ∧ ∀ j u, es[j]? = some u → w.cell? ⟨b, o + i * Rep.size α + j, none⟩ = some u)

theorem Sl.keep {α : Type} [Rep α] {w w' : World} {S : Nat → Prop} {A : Option Addr} {c : Nat} {l : List α} (h : Sl w S A c l) (hk : Kept S w w') (hsz : w.heap.size ≤ w'.heap.size) : Sl w' S A c l := by
  refine ⟨h.1, h.2.1, fun hn => ?_⟩
  obtain ⟨b, o, e, hb, hlt, hx⟩ := h.2.2 hn
  refine ⟨b, o, e, hb, by omega, fun i hi => ?_⟩
  obtain ⟨es, hr, hc⟩ := hx i hi
  exact ⟨es, Rep.keep hr hk, fun j u hu => hk.cell hb (hc j u hu)⟩
theorem Sl.mono {α : Type} [Rep α] {w : World} {S S' : Nat → Prop} {A : Option Addr} {c : Nat} {l : List α} (h : Sl w S A c l) (hS : ∀ i, S i → i < w.heap.size → S' i) : Sl w S' A c l := by
  refine ⟨h.1, h.2.1, fun hn => ?_⟩
  obtain ⟨b, o, e, hb, hlt, hx⟩ := h.2.2 hn
  refine ⟨b, o, e, hS b hb hlt, hlt, fun i hi => ?_⟩
  obtain ⟨es, hr, hc⟩ := hx i hi
  exact ⟨es, Rep.mono hr hS, hc⟩
theorem Sl.nil {α : Type} [Rep α] (w : World) (S : Nat → Prop) (A : Option Addr) (c : Nat) (hc : c ≤ maxLen) : Sl w S A c ([] : List α) := ⟨by simp, hc, fun h => absurd h (by simp)⟩
/-- Element k: its cells. -/
theorem Sl.at_ {α : Type} [Rep α] {w : World} {S : Nat → Prop} {A : Option Addr} {c : Nat} {l : List α} (h : Sl w S A c l) {k : Nat} (hk : k < l.length) :
    ∃ b o es, A = some ⟨b, o, none⟩ ∧ S b ∧ b < w.heap.size ∧ Rep.R w S es l[k] ∧ ∀ j u, es[j]? = some u → w.cell? ⟨b, o + k * Rep.size α + j, none⟩ = some u := by
  obtain ⟨b, o, e, hb, hlt, hx⟩ := h.2.2 (by omega)
  obtain ⟨es, hr, hc⟩ := hx k hk
  exact ⟨b, o, es, e, hb, hlt, hr, hc⟩

theorem addr_add (b o k : Nat) : (⟨b, o, none⟩ : Addr).add k = ⟨b, o + k, none⟩ := by
  unfold Addr.add; split <;> simp_all

/-- The first k elements. -/
theorem Sl.take {α : Type} [Rep α] {w : World} {S : Nat → Prop} {A : Option Addr} {c : Nat} {l : List α} (h : Sl w S A c l) (k : Nat) (_hk : k ≤ l.length) : Sl w S A c (l.take k) := by
  refine ⟨by have := h.1; rw [List.length_take]; omega, h.2.1, fun hn => ?_⟩
  have hn' : 0 < l.length := by rw [List.length_take] at hn; omega
  obtain ⟨b, o, e, hb, hlt, hx⟩ := h.2.2 hn'
  refine ⟨b, o, e, hb, hlt, fun i hi => ?_⟩
  have hi' : i < l.length := by rw [List.length_take] at hi; omega
  obtain ⟨es, hr, hc⟩ := hx i hi'
  exact ⟨es, by rw [List.getElem_take]; exact hr, hc⟩
/-- The elements from k on, as the model cuts. -/
theorem Sl.drop {α : Type} [Rep α] {w : World} {S : Nat → Prop} {A : Option Addr} {c : Nat} {l : List α} (h : Sl w S A c l) (k : Nat) (hk : k ≤ l.length) :
    Sl w S (if c = k then A else A.map (·.add (k * Rep.size α))) (c - k) (l.drop k) := by
  refine ⟨by have := h.1; rw [List.length_drop]; omega, by have := h.2.1; omega, fun hn => ?_⟩
  rw [List.length_drop] at hn
  obtain ⟨b, o, rfl, hb, hlt, hx⟩ := h.2.2 (by omega)
  rw [if_neg (by have := h.1; omega)]
  refine ⟨b, o + k * Rep.size α, by simp [addr_add], hb, hlt, fun i hi => ?_⟩
  have hi' : k + i < l.length := by rw [List.length_drop] at hi; omega
  obtain ⟨es, hr, hc⟩ := hx (k + i) hi'
  refine ⟨es, by rw [List.getElem_drop]; exact hr, fun j u hu => ?_⟩
  have e := hc j u hu
  rwa [Nat.add_mul, ← Nat.add_assoc] at e

theorem Sl.alloc {α : Type} [Rep α] {w : World} {A : Option Addr} {c : Nat} {l : List α} (h : Sl w (fun b => b < w.heap.size) A c l) (o : Obj) : Sl (w.alloc o) (fun b => b < (w.alloc o).heap.size) A c l :=
  (h.keep (Kept.all ((Below.refl _ _).alloc (Nat.le_refl _) o)) (by simp)).mono fun i hi _ => by simp; omega
theorem Sl.to {α : Type} [Rep α] {w w' : World} {A : Option Addr} {c : Nat} {l : List α} (h : Sl w (fun b => b < w.heap.size) A c l) (hb : Below w.heap.size w w') : Sl w' (fun b => b < w'.heap.size) A c l :=
  (h.keep (Kept.all hb) hb.size).mono fun i hi _ => by have := hb.size; omega

theorem Sl.drew {α : Type} [Rep α] {w : World} {A : Option Addr} {c : Nat} {l : List α} (h : Sl w (fun b => b < w.heap.size) A c l) : Sl w.drew (fun b => b < w.drew.heap.size) A c l := h.to ((Below.refl _ _).drew)
theorem Sl.dn {α : Type} [Rep α] {w : World} {A : Option Addr} {c : Nat} {l : List α} (h : Sl w (fun b => b < w.heap.size) A c l) (n : Nat) : Sl (w.drewN n) (fun b => b < (w.drewN n).heap.size) A c l := h.to (Below.dn (Below.refl _ _) n)

/-- A literal's block as a slice. -/
theorem Sl.block {α : Type} [Rep α] {w : World} {B : Nat} {cs : Array Value} {te : TypeId} {fr : Nat × Nat} {l : List α} {S : Nat → Prop} (hB : w.heap[B]? = some (.cells cs te fr)) (hS : S B) (hm : l.length ≤ maxLen)
    (hr : ∀ i, (h : i < l.length) → Rep.R w S ((cs.toList.drop (i * Rep.size α)).take (Rep.size α)) l[i]) : Sl w S (some ⟨B, 0, none⟩) l.length l := by
  refine ⟨Nat.le_refl _, hm, fun _ => ⟨B, 0, rfl, hS, (Array.getElem?_eq_some_iff.1 hB).1, fun i hi => ⟨_, hr i hi, fun j u hu => ?_⟩⟩⟩
  rw [Nat.zero_add, cell_of_row w B _ cs te fr hB]
  rw [List.getElem?_take] at hu
  split at hu
  · rw [List.getElem?_drop] at hu; simpa using hu
  · cases hu

/-- A slice as data. -/
instance instRepList {α : Type} [Rep α] : Rep (List α) where
  size := 1
  R w S cs l := ∃ A c, cs = [.slice A l.length c] ∧ Sl w S A c l ∧ l.length < 9223372036854775808
  len := by rintro w S cs l ⟨A, c, rfl, _⟩; rfl
  one := by rintro w S cs l ⟨A, c, rfl, _⟩ u hu; simp at hu; subst hu; rfl
  keep := by
    rintro w w' S cs l ⟨A, c, rfl, h, hl⟩ hk
    refine ⟨A, c, rfl, ?_, hl⟩
    refine ⟨h.1, h.2.1, fun hn => ?_⟩
    obtain ⟨b, o, e, hb, hlt, hx⟩ := h.2.2 hn
    have hlt' : b < w'.heap.size := by
      have e1 := hk b hb hlt
      rw [Array.getElem?_eq_getElem hlt] at e1
      exact (Array.getElem?_eq_some_iff.1 e1).1
    refine ⟨b, o, e, hb, hlt', fun i hi => ?_⟩
    obtain ⟨es, hr, hc⟩ := hx i hi
    exact ⟨es, Rep.keep hr hk, fun j u hu => hk.cell hb (hc j u hu)⟩
  mono := by rintro w S S' cs l ⟨A, c, rfl, h, hl⟩ hS; exact ⟨A, c, rfl, h.mono hS, hl⟩

/-- The list's cells in one row. -/
theorem Sl.flat {α : Type} [Rep α] {w : World} {S : Nat → Prop} {A : Option Addr} {c : Nat} {l : List α} (h : Sl w S A c l) (hn : 0 < l.length) :
    ∃ (b o : Nat) (xs : List Value), A = some ⟨b, o, none⟩ ∧ S b ∧ b < w.heap.size ∧ xs.length = l.length * Rep.size α ∧ (∀ u ∈ xs, u.oneCell' = true) ∧ (∀ j u, xs[j]? = some u → w.cell? ⟨b, o + j, none⟩ = some u) ∧
      ∀ i, (h : i < l.length) → Rep.R w S ((xs.drop (i * Rep.size α)).take (Rep.size α)) l[i] := by
  obtain ⟨b, o, rfl, hb, hlt, hx⟩ := h.2.2 hn
  clear h
  refine ⟨b, o, ?_⟩
  suffices H : ∀ k, k ≤ l.length → ∃ xs : List Value, xs.length = k * Rep.size α ∧ (∀ u ∈ xs, u.oneCell' = true) ∧ (∀ j u, xs[j]? = some u → w.cell? ⟨b, o + j, none⟩ = some u) ∧
      ∀ i, (h : i < k) → (h' : i < l.length) → Rep.R w S ((xs.drop (i * Rep.size α)).take (Rep.size α)) l[i] by
    obtain ⟨xs, h1, h2, h3, h4⟩ := H l.length (Nat.le_refl _)
    exact ⟨xs, rfl, hb, hlt, h1, h2, h3, fun i hi => h4 i hi hi⟩
  intro k
  induction k with
  | zero => intro _; exact ⟨[], by simp, by simp, by simp, fun i hi => absurd hi (by omega)⟩
  | succ k ih =>
    intro hk
    obtain ⟨xs, h1, h2, h3, h4⟩ := ih (by omega)
    obtain ⟨es, hr, hc⟩ := hx k (by omega)
    have hel := Rep.len hr
    refine ⟨xs ++ es, by rw [List.length_append, h1, hel, Nat.add_mul, Nat.one_mul], ?_, ?_, ?_⟩
    · intro u hu
      rcases List.mem_append.1 hu with h | h
      · exact h2 u h
      · exact Rep.one hr u h
    · intro j u hu
      by_cases hj : j < xs.length
      · rw [List.getElem?_append_left hj] at hu; exact h3 j u hu
      · rw [List.getElem?_append_right (by omega)] at hu
        have := hc _ u hu
        have e : o + k * Rep.size α + (j - xs.length) = o + j := by rw [h1] at hj ⊢; omega
        rwa [e] at this
    · intro i hi hi'
      by_cases hik : i < k
      · have e : (i + 1) * Rep.size α ≤ xs.length := by rw [h1]; exact Nat.mul_le_mul_right _ hik
        rw [Nat.add_mul, Nat.one_mul] at e
        rw [List.drop_append_of_le_length (by omega), List.take_append_of_le_length (by rw [List.length_drop]; omega)]
        exact h4 i hik hi'
      · obtain rfl : i = k := by omega
        rw [List.drop_append, List.drop_of_length_le (by omega), h1, Nat.sub_self, List.drop_zero, List.nil_append, List.take_of_length_le (by omega)]
        exact hr

/-- A slice value that the call has made and may still grow: it reads as l; its elements need no memory of its own row. -/
def Own {α : Type} [Rep α] (w : World) (base : Nat) (e : TypeId) (v : Value) (l : List α) : Prop :=
  ∃ xs, w.ownsRow base e (Rep.size α) v l.length xs ∧ (∀ u ∈ xs, u.oneCell' = true) ∧ ∀ i, (h : i < l.length) → Rep.R w (fun b => some b ≠ v.ownBlock) ((xs.drop (i * Rep.size α)).take (Rep.size α)) l[i]

section
variable {α : Type} [Rep α] {w w' : World} {base : Nat} {e : TypeId} {v : Value} {l : List α}
theorem Own.nil (w : World) (base : Nat) (e : TypeId) : Own w base e (.slice none 0 0) ([] : List α) := ⟨[], World.ownsRow_nil _ _ _ _, by simp, fun i h => absurd h (by simp)⟩
theorem Own.kept (h : Own w base e v l) (hk : ∀ i, i < w.heap.size → w'.heap[i]? = w.heap[i]?) : Own w' base e v l := by
  obtain ⟨xs, hx, ho, hr⟩ := h
  refine ⟨xs, ⟨hx.1, ?_⟩, ho, fun i hi => Rep.keep (hr i hi) (fun b _ hb => hk b hb)⟩
  rcases hx.2 with hn | ⟨g, cap, cur, hv, hb, hg, rest⟩
  · exact .inl hn
  · refine .inr ⟨g, cap, cur, hv, hb, ?_, rest⟩
    rw [hk g (Array.getElem?_eq_some_iff.1 hg).1]; exact hg
theorem Own.below (h : Own w base e v l) (hb : Below w.heap.size w w') : Own w' base e v l := h.kept hb.block
theorem Own.re (h : Own w base e v l) {B : Nat} (hB : B ≤ base) : Own w B e v l := by
  obtain ⟨xs, hx, ho, hr⟩ := h
  exact ⟨xs, ⟨hx.1, hx.2.imp id (fun ⟨g, cap, cur, h1, h2, h3⟩ => ⟨g, cap, cur, h1, by omega, h3⟩)⟩, ho, hr⟩
theorem Own.drew (h : Own w base e v l) : Own w.drew base e v l := h.kept fun _ _ => rfl
theorem Own.drewN (h : Own w base e v l) (n : Nat) : Own (w.drewN n) base e v l := h.kept fun _ _ => rfl
theorem Own.alloc (h : Own w base e v l) (o : Obj) : Own (w.alloc o) base e v l := h.kept (fun i hi => Below.heap_alloc w o i hi)
/-- It is a slice with the length of the list. -/
theorem Own.form (h : Own w base e v l) : ∃ A c, v = .slice A l.length c ∧ (∀ a, A = some a → base ≤ a.block ∧ a.block < w.heap.size) ∧ l.length ≤ c ∧ c ≤ maxLen := by
  obtain ⟨xs, hx, _, _⟩ := h
  rcases hx.2 with ⟨rfl, hn⟩ | ⟨g, cap, cur, rfl, hb, hg, hnc, hcm, _⟩
  · exact ⟨none, 0, by rw [hn], by simp, by omega, by simp [maxLen]⟩
  · exact ⟨some ⟨g, 0, none⟩, cap, rfl, by rintro a ⟨⟩; exact ⟨hb, (Array.getElem?_eq_some_iff.1 hg).1⟩, hnc, hcm⟩
theorem Own.lt (h : Own w base e v l) : ∀ k, v.ownBlock = some k → base ≤ k ∧ k < w.heap.size := by
  obtain ⟨xs, hx, _, _⟩ := h; exact hx.lt
/-- Read as plain data. -/
theorem Own.sl (h : Own w base e v l) : ∃ A c, v = .slice A l.length c ∧ Sl w (fun b => b < w.heap.size) A c l := by
  obtain ⟨xs, hx, ho, hr⟩ := h
  rcases hx.2 with ⟨rfl, hn⟩ | ⟨g, cap, cur, rfl, hb, hg, hnc, hcm, hcs, htake⟩
  · exact ⟨none, 0, by rw [hn], by omega, by simp [maxLen], fun h => absurd h (by omega)⟩
  · have hlt := (Array.getElem?_eq_some_iff.1 hg).1
    refine ⟨some ⟨g, 0, none⟩, cap, rfl, hnc, hcm, fun _ => ⟨g, 0, rfl, hlt, hlt, fun i hi => ⟨_, Rep.mono (hr i hi) (fun b _ hb' => hb'), fun j u hu => ?_⟩⟩⟩
    rw [Nat.zero_add]
    have e1 := hx.cells (g := g) rfl (i * Rep.size α + j) u (by
      rw [List.getElem?_take] at hu
      split at hu
      · rwa [List.getElem?_drop] at hu
      · cases hu)
    rwa [addr_add, Nat.zero_add] at e1
/-- The same, said with a bound of its own: its memory lies from base on. -/
theorem Own.rep (h : Own w base e v l) (hl : l.length < 9223372036854775808) : Rep.R w (fun b => b < w.heap.size) [v] l := by
  obtain ⟨A, c, rfl, hs⟩ := h.sl
  exact ⟨A, c, rfl, hs, hl⟩
/-- More elements at the end: what an append's law leaves. -/
theorem Own.more {v' : Value} {m : List α} {news : List Value} {H : Nat} (h : Own w base e v l)
    (hown : ∀ xs : List Value, w.ownsRow base e (Rep.size α) v l.length xs → w'.ownsRow base e (Rep.size α) v' (l ++ m).length (xs ++ news))
    (hg : w.grownBy w' v.ownBlock) (hat : v'.ownBlock = v.ownBlock ∨ v'.ownBlock = some H) (hH : w.heap.size ≤ H)
    (ho' : ∀ u ∈ news, u.oneCell' = true) (_hnl : news.length = m.length * Rep.size α)
    (hm : ∀ i, (h : i < m.length) → Rep.R w (fun b => some b ≠ v.ownBlock) ((news.drop (i * Rep.size α)).take (Rep.size α)) m[i]) : Own w' base e v' (l ++ m) := by
  obtain ⟨xs, hx, ho, hr⟩ := h
  have hxl := hx.1
  have kp : Kept (fun b => some b ≠ v.ownBlock) w w' := Kept.grown hg (fun i hi => hi)
  have hS : ∀ i, some i ≠ v.ownBlock → i < w.heap.size → some i ≠ v'.ownBlock := by
    intro i hi hlt
    rcases hat with e1 | e1
    · rw [e1]; exact hi
    · rw [e1]; intro e2; injection e2 with e2; omega
  have fin : ∀ {cs : List Value} {a : α}, Rep.R w (fun b => some b ≠ v.ownBlock) cs a → Rep.R w' (fun b => some b ≠ v'.ownBlock) cs a := by
    intro cs a h
    have h1 := Rep.mono (S' := fun b => some b ≠ v.ownBlock ∧ some b ≠ v'.ownBlock) h (fun i hi hlt => ⟨hi, hS i hi hlt⟩)
    exact Rep.mono (Rep.keep h1 (kp.mono fun i hi => hi.1)) (fun i hi _ => hi.2)
  refine ⟨xs ++ news, hown xs hx, ?_, fun i hi => ?_⟩
  · intro u hu
    rcases List.mem_append.1 hu with h | h
    · exact ho u h
    · exact ho' u h
  · by_cases hil : i < l.length
    · have e : (i + 1) * Rep.size α ≤ xs.length := by rw [hxl]; exact Nat.mul_le_mul_right _ hil
      rw [Nat.add_mul, Nat.one_mul] at e
      rw [List.drop_append_of_le_length (by omega), List.take_append_of_le_length (by rw [List.length_drop]; omega), List.getElem_append_left hil]
      exact fin (hr i hil)
    · have him : i - l.length < m.length := by rw [List.length_append] at hi; omega
      have e : i * Rep.size α = xs.length + (i - l.length) * Rep.size α := by
        rw [hxl, ← Nat.add_mul]; congr 1; omega
      rw [List.getElem_append_right (by omega), List.drop_append, List.drop_of_length_le (by omega), List.nil_append, e, Nat.add_sub_cancel_left]
      exact fin (hm _ him)
end

/-- An append onto the call's own row, behind the block that holds what is appended. -/
theorem below_push {α : Type} [Rep α] {B : Nat} {w0 w1 w2 : World} {e : TypeId} {v : Value} {l : List α} {o : Obj} (hb : Below B w0 w1) (hown : Own w1 B e v l) (hB : B ≤ w1.heap.size) (hg : (w1.alloc o).grownBy w2 v.ownBlock) : Below B w0 w2 :=
  (hb.alloc hB o).grown hg (by simp; omega) (fun k hk => (hown.lt k hk).1)
/-- A block below the own row's bound is as it was behind an append. -/
theorem keep_cat {α : Type} [Rep α] {B : Nat} {w1 w2 : World} {e : TypeId} {v : Value} {l : List α} (hown : Own w1 B e v l) (hg : w1.grownBy w2 v.ownBlock) {b : Nat} (hb : b < B) (hlt : b < w1.heap.size) : w2.heap[b]? = w1.heap[b]? :=
  hg.block b hlt (fun e => by have := (hown.lt b e.symm).1; omega)
theorem keep_push {α : Type} [Rep α] {B : Nat} {w1 w2 : World} {e : TypeId} {v : Value} {l : List α} {o : Obj} (hown : Own w1 B e v l) (hg : (w1.alloc o).grownBy w2 v.ownBlock) {b : Nat} (hb : b < B) (hlt : b < w1.heap.size) : w2.heap[b]? = w1.heap[b]? :=
  (hg.block b (by simp; omega) (fun e => by have := (hown.lt b e.symm).1; omega)).trans (Below.heap_alloc w1 o b hlt)
/-- One cell of element k written: element k becomes d'. -/
theorem Own.setf {α : Type} [Rep α] {w : World} {base : Nat} {e : TypeId} {g n cap : Nat} {l : List α} (h : Own w base e (.slice (some ⟨g, 0, none⟩) n cap) l) (k j : Nat) (hk : k < l.length) (hj : j < Rep.size α) (u : Value) (hu : u.oneCell' = true) (d' : α)
    (hd : ∀ S es, Rep.R w S es l[k] → Rep.R w S (es.set j u) d') {o : Nat} (ho : o = k * Rep.size α + j) :
    Own (w.setCell ⟨g, o, none⟩ u) base e (.slice (some ⟨g, 0, none⟩) n cap) (l.set k d') ∧ w.grownBy (w.setCell ⟨g, o, none⟩ u) (some g) := by
  subst ho
  obtain ⟨xs, hx, ho1, hr⟩ := h
  obtain rfl : n = l.length := by
    rcases hx.2 with ⟨h1, _⟩ | ⟨g', cap', cur, h1, _⟩
    · cases h1
    · cases h1; rfl
  have hst := hx.stored (k * Rep.size α + j) u
  have hxl := hx.1
  have hkk : (k + 1) * Rep.size α ≤ xs.length := by rw [hxl]; exact Nat.mul_le_mul_right _ hk
  rw [Nat.add_mul, Nat.one_mul] at hkk
  have kp : Kept (fun b => some b ≠ (Value.slice (some ⟨g, 0, none⟩) l.length cap).ownBlock) w (w.setCell ⟨g, k * Rep.size α + j, none⟩ u) := Kept.grown hst.2 (fun i hi => hi)
  refine ⟨⟨xs.set (k * Rep.size α + j) u, by rw [List.length_set]; exact hst.1, ?_, fun i hi => ?_⟩, hst.2⟩
  · intro y hy
    rcases List.mem_or_eq_of_mem_set hy with h | h
    · exact ho1 y h
    · rw [h]; exact hu
  · rw [List.length_set] at hi
    rw [List.drop_set, List.getElem_set]
    by_cases hik : k = i
    · subst hik
      rw [if_neg (by omega), if_pos rfl, Nat.add_sub_cancel_left, List.take_set]
      exact Rep.keep (hd _ _ (hr k hi)) kp
    · rw [if_neg hik]
      by_cases hlt : k < i
      · have : (k + 1) * Rep.size α ≤ i * Rep.size α := Nat.mul_le_mul_right _ hlt
        rw [Nat.add_mul, Nat.one_mul] at this
        rw [if_pos (by omega)]
        exact Rep.keep (hr i hi) kp
      · have : (i + 1) * Rep.size α ≤ k * Rep.size α := Nat.mul_le_mul_right _ (by omega : i + 1 ≤ k)
        rw [Nat.add_mul, Nat.one_mul] at this
        rw [if_neg (by omega), List.take_set, List.set_eq_of_length_le (by rw [List.length_take]; omega)]
        exact Rep.keep (hr i hi) kp
/-- A cell of an own row. -/
theorem Own.at_ {α : Type} [Rep α] {w : World} {base : Nat} {e : TypeId} {v : Value} {l : List α} (h : Own w base e v l) {k : Nat} (hk : k < l.length) :
    ∃ g cap es, v = .slice (some ⟨g, 0, none⟩) l.length cap ∧ base ≤ g ∧ g < w.heap.size ∧ l.length ≤ cap ∧ Rep.R w (fun b => b ≠ g) es l[k] ∧ (∀ j u, es[j]? = some u → w.cell? ⟨g, k * Rep.size α + j, none⟩ = some u) ∧ ∀ o, w.frozen? ⟨g, o, none⟩ = false := by
  obtain ⟨xs, hx, ho, hr⟩ := h
  rcases hx.2 with ⟨rfl, hn⟩ | ⟨g, cap, cur, rfl, hb, hg, hnc, hcm, hcs, htake⟩
  · omega
  · have hlt := (Array.getElem?_eq_some_iff.1 hg).1
    refine ⟨g, cap, _, rfl, hb, hlt, hnc, Rep.mono (hr k hk) (fun b hb' _ => by simpa [Value.ownBlock] using hb'), fun j u hu => ?_, fun o => hx.frozenAt o⟩
    have e1 := hx.cells (g := g) rfl (k * Rep.size α + j) u (by
      rw [List.getElem?_take] at hu
      split at hu
      · rwa [List.getElem?_drop] at hu
      · cases hu)
    rwa [addr_add, Nat.zero_add] at e1
/-- Writes that leave all but some blocks: composition. -/
theorem grown_trans2 {a b c : World} {row : Option Nat} (h : a.grownBy b row) (k : b.grownBy c row) : a.grownBy c row :=
  ⟨k.os.trans h.os, k.tape.trans h.tape, k.output.trans h.output, Nat.le_trans h.size k.size, fun i hi hne => (k.block i (Nat.lt_of_lt_of_le hi h.size) hne).trans (h.block i hi hne)⟩
theorem grown_drew {a b : World} {row : Option Nat} (h : a.grownBy b row) : a.grownBy b.drew row := ⟨h.os, h.tape, h.output, h.size, h.block⟩
theorem grown_dn {a b : World} {row : Option Nat} (h : a.grownBy b row) (n : Nat) : a.grownBy (b.drewN n) row := ⟨h.os, h.tape, h.output, h.size, h.block⟩
theorem grown_below {a b : World} (h : Below a.heap.size a b) (row : Option Nat) : a.grownBy b row := ⟨h.os, h.tape, h.output, h.size, fun i hi _ => h.block i hi⟩
theorem below_grown {B : Nat} {w0 a b : World} {row : Option Nat} (h : Below B w0 a) (hg : a.grownBy b row) (hB : B ≤ a.heap.size) (hr : ∀ g, row = some g → B ≤ g) : Below B w0 b := h.grown hg hB hr
section
variable {P : Program} (w : World) {α : Type} [Rep α]
/-- THE LAW OF append(out, x): x stands alone in block B. -/
theorem wp_push {o : Oper} {a : Act} {K : Act → World → Prop} {Q : Exit → Act → World → Prop} (s x : Operand) (t : TypeId)
    (ho : o.op = .call { callee := .builtin .append, args := #[s, x], argTypes := #[t, t] })
    (base : Nat) (e : TypeId) (z : Value) (bytes : Nat) (ht : P.underlying t = some (.slice e)) (hinfo : (P.info? e).map (fun i => (i.zero, i.size, i.bytes)) = some (some z, Rep.size α, bytes))
    (hzs : z.cells.size = Rep.size α) (hsz : 0 < Rep.size α)
    (v : Value) (l : List α) (hs : a.eval s = v) (hown : Own w base e v l)
    (B : Nat) (es : Array Value) (d : α) (fr : Nat × Nat) (te : TypeId) (hx : a.eval x = .slice (some ⟨B, 0, none⟩) 1 1) (hB : w.heap[B]? = some (.cells es te fr)) (hr : Rep.R w (fun b => some b ≠ v.ownBlock) es.toList d)
    (h63 : (l.length + 1) * bytes ≤ 140737488355328) (hml : l.length + 1 ≤ 9223372036854775807) (hbase : base ≤ w.heap.size) (H : Nat) (hH : w.heap.size = H)
    (h : ∀ g cap w', Own w' base e (.slice (some ⟨g, 0, none⟩) (l.length + 1) cap) (l ++ [d]) → w.grownBy w' v.ownBlock → (v.ownBlock = some g ∨ g = H) → g < w'.heap.size → K (a.put o.dst (.slice (some ⟨g, 0, none⟩) (l.length + 1) cap)) w') : o.wp P a w K Q := by
  obtain ⟨i, hi, hz, hz1, hz2⟩ := info_parts hinfo
  obtain ⟨xs, hx1, ho1, hr1⟩ := id hown
  have hel := Rep.len hr
  refine wp_append_lies (P := P) w s x t ho base e i z (Rep.size α) bytes ht hi hz hz1 hz2 hzs hsz v l.length xs hs hx1 ⟨B, 0, none⟩ 1 1 es.toList hx (by rw [hel]; omega) (World.news_of_block hB) (Rep.one hr) (by omega) (by simp only [maxLen]; omega) h63 hbase H hH ?_
  intro g cap w' hown' hgrow hat hlt
  refine h g cap w' ?_ hgrow hat hlt
  refine hown.more (news := es.toList) (H := H) (fun ys hy => ?_) hgrow ?_ (by omega) (Rep.one hr) (by rw [hel]; simp) ?_
  · have e1 : (l ++ [d]).length = l.length + 1 := by simp
    rw [e1]
    obtain rfl : xs = ys := by
      rcases hx1.2 with ⟨r1, r2⟩ | ⟨g1, c1, cu1, r1, _, r3, _, _, _, r4⟩
      · have := hx1.1; have := hy.1
        rw [r2] at *
        simp at *
        simp [*]
      · rcases hy.2 with ⟨q1, q2⟩ | ⟨g2, c2, cu2, q1, _, q3, _, _, _, q4⟩
        · rw [r1] at q1; cases q1
        · rw [r1] at q1; cases q1
          rw [r3] at q3; cases q3
          rw [← r4, ← q4]
    exact hown'
  · rcases hat with e1 | e1
    · exact .inl e1.symm
    · exact .inr (by rw [← e1]; rfl)
  · intro i hi
    obtain rfl : i = 0 := by simpa using hi
    simp only [Nat.zero_mul, List.drop_zero, List.getElem_singleton]
    rw [List.take_of_length_le (by omega)]
    exact hr

theorem wpList_push {ops : Array Oper} {rest : List Oper} {o : Oper} {a : Act} {Q : Exit → Act → World → Prop} (hgd : o.guard = none) (s x : Operand) (t : TypeId)
    (ho : o.op = .call { callee := .builtin .append, args := #[s, x], argTypes := #[t, t] })
    (base : Nat) (e : TypeId) (z : Value) (bytes : Nat) (ht : P.underlying t = some (.slice e)) (hinfo : (P.info? e).map (fun i => (i.zero, i.size, i.bytes)) = some (some z, Rep.size α, bytes))
    (hzs : z.cells.size = Rep.size α) (hsz : 0 < Rep.size α)
    (v : Value) (l : List α) (hs : a.eval s = v) (hown : Own w base e v l)
    (B : Nat) (es : Array Value) (d : α) (fr : Nat × Nat) (te : TypeId) (hx : a.eval x = .slice (some ⟨B, 0, none⟩) 1 1) (hB : w.heap[B]? = some (.cells es te fr)) (hr : Rep.R w (fun b => some b ≠ v.ownBlock) es.toList d)
    (h63 : (l.length + 1) * bytes ≤ 140737488355328) (hml : l.length + 1 ≤ 9223372036854775807) (hbase : base ≤ w.heap.size) (H : Nat) (hH : w.heap.size = H)
    (h : ∀ g cap w', Own w' base e (.slice (some ⟨g, 0, none⟩) (l.length + 1) cap) (l ++ [d]) → w.grownBy w' v.ownBlock → (v.ownBlock = some g ∨ g = H) → g < w'.heap.size → wpList P ops Q rest (a.put o.dst (.slice (some ⟨g, 0, none⟩) (l.length + 1) cap)) w') : wpList P ops Q (o :: rest) a w :=
  wpList_plain hgd fun _ hK => wp_push w s x t ho base e z bytes ht hinfo hzs hsz v l hs hown B es d fr te hx hB hr h63 hml hbase H hH fun g cap w' h2 h3 h4 h5 => hK _ _ (h g cap w' h2 h3 h4 h5)
theorem step_push {ops : Array Oper} {o : Oper} {a : Act} {K : Act → World → Prop} {Q : Exit → Act → World → Prop} {E : Prop} (hgd : o.guard = none) (s x : Operand) (t : TypeId)
    (ho : o.op = .call { callee := .builtin .append, args := #[s, x], argTypes := #[t, t] })
    (base : Nat) (e : TypeId) (z : Value) (bytes : Nat) (ht : P.underlying t = some (.slice e)) (hinfo : (P.info? e).map (fun i => (i.zero, i.size, i.bytes)) = some (some z, Rep.size α, bytes))
    (hzs : z.cells.size = Rep.size α) (hsz : 0 < Rep.size α)
    (v : Value) (l : List α) (hs : a.eval s = v) (hown : Own w base e v l)
    (B : Nat) (es : Array Value) (d : α) (fr : Nat × Nat) (te : TypeId) (hx : a.eval x = .slice (some ⟨B, 0, none⟩) 1 1) (hB : w.heap[B]? = some (.cells es te fr)) (hr : Rep.R w (fun b => some b ≠ v.ownBlock) es.toList d)
    (h63 : (l.length + 1) * bytes ≤ 140737488355328) (hml : l.length + 1 ≤ 9223372036854775807) (hbase : base ≤ w.heap.size) (H : Nat) (hH : w.heap.size = H)
    (h : ∀ g cap w', Own w' base e (.slice (some ⟨g, 0, none⟩) (l.length + 1) cap) (l ++ [d]) → w.grownBy w' v.ownBlock → (v.ownBlock = some g ∨ g = H) → g < w'.heap.size → K (a.put o.dst (.slice (some ⟨g, 0, none⟩) (l.length + 1) cap)) w') :
    if Region.wanted o (yielded ops a.tmps) = true then Oper.wp P o a w K Q else E := by
  have hw : Region.wanted o (yielded ops a.tmps) = true := by simp [Region.wanted, hgd]
  rw [if_pos hw]
  exact wp_push w s x t ho base e z bytes ht hinfo hzs hsz v l hs hown B es d fr te hx hB hr h63 hml hbase H hH h

/-- The same of append(out, l...), whatever slice l is. -/
theorem run_cat (base : Nat) (t ty e : TypeId) (z : Value) (bytes : Nat) (ht : P.underlying t = some (.slice e)) (hinfo : (P.info? e).map (fun i => (i.zero, i.size, i.bytes)) = some (some z, Rep.size α, bytes))
    (hzs : z.cells.size = Rep.size α) (hsz : 0 < Rep.size α) (v : Value) (l : List α) (hown : Own w base e v l)
    (A : Option Addr) (c n : Nat) (m : List α) (hn : m.length = n) (S : Nat → Prop) (hm : Sl w S A c m) (hS : ∀ i, S i → i < w.heap.size → some i ≠ v.ownBlock)
    (hbytes : (l.length + n) * bytes ≤ 140737488355328) (hml : l.length + n ≤ 9223372036854775807) (hbase : base ≤ w.heap.size) :
    ∃ v' w', (Builtin.append_ #[t, t] ty #[v, .slice A n c]).run P w = .ok v' w' ∧ Own w' base e v' (l ++ m) ∧ w.grownBy w' v.ownBlock ∧ (v'.ownBlock = v.ownBlock ∨ v'.ownBlock = some w.heap.size) := by
  obtain ⟨i, hi, hz, hz1, hz2⟩ := info_parts hinfo
  obtain ⟨xs, hx1, ho1, hr1⟩ := id hown
  subst hn
  by_cases h0 : 0 < m.length
  · obtain ⟨b, o, news, rfl, hSb, hlt, hnl, hn1, hnc, hnr⟩ := hm.flat h0
    obtain ⟨v', w', hrun, h2, h3, _, h5⟩ := run_append_own_at (P := P) w base t ty e i z (Rep.size α) bytes ht hi hz hz1 hz2 hzs hsz v l.length xs hx1 ⟨b, o, none⟩ m.length c news hnl
      (fun j u hu => by rw [addr_add]; exact hnc j u hu) hn1 (by simp only [maxLen]; omega) hbytes hbase
    refine ⟨v', w', hrun, ?_, h3, h5⟩
    refine hown.more (news := news) (H := w.heap.size) (fun ys hy => ?_) h3 h5 (Nat.le_refl _) hn1 hnl (fun i hi => Rep.mono (hnr i hi) (fun b hb hl => hS b hb hl))
    have e1 : (l ++ m).length = l.length + m.length := by simp
    rw [e1]
    obtain rfl : xs = ys := by
      rcases hx1.2 with ⟨r1, r2⟩ | ⟨g1, c1, cu1, r1, _, r3, _, _, _, r4⟩
      · have := hx1.1; have := hy.1
        rw [r2] at *
        simp at *
        simp [*]
      · rcases hy.2 with ⟨q1, q2⟩ | ⟨g2, c2, cu2, q1, _, q3, _, _, _, q4⟩
        · rw [r1] at q1; cases q1
        · rw [r1] at q1; cases q1
          rw [r3] at q3; cases q3
          rw [← r4, ← q4]
    exact h2
  · obtain rfl : m = [] := List.eq_nil_of_length_eq_zero (by omega)
    refine ⟨v, w, ?_, by simpa using hown, World.grownBy.refl _ _, .inl rfl⟩
    rcases A with _ | a
    · rcases hx1.2 with ⟨rfl, r2⟩ | ⟨g, cap, cur, rfl, _, _, hnc, _⟩
      · simp [Builtin.append_, run_underlying ht, sizeOf, typeInfo, hi, Builtin.lenOf, Builtin.firstCells]
      · simp [Builtin.append_, run_underlying ht, sizeOf, typeInfo, hi, Builtin.lenOf, Builtin.firstCells, hnc, storeCells]
    · rcases hx1.2 with ⟨rfl, r2⟩ | ⟨g, cap, cur, rfl, _, _, hnc, _⟩
      · simp [Builtin.append_, run_underlying ht, sizeOf, typeInfo, hi, Builtin.lenOf, Builtin.firstCells, loadCells, loadCellsFrom]
      · simp [Builtin.append_, run_underlying ht, sizeOf, typeInfo, hi, Builtin.lenOf, Builtin.firstCells, hnc, storeCells, loadCells, loadCellsFrom]
theorem wp_cat {o : Oper} {a : Act} {K : Act → World → Prop} {Q : Exit → Act → World → Prop} (s x : Operand) (t : TypeId)
    (ho : o.op = .call { callee := .builtin .append, args := #[s, x], argTypes := #[t, t] })
    (base : Nat) (e : TypeId) (z : Value) (bytes : Nat) (ht : P.underlying t = some (.slice e)) (hinfo : (P.info? e).map (fun i => (i.zero, i.size, i.bytes)) = some (some z, Rep.size α, bytes))
    (hzs : z.cells.size = Rep.size α) (hsz : 0 < Rep.size α)
    (v : Value) (l : List α) (hs : a.eval s = v) (hown : Own w base e v l)
    (A : Option Addr) (c n : Nat) (m : List α) (hx : a.eval x = .slice A n c) (hn : m.length = n) (S : Nat → Prop) (hm : Sl w S A c m) (hS : ∀ i, S i → i < w.heap.size → some i ≠ v.ownBlock)
    (hbytes : (l.length + n) * bytes ≤ 140737488355328) (hml : l.length + n ≤ 9223372036854775807) (hbase : base ≤ w.heap.size)
    (h : ∀ v' w', Own w' base e v' (l ++ m) → w.grownBy w' v.ownBlock → (v'.ownBlock = v.ownBlock ∨ v'.ownBlock = some w.heap.size) → K (a.put o.dst v') w') : o.wp P a w K Q := by
  obtain ⟨v', w', hrun, h2, h3, h4⟩ := run_cat (P := P) w base t o.type e z bytes ht hinfo hzs hsz v l hown A c n m hn S hm hS hbytes hml hbase
  unfold Oper.wp execOp
  simp only [ho, resolve, invoke, builtin, Sem.run_bind, Sem.run_pure, Result.andThen_ok, List.map_toArray, List.map_cons, List.map_nil, hs, hx, hrun]
  exact h v' w' h2 h3 h4
theorem wpList_cat {ops : Array Oper} {rest : List Oper} {o : Oper} {a : Act} {Q : Exit → Act → World → Prop} (hgd : o.guard = none) (s x : Operand) (t : TypeId)
    (ho : o.op = .call { callee := .builtin .append, args := #[s, x], argTypes := #[t, t] })
    (base : Nat) (e : TypeId) (z : Value) (bytes : Nat) (ht : P.underlying t = some (.slice e)) (hinfo : (P.info? e).map (fun i => (i.zero, i.size, i.bytes)) = some (some z, Rep.size α, bytes))
    (hzs : z.cells.size = Rep.size α) (hsz : 0 < Rep.size α)
    (v : Value) (l : List α) (hs : a.eval s = v) (hown : Own w base e v l)
    (A : Option Addr) (c n : Nat) (m : List α) (hx : a.eval x = .slice A n c) (hn : m.length = n) (S : Nat → Prop) (hm : Sl w S A c m) (hS : ∀ i, S i → i < w.heap.size → some i ≠ v.ownBlock)
    (hbytes : (l.length + n) * bytes ≤ 140737488355328) (hml : l.length + n ≤ 9223372036854775807) (hbase : base ≤ w.heap.size)
    (h : ∀ v' w', Own w' base e v' (l ++ m) → w.grownBy w' v.ownBlock → (v'.ownBlock = v.ownBlock ∨ v'.ownBlock = some w.heap.size) → wpList P ops Q rest (a.put o.dst v') w') : wpList P ops Q (o :: rest) a w :=
  wpList_plain hgd fun _ hK => wp_cat w s x t ho base e z bytes ht hinfo hzs hsz v l hs hown A c n m hx hn S hm hS hbytes hml hbase fun v' w' h2 h3 h4 => hK _ _ (h v' w' h2 h3 h4)
theorem step_cat {ops : Array Oper} {o : Oper} {a : Act} {K : Act → World → Prop} {Q : Exit → Act → World → Prop} {E : Prop} (hgd : o.guard = none) (s x : Operand) (t : TypeId)
    (ho : o.op = .call { callee := .builtin .append, args := #[s, x], argTypes := #[t, t] })
    (base : Nat) (e : TypeId) (z : Value) (bytes : Nat) (ht : P.underlying t = some (.slice e)) (hinfo : (P.info? e).map (fun i => (i.zero, i.size, i.bytes)) = some (some z, Rep.size α, bytes))
    (hzs : z.cells.size = Rep.size α) (hsz : 0 < Rep.size α)
    (v : Value) (l : List α) (hs : a.eval s = v) (hown : Own w base e v l)
    (A : Option Addr) (c n : Nat) (m : List α) (hx : a.eval x = .slice A n c) (hn : m.length = n) (S : Nat → Prop) (hm : Sl w S A c m) (hS : ∀ i, S i → i < w.heap.size → some i ≠ v.ownBlock)
    (hbytes : (l.length + n) * bytes ≤ 140737488355328) (hml : l.length + n ≤ 9223372036854775807) (hbase : base ≤ w.heap.size)
    (h : ∀ v' w', Own w' base e v' (l ++ m) → w.grownBy w' v.ownBlock → (v'.ownBlock = v.ownBlock ∨ v'.ownBlock = some w.heap.size) → K (a.put o.dst v') w') :
    if Region.wanted o (yielded ops a.tmps) = true then Oper.wp P o a w K Q else E := by
  have hw : Region.wanted o (yielded ops a.tmps) = true := by simp [Region.wanted, hgd]
  rw [if_pos hw]
  exact wp_cat w s x t ho base e z bytes ht hinfo hzs hsz v l hs hown A c n m hx hn S hm hS hbytes hml hbase h
/-- An empty slice that is not nil. -/
theorem Own.made (w : World) (base : Nat) (e : TypeId) (hb : base ≤ w.heap.size) : Own (w.alloc (.cells #[] e)) base e (.slice (some ⟨w.heap.size, 0, none⟩) 0 0) ([] : List α) :=
  ⟨[], World.ownsRow_made w #[] 0 hb (by simp [maxLen]) (by simp), by simp, fun i h => absurd h (by simp)⟩
/-- A literal slice. -/
theorem Own.lit (w : World) (base : Nat) (e : TypeId) (cs : Array Value) (l : List α) (hb : base ≤ w.heap.size) (hm : l.length ≤ maxLen) (hs : cs.size = l.length * Rep.size α) (h1 : ∀ u ∈ cs.toList, u.oneCell' = true)
    (hr : ∀ i, (h : i < l.length) → Rep.R (w.alloc (.cells cs e)) (fun b => b ≠ w.heap.size) ((cs.toList.drop (i * Rep.size α)).take (Rep.size α)) l[i]) :
    Own (w.alloc (.cells cs e)) base e (.slice (some ⟨w.heap.size, 0, none⟩) l.length l.length) l :=
  ⟨cs.toList, World.ownsRow_lit w cs l.length hb hm hs, h1, fun i h => Rep.mono (hr i h) (fun b hb _ => by simpa [Value.ownBlock] using hb)⟩
/-- behind grownBy without a block ahead. -/
theorem below_cat {B : Nat} {w0 w1 w2 : World} {e : TypeId} {v : Value} {l : List α} (hb : Below B w0 w1) (hown : Own w1 B e v l) (hB : B ≤ w1.heap.size) (hg : w1.grownBy w2 v.ownBlock) : Below B w0 w2 :=
  hb.grown hg hB (fun k hk => (hown.lt k hk).1)
end
end Go.Proofs.YthcklfelofpffaaDoor
