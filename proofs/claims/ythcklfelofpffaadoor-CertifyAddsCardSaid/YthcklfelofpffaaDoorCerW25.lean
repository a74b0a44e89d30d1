/- Numbers of a slice; Around; the sheet that a generator of sheets fills. No condition. -/
import Derived.Test.YthcklfelofpffaaDoorCerW24
namespace Go.Proofs.YthcklfelofpffaaDoor
open Go.RowKit
instance : Rep Int where
  size := 1
  R _ _ cs n := cs = [.int .i64 n] ∧ I64 n
  len := by rintro w S cs s ⟨rfl, _⟩; rfl
  one := by rintro w S cs s ⟨rfl, _⟩ u hu; simp at hu; rcases hu with rfl; rfl
  keep := by rintro w w' S cs s h _; exact h
  mono := by rintro w S S' cs s h _; exact h
theorem int_at {w : World} {S : Nat → Prop} {A : Option Addr} {c : Nat} {l : List Int} (h : Sl w S A c l) {k : Nat} (hk : k < l.length) :
    ∃ b o, A = some ⟨b, o, none⟩ ∧ S b ∧ b < w.heap.size ∧ I64 l[k] ∧ w.cell? ⟨b, o + k, none⟩ = some (.int .i64 l[k]) := by
  obtain ⟨b, o, es, rfl, hb, hlt, ⟨rfl, hok⟩, hc⟩ := h.at_ hk
  have := hc 0 _ rfl
  exact ⟨b, o, rfl, hb, hlt, hok, by simpa [Rep.size] using this⟩
/-- Around of the references. -/
def aro (n m : Int) : Int := (if n < 0 then -(n + 1) else n) % m
theorem aro_lt (n m : Int) (h : 1 ≤ m) : 0 ≤ aro n m ∧ aro n m < m := ⟨Int.emod_nonneg _ (by omega), Int.emod_lt_of_pos _ (by omega)⟩
set_option maxHeartbeats 400000 in
theorem around_any (n m : Int) (w : World) (hn : I64 n) (hm : 1 ≤ m) (hm2 : m ≤ 9223372036854775807) :
    Calls Tryd.prog 25 #[.int .i64 n, .int .i64 m] w fun e w' => e = .returned (.int .i64 (aro n m)) ∧ w = w' := by
  obtain ⟨h0, h1⟩ := hn
  go_enter Tryd.func25, Tryd.ntmps25
  by_cases h : n < 0
  · have e : aro n m = (-(n + 1)) % m := by unfold aro; rw [if_pos h]
    have E := Lib.hid e
    clear e
    have hp : 0 ≤ -(n + 1) := by omega
    go_wp2
    go_ret
    refine ⟨ret_int ?_, rfl⟩
    rw [E.out]
    rw [← Int.neg_tmod, Int.tmod_eq_emod_of_nonneg hp]
  · have e : aro n m = n % m := by unfold aro; rw [if_neg h]
    have E := Lib.hid e
    clear e
    go_wp2
    go_ret
    exact ⟨ret_int (by rw [E.out]), rfl⟩

theorem lit_at (l : List ByteArray) (j m : Nat) (h : l.all (fun x => decide (x.size ≤ m)) = true) (hj : j < l.length) : ∃ s, (l.map Value.string)[j]? = some (.string s) ∧ s.size ≤ m :=
  ⟨l[j], by simp [hj], by have := (List.all_eq_true.1 h) _ (List.getElem_mem hj); simpa using this⟩
def labels : List ByteArray := [⟨#[49]⟩, ⟨#[50]⟩, ⟨#[50, 97]⟩, ⟨#[51]⟩, ⟨#[52]⟩, ⟨#[52, 97]⟩, ⟨#[52, 98]⟩, ⟨#[53]⟩]
def phrases : List ByteArray := [⟨#[116, 104, 101, 32, 99, 111, 117, 114, 116]⟩, ⟨#[]⟩, ⟨#[111, 110, 101, 32, 91, 52, 48, 93, 32, 116, 104, 114, 101, 101]⟩, ⟨#[115, 111, 32, 111, 114, 100, 101, 114, 101, 100, 46]⟩]
theorem labels_ok : labels.all (fun x => decide (x.size ≤ 2)) = true := by decide +kernel
theorem phrases_ok : phrases.all (fun x => decide (x.size ≤ 14)) = true := by decide +kernel
/-- A sheet that is being filled: its variable, its two rows, the literal of phrases. -/
structure SS (w0 wr : World) (O Wb : Nat) (lab : ByteArray) (v1 v2 : Value) (body notes : List ByteArray) : Prop where
  box : ABox wr O 24 [.string lab, v1, v2]
  b : Own wr w0.heap.size 9 v1 body
  n : Own wr w0.heap.size 9 v2 notes
  w : ABox wr Wb 9 (phrases.map Value.string)
  ob : w0.heap.size ≤ O
  wb : w0.heap.size ≤ Wb
  ow : O ≠ Wb
  o1 : some O ≠ v1.ownBlock
  o2 : some O ≠ v2.ownBlock
  w1 : some Wb ≠ v1.ownBlock
  w2 : some Wb ≠ v2.ownBlock
  dj : ∀ g, v1.ownBlock = some g → v2.ownBlock ≠ some g
  bb : Below w0.heap.size w0 wr
section
variable {w0 wr w5 : World} {O Wb : Nat} {lab : ByteArray} {v1 v2 : Value} {body notes : List ByteArray}
theorem SS.drew (h : SS w0 wr O Wb lab v1 v2 body notes) : SS w0 wr.drew O Wb lab v1 v2 body notes :=
  ⟨h.box, h.b.drew, h.n.drew, h.w, h.ob, h.wb, h.ow, h.o1, h.o2, h.w1, h.w2, h.dj, h.bb.drew⟩
theorem SS.push1 (h : SS w0 wr O Wb lab v1 v2 body notes) {lit : Obj} {x : ByteArray} {g m cap : Nat} (hown : Own w5 w0.heap.size 9 (.slice (some ⟨g, 0, none⟩) m cap) (body ++ [x])) (hg : (wr.alloc lit).grownBy w5 v1.ownBlock) (hat : v1.ownBlock = some g ∨ g = (wr.alloc lit).heap.size) :
    SS w0 (w5.setCell ⟨O, 1, none⟩ (.slice (some ⟨g, 0, none⟩) m cap)) O Wb lab (.slice (some ⟨g, 0, none⟩) m cap) v2 (body ++ [x]) notes ∧ ABox w5 O 24 [.string lab, v1, v2] := by
  have hsz : (wr.alloc lit).heap.size = wr.heap.size + 1 := by simp
  have keep : ∀ y, y < wr.heap.size → some y ≠ v1.ownBlock → w5.heap[y]? = wr.heap[y]? := fun y hy hne => (hg.block y (by omega) hne).trans (Below.heap_alloc wr lit y hy)
  have hO5 : ABox w5 O 24 [.string lab, v1, v2] := (keep O h.box.lt h.o1).trans h.box
  have hgO : O ≠ g := fun e => by rcases hat with e2 | e2; exact h.o1 (by rw [e2, e]); have := h.box.lt; omega
  have hgW : Wb ≠ g := fun e => by rcases hat with e2 | e2; exact h.w1 (by rw [e2, e]); have := h.w.lt; omega
  have hg2 : ∀ y, v2.ownBlock = some y → y ≠ g := fun y hy e => by
    rcases hat with e2 | e2
    · exact h.dj g e2 (by rw [hy, e])
    · have := (h.n.lt y hy).2; omega
  refine ⟨⟨hO5.set 1 _, ?_, ?_, ?_, h.ob, h.wb, h.ow, ?_, h.o2, ?_, h.w2, ?_, ?_⟩, hO5⟩
  · exact own_keepS hown (fun y hy => heap_set _ _ _ _ (fun e => hgO (by simp [Value.ownBlock] at hy; omega)))
  · exact own_keepS h.n (fun y hy => (heap_set _ _ _ _ (fun e => h.o2 (by rw [hy, e]))).trans (keep y (h.n.lt y hy).2 (fun e => h.dj y e.symm hy)))
  · unfold ABox; rw [heap_set _ _ _ _ (Ne.symm h.ow), keep Wb h.w.lt h.w1]; exact h.w
  · intro e; simp [Value.ownBlock] at e; exact hgO e
  · intro e; simp [Value.ownBlock] at e; exact hgW e
  · intro y hy e; simp [Value.ownBlock] at hy; exact hg2 y e hy.symm
  · refine Below.setCell (p := ⟨O, 1, none⟩) ?_ h.ob _
    refine (h.bb.alloc h.bb.size lit).grown hg (by have := h.bb.size; omega) (fun k hk => (h.b.lt k hk).1)
theorem SS.push2 (h : SS w0 wr O Wb lab v1 v2 body notes) {lit : Obj} {x : ByteArray} {g m cap : Nat} (hown : Own w5 w0.heap.size 9 (.slice (some ⟨g, 0, none⟩) m cap) (notes ++ [x])) (hg : (wr.alloc lit).grownBy w5 v2.ownBlock) (hat : v2.ownBlock = some g ∨ g = (wr.alloc lit).heap.size) :
    SS w0 (w5.setCell ⟨O, 2, none⟩ (.slice (some ⟨g, 0, none⟩) m cap)) O Wb lab v1 (.slice (some ⟨g, 0, none⟩) m cap) body (notes ++ [x]) ∧ ABox w5 O 24 [.string lab, v1, v2] := by
  have hsz : (wr.alloc lit).heap.size = wr.heap.size + 1 := by simp
  have keep : ∀ y, y < wr.heap.size → some y ≠ v2.ownBlock → w5.heap[y]? = wr.heap[y]? := fun y hy hne => (hg.block y (by omega) hne).trans (Below.heap_alloc wr lit y hy)
  have hO5 : ABox w5 O 24 [.string lab, v1, v2] := (keep O h.box.lt h.o2).trans h.box
  have hgO : O ≠ g := fun e => by rcases hat with e2 | e2; exact h.o2 (by rw [e2, e]); have := h.box.lt; omega
  have hgW : Wb ≠ g := fun e => by rcases hat with e2 | e2; exact h.w2 (by rw [e2, e]); have := h.w.lt; omega
  have hg2 : ∀ y, v1.ownBlock = some y → y ≠ g := fun y hy e => by
    rcases hat with e2 | e2
    · exact h.dj y hy (by rw [e2, e])
    · have := (h.b.lt y hy).2; omega
  refine ⟨⟨hO5.set 2 _, ?_, ?_, ?_, h.ob, h.wb, h.ow, h.o1, ?_, h.w1, ?_, ?_, ?_⟩, hO5⟩
  · exact own_keepS h.b (fun y hy => (heap_set _ _ _ _ (fun e => h.o1 (by rw [hy, e]))).trans (keep y (h.b.lt y hy).2 (fun e => h.dj y hy e.symm)))
  · exact own_keepS hown (fun y hy => heap_set _ _ _ _ (fun e => hgO (by simp [Value.ownBlock] at hy; omega)))
  · unfold ABox; rw [heap_set _ _ _ _ (Ne.symm h.ow), keep Wb h.w.lt h.w2]; exact h.w
  · intro e; simp [Value.ownBlock] at e; exact hgO e
  · intro e; simp [Value.ownBlock] at e; exact hgW e
  · intro y hy e; simp [Value.ownBlock] at e; exact hg2 y hy e.symm
  · refine Below.setCell (p := ⟨O, 2, none⟩) ?_ h.ob _
    refine (h.bb.alloc h.bb.size lit).grown hg (by have := h.bb.size; omega) (fun k hk => (h.n.lt k hk).1)
end
end Go.Proofs.YthcklfelofpffaaDoor
