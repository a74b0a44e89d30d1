/- Words, paragraphs and texts as plain data; slices.Grow and slices.Concat at paragraphs. No condition. -/
import Derived.Test.YtgnblofjjondpaaDoorGlyW5
import Derived.Test.YtgnblofjjondpaaDoorShelfGrow
namespace Go.Proofs.YtgnblofjjondpaaDoor
open Go.RowKit
structure Word where
  s : ByteArray
  key : ByteArray
  t : Int
  n : Int
  deriving DecidableEq
def Word.ok (x : Word) : Prop := x.s.size ≤ maxLen ∧ x.key.size ≤ maxLen ∧ I64 x.t ∧ I64 x.n
def Word.cells (x : Word) : List Value := [.string x.s, .string x.key, .int .i64 x.t, .int .i64 x.n]
instance : Rep Word where
  size := 4
  R _ _ cs x := cs = x.cells ∧ x.ok
  len := by rintro w S cs s ⟨rfl, _⟩; rfl
  one := by rintro w S cs s ⟨rfl, _⟩ u hu; simp [Word.cells] at hu; rcases hu with rfl | rfl | rfl | rfl <;> rfl
  keep := by rintro w w' S cs s h _; exact h
  mono := by rintro w S S' cs s h _; exact h
/-- A word of a slice: its cells. -/
theorem word_at {w : World} {S : Nat → Prop} {A : Option Addr} {c : Nat} {l : List Word} (h : Sl w S A c l) {k : Nat} (hk : k < l.length) :
    ∃ b o, A = some ⟨b, o, none⟩ ∧ S b ∧ b < w.heap.size ∧ l[k].ok ∧ w.cell? ⟨b, o + k * 4, none⟩ = some (.string l[k].s) ∧ w.cell? ⟨b, o + k * 4 + 1, none⟩ = some (.string l[k].key) ∧
      w.cell? ⟨b, o + k * 4 + 2, none⟩ = some (.int .i64 l[k].t) ∧ w.cell? ⟨b, o + k * 4 + 3, none⟩ = some (.int .i64 l[k].n) := by
  obtain ⟨b, o, es, rfl, hb, hlt, ⟨rfl, hok⟩, hc⟩ := h.at_ hk
  exact ⟨b, o, rfl, hb, hlt, hok, hc 0 _ rfl, hc 1 _ rfl, hc 2 _ rfl, hc 3 _ rfl⟩
/-- A paragraph of a slice: its cell, and what it reads as. -/
theorem part_at {α : Type} [Rep α] {w : World} {S : Nat → Prop} {A : Option Addr} {c : Nat} {l : List (List α)} (h : Sl w S A c l) {k : Nat} (hk : k < l.length) :
    ∃ b o Ap cp, A = some ⟨b, o, none⟩ ∧ S b ∧ b < w.heap.size ∧ w.cell? ⟨b, o + k, none⟩ = some (.slice Ap l[k].length cp) ∧ Sl w S Ap cp l[k] := by
  obtain ⟨b, o, es, rfl, hb, hlt, ⟨Ap, cp, rfl, hp, _⟩, hc⟩ := h.at_ hk
  have := hc 0 _ rfl
  exact ⟨b, o, Ap, cp, rfl, hb, hlt, by simpa [Rep.size] using this, hp⟩
theorem part_info : (Tryd.prog.info? 61).map (fun i => (i.zero, i.size, i.bytes)) = some (some (.slice none 0 0), Rep.size (List Word), 24) := by kernel_rfl
/-- slices.Grow of nil. -/
theorem grow_nil (n : Nat) (w : World) (hn : n ≤ 4194304) :
    Calls Tryd.prog 63 #[.slice none 0 0, .int .i64 (n : Int)] w fun e w' => ∃ v, e = .returned v ∧ Own w' w.heap.size 61 v ([] : List (List Word)) ∧ Below w.heap.size w w' := by
  by_cases h0 : n = 0
  · subst h0
    exact (Any8.slices_Grow_room growW none 0 0 0 w (by omega) (by omega) (by omega) (by omega)).mono fun e w' ⟨he, hw⟩ => ⟨_, he, Own.nil _ _ _, by rw [hw]; exact Below.refl _ _⟩
  · obtain ⟨i, hi, hz, hz1, hz2⟩ := info_parts part_info
    have h1 := grownCap_ge w (0 + n) 0 (growW_ren.t 25)
    have h2 := grownCap_le_maxLen w (0 + n) 0 (growW_ren.t 25) (by unfold maxLen; omega)
    refine (Any8.slices_Grow_grow growW i (.slice none 0 0) hi hz (by rw [hz1]; decide) none 0 0 n [] w (by omega) (by omega) (by rw [hz2]; omega) (by omega) (by simp) (fun _ => rfl) (fun a h => by cases h)).mono ?_
    rintro e w' ⟨he, rfl⟩
    refine ⟨_, he, ⟨[], ⟨by simp, .inr ⟨w.heap.size, _, _, rfl, Nat.le_refl _, heap_alloc_new w.drew _, by simp, h2, ?_, by simp⟩⟩, by simp, fun i h => absurd h (by simp)⟩, ?_⟩
    · have e : (Value.slice none 0 0).cells.size = 1 := rfl
      simp only [Array.size_append, size_zeroCells, e, Nat.mul_one]
      show 0 + (0 + n - 0) + (_ - (0 + n)) = _ * 1
      omega
    · exact ((Below.refl _ _).drew).alloc (Nat.le_refl _) _
/-- What the first k of two lists make. -/
def catTo {α : Type} (a b : List α) : Nat → List α
  | 0 => []
  | 1 => a
  | _ => a ++ b
set_option maxHeartbeats 1000000 in
theorem concat_any (Q : Nat) (A B : Option Addr) (c d : Nat) (a b : List (List Word)) (w : World) (h0 : w.cell? ⟨Q, 0, none⟩ = some (.slice A a.length c)) (h1 : w.cell? ⟨Q, 1, none⟩ = some (.slice B b.length d))
    (ha : Sl w (fun b => b < w.heap.size) A c a) (hb : Sl w (fun b => b < w.heap.size) B d b) (hla : a.length ≤ 1048576) (hlb : b.length ≤ 1048576) :
    Calls Tryd.prog 44 #[.slice (some ⟨Q, 0, none⟩) 2 2] w fun e w' => ∃ v, e = .returned v ∧ Own w' w.heap.size 61 v (a ++ b) ∧ Below w.heap.size w w' := by
  have Ha := Lib.hid ha
  have Hb := Lib.hid hb
  have H0 := Lib.hid h0
  have H1 := Lib.hid h1
  have hQ := World.block_lt_of_cell? w _ h0
  clear ha hb
  go_enter Tryd.func44, Tryd.ntmps44
  go_wp2_with fail
  go_loop [3, 5, 11] (fun n _ i => ∃ k : Nat, k ≤ 2 ∧ i = .int .i64 k ∧ n = .int .i64 ((catTo a b k).length : Int)) (fun _ _ i => 2 - (intOf i).toNat)
  case atStart => exact ⟨0, by omega, rfl, rfl⟩
  case round =>
    obtain ⟨k, hk, rfl, rfl⟩ := hrel
    rcases (show k = 0 ∨ k = 1 ∨ k = 2 by omega) with rfl | rfl | rfl
    · have e : (catTo a b 0).length = 0 := rfl
      rw [e]
      clear e
      go_wp2_with fail
      go_round
      case rel => exact ⟨1, by omega, rfl, by simp [catTo]⟩
      case measure => simp [intOf]
    · have e : (catTo a b 1).length = a.length := rfl
      rw [e]
      clear e
      go_wp2_with fail
      go_round
      case rel => exact ⟨2, by omega, rfl, by simp [catTo]⟩
      case measure => simp [intOf]
    · have e : (catTo a b 2).length = a.length + b.length := by simp [catTo]
      rw [e]
      clear e h0 h1
      go_wp2_with fail
      refine (grow_nil (a.length + b.length) w (by omega)).mono ?_
      rintro e wG ⟨v, rfl, hownG, hbG⟩
      have HbG := Lib.hid hbG
      have HoG := Lib.hid hownG
      clear hbG hownG
      go_wp2_with fail
      go_loopw [6, 8, 27] (fun v _ i wr => ∃ k : Nat, k ≤ 2 ∧ i = .int .i64 k ∧ Own wr w.heap.size 61 v (catTo a b k) ∧ Below w.heap.size w wr) (fun _ _ i _ => 2 - (intOf i).toNat)
      case atStart => exact ⟨0, by omega, rfl, HoG.out, HbG.out⟩
      case round =>
        obtain ⟨k, hk, rfl, hown, hb3⟩ := hrel
        rcases (show k = 0 ∨ k = 1 ∨ k = 2 by omega) with rfl | rfl | rfl
        · have hown : Own wr w.heap.size 61 _ ([] : List (List Word)) := hown
          obtain ⟨A2, c2, rfl, _⟩ := hown.sl
          have hc := (hb3.cell (p := ⟨Q, 0, none⟩) hQ).trans H0.out
          have hz3 := hb3.size
          go_wp2_with (at_builtin; refine wpList_cat (α := List Word) _ rfl (.tmp 31) (.tmp 32) 39 rfl w.heap.size 61 (.slice none 0 0) 24 Tryd.underlying39 part_info rfl (by decide) _ [] rfl hown A c a.length a rfl rfl (fun b => b < w.heap.size) (Ha.out.keep (Kept.all hb3) hz3) (by intro i (hi : i < w.heap.size) _ e; have := (hown.lt i e.symm).1; omega) (by first | omega | (simp; done) | (simp; omega)) (by first | omega | (simp; done) | (simp; omega)) (by first | omega | (simp; done) | (simp; omega)) ?_; intro v2 w2 hown2 hg2 hat2)
          go_roundw
          case rel => exact ⟨1, by omega, rfl, by rw [List.nil_append] at hown2; exact hown2, below_cat hb3 hown hz3 hg2⟩
          case measure => simp [intOf]
        · have hown : Own wr w.heap.size 61 _ (a : List (List Word)) := hown
          obtain ⟨A2, c2, rfl, _⟩ := hown.sl
          have hc := (hb3.cell (p := ⟨Q, 1, none⟩) hQ).trans H1.out
          have hz3 := hb3.size
          go_wp2_with (at_builtin; refine wpList_cat (α := List Word) _ rfl (.tmp 31) (.tmp 32) 39 rfl w.heap.size 61 (.slice none 0 0) 24 Tryd.underlying39 part_info rfl (by decide) _ a rfl hown B d b.length b rfl rfl (fun b => b < w.heap.size) (Hb.out.keep (Kept.all hb3) hz3) (by intro i (hi : i < w.heap.size) _ e; have := (hown.lt i e.symm).1; omega) (by first | omega | (simp; done) | (simp; omega)) (by first | omega | (simp; done) | (simp; omega)) (by first | omega | (simp; done) | (simp; omega)) ?_; intro v2 w2 hown2 hg2 hat2)
          go_roundw
          case rel => exact ⟨2, by omega, rfl, hown2, below_cat hb3 hown hz3 hg2⟩
          case measure => simp [intOf]
        · go_wp2_with fail
          go_ret
          exact ⟨_, rfl, hown, hb3⟩
end Go.Proofs.YtgnblofjjondpaaDoor
