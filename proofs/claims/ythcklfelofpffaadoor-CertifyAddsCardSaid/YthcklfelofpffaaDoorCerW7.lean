/- slices.Grow and slices.Concat at bytes; the hash value of an inner node. No condition but what the table holds. -/
import Derived.Test.YthcklfelofpffaaDoorCerW6
import Derived.Test.YthcklfelofpffaaDoorShelfGrowB
namespace Go.Proofs.YthcklfelofpffaaDoor
open Go.RowKit
theorem grow_nil (n : Nat) (w : World) (hn : n ≤ 4194304) :
    Calls Tryd.prog 93 #[.slice none 0 0, .int .i64 (n : Int)] w fun e w' => ∃ v, e = .returned v ∧ Own w' w.heap.size 5 v ([] : List UInt8) ∧ Below w.heap.size w w' := by
  by_cases h0 : n = 0
  · subst h0
    exact (Any8.slices_Grow_room growW none 0 0 0 w (by omega) (by omega) (by omega) (by omega)).mono fun e w' ⟨he, hw⟩ => ⟨_, he, Own.nil _ _ _, by rw [hw]; exact Below.refl _ _⟩
  · obtain ⟨i, hi, hz, hz1, hz2⟩ := info_parts b_info
    have h1 := grownCap_ge w (0 + n) 0 (growW_ren.t 25)
    have h2 := grownCap_le_maxLen w (0 + n) 0 (growW_ren.t 25) (by unfold maxLen; omega)
    refine (Any8.slices_Grow_grow growW i (.int .u8 0) hi hz (by rw [hz1]; decide) none 0 0 n [] w (by omega) (by omega) (by rw [hz2]; omega) (by omega) (by simp) (fun _ => rfl) (fun a h => by cases h)).mono ?_
    rintro e w' ⟨he, rfl⟩
    refine ⟨_, he, ⟨[], ⟨by simp, .inr ⟨w.heap.size, _, _, rfl, Nat.le_refl _, heap_alloc_new w.drew _, by simp, h2, ?_, by simp⟩⟩, by simp, fun i h => absurd h (by simp)⟩, ?_⟩
    · have e : (Value.int .u8 0).cells.size = 1 := rfl
      simp only [Array.size_append, size_zeroCells, e, Nat.mul_one]
      show 0 + (0 + n - 0) + (_ - (0 + n)) = _ * 1
      omega
    · exact ((Below.refl _ _).drew).alloc (Nat.le_refl _) _
/-- What the first k of three lists make. -/
def catTo {α : Type} (a b c : List α) : Nat → List α
  | 0 => []
  | 1 => a
  | 2 => a ++ b
  | _ => a ++ b ++ c
set_option maxHeartbeats 1000000 in
theorem concat_any (Q : Nat) (A B C : Option Addr) (ca cb cc : Nat) (a b c : List UInt8) (w : World) (h0 : w.cell? ⟨Q, 0, none⟩ = some (.slice A a.length ca)) (h1 : w.cell? ⟨Q, 1, none⟩ = some (.slice B b.length cb)) (h2 : w.cell? ⟨Q, 2, none⟩ = some (.slice C c.length cc))
    (ha : Sl w (fun b => b < w.heap.size) A ca a) (hb : Sl w (fun b => b < w.heap.size) B cb b) (hc : Sl w (fun b => b < w.heap.size) C cc c) (hla : a.length ≤ 1048576) (hlb : b.length ≤ 1048576) (hlc : c.length ≤ 1048576) :
    Calls Tryd.prog 74 #[.slice (some ⟨Q, 0, none⟩) 3 3] w fun e w' => ∃ v, e = .returned v ∧ Own w' w.heap.size 5 v (a ++ b ++ c) ∧ Below w.heap.size w w' := by
  have Ha := Lib.hid ha
  have Hb := Lib.hid hb
  have Hc := Lib.hid hc
  have H0 := Lib.hid h0
  have H1 := Lib.hid h1
  have H2 := Lib.hid h2
  have hQ := World.block_lt_of_cell? w _ h0
  clear ha hb hc
  go_enter Tryd.func74, Tryd.ntmps74
  go_wp2_with fail
  go_loop [3, 5, 11] (fun n _ i => ∃ k : Nat, k ≤ 3 ∧ i = .int .i64 k ∧ n = .int .i64 ((catTo a b c k).length : Int)) (fun _ _ i => 3 - (intOf i).toNat)
  case atStart => exact ⟨0, by omega, rfl, rfl⟩
  case round =>
    obtain ⟨k, hk, rfl, rfl⟩ := hrel
    rcases (show k = 0 ∨ k = 1 ∨ k = 2 ∨ k = 3 by omega) with rfl | rfl | rfl | rfl
    · have e : (catTo a b c 0).length = 0 := rfl
      rw [e]
      clear e
      go_wp2_with fail
      go_round
      case rel => exact ⟨1, by omega, rfl, by simp [catTo]⟩
      case measure => simp [intOf]
    · have e : (catTo a b c 1).length = a.length := rfl
      rw [e]
      clear e
      go_wp2_with fail
      go_round
      case rel => exact ⟨2, by omega, rfl, by simp [catTo]⟩
      case measure => simp [intOf]
    · have e : (catTo a b c 2).length = a.length + b.length := by simp [catTo]
      rw [e]
      clear e
      go_wp2_with fail
      go_round
      case rel => exact ⟨3, by omega, rfl, by simp [catTo]; try omega⟩
      case measure => simp [intOf]
    · have e : (catTo a b c 3).length = a.length + b.length + c.length := by simp [catTo]; try omega
      rw [e]
      clear e h0 h1 h2
      go_wp2_with fail
      refine (grow_nil (a.length + b.length + c.length) w (by omega)).mono ?_
      rintro e wG ⟨v, rfl, hownG, hbG⟩
      have HbG := Lib.hid hbG
      have HoG := Lib.hid hownG
      clear hbG hownG
      go_wp2_with fail
      go_loopw [6, 8, 27] (fun v _ i wr => ∃ k : Nat, k ≤ 3 ∧ i = .int .i64 k ∧ Own wr w.heap.size 5 v (catTo a b c k) ∧ Below w.heap.size w wr) (fun _ _ i _ => 3 - (intOf i).toNat)
      case atStart => exact ⟨0, by omega, rfl, HoG.out, HbG.out⟩
      case round =>
        obtain ⟨k, hk, rfl, hown, hb3⟩ := hrel
        rcases (show k = 0 ∨ k = 1 ∨ k = 2 ∨ k = 3 by omega) with rfl | rfl | rfl | rfl
        · skip
          have hown : Own wr w.heap.size 5 _ ([] : List UInt8) := hown
          obtain ⟨A2, c2, rfl, _⟩ := hown.sl
          have hc := (hb3.cell (p := ⟨Q, 0, none⟩) hQ).trans H0.out
          have hz3 := hb3.size
          go_wp2_with (at_builtin; refine wpList_cat (α := UInt8) _ rfl (.tmp 31) (.tmp 32) 59 rfl w.heap.size 5 (.int .u8 0) 1 Tryd.underlying59 b_info rfl (by decide) _ ([]) rfl hown A ca a.length a rfl rfl (fun b => b < w.heap.size) (Ha.out.keep (Kept.all hb3) hz3) (by intro i (hi : i < w.heap.size) _ e; have := (hown.lt i e.symm).1; omega) (by first | omega | (simp; done) | (simp; omega)) (by first | omega | (simp; done) | (simp; omega)) (by first | omega | (simp; done) | (simp; omega)) ?_; intro v2 w2 hown2 hg2 hat2)
          go_roundw
          case rel => exact ⟨1, by omega, rfl, by rw [List.nil_append] at hown2; exact hown2, below_cat hb3 hown hz3 hg2⟩
          case measure => simp [intOf]
        · skip
          have hown : Own wr w.heap.size 5 _ (a : List UInt8) := hown
          obtain ⟨A2, c2, rfl, _⟩ := hown.sl
          have hc := (hb3.cell (p := ⟨Q, 1, none⟩) hQ).trans H1.out
          have hz3 := hb3.size
          go_wp2_with (at_builtin; refine wpList_cat (α := UInt8) _ rfl (.tmp 31) (.tmp 32) 59 rfl w.heap.size 5 (.int .u8 0) 1 Tryd.underlying59 b_info rfl (by decide) _ (a) rfl hown B cb b.length b rfl rfl (fun b => b < w.heap.size) (Hb.out.keep (Kept.all hb3) hz3) (by intro i (hi : i < w.heap.size) _ e; have := (hown.lt i e.symm).1; omega) (by first | omega | (simp; done) | (simp; omega)) (by first | omega | (simp; done) | (simp; omega)) (by first | omega | (simp; done) | (simp; omega)) ?_; intro v2 w2 hown2 hg2 hat2)
          go_roundw
          case rel => exact ⟨2, by omega, rfl, hown2, below_cat hb3 hown hz3 hg2⟩
          case measure => simp [intOf]
        · skip
          have hown : Own wr w.heap.size 5 _ (a ++ b : List UInt8) := hown
          obtain ⟨A2, c2, rfl, _⟩ := hown.sl
          have hc := (hb3.cell (p := ⟨Q, 2, none⟩) hQ).trans H2.out
          have hz3 := hb3.size
          go_wp2_with (at_builtin; refine wpList_cat (α := UInt8) _ rfl (.tmp 31) (.tmp 32) 59 rfl w.heap.size 5 (.int .u8 0) 1 Tryd.underlying59 b_info rfl (by decide) _ (a ++ b) rfl hown C cc c.length c rfl rfl (fun b => b < w.heap.size) (Hc.out.keep (Kept.all hb3) hz3) (by intro i (hi : i < w.heap.size) _ e; have := (hown.lt i e.symm).1; omega) (by first | omega | (simp; done) | (simp; omega)) (by first | omega | (simp; done) | (simp; omega)) (by first | omega | (simp; done) | (simp; omega)) ?_; intro v2 w2 hown2 hg2 hat2)
          go_roundw
          case rel => exact ⟨3, by omega, rfl, hown2, below_cat hb3 hown hz3 hg2⟩
          case measure => simp [intOf]
        · go_wp2_with fail
          go_ret
          exact ⟨_, rfl, hown, hb3⟩
end Go.Proofs.YthcklfelofpffaaDoor
