/- Seals makes the specified list. No condition. -/
import Derived.Test.YtfncpofcgalllaaSealW3
namespace Go.Proofs.Ytfncpofcgalllaa
open Go.RowKit
theorem seal_info : (Try.prog.info? 41).map (fun i => (i.zero, i.size, i.bytes)) = some (some (.agg #[.int .i64 0, .int .i64 0, .int .i64 0, .int .i64 0, .int .i64 0]), Rep.size Seal, 40) := by kernel_rfl
instance : Rep Int where
  size := 1
  R _ _ cs n := cs = [.int .i64 n] ∧ I64 n
  len := by rintro w S cs s ⟨rfl, _⟩; rfl
  one := by rintro w S cs s ⟨rfl, _⟩ u hu; simp at hu; rcases hu with rfl; rfl
  keep := by rintro w w' S cs s h _; exact h
  mono := by rintro w S S' cs s h _; exact h
theorem int_at {w : World} {S : Nat → Prop} {A : Option Addr} {c : Nat} {l : List Int} (h : Sl w S A c l) {k : Nat} (hk : k < l.length) :
    ∃ b o, A = some ⟨b, o, none⟩ ∧ S b ∧ b < w.heap.size ∧ I64 l[k] ∧ w.cell? ⟨b, o + k, none⟩ = some (.int .i64 l[k]) := by
  obtain ⟨b, o, es, rfl, hb, hlt, ⟨rfl, hok⟩, hc⟩ := h.at_ hk
  have := hc 0 _ rfl
  exact ⟨b, o, rfl, hb, hlt, hok, by simpa [Rep.size] using this⟩
set_option maxHeartbeats 1000000 in
theorem seals_any (A : Option Addr) (c : Nat) (l : List Int) (w : World) (hl : Sl w (fun b => b < w.heap.size) A c l) :
    Calls Try.prog 12 #[.slice A l.length c] w fun e w' => ∃ v, e = .returned v ∧ Own w' w.heap.size 41 v (seals l) ∧ Below w.heap.size w w' := by
  have hlen : l.length ≤ 9223372036854775807 := by have := hl.1; have := hl.2.1; unfold maxLen at this; omega
  go_enter Try.func12, Try.ntmps12
  go_wp2_with fail
  go_loopw [3, 4] (fun v i wr => ∃ k : Nat, k ≤ l.length ∧ k ≤ 8 ∧ i = .int .i64 k ∧ Own wr w.heap.size 41 v (sealsTo l k) ∧ Below w.heap.size w wr) (fun _ i _ => l.length - (intOf i).toNat)
  case atStart => exact ⟨0, Nat.zero_le _, by omega, rfl, Own.nil _ _ _, Below.refl _ _⟩
  case round =>
    obtain ⟨k, hk, hk8, rfl, hown, hb⟩ := hrel
    by_cases hlt : k < l.length ∧ k < 8
    · obtain ⟨hlt, hlt8⟩ := hlt
      obtain ⟨b, o, rfl, hbS, hbl, hok, hc⟩ := int_at (hl.to hb) hlt
      have hkl : (k : Int) < (l.length : Int) := by omega
      have hle := sealsTo_le l k
      have HS := Lib.hid (sealsTo_succ l k hlt)
      unfold addSeal at HS
      have hr := aro_lt l[k] 10000000 (by omega)
      obtain ⟨A1, c1, rfl, hs⟩ := hown.sl
      go_wp2_with (go_at_call 14; refine (around_any _ _ _ hok (by omega) (by omega)).mono ?_; rintro e w' ⟨rfl, rfl⟩; generalize aro l[k] 10000000 = n at *)
      have hbx : (wr.alloc (.cells (mkSeal n).cells.toArray 41)).heap[wr.heap.size]? = some (.cells (mkSeal n).cells.toArray 41 (0, 0)) := heap_alloc_new wr _
      refine (index_any A1 c1 (sealsTo l k) (mkSeal n) _ (hs.alloc _) (mkSeal_ok n)).mono ?_
      rintro e w1 ⟨rfl, hb1⟩
      have hB1 := (hb1.block wr.heap.size (by simp)).trans hbx
      obtain ⟨e0, e1, e2, e3, e4⟩ := seal_box hB1
      clear hB1
      simp only [mkSeal] at e0 e1 e2 e3 e4
      have hbb1 : Below wr.heap.size wr w1 := ((Below.refl _ _).alloc (Nat.le_refl _) _).trans (hb1.mono (by simp))
      have hz := hbb1.size
      have hown1 := hown.below hbb1
      have hbw1 : Below w.heap.size w w1 := hb.trans (hbb1.mono hb.size)
      clear hb1 hbx hs hc hr hlen
      have hwz := hb.size
      by_cases hneg : idx (mkSeal n) (sealsTo l k) 0 < 0
      · rw [if_pos hneg] at HS
        generalize idx (mkSeal n) (sealsTo l k) 0 = q at *
        go_wp2_with (at_builtin; refine wpList_push (α := Seal) _ rfl (.tmp 46) (.tmp 48) 23 rfl w.heap.size 41 (.agg #[.int .i64 0, .int .i64 0, .int .i64 0, .int .i64 0, .int .i64 0]) 40 Try.underlying23 seal_info rfl (by decide) _ _ rfl (hown1.alloc _) w1.heap.size _ (mkSeal n) (0, 0) 41 rfl (heap_alloc_new w1 _) ⟨rfl, mkSeal_ok n⟩ (by omega) (by omega) (by simp; omega) _ rfl ?_; intro g cap w2 hown2 hg2 hat2 hlt2)
        go_roundw
        case rel => exact ⟨k + 1, by omega, by omega, by go_num, by rw [HS.out]; exact hown2, below_push hbw1 hown1 (by omega) hg2⟩
        case measure => simp [intOf]; omega
      · rw [if_neg hneg] at HS
        generalize idx (mkSeal n) (sealsTo l k) 0 = q at *
        go_wp2_with fail
        go_roundw
        case rel => exact ⟨k + 1, by omega, by omega, by go_num, by rw [HS.out]; exact hown1, hbw1⟩
        case measure => simp [intOf]; omega
    · have hfin : seals l = sealsTo l k := seals_at l k hk8 (by omega)
      have Hfin := Lib.hid hfin
      clear hfin
      by_cases hlt : k < l.length
      · obtain rfl : k = 8 := by omega
        go_wp2_with fail
        go_ret
        exact ⟨_, rfl, by rw [Hfin.out]; exact hown, hb⟩
      · go_wp2_with fail
        go_ret
        exact ⟨_, rfl, by rw [Hfin.out]; exact hown, hb⟩
end Go.Proofs.Ytfncpofcgalllaa
