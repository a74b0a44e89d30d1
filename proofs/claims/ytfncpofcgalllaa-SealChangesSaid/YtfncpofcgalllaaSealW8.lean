/- Lift of the reference returns the specified list and error. No condition. -/
import Derived.Test.YtfncpofcgalllaaSealW7
namespace Go.Proofs.Ytfncpofcgalllaa
open Go.RowKit
attribute [local go_sem ↓] Go.wp_at_zero Go.wp_at_succ
set_option maxHeartbeats 1000000 in
set_option maxRecDepth 100000 in
theorem radd_any (A : Option Addr) (c n : Nat) (l : List Seal) (s : Seal) (w : World) (hl : Sl w (fun b => b < w.heap.size) A c l) (hn : l.length = n) (hs : s.ok) :
    Calls Try.prog 28 #[.slice A n c, .agg #[.int .i64 s.e, .int .i64 s.v, .int .i64 s.f, .int .i64 s.u, .int .i64 s.g]] w fun e w' => ∃ v, e = .returned (.tuple #[v, .int .i64 (addE l s).2]) ∧ Own w' w.heap.size 41 v (addE l s).1 ∧ Below w.heap.size w w' := by
  subst hn
  obtain ⟨out, er, hae⟩ : ∃ out er, addE l s = (out, er) := ⟨_, _, rfl⟩
  rw [hae]
  unfold addE at hae
  have Hae := Lib.hid hae
  clear hae
  have hlen : l.length ≤ 9223372036854775807 := by have := hl.1; have := hl.2.1; unfold maxLen at this; omega
  have hbx : (w.alloc (.cells s.cells.toArray 41)).heap[w.heap.size]? = some (.cells s.cells.toArray 41 (0, 0)) := heap_alloc_new w _
  have Hbx := Lib.hid hbx
  have Hb0 := Lib.hid ((Below.refl w.heap.size w).alloc (Nat.le_refl _) (.cells s.cells.toArray 41))
  clear hbx
  go_enter Try.func28, Try.ntmps28
  go_wp2_with fail
  refine (rvalid_any s _).mono ?_
  rintro e w1 ⟨rfl, hb1⟩
  have hB1 := (hb1.block w.heap.size (by simp)).trans Hbx.out
  obtain ⟨e0, e1, e2, e3, e4⟩ := seal_box hB1
  have hbw1 : Below w.heap.size w w1 := Hb0.out.trans (hb1.mono (by simp))
  have hz1 : w.heap.size + 1 ≤ w1.heap.size := by have := hb1.size; simpa using this
  cases hv : vld s
  · rw [hv, if_pos rfl] at Hae
    obtain ⟨rfl, rfl⟩ := Prod.mk.inj Hae.out
    have Hv := Lib.hid hv
    clear hv
    go_wp2_with fail
    go_ret2
    exact ⟨_, rfl, Own.nil _ _ _, hbw1⟩
  · rw [hv, if_neg (by simp)] at Hae
    have Hv := Lib.hid hv
    have HB1 := Lib.hid hB1
    clear hB1 hv
    go_wp2_with fail
    refine (index_n A c l.length l s _ (hl.to hbw1) rfl hs).mono ?_
    rintro e w2 ⟨rfl, hb2⟩
    have HB2 := Lib.hid ((hb2.block w.heap.size (by omega)).trans HB1.out)
    obtain ⟨d0, d1, d2, d3, d4⟩ := seal_box HB2.out
    have hbw2 : Below w.heap.size w w2 := hbw1.trans (hb2.mono hbw1.size)
    have hz2 : w.heap.size + 1 ≤ w2.heap.size := by have := hb2.size; omega
    clear e0 e1 e2 e3 e4
    by_cases hin : s ∈ l
    · rw [if_pos hin] at Hae
      obtain ⟨rfl, rfl⟩ := Prod.mk.inj Hae.out
      have hq : 0 ≤ idx s l 0 := (idx_mem _ _).2 hin
      generalize idx s l 0 = q at *
      clear hin
      go_wp2_with fail
      go_ret2
      exact ⟨_, rfl, Own.nil _ _ _, hbw2⟩
    · rw [if_neg hin] at Hae
      have hq : idx s l 0 < 0 := by have := mt (idx_mem s l).1 hin; omega
      generalize idx s l 0 = q at *
      clear hin
      by_cases hbig : 1000 ≤ l.length
      · rw [if_pos hbig] at Hae
        obtain ⟨rfl, rfl⟩ := Prod.mk.inj Hae.out
        go_wp2_with fail
        go_ret2
        exact ⟨_, rfl, Own.nil _ _ _, hbw2⟩
      · rw [if_neg hbig] at Hae
        obtain ⟨rfl, rfl⟩ := Prod.mk.inj Hae.out
        have hbig' : l.length < 1000 := by omega
        clear hbig
        have hl2 := hl.keep (Kept.all hbw2) hbw2.size
        go_wp2_with (first
          | (at_builtin; refine wpList_cat (α := Seal) _ rfl (.tmp 17) (.tmp 18) 23 rfl w.heap.size 41 (.agg #[.int .i64 0, .int .i64 0, .int .i64 0, .int .i64 0, .int .i64 0]) 40 Try.underlying23 seal_info rfl (by decide) (.slice none 0 0) [] rfl (Own.nil w2 _ _) A c l.length l rfl rfl (fun b => b < w.heap.size) hl2 (by intro i _ _ e; simp [Value.ownBlock] at e) (by first | omega | (simp; omega)) (by first | omega | (simp; omega)) (by first | omega | (simp; omega)) ?_; intro v3 w3 hown3 hg3 hat3; rw [List.nil_append] at hown3; obtain ⟨A3, c3, e3, hs3, hc3, hc3'⟩ := hown3.form; subst e3; have hbb3 : Below w2.heap.size w2 w3 := (Below.refl _ _).grown hg3 (Nat.le_refl _) (by simp [Value.ownBlock]); obtain ⟨f0, f1, f2, f3, f4⟩ := seal_box ((hbb3.block w.heap.size (by omega)).trans HB2.out); have hz3 : w.heap.size + 1 ≤ w3.heap.size := by have := hbb3.size; omega)
          | (at_builtin; refine wpList_push (α := Seal) _ rfl (.tmp 20) (.tmp 22) 23 rfl w.heap.size 41 (.agg #[.int .i64 0, .int .i64 0, .int .i64 0, .int .i64 0, .int .i64 0]) 40 Try.underlying23 seal_info rfl (by decide) _ _ rfl (hown3.alloc _) w3.heap.size _ s (0, 0) 41 rfl (heap_alloc_new w3 _) ⟨rfl, hs⟩ (by first | omega | (simp; omega)) (by first | omega | (simp; omega)) (by first | omega | (simp; omega)) _ rfl ?_; intro g4 cap4 w4 hown4 hg4 hat4 hlt4))
        go_ret2
        exact ⟨_, rfl, hown4, below_push (hbw2.trans (hbb3.mono hbw2.size)) hown3 (by omega) hg4⟩
end Go.Proofs.Ytfncpofcgalllaa
