/- Lift and Add of the program return what is specified. No condition. -/
import Derived.Test.YtfncpofcgalllaaSealW9
namespace Go.Proofs.Ytfncpofcgalllaa
open Go.RowKit
attribute [local go_sem ↓] Go.wp_at_zero Go.wp_at_succ
/-- Lift's list by the program. -/
def sliftE (l : List Seal) (s : Seal) : List Seal × Int := if s ∈ l then (l.filter (fun x => !decide (x = s)), 0) else ([], 3)
set_option maxHeartbeats 1000000 in
set_option maxRecDepth 100000 in
theorem slift_any (A : Option Addr) (c n : Nat) (l : List Seal) (s : Seal) (w : World) (hl : Sl w (fun b => b < w.heap.size) A c l) (hn : l.length = n) (hsz : n ≤ 1048576) :
    Calls Try.prog 29 #[.slice A n c, .agg #[.int .i64 s.e, .int .i64 s.v, .int .i64 s.f, .int .i64 s.u, .int .i64 s.g]] w fun e w' => ∃ v, e = .returned (.tuple #[v, .int .i64 (sliftE l s).2]) ∧ Own w' w.heap.size 41 v (sliftE l s).1 ∧ Below w.heap.size w w' := by
  subst hn
  obtain ⟨out, er, hae⟩ : ∃ out er, sliftE l s = (out, er) := ⟨_, _, rfl⟩
  rw [hae]
  unfold sliftE at hae
  have Hae := Lib.hid hae
  clear hae
  have hbx : (w.alloc (.cells s.cells.toArray 41)).heap[w.heap.size]? = some (.cells s.cells.toArray 41 (0, 0)) := heap_alloc_new w _
  have Hbx := Lib.hid hbx
  clear hbx
  have Hb0 := Lib.hid ((Below.refl w.heap.size w).alloc (Nat.le_refl _) (.cells s.cells.toArray 41))
  go_enter Try.func29, Try.ntmps29
  go_wp2_with fail
  refine (contains_any A c l.length l s _ (hl.alloc _) rfl).mono ?_
  rintro e w1 ⟨rfl, hb1⟩
  have hB1 := Lib.hid ((hb1.block w.heap.size (by simp)).trans Hbx.out)
  have hbw1 : Below w.heap.size w w1 := Hb0.out.trans (hb1.mono (by simp))
  have hz1 : w.heap.size + 1 ≤ w1.heap.size := by have := hb1.size; simpa using this
  by_cases hin : s ∈ l
  · rw [if_pos hin] at Hae
    obtain ⟨rfl, rfl⟩ := Prod.mk.inj Hae.out
    rw [decide_eq_true hin]
    clear hin Hae
    go_wp2_with fail
    refine (selected_1 A c l.length l 44 (.pointer (some ⟨w.heap.size, 0, none⟩)) (fun x => !decide (x = s)) _ (hl.to hbw1) rfl hsz (fun _ _ => by kernel_rfl) (fun x w' hb => liftc_any x s w.heap.size w' (0, 0) 41 ((hb.block w.heap.size (by omega)).trans hB1.out))).mono ?_
    rintro e w2 ⟨v, rfl, hown2, hb2⟩
    have HO := Lib.hid hown2
    have HB := Lib.hid hb2
    clear hown2 hb2
    go_wp2_with fail
    go_ret2
    refine ⟨_, rfl, ?_, hbw1.trans (HB.out.mono hbw1.size)⟩
    obtain ⟨xs, hx, ho, hr⟩ := HO.out
    exact ⟨xs, ⟨hx.1, hx.2.imp id (fun ⟨g, cap, cur, h1, h2, h3⟩ => ⟨g, cap, cur, h1, by omega, h3⟩)⟩, ho, hr⟩
  · rw [if_neg hin] at Hae
    obtain ⟨rfl, rfl⟩ := Prod.mk.inj Hae.out
    rw [decide_eq_false hin]
    clear hin
    go_wp2_with fail
    go_ret2
    exact ⟨_, rfl, Own.nil _ _ _, hbw1⟩
set_option maxHeartbeats 1000000 in
set_option maxRecDepth 100000 in
theorem sadd_any (A : Option Addr) (c n : Nat) (l : List Seal) (s : Seal) (w : World) (hl : Sl w (fun b => b < w.heap.size) A c l) (hn : l.length = n) (hs : s.ok) :
    Calls Try.prog 26 #[.slice A n c, .agg #[.int .i64 s.e, .int .i64 s.v, .int .i64 s.f, .int .i64 s.u, .int .i64 s.g]] w fun e w' => ∃ v, e = .returned (.tuple #[v, .int .i64 (addE l s).2]) ∧ Own w' w.heap.size 41 v (addE l s).1 ∧ Below w.heap.size w w' := by
  subst hn
  obtain ⟨out, er, hae⟩ : ∃ out er, addE l s = (out, er) := ⟨_, _, rfl⟩
  rw [hae]
  unfold addE at hae
  have Hae := Lib.hid hae
  clear hae
  have hlen : l.length ≤ 9223372036854775807 := by have := hl.1; have := hl.2.1; unfold maxLen at this; omega
  have hbx : (w.alloc (.cells s.cells.toArray 41)).heap[w.heap.size]? = some (.cells s.cells.toArray 41 (0, 0)) := heap_alloc_new w _
  have Hbx := Lib.hid hbx
  have Hb0 := Lib.hid ((Below.refl w.heap.size w).alloc (Nat.le_refl _) (.cells s.cells.toArray 41))
  clear hbx
  go_enter Try.func26, Try.ntmps26
  go_wp2_with fail
  refine (valid_any s _).mono ?_
  rintro e w1 ⟨rfl, hb1⟩
  have hB1 := (hb1.block w.heap.size (by simp)).trans Hbx.out
  obtain ⟨e0, e1, e2, e3, e4⟩ := seal_box hB1
  have hbw1 : Below w.heap.size w w1 := Hb0.out.trans (hb1.mono (by simp))
  have hz1 : w.heap.size + 1 ≤ w1.heap.size := by have := hb1.size; simpa using this
  cases hv : vld s
  · rw [hv, if_pos rfl] at Hae
    obtain ⟨rfl, rfl⟩ := Prod.mk.inj Hae.out
    have Hv := Lib.hid hv
    clear hv
    go_wp2_with fail
    go_ret2
    exact ⟨_, rfl, Own.nil _ _ _, hbw1⟩
  · rw [hv, if_neg (by simp)] at Hae
    have Hv := Lib.hid hv
    have HB1 := Lib.hid hB1
    clear hB1 hv
    go_wp2_with fail
    refine (contains_any A c l.length l s _ (hl.to hbw1) rfl).mono ?_
    rintro e w2 ⟨rfl, hb2⟩
    have HB2 := Lib.hid ((hb2.block w.heap.size (by omega)).trans HB1.out)
    obtain ⟨d0, d1, d2, d3, d4⟩ := seal_box HB2.out
    have hbw2 : Below w.heap.size w w2 := hbw1.trans (hb2.mono hbw1.size)
    have hz2 : w.heap.size + 1 ≤ w2.heap.size := by have := hb2.size; omega
    clear e0 e1 e2 e3 e4
    by_cases hin : s ∈ l
    · rw [if_pos hin] at Hae
      obtain ⟨rfl, rfl⟩ := Prod.mk.inj Hae.out
      rw [decide_eq_true hin]
      clear hin
      go_wp2_with fail
      go_ret2
      exact ⟨_, rfl, Own.nil _ _ _, hbw2⟩
    · rw [if_neg hin] at Hae
      rw [decide_eq_false hin]
      clear hin
      by_cases hbig : 1000 ≤ l.length
      · rw [if_pos hbig] at Hae
        obtain ⟨rfl, rfl⟩ := Prod.mk.inj Hae.out
        go_wp2_with fail
        go_ret2
        exact ⟨_, rfl, Own.nil _ _ _, hbw2⟩
      · rw [if_neg hbig] at Hae
        obtain ⟨rfl, rfl⟩ := Prod.mk.inj Hae.out
        have hbig' : l.length < 1000 := by omega
        clear hbig
        have hl2 := hl.to hbw2
        go_wp2_with fail
        have hne0 := World.new_ne w2 ⟨w.heap.size, 0, none⟩ d0
        have hne1 := World.new_ne w2 ⟨w.heap.size, 1, none⟩ d1
        have hne2 := World.new_ne w2 ⟨w.heap.size, 2, none⟩ d2
        have hne3 := World.new_ne w2 ⟨w.heap.size, 3, none⟩ d3
        have hne4 := World.new_ne w2 ⟨w.heap.size, 4, none⟩ d4
        go_region_held3 (fun w' => w'.cell? ⟨w.heap.size, 0, none⟩ = some (.int .i64 s.e) ∧ w'.cell? ⟨w.heap.size, 1, none⟩ = some (.int .i64 s.v) ∧ w'.cell? ⟨w.heap.size, 2, none⟩ = some (.int .i64 s.f) ∧ w'.cell? ⟨w.heap.size, 3, none⟩ = some (.int .i64 s.u) ∧ w'.cell? ⟨w.heap.size, 4, none⟩ = some (.int .i64 s.g)) (go_keep)
          (first
            | ((refine step_push (α := Seal) _ (by rfl) (.tmp 19) (.tmp 21) 23 (by rfl) _ 41 (.agg #[.int .i64 0, .int .i64 0, .int .i64 0, .int .i64 0, .int .i64 0]) 40 Try.underlying23 seal_info rfl (by decide) _ _ (by rfl) (hown3.alloc _) w3.heap.size _ s (0, 0) 41 (by rfl) (heap_alloc_new w3 _) ⟨rfl, hs⟩ (by first | omega | (simp; omega)) (by first | omega | (simp; omega)) (by first | omega | (simp; omega)) _ rfl ?_); intro g4 cap4 w4 hown4 hg4 hat4 hlt4; obtain ⟨_, _, _, _, _⟩ := seal_box ((keep_push hown3 hg4 (b := w.heap.size) (by omega) (by omega)).trans HB3))
            | ((refine step_push (α := Seal) _ (by rfl) (.tmp 19) (.tmp 21) 23 (by rfl) _ 41 (.agg #[.int .i64 0, .int .i64 0, .int .i64 0, .int .i64 0, .int .i64 0]) 40 Try.underlying23 seal_info rfl (by decide) _ _ (by rfl) hown5 w2.heap.size _ s (0, 0) 41 (by rfl) HB5 ⟨rfl, hs⟩ (by first | omega | (simp; omega)) (by first | omega | (simp; omega)) (by first | omega | (simp; omega)) _ rfl ?_); intro g4 cap4 w4 hown4 hg4 hat4 hlt4; obtain ⟨_, _, _, _, _⟩ := seal_box ((keep_cat hown5 hg4 (b := w.heap.size) (by omega) (by omega)).trans HB6))
            | (go_at_call 43; (with_reducible refine (clone_any A c l.length l _ (hl2.drew) rfl (by omega)).mono ?_); rintro e w3 ⟨v3, rfl, hown3, hb3⟩; have hz3 : w2.heap.size ≤ w3.heap.size := hb3.size; replace hown3 := hown3.re (B := w.heap.size + 1) (by show _ ≤ w2.heap.size; omega); have HB3 := (hb3.block w.heap.size (by show _ < w2.heap.size; omega)).trans HB2.out; obtain ⟨f0, f1, f2, f3, f4⟩ := seal_box HB3)
            | (go_at_call 43; (with_reducible refine (clone_any A c l.length l _ ((hl2.alloc _).drew) rfl (by omega)).mono ?_); rintro e w5 ⟨v5, rfl, hown5, hb5⟩; have hz5 : w2.heap.size + 1 ≤ w5.heap.size := (by have := hb5.size; simpa using this); have hl5 : Below w.heap.size w w5 := hbw2.trans ((((Below.refl _ _).alloc (Nat.le_refl _) _).drew.trans (hb5.mono (by simp))).mono hbw2.size); replace hown5 := hown5.re (B := w.heap.size + 1) (by simp; omega); have HB5 := (hb5.block w2.heap.size (by simp)).trans (heap_alloc_new w2 _); have HB6 := (hb5.block w.heap.size (by simp; omega)).trans ((Below.heap_alloc w2 _ w.heap.size (by omega)).trans HB2.out); obtain ⟨f0, f1, f2, f3, f4⟩ := seal_box HB6)
            )
        all_goals go_wp2_with fail
        all_goals go_ret2
        · exact ⟨_, rfl, hown4.re (by omega), below_push (hbw2.drew.trans (hb3.mono hbw2.size)) (hown3.re (by omega)) (by omega) hg4⟩
        · exact ⟨_, rfl, hown4.re (by omega), below_cat hl5 (hown5.re (by omega)) (by omega) hg4⟩
end Go.Proofs.Ytfncpofcgalllaa
