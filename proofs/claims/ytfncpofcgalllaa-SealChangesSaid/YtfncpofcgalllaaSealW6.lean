/- Index, Contains and Clone of the library, and many. No condition. -/
import Derived.Test.YtfncpofcgalllaaSealW5
import Derived.Lib.SliceRun
import Derived.Lib.LazyBuf
namespace Go.Proofs.Ytfncpofcgalllaa
open Go.RowKit
attribute [local go_sem ↓] Go.wp_at_zero Go.wp_at_succ
set_option maxHeartbeats 400000 in
theorem sindex_any (A : Option Addr) (c n : Nat) (l : List Seal) (s : Seal) (w : World) (hl : Sl w (fun b => b < w.heap.size) A c l) (hn : l.length = n) :
    Calls Try.prog 48 #[.slice A n c, .agg #[.int .i64 s.e, .int .i64 s.v, .int .i64 s.f, .int .i64 s.u, .int .i64 s.g]] w fun e w' => e = .returned (.int .i64 (idx s l 0)) ∧ Below w.heap.size w w' := by
  subst hn
  have hlen : l.length ≤ 9223372036854775807 := by have := hl.1; have := hl.2.1; unfold maxLen at this; omega
  go_enter Try.func48, Try.ntmps48
  go_wp2
  go_loopw [8] (fun i wr => ∃ k : Nat, k ≤ l.length ∧ i = .int .i64 k ∧ Hid (idx s l 0 = idx s (l.drop k) k) ∧ Below w.heap.size w wr ∧ wr.heap[w.heap.size]? = some (.cells s.cells.toArray 41 (0, 0)))
    (fun i _ => l.length - (intOf i).toNat)
  case atStart => exact ⟨0, Nat.zero_le _, rfl, rfl, (Below.refl _ _).alloc (Nat.le_refl _) _, heap_alloc_new w _⟩
  case round =>
    obtain ⟨k, hk, rfl, hi, hb, hB⟩ := hrel
    by_cases hlt : k < l.length
    · obtain ⟨b, o, rfl, hbS, hbl, hok, c0, c1, c2, c3, c4⟩ := seal_at (hl.keep (Kept.all hb) hb.size) hlt
      have hkl : (k : Int) < (l.length : Int) := by omega
      have hk0 : (0 : Int) ≤ (k : Int) := by omega
      obtain ⟨e0, e1, e2, e3, e4⟩ := seal_box hB
      have hq : ∀ w', (binOp .eql 41 (.agg #[.int .i64 s.e, .int .i64 s.v, .int .i64 s.f, .int .i64 s.u, .int .i64 s.g]) (.agg #[.int .i64 l[k].e, .int .i64 l[k].v, .int .i64 l[k].f, .int .i64 l[k].u, .int .i64 l[k].g])).run Try.prog w' = .ok (.bool (decide (s = l[k]))) w' := fun w' => eql_seal _ _ _
      by_cases heq : l[k] = s
      · rw [decide_eq_true heq.symm] at hq
        have Heq := Lib.hid (idx_hit s l k hlt heq)
        clear heq
        go_wp2_with fail
        go_quiet (fail)
        go_wp2_with fail
        go_ret
        exact ⟨ret_int (by rw [hi.out, Heq.out]), Below.dn hb _⟩
      · rw [decide_eq_false (Ne.symm heq)] at hq
        have Heq := Lib.hid (idx_miss s l k hlt heq)
        clear heq
        go_wp2_with fail
        go_quiet (fail)
        go_wp2_with fail
        go_roundw
        case rel => exact ⟨k + 1, by omega, by go_num, by rw [hi.out, Heq.out]; rfl, Below.dn hb _, hB⟩
        case measure => simp [intOf]; omega
    · go_wp2_with fail
      go_ret
      exact ⟨ret_int (by rw [hi.out, List.drop_of_length_le (by omega)]; rfl), hb⟩
set_option maxHeartbeats 400000 in
theorem contains_any (A : Option Addr) (c n : Nat) (l : List Seal) (s : Seal) (w : World) (hl : Sl w (fun b => b < w.heap.size) A c l) (hn : l.length = n) :
    Calls Try.prog 42 #[.slice A n c, .agg #[.int .i64 s.e, .int .i64 s.v, .int .i64 s.f, .int .i64 s.u, .int .i64 s.g]] w fun e w' => e = .returned (.bool (decide (s ∈ l))) ∧ Below w.heap.size w w' := by
  have hm := Lib.hid (idx_mem s l)
  go_enter Try.func42, Try.ntmps42
  go_wp2_with (go_at_call 48; refine (sindex_any A c n l s _ (hl.alloc _) hn).mono ?_; rintro e w1 ⟨rfl, hb1⟩; generalize idx s l 0 = q at *)
  go_ret
  exact ⟨ret_bool (decide_eq_decide.2 hm.out), ((Below.refl _ _).alloc (Nat.le_refl _) _).trans (hb1.mono (by simp))⟩
set_option maxHeartbeats 400000 in
theorem clone_any (A : Option Addr) (c n : Nat) (l : List Seal) (w : World) (hl : Sl w (fun b => b < w.heap.size) A c l) (hn : l.length = n) (hsz : n ≤ 1048576) :
    Calls Try.prog 43 #[.slice A n c] w fun e w' => ∃ v, e = .returned v ∧ Own w' w.heap.size 41 v l ∧ Below w.heap.size w w' := by
  have hq := fun w' => Lib.run_eql_slice_nil (P := Try.prog) w' 23 41 A n c 0 0 Try.underlying23
  cases A with
  | none =>
    have hl0 : l = [] := by
      by_cases h0 : 0 < l.length
      · obtain ⟨b, o, e, _⟩ := hl.2.2 h0; cases e
      · exact List.eq_nil_of_length_eq_zero (by omega)
    subst hl0
    simp only [Option.isNone_none] at hq
    go_enter Try.func43, Try.ntmps43
    go_wp2_with fail
    go_ret
    exact ⟨_, rfl, Own.nil _ _ _, Below.refl _ _⟩
  | some a =>
    simp only [Option.isNone_some] at hq
    go_enter Try.func43, Try.ntmps43
    go_wp2_with (at_builtin; refine wpList_cat (α := Seal) _ rfl (.tmp 5) (.tmp 6) 23 rfl w.heap.size 41 (.agg #[.int .i64 0, .int .i64 0, .int .i64 0, .int .i64 0, .int .i64 0]) 40 Try.underlying23 seal_info rfl (by decide) (.slice (some ⟨w.heap.size, 0, none⟩) 0 0) [] rfl (Own.made w _ _ (Nat.le_refl _)) (some a) c n l rfl hn (fun b => b < w.heap.size) (hl.keep (Kept.all ((Below.refl _ _).alloc (Nat.le_refl _) _)) (by simp)) (by intro i (hi : i < w.heap.size) _ e; simp [Value.ownBlock] at e; omega) (by simp; omega) (by simp; omega) (by simp) ?_; intro v2 w2 hown2 hg2 hat2)
    go_ret
    exact ⟨_, rfl, hown2, below_cat ((Below.refl _ _).alloc (Nat.le_refl _) _) (Own.made (α := Seal) w _ _ (Nat.le_refl _)) (by simp) hg2⟩
set_option maxHeartbeats 400000 in
theorem many_any (n : Nat) (w : World) (hn : n ≤ 2000) :
    Calls Try.prog 13 #[.int .i64 (n : Int)] w fun e w' => ∃ v, e = .returned v ∧ Own w' w.heap.size 41 v (manyS n) ∧ Below w.heap.size w w' := by
  go_enter Try.func13, Try.ntmps13
  go_wp2_with fail
  go_loopw [3, 4] (fun v i wr => ∃ k : Nat, k ≤ n ∧ i = .int .i64 k ∧ Own wr w.heap.size 41 v (manyS k) ∧ Below w.heap.size w wr) (fun _ i _ => n - (intOf i).toNat)
  case atStart => exact ⟨0, Nat.zero_le _, rfl, Own.nil _ _ _, Below.refl _ _⟩
  case round =>
    obtain ⟨k, hk, rfl, hown, hb⟩ := hrel
    obtain ⟨A1, c1, rfl, hs⟩ := hown.sl
    have hkl := manyS_length k
    have HS := Lib.hid (manyS_succ k)
    have hwz := hb.size
    by_cases hlt : k < n
    · have hok : (oneOf k).ok := by simp only [Seal.ok, oneOf, I64]; omega
      have Hkl := Lib.hid hkl
      have hkl' : (manyS k).length ≤ 2000 := by omega
      clear hkl
      go_wp2_with (at_builtin; refine wpList_push (α := Seal) _ rfl (.tmp 10) (.tmp 13) 23 rfl w.heap.size 41 (.agg #[.int .i64 0, .int .i64 0, .int .i64 0, .int .i64 0, .int .i64 0]) 40 Try.underlying23 seal_info rfl (by decide) _ _ rfl (hown.alloc _) wr.heap.size _ (oneOf k) (0, 0) 41 rfl (heap_alloc_new wr _) ⟨rfl, hok⟩ (by omega) (by omega) (by simp; omega) _ rfl ?_; intro g cap w2 hown2 hg2 hat2 hlt2)
      go_roundw
      case rel => exact ⟨k + 1, by omega, by go_num, by rw [HS.out]; exact hown2, below_push hb hown (by omega) hg2⟩
      case measure => simp [intOf]; omega
    · go_wp2_with fail
      go_ret
      obtain rfl : k = n := by omega
      exact ⟨_, rfl, hown, hb⟩
end Go.Proofs.Ytfncpofcgalllaa
