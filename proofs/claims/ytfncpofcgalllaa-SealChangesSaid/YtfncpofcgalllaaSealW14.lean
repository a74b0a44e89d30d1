/- The sort of a short list, from its entry on. No condition. -/
import Derived.Test.YtfncpofcgalllaaSealW13
import Derived.Test.YtfncpofcgalllaaShelf
namespace Go.Proofs.Ytfncpofcgalllaa
open Go.RowKit
attribute [local go_sem ↓] Go.wp_at_zero Go.wp_at_succ
set_option maxHeartbeats 400000 in
theorem pdq_any (v : Value) (base n : Nat) (k : Int) (l : List Seal) (w : World) (hown : Own w base 41 v l) (hn : l.length = n) (hsz : n ≤ 12) :
    Calls Try.prog 45 #[v, .int .i64 0, .int .i64 n, .int .i64 k, .func (.func 40) #[] #[]] w fun e w' => ∃ l', e = .returned (.tuple #[]) ∧ l'.Perm l ∧ byF l' ∧ Own w' base 41 v l' ∧ w.grownBy w' v.ownBlock := by
  go_enter Try.func45, Try.ntmps45
  go_wp2_with fail
  refine wp_loop_rounds 1 ?_
  rw [rounds_succ]
  go_wp2_with fail
  refine (isort_any v base n l w hown hn hsz).mono ?_
  rintro e w1 ⟨l', rfl, h1, h2, h3, h4⟩
  have H1 := Lib.hid h1
  have H2 := Lib.hid h2
  clear h1 h2
  go_wp2_with fail
  refine bodyPost_ret (results_none rfl _ _ _) rfl ?_
  exact ⟨l', rfl, H1.out, H2.out, h3, h4⟩
set_option maxHeartbeats 400000 in
theorem sort_any (v : Value) (base : Nat) (l : List Seal) (w : World) (hown : Own w base 41 v l) (hsz : l.length ≤ 12) :
    Calls Try.prog 39 #[v, .func (.func 40) #[] #[]] w fun e w' => ∃ l', e = .returned (.tuple #[]) ∧ l'.Perm l ∧ byF l' ∧ Own w' base 41 v l' ∧ w.grownBy w' v.ownBlock := by
  obtain ⟨A, c, rfl, hs⟩ := hown.sl
  go_enter Try.func39, Try.ntmps39
  go_wp2_with fail
  refine (bits_Len (l.length : Int) _ (by omega) (by omega)).mono ?_
  rintro e w1 ⟨rfl, rfl⟩
  generalize ((Lib.bitLen (l.length : Int).toNat : Nat) : Int) = k
  go_wp2_with fail
  refine (pdq_any (.slice A l.length c) base l.length k l _ hown rfl hsz).mono ?_
  rintro e w1 ⟨l', rfl, h1, h2, h3, h4⟩
  have H1 := Lib.hid h1
  have H2 := Lib.hid h2
  clear h1 h2
  go_wp2_with fail
  go_end0
  exact ⟨l', rfl, H1.out, H2.out, h3, h4⟩
end Go.Proofs.Ytfncpofcgalllaa
