/- May of the program; Groups and May of the reference. No condition. -/
import Derived.Test.YtfncpofcgalllaaSealW11
namespace Go.Proofs.Ytfncpofcgalllaa
open Go.RowKit
attribute [local go_sem ↓] Go.wp_at_zero Go.wp_at_succ
set_option maxHeartbeats 400000 in
theorem may_any (A : Option Addr) (c n : Nat) (l : List Seal) (gs e v x : Int) (w : World) (hl : Sl w (fun b => b < w.heap.size) A c l) (hn : l.length = n) (hsz : n ≤ 1048576) (hg : ∀ s ∈ l, 0 ≤ s.g ∧ s.g < 16) :
    Calls Try.prog 20 #[.slice A n c, .int .i64 gs, .int .i64 e, .int .i64 v, .int .i64 x] w fun r w' => r = .returned (.bool (may (gset (l.filter (onP e v x))) gs)) ∧ Below w.heap.size w w' := by
  have Hg := Lib.hid hg
  have Hm := Lib.hid (may_andn (gset (l.filter (onP e v x))) gs)
  clear hg
  go_enter Try.func20, Try.ntmps20
  go_wp2_with fail
  refine (groups_any A c n l e v x w hl hn hsz Hg.out).mono ?_
  rintro r w1 ⟨rfl, hb⟩
  have Hb := Lib.hid hb
  clear hb
  go_wp2_with fail
  go_ret
  exact ⟨ret_bool Hm.out, Hb.out⟩
/-- Among the first k seals one is of the place and of the group. -/
def hasTo (l : List Seal) (e v x : Int) (g : Nat) (k : Nat) : Bool := hasG (l.take k) e v x g
theorem hasTo_succ (l : List Seal) (e v x : Int) (g k : Nat) (h : k < l.length) : hasTo l e v x g (k + 1) = (hasTo l e v x g k || (decide (l[k].g = (g : Int)) && onP e v x l[k])) := by
  unfold hasTo hasG
  rw [List.take_succ_eq_append_getElem h, List.any_append]
  simp
theorem hasTo_all (l : List Seal) (e v x : Int) (g k : Nat) (h : l.length ≤ k) : hasTo l e v x g k = hasG l e v x g := by
  unfold hasTo; rw [List.take_of_length_le h]
theorem rgTo_succ (l : List Seal) (e v x : Int) (k : Nat) : rgTo l e v x (k + 1) = if hasG l e v x k then rgTo l e v x k + 2 ^ k else rgTo l e v x k := rfl
theorem sel_t {a : Bool} {g : Int} {e v x : Int} {s : Seal} (h : s.g = g ∧ s.e = e ∧ s.v = v ∧ s.f ≤ x ∧ x < s.u) : (a || (decide (s.g = g) && onP e v x s)) = true := by
  rw [decide_eq_true h.1, onP_t h.2]; simp
theorem sel_f {a : Bool} {g : Int} {e v x : Int} {s : Seal} (h : ¬ (s.g = g ∧ s.e = e ∧ s.v = v ∧ s.f ≤ x ∧ x < s.u)) : (a || (decide (s.g = g) && onP e v x s)) = a := by
  by_cases h1 : s.g = g
  · rw [onP_f (fun h2 => h ⟨h1, h2⟩)]; simp
  · rw [decide_eq_false h1]; simp
set_option maxHeartbeats 2000000 in
theorem rgroups_any (A : Option Addr) (c n : Nat) (l : List Seal) (e v x : Int) (w : World) (hl : Sl w (fun b => b < w.heap.size) A c l) (hn : l.length = n) (hsz : n ≤ 1048576) :
    Calls Try.prog 19 #[.slice A n c, .int .i64 e, .int .i64 v, .int .i64 x] w fun r w' => r = .returned (.int .i64 ((rgTo l e v x 16 : Nat) : Int)) ∧ Below w.heap.size w w' := by
  subst hn
  go_enter Try.func19, Try.ntmps19
  go_wp2_with fail
  go_loopw [9, 10, 11, 12, 13] (fun o g _ _ _ wr => ∃ k : Nat, k ≤ 16 ∧ g = .int .i64 k ∧ o = .int .i64 ((rgTo l e v x k : Nat) : Int) ∧ Below w.heap.size w wr) (fun _ g _ _ _ _ => 16 - (intOf g).toNat)
  case atStart => exact ⟨0, by omega, rfl, rfl, Below.refl _ _⟩
  case round =>
    obtain ⟨k, hk, rfl, rfl, hb⟩ := hrel
    have Hb := Lib.hid hb
    clear hb
    by_cases hlt : k < 16
    · have hlt2 : (k : Int) < 16 := by omega
      go_wp2_with fail
      obtain ⟨wo, hwo⟩ : ∃ wo : World, wo = wr := ⟨_, rfl⟩
      go_loopw [11, 12, 13] (fun a i _ wq => ∃ q : Nat, q ≤ l.length ∧ i = .int .i64 q ∧ a = .bool (hasTo l e v x k q) ∧ Below w.heap.size w wq) (fun _ i _ _ => l.length - (intOf i).toNat)
      case atStart => exact ⟨0, Nat.zero_le _, rfl, rfl, Hb.out⟩
      case round =>
        obtain ⟨q, hq, rfl, rfl, hb2⟩ := hrel
        by_cases hql : q < l.length
        · obtain ⟨_, _, rfl, _, _, _, d0, d1, d2, d3, d4⟩ := seal_at (hl.to hb2) hql
          have hkl : (q : Int) < (l.length : Int) := by omega
          have HS := Lib.hid (hasTo_succ l e v x k q hql)
          have Hb2 := Lib.hid hb2
          have hsz2 := hb2.size
          clear hb2
          cases ha : hasTo l e v x k q
          all_goals rw [ha] at HS
          all_goals clear ha
          all_goals go_wp2_with fail
          all_goals go_roundw
          case measure => simp [intOf]; omega
          all_goals try (simp [intOf]; omega)
          all_goals refine ⟨q + 1, by omega, by go_num, congrArg Value.bool ?_, Hb2.out.alloc hsz2 _⟩
          all_goals rw [HS.out]
          all_goals symm
          all_goals first
            | rfl
            | (apply sel_t; omega)
            | (apply sel_f; omega)
            | (by_cases hxu : x < l[q].u
               · rw [decide_eq_true hxu]; apply sel_t; omega
               · rw [decide_eq_false hxu]; apply sel_f; omega)
        · have HA := Lib.hid (hasTo_all l e v x k q (by omega))
          have Hb2 := Lib.hid hb2
          have HR := Lib.hid (rgTo_succ l e v x k)
          have hrl := rgTo_lt l e v x k
          have hp : 2 ^ k ≤ 2 ^ 16 := Nat.pow_le_pow_right (by omega) (by omega)
          clear hb2
          cases ha : hasTo l e v x k q
          · rw [ha] at HA
            rw [← HA.out] at HR
            clear ha
            go_wp2_with fail
            go_roundw
            case rel => exact ⟨k + 1, by omega, by go_num, by rw [HR.out]; rfl, Hb2.out⟩
            case measure => simp [intOf]; omega
          · rw [ha] at HA
            rw [← HA.out] at HR
            clear ha
            generalize rgTo l e v x k = G at *
            have hbit := fun w' => bit_any (k : Int) w' (by omega) (by omega)
            go_wp2_with fail
            refine (bit_any (k : Int) _ (by omega) (by omega)).mono ?_
            rintro r' w' ⟨rfl, rfl⟩
            have hpk : pow2 (k : Int) = ((2 ^ k : Nat) : Int) := by unfold pow2; rw [Int.toNat_natCast]
            rw [hpk]
            generalize 2 ^ k = P2 at *
            clear hpk
            go_wp2_with fail
            go_roundw
            case rel => exact ⟨k + 1, by omega, by go_num, by rw [HR.out]; go_num, Hb2.out⟩
            case measure => simp [intOf]; omega
    · obtain rfl : k = 16 := by omega
      go_wp2_with fail
      go_ret
      exact ⟨rfl, Hb.out⟩
set_option maxHeartbeats 400000 in
theorem rmay_any (A : Option Addr) (c n : Nat) (l : List Seal) (gs e v x : Int) (w : World) (hl : Sl w (fun b => b < w.heap.size) A c l) (hn : l.length = n) (hsz : n ≤ 1048576) :
    Calls Try.prog 21 #[.slice A n c, .int .i64 gs, .int .i64 e, .int .i64 v, .int .i64 x] w fun r w' => r = .returned (.bool (may (rgTo l e v x 16) gs)) ∧ Below w.heap.size w w' := by
  have Hm := Lib.hid (may_and (rgTo l e v x 16) (rgTo_lt l e v x 16) gs)
  go_enter Try.func21, Try.ntmps21
  go_wp2_with fail
  refine (rgroups_any A c n l e v x w hl hn hsz).mono ?_
  rintro r w1 ⟨rfl, hb⟩
  have Hb := Lib.hid hb
  clear hb
  go_wp2_with fail
  go_ret
  exact ⟨ret_bool Hm.out, Hb.out⟩
end Go.Proofs.Ytfncpofcgalllaa
