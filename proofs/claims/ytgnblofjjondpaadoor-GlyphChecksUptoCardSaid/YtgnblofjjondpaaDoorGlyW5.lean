/- Box of the program; Fill of both. No condition but what the tables hold. -/
import Derived.Test.YtgnblofjjondpaaDoorGlyW4
import Derived.Test.YtgnblofjjondpaaDoorShelf0
import Derived.Lib.AppendIntMem
import Derived.BigRegion
namespace Go.Proofs.YtgnblofjjondpaaDoor
open Go.RowKit
theorem gP : Tryd.prog.globalNamed "internal/strconv.uint64pow10" = some 2 := by kernel_rfl
/-- What a call finds in the tables. -/
def Tabs (w : World) : Prop := Laid w ∧ Lib.TabIs Tryd.prog w "internal/strconv.uint64pow10" .u64 Lib.pow10Tab
theorem Tabs.to {w w' : World} (h : Tabs w) (hb : Below w.heap.size w w') : Tabs w' := ⟨h.1.to hb, TabIs_keep gP h.2 hb⟩
set_option maxHeartbeats 400000 in
theorem gbox_any (n : Int) (hn : I64 n) (w : World) (hT : Tabs w) :
    Calls Tryd.prog 21 #[.int .i64 n] w fun e w' => e = .returned (.string (box n)) ∧ Below w.heap.size w w' := by
  have HT := Lib.hid hT
  have hl := itoa_len n hn
  have HB := Lib.hid (show box n = ⟨(91 :: (Lib.itoa n ++ [93])).toArray⟩ from rfl)
  clear hT
  go_enter Tryd.func21, Tryd.ntmps21
  go_wp2_with fail
  refine (Tryd.strconv_Itoa n hn.1 hn.2 _ HT.out.2).mono ?_
  rintro e w1 ⟨rfl, k, os, hw⟩
  have Hb := Lib.hid (show Below w.heap.size w w1 by rw [hw]; exact Lib.below_grow _ _ (Nat.le_refl _) _ _)
  clear hw
  generalize Lib.itoa n = l at *
  have h1 : 1 + l.length ≤ 9223372036854775807 := by omega
  have h2 : 1 + l.length + 1 ≤ 9223372036854775807 := by omega
  clear hl
  go_wp2_with fail
  go_ret
  exact ⟨ret_str (by rw [HB.out]; apply ByteArray.ext; simp), Hb.out⟩
theorem tail_0 (w : World) : (Instr.index 62 (.agg #[.string ⟨#[]⟩, .string ⟨#[69, 105]⟩, .string ⟨#[105]⟩, .string ⟨#[116]⟩, .string ⟨#[97]⟩, .string ⟨#[69]⟩]) (.int .i64 0)).run Tryd.prog w = .ok (.string ⟨#[]⟩) w := by kernel_rfl
theorem tail_1 (w : World) : (Instr.index 62 (.agg #[.string ⟨#[]⟩, .string ⟨#[69, 105]⟩, .string ⟨#[105]⟩, .string ⟨#[116]⟩, .string ⟨#[97]⟩, .string ⟨#[69]⟩]) (.int .i64 1)).run Tryd.prog w = .ok (.string ⟨#[69, 105]⟩) w := by kernel_rfl
theorem tail_2 (w : World) : (Instr.index 62 (.agg #[.string ⟨#[]⟩, .string ⟨#[69, 105]⟩, .string ⟨#[105]⟩, .string ⟨#[116]⟩, .string ⟨#[97]⟩, .string ⟨#[69]⟩]) (.int .i64 2)).run Tryd.prog w = .ok (.string ⟨#[105]⟩) w := by kernel_rfl
theorem tail_3 (w : World) : (Instr.index 62 (.agg #[.string ⟨#[]⟩, .string ⟨#[69, 105]⟩, .string ⟨#[105]⟩, .string ⟨#[116]⟩, .string ⟨#[97]⟩, .string ⟨#[69]⟩]) (.int .i64 3)).run Tryd.prog w = .ok (.string ⟨#[116]⟩) w := by kernel_rfl
theorem tail_4 (w : World) : (Instr.index 62 (.agg #[.string ⟨#[]⟩, .string ⟨#[69, 105]⟩, .string ⟨#[105]⟩, .string ⟨#[116]⟩, .string ⟨#[97]⟩, .string ⟨#[69]⟩]) (.int .i64 4)).run Tryd.prog w = .ok (.string ⟨#[97]⟩) w := by kernel_rfl
theorem tail_5 (w : World) : (Instr.index 62 (.agg #[.string ⟨#[]⟩, .string ⟨#[69, 105]⟩, .string ⟨#[105]⟩, .string ⟨#[116]⟩, .string ⟨#[97]⟩, .string ⟨#[69]⟩]) (.int .i64 5)).run Tryd.prog w = .ok (.string ⟨#[69]⟩) w := by kernel_rfl
theorem ret_sb {a b : ByteArray} {c d : Bool} (h : a = b) (k : c = d) : Ending.returned (.tuple #[.string a, .bool c]) = .returned (.tuple #[.string b, .bool d]) := by rw [h, k]
theorem str_cat (a b : List UInt8) : (⟨(a ++ b).toArray⟩ : ByteArray) = ⟨a.toArray⟩ ++ ⟨b.toArray⟩ := by
  apply ByteArray.ext; simp
theorem str_eq {a b : ByteArray} (h : a = b) : Value.string a = .string b := by rw [h]
theorem rep_list : ∀ c, Lib.repeatL [109] c = List.replicate c 109
  | 0 => rfl
  | c + 1 => by rw [Lib.repeatL, rep_list c, List.replicate_succ]; rfl
theorem rep_m (z : Int) (c : Nat) (w : World) (hz : z = (c : Int)) (hc : c ≤ 100) :
    Calls Tryd.prog 37 #[.string ⟨#[109]⟩, .int .i64 z] w fun e w' => e = .returned (.string ⟨(List.replicate c 109).toArray⟩) ∧ Below w.heap.size w w' := by
  subst hz
  have h1 : (⟨#[109]⟩ : ByteArray).size * c ≤ 140737488355328 := by show 1 * c ≤ _; omega
  refine (Tryd.strings_Repeat ⟨#[109]⟩ c w (by omega) h1).mono fun e w' ⟨he, hb⟩ => ⟨?_, hb⟩
  rw [he]
  have : Lib.repeatL (⟨#[109]⟩ : ByteArray).data.toList c = List.replicate c 109 := rep_list c
  rw [this]
/-- What Fill says. -/
def fillOk (n : Int) : Bool := decide (4 ≤ n ∧ n ≤ 480 ∧ n % 2 = 0)
def tailOf (r : Nat) : List UInt8 := if r = 2 then [69, 105] else if r = 4 then [105] else if r = 6 then [116] else if r = 8 then [97] else if r = 10 then [69] else []
def mCount (n : Nat) : Nat := if n % 12 = 2 then n / 12 - 1 else n / 12
def fillS (n : Int) : ByteArray := if fillOk n then ⟨(List.replicate (mCount n.toNat) 109 ++ tailOf (n.toNat % 12)).toArray⟩ else ⟨#[]⟩
theorem fillS_no {n : Int} (h : ¬ (4 ≤ n ∧ n ≤ 480 ∧ n % 2 = 0)) : fillS n = ⟨#[]⟩ ∧ fillOk n = false := by
  have : fillOk n = false := decide_eq_false h
  unfold fillS; rw [this]; exact ⟨rfl, rfl⟩
theorem fillS_yes {n : Nat} (h1 : 4 ≤ n) (h2 : n ≤ 480) (h3 : n % 2 = 0) : fillS (n : Int) = ⟨(List.replicate (mCount n) 109 ++ tailOf (n % 12)).toArray⟩ ∧ fillOk (n : Int) = true := by
  have : fillOk (n : Int) = true := decide_eq_true (by omega)
  unfold fillS; rw [this]; exact ⟨rfl, rfl⟩
set_option maxHeartbeats 400000 in
theorem gfill_any (n : Int) (hn : I64 n) (w : World) :
    Calls Tryd.prog 19 #[.int .i64 n] w fun e w' => e = .returned (.tuple #[.string (fillS n), .bool (fillOk n)]) ∧ Below w.heap.size w w' := by
  by_cases h : 4 ≤ n ∧ n ≤ 480 ∧ n % 2 = 0
  · obtain ⟨h1, h2, h3⟩ := h
    obtain ⟨m, rfl⟩ := Int.eq_ofNat_of_zero_le (show 0 ≤ n by omega)
    have E := Lib.hid (fillS_yes (n := m) (by omega) (by omega) (by omega)).1
    have F := Lib.hid (fillS_yes (n := m) (by omega) (by omega) (by omega)).2
    have g1 : ¬ (m : Int) < 4 := by omega
    have g2 : ¬ (480 : Int) < (m : Int) := by omega
    have g3 : (m : Int) % 2 = 0 := by omega
    have g4 : (0 : Int) ≤ (m : Int) := by omega
    have g5 : (m : Int) ≤ 480 := by omega
    have hr : m % 12 = 0 ∨ m % 12 = 2 ∨ m % 12 = 4 ∨ m % 12 = 6 ∨ m % 12 = 8 ∨ m % 12 = 10 := by omega
    clear h1 h2 h3
    go_enter Tryd.func19, Tryd.ntmps19
    rcases hr with hr | hr | hr | hr | hr | hr
    · have e12 : (m : Int) % 12 = 0 := by omega
      have hI := fun w => tail_0 w
      have HT := Lib.hid (show mCount m = (m / 12) ∧ tailOf (m % 12) = [] from ⟨by unfold mCount; rw [hr]; rfl, by rw [hr]; rfl⟩)
      go_wp2_with fail
      go_quiet (fail)
      go_wp2_with fail
      refine (rep_m _ (m / 12) _ (by omega) (by omega)).mono ?_
      rintro e w1 ⟨rfl, hb⟩
      have Hb := Lib.hid ((Below.dn (Below.refl w.heap.size w) _).trans hb)
      have hc : (m / 12) ≤ 100 := by omega
      clear hI hb
      generalize (m / 12) = c at *
      have hc2 : c ≤ 9223372036854775807 := by omega
      go_wp2_with fail
      go_ret2
      exact ⟨ret_sb (by rw [E.out, HT.out.1, HT.out.2]; first | exact (str_cat _ _).symm | (apply ByteArray.ext; simp; done)) F.out.symm, Hb.out⟩
    · have e12 : (m : Int) % 12 = 2 := by omega
      have hI := fun w => tail_1 w
      have HT := Lib.hid (show mCount m = (m / 12 - 1) ∧ tailOf (m % 12) = [69, 105] from ⟨by unfold mCount; rw [hr]; rfl, by rw [hr]; rfl⟩)
      go_wp2_with fail
      go_quiet (fail)
      go_wp2_with fail
      refine (rep_m _ (m / 12 - 1) _ (by omega) (by omega)).mono ?_
      rintro e w1 ⟨rfl, hb⟩
      have Hb := Lib.hid ((Below.dn (Below.refl w.heap.size w) _).trans hb)
      have hc : (m / 12 - 1) ≤ 100 := by omega
      clear hI hb
      generalize (m / 12 - 1) = c at *
      have hc2 : c + 2 ≤ 9223372036854775807 := by omega
      go_wp2_with fail
      go_ret2
      exact ⟨ret_sb (by rw [E.out, HT.out.1, HT.out.2]; first | exact (str_cat _ _).symm | (apply ByteArray.ext; simp; done)) F.out.symm, Hb.out⟩
    · have e12 : (m : Int) % 12 = 4 := by omega
      have hI := fun w => tail_2 w
      have HT := Lib.hid (show mCount m = (m / 12) ∧ tailOf (m % 12) = [105] from ⟨by unfold mCount; rw [hr]; rfl, by rw [hr]; rfl⟩)
      go_wp2_with fail
      go_quiet (fail)
      go_wp2_with fail
      refine (rep_m _ (m / 12) _ (by omega) (by omega)).mono ?_
      rintro e w1 ⟨rfl, hb⟩
      have Hb := Lib.hid ((Below.dn (Below.refl w.heap.size w) _).trans hb)
      have hc : (m / 12) ≤ 100 := by omega
      clear hI hb
      generalize (m / 12) = c at *
      have hc2 : c + 1 ≤ 9223372036854775807 := by omega
      go_wp2_with fail
      go_ret2
      exact ⟨ret_sb (by rw [E.out, HT.out.1, HT.out.2]; first | exact (str_cat _ _).symm | (apply ByteArray.ext; simp; done)) F.out.symm, Hb.out⟩
    · have e12 : (m : Int) % 12 = 6 := by omega
      have hI := fun w => tail_3 w
      have HT := Lib.hid (show mCount m = (m / 12) ∧ tailOf (m % 12) = [116] from ⟨by unfold mCount; rw [hr]; rfl, by rw [hr]; rfl⟩)
      go_wp2_with fail
      go_quiet (fail)
      go_wp2_with fail
      refine (rep_m _ (m / 12) _ (by omega) (by omega)).mono ?_
      rintro e w1 ⟨rfl, hb⟩
      have Hb := Lib.hid ((Below.dn (Below.refl w.heap.size w) _).trans hb)
      have hc : (m / 12) ≤ 100 := by omega
      clear hI hb
      generalize (m / 12) = c at *
      have hc2 : c + 1 ≤ 9223372036854775807 := by omega
      go_wp2_with fail
      go_ret2
      exact ⟨ret_sb (by rw [E.out, HT.out.1, HT.out.2]; first | exact (str_cat _ _).symm | (apply ByteArray.ext; simp; done)) F.out.symm, Hb.out⟩
    · have e12 : (m : Int) % 12 = 8 := by omega
      have hI := fun w => tail_4 w
      have HT := Lib.hid (show mCount m = (m / 12) ∧ tailOf (m % 12) = [97] from ⟨by unfold mCount; rw [hr]; rfl, by rw [hr]; rfl⟩)
      go_wp2_with fail
      go_quiet (fail)
      go_wp2_with fail
      refine (rep_m _ (m / 12) _ (by omega) (by omega)).mono ?_
      rintro e w1 ⟨rfl, hb⟩
      have Hb := Lib.hid ((Below.dn (Below.refl w.heap.size w) _).trans hb)
      have hc : (m / 12) ≤ 100 := by omega
      clear hI hb
      generalize (m / 12) = c at *
      have hc2 : c + 1 ≤ 9223372036854775807 := by omega
      go_wp2_with fail
      go_ret2
      exact ⟨ret_sb (by rw [E.out, HT.out.1, HT.out.2]; first | exact (str_cat _ _).symm | (apply ByteArray.ext; simp; done)) F.out.symm, Hb.out⟩
    · have e12 : (m : Int) % 12 = 10 := by omega
      have hI := fun w => tail_5 w
      have HT := Lib.hid (show mCount m = (m / 12) ∧ tailOf (m % 12) = [69] from ⟨by unfold mCount; rw [hr]; rfl, by rw [hr]; rfl⟩)
      go_wp2_with fail
      go_quiet (fail)
      go_wp2_with fail
      refine (rep_m _ (m / 12) _ (by omega) (by omega)).mono ?_
      rintro e w1 ⟨rfl, hb⟩
      have Hb := Lib.hid ((Below.dn (Below.refl w.heap.size w) _).trans hb)
      have hc : (m / 12) ≤ 100 := by omega
      clear hI hb
      generalize (m / 12) = c at *
      have hc2 : c + 1 ≤ 9223372036854775807 := by omega
      go_wp2_with fail
      go_ret2
      exact ⟨ret_sb (by rw [E.out, HT.out.1, HT.out.2]; first | exact (str_cat _ _).symm | (apply ByteArray.ext; simp; done)) F.out.symm, Hb.out⟩
  · have E := Lib.hid (fillS_no h).1
    have F := Lib.hid (fillS_no h).2
    have g4 : -9223372036854775808 ≤ n := hn.1
    have g5 : n ≤ 9223372036854775807 := hn.2
    by_cases h1 : n < 4
    · go_enter Tryd.func19, Tryd.ntmps19
      go_wp2_with fail
      go_ret2
      exact ⟨ret_sb E.out.symm F.out.symm, Below.refl _ _⟩
    · by_cases h2 : 480 < n
      · go_enter Tryd.func19, Tryd.ntmps19
        go_wp2_with fail
        go_ret2
        exact ⟨ret_sb E.out.symm F.out.symm, Below.refl _ _⟩
      · have h3 : n % 2 = 1 := by omega
        have h5 : (0 : Int) ≤ n := by omega
        clear h
        go_enter Tryd.func19, Tryd.ntmps19
        go_wp2_with fail
        go_ret2
        exact ⟨ret_sb E.out.symm F.out.symm, Below.refl _ _⟩
set_option maxHeartbeats 1000000 in
theorem rfill_any (n : Int) (hn : I64 n) (w : World) :
    Calls Tryd.prog 20 #[.int .i64 n] w fun e w' => e = .returned (.tuple #[.string (fillS n), .bool (fillOk n)]) ∧ w = w' := by
  by_cases h : 4 ≤ n ∧ n ≤ 480 ∧ n % 2 = 0
  · obtain ⟨h1, h2, h3⟩ := h
    obtain ⟨m, rfl⟩ := Int.eq_ofNat_of_zero_le (show 0 ≤ n by omega)
    have E := Lib.hid (fillS_yes (n := m) (by omega) (by omega) (by omega)).1
    have F := Lib.hid (fillS_yes (n := m) (by omega) (by omega) (by omega)).2
    have g1 : ¬ (m : Int) < 4 := by omega
    have g2 : ¬ (480 : Int) < (m : Int) := by omega
    have g3 : (m : Int) % 2 = 0 := by omega
    have g4 : (0 : Int) ≤ (m : Int) := by omega
    have g5 : (m : Int) ≤ 480 := by omega
    have hr : m % 12 = 0 ∨ m % 12 = 2 ∨ m % 12 = 4 ∨ m % 12 = 6 ∨ m % 12 = 8 ∨ m % 12 = 10 := by omega
    clear h1 h2 h3
    go_enter Tryd.func20, Tryd.ntmps20
    rcases hr with hr | hr | hr | hr | hr | hr
    · have e12 : (m : Int) % 12 = 0 := by omega
      have HT := Lib.hid (show mCount m = (m / 12) ∧ tailOf (m % 12) = [] from ⟨by unfold mCount; rw [hr]; rfl, by rw [hr]; rfl⟩)
      go_wp2_with fail
      have hc : (m / 12) ≤ 100 := by omega
      have hci : (m : Int) / 12 = (((m / 12) : Nat) : Int) := by omega
      rw [hci]
      clear hci e12 hr
      generalize (m / 12) = c at *
      go_loop [6, 7] (fun s i => ∃ k : Nat, k ≤ c ∧ i = .int .i64 k ∧ s = .string ⟨(List.replicate k 109).toArray⟩) (fun _ i => c - (intOf i).toNat)
      case atStart => exact ⟨0, Nat.zero_le _, rfl, rfl⟩
      case round =>
        obtain ⟨k, hk, rfl, rfl⟩ := hrel
        by_cases hlt : k < c
        · have hlt2 : (k : Int) < (c : Int) := by omega
          have hk1 : k + 1 ≤ 9223372036854775807 := by omega
          go_wp2_with fail
          go_round
          case rel => exact ⟨k + 1, by omega, by go_num, str_eq (by rw [List.replicate_succ']; exact (str_cat _ [109]).symm)⟩
          case measure => simp [intOf]; omega
        · obtain rfl : k = c := by omega
          have hc2 : k ≤ 9223372036854775807 := by omega
          go_wp2_with fail
          go_ret2
          exact ⟨ret_sb (by rw [E.out, HT.out.1, HT.out.2]; first | exact (str_cat _ _).symm | (apply ByteArray.ext; simp; done)) F.out.symm, rfl⟩
    · have e12 : (m : Int) % 12 = 2 := by omega
      have HT := Lib.hid (show mCount m = (m / 12 - 1) ∧ tailOf (m % 12) = [69, 105] from ⟨by unfold mCount; rw [hr]; rfl, by rw [hr]; rfl⟩)
      go_wp2_with fail
      have hc : (m / 12 - 1) ≤ 100 := by omega
      have hci : (m : Int) / 12 - 1 = (((m / 12 - 1) : Nat) : Int) := by omega
      rw [hci]
      clear hci e12 hr
      generalize (m / 12 - 1) = c at *
      go_loop [6, 7] (fun s i => ∃ k : Nat, k ≤ c ∧ i = .int .i64 k ∧ s = .string ⟨(List.replicate k 109).toArray⟩) (fun _ i => c - (intOf i).toNat)
      case atStart => exact ⟨0, Nat.zero_le _, rfl, rfl⟩
      case round =>
        obtain ⟨k, hk, rfl, rfl⟩ := hrel
        by_cases hlt : k < c
        · have hlt2 : (k : Int) < (c : Int) := by omega
          have hk1 : k + 1 ≤ 9223372036854775807 := by omega
          go_wp2_with fail
          go_round
          case rel => exact ⟨k + 1, by omega, by go_num, str_eq (by rw [List.replicate_succ']; exact (str_cat _ [109]).symm)⟩
          case measure => simp [intOf]; omega
        · obtain rfl : k = c := by omega
          have hc2 : k + 2 ≤ 9223372036854775807 := by omega
          go_wp2_with fail
          go_ret2
          exact ⟨ret_sb (by rw [E.out, HT.out.1, HT.out.2]; first | exact (str_cat _ _).symm | (apply ByteArray.ext; simp; done)) F.out.symm, rfl⟩
    · have e12 : (m : Int) % 12 = 4 := by omega
      have HT := Lib.hid (show mCount m = (m / 12) ∧ tailOf (m % 12) = [105] from ⟨by unfold mCount; rw [hr]; rfl, by rw [hr]; rfl⟩)
      go_wp2_with fail
      have hc : (m / 12) ≤ 100 := by omega
      have hci : (m : Int) / 12 = (((m / 12) : Nat) : Int) := by omega
      rw [hci]
      clear hci e12 hr
      generalize (m / 12) = c at *
      go_loop [6, 7] (fun s i => ∃ k : Nat, k ≤ c ∧ i = .int .i64 k ∧ s = .string ⟨(List.replicate k 109).toArray⟩) (fun _ i => c - (intOf i).toNat)
      case atStart => exact ⟨0, Nat.zero_le _, rfl, rfl⟩
      case round =>
        obtain ⟨k, hk, rfl, rfl⟩ := hrel
        by_cases hlt : k < c
        · have hlt2 : (k : Int) < (c : Int) := by omega
          have hk1 : k + 1 ≤ 9223372036854775807 := by omega
          go_wp2_with fail
          go_round
          case rel => exact ⟨k + 1, by omega, by go_num, str_eq (by rw [List.replicate_succ']; exact (str_cat _ [109]).symm)⟩
          case measure => simp [intOf]; omega
        · obtain rfl : k = c := by omega
          have hc2 : k + 1 ≤ 9223372036854775807 := by omega
          go_wp2_with fail
          go_ret2
          exact ⟨ret_sb (by rw [E.out, HT.out.1, HT.out.2]; first | exact (str_cat _ _).symm | (apply ByteArray.ext; simp; done)) F.out.symm, rfl⟩
    · have e12 : (m : Int) % 12 = 6 := by omega
      have HT := Lib.hid (show mCount m = (m / 12) ∧ tailOf (m % 12) = [116] from ⟨by unfold mCount; rw [hr]; rfl, by rw [hr]; rfl⟩)
      go_wp2_with fail
      have hc : (m / 12) ≤ 100 := by omega
      have hci : (m : Int) / 12 = (((m / 12) : Nat) : Int) := by omega
      rw [hci]
      clear hci e12 hr
      generalize (m / 12) = c at *
      go_loop [6, 7] (fun s i => ∃ k : Nat, k ≤ c ∧ i = .int .i64 k ∧ s = .string ⟨(List.replicate k 109).toArray⟩) (fun _ i => c - (intOf i).toNat)
      case atStart => exact ⟨0, Nat.zero_le _, rfl, rfl⟩
      case round =>
        obtain ⟨k, hk, rfl, rfl⟩ := hrel
        by_cases hlt : k < c
        · have hlt2 : (k : Int) < (c : Int) := by omega
          have hk1 : k + 1 ≤ 9223372036854775807 := by omega
          go_wp2_with fail
          go_round
          case rel => exact ⟨k + 1, by omega, by go_num, str_eq (by rw [List.replicate_succ']; exact (str_cat _ [109]).symm)⟩
          case measure => simp [intOf]; omega
        · obtain rfl : k = c := by omega
          have hc2 : k + 1 ≤ 9223372036854775807 := by omega
          go_wp2_with fail
          go_ret2
          exact ⟨ret_sb (by rw [E.out, HT.out.1, HT.out.2]; first | exact (str_cat _ _).symm | (apply ByteArray.ext; simp; done)) F.out.symm, rfl⟩
    · have e12 : (m : Int) % 12 = 8 := by omega
      have HT := Lib.hid (show mCount m = (m / 12) ∧ tailOf (m % 12) = [97] from ⟨by unfold mCount; rw [hr]; rfl, by rw [hr]; rfl⟩)
      go_wp2_with fail
      have hc : (m / 12) ≤ 100 := by omega
      have hci : (m : Int) / 12 = (((m / 12) : Nat) : Int) := by omega
      rw [hci]
      clear hci e12 hr
      generalize (m / 12) = c at *
      go_loop [6, 7] (fun s i => ∃ k : Nat, k ≤ c ∧ i = .int .i64 k ∧ s = .string ⟨(List.replicate k 109).toArray⟩) (fun _ i => c - (intOf i).toNat)
      case atStart => exact ⟨0, Nat.zero_le _, rfl, rfl⟩
      case round =>
        obtain ⟨k, hk, rfl, rfl⟩ := hrel
        by_cases hlt : k < c
        · have hlt2 : (k : Int) < (c : Int) := by omega
          have hk1 : k + 1 ≤ 9223372036854775807 := by omega
          go_wp2_with fail
          go_round
          case rel => exact ⟨k + 1, by omega, by go_num, str_eq (by rw [List.replicate_succ']; exact (str_cat _ [109]).symm)⟩
          case measure => simp [intOf]; omega
        · obtain rfl : k = c := by omega
          have hc2 : k + 1 ≤ 9223372036854775807 := by omega
          go_wp2_with fail
          go_ret2
          exact ⟨ret_sb (by rw [E.out, HT.out.1, HT.out.2]; first | exact (str_cat _ _).symm | (apply ByteArray.ext; simp; done)) F.out.symm, rfl⟩
    · have e12 : (m : Int) % 12 = 10 := by omega
      have HT := Lib.hid (show mCount m = (m / 12) ∧ tailOf (m % 12) = [69] from ⟨by unfold mCount; rw [hr]; rfl, by rw [hr]; rfl⟩)
      go_wp2_with fail
      have hc : (m / 12) ≤ 100 := by omega
      have hci : (m : Int) / 12 = (((m / 12) : Nat) : Int) := by omega
      rw [hci]
      clear hci e12 hr
      generalize (m / 12) = c at *
      go_loop [6, 7] (fun s i => ∃ k : Nat, k ≤ c ∧ i = .int .i64 k ∧ s = .string ⟨(List.replicate k 109).toArray⟩) (fun _ i => c - (intOf i).toNat)
      case atStart => exact ⟨0, Nat.zero_le _, rfl, rfl⟩
      case round =>
        obtain ⟨k, hk, rfl, rfl⟩ := hrel
        by_cases hlt : k < c
        · have hlt2 : (k : Int) < (c : Int) := by omega
          have hk1 : k + 1 ≤ 9223372036854775807 := by omega
          go_wp2_with fail
          go_round
          case rel => exact ⟨k + 1, by omega, by go_num, str_eq (by rw [List.replicate_succ']; exact (str_cat _ [109]).symm)⟩
          case measure => simp [intOf]; omega
        · obtain rfl : k = c := by omega
          have hc2 : k + 1 ≤ 9223372036854775807 := by omega
          go_wp2_with fail
          go_ret2
          exact ⟨ret_sb (by rw [E.out, HT.out.1, HT.out.2]; first | exact (str_cat _ _).symm | (apply ByteArray.ext; simp; done)) F.out.symm, rfl⟩
  · have E := Lib.hid (fillS_no h).1
    have F := Lib.hid (fillS_no h).2
    have g4 : -9223372036854775808 ≤ n := hn.1
    have g5 : n ≤ 9223372036854775807 := hn.2
    by_cases h1 : n < 4
    · go_enter Tryd.func20, Tryd.ntmps20
      go_wp2_with fail
      go_ret2
      exact ⟨ret_sb E.out.symm F.out.symm, rfl⟩
    · by_cases h2 : 480 < n
      · go_enter Tryd.func20, Tryd.ntmps20
        go_wp2_with fail
        go_ret2
        exact ⟨ret_sb E.out.symm F.out.symm, rfl⟩
      · have h3 : n % 2 = 1 := by omega
        have h5 : (0 : Int) ≤ n := by omega
        clear h
        go_enter Tryd.func20, Tryd.ntmps20
        go_wp2_with fail
        go_ret2
        exact ⟨ret_sb E.out.symm F.out.symm, rfl⟩
end Go.Proofs.YtgnblofjjondpaaDoor
