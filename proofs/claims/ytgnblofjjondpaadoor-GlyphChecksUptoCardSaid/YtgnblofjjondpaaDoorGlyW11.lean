/- Around, SameStrings. No condition. -/
import Derived.Test.YtgnblofjjondpaaDoorGlyW9
import Derived.Test.YtgnblofjjondpaaDoorGlyW10
namespace Go.Proofs.YtgnblofjjondpaaDoor
open Go.RowKit
/-- Around of the references. -/
def aro (n m : Int) : Int := (if n < 0 then -(n + 1) else n) % m
theorem aro_lt (n m : Int) (h : 1 ≤ m) : 0 ≤ aro n m ∧ aro n m < m := ⟨Int.emod_nonneg _ (by omega), Int.emod_lt_of_pos _ (by omega)⟩
set_option maxHeartbeats 400000 in
theorem around_any (n m : Int) (w : World) (hn : I64 n) (hm : 1 ≤ m) (hm2 : m ≤ 9223372036854775807) :
    Calls Tryd.prog 18 #[.int .i64 n, .int .i64 m] w fun e w' => e = .returned (.int .i64 (aro n m)) ∧ w = w' := by
  obtain ⟨h0, h1⟩ := hn
  go_enter Tryd.func18, Tryd.ntmps18
  by_cases h : n < 0
  · have e : aro n m = (-(n + 1)) % m := by unfold aro; rw [if_pos h]
    have E := Lib.hid e
    clear e
    have hp : 0 ≤ -(n + 1) := by omega
    go_wp2
    go_ret
    refine ⟨ret_int ?_, rfl⟩
    rw [E.out]
    rw [← Int.neg_tmod, Int.tmod_eq_emod_of_nonneg hp]
  · have e : aro n m = n % m := by unfold aro; rw [if_neg h]
    have E := Lib.hid e
    clear e
    go_wp2
    go_ret
    exact ⟨ret_int (by rw [E.out]), rfl⟩
theorem tl_loop (s : ByteArray) : ∀ n i r, s.size - i = n → ByteArray.toList.loop s i r = r.reverse ++ s.data.toList.drop i := by
  intro n
  induction n with
  | zero => intro i r h; rw [ByteArray.toList.loop, if_neg (by omega), List.drop_of_length_le (by simp; omega)]; simp
  | succ n ih =>
    intro i r h
    have hi : i < s.size := by omega
    rw [ByteArray.toList.loop, if_pos hi, ih (i + 1) _ (by omega)]
    have hd : s.data.toList.drop i = s.get! i :: s.data.toList.drop (i + 1) := by
      rw [List.drop_eq_getElem_cons (by simpa using hi)]
      congr 1
      simp [ByteArray.get!, hi]
    rw [hd]; simp
theorem tl_data (s : ByteArray) : s.toList = s.data.toList := by
  unfold ByteArray.toList; rw [tl_loop s s.size 0 [] (by omega)]; simp
theorem tl_ne {a b : ByteArray} (h : a ≠ b) : (a.toList == b.toList) = false := by
  rw [beq_eq_false_iff_ne, tl_data, tl_data]
  intro e
  apply h
  apply ByteArray.ext
  exact Array.toList_inj.1 e
theorem tl_eq {a b : ByteArray} (h : a = b) : (a.toList == b.toList) = true := by rw [h]; simp
set_option maxHeartbeats 400000 in
theorem same_strings (A B : Option Addr) (c d : Nat) (l m : List ByteArray) (w : World) (hl : Sl w (fun b => b < w.heap.size) A c l) (hm : Sl w (fun b => b < w.heap.size) B d m) :
    Calls Tryd.prog 33 #[.slice A l.length c, .slice B m.length d] w fun e w' => e = .returned (.bool (decide (l = m))) ∧ Below w.heap.size w w' := by
  have hlen : l.length ≤ 9223372036854775807 := by have := hl.1; have := hl.2.1; unfold maxLen at this; omega
  have hlem : m.length ≤ 9223372036854775807 := by have := hm.1; have := hm.2.1; unfold maxLen at this; omega
  by_cases hll : l.length = m.length
  · have hnn : ((l.length : Int) != (m.length : Int)) = false := by rw [hll]; simp
    have Hll := Lib.hid hll
    go_enter Tryd.func33, Tryd.ntmps33
    clear hll
    go_wp2
    go_loopw [5] (fun i wr => ∃ k : Nat, k ≤ l.length ∧ i = .int .i64 k ∧ Hid (l.take k = m.take k) ∧ Below w.heap.size w wr) (fun i _ => l.length - (intOf i).toNat)
    case atStart => exact ⟨0, Nat.zero_le _, rfl, rfl, Below.refl _ _⟩
    case round =>
      obtain ⟨k, hk, rfl, hi, hb⟩ := hrel
      by_cases hlt : k < l.length
      · have hltm : k < m.length := by have := Hll.out; omega
        obtain ⟨b, o, rfl, hbS, hbl, hok, c0⟩ := str_at (hl.keep (Kept.all hb) hb.size) hlt
        obtain ⟨b2, o2, rfl, hbS2, hbl2, hok2, d0⟩ := str_at (hm.keep (Kept.all hb) hb.size) hltm
        have hkl : (k : Int) < (l.length : Int) := by omega
        have hkm : (k : Int) < (m.length : Int) := by omega
        have hk0 : (0 : Int) ≤ (k : Int) := by omega
        by_cases heq : l[k] = m[k]
        · have hB : (!l[k].toList == m[k].toList) = false := by rw [tl_eq heq]; rfl
          have Heq := Lib.hid heq
          clear heq
          go_wp2_with fail
          go_quiet (fail)
          go_wp2_with fail
          go_roundw
          case rel => exact ⟨k + 1, by omega, by go_num, take_succ_eq hlt hltm hi.out Heq.out, Below.dn hb _⟩
          case measure => simp [intOf]; omega
        · have hB : (!l[k].toList == m[k].toList) = true := by rw [tl_ne heq]; rfl
          have Heq := Lib.hid heq
          clear heq
          go_wp2_with fail
          go_quiet (fail)
          go_wp2_with fail
          go_ret
          exact ⟨ret_bool (decide_eq_false (ne_at hlt hltm Heq.out)).symm, Below.dn hb _⟩
      · go_wp2_with fail
        go_ret
        exact ⟨ret_bool (decide_eq_true (eq_all (by omega) (by have := Hll.out; omega) hi.out)).symm, hb⟩
  · have hnn : ((l.length : Int) != (m.length : Int)) = true := by simp; omega
    have Hll := Lib.hid hll
    clear hll
    go_enter Tryd.func33, Tryd.ntmps33
    go_wp2
    go_ret
    exact ⟨ret_bool (decide_eq_false (fun e => Hll.out (by rw [e]))).symm, Below.refl _ _⟩
end Go.Proofs.YtgnblofjjondpaaDoor
