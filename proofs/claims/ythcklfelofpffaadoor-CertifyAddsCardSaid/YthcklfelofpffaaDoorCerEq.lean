/- Two hash values compared. No condition. -/
import Derived.Test.YthcklfelofpffaaDoorCerW12
import Derived.ChangeKeysEq
namespace Go.Proofs.YthcklfelofpffaaDoor
open Go.RowKit
theorem cells_b : Tryd.prog.cellsOf 5 = 1 := by kernel_rfl
theorem info_b : ∃ i, Tryd.prog.info? 5 = some i := info_of_underlying Tryd.underlying5
theorem run_part_b (a : List UInt8) (i : Nat) (hi : i < a.length) (w : World) : (Go.part 5 (a.map encB).toArray (i * 1)).run Tryd.prog w = .ok (encB (a.getD i 0)) w := by
  have hu2 := Tryd.underlying5
  have he : (a.map encB).toArray[i]? = some (encB (a.getD i 0)) := by
    simp [List.getD_eq_getElem?_getD, hi]
  simp [Go.part, isAgg, run_underlying hu2, go_sem, he]
theorem run_items (d : Nat) (a b : List UInt8) (w : World) : ∀ (is : List Nat), (∀ i ∈ is, i < a.length ∧ i < b.length) → (Op.eqItems (d + 1) 5 1 (a.map encB).toArray (b.map encB).toArray is).run Tryd.prog w = .ok (is.all fun i => a.getD i 0 == b.getD i 0) w
  | [], _ => by simp [Op.eqItems]
  | i :: is, h => by
    have h1 := h i (by simp)
    have e1 := run_part_b a i h1.1 w
    have e2 := run_part_b b i h1.2 w
    have e3 : (Op.equalIn (d + 1) 5 (encB (a.getD i 0)) (encB (b.getD i 0))).run Tryd.prog w = .ok (a.getD i 0 == b.getD i 0) w := by
      unfold encB
      rw [run_equalIn_int w d 5 .u8 .u8 _ _ Tryd.underlying5]
      have e4 : (((a.getD i 0).toNat : Int) == ((b.getD i 0).toNat : Int)) = (a.getD i 0 == b.getD i 0) := by
        generalize a.getD i 0 = x
        generalize b.getD i 0 = y
        rw [Bool.eq_iff_iff, beq_iff_eq, beq_iff_eq]
        constructor
        · intro h; exact UInt8.toNat_inj.1 (Int.ofNat.inj h)
        · intro h; rw [h]
      rw [e4]
    simp only [Op.eqItems, Sem.run_bind, e1, e2, e3, Result.andThen_ok]
    rw [List.all_cons]
    cases hb : (a.getD i 0 == b.getD i 0)
    · simp
    · simp only [Bool.not_true, Bool.false_eq_true, if_false, Bool.true_and]
      exact run_items d a b w is (fun j hj => h j (by simp [hj]))
theorem all_eq {a b : List UInt8} (ha : a.length = 32) (hb : b.length = 32) : ((List.range 32).all fun i => a.getD i 0 == b.getD i 0) = decide (a = b) := by
  rw [Bool.eq_iff_iff, List.all_eq_true, decide_eq_true_iff]
  constructor
  · intro h
    apply List.ext_getElem (by omega)
    intro i h1 h2
    have := h i (by simp; omega)
    rw [beq_iff_eq, List.getD_eq_getElem?_getD, List.getD_eq_getElem?_getD, List.getElem?_eq_getElem h1, List.getElem?_eq_getElem h2] at this
    exact this
  · rintro rfl i _; simp
theorem run_hash_eq (d : Nat) (a b : List UInt8) (ha : a.length = 32) (hb : b.length = 32) (w : World) : (Op.equalIn (d + 2) 29 (.agg (a.map encB).toArray) (.agg (b.map encB).toArray)).run Tryd.prog w = .ok (decide (a = b)) w := by
  obtain ⟨i, hi⟩ := info_b
  rw [run_equalIn_array w (d + 1) _ _ Tryd.underlying29 hi, cells_b, run_items d a b w _ (fun j hj => by rw [List.mem_range] at hj; omega), all_eq ha hb]
theorem guard_h : Tryd.prog.eqGuardType Tryd.prog.depth 29 = false := by kernel_rfl
theorem run_hash_neq (a b : List UInt8) (ha : a.length = 32) (hb : b.length = 32) (w : World) : (binOp .neq 29 (.agg (a.map encB).toArray) (.agg (b.map encB).toArray)).run Tryd.prog w = .ok (.bool (!decide (a = b))) w := by
  rw [run_neq_struct, run_hash_eq 9998 a b ha hb]; rfl
theorem run_hash_eql (a b : List UInt8) (ha : a.length = 32) (hb : b.length = 32) (w : World) : (binOp .eql 29 (.agg (a.map encB).toArray) (.agg (b.map encB).toArray)).run Tryd.prog w = .ok (.bool (decide (a = b))) w := by
  rw [run_eql_struct, run_hash_eq 9998 a b ha hb]; rfl
end Go.Proofs.YthcklfelofpffaaDoor
