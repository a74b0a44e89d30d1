/- Around, Valid, valid and bit compute what is specified, for all arguments. No condition. -/
import Derived.Test.YtfncpofcgalllaaSealData
import Derived.Test.YtfncpofcgalllaaRows
import Derived.Deep.QuietTactic
import Derived.BigQuiet
namespace Go.Proofs.Ytfncpofcgalllaa
open Go.RowKit
theorem eql_seal (a b : Seal) (w : World) : (binOp .eql 41 (.agg #[.int .i64 a.e, .int .i64 a.v, .int .i64 a.f, .int .i64 a.u, .int .i64 a.g]) (.agg #[.int .i64 b.e, .int .i64 b.v, .int .i64 b.f, .int .i64 b.u, .int .i64 b.g])).run Try.prog w = .ok (.bool (decide (a = b))) w := by
  obtain ⟨a1, a2, a3, a4, a5⟩ := a
  obtain ⟨b1, b2, b3, b4, b5⟩ := b
  simp only [Seal.mk.injEq]
  go_simp
  repeat' split
  all_goals simp [*]
theorem neq_seal (a b : Seal) (w : World) : (binOp .neq 41 (.agg #[.int .i64 a.e, .int .i64 a.v, .int .i64 a.f, .int .i64 a.u, .int .i64 a.g]) (.agg #[.int .i64 b.e, .int .i64 b.v, .int .i64 b.f, .int .i64 b.u, .int .i64 b.g])).run Try.prog w = .ok (.bool (!decide (a = b))) w := by
  obtain ⟨a1, a2, a3, a4, a5⟩ := a
  obtain ⟨b1, b2, b3, b4, b5⟩ := b
  simp only [Seal.mk.injEq]
  go_simp
  repeat' split
  all_goals simp [*]
/-- The cells of a boxed seal. -/
theorem seal_box {w : World} {B : Nat} {s : Seal} {t : TypeId} {fr : Nat × Nat} (hB : w.heap[B]? = some (.cells s.cells.toArray t fr)) :
    w.cell? ⟨B, 0, none⟩ = some (.int .i64 s.e) ∧ w.cell? ⟨B, 1, none⟩ = some (.int .i64 s.v) ∧ w.cell? ⟨B, 2, none⟩ = some (.int .i64 s.f) ∧ w.cell? ⟨B, 3, none⟩ = some (.int .i64 s.u) ∧ w.cell? ⟨B, 4, none⟩ = some (.int .i64 s.g) :=
  ⟨cell_of_row w _ 0 _ _ _ hB, cell_of_row w _ 1 _ _ _ hB, cell_of_row w _ 2 _ _ _ hB, cell_of_row w _ 3 _ _ _ hB, cell_of_row w _ 4 _ _ _ hB⟩
set_option maxHeartbeats 400000 in
theorem index_any (A : Option Addr) (c : Nat) (l : List Seal) (s : Seal) (w : World) (hl : Sl w (fun b => b < w.heap.size) A c l) (_hs : s.ok) :
    Calls Try.prog 32 #[.slice A l.length c, .agg s.cells.toArray] w fun e w' => e = .returned (.int .i64 (idx s l 0)) ∧ Below w.heap.size w w' := by
  have hlen : l.length ≤ 9223372036854775807 := by have := hl.1; have := hl.2.1; unfold maxLen at this; omega
  unfold Seal.cells
  go_enter Try.func32, Try.ntmps32
  go_wp2
  go_loopw [5] (fun i wr => ∃ k : Nat, k ≤ l.length ∧ i = .int .i64 k ∧ Hid (idx s l 0 = idx s (l.drop k) k) ∧ Below w.heap.size w wr ∧ wr.heap[w.heap.size]? = some (.cells s.cells.toArray 41 (0, 0)))
    (fun i _ => l.length - (intOf i).toNat)
  case atStart => exact ⟨0, Nat.zero_le _, rfl, rfl, (Below.refl _ _).alloc (Nat.le_refl _) _, heap_alloc_new w _⟩
  case round =>
    obtain ⟨k, hk, rfl, hi, hb, hB⟩ := hrel
    by_cases hlt : k < l.length
    · obtain ⟨b, o, rfl, hbS, hbl, hok, c0, c1, c2, c3, c4⟩ := seal_at (hl.keep (Kept.all hb) hb.size) hlt
      have hkl : (k : Int) < (l.length : Int) := by omega
      have hk0 : (0 : Int) ≤ (k : Int) := by omega
      obtain ⟨e0, e1, e2, e3, e4⟩ := seal_box hB
      have hq : ∀ w', (binOp .eql 41 (.agg #[.int .i64 l[k].e, .int .i64 l[k].v, .int .i64 l[k].f, .int .i64 l[k].u, .int .i64 l[k].g]) (.agg #[.int .i64 s.e, .int .i64 s.v, .int .i64 s.f, .int .i64 s.u, .int .i64 s.g])).run Try.prog w' = .ok (.bool (decide (l[k] = s))) w' := fun w' => eql_seal _ _ _
      by_cases heq : l[k] = s
      · rw [decide_eq_true heq] at hq
        have Heq := Lib.hid (idx_hit s l k hlt heq)
        clear heq
        go_wp2_with fail
        go_quiet (fail)
        go_wp2_with fail
        go_ret
        exact ⟨ret_int (by rw [hi.out, Heq.out]), Below.dn hb _⟩
      · rw [decide_eq_false heq] at hq
        have Heq := Lib.hid (idx_miss s l k hlt heq)
        clear heq
        go_wp2_with fail
        go_quiet (fail)
        go_wp2_with fail
        go_roundw
        case rel => exact ⟨k + 1, by omega, by go_num, by rw [hi.out, Heq.out]; rfl, Below.dn hb _, hB⟩
        case measure => simp [intOf]; omega
    · go_wp2_with fail
      go_ret
      exact ⟨by rw [hi.out, List.drop_of_length_le (by omega)]; rfl, hb⟩
theorem index_n (A : Option Addr) (c n : Nat) (l : List Seal) (s : Seal) (w : World) (hl : Sl w (fun b => b < w.heap.size) A c l) (hn : l.length = n) (hs : s.ok) :
    Calls Try.prog 32 #[.slice A n c, .agg #[.int .i64 s.e, .int .i64 s.v, .int .i64 s.f, .int .i64 s.u, .int .i64 s.g]] w fun e w' => e = .returned (.int .i64 (idx s l 0)) ∧ Below w.heap.size w w' := by
  subst hn; exact index_any A c l s w hl hs
end Go.Proofs.Ytfncpofcgalllaa
