/- A seal is stored into an own slice of seals. No condition. -/
import Derived.Test.YtfncpofcgalllaaSealW13
import Derived.Deep.MidRow
namespace Go.Proofs.Ytfncpofcgalllaa
open Go.RowKit
theorem seal_size : (Try.prog.info? 41).map (·.size) = some 5 := by kernel_rfl
theorem run_set {w : World} {base g n cap k : Nat} {l : List Seal} (hown : Own w base 41 (.slice (some ⟨g, 0, none⟩) n cap) l) (hk : k < l.length) (s : Seal) (hs : s.ok) :
    ∃ w', (Instr.storeAt 41 (.pointer (some ⟨g, k * 5, none⟩)) (.agg #[.int .i64 s.e, .int .i64 s.v, .int .i64 s.f, .int .i64 s.u, .int .i64 s.g])).run Try.prog w = .ok () w' ∧
      Own w' base 41 (.slice (some ⟨g, 0, none⟩) n cap) (l.set k s) ∧ w.grownBy w' (some g) := by
  obtain ⟨h1, h2⟩ := own_set_seal hown k hk s hs (o := k * 5) rfl
  refine ⟨_, run_storeAt_mid w g (k * 5) _ _ ?_ seal_size (by simp [Value.oneCell']), ?_, ?_⟩
  · intro j hj
    obtain ⟨g', cap', he, _, _, _, _, hfz, c0, c1, c2, c3, c4⟩ := own_seal_at hown hk
    obtain ⟨hg, _, _⟩ := Value.slice.inj he
    cases hg
    refine ⟨?_, hfz _⟩
    have : j = 0 ∨ j = 1 ∨ j = 2 ∨ j = 3 ∨ j = 4 := by simp at hj; omega
    rcases this with rfl | rfl | rfl | rfl | rfl
    · rw [Nat.add_zero, c0]; rfl
    · rw [c1]; rfl
    · rw [c2]; rfl
    · rw [c3]; rfl
    · rw [c4]; rfl
  · exact h1
  · exact h2
theorem wpList_set {ops : Array Oper} {rest : List Oper} {op : Oper} {a : Act} {w : World} {Q : Exit → Act → World → Prop} (hgd : op.guard = none) (x y : Operand) (ho : op.op = .store 41 x y)
    {base g n cap : Nat} (k : Nat) {l : List Seal} (hown : Own w base 41 (.slice (some ⟨g, 0, none⟩) n cap) l) (hk : k < l.length) (s : Seal) (hs : s.ok)
    (hx : a.eval x = .pointer (some ⟨g, k * 5, none⟩)) (hy : a.eval y = .agg #[.int .i64 s.e, .int .i64 s.v, .int .i64 s.f, .int .i64 s.u, .int .i64 s.g])
    (h : ∀ w', Own w' base 41 (.slice (some ⟨g, 0, none⟩) n cap) (l.set k s) → w.grownBy w' (some g) → wpList Try.prog ops Q rest (a.put op.dst undef) w') : wpList Try.prog ops Q (op :: rest) a w := by
  obtain ⟨w', hr, h1, h2⟩ := run_set hown hk s hs
  refine wpList_plain hgd fun K hK => ?_
  unfold Oper.wp execOp
  simp only [ho, hx, hy, hr, Sem.run_bind, Result.andThen_ok]
  exact hK _ _ (h w' h1 h2)
end Go.Proofs.Ytfncpofcgalllaa
