/- Splitting by runes is splitting by bytes. No condition. -/
import Derived.Lib.FieldsP
import Derived.Test.YtgnblofjjondpaaDoorGlyW10
import Derived.Laws.RangeString
import Derived.Laws.RangeAny
namespace Go.Proofs.YtgnblofjjondpaaDoor
theorem isSp_hi {c : Nat} (h : 128 ≤ c) : isSp c = false := by
  unfold isSp; simp; omega
def byteAt (s : ByteArray) (i : Nat) : Nat := (s.get! i).toNat
theorem decode_sp (s : ByteArray) (pos : Nat) (hp : pos < s.size) :
    1 ≤ (Utf8.decode s pos).2 ∧ pos + (Utf8.decode s pos).2 ≤ s.size ∧ (isSp (Utf8.decode s pos).1 = true → (Utf8.decode s pos).2 = 1 ∧ isSp (byteAt s pos) = true) ∧
      (isSp (Utf8.decode s pos).1 = false → ∀ k, k < (Utf8.decode s pos).2 → isSp (byteAt s (pos + k)) = false) := by
  have hi : ∀ k, byteAt s k / 64 = 2 → isSp (byteAt s k) = false := fun k h => isSp_hi (by omega)
  have hE : isSp Utf8.runeError = false := by decide
  unfold Utf8.decode
  simp only []
  by_cases h0 : (s.get! (pos + 0)).toNat < 128
  · rw [if_pos h0]
    refine ⟨Nat.le_refl _, hp, fun h => ⟨rfl, h⟩, fun h k hk => ?_⟩
    obtain rfl : k = 0 := by simp at hk; exact hk
    exact h
  · rw [if_neg h0]
    have h00 : isSp (byteAt s (pos + 0)) = false := isSp_hi (by unfold byteAt; omega)
    have one : 1 ≤ 1 ∧ pos + 1 ≤ s.size ∧ (isSp Utf8.runeError = true → 1 = 1 ∧ isSp (byteAt s pos) = true) ∧ (isSp Utf8.runeError = false → ∀ k, k < 1 → isSp (byteAt s (pos + k)) = false) := by
      refine ⟨Nat.le_refl _, hp, fun h => (by rw [hE] at h; cases h), fun _ k hk => ?_⟩
      obtain rfl : k = 0 := by omega
      exact h00
    split
    · rename_i h1
      simp only [Bool.and_eq_true, decide_eq_true_iff, beq_iff_eq] at h1
      split
      · rename_i hc
        refine ⟨by simp only; omega, by simp only; omega, fun h => (by rw [isSp_hi (by simp only; omega)] at h; cases h), fun _ k hk => ?_⟩
        simp only at hk
        have : k = 0 ∨ k = 1 := by omega
        rcases this with rfl | rfl
        · exact h00
        · exact hi _ h1.2.2
      · exact one
    · split
      · rename_i h1
        simp only [Bool.and_eq_true, decide_eq_true_iff, beq_iff_eq] at h1
        split
        · rename_i hc
          simp only [Bool.and_eq_true, decide_eq_true_iff] at hc
          refine ⟨by simp only; omega, by simp only; omega, fun h => (by rw [isSp_hi (by simp only; omega)] at h; cases h), fun _ k hk => ?_⟩
          simp only at hk
          have : k = 0 ∨ k = 1 ∨ k = 2 := by omega
          rcases this with rfl | rfl | rfl
          · exact h00
          · exact hi _ h1.1.2.2
          · exact hi _ h1.2.2
        · exact one
      · split
        · rename_i h1
          simp only [Bool.and_eq_true, decide_eq_true_iff, beq_iff_eq] at h1
          split
          · rename_i hc
            simp only [Bool.and_eq_true, decide_eq_true_iff] at hc
            refine ⟨by simp only; omega, by simp only; omega, fun h => (by rw [isSp_hi (by simp only; omega)] at h; cases h), fun _ k hk => ?_⟩
            simp only at hk
            have : k = 0 ∨ k = 1 ∨ k = 2 ∨ k = 3 := by omega
            rcases this with rfl | rfl | rfl | rfl
            · exact h00
            · exact hi _ h1.1.1.2.2
            · exact hi _ h1.1.2.2
            · exact hi _ h1.2.2
          · exact one
        · exact one
def cl (st pos : Nat) (acc : List (Nat × Nat)) : List (Nat × Nat) := if st < pos then acc ++ [(st, pos)] else acc
def rf (s : ByteArray) : Nat → Nat → Nat → List (Nat × Nat) → List (Nat × Nat)
  | 0, pos, st, acc => cl st pos acc
  | n + 1, pos, st, acc => if isSp (byteAt s pos) then rf s n (pos + 1) (pos + 1) (cl st pos acc) else rf s n (pos + 1) st acc
theorem rf_skip (s : ByteArray) : ∀ (w n pos st : Nat) (acc : List (Nat × Nat)), w ≤ n → (∀ k, k < w → isSp (byteAt s (pos + k)) = false) → rf s n pos st acc = rf s (n - w) (pos + w) st acc
  | 0, n, pos, st, acc, _, _ => rfl
  | w + 1, 0, pos, st, acc, h, _ => by omega
  | w + 1, n + 1, pos, st, acc, h, hk => by
    have h0 := hk 0 (by omega)
    rw [Nat.add_zero] at h0
    rw [rf, if_neg (by rw [h0]; decide), rf_skip s w n (pos + 1) st acc (by omega) (fun k hk' => by rw [show pos + 1 + k = pos + (k + 1) by omega]; exact hk (k + 1) (by omega))]
    rw [show n + 1 - (w + 1) = n - w by omega, show pos + 1 + w = pos + (w + 1) by omega]
theorem spans_rf (s : ByteArray) : ∀ (f pos : Nat) (st : Option Nat) (acc : List (Nat × Nat)), s.size - pos ≤ f → pos ≤ s.size → (∀ a, st = some a → a < pos) →
    Lib.closeSpans s (Lib.spansFromP isSp s f pos st acc) = rf s (s.size - pos) pos (st.getD pos) acc
  | 0, pos, st, acc, hf, hp, ha => by
    have e : pos = s.size := by omega
    subst e
    rw [Nat.sub_self]
    unfold Lib.spansFromP Lib.closeSpans rf cl
    cases st with
    | none => simp
    | some a => have := ha a rfl; simp [this]
  | f + 1, pos, st, acc, hf, hp, ha => by
    by_cases hlt : pos < s.size
    · obtain ⟨d1, d2, d3, d4⟩ := decode_sp s pos hlt
      obtain ⟨n, hn⟩ : ∃ n, s.size - pos = n + 1 := ⟨s.size - pos - 1, by omega⟩
      unfold Lib.spansFromP
      rw [if_pos hlt]
      cases hs : isSp (Utf8.decode s pos).1 with
      | true =>
        obtain ⟨e1, e2⟩ := d3 hs
        rw [if_pos rfl, e1]
        cases st with
        | none =>
          simp only
          rw [spans_rf s f (pos + 1) none acc (by omega) (by omega) (fun a h => by cases h), hn, rf, if_pos e2]
          simp only [Option.getD_none]
          rw [show s.size - (pos + 1) = n by omega]
          unfold cl
          rw [if_neg (by omega)]
        | some a =>
          have := ha a rfl
          simp only
          rw [spans_rf s f (pos + 1) none _ (by omega) (by omega) (fun a h => by cases h), hn, rf, if_pos e2]
          simp only [Option.getD_none, Option.getD_some]
          rw [show s.size - (pos + 1) = n by omega]
          unfold cl
          rw [if_pos this]
      | false =>
        rw [if_neg (by decide)]
        have d4' := d4 hs
        cases st with
        | none =>
          simp only
          rw [spans_rf s f _ (some pos) acc (by omega) (by omega) (fun a h => by cases h; omega), rf_skip s _ (s.size - pos) pos _ acc (by omega) d4']
          simp only [Option.getD_none, Option.getD_some]
          rw [Nat.sub_sub]
        | some a =>
          have := ha a rfl
          simp only
          rw [spans_rf s f _ (some a) acc (by omega) (by omega) (fun a h => by cases h; omega), rf_skip s _ (s.size - pos) pos _ acc (by omega) d4']
          simp only [Option.getD_some]
          rw [Nat.sub_sub]
    · have e : pos = s.size := by omega
      subst e
      rw [Nat.sub_self, Lib.spansFromP_end _ _ _ _ _ _ hlt]
      unfold Lib.closeSpans rf cl
      cases st with
      | none => simp
      | some a => have := ha a rfl; simp [this]
/-- The state of the loop over the bytes. -/
def rs (s : ByteArray) : Nat → Nat × List (Nat × Nat)
  | 0 => (0, [])
  | k + 1 => if isSp (byteAt s k) then (k + 1, cl (rs s k).1 k (rs s k).2) else rs s k
theorem rs_rf (s : ByteArray) : ∀ k, k ≤ s.size → rf s (s.size - k) k (rs s k).1 (rs s k).2 = rf s s.size 0 0 []
  | 0, _ => rfl
  | k + 1, h => by
    rw [← rs_rf s k (by omega), show s.size - k = (s.size - (k + 1)) + 1 by omega, rf, rs]
    split <;> rfl
theorem rs_le (s : ByteArray) : ∀ k, (rs s k).1 ≤ k
  | 0 => Nat.le_refl _
  | k + 1 => by
    rw [rs]; split
    · exact Nat.le_refl _
    · have := rs_le s k; omega
theorem cl_mem {st pos : Nat} {acc : List (Nat × Nat)} {x : Nat × Nat} (h : x ∈ acc) : x ∈ cl st pos acc := by
  unfold cl; split
  · exact List.mem_append_left _ h
  · exact h
theorem rf_mem (s : ByteArray) : ∀ (n pos st : Nat) (acc : List (Nat × Nat)) (x : Nat × Nat), x ∈ acc → x ∈ rf s n pos st acc
  | 0, _, _, _, _, h => cl_mem h
  | n + 1, pos, st, acc, x, h => by
    rw [rf]; split
    · exact rf_mem s n _ _ _ x (cl_mem h)
    · exact rf_mem s n _ _ _ x h
theorem rs_len (s : ByteArray) : ∀ k, (rs s k).2.length ≤ k
  | 0 => Nat.le_refl _
  | k + 1 => by
    have := rs_len s k
    rw [rs]; split
    · show (cl _ _ _).length ≤ _
      unfold cl; split
      · simp; omega
      · omega
    · omega
theorem fields_rs (s : ByteArray) : Lib.goFieldsP isSp s = (cl (rs s s.size).1 s.size (rs s s.size).2).map fun x => s.extract x.1 x.2 := by
  unfold Lib.goFieldsP Lib.spansOfP
  rw [spans_rf s s.size 0 none [] (by omega) (by omega) (fun a h => by cases h)]
  simp only [Option.getD_none]
  have := rs_rf s s.size (Nat.le_refl _)
  rw [Nat.sub_self] at this
  rw [Nat.sub_zero, ← this]; rfl
/-- A piece that the loop finds is one of the pieces. -/
theorem piece_mem (s : ByteArray) (k : Nat) (hk : k ≤ s.size) (hlt : (rs s k).1 < k) (he : k = s.size ∨ isSp (byteAt s k) = true) : s.extract (rs s k).1 k ∈ Lib.goFieldsP isSp s := by
  rw [fields_rs]
  rcases Nat.lt_or_ge k s.size with h | h
  · have hs : isSp (byteAt s k) = true := by rcases he with h' | h'; omega; exact h'
    have e1 : ((rs s k).1, k) ∈ (rs s (k + 1)).2 := by
      rw [rs, if_pos hs]
      show _ ∈ cl _ _ _
      unfold cl
      rw [if_pos hlt]
      exact List.mem_append_right _ (List.mem_singleton.2 rfl)
    have e2 := rf_mem s (s.size - (k + 1)) (k + 1) (rs s (k + 1)).1 _ _ e1
    rw [rs_rf s (k + 1) (by omega), ← rs_rf s s.size (Nat.le_refl _), Nat.sub_self] at e2
    exact List.mem_map.2 ⟨_, e2, rfl⟩
  · obtain rfl : k = s.size := by omega
    refine List.mem_map.2 ⟨((rs s s.size).1, s.size), ?_, rfl⟩
    unfold cl
    rw [if_pos hlt]
    exact List.mem_append_right _ (List.mem_singleton.2 rfl)
end Go.Proofs.YtgnblofjjondpaaDoor
