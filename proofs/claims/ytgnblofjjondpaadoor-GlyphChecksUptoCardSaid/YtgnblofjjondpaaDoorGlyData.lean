/- The widths of glyphs as plain data, and what the package-level tables hold. No condition. -/
import Derived.Test.YtgnblofjjondpaaDoorBase
import Derived.Test.YtgnblofjjondpaaDoorRows
import Derived.Lib.LaidTab
import Derived.LaidSub
namespace Go.Proofs.YtgnblofjjondpaaDoor
open Go.RowKit
/-- An int of Go. -/
def I64 (n : Int) : Prop := -9223372036854775808 ≤ n ∧ n ≤ 9223372036854775807
def wTab : List Int := [4, 6, 8, 8, 12, 10, 4, 6, 6, 8, 8, 4, 6, 4, 6, 8, 8, 8, 8, 8, 8, 8, 8, 8, 8, 4, 4, 8, 8, 8, 8, 12, 10, 10, 10, 10, 10, 10, 10, 10, 6, 10, 10, 10, 12, 10, 10, 10, 10, 10, 10, 10, 10, 10, 12, 10, 10, 10, 0, 6, 0, 8, 8, 4, 8, 8, 8, 8, 8, 6, 8, 8, 4, 4, 8, 4, 12, 8, 8, 8, 8, 6, 8, 6, 8, 8, 12, 8, 8, 8, 6, 4, 6, 8]
theorem gW : Tryd.prog.globalNamed "rollbook/glyph.widths" = some 0 := by kernel_rfl
/-- The width of a glyph, or 0. -/
def gw (c : Nat) : Int := if c < 33 then 0 else wTab.getD (c - 33) 0
/-- The same by the reference. -/
def gwR (c : Nat) : Int :=
  if c < 33 ∨ 126 < c ∨ c = 91 ∨ c = 93 then 0
  else if c ∈ [105, 106, 108, 46, 44, 59, 58, 33, 124, 39] ∨ c = 96 then 4
  else if c ∈ [102, 114, 116, 73, 45, 47, 92, 40, 41, 123, 125] ∨ c = 34 then 6
  else if c ∈ [109, 119, 77, 87, 64, 37] then 12
  else if (65 ≤ c ∧ c ≤ 90) ∨ c = 38 then 10
  else 8
theorem gwR_eq : ∀ c, c < 256 → gwR c = gw c := by decide +kernel
theorem gw_bd : ∀ c, c < 256 → 0 ≤ gw c ∧ gw c ≤ 12 := by decide +kernel
theorem gw_pos : ∀ c, c < 256 → gw c = 0 ∨ (4 ≤ gw c ∧ gw c % 2 = 0) := by decide +kernel
theorem gw_lo : ∀ c, c < 33 → gw c = 0 := by decide +kernel
theorem gw_hi : ∀ c, c < 256 → 127 ≤ c → gw c = 0 := by decide +kernel
/-- What a call finds in the tables. -/
def Laid (w : World) : Prop := Lib.TabIs Tryd.prog w "rollbook/glyph.widths" .u8 wTab
theorem Laid.cell {w : World} (h : Laid w) (d : Nat) (hd : d < 94) : w.cell? ⟨0, d, none⟩ = some (.int .u8 (gw (d + 33))) := by
  have := Lib.TabIs.cell h gW d hd
  rw [this]
  unfold gw
  rw [if_neg (by omega), Nat.add_sub_cancel]
theorem TabIs_keep {n : String} {g : Nat} {k : IntKind} {zs : List Int} {w w' : World} (hg : Tryd.prog.globalNamed n = some g) (h : Lib.TabIs Tryd.prog w n k zs) (hb : Below w.heap.size w w') : Lib.TabIs Tryd.prog w' n k zs := by
  unfold Lib.TabIs World.var? at h ⊢
  rw [hg] at h ⊢
  simp only [Option.bind_some] at h ⊢
  have hlt : g < w.heap.size := by
    rcases Nat.lt_or_ge g w.heap.size with h' | h'
    · exact h'
    · rw [Array.getElem?_eq_none h'] at h; cases h
  rw [hb.block g hlt]; exact h
theorem Laid.to {w w' : World} (h : Laid w) (hb : Below w.heap.size w w') : Laid w' := TabIs_keep gW h hb
/-- The sum of the widths, or 0. -/
def sumW : List UInt8 → Int
  | [] => 0
  | c :: r => gw c.toNat + sumW r
def okW (l : List UInt8) : Bool := l.all fun c => gw c.toNat != 0
def width (s : ByteArray) : Int := if 40 < s.size then 0 else if okW s.data.toList then sumW s.data.toList else 0
def valid (s : ByteArray) : Bool := decide (1 ≤ s.size ∧ s.size ≤ 40) && okW s.data.toList
theorem sumW_append (a b : List UInt8) : sumW (a ++ b) = sumW a + sumW b := by
  induction a with
  | nil => simp [sumW]
  | cons c r ih => simp only [List.cons_append, sumW, ih]; omega
theorem sumW_bd (l : List UInt8) : 0 ≤ sumW l ∧ sumW l ≤ 12 * l.length := by
  induction l with
  | nil => simp [sumW]
  | cons c r ih => have := gw_bd c.toNat c.toNat_lt; simp only [sumW, List.length_cons]; omega
theorem sumW_pos (l : List UInt8) (h : okW l = true) : 4 * (l.length : Int) ≤ sumW l := by
  induction l with
  | nil => simp [sumW]
  | cons c r ih =>
    unfold okW at h
    rw [List.all_cons, Bool.and_eq_true] at h
    have h1 := gw_pos c.toNat c.toNat_lt
    have h2 : gw c.toNat ≠ 0 := bne_iff_ne.1 h.1
    have := ih h.2
    simp only [sumW, List.length_cons]; omega
theorem valid_iff (s : ByteArray) : valid s = decide (0 < width s) := by
  unfold valid width
  have hl : s.data.toList.length = s.size := by simp
  by_cases h1 : 40 < s.size
  · rw [if_pos h1]; simp; intro _ h; omega
  · rw [if_neg h1]
    cases ho : okW s.data.toList
    · simp
    · have := sumW_pos _ ho
      have h2 := sumW_bd s.data.toList
      simp only [if_true, Bool.and_true]
      rw [hl] at this h2
      rw [decide_eq_decide]; omega
theorem okW_take (s : ByteArray) (k : Nat) (h : k < s.size) : okW (s.data.toList.take (k + 1)) = (okW (s.data.toList.take k) && (gw s[k].toNat != 0)) := by
  have e : s.data.toList.take (k + 1) = s.data.toList.take k ++ [s[k]] := by
    rw [List.take_succ_eq_append_getElem (by simpa using h)]; rfl
  unfold okW; rw [e, List.all_append]; simp
theorem sumW_take (s : ByteArray) (k : Nat) (h : k < s.size) : sumW (s.data.toList.take (k + 1)) = sumW (s.data.toList.take k) + gw s[k].toNat := by
  have e : s.data.toList.take (k + 1) = s.data.toList.take k ++ [s[k]] := by
    rw [List.take_succ_eq_append_getElem (by simpa using h)]; rfl
  rw [e, sumW_append]; simp [sumW]
theorem okW_not (s : ByteArray) (k : Nat) (h : k < s.size) (h0 : gw s[k].toNat = 0) : okW s.data.toList = false := by
  unfold okW
  rw [List.all_eq_false]
  exact ⟨s[k], by simp [ByteArray.getElem_eq_getElem_data], by simp [h0]⟩
theorem takeAll (s : ByteArray) (k : Nat) (h : s.size ≤ k) : s.data.toList.take k = s.data.toList := List.take_of_length_le (by simp; exact h)
end Go.Proofs.YtgnblofjjondpaaDoor
