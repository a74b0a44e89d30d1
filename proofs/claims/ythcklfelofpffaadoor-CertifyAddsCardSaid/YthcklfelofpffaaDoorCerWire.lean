/- Numbers and strings as bytes, in plain words. No condition, and no program in sight. -/
import Derived.Test.YthcklfelofpffaaDoorCerW1
namespace Go.Proofs.YthcklfelofpffaaDoor
open Go.RowKit
def uintF : Nat → Nat → List UInt8
  | 0, n => [UInt8.ofNat n]
  | f + 1, n => if n < 128 then [UInt8.ofNat n] else UInt8.ofNat (n % 128 + 128) :: uintF f (n / 128)
/-- The bytes of a number. -/
def uintB (n : Nat) : List UInt8 := uintF 10 n
theorem uintF_more : ∀ (f n : Nat), n < 128 ^ (f + 1) → uintF (f + 1) n = uintF f n
  | 0, n, h => by
    have h' : n < 128 := by simpa using h
    show (if n < 128 then _ else _) = _
    rw [if_pos h']; rfl
  | f + 1, n, h => by
    rw [uintF]
    conv => rhs; rw [uintF]
    by_cases h1 : n < 128
    · rw [if_pos h1, if_pos h1]
    · rw [if_neg h1, if_neg h1, uintF_more f (n / 128) (by rw [Nat.pow_succ] at h; omega)]
theorem uintB_lt {n : Nat} (h : n < 128) : uintB n = [UInt8.ofNat n] := by rw [uintB, uintF, if_pos h]
theorem uintB_ge {n : Nat} (h : 128 ≤ n) (hn : n < 18446744073709551616) : uintB n = UInt8.ofNat (n % 128 + 128) :: uintB (n / 128) := by
  rw [uintB, uintF, if_neg (by omega), uintB, uintF_more 9 (n / 128) (by omega)]
theorem uintF_length : ∀ f n, (uintF f n).length ≤ f + 1
  | 0, n => by simp [uintF]
  | f + 1, n => by
    rw [uintF]
    split
    · simp
    · rw [List.length_cons]; have := uintF_length f (n / 128); omega
theorem uintB_length (n : Nat) : (uintB n).length ≤ 11 := uintF_length 10 n
/-- A number of Go as an unsigned one. -/
def zig (n : Int) : Nat := if n < 0 then (2 * (-(n + 1)) + 1).toNat else (2 * n).toNat
def intB (n : Int) : List UInt8 := uintB (zig n)
def textB (s : ByteArray) : List UInt8 := uintB s.size ++ s.data.toList
def textsB (l : List ByteArray) : List UInt8 := uintB l.length ++ l.flatMap textB
/-- An int of Go. -/
def I64 (n : Int) : Prop := -9223372036854775808 ≤ n ∧ n ≤ 9223372036854775807
theorem zig_lt {n : Int} (h : I64 n) : zig n < 18446744073709551616 := by
  unfold zig; obtain ⟨h1, h2⟩ := h; split <;> omega
theorem or128 (m : Nat) : bits .or .u8 ((m : Int) % 256) 128 = ((UInt8.ofNat (m % 128 + 128)).toNat : Int) := by
  have h : ∀ r : Nat, r < 256 → bits .or .u8 (r : Int) 128 = ((UInt8.ofNat (r % 128 + 128)).toNat : Int) := by decide +kernel
  have := h (m % 256) (by omega)
  rw [Int.natCast_emod] at this
  rw [show (m : Int) % 256 = (m : Int) % ((256 : Nat) : Int) from rfl, this]
  congr 3; omega
theorem low8 (m : Nat) : (m : Int) % 256 = ((UInt8.ofNat m).toNat : Int) := by
  rw [UInt8.toNat_ofNat']; omega
theorem zig_bits (n : Int) (h : I64 n) : bits .xor .u64 (IntKind.u64.wrap (IntKind.u64.wrap n * 2)) (IntKind.u64.wrap (n / 9223372036854775808)) = (zig n : Int) := by
  obtain ⟨h1, h2⟩ := h
  have hw : ∀ z : Int, IntKind.u64.wrap z = z % 18446744073709551616 := fun z => rfl
  have hb : ∀ (a b : BitVec 64), bits .xor .u64 (a.toNat : Int) (b.toNat : Int) = ((a ^^^ b).toNat : Int) := fun a b => by
    have e : bits .xor .u64 (a.toNat : Int) (b.toNat : Int) = IntKind.u64.wrap ((BitVec.ofInt 64 (a.toNat : Int) ^^^ BitVec.ofInt 64 (b.toNat : Int)).toNat : Int) := rfl
    have f : ∀ x : BitVec 64, BitVec.ofInt 64 (x.toNat : Int) = x := fun x => by apply BitVec.eq_of_toNat_eq; rw [BitVec.toNat_ofInt]; have := x.isLt; omega
    rw [e, f, f, hw]; have := (a ^^^ b).isLt; omega
  rw [hw, hw, hw]
  by_cases hn : n < 0
  · have e1 : n / 9223372036854775808 % 18446744073709551616 = ((BitVec.allOnes 64).toNat : Int) := by rw [BitVec.toNat_allOnes]; omega
    have e2 : n % 18446744073709551616 * 2 % 18446744073709551616 = ((BitVec.ofNat 64 (18446744073709551616 + 2 * n).toNat).toNat : Int) := by rw [BitVec.toNat_ofNat]; omega
    rw [e1, e2, hb, BitVec.xor_allOnes, BitVec.toNat_not, BitVec.toNat_ofNat]
    unfold zig; rw [if_pos hn]; omega
  · have e1 : n / 9223372036854775808 % 18446744073709551616 = ((0#64).toNat : Int) := by rw [show (0#64).toNat = 0 from rfl]; omega
    have e2 : n % 18446744073709551616 * 2 % 18446744073709551616 = ((BitVec.ofNat 64 (2 * n).toNat).toNat : Int) := by rw [BitVec.toNat_ofNat]; omega
    rw [e1, e2, hb, BitVec.xor_zero, BitVec.toNat_ofNat]
    unfold zig; rw [if_neg hn]; omega
end Go.Proofs.YthcklfelofpffaaDoor
