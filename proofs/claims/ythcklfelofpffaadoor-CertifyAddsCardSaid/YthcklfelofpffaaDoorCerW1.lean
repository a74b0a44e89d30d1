/- Words of 32 bits in the model. No condition. -/
import Derived.Test.YthcklfelofpffaaDoorCerSha
import Derived.Test.YthcklfelofpffaaDoorRows
import Derived.Test.YthcklfelofpffaaDoorCalm
import Derived.Lib.LaidTab
import Derived.LaidSub
import Derived.BigQuiet
import Derived.IntWalk
namespace Go.Proofs.YthcklfelofpffaaDoor
open Go.RowKit
/-- A word as the model's number. -/
def u (x : W32) : Int := (x.toNat : Int)
theorem u_bd (x : W32) : 0 ≤ u x ∧ u x < 4294967296 := by have := x.isLt; unfold u; omega
theorem wrap_u32 (n : Int) : IntKind.u32.wrap n = n % 4294967296 := by
  unfold IntKind.wrap; rfl
theorem wrap_u32_nat (n : Nat) : IntKind.u32.wrap (n : Int) = u (BitVec.ofNat 32 n) := by
  rw [wrap_u32]; unfold u; rw [BitVec.toNat_ofNat]; omega
theorem ofInt_u (x : W32) : BitVec.ofInt 32 (u x) = x := by
  unfold u; apply BitVec.eq_of_toNat_eq; rw [BitVec.toNat_ofInt]; have := x.isLt; omega
theorem wrap_back (x : W32) : IntKind.u32.wrap (x.toNat : Int) = u x := by
  rw [wrap_u32]; have := x.isLt; unfold u; omega
theorem u_xor (a b : W32) : bits .xor .u32 (u a) (u b) = u (a ^^^ b) := by
  have : bits .xor .u32 (u a) (u b) = IntKind.u32.wrap ((BitVec.ofInt 32 (u a) ^^^ BitVec.ofInt 32 (u b)).toNat : Int) := rfl
  rw [this, ofInt_u, ofInt_u, wrap_back]
theorem u_and (a b : W32) : bits .and .u32 (u a) (u b) = u (a &&& b) := by
  have : bits .and .u32 (u a) (u b) = IntKind.u32.wrap ((BitVec.ofInt 32 (u a) &&& BitVec.ofInt 32 (u b)).toNat : Int) := rfl
  rw [this, ofInt_u, ofInt_u, wrap_back]
theorem u_or (a b : W32) : bits .or .u32 (u a) (u b) = u (a ||| b) := by
  have : bits .or .u32 (u a) (u b) = IntKind.u32.wrap ((BitVec.ofInt 32 (u a) ||| BitVec.ofInt 32 (u b)).toNat : Int) := rfl
  rw [this, ofInt_u, ofInt_u, wrap_back]
theorem u_add (a b : W32) : IntKind.u32.wrap (u a + u b) = u (a + b) := by
  rw [wrap_u32]; unfold u; rw [BitVec.toNat_add]; omega
theorem u_addm (a b : W32) : (u a + u b) % 4294967296 = u (a + b) := by rw [← wrap_u32]; exact u_add a b
theorem u_shr (x : W32) (n : Nat) : u x / 2 ^ n = u (x >>> n) := by
  unfold u; rw [BitVec.toNat_ushiftRight, Nat.shiftRight_eq_div_pow]; norm_cast
theorem u_shl (x : W32) (n : Nat) : IntKind.u32.wrap (u x * 2 ^ n) = u (x <<< n) := by
  rw [wrap_u32]; unfold u; rw [BitVec.toNat_shiftLeft, Nat.shiftLeft_eq, Int.natCast_emod, Int.natCast_mul, Int.natCast_pow]; rfl
theorem u_shr3 (x : W32) : u x / (8 : Int) = u (x >>> 3) := u_shr x 3
theorem u_shr10 (x : W32) : u x / (1024 : Int) = u (x >>> 10) := u_shr x 10
theorem u_shl8 (x : W32) : IntKind.u32.wrap (u x * (256 : Int)) = u (x <<< 8) := u_shl x 8
theorem u_put8 (x : W32) (c : UInt8) : bits .or .u32 (u (x <<< 8)) (c.toNat : Int) = u (put8 x c) := by
  have h : ((c.toNat : Nat) : Int) = u (BitVec.ofNat 32 c.toNat) := by unfold u; rw [BitVec.toNat_ofNat, Nat.mod_eq_of_lt (Nat.lt_of_lt_of_le c.toNat_lt (by decide))]
  rw [h, u_or]; rfl
theorem wrap_byte (c : UInt8) : IntKind.u32.wrap (c.toNat : Int) = (c.toNat : Int) := by
  rw [wrap_u32]; have := c.toNat_lt; omega
theorem gK : Tryd.prog.globalNamed "rollbook/digest.rounds" = some 0 := by kernel_rfl
/-- What the table of the round constants holds. -/
def KLaid (w : World) : Prop := Lib.TabIs Tryd.prog w "rollbook/digest.rounds" .u32 (KS.map fun k : Nat => (k : Int))
theorem KLaid.row {w : World} (h : KLaid w) : ∃ t fr, w.heap[0]? = some (.cells (KS.map fun k : Nat => Value.int .u32 (k : Int)).toArray t fr) := by
  unfold KLaid Lib.TabIs World.var? at h
  rw [gK] at h
  simp only [Option.bind_some, List.map_map] at h
  split at h
  · rename_i cs t fr hc
    rw [hc]
    simp only [Option.some.injEq] at h
    exact ⟨_, _, by rw [h]; rfl⟩
  · cases h
theorem KLaid.to {w w' : World} (h : KLaid w) (hb : Below w.heap.size w w') : KLaid w' := by
  obtain ⟨t, fr, hr⟩ := h.row
  unfold KLaid Lib.TabIs World.var? at h ⊢
  rw [gK] at h ⊢
  simp only [Option.bind_some] at h ⊢
  rw [hb.block _ (Array.getElem?_eq_some_iff.1 hr).1]; exact h
theorem KS_bd : ∀ k, k < 64 → KS.getD k 0 < 4294967296 := by decide +kernel
theorem KS_at (k : Nat) (h : k < 64) : (KS.map fun k : Nat => Value.int .u32 (k : Int)).toArray[k]? = some (.int .u32 (u (BitVec.ofNat 32 (KS.getD k 0)))) := by
  have h1 := KS_bd k h
  have h2 : k < KS.length := h
  simp only [List.getElem?_toArray, List.getElem?_map, List.getElem?_eq_getElem h2, Option.map_some]
  rw [List.getD_eq_getElem?_getD, List.getElem?_eq_getElem h2, Option.getD_some] at *
  unfold u
  rw [BitVec.toNat_ofNat, Nat.mod_eq_of_lt h1]
set_option maxHeartbeats 400000 in
theorem rotl_any (x : W32) (n : Nat) (z : Int) (hz : z = -(n : Int)) (h1 : 1 ≤ n) (hn : n ≤ 31) (w : World) :
    Calls Tryd.prog 100 #[.int .u32 (u x), .int .i64 z] w fun e w' => e = .returned (.int .u32 (u (rotr x n))) ∧ w = w' := by
  have hs : bits BinOp.and IntKind.u64 (IntKind.u64.wrap z) 31 = ((32 - n : Nat) : Int) := by
    subst hz
    have : ∀ n : Nat, n < 32 → 1 ≤ n → bits BinOp.and IntKind.u64 (IntKind.u64.wrap (-(n : Int))) 31 = ((32 - n : Nat) : Int) := by decide +kernel
    exact this n (by omega) h1
  have hc : (32 - n) + n = 32 := by omega
  have HE : Hid (u (rotr x n) = bits .or .u32 (IntKind.u32.wrap (u x * 2 ^ (32 - n))) (u x / 2 ^ n)) := Lib.hid (by rw [u_shr, u_shl, u_or]; rfl)
  have hb := u_bd x
  clear hz
  generalize hm : (32 - n : Nat) = m at *
  have Hm := Lib.hid hm
  have hm1 : (m : Int) ≤ 31 := by omega
  have hm0 : (0 : Int) ≤ (m : Int) := by omega
  have hm2 : IntKind.u64.wrap (32 - (m : Int)) = (n : Int) := by rw [show (32 - (m : Int)) = (n : Int) by omega]; exact IntWalk.u64_in _ (by omega)
  have hn1 : (n : Int) ≤ 32 := by omega
  have hm3 : (m : Int) ≤ 32 := by omega
  clear hm
  generalize u x = X at *
  go_enter Tryd.func100, Tryd.ntmps100
  go_wp2_with fail
  go_ret
  exact ⟨ret_int HE.out.symm, rfl⟩
end Go.Proofs.YthcklfelofpffaaDoor
