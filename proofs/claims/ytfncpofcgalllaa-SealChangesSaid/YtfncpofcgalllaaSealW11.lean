/- Groups of the program returns the set of groups. No condition. -/
import Derived.Test.YtfncpofcgalllaaSealW10
namespace Go.Proofs.Ytfncpofcgalllaa
open Go.RowKit
theorem ofInt_i64 (a : Nat) (ha : a < 9223372036854775808) : (BitVec.ofInt 64 (a : Int)).toNat = a := by
  rw [BitVec.ofInt_natCast, BitVec.toNat_ofNat]; exact Nat.mod_eq_of_lt (by omega)
theorem i64_or_nat (a b : Nat) (ha : a < 9223372036854775808) (hb : b < 9223372036854775808) : bits .or .i64 (a : Int) (b : Int) = ((a ||| b : Nat) : Int) := by
  have hx : a ||| b < 2 ^ 63 := Nat.or_lt_two_pow (by omega) (by omega)
  show IntKind.i64.wrap ((BitVec.ofInt 64 (a : Int) ||| BitVec.ofInt 64 (b : Int)).toNat : Int) = _
  rw [BitVec.toNat_or, ofInt_i64 a ha, ofInt_i64 b hb, IntKind.wrap_i64]
  omega
theorem shl_one (g : Int) (w : World) (h0 : 0 ≤ g) (h1 : g < 16) : (binOp .shl 3 (.int .i64 1) (.int .i64 g)).run Try.prog w = .ok (.int .i64 ((2 ^ g.toNat : Nat) : Int)) w := by
  have hp : 2 ^ g.toNat < 2 ^ 16 := Nat.pow_lt_pow_right (by omega) (by omega)
  have e : ((2 ^ g.toNat : Nat) : Int) = (2 : Int) ^ g.toNat := by simp
  go_simp
  rw [← e, IntKind.wrap_i64]
  generalize 2 ^ g.toNat = m at *
  omega
theorem or_shl (G : Nat) (g : Int) (hG : G < 65536) (h0 : 0 ≤ g) (h1 : g < 16) : bits .or .i64 (G : Int) (wrap64 (2 ^ g.toNat)) = ((G ||| 2 ^ g.toNat : Nat) : Int) := by
  have hp : 2 ^ g.toNat < 2 ^ 16 := Nat.pow_lt_pow_right (by omega) (by omega)
  have e : (2 : Int) ^ g.toNat = ((2 ^ g.toNat : Nat) : Int) := by simp
  rw [e]
  generalize 2 ^ g.toNat = m at *
  have e2 : wrap64 (m : Int) = m := by unfold wrap64; omega
  rw [e2, i64_or_nat G m (by omega) (by omega)]
theorem or_i64 (a b : Nat) (w : World) (ha : a < 65536) (hb : b < 65536) : (binOp .or 3 (.int .i64 (a : Int)) (.int .i64 (b : Int))).run Try.prog w = .ok (.int .i64 ((a ||| b : Nat) : Int)) w := by
  go_simp
  rw [i64_or_nat a b (by omega) (by omega)]
/-- Whether groups suffice. -/
def may (G : Nat) (x : Int) : Bool := decide (BitVec.ofNat 64 G &&& BitVec.ofInt 64 x = BitVec.ofNat 64 G)
theorem bv_andn (a b : BitVec 64) : a &&& ~~~b = 0 ↔ a &&& b = a := by
  constructor
  · intro h
    ext i hi
    have h1 := congrArg (fun x : BitVec 64 => x[i]'hi) h
    simp at h1
    simp
    exact h1
  · intro h
    ext i hi
    have h1 := congrArg (fun x : BitVec 64 => x[i]'hi) h
    simp at h1
    simp
    exact h1
theorem may_andn (G : Nat) (x : Int) : (bits .andNot .i64 (G : Int) x == 0) = may G x := by
  have e : bits .andNot .i64 (G : Int) x = IntKind.i64.wrap ((BitVec.ofNat 64 G &&& ~~~ BitVec.ofInt 64 x).toNat : Int) := by
    rw [← BitVec.ofInt_natCast]; rfl
  rw [Bool.eq_iff_iff, may, decide_eq_true_iff, beq_iff_eq, e, IntKind.wrap_i64, ← bv_andn, ← BitVec.toNat_inj]
  clear e
  generalize BitVec.ofNat 64 G &&& ~~~ BitVec.ofInt 64 x = r
  have hr := r.isLt
  simp
  omega
theorem may_and (G : Nat) (hG : G < 65536) (x : Int) : (bits .and .i64 (G : Int) x == (G : Int)) = may G x := by
  have e : bits .and .i64 (G : Int) x = IntKind.i64.wrap ((BitVec.ofNat 64 G &&& BitVec.ofInt 64 x).toNat : Int) := by
    rw [← BitVec.ofInt_natCast]; rfl
  rw [Bool.eq_iff_iff, may, decide_eq_true_iff, beq_iff_eq, e, IntKind.wrap_i64, ← BitVec.toNat_inj]
  clear e
  have hl : (BitVec.ofNat 64 G &&& BitVec.ofInt 64 x).toNat < 65536 := by
    rw [BitVec.toNat_and]
    exact Nat.lt_of_le_of_lt Nat.and_le_left (by rw [BitVec.toNat_ofNat]; omega)
  generalize BitVec.ofNat 64 G &&& BitVec.ofInt 64 x = r at *
  have hr := r.isLt
  have hG2 : (BitVec.ofNat 64 G).toNat = G := by rw [BitVec.toNat_ofNat]; omega
  rw [hG2]
  omega
/-- What the reference sums up: the groups below k that some seal of the place has. -/
def hasG (l : List Seal) (e v x : Int) (g : Nat) : Bool := l.any (fun s => decide (s.g = (g : Int)) && onP e v x s)
def rgTo (l : List Seal) (e v x : Int) : Nat → Nat
  | 0 => 0
  | k + 1 => if hasG l e v x k then rgTo l e v x k + 2 ^ k else rgTo l e v x k
theorem rgTo_lt (l : List Seal) (e v x : Int) (k : Nat) : rgTo l e v x k < 2 ^ k := by
  induction k with
  | zero => simp [rgTo]
  | succ k ih => unfold rgTo; rw [Nat.pow_succ]; split <;> omega
set_option maxHeartbeats 1000000 in
theorem groups_any (A : Option Addr) (c n : Nat) (l : List Seal) (e v x : Int) (w : World) (hl : Sl w (fun b => b < w.heap.size) A c l) (hn : l.length = n) (hsz : n ≤ 1048576) (hg : ∀ s ∈ l, 0 ≤ s.g ∧ s.g < 16) :
    Calls Try.prog 18 #[.slice A n c, .int .i64 e, .int .i64 v, .int .i64 x] w fun r w' => r = .returned (.int .i64 ((gset (l.filter (onP e v x)) : Nat) : Int)) ∧ Below w.heap.size w w' := by
  generalize hm : l.filter (onP e v x) = m
  have Hm := Lib.hid hm
  clear hm
  have hb0 : Below w.heap.size w (((w.alloc (.cells #[.int .i64 e] 3)).alloc (.cells #[.int .i64 v] 3)).alloc (.cells #[.int .i64 x] 3)) :=
    (((Below.refl _ _).alloc (Nat.le_refl _) _).alloc (by simp) _).alloc (by simp; omega) _
  have Hb0 := Lib.hid hb0
  have Hl0 := Lib.hid (hl.to hb0)
  have hc1 : (((w.alloc (.cells #[.int .i64 e] 3)).alloc (.cells #[.int .i64 v] 3)).alloc (.cells #[.int .i64 x] 3)).cell? ⟨w.heap.size, 0, none⟩ = some (.int .i64 e) := by go_simp
  have hc2 : (((w.alloc (.cells #[.int .i64 e] 3)).alloc (.cells #[.int .i64 v] 3)).alloc (.cells #[.int .i64 x] 3)).cell? ⟨w.heap.size + 1, 0, none⟩ = some (.int .i64 v) := by go_simp
  have hc3 : (((w.alloc (.cells #[.int .i64 e] 3)).alloc (.cells #[.int .i64 v] 3)).alloc (.cells #[.int .i64 x] 3)).cell? ⟨w.heap.size + 2, 0, none⟩ = some (.int .i64 x) := by go_simp
  clear hb0
  go_enter Try.func18, Try.ntmps18
  go_wp2_with fail
  refine (selected_3 A c n l 36 _ _ _ (onP e v x) _ Hl0.out hn hsz (fun _ _ => by kernel_rfl) (fun s w' hb => onP_any s _ _ _ e v x w' ((hb.cell (by first | (simp; done) | (simp; omega))).trans hc1) ((hb.cell (by first | (simp; done) | (simp; omega))).trans hc2) ((hb.cell (by first | (simp; done) | (simp; omega))).trans hc3))).mono ?_
  rintro r w1 ⟨v1, rfl, hown1, hb1⟩
  rw [Hm.out] at hown1
  have hfl : m.length ≤ 1048576 := by have := List.length_filter_le (onP e v x) l; rw [Hm.out] at this; omega
  have hgf : ∀ s ∈ m, 0 ≤ s.g ∧ s.g < 16 := fun s hs => hg s (List.mem_filter.1 (by rw [Hm.out]; exact hs : s ∈ l.filter (onP e v x))).1
  have hbw1 : Below w.heap.size w w1 := Hb0.out.trans (hb1.mono (by simp; omega))
  obtain ⟨A1, c1, rfl, hs1⟩ := hown1.sl
  have Hgf := Lib.hid hgf
  clear hc1 hc2 hc3 hb1 hown1 hgf hg Hb0 Hl0
  go_wp2_with fail
  go_loopw [9, 16] (fun o i wr => ∃ k : Nat, k ≤ m.length ∧ i = .int .i64 k ∧ o = .int .i64 ((gset (m.take k) : Nat) : Int) ∧ Below w1.heap.size w1 wr) (fun _ i _ => m.length - (intOf i).toNat)
  case atStart => exact ⟨0, Nat.zero_le _, rfl, rfl, Below.refl _ _⟩
  case round =>
    obtain ⟨k, hk, rfl, rfl, hb⟩ := hrel
    by_cases hlt : k < m.length
    · obtain ⟨b, o, rfl, hbS, hbl, hok, d0, d1, d2, d3, d4⟩ := seal_at (hs1.to hb) hlt
      have hkl : (k : Int) < (m.length : Int) := by omega
      have hG := gset_lt (m.take k) (fun s hs => (Hgf.out s (List.mem_of_mem_take hs)).2)
      have hg2 := Hgf.out m[k] (List.getElem_mem _)
      have HS := Lib.hid (gset_succ m k hlt)
      have HO := Lib.hid (or_shl (gset (m.take k)) m[k].g hG hg2.1 hg2.2)
      unfold gOr at HS
      obtain ⟨hg0, hg1⟩ := hg2
      generalize gset (m.take k) = G at *
      go_wp2_with fail
      go_roundw
      case rel => exact ⟨k + 1, by omega, by go_num, by rw [HS.out, ← HO.out], hb.alloc hb.size _⟩
      case measure => simp [intOf]; omega
    · go_wp2_with fail
      go_ret
      exact ⟨ret_int (by rw [List.take_of_length_le (by omega)]), hbw1.trans (hb.mono hbw1.size)⟩
end Go.Proofs.Ytfncpofcgalllaa
