/- SHA-256 in plain words, as lists of 32-bit words. No condition, and no program in sight. -/
import Derived.Test.YthcklfelofpffaaDoorBase
namespace Go.Proofs.YthcklfelofpffaaDoor
abbrev W32 := BitVec 32
def rotr (x : W32) (n : Nat) : W32 := (x <<< (32 - n)) ||| (x >>> n)
def sg0 (x : W32) : W32 := rotr x 7 ^^^ rotr x 18 ^^^ (x >>> 3)
def sg1 (x : W32) : W32 := rotr x 17 ^^^ rotr x 19 ^^^ (x >>> 10)
def bg0 (x : W32) : W32 := rotr x 2 ^^^ rotr x 13 ^^^ rotr x 22
def bg1 (x : W32) : W32 := rotr x 6 ^^^ rotr x 11 ^^^ rotr x 25
def chW (e f g : W32) : W32 := g ^^^ (e &&& (f ^^^ g))
def majW (a b c : W32) : W32 := (a &&& b) ||| (c &&& (a ||| b))
/-- The round constants. -/
def KS : List Nat := [
  0x428a2f98, 0x71374491, 0xb5c0fbcf, 0xe9b5dba5, 0x3956c25b, 0x59f111f1, 0x923f82a4, 0xab1c5ed5,
  0xd807aa98, 0x12835b01, 0x243185be, 0x550c7dc3, 0x72be5d74, 0x80deb1fe, 0x9bdc06a7, 0xc19bf174,
  0xe49b69c1, 0xefbe4786, 0x0fc19dc6, 0x240ca1cc, 0x2de92c6f, 0x4a7484aa, 0x5cb0a9dc, 0x76f988da,
  0x983e5152, 0xa831c66d, 0xb00327c8, 0xbf597fc7, 0xc6e00bf3, 0xd5a79147, 0x06ca6351, 0x14292967,
  0x27b70a85, 0x2e1b2138, 0x4d2c6dfc, 0x53380d13, 0x650a7354, 0x766a0abb, 0x81c2c92e, 0x92722c85,
  0xa2bfe8a1, 0xa81a664b, 0xc24b8b70, 0xc76c51a3, 0xd192e819, 0xd6990624, 0xf40e3585, 0x106aa070,
  0x19a4c116, 0x1e376c08, 0x2748774c, 0x34b0bcb5, 0x391c0cb3, 0x4ed8aa4a, 0x5b9cca4f, 0x682e6ff3,
  0x748f82ee, 0x78a5636f, 0x84c87814, 0x8cc70208, 0x90befffa, 0xa4506ceb, 0xbef9a3f7, 0xc67178f2]
/-- A word, and eight bits more. -/
def put8 (x : W32) (c : UInt8) : W32 := (x <<< 8) ||| BitVec.ofNat 32 c.toNat
/-- The first sixteen words of a block. -/
def word16 (b : List UInt8) (i : Nat) : W32 := put8 (put8 (put8 (put8 0 (b.getD (4 * i) 0)) (b.getD (4 * i + 1) 0)) (b.getD (4 * i + 2) 0)) (b.getD (4 * i + 3) 0)
def nextW (l : List W32) (t : Nat) : W32 := l.getD (t - 16) 0 + sg0 (l.getD (t - 15) 0) + (l.getD (t - 7) 0 + sg1 (l.getD (t - 2) 0))
def sched (b : List UInt8) : Nat → List W32
  | 0 => []
  | t + 1 => sched b t ++ [if t < 16 then word16 b t else nextW (sched b t) t]
def rnd (v : List W32) (k w : W32) : List W32 :=
  match v with
  | [a, b, c, d, e, f, g, h] => let one := h + bg1 e + chW e f g + k + w; [one + (bg0 a + majW a b c), a, b, c, d + one, e, f, g]
  | v => v
def rnds (h ws : List W32) : Nat → List W32
  | 0 => h
  | n + 1 => rnd (rnds h ws n) (BitVec.ofNat 32 (KS.getD n 0)) (ws.getD n 0)
def blk (h : List W32) (b : List UInt8) : List W32 := List.zipWith (· + ·) h (rnds h (sched b 64) 64)
def H0 : List W32 := [0x6a09e667, 0xbb67ae85, 0x3c6ef372, 0xa54ff53a, 0x510e527f, 0x9b05688c, 0x1f83d9ab, 0x5be0cd19]
/-- The first n blocks of bytes. -/
def blks (h : List W32) (b : List UInt8) : Nat → List W32
  | 0 => h
  | n + 1 => blk (blks h b n) (b.drop (64 * n))
theorem sched_length (b : List UInt8) : ∀ t, (sched b t).length = t
  | 0 => rfl
  | t + 1 => by rw [sched, List.length_append, sched_length b t]; rfl
theorem rnd_length {v : List W32} (h : v.length = 8) (k w : W32) : (rnd v k w).length = 8 := by
  match v, h with
  | [_, _, _, _, _, _, _, _], _ => rfl
theorem rnds_length {h : List W32} (hl : h.length = 8) (ws : List W32) : ∀ n, (rnds h ws n).length = 8
  | 0 => hl
  | n + 1 => rnd_length (rnds_length hl ws n) _ _
theorem blk_length {h : List W32} (hl : h.length = 8) (b : List UInt8) : (blk h b).length = 8 := by
  rw [blk, List.length_zipWith, rnds_length hl, hl]; rfl
theorem blks_length {h : List W32} (hl : h.length = 8) (b : List UInt8) : ∀ n, (blks h b n).length = 8
  | 0 => hl
  | n + 1 => blk_length (blks_length hl b n) _
theorem word16_cong {a b : List UInt8} (i : Nat) (hi : i < 16) (h : ∀ j, j < 64 → a.getD j 0 = b.getD j 0) : word16 a i = word16 b i := by
  unfold word16
  rw [h _ (by omega), h _ (by omega), h _ (by omega), h _ (by omega)]
theorem sched_cong {a b : List UInt8} (h : ∀ j, j < 64 → a.getD j 0 = b.getD j 0) : ∀ t, sched a t = sched b t
  | 0 => rfl
  | t + 1 => by
    rw [sched, sched, sched_cong h t]
    by_cases ht : t < 16
    · rw [if_pos ht, if_pos ht, word16_cong t ht h]
    · rw [if_neg ht, if_neg ht]
theorem blk_cong {a b : List UInt8} (v : List W32) (h : ∀ j, j < 64 → a.getD j 0 = b.getD j 0) : blk v a = blk v b := by
  unfold blk; rw [sched_cong h]
theorem getD_drop {α : Type} (l : List α) (n j : Nat) (d : α) : (l.drop n).getD j d = l.getD (n + j) d := by
  simp [List.getD_eq_getElem?_getD, List.getElem?_drop]
theorem getD_append_lt {α : Type} (a b : List α) (j : Nat) (d : α) (h : j < a.length) : (a ++ b).getD j d = a.getD j d := by
  simp [List.getD_eq_getElem?_getD, List.getElem?_append_left h]
/-- Further bytes leave the full blocks as they are. -/
theorem blks_append (h : List W32) (a b : List UInt8) : ∀ n, 64 * n ≤ a.length → blks h (a ++ b) n = blks h a n
  | 0, _ => rfl
  | n + 1, hn => by
    rw [blks, blks, blks_append h a b n (by omega)]
    exact blk_cong _ fun j hj => by rw [getD_drop, getD_drop, getD_append_lt _ _ _ _ (by omega)]
theorem blks_drop (h : List W32) (b : List UInt8) (m : Nat) : ∀ n, blks (blks h b m) (b.drop (64 * m)) n = blks h b (m + n)
  | 0 => rfl
  | n + 1 => by rw [blks, blks_drop h b m n, List.drop_drop, ← Nat.add_assoc m n 1, blks, show 64 * m + 64 * n = 64 * (m + n) by omega]
theorem KS_length : KS.length = 64 := rfl
/-- The bytes of a number, the greatest first. -/
def be8 (n : Nat) : List UInt8 := [UInt8.ofNat (n >>> 56), UInt8.ofNat (n >>> 48), UInt8.ofNat (n >>> 40), UInt8.ofNat (n >>> 32), UInt8.ofNat (n >>> 24), UInt8.ofNat (n >>> 16), UInt8.ofNat (n >>> 8), UInt8.ofNat n]
def be4 (w : W32) : List UInt8 := [UInt8.ofNat (w.toNat >>> 24), UInt8.ofNat (w.toNat >>> 16), UInt8.ofNat (w.toNat >>> 8), UInt8.ofNat w.toNat]
/-- What is appended to a number of bytes: 128, zeros, the number of bits. -/
def padOf (n : Nat) : List UInt8 := 128 :: (List.replicate ((119 - n % 64) % 64) 0 ++ be8 (n * 8 % 18446744073709551616))
theorem padOf_length (n : Nat) : (n + (padOf n).length) % 64 = 0 := by
  unfold padOf be8; simp only [List.length_cons, List.length_append, List.length_replicate, List.length_nil]; omega
def sha (b : List UInt8) : List UInt8 := (blks H0 (b ++ padOf b.length) ((b.length + (padOf b.length).length) / 64)).flatMap be4
def leafH (b : List UInt8) : List UInt8 := sha (0 :: b)
def nodeH (a b : List UInt8) : List UInt8 := sha (1 :: (a ++ b))
theorem flat4_length : ∀ (l : List W32), (l.flatMap be4).length = 4 * l.length
  | [] => rfl
  | x :: l => by rw [List.flatMap_cons, List.length_append, flat4_length l, List.length_cons]; unfold be4; simp only [List.length_cons, List.length_nil]; omega
theorem sha_length (b : List UInt8) : (sha b).length = 32 := by rw [sha, flat4_length, blks_length rfl]
end Go.Proofs.YthcklfelofpffaaDoor
