/- Seals and spans as plain data, and how the memory holds them. -/
import Derived.Test.YtfncpofcgalllaaBase
namespace Go.Proofs.Ytfncpofcgalllaa
open Go.RowKit

/-- An int of Go. -/
def I64 (n : Int) : Prop := -9223372036854775808 ≤ n ∧ n ≤ 9223372036854775807

structure Seal where
  e : Int
  v : Int
  f : Int
  u : Int
  g : Int
  deriving DecidableEq

def Seal.ok (s : Seal) : Prop := I64 s.e ∧ I64 s.v ∧ I64 s.f ∧ I64 s.u ∧ I64 s.g
def Seal.cells (s : Seal) : List Value := [.int .i64 s.e, .int .i64 s.v, .int .i64 s.f, .int .i64 s.u, .int .i64 s.g]

instance : Rep Seal where
  size := 5
  R _ _ cs s := cs = s.cells ∧ s.ok
  len := by rintro w S cs s ⟨rfl, _⟩; rfl
  one := by rintro w S cs s ⟨rfl, _⟩ u hu; simp [Seal.cells] at hu; rcases hu with rfl | rfl | rfl | rfl | rfl <;> rfl
  keep := by rintro w w' S cs s h _; exact h
  mono := by rintro w S S' cs s h _; exact h

structure Span where
  f : Int
  u : Int
  deriving DecidableEq
def Span.ok (s : Span) : Prop := I64 s.f ∧ I64 s.u
def Span.cells (s : Span) : List Value := [.int .i64 s.f, .int .i64 s.u]
instance : Rep Span where
  size := 2
  R _ _ cs s := cs = s.cells ∧ s.ok
  len := by rintro w S cs s ⟨rfl, _⟩; rfl
  one := by rintro w S cs s ⟨rfl, _⟩ u hu; simp [Span.cells] at hu; rcases hu with rfl | rfl <;> rfl
  keep := by rintro w w' S cs s h _; exact h
  mono := by rintro w S S' cs s h _; exact h

/-- The cells of element k of a slice of seals, one by one. -/
theorem seal_at {w : World} {S : Nat → Prop} {A : Option Addr} {c : Nat} {l : List Seal} (h : Sl w S A c l) {k : Nat} (hk : k < l.length) :
    ∃ b o, A = some ⟨b, o, none⟩ ∧ S b ∧ b < w.heap.size ∧ l[k].ok ∧ w.cell? ⟨b, o + k * 5, none⟩ = some (.int .i64 l[k].e) ∧ w.cell? ⟨b, o + k * 5 + 1, none⟩ = some (.int .i64 l[k].v) ∧
      w.cell? ⟨b, o + k * 5 + 2, none⟩ = some (.int .i64 l[k].f) ∧ w.cell? ⟨b, o + k * 5 + 3, none⟩ = some (.int .i64 l[k].u) ∧ w.cell? ⟨b, o + k * 5 + 4, none⟩ = some (.int .i64 l[k].g) := by
  obtain ⟨b, o, es, rfl, hb, hlt, ⟨rfl, hok⟩, hc⟩ := h.at_ hk
  exact ⟨b, o, rfl, hb, hlt, hok, hc 0 _ rfl, hc 1 _ rfl, hc 2 _ rfl, hc 3 _ rfl, hc 4 _ rfl⟩
theorem span_at {w : World} {S : Nat → Prop} {A : Option Addr} {c : Nat} {l : List Span} (h : Sl w S A c l) {k : Nat} (hk : k < l.length) :
    ∃ b o, A = some ⟨b, o, none⟩ ∧ S b ∧ b < w.heap.size ∧ l[k].ok ∧ w.cell? ⟨b, o + k * 2, none⟩ = some (.int .i64 l[k].f) ∧ w.cell? ⟨b, o + k * 2 + 1, none⟩ = some (.int .i64 l[k].u) := by
  obtain ⟨b, o, es, rfl, hb, hlt, ⟨rfl, hok⟩, hc⟩ := h.at_ hk
  exact ⟨b, o, rfl, hb, hlt, hok, hc 0 _ rfl, hc 1 _ rfl⟩

/-- The index of a seal, from place k on; or -1. -/
def idx (s : Seal) : List Seal → Nat → Int
  | [], _ => -1
  | x :: r, k => if x = s then k else idx s r (k + 1)
theorem idx_miss (s : Seal) (l : List Seal) (k : Nat) (hk : k < l.length) (h : l[k] ≠ s) : idx s (l.drop k) k = idx s (l.drop (k + 1)) (k + 1) := by
  rw [List.drop_eq_getElem_cons hk, idx, if_neg h]
theorem idx_hit (s : Seal) (l : List Seal) (k : Nat) (hk : k < l.length) (h : l[k] = s) : idx s (l.drop k) k = k := by
  rw [List.drop_eq_getElem_cons hk, idx, if_pos h]

/-- Whether a seal is valid. -/
def vld (s : Seal) : Bool := decide (0 ≤ s.e ∧ s.e < 65536 ∧ 0 ≤ s.v ∧ s.v ≤ 2147483647 ∧ 0 ≤ s.f ∧ s.f < s.u ∧ s.u ≤ 1048576 ∧ 0 ≤ s.g ∧ s.g < 16)
theorem vld_t {s : Seal} (h : 0 ≤ s.e ∧ s.e < 65536 ∧ 0 ≤ s.v ∧ s.v ≤ 2147483647 ∧ 0 ≤ s.f ∧ s.f < s.u ∧ s.u ≤ 1048576 ∧ 0 ≤ s.g ∧ s.g < 16) : vld s = true := decide_eq_true h
theorem vld_f {s : Seal} (h : ¬ (0 ≤ s.e ∧ s.e < 65536 ∧ 0 ≤ s.v ∧ s.v ≤ 2147483647 ∧ 0 ≤ s.f ∧ s.f < s.u ∧ s.u ≤ 1048576 ∧ 0 ≤ s.g ∧ s.g < 16)) : vld s = false := decide_eq_false h
/-- Around of the references. -/
def aro (n m : Int) : Int := (if n < 0 then -(n + 1) else n) % m
theorem aro_lt (n m : Int) (h : 1 ≤ m) : 0 ≤ aro n m ∧ aro n m < m := ⟨Int.emod_nonneg _ (by omega), Int.emod_lt_of_pos _ (by omega)⟩
/-- 2 to a power, as 'bit' has it. -/
def pow2 (n : Int) : Int := ((2 ^ n.toNat : Nat) : Int)

/-- A seal made from a number. -/
def mkSeal (n : Int) : Seal := ⟨n % 3, n / 3 % 3, n / 16 % 24, n / 16 % 24 + 1 + n / 384 % 10, n / 3840 % 4⟩
def addSeal (out : List Seal) (x : Int) : List Seal := if idx (mkSeal (aro x 10000000)) out 0 < 0 then out ++ [mkSeal (aro x 10000000)] else out
def seals (l : List Int) : List Seal := (l.take 8).foldl addSeal []
theorem mkSeal_ok (n : Int) : (mkSeal n).ok := by
  simp only [Seal.ok, mkSeal, I64]; omega
/-- What the first k numbers give. -/
def sealsTo (l : List Int) (k : Nat) : List Seal := (l.take k).foldl addSeal []
theorem sealsTo_succ (l : List Int) (k : Nat) (h : k < l.length) : sealsTo l (k + 1) = addSeal (sealsTo l k) l[k] := by
  unfold sealsTo
  rw [List.take_succ_eq_append_getElem h, List.foldl_append]
  rfl
theorem seals_at (l : List Int) (k : Nat) (h : k ≤ 8) (h2 : k = 8 ∨ l.length ≤ k) : seals l = sealsTo l k := by
  unfold seals sealsTo
  rcases h2 with rfl | h2
  · rfl
  · rw [List.take_of_length_le (by omega), List.take_of_length_le h2]
theorem addSeal_le (out : List Seal) (x : Int) : (addSeal out x).length ≤ out.length + 1 := by
  unfold addSeal; split <;> simp
theorem sealsTo_le (l : List Int) (k : Nat) : (sealsTo l k).length ≤ k := by
  induction k with
  | zero => simp [sealsTo]
  | succ k ih =>
    by_cases h : k < l.length
    · rw [sealsTo_succ l k h]; have := addSeal_le (sealsTo l k) l[k]; omega
    · have e : sealsTo l (k + 1) = sealsTo l k := by unfold sealsTo; rw [List.take_of_length_le (by omega), List.take_of_length_le (by omega)]
      rw [e]; omega

/-- The error of a list of valid length: pre has been looked at. -/
def chkTo (pre : List Seal) : List Seal → Int
  | [] => 0
  | x :: r => if vld x = false then 5 else if x ∈ pre then 4 else chkTo (pre ++ [x]) r
def chk (l : List Seal) : Int := if 1000 < l.length then 2 else chkTo [] l
theorem chkTo_at (l : List Seal) (k : Nat) (h : k < l.length) : chkTo (l.take k) (l.drop k) = if vld l[k] = false then 5 else if l[k] ∈ l.take k then 4 else chkTo (l.take (k + 1)) (l.drop (k + 1)) := by
  rw [List.drop_eq_getElem_cons h, chkTo, List.take_succ_eq_append_getElem h]
theorem idx_lo (s : Seal) (l : List Seal) (k : Nat) : -1 ≤ idx s l k ∧ (0 ≤ idx s l k ↔ s ∈ l) := by
  induction l generalizing k with
  | nil => simp [idx]
  | cons x r ih =>
    unfold idx
    by_cases h : x = s
    · rw [if_pos h]; subst h; refine ⟨by omega, ?_⟩; simp
    · rw [if_neg h]
      obtain ⟨h1, h2⟩ := ih (k + 1)
      refine ⟨h1, h2.trans ?_⟩
      simp [Ne.symm h]
theorem idx_mem (s : Seal) (l : List Seal) : 0 ≤ idx s l 0 ↔ s ∈ l := (idx_lo s l 0).2
theorem idx_lt (s : Seal) (l : List Seal) (k : Nat) : idx s l k < k + l.length ∧ -1 ≤ idx s l k := by
  refine ⟨?_, (idx_lo s l k).1⟩
  induction l generalizing k with
  | nil => simp only [idx, List.length_nil]; omega
  | cons x r ih =>
    unfold idx
    split
    · simp only [List.length_cons]; omega
    · have := ih (k + 1); simp; omega

/-- Add and Lift: the list, and the error. -/
def addE (l : List Seal) (s : Seal) : List Seal × Int := if vld s = false then ([], 5) else if s ∈ l then ([], 4) else if 1000 ≤ l.length then ([], 2) else (l ++ [s], 0)
def liftE (l : List Seal) (s : Seal) : List Seal × Int := if s ∈ l then (l.take (idx s l 0).toNat ++ l.drop ((idx s l 0).toNat + 1), 0) else ([], 3)
def oneOf (n : Nat) : Seal := ⟨n, 0, 1, 2, 0⟩
def manyS (n : Nat) : List Seal := (List.range n).map oneOf
theorem manyS_succ (n : Nat) : manyS (n + 1) = manyS n ++ [oneOf n] := by simp [manyS, List.range_succ]
theorem manyS_length (n : Nat) : (manyS n).length = n := by simp [manyS]

/-- A set of groups. -/
def gOr (a : Nat) (s : Seal) : Nat := a ||| 2 ^ s.g.toNat
def gset (l : List Seal) : Nat := l.foldl gOr 0
theorem gOr_lt (a : Nat) (s : Seal) (ha : a < 65536) (hg : s.g < 16) : gOr a s < 65536 := by
  have h2 : 2 ^ s.g.toNat < 2 ^ 16 := Nat.pow_lt_pow_right (by omega) (by omega)
  exact Nat.or_lt_two_pow (n := 16) ha h2
theorem gset_lt (l : List Seal) (h : ∀ s ∈ l, s.g < 16) : gset l < 65536 := by
  unfold gset
  suffices H : ∀ a, a < 65536 → l.foldl gOr a < 65536 from H 0 (by omega)
  induction l with
  | nil => intro a ha; exact ha
  | cons x r ih => intro a ha; exact ih (fun s hs => h s (List.mem_cons_of_mem _ hs)) _ (gOr_lt a x ha (h x List.mem_cons_self))
theorem gset_succ (l : List Seal) (k : Nat) (h : k < l.length) : gset (l.take (k + 1)) = gOr (gset (l.take k)) l[k] := by
  unfold gset
  rw [List.take_succ_eq_append_getElem h, List.foldl_append]; rfl
end Go.Proofs.Ytfncpofcgalllaa
