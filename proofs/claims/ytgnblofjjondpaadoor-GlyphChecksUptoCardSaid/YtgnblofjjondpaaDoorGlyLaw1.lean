/- The error of a text, as plain data. No program is in sight. -/
import Derived.Test.YtgnblofjjondpaaDoorGlyW8
namespace Go.Proofs.YtgnblofjjondpaaDoor
open Go.RowKit
def badW (x : Word) : Bool := !valid x.s || (decide (x.key ≠ ⟨#[]⟩) && !valid x.key)
def stepW (np nn i : Nat) (notes : Int) (x : Word) : Int × Int :=
  if badW x = true then (7, notes) else if x.t ≠ 0 ∧ x.t ≠ 1 then (5, notes)
  else if x.n = 0 then (0, notes) else if np ≤ i ∨ x.n ≠ notes + 1 ∨ (nn : Int) < notes + 1 then (5, notes + 1) else (0, notes + 1)
def scanW (np nn i : Nat) : Int → List Word → Int × Int
  | notes, [] => (0, notes)
  | notes, x :: r => if (stepW np nn i notes x).1 = 0 then scanW np nn i (stepW np nn i notes x).2 r else stepW np nn i notes x
def scanP (np nn : Nat) : Nat → Int → List (List Word) → Int × Int
  | _, notes, [] => (0, notes)
  | i, notes, p :: r => if (scanW np nn i notes p).1 = 0 then scanP np nn (i + 1) (scanW np nn i notes p).2 r else scanW np nn i notes p
def endP (nn : Nat) (r : Int × Int) : Int := if r.1 ≠ 0 then r.1 else if r.2 ≠ nn then 3 else 0
def chkOf (a b : List (List Word)) : Int :=
  if 100 < a.length ∨ 100 < b.length ∨ anyLen longP (a ++ b) = true then 2 else if anyLen emptyP (a ++ b) = true then 1 else endP b.length (scanP a.length b.length 0 0 (a ++ b))
theorem scanW_ok {np nn i : Nat} {notes n' : Int} {p : List Word} {j : Nat} (hj : j < p.length) (h : stepW np nn i notes p[j] = (0, n')) : scanW np nn i notes (p.drop j) = scanW np nn i n' (p.drop (j + 1)) := by
  rw [List.drop_eq_getElem_cons hj, scanW, h]; simp
theorem scanW_err {np nn i : Nat} {notes n' e : Int} {p : List Word} {j : Nat} (hj : j < p.length) (h : stepW np nn i notes p[j] = (e, n')) (he : e ≠ 0) : (scanW np nn i notes (p.drop j)) = (e, n') := by
  rw [List.drop_eq_getElem_cons hj, scanW, h]; simp [he]
theorem scanP_ok {np nn i : Nat} {notes n' : Int} {l : List (List Word)} (hi : i < l.length) (h : scanW np nn i notes l[i] = (0, n')) : scanP np nn i notes (l.drop i) = scanP np nn (i + 1) n' (l.drop (i + 1)) := by
  rw [List.drop_eq_getElem_cons hi, scanP, h]; simp
theorem scanP_err {np nn i : Nat} {notes n' e : Int} {l : List (List Word)} (hi : i < l.length) (h : scanW np nn i notes l[i] = (e, n')) (he : e ≠ 0) : scanP np nn i notes (l.drop i) = (e, n') := by
  rw [List.drop_eq_getElem_cons hi, scanP, h]; simp [he]
theorem step_bad {np nn i : Nat} {notes : Int} {x : Word} (h : badW x = true) : stepW np nn i notes x = (7, notes) := by unfold stepW; rw [if_pos h]
theorem step_tab {np nn i : Nat} {notes : Int} {x : Word} (h : badW x = false) (ht : x.t ≠ 0 ∧ x.t ≠ 1) : stepW np nn i notes x = (5, notes) := by unfold stepW; rw [if_neg (by rw [h]; simp), if_pos ht]
theorem step_plain {np nn i : Nat} {notes : Int} {x : Word} (h : badW x = false) (ht : x.t = 0 ∨ x.t = 1) (hn : x.n = 0) : stepW np nn i notes x = (0, notes) := by unfold stepW; rw [if_neg (by rw [h]; simp), if_neg (by omega), if_pos hn]
theorem step_note {np nn i : Nat} {notes : Int} {x : Word} (h : badW x = false) (ht : x.t = 0 ∨ x.t = 1) (hn : x.n ≠ 0) (hh : ¬ (np ≤ i ∨ x.n ≠ notes + 1 ∨ (nn : Int) < notes + 1)) : stepW np nn i notes x = (0, notes + 1) := by unfold stepW; rw [if_neg (by rw [h]; simp), if_neg (by omega), if_neg hn, if_neg hh]
theorem step_far {np nn i : Nat} {notes : Int} {x : Word} (h : badW x = false) (ht : x.t = 0 ∨ x.t = 1) (hn : x.n ≠ 0) (hh : np ≤ i ∨ x.n ≠ notes + 1 ∨ (nn : Int) < notes + 1) : stepW np nn i notes x = (5, notes + 1) := by unfold stepW; rw [if_neg (by rw [h]; simp), if_neg (by omega), if_neg hn, if_pos hh]
theorem bad_s {x : Word} (h : valid x.s = false) : badW x = true := by unfold badW; rw [h]; rfl
theorem bad_key {x : Word} (h : x.key ≠ ⟨#[]⟩) (hk : valid x.key = false) : badW x = true := by unfold badW; rw [hk, decide_eq_true h]; simp
theorem good_nokey {x : Word} (h : valid x.s = true) (hk : x.key = ⟨#[]⟩) : badW x = false := by unfold badW; rw [h, hk]; rfl
theorem good_key {x : Word} (h : valid x.s = true) (hk : valid x.key = true) : badW x = false := by unfold badW; rw [h, hk]; simp
end Go.Proofs.YtgnblofjjondpaaDoor
