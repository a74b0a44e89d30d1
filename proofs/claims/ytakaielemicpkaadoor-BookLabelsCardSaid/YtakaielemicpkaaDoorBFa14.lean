/- label.Less is true where one label stands before another. No condition.
The labels of a book's pages follow each other as the chapter says. No program is in sight.
A label is read back from its text. No condition but that it is a label.
label.Parse reads a label back from its text. No condition but that it is a label.
BookLabels, walked: it answers true. No condition but what the tables hold.
A slice as an argument, read as plain data, whatever its elements are; its length against the bulk of what is read. No condition.
Lists of numbers as arguments, read as plain data. No condition.
BookLabels: the card holds, for every argument. No condition. -/
import Derived.Test.YtakaielemicpkaaDoorBFa13
import Derived.Laws.RangeString
import Derived.Lib.ItoaNum
import Derived.Deep.Slices
import Derived.Deep.Fields
import Derived.ChangeSame
import Derived.ChangeMaps5
import Derived.OpenShut
namespace Go.Proofs.YtakaielemicpkaaDoor
open Go.RowKit
def LabLt (n1 s1 n2 s2 : Int) : Prop := n1 < n2 ∨ (n1 = n2 ∧ s1 < s2)
set_option maxRecDepth 100000 in
set_option maxHeartbeats 4000000 in
theorem less_any (n1 s1 n2 s2 : Int) (hlt : LabLt n1 s1 n2 s2) (w : World) :
    Calls Tryd.prog 23 #[.agg #[.int .i64 n1, .int .i64 s1], .agg #[.int .i64 n2, .int .i64 s2]] w fun e w' => e = .returned (.bool true) ∧ Below w.heap.size w w' := by
  obtain ⟨wb, hwb⟩ : ∃ wb, (w.alloc (.cells #[.int .i64 n1, .int .i64 s1] 37)).alloc (.cells #[.int .i64 n2, .int .i64 s2] 37) = wb := ⟨_, rfl⟩
  have hba : Below w.heap.size w wb := by rw [← hwb]; exact ((Below.refl _ _).alloc (Nat.le_refl _) _).alloc (by simp) _
  have hx0 : ABox wb w.heap.size 37 [.int .i64 n1, .int .i64 s1] := by rw [← hwb]; exact (Below.heap_alloc _ _ _ (by simp)).trans (heap_alloc_new w _)
  have hx1 : ABox wb (w.heap.size + 1) 37 [.int .i64 n2, .int .i64 s2] := by rw [← hwb]; exact heap_at (by simp)
  have x0 := hx0.cell 0 rfl
  have x1 := hx0.cell 1 rfl
  have y0 := hx1.cell 0 rfl
  have y1 := hx1.cell 1 rfl
  have HB := Lib.hid hba
  have HX0 := Lib.hid hx0
  have HX1 := Lib.hid hx1
  have hlt2 : n1 < n2 ∨ (n1 = n2 ∧ s1 < s2) := hlt
  clear hba hx0 hx1 hlt x0 x1 y0 y1
  go_enter Tryd.func23, Tryd.ntmps23
  go_upto_region 1 with (fail)
  try rw [hwb]
  clear hwb
  rcases hlt2 with h | ⟨rfl, h⟩
  · have hn : ¬ n1 = n2 := by omega
    have HC1 : Hid (cmpI n1 n2 = -1) := Lib.hid (by unfold cmpI; rw [if_pos h])
    clear h
    refine wp_region_rely [8, 13, 14, 15] (fun i => if i = 8 then SP.val (.int .i64 (cmpI n1 n2)) else if i = 13 then SP.val (.int .i64 (cmpI s1 s2)) else if i = 14 then SP.lit w.heap.size 2 #[.int .i64 (cmpI n1 n2), .int .i64 (cmpI s1 s2)] 3 else if i = 15 then SP.val (.int .i64 (-1)) else SP.any) 19 (by kernel_rfl) (by kernel_rfl) ?_
    intro T _ g hg hgm
    have q0 : ∀ d, (g d).cell? ⟨w.heap.size, 0, none⟩ = some (.int .i64 n1) := fun d => (HX0.out.to (hg d)).cell 0 rfl
    have q1 : ∀ d, (g d).cell? ⟨w.heap.size, 1, none⟩ = some (.int .i64 s1) := fun d => (HX0.out.to (hg d)).cell 1 rfl
    have r0 : ∀ d, (g d).cell? ⟨w.heap.size + 1, 0, none⟩ = some (.int .i64 n2) := fun d => (HX1.out.to (hg d)).cell 0 rfl
    have r1 : ∀ d, (g d).cell? ⟨w.heap.size + 1, 1, none⟩ = some (.int .i64 s2) := fun d => (HX1.out.to (hg d)).cell 1 rfl
    repeat (refine wpR_pure (by rfl) fun Kq hq => ?_; go_big_quiet_step (fail); refine wpQuiet_nil (hq _ ?_); clear hq Kq)
    refine wpR_busy (by rfl) (by rfl) (fun d hG K Q hK => ?_) (fun v d hG hp Kr hr => ?_)
    · go_simp
      go_at_call 53
      refine (compare_any n1 n2 (g d)).mono ?_
      rintro e W1 ⟨rfl, rfl⟩
      go_simp
      exact hK _ _ (Below.refl _ _) rfl
    have hp : v = .int .i64 (cmpI n1 n2) := hp
    subst hp
    (try clear hp); clear hG
    simp only [Act.put, List.setIfInBounds_toArray, List.set_cons_zero, List.set_cons_succ]
    refine hr _ ?_
    clear hr Kr
    repeat (refine wpR_pure (by rfl) fun Kq hq => ?_; go_big_quiet_step (fail); refine wpQuiet_nil (hq _ ?_); clear hq Kq)
    refine wpR_busy (by rfl) (by rfl) (fun d hG K Q hK => ?_) (fun v d hG hp Kr hr => ?_)
    · go_simp
      go_at_call 53
      refine (compare_any s1 s2 (g d)).mono ?_
      rintro e W1 ⟨rfl, rfl⟩
      go_simp
      exact hK _ _ (Below.refl _ _) rfl
    have hp : v = .int .i64 (cmpI s1 s2) := hp
    subst hp
    (try clear hp); clear hG
    simp only [Act.put, List.setIfInBounds_toArray, List.set_cons_zero, List.set_cons_succ]
    refine hr _ ?_
    clear hr Kr
    refine wpR_busy (by rfl) (by rfl) (fun d hG K Q hK => ?_) (fun v d hG hp Kr hr => ?_)
    · go_simp
      exact hK _ _ ((Below.refl _ _).alloc (Nat.le_refl _) _) ⟨(g d).heap.size, rfl, by have := (hg d).size; have := HX1.out.lt; omega, by simp, heap_alloc_new (g d) _⟩
    obtain ⟨bl, rfl, -⟩ := hp
    (try clear hp); clear hG
    simp only [Act.put, List.setIfInBounds_toArray, List.set_cons_zero, List.set_cons_succ]
    refine hr _ ?_
    clear hr Kr
    refine wpR_busy (by rfl) (by rfl) (fun d hG K Q hK => ?_) (fun v d hG hp Kr hr => ?_)
    · have hl := hG 14 (by kernel_rfl)
      obtain ⟨b', e', -, -, hb'⟩ := hl
      cases e'
      go_simp
      go_at_call 52
      refine (or2_any ((cmpI n1 n2)) ((cmpI s1 s2)) bl (g d) (cell_of_row _ bl 0 _ _ _ hb') (cell_of_row _ bl 1 _ _ _ hb')).mono ?_
      rintro e W1 ⟨rfl, rfl⟩
      go_simp
      exact hK _ _ (Below.refl _ _) (by rw [HC1.out]; rfl)
    have hp : v = .int .i64 (-1) := hp
    subst hp
    (try clear hp); clear hG
    simp only [Act.put, List.setIfInBounds_toArray, List.set_cons_zero, List.set_cons_succ]
    refine hr _ ?_
    clear hr Kr
    repeat (refine wpR_pure (by rfl) fun Kq hq => ?_; go_big_quiet_step (fail); refine wpQuiet_nil (hq _ ?_); clear hq Kq)
    refine wpR_end (by kernel_rfl) (fun d hG => ?_) _
    clear q0 q1 r0 r1
    have HBd := Lib.hid (hg d)
    clear hG hg hgm
    unfold Exit.then
    go_wp2_with fail
    go_ret
    exact ⟨rfl, HB.out.trans (HBd.out.mono HB.out.size)⟩
  · have hn : ¬ s1 = s2 := by omega
    have HC1 : Hid (cmpI n1 n1 = 0) := Lib.hid (by unfold cmpI; rw [if_neg (by omega), if_neg (by omega)])
    have HC2 : Hid (cmpI s1 s2 = -1) := Lib.hid (by unfold cmpI; rw [if_pos h])
    clear h
    refine wp_region_rely [8, 13, 14, 15] (fun i => if i = 8 then SP.val (.int .i64 (cmpI n1 n1)) else if i = 13 then SP.val (.int .i64 (cmpI s1 s2)) else if i = 14 then SP.lit w.heap.size 2 #[.int .i64 (cmpI n1 n1), .int .i64 (cmpI s1 s2)] 3 else if i = 15 then SP.val (.int .i64 (-1)) else SP.any) 19 (by kernel_rfl) (by kernel_rfl) ?_
    intro T _ g hg hgm
    have q0 : ∀ d, (g d).cell? ⟨w.heap.size, 0, none⟩ = some (.int .i64 n1) := fun d => (HX0.out.to (hg d)).cell 0 rfl
    have q1 : ∀ d, (g d).cell? ⟨w.heap.size, 1, none⟩ = some (.int .i64 s1) := fun d => (HX0.out.to (hg d)).cell 1 rfl
    have r0 : ∀ d, (g d).cell? ⟨w.heap.size + 1, 0, none⟩ = some (.int .i64 n1) := fun d => (HX1.out.to (hg d)).cell 0 rfl
    have r1 : ∀ d, (g d).cell? ⟨w.heap.size + 1, 1, none⟩ = some (.int .i64 s2) := fun d => (HX1.out.to (hg d)).cell 1 rfl
    repeat (refine wpR_pure (by rfl) fun Kq hq => ?_; go_big_quiet_step (fail); refine wpQuiet_nil (hq _ ?_); clear hq Kq)
    refine wpR_busy (by rfl) (by rfl) (fun d hG K Q hK => ?_) (fun v d hG hp Kr hr => ?_)
    · go_simp
      go_at_call 53
      refine (compare_any n1 n1 (g d)).mono ?_
      rintro e W1 ⟨rfl, rfl⟩
      go_simp
      exact hK _ _ (Below.refl _ _) rfl
    have hp : v = .int .i64 (cmpI n1 n1) := hp
    subst hp
    (try clear hp); clear hG
    simp only [Act.put, List.setIfInBounds_toArray, List.set_cons_zero, List.set_cons_succ]
    refine hr _ ?_
    clear hr Kr
    repeat (refine wpR_pure (by rfl) fun Kq hq => ?_; go_big_quiet_step (fail); refine wpQuiet_nil (hq _ ?_); clear hq Kq)
    refine wpR_busy (by rfl) (by rfl) (fun d hG K Q hK => ?_) (fun v d hG hp Kr hr => ?_)
    · go_simp
      go_at_call 53
      refine (compare_any s1 s2 (g d)).mono ?_
      rintro e W1 ⟨rfl, rfl⟩
      go_simp
      exact hK _ _ (Below.refl _ _) rfl
    have hp : v = .int .i64 (cmpI s1 s2) := hp
    subst hp
    (try clear hp); clear hG
    simp only [Act.put, List.setIfInBounds_toArray, List.set_cons_zero, List.set_cons_succ]
    refine hr _ ?_
    clear hr Kr
    refine wpR_busy (by rfl) (by rfl) (fun d hG K Q hK => ?_) (fun v d hG hp Kr hr => ?_)
    · go_simp
      exact hK _ _ ((Below.refl _ _).alloc (Nat.le_refl _) _) ⟨(g d).heap.size, rfl, by have := (hg d).size; have := HX1.out.lt; omega, by simp, heap_alloc_new (g d) _⟩
    obtain ⟨bl, rfl, -⟩ := hp
    (try clear hp); clear hG
    simp only [Act.put, List.setIfInBounds_toArray, List.set_cons_zero, List.set_cons_succ]
    refine hr _ ?_
    clear hr Kr
    refine wpR_busy (by rfl) (by rfl) (fun d hG K Q hK => ?_) (fun v d hG hp Kr hr => ?_)
    · have hl := hG 14 (by kernel_rfl)
      obtain ⟨b', e', -, -, hb'⟩ := hl
      cases e'
      go_simp
      go_at_call 52
      refine (or2_any ((cmpI n1 n1)) ((cmpI s1 s2)) bl (g d) (cell_of_row _ bl 0 _ _ _ hb') (cell_of_row _ bl 1 _ _ _ hb')).mono ?_
      rintro e W1 ⟨rfl, rfl⟩
      go_simp
      exact hK _ _ (Below.refl _ _) (by rw [HC1.out, HC2.out]; rfl)
    have hp : v = .int .i64 (-1) := hp
    subst hp
    (try clear hp); clear hG
    simp only [Act.put, List.setIfInBounds_toArray, List.set_cons_zero, List.set_cons_succ]
    refine hr _ ?_
    clear hr Kr
    repeat (refine wpR_pure (by rfl) fun Kq hq => ?_; go_big_quiet_step (fail); refine wpQuiet_nil (hq _ ?_); clear hq Kq)
    refine wpR_end (by kernel_rfl) (fun d hG => ?_) _
    clear q0 q1 r0 r1
    have HBd := Lib.hid (hg d)
    clear hG hg hgm
    unfold Exit.then
    go_wp2_with fail
    go_ret
    exact ⟨rfl, HB.out.trans (HBd.out.mono HB.out.size)⟩
end Go.Proofs.YtakaielemicpkaaDoor
namespace Go.Proofs.YtakaielemicpkaaDoor
open Go.RowKit
/-- Pages with regular labels behind a label and so many plain pages. -/
def LabsOk : Int → Int → Int → List PageP → Prop
  | _, _, _, [] => True
  | ln, ls, k, p :: ps => ((1 ≤ p.num ∧ p.num ≤ 16384) ∧ 0 ≤ p.suf ∧ p.suf ≤ 16384) ∧ LabLt ln ls p.num p.suf ∧
      ((p.suf = 0 ∧ p.num = k + 1 ∧ LabsOk p.num p.suf (k + 1) ps) ∨ (p.suf ≠ 0 ∧ (1 ≤ ln ∧ 0 ≤ ls) ∧ p.num = ln ∧ p.suf = ls + 1 ∧ LabsOk p.num p.suf k ps))
theorem labA (e v : Int) : ∀ (ps : List PageP) (num : Int) (rest : List PageP), 0 ≤ num → num + ps.length ≤ 16384 → LabsOk (num + ps.length) 0 (num + ps.length) rest → LabsOk num 0 num (labelP e v num 0 0 ps ++ rest)
  | [], num, rest, _, _, h => by simpa [labelP] using h
  | p :: ps, num, rest, h0, h1, h => by
    rw [labelP_cons, if_pos rfl, if_pos rfl, List.cons_append]
    rw [List.length_cons] at h1 h
    refine ⟨⟨⟨by show 1 ≤ num + 1; omega, by show num + 1 ≤ 16384; omega⟩, Int.le_refl _, by show (0 : Int) ≤ 16384; omega⟩, .inl (by show num < num + 1; omega), .inl ⟨rfl, rfl, ?_⟩⟩
    refine labA e v ps (num + 1) rest (by omega) (by omega) ?_
    rwa [show num + 1 + (ps.length : Int) = num + ((ps.length + 1 : Nat) : Int) by omega]
theorem labA' (e v : Int) {ps : List PageP} (hp : ps ≠ []) {num ln ls : Int} {rest : List PageP} (hl : ln ≤ num) (h0 : 0 ≤ num) (h1 : num + ps.length ≤ 16384) (h : LabsOk (num + ps.length) 0 (num + ps.length) rest) : LabsOk ln ls num (labelP e v num 0 0 ps ++ rest) := by
  cases ps with
  | nil => exact absurd rfl hp
  | cons p ps =>
    rw [labelP_cons, if_pos rfl, if_pos rfl, List.cons_append]
    rw [List.length_cons] at h1 h
    refine ⟨⟨⟨by show 1 ≤ num + 1; omega, by show num + 1 ≤ 16384; omega⟩, Int.le_refl _, by show (0 : Int) ≤ 16384; omega⟩, .inl (by show ln < num + 1; omega), .inl ⟨rfl, rfl, ?_⟩⟩
    refine labA e v ps (num + 1) rest (by omega) (by omega) ?_
    rwa [show num + 1 + (ps.length : Int) = num + ((ps.length + 1 : Nat) : Int) by omega]
theorem labB (e v : Int) (j : Nat) (num k : Int) (hn : 1 ≤ num ∧ num ≤ 16384) : ∀ (ps : List PageP) (suf : Int) (rest : List PageP), 0 ≤ suf → suf + ps.length ≤ 16384 → LabsOk num (suf + ps.length) k rest → LabsOk num suf k (labelP e v num suf (j + 1) ps ++ rest)
  | [], suf, rest, _, _, h => by simpa [labelP] using h
  | p :: ps, suf, rest, h0, h1, h => by
    rw [labelP_cons, if_neg (by omega), if_neg (by omega), List.cons_append]
    rw [List.length_cons] at h1 h
    refine ⟨⟨hn, by show 0 ≤ suf + 1; omega, by show suf + 1 ≤ 16384; omega⟩, .inr ⟨rfl, by show suf < suf + 1; omega⟩, .inr ⟨by show suf + 1 ≠ 0; omega, ⟨hn.1, h0⟩, rfl, rfl, ?_⟩⟩
    refine labB e v j num k hn ps (suf + 1) rest (by omega) (by omega) ?_
    rwa [show suf + 1 + (ps.length : Int) = suf + ((ps.length + 1 : Nat) : Int) by omega]
theorem labC (m h e : Int) (num k : Int) (hn : 1 ≤ num ∧ num ≤ 16384) : ∀ (ts : List TextP) (j : Nat) (suf : Int) (vs : List Int) (rest : List PageP), 0 ≤ suf → suf + (versB m h e (j + 1) num suf vs ts).length ≤ 16384 → (∀ s, 0 ≤ s → LabsOk num s k rest) → LabsOk num suf k (versB m h e (j + 1) num suf vs ts ++ rest)
  | [], j, suf, vs, rest, h0, _, hr => by rw [versB]; exact hr suf h0
  | t :: ts, j, suf, vs, rest, h0, h1, hr => by
    rw [versB, if_neg (by omega), if_neg (by omega), List.length_append, labelP_len] at h1
    rw [versB, if_neg (by omega), if_neg (by omega), List.append_assoc]
    exact labB e _ j num k hn _ suf _ h0 (by omega) (labC m h e num k hn ts (j + 1) _ vs.tail rest (by omega) (by omega) hr)
theorem GText.some {a b : List (List Word)} (hg : GText a b) {m h : Int} (hz : Siz m h) : okPages a b m h ≠ [] := by
  have hf := hg.fine
  rw [(hg.pages ⟨hz.m1, hz.m2⟩ ⟨hz.h1, hz.h2⟩).1]
  unfold pagesOfText
  have h1 := hg.l1
  have hb : bodyP a m ≠ [] := by
    cases a with
    | nil => simp at h1
    | cons p ps =>
      have hr := hf.reg hz.m1 hz.m2 (p := p) (by simp)
      have := setP_ne (ws := p) 0 hr (hf.p p (by simp)).1
      unfold bodyP
      rw [partsP, List.flatten_cons]
      intro e
      exact this (List.append_eq_nil_iff.1 e).1
  have ha : 1 ≤ allLines (bodyP a m) (notesLP a b m) := by
    cases hB : bodyP a m with
    | nil => exact absurd hB hb
    | cons x xs => rw [allLines, List.map_cons, List.sum_cons]; omega
  obtain ⟨f, hf2⟩ : ∃ f, allLines (bodyP a m) (notesLP a b m) = f + 1 := ⟨allLines (bodyP a m) (notesLP a b m) - 1, by omega⟩
  rw [hf2, setPages, if_neg (fun e => hb e.1)]
  simp
theorem labD {m h : Int} (hz : Siz m h) : ∀ (l : List SectP) (num ln ls : Int), (∀ s ∈ l, s.texts ≠ [] ∧ s.texts.length ≤ 4 ∧ ∀ t ∈ s.texts, GText t.a t.b) → ln ≤ num → 0 ≤ num → num + 784 * l.length ≤ 16384 → LabsOk ln ls num (sectsB m h num l)
  | [], _, _, _, _, _, _, _ => trivial
  | s :: l, num, ln, ls, hs, h1, h2, h3 => by
    obtain ⟨ht, htl, hg⟩ := hs s (by simp)
    rw [List.length_cons] at h3
    cases htt : s.texts with
    | nil => exact absurd htt ht
    | cons t ts =>
      rw [htt] at hg htl
      have hgt := hg t (by simp)
      have hlen := (hgt.pages ⟨hz.m1, hz.m2⟩ ⟨hz.h1, hz.h2⟩).2
      have hne := hgt.some hz
      have hpos : 1 ≤ (okPages t.a t.b m h).length := by
        cases hq : okPages t.a t.b m h with
        | nil => exact absurd hq hne
        | cons _ _ => simp
      have hv := versB_tame (m := m) (h := h) (entry := s.entry) hz ts 1 (num + (okPages t.a t.b m h).length) 0 s.vers.tail (fun x hx => hg x (by simp [hx]))
      rw [List.length_cons] at htl
      have hpl : plainB m h s = (okPages t.a t.b m h).length := by unfold plainB; rw [htt]
      rw [sectsB, htt, versB, if_pos rfl, if_pos rfl, List.append_assoc]
      refine labA' _ _ hne h1 h2 (by omega) ?_
      refine labC m h s.entry _ _ (by omega) ts 0 0 s.vers.tail _ (Int.le_refl _) (by rw [show (0 + 1 : Nat) = 1 from rfl]; omega) (fun q hq => ?_)
      rw [hpl]
      exact labD hz l _ _ _ (fun x hx => hs x (by simp [hx])) (Int.le_refl _) (by omega) (by omega)
theorem GBk.labs {m h : Int} {l : List SectP} (H : GBk m h l) : LabsOk 0 0 0 (pagesB m h l) := by
  refine labD H.siz l 0 0 0 (fun s hs => ?_) (Int.le_refl _) (Int.le_refl _) (by have := H.n; omega)
  have ht := H.tame.v s hs
  obtain ⟨f, hf⟩ := H.s
  obtain ⟨i, hi, rfl⟩ := List.getElem_of_mem hs
  obtain ⟨-, -, j, hj, -, hv, htx, hg⟩ := hf i hi
  exact ⟨fun e => by rw [e] at htx; simp at htx, by omega, hg⟩
end Go.Proofs.YtakaielemicpkaaDoor
namespace Go.Proofs.YtakaielemicpkaaDoor
open Go.RowKit
/-- An object in the place of another. -/
def setO (w : World) (l : Nat) (o : Obj) : World := { w with heap := w.heap.setIfInBounds l o }
theorem setO_same {w : World} {l : Nat} {o : Obj} (h : l < w.heap.size) : (setO w l o).heap[l]? = some o := by simp [setO, h]
theorem setO_other {w : World} {l i : Nat} {o : Obj} (h : i ≠ l) : (setO w l o).heap[i]? = w.heap[i]? := by
  unfold setO
  exact Array.getElem?_setIfInBounds_ne (Ne.symm h)
theorem setO_below {B : Nat} {a w : World} {l : Nat} {o : Obj} (h : Below B a w) (hl : B ≤ l) : Below B a (setO w l o) :=
  ⟨h.os, h.tape, h.output, by simpa [setO] using h.size, fun i hi => (setO_other (by omega)).trans (h.block i hi)⟩
theorem run_next_at {P : Program} (W : World) (It : Nat) (s : ByteArray) (pos : Nat) (ty : TypeId) (hW : W.heap[It]? = some (.stringIter s pos)) (h : pos < s.size) (ha : (s[pos]'h).toNat < 128) :
    (Instr.next (.pointer (some ⟨It, 0, none⟩)) true ty).run P W = .ok (.tuple #[.bool true, .int .i64 pos, .int .i32 (s[pos]'h).toNat]) (setO W It (.stringIter s (pos + 1))) := by
  simp only [Instr.next, getObj, setObj, Sem.run_bind, Sem.run, hW, Result.andThen, h, if_true, decode_ascii s pos h ha]
  simp [goInt, setO]
theorem run_next_out {P : Program} (W : World) (It : Nat) (s : ByteArray) (pos : Nat) (ty : TypeId) (hW : W.heap[It]? = some (.stringIter s pos)) (h : ¬ pos < s.size) :
    (Instr.next (.pointer (some ⟨It, 0, none⟩)) true ty).run P W = .ok (.tuple #[.bool false]) W := by
  simp [Instr.next, getObj, Sem.run, hW, h]
/-- The number of digits. -/
def valD (a : Nat) (l : List UInt8) : Nat := l.foldl (fun a c => 10 * a + (c.toNat - 48)) a
/-- The number of letters. -/
def valL (a : Nat) (l : List UInt8) : Nat := l.foldl (fun a c => 26 * a + (c.toNat - 97) + 1) a
theorem sufF_val : ∀ (f n : Nat) (acc : List UInt8), n ≤ sufB f → f ≤ 4 → valL 0 (sufF f n acc) = valL n acc
  | 0, n, acc, h, _ => by
    have : n = 0 := by simpa [sufB] using h
    subst this; rfl
  | f + 1, n, acc, h, hf => by
    rw [sufF]
    split
    · rename_i h0; rw [h0]
    · rename_i h0
      have hs := (sufB_step h h0 hf).1
      rw [sufF_val f _ _ hs (by omega)]
      have hc : (UInt8.ofNat (97 + (n - 1) % 26)).toNat = 97 + (n - 1) % 26 := by
        have := Nat.mod_lt (n - 1) (show 0 < 26 by decide)
        rw [UInt8.toNat_ofNat']
        omega
      show valL (26 * ((n - 1) / 26) + ((UInt8.ofNat (97 + (n - 1) % 26)).toNat - 97) + 1) acc = valL n acc
      rw [hc]
      congr 1
      omega
theorem sufF_az : ∀ (f n : Nat) (acc : List UInt8), (∀ c ∈ acc, 97 ≤ c.toNat ∧ c.toNat ≤ 122) → ∀ c ∈ sufF f n acc, 97 ≤ c.toNat ∧ c.toNat ≤ 122
  | 0, _, acc, h => h
  | f + 1, n, acc, h => by
    rw [sufF]
    split
    · exact h
    · refine sufF_az f _ _ (fun c hc => ?_)
      rcases List.mem_cons.1 hc with rfl | hc
      · have := Nat.mod_lt (n - 1) (show 0 < 26 by decide)
        rw [UInt8.toNat_ofNat']
        omega
      · exact h c hc
theorem valD_append (a : Nat) (l : List UInt8) (c : UInt8) : valD a (l ++ [c]) = 10 * valD a l + (c.toNat - 48) := by unfold valD; rw [List.foldl_append]; rfl
theorem dig_nat {d : Nat} (h : d < 10) : (UInt8.ofNat (48 + d)).toNat = 48 + d := by rw [UInt8.toNat_ofNat']; omega
/-- The digits of a number. -/
theorem dec_facts : ∀ (k m : Nat), m < 10 ^ (k + 1) → valD 0 (Lib.decDigits m) = m ∧ (∀ c ∈ Lib.decDigits m, 48 ≤ c.toNat ∧ c.toNat ≤ 57) ∧ (Lib.decDigits m).length ≤ k + 1 ∧ 1 ≤ (Lib.decDigits m).length ∧ (1 ≤ m → ((Lib.decDigits m).headD 0).toNat ≠ 48) := by
  intro k
  induction k with
  | zero =>
    intro m hm
    have h10 : m < 10 := by simpa using hm
    rw [Lib.decDigits, dif_pos h10]
    refine ⟨?_, ?_, by simp, by simp, fun h => ?_⟩
    · show 10 * 0 + ((UInt8.ofNat (48 + m)).toNat - 48) = m
      rw [dig_nat h10]; omega
    · intro c hc
      rw [List.mem_singleton] at hc
      subst hc
      rw [dig_nat h10]; omega
    · show (UInt8.ofNat (48 + m)).toNat ≠ 48
      rw [dig_nat h10]; omega
  | succ k ih =>
    intro m hm
    by_cases h10 : m < 10
    · have := ih m (Nat.lt_of_lt_of_le h10 (by rw [Nat.pow_succ]; have : 0 < 10 ^ k := Nat.pow_pos (by decide); omega))
      exact ⟨this.1, this.2.1, by omega, this.2.2.2.1, this.2.2.2.2⟩
    · rw [Lib.decDigits, dif_neg h10]
      have hq : m / 10 < 10 ^ (k + 1) := by rw [Nat.pow_succ] at hm; omega
      obtain ⟨a1, a2, a3, a4, a5⟩ := ih (m / 10) hq
      have hd := Nat.mod_lt m (show 0 < 10 by decide)
      refine ⟨?_, ?_, by rw [List.length_append, List.length_singleton]; omega, by rw [List.length_append, List.length_singleton]; omega, fun h => ?_⟩
      · rw [valD_append, a1, dig_nat hd]; omega
      · intro c hc
        rcases List.mem_append.1 hc with hc | hc
        · exact a2 c hc
        · rw [List.mem_singleton] at hc
          subst hc
          rw [dig_nat hd]; omega
      · cases hl : Lib.decDigits (m / 10) with
        | nil => rw [hl] at a4; simp at a4
        | cons x xs => rw [hl] at a5; exact a5 (by omega)
theorem itoa_nat (n : Nat) : Lib.itoa (n : Int) = Lib.decDigits n := by unfold Lib.itoa; rw [if_neg (by omega)]; rfl
end Go.Proofs.YtakaielemicpkaaDoor
namespace Go.Proofs.YtakaielemicpkaaDoor
open Go.RowKit
theorem valD_ge : ∀ (l : List UInt8) (a : Nat), a ≤ valD a l
  | [], a => Nat.le_refl _
  | c :: l, a => Nat.le_trans (show a ≤ 10 * a + (c.toNat - 48) by omega) (valD_ge l _)
theorem valL_ge : ∀ (l : List UInt8) (a : Nat), a ≤ valL a l
  | [], a => Nat.le_refl _
  | c :: l, a => Nat.le_trans (show a ≤ 26 * a + (c.toNat - 97) + 1 by omega) (valL_ge l _)
theorem valD_take (l : List UInt8) (k : Nat) : valD 0 (l.take k) ≤ valD 0 l := by
  have h : valD 0 l = valD (valD 0 (l.take k)) (l.drop k) := by
    conv => lhs; rw [← List.take_append_drop k l]
    unfold valD; rw [List.foldl_append]
  rw [h]; exact valD_ge _ _
theorem valL_take (l : List UInt8) (k : Nat) : valL 0 (l.take k) ≤ valL 0 l := by
  have h : valL 0 l = valL (valL 0 (l.take k)) (l.drop k) := by
    conv => lhs; rw [← List.take_append_drop k l]
    unfold valL; rw [List.foldl_append]
  rw [h]; exact valL_ge _ _
theorem valD_next (l : List UInt8) {k : Nat} (hk : k < l.length) : valD 0 (l.take (k + 1)) = 10 * valD 0 (l.take k) + (l[k].toNat - 48) := by
  rw [List.take_succ_eq_append_getElem hk, valD_append]
theorem valL_next (l : List UInt8) {k : Nat} (hk : k < l.length) : valL 0 (l.take (k + 1)) = 26 * valL 0 (l.take k) + (l[k].toNat - 97) + 1 := by
  rw [List.take_succ_eq_append_getElem hk]
  unfold valL; rw [List.foldl_append]; rfl
/-- What the reading holds. -/
structure PI (w0 : World) (D L : List UInt8) (pos : Nat) (W : World) : Prop where
  it : W.heap[w0.heap.size + 2]? = some (.stringIter ⟨(D ++ L).toArray⟩ pos)
  l : ABox W (w0.heap.size + 1) 37 [.int .i64 (valD 0 (D.take pos) : Nat), .int .i64 (valL 0 (L.take (pos - D.length)) : Nat)]
  r : ABox W w0.heap.size 37 [.int .i64 0, .int .i64 0]
  bl : Below w0.heap.size w0 W
theorem PI.next {w0 W : World} {D L : List UInt8} {pos : Nat} (h : PI w0 D L pos W) (a b : Int) (o : Nat) (v : Int) (ha : (([.int .i64 (valD 0 (D.take pos) : Nat), .int .i64 (valL 0 (L.take (pos - D.length)) : Nat)] : List Value).set o (.int .i64 v)) = [.int .i64 a, .int .i64 b]) (h1 : a = (valD 0 (D.take (pos + 1)) : Nat)) (h2 : b = (valL 0 (L.take (pos + 1 - D.length)) : Nat)) :
    PI w0 D L (pos + 1) ((setO W (w0.heap.size + 2) (.stringIter ⟨(D ++ L).toArray⟩ (pos + 1))).setCell ⟨w0.heap.size + 1, o, none⟩ (.int .i64 v)) := by
  have hlt : w0.heap.size + 2 < W.heap.size := cell_lt h.it
  have hl : ABox (setO W (w0.heap.size + 2) (.stringIter ⟨(D ++ L).toArray⟩ (pos + 1))) (w0.heap.size + 1) 37 [.int .i64 (valD 0 (D.take pos) : Nat), .int .i64 (valL 0 (L.take (pos - D.length)) : Nat)] := (setO_other (by omega)).trans h.l
  refine ⟨?_, ?_, ?_, ?_⟩
  · rw [heap_set _ _ _ _ (by omega)]; exact setO_same hlt
  · have := hl.set o (.int .i64 v)
    rw [ha] at this
    rw [← h1, ← h2]
    exact this
  · exact ABox.other ((setO_other (by omega)).trans h.r) (by omega) _ _
  · exact (setO_below h.bl (by omega)).setCell (p := ⟨w0.heap.size + 1, o, none⟩) (by show w0.heap.size ≤ w0.heap.size + 1; omega) _
set_option maxRecDepth 100000 in
set_option maxHeartbeats 4000000 in
theorem parse_any (D L : List UInt8) (n s : Nat) (hD : valD 0 D = n) (hL : valL 0 L = s) (hn : 1 ≤ n ∧ n ≤ 16384) (hs : s ≤ 16384) (hd : ∀ c ∈ D, 48 ≤ c.toNat ∧ c.toNat ≤ 57) (hl : ∀ c ∈ L, 97 ≤ c.toNat ∧ c.toNat ≤ 122) (hd5 : D.length ≤ 5) (hd1 : 1 ≤ D.length) (hl4 : L.length ≤ 4) (hh : (D.headD 0).toNat ≠ 48) (w : World) :
    Calls Tryd.prog 20 #[.string ⟨(D ++ L).toArray⟩] w fun e w' => e = .returned (.tuple #[.agg #[.int .i64 (n : Int), .int .i64 (s : Int)], .int .i64 0]) ∧ Below w.heap.size w w' := by
  obtain ⟨wb, hwb⟩ : ∃ wb, ((w.alloc (.cells #[.int .i64 0, .int .i64 0] 37)).alloc (.cells #[.int .i64 0, .int .i64 0] 37)).alloc (.stringIter ⟨(D ++ L).toArray⟩ 0) = wb := ⟨_, rfl⟩
  have hPI : PI w D L 0 wb := by
    rw [← hwb]
    refine ⟨?_, ?_, ?_, ?_⟩
    · exact heap_at (by simp)
    · refine (Below.heap_alloc _ _ _ (by simp)).trans ?_
      have h2 : ((w.alloc (.cells #[.int .i64 0, .int .i64 0] 37)).alloc (.cells #[.int .i64 0, .int .i64 0] 37)).heap[w.heap.size + 1]? = some (.cells #[.int .i64 0, .int .i64 0] 37 (0, 0)) := heap_at (by simp)
      simpa [valD, valL] using h2
    · exact (Below.heap_alloc _ _ _ (by simp; omega)).trans ((Below.heap_alloc _ _ _ (by simp)).trans (heap_alloc_new w _))
    · exact (((Below.refl _ _).alloc (Nat.le_refl _) _).alloc (by simp) _).alloc (by simp; omega) _
  have HPI := Lib.hid hPI
  have HD := Lib.hid hD
  have HL := Lib.hid hL
  have HDD := Lib.hid hd
  have HLL := Lib.hid hl
  have HH := Lib.hid hh
  have HN := Lib.hid hn
  obtain ⟨nd, hnd⟩ : ∃ nd, D.length = nd := ⟨_, rfl⟩
  obtain ⟨nl, hnl⟩ : ∃ nl, L.length = nl := ⟨_, rfl⟩
  have HND := Lib.hid hnd
  have HNL := Lib.hid hnl
  rw [hnd] at hd5 hd1
  rw [hnl] at hl4
  clear hPI hD hL hd hl hh hnd hnl hn
  go_enter Tryd.func20, Tryd.ntmps20
  have hwi : ((w.alloc (.cells #[.int .i64 0, .int .i64 0] 37)).alloc (.cells #[.int .i64 0, .int .i64 0] 37)).iter ⟨(D ++ L).toArray⟩ 0 = wb := hwb
  clear hwb
  go_upto_region 3 with (fail)
  go_upto_region 4 with (fail)
  try rw [hwi]
  clear hwi
  go_loopw [5, 6] (fun vn vm wr => ∃ p q : Nat, p ≤ nd ∧ q ≤ nl ∧ (q = 0 ∨ p = nd) ∧ vn = .int .i64 p ∧ vm = .int .i64 q ∧ PI w D L (p + q) wr) (fun vn vm _ => nd + nl - ((intOf vn).toNat + (intOf vm).toNat))
  case atStart => exact ⟨0, 0, by omega, by omega, .inl rfl, rfl, rfl, HPI.out⟩
  case round =>
    obtain ⟨p, q, hp, hq, hpq, rfl, rfl, hpi⟩ := hrel
    have HP2 := Lib.hid hpi
    have hsz : (⟨(D ++ L).toArray⟩ : ByteArray).size = nd + nl := by
      show (D ++ L).toArray.size = _
      rw [List.size_toArray, List.length_append, HND.out, HNL.out]
    by_cases hend : p + q < nd + nl
    · have hlt : p + q < (⟨(D ++ L).toArray⟩ : ByteArray).size := by rw [hsz]; exact hend
      by_cases hpd : p < nd
      · obtain rfl : q = 0 := by omega
        have hpl : p < D.length := by rw [HND.out]; exact hpd
        obtain ⟨c, hc⟩ : ∃ c, D[p].toNat = c := ⟨_, rfl⟩
        have hce : ((⟨(D ++ L).toArray⟩ : ByteArray)[p + 0]'hlt).toNat = c := by
          show ((D ++ L).toArray[p + 0]'_).toNat = c
          rw [List.getElem_toArray, List.getElem_append_left (by omega)]
          exact hc
        have hcb := HDD.out _ (List.getElem_mem hpl)
        rw [hc] at hcb
        have hnx := run_next_at (P := Tryd.prog) wr (w.heap.size + 2) ⟨(D ++ L).toArray⟩ (p + 0) 0 hpi.it hlt (by rw [hce]; omega)
        rw [hce] at hnx
        have hnum := Nat.le_trans (valD_take D p) (by rw [HD.out]; exact HN.out.2)
        have hvn := valD_next D hpl
        rw [hc] at hvn
        have HVN := Lib.hid hvn
        have hh0 : 0 < p ∨ c ≠ 48 := by
          rcases Nat.eq_zero_or_pos p with h0 | h0
          · right
            intro e
            apply HH.out
            subst h0
            rw [List.headD_eq_head?_getD, List.head?_eq_getElem?, List.getElem?_eq_getElem hpl]
            exact hc.trans e
          · exact .inl h0
        obtain ⟨w5, hw5⟩ : ∃ w5, setO wr (w.heap.size + 2) (.stringIter ⟨(D ++ L).toArray⟩ (p + 0 + 1)) = w5 := ⟨_, rfl⟩
        rw [hw5] at hnx
        have hl5 : ABox w5 (w.heap.size + 1) 37 [.int .i64 (valD 0 (D.take (p + 0)) : Nat), .int .i64 (valL 0 (L.take (p + 0 - D.length)) : Nat)] := by rw [← hw5]; exact (setO_other (by omega)).trans hpi.l
        have f0 := hl5.fz 0
        have HW5 := Lib.hid hw5
        have l0 : w5.cell? ⟨w.heap.size + 1, 0, none⟩ = some (.int .i64 (valD 0 (D.take p) : Nat)) := hl5.cell 0 rfl
        obtain ⟨z, hz⟩ : ∃ z, valD 0 (D.take p) = z := ⟨_, rfl⟩
        clear hvn hce hc hw5 hl5
        have HZ := Lib.hid hz
        rw [hz] at l0 hnum HVN
        have hcI1 : (48 : Int) ≤ c := by omega
        have hcI2 : (c : Int) ≤ 57 := by omega
        have hpI : (p : Int) < 5 := by omega
        have hzI : (z : Int) ≤ 16384 := by omega
        have HFIN : Hid (PI w D L (p + 1 + 0) (w5.setCell ⟨w.heap.size + 1, 0, none⟩ (.int .i64 (10 * (z : Int) + ((c : Int) - 48))))) := Lib.hid (by
          rw [← HW5.out]
          refine HP2.out.next (10 * (z : Int) + ((c : Int) - 48)) (valL 0 (L.take (p + 0 - D.length)) : Nat) 0 _ rfl ?_ ?_
          · rw [show p + 0 + 1 = p + 1 from rfl, HVN.out]; omega
          · rw [HND.out, show p + 0 - nd = 0 by omega, show p + 0 + 1 - nd = 0 by omega])
        clear hlt hsz hpl hz hpi
        by_cases hp0 : 0 < p
        · have hp0I : (0 : Int) < p := by omega
          clear hh0
          go_wp2_with fail
          go_roundw
          case rel => exact ⟨p + 1, 0, by omega, by omega, .inl rfl, by go_num, rfl, HFIN.out⟩
          case measure => simp [intOf]; omega
        · have hc48 : ¬ (c : Int) = 48 := by omega
          obtain rfl : p = 0 := by omega
          clear hh0
          go_wp2_with fail
          go_roundw
          case rel => exact ⟨0 + 1, 0, by omega, by omega, .inl rfl, by go_num, rfl, HFIN.out⟩
          case measure => simp [intOf]; omega
      · obtain rfl : p = nd := by omega
        have hql : q < L.length := by rw [HNL.out]; omega
        obtain ⟨c, hc⟩ : ∃ c, L[q].toNat = c := ⟨_, rfl⟩
        have hce : ((⟨(D ++ L).toArray⟩ : ByteArray)[p + q]'hlt).toNat = c := by
          show ((D ++ L).toArray[p + q]'_).toNat = c
          rw [List.getElem_toArray, List.getElem_append_right (by rw [HND.out]; omega)]
          simp only [HND.out, Nat.add_sub_cancel_left]
          exact hc
        have hcb := HLL.out _ (List.getElem_mem hql)
        rw [hc] at hcb
        have hnx := run_next_at (P := Tryd.prog) wr (w.heap.size + 2) ⟨(D ++ L).toArray⟩ (p + q) 0 hpi.it hlt (by rw [hce]; omega)
        rw [hce] at hnx
        have hnum := Nat.le_trans (valL_take L q) (by rw [HL.out]; exact hs)
        have hvn := valL_next L hql
        rw [hc] at hvn
        have HVN := Lib.hid hvn
        clear hvn hce hc
        obtain ⟨w5, hw5⟩ : ∃ w5, setO wr (w.heap.size + 2) (.stringIter ⟨(D ++ L).toArray⟩ (p + q + 1)) = w5 := ⟨_, rfl⟩
        rw [hw5] at hnx
        have hl5 : ABox w5 (w.heap.size + 1) 37 [.int .i64 (valD 0 (D.take (p + q)) : Nat), .int .i64 (valL 0 (L.take q) : Nat)] := by
          rw [← hw5]
          have h := (setO_other (o := .stringIter ⟨(D ++ L).toArray⟩ (p + q + 1)) (show w.heap.size + 1 ≠ w.heap.size + 2 by omega)).trans hpi.l
          rw [HND.out, Nat.add_sub_cancel_left] at h
          exact h
        have l0 := hl5.cell 1 rfl
        have f0 := hl5.fz 1
        have HW5 := Lib.hid hw5
        obtain ⟨z, hz⟩ : ∃ z, valL 0 (L.take q) = z := ⟨_, rfl⟩
        rw [hz] at l0 hnum HVN
        have HZ := Lib.hid hz
        have hcI1 : (97 : Int) ≤ c := by omega
        have hcI2 : (c : Int) ≤ 122 := by omega
        have hqI : (q : Int) < 4 := by omega
        have hpI : (0 : Int) < p := by omega
        have hzI : (z : Int) ≤ 16384 := by omega
        have HFIN : Hid (PI w D L (p + (q + 1)) (w5.setCell ⟨w.heap.size + 1, 1, none⟩ (.int .i64 (26 * (z : Int) + ((c : Int) - 97) + 1)))) := Lib.hid (by
          rw [← HW5.out]
          refine HP2.out.next (valD 0 (D.take (p + q)) : Nat) (26 * (z : Int) + ((c : Int) - 97) + 1) 1 _ rfl ?_ ?_
          · rw [List.take_of_length_le (by rw [HND.out]; omega), List.take_of_length_le (by rw [HND.out]; omega)]
          · rw [HND.out, show p + q + 1 - p = q + 1 by omega, HVN.out]; omega)
        clear hlt hsz hql hz hpi hl5 hw5
        go_wp2_with fail
        go_roundw
        case rel => exact ⟨p, q + 1, by omega, by omega, .inr rfl, rfl, by go_num, HFIN.out⟩
        case measure => simp [intOf]; omega
    · obtain rfl : p = nd := by omega
      obtain rfl : q = nl := by omega
      have hnx := run_next_out (P := Tryd.prog) wr (w.heap.size + 2) ⟨(D ++ L).toArray⟩ (p + q) 0 hpi.it (by rw [hsz]; exact hend)
      have hlb : ABox wr (w.heap.size + 1) 37 [.int .i64 (n : Int), .int .i64 (s : Int)] := by
        have h := hpi.l
        rw [HND.out, Nat.add_sub_cancel_left, List.take_of_length_le (by rw [HND.out]; omega), List.take_of_length_le (by rw [HNL.out]; omega), HD.out, HL.out] at h
        exact h
      have HLB := Lib.hid hlb
      have l0 := hlb.cell 0 rfl
      have l1 := hlb.cell 1 rfl
      have hpI : ¬ (p : Int) = 0 := by omega
      have hE : labE (n : Int) (s : Int) = 0 := by unfold labE; rw [if_neg (by have := HN.out; omega)]
      have HC := Lib.hid (labCheck_any (n : Int) (s : Int) wr)
      rw [hE] at HC
      clear hpi hlb hsz hend hE
      go_wp2_with (first
        | (go_at_call 22; refine HC.out.mono ?_; rintro e w8 ⟨rfl, hb8⟩; have HB8 := Lib.hid (HP2.out.bl.trans (hb8.mono HP2.out.bl.size)); have HR8 := Lib.hid (HP2.out.r.to hb8); have HL8 := Lib.hid (HLB.out.to hb8); clear hb8 l0 l1; have l0 := HL8.out.cell 0 rfl; have l1 := HL8.out.cell 1 rfl; have r0 := HR8.out.cell 0 rfl; have r1 := HR8.out.cell 1 rfl; have f0 := HR8.out.fz 0; have f1 := HR8.out.fz 1)
        | fail)
      have HF := Lib.hid ((HR8.out.set 0 (.int .i64 (n : Int))).set 1 (.int .i64 (s : Int)))
      refine bodyPost_ret (v := .tuple #[.agg #[.int .i64 (n : Int), .int .i64 (s : Int)], .int .i64 0]) (results_row_tmp Tryd.results20 _ _ w.heap.size _ #[.int .i64 (n : Int), .int .i64 (s : Int)] (0, 0) _ rfl (by simpa [ABox] using HF.out) Tryd.underlying37 rfl (by kernel_rfl)) rfl ⟨rfl, ?_⟩
      exact (HB8.out.setCell (p := ⟨w.heap.size, 0, none⟩) (Nat.le_refl _) _).setCell (p := ⟨w.heap.size, 1, none⟩) (Nat.le_refl _) _
/-- A label is read back from its text. -/
theorem reparse_any (n s : Nat) (hn : 1 ≤ n ∧ n ≤ 16384) (hs : s ≤ 16384) (w : World) :
    Calls Tryd.prog 20 #[.string (labT n s)] w fun e w' => e = .returned (.tuple #[.agg #[.int .i64 (n : Int), .int .i64 (s : Int)], .int .i64 0]) ∧ Below w.heap.size w w' := by
  have hd := dec_facts 4 n (by omega)
  rw [← itoa_nat] at hd
  have h4 := sufF_len 4 s []
  exact parse_any (Lib.itoa (n : Int)) (sufF 4 s []) n s hd.1 (by rw [sufF_val 4 s [] (by simpa [sufB] using hs) (by omega)]; rfl) hn hs hd.2.1 (sufF_az 4 s [] (by simp)) hd.2.2.1 hd.2.2.2.1 (by simpa using h4) (hd.2.2.2.2 hn.1) w
end Go.Proofs.YtakaielemicpkaaDoor
namespace Go.Proofs.YtakaielemicpkaaDoor
open Go.RowKit
set_option maxRecDepth 100000 in
set_option maxHeartbeats 16000000 in
theorem labs_any (A0 : Option Addr) (c0 : Nat) (l0 : List Int) (W1 : World) (hs0 : Sl W1 (fun b => b < W1.heap.size) A0 c0 l0) (hT : Tabs W1) :
    Calls Tryd.prog 6 #[.slice A0 l0.length c0] W1 fun e w' => e = .returned (.bool true) ∧ Below W1.heap.size W1 w' := by
  have HT := Lib.hid hT
  have HI0 := Lib.hid hs0
  clear hT hs0
  go_enter Tryd.func6, Tryd.ntmps6
  go_upto_region 2 with (first
    | (go_at_call 7; refine (gbook_any A0 c0 l0 W1 HI0.out).mono ?_; rintro e V1 ⟨m, h, Ab1, cb1, ss, rfl, hg, hs, hb⟩; have HG := Lib.hid hg; have HP := Lib.hid (pages_any ((⟨HT.out.to hb, hs.mono fun i hi _ => hi.2⟩ : SM V1 Ab1 cb1 ss).bookT hg.tame hg.siz)); have HV1 := Lib.hid hb; clear hg hs hb)
    | (go_at_call 8; refine HP.out.mono ?_; rintro e W3 ⟨v, R, rfl, ho, -, hb⟩; have HO := Lib.hid ho; have HB3 := Lib.hid (HV1.out.trans (hb.mono HV1.out.size)); clear hb ho)
    | fail)
  obtain ⟨Ap, cp, rfl, hps⟩ := HO.out.plain.sl
  have hlab := HG.out.labs
  obtain ⟨ps, hpp⟩ : ∃ ps, pagesB m h ss = ps := ⟨_, rfl⟩
  have hpl : ps.length ≤ 3920 := by rw [← hpp]; exact HG.out.tame.pages HG.out.siz
  rw [hpp] at hps hlab ⊢
  have HPS := Lib.hid hps
  have HLA := Lib.hid hlab
  obtain ⟨n, hn⟩ : ∃ n, ps.length = n := ⟨_, rfl⟩
  have HN := Lib.hid hn
  have hpc : n ≤ cp := by rw [← hn]; exact hps.1
  rw [hn] at hpl ⊢
  clear hps hlab hpp hn HO HP
  go_upto_region 3 with (fail)
  obtain ⟨W4, hW4⟩ : ∃ W4, W3.alloc (.cells #[.int .i64 0, .int .i64 0] 37) = W4 := ⟨_, rfl⟩
  have hb4 : Below W3.heap.size W3 W4 := by rw [← hW4]; exact (Below.refl _ _).alloc (Nat.le_refl _) _
  have hx4 : ABox W4 W3.heap.size 37 [.int .i64 0, .int .i64 0] := by rw [← hW4]; exact heap_alloc_new W3 _
  obtain ⟨X, hX⟩ : ∃ X, W3.heap.size = X := ⟨_, rfl⟩
  have HXl : Hid (X = W3.heap.size) := Lib.hid hX.symm
  try rw [hW4]
  rw [hX] at hx4 ⊢
  have HX4 := Lib.hid hx4
  have HB4 := Lib.hid hb4
  clear hW4 hb4 hx4 hX
  go_wp2_with fail
  go_loopw [5, 6] (fun vp i wr => ∃ k : Nat, ∃ ln ls p : Int, k ≤ n ∧ i = .int .i64 k ∧ vp = .int .i64 p ∧ (0 ≤ p ∧ p ≤ k) ∧ LabsOk ln ls p (ps.drop k) ∧ ABox wr X 37 [.int .i64 ln, .int .i64 ls] ∧ Below X W3 wr) (fun _ i _ => n - (intOf i).toNat)
  case atStart => exact ⟨0, 0, 0, 0, by omega, rfl, rfl, by omega, HLA.out, HX4.out, by rw [HXl.out]; exact HB4.out⟩
  case round =>
    obtain ⟨k, ln, ls, p, hk, rfl, rfl, hp, hlo, hxb, hbl⟩ := hrel
    have HXB := Lib.hid hxb
    have HBL := Lib.hid hbl
    by_cases hlt : k < n
    · have hkl : k < ps.length := by rw [HN.out]; exact hlt
      rw [List.drop_eq_getElem_cons hkl] at hlo
      obtain ⟨b, o, va, vb, rfl, -, hbp, p0, p1, -⟩ := page_at (HPS.out.to (HXl.out ▸ hbl)) hkl
      obtain ⟨pg, hpg⟩ : ∃ pg, ps[k] = pg := ⟨_, rfl⟩
      rw [hpg] at hlo p0 p1
      obtain ⟨hb1, hb2, hb3⟩ := hlo
      obtain ⟨u, hu⟩ := Int.eq_ofNat_of_zero_le (show 0 ≤ pg.num by omega)
      obtain ⟨z, hz⟩ := Int.eq_ofNat_of_zero_le hb1.2.1
      rw [hu, hz] at hb1 hb2 hb3
      rw [hu] at p0
      rw [hz] at p1
      have HLT := Lib.hid hb2
      have HL3 := Lib.hid hb3
      have HU : Hid ((1 ≤ u ∧ u ≤ 16384) ∧ z ≤ 16384) := Lib.hid (by omega)
      obtain ⟨w5, hw5⟩ : ∃ w5, wr.alloc (.cells #[.int .i64 (u : Int), .int .i64 (z : Int)] 37) = w5 := ⟨_, rfl⟩
      have hb5 : Below wr.heap.size wr w5 := by rw [← hw5]; exact (Below.refl _ _).alloc (Nat.le_refl _) _
      obtain ⟨Y, hY⟩ : ∃ Y, wr.heap.size = Y := ⟨_, rfl⟩
      have hy5 : ABox w5 Y 37 [.int .i64 (u : Int), .int .i64 (z : Int)] := by rw [← hw5, ← hY]; exact heap_alloc_new wr _
      have HB5 := Lib.hid (hbl.trans (hb5.mono (by have := hxb.lt; omega)))
      have HX5 := Lib.hid (hxb.to hb5)
      have HY5 := Lib.hid hy5
      have hkI : (k : Int) < (n : Int) := by omega
      go_upto_region 8 with (fail)
      try rw [hw5]
      try rw [hY]
      clear hw5 hb5 hy5 p0 p1 hb1 hb2 hb3 hu hz hpg hkl hxb hbl hY
      have y0 := HY5.out.cell 0 rfl
      have y1 := HY5.out.cell 1 rfl
      have HBg5 : Hid (Below W1.heap.size W1 w5) := Lib.hid (HB3.out.trans (HB5.out.mono (by rw [HXl.out]; exact HB3.out.size)))
      have HTX := Lib.hid (ltext_any u z HU.out.1 HU.out.2 w5 (HT.out.to HBg5.out))
      go_upto_region 9 with (first
        | (go_at_call 21; refine HTX.out.mono ?_; rintro e w6 ⟨rfl, hb⟩; have HRP := Lib.hid (reparse_any u z HU.out.1 HU.out.2 w6); have HB6 := Lib.hid hb; clear hb)
        | (go_at_call 20; refine HRP.out.mono ?_; rintro e w7 ⟨rfl, hb⟩; have HB7 := Lib.hid (HB6.out.trans (hb.mono HB6.out.size)); clear hb)
        | fail)
      clear y0 y1
      obtain ⟨w8, hw8⟩ : ∃ w8, w7.alloc (.cells #[.int .i64 (u : Int), .int .i64 (z : Int)] 37) = w8 := ⟨_, rfl⟩
      have hb8 : Below w7.heap.size w7 w8 := by rw [← hw8]; exact (Below.refl _ _).alloc (Nat.le_refl _) _
      obtain ⟨Z, hZ⟩ : ∃ Z, w7.heap.size = Z := ⟨_, rfl⟩
      have hz8 : ABox w8 Z 37 [.int .i64 (u : Int), .int .i64 (z : Int)] := by rw [← hw8, ← hZ]; exact heap_alloc_new w7 _
      have hb58 := HB7.out.trans (hb8.mono HB7.out.size)
      try rw [hw8]
      try rw [hZ]
      have HX8 := Lib.hid (HX5.out.to hb58)
      have HY8 := Lib.hid (HY5.out.to hb58)
      have HZ8 := Lib.hid hz8
      have HB8 := Lib.hid (HB5.out.trans (hb58.mono (by have := HX5.out.lt; omega)))
      clear hw8 hb8 hZ hz8 hb58 HTX HRP HB6 HB7
      have hE : labE (u : Int) (z : Int) = 0 := by unfold labE; rw [if_neg (by have := HU.out; omega)]
      have HC := Lib.hid (labCheck_any (u : Int) (z : Int) w8)
      rw [hE] at HC
      clear hE
      have y0 := HY8.out.cell 0 rfl
      have y1 := HY8.out.cell 1 rfl
      go_wp2_with fail
      refine HC.out.mono ?_
      rintro e w9 ⟨rfl, hb9⟩
      have HX9 := Lib.hid (HX8.out.to hb9)
      have HY9 := Lib.hid (HY8.out.to hb9)
      have HZ9 := Lib.hid (HZ8.out.to hb9)
      have HB9 := Lib.hid (HB8.out.trans (hb9.mono (by have := HX8.out.lt; omega)))
      clear y0 y1 hb9 HC
      have y0 := HY9.out.cell 0 rfl
      have y1 := HY9.out.cell 1 rfl
      have x0 := HX9.out.cell 0 rfl
      have x1 := HX9.out.cell 1 rfl
      have z0 := HZ9.out.cell 0 rfl
      have z1 := HZ9.out.cell 1 rfl
      go_wp2_with fail
      refine (less_any ln ls (u : Int) (z : Int) HLT.out w9).mono ?_
      rintro e w10 ⟨rfl, hb10⟩
      have HX10 := Lib.hid (HX9.out.to hb10)
      have HY10 := Lib.hid (HY9.out.to hb10)
      have HB10 := Lib.hid (HB9.out.trans (hb10.mono (by have := HX9.out.lt; omega)))
      clear y0 y1 x0 x1 z0 z1 hb10
      have y0 := HY10.out.cell 0 rfl
      have y1 := HY10.out.cell 1 rfl
      have x0 := HX10.out.cell 0 rfl
      have x1 := HX10.out.cell 1 rfl
      have f0 := HX10.out.fz 0
      have f1 := HX10.out.fz 1
      rcases HL3.out with ⟨hz0, hup, hrest⟩ | ⟨hz0, hlns, huln, hzls, hrest⟩
      · have HRE := Lib.hid hrest
        have HZ0 := Lib.hid hz0
        have hzz : z = 0 := by omega
        subst hzz
        have HUP := Lib.hid hup
        have hpp : p = (u : Int) - 1 := by omega
        subst hpp
        clear hrest hz0 hup
        go_wp2_with fail
        go_roundw
        case rel => exact ⟨k + 1, (u : Int), ((0 : Nat) : Int), (u : Int), by omega, by go_num, rfl, by omega, by have h := HRE.out; rwa [Int.sub_add_cancel] at h, by simpa using (HX10.out.set 0 (.int .i64 (u : Int))).set 1 (.int .i64 ((0 : Nat) : Int)), (HB10.out.setCell (p := ⟨X, 0, none⟩) (Nat.le_refl _) _).setCell (p := ⟨X, 1, none⟩) (Nat.le_refl _) _⟩
        case measure => simp [intOf]; omega
      · have HRE := Lib.hid hrest
        subst huln
        have hlse : ls = (z : Int) - 1 := by omega
        subst hlse
        have hzn : ¬ (z : Int) = 0 := hz0
        have HNX := Lib.hid (labNext_any (u : Int) ((z : Int) - 1) w10)
        have hnv : nextV (u : Int) ((z : Int) - 1) = .tuple #[.agg #[.int .i64 (u : Int), .int .i64 (z : Int)], .int .i64 0] := by
          unfold nextV
          rw [if_neg (by unfold labE; rw [if_neg (by have := HU.out; omega)]; simp), if_neg (by have := HU.out; omega), Int.sub_add_cancel]
        rw [hnv] at HNX
        clear hrest hzls hz0 hnv hlns
        clear f0 f1
        go_wp2_with fail
        refine HNX.out.mono ?_
        rintro e w11 ⟨rfl, hb⟩
        have HB11 := Lib.hid hb
        clear hb
        go_upto_region 16 with (fail)
        clear x0 x1 y0 y1
        obtain ⟨w12, hw12⟩ : ∃ w12, w11.alloc (.cells #[.int .i64 (u : Int), .int .i64 (z : Int)] 37) = w12 := ⟨_, rfl⟩
        have hb12 : Below w11.heap.size w11 w12 := by rw [← hw12]; exact (Below.refl _ _).alloc (Nat.le_refl _) _
        obtain ⟨V, hV⟩ : ∃ V, w11.heap.size = V := ⟨_, rfl⟩
        have hv12 : ABox w12 V 37 [.int .i64 (u : Int), .int .i64 (z : Int)] := by rw [← hw12, ← hV]; exact heap_alloc_new w11 _
        have hbb := HB11.out.trans (hb12.mono HB11.out.size)
        try rw [hw12]
        try rw [hV]
        have HX12 := Lib.hid (HX10.out.to hbb)
        have HY12 := Lib.hid (HY10.out.to hbb)
        have HB12 := Lib.hid (HB10.out.trans (hbb.mono (by have := HX10.out.lt; omega)))
        have v0 := hv12.cell 0 rfl
        have v1 := hv12.cell 1 rfl
        have y0 := HY12.out.cell 0 rfl
        have y1 := HY12.out.cell 1 rfl
        have x0 := HX12.out.cell 0 rfl
        have x1 := HX12.out.cell 1 rfl
        have f0 := HX12.out.fz 0
        have f1 := HX12.out.fz 1
        clear hw12 hV hb12 hv12 hbb HB11
        go_wp2_with fail
        go_roundw
        case rel => exact ⟨k + 1, (u : Int), (z : Int), p, by omega, by go_num, rfl, by omega, HRE.out, by simpa using (HX12.out.set 0 (.int .i64 (u : Int))).set 1 (.int .i64 (z : Int)), (HB12.out.setCell (p := ⟨X, 0, none⟩) (Nat.le_refl _) _).setCell (p := ⟨X, 1, none⟩) (Nat.le_refl _) _⟩
        case measure => simp [intOf]; omega
    · obtain rfl : k = n := by omega
      clear hlo hxb
      go_wp2_with fail
      refine (lives_any wr (HT.out.to (HB3.out.trans (hbl.mono (by rw [HXl.out]; exact HB3.out.size))))).mono ?_
      rintro e W9 ⟨rfl, hb⟩
      have HB9 := Lib.hid ((HB3.out.trans (hbl.mono (by rw [HXl.out]; exact HB3.out.size))).trans (hb.mono (by have := HB3.out.size; have := hbl.size; have := HXl.out; omega)))
      clear hb hbl
      go_wp2_with fail
      go_ret
      exact ⟨rfl, HB9.out⟩
end Go.Proofs.YtakaielemicpkaaDoor
namespace Go.Proofs.YtakaielemicpkaaDoor
open Go.ChangeShapes Go.WideShapes Go.ChangeAt Go.RowKit Go.Deep
theorem exists_list {α : Type} {Q : Nat → α → Prop} (n : Nat) (h : ∀ i, i < n → ∃ a, Q i a) : ∃ l : List α, l.length = n ∧ ∀ i, (hi : i < l.length) → Q i l[i] := by
  induction n with
  | zero => exact ⟨[], rfl, fun i hi => by simp at hi⟩
  | succ n ih =>
    obtain ⟨l, hl, hq⟩ := ih fun i hi => h i (by omega)
    obtain ⟨a, ha⟩ := h n (by omega)
    refine ⟨l ++ [a], by simp [hl], fun i hi => ?_⟩
    by_cases hin : i < l.length
    · rw [List.getElem_append_left hin]; exact hq i hin
    · have : i = n := by simp at hi; omega
      subst this
      rw [List.getElem_append_right (by omega)]
      simpa using ha
theorem addr_plain {w : World} {a : Addr} {v : Value} (h : w.cell? (a.add 0) = some v) : ∃ b o, a = ⟨b, o, none⟩ := by
  obtain ⟨b, o, spot⟩ := a
  have hspot : spot = none := by simpa [Addr.add] using World.cell?_spot h
  subst hspot
  exact ⟨b, o, rfl⟩
theorem bulk_one {H : Type} (d : DataW H) : 1 ≤ Rows.uptoBulk d := by
  cases d with
  | lit l => cases l <;> simp [Rows.uptoBulk]
  | nil => simp [Rows.uptoBulk]
  | ptr d => simp [Rows.uptoBulk]
  | slice elems spare => simp [Rows.uptoBulk]
  | agg parts => simp [Rows.uptoBulk]
  | iface t d => simp [Rows.uptoBulk]
  | map entries => simp [Rows.uptoBulk]
  | held h => simp [Rows.uptoBulk]
theorem bulk_part {H : Type} {d : DataW H} {l : List (DataW H)} (h : d ∈ l) : Rows.uptoBulk d ≤ Rows.uptoBulkAll l := by
  induction l with
  | nil => cases h
  | cons x r ih =>
    simp only [Rows.uptoBulkAll]
    cases List.mem_cons.1 h with
    | inl e => subst e; omega
    | inr e => have := ih e; omega
theorem bulk_length {H : Type} (l : List (DataW H)) : l.length ≤ Rows.uptoBulkAll l := by
  induction l with
  | nil => simp [Rows.uptoBulkAll]
  | cons x r ih => have := bulk_one x; simp only [Rows.uptoBulkAll, List.length_cons]; omega
theorem bulk_slice {H : Type} (elems spare : List (DataW H)) : elems.length + spare.length + 1 ≤ Rows.uptoBulk (.slice elems spare) := by
  have h1 := bulk_length elems
  have h2 := bulk_length spare
  simp only [Rows.uptoBulk]
  omega
/-- THE BOUND. -/
theorem bulk_bound {H : Type} {l : List (DataW H)} (hk : Rows.uptoSmall H l = true) : Rows.uptoBulkAll l ≤ 1048576 := by
  have h := of_decide_eq_true hk
  exact h
variable {H : Type} {enc : TypeId × Value → H} {P : Program}
/-- A slice whose elements are of a kind that is known. -/
theorem open_sl {α : Type} [Rep α] {t e : TypeId} {W : World} {base : Nat} {v : Value} {d : DataW H} {ps : List MemPlace} (ht : P.underlying t = some (.slice e)) (hC : P.cellsOf e = Rep.size α)
    (hel : ∀ fuel cs x, DataW.trod enc P W 0 (fun _ => true) true fuel e cs = some x → ∃ a : α, Rep.R W (fun b => b < W.heap.size) cs a) (hsz : 0 < Rep.size α)
    (hval : Value.okWide P W .any base t v) (h : DataW.Trod enc P W 0 (fun _ => true) true t v d ps) :
    ∃ A c, ∃ l : List α, v = .slice A l.length c ∧ Sl W (fun b => b < W.heap.size) A c l ∧ l.length ≤ Rows.uptoBulk d := by
  obtain ⟨a, len, cap, rfl⟩ := okWide_slice ht hval
  obtain ⟨fuel, hf⟩ := h
  rcases open_slice ht hf with ⟨hcs, _⟩ | ⟨a', len', cap', m, n, D, Pl, hcs, _, hl, hm, hmm, hx, hi⟩
  · simp [Value.cells] at hcs
    obtain ⟨rfl, rfl, rfl⟩ := hcs
    exact ⟨none, 0, [], rfl, Sl.nil _ _ _ _ (by simp [maxLen]), by simp⟩
  · simp [Value.cells] at hcs
    obtain ⟨rfl, rfl, rfl⟩ := hcs
    simp only [if_true] at hmm
    subst hmm
    rw [hC] at hi
    have hQ : ∀ i, i < len → ∃ x : α, ∃ es, Rep.R W (fun b => b < W.heap.size) es x ∧ ∀ j u, es[j]? = some u → W.cell? (a'.add (i * Rep.size α + j)) = some u := by
      intro i hil
      obtain ⟨cs', hc, ht'⟩ := hi i (by omega)
      obtain ⟨x, hr⟩ := hel _ _ _ ht'
      obtain ⟨_, hlen, hat⟩ := World.cells?_some hc
      refine ⟨x, cs', hr, fun j u hu => ?_⟩
      have hj : j < Rep.size α := by rw [← hlen]; exact (List.getElem?_eq_some_iff.1 hu).1
      rw [← Go.Deep.add_add]
      exact (hat j hj).trans hu
    obtain ⟨l, hll, hq⟩ := exists_list len hQ
    refine ⟨some a', m, l, by rw [hll], ⟨by omega, hm, fun h0 => ?_⟩, ?_⟩
    · obtain ⟨es, hr, hc⟩ := hq 0 h0
      have hel0 := Rep.len hr
      obtain ⟨b, o, rfl⟩ := addr_plain (by simpa using hc 0 _ (List.getElem?_eq_getElem (by omega)))
      have hlt := World.block_lt_of_cell? W _ (hc 0 _ (List.getElem?_eq_getElem (by omega)))
      rw [addr_add] at hlt
      refine ⟨b, o, rfl, hlt, hlt, fun i hil => ?_⟩
      obtain ⟨es, hr, hc⟩ := hq i hil
      refine ⟨es, hr, fun j u hu => ?_⟩
      have := hc j u hu
      rwa [addr_add, ← Nat.add_assoc] at this
    · simp only [Prod.mk.injEq] at hx
      rw [hx.1, hll]
      have := bulk_slice ((List.range len).map D) ((List.range (m - len)).map fun j => D (len + j))
      simp only [List.length_map, List.length_range] at this
      omega
end Go.Proofs.YtakaielemicpkaaDoor
namespace Go.Proofs.YtakaielemicpkaaDoor
open Go.ChangeShapes Go.WideShapes Go.ChangeAt Go.RowKit Go.Deep
variable {H : Type} {enc : TypeId × Value → H} {P : Program}
theorem open_ints_sl {t e : TypeId} {W : World} {base : Nat} {v : Value} {d : DataW H} {ps : List MemPlace} (ht : P.underlying t = some (.slice e)) (he : P.underlying e = some (.int .i64)) (hc : P.cellsOf e = 1)
    (hval : Value.okWide P W .any base t v) (h : DataW.Trod enc P W 0 (fun _ => true) true t v d ps) : ∃ A c, ∃ l : List Int, v = .slice A l.length c ∧ Sl W (fun b => b < W.heap.size) A c l := by
  obtain ⟨a, len, cap, rfl⟩ := okWide_slice ht hval
  obtain ⟨fuel, hf⟩ := h
  rcases open_ints ht he hc hf with ⟨hcs, _⟩ | ⟨a', len', cap', zs, hcs, _, hl, hm, hz, _, hcell, hwf⟩
  · simp [Value.cells] at hcs
    obtain ⟨rfl, rfl, rfl⟩ := hcs
    exact ⟨none, 0, [], rfl, Sl.nil _ _ _ _ (by simp [maxLen])⟩
  · simp [Value.cells] at hcs
    obtain ⟨rfl, rfl, rfl⟩ := hcs
    have hz' : zs.length = cap := by simpa using hz
    have hlt : (zs.take len).length = len := by rw [List.length_take]; omega
    refine ⟨some a', cap, zs.take len, by rw [hlt], by rw [hlt]; exact hl, hm, fun h0 => ?_⟩
    obtain ⟨b, o, rfl, hat⟩ := Go.ints_at hcell (by omega)
    refine ⟨b, o, rfl, World.block_lt_of_cell? W _ (hat 0 (by omega)), World.block_lt_of_cell? W _ (hat 0 (by omega)), fun i hi => ?_⟩
    rw [hlt] at hi
    have e : zs.getD i 0 = (zs.take len)[i]'(by omega) := by
      rw [List.getElem_take, List.getD_eq_getElem?_getD, List.getElem?_eq_getElem (by omega)]; rfl
    refine ⟨[.int .i64 (zs.getD i 0)], ⟨by rw [e], ?_⟩, fun j u hu => ?_⟩
    · exact i64_wf (hwf _ (List.mem_of_mem_take (List.getElem_mem (by omega))))
    · have hj : j = 0 := by
        rcases j with _ | j
        · rfl
        · simp at hu
      subst hj
      simp only [List.getElem?_cons_zero, Option.some.injEq] at hu
      subst hu
      have := hat i (by omega)
      show W.cell? ⟨b, o + i * 1 + 0, none⟩ = _
      rw [Nat.mul_one, Nat.add_zero]; exact this
end Go.Proofs.YtakaielemicpkaaDoor
namespace Go.Proofs.YtakaielemicpkaaDoor.rowBookLabels
open Go.ChangeShapes Go.WideShapes Go.ChangeAt Go.RowKit
set_option maxRecDepth 100000 in
theorem contract (H : Type) (enc : TypeId × Value → H) (W : World) (base : Nat) (args : Array Value) (ds gs : List (DataW H)) (before : List MemPlace)
    (hval : ∀ (j : Nat) t v, Tryd.f6.params[j]? = some t → args[j]? = some v → Value.okWide Tryd.prog W .any base t v)
    (hW : DataW.Whole enc Tryd.prog Tryd.f6.params.toList Rows.bookLabelsSpec.vars false W args.toList ds gs before) (hL : laidMetH Tryd.prog laidL W) :
    Calls Tryd.prog 6 args W fun e W' => ∃ v, e = .returned v ∧ Rows.bookLabelsSpec.post enc Tryd.prog Tryd.f6 false true false false W args v W' := by
  have hW' := hW
  obtain ⟨p, q, hA0, hV, rfl, hfz, hnd⟩ := hW
  have hA : DataW.TrodAll enc Tryd.prog W 0 (fun _ => true) true Tryd.f6.params.toList args.toList ds p := hA0
  rw [Tryd.params6] at hA hval
  obtain ⟨v0, vs0, d0, ds0, p0, q0, hargs, rfl, rfl, h0, r0⟩ := trodAll_cons hA
  obtain ⟨rfl, rfl, rfl⟩ := trodAll_nil r0
  obtain rfl : args = #[v0] := by cases args; simp_all
  obtain ⟨rfl, rfl⟩ := trodVars_none hV
  obtain ⟨A0, c0, l0, rfl, hl0⟩ := open_ints_sl Tryd.underlying22 Tryd.underlying3 cells_int (hval 0 22 v0 rfl rfl) h0
  refine (labs_any A0 c0 l0 W hl0 (tabs_of hL)).mono fun e W' ⟨he, hb⟩ => ?_
  subst he
  exact ⟨_, rfl, row_close laidOut Tryd.underlying4 (by kernel_rfl) (by kernel_rfl) rfl hW' rfl hb⟩

theorem laid_met (os : Os) : laidMet Tryd.prog Rows.bookLabelsRow.laid ((laidWorld os).forCall (fun _ _ => 0) ⟨#[], #[.slice none 0 0], []⟩).memory :=
  laidMet_of_run' 8 (by kernel_rfl) (by kernel_rfl)
theorem reads (os : Os) {H : Type} (enc : TypeId × Value → H) : ∃ places, DataW.whole enc Tryd.prog ((laidWorld os).forCall (fun _ _ => 0) ⟨#[], #[.slice none 0 0], []⟩).memory Tryd.f6.params.toList Rows.bookLabelsSpec.vars false (#[.slice none 0 0] : Array Value).toList 8 = some ([.nil], [], places) :=
  ⟨[], by kernel_rfl⟩
set_option maxRecDepth 100000 in
theorem lifted (os : Os) (started : os.Started) (H : Type) (enc : TypeId × Value → H) (F : Stop.Interp) :
    ReturnsInHanded {} Tryd.checked os 6 .any ((OpenSpec.ofChange Rows.bookLabelsSpec).preRow enc Tryd.prog Tryd.f6 Rows.bookLabelsRow.domain false Rows.bookLabelsRow.laid) (((OpenSpec.ofChange Rows.bookLabelsSpec).at F).post enc Tryd.prog Tryd.f6 false true false false) := by
  obtain ⟨places, hx⟩ := reads os enc
  refine returnsInHanded_of_row (C := Tryd.checked) (s := (OpenSpec.ofChange Rows.bookLabelsSpec)) own started (by kernel_rfl) Tryd.func6
    (witness_row_at (enc := enc) (C := Tryd.checked) false (laidWorld os) #[.slice none 0 0] rfl (by kernel_rfl) (by kernel_rfl) (by kernel_rfl)
      (OpenSpec.preRow_of_cond 8 hx (by kernel_rfl) (fun k hk => by cases hk) (by kernel_rfl) (laid_met os))) ?_
  intro W base args ds gs before hval hW _ _ _ hL _ _
  exact contract H enc W base args ds gs before hval hW hL
theorem said : Rows.BookLabelsSaid :=
  OpenClaim.holds_of_cond 6 Tryd.f6 rfl rfl rfl rfl rfl rfl rfl ⟨rfl, rfl, rfl, rfl, rfl⟩ rfl rfl rfl rfl rfl (by kernel_rfl) Tryd.func6 (by kernel_rfl)
    (of_decide_eq_true (by kernel_rfl)) (by unfold Func.isWrapper; first | (rw [if_pos (by decide +kernel)]; kernel_rfl) | (rw [if_neg (by decide +kernel)]; exact ⟨rfl, rfl⟩))
    (fun os started H enc _ F => by rw [OpenClaim.pre_eq_preRow]; exact lifted os started H enc F)
theorem wants : Tryd.f6.params.all (fun t => !Tryd.prog.wantsStandIn t) = true := by kernel_rfl
theorem plain (f : FuncId) (fn : Func) (hf : Tryd.pinned.checked.prog.funcNamed "rollbook/rollbooklaw28.BookLabels" = some f) (hfn : Tryd.pinned.checked.prog.funcs[f]? = some fn) :
    false = Tryd.pinned.checked.prog.looks [] ∧ ∀ (j : Nat) t, fn.params[j]? = some t → Tryd.pinned.checked.prog.wantsStandIn t = false := by
  obtain rfl : f = 6 := Option.some.inj ((show Tryd.prog.funcNamed "rollbook/rollbooklaw28.BookLabels" = some 6 by kernel_rfl).symm.trans hf) |>.symm
  obtain rfl : fn = Tryd.f6 := (Option.some.inj (Tryd.func6.symm.trans hfn)).symm
  refine ⟨by kernel_rfl, fun j t ht => ?_⟩
  have := Array.all_eq_true_iff_forall_mem.1 wants t (Array.mem_of_getElem? ht)
  exact (by simpa using this : Tryd.prog.wantsStandIn t = false)
theorem card : Rows.BookLabelsCardSaid :=
  Claim7.holds_tied_plain_at .later [] _ _ _ _ said (fun _ h => by cases h) (by kernel_rfl) (fun _ h => by cases h) bookLabels_row_tie rfl ⟨rfl, rfl⟩ (by kernel_rfl) rfl plain (by kernel_rfl)
#print axioms card
end Go.Proofs.YtakaielemicpkaaDoor.rowBookLabels
