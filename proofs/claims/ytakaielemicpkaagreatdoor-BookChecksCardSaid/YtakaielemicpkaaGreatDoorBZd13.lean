/- Check of the reference returns the error that Check of the program returns. No condition but that the sizes fit.
The reference's lines of a text are those of package para. No condition but sizes.
The reference's page: how many lines are used, whether a line fits. No condition but sizes.
The reference's error of lines, notes and a height is that of package page. No condition but sizes.
A page that the reference fills: its box, its rows of lines, the queue and the pages before it, each apart from the others. No condition. -/
import Derived.Test.YtakaielemicpkaaGreatDoorBZd12
namespace Go.Proofs.YtakaielemicpkaaGreatDoor
open Go.RowKit
theorem chk_sz0 {a b : List (List Word)} (h : szE a b ≠ 0) : chkOf a b = szE a b := by
 unfold szE at h ⊢
 unfold chkOf
 split
 ·rfl
 ·split
  ·rfl
  ·rename_i h1 h2
   rw [if_neg h1, if_neg h2] at h
   exact absurd rfl h
theorem chk_sz1 {a b : List (List Word)} (h : szE a b = 0) : chkOf a b = endP b.length (scanP a.length b.length 0 0 (a ++ b)) := by
 unfold szE at h
 unfold chkOf
 split
 ·rename_i h1; rw [if_pos h1] at h; cases h
 ·rename_i h1
  rw [if_neg h1] at h
  split
  ·rename_i h2; rw [if_pos h2] at h; cases h
  ·rfl
theorem step_body {np nn i : Nat} {r : Int} {x : Word} (hi : i < np) (h : wordE x (r + 1) nn = 0) : stepW np nn i r x = (0, if x.n = 0 then r else r + 1) := by
 unfold wordE at h
 unfold stepW
 by_cases h1 : badW x = true
 ·rw [if_pos h1] at h; cases h
 ·rw [if_neg h1] at h ⊢
  by_cases h2 : x.t ≠ 0 ∧ x.t ≠ 1
  ·rw [if_pos h2] at h; cases h
  ·rw [if_neg h2] at h ⊢
   by_cases h3 : x.n = 0
   ·rw [if_pos h3, if_pos h3]
   ·rw [if_neg h3, if_neg h3]
    by_cases h4 : x.n ≠ 0 ∧ (x.n ≠ r + 1 ∨ (nn : Int) < x.n)
    ·rw [if_pos h4] at h; cases h
    ·rw [if_neg (by rintro (h | h | h) <;> omega)]
theorem step_berr {np nn i : Nat} {r : Int} {x : Word} (_ : i < np) (h : wordE x (r + 1) nn ≠ 0) : ∃ n', stepW np nn i r x = (wordE x (r + 1) nn, n') := by
 unfold wordE at h ⊢
 unfold stepW
 by_cases h1 : badW x = true
 ·rw [if_pos h1, if_pos h1]; exact ⟨_, rfl⟩
 ·rw [if_neg h1] at h
  rw [if_neg h1, if_neg h1]
  by_cases h2 : x.t ≠ 0 ∧ x.t ≠ 1
  ·rw [if_pos h2, if_pos h2]; exact ⟨_, rfl⟩
  ·rw [if_neg h2] at h
   rw [if_neg h2, if_neg h2]
   by_cases h4 : x.n ≠ 0 ∧ (x.n ≠ r + 1 ∨ (nn : Int) < x.n)
   ·rw [if_pos h4, if_neg h4.1, if_pos (by rcases h4.2 with h | h <;> omega)]; exact ⟨_, rfl⟩
   ·rw [if_neg h4] at h; exact absurd rfl h
theorem step_note0 {np nn i : Nat} {r : Int} {x : Word} (_ : np ≤ i) (h : wordE x 0 0 = 0) : stepW np nn i r x = (0, r) := by
 unfold wordE at h
 unfold stepW
 by_cases h1 : badW x = true
 ·rw [if_pos h1] at h; cases h
 ·rw [if_neg h1] at h ⊢
  by_cases h2 : x.t ≠ 0 ∧ x.t ≠ 1
  ·rw [if_pos h2] at h; cases h
  ·rw [if_neg h2] at h ⊢
   by_cases h3 : x.n = 0
   ·rw [if_pos h3]
   ·rw [if_pos ⟨h3, .inl h3⟩] at h; cases h
theorem step_nerr {np nn i : Nat} {r : Int} {x : Word} (hi : np ≤ i) (h : wordE x 0 0 ≠ 0) : ∃ n', stepW np nn i r x = (wordE x 0 0, n') := by
 unfold wordE at h ⊢
 unfold stepW
 by_cases h1 : badW x = true
 ·rw [if_pos h1, if_pos h1]; exact ⟨_, rfl⟩
 ·rw [if_neg h1] at h
  rw [if_neg h1, if_neg h1]
  by_cases h2 : x.t ≠ 0 ∧ x.t ≠ 1
  ·rw [if_pos h2, if_pos h2]; exact ⟨_, rfl⟩
  ·rw [if_neg h2] at h
   rw [if_neg h2, if_neg h2]
   by_cases h4 : x.n ≠ 0 ∧ (x.n ≠ 0 ∨ (0 : Int) < x.n)
   ·rw [if_pos h4, if_neg h4.1, if_pos (.inl hi)]; exact ⟨_, rfl⟩
   ·rw [if_neg h4] at h; exact absurd rfl h
theorem wordE_next {x : Word} {r nn : Int} (h : wordE x (r + 1) nn = 0) (hn : x.n ≠ 0) : r + 1 ≤ nn := by
 unfold wordE at h
 by_cases h1 : badW x = true
 ·rw [if_pos h1] at h; cases h
 ·rw [if_neg h1] at h
  by_cases h2 : x.t ≠ 0 ∧ x.t ≠ 1
  ·rw [if_pos h2] at h; cases h
  ·rw [if_neg h2] at h
   by_cases h4 : x.n ≠ 0 ∧ (x.n ≠ r + 1 ∨ nn < x.n)
   ·rw [if_pos h4] at h; cases h
   ·omega
theorem endP_err {nn : Nat} {e n : Int} (h : e ≠ 0) : endP nn (e, n) = e := by unfold endP; rw [if_pos h]
theorem endP_ok {nn : Nat} {q : Int} : endP nn (0, q) = if q ≠ nn then 3 else 0 := by unfold endP; rw [if_neg (by simp)]
set_option maxRecDepth 100000 in
set_option maxHeartbeats 4000000 in
theorem rcheck_any (A B : Option Addr) (c d : Nat) (a b : List (List Word)) (w : World) (ha : Sl w (fun b => b < w.heap.size) A c a) (hb : Sl w (fun b => b < w.heap.size) B d b) (hla : a.length ≤ 1048576) (hlb : b.length ≤ 1048576) :
  Calls Tryz.prog 87 #[.agg #[.slice A a.length c, .slice B b.length d]] w fun e w' => e = .returned (.int .i64 (chkOf a b)) ∧ Below w.heap.size w w' := by
 have hb0 := ((Below.refl w.heap.size w).alloc (Nat.le_refl _) (.cells #[.slice A a.length c, .slice B b.length d] 50))
 have HA := Lh (ha.to hb0)
 have HBs := Lh (hb.to hb0)
 have Hb0 := Lh hb0
 have HY : Hid (TBox (w.alloc (.cells #[.slice A a.length c, .slice B b.length d] 50)) w.heap.size (.slice A a.length c) (.slice B b.length d)) := Lh ⟨heap_alloc_new w _⟩
 have HZ0 := Lh (chk_sz0 (a := a) (b := b))
 have HZ1 := Lh (chk_sz1 (a := a) (b := b))
 generalize chkOf a b = res at *
 clear ha hb hb0
 go_enter Tryz.func87, Tryz.ntmps87
 go_wp2_with fail
 refine (sizes_any A B c d a b _ HA.out HBs.out).mono ?_
 rintro e w1 ⟨rfl, hb1⟩
 have Hb1 := Lh (Hb0.out.trans (hb1.mono Hb0.out.size))
 have HA1 := Lh (HA.out.to hb1)
 have HB1 := Lh (HBs.out.to hb1)
 have HY1 := Lh (HY.out.below hb1)
 clear hb1 HA HBs HY Hb0
 by_cases hz : szE a b = 0
 ·have HC := Lh (HZ1.out hz)
  rw [hz]
  clear hz HZ0 HZ1
  go_wp2_with fail
  have hylt := HY1.out.lt
  go_loopw [3, 4, 5, 6] (fun _ n i _ wr => ∃ k : Nat, k ≤ a.length ∧ i = .int .i64 k ∧ (∃ q : Nat, q ≤ b.length ∧ n = .int .i64 ((q : Int) + 1) ∧ Hid (scanP a.length b.length 0 0 (a ++ b) = scanP a.length b.length k q ((a ++ b).drop k))) ∧ Below w1.heap.size w1 wr) (fun _ _ i _ _ => a.length - (intOf i).toNat)
  case atStart => exact ⟨0, Nat.zero_le _, rfl, ⟨0, Nat.zero_le _, rfl, rfl⟩, Below.refl _ _⟩
  case round =>
   obtain ⟨k, hk, rfl, ⟨q, hq, rfl, hsc⟩, hb2⟩ := hrel
   have Hb2 := Lh hb2
   have y0 := (HY1.out.below hb2).c0
   have y1 := (HY1.out.below hb2).c1
   clear hb2
   by_cases hlt : k < a.length
   ·obtain ⟨bb, o, Ap, cp, rfl, _, hbl, hc, hp⟩ := part_at (HA1.out.to Hb2.out) hlt
    have hkl : (k : Int) < (a.length : Int) := by omega
    have hk0 : (0 : Int) ≤ (k : Int) := by omega
    have hlab : k < (a ++ b).length := by rw [List.length_append]; omega
    have hab : (a ++ b)[k] = a[k] := List.getElem_append_left hlt
    have HPo := Lh (fun n' h => scanP_ok (np := a.length) (nn := b.length) (notes := (q : Int)) (n' := n') hlab h)
    have HPe := Lh (fun n' e h he => scanP_err (np := a.length) (nn := b.length) (notes := (q : Int)) (n' := n') (e := e) hlab h he)
    rw [hab] at HPo HPe
    have h2 : a[k].length ≤ 9223372036854775807 := by have := hp.1; have := hp.2.1; unfold maxLen at this; omega
    generalize a[k] = p at *
    have Hp := Lh hp
    have HKA := Lh hlt
    clear hp hab hlab
    go_wp2_with fail
    obtain ⟨wo, rfl⟩ : ∃ wo : World, wo = wr := ⟨_, rfl⟩
    go_loopw [3, 4, 6] (fun _ n i wr => ∃ j : Nat, j ≤ p.length ∧ i = .int .i64 j ∧ (∃ r : Nat, r ≤ b.length ∧ n = .int .i64 ((r : Int) + 1) ∧ Hid (scanW a.length b.length k q p = scanW a.length b.length k r (p.drop j))) ∧ Below wo.heap.size wo wr) (fun _ _ i _ => p.length - (intOf i).toNat)
    case atStart => exact ⟨0, Nat.zero_le _, rfl, ⟨q, hq, rfl, rfl⟩, Below.refl _ _⟩
    case round =>
     clear y0 y1
     obtain ⟨j, hj, rfl, ⟨r, hr, rfl, hsw⟩, hb3⟩ := hrel
     have Hb3 := Lh hb3
     have hz3 := hb3.size
     have y0 := ((HY1.out.below Hb2.out).below hb3).c0
     have y1 := ((HY1.out.below Hb2.out).below hb3).c1
     have hyl := ((HY1.out.below Hb2.out).below hb3).lt
     have hc3 := (hb3.cell (p := ⟨bb, o + k, none⟩) hbl).trans hc
     have hbl3 := World.block_lt_of_cell? wr _ hc3
     clear hb3
     by_cases hjl : j < p.length
     ·obtain ⟨b3, o3, rfl, _, hblw, hok, d0, d1, d2, d3⟩ := word_at (Hp.out.to Hb3.out) hjl
      have hj1 : (j : Int) < (p.length : Int) := by omega
      have hj0 : (0 : Int) ≤ (j : Int) := by omega
      have HWo := Lh (fun n' h => scanW_ok (np := a.length) (nn := b.length) (i := k) (notes := (r : Int)) (n' := n') hjl h)
      have HWe := Lh (fun n' e h he => scanW_err (np := a.length) (nn := b.length) (i := k) (notes := (r : Int)) (n' := n') (e := e) hjl h he)
      generalize p[j] = x at *
      have HOK := Lh hok
      have HSB := Lh (fun h => step_body (np := a.length) (nn := b.length) (i := k) (r := (r : Int)) (x := x) HKA.out h)
      have HSE := Lh (fun h => step_berr (np := a.length) (nn := b.length) (i := k) (r := (r : Int)) (x := x) HKA.out h)
      have HNX := Lh (fun h hn => wordE_next (x := x) (r := (r : Int)) (nn := (b.length : Int)) h hn)
      have HV := Lh (fun W => vword_any x ((r : Int) + 1) (b.length : Int) W HOK.out)
      generalize wordE x ((r : Int) + 1) (b.length : Int) = e at *
      clear hok
      go_wp2_with fail
      refine wp_region_calm (by kernel_rfl) (by kernel_rfl) ?_
      intro T hT f hf hg
      have a0 : ∀ d, (f d).cell? ⟨w.heap.size, 0, none⟩ = _ := fun d => ((hf d).cell (p := ⟨w.heap.size, 0, none⟩) hyl).trans y0
      have a1 : ∀ d, (f d).cell? ⟨w.heap.size, 1, none⟩ = _ := fun d => ((hf d).cell (p := ⟨w.heap.size, 1, none⟩) hyl).trans y1
      have a2 : ∀ d, (f d).cell? ⟨bb, o + k, none⟩ = _ := fun d => ((hf d).cell (p := ⟨bb, o + k, none⟩) hbl3).trans hc3
      have e0 : ∀ d, (f d).cell? ⟨b3, o3 + j * 4, none⟩ = _ := fun d => ((hf d).cell (p := ⟨b3, o3 + j * 4, none⟩) hblw).trans d0
      have e1 : ∀ d, (f d).cell? ⟨b3, o3 + j * 4 + 1, none⟩ = _ := fun d => ((hf d).cell (p := ⟨b3, o3 + j * 4 + 1, none⟩) hblw).trans d1
      have e2 : ∀ d, (f d).cell? ⟨b3, o3 + j * 4 + 2, none⟩ = _ := fun d => ((hf d).cell (p := ⟨b3, o3 + j * 4 + 2, none⟩) hblw).trans d2
      have e3 : ∀ d, (f d).cell? ⟨b3, o3 + j * 4 + 3, none⟩ = _ := fun d => ((hf d).cell (p := ⟨b3, o3 + j * 4 + 3, none⟩) hblw).trans d3
      have HF5 := Lh hf
      have HG5 := Lh hg
      clear hf hg
      repeat (go_big_quiet_step (first
       |(go_at_call 108; refine (HV.out _).mono ?_; rintro e w9 ⟨rfl, hb9⟩; exact ⟨rfl, HG5.out _ _ hb9⟩)))
      refine wpQuiet_nil ?_
      rintro _ ⟨nq, rfl⟩
      have Hd := Lh (Hb3.out.trans ((HF5.out nq).mono hz3))
      have f0 := a0 nq
      have f2 := a2 nq
      have f3 := e3 nq
      clear HF5 HG5 a0 a1 a2 e0 e1 e2 e3
      generalize f nq = wd at *
      by_cases he : e = 0
      ·have hst := Lh (HSB.out he)
       subst he
       by_cases hn0 : x.n = 0
       ·have E2 := Lh (show scanW a.length b.length k q p = scanW a.length b.length k (r : Int) (p.drop (j + 1)) by rw [hsw.out]; exact HWo.out _ (by rw [hst.out, if_pos hn0]))
        have hB : (x.n != 0) = false := by rw [hn0]; rfl
        clear hn0
        go_wp2_with fail
        go_roundw
        case rel => exact ⟨j + 1, by omega, by go_num, ⟨r, hr, by go_num, E2.out⟩, Hd.out⟩
        case measure => simp [intOf]; omega
       ·have E2 := Lh (show scanW a.length b.length k q p = scanW a.length b.length k ((r + 1 : Nat) : Int) (p.drop (j + 1)) by rw [hsw.out]; exact HWo.out _ (by rw [hst.out, if_neg hn0]; rfl))
        have hB : (x.n != 0) = true := bne_iff_ne.2 hn0
        have hr1 := HNX.out rfl hn0
        clear hn0
        go_wp2_with fail
        go_roundw
        case rel => exact ⟨j + 1, by omega, by go_num, ⟨r + 1, by omega, by go_num, E2.out⟩, Hd.out⟩
        case measure => simp [intOf]; omega
      ·obtain ⟨n', hst⟩ := HSE.out he
       have E := Lh (show res = e by rw [HC.out, hsc.out, HPe.out n' e (by rw [hsw.out]; exact HWe.out n' e hst he) he, endP_err he])
       have hB : (e != 0) = true := bne_iff_ne.2 he
       have Hbe := Lh (Hb1.out.trans ((Hb2.out.trans (Hd.out.mono Hb2.out.size)).mono Hb1.out.size))
       clear he hst
       go_wp2_with fail
       go_ret
       exact ⟨ret_int E.out.symm, Hbe.out⟩
     ·have hj1 : ¬ (j : Int) < (p.length : Int) := by omega
      have E := Lh (show scanP a.length b.length 0 0 (a ++ b) = scanP a.length b.length (k + 1) (r : Int) ((a ++ b).drop (k + 1)) by
       rw [hsc.out]; exact HPo.out _ (by rw [hsw.out, List.drop_of_length_le (by omega)]; rfl))
      have Hb4 := Lh (Hb2.out.trans (Hb3.out.mono Hb2.out.size))
      go_wp2_with fail
      go_roundw
      case rel => exact ⟨k + 1, by have := HKA.out; omega, by go_num, ⟨r, hr, by go_num, E.out⟩, Hb4.out⟩
      case measure => simp [intOf]; omega
   ·have hkl : ¬ (k : Int) < (a.length : Int) := by omega
    obtain rfl : k = a.length := by omega
    go_wp2_with fail
    obtain ⟨w2, rfl⟩ : ∃ w2 : World, w2 = wr := ⟨_, rfl⟩
    go_loopw [3, 7, 8] (fun _ i _ wr => ∃ k : Nat, k ≤ b.length ∧ i = .int .i64 k ∧ Hid (scanP a.length b.length 0 0 (a ++ b) = scanP a.length b.length (a.length + k) q ((a ++ b).drop (a.length + k))) ∧ Below w2.heap.size w2 wr) (fun _ i _ _ => b.length - (intOf i).toNat)
    case atStart => exact ⟨0, Nat.zero_le _, rfl, hsc, Below.refl _ _⟩
    case round =>
     clear hsc hkl hlt hk y0 y1
     obtain ⟨k, hk, rfl, hsc, hb2'⟩ := hrel
     have Hb2' := Lh (Hb2.out.trans (hb2'.mono Hb2.out.size))
     have Hbr := Lh hb2'
     have y0 := (HY1.out.below Hb2'.out).c0
     have y1 := (HY1.out.below Hb2'.out).c1
     clear hb2'
     by_cases hlt : k < b.length
     ·obtain ⟨bb, o, Ap, cp, rfl, _, hbl, hc, hp⟩ := part_at (HB1.out.to Hb2'.out) hlt
      have hkl : (k : Int) < (b.length : Int) := by omega
      have hk0 : (0 : Int) ≤ (k : Int) := by omega
      have hlab : a.length + k < (a ++ b).length := by rw [List.length_append]; omega
      have hab : (a ++ b)[a.length + k] = b[k] := by rw [List.getElem_append_right (by omega)]; congr 1; omega
      have HPo := Lh (fun n' h => scanP_ok (np := a.length) (nn := b.length) (notes := (q : Int)) (n' := n') hlab h)
      have HPe := Lh (fun n' e h he => scanP_err (np := a.length) (nn := b.length) (notes := (q : Int)) (n' := n') (e := e) hlab h he)
      rw [hab] at HPo HPe
      have h2 : b[k].length ≤ 9223372036854775807 := by have := hp.1; have := hp.2.1; unfold maxLen at this; omega
      generalize b[k] = p at *
      have Hp := Lh hp
      clear hp hab hlab
      go_wp2_with fail
      obtain ⟨wo, rfl⟩ : ∃ wo : World, wo = wr := ⟨_, rfl⟩
      go_loopw [3, 8] (fun _ i wr => ∃ j : Nat, j ≤ p.length ∧ i = .int .i64 j ∧ Hid (scanW a.length b.length (a.length + k) q p = scanW a.length b.length (a.length + k) q (p.drop j)) ∧ Below wo.heap.size wo wr) (fun _ i _ => p.length - (intOf i).toNat)
      case atStart => exact ⟨0, Nat.zero_le _, rfl, rfl, Below.refl _ _⟩
      case round =>
       clear y0 y1
       obtain ⟨j, hj, rfl, hsw, hb3⟩ := hrel
       have Hb3 := Lh hb3
       have hz3 := hb3.size
       have y0 := ((HY1.out.below Hb2'.out).below hb3).c0
       have y1 := ((HY1.out.below Hb2'.out).below hb3).c1
       have hc3 := (hb3.cell (p := ⟨bb, o + k, none⟩) hbl).trans hc
       clear hb3
       by_cases hjl : j < p.length
       ·obtain ⟨b3, o3, rfl, _, hblw, hok, d0, d1, d2, d3⟩ := word_at (Hp.out.to Hb3.out) hjl
        have hj1 : (j : Int) < (p.length : Int) := by omega
        have hj0 : (0 : Int) ≤ (j : Int) := by omega
        have HWo := Lh (fun n' h => scanW_ok (np := a.length) (nn := b.length) (i := a.length + k) (notes := (q : Int)) (n' := n') hjl h)
        have HWe := Lh (fun n' e h he => scanW_err (np := a.length) (nn := b.length) (i := a.length + k) (notes := (q : Int)) (n' := n') (e := e) hjl h he)
        generalize p[j] = x at *
        have HOK := Lh hok
        have HSB := Lh (fun h => step_note0 (np := a.length) (nn := b.length) (i := a.length + k) (r := (q : Int)) (x := x) (Nat.le_add_right _ _) h)
        have HSE := Lh (fun h => step_nerr (np := a.length) (nn := b.length) (i := a.length + k) (r := (q : Int)) (x := x) (Nat.le_add_right _ _) h)
        have HV := Lh (fun W => vword_any x 0 0 W HOK.out)
        generalize wordE x 0 0 = e at *
        clear hok
        go_wp2_with fail
        refine (HV.out _).mono ?_
        rintro e9 w9 ⟨rfl, hb9⟩
        have Hd := Lh (Hb3.out.trans (hb9.mono hz3))
        clear hb9
        by_cases he : e = 0
        ·have hst := Lh (HSB.out he)
         subst he
         have E2 := Lh (show scanW a.length b.length (a.length + k) q p = scanW a.length b.length (a.length + k) (q : Int) (p.drop (j + 1)) by rw [hsw.out]; exact HWo.out _ hst.out)
         go_wp2_with fail
         go_roundw
         case rel => exact ⟨j + 1, by omega, by go_num, E2.out, Hd.out⟩
         case measure => simp [intOf]; omega
        ·obtain ⟨n', hst⟩ := HSE.out he
         have E := Lh (show res = e by rw [HC.out, hsc.out, HPe.out n' e (by rw [hsw.out]; exact HWe.out n' e hst he) he, endP_err he])
         have hB : (e != 0) = true := bne_iff_ne.2 he
         have Hbe := Lh (Hb1.out.trans ((Hb2'.out.trans (Hd.out.mono Hb2'.out.size)).mono Hb1.out.size))
         clear he hst
         go_wp2_with fail
         go_ret
         exact ⟨ret_int E.out.symm, Hbe.out⟩
       ·have hj1 : ¬ (j : Int) < (p.length : Int) := by omega
        have E := Lh (show scanP a.length b.length 0 0 (a ++ b) = scanP a.length b.length (a.length + (k + 1)) (q : Int) ((a ++ b).drop (a.length + (k + 1))) by
         rw [hsc.out]; exact HPo.out _ (by rw [hsw.out, List.drop_of_length_le (by omega)]; rfl))
        have Hb4 := Lh (Hbr.out.trans (Hb3.out.mono Hbr.out.size))
        go_wp2_with fail
        go_roundw
        case rel => exact ⟨k + 1, by omega, by go_num, E.out, Hb4.out⟩
        case measure => simp [intOf]; omega
     ·have hkl : ¬ (k : Int) < (b.length : Int) := by omega
      have E := Lh (show res = if (q : Int) ≠ b.length then 3 else 0 by
       rw [HC.out, hsc.out, List.drop_of_length_le (by rw [List.length_append]; omega), scanP, endP_ok])
      have Hbe := Lh (Hb1.out.trans (Hb2'.out.mono Hb1.out.size))
      by_cases hqb : q = b.length
      ·have E2 := Lh (show res = 0 by rw [E.out, if_neg (by simp [hqb])])
       subst hqb
       go_wp2_with fail
       go_ret
       exact ⟨ret_int E2.out.symm, Hbe.out⟩
      ·have E2 := Lh (show res = 3 by rw [E.out, if_pos (by omega)])
       have hB : ((q : Int) + 1 != (b.length : Int) + 1) = true := bne_iff_ne.2 (by omega)
       clear hqb
       go_wp2_with fail
       go_ret
       exact ⟨ret_int E2.out.symm, Hbe.out⟩
 ·have E := Lh (HZ0.out hz)
  have hB : (szE a b != 0) = true := bne_iff_ne.2 hz
  clear hz HZ0 HZ1
  generalize szE a b = e at *
  go_wp2_with fail
  go_ret
  exact ⟨ret_int E.out.symm, Hb1.out⟩
end Go.Proofs.YtakaielemicpkaaGreatDoor
namespace Go.Proofs.YtakaielemicpkaaGreatDoor
open Go.RowKit
set_option maxRecDepth 100000 in
set_option maxHeartbeats 16000000 in
theorem rLines_any (A B : Option Addr) (c d : Nat) (a b : List (List Word)) (m : Int) (w : World) (ha : Sl w (fun b => b < w.heap.size) A c a) (hb : Sl w (fun b => b < w.heap.size) B d b) (hla : a.length ≤ 1048576) (hlb : b.length ≤ 1048576) :
  Calls Tryz.prog 62 #[.agg #[.slice A a.length c, .slice B b.length d], .int .i64 m] w fun e w' => ∃ v u, e = .returned (.tuple #[v, u, .int .i64 (linesE a b m)]) ∧
   (linesE a b m = 0 → Own w' w.heap.size 88 v ((bodyP a m).map (Bd.mk : LineP → Bd LineP w.heap.size)) ∧ Own w' w.heap.size 34 u ((notesLP a b m).map (Bd.mk : List LineP → Bd (List LineP) w.heap.size))) ∧ (linesE a b m ≠ 0 → v = .slice none 0 0 ∧ u = .slice none 0 0) ∧ Below w.heap.size w w' := by
 have HX : Hid (ABox (w.alloc (.cells #[.slice A a.length c, .slice B b.length d] 50)) w.heap.size 50 [.slice A a.length c, .slice B b.length d]) := Lh (heap_alloc_new w _)
 have hba : Below w.heap.size w (w.alloc (.cells #[.slice A a.length c, .slice B b.length d] 50)) := (Below.refl _ _).alloc (Nat.le_refl _) _
 have HB0 := Lh hba
 have HSA := Lh (ha.to hba)
 have HSB := Lh (hb.to hba)
 have HSZ : Hid ((w.alloc (.cells #[.slice A a.length c, .slice B b.length d] 50)).heap.size = w.heap.size + 1) := Lh (by simp)
 clear ha hb hba
 go_enter Tryz.func62, Tryz.ntmps62
 go_upto_region 1 with (fail)
 generalize hw1 : World.alloc w _ = w1
 have hw2 : (w.alloc (.cells #[.slice A a.length c, .slice B b.length d] 50)) = w1 := hw1
 rw [hw2] at HX HB0 HSA HSB HSZ
 clear hw1 hw2
 have HC := Lh (rcheck_any A B c d a b w1 HSA.out HSB.out hla hlb)
 have q0 := HX.out.cell 0 rfl
 have q1 := HX.out.cell 1 rfl
 obtain ⟨ck, hck⟩ : ∃ ck, chkOf a b = ck := ⟨_, rfl⟩
 rw [hck] at HC
 have HCK := Lh hck
 clear hck
 go_upto_region 2 with (first
  |(go_at_call 87; refine HC.out.mono ?_; rintro e w2 ⟨rfl, hb2⟩)
  | fail)
 have HX2 := Lh (HX.out.to hb2)
 have HB2 := Lh (HB0.out.trans (hb2.mono HB0.out.size))
 have HSA2 := Lh (HSA.out.to hb2)
 have HSB2 := Lh (HSB.out.to hb2)
 have HZ2 : Hid (w.heap.size + 1 ≤ w2.heap.size) := Lh (by have := HSZ.out; have := hb2.size; omega)
 clear HC q0 q1 hb2 HX HB0 HSA HSB HSZ
 clear w1
 by_cases h0 : ck = 0
 ·subst h0
  by_cases hm : 500 ≤ m ∧ m ≤ 2000
  ·obtain ⟨hm1, hm2⟩ := hm
   have HLE : Hid (linesE a b m = 0) := Lh (by unfold linesE; rw [HCK.out, if_neg (by simp), if_pos ⟨hm1, hm2⟩])
   have HFT := Lh (chk_zero HCK.out)
   have hla1 : a.length ≤ 100 := HFT.out.la
   have hlb1 : b.length ≤ 100 := HFT.out.lb
   have q0 := HX2.out.cell 0 rfl
   have htb := HFT.out.tot
   rw [tot_append] at htb
   have HTB := Lh htb
   have HRG : Hid (∀ p ∈ a ++ b, Reg (widthsP p) m) := Lh (fun p hp => HFT.out.reg hm1 hm2 hp)
   clear htb
   go_wp2_with fail
   go_loopw [8, 9, 10] (fun vb vf vi wr => ∃ k : Nat, k ≤ a.length ∧ vi = .int .i64 (k : Int) ∧ vf = .int .i64 ((tot (a.take k) : Nat) : Int) ∧ Hid (Own wr w2.heap.size 88 vb ((partsP m 0 (a.take k)).flatten.map (Bd.mk : LineP → Bd LineP w.heap.size))) ∧ Hid (Below w2.heap.size w2 wr)) (fun _ _ vi _ => a.length - (intOf vi).toNat)
   case atStart => exact ⟨0, Nat.zero_le _, rfl, by simp [tot], Lh (Own.nil _ _ _), Lh (Below.refl _ _)⟩
   case round =>
    obtain ⟨k, hk, rfl, rfl, HO, HBw⟩ := hrel
    obtain ⟨A8, c8, rfl, -⟩ := HO.out.form
    have HSAw := Lh (HSA2.out.to HBw.out)
    have HWL : Hid (w.heap.size ≤ wr.heap.size) := Lh (by have := HZ2.out; have := HBw.out.size; omega)
    have HBW : Hid (Below w.heap.size w wr) := Lh (HB2.out.trans (HBw.out.mono (by have := HZ2.out; omega)))
    by_cases hlt : k < a.length
    ·have hki : (k : Int) < (a.length : Int) := by omega
     have hk0 : (0 : Int) ≤ (k : Int) := by omega
     obtain ⟨b1, o1, A1, c1, hA1, -, hbl, ce2, hsp2⟩ := part_at HSA2.out hlt
     subst hA1
     have HCE : Hid (∀ W, Below w2.heap.size w2 W → W.cell? ⟨b1, o1 + k, none⟩ = some (.slice A1 a[k].length c1)) := Lh (fun W hW => (hW.cell (p := ⟨b1, o1 + k, none⟩) hbl).trans ce2)
     have ce := HCE.out _ HBw.out
     have hsp := hsp2.to HBw.out
     have q0 := (HX2.out.to HBw.out).cell 0 rfl
     clear ce2 hsp2 hbl
     have hmem : a[k] ∈ a ++ b := List.mem_append_left _ (List.getElem_mem hlt)
     have HRP := Lh (HRG.out _ hmem)
     have HWP := Lh (HFT.out.w _ hmem)
     have htk := tot_take a k hlt
     have htl := tot_le a (k + 1)
     have HST := Lh (partsP_step m a k hlt)
     have hpf := parts_flat m (a.take k) 0 (fun p hp => HRG.out p (List.mem_append_left _ (List.mem_of_mem_take hp)))
     have hset := setP_length (first := ((tot (a.take k) : Nat) : Int)) HRP.out
     obtain ⟨p, hp⟩ : ∃ p, a[k] = p := ⟨_, rfl⟩
     rw [hp] at ce hsp HRP HWP htk HST hset HCE
     have hpl : p.length ≤ 500 := by rw [← hp]; exact (HFT.out.p _ hmem).2
     obtain ⟨t, ht⟩ : ∃ t, tot (a.take k) = t := ⟨_, rfl⟩
     rw [ht] at htk HST hpf hset ⊢
     have ht9 : t ≤ 100000 := by have := HTB.out; omega
     have HSET := Lh (rlines_any A1 c1 p (t : Int) m wr hsp HRP.out (by omega) (by omega) (fun x hx => by have := HWP.out x hx; omega))
     have HTK := Lh htk
     have HPF := Lh hpf
     have HSL := Lh hset
     obtain ⟨pl, hpl'⟩ : ∃ pl, setP p (t : Int) m = pl := ⟨_, rfl⟩
     rw [hpl'] at HSET HST HSL
     obtain ⟨fl, hfl⟩ : ∃ fl, (partsP m 0 (a.take k)).flatten = fl := ⟨_, rfl⟩
     have HST2 : Hid ((partsP m 0 (a.take (k + 1))).flatten = fl ++ pl) := Lh (by rw [HST.out, List.flatten_append, hfl]; simp)
     rw [hfl] at HO HPF ⊢
     rw [List.length_map] at HO
     have HLK := Lh HO.out.lt
     have HFL : Hid (fl.length ≤ 100000) := Lh (Nat.le_trans HPF.out (by omega))
     have HPL : Hid (pl.length ≤ 500) := Lh (Nat.le_trans HSL.out hpl)
     clear hsp hmem hp htk htl hpf hset ht hpl' hfl HST HRP HWP HSAw
     go_upto_region 12 with (first
      |(go_at_call 88; refine HSET.out.mono ?_; rintro e w3 ⟨v3, rfl, ho3, hb3⟩; obtain ⟨A3, c3, hv3, hs3⟩ := own_bd_sl ho3 (Nat.le_refl _); subst hv3; have HS3 := Lh (sl_bdS (B := w.heap.size) hs3 (fun i hi => Nat.le_trans HWL.out hi.2)); have HO3 := Lh (HO.out.below hb3); have HB3 := Lh (HBw.out.trans (hb3.mono HBw.out.size)); clear ho3 hb3 hs3 q0 ce)
      |(at_builtin; refine wpList_cat (α := Bd LineP w.heap.size) _ rfl (.tmp 31) (.tmp 39) 34 rfl w2.heap.size 88 (.agg #[.int .i64 0, .int .i64 0, .slice none 0 0, .slice none 0 0]) 64 Tryz.underlying34 (line_infoB _) rfl (show 0 < 4 by omega) (.slice A8 fl.length c8) (fl.map (Bd.mk : LineP → Bd LineP w.heap.size)) rfl HO3.out A3 c3 pl.length (pl.map (Bd.mk : LineP → Bd LineP w.heap.size)) rfl (by rw [List.length_map]) (fun b => b < w3.heap.size ∧ wr.heap.size ≤ b) HS3.out (fun i hi _ e => by have := (HLK.out i e.symm).2; omega) (by have := HFL.out; have := HPL.out; rw [List.length_map]; omega) (by have := HFL.out; have := HPL.out; rw [List.length_map]; omega) HB3.out.size ?_; intro v4 w4 hown4 hg4 hat4; have HB4 := Lh (below_cat HB3.out HO3.out HB3.out.size hg4); have HO4 := Lh hown4; clear hown4 hg4 hat4)
      | fail)
     rw [← List.map_append] at HO4
     have q0 := (HX2.out.to HB4.out).cell 0 rfl
     have ce := HCE.out _ HB4.out
     have hw13 : IntKind.i64.wrap ((t : Int) + (p.length : Int)) = ((tot (a.take (k + 1)) : Nat) : Int) := by rw [IntWalk.i64_in _ (by omega), HTK.out]; omega
     go_wp2_with fail
     go_roundw
     case rel => exact ⟨k + 1, by omega, by go_num, rfl, Lh (by rw [HST2.out]; exact HO4.out), HB4⟩
     case measure => (first | (simp [intOf]; done) | (simp [intOf]; omega))
    ·obtain rfl : k = a.length := by omega
     have q0 := (HX2.out.to HBw.out).cell 0 rfl
     have HBO : Hid (Own wr w2.heap.size 88 (.slice A8 ((partsP m 0 (a.take a.length)).flatten.map (Bd.mk : LineP → Bd LineP w.heap.size)).length c8) ((bodyP a m).map (Bd.mk : LineP → Bd LineP w.heap.size))) := Lh (by have h := HO.out; rw [List.take_length] at h ⊢; exact h)
     have hta : tot (a.take a.length) = tot a := by rw [List.take_length]
     generalize ((partsP m 0 (a.take a.length)).flatten.map (Bd.mk : LineP → Bd LineP w.heap.size)).length = bl at *
     rw [hta]
     clear HO hta HSAw
     have hbw2 := HBw.out
     obtain ⟨wo, rfl⟩ : ∃ wo : World, wo = wr := ⟨_, rfl⟩
     have HXo := Lh (HX2.out.to HBw.out)
     have HSBo : Hid (Sl wo (fun b => b < wo.heap.size) B d b) := Lh (HSB2.out.to HBw.out)
     clear hbw2
     go_wp2_with fail
     go_loopw [11, 9, 12] (fun vn vf vi wr => ∃ k : Nat, k ≤ b.length ∧ vi = .int .i64 (k : Int) ∧ vf = .int .i64 (((tot a : Nat) : Int) + ((tot (b.take k) : Nat) : Int)) ∧ Hid (Own wr wo.heap.size 34 vn ((partsP m ((tot a : Nat) : Int) (b.take k)).map (Bd.mk : List LineP → Bd (List LineP) w.heap.size))) ∧ Hid (Below wo.heap.size wo wr)) (fun _ _ vi _ => b.length - (intOf vi).toNat)
     case atStart => exact ⟨0, Nat.zero_le _, rfl, by simp [tot], Lh (Own.nil _ _ _), Lh (Below.refl _ _)⟩
     case round =>
      obtain ⟨k, hk, rfl, rfl, HO, HBv⟩ := hrel
      obtain ⟨A9, c9, rfl, -⟩ := HO.out.form
      have HWL : Hid (w.heap.size ≤ wr.heap.size) := Lh (by have := HBW.out.size; have := HBv.out.size; omega)
      by_cases hlt : k < b.length
      ·have hki : (k : Int) < (b.length : Int) := by omega
       have hk0 : (0 : Int) ≤ (k : Int) := by omega
       obtain ⟨b1, o1, A1, c1, hA1, -, hbl, ce2, hsp2⟩ := part_at HSBo.out hlt
       subst hA1
       have HCE : Hid (∀ W, Below wo.heap.size wo W → W.cell? ⟨b1, o1 + k, none⟩ = some (.slice A1 b[k].length c1)) := Lh (fun W hW => (hW.cell (p := ⟨b1, o1 + k, none⟩) hbl).trans ce2)
       have ce := HCE.out _ HBv.out
       have hsp := hsp2.to HBv.out
       have q1 := (HXo.out.to HBv.out).cell 1 rfl
       clear ce2 hsp2 hbl
       have hmem : b[k] ∈ a ++ b := List.mem_append_right _ (List.getElem_mem hlt)
       have HRP := Lh (HRG.out _ hmem)
       have HWP := Lh (HFT.out.w _ hmem)
       have htk := tot_take b k hlt
       have htl := tot_le b (k + 1)
       have HST := Lh (partsP_stepF m b k hlt ((tot a : Nat) : Int))
       have hset := setP_length (first := ((tot a : Nat) : Int) + ((tot (b.take k) : Nat) : Int)) HRP.out
       have HNL := Lh (partsP_length m (b.take k) ((tot a : Nat) : Int))
       obtain ⟨p, hp⟩ : ∃ p, b[k] = p := ⟨_, rfl⟩
       rw [hp] at ce hsp HRP HWP htk HST hset HCE
       have hpl : p.length ≤ 500 := by rw [← hp]; exact (HFT.out.p _ hmem).2
       obtain ⟨t, ht⟩ : ∃ t : Nat, ((tot a : Nat) : Int) + ((tot (b.take k) : Nat) : Int) = (t : Int) := ⟨tot a + tot (b.take k), by omega⟩
       rw [ht] at HST hset ⊢
       have ht9 : t ≤ 100000 := by have := HTB.out; omega
       have HSET := Lh (rlines_any A1 c1 p (t : Int) m wr hsp HRP.out (by omega) (by omega) (fun x hx => by have := HWP.out x hx; omega))
       have HSL := Lh hset
       have HPB : Hid ((t : Int) + (p.length : Int) = ((tot a : Nat) : Int) + ((tot (b.take (k + 1)) : Nat) : Int)) := Lh (by omega)
       obtain ⟨pl, hpl'⟩ : ∃ pl, setP p (t : Int) m = pl := ⟨_, rfl⟩
       rw [hpl'] at HSET HST HSL
       have HPL : Hid (pl.length ≤ 500) := Lh (Nat.le_trans HSL.out hpl)
       obtain ⟨fl, hfl⟩ : ∃ fl, partsP m ((tot a : Nat) : Int) (b.take k) = fl := ⟨_, rfl⟩
       rw [hfl] at HO HNL HST ⊢
       rw [List.length_map] at HO
       have HFL : Hid (fl.length ≤ 100) := Lh (by have := HNL.out; rw [List.length_take] at this; omega)
       have HLK := Lh HO.out.lt
       clear hsp hmem hp htk htl hset hpl' hfl HRP HWP ht
       go_upto_region 18 with (first
        |(go_at_call 88; refine HSET.out.mono ?_; rintro e w3 ⟨v3, rfl, ho3, hb3⟩; obtain ⟨A3, c3, hv3, hs3⟩ := own_bd_sl ho3 (Nat.le_refl _); subst hv3; have hbb := (Below.refl w3.heap.size w3).alloc (Nat.le_refl _) (.cells #[.slice A3 pl.length c3] 34); have HS3 := Lh (hs3.keep (Kept.all hbb) hbb.size); have HO3 := Lh ((HO.out.below hb3).below hbb); have HB3 := Lh (HBv.out.trans ((hb3.trans (hbb.mono hb3.size)).mono HBv.out.size)); have HZ3 := Lh hb3.size; clear ho3 hb3 hs3 hbb q1 ce)
        |(at_builtin; refine wpList_push (α := Bd (List LineP) w.heap.size) _ rfl (.tmp 56) (.tmp 65) 106 rfl wo.heap.size 34 (.slice none 0 0) 24 Tryz.underlying106 (lns_info _) rfl (show 0 < 1 by omega) (.slice A9 fl.length c9) (fl.map (Bd.mk : List LineP → Bd (List LineP) w.heap.size)) rfl HO3.out w3.heap.size #[.slice A3 pl.length c3] ⟨pl⟩ (0, 0) 34 rfl (heap_alloc_new w3 _) ⟨A3, c3, rfl, HS3.out.mono (fun i hi hl => ⟨fun e => by have := (HLK.out i e.symm).2; have := HZ3.out; omega, by have := HWL.out; omega⟩), by have := HPL.out; show pl.length < _; omega⟩ (by have := HFL.out; rw [List.length_map]; omega) (by have := HFL.out; rw [List.length_map]; omega) HB3.out.size _ rfl ?_; intro g5 p5 w5 hown5 hg5 hat5 hlt5; have HB4 := Lh (below_cat HB3.out HO3.out HB3.out.size hg5); have HO4 := Lh hown5; clear hown5 hg5 hat5 hlt5)
        | fail)
       have hw19 : IntKind.i64.wrap ((t : Int) + (p.length : Int)) = ((tot a : Nat) : Int) + ((tot (b.take (k + 1)) : Nat) : Int) := by rw [IntWalk.i64_in _ (by omega), HPB.out]
       rw [List.length_map] at HO4
       have q1 := (HXo.out.to HB4.out).cell 1 rfl
       have ce := HCE.out _ HB4.out
       go_wp2_with fail
       go_roundw
       case rel => exact ⟨k + 1, by omega, by go_num, rfl, Lh (by rw [HST.out, List.map_append]; exact HO4.out), HB4⟩
       case measure => (first | (simp [intOf]; done) | (simp [intOf]; omega))
      ·obtain rfl : k = b.length := by omega
       have q1 := (HXo.out.to HBv.out).cell 1 rfl
       have HNO : Hid (Own wr wo.heap.size 34 (.slice A9 ((partsP m ((tot a : Nat) : Int) (b.take b.length)).map (Bd.mk : List LineP → Bd (List LineP) w.heap.size)).length c9) ((notesLP a b m).map (Bd.mk : List LineP → Bd (List LineP) w.heap.size))) := Lh (by have h := HO.out; rw [List.take_length] at h ⊢; exact h)
       have HBO2 := Lh (HBO.out.below HBv.out)
       have HBF := Lh (HBW.out.trans (HBv.out.mono HBW.out.size))
       have HW2 : Hid (w.heap.size ≤ w2.heap.size) := Lh (by have := HZ2.out; omega)
       have HW3 := Lh HBW.out.size
       generalize ((partsP m ((tot a : Nat) : Int) (b.take b.length)).map (Bd.mk : List LineP → Bd (List LineP) w.heap.size)).length = nl at *
       clear HO
       go_wp2_with fail
       go_ret3
       exact ⟨_, _, by rw [HLE.out]; rfl, fun _ => ⟨HBO2.out.re HW2.out, HNO.out.re HW3.out⟩, fun h => absurd HLE.out h, HBF.out⟩
  ·have HLE : Hid (linesE a b m = 5) := Lh (by unfold linesE; rw [HCK.out, if_neg (by simp), if_neg hm])
   by_cases h5 : m < 500
   ·go_wp2_with fail
    go_ret3
    exact ⟨.slice none 0 0, .slice none 0 0, by rw [HLE.out]; rfl, by rw [HLE.out]; exact fun h => absurd h (by decide), fun _ => ⟨rfl, rfl⟩, HB2.out⟩
   ·have h6 : 2000 < m := by omega
    go_wp2_with fail
    go_ret3
    exact ⟨.slice none 0 0, .slice none 0 0, by rw [HLE.out]; rfl, by rw [HLE.out]; exact fun h => absurd h (by decide), fun _ => ⟨rfl, rfl⟩, HB2.out⟩
 ·have HLE : Hid (linesE a b m = ck) := Lh (by unfold linesE; rw [HCK.out, if_pos h0])
  have h00 : (ck == 0) = false := by rw [beq_eq_false_iff_ne]; exact h0
  go_wp2_with fail
  go_ret3
  exact ⟨.slice none 0 0, .slice none 0 0, by rw [HLE.out]; rfl, by rw [HLE.out]; exact fun h => absurd h h0, fun _ => ⟨rfl, rfl⟩, HB2.out⟩
end Go.Proofs.YtakaielemicpkaaGreatDoor
namespace Go.Proofs.YtakaielemicpkaaGreatDoor
open Go.RowKit
def usedN (nb nn : Nat) : Nat := nb + nn + min nn 1
set_option maxHeartbeats 1000000 in
theorem rused_any (A B : Option Addr) (c d nb nn : Nat) (w : World) (h1 : nb ≤ 1048576) (h2 : nn ≤ 1048576) :
  Calls Tryz.prog 92 #[.agg #[.int .i64 0, .int .i64 0, .int .i64 0, .int .i64 0, .slice A nb c, .slice B nn d]] w fun e w' => e = .returned (.int .i64 (usedN nb nn : Nat)) ∧ Below w.heap.size w w' := by
 obtain ⟨wb, hwb⟩ : ∃ wb, w.alloc (.cells #[.int .i64 0, .int .i64 0, .int .i64 0, .int .i64 0, .slice A nb c, .slice B nn d] 36) = wb := ⟨_, rfl⟩
 have hba : Below w.heap.size w wb := by rw [← hwb]; exact (Below.refl _ _).alloc (Nat.le_refl _) _
 have hx0 : ABox wb w.heap.size 36 [.int .i64 0, .int .i64 0, .int .i64 0, .int .i64 0, .slice A nb c, .slice B nn d] := by rw [← hwb]; exact heap_alloc_new w _
 have x4 := hx0.cell 4 rfl
 have x5 := hx0.cell 5 rfl
 have HB := Lh hba
 clear hba hx0
 go_enter Tryz.func92, Tryz.ntmps92
 go_upto_region 1 with (fail)
 try rw [hwb]
 clear hwb
 go_wp2_with fail
 go_ret
 exact ⟨congrArg (fun z => Ending.returned (.int .i64 z)) (show ((nb : Int) + (nn : Int) + min (nn : Int) 1) = ((usedN nb nn : Nat) : Int) by unfold usedN; omega), HB.out⟩
def fitsR (h nb nn q : Nat) (x : LineP) : Bool := fitsP h nb nn (nn + q) x
set_option maxRecDepth 100000 in
set_option maxHeartbeats 2000000 in
theorem rfits_any (A B Ag An : Option Addr) (c d cg cn nb nn q h : Nat) (x : LineP) (w : World) (h1 : nb ≤ 1048576) (h2 : nn ≤ 1048576) (h3 : q ≤ 1048576) (h4 : h ≤ 100) (hxn : x.notes.length ≤ 9223372036854775807) :
  Calls Tryz.prog 91 #[.agg #[.int .i64 0, .int .i64 0, .int .i64 0, .int .i64 0, .slice A nb c, .slice B nn d], .agg #[.int .i64 x.fr, .int .i64 x.un, .slice Ag x.gaps.length cg, .slice An x.notes.length cn], .int .i64 (q : Int), .int .i64 (h : Int)] w
   fun e w' => e = .returned (.bool (fitsR h nb nn q x)) ∧ Below w.heap.size w w' := by
 obtain ⟨wb, hwb⟩ : ∃ wb, (w.alloc (.cells #[.int .i64 0, .int .i64 0, .int .i64 0, .int .i64 0, .slice A nb c, .slice B nn d] 36)).alloc (.cells #[.int .i64 x.fr, .int .i64 x.un, .slice Ag x.gaps.length cg, .slice An x.notes.length cn] 88) = wb := ⟨_, rfl⟩
 have hba : Below w.heap.size w wb := by rw [← hwb]; exact ((Below.refl _ _).alloc (Nat.le_refl _) _).alloc (by simp) _
 have hx0 : ABox wb w.heap.size 36 [.int .i64 0, .int .i64 0, .int .i64 0, .int .i64 0, .slice A nb c, .slice B nn d] := by rw [← hwb]; exact (Below.heap_alloc _ _ _ (by simp)).trans (heap_alloc_new w _)
 have hx1 : ABox wb (w.heap.size + 1) 88 [.int .i64 x.fr, .int .i64 x.un, .slice Ag x.gaps.length cg, .slice An x.notes.length cn] := by rw [← hwb]; exact heap_at (by simp)
 have HU := Lh (rused_any A B c d nb nn wb h1 h2)
 have y3 := hx1.cell 3 rfl
 have HB := Lh hba
 have HX0 := Lh hx0
 have x0 := hx0.cell 0 rfl
 have x1 := hx0.cell 1 rfl
 have x2 := hx0.cell 2 rfl
 have x3 := hx0.cell 3 rfl
 have x4 := hx0.cell 4 rfl
 have x5 := hx0.cell 5 rfl
 clear hba hx0 hx1
 go_enter Tryz.func91, Tryz.ntmps91
 go_upto_region 1 with (fail)
 try rw [hwb]
 clear hwb
 by_cases hn : x.notes = []
 ·have hnl : (x.notes.length : Int) = 0 := by rw [hn]; rfl
  have HR : Hid (fitsR h nb nn q x = decide ((usedN nb nn : Int) ≤ (h : Int) - 1)) := Lh (by
   unfold fitsR fitsP roomP usedN
   rw [if_pos hn]
   rw [Bool.eq_iff_iff, decide_eq_true_iff, decide_eq_true_iff]
   omega)
  have hu : usedN nb nn ≤ 2097153 := by unfold usedN; omega
  clear hn
  go_wp2_with (first | (go_at_call 92; refine HU.out.mono ?_; rintro e w' ⟨rfl, hb2⟩; have HB2 := Lh (HB.out.trans (hb2.mono HB.out.size)); clear hb2) | fail)
  go_ret
  exact ⟨ret_bool HR.out.symm, HB2.out⟩
 ·have hnl : ¬ (x.notes.length : Int) = 0 := by have := List.length_pos_iff.2 hn; omega
  have HR : Hid (fitsR h nb nn q x = (decide (q = 0) && decide ((usedN nb nn : Int) + 1 + (1 - ((min nn 1 : Nat) : Int)) + 1 ≤ (h : Int)))) := Lh (by
   unfold fitsR fitsP roomP usedN
   rw [if_neg hn]
   rw [Bool.eq_iff_iff, Bool.and_eq_true, Bool.and_eq_true, decide_eq_true_iff, decide_eq_true_iff, decide_eq_true_iff, decide_eq_true_iff]
   omega)
  have hu : usedN nb nn ≤ 2097153 := by unfold usedN; omega
  clear hn
  by_cases hq : q = 0
  ·subst hq
   go_wp2_with (first | (go_at_call 92; refine HU.out.mono ?_; rintro e w' ⟨rfl, hb2⟩; have HB2 := Lh (HB.out.trans (hb2.mono HB.out.size)); clear hb2) | fail)
   go_ret
   exact ⟨ret_bool (show decide ((usedN nb nn : Int) + 1 + (1 - min (nn : Int) 1) + 1 ≤ (h : Int)) = fitsR h nb nn 0 x by rw [HR.out, show ((min nn 1 : Nat) : Int) = min (nn : Int) 1 by omega]; simp), HB2.out⟩
  ·have hq2 : ¬ (q : Int) = 0 := by omega
   have HR2 : Hid (fitsR h nb nn q x = false) := Lh (by rw [HR.out, decide_eq_false hq]; rfl)
   go_wp2_with fail
   go_ret
   exact ⟨ret_bool HR2.out.symm, HB.out⟩
theorem rints_any (A : Option Addr) (c n : Nat) (l : List Int) (w : World) (hs : Sl w (fun b => b < w.heap.size) A c l) (hn : l.length = n) (hm : n ≤ 1048576) :
  Calls Tryz.prog 112 #[.slice A n c, .int .i64 (n : Int)] w fun e w' => ∃ v, e = .returned v ∧ Own w' w.heap.size 3 v l ∧ Below w.heap.size w w' := by
 have HS := Lh hs
 have HN := Lh hn
 have hnc : n ≤ c := by rw [← hn]; exact hs.1
 clear hs hn
 go_enter Tryz.func112, Tryz.ntmps112
 go_wp2_with (first
  |(at_builtin; refine wpList_cat (α := Int) _ rfl (.tmp 6) (.tmp 12) 22 rfl w.heap.size 3 (.int .i64 0) 8 Tryz.underlying22 int_info rfl (by decide) (.slice none 0 0) [] rfl (Own.nil _ _ _) A c n l rfl HN.out (fun b => b < w.heap.size) HS.out (fun i hi _ e => by simp [Value.ownBlock] at e) (by simp; omega) (by simp; omega) (Nat.le_refl _) ?_; intro v4 w4 hown4 hg4 hat4; have HO4 := Lh hown4; have HB4 := Lh (below_cat (Below.refl w.heap.size w) (Own.nil w w.heap.size 3 (α := Int)) (Nat.le_refl _) hg4); clear hown4 hg4 hat4)
  | fail)
 go_ret
 exact ⟨_, rfl, HO4.out, HB4.out⟩
def IsCopy (x : LineP) (w : World) (e : Ending) (w' : World) : Prop := ∃ A c B d, e = .returned (.agg #[.int .i64 x.fr, .int .i64 x.un, .slice A x.gaps.length c, .slice B x.notes.length d]) ∧ Own w' w.heap.size 3 (.slice A x.gaps.length c) x.gaps ∧ Own w' w.heap.size 3 (.slice B x.notes.length d) x.notes ∧ Below w.heap.size w w'
set_option maxRecDepth 100000 in
set_option maxHeartbeats 4000000 in
theorem rcopy_any (Ag An : Option Addr) (cg cn : Nat) (x : LineP) (w : World) (hg : Sl w (fun b => b < w.heap.size) Ag cg x.gaps) (hn : Sl w (fun b => b < w.heap.size) An cn x.notes) (h1 : x.gaps.length ≤ 1048576) (h2 : x.notes.length ≤ 1048576) :
  Calls Tryz.prog 90 #[.agg #[.int .i64 x.fr, .int .i64 x.un, .slice Ag x.gaps.length cg, .slice An x.notes.length cn]] w (IsCopy x w) := by
 obtain ⟨wb, hwb⟩ : ∃ wb, (w.alloc (.cells #[.int .i64 x.fr, .int .i64 x.un, .slice Ag x.gaps.length cg, .slice An x.notes.length cn] 88)).alloc (.cells #[.int .i64 0, .int .i64 0, .slice none 0 0, .slice none 0 0] 88) = wb := ⟨_, rfl⟩
 have hba : Below w.heap.size w wb := by rw [← hwb]; exact ((Below.refl _ _).alloc (Nat.le_refl _) _).alloc (by simp) _
 have hsz : wb.heap.size = w.heap.size + 2 := by rw [← hwb]; simp
 have hx0 : ABox wb w.heap.size 88 [.int .i64 x.fr, .int .i64 x.un, .slice Ag x.gaps.length cg, .slice An x.notes.length cn] := by rw [← hwb]; exact (Below.heap_alloc _ _ _ (by simp)).trans (heap_alloc_new w _)
 have hx1 : ABox wb (w.heap.size + 1) 88 [.int .i64 0, .int .i64 0, .slice none 0 0, .slice none 0 0] := by rw [← hwb]; exact heap_at (by simp)
 have HG := Lh (hg.to hba)
 have HN := Lh (hn.to hba)
 have HB := Lh hba
 have HX0 := Lh hx0
 have HX1 := Lh hx1
 have HSZ := Lh hsz
 obtain ⟨O, hO⟩ : ∃ O, w.heap.size + 1 = O := ⟨_, rfl⟩
 clear hba hx0 hx1 hg hn hsz
 go_enter Tryz.func90, Tryz.ntmps90
 go_upto_region 1 with (fail)
 try rw [hwb]
 clear hwb
 refine wp_region_rely [9, 15] (fun i => if i = 9 then SP.own wb.heap.size 3 x.gaps else if i = 15 then SP.own wb.heap.size 3 x.notes else SP.any) 17 (by kernel_rfl) (by kernel_rfl) ?_
 intro T _ g hg hgm
 have x0 : ∀ d, (g d).cell? ⟨w.heap.size, 0, none⟩ = some (.int .i64 x.fr) := fun d => (HX0.out.to (hg d)).cell 0 rfl
 have x1 : ∀ d, (g d).cell? ⟨w.heap.size, 1, none⟩ = some (.int .i64 x.un) := fun d => (HX0.out.to (hg d)).cell 1 rfl
 have x2 : ∀ d, (g d).cell? ⟨w.heap.size, 2, none⟩ = some (.slice Ag x.gaps.length cg) := fun d => (HX0.out.to (hg d)).cell 2 rfl
 have x3 : ∀ d, (g d).cell? ⟨w.heap.size, 3, none⟩ = some (.slice An x.notes.length cn) := fun d => (HX0.out.to (hg d)).cell 3 rfl
 repeat (refine wpR_pure (by rfl) fun Kq hq => ?_; go_big_quiet_step (fail); refine wpQuiet_nil (hq _ ?_); clear hq Kq)
 refine wpR_busy (by rfl) (by rfl) (fun d hG K Q hK => ?_) (fun v d hG hp Kr hr => ?_)
 ·go_simp
  go_at_call 112
  refine (rints_any Ag cg x.gaps.length x.gaps (g d) (HG.out.to (hg d)) rfl h1).mono ?_
  rintro e W1 ⟨v3, rfl, ho3, hb1⟩
  go_simp
  exact hK _ _ hb1 (ho3.re (hg d).size)
 obtain ⟨A3, c3, rfl, -⟩ := (show Own (g d) wb.heap.size 3 v x.gaps from hp).form
 (try clear hp); clear hG
 simp only [Act.put, sA0, sZ0, sS0]
 refine hr _ ?_
 clear hr Kr
 repeat (refine wpR_pure (by rfl) fun Kq hq => ?_; go_big_quiet_step (fail); refine wpQuiet_nil (hq _ ?_); clear hq Kq)
 refine wpR_busy (by rfl) (by rfl) (fun d hG K Q hK => ?_) (fun v d hG hp Kr hr => ?_)
 ·go_simp
  go_at_call 112
  refine (rints_any An cn x.notes.length x.notes (g d) (HN.out.to (hg d)) rfl h2).mono ?_
  rintro e W1 ⟨v3, rfl, ho3, hb1⟩
  go_simp
  exact hK _ _ hb1 (ho3.re (hg d).size)
 obtain ⟨A4, c4, rfl, -⟩ := (show Own (g d) wb.heap.size 3 v x.notes from hp).form
 (try clear hp); clear hG
 simp only [Act.put, sA0, sZ0, sS0]
 refine hr _ ?_
 clear hr Kr
 repeat (refine wpR_pure (by rfl) fun Kq hq => ?_; go_big_quiet_step (fail); refine wpQuiet_nil (hq _ ?_); clear hq Kq)
 refine wpR_tail 1 (by rfl) (by rfl) (fun d hG => ?_)
 have HO3 : Hid (Own (g d) wb.heap.size 3 (.slice A3 x.gaps.length c3) x.gaps) := Lh (hG 9)
 have HO4 : Hid (Own (g d) wb.heap.size 3 (.slice A4 x.notes.length c4) x.notes) := Lh (hG 15)
 have HXd := Lh (HX1.out.to (hg d))
 have HBd := Lh (HB.out.trans ((hg d).mono HB.out.size))
 rw [hO] at HXd
 try rw [hO]
 clear hG hg hgm x0 x1 x2 x3
 generalize g d = w6 at *
 clear g
 have z0 := HXd.out.cell 0 rfl
 have z1 := (HXd.out.set 0 (.int .i64 x.fr)).cell 1 rfl
 have z2 := ((HXd.out.set 0 (.int .i64 x.fr)).set 1 (.int .i64 x.un)).cell 2 rfl
 have z3 := (((HXd.out.set 0 (.int .i64 x.fr)).set 1 (.int .i64 x.un)).set 2 (.slice A3 x.gaps.length c3)).cell 3 rfl
 have y0 := HXd.out.fz 0
 have y1 := (HXd.out.set 0 (.int .i64 x.fr)).fz 1
 have y2 := ((HXd.out.set 0 (.int .i64 x.fr)).set 1 (.int .i64 x.un)).fz 2
 have y3 := (((HXd.out.set 0 (.int .i64 x.fr)).set 1 (.int .i64 x.un)).set 2 (.slice A3 x.gaps.length c3)).fz 3
 refine wpAny_one (i := 17) (oi := _) rfl (by kernel_rfl) (by rfl) (fun K hK => ?_)
 go_simp
 refine hK _ _ ?_
 clear hK K
 try simp only [Act.put, sA0, sZ0, sS0]
 clear z0 z1 z2 z3 y0 y1 y2 y3
 refine wpAny_done (by kernel_rfl) ?_ _
 unfold Exit.then
 have hkk : ∀ i, i ≠ O → ((((w6.setCell ⟨O, 0, none⟩ (.int .i64 x.fr)).setCell ⟨O, 1, none⟩ (.int .i64 x.un)).setCell ⟨O, 2, none⟩ (.slice A3 x.gaps.length c3)).setCell ⟨O, 3, none⟩ (.slice A4 x.notes.length c4)).heap[i]? = w6.heap[i]? := fun i hi => (heap_set _ _ _ _ hi).trans ((heap_set _ _ _ _ hi).trans ((heap_set _ _ _ _ hi).trans (heap_set _ _ _ _ hi)))
 have hwO : w.heap.size ≤ O := by omega
 have hwb2 : w.heap.size ≤ wb.heap.size := by have := HSZ.out; omega
 have hOb : O < wb.heap.size := by have := HSZ.out; omega
 have HZB : Hid (Below w.heap.size w ((((w6.setCell ⟨O, 0, none⟩ (.int .i64 x.fr)).setCell ⟨O, 1, none⟩ (.int .i64 x.un)).setCell ⟨O, 2, none⟩ (.slice A3 x.gaps.length c3)).setCell ⟨O, 3, none⟩ (.slice A4 x.notes.length c4))) := Lh ((((HBd.out.setCell (p := ⟨O, 0, none⟩) hwO _).setCell (p := ⟨O, 1, none⟩) hwO _).setCell (p := ⟨O, 2, none⟩) hwO _).setCell (p := ⟨O, 3, none⟩) hwO _)
 have HZ3 : Hid (Own ((((w6.setCell ⟨O, 0, none⟩ (.int .i64 x.fr)).setCell ⟨O, 1, none⟩ (.int .i64 x.un)).setCell ⟨O, 2, none⟩ (.slice A3 x.gaps.length c3)).setCell ⟨O, 3, none⟩ (.slice A4 x.notes.length c4)) w.heap.size 3 (.slice A3 x.gaps.length c3) x.gaps) := Lh ((own_keepI HO3.out (fun i hi => hkk i (fun e => by have := (HO3.out.lt i hi).1; omega))).re hwb2)
 have HZ4 : Hid (Own ((((w6.setCell ⟨O, 0, none⟩ (.int .i64 x.fr)).setCell ⟨O, 1, none⟩ (.int .i64 x.un)).setCell ⟨O, 2, none⟩ (.slice A3 x.gaps.length c3)).setCell ⟨O, 3, none⟩ (.slice A4 x.notes.length c4)) w.heap.size 3 (.slice A4 x.notes.length c4) x.notes) := Lh ((own_keepI HO4.out (fun i hi => hkk i (fun e => by have := (HO4.out.lt i hi).1; omega))).re hwb2)
 have HZX : Hid (ABox ((((w6.setCell ⟨O, 0, none⟩ (.int .i64 x.fr)).setCell ⟨O, 1, none⟩ (.int .i64 x.un)).setCell ⟨O, 2, none⟩ (.slice A3 x.gaps.length c3)).setCell ⟨O, 3, none⟩ (.slice A4 x.notes.length c4)) O 88 [.int .i64 x.fr, .int .i64 x.un, .slice A3 x.gaps.length c3, .slice A4 x.notes.length c4]) := Lh ((((HXd.out.set 0 (.int .i64 x.fr)).set 1 (.int .i64 x.un)).set 2 (.slice A3 x.gaps.length c3)).set 3 (.slice A4 x.notes.length c4))
 clear hkk
 go_wp2_with fail
 exact bodyPost_ret (v := .agg #[.int .i64 x.fr, .int .i64 x.un, .slice A3 x.gaps.length c3, .slice A4 x.notes.length c4]) (results_box1 Tryz.results90 _ _ O _ [.int .i64 x.fr, .int .i64 x.un, .slice A3 x.gaps.length c3, .slice A4 x.notes.length c4] _ rfl HZX.out Tryz.underlying88 rfl (by kernel_rfl)) rfl
  ⟨A3, c3, A4, c4, rfl, HZ3.out, HZ4.out, HZB.out⟩
end Go.Proofs.YtakaielemicpkaaGreatDoor
namespace Go.Proofs.YtakaielemicpkaaGreatDoor
open Go.RowKit
theorem lrows_at {w : World} {S : Nat → Prop} {A : Option Addr} {c : Nat} {l : List (List LineP)} (h : Sl w S A c l) {k : Nat} (hk : k < l.length) :
  ∃ b o A1 c1, A = some ⟨b, o, none⟩ ∧ S b ∧ b < w.heap.size ∧ w.cell? ⟨b, o + k, none⟩ = some (.slice A1 l[k].length c1) ∧ Sl w S A1 c1 l[k] := by
 obtain ⟨b, o, es, rfl, hb, hlt, ⟨A1, c1, rfl, hs, -⟩, hc⟩ := h.at_ hk
 have h0 := hc 0 _ rfl
 simp only [Rep.size, Nat.mul_one, Nat.add_zero] at h0
 exact ⟨b, o, A1, c1, rfl, hb, hlt, h0, hs⟩
set_option maxRecDepth 100000 in
set_option maxHeartbeats 8000000 in
theorem rwrong_any (A B : Option Addr) (c d : Nat) (body : List LineP) (notes : List (List LineP)) (h : Int) (w : World) (ha : Sl w (fun b => b < w.heap.size) A c body) (hb : Sl w (fun b => b < w.heap.size) B d notes) (hln : notes.length ≤ 1048576) (hlb : body.length ≤ 1048576) (hsm : ∀ x ∈ body, x.notes.length ≤ 1048576) :
  Calls Tryz.prog 89 #[.slice A body.length c, .slice B notes.length d, .int .i64 h] w fun e w' => e = .returned (.int .i64 (pageE body notes h)) ∧ Below w.heap.size w w' := by
 have HA := Lh ha
 have HBS := Lh hb
 have HSM := Lh hsm
 have hnc : notes.length ≤ d := hb.1
 have hbc : body.length ≤ c := ha.1
 have HB : Hid (Below w.heap.size w w) := Lh (Below.refl _ _)
 clear ha hb hsm
 by_cases h4 : h < 4
 ·have HE : Hid (pageE body notes h = 5) := Lh (by unfold pageE; rw [if_pos (.inl h4)])
  go_enter Tryz.func89, Tryz.ntmps89
  go_wp2_with fail
  go_ret
  exact ⟨by rw [HE.out]; rfl, Below.refl _ _⟩
 by_cases h5 : 100 < h
 ·have HE : Hid (pageE body notes h = 5) := Lh (by unfold pageE; rw [if_pos (.inr h5)])
  go_enter Tryz.func89, Tryz.ntmps89
  go_wp2_with fail
  go_ret
  exact ⟨by rw [HE.out]; rfl, Below.refl _ _⟩
 have H45 : Hid (¬ (h < 4 ∨ 100 < h)) := Lh (by omega)
 go_enter Tryz.func89, Tryz.ntmps89
 go_wp2_with fail
 go_loopw [7] (fun i wr => ∃ k : Nat, k ≤ notes.length ∧ i = .int .i64 (k : Int) ∧ Hid (∀ j (hj : j < notes.length), j < k → notes[j] ≠ []) ∧ wr = w) (fun i _ => notes.length - (intOf i).toNat)
 case atStart => exact ⟨0, Nat.zero_le _, rfl, Lh (fun j _ h => absurd h (Nat.not_lt_zero _)), by first | rfl | trivial⟩
 case round =>
  obtain ⟨k, hk, rfl, HNE, rfl⟩ := hrel
  by_cases hlt : k < notes.length
  ·have hkI : (k : Int) < (notes.length : Int) := by omega
   obtain ⟨b, o, A1, c1, rfl, -, -, e0, -⟩ := lrows_at HBS.out hlt
   obtain ⟨y, hy⟩ : ∃ y, notes[k] = y := ⟨_, rfl⟩
   rw [hy] at e0
   have HY := Lh hy
   clear hy
   by_cases hye : y = []
   ·have HE : Hid (pageE body notes h = 1) := Lh (by
     unfold pageE
     rw [if_neg H45.out, if_pos]
     exact List.any_eq_true.2 ⟨notes[k], List.getElem_mem hlt, decide_eq_true (by rw [HY.out]; exact hye)⟩)
    subst hye
    go_wp2_with fail
    go_ret
    exact ⟨by rw [HE.out]; rfl, HB.out⟩
   ·have hy0 : ¬ (y.length : Int) = 0 := by have := List.length_pos_iff.2 hye; omega
    have HYE := Lh hye
    clear hye
    go_wp2_with fail
    go_roundw
    case rel => exact ⟨k + 1, by omega, by go_num, Lh (fun j hj hjk => by
     rcases Nat.lt_or_ge j k with h | h
     ·exact HNE.out j hj h
     ·obtain rfl : j = k := by omega
      rw [HY.out]; exact HYE.out), by first | rfl | trivial⟩
    case measure => simp [intOf]; omega
  ·obtain rfl : k = notes.length := by omega
   have HE : Hid (pageE body notes h = match nextN notes.length 0 (body.flatMap (·.notes)) with | none => 12 | some k => if k < notes.length then 3 else 0) := Lh (by
    unfold pageE
    rw [if_neg H45.out, if_neg]
    ·rfl
    ·rw [Bool.not_eq_true, List.any_eq_false]
     intro x hx
     obtain ⟨j, hj, rfl⟩ := List.getElem_of_mem hx
     rw [decide_eq_true_iff]
     exact HNE.out j hj hj)
   clear HNE H45
   go_wp2_with fail
   obtain ⟨wo, rfl⟩ : ∃ wo : World, wo = wr := ⟨_, rfl⟩
   go_loopw [8, 9] (fun vn vi wr => ∃ (k : Nat) (nx : Int), k ≤ body.length ∧ vi = .int .i64 (k : Int) ∧ vn = .int .i64 nx ∧ Hid (nextN notes.length 0 ((body.take k).flatMap (·.notes)) = some nx) ∧ 0 ≤ nx ∧ nx ≤ notes.length ∧ wr = wo) (fun _ vi _ => body.length - (intOf vi).toNat)
   case atStart => exact ⟨0, 0, Nat.zero_le _, rfl, rfl, Lh rfl, Int.le_refl _, by omega, by first | rfl | trivial⟩
   case round =>
    obtain ⟨k, nx, hk, rfl, rfl, HX, hn0, hn1, rfl⟩ := hrel
    by_cases hlt : k < body.length
    ·have hkl : (k : Int) < (body.length : Int) := by omega
     have hk0 : (0 : Int) ≤ (k : Int) := by omega
     obtain ⟨b, o, Ag, cg, An, cn, rfl, -, hbl2, -, -, -, e3, hgS, hnS⟩ := line_at HA.out hlt
     have HRS := Lh (refs_step body k hlt)
     have HNO : Hid (∀ j, nextN notes.length 0 ((body.take k).flatMap (·.notes) ++ (body[k].notes).take j) = none → nextN notes.length 0 (body.flatMap (·.notes)) = none) := Lh (fun j hj => by
      have h1 : (body.flatMap (·.notes)) = ((body.take k).flatMap (·.notes) ++ (body[k].notes).take j) ++ ((body[k].notes).drop j ++ (body.drop (k + 1)).flatMap (·.notes)) := by
       conv => lhs; rw [← List.take_append_drop (k + 1) body, List.flatMap_append, HRS.out]
       rw [List.append_assoc, List.append_assoc]
       congr 1
       rw [← List.append_assoc, List.take_append_drop]
      rw [h1, nextN_app, hj]; rfl)
     have HNS := Lh hnS
     have hnl9 : body[k].notes.length ≤ 1048576 := HSM.out _ (List.getElem_mem hlt)
     have hncn : body[k].notes.length ≤ cn := hnS.1
     generalize body[k] = x at *
     clear hgS hnS
     go_wp2_with fail
     obtain ⟨w2, rfl⟩ : ∃ w2 : World, w2 = wr := ⟨_, rfl⟩
     go_loopw [8, 10] (fun vn vj wr => ∃ (j : Nat) (nx : Int), j ≤ x.notes.length ∧ vj = .int .i64 (j : Int) ∧ vn = .int .i64 nx ∧ Hid (nextN notes.length 0 ((body.take k).flatMap (·.notes) ++ x.notes.take j) = some nx) ∧ 0 ≤ nx ∧ nx ≤ notes.length ∧ wr = w2) (fun _ vj _ => x.notes.length - (intOf vj).toNat)
     case atStart => exact ⟨0, nx, Nat.zero_le _, rfl, rfl, Lh (by rw [List.take_zero, List.append_nil]; exact HX.out), hn0, hn1, by first | rfl | trivial⟩
     case round =>
      clear HX hn0 hn1
      obtain ⟨j, nx, hj, rfl, rfl, HX, hn0, hn1, rfl⟩ := hrel
      by_cases hjl : j < x.notes.length
      ·have hjl' : (j : Int) < (x.notes.length : Int) := by omega
       have hj0 : (0 : Int) ≤ (j : Int) := by omega
       obtain ⟨b1, o1, hA1, -, -, hok, ce⟩ := int_at HNS.out hjl
       subst hA1
       have HT2 : Hid (nextN notes.length 0 ((body.take k).flatMap (·.notes) ++ x.notes.take (j + 1)) = if x.notes[j] ≠ nx ∨ (notes.length : Int) ≤ x.notes[j] then none else some (nx + 1)) := Lh (by
        have e1 : ((body.take k).flatMap (·.notes)) ++ x.notes.take (j + 1) = ((body.take k).flatMap (·.notes) ++ x.notes.take j) ++ [x.notes[j]] := by
         rw [List.take_succ_eq_append_getElem hjl, List.append_assoc]
        rw [e1, nextN_app, HX.out]
        rfl)
       have HNJ := Lh (HNO.out (j + 1))
       have HOK := Lh hok
       generalize x.notes[j] = q at *
       clear hok
       by_cases hq : q = nx
       ·subst hq
        by_cases hq2 : (notes.length : Int) ≤ q
        ·have HE2 : Hid (pageE body notes h = 12) := Lh (by rw [HE.out, HNJ.out (by rw [HT2.out, if_pos (.inr hq2)])])
         go_wp2_with fail
         go_ret
         exact ⟨by rw [HE2.out]; rfl, HB.out⟩
        ·have HX2 : Hid (nextN notes.length 0 ((body.take k).flatMap (·.notes) ++ x.notes.take (j + 1)) = some (q + 1)) := Lh (by rw [HT2.out, if_neg (by omega)])
         have hq3 : q < (notes.length : Int) := by omega
         clear HT2 HNJ
         go_wp2_with fail
         go_roundw
         case rel => exact ⟨j + 1, q + 1, by omega, by go_num, by go_num, HX2, by omega, by omega, by first | trivial | rfl⟩
         case measure => (first | (simp [intOf]; done) | (simp [intOf]; omega))
       ·have HE2 : Hid (pageE body notes h = 12) := Lh (by rw [HE.out, HNJ.out (by rw [HT2.out, if_pos (.inl hq)])])
        have hqb : (q == nx) = false := by rw [beq_eq_false_iff_ne]; exact hq
        go_wp2_with fail
        go_ret
        exact ⟨by rw [HE2.out]; rfl, HB.out⟩
      ·have HX2 : Hid (nextN notes.length 0 ((body.take (k + 1)).flatMap (·.notes)) = some nx) := Lh (by rw [HRS.out]; have := HX.out; rwa [List.take_of_length_le (show x.notes.length ≤ j by omega)] at this)
       have hjl' : ¬ (j : Int) < (x.notes.length : Int) := by omega
       go_wp2_with fail
       go_roundw
       case rel => exact ⟨k + 1, nx, by omega, by go_num, rfl, HX2, hn0, hn1, by first | trivial | rfl⟩
       case measure => (first | (simp [intOf]; done) | (simp [intOf]; omega))
    ·have HX2 : Hid (nextN notes.length 0 (body.flatMap (·.notes)) = some nx) := Lh (by have := HX.out; rwa [List.take_of_length_le (by omega)] at this)
     clear HX
     by_cases hnx : nx < (notes.length : Int)
     ·have HE2 : Hid (pageE body notes h = 3) := Lh (by rw [HE.out, HX2.out]; exact if_pos hnx)
      go_wp2_with fail
      go_ret
      exact ⟨by rw [HE2.out]; rfl, HB.out⟩
     ·have HE2 : Hid (pageE body notes h = 0) := Lh (by rw [HE.out, HX2.out]; exact if_neg hnx)
      go_wp2_with fail
      go_ret
      exact ⟨by rw [HE2.out]; rfl, HB.out⟩
end Go.Proofs.YtakaielemicpkaaGreatDoor
namespace Go.Proofs.YtakaielemicpkaaGreatDoor
open Go.RowKit
def PE (O : Nat) (a b : Option Nat) (i : Nat) : Prop := O < i ∧ some i ≠ a ∧ some i ≠ b
structure PS (w0 w : World) (ob : Option Nat) (qv : Value) (queue : List LineP) (pv : Value) (pages : List PageP) : Prop where
 bw : Below w0.heap.size w0 w
 q : Que w w0.heap.size 88 ob qv (queue.map (Av.mk : LineP → OldL w0.heap.size))
 pg : OwnP w w0.heap.size 36 pv pages (fun i => w0.heap.size ≤ i ∧ some i ≠ ob)
structure PG (w0 w : World) (O : Nat) (ob : Option Nat) (qv : Value) (queue : List LineP) (pv : Value) (pages : List PageP) (bv : Value) (bl : List LineP) (nv : Value) (nl : List LineP) : Prop where
 bw : Below w0.heap.size w0 w
 q : Que w w0.heap.size 88 ob qv (queue.map (Av.mk : LineP → OldL w0.heap.size))
 pg : OwnP w w0.heap.size 36 pv pages (fun i => (w0.heap.size ≤ i ∧ i < O) ∧ some i ≠ ob)
 o : ABox w O 36 [.int .i64 0, .int .i64 0, .int .i64 0, .int .i64 0, bv, nv]
 oq : some O ≠ ob
 og : w0.heap.size ≤ O
 b : OwnP w (O + 1) 88 bv bl (PE O ob nv.ownBlock)
 n : OwnP w (O + 1) 88 nv nl (PE O ob bv.ownBlock)
section
variable {w0 w w' : World} {O : Nat} {ob : Option Nat} {qv : Value} {queue : List LineP} {pv : Value} {pages : List PageP} {bv nv : Value} {bl nl : List LineP}
theorem PS.to (H : PS w0 w ob qv queue pv pages) (hb : Below w.heap.size w w') : PS w0 w' ob qv queue pv pages :=
 ⟨H.bw.trans (hb.mono H.bw.size), H.q.below hb, H.pg.below hb⟩
theorem PG.to (H : PG w0 w O ob qv queue pv pages bv bl nv nl) (hb : Below w.heap.size w w') : PG w0 w' O ob qv queue pv pages bv bl nv nl :=
 ⟨H.bw.trans (hb.mono H.bw.size), H.q.below hb, H.pg.below hb, H.o.to hb, H.oq, H.og, H.b.below hb, H.n.below hb⟩
theorem PS.start (H : PS w0 w ob qv queue pv pages) (hb : Below w.heap.size w w') (ho : ABox w' w.heap.size 36 [.int .i64 0, .int .i64 0, .int .i64 0, .int .i64 0, .slice none 0 0, .slice none 0 0]) :
  PG w0 w' w.heap.size ob qv queue pv pages (.slice none 0 0) [] (.slice none 0 0) [] :=
 ⟨(H.to hb).bw, (H.to hb).q, (H.pg.mono (fun i hi hl => ⟨⟨hi.1, hl⟩, hi.2⟩)).below hb, ho, fun e => by have := (H.q.lt _ e.symm).2; omega, H.bw.size, OwnP.nil _ _ _ _, OwnP.nil _ _ _ _⟩
theorem PG.note (H : PG w0 w O ob qv queue pv pages bv bl nv nl) {x : LineP} {v' : Value} (hx : Own w' (O + 1) 88 v' (nl.map (Av.mk : LineP → Av LineP (PE O ob bv.ownBlock)) ++ [⟨x⟩])) (hg : w.grownBy w' nv.ownBlock) (hat : v'.ownBlock = nv.ownBlock ∨ v'.ownBlock = some w.heap.size) :
  w'.cell? ⟨O, 5, none⟩ = some nv ∧ (∀ j, w'.frozen? ⟨O, j, none⟩ = false) ∧ PG w0 (w'.setCell ⟨O, 5, none⟩ v') O ob qv queue pv pages bv bl v' (nl ++ [x]) := by
 have hol := H.q.lt
 have hsz := hg.size
 have hOw : O < w.heap.size := H.o.lt
 have hOn : some O ≠ nv.ownBlock := fun e => by have := (H.n.lt _ e.symm).1; omega
 have hqn : ∀ g, ob = some g → some g ≠ nv.ownBlock := fun g e1 e2 => (H.n.at_ g e2.symm).2.1 (by rw [e1])
 have hoO : ABox w' O 36 [.int .i64 0, .int .i64 0, .int .i64 0, .int .i64 0, bv, nv] := (hg.block O hOw hOn).trans H.o
 have hold : Kept (fun b => b < w0.heap.size) w w' := Kept.grown hg (fun i hi e => by have := (H.n.lt _ e.symm).1; have := H.og; omega)
 have hold2 : Kept (fun b => b < w0.heap.size) w' (w'.setCell ⟨O, 5, none⟩ v') := fun i hi _ => heap_set w' O 5 v' (by have := H.og; omega)
 refine ⟨hoO.cell 5 rfl, fun j => hoO.fz j, ?_, ?_, ?_, ?_, H.oq, H.og, ?_, ?_⟩
 ·exact (H.bw.grown hg H.bw.size (fun k hk => by have := (H.n.lt _ hk).1; have := H.og; omega)).setCell (p := ⟨O, 5, none⟩) H.og _
 ·exact (H.q.keptA hold (fun g hg' hl => hg.block g hl (fun e => hqn g hg' e))).keptA hold2 (fun g hg' _ => heap_set w' O 5 v' (fun e => H.oq (e ▸ hg'.symm)))
 ·exact (H.pg.grown hg (fun i hi e => by have := (H.n.lt _ e.symm).1; omega)).set O 5 v' (fun i hi e => by omega)
 ·have := hoO.set 5 v'
  simpa using this
 ·refine (((H.b.mono (Q := fun i => PE O ob nv.ownBlock i ∧ PE O ob v'.ownBlock i) (fun i hi hl => ⟨hi, hi.1, hi.2.1, fun e => ?_⟩)).grown hg (fun i hi => hi.1.2.2)).set O 5 v' (fun i hi e => by have := hi.1.1; omega)).mono (fun i hi _ => hi.2)
  rcases hat with h | h
  ·exact hi.2.2 (by rw [e, h])
  ·rw [h] at e; injection e with e; omega
 ·exact (H.n.pushed hx (H := w.heap.size) (fun g hgo => by
   rcases hat with h | h
   ·exact .inl (h ▸ hgo)
   ·rw [h] at hgo; injection hgo with e; exact .inr e.symm) ⟨hOw, fun e => by have := (hol _ e.symm).2; omega, fun e => by have := (H.b.lt _ e.symm).2; omega⟩).set O 5 v' (fun i hi e => by have := hi.1; omega)
theorem PG.body (H : PG w0 w O ob qv queue pv pages bv bl nv nl) {x : LineP} {v' : Value} (hx : Own w' (O + 1) 88 v' (bl.map (Av.mk : LineP → Av LineP (PE O ob nv.ownBlock)) ++ [⟨x⟩])) (hg : w.grownBy w' bv.ownBlock) (hat : v'.ownBlock = bv.ownBlock ∨ v'.ownBlock = some w.heap.size) :
  w'.cell? ⟨O, 4, none⟩ = some bv ∧ (∀ j, w'.frozen? ⟨O, j, none⟩ = false) ∧ PG w0 (w'.setCell ⟨O, 4, none⟩ v') O ob qv queue pv pages v' (bl ++ [x]) nv nl := by
 have hol := H.q.lt
 have hsz := hg.size
 have hOw : O < w.heap.size := H.o.lt
 have hOn : some O ≠ bv.ownBlock := fun e => by have := (H.b.lt _ e.symm).1; omega
 have hqn : ∀ g, ob = some g → some g ≠ bv.ownBlock := fun g e1 e2 => (H.b.at_ g e2.symm).2.1 (by rw [e1])
 have hoO : ABox w' O 36 [.int .i64 0, .int .i64 0, .int .i64 0, .int .i64 0, bv, nv] := (hg.block O hOw hOn).trans H.o
 have hold : Kept (fun b => b < w0.heap.size) w w' := Kept.grown hg (fun i hi e => by have := (H.b.lt _ e.symm).1; have := H.og; omega)
 have hold2 : Kept (fun b => b < w0.heap.size) w' (w'.setCell ⟨O, 4, none⟩ v') := fun i hi _ => heap_set w' O 4 v' (by have := H.og; omega)
 refine ⟨hoO.cell 4 rfl, fun j => hoO.fz j, ?_, ?_, ?_, ?_, H.oq, H.og, ?_, ?_⟩
 ·exact (H.bw.grown hg H.bw.size (fun k hk => by have := (H.b.lt _ hk).1; have := H.og; omega)).setCell (p := ⟨O, 4, none⟩) H.og _
 ·exact (H.q.keptA hold (fun g hg' hl => hg.block g hl (fun e => hqn g hg' e))).keptA hold2 (fun g hg' _ => heap_set w' O 4 v' (fun e => H.oq (e ▸ hg'.symm)))
 ·exact (H.pg.grown hg (fun i hi e => by have := (H.b.lt _ e.symm).1; omega)).set O 4 v' (fun i hi e => by omega)
 ·have := hoO.set 4 v'
  simpa using this
 ·exact (H.b.pushed hx (H := w.heap.size) (fun g hgo => by
   rcases hat with h | h
   ·exact .inl (h ▸ hgo)
   ·rw [h] at hgo; injection hgo with e; exact .inr e.symm) ⟨hOw, fun e => by have := (hol _ e.symm).2; omega, fun e => by have := (H.n.lt _ e.symm).2; omega⟩).set O 4 v' (fun i hi e => by have := hi.1; omega)
 ·refine (((H.n.mono (Q := fun i => PE O ob bv.ownBlock i ∧ PE O ob v'.ownBlock i) (fun i hi hl => ⟨hi, hi.1, hi.2.1, fun e => ?_⟩)).grown hg (fun i hi => hi.1.2.2)).set O 4 v' (fun i hi e => by have := hi.1.1; omega)).mono (fun i hi _ => hi.2)
  rcases hat with h | h
  ·exact hi.2.2 (by rw [e, h])
  ·rw [h] at e; injection e with e; omega
theorem PG.que (H : PG w0 w O ob qv queue pv pages bv bl nv nl) {ob' : Option Nat} {qv' : Value} {queue' : List LineP} (hg : w.grownBy w' ob) (hq : Que w' w0.heap.size 88 ob' qv' (queue'.map (Av.mk : LineP → OldL w0.heap.size))) (hob : ob' = ob ∨ ob' = some w.heap.size) :
  PG w0 w' O ob' qv' queue' pv pages bv bl nv nl := by
 have hol := H.q.lt
 have hOw : O < w.heap.size := H.o.lt
 have hn : ∀ i, i < w.heap.size → some i ≠ ob → some i ≠ ob' := fun i hl hi e => by
  rcases hob with h | h
  ·exact hi (by rw [e, h])
  ·rw [h] at e; injection e with e; omega
 refine ⟨H.bw.grown hg H.bw.size (fun k hk => (hol k hk).1), hq, ?_, (hg.block O hOw H.oq).trans H.o, hn O hOw H.oq, H.og, ?_, ?_⟩
 ·exact ((H.pg.mono (Q := fun i => some i ≠ ob ∧ ((w0.heap.size ≤ i ∧ i < O) ∧ some i ≠ ob')) (fun i hi hl => ⟨hi.2, hi.1, hn i hl hi.2⟩)).grown hg (fun i hi => hi.1)).mono (fun i hi _ => hi.2)
 ·exact ((H.b.mono (Q := fun i => some i ≠ ob ∧ PE O ob' nv.ownBlock i) (fun i hi hl => ⟨hi.2.1, hi.1, hn i hl hi.2.1, hi.2.2⟩)).grown hg (fun i hi => hi.1)).mono (fun i hi _ => hi.2)
 ·exact ((H.n.mono (Q := fun i => some i ≠ ob ∧ PE O ob' bv.ownBlock i) (fun i hi hl => ⟨hi.2.1, hi.1, hn i hl hi.2.1, hi.2.2⟩)).grown hg (fun i hi => hi.1)).mono (fun i hi _ => hi.2)
theorem PG.cut (H : PG w0 w O ob qv queue pv pages bv bl nv nl) {ob' : Option Nat} {qv' : Value} {queue' : List LineP} (hq : Que w w0.heap.size 88 ob' qv' (queue'.map (Av.mk : LineP → OldL w0.heap.size))) (hob : ob' = none ∨ ob' = ob) :
  PG w0 w O ob' qv' queue' pv pages bv bl nv nl := by
 have hn : ∀ i, some i ≠ ob → some i ≠ ob' := fun i hi => by
  rcases hob with rfl | rfl
  ·simp
  ·exact hi
 exact ⟨H.bw, hq, H.pg.mono (fun i hi _ => ⟨hi.1, hn i hi.2⟩), H.o, hn O H.oq, H.og, H.b.mono (fun i hi _ => ⟨hi.1, hn i hi.2.1, hi.2.2⟩), H.n.mono (fun i hi _ => ⟨hi.1, hn i hi.2.1, hi.2.2⟩)⟩
theorem PG.rep (H : PG w0 w O ob qv queue pv pages bv bl nv nl) (h1 : bl.length < 9223372036854775808) (h2 : nl.length < 9223372036854775808) :
  Rep.R w (fun i => O < i ∧ some i ≠ ob) [.int .i64 0, .int .i64 0, .int .i64 0, .int .i64 0, bv, nv] (⟨0, 0, 0, 0, bl, nl⟩ : PageP) := by
 exact ⟨_, _, rfl, H.b.rep h1 (fun i hi _ => ⟨hi.1, hi.2.1⟩), H.n.rep h2 (fun i hi _ => ⟨hi.1, hi.2.1⟩)⟩
theorem PG.page (H : PG w0 w O ob qv queue pv pages bv bl nv nl) {pv' : Value} {d : PageP} (hg : w.grownBy w' pv.ownBlock) (h2 : Own w' w0.heap.size 36 pv' (pages.map (Av.mk : PageP → Av PageP (fun i => w0.heap.size ≤ i ∧ some i ≠ ob)) ++ [⟨d⟩]))
  (hat : ∀ g, pv'.ownBlock = some g → pv.ownBlock = some g ∨ g = w.heap.size) : PS w0 w' ob qv queue pv' (pages ++ [d]) := by
 have hol := H.q.lt
 have hpl := H.pg.lt
 have hold : Kept (fun b => b < w0.heap.size) w w' := Kept.grown hg (fun i hi e => by have := (hpl i e.symm).1; omega)
 have hpg : OwnP w w0.heap.size 36 pv pages (fun i => w0.heap.size ≤ i ∧ some i ≠ ob) := H.pg.mono (fun i hi _ => ⟨hi.1.1, hi.2⟩)
 exact ⟨H.bw.grown hg H.bw.size (fun k hk => (hpl k hk).1), H.q.keptA hold (fun g hg' hl => hg.block g hl (fun e => (H.pg.at_ g e.symm).2 (by rw [hg']))), hpg.pushed h2 hat ⟨H.bw.size, fun e => by have := (hol _ e.symm).2; omega⟩⟩
end
theorem moved {h lines shown s q : Nat} (h1 : shown ≤ s) (h2 : s ≤ q) (h3 : s = shown ∨ lines + 1 + s + 1 ≤ h) (h4 : ¬ (0 < q - s ∧ lines + 1 + s + 2 ≤ h)) : s = shownP h lines shown q := by
 unfold shownP
 split <;> omega
end Go.Proofs.YtakaielemicpkaaGreatDoor
