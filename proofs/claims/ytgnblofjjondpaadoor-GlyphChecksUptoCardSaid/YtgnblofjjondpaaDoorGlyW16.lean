/- Check of the reference returns the error that Check of the program returns. No condition but that the sizes fit. -/
import Derived.Test.YtgnblofjjondpaaDoorGlyW15
import Derived.Test.YtgnblofjjondpaaDoorCalm
namespace Go.Proofs.YtgnblofjjondpaaDoor
open Go.RowKit
theorem chk_sz0 {a b : List (List Word)} (h : szE a b ≠ 0) : chkOf a b = szE a b := by
  unfold szE at h ⊢
  unfold chkOf
  split
  · rfl
  · split
    · rfl
    · rename_i h1 h2
      rw [if_neg h1, if_neg h2] at h
      exact absurd rfl h
theorem chk_sz1 {a b : List (List Word)} (h : szE a b = 0) : chkOf a b = endP b.length (scanP a.length b.length 0 0 (a ++ b)) := by
  unfold szE at h
  unfold chkOf
  split
  · rename_i h1; rw [if_pos h1] at h; cases h
  · rename_i h1
    rw [if_neg h1] at h
    split
    · rename_i h2; rw [if_pos h2] at h; cases h
    · rfl
theorem step_body {np nn i : Nat} {r : Int} {x : Word} (hi : i < np) (h : wordE x (r + 1) nn = 0) : stepW np nn i r x = (0, if x.n = 0 then r else r + 1) := by
  unfold wordE at h
  unfold stepW
  by_cases h1 : badW x = true
  · rw [if_pos h1] at h; cases h
  · rw [if_neg h1] at h ⊢
    by_cases h2 : x.t ≠ 0 ∧ x.t ≠ 1
    · rw [if_pos h2] at h; cases h
    · rw [if_neg h2] at h ⊢
      by_cases h3 : x.n = 0
      · rw [if_pos h3, if_pos h3]
      · rw [if_neg h3, if_neg h3]
        by_cases h4 : x.n ≠ 0 ∧ (x.n ≠ r + 1 ∨ (nn : Int) < x.n)
        · rw [if_pos h4] at h; cases h
        · rw [if_neg (by rintro (h | h | h) <;> omega)]
theorem step_berr {np nn i : Nat} {r : Int} {x : Word} (hi : i < np) (h : wordE x (r + 1) nn ≠ 0) : ∃ n', stepW np nn i r x = (wordE x (r + 1) nn, n') := by
  unfold wordE at h ⊢
  unfold stepW
  by_cases h1 : badW x = true
  · rw [if_pos h1, if_pos h1]; exact ⟨_, rfl⟩
  · rw [if_neg h1] at h
    rw [if_neg h1, if_neg h1]
    by_cases h2 : x.t ≠ 0 ∧ x.t ≠ 1
    · rw [if_pos h2, if_pos h2]; exact ⟨_, rfl⟩
    · rw [if_neg h2] at h
      rw [if_neg h2, if_neg h2]
      by_cases h4 : x.n ≠ 0 ∧ (x.n ≠ r + 1 ∨ (nn : Int) < x.n)
      · rw [if_pos h4, if_neg h4.1, if_pos (by rcases h4.2 with h | h <;> omega)]; exact ⟨_, rfl⟩
      · rw [if_neg h4] at h; exact absurd rfl h
theorem step_note0 {np nn i : Nat} {r : Int} {x : Word} (hi : np ≤ i) (h : wordE x 0 0 = 0) : stepW np nn i r x = (0, r) := by
  unfold wordE at h
  unfold stepW
  by_cases h1 : badW x = true
  · rw [if_pos h1] at h; cases h
  · rw [if_neg h1] at h ⊢
    by_cases h2 : x.t ≠ 0 ∧ x.t ≠ 1
    · rw [if_pos h2] at h; cases h
    · rw [if_neg h2] at h ⊢
      by_cases h3 : x.n = 0
      · rw [if_pos h3]
      · rw [if_pos ⟨h3, .inl h3⟩] at h; cases h
theorem step_nerr {np nn i : Nat} {r : Int} {x : Word} (hi : np ≤ i) (h : wordE x 0 0 ≠ 0) : ∃ n', stepW np nn i r x = (wordE x 0 0, n') := by
  unfold wordE at h ⊢
  unfold stepW
  by_cases h1 : badW x = true
  · rw [if_pos h1, if_pos h1]; exact ⟨_, rfl⟩
  · rw [if_neg h1] at h
    rw [if_neg h1, if_neg h1]
    by_cases h2 : x.t ≠ 0 ∧ x.t ≠ 1
    · rw [if_pos h2, if_pos h2]; exact ⟨_, rfl⟩
    · rw [if_neg h2] at h
      rw [if_neg h2, if_neg h2]
      by_cases h4 : x.n ≠ 0 ∧ (x.n ≠ 0 ∨ (0 : Int) < x.n)
      · rw [if_pos h4, if_neg h4.1, if_pos (.inl hi)]; exact ⟨_, rfl⟩
      · rw [if_neg h4] at h; exact absurd rfl h
theorem wordE_next {x : Word} {r nn : Int} (h : wordE x (r + 1) nn = 0) (hn : x.n ≠ 0) : r + 1 ≤ nn := by
  unfold wordE at h
  by_cases h1 : badW x = true
  · rw [if_pos h1] at h; cases h
  · rw [if_neg h1] at h
    by_cases h2 : x.t ≠ 0 ∧ x.t ≠ 1
    · rw [if_pos h2] at h; cases h
    · rw [if_neg h2] at h
      by_cases h4 : x.n ≠ 0 ∧ (x.n ≠ r + 1 ∨ nn < x.n)
      · rw [if_pos h4] at h; cases h
      · omega
theorem endP_err {nn : Nat} {e n : Int} (h : e ≠ 0) : endP nn (e, n) = e := by unfold endP; rw [if_pos h]
theorem endP_ok {nn : Nat} {q : Int} : endP nn (0, q) = if q ≠ nn then 3 else 0 := by unfold endP; rw [if_neg (by simp)]
set_option maxRecDepth 100000 in
set_option maxHeartbeats 4000000 in
theorem rcheck_any (A B : Option Addr) (c d : Nat) (a b : List (List Word)) (w : World) (ha : Sl w (fun b => b < w.heap.size) A c a) (hb : Sl w (fun b => b < w.heap.size) B d b) (hla : a.length ≤ 1048576) (hlb : b.length ≤ 1048576) :
    Calls Tryd.prog 26 #[.agg #[.slice A a.length c, .slice B b.length d]] w fun e w' => e = .returned (.int .i64 (chkOf a b)) ∧ Below w.heap.size w w' := by
  have hb0 := ((Below.refl w.heap.size w).alloc (Nat.le_refl _) (.cells #[.slice A a.length c, .slice B b.length d] 41))
  have HA := Lib.hid (ha.to hb0)
  have HBs := Lib.hid (hb.to hb0)
  have Hb0 := Lib.hid hb0
  have HY : Hid (TBox (w.alloc (.cells #[.slice A a.length c, .slice B b.length d] 41)) w.heap.size (.slice A a.length c) (.slice B b.length d)) := Lib.hid ⟨heap_alloc_new w _⟩
  have HZ0 := Lib.hid (chk_sz0 (a := a) (b := b))
  have HZ1 := Lib.hid (chk_sz1 (a := a) (b := b))
  generalize chkOf a b = res at *
  clear ha hb hb0
  go_enter Tryd.func26, Tryd.ntmps26
  go_wp2_with fail
  refine (sizes_any A B c d a b _ HA.out HBs.out).mono ?_
  rintro e w1 ⟨rfl, hb1⟩
  have Hb1 := Lib.hid (Hb0.out.trans (hb1.mono Hb0.out.size))
  have HA1 := Lib.hid (HA.out.to hb1)
  have HB1 := Lib.hid (HBs.out.to hb1)
  have HY1 := Lib.hid (HY.out.below hb1)
  clear hb1 HA HBs HY Hb0
  by_cases hz : szE a b = 0
  · have HC := Lib.hid (HZ1.out hz)
    rw [hz]
    clear hz HZ0 HZ1
    go_wp2_with fail
    have hylt := HY1.out.lt
    go_loopw [3, 4, 5, 6] (fun _ n i _ wr => ∃ k : Nat, k ≤ a.length ∧ i = .int .i64 k ∧ (∃ q : Nat, q ≤ b.length ∧ n = .int .i64 ((q : Int) + 1) ∧ Hid (scanP a.length b.length 0 0 (a ++ b) = scanP a.length b.length k q ((a ++ b).drop k))) ∧ Below w1.heap.size w1 wr) (fun _ _ i _ _ => a.length - (intOf i).toNat)
    case atStart => exact ⟨0, Nat.zero_le _, rfl, ⟨0, Nat.zero_le _, rfl, rfl⟩, Below.refl _ _⟩
    case round =>
      obtain ⟨k, hk, rfl, ⟨q, hq, rfl, hsc⟩, hb2⟩ := hrel
      have Hb2 := Lib.hid hb2
      have y0 := (HY1.out.below hb2).c0
      have y1 := (HY1.out.below hb2).c1
      clear hb2
      by_cases hlt : k < a.length
      · obtain ⟨bb, o, Ap, cp, rfl, _, hbl, hc, hp⟩ := part_at (HA1.out.to Hb2.out) hlt
        have hkl : (k : Int) < (a.length : Int) := by omega
        have hk0 : (0 : Int) ≤ (k : Int) := by omega
        have hlab : k < (a ++ b).length := by rw [List.length_append]; omega
        have hab : (a ++ b)[k] = a[k] := List.getElem_append_left hlt
        have HPo := Lib.hid (fun n' h => scanP_ok (np := a.length) (nn := b.length) (notes := (q : Int)) (n' := n') hlab h)
        have HPe := Lib.hid (fun n' e h he => scanP_err (np := a.length) (nn := b.length) (notes := (q : Int)) (n' := n') (e := e) hlab h he)
        rw [hab] at HPo HPe
        have h2 : a[k].length ≤ 9223372036854775807 := by have := hp.1; have := hp.2.1; unfold maxLen at this; omega
        generalize a[k] = p at *
        have Hp := Lib.hid hp
        have HKA := Lib.hid hlt
        clear hp hab hlab
        go_wp2_with fail
        obtain ⟨wo, rfl⟩ : ∃ wo : World, wo = wr := ⟨_, rfl⟩
        go_loopw [3, 4, 6] (fun _ n i wr => ∃ j : Nat, j ≤ p.length ∧ i = .int .i64 j ∧ (∃ r : Nat, r ≤ b.length ∧ n = .int .i64 ((r : Int) + 1) ∧ Hid (scanW a.length b.length k q p = scanW a.length b.length k r (p.drop j))) ∧ Below wo.heap.size wo wr) (fun _ _ i _ => p.length - (intOf i).toNat)
        case atStart => exact ⟨0, Nat.zero_le _, rfl, ⟨q, hq, rfl, rfl⟩, Below.refl _ _⟩
        case round =>
          clear y0 y1
          obtain ⟨j, hj, rfl, ⟨r, hr, rfl, hsw⟩, hb3⟩ := hrel
          have Hb3 := Lib.hid hb3
          have hz3 := hb3.size
          have y0 := ((HY1.out.below Hb2.out).below hb3).c0
          have y1 := ((HY1.out.below Hb2.out).below hb3).c1
          have hyl := ((HY1.out.below Hb2.out).below hb3).lt
          have hc3 := (hb3.cell (p := ⟨bb, o + k, none⟩) hbl).trans hc
          have hbl3 := World.block_lt_of_cell? wr _ hc3
          clear hb3
          by_cases hjl : j < p.length
          · obtain ⟨b3, o3, rfl, _, hblw, hok, d0, d1, d2, d3⟩ := word_at (Hp.out.to Hb3.out) hjl
            have hj1 : (j : Int) < (p.length : Int) := by omega
            have hj0 : (0 : Int) ≤ (j : Int) := by omega
            have HWo := Lib.hid (fun n' h => scanW_ok (np := a.length) (nn := b.length) (i := k) (notes := (r : Int)) (n' := n') hjl h)
            have HWe := Lib.hid (fun n' e h he => scanW_err (np := a.length) (nn := b.length) (i := k) (notes := (r : Int)) (n' := n') (e := e) hjl h he)
            generalize p[j] = x at *
            have HOK := Lib.hid hok
            have HSB := Lib.hid (fun h => step_body (np := a.length) (nn := b.length) (i := k) (r := (r : Int)) (x := x) HKA.out h)
            have HSE := Lib.hid (fun h => step_berr (np := a.length) (nn := b.length) (i := k) (r := (r : Int)) (x := x) HKA.out h)
            have HNX := Lib.hid (fun h hn => wordE_next (x := x) (r := (r : Int)) (nn := (b.length : Int)) h hn)
            have HV := Lib.hid (fun W => vword_any x ((r : Int) + 1) (b.length : Int) W HOK.out)
            generalize wordE x ((r : Int) + 1) (b.length : Int) = e at *
            clear hok
            go_wp2_with fail
            refine wp_region_calm (by kernel_rfl) (by kernel_rfl) ?_
            intro T hT f hf hg
            have a0 : ∀ d, (f d).cell? ⟨w.heap.size, 0, none⟩ = _ := fun d => ((hf d).cell (p := ⟨w.heap.size, 0, none⟩) hyl).trans y0
            have a1 : ∀ d, (f d).cell? ⟨w.heap.size, 1, none⟩ = _ := fun d => ((hf d).cell (p := ⟨w.heap.size, 1, none⟩) hyl).trans y1
            have a2 : ∀ d, (f d).cell? ⟨bb, o + k, none⟩ = _ := fun d => ((hf d).cell (p := ⟨bb, o + k, none⟩) hbl3).trans hc3
            have e0 : ∀ d, (f d).cell? ⟨b3, o3 + j * 4, none⟩ = _ := fun d => ((hf d).cell (p := ⟨b3, o3 + j * 4, none⟩) hblw).trans d0
            have e1 : ∀ d, (f d).cell? ⟨b3, o3 + j * 4 + 1, none⟩ = _ := fun d => ((hf d).cell (p := ⟨b3, o3 + j * 4 + 1, none⟩) hblw).trans d1
            have e2 : ∀ d, (f d).cell? ⟨b3, o3 + j * 4 + 2, none⟩ = _ := fun d => ((hf d).cell (p := ⟨b3, o3 + j * 4 + 2, none⟩) hblw).trans d2
            have e3 : ∀ d, (f d).cell? ⟨b3, o3 + j * 4 + 3, none⟩ = _ := fun d => ((hf d).cell (p := ⟨b3, o3 + j * 4 + 3, none⟩) hblw).trans d3
            have HF5 := Lib.hid hf
            have HG5 := Lib.hid hg
            clear hf hg
            repeat (go_big_quiet_step (first
              | (go_at_call 49; refine (HV.out _).mono ?_; rintro e w9 ⟨rfl, hb9⟩; exact ⟨rfl, HG5.out _ _ hb9⟩)))
            refine wpQuiet_nil ?_
            rintro _ ⟨nq, rfl⟩
            have Hd := Lib.hid (Hb3.out.trans ((HF5.out nq).mono hz3))
            have f0 := a0 nq
            have f2 := a2 nq
            have f3 := e3 nq
            clear HF5 HG5 a0 a1 a2 e0 e1 e2 e3
            generalize f nq = wd at *
            by_cases he : e = 0
            · have hst := Lib.hid (HSB.out he)
              subst he
              by_cases hn0 : x.n = 0
              · have E2 := Lib.hid (show scanW a.length b.length k q p = scanW a.length b.length k (r : Int) (p.drop (j + 1)) by rw [hsw.out]; exact HWo.out _ (by rw [hst.out, if_pos hn0]))
                have hB : (x.n != 0) = false := by rw [hn0]; rfl
                clear hn0
                go_wp2_with fail
                go_roundw
                case rel => exact ⟨j + 1, by omega, by go_num, ⟨r, hr, by go_num, E2.out⟩, Hd.out⟩
                case measure => simp [intOf]; omega
              · have E2 := Lib.hid (show scanW a.length b.length k q p = scanW a.length b.length k ((r + 1 : Nat) : Int) (p.drop (j + 1)) by rw [hsw.out]; exact HWo.out _ (by rw [hst.out, if_neg hn0]; rfl))
                have hB : (x.n != 0) = true := bne_iff_ne.2 hn0
                have hr1 := HNX.out rfl hn0
                clear hn0
                go_wp2_with fail
                go_roundw
                case rel => exact ⟨j + 1, by omega, by go_num, ⟨r + 1, by omega, by go_num, E2.out⟩, Hd.out⟩
                case measure => simp [intOf]; omega
            · obtain ⟨n', hst⟩ := HSE.out he
              have E := Lib.hid (show res = e by rw [HC.out, hsc.out, HPe.out n' e (by rw [hsw.out]; exact HWe.out n' e hst he) he, endP_err he])
              have hB : (e != 0) = true := bne_iff_ne.2 he
              have Hbe := Lib.hid (Hb1.out.trans ((Hb2.out.trans (Hd.out.mono Hb2.out.size)).mono Hb1.out.size))
              clear he hst
              go_wp2_with fail
              go_ret
              exact ⟨ret_int E.out.symm, Hbe.out⟩
          · have hj1 : ¬ (j : Int) < (p.length : Int) := by omega
            have E := Lib.hid (show scanP a.length b.length 0 0 (a ++ b) = scanP a.length b.length (k + 1) (r : Int) ((a ++ b).drop (k + 1)) by
              rw [hsc.out]; exact HPo.out _ (by rw [hsw.out, List.drop_of_length_le (by omega)]; rfl))
            have Hb4 := Lib.hid (Hb2.out.trans (Hb3.out.mono Hb2.out.size))
            go_wp2_with fail
            go_roundw
            case rel => exact ⟨k + 1, by have := HKA.out; omega, by go_num, ⟨r, hr, by go_num, E.out⟩, Hb4.out⟩
            case measure => simp [intOf]; omega
      · have hkl : ¬ (k : Int) < (a.length : Int) := by omega
        obtain rfl : k = a.length := by omega
        go_wp2_with fail
        obtain ⟨w2, rfl⟩ : ∃ w2 : World, w2 = wr := ⟨_, rfl⟩
        go_loopw [3, 7, 8] (fun _ i _ wr => ∃ k : Nat, k ≤ b.length ∧ i = .int .i64 k ∧ Hid (scanP a.length b.length 0 0 (a ++ b) = scanP a.length b.length (a.length + k) q ((a ++ b).drop (a.length + k))) ∧ Below w2.heap.size w2 wr) (fun _ i _ _ => b.length - (intOf i).toNat)
        case atStart => exact ⟨0, Nat.zero_le _, rfl, hsc, Below.refl _ _⟩
        case round =>
          clear hsc hkl hlt hk y0 y1
          obtain ⟨k, hk, rfl, hsc, hb2'⟩ := hrel
          have Hb2' := Lib.hid (Hb2.out.trans (hb2'.mono Hb2.out.size))
          have Hbr := Lib.hid hb2'
          have y0 := (HY1.out.below Hb2'.out).c0
          have y1 := (HY1.out.below Hb2'.out).c1
          clear hb2'
          by_cases hlt : k < b.length
          · obtain ⟨bb, o, Ap, cp, rfl, _, hbl, hc, hp⟩ := part_at (HB1.out.to Hb2'.out) hlt
            have hkl : (k : Int) < (b.length : Int) := by omega
            have hk0 : (0 : Int) ≤ (k : Int) := by omega
            have hlab : a.length + k < (a ++ b).length := by rw [List.length_append]; omega
            have hab : (a ++ b)[a.length + k] = b[k] := by rw [List.getElem_append_right (by omega)]; congr 1; omega
            have HPo := Lib.hid (fun n' h => scanP_ok (np := a.length) (nn := b.length) (notes := (q : Int)) (n' := n') hlab h)
            have HPe := Lib.hid (fun n' e h he => scanP_err (np := a.length) (nn := b.length) (notes := (q : Int)) (n' := n') (e := e) hlab h he)
            rw [hab] at HPo HPe
            have h2 : b[k].length ≤ 9223372036854775807 := by have := hp.1; have := hp.2.1; unfold maxLen at this; omega
            generalize b[k] = p at *
            have Hp := Lib.hid hp
            clear hp hab hlab
            go_wp2_with fail
            obtain ⟨wo, rfl⟩ : ∃ wo : World, wo = wr := ⟨_, rfl⟩
            go_loopw [3, 8] (fun _ i wr => ∃ j : Nat, j ≤ p.length ∧ i = .int .i64 j ∧ Hid (scanW a.length b.length (a.length + k) q p = scanW a.length b.length (a.length + k) q (p.drop j)) ∧ Below wo.heap.size wo wr) (fun _ i _ => p.length - (intOf i).toNat)
            case atStart => exact ⟨0, Nat.zero_le _, rfl, rfl, Below.refl _ _⟩
            case round =>
              clear y0 y1
              obtain ⟨j, hj, rfl, hsw, hb3⟩ := hrel
              have Hb3 := Lib.hid hb3
              have hz3 := hb3.size
              have y0 := ((HY1.out.below Hb2'.out).below hb3).c0
              have y1 := ((HY1.out.below Hb2'.out).below hb3).c1
              have hc3 := (hb3.cell (p := ⟨bb, o + k, none⟩) hbl).trans hc
              clear hb3
              by_cases hjl : j < p.length
              · obtain ⟨b3, o3, rfl, _, hblw, hok, d0, d1, d2, d3⟩ := word_at (Hp.out.to Hb3.out) hjl
                have hj1 : (j : Int) < (p.length : Int) := by omega
                have hj0 : (0 : Int) ≤ (j : Int) := by omega
                have HWo := Lib.hid (fun n' h => scanW_ok (np := a.length) (nn := b.length) (i := a.length + k) (notes := (q : Int)) (n' := n') hjl h)
                have HWe := Lib.hid (fun n' e h he => scanW_err (np := a.length) (nn := b.length) (i := a.length + k) (notes := (q : Int)) (n' := n') (e := e) hjl h he)
                generalize p[j] = x at *
                have HOK := Lib.hid hok
                have HSB := Lib.hid (fun h => step_note0 (np := a.length) (nn := b.length) (i := a.length + k) (r := (q : Int)) (x := x) (Nat.le_add_right _ _) h)
                have HSE := Lib.hid (fun h => step_nerr (np := a.length) (nn := b.length) (i := a.length + k) (r := (q : Int)) (x := x) (Nat.le_add_right _ _) h)
                have HV := Lib.hid (fun W => vword_any x 0 0 W HOK.out)
                generalize wordE x 0 0 = e at *
                clear hok
                go_wp2_with fail
                refine (HV.out _).mono ?_
                rintro e9 w9 ⟨rfl, hb9⟩
                have Hd := Lib.hid (Hb3.out.trans (hb9.mono hz3))
                clear hb9
                by_cases he : e = 0
                · have hst := Lib.hid (HSB.out he)
                  subst he
                  have E2 := Lib.hid (show scanW a.length b.length (a.length + k) q p = scanW a.length b.length (a.length + k) (q : Int) (p.drop (j + 1)) by rw [hsw.out]; exact HWo.out _ hst.out)
                  go_wp2_with fail
                  go_roundw
                  case rel => exact ⟨j + 1, by omega, by go_num, E2.out, Hd.out⟩
                  case measure => simp [intOf]; omega
                · obtain ⟨n', hst⟩ := HSE.out he
                  have E := Lib.hid (show res = e by rw [HC.out, hsc.out, HPe.out n' e (by rw [hsw.out]; exact HWe.out n' e hst he) he, endP_err he])
                  have hB : (e != 0) = true := bne_iff_ne.2 he
                  have Hbe := Lib.hid (Hb1.out.trans ((Hb2'.out.trans (Hd.out.mono Hb2'.out.size)).mono Hb1.out.size))
                  clear he hst
                  go_wp2_with fail
                  go_ret
                  exact ⟨ret_int E.out.symm, Hbe.out⟩
              · have hj1 : ¬ (j : Int) < (p.length : Int) := by omega
                have E := Lib.hid (show scanP a.length b.length 0 0 (a ++ b) = scanP a.length b.length (a.length + (k + 1)) (q : Int) ((a ++ b).drop (a.length + (k + 1))) by
                  rw [hsc.out]; exact HPo.out _ (by rw [hsw.out, List.drop_of_length_le (by omega)]; rfl))
                have Hb4 := Lib.hid (Hbr.out.trans (Hb3.out.mono Hbr.out.size))
                go_wp2_with fail
                go_roundw
                case rel => exact ⟨k + 1, by omega, by go_num, E.out, Hb4.out⟩
                case measure => simp [intOf]; omega
          · have hkl : ¬ (k : Int) < (b.length : Int) := by omega
            have E := Lib.hid (show res = if (q : Int) ≠ b.length then 3 else 0 by
              rw [HC.out, hsc.out, List.drop_of_length_le (by rw [List.length_append]; omega), scanP, endP_ok])
            have Hbe := Lib.hid (Hb1.out.trans (Hb2'.out.mono Hb1.out.size))
            by_cases hqb : q = b.length
            · have E2 := Lib.hid (show res = 0 by rw [E.out, if_neg (by simp [hqb])])
              subst hqb
              go_wp2_with fail
              go_ret
              exact ⟨ret_int E2.out.symm, Hbe.out⟩
            · have E2 := Lib.hid (show res = 3 by rw [E.out, if_pos (by omega)])
              have hB : ((q : Int) + 1 != (b.length : Int) + 1) = true := bne_iff_ne.2 (by omega)
              clear hqb
              go_wp2_with fail
              go_ret
              exact ⟨ret_int E2.out.symm, Hbe.out⟩
  · have E := Lib.hid (HZ0.out hz)
    have hB : (szE a b != 0) = true := bne_iff_ne.2 hz
    clear hz HZ0 HZ1
    generalize szE a b = e at *
    go_wp2_with fail
    go_ret
    exact ⟨ret_int E.out.symm, Hb1.out⟩
end Go.Proofs.YtgnblofjjondpaaDoor
