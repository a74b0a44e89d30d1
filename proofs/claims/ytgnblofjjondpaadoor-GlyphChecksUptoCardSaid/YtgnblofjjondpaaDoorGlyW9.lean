/- Check of the program returns the specified error. No condition but that the sizes fit. -/
import Derived.Test.YtgnblofjjondpaaDoorGlyLaw1
namespace Go.Proofs.YtgnblofjjondpaaDoor
open Go.RowKit
theorem tl_len (s : ByteArray) : ∀ n i r, s.size - i = n → (ByteArray.toList.loop s i r).length = r.length + n := by
  intro n
  induction n with
  | zero => intro i r h; rw [ByteArray.toList.loop, if_neg (by omega)]; simp
  | succ n ih => intro i r h; rw [ByteArray.toList.loop, if_pos (by omega), ih (i + 1) _ (by omega)]; simp; omega
theorem tl_size (s : ByteArray) : s.toList.length = s.size := by
  unfold ByteArray.toList; rw [tl_len s s.size 0 [] (by omega)]; simp
theorem key_nil {s : ByteArray} (h : s = ⟨#[]⟩) : s.toList = [] ∧ (!s.toList.isEmpty) = false := by
  have : s.toList = [] := List.eq_nil_of_length_eq_zero (by rw [tl_size, h]; rfl)
  rw [this]; simp
theorem key_some {s : ByteArray} (h : s ≠ ⟨#[]⟩) : ¬ s.toList = [] ∧ (!s.toList.isEmpty) = true := by
  have : ¬ s.toList = [] := by
    intro e
    apply h
    have h2 := tl_size s
    rw [e] at h2
    apply ByteArray.ext
    exact Array.eq_empty_of_size_eq_zero h2.symm
  exact ⟨this, by cases hl : s.toList with | nil => exact absurd hl this | cons a r => rfl⟩
set_option maxRecDepth 100000 in
set_option maxHeartbeats 4000000 in
theorem gcheck_any (A B : Option Addr) (c d : Nat) (a b : List (List Word)) (w : World) (hT : Laid w) (ha : Sl w (fun b => b < w.heap.size) A c a) (hb : Sl w (fun b => b < w.heap.size) B d b) (hla : a.length ≤ 1048576) (hlb : b.length ≤ 1048576) :
    Calls Tryd.prog 25 #[.agg #[.slice A a.length c, .slice B b.length d]] w fun e w' => e = .returned (.int .i64 (chkOf a b)) ∧ Below w.heap.size w w' := by
  have hb0 := ((Below.refl w.heap.size w).alloc (Nat.le_refl _) (.cells #[.slice A a.length c, .slice B b.length d] 41))
  have hb1 := hb0.alloc (by simp) (.cells #[.slice A a.length c, .slice B b.length d] 39)
  have Hb1 := Lib.hid hb1
  have Ha := Lib.hid (ha.to hb1)
  have Hb := Lib.hid (hb.to hb1)
  have HT := Lib.hid hT
  have q0 : ((w.alloc (.cells #[.slice A a.length c, .slice B b.length d] 41)).alloc (.cells #[.slice A a.length c, .slice B b.length d] 39)).cell? ⟨w.heap.size + 1, 0, none⟩ = some (.slice A a.length c) := by go_simp
  have q1 : ((w.alloc (.cells #[.slice A a.length c, .slice B b.length d] 41)).alloc (.cells #[.slice A a.length c, .slice B b.length d] 39)).cell? ⟨w.heap.size + 1, 1, none⟩ = some (.slice B b.length d) := by go_simp
  have Q0 := Lib.hid q0
  have Q1 := Lib.hid q1
  have TB0 := Lib.hid ((Below.heap_alloc (w.alloc (.cells #[.slice A a.length c, .slice B b.length d] 41)) (.cells #[.slice A a.length c, .slice B b.length d] 39) w.heap.size (by simp)).trans (heap_alloc_new w (.cells #[.slice A a.length c, .slice B b.length d] 41)))
  have hz0 : w.heap.size < ((w.alloc (.cells #[.slice A a.length c, .slice B b.length d] 41)).alloc (.cells #[.slice A a.length c, .slice B b.length d] 39)).heap.size := by simp; omega
  clear ha hb hb0 hb1 q0 q1 hT
  have HC := Lib.hid (show chkOf a b = if 100 < a.length ∨ 100 < b.length ∨ anyLen longP (a ++ b) = true then 2 else if anyLen emptyP (a ++ b) = true then 1 else endP b.length (scanP a.length b.length 0 0 (a ++ b)) from rfl)
  generalize chkOf a b = res at *
  go_enter Tryd.func25, Tryd.ntmps25
  go_wp2_with fail
  refine (concat_any _ A B c d a b _ Q0.out Q1.out Ha.out Hb.out hla hlb).mono ?_
  rintro e w1 ⟨v, rfl, hown, hbb⟩
  obtain ⟨A1, c1, rfl, hs⟩ := hown.sl
  have hll : (a ++ b).length ≤ 2097152 := by simp; omega
  generalize a ++ b = l at *
  have Hs := Lib.hid hs
  have Hbb := Lib.hid (Hb1.out.trans (hbb.mono Hb1.out.size))
  have TB := Lib.hid ((hbb.block _ hz0).trans TB0.out)
  have hz1 : w.heap.size < w1.heap.size := Nat.lt_of_lt_of_le hz0 hbb.size
  obtain ⟨t0, t1⟩ := text_box TB.out
  clear hs hown hbb Ha Hb Q0 Q1 Hb1 TB0 hz0
  by_cases h1 : 100 < a.length
  · have E := Lib.hid (show res = 2 by rw [HC.out, if_pos (.inl h1)])
    have h1' : (100 : Int) < (a.length : Int) := by omega
    go_wp2_with fail
    go_ret
    exact ⟨ret_int E.out.symm, Hbb.out⟩
  · have h1' : ¬ (100 : Int) < (a.length : Int) := by omega
    by_cases h2 : 100 < b.length
    · have E := Lib.hid (show res = 2 by rw [HC.out, if_pos (.inr (.inl h2))])
      have h2' : (100 : Int) < (b.length : Int) := by omega
      go_wp2_with fail
      go_ret
      exact ⟨ret_int E.out.symm, Hbb.out⟩
    · have h2' : ¬ (100 : Int) < (b.length : Int) := by omega
      go_wp2_with fail
      refine (containsFunc_any A1 c1 _ l 46 longP w1 Hs.out rfl (fun _ _ => by kernel_rfl) long_any).mono ?_
      rintro e w2 ⟨rfl, rfl⟩
      cases h3 : anyLen longP l
      · have h3' := Lib.hid h3
        clear h3
        go_wp2_with fail
        refine (containsFunc_any A1 c1 _ l 47 emptyP w1 Hs.out rfl (fun _ _ => by kernel_rfl) empty_any).mono ?_
        rintro e w2 ⟨rfl, rfl⟩
        cases h4 : anyLen emptyP l
        · have E := Lib.hid (show res = endP b.length (scanP a.length b.length 0 0 l) by rw [HC.out, if_neg (by rw [h3'.out]; simp; omega), if_neg (by rw [h4]; simp)])
          clear h4 h3' HC
          go_wp2_with fail
          have hnn : b.length ≤ 100 := by omega
          clear h1 h2 t0 t1
          go_loopw [4, 5, 6, 8, 33] (fun n _ _ _ i wr => ∃ k : Nat, k ≤ l.length ∧ i = .int .i64 k ∧ (∃ q : Nat, q ≤ b.length ∧ n = .int .i64 (q : Int) ∧ Hid (scanP a.length b.length 0 0 l = scanP a.length b.length k q (l.drop k))) ∧ Below w1.heap.size w1 wr) (fun _ _ _ _ i _ => l.length - (intOf i).toNat)
          case atStart => exact ⟨0, Nat.zero_le _, rfl, ⟨0, Nat.zero_le _, rfl, rfl⟩, Below.refl _ _⟩
          case round =>
            obtain ⟨k, hk, rfl, ⟨q, hq, rfl, hsc⟩, hb2⟩ := hrel
            have Hb2 := Lib.hid hb2
            clear hb2
            by_cases hlt : k < l.length
            · obtain ⟨bb, o, Ap, cp, rfl, _, hbl, hc, hp⟩ := part_at (Hs.out.to Hb2.out) hlt
              have hkl : (k : Int) < (l.length : Int) := by omega
              have hk0 : (0 : Int) ≤ (k : Int) := by omega
              have HPo := Lib.hid (fun n' h => scanP_ok (np := a.length) (nn := b.length) (notes := (q : Int)) (n' := n') hlt h)
              have HPe := Lib.hid (fun n' e h he => scanP_err (np := a.length) (nn := b.length) (notes := (q : Int)) (n' := n') (e := e) hlt h he)
              have h2 : l[k].length ≤ 9223372036854775807 := by have := hp.1; have := hp.2.1; unfold maxLen at this; omega
              generalize l[k] = p at *
              have Hp := Lib.hid hp
              clear hp
              go_wp2_with fail
              obtain ⟨wo, rfl⟩ : ∃ wo : World, wo = wr := ⟨_, rfl⟩
              go_loopw [4, 8, 40] (fun n _ i wr => ∃ j : Nat, j ≤ p.length ∧ i = .int .i64 j ∧ (∃ r : Nat, r ≤ b.length ∧ n = .int .i64 (r : Int) ∧ Hid (scanW a.length b.length k q p = scanW a.length b.length k r (p.drop j))) ∧ Below wo.heap.size wo wr) (fun _ _ i _ => p.length - (intOf i).toNat)
              case atStart => exact ⟨0, Nat.zero_le _, rfl, ⟨q, hq, rfl, rfl⟩, Below.refl _ _⟩
              case round =>
                obtain ⟨j, hj, rfl, ⟨r, hr, rfl, hsw⟩, hb3⟩ := hrel
                have Hb3 := Lib.hid hb3
                have hz3 := hb3.size
                clear hb3
                by_cases hjl : j < p.length
                · obtain ⟨b3, o3, rfl, _, hbl3, hok, d0, d1, d2, d3⟩ := word_at (Hp.out.to Hb3.out) hjl
                  have hj1 : (j : Int) < (p.length : Int) := by omega
                  have hj0 : (0 : Int) ≤ (j : Int) := by omega
                  have HWo := Lib.hid (fun n' h => scanW_ok (np := a.length) (nn := b.length) (i := k) (notes := (r : Int)) (n' := n') hjl h)
                  have HWe := Lib.hid (fun n' e h he => scanW_err (np := a.length) (nn := b.length) (i := k) (notes := (r : Int)) (n' := n') (e := e) hjl h he)
                  generalize p[j] = x at *
                  have hx2 := hok.2.2.1
                  have hx3 := hok.2.2.2
                  have Hb4 := Lib.hid (Hb3.out.alloc hz3 (.cells #[.string x.s, .string x.key, .int .i64 x.t, .int .i64 x.n] 36))
                  have Hb24 := Lib.hid (Hb2.out.trans (Hb4.out.mono Hb2.out.size))
                  have HL4 := Lib.hid ((HT.out.to Hbb.out).to Hb24.out)
                  have TB4 := Lib.hid ((Hb24.out.block _ hz1).trans TB.out)
                  go_wp2_with fail
                  refine (gvalid_any x.s _ HL4.out).mono ?_
                  rintro e w' ⟨rfl, rfl⟩
                  have HErr := Lib.hid (fun n' e h he => (show res = e by rw [E.out, hsc.out, HPe.out n' e (by rw [hsw.out]; exact HWe.out n' e h he) he]; unfold endP; rw [if_pos he]))
                  cases hvs : valid x.s
                  · have E2 := Lib.hid (HErr.out _ _ (step_bad (bad_s hvs)) (by decide))
                    clear hvs
                    go_wp2_with fail
                    go_ret
                    exact ⟨ret_int E2.out.symm, Hbb.out.trans (Hb24.out.mono Hbb.out.size)⟩
                  · have Hvs := Lib.hid hvs
                    clear hvs
                    by_cases hke : x.key = ⟨#[]⟩
                    · obtain ⟨k1, k2⟩ := key_nil hke
                      have Hke := Lib.hid hke
                      clear hke
                      have hgood := Lib.hid (good_nokey Hvs.out Hke.out)
                      by_cases ht : x.t = 0 ∨ x.t = 1
                      · have ht' := Lib.hid ht
                        obtain ⟨t0, t1⟩ := text_box TB4.out
                        by_cases hn0 : x.n = 0
                        · have hB : (x.n != 0) = false := by rw [hn0]; rfl
                          have hst := Lib.hid (step_plain (np := a.length) (nn := b.length) (i := k) (notes := (r : Int)) hgood.out ht hn0)
                          clear hn0
                          rcases ht with ht0 | ht0
                          · have hB0 : (x.t != 0) = false := by rw [ht0]; rfl
                            clear ht0
                            have E2 := Lib.hid (show scanW a.length b.length k q p = scanW a.length b.length k (r : Int) (p.drop (j + 1)) by rw [hsw.out]; exact HWo.out _ (hst.out))
                            clear HErr
                            go_wp2_with fail
                            go_roundw
                            case rel => exact ⟨j + 1, by omega, by go_num, ⟨r, by omega, by go_num, E2.out⟩, Hb4.out⟩
                            case measure => simp [intOf]; omega
                          · have hB0 : (x.t != 1) = false := by rw [ht0]; rfl
                            have hB1 : (x.t != 0) = true := by rw [ht0]; rfl
                            clear ht0
                            have E2 := Lib.hid (show scanW a.length b.length k q p = scanW a.length b.length k (r : Int) (p.drop (j + 1)) by rw [hsw.out]; exact HWo.out _ (hst.out))
                            clear HErr
                            go_wp2_with fail
                            go_roundw
                            case rel => exact ⟨j + 1, by omega, by go_num, ⟨r, by omega, by go_num, E2.out⟩, Hb4.out⟩
                            case measure => simp [intOf]; omega
                        · have hB : (x.n != 0) = true := bne_iff_ne.2 hn0
                          by_cases hh : a.length ≤ k ∨ x.n ≠ (r : Int) + 1 ∨ (b.length : Int) < (r : Int) + 1
                          · have hst := Lib.hid (step_far (np := a.length) (nn := b.length) (i := k) (notes := (r : Int)) hgood.out ht hn0 hh)
                            clear hn0
                            rcases ht with ht0 | ht0
                            · have hB0 : (x.t != 0) = false := by rw [ht0]; rfl
                              clear ht0
                              have E2 := Lib.hid (HErr.out _ _ hst.out (by decide))
                              by_cases hk1 : (a.length : Int) ≤ (k : Int)
                              · clear hh
                                go_wp2_with fail
                                go_ret
                                exact ⟨ret_int E2.out.symm, Hbb.out.trans (Hb24.out.mono Hbb.out.size)⟩
                              · by_cases hk2 : x.n = (r : Int) + 1
                                · have hB2 : (x.n != (r : Int) + 1) = false := by rw [hk2]; simp
                                  have hk3 : (b.length : Int) < (r : Int) + 1 := by omega
                                  clear hh hk2
                                  go_wp2_with fail
                                  go_ret
                                  exact ⟨ret_int E2.out.symm, Hbb.out.trans (Hb24.out.mono Hbb.out.size)⟩
                                · have hB2 : (x.n != (r : Int) + 1) = true := bne_iff_ne.2 hk2
                                  clear hh hk2
                                  go_wp2_with fail
                                  go_ret
                                  exact ⟨ret_int E2.out.symm, Hbb.out.trans (Hb24.out.mono Hbb.out.size)⟩
                            · have hB0 : (x.t != 1) = false := by rw [ht0]; rfl
                              have hB1 : (x.t != 0) = true := by rw [ht0]; rfl
                              clear ht0
                              have E2 := Lib.hid (HErr.out _ _ hst.out (by decide))
                              by_cases hk1 : (a.length : Int) ≤ (k : Int)
                              · clear hh
                                go_wp2_with fail
                                go_ret
                                exact ⟨ret_int E2.out.symm, Hbb.out.trans (Hb24.out.mono Hbb.out.size)⟩
                              · by_cases hk2 : x.n = (r : Int) + 1
                                · have hB2 : (x.n != (r : Int) + 1) = false := by rw [hk2]; simp
                                  have hk3 : (b.length : Int) < (r : Int) + 1 := by omega
                                  clear hh hk2
                                  go_wp2_with fail
                                  go_ret
                                  exact ⟨ret_int E2.out.symm, Hbb.out.trans (Hb24.out.mono Hbb.out.size)⟩
                                · have hB2 : (x.n != (r : Int) + 1) = true := bne_iff_ne.2 hk2
                                  clear hh hk2
                                  go_wp2_with fail
                                  go_ret
                                  exact ⟨ret_int E2.out.symm, Hbb.out.trans (Hb24.out.mono Hbb.out.size)⟩
                          · have hst := Lib.hid (step_note (np := a.length) (nn := b.length) (i := k) (notes := (r : Int)) hgood.out ht hn0 hh)
                            have hk1 : ¬ (a.length : Int) ≤ (k : Int) := by omega
                            have hB2 : (x.n != (r : Int) + 1) = false := by rw [show x.n = (r : Int) + 1 by omega]; simp
                            have hk3 : ¬ (b.length : Int) < (r : Int) + 1 := by omega
                            clear hn0 hh
                            rcases ht with ht0 | ht0
                            · have hB0 : (x.t != 0) = false := by rw [ht0]; rfl
                              clear ht0
                              have E2 := Lib.hid (show scanW a.length b.length k q p = scanW a.length b.length k ((r + 1 : Nat) : Int) (p.drop (j + 1)) by rw [hsw.out]; exact HWo.out _ (hst.out))
                              clear HErr
                              go_wp2_with fail
                              go_roundw
                              case rel => exact ⟨j + 1, by omega, by go_num, ⟨r + 1, by omega, by go_num, E2.out⟩, Hb4.out⟩
                              case measure => simp [intOf]; omega
                            · have hB0 : (x.t != 1) = false := by rw [ht0]; rfl
                              have hB1 : (x.t != 0) = true := by rw [ht0]; rfl
                              clear ht0
                              have E2 := Lib.hid (show scanW a.length b.length k q p = scanW a.length b.length k ((r + 1 : Nat) : Int) (p.drop (j + 1)) by rw [hsw.out]; exact HWo.out _ (hst.out))
                              clear HErr
                              go_wp2_with fail
                              go_roundw
                              case rel => exact ⟨j + 1, by omega, by go_num, ⟨r + 1, by omega, by go_num, E2.out⟩, Hb4.out⟩
                              case measure => simp [intOf]; omega
                      · have hst := Lib.hid (step_tab (np := a.length) (nn := b.length) (i := k) (notes := (r : Int)) hgood.out (by omega))
                        have hB0 : (x.t != 0) = true := bne_iff_ne.2 (by omega)
                        have hB1 : (x.t != 1) = true := bne_iff_ne.2 (by omega)
                        clear ht
                        have E2 := Lib.hid (HErr.out _ _ (hst.out) (by decide))
                        go_wp2_with fail
                        go_ret
                        exact ⟨ret_int E2.out.symm, Hbb.out.trans (Hb24.out.mono Hbb.out.size)⟩
                    · obtain ⟨k1, k2⟩ := key_some hke
                      have Hke := Lib.hid hke
                      clear hke
                      go_wp2_with fail
                      refine (gvalid_any x.key _ HL4.out).mono ?_
                      rintro e w' ⟨rfl, rfl⟩
                      cases hvk : valid x.key
                      · have hst := Lib.hid (step_bad (np := a.length) (nn := b.length) (i := k) (notes := (r : Int)) (bad_key Hke.out hvk))
                        clear hvk
                        have E2 := Lib.hid (HErr.out _ _ (hst.out) (by decide))
                        go_wp2_with fail
                        go_ret
                        exact ⟨ret_int E2.out.symm, Hbb.out.trans (Hb24.out.mono Hbb.out.size)⟩
                      · have Hvk := Lib.hid hvk
                        clear hvk
                        have hgood := Lib.hid (good_key Hvs.out Hvk.out)
                        by_cases ht : x.t = 0 ∨ x.t = 1
                        · have ht' := Lib.hid ht
                          obtain ⟨t0, t1⟩ := text_box TB4.out
                          by_cases hn0 : x.n = 0
                          · have hB : (x.n != 0) = false := by rw [hn0]; rfl
                            have hst := Lib.hid (step_plain (np := a.length) (nn := b.length) (i := k) (notes := (r : Int)) hgood.out ht hn0)
                            clear hn0
                            rcases ht with ht0 | ht0
                            · have hB0 : (x.t != 0) = false := by rw [ht0]; rfl
                              clear ht0
                              have E2 := Lib.hid (show scanW a.length b.length k q p = scanW a.length b.length k (r : Int) (p.drop (j + 1)) by rw [hsw.out]; exact HWo.out _ (hst.out))
                              clear HErr
                              go_wp2_with fail
                              go_roundw
                              case rel => exact ⟨j + 1, by omega, by go_num, ⟨r, by omega, by go_num, E2.out⟩, Hb4.out⟩
                              case measure => simp [intOf]; omega
                            · have hB0 : (x.t != 1) = false := by rw [ht0]; rfl
                              have hB1 : (x.t != 0) = true := by rw [ht0]; rfl
                              clear ht0
                              have E2 := Lib.hid (show scanW a.length b.length k q p = scanW a.length b.length k (r : Int) (p.drop (j + 1)) by rw [hsw.out]; exact HWo.out _ (hst.out))
                              clear HErr
                              go_wp2_with fail
                              go_roundw
                              case rel => exact ⟨j + 1, by omega, by go_num, ⟨r, by omega, by go_num, E2.out⟩, Hb4.out⟩
                              case measure => simp [intOf]; omega
                          · have hB : (x.n != 0) = true := bne_iff_ne.2 hn0
                            by_cases hh : a.length ≤ k ∨ x.n ≠ (r : Int) + 1 ∨ (b.length : Int) < (r : Int) + 1
                            · have hst := Lib.hid (step_far (np := a.length) (nn := b.length) (i := k) (notes := (r : Int)) hgood.out ht hn0 hh)
                              clear hn0
                              rcases ht with ht0 | ht0
                              · have hB0 : (x.t != 0) = false := by rw [ht0]; rfl
                                clear ht0
                                have E2 := Lib.hid (HErr.out _ _ hst.out (by decide))
                                by_cases hk1 : (a.length : Int) ≤ (k : Int)
                                · clear hh
                                  go_wp2_with fail
                                  go_ret
                                  exact ⟨ret_int E2.out.symm, Hbb.out.trans (Hb24.out.mono Hbb.out.size)⟩
                                · by_cases hk2 : x.n = (r : Int) + 1
                                  · have hB2 : (x.n != (r : Int) + 1) = false := by rw [hk2]; simp
                                    have hk3 : (b.length : Int) < (r : Int) + 1 := by omega
                                    clear hh hk2
                                    go_wp2_with fail
                                    go_ret
                                    exact ⟨ret_int E2.out.symm, Hbb.out.trans (Hb24.out.mono Hbb.out.size)⟩
                                  · have hB2 : (x.n != (r : Int) + 1) = true := bne_iff_ne.2 hk2
                                    clear hh hk2
                                    go_wp2_with fail
                                    go_ret
                                    exact ⟨ret_int E2.out.symm, Hbb.out.trans (Hb24.out.mono Hbb.out.size)⟩
                              · have hB0 : (x.t != 1) = false := by rw [ht0]; rfl
                                have hB1 : (x.t != 0) = true := by rw [ht0]; rfl
                                clear ht0
                                have E2 := Lib.hid (HErr.out _ _ hst.out (by decide))
                                by_cases hk1 : (a.length : Int) ≤ (k : Int)
                                · clear hh
                                  go_wp2_with fail
                                  go_ret
                                  exact ⟨ret_int E2.out.symm, Hbb.out.trans (Hb24.out.mono Hbb.out.size)⟩
                                · by_cases hk2 : x.n = (r : Int) + 1
                                  · have hB2 : (x.n != (r : Int) + 1) = false := by rw [hk2]; simp
                                    have hk3 : (b.length : Int) < (r : Int) + 1 := by omega
                                    clear hh hk2
                                    go_wp2_with fail
                                    go_ret
                                    exact ⟨ret_int E2.out.symm, Hbb.out.trans (Hb24.out.mono Hbb.out.size)⟩
                                  · have hB2 : (x.n != (r : Int) + 1) = true := bne_iff_ne.2 hk2
                                    clear hh hk2
                                    go_wp2_with fail
                                    go_ret
                                    exact ⟨ret_int E2.out.symm, Hbb.out.trans (Hb24.out.mono Hbb.out.size)⟩
                            · have hst := Lib.hid (step_note (np := a.length) (nn := b.length) (i := k) (notes := (r : Int)) hgood.out ht hn0 hh)
                              have hk1 : ¬ (a.length : Int) ≤ (k : Int) := by omega
                              have hB2 : (x.n != (r : Int) + 1) = false := by rw [show x.n = (r : Int) + 1 by omega]; simp
                              have hk3 : ¬ (b.length : Int) < (r : Int) + 1 := by omega
                              clear hn0 hh
                              rcases ht with ht0 | ht0
                              · have hB0 : (x.t != 0) = false := by rw [ht0]; rfl
                                clear ht0
                                have E2 := Lib.hid (show scanW a.length b.length k q p = scanW a.length b.length k ((r + 1 : Nat) : Int) (p.drop (j + 1)) by rw [hsw.out]; exact HWo.out _ (hst.out))
                                clear HErr
                                go_wp2_with fail
                                go_roundw
                                case rel => exact ⟨j + 1, by omega, by go_num, ⟨r + 1, by omega, by go_num, E2.out⟩, Hb4.out⟩
                                case measure => simp [intOf]; omega
                              · have hB0 : (x.t != 1) = false := by rw [ht0]; rfl
                                have hB1 : (x.t != 0) = true := by rw [ht0]; rfl
                                clear ht0
                                have E2 := Lib.hid (show scanW a.length b.length k q p = scanW a.length b.length k ((r + 1 : Nat) : Int) (p.drop (j + 1)) by rw [hsw.out]; exact HWo.out _ (hst.out))
                                clear HErr
                                go_wp2_with fail
                                go_roundw
                                case rel => exact ⟨j + 1, by omega, by go_num, ⟨r + 1, by omega, by go_num, E2.out⟩, Hb4.out⟩
                                case measure => simp [intOf]; omega
                        · have hst := Lib.hid (step_tab (np := a.length) (nn := b.length) (i := k) (notes := (r : Int)) hgood.out (by omega))
                          have hB0 : (x.t != 0) = true := bne_iff_ne.2 (by omega)
                          have hB1 : (x.t != 1) = true := bne_iff_ne.2 (by omega)
                          clear ht
                          have E2 := Lib.hid (HErr.out _ _ (hst.out) (by decide))
                          go_wp2_with fail
                          go_ret
                          exact ⟨ret_int E2.out.symm, Hbb.out.trans (Hb24.out.mono Hbb.out.size)⟩
                · obtain rfl : j = p.length := by omega
                  have hsw' : scanW a.length b.length k q p = (0, (r : Int)) := by rw [hsw.out, List.drop_of_length_le (Nat.le_refl _)]; rfl
                  have E2 := Lib.hid (hsc.out.trans (HPo.out _ hsw'))
                  clear hsw'
                  go_wp2_with fail
                  go_roundw
                  case rel => exact ⟨k + 1, by omega, by go_num, ⟨r, by omega, rfl, E2.out⟩, Hb2.out.trans (Hb3.out.mono Hb2.out.size)⟩
                  case measure => simp [intOf]; omega
            · have hsc' := Lib.hid (show scanP a.length b.length 0 0 l = (0, (q : Int)) by rw [hsc.out, List.drop_of_length_le (by omega)]; rfl)
              obtain ⟨t0, t1⟩ := text_box ((Hb2.out.block _ hz1).trans TB.out)
              by_cases hqn : q = b.length
              · have E2 := Lib.hid (show res = 0 by rw [E.out, hsc'.out, hqn]; unfold endP; simp)
                have hB : ((q : Int) != (b.length : Int)) = false := by rw [hqn]; simp
                clear hqn
                go_wp2_with fail
                go_ret
                exact ⟨ret_int E2.out.symm, Hbb.out.trans (Hb2.out.mono Hbb.out.size)⟩
              · have E2 := Lib.hid (show res = 3 by rw [E.out, hsc'.out]; unfold endP; rw [if_neg (by simp), if_pos (by simp; omega)])
                have hB : ((q : Int) != (b.length : Int)) = true := by rw [bne_iff_ne]; omega
                clear hqn
                go_wp2_with fail
                go_ret
                exact ⟨ret_int E2.out.symm, Hbb.out.trans (Hb2.out.mono Hbb.out.size)⟩
        · have E := Lib.hid (show res = 1 by rw [HC.out, if_neg (by rw [h3'.out]; simp; omega), if_pos h4])
          clear h4
          go_wp2_with fail
          go_ret
          exact ⟨ret_int E.out.symm, Hbb.out⟩
      · have E := Lib.hid (show res = 2 by rw [HC.out, if_pos (.inr (.inr h3))])
        clear h3
        go_wp2_with fail
        go_ret
        exact ⟨ret_int E.out.symm, Hbb.out⟩
end Go.Proofs.YtgnblofjjondpaaDoor
