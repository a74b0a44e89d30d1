/- The error of a word, and of the sizes of a text, by the reference. No condition but that the sizes fit. -/
import Derived.Test.YtgnblofjjondpaaDoorGlyTX
import Derived.Test.YtgnblofjjondpaaDoorGlyW9
namespace Go.Proofs.YtgnblofjjondpaaDoor
open Go.RowKit
/-- The error of a word. -/
def wordE (x : Word) (next notes : Int) : Int :=
  if badW x = true then 7 else if x.t ≠ 0 ∧ x.t ≠ 1 then 5 else if x.n ≠ 0 ∧ (x.n ≠ next ∨ notes < x.n) then 5 else 0
theorem wordE_bad {x : Word} {a b : Int} (h : badW x = true) : wordE x a b = 7 := by unfold wordE; rw [if_pos h]
theorem wordE_tab {x : Word} {a b : Int} (h : badW x = false) (ht : x.t ≠ 0 ∧ x.t ≠ 1) : wordE x a b = 5 := by unfold wordE; rw [if_neg (by rw [h]; simp), if_pos ht]
theorem wordE_far {x : Word} {a b : Int} (h : badW x = false) (ht : x.t = 0 ∨ x.t = 1) (hn : x.n ≠ 0 ∧ (x.n ≠ a ∨ b < x.n)) : wordE x a b = 5 := by unfold wordE; rw [if_neg (by rw [h]; simp), if_neg (by omega), if_pos hn]
theorem wordE_ok {x : Word} {a b : Int} (h : badW x = false) (ht : x.t = 0 ∨ x.t = 1) (hn : ¬ (x.n ≠ 0 ∧ (x.n ≠ a ∨ b < x.n))) : wordE x a b = 0 := by unfold wordE; rw [if_neg (by rw [h]; simp), if_neg (by omega), if_neg hn]
set_option maxHeartbeats 2000000 in
theorem vword_any (x : Word) (a b : Int) (w : World) (hx : x.ok) :
    Calls Tryd.prog 49 #[.agg #[.string x.s, .string x.key, .int .i64 x.t, .int .i64 x.n], .int .i64 a, .int .i64 b] w fun e w' => e = .returned (.int .i64 (wordE x a b)) ∧ Below w.heap.size w w' := by
  have HB := Lib.hid ((Below.refl w.heap.size w).alloc (Nat.le_refl _) (.cells #[.string x.s, .string x.key, .int .i64 x.t, .int .i64 x.n] 36))
  have H1 : Hid (x.s.size ≤ 9223372036854775807) := Lib.hid (Nat.le_trans hx.1 (by decide))
  have H2 : Hid (x.key.size ≤ 9223372036854775807) := Lib.hid (Nat.le_trans hx.2.1 (by decide))
  have hx2 := hx.2.2.1
  have hx3 := hx.2.2.2
  clear hx
  go_enter Tryd.func49, Tryd.ntmps49
  go_wp2_with fail
  refine (rvalid_any x.s _ H1.out).mono ?_
  rintro e w' ⟨rfl, rfl⟩
  cases hvs : valid x.s
  · have E := Lib.hid (wordE_bad (a := a) (b := b) (bad_s hvs))
    clear hvs
    go_wp2_with fail
    go_ret
    exact ⟨ret_int E.out.symm, HB.out⟩
  · have Hvs := Lib.hid hvs
    clear hvs
    by_cases hke : x.key = ⟨#[]⟩
    · obtain ⟨k1, k2⟩ := key_nil hke
      have hgood := Lib.hid (good_nokey Hvs.out hke)
      clear hke
      by_cases ht0 : x.t = 0
      · have ht : Hid (x.t = 0 ∨ x.t = 1) := Lib.hid (.inl ht0)
        have hB0 : (x.t != 0) = false := by rw [ht0]; rfl
        clear ht0
        by_cases hn0 : x.n = 0
        · have E := Lib.hid (wordE_ok (a := a) (b := b) hgood.out ht.out (by omega))
          have hB : (x.n != 0) = false := by rw [hn0]; rfl
          clear hn0
          go_wp2_with fail
          go_ret
          exact ⟨ret_int E.out.symm, HB.out⟩
        · have hB : (x.n != 0) = true := bne_iff_ne.2 hn0
          by_cases hna : x.n = a
          · have hC : (x.n != a) = false := by rw [hna]; simp
            by_cases hnb : b < x.n
            · have E := Lib.hid (wordE_far (a := a) (b := b) hgood.out ht.out ⟨hn0, .inr hnb⟩)
              clear hn0 hna
              go_wp2_with fail
              go_ret
              exact ⟨ret_int E.out.symm, HB.out⟩
            · have E := Lib.hid (wordE_ok (a := a) (b := b) hgood.out ht.out (by omega))
              clear hn0 hna
              go_wp2_with fail
              go_ret
              exact ⟨ret_int E.out.symm, HB.out⟩
          · have hC : (x.n != a) = true := bne_iff_ne.2 hna
            have E := Lib.hid (wordE_far (a := a) (b := b) hgood.out ht.out ⟨hn0, .inl hna⟩)
            clear hn0 hna
            go_wp2_with fail
            go_ret
            exact ⟨ret_int E.out.symm, HB.out⟩
      · by_cases ht1 : x.t = 1
        · have ht : Hid (x.t = 0 ∨ x.t = 1) := Lib.hid (.inr ht1)
          have hB0 : (x.t != 0) = true := bne_iff_ne.2 ht0
          have hB1 : (x.t != 1) = false := by rw [ht1]; rfl
          clear ht0 ht1
          by_cases hn0 : x.n = 0
          · have E := Lib.hid (wordE_ok (a := a) (b := b) hgood.out ht.out (by omega))
            have hB : (x.n != 0) = false := by rw [hn0]; rfl
            clear hn0
            go_wp2_with fail
            go_ret
            exact ⟨ret_int E.out.symm, HB.out⟩
          · have hB : (x.n != 0) = true := bne_iff_ne.2 hn0
            by_cases hna : x.n = a
            · have hC : (x.n != a) = false := by rw [hna]; simp
              by_cases hnb : b < x.n
              · have E := Lib.hid (wordE_far (a := a) (b := b) hgood.out ht.out ⟨hn0, .inr hnb⟩)
                clear hn0 hna
                go_wp2_with fail
                go_ret
                exact ⟨ret_int E.out.symm, HB.out⟩
              · have E := Lib.hid (wordE_ok (a := a) (b := b) hgood.out ht.out (by omega))
                clear hn0 hna
                go_wp2_with fail
                go_ret
                exact ⟨ret_int E.out.symm, HB.out⟩
            · have hC : (x.n != a) = true := bne_iff_ne.2 hna
              have E := Lib.hid (wordE_far (a := a) (b := b) hgood.out ht.out ⟨hn0, .inl hna⟩)
              clear hn0 hna
              go_wp2_with fail
              go_ret
              exact ⟨ret_int E.out.symm, HB.out⟩
        · have E := Lib.hid (wordE_tab (a := a) (b := b) hgood.out ⟨ht0, ht1⟩)
          have hB0 : (x.t != 0) = true := bne_iff_ne.2 ht0
          have hB1 : (x.t != 1) = true := bne_iff_ne.2 ht1
          clear ht0 ht1
          go_wp2_with fail
          go_ret
          exact ⟨ret_int E.out.symm, HB.out⟩
    · obtain ⟨k1, k2⟩ := key_some hke
      have Hke := Lib.hid hke
      clear hke
      go_wp2_with fail
      refine (rvalid_any x.key _ H2.out).mono ?_
      rintro e w' ⟨rfl, rfl⟩
      cases hvk : valid x.key
      · have E := Lib.hid (wordE_bad (a := a) (b := b) (bad_key Hke.out hvk))
        clear hvk
        go_wp2_with fail
        go_ret
        exact ⟨ret_int E.out.symm, HB.out⟩
      · have hgood := Lib.hid (good_key Hvs.out hvk)
        clear hvk
        by_cases ht0 : x.t = 0
        · have ht : Hid (x.t = 0 ∨ x.t = 1) := Lib.hid (.inl ht0)
          have hB0 : (x.t != 0) = false := by rw [ht0]; rfl
          clear ht0
          by_cases hn0 : x.n = 0
          · have E := Lib.hid (wordE_ok (a := a) (b := b) hgood.out ht.out (by omega))
            have hB : (x.n != 0) = false := by rw [hn0]; rfl
            clear hn0
            go_wp2_with fail
            go_ret
            exact ⟨ret_int E.out.symm, HB.out⟩
          · have hB : (x.n != 0) = true := bne_iff_ne.2 hn0
            by_cases hna : x.n = a
            · have hC : (x.n != a) = false := by rw [hna]; simp
              by_cases hnb : b < x.n
              · have E := Lib.hid (wordE_far (a := a) (b := b) hgood.out ht.out ⟨hn0, .inr hnb⟩)
                clear hn0 hna
                go_wp2_with fail
                go_ret
                exact ⟨ret_int E.out.symm, HB.out⟩
              · have E := Lib.hid (wordE_ok (a := a) (b := b) hgood.out ht.out (by omega))
                clear hn0 hna
                go_wp2_with fail
                go_ret
                exact ⟨ret_int E.out.symm, HB.out⟩
            · have hC : (x.n != a) = true := bne_iff_ne.2 hna
              have E := Lib.hid (wordE_far (a := a) (b := b) hgood.out ht.out ⟨hn0, .inl hna⟩)
              clear hn0 hna
              go_wp2_with fail
              go_ret
              exact ⟨ret_int E.out.symm, HB.out⟩
        · by_cases ht1 : x.t = 1
          · have ht : Hid (x.t = 0 ∨ x.t = 1) := Lib.hid (.inr ht1)
            have hB0 : (x.t != 0) = true := bne_iff_ne.2 ht0
            have hB1 : (x.t != 1) = false := by rw [ht1]; rfl
            clear ht0 ht1
            by_cases hn0 : x.n = 0
            · have E := Lib.hid (wordE_ok (a := a) (b := b) hgood.out ht.out (by omega))
              have hB : (x.n != 0) = false := by rw [hn0]; rfl
              clear hn0
              go_wp2_with fail
              go_ret
              exact ⟨ret_int E.out.symm, HB.out⟩
            · have hB : (x.n != 0) = true := bne_iff_ne.2 hn0
              by_cases hna : x.n = a
              · have hC : (x.n != a) = false := by rw [hna]; simp
                by_cases hnb : b < x.n
                · have E := Lib.hid (wordE_far (a := a) (b := b) hgood.out ht.out ⟨hn0, .inr hnb⟩)
                  clear hn0 hna
                  go_wp2_with fail
                  go_ret
                  exact ⟨ret_int E.out.symm, HB.out⟩
                · have E := Lib.hid (wordE_ok (a := a) (b := b) hgood.out ht.out (by omega))
                  clear hn0 hna
                  go_wp2_with fail
                  go_ret
                  exact ⟨ret_int E.out.symm, HB.out⟩
              · have hC : (x.n != a) = true := bne_iff_ne.2 hna
                have E := Lib.hid (wordE_far (a := a) (b := b) hgood.out ht.out ⟨hn0, .inl hna⟩)
                clear hn0 hna
                go_wp2_with fail
                go_ret
                exact ⟨ret_int E.out.symm, HB.out⟩
          · have E := Lib.hid (wordE_tab (a := a) (b := b) hgood.out ⟨ht0, ht1⟩)
            have hB0 : (x.t != 0) = true := bne_iff_ne.2 ht0
            have hB1 : (x.t != 1) = true := bne_iff_ne.2 ht1
            clear ht0 ht1
            go_wp2_with fail
            go_ret
            exact ⟨ret_int E.out.symm, HB.out⟩
end Go.Proofs.YtgnblofjjondpaaDoor
