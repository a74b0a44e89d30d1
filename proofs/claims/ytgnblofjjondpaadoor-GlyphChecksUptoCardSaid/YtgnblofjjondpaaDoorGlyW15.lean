/- The error of the sizes of a text, by the reference. No condition but that the sizes fit. -/
import Derived.Test.YtgnblofjjondpaaDoorGlyW14
namespace Go.Proofs.YtgnblofjjondpaaDoor
open Go.RowKit
def szE (a b : List (List Word)) : Int := if 100 < a.length ∨ 100 < b.length ∨ anyLen longP (a ++ b) = true then 2 else if anyLen emptyP (a ++ b) = true then 1 else 0
set_option maxHeartbeats 2000000 in
theorem sizes_any (A B : Option Addr) (c d : Nat) (a b : List (List Word)) (w : World) (ha : Sl w (fun b => b < w.heap.size) A c a) (hb : Sl w (fun b => b < w.heap.size) B d b) :
    Calls Tryd.prog 48 #[.agg #[.slice A a.length c, .slice B b.length d]] w fun e w' => e = .returned (.int .i64 (szE a b)) ∧ Below w.heap.size w w' := by
  have hla : a.length ≤ 9223372036854775807 := by have := ha.1; have := ha.2.1; unfold maxLen at this; omega
  have hlb : b.length ≤ 9223372036854775807 := by have := hb.1; have := hb.2.1; unfold maxLen at this; omega
  have hb0 := ((Below.refl w.heap.size w).alloc (Nat.le_refl _) (.cells #[.slice A a.length c, .slice B b.length d] 41))
  have HA := Lib.hid (ha.keep (Kept.all hb0) hb0.size)
  have HBs := Lib.hid (hb.keep (Kept.all hb0) hb0.size)
  have Hb0 := Lib.hid hb0
  have HY : Hid (TBox (w.alloc (.cells #[.slice A a.length c, .slice B b.length d] 41)) w.heap.size (.slice A a.length c) (.slice B b.length d)) := Lib.hid ⟨heap_alloc_new w _⟩
  have HS : Hid (szE a b = if 100 < a.length ∨ 100 < b.length ∨ anyLen longP (a ++ b) = true then 2 else if anyLen emptyP (a ++ b) = true then 1 else 0) := rfl
  generalize szE a b = res at *
  clear ha hb hb0
  by_cases h1 : 100 < a.length
  · have E := Lib.hid (show res = 2 by rw [HS.out, if_pos (.inl h1)])
    have h1' : (100 : Int) < (a.length : Int) := by omega
    go_enter Tryd.func48, Tryd.ntmps48
    go_wp2_with fail
    go_ret
    exact ⟨ret_int E.out.symm, Hb0.out⟩
  · have h1' : ¬ (100 : Int) < (a.length : Int) := by omega
    by_cases h2 : 100 < b.length
    · have E := Lib.hid (show res = 2 by rw [HS.out, if_pos (.inr (.inl h2))])
      have h2' : (100 : Int) < (b.length : Int) := by omega
      go_enter Tryd.func48, Tryd.ntmps48
      go_wp2_with fail
      go_ret
      exact ⟨ret_int E.out.symm, Hb0.out⟩
    · have h2' : ¬ (100 : Int) < (b.length : Int) := by omega
      have hz1 : w.heap.size < (w.alloc (.cells #[.slice A a.length c, .slice B b.length d] 41)).heap.size := by simp
      go_enter Tryd.func48, Tryd.ntmps48
      have ha100 : a.length ≤ 100 := by omega
      have hb100 : b.length ≤ 100 := by omega
      go_wp2_with (first
        | (at_builtin; refine wpList_cat (α := List Word) _ rfl (.tmp 16) (.tmp 18) 39 rfl (w.heap.size + 1) 61 (.slice none 0 0) 24 Tryd.underlying39 part_info rfl (by decide) (.slice none 0 0) [] rfl (Own.nil _ _ _) A c a.length a rfl rfl (fun b => b < w.heap.size) HA.out (by intro i _ _ e; simp [Value.ownBlock] at e) (by first | omega | (simp; done) | (simp; omega)) (by first | omega | (simp; done) | (simp; omega)) (by simp) ?_; intro v5 w5 hown5' hg5 hat5; have hown5 : Own w5 (w.heap.size + 1) 61 v5 a := hown5'; have hb5 : Below (w.heap.size + 1) (w.alloc (.cells #[.slice A a.length c, .slice B b.length d] 41)) w5 := (Below.refl _ _).grown hg5 (by simp) (fun g hg => by simp [Value.ownBlock] at hg); obtain ⟨A5, c5, hv5, hv5b, _⟩ := hown5.form; subst hv5; have u0 := (HY.out.kept (hb5.block w.heap.size (by omega))).c0; have u1 := (HY.out.kept (hb5.block w.heap.size (by omega))).c1; have hlt5 := hown5.lt; have hz5 := hb5.size; clear hown5' hg5 hat5)
        | (at_builtin; refine wpList_cat (α := List Word) _ rfl (.tmp 20) (.tmp 22) 39 rfl (w.heap.size + 1) 61 (.slice none 0 0) 24 Tryd.underlying39 part_info rfl (by decide) (.slice A5 a.length c5) a rfl hown5 B d b.length b rfl rfl (fun b => b < w.heap.size) (HBs.out.keep (Kept.below hb5 (fun i hi => Nat.lt_succ_of_lt hi)) hb5.size) (by intro i hi _ e; have := hlt5 i e.symm; omega) (by omega) (by omega) (by simp at hz5; omega) ?_; intro v6 w6 hown6 hg6 hat6; have hb6 : Below (w.heap.size + 1) (w.alloc (.cells #[.slice A a.length c, .slice B b.length d] 41)) w6 := hb5.grown hg6 (by simp at hz5; omega) (fun g hg => (hlt5 g hg).1); obtain ⟨A6, c6, hv6, hs6⟩ := hown6.sl; subst hv6; have Hs6 := Lib.hid hs6; have Hb6 := Lib.hid (Hb0.out.trans (hb6.mono (by omega))); have hll : (a ++ b).length ≤ 200 := (by simp; omega); clear hs6 hg6 hat6 hown6 hb6 hown5 hb5 hlt5; generalize a ++ b = l at *)
        | fail)
      clear HA HBs HY
      have hcond : Hid (¬ (100 < a.length ∨ 100 < b.length)) := Lib.hid (by omega)
      go_loopw [4] (fun i wr => ∃ k : Nat, k ≤ l.length ∧ i = .int .i64 k ∧ Hid (anyLen longP (l.take k) = false) ∧ wr = w6) (fun i _ => l.length - (intOf i).toNat)
      case atStart => exact ⟨0, Nat.zero_le _, rfl, rfl, rfl⟩
      case round =>
        obtain ⟨k, hk, rfl, hno, rfl⟩ := hrel
        by_cases hlt : k < l.length
        · obtain ⟨b1, o1, Ap, cp, rfl, _, hbl, hc, hp⟩ := part_at Hs6.out hlt
          have hkl : (k : Int) < (l.length : Int) := by omega
          have hk0 : (0 : Int) ≤ (k : Int) := by omega
          have HT := Lib.hid (anyLen_take longP l k hlt)
          have HH := Lib.hid (anyLen_hit longP l k hlt)
          have h2 : l[k].length ≤ 9223372036854775807 := by have := hp.1; have := hp.2.1; unfold maxLen at this; omega
          generalize l[k].length = q at *
          clear hp
          by_cases hq : 500 < q
          · have hq' : (500 : Int) < (q : Int) := by omega
            have E := Lib.hid (show res = 2 by rw [HS.out, if_pos (.inr (.inr (HH.out (by unfold longP; exact decide_eq_true hq))))])
            go_wp2_with fail
            go_ret
            exact ⟨ret_int E.out.symm, Hb6.out⟩
          · have hq' : ¬ (500 : Int) < (q : Int) := by omega
            have E := Lib.hid (show anyLen longP (l.take (k + 1)) = false by rw [HT.out, hno.out]; unfold longP; rw [decide_eq_false hq]; rfl)
            go_wp2_with fail
            go_roundw
            case rel => exact ⟨k + 1, by omega, by go_num, E.out, by first | trivial | rfl⟩
            case measure => simp [intOf]; omega
        · have hkl : ¬ (k : Int) < (l.length : Int) := by omega
          have E1 := Lib.hid (show anyLen longP l = false by have := hno.out; rwa [List.take_of_length_le (by omega)] at this)
          go_wp2_with fail
          obtain ⟨wo, rfl⟩ : ∃ wo : World, wo = wr := ⟨_, rfl⟩
          go_loopw [5] (fun i wr => ∃ k : Nat, k ≤ l.length ∧ i = .int .i64 k ∧ Hid (anyLen emptyP (l.take k) = false) ∧ wr = wo) (fun i _ => l.length - (intOf i).toNat)
          case atStart => exact ⟨0, Nat.zero_le _, rfl, rfl, rfl⟩
          case round =>
            clear hk hlt hkl hno
            obtain ⟨k, hk, rfl, hno, rfl⟩ := hrel
            by_cases hlt : k < l.length
            · obtain ⟨b1, o1, Ap, cp, rfl, _, hbl, hc, hp⟩ := part_at Hs6.out hlt
              have hkl : (k : Int) < (l.length : Int) := by omega
              have hk0 : (0 : Int) ≤ (k : Int) := by omega
              have HT := Lib.hid (anyLen_take emptyP l k hlt)
              have HH := Lib.hid (anyLen_hit emptyP l k hlt)
              have h2 : l[k].length ≤ 9223372036854775807 := by have := hp.1; have := hp.2.1; unfold maxLen at this; omega
              generalize l[k].length = q at *
              clear hp
              by_cases hq : q = 0
              · have E := Lib.hid (show res = 1 by rw [HS.out, if_neg (by rintro (h | h | h); exact hcond.out (.inl h); exact hcond.out (.inr h); rw [E1.out] at h; cases h), if_pos (HH.out (by unfold emptyP; exact decide_eq_true hq))])
                subst hq
                go_wp2_with fail
                go_ret
                exact ⟨ret_int E.out.symm, Hb6.out⟩
              · have hq' : ((q : Int) == 0) = false := beq_eq_false_iff_ne.2 (by omega)
                have hq2 : (q == 0) = false := beq_eq_false_iff_ne.2 hq
                have E := Lib.hid (show anyLen emptyP (l.take (k + 1)) = false by rw [HT.out, hno.out]; unfold emptyP; rw [decide_eq_false hq]; rfl)
                have hqn := Lib.hid hq
                clear hq
                go_wp2_with fail
                go_roundw
                case rel => exact ⟨k + 1, by omega, by go_num, E.out, by first | trivial | rfl⟩
                case measure => simp [intOf]; omega
            · have hkl : ¬ (k : Int) < (l.length : Int) := by omega
              have E2 := Lib.hid (show anyLen emptyP l = false by have := hno.out; rwa [List.take_of_length_le (by omega)] at this)
              have E := Lib.hid (show res = 0 by rw [HS.out, if_neg (by rintro (h | h | h); exact hcond.out (.inl h); exact hcond.out (.inr h); rw [E1.out] at h; cases h), if_neg (by rw [E2.out]; simp)])
              go_wp2_with fail
              go_ret
              exact ⟨ret_int E.out.symm, Hb6.out⟩
end Go.Proofs.YtgnblofjjondpaaDoor
