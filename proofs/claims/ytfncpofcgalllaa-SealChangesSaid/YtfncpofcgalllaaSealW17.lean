/- Hidden of the reference returns the ranges of the set of hidden words. No condition. -/
import Derived.Test.YtfncpofcgalllaaSealW16
import Derived.Test.YtfncpofcgalllaaSealPlain2
namespace Go.Proofs.Ytfncpofcgalllaa
open Go.RowKit
attribute [local go_sem ↓] Go.wp_at_zero Go.wp_at_succ
/-- What the reference's inner loop knows after q seals. -/
def RInv (l : List Seal) (e v n fr : Int) (q : Nat) (nxt en : Int) : Prop :=
  fr < nxt ∧ nxt ≤ n ∧ fr ≤ en ∧ en ≤ n ∧ (en = fr ∨ ∃ s ∈ l, s.e = e ∧ s.v = v ∧ s.f ≤ fr ∧ en ≤ s.u ∧ fr < s.u) ∧
  ∀ j, (h : j < l.length) → j < q → l[j].e = e → l[j].v = v → fr < l[j].u → (l[j].f ≤ fr → l[j].u ≤ en ∨ n ≤ en) ∧ (fr < l[j].f → nxt ≤ l[j].f)
theorem RInv.start (l : List Seal) (e v n fr : Int) (h : fr < n) : RInv l e v n fr 0 n fr := ⟨h, Int.le_refl _, Int.le_refl _, by omega, .inl rfl, fun j _ hj => absurd hj (by omega)⟩
theorem RInv.skip {l : List Seal} {e v n fr nxt en : Int} {q : Nat} (h : RInv l e v n fr q nxt en) (hq : q < l.length) (hs : ¬ (l[q].e = e ∧ l[q].v = v ∧ fr < l[q].u)) : RInv l e v n fr (q + 1) nxt en := by
  obtain ⟨h1, h2, h3, h4, h5, h6⟩ := h
  refine ⟨h1, h2, h3, h4, h5, fun j hj hjq a b c => ?_⟩
  by_cases e' : j = q
  · subst e'; exact absurd ⟨a, b, c⟩ hs
  · exact h6 j hj (by omega) a b c
theorem RInv.hit {l : List Seal} {e v n fr nxt en : Int} {q : Nat} (h : RInv l e v n fr q nxt en) (hq : q < l.length) (h1' : l[q].e = e) (h2' : l[q].v = v) (h3' : fr < l[q].u) (h4' : l[q].f ≤ fr) : RInv l e v n fr (q + 1) nxt (max en (min l[q].u n)) := by
  obtain ⟨h1, h2, h3, h4, h5, h6⟩ := h
  refine ⟨h1, h2, by omega, by omega, .inr ?_, fun j hj hjq a b c => ?_⟩
  · by_cases hm : en ≤ min l[q].u n
    · exact ⟨l[q], List.getElem_mem _, h1', h2', h4', by omega, h3'⟩
    · rcases h5 with h5 | ⟨s, hs, a1, a2, a3, a4, a5⟩
      · omega
      · exact ⟨s, hs, a1, a2, a3, by omega, a5⟩
  · by_cases e' : j = q
    · subst e'; exact ⟨fun _ => by omega, fun hf => by omega⟩
    · obtain ⟨k1, k2⟩ := h6 j hj (by omega) a b c
      exact ⟨fun hf => by have := k1 hf; omega, k2⟩
theorem RInv.miss {l : List Seal} {e v n fr nxt en : Int} {q : Nat} (h : RInv l e v n fr q nxt en) (hq : q < l.length) (h4' : fr < l[q].f) : RInv l e v n fr (q + 1) (min nxt l[q].f) en := by
  obtain ⟨h1, h2, h3, h4, h5, h6⟩ := h
  refine ⟨by omega, by omega, h3, h4, h5, fun j hj hjq a b c => ?_⟩
  by_cases e' : j = q
  · subst e'; exact ⟨fun hf => by omega, fun _ => by omega⟩
  · obtain ⟨k1, k2⟩ := h6 j hj (by omega) a b c
    exact ⟨k1, fun hf => by have := k2 hf; omega⟩
theorem RInv.none {l : List Seal} {e v n fr nxt en : Int} {q : Nat} (h : RInv l e v n fr q nxt en) (hq : l.length ≤ q) (he : en = fr) : ∀ x, fr ≤ x → x < nxt → ¬ cov l e v x := by
  obtain ⟨h1, h2, h3, h4, h5, h6⟩ := h
  rintro x hx0 hx1 ⟨s, hs, hp⟩
  obtain ⟨a, b, c, d⟩ := (onP_iff _ _ _ _).1 hp
  obtain ⟨j, hj, rfl⟩ := List.getElem_of_mem hs
  obtain ⟨k1, k2⟩ := h6 j hj (by omega) a b (by omega)
  by_cases hf : l[j].f ≤ fr
  · have := k1 hf; omega
  · have := k2 (by omega); omega
theorem RInv.some {l : List Seal} {e v n fr nxt en : Int} {q : Nat} (h : RInv l e v n fr q nxt en) (he : en ≠ fr) : ∃ s ∈ l, fr < s.u ∧ en ≤ s.u ∧ ∀ x, fr ≤ x → x < en → cov l e v x := by
  obtain ⟨h1, h2, h3, h4, h5, h6⟩ := h
  rcases h5 with h5 | ⟨s, hs, a1, a2, a3, a4, a5⟩
  · exact absurd h5 he
  · exact ⟨s, hs, a5, a4, fun x hx0 hx1 => ⟨s, hs, (onP_iff _ _ _ _).2 ⟨a1, a2, by omega, by omega⟩⟩⟩
/-- What the outer loop knows. -/
def RSo (l : List Seal) (e v n fr : Int) (out : List Span) : Prop := 0 ≤ fr ∧ (fr ≤ n ∨ fr = 0) ∧ (out.length : Int) ≤ fr ∧ out.length ≤ 1048576 ∧ Canon (cov l e v) fr 0 out
set_option maxHeartbeats 4000000 in
set_option maxRecDepth 100000 in
theorem rhidden_any (A : Option Addr) (c n : Nat) (l : List Seal) (e v x : Int) (w : World) (hl : Sl w (fun b => b < w.heap.size) A c l) (hn : l.length = n) (hsz : n ≤ 1048576) (hx : I64 x) (hu : ∀ s ∈ l, s.u ≤ 1048576) :
    Calls Try.prog 24 #[.slice A n c, .int .i64 e, .int .i64 v, .int .i64 x] w fun r w' => ∃ y out, r = .returned y ∧ Canon (cov l e v) x 0 out ∧ Own w' w.heap.size 47 y out ∧ Below w.heap.size w w' := by
  subst hn
  obtain ⟨hx0, hx1⟩ := hx
  have Hu := Lib.hid hu
  clear hu
  go_enter Try.func24, Try.ntmps24
  go_wp2_with fail
  go_loopw [9, 10, 11, 12, 13, 14] (fun o f _ _ _ _ wr => ∃ (fr : Int) (out : List Span), f = .int .i64 fr ∧ RSo l e v x fr out ∧ Own wr w.heap.size 47 o out ∧ Below w.heap.size w wr) (fun _ f _ _ _ _ _ => (x - intOf f).toNat)
  case atStart => exact ⟨0, [], rfl, ⟨by omega, by omega, by simp, by simp, fun y h1 h2 => by omega⟩, Own.nil _ _ _, Below.refl _ _⟩
  case round =>
    obtain ⟨fr, out, rfl, hso, hown, hb⟩ := hrel
    obtain ⟨hf0, hf1, hol, hol2, hcan⟩ := hso
    have Hcan := Lib.hid hcan
    have Hb := Lib.hid hb
    have hwz := hb.size
    clear hcan hb
    by_cases hlt : fr < x
    · go_wp2_with fail
      obtain ⟨wo, rfl⟩ : ∃ wo : World, wo = wr := ⟨_, rfl⟩
      go_loopw [11, 12, 13, 14] (fun nx en i _ wq => ∃ (q : Nat) (nxt e2 : Int), q ≤ l.length ∧ i = .int .i64 q ∧ nx = .int .i64 nxt ∧ en = .int .i64 e2 ∧ RInv l e v x fr q nxt e2 ∧ Below wo.heap.size wo wq) (fun _ _ i _ _ => l.length - (intOf i).toNat)
      case atStart => exact ⟨0, x, fr, Nat.zero_le _, rfl, rfl, rfl, RInv.start l e v x fr hlt, Below.refl _ _⟩
      case round =>
        obtain ⟨q, nxt, e2, hq, rfl, rfl, rfl, hinv, hb2⟩ := hrel
        have Hinv := Lib.hid hinv
        have Hb2 := Lib.hid hb2
        have hi1 := hinv.1
        have hi2 := hinv.2.1
        have hi3 := hinv.2.2.1
        have hi4 := hinv.2.2.2.1
        have hsz2 := hb2.size
        have hown2 := hown.below Hb2.out
        have Hbw := Lib.hid (Hb.out.trans (Hb2.out.mono hwz))
        have hwz2 : w.heap.size ≤ wr.heap.size := Nat.le_trans hwz hsz2
        clear hinv hb2
        by_cases hql : q < l.length
        · obtain ⟨_, _, rfl, _, _, _, d0, d1, d2, d3, d4⟩ := seal_at (hl.to Hbw.out) hql
          have hkl : (q : Int) < (l.length : Int) := by omega
          by_cases hm : l[q].e = e ∧ l[q].v = v ∧ fr < l[q].u
          · obtain ⟨hm1, hm2, hm3⟩ := hm
            have hb1 : (l[q].e != e) = false := by simp [hm1]
            have hb2 : (l[q].v != v) = false := by simp [hm2]
            by_cases hf : l[q].f ≤ fr
            · have HN := Lib.hid (RInv.hit Hinv.out hql hm1 hm2 hm3 hf)
              clear hm1 hm2
              go_wp2_with fail
              go_roundw
              case rel => exact ⟨q + 1, nxt, _, by omega, by go_num, rfl, rfl, HN.out, Hb2.out.alloc hsz2 _⟩
              case measure => simp [intOf]; omega
            · have HN := Lib.hid (RInv.miss Hinv.out hql (by omega))
              clear hm1 hm2
              go_wp2_with fail
              go_roundw
              case rel => exact ⟨q + 1, _, e2, by omega, by go_num, rfl, rfl, HN.out, Hb2.out.alloc hsz2 _⟩
              case measure => simp [intOf]; omega
          · have HN := Lib.hid (RInv.skip Hinv.out hql hm)
            have Hm := Lib.hid hm
            clear hm
            go_wp2_with fail
            all_goals go_roundw
            all_goals first
              | exact absurd ⟨by assumption, by assumption, by assumption⟩ Hm.out
              | exact ⟨q + 1, nxt, e2, by omega, by go_num, rfl, rfl, HN.out, Hb2.out.alloc hsz2 _⟩
              | (simp [intOf]; omega)
        · by_cases hee : e2 = fr
          · have HN := Lib.hid (RInv.none Hinv.out (by omega) hee)
            have hb1 : (e2 == fr) = true := by simp [hee]
            clear hee
            go_wp2_with fail
            go_roundw
            case rel => exact ⟨nxt, out, rfl, ⟨by omega, by omega, by omega, hol2, Hcan.out.further (by omega) (by omega) HN.out⟩, hown2, Hbw.out⟩
            case measure => simp [intOf]; omega
          · have HN := Lib.hid (RInv.some Hinv.out hee)
            have hb1 : (e2 == fr) = false := by simp [hee]
            have hlt2 : fr < e2 := by omega
            have hfu : fr < 1048576 := by obtain ⟨s, hs, h1, _⟩ := HN.out; have := Hu.out s hs; omega
            have HP := Lib.hid (show ∀ y, fr ≤ y → y < e2 → cov l e v y from (by obtain ⟨s, hs, h1, h2, h3⟩ := HN.out; exact h3))
            clear hee
            have hsok : Span.ok ⟨fr, e2⟩ := by show I64 fr ∧ I64 e2; exact ⟨⟨by omega, by omega⟩, ⟨by omega, by omega⟩⟩
            have hcan2 := Hcan.out
            by_cases hne : 0 < out.length
            · obtain ⟨p, hp⟩ : ∃ p, out.length = p + 1 := ⟨out.length - 1, by omega⟩
              have hpl : p < out.length := by omega
              obtain ⟨g, cap, rfl, hbg, hgl, hnc, hok1, hfz, f0, f1⟩ := own_span_at hown2 hpl
              have hp2 : (p : Int) < (out.length : Int) := by omega
              have hp3 : (out.length : Int) - 1 = (p : Int) := by omega
              have hp4 : (0 : Int) ≤ (p : Int) := by omega
              have hp5 : (0 : Int) < (out.length : Int) := by omega
              by_cases hlu : out[p].u = fr
              · have HC := Lib.hid (hcan2.grow_set hp hpl hlu hlt2 HP.out)
                have hb2 : (out[p].u == fr) = true := by simp [hlu]
                have Hpp := Lib.hid hp
                clear hlu hcan2 hne
                go_wp2_with fail
                go_roundw
                case rel =>
                  have hj := Own.setf hown2 p 1 hpl (by decide) (.int .i64 e2) rfl (⟨out[p].f, e2⟩ : Span) (by
                    rintro S es ⟨rfl, o6, o7⟩; exact ⟨rfl, o6, hsok.2⟩) rfl
                  refine ⟨e2, _, rfl, ⟨by omega, by omega, by rw [List.length_set]; omega, by rw [List.length_set]; omega, HC.out⟩, hj.1, ?_⟩
                  exact Hbw.out.grown hj.2 hwz2 (by rintro g' e; cases e; exact hbg)
                case measure => simp [intOf]; omega
              · have HC := Lib.hid (hcan2.push (by omega) hlt2 (hcan2.last_ne hp hpl hlu) HP.out)
                have hb2 : (out[p].u == fr) = false := by simp [hlu]
                have Hpp := Lib.hid hp
                clear hlu hcan2 hne hp
                go_wp2_with (at_builtin; go_loud (refine wpList_push (α := Span) _ rfl (.tmp 85) (.tmp 89) 37 rfl w.heap.size 47 (.agg #[.int .i64 0, .int .i64 0]) 16 Try.underlying37 span_info rfl (by decide) _ _ rfl (hown2.alloc (.cells #[.int .i64 fr, .int .i64 e2] 47)) wr.heap.size _ (⟨fr, e2⟩ : Span) (0, 0) 47 rfl (heap_alloc_new wr _) ⟨rfl, hsok⟩ (by first | omega | (simp; omega)) (by first | omega | (simp; omega)) (by first | omega | (simp; omega)) _ rfl ?_); go_loud (intro g3 cap3 w3 hown3 hg3 hat3 hlt3))
                go_roundw
                case rel => exact ⟨e2, _, rfl, ⟨by omega, by omega, by first | (simp; done) | (simp; omega), by first | (simp; done) | (simp; omega), HC.out⟩, hown3, below_push Hbw.out hown2 hwz2 hg3⟩
                case measure => simp [intOf]; omega
            · obtain rfl : out = [] := List.eq_nil_of_length_eq_zero (by omega)
              have HC := Lib.hid (hcan2.push (hi' := e2) (by omega) hlt2 (by simp) HP.out)
              clear hcan2 hne
              obtain ⟨A3, c3, rfl, _, _, _⟩ := hown2.form
              go_wp2_with (at_builtin; go_loud (refine wpList_push (α := Span) _ rfl (.tmp 85) (.tmp 89) 37 rfl w.heap.size 47 (.agg #[.int .i64 0, .int .i64 0]) 16 Try.underlying37 span_info rfl (by decide) _ _ rfl (hown2.alloc (.cells #[.int .i64 fr, .int .i64 e2] 47)) wr.heap.size _ (⟨fr, e2⟩ : Span) (0, 0) 47 rfl (heap_alloc_new wr _) ⟨rfl, hsok⟩ (by first | omega | (simp; omega)) (by first | omega | (simp; omega)) (by first | omega | (simp; omega)) _ rfl ?_); go_loud (intro g3 cap3 w3 hown3 hg3 hat3 hlt3))
              go_roundw
              case rel => exact ⟨e2, _, rfl, ⟨by omega, by omega, by first | (simp; done) | (simp; omega), by first | (simp; done) | (simp; omega), HC.out⟩, hown3, below_push Hbw.out hown2 hwz2 hg3⟩
              case measure => simp [intOf]; omega
    · go_wp2_with fail
      go_ret
      have hfx : fr = x ∨ x < 0 := by omega
      refine ⟨_, rfl, out, ?_, hown, Hb.out⟩
      rcases hfx with h | h
      · rw [← h]; exact Hcan.out
      · obtain rfl : out = [] := by
          rcases hf1 with h1 | h1
          · omega
          · exact List.eq_nil_of_length_eq_zero (by omega)
        exact fun y h1 h2 => by omega
end Go.Proofs.Ytfncpofcgalllaa
