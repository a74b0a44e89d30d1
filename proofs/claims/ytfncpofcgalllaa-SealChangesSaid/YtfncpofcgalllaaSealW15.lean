/- Hidden of the program. No condition. -/
import Derived.Test.YtfncpofcgalllaaSealW14
namespace Go.Proofs.Ytfncpofcgalllaa
open Go.RowKit
attribute [local go_sem ↓] Go.wp_at_zero Go.wp_at_succ
theorem span_info : (Try.prog.info? 47).map (fun i => (i.zero, i.size, i.bytes)) = some (some (.agg #[.int .i64 0, .int .i64 0]), Rep.size Span, 16) := by kernel_rfl
theorem own_span_at {w : World} {base : Nat} {e : TypeId} {v : Value} {l : List Span} (h : Own w base e v l) {k : Nat} (hk : k < l.length) :
    ∃ g cap, v = .slice (some ⟨g, 0, none⟩) l.length cap ∧ base ≤ g ∧ g < w.heap.size ∧ l.length ≤ cap ∧ l[k].ok ∧ (∀ o, w.frozen? ⟨g, o, none⟩ = false) ∧ w.cell? ⟨g, k * 2, none⟩ = some (.int .i64 l[k].f) ∧ w.cell? ⟨g, k * 2 + 1, none⟩ = some (.int .i64 l[k].u) := by
  obtain ⟨g, cap, es, rfl, hb, hlt, hc, ⟨rfl, hok⟩, hcell, hfz⟩ := h.at_ hk
  exact ⟨g, cap, rfl, hb, hlt, hc, hok, hfz, hcell 0 _ rfl, hcell 1 _ rfl⟩
/-- One seal's range is joined to the ranges so far. -/
def hidStep (n : Int) (out : List Span) (s : Seal) : List Span :=
  if h : 0 < out.length then
    if s.f ≤ (out[out.length - 1]'(by omega)).u then out.set (out.length - 1) ⟨(out[out.length - 1]'(by omega)).f, max (out[out.length - 1]'(by omega)).u (min s.u n)⟩
    else out ++ [⟨s.f, min s.u n⟩]
  else out ++ [⟨s.f, min s.u n⟩]
theorem hidStep_yes (n : Int) (out : List Span) (s : Seal) (q : Nat) (hq : out.length = q + 1) (hql : q < out.length) (h : s.f ≤ (out[q]'hql).u) : hidStep n out s = out.set q ⟨(out[q]'hql).f, max (out[q]'hql).u (min s.u n)⟩ := by
  obtain rfl : q = out.length - 1 := by omega
  unfold hidStep
  rw [dif_pos (by omega), if_pos h]
theorem hidStep_no (n : Int) (out : List Span) (s : Seal) (q : Nat) (hq : out.length = q + 1) (hql : q < out.length) (h : ¬ s.f ≤ (out[q]'hql).u) : hidStep n out s = out ++ [⟨s.f, min s.u n⟩] := by
  obtain rfl : q = out.length - 1 := by omega
  unfold hidStep
  rw [dif_pos (by omega), if_neg h]
theorem hidStep_nil (n : Int) (s : Seal) : hidStep n [] s = [⟨s.f, min s.u n⟩] := rfl
def hidTo (n : Int) (m : List Seal) : List Span := m.foldl (hidStep n) []
theorem hidTo_succ (n : Int) (m : List Seal) (k : Nat) (h : k < m.length) : hidTo n (m.take (k + 1)) = hidStep n (hidTo n (m.take k)) m[k] := by
  unfold hidTo; rw [List.take_succ_eq_append_getElem h, List.foldl_append]; rfl
theorem hidStep_le (n : Int) (out : List Span) (s : Seal) : (hidStep n out s).length ≤ out.length + 1 := by
  unfold hidStep; split
  · split <;> simp
  · simp
theorem hidTo_le (n : Int) (m : List Seal) (k : Nat) : (hidTo n (m.take k)).length ≤ k := by
  induction k with
  | zero => simp [hidTo]
  | succ k ih =>
    by_cases h : k < m.length
    · rw [hidTo_succ n m k h]; have := hidStep_le n (hidTo n (m.take k)) m[k]; omega
    · rw [List.take_of_length_le (by omega)]; rw [List.take_of_length_le (by omega)] at ih; omega
set_option maxHeartbeats 2000000 in
theorem hidden_any (A : Option Addr) (c n : Nat) (l : List Seal) (e v x : Int) (w : World) (hl : Sl w (fun b => b < w.heap.size) A c l) (hn : l.length = n) (hsz : n ≤ 12) (hx : I64 x) :
    Calls Try.prog 23 #[.slice A n c, .int .i64 e, .int .i64 v, .int .i64 x] w fun r w' => ∃ y m, r = .returned y ∧ m.Perm (l.filter (onH e v x)) ∧ byF m ∧ Own w' w.heap.size 47 y (hidTo x m) ∧ Below w.heap.size w w' := by
  have hb0 : Below w.heap.size w (((w.alloc (.cells #[.int .i64 e] 3)).alloc (.cells #[.int .i64 v] 3)).alloc (.cells #[.int .i64 x] 3)) :=
    (((Below.refl _ _).alloc (Nat.le_refl _) _).alloc (by simp) _).alloc (by simp; omega) _
  have Hb0 := Lib.hid hb0
  have Hl0 := Lib.hid (hl.to hb0)
  have hc1 : (((w.alloc (.cells #[.int .i64 e] 3)).alloc (.cells #[.int .i64 v] 3)).alloc (.cells #[.int .i64 x] 3)).cell? ⟨w.heap.size, 0, none⟩ = some (.int .i64 e) := by go_simp
  have hc2 : (((w.alloc (.cells #[.int .i64 e] 3)).alloc (.cells #[.int .i64 v] 3)).alloc (.cells #[.int .i64 x] 3)).cell? ⟨w.heap.size + 1, 0, none⟩ = some (.int .i64 v) := by go_simp
  have hc3 : (((w.alloc (.cells #[.int .i64 e] 3)).alloc (.cells #[.int .i64 v] 3)).alloc (.cells #[.int .i64 x] 3)).cell? ⟨w.heap.size + 2, 0, none⟩ = some (.int .i64 x) := by go_simp
  clear hb0
  go_enter Try.func23, Try.ntmps23
  go_wp2_with fail
  refine (selected_3 A c n l 38 _ _ _ (onH e v x) _ Hl0.out hn (by omega) (fun _ _ => by kernel_rfl) (fun s w' hb => onH_any s _ _ _ e v x w' ((hb.cell (by first | (simp; done) | (simp; omega))).trans hc1) ((hb.cell (by first | (simp; done) | (simp; omega))).trans hc2) ((hb.cell (by first | (simp; done) | (simp; omega))).trans hc3))).mono ?_
  rintro r w1 ⟨v1, rfl, hown1, hb1⟩
  have hc4 := (hb1.cell (p := ⟨w.heap.size + 2, 0, none⟩) (by first | (simp; done) | (simp; omega))).trans hc3
  have hbw1 : Below w.heap.size w w1 := Hb0.out.trans (hb1.mono (by simp; omega))
  have hz1 : w.heap.size + 3 ≤ w1.heap.size := by have := hb1.size; simp at this; omega
  have hown1 := hown1.re (B := w.heap.size + 3) (by simp)
  have hfl : (l.filter (onH e v x)).length ≤ 12 := by have := List.length_filter_le (onH e v x) l; omega
  have Ho1 := Lib.hid hown1
  clear hc1 hc2 hc3 hb1 hown1 Hb0 Hl0
  go_wp2_with fail
  refine (sort_any v1 (w.heap.size + 3) (l.filter (onH e v x)) w1 Ho1.out hfl).mono ?_
  rintro r w2 ⟨m, rfl, hperm, hsorted, hown2, hg2⟩
  have hml : m.length ≤ 12 := by rw [hperm.length_eq]; exact hfl
  have hmok : ∀ s ∈ m, True := fun _ _ => trivial
  have hc5 : w2.cell? ⟨w.heap.size + 2, 0, none⟩ = some (.int .i64 x) := (World.cell?_of_block (a := ⟨w.heap.size + 2, 0, none⟩) (keep_cat Ho1.out hg2 (b := w.heap.size + 2) (by omega) (by omega))).trans hc4
  have hbw2 : Below w.heap.size w w2 := below_cat hbw1 (Ho1.out.re (B := w.heap.size) (by omega)) (by omega) hg2
  have hz2 : w.heap.size + 3 ≤ w2.heap.size := by have := hg2.size; omega
  obtain ⟨A2, c2, rfl, hs2⟩ := hown2.sl
  have Hp := Lib.hid hperm
  have Hs := Lib.hid hsorted
  clear hc4 hperm hsorted Ho1 hg2 hown2 hmok hfl
  obtain ⟨hx0, hx1⟩ := hx
  go_wp2_with fail
  go_loopw [10, 22] (fun o i wr => ∃ k : Nat, k ≤ m.length ∧ i = .int .i64 k ∧ Own wr w2.heap.size 47 o (hidTo x (m.take k)) ∧ Below w2.heap.size w2 wr) (fun _ i _ => m.length - (intOf i).toNat)
  case atStart => exact ⟨0, Nat.zero_le _, rfl, Own.nil _ _ _, Below.refl _ _⟩
  case round =>
    obtain ⟨k, hk, rfl, hown, hb⟩ := hrel
    have hwz := hb.size
    by_cases hlt : k < m.length
    · obtain ⟨b, o, rfl, hbS, hbl, hok, d0, d1, d2, d3, d4⟩ := seal_at (hs2.to hb) hlt
      have hkl : (k : Int) < (m.length : Int) := by omega
      have hcx : wr.cell? ⟨w.heap.size + 2, 0, none⟩ = some (.int .i64 x) := (hb.cell (p := ⟨w.heap.size + 2, 0, none⟩) (by show w.heap.size + 2 < w2.heap.size; omega)).trans hc5
      have hcx2 : ∀ ob, (wr.alloc ob).cell? ⟨w.heap.size + 2, 0, none⟩ = some (.int .i64 x) := fun ob => (World.cell?_alloc_lt wr ob ⟨w.heap.size + 2, 0, none⟩ (by show w.heap.size + 2 < wr.heap.size; omega)).trans hcx
      have hole := hidTo_le x m k
      have HS := Lib.hid (hidTo_succ x m k hlt)
      obtain ⟨o1, o2, o3, o4, o5⟩ := hok
      obtain ⟨q1, q2⟩ := o3
      obtain ⟨q3, q4⟩ := o4
      have hmn : I64 (min m[k].u x) := ⟨by omega, by omega⟩
      have HB2 := Lib.hid (show ∀ nq : Nat, (((wr.alloc (.cells #[.int .i64 m[k].e, .int .i64 m[k].v, .int .i64 m[k].f, .int .i64 m[k].u, .int .i64 m[k].g] 41)).alloc (.cells #[.int .i64 m[k].f, .int .i64 (min m[k].u x)] 47)).drewN nq).heap[wr.heap.size + 1]? = some (.cells #[.int .i64 m[k].f, .int .i64 (min m[k].u x)] 47) from fun nq => heap_at_dn (by simp))
      generalize hidTo x (m.take k) = out at *
      clear hcx o1 o2 o5
      by_cases hne : 0 < out.length
      · obtain ⟨q, hq⟩ : ∃ q, out.length = q + 1 := ⟨out.length - 1, by omega⟩
        have hql : q < out.length := by omega
        obtain ⟨g, cap, rfl, hbg, hgl, hnc, hok1, hfz, f0, f1⟩ := own_span_at hown hql
        have Hq := Lib.hid hq
        have hql2 : (q : Int) < (out.length : Int) := by omega
        have hql3 : (out.length : Int) - 1 = (q : Int) := by omega
        have hql4 : (0 : Int) ≤ (q : Int) := by omega
        have hoq : out.length ≤ 12 := by omega
        by_cases hle : m[k].f ≤ out[q].u
        · rw [hidStep_yes x out m[k] q hq hql hle] at HS
          clear hq hne
          go_wp2_with fail
          go_quiet (fail)
          go_wp2_with fail
          go_roundw
          case rel =>
            have hmx : I64 (max out[q].u (min m[k].u x)) := by obtain ⟨_, h1, h2⟩ := hok1; exact ⟨by omega, by omega⟩
            have hj := Own.setf ((hown.alloc (.cells #[.int .i64 m[k].e, .int .i64 m[k].v, .int .i64 m[k].f, .int .i64 m[k].u, .int .i64 m[k].g] 41)).drewN nq) q 1 hql (by decide) (.int .i64 (max out[q].u (min m[k].u x))) rfl (⟨out[q].f, max out[q].u (min m[k].u x)⟩ : Span) (by
              rintro S es ⟨rfl, o6, o7⟩; exact ⟨rfl, o6, hmx⟩) rfl
            refine ⟨k + 1, by omega, by go_num, by rw [HS.out]; exact hj.1, ?_⟩
            exact (Below.dn (hb.alloc hwz _) nq).grown hj.2 (by simp; omega) (by rintro g' e; cases e; exact hbg)
          case measure => simp [intOf]; omega
        · rw [hidStep_no x out m[k] q hq hql hle] at HS
          clear hq hne
          go_wp2_with fail
          go_quiet (fail)
          go_wp2_with (at_builtin; refine wpList_push (α := Span) _ rfl (.tmp 56) (.tmp 61) 37 rfl w2.heap.size 47 (.agg #[.int .i64 0, .int .i64 0]) 16 Try.underlying37 span_info rfl (by decide) _ _ rfl (((hown.alloc (.cells #[.int .i64 m[k].e, .int .i64 m[k].v, .int .i64 m[k].f, .int .i64 m[k].u, .int .i64 m[k].g] 41)).alloc (.cells #[.int .i64 m[k].f, .int .i64 (min m[k].u x)] 47)).drewN nq) (wr.heap.size + 1) _ (⟨m[k].f, min m[k].u x⟩ : Span) (0, 0) 47 rfl (HB2.out nq) ⟨rfl, ⟨⟨q1, q2⟩, hmn⟩⟩ (by first | omega | (simp; omega)) (by first | omega | (simp; omega)) (by first | omega | (simp; omega)) _ rfl ?_; intro g3 cap3 w3 hown3 hg3 hat3 hlt3)
          go_roundw
          case rel => exact ⟨k + 1, by omega, by go_num, by rw [HS.out]; exact hown3, (Below.dn ((hb.alloc hwz _).alloc (by simp; omega) _) _).grown hg3 (by simp; omega) (fun g' e => (hown.lt g' e).1)⟩
          case measure => simp [intOf]; omega
      · obtain rfl : out = [] := List.eq_nil_of_length_eq_zero (by omega)
        rw [hidStep_nil] at HS
        clear hne
        obtain ⟨A3, c3, rfl, _, _, _⟩ := hown.form
        go_wp2_with fail
        go_quiet (fail)
        go_wp2_with (at_builtin; refine wpList_push (α := Span) _ rfl (.tmp 56) (.tmp 61) 37 rfl w2.heap.size 47 (.agg #[.int .i64 0, .int .i64 0]) 16 Try.underlying37 span_info rfl (by decide) _ _ rfl (((hown.alloc (.cells #[.int .i64 m[k].e, .int .i64 m[k].v, .int .i64 m[k].f, .int .i64 m[k].u, .int .i64 m[k].g] 41)).alloc (.cells #[.int .i64 m[k].f, .int .i64 (min m[k].u x)] 47)).drewN nq) (wr.heap.size + 1) _ (⟨m[k].f, min m[k].u x⟩ : Span) (0, 0) 47 rfl (HB2.out nq) ⟨rfl, ⟨⟨q1, q2⟩, hmn⟩⟩ (by first | omega | (simp; omega)) (by first | omega | (simp; omega)) (by first | omega | (simp; omega)) _ rfl ?_; intro g3 cap3 w3 hown3 hg3 hat3 hlt3)
        go_roundw
        case rel => exact ⟨k + 1, by omega, by go_num, by rw [HS.out]; exact hown3, (Below.dn ((hb.alloc hwz _).alloc (by simp; omega) _) _).grown hg3 (by simp; omega) (fun g' e => (hown.lt g' e).1)⟩
        case measure => simp [intOf]; omega
    · go_wp2_with fail
      go_ret
      exact ⟨_, m, rfl, Hp.out, Hs.out, by rw [List.take_of_length_le (by omega)] at hown; exact hown.re (by omega), hbw2.trans (hb.mono hbw2.size)⟩
end Go.Proofs.Ytfncpofcgalllaa
