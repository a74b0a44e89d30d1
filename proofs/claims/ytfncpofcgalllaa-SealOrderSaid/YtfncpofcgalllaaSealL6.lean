/- SealOrder returns true for all arguments. -/
import Derived.Test.YtfncpofcgalllaaSealL25
import Derived.Test.YtfncpofcgalllaaSealSet
namespace Go.Proofs.Ytfncpofcgalllaa
open Go.RowKit
attribute [local go_sem ↓] Go.wp_at_zero Go.wp_at_succ
theorem aro_nat (n : Int) (k : Nat) (h : 0 < k) : ∃ x : Nat, aro n k = (x : Int) ∧ x < k := by
  have := aro_lt n k (by omega)
  exact ⟨(aro n k).toNat, by omega, by omega⟩
theorem fit_seals (l : List Int) : fit (seals l) := ⟨by have := seals_le l; omega, seals_g l, seals_f l⟩
theorem fit_perm {a b : List Seal} (h : a.Perm b) (hb : fit b) : fit a := ⟨by rw [h.length_eq]; exact hb.1, fun s hs => hb.2.1 s (h.mem_iff.1 hs), fun s hs => hb.2.2 s (h.mem_iff.1 hs)⟩
set_option maxRecDepth 100000 in
set_option maxHeartbeats 4000000 in
theorem order_any (A : Option Addr) (c : Nat) (l : List Int) (B : Option Addr) (d : Nat) (pl : List Int) (w : World) (hl : Sl w (fun b => b < w.heap.size) A c l) (hp : Sl w (fun b => b < w.heap.size) B d pl) :
    Calls Try.prog 6 #[.slice A l.length c, .slice B pl.length d] w fun e w' => e = .returned (.bool true) ∧ Below w.heap.size w w' := by
  have hfit := fit_seals l
  have hle := hfit.1
  have Hfit := Lib.hid hfit
  have hlen : pl.length ≤ 9223372036854775807 := by have := hp.1; have := hp.2.1; unfold maxLen at this; omega
  have hlen1 : (pl.length : Int) ≤ 9223372036854775807 := by omega
  have Hp0 := Lib.hid hp
  clear hfit hp
  go_enter Try.func6, Try.ntmps6
  go_wp2_with fail
  refine (seals_any A c l w hl).mono ?_
  rintro e w1 ⟨v, rfl, hown, hb⟩
  obtain ⟨A1, c1, rfl, hs⟩ := hown.sl
  generalize hll : seals l = m at *
  have Hs := Lib.hid hs
  have Hb := Lib.hid hb
  have hz1 := hb.size
  clear hs hb hown hll
  go_wp2_with (at_builtin; refine wpList_cat (α := Seal) _ rfl (.tmp 13) (.tmp 14) 23 rfl w1.heap.size 41 (.agg #[.int .i64 0, .int .i64 0, .int .i64 0, .int .i64 0, .int .i64 0]) 40 Try.underlying23 seal_info rfl (by decide) (.slice (some ⟨w1.heap.size, 0, none⟩) 0 0) [] rfl (Own.made w1 _ _ (Nat.le_refl _)) A1 c1 m.length m rfl rfl (fun b => b < w1.heap.size) (Hs.out.keep (Kept.all ((Below.refl _ _).alloc (Nat.le_refl _) _)) (by simp)) (by intro i (hi : i < w1.heap.size) _ e; simp [Value.ownBlock] at e; omega) (by first | omega | (simp; done) | (simp; omega)) (by first | omega | (simp; done) | (simp; omega)) (by first | omega | (simp; done) | (simp; omega)) ?_; intro v2 w2 hown2 hg2 hat2)
  have hb2 := below_cat ((Below.refl _ _).alloc (Nat.le_refl _) _) (Own.made (α := Seal) w1 _ _ (Nat.le_refl _)) (by simp) hg2
  rw [List.nil_append] at hown2
  obtain ⟨A2, c2, rfl, _, _, _⟩ := hown2.form
  have Hown2 := Lib.hid hown2
  have Hb2 := Lib.hid hb2
  clear hown2 hg2 hb2 hat2
  go_loopw [7, 8, 9, 10] (fun i _ _ _ wr => ∃ k : Nat, ∃ p : List Seal, 2 * k ≤ pl.length + 1 ∧ 2 * k ≤ 9223372036854775806 ∧ i = .int .i64 ((2 * k : Nat) : Int) ∧ p.Perm m ∧ Own wr w1.heap.size 41 (.slice A2 m.length c2) p ∧ Below w1.heap.size w1 wr) (fun i _ _ _ _ => pl.length + 1 - (intOf i).toNat)
  case atStart => exact ⟨0, m, by omega, by omega, rfl, List.Perm.refl _, Hown2.out, Hb2.out⟩
  case round =>
    obtain ⟨k, p, hk, hk2, rfl, hperm, hown, hb3⟩ := hrel
    have Hb3 := Lib.hid hb3
    have hz3 := hb3.size
    have Hown := Lib.hid hown
    have hpl := hperm.length_eq
    have Hperm := Lib.hid hperm
    clear hb3 hown hperm
    by_cases hcond : 2 * k + 1 < pl.length ∧ 0 < m.length
    · obtain ⟨hlt, hm0⟩ := hcond
      obtain ⟨b0, o0, rfl, _, hbl0, _, i0⟩ := int_at ((Hp0.out.to Hb.out).to Hb3.out) (show 2 * k < pl.length by omega)
      obtain ⟨b0', o0', e0', _, _, _, i1⟩ := int_at ((Hp0.out.to Hb.out).to Hb3.out) (show 2 * k + 1 < pl.length by omega)
      cases e0'
      obtain ⟨x, hx, hxm⟩ := aro_nat (pl[2 * k]'(by omega)) m.length hm0
      obtain ⟨y, hy, hym⟩ := aro_nat (pl[2 * k + 1]'(by omega)) m.length hm0
      have hi0 := (int_at ((Hp0.out.to Hb.out).to Hb3.out) (show 2 * k < pl.length by omega)).choose_spec.choose_spec.2.2.2.1
      have hi1 := (int_at ((Hp0.out.to Hb.out).to Hb3.out) (show 2 * k + 1 < pl.length by omega)).choose_spec.choose_spec.2.2.2.1
      generalize pl[2 * k]'(by omega) = n0 at *
      generalize pl[2 * k + 1]'(by omega) = n1 at *
      have hx1 : (x : Int) < (m.length : Int) := by omega
      have hy1 : (y : Int) < (m.length : Int) := by omega
      have hx0 : (0 : Int) ≤ (x : Int) := by omega
      have hy0 : (0 : Int) ≤ (y : Int) := by omega
      have hk1 : ((2 * k : Nat) : Int) + 1 < (pl.length : Int) := by omega
      have hk0 : (0 : Int) ≤ ((2 * k : Nat) : Int) := by omega
      have hm1 : (1 : Int) ≤ (m.length : Int) := by omega
      generalize hkk : 2 * k = kk at *
      go_wp2_with fail
      refine (around_any n0 m.length _ hi0 (by omega) (by omega)).mono ?_
      rintro e w4 ⟨rfl, rfl⟩
      rw [hx]
      go_wp2_with fail
      refine (around_any n1 m.length _ hi1 (by omega) (by omega)).mono ?_
      rintro e w4 ⟨rfl, rfl⟩
      rw [hy]
      have hxp : x < p.length := by omega
      have hyp : y < p.length := by omega
      obtain ⟨g, cap, he, hbg, hgl, hnc, hok1, hfz, c0, c1', c2', c3, c4⟩ := own_seal_at Hown.out hxp
      obtain ⟨g', cap', he', _, _, _, hok0, _, d0, d1, d2, d3, d4⟩ := own_seal_at Hown.out hyp
      obtain ⟨rfl, hmm1, rfl⟩ := Value.slice.inj he
      obtain ⟨hgg, hmm2, hmm3⟩ := Value.slice.inj he'
      cases hgg
      clear he he' hmm1 hmm2 hmm3
      have Hpl := Lib.hid hpl
      have Hkk := Lib.hid hkk
      clear hpl hkk hx hy i0 i1
      have e0 := (World.cell?_alloc_lt wr (.cells #[.int .i64 p[x].e, .int .i64 p[x].v, .int .i64 p[x].f, .int .i64 p[x].u, .int .i64 p[x].g] 41) ⟨g, y * 5, none⟩ hgl).trans d0
      have e1 := (World.cell?_alloc_lt wr (.cells #[.int .i64 p[x].e, .int .i64 p[x].v, .int .i64 p[x].f, .int .i64 p[x].u, .int .i64 p[x].g] 41) ⟨g, y * 5 + 1, none⟩ hgl).trans d1
      have e2 := (World.cell?_alloc_lt wr (.cells #[.int .i64 p[x].e, .int .i64 p[x].v, .int .i64 p[x].f, .int .i64 p[x].u, .int .i64 p[x].g] 41) ⟨g, y * 5 + 2, none⟩ hgl).trans d2
      have e3 := (World.cell?_alloc_lt wr (.cells #[.int .i64 p[x].e, .int .i64 p[x].v, .int .i64 p[x].f, .int .i64 p[x].u, .int .i64 p[x].g] 41) ⟨g, y * 5 + 3, none⟩ hgl).trans d3
      have e4 := (World.cell?_alloc_lt wr (.cells #[.int .i64 p[x].e, .int .i64 p[x].v, .int .i64 p[x].f, .int .i64 p[x].u, .int .i64 p[x].g] 41) ⟨g, y * 5 + 4, none⟩ hgl).trans d4
      clear d0 d1 d2 d3 d4 hfz
      have hk20 : IntKind.i64.wrap ((kk : Int) + 2) = ((2 * (k + 1) : Nat) : Int) := (IntWalk.i64_in _ (by have := Hkk.out; omega)).trans (by have := Hkk.out; omega)
      have hyp2 : y < (p.set x p[y]).length := by rw [List.length_set]; exact hyp
      go_wp2_with (first
        | (refine wpList_set rfl (.tmp 53) (.tmp 52) rfl x (Hown.out.alloc (.cells #[.int .i64 p[x].e, .int .i64 p[x].v, .int .i64 p[x].f, .int .i64 p[x].u, .int .i64 p[x].g] 41)) hxp p[y] hok0 rfl rfl ?_; intro w9 hown9 hg9; have hbx : w9.heap[wr.heap.size]? = some (.cells p[x].cells.toArray 41 (0, 0)) := (hg9.block wr.heap.size (by simp) (by intro e; cases e; omega)).trans (heap_alloc_new wr _); obtain ⟨f0, f1, f2, f3, f4⟩ := seal_box hbx; clear hbx)
        | (refine wpList_set rfl (.tmp 57) (.tmp 56) rfl y hown9 hyp2 p[x] hok1 rfl rfl ?_; intro w10 hown10 hg10))
      have hgr := grown_trans2 hg9 hg10
      have Hown10 := Lib.hid hown10
      have Hb10 := Lib.hid (below_grown (Hb3.out.alloc hz3 (.cells #[.int .i64 p[x].e, .int .i64 p[x].v, .int .i64 p[x].f, .int .i64 p[x].u, .int .i64 p[x].g] 41)) hgr (by simp; omega) (by intro q hq; cases hq; exact hbg))
      have Hperm2 := Lib.hid ((swap_perm p x y hxp hyp).trans Hperm.out)
      clear hown9 hg9 hown10 hg10 hgr f0 f1 f2 f3 f4 e0 e1 e2 e3 e4 c0 c1' c2' c3 c4
      go_roundw
      case rel => exact ⟨k + 1, _, by have := Hkk.out; omega, by have := Hkk.out; omega, congrArg (Value.int .i64) (by omega), Hperm2.out, Hown10.out, Hb10.out⟩
      case measure => have := Hkk.out; simp [intOf]; omega
    · obtain ⟨A3, c3, he3, hs3⟩ := Hown.out.sl
      obtain ⟨rfl, hmm, rfl⟩ := Value.slice.inj he3
      have HS2 := Lib.hid hs3
      clear he3 hs3 hmm
      have hk0 : (0 : Int) ≤ ((2 * k : Nat) : Int) := by omega
      have hk20 : ((2 * k : Nat) : Int) + 1 ≤ 9223372036854775807 := by omega
      by_cases hfin : 2 * k + 1 < pl.length
      · have hf1 : ((2 * k : Nat) : Int) + 1 < (pl.length : Int) := by omega
        have hm0 : m.length = 0 := by omega
        generalize 2 * k = kk at *
        clear hcond
        generalize hN : m.length = N at *
        have HN := Lib.hid hN
        have Hpl := Lib.hid hpl
        subst hm0
        clear hpl hN
        go_wp2_with fail
        have hpl := Hpl.out
        refine (equal_any A1 A2 c1 c2 _ _ m p _ (Hs.out.to Hb3.out) HS2.out (by first | rfl | exact HN.out) hpl Hfit.out (fit_perm Hperm.out Hfit.out) (alike_mem fun s => (Hperm.out.mem_iff (a := s)).symm)).mono ?_
        rintro e w4 ⟨rfl, hb4⟩
        have Hb4 := Lib.hid (Hb3.out.trans (hb4.mono hz3))
        clear hb4 hpl
        go_wp2_with fail
        refine (lives_any _).mono ?_
        rintro e w5 ⟨rfl, hb5⟩
        have Hb5 := Lib.hid (Hb.out.trans ((Hb4.out.trans (hb5.mono Hb4.out.size)).mono hz1))
        clear hb5
        go_wp2_with fail
        go_ret
        exact ⟨rfl, Hb5.out⟩
      · have hf1 : ¬ ((2 * k : Nat) : Int) + 1 < (pl.length : Int) := by omega
        generalize 2 * k = kk at *
        clear hcond
        have Hpl := Lib.hid hpl
        clear hpl
        go_wp2_with fail
        have hpl := Hpl.out
        refine (equal_any A1 A2 c1 c2 _ _ m p _ (Hs.out.to Hb3.out) HS2.out (by first | rfl | exact HN.out) hpl Hfit.out (fit_perm Hperm.out Hfit.out) (alike_mem fun s => (Hperm.out.mem_iff (a := s)).symm)).mono ?_
        rintro e w4 ⟨rfl, hb4⟩
        have Hb4 := Lib.hid (Hb3.out.trans (hb4.mono hz3))
        clear hb4 hpl
        go_wp2_with fail
        refine (lives_any _).mono ?_
        rintro e w5 ⟨rfl, hb5⟩
        have Hb5 := Lib.hid (Hb.out.trans ((Hb4.out.trans (hb5.mono Hb4.out.size)).mono hz1))
        clear hb5
        go_wp2_with fail
        go_ret
        exact ⟨rfl, Hb5.out⟩
end Go.Proofs.Ytfncpofcgalllaa
