/- The insertion sort puts a short list in order. No condition. -/
import Derived.Test.YtfncpofcgalllaaSealW12
namespace Go.Proofs.Ytfncpofcgalllaa
open Go.RowKit
attribute [local go_sem ↓] Go.wp_at_zero Go.wp_at_succ
/-- The cells of element k of an own row of seals. -/
theorem own_seal_at {w : World} {base : Nat} {e : TypeId} {v : Value} {l : List Seal} (h : Own w base e v l) {k : Nat} (hk : k < l.length) :
    ∃ g cap, v = .slice (some ⟨g, 0, none⟩) l.length cap ∧ base ≤ g ∧ g < w.heap.size ∧ l.length ≤ cap ∧ l[k].ok ∧ (∀ o, w.frozen? ⟨g, o, none⟩ = false) ∧ w.cell? ⟨g, k * 5, none⟩ = some (.int .i64 l[k].e) ∧ w.cell? ⟨g, k * 5 + 1, none⟩ = some (.int .i64 l[k].v) ∧
      w.cell? ⟨g, k * 5 + 2, none⟩ = some (.int .i64 l[k].f) ∧ w.cell? ⟨g, k * 5 + 3, none⟩ = some (.int .i64 l[k].u) ∧ w.cell? ⟨g, k * 5 + 4, none⟩ = some (.int .i64 l[k].g) := by
  obtain ⟨g, cap, es, rfl, hb, hlt, hc, ⟨rfl, hok⟩, hcell, hfz⟩ := h.at_ hk
  exact ⟨g, cap, rfl, hb, hlt, hc, hok, hfz, hcell 0 _ rfl, hcell 1 _ rfl, hcell 2 _ rfl, hcell 3 _ rfl, hcell 4 _ rfl⟩
theorem own_set_seal {w : World} {base : Nat} {e : TypeId} {g n cap : Nat} {l : List Seal} (h : Own w base e (.slice (some ⟨g, 0, none⟩) n cap) l) (k : Nat) (hk : k < l.length) (s : Seal) (hs : s.ok) {o : Nat} (ho : o = k * 5) :
    Own (((((w.setCell ⟨g, o, none⟩ (.int .i64 s.e)).setCell ⟨g, o + 1, none⟩ (.int .i64 s.v)).setCell ⟨g, o + 2, none⟩ (.int .i64 s.f)).setCell ⟨g, o + 3, none⟩ (.int .i64 s.u)).setCell ⟨g, o + 4, none⟩ (.int .i64 s.g)) base e (.slice (some ⟨g, 0, none⟩) n cap) (l.set k s) ∧
    w.grownBy (((((w.setCell ⟨g, o, none⟩ (.int .i64 s.e)).setCell ⟨g, o + 1, none⟩ (.int .i64 s.v)).setCell ⟨g, o + 2, none⟩ (.int .i64 s.f)).setCell ⟨g, o + 3, none⟩ (.int .i64 s.u)).setCell ⟨g, o + 4, none⟩ (.int .i64 s.g)) (some g) := by
  subst ho
  obtain ⟨x1, x2, x3, x4, x5⟩ := s
  obtain ⟨k1, k2, k3, k4, k5⟩ := hs
  obtain ⟨y, hy⟩ : ∃ y, l[k] = y := ⟨_, rfl⟩
  have a1 := h.setf k 0 hk (by decide) (.int .i64 x1) rfl (⟨x1, y.v, y.f, y.u, y.g⟩ : Seal) (by
    rintro S es ⟨rfl, o1, o2, o3, o4, o5⟩; rw [hy] at *; exact ⟨rfl, k1, o2, o3, o4, o5⟩) rfl
  have a2 := a1.1.setf k 1 (by simpa using hk) (by decide) (.int .i64 x2) rfl (⟨x1, x2, y.f, y.u, y.g⟩ : Seal) (by
    intro S es h; rw [List.getElem_set_self] at h; obtain ⟨rfl, o1, o2, o3, o4, o5⟩ := h; exact ⟨rfl, k1, k2, o3, o4, o5⟩) rfl
  have a3 := a2.1.setf k 2 (by simpa using hk) (by decide) (.int .i64 x3) rfl (⟨x1, x2, x3, y.u, y.g⟩ : Seal) (by
    intro S es h; rw [List.getElem_set_self] at h; obtain ⟨rfl, o1, o2, o3, o4, o5⟩ := h; exact ⟨rfl, k1, k2, k3, o4, o5⟩) rfl
  have a4 := a3.1.setf k 3 (by simpa using hk) (by decide) (.int .i64 x4) rfl (⟨x1, x2, x3, x4, y.g⟩ : Seal) (by
    intro S es h; rw [List.getElem_set_self] at h; obtain ⟨rfl, o1, o2, o3, o4, o5⟩ := h; exact ⟨rfl, k1, k2, k3, k4, o5⟩) rfl
  have a5 := a4.1.setf k 4 (by simpa using hk) (by decide) (.int .i64 x5) rfl (⟨x1, x2, x3, x4, x5⟩ : Seal) (by
    intro S es h; rw [List.getElem_set_self] at h; obtain ⟨rfl, o1, o2, o3, o4, o5⟩ := h; exact ⟨rfl, k1, k2, k3, k4, k5⟩) rfl
  refine ⟨?_, grown_trans2 a1.2 (grown_trans2 a2.2 (grown_trans2 a3.2 (grown_trans2 a4.2 a5.2)))⟩
  have := a5.1
  simp only [List.set_set] at this
  exact this
set_option maxHeartbeats 2000000 in
theorem isort_any (v : Value) (base n : Nat) (l : List Seal) (w : World) (hown : Own w base 41 v l) (hn : l.length = n) (hsz : n ≤ 12) :
    Calls Try.prog 49 #[v, .int .i64 0, .int .i64 n, .func (.func 40) #[] #[]] w fun e w' => ∃ l', e = .returned (.tuple #[]) ∧ l'.Perm l ∧ byF l' ∧ Own w' base 41 v l' ∧ w.grownBy w' v.ownBlock := by
  go_enter Try.func49, Try.ntmps49
  go_wp2_with fail
  go_loopw [8, 9] (fun i _ wr => ∃ (k : Nat) (m : List Seal), k ≤ n + 1 ∧ 1 ≤ k ∧ i = .int .i64 k ∧ m.length = n ∧ m.Perm l ∧ sortedTo m k ∧ Own wr base 41 v m ∧ w.grownBy wr v.ownBlock) (fun i _ _ => n + 1 - (intOf i).toNat)
  case atStart => exact ⟨1, l, by omega, by omega, rfl, hn, List.Perm.refl _, fun a b hab hb => by omega, hown, World.grownBy.refl _ _⟩
  case round =>
    obtain ⟨k, m, hk, hk1, rfl, hml, hperm, hsorted, hom, hgr⟩ := hrel
    have Hml := Lib.hid hml
    have Hp := Lib.hid hperm
    have Hs := Lib.hid hsorted
    clear hml hperm hsorted
    by_cases hlt : k < n
    · go_wp2_with fail
      obtain ⟨wo, hwo⟩ : ∃ wo : World, wo = wr := ⟨_, rfl⟩
      go_loopw [9] (fun j wq => ∃ (q : Nat) (m2 : List Seal), q ≤ k ∧ j = .int .i64 q ∧ m2.length = n ∧ m2.Perm l ∧ almost m2 k q ∧ Own wq base 41 v m2 ∧ w.grownBy wq v.ownBlock) (fun j _ => (intOf j).toNat)
      case atStart => exact ⟨k, m, Nat.le_refl _, rfl, Hml.out, Hp.out, almost_start m k Hs.out, hom, hgr⟩
      case round =>
        obtain ⟨q, m2, hq, rfl, hml2, hperm2, halm, hom2, hgr2⟩ := hrel
        have hltm : q < m2.length := by omega
        have Hml2 := Lib.hid hml2
        have Hp2 := Lib.hid hperm2
        have Ha2 := Lib.hid halm
        clear hml2 hperm2 halm
        obtain _ | p := q
        · have hg0 : ¬ (0 : Int) < 0 := by omega
          go_wp2_with fail
          go_quiet (fail)
          go_wp2_with fail
          go_roundw
          case rel => exact ⟨k + 1, m2, by omega, by omega, by go_num, Hml2.out, Hp2.out, almost_end m2 k 0 Ha2.out (by omega) (fun h => absurd h (by omega)), hom2.drewN _, grown_dn hgr2 _⟩
          case measure => simp [intOf]; omega
        · have hp1 : p < m2.length := by omega
          obtain ⟨g, cap, rfl, hbg, hgl, hnc, hok1, hfz, c0, c1, c2, c3, c4⟩ := own_seal_at hom2 hltm
          obtain ⟨g', cap', he', _, _, _, hok0, _, d0, d1, d2, d3, d4⟩ := own_seal_at hom2 hp1
          cases he'
          have hi1 : ((p + 1 : Nat) : Int) < (m2.length : Int) := by omega
          have hi2 : (p : Int) + 1 < (m2.length : Int) := by omega
          have hi3 : (p : Int) < (m2.length : Int) := by omega
          have hi4 : (0 : Int) ≤ (p : Int) := by omega
          have hi5 : (0 : Int) ≤ (p : Int) + 1 := by omega
          have hi6 : IntKind.i64.wrap (p : Int) = p := IntWalk.i64_in _ (by omega)
          have hi7 : IntKind.i64.wrap ((p : Int) + 1 - 1) = p := (IntWalk.i64_in _ (by omega)).trans (by omega)
          have hq0 : (0 : Int) < ((p + 1 : Nat) : Int) := by omega
          go_wp2_with fail
          by_cases hcmp : m2[p + 1].f < m2[p].f
          · have Hcmp := Lib.hid hcmp
            clear hcmp
            go_region_held3 (fun w' => w'.cell? ⟨g, (p + 1) * 5, none⟩ = some (.int .i64 m2[p + 1].e) ∧ w'.cell? ⟨g, (p + 1) * 5 + 1, none⟩ = some (.int .i64 m2[p + 1].v) ∧ w'.cell? ⟨g, (p + 1) * 5 + 2, none⟩ = some (.int .i64 m2[p + 1].f) ∧ w'.cell? ⟨g, (p + 1) * 5 + 3, none⟩ = some (.int .i64 m2[p + 1].u) ∧ w'.cell? ⟨g, (p + 1) * 5 + 4, none⟩ = some (.int .i64 m2[p + 1].g) ∧ w'.cell? ⟨g, p * 5, none⟩ = some (.int .i64 m2[p].e) ∧ w'.cell? ⟨g, p * 5 + 1, none⟩ = some (.int .i64 m2[p].v) ∧ w'.cell? ⟨g, p * 5 + 2, none⟩ = some (.int .i64 m2[p].f) ∧ w'.cell? ⟨g, p * 5 + 3, none⟩ = some (.int .i64 m2[p].u) ∧ w'.cell? ⟨g, p * 5 + 4, none⟩ = some (.int .i64 m2[p].g)) (go_keep)
              (first | (go_at_call 40; refine (cmpF_lt m2[p + 1] m2[p] _ Hcmp.out).mono ?_; rintro e w3 ⟨rfl, hb3⟩; have kc := fun o (u : Value) (h : wr.cell? ⟨g, o, none⟩ = some u) => (hb3.cell (p := ⟨g, o, none⟩) hgl).trans h; have f0 := kc _ _ c0; have f1 := kc _ _ c1; have f2 := kc _ _ c2; have f3 := kc _ _ c3; have f4 := kc _ _ c4; have g0 := kc _ _ d0; have g1 := kc _ _ d1; have g2 := kc _ _ d2; have g3 := kc _ _ d3; have g4 := kc _ _ d4; clear kc))
            have hfz3 : ∀ o, w3.frozen? ⟨g, o, none⟩ = false := fun o => (hb3.frozen (p := ⟨g, o, none⟩) hgl).trans (hfz o)
            clear c0 c1 c2 c3 c4 d0 d1 d2 d3 d4 hfz
            go_wp2_with fail
            have hb3' : Below wr.heap.size wr w3 := (Below.refl _ _).drew.trans hb3
            have hom3 := hom2.below hb3'
            have hgr3 := grown_trans2 hgr2 (grown_below hb3' (some g))
            have b1 := own_set_seal hom3 (p + 1) (by omega) m2[p] hok0 (o := (p + 1) * 5) rfl
            have b2 := own_set_seal b1.1 p (by rw [List.length_set]; omega) m2[p + 1] hok1 (o := p * 5) rfl
            have hgr4 := grown_trans2 hgr3 (grown_trans2 b1.2 b2.2)
            have B2 := Lib.hid b2.1
            have HG4 := Lib.hid hgr4
            clear b1 b2 hgr4 hom3
            go_region
            go_wp2_with fail
            go_roundw
            case rel => exact ⟨p, swapL m2 (p + 1) m2[p] m2[p + 1], by omega, rfl, by rw [swapL_length]; exact Hml2.out, (swapL_perm m2 (p + 1) (by omega) hltm).trans Hp2.out, almost_step m2 k (p + 1) Ha2.out (by omega) hltm Hcmp.out, B2.out.drew, grown_drew HG4.out⟩
            case measure => simp [intOf]
          · have Hcmp := Lib.hid hcmp
            clear hcmp
            go_region_held3 (fun w' => w'.cell? ⟨g, (p + 1) * 5, none⟩ = some (.int .i64 m2[p + 1].e) ∧ w'.cell? ⟨g, (p + 1) * 5 + 1, none⟩ = some (.int .i64 m2[p + 1].v) ∧ w'.cell? ⟨g, (p + 1) * 5 + 2, none⟩ = some (.int .i64 m2[p + 1].f) ∧ w'.cell? ⟨g, (p + 1) * 5 + 3, none⟩ = some (.int .i64 m2[p + 1].u) ∧ w'.cell? ⟨g, (p + 1) * 5 + 4, none⟩ = some (.int .i64 m2[p + 1].g) ∧ w'.cell? ⟨g, p * 5, none⟩ = some (.int .i64 m2[p].e) ∧ w'.cell? ⟨g, p * 5 + 1, none⟩ = some (.int .i64 m2[p].v) ∧ w'.cell? ⟨g, p * 5 + 2, none⟩ = some (.int .i64 m2[p].f) ∧ w'.cell? ⟨g, p * 5 + 3, none⟩ = some (.int .i64 m2[p].u) ∧ w'.cell? ⟨g, p * 5 + 4, none⟩ = some (.int .i64 m2[p].g)) (go_keep)
              (first | (go_at_call 40; refine (cmpF_ge m2[p + 1] m2[p] _ Hcmp.out).mono ?_; rintro e w3 ⟨cv, hcv, rfl, hb3⟩; have kc := fun o (u : Value) (h : wr.cell? ⟨g, o, none⟩ = some u) => (hb3.cell (p := ⟨g, o, none⟩) hgl).trans h; have f0 := kc _ _ c0; have f1 := kc _ _ c1; have f2 := kc _ _ c2; have f3 := kc _ _ c3; have f4 := kc _ _ c4; have g0 := kc _ _ d0; have g1 := kc _ _ d1; have g2 := kc _ _ d2; have g3 := kc _ _ d3; have g4 := kc _ _ d4; clear kc))
            have hb3' : Below wr.heap.size wr w3 := (Below.refl _ _).drew.trans hb3
            have hom3 := hom2.below hb3'
            have hgr3 := grown_trans2 hgr2 (grown_below hb3' (some g))
            go_wp2_with fail
            go_roundw
            case rel => exact ⟨k + 1, m2, by omega, by omega, by go_num, Hml2.out, Hp2.out, almost_end m2 k (p + 1) Ha2.out (by omega) (fun _ x y hx hy => by
              rw [Nat.add_sub_cancel, List.getElem?_eq_getElem hp1] at hx; rw [List.getElem?_eq_getElem hltm] at hy; cases hx; cases hy; have := Hcmp.out; omega), hom3, hgr3⟩
            case measure => simp [intOf]; omega
    · go_wp2_with fail
      go_end0
      refine ⟨m, rfl, Hp.out, ?_, hom, hgr⟩
      have hs := Hs.out
      have hl := Hml.out
      intro a b hab hb x y hx hy
      exact hs a b hab (by omega) x y hx hy
end Go.Proofs.Ytfncpofcgalllaa
