/- The text of fillers. No condition but what the tables hold and that the sizes fit. -/
import Derived.Test.YtgnblofjjondpaaDoorGlyTX
import Derived.Test.YtgnblofjjondpaaDoorGlyS3
namespace Go.Proofs.YtgnblofjjondpaaDoor
open Go.RowKit
/-- The filler of a word. -/
def shW (x : Word) : Word := ⟨fillS (width x.s), ⟨#[]⟩, x.t, x.n⟩
def shP (p : List Word) : List Word := p.map shW
def shp (l : List (List Word)) : List (List Word) := l.map shP
theorem fill_size (n : Int) : (fillS n).size ≤ 40 := by
  by_cases h : fillOk n = true
  · exact valid_size (fill_int n h).1
  · unfold fillS; rw [if_neg h]; decide
theorem shW_ok {x : Word} (h : x.ok) : (shW x).ok :=
  ⟨by have := fill_size (width x.s); show (fillS (width x.s)).size ≤ _; unfold maxLen; omega, by show (⟨#[]⟩ : ByteArray).size ≤ _; decide, h.2.2.1, h.2.2.2⟩
theorem shP_take (p : List Word) (j : Nat) (h : j < p.length) : shP (p.take (j + 1)) = shP (p.take j) ++ [shW p[j]] := by
  unfold shP; rw [List.take_succ_eq_append_getElem h, List.map_append]; rfl
theorem shp_take (l : List (List Word)) (k : Nat) (h : k < l.length) : shp (l.take (k + 1)) = shp (l.take k) ++ [shP l[k]] := by
  unfold shp; rw [List.take_succ_eq_append_getElem h, List.map_append]; rfl
theorem Own.sl_base {α : Type} [Rep α] [Flat α] {w : World} {base : Nat} {e : TypeId} {v : Value} {l : List α} (h : Own w base e v l) : ∃ A c, v = .slice A l.length c ∧ Sl w (fun b => base ≤ b) A c l := by
  obtain ⟨xs, hx, ho, hr⟩ := h
  rcases hx.2 with ⟨rfl, hn⟩ | ⟨g, cap, cur, rfl, hb, hg, hnc, hcm, hcs, htake⟩
  · exact ⟨none, 0, by rw [hn], by omega, by simp [maxLen], fun h => absurd h (by omega)⟩
  · have hlt := (Array.getElem?_eq_some_iff.1 hg).1
    refine ⟨some ⟨g, 0, none⟩, cap, rfl, hnc, hcm, fun _ => ⟨g, 0, rfl, hb, hlt, fun i hi => ⟨_, Flat.flat (hr i hi), fun j u hu => ?_⟩⟩⟩
    rw [Nat.zero_add]
    have e1 := hx.cells (g := g) rfl (i * Rep.size α + j) u (by
      rw [List.getElem?_take] at hu
      split at hu
      · rwa [List.getElem?_drop] at hu
      · cases hu)
    rwa [addr_add, Nat.zero_add] at e1
set_option maxRecDepth 100000 in
set_option maxHeartbeats 4000000 in
theorem shaped_any (A : Option Addr) (c : Nat) (l : List (List Word)) (w : World) (hl : Sl w (fun b => b < w.heap.size) A c l) (hn : l.length ≤ 1048576) (hp : ∀ p ∈ l, p.length ≤ 1048576) (hT : Tabs w) :
    Calls Tryd.prog 34 #[.slice A l.length c] w fun e w' => ∃ v, e = .returned v ∧ Own w' w.heap.size 61 v (shp l) ∧ Below w.heap.size w w' := by
  have HL := Lib.hid hl
  have HT := Lib.hid hT
  have HPL := Lib.hid hp
  clear hl hT hp
  go_enter Tryd.func34, Tryd.ntmps34
  go_wp2_with fail
  go_loopw [3, 4, 5, 6, 7, 8] (fun v i _ _ _ _ wr => ∃ k : Nat, k ≤ l.length ∧ i = .int .i64 k ∧ (∃ m, Hid (shp (l.take k) = m) ∧ m.length = k ∧ Own wr w.heap.size 61 v m) ∧ Below w.heap.size w wr) (fun _ i _ _ _ _ _ => l.length - (intOf i).toNat)
  case atStart => exact ⟨0, Nat.zero_le _, rfl, ⟨[], rfl, rfl, Own.nil _ _ _⟩, Below.refl _ _⟩
  case round =>
    obtain ⟨k, hk, rfl, ⟨m, hm, hml, hown⟩, hb⟩ := hrel
    have Hb := Lib.hid hb
    have hz := hb.size
    obtain ⟨Av, cv, rfl, _⟩ := hown.form
    have HML := Lib.hid hml
    clear hb hml
    by_cases hlt : k < l.length
    · obtain ⟨b, o, Ap, cp, rfl, _, hbl, hc, hp⟩ := part_at (HL.out.to Hb.out) hlt
      have hkl : (k : Int) < (l.length : Int) := by omega
      have hk0 : (0 : Int) ≤ (k : Int) := by omega
      have HF := Lib.hid (shp_take l k hlt)
      have hpl := HPL.out l[k] (List.getElem_mem hlt)
      generalize l[k] = p at *
      have Hp := Lib.hid hp
      clear hp
      go_wp2_with fail
      obtain ⟨wo, rfl⟩ : ∃ wo : World, wo = wr := ⟨_, rfl⟩
      go_loopw [5, 6, 7, 8] (fun v i _ _ wr => ∃ j : Nat, j ≤ p.length ∧ i = .int .i64 j ∧ (∃ q, Hid (shP (p.take j) = q) ∧ q.length = j ∧ Own wr wo.heap.size 36 v q) ∧ Below wo.heap.size wo wr) (fun _ i _ _ _ => p.length - (intOf i).toNat)
      case atStart => exact ⟨0, Nat.zero_le _, rfl, ⟨[], rfl, rfl, Own.nil _ _ _⟩, Below.refl _ _⟩
      case round =>
        obtain ⟨j, hj, rfl, ⟨q, hq, hql, hown2⟩, hb2⟩ := hrel
        have Hb2 := Lib.hid hb2
        have hz2 := hb2.size
        obtain ⟨A5, c5, rfl, _⟩ := hown2.form
        have hc2 := (hb2.cell (p := ⟨b, o + k, none⟩) hbl).trans hc
        have HQL := Lib.hid hql
        have hq20 : q.length ≤ 1048576 := by omega
        clear hb2 hql
        by_cases hjl : j < p.length
        · obtain ⟨b3, o3, rfl, _, hbl3, hok, d0, d1, d2, d3⟩ := word_at Hp.out hjl
          have hj1 : (j : Int) < (p.length : Int) := by omega
          have hj0 : (0 : Int) ≤ (j : Int) := by omega
          have HPT := Lib.hid (shP_take p j hjl)
          generalize p[j] = x at *
          have HOK := Lib.hid (shW_ok hok)
          have e0 := (Hb2.out.cell (p := ⟨b3, o3 + j * 4, none⟩) hbl3).trans d0
          have HD := Lib.hid (And.intro d2 d3)
          have hx3 := hok.2.2
          clear d0 d1 d2 d3 hok
          go_wp2_with fail
          refine (width_any x.s _ ((HT.out.to Hb.out).to Hb2.out).1).mono ?_
          rintro e w' ⟨rfl, rfl⟩
          obtain ⟨k0, k1⟩ := width_bd x.s
          have HW : Hid (shW x = ⟨fillS (width x.s), ⟨#[]⟩, x.t, x.n⟩) := rfl
          generalize width x.s = wd at *
          go_wp2_with fail
          refine (gfill_any wd ⟨by omega, by omega⟩ _).mono ?_
          rintro e w6 ⟨rfl, hb6⟩
          have Hb6 := Lib.hid (Hb2.out.trans (hb6.mono hz2))
          have hown6 := hown2.below hb6
          have hz6 := Hb6.out.size
          generalize fillS wd = fs at *
          have g0 := (Hb6.out.cell (p := ⟨b, o + k, none⟩) hbl).trans hc
          have g2 := (Hb6.out.cell (p := ⟨b3, o3 + j * 4 + 2, none⟩) hbl3).trans HD.out.1
          have g3 := (Hb6.out.cell (p := ⟨b3, o3 + j * 4 + 3, none⟩) hbl3).trans HD.out.2
          have n0 := World.new_ne w6 _ g0
          have n2 := World.new_ne w6 _ g2
          clear hb6 hown2 hc2 e0
          go_wp2_with fail
          go_region_held3 (fun w' => w'.cell? ⟨b, o + k, none⟩ = some (.slice (some ⟨b3, o3, none⟩) p.length cp) ∧ w'.cell? ⟨b3, o3 + j * 4 + 2, none⟩ = some (.int .i64 x.t) ∧ w'.cell? ⟨b3, o3 + j * 4 + 3, none⟩ = some (.int .i64 x.n)) (go_keep)
            (first
              | ((refine step_push (α := Word) _ (by rfl) (.tmp 37) (.tmp 56) 61 (by rfl) wo.heap.size 36 (.agg #[.string ⟨#[]⟩, .string ⟨#[]⟩, .int .i64 0, .int .i64 0]) 48 Tryd.underlying61 word_info rfl (by decide) (.slice A5 q.length c5) q (by rfl) (hown6.alloc _).drew w6.heap.size _ ⟨fs, ⟨#[]⟩, x.t, x.n⟩ (0, 0) 36 (by rfl) (heap_alloc_new w6 _) ⟨rfl, HW.out ▸ HOK.out⟩ (by omega) (by omega) (by simp; omega) _ rfl ?_); intro g cap8 w8 hown8 hg8 hat8 hlt8; have hb8 := below_push Hb6.out hown6 hz6 ((grown_drew (World.grownBy.refl (w6.alloc (.cells #[.string fs, .string ⟨#[]⟩, .int .i64 x.t, .int .i64 x.n] 36)) _)).trans hg8); have h0 := (hb8.cell (p := ⟨b, o + k, none⟩) hbl).trans hc; have h2 := (hb8.cell (p := ⟨b3, o3 + j * 4 + 2, none⟩) hbl3).trans HD.out.1; have h3 := (hb8.cell (p := ⟨b3, o3 + j * 4 + 3, none⟩) hbl3).trans HD.out.2)
              | fail)
          clear g0 g2 g3 n0 n2 h0 h2 h3
          unfold Exit.then
          go_wp2_with fail
          go_roundw
          case rel => exact ⟨j + 1, by omega, by go_num, ⟨_, by show _ = _; rw [HPT.out, hq.out, HW.out], by simp [HQL.out], hown8⟩, hb8⟩
          case measure => simp [intOf]; omega
        · obtain ⟨A5', c5', e5, hs5⟩ := hown2.sl_base
          obtain ⟨rfl, _, rfl⟩ := Value.slice.inj e5
          have HE := Lib.hid (show shP p = q by rw [← hq.out, List.take_of_length_le (by omega)])
          have hown3 := hown.below Hb2.out
          have Hb3 := Lib.hid (Hb.out.trans (Hb2.out.mono hz))
          have hz3 := Hb3.out.size
          have hlt3 := hown.lt
          have HS5 := Lib.hid hs5
          have hml2 : m.length ≤ 1048576 := by have := HML.out; omega
          have hnj : ¬ (j : Int) < (p.length : Int) := by omega
          clear e5 hs5
          go_wp2_with (at_builtin; refine wpList_push (α := List Word) _ rfl (.tmp 58) (.tmp 60) 39 rfl w.heap.size 61 (.slice none 0 0) 24 Tryd.underlying39 part_info rfl (by decide) (.slice Av m.length cv) m rfl (hown3.alloc _) wr.heap.size _ q (0, 0) 61 rfl (heap_alloc_new wr _) ⟨A5, c5, rfl, (HS5.out.keep (Kept.all ((Below.refl _ _).alloc (Nat.le_refl _) _)) (by simp)).mono (fun i hi _ e => by have := (hlt3 i e.symm).2; omega), by omega⟩ (by omega) (by omega) (by first | omega | (simp; done) | (simp; omega)) _ rfl ?_; intro g cap w9 hown9 hg9 hat9 hlt9; have hb9 := below_push Hb3.out hown3 hz3 hg9; clear hat9 hlt9 hg9)
          go_roundw
          case rel => exact ⟨k + 1, by omega, by go_num, ⟨_, by show _ = _; rw [HF.out, hm.out, HE.out], by simp [HML.out], hown9⟩, hb9⟩
          case measure => simp [intOf]; omega
    · have E := Lib.hid (show shp (l.take k) = shp l by rw [List.take_of_length_le (by omega)])
      go_wp2_with fail
      go_ret
      exact ⟨_, rfl, by rw [← E.out, hm.out]; exact hown, Hb.out⟩
end Go.Proofs.YtgnblofjjondpaaDoor
