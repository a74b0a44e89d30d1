/- The reference's generator of texts: the walk. No condition. -/
import Derived.Test.YtgnblofjjondpaaDoorGlyG4
import Derived.Deep.RegionLaw
import Derived.Deep.RegionHeld3
namespace Go.Proofs.YtgnblofjjondpaaDoor
open Go.RowKit
/-- What Text hands back: a text that it has made. -/
def IsText (w : World) (e : Ending) (w' : World) : Prop :=
  ∃ v vn ls ns, e = .returned (.agg #[v, vn]) ∧ GText ls ns ∧ (∃ B us un, Nest w' (fun g => w.heap.size ≤ g ∧ g < B) 61 36 v us ls ∧ Nest w' (fun g => B ≤ g) 61 36 vn un ns) ∧ Below w.heap.size w w'
set_option maxRecDepth 100000 in
set_option maxHeartbeats 4000000 in
theorem text_any (A : Option Addr) (c : Nat) (l : List Int) (w : World) (hl : Sl w (fun b => b < w.heap.size) A c l) :
    Calls Tryd.prog 23 #[.slice A l.length c] w (IsText w) := by
  have hb0 := ((Below.refl w.heap.size w).alloc (Nat.le_refl _) (.cells #[.slice none 0 0, .slice none 0 0] 41))
  have hb1 := hb0.alloc (by simp) (.cells #[.slice none 0 0, .slice none 0 0] 41)
  have HB := Lib.hid hb1
  have HL := Lib.hid hl
  clear hl hb0 hb1
  go_enter Tryd.func23, Tryd.ntmps23
  go_wp2_with fail
  have hx : TBox ((w.alloc (.cells #[.slice none 0 0, .slice none 0 0] 41)).alloc (.cells #[.slice none 0 0, .slice none 0 0] 41)) w.heap.size (.slice none 0 0) (.slice none 0 0) := ⟨(Below.heap_alloc _ _ _ (by simp)).trans (heap_at rfl)⟩
  have hy : TBox ((w.alloc (.cells #[.slice none 0 0, .slice none 0 0] 41)).alloc (.cells #[.slice none 0 0, .slice none 0 0] 41)) (w.heap.size + 1) (.slice none 0 0) (.slice none 0 0) := ⟨heap_at (by simp)⟩
  generalize ((w.alloc (.cells #[.slice none 0 0, .slice none 0 0] 41)).alloc (.cells #[.slice none 0 0, .slice none 0 0] 41)) = w1 at *
  have S0 : St1 w w1 (w.heap.size + 1) 0 (.slice none 0 0) [] [] := ⟨hy, hx, Nest.nil _ _ _ _, rfl, fun _ h => (by cases h), HB.out⟩
  have HS0 := Lib.hid S0
  clear hx hy S0
  have hYX : w.heap.size < w.heap.size + 1 := by omega
  generalize w.heap.size + 1 = Y at *
  refine (pick_any A c l 1 4 _ (HL.out.to HB.out) (by decide) (by decide) (by decide)).mono ?_
  rintro e w' ⟨r0, rfl, hr0, rfl⟩
  clear HB
  go_wp2_with fail
  go_loopw [5] (fun i wr => ∃ k : Nat, k ≤ 4 ∧ i = .int .i64 k ∧ ∃ v us ls, Hid (St1 w wr Y k v us ls)) (fun i _ => 5 - (intOf i).toNat)
  case atStart => exact ⟨0, by omega, rfl, _, _, _, HS0⟩
  case round =>
    obtain ⟨k, hk, rfl, v, us, ls, hst⟩ := hrel
    have hk0 : 0 ≤ (k : Int) := by omega
    go_wp2_with fail
    refine (pick_any A c l 0 4 _ (HL.out.to hst.out.b) (by decide) (by decide) (by decide)).mono ?_
    rintro e w' ⟨r, rfl, hr, rfl⟩
    by_cases hkr : k ≤ r
    · have hkr' : (k : Int) ≤ (r : Int) := by omega
      have hk3 : (k : Int) ≤ 3 := by omega
      have hle : us.length ≤ 4 := by have := hst.out.n.len; have := hst.out.l; omega
      obtain ⟨A1, c1, rfl, _, _⟩ := hst.out.n.own.form
      have t0 := hst.out.y.c0
      have hsz := hst.out.b.size
      have hw2 : IntKind.i64.wrap (2 + (k : Int)) = 2 + (k : Int) := by rw [IntWalk.i64_in _ (by omega)]
      have hw3 : 0 ≤ 2 + (k : Int) := by omega
      go_wp2_with fail
      go_region_law (first
        | (rw [if_pos (by rfl)]; go_simp; go_at_call 40; refine (pick_any A c l (2 + (k : Int)) 1000000 _ (HL.out.to hst.out.b.drew) (by decide) (by decide) hw3).mono ?_; rintro e w' ⟨r2, rfl, hr2, rfl⟩)
        | (rw [if_pos (by rfl)]; go_simp; go_at_call 41; refine (part_any r2 40 (by omega) (by decide) (by decide) _).mono ?_; rintro e w4 ⟨vp, rfl, p, hown4, hplen, hpg, hb4'⟩; have hb4 := (Below.refl wr.heap.size wr).drew.trans hb4'; clear hb4'; have t4 := (hb4.cell (p := ⟨Y, 0, none⟩) hst.out.y.lt).trans t0; obtain ⟨Ap, cp, rfl, _, _⟩ := hown4.form; have HPL := Lib.hid hplen; have HPG := Lib.hid hpg; clear hplen hpg; have n4 := fun ob => ((hst.out.y.below hb4).below ((Below.refl _ _).alloc (Nat.le_refl _) ob)).c0)
        | ((refine step_push (α := Raw) _ (by rfl) (.tmp 18) (.tmp 24) 39 (by rfl) 0 61 (.slice none 0 0) 24 Tryd.underlying39 raw_info rfl (by decide) _ us (by rfl) ((hst.out.n.own.below hb4).alloc _) w4.heap.size _ ⟨.slice Ap p.length cp, rfl⟩ (0, 0) 61 (by rfl) (heap_alloc_new w4 _) rfl (by omega) (by omega) (by simp) _ rfl ?_); intro g cap w5 hown5 hg5 hat5 hlt5; obtain ⟨t5, z5⟩ := St1.cell hst.out hYX hb4 hg5)
        | fail)
      all_goals go_wp2_with fail
      all_goals go_roundw
      all_goals first
        | exact ⟨k + 1, by omega, by go_num, _, _, _, St1.push (u := ⟨.slice Ap p.length cp, rfl⟩) hst.out hYX hb4 (hown4.re (Nat.le_refl _)) ⟨by rw [HPL.out]; omega, by rw [HPL.out]; omega, HPG.out⟩ hown5 hg5 (by rcases hat5 with e | e; exact .inl e.symm; exact .inr (by rw [e]; rfl))⟩
        | (simp [intOf]; omega)
    · have hkr' : ¬ (k : Int) ≤ (r : Int) := by omega
      have hk1 : 1 ≤ k := by omega
      have hst2 := Lib.hid hst.out.next
      have hl4 := hst.out.l
      have hf := Lib.hid hst.out.f
      have HT : Hid (GText ls []) := Lib.hid ⟨by omega, by omega, by simp, fun p hp => ⟨(hf.out p hp).1, (hf.out p hp).2.1, fun x hx => ((hf.out p hp).2.2 x hx).1⟩, fun p hp => (by cases hp), seqOf_none fun p hp x hx => ((hf.out p hp).2.2 x hx).2⟩
      clear hst hf
      generalize wr.heap.size = H at *
      go_wp2_with fail
      go_loopw [6, 7, 8] (fun i _ _ wr => ∃ k : Nat, k ≤ r0 ∧ i = .int .i64 k ∧ ∃ ls ns vn un, Hid (St2 w wr Y H v vn us un ls ns) ∧ Hid (GText ls ns) ∧ ns.length ≤ k) (fun i _ _ _ => r0 - (intOf i).toNat)
      case atStart => exact ⟨0, by omega, rfl, ls, [], _, [], hst2, HT, by simp⟩
      case round =>
        clear hst2 HT hl4
        obtain ⟨k2, hk2, rfl, ls, ns, vn, un, hst, hgt, hnk⟩ := hrel
        have hk20 : 0 ≤ (k2 : Int) := by omega
        by_cases hlt : k2 < r0
        · have hlt' : (k2 : Int) < (r0 : Int) := by omega
          have hw6 : IntKind.i64.wrap (6 + (k2 : Int)) = 6 + (k2 : Int) := by rw [IntWalk.i64_in _ (by omega)]
          have hw60 : 0 ≤ 6 + (k2 : Int) := by omega
          go_wp2_with fail
          refine (pick_any A c l (6 + (k2 : Int)) 1000000 _ (HL.out.to hst.out.b) (by decide) (by decide) (by omega)).mono ?_
          rintro e w' ⟨r2, rfl, hr2, rfl⟩
          have hlens : ∀ p ∈ ls, p.length < 9223372036854775808 := fun p hp => by have := (hgt.out.p p hp).2.1; omega
          have hlensn : ∀ p ∈ ns, p.length < 9223372036854775808 := fun p hp => by have := (hgt.out.q p hp).2.1; omega
          obtain ⟨A1, c1, rfl, _⟩ := hst.out.n.sl hlens
          obtain ⟨A2, c2, rfl, _⟩ := hst.out.m.sl hlensn
          have HLS := Lib.hid hlens
          have hn3 : ns.length ≤ 3 := by omega
          have hl4 := hgt.out.l4
          have hwn : IntKind.i64.wrap ((ns.length : Int) + 1) = (ns.length : Int) + 1 := by rw [IntWalk.i64_in _ (by omega)]
          clear hlens hlensn
          go_wp2_with fail
          go_loopw [8] (fun i wr3 => ∃ j : Nat, j ≤ ls.length ∧ i = .int .i64 j ∧ Hid (St2 w wr3 Y H (.slice A1 ls.length c1) (.slice A2 ns.length c2) us un ls ns)) (fun i _ => ls.length - (intOf i).toNat)
          case atStart => exact ⟨0, by omega, rfl, hst⟩
          case round =>
            clear hst
            obtain ⟨j, hj, rfl, hst⟩ := hrel
            have t0 := hst.out.y.c0
            have t1 := hst.out.y.c1
            have hj0 : 0 ≤ (j : Int) := by omega
            have hj4 : (j : Int) ≤ 4 := by omega
            by_cases hjl : j < ls.length
            · have hjl' : (j : Int) < (ls.length : Int) := by omega
              obtain ⟨gv, cap, hu, ev, hgl, hB, _, hcell, hfz⟩ := hst.out.n.at_ hjl
              obtain ⟨rfl, rfl⟩ : A1 = some ⟨gv, 0, none⟩ ∧ c1 = cap := by have := Value.slice.inj ev; exact ⟨this.1, this.2.2⟩
              have hpj := hgt.out.p ls[j] (List.getElem_mem hjl)
              obtain ⟨gk, capk, es, ek, _, hgk, hrest⟩ := (hst.out.n.inn j hu hjl).at_ (k := 0) (by omega)
              clear hrest
              have hrow := hst.out.n.inn j hu hjl
              have EK := Lib.hid (show us[j].v.ownBlock = some gk by rw [ek]; rfl)
              rw [ek] at hcell
              have HEK := Lib.hid ek
              rw [ek] at hrow
              have HROW := Lib.hid hrow
              have hlj : ls[j].length ≤ 40 := hpj.2.1
              obtain ⟨As, cs, es2, hsl⟩ := hst.out.n.sl HLS.out
              obtain ⟨rfl, rfl⟩ : As = some ⟨gv, 0, none⟩ ∧ cs = c1 := by have := Value.slice.inj es2; exact ⟨this.1.symm, this.2.2.symm⟩
              have HSL := Lib.hid hsl
              have hYg : some Y ≠ some gk := fun e => by have := (hst.out.n.mi j hu gk EK.out).1; injection e with e; omega
              have hvg : some gv ≠ some gk := hst.out.n.ne j hu gk EK.out
              clear ev es2 hsl hrow ek hfz
              go_wp2_with fail
              go_region_held3 (fun w' => w'.cell? ⟨Y, 0, none⟩ = some (.slice (some ⟨gv, 0, none⟩) ls.length cs) ∧ w'.cell? ⟨Y, 1, none⟩ = some (.slice A2 ns.length c2) ∧ w'.cell? ⟨gv, j, none⟩ = some (.slice (some ⟨gk, 0, none⟩) ls[j].length capk)) (go_keep)
                (first
                  | (go_at_call 43; refine (last_any _ _ ls j _ HSL.out.drew (by omega)).mono ?_; rintro e w5 ⟨b5, rfl, hb5, rfl⟩)
                  | (go_at_call 42; refine (refer_any gk capk ls[j] r2 ((ns.length : Int) + 1) b5 _ HROW.out.drew (by omega) (by omega) (by omega) (by omega)).mono ?_; rintro e w6 ⟨b6, rfl, q6, hq6, hl6, hlq6, hown6, hg6⟩; have hg6' := (grown_drew (World.grownBy.refl wr (some gk))).trans hg6; have f0 := hg6'.cell t0 hYg; have f1 := hg6'.cell t1 hYg; have f2 := hg6'.cell hcell hvg)
                  | fail)
              clear hcell f2 hYg hvg
              cases b6 with
              | false =>
                have hst2 := Lib.hid (hst.out.stay hYX j hu hjl EK.out hq6 (by rw [HEK.out]; exact hown6) hg6')
                clear hq6 hb5 hl6 hlq6 hown6 hg6 hg6' t0 t1 hwn
                unfold Exit.then
                go_wp2_with fail
                go_roundw
                case rel => exact ⟨j + 1, by omega, by go_num, hst2⟩
                case measure => simp [intOf]; omega
              | true =>
                have hst2 := Lib.hid (hst.out.inner hYX j hu EK.out (by rw [HEK.out]; exact hown6) hg6')
                have HLF := Lib.hid (hb5 (hl6 rfl))
                have HQ6 := Lib.hid hq6
                clear hq6 hb5 hl6 hlq6 hown6 hg6 hg6' t0 t1 hwn
                unfold Exit.then
                go_wp2_with fail
                go_region_law (first
                  | (rw [if_pos (by rfl)]; go_simp; go_at_call 41; refine (part_any r2 12 (by omega) (by decide) (by decide) _).mono ?_; rintro e w7 ⟨vp, rfl, p, hown7, hplen, hpg, hb7'⟩; have hb7 := (Below.refl w6.heap.size w6).drew.trans hb7'; clear hb7'; have t7 := (hb7.cell (p := ⟨Y, 1, none⟩) hst2.out.y.lt).trans f1; obtain ⟨Ap, cp, rfl, _, _⟩ := hown7.form; have HPL := Lib.hid hplen; have HPG := Lib.hid hpg; clear hplen hpg; have n7 := fun ob => ((hst2.out.y.below hb7).below ((Below.refl _ _).alloc (Nat.le_refl _) ob)).c1)
                  | ((refine step_push (α := Raw) _ (by rfl) (.tmp 67) (.tmp 70) 39 (by rfl) 0 61 (.slice none 0 0) 24 Tryd.underlying39 raw_info rfl (by decide) _ un (by rfl) ((hst2.out.m.own.below hb7).alloc _) w7.heap.size _ ⟨.slice Ap p.length cp, rfl⟩ (0, 0) 61 (by rfl) (heap_alloc_new w7 _) rfl (by have := hst2.out.m.len; omega) (by have := hst2.out.m.len; omega) (by simp) _ rfl ?_); intro g cap8 w8 hown8 hg8 hat8 hlt8; obtain ⟨t8, z8⟩ := St2.cells hst2.out hb7 hg8)
                  | fail)
                all_goals go_wp2_with fail
                all_goals go_roundw
                all_goals first
                  | exact ⟨k2 + 1, by omega, by go_num, _, _, _, _, St2.push (u := ⟨.slice Ap p.length cp, rfl⟩) hst2.out hYX hb7 (hown7.re (Nat.le_refl _)) hown8 hg8 (by rcases hat8 with e | e; exact .inl e.symm; exact .inr (by rw [e]; rfl)), hgt.out.next j hjl HQ6.out HLF.out ⟨by rw [HPL.out]; omega, by rw [HPL.out]; omega, HPG.out⟩ (by omega), by simp; omega⟩
                  | (simp [intOf]; omega)
            · have hjl' : ¬ (j : Int) < (ls.length : Int) := by omega
              go_wp2_with fail
              go_quiet (fail)
              have hst2 := Lib.hid (hst.out.below (Below.dn (Below.refl _ _) nq))
              go_wp2_with fail
              go_roundw
              case rel => exact ⟨k2 + 1, by omega, by go_num, ls, ns, _, un, hst2, hgt, by omega⟩
              case measure => simp [intOf]; omega
        · have hlt' : ¬ (k2 : Int) < (r0 : Int) := by omega
          have hlens : ∀ p ∈ ls, p.length < 9223372036854775808 := fun p hp => by have := (hgt.out.p p hp).2.1; omega
          have hlensn : ∀ p ∈ ns, p.length < 9223372036854775808 := fun p hp => by have := (hgt.out.q p hp).2.1; omega
          obtain ⟨A1, c1, rfl, _⟩ := hst.out.n.sl hlens
          obtain ⟨A2, c2, rfl, _⟩ := hst.out.m.sl hlensn
          have t0 := hst.out.y.c0
          have t1 := hst.out.y.c1
          have x0 := hst.out.x.c0
          have x1 := hst.out.x.c1
          have hfz := hst.out.x.fz
          have hz := hst.out.b.size
          have hyx := hst.out.y.lt
          go_wp2_with fail
          refine bodyPost_ret (v := .agg #[.slice A1 ls.length c1, .slice A2 ns.length c2]) (by simp [results, Tryd.results23, go_sem, x0, x1]) rfl ⟨_, _, ls, ns, rfl, hgt.out, ⟨H, us, un, ?_, ?_⟩, ?_⟩
          · exact (hst.out.n.kept fun g hg hB => ((heap_set _ _ 1 _ (by omega)).trans (heap_set _ _ 0 _ (by omega)))).mono fun g _ hB => ⟨by omega, hB.2⟩
          · exact hst.out.m.kept fun g hg hB => by have := hst.out.yh; exact ((heap_set _ _ 1 _ (by omega)).trans (heap_set _ _ 0 _ (by omega)))
          · exact (hst.out.b.setCell (p := ⟨w.heap.size, 0, none⟩) (Nat.le_refl _) _).setCell (p := ⟨w.heap.size, 1, none⟩) (Nat.le_refl _) _
end Go.Proofs.YtgnblofjjondpaaDoor
