/- The reference's generator of texts: the walk. No condition.
What the generator of texts hands back, as such: a text of good words, whose notes are numbered in order, has no error. No condition.
The pages of lines and their notes. No condition but sizes.
The pages of a text. No condition but sizes.
The error of a text of a book. No condition but sizes. -/
import Derived.Test.YtakaielemicpkaaGreatDoorBZc5
import Derived.Deep.RegionLaw
import Derived.Deep.RegionHeld3
import Derived.Laws.EntriesVeiled
namespace Go.Proofs.YtakaielemicpkaaGreatDoor
open Go.RowKit
def IsText (w : World) (e : Ending) (w' : World) : Prop :=
 ∃ v vn ls ns, e = .returned (.agg #[v, vn]) ∧ GText ls ns ∧ (∃ B us un, Nest w' (fun g => w.heap.size ≤ g ∧ g < B) 99 104 v us ls ∧ Nest w' (fun g => B ≤ g) 99 104 vn un ns) ∧ Below w.heap.size w w'
set_option maxRecDepth 100000 in
set_option maxHeartbeats 4000000 in
theorem text_any (A : Option Addr) (c : Nat) (l : List Int) (w : World) (hl : Sl w (fun b => b < w.heap.size) A c l) :
  Calls Tryz.prog 61 #[.slice A l.length c] w (IsText w) := by
 have hb0 := ((Below.refl w.heap.size w).alloc (Nat.le_refl _) (.cells #[.slice none 0 0, .slice none 0 0] 50))
 have hb1 := hb0.alloc (by simp) (.cells #[.slice none 0 0, .slice none 0 0] 50)
 have HB := Lib.hid hb1
 have HL := Lib.hid hl
 clear hl hb0 hb1
 go_enter Tryz.func61, Tryz.ntmps61
 go_wp2_with fail
 have hx : TBox ((w.alloc (.cells #[.slice none 0 0, .slice none 0 0] 50)).alloc (.cells #[.slice none 0 0, .slice none 0 0] 50)) w.heap.size (.slice none 0 0) (.slice none 0 0) := ⟨(Below.heap_alloc _ _ _ (by simp)).trans (heap_at rfl)⟩
 have hy : TBox ((w.alloc (.cells #[.slice none 0 0, .slice none 0 0] 50)).alloc (.cells #[.slice none 0 0, .slice none 0 0] 50)) (w.heap.size + 1) (.slice none 0 0) (.slice none 0 0) := ⟨heap_at (by simp)⟩
 generalize ((w.alloc (.cells #[.slice none 0 0, .slice none 0 0] 50)).alloc (.cells #[.slice none 0 0, .slice none 0 0] 50)) = w1 at *
 have S0 : St1 w w1 (w.heap.size + 1) 0 (.slice none 0 0) [] [] := ⟨hy, hx, Nest.nil _ _ _ _, rfl, fun _ h => (by cases h), HB.out⟩
 have HS0 := Lib.hid S0
 clear hx hy S0
 have hYX : w.heap.size < w.heap.size + 1 := by omega
 generalize w.heap.size + 1 = Y at *
 refine (pick_any A c l 1 4 _ (HL.out.to HB.out) (by decide) (by decide) (by decide)).mono ?_
 rintro e w' ⟨r0, rfl, hr0, rfl⟩
 clear HB
 go_wp2_with fail
 go_loopw [5] (fun i wr => ∃ k : Nat, k ≤ 4 ∧ i = .int .i64 k ∧ ∃ v us ls, Hid (St1 w wr Y k v us ls)) (fun i _ => 5 - (intOf i).toNat)
 case atStart => exact ⟨0, by omega, rfl, _, _, _, HS0⟩
 case round =>
  obtain ⟨k, hk, rfl, v, us, ls, hst⟩ := hrel
  have hk0 : 0 ≤ (k : Int) := by omega
  go_wp2_with fail
  refine (pick_any A c l 0 4 _ (HL.out.to hst.out.b) (by decide) (by decide) (by decide)).mono ?_
  rintro e w' ⟨r, rfl, hr, rfl⟩
  by_cases hkr : k ≤ r
  ·have hkr' : (k : Int) ≤ (r : Int) := by omega
   have hk3 : (k : Int) ≤ 3 := by omega
   have hle : us.length ≤ 4 := by have := hst.out.n.len; have := hst.out.l; omega
   obtain ⟨A1, c1, rfl, _, _⟩ := hst.out.n.own.form
   have t0 := hst.out.y.c0
   have hsz := hst.out.b.size
   have hw2 : IntKind.i64.wrap (2 + (k : Int)) = 2 + (k : Int) := by rw [IntWalk.i64_in _ (by omega)]
   have hw3 : 0 ≤ 2 + (k : Int) := by omega
   go_wp2_with fail
   go_region_law (first
    |(rw [if_pos (by rfl)]; go_simp; go_at_call 30; refine (pick_any A c l (2 + (k : Int)) 1000000 _ (HL.out.to hst.out.b.drew) (by decide) (by decide) hw3).mono ?_; rintro e w' ⟨r2, rfl, hr2, rfl⟩)
    |(rw [if_pos (by rfl)]; go_simp; go_at_call 84; refine (part_any r2 40 (by omega) (by decide) (by decide) _).mono ?_; rintro e w4 ⟨vp, rfl, p, hown4, hplen, hpg, hb4'⟩; have hb4 := (Below.refl wr.heap.size wr).drew.trans hb4'; clear hb4'; have t4 := (hb4.cell (p := ⟨Y, 0, none⟩) hst.out.y.lt).trans t0; obtain ⟨Ap, cp, rfl, _, _⟩ := hown4.form; have HPL := Lib.hid hplen; have HPG := Lib.hid hpg; clear hplen hpg; have n4 := fun ob => ((hst.out.y.below hb4).below ((Below.refl _ _).alloc (Nat.le_refl _) ob)).c0)
    |((refine step_push (α := Raw) _ (by rfl) (.tmp 18) (.tmp 24) 48 (by rfl) 0 99 (.slice none 0 0) 24 Tryz.underlying48 raw_info rfl (by decide) _ us (by rfl) ((hst.out.n.own.below hb4).alloc _) w4.heap.size _ ⟨.slice Ap p.length cp, rfl⟩ (0, 0) 99 (by rfl) (heap_alloc_new w4 _) rfl (by omega) (by omega) (by simp) _ rfl ?_); intro g cap w5 hown5 hg5 hat5 hlt5; obtain ⟨t5, z5⟩ := St1.cell hst.out hYX hb4 hg5)
    | fail)
   all_goals go_wp2_with fail
   all_goals go_roundw
   all_goals first
    | exact ⟨k + 1, by omega, by go_num, _, _, _, St1.push (u := ⟨.slice Ap p.length cp, rfl⟩) hst.out hYX hb4 (hown4.re (Nat.le_refl _)) ⟨by rw [HPL.out]; omega, by rw [HPL.out]; omega, HPG.out⟩ hown5 hg5 (by rcases hat5 with e | e; exact .inl e.symm; exact .inr (by rw [e]; rfl))⟩
    |(simp [intOf]; omega)
  ·have hkr' : ¬ (k : Int) ≤ (r : Int) := by omega
   have hk1 : 1 ≤ k := by omega
   have hst2 := Lib.hid hst.out.next
   have hl4 := hst.out.l
   have hf := Lib.hid hst.out.f
   have HT : Hid (GText ls []) := Lib.hid ⟨by omega, by omega, by simp, fun p hp => ⟨(hf.out p hp).1, (hf.out p hp).2.1, fun x hx => ((hf.out p hp).2.2 x hx).1⟩, fun p hp => (by cases hp), seqOf_none fun p hp x hx => ((hf.out p hp).2.2 x hx).2⟩
   clear hst hf
   generalize wr.heap.size = H at *
   go_wp2_with fail
   go_loopw [6, 7, 8] (fun i _ _ wr => ∃ k : Nat, k ≤ r0 ∧ i = .int .i64 k ∧ ∃ ls ns vn un, Hid (St2 w wr Y H v vn us un ls ns) ∧ Hid (GText ls ns) ∧ ns.length ≤ k) (fun i _ _ _ => r0 - (intOf i).toNat)
   case atStart => exact ⟨0, by omega, rfl, ls, [], _, [], hst2, HT, by simp⟩
   case round =>
    clear hst2 HT hl4
    obtain ⟨k2, hk2, rfl, ls, ns, vn, un, hst, hgt, hnk⟩ := hrel
    have hk20 : 0 ≤ (k2 : Int) := by omega
    by_cases hlt : k2 < r0
    ·have hlt' : (k2 : Int) < (r0 : Int) := by omega
     have hw6 : IntKind.i64.wrap (6 + (k2 : Int)) = 6 + (k2 : Int) := by rw [IntWalk.i64_in _ (by omega)]
     have hw60 : 0 ≤ 6 + (k2 : Int) := by omega
     go_wp2_with fail
     refine (pick_any A c l (6 + (k2 : Int)) 1000000 _ (HL.out.to hst.out.b) (by decide) (by decide) (by omega)).mono ?_
     rintro e w' ⟨r2, rfl, hr2, rfl⟩
     have hlens : ∀ p ∈ ls, p.length < 9223372036854775808 := fun p hp => by have := (hgt.out.p p hp).2.1; omega
     have hlensn : ∀ p ∈ ns, p.length < 9223372036854775808 := fun p hp => by have := (hgt.out.q p hp).2.1; omega
     obtain ⟨A1, c1, rfl, _⟩ := hst.out.n.sl hlens
     obtain ⟨A2, c2, rfl, _⟩ := hst.out.m.sl hlensn
     have HLS := Lib.hid hlens
     have hn3 : ns.length ≤ 3 := by omega
     have hl4 := hgt.out.l4
     have hwn : IntKind.i64.wrap ((ns.length : Int) + 1) = (ns.length : Int) + 1 := by rw [IntWalk.i64_in _ (by omega)]
     clear hlens hlensn
     go_wp2_with fail
     go_loopw [8] (fun i wr3 => ∃ j : Nat, j ≤ ls.length ∧ i = .int .i64 j ∧ Hid (St2 w wr3 Y H (.slice A1 ls.length c1) (.slice A2 ns.length c2) us un ls ns)) (fun i _ => ls.length - (intOf i).toNat)
     case atStart => exact ⟨0, by omega, rfl, hst⟩
     case round =>
      clear hst
      obtain ⟨j, hj, rfl, hst⟩ := hrel
      have t0 := hst.out.y.c0
      have t1 := hst.out.y.c1
      have hj0 : 0 ≤ (j : Int) := by omega
      have hj4 : (j : Int) ≤ 4 := by omega
      by_cases hjl : j < ls.length
      ·have hjl' : (j : Int) < (ls.length : Int) := by omega
       obtain ⟨gv, cap, hu, ev, hgl, hB, _, hcell, hfz⟩ := hst.out.n.at_ hjl
       obtain ⟨rfl, rfl⟩ : A1 = some ⟨gv, 0, none⟩ ∧ c1 = cap := by have := Value.slice.inj ev; exact ⟨this.1, this.2.2⟩
       have hpj := hgt.out.p ls[j] (List.getElem_mem hjl)
       obtain ⟨gk, capk, es, ek, _, hgk, hrest⟩ := (hst.out.n.inn j hu hjl).at_ (k := 0) (by omega)
       clear hrest
       have hrow := hst.out.n.inn j hu hjl
       have EK := Lib.hid (show us[j].v.ownBlock = some gk by rw [ek]; rfl)
       rw [ek] at hcell
       have HEK := Lib.hid ek
       rw [ek] at hrow
       have HROW := Lib.hid hrow
       have hlj : ls[j].length ≤ 40 := hpj.2.1
       obtain ⟨As, cs, es2, hsl⟩ := hst.out.n.sl HLS.out
       obtain ⟨rfl, rfl⟩ : As = some ⟨gv, 0, none⟩ ∧ cs = c1 := by have := Value.slice.inj es2; exact ⟨this.1.symm, this.2.2.symm⟩
       have HSL := Lib.hid hsl
       have hYg : some Y ≠ some gk := fun e => by have := (hst.out.n.mi j hu gk EK.out).1; injection e with e; omega
       have hvg : some gv ≠ some gk := hst.out.n.ne j hu gk EK.out
       clear ev es2 hsl hrow ek hfz
       go_wp2_with fail
       go_region_held3 (fun w' => w'.cell? ⟨Y, 0, none⟩ = some (.slice (some ⟨gv, 0, none⟩) ls.length cs) ∧ w'.cell? ⟨Y, 1, none⟩ = some (.slice A2 ns.length c2) ∧ w'.cell? ⟨gv, j, none⟩ = some (.slice (some ⟨gk, 0, none⟩) ls[j].length capk)) (go_keep)
        (first
         |(go_at_call 86; refine (last_any _ _ ls j _ HSL.out.drew (by omega)).mono ?_; rintro e w5 ⟨b5, rfl, hb5, rfl⟩)
         |(go_at_call 85; refine (refer_any gk capk ls[j] r2 ((ns.length : Int) + 1) b5 _ HROW.out.drew (by omega) (by omega) (by omega) (by omega)).mono ?_; rintro e w6 ⟨b6, rfl, q6, hq6, hl6, hlq6, hown6, hg6⟩; have hg6' := (grown_drew (World.grownBy.refl wr (some gk))).trans hg6; have f0 := hg6'.cell t0 hYg; have f1 := hg6'.cell t1 hYg; have f2 := hg6'.cell hcell hvg)
         | fail)
       clear hcell f2 hYg hvg
       cases b6 with
       | false =>
        have hst2 := Lib.hid (hst.out.stay hYX j hu hjl EK.out hq6 (by rw [HEK.out]; exact hown6) hg6')
        clear hq6 hb5 hl6 hlq6 hown6 hg6 hg6' t0 t1 hwn
        unfold Exit.then
        go_wp2_with fail
        go_roundw
        case rel => exact ⟨j + 1, by omega, by go_num, hst2⟩
        case measure => simp [intOf]; omega
       | true =>
        have hst2 := Lib.hid (hst.out.inner hYX j hu EK.out (by rw [HEK.out]; exact hown6) hg6')
        have HLF := Lib.hid (hb5 (hl6 rfl))
        have HQ6 := Lib.hid hq6
        clear hq6 hb5 hl6 hlq6 hown6 hg6 hg6' t0 t1 hwn
        unfold Exit.then
        go_wp2_with fail
        go_region_law (first
         |(rw [if_pos (by rfl)]; go_simp; go_at_call 84; refine (part_any r2 12 (by omega) (by decide) (by decide) _).mono ?_; rintro e w7 ⟨vp, rfl, p, hown7, hplen, hpg, hb7'⟩; have hb7 := (Below.refl w6.heap.size w6).drew.trans hb7'; clear hb7'; have t7 := (hb7.cell (p := ⟨Y, 1, none⟩) hst2.out.y.lt).trans f1; obtain ⟨Ap, cp, rfl, _, _⟩ := hown7.form; have HPL := Lib.hid hplen; have HPG := Lib.hid hpg; clear hplen hpg; have n7 := fun ob => ((hst2.out.y.below hb7).below ((Below.refl _ _).alloc (Nat.le_refl _) ob)).c1)
         |((refine step_push (α := Raw) _ (by rfl) (.tmp 67) (.tmp 70) 48 (by rfl) 0 99 (.slice none 0 0) 24 Tryz.underlying48 raw_info rfl (by decide) _ un (by rfl) ((hst2.out.m.own.below hb7).alloc _) w7.heap.size _ ⟨.slice Ap p.length cp, rfl⟩ (0, 0) 99 (by rfl) (heap_alloc_new w7 _) rfl (by have := hst2.out.m.len; omega) (by have := hst2.out.m.len; omega) (by simp) _ rfl ?_); intro g cap8 w8 hown8 hg8 hat8 hlt8; obtain ⟨t8, z8⟩ := St2.cells hst2.out hb7 hg8)
         | fail)
        all_goals go_wp2_with fail
        all_goals go_roundw
        all_goals first
         | exact ⟨k2 + 1, by omega, by go_num, _, _, _, _, St2.push (u := ⟨.slice Ap p.length cp, rfl⟩) hst2.out hYX hb7 (hown7.re (Nat.le_refl _)) hown8 hg8 (by rcases hat8 with e | e; exact .inl e.symm; exact .inr (by rw [e]; rfl)), hgt.out.next j hjl HQ6.out HLF.out ⟨by rw [HPL.out]; omega, by rw [HPL.out]; omega, HPG.out⟩ (by omega), by simp; omega⟩
         |(simp [intOf]; omega)
      ·have hjl' : ¬ (j : Int) < (ls.length : Int) := by omega
       go_wp2_with fail
       go_quiet (fail)
       have hst2 := Lib.hid (hst.out.below (Below.dn (Below.refl _ _) nq))
       go_wp2_with fail
       go_roundw
       case rel => exact ⟨k2 + 1, by omega, by go_num, ls, ns, _, un, hst2, hgt, by omega⟩
       case measure => simp [intOf]; omega
    ·have hlt' : ¬ (k2 : Int) < (r0 : Int) := by omega
     have hlens : ∀ p ∈ ls, p.length < 9223372036854775808 := fun p hp => by have := (hgt.out.p p hp).2.1; omega
     have hlensn : ∀ p ∈ ns, p.length < 9223372036854775808 := fun p hp => by have := (hgt.out.q p hp).2.1; omega
     obtain ⟨A1, c1, rfl, _⟩ := hst.out.n.sl hlens
     obtain ⟨A2, c2, rfl, _⟩ := hst.out.m.sl hlensn
     have t0 := hst.out.y.c0
     have t1 := hst.out.y.c1
     have x0 := hst.out.x.c0
     have x1 := hst.out.x.c1
     have hfz := hst.out.x.fz
     have hz := hst.out.b.size
     have hyx := hst.out.y.lt
     go_wp2_with fail
     refine bodyPost_ret (v := .agg #[.slice A1 ls.length c1, .slice A2 ns.length c2]) (by simp [results, Tryz.results61, go_sem, x0, x1]) rfl ⟨_, _, ls, ns, rfl, hgt.out, ⟨H, us, un, ?_, ?_⟩, ?_⟩
     ·exact (hst.out.n.kept fun g hg hB => ((heap_set _ _ 1 _ (by omega)).trans (heap_set _ _ 0 _ (by omega)))).mono fun g _ hB => ⟨by omega, hB.2⟩
     ·exact hst.out.m.kept fun g hg hB => by have := hst.out.yh; exact ((heap_set _ _ 1 _ (by omega)).trans (heap_set _ _ 0 _ (by omega)))
     ·exact (hst.out.b.setCell (p := ⟨w.heap.size, 0, none⟩) (Nat.le_refl _) _).setCell (p := ⟨w.heap.size, 1, none⟩) (Nat.le_refl _) _
end Go.Proofs.YtakaielemicpkaaGreatDoor
namespace Go.Proofs.YtakaielemicpkaaGreatDoor
open Go.RowKit
theorem tot_bd (m : Nat) : ∀ (l : List (List Word)), (∀ p ∈ l, p.length ≤ m) → tot l ≤ l.length * m
 | [], _ => by simp [tot]
 | p :: l, h => by
  have h1 := h p (List.mem_cons_self ..)
  have h2 := tot_bd m l (fun q hq => h q (List.mem_cons_of_mem _ hq))
  have e : tot (p :: l) = p.length + tot l := by unfold tot; rw [List.flatten_cons, List.length_append]
  rw [e, List.length_cons, Nat.add_mul, Nat.one_mul]; omega
theorem GText.tot {ls ns : List (List Word)} (h : GText ls ns) : tot (ls ++ ns) ≤ 196 := by
 rw [tot_append]
 have h1 := tot_bd 40 ls (fun p hp => (h.p p hp).2.1)
 have h2 := tot_bd 12 ns (fun p hp => (h.q p hp).2.1)
 have h3 : ls.length * 40 ≤ 4 * 40 := Nat.mul_le_mul_right _ h.l4
 have h4 : ns.length * 12 ≤ 3 * 12 := Nat.mul_le_mul_right _ h.n3
 omega
structure TX (w : World) (A : Option Addr) (c : Nat) (B : Option Addr) (d : Nat) (a b : List (List Word)) : Prop where
 sa : Sl w (fun b => b < w.heap.size) A c a
 sb : Sl w (fun b => b < w.heap.size) B d b
 la : a.length ≤ 1048576
 lb : b.length ≤ 1048576
 t : tot (a ++ b) ≤ 1048576
theorem GText.lens {ls ns : List (List Word)} (h : GText ls ns) : (∀ p ∈ ls, p.length < 9223372036854775808) ∧ (∀ p ∈ ns, p.length < 9223372036854775808) :=
 ⟨fun p hp => by have := (h.p p hp).2.1; omega, fun p hp => by have := (h.q p hp).2.1; omega⟩
def up : Int → Nat → List Int
 | _, 0 => []
 | a, m + 1 => (a + 1) :: up (a + 1) m
theorem up_range : ∀ (n : Nat) (a : Int), (List.range n).map (fun i : Nat => a + ((i : Int) + 1)) = up a n
 | 0, _ => rfl
 | n + 1, a => by
  rw [List.range_succ_eq_map, List.map_cons, List.map_map, up, ← up_range n (a + 1)]
  congr 1
  apply List.map_congr_left
  intro i _
  simp only [Function.comp]; omega
theorem up_split : ∀ (l1 l2 : List Int) (a : Int) (m : Nat), l1 ++ l2 = up a m → l1 = up a l1.length ∧ l2 = up (a + l1.length) l2.length ∧ m = l1.length + l2.length
 | [], l2, a, m, h => by
  have hl : l2.length = m := by
   have : ∀ (m : Nat) (a : Int), (up a m).length = m := by
    intro m
    induction m with
    | zero => intro a; rfl
    | succ m ih => intro a; rw [up, List.length_cons, ih]
   have h' := congrArg List.length h
   rw [this] at h'
   simpa using h'
  subst hl
  refine ⟨rfl, ?_, by simp⟩
  simpa using h
 | x :: l1, l2, a, 0, h => by simp [up] at h
 | x :: l1, l2, a, m + 1, h => by
  rw [List.cons_append, up] at h
  obtain ⟨h1, h2⟩ := List.cons.inj h
  obtain ⟨e1, e2, e3⟩ := up_split l1 l2 (a + 1) m h2
  refine ⟨by rw [List.length_cons, up, ← e1, h1], ?_, by rw [List.length_cons]; omega⟩
  rw [List.length_cons, show a + ((l1.length + 1 : Nat) : Int) = a + 1 + l1.length by omega]
  exact e2
theorem seqOf_cons (x : Word) (r : List Word) : seqOf (x :: r) = if x.n = 0 then seqOf r else x.n :: seqOf r := by
 unfold seqOf
 rw [List.map_cons]
 by_cases h : x.n = 0
 ·rw [if_pos h, List.filter_cons_of_neg (by simp [h])]
 ·rw [if_neg h, List.filter_cons_of_pos (by simp [h])]
def Fine (x : Word) : Prop := badW x = false ∧ (x.t = 0 ∨ x.t = 1)
theorem scanW_fine {np nn i : Nat} (hi : i < np) : ∀ (p : List Word) (notes : Int) (m : Nat), (∀ x ∈ p, Fine x) → seqOf p = up notes m → notes + m ≤ nn → scanW np nn i notes p = (0, notes + m)
 | [], notes, m, _, hs, _ => by
  have : m = 0 := by
   cases m with
   | zero => rfl
   | succ m => simp [seqOf, up] at hs
  subst this; simp [scanW]
 | x :: r, notes, m, hf, hs, hn => by
  have hx := hf x (List.mem_cons_self ..)
  have hr : ∀ y ∈ r, Fine y := fun y hy => hf y (List.mem_cons_of_mem _ hy)
  rw [seqOf_cons] at hs
  by_cases h0 : x.n = 0
  ·rw [if_pos h0] at hs
   rw [scanW, step_plain hx.1 hx.2 h0, if_pos rfl]
   exact scanW_fine hi r notes m hr hs hn
  ·rw [if_neg h0] at hs
   cases m with
   | zero => simp [up] at hs
   | succ m =>
    rw [up] at hs
    obtain ⟨h1, h2⟩ := List.cons.inj hs
    rw [scanW, step_note hx.1 hx.2 h0 (by rintro (h | h | h) <;> omega), if_pos rfl]
    rw [scanW_fine hi r (notes + 1) m hr h2 (by omega)]
    simp only [Prod.mk.injEq, true_and]; omega
theorem scanW_none {np nn i : Nat} : ∀ (p : List Word) (notes : Int), (∀ x ∈ p, Fine x ∧ x.n = 0) → scanW np nn i notes p = (0, notes)
 | [], notes, _ => rfl
 | x :: r, notes, hf => by
  have hx := hf x (List.mem_cons_self ..)
  rw [scanW, step_plain hx.1.1 hx.1.2 hx.2, if_pos rfl]
  exact scanW_none r notes (fun y hy => hf y (List.mem_cons_of_mem _ hy))
theorem scanP_none {np nn : Nat} : ∀ (l : List (List Word)) (i : Nat) (notes : Int), (∀ p ∈ l, ∀ x ∈ p, Fine x ∧ x.n = 0) → scanP np nn i notes l = (0, notes)
 | [], _, _, _ => rfl
 | p :: r, i, notes, hf => by
  rw [scanP, scanW_none p notes (hf p (List.mem_cons_self ..)), if_pos rfl]
  exact scanP_none r (i + 1) notes (fun q hq => hf q (List.mem_cons_of_mem _ hq))
theorem scanP_fine {np nn : Nat} (R : List (List Word)) : ∀ (l : List (List Word)) (i : Nat) (notes : Int) (m : Nat), i + l.length ≤ np → (∀ p ∈ l, ∀ x ∈ p, Fine x) → seqOf l.flatten = up notes m → notes + m ≤ nn → scanP np nn i notes (l ++ R) = scanP np nn (i + l.length) (notes + m) R
 | [], i, notes, m, _, _, hs, _ => by
  have : m = 0 := by
   cases m with
   | zero => rfl
   | succ m => simp [seqOf, up] at hs
  subst this; simp
 | p :: r, i, notes, m, hi, hf, hs, hn => by
  rw [List.length_cons] at hi
  rw [List.flatten_cons, seqOf_append] at hs
  obtain ⟨e1, e2, e3⟩ := up_split _ _ _ _ hs
  have h1 := scanW_fine (np := np) (nn := nn) (i := i) (by omega) p notes _ (hf p (List.mem_cons_self ..)) e1 (by omega)
  rw [List.cons_append, scanP, h1, if_pos rfl]
  rw [scanP_fine R r (i + 1) _ _ (by omega) (fun q hq => hf q (List.mem_cons_of_mem _ hq)) e2 (by omega)]
  rw [List.length_cons]
  congr 1
  ·omega
  ·omega
theorem chk_fine (ls ns : List (List Word)) (h1 : ls.length ≤ 100) (h2 : ns.length ≤ 100) (hl : ∀ p ∈ ls ++ ns, 1 ≤ p.length ∧ p.length ≤ 500) (hf : ∀ p ∈ ls, ∀ x ∈ p, Fine x) (hn : ∀ p ∈ ns, ∀ x ∈ p, Fine x ∧ x.n = 0) (hs : seqOf ls.flatten = up 0 ns.length) : chkOf ls ns = 0 := by
 have a1 : anyLen longP (ls ++ ns) = false := by
  unfold anyLen
  rw [List.any_eq_false]
  intro p hp
  have := (hl p hp).2
  simp [longP]; omega
 have a2 : anyLen emptyP (ls ++ ns) = false := by
  unfold anyLen
  rw [List.any_eq_false]
  intro p hp
  have := (hl p hp).1
  simp [emptyP]
  intro e; rw [e] at this; simp at this
 unfold chkOf
 rw [if_neg (by rw [a1]; simp; omega), if_neg (by rw [a2]; simp)]
 rw [scanP_fine ns ls 0 0 ns.length (by omega) hf hs (by omega), scanP_none ns _ _ hn]
 unfold endP
 rw [if_neg (by simp), if_neg (by simp)]
theorem Good.fine {x : Word} (h : Good x) : Fine x := by
 refine ⟨?_, h.2.2⟩
 by_cases hk : x.key = ⟨#[]⟩
 ·exact good_nokey h.1 hk
 ·exact good_key h.1 (h.2.1.resolve_left hk)
theorem GText.seq {ls ns : List (List Word)} (h : GText ls ns) : seqOf ls.flatten = up 0 ns.length := by
 rw [h.s, ← up_range]
 apply List.map_congr_left
 intro i _; omega
theorem GText.chk {ls ns : List (List Word)} (h : GText ls ns) : chkOf ls ns = 0 :=
 chk_fine ls ns (by have := h.l4; omega) (by have := h.n3; omega)
  (fun p hp => by
   rcases List.mem_append.1 hp with hp | hp
   ·have := h.p p hp; exact ⟨this.1, by have := this.2.1; omega⟩
   ·have := h.q p hp; exact ⟨this.1, by have := this.2.1; omega⟩)
  (fun p hp x hx => ((h.p p hp).2.2 x hx).fine) (fun p hp x hx => ⟨((h.q p hp).2.2 x hx).1.fine, ((h.q p hp).2.2 x hx).2⟩) h.seq
end Go.Proofs.YtakaielemicpkaaGreatDoor
namespace Go.Proofs.YtakaielemicpkaaGreatDoor
open Go.RowKit
theorem pageE_h {body : List LineP} {notes : List (List LineP)} {h : Int} (hE : pageE body notes h = 0) : 4 ≤ h ∧ h ≤ 100 := by
 unfold pageE at hE
 split at hE
 ·exact absurd hE (by decide)
 ·omega
theorem nextN_refs (n : Nat) : ∀ (l : List Int) (next k : Int), 0 ≤ next → nextN n next l = some k → ∀ x ∈ l, 0 ≤ x ∧ x < n
 | [], _, _, _, _ => by simp
 | y :: l, next, k, h0, h => by
  rw [nextN] at h
  split at h
  ·cases h
  ·rename_i hy
   intro x hx
   rcases List.mem_cons.1 hx with rfl | hx
   ·omega
   ·exact nextN_refs n l (next + 1) k (by omega) h x hx
def vlen : Value → Nat
 | .slice _ n _ => n
 | _ => 0
theorem setPages_nil (notes : List (List LineP)) (h f : Nat) : setPages notes h f [] [] = [] := by
 cases f with
 | zero => rfl
 | succ f => rw [setPages, if_pos ⟨rfl, rfl⟩]
theorem OwnP.bd {α : Type} [Rep α] {w : World} {base B : Nat} {e : TypeId} {v : Value} {l : List α} (h : OwnP w base e v l (fun b => B ≤ b)) : Own w base e v (l.map (Bd.mk : α → Bd α B)) :=
 h.own.conv (l.map (Bd.mk : α → Bd α B)) (by rw [List.length_map, List.length_map]) rfl (fun i h1 h2 es he => by
  rw [List.getElem_map] at he ⊢
  exact he)
def Refs (body : List LineP) (notes : List (List LineP)) : Prop := ∀ x ∈ body, ∀ n ∈ x.notes, 0 ≤ n ∧ n < notes.length
theorem pageE_refs {body : List LineP} {notes : List (List LineP)} {h : Int} (hE : pageE body notes h = 0) : Refs body notes := by
 unfold pageE at hE
 split at hE
 ·exact absurd hE (by decide)
 ·split at hE
  ·exact absurd hE (by decide)
  ·split at hE
   ·exact absurd hE (by decide)
   ·rename_i k hk
    intro x hx n hn
    exact nextN_refs _ _ 0 k (Int.le_refl _) hk n (List.mem_flatMap.2 ⟨x, hx, hn⟩)
theorem wp_que {P : Program} {α : Type} [Rep α] {o : Oper} {a : Act} {K : Act → World → Prop} {Q : Exit → Act → World → Prop} {w : World} (s x : Operand) (t : TypeId)
  (ho : o.op = .call { callee := .builtin .append, args := #[s, x], argTypes := #[t, t] })
  (base : Nat) (e : TypeId) (z : Value) (bytes : Nat) (ht : P.underlying t = some (.slice e)) (hinfo : (P.info? e).map (fun i => (i.zero, i.size, i.bytes)) = some (some z, Rep.size α, bytes))
  (hzs : z.cells.size = Rep.size α) (hsz : 0 < Rep.size α)
  (ob : Option Nat) (v : Value) (l : List α) (hs : a.eval s = v) (hown : Que w base e ob v l)
  (A : Option Addr) (c n : Nat) (m : List α) (hx : a.eval x = .slice A n c) (hn : m.length = n) (S : Nat → Prop) (hm : Sl w S A c m) (hS : ∀ i, S i → i < w.heap.size → some i ≠ ob) (hS2 : ∀ i, S i → i < w.heap.size)
  (hbytes : (l.length + n) * bytes ≤ 140737488355328) (hml : l.length + n ≤ 9223372036854775807) (hbase : base ≤ w.heap.size)
  (h : ∀ v' w' ob', Que w' base e ob' v' (l ++ m) → w.grownBy w' ob → (ob' = ob ∨ ob' = some w.heap.size) → K (a.put o.dst v') w') : o.wp P a w K Q := by
 obtain ⟨v', w', ob', hrun, h2, h3, h4⟩ := run_que (P := P) w base t o.type e z bytes ht hinfo hzs hsz ob v l hown A c n m hn S hm hS hS2 hbytes hml hbase
 unfold Oper.wp execOp
 simp only [ho, resolve, invoke, builtin, Sem.run_bind, Sem.run_pure, Result.andThen_ok, List.map_toArray, List.map_cons, List.map_nil, hs, hx, hrun]
 exact h v' w' ob' h2 h3 h4
theorem page_info : (Tryz.prog.info? 36).map (fun i => (i.zero, i.size, i.bytes)) = some (some (.agg #[.int .i64 0, .int .i64 0, .int .i64 0, .int .i64 0, .slice none 0 0, .slice none 0 0]), 6, 80) := by kernel_rfl
def SP.up {α : Type} [Rep α] (B : Nat) (e : TypeId) (l : List α) : SP := ⟨fun v w => OwnP w B e v l (fun b => B ≤ b), fun _ _ _ h hb => h.below hb⟩
theorem Own.up {α : Type} [Rep α] {w : World} {base B : Nat} {e : TypeId} {v : Value} {l : List α} (h : Own w base e v (l.map (Bd.mk : α → Bd α base))) (hB : B ≤ base) : OwnP w B e v l (fun b => B ≤ b) :=
 ⟨(h.conv (l.map (Av.mk : α → Av α (fun b => B ≤ b))) (by rw [List.length_map, List.length_map]) rfl (fun i h1 h2 es he => by
  rw [List.getElem_map] at he ⊢
  exact Rep.mono (α := α) he (fun b hb _ => ⟨hb.1, Nat.le_trans hB hb.2⟩))).re hB, fun g hg => Nat.le_trans hB (h.lt g hg).1⟩
theorem OwnP.rep {α : Type} [Rep α] {w : World} {B : Nat} {e : TypeId} {v : Value} {l : List α} {P S : Nat → Prop} (h : OwnP w B e v l P) (hl : l.length < 9223372036854775808) (hS : ∀ i, P i → i < w.heap.size → S i) : Rep.R w S [v] l := by
 obtain ⟨A, c, rfl, hs⟩ := h.sl
 exact ⟨A, c, rfl, hs.mono hS, hl⟩
def SP.pg (B : Nat) (x y : List LineP) : SP := ⟨fun v w => ∃ b va vb, v = .slice (some ⟨b, 0, none⟩) 1 1 ∧ B ≤ b ∧ b < w.heap.size ∧ w.heap[b]? = some (.cells #[.int .i64 0, .int .i64 0, .int .i64 0, .int .i64 0, va, vb] 36 (0, 0)) ∧ Rep.R w (fun i => B ≤ i) [va] x ∧ Rep.R w (fun i => B ≤ i) [vb] y, fun _ _ _ h hb => by
 obtain ⟨b, va, vb, h1, h2, h3, h4, h5, h6⟩ := h
 exact ⟨b, va, vb, h1, h2, by have := hb.size; omega, by rw [hb.block b h3]; exact h4, Rep.keep h5 (Kept.all hb), Rep.keep h6 (Kept.all hb)⟩⟩
theorem setPages_le (notes : List (List LineP)) (h : Nat) : ∀ (f : Nat) (body queue : List LineP), (setPages notes h f body queue).length ≤ f
 | 0, _, _ => Nat.le_refl _
 | f + 1, body, queue => by
  rw [setPages]
  split
  ·exact Nat.zero_le _
  ·have := setPages_le notes h f (body.drop (fillP notes h body 0 (min queue.length (h - 1)) queue).1) ((fillP notes h body 0 (min queue.length (h - 1)) queue).2.2.drop (fillP notes h body 0 (min queue.length (h - 1)) queue).2.1)
   simp only [List.length_cons]
   omega
theorem pages_step {notes : List (List LineP)} {h f ln sh : Nat} {bd qu qu1 : List LineP} (h4 : 4 ≤ h) (hf : allLines bd notes + qu.length ≤ f) (hn : ¬ (bd.length = 0 ∧ qu.length = 0)) (hd : fillP notes h bd 0 (min qu.length (h - 1)) qu = (ln, sh, qu1)) :
  allLines (bd.drop ln) notes + (qu1.drop sh).length ≤ f - 1 ∧ setPages notes h f bd qu = ⟨0, 0, 0, 0, bd.take ln, qu1.take sh⟩ :: setPages notes h (f - 1) (bd.drop ln) (qu1.drop sh) := by
 have hn2 : ¬ (bd = [] ∧ qu = []) := fun ⟨h1, h2⟩ => hn ⟨by rw [h1]; rfl, by rw [h2]; rfl⟩
 have h1 := page_less notes h h4 bd qu hn2
 simp only [hd] at h1
 obtain ⟨f', rfl⟩ : ∃ f', f = f' + 1 := ⟨f - 1, by omega⟩
 refine ⟨by omega, ?_⟩
 rw [setPages, if_neg hn2]
 simp only [hd, Nat.add_sub_cancel]
theorem kept_two {B : Nat} {w a b : World} (h1 : Below B w a) (h2 : Below B w b) : Kept (fun i => i < B) a b := fun i hi _ => (h2.block i hi).trans (h1.block i hi).symm
theorem Sl.old {α : Type} [Rep α] {B : Nat} {w w' : World} {A : Option Addr} {c : Nat} {l : List α} (h : Sl w (fun b => b < B) A c l) (hk : Kept (fun b => b < B) w w') (hB : B ≤ w'.heap.size) : Sl w' (fun b => b < B) A c l := by
 refine ⟨h.1, h.2.1, fun hn => ?_⟩
 obtain ⟨b, o, e, hb, hlt, hx⟩ := h.2.2 hn
 refine ⟨b, o, e, hb, Nat.lt_of_lt_of_le hb hB, fun i hi => ?_⟩
 obtain ⟨es, hr, hc⟩ := hx i hi
 exact ⟨es, Rep.keep hr hk, fun j u hu => hk.cell hb (hc j u hu)⟩
theorem fits_get {h l s q : Nat} {body : List LineP} (hf : fitsAt h l s q body = true) : ∃ hlt : l < body.length, fitsP h l s q body[l] = true := by
 unfold fitsAt at hf
 by_cases hlt : l < body.length
 ·rw [List.getElem?_eq_getElem hlt] at hf
  exact ⟨hlt, hf⟩
 ·rw [List.getElem?_eq_none (by omega)] at hf
  cases hf
theorem fillP_go {notes : List (List LineP)} {h l s : Nat} {body queue : List LineP} (hlt : l < body.length) (hf : fitsP h l s queue.length body[l] = true) :
  fillP notes h (body.drop l) l s queue = fillP notes h (body.drop (l + 1)) (l + 1) (shownP h l s (queue ++ noteLines notes body[l]).length) (queue ++ noteLines notes body[l]) := by
 rw [List.drop_eq_getElem_cons hlt, fillP_cons, if_pos hf]
theorem fillP_stop {notes : List (List LineP)} {h l s : Nat} {body queue : List LineP} (hf : fitsAt h l s queue.length body = false) : fillP notes h (body.drop l) l s queue = (l, s, queue) := by
 unfold fitsAt at hf
 by_cases hlt : l < body.length
 ·rw [List.getElem?_eq_getElem hlt] at hf
  have hf : fitsP h l s queue.length body[l] = false := hf
  rw [List.drop_eq_getElem_cons hlt, fillP_cons, if_neg (by rw [hf]; simp)]
 ·rw [List.drop_of_length_le (by omega)]; rfl
theorem shown_step {h l s q q2 : Nat} {x : LineP} (hf : fitsP h l s q x = true) (hi : s = 0 → q = 0) (hx : x.notes = [] → q2 = q) (hlt : s < q2) :
  0 ≤ roomP h (l + 1) s - 1 + ((min s 1 : Nat) : Int) ∧ (s : Int) + min ((q2 : Int) - s) (roomP h (l + 1) s - 1 + ((min s 1 : Nat) : Int)) = ((shownP h l s q2 : Nat) : Int) ∧ 1 ≤ shownP h l s q2 := by
 unfold shownP roomP
 rw [if_pos hlt]
 unfold fitsP roomP at hf
 split at hf
 ·rename_i hn
  have := hx hn
  have := of_decide_eq_true hf
  omega
 ·simp only [Bool.and_eq_true, decide_eq_true_eq] at hf
  omega
theorem notes_small {notes : List (List LineP)} (h : ∀ n ∈ notes, SmallL n) (x : LineP) : SmallL (noteLines notes x) := by
 intro y hy
 unfold noteLines at hy
 obtain ⟨n, -, hn⟩ := List.mem_flatMap.1 hy
 rw [List.getD_eq_getElem?_getD] at hn
 by_cases hk : n.toNat < notes.length
 ·rw [List.getElem?_eq_getElem hk] at hn
  exact h _ (List.getElem_mem hk) y hn
 ·rw [List.getElem?_eq_none (by omega)] at hn
  cases hn
theorem take_all {notes : List (List LineP)} {bd : List LineP} {l : Nat} (h : l < bd.length) : (bd.take (l + 1)).flatMap (noteLines notes) = (bd.take l).flatMap (noteLines notes) ++ noteLines notes bd[l] := by
 rw [List.take_succ_eq_append_getElem h, List.flatMap_append]; simp
def noteTo (notes : List (List LineP)) (x : LineP) (j : Nat) : List LineP := (x.notes.take j).flatMap fun n => notes.getD n.toNat []
theorem noteTo_step {notes : List (List LineP)} {x : LineP} {j : Nat} (h : j < x.notes.length) (hk : x.notes[j].toNat < notes.length) : noteTo notes x (j + 1) = noteTo notes x j ++ notes[x.notes[j].toNat] := by
 unfold noteTo
 rw [List.take_succ_eq_append_getElem h, List.flatMap_append]
 simp [List.getElem?_eq_getElem hk]
theorem noteTo_all (notes : List (List LineP)) (x : LineP) : noteTo notes x x.notes.length = noteLines notes x := by unfold noteTo noteLines; rw [List.take_length]
theorem noteTo_le (notes : List (List LineP)) (x : LineP) (j : Nat) : (noteTo notes x j).length ≤ (noteLines notes x).length := by
 have h : noteLines notes x = noteTo notes x j ++ (x.notes.drop j).flatMap fun n => notes.getD n.toNat [] := by
  unfold noteTo noteLines
  rw [← List.flatMap_append, List.take_append_drop]
 rw [h, List.length_append]; omega
theorem nextN_lines (notes : List (List LineP)) (n : Nat) : ∀ (l : List Int) (next k : Int), 0 ≤ next → n = notes.length → nextN n next l = some k → (l.flatMap fun q => notes.getD q.toNat []).length ≤ ((notes.drop next.toNat).flatten).length
 | [], _, _, _, _, _ => Nat.zero_le _
 | q :: l, next, k, h0, hn, h => by
  rw [nextN] at h
  split at h
  ·cases h
  ·rename_i hq
   have ih := nextN_lines notes n l (next + 1) k (by omega) hn h
   have hlt : next.toNat < notes.length := by omega
   have e : q = next := by omega
   subst e
   rw [List.drop_eq_getElem_cons hlt, List.flatMap_cons, List.flatten_cons, List.length_append, List.length_append, List.getD_eq_getElem?_getD, List.getElem?_eq_getElem hlt]
   rw [show (q + 1).toNat = q.toNat + 1 by omega] at ih
   simpa using ih
theorem allLines_eq (notes : List (List LineP)) : ∀ body : List LineP, allLines body notes = body.length + (body.flatMap (noteLines notes)).length
 | [] => rfl
 | x :: body => by
  have := allLines_eq notes body
  unfold allLines at *
  rw [List.map_cons, List.sum_cons, this, List.flatMap_cons, List.length_append, List.length_cons]
  omega
theorem pageE_all {body : List LineP} {notes : List (List LineP)} {h : Int} (hE : pageE body notes h = 0) : allLines body notes ≤ body.length + notes.flatten.length := by
 rw [allLines_eq]
 have e : body.flatMap (noteLines notes) = (body.flatMap (·.notes)).flatMap fun q => notes.getD q.toNat [] := by
  rw [List.flatMap_assoc]; rfl
 rw [e]
 unfold pageE at hE
 split at hE
 ·exact absurd hE (by decide)
 ·split at hE
  ·exact absurd hE (by decide)
  ·split at hE
   ·exact absurd hE (by decide)
   ·rename_i k hk
    have := nextN_lines notes notes.length _ 0 k (Int.le_refl _) rfl hk
    simpa using this
set_option maxRecDepth 100000 in
set_option maxHeartbeats 8000000 in
theorem pset_any (A B : Option Addr) (c d : Nat) (body : List LineP) (notes : List (List LineP)) (h : Int) (w : World) (ha : Sl w (fun b => b < w.heap.size) A c body) (hb : Sl w (fun b => b < w.heap.size) B d notes) (hI : I64 h) (hln : notes.length ≤ 1048576)
  (hall : body.length + notes.flatten.length ≤ 1048576) (hsm : SmallL body) (hsn : ∀ n ∈ notes, SmallL n) :
  Calls Tryz.prog 94 #[.slice A body.length c, .slice B notes.length d, .int .i64 h] w fun e w' => ∃ v, e = .returned (.tuple #[v, .int .i64 (pageE body notes h)]) ∧
   (pageE body notes h = 0 → Own w' w.heap.size 36 v ((setPages notes h.toNat (allLines body notes) body []).map (Bd.mk : PageP → Bd PageP w.heap.size))) ∧ (pageE body notes h ≠ 0 → v = .slice none 0 0) ∧ Below w.heap.size w w' := by
 have HC : Hid (∀ W, Below w.heap.size w W → Calls Tryz.prog 115 #[.slice A body.length c, .slice B notes.length d, .int .i64 h] W fun e w' => e = .returned (.int .i64 (pageE body notes h)) ∧ Below W.heap.size W w') :=
  Lib.hid (fun W hW => pagecheck_any A B c d body notes h W (ha.to hW) (hb.to hW) hln)
 have HA := Lib.hid ha
 have HBn := Lib.hid hb
 have HSM := Lib.hid hsm
 have HSN := Lib.hid hsn
 have HB0 : Hid (Below w.heap.size w ((w.alloc (.cells #[.slice A body.length c] 34)).alloc (.cells #[.int .i64 h] 3))) := Lib.hid (((Below.refl _ _).alloc (Nat.le_refl _) _).alloc (by simp) _)
 have HBB : Hid (ABox ((w.alloc (.cells #[.slice A body.length c] 34)).alloc (.cells #[.int .i64 h] 3)) w.heap.size 34 [.slice A body.length c]) := Lib.hid ((Below.heap_alloc _ _ _ (by simp)).trans (heap_alloc_new w _))
 have HHB : Hid (ABox ((w.alloc (.cells #[.slice A body.length c] 34)).alloc (.cells #[.int .i64 h] 3)) (w.heap.size + 1) 3 [.int .i64 h]) := Lib.hid (heap_at (by simp))
 have hbb := HBB.out.cell 0 rfl
 have hhb := HHB.out.cell 0 rfl
 have hsz0 : ((w.alloc (.cells #[.slice A body.length c] 34)).alloc (.cells #[.int .i64 h] 3)).heap.size = w.heap.size + 2 := by simp
 clear ha hb hsm hsn
 by_cases hE : pageE body notes h = 0
 ·obtain ⟨hn, rfl⟩ : ∃ hn : Nat, h = (hn : Int) := ⟨h.toNat, by have := pageE_h hE; omega⟩
  have hh := pageE_h hE
  have h4 : 4 ≤ hn := by omega
  have h100 : hn ≤ 100 := by omega
  have HREF := Lib.hid (pageE_refs hE)
  have hall : allLines body notes ≤ 1048576 := Nat.le_trans (pageE_all hE) hall
  have HE := Lib.hid hE
  simp only [hE] at HC ⊢
  rw [Int.toNat_natCast]
  clear hE hh
  go_enter Tryz.func94, Tryz.ntmps94
  go_wp2_with (first | (go_at_call 115; refine (HC.out _ HB0.out).mono ?_; rintro e w2 ⟨rfl, hb2⟩) | fail)
  have hqb0 : ABox (w2.alloc (.cells #[.slice none 0 0] 34)) w2.heap.size 34 [.slice none 0 0] := heap_alloc_new w2 _
  have hbw2 : Below w.heap.size w w2 := HB0.out.trans (hb2.mono HB0.out.size)
  have hz2 : w.heap.size + 2 ≤ w2.heap.size := by have := hb2.size; omega
  have hba : Below w2.heap.size w2 (w2.alloc (.cells #[.slice none 0 0] 34)) := (Below.refl _ _).alloc (Nat.le_refl _) _
  have HP0 : Hid (PO w (w2.alloc (.cells #[.slice none 0 0] 34)) w.heap.size (w.heap.size + 1) w2.heap.size [] A c body hn none (.slice none 0 0) [] (.slice none 0 0) []) := Lib.hid
   ⟨hbw2.trans (hba.mono hbw2.size), (HBB.out.to hb2).to hba, (HA.out.keep (Kept.all hbw2) hbw2.size).keep (Kept.all hba) hba.size, (HHB.out.to hb2).to hba, hqb0, Que.nil _ _ _, OwnP.nil _ _ _ _, by simp; omega, fun x hx => by
    have hq : x = w.heap.size ∨ x = w.heap.size + 1 ∨ x = w2.heap.size := by simpa using hx
    refine ⟨?_, ?_, by simp⟩
    ·rcases hq with h | h | h <;> omega
    ·rw [World.size_alloc]; rcases hq with h | h | h <;> omega⟩
  obtain ⟨Qb, hQb⟩ : ∃ Qb, w2.heap.size = Qb := ⟨_, rfl⟩
  rw [hQb] at HP0 ⊢
  have HN : ∃ N, (setPages notes hn (allLines body notes) body []).length = N := ⟨_, rfl⟩
  obtain ⟨N, hN⟩ := HN
  have HNE := Lib.hid hN
  clear hqb0 hbw2 hz2 hba hb2 hsz0 hbb hhb HBB HHB HB0 HC hN hQb hI
  go_loopw [9] (fun v9 wr => ∃ (A' : Option Addr) (c' : Nat) (bd : List LineP) (ob : Option Nat) (qv : Value) (qu : List LineP) (pgs : List PageP) (f : Nat), Hid (PO w wr w.heap.size (w.heap.size + 1) Qb [] A' c' bd hn ob qv qu v9 pgs) ∧ Hid (allLines bd notes + qu.length ≤ f ∧ f ≤ 1048576) ∧
   Hid (pgs ++ setPages notes hn f bd qu = setPages notes hn (allLines body notes) body []) ∧ Hid (SmallL bd ∧ SmallL qu ∧ Refs bd notes)) (fun v9 _ => N - vlen v9)
  case atStart => exact ⟨A, c, body, none, _, [], [], _, HP0, Lib.hid ⟨Nat.le_refl _, hall⟩, Lib.hid rfl, Lib.hid ⟨HSM.out, fun x hx => absurd hx (by simp), HREF.out⟩⟩
  case round =>
   clear HP0 w2
   obtain ⟨A', c', bd, ob, qv, qu, pgs, f, HP, HF, HT, HS⟩ := hrel
   have hbb := HP.out.bb.cell 0 rfl
   obtain ⟨Aq, cq, hqv, -, -⟩ := HP.out.q.len
   rw [List.length_map] at hqv
   subst hqv
   have hqb := HP.out.qb.cell 0 rfl
   have hhb := HP.out.hb.cell 0 rfl
   go_upto_region 6 with (fail)
   go_cut [32] from 25 to 94 (fun v32 wx => v32 = .bool (!(decide (bd.length = 0) && decide (qu.length = 0))) ∧ wx = wr)
   case first =>
    by_cases h1 : bd.length = 0
    ·have H1 := Lib.hid h1
     by_cases h2 : qu.length = 0
     ·have H2 := Lib.hid h2
      rw [h1] at hbb
      rw [h2] at hqb
      clear h1 h2
      go_wp2_with fail
      go_meet
      exact ⟨by rw [decide_eq_true H1.out, decide_eq_true H2.out]; rfl, rfl⟩
     ·have H2 := Lib.hid h2
      have hg : 0 < qu.length := by omega
      rw [h1] at hbb
      clear h1 h2
      go_wp2_with fail
      go_meet
      exact ⟨by rw [decide_eq_true H1.out, decide_eq_false H2.out]; rfl, rfl⟩
    ·have H1 := Lib.hid h1
     have hg : 0 < bd.length := by omega
     clear h1
     go_wp2_with fail
     go_meet
     exact ⟨by rw [decide_eq_false H1.out]; rfl, rfl⟩
   case rest =>
    obtain ⟨rfl, rfl⟩ := hcut
    by_cases hne : bd.length = 0 ∧ qu.length = 0
    ·rw [decide_eq_true hne.1, decide_eq_true hne.2]
     have hpl : Hid (Own wc w.heap.size 36 u9 ((setPages notes hn (allLines body notes) body []).map (Bd.mk : PageP → Bd PageP w.heap.size)) ∧ Below w.heap.size w wc) := Lib.hid (by
      have h1 := List.eq_nil_of_length_eq_zero hne.1
      have h2 := List.eq_nil_of_length_eq_zero hne.2
      have h3 := HT.out
      rw [h1, h2, setPages_nil, List.append_nil] at h3
      rw [← h3]
      exact ⟨(HP.out.pg.mono (Q := fun b => w.heap.size ≤ b) (fun i hi _ => hi.1)).bd, HP.out.bl⟩)
     clear hne
     go_wp2_with fail
     go_ret2
     exact ⟨_, rfl, fun _ => hpl.out.1, fun h => absurd rfl h, hpl.out.2⟩
    ·have hb0 : (!(decide (bd.length = 0) && decide (qu.length = 0))) = true := by
      rw [Bool.not_eq_true', Bool.and_eq_false_iff]; by_cases h : bd.length = 0
      ·exact .inr (decide_eq_false fun h2 => hne ⟨h, h2⟩)
      ·exact .inl (decide_eq_false h)
     rw [hb0]
     have HNE1 := Lib.hid hne
     clear hne hb0
     go_upto_region 7 with (fail)
     obtain ⟨wm, rfl⟩ : ∃ wm : World, wm = wc := ⟨_, rfl⟩
     go_cut [11, 12] from 25 to 94 (fun v11 v12 wx => ∃ Lb Sb : Nat, v11 = .pointer (some ⟨Lb, 0, none⟩) ∧ v12 = .pointer (some ⟨Sb, 0, none⟩) ∧ Hid (Lb ≠ Sb ∧ wm.heap.size ≤ Lb ∧ wm.heap.size ≤ Sb) ∧ Hid (ABox wx Lb 3 [.int .i64 0]) ∧ Hid (ABox wx Sb 3 [.int .i64 ((min qu.length (hn - 1) : Nat) : Int)]) ∧ Hid (Below wm.heap.size wm wx))
     case first =>
      refine wp_region_D (fun w' => w'.cell? ⟨Qb, 0, none⟩ = some (.slice Aq qu.length cq) ∧ w'.cell? ⟨w.heap.size + 1, 0, none⟩ = some (.int .i64 (hn : Int))) (fun i => decide (i < 8)) (by kernel_rfl) ?_
      have hb0 : Hid (Below wm.heap.size wm wm.drew) := Lib.hid (Below.refl _ _).drew
      have hS0 : wm.drew.cell? ⟨Qb, 0, none⟩ = some (.slice Aq qu.length cq) ∧ wm.drew.cell? ⟨w.heap.size + 1, 0, none⟩ = some (.int .i64 (hn : Int)) := ⟨hqb, hhb⟩
      generalize wm.drew = W0 at *
      have HQl := World.block_lt_of_cell? W0 ⟨Qb, 0, none⟩ hS0.1
      have HHl := World.block_lt_of_cell? W0 ⟨w.heap.size + 1, 0, none⟩ hS0.2
      have HSP : Hid (∀ W, Below W0.heap.size W0 W → W.cell? ⟨Qb, 0, none⟩ = some (.slice Aq qu.length cq) ∧ W.cell? ⟨w.heap.size + 1, 0, none⟩ = some (.int .i64 (hn : Int))) := Lib.hid (fun W hW => ⟨(hW.cell (p := ⟨Qb, 0, none⟩) HQl).trans hS0.1, (hW.cell (p := ⟨w.heap.size + 1, 0, none⟩) HHl).trans hS0.2⟩)
      clear HQl HHl
      obtain ⟨mv, hmv⟩ : ∃ mv : Int, min (qu.length : Int) (IntKind.i64.wrap ((hn : Int) - 1)) = mv := ⟨_, rfl⟩
      have HMV : Hid (((min qu.length (hn - 1) : Nat) : Int) = mv) := Lib.hid (by rw [← hmv, IntWalk.i64_in _ (by omega)]; omega)
      refine wpAnyE_take (i := 0) (oi := ⟨some 33, Op.load 34 (Operand.tmp 10), 34, _, _, _⟩) (v := ?_) rfl (by kernel_rfl) (by kernel_rfl) (by kernel_rfl) (by kernel_rfl) (by kernel_rfl) (fun _ _ _ h => h) (by rfl) ?hykr7_1 (hS0) ?hrkr7_1
      case hykr7_1 => (intro wS hSw; (have hq := hSw.1); clear hSw; go_simp; (try with_reducible rfl))
      all_goals try simp only [Act.put, List.setIfInBounds_toArray, List.set_cons_zero, List.set_cons_succ]
      refine wpAnyE_take (i := 1) (oi := ⟨some 34, Op.call { callee := Callee.builtin Builtin.len, args := #[Operand.tmp 33], argTypes := #[34] }, 3, _, _, _⟩) (v := ?_) rfl (by kernel_rfl) (by kernel_rfl) (by kernel_rfl) (by kernel_rfl) (by kernel_rfl) (fun _ _ _ h => h) (by rfl) ?hykr7_2 (hS0) ?hrkr7_2
      case hykr7_2 => (intro wS hSw; clear hSw; go_simp; (try with_reducible rfl))
      all_goals try simp only [Act.put, List.setIfInBounds_toArray, List.set_cons_zero, List.set_cons_succ]
      refine wpAnyE_take (i := 2) (oi := ⟨some 35, Op.load 3 (Operand.tmp 5), 3, _, _, _⟩) (v := ?_) rfl (by kernel_rfl) (by kernel_rfl) (by kernel_rfl) (by kernel_rfl) (by kernel_rfl) (fun _ _ _ h => h) (by rfl) ?hykr7_3 (hS0) ?hrkr7_3
      case hykr7_3 => (intro wS hSw; (have hq := hSw.2); clear hSw; go_simp; (try with_reducible rfl))
      all_goals try simp only [Act.put, List.setIfInBounds_toArray, List.set_cons_zero, List.set_cons_succ]
      refine wpAnyE_take (i := 3) (oi := ⟨some 36, Op.binOp BinOp.sub 3 (Operand.tmp 35) (Operand.const (Value.int IntKind.i64 1)) 3, 3, _, _, _⟩) (v := ?_) rfl (by kernel_rfl) (by kernel_rfl) (by kernel_rfl) (by kernel_rfl) (by kernel_rfl) (fun _ _ _ h => h) (by rfl) ?hykr7_4 (hS0) ?hrkr7_4
      case hykr7_4 => (intro wS hSw; clear hSw; go_simp; (try with_reducible rfl))
      all_goals try simp only [Act.put, List.setIfInBounds_toArray, List.set_cons_zero, List.set_cons_succ]
      refine wpAnyE_take (i := 4) (oi := ⟨some 37, Op.call { callee := Callee.builtin Builtin.min, args := #[Operand.tmp 34, Operand.tmp 36], argTypes := #[3, 3] }, 3, _, _, _⟩) (v := ?_) rfl (by kernel_rfl) (by kernel_rfl) (by kernel_rfl) (by kernel_rfl) (by kernel_rfl) (fun _ _ _ h => h) (by rfl) ?hykr7_5 (hS0) ?hrkr7_5
      case hykr7_5 => (intro wS hSw; clear hSw; go_simp; (try with_reducible rfl))
      all_goals try simp only [Act.put, List.setIfInBounds_toArray, List.set_cons_zero, List.set_cons_succ]
      refine wpAnyD_two (i := 5) (j := 6) (oi := ⟨some 11, Op.alloc 3, 0, _, _, _⟩) (oj := ⟨some 12, Op.alloc 3, 0, _, _, _⟩) (by kernel_rfl) rfl rfl (by rfl) (by rfl) (fun K hK => ?_) (fun K hK => ?_)
      ·go_simp
       refine hK _ _ (fun _ => ?_) ?_
       ·exact (HSP.out _ ((Below.refl _ _).alloc (Nat.le_refl _) _))
       clear hK K
       try simp only [Act.put, List.setIfInBounds_toArray, List.set_cons_zero, List.set_cons_succ]
       refine wpAnyD_one (i := 6) (oi := ⟨some 12, Op.alloc 3, 0, _, _, _⟩) rfl (by kernel_rfl) (by rfl) (fun K hK => ?_)
       go_simp
       refine hK _ _ (fun _ => ?_) ?_
       ·exact (HSP.out _ (((Below.refl _ _).alloc (Nat.le_refl _) _).alloc (by simp) _))
       clear hK K
       try simp only [Act.put, List.setIfInBounds_toArray, List.set_cons_zero, List.set_cons_succ]
       refine wpAnyD_one (i := 7) (oi := ⟨none, Op.store 3 (Operand.tmp 11) (Operand.const (Value.int IntKind.i64 0)), 0, _, _, _⟩) rfl (by kernel_rfl) (by rfl) (fun K hK => ?_)
       go_simp
       refine hK _ _ (fun _ => ?_) ?_
       ·exact (HSP.out _ (((Below.refl _ _).alloc (Nat.le_refl _) _).alloc (by simp) _))
       clear hK K
       try simp only [Act.put]
       refine wpAnyD_one (i := 8) (oi := ⟨none, Op.store 3 (Operand.tmp 12) (Operand.tmp 37), 0, _, _, _⟩) rfl (by kernel_rfl) (by rfl) (fun K hK => ?_)
       go_simp
       refine hK _ _ (fun h => absurd h (by decide)) ?_
       clear hK K
       try simp only [Act.put]
       refine wpAnyD_done (by kernel_rfl) ?_ _
       have hx0 : ABox ((W0.alloc (.cells #[.int .i64 0] 3)).alloc (.cells #[.int .i64 mv] 3)) W0.heap.size 3 [.int .i64 0] := (Below.heap_alloc _ _ _ (by simp)).trans (heap_alloc_new W0 _)
       have hx1 : ABox ((W0.alloc (.cells #[.int .i64 0] 3)).alloc (.cells #[.int .i64 mv] 3)) (W0.heap.size + 1) 3 [.int .i64 mv] := heap_at (by simp)
       have hbb2 : Below W0.heap.size W0 ((W0.alloc (.cells #[.int .i64 0] 3)).alloc (.cells #[.int .i64 mv] 3)) := ((Below.refl W0.heap.size W0).alloc (Nat.le_refl _) (.cells #[.int .i64 0] 3)).alloc (by simp) (.cells #[.int .i64 mv] 3)
       unfold Exit.then
       go_wp2_with fail
       go_meet
       exact ⟨W0.heap.size, (W0.heap.size + 1), rfl, rfl, Lib.hid ⟨by omega, by have := hb0.out.size; omega, by have := hb0.out.size; omega⟩, Lib.hid hx0, Lib.hid (by rw [HMV.out]; exact hx1), Lib.hid (hb0.out.trans (hbb2.mono hb0.out.size))⟩
      ·go_simp
       refine hK _ _ (fun _ => ?_) ?_
       ·exact (HSP.out _ ((Below.refl _ _).alloc (Nat.le_refl _) _))
       clear hK K
       try simp only [Act.put, List.setIfInBounds_toArray, List.set_cons_zero, List.set_cons_succ]
       refine wpAnyD_one (i := 5) (oi := ⟨some 11, Op.alloc 3, 0, _, _, _⟩) rfl (by kernel_rfl) (by rfl) (fun K hK => ?_)
       go_simp
       refine hK _ _ (fun _ => ?_) ?_
       ·exact (HSP.out _ (((Below.refl _ _).alloc (Nat.le_refl _) _).alloc (by simp) _))
       clear hK K
       try simp only [Act.put, List.setIfInBounds_toArray, List.set_cons_zero, List.set_cons_succ]
       refine wpAnyD_one (i := 7) (oi := ⟨none, Op.store 3 (Operand.tmp 11) (Operand.const (Value.int IntKind.i64 0)), 0, _, _, _⟩) rfl (by kernel_rfl) (by rfl) (fun K hK => ?_)
       go_simp
       refine hK _ _ (fun _ => ?_) ?_
       ·exact (HSP.out _ (((Below.refl _ _).alloc (Nat.le_refl _) _).alloc (by simp) _))
       clear hK K
       try simp only [Act.put]
       refine wpAnyD_one (i := 8) (oi := ⟨none, Op.store 3 (Operand.tmp 12) (Operand.tmp 37), 0, _, _, _⟩) rfl (by kernel_rfl) (by rfl) (fun K hK => ?_)
       go_simp
       refine hK _ _ (fun h => absurd h (by decide)) ?_
       clear hK K
       try simp only [Act.put]
       refine wpAnyD_done (by kernel_rfl) ?_ _
       have hx0 : ABox ((W0.alloc (.cells #[.int .i64 mv] 3)).alloc (.cells #[.int .i64 0] 3)) W0.heap.size 3 [.int .i64 mv] := (Below.heap_alloc _ _ _ (by simp)).trans (heap_alloc_new W0 _)
       have hx1 : ABox ((W0.alloc (.cells #[.int .i64 mv] 3)).alloc (.cells #[.int .i64 0] 3)) (W0.heap.size + 1) 3 [.int .i64 0] := heap_at (by simp)
       have hbb2 : Below W0.heap.size W0 ((W0.alloc (.cells #[.int .i64 mv] 3)).alloc (.cells #[.int .i64 0] 3)) := ((Below.refl W0.heap.size W0).alloc (Nat.le_refl _) (.cells #[.int .i64 mv] 3)).alloc (by simp) (.cells #[.int .i64 0] 3)
       unfold Exit.then
       go_wp2_with fail
       go_meet
       exact ⟨(W0.heap.size + 1), W0.heap.size, rfl, rfl, Lib.hid ⟨by omega, by have := hb0.out.size; omega, by have := hb0.out.size; omega⟩, Lib.hid hx1, Lib.hid (by rw [HMV.out]; exact hx0), Lib.hid (hb0.out.trans (hbb2.mono hb0.out.size))⟩
     case rest =>
      obtain ⟨Lb, Sb, rfl, rfl, HNS, HLB, HSB, HBW⟩ := hcut
      have hba : Below wc.heap.size wc (wc.alloc (.cells #[roomV (w.heap.size + 1) Lb Sb] 152)) := (Below.refl _ _).alloc (Nat.le_refl _) _
      have HRB : Hid (ABox (wc.alloc (.cells #[roomV (w.heap.size + 1) Lb Sb] 152)) wc.heap.size 152 [roomV (w.heap.size + 1) Lb Sb]) := Lib.hid (heap_alloc_new wc _)
      have HLB1 := Lib.hid (HLB.out.to hba)
      have HSB1 := Lib.hid (HSB.out.to hba)
      have HP1 : Hid (PO w (wc.alloc (.cells #[roomV (w.heap.size + 1) Lb Sb] 152)) w.heap.size (w.heap.size + 1) Qb [Lb, Sb, wc.heap.size] A' c' bd hn ob (.slice Aq qu.length cq) qu u9 pgs) :=
       Lib.hid (HP.out.more (HBW.out.trans (hba.mono HBW.out.size)) (fun y hy => by
        have h1 := HLB.out.lt
        have h2 := HSB.out.lt
        have h3 := HNS.out
        have h4 := HBW.out.size
        have hq : y = Lb ∨ y = Sb ∨ y = wc.heap.size := by simpa using hy
        rw [World.size_alloc]
        rcases hq with h | h | h <;> omega) (by
        have h1 := HLB.out.lt
        have h2 := HSB.out.lt
        have h3 := HNS.out
        simp
        omega))
      unfold roomV at HRB HP1 HLB1 HSB1 hba
      clear hba
      go_wp2_with fail
      obtain ⟨Rb, hRb⟩ : ∃ Rb, wc.heap.size = Rb := ⟨_, rfl⟩
      rw [hRb] at HP1 HRB ⊢
      generalize wc.alloc _ = w3 at *
      have HN3 : Hid (Lb < w3.heap.size) := Lib.hid HLB1.out.lt
      clear HLB HSB HBW HP hbb hqb hhb hRb HNS
      clear wm wc
      go_loopw [17] (fun _ wr => ∃ (ln sh : Nat) (ob' : Option Nat) (qv : Value) (qu' : List LineP), Hid (PO w wr w.heap.size (w.heap.size + 1) Qb [Lb, Sb, Rb] A' c' bd hn ob' qv qu' u9 pgs) ∧ Hid (ABox wr Lb 3 [.int .i64 (ln : Int)]) ∧ Hid (ABox wr Sb 3 [.int .i64 (sh : Int)]) ∧
       Hid (ABox wr Rb 152 [roomV (w.heap.size + 1) Lb Sb]) ∧ Hid (fillP notes hn (bd.drop ln) ln sh qu' = fillP notes hn bd 0 (min qu.length (hn - 1)) qu) ∧ Hid (ln ≤ bd.length ∧ sh ≤ qu'.length ∧ qu' = qu ++ (bd.take ln).flatMap (noteLines notes) ∧ (sh = 0 → qu'.length = 0))) (fun _ wr => bd.length - (intOf ((wr.cell? ⟨Lb, 0, none⟩).getD undef)).toNat)
      case atStart => exact ⟨0, min qu.length (hn - 1), ob, _, qu, HP1, HLB1, HSB1, HRB, Lib.hid rfl, Lib.hid ⟨Nat.zero_le _, Nat.min_le_left _ _, by simp, by omega⟩⟩
      case round =>
       clear HP1 HLB1 HSB1 HRB HN3 w3
       obtain ⟨ln, sh, ob1, qv1, qu1, HP, HL, HSn, HR, HFI, HI⟩ := hrel
       obtain ⟨Aq1, cq1, hqv, -, -⟩ := HP.out.q.len
       rw [List.length_map] at hqv
       subst hqv
       have HQN : Hid (qu1.length + ln ≤ f ∧ f ≤ 1048576) := Lib.hid (by
        have h1 := HI.out.2.2.1
        have h2 := allLines_drop notes bd ln HI.out.1
        have h3 := HF.out
        rw [h1, List.length_append]
        omega)
       have HBN : Hid (bd.length ≤ 1048576) := Lib.hid (by
        have h2 := allLines_drop notes bd bd.length (Nat.le_refl _)
        have h3 := HF.out
        omega)
       obtain ⟨fb, hfb⟩ : ∃ fb, fitsAt hn ln sh qu1.length bd = fb := ⟨_, rfl⟩
       have HFC : Hid (Calls Tryz.prog 117 #[.pointer (some ⟨Lb, 0, none⟩), .pointer (some ⟨w.heap.size, 0, none⟩), .pointer (some ⟨Rb, 0, none⟩), .pointer (some ⟨Sb, 0, none⟩), .pointer (some ⟨Qb, 0, none⟩)] wr fun e w' => e = .returned (.bool fb) ∧ Below wr.heap.size wr w') := Lib.hid (by
        rw [← hfb]
        exact fits_any Lb w.heap.size Rb Sb Qb (w.heap.size + 1) hn ln sh qu1.length cq1 c' Aq1 A' bd wr (by omega) HI.out.1 (by have := HBN.out; omega) (by have := HQN.out; have := HI.out.2.1; omega) (by have := HQN.out; omega) (HP.out.hb.cell 0 rfl) (HL.out.cell 0 rfl) (HSn.out.cell 0 rfl) (HP.out.bb.cell 0 rfl) (HP.out.qb.cell 0 rfl) (HR.out.cell 0 rfl) (HP.out.bs.mono fun i _ h => h))
       have HFB := Lib.hid hfb
       clear hfb
       have HU9 : Hid (vlen u9 = pgs.length) := Lib.hid (by obtain ⟨A9, c9, e9, -⟩ := HP.out.pg.len; rw [e9]; rfl)
       cases fb
       ·go_upto_region 20 with (first | (go_at_call 117; refine HFC.out.mono ?_; rintro e w4 ⟨rfl, hb4⟩) | fail)
        have HP4 := Lib.hid (HP.out.to hb4)
        have HL4 := Lib.hid (HL.out.to hb4)
        have HS4 := Lib.hid (HSn.out.to hb4)
        have HDN : Hid (fillP notes hn bd 0 (min qu.length (hn - 1)) qu = (ln, sh, qu1)) := Lib.hid (by rw [← HFI.out, fillP_stop HFB.out])
        have HQS : Hid (SmallL qu1) := Lib.hid (by
         rw [HI.out.2.2.1]
         intro x hx
         rcases List.mem_append.1 hx with h | h
         ·exact HS.out.2.1 x h
         ·obtain ⟨y, -, hy⟩ := List.mem_flatMap.1 h
          exact notes_small HSN.out y x hy)
        have hlnb : ln ≤ bd.length := HI.out.1
        have hshq : sh ≤ qu1.length := HI.out.2.1
        have hbc : bd.length ≤ c' := HP4.out.bs.1
        have hqc : qu1.length ≤ cq1 := by obtain ⟨A9, c9, e9, h9, -⟩ := HP4.out.q.len; rw [List.length_map] at e9; cases e9; have := h9.1; rwa [List.length_map] at this
        clear hb4 HP HL HSn HFI HFB HFC HR
        refine wp_region_rely [4, 8, 10] (fun i => if i = 4 then SP.up w4.heap.size 88 (bd.take ln) else if i = 8 then SP.up w4.heap.size 88 (qu1.take sh) else if i = 10 then SP.pg w4.heap.size (bd.take ln) (qu1.take sh) else SP.any) 11 (by kernel_rfl) (by kernel_rfl) ?_
        intro T _ g hg hgm
        have q0 : ∀ d, (g d).cell? ⟨w.heap.size, 0, none⟩ = some (.slice A' bd.length c') := fun d => (HP4.out.bb.to (hg d)).cell 0 rfl
        have q1 : ∀ d, (g d).cell? ⟨Lb, 0, none⟩ = some (.int .i64 (ln : Int)) := fun d => (HL4.out.to (hg d)).cell 0 rfl
        have q2 : ∀ d, (g d).cell? ⟨Qb, 0, none⟩ = some (.slice Aq1 qu1.length cq1) := fun d => (HP4.out.qb.to (hg d)).cell 0 rfl
        have q3 : ∀ d, (g d).cell? ⟨Sb, 0, none⟩ = some (.int .i64 (sh : Int)) := fun d => (HS4.out.to (hg d)).cell 0 rfl
        repeat (refine wpR_pure (by rfl) fun Kq hq => ?_; go_big_quiet_step (fail); refine wpQuiet_nil (hq _ ?_); clear hq Kq)
        refine wpR_busy (by rfl) (by rfl) (fun d hG K Q hK => ?_) (fun v4 d hG hp Kr hr => ?_)
        ·go_simp
         go_at_call 118
         refine (pclone_any A' c' ln (bd.take ln) (g d) (((HP4.out.bs.keep (Kept.all (hg d)) (hg d).size).mono (fun i _ h => h)).take ln hlnb) (by rw [List.length_take]; omega) (by have := HBN.out; omega) (fun x hx => HS.out.1 x (List.mem_of_mem_take hx))).mono ?_
         rintro e W1 ⟨v, rfl, ho1, hb1⟩
         go_simp
         exact hK _ _ hb1 (show OwnP W1 _ _ _ _ _ from ho1.up (hg d).size)
        obtain ⟨A5, c5, rfl, -⟩ := (show OwnP (g d) w4.heap.size 88 v4 (bd.take ln) (fun b => w4.heap.size ≤ b) from hp).len
        rw [show (bd.take ln).length = ln by rw [List.length_take]; omega] at hr ⊢
        (try clear hp); clear hG
        simp only [Act.put, List.setIfInBounds_toArray, List.set_cons_zero, List.set_cons_succ]
        refine hr _ ?_
        clear hr Kr
        repeat (refine wpR_pure (by rfl) fun Kq hq => ?_; go_big_quiet_step (fail); refine wpQuiet_nil (hq _ ?_); clear hq Kq)
        refine wpR_busy (by rfl) (by rfl) (fun d hG K Q hK => ?_) (fun v8 d hG hp Kr hr => ?_)
        ·go_simp
         go_at_call 118
         refine (pclone_any Aq1 cq1 sh (qu1.take sh) (g d) (by obtain ⟨A9, c9, e9, h9, -⟩ := (HP4.out.to (hg d)).q.len; rw [List.length_map] at e9; cases e9; exact (h9.unav.take sh hshq)) (by rw [List.length_take]; omega) (by have := HQN.out; omega) (fun x hx => HQS.out x (List.mem_of_mem_take hx))).mono ?_
         rintro e W1 ⟨v, rfl, ho1, hb1⟩
         go_simp
         exact hK _ _ hb1 (show OwnP W1 _ _ _ _ _ from ho1.up (hg d).size)
        obtain ⟨A6, c6, rfl, -⟩ := (show OwnP (g d) w4.heap.size 88 v8 (qu1.take sh) (fun b => w4.heap.size ≤ b) from hp).len
        rw [show (qu1.take sh).length = sh by rw [List.length_take]; omega] at hr ⊢
        (try clear hp); clear hG
        simp only [Act.put, List.setIfInBounds_toArray, List.set_cons_zero, List.set_cons_succ]
        refine hr _ ?_
        clear hr Kr
        repeat (refine wpR_pure (by rfl) fun Kq hq => ?_; go_big_quiet_step (fail); refine wpQuiet_nil (hq _ ?_); clear hq Kq)
        refine wpR_busy (by rfl) (by rfl) (fun d hG K Q hK => ?_) (fun v10 d hG hp Kr hr => ?_)
        ·have h5 := (show OwnP (g d) w4.heap.size 88 (.slice A5 ln c5) (bd.take ln) (fun b => w4.heap.size ≤ b) from hG 4 (by kernel_rfl)).rep (S := fun b => w4.heap.size ≤ b) (by rw [List.length_take]; have := HBN.out; omega) (fun i h _ => h)
         have h6 := (show OwnP (g d) w4.heap.size 88 (.slice A6 sh c6) (qu1.take sh) (fun b => w4.heap.size ≤ b) from hG 8 (by kernel_rfl)).rep (S := fun b => w4.heap.size ≤ b) (by rw [List.length_take]; have := HQN.out; omega) (fun i h _ => h)
         have H5 := Lib.hid h5
         have H6 := Lib.hid h6
         clear h5 h6
         go_simp
         exact hK _ _ ((Below.refl _ _).alloc (Nat.le_refl _) _) ⟨(g d).heap.size, _, _, rfl, (hg d).size, by simp, heap_alloc_new _ _, Rep.keep H5.out (Kept.all ((Below.refl _ _).alloc (Nat.le_refl _) _)), Rep.keep H6.out (Kept.all ((Below.refl _ _).alloc (Nat.le_refl _) _))⟩
        obtain ⟨b10, va, vb, rfl, hq1, hq2, hq3, hq4, hq5⟩ := (show ∃ b va vb, v10 = .slice (some ⟨b, 0, none⟩) 1 1 ∧ _ from hp)
        clear hq1 hq2 hq3 hq4 hq5 va vb
        (try clear hp); clear hG
        simp only [Act.put, List.setIfInBounds_toArray, List.set_cons_zero, List.set_cons_succ]
        refine hr _ ?_
        clear hr Kr
        refine wpR_tail 2 (by rfl) (by rfl) (fun d hG => ?_)
        obtain ⟨b9, va, vb, e9, hp1, hp2, hp3, hp4, hp5⟩ := (show ∃ b va vb, Value.slice (some ⟨b10, 0, none⟩) 1 1 = .slice (some ⟨b, 0, none⟩) 1 1 ∧ w4.heap.size ≤ b ∧ b < (g d).heap.size ∧ (g d).heap[b]? = some (.cells #[.int .i64 0, .int .i64 0, .int .i64 0, .int .i64 0, va, vb] 36 (0, 0)) ∧ Rep.R (g d) (fun i => w4.heap.size ≤ i) [va] (bd.take ln) ∧ Rep.R (g d) (fun i => w4.heap.size ≤ i) [vb] (qu1.take sh) from hG 10)
        cases e9
        have HPd := Lib.hid (HP4.out.to (hg d))
        have HLd := Lib.hid (HL4.out.to (hg d))
        have HSd := Lib.hid (HS4.out.to (hg d))
        have HFAR : Hid (∀ i, w4.heap.size ≤ i → i < (g d).heap.size → some i ≠ u9.ownBlock ∧ PBk w.heap.size (w.heap.size :: (w.heap.size + 1) :: Qb :: [Lb, Sb, Rb]) ob1 i) := Lib.hid (fun i hi _ => by
         refine ⟨fun e => ?_, by have := HP4.out.bl.size; omega, fun hm => ?_, fun e => ?_⟩
         ·have := (HP4.out.pg.lt i e.symm).2; omega
         ·have := (HP4.out.ge i hm).2.1; omega
         ·have := (HP4.out.q.lt i e.symm).2; omega)
        have HPR : Hid (Rep.R (g d) (fun b => some b ≠ u9.ownBlock) [.int .i64 0, .int .i64 0, .int .i64 0, .int .i64 0, va, vb] (⟨⟨0, 0, 0, 0, bd.take ln, qu1.take sh⟩⟩ : Av PageP (PBk w.heap.size (w.heap.size :: (w.heap.size + 1) :: Qb :: [Lb, Sb, Rb]) ob1))) :=
         Lib.hid ⟨va, vb, rfl, Rep.mono hp4 HFAR.out, Rep.mono hp5 HFAR.out⟩
        have HNN : Hid (pgs.length ≤ 1048576) := Lib.hid (by
         have h1 := congrArg List.length HT.out
         rw [List.length_append] at h1
         have h2 := setPages_le notes hn (allLines body notes) body []
         omega)
        clear q0 q1 q2 q3 hG hg hgm HFAR hp1 hp2 hp4 hp5 HP4 HL4 HS4
        generalize g d = wx at *
        clear g
        refine wpAny_one (i := 11) (oi := _) rfl (by kernel_rfl) (by rfl) (fun K hK => ?_)
        refine wp_push wx (α := Av PageP (PBk w.heap.size (w.heap.size :: (w.heap.size + 1) :: Qb :: [Lb, Sb, Rb]) ob1)) (.tmp 77) (.tmp 87) 29 rfl w.heap.size 36 (.agg #[.int .i64 0, .int .i64 0, .int .i64 0, .int .i64 0, .slice none 0 0, .slice none 0 0]) 80 Tryz.underlying29 page_info rfl (show 0 < 6 by decide) u9 (pgs.map Av.mk) rfl HPd.out.pg.own b10 _ _ (0, 0) _ rfl hp3 HPR.out (by rw [List.length_map]; have := HNN.out; omega) (by rw [List.length_map]; have := HNN.out; omega) HPd.out.bl.size _ rfl ?_
        rw [List.length_map]
        intro g7 cap7 w7 ho7 hg7 hat7 hlt7
        refine hK _ _ ?_
        clear hK K
        try simp only [Act.put, List.setIfInBounds_toArray]
        have HP7 := Lib.hid (HPd.out.page hg7 ho7 (fun k hk => by cases hk; exact hat7))
        have HL7 : Hid (ABox w7 Lb 3 [.int .i64 (ln : Int)]) := Lib.hid ((hg7.block _ HLd.out.lt (fun e => (HPd.out.pg.at_ Lb e.symm).2.1 (by simp))).trans HLd.out)
        have HS7 : Hid (ABox w7 Sb 3 [.int .i64 (sh : Int)]) := Lib.hid ((hg7.block _ HSd.out.lt (fun e => (HPd.out.pg.at_ Sb e.symm).2.1 (by simp))).trans HSd.out)
        clear ho7 hg7 hat7 hlt7 HPd HLd HSd hp3 HPR
        refine wpAny_one (i := 12) (oi := _) rfl (by kernel_rfl) (by rfl) (fun K hK => ?_)
        go_simp
        refine hK _ _ ?_
        clear hK K
        try simp only [Act.put, List.setIfInBounds_toArray, List.set_cons_zero, List.set_cons_succ]
        refine wpAny_done (by kernel_rfl) ?_ _
        unfold Exit.then
        go_upto_region 21 with (fail)
        refine wp_region_D (fun w' => w'.cell? ⟨Lb, 0, none⟩ = some (.int .i64 (ln : Int)) ∧ w'.cell? ⟨Qb, 0, none⟩ = some (.slice Aq1 qu1.length cq1) ∧ w'.cell? ⟨Sb, 0, none⟩ = some (.int .i64 (sh : Int))) (fun i => decide (i < 7)) (by kernel_rfl) ?_
        have hbz : Below w7.heap.size w7 w7.drew := (Below.refl _ _).drew
        have HP8 := Lib.hid (HP7.out.to hbz)
        have HL8 := Lib.hid (HL7.out.to hbz)
        have HS8 := Lib.hid (HS7.out.to hbz)
        clear hbz HP7 HL7 HS7
        generalize w7.drew = W0 at *
        have hS0 : W0.cell? ⟨Lb, 0, none⟩ = some (.int .i64 (ln : Int)) ∧ W0.cell? ⟨Qb, 0, none⟩ = some (.slice Aq1 qu1.length cq1) ∧ W0.cell? ⟨Sb, 0, none⟩ = some (.int .i64 (sh : Int)) := ⟨HL8.out.cell 0 rfl, HP8.out.qb.cell 0 rfl, HS8.out.cell 0 rfl⟩
        have HNB : Hid (Lb ≠ w.heap.size ∧ Qb ≠ w.heap.size ∧ Sb ≠ w.heap.size) := Lib.hid (by
         have h := HP8.out.nd
         simp at h
         exact ⟨fun e => h.1.2.1 e.symm, fun e => h.1.1 e.symm, fun e => h.1.2.2.1 e.symm⟩)
        have HSQ : Hid (∀ u, (W0.setCell ⟨w.heap.size, 0, none⟩ u).cell? ⟨Lb, 0, none⟩ = some (.int .i64 (ln : Int)) ∧ (W0.setCell ⟨w.heap.size, 0, none⟩ u).cell? ⟨Qb, 0, none⟩ = some (.slice Aq1 qu1.length cq1) ∧ (W0.setCell ⟨w.heap.size, 0, none⟩ u).cell? ⟨Sb, 0, none⟩ = some (.int .i64 (sh : Int))) := Lib.hid (fun u =>
         ⟨(HL8.out.other HNB.out.1 0 u).cell 0 rfl, (HP8.out.qb.other HNB.out.2.1 0 u).cell 0 rfl, (HS8.out.other HNB.out.2.2 0 u).cell 0 rfl⟩)
        have HPS := Lib.hid (pages_step h4 HF.out.1 HNE1.out HDN.out)
        have HLEN : Hid (vlen u9 = pgs.length ∧ pgs.length + 1 ≤ N) := Lib.hid ⟨HU9.out, by
         have h1 := congrArg List.length HT.out
         rw [HPS.out.2, HNE.out, List.length_append, List.length_cons] at h1
         omega⟩
        have HT2 : Hid ((pgs ++ [(⟨0, 0, 0, 0, bd.take ln, qu1.take sh⟩ : PageP)]) ++ setPages notes hn (f - 1) (bd.drop ln) (qu1.drop sh) = setPages notes hn (allLines body notes) body []) := Lib.hid (by
         rw [← HT.out, HPS.out.2, List.append_assoc]; rfl)
        have HS2 : Hid (SmallL (bd.drop ln) ∧ SmallL (qu1.drop sh) ∧ Refs (bd.drop ln) notes) := Lib.hid ⟨fun x hx => HS.out.1 x (List.mem_of_mem_drop hx), fun x hx => HQS.out x (List.mem_of_mem_drop hx), fun x hx => HS.out.2.2 x (List.mem_of_mem_drop hx)⟩
        have HF2 : Hid (allLines (bd.drop ln) notes + (qu1.drop sh).length ≤ f - 1 ∧ f - 1 ≤ 1048576) := Lib.hid ⟨HPS.out.1, by have := HF.out.2; omega⟩
        refine wpAnyE_take (i := 1) (oi := ⟨some 90, Op.load 3 (Operand.tmp 11), 3, _, _, _⟩) (v := ?_) rfl (by kernel_rfl) (by kernel_rfl) (by kernel_rfl) (by kernel_rfl) (by kernel_rfl) (fun _ _ _ h => h) (by rfl) ?hykr21_1 (hS0) ?hrkr21_1
        case hykr21_1 => (intro wS hSw; (have hq := hSw.1); clear hSw; go_simp; (try with_reducible rfl))
        all_goals try simp only [Act.put, List.setIfInBounds_toArray, List.set_cons_zero, List.set_cons_succ]
        refine wpAnyE_take (i := 3) (oi := ⟨some 92, Op.load 34 (Operand.tmp 10), 34, _, _, _⟩) (v := ?_) rfl (by kernel_rfl) (by kernel_rfl) (by kernel_rfl) (by kernel_rfl) (by kernel_rfl) (fun _ _ _ h => h) (by rfl) ?hykr21_2 (hS0) ?hrkr21_2
        case hykr21_2 => (intro wS hSw; (have hq := hSw.2.1); clear hSw; go_simp; (try with_reducible rfl))
        all_goals try simp only [Act.put, List.setIfInBounds_toArray, List.set_cons_zero, List.set_cons_succ]
        refine wpAnyE_take (i := 4) (oi := ⟨some 93, Op.load 3 (Operand.tmp 12), 3, _, _, _⟩) (v := ?_) rfl (by kernel_rfl) (by kernel_rfl) (by kernel_rfl) (by kernel_rfl) (by kernel_rfl) (fun _ _ _ h => h) (by rfl) ?hykr21_3 (hS0) ?hrkr21_3
        case hykr21_3 => (intro wS hSw; (have hq := hSw.2.2); clear hSw; go_simp; (try with_reducible rfl))
        all_goals try simp only [Act.put, List.setIfInBounds_toArray, List.set_cons_zero, List.set_cons_succ]
        refine wpAnyE_take (i := 5) (oi := ⟨some 94, Op.slice 34 (Operand.tmp 92) (some (Operand.tmp 93)) none none, 34, _, _, _⟩) (v := ?_) rfl (by kernel_rfl) (by kernel_rfl) (by kernel_rfl) (by kernel_rfl) (by kernel_rfl) (fun _ _ _ h => h) (by rfl) ?hykr21_4 (hS0) ?hrkr21_4
        case hykr21_4 => (intro wS hSw; clear hSw; go_simp; (try with_reducible rfl))
        all_goals try simp only [Act.put, List.setIfInBounds_toArray, List.set_cons_zero, List.set_cons_succ]
        refine wpAnyD_one (i := 0) (oi := ⟨some 89, Op.load 34 (Operand.tmp 3), 34, _, _, _⟩) rfl (by kernel_rfl) (by rfl) (fun K hK => ?_)
        have hq0 := HP8.out.bb.cell 0 rfl
        go_simp
        refine hK _ _ (fun _ => ?_) ?_
        ·exact hS0
        clear hK K
        try simp only [Act.put, List.setIfInBounds_toArray, List.set_cons_zero, List.set_cons_succ]
        refine wpAnyE_take (i := 2) (oi := ⟨some 91, Op.slice 34 (Operand.tmp 89) (some (Operand.tmp 90)) none none, 34, _, _, _⟩) (v := ?_) rfl (by kernel_rfl) (by kernel_rfl) (by kernel_rfl) (by kernel_rfl) (by kernel_rfl) (fun _ _ _ h => h) (by rfl) ?hykr21_5 (hS0) ?hrkr21_5
        case hykr21_5 => (intro wS hSw; clear hSw; go_simp; (try with_reducible rfl))
        all_goals try simp only [Act.put, List.setIfInBounds_toArray, List.set_cons_zero, List.set_cons_succ]
        refine wpAnyD_one (i := 6) (oi := ⟨none, Op.store 34 (Operand.tmp 3) (Operand.tmp 91), 0, _, _, _⟩) rfl (by kernel_rfl) (by rfl) (fun K hK => ?_)
        have hq6 := HP8.out.bb.cell 0 rfl
        have hf6 := HP8.out.bb.fz 0
        go_simp
        clear hq6 hf6
        refine hK _ _ (fun _ => ?_) ?_
        ·exact (HSQ.out _)
        clear hK K
        try simp only [Act.put]
        refine wpAnyD_one (i := 7) (oi := ⟨none, Op.store 34 (Operand.tmp 10) (Operand.tmp 94), 0, _, _, _⟩) rfl (by kernel_rfl) (by rfl) (fun K hK => ?_)
        have hq7 := (HP8.out.qb.other HNB.out.2.1 0 (.slice (if c' = ln then A' else Option.map (fun x => x.add (ln * 4)) A') (bd.length - ln) (c' - ln))).cell 0 rfl
        have hf7 := (HP8.out.qb.other HNB.out.2.1 0 (.slice (if c' = ln then A' else Option.map (fun x => x.add (ln * 4)) A') (bd.length - ln) (c' - ln))).fz 0
        go_simp
        clear hq7 hf7
        refine hK _ _ (fun h => absurd h (by decide)) ?_
        clear hK K
        try simp only [Act.put]
        refine wpAnyD_done (by kernel_rfl) ?_ _
        unfold Exit.inBlock
        have HP9 : Hid (∃ ob9, PO w ((W0.setCell ⟨w.heap.size, 0, none⟩ (.slice (if c' = ln then A' else Option.map (fun x => x.add (ln * 4)) A') (bd.length - ln) (c' - ln))).setCell ⟨Qb, 0, none⟩ (.slice (if cq1 = sh then Aq1 else Option.map (fun x => x.add (sh * 4)) Aq1) (qu1.length - sh) (cq1 - sh))) w.heap.size (w.heap.size + 1) Qb [] (if c' = ln then A' else Option.map (fun x => x.add (ln * 4)) A') (c' - ln) (bd.drop ln) hn ob9 (.slice (if cq1 = sh then Aq1 else Option.map (fun x => x.add (sh * 4)) Aq1) (qu1.length - sh) (cq1 - sh)) (qu1.drop sh) (.slice (some ⟨g7, 0, none⟩) (pgs.length + 1) cap7) (pgs ++ [(⟨0, 0, 0, 0, bd.take ln, qu1.take sh⟩ : PageP)])) := Lib.hid (by
         obtain ⟨ob9, ho9, hq9⟩ := HP8.out.q.cut (k := sh) (by rw [List.length_map]; exact hshq)
         rw [← List.map_drop] at hq9
         exact ⟨ob9, (HP8.out.cut (HP8.out.bs.drop ln hlnb) (by rw [List.length_drop]) hq9 ho9).less⟩)
        clear HP8 HL8 HS8 hS0 HNB HSQ
        go_wp2_with fail
        go_roundw
        case rel =>
         obtain ⟨ob9, hp9⟩ := HP9.out
         exact ⟨_, _, _, ob9, _, _, _, f - 1, Lib.hid hp9, HF2, HT2, HS2⟩
        case measure =>
         have h := HLEN.out
         rw [h.1]
         show N - (pgs.length + 1) < N - pgs.length
         omega
       ·obtain ⟨wo, rfl⟩ : ∃ wo : World, wo = wr := ⟨_, rfl⟩
        obtain ⟨hlt, hfit⟩ := fits_get HFB.out
        have HFIT := Lib.hid hfit
        obtain ⟨b, o, Ag, cg, An, cn, hA, hbo, hbl, -, -, -, e3, -, hnS⟩ := line_at HP.out.bs hlt
        subst hA
        have HNS := Lib.hid hnS
        have HRX := Lib.hid (HS.out.2.2 bd[ln] (List.getElem_mem hlt))
        have hlc : bd.length ≤ c' := HP.out.bs.1
        have hlI : (ln : Int) < (bd.length : Int) := by omega
        have hl0 : (0 : Int) ≤ (ln : Int) := by omega
        have HGO : Hid (fillP notes hn (bd.drop ln) ln sh qu1 = fillP notes hn (bd.drop (ln + 1)) (ln + 1) (shownP hn ln sh (qu1 ++ noteLines notes bd[ln]).length) (qu1 ++ noteLines notes bd[ln])) := Lib.hid (fillP_go hlt hfit)
        have HTA : Hid ((bd.take (ln + 1)).flatMap (noteLines notes) = (bd.take ln).flatMap (noteLines notes) ++ noteLines notes bd[ln]) := Lib.hid (take_all hlt)
        have HB1 : Hid (Below w.heap.size w wo) := Lib.hid HP.out.bl
        have HMO : Hid ((intOf ((wo.cell? ⟨Lb, 0, none⟩).getD undef)).toNat = ln) := Lib.hid (by rw [HL.out.cell 0 rfl]; simp [intOf])
        have HLX : Hid ((noteLines notes bd[ln]).length ≤ 1048576) := Lib.hid (by
         have h1 := allLines_drop notes bd bd.length (Nat.le_refl _)
         have h2 := HF.out
         have h3 : (noteLines notes bd[ln]).length ≤ ((bd.take bd.length).flatMap (noteLines notes)).length := by
          rw [List.take_length]
          exact (List.sublist_flatten_of_mem (List.mem_map.2 ⟨bd[ln], List.getElem_mem hlt, rfl⟩)).length_le
         omega)
        obtain ⟨x, hx⟩ : ∃ x, bd[ln] = x := ⟨_, rfl⟩
        have HXM : Hid (bd[ln]? = some x) := Lib.hid (by rw [List.getElem?_eq_getElem hlt, hx])
        rw [hx] at HFIT HNS HRX HGO HTA HLX e3
        clear hfit hnS hx
        go_upto_region 11 with (first | (go_at_call 117; refine HFC.out.mono ?_; rintro e w4 ⟨rfl, hb4⟩) | fail)
        have HP4 := Lib.hid (HP.out.to hb4)
        have HL4 := Lib.hid (HL.out.to hb4)
        have HS4 := Lib.hid (HSn.out.to hb4)
        have HR4 := Lib.hid (HR.out.to hb4)
        have hq0 := HP4.out.bb.cell 0 rfl
        have hq1 := HL4.out.cell 0 rfl
        have hq2 : w4.cell? ⟨b, o + ln * 4 + 3, none⟩ = some (.slice An x.notes.length cn) := (hb4.cell (p := ⟨b, _, none⟩) hbl).trans e3
        have hnl9 : x.notes.length ≤ 9223372036854775807 := by have := HNS.out.1; have := HNS.out.2.1; unfold maxLen at this; omega
        clear hb4 e3 HP HL HSn HR HFC
        go_wp2_with fail
        clear hq0 hq1 hq2
        go_loopw [48] (fun v48 wr => ∃ (j : Nat) (ob2 : Option Nat) (qv : Value) (qu2 : List LineP), v48 = .int .i64 (j : Int) ∧ j ≤ x.notes.length ∧ Hid (PO w wr w.heap.size (w.heap.size + 1) Qb [Lb, Sb, Rb] (some ⟨b, o, none⟩) c' bd hn ob2 qv qu2 u9 pgs) ∧ Hid (ABox wr Lb 3 [.int .i64 (ln : Int)]) ∧ Hid (ABox wr Sb 3 [.int .i64 (sh : Int)]) ∧
         Hid (ABox wr Rb 152 [roomV (w.heap.size + 1) Lb Sb]) ∧ Hid (qu2 = qu1 ++ noteTo notes x j)) (fun v48 _ => x.notes.length - (intOf v48).toNat)
        case atStart => exact ⟨0, ob1, _, qu1, rfl, Nat.zero_le _, HP4, HL4, HS4, HR4, Lib.hid (by simp [noteTo])⟩
        case round =>
         clear HP4 HL4 HS4 HR4
         obtain ⟨j, ob2, qv2, qu2, rfl, hj, HP, HL, HSn, HR, HQ2⟩ := hrel
         obtain ⟨Aq2, cq2, hqv, -, -⟩ := HP.out.q.len
         rw [List.length_map] at hqv
         subst hqv
         by_cases hjl : j < x.notes.length
         ·have hjI : (j : Int) < (x.notes.length : Int) := by omega
          have hj0 : (0 : Int) ≤ (j : Int) := by omega
          have HNSr : Hid (Sl wr (fun b => b < w.heap.size) An cn x.notes) := Lib.hid (HNS.out.old (kept_two HB1.out HP.out.bl) HP.out.bl.size)
          obtain ⟨b1, o1, hA1, -, -, hok, ce⟩ := int_at HNSr.out hjl
          obtain ⟨hr0, hr1⟩ := HRX.out _ (List.getElem_mem hjl)
          obtain ⟨k, hk⟩ : ∃ k : Nat, x.notes[j] = (k : Int) := ⟨x.notes[j].toNat, by omega⟩
          have HST : Hid (noteTo notes x (j + 1) = noteTo notes x j ++ notes[x.notes[j].toNat]'(by omega)) := Lib.hid (noteTo_step hjl (by omega))
          have hkn : k < notes.length := by omega
          have hkI : (k : Int) < (notes.length : Int) := by omega
          have hk0 : (0 : Int) ≤ (k : Int) := by omega
          have HBr : Hid (Sl wr (fun b => b < w.heap.size) B d notes) := Lib.hid (HBn.out.keep (Kept.below HP.out.bl (fun i hi => hi)) HP.out.bl.size)
          obtain ⟨bn, on, Ap, cp, hB, hbn, hbnl, cn1, hyS⟩ := part_at HBr.out hkn
          have hln2 : notes.length ≤ d := HBr.out.1
          have HYS := Lib.hid hyS
          have e1 : x.notes[j].toNat = k := by omega
          simp only [e1] at HST
          rw [hk] at ce
          have HYL : Hid (∀ z, z ∈ notes[k] → True) := Lib.hid (fun _ _ => trivial)
          have HNL2 : Hid (qu1.length + (noteTo notes x (j + 1)).length ≤ 1048576 + 1048576) := Lib.hid (by
           have h1 := noteTo_le notes x (j + 1)
           have h2 := HQN.out
           have h3 := HLX.out
           omega)
          obtain ⟨y, hy⟩ : ∃ y, notes[k] = y := ⟨_, rfl⟩
          rw [hy] at HST HYS cn1
          clear HYL hy e1 hk hok hr0 hr1 hyS
          subst hA1
          subst hB
          have hqb := HP.out.qb.cell 0 rfl
          have hcn9 : x.notes.length ≤ cn := HNSr.out.1
          go_upto_region 14 with (fail)
          refine wp_region_D (fun w' => w'.cell? ⟨Qb, 0, none⟩ = some (.slice Aq2 qu2.length cq2) ∧ w'.cell? ⟨bn, on + k, none⟩ = some (.slice Ap y.length cp)) (fun i => decide (i < 5)) (by kernel_rfl) ?_
          have hbz : Below wr.heap.size wr wr.drew := (Below.refl _ _).drew
          have hS0 : wr.drew.cell? ⟨Qb, 0, none⟩ = some (.slice Aq2 qu2.length cq2) ∧ wr.drew.cell? ⟨bn, on + k, none⟩ = some (.slice Ap y.length cp) := ⟨hqb, cn1⟩
          have HPz := Lib.hid (HP.out.to hbz)
          have HLz := Lib.hid (HL.out.to hbz)
          have HSz := Lib.hid (HSn.out.to hbz)
          have HRz := Lib.hid (HR.out.to hbz)
          have HYz : Hid (Sl wr.drew (fun b => b < w.heap.size) Ap cp y) := Lib.hid (HYS.out.keep (Kept.all hbz) hbz.size)
          clear hbz HP HL HSn HR HYS ce cn1 hqb HNSr HBr
          generalize wr.drew = W0 at *
          have HNL3 : Hid (qu2.length + y.length ≤ 1048576 + 1048576) := Lib.hid (by
           have h1 := HNL2.out
           rw [HST.out, List.length_append] at h1
           rw [HQ2.out, List.length_append]
           omega)
          refine wpAnyE_take (i := 0) (oi := ⟨some 52, Op.load 34 (Operand.tmp 10), 34, _, _, _⟩) (v := ?_) rfl (by kernel_rfl) (by kernel_rfl) (by kernel_rfl) (by kernel_rfl) (by kernel_rfl) (fun _ _ _ h => h) (by rfl) ?hykr14_1 (hS0) ?hrkr14_1
          case hykr14_1 => (intro wS hSw; (have hq := hSw.1); clear hSw; go_simp; (try with_reducible rfl))
          all_goals try simp only [Act.put, List.setIfInBounds_toArray, List.set_cons_zero, List.set_cons_succ]
          refine wpAnyE_take (i := 1) (oi := ⟨some 53, Op.move (Operand.tmp 1), 106, _, _, _⟩) (v := ?_) rfl (by kernel_rfl) (by kernel_rfl) (by kernel_rfl) (by kernel_rfl) (by kernel_rfl) (fun _ _ _ h => h) (by rfl) ?hykr14_2 (hS0) ?hrkr14_2
          case hykr14_2 => (intro wS hSw; clear hSw; go_simp; (try with_reducible rfl))
          all_goals try simp only [Act.put, List.setIfInBounds_toArray, List.set_cons_zero, List.set_cons_succ]
          refine wpAnyE_take (i := 2) (oi := ⟨some 54, Op.move (Operand.tmp 16), 3, _, _, _⟩) (v := ?_) rfl (by kernel_rfl) (by kernel_rfl) (by kernel_rfl) (by kernel_rfl) (by kernel_rfl) (fun _ _ _ h => h) (by rfl) ?hykr14_3 (hS0) ?hrkr14_3
          case hykr14_3 => (intro wS hSw; clear hSw; go_simp; (try with_reducible rfl))
          all_goals try simp only [Act.put, List.setIfInBounds_toArray, List.set_cons_zero, List.set_cons_succ]
          refine wpAnyE_take (i := 3) (oi := ⟨some 55, Op.indexAddr 106 (Operand.tmp 53) (Operand.tmp 54), 0, _, _, _⟩) (v := ?_) rfl (by kernel_rfl) (by kernel_rfl) (by kernel_rfl) (by kernel_rfl) (by kernel_rfl) (fun _ _ _ h => h) (by rfl) ?hykr14_4 (hS0) ?hrkr14_4
          case hykr14_4 => (intro wS hSw; clear hSw; go_simp; (try with_reducible rfl))
          all_goals try simp only [Act.put, List.setIfInBounds_toArray, List.set_cons_zero, List.set_cons_succ]
          refine wpAnyE_take (i := 4) (oi := ⟨some 56, Op.load 34 (Operand.tmp 55), 34, _, _, _⟩) (v := ?_) rfl (by kernel_rfl) (by kernel_rfl) (by kernel_rfl) (by kernel_rfl) (by kernel_rfl) (fun _ _ _ h => h) (by rfl) ?hykr14_5 (hS0) ?hrkr14_5
          case hykr14_5 => (intro wS hSw; (have hq := hSw.2); clear hSw; go_simp; (try with_reducible rfl))
          all_goals try simp only [Act.put, List.setIfInBounds_toArray, List.set_cons_zero, List.set_cons_succ]
          refine wpAnyD_one (i := 5) (oi := ⟨some 57, Op.call { callee := Callee.builtin Builtin.append, args := #[Operand.tmp 52, Operand.tmp 56], argTypes := #[34, 34] }, 34, _, _, _⟩) rfl (by kernel_rfl) (by rfl) (fun K hK => ?_)
          refine wp_que (α := OldL w.heap.size) (.tmp 52) (.tmp 56) 34 rfl w.heap.size 88 (.agg #[.int .i64 0, .int .i64 0, .slice none 0 0, .slice none 0 0]) 64 Tryz.underlying34 line_info rfl (show 0 < 4 by decide) ob2 _ (qu2.map Av.mk) rfl HPz.out.q Ap cp y.length (y.map Av.mk) rfl (by rw [List.length_map]) (fun b => b < w.heap.size) (HYz.out.av (fun i h _ => h)) (fun i hi _ e => by have := (HPz.out.q.lt i e.symm).1; omega) (fun i hi => Nat.lt_of_lt_of_le hi HPz.out.bl.size) (by rw [List.length_map]; have := HNL3.out; omega) (by rw [List.length_map]; have := HNL3.out; omega) HPz.out.bl.size ?_
          intro v5 w5 ob5 hq5 hg5 hob5
          rw [← List.map_append] at hq5
          obtain ⟨A5, c5, rfl, -, -⟩ := hq5.len
          rw [List.length_map] at hq5 ⊢
          have HQ5 := Lib.hid hq5
          have HG5 := Lib.hid hg5
          have HO5 := Lib.hid hob5
          clear hq5 hg5 hob5
          refine hK _ _ (fun h => absurd h (by decide)) ?_
          clear hK K
          try simp only [Act.put, List.setIfInBounds_toArray, List.set_cons_zero, List.set_cons_succ]
          refine wpAnyD_one (i := 6) (oi := ⟨none, Op.store 34 (Operand.tmp 10) (Operand.tmp 57), 0, _, _, _⟩) rfl (by kernel_rfl) (by rfl) (fun K hK => ?_)
          have hqb5 : ABox w5 Qb 34 [.slice Aq2 qu2.length cq2] := (HG5.out.block Qb (HPz.out.ge Qb (by simp)).2.1 (HPz.out.ge Qb (by simp)).2.2).trans HPz.out.qb
          have hc6 := hqb5.cell 0 rfl
          have hf6 := hqb5.fz 0
          go_simp
          clear hc6 hf6 hqb5
          refine hK _ _ (fun h => absurd h (by decide)) ?_
          clear hK K
          try simp only [Act.put]
          refine wpAnyD_done (by kernel_rfl) ?_ _
          have HP5 := Lib.hid (HPz.out.que HG5.out HQ5.out HO5.out)
          have hbx : ∀ {z t cs}, z ∈ [Lb, Sb, Rb] → ABox W0 z t cs → ABox (w5.setCell ⟨Qb, 0, none⟩ (.slice A5 (qu2 ++ y).length c5)) z t cs := fun {z t cs} hz hb => by
           have hz2 : z ∈ w.heap.size :: (w.heap.size + 1) :: Qb :: [Lb, Sb, Rb] := by simp only [List.mem_cons] at hz ⊢; rcases hz with h | h | h | h <;> simp_all
           have hne : z ≠ Qb := by
            have h := HPz.out.nd
            simp only [List.nodup_cons, List.mem_cons, not_or] at h
            simp only [List.mem_cons, List.not_mem_nil, or_false] at hz
            rcases hz with rfl | rfl | rfl
            ·exact fun e => h.2.2.1.1 e.symm
            ·exact fun e => h.2.2.1.2.1 e.symm
            ·exact fun e => h.2.2.1.2.2.1 e.symm
           exact (show ABox w5 z t cs from (HG5.out.block z (HPz.out.ge z hz2).2.1 (HPz.out.ge z hz2).2.2).trans hb).other hne 0 _
          have HL5 := Lib.hid (hbx (by simp) HLz.out)
          have HS5 := Lib.hid (hbx (by simp) HSz.out)
          have HR5 := Lib.hid (hbx (by simp) HRz.out)
          clear hbx HPz HLz HSz HRz HQ5 HG5 HO5 HYz hS0
          simp only [List.length_append] at HP5 HL5 HS5 HR5
          unfold Exit.then
          go_wp2_with fail
          go_roundw
          case rel => exact ⟨j + 1, ob5, _, qu2 ++ y, by go_num, by omega, HP5, HL5, HS5, HR5, Lib.hid (by rw [HQ2.out, HST.out, List.append_assoc])⟩
          case measure => (first | (simp [intOf]; done) | (simp [intOf]; omega))
         ·have hjI : ¬ (j : Int) < (x.notes.length : Int) := by omega
          have HQA : Hid (qu2 = qu1 ++ noteLines notes x) := Lib.hid (by rw [HQ2.out, show j = x.notes.length by omega, noteTo_all])
          have HLE : Hid (qu2.length ≤ 1048576 + 1048576) := Lib.hid (by
           rw [HQA.out, List.length_append]
           have h2 := HQN.out
           have h3 := HLX.out
           omega)
          have hc1 := HL.out.cell 0 rfl
          have hf1 := HL.out.fz 0
          have hlnI : (ln : Int) ≤ 1048576 := by have := HBN.out; omega
          have hln0 : (0 : Int) ≤ (ln : Int) := by omega
          have hw0 : IntKind.i64.wrap ((ln : Int) + 1) = (ln : Int) + 1 := by rw [IntWalk.i64_in _ (by omega)]
          go_upto_region 17 with (fail)
          have HP6 := Lib.hid (HP.out.set (x := Lb) (by simp) (.int .i64 ((ln : Int) + 1)))
          have HL6 : Hid (ABox (wr.setCell ⟨Lb, 0, none⟩ (.int .i64 ((ln : Int) + 1))) Lb 3 [.int .i64 ((ln + 1 : Nat) : Int)]) := Lib.hid (by simpa using HL.out.set 0 (.int .i64 ((ln : Int) + 1)))
          have HNB : Hid (Sb ≠ Lb ∧ Rb ≠ Lb ∧ Rb ≠ Sb) := Lib.hid (by
           have h := HP.out.nd
           simp at h
           exact ⟨fun e => h.2.2.2.1.1 e.symm, fun e => h.2.2.2.1.2 e.symm, fun e => h.2.2.2.2 e.symm⟩)
          have HS6 := Lib.hid (HSn.out.other HNB.out.1 0 (.int .i64 ((ln : Int) + 1)))
          have HR6 := Lib.hid (HR.out.other HNB.out.2.1 0 (.int .i64 ((ln : Int) + 1)))
          clear hc1 hf1 hw0 HP HL HSn HR
          generalize wr.setCell ⟨Lb, 0, none⟩ (.int .i64 ((ln : Int) + 1)) = w6 at *
          have hq1 := HP6.out.qb.cell 0 rfl
          have hq2 := HS6.out.cell 0 rfl
          have hshI : (sh : Int) ≤ 1048576 := by have := HQN.out; have := HI.out.2.1; omega
          have hqI : (qu2.length : Int) ≤ 2097152 := by have := HLE.out; omega
          have HTK : Hid (qu2 = qu ++ (bd.take (ln + 1)).flatMap (noteLines notes)) := Lib.hid (by rw [HTA.out, HQA.out, HI.out.2.2.1, List.append_assoc])
          have HFL : Hid (fillP notes hn (bd.drop (ln + 1)) (ln + 1) (shownP hn ln sh qu2.length) qu2 = fillP notes hn bd 0 (min qu.length (hn - 1)) qu) := Lib.hid (by rw [← HFI.out, HGO.out, ← HQA.out])
          have HSH : Hid (sh ≤ qu2.length) := Lib.hid (by rw [HQA.out, List.length_append]; have := HI.out.2.1; omega)
          by_cases hmo : sh < qu2.length
          ·have hmI : (0 : Int) < (qu2.length : Int) - (sh : Int) := by omega
           go_upto_region 19 with (fail)
           obtain ⟨r, hr⟩ : ∃ r, roomP hn (ln + 1) sh = r := ⟨_, rfl⟩
           have HSTP := Lib.hid (shown_step HFIT.out HI.out.2.2.2 (q2 := qu2.length) (fun h => by rw [HQA.out, List.length_append]; unfold noteLines; rw [h]; rfl) hmo)
           obtain ⟨ns, hns⟩ : ∃ ns, shownP hn ln sh qu2.length = ns := ⟨_, rfl⟩
           rw [hr, hns] at HSTP
           rw [hns] at HFL
           have hrb : -4194304 ≤ r ∧ r ≤ 4194304 := by rw [← hr]; unfold roomP; omega
           have hw1 : IntKind.i64.wrap (r - 1) = r - 1 := by rw [IntWalk.i64_in _ (by omega)]
           have hw2 : IntKind.i64.wrap (r - 1 + min (sh : Int) 1) = r - 1 + min (sh : Int) 1 := by rw [IntWalk.i64_in _ (by omega)]
           have hnsb : ns ≤ qu2.length := by rw [← hns]; exact (shownP_le HSH.out).2
           have hw3 : IntKind.i64.wrap ((sh : Int) + min ((qu2.length : Int) - (sh : Int)) (r - 1 + min (sh : Int) 1)) = (ns : Int) := by
            have h := HSTP.out.2.1
            rw [show ((min sh 1 : Nat) : Int) = min (sh : Int) 1 by omega] at h
            rw [h, IntWalk.i64_in _ (by omega)]
           have HNB2 : Hid (ns ≤ qu2.length ∧ 1 ≤ ns) := Lib.hid ⟨hnsb, HSTP.out.2.2⟩
           have HRM : Hid (∀ W, Below w6.heap.size w6 W → Calls Tryz.prog 116 #[.pointer (some ⟨w.heap.size + 1, 0, none⟩), .pointer (some ⟨Lb, 0, none⟩), .pointer (some ⟨Sb, 0, none⟩)] W fun e w' => e = .returned (.int .i64 r) ∧ W = w') := Lib.hid (fun W hW => by
            rw [← hr]
            exact room_any (w.heap.size + 1) Lb Sb hn (ln + 1) sh W (by omega) (by omega) (by omega) ((HP6.out.hb.to hW).cell 0 rfl) ((HL6.out.to hW).cell 0 rfl) ((HS6.out.to hW).cell 0 rfl))
           clear hr hns hnsb HSTP hrb
           refine wp_region_rely [3] (fun i => if i = 3 then SP.val (.int .i64 r) else SP.any) 10 (by kernel_rfl) (by kernel_rfl) ?_
           intro T _ g hg hgm
           have q3 : ∀ d, (g d).cell? ⟨Sb, 0, none⟩ = some (.int .i64 (sh : Int)) := fun d => (HS6.out.to (hg d)).cell 0 rfl
           have q4 : ∀ d, (g d).cell? ⟨Rb, 0, none⟩ = some (roomV (w.heap.size + 1) Lb Sb) := fun d => (HR6.out.to (hg d)).cell 0 rfl
           have HG5 := Lib.hid hgm
           unfold roomV at q4
           repeat (refine wpR_pure (by rfl) fun Kq hq => ?_; go_big_quiet_step (fail); refine wpQuiet_nil (hq _ ?_); clear hq Kq)
           refine wpR_busy (by rfl) (by rfl) (fun d hG K Q hK => ?_) (fun v3 d hG hp Kr hr => ?_)
           ·go_simp
            go_at_call 116
            refine (HRM.out _ (hg d)).mono ?_
            rintro e W1 ⟨rfl, rfl⟩
            go_simp
            exact hK _ _ (Below.refl _ _) (rfl)
           obtain rfl : v3 = .int .i64 r := hp
           (try clear hp); clear hG
           simp only [Act.put, List.setIfInBounds_toArray, List.set_cons_zero, List.set_cons_succ]
           refine hr _ ?_
           clear hr Kr
           repeat (refine wpR_pure (by rfl) fun Kq hq => ?_; go_big_quiet_step (fail); refine wpQuiet_nil (hq _ ?_); clear hq Kq)
           refine wpR_tail 1 (by rfl) (by rfl) (fun d hG => ?_)
           have HPd := Lib.hid (HP6.out.to (hg d))
           have HLd := Lib.hid (HL6.out.to (hg d))
           have HSd := Lib.hid (HS6.out.to (hg d))
           have HRd := Lib.hid (HR6.out.to (hg d))
           clear q3 q4 hG hg hgm HG5 HP6 HL6 HS6 HR6 HRM hq1 hq2
           generalize g d = wx at *
           clear g
           have hc3 := HSd.out.cell 0 rfl
           have hf3 := HSd.out.fz 0
           refine wpAny_one (i := 10) (oi := _) rfl (by kernel_rfl) (by rfl) (fun K hK => ?_)
           go_simp
           refine hK _ _ ?_
           clear hK K
           try simp only [Act.put, List.setIfInBounds_toArray, List.set_cons_zero, List.set_cons_succ]
           refine wpAny_done (by kernel_rfl) ?_ _
           have HP8 := Lib.hid (HPd.out.set (x := Sb) (by simp) (.int .i64 (ns : Int)))
           have HL8 := Lib.hid (HLd.out.other (Ne.symm HNB.out.1) 0 (.int .i64 (ns : Int)))
           have HS8 : Hid (ABox (wx.setCell ⟨Sb, 0, none⟩ (.int .i64 (ns : Int))) Sb 3 [.int .i64 (ns : Int)]) := Lib.hid (by simpa using HSd.out.set 0 (.int .i64 (ns : Int)))
           have HR8 := Lib.hid (HRd.out.other HNB.out.2.2 0 (.int .i64 (ns : Int)))
           clear hc3 hf3 HPd HLd HSd HRd
           generalize wx.setCell ⟨Sb, 0, none⟩ (.int .i64 (ns : Int)) = w8 at *
           have HL9 : Hid ((intOf ((w8.cell? ⟨Lb, 0, none⟩).getD undef)).toNat = ln + 1) := Lib.hid (by rw [HL8.out.cell 0 rfl]; show ((ln + 1 : Nat) : Int).toNat = ln + 1; omega)
           unfold Exit.inBlock
           go_wp2_with fail
           go_roundw
           case rel => exact ⟨ln + 1, ns, ob2, _, qu2, HP8, HL8, HS8, HR8, HFL, Lib.hid ⟨by omega, HNB2.out.1, HTK.out, fun h => by have := HNB2.out.2; omega⟩⟩
           case measure => rw [HL9.out, HMO.out]; omega
          ·have hmI : ¬ (0 : Int) < (qu2.length : Int) - (sh : Int) := by omega
           have HNS2 : Hid (shownP hn ln sh qu2.length = sh) := Lib.hid (by unfold shownP; rw [if_neg hmo])
           have HL9 : Hid ((intOf ((w6.cell? ⟨Lb, 0, none⟩).getD undef)).toNat = ln + 1) := Lib.hid (by rw [HL6.out.cell 0 rfl]; show ((ln + 1 : Nat) : Int).toNat = ln + 1; omega)
           rw [HNS2.out] at HFL
           go_wp2_with fail
           go_roundw
           case rel => exact ⟨ln + 1, sh, ob2, _, qu2, HP6, HL6, HS6, HR6, HFL, Lib.hid ⟨by omega, HSH.out, HTK.out, fun h => by omega⟩⟩
           case measure => rw [HL9.out, HMO.out]; omega
 ·obtain ⟨e0, he0⟩ : ∃ e0, pageE body notes h = e0 := ⟨_, rfl⟩
  rw [he0] at hE
  have HE0 := Lib.hid he0
  have hne : (e0 != 0) = true := by simpa using hE
  simp only [he0] at HC ⊢
  have HE := Lib.hid hE
  clear hE he0
  go_enter Tryz.func94, Tryz.ntmps94
  go_wp2_with (first | (go_at_call 115; refine (HC.out _ HB0.out).mono ?_; rintro e w2 ⟨rfl, hb2⟩) | fail)
  go_ret2
  exact ⟨_, rfl, fun h => absurd h HE.out, fun _ => rfl, HB0.out.trans (hb2.mono HB0.out.size)⟩
end Go.Proofs.YtakaielemicpkaaGreatDoor
namespace Go.Proofs.YtakaielemicpkaaGreatDoor
open Go.RowKit
theorem cutL_length {α : Type} (l : List α) (i j : Nat) : (cutL l i j).length ≤ l.length := by
 unfold cutL; rw [List.length_drop, List.length_take]; omega
theorem gapsP_le (ws : List Int) (m : Int) (last : Bool) : (gapsP ws m last).length ≤ ws.length := by
 unfold gapsP
 split
 ·simp
 ·split
  ·rw [List.length_replicate]; omega
  ·rw [List.length_map, List.length_range]; omega
theorem notesP_le (l : List Word) : (notesP l).length ≤ l.length := by
 unfold notesP; rw [List.length_map]; exact List.length_filter_le _ _
theorem linesFrom_small {N : Nat} (ws : List Word) (wd : List Int) (m first : Int) (h1 : ws.length ≤ N) (h2 : wd.length ≤ N) : ∀ (es : List Nat) (i : Nat), ∀ x ∈ linesFrom ws wd m first i es, x.gaps.length ≤ N ∧ x.notes.length ≤ N
 | [], _, x, hx => absurd hx (by simp [linesFrom])
 | e :: es, i, x, hx => by
  rw [linesFrom] at hx
  rcases List.mem_cons.1 hx with rfl | hx
  ·exact ⟨Nat.le_trans (gapsP_le _ _ _) (Nat.le_trans (cutL_length _ _ _) h2), Nat.le_trans (notesP_le _) (Nat.le_trans (cutL_length _ _ _) h1)⟩
  ·exact linesFrom_small ws wd m first h1 h2 es e x hx
theorem setP_small {p : List Word} (first m : Int) (h : p.length ≤ 500) : SmallL (setP p first m) := by
 intro x hx
 have := linesFrom_small (N := 500) p (widthsP p) m first h (by unfold widthsP; rw [List.length_map]; exact h) _ _ x hx
 omega
theorem partsP_small (m : Int) : ∀ (l : List (List Word)) (first : Int), (∀ p ∈ l, p.length ≤ 500) → ∀ n ∈ partsP m first l, SmallL n
 | [], _, _, n, hn => absurd hn (by simp [partsP])
 | p :: l, first, h, n, hn => by
  rw [partsP] at hn
  rcases List.mem_cons.1 hn with rfl | hn
  ·exact setP_small first m (h p (by simp))
  ·exact partsP_small m l _ (fun q hq => h q (by simp [hq])) n hn
theorem FineT.small {a b : List (List Word)} (h : FineT a b) (m : Int) : SmallL (bodyP a m) ∧ ∀ n ∈ notesLP a b m, SmallL n :=
 ⟨fun x hx => by
  unfold bodyP at hx
  obtain ⟨l, hl, hx⟩ := List.mem_flatten.1 hx
  exact partsP_small m a 0 (fun p hp => (h.p p (by simp [hp])).2) l hl x hx, fun n hn => partsP_small m b _ (fun p hp => (h.p p (by simp [hp])).2) n hn⟩
theorem fineT_lines {a b : List (List Word)} (h : FineT a b) {m : Int} (h1 : 500 ≤ m) (h2 : m ≤ 2000) : (bodyP a m).length + (notesLP a b m).flatten.length ≤ 100000 := by
 have e1 := parts_flat m a 0 (fun p hp => h.reg h1 h2 (by simp [hp]))
 have e2 := parts_flat m b (tot a : Nat) (fun p hp => h.reg h1 h2 (by simp [hp]))
 have e3 := h.tot
 rw [tot_append] at e3
 unfold bodyP notesLP
 omega
theorem linesE_fine {a b : List (List Word)} {m : Int} (h : linesE a b m = 0) : FineT a b ∧ 500 ≤ m ∧ m ≤ 2000 := by
 unfold linesE at h
 split at h
 ·rename_i hc; exact absurd h hc
 ·rename_i hc
  split at h
  ·rename_i hm; exact ⟨chk_zero (Decidable.not_not.1 hc), hm⟩
  ·exact absurd h (by decide)
set_option maxRecDepth 100000 in
set_option maxHeartbeats 4000000 in
theorem ptext_any (A B : Option Addr) (c d : Nat) (a b : List (List Word)) (m h : Int) (w : World) (hT : Laid w) (ha : Sl w (fun b => b < w.heap.size) A c a) (hb : Sl w (fun b => b < w.heap.size) B d b) (hI : I64 h) (hla : a.length ≤ 1048576) (hlb : b.length ≤ 1048576) :
  Calls Tryz.prog 66 #[.agg #[.slice A a.length c, .slice B b.length d], .int .i64 m, .int .i64 h] w fun e w' => ∃ v, e = .returned (.tuple #[v, .int .i64 (textE a b m h)]) ∧
   (textE a b m h = 0 → Own w' w.heap.size 36 v ((pagesOfText a b m h.toNat).map (Bd.mk : PageP → Bd PageP w.heap.size))) ∧ (textE a b m h ≠ 0 → v = .slice none 0 0) ∧ Below w.heap.size w w' := by
 have hba : Below w.heap.size w (w.alloc (.cells #[.slice A a.length c, .slice B b.length d] 50)) := (Below.refl _ _).alloc (Nat.le_refl _) _
 have HL := Lib.hid (lines_any A B c d a b m (w.alloc (.cells #[.slice A a.length c, .slice B b.length d] 50)) (hT.to hba) (ha.to hba) (hb.to hba) hla hlb)
 have HBA := Lib.hid hba
 have c0 : (w.alloc (.cells #[.slice A a.length c, .slice B b.length d] 50)).cell? ⟨w.heap.size, 0, none⟩ = some (.slice A a.length c) := cell_of_row _ _ 0 _ _ _ (heap_alloc_new w _)
 have c1 : (w.alloc (.cells #[.slice A a.length c, .slice B b.length d] 50)).cell? ⟨w.heap.size, 1, none⟩ = some (.slice B b.length d) := cell_of_row _ _ 1 _ _ _ (heap_alloc_new w _)
 obtain ⟨q, hq⟩ : ∃ q, linesE a b m = q := ⟨_, rfl⟩
 rw [hq] at HL
 have HQ := Lib.hid hq
 clear hT ha hb hba hq
 by_cases hq0 : q = 0
 ·subst hq0
  go_enter Tryz.func66, Tryz.ntmps66
  go_wp2_with (first | (go_at_call 93; refine HL.out.mono ?_; rintro e w2 ⟨v, u, rfl, h1, -, hb2⟩; have h1 := h1 trivial) | fail)
  obtain ⟨A1, c1, rfl, hs1⟩ := own_bd_sl h1.1 (Nat.le_refl _)
  obtain ⟨A2, c2, rfl, hs2⟩ := own_bd_sl h1.2 (Nat.le_refl _)
  obtain ⟨hfn, hm1, hm2⟩ := linesE_fine HQ.out
  have hlen := fineT_lines hfn hm1 hm2
  have hsm := hfn.small m
  have hnl : (notesLP a b m).length ≤ 1048576 := by unfold notesLP; rw [partsP_length]; exact hlb
  have HB2 := Lib.hid (HBA.out.trans (hb2.mono HBA.out.size))
  have HSB : Hid (w.heap.size ≤ w2.heap.size) := Lib.hid HB2.out.size
  refine (pset_any A1 A2 c1 c2 (bodyP a m) (notesLP a b m) h w2 (hs1.mono fun i h _ => h.1) (hs2.mono fun i h _ => h.1) hI hnl (by omega) hsm.1 hsm.2).mono ?_
  rintro e w3 ⟨v, rfl, h2, h3, hb3⟩
  have HE : Hid (textE a b m h = pageE (bodyP a m) (notesLP a b m) h) := Lib.hid (by unfold textE; rw [HQ.out, if_neg (by simp)])
  have H2 := Lib.hid h2
  have H3 := Lib.hid h3
  have HB3 := Lib.hid (HB2.out.trans (hb3.mono HB2.out.size))
  clear h1 hs1 hs2 hfn hm1 hm2 hlen hsm hnl h2 h3 hb3 hb2 HL
  go_wp2_with fail
  go_ret2
  rw [HE.out]
  refine ⟨_, rfl, fun h0 => ?_, H3.out, HB3.out⟩
  have h4 := (H2.out h0).re HSB.out
  refine h4.conv _ (by rw [List.length_map, List.length_map]; rfl) rfl (fun i h1 h2 es he => ?_)
  rw [List.getElem_map] at he ⊢
  exact Rep.mono (α := PageP) he (fun b hb _ => ⟨hb.1, Nat.le_trans HSB.out hb.2⟩)
 ·have hqb : (q != 0) = true := by simpa using hq0
  have HQ0 := Lib.hid hq0
  clear hq0
  go_enter Tryz.func66, Tryz.ntmps66
  go_wp2_with (first | (go_at_call 93; refine HL.out.mono ?_; rintro e w2 ⟨v, u, rfl, -, h1, hb2⟩; have HB2 := Lib.hid (HBA.out.trans (hb2.mono HBA.out.size)); clear h1 hb2) | fail)
  go_ret2
  have HE : textE a b m h = q := by unfold textE; rw [HQ.out, if_pos HQ0.out]
  exact ⟨_, by rw [HE]; rfl, fun h0 => absurd (HE ▸ h0) HQ0.out, fun _ => rfl, HB2.out⟩
end Go.Proofs.YtakaielemicpkaaGreatDoor
namespace Go.Proofs.YtakaielemicpkaaGreatDoor
open Go.RowKit
def wrongE (m h : Int) (a b : List (List Word)) : Int := if textE a b m h ≠ 0 then textE a b m h else if tot (a ++ b) = 0 then 1 else 0
theorem textE_fine {a b : List (List Word)} {m h : Int} (hE : textE a b m h = 0) : FineT a b ∧ (500 ≤ m ∧ m ≤ 2000) ∧ pageE (bodyP a m) (notesLP a b m) h = 0 := by
 unfold textE at hE
 split at hE
 ·rename_i h1; exact absurd hE h1
 ·rename_i h1
  have h2 := linesE_fine (Decidable.not_not.1 h1)
  exact ⟨h2.1, h2.2, hE⟩
set_option maxRecDepth 100000 in
set_option maxHeartbeats 4000000 in
theorem wrong_any (A B : Option Addr) (c d : Nat) (a b : List (List Word)) (m h : Int) (vs : Value) (_hv : vs.oneCell' = true) (w : World) (hT : Laid w) (ha : Sl w (fun b => b < w.heap.size) A c a) (hb : Sl w (fun b => b < w.heap.size) B d b) (hI : I64 h) (hla : a.length ≤ 1048576) (hlb : b.length ≤ 1048576) :
  Calls Tryz.prog 68 #[.agg #[.int .i64 m, .int .i64 h, vs], .agg #[.slice A a.length c, .slice B b.length d]] w fun e w' => e = .returned (.int .i64 (wrongE m h a b)) ∧ Below w.heap.size w w' := by
 obtain ⟨wb, hwb⟩ : ∃ wb, (w.alloc (.cells #[.int .i64 m, .int .i64 h, vs] 27)).alloc (.cells #[.slice A a.length c, .slice B b.length d] 50) = wb := ⟨_, rfl⟩
 have hba : Below w.heap.size w wb := by rw [← hwb]; exact ((Below.refl _ _).alloc (Nat.le_refl _) _).alloc (by simp) _
 have hx0 : ABox wb w.heap.size 27 [.int .i64 m, .int .i64 h, vs] := by rw [← hwb]; exact (Below.heap_alloc _ _ _ (by simp)).trans (heap_alloc_new w _)
 have hx1 : ABox wb (w.heap.size + 1) 50 [.slice A a.length c, .slice B b.length d] := by rw [← hwb]; exact heap_at (by simp)
 have HX1 := Lib.hid hx1
 have HP := Lib.hid (ptext_any A B c d a b m h wb (hT.to hba) (ha.to hba) (hb.to hba) hI hla hlb)
 have HSA := Lib.hid (ha.to hba)
 have HSB := Lib.hid (hb.to hba)
 have HBA := Lib.hid hba
 have c0 := hx0.cell 0 rfl
 have c1 := hx0.cell 1 rfl
 have d0 := hx1.cell 0 rfl
 have d1 := hx1.cell 1 rfl
 obtain ⟨q, hq⟩ : ∃ q, textE a b m h = q := ⟨_, rfl⟩
 rw [hq] at HP
 have HQ := Lib.hid hq
 clear hT ha hb hba hq hx0 hx1
 by_cases hq0 : q = 0
 ·subst hq0
  obtain ⟨hfn, -, -⟩ := textE_fine HQ.out
  have htot := hfn.tot
  have HE : Hid (wrongE m h a b = if tot (a ++ b) = 0 then 1 else 0) := Lib.hid (by unfold wrongE; rw [HQ.out, if_neg (by simp)])
  have HCT : Hid (∀ W, Below wb.heap.size wb W → Calls Tryz.prog 95 #[.agg #[.slice A a.length c, .slice B b.length d]] W fun e w' => e = .returned (.int .i64 (tot (a ++ b) : Int)) ∧ Below W.heap.size W w') := Lib.hid (fun W hW =>
   count_any A B c d a b W (HSA.out.to hW) (HSB.out.to hW) hla hlb (by omega))
  clear hfn HQ
  go_enter Tryz.func68, Tryz.ntmps68
  go_upto_region 1 with (fail)
  have HWB := Lib.hid hwb
  clear hwb
  by_cases ht0 : tot (a ++ b) = 0
  ·rw [ht0] at HCT
   rw [if_pos ht0] at HE
   clear ht0 htot
   go_wp2_with (first
    |(go_at_call 66; refine HP.out.mono ?_; rintro e w2 ⟨v, rfl, -, -, hb2⟩; have e0 : w2.cell? ⟨w.heap.size + 1, 0, none⟩ = some (.slice A a.length c) := (HX1.out.to hb2).cell 0 rfl; have e1 : w2.cell? ⟨w.heap.size + 1, 1, none⟩ = some (.slice B b.length d) := (HX1.out.to hb2).cell 1 rfl; have HB2 := Lib.hid hb2; clear hb2)
    |(go_at_call 95; refine (HCT.out _ HB2.out).mono ?_; rintro e w3 ⟨rfl, hb3⟩; have HB3 := Lib.hid (HBA.out.trans ((HB2.out.trans (hb3.mono HB2.out.size)).mono HBA.out.size)); clear hb3)
    | fail)
   go_ret
   exact ⟨by rw [HE.out]; rfl, HB3.out⟩
  ·have hti : ((tot (a ++ b) : Int) == 0) = false := by rw [beq_eq_false_iff_ne]; omega
   rw [if_neg ht0] at HE
   clear ht0 htot
   generalize (tot (a ++ b) : Int) = tt at *
   go_wp2_with (first
    |(go_at_call 66; refine HP.out.mono ?_; rintro e w2 ⟨v, rfl, -, -, hb2⟩; have e0 : w2.cell? ⟨w.heap.size + 1, 0, none⟩ = some (.slice A a.length c) := (HX1.out.to hb2).cell 0 rfl; have e1 : w2.cell? ⟨w.heap.size + 1, 1, none⟩ = some (.slice B b.length d) := (HX1.out.to hb2).cell 1 rfl; have HB2 := Lib.hid hb2; clear hb2)
    |(go_at_call 95; refine (HCT.out _ HB2.out).mono ?_; rintro e w3 ⟨rfl, hb3⟩; have HB3 := Lib.hid (HBA.out.trans ((HB2.out.trans (hb3.mono HB2.out.size)).mono HBA.out.size)); clear hb3)
    | fail)
   go_ret
   exact ⟨by rw [HE.out]; rfl, HB3.out⟩
 ·have HE : Hid (wrongE m h a b = q) := Lib.hid (by unfold wrongE; rw [HQ.out, if_pos hq0])
  have hqb : (q != 0) = true := by simpa using hq0
  clear hq0
  go_enter Tryz.func68, Tryz.ntmps68
  go_upto_region 1 with (fail)
  have HWB := Lib.hid hwb
  clear hwb
  go_wp2_with (first | (go_at_call 66; refine HP.out.mono ?_; rintro e w2 ⟨v, rfl, -, -, hb2⟩; have HB2 := Lib.hid (HBA.out.trans (hb2.mono HBA.out.size)); clear hb2) | fail)
  go_ret
  exact ⟨by rw [HE.out]; rfl, HB2.out⟩
end Go.Proofs.YtakaielemicpkaaGreatDoor
