/- A text after a change: the walk. -/
import Derived.Test.YtgnblofjjondpaaDoorGlyW18
import Derived.Test.YtgnblofjjondpaaDoorCalm
import Derived.Deep.CutRange
import Derived.BigQuiet
namespace Go.Proofs.YtgnblofjjondpaaDoor
open Go.RowKit
def IsTX (w : World) (e : Ending) (w' : World) : Prop := ∃ A c B d ls ns, e = .returned (.agg #[.slice A ls.length c, .slice B ns.length d]) ∧ TX w' A c B d ls ns ∧ Below w.heap.size w w'
def cellLen : Option Value → Nat
  | some (.slice _ n _) => n
  | _ => 0
theorem frozen_of {w w' : World} {b : Nat} (h : w'.heap[b]? = w.heap[b]?) (o : Nat) : w'.frozen? ⟨b, o, none⟩ = w.frozen? ⟨b, o, none⟩ := by simp [World.frozen?, h]
theorem own_word (w : World) (x : Word) (hx : x.ok) : Own (w.alloc (.cells #[.string x.s, .string x.key, .int .i64 x.t, .int .i64 x.n] 36)) w.heap.size 36 (.slice (some ⟨w.heap.size, 0, none⟩) 1 1) [x] := by
  refine Own.lit w w.heap.size _ #[.string x.s, .string x.key, .int .i64 x.t, .int .i64 x.n] [x] (Nat.le_refl _) (by simp [maxLen]) rfl (by intro u hu; simp at hu; rcases hu with rfl | rfl | rfl | rfl <;> rfl) (fun i hi => ?_)
  obtain rfl : i = 0 := by simp at hi; omega
  exact ⟨rfl, hx⟩
set_option maxRecDepth 100000 in
set_option maxHeartbeats 8000000 in
theorem spoilt_any (A B : Option Addr) (c d : Nat) (ls ns : List (List Word)) (s : Spoil) (w : World) (htx : TX w A c B d ls ns) (hl : ls.length ≤ 4) (hn : ns.length ≤ 3) (hp : ∀ p ∈ ls ++ ns, p.length ≤ 40) (h1 : I64 s.what) (h2 : I64 s.at_) (h3 : I64 s.n) (hx : s.x.ok) :
    Calls Tryd.prog 24 #[.agg #[.slice A ls.length c, .slice B ns.length d], s.val] w (IsTX w) := by
  unfold Spoil.val
  have HTX := Lib.hid htx
  have HPL := Lib.hid (fun p hp' => hp p (List.mem_append_left _ hp'))
  have HPN := Lib.hid (fun p hp' => hp p (List.mem_append_right _ hp'))
  have HI1 := Lib.hid h1
  have HI2 := Lib.hid h2
  have HI3 := Lib.hid h3
  have HX := Lib.hid hx
  clear htx hp h1 h2 h3 hx
  go_enter Tryd.func24, Tryd.ntmps24
  go_wp2_with fail
  obtain ⟨w1, hw1⟩ : ∃ w1, w1 = ((((w.alloc (.cells #[.slice A ls.length c, .slice B ns.length d] 41)).alloc (.cells #[.int .i64 s.what, .int .i64 s.at_, .int .i64 s.n, .string s.x.s, .string s.x.key, .int .i64 s.x.t, .int .i64 s.x.n] 38)).alloc (.cells #[.slice none 0 0, .slice none 0 0] 41)).alloc (.cells #[.slice none 0 0, .slice none 0 0] 41)) := ⟨_, rfl⟩
  have S0 : Sp w w1 (w.heap.size + 3) (.slice A ls.length c) (.slice B ns.length d) s (fun g => w.heap.size + 3 < g) (fun _ => False) (.slice none 0 0) (.slice none 0 0) [] [] [] [] := by
    subst hw1
    refine ⟨rfl, ⟨?_⟩, ?_, ⟨?_⟩, ⟨heap_at (by simp)⟩, Nest.nil _ _ _ _, Nest.nil _ _ _ _, fun _ h => h, fun _ h => h.elim, fun _ _ h => h.elim, ((((Below.refl _ _).alloc (Nat.le_refl _) _).alloc (by simp) _).alloc (by first | (simp; done) | (simp; omega)) _).alloc (by first | (simp; done) | (simp; omega)) _⟩
    · exact (Below.heap_alloc _ _ _ (by first | (simp; done) | (simp; omega))).trans ((Below.heap_alloc _ _ _ (by first | (simp; done) | (simp; omega))).trans ((Below.heap_alloc _ _ _ (by simp)).trans (heap_at rfl)))
    · exact (Below.heap_alloc _ _ _ (by first | (simp; done) | (simp; omega))).trans ((Below.heap_alloc _ _ _ (by simp)).trans (heap_at (by simp)))
    · exact (Below.heap_alloc _ _ _ (by simp)).trans (heap_at (by simp))
  have HS0 := Lib.hid S0
  rw [← hw1]
  clear hw1 S0
  have eO : w.heap.size + 1 + 1 + 1 = w.heap.size + 3 := by omega
  have eR : w.heap.size + 1 + 1 = w.heap.size + 2 := by omega
  rw [eO, eR]
  clear eO eR
  generalize hO : w.heap.size + 3 = O at *
  have HO := Lib.hid hO
  clear hO
  go_loopw [6] (fun i wr => ∃ k : Nat, k ≤ ls.length ∧ i = .int .i64 k ∧ ∃ B1 B2 v us ps, Hid (Sp w wr O (.slice A ls.length c) (.slice B ns.length d) s B1 B2 v (.slice none 0 0) us [] ps []) ∧ Hid (ps.length = k ∧ ∀ p ∈ ps, p.length ≤ 40)) (fun i _ => ls.length - (intOf i).toNat)
  case atStart => exact ⟨0, Nat.zero_le _, rfl, _, _, _, _, _, HS0, rfl, fun _ h => (by cases h)⟩
  case round =>
    obtain ⟨k, hk, rfl, B1, B2, v, us, ps, hst, hps⟩ := hrel
    have t0 := hst.out.t.c0
    have t1 := hst.out.t.c1
    have o0 := hst.out.o.c0
    have o1 := hst.out.o.c1
    by_cases hlt : k < ls.length
    · obtain ⟨b, o, Ap, cp, hA, hbw, _, hc0, hp0⟩ := part_at HTX.out.sa hlt
      have hc := (hst.out.b.cell (p := ⟨b, o + k, none⟩) hbw).trans hc0
      have hp := hp0.to hst.out.b
      have hbl : b < wr.heap.size := Nat.lt_of_lt_of_le hbw hst.out.b.size
      clear hc0 hp0
      have hkl : (k : Int) < (ls.length : Int) := by omega
      have hk0 : (0 : Int) ≤ (k : Int) := by omega
      have hpl := HPL.out ls[k] (List.getElem_mem hlt)
      generalize ls[k] = p at *
      obtain ⟨Av, cv, rfl, _, _⟩ := hst.out.n.own.form
      subst hA
      have HP := Lib.hid hp
      have hul : us.length ≤ 4 := by have := hst.out.n.len; have := hps.out.1; omega
      have SK : ∀ W, Below wr.heap.size wr W → (W.cell? ⟨O, 0, none⟩ = some (.slice Av us.length cv) ∧ W.cell? ⟨w.heap.size, 0, none⟩ = some (.slice (some ⟨b, o, none⟩) ls.length c) ∧ W.cell? ⟨b, o + k, none⟩ = some (.slice Ap p.length cp)) := fun W hW => ⟨(hst.out.o.below hW).c0, (hst.out.t.below hW).c0, (hW.cell (p := ⟨b, o + k, none⟩) hbl).trans hc⟩
      have SK8 : ∀ W : World, (∀ i, i ≤ O → W.heap[i]? = wr.heap[i]?) → (W.cell? ⟨O, 0, none⟩ = some (.slice Av us.length cv) ∧ W.cell? ⟨w.heap.size, 0, none⟩ = some (.slice (some ⟨b, o, none⟩) ls.length c) ∧ W.cell? ⟨b, o + k, none⟩ = some (.slice Ap p.length cp)) := fun W hW => ⟨(hst.out.o.kept (hW _ (Nat.le_refl _))).c0, (hst.out.t.kept (hW _ (by have := HO.out; omega))).c0, (World.cell?_of_block (a := ⟨b, o + k, none⟩) (hW b (by have := HO.out; omega))).trans hc⟩
      clear hp
      go_wp2_with fail
      refine wp_region_D (fun w' => w'.cell? ⟨O, 0, none⟩ = some (.slice Av us.length cv) ∧ w'.cell? ⟨w.heap.size, 0, none⟩ = some (.slice (some ⟨b, o, none⟩) ls.length c) ∧ w'.cell? ⟨b, o + k, none⟩ = some (.slice Ap p.length cp)) (fun i => decide (i < 11)) (by kernel_rfl) ?_
      have hHeld := SK _ (Below.refl wr.heap.size wr).drew
      refine wpAnyD_take (i := 0) (oi := ⟨some 18, Op.fieldAddr 41 (Operand.tmp 5) 0, 0, _, _, _⟩) (v := ?_) rfl (by kernel_rfl) (by kernel_rfl) (by kernel_rfl) (by kernel_rfl) (fun _ _ _ h => h) (by rfl) ?hya0 hHeld ?hra0
      case hya0 => (intro wS hSw; (try dsimp only at hSw); go_simp; (try with_reducible rfl))
      all_goals try (simp only [Act.put, List.setIfInBounds_toArray, List.set_cons_zero, List.set_cons_succ])
      refine wpAnyD_take (i := 1) (oi := ⟨some 19, Op.load 39 (Operand.tmp 18), 39, _, _, _⟩) (v := ?_) rfl (by kernel_rfl) (by kernel_rfl) (by kernel_rfl) (by kernel_rfl) (fun _ _ _ h => h) (by rfl) ?hya1 hHeld ?hra1
      case hya1 => (intro wS hSw; (try dsimp only at hSw); go_simp; (try with_reducible rfl))
      all_goals try (simp only [Act.put, List.setIfInBounds_toArray, List.set_cons_zero, List.set_cons_succ])
      refine wpAnyD_take (i := 3) (oi := ⟨some 21, Op.fieldAddr 41 (Operand.tmp 2) 0, 0, _, _, _⟩) (v := ?_) rfl (by kernel_rfl) (by kernel_rfl) (by kernel_rfl) (by kernel_rfl) (fun _ _ _ h => h) (by rfl) ?hya3 hHeld ?hra3
      case hya3 => (intro wS hSw; (try dsimp only at hSw); go_simp; (try with_reducible rfl))
      all_goals try (simp only [Act.put, List.setIfInBounds_toArray, List.set_cons_zero, List.set_cons_succ])
      refine wpAnyD_take (i := 4) (oi := ⟨some 22, Op.load 39 (Operand.tmp 21), 39, _, _, _⟩) (v := ?_) rfl (by kernel_rfl) (by kernel_rfl) (by kernel_rfl) (by kernel_rfl) (fun _ _ _ h => h) (by rfl) ?hya4 hHeld ?hra4
      case hya4 => (intro wS hSw; (try dsimp only at hSw); go_simp; (try with_reducible rfl))
      all_goals try (simp only [Act.put, List.setIfInBounds_toArray, List.set_cons_zero, List.set_cons_succ])
      refine wpAnyD_take (i := 5) (oi := ⟨some 23, Op.move (Operand.tmp 6), 3, _, _, _⟩) (v := ?_) rfl (by kernel_rfl) (by kernel_rfl) (by kernel_rfl) (by kernel_rfl) (fun _ _ _ h => h) (by rfl) ?hya5 hHeld ?hra5
      case hya5 => (intro wS hSw; (try dsimp only at hSw); go_simp; (try with_reducible rfl))
      all_goals try (simp only [Act.put, List.setIfInBounds_toArray, List.set_cons_zero, List.set_cons_succ])
      refine wpAnyD_take (i := 6) (oi := ⟨some 24, Op.indexAddr 39 (Operand.tmp 22) (Operand.tmp 23), 0, _, _, _⟩) (v := ?_) rfl (by kernel_rfl) (by kernel_rfl) (by kernel_rfl) (by kernel_rfl) (fun _ _ _ h => h) (by rfl) ?hya6 hHeld ?hra6
      case hya6 => (intro wS hSw; (try dsimp only at hSw); go_simp; (try with_reducible rfl))
      all_goals try (simp only [Act.put, List.setIfInBounds_toArray, List.set_cons_zero, List.set_cons_succ])
      refine wpAnyD_take (i := 7) (oi := ⟨some 25, Op.load 61 (Operand.tmp 24), 61, _, _, _⟩) (v := ?_) rfl (by kernel_rfl) (by kernel_rfl) (by kernel_rfl) (by kernel_rfl) (fun _ _ _ h => h) (by rfl) ?hya7 hHeld ?hra7
      case hya7 => (intro wS hSw; (try dsimp only at hSw); go_simp; (try with_reducible rfl))
      all_goals try (simp only [Act.put, List.setIfInBounds_toArray, List.set_cons_zero, List.set_cons_succ])
      refine wpAnyD_one (i := 2) (oi := ⟨some 20, Op.buildSlice 61 0 #[], 61, _, _, _⟩) rfl (by kernel_rfl) (by rfl) (fun K hK => ?_)
      go_simp
      refine hK _ _ (fun _ => ?_) ?_
      · exact SK _ ((Below.refl wr.heap.size wr).alloc (Nat.le_refl _) _).drew
      clear hHeld
      have hHeld := SK _ ((Below.refl wr.heap.size wr).alloc (Nat.le_refl _) (.cells #[] 36)).drew
      clear hK K
      try simp only [Act.put, List.setIfInBounds_toArray, List.set_cons_zero, List.set_cons_succ]
      refine wpAnyD_one (i := 8) (oi := ⟨some 26, Op.call { callee := Callee.builtin Builtin.append, args := #[Operand.tmp 20, Operand.tmp 25], argTypes := #[61, 61] }, 61, _, _, _⟩) rfl (by kernel_rfl) (by rfl) (fun K hK => ?_)
      refine wp_cat (α := Word) _ (.tmp 20) (.tmp 25) 61 rfl wr.heap.size 36 (.agg #[.string ⟨#[]⟩, .string ⟨#[]⟩, .int .i64 0, .int .i64 0]) 48 Tryd.underlying61 word_info rfl (by decide) (.slice (some ⟨wr.heap.size, 0, none⟩) 0 0) [] rfl (Own.made wr wr.heap.size _ (Nat.le_refl _)).drew Ap cp p.length p rfl rfl (fun b => b < wr.heap.size) (HP.out.keep (Kept.all ((Below.refl _ _).alloc (Nat.le_refl _) _).drew) (by simp)) (by intro i (hi : i < wr.heap.size) _ e; simp [Value.ownBlock] at e; omega) (by first | omega | (simp; omega)) (by first | omega | (simp; omega)) (by simp) ?_
      intro v5 w5 hown5' hg5 hat5
      have hown5 : Own w5 wr.heap.size 36 v5 p := hown5'
      have hb5 : Below wr.heap.size wr w5 := ((Below.refl wr.heap.size wr).alloc (Nat.le_refl _) _).drew.grown hg5 (by simp) (fun g hg => by simp [Value.ownBlock] at hg; omega)
      have hsp5 := hst.out.below hb5
      obtain ⟨A5, c5, rfl, _⟩ := hown5.form
      have n5 := World.new_ne w5 _ hsp5.o.c0
      have n5t := World.new_ne w5 _ hsp5.t.c0
      refine hK _ _ (fun _ => ?_) ?_
      · exact SK _ hb5
      clear hHeld
      have hHeld := SK _ hb5
      clear hK K
      try simp only [Act.put, List.setIfInBounds_toArray, List.set_cons_zero, List.set_cons_succ]
      refine wpAnyD_one (i := 9) (oi := ⟨some 27, Op.buildSlice 39 1 #[(0, Operand.tmp 26)], 39, _, _, _⟩) rfl (by kernel_rfl) (by rfl) (fun K hK => ?_)
      go_simp
      refine hK _ _ (fun _ => ?_) ?_
      · exact SK _ (hb5.alloc hb5.size _)
      clear hHeld
      have hHeld := SK _ (hb5.alloc hb5.size (.cells #[.slice A5 p.length c5] 61))
      clear hK K
      try simp only [Act.put, List.setIfInBounds_toArray, List.set_cons_zero, List.set_cons_succ]
      refine wpAnyD_one (i := 10) (oi := ⟨some 28, Op.call { callee := Callee.builtin Builtin.append, args := #[Operand.tmp 19, Operand.tmp 27], argTypes := #[39, 39] }, 39, _, _, _⟩) rfl (by kernel_rfl) (by rfl) (fun K hK => ?_)
      refine wp_push (α := Raw) _ (.tmp 19) (.tmp 27) 39 rfl 0 61 (.slice none 0 0) 24 Tryd.underlying39 raw_info rfl (by decide) (.slice Av us.length cv) us rfl (hsp5.n.own.alloc _) w5.heap.size _ ⟨.slice A5 p.length c5, rfl⟩ (0, 0) 61 rfl (heap_alloc_new w5 _) rfl (by omega) (by omega) (by simp) _ rfl ?_
      intro g8 cap8 w8 hown8 hg8 hat8 hlt8
      have k8 := fun i hi => hst.out.keep hb5 hg8 (fun g hg => hst.out.l1 g (hst.out.n.mv g hg)) i hi
      have o8 := (hst.out.o.kept (k8 _ (Nat.le_refl _)))
      have f8 := o8.fz
      have c80 := o8.c0
      refine hK _ _ (fun _ => ?_) ?_
      · exact SK8 _ k8
      clear hHeld
      have hHeld := SK8 _ k8
      clear hK K
      try simp only [Act.put, List.setIfInBounds_toArray, List.set_cons_zero, List.set_cons_succ]
      refine wpAnyD_one (i := 11) (oi := ⟨some 29, Op.fieldAddr 41 (Operand.tmp 5) 0, 0, _, _, _⟩) rfl (by kernel_rfl) (by rfl) (fun K hK => ?_)
      go_simp
      refine hK _ _ (fun h => absurd h (by decide)) ?_
      clear hK K
      try simp only [Act.put, List.setIfInBounds_toArray, List.set_cons_zero, List.set_cons_succ]
      refine wpAnyD_one (i := 12) (oi := ⟨none, Op.store 39 (Operand.tmp 29) (Operand.tmp 28), 0, _, _, _⟩) rfl (by kernel_rfl) (by rfl) (fun K hK => ?_)
      go_simp
      refine hK _ _ (fun h => absurd h (by decide)) ?_
      clear hK K
      try simp only [Act.put, List.setIfInBounds_toArray, List.set_cons_zero, List.set_cons_succ]
      refine wpAnyD_done (by kernel_rfl) ?_ _
      have hst2 := Lib.hid (hst.out.pushP (u := ⟨.slice A5 p.length c5, rfl⟩) hb5 hown5 hown8 hg8 (by rcases hat8 with e | e; exact .inl e.symm; exact .inr (by rw [e]; rfl)))
      have hps2 : Hid ((ps ++ [p]).length = k + 1 ∧ ∀ q ∈ ps ++ [p], q.length ≤ 40) := Lib.hid ⟨by rw [List.length_append, hps.out.1]; rfl, fun q hq => by
        rcases List.mem_append.1 hq with hq | hq
        · exact hps.out.2 q hq
        · rw [List.mem_singleton] at hq; subst hq; exact hpl⟩
      clear k8 o8 f8 c80 hHeld hat8 hg8 hown8 hlt8 hsp5 n5 n5t hown5 hat5 hown5' hb5 hg5 t0 t1 o0 o1 SK SK8
      unfold Exit.then
      go_wp2_with fail
      go_roundw
      case rel => exact ⟨k + 1, by omega, by go_num, _, _, _, _, _, hst2, hps2⟩
      case measure => simp [intOf]; omega
    · have hlt' : ¬ (k : Int) < (ls.length : Int) := by omega
      obtain rfl : k = ls.length := by omega
      clear hlt
      go_wp2_with fail
      go_loopw [7] (fun i wr' => ∃ k : Nat, k ≤ ns.length ∧ i = .int .i64 k ∧ ∃ B1 B2 vn un qs, Hid (Sp w wr' O (.slice A ls.length c) (.slice B ns.length d) s B1 B2 v vn us un ps qs) ∧ Hid (qs.length = k ∧ ∀ p ∈ qs, p.length ≤ 40)) (fun i _ => ns.length - (intOf i).toNat)
      case atStart => exact ⟨0, Nat.zero_le _, rfl, _, _, _, _, _, hst, rfl, fun _ h => (by cases h)⟩
      case round =>
        have hps0 := hps
        clear hps t0 t1 o0 o1 hlt' hst B1 B2
        have hpl0 : Hid (ps.length = ls.length) := Lib.hid hps0.out.1
        generalize hvv : v = v0 at *
        clear hvv
        obtain ⟨wo, hwo⟩ : ∃ wo : World, wo = wr := ⟨_, rfl⟩
        clear hwo
        obtain ⟨k, hk, rfl, B1, B2, vn, un, qs, hst, hps⟩ := hrel
        have t0 := hst.out.t.c0
        have t1 := hst.out.t.c1
        have o0 := hst.out.o.c0
        have o1 := hst.out.o.c1
        by_cases hlt : k < ns.length
        · obtain ⟨b, o, Ap, cp, hA, hbw, _, hc0, hp0⟩ := part_at HTX.out.sb hlt
          have hc := (hst.out.b.cell (p := ⟨b, o + k, none⟩) hbw).trans hc0
          have hp := hp0.to hst.out.b
          have hbl : b < wr.heap.size := Nat.lt_of_lt_of_le hbw hst.out.b.size
          clear hc0 hp0
          have hkl : (k : Int) < (ns.length : Int) := by omega
          have hk0 : (0 : Int) ≤ (k : Int) := by omega
          have hpl := HPN.out ns[k] (List.getElem_mem hlt)
          generalize ns[k] = p at *
          obtain ⟨Av, cv, rfl, _, _⟩ := hst.out.m.own.form
          subst hA
          have HP := Lib.hid hp
          have hul : un.length ≤ 4 := by have := hst.out.m.len; have := hps.out.1; omega
          have SK : ∀ W, Below wr.heap.size wr W → (W.cell? ⟨O, 1, none⟩ = some (.slice Av un.length cv) ∧ W.cell? ⟨w.heap.size, 1, none⟩ = some (.slice (some ⟨b, o, none⟩) ns.length d) ∧ W.cell? ⟨b, o + k, none⟩ = some (.slice Ap p.length cp)) := fun W hW => ⟨(hst.out.o.below hW).c1, (hst.out.t.below hW).c1, (hW.cell (p := ⟨b, o + k, none⟩) hbl).trans hc⟩
          have SK8 : ∀ W : World, (∀ i, i ≤ O → W.heap[i]? = wr.heap[i]?) → (W.cell? ⟨O, 1, none⟩ = some (.slice Av un.length cv) ∧ W.cell? ⟨w.heap.size, 1, none⟩ = some (.slice (some ⟨b, o, none⟩) ns.length d) ∧ W.cell? ⟨b, o + k, none⟩ = some (.slice Ap p.length cp)) := fun W hW => ⟨(hst.out.o.kept (hW _ (Nat.le_refl _))).c1, (hst.out.t.kept (hW _ (by have := HO.out; omega))).c1, (World.cell?_of_block (a := ⟨b, o + k, none⟩) (hW b (by have := HO.out; omega))).trans hc⟩
          clear hp
          go_wp2_with fail
          refine wp_region_D (fun w' => w'.cell? ⟨O, 1, none⟩ = some (.slice Av un.length cv) ∧ w'.cell? ⟨w.heap.size, 1, none⟩ = some (.slice (some ⟨b, o, none⟩) ns.length d) ∧ w'.cell? ⟨b, o + k, none⟩ = some (.slice Ap p.length cp)) (fun i => decide (i < 11)) (by kernel_rfl) ?_
          have hHeld := SK _ (Below.refl wr.heap.size wr).drew
          refine wpAnyD_take (i := 0) (oi := ⟨some 37, Op.fieldAddr 41 (Operand.tmp 5) 1, 0, _, _, _⟩) (v := ?_) rfl (by kernel_rfl) (by kernel_rfl) (by kernel_rfl) (by kernel_rfl) (fun _ _ _ h => h) (by rfl) ?hyb0 hHeld ?hrb0
          case hyb0 => (intro wS hSw; (try dsimp only at hSw); go_simp; (try with_reducible rfl))
          all_goals try (simp only [Act.put, List.setIfInBounds_toArray, List.set_cons_zero, List.set_cons_succ])
          refine wpAnyD_take (i := 1) (oi := ⟨some 38, Op.load 39 (Operand.tmp 37), 39, _, _, _⟩) (v := ?_) rfl (by kernel_rfl) (by kernel_rfl) (by kernel_rfl) (by kernel_rfl) (fun _ _ _ h => h) (by rfl) ?hyb1 hHeld ?hrb1
          case hyb1 => (intro wS hSw; (try dsimp only at hSw); go_simp; (try with_reducible rfl))
          all_goals try (simp only [Act.put, List.setIfInBounds_toArray, List.set_cons_zero, List.set_cons_succ])
          refine wpAnyD_take (i := 3) (oi := ⟨some 40, Op.fieldAddr 41 (Operand.tmp 2) 1, 0, _, _, _⟩) (v := ?_) rfl (by kernel_rfl) (by kernel_rfl) (by kernel_rfl) (by kernel_rfl) (fun _ _ _ h => h) (by rfl) ?hyb3 hHeld ?hrb3
          case hyb3 => (intro wS hSw; (try dsimp only at hSw); go_simp; (try with_reducible rfl))
          all_goals try (simp only [Act.put, List.setIfInBounds_toArray, List.set_cons_zero, List.set_cons_succ])
          refine wpAnyD_take (i := 4) (oi := ⟨some 41, Op.load 39 (Operand.tmp 40), 39, _, _, _⟩) (v := ?_) rfl (by kernel_rfl) (by kernel_rfl) (by kernel_rfl) (by kernel_rfl) (fun _ _ _ h => h) (by rfl) ?hyb4 hHeld ?hrb4
          case hyb4 => (intro wS hSw; (try dsimp only at hSw); go_simp; (try with_reducible rfl))
          all_goals try (simp only [Act.put, List.setIfInBounds_toArray, List.set_cons_zero, List.set_cons_succ])
          refine wpAnyD_take (i := 5) (oi := ⟨some 42, Op.move (Operand.tmp 7), 3, _, _, _⟩) (v := ?_) rfl (by kernel_rfl) (by kernel_rfl) (by kernel_rfl) (by kernel_rfl) (fun _ _ _ h => h) (by rfl) ?hyb5 hHeld ?hrb5
          case hyb5 => (intro wS hSw; (try dsimp only at hSw); go_simp; (try with_reducible rfl))
          all_goals try (simp only [Act.put, List.setIfInBounds_toArray, List.set_cons_zero, List.set_cons_succ])
          refine wpAnyD_take (i := 6) (oi := ⟨some 43, Op.indexAddr 39 (Operand.tmp 41) (Operand.tmp 42), 0, _, _, _⟩) (v := ?_) rfl (by kernel_rfl) (by kernel_rfl) (by kernel_rfl) (by kernel_rfl) (fun _ _ _ h => h) (by rfl) ?hyb6 hHeld ?hrb6
          case hyb6 => (intro wS hSw; (try dsimp only at hSw); go_simp; (try with_reducible rfl))
          all_goals try (simp only [Act.put, List.setIfInBounds_toArray, List.set_cons_zero, List.set_cons_succ])
          refine wpAnyD_take (i := 7) (oi := ⟨some 44, Op.load 61 (Operand.tmp 43), 61, _, _, _⟩) (v := ?_) rfl (by kernel_rfl) (by kernel_rfl) (by kernel_rfl) (by kernel_rfl) (fun _ _ _ h => h) (by rfl) ?hyb7 hHeld ?hrb7
          case hyb7 => (intro wS hSw; (try dsimp only at hSw); go_simp; (try with_reducible rfl))
          all_goals try (simp only [Act.put, List.setIfInBounds_toArray, List.set_cons_zero, List.set_cons_succ])
          refine wpAnyD_one (i := 2) (oi := ⟨some 39, Op.buildSlice 61 0 #[], 61, _, _, _⟩) rfl (by kernel_rfl) (by rfl) (fun K hK => ?_)
          go_simp
          refine hK _ _ (fun _ => ?_) ?_
          · exact SK _ ((Below.refl wr.heap.size wr).alloc (Nat.le_refl _) _).drew
          clear hHeld
          have hHeld := SK _ ((Below.refl wr.heap.size wr).alloc (Nat.le_refl _) (.cells #[] 36)).drew
          clear hK K
          try simp only [Act.put, List.setIfInBounds_toArray, List.set_cons_zero, List.set_cons_succ]
          refine wpAnyD_one (i := 8) (oi := ⟨some 45, Op.call { callee := Callee.builtin Builtin.append, args := #[Operand.tmp 39, Operand.tmp 44], argTypes := #[61, 61] }, 61, _, _, _⟩) rfl (by kernel_rfl) (by rfl) (fun K hK => ?_)
          refine wp_cat (α := Word) _ (.tmp 39) (.tmp 44) 61 rfl wr.heap.size 36 (.agg #[.string ⟨#[]⟩, .string ⟨#[]⟩, .int .i64 0, .int .i64 0]) 48 Tryd.underlying61 word_info rfl (by decide) (.slice (some ⟨wr.heap.size, 0, none⟩) 0 0) [] rfl (Own.made wr wr.heap.size _ (Nat.le_refl _)).drew Ap cp p.length p rfl rfl (fun b => b < wr.heap.size) (HP.out.keep (Kept.all ((Below.refl _ _).alloc (Nat.le_refl _) _).drew) (by simp)) (by intro i (hi : i < wr.heap.size) _ e; simp [Value.ownBlock] at e; omega) (by first | omega | (simp; omega)) (by first | omega | (simp; omega)) (by simp) ?_
          intro v5 w5 hown5' hg5 hat5
          have hown5 : Own w5 wr.heap.size 36 v5 p := hown5'
          have hb5 : Below wr.heap.size wr w5 := ((Below.refl wr.heap.size wr).alloc (Nat.le_refl _) _).drew.grown hg5 (by simp) (fun g hg => by simp [Value.ownBlock] at hg; omega)
          have hsp5 := hst.out.below hb5
          obtain ⟨A5, c5, rfl, _⟩ := hown5.form
          have n5 := World.new_ne w5 _ hsp5.o.c0
          have n5t := World.new_ne w5 _ hsp5.t.c0
          refine hK _ _ (fun _ => ?_) ?_
          · exact SK _ hb5
          clear hHeld
          have hHeld := SK _ hb5
          clear hK K
          try simp only [Act.put, List.setIfInBounds_toArray, List.set_cons_zero, List.set_cons_succ]
          refine wpAnyD_one (i := 9) (oi := ⟨some 46, Op.buildSlice 39 1 #[(0, Operand.tmp 45)], 39, _, _, _⟩) rfl (by kernel_rfl) (by rfl) (fun K hK => ?_)
          go_simp
          refine hK _ _ (fun _ => ?_) ?_
          · exact SK _ (hb5.alloc hb5.size _)
          clear hHeld
          have hHeld := SK _ (hb5.alloc hb5.size (.cells #[.slice A5 p.length c5] 61))
          clear hK K
          try simp only [Act.put, List.setIfInBounds_toArray, List.set_cons_zero, List.set_cons_succ]
          refine wpAnyD_one (i := 10) (oi := ⟨some 47, Op.call { callee := Callee.builtin Builtin.append, args := #[Operand.tmp 38, Operand.tmp 46], argTypes := #[39, 39] }, 39, _, _, _⟩) rfl (by kernel_rfl) (by rfl) (fun K hK => ?_)
          refine wp_push (α := Raw) _ (.tmp 38) (.tmp 46) 39 rfl 0 61 (.slice none 0 0) 24 Tryd.underlying39 raw_info rfl (by decide) (.slice Av un.length cv) un rfl (hsp5.m.own.alloc _) w5.heap.size _ ⟨.slice A5 p.length c5, rfl⟩ (0, 0) 61 rfl (heap_alloc_new w5 _) rfl (by omega) (by omega) (by simp) _ rfl ?_
          intro g8 cap8 w8 hown8 hg8 hat8 hlt8
          have k8 := fun i hi => hst.out.keep hb5 hg8 (fun g hg => hst.out.l2 g (hst.out.m.mv g hg)) i hi
          have o8 := (hst.out.o.kept (k8 _ (Nat.le_refl _)))
          have f8 := o8.fz
          have c80 := o8.c1
          refine hK _ _ (fun _ => ?_) ?_
          · exact SK8 _ k8
          clear hHeld
          have hHeld := SK8 _ k8
          clear hK K
          try simp only [Act.put, List.setIfInBounds_toArray, List.set_cons_zero, List.set_cons_succ]
          refine wpAnyD_one (i := 11) (oi := ⟨some 48, Op.fieldAddr 41 (Operand.tmp 5) 1, 0, _, _, _⟩) rfl (by kernel_rfl) (by rfl) (fun K hK => ?_)
          go_simp
          refine hK _ _ (fun h => absurd h (by decide)) ?_
          clear hK K
          try simp only [Act.put, List.setIfInBounds_toArray, List.set_cons_zero, List.set_cons_succ]
          refine wpAnyD_one (i := 12) (oi := ⟨none, Op.store 39 (Operand.tmp 48) (Operand.tmp 47), 0, _, _, _⟩) rfl (by kernel_rfl) (by rfl) (fun K hK => ?_)
          go_simp
          refine hK _ _ (fun h => absurd h (by decide)) ?_
          clear hK K
          try simp only [Act.put, List.setIfInBounds_toArray, List.set_cons_zero, List.set_cons_succ]
          refine wpAnyD_done (by kernel_rfl) ?_ _
          have hst2 := Lib.hid (hst.out.pushN (u := ⟨.slice A5 p.length c5, rfl⟩) hb5 hown5 hown8 hg8 (by rcases hat8 with e | e; exact .inl e.symm; exact .inr (by rw [e]; rfl)))
          have hps2 : Hid ((qs ++ [p]).length = k + 1 ∧ ∀ q ∈ qs ++ [p], q.length ≤ 40) := Lib.hid ⟨by rw [List.length_append, hps.out.1]; rfl, fun q hq => by
            rcases List.mem_append.1 hq with hq | hq
            · exact hps.out.2 q hq
            · rw [List.mem_singleton] at hq; subst hq; exact hpl⟩
          clear k8 o8 f8 c80 hHeld hat8 hg8 hown8 hlt8 hsp5 n5 n5t hown5 hat5 hown5' hb5 hg5 t0 t1 o0 o1 SK SK8
          unfold Exit.then
          go_wp2_with fail
          go_roundw
          case rel => exact ⟨k + 1, by omega, by go_num, _, _, _, _, _, hst2, hps2⟩
          case measure => simp [intOf]; omega
        · have hlt' : ¬ (k : Int) < (ns.length : Int) := by omega
          obtain rfl : k = ns.length := by omega
          clear hlt o0 o1
          obtain ⟨Av, cv, rfl, _, hcv, _⟩ := hst.out.n.own.form
          obtain ⟨An, cn, rfl, _, hcn, _⟩ := hst.out.m.own.form
          have HLU : Hid (us.length = ps.length) := Lib.hid hst.out.n.len
          have HLN : Hid (un.length = qs.length) := Lib.hid hst.out.m.len
          have hu4 : us.length ≤ 4 := by have := HLU.out; have := hpl0.out; omega
          have hn3 : un.length ≤ 3 := by have := HLN.out; have := hps.out.1; omega
          have HP6 : Hid (∀ p ∈ ps, p.length ≤ 40) := Lib.hid hps0.out.2
          have HQ6 : Hid (∀ p ∈ qs, p.length ≤ 40) := Lib.hid hps.out.2
          have o0 := hst.out.o.c0
          have o1 := hst.out.o.c1
          clear hps hps0 hpl0
          by_cases h0 : us.length = 0
          · obtain rfl : us = [] := List.eq_nil_of_length_eq_zero h0
            obtain rfl : ps = [] := List.eq_nil_of_length_eq_zero (by have := HLU.out; simp at this; omega)
            clear h0 o0 o1 hcv hu4
            simp only [List.length_nil] at *
            have hF := hst.out.fin (by simp) (by have := HLN.out; omega) (fun p hp => (by cases hp)) (fun p hp => by have := HQ6.out p hp; omega)
            have r0 := hF.r.c0
            have r1 := hF.r.c1
            have rf := hF.r.fz
            have q0 := hF.o.c0
            have q1 := hF.o.c1
            obtain ⟨A9, c9, B9, d9, e9, f9, htx9, hb9⟩ := hF.done
            have HE9 := Lib.hid e9
            have HF9 := Lib.hid f9
            have HT9 := Lib.hid htx9
            have HB9 := Lib.hid hb9
            clear e9 f9 htx9 hb9 hF
            go_wp2_with fail
            refine bodyPost_ret (v := .agg #[.slice Av 0 cv, .slice An un.length cn]) (by simp [results, Tryd.results24, go_sem, r0, r1]) rfl ⟨A9, c9, B9, d9, _, _, by rw [HE9.out, HF9.out], HT9.out, HB9.out⟩
          · have hne : ¬ ((us.length : Int) = 0) := by omega
            have s1 : wr.cell? ⟨w.heap.size + 1, 1, none⟩ = some (.int .i64 s.at_) := cell_of_row wr _ 1 _ _ _ hst.out.s
            go_wp2_with fail
            refine (around_any s.at_ us.length _ HI2.out (by omega) (by omega)).mono ?_
            rintro e w4 ⟨rfl, rfl⟩
            obtain ⟨kk, hkk, hkl⟩ : ∃ kk : Nat, aro s.at_ us.length = kk ∧ kk < us.length := by
              have := aro_lt s.at_ us.length (by omega)
              exact ⟨(aro s.at_ us.length).toNat, by omega, by omega⟩
            rw [hkk]
            have HKK := Lib.hid hkk
            clear hkk h0
            have hkI : (kk : Int) < (us.length : Int) := by omega
            have hk0 : (0 : Int) ≤ (kk : Int) := by omega
            have hkp : kk < ps.length := by rw [← HLU.out]; exact hkl
            obtain ⟨gv, cap, hu, ev, hgl, hB, _, hcell, hfz⟩ := hst.out.n.at_ hkp
            obtain ⟨rfl, rfl⟩ : Av = some ⟨gv, 0, none⟩ ∧ cv = cap := by have := Value.slice.inj ev; exact ⟨this.1, this.2.2⟩
            have hrow := hst.out.n.inn kk hu hkp
            obtain ⟨Ak, ck, ek, _, hck, hckm⟩ := hrow.form
            rw [ek] at hcell
            have hpk := HP6.out ps[kk] (List.getElem_mem hkp)
            have HEK := Lib.hid ek
            have HROW := Lib.hid hrow
            clear ev ek hrow
            obtain ⟨pk, hpkk⟩ : ∃ pk, ps[kk] = pk := ⟨_, rfl⟩
            rw [hpkk] at hcell hpk HEK HROW hck
            clear hpkk
            have s2 : wr.cell? ⟨w.heap.size + 1, 2, none⟩ = some (.int .i64 s.n) := cell_of_row wr _ 2 _ _ _ hst.out.s
            have hwn : IntKind.i64.wrap ((pk.length : Int) + 1) = (pk.length : Int) + 1 := by rw [IntWalk.i64_in _ (by omega)]
            have HST := hst
            have hlt5 := hst.out.olt
            have HO' := HO
            go_wp2_with fail
            refine wp_region_calm (by kernel_rfl) (by kernel_rfl) ?_
            intro T5 hT5 f hf hg
            have a0 : ∀ d, (f d).cell? ⟨O, 0, none⟩ = some (.slice (some ⟨gv, 0, none⟩) us.length cv) := fun d => ((hf d).cell (p := ⟨O, 0, none⟩) hlt5).trans o0
            have a1 : ∀ d, (f d).cell? ⟨w.heap.size + 1, 2, none⟩ = some (.int .i64 s.n) := fun d => ((hf d).cell (p := ⟨w.heap.size + 1, 2, none⟩) (by have := HO.out; show w.heap.size + 1 < _; omega)).trans s2
            have a2 : ∀ d, (f d).cell? ⟨gv, kk, none⟩ = some (.slice Ak pk.length ck) := fun d => ((hf d).cell (p := ⟨gv, kk, none⟩) hgl).trans hcell
            have HF5 := Lib.hid hf
            have HG5 := Lib.hid hg
            clear hf hg
            repeat (go_big_quiet_step (first
              | (go_at_call 18; refine (around_any s.n ((pk.length : Int) + 1) _ HI3.out (by omega) (by omega)).mono ?_; rintro e w6 ⟨rfl, rfl⟩; exact ⟨rfl, HG5.out _ _ (Below.refl _ _)⟩)))
            refine wpQuiet_nil ?_
            rintro _ ⟨nq, rfl⟩
            have Hd := Lib.hid (HF5.out nq)
            clear HF5 HG5 a0 a1 a2
            generalize f nq = wd at *
            obtain ⟨nn, hnn, hnl⟩ : ∃ nn : Nat, aro s.n ((pk.length : Int) + 1) = nn ∧ nn ≤ pk.length := by
              have := aro_lt s.n ((pk.length : Int) + 1) (by omega)
              exact ⟨(aro s.n ((pk.length : Int) + 1)).toNat, by omega, by omega⟩
            rw [hnn]
            have hn0 : (0 : Int) ≤ (nn : Int) := by omega
            have hnI : (nn : Int) ≤ (pk.length : Int) := by omega
            have hst6 := Lib.hid (hst.out.below Hd.out)
            have hglw : gv < wd.heap.size := Nat.lt_of_lt_of_le hgl Hd.out.size
            have hcell6 : wd.cell? ⟨gv, kk, none⟩ = some (.slice Ak pk.length ck) := (Hd.out.cell (p := ⟨gv, kk, none⟩) hgl).trans hcell
            have HROW6 := Lib.hid (HROW.out.below Hd.out)
            have hfz6 : ∀ o, wd.frozen? ⟨gv, o, none⟩ = false := fun o => by
              obtain ⟨g9, cap9, _, ev9, _, _, _, _, hfz9⟩ := hst6.out.n.at_ hkp
              obtain rfl : gv = g9 := by have := (Value.slice.inj ev9).1; injection this with this; injection this
              exact hfz9 o
            clear hnn hst HST o0 o1 s1 s2 hcell HROW hfz hwn HO' hlt5 t0 t1 hgl Hd HKK
            have o0 := hst6.out.o.c0
            have o1 := hst6.out.o.c1
            have s0 : wd.cell? ⟨w.heap.size + 1, 0, none⟩ = some (.int .i64 s.what) := cell_of_row wd _ 0 _ _ _ hst6.out.s
            have s2 : wd.cell? ⟨w.heap.size + 1, 2, none⟩ = some (.int .i64 s.n) := cell_of_row wd _ 2 _ _ _ hst6.out.s
            have s3 : wd.cell? ⟨w.heap.size + 1, 3, none⟩ = some (.string s.x.s) := cell_of_row wd _ 3 _ _ _ hst6.out.s
            have s4 : wd.cell? ⟨w.heap.size + 1, 4, none⟩ = some (.string s.x.key) := cell_of_row wd _ 4 _ _ _ hst6.out.s
            have s5 : wd.cell? ⟨w.heap.size + 1, 5, none⟩ = some (.int .i64 s.x.t) := cell_of_row wd _ 5 _ _ _ hst6.out.s
            have s6 : wd.cell? ⟨w.heap.size + 1, 6, none⟩ = some (.int .i64 s.x.n) := cell_of_row wd _ 6 _ _ _ hst6.out.s
            go_wp2_with fail
            refine (around_any s.what 8 _ HI1.out (by decide) (by decide)).mono ?_
            rintro e w6 ⟨rfl, rfl⟩
            obtain ⟨mm, hmm, hml⟩ : ∃ mm : Nat, aro s.what 8 = mm ∧ mm < 8 := by
              have := aro_lt s.what 8 (by decide)
              exact ⟨(aro s.what 8).toNat, by omega, by omega⟩
            rw [hmm]
            clear hmm s0
            by_cases hm2 : mm ≤ 2
            · go_upto_if 96 with fail
              go_cut [72, 96] from 97 to 99 (fun m v wx => m = .int .i64 mm ∧ v = .bool true ∧ wx = wd)
              case first =>
                rcases (by omega : mm = 0 ∨ mm = 1 ∨ mm = 2) with rfl | rfl | rfl
                all_goals go_wp2_with fail
                all_goals go_meet
                all_goals exact ⟨rfl, rfl, rfl⟩
              case rest =>
                obtain ⟨rfl, rfl, rfl⟩ := hcut
                clear hm2 hml
                have ol6 := hst6.out.olt
                have xl6 : w.heap.size + 1 < wc.heap.size := by have := HO.out; omega
                have hncI : (nn : Int) ≤ (ck : Int) := by omega
                have hneg : us[kk].v.ownBlock ≠ some gv := fun e => hst6.out.n.ne kk hu gv e rfl
                have HSLP : Hid (Sl wc (fun b => b < wc.heap.size) Ak ck pk) := by
                  obtain ⟨A7, c7, e7, hs7⟩ := HROW6.out.sl
                  rw [HEK.out] at e7
                  obtain ⟨rfl, rfl⟩ : Ak = A7 ∧ ck = c7 := by have := Value.slice.inj e7; exact ⟨this.1, this.2.2⟩
                  exact Lib.hid hs7
                have HTK := Lib.hid (HSLP.out.take nn hnl)
                have HDR := Lib.hid (HSLP.out.drop nn hnl)
                have HLT : Hid ((pk.take nn).length = nn) := Lib.hid (by rw [List.length_take]; omega)
                have HLD : Hid ((pk.drop nn).length = pk.length - nn) := Lib.hid (by rw [List.length_drop])
                have SKB : ∀ W, Below wc.heap.size wc W → (W.cell? ⟨O, 0, none⟩ = some (.slice (some ⟨gv, 0, none⟩) us.length cv) ∧ W.cell? ⟨gv, kk, none⟩ = some (Value.slice Ak pk.length ck) ∧ W.cell? ⟨w.heap.size + 1, 3, none⟩ = some (.string s.x.s) ∧ W.cell? ⟨w.heap.size + 1, 4, none⟩ = some (.string s.x.key) ∧ W.cell? ⟨w.heap.size + 1, 5, none⟩ = some (.int .i64 s.x.t) ∧ W.cell? ⟨w.heap.size + 1, 6, none⟩ = some (.int .i64 s.x.n)) := fun W hW => ⟨(hW.cell (p := ⟨O, 0, none⟩) ol6).trans o0, (hW.cell (p := ⟨gv, kk, none⟩) hglw).trans hcell6, (hW.cell (p := ⟨w.heap.size + 1, 3, none⟩) xl6).trans s3, (hW.cell (p := ⟨w.heap.size + 1, 4, none⟩) xl6).trans s4, (hW.cell (p := ⟨w.heap.size + 1, 5, none⟩) xl6).trans s5, (hW.cell (p := ⟨w.heap.size + 1, 6, none⟩) xl6).trans s6⟩
                go_wp2_with fail
                by_cases hcn : ck = nn
                · have hcn' : nn = ck := hcn.symm
                  subst hcn'
                  have HDR1 : Hid (Sl wc (fun b => b < wc.heap.size) Ak 0 (pk.drop nn)) := Lib.hid (by have := HDR.out; rwa [if_pos rfl, Nat.sub_self] at this)
                  have HLD0 : Hid ((pk.drop nn).length = 0) := Lib.hid (by have := HLD.out; omega)
                  clear hcn
                  refine wp_region_D (fun w' => w'.cell? ⟨O, 0, none⟩ = some (.slice (some ⟨gv, 0, none⟩) us.length cv) ∧ w'.cell? ⟨gv, kk, none⟩ = some (Value.slice Ak pk.length nn) ∧ w'.cell? ⟨w.heap.size + 1, 3, none⟩ = some (.string s.x.s) ∧ w'.cell? ⟨w.heap.size + 1, 4, none⟩ = some (.string s.x.key) ∧ w'.cell? ⟨w.heap.size + 1, 5, none⟩ = some (.int .i64 s.x.t) ∧ w'.cell? ⟨w.heap.size + 1, 6, none⟩ = some (.int .i64 s.x.n)) (fun i => decide (i < 24)) (by kernel_rfl) ?_
                  have hHeld := SKB _ (Below.refl wc.heap.size wc).drew
                  refine wpAnyD_take (i := 0) (oi := ⟨some 100, Op.fieldAddr 41 (Operand.tmp 5) 0, 0, _, _, _⟩) (v := ?_) rfl (by kernel_rfl) (by kernel_rfl) (by kernel_rfl) (by kernel_rfl) (fun _ _ _ h => h) (by rfl) ?hyhx0 hHeld ?hrhx0
                  case hyhx0 => (intro wS hSw; (try dsimp only at hSw); go_simp; (try with_reducible rfl))
                  all_goals try (simp only [Act.put, List.setIfInBounds_toArray, List.set_cons_zero, List.set_cons_succ])
                  refine wpAnyD_take (i := 1) (oi := ⟨some 101, Op.load 39 (Operand.tmp 100), 39, _, _, _⟩) (v := ?_) rfl (by kernel_rfl) (by kernel_rfl) (by kernel_rfl) (by kernel_rfl) (fun _ _ _ h => h) (by rfl) ?hyhx1 hHeld ?hrhx1
                  case hyhx1 => (intro wS hSw; (try dsimp only at hSw); go_simp; (try with_reducible rfl))
                  all_goals try (simp only [Act.put, List.setIfInBounds_toArray, List.set_cons_zero, List.set_cons_succ])
                  refine wpAnyD_take (i := 2) (oi := ⟨some 102, Op.move (Operand.tmp 8), 3, _, _, _⟩) (v := ?_) rfl (by kernel_rfl) (by kernel_rfl) (by kernel_rfl) (by kernel_rfl) (fun _ _ _ h => h) (by rfl) ?hyhx2 hHeld ?hrhx2
                  case hyhx2 => (intro wS hSw; (try dsimp only at hSw); go_simp; (try with_reducible rfl))
                  all_goals try (simp only [Act.put, List.setIfInBounds_toArray, List.set_cons_zero, List.set_cons_succ])
                  refine wpAnyD_take (i := 4) (oi := ⟨some 104, Op.fieldAddr 41 (Operand.tmp 5) 0, 0, _, _, _⟩) (v := ?_) rfl (by kernel_rfl) (by kernel_rfl) (by kernel_rfl) (by kernel_rfl) (fun _ _ _ h => h) (by rfl) ?hyhx4 hHeld ?hrhx4
                  case hyhx4 => (intro wS hSw; (try dsimp only at hSw); go_simp; (try with_reducible rfl))
                  all_goals try (simp only [Act.put, List.setIfInBounds_toArray, List.set_cons_zero, List.set_cons_succ])
                  refine wpAnyD_take (i := 5) (oi := ⟨some 105, Op.load 39 (Operand.tmp 104), 39, _, _, _⟩) (v := ?_) rfl (by kernel_rfl) (by kernel_rfl) (by kernel_rfl) (by kernel_rfl) (fun _ _ _ h => h) (by rfl) ?hyhx5 hHeld ?hrhx5
                  case hyhx5 => (intro wS hSw; (try dsimp only at hSw); go_simp; (try with_reducible rfl))
                  all_goals try (simp only [Act.put, List.setIfInBounds_toArray, List.set_cons_zero, List.set_cons_succ])
                  refine wpAnyD_take (i := 6) (oi := ⟨some 106, Op.move (Operand.tmp 8), 3, _, _, _⟩) (v := ?_) rfl (by kernel_rfl) (by kernel_rfl) (by kernel_rfl) (by kernel_rfl) (fun _ _ _ h => h) (by rfl) ?hyhx6 hHeld ?hrhx6
                  case hyhx6 => (intro wS hSw; (try dsimp only at hSw); go_simp; (try with_reducible rfl))
                  all_goals try (simp only [Act.put, List.setIfInBounds_toArray, List.set_cons_zero, List.set_cons_succ])
                  refine wpAnyD_take (i := 7) (oi := ⟨some 107, Op.indexAddr 39 (Operand.tmp 105) (Operand.tmp 106), 0, _, _, _⟩) (v := ?_) rfl (by kernel_rfl) (by kernel_rfl) (by kernel_rfl) (by kernel_rfl) (fun _ _ _ h => h) (by rfl) ?hyhx7 hHeld ?hrhx7
                  case hyhx7 => (intro wS hSw; (try dsimp only at hSw); go_simp; (try with_reducible rfl))
                  all_goals try (simp only [Act.put, List.setIfInBounds_toArray, List.set_cons_zero, List.set_cons_succ])
                  refine wpAnyD_take (i := 8) (oi := ⟨some 108, Op.load 61 (Operand.tmp 107), 61, _, _, _⟩) (v := ?_) rfl (by kernel_rfl) (by kernel_rfl) (by kernel_rfl) (by kernel_rfl) (fun _ _ _ h => h) (by rfl) ?hyhx8 hHeld ?hrhx8
                  case hyhx8 => (intro wS hSw; (try dsimp only at hSw); go_simp; (try with_reducible rfl))
                  all_goals try (simp only [Act.put, List.setIfInBounds_toArray, List.set_cons_zero, List.set_cons_succ])
                  refine wpAnyD_take (i := 9) (oi := ⟨some 109, Op.move (Operand.tmp 9), 3, _, _, _⟩) (v := ?_) rfl (by kernel_rfl) (by kernel_rfl) (by kernel_rfl) (by kernel_rfl) (fun _ _ _ h => h) (by rfl) ?hyhx9 hHeld ?hrhx9
                  case hyhx9 => (intro wS hSw; (try dsimp only at hSw); go_simp; (try with_reducible rfl))
                  all_goals try (simp only [Act.put, List.setIfInBounds_toArray, List.set_cons_zero, List.set_cons_succ])
                  refine wpAnyD_take (i := 10) (oi := ⟨some 110, Op.slice 61 (Operand.tmp 108) none (some (Operand.tmp 109)) none, 61, _, _, _⟩) (v := ?_) rfl (by kernel_rfl) (by kernel_rfl) (by kernel_rfl) (by kernel_rfl) (fun _ _ _ h => h) (by rfl) ?hyhx10 hHeld ?hrhx10
                  case hyhx10 => (intro wS hSw; (try dsimp only at hSw); go_simp; (try with_reducible rfl))
                  all_goals try (simp only [Act.put, List.setIfInBounds_toArray, List.set_cons_zero, List.set_cons_succ])
                  refine wpAnyD_take (i := 12) (oi := ⟨some 112, Op.fieldAddr 38 (Operand.tmp 3) 3, 0, _, _, _⟩) (v := ?_) rfl (by kernel_rfl) (by kernel_rfl) (by kernel_rfl) (by kernel_rfl) (fun _ _ _ h => h) (by rfl) ?hyhx12 hHeld ?hrhx12
                  case hyhx12 => (intro wS hSw; (try dsimp only at hSw); go_simp; (try with_reducible rfl))
                  all_goals try (simp only [Act.put, List.setIfInBounds_toArray, List.set_cons_zero, List.set_cons_succ])
                  refine wpAnyD_take (i := 13) (oi := ⟨some 113, Op.load 36 (Operand.tmp 112), 36, _, _, _⟩) (v := ?_) rfl (by kernel_rfl) (by kernel_rfl) (by kernel_rfl) (by kernel_rfl) (fun _ _ _ h => h) (by rfl) ?hyhx13 hHeld ?hrhx13
                  case hyhx13 => (intro wS hSw; (try dsimp only at hSw); go_simp; (try with_reducible rfl))
                  all_goals try (simp only [Act.put, List.setIfInBounds_toArray, List.set_cons_zero, List.set_cons_succ])
                  refine wpAnyD_take (i := 16) (oi := ⟨some 116, Op.fieldAddr 41 (Operand.tmp 5) 0, 0, _, _, _⟩) (v := ?_) rfl (by kernel_rfl) (by kernel_rfl) (by kernel_rfl) (by kernel_rfl) (fun _ _ _ h => h) (by rfl) ?hyhx16 hHeld ?hrhx16
                  case hyhx16 => (intro wS hSw; (try dsimp only at hSw); go_simp; (try with_reducible rfl))
                  all_goals try (simp only [Act.put, List.setIfInBounds_toArray, List.set_cons_zero, List.set_cons_succ])
                  refine wpAnyD_take (i := 17) (oi := ⟨some 117, Op.load 39 (Operand.tmp 116), 39, _, _, _⟩) (v := ?_) rfl (by kernel_rfl) (by kernel_rfl) (by kernel_rfl) (by kernel_rfl) (fun _ _ _ h => h) (by rfl) ?hyhx17 hHeld ?hrhx17
                  case hyhx17 => (intro wS hSw; (try dsimp only at hSw); go_simp; (try with_reducible rfl))
                  all_goals try (simp only [Act.put, List.setIfInBounds_toArray, List.set_cons_zero, List.set_cons_succ])
                  refine wpAnyD_take (i := 18) (oi := ⟨some 118, Op.move (Operand.tmp 8), 3, _, _, _⟩) (v := ?_) rfl (by kernel_rfl) (by kernel_rfl) (by kernel_rfl) (by kernel_rfl) (fun _ _ _ h => h) (by rfl) ?hyhx18 hHeld ?hrhx18
                  case hyhx18 => (intro wS hSw; (try dsimp only at hSw); go_simp; (try with_reducible rfl))
                  all_goals try (simp only [Act.put, List.setIfInBounds_toArray, List.set_cons_zero, List.set_cons_succ])
                  refine wpAnyD_take (i := 19) (oi := ⟨some 119, Op.indexAddr 39 (Operand.tmp 117) (Operand.tmp 118), 0, _, _, _⟩) (v := ?_) rfl (by kernel_rfl) (by kernel_rfl) (by kernel_rfl) (by kernel_rfl) (fun _ _ _ h => h) (by rfl) ?hyhx19 hHeld ?hrhx19
                  case hyhx19 => (intro wS hSw; (try dsimp only at hSw); go_simp; (try with_reducible rfl))
                  all_goals try (simp only [Act.put, List.setIfInBounds_toArray, List.set_cons_zero, List.set_cons_succ])
                  refine wpAnyD_take (i := 20) (oi := ⟨some 120, Op.load 61 (Operand.tmp 119), 61, _, _, _⟩) (v := ?_) rfl (by kernel_rfl) (by kernel_rfl) (by kernel_rfl) (by kernel_rfl) (fun _ _ _ h => h) (by rfl) ?hyhx20 hHeld ?hrhx20
                  case hyhx20 => (intro wS hSw; (try dsimp only at hSw); go_simp; (try with_reducible rfl))
                  all_goals try (simp only [Act.put, List.setIfInBounds_toArray, List.set_cons_zero, List.set_cons_succ])
                  refine wpAnyD_take (i := 21) (oi := ⟨some 121, Op.move (Operand.tmp 9), 3, _, _, _⟩) (v := ?_) rfl (by kernel_rfl) (by kernel_rfl) (by kernel_rfl) (by kernel_rfl) (fun _ _ _ h => h) (by rfl) ?hyhx21 hHeld ?hrhx21
                  case hyhx21 => (intro wS hSw; (try dsimp only at hSw); go_simp; (try with_reducible rfl))
                  all_goals try (simp only [Act.put, List.setIfInBounds_toArray, List.set_cons_zero, List.set_cons_succ])
                  refine wpAnyD_take (i := 22) (oi := ⟨some 122, Op.slice 61 (Operand.tmp 120) (some (Operand.tmp 121)) none none, 61, _, _, _⟩) (v := ?_) rfl (by kernel_rfl) (by kernel_rfl) (by kernel_rfl) (by kernel_rfl) (fun _ _ _ h => h) (by rfl) ?hyhx22 hHeld ?hrhx22
                  case hyhx22 => (intro wS hSw; (try dsimp only at hSw); go_simp; (try with_reducible rfl))
                  all_goals try (simp only [Act.put, List.setIfInBounds_toArray, List.set_cons_zero, List.set_cons_succ])
                  refine wpAnyD_two (i := 3) (j := 14) (oi := ⟨some 103, Op.buildSlice 61 0 #[], 61, _, _, _⟩) (oj := ⟨some 114, Op.buildSlice 61 1 #[(0, Operand.tmp 113)], 61, _, _, _⟩) (by kernel_rfl) rfl rfl (by rfl) (by rfl) (fun K hK => ?_) (fun K hK => ?_)
                  · go_simp
                    refine hK _ _ (fun _ => ?_) ?_
                    · exact SKB _ ((Below.refl wc.heap.size wc).alloc (Nat.le_refl _) (.cells #[] 36)).drew
                    clear hHeld
                    have hHeld := SKB _ ((Below.refl wc.heap.size wc).alloc (Nat.le_refl _) (.cells #[] 36)).drew
                    clear hK K
                    try simp only [Act.put, List.setIfInBounds_toArray, List.set_cons_zero, List.set_cons_succ]
                    refine wpAnyD_two (i := 11) (j := 14) (oi := ⟨some 111, Op.call { callee := Callee.builtin Builtin.append, args := #[Operand.tmp 103, Operand.tmp 110], argTypes := #[61, 61] }, 61, _, _, _⟩) (oj := ⟨some 114, Op.buildSlice 61 1 #[(0, Operand.tmp 113)], 61, _, _, _⟩) (by kernel_rfl) rfl rfl (by rfl) (by rfl) (fun K hK => ?_) (fun K hK => ?_)
                    · refine wp_cat (α := Word) _ (.tmp 103) (.tmp 110) 61 rfl wc.heap.size 36 (.agg #[.string ⟨#[]⟩, .string ⟨#[]⟩, .int .i64 0, .int .i64 0]) 48 Tryd.underlying61 word_info rfl (by decide) (.slice (some ⟨wc.heap.size, 0, none⟩) 0 0) [] rfl ((Own.made wc wc.heap.size _ (Nat.le_refl _)).drew) Ak nn nn (pk.take nn) rfl HLT.out (fun b => b < wc.heap.size) (HTK.out.keep (Kept.all (((Below.refl wc.heap.size wc).alloc (Nat.le_refl _) (.cells #[] 36)).drew)) (((Below.refl wc.heap.size wc).alloc (Nat.le_refl _) (.cells #[] 36)).drew).size) (by intro i (hi : i < wc.heap.size) _ e; simp [Value.ownBlock] at e; omega) (by first | omega | (simp; omega)) (by first | omega | (simp; omega)) (((Below.refl wc.heap.size wc).alloc (Nat.le_refl _) (.cells #[] 36)).drew).size ?_
                      intro v5 w5 hown5' hg5 hat5
                      obtain ⟨l5, hl5⟩ : ∃ l5, l5 = pk.take nn := ⟨_, rfl⟩
                      have hown5 : Own w5 wc.heap.size 36 v5 l5 := by rw [hl5]; exact hown5'
                      have HL5 : Hid (l5.length = nn) := Lib.hid (by rw [hl5]; exact HLT.out)
                      clear hl5 hown5'
                      have hb5 : Below wc.heap.size wc w5 := (((Below.refl wc.heap.size wc).alloc (Nat.le_refl _) (.cells #[] 36)).drew).grown hg5 (((Below.refl wc.heap.size wc).alloc (Nat.le_refl _) (.cells #[] 36)).drew).size (fun g hg => by simp [Value.ownBlock] at hg; omega)
                      obtain ⟨A5, c5, rfl, _⟩ := hown5.form
                      refine hK _ _ (fun _ => ?_) ?_
                      · exact SKB _ hb5
                      clear hHeld
                      have hHeld := SKB _ hb5
                      clear hK K
                      try simp only [Act.put, List.setIfInBounds_toArray, List.set_cons_zero, List.set_cons_succ]
                      refine wpAnyD_one (i := 14) (oi := ⟨some 114, Op.buildSlice 61 1 #[(0, Operand.tmp 113)], 61, _, _, _⟩) rfl (by kernel_rfl) (by rfl) (fun K hK => ?_)
                      have hxz := heap_alloc_new w5 (.cells #[.string s.x.s, .string s.x.key, .int .i64 s.x.t, .int .i64 s.x.n] 36)
                      have hownz := hown5.alloc (.cells #[.string s.x.s, .string s.x.key, .int .i64 s.x.t, .int .i64 s.x.n] 36)
                      have hbz := hb5.alloc hb5.size (.cells #[.string s.x.s, .string s.x.key, .int .i64 s.x.t, .int .i64 s.x.n] 36)
                      go_simp
                      refine hK _ _ (fun _ => ?_) ?_
                      · exact SKB _ hbz
                      clear hHeld
                      have hHeld := SKB _ hbz
                      clear hK K
                      try simp only [Act.put, List.setIfInBounds_toArray, List.set_cons_zero, List.set_cons_succ]
                      refine wpAnyD_one (i := 15) (oi := ⟨some 115, Op.call { callee := Callee.builtin Builtin.append, args := #[Operand.tmp 111, Operand.tmp 114], argTypes := #[61, 61] }, 61, _, _, _⟩) rfl (by kernel_rfl) (by rfl) (fun K hK => ?_)
                      refine wp_push (α := Word) _ (.tmp 111) (.tmp 114) 61 rfl wc.heap.size 36 (.agg #[.string ⟨#[]⟩, .string ⟨#[]⟩, .int .i64 0, .int .i64 0]) 48 Tryd.underlying61 word_info rfl (by decide) (.slice A5 l5.length c5) l5 rfl hownz w5.heap.size _ s.x (0, 0) 36 rfl hxz ⟨rfl, HX.out⟩ (by have := HL5.out; omega) (by have := HL5.out; omega) hbz.size _ rfl ?_
                      intro g6 cap6 w6 hown6 hg6 hat6 hlt6
                      have hb6 : Below wc.heap.size wc w6 := hbz.grown hg6 hbz.size (fun g hg => (hownz.lt g hg).1)
                      refine hK _ _ (fun _ => ?_) ?_
                      · exact SKB _ hb6
                      clear hHeld
                      have hHeld := SKB _ hb6
                      clear hK K
                      try simp only [Act.put, List.setIfInBounds_toArray, List.set_cons_zero, List.set_cons_succ]
                      refine wpAnyD_one (i := 23) (oi := ⟨some 123, Op.call { callee := Callee.builtin Builtin.append, args := #[Operand.tmp 115, Operand.tmp 122], argTypes := #[61, 61] }, 61, _, _, _⟩) rfl (by kernel_rfl) (by rfl) (fun K hK => ?_)
                      refine wp_cat (α := Word) _ (.tmp 115) (.tmp 122) 61 rfl wc.heap.size 36 (.agg #[.string ⟨#[]⟩, .string ⟨#[]⟩, .int .i64 0, .int .i64 0]) 48 Tryd.underlying61 word_info rfl (by decide) (.slice (some ⟨g6, 0, none⟩) (l5.length + 1) cap6) (l5 ++ [s.x]) rfl hown6 _ 0 0 (pk.drop nn) rfl HLD0.out (fun b => b < wc.heap.size) (HDR1.out.keep (Kept.all hb6) hb6.size) (by intro i (hi : i < wc.heap.size) _ e; have := (hown6.lt i e.symm).1; omega) (by rw [List.length_append]; have := HL5.out; simp; omega) (by rw [List.length_append]; have := HL5.out; simp; omega) hb6.size ?_
                      intro v7 w7 hown7 hg7 hat7
                      obtain ⟨l7, hl7⟩ : ∃ l7, l7 = (l5 ++ [s.x] ++ pk.drop nn) := ⟨_, rfl⟩
                      rw [← hl7] at hown7
                      have HL7 := Lib.hid hl7
                      clear hl7
                      have hb7 : Below wc.heap.size wc w7 := hb6.grown hg7 hb6.size (fun g hg => (hown6.lt g hg).1)
                      obtain ⟨A7, c7, rfl, _⟩ := hown7.form
                      have f7 : ∀ o, w7.frozen? ⟨gv, o, none⟩ = false := fun o => (frozen_of (hb7.block gv hglw) o).trans (hfz6 o)
                      have c77 := (SKB _ hb7).2.1
                      refine hK _ _ (fun _ => ?_) ?_
                      · exact SKB _ hb7
                      clear hHeld
                      have hHeld := SKB _ hb7
                      clear hK K
                      try simp only [Act.put, List.setIfInBounds_toArray, List.set_cons_zero, List.set_cons_succ]
                      refine wpAnyD_one (i := 24) (oi := ⟨some 124, Op.indexAddr 39 (Operand.tmp 101) (Operand.tmp 102), 0, _, _, _⟩) rfl (by kernel_rfl) (by rfl) (fun K hK => ?_)
                      go_simp
                      refine hK _ _ (fun h => absurd h (by decide)) ?_
                      clear hK K
                      try simp only [Act.put, List.setIfInBounds_toArray, List.set_cons_zero, List.set_cons_succ]
                      refine wpAnyD_one (i := 25) (oi := ⟨none, Op.store 61 (Operand.tmp 124) (Operand.tmp 123), 0, _, _, _⟩) rfl (by kernel_rfl) (by rfl) (fun K hK => ?_)
                      go_simp
                      refine hK _ _ (fun h => absurd h (by decide)) ?_
                      clear hK K
                      try simp only [Act.put, List.setIfInBounds_toArray, List.set_cons_zero, List.set_cons_succ]
                      refine wpAnyD_done (by kernel_rfl) ?_ _
                      have hst8 := hst6.out.setRow kk hu rfl (u := ⟨.slice A7 l7.length c7, rfl⟩) (p := l7) (hst6.out.b.trans (hb7.mono hst6.out.b.size)) hb7.size (fun b hb _ => hb7.block b hb) (hown7.re (Nat.zero_le _)) (fun g e => .inr (hown7.lt g e).1)
                      have HL8 : Hid (l7.length ≤ 600) := Lib.hid (by rw [HL7.out, List.length_append, List.length_append]; have := HL5.out; have := HLD.out; simp; omega)
                      clear s2 s3 s4 s5 s6 o0 o1 hcell6 hfz6 hglw hn0 hnI hHeld SKB hncI hneg f7 c77 hg7 hat7 hg6 hat6 hlt6 hxz
                      go_upto_region 31 with fail
                      have hF := hst8.fin (by rw [List.length_set]; have := HLU.out; omega) (by have := HLN.out; omega) (fun p hp => (List.mem_or_eq_of_mem_set hp).elim (fun hp => by have := HP6.out p hp; omega) (fun e => by rw [e]; exact HL8.out)) (fun p hp => by have := HQ6.out p hp; omega)
                      generalize w7.setCell ⟨gv, kk, none⟩ (.slice A7 l7.length c7) = wz at *
                      have r0 := hF.r.c0
                      have r1 := hF.r.c1
                      have rf := hF.r.fz
                      have q0 := hF.o.c0
                      have q1 := hF.o.c1
                      obtain ⟨A9, c9, B9, d9, e9, f9, htx9, hb9⟩ := hF.done
                      have HE9 := Lib.hid e9
                      have HF9 := Lib.hid f9
                      have HT9 := Lib.hid htx9
                      have HB9 := Lib.hid hb9
                      clear e9 f9 htx9 hb9 hF
                      go_wp2_with fail
                      refine bodyPost_ret (v := .agg #[.slice (some ⟨gv, 0, none⟩) us.length cv, .slice An un.length cn]) (by simp [results, Tryd.results24, go_sem, r0, r1]) rfl ⟨A9, c9, B9, d9, _, _, by rw [HE9.out, HF9.out], HT9.out, HB9.out⟩
                    · go_simp
                      refine hK _ _ (fun _ => ?_) ?_
                      · exact SKB _ (((Below.refl wc.heap.size wc).alloc (Nat.le_refl _) (.cells #[] 36)).alloc (by simp) (.cells #[.string s.x.s, .string s.x.key, .int .i64 s.x.t, .int .i64 s.x.n] 36)).drew
                      clear hHeld
                      have hHeld := SKB _ (((Below.refl wc.heap.size wc).alloc (Nat.le_refl _) (.cells #[] 36)).alloc (by simp) (.cells #[.string s.x.s, .string s.x.key, .int .i64 s.x.t, .int .i64 s.x.n] 36)).drew
                      clear hK K
                      try simp only [Act.put, List.setIfInBounds_toArray, List.set_cons_zero, List.set_cons_succ]
                      refine wpAnyD_one (i := 11) (oi := ⟨some 111, Op.call { callee := Callee.builtin Builtin.append, args := #[Operand.tmp 103, Operand.tmp 110], argTypes := #[61, 61] }, 61, _, _, _⟩) rfl (by kernel_rfl) (by rfl) (fun K hK => ?_)
                      refine wp_cat (α := Word) _ (.tmp 103) (.tmp 110) 61 rfl wc.heap.size 36 (.agg #[.string ⟨#[]⟩, .string ⟨#[]⟩, .int .i64 0, .int .i64 0]) 48 Tryd.underlying61 word_info rfl (by decide) (.slice (some ⟨wc.heap.size, 0, none⟩) 0 0) [] rfl (((Own.made wc wc.heap.size _ (Nat.le_refl _)).alloc (.cells #[.string s.x.s, .string s.x.key, .int .i64 s.x.t, .int .i64 s.x.n] 36)).drew) Ak nn nn (pk.take nn) rfl HLT.out (fun b => b < wc.heap.size) (HTK.out.keep (Kept.all ((((Below.refl wc.heap.size wc).alloc (Nat.le_refl _) (.cells #[] 36)).alloc (by simp) (.cells #[.string s.x.s, .string s.x.key, .int .i64 s.x.t, .int .i64 s.x.n] 36)).drew)) ((((Below.refl wc.heap.size wc).alloc (Nat.le_refl _) (.cells #[] 36)).alloc (by simp) (.cells #[.string s.x.s, .string s.x.key, .int .i64 s.x.t, .int .i64 s.x.n] 36)).drew).size) (by intro i (hi : i < wc.heap.size) _ e; simp [Value.ownBlock] at e; omega) (by first | omega | (simp; omega)) (by first | omega | (simp; omega)) ((((Below.refl wc.heap.size wc).alloc (Nat.le_refl _) (.cells #[] 36)).alloc (by simp) (.cells #[.string s.x.s, .string s.x.key, .int .i64 s.x.t, .int .i64 s.x.n] 36)).drew).size ?_
                      intro v5 w5 hown5' hg5 hat5
                      obtain ⟨l5, hl5⟩ : ∃ l5, l5 = pk.take nn := ⟨_, rfl⟩
                      have hown5 : Own w5 wc.heap.size 36 v5 l5 := by rw [hl5]; exact hown5'
                      have HL5 : Hid (l5.length = nn) := Lib.hid (by rw [hl5]; exact HLT.out)
                      clear hl5 hown5'
                      have hb5 : Below wc.heap.size wc w5 := ((((Below.refl wc.heap.size wc).alloc (Nat.le_refl _) (.cells #[] 36)).alloc (by simp) (.cells #[.string s.x.s, .string s.x.key, .int .i64 s.x.t, .int .i64 s.x.n] 36)).drew).grown hg5 ((((Below.refl wc.heap.size wc).alloc (Nat.le_refl _) (.cells #[] 36)).alloc (by simp) (.cells #[.string s.x.s, .string s.x.key, .int .i64 s.x.t, .int .i64 s.x.n] 36)).drew).size (fun g hg => by simp [Value.ownBlock] at hg; omega)
                      obtain ⟨A5, c5, rfl, _⟩ := hown5.form
                      have hxz : w5.heap[wc.heap.size + 1]? = some (.cells #[.string s.x.s, .string s.x.key, .int .i64 s.x.t, .int .i64 s.x.n] 36) := (hg5.block (wc.heap.size + 1) (by simp) (by simp [Value.ownBlock])).trans (heap_at (by simp))
                      have hownz := hown5
                      have hbz := hb5
                      refine hK _ _ (fun _ => ?_) ?_
                      · exact SKB _ hb5
                      clear hHeld
                      have hHeld := SKB _ hb5
                      clear hK K
                      try simp only [Act.put, List.setIfInBounds_toArray, List.set_cons_zero, List.set_cons_succ]
                      refine wpAnyD_one (i := 15) (oi := ⟨some 115, Op.call { callee := Callee.builtin Builtin.append, args := #[Operand.tmp 111, Operand.tmp 114], argTypes := #[61, 61] }, 61, _, _, _⟩) rfl (by kernel_rfl) (by rfl) (fun K hK => ?_)
                      refine wp_push (α := Word) _ (.tmp 111) (.tmp 114) 61 rfl wc.heap.size 36 (.agg #[.string ⟨#[]⟩, .string ⟨#[]⟩, .int .i64 0, .int .i64 0]) 48 Tryd.underlying61 word_info rfl (by decide) (.slice A5 l5.length c5) l5 rfl hownz (wc.heap.size + 1) _ s.x (0, 0) 36 rfl hxz ⟨rfl, HX.out⟩ (by have := HL5.out; omega) (by have := HL5.out; omega) hbz.size _ rfl ?_
                      intro g6 cap6 w6 hown6 hg6 hat6 hlt6
                      have hb6 : Below wc.heap.size wc w6 := hbz.grown hg6 hbz.size (fun g hg => (hownz.lt g hg).1)
                      refine hK _ _ (fun _ => ?_) ?_
                      · exact SKB _ hb6
                      clear hHeld
                      have hHeld := SKB _ hb6
                      clear hK K
                      try simp only [Act.put, List.setIfInBounds_toArray, List.set_cons_zero, List.set_cons_succ]
                      refine wpAnyD_one (i := 23) (oi := ⟨some 123, Op.call { callee := Callee.builtin Builtin.append, args := #[Operand.tmp 115, Operand.tmp 122], argTypes := #[61, 61] }, 61, _, _, _⟩) rfl (by kernel_rfl) (by rfl) (fun K hK => ?_)
                      refine wp_cat (α := Word) _ (.tmp 115) (.tmp 122) 61 rfl wc.heap.size 36 (.agg #[.string ⟨#[]⟩, .string ⟨#[]⟩, .int .i64 0, .int .i64 0]) 48 Tryd.underlying61 word_info rfl (by decide) (.slice (some ⟨g6, 0, none⟩) (l5.length + 1) cap6) (l5 ++ [s.x]) rfl hown6 _ 0 0 (pk.drop nn) rfl HLD0.out (fun b => b < wc.heap.size) (HDR1.out.keep (Kept.all hb6) hb6.size) (by intro i (hi : i < wc.heap.size) _ e; have := (hown6.lt i e.symm).1; omega) (by rw [List.length_append]; have := HL5.out; simp; omega) (by rw [List.length_append]; have := HL5.out; simp; omega) hb6.size ?_
                      intro v7 w7 hown7 hg7 hat7
                      obtain ⟨l7, hl7⟩ : ∃ l7, l7 = (l5 ++ [s.x] ++ pk.drop nn) := ⟨_, rfl⟩
                      rw [← hl7] at hown7
                      have HL7 := Lib.hid hl7
                      clear hl7
                      have hb7 : Below wc.heap.size wc w7 := hb6.grown hg7 hb6.size (fun g hg => (hown6.lt g hg).1)
                      obtain ⟨A7, c7, rfl, _⟩ := hown7.form
                      have f7 : ∀ o, w7.frozen? ⟨gv, o, none⟩ = false := fun o => (frozen_of (hb7.block gv hglw) o).trans (hfz6 o)
                      have c77 := (SKB _ hb7).2.1
                      refine hK _ _ (fun _ => ?_) ?_
                      · exact SKB _ hb7
                      clear hHeld
                      have hHeld := SKB _ hb7
                      clear hK K
                      try simp only [Act.put, List.setIfInBounds_toArray, List.set_cons_zero, List.set_cons_succ]
                      refine wpAnyD_one (i := 24) (oi := ⟨some 124, Op.indexAddr 39 (Operand.tmp 101) (Operand.tmp 102), 0, _, _, _⟩) rfl (by kernel_rfl) (by rfl) (fun K hK => ?_)
                      go_simp
                      refine hK _ _ (fun h => absurd h (by decide)) ?_
                      clear hK K
                      try simp only [Act.put, List.setIfInBounds_toArray, List.set_cons_zero, List.set_cons_succ]
                      refine wpAnyD_one (i := 25) (oi := ⟨none, Op.store 61 (Operand.tmp 124) (Operand.tmp 123), 0, _, _, _⟩) rfl (by kernel_rfl) (by rfl) (fun K hK => ?_)
                      go_simp
                      refine hK _ _ (fun h => absurd h (by decide)) ?_
                      clear hK K
                      try simp only [Act.put, List.setIfInBounds_toArray, List.set_cons_zero, List.set_cons_succ]
                      refine wpAnyD_done (by kernel_rfl) ?_ _
                      have hst8 := hst6.out.setRow kk hu rfl (u := ⟨.slice A7 l7.length c7, rfl⟩) (p := l7) (hst6.out.b.trans (hb7.mono hst6.out.b.size)) hb7.size (fun b hb _ => hb7.block b hb) (hown7.re (Nat.zero_le _)) (fun g e => .inr (hown7.lt g e).1)
                      have HL8 : Hid (l7.length ≤ 600) := Lib.hid (by rw [HL7.out, List.length_append, List.length_append]; have := HL5.out; have := HLD.out; simp; omega)
                      clear s2 s3 s4 s5 s6 o0 o1 hcell6 hfz6 hglw hn0 hnI hHeld SKB hncI hneg f7 c77 hg7 hat7 hg6 hat6 hlt6 hxz
                      go_upto_region 31 with fail
                      have hF := hst8.fin (by rw [List.length_set]; have := HLU.out; omega) (by have := HLN.out; omega) (fun p hp => (List.mem_or_eq_of_mem_set hp).elim (fun hp => by have := HP6.out p hp; omega) (fun e => by rw [e]; exact HL8.out)) (fun p hp => by have := HQ6.out p hp; omega)
                      generalize w7.setCell ⟨gv, kk, none⟩ (.slice A7 l7.length c7) = wz at *
                      have r0 := hF.r.c0
                      have r1 := hF.r.c1
                      have rf := hF.r.fz
                      have q0 := hF.o.c0
                      have q1 := hF.o.c1
                      obtain ⟨A9, c9, B9, d9, e9, f9, htx9, hb9⟩ := hF.done
                      have HE9 := Lib.hid e9
                      have HF9 := Lib.hid f9
                      have HT9 := Lib.hid htx9
                      have HB9 := Lib.hid hb9
                      clear e9 f9 htx9 hb9 hF
                      go_wp2_with fail
                      refine bodyPost_ret (v := .agg #[.slice (some ⟨gv, 0, none⟩) us.length cv, .slice An un.length cn]) (by simp [results, Tryd.results24, go_sem, r0, r1]) rfl ⟨A9, c9, B9, d9, _, _, by rw [HE9.out, HF9.out], HT9.out, HB9.out⟩
                  · go_simp
                    refine hK _ _ (fun _ => ?_) ?_
                    · exact SKB _ ((Below.refl wc.heap.size wc).alloc (Nat.le_refl _) (.cells #[.string s.x.s, .string s.x.key, .int .i64 s.x.t, .int .i64 s.x.n] 36)).drew
                    clear hHeld
                    have hHeld := SKB _ ((Below.refl wc.heap.size wc).alloc (Nat.le_refl _) (.cells #[.string s.x.s, .string s.x.key, .int .i64 s.x.t, .int .i64 s.x.n] 36)).drew
                    clear hK K
                    try simp only [Act.put, List.setIfInBounds_toArray, List.set_cons_zero, List.set_cons_succ]
                    refine wpAnyD_one (i := 3) (oi := ⟨some 103, Op.buildSlice 61 0 #[], 61, _, _, _⟩) rfl (by kernel_rfl) (by rfl) (fun K hK => ?_)
                    go_simp
                    refine hK _ _ (fun _ => ?_) ?_
                    · exact SKB _ (((Below.refl wc.heap.size wc).alloc (Nat.le_refl _) (.cells #[.string s.x.s, .string s.x.key, .int .i64 s.x.t, .int .i64 s.x.n] 36)).alloc (by simp) (.cells #[] 36)).drew
                    clear hHeld
                    have hHeld := SKB _ (((Below.refl wc.heap.size wc).alloc (Nat.le_refl _) (.cells #[.string s.x.s, .string s.x.key, .int .i64 s.x.t, .int .i64 s.x.n] 36)).alloc (by simp) (.cells #[] 36)).drew
                    clear hK K
                    try simp only [Act.put, List.setIfInBounds_toArray, List.set_cons_zero, List.set_cons_succ]
                    refine wpAnyD_one (i := 11) (oi := ⟨some 111, Op.call { callee := Callee.builtin Builtin.append, args := #[Operand.tmp 103, Operand.tmp 110], argTypes := #[61, 61] }, 61, _, _, _⟩) rfl (by kernel_rfl) (by rfl) (fun K hK => ?_)
                    have hown4 := Own.made (α := Word) (wc.alloc (.cells #[.string s.x.s, .string s.x.key, .int .i64 s.x.t, .int .i64 s.x.n] 36)) wc.heap.size 36 (by simp)
                    rw [show (wc.alloc (.cells #[.string s.x.s, .string s.x.key, .int .i64 s.x.t, .int .i64 s.x.n] 36)).heap.size = wc.heap.size + 1 by simp] at hown4
                    refine wp_cat (α := Word) _ (.tmp 103) (.tmp 110) 61 rfl wc.heap.size 36 (.agg #[.string ⟨#[]⟩, .string ⟨#[]⟩, .int .i64 0, .int .i64 0]) 48 Tryd.underlying61 word_info rfl (by decide) (.slice (some ⟨(wc.heap.size + 1), 0, none⟩) 0 0) [] rfl (hown4.drew) Ak nn nn (pk.take nn) rfl HLT.out (fun b => b < wc.heap.size) (HTK.out.keep (Kept.all ((((Below.refl wc.heap.size wc).alloc (Nat.le_refl _) (.cells #[.string s.x.s, .string s.x.key, .int .i64 s.x.t, .int .i64 s.x.n] 36)).alloc (by simp) (.cells #[] 36)).drew)) ((((Below.refl wc.heap.size wc).alloc (Nat.le_refl _) (.cells #[.string s.x.s, .string s.x.key, .int .i64 s.x.t, .int .i64 s.x.n] 36)).alloc (by simp) (.cells #[] 36)).drew).size) (by intro i (hi : i < wc.heap.size) _ e; simp [Value.ownBlock] at e; omega) (by first | omega | (simp; omega)) (by first | omega | (simp; omega)) ((((Below.refl wc.heap.size wc).alloc (Nat.le_refl _) (.cells #[.string s.x.s, .string s.x.key, .int .i64 s.x.t, .int .i64 s.x.n] 36)).alloc (by simp) (.cells #[] 36)).drew).size ?_
                    intro v5 w5 hown5' hg5 hat5
                    obtain ⟨l5, hl5⟩ : ∃ l5, l5 = pk.take nn := ⟨_, rfl⟩
                    have hown5 : Own w5 wc.heap.size 36 v5 l5 := by rw [hl5]; exact hown5'
                    have HL5 : Hid (l5.length = nn) := Lib.hid (by rw [hl5]; exact HLT.out)
                    clear hl5 hown5'
                    have hb5 : Below wc.heap.size wc w5 := ((((Below.refl wc.heap.size wc).alloc (Nat.le_refl _) (.cells #[.string s.x.s, .string s.x.key, .int .i64 s.x.t, .int .i64 s.x.n] 36)).alloc (by simp) (.cells #[] 36)).drew).grown hg5 ((((Below.refl wc.heap.size wc).alloc (Nat.le_refl _) (.cells #[.string s.x.s, .string s.x.key, .int .i64 s.x.t, .int .i64 s.x.n] 36)).alloc (by simp) (.cells #[] 36)).drew).size (fun g hg => by simp [Value.ownBlock] at hg; omega)
                    obtain ⟨A5, c5, rfl, _⟩ := hown5.form
                    have hxz : w5.heap[wc.heap.size]? = some (.cells #[.string s.x.s, .string s.x.key, .int .i64 s.x.t, .int .i64 s.x.n] 36) := (hg5.block wc.heap.size (by simp; omega) (by simp [Value.ownBlock])).trans ((Below.heap_alloc _ (.cells #[] 36) wc.heap.size (by simp)).trans (heap_alloc_new wc (.cells #[.string s.x.s, .string s.x.key, .int .i64 s.x.t, .int .i64 s.x.n] 36)))
                    have hownz := hown5
                    have hbz := hb5
                    refine hK _ _ (fun _ => ?_) ?_
                    · exact SKB _ hb5
                    clear hHeld
                    have hHeld := SKB _ hb5
                    clear hK K
                    try simp only [Act.put, List.setIfInBounds_toArray, List.set_cons_zero, List.set_cons_succ]
                    refine wpAnyD_one (i := 15) (oi := ⟨some 115, Op.call { callee := Callee.builtin Builtin.append, args := #[Operand.tmp 111, Operand.tmp 114], argTypes := #[61, 61] }, 61, _, _, _⟩) rfl (by kernel_rfl) (by rfl) (fun K hK => ?_)
                    refine wp_push (α := Word) _ (.tmp 111) (.tmp 114) 61 rfl wc.heap.size 36 (.agg #[.string ⟨#[]⟩, .string ⟨#[]⟩, .int .i64 0, .int .i64 0]) 48 Tryd.underlying61 word_info rfl (by decide) (.slice A5 l5.length c5) l5 rfl hownz wc.heap.size _ s.x (0, 0) 36 rfl hxz ⟨rfl, HX.out⟩ (by have := HL5.out; omega) (by have := HL5.out; omega) hbz.size _ rfl ?_
                    intro g6 cap6 w6 hown6 hg6 hat6 hlt6
                    have hb6 : Below wc.heap.size wc w6 := hbz.grown hg6 hbz.size (fun g hg => (hownz.lt g hg).1)
                    refine hK _ _ (fun _ => ?_) ?_
                    · exact SKB _ hb6
                    clear hHeld
                    have hHeld := SKB _ hb6
                    clear hK K
                    try simp only [Act.put, List.setIfInBounds_toArray, List.set_cons_zero, List.set_cons_succ]
                    refine wpAnyD_one (i := 23) (oi := ⟨some 123, Op.call { callee := Callee.builtin Builtin.append, args := #[Operand.tmp 115, Operand.tmp 122], argTypes := #[61, 61] }, 61, _, _, _⟩) rfl (by kernel_rfl) (by rfl) (fun K hK => ?_)
                    refine wp_cat (α := Word) _ (.tmp 115) (.tmp 122) 61 rfl wc.heap.size 36 (.agg #[.string ⟨#[]⟩, .string ⟨#[]⟩, .int .i64 0, .int .i64 0]) 48 Tryd.underlying61 word_info rfl (by decide) (.slice (some ⟨g6, 0, none⟩) (l5.length + 1) cap6) (l5 ++ [s.x]) rfl hown6 _ 0 0 (pk.drop nn) rfl HLD0.out (fun b => b < wc.heap.size) (HDR1.out.keep (Kept.all hb6) hb6.size) (by intro i (hi : i < wc.heap.size) _ e; have := (hown6.lt i e.symm).1; omega) (by rw [List.length_append]; have := HL5.out; simp; omega) (by rw [List.length_append]; have := HL5.out; simp; omega) hb6.size ?_
                    intro v7 w7 hown7 hg7 hat7
                    obtain ⟨l7, hl7⟩ : ∃ l7, l7 = (l5 ++ [s.x] ++ pk.drop nn) := ⟨_, rfl⟩
                    rw [← hl7] at hown7
                    have HL7 := Lib.hid hl7
                    clear hl7
                    have hb7 : Below wc.heap.size wc w7 := hb6.grown hg7 hb6.size (fun g hg => (hown6.lt g hg).1)
                    obtain ⟨A7, c7, rfl, _⟩ := hown7.form
                    have f7 : ∀ o, w7.frozen? ⟨gv, o, none⟩ = false := fun o => (frozen_of (hb7.block gv hglw) o).trans (hfz6 o)
                    have c77 := (SKB _ hb7).2.1
                    refine hK _ _ (fun _ => ?_) ?_
                    · exact SKB _ hb7
                    clear hHeld
                    have hHeld := SKB _ hb7
                    clear hK K
                    try simp only [Act.put, List.setIfInBounds_toArray, List.set_cons_zero, List.set_cons_succ]
                    refine wpAnyD_one (i := 24) (oi := ⟨some 124, Op.indexAddr 39 (Operand.tmp 101) (Operand.tmp 102), 0, _, _, _⟩) rfl (by kernel_rfl) (by rfl) (fun K hK => ?_)
                    go_simp
                    refine hK _ _ (fun h => absurd h (by decide)) ?_
                    clear hK K
                    try simp only [Act.put, List.setIfInBounds_toArray, List.set_cons_zero, List.set_cons_succ]
                    refine wpAnyD_one (i := 25) (oi := ⟨none, Op.store 61 (Operand.tmp 124) (Operand.tmp 123), 0, _, _, _⟩) rfl (by kernel_rfl) (by rfl) (fun K hK => ?_)
                    go_simp
                    refine hK _ _ (fun h => absurd h (by decide)) ?_
                    clear hK K
                    try simp only [Act.put, List.setIfInBounds_toArray, List.set_cons_zero, List.set_cons_succ]
                    refine wpAnyD_done (by kernel_rfl) ?_ _
                    have hst8 := hst6.out.setRow kk hu rfl (u := ⟨.slice A7 l7.length c7, rfl⟩) (p := l7) (hst6.out.b.trans (hb7.mono hst6.out.b.size)) hb7.size (fun b hb _ => hb7.block b hb) (hown7.re (Nat.zero_le _)) (fun g e => .inr (hown7.lt g e).1)
                    have HL8 : Hid (l7.length ≤ 600) := Lib.hid (by rw [HL7.out, List.length_append, List.length_append]; have := HL5.out; have := HLD.out; simp; omega)
                    clear s2 s3 s4 s5 s6 o0 o1 hcell6 hfz6 hglw hn0 hnI hHeld SKB hncI hneg f7 c77 hg7 hat7 hg6 hat6 hlt6 hxz
                    go_upto_region 31 with fail
                    have hF := hst8.fin (by rw [List.length_set]; have := HLU.out; omega) (by have := HLN.out; omega) (fun p hp => (List.mem_or_eq_of_mem_set hp).elim (fun hp => by have := HP6.out p hp; omega) (fun e => by rw [e]; exact HL8.out)) (fun p hp => by have := HQ6.out p hp; omega)
                    generalize w7.setCell ⟨gv, kk, none⟩ (.slice A7 l7.length c7) = wz at *
                    have r0 := hF.r.c0
                    have r1 := hF.r.c1
                    have rf := hF.r.fz
                    have q0 := hF.o.c0
                    have q1 := hF.o.c1
                    obtain ⟨A9, c9, B9, d9, e9, f9, htx9, hb9⟩ := hF.done
                    have HE9 := Lib.hid e9
                    have HF9 := Lib.hid f9
                    have HT9 := Lib.hid htx9
                    have HB9 := Lib.hid hb9
                    clear e9 f9 htx9 hb9 hF
                    go_wp2_with fail
                    refine bodyPost_ret (v := .agg #[.slice (some ⟨gv, 0, none⟩) us.length cv, .slice An un.length cn]) (by simp [results, Tryd.results24, go_sem, r0, r1]) rfl ⟨A9, c9, B9, d9, _, _, by rw [HE9.out, HF9.out], HT9.out, HB9.out⟩
                · have hcn2 : (nn : Int) < (ck : Int) := by omega
                  obtain ⟨bk, rfl⟩ : ∃ bk, Ak = some ⟨bk, 0, none⟩ := by
                    obtain ⟨xs, hx, _⟩ := HROW6.out
                    rw [HEK.out] at hx
                    rcases hx.2 with ⟨e, _⟩ | ⟨g, cap, cur, e, _⟩
                    · have := (Value.slice.inj e).2.2; omega
                    · exact ⟨g, (Value.slice.inj e).1⟩
                  have HDR1 : Hid (Sl wc (fun b => b < wc.heap.size) (some ⟨bk, nn * 4, none⟩) (ck - nn) (pk.drop nn)) := Lib.hid (by have := HDR.out; rw [if_neg hcn] at this; simpa [addr_add, Rep.size] using this)
                  refine wp_region_D (fun w' => w'.cell? ⟨O, 0, none⟩ = some (.slice (some ⟨gv, 0, none⟩) us.length cv) ∧ w'.cell? ⟨gv, kk, none⟩ = some (Value.slice (some ⟨bk, 0, none⟩) pk.length ck) ∧ w'.cell? ⟨w.heap.size + 1, 3, none⟩ = some (.string s.x.s) ∧ w'.cell? ⟨w.heap.size + 1, 4, none⟩ = some (.string s.x.key) ∧ w'.cell? ⟨w.heap.size + 1, 5, none⟩ = some (.int .i64 s.x.t) ∧ w'.cell? ⟨w.heap.size + 1, 6, none⟩ = some (.int .i64 s.x.n)) (fun i => decide (i < 24)) (by kernel_rfl) ?_
                  have hHeld := SKB _ (Below.refl wc.heap.size wc).drew
                  refine wpAnyD_take (i := 0) (oi := ⟨some 100, Op.fieldAddr 41 (Operand.tmp 5) 0, 0, _, _, _⟩) (v := ?_) rfl (by kernel_rfl) (by kernel_rfl) (by kernel_rfl) (by kernel_rfl) (fun _ _ _ h => h) (by rfl) ?hyix0 hHeld ?hrix0
                  case hyix0 => (intro wS hSw; (try dsimp only at hSw); go_simp; (try with_reducible rfl))
                  all_goals try (simp only [Act.put, List.setIfInBounds_toArray, List.set_cons_zero, List.set_cons_succ])
                  refine wpAnyD_take (i := 1) (oi := ⟨some 101, Op.load 39 (Operand.tmp 100), 39, _, _, _⟩) (v := ?_) rfl (by kernel_rfl) (by kernel_rfl) (by kernel_rfl) (by kernel_rfl) (fun _ _ _ h => h) (by rfl) ?hyix1 hHeld ?hrix1
                  case hyix1 => (intro wS hSw; (try dsimp only at hSw); go_simp; (try with_reducible rfl))
                  all_goals try (simp only [Act.put, List.setIfInBounds_toArray, List.set_cons_zero, List.set_cons_succ])
                  refine wpAnyD_take (i := 2) (oi := ⟨some 102, Op.move (Operand.tmp 8), 3, _, _, _⟩) (v := ?_) rfl (by kernel_rfl) (by kernel_rfl) (by kernel_rfl) (by kernel_rfl) (fun _ _ _ h => h) (by rfl) ?hyix2 hHeld ?hrix2
                  case hyix2 => (intro wS hSw; (try dsimp only at hSw); go_simp; (try with_reducible rfl))
                  all_goals try (simp only [Act.put, List.setIfInBounds_toArray, List.set_cons_zero, List.set_cons_succ])
                  refine wpAnyD_take (i := 4) (oi := ⟨some 104, Op.fieldAddr 41 (Operand.tmp 5) 0, 0, _, _, _⟩) (v := ?_) rfl (by kernel_rfl) (by kernel_rfl) (by kernel_rfl) (by kernel_rfl) (fun _ _ _ h => h) (by rfl) ?hyix4 hHeld ?hrix4
                  case hyix4 => (intro wS hSw; (try dsimp only at hSw); go_simp; (try with_reducible rfl))
                  all_goals try (simp only [Act.put, List.setIfInBounds_toArray, List.set_cons_zero, List.set_cons_succ])
                  refine wpAnyD_take (i := 5) (oi := ⟨some 105, Op.load 39 (Operand.tmp 104), 39, _, _, _⟩) (v := ?_) rfl (by kernel_rfl) (by kernel_rfl) (by kernel_rfl) (by kernel_rfl) (fun _ _ _ h => h) (by rfl) ?hyix5 hHeld ?hrix5
                  case hyix5 => (intro wS hSw; (try dsimp only at hSw); go_simp; (try with_reducible rfl))
                  all_goals try (simp only [Act.put, List.setIfInBounds_toArray, List.set_cons_zero, List.set_cons_succ])
                  refine wpAnyD_take (i := 6) (oi := ⟨some 106, Op.move (Operand.tmp 8), 3, _, _, _⟩) (v := ?_) rfl (by kernel_rfl) (by kernel_rfl) (by kernel_rfl) (by kernel_rfl) (fun _ _ _ h => h) (by rfl) ?hyix6 hHeld ?hrix6
                  case hyix6 => (intro wS hSw; (try dsimp only at hSw); go_simp; (try with_reducible rfl))
                  all_goals try (simp only [Act.put, List.setIfInBounds_toArray, List.set_cons_zero, List.set_cons_succ])
                  refine wpAnyD_take (i := 7) (oi := ⟨some 107, Op.indexAddr 39 (Operand.tmp 105) (Operand.tmp 106), 0, _, _, _⟩) (v := ?_) rfl (by kernel_rfl) (by kernel_rfl) (by kernel_rfl) (by kernel_rfl) (fun _ _ _ h => h) (by rfl) ?hyix7 hHeld ?hrix7
                  case hyix7 => (intro wS hSw; (try dsimp only at hSw); go_simp; (try with_reducible rfl))
                  all_goals try (simp only [Act.put, List.setIfInBounds_toArray, List.set_cons_zero, List.set_cons_succ])
                  refine wpAnyD_take (i := 8) (oi := ⟨some 108, Op.load 61 (Operand.tmp 107), 61, _, _, _⟩) (v := ?_) rfl (by kernel_rfl) (by kernel_rfl) (by kernel_rfl) (by kernel_rfl) (fun _ _ _ h => h) (by rfl) ?hyix8 hHeld ?hrix8
                  case hyix8 => (intro wS hSw; (try dsimp only at hSw); go_simp; (try with_reducible rfl))
                  all_goals try (simp only [Act.put, List.setIfInBounds_toArray, List.set_cons_zero, List.set_cons_succ])
                  refine wpAnyD_take (i := 9) (oi := ⟨some 109, Op.move (Operand.tmp 9), 3, _, _, _⟩) (v := ?_) rfl (by kernel_rfl) (by kernel_rfl) (by kernel_rfl) (by kernel_rfl) (fun _ _ _ h => h) (by rfl) ?hyix9 hHeld ?hrix9
                  case hyix9 => (intro wS hSw; (try dsimp only at hSw); go_simp; (try with_reducible rfl))
                  all_goals try (simp only [Act.put, List.setIfInBounds_toArray, List.set_cons_zero, List.set_cons_succ])
                  refine wpAnyD_take (i := 10) (oi := ⟨some 110, Op.slice 61 (Operand.tmp 108) none (some (Operand.tmp 109)) none, 61, _, _, _⟩) (v := ?_) rfl (by kernel_rfl) (by kernel_rfl) (by kernel_rfl) (by kernel_rfl) (fun _ _ _ h => h) (by rfl) ?hyix10 hHeld ?hrix10
                  case hyix10 => (intro wS hSw; (try dsimp only at hSw); go_simp; (try with_reducible rfl))
                  all_goals try (simp only [Act.put, List.setIfInBounds_toArray, List.set_cons_zero, List.set_cons_succ])
                  refine wpAnyD_take (i := 12) (oi := ⟨some 112, Op.fieldAddr 38 (Operand.tmp 3) 3, 0, _, _, _⟩) (v := ?_) rfl (by kernel_rfl) (by kernel_rfl) (by kernel_rfl) (by kernel_rfl) (fun _ _ _ h => h) (by rfl) ?hyix12 hHeld ?hrix12
                  case hyix12 => (intro wS hSw; (try dsimp only at hSw); go_simp; (try with_reducible rfl))
                  all_goals try (simp only [Act.put, List.setIfInBounds_toArray, List.set_cons_zero, List.set_cons_succ])
                  refine wpAnyD_take (i := 13) (oi := ⟨some 113, Op.load 36 (Operand.tmp 112), 36, _, _, _⟩) (v := ?_) rfl (by kernel_rfl) (by kernel_rfl) (by kernel_rfl) (by kernel_rfl) (fun _ _ _ h => h) (by rfl) ?hyix13 hHeld ?hrix13
                  case hyix13 => (intro wS hSw; (try dsimp only at hSw); go_simp; (try with_reducible rfl))
                  all_goals try (simp only [Act.put, List.setIfInBounds_toArray, List.set_cons_zero, List.set_cons_succ])
                  refine wpAnyD_take (i := 16) (oi := ⟨some 116, Op.fieldAddr 41 (Operand.tmp 5) 0, 0, _, _, _⟩) (v := ?_) rfl (by kernel_rfl) (by kernel_rfl) (by kernel_rfl) (by kernel_rfl) (fun _ _ _ h => h) (by rfl) ?hyix16 hHeld ?hrix16
                  case hyix16 => (intro wS hSw; (try dsimp only at hSw); go_simp; (try with_reducible rfl))
                  all_goals try (simp only [Act.put, List.setIfInBounds_toArray, List.set_cons_zero, List.set_cons_succ])
                  refine wpAnyD_take (i := 17) (oi := ⟨some 117, Op.load 39 (Operand.tmp 116), 39, _, _, _⟩) (v := ?_) rfl (by kernel_rfl) (by kernel_rfl) (by kernel_rfl) (by kernel_rfl) (fun _ _ _ h => h) (by rfl) ?hyix17 hHeld ?hrix17
                  case hyix17 => (intro wS hSw; (try dsimp only at hSw); go_simp; (try with_reducible rfl))
                  all_goals try (simp only [Act.put, List.setIfInBounds_toArray, List.set_cons_zero, List.set_cons_succ])
                  refine wpAnyD_take (i := 18) (oi := ⟨some 118, Op.move (Operand.tmp 8), 3, _, _, _⟩) (v := ?_) rfl (by kernel_rfl) (by kernel_rfl) (by kernel_rfl) (by kernel_rfl) (fun _ _ _ h => h) (by rfl) ?hyix18 hHeld ?hrix18
                  case hyix18 => (intro wS hSw; (try dsimp only at hSw); go_simp; (try with_reducible rfl))
                  all_goals try (simp only [Act.put, List.setIfInBounds_toArray, List.set_cons_zero, List.set_cons_succ])
                  refine wpAnyD_take (i := 19) (oi := ⟨some 119, Op.indexAddr 39 (Operand.tmp 117) (Operand.tmp 118), 0, _, _, _⟩) (v := ?_) rfl (by kernel_rfl) (by kernel_rfl) (by kernel_rfl) (by kernel_rfl) (fun _ _ _ h => h) (by rfl) ?hyix19 hHeld ?hrix19
                  case hyix19 => (intro wS hSw; (try dsimp only at hSw); go_simp; (try with_reducible rfl))
                  all_goals try (simp only [Act.put, List.setIfInBounds_toArray, List.set_cons_zero, List.set_cons_succ])
                  refine wpAnyD_take (i := 20) (oi := ⟨some 120, Op.load 61 (Operand.tmp 119), 61, _, _, _⟩) (v := ?_) rfl (by kernel_rfl) (by kernel_rfl) (by kernel_rfl) (by kernel_rfl) (fun _ _ _ h => h) (by rfl) ?hyix20 hHeld ?hrix20
                  case hyix20 => (intro wS hSw; (try dsimp only at hSw); go_simp; (try with_reducible rfl))
                  all_goals try (simp only [Act.put, List.setIfInBounds_toArray, List.set_cons_zero, List.set_cons_succ])
                  refine wpAnyD_take (i := 21) (oi := ⟨some 121, Op.move (Operand.tmp 9), 3, _, _, _⟩) (v := ?_) rfl (by kernel_rfl) (by kernel_rfl) (by kernel_rfl) (by kernel_rfl) (fun _ _ _ h => h) (by rfl) ?hyix21 hHeld ?hrix21
                  case hyix21 => (intro wS hSw; (try dsimp only at hSw); go_simp; (try with_reducible rfl))
                  all_goals try (simp only [Act.put, List.setIfInBounds_toArray, List.set_cons_zero, List.set_cons_succ])
                  refine wpAnyD_take (i := 22) (oi := ⟨some 122, Op.slice 61 (Operand.tmp 120) (some (Operand.tmp 121)) none none, 61, _, _, _⟩) (v := ?_) rfl (by kernel_rfl) (by kernel_rfl) (by kernel_rfl) (by kernel_rfl) (fun _ _ _ h => h) (by rfl) ?hyix22 hHeld ?hrix22
                  case hyix22 => (intro wS hSw; (try dsimp only at hSw); go_simp; (try with_reducible rfl))
                  all_goals try (simp only [Act.put, List.setIfInBounds_toArray, List.set_cons_zero, List.set_cons_succ])
                  refine wpAnyD_two (i := 3) (j := 14) (oi := ⟨some 103, Op.buildSlice 61 0 #[], 61, _, _, _⟩) (oj := ⟨some 114, Op.buildSlice 61 1 #[(0, Operand.tmp 113)], 61, _, _, _⟩) (by kernel_rfl) rfl rfl (by rfl) (by rfl) (fun K hK => ?_) (fun K hK => ?_)
                  · go_simp
                    refine hK _ _ (fun _ => ?_) ?_
                    · exact SKB _ ((Below.refl wc.heap.size wc).alloc (Nat.le_refl _) (.cells #[] 36)).drew
                    clear hHeld
                    have hHeld := SKB _ ((Below.refl wc.heap.size wc).alloc (Nat.le_refl _) (.cells #[] 36)).drew
                    clear hK K
                    try simp only [Act.put, List.setIfInBounds_toArray, List.set_cons_zero, List.set_cons_succ]
                    refine wpAnyD_two (i := 11) (j := 14) (oi := ⟨some 111, Op.call { callee := Callee.builtin Builtin.append, args := #[Operand.tmp 103, Operand.tmp 110], argTypes := #[61, 61] }, 61, _, _, _⟩) (oj := ⟨some 114, Op.buildSlice 61 1 #[(0, Operand.tmp 113)], 61, _, _, _⟩) (by kernel_rfl) rfl rfl (by rfl) (by rfl) (fun K hK => ?_) (fun K hK => ?_)
                    · refine wp_cat (α := Word) _ (.tmp 103) (.tmp 110) 61 rfl wc.heap.size 36 (.agg #[.string ⟨#[]⟩, .string ⟨#[]⟩, .int .i64 0, .int .i64 0]) 48 Tryd.underlying61 word_info rfl (by decide) (.slice (some ⟨wc.heap.size, 0, none⟩) 0 0) [] rfl ((Own.made wc wc.heap.size _ (Nat.le_refl _)).drew) (some ⟨bk, 0, none⟩) ck nn (pk.take nn) rfl HLT.out (fun b => b < wc.heap.size) (HTK.out.keep (Kept.all (((Below.refl wc.heap.size wc).alloc (Nat.le_refl _) (.cells #[] 36)).drew)) (((Below.refl wc.heap.size wc).alloc (Nat.le_refl _) (.cells #[] 36)).drew).size) (by intro i (hi : i < wc.heap.size) _ e; simp [Value.ownBlock] at e; omega) (by first | omega | (simp; omega)) (by first | omega | (simp; omega)) (((Below.refl wc.heap.size wc).alloc (Nat.le_refl _) (.cells #[] 36)).drew).size ?_
                      intro v5 w5 hown5' hg5 hat5
                      obtain ⟨l5, hl5⟩ : ∃ l5, l5 = pk.take nn := ⟨_, rfl⟩
                      have hown5 : Own w5 wc.heap.size 36 v5 l5 := by rw [hl5]; exact hown5'
                      have HL5 : Hid (l5.length = nn) := Lib.hid (by rw [hl5]; exact HLT.out)
                      clear hl5 hown5'
                      have hb5 : Below wc.heap.size wc w5 := (((Below.refl wc.heap.size wc).alloc (Nat.le_refl _) (.cells #[] 36)).drew).grown hg5 (((Below.refl wc.heap.size wc).alloc (Nat.le_refl _) (.cells #[] 36)).drew).size (fun g hg => by simp [Value.ownBlock] at hg; omega)
                      obtain ⟨A5, c5, rfl, _⟩ := hown5.form
                      refine hK _ _ (fun _ => ?_) ?_
                      · exact SKB _ hb5
                      clear hHeld
                      have hHeld := SKB _ hb5
                      clear hK K
                      try simp only [Act.put, List.setIfInBounds_toArray, List.set_cons_zero, List.set_cons_succ]
                      refine wpAnyD_one (i := 14) (oi := ⟨some 114, Op.buildSlice 61 1 #[(0, Operand.tmp 113)], 61, _, _, _⟩) rfl (by kernel_rfl) (by rfl) (fun K hK => ?_)
                      have hxz := heap_alloc_new w5 (.cells #[.string s.x.s, .string s.x.key, .int .i64 s.x.t, .int .i64 s.x.n] 36)
                      have hownz := hown5.alloc (.cells #[.string s.x.s, .string s.x.key, .int .i64 s.x.t, .int .i64 s.x.n] 36)
                      have hbz := hb5.alloc hb5.size (.cells #[.string s.x.s, .string s.x.key, .int .i64 s.x.t, .int .i64 s.x.n] 36)
                      go_simp
                      refine hK _ _ (fun _ => ?_) ?_
                      · exact SKB _ hbz
                      clear hHeld
                      have hHeld := SKB _ hbz
                      clear hK K
                      try simp only [Act.put, List.setIfInBounds_toArray, List.set_cons_zero, List.set_cons_succ]
                      refine wpAnyD_one (i := 15) (oi := ⟨some 115, Op.call { callee := Callee.builtin Builtin.append, args := #[Operand.tmp 111, Operand.tmp 114], argTypes := #[61, 61] }, 61, _, _, _⟩) rfl (by kernel_rfl) (by rfl) (fun K hK => ?_)
                      refine wp_push (α := Word) _ (.tmp 111) (.tmp 114) 61 rfl wc.heap.size 36 (.agg #[.string ⟨#[]⟩, .string ⟨#[]⟩, .int .i64 0, .int .i64 0]) 48 Tryd.underlying61 word_info rfl (by decide) (.slice A5 l5.length c5) l5 rfl hownz w5.heap.size _ s.x (0, 0) 36 rfl hxz ⟨rfl, HX.out⟩ (by have := HL5.out; omega) (by have := HL5.out; omega) hbz.size _ rfl ?_
                      intro g6 cap6 w6 hown6 hg6 hat6 hlt6
                      have hb6 : Below wc.heap.size wc w6 := hbz.grown hg6 hbz.size (fun g hg => (hownz.lt g hg).1)
                      refine hK _ _ (fun _ => ?_) ?_
                      · exact SKB _ hb6
                      clear hHeld
                      have hHeld := SKB _ hb6
                      clear hK K
                      try simp only [Act.put, List.setIfInBounds_toArray, List.set_cons_zero, List.set_cons_succ]
                      refine wpAnyD_one (i := 23) (oi := ⟨some 123, Op.call { callee := Callee.builtin Builtin.append, args := #[Operand.tmp 115, Operand.tmp 122], argTypes := #[61, 61] }, 61, _, _, _⟩) rfl (by kernel_rfl) (by rfl) (fun K hK => ?_)
                      refine wp_cat (α := Word) _ (.tmp 115) (.tmp 122) 61 rfl wc.heap.size 36 (.agg #[.string ⟨#[]⟩, .string ⟨#[]⟩, .int .i64 0, .int .i64 0]) 48 Tryd.underlying61 word_info rfl (by decide) (.slice (some ⟨g6, 0, none⟩) (l5.length + 1) cap6) (l5 ++ [s.x]) rfl hown6 _ (ck - nn) (pk.length - nn) (pk.drop nn) rfl HLD.out (fun b => b < wc.heap.size) (HDR1.out.keep (Kept.all hb6) hb6.size) (by intro i (hi : i < wc.heap.size) _ e; have := (hown6.lt i e.symm).1; omega) (by rw [List.length_append]; have := HL5.out; simp; omega) (by rw [List.length_append]; have := HL5.out; simp; omega) hb6.size ?_
                      intro v7 w7 hown7 hg7 hat7
                      obtain ⟨l7, hl7⟩ : ∃ l7, l7 = (l5 ++ [s.x] ++ pk.drop nn) := ⟨_, rfl⟩
                      rw [← hl7] at hown7
                      have HL7 := Lib.hid hl7
                      clear hl7
                      have hb7 : Below wc.heap.size wc w7 := hb6.grown hg7 hb6.size (fun g hg => (hown6.lt g hg).1)
                      obtain ⟨A7, c7, rfl, _⟩ := hown7.form
                      have f7 : ∀ o, w7.frozen? ⟨gv, o, none⟩ = false := fun o => (frozen_of (hb7.block gv hglw) o).trans (hfz6 o)
                      have c77 := (SKB _ hb7).2.1
                      refine hK _ _ (fun _ => ?_) ?_
                      · exact SKB _ hb7
                      clear hHeld
                      have hHeld := SKB _ hb7
                      clear hK K
                      try simp only [Act.put, List.setIfInBounds_toArray, List.set_cons_zero, List.set_cons_succ]
                      refine wpAnyD_one (i := 24) (oi := ⟨some 124, Op.indexAddr 39 (Operand.tmp 101) (Operand.tmp 102), 0, _, _, _⟩) rfl (by kernel_rfl) (by rfl) (fun K hK => ?_)
                      go_simp
                      refine hK _ _ (fun h => absurd h (by decide)) ?_
                      clear hK K
                      try simp only [Act.put, List.setIfInBounds_toArray, List.set_cons_zero, List.set_cons_succ]
                      refine wpAnyD_one (i := 25) (oi := ⟨none, Op.store 61 (Operand.tmp 124) (Operand.tmp 123), 0, _, _, _⟩) rfl (by kernel_rfl) (by rfl) (fun K hK => ?_)
                      go_simp
                      refine hK _ _ (fun h => absurd h (by decide)) ?_
                      clear hK K
                      try simp only [Act.put, List.setIfInBounds_toArray, List.set_cons_zero, List.set_cons_succ]
                      refine wpAnyD_done (by kernel_rfl) ?_ _
                      have hst8 := hst6.out.setRow kk hu rfl (u := ⟨.slice A7 l7.length c7, rfl⟩) (p := l7) (hst6.out.b.trans (hb7.mono hst6.out.b.size)) hb7.size (fun b hb _ => hb7.block b hb) (hown7.re (Nat.zero_le _)) (fun g e => .inr (hown7.lt g e).1)
                      have HL8 : Hid (l7.length ≤ 600) := Lib.hid (by rw [HL7.out, List.length_append, List.length_append]; have := HL5.out; have := HLD.out; simp; omega)
                      clear s2 s3 s4 s5 s6 o0 o1 hcell6 hfz6 hglw hn0 hnI hHeld SKB hncI hneg f7 c77 hg7 hat7 hg6 hat6 hlt6 hxz
                      go_upto_region 31 with fail
                      have hF := hst8.fin (by rw [List.length_set]; have := HLU.out; omega) (by have := HLN.out; omega) (fun p hp => (List.mem_or_eq_of_mem_set hp).elim (fun hp => by have := HP6.out p hp; omega) (fun e => by rw [e]; exact HL8.out)) (fun p hp => by have := HQ6.out p hp; omega)
                      generalize w7.setCell ⟨gv, kk, none⟩ (.slice A7 l7.length c7) = wz at *
                      have r0 := hF.r.c0
                      have r1 := hF.r.c1
                      have rf := hF.r.fz
                      have q0 := hF.o.c0
                      have q1 := hF.o.c1
                      obtain ⟨A9, c9, B9, d9, e9, f9, htx9, hb9⟩ := hF.done
                      have HE9 := Lib.hid e9
                      have HF9 := Lib.hid f9
                      have HT9 := Lib.hid htx9
                      have HB9 := Lib.hid hb9
                      clear e9 f9 htx9 hb9 hF
                      go_wp2_with fail
                      refine bodyPost_ret (v := .agg #[.slice (some ⟨gv, 0, none⟩) us.length cv, .slice An un.length cn]) (by simp [results, Tryd.results24, go_sem, r0, r1]) rfl ⟨A9, c9, B9, d9, _, _, by rw [HE9.out, HF9.out], HT9.out, HB9.out⟩
                    · go_simp
                      refine hK _ _ (fun _ => ?_) ?_
                      · exact SKB _ (((Below.refl wc.heap.size wc).alloc (Nat.le_refl _) (.cells #[] 36)).alloc (by simp) (.cells #[.string s.x.s, .string s.x.key, .int .i64 s.x.t, .int .i64 s.x.n] 36)).drew
                      clear hHeld
                      have hHeld := SKB _ (((Below.refl wc.heap.size wc).alloc (Nat.le_refl _) (.cells #[] 36)).alloc (by simp) (.cells #[.string s.x.s, .string s.x.key, .int .i64 s.x.t, .int .i64 s.x.n] 36)).drew
                      clear hK K
                      try simp only [Act.put, List.setIfInBounds_toArray, List.set_cons_zero, List.set_cons_succ]
                      refine wpAnyD_one (i := 11) (oi := ⟨some 111, Op.call { callee := Callee.builtin Builtin.append, args := #[Operand.tmp 103, Operand.tmp 110], argTypes := #[61, 61] }, 61, _, _, _⟩) rfl (by kernel_rfl) (by rfl) (fun K hK => ?_)
                      refine wp_cat (α := Word) _ (.tmp 103) (.tmp 110) 61 rfl wc.heap.size 36 (.agg #[.string ⟨#[]⟩, .string ⟨#[]⟩, .int .i64 0, .int .i64 0]) 48 Tryd.underlying61 word_info rfl (by decide) (.slice (some ⟨wc.heap.size, 0, none⟩) 0 0) [] rfl (((Own.made wc wc.heap.size _ (Nat.le_refl _)).alloc (.cells #[.string s.x.s, .string s.x.key, .int .i64 s.x.t, .int .i64 s.x.n] 36)).drew) (some ⟨bk, 0, none⟩) ck nn (pk.take nn) rfl HLT.out (fun b => b < wc.heap.size) (HTK.out.keep (Kept.all ((((Below.refl wc.heap.size wc).alloc (Nat.le_refl _) (.cells #[] 36)).alloc (by simp) (.cells #[.string s.x.s, .string s.x.key, .int .i64 s.x.t, .int .i64 s.x.n] 36)).drew)) ((((Below.refl wc.heap.size wc).alloc (Nat.le_refl _) (.cells #[] 36)).alloc (by simp) (.cells #[.string s.x.s, .string s.x.key, .int .i64 s.x.t, .int .i64 s.x.n] 36)).drew).size) (by intro i (hi : i < wc.heap.size) _ e; simp [Value.ownBlock] at e; omega) (by first | omega | (simp; omega)) (by first | omega | (simp; omega)) ((((Below.refl wc.heap.size wc).alloc (Nat.le_refl _) (.cells #[] 36)).alloc (by simp) (.cells #[.string s.x.s, .string s.x.key, .int .i64 s.x.t, .int .i64 s.x.n] 36)).drew).size ?_
                      intro v5 w5 hown5' hg5 hat5
                      obtain ⟨l5, hl5⟩ : ∃ l5, l5 = pk.take nn := ⟨_, rfl⟩
                      have hown5 : Own w5 wc.heap.size 36 v5 l5 := by rw [hl5]; exact hown5'
                      have HL5 : Hid (l5.length = nn) := Lib.hid (by rw [hl5]; exact HLT.out)
                      clear hl5 hown5'
                      have hb5 : Below wc.heap.size wc w5 := ((((Below.refl wc.heap.size wc).alloc (Nat.le_refl _) (.cells #[] 36)).alloc (by simp) (.cells #[.string s.x.s, .string s.x.key, .int .i64 s.x.t, .int .i64 s.x.n] 36)).drew).grown hg5 ((((Below.refl wc.heap.size wc).alloc (Nat.le_refl _) (.cells #[] 36)).alloc (by simp) (.cells #[.string s.x.s, .string s.x.key, .int .i64 s.x.t, .int .i64 s.x.n] 36)).drew).size (fun g hg => by simp [Value.ownBlock] at hg; omega)
                      obtain ⟨A5, c5, rfl, _⟩ := hown5.form
                      have hxz : w5.heap[wc.heap.size + 1]? = some (.cells #[.string s.x.s, .string s.x.key, .int .i64 s.x.t, .int .i64 s.x.n] 36) := (hg5.block (wc.heap.size + 1) (by simp) (by simp [Value.ownBlock])).trans (heap_at (by simp))
                      have hownz := hown5
                      have hbz := hb5
                      refine hK _ _ (fun _ => ?_) ?_
                      · exact SKB _ hb5
                      clear hHeld
                      have hHeld := SKB _ hb5
                      clear hK K
                      try simp only [Act.put, List.setIfInBounds_toArray, List.set_cons_zero, List.set_cons_succ]
                      refine wpAnyD_one (i := 15) (oi := ⟨some 115, Op.call { callee := Callee.builtin Builtin.append, args := #[Operand.tmp 111, Operand.tmp 114], argTypes := #[61, 61] }, 61, _, _, _⟩) rfl (by kernel_rfl) (by rfl) (fun K hK => ?_)
                      refine wp_push (α := Word) _ (.tmp 111) (.tmp 114) 61 rfl wc.heap.size 36 (.agg #[.string ⟨#[]⟩, .string ⟨#[]⟩, .int .i64 0, .int .i64 0]) 48 Tryd.underlying61 word_info rfl (by decide) (.slice A5 l5.length c5) l5 rfl hownz (wc.heap.size + 1) _ s.x (0, 0) 36 rfl hxz ⟨rfl, HX.out⟩ (by have := HL5.out; omega) (by have := HL5.out; omega) hbz.size _ rfl ?_
                      intro g6 cap6 w6 hown6 hg6 hat6 hlt6
                      have hb6 : Below wc.heap.size wc w6 := hbz.grown hg6 hbz.size (fun g hg => (hownz.lt g hg).1)
                      refine hK _ _ (fun _ => ?_) ?_
                      · exact SKB _ hb6
                      clear hHeld
                      have hHeld := SKB _ hb6
                      clear hK K
                      try simp only [Act.put, List.setIfInBounds_toArray, List.set_cons_zero, List.set_cons_succ]
                      refine wpAnyD_one (i := 23) (oi := ⟨some 123, Op.call { callee := Callee.builtin Builtin.append, args := #[Operand.tmp 115, Operand.tmp 122], argTypes := #[61, 61] }, 61, _, _, _⟩) rfl (by kernel_rfl) (by rfl) (fun K hK => ?_)
                      refine wp_cat (α := Word) _ (.tmp 115) (.tmp 122) 61 rfl wc.heap.size 36 (.agg #[.string ⟨#[]⟩, .string ⟨#[]⟩, .int .i64 0, .int .i64 0]) 48 Tryd.underlying61 word_info rfl (by decide) (.slice (some ⟨g6, 0, none⟩) (l5.length + 1) cap6) (l5 ++ [s.x]) rfl hown6 _ (ck - nn) (pk.length - nn) (pk.drop nn) rfl HLD.out (fun b => b < wc.heap.size) (HDR1.out.keep (Kept.all hb6) hb6.size) (by intro i (hi : i < wc.heap.size) _ e; have := (hown6.lt i e.symm).1; omega) (by rw [List.length_append]; have := HL5.out; simp; omega) (by rw [List.length_append]; have := HL5.out; simp; omega) hb6.size ?_
                      intro v7 w7 hown7 hg7 hat7
                      obtain ⟨l7, hl7⟩ : ∃ l7, l7 = (l5 ++ [s.x] ++ pk.drop nn) := ⟨_, rfl⟩
                      rw [← hl7] at hown7
                      have HL7 := Lib.hid hl7
                      clear hl7
                      have hb7 : Below wc.heap.size wc w7 := hb6.grown hg7 hb6.size (fun g hg => (hown6.lt g hg).1)
                      obtain ⟨A7, c7, rfl, _⟩ := hown7.form
                      have f7 : ∀ o, w7.frozen? ⟨gv, o, none⟩ = false := fun o => (frozen_of (hb7.block gv hglw) o).trans (hfz6 o)
                      have c77 := (SKB _ hb7).2.1
                      refine hK _ _ (fun _ => ?_) ?_
                      · exact SKB _ hb7
                      clear hHeld
                      have hHeld := SKB _ hb7
                      clear hK K
                      try simp only [Act.put, List.setIfInBounds_toArray, List.set_cons_zero, List.set_cons_succ]
                      refine wpAnyD_one (i := 24) (oi := ⟨some 124, Op.indexAddr 39 (Operand.tmp 101) (Operand.tmp 102), 0, _, _, _⟩) rfl (by kernel_rfl) (by rfl) (fun K hK => ?_)
                      go_simp
                      refine hK _ _ (fun h => absurd h (by decide)) ?_
                      clear hK K
                      try simp only [Act.put, List.setIfInBounds_toArray, List.set_cons_zero, List.set_cons_succ]
                      refine wpAnyD_one (i := 25) (oi := ⟨none, Op.store 61 (Operand.tmp 124) (Operand.tmp 123), 0, _, _, _⟩) rfl (by kernel_rfl) (by rfl) (fun K hK => ?_)
                      go_simp
                      refine hK _ _ (fun h => absurd h (by decide)) ?_
                      clear hK K
                      try simp only [Act.put, List.setIfInBounds_toArray, List.set_cons_zero, List.set_cons_succ]
                      refine wpAnyD_done (by kernel_rfl) ?_ _
                      have hst8 := hst6.out.setRow kk hu rfl (u := ⟨.slice A7 l7.length c7, rfl⟩) (p := l7) (hst6.out.b.trans (hb7.mono hst6.out.b.size)) hb7.size (fun b hb _ => hb7.block b hb) (hown7.re (Nat.zero_le _)) (fun g e => .inr (hown7.lt g e).1)
                      have HL8 : Hid (l7.length ≤ 600) := Lib.hid (by rw [HL7.out, List.length_append, List.length_append]; have := HL5.out; have := HLD.out; simp; omega)
                      clear s2 s3 s4 s5 s6 o0 o1 hcell6 hfz6 hglw hn0 hnI hHeld SKB hncI hneg f7 c77 hg7 hat7 hg6 hat6 hlt6 hxz
                      go_upto_region 31 with fail
                      have hF := hst8.fin (by rw [List.length_set]; have := HLU.out; omega) (by have := HLN.out; omega) (fun p hp => (List.mem_or_eq_of_mem_set hp).elim (fun hp => by have := HP6.out p hp; omega) (fun e => by rw [e]; exact HL8.out)) (fun p hp => by have := HQ6.out p hp; omega)
                      generalize w7.setCell ⟨gv, kk, none⟩ (.slice A7 l7.length c7) = wz at *
                      have r0 := hF.r.c0
                      have r1 := hF.r.c1
                      have rf := hF.r.fz
                      have q0 := hF.o.c0
                      have q1 := hF.o.c1
                      obtain ⟨A9, c9, B9, d9, e9, f9, htx9, hb9⟩ := hF.done
                      have HE9 := Lib.hid e9
                      have HF9 := Lib.hid f9
                      have HT9 := Lib.hid htx9
                      have HB9 := Lib.hid hb9
                      clear e9 f9 htx9 hb9 hF
                      go_wp2_with fail
                      refine bodyPost_ret (v := .agg #[.slice (some ⟨gv, 0, none⟩) us.length cv, .slice An un.length cn]) (by simp [results, Tryd.results24, go_sem, r0, r1]) rfl ⟨A9, c9, B9, d9, _, _, by rw [HE9.out, HF9.out], HT9.out, HB9.out⟩
                  · go_simp
                    refine hK _ _ (fun _ => ?_) ?_
                    · exact SKB _ ((Below.refl wc.heap.size wc).alloc (Nat.le_refl _) (.cells #[.string s.x.s, .string s.x.key, .int .i64 s.x.t, .int .i64 s.x.n] 36)).drew
                    clear hHeld
                    have hHeld := SKB _ ((Below.refl wc.heap.size wc).alloc (Nat.le_refl _) (.cells #[.string s.x.s, .string s.x.key, .int .i64 s.x.t, .int .i64 s.x.n] 36)).drew
                    clear hK K
                    try simp only [Act.put, List.setIfInBounds_toArray, List.set_cons_zero, List.set_cons_succ]
                    refine wpAnyD_one (i := 3) (oi := ⟨some 103, Op.buildSlice 61 0 #[], 61, _, _, _⟩) rfl (by kernel_rfl) (by rfl) (fun K hK => ?_)
                    go_simp
                    refine hK _ _ (fun _ => ?_) ?_
                    · exact SKB _ (((Below.refl wc.heap.size wc).alloc (Nat.le_refl _) (.cells #[.string s.x.s, .string s.x.key, .int .i64 s.x.t, .int .i64 s.x.n] 36)).alloc (by simp) (.cells #[] 36)).drew
                    clear hHeld
                    have hHeld := SKB _ (((Below.refl wc.heap.size wc).alloc (Nat.le_refl _) (.cells #[.string s.x.s, .string s.x.key, .int .i64 s.x.t, .int .i64 s.x.n] 36)).alloc (by simp) (.cells #[] 36)).drew
                    clear hK K
                    try simp only [Act.put, List.setIfInBounds_toArray, List.set_cons_zero, List.set_cons_succ]
                    refine wpAnyD_one (i := 11) (oi := ⟨some 111, Op.call { callee := Callee.builtin Builtin.append, args := #[Operand.tmp 103, Operand.tmp 110], argTypes := #[61, 61] }, 61, _, _, _⟩) rfl (by kernel_rfl) (by rfl) (fun K hK => ?_)
                    have hown4 := Own.made (α := Word) (wc.alloc (.cells #[.string s.x.s, .string s.x.key, .int .i64 s.x.t, .int .i64 s.x.n] 36)) wc.heap.size 36 (by simp)
                    rw [show (wc.alloc (.cells #[.string s.x.s, .string s.x.key, .int .i64 s.x.t, .int .i64 s.x.n] 36)).heap.size = wc.heap.size + 1 by simp] at hown4
                    refine wp_cat (α := Word) _ (.tmp 103) (.tmp 110) 61 rfl wc.heap.size 36 (.agg #[.string ⟨#[]⟩, .string ⟨#[]⟩, .int .i64 0, .int .i64 0]) 48 Tryd.underlying61 word_info rfl (by decide) (.slice (some ⟨(wc.heap.size + 1), 0, none⟩) 0 0) [] rfl (hown4.drew) (some ⟨bk, 0, none⟩) ck nn (pk.take nn) rfl HLT.out (fun b => b < wc.heap.size) (HTK.out.keep (Kept.all ((((Below.refl wc.heap.size wc).alloc (Nat.le_refl _) (.cells #[.string s.x.s, .string s.x.key, .int .i64 s.x.t, .int .i64 s.x.n] 36)).alloc (by simp) (.cells #[] 36)).drew)) ((((Below.refl wc.heap.size wc).alloc (Nat.le_refl _) (.cells #[.string s.x.s, .string s.x.key, .int .i64 s.x.t, .int .i64 s.x.n] 36)).alloc (by simp) (.cells #[] 36)).drew).size) (by intro i (hi : i < wc.heap.size) _ e; simp [Value.ownBlock] at e; omega) (by first | omega | (simp; omega)) (by first | omega | (simp; omega)) ((((Below.refl wc.heap.size wc).alloc (Nat.le_refl _) (.cells #[.string s.x.s, .string s.x.key, .int .i64 s.x.t, .int .i64 s.x.n] 36)).alloc (by simp) (.cells #[] 36)).drew).size ?_
                    intro v5 w5 hown5' hg5 hat5
                    obtain ⟨l5, hl5⟩ : ∃ l5, l5 = pk.take nn := ⟨_, rfl⟩
                    have hown5 : Own w5 wc.heap.size 36 v5 l5 := by rw [hl5]; exact hown5'
                    have HL5 : Hid (l5.length = nn) := Lib.hid (by rw [hl5]; exact HLT.out)
                    clear hl5 hown5'
                    have hb5 : Below wc.heap.size wc w5 := ((((Below.refl wc.heap.size wc).alloc (Nat.le_refl _) (.cells #[.string s.x.s, .string s.x.key, .int .i64 s.x.t, .int .i64 s.x.n] 36)).alloc (by simp) (.cells #[] 36)).drew).grown hg5 ((((Below.refl wc.heap.size wc).alloc (Nat.le_refl _) (.cells #[.string s.x.s, .string s.x.key, .int .i64 s.x.t, .int .i64 s.x.n] 36)).alloc (by simp) (.cells #[] 36)).drew).size (fun g hg => by simp [Value.ownBlock] at hg; omega)
                    obtain ⟨A5, c5, rfl, _⟩ := hown5.form
                    have hxz : w5.heap[wc.heap.size]? = some (.cells #[.string s.x.s, .string s.x.key, .int .i64 s.x.t, .int .i64 s.x.n] 36) := (hg5.block wc.heap.size (by simp; omega) (by simp [Value.ownBlock])).trans ((Below.heap_alloc _ (.cells #[] 36) wc.heap.size (by simp)).trans (heap_alloc_new wc (.cells #[.string s.x.s, .string s.x.key, .int .i64 s.x.t, .int .i64 s.x.n] 36)))
                    have hownz := hown5
                    have hbz := hb5
                    refine hK _ _ (fun _ => ?_) ?_
                    · exact SKB _ hb5
                    clear hHeld
                    have hHeld := SKB _ hb5
                    clear hK K
                    try simp only [Act.put, List.setIfInBounds_toArray, List.set_cons_zero, List.set_cons_succ]
                    refine wpAnyD_one (i := 15) (oi := ⟨some 115, Op.call { callee := Callee.builtin Builtin.append, args := #[Operand.tmp 111, Operand.tmp 114], argTypes := #[61, 61] }, 61, _, _, _⟩) rfl (by kernel_rfl) (by rfl) (fun K hK => ?_)
                    refine wp_push (α := Word) _ (.tmp 111) (.tmp 114) 61 rfl wc.heap.size 36 (.agg #[.string ⟨#[]⟩, .string ⟨#[]⟩, .int .i64 0, .int .i64 0]) 48 Tryd.underlying61 word_info rfl (by decide) (.slice A5 l5.length c5) l5 rfl hownz wc.heap.size _ s.x (0, 0) 36 rfl hxz ⟨rfl, HX.out⟩ (by have := HL5.out; omega) (by have := HL5.out; omega) hbz.size _ rfl ?_
                    intro g6 cap6 w6 hown6 hg6 hat6 hlt6
                    have hb6 : Below wc.heap.size wc w6 := hbz.grown hg6 hbz.size (fun g hg => (hownz.lt g hg).1)
                    refine hK _ _ (fun _ => ?_) ?_
                    · exact SKB _ hb6
                    clear hHeld
                    have hHeld := SKB _ hb6
                    clear hK K
                    try simp only [Act.put, List.setIfInBounds_toArray, List.set_cons_zero, List.set_cons_succ]
                    refine wpAnyD_one (i := 23) (oi := ⟨some 123, Op.call { callee := Callee.builtin Builtin.append, args := #[Operand.tmp 115, Operand.tmp 122], argTypes := #[61, 61] }, 61, _, _, _⟩) rfl (by kernel_rfl) (by rfl) (fun K hK => ?_)
                    refine wp_cat (α := Word) _ (.tmp 115) (.tmp 122) 61 rfl wc.heap.size 36 (.agg #[.string ⟨#[]⟩, .string ⟨#[]⟩, .int .i64 0, .int .i64 0]) 48 Tryd.underlying61 word_info rfl (by decide) (.slice (some ⟨g6, 0, none⟩) (l5.length + 1) cap6) (l5 ++ [s.x]) rfl hown6 _ (ck - nn) (pk.length - nn) (pk.drop nn) rfl HLD.out (fun b => b < wc.heap.size) (HDR1.out.keep (Kept.all hb6) hb6.size) (by intro i (hi : i < wc.heap.size) _ e; have := (hown6.lt i e.symm).1; omega) (by rw [List.length_append]; have := HL5.out; simp; omega) (by rw [List.length_append]; have := HL5.out; simp; omega) hb6.size ?_
                    intro v7 w7 hown7 hg7 hat7
                    obtain ⟨l7, hl7⟩ : ∃ l7, l7 = (l5 ++ [s.x] ++ pk.drop nn) := ⟨_, rfl⟩
                    rw [← hl7] at hown7
                    have HL7 := Lib.hid hl7
                    clear hl7
                    have hb7 : Below wc.heap.size wc w7 := hb6.grown hg7 hb6.size (fun g hg => (hown6.lt g hg).1)
                    obtain ⟨A7, c7, rfl, _⟩ := hown7.form
                    have f7 : ∀ o, w7.frozen? ⟨gv, o, none⟩ = false := fun o => (frozen_of (hb7.block gv hglw) o).trans (hfz6 o)
                    have c77 := (SKB _ hb7).2.1
                    refine hK _ _ (fun _ => ?_) ?_
                    · exact SKB _ hb7
                    clear hHeld
                    have hHeld := SKB _ hb7
                    clear hK K
                    try simp only [Act.put, List.setIfInBounds_toArray, List.set_cons_zero, List.set_cons_succ]
                    refine wpAnyD_one (i := 24) (oi := ⟨some 124, Op.indexAddr 39 (Operand.tmp 101) (Operand.tmp 102), 0, _, _, _⟩) rfl (by kernel_rfl) (by rfl) (fun K hK => ?_)
                    go_simp
                    refine hK _ _ (fun h => absurd h (by decide)) ?_
                    clear hK K
                    try simp only [Act.put, List.setIfInBounds_toArray, List.set_cons_zero, List.set_cons_succ]
                    refine wpAnyD_one (i := 25) (oi := ⟨none, Op.store 61 (Operand.tmp 124) (Operand.tmp 123), 0, _, _, _⟩) rfl (by kernel_rfl) (by rfl) (fun K hK => ?_)
                    go_simp
                    refine hK _ _ (fun h => absurd h (by decide)) ?_
                    clear hK K
                    try simp only [Act.put, List.setIfInBounds_toArray, List.set_cons_zero, List.set_cons_succ]
                    refine wpAnyD_done (by kernel_rfl) ?_ _
                    have hst8 := hst6.out.setRow kk hu rfl (u := ⟨.slice A7 l7.length c7, rfl⟩) (p := l7) (hst6.out.b.trans (hb7.mono hst6.out.b.size)) hb7.size (fun b hb _ => hb7.block b hb) (hown7.re (Nat.zero_le _)) (fun g e => .inr (hown7.lt g e).1)
                    have HL8 : Hid (l7.length ≤ 600) := Lib.hid (by rw [HL7.out, List.length_append, List.length_append]; have := HL5.out; have := HLD.out; simp; omega)
                    clear s2 s3 s4 s5 s6 o0 o1 hcell6 hfz6 hglw hn0 hnI hHeld SKB hncI hneg f7 c77 hg7 hat7 hg6 hat6 hlt6 hxz
                    go_upto_region 31 with fail
                    have hF := hst8.fin (by rw [List.length_set]; have := HLU.out; omega) (by have := HLN.out; omega) (fun p hp => (List.mem_or_eq_of_mem_set hp).elim (fun hp => by have := HP6.out p hp; omega) (fun e => by rw [e]; exact HL8.out)) (fun p hp => by have := HQ6.out p hp; omega)
                    generalize w7.setCell ⟨gv, kk, none⟩ (.slice A7 l7.length c7) = wz at *
                    have r0 := hF.r.c0
                    have r1 := hF.r.c1
                    have rf := hF.r.fz
                    have q0 := hF.o.c0
                    have q1 := hF.o.c1
                    obtain ⟨A9, c9, B9, d9, e9, f9, htx9, hb9⟩ := hF.done
                    have HE9 := Lib.hid e9
                    have HF9 := Lib.hid f9
                    have HT9 := Lib.hid htx9
                    have HB9 := Lib.hid hb9
                    clear e9 f9 htx9 hb9 hF
                    go_wp2_with fail
                    refine bodyPost_ret (v := .agg #[.slice (some ⟨gv, 0, none⟩) us.length cv, .slice An un.length cn]) (by simp [results, Tryd.results24, go_sem, r0, r1]) rfl ⟨A9, c9, B9, d9, _, _, by rw [HE9.out, HF9.out], HT9.out, HB9.out⟩
            · rcases (by omega : mm = 3 ∨ mm = 4 ∨ mm = 5 ∨ mm = 6 ∨ mm = 7) with rfl | rfl | rfl | rfl | rfl
              · clear hm2 hml
                go_upto_region 31 with (at_builtin; refine wpList_push (α := Raw) _ rfl (.tmp 128) (.tmp 132) 39 rfl 0 61 (.slice none 0 0) 24 Tryd.underlying39 raw_info rfl (by decide) (.slice An un.length cn) un rfl ((hst6.out.m.own.alloc _).alloc _) (wd.heap.size + 1) _ ⟨.slice (some ⟨wd.heap.size, 0, none⟩) 1 1, rfl⟩ (0, 0) 61 rfl (heap_at (by simp)) rfl (by omega) (by omega) (by simp) _ rfl ?_; intro g8 cap8 w8 hown8 hg8 hat8 hlt8; have k8 := fun i hi => hst6.out.keep ((Below.refl _ _).alloc (Nat.le_refl _) _) hg8 (fun g hg => hst6.out.l2 g (hst6.out.m.mv g hg)) i hi; have o8 := hst6.out.o.kept (k8 _ (Nat.le_refl _)); have f8 := o8.fz; have c8 := o8.c1)
                have hst7 := hst6.out.pushN (u := ⟨.slice (some ⟨wd.heap.size, 0, none⟩) 1 1, rfl⟩) ((Below.refl _ _).alloc (Nat.le_refl _) _) (own_word wd s.x HX.out) hown8 hg8 (by rcases hat8 with e | e; exact .inl e.symm; exact .inr (by rw [e]; rfl))
                clear s2 s3 s4 s5 s6 o0 o1 hcell6 hfz6 hglw hn0 hnI k8 o8 f8 c8 hown8 hg8 hat8 hlt8
                have hF := hst7.fin (by have := HLU.out; omega) (by rw [List.length_append]; simp; have := HLN.out; omega) (fun p hp => by have := HP6.out p hp; omega) (fun p hp => (List.mem_append.1 hp).elim (fun hp => by have := HQ6.out p hp; omega) (fun hp => by rw [List.mem_singleton.1 hp]; simp))
                generalize w8.setCell ⟨O, 1, none⟩ (.slice (some ⟨g8, 0, none⟩) (un.length + 1) cap8) = wz at *
                have r0 := hF.r.c0
                have r1 := hF.r.c1
                have rf := hF.r.fz
                have q0 := hF.o.c0
                have q1 := hF.o.c1
                obtain ⟨A9, c9, B9, d9, e9, f9, htx9, hb9⟩ := hF.done
                have HE9 := Lib.hid e9
                have HF9 := Lib.hid f9
                have HT9 := Lib.hid htx9
                have HB9 := Lib.hid hb9
                clear e9 f9 htx9 hb9 hF
                go_wp2_with fail
                refine bodyPost_ret (v := .agg #[.slice (some ⟨gv, 0, none⟩) us.length cv, .slice (some ⟨g8, 0, none⟩) (un.length + 1) cap8]) (by simp [results, Tryd.results24, go_sem, r0, r1]) rfl ⟨A9, c9, B9, d9, _, _, by rw [HE9.out, HF9.out], HT9.out, HB9.out⟩
              · clear hm2 hml
                go_upto_region 31 with fail
                have hst7 := hst6.out.setRow kk hu rfl (u := ⟨.slice none 0 0, rfl⟩) (p := []) hst6.out.b (Nat.le_refl _) (fun _ _ _ => rfl) (Own.nil _ _ _) (fun g h => (by cases h))
                clear s2 s3 s4 s5 s6 o0 o1 hcell6 hfz6 hglw hn0 hnI
                have hF := hst7.fin (by rw [List.length_set]; have := HLU.out; omega) (by have := HLN.out; omega) (fun p hp => (List.mem_or_eq_of_mem_set hp).elim (fun hp => by have := HP6.out p hp; omega) (fun e => by rw [e]; simp)) (fun p hp => by have := HQ6.out p hp; omega)
                generalize wd.setCell ⟨gv, kk, none⟩ (.slice none 0 0) = wz at *
                have r0 := hF.r.c0
                have r1 := hF.r.c1
                have rf := hF.r.fz
                have q0 := hF.o.c0
                have q1 := hF.o.c1
                obtain ⟨A9, c9, B9, d9, e9, f9, htx9, hb9⟩ := hF.done
                have HE9 := Lib.hid e9
                have HF9 := Lib.hid f9
                have HT9 := Lib.hid htx9
                have HB9 := Lib.hid hb9
                clear e9 f9 htx9 hb9 hF
                go_wp2_with fail
                refine bodyPost_ret (v := .agg #[.slice (some ⟨gv, 0, none⟩) us.length cv, .slice An un.length cn]) (by simp [results, Tryd.results24, go_sem, r0, r1]) rfl ⟨A9, c9, B9, d9, _, _, by rw [HE9.out, HF9.out], HT9.out, HB9.out⟩
              · clear hm2 hml
                have of6 := hst6.out.o.fz
                by_cases hu0 : un.length = 0
                · obtain rfl : un = [] := List.eq_nil_of_length_eq_zero hu0
                  obtain rfl : qs = [] := List.eq_nil_of_length_eq_zero (by have := HLN.out; simp at this; omega)
                  clear hu0 hn3
                  simp only [List.length_nil] at o1 hst6
                  go_upto_region 31 with fail
                  clear s2 s3 s4 s5 s6 o0 o1 hcell6 hfz6 hglw hn0 hnI of6
                  have hF := hst6.out.fin (by have := HLU.out; omega) (by simp) (fun p hp => by have := HP6.out p hp; omega) (fun p hp => (by cases hp))
                  have r0 := hF.r.c0
                  have r1 := hF.r.c1
                  have rf := hF.r.fz
                  have q0 := hF.o.c0
                  have q1 := hF.o.c1
                  obtain ⟨A9, c9, B9, d9, e9, f9, htx9, hb9⟩ := hF.done
                  have HE9 := Lib.hid e9
                  have HF9 := Lib.hid f9
                  have HT9 := Lib.hid htx9
                  have HB9 := Lib.hid hb9
                  clear e9 f9 htx9 hb9 hF
                  go_wp2_with fail
                  refine bodyPost_ret (v := .agg #[.slice (some ⟨gv, 0, none⟩) us.length cv, .slice An 0 cn]) (by simp [results, Tryd.results24, go_sem, r0, r1]) rfl ⟨A9, c9, B9, d9, _, _, by rw [HE9.out, HF9.out], HT9.out, HB9.out⟩
                · obtain ⟨gn, capn, _, evn, _, _, hcn', _, _⟩ := hst6.out.m.at_ (k := 0) (by have := HLN.out; omega)
                  obtain ⟨rfl, rfl⟩ : An = some ⟨gn, 0, none⟩ ∧ cn = capn := by have := Value.slice.inj evn; exact ⟨this.1, this.2.2⟩
                  have hnp : ((un.length : Int) > 0) := by omega
                  have hnp0 : (0 : Int) < (un.length : Int) := by omega
                  have hnp1 : (1 : Int) ≤ (un.length : Int) := by omega
                  have hncI : (un.length : Int) ≤ (cn : Int) := by omega
                  clear evn hu0 hcn'
                  by_cases hc1 : cn = 1
                  · have HC := Lib.hid hc1
                    have hv5 : (Value.slice (some ⟨gn, 0, none⟩) (un.length - 1) 0) = .slice (if cn = 1 then (some ⟨gn, 0, none⟩ : Option Addr) else (some ⟨gn, 0, none⟩ : Option Addr).map (·.add 1)) (qs.length - 1) (cn - 1) := by rw [if_pos hc1, hc1, HLN.out]
                    have HV5 := Lib.hid hv5
                    clear hv5
                    go_upto_region 31 with fail
                    clear s2 s3 s4 s5 s6 o0 o1 hcell6 hfz6 hglw hn0 hnI of6 hc1
                    have hF := hst6.out.fin5 (by have := HLN.out; omega) (by have := HLU.out; omega) (by have := HLN.out; omega) (fun p hp => by have := HP6.out p hp; omega) (fun p hp => by have := HQ6.out p hp; omega) (by rw [HLN.out]) HV5.out
                    generalize wd.setCell ⟨O, 1, none⟩ (.slice (some ⟨gn, 0, none⟩) (un.length - 1) 0) = wz at *
                    have r0 := hF.r.c0
                    have r1 := hF.r.c1
                    have rf := hF.r.fz
                    have q0 := hF.o.c0
                    have q1 := hF.o.c1
                    obtain ⟨A9, c9, B9, d9, e9, f9, htx9, hb9⟩ := hF.done
                    have HE9 := Lib.hid e9
                    have HF9 := Lib.hid f9
                    have HT9 := Lib.hid htx9
                    have HB9 := Lib.hid hb9
                    clear e9 f9 htx9 hb9 hF
                    go_wp2_with fail
                    refine bodyPost_ret (v := .agg #[.slice (some ⟨gv, 0, none⟩) us.length cv, (.slice (some ⟨gn, 0, none⟩) (un.length - 1) 0)]) (by simp [results, Tryd.results24, go_sem, r0, r1]) rfl ⟨A9, c9, B9, d9, _, _, by rw [HE9.out, HF9.out], HT9.out, HB9.out⟩
                  · have hv5 : (Value.slice (some ⟨gn, 1, none⟩) (un.length - 1) (cn - 1)) = .slice (if cn = 1 then (some ⟨gn, 0, none⟩ : Option Addr) else (some ⟨gn, 0, none⟩ : Option Addr).map (·.add 1)) (qs.length - 1) (cn - 1) := by rw [if_neg hc1, HLN.out]; simp [addr_add]
                    have HV5 := Lib.hid hv5
                    clear hv5
                    go_upto_region 31 with fail
                    clear s2 s3 s4 s5 s6 o0 o1 hcell6 hfz6 hglw hn0 hnI of6 hc1
                    have hF := hst6.out.fin5 (by have := HLN.out; omega) (by have := HLU.out; omega) (by have := HLN.out; omega) (fun p hp => by have := HP6.out p hp; omega) (fun p hp => by have := HQ6.out p hp; omega) (by rw [HLN.out]) HV5.out
                    generalize wd.setCell ⟨O, 1, none⟩ (.slice (some ⟨gn, 1, none⟩) (un.length - 1) (cn - 1)) = wz at *
                    have r0 := hF.r.c0
                    have r1 := hF.r.c1
                    have rf := hF.r.fz
                    have q0 := hF.o.c0
                    have q1 := hF.o.c1
                    obtain ⟨A9, c9, B9, d9, e9, f9, htx9, hb9⟩ := hF.done
                    have HE9 := Lib.hid e9
                    have HF9 := Lib.hid f9
                    have HT9 := Lib.hid htx9
                    have HB9 := Lib.hid hb9
                    clear e9 f9 htx9 hb9 hF
                    go_wp2_with fail
                    refine bodyPost_ret (v := .agg #[.slice (some ⟨gv, 0, none⟩) us.length cv, (.slice (some ⟨gn, 1, none⟩) (un.length - 1) (cn - 1))]) (by simp [results, Tryd.results24, go_sem, r0, r1]) rfl ⟨A9, c9, B9, d9, _, _, by rw [HE9.out, HF9.out], HT9.out, HB9.out⟩
              · clear hm2 hml
                obtain ⟨rr, hrr, hr4⟩ : ∃ rr : Nat, aro s.n 4 = rr ∧ rr < 4 := by
                  have := aro_lt s.n 4 (by decide)
                  exact ⟨(aro s.n 4).toNat, by omega, by omega⟩
                have HAR := Lib.hid (fun W : World => around_any s.n 4 W HI3.out (by decide) (by decide))
                rw [hrr] at HAR
                clear hrr
                have hw99 : IntKind.i64.wrap (99 + (rr : Int)) = 99 + (rr : Int) := by rw [IntWalk.i64_in _ (by omega)]
                go_wp2_with fail
                go_loopw [153] (fun i wr' => ∃ B1 B2 v us ps, Hid (Sp w wr' O (.slice A ls.length c) (.slice B ns.length d) s B1 B2 v (.slice An un.length cn) us un ps qs) ∧ Hid (us.length ≤ 102 ∧ us.length = ps.length ∧ ∀ p ∈ ps, p.length ≤ 40)) (fun _ W => 110 - cellLen (W.cell? ⟨O, 0, none⟩))
                case atStart => exact ⟨_, _, _, _, _, hst6, ⟨by omega, HLU.out, HP6.out⟩⟩
                case round =>
                  clear s2 s3 s4 s5 s6 o0 o1 hcell6 hfz6 hglw hn0 hnI hst6 HLU HP6 HROW6 HEK
                  obtain ⟨B1, B2, v, us, ps, hst, hps⟩ := hrel
                  obtain ⟨Av, cv, rfl, _, _⟩ := hst.out.n.own.form
                  have o0 := hst.out.o.c0
                  have o1 := hst.out.o.c1
                  have hu102 := hps.out.1
                  have holt := hst.out.olt
                  have s2 : wr.cell? ⟨w.heap.size + 1, 2, none⟩ = some (.int .i64 s.n) := cell_of_row wr _ 2 _ _ _ hst.out.s
                  by_cases hlt : us.length < 99 + rr
                  · have hltI : (us.length : Int) < 99 + (rr : Int) := by omega
                    go_wp2_with fail
                    refine wp_region_calm (by kernel_rfl) (by kernel_rfl) ?_
                    intro T5 hT5 f hf hg
                    have a0 : ∀ d, (f d).cell? ⟨O, 0, none⟩ = some (.slice Av us.length cv) := fun d => ((hf d).cell (p := ⟨O, 0, none⟩) (holt)).trans o0
                    have a1 : ∀ d, (f d).cell? ⟨w.heap.size + 1, 2, none⟩ = some (.int .i64 s.n) := fun d => ((hf d).cell (p := ⟨w.heap.size + 1, 2, none⟩) (by have := HO.out; show w.heap.size + 1 < _; omega)).trans s2
                    have HF5 := Lib.hid hf
                    have HG5 := Lib.hid hg
                    clear hf hg
                    repeat (go_big_quiet_step (first
                      | (go_at_call 18; refine (HAR.out _).mono ?_; rintro e w6 ⟨rfl, rfl⟩; exact ⟨rfl, HG5.out _ _ (Below.refl _ _)⟩)))
                    refine wpQuiet_nil ?_
                    rintro _ ⟨nq, rfl⟩
                    have Hd := Lib.hid (HF5.out nq)
                    clear HF5 HG5 a0 a1
                    generalize f nq = we at *
                    have hst7 := Lib.hid (hst.out.below Hd.out)
                    have o0' := hst7.out.o.c0
                    have OE := Lib.hid o0
                    clear hst o0 o1 s2 holt Hd hlt
                    have o0 := o0'
                    clear o0'
                    go_wp2_with (at_builtin; refine wpList_push (α := Raw) _ rfl (.tmp 162) (.tmp 165) 39 rfl 0 61 (.slice none 0 0) 24 Tryd.underlying39 raw_info rfl (by decide) (.slice Av us.length cv) us rfl ((hst7.out.n.own.alloc _).alloc _) (we.heap.size + 1) _ ⟨.slice (some ⟨we.heap.size, 0, none⟩) 1 1, rfl⟩ (0, 0) 61 rfl (heap_at (by simp)) rfl (by omega) (by omega) (by simp) _ rfl ?_; intro g8 cap8 w8 hown8 hg8 hat8 hlt8; have k8 := fun i hi => hst7.out.keep ((Below.refl _ _).alloc (Nat.le_refl _) _) hg8 (fun g hg => hst7.out.l1 g (hst7.out.n.mv g hg)) i hi; have o8 := hst7.out.o.kept (k8 _ (Nat.le_refl _)); have f8 := o8.fz; have c8 := o8.c0)
                    have hst8 := Lib.hid (hst7.out.pushP (u := ⟨.slice (some ⟨we.heap.size, 0, none⟩) 1 1, rfl⟩) ((Below.refl _ _).alloc (Nat.le_refl _) _) (own_word we (⟨⟨#[97]⟩, ⟨#[]⟩, 0, 0⟩ : Word) ⟨by simp [maxLen]; decide, by simp [maxLen]; decide, by constructor <;> decide, by constructor <;> decide⟩) hown8 hg8 (by rcases hat8 with e | e; exact .inl e.symm; exact .inr (by rw [e]; rfl)))
                    have hps8 : Hid ((us ++ [⟨.slice (some ⟨we.heap.size, 0, none⟩) 1 1, rfl⟩] : List Raw).length ≤ 102 ∧ (us ++ [⟨.slice (some ⟨we.heap.size, 0, none⟩) 1 1, rfl⟩] : List Raw).length = (ps ++ [[(⟨⟨#[97]⟩, ⟨#[]⟩, 0, 0⟩ : Word)]]).length ∧ ∀ p ∈ ps ++ [[(⟨⟨#[97]⟩, ⟨#[]⟩, 0, 0⟩ : Word)]], p.length ≤ 40) := Lib.hid ⟨by rw [List.length_append]; simp; omega, by rw [List.length_append, List.length_append, hps.out.2.1]; rfl, fun p hp => (List.mem_append.1 hp).elim (hps.out.2.2 p) (fun hp => by rw [List.mem_singleton.1 hp]; simp)⟩
                    clear k8 o8 f8 c8 hown8 hg8 hat8 hlt8 o0 hltI
                    go_roundw
                    case rel => exact ⟨_, _, _, _, _, hst8, hps8⟩
                    case measure =>
                      rw [hst8.out.o.c0, OE.out]
                      show 110 - (us.length + 1) < 110 - us.length
                      omega
                  · have hltI : ¬ (us.length : Int) < 99 + (rr : Int) := by omega
                    go_wp2_with fail
                    refine wp_region_calm (by kernel_rfl) (by kernel_rfl) ?_
                    intro T5 hT5 f hf hg
                    have a0 : ∀ d, (f d).cell? ⟨O, 0, none⟩ = some (.slice Av us.length cv) := fun d => ((hf d).cell (p := ⟨O, 0, none⟩) (holt)).trans o0
                    have a1 : ∀ d, (f d).cell? ⟨w.heap.size + 1, 2, none⟩ = some (.int .i64 s.n) := fun d => ((hf d).cell (p := ⟨w.heap.size + 1, 2, none⟩) (by have := HO.out; show w.heap.size + 1 < _; omega)).trans s2
                    have HF5 := Lib.hid hf
                    have HG5 := Lib.hid hg
                    clear hf hg
                    repeat (go_big_quiet_step (first
                      | (go_at_call 18; refine (HAR.out _).mono ?_; rintro e w6 ⟨rfl, rfl⟩; exact ⟨rfl, HG5.out _ _ (Below.refl _ _)⟩)))
                    refine wpQuiet_nil ?_
                    rintro _ ⟨nq, rfl⟩
                    have Hd := Lib.hid (HF5.out nq)
                    clear HF5 HG5 a0 a1
                    generalize f nq = we at *
                    have hst7 := Lib.hid (hst.out.below Hd.out)
                    clear hst o0 o1 s2 holt Hd hlt
                    go_upto_region 31 with fail
                    clear hltI
                    have hF := hst7.out.fin (by have := hps.out.1; have := hps.out.2.1; omega) (by have := HLN.out; omega) (fun p hp => by have := hps.out.2.2 p hp; omega) (fun p hp => by have := HQ6.out p hp; omega)
                    have r0 := hF.r.c0
                    have r1 := hF.r.c1
                    have rf := hF.r.fz
                    have q0 := hF.o.c0
                    have q1 := hF.o.c1
                    obtain ⟨A9, c9, B9, d9, e9, f9, htx9, hb9⟩ := hF.done
                    have HE9 := Lib.hid e9
                    have HF9 := Lib.hid f9
                    have HT9 := Lib.hid htx9
                    have HB9 := Lib.hid hb9
                    clear e9 f9 htx9 hb9 hF
                    go_wp2_with fail
                    refine bodyPost_ret (v := .agg #[.slice Av us.length cv, .slice An un.length cn]) (by simp [results, Tryd.results24, go_sem, r0, r1]) rfl ⟨A9, c9, B9, d9, _, _, by rw [HE9.out, HF9.out], HT9.out, HB9.out⟩
              · clear hm2 hml
                obtain ⟨rr, hrr, hr4⟩ : ∃ rr : Nat, aro s.n 4 = rr ∧ rr < 4 := by
                  have := aro_lt s.n 4 (by decide)
                  exact ⟨(aro s.n 4).toNat, by omega, by omega⟩
                have HAR := Lib.hid (fun W : World => around_any s.n 4 W HI3.out (by decide) (by decide))
                rw [hrr] at HAR
                clear hrr
                have hw499 : IntKind.i64.wrap (499 + (rr : Int)) = 499 + (rr : Int) := by rw [IntWalk.i64_in _ (by omega)]
                go_wp2_with fail
                go_loopw [73] (fun i wr' => ∃ B1 B2 us' ps', Hid (Sp w wr' O (.slice A ls.length c) (.slice B ns.length d) s B1 B2 (.slice (some ⟨gv, 0, none⟩) us.length cv) (.slice An un.length cn) us' un ps' qs) ∧ Hid (us'.length = us.length ∧ us'.length = ps'.length ∧ ∀ p ∈ ps', p.length ≤ 503)) (fun _ W => 600 - cellLen (W.cell? ⟨gv, kk, none⟩))
                case atStart => exact ⟨_, _, _, _, hst6, ⟨rfl, HLU.out, fun p hp => by have := HP6.out p hp; omega⟩⟩
                case round =>
                  clear s2 s3 s4 s5 s6 o0 o1 hcell6 hfz6 hglw hn0 hnI hst6 HP6 HROW6 HEK hck hckm hnl hpk
                  obtain ⟨B1, B2, us', ps', hst, hps⟩ := hrel
                  have hku : kk < us'.length := by rw [hps.out.1]; exact hkl
                  have hkp' : kk < ps'.length := by rw [← hps.out.2.1]; exact hku
                  obtain ⟨g9, cap9, hu9, ev9, hgl9, hB9, _, hcell9, hfz9⟩ := hst.out.n.at_ hkp'
                  obtain rfl : gv = g9 := by have := (Value.slice.inj ev9).1; injection this with this; injection this
                  have hrow9 := hst.out.n.inn kk hu9 hkp'
                  obtain ⟨Ak, ck, ek, _, hck, hckm⟩ := hrow9.form
                  have hne9 : us'[kk].v.ownBlock ≠ some gv := fun e => hst.out.n.ne kk hu9 gv e rfl
                  have hneO : us'[kk].v.ownBlock ≠ some O := fun e => by have := hst.out.l1 O (hst.out.n.mi kk hu9 O e); omega
                  have hlow : ∀ g, us'[kk].v.ownBlock = some g → w.heap.size ≤ g := fun g e => by have := hst.out.l1 g (hst.out.n.mi kk hu9 g e); have := HO.out; omega
                  have hpk := hps.out.2.2 ps'[kk] (List.getElem_mem hkp')
                  obtain ⟨qk, hqk⟩ : ∃ qk, ps'[kk] = qk := ⟨_, rfl⟩
                  rw [hqk] at hpk hrow9 ek hck
                  rw [ek] at hcell9 hrow9 hne9 hneO hlow
                  have HEK := Lib.hid ek
                  have HROW := Lib.hid hrow9
                  have HNE := Lib.hid hne9
                  have HNO := Lib.hid hneO
                  have HLOW := Lib.hid hlow
                  have HFZ := Lib.hid hfz9
                  clear ek hrow9 ev9 hqk hne9 hneO hlow hfz9
                  have o0 := hst.out.o.c0
                  have holt := hst.out.olt
                  have s2 : wr.cell? ⟨w.heap.size + 1, 2, none⟩ = some (.int .i64 s.n) := cell_of_row wr _ 2 _ _ _ hst.out.s
                  by_cases hlt : qk.length < 499 + rr
                  · have hltI : (qk.length : Int) < 499 + (rr : Int) := by omega
                    go_wp2_with fail
                    refine wp_region_calm (by kernel_rfl) (by kernel_rfl) ?_
                    intro T5 hT5 f hf hg
                    have a0 : ∀ d, (f d).cell? ⟨O, 0, none⟩ = some (.slice (some ⟨gv, 0, none⟩) us.length cv) := fun d => ((hf d).cell (p := ⟨O, 0, none⟩) (holt)).trans o0
                    have a1 : ∀ d, (f d).cell? ⟨w.heap.size + 1, 2, none⟩ = some (.int .i64 s.n) := fun d => ((hf d).cell (p := ⟨w.heap.size + 1, 2, none⟩) (by have := HO.out; show w.heap.size + 1 < _; omega)).trans s2
                    have a2 : ∀ d, (f d).cell? ⟨gv, kk, none⟩ = some (.slice Ak qk.length ck) := fun d => ((hf d).cell (p := ⟨gv, kk, none⟩) (hgl9)).trans hcell9
                    have HF5 := Lib.hid hf
                    have HG5 := Lib.hid hg
                    clear hf hg
                    repeat (go_big_quiet_step (first
                      | (go_at_call 18; refine (HAR.out _).mono ?_; rintro e w6 ⟨rfl, rfl⟩; exact ⟨rfl, HG5.out _ _ (Below.refl _ _)⟩)))
                    refine wpQuiet_nil ?_
                    rintro _ ⟨nq, rfl⟩
                    have Hd := Lib.hid (HF5.out nq)
                    clear HF5 HG5 a0 a1 a2
                    generalize f nq = we at *
                    have hst7 := Lib.hid (hst.out.below Hd.out)
                    have OE := Lib.hid hcell9
                    have o7 := hst7.out.o.c0
                    have c7 := (Hd.out.cell (p := ⟨gv, kk, none⟩) hgl9).trans hcell9
                    have ol7 := hst7.out.olt
                    have gl7 : gv < we.heap.size := Nat.lt_of_lt_of_le hgl9 Hd.out.size
                    have HFZ7 : Hid (∀ o, we.frozen? ⟨gv, o, none⟩ = false) := Lib.hid fun o => (frozen_of (Hd.out.block gv hgl9) o).trans (HFZ.out o)
                    have HROW7 := Lib.hid (HROW.out.below Hd.out)
                    clear o0 s2 hcell9 hgl9 holt hlt
                    have SK : ∀ W : World, (W.heap[O]? = we.heap[O]?) → (W.heap[gv]? = we.heap[gv]?) → (W.cell? ⟨O, 0, none⟩ = some (.slice (some ⟨gv, 0, none⟩) us.length cv) ∧ W.cell? ⟨gv, kk, none⟩ = some (Value.slice Ak qk.length ck)) := fun W h1 h2 => ⟨(World.cell?_of_block (a := ⟨O, 0, none⟩) h1).trans o7, (World.cell?_of_block (a := ⟨gv, kk, none⟩) h2).trans c7⟩
                    have SKB : ∀ W, Below we.heap.size we W → (W.cell? ⟨O, 0, none⟩ = some (.slice (some ⟨gv, 0, none⟩) us.length cv) ∧ W.cell? ⟨gv, kk, none⟩ = some (Value.slice Ak qk.length ck)) := fun W hW => SK W (hW.block O ol7) (hW.block gv gl7)
                    go_wp2_with fail
                    refine wp_region_D (fun w' => w'.cell? ⟨O, 0, none⟩ = some (.slice (some ⟨gv, 0, none⟩) us.length cv) ∧ w'.cell? ⟨gv, kk, none⟩ = some (Value.slice Ak qk.length ck)) (fun i => decide (i < 11)) (by kernel_rfl) ?_
                    have hHeld := SKB _ (Below.refl we.heap.size we).drew
                    refine wpAnyD_take (i := 0) (oi := ⟨some 84, Op.fieldAddr 41 (Operand.tmp 5) 0, 0, _, _, _⟩) (v := ?_) rfl (by kernel_rfl) (by kernel_rfl) (by kernel_rfl) (by kernel_rfl) (fun _ _ _ h => h) (by rfl) ?hyg0 hHeld ?hrg0
                    case hyg0 => (intro wS hSw; (try dsimp only at hSw); go_simp; (try with_reducible rfl))
                    all_goals try (simp only [Act.put, List.setIfInBounds_toArray, List.set_cons_zero, List.set_cons_succ])
                    refine wpAnyD_take (i := 1) (oi := ⟨some 85, Op.load 39 (Operand.tmp 84), 39, _, _, _⟩) (v := ?_) rfl (by kernel_rfl) (by kernel_rfl) (by kernel_rfl) (by kernel_rfl) (fun _ _ _ h => h) (by rfl) ?hyg1 hHeld ?hrg1
                    case hyg1 => (intro wS hSw; (try dsimp only at hSw); go_simp; (try with_reducible rfl))
                    all_goals try (simp only [Act.put, List.setIfInBounds_toArray, List.set_cons_zero, List.set_cons_succ])
                    refine wpAnyD_take (i := 2) (oi := ⟨some 86, Op.move (Operand.tmp 8), 3, _, _, _⟩) (v := ?_) rfl (by kernel_rfl) (by kernel_rfl) (by kernel_rfl) (by kernel_rfl) (fun _ _ _ h => h) (by rfl) ?hyg2 hHeld ?hrg2
                    case hyg2 => (intro wS hSw; (try dsimp only at hSw); go_simp; (try with_reducible rfl))
                    all_goals try (simp only [Act.put, List.setIfInBounds_toArray, List.set_cons_zero, List.set_cons_succ])
                    refine wpAnyD_take (i := 3) (oi := ⟨some 87, Op.fieldAddr 41 (Operand.tmp 5) 0, 0, _, _, _⟩) (v := ?_) rfl (by kernel_rfl) (by kernel_rfl) (by kernel_rfl) (by kernel_rfl) (fun _ _ _ h => h) (by rfl) ?hyg3 hHeld ?hrg3
                    case hyg3 => (intro wS hSw; (try dsimp only at hSw); go_simp; (try with_reducible rfl))
                    all_goals try (simp only [Act.put, List.setIfInBounds_toArray, List.set_cons_zero, List.set_cons_succ])
                    refine wpAnyD_take (i := 4) (oi := ⟨some 88, Op.load 39 (Operand.tmp 87), 39, _, _, _⟩) (v := ?_) rfl (by kernel_rfl) (by kernel_rfl) (by kernel_rfl) (by kernel_rfl) (fun _ _ _ h => h) (by rfl) ?hyg4 hHeld ?hrg4
                    case hyg4 => (intro wS hSw; (try dsimp only at hSw); go_simp; (try with_reducible rfl))
                    all_goals try (simp only [Act.put, List.setIfInBounds_toArray, List.set_cons_zero, List.set_cons_succ])
                    refine wpAnyD_take (i := 5) (oi := ⟨some 89, Op.move (Operand.tmp 8), 3, _, _, _⟩) (v := ?_) rfl (by kernel_rfl) (by kernel_rfl) (by kernel_rfl) (by kernel_rfl) (fun _ _ _ h => h) (by rfl) ?hyg5 hHeld ?hrg5
                    case hyg5 => (intro wS hSw; (try dsimp only at hSw); go_simp; (try with_reducible rfl))
                    all_goals try (simp only [Act.put, List.setIfInBounds_toArray, List.set_cons_zero, List.set_cons_succ])
                    refine wpAnyD_take (i := 6) (oi := ⟨some 90, Op.indexAddr 39 (Operand.tmp 88) (Operand.tmp 89), 0, _, _, _⟩) (v := ?_) rfl (by kernel_rfl) (by kernel_rfl) (by kernel_rfl) (by kernel_rfl) (fun _ _ _ h => h) (by rfl) ?hyg6 hHeld ?hrg6
                    case hyg6 => (intro wS hSw; (try dsimp only at hSw); go_simp; (try with_reducible rfl))
                    all_goals try (simp only [Act.put, List.setIfInBounds_toArray, List.set_cons_zero, List.set_cons_succ])
                    refine wpAnyD_take (i := 7) (oi := ⟨some 91, Op.load 61 (Operand.tmp 90), 61, _, _, _⟩) (v := ?_) rfl (by kernel_rfl) (by kernel_rfl) (by kernel_rfl) (by kernel_rfl) (fun _ _ _ h => h) (by rfl) ?hyg7 hHeld ?hrg7
                    case hyg7 => (intro wS hSw; (try dsimp only at hSw); go_simp; (try with_reducible rfl))
                    all_goals try (simp only [Act.put, List.setIfInBounds_toArray, List.set_cons_zero, List.set_cons_succ])
                    refine wpAnyD_take (i := 8) (oi := ⟨some 92, Op.build 36 #[(0, Operand.const (Value.string { data := #[97] }))], 36, _, _, _⟩) (v := ?_) rfl (by kernel_rfl) (by kernel_rfl) (by kernel_rfl) (by kernel_rfl) (fun _ _ _ h => h) (by rfl) ?hyg8 hHeld ?hrg8
                    case hyg8 => (intro wS hSw; (try dsimp only at hSw); go_simp; (try with_reducible rfl))
                    all_goals try (simp only [Act.put, List.setIfInBounds_toArray, List.set_cons_zero, List.set_cons_succ])
                    refine wpAnyD_one (i := 9) (oi := ⟨some 93, Op.buildSlice 61 1 #[(0, Operand.tmp 92)], 61, _, _, _⟩) rfl (by kernel_rfl) (by rfl) (fun K hK => ?_)
                    go_simp
                    refine hK _ _ (fun _ => ?_) ?_
                    · exact SKB _ ((Below.refl we.heap.size we).alloc (Nat.le_refl _) _).drew
                    clear hHeld
                    have hHeld := SKB _ ((Below.refl we.heap.size we).alloc (Nat.le_refl _) (.cells #[.string ⟨#[97]⟩, .string ⟨#[]⟩, .int .i64 0, .int .i64 0] 36)).drew
                    clear hK K
                    try simp only [Act.put, List.setIfInBounds_toArray, List.set_cons_zero, List.set_cons_succ]
                    refine wpAnyD_one (i := 10) (oi := ⟨some 94, Op.call { callee := Callee.builtin Builtin.append, args := #[Operand.tmp 91, Operand.tmp 93], argTypes := #[61, 61] }, 61, _, _, _⟩) rfl (by kernel_rfl) (by rfl) (fun K hK => ?_)
                    refine wp_push (α := Word) _ (.tmp 91) (.tmp 93) 61 rfl 0 36 (.agg #[.string ⟨#[]⟩, .string ⟨#[]⟩, .int .i64 0, .int .i64 0]) 48 Tryd.underlying61 word_info rfl (by decide) (Value.slice Ak qk.length ck) qk rfl (HROW7.out.alloc _).drew we.heap.size _ (⟨⟨#[97]⟩, ⟨#[]⟩, 0, 0⟩ : Word) (0, 0) 36 rfl (heap_alloc_new we _) ⟨rfl, ⟨by simp [maxLen]; decide, by simp [maxLen]; decide, by constructor <;> decide, by constructor <;> decide⟩⟩ (by omega) (by omega) (by simp) _ rfl ?_
                    intro g8 cap8 w8 hown8 hg8 hat8 hlt8
                    have k8 : ∀ b, b < we.heap.size → some b ≠ (Value.slice Ak qk.length ck).ownBlock → w8.heap[b]? = we.heap[b]? := fun b hb hne => (hg8.block b (by simp; omega) hne).trans (Below.heap_alloc we (.cells #[.string ⟨#[97]⟩, .string ⟨#[]⟩, .int .i64 0, .int .i64 0] 36) b hb)
                    have kO := k8 O ol7 (fun e => HNO.out e.symm)
                    have kg := k8 gv gl7 (fun e => HNE.out e.symm)
                    have f8 : ∀ o, w8.frozen? ⟨gv, o, none⟩ = false := fun o => (frozen_of kg o).trans (HFZ7.out o)
                    have c80 := (SK _ kO kg).1
                    have c81 := (SK _ kO kg).2
                    refine hK _ _ (fun _ => ?_) ?_
                    · exact SK _ kO kg
                    clear hHeld
                    have hHeld := SK _ kO kg
                    clear hK K
                    try simp only [Act.put, List.setIfInBounds_toArray, List.set_cons_zero, List.set_cons_succ]
                    refine wpAnyD_one (i := 11) (oi := ⟨some 95, Op.indexAddr 39 (Operand.tmp 85) (Operand.tmp 86), 0, _, _, _⟩) rfl (by kernel_rfl) (by rfl) (fun K hK => ?_)
                    go_simp
                    refine hK _ _ (fun h => absurd h (by decide)) ?_
                    clear hK K
                    try simp only [Act.put, List.setIfInBounds_toArray, List.set_cons_zero, List.set_cons_succ]
                    refine wpAnyD_one (i := 12) (oi := ⟨none, Op.store 61 (Operand.tmp 95) (Operand.tmp 94), 0, _, _, _⟩) rfl (by kernel_rfl) (by rfl) (fun K hK => ?_)
                    go_simp
                    refine hK _ _ (fun h => absurd h (by decide)) ?_
                    clear hK K
                    try simp only [Act.put, List.setIfInBounds_toArray, List.set_cons_zero, List.set_cons_succ]
                    refine wpAnyD_done (by kernel_rfl) ?_ _
                    have hst8 := Lib.hid (hst7.out.setRow kk hu9 rfl (u := ⟨.slice (some ⟨g8, 0, none⟩) (qk.length + 1) cap8, rfl⟩) (p := qk ++ [(⟨⟨#[97]⟩, ⟨#[]⟩, 0, 0⟩ : Word)])
                      ((hst7.out.b.alloc hst7.out.b.size (.cells #[.string ⟨#[97]⟩, .string ⟨#[]⟩, .int .i64 0, .int .i64 0] 36)).drew.grown hg8 (by have := hst7.out.b.size; simp; omega) (fun g e => HLOW.out g e))
                      (by have := hg8.size; simp at this; omega) (fun b hb hne => k8 b hb (by rw [← HEK.out]; exact hne)) hown8
                      (fun g e => by rw [HEK.out]; rcases hat8 with h | h; exact .inl (h.trans e); exact .inr (by have e' : g8 = g := Option.some.inj e; simp at h; omega)))
                    have hc8 : (w8.setCell ⟨gv, kk, none⟩ (.slice (some ⟨g8, 0, none⟩) (qk.length + 1) cap8)).cell? ⟨gv, kk, none⟩ = some (.slice (some ⟨g8, 0, none⟩) (qk.length + 1) cap8) := by
                      obtain ⟨g5, _, hu5, ev5, _, _, _, hc5, _⟩ := hst8.out.n.at_ (k := kk) (by rw [List.length_set]; exact hkp')
                      obtain rfl : gv = g5 := by have := (Value.slice.inj ev5).1; injection this with this; injection this
                      rw [List.getElem_set_self] at hc5
                      exact hc5
                    have HC8 := Lib.hid hc8
                    have hps8 : Hid ((us'.set kk ⟨.slice (some ⟨g8, 0, none⟩) (qk.length + 1) cap8, rfl⟩).length = us.length ∧ (us'.set kk ⟨.slice (some ⟨g8, 0, none⟩) (qk.length + 1) cap8, rfl⟩).length = (ps'.set kk (qk ++ [(⟨⟨#[97]⟩, ⟨#[]⟩, 0, 0⟩ : Word)])).length ∧ ∀ p ∈ ps'.set kk (qk ++ [(⟨⟨#[97]⟩, ⟨#[]⟩, 0, 0⟩ : Word)]), p.length ≤ 503) := Lib.hid ⟨by rw [List.length_set]; exact hps.out.1, by rw [List.length_set, List.length_set]; exact hps.out.2.1, fun p hp => (List.mem_or_eq_of_mem_set hp).elim (hps.out.2.2 p) (fun e => by rw [e, List.length_append]; simp; omega)⟩
                    clear hc8 k8 kO kg f8 c80 c81 hown8 hg8 hat8 hlt8 hHeld SK SKB o7 c7 ol7 gl7 hltI hst hst7
                    try unfold Exit.then
                    go_wp2_with fail
                    go_roundw
                    case rel => exact ⟨_, _, _, _, hst8, hps8⟩
                    case measure =>
                      rw [HC8.out, OE.out]
                      show 600 - (qk.length + 1) < 600 - qk.length
                      omega
                  · have hltI : ¬ (qk.length : Int) < 499 + (rr : Int) := by omega
                    go_wp2_with fail
                    refine wp_region_calm (by kernel_rfl) (by kernel_rfl) ?_
                    intro T5 hT5 f hf hg
                    have a0 : ∀ d, (f d).cell? ⟨O, 0, none⟩ = some (.slice (some ⟨gv, 0, none⟩) us.length cv) := fun d => ((hf d).cell (p := ⟨O, 0, none⟩) (holt)).trans o0
                    have a1 : ∀ d, (f d).cell? ⟨w.heap.size + 1, 2, none⟩ = some (.int .i64 s.n) := fun d => ((hf d).cell (p := ⟨w.heap.size + 1, 2, none⟩) (by have := HO.out; show w.heap.size + 1 < _; omega)).trans s2
                    have a2 : ∀ d, (f d).cell? ⟨gv, kk, none⟩ = some (.slice Ak qk.length ck) := fun d => ((hf d).cell (p := ⟨gv, kk, none⟩) (hgl9)).trans hcell9
                    have HF5 := Lib.hid hf
                    have HG5 := Lib.hid hg
                    clear hf hg
                    repeat (go_big_quiet_step (first
                      | (go_at_call 18; refine (HAR.out _).mono ?_; rintro e w6 ⟨rfl, rfl⟩; exact ⟨rfl, HG5.out _ _ (Below.refl _ _)⟩)))
                    refine wpQuiet_nil ?_
                    rintro _ ⟨nq, rfl⟩
                    have Hd := Lib.hid (HF5.out nq)
                    clear HF5 HG5 a0 a1 a2
                    generalize f nq = we at *
                    have hst7 := Lib.hid (hst.out.below Hd.out)
                    clear hst o0 s2 holt Hd hlt hcell9 hgl9
                    go_upto_region 31 with fail
                    clear hltI
                    have hF := hst7.out.fin (by have := hps.out.1; have := hps.out.2.1; omega) (by have := HLN.out; omega) (fun p hp => by have := hps.out.2.2 p hp; omega) (fun p hp => by have := HQ6.out p hp; omega)
                    have r0 := hF.r.c0
                    have r1 := hF.r.c1
                    have rf := hF.r.fz
                    have q0 := hF.o.c0
                    have q1 := hF.o.c1
                    obtain ⟨A9, c9, B9, d9, e9, f9, htx9, hb9⟩ := hF.done
                    have HE9 := Lib.hid e9
                    have HF9 := Lib.hid f9
                    have HT9 := Lib.hid htx9
                    have HB9 := Lib.hid hb9
                    clear e9 f9 htx9 hb9 hF
                    go_wp2_with fail
                    refine bodyPost_ret (v := .agg #[.slice (some ⟨gv, 0, none⟩) us.length cv, .slice An un.length cn]) (by simp [results, Tryd.results24, go_sem, r0, r1]) rfl ⟨A9, c9, B9, d9, _, _, by rw [HE9.out, HF9.out], HT9.out, HB9.out⟩
end Go.Proofs.YtgnblofjjondpaaDoor
