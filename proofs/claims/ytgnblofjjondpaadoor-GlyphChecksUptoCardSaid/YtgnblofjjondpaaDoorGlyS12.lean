/- GlyphChecks: what the law answers. No condition but what the tables hold and the sizes of the text. -/
import Derived.Test.YtgnblofjjondpaaDoorGlyLaw2
import Derived.Test.YtgnblofjjondpaaDoorGlyW19
import Derived.Test.YtgnblofjjondpaaDoorGlyW16
import Derived.Test.YtgnblofjjondpaaDoorGlyLives
import Derived.Test.YtgnblofjjondpaaDoorCalm
namespace Go.Proofs.YtgnblofjjondpaaDoor
open Go.RowKit
theorem GText.len40 {ls ns : List (List Word)} (h : GText ls ns) : ∀ p ∈ ls ++ ns, p.length ≤ 40 := by
  intro p hp
  rcases List.mem_append.1 hp with hp | hp
  · exact (h.p p hp).2.1
  · have := (h.q p hp).2.1; omega
theorem SBox.to {w w' : World} {X : Nat} {s : Spoil} (h : SBox w X s) (hb : Below w.heap.size w w') : SBox w' X s := (hb.block X (Array.getElem?_eq_some_iff.1 h).1).trans h
theorem SBox.lt {w : World} {X : Nat} {s : Spoil} (h : SBox w X s) : X < w.heap.size := (Array.getElem?_eq_some_iff.1 h).1
theorem SBox.cells {w : World} {X : Nat} {s : Spoil} (h : SBox w X s) : w.cell? ⟨X, 0, none⟩ = some (.int .i64 s.what) ∧ w.cell? ⟨X, 1, none⟩ = some (.int .i64 s.at_) ∧ w.cell? ⟨X, 2, none⟩ = some (.int .i64 s.n) ∧ w.cell? ⟨X, 3, none⟩ = some (.string s.x.s) ∧ w.cell? ⟨X, 4, none⟩ = some (.string s.x.key) ∧ w.cell? ⟨X, 5, none⟩ = some (.int .i64 s.x.t) ∧ w.cell? ⟨X, 6, none⟩ = some (.int .i64 s.x.n) :=
  ⟨cell_of_row w X 0 _ _ _ h, cell_of_row w X 1 _ _ _ h, cell_of_row w X 2 _ _ _ h, cell_of_row w X 3 _ _ _ h, cell_of_row w X 4 _ _ _ h, cell_of_row w X 5 _ _ _ h, cell_of_row w X 6 _ _ _ h⟩
set_option maxRecDepth 100000 in
set_option maxHeartbeats 4000000 in
theorem checks_any (Al : Option Addr) (cl : Nat) (l : List Int) (s : Spoil) (A B : Option Addr) (c d : Nat) (a b : List (List Word)) (w : World) (hl : Sl w (fun b => b < w.heap.size) Al cl l) (h1 : I64 s.what) (h2 : I64 s.at_) (h3 : I64 s.n) (hx : s.x.ok) (htx : TX w A c B d a b) (hT : Tabs w) :
    Calls Tryd.prog 5 #[.slice Al l.length cl, s.val, .agg #[.slice A a.length c, .slice B b.length d]] w fun e w' => e = .returned (.bool true) ∧ Below w.heap.size w w' := by
  have HSP := Lib.hid (fun (A B : Option Addr) (c d : Nat) (ls ns : List (List Word)) (w : World) (htx : TX w A c B d ls ns) (hg : GText ls ns) => spoilt_any A B c d ls ns s w htx hg.l4 hg.n3 hg.len40 h1 h2 h3 hx)
  unfold Spoil.val at HSP ⊢
  have HL := Lib.hid hl
  have HX := Lib.hid htx
  have HT := Lib.hid hT
  clear hl h1 h2 h3 hx htx hT
  go_enter Tryd.func5, Tryd.ntmps5
  go_wp2_with fail
  obtain ⟨w1, hw1⟩ : ∃ w1, w1 = ((w.alloc (.cells #[.int .i64 s.what, .int .i64 s.at_, .int .i64 s.n, .string s.x.s, .string s.x.key, .int .i64 s.x.t, .int .i64 s.x.n] 38)).alloc (.cells #[.slice A a.length c, .slice B b.length d] 41)) := ⟨_, rfl⟩
  have hb1 : Below w.heap.size w w1 := by subst hw1; exact ((Below.refl _ _).alloc (Nat.le_refl _) _).alloc (by simp) _
  have HY : Hid (TBox w1 (w.heap.size + 1) (.slice A a.length c) (.slice B b.length d)) := by subst hw1; exact Lib.hid ⟨heap_at (by simp)⟩
  have HSB : Hid (SBox w1 w.heap.size s) := by subst hw1; exact Lib.hid ((Below.heap_alloc _ _ _ (by simp)).trans (heap_at rfl))
  have HL1 := Lib.hid (HL.out.to hb1)
  have HX1 := Lib.hid (HX.out.to hb1)
  have Hb1 := Lib.hid hb1
  rw [← hw1]
  clear hw1 hb1 HL HX
  refine (text_any Al cl l _ HL1.out).mono ?_
  rintro e w2 hit
  obtain ⟨A1, c1, A2, c2, ls, ns, rfl, hg, htx, hb2⟩ := hit.open
  have HG := Lib.hid hg
  have hb4 := (Below.refl w2.heap.size w2).alloc (Nat.le_refl _) (.cells #[.slice A1 ls.length c1, .slice A2 ns.length c2] 41)
  have HP : Hid (TBox (w2.alloc (.cells #[.slice A1 ls.length c1, .slice A2 ns.length c2] 41)) w2.heap.size (.slice A1 ls.length c1) (.slice A2 ns.length c2)) := Lib.hid ⟨heap_alloc_new w2 _⟩
  have HTX := Lib.hid (htx.to hb4)
  have Hb24 := Lib.hid (hb2.trans (hb4.mono hb2.size))
  have HT3 := Lib.hid (HT.out.to (Hb1.out.trans (Hb24.out.mono Hb1.out.size)))
  have HY3 := Lib.hid (HY.out.below Hb24.out)
  have HSB3 := Lib.hid (HSB.out.to Hb24.out)
  have HX3 := Lib.hid (HX1.out.to Hb24.out)
  have Hb3 := Lib.hid (Hb1.out.trans (Hb24.out.mono Hb1.out.size))
  clear hg htx hb2 hb4 hit HY HSB HX1 HL1 Hb24 Hb1 HT
  go_upto_region 2 with (fail)
  generalize (w2.alloc (.cells #[.slice A1 ls.length c1, .slice A2 ns.length c2] 41)) = w3 at *
  generalize w2.heap.size = P at *
  generalize w.heap.size + 1 = Y at *
  have p0 := HP.out.c0
  have p1 := HP.out.c1
  obtain ⟨s0, s1, s2, s3, s4, s5, s6⟩ := HSB3.out.cells
  go_wp2_with fail
  refine (HSP.out _ _ _ _ _ _ _ HTX.out HG.out).mono ?_
  rintro e w4 ⟨A4, c4, B4, d4, xs, ys, rfl, htx4, hb4⟩
  have hb5 := (Below.refl w4.heap.size w4).alloc (Nat.le_refl _) (.cells #[.slice A4 xs.length c4, .slice B4 ys.length d4] 41)
  have Hb45 := Lib.hid (hb4.trans (hb5.mono hb4.size))
  have HQ : Hid (TBox (w4.alloc (.cells #[.slice A4 xs.length c4, .slice B4 ys.length d4] 41)) w4.heap.size (.slice A4 xs.length c4) (.slice B4 ys.length d4)) := Lib.hid ⟨heap_alloc_new w4 _⟩
  have HTX4 := Lib.hid (htx4.to hb5)
  have HP4 := Lib.hid (HP.out.below Hb45.out)
  have HY4 := Lib.hid (HY3.out.below Hb45.out)
  have HX4 := Lib.hid (HX3.out.to Hb45.out)
  have HTX3 := Lib.hid (HTX.out.to Hb45.out)
  have HT4 := Lib.hid (HT3.out.to Hb45.out)
  have Hb := Lib.hid (Hb3.out.trans (Hb45.out.mono Hb3.out.size))
  clear htx4 hb4 hb5 Hb45 HP HY3 HX3 HTX HT3 Hb3 HSB3 s0 s1 s2 s3 s4 s5 s6 p0 p1 HSP
  go_upto_region 3 with (fail)
  generalize (w4.alloc (.cells #[.slice A4 xs.length c4, .slice B4 ys.length d4] 41)) = w5 at *
  generalize w4.heap.size = Q at *
  have HC1 := Lib.hid (fun W (h : TX W A1 c1 A2 c2 ls ns) (hT : Tabs W) => (gcheck_any A1 A2 c1 c2 ls ns W hT.1 h.sa h.sb h.la h.lb))
  rw [HG.out.chk] at HC1
  have HC2 := Lib.hid (fun W (h : TX W A4 c4 B4 d4 xs ys) (hT : Tabs W) => (gcheck_any A4 B4 c4 d4 xs ys W hT.1 h.sa h.sb h.la h.lb))
  have HC3 := Lib.hid (fun W (h : TX W A4 c4 B4 d4 xs ys) => (rcheck_any A4 B4 c4 d4 xs ys W h.sa h.sb h.la h.lb))
  generalize chkOf xs ys = k1 at *
  have HC4 := Lib.hid (fun W (h : TX W A c B d a b) (hT : Tabs W) => (gcheck_any A B c d a b W hT.1 h.sa h.sb h.la h.lb))
  have HC5 := Lib.hid (fun W (h : TX W A c B d a b) => (rcheck_any A B c d a b W h.sa h.sb h.la h.lb))
  generalize chkOf a b = k2 at *
  have hpl := HP4.out.lt
  have hyl := HY4.out.lt
  have hql := HQ.out.lt
  refine wp_region_calm (by kernel_rfl) (by kernel_rfl) ?_
  intro T5 hT5 f hf hg
  have a0 : ∀ d, (f d).cell? ⟨P, 0, none⟩ = some (.slice A1 ls.length c1) := fun d => ((hf d).cell (p := ⟨P, 0, none⟩) hpl).trans HP4.out.c0
  have a1 : ∀ d, (f d).cell? ⟨P, 1, none⟩ = some (.slice A2 ns.length c2) := fun d => ((hf d).cell (p := ⟨P, 1, none⟩) hpl).trans HP4.out.c1
  have a2 : ∀ d, (f d).cell? ⟨Q, 0, none⟩ = some (.slice A4 xs.length c4) := fun d => ((hf d).cell (p := ⟨Q, 0, none⟩) hql).trans HQ.out.c0
  have a3 : ∀ d, (f d).cell? ⟨Q, 1, none⟩ = some (.slice B4 ys.length d4) := fun d => ((hf d).cell (p := ⟨Q, 1, none⟩) hql).trans HQ.out.c1
  have a4 : ∀ e, (f e).cell? ⟨Y, 0, none⟩ = some (.slice A a.length c) := fun e => ((hf e).cell (p := ⟨Y, 0, none⟩) hyl).trans HY4.out.c0
  have a5 : ∀ e, (f e).cell? ⟨Y, 1, none⟩ = some (.slice B b.length d) := fun e => ((hf e).cell (p := ⟨Y, 1, none⟩) hyl).trans HY4.out.c1
  have HF5 := Lib.hid hf
  have HG5 := Lib.hid hg
  clear hf hg
  repeat (go_big_quiet_step (first
    | (go_at_call 25; with_reducible refine Calls.mono (HC1.out _ (HTX3.out.to (HF5.out _)) (HT4.out.to (HF5.out _))) ?_; rintro e w6 ⟨rfl, hb6⟩; exact ⟨rfl, HG5.out _ _ hb6⟩)
    | (go_at_call 25; with_reducible refine Calls.mono (HC2.out _ (HTX4.out.to (HF5.out _)) (HT4.out.to (HF5.out _))) ?_; rintro e w6 ⟨rfl, hb6⟩; exact ⟨rfl, HG5.out _ _ hb6⟩)
    | (go_at_call 25; with_reducible refine Calls.mono (HC4.out _ (HX4.out.to (HF5.out _)) (HT4.out.to (HF5.out _))) ?_; rintro e w6 ⟨rfl, hb6⟩; exact ⟨rfl, HG5.out _ _ hb6⟩)
    | (go_at_call 26; with_reducible refine Calls.mono (HC3.out _ (HTX4.out.to (HF5.out _))) ?_; rintro e w6 ⟨rfl, hb6⟩; exact ⟨rfl, HG5.out _ _ hb6⟩)
    | (go_at_call 26; with_reducible refine Calls.mono (HC5.out _ (HX4.out.to (HF5.out _))) ?_; rintro e w6 ⟨rfl, hb6⟩; exact ⟨rfl, HG5.out _ _ hb6⟩)
    | (go_at_call 17; refine (lives_any _ (HT4.out.to (HF5.out _))).mono ?_; rintro e w6 ⟨rfl, hb6⟩; exact ⟨rfl, HG5.out _ _ hb6⟩)))
  refine wpQuiet_nil ?_
  rintro _ ⟨nq, rfl⟩
  have Hd := Lib.hid (Hb.out.trans ((HF5.out nq).mono Hb.out.size))
  clear HF5 HG5 a0 a1 a2 a3 a4 a5
  generalize f nq = wd at *
  go_wp2_with fail
  go_ret
  exact ⟨rfl, Hd.out⟩
end Go.Proofs.YtgnblofjjondpaaDoor
