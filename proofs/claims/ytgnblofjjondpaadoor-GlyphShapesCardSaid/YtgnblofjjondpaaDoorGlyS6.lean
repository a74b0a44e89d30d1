/- GlyphCounts: what the law answers. No condition but what the tables hold and the sizes of the text. -/
import Derived.Test.YtgnblofjjondpaaDoorGlyTX
import Derived.Test.YtgnblofjjondpaaDoorGlyS1
import Derived.Deep.CutRange
namespace Go.Proofs.YtgnblofjjondpaaDoor
open Go.RowKit
/-- Two texts in one row. -/
theorem two_texts {w : World} {Z : Nat} {A1 A2 A B : Option Addr} {c1 c2 c d : Nat} {ls ns a b : List (List Word)} {t : TypeId} {fr : Nat × Nat} (hZ : w.heap[Z]? = some (.cells #[.slice A1 ls.length c1, .slice A2 ns.length c2, .slice A a.length c, .slice B b.length d] t fr))
    (h1 : TX w A1 c1 A2 c2 ls ns) (h2 : TX w A c B d a b) (k : Nat) (hk : k < 2) :
    ∃ A' c' B' d' a' b', w.cell? ⟨Z, k * 2, none⟩ = some (.slice A' (List.length a') c') ∧ w.cell? ⟨Z, k * 2 + 1, none⟩ = some (.slice B' (List.length b') d') ∧ TX w A' c' B' d' a' b' := by
  have : k = 0 ∨ k = 1 := by omega
  rcases this with rfl | rfl
  · exact ⟨A1, c1, A2, c2, ls, ns, cell_of_row w Z 0 _ _ _ hZ, cell_of_row w Z 1 _ _ _ hZ, h1⟩
  · exact ⟨A, c, B, d, a, b, cell_of_row w Z 2 _ _ _ hZ, cell_of_row w Z 3 _ _ _ hZ, h2⟩
/-- A variable that holds a word. -/
def WBox (w : World) (P : Nat) (x : Word) : Prop := w.heap[P]? = some (.cells #[.string x.s, .string x.key, .int .i64 x.t, .int .i64 x.n] 36)
theorem WBox.to {w w' : World} {P : Nat} {x : Word} (h : WBox w P x) (hb : Below w.heap.size w w') : WBox w' P x := (hb.block P (Array.getElem?_eq_some_iff.1 h).1).trans h
theorem WBox.cells {w : World} {P : Nat} {x : Word} (h : WBox w P x) : w.cell? ⟨P, 0, none⟩ = some (.string x.s) ∧ w.cell? ⟨P, 1, none⟩ = some (.string x.key) ∧ w.cell? ⟨P, 2, none⟩ = some (.int .i64 x.t) ∧ w.cell? ⟨P, 3, none⟩ = some (.int .i64 x.n) :=
  ⟨cell_of_row w P 0 _ _ _ h, cell_of_row w P 1 _ _ _ h, cell_of_row w P 2 _ _ _ h, cell_of_row w P 3 _ _ _ h⟩
theorem WBox.fz {w : World} {P : Nat} {x : Word} (h : WBox w P x) (o : Nat) : w.frozen? ⟨P, o, none⟩ = false := by
  unfold WBox at h; simp [World.frozen?, h]
theorem WBox.set {w : World} {P : Nat} {y : Word} (h : WBox w P y) (x : Word) : WBox ((((w.setCell ⟨P, 0, none⟩ (.string x.s)).setCell ⟨P, 1, none⟩ (.string x.key)).setCell ⟨P, 2, none⟩ (.int .i64 x.t)).setCell ⟨P, 3, none⟩ (.int .i64 x.n)) P x :=
  heap_set_at _ P 3 _ (heap_set_at _ P 2 _ (heap_set_at _ P 1 _ (heap_set_at _ P 0 _ h)))
set_option maxRecDepth 100000 in
set_option maxHeartbeats 4000000 in
theorem counts_any (Al : Option Addr) (cl : Nat) (l : List Int) (A B : Option Addr) (c d : Nat) (a b : List (List Word)) (n : Int) (w : World) (hl : Sl w (fun b => b < w.heap.size) Al cl l) (hx : TX w A c B d a b) (hn : I64 n) (hT : Tabs w) :
    Calls Tryd.prog 6 #[.slice Al l.length cl, .agg #[.slice A a.length c, .slice B b.length d], .int .i64 n] w fun e w' => e = .returned (.bool true) ∧ Below w.heap.size w w' := by
  have hb0 := ((Below.refl w.heap.size w).alloc (Nat.le_refl _) (.cells #[.slice A a.length c, .slice B b.length d] 41))
  have hy : TBox (w.alloc (.cells #[.slice A a.length c, .slice B b.length d] 41)) w.heap.size (.slice A a.length c) (.slice B b.length d) := ⟨heap_alloc_new w _⟩
  have HL := Lib.hid (hl.to hb0)
  have HX := Lib.hid (hx.to hb0)
  have HT := Lib.hid hT
  have HN := Lib.hid hn
  have Hb0 := Lib.hid hb0
  clear hl hx hT hn hb0
  go_enter Tryd.func6, Tryd.ntmps6
  go_wp2_with fail
  generalize (w.alloc (.cells #[.slice A a.length c, .slice B b.length d] 41)) = w1 at *
  have t0 := hy.c0
  have t1 := hy.c1
  have hz := hy.lt
  clear hy
  go_region_held3 (fun w' => w'.cell? ⟨w.heap.size, 0, none⟩ = some (.slice A a.length c) ∧ w'.cell? ⟨w.heap.size, 1, none⟩ = some (.slice B b.length d)) (go_keep)
    (first
      | (go_at_call 23; refine (text_any Al cl l _ HL.out.drew).mono ?_; rintro e w2 hit; obtain ⟨A1, c1, A2, c2, ls, ns, rfl, hg, htx, hb2⟩ := hit.open; have f0 := (hb2.cell (p := ⟨w.heap.size, 0, none⟩) hz).trans t0; have f1 := (hb2.cell (p := ⟨w.heap.size, 1, none⟩) hz).trans t1; have n0 := World.new_ne w2 _ f0)
      | fail)
  have hb3 := (Below.refl w1.heap.size w1).drew.trans hb2
  have hZ := heap_alloc_new w2 (.cells #[.slice A1 ls.length c1, .slice A2 ns.length c2, .slice A a.length c, .slice B b.length d] 41)
  have hb4 := (Below.refl w2.heap.size w2).alloc (Nat.le_refl _) (.cells #[.slice A1 ls.length c1, .slice A2 ns.length c2, .slice A a.length c, .slice B b.length d] 41)
  have HTW := Lib.hid (fun k hk => two_texts hZ (htx.to hb4) ((HX.out.to hb3).to hb4) k hk)
  have Hb4 := Lib.hid (Hb0.out.trans (hb3.trans (hb4.mono hb3.size) |>.mono Hb0.out.size))
  clear f0 f1 n0 hit hg htx hb2 hb3 hb4 hZ t0 t1 hz HX HL
  unfold Exit.then
  go_wp2_with fail
  generalize (w2.alloc (.cells #[.slice A1 ls.length c1, .slice A2 ns.length c2, .slice A a.length c, .slice B b.length d] 41)) = w3 at *
  generalize w2.heap.size = Z at *
  go_loopw [8, 9, 10, 11, 12, 13, 14, 15] (fun i _ _ _ _ _ _ _ wr => ∃ k : Nat, k ≤ 2 ∧ i = .int .i64 k ∧ Below w3.heap.size w3 wr) (fun i _ _ _ _ _ _ _ _ => 2 - (intOf i).toNat)
  case atStart => exact ⟨0, by omega, rfl, Below.refl _ _⟩
  case round =>
    obtain ⟨k, hk, rfl, hb⟩ := hrel
    have Hb := Lib.hid hb
    clear hb
    by_cases hlt : k < 2
    · obtain ⟨Ak, ck, Bk, dk, ak, bk, q0, q1, htx⟩ := HTW.out k hlt
      have r0 := Hb.out.cell (p := ⟨Z, k * 2, none⟩) (World.block_lt_of_cell? w3 _ q0) |>.trans q0
      have r1 := Hb.out.cell (p := ⟨Z, k * 2 + 1, none⟩) (World.block_lt_of_cell? w3 _ q1) |>.trans q1
      have HTX := Lib.hid (htx.to Hb.out)
      have hk2 : (k : Int) < 2 := by omega
      have hk0 : (0 : Int) ≤ (k : Int) := by omega
      have htot := htx.t
      have HC := Lib.hid (fun W (h : TX W Ak ck Bk dk ak bk) => count_any Ak Bk ck dk ak bk W h.sa h.sb h.la h.lb (by omega))
      have HR := Lib.hid (fun W (h : TX W Ak ck Bk dk ak bk) => rcount_any Ak Bk ck dk ak bk W h.sa h.sb (by omega))
      generalize tot (ak ++ bk) = T at *
      clear q0 q1 htx
      go_wp2_with fail
      refine (HC.out _ HTX.out).mono ?_
      rintro e w5 ⟨rfl, hb5⟩
      have s0 := (hb5.cell (p := ⟨Z, k * 2, none⟩) (World.block_lt_of_cell? wr _ r0)).trans r0
      have s1 := (hb5.cell (p := ⟨Z, k * 2 + 1, none⟩) (World.block_lt_of_cell? wr _ r1)).trans r1
      have Hb5 := Lib.hid hb5
      clear hb5
      go_wp2_with fail
      refine (HR.out _ (HTX.out.to Hb5.out)).mono ?_
      rintro e w6 ⟨rfl, hb6⟩
      have u0 := (hb6.cell (p := ⟨Z, k * 2, none⟩) (World.block_lt_of_cell? w5 _ s0)).trans s0
      have u1 := (hb6.cell (p := ⟨Z, k * 2 + 1, none⟩) (World.block_lt_of_cell? w5 _ s1)).trans s1
      have Hb6 := Lib.hid (Hb5.out.trans (hb6.mono Hb5.out.size))
      clear hb6 s0 s1 r0 r1
      have hw2 : IntKind.i64.wrap ((T : Int) + 2) = (T : Int) + 2 := by rw [IntWalk.i64_in _ (by omega)]
      go_wp2_with fail
      refine (around_any n ((T : Int) + 2) _ HN.out (by omega) (by omega)).mono ?_
      rintro e w' ⟨rfl, rfl⟩
      obtain ⟨m0, m1⟩ := aro_lt n ((T : Int) + 2) (by omega)
      generalize aro n ((T : Int) + 2) = m at *
      have HI : Hid (I64 (m - 1)) := Lib.hid ⟨by omega, by omega⟩
      have HS := Lib.hid (sl_ints2 (heap_alloc_new w6 (.cells #[.int .i64 n, .int .i64 (m - 1)] 3)) HN.out HI.out)
      obtain ⟨xs, hxs⟩ : ∃ xs : List Int, xs = [n, m - 1] := ⟨_, rfl⟩
      have hlen : xs.length = 2 := by rw [hxs]; rfl
      rw [← hxs] at HS
      clear hxs
      have hb7 := (Below.refl w6.heap.size w6).alloc (Nat.le_refl _) (.cells #[.int .i64 n, .int .i64 (m - 1)] 3)
      have u2 := (hb7.cell (p := ⟨Z, k * 2, none⟩) (World.block_lt_of_cell? w6 _ u0)).trans u0
      have u3 := (hb7.cell (p := ⟨Z, k * 2 + 1, none⟩) (World.block_lt_of_cell? w6 _ u1)).trans u1
      have Hb7 := Lib.hid (Hb.out.trans ((Hb6.out.trans (hb7.mono Hb6.out.size)).mono Hb.out.size))
      have HTX7 := Lib.hid ((HTX.out.to Hb6.out).to hb7)
      clear hb7 u0 u1 Hb5 Hb6 HC HR hw2 HTX
      go_wp2_with fail
      generalize (w6.alloc (.cells #[.int .i64 n, .int .i64 (m - 1)] 3)) = w7 at *
      generalize (some (⟨w6.heap.size, 0, none⟩ : Addr)) = U at *
      go_loopw [11, 12, 13, 14, 15] (fun i _ _ _ _ wr => ∃ j : Nat, j ≤ 2 ∧ i = .int .i64 j ∧ Below w7.heap.size w7 wr) (fun i _ _ _ _ _ => 2 - (intOf i).toNat)
      case atStart => exact ⟨0, by omega, rfl, Below.refl _ _⟩
      case round =>
        obtain ⟨j, hj, rfl, hb⟩ := hrel
        by_cases hjl : j < 2
        · obtain ⟨bu, ou, rfl, _, hbl, hx, hc⟩ := int_at (HS.out.to hb) (show j < xs.length by omega)
          have hj2 : (j : Int) < 2 := by omega
          have hj0 : (0 : Int) ≤ (j : Int) := by omega
          generalize xs[j] = x at *
          have Hx := Lib.hid hx
          have v0 := (hb.cell (p := ⟨Z, k * 2, none⟩) (World.block_lt_of_cell? w7 _ u2)).trans u2
          have v1 := (hb.cell (p := ⟨Z, k * 2 + 1, none⟩) (World.block_lt_of_cell? w7 _ u3)).trans u3
          have z0 := World.block_lt_of_cell? wr _ v0
          have zc := World.block_lt_of_cell? wr _ hc
          have e1 : wr.heap.size ≠ Z := Nat.ne_of_gt z0
          have e2 : wr.heap.size ≠ bu := Nat.ne_of_gt zc
          have HG := Lib.hid (fun W (h : TX W Ak ck Bk dk ak bk) => gword_any Ak Bk ck dk ak bk x W Hx.out h.sa h.sb h.la h.lb (by have := h.t; omega))
          have HR := Lib.hid (fun W (h : TX W Ak ck Bk dk ak bk) => rword_any Ak Bk ck dk ak bk x W Hx.out h.sa h.sb (by have := h.t; omega))
          generalize wordOf (ak ++ bk) x = X at *
          generalize hasWord (ak ++ bk) x = ok at *
          have HTX8 := Lib.hid (HTX7.out.to hb)
          have Hb8 := Lib.hid hb
          clear hb hx u2 u3
          unfold Word.val at HG HR
          go_wp2_with fail
          go_cut [12, 13] from 43 to 78 (fun p q wx => ∃ P, p = .pointer (some ⟨P, 0, none⟩) ∧ q = .bool ok ∧ Hid (WBox wx P X) ∧ Hid (Below wr.heap.size wr wx))
          case first =>
            go_region_held3 (fun w' => w'.cell? ⟨Z, k * 2, none⟩ = some (.slice Ak ak.length ck) ∧ w'.cell? ⟨Z, k * 2 + 1, none⟩ = some (.slice Bk bk.length dk) ∧ w'.cell? ⟨bu, ou + j, none⟩ = some (.int .i64 x)) (go_keep)
              (first
                | (go_at_call 29; refine (HG.out _ (HTX8.out.to (Below.refl wr.heap.size wr).drew)).mono ?_; rintro e w8 ⟨rfl, hb8'⟩; have hb8 := (Below.refl wr.heap.size wr).drew.trans hb8'; clear hb8'; have g0 := (hb8.cell (p := ⟨Z, k * 2, none⟩) z0).trans v0; have g1 := (hb8.cell (p := ⟨Z, k * 2 + 1, none⟩) z0).trans v1; have g2 := (hb8.cell (p := ⟨bu, ou + j, none⟩) zc).trans hc; have n0 := World.new_ne w8 _ g0; have n2 := World.new_ne w8 _ g2)
                | (go_at_call 29; refine (HG.out _ (HTX8.out.to ((Below.refl wr.heap.size wr).alloc (Nat.le_refl _) _).drew)).mono ?_; rintro e w8 ⟨rfl, hb8'⟩; have hb8 := ((Below.refl wr.heap.size wr).alloc (Nat.le_refl _) (.cells #[.string ⟨#[]⟩, .string ⟨#[]⟩, .int .i64 0, .int .i64 0] 36)).drew.trans (hb8'.mono (by simp)); have g0 := (hb8.cell (p := ⟨Z, k * 2, none⟩) z0).trans v0; have g1 := (hb8.cell (p := ⟨Z, k * 2 + 1, none⟩) z0).trans v1; have g2 := (hb8.cell (p := ⟨bu, ou + j, none⟩) zc).trans hc; have hP : WBox w8 wr.heap.size noWord := (hb8'.block wr.heap.size (by simp)).trans (heap_alloc_new wr _); obtain ⟨y0, y1, y2, y3⟩ := hP.cells; have yf := hP.fz)
                | fail)
            all_goals unfold Exit.then
            all_goals go_wp2_with fail
            all_goals go_meet
            all_goals first
              | exact ⟨w8.heap.size, rfl, rfl, heap_alloc_new w8 _, hb8.alloc hb8.size _⟩
              | exact ⟨wr.heap.size, rfl, rfl, hP.set X, (((hb8.setCell (p := ⟨wr.heap.size, 0, none⟩) (Nat.le_refl _) _).setCell (p := ⟨wr.heap.size, 1, none⟩) (Nat.le_refl _) _).setCell (p := ⟨wr.heap.size, 2, none⟩) (Nat.le_refl _) _).setCell (p := ⟨wr.heap.size, 3, none⟩) (Nat.le_refl _) _⟩
          case rest =>
            obtain ⟨P, rfl, rfl, hwb, hbw⟩ := hcut
            have v0' := (hbw.out.cell (p := ⟨Z, k * 2, none⟩) z0).trans v0
            have v1' := (hbw.out.cell (p := ⟨Z, k * 2 + 1, none⟩) z0).trans v1
            have hc' := (hbw.out.cell (p := ⟨bu, ou + j, none⟩) zc).trans hc
            have HTX9 := Lib.hid (HTX8.out.to hbw.out)
            have z0' := World.block_lt_of_cell? wc _ v0'
            have zc' := World.block_lt_of_cell? wc _ hc'
            have e3 : wc.heap.size ≠ Z := Nat.ne_of_gt z0'
            have e4 : wc.heap.size ≠ bu := Nat.ne_of_gt zc'
            clear v0 v1 hc e1 e2 z0 zc
            go_wp2_with fail
            go_cut [14, 15] from 43 to 78 (fun p q wx => ∃ P, p = .pointer (some ⟨P, 0, none⟩) ∧ q = .bool ok ∧ Hid (WBox wx P X) ∧ Hid (Below wc.heap.size wc wx))
            case first =>
              go_region_held3 (fun w' => w'.cell? ⟨Z, k * 2, none⟩ = some (.slice Ak ak.length ck) ∧ w'.cell? ⟨Z, k * 2 + 1, none⟩ = some (.slice Bk bk.length dk) ∧ w'.cell? ⟨bu, ou + j, none⟩ = some (.int .i64 x)) (go_keep)
                (first
                  | (go_at_call 30; refine (HR.out _ (HTX9.out.to (Below.refl wc.heap.size wc).drew)).mono ?_; rintro e w8 ⟨rfl, hb8'⟩; have hb8 := (Below.refl wc.heap.size wc).drew.trans hb8'; clear hb8'; have g0 := (hb8.cell (p := ⟨Z, k * 2, none⟩) z0').trans v0'; have g1 := (hb8.cell (p := ⟨Z, k * 2 + 1, none⟩) z0').trans v1'; have g2 := (hb8.cell (p := ⟨bu, ou + j, none⟩) zc').trans hc'; have n0 := World.new_ne w8 _ g0; have n2 := World.new_ne w8 _ g2)
                  | (go_at_call 30; refine (HR.out _ (HTX9.out.to ((Below.refl wc.heap.size wc).alloc (Nat.le_refl _) _).drew)).mono ?_; rintro e w8 ⟨rfl, hb8'⟩; have hb8 := ((Below.refl wc.heap.size wc).alloc (Nat.le_refl _) (.cells #[.string ⟨#[]⟩, .string ⟨#[]⟩, .int .i64 0, .int .i64 0] 36)).drew.trans (hb8'.mono (by simp)); have g0 := (hb8.cell (p := ⟨Z, k * 2, none⟩) z0').trans v0'; have g1 := (hb8.cell (p := ⟨Z, k * 2 + 1, none⟩) z0').trans v1'; have g2 := (hb8.cell (p := ⟨bu, ou + j, none⟩) zc').trans hc'; have hP : WBox w8 wc.heap.size noWord := (hb8'.block wc.heap.size (by simp)).trans (heap_alloc_new wc _); obtain ⟨y0, y1, y2, y3⟩ := hP.cells; have yf := hP.fz)
                  | fail)
              all_goals unfold Exit.then
              all_goals go_wp2_with fail
              all_goals go_meet
              all_goals first
                | exact ⟨w8.heap.size, rfl, rfl, heap_alloc_new w8 _, hb8.alloc hb8.size _⟩
                | exact ⟨wc.heap.size, rfl, rfl, hP.set X, (((hb8.setCell (p := ⟨wc.heap.size, 0, none⟩) (Nat.le_refl _) _).setCell (p := ⟨wc.heap.size, 1, none⟩) (Nat.le_refl _) _).setCell (p := ⟨wc.heap.size, 2, none⟩) (Nat.le_refl _) _).setCell (p := ⟨wc.heap.size, 3, none⟩) (Nat.le_refl _) _⟩

            case rest =>
              obtain ⟨P2, rfl, rfl, hwb2, hbw2⟩ := hcut
              obtain ⟨a0, a1, a2, a3⟩ := (hwb.out.to hbw2.out).cells
              obtain ⟨b0, b1, b2, b3⟩ := hwb2.out.cells
              have Hb9 := Lib.hid (Hb8.out.trans ((hbw.out.trans (hbw2.out.mono hbw.out.size)).mono Hb8.out.size))
              clear v0' v1' hc' e3 e4
              go_wp2_with fail
              cases ok
              all_goals go_wp2_with fail
              all_goals go_roundw
              all_goals first
                | exact ⟨j + 1, by omega, by go_num, Hb9.out⟩
                | (simp [intOf]; omega)
        · have hj2 : ¬ (j : Int) < 2 := by omega
          have Hb8 := Lib.hid (Hb7.out.trans (hb.mono Hb7.out.size))
          clear hb u2 u3
          go_wp2_with fail
          go_roundw
          case rel => exact ⟨k + 1, by omega, by go_num, Hb8.out⟩
          case measure => simp [intOf]; omega
    · have hk2 : ¬ (k : Int) < 2 := by omega
      have Hb8 := Lib.hid (Hb4.out.trans (Hb.out.mono Hb4.out.size))
      go_wp2_with fail
      refine (lives_any _ (HT.out.to Hb8.out)).mono ?_
      rintro e w9 ⟨rfl, hb9⟩
      have Hb9 := Lib.hid (Hb8.out.trans (hb9.mono Hb8.out.size))
      clear hb9
      go_wp2_with fail
      go_ret
      exact ⟨rfl, Hb9.out⟩
end Go.Proofs.YtgnblofjjondpaaDoor
