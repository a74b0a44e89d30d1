/- GlyphShapes: what the law answers. No condition but what the tables hold. -/
import Derived.Test.YtgnblofjjondpaaDoorGlyLaw2
import Derived.Test.YtgnblofjjondpaaDoorGlyS6
import Derived.Test.YtgnblofjjondpaaDoorCalm
namespace Go.Proofs.YtgnblofjjondpaaDoor
open Go.RowKit
theorem Own.tx {w : World} {b1 b2 : Nat} {v1 v2 : Value} {a b : List (List Word)} (h1 : Own w b1 61 v1 a) (h2 : Own w b2 61 v2 b) (ha : a.length ≤ 1048576) (hb : b.length ≤ 1048576) (ht : tot (a ++ b) ≤ 1048576) : ∃ A c B d, v1 = .slice A a.length c ∧ v2 = .slice B b.length d ∧ TX w A c B d a b := by
  obtain ⟨A, c, rfl, s1⟩ := h1.sl
  obtain ⟨B, d, rfl, s2⟩ := h2.sl
  exact ⟨A, c, B, d, rfl, rfl, s1, s2, ha, hb, ht⟩
theorem sl_apart {w : World} {S : Nat → Prop} {A : Option Addr} {c P : Nat} {l : List (List Word)} (h : Sl w S A c l) (hP : TBox w P (.slice none 0 0) (.slice none 0 0)) (hne : ∀ p ∈ l, 1 ≤ p.length) : Sl w (fun b => S b ∧ b ≠ P) A c l := by
  have hcell : ∀ o v, w.cell? ⟨P, o, none⟩ = some v → v = .slice none 0 0 := fun o v hv => by
    rw [cell_of_row w P o _ _ _ hP.at_] at hv
    match o with
    | 0 => simpa using hv.symm
    | 1 => simpa using hv.symm
    | o + 2 => simp at hv
  refine ⟨h.1, h.2.1, fun hn => ?_⟩
  obtain ⟨b, o, e, hb, hlt, hx⟩ := h.2.2 hn
  refine ⟨b, o, e, ⟨hb, ?_⟩, hlt, fun i hi => ?_⟩
  · rintro rfl
    obtain ⟨es, ⟨Ap, cp, rfl, _, _⟩, hc⟩ := hx 0 hn
    have h1 := hcell _ _ (hc 0 _ rfl)
    have h2 := hne _ (List.getElem_mem hn)
    have := (Value.slice.inj h1).2.1
    omega
  · obtain ⟨es, ⟨Ap, cp, rfl, hs, hl⟩, hc⟩ := hx i hi
    refine ⟨_, ⟨Ap, cp, rfl, ⟨hs.1, hs.2.1, fun hn2 => ?_⟩, hl⟩, hc⟩
    obtain ⟨b2, o2, e2, hb2, hlt2, hx2⟩ := hs.2.2 hn2
    refine ⟨b2, o2, e2, ⟨hb2, ?_⟩, hlt2, hx2⟩
    rintro rfl
    obtain ⟨es2, ⟨rfl, _⟩, hc2⟩ := hx2 0 hn2
    have h1 := hcell _ _ (hc2 0 _ rfl)
    cases h1
theorem shp_len1 {l : List (List Word)} (h : ∀ p ∈ l, 1 ≤ p.length) : ∀ p ∈ shp l, 1 ≤ p.length := by
  intro p hp
  obtain ⟨q, hq, rfl⟩ := mem_shp hp
  rw [List.length_map]; exact h q hq
/-- Two cells of a variable written: what lies elsewhere stays. -/
theorem tx_set {w : World} {A B : Option Addr} {c d P : Nat} {a b : List (List Word)} (ha : Sl w (fun b => b < w.heap.size) A c a) (hb : Sl w (fun b => b < w.heap.size) B d b) (hP : TBox w P (.slice none 0 0) (.slice none 0 0)) (na : ∀ p ∈ a, 1 ≤ p.length) (nb : ∀ p ∈ b, 1 ≤ p.length)
    (la : a.length ≤ 1048576) (lb : b.length ≤ 1048576) (ht : tot (a ++ b) ≤ 1048576) (u v : Value) : TX ((w.setCell ⟨P, 0, none⟩ u).setCell ⟨P, 1, none⟩ v) A c B d a b := by
  have kp : Kept (fun b => b < w.heap.size ∧ b ≠ P) w ((w.setCell ⟨P, 0, none⟩ u).setCell ⟨P, 1, none⟩ v) := fun i hi _ => (heap_set _ P 1 v hi.2).trans (heap_set _ P 0 u hi.2)
  have hz : ((w.setCell ⟨P, 0, none⟩ u).setCell ⟨P, 1, none⟩ v).heap.size = w.heap.size := by simp
  exact ⟨((sl_apart ha hP na).keep kp (by rw [hz]; exact Nat.le_refl _)).mono (fun i hi _ => by rw [hz]; exact hi.1), ((sl_apart hb hP nb).keep kp (by rw [hz]; exact Nat.le_refl _)).mono (fun i hi _ => by rw [hz]; exact hi.1), la, lb, ht⟩
theorem shp_lens (l : List (List Word)) : (shp l).length = l.length := by unfold shp; simp
theorem GText.goods {ls ns : List (List Word)} (h : GText ls ns) : ∀ x ∈ (ls ++ ns).flatten, Good x := by
  intro x hx
  obtain ⟨p, hp, hxp⟩ := List.mem_flatten.1 hx
  rcases List.mem_append.1 hp with hp | hp
  · exact (h.p p hp).2.2 x hxp
  · exact ((h.q p hp).2.2 x hxp).1
set_option maxRecDepth 100000 in
set_option maxHeartbeats 4000000 in
theorem shapes_any (Al : Option Addr) (cl : Nat) (l : List Int) (w : World) (hl : Sl w (fun b => b < w.heap.size) Al cl l) (hT : Tabs w) :
    Calls Tryd.prog 10 #[.slice Al l.length cl] w fun e w' => e = .returned (.bool true) ∧ Below w.heap.size w w' := by
  have HL := Lib.hid hl
  have HT := Lib.hid hT
  clear hl hT
  go_enter Tryd.func10, Tryd.ntmps10
  go_wp2_with fail
  refine (text_any Al cl l _ HL.out).mono ?_
  rintro e w2 hit
  obtain ⟨A1, c1, A2, c2, ls, ns, rfl, hg, htx, hb2⟩ := hit.open
  have HG := Lib.hid hg
  have hb4 := (Below.refl w2.heap.size w2).alloc (Nat.le_refl _) (.cells #[.slice A1 ls.length c1, .slice A2 ns.length c2] 41)
  have HY : Hid (TBox (w2.alloc (.cells #[.slice A1 ls.length c1, .slice A2 ns.length c2] 41)) w2.heap.size (.slice A1 ls.length c1) (.slice A2 ns.length c2)) := Lib.hid ⟨heap_alloc_new w2 _⟩
  have HTX := Lib.hid (htx.to hb4)
  have Hb4 := Lib.hid (hb2.trans (hb4.mono hb2.size))
  clear hg htx hb2 hb4 hit
  go_upto_region 2 with (fail)
  generalize (w2.alloc (.cells #[.slice A1 ls.length c1, .slice A2 ns.length c2] 41)) = w3 at *
  generalize w2.heap.size = Y at *
  have t0 := HY.out.c0
  have t1 := HY.out.c1
  have hylt := HY.out.lt
  have e1 : w3.heap.size ≠ Y := Nat.ne_of_gt hylt
  have HT3 := Lib.hid (HT.out.to Hb4.out)
  have HP1 : Hid (∀ p ∈ ls, p.length ≤ 1048576) := Lib.hid (fun p hp => by have := (HG.out.p p hp).2.1; omega)
  have HP2 : Hid (∀ p ∈ ns, p.length ≤ 1048576) := Lib.hid (fun p hp => by have := (HG.out.q p hp).2.1; omega)
  have HN1 : Hid (∀ p ∈ shp ls, 1 ≤ p.length) := Lib.hid (shp_len1 (fun p hp => (HG.out.p p hp).1))
  have HN2 : Hid (∀ p ∈ shp ns, 1 ≤ p.length) := Lib.hid (shp_len1 (fun p hp => (HG.out.q p hp).1))
  have HLA : Hid ((shp ls).length ≤ 1048576) := Lib.hid (by rw [shp_lens]; exact HTX.out.la)
  have HLB : Hid ((shp ns).length ≤ 1048576) := Lib.hid (by rw [shp_lens]; exact HTX.out.lb)
  have HTT : Hid (tot (shp ls ++ shp ns) ≤ 1048576) := Lib.hid (by rw [shp_tot]; exact HTX.out.t)
  go_cut [4] from 12 to 18 (fun p wx => ∃ P A c B d, p = .pointer (some ⟨P, 0, none⟩) ∧ Hid (TBox wx P (.slice A (shp ls).length c) (.slice B (shp ns).length d)) ∧ Hid (TX wx A c B d (shp ls) (shp ns)) ∧ Hid (Below w3.heap.size w3 wx))
  case first =>
    go_region_held3 (fun w' => w'.cell? ⟨Y, 0, none⟩ = some (.slice A1 ls.length c1) ∧ w'.cell? ⟨Y, 1, none⟩ = some (.slice A2 ns.length c2)) (go_keep)
      (first
        | (go_at_call_of 34 (Value.slice A1 ls.length c1); refine (shaped_any A1 c1 ls _ (HTX.out.sa.to (Below.refl w3.heap.size w3).drew) HTX.out.la HP1.out (HT3.out.to (Below.refl w3.heap.size w3).drew)).mono ?_; rintro e w8 ⟨v8, rfl, hown8, hb8'⟩; have hb8 := (Below.refl w3.heap.size w3).drew.trans (hb8'.mono (by first | exact Nat.le_refl _ | exact hz8 | (simp; done) | (simp; omega))); have g80 := (hb8.cell (p := ⟨Y, 0, none⟩) hylt).trans t0; have g81 := (hb8.cell (p := ⟨Y, 1, none⟩) hylt).trans t1; have n8 := World.new_ne w8 _ g80; obtain ⟨A8, c8, rfl, hs8'⟩ := hown8.sl; have hs8 := Lib.hid hs8'; have hz8 := hb8.size; clear hs8' hown8)
        | (go_at_call_of 34 (Value.slice A1 ls.length c1); refine (shaped_any A1 c1 ls _ (HTX.out.sa.to ((Below.refl w3.heap.size w3).alloc (Nat.le_refl _) (.cells #[.slice none 0 0, .slice none 0 0] 41)).drew) HTX.out.la HP1.out (HT3.out.to ((Below.refl w3.heap.size w3).alloc (Nat.le_refl _) (.cells #[.slice none 0 0, .slice none 0 0] 41)).drew)).mono ?_; rintro e w8 ⟨v8, rfl, hown8, hb8'⟩; have hb8 := ((Below.refl w3.heap.size w3).alloc (Nat.le_refl _) (.cells #[.slice none 0 0, .slice none 0 0] 41)).drew.trans (hb8'.mono (by first | exact Nat.le_refl _ | exact hz8 | (simp; done) | (simp; omega))); have g80 := (hb8.cell (p := ⟨Y, 0, none⟩) hylt).trans t0; have g81 := (hb8.cell (p := ⟨Y, 1, none⟩) hylt).trans t1; have n8 := World.new_ne w8 _ g80; obtain ⟨A8, c8, rfl, hs8'⟩ := hown8.sl; have hs8 := Lib.hid hs8'; have hz8 := hb8.size; have hP8 : TBox w8 w3.heap.size (.slice none 0 0) (.slice none 0 0) := TBox.below (w := (w3.alloc (.cells #[.slice none 0 0, .slice none 0 0] 41)).drew) ⟨heap_alloc_new w3 _⟩ hb8'; have p80 := hP8.c0; have p81 := hP8.c1; have p8f := hP8.fz; clear hs8' hown8)
        | (go_at_call_of 34 (Value.slice A2 ns.length c2); refine (shaped_any A2 c2 ns _ (HTX.out.sb.to hb8) HTX.out.lb HP2.out (HT3.out.to hb8)).mono ?_; rintro e w9 ⟨v9, rfl, hown9, hb9'⟩; have hb9 := hb8.trans (hb9'.mono (by first | exact Nat.le_refl _ | exact hz8 | (simp; done) | (simp; omega))); have g90 := (hb9.cell (p := ⟨Y, 0, none⟩) hylt).trans t0; have g91 := (hb9.cell (p := ⟨Y, 1, none⟩) hylt).trans t1; have n9 := World.new_ne w9 _ g90; obtain ⟨A9, c9, rfl, hs9'⟩ := hown9.sl; have hs9 := Lib.hid hs9'; have hz9 := hb9.size; have hP9 := hP8.below hb9'; have p90 := hP9.c0; have p91 := hP9.c1; have p9f := hP9.fz; have hs89 := Lib.hid (hs8.out.to hb9'); clear hs9' hown9)
        | (go_at_call_of 34 (Value.slice A2 ns.length c2); refine (shaped_any A2 c2 ns _ (HTX.out.sb.to hb8) HTX.out.lb HP2.out (HT3.out.to hb8)).mono ?_; rintro e w9 ⟨v9, rfl, hown9, hb9'⟩; have hb9 := hb8.trans (hb9'.mono (by first | exact Nat.le_refl _ | exact hz8 | (simp; done) | (simp; omega))); have g90 := (hb9.cell (p := ⟨Y, 0, none⟩) hylt).trans t0; have g91 := (hb9.cell (p := ⟨Y, 1, none⟩) hylt).trans t1; have n9 := World.new_ne w9 _ g90; obtain ⟨A9, c9, rfl, hs9'⟩ := hown9.sl; have hs9 := Lib.hid hs9'; have hz9 := hb9.size; have hs89 := Lib.hid (hs8.out.to hb9'); clear hs9' hown9)
        | (go_at_call_of 34 (Value.slice A2 ns.length c2); refine (shaped_any A2 c2 ns _ (HTX.out.sb.to (hb8.alloc hz8 (.cells #[.slice none 0 0, .slice none 0 0] 41))) HTX.out.lb HP2.out (HT3.out.to (hb8.alloc hz8 (.cells #[.slice none 0 0, .slice none 0 0] 41)))).mono ?_; rintro e w9 ⟨v9, rfl, hown9, hb9'⟩; have hb9 := (hb8.alloc hz8 (.cells #[.slice none 0 0, .slice none 0 0] 41)).trans (hb9'.mono (by first | exact Nat.le_refl _ | exact hz8 | (simp; done) | (simp; omega))); have g90 := (hb9.cell (p := ⟨Y, 0, none⟩) hylt).trans t0; have g91 := (hb9.cell (p := ⟨Y, 1, none⟩) hylt).trans t1; have n9 := World.new_ne w9 _ g90; obtain ⟨A9, c9, rfl, hs9'⟩ := hown9.sl; have hs9 := Lib.hid hs9'; have hz9 := hb9.size; have hP9 : TBox w9 w8.heap.size (.slice none 0 0) (.slice none 0 0) := TBox.below (w := (w8.alloc (.cells #[.slice none 0 0, .slice none 0 0] 41))) ⟨heap_alloc_new w8 _⟩ hb9'; have p90 := hP9.c0; have p91 := hP9.c1; have p9f := hP9.fz; have n89 : w8.heap.size ≠ Y := n8; have hs89 := Lib.hid ((hs8.out.alloc (.cells #[.slice none 0 0, .slice none 0 0] 41)).to hb9'); clear hs9' hown9)
        | fail)
    all_goals unfold Exit.then
    all_goals go_wp2_with fail
    all_goals go_meet
    all_goals first
      | exact ⟨w9.heap.size, A8, c8, A9, c9, rfl, ⟨heap_alloc_new w9 _⟩, TX.to ⟨hs89.out, hs9.out, HLA.out, HLB.out, HTT.out⟩ ((Below.refl _ _).alloc (Nat.le_refl _) _), hb9.alloc hz9 _⟩
      | exact ⟨w3.heap.size, A8, c8, A9, c9, rfl, (hP9.set0 _).set1 _, tx_set hs89.out hs9.out hP9 HN1.out HN2.out HLA.out HLB.out HTT.out _ _, (hb9.setCell (p := ⟨w3.heap.size, 0, none⟩) (Nat.le_refl _) _).setCell (p := ⟨w3.heap.size, 1, none⟩) (Nat.le_refl _) _⟩
      | exact ⟨w8.heap.size, A8, c8, A9, c9, rfl, (hP9.set0 _).set1 _, tx_set hs89.out hs9.out hP9 HN1.out HN2.out HLA.out HLB.out HTT.out _ _, (hb9.setCell (p := ⟨w8.heap.size, 0, none⟩) hz8 _).setCell (p := ⟨w8.heap.size, 1, none⟩) hz8 _⟩
  case rest =>
    obtain ⟨P, A8, c8, A9, c9, rfl, hP, htx, hbw⟩ := hcut
    have hY := Lib.hid (HY.out.below hbw.out)
    have HTXY := Lib.hid (HTX.out.to hbw.out)
    have HTw := Lib.hid (HT3.out.to hbw.out)
    have Hbw := Lib.hid (Hb4.out.trans (hbw.out.mono Hb4.out.size))
    have hpl := hP.out.lt
    have hyl := hY.out.lt
    have HCHK := Lib.hid (fun W (h : TX W A8 c8 A9 c9 (shp ls) (shp ns)) (hT : Tabs W) => (gcheck_any A8 A9 c8 c9 (shp ls) (shp ns) W hT.1 h.sa h.sb h.la h.lb))
    rw [HG.out.shape] at HCHK
    have HCS := Lib.hid (fun W (h : TX W A8 c8 A9 c9 (shp ls) (shp ns)) => count_any A8 A9 c8 c9 (shp ls) (shp ns) W h.sa h.sb h.la h.lb (by have := h.t; omega))
    have HCT := Lib.hid (fun W (h : TX W A1 c1 A2 c2 ls ns) => count_any A1 A2 c1 c2 ls ns W h.sa h.sb h.la h.lb (by have := h.t; omega))
    have HGS := Lib.hid (fun W (h : TX W A8 c8 A9 c9 (shp ls) (shp ns)) (k : Nat) (hk : k ≤ 1048576) => gword_any A8 A9 c8 c9 (shp ls) (shp ns) (k : Int) W ⟨by omega, by omega⟩ h.sa h.sb h.la h.lb (by have := h.t; omega))
    have HGT := Lib.hid (fun W (h : TX W A1 c1 A2 c2 ls ns) (k : Nat) (hk : k ≤ 1048576) => gword_any A1 A2 c1 c2 ls ns (k : Int) W ⟨by omega, by omega⟩ h.sa h.sb h.la h.lb (by have := h.t; omega))
    have HTL : Hid (tot (ls ++ ns) ≤ 1048576) := Lib.hid HTX.out.t
    have HFL : Hid ((ls ++ ns).flatten.length = tot (ls ++ ns)) := Lib.hid rfl
    have HWD := Lib.hid (shp_word ls ns)
    have HALL := Lib.hid HG.out.goods
    rw [shp_tot] at HCS
    generalize tot (ls ++ ns) = T at *
    have hTL := HTL.out
    clear t0 t1 hylt e1
    go_wp2_with fail
    refine wp_region_calm (by kernel_rfl) (by kernel_rfl) ?_
    intro T5 hT5 f hf hg
    have a0 : ∀ d, (f d).cell? ⟨P, 0, none⟩ = some (.slice A8 (shp ls).length c8) := fun d => ((hf d).cell (p := ⟨P, 0, none⟩) hpl).trans hP.out.c0
    have a1 : ∀ d, (f d).cell? ⟨P, 1, none⟩ = some (.slice A9 (shp ns).length c9) := fun d => ((hf d).cell (p := ⟨P, 1, none⟩) hpl).trans hP.out.c1
    have a2 : ∀ d, (f d).cell? ⟨Y, 0, none⟩ = some (.slice A1 ls.length c1) := fun d => ((hf d).cell (p := ⟨Y, 0, none⟩) hyl).trans hY.out.c0
    have a3 : ∀ d, (f d).cell? ⟨Y, 1, none⟩ = some (.slice A2 ns.length c2) := fun d => ((hf d).cell (p := ⟨Y, 1, none⟩) hyl).trans hY.out.c1
    have HF5 := Lib.hid hf
    have HG5 := Lib.hid hg
    clear hf hg
    repeat (go_big_quiet_step (first
      | (go_at_call 25; refine (HCHK.out _ (htx.out.to (HF5.out _)) (HTw.out.to (HF5.out _))).mono ?_; rintro e w6 ⟨rfl, hb6⟩; exact ⟨rfl, HG5.out _ _ hb6⟩)
      | (go_at_call_of 27 (Value.slice A8 (shp ls).length c8); refine (HCS.out _ (htx.out.to (HF5.out _))).mono ?_; rintro e w6 ⟨rfl, hb6⟩; exact ⟨rfl, HG5.out _ _ hb6⟩)
      | (go_at_call_of 27 (Value.slice A1 ls.length c1); refine (HCT.out _ (HTXY.out.to (HF5.out _))).mono ?_; rintro e w6 ⟨rfl, hb6⟩; exact ⟨rfl, HG5.out _ _ hb6⟩)))
    refine wpQuiet_nil ?_
    rintro _ ⟨nq, rfl⟩
    have Hd := Lib.hid (HF5.out nq)
    clear HF5 HG5 a0 a1 a2 a3
    generalize f nq = wd at *
    go_wp2_with fail
    go_loopw [5, 6, 7, 8, 9] (fun i _ _ _ _ wr => ∃ k : Nat, k ≤ T ∧ i = .int .i64 k ∧ Below wd.heap.size wd wr) (fun i _ _ _ _ _ => T - (intOf i).toNat)
    case atStart => exact ⟨0, Nat.zero_le _, rfl, Below.refl _ _⟩
    case round =>
      obtain ⟨k, hk, rfl, hb⟩ := hrel
      have Hb := Lib.hid (Hd.out.trans (hb.mono Hd.out.size))
      have Hbd := Lib.hid hb
      have y0 := (hY.out.below Hb.out).c0
      have y1 := (hY.out.below Hb.out).c1
      have hk0 : 0 ≤ (k : Int) := by omega
      have hk1 : (k : Int) ≤ 1048576 := by omega
      clear hb
      go_wp2_with fail
      refine (HCT.out _ (HTXY.out.to Hb.out)).mono ?_
      rintro e w5 ⟨rfl, hb5⟩
      have Hb5 := Lib.hid (Hb.out.trans (hb5.mono Hb.out.size))
      have Hbd5 := Lib.hid (Hbd.out.trans (hb5.mono Hbd.out.size))
      have z0 := (hY.out.below Hb5.out).c0
      have z1 := (hY.out.below Hb5.out).c1
      clear hb5 y0 y1
      by_cases hlt : k < T
      · have hlt' : (k : Int) < (T : Int) := by omega
        have hkf : k < (ls ++ ns).flatten.length := by rw [HFL.out]; exact hlt
        obtain ⟨q1, q2, q3, q4⟩ := HWD.out k hkf
        have hgx := HALL.out _ (List.getElem_mem hkf)
        have HGS1 := Lib.hid (fun W h => HGS.out W h k (by omega))
        have HGT1 := Lib.hid (fun W h => HGT.out W h k (by omega))
        rw [q1, q3] at HGS1
        rw [q2, q4] at HGT1
        have HXW := Lib.hid (shp_width hgx)
        unfold Word.val shW at HGS1
        unfold shW at HXW
        generalize (ls ++ ns).flatten[k] = x at *
        simp only at HGS1 HXW
        have HXW2 : Hid (width (fillS (width x.s)) = width x.s) := HXW
        generalize fillS (width x.s) = ys at *
        unfold Word.val at HGT1
        have HW1 := Lib.hid (fun W (h : Tabs W) => width_any x.s W h.1)
        have HW2 := Lib.hid (fun W (h : Tabs W) => width_any ys W h.1)
        rw [HXW2.out] at HW2
        generalize width x.s = wx at *
        clear q1 q2 q3 q4 hgx HXW HXW2
        go_wp2_with fail
        refine (HGT1.out _ (HTXY.out.to Hb5.out)).mono ?_
        rintro e w6 ⟨rfl, hb6⟩
        have Hb6 := Lib.hid (Hb5.out.trans (hb6.mono Hb5.out.size))
        have Hbd6 := Lib.hid (Hbd5.out.trans (hb6.mono Hbd5.out.size))
        have hz6 := Hb6.out.size
        have hzd6 := Hbd6.out.size
        have HB1 := Lib.hid ((Below.refl w6.heap.size w6).alloc (Nat.le_refl _) (.cells #[.string x.s, .string x.key, .int .i64 x.t, .int .i64 x.n] 36))
        have p0 := ((hP.out.below Hb6.out).below HB1.out).c0
        have p1 := ((hP.out.below Hb6.out).below HB1.out).c1
        clear hb6 z0 z1
        go_wp2_with fail
        refine (HGS1.out _ ((htx.out.to Hb6.out).to HB1.out)).mono ?_
        rintro e w7 ⟨rfl, hb7⟩
        have HQ : Hid (WBox w7 w6.heap.size x) := Lib.hid ((hb7.block w6.heap.size (by simp)).trans (heap_alloc_new w6 _))
        have Hb7 := Lib.hid (Hb6.out.trans ((HB1.out.trans (hb7.mono HB1.out.size)).mono hz6))
        have Hbd7 := Lib.hid (Hbd6.out.trans ((HB1.out.trans (hb7.mono HB1.out.size)).mono hzd6))
        have hq6 : w6.heap.size < w7.heap.size := Nat.lt_of_lt_of_le (by simp) hb7.size
        clear hb7 p0 p1
        go_upto_region 10 with (fail)
        have HB2 := Lib.hid ((Below.refl w7.heap.size w7).alloc (Nat.le_refl _) (.cells #[.string ys, .string ⟨#[]⟩, .int .i64 x.t, .int .i64 x.n] 36))
        have HQ1 := Lib.hid (HQ.out.to HB2.out)
        have HQ2 : Hid (WBox (w7.alloc (.cells #[.string ys, .string ⟨#[]⟩, .int .i64 x.t, .int .i64 x.n] 36)) w7.heap.size ⟨ys, ⟨#[]⟩, x.t, x.n⟩) := Lib.hid (heap_alloc_new w7 _)
        have Hb8 := Lib.hid (Hb7.out.alloc Hb7.out.size (.cells #[.string ys, .string ⟨#[]⟩, .int .i64 x.t, .int .i64 x.n] 36))
        have Hbd8 := Lib.hid (Hbd7.out.alloc Hbd7.out.size (.cells #[.string ys, .string ⟨#[]⟩, .int .i64 x.t, .int .i64 x.n] 36))
        have hq1 : w6.heap.size < (w7.alloc (.cells #[.string ys, .string ⟨#[]⟩, .int .i64 x.t, .int .i64 x.n] 36)).heap.size := by simp; omega
        have hq2 : w7.heap.size < (w7.alloc (.cells #[.string ys, .string ⟨#[]⟩, .int .i64 x.t, .int .i64 x.n] 36)).heap.size := by simp
        generalize (w7.alloc (.cells #[.string ys, .string ⟨#[]⟩, .int .i64 x.t, .int .i64 x.n] 36)) = w8 at *
        generalize w7.heap.size = Q2 at *
        generalize w6.heap.size = Q1 at *
        clear HB1 HB2 HQ hz6 hzd6 hq6 Hb7 Hbd7 Hb6 Hbd6 Hb5 Hbd5
        refine wp_region_calm (by kernel_rfl) (by kernel_rfl) ?_
        intro T6 hT6 f hf hg
        have a0 : ∀ d, (f d).cell? ⟨Q1, 0, none⟩ = some (.string x.s) := fun d => ((hf d).cell (p := ⟨Q1, 0, none⟩) hq1).trans HQ1.out.cells.1
        have a3 : ∀ d, (f d).cell? ⟨Q1, 3, none⟩ = some (.int .i64 x.n) := fun d => ((hf d).cell (p := ⟨Q1, 3, none⟩) hq1).trans HQ1.out.cells.2.2.2
        have b0 : ∀ d, (f d).cell? ⟨Q2, 0, none⟩ = some (.string ys) := fun d => ((hf d).cell (p := ⟨Q2, 0, none⟩) hq2).trans HQ2.out.cells.1
        have b1 : ∀ d, (f d).cell? ⟨Q2, 1, none⟩ = some (.string ⟨#[]⟩) := fun d => ((hf d).cell (p := ⟨Q2, 1, none⟩) hq2).trans HQ2.out.cells.2.1
        have b3 : ∀ d, (f d).cell? ⟨Q2, 3, none⟩ = some (.int .i64 x.n) := fun d => ((hf d).cell (p := ⟨Q2, 3, none⟩) hq2).trans HQ2.out.cells.2.2.2
        have HF5 := Lib.hid hf
        have HG5 := Lib.hid hg
        have HT8 := Lib.hid (HTw.out.to Hb8.out)
        clear hf hg
        repeat (go_big_quiet_step (first
          | (go_at_call_of 15 (Value.string x.s); refine (HW1.out _ (HT8.out.to (HF5.out _))).mono ?_; rintro e w9 ⟨rfl, rfl⟩; exact ⟨rfl, _, rfl⟩)
          | (go_at_call_of 15 (Value.string ys); refine (HW2.out _ (HT8.out.to (HF5.out _))).mono ?_; rintro e w9 ⟨rfl, rfl⟩; exact ⟨rfl, _, rfl⟩)))
        refine wpQuiet_nil ?_
        rintro _ ⟨nq, rfl⟩
        have Hd9 := Lib.hid (Hbd8.out.trans ((HF5.out nq).mono Hbd8.out.size))
        clear HF5 HG5 a0 a3 b0 b1 b3
        go_wp2_with fail
        go_roundw
        case rel => exact ⟨k + 1, by omega, by go_num, Hd9.out⟩
        case measure => simp [intOf]; omega
      · have hlt' : ¬ (k : Int) < (T : Int) := by omega
        go_wp2_with fail
        refine (lives_any _ (HTw.out.to Hb5.out)).mono ?_
        rintro e w9 ⟨rfl, hb9⟩
        have Hb9 := Lib.hid (Hbw.out.trans ((Hb5.out.trans (hb9.mono Hb5.out.size)).mono Hbw.out.size))
        clear hb9
        go_wp2_with fail
        go_ret
        exact ⟨rfl, Hb9.out⟩
end Go.Proofs.YtgnblofjjondpaaDoor
