/- GlyphWords: what the law answers. No condition but what the tables hold. -/
import Derived.Test.YtgnblofjjondpaaDoorGlyS1
import Derived.Deep.RegionWith
import Derived.Deep.CutRange
import Derived.Laws.BytesArg
import Derived.Deep.RegionLaw
import Derived.Test.YtgnblofjjondpaaDoorCalm
namespace Go.Proofs.YtgnblofjjondpaaDoor
open Go.RowKit
theorem sl_strs5 {w : World} {B : Nat} {t : TypeId} {fr : Nat × Nat} {a b c d e : ByteArray} (hB : w.heap[B]? = some (.cells #[.string a, .string b, .string c, .string d, .string e] t fr)) (h : ∀ x ∈ [a, b, c, d, e], x.size ≤ maxLen) : Sl w (fun b => b < w.heap.size) (some ⟨B, 0, none⟩) 5 [a, b, c, d, e] :=
  Sl.block hB (Array.getElem?_eq_some_iff.1 hB).1 (by simp [maxLen]) (fun i hi => by
    refine ⟨?_, h _ (List.getElem_mem hi)⟩
    have : i = 0 ∨ i = 1 ∨ i = 2 ∨ i = 3 ∨ i = 4 := by simp at hi; omega
    rcases this with rfl | rfl | rfl | rfl | rfl <;> rfl)
theorem u8_wf {n : Int} (h : (Lit.int .u8 n).wf = true) : 0 ≤ n ∧ n ≤ 255 := by
  simpa [Lit.wf, IntKind.min, IntKind.max, IntKind.signed, IntKind.bits] using h
set_option maxRecDepth 100000 in
set_option maxHeartbeats 100000000 in
theorem words_any (s : ByteArray) (n : Int) (w : World) (hs : s.size ≤ maxLen) (hn : 0 ≤ n ∧ n ≤ 255) (hT : Tabs w) :
    Calls Tryd.prog 3 #[.string s, .int .u8 n] w fun e w' => e = .returned (.bool true) ∧ Below w.heap.size w w' := by
  have HT := Lib.hid hT
  have HS : Hid (s.size ≤ 9223372036854775807) := Lib.hid (Nat.le_trans hs (by decide))
  obtain ⟨c, rfl⟩ := Int.eq_ofNat_of_zero_le hn.1
  have hc : c < 256 := by omega
  have hv1 : ∀ (W : World) (B : Nat), W.cell? ⟨B, 0, none⟩ = some (.int .u8 (c : Int)) → (convert 22 9 (.slice (some ⟨B, 0, none⟩) 1 1)).run Tryd.prog W = .ok (.string (strOfNums [(c : Int)])) W :=
    fun W B h => run_convert_bytes_arg W 22 5 Tryd.underlying22 Tryd.underlying5 B 0 1 1 [(c : Int)] rfl (fun i hi => by
      have hi0 : i = 0 := (by omega)
      subst hi0
      exact h) 9 Tryd.underlying9
  have hv2 : ∀ (W : World) (B : Nat), W.cell? ⟨B, 0, none⟩ = some (.int .u8 97) → W.cell? ⟨B, 1, none⟩ = some (.int .u8 (c : Int)) → (convert 22 9 (.slice (some ⟨B, 0, none⟩) 2 2)).run Tryd.prog W = .ok (.string (strOfNums [97, (c : Int)])) W :=
    fun W B h h2 => run_convert_bytes_arg W 22 5 Tryd.underlying22 Tryd.underlying5 B 0 2 2 [97, (c : Int)] rfl (fun i hi => by
      have : i = 0 ∨ i = 1 := by omega
      rcases this with rfl | rfl
      · exact h
      · exact h2) 9 Tryd.underlying9
  have z1 : (strOfNums [(c : Int)]).size ≤ maxLen := Nat.le_trans (Nat.le_of_eq rfl) (show 1 ≤ maxLen by decide)
  have z2 : (strOfNums [97, (c : Int)]).size ≤ maxLen := Nat.le_trans (Nat.le_of_eq rfl) (show 2 ≤ maxLen by decide)
  have HZ := Lib.hid (And.intro z1 z2)
  generalize strOfNums [(c : Int)] = sa at *
  generalize strOfNums [97, (c : Int)] = sb at *
  have HM := Lib.hid hs
  have HZ5 : Hid (∀ x ∈ [s, sa, sb, short s 40, short s 41], x.size ≤ maxLen) := Lib.hid (fun x hx => by simp at hx; have h40 := short_size s 40; have h41 := short_size s 41; rcases hx with rfl | rfl | rfl | rfl | rfl; exact hs; exact z1; exact z2; all_goals (unfold maxLen; omega))
  clear hT hn hs z1 z2
  have hs40 : ∀ W, Calls Tryd.prog 12 #[.string s, .int .i64 40] W fun e w' => e = .returned (.string (short s 40)) ∧ W = w' := fun W => short_any s 40 W HS.out (by decide)
  have hs41 : ∀ W, Calls Tryd.prog 12 #[.string s, .int .i64 41] W fun e w' => e = .returned (.string (short s 41)) ∧ W = w' := fun W => short_any s 41 W HS.out (by decide)
  go_enter Tryd.func3, Tryd.ntmps3
  go_wp2_with fail
  go_cut [5] from 7 to 18 (fun a wx => ∃ A d, ∃ l : List ByteArray, a = .slice A 5 d ∧ Hid (l.length = 5) ∧ Below w.heap.size w wx ∧ Hid (Sl wx (fun b => b < wx.heap.size) A d l))
  case first =>
    go_region_law (first
        | (rw [if_pos (by rfl)]; go_simp; go_at_call 12; with_reducible refine Calls.mono (hs40 _) ?_; rintro e w' ⟨rfl, rfl⟩)
        | (rw [if_pos (by rfl)]; go_simp; go_at_call 12; with_reducible refine Calls.mono (hs41 _) ?_; rintro e w' ⟨rfl, rfl⟩)
        | fail)
    all_goals go_wp2_with fail
    all_goals go_meet
    all_goals exact ⟨_, 5, [s, sa, sb, short s 40, short s 41], rfl, rfl, ((((Below.refl _ _).alloc (Nat.le_refl _) _).alloc (by simp) _).alloc (by simp; omega) _).drew, sl_strs5 (heap_at_d (by simp)) HZ5.out⟩
  case rest =>
    obtain ⟨A, d, l, rfl, hlen, hb, hs⟩ := hcut
    have Hb := Lib.hid hb
    have hz := hb.size
    clear hb HZ5 HZ hv1 hv2
    go_wp2_with fail
    go_loopw [6] (fun i wr => ∃ k : Nat, k ≤ 5 ∧ i = .int .i64 k ∧ Below wc.heap.size wc wr) (fun i _ => 5 - (intOf i).toNat)
    case atStart => exact ⟨0, by omega, rfl, Below.refl _ _⟩
    case round =>
      obtain ⟨k, hk, rfl, hb⟩ := hrel
      have Hb1 := Lib.hid (Hb.out.trans (hb.mono hz))
      have Hb2 := Lib.hid hb
      clear hb
      by_cases hlt : k < 5
      · have hkl5 : k < l.length := by rw [hlen.out]; exact hlt
        obtain ⟨b, o, rfl, _, hbl, hsz, hcell⟩ := str_at (hs.out.to Hb2.out) hkl5
        have hk2 : (k : Int) < 5 := by omega
        have hk0 : (0 : Int) ≤ (k : Int) := by omega
        generalize l[k] = x at *
        have HSZ : Hid (x.size ≤ 9223372036854775807) := Lib.hid (Nat.le_trans hsz (by decide))
        clear hsz
        have HGV := Lib.hid (fun W (h : Tabs W) => gvalid_any x W h.1)
        have HRV := Lib.hid (fun W => rvalid_any x W HSZ.out)
        have HGW := Lib.hid (fun W (h : Tabs W) => width_any x W h.1)
        have HRW := Lib.hid (fun W => rwidth_any x W HSZ.out)
        generalize valid x = vx at *
        generalize width x = wx at *
        cases vx
        all_goals go_wp2_with fail
        all_goals refine wp_region_calm (by kernel_rfl) (by kernel_rfl) ?_
        all_goals intro T hT f hf hg
        all_goals have cc : ∀ d, (f d).cell? ⟨b, o + k, none⟩ = some (.string x) := fun d => ((hf d).cell hbl).trans hcell
        all_goals have HF5 := Lib.hid hf
        all_goals have HG5 := Lib.hid hg
        all_goals clear hf hg
        all_goals repeat (go_big_quiet_step (first
          | (go_at_call 13; refine (HGV.out _ ((HT.out.to Hb1.out).to (HF5.out _))).mono ?_; rintro e w6 ⟨rfl, rfl⟩; exact ⟨rfl, _, rfl⟩)
          | (go_at_call 14; refine (HRV.out _).mono ?_; rintro e w6 ⟨rfl, rfl⟩; exact ⟨rfl, _, rfl⟩)
          | (go_at_call 15; refine (HGW.out _ ((HT.out.to Hb1.out).to (HF5.out _))).mono ?_; rintro e w6 ⟨rfl, rfl⟩; exact ⟨rfl, _, rfl⟩)
          | (go_at_call 16; refine (HRW.out _).mono ?_; rintro e w6 ⟨rfl, rfl⟩; exact ⟨rfl, _, rfl⟩)))
        all_goals refine wpQuiet_nil ?_
        all_goals rintro _ ⟨nq, rfl⟩
        all_goals have Hd := Lib.hid (Hb2.out.trans ((HF5.out nq).mono Hb2.out.size))
        all_goals clear HF5 HG5 cc
        all_goals go_wp2_with fail
        all_goals go_roundw
        all_goals first
          | exact ⟨k + 1, by omega, by go_num, Hd.out⟩
          | (simp [intOf]; omega)
      · have hk2 : ¬ (k : Int) < 5 := by omega
        go_wp2_with fail
        refine (lives_any _ (HT.out.to Hb1.out)).mono ?_
        rintro e w9 ⟨rfl, hb9⟩
        have Hb9 := Lib.hid (Hb1.out.trans (hb9.mono Hb1.out.size))
        clear hb9
        go_wp2_with fail
        go_ret
        exact ⟨rfl, Hb9.out⟩
end Go.Proofs.YtgnblofjjondpaaDoor
