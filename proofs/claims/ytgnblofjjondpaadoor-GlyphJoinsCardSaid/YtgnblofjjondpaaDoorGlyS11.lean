/- GlyphJoins: what the law answers. No condition but what the tables hold. -/
import Derived.Test.YtgnblofjjondpaaDoorGlyTX
import Derived.Test.YtgnblofjjondpaaDoorGlySp2
import Derived.Test.YtgnblofjjondpaaDoorGlyS1
import Derived.Deep.CutRange
namespace Go.Proofs.YtgnblofjjondpaaDoor
open Go.RowKit
/-- A byte of an argument. -/
structure B8 where
  n : Nat
instance : Rep B8 where
  size := 1
  R _ _ cs x := cs = [.int .u8 (x.n : Int)] ∧ x.n ≤ 255
  len := by rintro w S cs s ⟨rfl, _⟩; rfl
  one := by rintro w S cs s ⟨rfl, _⟩ u hu; simp at hu; rcases hu with rfl; rfl
  keep := by rintro w w' S cs s h _; exact h
  mono := by rintro w S S' cs s h _; exact h
theorem b8_at {w : World} {S : Nat → Prop} {A : Option Addr} {c : Nat} {l : List B8} (h : Sl w S A c l) {k : Nat} (hk : k < l.length) :
    ∃ b o, A = some ⟨b, o, none⟩ ∧ S b ∧ b < w.heap.size ∧ l[k].n ≤ 255 ∧ w.cell? ⟨b, o + k, none⟩ = some (.int .u8 (l[k].n : Int)) := by
  obtain ⟨b, o, es, rfl, hb, hlt, ⟨rfl, hok⟩, hc⟩ := h.at_ hk
  have := hc 0 _ rfl
  exact ⟨b, o, rfl, hb, hlt, hok, by simpa [Rep.size] using this⟩
def blanks : List ByteArray := [⟨#[32]⟩, ⟨#[9]⟩, ⟨#[10]⟩, ⟨#[13, 10]⟩, ⟨#[]⟩]
theorem blanks_sp (x : ByteArray) (h : x ∈ blanks) : (∀ c ∈ bytes x, isSp c.toNat = true) ∧ x.size ≤ 2 := by
  unfold blanks at h
  simp only [List.mem_cons, List.not_mem_nil, or_false] at h
  rcases h with rfl | rfl | rfl | rfl | rfl <;> decide
theorem blank_at (j : Nat) (hj : j < 5) : ∃ x, (blanks.map Value.string)[j]? = some (.string x) ∧ x ∈ blanks :=
  ⟨blanks[j]'hj, by rw [List.getElem?_map, List.getElem?_eq_getElem (show j < blanks.length from hj)]; rfl, List.getElem_mem _⟩
/-- The strings of a text's words. -/
def strs (l : List (List Word)) : List ByteArray := l.flatten.map (·.s)
theorem GText.all {ls ns : List (List Word)} (h : GText ls ns) : ∀ x ∈ (ls ++ ns).flatten, Good x := by
  intro x hx
  obtain ⟨p, hp, hxp⟩ := List.mem_flatten.1 hx
  rcases List.mem_append.1 hp with hp | hp
  · exact (h.p p hp).2.2 x hxp
  · exact ((h.q p hp).2.2 x hxp).1
theorem strs_take (l : List (List Word)) (k : Nat) (h : k < l.flatten.length) : (strs l).take (k + 1) = (strs l).take k ++ [l.flatten[k].s] := by
  unfold strs
  rw [List.take_succ_eq_append_getElem (by rw [List.length_map]; exact h), List.getElem_map]
theorem wordOf_at (l : List (List Word)) (k : Nat) (h : k < l.flatten.length) : wordOf l (k : Int) = l.flatten[k] := by
  unfold wordOf
  rw [if_neg (by omega), Int.toNat_natCast, List.getD_eq_getElem?_getD, List.getElem?_eq_getElem h]; rfl
set_option maxRecDepth 100000 in
set_option maxHeartbeats 4000000 in
theorem joins_any (Al : Option Addr) (cl : Nat) (l : List Int) (Ab : Option Addr) (cb : Nat) (bl : List B8) (w : World) (hl : Sl w (fun b => b < w.heap.size) Al cl l) (hbl : Sl w (fun b => b < w.heap.size) Ab cb bl) (hT : Tabs w) :
    Calls Tryd.prog 11 #[.slice Al l.length cl, .slice Ab bl.length cb] w fun e w' => e = .returned (.bool true) ∧ Below w.heap.size w w' := by
  have HL := Lib.hid hl
  have HBL := Lib.hid hbl
  have HT := Lib.hid hT
  have hbll : bl.length ≤ 9223372036854775807 := by have := hbl.1; have := hbl.2.1; unfold maxLen at this; omega
  clear hl hbl hT
  go_enter Tryd.func11, Tryd.ntmps11
  go_wp2_with fail
  refine (text_any Al cl l _ HL.out).mono ?_
  rintro e w2 hit
  obtain ⟨A1, c1, A2, c2, ls, ns, rfl, hg, htx, hb2⟩ := hit.open
  have htot := hg.tot
  have HG := Lib.hid hg.all
  have HY : Hid (TBox (w2.alloc (.cells #[.slice A1 ls.length c1, .slice A2 ns.length c2] 41)) w2.heap.size (.slice A1 ls.length c1) (.slice A2 ns.length c2)) := Lib.hid ⟨heap_alloc_new w2 _⟩
  have hb4 := (Below.refl w2.heap.size w2).alloc (Nat.le_refl _) (.cells #[.slice A1 ls.length c1, .slice A2 ns.length c2] 41)
  have HTX := Lib.hid (htx.to hb4)
  have Hb4 := Lib.hid (hb2.trans (hb4.mono hb2.size))
  have hfl : (ls ++ ns).flatten.length = tot (ls ++ ns) := rfl
  have HFL := Lib.hid hfl
  clear hg htx hb2 hb4 hit hfl
  have HC := Lib.hid (fun W (h : TX W A1 c1 A2 c2 ls ns) => count_any A1 A2 c1 c2 ls ns W h.sa h.sb h.la h.lb (by omega))
  have HG2 := Lib.hid (fun W (h : TX W A1 c1 A2 c2 ls ns) (k : Nat) (hk : k ≤ 1000) => gword_any A1 A2 c1 c2 ls ns (k : Int) W ⟨by omega, by omega⟩ h.sa h.sb h.la h.lb (by omega))
  have HST := Lib.hid (strs_take (ls ++ ns))
  have HWO := Lib.hid (wordOf_at (ls ++ ns))
  have HSL : Hid ((strs (ls ++ ns)).length = tot (ls ++ ns)) := Lib.hid (by unfold strs; rw [List.length_map]; exact HFL.out)
  have HAV : Hid (∀ x ∈ strs (ls ++ ns), valid x = true) := Lib.hid (fun x hx => by unfold strs at hx; obtain ⟨y, hy, rfl⟩ := List.mem_map.1 hx; exact (HG.out y hy).1)
  generalize tot (ls ++ ns) = T at *
  go_wp2_with fail
  generalize (w2.alloc (.cells #[.slice A1 ls.length c1, .slice A2 ns.length c2] 41)) = w3 at *
  generalize w2.heap.size = Y at *
  go_loopw [6, 7, 8, 9, 10] (fun v sv i _ _ wr => ∃ k : Nat, k ≤ T ∧ i = .int .i64 k ∧ (∃ s : ByteArray, sv = .string s ∧ Hid (feeds ([], []) (bytes s) = ([], ((strs (ls ++ ns)).take k).map bytes)) ∧ s.size ≤ 1 + k * 43) ∧ Own wr w3.heap.size 9 v ((strs (ls ++ ns)).take k) ∧ Below w3.heap.size w3 wr) (fun _ _ i _ _ _ => T - (intOf i).toNat)
  case atStart => exact ⟨0, Nat.zero_le _, rfl, ⟨_, rfl, (by decide : feeds ([], []) [32] = ([], [])), by decide⟩, by simpa using Own.nil _ _ _, Below.refl _ _⟩
  case round =>
    obtain ⟨k, hk, rfl, ⟨s, rfl, hfs, hss⟩, hown, hb⟩ := hrel
    have Hb := Lib.hid hb
    have hz := hb.size
    have t0 := (HY.out.below hb).c0
    have t1 := (HY.out.below hb).c1
    obtain ⟨Av, cv, rfl, _⟩ := hown.form
    have hlv : ((strs (ls ++ ns)).take k).length ≤ 196 := by rw [List.length_take, HSL.out]; omega
    have hk1 : (k : Int) ≤ 196 := by omega
    have hk0 : 0 ≤ (k : Int) := by omega
    clear hb
    have HST1' := Lib.hid (fun h => HST.out k h)
    generalize htk : (strs (ls ++ ns)).take k = tk at *
    have HTK := Lib.hid htk
    clear htk
    go_wp2_with fail
    refine (HC.out _ (HTX.out.to Hb.out)).mono ?_
    rintro e w5 ⟨rfl, hb5⟩
    have Hb5 := Lib.hid (Hb.out.trans (hb5.mono hz))
    have hown5 := hown.below hb5
    have q0 := (HY.out.below Hb5.out).c0
    have q1 := (HY.out.below Hb5.out).c1
    clear hb5 hown t0 t1
    by_cases hlt : k < T
    · have hlt' : (k : Int) < (T : Int) := by omega
      have hkf : k < (ls ++ ns).flatten.length := by rw [HFL.out]; exact hlt
      have HX := Lib.hid (HG.out _ (List.getElem_mem hkf))
      have HST1 := Lib.hid (HST1'.out hkf)
      have HW1 := Lib.hid (HWO.out k hkf)
      generalize (ls ++ ns).flatten[k] = x at *
      go_wp2_with fail
      refine (HG2.out _ (HTX.out.to Hb5.out) k (by omega)).mono ?_
      rintro e w6 ⟨rfl, hb6⟩
      rw [HW1.out]
      have Hb6 := Lib.hid (Hb5.out.trans (hb6.mono Hb5.out.size))
      have hown6 := hown5.below hb6
      have hz6 := Hb6.out.size
      have hb6s := hb6.size
      have hz5 := Hb5.out.size
      have hxs := valid_size HX.out.1
      have hs1 : (s.size : Int) + (x.s.size : Int) ≤ 9223372036854775807 := by omega
      have hs1n : s.size + x.s.size ≤ 9223372036854775807 := by omega
      have hs2 : (s.size : Int) + (x.s.size : Int) + 1 ≤ 9223372036854775807 := by omega
      have hs2n : s.size + x.s.size + 1 ≤ 9223372036854775807 := by omega
      clear hb6 hown5 q0 q1
      unfold Word.val
      obtain ⟨O, hO⟩ : ∃ O : Obj, O = .cells #[.string x.s, .string x.key, .int .i64 x.t, .int .i64 x.n] 36 := ⟨_, rfl⟩
      have HO := Lib.hid hO
      clear hO
      have HXM : Hid (x.s.size ≤ maxLen) := Lib.hid (by unfold maxLen; omega)
      go_upto_region 9 with (at_builtin; refine wpList_push (α := ByteArray) _ rfl (.tmp 27) (.tmp 30) 24 rfl w3.heap.size 9 (.string ⟨#[]⟩) 16 Tryd.underlying24 str_info rfl (by decide) (.slice Av tk.length cv) tk rfl ((hown6.alloc _).alloc _) (w6.heap.size + 1) _ x.s (0, 0) 9 rfl (heap_at (W := (w6.alloc (.cells #[.string x.s, .string x.key, .int .i64 x.t, .int .i64 x.n] 36))) (by simp)) ⟨rfl, HXM.out⟩ (by omega) (by omega) (by first | omega | (simp; done) | (simp; omega)) _ rfl ?_; intro g cap w7 hown7 hg7 hat7 hlt7; have p7 := cell_of_row w7 w6.heap.size 0 _ _ _ ((hg7.block w6.heap.size (by simp; omega) (fun e => by have := (hown6.lt _ e.symm).2; omega)).trans ((Below.heap_alloc (w6.alloc (.cells #[.string x.s, .string x.key, .int .i64 x.t, .int .i64 x.n] 36)) _ w6.heap.size (by simp)).trans (heap_alloc_new w6 _))); simp only [List.getElem?_toArray, List.getElem?_cons_zero] at p7; have HG7 := Lib.hid hg7; clear hg7 hat7 hlt7)
      clear HWO HC HG2 HG
      go_upto_region 10 with (fail)
      have Hb7 := Lib.hid (below_push (Hb6.out.alloc hz6 _) (hown6.alloc _) (by simp; omega) HG7.out)
      have Hw7 := Lib.hid (Hb4.out.trans (Hb7.out.mono Hb4.out.size))
      have hz7 := Hb7.out.size
      by_cases hin : k < bl.length
      · obtain ⟨bb, ob, rfl, _, hbbl, hn255, hbc⟩ := b8_at (HBL.out.to Hw7.out) hin
        have hin' : (k : Int) < (bl.length : Int) := by omega
        generalize bl[k].n = nb at *
        have hnb0 : 0 ≤ (nb : Int) := by omega
        have hnb1 : (nb : Int) ≤ 255 := by omega
        obtain ⟨bx, hbx, hmem⟩ := blank_at (nb % 5) (Nat.mod_lt _ (by decide))
        simp only [blanks, List.map_cons, List.map_nil] at hbx
        have HSP := Lib.hid (blanks_sp bx hmem)
        have hb2 := HSP.out.2
        have hs3 : (s.size : Int) + (x.s.size : Int) + 1 + (bx.size : Int) ≤ 9223372036854775807 := by omega
        have hs3n : s.size + x.s.size + 1 + bx.size ≤ 9223372036854775807 := by omega
        have HF := Lib.hid (feeds_next s x.s bx tk hfs.out HX.out.1 HSP.out.1)
        have HSZ : Hid ((s ++ x.s ++ ⟨#[32]⟩ ++ bx).size ≤ 1 + (k + 1) * 43) := Lib.hid (by
          have e1 : (⟨#[32]⟩ : ByteArray).size = 1 := rfl
          rw [ByteArray.size_append, ByteArray.size_append, ByteArray.size_append, e1]; omega)
        clear hmem hn255 p7
        go_wp2_with fail
        go_roundw
        case rel => exact ⟨k + 1, by omega, by go_num, ⟨_, rfl, by show _ = _; rw [HST1.out]; exact HF.out, HSZ.out⟩, by rw [HST1.out]; exact hown7.alloc _, Hb7.out.alloc hz7 _⟩
        case measure => simp [intOf]; omega
      · have hin' : ¬ (k : Int) < (bl.length : Int) := by omega
        have HF := Lib.hid (feeds_next0 s x.s tk hfs.out HX.out.1)
        have HSZ : Hid ((s ++ x.s ++ ⟨#[32]⟩).size ≤ 1 + (k + 1) * 43) := Lib.hid (by
          have e1 : (⟨#[32]⟩ : ByteArray).size = 1 := rfl
          rw [ByteArray.size_append, ByteArray.size_append, e1]; omega)
        clear p7
        go_wp2_with fail
        go_roundw
        case rel => exact ⟨k + 1, by omega, by go_num, ⟨_, rfl, by show _ = _; rw [HST1.out]; exact HF.out, HSZ.out⟩, by rw [HST1.out]; exact hown7, Hb7.out⟩
        case measure => simp [intOf]; omega
    · have hlt' : ¬ (k : Int) < (T : Int) := by omega
      obtain rfl : k = T := by omega
      have E : strs (ls ++ ns) = tk := by rw [← HTK.out, List.take_of_length_le (by rw [HSL.out]; exact Nat.le_refl _)]
      have HSE := Lib.hid (split_feeds s tk hfs.out (fun y hy => HAV.out y (by rw [E]; exact hy)))
      have hsz : s.size ≤ 4194304 := by omega
      have Hw5 := Lib.hid (Hb4.out.trans (Hb5.out.mono Hb4.out.size))
      clear HWO HC HG2 HG E q0 q1
      go_wp2_with fail
      refine (gsplit_any s _ hsz (HT.out.to Hw5.out).1).mono ?_
      rintro e w8 ⟨v8, rfl, hown8, hb8⟩
      rw [HSE.out] at hown8 ⊢
      obtain ⟨A8, c8, rfl, hs8⟩ := hown8.sl
      obtain ⟨A9, c9, e9, hs9⟩ := (hown5.below hb8).sl
      obtain ⟨rfl, _, rfl⟩ := Value.slice.inj e9
      have Hs8 := Lib.hid hs8
      have Hs9 := Lib.hid hs9
      have Hw8 := Lib.hid (Hw5.out.trans (hb8.mono Hw5.out.size))
      clear hs8 hs9 hown8 hown5 e9 hb8
      go_wp2_with fail
      refine (same_strings A8 Av c8 cv tk tk _ Hs8.out Hs9.out).mono ?_
      rintro e w9 ⟨rfl, hb9⟩
      have Hw9 := Lib.hid (Hw8.out.trans (hb9.mono Hw8.out.size))
      rw [decide_eq_true (rfl : tk = tk)]
      clear hb9
      go_wp2_with fail
      refine (lives_any _ (HT.out.to Hw9.out)).mono ?_
      rintro e w10 ⟨rfl, hb10⟩
      have Hw10 := Lib.hid (Hw9.out.trans (hb10.mono Hw9.out.size))
      clear hb10
      go_wp2_with fail
      go_ret
      exact ⟨rfl, Hw10.out⟩
end Go.Proofs.YtgnblofjjondpaaDoor
