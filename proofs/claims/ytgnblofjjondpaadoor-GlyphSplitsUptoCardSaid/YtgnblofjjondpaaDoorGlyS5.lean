/- GlyphSplits: what the law answers. No condition but what the tables hold and the size of the string. -/
import Derived.Test.YtgnblofjjondpaaDoorGlySp
import Derived.Test.YtgnblofjjondpaaDoorGlyInt
import Derived.Test.YtgnblofjjondpaaDoorGlyW11
namespace Go.Proofs.YtgnblofjjondpaaDoor
open Go.RowKit
/-- The state of the reference's loop. -/
def rt (s : ByteArray) : Nat → Nat × List (Nat × Nat)
  | 0 => (0, [])
  | k + 1 => if s.size ≤ k ∨ isSp (byteAt s k) = true then (k + 1, cl (rt s k).1 k (rt s k).2) else rt s k
theorem rt_rs (s : ByteArray) : ∀ k, k ≤ s.size → rt s k = rs s k
  | 0, _ => rfl
  | k + 1, h => by
    rw [rt, rs, rt_rs s k (by omega)]
    by_cases hs : isSp (byteAt s k) = true
    · rw [if_pos (.inr hs), if_pos hs]
    · rw [if_neg (by rintro (h' | h'); omega; exact hs h'), if_neg hs]
def pc (s : ByteArray) (l : List (Nat × Nat)) : List ByteArray := l.map fun x => s.extract x.1 x.2
theorem rt_end (s : ByteArray) : pc s (rt s (s.size + 1)).2 = pieces s := by
  unfold pieces
  rw [fields_rs, rt, if_pos (.inl (Nat.le_refl _)), rt_rs s _ (Nat.le_refl _)]; rfl
theorem rt_le (s : ByteArray) : ∀ k, (rt s k).1 ≤ k
  | 0 => Nat.le_refl _
  | k + 1 => by
    rw [rt]; split
    · exact Nat.le_refl _
    · have := rt_le s k; omega
theorem rt_len (s : ByteArray) : ∀ k, (rt s k).2.length ≤ k
  | 0 => Nat.le_refl _
  | k + 1 => by
    have := rt_len s k
    rw [rt]; split
    · show (cl _ _ _).length ≤ _
      unfold cl; split
      · simp; omega
      · omega
    · omega
theorem rt_skip (s : ByteArray) (k : Nat) (h : ¬ (s.size ≤ k ∨ isSp (byteAt s k) = true)) : rt s (k + 1) = rt s k := by rw [rt, if_neg h]
theorem rt_gap (s : ByteArray) (k : Nat) (h : s.size ≤ k ∨ isSp (byteAt s k) = true) (h2 : ¬ (rt s k).1 < k) : rt s (k + 1) = (k + 1, (rt s k).2) := by rw [rt, if_pos h]; unfold cl; rw [if_neg h2]
theorem rt_word (s : ByteArray) (k : Nat) (h : s.size ≤ k ∨ isSp (byteAt s k) = true) (h2 : (rt s k).1 < k) : (rt s (k + 1)).1 = k + 1 ∧ pc s (rt s (k + 1)).2 = pc s (rt s k).2 ++ [s.extract (rt s k).1 k] := by
  rw [rt, if_pos h]; unfold cl; rw [if_pos h2]; exact ⟨rfl, by unfold pc; rw [List.map_append]; rfl⟩
theorem rt_bad (s : ByteArray) (k : Nat) (hk : k ≤ s.size) (h : s.size ≤ k ∨ isSp (byteAt s k) = true) (h2 : (rt s k).1 < k) (hv : valid (s.extract (rt s k).1 k) = false) : splitE s = ([], 7) := by
  have hm := piece_mem s k hk (by rw [← rt_rs s k hk]; exact h2) (by rcases h with h | h; exact .inl (by omega); exact .inr h)
  rw [← rt_rs s k hk] at hm
  unfold splitE
  rw [if_neg]
  intro ha
  rw [List.all_eq_true] at ha
  have := ha _ hm
  rw [hv] at this; cases this
theorem rt_good (s : ByteArray) (h : (pc s (rt s (s.size + 1)).2).all valid = true) : splitE s = (pieces s, 0) := by
  unfold splitE
  rw [← rt_end, if_pos h]
theorem isSp_iff (c : Nat) : isSp c = true ↔ (c = 9 ∨ c = 10 ∨ c = 13 ∨ c = 32) := by unfold isSp; simp; omega
set_option maxHeartbeats 2000000 in
theorem rsplit_any (s : ByteArray) (w : World) (hs : s.size ≤ 4194304) :
    Calls Tryd.prog 32 #[.string s] w fun e w' => ∃ v, e = .returned (.tuple #[v, .int .i64 (splitE s).2]) ∧ Own w' w.heap.size 9 v (splitE s).1 ∧ Below w.heap.size w w' := by
  have hs2 : (s.size : Int) ≤ 4194304 := by omega
  have Hbad := Lib.hid (rt_bad s)
  have Hgood := Lib.hid (rt_good s)
  have Hend := Lib.hid (rt_end s)
  go_enter Tryd.func32, Tryd.ntmps32
  go_wp2_with fail
  go_loopw [4, 5, 6] (fun v fr i wr => ∃ k : Nat, k ≤ s.size + 1 ∧ i = .int .i64 k ∧ fr = .int .i64 ((rt s k).1 : Int) ∧ Own wr w.heap.size 9 v (pc s (rt s k).2) ∧ Hid ((pc s (rt s k).2).all valid = true) ∧ Below w.heap.size w wr) (fun _ _ i _ => s.size + 1 - (intOf i).toNat)
  case atStart => exact ⟨0, Nat.zero_le _, rfl, rfl, Own.nil _ _ _, rfl, Below.refl _ _⟩
  case round =>
    obtain ⟨k, hk, rfl, rfl, hown, hav, hb⟩ := hrel
    have Hb := Lib.hid hb
    have hz := hb.size
    clear hb
    obtain ⟨A2, c2, rfl, _⟩ := hown.sl
    have hz1 := rt_le s k
    have HS1 := Lib.hid (rt_skip s k)
    have HS2 := Lib.hid (rt_gap s k)
    have HS3 := Lib.hid (rt_word s k)
    have HB := Lib.hid (Hbad.out k)
    have hpl := rt_len s k
    have hf0 : 0 ≤ ((rt s k).1 : Int) := by omega
    have hf1 : ((rt s k).1 : Int) ≤ (k : Int) := by omega
    have hpcl : (pc s (rt s k).2).length ≤ k := by unfold pc; rw [List.length_map]; exact hpl
    generalize hfr : (rt s k).1 = fr at *
    have HFR := Lib.hid hfr
    clear hfr
    generalize hpcs : pc s (rt s k).2 = ps at *
    have HPC := Lib.hid hpcs
    clear hpcs
    by_cases hlt : k ≤ s.size
    · have hkl : (k : Int) ≤ (s.size : Int) := by omega
      have hk0 : (0 : Int) ≤ (k : Int) := by omega
      have hk1 : (k : Int) ≤ 4194304 := by omega
      by_cases hsk : k < s.size ∧ isSp (byteAt s k) = false
      · obtain ⟨hin, hsp⟩ := hsk
        have hi1 : (k : Int) < (s.size : Int) := by omega
        have hby : byteAt s k = s[k].toNat := by unfold byteAt; simp [ByteArray.get!, hin]; rfl
        have hns : ¬ (s[k].toNat = 9 ∨ s[k].toNat = 10 ∨ s[k].toNat = 13 ∨ s[k].toNat = 32) := by rw [← isSp_iff, ← hby, hsp]; simp
        have b1 : ((s[k].toNat : Int) != 9) = true := by simp; omega
        have b2 : ((s[k].toNat : Int) != 10) = true := by simp; omega
        have b3 : ((s[k].toNat : Int) != 13) = true := by simp; omega
        have b4 : ((s[k].toNat : Int) != 32) = true := by simp; omega
        have E := Lib.hid (HS1.out (by rintro (h | h); omega; rw [hsp] at h; cases h))
        clear hby hns hsp
        go_wp2_with fail
        go_roundw
        case rel => exact ⟨k + 1, by omega, by go_num, by rw [E.out, HFR.out], by rw [E.out, HPC.out]; exact hown, by show _ = true; rw [E.out, HPC.out]; exact hav.out, Hb.out⟩
        case measure => simp [intOf]; omega
      · have hbd : s.size ≤ k ∨ isSp (byteAt s k) = true := by
          rcases Nat.lt_or_ge k s.size with h | h
          · exact .inr (eq_true_of_ne_false fun e => hsk ⟨h, e⟩)
          · exact .inl h
        have HBD := Lib.hid hbd
        have hfive : ¬ (k : Int) < (s.size : Int) ∨ ∃ hin : k < s.size, (k : Int) < (s.size : Int) ∧ ((s[k].toNat : Int) = 9 ∨ (s[k].toNat : Int) = 10 ∨ (s[k].toNat : Int) = 13 ∨ (s[k].toNat : Int) = 32) := by
          rcases Nat.lt_or_ge k s.size with h | h
          · refine .inr ⟨h, by omega, ?_⟩
            have hby : byteAt s k = s[k].toNat := by unfold byteAt; simp [ByteArray.get!, h]; rfl
            have : isSp (byteAt s k) = true := eq_true_of_ne_false fun e => hsk ⟨h, e⟩
            rw [isSp_iff, hby] at this
            omega
          · exact .inl (by omega)
        clear hbd hsk HS1
        by_cases hw : fr < k
        · have hw1 : (fr : Int) < (k : Int) := by omega
          have hns : ¬ k ≤ fr := by omega
          have HW := Lib.hid (HS3.out HBD.out hw)
          have HBad := Lib.hid (fun h => HB.out hlt HBD.out hw h)
          have hsz : (s.extract fr k).size ≤ 4194304 := by rw [ByteArray.size_extract]; omega
          have HSZ := Lib.hid hsz
          generalize hps : s.extract fr k = piece at *
          clear HB HS2 HS3 hsz
          rcases hfive with h | ⟨hin, h9, h | h | h | h⟩
          all_goals go_wp2_with fail
          all_goals refine (rvalid_any piece _ (by have := HSZ.out; omega)).mono ?_
          all_goals rintro e w' ⟨rfl, rfl⟩
          all_goals cases hv : valid piece
          all_goals first
            | (have E := Lib.hid (HBad.out hv)
               clear hv
               go_wp2_with fail
               go_ret2
               rw [E.out]
               exact ⟨_, rfl, Own.nil _ _ _, Hb.out⟩)
            | (have HV := Lib.hid hv
               clear hv
               go_wp2_with (at_builtin; refine wpList_push (α := ByteArray) _ rfl (.tmp 50) (.tmp 55) 24 rfl w.heap.size 9 (.string ⟨#[]⟩) 16 Tryd.underlying24 str_info rfl (by decide) _ ps rfl (hown.alloc _) wr.heap.size _ piece (0, 0) 9 rfl (heap_alloc_new wr _) ⟨rfl, Nat.le_trans HSZ.out (by decide)⟩ (by omega) (by omega) (by first | omega | (simp; done) | (simp; omega)) _ rfl ?_; intro g cap w5 hown5 hg5 hat5 hlt5)
               go_roundw
               case rel => exact ⟨k + 1, by omega, by go_num, by rw [HW.out.1]; go_num, by rw [HW.out.2]; exact hown5, by show _ = true; rw [HW.out.2, List.all_append, hav.out]; simp [HV.out], below_push Hb.out hown hz hg5⟩
               case measure => simp [intOf]; omega)
        · have hw1 : ¬ (fr : Int) < (k : Int) := by omega
          have hns : k ≤ fr := by omega
          have HW := Lib.hid (HS2.out HBD.out hw)
          clear HB HS2 HS3
          rcases hfive with h | ⟨hin, h9, h | h | h | h⟩
          all_goals go_wp2_with fail
          all_goals go_roundw
          all_goals first
            | exact ⟨k + 1, by omega, by go_num, by rw [HW.out]; go_num, by rw [HW.out]; show Own _ _ _ _ (pc s (rt s k).2); rw [HPC.out]; exact hown, by show _ = true; rw [HW.out]; show (pc s (rt s k).2).all valid = true; rw [HPC.out]; exact hav.out, Hb.out⟩
            | (simp [intOf]; omega)
    · have hkl : ¬ (k : Int) ≤ (s.size : Int) := by omega
      obtain rfl : k = s.size + 1 := by omega
      have E := Lib.hid (Hgood.out (by rw [HPC.out]; exact hav.out))
      rw [Hend.out] at HPC
      clear HB HS1 HS2 HS3
      go_wp2_with fail
      go_ret2
      rw [E.out, HPC.out]
      exact ⟨_, rfl, hown, Hb.out⟩
set_option maxHeartbeats 1000000 in
theorem splits_any (s : ByteArray) (w : World) (hs : s.size ≤ 4194304) (hT : Tabs w) :
    Calls Tryd.prog 7 #[.string s] w fun e w' => e = .returned (.bool true) ∧ Below w.heap.size w w' := by
  have HT := Lib.hid hT
  clear hT
  go_enter Tryd.func7, Tryd.ntmps7
  go_wp2_with fail
  refine (gsplit_any s _ hs HT.out.1).mono ?_
  rintro e w1 ⟨v, rfl, hown1, hb1⟩
  obtain ⟨A1, c1, rfl, hs1⟩ := hown1.sl
  have Hs1 := Lib.hid hs1
  have Hb1 := Lib.hid hb1
  clear hs1 hb1 hown1
  go_wp2_with fail
  refine (rsplit_any s _ hs).mono ?_
  rintro e w2 ⟨v, rfl, hown2, hb2⟩
  obtain ⟨A2, c2, rfl, hs2⟩ := hown2.sl
  generalize splitE s = r at *
  obtain ⟨l, er⟩ := r
  have Hs2 := Lib.hid hs2
  have Hs12 := Lib.hid (Hs1.out.to hb2)
  have Hb2 := Lib.hid (Hb1.out.trans (hb2.mono Hb1.out.size))
  clear hs2 hb2 hown2 Hb1 Hs1
  go_wp2_with fail
  refine (same_strings A1 A2 c1 c2 l l _ Hs12.out Hs2.out).mono ?_
  rintro e w3 ⟨rfl, hb3⟩
  have Hb3 := Lib.hid (Hb2.out.trans (hb3.mono Hb2.out.size))
  rw [decide_eq_true (rfl : l = l)]
  clear hb3
  go_wp2_with fail
  refine (lives_any _ (HT.out.to Hb3.out)).mono ?_
  rintro e w4 ⟨rfl, hb4⟩
  have Hb4 := Lib.hid (Hb3.out.trans (hb4.mono Hb3.out.size))
  clear hb4
  go_wp2_with fail
  go_ret
  exact ⟨rfl, Hb4.out⟩
theorem splits_up (s : ByteArray) (w : World) (_ : s.size ≤ maxLen) (hb : s.size ≤ 1048576) (hT : Tabs w) :
    Calls Tryd.prog 7 #[.string s] w fun e w' => e = .returned (.bool true) ∧ Below w.heap.size w w' := splits_any s w (by omega) hT
end Go.Proofs.YtgnblofjjondpaaDoor
