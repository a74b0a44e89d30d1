/- The hash values of bytes, of leaves. No condition but sizes and what the table holds. -/
import Derived.Test.YthcklfelofpffaaDoorCerW5
namespace Go.Proofs.YthcklfelofpffaaDoor
open Go.RowKit
/-- What is left over of a. -/
def rest64 (a : List UInt8) : List UInt8 := a.drop (64 * (a.length / 64))
/-- v is the state after the bytes a. -/
def St (w : World) (a : List UInt8) (v : Value) : Prop := ∃ A c, v = stV (blks H0 a (a.length / 64)) A (rest64 a).length c a.length ∧ Sl w (fun b => b < w.heap.size) A c (rest64 a)
theorem St.to {w w' : World} {a : List UInt8} {v : Value} (h : St w a v) (hb : Below w.heap.size w w') : St w' a v := by
  obtain ⟨A, c, e, hs⟩ := h
  exact ⟨A, c, e, hs.to hb⟩
theorem blks_two (a b : List UInt8) : blks (blks H0 a (a.length / 64)) (rest64 a ++ b) ((rest64 a ++ b).length / 64) = blks H0 (a ++ b) ((a ++ b).length / 64) ∧ (rest64 a ++ b).drop (64 * ((rest64 a ++ b).length / 64)) = rest64 (a ++ b) := by
  have e : rest64 a ++ b = (a ++ b).drop (64 * (a.length / 64)) := by rw [rest64, List.drop_append_of_le_length (by omega)]
  have hl : (rest64 a ++ b).length = (a ++ b).length - 64 * (a.length / 64) := by rw [e, List.length_drop]
  have hq : a.length / 64 + (rest64 a ++ b).length / 64 = (a ++ b).length / 64 := by rw [hl, List.length_append]; omega
  constructor
  · rw [← hq]; generalize (rest64 a ++ b).length / 64 = q
    rw [e, ← blks_append H0 a b (a.length / 64) (by omega), blks_drop]
  · show _ = (a ++ b).drop (64 * ((a ++ b).length / 64))
    rw [← hq]; generalize (rest64 a ++ b).length / 64 = q
    rw [e, List.drop_drop, Nat.mul_add]
theorem new_st (w : World) : Calls Tryd.prog 66 #[] w fun e w' => ∃ v, e = .returned v ∧ St w' [] v ∧ Below w.heap.size w w' :=
  (new_any w).mono fun e w' ⟨he, hb⟩ => ⟨_, he, ⟨none, 0, rfl, Sl.nil _ _ _ _ (by simp [maxLen])⟩, hb⟩
theorem write_st (a b : List UInt8) (v : Value) (B : Option Addr) (n d : Nat) (w : World) (hv : St w a v) (hb : Sl w (fun b => b < w.heap.size) B d b) (hn : b.length = n) (hsz : a.length + b.length ≤ 1073741824) (hK : KLaid w) :
    Calls Tryd.prog 65 #[v, .slice B n d] w fun e w' => ∃ v', e = .returned v' ∧ St w' (a ++ b) v' ∧ Below w.heap.size w w' := by
  subst hn
  obtain ⟨A, c, rfl, hs⟩ := hv
  have hr : (rest64 a).length ≤ a.length := by unfold rest64; rw [List.length_drop]; omega
  obtain ⟨e1, e2⟩ := blks_two a b
  refine (write_any (blks H0 a (a.length / 64)) (blks_length rfl a _) (rest64 a) b A B c d a.length w hs hb (by omega) ⟨by omega, by omega⟩ hK).mono ?_
  rintro e w' ⟨A', c', rfl, hs', hb'⟩
  rw [e2] at hs'
  refine ⟨_, rfl, ⟨A', c', ?_, hs'⟩, hb'⟩
  rw [e1, e2, List.length_append, Int.natCast_add]
theorem close_st (a : List UInt8) (v : Value) (w : World) (hv : St w a v) (hsz : a.length ≤ 1073741824) (hK : KLaid w) :
    Calls Tryd.prog 64 #[v] w fun e w' => e = .returned (hashV (sha a)) ∧ Below w.heap.size w w' := by
  obtain ⟨A, c, rfl, hs⟩ := hv
  exact close_any a A c w hs hsz hK
theorem hash_all (l : List UInt8) : (l.map encB).toArray.all (·.oneCell') = true := by
  rw [Array.all_eq_true_iff_forall_mem]
  intro v hv
  obtain ⟨b, _, rfl⟩ := List.mem_map.1 (List.mem_toArray.1 hv)
  rfl
theorem hash_size {l : List UInt8} (h : l.length = 32) : (l.map encB).toArray.size = 32 := by simp [h]
set_option maxRecDepth 100000 in
set_option maxHeartbeats 4000000 in
theorem sum_any (b : List UInt8) (B : Option Addr) (n d : Nat) (w : World) (hb : Sl w (fun b => b < w.heap.size) B d b) (hn : b.length = n) (hsz : b.length ≤ 1073741824) (hK : KLaid w) :
    Calls Tryd.prog 61 #[.slice B n d] w fun e w' => e = .returned (hashV (sha b)) ∧ Below w.heap.size w w' := by
  have HB := Lib.hid hb
  have HK := Lib.hid hK
  have HN := Lib.hid hn
  clear hb hK hn
  go_enter Tryd.func61, Tryd.ntmps61
  go_upto_region 1 with (fail)
  generalize hw1 : World.alloc w _ = w1
  have hb1 : Below w.heap.size w w1 := by rw [← hw1]; exact (Below.refl _ _).alloc (Nat.le_refl _) _
  have HR : Hid (ABox w1 w.heap.size 29 (zer32.map encB)) := by rw [← hw1]; exact Lib.hid (heap_alloc_new w _)
  have HB1 := Lib.hid hb1
  clear hw1 hb1
  go_wp2_with fail
  refine (new_st w1).mono ?_
  rintro e w2 ⟨v2, rfl, hv2, hb2⟩
  have HB2 := Lib.hid (HB1.out.trans (hb2.mono HB1.out.size))
  have HR2 := Lib.hid (HR.out.to hb2)
  have HV2 := Lib.hid hv2
  clear hb2 hv2 HB1 HR
  go_wp2_with fail
  refine (write_st [] b v2 B n d w2 HV2.out (HB.out.to HB2.out) HN.out (by simp; exact hsz) (HK.out.to HB2.out)).mono ?_
  rintro e w3 ⟨v3, rfl, hv3, hb3⟩
  rw [List.nil_append] at hv3
  have HB3 := Lib.hid (HB2.out.trans (hb3.mono HB2.out.size))
  have HR3 := Lib.hid (HR2.out.to hb3)
  have HV3 := Lib.hid hv3
  clear hb3 hv3 HB2 HR2 HV2
  go_wp2_with fail
  refine (close_st b v3 w3 HV3.out hsz (HK.out.to HB3.out)).mono ?_
  rintro e w4 ⟨rfl, hb4⟩
  have HB4 := Lib.hid (below_setRow (HB3.out.trans (hb4.mono HB3.out.size)) (R := w.heap.size) (Nat.le_refl _) ((sha b).map encB).toArray)
  have hr4 : w4.heap[w.heap.size]? = some (.cells (zer32.map encB).toArray 29 (0, 0)) := HR3.out.to hb4
  have HX := Lib.hid (setRow_heap w4 w.heap.size _ ((sha b).map encB).toArray _ _ hr4)
  have HSZ := Lib.hid (hash_size (sha_length b))
  have HC1 := Lib.hid (hash_all (sha b))
  have HRZ : Hid ((zer32.map encB).toArray.size = 32) := Lib.hid rfl
  clear hb4 HR3 HV3 HB3
  have HRE : Hid (hashV (sha b) = .agg ((sha b).map encB).toArray) := Lib.hid rfl
  unfold hashV
  generalize ((sha b).map encB).toArray = cs at *
  generalize (zer32.map encB).toArray = zs at *
  go_wp2_with (first
    | (refine wpList_store_row rfl 29 (.tmp 2) (.tmp 6) rfl w.heap.size cs rfl rfl 29 zs hr4 (by rw [HSZ.out]; kernel_rfl) (by rw [HRZ.out, HSZ.out]) HC1.out ?_)
    | fail)
  exact bodyPost_ret (v := .agg cs) (results_cell_row Tryd.results61 _ _ w.heap.size _ cs (0, 0) _ rfl HX.out Tryd.underlying29 rfl (by rw [HSZ.out]; kernel_rfl)) rfl ⟨by rw [HRE.out], HB4.out⟩
set_option maxRecDepth 100000 in
set_option maxHeartbeats 4000000 in
theorem leaf_any (b : List UInt8) (B : Option Addr) (n d : Nat) (w : World) (hb : Sl w (fun b => b < w.heap.size) B d b) (hn : b.length = n) (hsz : b.length ≤ 1073741000) (hK : KLaid w) :
    Calls Tryd.prog 36 #[.slice B n d] w fun e w' => e = .returned (hashV (leafH b)) ∧ Below w.heap.size w w' := by
  have HB := Lib.hid hb
  have HK := Lib.hid hK
  have HN := Lib.hid hn
  clear hb hK hn
  unfold leafH
  go_enter Tryd.func36, Tryd.ntmps36
  go_upto_region 1 with (fail)
  generalize hw1 : World.alloc w _ = w1
  have hb1 : Below w.heap.size w w1 := by rw [← hw1]; exact (Below.refl _ _).alloc (Nat.le_refl _) _
  have HR : Hid (ABox w1 w.heap.size 29 (zer32.map encB)) := by rw [← hw1]; exact Lib.hid (heap_alloc_new w _)
  have HB1 := Lib.hid hb1
  clear hw1 hb1
  go_wp2_with fail
  refine (new_st w1).mono ?_
  rintro e w2 ⟨v2, rfl, hv2, hb2⟩
  have hba := hb2.trans (((Below.refl w2.heap.size w2).alloc (Nat.le_refl _) (.cells #[.int .u8 0] 5)).mono hb2.size)
  have HB2 := Lib.hid (HB1.out.trans (hba.mono HB1.out.size))
  have HR2 := Lib.hid (HR.out.to hba)
  have HV2 := Lib.hid (hv2.to ((Below.refl w2.heap.size w2).alloc (Nat.le_refl _) (.cells #[.int .u8 0] 5)))
  have HL : Hid (Sl (w2.alloc (.cells #[.int .u8 0] 5)) (fun b => b < (w2.alloc (.cells #[.int .u8 0] 5)).heap.size) (some ⟨w2.heap.size, 0, none⟩) 1 [(0 : UInt8)]) := Lib.hid (by
    obtain ⟨A, c, e, hs⟩ := (Own.lit w2 0 5 #[.int .u8 0] [(0 : UInt8)] (Nat.zero_le _) (by simp [maxLen]) rfl (by simp; rfl) (fun i hi => by
      obtain rfl : i = 0 := by simp at hi; omega
      rfl)).sl
    cases e; exact hs)
  clear hb2 hv2 hba HB1 HR
  go_wp2_with fail
  generalize (w2.alloc (.cells #[.int .u8 0] 5)) = w2a at *
  refine (write_st [] [0] v2 (some ⟨w2.heap.size, 0, none⟩) 1 1 w2a HV2.out HL.out rfl (by simp) (HK.out.to HB2.out)).mono ?_
  rintro e w3 ⟨v3, rfl, hv3, hb3⟩
  have HB3 := Lib.hid (HB2.out.trans (hb3.mono HB2.out.size))
  have HR3 := Lib.hid (HR2.out.to hb3)
  have HV3 := Lib.hid hv3
  clear hb3 hv3 HB2 HR2 HV2 HL
  go_wp2_with fail
  refine (write_st _ b v3 B n d w3 HV3.out (HB.out.to HB3.out) HN.out (by simp; omega) (HK.out.to HB3.out)).mono ?_
  rintro e w5 ⟨v5, rfl, hv5, hb5⟩
  have HB5 := Lib.hid (HB3.out.trans (hb5.mono HB3.out.size))
  have HR5 := Lib.hid (HR3.out.to hb5)
  have hv6 : St w5 (0 :: b) v5 := hv5
  have HV5 := Lib.hid hv6
  clear hb5 hv5 hv6 HB3 HR3 HV3
  go_wp2_with fail
  refine (close_st (0 :: b) v5 w5 HV5.out (by simp; omega) (HK.out.to HB5.out)).mono ?_
  rintro e w4 ⟨rfl, hb4⟩
  have HB4 := Lib.hid (below_setRow (HB5.out.trans (hb4.mono HB5.out.size)) (R := w.heap.size) (Nat.le_refl _) ((sha (0 :: b)).map encB).toArray)
  have hr4 : w4.heap[w.heap.size]? = some (.cells (zer32.map encB).toArray 29 (0, 0)) := HR5.out.to hb4
  have HX := Lib.hid (setRow_heap w4 w.heap.size _ ((sha (0 :: b)).map encB).toArray _ _ hr4)
  have HSZ := Lib.hid (hash_size (sha_length (0 :: b)))
  have HC1 := Lib.hid (hash_all (sha (0 :: b)))
  have HRZ : Hid ((zer32.map encB).toArray.size = 32) := Lib.hid rfl
  clear hb4 HR5 HV5 HB5
  have HRE : Hid (hashV (sha (0 :: b)) = .agg ((sha (0 :: b)).map encB).toArray) := Lib.hid rfl
  unfold hashV
  generalize ((sha (0 :: b)).map encB).toArray = cs at *
  generalize (zer32.map encB).toArray = zs at *
  go_wp2_with (first
    | (refine wpList_store_row rfl 29 (.tmp 2) (.tmp 8) rfl w.heap.size cs rfl rfl 29 zs hr4 (by rw [HSZ.out]; kernel_rfl) (by rw [HRZ.out, HSZ.out]) HC1.out ?_)
    | fail)
  exact bodyPost_ret (v := .agg cs) (results_cell_row Tryd.results36 _ _ w.heap.size _ cs (0, 0) _ rfl HX.out Tryd.underlying29 rfl (by rw [HSZ.out]; kernel_rfl)) rfl ⟨by rw [HRE.out], HB4.out⟩
end Go.Proofs.YthcklfelofpffaaDoor
