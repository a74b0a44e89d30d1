/- The reference: node, split, root, head, last label. No condition but sizes. -/
import Derived.Test.YthcklfelofpffaaDoorCerW36
namespace Go.Proofs.YthcklfelofpffaaDoor
open Go.RowKit
set_option maxRecDepth 100000 in
set_option maxHeartbeats 4000000 in
theorem rnode_any (a b : List UInt8) (ha : a.length = 32) (hb : b.length = 32) (w : World) :
    Calls Tryd.prog 77 #[hashV a, hashV b] w fun e w' => e = .returned (hashV (nodeH a b)) ∧ Below w.heap.size w w' := by
  have HA := Lib.hid (hash_size ha)
  have HBs := Lib.hid (hash_size hb)
  have HLa := Lib.hid ha
  have HLb := Lib.hid hb
  clear ha hb
  have hA : hashV a = .agg (a.map encB).toArray := rfl
  have hB : hashV b = .agg (b.map encB).toArray := rfl
  rw [hA, hB]
  clear hA hB
  generalize hca : (a.map encB).toArray = ca at *
  generalize hcb : (b.map encB).toArray = cb at *
  have HCA := Lib.hid hca
  have HCB := Lib.hid hcb
  clear hca hcb
  go_enter Tryd.func77, Tryd.ntmps77
  go_upto_region 1 with (fail)
  generalize hw1 : (World.alloc (World.alloc (World.alloc w _) _) _) = w1
  have hb1 : Below w.heap.size w w1 := by subst hw1; exact (((Below.refl _ _).alloc (Nat.le_refl _) _).alloc (by simp) _).alloc (by first | (simp; done) | (simp; omega)) _
  have h0 : ABox w1 w.heap.size 29 (a.map encB) := by unfold ABox; rw [HCA.out]; subst hw1; exact (Below.heap_alloc _ _ _ (by first | (simp; done) | (simp; omega))).trans ((Below.heap_alloc _ _ _ (by simp)).trans (heap_at rfl))
  have h1 : ABox w1 (w.heap.size + 1) 29 (b.map encB) := by unfold ABox; rw [HCB.out]; subst hw1; exact (Below.heap_alloc _ _ _ (by first | (simp; done) | (simp; omega))).trans (heap_at (by simp))
  have h2 : ABox w1 (w.heap.size + 2) 29 (zer32.map encB) := by subst hw1; exact heap_at (by simp)
  have H0 := Lib.hid h0
  have H1 := Lib.hid h1
  have HR := Lib.hid h2
  have HB := Lib.hid hb1
  have eO : w.heap.size + 1 + 1 = w.heap.size + 2 := by omega
  rw [eO]
  clear hw1 hb1 h0 h1 h2 eO
  generalize hR : w.heap.size + 2 = R at *
  generalize hP1 : w.heap.size + 1 = P1 at *
  generalize hP0 : w.heap.size = P0 at *
  have HRP : Hid (P0 ≤ R) := Lib.hid (by omega)
  clear hR hP1
  have hba : Below w1.heap.size w1 (w1.alloc (.cells #[.int .u8 1] 5)) := (Below.refl _ _).alloc (Nat.le_refl _) _
  have HL : Hid (Own (w1.alloc (.cells #[.int .u8 1] 5)) w1.heap.size 5 (.slice (some ⟨w1.heap.size, 0, none⟩) 1 1) [(1 : UInt8)]) := Lib.hid (Own.lit w1 w1.heap.size _ #[.int .u8 1] [(1 : UInt8)] (Nat.le_refl _) (by simp [maxLen]) rfl (by simp; rfl) (fun i hi => by
    obtain rfl : i = 0 := by simp at hi; omega
    rfl))
  have hk0 : ∀ {P : Nat} {l : List UInt8}, ABox w1 P 29 (l.map encB) → l.length = 32 → Sl (w1.alloc (.cells #[.int .u8 1] 5)) (fun g => g < w1.heap.size) (some ⟨P, 0, none⟩) 32 l := fun h e => by
    have := (sl_row h (by rw [e]; decide)).keep (Kept.below hba (fun _ h => h)) hba.size
    rw [e] at this; exact this
  have HSA := Lib.hid (hk0 H0.out HLa.out)
  have HSB := Lib.hid (hk0 H1.out HLb.out)
  have HRA := Lib.hid (HR.out.to hba)
  have HBA := Lib.hid (HB.out.trans (hba.mono (hP0 ▸ HB.out.size)))
  have HRL : Hid (R < w1.heap.size) := Lib.hid HR.out.lt
  have HPL : Hid (P0 ≤ w1.heap.size) := Lib.hid (hP0 ▸ HB.out.size)
  clear hba HB HR H0 H1 hk0
  have hla := HLa.out
  have hlb := HLb.out
  generalize hL : w1.heap.size = L at *
  go_upto_region 3 with (first
    | (at_builtin; refine wpList_cat (α := UInt8) _ rfl (.tmp 7) (.tmp 8) 59 rfl L 5 (.int .u8 0) 1 Tryd.underlying59 b_info rfl (by decide) (.slice (some ⟨L, 0, none⟩) 1 1) [1] rfl HL.out (some ⟨P0, 0, none⟩) 32 32 a rfl hla (fun g => g < L) HSA.out (fun i hi _ e => by have := (HL.out.lt i e.symm).1; omega) (by simp) (by simp) (by rw [← hL]; simp) ?_; intro v3 w3 hown3 hg3 hat3; obtain ⟨A3, c3, rfl, -⟩ := hown3.form)
    | fail)
  have hbq : Below L (w1.alloc (.cells #[.int .u8 1] 5)) w3 := below_cat (Below.refl L _) HL.out (by rw [← hL]; simp) hg3
  have HSB3 := Lib.hid (HSB.out.keep (Kept.below hbq (fun _ h => h)) hbq.size)
  have HR3 := Lib.hid (box_cat HRA.out HL.out hg3 HRL.out)
  have HB3 := Lib.hid (below_cat HBA.out (HL.out.re HPL.out) (hP0 ▸ HBA.out.size) hg3)
  have hlb3 : L ≤ w3.heap.size := Nat.le_trans (by rw [← hL]; simp) hbq.size
  have HO3 := Lib.hid hown3
  clear hbq hown3 hg3 hat3 HSA HSB HRA HBA HL
  have hl3 : ([(1 : UInt8)] ++ a).length = 33 := by rw [List.length_append, hla]; rfl
  have HO4 : Hid (Own w3 L 5 (.slice A3 33 c3) ([(1 : UInt8)] ++ a)) := Lib.hid (by have := HO3.out; rw [hl3] at this; exact this)
  clear HO3
  go_wp2_with (first
    | (at_builtin; refine wpList_cat (α := UInt8) _ rfl (.tmp 10) (.tmp 11) 59 rfl L 5 (.int .u8 0) 1 Tryd.underlying59 b_info rfl (by decide) (.slice A3 33 c3) ([1] ++ a) rfl HO4.out (some ⟨P1, 0, none⟩) 32 32 b rfl hlb (fun g => g < L) HSB3.out (fun i hi _ e => by have := (HO4.out.lt i e.symm).1; omega) (by rw [hl3]; simp) (by rw [hl3]; simp) hlb3 ?_; intro v5 w5 hown5 hg5 hat5; obtain ⟨A5, c5, rfl, hs5⟩ := hown5.sl)
    | fail)
  have HR5 := Lib.hid (box_cat HR3.out HO4.out hg5 HRL.out)
  have HB5 := Lib.hid (below_cat HB3.out (HO4.out.re HPL.out) (hP0 ▸ HB3.out.size) hg5)
  have HSM := Lib.hid (rsum_any ([1] ++ a ++ b) A5 c5 w5 hs5 (by rw [List.length_append, hl3, hlb]; decide))
  have hl5 : ([(1 : UInt8)] ++ a ++ b).length = 65 := by rw [List.length_append, hl3, hlb]
  rw [hl5] at HSM
  clear hown5 hg5 hat5 hs5 HO4 HSB3 HR3 HB3
  refine HSM.out.mono ?_
  rintro e w4 ⟨rfl, hb4⟩
  have hq := HR5.out.to hb4
  unfold ABox at hq
  have HSZ := Lib.hid (hash_size (sha_length ([1] ++ a ++ b)))
  have HC1 := Lib.hid (hash_all (sha ([1] ++ a ++ b)))
  have HX := Lib.hid (setRow_heap _ R _ ((sha ([1] ++ a ++ b)).map encB).toArray _ _ hq)
  have HBE := Lib.hid (below_setRow (HB5.out.trans (hb4.mono (hP0 ▸ HB5.out.size))) (R := R) HRP.out ((sha ([1] ++ a ++ b)).map encB).toArray)
  have HRZ : Hid ((zer32.map encB).toArray.size = 32) := Lib.hid rfl
  have HRV : Hid (hashV (nodeH a b) = .agg ((sha ([1] ++ a ++ b)).map encB).toArray) := Lib.hid (by rw [show nodeH a b = sha ([1] ++ a ++ b) from (by unfold nodeH; rw [List.append_assoc]; rfl)]; rfl)
  unfold hashV
  generalize ((sha ([1] ++ a ++ b)).map encB).toArray = cs at *
  generalize (zer32.map encB).toArray = zs at *
  clear hb4 HR5 HB5 HSM
  go_wp2_with (first
    | (refine wpList_store_row rfl 29 (.tmp 4) (.tmp 13) rfl R cs ?_ ?_ 29 zs hq (by rw [HSZ.out]; kernel_rfl) (by rw [HRZ.out, HSZ.out]) HC1.out ?_; rfl; rfl)
    | fail)
  exact bodyPost_ret (v := .agg cs) (results_cell_row Tryd.results77 _ _ R _ cs (0, 0) _ rfl HX.out Tryd.underlying29 rfl (by rw [HSZ.out]; kernel_rfl)) rfl ⟨by rw [HRV.out], hP0 ▸ HBE.out⟩
theorem pow_between {i j n : Nat} (h1 : 2 ^ i < n) (h2 : n ≤ 2 * 2 ^ j) : i ≤ j := by
  rcases Nat.lt_or_ge j i with h | h
  · have := Nat.pow_le_pow_right (n := 2) (by omega) (show j + 1 ≤ i by omega)
    rw [Nat.pow_succ] at this; omega
  · exact h
theorem splitN_eq (n j : Nat) (h2 : 2 ≤ n) (h : n ≤ 4611686018427387904) (h3 : 2 ^ j < n) (h4 : n ≤ 2 * 2 ^ j) : splitN n = 2 ^ j := by
  obtain ⟨h5, h6, h7, h8, h9⟩ := splitN_bounds n h2 h
  unfold splitN at h7 h8 h9 ⊢
  have := pow_between h8 h4
  have := pow_between h3 h9
  have e : Lib.bitLen (n - 1) - 1 = j := by omega
  rw [e]
set_option maxRecDepth 100000 in
set_option maxHeartbeats 4000000 in
theorem rsplit_any (n : Nat) (h2 : 2 ≤ n) (h : n ≤ 1073741824) (w : World) : Calls Tryd.prog 76 #[.int .i64 (n : Int)] w fun e w' => e = .returned (.int .i64 (splitN n : Int)) ∧ w = w' := by
  go_enter Tryd.func76, Tryd.ntmps76
  go_wp2_with fail
  go_loopw [3] (fun x wr => ∃ p : Nat, x = .int .i64 (p : Int) ∧ 1 ≤ p ∧ p < n ∧ Hid (∃ j : Nat, p = 2 ^ j) ∧ Hid (w = wr)) (fun x _ => n - (intOf x).toNat)
  case atStart => exact ⟨1, rfl, Nat.le_refl _, h2, Lib.hid ⟨0, rfl⟩, Lib.hid rfl⟩
  case round =>
    obtain ⟨p, rfl, hp1, hp2, hj, hb⟩ := hrel
    by_cases hlt : 2 * p < n
    · have hlt2 : 2 * (p : Int) < (n : Int) := by omega
      have hp0 : (0 : Int) ≤ (p : Int) := by omega
      go_wp2_with fail
      go_roundw
      case rel => exact ⟨2 * p, by go_num, by omega, by omega, Lib.hid (by obtain ⟨j, rfl⟩ := hj.out; exact ⟨j + 1, by rw [Nat.pow_succ, Nat.mul_comm]⟩), hb⟩
      case measure => simp [intOf]; omega
    · have hlt2 : ¬ 2 * (p : Int) < (n : Int) := by omega
      have hp0 : (0 : Int) ≤ (p : Int) := by omega
      have hpn : (p : Int) < (n : Int) := by omega
      have HE : Hid (splitN n = p) := Lib.hid (by obtain ⟨j, rfl⟩ := hj.out; exact splitN_eq n j h2 (by omega) hp2 (by omega))
      go_wp2_with fail
      go_ret
      refine ⟨ret_int ?_, ?_⟩
      · have := HE.out; omega
      · exact hb.out
set_option maxRecDepth 100000 in
set_option maxHeartbeats 4000000 in
theorem rroot0_any (A : Option Addr) (c : Nat) (w : World) :
    Calls Tryd.prog 52 #[.slice A 0 c] w fun e w' => e = .returned (hashV (sha [])) ∧ Below w.heap.size w w' := by
  have HS : Hid (Calls Tryd.prog 70 #[.slice none 0 0] (w.alloc (.cells (zer32.map encB).toArray 29)) fun e w' => e = .returned (hashV (sha [])) ∧ Below (w.alloc (.cells (zer32.map encB).toArray 29)).heap.size (w.alloc (.cells (zer32.map encB).toArray 29)) w') := Lib.hid (rsum_any [] none 0 (w.alloc (.cells (zer32.map encB).toArray 29)) (Sl.nil _ _ _ _ (by decide)) (by simp))
  have HR0 : Hid (ABox (w.alloc (.cells (zer32.map encB).toArray 29)) w.heap.size 29 (zer32.map encB)) := Lib.hid (heap_alloc_new w _)
  have HB0 : Hid (Below w.heap.size w (w.alloc (.cells (zer32.map encB).toArray 29))) := Lib.hid ((Below.refl _ _).alloc (Nat.le_refl _) _)
  go_enter Tryd.func52, Tryd.ntmps52
  go_upto_region 1 with (fail)
  generalize hw1 : World.alloc w _ = w1
  have hw2 : w.alloc (.cells (zer32.map encB).toArray 29) = w1 := hw1
  rw [hw2] at HS HR0 HB0
  clear hw1 hw2
  go_wp2_with fail

  refine HS.out.mono ?_
  rintro e w4 ⟨rfl, hb4⟩
  have HB4 := Lib.hid (below_setRow (HB0.out.trans (hb4.mono HB0.out.size)) (R := w.heap.size) (Nat.le_refl _) ((sha []).map encB).toArray)
  have hr4 : w4.heap[w.heap.size]? = some (.cells (zer32.map encB).toArray 29 (0, 0)) := HR0.out.to hb4
  have HX := Lib.hid (setRow_heap w4 w.heap.size _ ((sha []).map encB).toArray _ _ hr4)
  have HSZ := Lib.hid (hash_size (sha_length []))
  have HC1 := Lib.hid (hash_all (sha []))
  have HRZ : Hid ((zer32.map encB).toArray.size = 32) := Lib.hid rfl
  clear hb4 HR0 HB0 HS
  have HRE : Hid (hashV (sha []) = .agg ((sha []).map encB).toArray) := Lib.hid rfl
  unfold hashV
  generalize ((sha []).map encB).toArray = cs at *
  generalize (zer32.map encB).toArray = zs at *
  go_wp2_with (first
    | (refine wpList_store_row rfl 29 (.tmp 2) (.tmp 7) rfl w.heap.size cs rfl rfl 29 zs hr4 (by rw [HSZ.out]; kernel_rfl) (by rw [HRZ.out, HSZ.out]) HC1.out ?_)
    | fail)
  exact bodyPost_ret (v := .agg cs) (results_cell_row Tryd.results52 _ _ w.heap.size _ cs (0, 0) _ rfl HX.out Tryd.underlying29 rfl (by rw [HSZ.out]; kernel_rfl)) rfl ⟨by rw [HRE.out], HB4.out⟩
set_option maxRecDepth 100000 in
set_option maxHeartbeats 4000000 in
theorem rroot1_any (x : H32) (A : Option Addr) (c : Nat) (w : World) (hl : Sl w (fun b => b < w.heap.size) A c [x]) :
    Calls Tryd.prog 52 #[.slice A 1 c] w fun e w' => e = .returned (hashV x.l) ∧ Below w.heap.size w w' := by
  have hl1 := hl.to ((Below.refl w.heap.size w).alloc (Nat.le_refl _) (.cells (zer32.map encB).toArray 29))
  obtain ⟨b, o, rfl, _, hlt, hr, hxl⟩ := h32_at hl1 (k := 0) (by simp)
  simp only [Nat.zero_mul, Nat.add_zero, List.getElem_cons_zero] at hr hxl
  have hc1 := hl.2.1
  have hc2 := hl.1
  simp only [List.length_cons, List.length_nil, Nat.zero_add] at hc2
  unfold maxLen at hc1
  have HR0 : Hid (ABox (w.alloc (.cells (zer32.map encB).toArray 29)) w.heap.size 29 (zer32.map encB)) := Lib.hid (heap_alloc_new w _)
  have HB0 : Hid (Below w.heap.size w (w.alloc (.cells (zer32.map encB).toArray 29))) := Lib.hid ((Below.refl _ _).alloc (Nat.le_refl _) _)
  have HE := Lib.hid hr
  have HSZ := Lib.hid (hash_size hxl)
  have HSE : Hid ((x.l.map encB).length = 32) := Lib.hid (by rw [List.length_map, hxl])
  have HC1 := Lib.hid (hash_all x.l)
  have HRZ : Hid ((zer32.map encB).toArray.size = 32) := Lib.hid rfl
  have HRE : Hid (hashV x.l = .agg (x.l.map encB).toArray) := Lib.hid rfl
  clear hl hl1 hr hlt
  go_enter Tryd.func52, Tryd.ntmps52
  go_upto_region 1 with (fail)
  generalize hw1 : World.alloc w _ = w1
  have hw2 : w.alloc (.cells (zer32.map encB).toArray 29) = w1 := hw1
  rw [hw2] at HR0 HB0 HE
  clear hw1 hw2
  have HB4 := Lib.hid (below_setRow HB0.out (R := w.heap.size) (Nat.le_refl _) (x.l.map encB).toArray)
  have HX := Lib.hid (setRow_heap w1 w.heap.size _ (x.l.map encB).toArray _ _ HR0.out)
  have hr4 : w1.heap[w.heap.size]? = some (.cells (zer32.map encB).toArray 29 (0, 0)) := HR0.out
  clear HR0
  generalize hcs : (x.l.map encB) = cl at *
  generalize hcs2 : cl.toArray = cs at *
  generalize (zer32.map encB).toArray = zs at *
  go_wp2_with (first
    | (refine wpList_load_mid rfl 29 (.tmp 12) rfl b o ?_ cl _ ?_ Tryd.underlying29 ?_ ?_ ?_; rfl; exact HE.out; rfl; (rw [HSE.out]; kernel_rfl))
    | (refine wpList_store_row rfl 29 (.tmp 2) (.tmp 13) rfl w.heap.size cs ?_ ?_ 29 zs hr4 (by rw [HSZ.out]; kernel_rfl) (by rw [HRZ.out, HSZ.out]) HC1.out ?_; rfl; (show Value.agg cl.toArray = Value.agg cs; rw [hcs2]))
    | fail)
  exact bodyPost_ret (v := .agg cs) (results_cell_row Tryd.results52 _ _ w.heap.size _ cs (0, 0) _ rfl HX.out Tryd.underlying29 rfl (by rw [HSZ.out]; kernel_rfl)) rfl ⟨by rw [HRE.out], HB4.out⟩
set_option maxRecDepth 100000 in
set_option maxHeartbeats 4000000 in
theorem rroot2_any (f : Nat) (ih : ∀ (l : List H32) (A : Option Addr) (n c : Nat) (w : World), l.length ≤ f → Sl w (fun b => b < w.heap.size) A c l → l.length = n → n ≤ 1073741824 →
      Calls Tryd.prog 52 #[.slice A n c] w fun e w' => e = .returned (hashV (rootF f l)) ∧ Below w.heap.size w w')
    (l : List H32) (A : Option Addr) (n c : Nat) (w : World) (hf : l.length ≤ f + 1) (hl : Sl w (fun b => b < w.heap.size) A c l) (hn : l.length = n) (h2 : 2 ≤ n) (hs : n ≤ 1073741824) :
    Calls Tryd.prog 52 #[.slice A n c] w fun e w' => e = .returned (hashV (rootF (f + 1) l)) ∧ Below w.heap.size w w' := by
  obtain ⟨_, _, h3, h4, _⟩ := splitN_bounds n h2 (by omega)
  have HSP := Lib.hid (rsplit_any n h2 hs)
  have HLen := Lib.hid (h32_len hl)
  have HRQ : Hid (rootF (f + 1) l = nodeH (rootF f (l.take (splitN n))) (rootF f (l.drop (splitN n)))) := Lib.hid (by rw [rootF, if_neg (by omega), if_neg (by omega), hn])
  obtain ⟨b, o, rfl, _⟩ := hl.2.2 (by omega)
  have hnc : n ≤ c := by have := hl.1; omega
  have hcm : c ≤ 9223372036854775807 := by have := hl.2.1; unfold maxLen at this; omega
  have HR0 : Hid (ABox (w.alloc (.cells (zer32.map encB).toArray 29)) w.heap.size 29 (zer32.map encB)) := Lib.hid (heap_alloc_new w _)
  have HB0 : Hid (Below w.heap.size w (w.alloc (.cells (zer32.map encB).toArray 29))) := Lib.hid ((Below.refl _ _).alloc (Nat.le_refl _) _)
  have HL0 := Lib.hid (hl.to ((Below.refl w.heap.size w).alloc (Nat.le_refl _) (.cells (zer32.map encB).toArray 29)))
  have HI := Lib.hid ih
  have HF := Lib.hid hf
  have HN := Lib.hid hn
  clear ih hl hf hn
  generalize splitN n = k at *
  go_enter Tryd.func52, Tryd.ntmps52
  go_upto_region 1 with (fail)
  generalize hw1 : World.alloc w _ = w1
  have hw2 : w.alloc (.cells (zer32.map encB).toArray 29) = w1 := hw1
  rw [hw2] at HR0 HB0 HL0
  clear hw1 hw2
  go_upto_region 6 with (first
    | (go_at_call 76; refine (HSP.out _).mono ?_; rintro e w' ⟨rfl, rfl⟩)
    | fail)
  refine wp_region_tail rfl (by kernel_rfl) (by kernel_rfl) ?_
  intro T hT g hgb hgm
  obtain ⟨r1, hr1⟩ : ∃ r, r = rootF f (l.take k) := ⟨_, rfl⟩
  obtain ⟨r2, hr2⟩ : ∃ r, r = rootF f (l.drop k) := ⟨_, rfl⟩
  obtain ⟨r3, hr3⟩ : ∃ r, r = rootF (f + 1) l := ⟨_, rfl⟩
  have HR1 := Lib.hid hr1
  have HR2 := Lib.hid hr2
  have HR3 := Lib.hid hr3
  clear hr1 hr2 hr3
  have HT1 : Hid (∀ d, Calls Tryd.prog 52 #[.slice (some ⟨b, o, none⟩) k c] (g d) fun e w' => e = .returned (hashV r1) ∧ ∃ m, w' = g m) := Lib.hid (fun d => by
    refine (HI.out (l.take k) (some ⟨b, o, none⟩) k c (g d) (by have := HF.out; have := HN.out; rw [List.length_take]; omega) ((HL0.out.to (hgb d)).take k (by have := HN.out; omega)) (by have := HN.out; rw [List.length_take]; omega) (by omega)).mono ?_
    rintro e w' ⟨rfl, hb⟩
    exact ⟨by rw [HR1.out], hgm d w' hb⟩)
  have HT2 : Hid (∀ d, Calls Tryd.prog 52 #[.slice (some ⟨b, o + k * 32, none⟩) (n - k) (c - k)] (g d) fun e w' => e = .returned (hashV r2) ∧ ∃ m, w' = g m) := Lib.hid (fun d => by
    have hd := sl_drop32 (HL0.out.to (hgb d)) k (by have := HN.out; omega)
    refine (HI.out (l.drop k) (some ⟨b, o + k * 32, none⟩) (n - k) (c - k) (g d) (by have := HF.out; have := HN.out; rw [List.length_drop]; omega) hd (by have := HN.out; rw [List.length_drop]; omega) (by omega)).mono ?_
    rintro e w' ⟨rfl, hb⟩
    exact ⟨by rw [HR2.out], hgm d w' hb⟩)
  have HT3 : Hid (∀ d, Calls Tryd.prog 77 #[hashV r1, hashV r2] (g d) fun e w' => e = .returned (hashV r3) ∧ ∃ m, w' = g m) := Lib.hid (fun d => by
    rw [HR3.out, HRQ.out, HR1.out, HR2.out]
    refine (rnode_any _ _ (rootF_length _ _ fun x hx => HLen.out x (List.mem_of_mem_take hx)) (rootF_length _ _ fun x hx => HLen.out x (List.mem_of_mem_drop hx)) (g d)).mono ?_
    rintro e w' ⟨rfl, hb⟩
    exact ⟨rfl, hgm d w' hb⟩)
  have HRL := Lib.hid (rootF_length (f + 1) l HLen.out)
  have HGB := Lib.hid hgb
  clear hgb hgm HI HL0 HRQ
  have HRL2 : Hid (r3.length = 32) := Lib.hid (by rw [HR3.out]; exact HRL.out)
  clear HRL HR1 HR2
  dsimp only [List.dropLast]
  repeat (go_big_quiet_step (first
    | (go_at_call 52; with_reducible refine Calls.mono (HT1.out _) ?_; rintro e w6 ⟨rfl, hm⟩; exact ⟨rfl, hm⟩)
    | (go_at_call 52; with_reducible refine Calls.mono (HT2.out _) ?_; rintro e w6 ⟨rfl, hm⟩; exact ⟨rfl, hm⟩)
    | (go_at_call 77; with_reducible refine Calls.mono (HT3.out _) ?_; rintro e w6 ⟨rfl, hm⟩; exact ⟨rfl, hm⟩)))
  refine wpQuiet_nil ?_
  rintro _ ⟨d, rfl⟩
  refine ⟨rfl, ?_⟩
  have hr4 : (g d).heap[w.heap.size]? = some (.cells (zer32.map encB).toArray 29 (0, 0)) := HR0.out.to (HGB.out d)
  have HB4 := Lib.hid (below_setRow (HB0.out.trans ((HGB.out d).mono HB0.out.size)) (R := w.heap.size) (Nat.le_refl _) (r3.map encB).toArray)
  have HX := Lib.hid (setRow_heap (g d) w.heap.size _ (r3.map encB).toArray _ _ hr4)
  have HSZ := Lib.hid (hash_size HRL2.out)
  have HC1 := Lib.hid (hash_all r3)
  have HRZ : Hid ((zer32.map encB).toArray.size = 32) := Lib.hid rfl
  have HRE : Hid (hashV r3 = .agg (r3.map encB).toArray) := Lib.hid rfl
  have hrv : hashV r3 = .agg (r3.map encB).toArray := rfl
  rw [hrv]
  clear HT1 HT2 HT3 HGB hrv
  generalize (r3.map encB).toArray = cs at *
  generalize (zer32.map encB).toArray = zs at *
  refine wp_store_row 29 (.tmp 2) (.tmp 25) rfl w.heap.size cs ?_ ?_ 29 zs hr4 (by rw [HSZ.out]; kernel_rfl) (by rw [HRZ.out, HSZ.out]) HC1.out ?_
  · rfl
  · rfl
  unfold Exit.then
  go_wp2_with fail
  exact bodyPost_ret (v := .agg cs) (results_cell_row Tryd.results52 _ _ w.heap.size _ cs (0, 0) _ rfl HX.out Tryd.underlying29 rfl (by rw [HSZ.out]; kernel_rfl)) rfl ⟨by rw [← HR3.out, HRE.out], HB4.out⟩
theorem rrootF_any (f : Nat) : ∀ (l : List H32) (A : Option Addr) (n c : Nat) (w : World), l.length ≤ f → Sl w (fun b => b < w.heap.size) A c l → l.length = n → n ≤ 1073741824 →
    Calls Tryd.prog 52 #[.slice A n c] w fun e w' => e = .returned (hashV (rootF f l)) ∧ Below w.heap.size w w' := by
  induction f with
  | zero =>
    intro l A n c w hf hl hn hs
    obtain rfl : n = 0 := by omega
    exact rroot0_any A c w
  | succ f ih =>
    intro l A n c w hf hl hn hs
    by_cases h0 : n = 0
    · subst h0
      have e : rootF (f + 1) l = sha [] := by rw [rootF, if_pos hn]
      rw [e]
      exact rroot0_any A c w
    · by_cases h1 : n = 1
      · subst h1
        obtain ⟨x, rfl⟩ : ∃ x, l = [x] := List.length_eq_one_iff.1 hn
        have e : rootF (f + 1) [x] = x.l := by rw [rootF, if_neg (by simp), if_pos (by simp)]; rfl
        rw [e]
        exact rroot1_any x A c w hl
      · exact rroot2_any f ih l A n c w hf hl hn (by omega) hs
theorem rroot_any (l : List H32) (A : Option Addr) (n c : Nat) (w : World) (hl : Sl w (fun b => b < w.heap.size) A c l) (hn : l.length = n) (hs : n ≤ 1073741824) :
    Calls Tryd.prog 52 #[.slice A n c] w fun e w' => e = .returned (hashV (root l)) ∧ Below w.heap.size w w' := rrootF_any l.length l A n c w (Nat.le_refl _) hl hn hs
set_option maxRecDepth 100000 in
set_option maxHeartbeats 4000000 in
theorem rtop_any (A B : Option Addr) (ca n : Nat) (L : List H32) (w : World) (cb nb : Nat) (hl : Sl w (fun b => b < w.heap.size) A ca L) (hn : L.length = n) (hs : n ≤ 1073741824) :
    Calls Tryd.prog 18 #[.agg #[.slice A n ca, .slice B nb cb]] w fun e w' => e = .returned (headV n (root L)) ∧ Below w.heap.size w w' := by
  have HRL : Hid ((root L).length = 32) := Lib.hid (root_length _ (h32_len hl))
  have hba : Below w.heap.size w ((w.alloc (.cells #[.slice A n ca, .slice B nb cb] 36)).alloc (.cells zhead.toArray 40)) := ((Below.refl _ _).alloc (Nat.le_refl _) _).alloc (by simp) _
  have HX1 : Hid (ABox ((w.alloc (.cells #[.slice A n ca, .slice B nb cb] 36)).alloc (.cells zhead.toArray 40)) w.heap.size 36 [.slice A n ca, .slice B nb cb]) := Lib.hid (by
    unfold ABox; rw [Below.heap_alloc _ _ _ (by simp)]; exact heap_alloc_new w _)
  have HR2 : Hid (ABox ((w.alloc (.cells #[.slice A n ca, .slice B nb cb] 36)).alloc (.cells zhead.toArray 40)) (w.heap.size + 1) 40 zhead) := Lib.hid (heap_at (by simp))
  have HB := Lib.hid hba
  have HRT := Lib.hid (fun W (h : Below _ _ W) => rroot_any L A n ca W ((hl.to hba).to h) hn hs)
  clear hba hl hn
  have HBU := Lib.hid (head_built n (root L) HRL.out)
  have HSZ : Hid ((headL n (root L)).toArray.size = 33) := Lib.hid (by unfold headL; simp [HRL.out])
  have HONE := Lib.hid (headL_one n (root L))
  have HRE : Hid (headV n (root L) = .agg (headL n (root L)).toArray) := Lib.hid rfl
  generalize root L = r at *
  go_enter Tryd.func18, Tryd.ntmps18
  go_upto_region 1 with (fail)
  generalize hw1 : World.alloc (World.alloc w _) _ = w1
  have hw2 : ((w.alloc (.cells #[.slice A n ca, .slice B nb cb] 36)).alloc (.cells zhead.toArray 40)) = w1 := hw1
  rw [hw2] at HX1 HR2 HB HRT
  clear hw1 hw2
  refine wp_region_D (fun w' => w'.cell? ⟨w.heap.size, 0, none⟩ = some (.slice A n ca)) (fun i => decide (i < 6)) (by kernel_rfl) ?_
  have hb0 : Hid (Below w1.heap.size w1 w1.drew) := Lib.hid (Below.refl _ _).drew
  generalize w1.drew = W0 at *
  refine wpAnyE_take (i := 0) (oi := ⟨some 3, Op.fieldAddr 36 (Operand.tmp 1) 0, 0, _, _, _⟩) (v := ?_) rfl (by kernel_rfl) (by kernel_rfl) (by kernel_rfl) (by kernel_rfl) (by kernel_rfl) (fun _ _ _ h => h) (by rfl) ?hykr1_1 (((HX1.out.to hb0.out).cell 0 rfl)) ?hrkr1_1
  case hykr1_1 => (intro wS hSw; (try dsimp only at hSw); go_simp; (try with_reducible rfl))
  all_goals try simp only [Act.put, List.setIfInBounds_toArray, List.set_cons_zero, List.set_cons_succ]
  refine wpAnyE_take (i := 1) (oi := ⟨some 4, Op.load 34 (Operand.tmp 3), 34, _, _, _⟩) (v := ?_) rfl (by kernel_rfl) (by kernel_rfl) (by kernel_rfl) (by kernel_rfl) (by kernel_rfl) (fun _ _ _ h => h) (by rfl) ?hykr1_2 (((HX1.out.to hb0.out).cell 0 rfl)) ?hrkr1_2
  case hykr1_2 => (intro wS hSw; (try dsimp only at hSw); go_simp; (try with_reducible rfl))
  all_goals try simp only [Act.put, List.setIfInBounds_toArray, List.set_cons_zero, List.set_cons_succ]
  refine wpAnyE_take (i := 2) (oi := ⟨some 5, Op.call { callee := Callee.builtin Builtin.len, args := #[Operand.tmp 4], argTypes := #[34] }, 3, _, _, _⟩) (v := ?_) rfl (by kernel_rfl) (by kernel_rfl) (by kernel_rfl) (by kernel_rfl) (by kernel_rfl) (fun _ _ _ h => h) (by rfl) ?hykr1_3 (((HX1.out.to hb0.out).cell 0 rfl)) ?hrkr1_3
  case hykr1_3 => (intro wS hSw; (try dsimp only at hSw); go_simp; (try with_reducible rfl))
  all_goals try simp only [Act.put, List.setIfInBounds_toArray, List.set_cons_zero, List.set_cons_succ]
  refine wpAnyE_take (i := 3) (oi := ⟨some 6, Op.fieldAddr 36 (Operand.tmp 1) 0, 0, _, _, _⟩) (v := ?_) rfl (by kernel_rfl) (by kernel_rfl) (by kernel_rfl) (by kernel_rfl) (by kernel_rfl) (fun _ _ _ h => h) (by rfl) ?hykr1_4 (((HX1.out.to hb0.out).cell 0 rfl)) ?hrkr1_4
  case hykr1_4 => (intro wS hSw; (try dsimp only at hSw); go_simp; (try with_reducible rfl))
  all_goals try simp only [Act.put, List.setIfInBounds_toArray, List.set_cons_zero, List.set_cons_succ]
  refine wpAnyE_take (i := 4) (oi := ⟨some 7, Op.load 34 (Operand.tmp 6), 34, _, _, _⟩) (v := ?_) rfl (by kernel_rfl) (by kernel_rfl) (by kernel_rfl) (by kernel_rfl) (by kernel_rfl) (fun _ _ _ h => h) (by rfl) ?hykr1_5 (((HX1.out.to hb0.out).cell 0 rfl)) ?hrkr1_5
  case hykr1_5 => (intro wS hSw; (try dsimp only at hSw); go_simp; (try with_reducible rfl))
  all_goals try simp only [Act.put, List.setIfInBounds_toArray, List.set_cons_zero, List.set_cons_succ]
  refine wpAnyD_one (i := 5) (oi := ⟨some 8, Op.call { callee := Callee.value (Operand.func 52), args := #[Operand.tmp 7], argTypes := #[34] }, 29, _, _, _⟩) rfl (by kernel_rfl) (by rfl) (fun K hK => ?_)
  go_simp
  go_at_call 52
  refine (HRT.out W0 hb0.out).mono ?_
  rintro e W2 ⟨rfl, hb2⟩
  have hbb := Lib.hid (hb0.out.trans (hb2.mono hb0.out.size))
  go_simp
  refine hK _ _ (fun _ => ?_) ?_
  · exact ((HX1.out.to hbb.out).cell 0 rfl)
  clear hK K
  try simp only [Act.put, List.setIfInBounds_toArray, List.set_cons_zero, List.set_cons_succ]
  refine wpAnyD_one (i := 6) (oi := ⟨some 9, Op.build 40 #[(0, Operand.tmp 5), (1, Operand.tmp 8)], 40, _, _, _⟩) rfl (by kernel_rfl) (by rfl) (fun K hK => ?_)
  refine wp_built 40 [(0, .tmp 5), (1, .tmp 8)] rfl [(0, .int .i64 (n : Int)), (1, hashV r)] rfl _ HBU.out ?_
  refine hK _ _ (fun h => absurd h (by decide)) ?_
  clear hK K
  try simp only [Act.put, List.setIfInBounds_toArray, List.set_cons_zero, List.set_cons_succ]
  refine wpAnyD_one (i := 7) (oi := ⟨none, Op.store 40 (Operand.tmp 2) (Operand.tmp 9), 0, _, _, _⟩) rfl (by kernel_rfl) (by rfl) (fun K hK => ?_)
  have hq := (HR2.out.to hbb.out)
  unfold ABox at hq
  refine wp_store_row 40 (.tmp 2) (.tmp 9) rfl (w.heap.size + 1) (headL n r).toArray ?_ ?_ 40 zhead.toArray hq (by rw [HSZ.out]; kernel_rfl) (by rw [HSZ.out]; rfl) HONE.out ?_
  · rfl
  · rfl
  refine hK _ _ (fun h => absurd h (by decide)) ?_
  clear hK K
  try simp only [Act.put]
  refine wpAnyD_done (by kernel_rfl) ?_ _
  have HX := Lib.hid (setRow_heap _ (w.heap.size + 1) _ (headL n r).toArray _ _ hq)
  unfold Exit.then
  go_wp2_with fail
  exact bodyPost_ret (v := .agg (headL n r).toArray) (results_cell_row Tryd.results18 _ _ (w.heap.size + 1) _ _ (0, 0) _ rfl HX.out Tryd.underlying40 rfl (by rw [HSZ.out]; kernel_rfl)) rfl ⟨by rw [HRE.out], below_setRow (HB.out.trans (hbb.out.mono HB.out.size)) (by omega) _⟩
set_option maxRecDepth 100000 in
set_option maxHeartbeats 4000000 in
theorem rlast_any (A B : Option Addr) (ca n cb : Nat) (N : List ByteArray) (x : ByteArray) (w : World) (hn : Sl w (fun b => b < w.heap.size) B cb N) :
    Calls Tryd.prog 46 #[.agg #[.slice A n ca, .slice B N.length cb], .string x] w fun e w' => e = .returned (.int .i64 (lastIx N x)) ∧ Below w.heap.size w w' := by
  have hlen : N.length ≤ 9223372036854775807 := by have := hn.1; have := hn.2.1; unfold maxLen at this; omega
  have hba : Below w.heap.size w (w.alloc (.cells #[.slice A n ca, .slice B N.length cb] 36)) := (Below.refl _ _).alloc (Nat.le_refl _) _
  have HX1 : Hid (ABox (w.alloc (.cells #[.slice A n ca, .slice B N.length cb] 36)) w.heap.size 36 [.slice A n ca, .slice B N.length cb]) := Lib.hid (heap_alloc_new w _)
  have HB := Lib.hid hba
  have HN := Lib.hid (hn.to hba)
  clear hba hn
  go_enter Tryd.func46, Tryd.ntmps46
  go_upto_region 1 with (fail)
  generalize hw1 : World.alloc w _ = w1
  have hw2 : (w.alloc (.cells #[.slice A n ca, .slice B N.length cb] 36)) = w1 := hw1
  rw [hw2] at HX1 HB HN
  clear hw1 hw2
  go_wp2_with fail
  go_loopw [5, 6] (fun o i wr => ∃ k : Nat, k ≤ N.length ∧ i = .int .i64 (k : Int) ∧ o = .int .i64 (lastTo N x k) ∧ w1 = wr) (fun _ i _ => N.length - (intOf i).toNat)
  case atStart => exact ⟨0, Nat.zero_le _, rfl, rfl, rfl⟩
  case round =>
    obtain ⟨k, hk, rfl, rfl, rfl⟩ := hrel
    have k1 := HX1.out.cell 1 rfl
    have hk0 : (0 : Int) ≤ (k : Int) := by omega
    by_cases hlt : k < N.length
    · have hkl : (k : Int) < (N.length : Int) := by omega
      obtain ⟨b, o, rfl, _, hbl, c0⟩ := str_at HN.out hlt
      have hstep : lastTo N x (k + 1) = if N[k] = x then (k : Int) else lastTo N x k := by rw [lastTo, List.getElem?_eq_getElem hlt]; rfl
      by_cases heq : N[k] = x
      · have hB : (N[k].toList == x.toList) = true := tl_eq heq
        have hS : lastTo N x (k + 1) = (k : Int) := by rw [hstep, if_pos heq]
        have HS := Lib.hid hS
        clear heq hstep hS
        generalize lastTo N x k = lt at *
        go_wp2_with fail
        go_roundw
        case rel => exact ⟨k + 1, by omega, by go_num, by rw [HS.out], trivial⟩
        case measure => simp [intOf]; omega
      · have hB : (N[k].toList == x.toList) = false := tl_ne heq
        have hS : lastTo N x (k + 1) = lastTo N x k := by rw [hstep, if_neg heq]
        have HS := Lib.hid hS
        clear heq hstep hS
        generalize lastTo N x k = lt at *
        go_wp2_with fail
        go_roundw
        case rel => exact ⟨k + 1, by omega, by go_num, by rw [HS.out], trivial⟩
        case measure => simp [intOf]; omega
    · have hkl : ¬ (k : Int) < (N.length : Int) := by omega
      have HE : Hid (lastTo N x k = lastIx N x) := Lib.hid (by unfold lastIx; rw [show k = N.length from by omega])
      generalize lastTo N x k = lt at *
      go_wp2_with fail
      go_ret
      exact ⟨ret_int HE.out, HB.out⟩
end Go.Proofs.YthcklfelofpffaaDoor
