/- The reference's leaf of a sheet. No condition but sizes. -/
import Derived.Test.YthcklfelofpffaaDoorCerW35
namespace Go.Proofs.YthcklfelofpffaaDoor
open Go.RowKit
set_option maxRecDepth 100000 in
set_option maxHeartbeats 4000000 in
theorem rleafB_any (b : List UInt8) (A : Option Addr) (c : Nat) (w : World) (hs : Sl w (fun b => b < w.heap.size) A c b) (hsz : b.length ≤ 1073741700) :
    Calls Tryd.prog 43 #[.slice A b.length c] w fun e w' => e = .returned (hashV (leafH b)) ∧ Below w.heap.size w w' := by
  have hb1 : Below w.heap.size w (w.alloc (.cells (zer32.map encB).toArray 29)) := (Below.refl _ _).alloc (Nat.le_refl _) _
  have HR : Hid (ABox (w.alloc (.cells (zer32.map encB).toArray 29)) w.heap.size 29 (zer32.map encB)) := Lib.hid (heap_alloc_new w _)
  have HB := Lib.hid hb1
  have HSZ1 : Hid ((w.alloc (.cells (zer32.map encB).toArray 29)).heap.size = w.heap.size + 1) := Lib.hid (by simp)
  have HS := Lib.hid hs
  clear hb1 hs
  go_enter Tryd.func43, Tryd.ntmps43
  go_upto_region 1 with (fail)
  generalize hw1 : World.alloc w _ = w1
  have hw2 : w.alloc (.cells (zer32.map encB).toArray 29) = w1 := hw1
  rw [hw2] at HR HB HSZ1
  clear hw1 hw2
  have hba : Below w1.heap.size w1 (w1.alloc (.cells #[.int .u8 0] 5)) := (Below.refl _ _).alloc (Nat.le_refl _) _
  have HL : Hid (Own (w1.alloc (.cells #[.int .u8 0] 5)) w1.heap.size 5 (.slice (some ⟨w1.heap.size, 0, none⟩) 1 1) [(0 : UInt8)]) := Lib.hid (Own.lit w1 w1.heap.size _ #[.int .u8 0] [(0 : UInt8)] (Nat.le_refl _) (by simp [maxLen]) rfl (by simp; rfl) (fun i hi => by
    obtain rfl : i = 0 := by simp at hi; omega
    rfl))
  have HSA := Lib.hid (HS.out.keep (Kept.below (HB.out.trans (hba.mono HB.out.size)) (fun _ h => h)) (HB.out.trans (hba.mono HB.out.size)).size)
  have HRA := Lib.hid (HR.out.to hba)
  have HBA := Lib.hid (HB.out.trans (hba.mono HB.out.size))
  have HRL : Hid (w.heap.size < w1.heap.size) := Lib.hid HR.out.lt
  clear hba HS HR HB
  go_wp2_with (first
    | (at_builtin; refine wpList_cat (α := UInt8) _ rfl (.tmp 3) (.tmp 4) 59 rfl w1.heap.size 5 (.int .u8 0) 1 Tryd.underlying59 b_info rfl (by decide) (.slice (some ⟨w1.heap.size, 0, none⟩) 1 1) [0] rfl HL.out A c b.length b rfl rfl (fun g => g < w.heap.size) HSA.out (fun i hi _ e => by have := (HL.out.lt i e.symm).1; have := HRL.out; omega) (by simp; omega) (by simp; omega) (by simp) ?_; intro v3 w3 hown3 hg3 hat3; obtain ⟨A3, c3, rfl, hs3⟩ := hown3.sl)
    | fail)
  have HR3 := Lib.hid (box_cat HRA.out HL.out hg3 HRL.out)
  have HB3 := Lib.hid (below_cat HBA.out (HL.out.re (Nat.le_of_lt HRL.out)) HBA.out.size hg3)
  have HSM := Lib.hid (rsum_any ([0] ++ b) A3 c3 w3 hs3 (by simp; omega))
  clear hown3 hg3 hat3 hs3 HL HSA HRA HBA
  refine HSM.out.mono ?_
  rintro e w4 ⟨rfl, hb4⟩
  have hq := HR3.out.to hb4
  unfold ABox at hq
  have HSZ := Lib.hid (hash_size (sha_length ([0] ++ b)))
  have HC1 := Lib.hid (hash_all (sha ([0] ++ b)))
  have HX := Lib.hid (setRow_heap _ w.heap.size _ ((sha ([0] ++ b)).map encB).toArray _ _ hq)
  have HBE := Lib.hid (below_setRow (HB3.out.trans (hb4.mono HB3.out.size)) (R := w.heap.size) (Nat.le_refl _) ((sha ([0] ++ b)).map encB).toArray)
  have HRZ : Hid ((zer32.map encB).toArray.size = 32) := Lib.hid rfl
  have HRV : Hid (hashV (leafH b) = .agg ((sha ([0] ++ b)).map encB).toArray) := Lib.hid rfl
  unfold hashV
  generalize ((sha ([0] ++ b)).map encB).toArray = cs at *
  generalize (zer32.map encB).toArray = zs at *
  clear hb4 HR3 HB3 HSM
  go_wp2_with (first
    | (refine wpList_store_row rfl 29 (.tmp 2) (.tmp 6) rfl w.heap.size cs ?_ ?_ 29 zs hq (by rw [HSZ.out]; kernel_rfl) (by rw [HRZ.out, HSZ.out]) HC1.out ?_; rfl; rfl)
    | fail)
  exact bodyPost_ret (v := .agg cs) (results_cell_row Tryd.results43 _ _ w.heap.size _ cs (0, 0) _ rfl HX.out Tryd.underlying29 rfl (by rw [HSZ.out]; kernel_rfl)) rfl ⟨by rw [HRV.out], HBE.out⟩
set_option maxRecDepth 100000 in
set_option maxHeartbeats 4000000 in
theorem rleaf_any (branch : Int) (s : Sheet) (A B : Option Addr) (c d : Nat) (w : World) (hbr : I64 branch) (ha : Sl w (fun b => b < w.heap.size) A c s.body) (hb : Sl w (fun b => b < w.heap.size) B d s.notes) (hsz : (sheetB branch s).length ≤ 1073740000) :
    Calls Tryd.prog 12 #[.int .i64 branch, .agg #[.string s.label, .slice A s.body.length c, .slice B s.notes.length d]] w fun e w' => e = .returned (hashV (leafOf branch s)) ∧ Below w.heap.size w w' := by
  have hba : Below w.heap.size w ((w.alloc (.cells #[.string s.label, .slice A s.body.length c, .slice B s.notes.length d] 24)).alloc (.cells (zer32.map encB).toArray 29)) := ((Below.refl _ _).alloc (Nat.le_refl _) _).alloc (by simp) _
  have HX1 : Hid (ABox ((w.alloc (.cells #[.string s.label, .slice A s.body.length c, .slice B s.notes.length d] 24)).alloc (.cells (zer32.map encB).toArray 29)) w.heap.size 24 [.string s.label, .slice A s.body.length c, .slice B s.notes.length d]) := Lib.hid (by
    unfold ABox; rw [Below.heap_alloc _ _ _ (by simp)]; exact heap_alloc_new w _)
  have HR : Hid (ABox ((w.alloc (.cells #[.string s.label, .slice A s.body.length c, .slice B s.notes.length d] 24)).alloc (.cells (zer32.map encB).toArray 29)) (w.heap.size + 1) 29 (zer32.map encB)) := Lib.hid (heap_at (by simp))
  have HB := Lib.hid hba
  have HEN := Lib.hid (encoding_any branch s A B c d _ hbr (ha.to hba) (hb.to hba) hsz)
  clear hba ha hb hbr
  go_enter Tryd.func12, Tryd.ntmps12
  go_upto_region 1 with (fail)
  generalize hw1 : World.alloc (World.alloc w _) _ = w1
  have hw2 : ((w.alloc (.cells #[.string s.label, .slice A s.body.length c, .slice B s.notes.length d] 24)).alloc (.cells (zer32.map encB).toArray 29)) = w1 := hw1
  rw [hw2] at HX1 HR HB HEN
  clear hw1 hw2
  have k0 := HX1.out.cell 0 rfl
  have k1 := HX1.out.cell 1 rfl
  have k2 := HX1.out.cell 2 rfl
  go_wp2_with fail
  refine HEN.out.mono ?_
  rintro e w2 ⟨v2, rfl, ho2, hb2⟩
  obtain ⟨A2, c2, rfl, hs2⟩ := ho2.sl
  have HLF := Lib.hid (rleafB_any (sheetB branch s) A2 c2 w2 hs2 (by omega))
  have HR2 := Lib.hid (HR.out.to hb2)
  have HB2 := Lib.hid (HB.out.trans (hb2.mono HB.out.size))
  clear k0 k1 k2 ho2 hs2 hb2 HEN HX1 HR HB
  go_wp2_with fail
  refine HLF.out.mono ?_
  rintro e w4 ⟨rfl, hb4⟩
  have hq := HR2.out.to hb4
  unfold ABox at hq
  have HSZ := Lib.hid (hash_size (show (leafH (sheetB branch s)).length = 32 from sha_length _))
  have HC1 := Lib.hid (hash_all (leafH (sheetB branch s)))
  have HX := Lib.hid (setRow_heap _ (w.heap.size + 1) _ ((leafH (sheetB branch s)).map encB).toArray _ _ hq)
  have HBE := Lib.hid (below_setRow (HB2.out.trans (hb4.mono HB2.out.size)) (R := w.heap.size + 1) (by omega) ((leafH (sheetB branch s)).map encB).toArray)
  have HRZ : Hid ((zer32.map encB).toArray.size = 32) := Lib.hid rfl
  have HRV : Hid (hashV (leafOf branch s) = .agg ((leafH (sheetB branch s)).map encB).toArray) := Lib.hid rfl
  unfold hashV
  generalize ((leafH (sheetB branch s)).map encB).toArray = cs at *
  generalize (zer32.map encB).toArray = zs at *
  clear hb4 HR2 HB2 HLF
  go_wp2_with (first
    | (refine wpList_store_row rfl 29 (.tmp 4) (.tmp 8) rfl (w.heap.size + 1) cs ?_ ?_ 29 zs hq (by rw [HSZ.out]; kernel_rfl) (by rw [HRZ.out, HSZ.out]) HC1.out ?_; rfl; rfl)
    | fail)
  exact bodyPost_ret (v := .agg cs) (results_cell_row Tryd.results12 _ _ (w.heap.size + 1) _ cs (0, 0) _ rfl HX.out Tryd.underlying29 rfl (by rw [HSZ.out]; kernel_rfl)) rfl ⟨by rw [HRV.out], HBE.out⟩
end Go.Proofs.YthcklfelofpffaaDoor
