/- The hash value of an inner node. No condition but what the table holds. -/
import Derived.Test.YthcklfelofpffaaDoorCerW7
import Derived.Test.YthcklfelofpffaaDoorRegD
namespace Go.Proofs.YthcklfelofpffaaDoor
open Go.RowKit
/-- An array that lies in a block of its own, as a slice. -/
theorem sl_row {w : World} {P : Nat} {t : TypeId} {l : List UInt8} (h : ABox w P t (l.map encB)) (hm : l.length ≤ maxLen) : Sl w (fun b => b < w.heap.size) (some ⟨P, 0, none⟩) l.length l :=
  ⟨Nat.le_refl _, hm, fun _ => ⟨P, 0, rfl, h.lt, h.lt, fun i hi => ⟨[.int .u8 (l[i].toNat : Int)], rfl, fun j u hu => by
    obtain rfl : j = 0 := by
      rcases j with _ | j
      · rfl
      · simp at hu
    rw [show Rep.size UInt8 = 1 from rfl, Nat.zero_add, Nat.mul_one, Nat.add_zero]
    refine h.cell i ?_
    rw [List.getElem?_map, List.getElem?_eq_getElem hi]; exact hu⟩⟩⟩
set_option maxRecDepth 100000 in
set_option maxHeartbeats 4000000 in
theorem node_any (a b : List UInt8) (ha : a.length = 32) (hb : b.length = 32) (w : World) (hK : KLaid w) :
    Calls Tryd.prog 45 #[hashV a, hashV b] w fun e w' => e = .returned (hashV (nodeH a b)) ∧ Below w.heap.size w w' := by
  have HK := Lib.hid hK
  have HA := Lib.hid (hash_size ha)
  have HBs := Lib.hid (hash_size hb)
  clear hK
  unfold nodeH
  have hA : hashV a = .agg (a.map encB).toArray := rfl
  have hB : hashV b = .agg (b.map encB).toArray := rfl
  rw [hA, hB]
  clear hA hB
  generalize hca : (a.map encB).toArray = ca at *
  generalize hcb : (b.map encB).toArray = cb at *
  have HCA := Lib.hid hca
  have HCB := Lib.hid hcb
  clear hca hcb
  go_enter Tryd.func45, Tryd.ntmps45
  go_upto_region 1 with (fail)
  generalize hw1 : (World.alloc (World.alloc (World.alloc w _) _) _) = w1
  have hb1 : Below w.heap.size w w1 := by subst hw1; exact (((Below.refl _ _).alloc (Nat.le_refl _) _).alloc (by simp) _).alloc (by first | (simp; done) | (simp; omega)) _
  have h0 : ABox w1 w.heap.size 29 (a.map encB) := by unfold ABox; rw [HCA.out]; subst hw1; exact (Below.heap_alloc _ _ _ (by first | (simp; done) | (simp; omega))).trans ((Below.heap_alloc _ _ _ (by simp)).trans (heap_at rfl))
  have h1 : ABox w1 (w.heap.size + 1) 29 (b.map encB) := by unfold ABox; rw [HCB.out]; subst hw1; exact (Below.heap_alloc _ _ _ (by first | (simp; done) | (simp; omega))).trans (heap_at (by simp))
  have h2 : ABox w1 (w.heap.size + 2) 29 (zer32.map encB) := by subst hw1; exact heap_at (by simp)
  have H0 := Lib.hid h0
  have H1 := Lib.hid h1
  have H2 := Lib.hid h2
  have HB1 := Lib.hid hb1
  have eO : w.heap.size + 1 + 1 = w.heap.size + 2 := by omega
  rw [eO]
  clear hw1 hb1 h0 h1 h2 eO
  generalize hR : w.heap.size + 2 = R at *
  generalize hP1 : w.heap.size + 1 = P1 at *
  generalize hP0 : w.heap.size = P0 at *
  have HRP : Hid (P0 ≤ R) := Lib.hid (by omega)
  clear hR hP1
  refine wp_region_D (fun _ => True) (fun _ => true) (by kernel_rfl) ?_
  refine wpAnyD_take (i := 1) (oi := ⟨some 6, Op.slice 29 (Operand.tmp 2) none none none, 59, _, _, _⟩) (v := ?_) rfl (by kernel_rfl) (by kernel_rfl) (by kernel_rfl) (by kernel_rfl) (fun _ _ _ h => h) (by rfl) ?hya1 trivial ?hra1
  case hya1 => (intro wS hSw; go_simp; (try with_reducible rfl))
  all_goals try (simp only [Act.put, List.setIfInBounds_toArray, List.set_cons_zero, List.set_cons_succ])
  refine wpAnyD_take (i := 2) (oi := ⟨some 7, Op.slice 29 (Operand.tmp 3) none none none, 59, _, _, _⟩) (v := ?_) rfl (by kernel_rfl) (by kernel_rfl) (by kernel_rfl) (by kernel_rfl) (fun _ _ _ h => h) (by rfl) ?hya2 trivial ?hra2
  case hya2 => (intro wS hSw; go_simp; (try with_reducible rfl))
  all_goals try (simp only [Act.put, List.setIfInBounds_toArray, List.set_cons_zero, List.set_cons_succ])
  refine wpAnyD_one (i := 0) (oi := ⟨some 5, Op.buildSlice 59 1 #[(0, Operand.const (Value.int IntKind.u8 1))], 59, _, _, _⟩) rfl (by kernel_rfl) (by rfl) (fun K hK => ?_)
  go_simp
  refine hK _ _ (fun _ => trivial) ?_
  clear hK K
  try simp only [Act.put, List.setIfInBounds_toArray, List.set_cons_zero, List.set_cons_succ]
  have hbA : Below w1.heap.size w1 (w1.alloc (.cells #[.int .u8 1] 5)).drew := ((Below.refl w1.heap.size w1).alloc (Nat.le_refl _) _).drew
  have HL : Hid (ABox (w1.alloc (.cells #[.int .u8 1] 5)).drew w1.heap.size 5 ([(1 : UInt8)].map encB)) := Lib.hid (heap_at_d rfl)
  have H0a := Lib.hid (H0.out.to hbA)
  have H1a := Lib.hid (H1.out.to hbA)
  have H2a := Lib.hid (H2.out.to hbA)
  have HBa := Lib.hid (HB1.out.trans (hbA.mono (by have := HB1.out.size; omega)))
  clear hbA H0 H1 H2 HB1
  generalize (w1.alloc (.cells #[.int .u8 1] 5)).drew = w2 at *
  generalize w1.heap.size = L at *
  have hbB : Below w2.heap.size w2 (w2.alloc (.cells #[.slice (some ⟨L, 0, none⟩) 1 1, .slice (some ⟨P0, 0, none⟩) 32 32, .slice (some ⟨P1, 0, none⟩) 32 32] 59)) := (Below.refl w2.heap.size w2).alloc (Nat.le_refl _) _
  have HQ : Hid (ABox (w2.alloc (.cells #[.slice (some ⟨L, 0, none⟩) 1 1, .slice (some ⟨P0, 0, none⟩) 32 32, .slice (some ⟨P1, 0, none⟩) 32 32] 59)) w2.heap.size 59 [.slice (some ⟨L, 0, none⟩) 1 1, .slice (some ⟨P0, 0, none⟩) 32 32, .slice (some ⟨P1, 0, none⟩) 32 32]) := Lib.hid (heap_alloc_new w2 _)
  have H0b := Lib.hid (H0a.out.to hbB)
  have H1b := Lib.hid (H1a.out.to hbB)
  have H2b := Lib.hid (H2a.out.to hbB)
  have HLb := Lib.hid (HL.out.to hbB)
  have HBb := Lib.hid (HBa.out.trans (hbB.mono (by have := HBa.out.size; omega)))
  clear hbB H0a H1a H2a HBa HL
  refine wpAnyD_one (i := 3) (oi := ⟨some 8, Op.buildSlice 133 3 #[(0, Operand.tmp 5), (1, Operand.tmp 6), (2, Operand.tmp 7)], 133, _, _, _⟩) rfl (by kernel_rfl) (by rfl) (fun K hK => ?_)
  go_simp
  refine hK _ _ (fun _ => trivial) ?_
  clear hK K
  try simp only [Act.put, List.setIfInBounds_toArray, List.set_cons_zero, List.set_cons_succ]
  generalize (w2.alloc (.cells #[.slice (some ⟨L, 0, none⟩) 1 1, .slice (some ⟨P0, 0, none⟩) 32 32, .slice (some ⟨P1, 0, none⟩) 32 32] 59)) = w3 at *
  generalize w2.heap.size = Q at *
  have S0 := sl_row H0b.out (by rw [ha]; simp [maxLen])
  have S1 := sl_row H1b.out (by rw [hb]; simp [maxLen])
  have SL := sl_row HLb.out (by simp [maxLen])
  have HCT := concat_any Q (some ⟨L, 0, none⟩) (some ⟨P0, 0, none⟩) (some ⟨P1, 0, none⟩) 1 32 32 [1] a b w3 (HQ.out.cell 0 rfl) (by rw [ha]; exact HQ.out.cell 1 rfl) (by rw [hb]; exact HQ.out.cell 2 rfl) SL (by rw [ha] at S0; exact S0) (by rw [hb] at S1; exact S1) (by simp) (by omega) (by omega)
  have HCTH := Lib.hid HCT
  clear HCT S0 S1 SL HLb H0b H1b HQ
  refine wpAnyD_one (i := 4) (oi := ⟨some 9, Op.call { callee := Callee.value (Operand.func 74), args := #[Operand.tmp 8], argTypes := #[133] }, 59, _, _, _⟩) rfl (by kernel_rfl) (by rfl) (fun K hK => ?_)
  go_simp
  refine HCTH.out.mono ?_
  rintro e w4 ⟨v4, rfl, hown4, hb4⟩
  obtain ⟨A4, c4, rfl, hs4⟩ := hown4.sl
  have H2c := Lib.hid (H2b.out.to hb4)
  have HBc := Lib.hid (HBb.out.trans (hb4.mono (by have := HBb.out.size; omega)))
  have hlen : ([1] ++ a ++ b : List UInt8).length = 65 := by simp; omega
  have HSM := Lib.hid (sum_any ([1] ++ a ++ b) A4 _ c4 w4 hs4 rfl (by rw [hlen]; omega) (HK.out.to (by rw [hP0]; exact HBc.out)))
  rw [hlen] at HSM
  rw [hlen]
  refine hK _ _ (fun _ => trivial) ?_
  clear hK K HCTH hown4 hs4 hb4 H2b HBb
  try simp only [Act.put, List.setIfInBounds_toArray, List.set_cons_zero, List.set_cons_succ]
  refine wpAnyD_one (i := 5) (oi := ⟨some 10, Op.call { callee := Callee.value (Operand.func 61), args := #[Operand.tmp 9], argTypes := #[59] }, 29, _, _, _⟩) rfl (by kernel_rfl) (by rfl) (fun K hK => ?_)
  go_simp
  refine HSM.out.mono ?_
  rintro e w5 ⟨rfl, hb5⟩
  refine hK _ _ (fun _ => trivial) ?_
  clear hK K
  try simp only [Act.put, List.setIfInBounds_toArray, List.set_cons_zero, List.set_cons_succ]
  have hE : [1] ++ a ++ b = 1 :: (a ++ b) := rfl
  rw [hE]
  have HB4 := Lib.hid (below_setRow (HBc.out.trans (hb5.mono (by have := HBc.out.size; omega))) (R := R) HRP.out ((sha (1 :: (a ++ b))).map encB).toArray)
  have hr4 : w5.heap[R]? = some (.cells (zer32.map encB).toArray 29 (0, 0)) := H2c.out.to hb5
  have HX := Lib.hid (setRow_heap w5 R _ ((sha (1 :: (a ++ b))).map encB).toArray _ _ hr4)
  have HSZ := Lib.hid (hash_size (sha_length (1 :: (a ++ b))))
  have HC1 := Lib.hid (hash_all (sha (1 :: (a ++ b))))
  have HRZ : Hid ((zer32.map encB).toArray.size = 32) := Lib.hid rfl
  have HRE : Hid (hashV (sha (1 :: (a ++ b))) = .agg ((sha (1 :: (a ++ b))).map encB).toArray) := Lib.hid rfl
  unfold hashV
  clear hb5 H2c HBc HSM
  generalize ((sha (1 :: (a ++ b))).map encB).toArray = cs at *
  generalize (zer32.map encB).toArray = zs at *
  refine wpAnyD_one (i := 6) (oi := ⟨none, Op.store 29 (Operand.tmp 4) (Operand.tmp 10), 0, _, _, _⟩) rfl (by kernel_rfl) (by rfl) (fun K hK => ?_)
  refine wp_store_row 29 (.tmp 4) (.tmp 10) rfl R cs rfl rfl 29 zs hr4 (by rw [HSZ.out]; kernel_rfl) (by rw [HRZ.out, HSZ.out]) HC1.out ?_
  refine hK _ _ (fun _ => trivial) ?_
  clear hK K
  refine wpAnyD_done (by kernel_rfl) ?_ _
  unfold Exit.then
  go_wp2_with fail
  refine bodyPost_ret (v := .agg cs) (results_cell_row Tryd.results45 _ _ R _ cs (0, 0) _ rfl HX.out Tryd.underlying29 rfl (by rw [HSZ.out]; kernel_rfl)) rfl ⟨by rw [HRE.out], ?_⟩
  rw [hP0]; exact HB4.out
end Go.Proofs.YthcklfelofpffaaDoor
