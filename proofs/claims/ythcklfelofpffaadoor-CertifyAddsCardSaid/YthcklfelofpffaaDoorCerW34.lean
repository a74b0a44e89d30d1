/- The reference of SHA-256: all full blocks. No condition but sizes. -/
import Derived.Test.YthcklfelofpffaaDoorCerW33
namespace Go.Proofs.YthcklfelofpffaaDoor
open Go.RowKit
structure KB (w wr : World) (P R : Nat) (hv : List W32) : Prop where
  eP : P = w.heap.size ∨ P > w.heap.size
  eR : R = w.heap.size
  ne : P ≠ R
  h : WBox wr P 96 hv
  r : WBox wr R 96 (List.replicate 8 0)
  b : Below w.heap.size w wr
theorem KB.to {w wr w' : World} {P R : Nat} {hv : List W32} (h : KB w wr P R hv) (hb : Below wr.heap.size wr w') : KB w w' P R hv := ⟨h.eP, h.eR, h.ne, h.h.to hb, h.r.to hb, h.b.trans (hb.mono h.b.size)⟩
theorem KB.rowH {w wr : World} {P R : Nat} {hv : List W32} (h : KB w wr P R hv) (hv' : List W32) : KB w (wr.setRow P (hv'.map enc32).toArray) P R hv' :=
  ⟨h.eP, h.eR, h.ne, setRow_heap _ _ _ _ _ _ h.h, (setRow_other _ _ _ _ (Ne.symm h.ne)).trans h.r, below_setRow h.b (by have := h.eP; omega) _⟩
theorem sl_cut {w : World} {S : Nat → Prop} {bA oA c : Nat} {l : List UInt8} (h : Sl w S (some ⟨bA, oA, none⟩) c l) (i n : Nat) (hi : i + n ≤ l.length) (hn : 0 < n) : Sl w S (some ⟨bA, oA + i, none⟩) (c - i) ((l.drop i).take n) := by
  have hd := (h.drop i (by omega)).take n (by rw [List.length_drop]; omega)
  have hc : ¬ c = i := by have := h.1; omega
  rw [if_neg hc] at hd
  have e : Option.map (fun x => x.add (i * Rep.size UInt8)) (some (⟨bA, oA, none⟩ : Addr)) = some ⟨bA, oA + i, none⟩ := by
    rw [Option.map_some, addr_add]; simp [Rep.size]
  rw [e] at hd
  exact hd
theorem blks_step (b : List UInt8) (k : Nat) (h : 64 * k + 64 ≤ b.length) : blks H0 b (k + 1) = blk (blks H0 b k) ((b.drop (64 * k)).take 64) := by
  rw [blks]
  refine blk_cong _ fun j hj => ?_
  rw [List.getD_eq_getElem?_getD, List.getD_eq_getElem?_getD, List.getElem?_take_of_lt hj]
set_option maxRecDepth 100000 in
set_option maxHeartbeats 4000000 in
theorem rblocks_any (b : List UInt8) (A : Option Addr) (c : Nat) (w : World) (hs : Sl w (fun b => b < w.heap.size) A c b) (hsz : b.length ≤ 1073742000) :
    Calls Tryd.prog 90 #[.slice A b.length c] w fun e w' => e = .returned (wordsV (blks H0 b (b.length / 64))) ∧ Below w.heap.size w w' := by
  have HS := Lib.hid hs
  have hcap : b.length ≤ c := hs.1
  have hcm : c ≤ 9223372036854775807 := by have := hs.2.1; unfold maxLen at this; omega
  have hb1 : Below w.heap.size w (w.alloc (.cells ((List.replicate 8 (0 : W32)).map enc32).toArray 96)) := (Below.refl _ _).alloc (Nat.le_refl _) _
  have HR : Hid (WBox (w.alloc (.cells ((List.replicate 8 (0 : W32)).map enc32).toArray 96)) w.heap.size 96 (List.replicate 8 0)) := Lib.hid (heap_alloc_new w _)
  have HB := Lib.hid hb1
  have HFI := Lib.hid (first_any (w.alloc (.cells ((List.replicate 8 (0 : W32)).map enc32).toArray 96)))
  clear hs hb1
  go_enter Tryd.func90, Tryd.ntmps90
  go_upto_region 1 with (fail)
  generalize hw1 : World.alloc w _ = w1
  have hw2 : w.alloc (.cells ((List.replicate 8 (0 : W32)).map enc32).toArray 96) = w1 := hw1
  rw [hw2] at HR HB HFI
  clear hw1 hw2
  go_wp2_with fail
  refine HFI.out.mono ?_
  rintro e w2 ⟨rfl, hb2⟩
  have hal := heap_alloc_new w2 (.cells ((List.replicate 8 (0 : W32)).map enc32).toArray 96)
  have hb3 : Below w2.heap.size w2 ((w2.alloc (.cells ((List.replicate 8 (0 : W32)).map enc32).toArray 96)).setRow w2.heap.size (H0.map enc32).toArray) := below_setRow ((Below.refl _ _).alloc (Nat.le_refl _) _) (Nat.le_refl _) _
  have HST0 : Hid (KB w ((w2.alloc (.cells ((List.replicate 8 (0 : W32)).map enc32).toArray 96)).setRow w2.heap.size (H0.map enc32).toArray) w2.heap.size w.heap.size (blks H0 b 0)) := Lib.hid
    ⟨by have := (HR.out.to hb2).lt; omega, rfl, by have := (HR.out.to hb2).lt; omega, setRow_heap _ _ _ _ _ _ hal, (HR.out.to hb2).to hb3, (HB.out.trans (hb2.mono HB.out.size)).trans (hb3.mono (Nat.le_trans HB.out.size hb2.size))⟩
  have HONE := Lib.hid (words_one H0)
  clear hb2 hb3 HR HB HFI
  unfold wordsV
  go_upto_region 2 with (first
    | (refine wpList_store_row rfl 96 (.tmp 3) (.tmp 5) rfl w2.heap.size (H0.map enc32).toArray rfl rfl 96 _ hal (by kernel_rfl) rfl HONE.out ?_)
    | fail)
  generalize hw3 : World.setRow (World.alloc w2 _) _ _ = w3
  have hw4 : ((w2.alloc (.cells ((List.replicate 8 (0 : W32)).map enc32).toArray 96)).setRow w2.heap.size (H0.map enc32).toArray) = w3 := hw3
  rw [hw4] at HST0
  clear hw3 hw4 hal HONE
  generalize w2.heap.size = P at *
  obtain ⟨R, hR⟩ : ∃ R, R = w.heap.size := ⟨_, rfl⟩
  rw [← hR] at HST0 ⊢
  clear hR
  go_wp2_with fail
  go_loopw [4] (fun i wr => ∃ k : Nat, 64 * k ≤ b.length ∧ i = .int .i64 (64 * (k : Int)) ∧ Hid (KB w wr P R (blks H0 b k))) (fun i _ => b.length - (intOf i).toNat)
  case atStart => exact ⟨0, by omega, rfl, HST0⟩
  case round =>
    obtain ⟨k, hk, rfl, HST⟩ := hrel
    by_cases hlt : 64 * k + 64 ≤ b.length
    · obtain ⟨bA, oA, rfl, _⟩ := HS.out.2.2 (by omega)
      have hlt2 : 64 * (k : Int) + 64 ≤ (b.length : Int) := by omega
      have hk0 : (0 : Int) ≤ 64 * (k : Int) := by omega
      have hwa : IntKind.i64.wrap (64 * (k : Int) + 64) = 64 * (k : Int) + 64 := by rw [IntWalk.i64_in _ (by omega)]
      have HNX := Lib.hid (blks_step b k hlt)
      have HL1 := Lib.hid (blks_length (h := H0) rfl b k)
      have HL2 := Lib.hid (blks_length (h := H0) rfl b (k + 1))
      obtain ⟨x0, x1, x2, x3, x4, x5, x6, x7, hx8⟩ := list8 HL1.out
      have HBK : Hid (∀ W, Below wr.heap.size wr W → Calls Tryd.prog 102 #[.agg ((blks H0 b k).map enc32).toArray, .slice (some ⟨bA, oA + 64 * k, none⟩) 64 (c - 64 * k)] W fun e w' => e = .returned (.agg ((blks H0 b (k + 1)).map enc32).toArray) ∧ Below W.heap.size W w') := Lib.hid (fun W hW => by
        have hsl := sl_cut (HS.out.to (HST.out.b.trans (hW.mono HST.out.b.size))) (64 * k) 64 (by omega) (by omega)
        have hln : ((b.drop (64 * k)).take 64).length = 64 := by rw [List.length_take, List.length_drop]; omega
        have h := rblock_any x0 x1 x2 x3 x4 x5 x6 x7 ((b.drop (64 * k)).take 64) _ _ W hsl (by omega)
        rw [hln, ← hx8, ← HNX.out] at h
        rw [hx8]
        exact h)
      clear hx8
      obtain ⟨hc, hhc⟩ : ∃ hc, hc = blks H0 b k := ⟨_, rfl⟩
      obtain ⟨hc2, hhc2⟩ : ∃ hc, hc = blks H0 b (k + 1) := ⟨_, rfl⟩
      have HNX : Hid (blks H0 b (k + 1) = hc2) := Lib.hid hhc2.symm
      rw [← hhc] at HST HBK HL1
      rw [← hhc2] at HBK HL2
      clear hhc hhc2
      have HSZ : Hid ((hc.map enc32).toArray.size = 8) := Lib.hid (by rw [words_size, HL1.out])
      have HSZ2 : Hid ((hc2.map enc32).toArray.size = 8) := Lib.hid (by rw [words_size, HL2.out])
      have hHeld : wr.drew.heap[P]? = some (.cells (hc.map enc32).toArray 96 (0, 0)) := HST.out.h
      have hI0 : (0 : Int) ≤ 64 * (k : Int) + 64 := by omega
      have hI1 : 64 * (k : Int) + 64 ≤ (c : Int) := by omega
      have hI2 : 64 * (k : Int) ≤ 64 * (k : Int) + 64 := by omega
      have hle1 : 64 * k ≤ 64 * k + 64 := by omega
      have hle2 : 64 * k + 64 ≤ c := by omega
      have hsub : 64 * k + 64 - 64 * k = 64 := by omega
      have hne : ¬ c = 64 * k := by omega
      have hn1 : (64 * (k : Int)).toNat = 64 * k := by omega
      have hn2 : (64 * (k : Int) + 64).toNat = 64 * k + 64 := by omega
      go_upto_region 5 with (fail)
      refine wp_region_D (fun w' => w'.heap[P]? = some (.cells (hc.map enc32).toArray 96 (0, 0))) (fun i => decide (i < 6)) (by kernel_rfl) ?_
      have hb0 : Hid (Below wr.heap.size wr wr.drew) := Lib.hid (Below.refl _ _).drew
      generalize wr.drew = W0 at *
      refine wpAnyE_take (i := 0) (oi := ⟨some 13, Op.load 96 (Operand.tmp 3), 96, _, _, _⟩) (v := ?_) rfl (by kernel_rfl) (by kernel_rfl) (by kernel_rfl) (by kernel_rfl) (by kernel_rfl) (fun _ _ _ h => h) (by rfl) ?hykr5_1 (hHeld) ?hrkr5_1
      case hykr5_1 => (intro wS hSw; refine exec_load_row 96 (.tmp 3) ?_ P ?_ 96 (hc.map enc32).toArray (0, 0) _ hSw Tryd.underlying96 ?_ ?_; rfl; rfl; rfl; (rw [HSZ.out]; kernel_rfl))
      all_goals try simp only [Act.put, List.setIfInBounds_toArray, List.set_cons_zero, List.set_cons_succ]
      refine wpAnyE_take (i := 1) (oi := ⟨some 14, Op.move (Operand.tmp 0), 59, _, _, _⟩) (v := ?_) rfl (by kernel_rfl) (by kernel_rfl) (by kernel_rfl) (by kernel_rfl) (by kernel_rfl) (fun _ _ _ h => h) (by rfl) ?hykr5_2 (hHeld) ?hrkr5_2
      case hykr5_2 => (intro wS hSw; clear hSw; go_simp; (try with_reducible rfl))
      all_goals try simp only [Act.put, List.setIfInBounds_toArray, List.set_cons_zero, List.set_cons_succ]
      refine wpAnyE_take (i := 2) (oi := ⟨some 15, Op.move (Operand.tmp 4), 3, _, _, _⟩) (v := ?_) rfl (by kernel_rfl) (by kernel_rfl) (by kernel_rfl) (by kernel_rfl) (by kernel_rfl) (fun _ _ _ h => h) (by rfl) ?hykr5_3 (hHeld) ?hrkr5_3
      case hykr5_3 => (intro wS hSw; clear hSw; go_simp; (try with_reducible rfl))
      all_goals try simp only [Act.put, List.setIfInBounds_toArray, List.set_cons_zero, List.set_cons_succ]
      refine wpAnyE_take (i := 3) (oi := ⟨some 16, Op.move (Operand.tmp 4), 3, _, _, _⟩) (v := ?_) rfl (by kernel_rfl) (by kernel_rfl) (by kernel_rfl) (by kernel_rfl) (by kernel_rfl) (fun _ _ _ h => h) (by rfl) ?hykr5_4 (hHeld) ?hrkr5_4
      case hykr5_4 => (intro wS hSw; clear hSw; go_simp; (try with_reducible rfl))
      all_goals try simp only [Act.put, List.setIfInBounds_toArray, List.set_cons_zero, List.set_cons_succ]
      refine wpAnyE_take (i := 4) (oi := ⟨some 17, Op.binOp BinOp.add 3 (Operand.tmp 16) (Operand.const (Value.int IntKind.i64 64)) 3, 3, _, _, _⟩) (v := ?_) rfl (by kernel_rfl) (by kernel_rfl) (by kernel_rfl) (by kernel_rfl) (by kernel_rfl) (fun _ _ _ h => h) (by rfl) ?hykr5_5 (hHeld) ?hrkr5_5
      case hykr5_5 => (intro wS hSw; clear hSw; go_simp; (try with_reducible rfl))
      all_goals try simp only [Act.put, List.setIfInBounds_toArray, List.set_cons_zero, List.set_cons_succ]
      refine wpAnyE_take (i := 5) (oi := ⟨some 18, Op.slice 59 (Operand.tmp 14) (some (Operand.tmp 15)) (some (Operand.tmp 17)) none, 59, _, _, _⟩) (v := ?_) rfl (by kernel_rfl) (by kernel_rfl) (by kernel_rfl) (by kernel_rfl) (by kernel_rfl) (fun _ _ _ h => h) (by rfl) ?hykr5_6 (hHeld) ?hrkr5_6
      case hykr5_6 => (intro wS hSw; clear hSw; go_simp; (try with_reducible rfl))
      all_goals try simp only [Act.put, List.setIfInBounds_toArray, List.set_cons_zero, List.set_cons_succ]
      refine wpAnyD_one (i := 6) (oi := ⟨some 19, Op.call { callee := Callee.value (Operand.func 102), args := #[Operand.tmp 13, Operand.tmp 18], argTypes := #[96, 59] }, 96, _, _, _⟩) rfl (by kernel_rfl) (by rfl) (fun K hK => ?_)
      go_simp
      go_at_call 102
      refine (HBK.out W0 hb0.out).mono ?_
      rintro e W2 ⟨rfl, hb2⟩
      have HST2 := Lib.hid (HST.out.to (hb0.out.trans (hb2.mono hb0.out.size)))
      have hq := HST2.out.h
      unfold WBox at hq
      go_simp
      refine hK _ _ (fun _ => ?_) ?_
      · exact HST2.out.h
      clear hK K
      try simp only [Act.put, List.setIfInBounds_toArray, List.set_cons_zero, List.set_cons_succ]
      refine wpAnyD_one (i := 7) (oi := ⟨none, Op.store 96 (Operand.tmp 3) (Operand.tmp 19), 0, _, _, _⟩) rfl (by kernel_rfl) (by rfl) (fun K hK => ?_)
      refine wp_store_row 96 (.tmp 3) (.tmp 19) rfl P (hc2.map enc32).toArray ?_ ?_ 96 _ hq (by rw [HSZ2.out]; kernel_rfl) (by rw [HSZ.out, HSZ2.out]) (words_one _) ?_
      · rfl
      · rfl
      refine hK _ _ (fun h => absurd h (by decide)) ?_
      clear hK K
      try simp only [Act.put]
      refine wpAnyD_done (by kernel_rfl) ?_ _
      unfold Exit.then
      go_wp2_with fail
      go_roundw
      case rel => exact ⟨k + 1, by omega, by go_num, by rw [HNX.out]; exact Lib.hid (HST2.out.rowH hc2)⟩
      case measure => (simp [intOf]; omega)
    · have hlt2 : ¬ (64 * (k : Int) + 64 ≤ (b.length : Int)) := by omega
      have hwa : IntKind.i64.wrap (64 * (k : Int) + 64) = 64 * (k : Int) + 64 := by rw [IntWalk.i64_in _ (by omega)]
      have hkk : b.length / 64 = k := by omega
      have HKK := Lib.hid hkk
      have HL1 := Lib.hid (blks_length (h := H0) rfl b k)
      obtain ⟨hc, hhc⟩ : ∃ hc, hc = blks H0 b k := ⟨_, rfl⟩
      have HHC := Lib.hid hhc
      rw [← hhc] at HST HL1
      clear hhc hkk
      have hq := HST.out.r
      have hq2 := HST.out.h
      unfold WBox at hq hq2
      have HSZ : Hid ((hc.map enc32).toArray.size = 8) := Lib.hid (by rw [words_size, HL1.out])
      have HX := Lib.hid (setRow_heap _ R _ (hc.map enc32).toArray _ _ hq)
      have HBE := Lib.hid (below_setRow HST.out.b (R := R) (by have := HST.out.eR; omega) (hc.map enc32).toArray)
      have HONE := Lib.hid (words_one hc)
      have HRE : Hid (wordsV (blks H0 b (b.length / 64)) = .agg (hc.map enc32).toArray) := Lib.hid (by rw [HKK.out, ← HHC.out]; rfl)
      generalize (hc.map enc32).toArray = cs at *
      go_wp2_with (first
        | (refine wpList_load_row rfl 96 (.tmp 3) rfl P ?_ 96 cs (0, 0) _ hq2 Tryd.underlying96 ?_ ?_ ?_; rfl; rfl; (rw [HSZ.out]; kernel_rfl))
        | (refine wpList_store_row rfl 96 (.tmp 2) (.tmp 20) rfl R cs ?_ ?_ 96 _ hq (by rw [HSZ.out]; kernel_rfl) (by rw [HSZ.out]; rfl) HONE.out ?_; rfl; rfl)
        | fail)
      exact bodyPost_ret (v := .agg cs) (results_cell_row Tryd.results90 _ _ R _ cs (0, 0) _ rfl HX.out Tryd.underlying96 rfl (by rw [HSZ.out]; kernel_rfl)) rfl ⟨by rw [HRE.out], HBE.out⟩
end Go.Proofs.YthcklfelofpffaaDoor
