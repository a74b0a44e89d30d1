/- The reference of SHA-256: one block. No condition.
The reference of SHA-256: all full blocks. No condition but sizes.
The reference of SHA-256: Sum. No condition but sizes.
The reference's leaf of a sheet. No condition but sizes.
The reference: node, split, root, head, last label. No condition but sizes. -/
import Derived.Test.YthcklfelofpffaaDoorCPd7
namespace Go.Proofs.YthcklfelofpffaaDoor
open Go.RowKit
/-- What the walk through a block holds: the chaining values, the result, the words, the constants, the working values. -/
structure RB (w wr : World) (P R O C V : Nat) (hv ws vs : List W32) : Prop where
  eP : P = w.heap.size
  eR : R = w.heap.size + 1
  eO : R < O
  eC : O < C
  eV : C < V
  h : WBox wr P 96 hv
  r : WBox wr R 96 (List.replicate 8 0)
  o : WBox wr O 139 ws
  k : WBox wr C 139 KW
  v : WBox wr V 96 vs
  b : Below w.heap.size w wr
section
variable {w wr w' : World} {P R O C V : Nat} {hv ws vs : List W32}
theorem RB.to (h : RB w wr P R O C V hv ws vs) (hb : Below wr.heap.size wr w') : RB w w' P R O C V hv ws vs :=
  ⟨h.eP, h.eR, h.eO, h.eC, h.eV, h.h.to hb, h.r.to hb, h.o.to hb, h.k.to hb, h.v.to hb, h.b.trans (hb.mono h.b.size)⟩
theorem RB.setH (h : RB w wr P R O C V hv ws vs) (i : Nat) (x : W32) : RB w (wr.setCell ⟨P, i, none⟩ (.int .u32 (u x))) P R O C V (hv.set i x) ws vs := by
  have h1 := h.eP; have h2 := h.eR; have h3 := h.eO; have h4 := h.eC; have h5 := h.eV
  exact ⟨h1, h2, h3, h4, h5, h.h.set i x, (heap_set _ _ _ _ (by omega)).trans h.r, (heap_set _ _ _ _ (by omega)).trans h.o, (heap_set _ _ _ _ (by omega)).trans h.k, (heap_set _ _ _ _ (by omega)).trans h.v, h.b.setCell (p := ⟨P, i, none⟩) (by show w.heap.size ≤ P; omega) _⟩
theorem RB.rowV (h : RB w wr P R O C V hv ws vs) (vs' : List W32) (hf : ∃ t, wr.heap[V]? = some (.cells (vs.map enc32).toArray t (0, 0))) : RB w (wr.setRow V (vs'.map enc32).toArray) P R O C V hv ws vs' := by
  have h1 := h.eP; have h2 := h.eR; have h3 := h.eO; have h4 := h.eC; have h5 := h.eV
  exact ⟨h1, h2, h3, h4, h5, (setRow_other _ _ _ _ (by omega)).trans h.h, (setRow_other _ _ _ _ (by omega)).trans h.r, (setRow_other _ _ _ _ (by omega)).trans h.o, (setRow_other _ _ _ _ (by omega)).trans h.k, setRow_heap _ _ _ _ _ _ h.v, below_setRow h.b (by omega) _⟩
end
theorem u_notX (a : W32) : bits .xor .u32 (if IntKind.u32.signed = true then -1 else IntKind.u32.max) (u a) = u (~~~a) := by
  have e : (if IntKind.u32.signed = true then (-1 : Int) else IntKind.u32.max) = u (BitVec.allOnes 32) := by decide +kernel
  rw [e, u_xor, BitVec.allOnes_xor]
theorem KW_at (k : Nat) (h : k < 64) : KW.getD k 0 = BitVec.ofNat 32 (KS.getD k 0) := by
  have : ∀ k, k < 64 → KW.getD k 0 = BitVec.ofNat 32 (KS.getD k 0) := by decide +kernel
  exact this k h
theorem KW_length : KW.length = 64 := rfl
set_option maxRecDepth 100000 in
set_option maxHeartbeats 4000000 in
theorem rblock_any (h0 h1 h2 h3 h4 h5 h6 h7 : W32) (b : List UInt8) (A : Option Addr) (c : Nat) (w : World) (hs : Sl w (fun b => b < w.heap.size) A c b) (h64 : 64 ≤ b.length) :
    Calls Tryd.prog 102 #[.agg #[enc32 h0, enc32 h1, enc32 h2, enc32 h3, enc32 h4, enc32 h5, enc32 h6, enc32 h7], .slice A b.length c] w fun e w' => e = .returned (wordsV (blk [h0, h1, h2, h3, h4, h5, h6, h7] b)) ∧ Below w.heap.size w w' := by
  unfold enc32
  have HBLK : Hid (blk [h0, h1, h2, h3, h4, h5, h6, h7] b = List.zipWith (· + ·) [h0, h1, h2, h3, h4, h5, h6, h7] (rnds [h0, h1, h2, h3, h4, h5, h6, h7] (sched b 64) 64)) := Lib.hid rfl
  have HWL := Lib.hid (sched_length b 64)
  have hb1 : Below w.heap.size w ((w.alloc (.cells (([h0, h1, h2, h3, h4, h5, h6, h7] : List W32).map enc32).toArray 96)).alloc (.cells ((List.replicate 8 (0 : W32)).map enc32).toArray 96)) := ((Below.refl _ _).alloc (Nat.le_refl _) _).alloc (by simp) _
  have HP : Hid (WBox ((w.alloc (.cells (([h0, h1, h2, h3, h4, h5, h6, h7] : List W32).map enc32).toArray 96)).alloc (.cells ((List.replicate 8 (0 : W32)).map enc32).toArray 96)) w.heap.size 96 [h0, h1, h2, h3, h4, h5, h6, h7]) := Lib.hid ((Below.heap_alloc _ _ _ (by simp)).trans (heap_alloc_new w _))
  have HR : Hid (WBox ((w.alloc (.cells (([h0, h1, h2, h3, h4, h5, h6, h7] : List W32).map enc32).toArray 96)).alloc (.cells ((List.replicate 8 (0 : W32)).map enc32).toArray 96)) (w.heap.size + 1) 96 (List.replicate 8 0)) := Lib.hid (heap_at (by simp))
  have HB := Lib.hid hb1
  have HSC := Lib.hid (schedule_any b A c _ (hs.to hb1) h64)
  clear hb1 hs
  go_enter Tryd.func102, Tryd.ntmps102
  go_upto_region 1 with (fail)
  generalize hw1 : World.alloc (World.alloc w _) _ = w1
  have hw2 : ((w.alloc (.cells (([h0, h1, h2, h3, h4, h5, h6, h7] : List W32).map enc32).toArray 96)).alloc (.cells ((List.replicate 8 (0 : W32)).map enc32).toArray 96)) = w1 := hw1
  rw [hw2] at HP HR HB HSC
  clear hw1 hw2
  go_wp2_with fail
  refine HSC.out.mono ?_
  rintro e w2 ⟨rfl, hb2⟩
  obtain ⟨ws, hws⟩ : ∃ ws, ws = sched b 64 := ⟨_, rfl⟩
  rw [← hws] at HBLK HWL ⊢
  clear hws HSC
  have HSZ : Hid ((ws.map enc32).toArray.size = 64) := Lib.hid (by rw [words_size, HWL.out])
  have HONE := Lib.hid (words_one ws)
  have hal := heap_alloc_new w2 (.cells ((List.replicate 64 (0 : W32)).map enc32).toArray 139)
  have hb3 : Below w2.heap.size w2 ((w2.alloc (.cells ((List.replicate 64 (0 : W32)).map enc32).toArray 139)).setRow w2.heap.size (ws.map enc32).toArray) := below_setRow ((Below.refl _ _).alloc (Nat.le_refl _) _) (Nat.le_refl _) _
  have HO : Hid (WBox ((w2.alloc (.cells ((List.replicate 64 (0 : W32)).map enc32).toArray 139)).setRow w2.heap.size (ws.map enc32).toArray) w2.heap.size 139 ws) := Lib.hid (setRow_heap _ _ _ _ _ _ hal)
  have HP3 := Lib.hid ((HP.out.to hb2).to hb3)
  have HR3 := Lib.hid ((HR.out.to hb2).to hb3)
  have HB3 := Lib.hid ((HB.out.trans (hb2.mono HB.out.size)).trans (hb3.mono (Nat.le_trans HB.out.size hb2.size)))
  have HOR : Hid (w.heap.size + 1 < w2.heap.size) := Lib.hid (HR.out.to hb2).lt
  clear HP HR HB hb2 hb3
  unfold wordsV
  go_upto_region 2 with (first
    | (refine wpList_store_row rfl 139 (.tmp 5) (.tmp 15) rfl w2.heap.size (ws.map enc32).toArray rfl rfl 139 _ hal (by rw [HSZ.out]; kernel_rfl) (by rw [HSZ.out]; rfl) HONE.out ?_)
    | fail)
  generalize hw3 : World.setRow (World.alloc w2 _) _ _ = w3
  have hw4 : ((w2.alloc (.cells ((List.replicate 64 (0 : W32)).map enc32).toArray 139)).setRow w2.heap.size (ws.map enc32).toArray) = w3 := hw3
  rw [hw4] at HO HP3 HR3 HB3
  clear hw3 hw4 hal HSZ HONE
  generalize w2.heap.size = O at *
  have HRD := Lib.hid (round_any w3)
  go_wp2_with fail
  refine HRD.out.mono ?_
  rintro e w4 ⟨rfl, hb4⟩
  have HSZ : Hid ((KW.map enc32).toArray.size = 64) := Lib.hid (by rw [words_size, KW_length])
  have HONE := Lib.hid (words_one KW)
  have hal := heap_alloc_new w4 (.cells ((List.replicate 64 (0 : W32)).map enc32).toArray 139)
  have hb5 : Below w4.heap.size w4 ((w4.alloc (.cells ((List.replicate 64 (0 : W32)).map enc32).toArray 139)).setRow w4.heap.size (KW.map enc32).toArray) := below_setRow ((Below.refl _ _).alloc (Nat.le_refl _) _) (Nat.le_refl _) _
  have HC : Hid (WBox ((w4.alloc (.cells ((List.replicate 64 (0 : W32)).map enc32).toArray 139)).setRow w4.heap.size (KW.map enc32).toArray) w4.heap.size 139 KW) := Lib.hid (setRow_heap _ _ _ _ _ _ hal)
  have HP5 := Lib.hid ((HP3.out.to hb4).to hb5)
  have HR5 := Lib.hid ((HR3.out.to hb4).to hb5)
  have HO5 := Lib.hid ((HO.out.to hb4).to hb5)
  have HB5 := Lib.hid ((HB3.out.trans (hb4.mono HB3.out.size)).trans (hb5.mono (Nat.le_trans HB3.out.size hb4.size)))
  have HOC : Hid (O < w4.heap.size) := Lib.hid (HO.out.to hb4).lt
  clear HP3 HR3 HB3 HO hb4 hb5 HRD
  unfold wordsV
  go_upto_region 3 with (first
    | (refine wpList_store_row rfl 139 (.tmp 6) (.tmp 16) rfl w4.heap.size (KW.map enc32).toArray rfl rfl 139 _ hal (by rw [HSZ.out]; kernel_rfl) (by rw [HSZ.out]; rfl) HONE.out ?_)
    | fail)
  generalize hw3 : World.setRow (World.alloc w4 _) _ _ = w5
  have hw4 : ((w4.alloc (.cells ((List.replicate 64 (0 : W32)).map enc32).toArray 139)).setRow w4.heap.size (KW.map enc32).toArray) = w5 := hw3
  rw [hw4] at HC HP5 HR5 HB5 HO5
  clear hw3 hw4 hal HSZ HONE
  generalize w4.heap.size = C at *
  have hp5 := HP5.out
  unfold WBox at hp5
  have hal : ((w5.alloc (.cells ((List.replicate 8 (0 : W32)).map enc32).toArray 96))).heap[w5.heap.size]? = some (.cells ((List.replicate 8 (0 : W32)).map enc32).toArray 96 (0, 0)) := heap_alloc_new w5 _
  have hb6 : Below w5.heap.size w5 ((w5.alloc (.cells ((List.replicate 8 (0 : W32)).map enc32).toArray 96)).setRow w5.heap.size (([h0, h1, h2, h3, h4, h5, h6, h7] : List W32).map enc32).toArray) := below_setRow ((Below.refl _ _).alloc (Nat.le_refl _) _) (Nat.le_refl _) _
  have HRB : Hid (RB w ((w5.alloc (.cells ((List.replicate 8 (0 : W32)).map enc32).toArray 96)).setRow w5.heap.size (([h0, h1, h2, h3, h4, h5, h6, h7] : List W32).map enc32).toArray) w.heap.size (w.heap.size + 1) O C w5.heap.size [h0, h1, h2, h3, h4, h5, h6, h7] ws [h0, h1, h2, h3, h4, h5, h6, h7]) := Lib.hid
    ⟨rfl, rfl, HOR.out, HOC.out, HC.out.lt, HP5.out.to hb6, HR5.out.to hb6, HO5.out.to hb6, HC.out.to hb6, setRow_heap _ _ _ _ _ _ hal, HB5.out.trans (hb6.mono HB5.out.size)⟩
  have HONE := Lib.hid (words_one [h0, h1, h2, h3, h4, h5, h6, h7])
  have HHL : Hid (([h0, h1, h2, h3, h4, h5, h6, h7] : List W32).length = 8) := Lib.hid rfl
  clear HP5 HR5 HB5 HO5 HC HOR HOC hb6
  go_upto_region 4 with (first
    | (refine wpList_load_row rfl 96 (.tmp 2) rfl w.heap.size ?_ 96 (([h0, h1, h2, h3, h4, h5, h6, h7] : List W32).map enc32).toArray (0, 0) _ hp5 Tryd.underlying96 ?_ ?_ ?_; rfl; rfl; kernel_rfl)
    | (refine wpList_store_row rfl 96 (.tmp 7) (.tmp 17) rfl w5.heap.size (([h0, h1, h2, h3, h4, h5, h6, h7] : List W32).map enc32).toArray ?_ ?_ 96 _ hal (by kernel_rfl) rfl HONE.out ?_; rfl; rfl)
    | fail)
  generalize hw3 : World.setRow (World.alloc w5 _) _ _ = w6
  have hw4 : ((w5.alloc (.cells ((List.replicate 8 (0 : W32)).map enc32).toArray 96)).setRow w5.heap.size (([h0, h1, h2, h3, h4, h5, h6, h7] : List W32).map enc32).toArray) = w6 := hw3
  rw [hw4] at HRB
  clear hw3 hw4 hal hp5 HONE
  generalize w5.heap.size = V at *
  obtain ⟨P, hP⟩ : ∃ P, P = w.heap.size := ⟨_, rfl⟩
  obtain ⟨R, hR⟩ : ∃ R, R = w.heap.size + 1 := ⟨_, rfl⟩
  rw [← hR, ← hP] at HRB ⊢
  clear hR hP
  go_wp2_with fail
  obtain ⟨hv, hhv⟩ : ∃ hv : List W32, hv = [h0, h1, h2, h3, h4, h5, h6, h7] := ⟨_, rfl⟩
  have HBL2 : Hid (blk [h0, h1, h2, h3, h4, h5, h6, h7] b = List.zipWith (· + ·) hv (rnds hv ws 64)) := Lib.hid (by rw [hhv]; exact HBLK.out)
  rw [← hhv] at HRB HHL
  clear hhv HBLK
  go_loopw [8, 9, 10, 11, 12] (fun i _ _ _ _ wr => ∃ k : Nat, k ≤ 64 ∧ i = .int .i64 k ∧ Hid (RB w wr P R O C V hv ws (rnds hv ws k))) (fun i _ _ _ _ _ => 64 - (intOf i).toNat)
  case atStart => exact ⟨0, by omega, rfl, HRB⟩
  case round =>
    obtain ⟨k, hk, rfl, HST⟩ := hrel
    by_cases hlt : k < 64
    · have hlt2 : (k : Int) < 64 := by omega
      have hk0 : (0 : Int) ≤ (k : Int) := by omega
      have HNX : Hid (rnds hv ws (k + 1) = rnd (rnds hv ws k) (BitVec.ofNat 32 (KS.getD k 0)) (ws.getD k 0)) := Lib.hid rfl
      obtain ⟨a8, b8, c8, d8, e8, f8, g8, h8, hx8⟩ := list8 (rnds_length HHL.out ws k)
      rw [hx8] at HST HNX
      clear hx8
      have HCK : Hid (∀ W, RB w W P R O C V hv ws [a8, b8, c8, d8, e8, f8, g8, h8] → W.cell? ⟨O, k, none⟩ = some (.int .u32 (u (ws.getD k 0))) ∧ W.cell? ⟨C, k, none⟩ = some (.int .u32 (u (BitVec.ofNat 32 (KS.getD k 0))))) := Lib.hid (fun W h => ⟨h.o.cell k (by rw [HWL.out]; exact hlt), by rw [← KW_at k hlt]; exact h.k.cell k hlt⟩)
      generalize BitVec.ofNat 32 (KS.getD k 0) = kk at *
      generalize ws.getD k 0 = wk at *
      obtain ⟨v0, v1, v2, v3, v4, v5, v6, v7⟩ := HST.out.v.cells8
      have E6 := Lib.hid (fun W => rrot_any e8 6 (by omega) (by omega) W)
      have E11 := Lib.hid (fun W => rrot_any e8 11 (by omega) (by omega) W)
      have E25 := Lib.hid (fun W => rrot_any e8 25 (by omega) (by omega) W)
      have A2 := Lib.hid (fun W => rrot_any a8 2 (by omega) (by omega) W)
      have A13 := Lib.hid (fun W => rrot_any a8 13 (by omega) (by omega) W)
      have A22 := Lib.hid (fun W => rrot_any a8 22 (by omega) (by omega) W)
      go_upto_region 9 with (fail)
      clear v0 v1 v2 v3 v4 v5 v6 v7
      refine wp_region_calm (by kernel_rfl) (by kernel_rfl) ?_
      intro T5 hT5 f hf hg
      have v5 : ∀ d, (f d).cell? ⟨V, 5, none⟩ = some (.int .u32 (u f8)) := fun d => (HST.out.to (hf d)).v.cells8.2.2.2.2.2.1
      have v6 : ∀ d, (f d).cell? ⟨V, 6, none⟩ = some (.int .u32 (u g8)) := fun d => (HST.out.to (hf d)).v.cells8.2.2.2.2.2.2.1
      have v7 : ∀ d, (f d).cell? ⟨V, 7, none⟩ = some (.int .u32 (u h8)) := fun d => (HST.out.to (hf d)).v.cells8.2.2.2.2.2.2.2
      have vw : ∀ d, (f d).cell? ⟨O, k, none⟩ = some (.int .u32 (u wk)) := fun d => (HCK.out _ (HST.out.to (hf d))).1
      have vk : ∀ d, (f d).cell? ⟨C, k, none⟩ = some (.int .u32 (u kk)) := fun d => (HCK.out _ (HST.out.to (hf d))).2
      have HT1 : Hid (∀ d, Calls Tryd.prog 106 #[.int .u32 (u e8), .int .i64 6] (f d) fun e w' => e = .returned (.int .u32 (u (rotr e8 6))) ∧ ∃ m, w' = f m) := Lib.hid (fun d => (E6.out (f d)).mono (by rintro e w' ⟨rfl, hb⟩; exact ⟨rfl, hg d w' hb⟩))
      have HT2 : Hid (∀ d, Calls Tryd.prog 106 #[.int .u32 (u e8), .int .i64 11] (f d) fun e w' => e = .returned (.int .u32 (u (rotr e8 11))) ∧ ∃ m, w' = f m) := Lib.hid (fun d => (E11.out (f d)).mono (by rintro e w' ⟨rfl, hb⟩; exact ⟨rfl, hg d w' hb⟩))
      have HT3 : Hid (∀ d, Calls Tryd.prog 106 #[.int .u32 (u e8), .int .i64 25] (f d) fun e w' => e = .returned (.int .u32 (u (rotr e8 25))) ∧ ∃ m, w' = f m) := Lib.hid (fun d => (E25.out (f d)).mono (by rintro e w' ⟨rfl, hb⟩; exact ⟨rfl, hg d w' hb⟩))
      have HF5 := Lib.hid hf
      clear hf hg
      have q1 := u_xor (rotr e8 6) (rotr e8 11)
      have q2 := u_xor (rotr e8 6 ^^^ rotr e8 11) (rotr e8 25)
      rw [show rotr e8 6 ^^^ rotr e8 11 ^^^ rotr e8 25 = bg1 e8 from rfl] at q2
      have q3 := u_addm h8 (bg1 e8)
      have q4 := u_and e8 f8
      have q5 := u_notX e8
      have q6 := u_and (~~~e8) g8
      have q6b := u_xor (e8 &&& f8) (~~~e8 &&& g8)
      rw [ch_eq] at q6b
      have q7 := u_addm (h8 + bg1 e8) (chW e8 f8 g8)
      have q8 := u_addm (h8 + bg1 e8 + chW e8 f8 g8) kk
      have q9 := u_addm (h8 + bg1 e8 + chW e8 f8 g8 + kk) wk
      obtain ⟨one, hone⟩ : ∃ x, x = h8 + bg1 e8 + chW e8 f8 g8 + kk + wk := ⟨_, rfl⟩
      have HR9 : Hid (rnd [a8, b8, c8, d8, e8, f8, g8, h8] kk wk = [one + (bg0 a8 + majW a8 b8 c8), a8, b8, c8, d8 + one, e8, f8, g8]) := Lib.hid (by rw [hone]; rfl)
      rw [← hone] at q9
      clear hone
      generalize h8 + bg1 e8 + chW e8 f8 g8 + kk = y1 at *
      generalize h8 + bg1 e8 + chW e8 f8 g8 = y2 at *
      generalize h8 + bg1 e8 = y3 at *
      generalize chW e8 f8 g8 = y4 at *
      generalize (~~~e8 &&& g8) = y5 at *
      generalize e8 &&& f8 = y6 at *
      generalize ~~~e8 = y9 at *
      generalize bg1 e8 = y7 at *
      generalize rotr e8 6 ^^^ rotr e8 11 = y8 at *
      repeat (go_big_quiet_step (first
        | (go_at_call 106; with_reducible refine Calls.mono (HT1.out _) ?_; rintro e w6 ⟨rfl, hm⟩; exact ⟨rfl, hm⟩)
        | (go_at_call 106; with_reducible refine Calls.mono (HT2.out _) ?_; rintro e w6 ⟨rfl, hm⟩; exact ⟨rfl, hm⟩)
        | (go_at_call 106; with_reducible refine Calls.mono (HT3.out _) ?_; rintro e w6 ⟨rfl, hm⟩; exact ⟨rfl, hm⟩)))
      refine wpQuiet_nil ?_
      rintro _ ⟨nq, rfl⟩
      rw [q9]
      have HST2 := Lib.hid (HST.out.to (HF5.out nq))
      clear HF5 v5 v6 v7 vw vk HST q1 q2 q3 q4 q5 q6 q6b q7 q8 q9 HT1 HT2 HT3 E6 E11 E25 HCK
      generalize f nq = wd at *
      unfold Exit.then
      go_upto_region 10 with (fail)
      refine wp_region_calm (by kernel_rfl) (by kernel_rfl) ?_
      intro T6 hT6 f hf hg
      have v1 : ∀ d, (f d).cell? ⟨V, 1, none⟩ = some (.int .u32 (u b8)) := fun d => (HST2.out.to (hf d)).v.cells8.2.1
      have v2 : ∀ d, (f d).cell? ⟨V, 2, none⟩ = some (.int .u32 (u c8)) := fun d => (HST2.out.to (hf d)).v.cells8.2.2.1
      have HT1 : Hid (∀ d, Calls Tryd.prog 106 #[.int .u32 (u a8), .int .i64 2] (f d) fun e w' => e = .returned (.int .u32 (u (rotr a8 2))) ∧ ∃ m, w' = f m) := Lib.hid (fun d => (A2.out (f d)).mono (by rintro e w' ⟨rfl, hb⟩; exact ⟨rfl, hg d w' hb⟩))
      have HT2 : Hid (∀ d, Calls Tryd.prog 106 #[.int .u32 (u a8), .int .i64 13] (f d) fun e w' => e = .returned (.int .u32 (u (rotr a8 13))) ∧ ∃ m, w' = f m) := Lib.hid (fun d => (A13.out (f d)).mono (by rintro e w' ⟨rfl, hb⟩; exact ⟨rfl, hg d w' hb⟩))
      have HT3 : Hid (∀ d, Calls Tryd.prog 106 #[.int .u32 (u a8), .int .i64 22] (f d) fun e w' => e = .returned (.int .u32 (u (rotr a8 22))) ∧ ∃ m, w' = f m) := Lib.hid (fun d => (A22.out (f d)).mono (by rintro e w' ⟨rfl, hb⟩; exact ⟨rfl, hg d w' hb⟩))
      have HF5 := Lib.hid hf
      clear hf hg
      have q1 := u_xor (rotr a8 2) (rotr a8 13)
      have q2 := u_xor (rotr a8 2 ^^^ rotr a8 13) (rotr a8 22)
      rw [show rotr a8 2 ^^^ rotr a8 13 ^^^ rotr a8 22 = bg0 a8 from rfl] at q2
      have q3 := u_and a8 b8
      have q4 := u_and a8 c8
      have q5 := u_xor (a8 &&& b8) (a8 &&& c8)
      have q6 := u_and b8 c8
      have q6b := u_xor ((a8 &&& b8) ^^^ (a8 &&& c8)) (b8 &&& c8)
      rw [maj_eq] at q6b
      have q7 := u_addm (bg0 a8) (majW a8 b8 c8)
      generalize bg0 a8 + majW a8 b8 c8 = two at *
      generalize majW a8 b8 c8 = z1 at *
      generalize (a8 &&& b8) ^^^ (a8 &&& c8) = z2 at *
      generalize a8 &&& b8 = z3 at *
      generalize a8 &&& c8 = z4 at *
      generalize b8 &&& c8 = z7 at *
      generalize bg0 a8 = z5 at *
      generalize rotr a8 2 ^^^ rotr a8 13 = z6 at *
      repeat (go_big_quiet_step (first
        | (go_at_call 106; with_reducible refine Calls.mono (HT1.out _) ?_; rintro e w6 ⟨rfl, hm⟩; exact ⟨rfl, hm⟩)
        | (go_at_call 106; with_reducible refine Calls.mono (HT2.out _) ?_; rintro e w6 ⟨rfl, hm⟩; exact ⟨rfl, hm⟩)
        | (go_at_call 106; with_reducible refine Calls.mono (HT3.out _) ?_; rintro e w6 ⟨rfl, hm⟩; exact ⟨rfl, hm⟩)))
      refine wpQuiet_nil ?_
      rintro _ ⟨nq, rfl⟩
      rw [q7]
      have HST3 := Lib.hid (HST2.out.to (HF5.out nq))
      clear HF5 v1 v2 HST2 q1 q2 q3 q4 q5 q6 q6b q7 HT1 HT2 HT3 A2 A13 A22
      generalize f nq = we at *
      unfold Exit.then
      obtain ⟨v0, v1, v2, v3, v4, v5, v6, v7⟩ := HST3.out.v.cells8
      have hvv := HST3.out.v
      unfold WBox at hvv
      have q1 := u_addm one two
      have q2 := u_addm d8 one
      generalize one + two = x1 at *
      generalize d8 + one = x2 at *
      have HN := Lib.hid (HST3.out.rowV [x1, a8, b8, c8, x2, e8, f8, g8] ⟨_, hvv⟩)
      have HON := Lib.hid (words_one [x1, a8, b8, c8, x2, e8, f8, g8])
      go_wp2_with (first
        | (refine wpList_store_row rfl 96 (.tmp 7) (.tmp 97) rfl V (([x1, a8, b8, c8, x2, e8, f8, g8] : List W32).map enc32).toArray ?_ ?_ 96 _ hvv (by kernel_rfl) rfl HON.out ?_; rfl; rfl)
        | fail)
      go_roundw
      case rel => exact ⟨k + 1, by omega, by go_num, by rw [HNX.out, HR9.out]; exact HN⟩
      case measure => simp [intOf]; omega
    · obtain rfl : k = 64 := by omega
      have HVL := Lib.hid (rnds_length HHL.out ws 64)
      have HBK : Hid (blk [h0, h1, h2, h3, h4, h5, h6, h7] b = addTo hv (rnds hv ws 64) 8) := Lib.hid (by rw [addTo_8 HHL.out HVL.out]; exact HBL2.out)
      obtain ⟨vs, hvs⟩ : ∃ vs, vs = rnds hv ws 64 := ⟨_, rfl⟩
      rw [← hvs] at HST HVL HBK
      clear hvs HBL2
      go_wp2_with fail
      go_loopw [13] (fun i wr => ∃ k : Nat, k ≤ 8 ∧ i = .int .i64 k ∧ Hid (RB w wr P R O C V (addTo hv vs k) ws vs)) (fun i _ => 8 - (intOf i).toNat)
      case atStart => exact ⟨0, by omega, rfl, HST⟩
      case round =>
        obtain ⟨k, hk, rfl, hst⟩ := hrel
        by_cases hlt : k < 8
        · have hlt2 : (k : Int) < 8 := by omega
          have hk0 : (0 : Int) ≤ (k : Int) := by omega
          have HQ1 : Hid (∀ w', RB w w' P R O C V (addTo hv vs k) ws vs → w'.cell? ⟨P, k, none⟩ = some (.int .u32 (u (hv.getD k 0))) ∧ w'.cell? ⟨V, k, none⟩ = some (.int .u32 (u (vs.getD k 0))) ∧ ∀ o, w'.frozen? ⟨P, o, none⟩ = false) := Lib.hid (fun w' h => by
            refine ⟨?_, h.v.cell k (by rw [HVL.out]; exact hlt), h.h.fz⟩
            rw [← addTo_ge hv vs k k (Nat.le_refl _)]; exact h.h.cell k (by rw [addTo_length, HHL.out]; exact hlt))
          have HQ3 : Hid (addTo hv vs (k + 1) = (addTo hv vs k).set k (hv.getD k 0 + vs.getD k 0)) := Lib.hid rfl
          generalize hv.getD k 0 = x at *
          generalize vs.getD k 0 = y at *
          go_upto_region 15 with (fail)
          refine wp_region_tail rfl (by kernel_rfl) (by kernel_rfl) ?_
          intro T5 hT5 f hf hg
          have a0 := fun d => (HQ1.out _ (hst.out.to (hf d))).1
          have a1 := fun d => (HQ1.out _ (hst.out.to (hf d))).2.1
          have HF5 := Lib.hid hf
          have q1 := u_addm x y
          clear hf hg
          dsimp only [List.dropLast]
          repeat (go_big_quiet_step (fail))
          refine wpQuiet_nil ?_
          rintro _ ⟨nq, rfl⟩
          refine ⟨rfl, ?_⟩
          have hst1 := Lib.hid (hst.out.to (HF5.out nq))
          have hst2 := Lib.hid (hst1.out.setH k (x + y))
          rw [← HQ3.out] at hst2
          obtain ⟨b0, _, bf⟩ := HQ1.out _ hst1.out
          clear HF5 a0 a1 hst HQ1 HQ3
          generalize f nq = wd at *
          generalize x + y = z at *
          go_simp
          clear b0 bf q1 hst1
          generalize wd.setCell ⟨P, k, none⟩ (.int .u32 (u z)) = wd1 at *
          go_wp2_with fail
          go_roundw
          case rel => exact ⟨.int .i64 ((k : Int) + 1), _, _, _, _, _, _, _, _, _, _, _, _, _, ⟨k + 1, by omega, by go_num, hst2⟩, rfl⟩
          case measure => simp [intOf]; omega
        · obtain rfl : k = 8 := by omega
          have hq := hst.out.r
          have hq2 := hst.out.h
          unfold WBox at hq hq2
          have HSZ : Hid (((addTo hv vs 8).map enc32).toArray.size = 8) := Lib.hid (by rw [words_size, addTo_length, HHL.out])
          have HONE := Lib.hid (words_one (addTo hv vs 8))
          have HX := Lib.hid (setRow_heap _ R _ ((addTo hv vs 8).map enc32).toArray _ _ hq)
          have HBE := Lib.hid (below_setRow hst.out.b (R := R) (by have := hst.out.eR; omega) ((addTo hv vs 8).map enc32).toArray)
          have HRE : Hid (wordsV (blk [h0, h1, h2, h3, h4, h5, h6, h7] b) = .agg ((addTo hv vs 8).map enc32).toArray) := Lib.hid (by rw [HBK.out]; rfl)
          generalize ((addTo hv vs 8).map enc32).toArray = cs at *
          go_wp2_with (first
            | (refine wpList_load_row rfl 96 (.tmp 2) rfl P ?_ 96 cs (0, 0) _ hq2 Tryd.underlying96 ?_ ?_ ?_; rfl; rfl; (rw [HSZ.out]; kernel_rfl))
            | (refine wpList_store_row rfl 96 (.tmp 4) (.tmp 111) rfl R cs ?_ ?_ 96 _ hq (by rw [HSZ.out]; kernel_rfl) (by rw [HSZ.out]; rfl) HONE.out ?_; rfl; rfl)
            | fail)
          exact bodyPost_ret (v := .agg cs) (results_cell_row Tryd.results102 _ _ R _ cs (0, 0) _ rfl HX.out Tryd.underlying96 rfl (by rw [HSZ.out]; kernel_rfl)) rfl ⟨by rw [HRE.out], HBE.out⟩
end Go.Proofs.YthcklfelofpffaaDoor
namespace Go.Proofs.YthcklfelofpffaaDoor
open Go.RowKit
structure KB (w wr : World) (P R : Nat) (hv : List W32) : Prop where
  eP : P = w.heap.size ∨ P > w.heap.size
  eR : R = w.heap.size
  ne : P ≠ R
  h : WBox wr P 96 hv
  r : WBox wr R 96 (List.replicate 8 0)
  b : Below w.heap.size w wr
theorem KB.to {w wr w' : World} {P R : Nat} {hv : List W32} (h : KB w wr P R hv) (hb : Below wr.heap.size wr w') : KB w w' P R hv := ⟨h.eP, h.eR, h.ne, h.h.to hb, h.r.to hb, h.b.trans (hb.mono h.b.size)⟩
theorem KB.rowH {w wr : World} {P R : Nat} {hv : List W32} (h : KB w wr P R hv) (hv' : List W32) : KB w (wr.setRow P (hv'.map enc32).toArray) P R hv' :=
  ⟨h.eP, h.eR, h.ne, setRow_heap _ _ _ _ _ _ h.h, (setRow_other _ _ _ _ (Ne.symm h.ne)).trans h.r, below_setRow h.b (by have := h.eP; omega) _⟩
theorem sl_cut {w : World} {S : Nat → Prop} {bA oA c : Nat} {l : List UInt8} (h : Sl w S (some ⟨bA, oA, none⟩) c l) (i n : Nat) (hi : i + n ≤ l.length) (hn : 0 < n) : Sl w S (some ⟨bA, oA + i, none⟩) (c - i) ((l.drop i).take n) := by
  have hd := (h.drop i (by omega)).take n (by rw [List.length_drop]; omega)
  have hc : ¬ c = i := by have := h.1; omega
  rw [if_neg hc] at hd
  have e : Option.map (fun x => x.add (i * Rep.size UInt8)) (some (⟨bA, oA, none⟩ : Addr)) = some ⟨bA, oA + i, none⟩ := by
    rw [Option.map_some, addr_add]; simp [Rep.size]
  rw [e] at hd
  exact hd
theorem blks_step (b : List UInt8) (k : Nat) (h : 64 * k + 64 ≤ b.length) : blks H0 b (k + 1) = blk (blks H0 b k) ((b.drop (64 * k)).take 64) := by
  rw [blks]
  refine blk_cong _ fun j hj => ?_
  rw [List.getD_eq_getElem?_getD, List.getD_eq_getElem?_getD, List.getElem?_take_of_lt hj]
set_option maxRecDepth 100000 in
set_option maxHeartbeats 4000000 in
theorem rblocks_any (b : List UInt8) (A : Option Addr) (c : Nat) (w : World) (hs : Sl w (fun b => b < w.heap.size) A c b) (hsz : b.length ≤ 1073742000) :
    Calls Tryd.prog 90 #[.slice A b.length c] w fun e w' => e = .returned (wordsV (blks H0 b (b.length / 64))) ∧ Below w.heap.size w w' := by
  have HS := Lib.hid hs
  have hcap : b.length ≤ c := hs.1
  have hcm : c ≤ 9223372036854775807 := by have := hs.2.1; unfold maxLen at this; omega
  have hb1 : Below w.heap.size w (w.alloc (.cells ((List.replicate 8 (0 : W32)).map enc32).toArray 96)) := (Below.refl _ _).alloc (Nat.le_refl _) _
  have HR : Hid (WBox (w.alloc (.cells ((List.replicate 8 (0 : W32)).map enc32).toArray 96)) w.heap.size 96 (List.replicate 8 0)) := Lib.hid (heap_alloc_new w _)
  have HB := Lib.hid hb1
  have HFI := Lib.hid (first_any (w.alloc (.cells ((List.replicate 8 (0 : W32)).map enc32).toArray 96)))
  clear hs hb1
  go_enter Tryd.func90, Tryd.ntmps90
  go_upto_region 1 with (fail)
  generalize hw1 : World.alloc w _ = w1
  have hw2 : w.alloc (.cells ((List.replicate 8 (0 : W32)).map enc32).toArray 96) = w1 := hw1
  rw [hw2] at HR HB HFI
  clear hw1 hw2
  go_wp2_with fail
  refine HFI.out.mono ?_
  rintro e w2 ⟨rfl, hb2⟩
  have hal := heap_alloc_new w2 (.cells ((List.replicate 8 (0 : W32)).map enc32).toArray 96)
  have hb3 : Below w2.heap.size w2 ((w2.alloc (.cells ((List.replicate 8 (0 : W32)).map enc32).toArray 96)).setRow w2.heap.size (H0.map enc32).toArray) := below_setRow ((Below.refl _ _).alloc (Nat.le_refl _) _) (Nat.le_refl _) _
  have HST0 : Hid (KB w ((w2.alloc (.cells ((List.replicate 8 (0 : W32)).map enc32).toArray 96)).setRow w2.heap.size (H0.map enc32).toArray) w2.heap.size w.heap.size (blks H0 b 0)) := Lib.hid
    ⟨by have := (HR.out.to hb2).lt; omega, rfl, by have := (HR.out.to hb2).lt; omega, setRow_heap _ _ _ _ _ _ hal, (HR.out.to hb2).to hb3, (HB.out.trans (hb2.mono HB.out.size)).trans (hb3.mono (Nat.le_trans HB.out.size hb2.size))⟩
  have HONE := Lib.hid (words_one H0)
  clear hb2 hb3 HR HB HFI
  unfold wordsV
  go_upto_region 2 with (first
    | (refine wpList_store_row rfl 96 (.tmp 3) (.tmp 5) rfl w2.heap.size (H0.map enc32).toArray rfl rfl 96 _ hal (by kernel_rfl) rfl HONE.out ?_)
    | fail)
  generalize hw3 : World.setRow (World.alloc w2 _) _ _ = w3
  have hw4 : ((w2.alloc (.cells ((List.replicate 8 (0 : W32)).map enc32).toArray 96)).setRow w2.heap.size (H0.map enc32).toArray) = w3 := hw3
  rw [hw4] at HST0
  clear hw3 hw4 hal HONE
  generalize w2.heap.size = P at *
  obtain ⟨R, hR⟩ : ∃ R, R = w.heap.size := ⟨_, rfl⟩
  rw [← hR] at HST0 ⊢
  clear hR
  go_wp2_with fail
  go_loopw [4] (fun i wr => ∃ k : Nat, 64 * k ≤ b.length ∧ i = .int .i64 (64 * (k : Int)) ∧ Hid (KB w wr P R (blks H0 b k))) (fun i _ => b.length - (intOf i).toNat)
  case atStart => exact ⟨0, by omega, rfl, HST0⟩
  case round =>
    obtain ⟨k, hk, rfl, HST⟩ := hrel
    by_cases hlt : 64 * k + 64 ≤ b.length
    · obtain ⟨bA, oA, rfl, _⟩ := HS.out.2.2 (by omega)
      have hlt2 : 64 * (k : Int) + 64 ≤ (b.length : Int) := by omega
      have hk0 : (0 : Int) ≤ 64 * (k : Int) := by omega
      have hwa : IntKind.i64.wrap (64 * (k : Int) + 64) = 64 * (k : Int) + 64 := by rw [IntWalk.i64_in _ (by omega)]
      have HNX := Lib.hid (blks_step b k hlt)
      have HL1 := Lib.hid (blks_length (h := H0) rfl b k)
      have HL2 := Lib.hid (blks_length (h := H0) rfl b (k + 1))
      obtain ⟨x0, x1, x2, x3, x4, x5, x6, x7, hx8⟩ := list8 HL1.out
      have HBK : Hid (∀ W, Below wr.heap.size wr W → Calls Tryd.prog 102 #[.agg ((blks H0 b k).map enc32).toArray, .slice (some ⟨bA, oA + 64 * k, none⟩) 64 (c - 64 * k)] W fun e w' => e = .returned (.agg ((blks H0 b (k + 1)).map enc32).toArray) ∧ Below W.heap.size W w') := Lib.hid (fun W hW => by
        have hsl := sl_cut (HS.out.to (HST.out.b.trans (hW.mono HST.out.b.size))) (64 * k) 64 (by omega) (by omega)
        have hln : ((b.drop (64 * k)).take 64).length = 64 := by rw [List.length_take, List.length_drop]; omega
        have h := rblock_any x0 x1 x2 x3 x4 x5 x6 x7 ((b.drop (64 * k)).take 64) _ _ W hsl (by omega)
        rw [hln, ← hx8, ← HNX.out] at h
        rw [hx8]
        exact h)
      clear hx8
      obtain ⟨hc, hhc⟩ : ∃ hc, hc = blks H0 b k := ⟨_, rfl⟩
      obtain ⟨hc2, hhc2⟩ : ∃ hc, hc = blks H0 b (k + 1) := ⟨_, rfl⟩
      have HNX : Hid (blks H0 b (k + 1) = hc2) := Lib.hid hhc2.symm
      rw [← hhc] at HST HBK HL1
      rw [← hhc2] at HBK HL2
      clear hhc hhc2
      have HSZ : Hid ((hc.map enc32).toArray.size = 8) := Lib.hid (by rw [words_size, HL1.out])
      have HSZ2 : Hid ((hc2.map enc32).toArray.size = 8) := Lib.hid (by rw [words_size, HL2.out])
      have hHeld : wr.drew.heap[P]? = some (.cells (hc.map enc32).toArray 96 (0, 0)) := HST.out.h
      have hI0 : (0 : Int) ≤ 64 * (k : Int) + 64 := by omega
      have hI1 : 64 * (k : Int) + 64 ≤ (c : Int) := by omega
      have hI2 : 64 * (k : Int) ≤ 64 * (k : Int) + 64 := by omega
      have hle1 : 64 * k ≤ 64 * k + 64 := by omega
      have hle2 : 64 * k + 64 ≤ c := by omega
      have hsub : 64 * k + 64 - 64 * k = 64 := by omega
      have hne : ¬ c = 64 * k := by omega
      have hn1 : (64 * (k : Int)).toNat = 64 * k := by omega
      have hn2 : (64 * (k : Int) + 64).toNat = 64 * k + 64 := by omega
      go_upto_region 5 with (fail)
      refine wp_region_D (fun w' => w'.heap[P]? = some (.cells (hc.map enc32).toArray 96 (0, 0))) (fun i => decide (i < 6)) (by kernel_rfl) ?_
      have hb0 : Hid (Below wr.heap.size wr wr.drew) := Lib.hid (Below.refl _ _).drew
      generalize wr.drew = W0 at *
      refine wpAnyE_take (i := 0) (oi := ⟨some 13, Op.load 96 (Operand.tmp 3), 96, _, _, _⟩) (v := ?_) rfl (by kernel_rfl) (by kernel_rfl) (by kernel_rfl) (by kernel_rfl) (by kernel_rfl) (fun _ _ _ h => h) (by rfl) ?hykr5_1 (hHeld) ?hrkr5_1
      case hykr5_1 => (intro wS hSw; refine exec_load_row 96 (.tmp 3) ?_ P ?_ 96 (hc.map enc32).toArray (0, 0) _ hSw Tryd.underlying96 ?_ ?_; rfl; rfl; rfl; (rw [HSZ.out]; kernel_rfl))
      all_goals try simp only [Act.put, List.setIfInBounds_toArray, List.set_cons_zero, List.set_cons_succ]
      refine wpAnyE_take (i := 1) (oi := ⟨some 14, Op.move (Operand.tmp 0), 59, _, _, _⟩) (v := ?_) rfl (by kernel_rfl) (by kernel_rfl) (by kernel_rfl) (by kernel_rfl) (by kernel_rfl) (fun _ _ _ h => h) (by rfl) ?hykr5_2 (hHeld) ?hrkr5_2
      case hykr5_2 => (intro wS hSw; clear hSw; go_simp; (try with_reducible rfl))
      all_goals try simp only [Act.put, List.setIfInBounds_toArray, List.set_cons_zero, List.set_cons_succ]
      refine wpAnyE_take (i := 2) (oi := ⟨some 15, Op.move (Operand.tmp 4), 3, _, _, _⟩) (v := ?_) rfl (by kernel_rfl) (by kernel_rfl) (by kernel_rfl) (by kernel_rfl) (by kernel_rfl) (fun _ _ _ h => h) (by rfl) ?hykr5_3 (hHeld) ?hrkr5_3
      case hykr5_3 => (intro wS hSw; clear hSw; go_simp; (try with_reducible rfl))
      all_goals try simp only [Act.put, List.setIfInBounds_toArray, List.set_cons_zero, List.set_cons_succ]
      refine wpAnyE_take (i := 3) (oi := ⟨some 16, Op.move (Operand.tmp 4), 3, _, _, _⟩) (v := ?_) rfl (by kernel_rfl) (by kernel_rfl) (by kernel_rfl) (by kernel_rfl) (by kernel_rfl) (fun _ _ _ h => h) (by rfl) ?hykr5_4 (hHeld) ?hrkr5_4
      case hykr5_4 => (intro wS hSw; clear hSw; go_simp; (try with_reducible rfl))
      all_goals try simp only [Act.put, List.setIfInBounds_toArray, List.set_cons_zero, List.set_cons_succ]
      refine wpAnyE_take (i := 4) (oi := ⟨some 17, Op.binOp BinOp.add 3 (Operand.tmp 16) (Operand.const (Value.int IntKind.i64 64)) 3, 3, _, _, _⟩) (v := ?_) rfl (by kernel_rfl) (by kernel_rfl) (by kernel_rfl) (by kernel_rfl) (by kernel_rfl) (fun _ _ _ h => h) (by rfl) ?hykr5_5 (hHeld) ?hrkr5_5
      case hykr5_5 => (intro wS hSw; clear hSw; go_simp; (try with_reducible rfl))
      all_goals try simp only [Act.put, List.setIfInBounds_toArray, List.set_cons_zero, List.set_cons_succ]
      refine wpAnyE_take (i := 5) (oi := ⟨some 18, Op.slice 59 (Operand.tmp 14) (some (Operand.tmp 15)) (some (Operand.tmp 17)) none, 59, _, _, _⟩) (v := ?_) rfl (by kernel_rfl) (by kernel_rfl) (by kernel_rfl) (by kernel_rfl) (by kernel_rfl) (fun _ _ _ h => h) (by rfl) ?hykr5_6 (hHeld) ?hrkr5_6
      case hykr5_6 => (intro wS hSw; clear hSw; go_simp; (try with_reducible rfl))
      all_goals try simp only [Act.put, List.setIfInBounds_toArray, List.set_cons_zero, List.set_cons_succ]
      refine wpAnyD_one (i := 6) (oi := ⟨some 19, Op.call { callee := Callee.value (Operand.func 102), args := #[Operand.tmp 13, Operand.tmp 18], argTypes := #[96, 59] }, 96, _, _, _⟩) rfl (by kernel_rfl) (by rfl) (fun K hK => ?_)
      go_simp
      go_at_call 102
      refine (HBK.out W0 hb0.out).mono ?_
      rintro e W2 ⟨rfl, hb2⟩
      have HST2 := Lib.hid (HST.out.to (hb0.out.trans (hb2.mono hb0.out.size)))
      have hq := HST2.out.h
      unfold WBox at hq
      go_simp
      refine hK _ _ (fun _ => ?_) ?_
      · exact HST2.out.h
      clear hK K
      try simp only [Act.put, List.setIfInBounds_toArray, List.set_cons_zero, List.set_cons_succ]
      refine wpAnyD_one (i := 7) (oi := ⟨none, Op.store 96 (Operand.tmp 3) (Operand.tmp 19), 0, _, _, _⟩) rfl (by kernel_rfl) (by rfl) (fun K hK => ?_)
      refine wp_store_row 96 (.tmp 3) (.tmp 19) rfl P (hc2.map enc32).toArray ?_ ?_ 96 _ hq (by rw [HSZ2.out]; kernel_rfl) (by rw [HSZ.out, HSZ2.out]) (words_one _) ?_
      · rfl
      · rfl
      refine hK _ _ (fun h => absurd h (by decide)) ?_
      clear hK K
      try simp only [Act.put]
      refine wpAnyD_done (by kernel_rfl) ?_ _
      unfold Exit.then
      go_wp2_with fail
      go_roundw
      case rel => exact ⟨k + 1, by omega, by go_num, by rw [HNX.out]; exact Lib.hid (HST2.out.rowH hc2)⟩
      case measure => (simp [intOf]; omega)
    · have hlt2 : ¬ (64 * (k : Int) + 64 ≤ (b.length : Int)) := by omega
      have hwa : IntKind.i64.wrap (64 * (k : Int) + 64) = 64 * (k : Int) + 64 := by rw [IntWalk.i64_in _ (by omega)]
      have hkk : b.length / 64 = k := by omega
      have HKK := Lib.hid hkk
      have HL1 := Lib.hid (blks_length (h := H0) rfl b k)
      obtain ⟨hc, hhc⟩ : ∃ hc, hc = blks H0 b k := ⟨_, rfl⟩
      have HHC := Lib.hid hhc
      rw [← hhc] at HST HL1
      clear hhc hkk
      have hq := HST.out.r
      have hq2 := HST.out.h
      unfold WBox at hq hq2
      have HSZ : Hid ((hc.map enc32).toArray.size = 8) := Lib.hid (by rw [words_size, HL1.out])
      have HX := Lib.hid (setRow_heap _ R _ (hc.map enc32).toArray _ _ hq)
      have HBE := Lib.hid (below_setRow HST.out.b (R := R) (by have := HST.out.eR; omega) (hc.map enc32).toArray)
      have HONE := Lib.hid (words_one hc)
      have HRE : Hid (wordsV (blks H0 b (b.length / 64)) = .agg (hc.map enc32).toArray) := Lib.hid (by rw [HKK.out, ← HHC.out]; rfl)
      generalize (hc.map enc32).toArray = cs at *
      go_wp2_with (first
        | (refine wpList_load_row rfl 96 (.tmp 3) rfl P ?_ 96 cs (0, 0) _ hq2 Tryd.underlying96 ?_ ?_ ?_; rfl; rfl; (rw [HSZ.out]; kernel_rfl))
        | (refine wpList_store_row rfl 96 (.tmp 2) (.tmp 20) rfl R cs ?_ ?_ 96 _ hq (by rw [HSZ.out]; kernel_rfl) (by rw [HSZ.out]; rfl) HONE.out ?_; rfl; rfl)
        | fail)
      exact bodyPost_ret (v := .agg cs) (results_cell_row Tryd.results90 _ _ R _ cs (0, 0) _ rfl HX.out Tryd.underlying96 rfl (by rw [HSZ.out]; kernel_rfl)) rfl ⟨by rw [HRE.out], HBE.out⟩
end Go.Proofs.YthcklfelofpffaaDoor
namespace Go.Proofs.YthcklfelofpffaaDoor
open Go.RowKit
theorem box_push {α : Type} [Rep α] {w1 w2 : World} {B R : Nat} {e t : TypeId} {v : Value} {l : List α} {o : Obj} {cs : List Value} (hr : ABox w1 R t cs) (hown : Own w1 B e v l) (hg : (w1.alloc o).grownBy w2 v.ownBlock) (hb : R < B) : ABox w2 R t cs := (keep_push hown hg hb hr.lt).trans hr
theorem box_cat {α : Type} [Rep α] {w1 w2 : World} {B R : Nat} {e t : TypeId} {v : Value} {l : List α} {cs : List Value} (hr : ABox w1 R t cs) (hown : Own w1 B e v l) (hg : w1.grownBy w2 v.ownBlock) (hb : R < B) : ABox w2 R t cs := (keep_cat hown hg hb hr.lt).trans hr
set_option maxRecDepth 100000 in
set_option maxHeartbeats 4000000 in
theorem rsum_any (b : List UInt8) (A : Option Addr) (c : Nat) (w : World) (hs : Sl w (fun b => b < w.heap.size) A c b) (hsz : b.length ≤ 1073741800) :
    Calls Tryd.prog 70 #[.slice A b.length c] w fun e w' => e = .returned (hashV (sha b)) ∧ Below w.heap.size w w' := by
  have hb1 : Below w.heap.size w (w.alloc (.cells (zer32.map encB).toArray 29)) := (Below.refl _ _).alloc (Nat.le_refl _) _
  have HR : Hid (ABox (w.alloc (.cells (zer32.map encB).toArray 29)) w.heap.size 29 (zer32.map encB)) := Lib.hid (heap_alloc_new w _)
  have HB := Lib.hid hb1
  have HS1 : Hid (Sl (w.alloc (.cells (zer32.map encB).toArray 29)) (fun b => b < w.heap.size) A c b) := Lib.hid (hs.keep (Kept.below hb1 (fun _ h => h)) hb1.size)
  have HSZ1 : Hid ((w.alloc (.cells (zer32.map encB).toArray 29)).heap.size = w.heap.size + 1) := Lib.hid (by simp)
  clear hb1 hs
  go_enter Tryd.func70, Tryd.ntmps70
  go_upto_region 1 with (fail)
  generalize hw1 : World.alloc w _ = w1
  have hw2 : w.alloc (.cells (zer32.map encB).toArray 29) = w1 := hw1
  rw [hw2] at HR HB HS1 HSZ1
  clear hw1 hw2
  obtain ⟨R, hR⟩ : ∃ R, R = w.heap.size := ⟨_, rfl⟩
  have HRE := Lib.hid hR
  rw [← hR] at HR HSZ1 HS1 ⊢
  clear hR
  have HO0 : Hid (Own w1 (R + 1) 5 (.slice none 0 0) ([] : List UInt8)) := Lib.hid (Own.nil _ _ _)
  go_upto_region 3 with (first
    | (at_builtin; refine wpList_cat (α := UInt8) _ rfl (.tmp 9) (.tmp 10) 59 rfl (R + 1) 5 (.int .u8 0) 1 Tryd.underlying59 b_info rfl (by decide) (.slice none 0 0) [] rfl HO0.out A c b.length b rfl rfl (fun b => b < R) HS1.out (fun i _ _ e => by simp [Value.ownBlock] at e) (by simp; omega) (by simp; omega) (by rw [HSZ1.out]; exact Nat.le_refl _) ?_; intro v2 w2 hown2 hg2 hat2)
    | fail)
  have HO2 := Lib.hid hown2
  have HR2 := Lib.hid (box_cat HR.out HO0.out hg2 (Nat.lt_succ_self R))
  have HB2 := Lib.hid (below_cat HB.out (HO0.out.re (B := w.heap.size) (by rw [HRE.out]; omega)) HB.out.size hg2)
  clear hown2 hg2 hat2 HO0 HR HB HS1 HSZ1
  rw [List.nil_append] at HO2
  have HOA := Lib.hid (HO2.out.alloc (.cells #[.int .u8 128] 5))
  have HBS : Hid (R + 1 ≤ w2.heap.size) := Lib.hid HR2.out.lt
  go_upto_region 4 with (first
    | (at_builtin; refine wpList_push (α := UInt8) _ rfl (.tmp 12) (.tmp 13) 59 rfl (R + 1) 5 (.int .u8 0) 1 Tryd.underlying59 b_info rfl (by decide) v2 b rfl HOA.out w2.heap.size #[.int .u8 128] 128 (0, 0) 5 rfl (heap_alloc_new w2 _) rfl (by omega) (by omega) (by have := HBS.out; simp; omega) _ rfl ?_; intro g3 cap3 w3 hown3 hg3 ho3 hlt3)
    | fail)
  have HO3 : Hid (Own w3 (R + 1) 5 (.slice (some ⟨g3, 0, none⟩) (b.length + 1) cap3) (b ++ (128 :: List.replicate 0 0))) := Lib.hid hown3
  have HR3 := Lib.hid (box_push HR2.out HO2.out hg3 (Nat.lt_succ_self R))
  have HB3 := Lib.hid (below_push HB2.out (HO2.out.re (B := w.heap.size) (by rw [HRE.out]; omega)) HB2.out.size hg3)
  clear hown3 hg3 ho3 hlt3 HO2 HR2 HB2 HOA HBS
  obtain ⟨z, hz⟩ : ∃ z, z = (119 - b.length % 64) % 64 := ⟨_, rfl⟩
  have HPD : Hid (padOf b.length = 128 :: (List.replicate z 0 ++ be8 (b.length * 8))) := Lib.hid (by unfold padOf; rw [hz, Nat.mod_eq_of_lt (by omega : b.length * 8 < 18446744073709551616)])
  have HZ : Hid (z ≤ 63 ∧ (b.length + 1 + z) % 64 = 56 ∧ ∀ j, j < z → (b.length + 1 + j) % 64 ≠ 56) := Lib.hid ⟨by omega, by omega, fun j hj => by omega⟩
  clear hz
  go_loopw [3] (fun v wr => ∃ (j n : Nat) (A' : Option Addr) (c' : Nat), v = .slice A' n c' ∧ j ≤ z ∧ n = b.length + 1 + j ∧ Hid (Own wr (R + 1) 5 (.slice A' n c') (b ++ (128 :: List.replicate j 0))) ∧ Hid (ABox wr R 29 (zer32.map encB)) ∧ Hid (Below w.heap.size w wr)) (fun v _ => b.length + 200 - vlen v)
  case atStart => exact ⟨0, b.length + 1, some ⟨g3, 0, none⟩, cap3, rfl, Nat.zero_le _, rfl, HO3, HR3, HB3⟩
  case round =>
    obtain ⟨j, n, A', c', rfl, hj, hn, HO, HRr, HBr⟩ := hrel
    have hn63 : n ≤ 1073741900 := by have := HZ.out.1; omega
    by_cases hjz : j < z
    · have hc : ((n : Int) % 64 != 56) = true := by
        have := HZ.out.2.2 j hjz
        rw [← hn] at this
        rw [bne_iff_ne]; omega
      have HN : Hid (n = b.length + 1 + j) := Lib.hid hn
      have HL : Hid ((b ++ (128 :: List.replicate j 0) : List UInt8).length = n) := Lib.hid (by simp; omega)
      have HNX : Hid (b ++ (128 :: List.replicate (j + 1) 0) = (b ++ (128 :: List.replicate j 0)) ++ [(0 : UInt8)]) := Lib.hid (by rw [List.replicate_succ']; simp)
      obtain ⟨acc, hacc⟩ : ∃ a, a = (b ++ (128 :: List.replicate j 0) : List UInt8) := ⟨_, rfl⟩
      rw [← hacc] at HO HL HNX
      have HOA := Lib.hid (HO.out.alloc (.cells #[.int .u8 0] 5))
      clear hacc hn
      go_wp2_with (first
        | (at_builtin; refine wpList_push (α := UInt8) _ rfl (.tmp 19) (.tmp 20) 59 rfl (R + 1) 5 (.int .u8 0) 1 Tryd.underlying59 b_info rfl (by decide) (.slice A' n c') acc rfl HOA.out wr.heap.size #[.int .u8 0] 0 (0, 0) 5 rfl (heap_alloc_new wr _) rfl (by have := HL.out; omega) (by have := HL.out; omega) (by have := HRr.out.lt; simp; omega) _ rfl ?_; intro g5 cap5 w5 hown5 hg5 ho5 hlt5)
        | fail)
      have HO5 : Hid (Own w5 (R + 1) 5 (.slice (some ⟨g5, 0, none⟩) (n + 1) cap5) (b ++ (128 :: List.replicate (j + 1) 0))) := Lib.hid (by rw [HNX.out, ← HL.out]; exact hown5)
      have HLE : Hid (acc.length + 1 = n + 1) := Lib.hid (by rw [HL.out])
      rw [HLE.out]
      refine ⟨⟨j + 1, n + 1, _, _, rfl, by omega, by have := HN.out; omega, HO5, Lib.hid (box_push HRr.out HO.out hg5 (Nat.lt_succ_self R)), Lib.hid (below_push HBr.out (HO.out.re (B := w.heap.size) (by rw [HRE.out]; omega)) HBr.out.size hg5)⟩, ?_⟩
      show b.length + 200 - (n + 1) < b.length + 200 - n
      have := HN.out; have := HZ.out.1; omega
    · obtain rfl : j = z := by omega
      have hc : ((n : Int) % 64 != 56) = false := by
        have := HZ.out.2.1
        rw [← hn] at this
        rw [bne_eq_false_iff_eq]; omega
      obtain ⟨N, hN⟩ : ∃ N, N = b.length * 8 := ⟨_, rfl⟩
      have HO8 : Hid (Own wr (R + 1) 5 (.slice A' n c') (b ++ (128 :: (List.replicate j 0 ++ (be8 N).take 0)))) := Lib.hid (by simpa using HO.out)
      have hw9 : (b.length : Int) * 8 = (N : Int) := by omega
      have hw8 : IntKind.u64.wrap (N : Int) = (N : Int) := by rw [IntWalk.u64_in _ (by omega)]
      have HM9 : N ≤ 8589934592 := by omega
      have HZ0 := HZ.out.1
      have HNN := Lib.hid hN
      have HPE : Hid (b ++ padOf b.length = b ++ (128 :: (List.replicate j 0 ++ (be8 N).take 8))) := Lib.hid (by rw [HPD.out, ← hN]; rfl)
      clear HO hn hjz hj hN
      go_upto_region 7 with (fail)
      clear hw9 hw8
      go_wp2_with fail
      go_loopw [3, 5] (fun v i wr => ∃ k : Nat, k ≤ 8 ∧ i = .int .i64 (56 - 8 * (k : Int)) ∧ Hid (Own wr (R + 1) 5 v (b ++ (128 :: (List.replicate j 0 ++ (be8 N).take k)))) ∧ Hid (ABox wr R 29 (zer32.map encB)) ∧ Hid (Below w.heap.size w wr)) (fun _ i _ => (64 - (intOf i)).toNat |> fun x => 200 - x)
      case atStart => exact ⟨0, by omega, rfl, HO8, HRr, HBr⟩
      case round =>
        obtain ⟨k, hk, rfl, hown, HRr, HBr⟩ := hrel
        by_cases hlt : k < 8
        · obtain ⟨sh, hsh⟩ : ∃ sh : Nat, sh = 56 - 8 * k := ⟨_, rfl⟩
          have e1 : (56 : Int) - 8 * (k : Int) = (sh : Int) := by omega
          rw [e1]
          have hsh0 : (0 : Int) ≤ (sh : Int) := by omega
          have hsh1 : (sh : Int) ≤ 64 := by omega
          have q1 := shr_byte N sh
          have HBT := Lib.hid (be8_take N k hlt)
          rw [← hsh] at HBT
          have HSH : Hid ((56 : Int) - 8 * ((k + 1 : Nat) : Int) = (sh : Int) - 8) := Lib.hid (by omega)
          have HMS : Hid (sh ≤ 56) := Lib.hid (by omega)
          clear hsh e1
          generalize UInt8.ofNat (N >>> sh) = by8 at *
          have HOA := Lib.hid (hown.out.alloc (.cells #[.int .u8 (by8.toNat : Int)] 5))
          have HLN : Hid ((b ++ (128 :: (List.replicate j 0 ++ (be8 N).take k)) : List UInt8).length ≤ 1073742000) := Lib.hid (by simp; omega)
          obtain ⟨l5, hl5⟩ : ∃ l5, l5 = (b ++ (128 :: (List.replicate j 0 ++ (be8 N).take k)) : List UInt8) := ⟨_, rfl⟩
          rw [← hl5] at HOA HLN hown
          have HL5 : Hid ((b ++ (128 :: (List.replicate j 0 ++ (be8 N).take (k + 1))) : List UInt8) = l5 ++ [by8]) := Lib.hid (by rw [HBT.out, hl5]; simp)
          clear hl5
          go_wp2_with (at_builtin; refine wpList_push (α := UInt8) _ rfl (.tmp 30) (.tmp 35) 59 rfl (R + 1) 5 (.int .u8 0) 1 Tryd.underlying59 b_info rfl (by decide) u3 l5 rfl HOA.out wr.heap.size #[.int .u8 (by8.toNat : Int)] by8 (0, 0) 5 rfl (heap_alloc_new wr _) rfl (by have := HLN.out; omega) (by have := HLN.out; omega) (by have := HRr.out.lt; simp; omega) _ rfl ?_; intro g5 cap5 w5 hown5 hg5 ho5 hlt5)
          refine ⟨⟨k + 1, by omega, by rw [HSH.out], by rw [HL5.out]; exact Lib.hid hown5, Lib.hid (box_push HRr.out hown.out hg5 (Nat.lt_succ_self R)), Lib.hid (below_push HBr.out (hown.out.re (B := w.heap.size) (by rw [HRE.out]; omega)) HBr.out.size hg5)⟩, ?_⟩
          have := HMS.out
          simp [intOf]; omega
        · obtain rfl : k = 8 := by omega
          have e1 : (56 : Int) - 8 * ((8 : Nat) : Int) = -8 := by omega
          rw [e1]
          clear e1
          rw [← HPE.out] at hown
          obtain ⟨A9, c9, e9, hs9⟩ := hown.out.sl
          subst e9
          have HPL := Lib.hid (padOf_length b.length)
          have HPL2 : Hid ((padOf b.length).length ≤ 128) := Lib.hid (by rw [HPD.out]; simp; unfold be8; simp; omega)
          have HBK := Lib.hid (rblocks_any (b ++ padOf b.length) A9 c9 wr hs9 (by rw [List.length_append]; have := HPL2.out; omega))
          have HSHA : Hid (sha b = (blks H0 (b ++ padOf b.length) ((b ++ padOf b.length).length / 64)).flatMap be4) := Lib.hid (by rw [List.length_append]; rfl)
          have HGL := Lib.hid (blks_length (h := H0) rfl (b ++ padOf b.length) ((b ++ padOf b.length).length / 64))
          obtain ⟨G, hG⟩ : ∃ G, G = blks H0 (b ++ padOf b.length) ((b ++ padOf b.length).length / 64) := ⟨_, rfl⟩
          rw [← hG] at HBK HSHA HGL
          clear hG hs9 hown HPE
          generalize (b ++ padOf b.length).length = nn at *
          go_wp2_with fail
          refine HBK.out.mono ?_
          rintro e w7 ⟨rfl, hb7⟩
          have HR7 := Lib.hid (HRr.out.to hb7)
          have HB7 := Lib.hid (HBr.out.trans (hb7.mono HBr.out.size))
          have hal := heap_alloc_new w7 (.cells ((List.replicate 8 (0 : W32)).map enc32).toArray 96)
          have hb8 : Below w7.heap.size w7 (((w7.alloc (.cells ((List.replicate 8 (0 : W32)).map enc32).toArray 96)).setRow w7.heap.size (G.map enc32).toArray).alloc (.cells (zer32.map encB).toArray 29)) := (below_setRow ((Below.refl _ _).alloc (Nat.le_refl _) _) (Nat.le_refl _) _).alloc (by rw [setRow_size]; simp) _
          have HSZ : Hid ((G.map enc32).toArray.size = 8) := Lib.hid (by rw [words_size, HGL.out])
          have HONE := Lib.hid (words_one G)
          have HGB : Hid (WBox (((w7.alloc (.cells ((List.replicate 8 (0 : W32)).map enc32).toArray 96)).setRow w7.heap.size (G.map enc32).toArray).alloc (.cells (zer32.map encB).toArray 29)) w7.heap.size 96 G) := Lib.hid ((Below.heap_alloc _ _ _ (by rw [setRow_size]; simp)).trans (setRow_heap _ _ _ _ _ _ hal))
          have HOB : Hid (ABox (((w7.alloc (.cells ((List.replicate 8 (0 : W32)).map enc32).toArray 96)).setRow w7.heap.size (G.map enc32).toArray).alloc (.cells (zer32.map encB).toArray 29)) (w7.heap.size + 1) 29 ((tf (G.flatMap be4) 0).map encB)) := Lib.hid (heap_at (by rw [setRow_size]; simp))
          have HR8 := Lib.hid (HR7.out.to hb8)
          have HB8 := Lib.hid (HB7.out.trans (hb8.mono HB7.out.size))
          have HRW : Hid (R < w7.heap.size ∧ w.heap.size ≤ w7.heap.size) := Lib.hid ⟨HR7.out.lt, HB7.out.size⟩
          clear hb7 hb8 HR7 HB7 HBK HRr HBr
          unfold wordsV
          go_upto_region 13 with (first
            | (refine wpList_store_row rfl 96 (.tmp 6) (.tmp 38) rfl w7.heap.size (G.map enc32).toArray rfl rfl 96 _ hal (by rw [HSZ.out]; kernel_rfl) (by rw [HSZ.out]; rfl) HONE.out ?_)
            | fail)
          generalize hw3 : World.alloc (World.setRow (World.alloc w7 _) _ _) _ = w8
          have hw4 : (((w7.alloc (.cells ((List.replicate 8 (0 : W32)).map enc32).toArray 96)).setRow w7.heap.size (G.map enc32).toArray).alloc (.cells (zer32.map encB).toArray 29)) = w8 := hw3
          rw [hw4] at HGB HOB HR8 HB8
          clear hw3 hw4 hal HSZ HONE
          have HNE : Hid (w7.heap.size + 1 ≠ R ∧ w7.heap.size + 1 ≠ w7.heap.size ∧ w.heap.size ≤ w7.heap.size + 1) := Lib.hid (by have := HRW.out; omega)
          have HTL : Hid ((G.flatMap be4).length = 32) := Lib.hid (by rw [flat4_length, HGL.out])
          generalize w7.heap.size + 1 = O at *
          generalize w7.heap.size = Hb at *
          go_wp2_with fail
          go_loopw [8] (fun i wr => ∃ k : Nat, k ≤ 32 ∧ i = .int .i64 k ∧ Hid (ABox wr O 29 ((tf (G.flatMap be4) k).map encB)) ∧ Hid (WBox wr Hb 96 G) ∧ Hid (ABox wr R 29 (zer32.map encB)) ∧ Hid (Below w.heap.size w wr)) (fun i _ => 32 - (intOf i).toNat)
          case atStart => exact ⟨0, by omega, rfl, HOB, HGB, HR8, HB8⟩
          case round =>
            obtain ⟨k, hk, rfl, hob, hgb, hrr, hbb⟩ := hrel
            by_cases hlt : k < 32
            · have hlt2 : (k : Int) < 32 := by omega
              have hk0 : (0 : Int) ≤ (k : Int) := by omega
              have HG1 := Lib.hid (flat4_get G (k / 4) (k % 4) (by rw [HGL.out]; omega) (by omega))
              rw [show 4 * (k / 4) + k % 4 = k by omega] at HG1
              have hq4 := hgb.out.cell (k / 4) (by rw [HGL.out]; omega)
              obtain ⟨q, hq⟩ : ∃ q : Nat, q = k / 4 := ⟨_, rfl⟩
              obtain ⟨sh, hsh⟩ : ∃ sh : Nat, sh = 24 - 8 * (k % 4) := ⟨_, rfl⟩
              have e1 : (24 : Int) - (k : Int) % 4 * 8 = (sh : Int) := by omega
              have e2 : (k : Int) / 4 = (q : Int) := by omega
              have hsh0 : (0 : Int) ≤ (sh : Int) := by omega
              have hsh1 : (sh : Int) ≤ 32 := by omega
              have hq8 : (q : Int) < 8 := by omega
              have hq0 : (0 : Int) ≤ (q : Int) := by omega
              rw [← hq] at HG1 hq4
              rw [← hsh] at HG1
              have q1 := u_byte (G.getD q 0) sh
              clear hq hsh
              generalize G.getD q 0 = x at *
              generalize hby : UInt8.ofNat (x.toNat >>> sh) = by8 at *
              clear hby
              have HTLk := Lib.hid (tf_length HTL.out (j := k) (by omega))
              have hcell := hob.out.cell k (v := encB ((tf (G.flatMap be4) k).getD k 0)) (by rw [List.getElem?_map, List.getD_eq_getElem?_getD, List.getElem?_eq_getElem (by have := HTLk.out; omega)]; rfl)
              have hfz := hob.out.fz
              have HN1 : Hid (ABox (wr.setCell ⟨O, k, none⟩ (encB by8)) O 29 ((tf (G.flatMap be4) (k + 1)).map encB)) := Lib.hid (by
                have h := hob.out.set k (encB by8)
                rw [← HG1.out] at h ⊢
                rw [← tf_set HTL.out hlt, List.map_set]; exact h)
              have HN2 : Hid (WBox (wr.setCell ⟨O, k, none⟩ (encB by8)) Hb 96 G) := Lib.hid ((heap_set _ _ _ _ (Ne.symm HNE.out.2.1)).trans hgb.out)
              have HN3 : Hid (ABox (wr.setCell ⟨O, k, none⟩ (encB by8)) R 29 (zer32.map encB)) := Lib.hid ((heap_set _ _ _ _ (Ne.symm HNE.out.1)).trans hrr.out)
              have HN4 : Hid (Below w.heap.size w (wr.setCell ⟨O, k, none⟩ (encB by8))) := Lib.hid (hbb.out.setCell (p := ⟨O, k, none⟩) HNE.out.2.2 _)
              unfold encB at HN1 HN2 HN3 HN4 hcell
              clear hob hgb hrr hbb HG1
              go_wp2_with fail
              refine ⟨⟨k + 1, by omega, by simp, HN1, HN2, HN3, HN4⟩, by simp [intOf]; omega⟩
            · obtain rfl : k = 32 := by omega
              have HTT : Hid (tf (G.flatMap be4) 32 = sha b) := Lib.hid (by rw [HSHA.out]; unfold tf; rw [List.take_of_length_le (by rw [HTL.out]; omega)]; simp)
              rw [HTT.out] at hob
              have hq := hrr.out
              have hq2 := hob.out
              unfold ABox at hq hq2
              have HSZ := Lib.hid (hash_size (sha_length b))
              have HC1 := Lib.hid (hash_all (sha b))
              have HX := Lib.hid (setRow_heap _ R _ ((sha b).map encB).toArray _ _ hq)
              have HBE := Lib.hid (below_setRow hbb.out (R := R) (by rw [HRE.out]; exact Nat.le_refl _) ((sha b).map encB).toArray)
              have HRZ : Hid ((zer32.map encB).toArray.size = 32) := Lib.hid rfl
              have HRV : Hid (hashV (sha b) = .agg ((sha b).map encB).toArray) := Lib.hid rfl
              generalize ((sha b).map encB).toArray = cs at *
              generalize (zer32.map encB).toArray = zs at *
              go_wp2_with (first
                | (refine wpList_load_row rfl 29 (.tmp 7) rfl O ?_ 29 cs (0, 0) _ hq2 Tryd.underlying29 ?_ ?_ ?_; rfl; rfl; (rw [HSZ.out]; kernel_rfl))
                | (refine wpList_store_row rfl 29 (.tmp 2) (.tmp 55) rfl R cs ?_ ?_ 29 zs hq (by rw [HSZ.out]; kernel_rfl) (by rw [HRZ.out, HSZ.out]) HC1.out ?_; rfl; rfl)
                | fail)
              exact bodyPost_ret (v := .agg cs) (results_cell_row Tryd.results70 _ _ R _ cs (0, 0) _ rfl HX.out Tryd.underlying29 rfl (by rw [HSZ.out]; kernel_rfl)) rfl ⟨by rw [HRV.out], HBE.out⟩
end Go.Proofs.YthcklfelofpffaaDoor
namespace Go.Proofs.YthcklfelofpffaaDoor
open Go.RowKit
set_option maxRecDepth 100000 in
set_option maxHeartbeats 4000000 in
theorem rleafB_any (b : List UInt8) (A : Option Addr) (c : Nat) (w : World) (hs : Sl w (fun b => b < w.heap.size) A c b) (hsz : b.length ≤ 1073741700) :
    Calls Tryd.prog 43 #[.slice A b.length c] w fun e w' => e = .returned (hashV (leafH b)) ∧ Below w.heap.size w w' := by
  have hb1 : Below w.heap.size w (w.alloc (.cells (zer32.map encB).toArray 29)) := (Below.refl _ _).alloc (Nat.le_refl _) _
  have HR : Hid (ABox (w.alloc (.cells (zer32.map encB).toArray 29)) w.heap.size 29 (zer32.map encB)) := Lib.hid (heap_alloc_new w _)
  have HB := Lib.hid hb1
  have HSZ1 : Hid ((w.alloc (.cells (zer32.map encB).toArray 29)).heap.size = w.heap.size + 1) := Lib.hid (by simp)
  have HS := Lib.hid hs
  clear hb1 hs
  go_enter Tryd.func43, Tryd.ntmps43
  go_upto_region 1 with (fail)
  generalize hw1 : World.alloc w _ = w1
  have hw2 : w.alloc (.cells (zer32.map encB).toArray 29) = w1 := hw1
  rw [hw2] at HR HB HSZ1
  clear hw1 hw2
  have hba : Below w1.heap.size w1 (w1.alloc (.cells #[.int .u8 0] 5)) := (Below.refl _ _).alloc (Nat.le_refl _) _
  have HL : Hid (Own (w1.alloc (.cells #[.int .u8 0] 5)) w1.heap.size 5 (.slice (some ⟨w1.heap.size, 0, none⟩) 1 1) [(0 : UInt8)]) := Lib.hid (Own.lit w1 w1.heap.size _ #[.int .u8 0] [(0 : UInt8)] (Nat.le_refl _) (by simp [maxLen]) rfl (by simp; rfl) (fun i hi => by
    obtain rfl : i = 0 := by simp at hi; omega
    rfl))
  have HSA := Lib.hid (HS.out.keep (Kept.below (HB.out.trans (hba.mono HB.out.size)) (fun _ h => h)) (HB.out.trans (hba.mono HB.out.size)).size)
  have HRA := Lib.hid (HR.out.to hba)
  have HBA := Lib.hid (HB.out.trans (hba.mono HB.out.size))
  have HRL : Hid (w.heap.size < w1.heap.size) := Lib.hid HR.out.lt
  clear hba HS HR HB
  go_wp2_with (first
    | (at_builtin; refine wpList_cat (α := UInt8) _ rfl (.tmp 3) (.tmp 4) 59 rfl w1.heap.size 5 (.int .u8 0) 1 Tryd.underlying59 b_info rfl (by decide) (.slice (some ⟨w1.heap.size, 0, none⟩) 1 1) [0] rfl HL.out A c b.length b rfl rfl (fun g => g < w.heap.size) HSA.out (fun i hi _ e => by have := (HL.out.lt i e.symm).1; have := HRL.out; omega) (by simp; omega) (by simp; omega) (by simp) ?_; intro v3 w3 hown3 hg3 hat3; obtain ⟨A3, c3, rfl, hs3⟩ := hown3.sl)
    | fail)
  have HR3 := Lib.hid (box_cat HRA.out HL.out hg3 HRL.out)
  have HB3 := Lib.hid (below_cat HBA.out (HL.out.re (Nat.le_of_lt HRL.out)) HBA.out.size hg3)
  have HSM := Lib.hid (rsum_any ([0] ++ b) A3 c3 w3 hs3 (by simp; omega))
  clear hown3 hg3 hat3 hs3 HL HSA HRA HBA
  refine HSM.out.mono ?_
  rintro e w4 ⟨rfl, hb4⟩
  have hq := HR3.out.to hb4
  unfold ABox at hq
  have HSZ := Lib.hid (hash_size (sha_length ([0] ++ b)))
  have HC1 := Lib.hid (hash_all (sha ([0] ++ b)))
  have HX := Lib.hid (setRow_heap _ w.heap.size _ ((sha ([0] ++ b)).map encB).toArray _ _ hq)
  have HBE := Lib.hid (below_setRow (HB3.out.trans (hb4.mono HB3.out.size)) (R := w.heap.size) (Nat.le_refl _) ((sha ([0] ++ b)).map encB).toArray)
  have HRZ : Hid ((zer32.map encB).toArray.size = 32) := Lib.hid rfl
  have HRV : Hid (hashV (leafH b) = .agg ((sha ([0] ++ b)).map encB).toArray) := Lib.hid rfl
  unfold hashV
  generalize ((sha ([0] ++ b)).map encB).toArray = cs at *
  generalize (zer32.map encB).toArray = zs at *
  clear hb4 HR3 HB3 HSM
  go_wp2_with (first
    | (refine wpList_store_row rfl 29 (.tmp 2) (.tmp 6) rfl w.heap.size cs ?_ ?_ 29 zs hq (by rw [HSZ.out]; kernel_rfl) (by rw [HRZ.out, HSZ.out]) HC1.out ?_; rfl; rfl)
    | fail)
  exact bodyPost_ret (v := .agg cs) (results_cell_row Tryd.results43 _ _ w.heap.size _ cs (0, 0) _ rfl HX.out Tryd.underlying29 rfl (by rw [HSZ.out]; kernel_rfl)) rfl ⟨by rw [HRV.out], HBE.out⟩
set_option maxRecDepth 100000 in
set_option maxHeartbeats 4000000 in
theorem rleaf_any (branch : Int) (s : Sheet) (A B : Option Addr) (c d : Nat) (w : World) (hbr : I64 branch) (ha : Sl w (fun b => b < w.heap.size) A c s.body) (hb : Sl w (fun b => b < w.heap.size) B d s.notes) (hsz : (sheetB branch s).length ≤ 1073740000) :
    Calls Tryd.prog 12 #[.int .i64 branch, .agg #[.string s.label, .slice A s.body.length c, .slice B s.notes.length d]] w fun e w' => e = .returned (hashV (leafOf branch s)) ∧ Below w.heap.size w w' := by
  have hba : Below w.heap.size w ((w.alloc (.cells #[.string s.label, .slice A s.body.length c, .slice B s.notes.length d] 24)).alloc (.cells (zer32.map encB).toArray 29)) := ((Below.refl _ _).alloc (Nat.le_refl _) _).alloc (by simp) _
  have HX1 : Hid (ABox ((w.alloc (.cells #[.string s.label, .slice A s.body.length c, .slice B s.notes.length d] 24)).alloc (.cells (zer32.map encB).toArray 29)) w.heap.size 24 [.string s.label, .slice A s.body.length c, .slice B s.notes.length d]) := Lib.hid (by
    unfold ABox; rw [Below.heap_alloc _ _ _ (by simp)]; exact heap_alloc_new w _)
  have HR : Hid (ABox ((w.alloc (.cells #[.string s.label, .slice A s.body.length c, .slice B s.notes.length d] 24)).alloc (.cells (zer32.map encB).toArray 29)) (w.heap.size + 1) 29 (zer32.map encB)) := Lib.hid (heap_at (by simp))
  have HB := Lib.hid hba
  have HEN := Lib.hid (encoding_any branch s A B c d _ hbr (ha.to hba) (hb.to hba) hsz)
  clear hba ha hb hbr
  go_enter Tryd.func12, Tryd.ntmps12
  go_upto_region 1 with (fail)
  generalize hw1 : World.alloc (World.alloc w _) _ = w1
  have hw2 : ((w.alloc (.cells #[.string s.label, .slice A s.body.length c, .slice B s.notes.length d] 24)).alloc (.cells (zer32.map encB).toArray 29)) = w1 := hw1
  rw [hw2] at HX1 HR HB HEN
  clear hw1 hw2
  have k0 := HX1.out.cell 0 rfl
  have k1 := HX1.out.cell 1 rfl
  have k2 := HX1.out.cell 2 rfl
  go_wp2_with fail
  refine HEN.out.mono ?_
  rintro e w2 ⟨v2, rfl, ho2, hb2⟩
  obtain ⟨A2, c2, rfl, hs2⟩ := ho2.sl
  have HLF := Lib.hid (rleafB_any (sheetB branch s) A2 c2 w2 hs2 (by omega))
  have HR2 := Lib.hid (HR.out.to hb2)
  have HB2 := Lib.hid (HB.out.trans (hb2.mono HB.out.size))
  clear k0 k1 k2 ho2 hs2 hb2 HEN HX1 HR HB
  go_wp2_with fail
  refine HLF.out.mono ?_
  rintro e w4 ⟨rfl, hb4⟩
  have hq := HR2.out.to hb4
  unfold ABox at hq
  have HSZ := Lib.hid (hash_size (show (leafH (sheetB branch s)).length = 32 from sha_length _))
  have HC1 := Lib.hid (hash_all (leafH (sheetB branch s)))
  have HX := Lib.hid (setRow_heap _ (w.heap.size + 1) _ ((leafH (sheetB branch s)).map encB).toArray _ _ hq)
  have HBE := Lib.hid (below_setRow (HB2.out.trans (hb4.mono HB2.out.size)) (R := w.heap.size + 1) (by omega) ((leafH (sheetB branch s)).map encB).toArray)
  have HRZ : Hid ((zer32.map encB).toArray.size = 32) := Lib.hid rfl
  have HRV : Hid (hashV (leafOf branch s) = .agg ((leafH (sheetB branch s)).map encB).toArray) := Lib.hid rfl
  unfold hashV
  generalize ((leafH (sheetB branch s)).map encB).toArray = cs at *
  generalize (zer32.map encB).toArray = zs at *
  clear hb4 HR2 HB2 HLF
  go_wp2_with (first
    | (refine wpList_store_row rfl 29 (.tmp 4) (.tmp 8) rfl (w.heap.size + 1) cs ?_ ?_ 29 zs hq (by rw [HSZ.out]; kernel_rfl) (by rw [HRZ.out, HSZ.out]) HC1.out ?_; rfl; rfl)
    | fail)
  exact bodyPost_ret (v := .agg cs) (results_cell_row Tryd.results12 _ _ (w.heap.size + 1) _ cs (0, 0) _ rfl HX.out Tryd.underlying29 rfl (by rw [HSZ.out]; kernel_rfl)) rfl ⟨by rw [HRV.out], HBE.out⟩
end Go.Proofs.YthcklfelofpffaaDoor
namespace Go.Proofs.YthcklfelofpffaaDoor
open Go.RowKit
set_option maxRecDepth 100000 in
set_option maxHeartbeats 4000000 in
theorem rnode_any (a b : List UInt8) (ha : a.length = 32) (hb : b.length = 32) (w : World) :
    Calls Tryd.prog 77 #[hashV a, hashV b] w fun e w' => e = .returned (hashV (nodeH a b)) ∧ Below w.heap.size w w' := by
  have HA := Lib.hid (hash_size ha)
  have HBs := Lib.hid (hash_size hb)
  have HLa := Lib.hid ha
  have HLb := Lib.hid hb
  clear ha hb
  have hA : hashV a = .agg (a.map encB).toArray := rfl
  have hB : hashV b = .agg (b.map encB).toArray := rfl
  rw [hA, hB]
  clear hA hB
  generalize hca : (a.map encB).toArray = ca at *
  generalize hcb : (b.map encB).toArray = cb at *
  have HCA := Lib.hid hca
  have HCB := Lib.hid hcb
  clear hca hcb
  go_enter Tryd.func77, Tryd.ntmps77
  go_upto_region 1 with (fail)
  generalize hw1 : (World.alloc (World.alloc (World.alloc w _) _) _) = w1
  have hb1 : Below w.heap.size w w1 := by subst hw1; exact (((Below.refl _ _).alloc (Nat.le_refl _) _).alloc (by simp) _).alloc (by first | (simp; done) | (simp; omega)) _
  have h0 : ABox w1 w.heap.size 29 (a.map encB) := by unfold ABox; rw [HCA.out]; subst hw1; exact (Below.heap_alloc _ _ _ (by first | (simp; done) | (simp; omega))).trans ((Below.heap_alloc _ _ _ (by simp)).trans (heap_at rfl))
  have h1 : ABox w1 (w.heap.size + 1) 29 (b.map encB) := by unfold ABox; rw [HCB.out]; subst hw1; exact (Below.heap_alloc _ _ _ (by first | (simp; done) | (simp; omega))).trans (heap_at (by simp))
  have h2 : ABox w1 (w.heap.size + 2) 29 (zer32.map encB) := by subst hw1; exact heap_at (by simp)
  have H0 := Lib.hid h0
  have H1 := Lib.hid h1
  have HR := Lib.hid h2
  have HB := Lib.hid hb1
  have eO : w.heap.size + 1 + 1 = w.heap.size + 2 := by omega
  rw [eO]
  clear hw1 hb1 h0 h1 h2 eO
  generalize hR : w.heap.size + 2 = R at *
  generalize hP1 : w.heap.size + 1 = P1 at *
  generalize hP0 : w.heap.size = P0 at *
  have HRP : Hid (P0 ≤ R) := Lib.hid (by omega)
  clear hR hP1
  have hba : Below w1.heap.size w1 (w1.alloc (.cells #[.int .u8 1] 5)) := (Below.refl _ _).alloc (Nat.le_refl _) _
  have HL : Hid (Own (w1.alloc (.cells #[.int .u8 1] 5)) w1.heap.size 5 (.slice (some ⟨w1.heap.size, 0, none⟩) 1 1) [(1 : UInt8)]) := Lib.hid (Own.lit w1 w1.heap.size _ #[.int .u8 1] [(1 : UInt8)] (Nat.le_refl _) (by simp [maxLen]) rfl (by simp; rfl) (fun i hi => by
    obtain rfl : i = 0 := by simp at hi; omega
    rfl))
  have hk0 : ∀ {P : Nat} {l : List UInt8}, ABox w1 P 29 (l.map encB) → l.length = 32 → Sl (w1.alloc (.cells #[.int .u8 1] 5)) (fun g => g < w1.heap.size) (some ⟨P, 0, none⟩) 32 l := fun h e => by
    have := (sl_row h (by rw [e]; decide)).keep (Kept.below hba (fun _ h => h)) hba.size
    rw [e] at this; exact this
  have HSA := Lib.hid (hk0 H0.out HLa.out)
  have HSB := Lib.hid (hk0 H1.out HLb.out)
  have HRA := Lib.hid (HR.out.to hba)
  have HBA := Lib.hid (HB.out.trans (hba.mono (hP0 ▸ HB.out.size)))
  have HRL : Hid (R < w1.heap.size) := Lib.hid HR.out.lt
  have HPL : Hid (P0 ≤ w1.heap.size) := Lib.hid (hP0 ▸ HB.out.size)
  clear hba HB HR H0 H1 hk0
  have hla := HLa.out
  have hlb := HLb.out
  generalize hL : w1.heap.size = L at *
  go_upto_region 3 with (first
    | (at_builtin; refine wpList_cat (α := UInt8) _ rfl (.tmp 7) (.tmp 8) 59 rfl L 5 (.int .u8 0) 1 Tryd.underlying59 b_info rfl (by decide) (.slice (some ⟨L, 0, none⟩) 1 1) [1] rfl HL.out (some ⟨P0, 0, none⟩) 32 32 a rfl hla (fun g => g < L) HSA.out (fun i hi _ e => by have := (HL.out.lt i e.symm).1; omega) (by simp) (by simp) (by rw [← hL]; simp) ?_; intro v3 w3 hown3 hg3 hat3; obtain ⟨A3, c3, rfl, -⟩ := hown3.form)
    | fail)
  have hbq : Below L (w1.alloc (.cells #[.int .u8 1] 5)) w3 := below_cat (Below.refl L _) HL.out (by rw [← hL]; simp) hg3
  have HSB3 := Lib.hid (HSB.out.keep (Kept.below hbq (fun _ h => h)) hbq.size)
  have HR3 := Lib.hid (box_cat HRA.out HL.out hg3 HRL.out)
  have HB3 := Lib.hid (below_cat HBA.out (HL.out.re HPL.out) (hP0 ▸ HBA.out.size) hg3)
  have hlb3 : L ≤ w3.heap.size := Nat.le_trans (by rw [← hL]; simp) hbq.size
  have HO3 := Lib.hid hown3
  clear hbq hown3 hg3 hat3 HSA HSB HRA HBA HL
  have hl3 : ([(1 : UInt8)] ++ a).length = 33 := by rw [List.length_append, hla]; rfl
  have HO4 : Hid (Own w3 L 5 (.slice A3 33 c3) ([(1 : UInt8)] ++ a)) := Lib.hid (by have := HO3.out; rw [hl3] at this; exact this)
  clear HO3
  go_wp2_with (first
    | (at_builtin; refine wpList_cat (α := UInt8) _ rfl (.tmp 10) (.tmp 11) 59 rfl L 5 (.int .u8 0) 1 Tryd.underlying59 b_info rfl (by decide) (.slice A3 33 c3) ([1] ++ a) rfl HO4.out (some ⟨P1, 0, none⟩) 32 32 b rfl hlb (fun g => g < L) HSB3.out (fun i hi _ e => by have := (HO4.out.lt i e.symm).1; omega) (by rw [hl3]; simp) (by rw [hl3]; simp) hlb3 ?_; intro v5 w5 hown5 hg5 hat5; obtain ⟨A5, c5, rfl, hs5⟩ := hown5.sl)
    | fail)
  have HR5 := Lib.hid (box_cat HR3.out HO4.out hg5 HRL.out)
  have HB5 := Lib.hid (below_cat HB3.out (HO4.out.re HPL.out) (hP0 ▸ HB3.out.size) hg5)
  have HSM := Lib.hid (rsum_any ([1] ++ a ++ b) A5 c5 w5 hs5 (by rw [List.length_append, hl3, hlb]; decide))
  have hl5 : ([(1 : UInt8)] ++ a ++ b).length = 65 := by rw [List.length_append, hl3, hlb]
  rw [hl5] at HSM
  clear hown5 hg5 hat5 hs5 HO4 HSB3 HR3 HB3
  refine HSM.out.mono ?_
  rintro e w4 ⟨rfl, hb4⟩
  have hq := HR5.out.to hb4
  unfold ABox at hq
  have HSZ := Lib.hid (hash_size (sha_length ([1] ++ a ++ b)))
  have HC1 := Lib.hid (hash_all (sha ([1] ++ a ++ b)))
  have HX := Lib.hid (setRow_heap _ R _ ((sha ([1] ++ a ++ b)).map encB).toArray _ _ hq)
  have HBE := Lib.hid (below_setRow (HB5.out.trans (hb4.mono (hP0 ▸ HB5.out.size))) (R := R) HRP.out ((sha ([1] ++ a ++ b)).map encB).toArray)
  have HRZ : Hid ((zer32.map encB).toArray.size = 32) := Lib.hid rfl
  have HRV : Hid (hashV (nodeH a b) = .agg ((sha ([1] ++ a ++ b)).map encB).toArray) := Lib.hid (by rw [show nodeH a b = sha ([1] ++ a ++ b) from (by unfold nodeH; rw [List.append_assoc]; rfl)]; rfl)
  unfold hashV
  generalize ((sha ([1] ++ a ++ b)).map encB).toArray = cs at *
  generalize (zer32.map encB).toArray = zs at *
  clear hb4 HR5 HB5 HSM
  go_wp2_with (first
    | (refine wpList_store_row rfl 29 (.tmp 4) (.tmp 13) rfl R cs ?_ ?_ 29 zs hq (by rw [HSZ.out]; kernel_rfl) (by rw [HRZ.out, HSZ.out]) HC1.out ?_; rfl; rfl)
    | fail)
  exact bodyPost_ret (v := .agg cs) (results_cell_row Tryd.results77 _ _ R _ cs (0, 0) _ rfl HX.out Tryd.underlying29 rfl (by rw [HSZ.out]; kernel_rfl)) rfl ⟨by rw [HRV.out], hP0 ▸ HBE.out⟩
theorem pow_between {i j n : Nat} (h1 : 2 ^ i < n) (h2 : n ≤ 2 * 2 ^ j) : i ≤ j := by
  rcases Nat.lt_or_ge j i with h | h
  · have := Nat.pow_le_pow_right (n := 2) (by omega) (show j + 1 ≤ i by omega)
    rw [Nat.pow_succ] at this; omega
  · exact h
theorem splitN_eq (n j : Nat) (h2 : 2 ≤ n) (h : n ≤ 4611686018427387904) (h3 : 2 ^ j < n) (h4 : n ≤ 2 * 2 ^ j) : splitN n = 2 ^ j := by
  obtain ⟨h5, h6, h7, h8, h9⟩ := splitN_bounds n h2 h
  unfold splitN at h7 h8 h9 ⊢
  have := pow_between h8 h4
  have := pow_between h3 h9
  have e : Lib.bitLen (n - 1) - 1 = j := by omega
  rw [e]
set_option maxRecDepth 100000 in
set_option maxHeartbeats 4000000 in
theorem rsplit_any (n : Nat) (h2 : 2 ≤ n) (h : n ≤ 1073741824) (w : World) : Calls Tryd.prog 76 #[.int .i64 (n : Int)] w fun e w' => e = .returned (.int .i64 (splitN n : Int)) ∧ w = w' := by
  go_enter Tryd.func76, Tryd.ntmps76
  go_wp2_with fail
  go_loopw [3] (fun x wr => ∃ p : Nat, x = .int .i64 (p : Int) ∧ 1 ≤ p ∧ p < n ∧ Hid (∃ j : Nat, p = 2 ^ j) ∧ Hid (w = wr)) (fun x _ => n - (intOf x).toNat)
  case atStart => exact ⟨1, rfl, Nat.le_refl _, h2, Lib.hid ⟨0, rfl⟩, Lib.hid rfl⟩
  case round =>
    obtain ⟨p, rfl, hp1, hp2, hj, hb⟩ := hrel
    by_cases hlt : 2 * p < n
    · have hlt2 : 2 * (p : Int) < (n : Int) := by omega
      have hp0 : (0 : Int) ≤ (p : Int) := by omega
      go_wp2_with fail
      go_roundw
      case rel => exact ⟨2 * p, by go_num, by omega, by omega, Lib.hid (by obtain ⟨j, rfl⟩ := hj.out; exact ⟨j + 1, by rw [Nat.pow_succ, Nat.mul_comm]⟩), hb⟩
      case measure => simp [intOf]; omega
    · have hlt2 : ¬ 2 * (p : Int) < (n : Int) := by omega
      have hp0 : (0 : Int) ≤ (p : Int) := by omega
      have hpn : (p : Int) < (n : Int) := by omega
      have HE : Hid (splitN n = p) := Lib.hid (by obtain ⟨j, rfl⟩ := hj.out; exact splitN_eq n j h2 (by omega) hp2 (by omega))
      go_wp2_with fail
      go_ret
      refine ⟨ret_int ?_, ?_⟩
      · have := HE.out; omega
      · exact hb.out
set_option maxRecDepth 100000 in
set_option maxHeartbeats 4000000 in
theorem rroot0_any (A : Option Addr) (c : Nat) (w : World) :
    Calls Tryd.prog 52 #[.slice A 0 c] w fun e w' => e = .returned (hashV (sha [])) ∧ Below w.heap.size w w' := by
  have HS : Hid (Calls Tryd.prog 70 #[.slice none 0 0] (w.alloc (.cells (zer32.map encB).toArray 29)) fun e w' => e = .returned (hashV (sha [])) ∧ Below (w.alloc (.cells (zer32.map encB).toArray 29)).heap.size (w.alloc (.cells (zer32.map encB).toArray 29)) w') := Lib.hid (rsum_any [] none 0 (w.alloc (.cells (zer32.map encB).toArray 29)) (Sl.nil _ _ _ _ (by decide)) (by simp))
  have HR0 : Hid (ABox (w.alloc (.cells (zer32.map encB).toArray 29)) w.heap.size 29 (zer32.map encB)) := Lib.hid (heap_alloc_new w _)
  have HB0 : Hid (Below w.heap.size w (w.alloc (.cells (zer32.map encB).toArray 29))) := Lib.hid ((Below.refl _ _).alloc (Nat.le_refl _) _)
  go_enter Tryd.func52, Tryd.ntmps52
  go_upto_region 1 with (fail)
  generalize hw1 : World.alloc w _ = w1
  have hw2 : w.alloc (.cells (zer32.map encB).toArray 29) = w1 := hw1
  rw [hw2] at HS HR0 HB0
  clear hw1 hw2
  go_wp2_with fail

  refine HS.out.mono ?_
  rintro e w4 ⟨rfl, hb4⟩
  have HB4 := Lib.hid (below_setRow (HB0.out.trans (hb4.mono HB0.out.size)) (R := w.heap.size) (Nat.le_refl _) ((sha []).map encB).toArray)
  have hr4 : w4.heap[w.heap.size]? = some (.cells (zer32.map encB).toArray 29 (0, 0)) := HR0.out.to hb4
  have HX := Lib.hid (setRow_heap w4 w.heap.size _ ((sha []).map encB).toArray _ _ hr4)
  have HSZ := Lib.hid (hash_size (sha_length []))
  have HC1 := Lib.hid (hash_all (sha []))
  have HRZ : Hid ((zer32.map encB).toArray.size = 32) := Lib.hid rfl
  clear hb4 HR0 HB0 HS
  have HRE : Hid (hashV (sha []) = .agg ((sha []).map encB).toArray) := Lib.hid rfl
  unfold hashV
  generalize ((sha []).map encB).toArray = cs at *
  generalize (zer32.map encB).toArray = zs at *
  go_wp2_with (first
    | (refine wpList_store_row rfl 29 (.tmp 2) (.tmp 7) rfl w.heap.size cs rfl rfl 29 zs hr4 (by rw [HSZ.out]; kernel_rfl) (by rw [HRZ.out, HSZ.out]) HC1.out ?_)
    | fail)
  exact bodyPost_ret (v := .agg cs) (results_cell_row Tryd.results52 _ _ w.heap.size _ cs (0, 0) _ rfl HX.out Tryd.underlying29 rfl (by rw [HSZ.out]; kernel_rfl)) rfl ⟨by rw [HRE.out], HB4.out⟩
set_option maxRecDepth 100000 in
set_option maxHeartbeats 4000000 in
theorem rroot1_any (x : H32) (A : Option Addr) (c : Nat) (w : World) (hl : Sl w (fun b => b < w.heap.size) A c [x]) :
    Calls Tryd.prog 52 #[.slice A 1 c] w fun e w' => e = .returned (hashV x.l) ∧ Below w.heap.size w w' := by
  have hl1 := hl.to ((Below.refl w.heap.size w).alloc (Nat.le_refl _) (.cells (zer32.map encB).toArray 29))
  obtain ⟨b, o, rfl, _, hlt, hr, hxl⟩ := h32_at hl1 (k := 0) (by simp)
  simp only [Nat.zero_mul, Nat.add_zero, List.getElem_cons_zero] at hr hxl
  have hc1 := hl.2.1
  have hc2 := hl.1
  simp only [List.length_cons, List.length_nil, Nat.zero_add] at hc2
  unfold maxLen at hc1
  have HR0 : Hid (ABox (w.alloc (.cells (zer32.map encB).toArray 29)) w.heap.size 29 (zer32.map encB)) := Lib.hid (heap_alloc_new w _)
  have HB0 : Hid (Below w.heap.size w (w.alloc (.cells (zer32.map encB).toArray 29))) := Lib.hid ((Below.refl _ _).alloc (Nat.le_refl _) _)
  have HE := Lib.hid hr
  have HSZ := Lib.hid (hash_size hxl)
  have HSE : Hid ((x.l.map encB).length = 32) := Lib.hid (by rw [List.length_map, hxl])
  have HC1 := Lib.hid (hash_all x.l)
  have HRZ : Hid ((zer32.map encB).toArray.size = 32) := Lib.hid rfl
  have HRE : Hid (hashV x.l = .agg (x.l.map encB).toArray) := Lib.hid rfl
  clear hl hl1 hr hlt
  go_enter Tryd.func52, Tryd.ntmps52
  go_upto_region 1 with (fail)
  generalize hw1 : World.alloc w _ = w1
  have hw2 : w.alloc (.cells (zer32.map encB).toArray 29) = w1 := hw1
  rw [hw2] at HR0 HB0 HE
  clear hw1 hw2
  have HB4 := Lib.hid (below_setRow HB0.out (R := w.heap.size) (Nat.le_refl _) (x.l.map encB).toArray)
  have HX := Lib.hid (setRow_heap w1 w.heap.size _ (x.l.map encB).toArray _ _ HR0.out)
  have hr4 : w1.heap[w.heap.size]? = some (.cells (zer32.map encB).toArray 29 (0, 0)) := HR0.out
  clear HR0
  generalize hcs : (x.l.map encB) = cl at *
  generalize hcs2 : cl.toArray = cs at *
  generalize (zer32.map encB).toArray = zs at *
  go_wp2_with (first
    | (refine wpList_load_mid rfl 29 (.tmp 12) rfl b o ?_ cl _ ?_ Tryd.underlying29 ?_ ?_ ?_; rfl; exact HE.out; rfl; (rw [HSE.out]; kernel_rfl))
    | (refine wpList_store_row rfl 29 (.tmp 2) (.tmp 13) rfl w.heap.size cs ?_ ?_ 29 zs hr4 (by rw [HSZ.out]; kernel_rfl) (by rw [HRZ.out, HSZ.out]) HC1.out ?_; rfl; (show Value.agg cl.toArray = Value.agg cs; rw [hcs2]))
    | fail)
  exact bodyPost_ret (v := .agg cs) (results_cell_row Tryd.results52 _ _ w.heap.size _ cs (0, 0) _ rfl HX.out Tryd.underlying29 rfl (by rw [HSZ.out]; kernel_rfl)) rfl ⟨by rw [HRE.out], HB4.out⟩
set_option maxRecDepth 100000 in
set_option maxHeartbeats 4000000 in
theorem rroot2_any (f : Nat) (ih : ∀ (l : List H32) (A : Option Addr) (n c : Nat) (w : World), l.length ≤ f → Sl w (fun b => b < w.heap.size) A c l → l.length = n → n ≤ 1073741824 →
      Calls Tryd.prog 52 #[.slice A n c] w fun e w' => e = .returned (hashV (rootF f l)) ∧ Below w.heap.size w w')
    (l : List H32) (A : Option Addr) (n c : Nat) (w : World) (hf : l.length ≤ f + 1) (hl : Sl w (fun b => b < w.heap.size) A c l) (hn : l.length = n) (h2 : 2 ≤ n) (hs : n ≤ 1073741824) :
    Calls Tryd.prog 52 #[.slice A n c] w fun e w' => e = .returned (hashV (rootF (f + 1) l)) ∧ Below w.heap.size w w' := by
  obtain ⟨_, _, h3, h4, _⟩ := splitN_bounds n h2 (by omega)
  have HSP := Lib.hid (rsplit_any n h2 hs)
  have HLen := Lib.hid (h32_len hl)
  have HRQ : Hid (rootF (f + 1) l = nodeH (rootF f (l.take (splitN n))) (rootF f (l.drop (splitN n)))) := Lib.hid (by rw [rootF, if_neg (by omega), if_neg (by omega), hn])
  obtain ⟨b, o, rfl, _⟩ := hl.2.2 (by omega)
  have hnc : n ≤ c := by have := hl.1; omega
  have hcm : c ≤ 9223372036854775807 := by have := hl.2.1; unfold maxLen at this; omega
  have HR0 : Hid (ABox (w.alloc (.cells (zer32.map encB).toArray 29)) w.heap.size 29 (zer32.map encB)) := Lib.hid (heap_alloc_new w _)
  have HB0 : Hid (Below w.heap.size w (w.alloc (.cells (zer32.map encB).toArray 29))) := Lib.hid ((Below.refl _ _).alloc (Nat.le_refl _) _)
  have HL0 := Lib.hid (hl.to ((Below.refl w.heap.size w).alloc (Nat.le_refl _) (.cells (zer32.map encB).toArray 29)))
  have HI := Lib.hid ih
  have HF := Lib.hid hf
  have HN := Lib.hid hn
  clear ih hl hf hn
  generalize splitN n = k at *
  go_enter Tryd.func52, Tryd.ntmps52
  go_upto_region 1 with (fail)
  generalize hw1 : World.alloc w _ = w1
  have hw2 : w.alloc (.cells (zer32.map encB).toArray 29) = w1 := hw1
  rw [hw2] at HR0 HB0 HL0
  clear hw1 hw2
  go_upto_region 6 with (first
    | (go_at_call 76; refine (HSP.out _).mono ?_; rintro e w' ⟨rfl, rfl⟩)
    | fail)
  refine wp_region_tail rfl (by kernel_rfl) (by kernel_rfl) ?_
  intro T hT g hgb hgm
  obtain ⟨r1, hr1⟩ : ∃ r, r = rootF f (l.take k) := ⟨_, rfl⟩
  obtain ⟨r2, hr2⟩ : ∃ r, r = rootF f (l.drop k) := ⟨_, rfl⟩
  obtain ⟨r3, hr3⟩ : ∃ r, r = rootF (f + 1) l := ⟨_, rfl⟩
  have HR1 := Lib.hid hr1
  have HR2 := Lib.hid hr2
  have HR3 := Lib.hid hr3
  clear hr1 hr2 hr3
  have HT1 : Hid (∀ d, Calls Tryd.prog 52 #[.slice (some ⟨b, o, none⟩) k c] (g d) fun e w' => e = .returned (hashV r1) ∧ ∃ m, w' = g m) := Lib.hid (fun d => by
    refine (HI.out (l.take k) (some ⟨b, o, none⟩) k c (g d) (by have := HF.out; have := HN.out; rw [List.length_take]; omega) ((HL0.out.to (hgb d)).take k (by have := HN.out; omega)) (by have := HN.out; rw [List.length_take]; omega) (by omega)).mono ?_
    rintro e w' ⟨rfl, hb⟩
    exact ⟨by rw [HR1.out], hgm d w' hb⟩)
  have HT2 : Hid (∀ d, Calls Tryd.prog 52 #[.slice (some ⟨b, o + k * 32, none⟩) (n - k) (c - k)] (g d) fun e w' => e = .returned (hashV r2) ∧ ∃ m, w' = g m) := Lib.hid (fun d => by
    have hd := sl_drop32 (HL0.out.to (hgb d)) k (by have := HN.out; omega)
    refine (HI.out (l.drop k) (some ⟨b, o + k * 32, none⟩) (n - k) (c - k) (g d) (by have := HF.out; have := HN.out; rw [List.length_drop]; omega) hd (by have := HN.out; rw [List.length_drop]; omega) (by omega)).mono ?_
    rintro e w' ⟨rfl, hb⟩
    exact ⟨by rw [HR2.out], hgm d w' hb⟩)
  have HT3 : Hid (∀ d, Calls Tryd.prog 77 #[hashV r1, hashV r2] (g d) fun e w' => e = .returned (hashV r3) ∧ ∃ m, w' = g m) := Lib.hid (fun d => by
    rw [HR3.out, HRQ.out, HR1.out, HR2.out]
    refine (rnode_any _ _ (rootF_length _ _ fun x hx => HLen.out x (List.mem_of_mem_take hx)) (rootF_length _ _ fun x hx => HLen.out x (List.mem_of_mem_drop hx)) (g d)).mono ?_
    rintro e w' ⟨rfl, hb⟩
    exact ⟨rfl, hgm d w' hb⟩)
  have HRL := Lib.hid (rootF_length (f + 1) l HLen.out)
  have HGB := Lib.hid hgb
  clear hgb hgm HI HL0 HRQ
  have HRL2 : Hid (r3.length = 32) := Lib.hid (by rw [HR3.out]; exact HRL.out)
  clear HRL HR1 HR2
  dsimp only [List.dropLast]
  repeat (go_big_quiet_step (first
    | (go_at_call 52; with_reducible refine Calls.mono (HT1.out _) ?_; rintro e w6 ⟨rfl, hm⟩; exact ⟨rfl, hm⟩)
    | (go_at_call 52; with_reducible refine Calls.mono (HT2.out _) ?_; rintro e w6 ⟨rfl, hm⟩; exact ⟨rfl, hm⟩)
    | (go_at_call 77; with_reducible refine Calls.mono (HT3.out _) ?_; rintro e w6 ⟨rfl, hm⟩; exact ⟨rfl, hm⟩)))
  refine wpQuiet_nil ?_
  rintro _ ⟨d, rfl⟩
  refine ⟨rfl, ?_⟩
  have hr4 : (g d).heap[w.heap.size]? = some (.cells (zer32.map encB).toArray 29 (0, 0)) := HR0.out.to (HGB.out d)
  have HB4 := Lib.hid (below_setRow (HB0.out.trans ((HGB.out d).mono HB0.out.size)) (R := w.heap.size) (Nat.le_refl _) (r3.map encB).toArray)
  have HX := Lib.hid (setRow_heap (g d) w.heap.size _ (r3.map encB).toArray _ _ hr4)
  have HSZ := Lib.hid (hash_size HRL2.out)
  have HC1 := Lib.hid (hash_all r3)
  have HRZ : Hid ((zer32.map encB).toArray.size = 32) := Lib.hid rfl
  have HRE : Hid (hashV r3 = .agg (r3.map encB).toArray) := Lib.hid rfl
  have hrv : hashV r3 = .agg (r3.map encB).toArray := rfl
  rw [hrv]
  clear HT1 HT2 HT3 HGB hrv
  generalize (r3.map encB).toArray = cs at *
  generalize (zer32.map encB).toArray = zs at *
  refine wp_store_row 29 (.tmp 2) (.tmp 25) rfl w.heap.size cs ?_ ?_ 29 zs hr4 (by rw [HSZ.out]; kernel_rfl) (by rw [HRZ.out, HSZ.out]) HC1.out ?_
  · rfl
  · rfl
  unfold Exit.then
  go_wp2_with fail
  exact bodyPost_ret (v := .agg cs) (results_cell_row Tryd.results52 _ _ w.heap.size _ cs (0, 0) _ rfl HX.out Tryd.underlying29 rfl (by rw [HSZ.out]; kernel_rfl)) rfl ⟨by rw [← HR3.out, HRE.out], HB4.out⟩
theorem rrootF_any (f : Nat) : ∀ (l : List H32) (A : Option Addr) (n c : Nat) (w : World), l.length ≤ f → Sl w (fun b => b < w.heap.size) A c l → l.length = n → n ≤ 1073741824 →
    Calls Tryd.prog 52 #[.slice A n c] w fun e w' => e = .returned (hashV (rootF f l)) ∧ Below w.heap.size w w' := by
  induction f with
  | zero =>
    intro l A n c w hf hl hn hs
    obtain rfl : n = 0 := by omega
    exact rroot0_any A c w
  | succ f ih =>
    intro l A n c w hf hl hn hs
    by_cases h0 : n = 0
    · subst h0
      have e : rootF (f + 1) l = sha [] := by rw [rootF, if_pos hn]
      rw [e]
      exact rroot0_any A c w
    · by_cases h1 : n = 1
      · subst h1
        obtain ⟨x, rfl⟩ : ∃ x, l = [x] := List.length_eq_one_iff.1 hn
        have e : rootF (f + 1) [x] = x.l := by rw [rootF, if_neg (by simp), if_pos (by simp)]; rfl
        rw [e]
        exact rroot1_any x A c w hl
      · exact rroot2_any f ih l A n c w hf hl hn (by omega) hs
theorem rroot_any (l : List H32) (A : Option Addr) (n c : Nat) (w : World) (hl : Sl w (fun b => b < w.heap.size) A c l) (hn : l.length = n) (hs : n ≤ 1073741824) :
    Calls Tryd.prog 52 #[.slice A n c] w fun e w' => e = .returned (hashV (root l)) ∧ Below w.heap.size w w' := rrootF_any l.length l A n c w (Nat.le_refl _) hl hn hs
set_option maxRecDepth 100000 in
set_option maxHeartbeats 4000000 in
theorem rtop_any (A B : Option Addr) (ca n : Nat) (L : List H32) (w : World) (cb nb : Nat) (hl : Sl w (fun b => b < w.heap.size) A ca L) (hn : L.length = n) (hs : n ≤ 1073741824) :
    Calls Tryd.prog 18 #[.agg #[.slice A n ca, .slice B nb cb]] w fun e w' => e = .returned (headV n (root L)) ∧ Below w.heap.size w w' := by
  have HRL : Hid ((root L).length = 32) := Lib.hid (root_length _ (h32_len hl))
  have hba : Below w.heap.size w ((w.alloc (.cells #[.slice A n ca, .slice B nb cb] 36)).alloc (.cells zhead.toArray 40)) := ((Below.refl _ _).alloc (Nat.le_refl _) _).alloc (by simp) _
  have HX1 : Hid (ABox ((w.alloc (.cells #[.slice A n ca, .slice B nb cb] 36)).alloc (.cells zhead.toArray 40)) w.heap.size 36 [.slice A n ca, .slice B nb cb]) := Lib.hid (by
    unfold ABox; rw [Below.heap_alloc _ _ _ (by simp)]; exact heap_alloc_new w _)
  have HR2 : Hid (ABox ((w.alloc (.cells #[.slice A n ca, .slice B nb cb] 36)).alloc (.cells zhead.toArray 40)) (w.heap.size + 1) 40 zhead) := Lib.hid (heap_at (by simp))
  have HB := Lib.hid hba
  have HRT := Lib.hid (fun W (h : Below _ _ W) => rroot_any L A n ca W ((hl.to hba).to h) hn hs)
  clear hba hl hn
  have HBU := Lib.hid (head_built n (root L) HRL.out)
  have HSZ : Hid ((headL n (root L)).toArray.size = 33) := Lib.hid (by unfold headL; simp [HRL.out])
  have HONE := Lib.hid (headL_one n (root L))
  have HRE : Hid (headV n (root L) = .agg (headL n (root L)).toArray) := Lib.hid rfl
  generalize root L = r at *
  go_enter Tryd.func18, Tryd.ntmps18
  go_upto_region 1 with (fail)
  generalize hw1 : World.alloc (World.alloc w _) _ = w1
  have hw2 : ((w.alloc (.cells #[.slice A n ca, .slice B nb cb] 36)).alloc (.cells zhead.toArray 40)) = w1 := hw1
  rw [hw2] at HX1 HR2 HB HRT
  clear hw1 hw2
  refine wp_region_D (fun w' => w'.cell? ⟨w.heap.size, 0, none⟩ = some (.slice A n ca)) (fun i => decide (i < 6)) (by kernel_rfl) ?_
  have hb0 : Hid (Below w1.heap.size w1 w1.drew) := Lib.hid (Below.refl _ _).drew
  generalize w1.drew = W0 at *
  refine wpAnyE_take (i := 0) (oi := ⟨some 3, Op.fieldAddr 36 (Operand.tmp 1) 0, 0, _, _, _⟩) (v := ?_) rfl (by kernel_rfl) (by kernel_rfl) (by kernel_rfl) (by kernel_rfl) (by kernel_rfl) (fun _ _ _ h => h) (by rfl) ?hykr1_1 (((HX1.out.to hb0.out).cell 0 rfl)) ?hrkr1_1
  case hykr1_1 => (intro wS hSw; (try dsimp only at hSw); go_simp; (try with_reducible rfl))
  all_goals try simp only [Act.put, List.setIfInBounds_toArray, List.set_cons_zero, List.set_cons_succ]
  refine wpAnyE_take (i := 1) (oi := ⟨some 4, Op.load 34 (Operand.tmp 3), 34, _, _, _⟩) (v := ?_) rfl (by kernel_rfl) (by kernel_rfl) (by kernel_rfl) (by kernel_rfl) (by kernel_rfl) (fun _ _ _ h => h) (by rfl) ?hykr1_2 (((HX1.out.to hb0.out).cell 0 rfl)) ?hrkr1_2
  case hykr1_2 => (intro wS hSw; (try dsimp only at hSw); go_simp; (try with_reducible rfl))
  all_goals try simp only [Act.put, List.setIfInBounds_toArray, List.set_cons_zero, List.set_cons_succ]
  refine wpAnyE_take (i := 2) (oi := ⟨some 5, Op.call { callee := Callee.builtin Builtin.len, args := #[Operand.tmp 4], argTypes := #[34] }, 3, _, _, _⟩) (v := ?_) rfl (by kernel_rfl) (by kernel_rfl) (by kernel_rfl) (by kernel_rfl) (by kernel_rfl) (fun _ _ _ h => h) (by rfl) ?hykr1_3 (((HX1.out.to hb0.out).cell 0 rfl)) ?hrkr1_3
  case hykr1_3 => (intro wS hSw; (try dsimp only at hSw); go_simp; (try with_reducible rfl))
  all_goals try simp only [Act.put, List.setIfInBounds_toArray, List.set_cons_zero, List.set_cons_succ]
  refine wpAnyE_take (i := 3) (oi := ⟨some 6, Op.fieldAddr 36 (Operand.tmp 1) 0, 0, _, _, _⟩) (v := ?_) rfl (by kernel_rfl) (by kernel_rfl) (by kernel_rfl) (by kernel_rfl) (by kernel_rfl) (fun _ _ _ h => h) (by rfl) ?hykr1_4 (((HX1.out.to hb0.out).cell 0 rfl)) ?hrkr1_4
  case hykr1_4 => (intro wS hSw; (try dsimp only at hSw); go_simp; (try with_reducible rfl))
  all_goals try simp only [Act.put, List.setIfInBounds_toArray, List.set_cons_zero, List.set_cons_succ]
  refine wpAnyE_take (i := 4) (oi := ⟨some 7, Op.load 34 (Operand.tmp 6), 34, _, _, _⟩) (v := ?_) rfl (by kernel_rfl) (by kernel_rfl) (by kernel_rfl) (by kernel_rfl) (by kernel_rfl) (fun _ _ _ h => h) (by rfl) ?hykr1_5 (((HX1.out.to hb0.out).cell 0 rfl)) ?hrkr1_5
  case hykr1_5 => (intro wS hSw; (try dsimp only at hSw); go_simp; (try with_reducible rfl))
  all_goals try simp only [Act.put, List.setIfInBounds_toArray, List.set_cons_zero, List.set_cons_succ]
  refine wpAnyD_one (i := 5) (oi := ⟨some 8, Op.call { callee := Callee.value (Operand.func 52), args := #[Operand.tmp 7], argTypes := #[34] }, 29, _, _, _⟩) rfl (by kernel_rfl) (by rfl) (fun K hK => ?_)
  go_simp
  go_at_call 52
  refine (HRT.out W0 hb0.out).mono ?_
  rintro e W2 ⟨rfl, hb2⟩
  have hbb := Lib.hid (hb0.out.trans (hb2.mono hb0.out.size))
  go_simp
  refine hK _ _ (fun _ => ?_) ?_
  · exact ((HX1.out.to hbb.out).cell 0 rfl)
  clear hK K
  try simp only [Act.put, List.setIfInBounds_toArray, List.set_cons_zero, List.set_cons_succ]
  refine wpAnyD_one (i := 6) (oi := ⟨some 9, Op.build 40 #[(0, Operand.tmp 5), (1, Operand.tmp 8)], 40, _, _, _⟩) rfl (by kernel_rfl) (by rfl) (fun K hK => ?_)
  refine wp_built 40 [(0, .tmp 5), (1, .tmp 8)] rfl [(0, .int .i64 (n : Int)), (1, hashV r)] rfl _ HBU.out ?_
  refine hK _ _ (fun h => absurd h (by decide)) ?_
  clear hK K
  try simp only [Act.put, List.setIfInBounds_toArray, List.set_cons_zero, List.set_cons_succ]
  refine wpAnyD_one (i := 7) (oi := ⟨none, Op.store 40 (Operand.tmp 2) (Operand.tmp 9), 0, _, _, _⟩) rfl (by kernel_rfl) (by rfl) (fun K hK => ?_)
  have hq := (HR2.out.to hbb.out)
  unfold ABox at hq
  refine wp_store_row 40 (.tmp 2) (.tmp 9) rfl (w.heap.size + 1) (headL n r).toArray ?_ ?_ 40 zhead.toArray hq (by rw [HSZ.out]; kernel_rfl) (by rw [HSZ.out]; rfl) HONE.out ?_
  · rfl
  · rfl
  refine hK _ _ (fun h => absurd h (by decide)) ?_
  clear hK K
  try simp only [Act.put]
  refine wpAnyD_done (by kernel_rfl) ?_ _
  have HX := Lib.hid (setRow_heap _ (w.heap.size + 1) _ (headL n r).toArray _ _ hq)
  unfold Exit.then
  go_wp2_with fail
  exact bodyPost_ret (v := .agg (headL n r).toArray) (results_cell_row Tryd.results18 _ _ (w.heap.size + 1) _ _ (0, 0) _ rfl HX.out Tryd.underlying40 rfl (by rw [HSZ.out]; kernel_rfl)) rfl ⟨by rw [HRE.out], below_setRow (HB.out.trans (hbb.out.mono HB.out.size)) (by omega) _⟩
set_option maxRecDepth 100000 in
set_option maxHeartbeats 4000000 in
theorem rlast_any (A B : Option Addr) (ca n cb : Nat) (N : List ByteArray) (x : ByteArray) (w : World) (hn : Sl w (fun b => b < w.heap.size) B cb N) :
    Calls Tryd.prog 46 #[.agg #[.slice A n ca, .slice B N.length cb], .string x] w fun e w' => e = .returned (.int .i64 (lastIx N x)) ∧ Below w.heap.size w w' := by
  have hlen : N.length ≤ 9223372036854775807 := by have := hn.1; have := hn.2.1; unfold maxLen at this; omega
  have hba : Below w.heap.size w (w.alloc (.cells #[.slice A n ca, .slice B N.length cb] 36)) := (Below.refl _ _).alloc (Nat.le_refl _) _
  have HX1 : Hid (ABox (w.alloc (.cells #[.slice A n ca, .slice B N.length cb] 36)) w.heap.size 36 [.slice A n ca, .slice B N.length cb]) := Lib.hid (heap_alloc_new w _)
  have HB := Lib.hid hba
  have HN := Lib.hid (hn.to hba)
  clear hba hn
  go_enter Tryd.func46, Tryd.ntmps46
  go_upto_region 1 with (fail)
  generalize hw1 : World.alloc w _ = w1
  have hw2 : (w.alloc (.cells #[.slice A n ca, .slice B N.length cb] 36)) = w1 := hw1
  rw [hw2] at HX1 HB HN
  clear hw1 hw2
  go_wp2_with fail
  go_loopw [5, 6] (fun o i wr => ∃ k : Nat, k ≤ N.length ∧ i = .int .i64 (k : Int) ∧ o = .int .i64 (lastTo N x k) ∧ w1 = wr) (fun _ i _ => N.length - (intOf i).toNat)
  case atStart => exact ⟨0, Nat.zero_le _, rfl, rfl, rfl⟩
  case round =>
    obtain ⟨k, hk, rfl, rfl, rfl⟩ := hrel
    have k1 := HX1.out.cell 1 rfl
    have hk0 : (0 : Int) ≤ (k : Int) := by omega
    by_cases hlt : k < N.length
    · have hkl : (k : Int) < (N.length : Int) := by omega
      obtain ⟨b, o, rfl, _, hbl, c0⟩ := str_at HN.out hlt
      have hstep : lastTo N x (k + 1) = if N[k] = x then (k : Int) else lastTo N x k := by rw [lastTo, List.getElem?_eq_getElem hlt]; rfl
      by_cases heq : N[k] = x
      · have hB : (N[k].toList == x.toList) = true := tl_eq heq
        have hS : lastTo N x (k + 1) = (k : Int) := by rw [hstep, if_pos heq]
        have HS := Lib.hid hS
        clear heq hstep hS
        generalize lastTo N x k = lt at *
        go_wp2_with fail
        go_roundw
        case rel => exact ⟨k + 1, by omega, by go_num, by rw [HS.out], trivial⟩
        case measure => simp [intOf]; omega
      · have hB : (N[k].toList == x.toList) = false := tl_ne heq
        have hS : lastTo N x (k + 1) = lastTo N x k := by rw [hstep, if_neg heq]
        have HS := Lib.hid hS
        clear heq hstep hS
        generalize lastTo N x k = lt at *
        go_wp2_with fail
        go_roundw
        case rel => exact ⟨k + 1, by omega, by go_num, by rw [HS.out], trivial⟩
        case measure => simp [intOf]; omega
    · have hkl : ¬ (k : Int) < (N.length : Int) := by omega
      have HE : Hid (lastTo N x k = lastIx N x) := Lib.hid (by unfold lastIx; rw [show k = N.length from by omega])
      generalize lastTo N x k = lt at *
      go_wp2_with fail
      go_ret
      exact ⟨ret_int HE.out, HB.out⟩
end Go.Proofs.YthcklfelofpffaaDoor
