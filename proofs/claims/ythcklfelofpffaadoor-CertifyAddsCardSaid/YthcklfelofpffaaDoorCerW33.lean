/- The reference of SHA-256: one block. No condition. -/
import Derived.Test.YthcklfelofpffaaDoorCerW32
namespace Go.Proofs.YthcklfelofpffaaDoor
open Go.RowKit
/-- What the walk through a block holds: the chaining values, the result, the words, the constants, the working values. -/
structure RB (w wr : World) (P R O C V : Nat) (hv ws vs : List W32) : Prop where
  eP : P = w.heap.size
  eR : R = w.heap.size + 1
  eO : R < O
  eC : O < C
  eV : C < V
  h : WBox wr P 96 hv
  r : WBox wr R 96 (List.replicate 8 0)
  o : WBox wr O 139 ws
  k : WBox wr C 139 KW
  v : WBox wr V 96 vs
  b : Below w.heap.size w wr
section
variable {w wr w' : World} {P R O C V : Nat} {hv ws vs : List W32}
theorem RB.to (h : RB w wr P R O C V hv ws vs) (hb : Below wr.heap.size wr w') : RB w w' P R O C V hv ws vs :=
  ⟨h.eP, h.eR, h.eO, h.eC, h.eV, h.h.to hb, h.r.to hb, h.o.to hb, h.k.to hb, h.v.to hb, h.b.trans (hb.mono h.b.size)⟩
theorem RB.setH (h : RB w wr P R O C V hv ws vs) (i : Nat) (x : W32) : RB w (wr.setCell ⟨P, i, none⟩ (.int .u32 (u x))) P R O C V (hv.set i x) ws vs := by
  have h1 := h.eP; have h2 := h.eR; have h3 := h.eO; have h4 := h.eC; have h5 := h.eV
  exact ⟨h1, h2, h3, h4, h5, h.h.set i x, (heap_set _ _ _ _ (by omega)).trans h.r, (heap_set _ _ _ _ (by omega)).trans h.o, (heap_set _ _ _ _ (by omega)).trans h.k, (heap_set _ _ _ _ (by omega)).trans h.v, h.b.setCell (p := ⟨P, i, none⟩) (by show w.heap.size ≤ P; omega) _⟩
theorem RB.rowV (h : RB w wr P R O C V hv ws vs) (vs' : List W32) (hf : ∃ t, wr.heap[V]? = some (.cells (vs.map enc32).toArray t (0, 0))) : RB w (wr.setRow V (vs'.map enc32).toArray) P R O C V hv ws vs' := by
  have h1 := h.eP; have h2 := h.eR; have h3 := h.eO; have h4 := h.eC; have h5 := h.eV
  exact ⟨h1, h2, h3, h4, h5, (setRow_other _ _ _ _ (by omega)).trans h.h, (setRow_other _ _ _ _ (by omega)).trans h.r, (setRow_other _ _ _ _ (by omega)).trans h.o, (setRow_other _ _ _ _ (by omega)).trans h.k, setRow_heap _ _ _ _ _ _ h.v, below_setRow h.b (by omega) _⟩
end
theorem u_notX (a : W32) : bits .xor .u32 (if IntKind.u32.signed = true then -1 else IntKind.u32.max) (u a) = u (~~~a) := by
  have e : (if IntKind.u32.signed = true then (-1 : Int) else IntKind.u32.max) = u (BitVec.allOnes 32) := by decide +kernel
  rw [e, u_xor, BitVec.allOnes_xor]
theorem KW_at (k : Nat) (h : k < 64) : KW.getD k 0 = BitVec.ofNat 32 (KS.getD k 0) := by
  have : ∀ k, k < 64 → KW.getD k 0 = BitVec.ofNat 32 (KS.getD k 0) := by decide +kernel
  exact this k h
theorem KW_length : KW.length = 64 := rfl
set_option maxRecDepth 100000 in
set_option maxHeartbeats 4000000 in
theorem rblock_any (h0 h1 h2 h3 h4 h5 h6 h7 : W32) (b : List UInt8) (A : Option Addr) (c : Nat) (w : World) (hs : Sl w (fun b => b < w.heap.size) A c b) (h64 : 64 ≤ b.length) :
    Calls Tryd.prog 102 #[.agg #[enc32 h0, enc32 h1, enc32 h2, enc32 h3, enc32 h4, enc32 h5, enc32 h6, enc32 h7], .slice A b.length c] w fun e w' => e = .returned (wordsV (blk [h0, h1, h2, h3, h4, h5, h6, h7] b)) ∧ Below w.heap.size w w' := by
  unfold enc32
  have HBLK : Hid (blk [h0, h1, h2, h3, h4, h5, h6, h7] b = List.zipWith (· + ·) [h0, h1, h2, h3, h4, h5, h6, h7] (rnds [h0, h1, h2, h3, h4, h5, h6, h7] (sched b 64) 64)) := Lib.hid rfl
  have HWL := Lib.hid (sched_length b 64)
  have hb1 : Below w.heap.size w ((w.alloc (.cells (([h0, h1, h2, h3, h4, h5, h6, h7] : List W32).map enc32).toArray 96)).alloc (.cells ((List.replicate 8 (0 : W32)).map enc32).toArray 96)) := ((Below.refl _ _).alloc (Nat.le_refl _) _).alloc (by simp) _
  have HP : Hid (WBox ((w.alloc (.cells (([h0, h1, h2, h3, h4, h5, h6, h7] : List W32).map enc32).toArray 96)).alloc (.cells ((List.replicate 8 (0 : W32)).map enc32).toArray 96)) w.heap.size 96 [h0, h1, h2, h3, h4, h5, h6, h7]) := Lib.hid ((Below.heap_alloc _ _ _ (by simp)).trans (heap_alloc_new w _))
  have HR : Hid (WBox ((w.alloc (.cells (([h0, h1, h2, h3, h4, h5, h6, h7] : List W32).map enc32).toArray 96)).alloc (.cells ((List.replicate 8 (0 : W32)).map enc32).toArray 96)) (w.heap.size + 1) 96 (List.replicate 8 0)) := Lib.hid (heap_at (by simp))
  have HB := Lib.hid hb1
  have HSC := Lib.hid (schedule_any b A c _ (hs.to hb1) h64)
  clear hb1 hs
  go_enter Tryd.func102, Tryd.ntmps102
  go_upto_region 1 with (fail)
  generalize hw1 : World.alloc (World.alloc w _) _ = w1
  have hw2 : ((w.alloc (.cells (([h0, h1, h2, h3, h4, h5, h6, h7] : List W32).map enc32).toArray 96)).alloc (.cells ((List.replicate 8 (0 : W32)).map enc32).toArray 96)) = w1 := hw1
  rw [hw2] at HP HR HB HSC
  clear hw1 hw2
  go_wp2_with fail
  refine HSC.out.mono ?_
  rintro e w2 ⟨rfl, hb2⟩
  obtain ⟨ws, hws⟩ : ∃ ws, ws = sched b 64 := ⟨_, rfl⟩
  rw [← hws] at HBLK HWL ⊢
  clear hws HSC
  have HSZ : Hid ((ws.map enc32).toArray.size = 64) := Lib.hid (by rw [words_size, HWL.out])
  have HONE := Lib.hid (words_one ws)
  have hal := heap_alloc_new w2 (.cells ((List.replicate 64 (0 : W32)).map enc32).toArray 139)
  have hb3 : Below w2.heap.size w2 ((w2.alloc (.cells ((List.replicate 64 (0 : W32)).map enc32).toArray 139)).setRow w2.heap.size (ws.map enc32).toArray) := below_setRow ((Below.refl _ _).alloc (Nat.le_refl _) _) (Nat.le_refl _) _
  have HO : Hid (WBox ((w2.alloc (.cells ((List.replicate 64 (0 : W32)).map enc32).toArray 139)).setRow w2.heap.size (ws.map enc32).toArray) w2.heap.size 139 ws) := Lib.hid (setRow_heap _ _ _ _ _ _ hal)
  have HP3 := Lib.hid ((HP.out.to hb2).to hb3)
  have HR3 := Lib.hid ((HR.out.to hb2).to hb3)
  have HB3 := Lib.hid ((HB.out.trans (hb2.mono HB.out.size)).trans (hb3.mono (Nat.le_trans HB.out.size hb2.size)))
  have HOR : Hid (w.heap.size + 1 < w2.heap.size) := Lib.hid (HR.out.to hb2).lt
  clear HP HR HB hb2 hb3
  unfold wordsV
  go_upto_region 2 with (first
    | (refine wpList_store_row rfl 139 (.tmp 5) (.tmp 15) rfl w2.heap.size (ws.map enc32).toArray rfl rfl 139 _ hal (by rw [HSZ.out]; kernel_rfl) (by rw [HSZ.out]; rfl) HONE.out ?_)
    | fail)
  generalize hw3 : World.setRow (World.alloc w2 _) _ _ = w3
  have hw4 : ((w2.alloc (.cells ((List.replicate 64 (0 : W32)).map enc32).toArray 139)).setRow w2.heap.size (ws.map enc32).toArray) = w3 := hw3
  rw [hw4] at HO HP3 HR3 HB3
  clear hw3 hw4 hal HSZ HONE
  generalize w2.heap.size = O at *
  have HRD := Lib.hid (round_any w3)
  go_wp2_with fail
  refine HRD.out.mono ?_
  rintro e w4 ⟨rfl, hb4⟩
  have HSZ : Hid ((KW.map enc32).toArray.size = 64) := Lib.hid (by rw [words_size, KW_length])
  have HONE := Lib.hid (words_one KW)
  have hal := heap_alloc_new w4 (.cells ((List.replicate 64 (0 : W32)).map enc32).toArray 139)
  have hb5 : Below w4.heap.size w4 ((w4.alloc (.cells ((List.replicate 64 (0 : W32)).map enc32).toArray 139)).setRow w4.heap.size (KW.map enc32).toArray) := below_setRow ((Below.refl _ _).alloc (Nat.le_refl _) _) (Nat.le_refl _) _
  have HC : Hid (WBox ((w4.alloc (.cells ((List.replicate 64 (0 : W32)).map enc32).toArray 139)).setRow w4.heap.size (KW.map enc32).toArray) w4.heap.size 139 KW) := Lib.hid (setRow_heap _ _ _ _ _ _ hal)
  have HP5 := Lib.hid ((HP3.out.to hb4).to hb5)
  have HR5 := Lib.hid ((HR3.out.to hb4).to hb5)
  have HO5 := Lib.hid ((HO.out.to hb4).to hb5)
  have HB5 := Lib.hid ((HB3.out.trans (hb4.mono HB3.out.size)).trans (hb5.mono (Nat.le_trans HB3.out.size hb4.size)))
  have HOC : Hid (O < w4.heap.size) := Lib.hid (HO.out.to hb4).lt
  clear HP3 HR3 HB3 HO hb4 hb5 HRD
  unfold wordsV
  go_upto_region 3 with (first
    | (refine wpList_store_row rfl 139 (.tmp 6) (.tmp 16) rfl w4.heap.size (KW.map enc32).toArray rfl rfl 139 _ hal (by rw [HSZ.out]; kernel_rfl) (by rw [HSZ.out]; rfl) HONE.out ?_)
    | fail)
  generalize hw3 : World.setRow (World.alloc w4 _) _ _ = w5
  have hw4 : ((w4.alloc (.cells ((List.replicate 64 (0 : W32)).map enc32).toArray 139)).setRow w4.heap.size (KW.map enc32).toArray) = w5 := hw3
  rw [hw4] at HC HP5 HR5 HB5 HO5
  clear hw3 hw4 hal HSZ HONE
  generalize w4.heap.size = C at *
  have hp5 := HP5.out
  unfold WBox at hp5
  have hal : ((w5.alloc (.cells ((List.replicate 8 (0 : W32)).map enc32).toArray 96))).heap[w5.heap.size]? = some (.cells ((List.replicate 8 (0 : W32)).map enc32).toArray 96 (0, 0)) := heap_alloc_new w5 _
  have hb6 : Below w5.heap.size w5 ((w5.alloc (.cells ((List.replicate 8 (0 : W32)).map enc32).toArray 96)).setRow w5.heap.size (([h0, h1, h2, h3, h4, h5, h6, h7] : List W32).map enc32).toArray) := below_setRow ((Below.refl _ _).alloc (Nat.le_refl _) _) (Nat.le_refl _) _
  have HRB : Hid (RB w ((w5.alloc (.cells ((List.replicate 8 (0 : W32)).map enc32).toArray 96)).setRow w5.heap.size (([h0, h1, h2, h3, h4, h5, h6, h7] : List W32).map enc32).toArray) w.heap.size (w.heap.size + 1) O C w5.heap.size [h0, h1, h2, h3, h4, h5, h6, h7] ws [h0, h1, h2, h3, h4, h5, h6, h7]) := Lib.hid
    ⟨rfl, rfl, HOR.out, HOC.out, HC.out.lt, HP5.out.to hb6, HR5.out.to hb6, HO5.out.to hb6, HC.out.to hb6, setRow_heap _ _ _ _ _ _ hal, HB5.out.trans (hb6.mono HB5.out.size)⟩
  have HONE := Lib.hid (words_one [h0, h1, h2, h3, h4, h5, h6, h7])
  have HHL : Hid (([h0, h1, h2, h3, h4, h5, h6, h7] : List W32).length = 8) := Lib.hid rfl
  clear HP5 HR5 HB5 HO5 HC HOR HOC hb6
  go_upto_region 4 with (first
    | (refine wpList_load_row rfl 96 (.tmp 2) rfl w.heap.size ?_ 96 (([h0, h1, h2, h3, h4, h5, h6, h7] : List W32).map enc32).toArray (0, 0) _ hp5 Tryd.underlying96 ?_ ?_ ?_; rfl; rfl; kernel_rfl)
    | (refine wpList_store_row rfl 96 (.tmp 7) (.tmp 17) rfl w5.heap.size (([h0, h1, h2, h3, h4, h5, h6, h7] : List W32).map enc32).toArray ?_ ?_ 96 _ hal (by kernel_rfl) rfl HONE.out ?_; rfl; rfl)
    | fail)
  generalize hw3 : World.setRow (World.alloc w5 _) _ _ = w6
  have hw4 : ((w5.alloc (.cells ((List.replicate 8 (0 : W32)).map enc32).toArray 96)).setRow w5.heap.size (([h0, h1, h2, h3, h4, h5, h6, h7] : List W32).map enc32).toArray) = w6 := hw3
  rw [hw4] at HRB
  clear hw3 hw4 hal hp5 HONE
  generalize w5.heap.size = V at *
  obtain ⟨P, hP⟩ : ∃ P, P = w.heap.size := ⟨_, rfl⟩
  obtain ⟨R, hR⟩ : ∃ R, R = w.heap.size + 1 := ⟨_, rfl⟩
  rw [← hR, ← hP] at HRB ⊢
  clear hR hP
  go_wp2_with fail
  obtain ⟨hv, hhv⟩ : ∃ hv : List W32, hv = [h0, h1, h2, h3, h4, h5, h6, h7] := ⟨_, rfl⟩
  have HBL2 : Hid (blk [h0, h1, h2, h3, h4, h5, h6, h7] b = List.zipWith (· + ·) hv (rnds hv ws 64)) := Lib.hid (by rw [hhv]; exact HBLK.out)
  rw [← hhv] at HRB HHL
  clear hhv HBLK
  go_loopw [8, 9, 10, 11, 12] (fun i _ _ _ _ wr => ∃ k : Nat, k ≤ 64 ∧ i = .int .i64 k ∧ Hid (RB w wr P R O C V hv ws (rnds hv ws k))) (fun i _ _ _ _ _ => 64 - (intOf i).toNat)
  case atStart => exact ⟨0, by omega, rfl, HRB⟩
  case round =>
    obtain ⟨k, hk, rfl, HST⟩ := hrel
    by_cases hlt : k < 64
    · have hlt2 : (k : Int) < 64 := by omega
      have hk0 : (0 : Int) ≤ (k : Int) := by omega
      have HNX : Hid (rnds hv ws (k + 1) = rnd (rnds hv ws k) (BitVec.ofNat 32 (KS.getD k 0)) (ws.getD k 0)) := Lib.hid rfl
      obtain ⟨a8, b8, c8, d8, e8, f8, g8, h8, hx8⟩ := list8 (rnds_length HHL.out ws k)
      rw [hx8] at HST HNX
      clear hx8
      have HCK : Hid (∀ W, RB w W P R O C V hv ws [a8, b8, c8, d8, e8, f8, g8, h8] → W.cell? ⟨O, k, none⟩ = some (.int .u32 (u (ws.getD k 0))) ∧ W.cell? ⟨C, k, none⟩ = some (.int .u32 (u (BitVec.ofNat 32 (KS.getD k 0))))) := Lib.hid (fun W h => ⟨h.o.cell k (by rw [HWL.out]; exact hlt), by rw [← KW_at k hlt]; exact h.k.cell k hlt⟩)
      generalize BitVec.ofNat 32 (KS.getD k 0) = kk at *
      generalize ws.getD k 0 = wk at *
      obtain ⟨v0, v1, v2, v3, v4, v5, v6, v7⟩ := HST.out.v.cells8
      have E6 := Lib.hid (fun W => rrot_any e8 6 (by omega) (by omega) W)
      have E11 := Lib.hid (fun W => rrot_any e8 11 (by omega) (by omega) W)
      have E25 := Lib.hid (fun W => rrot_any e8 25 (by omega) (by omega) W)
      have A2 := Lib.hid (fun W => rrot_any a8 2 (by omega) (by omega) W)
      have A13 := Lib.hid (fun W => rrot_any a8 13 (by omega) (by omega) W)
      have A22 := Lib.hid (fun W => rrot_any a8 22 (by omega) (by omega) W)
      go_upto_region 9 with (fail)
      clear v0 v1 v2 v3 v4 v5 v6 v7
      refine wp_region_calm (by kernel_rfl) (by kernel_rfl) ?_
      intro T5 hT5 f hf hg
      have v5 : ∀ d, (f d).cell? ⟨V, 5, none⟩ = some (.int .u32 (u f8)) := fun d => (HST.out.to (hf d)).v.cells8.2.2.2.2.2.1
      have v6 : ∀ d, (f d).cell? ⟨V, 6, none⟩ = some (.int .u32 (u g8)) := fun d => (HST.out.to (hf d)).v.cells8.2.2.2.2.2.2.1
      have v7 : ∀ d, (f d).cell? ⟨V, 7, none⟩ = some (.int .u32 (u h8)) := fun d => (HST.out.to (hf d)).v.cells8.2.2.2.2.2.2.2
      have vw : ∀ d, (f d).cell? ⟨O, k, none⟩ = some (.int .u32 (u wk)) := fun d => (HCK.out _ (HST.out.to (hf d))).1
      have vk : ∀ d, (f d).cell? ⟨C, k, none⟩ = some (.int .u32 (u kk)) := fun d => (HCK.out _ (HST.out.to (hf d))).2
      have HT1 : Hid (∀ d, Calls Tryd.prog 106 #[.int .u32 (u e8), .int .i64 6] (f d) fun e w' => e = .returned (.int .u32 (u (rotr e8 6))) ∧ ∃ m, w' = f m) := Lib.hid (fun d => (E6.out (f d)).mono (by rintro e w' ⟨rfl, hb⟩; exact ⟨rfl, hg d w' hb⟩))
      have HT2 : Hid (∀ d, Calls Tryd.prog 106 #[.int .u32 (u e8), .int .i64 11] (f d) fun e w' => e = .returned (.int .u32 (u (rotr e8 11))) ∧ ∃ m, w' = f m) := Lib.hid (fun d => (E11.out (f d)).mono (by rintro e w' ⟨rfl, hb⟩; exact ⟨rfl, hg d w' hb⟩))
      have HT3 : Hid (∀ d, Calls Tryd.prog 106 #[.int .u32 (u e8), .int .i64 25] (f d) fun e w' => e = .returned (.int .u32 (u (rotr e8 25))) ∧ ∃ m, w' = f m) := Lib.hid (fun d => (E25.out (f d)).mono (by rintro e w' ⟨rfl, hb⟩; exact ⟨rfl, hg d w' hb⟩))
      have HF5 := Lib.hid hf
      clear hf hg
      have q1 := u_xor (rotr e8 6) (rotr e8 11)
      have q2 := u_xor (rotr e8 6 ^^^ rotr e8 11) (rotr e8 25)
      rw [show rotr e8 6 ^^^ rotr e8 11 ^^^ rotr e8 25 = bg1 e8 from rfl] at q2
      have q3 := u_addm h8 (bg1 e8)
      have q4 := u_and e8 f8
      have q5 := u_notX e8
      have q6 := u_and (~~~e8) g8
      have q6b := u_xor (e8 &&& f8) (~~~e8 &&& g8)
      rw [ch_eq] at q6b
      have q7 := u_addm (h8 + bg1 e8) (chW e8 f8 g8)
      have q8 := u_addm (h8 + bg1 e8 + chW e8 f8 g8) kk
      have q9 := u_addm (h8 + bg1 e8 + chW e8 f8 g8 + kk) wk
      obtain ⟨one, hone⟩ : ∃ x, x = h8 + bg1 e8 + chW e8 f8 g8 + kk + wk := ⟨_, rfl⟩
      have HR9 : Hid (rnd [a8, b8, c8, d8, e8, f8, g8, h8] kk wk = [one + (bg0 a8 + majW a8 b8 c8), a8, b8, c8, d8 + one, e8, f8, g8]) := Lib.hid (by rw [hone]; rfl)
      rw [← hone] at q9
      clear hone
      generalize h8 + bg1 e8 + chW e8 f8 g8 + kk = y1 at *
      generalize h8 + bg1 e8 + chW e8 f8 g8 = y2 at *
      generalize h8 + bg1 e8 = y3 at *
      generalize chW e8 f8 g8 = y4 at *
      generalize (~~~e8 &&& g8) = y5 at *
      generalize e8 &&& f8 = y6 at *
      generalize ~~~e8 = y9 at *
      generalize bg1 e8 = y7 at *
      generalize rotr e8 6 ^^^ rotr e8 11 = y8 at *
      repeat (go_big_quiet_step (first
        | (go_at_call 106; with_reducible refine Calls.mono (HT1.out _) ?_; rintro e w6 ⟨rfl, hm⟩; exact ⟨rfl, hm⟩)
        | (go_at_call 106; with_reducible refine Calls.mono (HT2.out _) ?_; rintro e w6 ⟨rfl, hm⟩; exact ⟨rfl, hm⟩)
        | (go_at_call 106; with_reducible refine Calls.mono (HT3.out _) ?_; rintro e w6 ⟨rfl, hm⟩; exact ⟨rfl, hm⟩)))
      refine wpQuiet_nil ?_
      rintro _ ⟨nq, rfl⟩
      rw [q9]
      have HST2 := Lib.hid (HST.out.to (HF5.out nq))
      clear HF5 v5 v6 v7 vw vk HST q1 q2 q3 q4 q5 q6 q6b q7 q8 q9 HT1 HT2 HT3 E6 E11 E25 HCK
      generalize f nq = wd at *
      unfold Exit.then
      go_upto_region 10 with (fail)
      refine wp_region_calm (by kernel_rfl) (by kernel_rfl) ?_
      intro T6 hT6 f hf hg
      have v1 : ∀ d, (f d).cell? ⟨V, 1, none⟩ = some (.int .u32 (u b8)) := fun d => (HST2.out.to (hf d)).v.cells8.2.1
      have v2 : ∀ d, (f d).cell? ⟨V, 2, none⟩ = some (.int .u32 (u c8)) := fun d => (HST2.out.to (hf d)).v.cells8.2.2.1
      have HT1 : Hid (∀ d, Calls Tryd.prog 106 #[.int .u32 (u a8), .int .i64 2] (f d) fun e w' => e = .returned (.int .u32 (u (rotr a8 2))) ∧ ∃ m, w' = f m) := Lib.hid (fun d => (A2.out (f d)).mono (by rintro e w' ⟨rfl, hb⟩; exact ⟨rfl, hg d w' hb⟩))
      have HT2 : Hid (∀ d, Calls Tryd.prog 106 #[.int .u32 (u a8), .int .i64 13] (f d) fun e w' => e = .returned (.int .u32 (u (rotr a8 13))) ∧ ∃ m, w' = f m) := Lib.hid (fun d => (A13.out (f d)).mono (by rintro e w' ⟨rfl, hb⟩; exact ⟨rfl, hg d w' hb⟩))
      have HT3 : Hid (∀ d, Calls Tryd.prog 106 #[.int .u32 (u a8), .int .i64 22] (f d) fun e w' => e = .returned (.int .u32 (u (rotr a8 22))) ∧ ∃ m, w' = f m) := Lib.hid (fun d => (A22.out (f d)).mono (by rintro e w' ⟨rfl, hb⟩; exact ⟨rfl, hg d w' hb⟩))
      have HF5 := Lib.hid hf
      clear hf hg
      have q1 := u_xor (rotr a8 2) (rotr a8 13)
      have q2 := u_xor (rotr a8 2 ^^^ rotr a8 13) (rotr a8 22)
      rw [show rotr a8 2 ^^^ rotr a8 13 ^^^ rotr a8 22 = bg0 a8 from rfl] at q2
      have q3 := u_and a8 b8
      have q4 := u_and a8 c8
      have q5 := u_xor (a8 &&& b8) (a8 &&& c8)
      have q6 := u_and b8 c8
      have q6b := u_xor ((a8 &&& b8) ^^^ (a8 &&& c8)) (b8 &&& c8)
      rw [maj_eq] at q6b
      have q7 := u_addm (bg0 a8) (majW a8 b8 c8)
      generalize bg0 a8 + majW a8 b8 c8 = two at *
      generalize majW a8 b8 c8 = z1 at *
      generalize (a8 &&& b8) ^^^ (a8 &&& c8) = z2 at *
      generalize a8 &&& b8 = z3 at *
      generalize a8 &&& c8 = z4 at *
      generalize b8 &&& c8 = z7 at *
      generalize bg0 a8 = z5 at *
      generalize rotr a8 2 ^^^ rotr a8 13 = z6 at *
      repeat (go_big_quiet_step (first
        | (go_at_call 106; with_reducible refine Calls.mono (HT1.out _) ?_; rintro e w6 ⟨rfl, hm⟩; exact ⟨rfl, hm⟩)
        | (go_at_call 106; with_reducible refine Calls.mono (HT2.out _) ?_; rintro e w6 ⟨rfl, hm⟩; exact ⟨rfl, hm⟩)
        | (go_at_call 106; with_reducible refine Calls.mono (HT3.out _) ?_; rintro e w6 ⟨rfl, hm⟩; exact ⟨rfl, hm⟩)))
      refine wpQuiet_nil ?_
      rintro _ ⟨nq, rfl⟩
      rw [q7]
      have HST3 := Lib.hid (HST2.out.to (HF5.out nq))
      clear HF5 v1 v2 HST2 q1 q2 q3 q4 q5 q6 q6b q7 HT1 HT2 HT3 A2 A13 A22
      generalize f nq = we at *
      unfold Exit.then
      obtain ⟨v0, v1, v2, v3, v4, v5, v6, v7⟩ := HST3.out.v.cells8
      have hvv := HST3.out.v
      unfold WBox at hvv
      have q1 := u_addm one two
      have q2 := u_addm d8 one
      generalize one + two = x1 at *
      generalize d8 + one = x2 at *
      have HN := Lib.hid (HST3.out.rowV [x1, a8, b8, c8, x2, e8, f8, g8] ⟨_, hvv⟩)
      have HON := Lib.hid (words_one [x1, a8, b8, c8, x2, e8, f8, g8])
      go_wp2_with (first
        | (refine wpList_store_row rfl 96 (.tmp 7) (.tmp 97) rfl V (([x1, a8, b8, c8, x2, e8, f8, g8] : List W32).map enc32).toArray ?_ ?_ 96 _ hvv (by kernel_rfl) rfl HON.out ?_; rfl; rfl)
        | fail)
      go_roundw
      case rel => exact ⟨k + 1, by omega, by go_num, by rw [HNX.out, HR9.out]; exact HN⟩
      case measure => simp [intOf]; omega
    · obtain rfl : k = 64 := by omega
      have HVL := Lib.hid (rnds_length HHL.out ws 64)
      have HBK : Hid (blk [h0, h1, h2, h3, h4, h5, h6, h7] b = addTo hv (rnds hv ws 64) 8) := Lib.hid (by rw [addTo_8 HHL.out HVL.out]; exact HBL2.out)
      obtain ⟨vs, hvs⟩ : ∃ vs, vs = rnds hv ws 64 := ⟨_, rfl⟩
      rw [← hvs] at HST HVL HBK
      clear hvs HBL2
      go_wp2_with fail
      go_loopw [13] (fun i wr => ∃ k : Nat, k ≤ 8 ∧ i = .int .i64 k ∧ Hid (RB w wr P R O C V (addTo hv vs k) ws vs)) (fun i _ => 8 - (intOf i).toNat)
      case atStart => exact ⟨0, by omega, rfl, HST⟩
      case round =>
        obtain ⟨k, hk, rfl, hst⟩ := hrel
        by_cases hlt : k < 8
        · have hlt2 : (k : Int) < 8 := by omega
          have hk0 : (0 : Int) ≤ (k : Int) := by omega
          have HQ1 : Hid (∀ w', RB w w' P R O C V (addTo hv vs k) ws vs → w'.cell? ⟨P, k, none⟩ = some (.int .u32 (u (hv.getD k 0))) ∧ w'.cell? ⟨V, k, none⟩ = some (.int .u32 (u (vs.getD k 0))) ∧ ∀ o, w'.frozen? ⟨P, o, none⟩ = false) := Lib.hid (fun w' h => by
            refine ⟨?_, h.v.cell k (by rw [HVL.out]; exact hlt), h.h.fz⟩
            rw [← addTo_ge hv vs k k (Nat.le_refl _)]; exact h.h.cell k (by rw [addTo_length, HHL.out]; exact hlt))
          have HQ3 : Hid (addTo hv vs (k + 1) = (addTo hv vs k).set k (hv.getD k 0 + vs.getD k 0)) := Lib.hid rfl
          generalize hv.getD k 0 = x at *
          generalize vs.getD k 0 = y at *
          go_upto_region 15 with (fail)
          refine wp_region_tail rfl (by kernel_rfl) (by kernel_rfl) ?_
          intro T5 hT5 f hf hg
          have a0 := fun d => (HQ1.out _ (hst.out.to (hf d))).1
          have a1 := fun d => (HQ1.out _ (hst.out.to (hf d))).2.1
          have HF5 := Lib.hid hf
          have q1 := u_addm x y
          clear hf hg
          dsimp only [List.dropLast]
          repeat (go_big_quiet_step (fail))
          refine wpQuiet_nil ?_
          rintro _ ⟨nq, rfl⟩
          refine ⟨rfl, ?_⟩
          have hst1 := Lib.hid (hst.out.to (HF5.out nq))
          have hst2 := Lib.hid (hst1.out.setH k (x + y))
          rw [← HQ3.out] at hst2
          obtain ⟨b0, _, bf⟩ := HQ1.out _ hst1.out
          clear HF5 a0 a1 hst HQ1 HQ3
          generalize f nq = wd at *
          generalize x + y = z at *
          go_simp
          clear b0 bf q1 hst1
          generalize wd.setCell ⟨P, k, none⟩ (.int .u32 (u z)) = wd1 at *
          go_wp2_with fail
          go_roundw
          case rel => exact ⟨.int .i64 ((k : Int) + 1), _, _, _, _, _, _, _, _, _, _, _, _, _, ⟨k + 1, by omega, by go_num, hst2⟩, rfl⟩
          case measure => simp [intOf]; omega
        · obtain rfl : k = 8 := by omega
          have hq := hst.out.r
          have hq2 := hst.out.h
          unfold WBox at hq hq2
          have HSZ : Hid (((addTo hv vs 8).map enc32).toArray.size = 8) := Lib.hid (by rw [words_size, addTo_length, HHL.out])
          have HONE := Lib.hid (words_one (addTo hv vs 8))
          have HX := Lib.hid (setRow_heap _ R _ ((addTo hv vs 8).map enc32).toArray _ _ hq)
          have HBE := Lib.hid (below_setRow hst.out.b (R := R) (by have := hst.out.eR; omega) ((addTo hv vs 8).map enc32).toArray)
          have HRE : Hid (wordsV (blk [h0, h1, h2, h3, h4, h5, h6, h7] b) = .agg ((addTo hv vs 8).map enc32).toArray) := Lib.hid (by rw [HBK.out]; rfl)
          generalize ((addTo hv vs 8).map enc32).toArray = cs at *
          go_wp2_with (first
            | (refine wpList_load_row rfl 96 (.tmp 2) rfl P ?_ 96 cs (0, 0) _ hq2 Tryd.underlying96 ?_ ?_ ?_; rfl; rfl; (rw [HSZ.out]; kernel_rfl))
            | (refine wpList_store_row rfl 96 (.tmp 4) (.tmp 111) rfl R cs ?_ ?_ 96 _ hq (by rw [HSZ.out]; kernel_rfl) (by rw [HSZ.out]; rfl) HONE.out ?_; rfl; rfl)
            | fail)
          exact bodyPost_ret (v := .agg cs) (results_cell_row Tryd.results102 _ _ R _ cs (0, 0) _ rfl HX.out Tryd.underlying96 rfl (by rw [HSZ.out]; kernel_rfl)) rfl ⟨by rw [HRE.out], HBE.out⟩
end Go.Proofs.YthcklfelofpffaaDoor
