/- The reference of SHA-256: the schedule of a block. No condition. -/
import Derived.Test.YthcklfelofpffaaDoorCerW31
namespace Go.Proofs.YthcklfelofpffaaDoor
open Go.RowKit
/-- What the walk holds: the result, the words so far. -/
structure SC (w wr : World) (R O : Nat) (ws : List W32) : Prop where
  eR : R = w.heap.size
  eO : O = w.heap.size + 1
  r : WBox wr R 139 (List.replicate 64 0)
  o : WBox wr O 139 ws
  b : Below w.heap.size w wr
theorem SC.to {w wr w' : World} {R O : Nat} {ws : List W32} (h : SC w wr R O ws) (hb : Below wr.heap.size wr w') : SC w w' R O ws :=
  ⟨h.eR, h.eO, h.r.to hb, h.o.to hb, h.b.trans (hb.mono h.b.size)⟩
theorem SC.setO {w wr : World} {R O : Nat} {ws : List W32} (h : SC w wr R O ws) (i : Nat) (x : W32) : SC w (wr.setCell ⟨O, i, none⟩ (.int .u32 (u x))) R O (ws.set i x) := by
  have h1 := h.eR; have h2 := h.eO
  exact ⟨h1, h2, (heap_set _ _ _ _ (by omega)).trans h.r, h.o.set i x, h.b.setCell (p := ⟨O, i, none⟩) (by show w.heap.size ≤ O; omega) _⟩
theorem sched_set (b : List UInt8) (k : Nat) (h : k < 64) : (fill64 (sched b k)).set k (if k < 16 then word16 b k else nextW (sched b k) k) = fill64 (sched b (k + 1)) := by
  have h2 := fill64_set (l := sched b k) (by rw [sched_length]; omega) (if k < 16 then word16 b k else nextW (sched b k) k)
  rw [sched_length] at h2
  rw [h2, sched]
set_option maxRecDepth 100000 in
set_option maxHeartbeats 4000000 in
theorem schedule_any (b : List UInt8) (A : Option Addr) (c : Nat) (w : World) (hs : Sl w (fun b => b < w.heap.size) A c b) (h64 : 64 ≤ b.length) :
    Calls Tryd.prog 104 #[.slice A b.length c] w fun e w' => e = .returned (wordsV (sched b 64)) ∧ Below w.heap.size w w' := by
  have HS := Lib.hid hs
  obtain ⟨bA, oA, rfl, hbA, hbA2, hxA⟩ := HS.out.2.2 (by omega)
  have HS' : Hid (∀ wr, Below w.heap.size w wr → ∀ i, i < b.length → wr.cell? ⟨bA, oA + i, none⟩ = some (.int .u8 ((b.getD i 0).toNat : Int))) := Lib.hid (fun wr hb i hi => byte_at (HS.out.to hb) i hi)
  have hcap : b.length ≤ c := HS.out.1
  clear HS hbA hbA2 hxA hs
  have HST0 : Hid (SC w ((w.alloc (.cells ((List.replicate 64 (0 : W32)).map enc32).toArray 139)).alloc (.cells ((List.replicate 64 (0 : W32)).map enc32).toArray 139)) w.heap.size (w.heap.size + 1) (fill64 (sched b 0))) := Lib.hid
    ⟨rfl, rfl, (Below.heap_alloc _ _ _ (by simp)).trans (heap_alloc_new w _), heap_at (by simp), ((Below.refl _ _).alloc (Nat.le_refl _) _).alloc (by simp) _⟩
  go_enter Tryd.func104, Tryd.ntmps104
  go_upto_region 2 with (fail)
  generalize hw1 : (World.alloc (World.alloc w _) _) = w1
  have hw2 : ((w.alloc (.cells ((List.replicate 64 (0 : W32)).map enc32).toArray 139)).alloc (.cells ((List.replicate 64 (0 : W32)).map enc32).toArray 139)) = w1 := hw1
  rw [hw2] at HST0
  clear hw1 hw2
  obtain ⟨R, hR⟩ : ∃ R, R = w.heap.size := ⟨_, rfl⟩
  obtain ⟨O, hO⟩ : ∃ O, O = w.heap.size + 1 := ⟨_, rfl⟩
  rw [← hO, ← hR] at HST0 ⊢
  clear hR hO
  go_wp2_with fail
  go_loopw [4] (fun i wr => ∃ k : Nat, k ≤ 64 ∧ i = .int .i64 k ∧ Hid (SC w wr R O (fill64 (sched b k)))) (fun i _ => 64 - (intOf i).toNat)
  case atStart => exact ⟨0, by omega, rfl, HST0⟩
  case round =>
    obtain ⟨k, hk, rfl, HST⟩ := hrel
    by_cases hlt : k < 64
    · have hlt2 : (k : Int) < 64 := by omega
      have hk0 : (0 : Int) ≤ (k : Int) := by omega
      have HSET := Lib.hid (sched_set b k hlt)
      by_cases h16 : k < 16
      · have h16' : (k : Int) < 16 := by omega
        have HSE : Hid ((fill64 (sched b k)).set k (word16 b k) = fill64 (sched b (k + 1))) := Lib.hid (by have := HSET.out; rwa [if_pos h16] at this)
        have HFZ : Hid (∀ W, SC w W R O (fill64 (sched b k)) → (∃ v, W.cell? ⟨O, k, none⟩ = some v) ∧ ∀ o, W.frozen? ⟨O, o, none⟩ = false) := Lib.hid (fun W h => ⟨⟨_, h.o.cell k (by rw [fill64_length (by rw [sched_length]; omega)]; omega)⟩, h.o.fz⟩)
        have HA : Hid (∀ wr, Below w.heap.size w wr → wr.cell? ⟨bA, oA + 4 * k, none⟩ = some (.int .u8 ((b.getD (4 * k) 0).toNat : Int)) ∧ wr.cell? ⟨bA, oA + (4 * k + 1), none⟩ = some (.int .u8 ((b.getD (4 * k + 1) 0).toNat : Int)) ∧ wr.cell? ⟨bA, oA + (4 * k + 2), none⟩ = some (.int .u8 ((b.getD (4 * k + 2) 0).toNat : Int)) ∧ wr.cell? ⟨bA, oA + (4 * k + 3), none⟩ = some (.int .u8 ((b.getD (4 * k + 3) 0).toNat : Int))) := Lib.hid (fun wr h => ⟨HS'.out wr h _ (by omega), HS'.out wr h _ (by omega), HS'.out wr h _ (by omega), HS'.out wr h _ (by omega)⟩)
        have q5 := word_eq b k
        generalize b.getD (4 * k) 0 = c0 at *
        generalize b.getD (4 * k + 1) 0 = c1 at *
        generalize b.getD (4 * k + 2) 0 = c2 at *
        generalize b.getD (4 * k + 3) 0 = c3 at *
        generalize word16 b k = wv at *
        have n0 : ((c0.toNat : Int)) % 4294967296 = u (cb c0) := by rw [u_cb]; have := c0.toNat_lt; omega
        have n1 : ((c1.toNat : Int)) % 4294967296 = u (cb c1) := by rw [u_cb]; have := c1.toNat_lt; omega
        have n2 : ((c2.toNat : Int)) % 4294967296 = u (cb c2) := by rw [u_cb]; have := c2.toNat_lt; omega
        have n3 : ((c3.toNat : Int)) % 4294967296 = u (cb c3) := by rw [u_cb]; have := c3.toNat_lt; omega
        generalize cb c0 = y0 at *
        generalize cb c1 = y1 at *
        generalize cb c2 = y2 at *
        generalize cb c3 = y3 at *
        have s0 : u y0 * (16777216 : Int) % (4294967296 : Int) = u (y0 <<< 24) := by rw [← wrap_u32]; exact u_shl y0 24
        have s1 : u y1 * (65536 : Int) % (4294967296 : Int) = u (y1 <<< 16) := by rw [← wrap_u32]; exact u_shl y1 16
        have s2 : u y2 * (256 : Int) % (4294967296 : Int) = u (y2 <<< 8) := by rw [← wrap_u32]; exact u_shl y2 8
        have t1 := u_or (y0 <<< 24) (y1 <<< 16)
        have t2 := u_or ((y0 <<< 24) ||| (y1 <<< 16)) (y2 <<< 8)
        have t3 := u_or (((y0 <<< 24) ||| (y1 <<< 16)) ||| (y2 <<< 8)) y3
        rw [q5] at t3
        generalize ((y0 <<< 24) ||| (y1 <<< 16)) ||| (y2 <<< 8) = z1 at *
        generalize (y0 <<< 24) ||| (y1 <<< 16) = z2 at *
        generalize y0 <<< 24 = z3 at *
        generalize y1 <<< 16 = z4 at *
        generalize y2 <<< 8 = z5 at *
        clear q5
        go_upto_region 6 with (fail)
        refine wp_region_tail rfl (by kernel_rfl) (by kernel_rfl) ?_
        intro T5 hT5 f hf hg
        have a0 := fun d => (HA.out _ (HST.out.to (hf d)).b).1
        have a1 := fun d => (HA.out _ (HST.out.to (hf d)).b).2.1
        have a2 := fun d => (HA.out _ (HST.out.to (hf d)).b).2.2.1
        have a3 := fun d => (HA.out _ (HST.out.to (hf d)).b).2.2.2
        have HF5 := Lib.hid hf
        clear hf hg
        dsimp only [List.dropLast]
        repeat (go_big_quiet_step (fail))
        refine wpQuiet_nil ?_
        rintro _ ⟨nq, rfl⟩
        refine ⟨rfl, ?_⟩
        have HST2 := Lib.hid (HST.out.to (HF5.out nq))
        obtain ⟨⟨v9, hv9⟩, hfz⟩ := HFZ.out _ HST2.out
        clear HF5 a0 a1 a2 a3
        generalize f nq = wd at *
        have HN := Lib.hid (HST2.out.setO k wv)
        rw [HSE.out] at HN
        go_simp
        go_wp2_with fail
        go_roundw
        case rel => exact ⟨k + 1, by omega, by go_num, HN⟩
        case measure => simp [intOf]; omega
      · have h16' : ¬ (k : Int) < 16 := by omega
        have hsl := sched_length b k
        have HSE : Hid ((fill64 (sched b k)).set k (nextW (sched b k) k) = fill64 (sched b (k + 1))) := Lib.hid (by have := HSET.out; rwa [if_neg h16] at this)
        have HC : Hid (∀ W, SC w W R O (fill64 (sched b k)) → W.cell? ⟨O, k - 15, none⟩ = some (.int .u32 (u ((sched b k).getD (k - 15) 0))) ∧ W.cell? ⟨O, k - 2, none⟩ = some (.int .u32 (u ((sched b k).getD (k - 2) 0))) ∧ W.cell? ⟨O, k - 16, none⟩ = some (.int .u32 (u ((sched b k).getD (k - 16) 0))) ∧ W.cell? ⟨O, k - 7, none⟩ = some (.int .u32 (u ((sched b k).getD (k - 7) 0))) ∧ (∃ v, W.cell? ⟨O, k, none⟩ = some v) ∧ ∀ o, W.frozen? ⟨O, o, none⟩ = false) := Lib.hid (fun W h => by
          have hl := fill64_length (l := sched b k) (by omega)
          have e : ∀ j, j < k → W.cell? ⟨O, j, none⟩ = some (.int .u32 (u ((sched b k).getD j 0))) := fun j hj => by
            rw [← fill64_lt (by omega : j < (sched b k).length)]; exact h.o.cell j (by omega)
          exact ⟨e _ (by omega), e _ (by omega), e _ (by omega), e _ (by omega), ⟨_, h.o.cell k (by omega)⟩, h.o.fz⟩)
        have HNW : Hid (nextW (sched b k) k = (sched b k).getD (k - 16) 0 + sg0 ((sched b k).getD (k - 15) 0) + ((sched b k).getD (k - 7) 0 + sg1 ((sched b k).getD (k - 2) 0))) := Lib.hid rfl
        generalize nextW (sched b k) k = nw at *
        generalize (sched b k).getD (k - 15) 0 = x15 at *
        generalize (sched b k).getD (k - 2) 0 = x2 at *
        generalize (sched b k).getD (k - 16) 0 = x16 at *
        generalize (sched b k).getD (k - 7) 0 = x7 at *
        clear hsl HSET
        have w1 := (HC.out _ HST.out).1
        have w2 := (HC.out _ HST.out).2.1
        have i15 : ((k : Int) - 15).toNat = k - 15 := by omega
        have i2 : ((k : Int) - 2).toNat = k - 2 := by omega
        have i16 : ((k : Int) - 16).toNat = k - 16 := by omega
        have i7 : ((k : Int) - 7).toNat = k - 7 := by omega
        have hk16 : 16 ≤ k := by omega
        have hk16' : (16 : Int) ≤ (k : Int) := by omega
        have E7 := Lib.hid (fun W => rrot_any x15 7 (by omega) (by omega) W)
        have E18 := Lib.hid (fun W => rrot_any x15 18 (by omega) (by omega) W)
        have E17 := Lib.hid (fun W => rrot_any x2 17 (by omega) (by omega) W)
        have E19 := Lib.hid (fun W => rrot_any x2 19 (by omega) (by omega) W)
        have q1 := u_xor (rotr x15 7) (rotr x15 18)
        have q2 := u_xor (rotr x15 7 ^^^ rotr x15 18) (x15 >>> 3)
        rw [show rotr x15 7 ^^^ rotr x15 18 ^^^ (x15 >>> 3) = sg0 x15 from rfl] at q2
        have q3 := u_addm x16 (sg0 x15)
        have q4 := u_addm (x16 + sg0 x15) x7
        have q5 := u_xor (rotr x2 17) (rotr x2 19)
        have q6 := u_xor (rotr x2 17 ^^^ rotr x2 19) (x2 >>> 10)
        rw [show rotr x2 17 ^^^ rotr x2 19 ^^^ (x2 >>> 10) = sg1 x2 from rfl] at q6
        have q7 := u_addm (x16 + sg0 x15 + x7) (sg1 x2)
        rw [show x16 + sg0 x15 + x7 + sg1 x2 = nw by rw [HNW.out, BitVec.add_assoc (x16 + sg0 x15)]] at q7
        have q8 := u_shr3 x15
        have q9 := u_shr10 x2
        generalize x16 + sg0 x15 + x7 = y1 at *
        generalize x16 + sg0 x15 = y2 at *
        generalize sg0 x15 = y3 at *
        generalize sg1 x2 = y4 at *
        generalize rotr x15 7 ^^^ rotr x15 18 = y5 at *
        generalize rotr x2 17 ^^^ rotr x2 19 = y6 at *
        generalize x15 >>> 3 = y7 at *
        generalize x2 >>> 10 = y8 at *
        go_upto_region 9 with (fail)
        refine wp_region_tail rfl (by kernel_rfl) (by kernel_rfl) ?_
        intro T5 hT5 f hf hg
        have a0 := fun d => (HC.out _ (HST.out.to (hf d))).2.2.1
        have a1 := fun d => (HC.out _ (HST.out.to (hf d))).2.2.2.1
        have HT1 : Hid (∀ d, Calls Tryd.prog 106 #[.int .u32 (u x15), .int .i64 7] (f d) fun e w' => e = .returned (.int .u32 (u (rotr x15 7))) ∧ ∃ m, w' = f m) := Lib.hid (fun d => (E7.out (f d)).mono (by rintro e w' ⟨rfl, hb⟩; exact ⟨rfl, hg d w' hb⟩))
        have HT2 : Hid (∀ d, Calls Tryd.prog 106 #[.int .u32 (u x15), .int .i64 18] (f d) fun e w' => e = .returned (.int .u32 (u (rotr x15 18))) ∧ ∃ m, w' = f m) := Lib.hid (fun d => (E18.out (f d)).mono (by rintro e w' ⟨rfl, hb⟩; exact ⟨rfl, hg d w' hb⟩))
        have HT3 : Hid (∀ d, Calls Tryd.prog 106 #[.int .u32 (u x2), .int .i64 17] (f d) fun e w' => e = .returned (.int .u32 (u (rotr x2 17))) ∧ ∃ m, w' = f m) := Lib.hid (fun d => (E17.out (f d)).mono (by rintro e w' ⟨rfl, hb⟩; exact ⟨rfl, hg d w' hb⟩))
        have HT4 : Hid (∀ d, Calls Tryd.prog 106 #[.int .u32 (u x2), .int .i64 19] (f d) fun e w' => e = .returned (.int .u32 (u (rotr x2 19))) ∧ ∃ m, w' = f m) := Lib.hid (fun d => (E19.out (f d)).mono (by rintro e w' ⟨rfl, hb⟩; exact ⟨rfl, hg d w' hb⟩))
        have HF5 := Lib.hid hf
        clear hf hg w1 w2 E7 E18 E17 E19 HNW
        dsimp only [List.dropLast]
        repeat (go_big_quiet_step (first
          | (go_at_call 106; with_reducible refine Calls.mono (HT1.out _) ?_; rintro e w6 ⟨rfl, hm⟩; exact ⟨rfl, hm⟩)
          | (go_at_call 106; with_reducible refine Calls.mono (HT2.out _) ?_; rintro e w6 ⟨rfl, hm⟩; exact ⟨rfl, hm⟩)
          | (go_at_call 106; with_reducible refine Calls.mono (HT3.out _) ?_; rintro e w6 ⟨rfl, hm⟩; exact ⟨rfl, hm⟩)
          | (go_at_call 106; with_reducible refine Calls.mono (HT4.out _) ?_; rintro e w6 ⟨rfl, hm⟩; exact ⟨rfl, hm⟩)))
        refine wpQuiet_nil ?_
        rintro _ ⟨nq, rfl⟩
        refine ⟨rfl, ?_⟩
        have HST2 := Lib.hid (HST.out.to (HF5.out nq))
        obtain ⟨_, _, _, _, ⟨v9, hv9⟩, hfz⟩ := HC.out _ HST2.out
        clear HF5 a0 a1 HT1 HT2 HT3 HT4
        generalize f nq = wd at *
        have HN := Lib.hid (HST2.out.setO k nw)
        rw [HSE.out] at HN
        go_simp
        go_wp2_with fail
        go_roundw
        case rel => exact ⟨k + 1, by omega, by go_num, HN⟩
        case measure => simp [intOf]; omega
    · obtain rfl : k = 64 := by omega
      have HSL := Lib.hid (sched_length b 64)
      have HFE : Hid (fill64 (sched b 64) = sched b 64) := Lib.hid (by unfold fill64; rw [HSL.out]; simp)
      rw [HFE.out] at HST
      have hq := HST.out.r
      have hq2 := HST.out.o
      unfold WBox at hq hq2
      have HSZ : Hid (((sched b 64).map enc32).toArray.size = 64) := Lib.hid (by rw [words_size, HSL.out])
      have HONE := Lib.hid (words_one (sched b 64))
      have HX := Lib.hid (setRow_heap _ R _ ((sched b 64).map enc32).toArray _ _ hq)
      have HBE := Lib.hid (below_setRow HST.out.b (R := R) (by have := HST.out.eR; omega) ((sched b 64).map enc32).toArray)
      have HRE : Hid (wordsV (sched b 64) = .agg ((sched b 64).map enc32).toArray) := Lib.hid rfl
      generalize ((sched b 64).map enc32).toArray = cs at *
      go_wp2_with (first
        | (refine wpList_load_row rfl 139 (.tmp 3) rfl O ?_ 139 cs (0, 0) _ hq2 Tryd.underlying139 ?_ ?_ ?_; rfl; rfl; (rw [HSZ.out]; kernel_rfl))
        | (refine wpList_store_row rfl 139 (.tmp 2) (.tmp 85) rfl R cs ?_ ?_ 139 _ hq (by rw [HSZ.out]; kernel_rfl) (by rw [HSZ.out]; rfl) HONE.out ?_; rfl; rfl)
        | fail)
      exact bodyPost_ret (v := .agg cs) (results_cell_row Tryd.results104 _ _ R _ cs (0, 0) _ rfl HX.out Tryd.underlying139 rfl (by rw [HSZ.out]; kernel_rfl)) rfl ⟨by rw [HRE.out], HBE.out⟩
end Go.Proofs.YthcklfelofpffaaDoor
