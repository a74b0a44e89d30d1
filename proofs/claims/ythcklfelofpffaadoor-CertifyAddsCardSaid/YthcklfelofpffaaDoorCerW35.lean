/- The reference of SHA-256: Sum. No condition but sizes. -/
import Derived.Test.YthcklfelofpffaaDoorCerW34
namespace Go.Proofs.YthcklfelofpffaaDoor
open Go.RowKit
theorem box_push {α : Type} [Rep α] {w1 w2 : World} {B R : Nat} {e t : TypeId} {v : Value} {l : List α} {o : Obj} {cs : List Value} (hr : ABox w1 R t cs) (hown : Own w1 B e v l) (hg : (w1.alloc o).grownBy w2 v.ownBlock) (hb : R < B) : ABox w2 R t cs := (keep_push hown hg hb hr.lt).trans hr
theorem box_cat {α : Type} [Rep α] {w1 w2 : World} {B R : Nat} {e t : TypeId} {v : Value} {l : List α} {cs : List Value} (hr : ABox w1 R t cs) (hown : Own w1 B e v l) (hg : w1.grownBy w2 v.ownBlock) (hb : R < B) : ABox w2 R t cs := (keep_cat hown hg hb hr.lt).trans hr
set_option maxRecDepth 100000 in
set_option maxHeartbeats 4000000 in
theorem rsum_any (b : List UInt8) (A : Option Addr) (c : Nat) (w : World) (hs : Sl w (fun b => b < w.heap.size) A c b) (hsz : b.length ≤ 1073741800) :
    Calls Tryd.prog 70 #[.slice A b.length c] w fun e w' => e = .returned (hashV (sha b)) ∧ Below w.heap.size w w' := by
  have hb1 : Below w.heap.size w (w.alloc (.cells (zer32.map encB).toArray 29)) := (Below.refl _ _).alloc (Nat.le_refl _) _
  have HR : Hid (ABox (w.alloc (.cells (zer32.map encB).toArray 29)) w.heap.size 29 (zer32.map encB)) := Lib.hid (heap_alloc_new w _)
  have HB := Lib.hid hb1
  have HS1 : Hid (Sl (w.alloc (.cells (zer32.map encB).toArray 29)) (fun b => b < w.heap.size) A c b) := Lib.hid (hs.keep (Kept.below hb1 (fun _ h => h)) hb1.size)
  have HSZ1 : Hid ((w.alloc (.cells (zer32.map encB).toArray 29)).heap.size = w.heap.size + 1) := Lib.hid (by simp)
  clear hb1 hs
  go_enter Tryd.func70, Tryd.ntmps70
  go_upto_region 1 with (fail)
  generalize hw1 : World.alloc w _ = w1
  have hw2 : w.alloc (.cells (zer32.map encB).toArray 29) = w1 := hw1
  rw [hw2] at HR HB HS1 HSZ1
  clear hw1 hw2
  obtain ⟨R, hR⟩ : ∃ R, R = w.heap.size := ⟨_, rfl⟩
  have HRE := Lib.hid hR
  rw [← hR] at HR HSZ1 HS1 ⊢
  clear hR
  have HO0 : Hid (Own w1 (R + 1) 5 (.slice none 0 0) ([] : List UInt8)) := Lib.hid (Own.nil _ _ _)
  go_upto_region 3 with (first
    | (at_builtin; refine wpList_cat (α := UInt8) _ rfl (.tmp 9) (.tmp 10) 59 rfl (R + 1) 5 (.int .u8 0) 1 Tryd.underlying59 b_info rfl (by decide) (.slice none 0 0) [] rfl HO0.out A c b.length b rfl rfl (fun b => b < R) HS1.out (fun i _ _ e => by simp [Value.ownBlock] at e) (by simp; omega) (by simp; omega) (by rw [HSZ1.out]; exact Nat.le_refl _) ?_; intro v2 w2 hown2 hg2 hat2)
    | fail)
  have HO2 := Lib.hid hown2
  have HR2 := Lib.hid (box_cat HR.out HO0.out hg2 (Nat.lt_succ_self R))
  have HB2 := Lib.hid (below_cat HB.out (HO0.out.re (B := w.heap.size) (by rw [HRE.out]; omega)) HB.out.size hg2)
  clear hown2 hg2 hat2 HO0 HR HB HS1 HSZ1
  rw [List.nil_append] at HO2
  have HOA := Lib.hid (HO2.out.alloc (.cells #[.int .u8 128] 5))
  have HBS : Hid (R + 1 ≤ w2.heap.size) := Lib.hid HR2.out.lt
  go_upto_region 4 with (first
    | (at_builtin; refine wpList_push (α := UInt8) _ rfl (.tmp 12) (.tmp 13) 59 rfl (R + 1) 5 (.int .u8 0) 1 Tryd.underlying59 b_info rfl (by decide) v2 b rfl HOA.out w2.heap.size #[.int .u8 128] 128 (0, 0) 5 rfl (heap_alloc_new w2 _) rfl (by omega) (by omega) (by have := HBS.out; simp; omega) _ rfl ?_; intro g3 cap3 w3 hown3 hg3 ho3 hlt3)
    | fail)
  have HO3 : Hid (Own w3 (R + 1) 5 (.slice (some ⟨g3, 0, none⟩) (b.length + 1) cap3) (b ++ (128 :: List.replicate 0 0))) := Lib.hid hown3
  have HR3 := Lib.hid (box_push HR2.out HO2.out hg3 (Nat.lt_succ_self R))
  have HB3 := Lib.hid (below_push HB2.out (HO2.out.re (B := w.heap.size) (by rw [HRE.out]; omega)) HB2.out.size hg3)
  clear hown3 hg3 ho3 hlt3 HO2 HR2 HB2 HOA HBS
  obtain ⟨z, hz⟩ : ∃ z, z = (119 - b.length % 64) % 64 := ⟨_, rfl⟩
  have HPD : Hid (padOf b.length = 128 :: (List.replicate z 0 ++ be8 (b.length * 8))) := Lib.hid (by unfold padOf; rw [hz, Nat.mod_eq_of_lt (by omega : b.length * 8 < 18446744073709551616)])
  have HZ : Hid (z ≤ 63 ∧ (b.length + 1 + z) % 64 = 56 ∧ ∀ j, j < z → (b.length + 1 + j) % 64 ≠ 56) := Lib.hid ⟨by omega, by omega, fun j hj => by omega⟩
  clear hz
  go_loopw [3] (fun v wr => ∃ (j n : Nat) (A' : Option Addr) (c' : Nat), v = .slice A' n c' ∧ j ≤ z ∧ n = b.length + 1 + j ∧ Hid (Own wr (R + 1) 5 (.slice A' n c') (b ++ (128 :: List.replicate j 0))) ∧ Hid (ABox wr R 29 (zer32.map encB)) ∧ Hid (Below w.heap.size w wr)) (fun v _ => b.length + 200 - vlen v)
  case atStart => exact ⟨0, b.length + 1, some ⟨g3, 0, none⟩, cap3, rfl, Nat.zero_le _, rfl, HO3, HR3, HB3⟩
  case round =>
    obtain ⟨j, n, A', c', rfl, hj, hn, HO, HRr, HBr⟩ := hrel
    have hn63 : n ≤ 1073741900 := by have := HZ.out.1; omega
    by_cases hjz : j < z
    · have hc : ((n : Int) % 64 != 56) = true := by
        have := HZ.out.2.2 j hjz
        rw [← hn] at this
        rw [bne_iff_ne]; omega
      have HN : Hid (n = b.length + 1 + j) := Lib.hid hn
      have HL : Hid ((b ++ (128 :: List.replicate j 0) : List UInt8).length = n) := Lib.hid (by simp; omega)
      have HNX : Hid (b ++ (128 :: List.replicate (j + 1) 0) = (b ++ (128 :: List.replicate j 0)) ++ [(0 : UInt8)]) := Lib.hid (by rw [List.replicate_succ']; simp)
      obtain ⟨acc, hacc⟩ : ∃ a, a = (b ++ (128 :: List.replicate j 0) : List UInt8) := ⟨_, rfl⟩
      rw [← hacc] at HO HL HNX
      have HOA := Lib.hid (HO.out.alloc (.cells #[.int .u8 0] 5))
      clear hacc hn
      go_wp2_with (first
        | (at_builtin; refine wpList_push (α := UInt8) _ rfl (.tmp 19) (.tmp 20) 59 rfl (R + 1) 5 (.int .u8 0) 1 Tryd.underlying59 b_info rfl (by decide) (.slice A' n c') acc rfl HOA.out wr.heap.size #[.int .u8 0] 0 (0, 0) 5 rfl (heap_alloc_new wr _) rfl (by have := HL.out; omega) (by have := HL.out; omega) (by have := HRr.out.lt; simp; omega) _ rfl ?_; intro g5 cap5 w5 hown5 hg5 ho5 hlt5)
        | fail)
      have HO5 : Hid (Own w5 (R + 1) 5 (.slice (some ⟨g5, 0, none⟩) (n + 1) cap5) (b ++ (128 :: List.replicate (j + 1) 0))) := Lib.hid (by rw [HNX.out, ← HL.out]; exact hown5)
      have HLE : Hid (acc.length + 1 = n + 1) := Lib.hid (by rw [HL.out])
      rw [HLE.out]
      refine ⟨⟨j + 1, n + 1, _, _, rfl, by omega, by have := HN.out; omega, HO5, Lib.hid (box_push HRr.out HO.out hg5 (Nat.lt_succ_self R)), Lib.hid (below_push HBr.out (HO.out.re (B := w.heap.size) (by rw [HRE.out]; omega)) HBr.out.size hg5)⟩, ?_⟩
      show b.length + 200 - (n + 1) < b.length + 200 - n
      have := HN.out; have := HZ.out.1; omega
    · obtain rfl : j = z := by omega
      have hc : ((n : Int) % 64 != 56) = false := by
        have := HZ.out.2.1
        rw [← hn] at this
        rw [bne_eq_false_iff_eq]; omega
      obtain ⟨N, hN⟩ : ∃ N, N = b.length * 8 := ⟨_, rfl⟩
      have HO8 : Hid (Own wr (R + 1) 5 (.slice A' n c') (b ++ (128 :: (List.replicate j 0 ++ (be8 N).take 0)))) := Lib.hid (by simpa using HO.out)
      have hw9 : (b.length : Int) * 8 = (N : Int) := by omega
      have hw8 : IntKind.u64.wrap (N : Int) = (N : Int) := by rw [IntWalk.u64_in _ (by omega)]
      have HM9 : N ≤ 8589934592 := by omega
      have HZ0 := HZ.out.1
      have HNN := Lib.hid hN
      have HPE : Hid (b ++ padOf b.length = b ++ (128 :: (List.replicate j 0 ++ (be8 N).take 8))) := Lib.hid (by rw [HPD.out, ← hN]; rfl)
      clear HO hn hjz hj hN
      go_upto_region 7 with (fail)
      clear hw9 hw8
      go_wp2_with fail
      go_loopw [3, 5] (fun v i wr => ∃ k : Nat, k ≤ 8 ∧ i = .int .i64 (56 - 8 * (k : Int)) ∧ Hid (Own wr (R + 1) 5 v (b ++ (128 :: (List.replicate j 0 ++ (be8 N).take k)))) ∧ Hid (ABox wr R 29 (zer32.map encB)) ∧ Hid (Below w.heap.size w wr)) (fun _ i _ => (64 - (intOf i)).toNat |> fun x => 200 - x)
      case atStart => exact ⟨0, by omega, rfl, HO8, HRr, HBr⟩
      case round =>
        obtain ⟨k, hk, rfl, hown, HRr, HBr⟩ := hrel
        by_cases hlt : k < 8
        · obtain ⟨sh, hsh⟩ : ∃ sh : Nat, sh = 56 - 8 * k := ⟨_, rfl⟩
          have e1 : (56 : Int) - 8 * (k : Int) = (sh : Int) := by omega
          rw [e1]
          have hsh0 : (0 : Int) ≤ (sh : Int) := by omega
          have hsh1 : (sh : Int) ≤ 64 := by omega
          have q1 := shr_byte N sh
          have HBT := Lib.hid (be8_take N k hlt)
          rw [← hsh] at HBT
          have HSH : Hid ((56 : Int) - 8 * ((k + 1 : Nat) : Int) = (sh : Int) - 8) := Lib.hid (by omega)
          have HMS : Hid (sh ≤ 56) := Lib.hid (by omega)
          clear hsh e1
          generalize UInt8.ofNat (N >>> sh) = by8 at *
          have HOA := Lib.hid (hown.out.alloc (.cells #[.int .u8 (by8.toNat : Int)] 5))
          have HLN : Hid ((b ++ (128 :: (List.replicate j 0 ++ (be8 N).take k)) : List UInt8).length ≤ 1073742000) := Lib.hid (by simp; omega)
          obtain ⟨l5, hl5⟩ : ∃ l5, l5 = (b ++ (128 :: (List.replicate j 0 ++ (be8 N).take k)) : List UInt8) := ⟨_, rfl⟩
          rw [← hl5] at HOA HLN hown
          have HL5 : Hid ((b ++ (128 :: (List.replicate j 0 ++ (be8 N).take (k + 1))) : List UInt8) = l5 ++ [by8]) := Lib.hid (by rw [HBT.out, hl5]; simp)
          clear hl5
          go_wp2_with (at_builtin; refine wpList_push (α := UInt8) _ rfl (.tmp 30) (.tmp 35) 59 rfl (R + 1) 5 (.int .u8 0) 1 Tryd.underlying59 b_info rfl (by decide) u3 l5 rfl HOA.out wr.heap.size #[.int .u8 (by8.toNat : Int)] by8 (0, 0) 5 rfl (heap_alloc_new wr _) rfl (by have := HLN.out; omega) (by have := HLN.out; omega) (by have := HRr.out.lt; simp; omega) _ rfl ?_; intro g5 cap5 w5 hown5 hg5 ho5 hlt5)
          refine ⟨⟨k + 1, by omega, by rw [HSH.out], by rw [HL5.out]; exact Lib.hid hown5, Lib.hid (box_push HRr.out hown.out hg5 (Nat.lt_succ_self R)), Lib.hid (below_push HBr.out (hown.out.re (B := w.heap.size) (by rw [HRE.out]; omega)) HBr.out.size hg5)⟩, ?_⟩
          have := HMS.out
          simp [intOf]; omega
        · obtain rfl : k = 8 := by omega
          have e1 : (56 : Int) - 8 * ((8 : Nat) : Int) = -8 := by omega
          rw [e1]
          clear e1
          rw [← HPE.out] at hown
          obtain ⟨A9, c9, e9, hs9⟩ := hown.out.sl
          subst e9
          have HPL := Lib.hid (padOf_length b.length)
          have HPL2 : Hid ((padOf b.length).length ≤ 128) := Lib.hid (by rw [HPD.out]; simp; unfold be8; simp; omega)
          have HBK := Lib.hid (rblocks_any (b ++ padOf b.length) A9 c9 wr hs9 (by rw [List.length_append]; have := HPL2.out; omega))
          have HSHA : Hid (sha b = (blks H0 (b ++ padOf b.length) ((b ++ padOf b.length).length / 64)).flatMap be4) := Lib.hid (by rw [List.length_append]; rfl)
          have HGL := Lib.hid (blks_length (h := H0) rfl (b ++ padOf b.length) ((b ++ padOf b.length).length / 64))
          obtain ⟨G, hG⟩ : ∃ G, G = blks H0 (b ++ padOf b.length) ((b ++ padOf b.length).length / 64) := ⟨_, rfl⟩
          rw [← hG] at HBK HSHA HGL
          clear hG hs9 hown HPE
          generalize (b ++ padOf b.length).length = nn at *
          go_wp2_with fail
          refine HBK.out.mono ?_
          rintro e w7 ⟨rfl, hb7⟩
          have HR7 := Lib.hid (HRr.out.to hb7)
          have HB7 := Lib.hid (HBr.out.trans (hb7.mono HBr.out.size))
          have hal := heap_alloc_new w7 (.cells ((List.replicate 8 (0 : W32)).map enc32).toArray 96)
          have hb8 : Below w7.heap.size w7 (((w7.alloc (.cells ((List.replicate 8 (0 : W32)).map enc32).toArray 96)).setRow w7.heap.size (G.map enc32).toArray).alloc (.cells (zer32.map encB).toArray 29)) := (below_setRow ((Below.refl _ _).alloc (Nat.le_refl _) _) (Nat.le_refl _) _).alloc (by rw [setRow_size]; simp) _
          have HSZ : Hid ((G.map enc32).toArray.size = 8) := Lib.hid (by rw [words_size, HGL.out])
          have HONE := Lib.hid (words_one G)
          have HGB : Hid (WBox (((w7.alloc (.cells ((List.replicate 8 (0 : W32)).map enc32).toArray 96)).setRow w7.heap.size (G.map enc32).toArray).alloc (.cells (zer32.map encB).toArray 29)) w7.heap.size 96 G) := Lib.hid ((Below.heap_alloc _ _ _ (by rw [setRow_size]; simp)).trans (setRow_heap _ _ _ _ _ _ hal))
          have HOB : Hid (ABox (((w7.alloc (.cells ((List.replicate 8 (0 : W32)).map enc32).toArray 96)).setRow w7.heap.size (G.map enc32).toArray).alloc (.cells (zer32.map encB).toArray 29)) (w7.heap.size + 1) 29 ((tf (G.flatMap be4) 0).map encB)) := Lib.hid (heap_at (by rw [setRow_size]; simp))
          have HR8 := Lib.hid (HR7.out.to hb8)
          have HB8 := Lib.hid (HB7.out.trans (hb8.mono HB7.out.size))
          have HRW : Hid (R < w7.heap.size ∧ w.heap.size ≤ w7.heap.size) := Lib.hid ⟨HR7.out.lt, HB7.out.size⟩
          clear hb7 hb8 HR7 HB7 HBK HRr HBr
          unfold wordsV
          go_upto_region 13 with (first
            | (refine wpList_store_row rfl 96 (.tmp 6) (.tmp 38) rfl w7.heap.size (G.map enc32).toArray rfl rfl 96 _ hal (by rw [HSZ.out]; kernel_rfl) (by rw [HSZ.out]; rfl) HONE.out ?_)
            | fail)
          generalize hw3 : World.alloc (World.setRow (World.alloc w7 _) _ _) _ = w8
          have hw4 : (((w7.alloc (.cells ((List.replicate 8 (0 : W32)).map enc32).toArray 96)).setRow w7.heap.size (G.map enc32).toArray).alloc (.cells (zer32.map encB).toArray 29)) = w8 := hw3
          rw [hw4] at HGB HOB HR8 HB8
          clear hw3 hw4 hal HSZ HONE
          have HNE : Hid (w7.heap.size + 1 ≠ R ∧ w7.heap.size + 1 ≠ w7.heap.size ∧ w.heap.size ≤ w7.heap.size + 1) := Lib.hid (by have := HRW.out; omega)
          have HTL : Hid ((G.flatMap be4).length = 32) := Lib.hid (by rw [flat4_length, HGL.out])
          generalize w7.heap.size + 1 = O at *
          generalize w7.heap.size = Hb at *
          go_wp2_with fail
          go_loopw [8] (fun i wr => ∃ k : Nat, k ≤ 32 ∧ i = .int .i64 k ∧ Hid (ABox wr O 29 ((tf (G.flatMap be4) k).map encB)) ∧ Hid (WBox wr Hb 96 G) ∧ Hid (ABox wr R 29 (zer32.map encB)) ∧ Hid (Below w.heap.size w wr)) (fun i _ => 32 - (intOf i).toNat)
          case atStart => exact ⟨0, by omega, rfl, HOB, HGB, HR8, HB8⟩
          case round =>
            obtain ⟨k, hk, rfl, hob, hgb, hrr, hbb⟩ := hrel
            by_cases hlt : k < 32
            · have hlt2 : (k : Int) < 32 := by omega
              have hk0 : (0 : Int) ≤ (k : Int) := by omega
              have HG1 := Lib.hid (flat4_get G (k / 4) (k % 4) (by rw [HGL.out]; omega) (by omega))
              rw [show 4 * (k / 4) + k % 4 = k by omega] at HG1
              have hq4 := hgb.out.cell (k / 4) (by rw [HGL.out]; omega)
              obtain ⟨q, hq⟩ : ∃ q : Nat, q = k / 4 := ⟨_, rfl⟩
              obtain ⟨sh, hsh⟩ : ∃ sh : Nat, sh = 24 - 8 * (k % 4) := ⟨_, rfl⟩
              have e1 : (24 : Int) - (k : Int) % 4 * 8 = (sh : Int) := by omega
              have e2 : (k : Int) / 4 = (q : Int) := by omega
              have hsh0 : (0 : Int) ≤ (sh : Int) := by omega
              have hsh1 : (sh : Int) ≤ 32 := by omega
              have hq8 : (q : Int) < 8 := by omega
              have hq0 : (0 : Int) ≤ (q : Int) := by omega
              rw [← hq] at HG1 hq4
              rw [← hsh] at HG1
              have q1 := u_byte (G.getD q 0) sh
              clear hq hsh
              generalize G.getD q 0 = x at *
              generalize hby : UInt8.ofNat (x.toNat >>> sh) = by8 at *
              clear hby
              have HTLk := Lib.hid (tf_length HTL.out (j := k) (by omega))
              have hcell := hob.out.cell k (v := encB ((tf (G.flatMap be4) k).getD k 0)) (by rw [List.getElem?_map, List.getD_eq_getElem?_getD, List.getElem?_eq_getElem (by have := HTLk.out; omega)]; rfl)
              have hfz := hob.out.fz
              have HN1 : Hid (ABox (wr.setCell ⟨O, k, none⟩ (encB by8)) O 29 ((tf (G.flatMap be4) (k + 1)).map encB)) := Lib.hid (by
                have h := hob.out.set k (encB by8)
                rw [← HG1.out] at h ⊢
                rw [← tf_set HTL.out hlt, List.map_set]; exact h)
              have HN2 : Hid (WBox (wr.setCell ⟨O, k, none⟩ (encB by8)) Hb 96 G) := Lib.hid ((heap_set _ _ _ _ (Ne.symm HNE.out.2.1)).trans hgb.out)
              have HN3 : Hid (ABox (wr.setCell ⟨O, k, none⟩ (encB by8)) R 29 (zer32.map encB)) := Lib.hid ((heap_set _ _ _ _ (Ne.symm HNE.out.1)).trans hrr.out)
              have HN4 : Hid (Below w.heap.size w (wr.setCell ⟨O, k, none⟩ (encB by8))) := Lib.hid (hbb.out.setCell (p := ⟨O, k, none⟩) HNE.out.2.2 _)
              unfold encB at HN1 HN2 HN3 HN4 hcell
              clear hob hgb hrr hbb HG1
              go_wp2_with fail
              refine ⟨⟨k + 1, by omega, by simp, HN1, HN2, HN3, HN4⟩, by simp [intOf]; omega⟩
            · obtain rfl : k = 32 := by omega
              have HTT : Hid (tf (G.flatMap be4) 32 = sha b) := Lib.hid (by rw [HSHA.out]; unfold tf; rw [List.take_of_length_le (by rw [HTL.out]; omega)]; simp)
              rw [HTT.out] at hob
              have hq := hrr.out
              have hq2 := hob.out
              unfold ABox at hq hq2
              have HSZ := Lib.hid (hash_size (sha_length b))
              have HC1 := Lib.hid (hash_all (sha b))
              have HX := Lib.hid (setRow_heap _ R _ ((sha b).map encB).toArray _ _ hq)
              have HBE := Lib.hid (below_setRow hbb.out (R := R) (by rw [HRE.out]; exact Nat.le_refl _) ((sha b).map encB).toArray)
              have HRZ : Hid ((zer32.map encB).toArray.size = 32) := Lib.hid rfl
              have HRV : Hid (hashV (sha b) = .agg ((sha b).map encB).toArray) := Lib.hid rfl
              generalize ((sha b).map encB).toArray = cs at *
              generalize (zer32.map encB).toArray = zs at *
              go_wp2_with (first
                | (refine wpList_load_row rfl 29 (.tmp 7) rfl O ?_ 29 cs (0, 0) _ hq2 Tryd.underlying29 ?_ ?_ ?_; rfl; rfl; (rw [HSZ.out]; kernel_rfl))
                | (refine wpList_store_row rfl 29 (.tmp 2) (.tmp 55) rfl R cs ?_ ?_ 29 zs hq (by rw [HSZ.out]; kernel_rfl) (by rw [HRZ.out, HSZ.out]) HC1.out ?_; rfl; rfl)
                | fail)
              exact bodyPost_ret (v := .agg cs) (results_cell_row Tryd.results70 _ _ R _ cs (0, 0) _ rfl HX.out Tryd.underlying29 rfl (by rw [HSZ.out]; kernel_rfl)) rfl ⟨by rw [HRV.out], HBE.out⟩
end Go.Proofs.YthcklfelofpffaaDoor
