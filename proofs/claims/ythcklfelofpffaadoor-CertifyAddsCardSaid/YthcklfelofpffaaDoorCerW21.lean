/- SameHashes, SameStrings, Around. No condition. -/
import Derived.Test.YthcklfelofpffaaDoorCerW20
namespace Go.Proofs.YthcklfelofpffaaDoor
open Go.RowKit
instance : DecidableEq H32 := fun a b => decidable_of_iff (a.l = b.l) ⟨fun h => by cases a; cases b; exact congrArg H32.mk h, fun h => by rw [h]⟩
set_option maxRecDepth 100000 in
set_option maxHeartbeats 4000000 in
theorem same_hashes (A B : Option Addr) (c d n m : Nat) (l q : List H32) (w : World) (hl : Sl w (fun b => b < w.heap.size) A c l) (hm : Sl w (fun b => b < w.heap.size) B d q) (hn : l.length = n) (hmm : q.length = m) :
    Calls Tryd.prog 24 #[.slice A n c, .slice B m d] w fun e w' => e = .returned (.bool (decide (l = q))) ∧ Below w.heap.size w w' := by
  have hlen : n ≤ 9223372036854775807 := by have := hl.1; have := hl.2.1; unfold maxLen at this; omega
  have hlem : m ≤ 9223372036854775807 := by have := hm.1; have := hm.2.1; unfold maxLen at this; omega
  have HL := Lib.hid hl
  have HM := Lib.hid hm
  have HN := Lib.hid (And.intro hn hmm)
  clear hl hm hn hmm
  by_cases hll : n = m
  · subst hll
    have hnn : ((n : Int) != (n : Int)) = false := by simp
    go_enter Tryd.func24, Tryd.ntmps24
    go_wp2_with fail
    go_loopw [5] (fun i wr => ∃ k : Nat, k ≤ n ∧ i = .int .i64 k ∧ Hid (l.take k = q.take k) ∧ Hid (Below w.heap.size w wr)) (fun i _ => n - (intOf i).toNat)
    case atStart => exact ⟨0, Nat.zero_le _, rfl, Lib.hid rfl, Lib.hid (Below.refl _ _)⟩
    case round =>
      obtain ⟨k, hk, rfl, hi, hb⟩ := hrel
      by_cases hlt : k < n
      · have hkl : k < l.length := by have := HN.out; omega
        have hkq : k < q.length := by have := HN.out; omega
        obtain ⟨b, o, rfl, hbS, hbl, hr1, hl1⟩ := h32_at (HL.out.to hb.out) hkl
        obtain ⟨b2, o2, rfl, hbS2, hbl2, hr2, hl2⟩ := h32_at (HM.out.to hb.out) hkq
        have hkn : (k : Int) < (n : Int) := by omega
        have hk0 : (0 : Int) ≤ (k : Int) := by omega
        obtain ⟨cond, hcond⟩ : ∃ b, b = !decide (l[k].l = q[k].l) := ⟨_, rfl⟩
        have HCD := Lib.hid hcond
        have HXY := Lib.hid (And.intro hl1 hl2)
        have HEQ : Hid (l[k].l = q[k].l → l[k] = q[k]) := Lib.hid (fun e => by cases hx : l[k]; cases hy : q[k]; rw [hx, hy] at e; exact congrArg H32.mk e)
        have HNE : Hid (l[k] ≠ q[k] → l ≠ q) := Lib.hid (fun e => ne_at hkl hkq e)
        have HSU : Hid (l[k] = q[k] → l.take (k + 1) = q.take (k + 1)) := Lib.hid (fun e => take_succ_eq hkl hkq hi.out e)
        have HEX : Hid (cond = true → l[k] ≠ q[k]) := Lib.hid (fun e h => by rw [hcond, h] at e; simp at e)
        have HEY : Hid (cond = false → l[k] = q[k]) := Lib.hid (fun e => HEQ.out (by rw [hcond] at e; simpa using e))
        clear hcond hi HEQ
        generalize l[k].l = x at *
        generalize q[k].l = y at *
        have HLX : Hid ((x.map encB).length = 32 ∧ (y.map encB).length = 32) := Lib.hid ⟨by rw [List.length_map, HXY.out.1], by rw [List.length_map, HXY.out.2]⟩
        have HNQ : Hid (∀ W, (binOp .neq 29 (.agg (x.map encB).toArray) (.agg (y.map encB).toArray)).run Tryd.prog W = .ok (.bool cond) W) := Lib.hid (fun W => by rw [HCD.out]; exact run_hash_neq _ _ HXY.out.1 HXY.out.2 W)
        have hHeld : wr.drew.rangeAt b (o + k * 32) (x.map encB) ∧ wr.drew.rangeAt b2 (o2 + k * 32) (y.map encB) := ⟨(World.rangeAt_drew _ _ _ _).2 hr1, (World.rangeAt_drew _ _ _ _).2 hr2⟩
        clear hr1 hr2
        clear HL HM HN
        go_wp2_with fail
        refine wp_region_D (fun w' => w'.rangeAt b (o + k * 32) (x.map encB) ∧ w'.rangeAt b2 (o2 + k * 32) (y.map encB)) (fun _ => true) (by kernel_rfl) ?_
        refine wpAnyE_take (i := 0) (oi := ⟨some 17, Op.move (Operand.tmp 0), 34, _, _, _⟩) (v := ?_) rfl (by kernel_rfl) (by kernel_rfl) (by kernel_rfl) (by kernel_rfl) (by kernel_rfl) (fun _ _ _ h => h) (by rfl) ?hykra1 (hHeld) ?hrkra1
        case hykra1 => (intro wS hSw; (try dsimp only at hSw); go_simp; (try with_reducible rfl))
        all_goals try simp only [Act.put, List.setIfInBounds_toArray, List.set_cons_zero, List.set_cons_succ]
        refine wpAnyE_take (i := 1) (oi := ⟨some 18, Op.move (Operand.tmp 5), 3, _, _, _⟩) (v := ?_) rfl (by kernel_rfl) (by kernel_rfl) (by kernel_rfl) (by kernel_rfl) (by kernel_rfl) (fun _ _ _ h => h) (by rfl) ?hykra2 (hHeld) ?hrkra2
        case hykra2 => (intro wS hSw; (try dsimp only at hSw); go_simp; (try with_reducible rfl))
        all_goals try simp only [Act.put, List.setIfInBounds_toArray, List.set_cons_zero, List.set_cons_succ]
        refine wpAnyE_take (i := 2) (oi := ⟨some 19, Op.indexAddr 34 (Operand.tmp 17) (Operand.tmp 18), 0, _, _, _⟩) (v := ?_) rfl (by kernel_rfl) (by kernel_rfl) (by kernel_rfl) (by kernel_rfl) (by kernel_rfl) (fun _ _ _ h => h) (by rfl) ?hykra3 (hHeld) ?hrkra3
        case hykra3 => (intro wS hSw; (try dsimp only at hSw); go_simp; (try with_reducible rfl))
        all_goals try simp only [Act.put, List.setIfInBounds_toArray, List.set_cons_zero, List.set_cons_succ]
        refine wpAnyE_take (i := 3) (oi := ⟨some 20, Op.load 29 (Operand.tmp 19), 29, _, _, _⟩) (v := ?_) rfl (by kernel_rfl) (by kernel_rfl) (by kernel_rfl) (by kernel_rfl) (by kernel_rfl) (fun _ _ _ h => h) (by rfl) ?hykra4 (hHeld) ?hrkra4
        case hykra4 => (intro wS hSw; refine exec_load_mid 29 (.tmp 19) ?_ b (o + k * 32) ?_ (x.map encB) _ hSw.1 Tryd.underlying29 ?_ ?_; rfl; rfl; rfl; (rw [HLX.out.1]; kernel_rfl))
        all_goals try simp only [Act.put, List.setIfInBounds_toArray, List.set_cons_zero, List.set_cons_succ]
        refine wpAnyE_take (i := 4) (oi := ⟨some 21, Op.move (Operand.tmp 1), 34, _, _, _⟩) (v := ?_) rfl (by kernel_rfl) (by kernel_rfl) (by kernel_rfl) (by kernel_rfl) (by kernel_rfl) (fun _ _ _ h => h) (by rfl) ?hykra5 (hHeld) ?hrkra5
        case hykra5 => (intro wS hSw; (try dsimp only at hSw); go_simp; (try with_reducible rfl))
        all_goals try simp only [Act.put, List.setIfInBounds_toArray, List.set_cons_zero, List.set_cons_succ]
        refine wpAnyE_take (i := 5) (oi := ⟨some 22, Op.move (Operand.tmp 5), 3, _, _, _⟩) (v := ?_) rfl (by kernel_rfl) (by kernel_rfl) (by kernel_rfl) (by kernel_rfl) (by kernel_rfl) (fun _ _ _ h => h) (by rfl) ?hykra6 (hHeld) ?hrkra6
        case hykra6 => (intro wS hSw; (try dsimp only at hSw); go_simp; (try with_reducible rfl))
        all_goals try simp only [Act.put, List.setIfInBounds_toArray, List.set_cons_zero, List.set_cons_succ]
        refine wpAnyE_take (i := 6) (oi := ⟨some 23, Op.indexAddr 34 (Operand.tmp 21) (Operand.tmp 22), 0, _, _, _⟩) (v := ?_) rfl (by kernel_rfl) (by kernel_rfl) (by kernel_rfl) (by kernel_rfl) (by kernel_rfl) (fun _ _ _ h => h) (by rfl) ?hykra7 (hHeld) ?hrkra7
        case hykra7 => (intro wS hSw; (try dsimp only at hSw); go_simp; (try with_reducible rfl))
        all_goals try simp only [Act.put, List.setIfInBounds_toArray, List.set_cons_zero, List.set_cons_succ]
        refine wpAnyE_take (i := 7) (oi := ⟨some 24, Op.load 29 (Operand.tmp 23), 29, _, _, _⟩) (v := ?_) rfl (by kernel_rfl) (by kernel_rfl) (by kernel_rfl) (by kernel_rfl) (by kernel_rfl) (fun _ _ _ h => h) (by rfl) ?hykra8 (hHeld) ?hrkra8
        case hykra8 => (intro wS hSw; refine exec_load_mid 29 (.tmp 23) ?_ b2 (o2 + k * 32) ?_ (y.map encB) _ hSw.2 Tryd.underlying29 ?_ ?_; rfl; rfl; rfl; (rw [HLX.out.2]; kernel_rfl))
        all_goals try simp only [Act.put, List.setIfInBounds_toArray, List.set_cons_zero, List.set_cons_succ]
        refine wpAnyE_take (i := 8) (oi := ⟨some 25, Op.binOp BinOp.neq 29 (Operand.tmp 20) (Operand.tmp 24) 29, 4, _, _, _⟩) (v := ?_) rfl (by kernel_rfl) (by kernel_rfl) (by kernel_rfl) (by kernel_rfl) (by kernel_rfl) (fun _ _ _ h => h) (by rfl) ?hykra9 (hHeld) ?hrkra9
        case hykra9 => (intro wS hSw; refine exec_neq 29 29 (.tmp 20) (.tmp 24) ?_ (x.map encB).toArray (y.map encB).toArray ?_ ?_ guard_h cond (HNQ.out wS); rfl; rfl; rfl)
        all_goals try simp only [Act.put, List.setIfInBounds_toArray, List.set_cons_zero, List.set_cons_succ]
        refine wpAnyD_done (by kernel_rfl) ?_ _
        unfold Exit.then
        cases cond with
        | false =>
          go_wp2_with fail
          go_roundw
          case rel => exact ⟨k + 1, by omega, by go_num, Lib.hid (HSU.out (HEY.out (by simp))), Lib.hid hb.out.drew⟩
          case measure => simp [intOf]; omega
        | true =>
          go_wp2_with fail
          go_ret
          exact ⟨ret_bool (decide_eq_false (HNE.out (HEX.out (by simp)))).symm, hb.out.drew⟩
      · go_wp2_with fail
        go_ret
        exact ⟨ret_bool (decide_eq_true (eq_all (by have := HN.out; omega) (by have := HN.out; omega) hi.out)).symm, hb.out⟩
  · have hnn : ((n : Int) != (m : Int)) = true := by simp; omega
    have HNE : Hid (l ≠ q) := Lib.hid (fun e => hll (by have := HN.out; rw [e] at this; omega))
    clear hll
    go_enter Tryd.func24, Tryd.ntmps24
    go_wp2
    go_ret
    exact ⟨ret_bool (decide_eq_false HNE.out).symm, Below.refl _ _⟩
set_option maxHeartbeats 400000 in
theorem same_strings (A B : Option Addr) (c d : Nat) (l m : List ByteArray) (w : World) (hl : Sl w (fun b => b < w.heap.size) A c l) (hm : Sl w (fun b => b < w.heap.size) B d m) :
    Calls Tryd.prog 51 #[.slice A l.length c, .slice B m.length d] w fun e w' => e = .returned (.bool (decide (l = m))) ∧ Below w.heap.size w w' := by
  have hlen : l.length ≤ 9223372036854775807 := by have := hl.1; have := hl.2.1; unfold maxLen at this; omega
  have hlem : m.length ≤ 9223372036854775807 := by have := hm.1; have := hm.2.1; unfold maxLen at this; omega
  by_cases hll : l.length = m.length
  · have hnn : ((l.length : Int) != (m.length : Int)) = false := by rw [hll]; simp
    have Hll := Lib.hid hll
    go_enter Tryd.func51, Tryd.ntmps51
    clear hll
    go_wp2
    go_loopw [5] (fun i wr => ∃ k : Nat, k ≤ l.length ∧ i = .int .i64 k ∧ Hid (l.take k = m.take k) ∧ Below w.heap.size w wr) (fun i _ => l.length - (intOf i).toNat)
    case atStart => exact ⟨0, Nat.zero_le _, rfl, rfl, Below.refl _ _⟩
    case round =>
      obtain ⟨k, hk, rfl, hi, hb⟩ := hrel
      by_cases hlt : k < l.length
      · have hltm : k < m.length := by have := Hll.out; omega
        obtain ⟨b, o, rfl, hbS, hbl, c0⟩ := str_at (hl.keep (Kept.all hb) hb.size) hlt
        obtain ⟨b2, o2, rfl, hbS2, hbl2, d0⟩ := str_at (hm.keep (Kept.all hb) hb.size) hltm
        have hkl : (k : Int) < (l.length : Int) := by omega
        have hkm : (k : Int) < (m.length : Int) := by omega
        have hk0 : (0 : Int) ≤ (k : Int) := by omega
        by_cases heq : l[k] = m[k]
        · have hB : (!l[k].toList == m[k].toList) = false := by rw [tl_eq heq]; rfl
          have Heq := Lib.hid heq
          clear heq
          go_wp2_with fail
          go_quiet (fail)
          go_wp2_with fail
          go_roundw
          case rel => exact ⟨k + 1, by omega, by go_num, take_succ_eq hlt hltm hi.out Heq.out, Below.dn hb _⟩
          case measure => simp [intOf]; omega
        · have hB : (!l[k].toList == m[k].toList) = true := by rw [tl_ne heq]; rfl
          have Heq := Lib.hid heq
          clear heq
          go_wp2_with fail
          go_quiet (fail)
          go_wp2_with fail
          go_ret
          exact ⟨ret_bool (decide_eq_false (ne_at hlt hltm Heq.out)).symm, Below.dn hb _⟩
      · go_wp2_with fail
        go_ret
        exact ⟨ret_bool (decide_eq_true (eq_all (by omega) (by have := Hll.out; omega) hi.out)).symm, hb⟩
  · have hnn : ((l.length : Int) != (m.length : Int)) = true := by simp; omega
    have Hll := Lib.hid hll
    clear hll
    go_enter Tryd.func51, Tryd.ntmps51
    go_wp2
    go_ret
    exact ⟨ret_bool (decide_eq_false (fun e => Hll.out (by rw [e]))).symm, Below.refl _ _⟩
end Go.Proofs.YthcklfelofpffaaDoor
