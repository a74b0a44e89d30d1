/- The reference's values of two roots, by a growth: the ends. No condition but sizes.
The reference's values of two roots, by a growth: the steps. No condition but sizes.
The reference's values of two roots, by a growth. No condition but sizes.
The reference's Extends and Grown. No condition but sizes. -/
import Derived.Test.YthcklfelofpffaaDoorCPd11
namespace Go.Proofs.YthcklfelofpffaaDoor
open Go.RowKit
theorem results_two_tmp {P : Program} {fn : Func} {p q r : Tmp} {ty : TypeId} (h : fn.results = #[.cell p ty, .cell q ty, .tmp r]) (tmps : Array Value) (w : World) (g g' : Nat) (t t' : TypeId) (cs cs' : Array Value) (fr fr' : Nat × Nat) (d : TypeDesc)
    (hp : tmps.getD p undef = .pointer (some ⟨g, 0, none⟩)) (hg : w.heap[g]? = some (.cells cs t fr)) (hq : tmps.getD q undef = .pointer (some ⟨g', 0, none⟩)) (hg' : w.heap[g']? = some (.cells cs' t' fr'))
    (hu : P.underlying ty = some d) (hd : (match d with | .struct _ | .array _ _ => true | _ => false) = true) (hi : (P.info? ty).map (·.size) = some cs.size) (hi' : cs'.size = cs.size) :
    (results fn tmps).run P w = .ok (.tuple #[.agg cs, .agg cs', tmps.getD r undef]) w := by
  have hp' : tmps[p]?.getD undef = .pointer (some ⟨g, 0, none⟩) := by simpa using hp
  have hq' : tmps[q]?.getD undef = .pointer (some ⟨g', 0, none⟩) := by simpa using hq
  simp [results, h, hp', hq', asAddr, run_loadVar_row w g t ty cs fr d hg hu hd hi, run_loadVar_row w g' t' ty cs' fr' d hg' hu hd (by rw [hi, hi'])]
set_option maxRecDepth 100000 in
set_option maxHeartbeats 4000000 in
theorem rvalsA_any (old : List UInt8) (hl : old.length = 32) (m : Int) (A : Option Addr) (c N : Nat) (w : World) :
    Calls Tryd.prog 86 #[.int .i64 m, .int .i64 m, .bool true, hashV old, .slice A N c] w fun e w' => e = .returned (.tuple #[hashV old, hashV old, .bool (decide (N = 0))]) ∧ Below w.heap.size w w' := by
  have HB0 : Hid (Below w.heap.size w (((w.alloc (.cells (old.map encB).toArray 29)).alloc (.cells (zer32.map encB).toArray 29)).alloc (.cells (zer32.map encB).toArray 29))) := Lib.hid ((((Below.refl _ _).alloc (Nat.le_refl _) _).alloc (by simp) _).alloc (by first | (simp; done) | (simp; omega)) _)
  have H8 : Hid (ABox (((w.alloc (.cells (old.map encB).toArray 29)).alloc (.cells (zer32.map encB).toArray 29)).alloc (.cells (zer32.map encB).toArray 29)) w.heap.size 29 (old.map encB)) := Lib.hid ((Below.heap_alloc _ _ _ (by first | (simp; done) | (simp; omega))).trans ((Below.heap_alloc _ _ _ (by simp)).trans (heap_alloc_new w _)))
  have H10 : Hid (ABox (((w.alloc (.cells (old.map encB).toArray 29)).alloc (.cells (zer32.map encB).toArray 29)).alloc (.cells (zer32.map encB).toArray 29)) (w.heap.size + 1) 29 (zer32.map encB)) := Lib.hid ((Below.heap_alloc _ _ _ (by first | (simp; done) | (simp; omega))).trans (heap_at (by simp)))
  have H11 : Hid (ABox (((w.alloc (.cells (old.map encB).toArray 29)).alloc (.cells (zer32.map encB).toArray 29)).alloc (.cells (zer32.map encB).toArray 29)) (w.heap.size + 2) 29 (zer32.map encB)) := Lib.hid (heap_at (by simp))
  have HSL := Lib.hid (hash_size hl)
  have HZ : Hid ((zer32.map encB).toArray.size = 32) := Lib.hid rfl
  have HAL := Lib.hid (hash_all old)
  have HAZ := Lib.hid (hash_all zer32)
  have HRW : Hid (w.heap.size ≤ w.heap.size ∧ w.heap.size ≤ w.heap.size + 1 ∧ w.heap.size ≤ w.heap.size + 2 ∧ w.heap.size ≠ w.heap.size + 1 ∧ w.heap.size ≠ w.heap.size + 2 ∧ w.heap.size + 1 ≠ w.heap.size + 2) := Lib.hid ⟨Nat.le_refl _, by omega, by omega, by omega, by omega, by omega⟩
  obtain ⟨q, hq⟩ : ∃ q, ((N : Int) == 0) = q := ⟨_, rfl⟩
  have HQ : Hid (q = decide (N = 0)) := Lib.hid (by rw [← hq, Bool.eq_iff_iff]; simp)
  have HRE : Hid (hashV old = .agg (old.map encB).toArray) := Lib.hid rfl
  show Calls Tryd.prog 86 #[.int .i64 m, .int .i64 m, .bool true, .agg (old.map encB).toArray, .slice A N c] w fun e w' => e = .returned (.tuple #[hashV old, hashV old, .bool (decide (N = 0))]) ∧ Below w.heap.size w w'
  go_enter Tryd.func86, Tryd.ntmps86
  go_upto_region 1 with (fail)
  generalize hw1 : World.alloc (World.alloc (World.alloc w _) _) _ = w2
  have hw2 : (((w.alloc (.cells (old.map encB).toArray 29)).alloc (.cells (zer32.map encB).toArray 29)).alloc (.cells (zer32.map encB).toArray 29)) = w2 := hw1
  rw [hw2] at HB0 H8 H10 H11
  clear hw1 hw2
  have e11 : w.heap.size + 1 + 1 = w.heap.size + 2 := by omega
  rw [e11]
  clear e11
  obtain ⟨R11, hR11⟩ : ∃ R, R = w.heap.size + 2 := ⟨_, rfl⟩
  rw [← hR11] at H11 HRW ⊢
  obtain ⟨R10, hR10⟩ : ∃ R, R = w.heap.size + 1 := ⟨_, rfl⟩
  rw [← hR10] at H10 HRW ⊢
  obtain ⟨R8, hR8⟩ : ∃ R, R = w.heap.size := ⟨_, rfl⟩
  have HRR : Hid (w.heap.size ≤ R8 ∧ w.heap.size ≤ R10 ∧ w.heap.size ≤ R11 ∧ R8 ≠ R10 ∧ R8 ≠ R11 ∧ R10 ≠ R11) := Lib.hid (by rw [hR8]; exact HRW.out)
  rw [← hR8] at H8 ⊢
  clear hR8 hR10 hR11 HRW
  have HQ8 : Hid (w2.heap[R8]? = some (.cells (old.map encB).toArray 29 (0, 0))) := H8
  have HQ10 : Hid (w2.heap[R10]? = some (.cells (zer32.map encB).toArray 29 (0, 0))) := H10
  have HQ11 : Hid (w2.heap[R11]? = some (.cells (zer32.map encB).toArray 29 (0, 0))) := H11
  clear H8 H10 H11
  generalize (old.map encB).toArray = cO at *
  generalize (zer32.map encB).toArray = cZ at *
  go_upto_region 2 with (fail)
  refine wp_region_relyR (Two R10 R11 cO cO 29) (fun x => Two R10 R11 cO cO 29 w2 x) (Two.drew w2) (fun x x' hx hb => hx.trans hb) [5, 6] (fun i => if i = 5 then SPR.wR else if i = 6 then SPR.wS else SPR.any2) 8 (by kernel_rfl) (by kernel_rfl) ?_
  intro T _ g hg hgm
  refine wpR_pure (by rfl) fun Kq hq => ?_
  refine wpQuiet_run (by rfl) (.agg cO) ?_ (wpQuiet_nil ?_)
  · rintro _ ⟨d, rfl⟩
    exact exec_load_row 29 (.tmp 8) rfl R8 rfl 29 cO (0, 0) _ ((hg d).old HQ8.out HRR.out.2.2.2.1 HRR.out.2.2.2.2.1) Tryd.underlying29 rfl (by rw [HSL.out]; kernel_rfl)
  simp only [Act.put, List.setIfInBounds_toArray, List.set_cons_zero, List.set_cons_succ]
  refine hq _ ?_
  clear hq Kq
  refine wpR_pure (by rfl) fun Kq hq => ?_
  refine wpQuiet_run (by rfl) (.agg cO) ?_ (wpQuiet_nil ?_)
  · rintro _ ⟨d, rfl⟩
    exact exec_load_row 29 (.tmp 8) rfl R8 rfl 29 cO (0, 0) _ ((hg d).old HQ8.out HRR.out.2.2.2.1 HRR.out.2.2.2.2.1) Tryd.underlying29 rfl (by rw [HSL.out]; kernel_rfl)
  simp only [Act.put, List.setIfInBounds_toArray, List.set_cons_zero, List.set_cons_succ]
  refine hq _ ?_
  clear hq Kq
  repeat (refine wpR_pure (by rfl) fun Kq hq => ?_; go_big_quiet_step (fail); refine wpQuiet_nil (hq _ ?_); clear hq Kq)
  refine wpR_busy (by rfl) (by rfl) (fun d hG K Q hK => ?_) (fun vv d hG hp Kr hr => ?_)
  · obtain ⟨c5, hc5, hcz⟩ := (hg d).cellR HQ10.out
    have hz5 : c5.size = 32 := by rcases hcz with rfl | rfl <;> first | exact HZ.out | exact HSL.out
    obtain ⟨hT5, hS5⟩ := Two.setR HRR.out.2.2.2.2.2 hc5
    refine wp_store_row 29 (.tmp 10) (.tmp 28) rfl R10 cO ?_ ?_ 29 c5 hc5 (by rw [HSL.out]; kernel_rfl) (by rw [hz5, HSL.out]) HAL.out ?_
    · rfl
    · rfl
    exact hK undef _ hT5 hS5
  (try clear hp); clear hG
  simp only [Act.put, List.setIfInBounds_toArray, List.set_cons_zero, List.set_cons_succ]
  refine hr _ ?_
  clear hr Kr
  refine wpR_busy (by rfl) (by rfl) (fun d hG K Q hK => ?_) (fun vv d hG hp Kr hr => ?_)
  · obtain ⟨c5, hc5, hcz⟩ := (hg d).cellS HQ11.out
    have hz5 : c5.size = 32 := by rcases hcz with rfl | rfl <;> first | exact HZ.out | exact HSL.out
    obtain ⟨hT5, hS5⟩ := Two.setS HRR.out.2.2.2.2.2 hc5
    refine wp_store_row 29 (.tmp 11) (.tmp 29) rfl R11 cO ?_ ?_ 29 c5 hc5 (by rw [HSL.out]; kernel_rfl) (by rw [hz5, HSL.out]) HAL.out ?_
    · rfl
    · rfl
    exact hK undef _ hT5 hS5
  (try clear hp); clear hG
  simp only [Act.put, List.setIfInBounds_toArray, List.set_cons_zero, List.set_cons_succ]
  refine hr _ ?_
  clear hr Kr
  repeat (refine wpR_pure (by rfl) fun Kq hq => ?_; go_big_quiet_step (fail); refine wpQuiet_nil (hq _ ?_); clear hq Kq)
  refine wpR_end (by kernel_rfl) (fun d hG => ?_) _
  have HX10 : Hid ((g d).heap[R10]? = some (.cells cO 29 (0, 0))) := Lib.hid (hG 5)
  have HX11 : Hid ((g d).heap[R11]? = some (.cells cO 29 (0, 0))) := Lib.hid (hG 6)
  have HBE := Lib.hid ((hg d).below HB0.out HRR.out.2.1 HRR.out.2.2.1 (Nat.le_refl _))
  clear hG hg hgm
  generalize g d = w7 at *
  clear g
  unfold Exit.then
  go_wp2_with fail
  exact bodyPost_ret (v := .tuple #[.agg cO, .agg cO, .bool q]) (results_two_tmp Tryd.results86 _ _ R10 R11 _ _ cO cO (0, 0) (0, 0) _ rfl HX10.out rfl HX11.out Tryd.underlying29 rfl (by rw [HSL.out]; kernel_rfl) ((HSL.out).trans (HSL.out).symm)) rfl ⟨by rw [HQ.out, HRE.out], HBE.out⟩
set_option maxRecDepth 100000 in
set_option maxHeartbeats 4000000 in
theorem rvalsB_any (old : List UInt8) (hl : old.length = 32) (m n : Int) (whole : Bool) (h : m ≠ n ∨ whole = false) (A : Option Addr) (c : Nat) (w : World) :
    Calls Tryd.prog 86 #[.int .i64 m, .int .i64 n, .bool whole, hashV old, .slice A 0 c] w fun e w' => e = .returned (.tuple #[hashV zer32, hashV zer32, .bool false]) ∧ Below w.heap.size w w' := by
  have HB0 : Hid (Below w.heap.size w (((w.alloc (.cells (old.map encB).toArray 29)).alloc (.cells (zer32.map encB).toArray 29)).alloc (.cells (zer32.map encB).toArray 29))) := Lib.hid ((((Below.refl _ _).alloc (Nat.le_refl _) _).alloc (by simp) _).alloc (by first | (simp; done) | (simp; omega)) _)
  have H8 : Hid (ABox (((w.alloc (.cells (old.map encB).toArray 29)).alloc (.cells (zer32.map encB).toArray 29)).alloc (.cells (zer32.map encB).toArray 29)) w.heap.size 29 (old.map encB)) := Lib.hid ((Below.heap_alloc _ _ _ (by first | (simp; done) | (simp; omega))).trans ((Below.heap_alloc _ _ _ (by simp)).trans (heap_alloc_new w _)))
  have H10 : Hid (ABox (((w.alloc (.cells (old.map encB).toArray 29)).alloc (.cells (zer32.map encB).toArray 29)).alloc (.cells (zer32.map encB).toArray 29)) (w.heap.size + 1) 29 (zer32.map encB)) := Lib.hid ((Below.heap_alloc _ _ _ (by first | (simp; done) | (simp; omega))).trans (heap_at (by simp)))
  have H11 : Hid (ABox (((w.alloc (.cells (old.map encB).toArray 29)).alloc (.cells (zer32.map encB).toArray 29)).alloc (.cells (zer32.map encB).toArray 29)) (w.heap.size + 2) 29 (zer32.map encB)) := Lib.hid (heap_at (by simp))
  have HSL := Lib.hid (hash_size hl)
  have HZ : Hid ((zer32.map encB).toArray.size = 32) := Lib.hid rfl
  have HAL := Lib.hid (hash_all old)
  have HAZ := Lib.hid (hash_all zer32)
  have HRW : Hid (w.heap.size ≤ w.heap.size ∧ w.heap.size ≤ w.heap.size + 1 ∧ w.heap.size ≤ w.heap.size + 2 ∧ w.heap.size ≠ w.heap.size + 1 ∧ w.heap.size ≠ w.heap.size + 2 ∧ w.heap.size + 1 ≠ w.heap.size + 2) := Lib.hid ⟨Nat.le_refl _, by omega, by omega, by omega, by omega, by omega⟩
  show Calls Tryd.prog 86 #[.int .i64 m, .int .i64 n, .bool whole, .agg (old.map encB).toArray, .slice A 0 c] w fun e w' => e = .returned (.tuple #[hashV zer32, hashV zer32, .bool false]) ∧ Below w.heap.size w w'
  have HRZ : Hid (hashV zer32 = .agg (zer32.map encB).toArray) := Lib.hid rfl
  go_enter Tryd.func86, Tryd.ntmps86
  go_upto_region 1 with (fail)
  generalize hw1 : World.alloc (World.alloc (World.alloc w _) _) _ = w2
  have hw2 : (((w.alloc (.cells (old.map encB).toArray 29)).alloc (.cells (zer32.map encB).toArray 29)).alloc (.cells (zer32.map encB).toArray 29)) = w2 := hw1
  rw [hw2] at HB0 H8 H10 H11
  clear hw1 hw2
  have e11 : w.heap.size + 1 + 1 = w.heap.size + 2 := by omega
  rw [e11]
  clear e11
  obtain ⟨R11, hR11⟩ : ∃ R, R = w.heap.size + 2 := ⟨_, rfl⟩
  rw [← hR11] at H11 HRW ⊢
  obtain ⟨R10, hR10⟩ : ∃ R, R = w.heap.size + 1 := ⟨_, rfl⟩
  rw [← hR10] at H10 HRW ⊢
  obtain ⟨R8, hR8⟩ : ∃ R, R = w.heap.size := ⟨_, rfl⟩
  have HRR : Hid (w.heap.size ≤ R8 ∧ w.heap.size ≤ R10 ∧ w.heap.size ≤ R11 ∧ R8 ≠ R10 ∧ R8 ≠ R11 ∧ R10 ≠ R11) := Lib.hid (by rw [hR8]; exact HRW.out)
  rw [← hR8] at H8 ⊢
  clear hR8 hR10 hR11 HRW
  by_cases hmn : m = n
  · obtain rfl : whole = false := h.resolve_left (fun hh => hh hmn)
    subst hmn
    clear h
    have hq10 : w2.heap[R10]? = some (.cells (zer32.map encB).toArray 29 (0, 0)) := H10.out
    have hq11 : (w2.setRow R10 (zer32.map encB).toArray).heap[R11]? = some (.cells (zer32.map encB).toArray 29 (0, 0)) := (setRow_other _ R10 R11 _ (Ne.symm HRR.out.2.2.2.2.2)).trans H11.out
    have HX11 := Lib.hid (setRow_heap (w2.setRow R10 (zer32.map encB).toArray) R11 _ (zer32.map encB).toArray _ _ hq11)
    have HX10 : Hid (((w2.setRow R10 (zer32.map encB).toArray).setRow R11 (zer32.map encB).toArray).heap[R10]? = some (.cells (zer32.map encB).toArray 29 (0, 0))) := Lib.hid ((setRow_other _ R11 R10 _ HRR.out.2.2.2.2.2).trans (setRow_heap w2 R10 _ (zer32.map encB).toArray _ _ hq10))
    have HBE := Lib.hid (below_setRow (below_setRow HB0.out (R := R10) HRR.out.2.1 (zer32.map encB).toArray) (R := R11) HRR.out.2.2.1 (zer32.map encB).toArray)
    go_wp2_with (first
      | (refine wpList_store_row rfl 29 (.tmp 10) (.tmp 36) rfl R10 (zer32.map encB).toArray ?_ ?_ 29 (zer32.map encB).toArray hq10 (by rw [HZ.out]; kernel_rfl) rfl HAZ.out ?_; rfl; rfl)
      | (refine wpList_store_row rfl 29 (.tmp 11) (.tmp 37) rfl R11 (zer32.map encB).toArray ?_ ?_ 29 (zer32.map encB).toArray hq11 (by rw [HZ.out]; kernel_rfl) rfl HAZ.out ?_; rfl; rfl)
      | fail)
    exact bodyPost_ret (v := .tuple #[.agg (zer32.map encB).toArray, .agg (zer32.map encB).toArray, .bool false]) (results_two_tmp Tryd.results86 _ _ R10 R11 _ _ (zer32.map encB).toArray (zer32.map encB).toArray (0, 0) (0, 0) _ rfl HX10.out rfl HX11.out Tryd.underlying29 rfl (by rw [HZ.out]; kernel_rfl) rfl) rfl ⟨by rw [HRZ.out], HBE.out⟩
  · have hmn1 : (m == n) = false := by rw [beq_eq_false_iff_ne]; exact hmn
    clear h
    have hq10 : w2.heap[R10]? = some (.cells (zer32.map encB).toArray 29 (0, 0)) := H10.out
    have hq11 : (w2.setRow R10 (zer32.map encB).toArray).heap[R11]? = some (.cells (zer32.map encB).toArray 29 (0, 0)) := (setRow_other _ R10 R11 _ (Ne.symm HRR.out.2.2.2.2.2)).trans H11.out
    have HX11 := Lib.hid (setRow_heap (w2.setRow R10 (zer32.map encB).toArray) R11 _ (zer32.map encB).toArray _ _ hq11)
    have HX10 : Hid (((w2.setRow R10 (zer32.map encB).toArray).setRow R11 (zer32.map encB).toArray).heap[R10]? = some (.cells (zer32.map encB).toArray 29 (0, 0))) := Lib.hid ((setRow_other _ R11 R10 _ HRR.out.2.2.2.2.2).trans (setRow_heap w2 R10 _ (zer32.map encB).toArray _ _ hq10))
    have HBE := Lib.hid (below_setRow (below_setRow HB0.out (R := R10) HRR.out.2.1 (zer32.map encB).toArray) (R := R11) HRR.out.2.2.1 (zer32.map encB).toArray)
    go_wp2_with (first
      | (refine wpList_store_row rfl 29 (.tmp 10) (.tmp 36) rfl R10 (zer32.map encB).toArray ?_ ?_ 29 (zer32.map encB).toArray hq10 (by rw [HZ.out]; kernel_rfl) rfl HAZ.out ?_; rfl; rfl)
      | (refine wpList_store_row rfl 29 (.tmp 11) (.tmp 37) rfl R11 (zer32.map encB).toArray ?_ ?_ 29 (zer32.map encB).toArray hq11 (by rw [HZ.out]; kernel_rfl) rfl HAZ.out ?_; rfl; rfl)
      | fail)
    exact bodyPost_ret (v := .tuple #[.agg (zer32.map encB).toArray, .agg (zer32.map encB).toArray, .bool false]) (results_two_tmp Tryd.results86 _ _ R10 R11 _ _ (zer32.map encB).toArray (zer32.map encB).toArray (0, 0) (0, 0) _ rfl HX10.out rfl HX11.out Tryd.underlying29 rfl (by rw [HZ.out]; kernel_rfl) rfl) rfl ⟨by rw [HRZ.out], HBE.out⟩
end Go.Proofs.YthcklfelofpffaaDoor
namespace Go.Proofs.YthcklfelofpffaaDoor
open Go.RowKit
theorem cell_lt {w : World} {k : Nat} {b : Obj} (h : w.heap[k]? = some b) : k < w.heap.size := (Array.getElem?_eq_some_iff.1 h).1
theorem cell_to {w w' : World} {k : Nat} {b : Obj} (h : w.heap[k]? = some b) (hb : Below w.heap.size w w') : w'.heap[k]? = some b := (hb.block k (cell_lt h)).trans h
set_option maxRecDepth 100000 in
set_option maxHeartbeats 4000000 in
theorem rvalsC_any (old sv : List UInt8) (hl : old.length = 32) (m : Int) (A : Option Addr) (c M : Nat) (p : List H32) (w : World) (hs : Sl w (fun b => b < w.heap.size) A c p) (hp : p.length = M + 1) (hM : M + 1 ≤ 1073741824) (hsv : hAt p M = sv) :
    Calls Tryd.prog 86 #[.int .i64 m, .int .i64 m, .bool false, hashV old, .slice A (M + 1) c] w fun e w' => e = .returned (.tuple #[hashV sv, hashV sv, .bool (decide (M = 0))]) ∧ Below w.heap.size w w' := by
  obtain ⟨cO, hcO⟩ : ∃ c, (old.map encB).toArray = c := ⟨_, rfl⟩
  have HcO := Lib.hid hcO
  obtain ⟨cS, hcS⟩ : ∃ c, (sv.map encB).toArray = c := ⟨_, rfl⟩
  have HcS := Lib.hid hcS
  have hba : Below w.heap.size w (((w.alloc (.cells cO 29)).alloc (.cells (zer32.map encB).toArray 29)).alloc (.cells (zer32.map encB).toArray 29)) := (((Below.refl _ _).alloc (Nat.le_refl _) _).alloc (by simp) _).alloc (by first | (simp; done) | (simp; omega)) _
  obtain ⟨b, o, rfl, _, hbl, hrg, hx32⟩ := h32_at (hs.to hba) (k := M) (by omega)
  have hcc : M + 1 ≤ c := by have := hs.1; omega
  have hcm : c ≤ 9223372036854775807 := by have := hs.2.1; unfold maxLen at this; omega
  have hse : p[M].l = sv := by rw [← hsv]; exact (hAt_eq p _ (by omega)).symm
  rw [hse] at hrg hx32
  have HS32 := Lib.hid hx32
  have HRG := Lib.hid hrg
  have HSS := Lib.hid (hash_size hx32)
  have HSE : Hid ((sv.map encB).length = 32) := Lib.hid (by rw [List.length_map, hx32])
  have HAS := Lib.hid (hash_all sv)
  have hm1 : ((M : Int) + 1 == 0) = false := by rw [beq_eq_false_iff_ne]; omega
  have hm2 : ¬ M + 1 = 0 := by omega
  clear hs hp hrg hx32 hse hsv hba hbl
  have HB0 : Hid (Below w.heap.size w (((w.alloc (.cells cO 29)).alloc (.cells (zer32.map encB).toArray 29)).alloc (.cells (zer32.map encB).toArray 29))) := Lib.hid ((((Below.refl _ _).alloc (Nat.le_refl _) _).alloc (by simp) _).alloc (by first | (simp; done) | (simp; omega)) _)
  have H8 : Hid ((((w.alloc (.cells cO 29)).alloc (.cells (zer32.map encB).toArray 29)).alloc (.cells (zer32.map encB).toArray 29)).heap[w.heap.size]? = some (.cells cO 29 (0, 0))) := Lib.hid ((Below.heap_alloc _ _ _ (by first | (simp; done) | (simp; omega))).trans ((Below.heap_alloc _ _ _ (by simp)).trans (heap_alloc_new w _)))
  have H10 : Hid ((((w.alloc (.cells cO 29)).alloc (.cells (zer32.map encB).toArray 29)).alloc (.cells (zer32.map encB).toArray 29)).heap[w.heap.size + 1]? = some (.cells (zer32.map encB).toArray 29 (0, 0))) := Lib.hid ((Below.heap_alloc _ _ _ (by first | (simp; done) | (simp; omega))).trans (heap_at (by simp)))
  have H11 : Hid ((((w.alloc (.cells cO 29)).alloc (.cells (zer32.map encB).toArray 29)).alloc (.cells (zer32.map encB).toArray 29)).heap[w.heap.size + 2]? = some (.cells (zer32.map encB).toArray 29 (0, 0))) := Lib.hid (heap_at (by simp))
  have HSL := Lib.hid (hash_size hl)
  have HZ : Hid ((zer32.map encB).toArray.size = 32) := Lib.hid rfl
  have HRW : Hid (w.heap.size ≤ w.heap.size ∧ w.heap.size ≤ w.heap.size + 1 ∧ w.heap.size ≤ w.heap.size + 2 ∧ w.heap.size ≠ w.heap.size + 1 ∧ w.heap.size ≠ w.heap.size + 2 ∧ w.heap.size + 1 ≠ w.heap.size + 2) := Lib.hid ⟨Nat.le_refl _, by omega, by omega, by omega, by omega, by omega⟩
  obtain ⟨q, hq⟩ : ∃ q, ((M : Int) == 0) = q := ⟨_, rfl⟩
  have HQ : Hid (q = decide (M = 0)) := Lib.hid (by rw [← hq, Bool.eq_iff_iff]; simp)
  show Calls Tryd.prog 86 #[.int .i64 m, .int .i64 m, .bool false, .agg (old.map encB).toArray, .slice (some ⟨b, o, none⟩) (M + 1) c] w fun e w' => e = .returned (.tuple #[hashV sv, hashV sv, .bool (decide (M = 0))]) ∧ Below w.heap.size w w'
  rw [hcO] at HSL ⊢
  rw [hcS] at HSS HAS
  clear hl
  go_enter Tryd.func86, Tryd.ntmps86
  go_upto_region 1 with (fail)
  generalize hw1 : World.alloc (World.alloc (World.alloc w _) _) _ = w2
  have hw2 : (((w.alloc (.cells cO 29)).alloc (.cells (zer32.map encB).toArray 29)).alloc (.cells (zer32.map encB).toArray 29)) = w2 := hw1
  rw [hw2] at HB0 H8 H10 H11 HRG
  clear hw1 hw2
  have e11 : w.heap.size + 1 + 1 = w.heap.size + 2 := by omega
  rw [e11]
  clear e11
  obtain ⟨R11, hR11⟩ : ∃ R, R = w.heap.size + 2 := ⟨_, rfl⟩
  rw [← hR11] at H11 HRW ⊢
  obtain ⟨R10, hR10⟩ : ∃ R, R = w.heap.size + 1 := ⟨_, rfl⟩
  rw [← hR10] at H10 HRW ⊢
  obtain ⟨R8, hR8⟩ : ∃ R, R = w.heap.size := ⟨_, rfl⟩
  have HRR : Hid (w.heap.size ≤ R8 ∧ w.heap.size ≤ R10 ∧ w.heap.size ≤ R11 ∧ R8 ≠ R10 ∧ R8 ≠ R11 ∧ R10 ≠ R11) := Lib.hid (by rw [hR8]; exact HRW.out)
  rw [← hR8] at H8 ⊢
  clear hR8 hR10 hR11 HRW
  have hz3 : (w2.alloc (.cells (zer32.map encB).toArray 29)).heap[w2.heap.size]? = some (.cells (zer32.map encB).toArray 29 (0, 0)) := heap_alloc_new w2 _
  have hbz : Below w2.heap.size w2 (w2.alloc (.cells (zer32.map encB).toArray 29)) := (Below.refl _ _).alloc (Nat.le_refl _) _
  have HL2 : Hid (R8 < w2.heap.size ∧ R10 < w2.heap.size ∧ R11 < w2.heap.size ∧ w.heap.size ≤ w2.heap.size) := Lib.hid ⟨cell_lt H8.out, cell_lt H10.out, cell_lt H11.out, HB0.out.size⟩
  have HBX := Lib.hid (below_setRow hbz (Nat.le_refl _) cS)
  have H83 := Lib.hid (cell_to H8.out HBX.out)
  have H103 := Lib.hid (cell_to H10.out HBX.out)
  have H113 := Lib.hid (cell_to H11.out HBX.out)
  have H133 : Hid (((w2.alloc (.cells (zer32.map encB).toArray 29)).setRow w2.heap.size cS).heap[w2.heap.size]? = some (.cells cS 29 (0, 0))) := Lib.hid (setRow_heap _ _ _ _ _ _ hz3)
  have HB3 := Lib.hid (HB0.out.trans (HBX.out.mono HB0.out.size))
  clear hbz H8 H10 H11 HB0 HBX
  go_upto_region 8 with (first
    | (refine wpList_load_mid rfl 29 (.tmp 42) rfl b (o + M * 32) ?_ (sv.map encB) _ ?_ Tryd.underlying29 ?_ ?_ ?_; rfl; exact HRG.out; rfl; (rw [HSE.out]; kernel_rfl); rw [hcS])
    | (refine wpList_store_row rfl 29 (.tmp 13) (.tmp 43) rfl w2.heap.size cS ?_ ?_ 29 (zer32.map encB).toArray hz3 (by rw [HSS.out]; kernel_rfl) (by rw [HZ.out, HSS.out]) HAS.out ?_; rfl; rfl)
    | fail)
  clear hz3
  generalize hw4 : World.setRow (World.alloc w2 _) _ _ = w3
  have hw5 : ((w2.alloc (.cells (zer32.map encB).toArray 29)).setRow w2.heap.size cS) = w3 := hw4
  rw [hw5] at H83 H103 H113 H133 HB3
  clear hw4 hw5
  obtain ⟨R13, hR13⟩ : ∃ R, w2.heap.size = R := ⟨_, rfl⟩
  rw [hR13] at H133 HL2 ⊢
  have HNE : Hid (R13 ≠ R10 ∧ R13 ≠ R11) := Lib.hid (by obtain ⟨h1, h2, h3, _⟩ := HL2.out; omega)
  clear hR13
  clear hcO hcS
  refine wp_region_relyR (Two R10 R11 cS cS 29) (fun x => Two R10 R11 cS cS 29 w3 x) (Two.drew w3) (fun x x' hx hb => hx.trans hb) [5, 6] (fun i => if i = 5 then SPR.wR else if i = 6 then SPR.wS else SPR.any2) 8 (by kernel_rfl) (by kernel_rfl) ?_
  intro TW _ g hg hgm
  refine wpR_pure (by rfl) fun Kq hq => ?_
  refine wpQuiet_run (by rfl) (.agg cS) ?_ (wpQuiet_nil ?_)
  · rintro _ ⟨d, rfl⟩
    exact exec_load_row 29 (.tmp 13) rfl R13 rfl 29 cS (0, 0) _ ((hg d).old H133.out HNE.out.1 HNE.out.2) Tryd.underlying29 rfl (by rw [HSS.out]; kernel_rfl)
  simp only [Act.put, List.setIfInBounds_toArray, List.set_cons_zero, List.set_cons_succ]
  refine hq _ ?_
  clear hq Kq
  refine wpR_pure (by rfl) fun Kq hq => ?_
  refine wpQuiet_run (by rfl) (.agg cS) ?_ (wpQuiet_nil ?_)
  · rintro _ ⟨d, rfl⟩
    exact exec_load_row 29 (.tmp 13) rfl R13 rfl 29 cS (0, 0) _ ((hg d).old H133.out HNE.out.1 HNE.out.2) Tryd.underlying29 rfl (by rw [HSS.out]; kernel_rfl)
  simp only [Act.put, List.setIfInBounds_toArray, List.set_cons_zero, List.set_cons_succ]
  refine hq _ ?_
  clear hq Kq
  repeat (refine wpR_pure (by rfl) fun Kq hq => ?_; go_big_quiet_step (fail); refine wpQuiet_nil (hq _ ?_); clear hq Kq)
  refine wpR_busy (by rfl) (by rfl) (fun d hG K Q hK => ?_) (fun vv d hG hp Kr hr => ?_)
  · obtain ⟨c5, hc5, hcz⟩ := (hg d).cellR H103.out
    have hz5 : c5.size = 32 := by rcases hcz with rfl | rfl <;> first | exact HZ.out | exact HSS.out
    obtain ⟨hT5, hS5⟩ := Two.setR HRR.out.2.2.2.2.2 hc5
    refine wp_store_row 29 (.tmp 10) (.tmp 52) rfl R10 cS ?_ ?_ 29 c5 hc5 (by rw [HSS.out]; kernel_rfl) (by rw [hz5, HSS.out]) HAS.out ?_
    · rfl
    · rfl
    exact hK undef _ hT5 hS5
  (try clear hp); clear hG
  simp only [Act.put, List.setIfInBounds_toArray, List.set_cons_zero, List.set_cons_succ]
  refine hr _ ?_
  clear hr Kr
  refine wpR_busy (by rfl) (by rfl) (fun d hG K Q hK => ?_) (fun vv d hG hp Kr hr => ?_)
  · obtain ⟨c5, hc5, hcz⟩ := (hg d).cellS H113.out
    have hz5 : c5.size = 32 := by rcases hcz with rfl | rfl <;> first | exact HZ.out | exact HSS.out
    obtain ⟨hT5, hS5⟩ := Two.setS HRR.out.2.2.2.2.2 hc5
    refine wp_store_row 29 (.tmp 11) (.tmp 53) rfl R11 cS ?_ ?_ 29 c5 hc5 (by rw [HSS.out]; kernel_rfl) (by rw [hz5, HSS.out]) HAS.out ?_
    · rfl
    · rfl
    exact hK undef _ hT5 hS5
  (try clear hp); clear hG
  simp only [Act.put, List.setIfInBounds_toArray, List.set_cons_zero, List.set_cons_succ]
  refine hr _ ?_
  clear hr Kr
  repeat (refine wpR_pure (by rfl) fun Kq hq => ?_; go_big_quiet_step (fail); refine wpQuiet_nil (hq _ ?_); clear hq Kq)
  refine wpR_end (by kernel_rfl) (fun d hG => ?_) _
  have HX10 : Hid ((g d).heap[R10]? = some (.cells cS 29 (0, 0))) := Lib.hid (hG 5)
  have HX11 : Hid ((g d).heap[R11]? = some (.cells cS 29 (0, 0))) := Lib.hid (hG 6)
  have HBE := Lib.hid ((hg d).below HB3.out HRR.out.2.1 HRR.out.2.2.1 (Nat.le_refl _))
  clear hG hg hgm
  generalize g d = w7 at *
  clear g
  unfold Exit.then
  go_wp2_with fail
  exact bodyPost_ret (v := .tuple #[.agg cS, .agg cS, .bool q]) (results_two_tmp Tryd.results86 _ _ R10 R11 _ _ cS cS (0, 0) (0, 0) _ rfl HX10.out rfl HX11.out Tryd.underlying29 rfl (by rw [HSS.out]; kernel_rfl) ((HSS.out).trans (HSS.out).symm)) rfl ⟨by rw [HQ.out, ← HcS.out]; rfl, HBE.out⟩
set_option maxRecDepth 100000 in
set_option maxHeartbeats 4000000 in
theorem rvalsD_any (old sv a b : List UInt8) (hl : old.length = 32) (ha : a.length = 32) (hb : b.length = 32) (ok whole : Bool) (m n : Nat) (h2 : 2 ≤ n) (hn : n ≤ 65536) (hmk : m ≤ splitN n) (A : Option Addr) (c M : Nat) (p : List H32) (w : World) (hs : Sl w (fun b => b < w.heap.size) A c p) (hp : p.length = M + 1) (hM : M + 1 ≤ 1073741824) (hsv : hAt p M = sv)
    (hcall : ∀ w', Below w.heap.size w w' → Calls Tryd.prog 86 #[.int .i64 (m : Int), .int .i64 (splitN n : Int), .bool whole, hashV old, .slice A M c] w' fun e w'' => e = .returned (.tuple #[hashV a, hashV b, .bool ok]) ∧ Below w'.heap.size w' w'') :
    Calls Tryd.prog 86 #[.int .i64 (m : Int), .int .i64 (n : Int), .bool whole, hashV old, .slice A (M + 1) c] w fun e w' => e = .returned (.tuple #[hashV a, hashV (nodeH b sv), .bool ok]) ∧ Below w.heap.size w w' := by
  obtain ⟨_, _, h3, h4, _⟩ := splitN_bounds n h2 (by omega)
  have HSP := Lib.hid (rsplit_any n h2 (by omega))
  have hnm : ((m : Int) == (n : Int)) = false := by rw [beq_eq_false_iff_ne]; omega
  obtain ⟨cO, hcO⟩ : ∃ c, (old.map encB).toArray = c := ⟨_, rfl⟩
  have HcO := Lib.hid hcO
  obtain ⟨cS, hcS⟩ : ∃ c, (sv.map encB).toArray = c := ⟨_, rfl⟩
  have HcS := Lib.hid hcS
  obtain ⟨cA, hcA⟩ : ∃ c, (a.map encB).toArray = c := ⟨_, rfl⟩
  have HcA := Lib.hid hcA
  obtain ⟨cB, hcB⟩ : ∃ c, (b.map encB).toArray = c := ⟨_, rfl⟩
  have HcB := Lib.hid hcB
  have hba : Below w.heap.size w (((w.alloc (.cells cO 29)).alloc (.cells (zer32.map encB).toArray 29)).alloc (.cells (zer32.map encB).toArray 29)) := (((Below.refl _ _).alloc (Nat.le_refl _) _).alloc (by simp) _).alloc (by first | (simp; done) | (simp; omega)) _
  obtain ⟨bb, o, rfl, _, hbl, hrg, hx32⟩ := h32_at (hs.to hba) (k := M) (by omega)
  have hcc : M + 1 ≤ c := by have := hs.1; omega
  have hcm : c ≤ 9223372036854775807 := by have := hs.2.1; unfold maxLen at this; omega
  have hse : p[M].l = sv := by rw [← hsv]; exact (hAt_eq p _ (by omega)).symm
  rw [hse] at hrg hx32
  have HS32 := Lib.hid hx32
  have HRG := Lib.hid hrg
  have HSS := Lib.hid (hash_size hx32)
  have HSE : Hid ((sv.map encB).length = 32) := Lib.hid (by rw [List.length_map, hx32])
  have HAS := Lib.hid (hash_all sv)
  have hm1 : ((M : Int) + 1 == 0) = false := by rw [beq_eq_false_iff_ne]; omega
  have hm2 : ¬ M + 1 = 0 := by omega
  clear hs hp hrg hx32 hse hsv hba hbl
  have HB0 : Hid (Below w.heap.size w (((w.alloc (.cells cO 29)).alloc (.cells (zer32.map encB).toArray 29)).alloc (.cells (zer32.map encB).toArray 29))) := Lib.hid ((((Below.refl _ _).alloc (Nat.le_refl _) _).alloc (by simp) _).alloc (by first | (simp; done) | (simp; omega)) _)
  have H8 : Hid ((((w.alloc (.cells cO 29)).alloc (.cells (zer32.map encB).toArray 29)).alloc (.cells (zer32.map encB).toArray 29)).heap[w.heap.size]? = some (.cells cO 29 (0, 0))) := Lib.hid ((Below.heap_alloc _ _ _ (by first | (simp; done) | (simp; omega))).trans ((Below.heap_alloc _ _ _ (by simp)).trans (heap_alloc_new w _)))
  have H10 : Hid ((((w.alloc (.cells cO 29)).alloc (.cells (zer32.map encB).toArray 29)).alloc (.cells (zer32.map encB).toArray 29)).heap[w.heap.size + 1]? = some (.cells (zer32.map encB).toArray 29 (0, 0))) := Lib.hid ((Below.heap_alloc _ _ _ (by first | (simp; done) | (simp; omega))).trans (heap_at (by simp)))
  have H11 : Hid ((((w.alloc (.cells cO 29)).alloc (.cells (zer32.map encB).toArray 29)).alloc (.cells (zer32.map encB).toArray 29)).heap[w.heap.size + 2]? = some (.cells (zer32.map encB).toArray 29 (0, 0))) := Lib.hid (heap_at (by simp))
  have HSL := Lib.hid (hash_size hl)
  have HZ : Hid ((zer32.map encB).toArray.size = 32) := Lib.hid rfl
  have HRW : Hid (w.heap.size ≤ w.heap.size ∧ w.heap.size ≤ w.heap.size + 1 ∧ w.heap.size ≤ w.heap.size + 2 ∧ w.heap.size ≠ w.heap.size + 1 ∧ w.heap.size ≠ w.heap.size + 2 ∧ w.heap.size + 1 ≠ w.heap.size + 2) := Lib.hid ⟨Nat.le_refl _, by omega, by omega, by omega, by omega, by omega⟩
  obtain ⟨cN0, hcN0⟩ : ∃ c, ((nodeH b sv).map encB).toArray = c := ⟨_, rfl⟩
  have HcN0 := Lib.hid hcN0
  have HN0 : Hid (∀ W, Calls Tryd.prog 77 #[.agg cB, .agg cS] W fun e w' => e = .returned (.agg cN0) ∧ Below W.heap.size W w') := Lib.hid (fun W => by rw [← hcN0, ← hcB, ← hcS]; exact rnode_any _ _ hb HS32.out W)
  have HSN0 : Hid (cN0.size = 32) := Lib.hid (by rw [← hcN0]; exact hash_size (sha_length _))
  have HAN0 : Hid (cN0.all (·.oneCell') = true) := Lib.hid (by rw [← hcN0]; exact hash_all _)
  have HSA : Hid (cA.size = 32) := Lib.hid (by rw [← hcA]; exact hash_size ha)
  have HSB : Hid (cB.size = 32) := Lib.hid (by rw [← hcB]; exact hash_size hb)
  have HAA : Hid (cA.all (·.oneCell') = true) := Lib.hid (by rw [← hcA]; exact hash_all _)
  have HAB : Hid (cB.all (·.oneCell') = true) := Lib.hid (by rw [← hcB]; exact hash_all _)
  have HCA : Hid (∀ w', Below w.heap.size w w' → Calls Tryd.prog 86 #[.int .i64 (m : Int), .int .i64 (splitN n : Int), .bool whole, .agg cO, .slice (some ⟨bb, o, none⟩) M c] w' fun e w'' => e = .returned (.tuple #[.agg cA, .agg cB, .bool ok]) ∧ Below w'.heap.size w' w'') := Lib.hid (fun w' h => by rw [← hcO, ← hcA, ← hcB]; exact hcall w' h)
  show Calls Tryd.prog 86 #[.int .i64 (m : Int), .int .i64 (n : Int), .bool whole, .agg (old.map encB).toArray, .slice (some ⟨bb, o, none⟩) (M + 1) c] w fun e w' => e = .returned (.tuple #[hashV a, hashV (nodeH b sv), .bool ok]) ∧ Below w.heap.size w w'
  rw [hcO] at HSL ⊢
  rw [hcS] at HSS HAS
  clear hl ha hb hcall
  generalize splitN n = k at *
  go_enter Tryd.func86, Tryd.ntmps86
  go_upto_region 1 with (fail)
  generalize hw1 : World.alloc (World.alloc (World.alloc w _) _) _ = w2
  have hw2 : (((w.alloc (.cells cO 29)).alloc (.cells (zer32.map encB).toArray 29)).alloc (.cells (zer32.map encB).toArray 29)) = w2 := hw1
  rw [hw2] at HB0 H8 H10 H11 HRG
  clear hw1 hw2
  have e11 : w.heap.size + 1 + 1 = w.heap.size + 2 := by omega
  rw [e11]
  clear e11
  obtain ⟨R11, hR11⟩ : ∃ R, R = w.heap.size + 2 := ⟨_, rfl⟩
  rw [← hR11] at H11 HRW ⊢
  obtain ⟨R10, hR10⟩ : ∃ R, R = w.heap.size + 1 := ⟨_, rfl⟩
  rw [← hR10] at H10 HRW ⊢
  obtain ⟨R8, hR8⟩ : ∃ R, R = w.heap.size := ⟨_, rfl⟩
  have HRR : Hid (w.heap.size ≤ R8 ∧ w.heap.size ≤ R10 ∧ w.heap.size ≤ R11 ∧ R8 ≠ R10 ∧ R8 ≠ R11 ∧ R10 ≠ R11) := Lib.hid (by rw [hR8]; exact HRW.out)
  rw [← hR8] at H8 ⊢
  clear hR8 hR10 hR11 HRW
  have hz3 : (w2.alloc (.cells (zer32.map encB).toArray 29)).heap[w2.heap.size]? = some (.cells (zer32.map encB).toArray 29 (0, 0)) := heap_alloc_new w2 _
  have hbz : Below w2.heap.size w2 (w2.alloc (.cells (zer32.map encB).toArray 29)) := (Below.refl _ _).alloc (Nat.le_refl _) _
  have HL2 : Hid (R8 < w2.heap.size ∧ R10 < w2.heap.size ∧ R11 < w2.heap.size ∧ w.heap.size ≤ w2.heap.size) := Lib.hid ⟨cell_lt H8.out, cell_lt H10.out, cell_lt H11.out, HB0.out.size⟩
  have HBX := Lib.hid (below_setRow hbz (Nat.le_refl _) cS)
  have H83 := Lib.hid (cell_to H8.out HBX.out)
  have H103 := Lib.hid (cell_to H10.out HBX.out)
  have H113 := Lib.hid (cell_to H11.out HBX.out)
  have H133 : Hid (((w2.alloc (.cells (zer32.map encB).toArray 29)).setRow w2.heap.size cS).heap[w2.heap.size]? = some (.cells cS 29 (0, 0))) := Lib.hid (setRow_heap _ _ _ _ _ _ hz3)
  have HB3 := Lib.hid (HB0.out.trans (HBX.out.mono HB0.out.size))
  clear hbz H8 H10 H11 HB0 HBX
  go_upto_region 10 with (first
    | (refine wpList_load_mid rfl 29 (.tmp 42) rfl bb (o + M * 32) ?_ (sv.map encB) _ ?_ Tryd.underlying29 ?_ ?_ ?_; rfl; exact HRG.out; rfl; (rw [HSE.out]; kernel_rfl); rw [hcS])
    | (refine wpList_store_row rfl 29 (.tmp 13) (.tmp 43) rfl w2.heap.size cS ?_ ?_ 29 (zer32.map encB).toArray hz3 (by rw [HSS.out]; kernel_rfl) (by rw [HZ.out, HSS.out]) HAS.out ?_; rfl; rfl)
    | (go_at_call 76; refine (HSP.out _).mono ?_; rintro e w' ⟨rfl, rfl⟩)
    | fail)
  clear hz3
  generalize hw4 : World.setRow (World.alloc w2 _) _ _ = w3
  have hw5 : ((w2.alloc (.cells (zer32.map encB).toArray 29)).setRow w2.heap.size cS) = w3 := hw4
  rw [hw5] at H83 H103 H113 H133 HB3
  clear hw4 hw5
  obtain ⟨R13, hR13⟩ : ∃ R, w2.heap.size = R := ⟨_, rfl⟩
  rw [hR13] at H133 HL2 ⊢
  have HNE : Hid (R13 ≠ R10 ∧ R13 ≠ R11) := Lib.hid (by obtain ⟨h1, h2, h3, _⟩ := HL2.out; omega)
  clear hR13
  clear hcO hcS hcA hcB hcN0 HSP
  have hmkI : (m : Int) ≤ (k : Int) := by omega
  have hl8 : w3.heap[R8]? = some (.cells cO 29 (0, 0)) := H83.out
  go_wp2_with (first | (refine wpList_load_row rfl 29 (.tmp 8) rfl R8 ?_ 29 cO (0, 0) _ hl8 Tryd.underlying29 ?_ ?_ ?_; rfl; rfl; (rw [HSL.out]; kernel_rfl)) | fail)
  refine (HCA.out w3 HB3.out).mono ?_
  rintro e w4 ⟨rfl, hb4⟩
  have H104 := Lib.hid (cell_to H103.out hb4)
  have H114 := Lib.hid (cell_to H113.out hb4)
  have H134 := Lib.hid (cell_to H133.out hb4)
  have HB4 := Lib.hid (HB3.out.trans (hb4.mono HB3.out.size))
  clear hb4 H83 H103 H113 H133 HB3 HCA hl8 HL2
  have HL4 : Hid (R10 < w4.heap.size ∧ R11 < w4.heap.size ∧ R13 < w4.heap.size ∧ w.heap.size ≤ w4.heap.size) := Lib.hid ⟨cell_lt H104.out, cell_lt H114.out, cell_lt H134.out, HB4.out.size⟩
  obtain ⟨T, hT⟩ : ∃ T, T = w4.heap.size + 1 := ⟨_, rfl⟩
  have hza : ((w4.alloc (.cells (zer32.map encB).toArray 29)).alloc (.cells (zer32.map encB).toArray 29)).heap[w4.heap.size]? = some (.cells (zer32.map encB).toArray 29 (0, 0)) := (Below.heap_alloc _ _ _ (by simp)).trans (heap_alloc_new w4 _)
  have hzb0 : ((w4.alloc (.cells (zer32.map encB).toArray 29)).alloc (.cells (zer32.map encB).toArray 29)).heap[T]? = some (.cells (zer32.map encB).toArray 29 (0, 0)) := heap_at (by simp [hT])
  have hzb : (((w4.alloc (.cells (zer32.map encB).toArray 29)).alloc (.cells (zer32.map encB).toArray 29)).setRow w4.heap.size cA).heap[T]? = some (.cells (zer32.map encB).toArray 29 (0, 0)) := (setRow_other _ _ _ _ (by omega)).trans hzb0
  have HBX : Hid (Below w4.heap.size w4 ((((w4.alloc (.cells (zer32.map encB).toArray 29)).alloc (.cells (zer32.map encB).toArray 29)).setRow w4.heap.size cA).setRow T cB)) := Lib.hid (below_setRow (below_setRow (((Below.refl _ _).alloc (Nat.le_refl _) _).alloc (by simp) _) (Nat.le_refl _) cA) (by omega) cB)
  have HTA : Hid (((((w4.alloc (.cells (zer32.map encB).toArray 29)).alloc (.cells (zer32.map encB).toArray 29)).setRow w4.heap.size cA).setRow T cB).heap[w4.heap.size]? = some (.cells cA 29 (0, 0))) := Lib.hid ((setRow_other _ _ _ _ (by omega)).trans (setRow_heap _ _ _ _ _ _ hza))
  have HTB : Hid (((((w4.alloc (.cells (zer32.map encB).toArray 29)).alloc (.cells (zer32.map encB).toArray 29)).setRow w4.heap.size cA).setRow T cB).heap[T]? = some (.cells cB 29 (0, 0))) := Lib.hid (setRow_heap _ _ _ _ _ _ hzb)
  have H105 := Lib.hid (cell_to H104.out HBX.out)
  have H115 := Lib.hid (cell_to H114.out HBX.out)
  have H135 := Lib.hid (cell_to H134.out HBX.out)
  have HB5 := Lib.hid (HB4.out.trans (HBX.out.mono HB4.out.size))
  have HNT : Hid (w4.heap.size ≠ R10 ∧ w4.heap.size ≠ R11 ∧ T ≠ R10 ∧ T ≠ R11) := Lib.hid (by obtain ⟨h1, h2, _⟩ := HL4.out; omega)
  clear hzb0 H104 H114 H134 HB4 HBX
  have hTs : w4.heap.size + 1 = T := hT.symm
  clear hT
  go_upto_region 12 with (first
    | (refine wpList_store_row rfl 29 (.tmp 16) (.tmp 69) rfl w4.heap.size cA ?_ ?_ 29 (zer32.map encB).toArray hza (by rw [HSA.out]; kernel_rfl) (by rw [HZ.out, HSA.out]) HAA.out ?_; rfl; rfl)
    | (refine wpList_store_row rfl 29 (.tmp 17) (.tmp 70) rfl T cB ?_ ?_ 29 (zer32.map encB).toArray hzb (by rw [HSB.out]; kernel_rfl) (by rw [HZ.out, HSB.out]) HAB.out ?_; (try simp only [Array.size_push, World.size_alloc]; try rw [hTs]; rfl); rfl)
    | fail)
  try rw [hTs]
  clear hza hzb hTs
  generalize hw4 : World.setRow (World.setRow (World.alloc (World.alloc w4 _) _) _ _) _ _ = w5
  have hw5 : ((((w4.alloc (.cells (zer32.map encB).toArray 29)).alloc (.cells (zer32.map encB).toArray 29)).setRow w4.heap.size cA).setRow T cB) = w5 := hw4
  rw [hw5] at HTA HTB H105 H115 H135 HB5
  clear hw4 hw5
  obtain ⟨S, hS⟩ : ∃ S, w4.heap.size = S := ⟨_, rfl⟩
  rw [hS] at HTA HNT HL4 ⊢
  clear hS
  have HLT : Hid (R10 < w5.heap.size ∧ R11 < w5.heap.size) := Lib.hid ⟨cell_lt H105.out, cell_lt H115.out⟩
  refine wp_region_relyR (Two R10 R11 cA cN0 29) (fun x => Two R10 R11 cA cN0 29 w5 x) (Two.drew w5) (fun x x' hx hb => hx.trans hb) [3, 5, 6] (fun i => if i = 3 then SPR.is (.agg cN0) else if i = 5 then SPR.wR else if i = 6 then SPR.wS else SPR.any2) 8 (by kernel_rfl) (by kernel_rfl) ?_
  intro TW _ g hg hgm
  refine wpR_pure (by rfl) fun Kq hq => ?_
  refine wpQuiet_run (by rfl) (.agg cA) ?_ (wpQuiet_nil ?_)
  · rintro _ ⟨d, rfl⟩
    exact exec_load_row 29 (.tmp 16) rfl S rfl 29 cA (0, 0) _ ((hg d).old HTA.out HNT.out.1 HNT.out.2.1) Tryd.underlying29 rfl (by rw [HSA.out]; kernel_rfl)
  simp only [Act.put, List.setIfInBounds_toArray, List.set_cons_zero, List.set_cons_succ]
  refine hq _ ?_
  clear hq Kq
  refine wpR_pure (by rfl) fun Kq hq => ?_
  refine wpQuiet_run (by rfl) (.agg cB) ?_ (wpQuiet_nil ?_)
  · rintro _ ⟨d, rfl⟩
    exact exec_load_row 29 (.tmp 17) rfl T rfl 29 cB (0, 0) _ ((hg d).old HTB.out HNT.out.2.2.1 HNT.out.2.2.2) Tryd.underlying29 rfl (by rw [HSB.out]; kernel_rfl)
  simp only [Act.put, List.setIfInBounds_toArray, List.set_cons_zero, List.set_cons_succ]
  refine hq _ ?_
  clear hq Kq
  refine wpR_pure (by rfl) fun Kq hq => ?_
  refine wpQuiet_run (by rfl) (.agg cS) ?_ (wpQuiet_nil ?_)
  · rintro _ ⟨d, rfl⟩
    exact exec_load_row 29 (.tmp 13) rfl R13 rfl 29 cS (0, 0) _ ((hg d).old H135.out HNE.out.1 HNE.out.2) Tryd.underlying29 rfl (by rw [HSS.out]; kernel_rfl)
  simp only [Act.put, List.setIfInBounds_toArray, List.set_cons_zero, List.set_cons_succ]
  refine hq _ ?_
  clear hq Kq
  refine wpR_busy (by rfl) (by rfl) (fun d hG K Q hK => ?_) (fun v3 d hG hp Kr hr => ?_)
  · go_simp
    go_at_call 77
    refine (HN0.out _).mono ?_
    rintro e W1 ⟨rfl, hb1⟩
    go_simp
    exact hK _ _ (Two.of_below (Nat.lt_of_lt_of_le HLT.out.1 (hg d).size) (Nat.lt_of_lt_of_le HLT.out.2 (hg d).size) hb1) (rfl)
  obtain rfl : v3 = Value.agg cN0 := hp
  (try clear hp); clear hG
  simp only [Act.put, List.setIfInBounds_toArray, List.set_cons_zero, List.set_cons_succ]
  refine hr _ ?_
  clear hr Kr
  repeat (refine wpR_pure (by rfl) fun Kq hq => ?_; go_big_quiet_step (fail); refine wpQuiet_nil (hq _ ?_); clear hq Kq)
  refine wpR_busy (by rfl) (by rfl) (fun d hG K Q hK => ?_) (fun vv d hG hp Kr hr => ?_)
  · obtain ⟨c5, hc5, hcz⟩ := (hg d).cellR H105.out
    have hz5 : c5.size = 32 := by rcases hcz with rfl | rfl <;> first | exact HZ.out | exact HSA.out
    obtain ⟨hT5, hS5⟩ := Two.setR HRR.out.2.2.2.2.2 hc5
    refine wp_store_row 29 (.tmp 10) (.tmp 72) rfl R10 cA ?_ ?_ 29 c5 hc5 (by rw [HSA.out]; kernel_rfl) (by rw [hz5, HSA.out]) HAA.out ?_
    · rfl
    · rfl
    exact hK undef _ hT5 hS5
  (try clear hp); clear hG
  simp only [Act.put, List.setIfInBounds_toArray, List.set_cons_zero, List.set_cons_succ]
  refine hr _ ?_
  clear hr Kr
  refine wpR_busy (by rfl) (by rfl) (fun d hG K Q hK => ?_) (fun vv d hG hp Kr hr => ?_)
  · obtain ⟨c5, hc5, hcz⟩ := (hg d).cellS H115.out
    have hz5 : c5.size = 32 := by rcases hcz with rfl | rfl <;> first | exact HZ.out | exact HSN0.out
    obtain ⟨hT5, hS5⟩ := Two.setS HRR.out.2.2.2.2.2 hc5
    refine wp_store_row 29 (.tmp 11) (.tmp 75) rfl R11 cN0 ?_ ?_ 29 c5 hc5 (by rw [HSN0.out]; kernel_rfl) (by rw [hz5, HSN0.out]) HAN0.out ?_
    · rfl
    · rfl
    exact hK undef _ hT5 hS5
  (try clear hp); clear hG
  simp only [Act.put, List.setIfInBounds_toArray, List.set_cons_zero, List.set_cons_succ]
  refine hr _ ?_
  clear hr Kr
  repeat (refine wpR_pure (by rfl) fun Kq hq => ?_; go_big_quiet_step (fail); refine wpQuiet_nil (hq _ ?_); clear hq Kq)
  refine wpR_end (by kernel_rfl) (fun d hG => ?_) _
  have HX10 : Hid ((g d).heap[R10]? = some (.cells cA 29 (0, 0))) := Lib.hid (hG 5)
  have HX11 : Hid ((g d).heap[R11]? = some (.cells cN0 29 (0, 0))) := Lib.hid (hG 6)
  have HBE := Lib.hid ((hg d).below HB5.out HRR.out.2.1 HRR.out.2.2.1 (Nat.le_refl _))
  clear hG hg hgm
  generalize g d = w7 at *
  clear g
  unfold Exit.then
  go_wp2_with fail
  exact bodyPost_ret (v := .tuple #[.agg cA, .agg cN0, .bool ok]) (results_two_tmp Tryd.results86 _ _ R10 R11 _ _ cA cN0 (0, 0) (0, 0) _ rfl HX10.out rfl HX11.out Tryd.underlying29 rfl (by rw [HSA.out]; kernel_rfl) ((HSN0.out).trans (HSA.out).symm)) rfl ⟨by rw [← HcA.out, ← HcN0.out]; rfl, HBE.out⟩
set_option maxRecDepth 100000 in
set_option maxHeartbeats 4000000 in
theorem rvalsE_any (old sv a b : List UInt8) (hl : old.length = 32) (ha : a.length = 32) (hb : b.length = 32) (ok whole : Bool) (m n : Nat) (h2 : 2 ≤ n) (hn : n ≤ 65536) (hmk : splitN n < m) (hmn : m < n) (A : Option Addr) (c M : Nat) (p : List H32) (w : World) (hs : Sl w (fun b => b < w.heap.size) A c p) (hp : p.length = M + 1) (hM : M + 1 ≤ 1073741824) (hsv : hAt p M = sv)
    (hcall : ∀ w', Below w.heap.size w w' → Calls Tryd.prog 86 #[.int .i64 ((m - splitN n : Nat) : Int), .int .i64 ((n - splitN n : Nat) : Int), .bool false, hashV old, .slice A M c] w' fun e w'' => e = .returned (.tuple #[hashV a, hashV b, .bool ok]) ∧ Below w'.heap.size w' w'') :
    Calls Tryd.prog 86 #[.int .i64 (m : Int), .int .i64 (n : Int), .bool whole, hashV old, .slice A (M + 1) c] w fun e w' => e = .returned (.tuple #[hashV (nodeH sv a), hashV (nodeH sv b), .bool ok]) ∧ Below w.heap.size w w' := by
  obtain ⟨_, _, h3, h4, _⟩ := splitN_bounds n h2 (by omega)
  have HSP := Lib.hid (rsplit_any n h2 (by omega))
  have hnm : ((m : Int) == (n : Int)) = false := by rw [beq_eq_false_iff_ne]; omega
  obtain ⟨cO, hcO⟩ : ∃ c, (old.map encB).toArray = c := ⟨_, rfl⟩
  have HcO := Lib.hid hcO
  obtain ⟨cS, hcS⟩ : ∃ c, (sv.map encB).toArray = c := ⟨_, rfl⟩
  have HcS := Lib.hid hcS
  obtain ⟨cA, hcA⟩ : ∃ c, (a.map encB).toArray = c := ⟨_, rfl⟩
  have HcA := Lib.hid hcA
  obtain ⟨cB, hcB⟩ : ∃ c, (b.map encB).toArray = c := ⟨_, rfl⟩
  have HcB := Lib.hid hcB
  have hba : Below w.heap.size w (((w.alloc (.cells cO 29)).alloc (.cells (zer32.map encB).toArray 29)).alloc (.cells (zer32.map encB).toArray 29)) := (((Below.refl _ _).alloc (Nat.le_refl _) _).alloc (by simp) _).alloc (by first | (simp; done) | (simp; omega)) _
  obtain ⟨bb, o, rfl, _, hbl, hrg, hx32⟩ := h32_at (hs.to hba) (k := M) (by omega)
  have hcc : M + 1 ≤ c := by have := hs.1; omega
  have hcm : c ≤ 9223372036854775807 := by have := hs.2.1; unfold maxLen at this; omega
  have hse : p[M].l = sv := by rw [← hsv]; exact (hAt_eq p _ (by omega)).symm
  rw [hse] at hrg hx32
  have HS32 := Lib.hid hx32
  have HRG := Lib.hid hrg
  have HSS := Lib.hid (hash_size hx32)
  have HSE : Hid ((sv.map encB).length = 32) := Lib.hid (by rw [List.length_map, hx32])
  have HAS := Lib.hid (hash_all sv)
  have hm1 : ((M : Int) + 1 == 0) = false := by rw [beq_eq_false_iff_ne]; omega
  have hm2 : ¬ M + 1 = 0 := by omega
  clear hs hp hrg hx32 hse hsv hba hbl
  have HB0 : Hid (Below w.heap.size w (((w.alloc (.cells cO 29)).alloc (.cells (zer32.map encB).toArray 29)).alloc (.cells (zer32.map encB).toArray 29))) := Lib.hid ((((Below.refl _ _).alloc (Nat.le_refl _) _).alloc (by simp) _).alloc (by first | (simp; done) | (simp; omega)) _)
  have H8 : Hid ((((w.alloc (.cells cO 29)).alloc (.cells (zer32.map encB).toArray 29)).alloc (.cells (zer32.map encB).toArray 29)).heap[w.heap.size]? = some (.cells cO 29 (0, 0))) := Lib.hid ((Below.heap_alloc _ _ _ (by first | (simp; done) | (simp; omega))).trans ((Below.heap_alloc _ _ _ (by simp)).trans (heap_alloc_new w _)))
  have H10 : Hid ((((w.alloc (.cells cO 29)).alloc (.cells (zer32.map encB).toArray 29)).alloc (.cells (zer32.map encB).toArray 29)).heap[w.heap.size + 1]? = some (.cells (zer32.map encB).toArray 29 (0, 0))) := Lib.hid ((Below.heap_alloc _ _ _ (by first | (simp; done) | (simp; omega))).trans (heap_at (by simp)))
  have H11 : Hid ((((w.alloc (.cells cO 29)).alloc (.cells (zer32.map encB).toArray 29)).alloc (.cells (zer32.map encB).toArray 29)).heap[w.heap.size + 2]? = some (.cells (zer32.map encB).toArray 29 (0, 0))) := Lib.hid (heap_at (by simp))
  have HSL := Lib.hid (hash_size hl)
  have HZ : Hid ((zer32.map encB).toArray.size = 32) := Lib.hid rfl
  have HRW : Hid (w.heap.size ≤ w.heap.size ∧ w.heap.size ≤ w.heap.size + 1 ∧ w.heap.size ≤ w.heap.size + 2 ∧ w.heap.size ≠ w.heap.size + 1 ∧ w.heap.size ≠ w.heap.size + 2 ∧ w.heap.size + 1 ≠ w.heap.size + 2) := Lib.hid ⟨Nat.le_refl _, by omega, by omega, by omega, by omega, by omega⟩
  obtain ⟨cN0, hcN0⟩ : ∃ c, ((nodeH sv a).map encB).toArray = c := ⟨_, rfl⟩
  have HcN0 := Lib.hid hcN0
  have HN0 : Hid (∀ W, Calls Tryd.prog 77 #[.agg cS, .agg cA] W fun e w' => e = .returned (.agg cN0) ∧ Below W.heap.size W w') := Lib.hid (fun W => by rw [← hcN0, ← hcS, ← hcA]; exact rnode_any _ _ HS32.out ha W)
  have HSN0 : Hid (cN0.size = 32) := Lib.hid (by rw [← hcN0]; exact hash_size (sha_length _))
  have HAN0 : Hid (cN0.all (·.oneCell') = true) := Lib.hid (by rw [← hcN0]; exact hash_all _)
  obtain ⟨cN1, hcN1⟩ : ∃ c, ((nodeH sv b).map encB).toArray = c := ⟨_, rfl⟩
  have HcN1 := Lib.hid hcN1
  have HN1 : Hid (∀ W, Calls Tryd.prog 77 #[.agg cS, .agg cB] W fun e w' => e = .returned (.agg cN1) ∧ Below W.heap.size W w') := Lib.hid (fun W => by rw [← hcN1, ← hcS, ← hcB]; exact rnode_any _ _ HS32.out hb W)
  have HSN1 : Hid (cN1.size = 32) := Lib.hid (by rw [← hcN1]; exact hash_size (sha_length _))
  have HAN1 : Hid (cN1.all (·.oneCell') = true) := Lib.hid (by rw [← hcN1]; exact hash_all _)
  have HSA : Hid (cA.size = 32) := Lib.hid (by rw [← hcA]; exact hash_size ha)
  have HSB : Hid (cB.size = 32) := Lib.hid (by rw [← hcB]; exact hash_size hb)
  have HAA : Hid (cA.all (·.oneCell') = true) := Lib.hid (by rw [← hcA]; exact hash_all _)
  have HAB : Hid (cB.all (·.oneCell') = true) := Lib.hid (by rw [← hcB]; exact hash_all _)
  have HCA : Hid (∀ w', Below w.heap.size w w' → Calls Tryd.prog 86 #[.int .i64 ((m - splitN n : Nat) : Int), .int .i64 ((n - splitN n : Nat) : Int), .bool false, .agg cO, .slice (some ⟨bb, o, none⟩) M c] w' fun e w'' => e = .returned (.tuple #[.agg cA, .agg cB, .bool ok]) ∧ Below w'.heap.size w' w'') := Lib.hid (fun w' h => by rw [← hcO, ← hcA, ← hcB]; exact hcall w' h)
  show Calls Tryd.prog 86 #[.int .i64 (m : Int), .int .i64 (n : Int), .bool whole, .agg (old.map encB).toArray, .slice (some ⟨bb, o, none⟩) (M + 1) c] w fun e w' => e = .returned (.tuple #[hashV (nodeH sv a), hashV (nodeH sv b), .bool ok]) ∧ Below w.heap.size w w'
  rw [hcO] at HSL ⊢
  rw [hcS] at HSS HAS
  clear hl ha hb hcall
  generalize splitN n = k at *
  go_enter Tryd.func86, Tryd.ntmps86
  go_upto_region 1 with (fail)
  generalize hw1 : World.alloc (World.alloc (World.alloc w _) _) _ = w2
  have hw2 : (((w.alloc (.cells cO 29)).alloc (.cells (zer32.map encB).toArray 29)).alloc (.cells (zer32.map encB).toArray 29)) = w2 := hw1
  rw [hw2] at HB0 H8 H10 H11 HRG
  clear hw1 hw2
  have e11 : w.heap.size + 1 + 1 = w.heap.size + 2 := by omega
  rw [e11]
  clear e11
  obtain ⟨R11, hR11⟩ : ∃ R, R = w.heap.size + 2 := ⟨_, rfl⟩
  rw [← hR11] at H11 HRW ⊢
  obtain ⟨R10, hR10⟩ : ∃ R, R = w.heap.size + 1 := ⟨_, rfl⟩
  rw [← hR10] at H10 HRW ⊢
  obtain ⟨R8, hR8⟩ : ∃ R, R = w.heap.size := ⟨_, rfl⟩
  have HRR : Hid (w.heap.size ≤ R8 ∧ w.heap.size ≤ R10 ∧ w.heap.size ≤ R11 ∧ R8 ≠ R10 ∧ R8 ≠ R11 ∧ R10 ≠ R11) := Lib.hid (by rw [hR8]; exact HRW.out)
  rw [← hR8] at H8 ⊢
  clear hR8 hR10 hR11 HRW
  have hz3 : (w2.alloc (.cells (zer32.map encB).toArray 29)).heap[w2.heap.size]? = some (.cells (zer32.map encB).toArray 29 (0, 0)) := heap_alloc_new w2 _
  have hbz : Below w2.heap.size w2 (w2.alloc (.cells (zer32.map encB).toArray 29)) := (Below.refl _ _).alloc (Nat.le_refl _) _
  have HL2 : Hid (R8 < w2.heap.size ∧ R10 < w2.heap.size ∧ R11 < w2.heap.size ∧ w.heap.size ≤ w2.heap.size) := Lib.hid ⟨cell_lt H8.out, cell_lt H10.out, cell_lt H11.out, HB0.out.size⟩
  have HBX := Lib.hid (below_setRow hbz (Nat.le_refl _) cS)
  have H83 := Lib.hid (cell_to H8.out HBX.out)
  have H103 := Lib.hid (cell_to H10.out HBX.out)
  have H113 := Lib.hid (cell_to H11.out HBX.out)
  have H133 : Hid (((w2.alloc (.cells (zer32.map encB).toArray 29)).setRow w2.heap.size cS).heap[w2.heap.size]? = some (.cells cS 29 (0, 0))) := Lib.hid (setRow_heap _ _ _ _ _ _ hz3)
  have HB3 := Lib.hid (HB0.out.trans (HBX.out.mono HB0.out.size))
  clear hbz H8 H10 H11 HB0 HBX
  go_upto_region 10 with (first
    | (refine wpList_load_mid rfl 29 (.tmp 42) rfl bb (o + M * 32) ?_ (sv.map encB) _ ?_ Tryd.underlying29 ?_ ?_ ?_; rfl; exact HRG.out; rfl; (rw [HSE.out]; kernel_rfl); rw [hcS])
    | (refine wpList_store_row rfl 29 (.tmp 13) (.tmp 43) rfl w2.heap.size cS ?_ ?_ 29 (zer32.map encB).toArray hz3 (by rw [HSS.out]; kernel_rfl) (by rw [HZ.out, HSS.out]) HAS.out ?_; rfl; rfl)
    | (go_at_call 76; refine (HSP.out _).mono ?_; rintro e w' ⟨rfl, rfl⟩)
    | fail)
  clear hz3
  generalize hw4 : World.setRow (World.alloc w2 _) _ _ = w3
  have hw5 : ((w2.alloc (.cells (zer32.map encB).toArray 29)).setRow w2.heap.size cS) = w3 := hw4
  rw [hw5] at H83 H103 H113 H133 HB3
  clear hw4 hw5
  obtain ⟨R13, hR13⟩ : ∃ R, w2.heap.size = R := ⟨_, rfl⟩
  rw [hR13] at H133 HL2 ⊢
  have HNE : Hid (R13 ≠ R10 ∧ R13 ≠ R11) := Lib.hid (by obtain ⟨h1, h2, h3, _⟩ := HL2.out; omega)
  clear hR13
  clear hcO hcS hcA hcB hcN0 hcN1 HSP
  have hmkI : ¬ (m : Int) ≤ (k : Int) := by omega
  have hmk1 : (m : Int) - (k : Int) = ((m - k : Nat) : Int) := by omega
  have hnk1 : (n : Int) - (k : Int) = ((n - k : Nat) : Int) := by omega
  have hl8 : w3.heap[R8]? = some (.cells cO 29 (0, 0)) := H83.out
  go_wp2_with (first | (refine wpList_load_row rfl 29 (.tmp 8) rfl R8 ?_ 29 cO (0, 0) _ hl8 Tryd.underlying29 ?_ ?_ ?_; rfl; rfl; (rw [HSL.out]; kernel_rfl)) | fail)
  refine (HCA.out w3 HB3.out).mono ?_
  rintro e w4 ⟨rfl, hb4⟩
  have H104 := Lib.hid (cell_to H103.out hb4)
  have H114 := Lib.hid (cell_to H113.out hb4)
  have H134 := Lib.hid (cell_to H133.out hb4)
  have HB4 := Lib.hid (HB3.out.trans (hb4.mono HB3.out.size))
  clear hb4 H83 H103 H113 H133 HB3 HCA hl8 HL2
  have HL4 : Hid (R10 < w4.heap.size ∧ R11 < w4.heap.size ∧ R13 < w4.heap.size ∧ w.heap.size ≤ w4.heap.size) := Lib.hid ⟨cell_lt H104.out, cell_lt H114.out, cell_lt H134.out, HB4.out.size⟩
  obtain ⟨T, hT⟩ : ∃ T, T = w4.heap.size + 1 := ⟨_, rfl⟩
  have hza : ((w4.alloc (.cells (zer32.map encB).toArray 29)).alloc (.cells (zer32.map encB).toArray 29)).heap[w4.heap.size]? = some (.cells (zer32.map encB).toArray 29 (0, 0)) := (Below.heap_alloc _ _ _ (by simp)).trans (heap_alloc_new w4 _)
  have hzb0 : ((w4.alloc (.cells (zer32.map encB).toArray 29)).alloc (.cells (zer32.map encB).toArray 29)).heap[T]? = some (.cells (zer32.map encB).toArray 29 (0, 0)) := heap_at (by simp [hT])
  have hzb : (((w4.alloc (.cells (zer32.map encB).toArray 29)).alloc (.cells (zer32.map encB).toArray 29)).setRow w4.heap.size cA).heap[T]? = some (.cells (zer32.map encB).toArray 29 (0, 0)) := (setRow_other _ _ _ _ (by omega)).trans hzb0
  have HBX : Hid (Below w4.heap.size w4 ((((w4.alloc (.cells (zer32.map encB).toArray 29)).alloc (.cells (zer32.map encB).toArray 29)).setRow w4.heap.size cA).setRow T cB)) := Lib.hid (below_setRow (below_setRow (((Below.refl _ _).alloc (Nat.le_refl _) _).alloc (by simp) _) (Nat.le_refl _) cA) (by omega) cB)
  have HTA : Hid (((((w4.alloc (.cells (zer32.map encB).toArray 29)).alloc (.cells (zer32.map encB).toArray 29)).setRow w4.heap.size cA).setRow T cB).heap[w4.heap.size]? = some (.cells cA 29 (0, 0))) := Lib.hid ((setRow_other _ _ _ _ (by omega)).trans (setRow_heap _ _ _ _ _ _ hza))
  have HTB : Hid (((((w4.alloc (.cells (zer32.map encB).toArray 29)).alloc (.cells (zer32.map encB).toArray 29)).setRow w4.heap.size cA).setRow T cB).heap[T]? = some (.cells cB 29 (0, 0))) := Lib.hid (setRow_heap _ _ _ _ _ _ hzb)
  have H105 := Lib.hid (cell_to H104.out HBX.out)
  have H115 := Lib.hid (cell_to H114.out HBX.out)
  have H135 := Lib.hid (cell_to H134.out HBX.out)
  have HB5 := Lib.hid (HB4.out.trans (HBX.out.mono HB4.out.size))
  have HNT : Hid (w4.heap.size ≠ R10 ∧ w4.heap.size ≠ R11 ∧ T ≠ R10 ∧ T ≠ R11) := Lib.hid (by obtain ⟨h1, h2, _⟩ := HL4.out; omega)
  clear hzb0 H104 H114 H134 HB4 HBX
  have hTs : w4.heap.size + 1 = T := hT.symm
  clear hT
  go_upto_region 14 with (first
    | (refine wpList_store_row rfl 29 (.tmp 19) (.tmp 87) rfl w4.heap.size cA ?_ ?_ 29 (zer32.map encB).toArray hza (by rw [HSA.out]; kernel_rfl) (by rw [HZ.out, HSA.out]) HAA.out ?_; rfl; rfl)
    | (refine wpList_store_row rfl 29 (.tmp 20) (.tmp 88) rfl T cB ?_ ?_ 29 (zer32.map encB).toArray hzb (by rw [HSB.out]; kernel_rfl) (by rw [HZ.out, HSB.out]) HAB.out ?_; (try simp only [Array.size_push, World.size_alloc]; try rw [hTs]; rfl); rfl)
    | fail)
  try rw [hTs]
  clear hza hzb hTs
  generalize hw4 : World.setRow (World.setRow (World.alloc (World.alloc w4 _) _) _ _) _ _ = w5
  have hw5 : ((((w4.alloc (.cells (zer32.map encB).toArray 29)).alloc (.cells (zer32.map encB).toArray 29)).setRow w4.heap.size cA).setRow T cB) = w5 := hw4
  rw [hw5] at HTA HTB H105 H115 H135 HB5
  clear hw4 hw5
  obtain ⟨S, hS⟩ : ∃ S, w4.heap.size = S := ⟨_, rfl⟩
  rw [hS] at HTA HNT HL4 ⊢
  clear hS
  have HLT : Hid (R10 < w5.heap.size ∧ R11 < w5.heap.size) := Lib.hid ⟨cell_lt H105.out, cell_lt H115.out⟩
  refine wp_region_relyR (Two R10 R11 cN0 cN1 29) (fun x => Two R10 R11 cN0 cN1 29 w5 x) (Two.drew w5) (fun x x' hx hb => hx.trans hb) [2, 5, 7, 8] (fun i => if i = 2 then SPR.is (.agg cN0) else if i = 5 then SPR.is (.agg cN1) else if i = 7 then SPR.wR else if i = 8 then SPR.wS else SPR.any2) 10 (by kernel_rfl) (by kernel_rfl) ?_
  intro TW _ g hg hgm
  refine wpR_pure (by rfl) fun Kq hq => ?_
  refine wpQuiet_run (by rfl) (.agg cS) ?_ (wpQuiet_nil ?_)
  · rintro _ ⟨d, rfl⟩
    exact exec_load_row 29 (.tmp 13) rfl R13 rfl 29 cS (0, 0) _ ((hg d).old H135.out HNE.out.1 HNE.out.2) Tryd.underlying29 rfl (by rw [HSS.out]; kernel_rfl)
  simp only [Act.put, List.setIfInBounds_toArray, List.set_cons_zero, List.set_cons_succ]
  refine hq _ ?_
  clear hq Kq
  refine wpR_pure (by rfl) fun Kq hq => ?_
  refine wpQuiet_run (by rfl) (.agg cA) ?_ (wpQuiet_nil ?_)
  · rintro _ ⟨d, rfl⟩
    exact exec_load_row 29 (.tmp 19) rfl S rfl 29 cA (0, 0) _ ((hg d).old HTA.out HNT.out.1 HNT.out.2.1) Tryd.underlying29 rfl (by rw [HSA.out]; kernel_rfl)
  simp only [Act.put, List.setIfInBounds_toArray, List.set_cons_zero, List.set_cons_succ]
  refine hq _ ?_
  clear hq Kq
  refine wpR_busy (by rfl) (by rfl) (fun d hG K Q hK => ?_) (fun v2 d hG hp Kr hr => ?_)
  · go_simp
    go_at_call 77
    refine (HN0.out _).mono ?_
    rintro e W1 ⟨rfl, hb1⟩
    go_simp
    exact hK _ _ (Two.of_below (Nat.lt_of_lt_of_le HLT.out.1 (hg d).size) (Nat.lt_of_lt_of_le HLT.out.2 (hg d).size) hb1) (rfl)
  obtain rfl : v2 = Value.agg cN0 := hp
  (try clear hp); clear hG
  simp only [Act.put, List.setIfInBounds_toArray, List.set_cons_zero, List.set_cons_succ]
  refine hr _ ?_
  clear hr Kr
  refine wpR_pure (by rfl) fun Kq hq => ?_
  refine wpQuiet_run (by rfl) (.agg cS) ?_ (wpQuiet_nil ?_)
  · rintro _ ⟨d, rfl⟩
    exact exec_load_row 29 (.tmp 13) rfl R13 rfl 29 cS (0, 0) _ ((hg d).old H135.out HNE.out.1 HNE.out.2) Tryd.underlying29 rfl (by rw [HSS.out]; kernel_rfl)
  simp only [Act.put, List.setIfInBounds_toArray, List.set_cons_zero, List.set_cons_succ]
  refine hq _ ?_
  clear hq Kq
  refine wpR_pure (by rfl) fun Kq hq => ?_
  refine wpQuiet_run (by rfl) (.agg cB) ?_ (wpQuiet_nil ?_)
  · rintro _ ⟨d, rfl⟩
    exact exec_load_row 29 (.tmp 20) rfl T rfl 29 cB (0, 0) _ ((hg d).old HTB.out HNT.out.2.2.1 HNT.out.2.2.2) Tryd.underlying29 rfl (by rw [HSB.out]; kernel_rfl)
  simp only [Act.put, List.setIfInBounds_toArray, List.set_cons_zero, List.set_cons_succ]
  refine hq _ ?_
  clear hq Kq
  refine wpR_busy (by rfl) (by rfl) (fun d hG K Q hK => ?_) (fun v5 d hG hp Kr hr => ?_)
  · go_simp
    go_at_call 77
    refine (HN1.out _).mono ?_
    rintro e W1 ⟨rfl, hb1⟩
    go_simp
    exact hK _ _ (Two.of_below (Nat.lt_of_lt_of_le HLT.out.1 (hg d).size) (Nat.lt_of_lt_of_le HLT.out.2 (hg d).size) hb1) (rfl)
  obtain rfl : v5 = Value.agg cN1 := hp
  (try clear hp); clear hG
  simp only [Act.put, List.setIfInBounds_toArray, List.set_cons_zero, List.set_cons_succ]
  refine hr _ ?_
  clear hr Kr
  repeat (refine wpR_pure (by rfl) fun Kq hq => ?_; go_big_quiet_step (fail); refine wpQuiet_nil (hq _ ?_); clear hq Kq)
  refine wpR_busy (by rfl) (by rfl) (fun d hG K Q hK => ?_) (fun vv d hG hp Kr hr => ?_)
  · obtain ⟨c5, hc5, hcz⟩ := (hg d).cellR H105.out
    have hz5 : c5.size = 32 := by rcases hcz with rfl | rfl <;> first | exact HZ.out | exact HSN0.out
    obtain ⟨hT5, hS5⟩ := Two.setR HRR.out.2.2.2.2.2 hc5
    refine wp_store_row 29 (.tmp 10) (.tmp 92) rfl R10 cN0 ?_ ?_ 29 c5 hc5 (by rw [HSN0.out]; kernel_rfl) (by rw [hz5, HSN0.out]) HAN0.out ?_
    · rfl
    · rfl
    exact hK undef _ hT5 hS5
  (try clear hp); clear hG
  simp only [Act.put, List.setIfInBounds_toArray, List.set_cons_zero, List.set_cons_succ]
  refine hr _ ?_
  clear hr Kr
  refine wpR_busy (by rfl) (by rfl) (fun d hG K Q hK => ?_) (fun vv d hG hp Kr hr => ?_)
  · obtain ⟨c5, hc5, hcz⟩ := (hg d).cellS H115.out
    have hz5 : c5.size = 32 := by rcases hcz with rfl | rfl <;> first | exact HZ.out | exact HSN1.out
    obtain ⟨hT5, hS5⟩ := Two.setS HRR.out.2.2.2.2.2 hc5
    refine wp_store_row 29 (.tmp 11) (.tmp 95) rfl R11 cN1 ?_ ?_ 29 c5 hc5 (by rw [HSN1.out]; kernel_rfl) (by rw [hz5, HSN1.out]) HAN1.out ?_
    · rfl
    · rfl
    exact hK undef _ hT5 hS5
  (try clear hp); clear hG
  simp only [Act.put, List.setIfInBounds_toArray, List.set_cons_zero, List.set_cons_succ]
  refine hr _ ?_
  clear hr Kr
  repeat (refine wpR_pure (by rfl) fun Kq hq => ?_; go_big_quiet_step (fail); refine wpQuiet_nil (hq _ ?_); clear hq Kq)
  refine wpR_end (by kernel_rfl) (fun d hG => ?_) _
  have HX10 : Hid ((g d).heap[R10]? = some (.cells cN0 29 (0, 0))) := Lib.hid (hG 7)
  have HX11 : Hid ((g d).heap[R11]? = some (.cells cN1 29 (0, 0))) := Lib.hid (hG 8)
  have HBE := Lib.hid ((hg d).below HB5.out HRR.out.2.1 HRR.out.2.2.1 (Nat.le_refl _))
  clear hG hg hgm
  generalize g d = w7 at *
  clear g
  unfold Exit.then
  go_wp2_with fail
  exact bodyPost_ret (v := .tuple #[.agg cN0, .agg cN1, .bool ok]) (results_two_tmp Tryd.results86 _ _ R10 R11 _ _ cN0 cN1 (0, 0) (0, 0) _ rfl HX10.out rfl HX11.out Tryd.underlying29 rfl (by rw [HSN0.out]; kernel_rfl) ((HSN1.out).trans (HSN0.out).symm)) rfl ⟨by rw [← HcN0.out, ← HcN1.out]; rfl, HBE.out⟩
end Go.Proofs.YthcklfelofpffaaDoor
namespace Go.Proofs.YthcklfelofpffaaDoor
open Go.RowKit
theorem rvals_32 {old : List UInt8} (hl : old.length = 32) : ∀ (f m n : Nat) (whole : Bool) (p : List H32), (∀ x ∈ p, x.l.length = 32) → (rvals f m n whole old p).1.1.length = 32 ∧ (rvals f m n whole old p).1.2.length = 32
  | 0, _, _, _, _, _ => ⟨hl, hl⟩
  | f + 1, m, n, whole, p, hp => by
    have hi : ∀ x ∈ initH p, x.l.length = 32 := fun x hx => hp x (List.mem_of_mem_take hx)
    rw [rvals]
    split
    · exact ⟨hl, hl⟩
    · split
      · exact ⟨rfl, rfl⟩
      · rename_i h0
        split
        · have : (lastH p).length = 32 := by
            have h1 : p.length - 1 < p.length := by omega
            unfold lastH
            rw [hAt_eq p _ h1]
            exact hp _ (List.getElem_mem h1)
          exact ⟨this, this⟩
        · split
          · exact ⟨(rvals_32 hl f _ _ _ _ hi).1, sha_length _⟩
          · exact ⟨sha_length _, sha_length _⟩
theorem rvals_any (old : List UInt8) (hl : old.length = 32) : ∀ (f m n : Nat) (whole : Bool) (A : Option Addr) (c N : Nat) (p : List H32) (w : World), 1 ≤ m → m ≤ n → n ≤ f → n ≤ 65536 → Sl w (fun b => b < w.heap.size) A c p → p.length = N → N ≤ 1073741824 →
    Calls Tryd.prog 86 #[.int .i64 (m : Int), .int .i64 (n : Int), .bool whole, hashV old, .slice A N c] w fun e w' => e = .returned (.tuple #[hashV (rvals f m n whole old p).1.1, hashV (rvals f m n whole old p).1.2, .bool (rvals f m n whole old p).2]) ∧ Below w.heap.size w w' := by
  intro f
  induction f with
  | zero => intro m n whole A c N p w h1 h2 h3; omega
  | succ f ih =>
    intro m n whole A c N p w h1 h2 h3 h4 hs hN hM
    rw [rvals]
    by_cases hw : m = n ∧ whole = true
    · obtain ⟨rfl, rfl⟩ := hw
      rw [if_pos ⟨rfl, rfl⟩, hN]
      exact rvalsA_any old hl m A c N w
    rw [if_neg hw]
    by_cases h0 : N = 0
    · subst h0
      rw [if_pos hN]
      exact rvalsB_any old hl m n whole (by
        by_cases hmn : m = n
        · right; cases whole <;> simp_all
        · left; omega) A c w
    obtain ⟨M, rfl⟩ : ∃ M, N = M + 1 := ⟨N - 1, by omega⟩
    rw [if_neg (by omega)]
    have hla : hAt p M = lastH p := by unfold lastH; rw [hN]; rfl
    have hin : initH p = p.take M := by unfold initH; rw [hN]; rfl
    have hil : (p.take M).length = M := by rw [List.length_take]; omega
    have h32 := h32_len hs
    have hst : ∀ w', Below w.heap.size w w' → Sl w' (fun b => b < w'.heap.size) A c (p.take M) := fun w' hb => (hs.to hb).take M (by omega)
    by_cases hmn : m = n
    · subst hmn
      obtain rfl : whole = false := by cases whole <;> simp_all
      rw [if_pos rfl, hin, hil]
      exact rvalsC_any old (lastH p) hl m A c M p w hs hN hM hla
    rw [if_neg hmn]
    obtain ⟨s1, s2, s3, s4, _⟩ := splitN_bounds n (by omega) (by omega)
    by_cases hk : m ≤ splitN n
    · rw [if_pos hk, hin]
      obtain ⟨a1, a2⟩ := rvals_32 hl f m (splitN n) whole (p.take M) (fun x hx => h32 x (List.mem_of_mem_take hx))
      exact rvalsD_any old (lastH p) _ _ hl a1 a2 _ whole m n (by omega) h4 hk A c M p w hs hN hM hla (fun w' hb => ih m (splitN n) whole A c M (p.take M) w' h1 hk (by omega) (by omega) (hst w' hb) hil (by omega))
    · rw [if_neg hk, hin]
      obtain ⟨a1, a2⟩ := rvals_32 hl f (m - splitN n) (n - splitN n) false (p.take M) (fun x hx => h32 x (List.mem_of_mem_take hx))
      exact rvalsE_any old (lastH p) _ _ hl a1 a2 _ whole m n (by omega) h4 (by omega) (by omega) A c M p w hs hN hM hla (fun w' hb => ih (m - splitN n) (n - splitN n) false A c M (p.take M) w' (by omega) (by omega) (by omega) (by omega) (hst w' hb) hil (by omega))
end Go.Proofs.YthcklfelofpffaaDoor
namespace Go.Proofs.YthcklfelofpffaaDoor
open Go.RowKit
set_option maxRecDepth 100000 in
set_option maxHeartbeats 8000000 in
theorem rextends_no (old rt : List UInt8) (m n : Int) (A : Option Addr) (c N : Nat) (p : List H32) (w : World) (h : m < 0 ∨ n < m ∨ 65536 < n) :
    Calls Tryd.prog 60 #[hashV old, .int .i64 m, hashV rt, .int .i64 n, .slice A N c] w fun e w' => e = .returned (.bool (extendsP old m rt n p)) ∧ Below w.heap.size w w' := by
  have HE : Hid (extendsP old m rt n p = false) := Lib.hid (if_pos h)
  have HB : Hid (Below w.heap.size w ((w.alloc (.cells (old.map encB).toArray 29)).alloc (.cells (rt.map encB).toArray 29))) := Lib.hid (((Below.refl _ _).alloc (Nat.le_refl _) _).alloc (by simp) _)
  unfold hashV
  generalize (old.map encB).toArray = rs at *
  generalize (rt.map encB).toArray = ls at *
  by_cases h1 : m < 0
  · go_enter Tryd.func60, Tryd.ntmps60
    go_wp2_with fail
    go_ret
    exact ⟨ret_bool HE.out.symm, HB.out⟩
  · by_cases h2 : n < m
    · go_enter Tryd.func60, Tryd.ntmps60
      go_wp2_with fail
      go_ret
      exact ⟨ret_bool HE.out.symm, HB.out⟩
    · have h3 : 65536 < n := by omega
      go_enter Tryd.func60, Tryd.ntmps60
      go_wp2_with fail
      go_ret
      exact ⟨ret_bool HE.out.symm, HB.out⟩
set_option maxRecDepth 100000 in
set_option maxHeartbeats 8000000 in
theorem rextends_nil (old rt : List UInt8) (ho : old.length = 32) (hr : rt.length = 32) (n : Int) (A : Option Addr) (c N : Nat) (p : List H32) (w : World) (hn0 : 0 ≤ n) (hn : n ≤ 65536) (hN : p.length = N) (hN2 : N ≤ 9223372036854775807) :
    Calls Tryd.prog 60 #[hashV old, .int .i64 0, hashV rt, .int .i64 n, .slice A N c] w fun e w' => e = .returned (.bool (extendsP old 0 rt n p)) ∧ Below w.heap.size w w' := by
  obtain ⟨q1, hq1⟩ : ∃ q, decide (old = root []) = q := ⟨_, rfl⟩
  obtain ⟨q2, hq2⟩ : ∃ q, decide (N = 0) = q := ⟨_, rfl⟩
  obtain ⟨q3, hq3⟩ : ∃ q, decide (0 < n) = q := ⟨_, rfl⟩
  obtain ⟨q4, hq4⟩ : ∃ q, decide (rt = old) = q := ⟨_, rfl⟩
  have HE : Hid (extendsP old 0 rt n p = (q1 && q2 && (q3 || q4))) := Lib.hid (by unfold extendsP; rw [if_neg (by omega), if_pos rfl, hN, hq1, hq2, hq3, hq4])
  have HQ1 := Lib.hid hq1
  have HQ4 := Lib.hid hq4
  have HOL := Lib.hid ho
  have HRL := Lib.hid hr
  have HSO := Lib.hid (hash_size ho)
  have HSR := Lib.hid (hash_size hr)
  have HRN : Hid ((root []).length = 32) := Lib.hid (root_length _ (by simp))
  have hi3 : decide (0 < n) = q3 := hq3
  have hi2 : ((N : Int) == 0) = q2 := by
    rw [← hq2]
    by_cases h : N = 0
    · subst h; rfl
    · rw [decide_eq_false h, beq_eq_false_iff_ne]; omega
  have h1 : ¬ n < 0 := by omega
  have h2 : ¬ 65536 < n := by omega
  have HRT : Hid (∀ W, Below w.heap.size w W → Calls Tryd.prog 52 #[.slice none 0 0] W fun e w' => e = .returned (hashV (root [])) ∧ Below W.heap.size W w') := Lib.hid (fun W hW => rroot0_any none 0 W)
  clear hq1 hq2 hq3 hq4 ho hr hN
  have HB0 : Hid (Below w.heap.size w ((w.alloc (.cells (old.map encB).toArray 29)).alloc (.cells (rt.map encB).toArray 29))) := Lib.hid (((Below.refl _ _).alloc (Nat.le_refl _) _).alloc (by simp) _)
  have HOB : Hid (ABox ((w.alloc (.cells (old.map encB).toArray 29)).alloc (.cells (rt.map encB).toArray 29)) w.heap.size 29 (old.map encB)) := Lib.hid (by unfold ABox; rw [Below.heap_alloc _ _ _ (by simp)]; exact heap_alloc_new w _)
  have HRB : Hid (ABox ((w.alloc (.cells (old.map encB).toArray 29)).alloc (.cells (rt.map encB).toArray 29)) (w.heap.size + 1) 29 (rt.map encB)) := Lib.hid (heap_at (by simp))
  unfold hashV
  go_enter Tryd.func60, Tryd.ntmps60
  go_upto_region 4 with (fail)
  generalize hw1 : World.alloc (World.alloc w _) _ = w1
  have hw2 : ((w.alloc (.cells (old.map encB).toArray 29)).alloc (.cells (rt.map encB).toArray 29)) = w1 := hw1
  rw [hw2] at HB0 HOB HRB
  clear hw1 hw2
  generalize w.heap.size + 1 = Rb at *
  obtain ⟨Ob, hOb⟩ : ∃ R, R = w.heap.size := ⟨_, rfl⟩
  rw [← hOb] at HOB ⊢
  have HOE := Lib.hid hOb
  clear hOb
  obtain ⟨csO, hcO⟩ : ∃ c, (old.map encB).toArray = c := ⟨_, rfl⟩
  have HOB2 : Hid (w1.heap[Ob]? = some (.cells csO 29 (0, 0))) := Lib.hid (hcO ▸ HOB.out)
  rw [hcO] at HSO ⊢
  have HCO := Lib.hid hcO
  clear hcO
  obtain ⟨csR, hcR⟩ : ∃ c, (rt.map encB).toArray = c := ⟨_, rfl⟩
  have HRB2 : Hid (w1.heap[Rb]? = some (.cells csR 29 (0, 0))) := Lib.hid (hcR ▸ HRB.out)
  rw [hcR] at HSR ⊢
  have HCR := Lib.hid hcR
  clear hcR
  have HLE : Hid (∀ d, Below w1.heap.size w1 d → d.heap[Ob]? = some (.cells csO 29 (0, 0)) ∧ d.heap[Rb]? = some (.cells csR 29 (0, 0))) := Lib.hid (fun d h => ⟨(h.block _ (Array.getElem?_eq_some_iff.1 HOB2.out).1).trans HOB2.out, (h.block _ (Array.getElem?_eq_some_iff.1 HRB2.out).1).trans HRB2.out⟩)
  obtain ⟨csN, hcN⟩ : ∃ c, ((root []).map encB).toArray = c := ⟨_, rfl⟩
  have HCN := Lib.hid hcN
  have hRN : hashV (root []) = .agg csN := (hashE hcN).symm
  rw [hRN] at HRT
  clear hRN hcN HOB HRB HOB2 HRB2
  rcases (show q1 = false ∨ (q1 = true ∧ q2 = false) ∨ (q1 = true ∧ q2 = true ∧ q3 = true) ∨ (q1 = true ∧ q2 = true ∧ q3 = false ∧ q4 = true) ∨ (q1 = true ∧ q2 = true ∧ q3 = false ∧ q4 = false) by cases q1 <;> cases q2 <;> cases q3 <;> cases q4 <;> simp) with rfl | ⟨rfl, rfl⟩ | ⟨rfl, rfl, rfl⟩ | ⟨rfl, rfl, rfl, rfl⟩ | ⟨rfl, rfl, rfl, rfl⟩
  all_goals
    refine wp_region_rely [1] (fun i => if i = 1 then SP.val (.agg csN) else SP.any) 18 (by kernel_rfl) (by kernel_rfl) ?_
    intro T _ g hg hgm
    repeat (refine wpR_pure (by rfl) fun Kq hq => ?_; first | (go_big_quiet_skip; refine wpQuiet_nil (hq _ ?_); clear hq Kq) | (refine wpQuiet_run (by rfl) (.agg csO) ?_ (wpQuiet_nil ?_); (rintro _ ⟨d, rfl⟩; exact exec_load_row 29 (.tmp 5) rfl Ob rfl 29 csO (0, 0) _ (HLE.out _ (hg d)).1 Tryd.underlying29 rfl (by rw [HSO.out]; kernel_rfl)); simp only [Act.put, List.setIfInBounds_toArray, List.set_cons_zero, List.set_cons_succ]; refine hq _ ?_; clear hq Kq) | (refine wpQuiet_run (by rfl) (.agg csR) ?_ (wpQuiet_nil ?_); (rintro _ ⟨d, rfl⟩; exact exec_load_row 29 (.tmp 7) rfl Rb rfl 29 csR (0, 0) _ (HLE.out _ (hg d)).2 Tryd.underlying29 rfl (by rw [HSR.out]; kernel_rfl)); simp only [Act.put, List.setIfInBounds_toArray, List.set_cons_zero, List.set_cons_succ]; refine hq _ ?_; clear hq Kq) | (refine wpQuiet_run (by rfl) (.bool true) ?_ (wpQuiet_nil ?_); (rintro _ ⟨d, rfl⟩; (refine exec_eqlH (.tmp 27) (.tmp 28) rfl old (root []) ?_ ?_ HOL.out HRN.out true HQ1.out; exact hashE HCO.out; exact hashE HCN.out)); simp only [Act.put, List.setIfInBounds_toArray, List.set_cons_zero, List.set_cons_succ]; refine hq _ ?_; clear hq Kq) | (refine wpQuiet_run (by rfl) (.bool true) ?_ (wpQuiet_nil ?_); (rintro _ ⟨d, rfl⟩; (refine exec_eqlH (.tmp 39) (.tmp 40) rfl rt old ?_ ?_ HRL.out HOL.out true HQ4.out; exact hashE HCR.out; exact hashE HCO.out)); simp only [Act.put, List.setIfInBounds_toArray, List.set_cons_zero, List.set_cons_succ]; refine hq _ ?_; clear hq Kq) | (refine wpQuiet_run (by rfl) (.bool false) ?_ (wpQuiet_nil ?_); (rintro _ ⟨d, rfl⟩; (refine exec_eqlH (.tmp 27) (.tmp 28) rfl old (root []) ?_ ?_ HOL.out HRN.out false HQ1.out; exact hashE HCO.out; exact hashE HCN.out)); simp only [Act.put, List.setIfInBounds_toArray, List.set_cons_zero, List.set_cons_succ]; refine hq _ ?_; clear hq Kq) | (refine wpQuiet_run (by rfl) (.bool false) ?_ (wpQuiet_nil ?_); (rintro _ ⟨d, rfl⟩; (refine exec_eqlH (.tmp 39) (.tmp 40) rfl rt old ?_ ?_ HRL.out HOL.out false HQ4.out; exact hashE HCR.out; exact hashE HCO.out)); simp only [Act.put, List.setIfInBounds_toArray, List.set_cons_zero, List.set_cons_succ]; refine hq _ ?_; clear hq Kq) | (go_big_quiet_step (fail); refine wpQuiet_nil (hq _ ?_); clear hq Kq))
    refine wpR_busy (by rfl) (by rfl) (fun d hG K Q hK => ?_) (fun v1 d hG hp Kr hr => ?_)
    · go_simp
      go_at_call 52
      refine (HRT.out _ ((HB0.out.trans ((hg d).mono HB0.out.size)))).mono ?_
      rintro e W1 ⟨rfl, hb1⟩
      go_simp
      exact hK _ _ hb1 (rfl)
    obtain rfl : v1 = .agg csN := hp
    (try clear hp); clear hG
    simp only [Act.put, List.setIfInBounds_toArray, List.set_cons_zero, List.set_cons_succ]
    refine hr _ ?_
    clear hr Kr
    repeat (refine wpR_pure (by rfl) fun Kq hq => ?_; first | (go_big_quiet_skip; refine wpQuiet_nil (hq _ ?_); clear hq Kq) | (refine wpQuiet_run (by rfl) (.agg csO) ?_ (wpQuiet_nil ?_); (rintro _ ⟨d, rfl⟩; exact exec_load_row 29 (.tmp 5) rfl Ob rfl 29 csO (0, 0) _ (HLE.out _ (hg d)).1 Tryd.underlying29 rfl (by rw [HSO.out]; kernel_rfl)); simp only [Act.put, List.setIfInBounds_toArray, List.set_cons_zero, List.set_cons_succ]; refine hq _ ?_; clear hq Kq) | (refine wpQuiet_run (by rfl) (.agg csR) ?_ (wpQuiet_nil ?_); (rintro _ ⟨d, rfl⟩; exact exec_load_row 29 (.tmp 7) rfl Rb rfl 29 csR (0, 0) _ (HLE.out _ (hg d)).2 Tryd.underlying29 rfl (by rw [HSR.out]; kernel_rfl)); simp only [Act.put, List.setIfInBounds_toArray, List.set_cons_zero, List.set_cons_succ]; refine hq _ ?_; clear hq Kq) | (refine wpQuiet_run (by rfl) (.bool true) ?_ (wpQuiet_nil ?_); (rintro _ ⟨d, rfl⟩; (refine exec_eqlH (.tmp 27) (.tmp 28) rfl old (root []) ?_ ?_ HOL.out HRN.out true HQ1.out; exact hashE HCO.out; exact hashE HCN.out)); simp only [Act.put, List.setIfInBounds_toArray, List.set_cons_zero, List.set_cons_succ]; refine hq _ ?_; clear hq Kq) | (refine wpQuiet_run (by rfl) (.bool true) ?_ (wpQuiet_nil ?_); (rintro _ ⟨d, rfl⟩; (refine exec_eqlH (.tmp 39) (.tmp 40) rfl rt old ?_ ?_ HRL.out HOL.out true HQ4.out; exact hashE HCR.out; exact hashE HCO.out)); simp only [Act.put, List.setIfInBounds_toArray, List.set_cons_zero, List.set_cons_succ]; refine hq _ ?_; clear hq Kq) | (refine wpQuiet_run (by rfl) (.bool false) ?_ (wpQuiet_nil ?_); (rintro _ ⟨d, rfl⟩; (refine exec_eqlH (.tmp 27) (.tmp 28) rfl old (root []) ?_ ?_ HOL.out HRN.out false HQ1.out; exact hashE HCO.out; exact hashE HCN.out)); simp only [Act.put, List.setIfInBounds_toArray, List.set_cons_zero, List.set_cons_succ]; refine hq _ ?_; clear hq Kq) | (refine wpQuiet_run (by rfl) (.bool false) ?_ (wpQuiet_nil ?_); (rintro _ ⟨d, rfl⟩; (refine exec_eqlH (.tmp 39) (.tmp 40) rfl rt old ?_ ?_ HRL.out HOL.out false HQ4.out; exact hashE HCR.out; exact hashE HCO.out)); simp only [Act.put, List.setIfInBounds_toArray, List.set_cons_zero, List.set_cons_succ]; refine hq _ ?_; clear hq Kq) | (go_big_quiet_step (fail); refine wpQuiet_nil (hq _ ?_); clear hq Kq))
    refine wpR_end (by kernel_rfl) (fun d hG => ?_) _
    have HBz := Lib.hid (HB0.out.trans ((hg d).mono HB0.out.size))
    have HBd := Lib.hid (hg d)
    clear hG hg hgm
    unfold Exit.then
    go_wp2_with fail
    go_ret
    exact ⟨ret_bool (by rw [HE.out]; simp), HOE.out ▸ HBz.out⟩
set_option maxRecDepth 100000 in
set_option maxHeartbeats 8000000 in
theorem rextends_yes (old rt : List UInt8) (ho : old.length = 32) (hr : rt.length = 32) (m n : Nat) (A : Option Addr) (c N : Nat) (p : List H32) (w : World) (h1 : 1 ≤ m) (hmn : m ≤ n) (hn : n ≤ 65536) (hs : Sl w (fun b => b < w.heap.size) A c p) (hN : p.length = N) (hN2 : N ≤ 1073741824) :
    Calls Tryd.prog 60 #[hashV old, .int .i64 (m : Int), hashV rt, .int .i64 (n : Int), .slice A N c] w fun e w' => e = .returned (.bool (extendsP old m rt n p)) ∧ Below w.heap.size w w' := by
  obtain ⟨va, vb, ok, hcv⟩ : ∃ va vb ok, rvals n m n true old p = ((va, vb), ok) := ⟨_, _, _, rfl⟩
  obtain ⟨q1, hq1⟩ : ∃ q, decide (va = old) = q := ⟨_, rfl⟩
  obtain ⟨q2, hq2⟩ : ∃ q, decide (vb = rt) = q := ⟨_, rfl⟩
  have HE : Hid (extendsP old m rt n p = (ok && q1 && q2)) := Lib.hid (by
    rw [extends_ref old m rt n p ⟨by omega, by omega, by omega⟩, Int.toNat_natCast, Int.toNat_natCast, hcv, hq1, hq2])
  have HAB : Hid (va.length = 32 ∧ vb.length = 32) := Lib.hid (by have := rvals_32 ho n m n true p (h32_len hs); rw [hcv] at this; exact this)
  have HQ1 := Lib.hid hq1
  have HQ2 := Lib.hid hq2
  have HOL := Lib.hid ho
  have HRL := Lib.hid hr
  obtain ⟨cO, hcO⟩ : ∃ c, (old.map encB).toArray = c := ⟨_, rfl⟩
  obtain ⟨cR, hcR⟩ : ∃ c, (rt.map encB).toArray = c := ⟨_, rfl⟩
  obtain ⟨cA, hcA⟩ : ∃ c, (va.map encB).toArray = c := ⟨_, rfl⟩
  obtain ⟨cB, hcB⟩ : ∃ c, (vb.map encB).toArray = c := ⟨_, rfl⟩
  have HSO : Hid (cO.size = 32) := Lib.hid (by rw [← hcO]; exact hash_size ho)
  have HSR : Hid (cR.size = 32) := Lib.hid (by rw [← hcR]; exact hash_size hr)
  have HSA : Hid (cA.size = 32) := Lib.hid (by rw [← hcA]; exact hash_size HAB.out.1)
  have HSB : Hid (cB.size = 32) := Lib.hid (by rw [← hcB]; exact hash_size HAB.out.2)
  have HAA : Hid (cA.all (·.oneCell') = true) := Lib.hid (by rw [← hcA]; exact hash_all _)
  have HABB : Hid (cB.all (·.oneCell') = true) := Lib.hid (by rw [← hcB]; exact hash_all _)
  have HCO := Lib.hid hcO
  have HCR := Lib.hid hcR
  have HCA := Lib.hid hcA
  have HCB := Lib.hid hcB
  have HZ : Hid ((zer32.map encB).toArray.size = 32) := Lib.hid rfl
  have h1 : ¬ (m : Int) < 0 := by omega
  have h2 : ¬ (n : Int) < (m : Int) := by omega
  have h3 : ¬ (65536 : Int) < (n : Int) := by omega
  have h4 : ((m : Int) == 0) = false := by rw [beq_eq_false_iff_ne]; omega
  have hba : Below w.heap.size w ((w.alloc (.cells cO 29)).alloc (.cells cR 29)) := ((Below.refl _ _).alloc (Nat.le_refl _) _).alloc (by simp) _
  have HB0 := Lib.hid hba
  have H5 : Hid (((w.alloc (.cells cO 29)).alloc (.cells cR 29)).heap[w.heap.size]? = some (.cells cO 29 (0, 0))) := Lib.hid ((Below.heap_alloc _ _ _ (by simp)).trans (heap_alloc_new w _))
  have H7 : Hid (((w.alloc (.cells cO 29)).alloc (.cells cR 29)).heap[w.heap.size + 1]? = some (.cells cR 29 (0, 0))) := Lib.hid (heap_at (by simp))
  have HCL : Hid (Calls Tryd.prog 86 #[.int .i64 (m : Int), .int .i64 (n : Int), .bool true, .agg cO, .slice A N c] ((w.alloc (.cells cO 29)).alloc (.cells cR 29)) fun e w' => e = .returned (.tuple #[.agg cA, .agg cB, .bool ok]) ∧ Below (((w.alloc (.cells cO 29)).alloc (.cells cR 29))).heap.size ((w.alloc (.cells cO 29)).alloc (.cells cR 29)) w') := Lib.hid (by
    have := rvals_any old ho n m n true A c N p ((w.alloc (.cells cO 29)).alloc (.cells cR 29)) (by omega) hmn (by omega) hn (hs.to hba) hN hN2
    rw [hcv] at this; rw [← hcO, ← hcA, ← hcB] at *; exact this)
  clear hcv hq1 hq2 hr ho hs hN hba
  show Calls Tryd.prog 60 #[.agg (old.map encB).toArray, .int .i64 (m : Int), .agg (rt.map encB).toArray, .int .i64 (n : Int), .slice A N c] w fun e w' => e = .returned (.bool (extendsP old m rt n p)) ∧ Below w.heap.size w w'
  rw [hcO, hcR]
  clear hcO hcR hcA hcB
  go_enter Tryd.func60, Tryd.ntmps60
  go_upto_region 5 with (fail)
  generalize hw1 : World.alloc (World.alloc w _) _ = w2
  have hw2 : ((w.alloc (.cells cO 29)).alloc (.cells cR 29)) = w2 := hw1
  rw [hw2] at HB0 H5 H7 HCL
  clear hw1 hw2
  generalize w.heap.size + 1 = R7 at *
  obtain ⟨R5, hR5⟩ : ∃ R, w.heap.size = R := ⟨_, rfl⟩
  rw [hR5] at H5 ⊢
  rw [← hR5]
  have HRE := Lib.hid hR5
  try rw [hR5]
  clear hR5
  have hl5 : w2.heap[R5]? = some (.cells cO 29 (0, 0)) := H5.out
  go_wp2_with (first | (refine wpList_load_row rfl 29 (.tmp 5) rfl R5 ?_ 29 cO (0, 0) _ hl5 Tryd.underlying29 ?_ ?_ ?_; rfl; rfl; (rw [HSO.out]; kernel_rfl)) | fail)
  refine HCL.out.mono ?_
  rintro e w4 ⟨rfl, hb4⟩
  have H54 := Lib.hid (cell_to H5.out hb4)
  have H74 := Lib.hid (cell_to H7.out hb4)
  have HB4 := Lib.hid (HB0.out.trans (hb4.mono HB0.out.size))
  clear hb4 H5 H7 HB0 HCL hl5
  obtain ⟨T, hT⟩ : ∃ T, T = w4.heap.size + 1 := ⟨_, rfl⟩
  have hza : ((w4.alloc (.cells (zer32.map encB).toArray 29)).alloc (.cells (zer32.map encB).toArray 29)).heap[w4.heap.size]? = some (.cells (zer32.map encB).toArray 29 (0, 0)) := (Below.heap_alloc _ _ _ (by simp)).trans (heap_alloc_new w4 _)
  have hzb0 : ((w4.alloc (.cells (zer32.map encB).toArray 29)).alloc (.cells (zer32.map encB).toArray 29)).heap[T]? = some (.cells (zer32.map encB).toArray 29 (0, 0)) := heap_at (by simp [hT])
  have hzb : (((w4.alloc (.cells (zer32.map encB).toArray 29)).alloc (.cells (zer32.map encB).toArray 29)).setRow w4.heap.size cA).heap[T]? = some (.cells (zer32.map encB).toArray 29 (0, 0)) := (setRow_other _ _ _ _ (by omega)).trans hzb0
  have HBX : Hid (Below w4.heap.size w4 ((((w4.alloc (.cells (zer32.map encB).toArray 29)).alloc (.cells (zer32.map encB).toArray 29)).setRow w4.heap.size cA).setRow T cB)) := Lib.hid (below_setRow (below_setRow (((Below.refl _ _).alloc (Nat.le_refl _) _).alloc (by simp) _) (Nat.le_refl _) cA) (by omega) cB)
  have HTA : Hid (((((w4.alloc (.cells (zer32.map encB).toArray 29)).alloc (.cells (zer32.map encB).toArray 29)).setRow w4.heap.size cA).setRow T cB).heap[w4.heap.size]? = some (.cells cA 29 (0, 0))) := Lib.hid ((setRow_other _ _ _ _ (by omega)).trans (setRow_heap _ _ _ _ _ _ hza))
  have HTB : Hid (((((w4.alloc (.cells (zer32.map encB).toArray 29)).alloc (.cells (zer32.map encB).toArray 29)).setRow w4.heap.size cA).setRow T cB).heap[T]? = some (.cells cB 29 (0, 0))) := Lib.hid (setRow_heap _ _ _ _ _ _ hzb)
  have H55 := Lib.hid (cell_to H54.out HBX.out)
  have H75 := Lib.hid (cell_to H74.out HBX.out)
  have HB6 := Lib.hid (HB4.out.trans (HBX.out.mono HB4.out.size))
  clear hzb0 H54 H74 HB4 HBX
  have hTs : w4.heap.size + 1 = T := hT.symm
  clear hT
  go_upto_region 6 with (first
    | (refine wpList_store_row rfl 29 (.tmp 11) (.tmp 50) rfl w4.heap.size cA ?_ ?_ 29 (zer32.map encB).toArray hza (by rw [HSA.out]; kernel_rfl) (by rw [HZ.out, HSA.out]) HAA.out ?_; rfl; rfl)
    | (refine wpList_store_row rfl 29 (.tmp 12) (.tmp 51) rfl T cB ?_ ?_ 29 (zer32.map encB).toArray hzb (by rw [HSB.out]; kernel_rfl) (by rw [HZ.out, HSB.out]) HABB.out ?_; (try simp only [Array.size_push, World.size_alloc]; try rw [hTs]; rfl); rfl)
    | fail)
  try rw [hTs]
  clear hza hzb hTs
  generalize hw4 : World.setRow (World.setRow (World.alloc (World.alloc w4 _) _) _ _) _ _ = w5
  have hw5 : ((((w4.alloc (.cells (zer32.map encB).toArray 29)).alloc (.cells (zer32.map encB).toArray 29)).setRow w4.heap.size cA).setRow T cB) = w5 := hw4
  rw [hw5] at HTA HTB H55 H75 HB6
  clear hw4 hw5
  generalize w4.heap.size = S at *
  have l1 := HTA.out
  have l2 := H55.out
  have l3 := HTB.out
  have l4 := H75.out
  cases ok
  · go_wp2_with fail
    go_ret
    exact ⟨ret_bool (by rw [HE.out]; simp), HB6.out⟩
  · cases q1
    · go_wp2_with (first
      | (refine wpList_load_rowG (by kernel_rfl) 29 (.tmp 11) rfl S ?_ 29 cA (0, 0) _ l1 Tryd.underlying29 ?_ ?_ ?_; rfl; rfl; (rw [HSA.out]; kernel_rfl))
      | (refine wpList_load_rowG (by kernel_rfl) 29 (.tmp 5) rfl R5 ?_ 29 cO (0, 0) _ l2 Tryd.underlying29 ?_ ?_ ?_; rfl; rfl; (rw [HSO.out]; kernel_rfl))
      | (refine wpList_eqlHG (by kernel_rfl) (.tmp 55) (.tmp 56) rfl va old ?_ ?_ HAB.out.1 HOL.out ?_; exact hashE HCA.out; exact hashE HCO.out; rw [HQ1.out])
      | fail)
      go_ret
      exact ⟨ret_bool (by rw [HE.out]; simp), HB6.out⟩
    · go_wp2_with (first
      | (refine wpList_load_rowG (by kernel_rfl) 29 (.tmp 11) rfl S ?_ 29 cA (0, 0) _ l1 Tryd.underlying29 ?_ ?_ ?_; rfl; rfl; (rw [HSA.out]; kernel_rfl))
      | (refine wpList_load_rowG (by kernel_rfl) 29 (.tmp 5) rfl R5 ?_ 29 cO (0, 0) _ l2 Tryd.underlying29 ?_ ?_ ?_; rfl; rfl; (rw [HSO.out]; kernel_rfl))
      | (refine wpList_eqlHG (by kernel_rfl) (.tmp 55) (.tmp 56) rfl va old ?_ ?_ HAB.out.1 HOL.out ?_; exact hashE HCA.out; exact hashE HCO.out; rw [HQ1.out])
      | (refine wpList_load_rowG (by kernel_rfl) 29 (.tmp 12) rfl T ?_ 29 cB (0, 0) _ l3 Tryd.underlying29 ?_ ?_ ?_; rfl; rfl; (rw [HSB.out]; kernel_rfl))
      | (refine wpList_load_rowG (by kernel_rfl) 29 (.tmp 7) rfl R7 ?_ 29 cR (0, 0) _ l4 Tryd.underlying29 ?_ ?_ ?_; rfl; rfl; (rw [HSR.out]; kernel_rfl))
      | (refine wpList_eqlHG (by kernel_rfl) (.tmp 60) (.tmp 61) rfl vb rt ?_ ?_ HAB.out.2 HRL.out ?_; exact hashE HCB.out; exact hashE HCR.out; rw [HQ2.out])
      | fail)
      go_ret
      exact ⟨ret_bool (by rw [HE.out]; simp), HB6.out⟩
theorem rextends_any (old rt : List UInt8) (ho : old.length = 32) (hr : rt.length = 32) (m n : Int) (A : Option Addr) (c N : Nat) (p : List H32) (w : World) (hs : Sl w (fun b => b < w.heap.size) A c p) (hN : p.length = N) (hN2 : N ≤ 1073741824) :
    Calls Tryd.prog 60 #[hashV old, .int .i64 m, hashV rt, .int .i64 n, .slice A N c] w fun e w' => e = .returned (.bool (extendsP old m rt n p)) ∧ Below w.heap.size w w' := by
  by_cases h : m < 0 ∨ n < m ∨ 65536 < n
  · exact rextends_no old rt m n A c N p w h
  · by_cases h0 : m = 0
    · subst h0
      exact rextends_nil old rt ho hr n A c N p w (by omega) (by omega) hN (by omega)
    · obtain ⟨m', rfl⟩ : ∃ k : Nat, m = (k : Int) := ⟨m.toNat, by omega⟩
      obtain ⟨n', rfl⟩ : ∃ k : Nat, n = (k : Int) := ⟨n.toNat, by omega⟩
      exact rextends_yes old rt ho hr m' n' A c N p w (by omega) (by omega) (by omega) hs hN hN2
set_option maxRecDepth 100000 in
set_option maxHeartbeats 8000000 in
theorem rgrown_any (m n : Int) (ro rt : List UInt8) (ho : ro.length = 32) (hr : rt.length = 32) (A : Option Addr) (c N : Nat) (p : List H32) (w : World) (hs : Sl w (fun b => b < w.heap.size) A c p) (hN : p.length = N) (hN2 : N ≤ 1073741824) :
    Calls Tryd.prog 30 #[headV m ro, headV n rt, .slice A N c] w fun e w' => e = .returned (.bool (extendsP ro m rt n p)) ∧ Below w.heap.size w w' := by
  have hba : Below w.heap.size w ((w.alloc (.cells (headL m ro).toArray 40)).alloc (.cells (headL n rt).toArray 40)) := ((Below.refl _ _).alloc (Nat.le_refl _) _).alloc (by simp) _
  have HX1 : Hid (ABox ((w.alloc (.cells (headL m ro).toArray 40)).alloc (.cells (headL n rt).toArray 40)) w.heap.size 40 (headL m ro)) := Lib.hid (by unfold ABox; rw [Below.heap_alloc _ _ _ (by simp)]; exact heap_alloc_new w _)
  have HX2 : Hid (ABox ((w.alloc (.cells (headL m ro).toArray 40)).alloc (.cells (headL n rt).toArray 40)) (w.heap.size + 1) 40 (headL n rt)) := Lib.hid (heap_at (by simp))
  have HEX := Lib.hid (rextends_any ro rt ho hr m n A c N p _ (hs.to hba) hN hN2)
  have HB := Lib.hid hba
  clear hba hs hN
  have HRM : Hid ((ro.map encB).length = 32) := Lib.hid (by rw [List.length_map, ho])
  have HRN : Hid ((rt.map encB).length = 32) := Lib.hid (by rw [List.length_map, hr])
  have HR1 : Hid (((w.alloc (.cells (headL m ro).toArray 40)).alloc (.cells (headL n rt).toArray 40)).rangeAt w.heap.size 1 (ro.map encB)) := Lib.hid (fun j v hv => by
    rw [Nat.add_comm]
    exact HX1.out.cell (j + 1) (by unfold headL; rw [List.getElem?_cons_succ]; exact hv))
  have HR2 : Hid (((w.alloc (.cells (headL m ro).toArray 40)).alloc (.cells (headL n rt).toArray 40)).rangeAt (w.heap.size + 1) 1 (rt.map encB)) := Lib.hid (fun j v hv => by
    rw [Nat.add_comm 1 j]
    exact HX2.out.cell (j + 1) (by unfold headL; rw [List.getElem?_cons_succ]; exact hv))
  clear ho hr
  unfold headV
  go_enter Tryd.func30, Tryd.ntmps30
  go_upto_region 1 with (fail)
  generalize hw1 : World.alloc (World.alloc w _) _ = w1
  have hw2 : ((w.alloc (.cells (headL m ro).toArray 40)).alloc (.cells (headL n rt).toArray 40)) = w1 := hw1
  rw [hw2] at HX1 HX2 HB HEX HR1 HR2
  clear hw1 hw2
  have k0 := HX1.out.cell 0 rfl
  have k1 := HX2.out.cell 0 rfl
  go_wp2_with (first
    | (refine wpList_load_mid rfl 29 (.tmp 7) rfl w.heap.size 1 ?_ (ro.map encB) _ HR1.out Tryd.underlying29 ?_ ?_ ?_; rfl; rfl; (rw [HRM.out]; kernel_rfl))
    | (refine wpList_load_mid rfl 29 (.tmp 11) rfl (w.heap.size + 1) 1 ?_ (rt.map encB) _ HR2.out Tryd.underlying29 ?_ ?_ ?_; rfl; rfl; (rw [HRN.out]; kernel_rfl))
    | fail)
  refine HEX.out.mono ?_
  rintro e w2 ⟨rfl, hb2⟩
  have HB2 := Lib.hid (HB.out.trans (hb2.mono HB.out.size))
  clear hb2
  go_wp2_with fail
  go_ret
  exact ⟨rfl, HB2.out⟩
end Go.Proofs.YthcklfelofpffaaDoor
