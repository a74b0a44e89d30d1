/- The reference's path. No condition but sizes.
The reference's proof for a label. No condition but sizes.
The reference's growth within a tree. No condition but sizes.
The reference's Growth. No condition but sizes.
A region that draws its order, walked once in the order of the text: what an operation yields may differ from order to order, as long as it has a property that all later operations keep; what changes older memory stands at the end and waits for all others. No condition.
An append onto a slice that has no room: new memory. And what calls hand back, as properties that later operations keep. No condition. -/
import Derived.Test.YthcklfelofpffaaDoorCPd8
import Derived.BigQuiet
import Derived.ArgAppend
namespace Go.Proofs.YthcklfelofpffaaDoor
open Go.RowKit
theorem pathH_one (x : H32) (i : Nat) : pathH [x] i = [] := by
  have := pathH_length [x] i
  unfold pathH; rw [down_one _ _ (by simp)]; rfl
set_option maxRecDepth 100000 in
set_option maxHeartbeats 4000000 in
theorem rpath2_any (f : Nat) (ih : ∀ (l : List H32) (A : Option Addr) (n c i : Nat) (w : World), l.length ≤ f → Sl w (fun b => b < w.heap.size) A c l → l.length = n → n ≤ 1048576 → i < n →
      Calls Tryd.prog 81 #[.slice A n c, .int .i64 (i : Int)] w fun e w' => ∃ v, e = .returned v ∧ Own w' w.heap.size 29 v (pathH l i) ∧ Below w.heap.size w w')
    (l : List H32) (A : Option Addr) (n c i : Nat) (w : World) (hf : l.length ≤ f + 1) (hl : Sl w (fun b => b < w.heap.size) A c l) (hn : l.length = n) (h2 : 2 ≤ n) (hs : n ≤ 1048576) (hi : i < n) :
    Calls Tryd.prog 81 #[.slice A n c, .int .i64 (i : Int)] w fun e w' => ∃ v, e = .returned v ∧ Own w' w.heap.size 29 v (pathH l i) ∧ Below w.heap.size w w' := by
  obtain ⟨_, _, h3, h4, _⟩ := splitN_bounds n h2 (by omega)
  have HSP := Lib.hid (rsplit_any n h2 (by omega))
  have HLen := Lib.hid (h32_len hl)
  have HDL : Hid (i < splitN n → pathH l i = pathH (l.take (splitN n)) i ++ [⟨root (l.drop (splitN n))⟩]) := Lib.hid (fun h => by
    subst hn
    unfold pathH; rw [down_left l i h2 (by omega) h, List.reverse_cons])
  have HDR : Hid (¬ i < splitN n → pathH l i = pathH (l.drop (splitN n)) (i - splitN n) ++ [⟨root (l.take (splitN n))⟩]) := Lib.hid (fun h => by
    subst hn
    unfold pathH; rw [down_right l i h2 (by omega) h, List.reverse_cons])
  obtain ⟨b, o, rfl, _⟩ := hl.2.2 (by omega)
  have hnc : n ≤ c := by have := hl.1; omega
  have hcm : c ≤ 9223372036854775807 := by have := hl.2.1; unfold maxLen at this; omega
  have HI := Lib.hid ih
  have HF := Lib.hid hf
  have HN := Lib.hid hn
  have HL := Lib.hid hl
  clear ih hl hf hn
  generalize splitN n = k at *
  have hkc : k ≤ c := by omega
  have hkn : k ≤ n := by omega
  have hcke : ¬ c = k := by omega
  go_enter Tryd.func81, Tryd.ntmps81
  go_upto_region 4 with (first
    | (go_at_call 76; refine (HSP.out _).mono ?_; rintro e w' ⟨rfl, rfl⟩)
    | fail)
  by_cases hik : i < k
  · have hiI : (i : Int) < (k : Int) := by omega
    have HPE := Lib.hid (HDL.out hik)
    have HPL : Hid ((pathH (l.take k) i).length ≤ 1048576) := Lib.hid (Nat.le_trans (pathH_length _ _) (by have := HN.out; rw [List.length_take]; omega))
    clear HDL HDR
    go_upto_region 5 with (fail)
    refine wp_region_D (fun _ => True) (fun _ => true) (by kernel_rfl) ?_
    have hb0 : Hid (Below w.heap.size w w.drew) := Lib.hid (Below.refl _ _).drew
    generalize w.drew = W0 at *
    refine wpAnyD_take (i := 0) (oi := ⟨some 15, Op.move (Operand.tmp 0), 34, _, _, _⟩) (v := ?_) rfl (by kernel_rfl) (by kernel_rfl) (by kernel_rfl) (by kernel_rfl) (fun _ _ _ h => h) (by rfl) ?hya1 trivial ?hra1
    case hya1 => (intro wS hSw; go_simp; (try simp only [if_pos hkc, if_pos hkn, if_neg hcke]); (try with_reducible rfl))
    all_goals try (simp only [Act.put, List.setIfInBounds_toArray, List.set_cons_zero, List.set_cons_succ])
    refine wpAnyD_take (i := 1) (oi := ⟨some 16, Op.move (Operand.tmp 5), 3, _, _, _⟩) (v := ?_) rfl (by kernel_rfl) (by kernel_rfl) (by kernel_rfl) (by kernel_rfl) (fun _ _ _ h => h) (by rfl) ?hya2 trivial ?hra2
    case hya2 => (intro wS hSw; go_simp; (try simp only [if_pos hkc, if_pos hkn, if_neg hcke]); (try with_reducible rfl))
    all_goals try (simp only [Act.put, List.setIfInBounds_toArray, List.set_cons_zero, List.set_cons_succ])
    refine wpAnyD_take (i := 2) (oi := ⟨some 17, Op.slice 34 (Operand.tmp 15) none (some (Operand.tmp 16)) none, 34, _, _, _⟩) (v := ?_) rfl (by kernel_rfl) (by kernel_rfl) (by kernel_rfl) (by kernel_rfl) (fun _ _ _ h => h) (by rfl) ?hya3 trivial ?hra3
    case hya3 => (intro wS hSw; go_simp; (try simp only [if_pos hkc, if_pos hkn, if_neg hcke]); (try with_reducible rfl))
    all_goals try (simp only [Act.put, List.setIfInBounds_toArray, List.set_cons_zero, List.set_cons_succ])
    refine wpAnyD_take (i := 3) (oi := ⟨some 18, Op.move (Operand.tmp 1), 3, _, _, _⟩) (v := ?_) rfl (by kernel_rfl) (by kernel_rfl) (by kernel_rfl) (by kernel_rfl) (fun _ _ _ h => h) (by rfl) ?hya4 trivial ?hra4
    case hya4 => (intro wS hSw; go_simp; (try simp only [if_pos hkc, if_pos hkn, if_neg hcke]); (try with_reducible rfl))
    all_goals try (simp only [Act.put, List.setIfInBounds_toArray, List.set_cons_zero, List.set_cons_succ])
    refine wpAnyD_take (i := 5) (oi := ⟨some 20, Op.move (Operand.tmp 0), 34, _, _, _⟩) (v := ?_) rfl (by kernel_rfl) (by kernel_rfl) (by kernel_rfl) (by kernel_rfl) (fun _ _ _ h => h) (by rfl) ?hya5 trivial ?hra5
    case hya5 => (intro wS hSw; go_simp; (try simp only [if_pos hkc, if_pos hkn, if_neg hcke]); (try with_reducible rfl))
    all_goals try (simp only [Act.put, List.setIfInBounds_toArray, List.set_cons_zero, List.set_cons_succ])
    refine wpAnyD_take (i := 6) (oi := ⟨some 21, Op.move (Operand.tmp 5), 3, _, _, _⟩) (v := ?_) rfl (by kernel_rfl) (by kernel_rfl) (by kernel_rfl) (by kernel_rfl) (fun _ _ _ h => h) (by rfl) ?hya6 trivial ?hra6
    case hya6 => (intro wS hSw; go_simp; (try simp only [if_pos hkc, if_pos hkn, if_neg hcke]); (try with_reducible rfl))
    all_goals try (simp only [Act.put, List.setIfInBounds_toArray, List.set_cons_zero, List.set_cons_succ])
    refine wpAnyD_take (i := 7) (oi := ⟨some 22, Op.slice 34 (Operand.tmp 20) (some (Operand.tmp 21)) none none, 34, _, _, _⟩) (v := ?_) rfl (by kernel_rfl) (by kernel_rfl) (by kernel_rfl) (by kernel_rfl) (fun _ _ _ h => h) (by rfl) ?hya7 trivial ?hra7
    case hya7 => (intro wS hSw; go_simp; (try simp only [if_pos hkc, if_pos hkn, if_neg hcke]); (try with_reducible rfl))
    all_goals try (simp only [Act.put, List.setIfInBounds_toArray, List.set_cons_zero, List.set_cons_succ])
    refine wpAnyD_one (i := 4) (oi := ⟨some 19, Op.call { callee := Callee.value (Operand.func 81), args := #[Operand.tmp 17, Operand.tmp 18], argTypes := #[34, 3] }, 34, _, _, _⟩) rfl (by kernel_rfl) (by rfl) (fun K hK => ?_)
    go_simp
    go_at_call 81
    refine (HI.out (l.take k) (some ⟨b, o, none⟩) k c i W0 (by have := HF.out; have := HN.out; rw [List.length_take]; omega) ((HL.out.to hb0.out).take k (by have := HN.out; omega)) (by have := HN.out; rw [List.length_take]; omega) (by omega) (by omega)).mono ?_
    rintro e W1 ⟨v1, rfl, ho1, hb1⟩
    obtain ⟨A1, c1, rfl, -⟩ := ho1.form
    have HO1 := Lib.hid (ho1.re hb0.out.size)
    have HB1 := Lib.hid (hb0.out.trans (hb1.mono hb0.out.size))
    clear ho1 hb1
    go_simp
    refine hK _ _ (fun _ => trivial) ?_
    clear hK K
    try simp only [Act.put, List.setIfInBounds_toArray, List.set_cons_zero, List.set_cons_succ]
    refine wpAnyD_one (i := 8) (oi := ⟨some 23, Op.call { callee := Callee.value (Operand.func 52), args := #[Operand.tmp 22], argTypes := #[34] }, 29, _, _, _⟩) rfl (by kernel_rfl) (by rfl) (fun K hK => ?_)
    go_simp
    go_at_call 52
    refine (rroot_any (l.drop k) (some ⟨b, o + k * 32, none⟩) (n - k) (c - k) W1 (sl_drop32 (HL.out.to HB1.out) k (by have := HN.out; omega)) (by have := HN.out; rw [List.length_drop]; omega) (by omega)).mono ?_
    rintro e W2 ⟨rfl, hb2⟩
    have HO2 := Lib.hid (HO1.out.below hb2)
    have HB2 := Lib.hid (HB1.out.trans (hb2.mono HB1.out.size))
    clear hb2
    obtain ⟨r, hr⟩ : ∃ r, r = root (l.drop k) := ⟨_, rfl⟩
    have HR := Lib.hid hr
    have HRL : Hid (r.length = 32) := Lib.hid (by rw [hr]; exact root_length _ (fun x hx => HLen.out x (List.mem_of_mem_drop hx)))
    have hrv : hashV (root (l.drop k)) = .agg (r.map encB).toArray := by rw [← hr]; rfl
    rw [hrv]
    clear hr hrv
    have HSZ := Lib.hid (hash_size HRL.out)
    generalize hcs : (r.map encB).toArray = cs at *
    have HCS := Lib.hid hcs
    clear hcs
    go_simp
    refine hK _ _ (fun _ => trivial) ?_
    clear hK K
    try simp only [Act.put, List.setIfInBounds_toArray, List.set_cons_zero, List.set_cons_succ]
    refine wpAnyD_one (i := 9) (oi := ⟨some 24, Op.buildSlice 34 1 #[(0, Operand.tmp 23)], 34, _, _, _⟩) rfl (by kernel_rfl) (by rfl) (fun K hK => ?_)
    refine wp_build1 (.tmp 23) rfl cs rfl HSZ.out ?_
    have HO3 := Lib.hid (HO2.out.alloc (.cells cs 29))
    have HB3 := Lib.hid (HB2.out.alloc HB2.out.size (.cells cs 29))
    have HLT : Hid ((W2.alloc (.cells cs 29)).heap[W2.heap.size]? = some (.cells cs 29 (0, 0))) := Lib.hid (heap_alloc_new W2 _)
    refine hK _ _ (fun _ => trivial) ?_
    clear hK K
    generalize W2.heap.size = B1 at *
    generalize W2.alloc (.cells cs 29) = W3 at *
    try simp only [Act.put, List.setIfInBounds_toArray, List.set_cons_zero, List.set_cons_succ]
    refine wpAnyD_one (i := 10) (oi := ⟨some 25, Op.call { callee := Callee.builtin Builtin.append, args := #[Operand.tmp 19, Operand.tmp 24], argTypes := #[34, 34] }, 34, _, _, _⟩) rfl (by kernel_rfl) (by rfl) (fun K hK => ?_)
    refine wp_push (α := H32) _ (.tmp 19) (.tmp 24) 34 rfl w.heap.size 29 (.agg (zer32.map encB).toArray) 32 Tryd.underlying34 h_info rfl (by decide) (.slice A1 (pathH (l.take k) i).length c1) (pathH (l.take k) i) rfl HO3.out B1 cs ⟨r⟩ (0, 0) 29 rfl HLT.out ⟨by rw [← HCS.out], HRL.out⟩ (by have := HPL.out; omega) (by have := HPL.out; omega) HB3.out.size _ rfl ?_
    intro g4 p4 W4 hown4 hg4 hat4 hlt4
    have HB4 := Lib.hid (below_cat HB3.out HO3.out HB3.out.size hg4)
    have HO4 := Lib.hid hown4
    clear hown4 hg4 hat4 hlt4
    refine hK _ _ (fun _ => trivial) ?_
    clear hK K
    try simp only [Act.put, List.setIfInBounds_toArray, List.set_cons_zero, List.set_cons_succ]
    refine wpAnyD_one (i := 11) (oi := ⟨some 4, Op.assign (Operand.tmp 25), 34, _, _, _⟩) rfl (by kernel_rfl) (by rfl) (fun K hK => ?_)
    go_simp
    refine hK _ _ (fun _ => trivial) ?_
    clear hK K
    try simp only [Act.put, List.setIfInBounds_toArray, List.set_cons_zero, List.set_cons_succ]
    refine wpAnyD_done (by kernel_rfl) ?_ _
    unfold Exit.then
    go_wp2_with fail
    go_ret
    exact ⟨_, rfl, by rw [HPE.out, ← HR.out]; exact HO4.out, HB4.out⟩
  · have hiI : ¬ (i : Int) < (k : Int) := by omega
    have HPE := Lib.hid (HDR.out hik)
    have HPL : Hid ((pathH (l.drop k) (i - k)).length ≤ 1048576) := Lib.hid (Nat.le_trans (pathH_length _ _) (by have := HN.out; rw [List.length_drop]; omega))
    have hij : IntKind.i64.wrap ((i : Int) - (k : Int)) = ((i - k : Nat) : Int) := by
      have e : (i : Int) - (k : Int) = ((i - k : Nat) : Int) := by omega
      rw [e]
      have hb1 : ((i - k : Nat) : Int) ≤ 1048576 := by omega
      have hb2 : (0 : Int) ≤ ((i - k : Nat) : Int) := by omega
      clear e
      generalize ((i - k : Nat) : Int) = z at *
      first | (have e2 : IntKind.i64.wrap z = wrap64 z := rfl; rw [e2]; unfold wrap64; omega) | (simp [IntKind.wrap, IntKind.bits, IntKind.signed]; omega)
    have HIR : Hid (∀ W, Below w.heap.size w W → Calls Tryd.prog 81 #[.slice (some ⟨b, o + k * 32, none⟩) (n - k) (c - k), .int .i64 (IntKind.i64.wrap ((i : Int) - (k : Int)))] W fun e w' => ∃ v, e = .returned v ∧ Own w' W.heap.size 29 v (pathH (l.drop k) (i - k)) ∧ Below W.heap.size W w') := Lib.hid (fun W hW => by
      rw [hij]
      exact HI.out (l.drop k) (some ⟨b, o + k * 32, none⟩) (n - k) (c - k) (i - k) W (by have := HF.out; have := HN.out; rw [List.length_drop]; omega) (sl_drop32 (HL.out.to hW) k (by have := HN.out; omega)) (by have := HN.out; rw [List.length_drop]; omega) (by omega) (by omega))
    clear HDL HDR hij
    go_upto_region 6 with (fail)
    refine wp_region_D (fun _ => True) (fun _ => true) (by kernel_rfl) ?_
    have hb0 : Hid (Below w.heap.size w w.drew) := Lib.hid (Below.refl _ _).drew
    generalize w.drew = W0 at *
    refine wpAnyD_take (i := 0) (oi := ⟨some 26, Op.move (Operand.tmp 0), 34, _, _, _⟩) (v := ?_) rfl (by kernel_rfl) (by kernel_rfl) (by kernel_rfl) (by kernel_rfl) (fun _ _ _ h => h) (by rfl) ?hya8 trivial ?hra8
    case hya8 => (intro wS hSw; go_simp; (try simp only [if_pos hkc, if_pos hkn, if_neg hcke]); (try with_reducible rfl))
    all_goals try (simp only [Act.put, List.setIfInBounds_toArray, List.set_cons_zero, List.set_cons_succ])
    refine wpAnyD_take (i := 1) (oi := ⟨some 27, Op.move (Operand.tmp 5), 3, _, _, _⟩) (v := ?_) rfl (by kernel_rfl) (by kernel_rfl) (by kernel_rfl) (by kernel_rfl) (fun _ _ _ h => h) (by rfl) ?hya9 trivial ?hra9
    case hya9 => (intro wS hSw; go_simp; (try simp only [if_pos hkc, if_pos hkn, if_neg hcke]); (try with_reducible rfl))
    all_goals try (simp only [Act.put, List.setIfInBounds_toArray, List.set_cons_zero, List.set_cons_succ])
    refine wpAnyD_take (i := 2) (oi := ⟨some 28, Op.slice 34 (Operand.tmp 26) (some (Operand.tmp 27)) none none, 34, _, _, _⟩) (v := ?_) rfl (by kernel_rfl) (by kernel_rfl) (by kernel_rfl) (by kernel_rfl) (fun _ _ _ h => h) (by rfl) ?hya10 trivial ?hra10
    case hya10 => (intro wS hSw; go_simp; (try simp only [if_pos hkc, if_pos hkn, if_neg hcke]); (try with_reducible rfl))
    all_goals try (simp only [Act.put, List.setIfInBounds_toArray, List.set_cons_zero, List.set_cons_succ])
    refine wpAnyD_take (i := 3) (oi := ⟨some 29, Op.move (Operand.tmp 1), 3, _, _, _⟩) (v := ?_) rfl (by kernel_rfl) (by kernel_rfl) (by kernel_rfl) (by kernel_rfl) (fun _ _ _ h => h) (by rfl) ?hya11 trivial ?hra11
    case hya11 => (intro wS hSw; go_simp; (try simp only [if_pos hkc, if_pos hkn, if_neg hcke]); (try with_reducible rfl))
    all_goals try (simp only [Act.put, List.setIfInBounds_toArray, List.set_cons_zero, List.set_cons_succ])
    refine wpAnyD_take (i := 4) (oi := ⟨some 30, Op.move (Operand.tmp 5), 3, _, _, _⟩) (v := ?_) rfl (by kernel_rfl) (by kernel_rfl) (by kernel_rfl) (by kernel_rfl) (fun _ _ _ h => h) (by rfl) ?hya12 trivial ?hra12
    case hya12 => (intro wS hSw; go_simp; (try simp only [if_pos hkc, if_pos hkn, if_neg hcke]); (try with_reducible rfl))
    all_goals try (simp only [Act.put, List.setIfInBounds_toArray, List.set_cons_zero, List.set_cons_succ])
    refine wpAnyD_take (i := 5) (oi := ⟨some 31, Op.binOp BinOp.sub 3 (Operand.tmp 29) (Operand.tmp 30) 3, 3, _, _, _⟩) (v := ?_) rfl (by kernel_rfl) (by kernel_rfl) (by kernel_rfl) (by kernel_rfl) (fun _ _ _ h => h) (by rfl) ?hya13 trivial ?hra13
    case hya13 => (intro wS hSw; go_simp; (try simp only [if_pos hkc, if_pos hkn, if_neg hcke]); (try with_reducible rfl))
    all_goals try (simp only [Act.put, List.setIfInBounds_toArray, List.set_cons_zero, List.set_cons_succ])
    refine wpAnyD_take (i := 7) (oi := ⟨some 33, Op.move (Operand.tmp 0), 34, _, _, _⟩) (v := ?_) rfl (by kernel_rfl) (by kernel_rfl) (by kernel_rfl) (by kernel_rfl) (fun _ _ _ h => h) (by rfl) ?hya14 trivial ?hra14
    case hya14 => (intro wS hSw; go_simp; (try simp only [if_pos hkc, if_pos hkn, if_neg hcke]); (try with_reducible rfl))
    all_goals try (simp only [Act.put, List.setIfInBounds_toArray, List.set_cons_zero, List.set_cons_succ])
    refine wpAnyD_take (i := 8) (oi := ⟨some 34, Op.move (Operand.tmp 5), 3, _, _, _⟩) (v := ?_) rfl (by kernel_rfl) (by kernel_rfl) (by kernel_rfl) (by kernel_rfl) (fun _ _ _ h => h) (by rfl) ?hya15 trivial ?hra15
    case hya15 => (intro wS hSw; go_simp; (try simp only [if_pos hkc, if_pos hkn, if_neg hcke]); (try with_reducible rfl))
    all_goals try (simp only [Act.put, List.setIfInBounds_toArray, List.set_cons_zero, List.set_cons_succ])
    refine wpAnyD_take (i := 9) (oi := ⟨some 35, Op.slice 34 (Operand.tmp 33) none (some (Operand.tmp 34)) none, 34, _, _, _⟩) (v := ?_) rfl (by kernel_rfl) (by kernel_rfl) (by kernel_rfl) (by kernel_rfl) (fun _ _ _ h => h) (by rfl) ?hya16 trivial ?hra16
    case hya16 => (intro wS hSw; go_simp; (try simp only [if_pos hkc, if_pos hkn, if_neg hcke]); (try with_reducible rfl))
    all_goals try (simp only [Act.put, List.setIfInBounds_toArray, List.set_cons_zero, List.set_cons_succ])
    refine wpAnyD_one (i := 6) (oi := ⟨some 32, Op.call { callee := Callee.value (Operand.func 81), args := #[Operand.tmp 28, Operand.tmp 31], argTypes := #[34, 3] }, 34, _, _, _⟩) rfl (by kernel_rfl) (by rfl) (fun K hK => ?_)
    go_simp
    go_at_call 81
    refine (HIR.out W0 hb0.out).mono ?_
    rintro e W1 ⟨v1, rfl, ho1, hb1⟩
    obtain ⟨A1, c1, rfl, -⟩ := ho1.form
    have HO1 := Lib.hid (ho1.re hb0.out.size)
    have HB1 := Lib.hid (hb0.out.trans (hb1.mono hb0.out.size))
    clear ho1 hb1
    go_simp
    refine hK _ _ (fun _ => trivial) ?_
    clear hK K
    try simp only [Act.put, List.setIfInBounds_toArray, List.set_cons_zero, List.set_cons_succ]
    refine wpAnyD_one (i := 10) (oi := ⟨some 36, Op.call { callee := Callee.value (Operand.func 52), args := #[Operand.tmp 35], argTypes := #[34] }, 29, _, _, _⟩) rfl (by kernel_rfl) (by rfl) (fun K hK => ?_)
    go_simp
    go_at_call 52
    refine (rroot_any (l.take k) (some ⟨b, o, none⟩) k c W1 ((HL.out.to HB1.out).take k (by have := HN.out; omega)) (by have := HN.out; rw [List.length_take]; omega) (by omega)).mono ?_
    rintro e W2 ⟨rfl, hb2⟩
    have HO2 := Lib.hid (HO1.out.below hb2)
    have HB2 := Lib.hid (HB1.out.trans (hb2.mono HB1.out.size))
    clear hb2
    obtain ⟨r, hr⟩ : ∃ r, r = root (l.take k) := ⟨_, rfl⟩
    have HR := Lib.hid hr
    have HRL : Hid (r.length = 32) := Lib.hid (by rw [hr]; exact root_length _ (fun x hx => HLen.out x (List.mem_of_mem_take hx)))
    have hrv : hashV (root (l.take k)) = .agg (r.map encB).toArray := by rw [← hr]; rfl
    rw [hrv]
    clear hr hrv
    have HSZ := Lib.hid (hash_size HRL.out)
    generalize hcs : (r.map encB).toArray = cs at *
    have HCS := Lib.hid hcs
    clear hcs
    go_simp
    refine hK _ _ (fun _ => trivial) ?_
    clear hK K
    try simp only [Act.put, List.setIfInBounds_toArray, List.set_cons_zero, List.set_cons_succ]
    refine wpAnyD_one (i := 11) (oi := ⟨some 37, Op.buildSlice 34 1 #[(0, Operand.tmp 36)], 34, _, _, _⟩) rfl (by kernel_rfl) (by rfl) (fun K hK => ?_)
    refine wp_build1 (.tmp 36) rfl cs rfl HSZ.out ?_
    have HO3 := Lib.hid (HO2.out.alloc (.cells cs 29))
    have HB3 := Lib.hid (HB2.out.alloc HB2.out.size (.cells cs 29))
    have HLT : Hid ((W2.alloc (.cells cs 29)).heap[W2.heap.size]? = some (.cells cs 29 (0, 0))) := Lib.hid (heap_alloc_new W2 _)
    refine hK _ _ (fun _ => trivial) ?_
    clear hK K
    generalize W2.heap.size = B1 at *
    generalize W2.alloc (.cells cs 29) = W3 at *
    try simp only [Act.put, List.setIfInBounds_toArray, List.set_cons_zero, List.set_cons_succ]
    refine wpAnyD_one (i := 12) (oi := ⟨some 38, Op.call { callee := Callee.builtin Builtin.append, args := #[Operand.tmp 32, Operand.tmp 37], argTypes := #[34, 34] }, 34, _, _, _⟩) rfl (by kernel_rfl) (by rfl) (fun K hK => ?_)
    refine wp_push (α := H32) _ (.tmp 32) (.tmp 37) 34 rfl w.heap.size 29 (.agg (zer32.map encB).toArray) 32 Tryd.underlying34 h_info rfl (by decide) (.slice A1 (pathH (l.drop k) (i - k)).length c1) (pathH (l.drop k) (i - k)) rfl HO3.out B1 cs ⟨r⟩ (0, 0) 29 rfl HLT.out ⟨by rw [← HCS.out], HRL.out⟩ (by have := HPL.out; omega) (by have := HPL.out; omega) HB3.out.size _ rfl ?_
    intro g4 p4 W4 hown4 hg4 hat4 hlt4
    have HB4 := Lib.hid (below_cat HB3.out HO3.out HB3.out.size hg4)
    have HO4 := Lib.hid hown4
    clear hown4 hg4 hat4 hlt4
    refine hK _ _ (fun _ => trivial) ?_
    clear hK K
    try simp only [Act.put, List.setIfInBounds_toArray, List.set_cons_zero, List.set_cons_succ]
    refine wpAnyD_one (i := 13) (oi := ⟨some 4, Op.assign (Operand.tmp 38), 34, _, _, _⟩) rfl (by kernel_rfl) (by rfl) (fun K hK => ?_)
    go_simp
    refine hK _ _ (fun _ => trivial) ?_
    clear hK K
    try simp only [Act.put, List.setIfInBounds_toArray, List.set_cons_zero, List.set_cons_succ]
    refine wpAnyD_done (by kernel_rfl) ?_ _
    unfold Exit.then
    go_wp2_with fail
    go_ret
    exact ⟨_, rfl, by rw [HPE.out, ← HR.out]; exact HO4.out, HB4.out⟩
theorem rpath1_any (x : H32) (A : Option Addr) (c i : Nat) (w : World) :
    Calls Tryd.prog 81 #[.slice A 1 c, .int .i64 (i : Int)] w fun e w' => ∃ v, e = .returned v ∧ Own w' w.heap.size 29 v (pathH [x] i) ∧ Below w.heap.size w w' := by
  have HP := Lib.hid (pathH_one x i)
  go_enter Tryd.func81, Tryd.ntmps81
  go_wp2_with fail
  go_ret
  exact ⟨_, rfl, by rw [HP.out]; exact Own.nil _ _ _, Below.refl _ _⟩
theorem rpathF_any (f : Nat) : ∀ (l : List H32) (A : Option Addr) (n c i : Nat) (w : World), l.length ≤ f → Sl w (fun b => b < w.heap.size) A c l → l.length = n → n ≤ 1048576 → i < n →
      Calls Tryd.prog 81 #[.slice A n c, .int .i64 (i : Int)] w fun e w' => ∃ v, e = .returned v ∧ Own w' w.heap.size 29 v (pathH l i) ∧ Below w.heap.size w w' := by
  induction f with
  | zero => intro l A n c i w hf hl hn hs hi; omega
  | succ f ih =>
    intro l A n c i w hf hl hn hs hi
    by_cases h1 : n = 1
    · subst h1
      obtain ⟨x, rfl⟩ : ∃ x, l = [x] := List.length_eq_one_iff.1 hn
      exact rpath1_any x A c i w
    · exact rpath2_any f ih l A n c i w hf hl hn (by omega) hs hi
theorem rpath_any (l : List H32) (A : Option Addr) (n c i : Nat) (w : World) (hl : Sl w (fun b => b < w.heap.size) A c l) (hn : l.length = n) (hs : n ≤ 1048576) (hi : i < n) :
    Calls Tryd.prog 81 #[.slice A n c, .int .i64 (i : Int)] w fun e w' => ∃ v, e = .returned v ∧ Own w' w.heap.size 29 v (pathH l i) ∧ Below w.heap.size w w' := rpathF_any l.length l A n c i w (Nat.le_refl _) hl hn hs hi
set_option maxRecDepth 100000 in
theorem rpathE_any (l : List H32) (A : Option Addr) (n c i : Nat) (w : World) (hl : Sl w (fun b => b < w.heap.size) A c l) (hn : l.length = n) (hs : n ≤ 1048576) (hi : i < n) :
    Calls Tryd.prog 55 #[.slice A n c, .int .i64 (i : Int)] w fun e w' => ∃ v, e = .returned (.tuple #[v, .int .i64 0]) ∧ Own w' w.heap.size 29 v (pathH l i) ∧ Below w.heap.size w w' := by
  have HP := Lib.hid (rpath_any l A n c i w hl hn hs hi)
  have hin : ¬ n ≤ i := by omega
  have hin2 : ¬ (n : Int) ≤ (i : Int) := by omega
  have hi0 : (0 : Int) ≤ (i : Int) := by omega
  clear hl hn hi
  go_enter Tryd.func55, Tryd.ntmps55
  go_wp2_with fail
  refine HP.out.mono ?_
  rintro e w2 ⟨v2, rfl, ho2, hb2⟩
  obtain ⟨A2, c2, rfl, -⟩ := ho2.form
  have HO := Lib.hid ho2
  have HB := Lib.hid hb2
  clear ho2 hb2
  go_wp2_with fail
  go_ret2
  exact ⟨_, rfl, HO.out, HB.out⟩
end Go.Proofs.YthcklfelofpffaaDoor
namespace Go.Proofs.YthcklfelofpffaaDoor
open Go.RowKit
set_option maxRecDepth 100000 in
set_option maxHeartbeats 4000000 in
theorem rproof_any (A B : Option Addr) (ca cb : Nat) (L : List H32) (N : List ByteArray) (x : ByteArray) (w : World) (hl : Sl w (fun b => b < w.heap.size) A ca L) (hn : Sl w (fun b => b < w.heap.size) B cb N) (hln : L.length = N.length) (hs : L.length ≤ 1048576) :
    Calls Tryd.prog 23 #[.agg #[.slice A L.length ca, .slice B N.length cb], .string x] w fun e w' => ∃ A' c', e = .returned (.tuple #[.int .i64 (proofI N x), .slice A' (proofP L N x).length c', .bool (proofB N x)]) ∧ Sl w' (fun b => b < w'.heap.size) A' c' (proofP L N x) ∧ Below w.heap.size w w' := by
  have hba : Below w.heap.size w (w.alloc (.cells #[.slice A L.length ca, .slice B N.length cb] 36)) := (Below.refl _ _).alloc (Nat.le_refl _) _
  have HX1 : Hid (ABox (w.alloc (.cells #[.slice A L.length ca, .slice B N.length cb] 36)) w.heap.size 36 [.slice A L.length ca, .slice B N.length cb]) := Lib.hid (heap_alloc_new w _)
  have HB := Lib.hid hba
  have HLA := Lib.hid (rlast_any A B ca L.length cb N x _ (hn.to hba))
  have HPA := Lib.hid (fun k (hk : k < L.length) W (h : Below _ _ W) => rpathE_any L A _ ca k W ((hl.to hba).to h) rfl hs hk)
  have HLN := Lib.hid hln
  clear hba hl hn hln
  go_enter Tryd.func23, Tryd.ntmps23
  go_upto_region 1 with (fail)
  generalize (w.alloc (.cells #[.slice A L.length ca, .slice B N.length cb] 36)) = w1 at *
  have k0 := HX1.out.cell 0 rfl
  have k1 := HX1.out.cell 1 rfl
  go_wp2_with fail
  refine HLA.out.mono ?_
  rintro e w2 ⟨rfl, hb2⟩
  have HB2 := Lib.hid hb2
  clear k0 k1 hb2 HLA
  rcases lastIx_cases N x with hc | ⟨j, hj, hc⟩
  · have HE : Hid (proofI N x = 0 ∧ proofP L N x = [] ∧ proofB N x = false) := Lib.hid (by unfold proofI proofP proofB; rw [hc]; exact ⟨rfl, rfl, rfl⟩)
    rw [hc]
    clear hc
    go_wp2_with fail
    go_ret3
    exact ⟨none, 0, by rw [HE.out.1, HE.out.2.1, HE.out.2.2]; rfl, by rw [HE.out.2.1]; exact Sl.nil _ _ _ _ (by decide), HB.out.trans (HB2.out.mono HB.out.size)⟩
  · have HE : Hid (proofI N x = (j : Int) ∧ proofP L N x = pathH L j ∧ proofB N x = true) := Lib.hid (by
      have hq : ¬ (j : Int) < 0 := by omega
      unfold proofI proofP proofB; rw [hc, if_neg hq, if_neg hq, Int.toNat_natCast]; exact ⟨rfl, rfl, by simp [hq]⟩)
    rw [hc]
    clear hc
    have k2 := (HX1.out.to HB2.out).cell 0 rfl
    have HP := Lib.hid (HPA.out j (by have := HLN.out; omega) w2 HB2.out)
    have hj0 : ¬ (j : Int) < 0 := by omega
    clear HPA HX1
    go_wp2_with fail
    refine HP.out.mono ?_
    rintro e w3 ⟨v3, rfl, ho3, hb3⟩
    obtain ⟨A', c', rfl, hs3⟩ := ho3.sl
    clear ho3
    have HS3 := Lib.hid hs3
    have HB3 := Lib.hid hb3
    clear hs3 hb3 k2
    go_wp2_with fail
    go_ret3
    exact ⟨A', c', by rw [HE.out.1, HE.out.2.1, HE.out.2.2]; rfl, by rw [HE.out.2.1]; exact HS3.out, HB.out.trans ((HB2.out.trans (HB3.out.mono HB2.out.size)).mono HB.out.size)⟩
end Go.Proofs.YthcklfelofpffaaDoor
namespace Go.Proofs.YthcklfelofpffaaDoor
open Go.RowKit
def growF : Nat → Nat → List H32 → Bool → List H32
  | 0, _, _, _ => []
  | f + 1, m, l, whole => if m = l.length then (if whole = true then [] else [⟨root l⟩]) else if m ≤ splitN l.length then growF f m (l.take (splitN l.length)) whole ++ [⟨root (l.drop (splitN l.length))⟩]
    else growF f (m - splitN l.length) (l.drop (splitN l.length)) false ++ [⟨root (l.take (splitN l.length))⟩]
theorem growF_length : ∀ (f m : Nat) (l : List H32) (whole : Bool), (growF f m l whole).length ≤ f
  | 0, _, _, _ => Nat.le_refl _
  | f + 1, m, l, whole => by
    rw [growF]
    split
    · split
      · simp
      · simp
    · split
      · have := growF_length f m (l.take (splitN l.length)) whole
        rw [List.length_append, List.length_singleton]; omega
      · have := growF_length f (m - splitN l.length) (l.drop (splitN l.length)) false
        rw [List.length_append, List.length_singleton]; omega
set_option maxRecDepth 100000 in
set_option maxHeartbeats 4000000 in
theorem rgrow2_any (f : Nat) (hfs : f ≤ 1048576) (ih : ∀ (m : Nat) (l : List H32) (whole : Bool) (A : Option Addr) (n c : Nat) (w : World), l.length ≤ f → Sl w (fun b => b < w.heap.size) A c l → l.length = n → 1 ≤ m → m ≤ n →
      Calls Tryd.prog 83 #[.int .i64 (m : Int), .slice A n c, .bool whole] w fun e w' => ∃ v, e = .returned v ∧ Own w' w.heap.size 29 v (growF f m l whole) ∧ Below w.heap.size w w')
    (m : Nat) (l : List H32) (whole : Bool) (A : Option Addr) (n c : Nat) (w : World) (hf : l.length ≤ f + 1) (hl : Sl w (fun b => b < w.heap.size) A c l) (hn : l.length = n) (hm1 : 1 ≤ m) (hmn : m < n) :
    Calls Tryd.prog 83 #[.int .i64 (m : Int), .slice A n c, .bool whole] w fun e w' => ∃ v, e = .returned v ∧ Own w' w.heap.size 29 v (growF (f + 1) m l whole) ∧ Below w.heap.size w w' := by
  have hs : n ≤ 1048577 := by omega
  have h2 : 2 ≤ n := by omega
  obtain ⟨_, _, h3, h4, _⟩ := splitN_bounds n h2 (by omega)
  have HSP := Lib.hid (rsplit_any n h2 (by omega))
  have HLen := Lib.hid (h32_len hl)
  have HDL : Hid (m ≤ splitN n → growF (f + 1) m l whole = growF f m (l.take (splitN n)) whole ++ [⟨root (l.drop (splitN n))⟩]) := Lib.hid (fun h => by
    subst hn
    rw [growF, if_neg (by omega), if_pos h])
  have HDR : Hid (¬ m ≤ splitN n → growF (f + 1) m l whole = growF f (m - splitN n) (l.drop (splitN n)) false ++ [⟨root (l.take (splitN n))⟩]) := Lib.hid (fun h => by
    subst hn
    rw [growF, if_neg (by omega), if_neg h])
  obtain ⟨b, o, rfl, _⟩ := hl.2.2 (by omega)
  have hnc : n ≤ c := by have := hl.1; omega
  have hcm : c ≤ 9223372036854775807 := by have := hl.2.1; unfold maxLen at this; omega
  have hmn2 : ¬ m = n := by omega
  have HI := Lib.hid ih
  have HF := Lib.hid hf
  have HN := Lib.hid hn
  have HL := Lib.hid hl
  clear ih hl hf hn
  generalize splitN n = k at *
  have hkc : k ≤ c := by omega
  have hkn : k ≤ n := by omega
  have hcke : ¬ c = k := by omega
  have hmnI : ¬ (m : Int) = (n : Int) := by omega
  go_enter Tryd.func83, Tryd.ntmps83
  go_upto_region 6 with (first
    | (go_at_call 76; refine (HSP.out _).mono ?_; rintro e w' ⟨rfl, rfl⟩)
    | fail)
  by_cases hmk : m ≤ k
  · have hiI : (m : Int) ≤ (k : Int) := by omega
    have HPE := Lib.hid (HDL.out hmk)
    have HPL : Hid ((growF f m (l.take k) whole).length ≤ 1048576) := Lib.hid (Nat.le_trans (growF_length _ _ _ _) hfs)
    clear HDL HDR
    go_upto_region 7 with (fail)
    refine wp_region_D (fun _ => True) (fun _ => true) (by kernel_rfl) ?_
    have hb0 : Hid (Below w.heap.size w w.drew) := Lib.hid (Below.refl _ _).drew
    generalize w.drew = W0 at *
    refine wpAnyD_take (i := 0) (oi := ⟨some 22, Op.move (Operand.tmp 0), 3, _, _, _⟩) (v := ?_) rfl (by kernel_rfl) (by kernel_rfl) (by kernel_rfl) (by kernel_rfl) (fun _ _ _ h => h) (by rfl) ?hya1 trivial ?hra1
    case hya1 => (intro wS hSw; go_simp; (try simp only [if_pos hkc, if_pos hkn, if_neg hcke]); (try with_reducible rfl))
    all_goals try (simp only [Act.put, List.setIfInBounds_toArray, List.set_cons_zero, List.set_cons_succ])
    refine wpAnyD_take (i := 1) (oi := ⟨some 23, Op.move (Operand.tmp 1), 34, _, _, _⟩) (v := ?_) rfl (by kernel_rfl) (by kernel_rfl) (by kernel_rfl) (by kernel_rfl) (fun _ _ _ h => h) (by rfl) ?hya2 trivial ?hra2
    case hya2 => (intro wS hSw; go_simp; (try simp only [if_pos hkc, if_pos hkn, if_neg hcke]); (try with_reducible rfl))
    all_goals try (simp only [Act.put, List.setIfInBounds_toArray, List.set_cons_zero, List.set_cons_succ])
    refine wpAnyD_take (i := 2) (oi := ⟨some 24, Op.move (Operand.tmp 7), 3, _, _, _⟩) (v := ?_) rfl (by kernel_rfl) (by kernel_rfl) (by kernel_rfl) (by kernel_rfl) (fun _ _ _ h => h) (by rfl) ?hya3 trivial ?hra3
    case hya3 => (intro wS hSw; go_simp; (try simp only [if_pos hkc, if_pos hkn, if_neg hcke]); (try with_reducible rfl))
    all_goals try (simp only [Act.put, List.setIfInBounds_toArray, List.set_cons_zero, List.set_cons_succ])
    refine wpAnyD_take (i := 3) (oi := ⟨some 25, Op.slice 34 (Operand.tmp 23) none (some (Operand.tmp 24)) none, 34, _, _, _⟩) (v := ?_) rfl (by kernel_rfl) (by kernel_rfl) (by kernel_rfl) (by kernel_rfl) (fun _ _ _ h => h) (by rfl) ?hya4 trivial ?hra4
    case hya4 => (intro wS hSw; go_simp; (try simp only [if_pos hkc, if_pos hkn, if_neg hcke]); (try with_reducible rfl))
    all_goals try (simp only [Act.put, List.setIfInBounds_toArray, List.set_cons_zero, List.set_cons_succ])
    refine wpAnyD_take (i := 4) (oi := ⟨some 26, Op.move (Operand.tmp 2), 4, _, _, _⟩) (v := ?_) rfl (by kernel_rfl) (by kernel_rfl) (by kernel_rfl) (by kernel_rfl) (fun _ _ _ h => h) (by rfl) ?hya5 trivial ?hra5
    case hya5 => (intro wS hSw; go_simp; (try simp only [if_pos hkc, if_pos hkn, if_neg hcke]); (try with_reducible rfl))
    all_goals try (simp only [Act.put, List.setIfInBounds_toArray, List.set_cons_zero, List.set_cons_succ])
    refine wpAnyD_take (i := 6) (oi := ⟨some 28, Op.move (Operand.tmp 1), 34, _, _, _⟩) (v := ?_) rfl (by kernel_rfl) (by kernel_rfl) (by kernel_rfl) (by kernel_rfl) (fun _ _ _ h => h) (by rfl) ?hya6 trivial ?hra6
    case hya6 => (intro wS hSw; go_simp; (try simp only [if_pos hkc, if_pos hkn, if_neg hcke]); (try with_reducible rfl))
    all_goals try (simp only [Act.put, List.setIfInBounds_toArray, List.set_cons_zero, List.set_cons_succ])
    refine wpAnyD_take (i := 7) (oi := ⟨some 29, Op.move (Operand.tmp 7), 3, _, _, _⟩) (v := ?_) rfl (by kernel_rfl) (by kernel_rfl) (by kernel_rfl) (by kernel_rfl) (fun _ _ _ h => h) (by rfl) ?hya7 trivial ?hra7
    case hya7 => (intro wS hSw; go_simp; (try simp only [if_pos hkc, if_pos hkn, if_neg hcke]); (try with_reducible rfl))
    all_goals try (simp only [Act.put, List.setIfInBounds_toArray, List.set_cons_zero, List.set_cons_succ])
    refine wpAnyD_take (i := 8) (oi := ⟨some 30, Op.slice 34 (Operand.tmp 28) (some (Operand.tmp 29)) none none, 34, _, _, _⟩) (v := ?_) rfl (by kernel_rfl) (by kernel_rfl) (by kernel_rfl) (by kernel_rfl) (fun _ _ _ h => h) (by rfl) ?hya8 trivial ?hra8
    case hya8 => (intro wS hSw; go_simp; (try simp only [if_pos hkc, if_pos hkn, if_neg hcke]); (try with_reducible rfl))
    all_goals try (simp only [Act.put, List.setIfInBounds_toArray, List.set_cons_zero, List.set_cons_succ])
    refine wpAnyD_one (i := 5) (oi := ⟨some 27, Op.call { callee := Callee.value (Operand.func 83), args := #[Operand.tmp 22, Operand.tmp 25, Operand.tmp 26], argTypes := #[3, 34, 4] }, 34, _, _, _⟩) rfl (by kernel_rfl) (by rfl) (fun K hK => ?_)
    go_simp
    go_at_call 83
    refine (HI.out m (l.take k) whole (some ⟨b, o, none⟩) k c W0 (by have := HF.out; have := HN.out; rw [List.length_take]; omega) ((HL.out.to hb0.out).take k (by have := HN.out; omega)) (by have := HN.out; rw [List.length_take]; omega) hm1 hmk).mono ?_
    rintro e W1 ⟨v1, rfl, ho1, hb1⟩
    obtain ⟨A1, c1, rfl, -⟩ := ho1.form
    have HO1 := Lib.hid (ho1.re hb0.out.size)
    have HB1 := Lib.hid (hb0.out.trans (hb1.mono hb0.out.size))
    clear ho1 hb1
    go_simp
    refine hK _ _ (fun _ => trivial) ?_
    clear hK K
    try simp only [Act.put, List.setIfInBounds_toArray, List.set_cons_zero, List.set_cons_succ]
    refine wpAnyD_one (i := 9) (oi := ⟨some 31, Op.call { callee := Callee.value (Operand.func 52), args := #[Operand.tmp 30], argTypes := #[34] }, 29, _, _, _⟩) rfl (by kernel_rfl) (by rfl) (fun K hK => ?_)
    go_simp
    go_at_call 52
    refine (rroot_any (l.drop k) (some ⟨b, o + k * 32, none⟩) (n - k) (c - k) W1 (sl_drop32 (HL.out.to HB1.out) k (by have := HN.out; omega)) (by have := HN.out; rw [List.length_drop]; omega) (by omega)).mono ?_
    rintro e W2 ⟨rfl, hb2⟩
    have HO2 := Lib.hid (HO1.out.below hb2)
    have HB2 := Lib.hid (HB1.out.trans (hb2.mono HB1.out.size))
    clear hb2
    obtain ⟨r, hr⟩ : ∃ r, r = root (l.drop k) := ⟨_, rfl⟩
    have HR := Lib.hid hr
    have HRL : Hid (r.length = 32) := Lib.hid (by rw [hr]; exact root_length _ (fun x hx => HLen.out x (List.mem_of_mem_drop hx)))
    have hrv : hashV (root (l.drop k)) = .agg (r.map encB).toArray := by rw [← hr]; rfl
    rw [hrv]
    clear hr hrv
    have HSZ := Lib.hid (hash_size HRL.out)
    generalize hcs : (r.map encB).toArray = cs at *
    have HCS := Lib.hid hcs
    clear hcs
    go_simp
    refine hK _ _ (fun _ => trivial) ?_
    clear hK K
    try simp only [Act.put, List.setIfInBounds_toArray, List.set_cons_zero, List.set_cons_succ]
    refine wpAnyD_one (i := 10) (oi := ⟨some 32, Op.buildSlice 34 1 #[(0, Operand.tmp 31)], 34, _, _, _⟩) rfl (by kernel_rfl) (by rfl) (fun K hK => ?_)
    refine wp_build1 (.tmp 31) rfl cs rfl HSZ.out ?_
    have HO3 := Lib.hid (HO2.out.alloc (.cells cs 29))
    have HB3 := Lib.hid (HB2.out.alloc HB2.out.size (.cells cs 29))
    have HLT : Hid ((W2.alloc (.cells cs 29)).heap[W2.heap.size]? = some (.cells cs 29 (0, 0))) := Lib.hid (heap_alloc_new W2 _)
    refine hK _ _ (fun _ => trivial) ?_
    clear hK K
    generalize W2.heap.size = B1 at *
    generalize W2.alloc (.cells cs 29) = W3 at *
    try simp only [Act.put, List.setIfInBounds_toArray, List.set_cons_zero, List.set_cons_succ]
    refine wpAnyD_one (i := 11) (oi := ⟨some 33, Op.call { callee := Callee.builtin Builtin.append, args := #[Operand.tmp 27, Operand.tmp 32], argTypes := #[34, 34] }, 34, _, _, _⟩) rfl (by kernel_rfl) (by rfl) (fun K hK => ?_)
    refine wp_push (α := H32) _ (.tmp 27) (.tmp 32) 34 rfl w.heap.size 29 (.agg (zer32.map encB).toArray) 32 Tryd.underlying34 h_info rfl (by decide) (.slice A1 (growF f m (l.take k) whole).length c1) (growF f m (l.take k) whole) rfl HO3.out B1 cs ⟨r⟩ (0, 0) 29 rfl HLT.out ⟨by rw [← HCS.out], HRL.out⟩ (by have := HPL.out; omega) (by have := HPL.out; omega) HB3.out.size _ rfl ?_
    intro g4 p4 W4 hown4 hg4 hat4 hlt4
    have HB4 := Lib.hid (below_cat HB3.out HO3.out HB3.out.size hg4)
    have HO4 := Lib.hid hown4
    clear hown4 hg4 hat4 hlt4
    refine hK _ _ (fun _ => trivial) ?_
    clear hK K
    try simp only [Act.put, List.setIfInBounds_toArray, List.set_cons_zero, List.set_cons_succ]
    refine wpAnyD_one (i := 12) (oi := ⟨some 6, Op.assign (Operand.tmp 33), 34, _, _, _⟩) rfl (by kernel_rfl) (by rfl) (fun K hK => ?_)
    go_simp
    refine hK _ _ (fun _ => trivial) ?_
    clear hK K
    try simp only [Act.put, List.setIfInBounds_toArray, List.set_cons_zero, List.set_cons_succ]
    refine wpAnyD_done (by kernel_rfl) ?_ _
    unfold Exit.then
    go_wp2_with fail
    go_ret
    exact ⟨_, rfl, by rw [HPE.out, ← HR.out]; exact HO4.out, HB4.out⟩
  · have hiI : ¬ (m : Int) ≤ (k : Int) := by omega
    have HPE := Lib.hid (HDR.out hmk)
    have HPL : Hid ((growF f (m - k) (l.drop k) false).length ≤ 1048576) := Lib.hid (Nat.le_trans (growF_length _ _ _ _) hfs)
    have hij : IntKind.i64.wrap ((m : Int) - (k : Int)) = ((m - k : Nat) : Int) := by
      have e : (m : Int) - (k : Int) = ((m - k : Nat) : Int) := by omega
      rw [e]
      have hb1 : ((m - k : Nat) : Int) ≤ 1048577 := by omega
      have hb2 : (0 : Int) ≤ ((m - k : Nat) : Int) := by omega
      clear e
      generalize ((m - k : Nat) : Int) = z at *
      simp [IntKind.wrap, IntKind.bits, IntKind.signed]; omega
    have HIR : Hid (∀ W, Below w.heap.size w W → Calls Tryd.prog 83 #[.int .i64 (IntKind.i64.wrap ((m : Int) - (k : Int))), .slice (some ⟨b, o + k * 32, none⟩) (n - k) (c - k), .bool false] W fun e w' => ∃ v, e = .returned v ∧ Own w' W.heap.size 29 v (growF f (m - k) (l.drop k) false) ∧ Below W.heap.size W w') := Lib.hid (fun W hW => by
      rw [hij]
      exact HI.out (m - k) (l.drop k) false (some ⟨b, o + k * 32, none⟩) (n - k) (c - k) W (by have := HF.out; have := HN.out; rw [List.length_drop]; omega) (sl_drop32 (HL.out.to hW) k (by have := HN.out; omega)) (by have := HN.out; rw [List.length_drop]; omega) (by omega) (by omega))
    clear HDL HDR hij
    go_upto_region 8 with (fail)
    refine wp_region_D (fun _ => True) (fun _ => true) (by kernel_rfl) ?_
    have hb0 : Hid (Below w.heap.size w w.drew) := Lib.hid (Below.refl _ _).drew
    generalize w.drew = W0 at *
    refine wpAnyD_take (i := 0) (oi := ⟨some 34, Op.move (Operand.tmp 0), 3, _, _, _⟩) (v := ?_) rfl (by kernel_rfl) (by kernel_rfl) (by kernel_rfl) (by kernel_rfl) (fun _ _ _ h => h) (by rfl) ?hya9 trivial ?hra9
    case hya9 => (intro wS hSw; go_simp; (try simp only [if_pos hkc, if_pos hkn, if_neg hcke]); (try with_reducible rfl))
    all_goals try (simp only [Act.put, List.setIfInBounds_toArray, List.set_cons_zero, List.set_cons_succ])
    refine wpAnyD_take (i := 1) (oi := ⟨some 35, Op.move (Operand.tmp 7), 3, _, _, _⟩) (v := ?_) rfl (by kernel_rfl) (by kernel_rfl) (by kernel_rfl) (by kernel_rfl) (fun _ _ _ h => h) (by rfl) ?hya10 trivial ?hra10
    case hya10 => (intro wS hSw; go_simp; (try simp only [if_pos hkc, if_pos hkn, if_neg hcke]); (try with_reducible rfl))
    all_goals try (simp only [Act.put, List.setIfInBounds_toArray, List.set_cons_zero, List.set_cons_succ])
    refine wpAnyD_take (i := 2) (oi := ⟨some 36, Op.binOp BinOp.sub 3 (Operand.tmp 34) (Operand.tmp 35) 3, 3, _, _, _⟩) (v := ?_) rfl (by kernel_rfl) (by kernel_rfl) (by kernel_rfl) (by kernel_rfl) (fun _ _ _ h => h) (by rfl) ?hya11 trivial ?hra11
    case hya11 => (intro wS hSw; go_simp; (try simp only [if_pos hkc, if_pos hkn, if_neg hcke]); (try with_reducible rfl))
    all_goals try (simp only [Act.put, List.setIfInBounds_toArray, List.set_cons_zero, List.set_cons_succ])
    refine wpAnyD_take (i := 3) (oi := ⟨some 37, Op.move (Operand.tmp 1), 34, _, _, _⟩) (v := ?_) rfl (by kernel_rfl) (by kernel_rfl) (by kernel_rfl) (by kernel_rfl) (fun _ _ _ h => h) (by rfl) ?hya12 trivial ?hra12
    case hya12 => (intro wS hSw; go_simp; (try simp only [if_pos hkc, if_pos hkn, if_neg hcke]); (try with_reducible rfl))
    all_goals try (simp only [Act.put, List.setIfInBounds_toArray, List.set_cons_zero, List.set_cons_succ])
    refine wpAnyD_take (i := 4) (oi := ⟨some 38, Op.move (Operand.tmp 7), 3, _, _, _⟩) (v := ?_) rfl (by kernel_rfl) (by kernel_rfl) (by kernel_rfl) (by kernel_rfl) (fun _ _ _ h => h) (by rfl) ?hya13 trivial ?hra13
    case hya13 => (intro wS hSw; go_simp; (try simp only [if_pos hkc, if_pos hkn, if_neg hcke]); (try with_reducible rfl))
    all_goals try (simp only [Act.put, List.setIfInBounds_toArray, List.set_cons_zero, List.set_cons_succ])
    refine wpAnyD_take (i := 5) (oi := ⟨some 39, Op.slice 34 (Operand.tmp 37) (some (Operand.tmp 38)) none none, 34, _, _, _⟩) (v := ?_) rfl (by kernel_rfl) (by kernel_rfl) (by kernel_rfl) (by kernel_rfl) (fun _ _ _ h => h) (by rfl) ?hya14 trivial ?hra14
    case hya14 => (intro wS hSw; go_simp; (try simp only [if_pos hkc, if_pos hkn, if_neg hcke]); (try with_reducible rfl))
    all_goals try (simp only [Act.put, List.setIfInBounds_toArray, List.set_cons_zero, List.set_cons_succ])
    refine wpAnyD_take (i := 7) (oi := ⟨some 41, Op.move (Operand.tmp 1), 34, _, _, _⟩) (v := ?_) rfl (by kernel_rfl) (by kernel_rfl) (by kernel_rfl) (by kernel_rfl) (fun _ _ _ h => h) (by rfl) ?hya15 trivial ?hra15
    case hya15 => (intro wS hSw; go_simp; (try simp only [if_pos hkc, if_pos hkn, if_neg hcke]); (try with_reducible rfl))
    all_goals try (simp only [Act.put, List.setIfInBounds_toArray, List.set_cons_zero, List.set_cons_succ])
    refine wpAnyD_take (i := 8) (oi := ⟨some 42, Op.move (Operand.tmp 7), 3, _, _, _⟩) (v := ?_) rfl (by kernel_rfl) (by kernel_rfl) (by kernel_rfl) (by kernel_rfl) (fun _ _ _ h => h) (by rfl) ?hya16 trivial ?hra16
    case hya16 => (intro wS hSw; go_simp; (try simp only [if_pos hkc, if_pos hkn, if_neg hcke]); (try with_reducible rfl))
    all_goals try (simp only [Act.put, List.setIfInBounds_toArray, List.set_cons_zero, List.set_cons_succ])
    refine wpAnyD_take (i := 9) (oi := ⟨some 43, Op.slice 34 (Operand.tmp 41) none (some (Operand.tmp 42)) none, 34, _, _, _⟩) (v := ?_) rfl (by kernel_rfl) (by kernel_rfl) (by kernel_rfl) (by kernel_rfl) (fun _ _ _ h => h) (by rfl) ?hya17 trivial ?hra17
    case hya17 => (intro wS hSw; go_simp; (try simp only [if_pos hkc, if_pos hkn, if_neg hcke]); (try with_reducible rfl))
    all_goals try (simp only [Act.put, List.setIfInBounds_toArray, List.set_cons_zero, List.set_cons_succ])
    refine wpAnyD_one (i := 6) (oi := ⟨some 40, Op.call { callee := Callee.value (Operand.func 83), args := #[Operand.tmp 36, Operand.tmp 39, Operand.const (Value.bool false)], argTypes := #[3, 34, 4] }, 34, _, _, _⟩) rfl (by kernel_rfl) (by rfl) (fun K hK => ?_)
    go_simp
    go_at_call 83
    refine (HIR.out W0 hb0.out).mono ?_
    rintro e W1 ⟨v1, rfl, ho1, hb1⟩
    obtain ⟨A1, c1, rfl, -⟩ := ho1.form
    have HO1 := Lib.hid (ho1.re hb0.out.size)
    have HB1 := Lib.hid (hb0.out.trans (hb1.mono hb0.out.size))
    clear ho1 hb1
    go_simp
    refine hK _ _ (fun _ => trivial) ?_
    clear hK K
    try simp only [Act.put, List.setIfInBounds_toArray, List.set_cons_zero, List.set_cons_succ]
    refine wpAnyD_one (i := 10) (oi := ⟨some 44, Op.call { callee := Callee.value (Operand.func 52), args := #[Operand.tmp 43], argTypes := #[34] }, 29, _, _, _⟩) rfl (by kernel_rfl) (by rfl) (fun K hK => ?_)
    go_simp
    go_at_call 52
    refine (rroot_any (l.take k) (some ⟨b, o, none⟩) k c W1 ((HL.out.to HB1.out).take k (by have := HN.out; omega)) (by have := HN.out; rw [List.length_take]; omega) (by omega)).mono ?_
    rintro e W2 ⟨rfl, hb2⟩
    have HO2 := Lib.hid (HO1.out.below hb2)
    have HB2 := Lib.hid (HB1.out.trans (hb2.mono HB1.out.size))
    clear hb2
    obtain ⟨r, hr⟩ : ∃ r, r = root (l.take k) := ⟨_, rfl⟩
    have HR := Lib.hid hr
    have HRL : Hid (r.length = 32) := Lib.hid (by rw [hr]; exact root_length _ (fun x hx => HLen.out x (List.mem_of_mem_take hx)))
    have hrv : hashV (root (l.take k)) = .agg (r.map encB).toArray := by rw [← hr]; rfl
    rw [hrv]
    clear hr hrv
    have HSZ := Lib.hid (hash_size HRL.out)
    generalize hcs : (r.map encB).toArray = cs at *
    have HCS := Lib.hid hcs
    clear hcs
    go_simp
    refine hK _ _ (fun _ => trivial) ?_
    clear hK K
    try simp only [Act.put, List.setIfInBounds_toArray, List.set_cons_zero, List.set_cons_succ]
    refine wpAnyD_one (i := 11) (oi := ⟨some 45, Op.buildSlice 34 1 #[(0, Operand.tmp 44)], 34, _, _, _⟩) rfl (by kernel_rfl) (by rfl) (fun K hK => ?_)
    refine wp_build1 (.tmp 44) rfl cs rfl HSZ.out ?_
    have HO3 := Lib.hid (HO2.out.alloc (.cells cs 29))
    have HB3 := Lib.hid (HB2.out.alloc HB2.out.size (.cells cs 29))
    have HLT : Hid ((W2.alloc (.cells cs 29)).heap[W2.heap.size]? = some (.cells cs 29 (0, 0))) := Lib.hid (heap_alloc_new W2 _)
    refine hK _ _ (fun _ => trivial) ?_
    clear hK K
    generalize W2.heap.size = B1 at *
    generalize W2.alloc (.cells cs 29) = W3 at *
    try simp only [Act.put, List.setIfInBounds_toArray, List.set_cons_zero, List.set_cons_succ]
    refine wpAnyD_one (i := 12) (oi := ⟨some 46, Op.call { callee := Callee.builtin Builtin.append, args := #[Operand.tmp 40, Operand.tmp 45], argTypes := #[34, 34] }, 34, _, _, _⟩) rfl (by kernel_rfl) (by rfl) (fun K hK => ?_)
    refine wp_push (α := H32) _ (.tmp 40) (.tmp 45) 34 rfl w.heap.size 29 (.agg (zer32.map encB).toArray) 32 Tryd.underlying34 h_info rfl (by decide) (.slice A1 (growF f (m - k) (l.drop k) false).length c1) (growF f (m - k) (l.drop k) false) rfl HO3.out B1 cs ⟨r⟩ (0, 0) 29 rfl HLT.out ⟨by rw [← HCS.out], HRL.out⟩ (by have := HPL.out; omega) (by have := HPL.out; omega) HB3.out.size _ rfl ?_
    intro g4 p4 W4 hown4 hg4 hat4 hlt4
    have HB4 := Lib.hid (below_cat HB3.out HO3.out HB3.out.size hg4)
    have HO4 := Lib.hid hown4
    clear hown4 hg4 hat4 hlt4
    refine hK _ _ (fun _ => trivial) ?_
    clear hK K
    try simp only [Act.put, List.setIfInBounds_toArray, List.set_cons_zero, List.set_cons_succ]
    refine wpAnyD_one (i := 13) (oi := ⟨some 6, Op.assign (Operand.tmp 46), 34, _, _, _⟩) rfl (by kernel_rfl) (by rfl) (fun K hK => ?_)
    go_simp
    refine hK _ _ (fun _ => trivial) ?_
    clear hK K
    try simp only [Act.put, List.setIfInBounds_toArray, List.set_cons_zero, List.set_cons_succ]
    refine wpAnyD_done (by kernel_rfl) ?_ _
    unfold Exit.then
    go_wp2_with fail
    go_ret
    exact ⟨_, rfl, by rw [HPE.out, ← HR.out]; exact HO4.out, HB4.out⟩
set_option maxRecDepth 100000 in
set_option maxHeartbeats 4000000 in
theorem rgrow1_any (f m : Nat) (l : List H32) (whole : Bool) (A : Option Addr) (c : Nat) (w : World) (hl : Sl w (fun b => b < w.heap.size) A c l) (hn : l.length = m) (hs : m ≤ 1073741824) :
    Calls Tryd.prog 83 #[.int .i64 (m : Int), .slice A m c, .bool whole] w fun e w' => ∃ v, e = .returned v ∧ Own w' w.heap.size 29 v (growF (f + 1) m l whole) ∧ Below w.heap.size w w' := by
  have HRT := Lib.hid (rroot_any l A m c w hl hn hs)
  have HRL : Hid ((root l).length = 32) := Lib.hid (root_length _ (h32_len hl))
  have HGT : Hid (whole = true → growF (f + 1) m l whole = []) := Lib.hid (fun h => by rw [growF, if_pos hn.symm, if_pos h])
  have HGF : Hid (whole = false → growF (f + 1) m l whole = [⟨root l⟩]) := Lib.hid (fun h => by rw [growF, if_pos hn.symm, if_neg (by rw [h]; decide)])
  clear hl hn
  cases whole with
  | true =>
    go_enter Tryd.func83, Tryd.ntmps83
    go_wp2_with fail
    go_ret
    exact ⟨_, rfl, by rw [HGT.out (by trivial)]; exact Own.nil _ _ _, Below.refl _ _⟩
  | false =>
    obtain ⟨r, hr⟩ : ∃ r, r = root l := ⟨_, rfl⟩
    have HR := Lib.hid hr
    have hrv : hashV (root l) = .agg (r.map encB).toArray := by rw [← hr]; rfl
    rw [← hr] at HRL
    rw [hrv] at HRT
    have HSZ := Lib.hid (hash_size HRL.out)
    clear hr hrv
    generalize hcs : (r.map encB).toArray = cs at *
    have HCS := Lib.hid hcs
    clear hcs
    go_enter Tryd.func83, Tryd.ntmps83
    go_wp2_with fail
    refine HRT.out.mono ?_
    rintro e w2 ⟨rfl, hb2⟩
    have HB2 := Lib.hid hb2
    clear hb2
    go_wp2_with (first | (refine wpList_build1 rfl (.tmp 14) rfl cs rfl HSZ.out ?_) | fail)
    have HO : Hid (Own (w2.alloc (.cells cs 29)) w.heap.size 29 (.slice (some ⟨w2.heap.size, 0, none⟩) 1 1) [(⟨r⟩ : H32)]) := Lib.hid (by
      have hcs2 : cs.toList = r.map encB := by rw [← HCS.out]
      refine Own.lit w2 w.heap.size 29 cs [(⟨r⟩ : H32)] HB2.out.size (by simp [maxLen]) (by rw [HSZ.out]; rfl) (fun u hu => ?_) (fun i hi => ?_)
      · rw [hcs2] at hu
        obtain ⟨x, _, rfl⟩ := List.mem_map.1 hu
        rfl
      · obtain rfl : i = 0 := by simp at hi; omega
        rw [hcs2]
        have hl32 : (r.map encB).length = 32 := by rw [List.length_map]; exact HRL.out
        refine ⟨?_, HRL.out⟩
        rw [Nat.zero_mul, List.drop_zero]
        exact List.take_of_length_le (by rw [hl32]; exact Nat.le_refl _))
    go_ret
    exact ⟨_, rfl, by rw [HGF.out (by trivial), ← HR.out]; exact HO.out, HB2.out.alloc HB2.out.size _⟩
theorem rgrowF_any (f : Nat) (hfs : f ≤ 1048577) : ∀ (m : Nat) (l : List H32) (whole : Bool) (A : Option Addr) (n c : Nat) (w : World), l.length ≤ f → Sl w (fun b => b < w.heap.size) A c l → l.length = n → 1 ≤ m → m ≤ n →
      Calls Tryd.prog 83 #[.int .i64 (m : Int), .slice A n c, .bool whole] w fun e w' => ∃ v, e = .returned v ∧ Own w' w.heap.size 29 v (growF f m l whole) ∧ Below w.heap.size w w' := by
  induction f with
  | zero => intro m l whole A n c w hf hl hn h1 h2; omega
  | succ f ih =>
    intro m l whole A n c w hf hl hn h1 h2
    by_cases hm : m = n
    · subst hm
      exact rgrow1_any f m l whole A c w hl hn (by omega)
    · exact rgrow2_any f (by omega) (ih (by omega)) m l whole A n c w hf hl hn h1 (by omega)
end Go.Proofs.YthcklfelofpffaaDoor
namespace Go.Proofs.YthcklfelofpffaaDoor
open Go.RowKit
def growthP (l : List H32) (m : Int) : List H32 := if m < 0 ∨ (l.length : Int) < m ∨ m = 0 then [] else growF l.length m.toNat l true
def growthE (l : List H32) (m : Int) : Int := if m < 0 ∨ (l.length : Int) < m then 5 else 0
set_option maxRecDepth 100000 in
set_option maxHeartbeats 4000000 in
theorem rgrowth_any (m : Int) (l : List H32) (A : Option Addr) (n c : Nat) (w : World) (hl : Sl w (fun b => b < w.heap.size) A c l) (hn : l.length = n) (hs : n ≤ 1048576) :
    Calls Tryd.prog 57 #[.slice A n c, .int .i64 m] w fun e w' => ∃ v, e = .returned (.tuple #[v, .int .i64 (growthE l m)]) ∧ Own w' w.heap.size 29 v (growthP l m) ∧ Below w.heap.size w w' := by
  by_cases h0 : m < 0
  · have HP : Hid (growthP l m = [] ∧ growthE l m = 5) := Lib.hid ⟨if_pos (.inl h0), if_pos (.inl h0)⟩
    clear hl hn
    have hmI : m ≤ (n : Int) := by omega
    have hd : decide (m < 0) = true := decide_eq_true h0
    go_enter Tryd.func57, Tryd.ntmps57
    go_wp2_with fail
    go_ret2
    exact ⟨_, by rw [HP.out.2]; rfl, by rw [HP.out.1]; exact Own.nil _ _ _, Below.refl _ _⟩
  · by_cases h1 : (n : Int) < m
    · have HP : Hid (growthP l m = [] ∧ growthE l m = 5) := Lib.hid ⟨if_pos (.inr (.inl (by rw [hn]; exact h1))), if_pos (.inr (by rw [hn]; exact h1))⟩
      clear hl hn
      go_enter Tryd.func57, Tryd.ntmps57
      go_wp2_with fail
      go_ret2
      exact ⟨_, by rw [HP.out.2]; rfl, by rw [HP.out.1]; exact Own.nil _ _ _, Below.refl _ _⟩
    · by_cases h2 : m = 0
      · subst h2
        have HP : Hid (growthP l 0 = [] ∧ growthE l 0 = 0) := Lib.hid ⟨if_pos (.inr (.inr rfl)), if_neg (by omega)⟩
        clear hl hn
        go_enter Tryd.func57, Tryd.ntmps57
        go_wp2_with fail
        go_ret2
        exact ⟨_, by rw [HP.out.2]; rfl, by rw [HP.out.1]; exact Own.nil _ _ _, Below.refl _ _⟩
      · obtain ⟨k, rfl⟩ : ∃ k : Nat, m = (k : Int) := ⟨m.toNat, by omega⟩
        have HP : Hid (growthP l k = growF l.length k l true ∧ growthE l k = 0) := Lib.hid ⟨if_neg (by omega), if_neg (by omega)⟩
        have HG := Lib.hid (rgrowF_any l.length (by omega) k l true A n c w (Nat.le_refl _) hl hn (by omega) (by omega))
        clear hl hn
        go_enter Tryd.func57, Tryd.ntmps57
        go_wp2_with fail
        refine HG.out.mono ?_
        rintro e w2 ⟨v2, rfl, ho2, hb2⟩
        obtain ⟨A2, c2, rfl, -⟩ := ho2.form
        have HO := Lib.hid ho2
        have HB := Lib.hid hb2
        clear ho2 hb2
        go_wp2_with fail
        go_ret2
        exact ⟨_, by rw [HP.out.2]; rfl, by rw [HP.out.1]; exact HO.out, HB.out⟩
end Go.Proofs.YthcklfelofpffaaDoor
namespace Go.Proofs.YthcklfelofpffaaDoor
open Go.RowKit
/-- Operations that never enter a function. -/
def plainOp : Op → Bool
  | .move _ | .assign _ | .pick .. | .alloc _ | .box .. | .build .. | .buildSlice .. | .load .. | .binOp .. | .unOp .. | .convert .. | .makeInterface .. | .makeFunc .. | .makeSlice .. | .slice .. | .fieldAddr .. | .field .. | .indexAddr .. | .index .. | .extract .. => true
  | .call c => match c.callee with
    | .builtin .append | .builtin .cap | .builtin .copy | .builtin .len | .builtin .max | .builtin .min => true
    | _ => false
  | _ => false
theorem val_run {P : Program} {w w' : World} {s : Sem Value} {n : Next} (h : (do let x ← s; pure (Next.value x) : Sem Next).run P w = .ok n w') : ∃ u, n = .value u := by
  rw [Sem.run_bind] at h
  cases hs : s.run P w with
  | ok v w1 => rw [hs] at h; simp only [Result.andThen_ok, Sem.run_pure] at h; cases h; exact ⟨_, rfl⟩
  | halt x w1 => rw [hs] at h; simp only [Result.andThen] at h; cases h
theorem plain_run {P : Program} {ρ : Operand → Value} {o : Oper} (hp : plainOp o.op = true) {w w' : World} {n : Next} (h : (execOp ρ o).run P w = .ok n w') : ∃ u, n = .value u := by
  obtain ⟨dst, op, ty, pos, after, guard⟩ := o
  cases op <;> first | (exfalso; revert hp; simp [plainOp]; done) | skip
  case call c =>
    obtain ⟨callee, args, ats⟩ := c
    cases callee with
    | builtin b =>
      simp only at hp
      simp only [execOp, resolve, Sem.run_bind, Sem.run_pure, Result.andThen_ok, invoke] at h
      cases b <;> first | exact val_run h | exact absurd hp (show ¬ (false = true) by decide)
    | value f => exact absurd hp (show ¬ (false = true) by decide)
    | invoke r m => exact absurd hp (show ¬ (false = true) by decide)
  case pick c a b =>
    simp only [execOp] at h
    rw [Sem.run_bind] at h
    cases hs : (asBool (ρ c)).run P w with
    | ok v w1 => rw [hs] at h; simp only [Result.andThen_ok] at h; cases v <;> (simp only [Sem.run_pure] at h; cases h; exact ⟨_, rfl⟩)
    | halt x w1 => rw [hs] at h; simp only [Result.andThen] at h; cases h
  all_goals first
    | exact val_run h
    | (simp only [execOp, Sem.run_pure] at h; cases h; exact ⟨_, rfl⟩)

/-- A property that all later operations keep. -/
structure SPR (Rl : World → World → Prop) where
  p : Value → World → Prop
  st : ∀ v w w', p v w → Rl w w' → p v w'
/-- What changes nothing old. -/
abbrev Newer : World → World → Prop := fun w w' => Below w.heap.size w w'
abbrev SP := SPR Newer
section
variable {P : Program} {ops : Array Oper} {Q : Exit → Act → World → Prop} {md : Region.Mode} {C : World → Prop} {hs : List Nat} {Rl : World → World → Prop} {Φ : Nat → SPR Rl} {m : Nat}
/-- What is known of what each operation has yielded. -/
def updG (G : Nat → World → Prop) (i : Nat) (φ : World → Prop) : Nat → World → Prop := fun k => if k = i then φ else G k
theorem updG_same (G : Nat → World → Prop) (i : Nat) (φ : World → Prop) : updG G i φ i = φ := if_pos rfl
theorem updG_ne {G : Nat → World → Prop} {i k : Nat} {φ : World → Prop} (h : k ≠ i) : updG G i φ k = G k := if_neg h
theorem updG_comm {G : Nat → World → Prop} {i j : Nat} {φ ψ : World → Prop} (h : i ≠ j) : updG (updG G i φ) j ψ = updG (updG G j ψ) i φ := by
  funext k
  unfold updG
  by_cases h1 : k = j
  · subst h1; simp [Ne.symm h]
  · simp [h1]
/-- One operation, from one world: it yields a value with property R. -/
def RelyA (P : Program) (o : Oper) (a : Act) (w : World) (R : Value → World → Prop) : Prop := ∀ Q : Exit → Act → World → Prop, o.wp P a w (fun a' w' => ∃ v, a' = a.put o.dst v ∧ R v w') Q
theorem put_df (a : Act) (x : Option Tmp) (v : Value) : (a.put x v).defers = a.defers := by cases x <;> rfl
theorem put_inj {a : Act} {x y : Option Tmp} {v0 u v : Value} (hxy : ∀ d, x = some d → y ≠ some d) (h : (a.put x v0).put y u = (a.put x v0).put y v) : a.put y u = a.put y v := by
  cases y with
  | none => rfl
  | some e =>
    cases x with
    | none => exact h
    | some d =>
      have hne : d ≠ e := fun he => hxy d rfl (he ▸ rfl)
      obtain ⟨tmps, df⟩ := a
      simp only [Act.put, Act.mk.injEq] at h ⊢
      refine ⟨?_, h.2⟩
      apply Array.ext_getElem?
      intro i
      have h1 := congrArg (fun t : Array Value => t[i]?) h.1
      by_cases hi : e = i
      · subst hi
        simpa [Array.getElem?_setIfInBounds] using h1
      · rw [Array.getElem?_setIfInBounds_ne hi, Array.getElem?_setIfInBounds_ne hi]
theorem RelyA.mono {o : Oper} {a : Act} {w : World} {R R' : Value → World → Prop} (h : RelyA P o a w R) (hr : ∀ v w', R v w' → R' v w') : RelyA P o a w R' :=
  fun Q => Oper.wp_mono (fun _ _ ⟨v, e, r⟩ => ⟨v, e, hr _ _ r⟩) (h Q)
/-- What is not looked at makes no difference. -/
theorem RelyA.unput {o : Oper} {a : Act} {x : Option Tmp} {v0 : Value} {w : World} {R : Value → World → Prop} (hs : ∀ cs b, o.op ≠ .select cs b) (h1 : ∀ d, x = some d → d ∉ o.looksAt ops) (h2 : ∀ d, x = some d → o.dst ≠ some d) (h : RelyA P o (a.put x v0) w R) : RelyA P o a w R := by
  intro Q
  have h := h (fun e a' w' => Q e a w')
  unfold Oper.wp at *
  rw [execOp_put (ops := ops) o hs a x v0 h1] at h
  generalize (execOp a.eval o).run P w = r at *
  cases r with
  | ok n w' =>
    cases n <;> simp only [Oper.upon] at h ⊢
    case value u => obtain ⟨v, e, r⟩ := h; exact ⟨v, put_inj h2 e, r⟩
    case skip => obtain ⟨v, e, r⟩ := h; exact ⟨v, put_inj h2 e, r⟩
    case defer d =>
      obtain ⟨v, e, r⟩ := h
      have := congrArg (fun t : Act => t.defers.length) e
      simp only [put_df, List.length_cons] at this
      omega
    case enter f args =>
      refine Calls.mono h fun e w'' he => ?_
      cases e with
      | returned u => obtain ⟨v, e, r⟩ := he; exact ⟨v, put_inj h2 e, r⟩
      | panicked c => exact he
      | outgrown => obtain ⟨a', w', q⟩ := he; exact ⟨a, w', q⟩
    case row row args => exact Rows.mono h fun u w'' he => by obtain ⟨v, e, r⟩ := he; exact ⟨v, put_inj h2 e, r⟩
  | halt x w' => cases x <;> simp only [Oper.upon] at h ⊢; exact h

/-- One operation, from every world of the class: a value of its own. -/
def StillA (P : Program) (o : Oper) (a : Act) (C : World → Prop) (v : Value) : Prop := ∀ w, C w → (execOp a.eval o).run P w = .ok (.value v) w
def FixA (P : Program) (ops : Array Oper) (o : Oper) (a : Act) (C : World → Prop) (v : Value) : Prop :=
  (Region.wanted o (yielded ops a.tmps) = true ∧ StillA P o a C v) ∨ (Region.wanted o (yielded ops a.tmps) = false ∧ v = undef)
def busy (ops : Array Oper) (hs : List Nat) (j : Nat) (o : Oper) (a : Act) : Bool := hs.contains j && Region.wanted o (yielded ops a.tmps)
theorem FixA.uniq {o : Oper} {a : Act} {u v : Value} {w : World} (hw : C w) (h : FixA P ops o a C u) (k : FixA P ops o a C v) : u = v := by
  rcases h with ⟨h1, h2⟩ | ⟨h1, h2⟩ <;> rcases k with ⟨k1, k2⟩ | ⟨k1, k2⟩
  · have := (h2 w hw).symm.trans (k2 w hw)
    cases this; rfl
  · rw [h1] at k1; cases k1
  · rw [h1] at k1; cases k1
  · rw [h2, k2]
theorem FixA.same {o : Oper} {a a' : Act} {v : Value} (he : execOp a'.eval o = execOp a.eval o) (hw : Region.wanted o (yielded ops a'.tmps) = Region.wanted o (yielded ops a.tmps)) (h : FixA P ops o a C v) : FixA P ops o a' C v := by
  unfold FixA StillA at *; rw [he, hw]; exact h
/-- What is asked of a busy operation. -/
def Safe (P : Program) (md : Region.Mode) (ops : Array Oper) (C : World → Prop) {Rl : World → World → Prop} (Φ : Nat → SPR Rl) (j : Nat) (o : Oper) (a : Act) (G : Nat → World → Prop) : Prop :=
  ∀ w, C w → (∀ k, waitsB md ops k ops.size j = true → G k w) → RelyA P o a w (fun v w' => Rl w w' ∧ (Φ j).p v w')
def Joint (C : World → Prop) (G : Nat → World → Prop) (φ : World → Prop) : Prop := ∃ w, C w ∧ (∀ k, G k w) ∧ φ w
/-- Operation j comes up. -/
def rOp (P : Program) (md : Region.Mode) (ops : Array Oper) (C : World → Prop) (hs : List Nat) {Rl : World → World → Prop} (Φ : Nat → SPR Rl) (j : Nat) (K : Act → (Nat → World → Prop) → Prop) (a : Act) (G : Nat → World → Prop) : Prop :=
  ∀ o, ops[j]? = some o →
    (busy ops hs j o a = false → ∃ v, FixA P ops o a C v ∧ K (a.put o.dst v) G) ∧
    (busy ops hs j o a = true → Safe P md ops C Φ j o a G ∧ ∀ v, Joint C G ((Φ j).p v) → K (a.put o.dst v) (updG G j ((Φ j).p v)))
/-- Whatever order is picked from here on, up to the tail. -/
def wpAnyR (P : Program) (md : Region.Mode) (ops : Array Oper) (Q : Exit → Act → World → Prop) (C : World → Prop) (hs : List Nat) {Rl : World → World → Prop} (Φ : Nat → SPR Rl) (m : Nat) : Nat → Array Bool → Act → (Nat → World → Prop) → Prop
  | 0, listed, a, G => ∀ w, C w → (∀ k, G k w) → wpAny P md ops Q 0 listed a w
  | fuel + 1, listed, a, G =>
    ((∀ k, k < m → listed.getD k false = true) → ∀ w, C w → (∀ k, G k w) → wpAny P md ops Q (fuel + 1) listed a w) ∧
    (¬ (∀ k, k < m → listed.getD k false = true) → (Region.ready md ops listed = [] → ∀ w, C w → (∀ k, G k w) → Q .normal a w) ∧
      ∀ j ∈ Region.ready md ops listed, rOp P md ops C hs Φ j (wpAnyR P md ops Q C hs Φ m fuel (listed.setIfInBounds j true)) a G)
theorem wpOp_of_rOp (hcl : ∀ w w', C w → Rl w w' → C w') {G : Nat → World → Prop} (hG : ∀ k w w', G k w → Rl w w' → G k w') {j : Nat} {K : Act → (Nat → World → Prop) → Prop} {K' : Act → World → Prop} {a : Act} {w : World}
    (hj : ∃ o, ops[j]? = some o) (hC : C w) (hg : ∀ k, G k w) (h : rOp P md ops C hs Φ j K a G)
    (hK : ∀ a' G' w', C w' → (∀ k w w', G' k w → Rl w w' → G' k w') → (∀ k, G' k w') → K a' G' → K' a' w') : wpOp P ops Q j K' a w := by
  obtain ⟨o, ho⟩ := hj
  obtain ⟨h1, h2⟩ := h o ho
  unfold wpOp
  rw [ho]
  dsimp only
  cases hb : busy ops hs j o a with
  | false =>
    obtain ⟨v, hf, hk⟩ := h1 hb
    rcases hf with ⟨hw, hv⟩ | ⟨hw, rfl⟩
    · rw [if_pos hw]
      refine .inl ?_
      unfold Oper.wp
      rw [hv w hC]
      exact hK _ _ _ hC hG hg hk
    · rw [if_neg (by rw [hw]; simp)]
      exact hK _ _ _ hC hG hg hk
  | true =>
    obtain ⟨hsafe, hk⟩ := h2 hb
    rw [if_pos (by unfold busy at hb; simp only [Bool.and_eq_true] at hb; exact hb.2)]
    refine .inl (Oper.wp_mono ?_ (hsafe w hC (fun k _ => hg k) Q))
    rintro a' w' ⟨v, rfl, hbl, hp⟩
    have hC' := hcl w w' hC hbl
    have hG' : ∀ k, G k w' := fun k => hG k w w' (hg k) hbl
    refine hK _ _ _ hC' ?_ ?_ (hk v ⟨w', hC', hG', hp⟩)
    · intro k x x' hx hxb
      unfold updG at *
      split
      · rename_i e; rw [if_pos e] at hx; exact (Φ j).st _ _ _ hx hxb
      · rename_i e; rw [if_neg e] at hx; exact hG k x x' hx hxb
    · intro k
      unfold updG
      split
      · exact hp
      · exact hG' k
theorem wpAny_of_R (hcl : ∀ w w', C w → Rl w w' → C w') : ∀ (fuel : Nat) (listed : Array Bool) (a : Act) (G : Nat → World → Prop) (w : World), (∀ k w w', G k w → Rl w w' → G k w') →
    C w → (∀ k, G k w) → wpAnyR P md ops Q C hs Φ m fuel listed a G → wpAny P md ops Q fuel listed a w
  | 0, _, _, _, w, _, hC, hg, h => h w hC hg
  | fuel + 1, listed, a, G, w, hG, hC, hg, h => by
    by_cases hd : ∀ k, k < m → listed.getD k false = true
    · exact h.1 hd w hC hg
    · obtain ⟨h1, h2⟩ := h.2 hd
      refine ⟨fun h0 => h1 h0 w hC hg, fun j hj => ?_⟩
      obtain ⟨_, oj, hoj, _⟩ := mem_ready.1 hj
      exact wpOp_of_rOp hcl hG ⟨oj, hoj⟩ hC hg (h2 j hj) (fun a' G' w' hC' hG' hg' hk => wpAny_of_R hcl fuel _ a' G' w' hG' hC' hg' hk)

theorem RelyA.put {o : Oper} {a : Act} {x : Option Tmp} {v0 : Value} {w : World} {R : Value → World → Prop} (hs : ∀ cs b, o.op ≠ .select cs b) (h1 : ∀ d, x = some d → d ∉ o.looksAt ops) (h2 : ∀ d, x = some d → o.dst ≠ some d) (h : RelyA P o a w R) : RelyA P o (a.put x v0) w R := by
  intro Q
  have hc : ∀ u v, a.put o.dst u = a.put o.dst v → (a.put x v0).put o.dst u = (a.put x v0).put o.dst v := fun u v e => by
    rw [Act.put_comm a v0 u h2, Act.put_comm a v0 v h2, e]
  have h' := h (fun e _ w' => Q e (a.put x v0) w')
  unfold Oper.wp at *
  rw [execOp_put (ops := ops) o hs a x v0 h1]
  clear h
  generalize (execOp a.eval o).run P w = r at *
  cases r with
  | ok n w' =>
    cases n <;> simp only [Oper.upon] at h' ⊢
    case value u => obtain ⟨v, e, r⟩ := h'; exact ⟨v, hc _ _ e, r⟩
    case skip => obtain ⟨v, e, r⟩ := h'; exact ⟨v, hc _ _ e, r⟩
    case defer d =>
      obtain ⟨v, e, r⟩ := h'
      have := congrArg (fun t : Act => t.defers.length) e
      simp only [put_df, List.length_cons] at this
      omega
    case enter f args =>
      refine Calls.mono h' fun e w'' he => ?_
      cases e with
      | returned u => obtain ⟨v, e, r⟩ := he; exact ⟨v, hc _ _ e, r⟩
      | panicked c => exact he
      | outgrown => obtain ⟨a', w', q⟩ := he; exact ⟨a.put x v0, w', q⟩
    case row row args => exact Rows.mono h' fun u w'' he => by obtain ⟨v, e, r⟩ := he; exact ⟨v, hc _ _ e, r⟩
  | halt x w' => cases x <;> simp only [Oper.upon] at h' ⊢; exact h'
theorem RelyA.ex {o : Oper} {a : Act} {w : World} {R : Value → World → Prop} (h : RelyA P o a w R) : ∃ v w', R v w' := by
  have h := h (fun _ _ _ => False)
  unfold Oper.wp at h
  generalize (execOp a.eval o).run P w = r at *
  cases r with
  | ok n w' =>
    cases n <;> simp only [Oper.upon] at h
    case value u => obtain ⟨v, e, r⟩ := h; exact ⟨v, w', r⟩
    case skip => obtain ⟨v, e, r⟩ := h; exact ⟨v, w', r⟩
    case defer d => obtain ⟨v, e, r⟩ := h; exact ⟨v, w', r⟩
    case enter f args =>
      obtain ⟨e, w2, _, he, _⟩ := h []
      cases e with
      | returned u => obtain ⟨v, e, r⟩ := he; exact ⟨v, w2, r⟩
      | panicked c => exact he.elim
      | outgrown => obtain ⟨_, _, q⟩ := he; exact q.elim
    case row row args => obtain ⟨v, w2, ⟨v', e, r⟩, _⟩ := h (Frame.enter P 0 #[] .normal) []; exact ⟨v', w2, r⟩
  | halt x w' => cases x <;> simp only [Oper.upon] at h
theorem wpAnyR_first (hcl : ∀ w w', C w → Rl w w' → C w') {i : Nat} {oi : Oper} (hi : ops[i]? = some oi) (him : i < m) (hsel : ∀ (j : Nat) (o : Oper) cs b, ops[j]? = some o → o.op ≠ .select cs b)
    (htail : ∀ j oj, ops[j]? = some oj → m ≤ j → ∃ f, waitsB md ops i f j = true) :
    ∀ (fuel : Nat) (listed : Array Bool) (a : Act) (G : Nat → World → Prop), Closed md ops listed → (∀ k, listed.getD k false = false → ∀ w, G k w) → (∀ k w w', G k w → Rl w w' → G k w') → (∃ w, C w ∧ ∀ k, G k w) →
      (∀ j oj, ops[j]? = some oj → j ≠ i → listed.getD j true = false → (∀ e ∈ oj.after, Region.binds md e = true → e.on ≠ i) → oi.apart ops oj = true) →
      i ∈ Region.ready md ops listed → rOp P md ops C hs Φ i (wpAnyR P md ops Q C hs Φ m fuel (listed.setIfInBounds i true)) a G →
      wpAnyR P md ops Q C hs Φ m (fuel + 1) listed a G := by
  have unl : ∀ (listed : Array Bool) (j : Nat), j ∈ Region.ready md ops listed → listed.getD j false = false ∧ j < listed.size := fun listed j hj => by
    have := (mem_ready.1 hj).1
    rcases Nat.lt_or_ge j listed.size with h' | h'
    · refine ⟨?_, h'⟩
      simp [h'] at this ⊢; exact this
    · simp [Array.getElem?_eq_none h'] at this
  intro fuel
  induction fuel with
  | zero =>
    intro listed a G hC hT hG hne hfree hr H
    refine ⟨fun h => absurd (h i him) (by rw [(unl _ _ hr).1]; simp), fun _ => ⟨fun h0 => (by rw [h0] at hr; cases hr), fun j hj => ?_⟩⟩
    by_cases hji : j = i
    · subst hji; exact H
    · exfalso
      have hj' := ready_mono hj hji
      obtain ⟨w0, hC0, hg0⟩ := hne
      cases hb : busy ops hs i oi a with
      | false =>
        obtain ⟨v, _, hk⟩ := (H oi hi).1 hb
        rw [(hk w0 hC0 hg0).1] at hj'; cases hj'
      | true =>
        obtain ⟨hsf, hk⟩ := (H oi hi).2 hb
        obtain ⟨v, w1, hb1, hp⟩ := (hsf w0 hC0 (fun k _ => hg0 k)).ex
        have hC1 := hcl _ _ hC0 hb1
        have hg1 : ∀ k, G k w1 := fun k => hG k _ _ (hg0 k) hb1
        have := hk v ⟨w1, hC1, hg1, hp⟩ w1 hC1 (fun k => by unfold updG; split; exact hp; exact hg1 k)
        rw [this.1] at hj'; cases hj'
  | succ fuel ih =>
    intro listed a G hC hT hG hne hfree hr H
    refine ⟨fun h => absurd (h i him) (by rw [(unl _ _ hr).1]; simp), fun _ => ⟨fun h0 => (by rw [h0] at hr; cases hr), fun j hj => ?_⟩⟩
    by_cases hji : j = i
    · subst hji; exact H
    obtain ⟨hjun, oj, hoj, hall⟩ := mem_ready.1 hj
    have hiu := (unl _ _ hr).1
    have hju := (unl _ _ hj).1
    have hnot : ∀ e ∈ oj.after, Region.binds md e = true → e.on ≠ i := fun e he hb heq => by
      have h1 := hall e he hb
      rw [heq, hiu] at h1; cases h1
    have hwij : ∀ f k, waitsB md ops k f j = true → k ≠ i := fun f k hk he => by
      subst he
      have := waits_listed hC f j hk (ready_on hj)
      rw [hiu] at this; cases this
    have hwji : ∀ f k, waitsB md ops k f i = true → k ≠ j := fun f k hk he => by
      subst he
      have := waits_listed hC f i hk (ready_on hr)
      rw [hju] at this; cases this
    have hjm : j < m := by
      rcases Nat.lt_or_ge j m with h | h
      · exact h
      · obtain ⟨f, hf⟩ := htail j oj hoj h
        exact absurd rfl (hwij f i hf)
    obtain ⟨h1, h2, h3⟩ := Oper.apart_spec (hfree j oj hoj hji hjun hnot)
    have hsj := fun cs b => hsel j oj cs b hoj
    have hsi := fun cs b => hsel i oi cs b hi
    have h2' : ∀ d, oj.dst = some d → oi.dst ≠ some d := fun d hd he => h2 d he hd
    have bj : ∀ v, busy ops hs j oj (a.put oi.dst v) = busy ops hs j oj a := fun v => by unfold busy; rw [wanted_put oj a oi.dst v h1]
    have bi : ∀ u, busy ops hs i oi (a.put oj.dst u) = busy ops hs i oi a := fun u => by unfold busy; rw [wanted_put oi a oj.dst u h3]
    have fj : ∀ v u, FixA P ops oj (a.put oi.dst v) C u → FixA P ops oj a C u := fun v u h => h.same (execOp_put oj hsj a oi.dst v h1).symm (wanted_put oj a oi.dst v h1).symm
    have fi : ∀ u v, FixA P ops oi a C v → FixA P ops oi (a.put oj.dst u) C v := fun u v h => h.same (execOp_put oi hsi a oj.dst u h3) (wanted_put oi a oj.dst u h3)
    have hlij : (listed.setIfInBounds i true).setIfInBounds j true = (listed.setIfInBounds j true).setIfInBounds i true := Array.setIfInBounds_comm _ _ (Ne.symm hji)
    have hnext : ∀ a' G', wpAnyR P md ops Q C hs Φ m (fuel + 1) (listed.setIfInBounds i true) a' G' → rOp P md ops C hs Φ j (wpAnyR P md ops Q C hs Φ m fuel ((listed.setIfInBounds j true).setIfInBounds i true)) a' G' := fun a' G' h => by
      rw [← hlij]
      refine (h.2 (fun hd => ?_)).2 j (ready_mono hj hji)
      have := hd j hjm
      rw [Go.getD_set_ne false (Ne.symm hji), hju] at this; cases this
    have hfree' : ∀ k ok, ops[k]? = some ok → k ≠ i → (listed.setIfInBounds j true).getD k true = false →
        (∀ e ∈ ok.after, Region.binds md e = true → e.on ≠ i) → oi.apart ops ok = true := fun k ok hk hki hun hno => by
      refine hfree k ok hk hki ?_ hno
      by_cases hjk : j = k
      · subst hjk; exact hjun
      · rw [Go.getD_set_ne true hjk] at hun; exact hun
    have hT1 : ∀ k, (listed.setIfInBounds j true).getD k false = false → k ≠ j ∧ listed.getD k false = false := fun k hk => by
      by_cases hjk : j = k
      · subst hjk; simp [(unl _ _ hj).2] at hk
      · rw [Go.getD_set_ne false hjk] at hk; exact ⟨Ne.symm hjk, hk⟩
    have IH := fun a' G' => ih (listed.setIfInBounds j true) a' G' (hC.set hj)
    have hrd := ready_mono hr (Ne.symm hji)
    have hTG : ∀ k, (listed.setIfInBounds j true).getD k false = false → ∀ w, G k w := fun k hk => hT k (hT1 k hk).2
    have hTU : ∀ φ : World → Prop, ∀ k, (listed.setIfInBounds j true).getD k false = false → ∀ w, updG G j φ k w := fun φ k hk w => by
      rw [updG_ne (hT1 k hk).1]; exact hT k (hT1 k hk).2 w
    have hGU : ∀ u, ∀ k w w', updG G j ((Φ j).p u) k w → Rl w w' → updG G j ((Φ j).p u) k w' := fun u k x x' hx hxb => by
      unfold updG at *
      split
      · rename_i e; rw [if_pos e] at hx; exact (Φ j).st _ _ _ hx hxb
      · rename_i e; rw [if_neg e] at hx; exact hG k x x' hx hxb
    have hJne : ∀ u, Joint C G ((Φ j).p u) → ∃ w, C w ∧ ∀ k, updG G j ((Φ j).p u) k w := fun u ⟨w, c, g, p⟩ => ⟨w, c, fun k => by unfold updG; split; exact p; exact g k⟩
    obtain ⟨w0, hC0, hg0⟩ := hne
    intro o ho
    obtain rfl : oj = o := Option.some.inj (hoj.symm.trans ho)
    cases hbi : busy ops hs i oi a with
    | false =>
      obtain ⟨v, hfi, hK⟩ := (H oi hi).1 hbi
      have hj' := hnext _ _ hK oj hoj
      rw [bj] at hj'
      refine ⟨fun hbj => ?_, fun hbj => ?_⟩
      · obtain ⟨u, hfj, hKj⟩ := hj'.1 hbj
        refine ⟨u, fj _ _ hfj, IH _ _ hTG hG ⟨w0, hC0, hg0⟩ hfree' hrd ?_⟩
        intro o' ho'
        obtain rfl : oi = o' := Option.some.inj (hi.symm.trans ho')
        refine ⟨fun _ => ⟨v, fi _ _ hfi, ?_⟩, fun hb => ?_⟩
        · rw [← Act.put_comm a v u h2]; exact hKj
        · rw [bi, hbi] at hb; cases hb
      · obtain ⟨hsafe, hKj⟩ := hj'.2 hbj
        refine ⟨fun w hw hf => (hsafe w hw hf).unput hsj h1 h2, fun u hu => IH _ _ (hTU _) (hGU u) (hJne u hu) hfree' hrd ?_⟩
        intro o' ho'
        obtain rfl : oi = o' := Option.some.inj (hi.symm.trans ho')
        refine ⟨fun _ => ⟨v, fi _ _ hfi, ?_⟩, fun hb => ?_⟩
        · rw [← Act.put_comm a v u h2]; exact hKj u hu
        · rw [bi, hbi] at hb; cases hb
    | true =>
      obtain ⟨hsf, hK⟩ := (H oi hi).2 hbi
      obtain ⟨v0, w1, hb1, hp1⟩ := (hsf w0 hC0 (fun k _ => hg0 k)).ex
      have hj0 := hnext _ _ (hK v0 ⟨w1, hcl _ _ hC0 hb1, fun k => hG k _ _ (hg0 k) hb1, hp1⟩) oj hoj
      rw [bj] at hj0
      refine ⟨fun hbj => ?_, fun hbj => ?_⟩
      · obtain ⟨u, hfj, _⟩ := hj0.1 hbj
        refine ⟨u, fj _ _ hfj, IH _ _ hTG hG ⟨w0, hC0, hg0⟩ hfree' hrd ?_⟩
        intro o' ho'
        obtain rfl : oi = o' := Option.some.inj (hi.symm.trans ho')
        refine ⟨fun hb => ?_, fun _ => ⟨fun w hw hf => (hsf w hw hf).put hsi h3 h2', fun v hv => ?_⟩⟩
        · rw [bi, hbi] at hb; cases hb
        · have hjv := hnext _ _ (hK v hv) oj hoj
          rw [bj] at hjv
          obtain ⟨u', hfj', hk'⟩ := hjv.1 hbj
          obtain rfl := (fj _ _ hfj').uniq hC0 (fj _ _ hfj)
          rw [← Act.put_comm a v u' h2]; exact hk'
      · obtain ⟨hsj0, _⟩ := hj0.2 hbj
        refine ⟨fun w hw hf => (hsj0 w hw (fun k hk => by rw [updG_ne (hwij _ k hk)]; exact hf k hk)).unput hsj h1 h2, fun u hu => IH _ _ (hTU _) (hGU u) (hJne u hu) hfree' hrd ?_⟩
        intro o' ho'
        obtain rfl : oi = o' := Option.some.inj (hi.symm.trans ho')
        refine ⟨fun hb => ?_, fun _ => ⟨fun w hw hf => (hsf w hw (fun k hk => by have := hf k hk; rwa [updG_ne (hwji _ k hk)] at this)).put hsi h3 h2', fun v hv => ?_⟩⟩
        · rw [bi, hbi] at hb; cases hb
        · obtain ⟨w3, hC3, hg3, hp3⟩ := hv
          have hg4 : ∀ k, G k w3 := fun k => by
            by_cases hkj : k = j
            · subst hkj; exact hT k hju w3
            · have := hg3 k; rwa [updG_ne hkj] at this
          have hjv := hnext _ _ (hK v ⟨w3, hC3, hg4, hp3⟩) oj hoj
          rw [bj] at hjv
          have := (hjv.2 hbj).2 u ⟨w3, hC3, fun k => by unfold updG; split; exact hp3; exact hg4 k, by have := hg3 j; rwa [updG_same] at this⟩
          rw [← Act.put_comm a v u h2, updG_comm hji]; exact this

/-- What number k is: 2: the tail begins; 1: busy; 0: plain. -/
def kind (hs : List Nat) (m k : Nat) : Nat := if Nat.beq k m then 2 else if hs.contains k then 1 else 0
def wpR (P : Program) (md : Region.Mode) (ops : Array Oper) (C : World → Prop) (hs : List Nat) {Rl : World → World → Prop} (Φ : Nat → SPR Rl) (m : Nat) (fin : Act → (Nat → World → Prop) → Prop) : List Oper → Nat → Act → (Nat → World → Prop) → Prop
  | [], _, a, G => fin a G
  | o :: l, k, a, G =>
    if kind hs m k = 2 then fin a G
    else if Region.wanted o (yielded ops a.tmps) = true then
      if kind hs m k = 1 then Safe P md ops C Φ k o a G ∧ ∀ v, Joint C G ((Φ k).p v) → wpR P md ops C hs Φ m fin l (k + 1) (a.put o.dst v) (updG G k ((Φ k).p v))
      else o.quiet P a C (fun a' => wpR P md ops C hs Φ m fin l (k + 1) a' G)
    else wpR P md ops C hs Φ m fin l (k + 1) (a.put o.dst undef) G
/-- The same, kept shut. -/
structure WR (P : Program) (md : Region.Mode) (ops : Array Oper) (C : World → Prop) {Rl : World → World → Prop} (hs : List Nat) (Φ : Nat → SPR Rl) (m : Nat) (fin : Act → (Nat → World → Prop) → Prop) (l : List Oper) (k : Nat) (a : Act) (G : Nat → World → Prop) : Prop where
  h : wpR P md ops C hs Φ m fin l k a G
/-- The first k have come up. -/
def lst (n : Nat) : Nat → Array Bool
  | 0 => Array.replicate n false
  | k + 1 => (lst n k).setIfInBounds k true
theorem lst_size (n : Nat) : ∀ k, (lst n k).size = n
  | 0 => by simp [lst]
  | k + 1 => by rw [lst, Array.size_setIfInBounds]; exact lst_size n k
theorem lst_get (n : Nat) : ∀ k j, j < n → (lst n k).getD j false = decide (j < k)
  | 0, j, hj => by simp [lst, hj]
  | k + 1, j, hj => by
    by_cases h : k = j
    · subst h
      have : k < (lst n k).size := by rw [lst_size]; exact hj
      simp [lst, this]
    · rw [lst, Go.getD_set_ne false h, lst_get n k j hj]
      congr 1
      simp only [eq_iff_iff]
      omega
def relyB (md : Region.Mode) (ops : Array Oper) (hs : List Nat) (m : Nat) : Bool :=
  Region.noSelect ops && Nat.ble m ops.size && (List.range m).all (fun k => (Region.ready md ops (lst ops.size k)).contains k && Region.free md ops (lst ops.size k) k && (hs.contains k || ((ops[k]?).map fun o => plainOp o.op).getD false)) &&
    (List.range ops.size).all (fun j => Nat.blt j m || (List.range m).all fun i => waitsB md ops i ops.size j)
theorem wpAnyR_lex (hcl : ∀ w w', C w → Rl w w' → C w') (hB : relyB md ops hs m = true) : ∀ (l : List Oper) (k : Nat) (a : Act) (G : Nat → World → Prop), (∀ j, l[j]? = ops[k + j]?) → k ≤ m → Closed md ops (lst ops.size k) →
    (∀ j, (lst ops.size k).getD j false = false → ∀ w, G j w) → (∀ k w w', G k w → Rl w w' → G k w') → (∃ w, C w ∧ ∀ k, G k w) →
    wpR P md ops C hs Φ m (fun a G => ∀ w, C w → (∀ k, G k w) → wpAny P md ops Q (ops.size - m) (lst ops.size m) a w) l k a G → wpAnyR P md ops Q C hs Φ m (ops.size - k) (lst ops.size k) a G := by
  unfold relyB at hB
  rw [Bool.and_eq_true, Bool.and_eq_true, Bool.and_eq_true] at hB
  obtain ⟨⟨⟨hns, hmn⟩, hall⟩, htl⟩ := hB
  have hmn : m ≤ ops.size := Nat.le_of_ble_eq_true hmn
  have htail : ∀ i, i < m → ∀ j oj, ops[j]? = some oj → m ≤ j → ∃ f, waitsB md ops i f j = true := fun i hi j oj hj hmj => by
    have h1 := (List.all_eq_true.1 htl) j (List.mem_range.2 (Array.getElem?_eq_some_iff.1 hj).1)
    rw [Bool.or_eq_true] at h1
    rcases h1 with h1 | h1
    · have := of_decide_eq_true (p := j < m) (by simpa [Nat.blt_eq] using h1); omega
    · exact ⟨_, (List.all_eq_true.1 h1) i (List.mem_range.2 hi)⟩
  have fin : ∀ a G, (∀ w, C w → (∀ k, G k w) → wpAny P md ops Q (ops.size - m) (lst ops.size m) a w) → wpAnyR P md ops Q C hs Φ m (ops.size - m) (lst ops.size m) a G := by
    intro a G h
    generalize hn : ops.size - m = r at h
    cases r with
    | zero => exact h
    | succ r => exact ⟨fun _ => h, fun hd => absurd (fun k hk => by rw [lst_get _ _ _ (by omega)]; simpa using hk) hd⟩
  intro l
  induction l with
  | nil =>
    intro k a G hl hkm hC hT hG hne h
    have : k = m := by
      rcases Nat.lt_or_ge k m with h' | h'
      · have h1 := hl 0
        rw [Nat.add_zero, Array.getElem?_eq_getElem (show k < ops.size by omega)] at h1
        cases h1
      · omega
    subst this
    exact fin a G h
  | cons o l ih =>
    intro k a G hl hkm hC hT hG hne h
    have h0 : ops[k]? = some o := by simpa using (hl 0).symm
    have hks : k < ops.size := (Array.getElem?_eq_some_iff.1 h0).1
    rw [wpR] at h
    by_cases hk : k = m
    · subst hk
      rw [if_pos (by simp [kind])] at h
      exact fin a G h
    · have hkn : Nat.beq k m = false := by
        cases h : Nat.beq k m with
        | false => rfl
        | true => exact absurd (Nat.eq_of_beq_eq_true h) hk
      have hlt : k < m := by omega
      have h1 := (List.all_eq_true.1 hall) k (List.mem_range.2 hlt)
      rw [Bool.and_eq_true, Bool.and_eq_true, h0, Option.map_some, Option.getD_some] at h1
      obtain ⟨⟨hr, hf⟩, hpl⟩ := h1
      have hr' : k ∈ Region.ready md ops (lst ops.size k) := by simpa using hr
      rw [if_neg (by unfold kind; rw [hkn]; cases hs.contains k <;> decide)] at h
      rw [show ops.size - k = (ops.size - (k + 1)) + 1 by omega]
      have hC1 : Closed md ops (lst ops.size (k + 1)) := hC.set hr'
      have hT1 : ∀ j, (lst ops.size (k + 1)).getD j false = false → j ≠ k ∧ (lst ops.size k).getD j false = false := fun j hj => by
        by_cases hjk : k = j
        · subst hjk; rw [lst_get _ _ _ hks] at hj; simp at hj
        · rw [lst, Go.getD_set_ne false hjk] at hj; exact ⟨Ne.symm hjk, hj⟩
      have hTG : ∀ j, (lst ops.size (k + 1)).getD j false = false → ∀ w, G j w := fun j hj => hT j (hT1 j hj).2
      have hl' : ∀ j, l[j]? = ops[k + 1 + j]? := fun j => by have := hl (j + 1); simpa [Nat.add_assoc, Nat.add_comm 1 j] using this
      refine wpAnyR_first hcl h0 hlt (Region.noSelect_spec hns) (htail k hlt) _ _ a G hC hT hG hne (Region.free_spec h0 hf) hr' ?_
      intro o' ho'
      obtain rfl : o = o' := Option.some.inj (h0.symm.trans ho')
      obtain ⟨w0, hC0, hg0⟩ := hne
      by_cases hw : Region.wanted o (yielded ops a.tmps) = true
      · rw [if_pos hw] at h
        by_cases hc : hs.contains k = true
        · rw [if_pos (by unfold kind; rw [hkn, hc]; simp)] at h
          refine ⟨fun hb => ?_, fun _ => ⟨h.1, fun v hv => ?_⟩⟩
          · unfold busy at hb; rw [hc, hw] at hb; cases hb
          · refine ih (k + 1) _ _ hl' hlt hC1 (fun j hj w => by rw [updG_ne (hT1 j hj).1]; exact hT j (hT1 j hj).2 w) ?_ ?_ (h.2 v hv)
            · intro j x x' hx hxb
              unfold updG at *
              split
              · rename_i e; rw [if_pos e] at hx; exact (Φ k).st _ _ _ hx hxb
              · rename_i e; rw [if_neg e] at hx; exact hG j x x' hx hxb
            · obtain ⟨w1, c, g, p⟩ := hv
              exact ⟨w1, c, fun j => by unfold updG; split; exact p; exact g j⟩
        · rw [if_neg (by unfold kind; rw [hkn, if_neg (by simp), if_neg hc]; decide)] at h
          have hc' : hs.contains k = false := by simpa using hc
          rw [hc', Bool.false_or] at hpl
          obtain ⟨v, hq, hk'⟩ := h
          refine ⟨fun _ => ⟨v, .inl ⟨hw, fun w hCw => ?_⟩, ih (k + 1) _ _ hl' hlt hC1 hTG hG ⟨w0, hC0, hg0⟩ hk'⟩, fun hb => ?_⟩
          · have h2 := hq w hCw
            unfold Oper.quietAt at h2
            cases hr2 : (execOp a.eval o).run P w with
            | ok n w2 =>
              obtain ⟨u, rfl⟩ := plain_run hpl hr2
              rw [hr2] at h2
              obtain ⟨rfl, rfl⟩ := h2
              rfl
            | halt x w2 => rw [hr2] at h2; exact h2.elim
          · unfold busy at hb; rw [hc'] at hb; cases hb
      · rw [if_neg hw] at h
        refine ⟨fun _ => ⟨undef, .inr ⟨by simpa using hw, rfl⟩, ih (k + 1) _ _ hl' hlt hC1 hTG hG ⟨w0, hC0, hg0⟩ h⟩, fun hb => ?_⟩
        unfold busy at hb
        rw [Bool.and_eq_true] at hb
        exact absurd hb.2 hw
theorem wp_region_relyR {id : Nat} {a : Act} {w : World} {l : List Oper} (Rl : World → World → Prop) (C : World → Prop) (hC : C w.drew) (hcl : ∀ x x', C x → Rl x x' → C x') (hs : List Nat) (Φ : Nat → SPR Rl) (m : Nat) (hm : P.follows .mixedOrders = true) (hB : relyB .any l.toArray hs m = true)
    (h : ∀ (T : Type) (_ : Nonempty T) (f : T → World), (∀ d, C (f d)) → (∀ d w', Rl (f d) w' → ∃ m, w' = f m) →
      WR P .any l.toArray (fun w' => ∃ n, w' = f n) hs Φ m (fun a' G => ∀ n, (∀ k, G k (f n)) → wpAny P .any l.toArray Q (l.length - m) (lst l.length m) a' (f n)) l 0 a (fun _ _ => True)) : (Code.region id l.toArray true).wp P Q a w := by
  have hh := (h _ ⟨⟨_, hC⟩⟩ (Subtype.val : {x : World // C x} → World) (fun d => d.2) (fun d w' hb => ⟨⟨w', hcl _ _ d.2 hb⟩, rfl⟩)).h
  have hcl' : ∀ x x' : World, (∃ n, x = (Subtype.val : {x : World // C x} → World) n) → Rl x x' → ∃ n, x' = (Subtype.val : {x : World // C x} → World) n := by
    rintro _ x' ⟨d, rfl⟩ hb
    exact ⟨⟨x', hcl _ _ d.2 hb⟩, rfl⟩
  have hC0 : ∃ n, ({ w with drawn := w.drawn + 1 } : World) = (Subtype.val : {x : World // C x} → World) n := ⟨⟨_, hC⟩, rfl⟩
  refine wp_region_any hm ?_
  have hlex := wpAnyR_lex (P := P) (Q := Q) (Φ := Φ) hcl' hB l 0 a (fun _ _ => True) (by simp) (Nat.zero_le _) (by
    intro j oj _ hl
    exfalso
    rcases Nat.lt_or_ge j l.toArray.size with h' | h'
    · rw [lst_get _ _ _ h'] at hl; simp at hl
    · rw [lst, Array.getD_eq_getD_getElem?, Array.getElem?_eq_none (by simpa using h')] at hl; simp at hl) (fun _ _ _ => trivial) (fun _ _ _ _ _ => trivial) ⟨_, hC0, fun _ => trivial⟩
    (by
      refine cast (congrArg (fun fin => wpR P .any l.toArray _ hs Φ m fin l 0 a _) ?_) hh
      funext a' G
      apply propext
      constructor
      · rintro hx _ ⟨n, rfl⟩ hg
        simpa using hx n hg
      · intro hx n hg
        simpa using hx _ ⟨n, rfl⟩ hg)
  exact wpAny_of_R hcl' _ _ _ _ _ (fun _ _ _ _ _ => trivial) hC0 (fun _ => trivial) (by simpa [lst] using hlex)
theorem wp_region_rely {id : Nat} {a : Act} {w : World} {l : List Oper} (hs : List Nat) (Φ : Nat → SP) (m : Nat) (hm : P.follows .mixedOrders = true) (hB : relyB .any l.toArray hs m = true)
    (h : ∀ (T : Type) (_ : Nonempty T) (f : T → World), (∀ d, Below w.heap.size w (f d)) → (∀ d w', Below (f d).heap.size (f d) w' → ∃ m, w' = f m) →
      WR P .any l.toArray (fun w' => ∃ n, w' = f n) hs Φ m (fun a' G => ∀ n, (∀ k, G k (f n)) → wpAny P .any l.toArray Q (l.length - m) (lst l.length m) a' (f n)) l 0 a (fun _ _ => True)) : (Code.region id l.toArray true).wp P Q a w :=
  wp_region_relyR Newer (fun x => Below w.heap.size w x) ((Below.refl _ w).drew) (fun x x' hx hb => hx.trans (Below.mono (show Below x.heap.size x x' from hb) hx.size)) hs Φ m hm hB h
end
section
variable {P : Program} {ops : Array Oper} {Q : Exit → Act → World → Prop} {md : Region.Mode} {C : World → Prop} {hs : List Nat} {Rl : World → World → Prop} {Φ : Nat → SPR Rl} {m : Nat} {fin : Act → (Nat → World → Prop) → Prop} {T : Type} {f : T → World} {a : Act} {G : Nat → World → Prop} {o : Oper} {l : List Oper} {k : Nat}
theorem wpR_pure (hk : kind hs m k = 0) (h : ∀ Kq : Act → Prop, (∀ a', WR P md ops C hs Φ m fin l (k + 1) a' G → Kq a') → wpQuiet P ops C Kq [o] a) : WR P md ops C hs Φ m fin (o :: l) k a G := by
  have h := h (fun a' => wpR P md ops C hs Φ m fin l (k + 1) a' G) (fun _ h => h.h)
  refine ⟨?_⟩
  rw [wpR, if_neg (by rw [hk]; decide), if_neg (show ¬ kind hs m k = 1 by rw [hk]; decide)]
  exact h
theorem wpR_busy (hk : kind hs m k = 1) (hw : Region.wanted o (yielded ops a.tmps) = true)
    (h1 : ∀ d, (∀ i, waitsB md ops i ops.size k = true → G i (f d)) → ∀ (K : Act → World → Prop) (Q : Exit → Act → World → Prop), (∀ v w', Rl (f d) w' → (Φ k).p v w' → K (a.put o.dst v) w') → o.wp P a (f d) K Q)
    (h2 : ∀ v d, (∀ i, G i (f d)) → (Φ k).p v (f d) → ∀ Kr : Act → Prop, (∀ a', WR P md ops (fun w' => ∃ n, w' = f n) hs Φ m fin l (k + 1) a' (updG G k ((Φ k).p v)) → Kr a') → Kr (a.put o.dst v)) : WR P md ops (fun w' => ∃ n, w' = f n) hs Φ m fin (o :: l) k a G := by
  refine ⟨?_⟩
  rw [wpR, if_neg (by rw [hk]; decide), if_pos hw, if_pos hk]
  refine ⟨?_, ?_⟩
  · rintro _ ⟨d, rfl⟩ hG Q
    exact h1 d hG _ Q (fun v w' hb hp => ⟨v, rfl, hb, hp⟩)
  · rintro v ⟨_, ⟨d, rfl⟩, hG, hp⟩
    exact h2 v d hG hp (fun a' => wpR P md ops (fun w' => ∃ n, w' = f n) hs Φ m fin l (k + 1) a' (updG G k ((Φ k).p v))) (fun _ h => h.h)
theorem wpR_pass (hk : kind hs m k = 1) (hw : Region.wanted o (yielded ops a.tmps) = false) (h : WR P md ops C hs Φ m fin l (k + 1) (a.put o.dst undef) G) : WR P md ops C hs Φ m fin (o :: l) k a G := by
  refine ⟨?_⟩
  rw [wpR, if_neg (by rw [hk]; decide), if_neg (by rw [hw]; decide)]
  exact h.h
theorem wpR_end {n : Nat} (hr : Region.ready md ops (lst n m) = []) (h : ∀ d, (∀ i, G i (f d)) → Q .normal a (f d)) : ∀ r, WR P md ops C hs Φ m (fun a' G => ∀ d, (∀ i, G i (f d)) → wpAny P md ops Q r (lst n m) a' (f d)) [] k a G := fun r => ⟨fun d hG =>
  wpAny_done hr (h d hG) r⟩
theorem wpR_tail {n r : Nat} (r' : Nat) (hk : kind hs m k = 2) (hr : r = r') (h : ∀ d, (∀ i, G i (f d)) → wpAny P md ops Q r' (lst n m) a (f d)) : WR P md ops C hs Φ m (fun a' G => ∀ d, (∀ i, G i (f d)) → wpAny P md ops Q r (lst n m) a' (f d)) (o :: l) k a G := by
  subst hr
  refine ⟨?_⟩
  rw [wpR, if_pos hk]
  exact h
/-- The only one that may come up. -/
theorem wpAny_one {i : Nat} {oi : Oper} {fuel : Nat} {listed : Array Bool} {w : World} (hi : ops[i]? = some oi) (hr : Region.ready md ops listed = [i]) (hw : Region.wanted oi (yielded ops a.tmps) = true)
    (h : ∀ K : Act → World → Prop, (∀ a' w', wpAny P md ops Q fuel (listed.setIfInBounds i true) a' w' → K a' w') → oi.wp P a w K Q) : wpAny P md ops Q (fuel + 1) listed a w := by
  refine ⟨fun h0 => (by rw [hr] at h0; cases h0), fun j hj => ?_⟩
  rw [hr, List.mem_singleton] at hj
  subst hj
  unfold wpOp
  rw [hi]
  dsimp only
  rw [if_pos hw]
  exact .inl (h _ fun a' w' hs => hs)
end
end Go.Proofs.YthcklfelofpffaaDoor
namespace Go.Proofs.YthcklfelofpffaaDoor
open Go.RowKit
section
variable {P : Program} {α : Type} [Rep α]
theorem run_fresh (w : World) (t ty e : TypeId) (z : Value) (bytes : Nat) (ht : P.underlying t = some (.slice e)) (hinfo : (P.info? e).map (fun i => (i.zero, i.size, i.bytes)) = some (some z, Rep.size α, bytes))
    (hzs : z.cells.size = Rep.size α) (hsz : 0 < Rep.size α) (A : Option Addr) (n : Nat) (l : List α) (hn : l.length = n) (hl : Sl w (fun b => b < w.heap.size) A n l)
    (A' : Option Addr) (c m : Nat) (l' : List α) (hm : l'.length = m) (hl' : Sl w (fun b => b < w.heap.size) A' c l') (h0 : 0 < m) (hbytes : (n + m) * bytes ≤ 140737488355328) (hml : n + m ≤ 9223372036854775807) :
    ∃ v' w', (Builtin.append_ #[t, t] ty #[.slice A n n, .slice A' m c]).run P w = .ok v' w' ∧ Own w' w.heap.size e v' (l ++ l') ∧ Below w.heap.size w w' := by
  obtain ⟨i, hi, hz, hz1, hz2⟩ := info_parts hinfo
  subst hn
  subst hm
  obtain ⟨b', o', news, rfl, hSb', hlt', hnl', hn1', hnc', hnr'⟩ := hl'.flat h0
  have key : ∀ olds : List Value, olds.length = l.length * Rep.size α → (∀ u ∈ olds, u.oneCell' = true) → (∀ i, (h : i < l.length) → Rep.R w (fun b => b < w.heap.size) ((olds.drop (i * Rep.size α)).take (Rep.size α)) l[i]) →
      ∀ v' w', w'.ownsRow w.heap.size e (Rep.size α) v' (l.length + l'.length) (olds ++ news) → w.grownBy w' none → (v'.ownBlock = none ∨ v'.ownBlock = some w.heap.size) → Own w' w.heap.size e v' (l ++ l') ∧ Below w.heap.size w w' := by
    intro olds ho1 ho2 ho3 v' w' hw hg hat
    have hb : Below w.heap.size w w' := ⟨hg.os, hg.tape, hg.output, hg.size, fun k hk => hg.block k hk (by simp)⟩
    refine ⟨?_, hb⟩
    have hx := Own.more (w := w) (w' := w') (base := w.heap.size) (e := e) (v := .slice none 0 0) (v' := v') (l := ([] : List α)) (m := l ++ l') (news := olds ++ news) (H := w.heap.size) (Own.nil _ _ _)
      (fun xs hx => by
        have : xs = [] := List.eq_nil_of_length_eq_zero (by rw [hx.1]; simp)
        subst this
        simpa using hw) hg hat (Nat.le_refl _)
      (fun u hu => (List.mem_append.1 hu).elim (ho2 u) (hn1' u)) (by rw [List.length_append, List.length_append, ho1, hnl', Nat.add_mul])
      (fun i hi => by
        refine Rep.mono (S := fun b => b < w.heap.size) ?_ (fun j _ _ => by simp [Value.ownBlock])
        by_cases hil : i < l.length
        · have e : (i + 1) * Rep.size α ≤ olds.length := by rw [ho1]; exact Nat.mul_le_mul_right _ hil
          rw [Nat.add_mul, Nat.one_mul] at e
          rw [List.drop_append_of_le_length (by omega), List.take_append_of_le_length (by rw [List.length_drop]; omega), List.getElem_append_left hil]
          exact ho3 i hil
        · have him : i - l.length < l'.length := by rw [List.length_append] at hi; omega
          have e : i * Rep.size α = olds.length + (i - l.length) * Rep.size α := by
            rw [ho1, ← Nat.add_mul]; congr 1; omega
          rw [List.getElem_append_right (by omega), List.drop_append, List.drop_of_length_le (by omega), List.nil_append, e, Nat.add_sub_cancel_left]
          exact hnr' _ him)
    rwa [List.nil_append] at hx
  by_cases h1 : 0 < l.length
  · obtain ⟨b, o, olds, rfl, hSb, hlt, hol, ho1, hoc, hor⟩ := hl.flat h1
    obtain ⟨v', w', hrun, h2, h3⟩ := run_append_arg_grows (P := P) w t ty e i z (Rep.size α) bytes ht hi hz hz1 hz2 hzs hsz ⟨b, o, none⟩ l.length l.length olds hol (fun j u hu => by rw [addr_add]; exact hoc j u hu)
      ⟨b', o', none⟩ l'.length c news hnl' (fun j u hu => by rw [addr_add]; exact hnc' j u hu) (by omega) (by simp only [maxLen]; omega) hbytes
    refine ⟨v', w', hrun, key olds hol ho1 hor v' w' h2 h3 ?_⟩
    rcases h2.2 with ⟨rfl, q⟩ | ⟨g, cap, cur, rfl, hg, hgx, _⟩
    · omega
    · by_cases hgg : g < w.heap.size
      · omega
      · have hq : w'.heap[g]? ≠ none := by rw [hgx]; simp
        right
        have e1 := hrun
        rw [run_append_grow (P := P) w t ty e i z ht hi hz ⟨b, o, none⟩ l.length l.length olds (by rw [hz1]; exact hol) (fun j u hu => by rw [addr_add]; exact hoc j u hu) ⟨b', o', none⟩ l'.length c news (by rw [hz1]; exact hnl') (fun j u hu => by rw [addr_add]; exact hnc' j u hu) (by omega) (by omega) (by rw [hz2]; exact growslice_fits (by omega) hbytes)] at e1
        cases e1
        rfl
  · have h1' : l.length = 0 := by omega
    obtain rfl : l = [] := List.eq_nil_of_length_eq_zero h1'
    rcases A with _ | ad
    · obtain ⟨v', w', hrun, h2, h3, _, h5⟩ := run_append_own_at (P := P) w w.heap.size t ty e i z (Rep.size α) bytes ht hi hz hz1 hz2 hzs hsz (.slice none 0 0) 0 [] (World.ownsRow_nil _ _ _ _) ⟨b', o', none⟩ l'.length c news hnl'
        (fun j u hu => by rw [addr_add]; exact hnc' j u hu) hn1' (by simp only [maxLen]; omega) (by simpa using hbytes) (Nat.le_refl _)
      exact ⟨v', w', hrun, key [] (by simp) (by simp) (fun i hi => absurd hi (by simp)) v' w' (by simpa using h2) h3 h5⟩
    · have hb' : (0 + l'.length) * bytes ≤ 140737488355328 := by simpa using hbytes
      obtain ⟨v', w', hrun, h2, h3⟩ := run_append_arg_grows (P := P) w t ty e i z (Rep.size α) bytes ht hi hz hz1 hz2 hzs hsz ad 0 0 [] (by simp) (fun j u hu => by simp at hu)
        ⟨b', o', none⟩ l'.length c news hnl' (fun j u hu => by rw [addr_add]; exact hnc' j u hu) (by omega) (by simp only [maxLen]; omega) hb'
      refine ⟨v', w', hrun, key [] (by simp) (by simp) (fun i hi => absurd hi (by simp)) v' w' (by simpa using h2) h3 ?_⟩
      right
      have e1 := hrun
      rw [run_append_grow (P := P) w t ty e i z ht hi hz ad 0 0 [] (by simp) (fun j u hu => by simp at hu) ⟨b', o', none⟩ l'.length c news (by rw [hz1]; exact hnl') (fun j u hu => by rw [addr_add]; exact hnc' j u hu) (by omega) (by omega) (by rw [hz2]; exact growslice_fits (by omega) hb')] at e1
      cases e1
      rfl
theorem wp_fresh {o : Oper} {a : Act} {K : Act → World → Prop} {Q : Exit → Act → World → Prop} {w : World} (s x : Operand) (t : TypeId)
    (ho : o.op = .call { callee := .builtin .append, args := #[s, x], argTypes := #[t, t] })
    (e : TypeId) (z : Value) (bytes : Nat) (ht : P.underlying t = some (.slice e)) (hinfo : (P.info? e).map (fun i => (i.zero, i.size, i.bytes)) = some (some z, Rep.size α, bytes))
    (hzs : z.cells.size = Rep.size α) (hsz : 0 < Rep.size α) (A : Option Addr) (n : Nat) (l : List α) (hs : a.eval s = .slice A n n) (hn : l.length = n) (hl : Sl w (fun b => b < w.heap.size) A n l)
    (A' : Option Addr) (c m : Nat) (l' : List α) (hx : a.eval x = .slice A' m c) (hm : l'.length = m) (hl' : Sl w (fun b => b < w.heap.size) A' c l') (h0 : 0 < m) (hbytes : (n + m) * bytes ≤ 140737488355328) (hml : n + m ≤ 9223372036854775807)
    (h : ∀ v' w', Own w' w.heap.size e v' (l ++ l') → Below w.heap.size w w' → K (a.put o.dst v') w') : o.wp P a w K Q := by
  obtain ⟨v', w', hrun, h2, h3⟩ := run_fresh (P := P) w t o.type e z bytes ht hinfo hzs hsz A n l hn hl A' c m l' hm hl' h0 hbytes hml
  unfold Oper.wp execOp
  simp only [ho, resolve, invoke, builtin, Sem.run_bind, Sem.run_pure, Result.andThen_ok, List.map_toArray, List.map_cons, List.map_nil, hs, hx, hrun]
  exact h v' w' h2 h3
theorem wpList_fresh {ops : Array Oper} {rest : List Oper} {o : Oper} {a : Act} {Q : Exit → Act → World → Prop} {w : World} (hgd : o.guard = none) (s x : Operand) (t : TypeId)
    (ho : o.op = .call { callee := .builtin .append, args := #[s, x], argTypes := #[t, t] })
    (e : TypeId) (z : Value) (bytes : Nat) (ht : P.underlying t = some (.slice e)) (hinfo : (P.info? e).map (fun i => (i.zero, i.size, i.bytes)) = some (some z, Rep.size α, bytes))
    (hzs : z.cells.size = Rep.size α) (hsz : 0 < Rep.size α) (A : Option Addr) (n : Nat) (l : List α) (hs : a.eval s = .slice A n n) (hn : l.length = n) (hl : Sl w (fun b => b < w.heap.size) A n l)
    (A' : Option Addr) (c m : Nat) (l' : List α) (hx : a.eval x = .slice A' m c) (hm : l'.length = m) (hl' : Sl w (fun b => b < w.heap.size) A' c l') (h0 : 0 < m) (hbytes : (n + m) * bytes ≤ 140737488355328) (hml : n + m ≤ 9223372036854775807)
    (h : ∀ v' w', Own w' w.heap.size e v' (l ++ l') → Below w.heap.size w w' → wpList P ops Q rest (a.put o.dst v') w') : wpList P ops Q (o :: rest) a w :=
  wpList_plain hgd fun _ hK => wp_fresh s x t ho e z bytes ht hinfo hzs hsz A n l hs hn hl A' c m l' hx hm hl' h0 hbytes hml fun v' w' h2 h3 => hK _ _ (h v' w' h2 h3)
end
/-- A list of its own. -/
def SP.own {α : Type} [Rep α] (B : Nat) (e : TypeId) (l : List α) : SP := ⟨fun v w => Own w B e v l, fun _ _ _ h hb => h.below hb⟩
/-- This value. -/
def SP.val (u : Value) : SP := ⟨fun v _ => v = u, fun _ _ _ h _ => h⟩
def SP.any : SP := ⟨fun _ _ => True, fun _ _ _ h _ => h⟩
/-- A new block with these cells. -/
def SP.box (B : Nat) (cs : Array Value) (t : TypeId) : SP := ⟨fun v w => ∃ b, v = .pointer (some ⟨b, 0, none⟩) ∧ B ≤ b ∧ b < w.heap.size ∧ w.heap[b]? = some (.cells cs t (0, 0)), fun _ _ _ h hb => by
  obtain ⟨b, h1, h2, h3, h4⟩ := h
  exact ⟨b, h1, h2, by have := hb.size; omega, by rw [hb.block b h3]; exact h4⟩⟩
/-- A slice literal. -/
def SP.lit (B n : Nat) (cs : Array Value) (t : TypeId) : SP := ⟨fun v w => ∃ b, v = .slice (some ⟨b, 0, none⟩) n n ∧ B ≤ b ∧ b < w.heap.size ∧ w.heap[b]? = some (.cells cs t (0, 0)), fun _ _ _ h hb => by
  obtain ⟨b, h1, h2, h3, h4⟩ := h
  exact ⟨b, h1, h2, by have := hb.size; omega, by rw [hb.block b h3]; exact h4⟩⟩
end Go.Proofs.YthcklfelofpffaaDoor
