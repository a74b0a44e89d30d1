/- The reference's generator of sheets: Some. No condition. -/
import Derived.Test.YthcklfelofpffaaDoorCerW25
namespace Go.Proofs.YthcklfelofpffaaDoor
open Go.RowKit
/-- A sheet as the generator makes it. -/
def SmallS (s : Sheet) : Prop := s.label.size ≤ 2 ∧ s.body.length ≤ 2 ∧ s.notes.length ≤ 2 ∧ (∀ x ∈ s.body, x.size ≤ 14) ∧ ∀ x ∈ s.notes, x.size ≤ 14
theorem sheet_info : (Tryd.prog.info? 24).map (fun i => (i.zero, i.size, i.bytes)) = some (some (.agg #[.string ⟨#[]⟩, .slice none 0 0, .slice none 0 0]), Rep.size Sheet, 64) := by kernel_rfl
/-- An own row of strings reads from its own block alone. -/
theorem Own.sl_base {w : World} {base : Nat} {e : TypeId} {A : Option Addr} {n c : Nat} {l : List ByteArray} (h : Own w base e (.slice A n c) l) (hn : n = l.length) : Sl w (fun b => base ≤ b) A c l := by
  subst hn
  obtain ⟨A', c', e', hs⟩ := h.sl
  cases e'
  refine ⟨hs.1, hs.2.1, fun h0 => ?_⟩
  obtain ⟨b, o, rfl, _, hlt, hx⟩ := hs.2.2 h0
  refine ⟨b, o, rfl, ?_, hlt, fun i hi => ?_⟩
  · obtain ⟨g, cap, es, e1, hg, _⟩ := h.at_ (k := 0) h0
    cases e1
    exact hg
  · obtain ⟨es, hr, hc⟩ := hx i hi
    exact ⟨es, hr, hc⟩
set_option maxRecDepth 100000 in
set_option maxHeartbeats 4000000 in
theorem some_any (A : Option Addr) (c : Nat) (l : List Int) (w : World) (hl : Sl w (fun b => b < w.heap.size) A c l) :
    Calls Tryd.prog 10 #[.slice A l.length c] w fun e w' => ∃ v : Value, e = .returned v ∧ ∃ sh : List Sheet, Own w' w.heap.size 24 v sh ∧ sh.length ≤ 12 ∧ (∀ s ∈ sh, SmallS s) ∧ Below w.heap.size w w' := by
  have HL := Lib.hid hl
  have hlen : l.length ≤ 9223372036854775807 := by have := hl.1; have := hl.2.1; unfold maxLen at this; omega
  clear hl
  go_enter Tryd.func10, Tryd.ntmps10
  go_wp2_with fail
  go_loopw [3, 4] (fun v i wr => ∃ (k : Nat) (sh : List Sheet), k ≤ l.length ∧ i = .int .i64 k ∧ sh.length ≤ k ∧ k ≤ 12 ∧ Hid (Own wr w.heap.size 24 v sh) ∧ Hid (∀ s ∈ sh, SmallS s) ∧ Hid (Below w.heap.size w wr)) (fun _ i _ => l.length - (intOf i).toNat)
  case atStart => exact ⟨0, [], Nat.zero_le _, rfl, by simp, by omega, Lib.hid (Own.nil _ _ _), Lib.hid (by simp), Lib.hid (Below.refl _ _)⟩
  case round =>
    obtain ⟨k, sh, hk, rfl, hsh, hk12, HO, HSM, HB⟩ := hrel
    by_cases hlt : k < l.length
    · by_cases h12 : k < 12
      · obtain ⟨b, o, rfl, hbS, hbl, hok, c0⟩ := int_at (HL.out.to HB.out) hlt
        have hkl : (k : Int) < (l.length : Int) := by omega
        have hk0 : (0 : Int) ≤ (k : Int) := by omega
        have hk12' : (k : Int) < 12 := by omega
        have HAR := Lib.hid (fun wx => around_any l[k] 1000000 wx hok (by decide) (by decide))
        have hal := aro_lt l[k] 1000000 (by decide)
        generalize aro l[k] 1000000 = nz at *
        obtain ⟨n, rfl⟩ : ∃ n : Nat, nz = (n : Int) := ⟨nz.toNat, by omega⟩
        have hn6 : (n : Int) ≤ 1000000 := by omega
        clear hal
        generalize l[k] = lk at *
        obtain ⟨lab, d0, hlab⟩ := lit_at labels (n % 8) 2 labels_ok (Nat.mod_lt _ (by decide))
        simp only [labels, List.map_cons, List.map_nil] at d0
        have HLab := Lib.hid hlab
        clear hlab
        go_upto_region 8 with (first | (go_at_call 25; refine (HAR.out _).mono ?_; rintro e w' ⟨rfl, rfl⟩) | fail)
        have HSS : Hid (SS wr (((wr.alloc (.cells (labels.map Value.string).toArray 9)).alloc (.cells #[.string lab, .slice none 0 0, .slice none 0 0] 24)).alloc (.cells (phrases.map Value.string).toArray 9)) (wr.heap.size + 1) (wr.heap.size + 1 + 1) lab (.slice none 0 0) (.slice none 0 0) [] []) := Lib.hid
          ⟨by unfold ABox; rw [Below.heap_alloc _ _ _ (by simp)]; exact heap_at (by simp), Own.nil _ _ _, Own.nil _ _ _, heap_at (by simp), by omega, by omega, by omega, by simp [Value.ownBlock], by simp [Value.ownBlock], by simp [Value.ownBlock], by simp [Value.ownBlock], by simp [Value.ownBlock], (((Below.refl _ _).alloc (Nat.le_refl _) _).alloc (by simp) _).alloc (by simp; omega) _⟩
        generalize hw : World.alloc (World.alloc (World.alloc wr _) _) _ = w1
        have hv : ((wr.alloc (.cells (labels.map Value.string).toArray 9)).alloc (.cells #[.string lab, .slice none 0 0, .slice none 0 0] 24)).alloc (.cells (phrases.map Value.string).toArray 9) = w1 := hw
        rw [hv] at HSS
        clear hw hv d0
        generalize wr.heap.size + 1 + 1 = Wb at *
        generalize wr.heap.size + 1 = O at *
        obtain ⟨wo, rfl⟩ : ∃ wo : World, wo = wr := ⟨_, rfl⟩
        go_wp2_with fail
        go_loopw [8] (fun kk ww => ∃ (m : Nat) (v1 : Value) (body : List ByteArray), kk = .int .i64 m ∧ m ≤ n / 8 % 3 ∧ Hid (body.length = m) ∧ Hid (∀ x ∈ body, x.size ≤ 14) ∧ Hid (SS wo ww O Wb lab v1 (.slice none 0 0) body [])) (fun kk _ => 3 - (intOf kk).toNat)
        case atStart => exact ⟨0, _, [], rfl, Nat.zero_le _, Lib.hid rfl, Lib.hid (by simp), HSS⟩
        case round =>
          obtain ⟨m, v1, body, rfl, hm, hbl, HXS, HSS⟩ := hrel
          by_cases hmq : m < n / 8 % 3
          · have hm2 : m ≤ 2 := by omega
            have hmq' : (m : Int) < (n : Int) / 8 % 3 := by omega
            have hw1 : IntKind.i64.wrap ((n : Int) / 24 + (m : Int)) = (n : Int) / 24 + (m : Int) := by rw [IntWalk.i64_in _ (by omega)]
            have hwA : IntKind.i64.wrap ((n : Int) / 24) = (n : Int) / 24 := by rw [IntWalk.i64_in _ (by omega)]
            obtain ⟨j, hj⟩ : ∃ j, j = (n / 24 + m) % 4 := ⟨_, rfl⟩
            have htm : ((n : Int) / 24 + (m : Int)).tmod 4 = (j : Int) := by rw [Int.tmod_eq_emod_of_nonneg (by omega)]; omega
            have hj4 : (j : Int) < 4 := by omega
            have hj4' : j < 4 := by omega
            clear hj
            obtain ⟨x, dx, hx⟩ := lit_at phrases j 14 phrases_ok hj4'
            have hwx : wr.drew.cell? ⟨Wb, j, none⟩ = some (.string x) := HSS.out.drew.w.cell _ dx
            have hbx : wr.drew.cell? ⟨O, 1, none⟩ = some v1 := HSS.out.drew.box.cell 1 rfl
            have HX := Lib.hid hx
            have HS0 := Lib.hid HSS.out.drew
            have hHeld := And.intro hbx hwx
            clear dx hx hwx hbx HSS
            go_upto_region 11 with (fail)
            refine wp_region_D (fun w' => w'.cell? ⟨O, 1, none⟩ = some v1 ∧ w'.cell? ⟨Wb, j, none⟩ = some (.string x)) (fun i => decide (i < 11)) (by kernel_rfl) ?_
            generalize wr.drew = W0 at *
            refine wpAnyE_take (i := 0) (oi := ⟨some 39, Op.fieldAddr 24 (Operand.tmp 6) 1, 0, _, _, _⟩) (v := ?_) rfl (by kernel_rfl) (by kernel_rfl) (by kernel_rfl) (by kernel_rfl) (by kernel_rfl) (fun _ _ _ h => h) (by rfl) ?hyks1_1 (hHeld) ?hrks1_1
            case hyks1_1 => (intro wS hSw; clear hSw; go_simp; (try with_reducible rfl))
            all_goals try simp only [Act.put, List.setIfInBounds_toArray, List.set_cons_zero, List.set_cons_succ]
            refine wpAnyE_take (i := 1) (oi := ⟨some 40, Op.load 22 (Operand.tmp 39), 22, _, _, _⟩) (v := ?_) rfl (by kernel_rfl) (by kernel_rfl) (by kernel_rfl) (by kernel_rfl) (by kernel_rfl) (fun _ _ _ h => h) (by rfl) ?hyks1_2 (hHeld) ?hrks1_2
            case hyks1_2 => (intro wS hSw; (have hq := hSw.1); clear hSw; go_simp; (try with_reducible rfl))
            all_goals try simp only [Act.put, List.setIfInBounds_toArray, List.set_cons_zero, List.set_cons_succ]
            refine wpAnyE_take (i := 2) (oi := ⟨some 41, Op.move (Operand.tmp 7), 22, _, _, _⟩) (v := ?_) rfl (by kernel_rfl) (by kernel_rfl) (by kernel_rfl) (by kernel_rfl) (by kernel_rfl) (fun _ _ _ h => h) (by rfl) ?hyks1_3 (hHeld) ?hrks1_3
            case hyks1_3 => (intro wS hSw; clear hSw; go_simp; (try with_reducible rfl))
            all_goals try simp only [Act.put, List.setIfInBounds_toArray, List.set_cons_zero, List.set_cons_succ]
            refine wpAnyE_take (i := 3) (oi := ⟨some 42, Op.move (Operand.tmp 5), 3, _, _, _⟩) (v := ?_) rfl (by kernel_rfl) (by kernel_rfl) (by kernel_rfl) (by kernel_rfl) (by kernel_rfl) (fun _ _ _ h => h) (by rfl) ?hyks1_4 (hHeld) ?hrks1_4
            case hyks1_4 => (intro wS hSw; clear hSw; go_simp; (try with_reducible rfl))
            all_goals try simp only [Act.put, List.setIfInBounds_toArray, List.set_cons_zero, List.set_cons_succ]
            refine wpAnyE_take (i := 4) (oi := ⟨some 43, Op.binOp BinOp.quo 3 (Operand.tmp 42) (Operand.const (Value.int IntKind.i64 24)) 3, 3, _, _, _⟩) (v := ?_) rfl (by kernel_rfl) (by kernel_rfl) (by kernel_rfl) (by kernel_rfl) (by kernel_rfl) (fun _ _ _ h => h) (by rfl) ?hyks1_5 (hHeld) ?hrks1_5
            case hyks1_5 => (intro wS hSw; clear hSw; go_simp; (try with_reducible rfl))
            all_goals try simp only [Act.put, List.setIfInBounds_toArray, List.set_cons_zero, List.set_cons_succ]
            refine wpAnyE_take (i := 5) (oi := ⟨some 44, Op.move (Operand.tmp 8), 3, _, _, _⟩) (v := ?_) rfl (by kernel_rfl) (by kernel_rfl) (by kernel_rfl) (by kernel_rfl) (by kernel_rfl) (fun _ _ _ h => h) (by rfl) ?hyks1_6 (hHeld) ?hrks1_6
            case hyks1_6 => (intro wS hSw; clear hSw; go_simp; (try with_reducible rfl))
            all_goals try simp only [Act.put, List.setIfInBounds_toArray, List.set_cons_zero, List.set_cons_succ]
            refine wpAnyE_take (i := 6) (oi := ⟨some 45, Op.binOp BinOp.add 3 (Operand.tmp 43) (Operand.tmp 44) 3, 3, _, _, _⟩) (v := ?_) rfl (by kernel_rfl) (by kernel_rfl) (by kernel_rfl) (by kernel_rfl) (by kernel_rfl) (fun _ _ _ h => h) (by rfl) ?hyks1_7 (hHeld) ?hrks1_7
            case hyks1_7 => (intro wS hSw; clear hSw; go_simp; (try with_reducible rfl))
            all_goals try simp only [Act.put, List.setIfInBounds_toArray, List.set_cons_zero, List.set_cons_succ]
            refine wpAnyE_take (i := 7) (oi := ⟨some 46, Op.binOp BinOp.rem 3 (Operand.tmp 45) (Operand.const (Value.int IntKind.i64 4)) 3, 3, _, _, _⟩) (v := ?_) rfl (by kernel_rfl) (by kernel_rfl) (by kernel_rfl) (by kernel_rfl) (by kernel_rfl) (fun _ _ _ h => h) (by rfl) ?hyks1_8 (hHeld) ?hrks1_8
            case hyks1_8 => (intro wS hSw; clear hSw; go_simp; (try with_reducible rfl))
            all_goals try simp only [Act.put, List.setIfInBounds_toArray, List.set_cons_zero, List.set_cons_succ]
            refine wpAnyE_take (i := 8) (oi := ⟨some 47, Op.indexAddr 22 (Operand.tmp 41) (Operand.tmp 46), 0, _, _, _⟩) (v := ?_) rfl (by kernel_rfl) (by kernel_rfl) (by kernel_rfl) (by kernel_rfl) (by kernel_rfl) (fun _ _ _ h => h) (by rfl) ?hyks1_9 (hHeld) ?hrks1_9
            case hyks1_9 => (intro wS hSw; clear hSw; go_simp; (try with_reducible rfl))
            all_goals try simp only [Act.put, List.setIfInBounds_toArray, List.set_cons_zero, List.set_cons_succ]
            refine wpAnyE_take (i := 9) (oi := ⟨some 48, Op.load 9 (Operand.tmp 47), 9, _, _, _⟩) (v := ?_) rfl (by kernel_rfl) (by kernel_rfl) (by kernel_rfl) (by kernel_rfl) (by kernel_rfl) (fun _ _ _ h => h) (by rfl) ?hyks1_10 (hHeld) ?hrks1_10
            case hyks1_10 => (intro wS hSw; (have hq := hSw.2); clear hSw; go_simp; (try with_reducible rfl))
            all_goals try simp only [Act.put, List.setIfInBounds_toArray, List.set_cons_zero, List.set_cons_succ]
            refine wpAnyD_one (i := 10) (oi := ⟨some 49, Op.buildSlice 22 1 #[(0, Operand.tmp 48)], 22, _, _, _⟩) rfl (by kernel_rfl) (by rfl) (fun K hK => ?_)
            go_simp
            refine hK _ _ (fun _ => ?_) ?_
            · exact ⟨(((Below.refl W0.heap.size W0).alloc (Nat.le_refl _) _).cell (p := ⟨O, 1, none⟩) HS0.out.box.lt).trans hHeld.1, (((Below.refl W0.heap.size W0).alloc (Nat.le_refl _) _).cell (p := ⟨Wb, j, none⟩) HS0.out.w.lt).trans hHeld.2⟩
            clear hK K
            generalize hlit : World.alloc _ _ = W2
            have hhl := heap_alloc_new W0 (.cells #[.string x] 9)
            have hol := HS0.out.b.alloc (.cells #[.string x] 9)
            have hlit2 : W0.alloc (.cells #[.string x] 9) = W2 := hlit
            have HSZ : Hid (W2.heap.size = W0.heap.size + 1) := Lib.hid (by rw [← hlit2]; simp)
            rw [hlit2] at hhl hol
            have HLI := Lib.hid hlit2
            have HOL := Lib.hid hol
            have HHL := Lib.hid hhl
            clear hlit hlit2 hhl hol hHeld
            try simp only [Act.put, List.setIfInBounds_toArray, List.set_cons_zero, List.set_cons_succ]
            refine wpAnyD_one (i := 11) (oi := ⟨some 50, Op.call { callee := Callee.builtin Builtin.append, args := #[Operand.tmp 40, Operand.tmp 49], argTypes := #[22, 22] }, 22, _, _, _⟩) rfl (by kernel_rfl) (by rfl) (fun K hK => ?_)
            refine wp_push (α := ByteArray) _ (.tmp 40) (.tmp 49) 22 rfl wo.heap.size 9 (.string ⟨#[]⟩) 16 Tryd.underlying22 s_info rfl (by decide) v1 body rfl HOL.out W0.heap.size #[.string x] x (0, 0) 9 rfl HHL.out rfl (by have := hbl.out; omega) (by have := hbl.out; omega) (by have := HS0.out.bb.size; have := HSZ.out; omega) _ rfl ?_
            intro g5 p5 w5 hown5 hg5 hat5 hlt5
            rw [← HLI.out] at hg5 hat5
            have hss := HS0.out.push1 hown5 hg5 hat5
            have HS5 := Lib.hid hss.1
            have kO := hss.2.cell 1 rfl
            have fO := hss.2.fz
            clear hss hown5 hg5 hat5 HOL HHL
            refine hK _ _ (fun h => absurd h (by decide)) ?_
            clear hK K
            try simp only [Act.put, List.setIfInBounds_toArray, List.set_cons_zero, List.set_cons_succ]
            refine wpAnyD_one (i := 12) (oi := ⟨some 51, Op.fieldAddr 24 (Operand.tmp 6) 1, 0, _, _, _⟩) rfl (by kernel_rfl) (by rfl) (fun K hK => ?_)
            go_simp
            refine hK _ _ (fun h => absurd h (by decide)) ?_
            clear hK K
            try simp only [Act.put, List.setIfInBounds_toArray, List.set_cons_zero, List.set_cons_succ]
            refine wpAnyD_one (i := 13) (oi := ⟨none, Op.store 22 (Operand.tmp 51) (Operand.tmp 50), 0, _, _, _⟩) rfl (by kernel_rfl) (by rfl) (fun K hK => ?_)
            go_simp
            refine hK _ _ (fun h => absurd h (by decide)) ?_
            clear hK K
            try simp only [Act.put]
            refine wpAnyD_done (by kernel_rfl) ?_ _
            unfold Exit.then
            go_wp2_with fail
            go_roundw
            case rel => exact ⟨m + 1, _, body ++ [x], by go_num, by omega, Lib.hid (by have := hbl.out; simp; omega), Lib.hid (fun y hy => by rcases List.mem_append.1 hy with h | h; exact HXS.out y h; obtain rfl := List.mem_singleton.1 h; exact HX.out), HS5⟩
            case measure => (simp [intOf]; omega)
          · have hmq' : ¬ (m : Int) < (n : Int) / 8 % 3 := by omega
            have hsz1 : body.length ≤ 2 := by have := hbl.out; omega
            have HSZ1 := Lib.hid hsz1
            clear hsz1
            go_wp2_with fail
            clear hbl hmq' hmq hm
            go_loopw [9] (fun kk ww => ∃ (m : Nat) (v2 : Value) (notes : List ByteArray), kk = .int .i64 m ∧ m ≤ n / 96 % 3 ∧ Hid (notes.length = m) ∧ Hid (∀ x ∈ notes, x.size ≤ 14) ∧ Hid (SS wo ww O Wb lab v1 v2 body notes)) (fun kk _ => 3 - (intOf kk).toNat)
            case atStart => exact ⟨0, _, [], rfl, Nat.zero_le _, Lib.hid rfl, Lib.hid (by simp), HSS⟩
            case round =>
              obtain ⟨m, v2, notes, rfl, hm, hnl, HYS, HSS⟩ := hrel
              by_cases hmq : m < n / 96 % 3
              · have hm2 : m ≤ 2 := by omega
                have hmq' : (m : Int) < (n : Int) / 96 % 3 := by omega
                have hw1 : IntKind.i64.wrap ((n : Int) / 288 + (m : Int)) = (n : Int) / 288 + (m : Int) := by rw [IntWalk.i64_in _ (by omega)]
                have hwA : IntKind.i64.wrap ((n : Int) / 288) = (n : Int) / 288 := by rw [IntWalk.i64_in _ (by omega)]
                obtain ⟨j, hj⟩ : ∃ j, j = (n / 288 + m) % 4 := ⟨_, rfl⟩
                have htm : ((n : Int) / 288 + (m : Int)).tmod 4 = (j : Int) := by rw [Int.tmod_eq_emod_of_nonneg (by omega)]; omega
                have hj4 : (j : Int) < 4 := by omega
                have hj4' : j < 4 := by omega
                clear hj
                obtain ⟨x, dx, hx⟩ := lit_at phrases j 14 phrases_ok hj4'
                have hwx : wr.drew.cell? ⟨Wb, j, none⟩ = some (.string x) := HSS.out.drew.w.cell _ dx
                have hbx : wr.drew.cell? ⟨O, 2, none⟩ = some v2 := HSS.out.drew.box.cell 2 rfl
                have HX := Lib.hid hx
                have HS0 := Lib.hid HSS.out.drew
                have hHeld := And.intro hbx hwx
                clear dx hx hwx hbx HSS
                go_upto_region 15 with (fail)
                refine wp_region_D (fun w' => w'.cell? ⟨O, 2, none⟩ = some v2 ∧ w'.cell? ⟨Wb, j, none⟩ = some (.string x)) (fun i => decide (i < 11)) (by kernel_rfl) ?_
                generalize wr.drew = W0 at *
                refine wpAnyE_take (i := 0) (oi := ⟨some 59, Op.fieldAddr 24 (Operand.tmp 6) 2, 0, _, _, _⟩) (v := ?_) rfl (by kernel_rfl) (by kernel_rfl) (by kernel_rfl) (by kernel_rfl) (by kernel_rfl) (fun _ _ _ h => h) (by rfl) ?hyks2_1 (hHeld) ?hrks2_1
                case hyks2_1 => (intro wS hSw; clear hSw; go_simp; (try with_reducible rfl))
                all_goals try simp only [Act.put, List.setIfInBounds_toArray, List.set_cons_zero, List.set_cons_succ]
                refine wpAnyE_take (i := 1) (oi := ⟨some 60, Op.load 22 (Operand.tmp 59), 22, _, _, _⟩) (v := ?_) rfl (by kernel_rfl) (by kernel_rfl) (by kernel_rfl) (by kernel_rfl) (by kernel_rfl) (fun _ _ _ h => h) (by rfl) ?hyks2_2 (hHeld) ?hrks2_2
                case hyks2_2 => (intro wS hSw; (have hq := hSw.1); clear hSw; go_simp; (try with_reducible rfl))
                all_goals try simp only [Act.put, List.setIfInBounds_toArray, List.set_cons_zero, List.set_cons_succ]
                refine wpAnyE_take (i := 2) (oi := ⟨some 61, Op.move (Operand.tmp 7), 22, _, _, _⟩) (v := ?_) rfl (by kernel_rfl) (by kernel_rfl) (by kernel_rfl) (by kernel_rfl) (by kernel_rfl) (fun _ _ _ h => h) (by rfl) ?hyks2_3 (hHeld) ?hrks2_3
                case hyks2_3 => (intro wS hSw; clear hSw; go_simp; (try with_reducible rfl))
                all_goals try simp only [Act.put, List.setIfInBounds_toArray, List.set_cons_zero, List.set_cons_succ]
                refine wpAnyE_take (i := 3) (oi := ⟨some 62, Op.move (Operand.tmp 5), 3, _, _, _⟩) (v := ?_) rfl (by kernel_rfl) (by kernel_rfl) (by kernel_rfl) (by kernel_rfl) (by kernel_rfl) (fun _ _ _ h => h) (by rfl) ?hyks2_4 (hHeld) ?hrks2_4
                case hyks2_4 => (intro wS hSw; clear hSw; go_simp; (try with_reducible rfl))
                all_goals try simp only [Act.put, List.setIfInBounds_toArray, List.set_cons_zero, List.set_cons_succ]
                refine wpAnyE_take (i := 4) (oi := ⟨some 63, Op.binOp BinOp.quo 3 (Operand.tmp 62) (Operand.const (Value.int IntKind.i64 288)) 3, 3, _, _, _⟩) (v := ?_) rfl (by kernel_rfl) (by kernel_rfl) (by kernel_rfl) (by kernel_rfl) (by kernel_rfl) (fun _ _ _ h => h) (by rfl) ?hyks2_5 (hHeld) ?hrks2_5
                case hyks2_5 => (intro wS hSw; clear hSw; go_simp; (try with_reducible rfl))
                all_goals try simp only [Act.put, List.setIfInBounds_toArray, List.set_cons_zero, List.set_cons_succ]
                refine wpAnyE_take (i := 5) (oi := ⟨some 64, Op.move (Operand.tmp 9), 3, _, _, _⟩) (v := ?_) rfl (by kernel_rfl) (by kernel_rfl) (by kernel_rfl) (by kernel_rfl) (by kernel_rfl) (fun _ _ _ h => h) (by rfl) ?hyks2_6 (hHeld) ?hrks2_6
                case hyks2_6 => (intro wS hSw; clear hSw; go_simp; (try with_reducible rfl))
                all_goals try simp only [Act.put, List.setIfInBounds_toArray, List.set_cons_zero, List.set_cons_succ]
                refine wpAnyE_take (i := 6) (oi := ⟨some 65, Op.binOp BinOp.add 3 (Operand.tmp 63) (Operand.tmp 64) 3, 3, _, _, _⟩) (v := ?_) rfl (by kernel_rfl) (by kernel_rfl) (by kernel_rfl) (by kernel_rfl) (by kernel_rfl) (fun _ _ _ h => h) (by rfl) ?hyks2_7 (hHeld) ?hrks2_7
                case hyks2_7 => (intro wS hSw; clear hSw; go_simp; (try with_reducible rfl))
                all_goals try simp only [Act.put, List.setIfInBounds_toArray, List.set_cons_zero, List.set_cons_succ]
                refine wpAnyE_take (i := 7) (oi := ⟨some 66, Op.binOp BinOp.rem 3 (Operand.tmp 65) (Operand.const (Value.int IntKind.i64 4)) 3, 3, _, _, _⟩) (v := ?_) rfl (by kernel_rfl) (by kernel_rfl) (by kernel_rfl) (by kernel_rfl) (by kernel_rfl) (fun _ _ _ h => h) (by rfl) ?hyks2_8 (hHeld) ?hrks2_8
                case hyks2_8 => (intro wS hSw; clear hSw; go_simp; (try with_reducible rfl))
                all_goals try simp only [Act.put, List.setIfInBounds_toArray, List.set_cons_zero, List.set_cons_succ]
                refine wpAnyE_take (i := 8) (oi := ⟨some 67, Op.indexAddr 22 (Operand.tmp 61) (Operand.tmp 66), 0, _, _, _⟩) (v := ?_) rfl (by kernel_rfl) (by kernel_rfl) (by kernel_rfl) (by kernel_rfl) (by kernel_rfl) (fun _ _ _ h => h) (by rfl) ?hyks2_9 (hHeld) ?hrks2_9
                case hyks2_9 => (intro wS hSw; clear hSw; go_simp; (try with_reducible rfl))
                all_goals try simp only [Act.put, List.setIfInBounds_toArray, List.set_cons_zero, List.set_cons_succ]
                refine wpAnyE_take (i := 9) (oi := ⟨some 68, Op.load 9 (Operand.tmp 67), 9, _, _, _⟩) (v := ?_) rfl (by kernel_rfl) (by kernel_rfl) (by kernel_rfl) (by kernel_rfl) (by kernel_rfl) (fun _ _ _ h => h) (by rfl) ?hyks2_10 (hHeld) ?hrks2_10
                case hyks2_10 => (intro wS hSw; (have hq := hSw.2); clear hSw; go_simp; (try with_reducible rfl))
                all_goals try simp only [Act.put, List.setIfInBounds_toArray, List.set_cons_zero, List.set_cons_succ]
                refine wpAnyD_one (i := 10) (oi := ⟨some 69, Op.buildSlice 22 1 #[(0, Operand.tmp 68)], 22, _, _, _⟩) rfl (by kernel_rfl) (by rfl) (fun K hK => ?_)
                go_simp
                refine hK _ _ (fun _ => ?_) ?_
                · exact ⟨(((Below.refl W0.heap.size W0).alloc (Nat.le_refl _) _).cell (p := ⟨O, 2, none⟩) HS0.out.box.lt).trans hHeld.1, (((Below.refl W0.heap.size W0).alloc (Nat.le_refl _) _).cell (p := ⟨Wb, j, none⟩) HS0.out.w.lt).trans hHeld.2⟩
                clear hK K
                generalize hlit : World.alloc _ _ = W2
                have hhl := heap_alloc_new W0 (.cells #[.string x] 9)
                have hol := HS0.out.n.alloc (.cells #[.string x] 9)
                have hlit2 : W0.alloc (.cells #[.string x] 9) = W2 := hlit
                have HSZ : Hid (W2.heap.size = W0.heap.size + 1) := Lib.hid (by rw [← hlit2]; simp)
                rw [hlit2] at hhl hol
                have HLI := Lib.hid hlit2
                have HOL := Lib.hid hol
                have HHL := Lib.hid hhl
                clear hlit hlit2 hhl hol hHeld
                try simp only [Act.put, List.setIfInBounds_toArray, List.set_cons_zero, List.set_cons_succ]
                refine wpAnyD_one (i := 11) (oi := ⟨some 70, Op.call { callee := Callee.builtin Builtin.append, args := #[Operand.tmp 60, Operand.tmp 69], argTypes := #[22, 22] }, 22, _, _, _⟩) rfl (by kernel_rfl) (by rfl) (fun K hK => ?_)
                refine wp_push (α := ByteArray) _ (.tmp 60) (.tmp 69) 22 rfl wo.heap.size 9 (.string ⟨#[]⟩) 16 Tryd.underlying22 s_info rfl (by decide) v2 notes rfl HOL.out W0.heap.size #[.string x] x (0, 0) 9 rfl HHL.out rfl (by have := hnl.out; omega) (by have := hnl.out; omega) (by have := HS0.out.bb.size; have := HSZ.out; omega) _ rfl ?_
                intro g5 p5 w5 hown5 hg5 hat5 hlt5
                rw [← HLI.out] at hg5 hat5
                have hss := HS0.out.push2 hown5 hg5 hat5
                have HS5 := Lib.hid hss.1
                have kO := hss.2.cell 2 rfl
                have fO := hss.2.fz
                clear hss hown5 hg5 hat5 HOL HHL
                refine hK _ _ (fun h => absurd h (by decide)) ?_
                clear hK K
                try simp only [Act.put, List.setIfInBounds_toArray, List.set_cons_zero, List.set_cons_succ]
                refine wpAnyD_one (i := 12) (oi := ⟨some 71, Op.fieldAddr 24 (Operand.tmp 6) 2, 0, _, _, _⟩) rfl (by kernel_rfl) (by rfl) (fun K hK => ?_)
                go_simp
                refine hK _ _ (fun h => absurd h (by decide)) ?_
                clear hK K
                try simp only [Act.put, List.setIfInBounds_toArray, List.set_cons_zero, List.set_cons_succ]
                refine wpAnyD_one (i := 13) (oi := ⟨none, Op.store 22 (Operand.tmp 71) (Operand.tmp 70), 0, _, _, _⟩) rfl (by kernel_rfl) (by rfl) (fun K hK => ?_)
                go_simp
                refine hK _ _ (fun h => absurd h (by decide)) ?_
                clear hK K
                try simp only [Act.put]
                refine wpAnyD_done (by kernel_rfl) ?_ _
                unfold Exit.then
                go_wp2_with fail
                go_roundw
                case rel => exact ⟨m + 1, _, notes ++ [x], by go_num, by omega, Lib.hid (by have := hnl.out; simp; omega), Lib.hid (fun y hy => by rcases List.mem_append.1 hy with h | h; exact HYS.out y h; obtain rfl := List.mem_singleton.1 h; exact HX.out), HS5⟩
                case measure => (simp [intOf]; omega)
              · have hmq' : ¬ (m : Int) < (n : Int) / 96 % 3 := by omega
                have hsz2 : notes.length ≤ 2 := by have := hnl.out; omega
                have HSZ2 := Lib.hid hsz2
                obtain ⟨A1, c1, e1, hs1⟩ := HSS.out.b.sl
                obtain ⟨A2, c2, e2, hs2⟩ := HSS.out.n.sl
                subst e1 e2
                have k0 := HSS.out.box.cell 0 rfl
                have k1 := HSS.out.box.cell 1 rfl
                have k2 := HSS.out.box.cell 2 rfl
                have HB2 := Lib.hid (HB.out.trans (HSS.out.bb.mono HB.out.size))
                have HO2' := Lib.hid (HO.out.below HSS.out.bb)
                have hba : Below wr.heap.size wr (wr.alloc (.cells #[.string lab, .slice A1 body.length c1, .slice A2 notes.length c2] 24)) := (Below.refl _ _).alloc (Nat.le_refl _) _
                have HO2 := Lib.hid (HO2'.out.below hba)
                have HR : Hid (∀ v : Value, (∀ g, v.ownBlock = some g → g < wo.heap.size) → Rep.R (wr.alloc (.cells #[.string lab, .slice A1 body.length c1, .slice A2 notes.length c2] 24)) (fun b => some b ≠ v.ownBlock) [.string lab, .slice A1 body.length c1, .slice A2 notes.length c2] (⟨lab, body, notes⟩ : Sheet)) := Lib.hid (fun v hv =>
                  ⟨_, _, rfl, ⟨A1, c1, rfl, ((HSS.out.b.sl_base (by rfl)).keep (Kept.all hba) hba.size).mono (fun i hi _ e => by have := hv i e.symm; omega), Nat.lt_of_le_of_lt HSZ1.out (by decide)⟩, ⟨A2, c2, rfl, ((HSS.out.n.sl_base (by rfl)).keep (Kept.all hba) hba.size).mono (fun i hi _ e => by have := hv i e.symm; omega), Nat.lt_of_le_of_lt HSZ2.out (by decide)⟩⟩)
                have HVL : Hid (∀ g, u3.ownBlock = some g → g < wo.heap.size) := Lib.hid (fun g hg => (HO.out.lt g hg).2)
                have HNS : Hid (SmallS ⟨lab, body, notes⟩) := Lib.hid ⟨HLab.out, HSZ1.out, HSZ2.out, HXS.out, HYS.out⟩
                clear hba hs1 hs2 HSS
                go_wp2_with (first
                  | (at_builtin; refine wpList_push (α := Sheet) _ rfl (.tmp 72) (.tmp 74) 26 rfl w.heap.size 24 (.agg #[.string ⟨#[]⟩, .slice none 0 0, .slice none 0 0]) 64 Tryd.underlying26 sheet_info rfl (by decide) u3 sh rfl HO2.out wr.heap.size #[.string lab, .slice A1 body.length c1, .slice A2 notes.length c2] ⟨lab, body, notes⟩ (0, 0) 24 rfl (heap_alloc_new wr _) (HR.out u3 HVL.out) (by omega) (by omega) (by have := HB2.out.size; simp; omega) _ rfl ?_; intro g5 p5 w5 hown5 hg5 hat5 hlt5)
                  | fail)
                go_roundw
                case rel => exact ⟨k + 1, sh ++ [⟨lab, body, notes⟩], by omega, by go_num, by simp; omega, by omega, Lib.hid hown5, Lib.hid (fun y hy => by rcases List.mem_append.1 hy with h | h; exact HSM.out y h; obtain rfl := List.mem_singleton.1 h; exact HNS.out), Lib.hid (below_push HB2.out HO2'.out HB2.out.size hg5)⟩
                case measure => simp [intOf]; omega
      · have hk12' : ¬ (k : Int) < 12 := by omega
        have hkl : (k : Int) < (l.length : Int) := by omega
        go_wp2_with fail
        go_ret
        exact ⟨u3, rfl, sh, HO.out, by omega, HSM.out, HB.out⟩
    · go_wp2_with fail
      go_ret
      exact ⟨u3, rfl, sh, HO.out, by omega, HSM.out, HB.out⟩
end Go.Proofs.YthcklfelofpffaaDoor
