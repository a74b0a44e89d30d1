/- The reference's generator of sheets: Some. No condition.
The sheets of a list whose labels have not occurred before: Different. No condition.
A ledger of lists of sheets made from numbers. No condition but what the table holds.
The reference of the wire format: numbers and strings as bytes. No condition but sizes.
The reference of SHA-256: the bits, the constants, the schedule of a block. No condition.
The reference of SHA-256: the schedule of a block. No condition. -/
import Derived.Test.YthcklfelofpffaaDoorCPd6
import Derived.Laws.Tables
namespace Go.Proofs.YthcklfelofpffaaDoor
open Go.RowKit
/-- A sheet as the generator makes it. -/
def SmallS (s : Sheet) : Prop := s.label.size ≤ 2 ∧ s.body.length ≤ 2 ∧ s.notes.length ≤ 2 ∧ (∀ x ∈ s.body, x.size ≤ 14) ∧ ∀ x ∈ s.notes, x.size ≤ 14
theorem sheet_info : (Tryd.prog.info? 24).map (fun i => (i.zero, i.size, i.bytes)) = some (some (.agg #[.string ⟨#[]⟩, .slice none 0 0, .slice none 0 0]), Rep.size Sheet, 64) := by kernel_rfl
/-- An own row of strings reads from its own block alone. -/
theorem Own.sl_base {w : World} {base : Nat} {e : TypeId} {A : Option Addr} {n c : Nat} {l : List ByteArray} (h : Own w base e (.slice A n c) l) (hn : n = l.length) : Sl w (fun b => base ≤ b) A c l := by
  subst hn
  obtain ⟨A', c', e', hs⟩ := h.sl
  cases e'
  refine ⟨hs.1, hs.2.1, fun h0 => ?_⟩
  obtain ⟨b, o, rfl, _, hlt, hx⟩ := hs.2.2 h0
  refine ⟨b, o, rfl, ?_, hlt, fun i hi => ?_⟩
  · obtain ⟨g, cap, es, e1, hg, _⟩ := h.at_ (k := 0) h0
    cases e1
    exact hg
  · obtain ⟨es, hr, hc⟩ := hx i hi
    exact ⟨es, hr, hc⟩
set_option maxRecDepth 100000 in
set_option maxHeartbeats 4000000 in
theorem some_any (A : Option Addr) (c : Nat) (l : List Int) (w : World) (hl : Sl w (fun b => b < w.heap.size) A c l) :
    Calls Tryd.prog 10 #[.slice A l.length c] w fun e w' => ∃ v : Value, e = .returned v ∧ ∃ sh : List Sheet, Own w' w.heap.size 24 v sh ∧ sh.length ≤ 12 ∧ (∀ s ∈ sh, SmallS s) ∧ Below w.heap.size w w' := by
  have HL := Lib.hid hl
  have hlen : l.length ≤ 9223372036854775807 := by have := hl.1; have := hl.2.1; unfold maxLen at this; omega
  clear hl
  go_enter Tryd.func10, Tryd.ntmps10
  go_wp2_with fail
  go_loopw [3, 4] (fun v i wr => ∃ (k : Nat) (sh : List Sheet), k ≤ l.length ∧ i = .int .i64 k ∧ sh.length ≤ k ∧ k ≤ 12 ∧ Hid (Own wr w.heap.size 24 v sh) ∧ Hid (∀ s ∈ sh, SmallS s) ∧ Hid (Below w.heap.size w wr)) (fun _ i _ => l.length - (intOf i).toNat)
  case atStart => exact ⟨0, [], Nat.zero_le _, rfl, by simp, by omega, Lib.hid (Own.nil _ _ _), Lib.hid (by simp), Lib.hid (Below.refl _ _)⟩
  case round =>
    obtain ⟨k, sh, hk, rfl, hsh, hk12, HO, HSM, HB⟩ := hrel
    by_cases hlt : k < l.length
    · by_cases h12 : k < 12
      · obtain ⟨b, o, rfl, hbS, hbl, hok, c0⟩ := int_at (HL.out.to HB.out) hlt
        have hkl : (k : Int) < (l.length : Int) := by omega
        have hk0 : (0 : Int) ≤ (k : Int) := by omega
        have hk12' : (k : Int) < 12 := by omega
        have HAR := Lib.hid (fun wx => around_any l[k] 1000000 wx hok (by decide) (by decide))
        have hal := aro_lt l[k] 1000000 (by decide)
        generalize aro l[k] 1000000 = nz at *
        obtain ⟨n, rfl⟩ : ∃ n : Nat, nz = (n : Int) := ⟨nz.toNat, by omega⟩
        have hn6 : (n : Int) ≤ 1000000 := by omega
        clear hal
        generalize l[k] = lk at *
        obtain ⟨lab, d0, hlab⟩ := lit_at labels (n % 8) 2 labels_ok (Nat.mod_lt _ (by decide))
        simp only [labels, List.map_cons, List.map_nil] at d0
        have HLab := Lib.hid hlab
        clear hlab
        go_upto_region 8 with (first | (go_at_call 25; refine (HAR.out _).mono ?_; rintro e w' ⟨rfl, rfl⟩) | fail)
        have HSS : Hid (SS wr (((wr.alloc (.cells (labels.map Value.string).toArray 9)).alloc (.cells #[.string lab, .slice none 0 0, .slice none 0 0] 24)).alloc (.cells (phrases.map Value.string).toArray 9)) (wr.heap.size + 1) (wr.heap.size + 1 + 1) lab (.slice none 0 0) (.slice none 0 0) [] []) := Lib.hid
          ⟨by unfold ABox; rw [Below.heap_alloc _ _ _ (by simp)]; exact heap_at (by simp), Own.nil _ _ _, Own.nil _ _ _, heap_at (by simp), by omega, by omega, by omega, by simp [Value.ownBlock], by simp [Value.ownBlock], by simp [Value.ownBlock], by simp [Value.ownBlock], by simp [Value.ownBlock], (((Below.refl _ _).alloc (Nat.le_refl _) _).alloc (by simp) _).alloc (by simp; omega) _⟩
        generalize hw : World.alloc (World.alloc (World.alloc wr _) _) _ = w1
        have hv : ((wr.alloc (.cells (labels.map Value.string).toArray 9)).alloc (.cells #[.string lab, .slice none 0 0, .slice none 0 0] 24)).alloc (.cells (phrases.map Value.string).toArray 9) = w1 := hw
        rw [hv] at HSS
        clear hw hv d0
        generalize wr.heap.size + 1 + 1 = Wb at *
        generalize wr.heap.size + 1 = O at *
        obtain ⟨wo, rfl⟩ : ∃ wo : World, wo = wr := ⟨_, rfl⟩
        go_wp2_with fail
        go_loopw [8] (fun kk ww => ∃ (m : Nat) (v1 : Value) (body : List ByteArray), kk = .int .i64 m ∧ m ≤ n / 8 % 3 ∧ Hid (body.length = m) ∧ Hid (∀ x ∈ body, x.size ≤ 14) ∧ Hid (SS wo ww O Wb lab v1 (.slice none 0 0) body [])) (fun kk _ => 3 - (intOf kk).toNat)
        case atStart => exact ⟨0, _, [], rfl, Nat.zero_le _, Lib.hid rfl, Lib.hid (by simp), HSS⟩
        case round =>
          obtain ⟨m, v1, body, rfl, hm, hbl, HXS, HSS⟩ := hrel
          by_cases hmq : m < n / 8 % 3
          · have hm2 : m ≤ 2 := by omega
            have hmq' : (m : Int) < (n : Int) / 8 % 3 := by omega
            have hw1 : IntKind.i64.wrap ((n : Int) / 24 + (m : Int)) = (n : Int) / 24 + (m : Int) := by rw [IntWalk.i64_in _ (by omega)]
            have hwA : IntKind.i64.wrap ((n : Int) / 24) = (n : Int) / 24 := by rw [IntWalk.i64_in _ (by omega)]
            obtain ⟨j, hj⟩ : ∃ j, j = (n / 24 + m) % 4 := ⟨_, rfl⟩
            have htm : ((n : Int) / 24 + (m : Int)).tmod 4 = (j : Int) := by rw [Int.tmod_eq_emod_of_nonneg (by omega)]; omega
            have hj4 : (j : Int) < 4 := by omega
            have hj4' : j < 4 := by omega
            clear hj
            obtain ⟨x, dx, hx⟩ := lit_at phrases j 14 phrases_ok hj4'
            have hwx : wr.drew.cell? ⟨Wb, j, none⟩ = some (.string x) := HSS.out.drew.w.cell _ dx
            have hbx : wr.drew.cell? ⟨O, 1, none⟩ = some v1 := HSS.out.drew.box.cell 1 rfl
            have HX := Lib.hid hx
            have HS0 := Lib.hid HSS.out.drew
            have hHeld := And.intro hbx hwx
            clear dx hx hwx hbx HSS
            go_upto_region 11 with (fail)
            refine wp_region_D (fun w' => w'.cell? ⟨O, 1, none⟩ = some v1 ∧ w'.cell? ⟨Wb, j, none⟩ = some (.string x)) (fun i => decide (i < 11)) (by kernel_rfl) ?_
            generalize wr.drew = W0 at *
            refine wpAnyE_take (i := 0) (oi := ⟨some 39, Op.fieldAddr 24 (Operand.tmp 6) 1, 0, _, _, _⟩) (v := ?_) rfl (by kernel_rfl) (by kernel_rfl) (by kernel_rfl) (by kernel_rfl) (by kernel_rfl) (fun _ _ _ h => h) (by rfl) ?hyks1_1 (hHeld) ?hrks1_1
            case hyks1_1 => (intro wS hSw; clear hSw; go_simp; (try with_reducible rfl))
            all_goals try simp only [Act.put, List.setIfInBounds_toArray, List.set_cons_zero, List.set_cons_succ]
            refine wpAnyE_take (i := 1) (oi := ⟨some 40, Op.load 22 (Operand.tmp 39), 22, _, _, _⟩) (v := ?_) rfl (by kernel_rfl) (by kernel_rfl) (by kernel_rfl) (by kernel_rfl) (by kernel_rfl) (fun _ _ _ h => h) (by rfl) ?hyks1_2 (hHeld) ?hrks1_2
            case hyks1_2 => (intro wS hSw; (have hq := hSw.1); clear hSw; go_simp; (try with_reducible rfl))
            all_goals try simp only [Act.put, List.setIfInBounds_toArray, List.set_cons_zero, List.set_cons_succ]
            refine wpAnyE_take (i := 2) (oi := ⟨some 41, Op.move (Operand.tmp 7), 22, _, _, _⟩) (v := ?_) rfl (by kernel_rfl) (by kernel_rfl) (by kernel_rfl) (by kernel_rfl) (by kernel_rfl) (fun _ _ _ h => h) (by rfl) ?hyks1_3 (hHeld) ?hrks1_3
            case hyks1_3 => (intro wS hSw; clear hSw; go_simp; (try with_reducible rfl))
            all_goals try simp only [Act.put, List.setIfInBounds_toArray, List.set_cons_zero, List.set_cons_succ]
            refine wpAnyE_take (i := 3) (oi := ⟨some 42, Op.move (Operand.tmp 5), 3, _, _, _⟩) (v := ?_) rfl (by kernel_rfl) (by kernel_rfl) (by kernel_rfl) (by kernel_rfl) (by kernel_rfl) (fun _ _ _ h => h) (by rfl) ?hyks1_4 (hHeld) ?hrks1_4
            case hyks1_4 => (intro wS hSw; clear hSw; go_simp; (try with_reducible rfl))
            all_goals try simp only [Act.put, List.setIfInBounds_toArray, List.set_cons_zero, List.set_cons_succ]
            refine wpAnyE_take (i := 4) (oi := ⟨some 43, Op.binOp BinOp.quo 3 (Operand.tmp 42) (Operand.const (Value.int IntKind.i64 24)) 3, 3, _, _, _⟩) (v := ?_) rfl (by kernel_rfl) (by kernel_rfl) (by kernel_rfl) (by kernel_rfl) (by kernel_rfl) (fun _ _ _ h => h) (by rfl) ?hyks1_5 (hHeld) ?hrks1_5
            case hyks1_5 => (intro wS hSw; clear hSw; go_simp; (try with_reducible rfl))
            all_goals try simp only [Act.put, List.setIfInBounds_toArray, List.set_cons_zero, List.set_cons_succ]
            refine wpAnyE_take (i := 5) (oi := ⟨some 44, Op.move (Operand.tmp 8), 3, _, _, _⟩) (v := ?_) rfl (by kernel_rfl) (by kernel_rfl) (by kernel_rfl) (by kernel_rfl) (by kernel_rfl) (fun _ _ _ h => h) (by rfl) ?hyks1_6 (hHeld) ?hrks1_6
            case hyks1_6 => (intro wS hSw; clear hSw; go_simp; (try with_reducible rfl))
            all_goals try simp only [Act.put, List.setIfInBounds_toArray, List.set_cons_zero, List.set_cons_succ]
            refine wpAnyE_take (i := 6) (oi := ⟨some 45, Op.binOp BinOp.add 3 (Operand.tmp 43) (Operand.tmp 44) 3, 3, _, _, _⟩) (v := ?_) rfl (by kernel_rfl) (by kernel_rfl) (by kernel_rfl) (by kernel_rfl) (by kernel_rfl) (fun _ _ _ h => h) (by rfl) ?hyks1_7 (hHeld) ?hrks1_7
            case hyks1_7 => (intro wS hSw; clear hSw; go_simp; (try with_reducible rfl))
            all_goals try simp only [Act.put, List.setIfInBounds_toArray, List.set_cons_zero, List.set_cons_succ]
            refine wpAnyE_take (i := 7) (oi := ⟨some 46, Op.binOp BinOp.rem 3 (Operand.tmp 45) (Operand.const (Value.int IntKind.i64 4)) 3, 3, _, _, _⟩) (v := ?_) rfl (by kernel_rfl) (by kernel_rfl) (by kernel_rfl) (by kernel_rfl) (by kernel_rfl) (fun _ _ _ h => h) (by rfl) ?hyks1_8 (hHeld) ?hrks1_8
            case hyks1_8 => (intro wS hSw; clear hSw; go_simp; (try with_reducible rfl))
            all_goals try simp only [Act.put, List.setIfInBounds_toArray, List.set_cons_zero, List.set_cons_succ]
            refine wpAnyE_take (i := 8) (oi := ⟨some 47, Op.indexAddr 22 (Operand.tmp 41) (Operand.tmp 46), 0, _, _, _⟩) (v := ?_) rfl (by kernel_rfl) (by kernel_rfl) (by kernel_rfl) (by kernel_rfl) (by kernel_rfl) (fun _ _ _ h => h) (by rfl) ?hyks1_9 (hHeld) ?hrks1_9
            case hyks1_9 => (intro wS hSw; clear hSw; go_simp; (try with_reducible rfl))
            all_goals try simp only [Act.put, List.setIfInBounds_toArray, List.set_cons_zero, List.set_cons_succ]
            refine wpAnyE_take (i := 9) (oi := ⟨some 48, Op.load 9 (Operand.tmp 47), 9, _, _, _⟩) (v := ?_) rfl (by kernel_rfl) (by kernel_rfl) (by kernel_rfl) (by kernel_rfl) (by kernel_rfl) (fun _ _ _ h => h) (by rfl) ?hyks1_10 (hHeld) ?hrks1_10
            case hyks1_10 => (intro wS hSw; (have hq := hSw.2); clear hSw; go_simp; (try with_reducible rfl))
            all_goals try simp only [Act.put, List.setIfInBounds_toArray, List.set_cons_zero, List.set_cons_succ]
            refine wpAnyD_one (i := 10) (oi := ⟨some 49, Op.buildSlice 22 1 #[(0, Operand.tmp 48)], 22, _, _, _⟩) rfl (by kernel_rfl) (by rfl) (fun K hK => ?_)
            go_simp
            refine hK _ _ (fun _ => ?_) ?_
            · exact ⟨(((Below.refl W0.heap.size W0).alloc (Nat.le_refl _) _).cell (p := ⟨O, 1, none⟩) HS0.out.box.lt).trans hHeld.1, (((Below.refl W0.heap.size W0).alloc (Nat.le_refl _) _).cell (p := ⟨Wb, j, none⟩) HS0.out.w.lt).trans hHeld.2⟩
            clear hK K
            generalize hlit : World.alloc _ _ = W2
            have hhl := heap_alloc_new W0 (.cells #[.string x] 9)
            have hol := HS0.out.b.alloc (.cells #[.string x] 9)
            have hlit2 : W0.alloc (.cells #[.string x] 9) = W2 := hlit
            have HSZ : Hid (W2.heap.size = W0.heap.size + 1) := Lib.hid (by rw [← hlit2]; simp)
            rw [hlit2] at hhl hol
            have HLI := Lib.hid hlit2
            have HOL := Lib.hid hol
            have HHL := Lib.hid hhl
            clear hlit hlit2 hhl hol hHeld
            try simp only [Act.put, List.setIfInBounds_toArray, List.set_cons_zero, List.set_cons_succ]
            refine wpAnyD_one (i := 11) (oi := ⟨some 50, Op.call { callee := Callee.builtin Builtin.append, args := #[Operand.tmp 40, Operand.tmp 49], argTypes := #[22, 22] }, 22, _, _, _⟩) rfl (by kernel_rfl) (by rfl) (fun K hK => ?_)
            refine wp_push (α := ByteArray) _ (.tmp 40) (.tmp 49) 22 rfl wo.heap.size 9 (.string ⟨#[]⟩) 16 Tryd.underlying22 s_info rfl (by decide) v1 body rfl HOL.out W0.heap.size #[.string x] x (0, 0) 9 rfl HHL.out rfl (by have := hbl.out; omega) (by have := hbl.out; omega) (by have := HS0.out.bb.size; have := HSZ.out; omega) _ rfl ?_
            intro g5 p5 w5 hown5 hg5 hat5 hlt5
            rw [← HLI.out] at hg5 hat5
            have hss := HS0.out.push1 hown5 hg5 hat5
            have HS5 := Lib.hid hss.1
            have kO := hss.2.cell 1 rfl
            have fO := hss.2.fz
            clear hss hown5 hg5 hat5 HOL HHL
            refine hK _ _ (fun h => absurd h (by decide)) ?_
            clear hK K
            try simp only [Act.put, List.setIfInBounds_toArray, List.set_cons_zero, List.set_cons_succ]
            refine wpAnyD_one (i := 12) (oi := ⟨some 51, Op.fieldAddr 24 (Operand.tmp 6) 1, 0, _, _, _⟩) rfl (by kernel_rfl) (by rfl) (fun K hK => ?_)
            go_simp
            refine hK _ _ (fun h => absurd h (by decide)) ?_
            clear hK K
            try simp only [Act.put, List.setIfInBounds_toArray, List.set_cons_zero, List.set_cons_succ]
            refine wpAnyD_one (i := 13) (oi := ⟨none, Op.store 22 (Operand.tmp 51) (Operand.tmp 50), 0, _, _, _⟩) rfl (by kernel_rfl) (by rfl) (fun K hK => ?_)
            go_simp
            refine hK _ _ (fun h => absurd h (by decide)) ?_
            clear hK K
            try simp only [Act.put]
            refine wpAnyD_done (by kernel_rfl) ?_ _
            unfold Exit.then
            go_wp2_with fail
            go_roundw
            case rel => exact ⟨m + 1, _, body ++ [x], by go_num, by omega, Lib.hid (by have := hbl.out; simp; omega), Lib.hid (fun y hy => by rcases List.mem_append.1 hy with h | h; exact HXS.out y h; obtain rfl := List.mem_singleton.1 h; exact HX.out), HS5⟩
            case measure => (simp [intOf]; omega)
          · have hmq' : ¬ (m : Int) < (n : Int) / 8 % 3 := by omega
            have hsz1 : body.length ≤ 2 := by have := hbl.out; omega
            have HSZ1 := Lib.hid hsz1
            clear hsz1
            go_wp2_with fail
            clear hbl hmq' hmq hm
            go_loopw [9] (fun kk ww => ∃ (m : Nat) (v2 : Value) (notes : List ByteArray), kk = .int .i64 m ∧ m ≤ n / 96 % 3 ∧ Hid (notes.length = m) ∧ Hid (∀ x ∈ notes, x.size ≤ 14) ∧ Hid (SS wo ww O Wb lab v1 v2 body notes)) (fun kk _ => 3 - (intOf kk).toNat)
            case atStart => exact ⟨0, _, [], rfl, Nat.zero_le _, Lib.hid rfl, Lib.hid (by simp), HSS⟩
            case round =>
              obtain ⟨m, v2, notes, rfl, hm, hnl, HYS, HSS⟩ := hrel
              by_cases hmq : m < n / 96 % 3
              · have hm2 : m ≤ 2 := by omega
                have hmq' : (m : Int) < (n : Int) / 96 % 3 := by omega
                have hw1 : IntKind.i64.wrap ((n : Int) / 288 + (m : Int)) = (n : Int) / 288 + (m : Int) := by rw [IntWalk.i64_in _ (by omega)]
                have hwA : IntKind.i64.wrap ((n : Int) / 288) = (n : Int) / 288 := by rw [IntWalk.i64_in _ (by omega)]
                obtain ⟨j, hj⟩ : ∃ j, j = (n / 288 + m) % 4 := ⟨_, rfl⟩
                have htm : ((n : Int) / 288 + (m : Int)).tmod 4 = (j : Int) := by rw [Int.tmod_eq_emod_of_nonneg (by omega)]; omega
                have hj4 : (j : Int) < 4 := by omega
                have hj4' : j < 4 := by omega
                clear hj
                obtain ⟨x, dx, hx⟩ := lit_at phrases j 14 phrases_ok hj4'
                have hwx : wr.drew.cell? ⟨Wb, j, none⟩ = some (.string x) := HSS.out.drew.w.cell _ dx
                have hbx : wr.drew.cell? ⟨O, 2, none⟩ = some v2 := HSS.out.drew.box.cell 2 rfl
                have HX := Lib.hid hx
                have HS0 := Lib.hid HSS.out.drew
                have hHeld := And.intro hbx hwx
                clear dx hx hwx hbx HSS
                go_upto_region 15 with (fail)
                refine wp_region_D (fun w' => w'.cell? ⟨O, 2, none⟩ = some v2 ∧ w'.cell? ⟨Wb, j, none⟩ = some (.string x)) (fun i => decide (i < 11)) (by kernel_rfl) ?_
                generalize wr.drew = W0 at *
                refine wpAnyE_take (i := 0) (oi := ⟨some 59, Op.fieldAddr 24 (Operand.tmp 6) 2, 0, _, _, _⟩) (v := ?_) rfl (by kernel_rfl) (by kernel_rfl) (by kernel_rfl) (by kernel_rfl) (by kernel_rfl) (fun _ _ _ h => h) (by rfl) ?hyks2_1 (hHeld) ?hrks2_1
                case hyks2_1 => (intro wS hSw; clear hSw; go_simp; (try with_reducible rfl))
                all_goals try simp only [Act.put, List.setIfInBounds_toArray, List.set_cons_zero, List.set_cons_succ]
                refine wpAnyE_take (i := 1) (oi := ⟨some 60, Op.load 22 (Operand.tmp 59), 22, _, _, _⟩) (v := ?_) rfl (by kernel_rfl) (by kernel_rfl) (by kernel_rfl) (by kernel_rfl) (by kernel_rfl) (fun _ _ _ h => h) (by rfl) ?hyks2_2 (hHeld) ?hrks2_2
                case hyks2_2 => (intro wS hSw; (have hq := hSw.1); clear hSw; go_simp; (try with_reducible rfl))
                all_goals try simp only [Act.put, List.setIfInBounds_toArray, List.set_cons_zero, List.set_cons_succ]
                refine wpAnyE_take (i := 2) (oi := ⟨some 61, Op.move (Operand.tmp 7), 22, _, _, _⟩) (v := ?_) rfl (by kernel_rfl) (by kernel_rfl) (by kernel_rfl) (by kernel_rfl) (by kernel_rfl) (fun _ _ _ h => h) (by rfl) ?hyks2_3 (hHeld) ?hrks2_3
                case hyks2_3 => (intro wS hSw; clear hSw; go_simp; (try with_reducible rfl))
                all_goals try simp only [Act.put, List.setIfInBounds_toArray, List.set_cons_zero, List.set_cons_succ]
                refine wpAnyE_take (i := 3) (oi := ⟨some 62, Op.move (Operand.tmp 5), 3, _, _, _⟩) (v := ?_) rfl (by kernel_rfl) (by kernel_rfl) (by kernel_rfl) (by kernel_rfl) (by kernel_rfl) (fun _ _ _ h => h) (by rfl) ?hyks2_4 (hHeld) ?hrks2_4
                case hyks2_4 => (intro wS hSw; clear hSw; go_simp; (try with_reducible rfl))
                all_goals try simp only [Act.put, List.setIfInBounds_toArray, List.set_cons_zero, List.set_cons_succ]
                refine wpAnyE_take (i := 4) (oi := ⟨some 63, Op.binOp BinOp.quo 3 (Operand.tmp 62) (Operand.const (Value.int IntKind.i64 288)) 3, 3, _, _, _⟩) (v := ?_) rfl (by kernel_rfl) (by kernel_rfl) (by kernel_rfl) (by kernel_rfl) (by kernel_rfl) (fun _ _ _ h => h) (by rfl) ?hyks2_5 (hHeld) ?hrks2_5
                case hyks2_5 => (intro wS hSw; clear hSw; go_simp; (try with_reducible rfl))
                all_goals try simp only [Act.put, List.setIfInBounds_toArray, List.set_cons_zero, List.set_cons_succ]
                refine wpAnyE_take (i := 5) (oi := ⟨some 64, Op.move (Operand.tmp 9), 3, _, _, _⟩) (v := ?_) rfl (by kernel_rfl) (by kernel_rfl) (by kernel_rfl) (by kernel_rfl) (by kernel_rfl) (fun _ _ _ h => h) (by rfl) ?hyks2_6 (hHeld) ?hrks2_6
                case hyks2_6 => (intro wS hSw; clear hSw; go_simp; (try with_reducible rfl))
                all_goals try simp only [Act.put, List.setIfInBounds_toArray, List.set_cons_zero, List.set_cons_succ]
                refine wpAnyE_take (i := 6) (oi := ⟨some 65, Op.binOp BinOp.add 3 (Operand.tmp 63) (Operand.tmp 64) 3, 3, _, _, _⟩) (v := ?_) rfl (by kernel_rfl) (by kernel_rfl) (by kernel_rfl) (by kernel_rfl) (by kernel_rfl) (fun _ _ _ h => h) (by rfl) ?hyks2_7 (hHeld) ?hrks2_7
                case hyks2_7 => (intro wS hSw; clear hSw; go_simp; (try with_reducible rfl))
                all_goals try simp only [Act.put, List.setIfInBounds_toArray, List.set_cons_zero, List.set_cons_succ]
                refine wpAnyE_take (i := 7) (oi := ⟨some 66, Op.binOp BinOp.rem 3 (Operand.tmp 65) (Operand.const (Value.int IntKind.i64 4)) 3, 3, _, _, _⟩) (v := ?_) rfl (by kernel_rfl) (by kernel_rfl) (by kernel_rfl) (by kernel_rfl) (by kernel_rfl) (fun _ _ _ h => h) (by rfl) ?hyks2_8 (hHeld) ?hrks2_8
                case hyks2_8 => (intro wS hSw; clear hSw; go_simp; (try with_reducible rfl))
                all_goals try simp only [Act.put, List.setIfInBounds_toArray, List.set_cons_zero, List.set_cons_succ]
                refine wpAnyE_take (i := 8) (oi := ⟨some 67, Op.indexAddr 22 (Operand.tmp 61) (Operand.tmp 66), 0, _, _, _⟩) (v := ?_) rfl (by kernel_rfl) (by kernel_rfl) (by kernel_rfl) (by kernel_rfl) (by kernel_rfl) (fun _ _ _ h => h) (by rfl) ?hyks2_9 (hHeld) ?hrks2_9
                case hyks2_9 => (intro wS hSw; clear hSw; go_simp; (try with_reducible rfl))
                all_goals try simp only [Act.put, List.setIfInBounds_toArray, List.set_cons_zero, List.set_cons_succ]
                refine wpAnyE_take (i := 9) (oi := ⟨some 68, Op.load 9 (Operand.tmp 67), 9, _, _, _⟩) (v := ?_) rfl (by kernel_rfl) (by kernel_rfl) (by kernel_rfl) (by kernel_rfl) (by kernel_rfl) (fun _ _ _ h => h) (by rfl) ?hyks2_10 (hHeld) ?hrks2_10
                case hyks2_10 => (intro wS hSw; (have hq := hSw.2); clear hSw; go_simp; (try with_reducible rfl))
                all_goals try simp only [Act.put, List.setIfInBounds_toArray, List.set_cons_zero, List.set_cons_succ]
                refine wpAnyD_one (i := 10) (oi := ⟨some 69, Op.buildSlice 22 1 #[(0, Operand.tmp 68)], 22, _, _, _⟩) rfl (by kernel_rfl) (by rfl) (fun K hK => ?_)
                go_simp
                refine hK _ _ (fun _ => ?_) ?_
                · exact ⟨(((Below.refl W0.heap.size W0).alloc (Nat.le_refl _) _).cell (p := ⟨O, 2, none⟩) HS0.out.box.lt).trans hHeld.1, (((Below.refl W0.heap.size W0).alloc (Nat.le_refl _) _).cell (p := ⟨Wb, j, none⟩) HS0.out.w.lt).trans hHeld.2⟩
                clear hK K
                generalize hlit : World.alloc _ _ = W2
                have hhl := heap_alloc_new W0 (.cells #[.string x] 9)
                have hol := HS0.out.n.alloc (.cells #[.string x] 9)
                have hlit2 : W0.alloc (.cells #[.string x] 9) = W2 := hlit
                have HSZ : Hid (W2.heap.size = W0.heap.size + 1) := Lib.hid (by rw [← hlit2]; simp)
                rw [hlit2] at hhl hol
                have HLI := Lib.hid hlit2
                have HOL := Lib.hid hol
                have HHL := Lib.hid hhl
                clear hlit hlit2 hhl hol hHeld
                try simp only [Act.put, List.setIfInBounds_toArray, List.set_cons_zero, List.set_cons_succ]
                refine wpAnyD_one (i := 11) (oi := ⟨some 70, Op.call { callee := Callee.builtin Builtin.append, args := #[Operand.tmp 60, Operand.tmp 69], argTypes := #[22, 22] }, 22, _, _, _⟩) rfl (by kernel_rfl) (by rfl) (fun K hK => ?_)
                refine wp_push (α := ByteArray) _ (.tmp 60) (.tmp 69) 22 rfl wo.heap.size 9 (.string ⟨#[]⟩) 16 Tryd.underlying22 s_info rfl (by decide) v2 notes rfl HOL.out W0.heap.size #[.string x] x (0, 0) 9 rfl HHL.out rfl (by have := hnl.out; omega) (by have := hnl.out; omega) (by have := HS0.out.bb.size; have := HSZ.out; omega) _ rfl ?_
                intro g5 p5 w5 hown5 hg5 hat5 hlt5
                rw [← HLI.out] at hg5 hat5
                have hss := HS0.out.push2 hown5 hg5 hat5
                have HS5 := Lib.hid hss.1
                have kO := hss.2.cell 2 rfl
                have fO := hss.2.fz
                clear hss hown5 hg5 hat5 HOL HHL
                refine hK _ _ (fun h => absurd h (by decide)) ?_
                clear hK K
                try simp only [Act.put, List.setIfInBounds_toArray, List.set_cons_zero, List.set_cons_succ]
                refine wpAnyD_one (i := 12) (oi := ⟨some 71, Op.fieldAddr 24 (Operand.tmp 6) 2, 0, _, _, _⟩) rfl (by kernel_rfl) (by rfl) (fun K hK => ?_)
                go_simp
                refine hK _ _ (fun h => absurd h (by decide)) ?_
                clear hK K
                try simp only [Act.put, List.setIfInBounds_toArray, List.set_cons_zero, List.set_cons_succ]
                refine wpAnyD_one (i := 13) (oi := ⟨none, Op.store 22 (Operand.tmp 71) (Operand.tmp 70), 0, _, _, _⟩) rfl (by kernel_rfl) (by rfl) (fun K hK => ?_)
                go_simp
                refine hK _ _ (fun h => absurd h (by decide)) ?_
                clear hK K
                try simp only [Act.put]
                refine wpAnyD_done (by kernel_rfl) ?_ _
                unfold Exit.then
                go_wp2_with fail
                go_roundw
                case rel => exact ⟨m + 1, _, notes ++ [x], by go_num, by omega, Lib.hid (by have := hnl.out; simp; omega), Lib.hid (fun y hy => by rcases List.mem_append.1 hy with h | h; exact HYS.out y h; obtain rfl := List.mem_singleton.1 h; exact HX.out), HS5⟩
                case measure => (simp [intOf]; omega)
              · have hmq' : ¬ (m : Int) < (n : Int) / 96 % 3 := by omega
                have hsz2 : notes.length ≤ 2 := by have := hnl.out; omega
                have HSZ2 := Lib.hid hsz2
                obtain ⟨A1, c1, e1, hs1⟩ := HSS.out.b.sl
                obtain ⟨A2, c2, e2, hs2⟩ := HSS.out.n.sl
                subst e1 e2
                have k0 := HSS.out.box.cell 0 rfl
                have k1 := HSS.out.box.cell 1 rfl
                have k2 := HSS.out.box.cell 2 rfl
                have HB2 := Lib.hid (HB.out.trans (HSS.out.bb.mono HB.out.size))
                have HO2' := Lib.hid (HO.out.below HSS.out.bb)
                have hba : Below wr.heap.size wr (wr.alloc (.cells #[.string lab, .slice A1 body.length c1, .slice A2 notes.length c2] 24)) := (Below.refl _ _).alloc (Nat.le_refl _) _
                have HO2 := Lib.hid (HO2'.out.below hba)
                have HR : Hid (∀ v : Value, (∀ g, v.ownBlock = some g → g < wo.heap.size) → Rep.R (wr.alloc (.cells #[.string lab, .slice A1 body.length c1, .slice A2 notes.length c2] 24)) (fun b => some b ≠ v.ownBlock) [.string lab, .slice A1 body.length c1, .slice A2 notes.length c2] (⟨lab, body, notes⟩ : Sheet)) := Lib.hid (fun v hv =>
                  ⟨_, _, rfl, ⟨A1, c1, rfl, ((HSS.out.b.sl_base (by rfl)).keep (Kept.all hba) hba.size).mono (fun i hi _ e => by have := hv i e.symm; omega), Nat.lt_of_le_of_lt HSZ1.out (by decide)⟩, ⟨A2, c2, rfl, ((HSS.out.n.sl_base (by rfl)).keep (Kept.all hba) hba.size).mono (fun i hi _ e => by have := hv i e.symm; omega), Nat.lt_of_le_of_lt HSZ2.out (by decide)⟩⟩)
                have HVL : Hid (∀ g, u3.ownBlock = some g → g < wo.heap.size) := Lib.hid (fun g hg => (HO.out.lt g hg).2)
                have HNS : Hid (SmallS ⟨lab, body, notes⟩) := Lib.hid ⟨HLab.out, HSZ1.out, HSZ2.out, HXS.out, HYS.out⟩
                clear hba hs1 hs2 HSS
                go_wp2_with (first
                  | (at_builtin; refine wpList_push (α := Sheet) _ rfl (.tmp 72) (.tmp 74) 26 rfl w.heap.size 24 (.agg #[.string ⟨#[]⟩, .slice none 0 0, .slice none 0 0]) 64 Tryd.underlying26 sheet_info rfl (by decide) u3 sh rfl HO2.out wr.heap.size #[.string lab, .slice A1 body.length c1, .slice A2 notes.length c2] ⟨lab, body, notes⟩ (0, 0) 24 rfl (heap_alloc_new wr _) (HR.out u3 HVL.out) (by omega) (by omega) (by have := HB2.out.size; simp; omega) _ rfl ?_; intro g5 p5 w5 hown5 hg5 hat5 hlt5)
                  | fail)
                go_roundw
                case rel => exact ⟨k + 1, sh ++ [⟨lab, body, notes⟩], by omega, by go_num, by simp; omega, by omega, Lib.hid hown5, Lib.hid (fun y hy => by rcases List.mem_append.1 hy with h | h; exact HSM.out y h; obtain rfl := List.mem_singleton.1 h; exact HNS.out), Lib.hid (below_push HB2.out HO2'.out HB2.out.size hg5)⟩
                case measure => simp [intOf]; omega
      · have hk12' : ¬ (k : Int) < 12 := by omega
        have hkl : (k : Int) < (l.length : Int) := by omega
        go_wp2_with fail
        go_ret
        exact ⟨u3, rfl, sh, HO.out, by omega, HSM.out, HB.out⟩
    · go_wp2_with fail
      go_ret
      exact ⟨u3, rfl, sh, HO.out, by omega, HSM.out, HB.out⟩
end Go.Proofs.YthcklfelofpffaaDoor
namespace Go.Proofs.YthcklfelofpffaaDoor
open Go.RowKit
/-- Sheets among a list, with different labels. -/
def DiffS (l d : List Sheet) : Prop := (d.map (·.label)).Nodup ∧ ∀ s ∈ d, s ∈ l
theorem any_take_succ {α : Type} (p : α → Bool) (l : List α) (m : Nat) (h : m < l.length) : (l.take (m + 1)).any p = ((l.take m).any p || p l[m]) := by
  rw [List.take_succ_eq_append_getElem h, List.any_append]; simp
set_option maxRecDepth 100000 in
set_option maxHeartbeats 4000000 in
theorem different_any (A : Option Addr) (c : Nat) (l : List Sheet) (w : World) (hl : Sl w (fun b => b < w.heap.size) A c l) (hlm : l.length ≤ 1000) :
    Calls Tryd.prog 19 #[.slice A l.length c] w fun e w' => ∃ v : Value, e = .returned v ∧ ∃ d : List Sheet, Own w' w.heap.size 24 v d ∧ d.length ≤ l.length ∧ DiffS l d ∧ Below w.heap.size w w' := by
  have HL := Lib.hid hl
  clear hl
  go_enter Tryd.func19, Tryd.ntmps19
  go_wp2_with fail
  go_loopw [3, 4] (fun v i wr => ∃ (k : Nat) (d : List Sheet), k ≤ l.length ∧ i = .int .i64 k ∧ d.length ≤ k ∧ Hid (Own wr w.heap.size 24 v d) ∧ Hid (DiffS l d) ∧ Hid (Below w.heap.size w wr)) (fun _ i _ => l.length - (intOf i).toNat)
  case atStart => exact ⟨0, [], Nat.zero_le _, rfl, by simp, Lib.hid (Own.nil _ _ _), Lib.hid ⟨by simp, by simp⟩, Lib.hid (Below.refl _ _)⟩
  case round =>
    obtain ⟨k, d, hk, rfl, hdk, HO, HD, HB⟩ := hrel
    by_cases hlt : k < l.length
    · obtain ⟨b, o, A1, c1, A2, c2, rfl, hbS, hbl, e0, e1, e2, s1, s2⟩ := sheet_at (HL.out.to HB.out) hlt
      have hkl : (k : Int) < (l.length : Int) := by omega
      have hk0 : (0 : Int) ≤ (k : Int) := by omega
      have HX : Hid (∀ s, s = l[k] → s ∈ l) := Lib.hid (fun s e => by rw [e]; exact List.getElem_mem _)
      have HXE : Hid (∃ s, s = l[k]) := Lib.hid ⟨_, rfl⟩
      generalize hx : l[k] = x at *
      have HXX := Lib.hid hx
      clear hx
      have HXR : Hid ((∀ W (v : Value), Below w.heap.size w W → (∀ g, v.ownBlock = some g → w.heap.size ≤ g) → Sl W (fun b => some b ≠ v.ownBlock) A1 c1 x.body) ∧ (∀ W (v : Value), Below w.heap.size w W → (∀ g, v.ownBlock = some g → w.heap.size ≤ g) → Sl W (fun b => some b ≠ v.ownBlock) A2 c2 x.notes) ∧ x.body.length < 9223372036854775808 ∧ x.notes.length < 9223372036854775808) := by
        obtain ⟨b', o', A1', c1', A2', c2', e', _, hbl', e0', e1', e2', s1', s2'⟩ := sheet_at HL.out hlt
        rw [HXX.out] at e1' e2' s1' s2'
        cases e'
        have h1 := (HB.out.cell (p := ⟨b, o + k * 3 + 1, none⟩) hbl').trans e1'
        have h2 := (HB.out.cell (p := ⟨b, o + k * 3 + 2, none⟩) hbl').trans e2'
        rw [e1] at h1
        rw [e2] at h2
        obtain ⟨rfl, rfl⟩ : A1 = A1' ∧ c1 = c1' := by simpa using h1
        obtain ⟨rfl, rfl⟩ : A2 = A2' ∧ c2 = c2' := by simpa using h2
        refine Lib.hid ⟨fun W v hb hv => (s1'.keep (Kept.below hb (fun _ h => h)) hb.size).mono (fun i hi _ e => by have := hv i e.symm; omega), fun W v hb hv => (s2'.keep (Kept.below hb (fun _ h => h)) hb.size).mono (fun i hi _ e => by have := hv i e.symm; omega), ?_, ?_⟩
        · have := s1'.1; have := s1'.2.1; unfold maxLen at this; omega
        · have := s2'.1; have := s2'.2.1; unfold maxLen at this; omega
      obtain ⟨A3, c3, ev, hvs⟩ := HO.out.sl
      have HVS := Lib.hid hvs
      clear hvs
      subst ev
      obtain ⟨wo, rfl⟩ : ∃ wo : World, wo = wr := ⟨_, rfl⟩
      have HE := Lib.hid (And.intro e0 (And.intro e1 e2))
      have HS1 := Lib.hid s1
      have HS2 := Lib.hid s2
      clear e0 e1 e2 s1 s2
      go_wp2_with fail
      go_loopw [5, 6] (fun kb kk ww => ∃ (m : Nat) (q : Bool), kb = .bool q ∧ kk = .int .i64 m ∧ m ≤ d.length ∧ Hid (q = (d.take m).any fun s => decide (s.label = x.label)) ∧ Hid (Below wo.heap.size wo ww)) (fun _ kk _ => d.length - (intOf kk).toNat)
      case atStart => exact ⟨0, false, rfl, rfl, Nat.zero_le _, Lib.hid (by simp), Lib.hid (Below.refl _ _)⟩
      case round =>
        obtain ⟨m, q, rfl, rfl, hm, HQ, HBW⟩ := hrel
        by_cases hmd : m < d.length
        · obtain ⟨b3, o3, A4, c4, A5, c5, rfl, _, _, g0, _, _, _, _⟩ := sheet_at (HVS.out.to HBW.out) hmd
          have e0 := (HBW.out.cell (p := ⟨b, o + k * 3, none⟩) hbl).trans HE.out.1
          have hmd' : (m : Int) < (d.length : Int) := by omega
          have hm0 : (0 : Int) ≤ (m : Int) := by omega
          have HQ2 := Lib.hid (any_take_succ (fun s : Sheet => decide (s.label = x.label)) d m hmd)
          generalize d[m] = y at *
          cases q with
          | true =>
            go_wp2_with fail
            go_quiet (fail)
            unfold Exit.then
            go_wp2_with fail
            go_roundw
            case rel => exact ⟨m + 1, true, rfl, by go_num, by omega, Lib.hid (by rw [HQ2.out, ← HQ.out, Bool.true_or]), Lib.hid (Below.dn HBW.out _)⟩
            case measure => simp [intOf]; omega
          | false =>
            by_cases hy : y.label = x.label
            · have hB : (y.label.toList == x.label.toList) = true := tl_eq hy
              have HY := Lib.hid hy
              clear hy
              go_wp2_with fail
              go_quiet (fail)
              unfold Exit.then
              go_wp2_with fail
              go_roundw
              case rel => exact ⟨m + 1, true, rfl, by go_num, by omega, Lib.hid (by rw [HQ2.out, ← HQ.out, Bool.false_or, decide_eq_true HY.out]), Lib.hid (Below.dn HBW.out _)⟩
              case measure => simp [intOf]; omega
            · have hB : (y.label.toList == x.label.toList) = false := tl_ne hy
              have HY := Lib.hid hy
              clear hy
              go_wp2_with fail
              go_quiet (fail)
              unfold Exit.then
              go_wp2_with fail
              go_roundw
              case rel => exact ⟨m + 1, false, rfl, by go_num, by omega, Lib.hid (by rw [HQ2.out, ← HQ.out, Bool.false_or, decide_eq_false HY.out]), Lib.hid (Below.dn HBW.out _)⟩
              case measure => simp [intOf]; omega
        · obtain rfl : m = d.length := by omega
          have HQ2 : Hid (q = d.any fun s => decide (s.label = x.label)) := Lib.hid (by have := HQ.out; rwa [List.take_length] at this)
          have HB2 := Lib.hid (HB.out.trans (HBW.out.mono HB.out.size))
          have HO2 := Lib.hid (HO.out.below HBW.out)
          clear HQ
          cases q with
          | true =>
            go_wp2_with fail
            go_roundw
            case rel => exact ⟨k + 1, d, by omega, by go_num, by omega, HO2, HD, HB2⟩
            case measure => simp [intOf]; omega
          | false =>
            have k0 := (HBW.out.cell (p := ⟨b, o + k * 3, none⟩) hbl).trans HE.out.1
            have k1 := (HBW.out.cell (p := ⟨b, o + k * 3 + 1, none⟩) hbl).trans HE.out.2.1
            have k2 := (HBW.out.cell (p := ⟨b, o + k * 3 + 2, none⟩) hbl).trans HE.out.2.2
            have hba : Below wr.heap.size wr (wr.alloc (.cells #[.string x.label, .slice A1 x.body.length c1, .slice A2 x.notes.length c2] 24)) := (Below.refl _ _).alloc (Nat.le_refl _) _
            have HO3 := Lib.hid (HO2.out.below hba)
            have HR : Hid (∀ v : Value, (∀ g, v.ownBlock = some g → w.heap.size ≤ g) → Rep.R (wr.alloc (.cells #[.string x.label, .slice A1 x.body.length c1, .slice A2 x.notes.length c2] 24)) (fun b => some b ≠ v.ownBlock) [.string x.label, .slice A1 x.body.length c1, .slice A2 x.notes.length c2] x) := Lib.hid (fun v hv =>
              ⟨_, _, rfl, ⟨A1, c1, rfl, HXR.out.1 _ v (HB2.out.trans (hba.mono HB2.out.size)) hv, HXR.out.2.2.1⟩, ⟨A2, c2, rfl, HXR.out.2.1 _ v (HB2.out.trans (hba.mono HB2.out.size)) hv, HXR.out.2.2.2⟩⟩)
            have HVL : Hid (∀ g, (Value.slice A3 d.length c3).ownBlock = some g → w.heap.size ≤ g) := Lib.hid (fun g hg => (HO.out.lt g hg).1)
            have HDN : Hid (DiffS l (d ++ [x])) := Lib.hid ⟨by
              rw [List.map_append, List.map_singleton, List.nodup_append]
              refine ⟨HD.out.1, by simp, fun a ha b hb => ?_⟩
              obtain rfl := List.mem_singleton.1 hb
              rintro rfl
              obtain ⟨s, hs, e⟩ := List.mem_map.1 ha
              have hq := HQ2.out
              rw [eq_comm, List.any_eq_false] at hq
              exact hq s hs (by rw [e]; simp), fun s hs => by
              rcases List.mem_append.1 hs with h | h
              · exact HD.out.2 s h
              · obtain rfl := List.mem_singleton.1 h
                exact HX.out _ rfl⟩
            clear hba
            go_wp2_with (first
              | (at_builtin; refine wpList_push (α := Sheet) _ rfl (.tmp 35) (.tmp 40) 26 rfl w.heap.size 24 (.agg #[.string ⟨#[]⟩, .slice none 0 0, .slice none 0 0]) 64 Tryd.underlying26 sheet_info rfl (by decide) (.slice A3 d.length c3) d rfl HO3.out wr.heap.size #[.string x.label, .slice A1 x.body.length c1, .slice A2 x.notes.length c2] x (0, 0) 24 rfl (heap_alloc_new wr _) (HR.out _ HVL.out) (by omega) (by omega) (by have := HB2.out.size; simp; omega) _ rfl ?_; intro g5 p5 w5 hown5 hg5 hat5 hlt5)
              | fail)
            go_roundw
            case rel => exact ⟨k + 1, d ++ [x], by omega, by go_num, by simp; omega, Lib.hid hown5, HDN, Lib.hid (below_push HB2.out HO2.out HB2.out.size hg5)⟩
            case measure => simp [intOf]; omega
    · go_wp2_with fail
      go_ret
      exact ⟨u3, rfl, d, HO.out, by omega, HD.out, HB.out⟩
end Go.Proofs.YthcklfelofpffaaDoor
namespace Go.Proofs.YthcklfelofpffaaDoor
open Go.RowKit
theorem textB_len (s : ByteArray) : (textB s).length ≤ s.size + 11 := by
  unfold textB
  have := uintB_length s.size
  have h : s.data.toList.length = s.size := by rw [Array.length_toList]; rfl
  rw [List.length_append, h]; omega
theorem textsB_len : ∀ (l : List ByteArray), (∀ x ∈ l, x.size ≤ 14) → (l.flatMap textB).length ≤ 25 * l.length
  | [], _ => by simp
  | x :: l, h => by
    have h1 := textB_len x
    have h2 := h x (by simp)
    have h3 := textsB_len l (fun y hy => h y (by simp [hy]))
    rw [List.flatMap_cons, List.length_append, List.length_cons]; omega
theorem smallS_size (branch : Int) {s : Sheet} (h : SmallS s) : (sheetB branch s).length ≤ 1000 := by
  obtain ⟨h1, h2, h3, h4, h5⟩ := h
  have a := textsB_len s.body h4
  have b := textsB_len s.notes h5
  have c := textB_len s.label
  have d := uintB_length s.body.length
  have e := uintB_length s.notes.length
  have f := uintB_length (zig branch)
  unfold sheetB textsB intB
  simp only [List.length_append]
  omega
theorem ints_at {w : World} {S : Nat → Prop} {A : Option Addr} {c : Nat} {l : List (List Int)} (h : Sl w S A c l) {k : Nat} (hk : k < l.length) :
    ∃ b o A1 c1, A = some ⟨b, o, none⟩ ∧ S b ∧ b < w.heap.size ∧ w.cell? ⟨b, o + k, none⟩ = some (.slice A1 l[k].length c1) ∧ Sl w S A1 c1 l[k] := by
  obtain ⟨b, o, es, rfl, hb, hlt, ⟨A1, c1, rfl, hs, _⟩, hc⟩ := h.at_ hk
  have := hc 0 _ rfl
  exact ⟨b, o, A1, c1, rfl, hb, hlt, by simpa [Rep.size] using this, hs⟩
theorem Own.slv {α : Type} [Rep α] {w : World} {base n : Nat} {e : TypeId} {A : Option Addr} {c : Nat} {l : List α} (h : Own w base e (.slice A n c) l) (hn : n = l.length) : Sl w (fun b => b < w.heap.size) A c l := by
  subst hn
  obtain ⟨A', c', e', hs⟩ := h.sl
  cases e'
  exact hs
/-- An own row lies at or above its bound. -/
theorem Own.sl_far {α : Type} [Rep α] {w : World} {base n R : Nat} {e : TypeId} {A : Option Addr} {c : Nat} {l : List α} (h : Own w base e (.slice A n c) l) (hn : n = l.length) (hR : ∀ (S S' : Nat → Prop) (cs : List Value) (a : α), Rep.R w S cs a → Rep.R w S' cs a) (hb : R < base) : Sl w (fun b => b ≠ R) A c l := by
  subst hn
  obtain ⟨A', c', e', hs⟩ := h.sl
  cases e'
  refine ⟨hs.1, hs.2.1, fun h0 => ?_⟩
  obtain ⟨b, o, rfl, _, hlt, hx⟩ := hs.2.2 h0
  refine ⟨b, o, rfl, ?_, hlt, fun i hi => ?_⟩
  · obtain ⟨g, cap, es, e1, hg, _⟩ := h.at_ (k := 0) h0
    cases e1
    omega
  · obtain ⟨es, hr, hc⟩ := hx i hi
    exact ⟨es, hR _ _ _ _ hr, hc⟩
/-- What ledger returns. -/
def LedOut (w w' : World) (v1 v2 : Value) : Prop := ∃ (L : List H32) (N : List ByteArray) (A1 A2 : Option Addr) (c1 c2 : Nat), v1 = .slice A1 L.length c1 ∧ v2 = .slice A2 N.length c2 ∧
  Sl w' (fun b => b < w'.heap.size) A1 c1 L ∧ Sl w' (fun b => b < w'.heap.size) A2 c2 N ∧ L.length = N.length ∧ L.length ≤ 60 ∧ Below w.heap.size w w'
set_option maxRecDepth 100000 in
set_option maxHeartbeats 4000000 in
theorem ledger_any (branch : Int) (A : Option Addr) (c : Nat) (ll : List (List Int)) (w : World) (hbr : I64 branch) (hl : Sl w (fun b => b < w.heap.size) A c ll) (hK : KLaid w) :
    Calls Tryd.prog 20 #[.int .i64 branch, .slice A ll.length c] w fun e w' => ∃ v1 v2, e = .returned (.agg #[v1, v2]) ∧ LedOut w w' v1 v2 := by
  have HL := Lib.hid hl
  have HBR := Lib.hid hbr
  have HK := Lib.hid hK
  clear hl hbr hK
  have hba : Below w.heap.size w ((w.alloc (.cells #[.slice none 0 0, .slice none 0 0] 36)).alloc (.cells #[.slice none 0 0, .slice none 0 0] 36)) := ((Below.refl _ _).alloc (Nat.le_refl _) _).alloc (by simp) _
  have HB0 := Lib.hid hba
  have HRB : Hid (ABox ((w.alloc (.cells #[.slice none 0 0, .slice none 0 0] 36)).alloc (.cells #[.slice none 0 0, .slice none 0 0] 36)) w.heap.size 36 [.slice none 0 0, .slice none 0 0]) := Lib.hid (by unfold ABox; rw [Below.heap_alloc _ _ _ (by simp)]; exact heap_alloc_new w _)
  have HLD0 : Hid (LB ((w.alloc (.cells #[.slice none 0 0, .slice none 0 0] 36)).alloc (.cells #[.slice none 0 0, .slice none 0 0] 36)) (w.heap.size + 1) [] [] none 0 none 0) := Lib.hid ⟨heap_at (by simp), Sl.nil _ _ _ _ (by decide), Sl.nil _ _ _ _ (by decide)⟩
  clear hba
  go_enter Tryd.func20, Tryd.ntmps20
  go_upto_region 2 with (fail)
  generalize hw : World.alloc (World.alloc w _) _ = w1
  have hv : ((w.alloc (.cells #[.slice none 0 0, .slice none 0 0] 36)).alloc (.cells #[.slice none 0 0, .slice none 0 0] 36)) = w1 := hw
  rw [hv] at HB0 HRB HLD0
  clear hw hv
  have HOb : Hid (w.heap.size ≤ w.heap.size + 1) := Lib.hid (by omega)
  have HRO : Hid (w.heap.size < w.heap.size + 1) := Lib.hid (by omega)
  generalize w.heap.size + 1 = Ob at *
  go_wp2_with fail
  go_loopw [6] (fun i wr => ∃ (k : Nat) (L : List H32) (N : List ByteArray) (A1 : Option Addr) (c1 : Nat) (A2 : Option Addr) (c2 : Nat), k ≤ ll.length ∧ i = .int .i64 k ∧ k ≤ 5 ∧ Hid (L.length = N.length) ∧ Hid (L.length ≤ 12 * k) ∧ Hid (ABox wr Ob 36 [.slice A1 L.length c1, .slice A2 N.length c2]) ∧ Hid (Sl wr (fun b => b ≠ w.heap.size) A1 c1 L) ∧ Hid (Sl wr (fun b => b ≠ w.heap.size) A2 c2 N) ∧ Hid (Below w.heap.size w wr) ∧ Hid (ABox wr w.heap.size 36 [.slice none 0 0, .slice none 0 0])) (fun i _ => ll.length - (intOf i).toNat)
  case atStart => exact ⟨0, [], [], none, 0, none, 0, Nat.zero_le _, rfl, by omega, Lib.hid rfl, Lib.hid (by simp), Lib.hid HLD0.out.box, Lib.hid (Sl.nil _ _ _ _ (by decide)), Lib.hid (Sl.nil _ _ _ _ (by decide)), HB0, HRB⟩
  case round =>
    obtain ⟨k, L, N, A1, c1, A2, c2, hk, rfl, hk5, HLN, HLM', HLX, HSL, HSN, HBo, HRX⟩ := hrel
    have HLD : Hid (LB wr Ob L N A1 c1 A2 c2) := Lib.hid ⟨HLX.out, HSL.out.mono (fun _ _ h => h), HSN.out.mono (fun _ _ h => h)⟩
    by_cases hlt : k < ll.length
    · by_cases h5 : k < 5
      · obtain ⟨b, o, AX, cX, rfl, _, hbl, e0, sx⟩ := ints_at (HL.out.to HBo.out) hlt
        have hkl : (k : Int) < (ll.length : Int) := by omega
        have hk0 : (0 : Int) ≤ (k : Int) := by omega
        have hk5' : (k : Int) < 5 := by omega
        have HSX := Lib.hid sx
        have HE := Lib.hid (And.intro hbl e0)
        have HLM : Hid (L.length ≤ 60 ∧ L.length ≤ 12 * k) := Lib.hid ⟨by have := HLM'.out; omega, HLM'.out⟩
        generalize ll[k] = x at *
        have HSO : Hid (∀ W, Below wr.heap.size wr W → Calls Tryd.prog 10 #[.slice AX x.length cX] W fun e w' => ∃ v : Value, e = .returned v ∧ ∃ sh : List Sheet, Own w' W.heap.size 24 v sh ∧ sh.length ≤ 12 ∧ (∀ s ∈ sh, SmallS s) ∧ Below W.heap.size W w') := Lib.hid (fun W h => some_any AX cX x W (HSX.out.to h))
        have HKK : Hid (∀ W, Below wr.heap.size wr W → KLaid W) := Lib.hid (fun W h => HK.out.to (HBo.out.trans (h.mono HBo.out.size)))
        have SP : ∀ W, Below wr.heap.size wr W → W.cell? ⟨Ob, 0, none⟩ = some (.slice A1 L.length c1) ∧ W.cell? ⟨Ob, 1, none⟩ = some (.slice A2 N.length c2) ∧ W.cell? ⟨b, o + k, none⟩ = some (.slice AX x.length cX) := fun W h =>
          ⟨(HLD.out.box.to h).cell 0 rfl, (HLD.out.box.to h).cell 1 rfl, (h.cell (p := ⟨b, o + k, none⟩) HE.out.1).trans HE.out.2⟩
        clear sx e0 hbl HLM'
        go_upto_region 5 with (fail)
        refine wp_region_D (fun w' => w'.cell? ⟨Ob, 0, none⟩ = some (.slice A1 L.length c1) ∧ w'.cell? ⟨Ob, 1, none⟩ = some (.slice A2 N.length c2) ∧ w'.cell? ⟨b, o + k, none⟩ = some (.slice AX x.length cX)) (fun i => decide (i < 7)) (by kernel_rfl) ?_
        have hb0 : Hid (Below wr.heap.size wr wr.drew) := Lib.hid (Below.refl _ _).drew
        generalize wr.drew = W0 at *
        refine wpAnyE_take (i := 0) (oi := ⟨some 18, Op.load 36 (Operand.tmp 5), 36, _, _, _⟩) (v := ?_) rfl (by kernel_rfl) (by kernel_rfl) (by kernel_rfl) (by kernel_rfl) (by kernel_rfl) (fun _ _ _ h => h) (by rfl) ?hykr5_1 ((SP _ hb0.out)) ?hrkr5_1
        case hykr5_1 => (intro wS hSw; (have hq := hSw.1); (have hq2 := hSw.2.1); clear hSw; go_simp; (try with_reducible rfl))
        all_goals try simp only [Act.put, List.setIfInBounds_toArray, List.set_cons_zero, List.set_cons_succ]
        refine wpAnyE_take (i := 1) (oi := ⟨some 19, Op.move (Operand.tmp 0), 3, _, _, _⟩) (v := ?_) rfl (by kernel_rfl) (by kernel_rfl) (by kernel_rfl) (by kernel_rfl) (by kernel_rfl) (fun _ _ _ h => h) (by rfl) ?hykr5_2 ((SP _ hb0.out)) ?hrkr5_2
        case hykr5_2 => (intro wS hSw; clear hSw; go_simp; (try with_reducible rfl))
        all_goals try simp only [Act.put, List.setIfInBounds_toArray, List.set_cons_zero, List.set_cons_succ]
        refine wpAnyE_take (i := 2) (oi := ⟨some 20, Op.move (Operand.tmp 1), 33, _, _, _⟩) (v := ?_) rfl (by kernel_rfl) (by kernel_rfl) (by kernel_rfl) (by kernel_rfl) (by kernel_rfl) (fun _ _ _ h => h) (by rfl) ?hykr5_3 ((SP _ hb0.out)) ?hrkr5_3
        case hykr5_3 => (intro wS hSw; clear hSw; go_simp; (try with_reducible rfl))
        all_goals try simp only [Act.put, List.setIfInBounds_toArray, List.set_cons_zero, List.set_cons_succ]
        refine wpAnyE_take (i := 3) (oi := ⟨some 21, Op.move (Operand.tmp 6), 3, _, _, _⟩) (v := ?_) rfl (by kernel_rfl) (by kernel_rfl) (by kernel_rfl) (by kernel_rfl) (by kernel_rfl) (fun _ _ _ h => h) (by rfl) ?hykr5_4 ((SP _ hb0.out)) ?hrkr5_4
        case hykr5_4 => (intro wS hSw; clear hSw; go_simp; (try with_reducible rfl))
        all_goals try simp only [Act.put, List.setIfInBounds_toArray, List.set_cons_zero, List.set_cons_succ]
        refine wpAnyE_take (i := 4) (oi := ⟨some 22, Op.indexAddr 33 (Operand.tmp 20) (Operand.tmp 21), 0, _, _, _⟩) (v := ?_) rfl (by kernel_rfl) (by kernel_rfl) (by kernel_rfl) (by kernel_rfl) (by kernel_rfl) (fun _ _ _ h => h) (by rfl) ?hykr5_5 ((SP _ hb0.out)) ?hrkr5_5
        case hykr5_5 => (intro wS hSw; clear hSw; go_simp; (try with_reducible rfl))
        all_goals try simp only [Act.put, List.setIfInBounds_toArray, List.set_cons_zero, List.set_cons_succ]
        refine wpAnyE_take (i := 5) (oi := ⟨some 23, Op.load 25 (Operand.tmp 22), 25, _, _, _⟩) (v := ?_) rfl (by kernel_rfl) (by kernel_rfl) (by kernel_rfl) (by kernel_rfl) (by kernel_rfl) (fun _ _ _ h => h) (by rfl) ?hykr5_6 ((SP _ hb0.out)) ?hrkr5_6
        case hykr5_6 => (intro wS hSw; (have hq := hSw.2.2); clear hSw; go_simp; (try with_reducible rfl))
        all_goals try simp only [Act.put, List.setIfInBounds_toArray, List.set_cons_zero, List.set_cons_succ]
        refine wpAnyD_one (i := 6) (oi := ⟨some 24, Op.call { callee := Callee.value (Operand.func 10), args := #[Operand.tmp 23], argTypes := #[25] }, 26, _, _, _⟩) rfl (by kernel_rfl) (by rfl) (fun K hK => ?_)
        go_simp
        go_at_call 10
        refine (HSO.out W0 hb0.out).mono ?_
        rintro e W2 ⟨v2, rfl, sh, hown2, hlen2, hsm2, hb2⟩
        obtain ⟨A5, c5, rfl, hs5⟩ := hown2.sl
        have hbb := Lib.hid (hb0.out.trans (hb2.mono hb0.out.size))
        have HS5 := Lib.hid hs5
        have HSM := Lib.hid hsm2
        have HLE := Lib.hid hlen2
        clear hs5 hsm2 hlen2 hown2 hb2
        go_simp
        refine hK _ _ (fun _ => ?_) ?_
        · exact (SP _ hbb.out)
        clear hK K
        try simp only [Act.put, List.setIfInBounds_toArray, List.set_cons_zero, List.set_cons_succ]
        refine wpAnyD_one (i := 7) (oi := ⟨some 25, Op.call { callee := Callee.value (Operand.func 15), args := #[Operand.tmp 18, Operand.tmp 19, Operand.tmp 24], argTypes := #[36, 3, 26] }, 36, _, _, _⟩) rfl (by kernel_rfl) (by rfl) (fun K hK => ?_)
        go_simp
        go_at_call 15
        refine (add_any branch A1 A2 A5 c1 c2 c5 L N sh W2 HBR.out (HLD.out.l.to hbb.out) (HLD.out.n.to hbb.out) HS5.out HLN.out (by have := HLE.out; have := HLM.out; omega) (fun s hs => by have := smallS_size branch (HSM.out s hs); omega) (HKK.out _ hbb.out)).mono ?_
        rintro e W3 ⟨v6, v7, rfl, ho6, ho7, hb3⟩
        obtain ⟨A6, c6, rfl, -⟩ := ho6.sl
        obtain ⟨A7, c7, rfl, -⟩ := ho7.sl
        have HO6 := Lib.hid ho6
        have HO7 := Lib.hid ho7
        have hbz := Lib.hid (hbb.out.trans (hb3.mono hbb.out.size))
        have HLQ := Lib.hid (addAll_len branch sh (L, N) HLN.out)
        have HBX := Lib.hid (HLD.out.box.to hbz.out)
        have HOL : Hid (Ob < W2.heap.size) := Lib.hid (by have := HLD.out.box.lt; have := hbb.out.size; omega)
        generalize addAll branch (L, N) sh = q at *
        clear ho6 ho7 hb3
        go_simp
        refine hK _ _ (fun h => absurd h (by decide)) ?_
        clear hK K
        try simp only [Act.put, List.setIfInBounds_toArray, List.set_cons_zero, List.set_cons_succ]
        refine wpAnyD_one (i := 8) (oi := ⟨none, Op.store 36 (Operand.tmp 5) (Operand.tmp 25), 0, _, _, _⟩) rfl (by kernel_rfl) (by rfl) (fun K hK => ?_)
        have b0 := HBX.out.cell 0 rfl
        have bf := HBX.out.fz
        have b1 := (HBX.out.set 0 (.slice A6 q.1.length c6)).cell 1 rfl
        have bf1 := (HBX.out.set 0 (.slice A6 q.1.length c6)).fz
        go_simp
        refine hK _ _ (fun h => absurd h (by decide)) ?_
        clear hK K
        try simp only [Act.put]
        refine wpAnyD_done (by kernel_rfl) ?_ _
        unfold Exit.then
        go_wp2_with fail
        have HEND := Lib.hid ((HBX.out.set 0 (.slice A6 q.1.length c6)).set 1 (.slice A7 q.2.length c7))
        have hkk : ∀ g, g ≠ Ob → ((W3.setCell ⟨Ob, 0, none⟩ (.slice A6 q.1.length c6)).setCell ⟨Ob, 1, none⟩ (.slice A7 q.2.length c7)).heap[g]? = W3.heap[g]? := fun g hg => (heap_set _ _ _ _ hg).trans (heap_set _ _ _ _ hg)
        go_roundw
        case rel => exact ⟨k + 1, q.1, q.2, A6, c6, A7, c7, by omega, by go_num, by omega, Lib.hid HLQ.out.1, Lib.hid (by have h1 : q.1.length ≤ L.length + sh.length := HLQ.out.2; have := HLE.out; have := HLM.out; omega), Lib.hid HEND.out, Lib.hid ((own_keepH HO6.out (fun g hg => hkk g (by have := (HO6.out.lt g hg).1; have := HOL.out; omega))).sl_far rfl (fun _ _ _ _ h => h) (by have := HOL.out; have := HRO.out; omega)), Lib.hid ((own_keepS HO7.out (fun g hg => hkk g (by have := (HO7.out.lt g hg).1; have := HOL.out; omega))).sl_far rfl (fun _ _ _ _ h => h) (by have := HOL.out; have := HRO.out; omega)), Lib.hid (((HBo.out.trans (hbz.out.mono HBo.out.size)).setCell (p := ⟨Ob, 0, none⟩) HOb.out _).setCell (p := ⟨Ob, 1, none⟩) HOb.out _), Lib.hid ((hkk _ (by have := HRO.out; omega)).trans (HRX.out.to hbz.out))⟩
        case measure => (simp [intOf]; omega)
      · have h5' : ¬ (k : Int) < 5 := by omega
        have hkl : (k : Int) < (ll.length : Int) := by omega
        have k0 := HLD.out.box.cell 0 rfl
        have k1 := HLD.out.box.cell 1 rfl
        have r0 := HRX.out.cell 0 rfl
        have rf := HRX.out.fz
        have r1 := (HRX.out.set 0 (.slice A1 L.length c1)).cell 1 rfl
        have rf1 := (HRX.out.set 0 (.slice A1 L.length c1)).fz
        go_wp2_with fail
        have HEND := Lib.hid ((HRX.out.set 0 (.slice A1 L.length c1)).set 1 (.slice A2 N.length c2))
        have hkk : ∀ g, g ≠ w.heap.size → ((wr.setCell ⟨w.heap.size, 0, none⟩ (.slice A1 L.length c1)).setCell ⟨w.heap.size, 1, none⟩ (.slice A2 N.length c2)).heap[g]? = wr.heap[g]? := fun g hg => (heap_set _ _ _ _ hg).trans (heap_set _ _ _ _ hg)
        refine bodyPost_ret (v := .agg #[.slice A1 L.length c1, .slice A2 N.length c2]) (results_cell_row Tryd.results20 _ _ w.heap.size _ _ (0, 0) _ rfl HEND.out Tryd.underlying36 rfl (by kernel_rfl)) rfl ⟨_, _, rfl, L, N, A1, A2, c1, c2, rfl, rfl, ?_, ?_, HLN.out, by have := HLM'.out; omega, ?_⟩
        · exact (HSL.out.keep (fun g hg _ => hkk g hg) (by simp)).mono (fun _ _ h => h)
        · exact (HSN.out.keep (fun g hg _ => hkk g hg) (by simp)).mono (fun _ _ h => h)
        · exact (HBo.out.setCell (p := ⟨w.heap.size, 0, none⟩) (Nat.le_refl _) _).setCell (p := ⟨w.heap.size, 1, none⟩) (Nat.le_refl _) _
    · have hkl : ¬ (k : Int) < (ll.length : Int) := by omega
      have k0 := HLD.out.box.cell 0 rfl
      have k1 := HLD.out.box.cell 1 rfl
      have r0 := HRX.out.cell 0 rfl
      have rf := HRX.out.fz
      have r1 := (HRX.out.set 0 (.slice A1 L.length c1)).cell 1 rfl
      have rf1 := (HRX.out.set 0 (.slice A1 L.length c1)).fz
      go_wp2_with fail
      have HEND := Lib.hid ((HRX.out.set 0 (.slice A1 L.length c1)).set 1 (.slice A2 N.length c2))
      have hkk : ∀ g, g ≠ w.heap.size → ((wr.setCell ⟨w.heap.size, 0, none⟩ (.slice A1 L.length c1)).setCell ⟨w.heap.size, 1, none⟩ (.slice A2 N.length c2)).heap[g]? = wr.heap[g]? := fun g hg => (heap_set _ _ _ _ hg).trans (heap_set _ _ _ _ hg)
      refine bodyPost_ret (v := .agg #[.slice A1 L.length c1, .slice A2 N.length c2]) (results_cell_row Tryd.results20 _ _ w.heap.size _ _ (0, 0) _ rfl HEND.out Tryd.underlying36 rfl (by kernel_rfl)) rfl ⟨_, _, rfl, L, N, A1, A2, c1, c2, rfl, rfl, ?_, ?_, HLN.out, by have := HLM'.out; omega, ?_⟩
      · exact (HSL.out.keep (fun g hg _ => hkk g hg) (by simp)).mono (fun _ _ h => h)
      · exact (HSN.out.keep (fun g hg _ => hkk g hg) (by simp)).mono (fun _ _ h => h)
      · exact (HBo.out.setCell (p := ⟨w.heap.size, 0, none⟩) (Nat.le_refl _) _).setCell (p := ⟨w.heap.size, 1, none⟩) (Nat.le_refl _) _
end Go.Proofs.YthcklfelofpffaaDoor
namespace Go.Proofs.YthcklfelofpffaaDoor
open Go.RowKit
theorem byte128 (m : Nat) : (128 + (m : Int) % 128) % 256 = ((UInt8.ofNat (m % 128 + 128)).toNat : Int) := by
  rw [UInt8.toNat_ofNat']; omega
theorem byteLow (m : Nat) (h : m < 128) : (m : Int) = ((UInt8.ofNat m).toNat : Int) := by rw [UInt8.toNat_ofNat']; omega
theorem own_lenB {w : World} {base : Nat} {e : TypeId} {v : Value} {l : List UInt8} (h : Own w base e v l) : ∃ A c, v = .slice A l.length c := by
  obtain ⟨A, c, e, _⟩ := h.form
  exact ⟨A, c, e⟩
set_option maxRecDepth 100000 in
set_option maxHeartbeats 4000000 in
theorem ruint_any (n : Nat) (hn : n < 18446744073709551616) (w : World) :
    Calls Tryd.prog 91 #[.int .u64 (n : Int)] w fun e w' => ∃ v, e = .returned v ∧ Own w' w.heap.size 5 v (uintB n) ∧ Below w.heap.size w w' := by
  have HNN := Lib.hid hn
  clear hn
  go_enter Tryd.func91, Tryd.ntmps91
  go_wp2_with fail
  go_loopw [0, 3] (fun x v wr => ∃ (m : Nat) (acc : List UInt8), x = .int .u64 (m : Int) ∧ m ≤ n ∧ Hid (uintB n = acc ++ uintB m) ∧ Hid (Own wr w.heap.size 5 v acc) ∧ Hid (Below w.heap.size w wr)) (fun x _ _ => (intOf x).toNat)
  case atStart => exact ⟨n, [], rfl, Nat.le_refl _, Lib.hid rfl, Lib.hid (Own.nil _ _ _), Lib.hid (Below.refl _ _)⟩
  case round =>
    obtain ⟨m, acc, rfl, hm, hu, HO, HB⟩ := hrel
    have HLN : Hid (acc.length ≤ 11) := Lib.hid (by
      have h1 := uintB_length n
      have h2 := congrArg List.length hu.out
      rw [List.length_append] at h2; omega)
    by_cases hge : 128 ≤ m
    · have hge' : (128 : Int) ≤ (m : Int) := by omega
      have HUB := Lib.hid (uintB_ge hge (by have := HNN.out; omega))
      have HBY : Hid (128 + (m : Int) % 128 = ((UInt8.ofNat (m % 128 + 128)).toNat : Int)) := Lib.hid (by rw [UInt8.toNat_ofNat']; omega)
      have q2 : (m : Int) / 128 = ((m / 128 : Nat) : Int) := by omega
      have hm2b : m / 128 ≤ 144115188075855871 := by have := HNN.out; omega
      have HM2 : Hid (m / 128 ≤ n ∧ m / 128 < m) := Lib.hid ⟨by omega, by omega⟩
      have hm0 : (0 : Int) ≤ (m : Int) := by omega
      generalize UInt8.ofNat (m % 128 + 128) = by8 at *
      generalize m / 128 = m2 at *
      have HOA := Lib.hid (HO.out.alloc (.cells #[.int .u8 (128 + (m : Int) % 128)] 5))
      go_wp2_with (first
        | (at_builtin; refine wpList_push (α := UInt8) _ rfl (.tmp 6) (.tmp 11) 59 rfl w.heap.size 5 (.int .u8 0) 1 Tryd.underlying59 b_info rfl (by decide) u3 acc rfl HOA.out wr.heap.size #[.int .u8 (128 + (m : Int) % 128)] by8 (0, 0) 5 rfl (heap_alloc_new wr _) (by show [Value.int .u8 (128 + (m : Int) % 128)] = [Value.int .u8 (by8.toNat : Int)]; rw [HBY.out]) (by have := HLN.out; omega) (by have := HLN.out; omega) (by have := HB.out.size; simp; omega) _ rfl ?_; intro g5 cap5 w5 hown5 hg5 ho5 hlt5)
        | fail)
      exact ⟨⟨m2, acc ++ [by8], rfl, HM2.out.1, Lib.hid (by rw [hu.out, HUB.out, List.append_assoc]; rfl), Lib.hid hown5, Lib.hid (below_push HB.out HO.out HB.out.size hg5)⟩, by have := HM2.out.2; simp [intOf]; omega⟩
    · have hge' : ¬ (128 : Int) ≤ (m : Int) := by omega
      have HUB := Lib.hid (uintB_lt (n := m) (by omega))
      have HBM := Lib.hid (byteLow m (by omega))
      have hm0 : (0 : Int) ≤ (m : Int) := by omega
      generalize UInt8.ofNat m = by8 at *
      have HOA := Lib.hid (HO.out.alloc (.cells #[.int .u8 (m : Int)] 5))
      go_wp2_with (first
        | (at_builtin; refine wpList_push (α := UInt8) _ rfl (.tmp 15) (.tmp 18) 59 rfl w.heap.size 5 (.int .u8 0) 1 Tryd.underlying59 b_info rfl (by decide) u3 acc rfl HOA.out wr.heap.size #[.int .u8 (m : Int)] by8 (0, 0) 5 rfl (heap_alloc_new wr _) (by show [Value.int .u8 (m : Int)] = [Value.int .u8 (by8.toNat : Int)]; rw [HBM.out]) (by have := HLN.out; omega) (by have := HLN.out; omega) (by have := HB.out.size; simp; omega) _ rfl ?_; intro g5 cap5 w5 hown5 hg5 ho5 hlt5)
        | fail)
      go_ret
      exact ⟨_, rfl, by rw [hu.out, HUB.out]; exact hown5, below_push HB.out HO.out HB.out.size hg5⟩
theorem zig_any (n : Int) (hn : I64 n) (w : World) : Calls Tryd.prog 92 #[.int .i64 n] w fun e w' => e = .returned (.int .u64 (zig n : Int)) ∧ w = w' := by
  obtain ⟨h1, h2⟩ := hn
  have hw : ∀ z : Int, IntKind.u64.wrap z = z % 18446744073709551616 := fun z => rfl
  by_cases h : n < 0
  · have e : ((zig n : Nat) : Int) = 2 * (-(n + 1)) + 1 := by unfold zig; rw [if_pos h]; omega
    have E := Lib.hid e
    clear e
    go_enter Tryd.func92, Tryd.ntmps92
    go_wp2
    go_ret
    refine ⟨ret_int ?_, rfl⟩
    rw [E.out]
    omega
  · have e : ((zig n : Nat) : Int) = 2 * n := by unfold zig; rw [if_neg h]; omega
    have E := Lib.hid e
    clear e
    go_enter Tryd.func92, Tryd.ntmps92
    go_wp2
    go_ret
    refine ⟨ret_int ?_, rfl⟩
    rw [E.out]
    omega
theorem rint_any (n : Int) (hn : I64 n) (w : World) : Calls Tryd.prog 71 #[.int .i64 n] w fun e w' => ∃ v, e = .returned v ∧ Own w' w.heap.size 5 v (intB n) ∧ Below w.heap.size w w' := by
  have HZ := Lib.hid (zig_any n hn)
  have HU := Lib.hid (ruint_any (zig n) (zig_lt hn))
  unfold intB
  generalize zig n = z at *
  clear hn
  go_enter Tryd.func71, Tryd.ntmps71
  go_wp2_with (first | (go_at_call 92; refine (HZ.out _).mono ?_; rintro e w' ⟨rfl, rfl⟩) | fail)
  refine (HU.out _).mono ?_
  rintro e w2 ⟨v, rfl, ho, hb⟩
  go_wp2_with fail
  go_ret
  exact ⟨_, rfl, ho, hb⟩
set_option maxRecDepth 100000 in
set_option maxHeartbeats 4000000 in
theorem rtext_any (s : ByteArray) (hs : s.size ≤ 1073741824) (w : World) : Calls Tryd.prog 72 #[.string s] w fun e w' => ∃ v, e = .returned v ∧ Own w' w.heap.size 5 v (textB s) ∧ Below w.heap.size w w' := by
  have HU := Lib.hid (ruint_any s.size (by omega))
  have HUL := Lib.hid (uintB_length s.size)
  have HTB : Hid (textB s = uintB s.size ++ s.data.toList) := Lib.hid rfl
  have hs63 : (s.size : Int) ≤ 1073741824 := by omega
  have HSZ := Lib.hid hs
  go_enter Tryd.func72, Tryd.ntmps72
  go_wp2_with fail
  refine (HU.out _).mono ?_
  rintro e w2 ⟨v, rfl, ho, hb⟩
  have HO := Lib.hid ho
  have HB := Lib.hid hb
  clear ho hb HU hs hs63
  go_wp2_with (at_builtin; refine wpList_catT rfl (.tmp 6) (.tmp 7) 59 9 rfl w.heap.size 5 Tryd.underlying59 Tryd.underlying9 b_info v (uintB s.size) rfl HO.out s rfl (by have := HUL.out; have := HSZ.out; omega) HB.out.size ?_; intro v5 w5 hown5 hg5 hat5)
  go_ret
  exact ⟨_, rfl, by rw [HTB.out]; exact hown5, below_cat HB.out HO.out HB.out.size hg5⟩
theorem textsB_take (l : List ByteArray) (k : Nat) (h : k < l.length) : uintB l.length ++ (l.take (k + 1)).flatMap textB = (uintB l.length ++ (l.take k).flatMap textB) ++ textB l[k] := by
  rw [List.take_succ_eq_append_getElem h, List.flatMap_append, List.append_assoc]; simp
theorem flat_take_le (l : List ByteArray) (k : Nat) : ((l.take k).flatMap textB).length ≤ (l.flatMap textB).length := by
  conv => rhs; rw [← List.take_append_drop k l, List.flatMap_append, List.length_append]
  omega
set_option maxRecDepth 100000 in
set_option maxHeartbeats 4000000 in
theorem rtexts_any (A : Option Addr) (c : Nat) (l : List ByteArray) (w : World) (hl : Sl w (fun b => b < w.heap.size) A c l) (hsz : (textsB l).length ≤ 1073741824) :
    Calls Tryd.prog 73 #[.slice A l.length c] w fun e w' => ∃ v, e = .returned v ∧ Own w' w.heap.size 5 v (textsB l) ∧ Below w.heap.size w w' := by
  have hlen : l.length ≤ 9223372036854775807 := by have := hl.1; have := hl.2.1; unfold maxLen at this; omega
  have HL := Lib.hid hl
  have HSZ := Lib.hid hsz
  have HU := Lib.hid (ruint_any l.length (by omega))
  clear hl hsz
  go_enter Tryd.func73, Tryd.ntmps73
  go_wp2_with fail
  refine (HU.out _).mono ?_
  rintro e w2 ⟨v2, rfl, ho2, hb2⟩
  have HO2 := Lib.hid ho2
  have HB2 := Lib.hid hb2
  clear ho2 hb2 HU
  go_wp2_with fail
  go_loopw [3, 4] (fun v i wr => ∃ k : Nat, k ≤ l.length ∧ i = .int .i64 k ∧ Hid (Own wr w.heap.size 5 v (uintB l.length ++ (l.take k).flatMap textB)) ∧ Hid (Below w.heap.size w wr)) (fun _ i _ => l.length - (intOf i).toNat)
  case atStart => exact ⟨0, Nat.zero_le _, rfl, Lib.hid (by simpa using HO2.out), HB2⟩
  case round =>
    obtain ⟨k, hk, rfl, HO, HB⟩ := hrel
    by_cases hlt : k < l.length
    · obtain ⟨b, o, rfl, hbS, hbl, c0⟩ := str_at (HL.out.to HB.out) hlt
      have hkl : (k : Int) < (l.length : Int) := by omega
      have hk0 : (0 : Int) ≤ (k : Int) := by omega
      have HT := Lib.hid (textsB_take l k hlt)
      have HTL : Hid ((uintB l.length ++ (l.take k).flatMap textB).length + (textB l[k]).length ≤ 1073741824) := Lib.hid (by
        have h1 := congrArg List.length HT.out
        have h2 := flat_take_le l (k + 1)
        have h3 := HSZ.out
        unfold textsB at h3
        rw [List.length_append] at h1 h3
        rw [List.length_append] at h1
        omega)
      have HX := Lib.hid (fun W => rtext_any l[k] (by have := textB_size l[k]; have := HTL.out; omega) W)
      obtain ⟨acc, hacc⟩ : ∃ a, a = uintB l.length ++ (l.take k).flatMap textB := ⟨_, rfl⟩
      rw [← hacc] at HO HT HTL
      clear hacc
      generalize l[k] = x at *
      go_wp2_with fail
      refine (HX.out _).mono ?_
      rintro e w3 ⟨v3, rfl, ho3, hb3⟩
      obtain ⟨A3, c3, rfl, hs3⟩ := own_slB ho3
      have HS3 := Lib.hid hs3
      have HO3 := Lib.hid (HO.out.below hb3)
      have HB3 := Lib.hid (HB.out.trans (hb3.mono HB.out.size))
      have HLT : Hid (∀ g, u3.ownBlock = some g → g < wr.heap.size) := Lib.hid (fun g hg => (HO.out.lt g hg).2)
      clear ho3 hs3 hb3 HX c0
      go_wp2_with (at_builtin; refine wpList_cat (α := UInt8) _ rfl (.tmp 15) (.tmp 20) 59 rfl w.heap.size 5 (.int .u8 0) 1 Tryd.underlying59 b_info rfl (by decide) u3 acc rfl HO3.out A3 c3 (textB x).length (textB x) rfl rfl (fun g => wr.heap.size ≤ g) HS3.out (fun i hi _ e => by have := HLT.out i e.symm; omega) (by have := HTL.out; omega) (by have := HTL.out; omega) HB3.out.size ?_; intro v5 w5 hown5 hg5 hat5)
      go_roundw
      case rel => exact ⟨k + 1, by omega, by go_num, Lib.hid (by rw [HT.out]; exact hown5), Lib.hid (below_cat HB3.out HO3.out HB3.out.size hg5)⟩
      case measure => simp [intOf]; omega
    · obtain rfl : k = l.length := by omega
      go_wp2_with fail
      go_ret
      exact ⟨_, rfl, by have := HO.out; rw [List.take_length] at this; exact this, HB.out⟩
set_option maxRecDepth 100000 in
set_option maxHeartbeats 4000000 in
theorem encoding_any (branch : Int) (s : Sheet) (A B : Option Addr) (c d : Nat) (w : World) (hbr : I64 branch) (ha : Sl w (fun b => b < w.heap.size) A c s.body) (hb : Sl w (fun b => b < w.heap.size) B d s.notes) (hsz : (sheetB branch s).length ≤ 1073740000) :
    Calls Tryd.prog 44 #[.int .i64 branch, .agg #[.string s.label, .slice A s.body.length c, .slice B s.notes.length d]] w fun e w' => ∃ v, e = .returned v ∧ Own w' w.heap.size 5 v (sheetB branch s) ∧ Below w.heap.size w w' := by
  have hba : Below w.heap.size w (w.alloc (.cells #[.string s.label, .slice A s.body.length c, .slice B s.notes.length d] 24)) := (Below.refl _ _).alloc (Nat.le_refl _) _
  have HBX : Hid (ABox (w.alloc (.cells #[.string s.label, .slice A s.body.length c, .slice B s.notes.length d] 24)) w.heap.size 24 [.string s.label, .slice A s.body.length c, .slice B s.notes.length d]) := Lib.hid (heap_alloc_new w _)
  have HA := Lib.hid (ha.to hba)
  have HBn := Lib.hid (hb.to hba)
  have HB0 := Lib.hid hba
  have HSZ : Hid ((intB branch).length + (textB s.label).length + (textsB s.body).length + (textsB s.notes).length ≤ 1073740000) := Lib.hid (by unfold sheetB at hsz; simpa [List.length_append, Nat.add_assoc] using hsz)
  have HE : Hid (sheetB branch s = intB branch ++ textB s.label ++ textsB s.body ++ textsB s.notes) := Lib.hid rfl
  have HI := Lib.hid (rint_any branch hbr)
  have HT := Lib.hid (rtext_any s.label (by have := textB_size s.label; have := HSZ.out; omega))
  clear hba ha hb hsz hbr
  generalize intB branch = ib at *
  generalize hlb : textB s.label = lb at *
  generalize hbb : textsB s.body = bb at *
  generalize hnb : textsB s.notes = nb at *
  have HBB := Lib.hid hbb
  have HNB := Lib.hid hnb
  clear hlb hbb hnb
  go_enter Tryd.func44, Tryd.ntmps44
  go_upto_region 1 with (fail)
  generalize (w.alloc (.cells #[.string s.label, .slice A s.body.length c, .slice B s.notes.length d] 24)) = w1 at *
  go_wp2_with fail
  refine (HI.out _).mono ?_
  rintro e w2 ⟨v2, rfl, ho2, hb2⟩
  have HO := Lib.hid ho2
  have HBw := Lib.hid hb2
  clear ho2 hb2 HI
  have k0 := (HBX.out.to HBw.out).cell 0 rfl
  have HQ := Lib.hid (HT.out w2)
  go_wp2_with fail
  refine HQ.out.mono ?_
  rintro e w3 ⟨v3, rfl, ho3, hb3⟩
  obtain ⟨A3, c3, rfl, hs3⟩ := own_slB ho3
  have HS3 := Lib.hid hs3
  have HO3 := Lib.hid (HO.out.below hb3)
  have HB3 := Lib.hid (HBw.out.trans (hb3.mono HBw.out.size))
  have HLT : Hid (∀ g, v2.ownBlock = some g → g < w2.heap.size) := Lib.hid (fun g hg => (HO.out.lt g hg).2)
  clear ho3 hs3 hb3 HQ k0 HO HBw
  go_upto_region 3 with (first | (at_builtin; refine wpList_cat (α := UInt8) _ rfl (.tmp 8) (.tmp 11) 59 rfl w1.heap.size 5 (.int .u8 0) 1 Tryd.underlying59 b_info rfl (by decide) v2 (ib) rfl HO3.out A3 c3 lb.length lb rfl rfl (fun g => w2.heap.size ≤ g) HS3.out (fun i hi _ e => by have := HLT.out i e.symm; omega) (by have := HSZ.out; (try simp only [List.length_append]); omega) (by have := HSZ.out; (try simp only [List.length_append]); omega) HB3.out.size ?_; intro v4 w4 hown5 hg5 hat5) | fail)
  have HO := Lib.hid hown5
  have HBw := Lib.hid (below_cat HB3.out HO3.out HB3.out.size hg5)
  clear hown5 hg5 hat5 HO3 HB3 HS3 HLT
  have k0 := (HBX.out.to HBw.out).cell 1 rfl
  have HQ := Lib.hid (rtexts_any A c s.body w4 (HA.out.to HBw.out) (by rw [HBB.out]; have := HSZ.out; omega))
  rw [HBB.out] at HQ
  go_wp2_with fail
  refine HQ.out.mono ?_
  rintro e w5 ⟨v5, rfl, ho3, hb3⟩
  obtain ⟨A5, c5, rfl, hs3⟩ := own_slB ho3
  have HS3 := Lib.hid hs3
  have HO3 := Lib.hid (HO.out.below hb3)
  have HB3 := Lib.hid (HBw.out.trans (hb3.mono HBw.out.size))
  have HLT : Hid (∀ g, v4.ownBlock = some g → g < w4.heap.size) := Lib.hid (fun g hg => (HO.out.lt g hg).2)
  clear ho3 hs3 hb3 HQ k0 HO HBw
  go_upto_region 4 with (first | (at_builtin; refine wpList_cat (α := UInt8) _ rfl (.tmp 13) (.tmp 16) 59 rfl w1.heap.size 5 (.int .u8 0) 1 Tryd.underlying59 b_info rfl (by decide) v4 (ib ++ lb) rfl HO3.out A5 c5 bb.length bb rfl rfl (fun g => w4.heap.size ≤ g) HS3.out (fun i hi _ e => by have := HLT.out i e.symm; omega) (by have := HSZ.out; (try simp only [List.length_append]); omega) (by have := HSZ.out; (try simp only [List.length_append]); omega) HB3.out.size ?_; intro v6 w6 hown5 hg5 hat5) | fail)
  have HO := Lib.hid hown5
  have HBw := Lib.hid (below_cat HB3.out HO3.out HB3.out.size hg5)
  clear hown5 hg5 hat5 HO3 HB3 HS3 HLT
  have k0 := (HBX.out.to HBw.out).cell 2 rfl
  have HQ := Lib.hid (rtexts_any B d s.notes w6 (HBn.out.to HBw.out) (by rw [HNB.out]; have := HSZ.out; omega))
  rw [HNB.out] at HQ
  go_wp2_with fail
  refine HQ.out.mono ?_
  rintro e w7 ⟨v7, rfl, ho3, hb3⟩
  obtain ⟨A7, c7, rfl, hs3⟩ := own_slB ho3
  have HS3 := Lib.hid hs3
  have HO3 := Lib.hid (HO.out.below hb3)
  have HB3 := Lib.hid (HBw.out.trans (hb3.mono HBw.out.size))
  have HLT : Hid (∀ g, v6.ownBlock = some g → g < w6.heap.size) := Lib.hid (fun g hg => (HO.out.lt g hg).2)
  clear ho3 hs3 hb3 HQ k0 HO HBw
  go_wp2_with (first | (at_builtin; refine wpList_cat (α := UInt8) _ rfl (.tmp 18) (.tmp 21) 59 rfl w1.heap.size 5 (.int .u8 0) 1 Tryd.underlying59 b_info rfl (by decide) v6 (ib ++ lb ++ bb) rfl HO3.out A7 c7 nb.length nb rfl rfl (fun g => w6.heap.size ≤ g) HS3.out (fun i hi _ e => by have := HLT.out i e.symm; omega) (by have := HSZ.out; (try simp only [List.length_append]); omega) (by have := HSZ.out; (try simp only [List.length_append]); omega) HB3.out.size ?_; intro v8 w8 hown5 hg5 hat5) | fail)
  have HO := Lib.hid hown5
  have HBw := Lib.hid (below_cat HB3.out HO3.out HB3.out.size hg5)
  clear hown5 hg5 hat5 HO3 HB3 HS3 HLT
  go_ret
  exact ⟨_, rfl, by rw [HE.out]; exact HO.out.re HB0.out.size, HB0.out.trans (HBw.out.mono HB0.out.size)⟩
end Go.Proofs.YthcklfelofpffaaDoor
namespace Go.Proofs.YthcklfelofpffaaDoor
open Go.RowKit
def cb (c : UInt8) : W32 := BitVec.ofNat 32 c.toNat
theorem u_cb (c : UInt8) : u (cb c) = (c.toNat : Int) := by
  unfold u cb; rw [BitVec.toNat_ofNat, Nat.mod_eq_of_lt (Nat.lt_of_lt_of_le c.toNat_lt (by decide))]
theorem ch_eq (e f g : W32) : (e &&& f) ^^^ (~~~e &&& g) = chW e f g := by
  unfold chW
  ext i hi
  simp only [BitVec.getElem_xor, BitVec.getElem_and, BitVec.getElem_not]
  cases e[i] <;> cases f[i] <;> cases g[i] <;> rfl
theorem maj_eq (a b c : W32) : ((a &&& b) ^^^ (a &&& c)) ^^^ (b &&& c) = majW a b c := by
  unfold majW
  ext i hi
  simp only [BitVec.getElem_xor, BitVec.getElem_and, BitVec.getElem_or]
  cases a[i] <;> cases b[i] <;> cases c[i] <;> rfl
theorem word_eq (b : List UInt8) (k : Nat) : (((cb (b.getD (4 * k) 0) <<< 24) ||| (cb (b.getD (4 * k + 1) 0) <<< 16)) ||| (cb (b.getD (4 * k + 2) 0) <<< 8)) ||| cb (b.getD (4 * k + 3) 0) = word16 b k := by
  unfold word16 put8 cb
  have h0 : ∀ n : Nat, (0 : W32) <<< n = 0 := fun n => by simp
  have h1 : ∀ x : W32, 0 ||| x = x := fun x => by simp
  simp only [h0, h1, BitVec.shiftLeft_or_distrib, ← BitVec.shiftLeft_add]
theorem rotr_or (x : W32) (n : Nat) : (x >>> n) ||| (x <<< (32 - n)) = rotr x n := by
  unfold rotr; exact BitVec.or_comm _ _
theorem u_not (a : W32) : IntKind.u32.wrap (-(u a) - 1) = u (~~~a) := by
  rw [wrap_u32]; unfold u; rw [BitVec.toNat_not]; have := a.isLt; omega
set_option maxHeartbeats 400000 in
theorem rrot_any (x : W32) (n : Nat) (h1 : 1 ≤ n) (hn : n ≤ 31) (w : World) :
    Calls Tryd.prog 106 #[.int .u32 (u x), .int .i64 (n : Int)] w fun e w' => e = .returned (.int .u32 (u (rotr x n))) ∧ Below w.heap.size w w' := by
  have hb := u_bd x
  have q1 := u_shr x n
  have q2 := u_shl x (32 - n)
  have q3 := u_or (x >>> n) (x <<< (32 - n))
  rw [rotr_or] at q3
  obtain ⟨m, hm⟩ : ∃ m : Nat, (m : Int) = 32 - (n : Int) := ⟨32 - n, by omega⟩
  have hmn : 32 - n = m := by omega
  rw [hmn] at q2 q3
  have hm1 : (m : Int) ≤ 31 := by omega
  have hm0 : (0 : Int) ≤ (m : Int) := by omega
  have hn1 : (n : Int) ≤ 31 := by omega
  have hw : IntKind.i64.wrap (32 - (n : Int)) = (m : Int) := by rw [IntWalk.i64_in _ (by omega)]; omega
  have hw2 : (32 : Int) - (n : Int) = (m : Int) := by omega
  clear hm hmn
  go_enter Tryd.func106, Tryd.ntmps106
  go_wp2_with fail
  refine wp_region_calm (by kernel_rfl) (by kernel_rfl) ?_
  intro T5 hT5 f hf hg
  have HF := Lib.hid hf
  clear hf hg
  repeat (go_big_quiet_step (fail))
  refine wpQuiet_nil ?_
  rintro _ ⟨nq, rfl⟩
  unfold Exit.then
  go_wp2_with fail
  go_ret
  exact ⟨rfl, HF.out nq⟩
/-- An array of words as a value. -/
def wordsV (l : List W32) : Value := .agg (l.map enc32).toArray
theorem words_one (l : List W32) : (l.map enc32).toArray.all (·.oneCell') = true := by
  rw [List.all_toArray, List.all_map]; exact List.all_eq_true.2 fun _ _ => rfl
theorem words_size (l : List W32) : (l.map enc32).toArray.size = l.length := by simp
set_option maxRecDepth 100000 in
theorem first_any (w : World) : Calls Tryd.prog 101 #[] w fun e w' => e = .returned (wordsV H0) ∧ Below w.heap.size w w' := by
  have HR0 : w.alloc (.cells ((List.replicate 8 (0 : W32)).map enc32).toArray 96) = w.alloc (.cells ((List.replicate 8 (0 : W32)).map enc32).toArray 96) := rfl
  have hal := heap_alloc_new w (.cells ((List.replicate 8 (0 : W32)).map enc32).toArray 96)
  have HB := Lib.hid (below_setRow ((Below.refl w.heap.size w).alloc (Nat.le_refl _) (.cells ((List.replicate 8 (0 : W32)).map enc32).toArray 96)) (R := w.heap.size) (Nat.le_refl _) (H0.map enc32).toArray)
  have HX := Lib.hid (setRow_heap _ w.heap.size _ (H0.map enc32).toArray _ _ hal)
  have HONE := Lib.hid (words_one H0)
  clear HR0
  go_enter Tryd.func101, Tryd.ntmps101
  go_wp2_with (first
    | (refine wpList_store_row rfl 96 (.tmp 0) (.tmp 1) rfl w.heap.size (H0.map enc32).toArray rfl rfl 96 _ hal (by kernel_rfl) rfl HONE.out ?_)
    | fail)
  exact bodyPost_ret (v := .agg (H0.map enc32).toArray) (results_cell_row Tryd.results101 _ _ w.heap.size _ _ (0, 0) _ rfl HX.out Tryd.underlying96 rfl (by kernel_rfl)) rfl ⟨rfl, HB.out⟩
theorem wpList_built {P : Program} {ops : Array Oper} {rest : List Oper} {o : Oper} {a : Act} {w : World} {Q : Exit → Act → World → Prop} (hg : o.guard = none) (t : TypeId) (parts : List (Nat × Operand)) (ho : o.op = .build t parts.toArray) (l : List (Nat × Value)) (hl : parts.map (fun x => (x.1, a.eval x.2)) = l) (cs : Array Value) (hb : P.built t l = some cs)
    (h : wpList P ops Q rest (a.put o.dst (.agg cs)) w) : wpList P ops Q (o :: rest) a w :=
  wpList_plain hg fun _ hK => wp_built t parts ho l hl cs hb (hK _ _ h)
def KW : List W32 := KS.map fun k => BitVec.ofNat 32 k
set_option maxRecDepth 100000 in
set_option maxHeartbeats 4000000 in
theorem round_any (w : World) : Calls Tryd.prog 105 #[] w fun e w' => e = .returned (wordsV KW) ∧ Below w.heap.size w w' := by
  have hal := heap_alloc_new w (.cells ((List.replicate 64 (0 : W32)).map enc32).toArray 139)
  have HB := Lib.hid (below_setRow ((Below.refl w.heap.size w).alloc (Nat.le_refl _) (.cells ((List.replicate 64 (0 : W32)).map enc32).toArray 139)) (R := w.heap.size) (Nat.le_refl _) (KW.map enc32).toArray)
  have HX := Lib.hid (setRow_heap _ w.heap.size _ (KW.map enc32).toArray _ _ hal)
  have HONE := Lib.hid (words_one KW)
  go_enter Tryd.func105, Tryd.ntmps105
  go_wp2_with (first
    | (refine wpList_built rfl 139 _ rfl _ rfl (KW.map enc32).toArray (by kernel_rfl) ?_)
    | (refine wpList_store_row rfl 139 (.tmp 0) (.tmp 1) rfl w.heap.size (KW.map enc32).toArray rfl rfl 139 _ hal (by kernel_rfl) rfl HONE.out ?_)
    | fail)
  exact bodyPost_ret (v := .agg (KW.map enc32).toArray) (results_cell_row Tryd.results105 _ _ w.heap.size _ _ (0, 0) _ rfl HX.out Tryd.underlying139 rfl (by kernel_rfl)) rfl ⟨rfl, HB.out⟩
end Go.Proofs.YthcklfelofpffaaDoor
namespace Go.Proofs.YthcklfelofpffaaDoor
open Go.RowKit
/-- What the walk holds: the result, the words so far. -/
structure SC (w wr : World) (R O : Nat) (ws : List W32) : Prop where
  eR : R = w.heap.size
  eO : O = w.heap.size + 1
  r : WBox wr R 139 (List.replicate 64 0)
  o : WBox wr O 139 ws
  b : Below w.heap.size w wr
theorem SC.to {w wr w' : World} {R O : Nat} {ws : List W32} (h : SC w wr R O ws) (hb : Below wr.heap.size wr w') : SC w w' R O ws :=
  ⟨h.eR, h.eO, h.r.to hb, h.o.to hb, h.b.trans (hb.mono h.b.size)⟩
theorem SC.setO {w wr : World} {R O : Nat} {ws : List W32} (h : SC w wr R O ws) (i : Nat) (x : W32) : SC w (wr.setCell ⟨O, i, none⟩ (.int .u32 (u x))) R O (ws.set i x) := by
  have h1 := h.eR; have h2 := h.eO
  exact ⟨h1, h2, (heap_set _ _ _ _ (by omega)).trans h.r, h.o.set i x, h.b.setCell (p := ⟨O, i, none⟩) (by show w.heap.size ≤ O; omega) _⟩
theorem sched_set (b : List UInt8) (k : Nat) (h : k < 64) : (fill64 (sched b k)).set k (if k < 16 then word16 b k else nextW (sched b k) k) = fill64 (sched b (k + 1)) := by
  have h2 := fill64_set (l := sched b k) (by rw [sched_length]; omega) (if k < 16 then word16 b k else nextW (sched b k) k)
  rw [sched_length] at h2
  rw [h2, sched]
set_option maxRecDepth 100000 in
set_option maxHeartbeats 4000000 in
theorem schedule_any (b : List UInt8) (A : Option Addr) (c : Nat) (w : World) (hs : Sl w (fun b => b < w.heap.size) A c b) (h64 : 64 ≤ b.length) :
    Calls Tryd.prog 104 #[.slice A b.length c] w fun e w' => e = .returned (wordsV (sched b 64)) ∧ Below w.heap.size w w' := by
  have HS := Lib.hid hs
  obtain ⟨bA, oA, rfl, hbA, hbA2, hxA⟩ := HS.out.2.2 (by omega)
  have HS' : Hid (∀ wr, Below w.heap.size w wr → ∀ i, i < b.length → wr.cell? ⟨bA, oA + i, none⟩ = some (.int .u8 ((b.getD i 0).toNat : Int))) := Lib.hid (fun wr hb i hi => byte_at (HS.out.to hb) i hi)
  have hcap : b.length ≤ c := HS.out.1
  clear HS hbA hbA2 hxA hs
  have HST0 : Hid (SC w ((w.alloc (.cells ((List.replicate 64 (0 : W32)).map enc32).toArray 139)).alloc (.cells ((List.replicate 64 (0 : W32)).map enc32).toArray 139)) w.heap.size (w.heap.size + 1) (fill64 (sched b 0))) := Lib.hid
    ⟨rfl, rfl, (Below.heap_alloc _ _ _ (by simp)).trans (heap_alloc_new w _), heap_at (by simp), ((Below.refl _ _).alloc (Nat.le_refl _) _).alloc (by simp) _⟩
  go_enter Tryd.func104, Tryd.ntmps104
  go_upto_region 2 with (fail)
  generalize hw1 : (World.alloc (World.alloc w _) _) = w1
  have hw2 : ((w.alloc (.cells ((List.replicate 64 (0 : W32)).map enc32).toArray 139)).alloc (.cells ((List.replicate 64 (0 : W32)).map enc32).toArray 139)) = w1 := hw1
  rw [hw2] at HST0
  clear hw1 hw2
  obtain ⟨R, hR⟩ : ∃ R, R = w.heap.size := ⟨_, rfl⟩
  obtain ⟨O, hO⟩ : ∃ O, O = w.heap.size + 1 := ⟨_, rfl⟩
  rw [← hO, ← hR] at HST0 ⊢
  clear hR hO
  go_wp2_with fail
  go_loopw [4] (fun i wr => ∃ k : Nat, k ≤ 64 ∧ i = .int .i64 k ∧ Hid (SC w wr R O (fill64 (sched b k)))) (fun i _ => 64 - (intOf i).toNat)
  case atStart => exact ⟨0, by omega, rfl, HST0⟩
  case round =>
    obtain ⟨k, hk, rfl, HST⟩ := hrel
    by_cases hlt : k < 64
    · have hlt2 : (k : Int) < 64 := by omega
      have hk0 : (0 : Int) ≤ (k : Int) := by omega
      have HSET := Lib.hid (sched_set b k hlt)
      by_cases h16 : k < 16
      · have h16' : (k : Int) < 16 := by omega
        have HSE : Hid ((fill64 (sched b k)).set k (word16 b k) = fill64 (sched b (k + 1))) := Lib.hid (by have := HSET.out; rwa [if_pos h16] at this)
        have HFZ : Hid (∀ W, SC w W R O (fill64 (sched b k)) → (∃ v, W.cell? ⟨O, k, none⟩ = some v) ∧ ∀ o, W.frozen? ⟨O, o, none⟩ = false) := Lib.hid (fun W h => ⟨⟨_, h.o.cell k (by rw [fill64_length (by rw [sched_length]; omega)]; omega)⟩, h.o.fz⟩)
        have HA : Hid (∀ wr, Below w.heap.size w wr → wr.cell? ⟨bA, oA + 4 * k, none⟩ = some (.int .u8 ((b.getD (4 * k) 0).toNat : Int)) ∧ wr.cell? ⟨bA, oA + (4 * k + 1), none⟩ = some (.int .u8 ((b.getD (4 * k + 1) 0).toNat : Int)) ∧ wr.cell? ⟨bA, oA + (4 * k + 2), none⟩ = some (.int .u8 ((b.getD (4 * k + 2) 0).toNat : Int)) ∧ wr.cell? ⟨bA, oA + (4 * k + 3), none⟩ = some (.int .u8 ((b.getD (4 * k + 3) 0).toNat : Int))) := Lib.hid (fun wr h => ⟨HS'.out wr h _ (by omega), HS'.out wr h _ (by omega), HS'.out wr h _ (by omega), HS'.out wr h _ (by omega)⟩)
        have q5 := word_eq b k
        generalize b.getD (4 * k) 0 = c0 at *
        generalize b.getD (4 * k + 1) 0 = c1 at *
        generalize b.getD (4 * k + 2) 0 = c2 at *
        generalize b.getD (4 * k + 3) 0 = c3 at *
        generalize word16 b k = wv at *
        have n0 : ((c0.toNat : Int)) % 4294967296 = u (cb c0) := by rw [u_cb]; have := c0.toNat_lt; omega
        have n1 : ((c1.toNat : Int)) % 4294967296 = u (cb c1) := by rw [u_cb]; have := c1.toNat_lt; omega
        have n2 : ((c2.toNat : Int)) % 4294967296 = u (cb c2) := by rw [u_cb]; have := c2.toNat_lt; omega
        have n3 : ((c3.toNat : Int)) % 4294967296 = u (cb c3) := by rw [u_cb]; have := c3.toNat_lt; omega
        generalize cb c0 = y0 at *
        generalize cb c1 = y1 at *
        generalize cb c2 = y2 at *
        generalize cb c3 = y3 at *
        have s0 : u y0 * (16777216 : Int) % (4294967296 : Int) = u (y0 <<< 24) := by rw [← wrap_u32]; exact u_shl y0 24
        have s1 : u y1 * (65536 : Int) % (4294967296 : Int) = u (y1 <<< 16) := by rw [← wrap_u32]; exact u_shl y1 16
        have s2 : u y2 * (256 : Int) % (4294967296 : Int) = u (y2 <<< 8) := by rw [← wrap_u32]; exact u_shl y2 8
        have t1 := u_or (y0 <<< 24) (y1 <<< 16)
        have t2 := u_or ((y0 <<< 24) ||| (y1 <<< 16)) (y2 <<< 8)
        have t3 := u_or (((y0 <<< 24) ||| (y1 <<< 16)) ||| (y2 <<< 8)) y3
        rw [q5] at t3
        generalize ((y0 <<< 24) ||| (y1 <<< 16)) ||| (y2 <<< 8) = z1 at *
        generalize (y0 <<< 24) ||| (y1 <<< 16) = z2 at *
        generalize y0 <<< 24 = z3 at *
        generalize y1 <<< 16 = z4 at *
        generalize y2 <<< 8 = z5 at *
        clear q5
        go_upto_region 6 with (fail)
        refine wp_region_tail rfl (by kernel_rfl) (by kernel_rfl) ?_
        intro T5 hT5 f hf hg
        have a0 := fun d => (HA.out _ (HST.out.to (hf d)).b).1
        have a1 := fun d => (HA.out _ (HST.out.to (hf d)).b).2.1
        have a2 := fun d => (HA.out _ (HST.out.to (hf d)).b).2.2.1
        have a3 := fun d => (HA.out _ (HST.out.to (hf d)).b).2.2.2
        have HF5 := Lib.hid hf
        clear hf hg
        dsimp only [List.dropLast]
        repeat (go_big_quiet_step (fail))
        refine wpQuiet_nil ?_
        rintro _ ⟨nq, rfl⟩
        refine ⟨rfl, ?_⟩
        have HST2 := Lib.hid (HST.out.to (HF5.out nq))
        obtain ⟨⟨v9, hv9⟩, hfz⟩ := HFZ.out _ HST2.out
        clear HF5 a0 a1 a2 a3
        generalize f nq = wd at *
        have HN := Lib.hid (HST2.out.setO k wv)
        rw [HSE.out] at HN
        go_simp
        go_wp2_with fail
        go_roundw
        case rel => exact ⟨k + 1, by omega, by go_num, HN⟩
        case measure => simp [intOf]; omega
      · have h16' : ¬ (k : Int) < 16 := by omega
        have hsl := sched_length b k
        have HSE : Hid ((fill64 (sched b k)).set k (nextW (sched b k) k) = fill64 (sched b (k + 1))) := Lib.hid (by have := HSET.out; rwa [if_neg h16] at this)
        have HC : Hid (∀ W, SC w W R O (fill64 (sched b k)) → W.cell? ⟨O, k - 15, none⟩ = some (.int .u32 (u ((sched b k).getD (k - 15) 0))) ∧ W.cell? ⟨O, k - 2, none⟩ = some (.int .u32 (u ((sched b k).getD (k - 2) 0))) ∧ W.cell? ⟨O, k - 16, none⟩ = some (.int .u32 (u ((sched b k).getD (k - 16) 0))) ∧ W.cell? ⟨O, k - 7, none⟩ = some (.int .u32 (u ((sched b k).getD (k - 7) 0))) ∧ (∃ v, W.cell? ⟨O, k, none⟩ = some v) ∧ ∀ o, W.frozen? ⟨O, o, none⟩ = false) := Lib.hid (fun W h => by
          have hl := fill64_length (l := sched b k) (by omega)
          have e : ∀ j, j < k → W.cell? ⟨O, j, none⟩ = some (.int .u32 (u ((sched b k).getD j 0))) := fun j hj => by
            rw [← fill64_lt (by omega : j < (sched b k).length)]; exact h.o.cell j (by omega)
          exact ⟨e _ (by omega), e _ (by omega), e _ (by omega), e _ (by omega), ⟨_, h.o.cell k (by omega)⟩, h.o.fz⟩)
        have HNW : Hid (nextW (sched b k) k = (sched b k).getD (k - 16) 0 + sg0 ((sched b k).getD (k - 15) 0) + ((sched b k).getD (k - 7) 0 + sg1 ((sched b k).getD (k - 2) 0))) := Lib.hid rfl
        generalize nextW (sched b k) k = nw at *
        generalize (sched b k).getD (k - 15) 0 = x15 at *
        generalize (sched b k).getD (k - 2) 0 = x2 at *
        generalize (sched b k).getD (k - 16) 0 = x16 at *
        generalize (sched b k).getD (k - 7) 0 = x7 at *
        clear hsl HSET
        have w1 := (HC.out _ HST.out).1
        have w2 := (HC.out _ HST.out).2.1
        have i15 : ((k : Int) - 15).toNat = k - 15 := by omega
        have i2 : ((k : Int) - 2).toNat = k - 2 := by omega
        have i16 : ((k : Int) - 16).toNat = k - 16 := by omega
        have i7 : ((k : Int) - 7).toNat = k - 7 := by omega
        have hk16 : 16 ≤ k := by omega
        have hk16' : (16 : Int) ≤ (k : Int) := by omega
        have E7 := Lib.hid (fun W => rrot_any x15 7 (by omega) (by omega) W)
        have E18 := Lib.hid (fun W => rrot_any x15 18 (by omega) (by omega) W)
        have E17 := Lib.hid (fun W => rrot_any x2 17 (by omega) (by omega) W)
        have E19 := Lib.hid (fun W => rrot_any x2 19 (by omega) (by omega) W)
        have q1 := u_xor (rotr x15 7) (rotr x15 18)
        have q2 := u_xor (rotr x15 7 ^^^ rotr x15 18) (x15 >>> 3)
        rw [show rotr x15 7 ^^^ rotr x15 18 ^^^ (x15 >>> 3) = sg0 x15 from rfl] at q2
        have q3 := u_addm x16 (sg0 x15)
        have q4 := u_addm (x16 + sg0 x15) x7
        have q5 := u_xor (rotr x2 17) (rotr x2 19)
        have q6 := u_xor (rotr x2 17 ^^^ rotr x2 19) (x2 >>> 10)
        rw [show rotr x2 17 ^^^ rotr x2 19 ^^^ (x2 >>> 10) = sg1 x2 from rfl] at q6
        have q7 := u_addm (x16 + sg0 x15 + x7) (sg1 x2)
        rw [show x16 + sg0 x15 + x7 + sg1 x2 = nw by rw [HNW.out, BitVec.add_assoc (x16 + sg0 x15)]] at q7
        have q8 := u_shr3 x15
        have q9 := u_shr10 x2
        generalize x16 + sg0 x15 + x7 = y1 at *
        generalize x16 + sg0 x15 = y2 at *
        generalize sg0 x15 = y3 at *
        generalize sg1 x2 = y4 at *
        generalize rotr x15 7 ^^^ rotr x15 18 = y5 at *
        generalize rotr x2 17 ^^^ rotr x2 19 = y6 at *
        generalize x15 >>> 3 = y7 at *
        generalize x2 >>> 10 = y8 at *
        go_upto_region 9 with (fail)
        refine wp_region_tail rfl (by kernel_rfl) (by kernel_rfl) ?_
        intro T5 hT5 f hf hg
        have a0 := fun d => (HC.out _ (HST.out.to (hf d))).2.2.1
        have a1 := fun d => (HC.out _ (HST.out.to (hf d))).2.2.2.1
        have HT1 : Hid (∀ d, Calls Tryd.prog 106 #[.int .u32 (u x15), .int .i64 7] (f d) fun e w' => e = .returned (.int .u32 (u (rotr x15 7))) ∧ ∃ m, w' = f m) := Lib.hid (fun d => (E7.out (f d)).mono (by rintro e w' ⟨rfl, hb⟩; exact ⟨rfl, hg d w' hb⟩))
        have HT2 : Hid (∀ d, Calls Tryd.prog 106 #[.int .u32 (u x15), .int .i64 18] (f d) fun e w' => e = .returned (.int .u32 (u (rotr x15 18))) ∧ ∃ m, w' = f m) := Lib.hid (fun d => (E18.out (f d)).mono (by rintro e w' ⟨rfl, hb⟩; exact ⟨rfl, hg d w' hb⟩))
        have HT3 : Hid (∀ d, Calls Tryd.prog 106 #[.int .u32 (u x2), .int .i64 17] (f d) fun e w' => e = .returned (.int .u32 (u (rotr x2 17))) ∧ ∃ m, w' = f m) := Lib.hid (fun d => (E17.out (f d)).mono (by rintro e w' ⟨rfl, hb⟩; exact ⟨rfl, hg d w' hb⟩))
        have HT4 : Hid (∀ d, Calls Tryd.prog 106 #[.int .u32 (u x2), .int .i64 19] (f d) fun e w' => e = .returned (.int .u32 (u (rotr x2 19))) ∧ ∃ m, w' = f m) := Lib.hid (fun d => (E19.out (f d)).mono (by rintro e w' ⟨rfl, hb⟩; exact ⟨rfl, hg d w' hb⟩))
        have HF5 := Lib.hid hf
        clear hf hg w1 w2 E7 E18 E17 E19 HNW
        dsimp only [List.dropLast]
        repeat (go_big_quiet_step (first
          | (go_at_call 106; with_reducible refine Calls.mono (HT1.out _) ?_; rintro e w6 ⟨rfl, hm⟩; exact ⟨rfl, hm⟩)
          | (go_at_call 106; with_reducible refine Calls.mono (HT2.out _) ?_; rintro e w6 ⟨rfl, hm⟩; exact ⟨rfl, hm⟩)
          | (go_at_call 106; with_reducible refine Calls.mono (HT3.out _) ?_; rintro e w6 ⟨rfl, hm⟩; exact ⟨rfl, hm⟩)
          | (go_at_call 106; with_reducible refine Calls.mono (HT4.out _) ?_; rintro e w6 ⟨rfl, hm⟩; exact ⟨rfl, hm⟩)))
        refine wpQuiet_nil ?_
        rintro _ ⟨nq, rfl⟩
        refine ⟨rfl, ?_⟩
        have HST2 := Lib.hid (HST.out.to (HF5.out nq))
        obtain ⟨_, _, _, _, ⟨v9, hv9⟩, hfz⟩ := HC.out _ HST2.out
        clear HF5 a0 a1 HT1 HT2 HT3 HT4
        generalize f nq = wd at *
        have HN := Lib.hid (HST2.out.setO k nw)
        rw [HSE.out] at HN
        go_simp
        go_wp2_with fail
        go_roundw
        case rel => exact ⟨k + 1, by omega, by go_num, HN⟩
        case measure => simp [intOf]; omega
    · obtain rfl : k = 64 := by omega
      have HSL := Lib.hid (sched_length b 64)
      have HFE : Hid (fill64 (sched b 64) = sched b 64) := Lib.hid (by unfold fill64; rw [HSL.out]; simp)
      rw [HFE.out] at HST
      have hq := HST.out.r
      have hq2 := HST.out.o
      unfold WBox at hq hq2
      have HSZ : Hid (((sched b 64).map enc32).toArray.size = 64) := Lib.hid (by rw [words_size, HSL.out])
      have HONE := Lib.hid (words_one (sched b 64))
      have HX := Lib.hid (setRow_heap _ R _ ((sched b 64).map enc32).toArray _ _ hq)
      have HBE := Lib.hid (below_setRow HST.out.b (R := R) (by have := HST.out.eR; omega) ((sched b 64).map enc32).toArray)
      have HRE : Hid (wordsV (sched b 64) = .agg ((sched b 64).map enc32).toArray) := Lib.hid rfl
      generalize ((sched b 64).map enc32).toArray = cs at *
      go_wp2_with (first
        | (refine wpList_load_row rfl 139 (.tmp 3) rfl O ?_ 139 cs (0, 0) _ hq2 Tryd.underlying139 ?_ ?_ ?_; rfl; rfl; (rw [HSZ.out]; kernel_rfl))
        | (refine wpList_store_row rfl 139 (.tmp 2) (.tmp 85) rfl R cs ?_ ?_ 139 _ hq (by rw [HSZ.out]; kernel_rfl) (by rw [HSZ.out]; rfl) HONE.out ?_; rfl; rfl)
        | fail)
      exact bodyPost_ret (v := .agg cs) (results_cell_row Tryd.results104 _ _ R _ cs (0, 0) _ rfl HX.out Tryd.underlying139 rfl (by rw [HSZ.out]; kernel_rfl)) rfl ⟨by rw [HRE.out], HBE.out⟩
end Go.Proofs.YthcklfelofpffaaDoor
