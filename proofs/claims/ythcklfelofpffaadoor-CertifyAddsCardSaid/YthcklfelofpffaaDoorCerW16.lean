/- Hash values turned round in their row: slices.Reverse. No condition. -/
import Derived.Test.YthcklfelofpffaaDoorCerW15
import Derived.Test.YthcklfelofpffaaDoorRegE
namespace Go.Proofs.YthcklfelofpffaaDoor
open Go.RowKit
section
variable {P : Program} {ops : Array Oper} {Q : Exit → Act → World → Prop} {md : Region.Mode} {S : World → Prop} {hd hd' : Nat → Bool}
theorem wpAnyD_weaken : ∀ (fuel : Nat) (listed : Array Bool) (a : Act) (w : World), wpAnyD P md ops Q S hd fuel listed a w → wpAnyD P md ops Q (fun _ => True) hd' fuel listed a w
  | 0, _, _, _, h => h
  | fuel + 1, _, _, _, h => ⟨h.1, fun i hi => wpOp_mono (fun a' w' h' => ⟨fun _ => trivial, wpAnyD_weaken fuel _ a' w' h'.2⟩) (h.2 i hi)⟩
end
def hAt (L : List H32) (i : Nat) : List UInt8 := ((L[i]?).map (·.l)).getD []
theorem hAt_eq (L : List H32) (i : Nat) (h : i < L.length) : hAt L i = L[i].l := by unfold hAt; rw [List.getElem?_eq_getElem h]; rfl
/-- Element i behind k rounds. -/
def rv (L : List H32) (n k i : Nat) : List UInt8 := if i < k ∨ n ≤ i + k then hAt L (n - 1 - i) else hAt L i
structure RV (w0 wr : World) (g base : Nat) (L : List H32) (n k : Nat) : Prop where
  c : ∀ i, i < n → wr.rangeAt g (i * 32) ((rv L n k i).map encB)
  t : ∀ i, i < n → wr.there g (i * 32) 32
  b : Below base w0 wr
theorem below_cells {base : Nat} {w0 : World} {g : Nat} (hg : base ≤ g) : ∀ (vs : List Value) (o : Nat) (wr : World), Below base w0 wr → Below base w0 (wr.setCells g o vs)
  | [], _, _, h => h
  | v :: vs, o, _, h => below_cells hg vs (o + 1) _ (h.setCell (p := ⟨g, o, none⟩) hg v)
theorem RV.swap {w0 wr : World} {g base n k j : Nat} {L : List H32} (h : RV w0 wr g base L n k) (hl : ∀ i, i < n → (hAt L i).length = 32) (hj : j + k + 1 = n) (hk : k < j) (hg : base ≤ g) :
    RV w0 ((wr.setCells g (k * 32) ((hAt L j).map encB)).setCells g (j * 32) ((hAt L k).map encB)) g base L n (k + 1) := by
  have lj : ((hAt L j).map encB).length = 32 := by rw [List.length_map]; exact hl j (by omega)
  have lk : ((hAt L k).map encB).length = 32 := by rw [List.length_map]; exact hl k (by omega)
  have lr : ∀ i, i < n → ((rv L n k i).map encB).length = 32 := fun i hi => by
    rw [List.length_map]; unfold rv; split
    · exact hl _ (by omega)
    · exact hl _ hi
  refine ⟨fun i hi => ?_, fun i hi => World.there_setCells (World.there_setCells (h.t i hi) _ _ _) _ _ _, below_cells hg _ _ _ (below_cells hg _ _ _ h.b)⟩
  by_cases hik : i = k
  · subst hik
    have e : rv L n (i + 1) i = hAt L j := by unfold rv; rw [if_pos (by omega)]; congr 1; omega
    rw [e]
    refine World.rangeAt_setCells_apart (World.rangeAt_setCells_same _ _ _ _ (by rw [lj]; exact h.t i hi)) _ _ _ (.inr (.inl (by rw [lj]; omega)))
  · by_cases hij : i = j
    · subst hij
      have e : rv L n (k + 1) i = hAt L k := by unfold rv; rw [if_pos (by omega)]; congr 1; omega
      rw [e]
      exact World.rangeAt_setCells_same _ _ _ _ (by rw [lk]; exact World.there_setCells (h.t i hi) _ _ _)
    · have e : rv L n (k + 1) i = rv L n k i := by
        unfold rv
        by_cases hc : i < k ∨ n ≤ i + k
        · rw [if_pos hc, if_pos (by omega)]
        · rw [if_neg hc, if_neg (by omega)]
      rw [e]
      have hr := h.c i hi
      have l1 := lr i hi
      refine World.rangeAt_setCells_apart (World.rangeAt_setCells_apart hr _ _ _ (.inr ?_)) _ _ _ (.inr ?_)
      · rw [l1, lj]; omega
      · rw [l1, lk]; omega
set_option maxRecDepth 100000 in
set_option maxHeartbeats 4000000 in
theorem rev0_any (A : Option Addr) (c : Nat) (w : World) : Calls Tryd.prog 78 #[.slice A 0 c] w fun e w' => e = .returned (.tuple #[]) ∧ w = w' := by
  go_enter Tryd.func78, Tryd.ntmps78
  go_wp2_with fail
  refine wp_loop_rounds 1 ?_
  rw [rounds_succ]
  go_wp2_with fail
  go_end0
  exact ⟨rfl, rfl⟩
set_option maxRecDepth 100000 in
set_option maxHeartbeats 4000000 in
theorem rev_any (g base n c : Nat) (L : List H32) (w : World) (hg : base ≤ g) (h : RV w w g base L n 0) (hl : ∀ i, i < n → (hAt L i).length = 32) (hn : n ≤ c) (hc : c ≤ 9223372036854775807) :
    Calls Tryd.prog 78 #[.slice (some ⟨g, 0, none⟩) n c] w fun e w' => e = .returned (.tuple #[]) ∧ (∀ i, i < n → w'.rangeAt g (i * 32) ((hAt L (n - 1 - i)).map encB)) ∧ Below base w w' := by
  have HH := Lib.hid h
  have HL := Lib.hid hl
  have HG := Lib.hid hg
  clear h hl hg
  have hn63 : (n : Int) ≤ 9223372036854775807 := by omega
  go_enter Tryd.func78, Tryd.ntmps78
  go_wp2_with fail
  go_loopw [2, 3] (fun i j wr => ∃ k : Nat, 2 * k ≤ n ∧ i = .int .i64 (k : Int) ∧ j = .int .i64 ((n : Int) - 1 - (k : Int)) ∧ Hid (RV w wr g base L n k)) (fun i _ _ => n - (intOf i).toNat)
  case atStart => exact ⟨0, by omega, rfl, by simp, HH⟩
  case round =>
    obtain ⟨k, hk, rfl, rfl, HR⟩ := hrel
    by_cases hkj : (k : Int) < (n : Int) - 1 - (k : Int)
    · obtain ⟨j, hj⟩ : ∃ j : Nat, (j : Int) = (n : Int) - 1 - (k : Int) := ⟨((n : Int) - 1 - (k : Int)).toNat, by omega⟩
      have hkn : (k : Int) < (n : Int) := by omega
      have hjn : (j : Int) < (n : Int) := by omega
      have hk0 : (0 : Int) ≤ (k : Int) := by omega
      have hj0 : (0 : Int) ≤ (j : Int) := by omega
      have HJ : Hid (j + k + 1 = n ∧ k < j ∧ (j : Int) = (n : Int) - 1 - (k : Int)) := Lib.hid (by omega)
      rw [← hj] at hkj ⊢
      clear hj
      obtain ⟨cx, hcx⟩ : ∃ c, c = (hAt L k).map encB := ⟨_, rfl⟩
      obtain ⟨cy, hcy⟩ : ∃ c, c = (hAt L j).map encB := ⟨_, rfl⟩
      have HCX : Hid (cx.length = 32) := Lib.hid (by rw [hcx, List.length_map]; exact HL.out k (by omega))
      have HCY : Hid (cy.length = 32) := Lib.hid (by rw [hcy, List.length_map]; exact HL.out j (by omega))
      have HX : Hid (cx = (hAt L k).map encB) := Lib.hid hcx
      have HY : Hid (cy = (hAt L j).map encB) := Lib.hid hcy
      have HC1 : Hid (cx.toArray.all (·.oneCell') = true) := Lib.hid (by rw [hcx]; exact hash_all (hAt L k))
      have HC2 : Hid (cy.toArray.all (·.oneCell') = true) := Lib.hid (by rw [hcy]; exact hash_all (hAt L j))
      have HT1 : Hid (wr.drew.there g (k * 32) cy.toArray.size) := Lib.hid (by have := HCY.out; have := HR.out.t k (by omega); simp only [List.size_toArray]; rw [HCY.out, World.there_drew]; exact this)
      have HT2 : Hid (∀ vs, (wr.drew.setCells g (k * 32) vs).there g (j * 32) cx.toArray.size) := Lib.hid (fun vs => by have := HR.out.t j (by omega); simp only [List.size_toArray]; rw [HCX.out]; exact World.there_setCells ((World.there_drew _ _ _ _).2 this) _ _ _)
      have hHeld : wr.drew.rangeAt g (k * 32) cx ∧ wr.drew.rangeAt g (j * 32) cy := by
        have h1 := HR.out.c k (by omega)
        have h2 := HR.out.c j (by omega)
        have e1 : rv L n k k = hAt L k := by unfold rv; rw [if_neg (by have := HJ.out; omega)]
        have e2 : rv L n k j = hAt L j := by unfold rv; rw [if_neg (by have := HJ.out; omega)]
        rw [e1, ← hcx] at h1
        rw [e2, ← hcy] at h2
        exact ⟨(World.rangeAt_drew _ _ _ _).2 h1, (World.rangeAt_drew _ _ _ _).2 h2⟩
      have HN2 : Hid (RV w ((wr.drew.setCells g (k * 32) cy.toArray.toList).setCells g (j * 32) cx.toArray.toList) g base L n (k + 1)) := Lib.hid (by
        have h := HR.out
        have h' : RV w wr.drew g base L n k := ⟨fun i hi => (World.rangeAt_drew _ _ _ _).2 (h.c i hi), fun i hi => (World.there_drew _ _ _ _).2 (h.t i hi), h.b.drew⟩
        have h2 := h'.swap HL.out HJ.out.1 HJ.out.2.1 HG.out
        rw [← hcx, ← hcy] at h2
        exact h2)
      clear hcx hcy HR
      go_wp2_with fail
      refine wp_region_D (fun _ => True) (fun _ => true) (by kernel_rfl) ?_
      refine wpAnyE_take (i := 2) (oi := ⟨some 16, Op.move (Operand.tmp 0), 34, _, _, _⟩) (v := ?_) rfl (by kernel_rfl) (by kernel_rfl) (by kernel_rfl) (by kernel_rfl) (by kernel_rfl) (fun _ _ _ h => h) (by rfl) ?hyk1 trivial ?hrk1
      case hyk1 => (intro wS hSw; (try dsimp only at hSw); go_simp; (try with_reducible rfl))
      all_goals try simp only [Act.put, List.setIfInBounds_toArray, List.set_cons_zero, List.set_cons_succ]
      refine wpAnyE_take (i := 3) (oi := ⟨some 17, Op.move (Operand.tmp 3), 3, _, _, _⟩) (v := ?_) rfl (by kernel_rfl) (by kernel_rfl) (by kernel_rfl) (by kernel_rfl) (by kernel_rfl) (fun _ _ _ h => h) (by rfl) ?hyk2 trivial ?hrk2
      case hyk2 => (intro wS hSw; (try dsimp only at hSw); go_simp; (try with_reducible rfl))
      all_goals try simp only [Act.put, List.setIfInBounds_toArray, List.set_cons_zero, List.set_cons_succ]
      refine wpAnyD_weaken (S := fun w' => w'.rangeAt g (k * 32) cx ∧ w'.rangeAt g (j * 32) cy) (hd := fun i => decide (i < 13)) _ _ _ _ ?_
      refine wpAnyE_take (i := 0) (oi := ⟨some 14, Op.move (Operand.tmp 0), 34, _, _, _⟩) (v := ?_) rfl (by kernel_rfl) (by kernel_rfl) (by kernel_rfl) (by kernel_rfl) (by kernel_rfl) (fun _ _ _ h => h) (by rfl) ?hyk3 hHeld ?hrk3
      case hyk3 => (intro wS hSw; (try dsimp only at hSw); go_simp; (try with_reducible rfl))
      all_goals try simp only [Act.put, List.setIfInBounds_toArray, List.set_cons_zero, List.set_cons_succ]
      refine wpAnyE_take (i := 1) (oi := ⟨some 15, Op.move (Operand.tmp 2), 3, _, _, _⟩) (v := ?_) rfl (by kernel_rfl) (by kernel_rfl) (by kernel_rfl) (by kernel_rfl) (by kernel_rfl) (fun _ _ _ h => h) (by rfl) ?hyk4 hHeld ?hrk4
      case hyk4 => (intro wS hSw; (try dsimp only at hSw); go_simp; (try with_reducible rfl))
      all_goals try simp only [Act.put, List.setIfInBounds_toArray, List.set_cons_zero, List.set_cons_succ]
      refine wpAnyE_take (i := 4) (oi := ⟨some 18, Op.move (Operand.tmp 0), 34, _, _, _⟩) (v := ?_) rfl (by kernel_rfl) (by kernel_rfl) (by kernel_rfl) (by kernel_rfl) (by kernel_rfl) (fun _ _ _ h => h) (by rfl) ?hyk5 hHeld ?hrk5
      case hyk5 => (intro wS hSw; (try dsimp only at hSw); go_simp; (try with_reducible rfl))
      all_goals try simp only [Act.put, List.setIfInBounds_toArray, List.set_cons_zero, List.set_cons_succ]
      refine wpAnyE_take (i := 5) (oi := ⟨some 19, Op.move (Operand.tmp 3), 3, _, _, _⟩) (v := ?_) rfl (by kernel_rfl) (by kernel_rfl) (by kernel_rfl) (by kernel_rfl) (by kernel_rfl) (fun _ _ _ h => h) (by rfl) ?hyk6 hHeld ?hrk6
      case hyk6 => (intro wS hSw; (try dsimp only at hSw); go_simp; (try with_reducible rfl))
      all_goals try simp only [Act.put, List.setIfInBounds_toArray, List.set_cons_zero, List.set_cons_succ]
      refine wpAnyE_take (i := 6) (oi := ⟨some 20, Op.indexAddr 34 (Operand.tmp 18) (Operand.tmp 19), 0, _, _, _⟩) (v := ?_) rfl (by kernel_rfl) (by kernel_rfl) (by kernel_rfl) (by kernel_rfl) (by kernel_rfl) (fun _ _ _ h => h) (by rfl) ?hyk7 hHeld ?hrk7
      case hyk7 => (intro wS hSw; (try dsimp only at hSw); go_simp; (try with_reducible rfl))
      all_goals try simp only [Act.put, List.setIfInBounds_toArray, List.set_cons_zero, List.set_cons_succ]
      refine wpAnyE_take (i := 7) (oi := ⟨some 21, Op.load 29 (Operand.tmp 20), 29, _, _, _⟩) (v := ?_) rfl (by kernel_rfl) (by kernel_rfl) (by kernel_rfl) (by kernel_rfl) (by kernel_rfl) (fun _ _ _ h => h) (by rfl) ?hyk8 hHeld ?hrk8
      case hyk8 => (intro wS hSw; refine exec_load_mid 29 (.tmp 20) ?_ g (j * 32) ?_ cy _ ?_ Tryd.underlying29 ?_ ?_; rfl; rfl; (first | exact hSw.1 | exact hSw.2); rfl; (first | (rw [HCX.out]; kernel_rfl) | (rw [HCY.out]; kernel_rfl)))
      all_goals try simp only [Act.put, List.setIfInBounds_toArray, List.set_cons_zero, List.set_cons_succ]
      refine wpAnyE_take (i := 8) (oi := ⟨some 22, Op.move (Operand.tmp 0), 34, _, _, _⟩) (v := ?_) rfl (by kernel_rfl) (by kernel_rfl) (by kernel_rfl) (by kernel_rfl) (by kernel_rfl) (fun _ _ _ h => h) (by rfl) ?hyk9 hHeld ?hrk9
      case hyk9 => (intro wS hSw; (try dsimp only at hSw); go_simp; (try with_reducible rfl))
      all_goals try simp only [Act.put, List.setIfInBounds_toArray, List.set_cons_zero, List.set_cons_succ]
      refine wpAnyE_take (i := 9) (oi := ⟨some 23, Op.move (Operand.tmp 2), 3, _, _, _⟩) (v := ?_) rfl (by kernel_rfl) (by kernel_rfl) (by kernel_rfl) (by kernel_rfl) (by kernel_rfl) (fun _ _ _ h => h) (by rfl) ?hyk10 hHeld ?hrk10
      case hyk10 => (intro wS hSw; (try dsimp only at hSw); go_simp; (try with_reducible rfl))
      all_goals try simp only [Act.put, List.setIfInBounds_toArray, List.set_cons_zero, List.set_cons_succ]
      refine wpAnyE_take (i := 10) (oi := ⟨some 24, Op.indexAddr 34 (Operand.tmp 22) (Operand.tmp 23), 0, _, _, _⟩) (v := ?_) rfl (by kernel_rfl) (by kernel_rfl) (by kernel_rfl) (by kernel_rfl) (by kernel_rfl) (fun _ _ _ h => h) (by rfl) ?hyk11 hHeld ?hrk11
      case hyk11 => (intro wS hSw; (try dsimp only at hSw); go_simp; (try with_reducible rfl))
      all_goals try simp only [Act.put, List.setIfInBounds_toArray, List.set_cons_zero, List.set_cons_succ]
      refine wpAnyE_take (i := 11) (oi := ⟨some 25, Op.load 29 (Operand.tmp 24), 29, _, _, _⟩) (v := ?_) rfl (by kernel_rfl) (by kernel_rfl) (by kernel_rfl) (by kernel_rfl) (by kernel_rfl) (fun _ _ _ h => h) (by rfl) ?hyk12 hHeld ?hrk12
      case hyk12 => (intro wS hSw; refine exec_load_mid 29 (.tmp 24) ?_ g (k * 32) ?_ cx _ ?_ Tryd.underlying29 ?_ ?_; rfl; rfl; (first | exact hSw.1 | exact hSw.2); rfl; (first | (rw [HCX.out]; kernel_rfl) | (rw [HCY.out]; kernel_rfl)))
      all_goals try simp only [Act.put, List.setIfInBounds_toArray, List.set_cons_zero, List.set_cons_succ]
      refine wpAnyE_take (i := 12) (oi := ⟨some 26, Op.indexAddr 34 (Operand.tmp 14) (Operand.tmp 15), 0, _, _, _⟩) (v := ?_) rfl (by kernel_rfl) (by kernel_rfl) (by kernel_rfl) (by kernel_rfl) (by kernel_rfl) (fun _ _ _ h => h) (by rfl) ?hyk13 hHeld ?hrk13
      case hyk13 => (intro wS hSw; (try dsimp only at hSw); go_simp; (try with_reducible rfl))
      all_goals try simp only [Act.put, List.setIfInBounds_toArray, List.set_cons_zero, List.set_cons_succ]
      refine wpAnyD_one (i := 13) (oi := ⟨none, Op.store 29 (Operand.tmp 26) (Operand.tmp 21), 0, _, _, _⟩) rfl (by kernel_rfl) (by rfl) (fun K hK => ?_)
      refine wp_store_mid 29 (.tmp 26) (.tmp 21) rfl g (k * 32) cy.toArray ?_ ?_ HT1.out ?_ HC2.out ?_
      · rfl
      · rfl
      · show _ = some cy.length; rw [HCY.out]; kernel_rfl
      refine hK _ _ (fun h => absurd h (by decide)) ?_
      clear hK K
      try simp only [Act.put]
      refine wpAnyD_one (i := 14) (oi := ⟨some 27, Op.indexAddr 34 (Operand.tmp 16) (Operand.tmp 17), 0, _, _, _⟩) rfl (by kernel_rfl) (by rfl) (fun K hK => ?_)
      go_simp
      refine hK _ _ (fun h => absurd h (by decide)) ?_
      clear hK K
      try simp only [Act.put, List.setIfInBounds_toArray, List.set_cons_zero, List.set_cons_succ]
      refine wpAnyD_one (i := 15) (oi := ⟨none, Op.store 29 (Operand.tmp 27) (Operand.tmp 25), 0, _, _, _⟩) rfl (by kernel_rfl) (by rfl) (fun K hK => ?_)
      refine wp_store_mid 29 (.tmp 27) (.tmp 25) rfl g (j * 32) cx.toArray ?_ ?_ (HT2.out _) ?_ HC1.out ?_
      · rfl
      · rfl
      · show _ = some cx.length; rw [HCX.out]; kernel_rfl
      refine hK _ _ (fun h => absurd h (by decide)) ?_
      clear hK K
      try simp only [Act.put]
      refine wpAnyD_done (by kernel_rfl) ?_ _
      unfold Exit.then
      go_wp2_with fail
      go_roundw
      case rel => exact ⟨k + 1, by have := HJ.out; omega, by go_num, by have := HJ.out; first | (congr 1; omega) | go_num, HN2⟩
      case measure => simp [intOf]; omega
    · go_wp2_with fail
      go_end0
      refine ⟨rfl, fun i hi => ?_, HR.out.b⟩
      have h := HR.out.c i hi
      unfold rv at h
      split at h
      · exact h
      · have e : n - 1 - i = i := by omega
        rw [e]; exact h
end Go.Proofs.YthcklfelofpffaaDoor
