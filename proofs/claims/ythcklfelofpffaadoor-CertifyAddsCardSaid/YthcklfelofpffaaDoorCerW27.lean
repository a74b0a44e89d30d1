/- The sheets of a list whose labels have not occurred before: Different. No condition. -/
import Derived.Test.YthcklfelofpffaaDoorCerW26
namespace Go.Proofs.YthcklfelofpffaaDoor
open Go.RowKit
/-- Sheets among a list, with different labels. -/
def DiffS (l d : List Sheet) : Prop := (d.map (·.label)).Nodup ∧ ∀ s ∈ d, s ∈ l
theorem any_take_succ {α : Type} (p : α → Bool) (l : List α) (m : Nat) (h : m < l.length) : (l.take (m + 1)).any p = ((l.take m).any p || p l[m]) := by
  rw [List.take_succ_eq_append_getElem h, List.any_append]; simp
set_option maxRecDepth 100000 in
set_option maxHeartbeats 4000000 in
theorem different_any (A : Option Addr) (c : Nat) (l : List Sheet) (w : World) (hl : Sl w (fun b => b < w.heap.size) A c l) (hlm : l.length ≤ 1000) :
    Calls Tryd.prog 19 #[.slice A l.length c] w fun e w' => ∃ v : Value, e = .returned v ∧ ∃ d : List Sheet, Own w' w.heap.size 24 v d ∧ d.length ≤ l.length ∧ DiffS l d ∧ Below w.heap.size w w' := by
  have HL := Lib.hid hl
  clear hl
  go_enter Tryd.func19, Tryd.ntmps19
  go_wp2_with fail
  go_loopw [3, 4] (fun v i wr => ∃ (k : Nat) (d : List Sheet), k ≤ l.length ∧ i = .int .i64 k ∧ d.length ≤ k ∧ Hid (Own wr w.heap.size 24 v d) ∧ Hid (DiffS l d) ∧ Hid (Below w.heap.size w wr)) (fun _ i _ => l.length - (intOf i).toNat)
  case atStart => exact ⟨0, [], Nat.zero_le _, rfl, by simp, Lib.hid (Own.nil _ _ _), Lib.hid ⟨by simp, by simp⟩, Lib.hid (Below.refl _ _)⟩
  case round =>
    obtain ⟨k, d, hk, rfl, hdk, HO, HD, HB⟩ := hrel
    by_cases hlt : k < l.length
    · obtain ⟨b, o, A1, c1, A2, c2, rfl, hbS, hbl, e0, e1, e2, s1, s2⟩ := sheet_at (HL.out.to HB.out) hlt
      have hkl : (k : Int) < (l.length : Int) := by omega
      have hk0 : (0 : Int) ≤ (k : Int) := by omega
      have HX : Hid (∀ s, s = l[k] → s ∈ l) := Lib.hid (fun s e => by rw [e]; exact List.getElem_mem _)
      have HXE : Hid (∃ s, s = l[k]) := Lib.hid ⟨_, rfl⟩
      generalize hx : l[k] = x at *
      have HXX := Lib.hid hx
      clear hx
      have HXR : Hid ((∀ W (v : Value), Below w.heap.size w W → (∀ g, v.ownBlock = some g → w.heap.size ≤ g) → Sl W (fun b => some b ≠ v.ownBlock) A1 c1 x.body) ∧ (∀ W (v : Value), Below w.heap.size w W → (∀ g, v.ownBlock = some g → w.heap.size ≤ g) → Sl W (fun b => some b ≠ v.ownBlock) A2 c2 x.notes) ∧ x.body.length < 9223372036854775808 ∧ x.notes.length < 9223372036854775808) := by
        obtain ⟨b', o', A1', c1', A2', c2', e', _, hbl', e0', e1', e2', s1', s2'⟩ := sheet_at HL.out hlt
        rw [HXX.out] at e1' e2' s1' s2'
        cases e'
        have h1 := (HB.out.cell (p := ⟨b, o + k * 3 + 1, none⟩) hbl').trans e1'
        have h2 := (HB.out.cell (p := ⟨b, o + k * 3 + 2, none⟩) hbl').trans e2'
        rw [e1] at h1
        rw [e2] at h2
        obtain ⟨rfl, rfl⟩ : A1 = A1' ∧ c1 = c1' := by simpa using h1
        obtain ⟨rfl, rfl⟩ : A2 = A2' ∧ c2 = c2' := by simpa using h2
        refine Lib.hid ⟨fun W v hb hv => (s1'.keep (Kept.below hb (fun _ h => h)) hb.size).mono (fun i hi _ e => by have := hv i e.symm; omega), fun W v hb hv => (s2'.keep (Kept.below hb (fun _ h => h)) hb.size).mono (fun i hi _ e => by have := hv i e.symm; omega), ?_, ?_⟩
        · have := s1'.1; have := s1'.2.1; unfold maxLen at this; omega
        · have := s2'.1; have := s2'.2.1; unfold maxLen at this; omega
      obtain ⟨A3, c3, ev, hvs⟩ := HO.out.sl
      have HVS := Lib.hid hvs
      clear hvs
      subst ev
      obtain ⟨wo, rfl⟩ : ∃ wo : World, wo = wr := ⟨_, rfl⟩
      have HE := Lib.hid (And.intro e0 (And.intro e1 e2))
      have HS1 := Lib.hid s1
      have HS2 := Lib.hid s2
      clear e0 e1 e2 s1 s2
      go_wp2_with fail
      go_loopw [5, 6] (fun kb kk ww => ∃ (m : Nat) (q : Bool), kb = .bool q ∧ kk = .int .i64 m ∧ m ≤ d.length ∧ Hid (q = (d.take m).any fun s => decide (s.label = x.label)) ∧ Hid (Below wo.heap.size wo ww)) (fun _ kk _ => d.length - (intOf kk).toNat)
      case atStart => exact ⟨0, false, rfl, rfl, Nat.zero_le _, Lib.hid (by simp), Lib.hid (Below.refl _ _)⟩
      case round =>
        obtain ⟨m, q, rfl, rfl, hm, HQ, HBW⟩ := hrel
        by_cases hmd : m < d.length
        · obtain ⟨b3, o3, A4, c4, A5, c5, rfl, _, _, g0, _, _, _, _⟩ := sheet_at (HVS.out.to HBW.out) hmd
          have e0 := (HBW.out.cell (p := ⟨b, o + k * 3, none⟩) hbl).trans HE.out.1
          have hmd' : (m : Int) < (d.length : Int) := by omega
          have hm0 : (0 : Int) ≤ (m : Int) := by omega
          have HQ2 := Lib.hid (any_take_succ (fun s : Sheet => decide (s.label = x.label)) d m hmd)
          generalize d[m] = y at *
          cases q with
          | true =>
            go_wp2_with fail
            go_quiet (fail)
            unfold Exit.then
            go_wp2_with fail
            go_roundw
            case rel => exact ⟨m + 1, true, rfl, by go_num, by omega, Lib.hid (by rw [HQ2.out, ← HQ.out, Bool.true_or]), Lib.hid (Below.dn HBW.out _)⟩
            case measure => simp [intOf]; omega
          | false =>
            by_cases hy : y.label = x.label
            · have hB : (y.label.toList == x.label.toList) = true := tl_eq hy
              have HY := Lib.hid hy
              clear hy
              go_wp2_with fail
              go_quiet (fail)
              unfold Exit.then
              go_wp2_with fail
              go_roundw
              case rel => exact ⟨m + 1, true, rfl, by go_num, by omega, Lib.hid (by rw [HQ2.out, ← HQ.out, Bool.false_or, decide_eq_true HY.out]), Lib.hid (Below.dn HBW.out _)⟩
              case measure => simp [intOf]; omega
            · have hB : (y.label.toList == x.label.toList) = false := tl_ne hy
              have HY := Lib.hid hy
              clear hy
              go_wp2_with fail
              go_quiet (fail)
              unfold Exit.then
              go_wp2_with fail
              go_roundw
              case rel => exact ⟨m + 1, false, rfl, by go_num, by omega, Lib.hid (by rw [HQ2.out, ← HQ.out, Bool.false_or, decide_eq_false HY.out]), Lib.hid (Below.dn HBW.out _)⟩
              case measure => simp [intOf]; omega
        · obtain rfl : m = d.length := by omega
          have HQ2 : Hid (q = d.any fun s => decide (s.label = x.label)) := Lib.hid (by have := HQ.out; rwa [List.take_length] at this)
          have HB2 := Lib.hid (HB.out.trans (HBW.out.mono HB.out.size))
          have HO2 := Lib.hid (HO.out.below HBW.out)
          clear HQ
          cases q with
          | true =>
            go_wp2_with fail
            go_roundw
            case rel => exact ⟨k + 1, d, by omega, by go_num, by omega, HO2, HD, HB2⟩
            case measure => simp [intOf]; omega
          | false =>
            have k0 := (HBW.out.cell (p := ⟨b, o + k * 3, none⟩) hbl).trans HE.out.1
            have k1 := (HBW.out.cell (p := ⟨b, o + k * 3 + 1, none⟩) hbl).trans HE.out.2.1
            have k2 := (HBW.out.cell (p := ⟨b, o + k * 3 + 2, none⟩) hbl).trans HE.out.2.2
            have hba : Below wr.heap.size wr (wr.alloc (.cells #[.string x.label, .slice A1 x.body.length c1, .slice A2 x.notes.length c2] 24)) := (Below.refl _ _).alloc (Nat.le_refl _) _
            have HO3 := Lib.hid (HO2.out.below hba)
            have HR : Hid (∀ v : Value, (∀ g, v.ownBlock = some g → w.heap.size ≤ g) → Rep.R (wr.alloc (.cells #[.string x.label, .slice A1 x.body.length c1, .slice A2 x.notes.length c2] 24)) (fun b => some b ≠ v.ownBlock) [.string x.label, .slice A1 x.body.length c1, .slice A2 x.notes.length c2] x) := Lib.hid (fun v hv =>
              ⟨_, _, rfl, ⟨A1, c1, rfl, HXR.out.1 _ v (HB2.out.trans (hba.mono HB2.out.size)) hv, HXR.out.2.2.1⟩, ⟨A2, c2, rfl, HXR.out.2.1 _ v (HB2.out.trans (hba.mono HB2.out.size)) hv, HXR.out.2.2.2⟩⟩)
            have HVL : Hid (∀ g, (Value.slice A3 d.length c3).ownBlock = some g → w.heap.size ≤ g) := Lib.hid (fun g hg => (HO.out.lt g hg).1)
            have HDN : Hid (DiffS l (d ++ [x])) := Lib.hid ⟨by
              rw [List.map_append, List.map_singleton, List.nodup_append]
              refine ⟨HD.out.1, by simp, fun a ha b hb => ?_⟩
              obtain rfl := List.mem_singleton.1 hb
              rintro rfl
              obtain ⟨s, hs, e⟩ := List.mem_map.1 ha
              have hq := HQ2.out
              rw [eq_comm, List.any_eq_false] at hq
              exact hq s hs (by rw [e]; simp), fun s hs => by
              rcases List.mem_append.1 hs with h | h
              · exact HD.out.2 s h
              · obtain rfl := List.mem_singleton.1 h
                exact HX.out _ rfl⟩
            clear hba
            go_wp2_with (first
              | (at_builtin; refine wpList_push (α := Sheet) _ rfl (.tmp 35) (.tmp 40) 26 rfl w.heap.size 24 (.agg #[.string ⟨#[]⟩, .slice none 0 0, .slice none 0 0]) 64 Tryd.underlying26 sheet_info rfl (by decide) (.slice A3 d.length c3) d rfl HO3.out wr.heap.size #[.string x.label, .slice A1 x.body.length c1, .slice A2 x.notes.length c2] x (0, 0) 24 rfl (heap_alloc_new wr _) (HR.out _ HVL.out) (by omega) (by omega) (by have := HB2.out.size; simp; omega) _ rfl ?_; intro g5 p5 w5 hown5 hg5 hat5 hlt5)
              | fail)
            go_roundw
            case rel => exact ⟨k + 1, d ++ [x], by omega, by go_num, by simp; omega, Lib.hid hown5, HDN, Lib.hid (below_push HB2.out HO2.out HB2.out.size hg5)⟩
            case measure => simp [intOf]; omega
    · go_wp2_with fail
      go_ret
      exact ⟨u3, rfl, d, HO.out, by omega, HD.out, HB.out⟩
end Go.Proofs.YthcklfelofpffaaDoor
