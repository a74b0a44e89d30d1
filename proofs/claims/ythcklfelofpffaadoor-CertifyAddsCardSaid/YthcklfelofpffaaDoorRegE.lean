/- A region that draws its order: what only reads is taken first, as long as the operations that wait for it, or for one that waits for it, have not come. No condition. -/
import Derived.Test.YthcklfelofpffaaDoorRegD
namespace Go.Proofs.YthcklfelofpffaaDoor
open Go.RowKit
section
variable {P : Program} {ops : Array Oper} {Q : Exit → Act → World → Prop} {md : Region.Mode} {S : World → Prop} {hd : Nat → Bool}
/-- j waits for i, at once or by way of others. -/
def waitsB (md : Region.Mode) (ops : Array Oper) (i : Nat) : Nat → Nat → Bool
  | 0, _ => false
  | f + 1, j => ((ops[j]?).map fun o => o.after.any fun e => Region.binds md e && (e.on == i || waitsB md ops i f e.on)).getD false
/-- What has come up has come up behind what it waits for. -/
def Closed (md : Region.Mode) (ops : Array Oper) (listed : Array Bool) : Prop := ∀ j oj, ops[j]? = some oj → listed.getD j false = true → ∀ e ∈ oj.after, Region.binds md e = true → listed.getD e.on false = true
theorem ready_on {j : Nat} {listed : Array Bool} (h : j ∈ Region.ready md ops listed) : ∃ oj, ops[j]? = some oj ∧ ∀ e ∈ oj.after, Region.binds md e = true → listed.getD e.on false = true := by
  obtain ⟨_, oj, hoj, hall⟩ := mem_ready.1 h
  exact ⟨oj, hoj, fun e he hb => by simpa using hall e he hb⟩
theorem waits_listed {i : Nat} {listed : Array Bool} (hcl : Closed md ops listed) : ∀ (f j : Nat), waitsB md ops i f j = true → (∃ oj, ops[j]? = some oj ∧ ∀ e ∈ oj.after, Region.binds md e = true → listed.getD e.on false = true) → listed.getD i false = true
  | 0, _, h, _ => by simp [waitsB] at h
  | f + 1, j, h, ⟨oj, hoj, hall⟩ => by
    rw [waitsB, hoj] at h
    simp only [Option.map_some, Option.getD_some, Array.any_eq_true'] at h
    obtain ⟨e, he, h⟩ := h
    rw [Bool.and_eq_true, Bool.or_eq_true, beq_iff_eq] at h
    have hl := hall e he h.1
    rcases h.2 with h2 | h2
    · rw [← h2]; exact hl
    · have hlt : ∃ ok, ops[e.on]? = some ok := by
        match f, h2 with
        | f + 1, h2 =>
          rw [waitsB] at h2
          cases ho : ops[e.on]? with
          | none => rw [ho] at h2; simp at h2
          | some ok => exact ⟨ok, rfl⟩
      obtain ⟨ok, hok⟩ := hlt
      exact waits_listed hcl f e.on h2 ⟨ok, hok, hcl e.on ok hok hl⟩
theorem Closed.set {listed : Array Bool} (h : Closed md ops listed) {j : Nat} (hj : j ∈ Region.ready md ops listed) : Closed md ops (listed.setIfInBounds j true) := by
  intro k ok hok hl e he hb
  by_cases hkj : j = k
  · subst hkj
    obtain ⟨oj, hoj, hall⟩ := ready_on hj
    rw [hok] at hoj; cases hoj
    exact getD_set_true (hall e he hb)
  · rw [getD_set_ne false hkj] at hl
    exact getD_set_true (h k ok hok hl e he hb)
theorem wpAnyE_first {i : Nat} {oi : Oper} {v : Value} (hi : ops[i]? = some oi) (hsel : ∀ (j : Nat) (o : Oper) cs b, ops[j]? = some o → o.op ≠ .select cs b)
    (hcov : ∀ (j : Nat) (oj : Oper), ops[j]? = some oj → j ≠ i → hd j = false → ∃ f, waitsB md ops i f j = true)
    (hQ : ∀ c a w, Q (.panic c) (a.put oi.dst v) w → Q (.panic c) a w) :
    ∀ (fuel : Nat) (listed : Array Bool) (a : Act) (w : World), Closed md ops listed →
      (∀ j oj, ops[j]? = some oj → j ≠ i → listed.getD j true = false → (∀ e ∈ oj.after, Region.binds md e = true → e.on ≠ i) → oi.apart ops oj = true) →
      i ∈ Region.ready md ops listed → YieldsIf P ops S oi v a → S w →
      wpAnyD P md ops Q S hd fuel (listed.setIfInBounds i true) (a.put oi.dst v) w → wpAnyD P md ops Q S hd (fuel + 1) listed a w := by
  intro fuel
  induction fuel with
  | zero =>
    intro listed a w _ _ hr hy hS H
    refine ⟨fun h => (by rw [h] at hr; cases hr), fun j hj => ?_⟩
    by_cases hji : j = i
    · subst hji; exact hy.wpOp hi hS ⟨fun _ => hS, H⟩
    · have := ready_mono hj hji
      rw [H.1] at this
      cases this
  | succ fuel ih =>
    intro listed a w hcl hfree hr hy hS H
    refine ⟨fun h => (by rw [h] at hr; cases hr), fun j hj => ?_⟩
    by_cases hji : j = i
    · subst hji; exact hy.wpOp hi hS ⟨fun _ => hS, H⟩
    · have h1 := H.2 j (ready_mono hj hji)
      obtain ⟨hjun, oj, hoj, hall⟩ := mem_ready.1 hj
      have hnot : ∀ e ∈ oj.after, Region.binds md e = true → e.on ≠ i := fun e he hb heq => by
        have h1 := hall e he hb
        have h0 := (mem_ready.1 hr).1
        rw [heq] at h1
        rcases Nat.lt_or_ge i listed.size with h' | h'
        · simp [h'] at h0 h1; rw [h0] at h1; cases h1
        · simp [Array.getElem?_eq_none h'] at h1
      have hhd : hd j = true := by
        cases hh : hd j with
        | true => rfl
        | false =>
          obtain ⟨f, hf⟩ := hcov j oj hoj hji hh
          have hl := waits_listed hcl f j hf (ready_on hj)
          have h0 := (mem_ready.1 hr).1
          rcases Nat.lt_or_ge i listed.size with h' | h'
          · simp [h'] at h0 hl; rw [h0] at hl; cases hl
          · simp [Array.getElem?_eq_none h'] at hl
      have h2 := wpOp_putIf hoj (hfree j oj hoj hji hjun hnot) (fun cs b => hsel i oi cs b hi) (fun cs b => hsel j oj cs b hoj) hQ hy h1
      have hfree' : ∀ k ok, ops[k]? = some ok → k ≠ i → (listed.setIfInBounds j true).getD k true = false →
          (∀ e ∈ ok.after, Region.binds md e = true → e.on ≠ i) → oi.apart ops ok = true := fun k ok hk hki hun hno => by
        refine hfree k ok hk hki ?_ hno
        by_cases hjk : j = k
        · subst hjk; exact hjun
        · rw [getD_set_ne true hjk] at hun; exact hun
      refine wpOp_mono (fun a' w' h3 => ⟨fun _ => h3.2.1 hhd, ih (listed.setIfInBounds j true) a' w' (hcl.set hj) hfree' (ready_mono hr (Ne.symm hji)) h3.1 (h3.2.1 hhd) ?_⟩) h2
      rw [Array.setIfInBounds_comm _ _ hji]
      exact h3.2.2
def coversE (md : Region.Mode) (ops : Array Oper) (hd : Nat → Bool) (i : Nat) : Bool :=
  (List.range ops.size).all fun j => j == i || hd j || waitsB md ops i ops.size j
theorem coversE_spec {i : Nat} (h : coversE md ops hd i = true) : ∀ (j : Nat) (oj : Oper), ops[j]? = some oj → j ≠ i → hd j = false → ∃ f, waitsB md ops i f j = true := by
  intro j oj hj hji hh
  have hlt : j < ops.size := (Array.getElem?_eq_some_iff.1 hj).1
  have := (List.all_eq_true.1 h) j (List.mem_range.2 hlt)
  rw [hh] at this
  simp only [Bool.or_false, Bool.or_eq_true, beq_iff_eq] at this
  rcases this with h | h
  · exact absurd h hji
  · exact ⟨_, h⟩
def closedB (md : Region.Mode) (ops : Array Oper) (listed : Array Bool) : Bool :=
  (List.range ops.size).all fun j => !(listed.getD j false) || ((ops[j]?).map fun o => o.after.all fun e => !(Region.binds md e) || listed.getD e.on false).getD true
theorem closedB_spec {listed : Array Bool} (h : closedB md ops listed = true) : Closed md ops listed := by
  intro j oj hj hl e he hb
  have hlt : j < ops.size := (Array.getElem?_eq_some_iff.1 hj).1
  have := (List.all_eq_true.1 h) j (List.mem_range.2 hlt)
  rw [hj, hl] at this
  simp only [Option.map_some, Option.getD_some, Bool.not_true, Bool.false_or, Array.all_eq_true_iff_forall_mem] at this
  have h2 := this e he
  rw [hb] at h2
  simpa using h2
/-- Take number i first. -/
theorem wpAnyE_take {i : Nat} {oi : Oper} {v : Value} {fuel : Nat} {listed : Array Bool} {a : Act} {w : World} (hi : ops[i]? = some oi)
    (hs : Region.noSelect ops = true) (hc : coversE md ops hd i = true) (hcl : closedB md ops listed = true) (hf : Region.free md ops listed i = true) (hr : (Region.ready md ops listed).contains i = true)
    (hQ : ∀ c a w, Q (.panic c) (a.put oi.dst v) w → Q (.panic c) a w) (hw : Region.wanted oi (yielded ops a.tmps) = true) (hy : ∀ w, S w → (execOp a.eval oi).run P w = .ok (.value v) w) (hS : S w)
    (h : wpAnyD P md ops Q S hd fuel (listed.setIfInBounds i true) (a.put oi.dst v) w) : wpAnyD P md ops Q S hd (fuel + 1) listed a w :=
  wpAnyE_first hi (Region.noSelect_spec hs) (coversE_spec hc) hQ fuel listed a w (closedB_spec hcl) (Region.free_spec hi hf) (by simpa using hr) (Or.inl ⟨hw, hy⟩) hS h
end
end Go.Proofs.YthcklfelofpffaaDoor
