/- A region that draws its order, whose operations leave all older memory as it is, but for the last one, which waits for all others: one walk of the text's order serves every order. No condition. -/
import Derived.Test.YthcklfelofpffaaDoorBase
import Derived.BigQuiet
namespace Go.Proofs.YthcklfelofpffaaDoor
open Go.RowKit
section
variable {P : Program} {ops : Array Oper} {md : Region.Mode} {C : World → Prop} {m : Nat}
def wpAnyT (P : Program) (md : Region.Mode) (ops : Array Oper) (C : World → Prop) (m : Nat) (Q : Act → Prop) : Nat → Array Bool → Act → Prop
  | 0, listed, a => Region.ready md ops listed = [m] ∧ listed.getD m false = false ∧ Region.ready md ops (listed.setIfInBounds m true) = [] ∧ Q a
  | fuel + 1, listed, a => Region.ready md ops listed ≠ [] ∧ ∀ i ∈ Region.ready md ops listed, i ≠ m ∧ qOp P ops C i (wpAnyT P md ops C m Q fuel (listed.setIfInBounds i true)) a
theorem wpAny_of_T {Q : Act → Prop} {Q' : Exit → Act → World → Prop} (hQ : ∀ a w, C w → Q a → wpOp P ops Q' m (fun a w => Q' .normal a w) a w) : ∀ (fuel : Nat) (listed : Array Bool) (a : Act) (w : World), C w →
    wpAnyT P md ops C m Q fuel listed a → wpAny P md ops Q' (fuel + 1) listed a w
  | 0, listed, a, w, hw, h => by
    obtain ⟨h1, _, h3, h4⟩ := h
    refine ⟨fun h0 => (by rw [h1] at h0; cases h0), fun i hi => ?_⟩
    rw [h1, List.mem_singleton] at hi
    subst hi
    exact wpOp_mono (fun a w hn => ⟨h3, hn⟩) (hQ a w hw h4)
  | fuel + 1, _, _, _, hw, h => ⟨fun h0 => absurd h0 h.1, fun i hi => wpOp_of_qOp hw (fun a' w' hw' => wpAny_of_T hQ fuel _ a' w' hw') (h.2 i hi).2⟩
theorem wpAnyT_first {Q : Act → Prop} {i : Nat} {oi : Oper} {v : Value} (hi : ops[i]? = some oi) (hsel : ∀ (j : Nat) (o : Oper) cs b, ops[j]? = some o → o.op ≠ .select cs b) (him : i ≠ m)
    (hcov : ∀ om, ops[m]? = some om → ∃ e ∈ om.after, Region.binds md e = true ∧ e.on = i) :
    ∀ (fuel : Nat) (listed : Array Bool) (a : Act),
      (∀ j oj, ops[j]? = some oj → j ≠ i → listed.getD j true = false → (∀ e ∈ oj.after, Region.binds md e = true → e.on ≠ i) → oi.apart ops oj = true) →
      i ∈ Region.ready md ops listed → YieldsIn P ops C oi v a →
      wpAnyT P md ops C m Q fuel (listed.setIfInBounds i true) (a.put oi.dst v) → wpAnyT P md ops C m Q (fuel + 1) listed a := by
  have hnotof : ∀ (listed : Array Bool) (j : Nat), i ∈ Region.ready md ops listed → j ∈ Region.ready md ops listed → ∀ oj, ops[j]? = some oj → ∀ e ∈ oj.after, Region.binds md e = true → e.on ≠ i := fun listed j hr hj oj hoj e he hb heq => by
    obtain ⟨hjun, oj', hoj', hall⟩ := mem_ready.1 hj
    rw [hoj] at hoj'; cases hoj'
    have h1 := hall e he hb
    have h0 := (mem_ready.1 hr).1
    rw [heq] at h1
    rcases Nat.lt_or_ge i listed.size with h' | h'
    · simp [h'] at h0 h1; rw [h0] at h1; cases h1
    · simp [Array.getElem?_eq_none h'] at h1
  have hnm : ∀ (listed : Array Bool) (j : Nat), i ∈ Region.ready md ops listed → j ∈ Region.ready md ops listed → j ≠ m := fun listed j hr hj hjm => by
    subst hjm
    obtain ⟨_, oj, hoj, _⟩ := mem_ready.1 hj
    obtain ⟨e, he, hb, heq⟩ := hcov oj hoj
    exact hnotof listed j hr hj oj hoj e he hb heq
  intro fuel
  induction fuel with
  | zero =>
    intro listed a _ hr hy H
    refine ⟨fun h => (by rw [h] at hr; cases hr), fun j hj => ?_⟩
    by_cases hji : j = i
    · subst hji; exact ⟨him, hy.qOp hi H⟩
    · have h2 := ready_mono hj hji
      rw [H.1, List.mem_singleton] at h2
      exact absurd h2 (hnm listed j hr hj)
  | succ fuel ih =>
    intro listed a hfree hr hy H
    refine ⟨fun h => (by rw [h] at hr; cases hr), fun j hj => ?_⟩
    by_cases hji : j = i
    · subst hji; exact ⟨him, hy.qOp hi H⟩
    · have h1 := (H.2 j (ready_mono hj hji)).2
      obtain ⟨hjun, oj, hoj, hall⟩ := mem_ready.1 hj
      have hnot : ∀ e ∈ oj.after, Region.binds md e = true → e.on ≠ i := hnotof listed j hr hj oj hoj
      have h2 := qOp_put hoj (hfree j oj hoj hji hjun hnot) (fun cs b => hsel i oi cs b hi) (fun cs b => hsel j oj cs b hoj) hy h1
      have hfree' : ∀ k ok, ops[k]? = some ok → k ≠ i → (listed.setIfInBounds j true).getD k true = false →
          (∀ e ∈ ok.after, Region.binds md e = true → e.on ≠ i) → oi.apart ops ok = true := fun k ok hk hki hun hno => by
        refine hfree k ok hk hki ?_ hno
        by_cases hjk : j = k
        · subst hjk; exact hjun
        · rw [getD_set_ne true hjk] at hun; exact hun
      refine ⟨hnm listed j hr hj, qOp_mono (fun a' h3 => ih (listed.setIfInBounds j true) a' hfree' (ready_mono hr (Ne.symm hji)) h3.1 ?_) h2⟩
      rw [Array.setIfInBounds_comm _ _ hji]
      exact h3.2
/-- The text's order is one of the orders, and the last operation comes alone. -/
def lexT (md : Region.Mode) (ops : Array Oper) : Nat → Nat → Array Bool → Bool
  | 0, k, listed => Region.ready md ops listed == [k] && !(listed.getD k false) && (Region.ready md ops (listed.setIfInBounds k true)).isEmpty
  | n + 1, k, listed => (Region.ready md ops listed).contains k && Region.free md ops listed k && lexT md ops n (k + 1) (listed.setIfInBounds k true)
def coversM (md : Region.Mode) (ops : Array Oper) (m : Nat) : Bool :=
  (List.range m).all fun i => ((ops[m]?).map fun o => o.after.any fun e => Region.binds md e && e.on == i).getD false
theorem coversM_spec (h : coversM md ops m = true) (i : Nat) (hi : i < m) : ∀ om, ops[m]? = some om → ∃ e ∈ om.after, Region.binds md e = true ∧ e.on = i := by
  intro om hom
  have := (List.all_eq_true.1 h) i (List.mem_range.2 hi)
  rw [hom] at this
  simp only [Option.map_some, Option.getD_some, Array.any_eq_true'] at this
  obtain ⟨e, he, h⟩ := this
  rw [Bool.and_eq_true, beq_iff_eq] at h
  exact ⟨e, he, h.1, h.2⟩
theorem wpAnyT_lex {Q : Act → Prop} (hs : Region.noSelect ops = true) (hc : coversM md ops m = true) : ∀ (l : List Oper) (k : Nat) (listed : Array Bool) (a : Act), k + l.length = m → (∀ j, j < l.length → l[j]? = ops[k + j]?) →
    lexT md ops l.length k listed = true → wpQuiet P ops C Q l a → wpAnyT P md ops C m Q l.length listed a
  | [], k, listed, a, hk, _, hB, h => by
    simp only [List.length_nil, Nat.add_zero] at hk
    subst hk
    simp only [List.length_nil, lexT, Bool.and_eq_true, beq_iff_eq, Bool.not_eq_true', List.isEmpty_iff] at hB
    exact ⟨hB.1.1, hB.1.2, hB.2, h⟩
  | o :: l, k, listed, a, hk, hl, hB, h => by
    have h0 : ops[k]? = some o := by simpa using (hl 0 (by simp)).symm
    simp only [List.length_cons, lexT, Bool.and_eq_true] at hB
    obtain ⟨⟨hr, hf⟩, hB'⟩ := hB
    have hst : qOp P ops C k (wpQuiet P ops C Q l) a := by unfold qOp; simp only [h0]; exact h
    obtain ⟨v, hy, hK⟩ := yieldsIn_of_qOp h0 hst
    rw [List.length_cons] at hk
    exact wpAnyT_first h0 (Region.noSelect_spec hs) (by omega) (coversM_spec hc k (by omega)) l.length listed a (Region.free_spec h0 hf) (by simpa using hr) hy
      (wpAnyT_lex hs hc l (k + 1) _ _ (by omega) (fun j hj => by have := hl (j + 1) (by simpa using hj); simpa [Nat.add_assoc, Nat.add_comm 1 j] using this) hB' hK)
def lexTB (l : List Oper) : Bool := Region.noSelect l.toArray && coversM .any l.toArray (l.length - 1) && lexT .any l.toArray (l.length - 1) 0 (Array.replicate l.length false)
/-- The operations ahead of the last one. -/
theorem wp_region_last {id : Nat} {Q : Exit → Act → World → Prop} {a : Act} {w : World} {l : List Oper} {o : Oper} (hm : P.follows .mixedOrders = true) (hB : lexTB (l ++ [o]) = true)
    (h : ∀ (T : Type) (_ : Nonempty T) (f : T → World), (∀ d, Below w.heap.size w (f d)) → (∀ d w', Below (f d).heap.size (f d) w' → ∃ m, w' = f m) →
      wpQuiet P (l ++ [o]).toArray (fun w' => ∃ n, w' = f n) (fun a' => ∀ w', (∃ n, w' = f n) → Region.wanted o (yielded (l ++ [o]).toArray a'.tmps) = true ∧ o.wp P a' w' (fun a w => Q .normal a w) Q) l a) : (Code.region id (l ++ [o]).toArray true).wp P Q a w := by
  simp only [lexTB, Bool.and_eq_true, List.length_append, List.length_singleton, Nat.add_sub_cancel] at hB
  have hsz : (l ++ [o]).toArray.size = l.length + 1 := by simp
  refine wp_region_any hm ?_
  rw [hsz]
  refine wpAny_of_T (C := fun w' => ∃ n, w' = (Subtype.val : {x : World // Below w.heap.size w x} → World) n) (m := l.length)
    (Q := fun a' => ∀ w', (∃ n, w' = (Subtype.val : {x : World // Below w.heap.size w x} → World) n) → Region.wanted o (yielded (l ++ [o]).toArray a'.tmps) = true ∧ o.wp P a' w' (fun a w => Q .normal a w) Q)
    (fun a w' hw h => ?_) l.length _ a _ ⟨⟨_, (Below.refl _ w).drew⟩, rfl⟩
    (wpAnyT_lex hB.1.1 hB.1.2 l 0 _ a (by simp) (fun j hj => by simp [List.getElem?_append_left hj]) hB.2 (h _ ⟨⟨_, (Below.refl _ w).drew⟩⟩ Subtype.val (fun d => d.2) (fun d w' hb => ⟨⟨w', d.2.trans (hb.mono d.2.size)⟩, rfl⟩)))
  unfold wpOp
  have ho : (l ++ [o]).toArray[l.length]? = some o := by simp
  obtain ⟨h1, h2⟩ := h w' hw
  simp only [ho, h1, if_true]
  exact .inl h2
/-- The same for a region whose operations are written out. -/
theorem wp_region_tail {id : Nat} {Q : Exit → Act → World → Prop} {a : Act} {w : World} {l : List Oper} {o : Oper} (ho : l.dropLast ++ [o] = l) (hm : P.follows .mixedOrders = true) (hB : lexTB l = true)
    (h : ∀ (T : Type) (_ : Nonempty T) (f : T → World), (∀ d, Below w.heap.size w (f d)) → (∀ d w', Below (f d).heap.size (f d) w' → ∃ m, w' = f m) →
      wpQuiet P l.toArray (fun w' => ∃ n, w' = f n) (fun a' => ∀ w', (∃ n, w' = f n) → Region.wanted o (yielded l.toArray a'.tmps) = true ∧ o.wp P a' w' (fun a w => Q .normal a w) Q) l.dropLast a) : (Code.region id l.toArray true).wp P Q a w := by
  rw [← ho] at hB h ⊢
  rw [List.dropLast_concat] at h
  exact wp_region_last hm hB h
end
end Go.Proofs.YthcklfelofpffaaDoor
