/- Plain laws of seals: the canonical ranges of a set of words, what joins a range, and that they are unique. No program is in sight. -/
import Derived.Test.YtfncpofcgalllaaSealData
namespace Go.Proofs.Ytfncpofcgalllaa
open Go.RowKit

/-- The ranges of the words from lo to hi of a set, in order, not empty and apart. -/
def Canon (P : Int → Prop) (hi : Int) : Int → List Span → Prop
  | lo, [] => ∀ x, lo ≤ x → x < hi → ¬ P x
  | lo, s :: r => lo ≤ s.f ∧ s.f < s.u ∧ s.u ≤ hi ∧ (∀ x, lo ≤ x → x < s.f → ¬ P x) ∧ (∀ x, s.f ≤ x → x < s.u → P x) ∧ (s.u < hi → ¬ P s.u) ∧ Canon P hi s.u r

theorem Canon.unique {P : Int → Prop} {hi : Int} : ∀ {lo : Int} {a b : List Span}, Canon P hi lo a → Canon P hi lo b → a = b := by
  intro lo a
  induction a generalizing lo with
  | nil =>
    intro b ha hb
    cases b with
    | nil => rfl
    | cons s r =>
      obtain ⟨h1, h2, h3, h4, h5, h6, h7⟩ := hb
      exact absurd (h5 s.f (by omega) h2) (ha s.f h1 (by omega))
  | cons s r ih =>
    intro b ha hb
    obtain ⟨h1, h2, h3, h4, h5, h6, h7⟩ := ha
    cases b with
    | nil => exact absurd (h5 s.f (by omega) h2) (hb s.f h1 (by omega))
    | cons t q =>
      obtain ⟨k1, k2, k3, k4, k5, k6, k7⟩ := hb
      have ef : s.f = t.f := by
        rcases Int.lt_trichotomy s.f t.f with h | h | h
        · exact absurd (h5 s.f (by omega) h2) (k4 s.f h1 h)
        · exact h
        · exact absurd (k5 t.f (by omega) k2) (h4 t.f k1 h)
      have eu : s.u = t.u := by
        rcases Int.lt_trichotomy s.u t.u with h | h | h
        · exact absurd (k5 s.u (by omega) h) (h6 (by omega))
        · exact h
        · exact absurd (h5 t.u (by omega) h) (k6 (by omega))
      have est : s = t := by cases s; cases t; simp only at ef eu; rw [ef, eu]
      rw [est]
      rw [eu] at h7
      rw [ih h7 k7]

theorem Canon.congr {P Q : Int → Prop} {hi lo : Int} {l : List Span} (h : Canon P hi lo l) (e : ∀ x, lo ≤ x → x < hi → (P x ↔ Q x)) : Canon Q hi lo l := by
  induction l generalizing lo with
  | nil => exact fun x h1 h2 hq => h x h1 h2 ((e x h1 h2).2 hq)
  | cons s r ih =>
    obtain ⟨h1, h2, h3, h4, h5, h6, h7⟩ := h
    exact ⟨h1, h2, h3, fun x a b c => h4 x a b ((e x a (by omega)).2 c), fun x a b => (e x (by omega) (by omega)).1 (h5 x a b), fun a b => h6 a ((e s.u (by omega) a).2 b), ih h7 fun x a b => e x (by omega) b⟩

/-- Whether a word lies in the ranges is whether it is in the set. -/
theorem Canon.mem {P : Int → Prop} {hi lo : Int} {l : List Span} (h : Canon P hi lo l) (x : Int) (h1 : lo ≤ x) (h2 : x < hi) : P x ↔ ∃ s ∈ l, s.f ≤ x ∧ x < s.u := by
  induction l generalizing lo with
  | nil => simp; exact h x h1 h2
  | cons s r ih =>
    obtain ⟨k1, k2, k3, k4, k5, k6, k7⟩ := h
    by_cases a : x < s.f
    · constructor
      · intro hp; exact absurd hp (k4 x h1 a)
      · rintro ⟨t, ht, t1, t2⟩
        rcases List.mem_cons.1 ht with rfl | ht
        · omega
        · have : ∀ (q : List Span) (lo : Int), Canon P hi lo q → ∀ t ∈ q, lo ≤ t.f := by
            intro q
            induction q with
            | nil => intro lo _ t ht; cases ht
            | cons y q ihq =>
              intro lo hq t ht
              obtain ⟨j1, j2, j3, j4, j5, j6, j7⟩ := hq
              rcases List.mem_cons.1 ht with rfl | ht
              · exact j1
              · have := ihq _ j7 t ht; omega
          have := this r _ k7 t ht
          omega
    · by_cases b : x < s.u
      · exact ⟨fun _ => ⟨s, List.mem_cons_self, by omega, b⟩, fun _ => k5 x (by omega) b⟩
      · rw [ih k7 (by omega)]
        constructor
        · rintro ⟨t, ht, q⟩; exact ⟨t, List.mem_cons_of_mem _ ht, q⟩
        · rintro ⟨t, ht, t1, t2⟩
          rcases List.mem_cons.1 ht with rfl | ht
          · omega
          · exact ⟨t, ht, t1, t2⟩

/-- A range is joined to ranges that begin before it. -/
def hstep (a b : Int) : List Span → List Span
  | [] => [⟨a, b⟩]
  | [s] => if a ≤ s.u then [⟨s.f, max s.u b⟩] else [s, ⟨a, b⟩]
  | s :: t :: r => s :: hstep a b (t :: r)
theorem hstep_canon {P : Int → Prop} {hi lo a b : Int} {l : List Span} (h : Canon P hi lo l) (hf : ∀ s ∈ l, s.f ≤ a) (hlo : lo ≤ a) (hab : a < b) (hb : b ≤ hi) : Canon (fun x => P x ∨ (a ≤ x ∧ x < b)) hi lo (hstep a b l) := by
  induction l generalizing lo with
  | nil =>
    refine ⟨hlo, hab, hb, ?_, fun x h1 h2 => .inr ⟨h1, h2⟩, ?_, ?_⟩
    · rintro x h1 h2 (hp | hp)
      · exact h x h1 (by simp only at h2; omega) hp
      · simp only at hp h2; omega
    · rintro h1 (hp | hp)
      · exact h _ (by simp only; omega) h1 hp
      · simp only at hp; omega
    · rintro x h1 h2 (hp | hp)
      · exact h x (by simp only at h1; omega) h2 hp
      · simp only at hp h1; omega
  | cons s r ih =>
    obtain ⟨k1, k2, k3, k4, k5, k6, k7⟩ := h
    have hsa := hf s List.mem_cons_self
    cases r with
    | nil =>
      by_cases ha : a ≤ s.u
      · simp only [hstep, if_pos ha]
        refine ⟨k1, by simp only; omega, by simp only; omega, ?_, ?_, ?_, ?_⟩
        · rintro x h1 h2 (hp | hp)
          · exact k4 x h1 h2 hp
          · simp only at hp h2; omega
        · intro x h1 h2
          by_cases hx : x < s.u
          · exact .inl (k5 x h1 hx)
          · exact .inr (by simp only at h2; omega)
        · rintro h1 (hp | hp)
          · by_cases hm : b ≤ s.u
            · simp only [Int.max_eq_left hm] at hp h1; exact k6 h1 hp
            · simp only [Int.max_eq_right (by omega : s.u ≤ b)] at hp h1; exact k7 b (by omega) h1 hp
          · simp only at hp; omega
        · rintro x h1 h2 (hp | hp)
          · exact k7 x (by simp only at h1; omega) h2 hp
          · simp only at hp h1; omega
      · simp only [hstep, if_neg ha]
        refine ⟨k1, k2, k3, ?_, fun x h1 h2 => .inl (k5 x h1 h2), ?_, ?_, hab, hb, ?_, fun x h1 h2 => .inr ⟨h1, h2⟩, ?_, ?_⟩
        · rintro x h1 h2 (hp | hp)
          · exact k4 x h1 h2 hp
          · omega
        · rintro h1 (hp | hp)
          · exact k6 h1 hp
          · omega
        · simp only; omega
        · rintro x h1 h2 (hp | hp)
          · exact k7 x h1 (by simp only at h2; omega) hp
          · simp only at h2; omega
        · rintro h1 (hp | hp)
          · exact k7 _ (by simp only; omega) h1 hp
          · simp only at hp; omega
        · rintro x h1 h2 (hp | hp)
          · exact k7 x (by simp only at h1; omega) h2 hp
          · simp only at hp h1; omega
    | cons t q =>
      have hta := hf t (by simp)
      obtain ⟨j1, j2, j3, j4, j5, j6, j7⟩ := id k7
      have hst : s.u < t.f := by
        by_cases e : s.u = t.f
        · exact absurd (j5 t.f (by omega) j2) (by rw [← e]; exact k6 (by omega))
        · omega
      refine ⟨k1, k2, k3, ?_, fun x h1 h2 => .inl (k5 x h1 h2), ?_, ih k7 (fun s hs => hf s (List.mem_cons_of_mem _ hs)) (by omega)⟩
      · rintro x h1 h2 (hp | hp)
        · exact k4 x h1 h2 hp
        · omega
      · rintro h1 (hp | hp)
        · exact k6 h1 hp
        · omega
theorem hstep_last (a b : Int) (p : List Span) (s : Span) : hstep a b (p ++ [s]) = if a ≤ s.u then p ++ [⟨s.f, max s.u b⟩] else p ++ [s, ⟨a, b⟩] := by
  induction p with
  | nil => simp only [List.nil_append, hstep]
  | cons y p ih =>
    have e : ∃ z q, p ++ [s] = z :: q := by cases p <;> exact ⟨_, _, rfl⟩
    obtain ⟨z, q, e⟩ := e
    rw [List.cons_append, e, hstep, ← e, ih]
    split <;> rfl
theorem hstep_f (a b : Int) (l : List Span) : ∀ s ∈ hstep a b l, s.f = a ∨ ∃ t ∈ l, s.f = t.f := by
  induction l with
  | nil => intro s hs; simp [hstep] at hs; subst hs; exact .inl rfl
  | cons y r ih =>
    cases r with
    | nil =>
      intro s hs
      simp only [hstep] at hs
      split at hs
      · simp at hs; subst hs; exact .inr ⟨y, by simp, rfl⟩
      · simp at hs
        rcases hs with rfl | rfl
        · exact .inr ⟨s, by simp, rfl⟩
        · exact .inl rfl
    | cons t q =>
      intro s hs
      simp only [hstep] at hs
      rcases List.mem_cons.1 hs with rfl | hs
      · exact .inr ⟨s, by simp, rfl⟩
      · rcases ih s hs with h | ⟨z, hz, e⟩
        · exact .inl h
        · exact .inr ⟨z, List.mem_cons_of_mem _ hz, e⟩

/-- No further word up to a higher end. -/
theorem Canon.further {P : Int → Prop} {hi hi' lo : Int} {l : List Span} (h : Canon P hi lo l) (hlo : lo ≤ hi) (hh : hi ≤ hi') (hn : ∀ x, hi ≤ x → x < hi' → ¬ P x) : Canon P hi' lo l := by
  induction l generalizing lo with
  | nil => exact fun x h1 h2 => if hx : x < hi then h x h1 hx else hn x (by omega) h2
  | cons s r ih =>
    obtain ⟨k1, k2, k3, k4, k5, k6, k7⟩ := h
    exact ⟨k1, k2, by omega, k4, k5, fun h1 => if hx : s.u < hi then k6 hx else hn _ (by omega) h1, ih k7 k3⟩
/-- A further range behind a gap. -/
theorem Canon.push {P : Int → Prop} {hi hi' lo : Int} {l : List Span} (h : Canon P hi lo l) (hlo : lo ≤ hi) (hh : hi < hi') (hn : ∀ s ∈ l, s.u ≠ hi) (hp : ∀ x, hi ≤ x → x < hi' → P x) : Canon P hi' lo (l ++ [⟨hi, hi'⟩]) := by
  induction l generalizing lo with
  | nil => exact ⟨hlo, hh, Int.le_refl _, fun x h1 h2 => h x h1 h2, hp, fun h1 => absurd h1 (by simp), fun x h1 h2 => by simp only at h1; omega⟩
  | cons s r ih =>
    obtain ⟨k1, k2, k3, k4, k5, k6, k7⟩ := h
    have := hn s List.mem_cons_self
    exact ⟨k1, k2, by omega, k4, k5, fun h1 => k6 (by omega), ih k7 k3 (fun t ht => hn t (List.mem_cons_of_mem _ ht))⟩
/-- The last range goes on. -/
theorem Canon.grow {P : Int → Prop} {hi hi' lo : Int} {p : List Span} {s : Span} (h : Canon P hi lo (p ++ [s])) (hs : s.u = hi) (hh : hi < hi') (hp : ∀ x, hi ≤ x → x < hi' → P x) : Canon P hi' lo (p ++ [⟨s.f, hi'⟩]) := by
  induction p generalizing lo with
  | nil =>
    obtain ⟨k1, k2, k3, k4, k5, k6, k7⟩ := h
    exact ⟨k1, by simp only; omega, Int.le_refl _, k4, fun x h1 h2 => if hx : x < s.u then k5 x h1 hx else hp x (by omega) h2, fun h1 => absurd h1 (by simp), fun x h1 h2 => by simp only at h1; omega⟩
  | cons y r ih =>
    obtain ⟨k1, k2, k3, k4, k5, k6, k7⟩ := h
    have hyh : y.u < hi := by
      by_cases e : y.u = hi
      · exfalso
        have : ∀ (q : List Span) (lo : Int), hi ≤ lo → ¬ Canon P hi lo (q ++ [s]) := by
          intro q lo hl hq
          cases q with
          | nil => obtain ⟨j1, j2, j3, _⟩ := hq; omega
          | cons z q => obtain ⟨j1, j2, j3, _⟩ := hq; omega
        exact this r y.u (by omega) k7
      · omega
    exact ⟨k1, k2, by omega, k4, k5, fun _ => k6 hyh, ih k7⟩
theorem Canon.le {P : Int → Prop} {hi lo : Int} {l : List Span} (h : Canon P hi lo l) : ∀ s ∈ l, lo ≤ s.f ∧ s.f < s.u ∧ s.u ≤ hi := by
  induction l generalizing lo with
  | nil => intro s hs; cases hs
  | cons y r ih =>
    obtain ⟨k1, k2, k3, k4, k5, k6, k7⟩ := h
    intro s hs
    rcases List.mem_cons.1 hs with rfl | hs
    · exact ⟨k1, k2, k3⟩
    · have := ih k7 s hs; omega
/-- In order and apart. -/
theorem Canon.apart {P : Int → Prop} {hi lo : Int} {l : List Span} (h : Canon P hi lo l) : ∀ i j, (hij : i < j) → (hj : j < l.length) → (l[i]'(by omega)).u < l[j].f := by
  induction l generalizing lo with
  | nil => intro i j _ hj; simp at hj
  | cons s r ih =>
    obtain ⟨k1, k2, k3, k4, k5, k6, k7⟩ := h
    intro i j hij hj
    obtain ⟨j, rfl⟩ : ∃ q, j = q + 1 := ⟨j - 1, by omega⟩
    cases i with
    | succ i => simpa using ih k7 i j (by omega) (by simpa using hj)
    | zero =>
      simp only [List.getElem_cons_zero, List.getElem_cons_succ]
      cases j with
      | succ j =>
        have h1 := ih k7 0 (j + 1) (by omega) (by simpa using hj)
        have hr0 : 0 < r.length := by simp at hj; omega
        have h2 := k7.le (r[0]'hr0) (List.getElem_mem _)
        omega
      | zero =>
        cases r with
        | nil => simp at hj
        | cons t q =>
          obtain ⟨j1, j2, j3, j4, j5, j6, j7⟩ := id k7
          by_cases e : s.u = t.f
          · exact absurd (j5 t.f (by omega) j2) (by rw [← e]; exact k6 (by omega))
          · simp only [List.getElem_cons_zero]; omega
theorem Canon.grow_set {P : Int → Prop} {hi hi' lo : Int} {out : List Span} {q : Nat} (h : Canon P hi lo out) (hq : out.length = q + 1) (hql : q < out.length) (hs : (out[q]'hql).u = hi) (hh : hi < hi') (hp : ∀ x, hi ≤ x → x < hi' → P x) : Canon P hi' lo (out.set q ⟨(out[q]'hql).f, hi'⟩) := by
  have e : ∃ p y, out = p ++ [y] := by
    rcases List.eq_nil_or_concat out with rfl | ⟨p, y, e⟩
    · simp at hq
    · exact ⟨p, y, by rw [e, List.concat_eq_append]⟩
  obtain ⟨p, y, rfl⟩ := e
  have hpq : p.length = q := by simp at hq; omega
  subst hpq
  have hg : (p ++ [y])[p.length]'hql = y := by simp
  rw [hg] at hs
  simp only [hg]
  rw [List.set_append_right _ _ (Nat.le_refl _)]
  simp only [Nat.sub_self, List.set_cons_zero]
  exact h.grow hs hh hp
theorem Canon.last_ne {P : Int → Prop} {hi lo : Int} {out : List Span} {q : Nat} (h : Canon P hi lo out) (hq : out.length = q + 1) (hql : q < out.length) (hs : (out[q]'hql).u ≠ hi) : ∀ s ∈ out, s.u ≠ hi := by
  intro s hs'
  obtain ⟨i, hi', rfl⟩ := List.getElem_of_mem hs'
  by_cases e : i = q
  · subst e; exact hs
  · have h1 := h.apart i q (by omega) hql
    have h2 := h.le (out[q]'hql) (List.getElem_mem _)
    omega
end Go.Proofs.Ytfncpofcgalllaa
