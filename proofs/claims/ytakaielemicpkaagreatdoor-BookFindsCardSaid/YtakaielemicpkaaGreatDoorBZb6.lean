/- What stands in the boxes of a page's filling: the body, the height, the queue, the pages. No condition.
A region that draws its order: first what asks nothing of memory, in any order; then the others, once, in the order of the text. No condition.
Helpers for the walks of the references. No condition.
The reference's generator of texts: its words and its paragraphs. No condition but that the numbers fit.
Around, SameStrings. No condition.
The reference's generator of texts: Pick, last, refer. No condition but that the numbers fit.
The reference's generator of texts: refer. No condition but that the numbers fit.
The reference's generator of texts. No condition.
The reference's generator of texts: the walk. No condition.
What the generator of texts hands back, as such: a text of good words, whose notes are numbered in order, has no error. No condition. -/
import Derived.Test.YtakaielemicpkaaGreatDoorBZb5
import Derived.Deep.RegionLaw
import Derived.Deep.RegionHeld3
namespace Go.Proofs.YtakaielemicpkaaGreatDoor
open Go.RowKit
section
variable {α : Type} [Rep α] {P : Nat → Prop} {w w' : World} {base : Nat} {e : TypeId} {v : Value}
theorem Own.keptA {l : List (Av α P)} (h : Own w base e v l) (hk : Kept P w w') (ha : ∀ g, v.ownBlock = some g → g < w.heap.size → w'.heap[g]? = w.heap[g]?) : Own w' base e v l := by
  obtain ⟨xs, hx, ho, hr⟩ := h
  refine ⟨xs, ⟨hx.1, ?_⟩, ho, fun i hi => Rep.keep (α := α) (hr i hi) (fun b hb hl => hk b hb.2 hl)⟩
  rcases hx.2 with hn | ⟨g, cap, cur, hv, hb, hg, rest⟩
  · exact .inl hn
  · refine .inr ⟨g, cap, cur, hv, hb, ?_, rest⟩
    rw [ha g (by rw [hv]; rfl) (Array.getElem?_eq_some_iff.1 hg).1]; exact hg
theorem Que.keptA {ob : Option Nat} {l : List (Av α P)} (h : Que w base e ob v l) (hk : Kept P w w') (ha : ∀ g, ob = some g → g < w.heap.size → w'.heap[g]? = w.heap[g]?) : Que w' base e ob v l := by
  rcases h with ⟨pre, g, c, rfl, hlt, ho, rfl⟩ | ⟨rfl, rfl, A, rfl⟩
  · exact .inl ⟨pre, g, c, rfl, hlt, ho.keptA hk (fun g' hg' => ha g' hg'), rfl⟩
  · exact .inr ⟨rfl, rfl, A, rfl⟩
theorem Sl.av {S : Nat → Prop} {A : Option Addr} {c : Nat} {l : List α} (h : Sl w S A c l) (hS : ∀ i, S i → i < w.heap.size → P i) : Sl w S A c (l.map (Av.mk : α → Av α P)) := by
  refine ⟨by rw [List.length_map]; exact h.1, h.2.1, fun h0 => ?_⟩
  rw [List.length_map] at h0
  obtain ⟨b, o, rfl, hb, hlt, hx⟩ := h.2.2 h0
  refine ⟨b, o, rfl, hb, hlt, fun i hi => ?_⟩
  rw [List.length_map] at hi
  obtain ⟨es, hr, hc⟩ := hx i hi
  rw [List.getElem_map]
  exact ⟨es, Rep.mono (α := α) hr (fun b hb hl => ⟨hb, hS b hb hl⟩), hc⟩
theorem Sl.unav {S : Nat → Prop} {A : Option Addr} {c : Nat} {l : List α} (h : Sl w S A c (l.map (Av.mk : α → Av α P))) : Sl w S A c l := by
  refine ⟨by have := h.1; rw [List.length_map] at this; exact this, h.2.1, fun h0 => ?_⟩
  obtain ⟨b, o, rfl, hb, hlt, hx⟩ := h.2.2 (by rw [List.length_map]; exact h0)
  refine ⟨b, o, rfl, hb, hlt, fun i hi => ?_⟩
  obtain ⟨es, hr, hc⟩ := hx i (by rw [List.length_map]; exact hi)
  rw [List.getElem_map] at hr
  exact ⟨es, Rep.mono (α := α) hr (fun b hb hl => hb.1), hc⟩
theorem OwnP.pushed {l : List α} {d : α} {v' : Value} {H : Nat} (h : OwnP w base e v l P) (h2 : Own w' base e v' (l.map (Av.mk : α → Av α P) ++ [⟨d⟩])) (hat : ∀ g, v'.ownBlock = some g → v.ownBlock = some g ∨ g = H) (hH : P H) : OwnP w' base e v' (l ++ [d]) P :=
  ⟨by rw [List.map_append]; exact h2, fun g hg => (hat g hg).elim (h.at_ g) (fun e => e ▸ hH)⟩
end
def PBk (B : Nat) (X : List Nat) (ob : Option Nat) (b : Nat) : Prop := B ≤ b ∧ b ∉ X ∧ some b ≠ ob
abbrev OldL (B : Nat) := Av LineP (fun b => b < B)
structure PO (w0 w : World) (Bb Hb Qb : Nat) (X : List Nat) (A : Option Addr) (c : Nat) (body : List LineP) (h : Nat) (ob : Option Nat) (qv : Value) (queue : List LineP) (pv : Value) (pages : List PageP) : Prop where
  bl : Below w0.heap.size w0 w
  bb : ABox w Bb 34 [.slice A body.length c]
  bs : Sl w (fun b => b < w0.heap.size) A c body
  hb : ABox w Hb 3 [.int .i64 (h : Int)]
  qb : ABox w Qb 34 [qv]
  q : Que w w0.heap.size 88 ob qv (queue.map (Av.mk : LineP → OldL w0.heap.size))
  pg : OwnP w w0.heap.size 36 pv pages (PBk w0.heap.size (Bb :: Hb :: Qb :: X) ob)
  nd : (Bb :: Hb :: Qb :: X).Nodup
  ge : ∀ x ∈ Bb :: Hb :: Qb :: X, w0.heap.size ≤ x ∧ x < w.heap.size ∧ some x ≠ ob
section
variable {w0 w w' : World} {Bb Hb Qb : Nat} {X : List Nat} {A : Option Addr} {c : Nat} {body : List LineP} {h : Nat} {ob : Option Nat} {qv : Value} {queue : List LineP} {pv : Value} {pages : List PageP}
theorem PO.to (H : PO w0 w Bb Hb Qb X A c body h ob qv queue pv pages) (hb : Below w.heap.size w w') : PO w0 w' Bb Hb Qb X A c body h ob qv queue pv pages :=
  ⟨H.bl.trans (hb.mono H.bl.size), H.bb.to hb, H.bs.keep (Kept.all hb) hb.size, H.hb.to hb, H.qb.to hb, H.q.below hb, H.pg.below hb, H.nd, fun x hx => ⟨(H.ge x hx).1, by have := (H.ge x hx).2.1; have := hb.size; omega, (H.ge x hx).2.2⟩⟩
theorem PO.set (H : PO w0 w Bb Hb Qb X A c body h ob qv queue pv pages) {x : Nat} (hx : x ∈ X) (u : Value) : PO w0 (w.setCell ⟨x, 0, none⟩ u) Bb Hb Qb X A c body h ob qv queue pv pages := by
  have hn := H.nd
  simp only [List.nodup_cons, List.mem_cons, not_or] at hn
  have n1 : Bb ≠ x := fun e => hn.1.2.2 (e ▸ hx)
  have n2 : Hb ≠ x := fun e => hn.2.1.2 (e ▸ hx)
  have n3 : Qb ≠ x := fun e => hn.2.2.1 (e ▸ hx)
  have hxx : x ∈ Bb :: Hb :: Qb :: X := by simp [hx]
  have hg := H.ge x hxx
  have hold : Kept (fun b => b < w0.heap.size) w (w.setCell ⟨x, 0, none⟩ u) := fun i hi _ => heap_set w x 0 u (by omega)
  refine ⟨H.bl.setCell (p := ⟨x, 0, none⟩) hg.1 _, H.bb.other n1 _ _, H.bs.keep hold (by simp), H.hb.other n2 _ _, H.qb.other n3 _ _, H.q.keptA hold (fun g hg' _ => heap_set w x 0 u (fun e => hg.2.2 (e ▸ hg'.symm))), H.pg.set x 0 u (fun i hi e => hi.2.1 (e ▸ hxx)), H.nd, fun y hy => ⟨(H.ge y hy).1, by simpa using (H.ge y hy).2.1, (H.ge y hy).2.2⟩⟩
theorem PO.que (H : PO w0 w Bb Hb Qb X A c body h ob qv queue pv pages) {ob' : Option Nat} {qv' : Value} {queue' : List LineP} (hg : w.grownBy w' ob) (hq : Que w' w0.heap.size 88 ob' qv' (queue'.map (Av.mk : LineP → OldL w0.heap.size)))
    (hob : ob' = ob ∨ ob' = some w.heap.size) : PO w0 (w'.setCell ⟨Qb, 0, none⟩ qv') Bb Hb Qb X A c body h ob' qv' queue' pv pages := by
  have hn := H.nd
  simp only [List.nodup_cons, List.mem_cons, not_or] at hn
  have n1 : Bb ≠ Qb := fun e => hn.1.2.1 e
  have n2 : Hb ≠ Qb := fun e => hn.2.1.1 e
  have gB := H.ge Bb (by simp)
  have gH := H.ge Hb (by simp)
  have gQ := H.ge Qb (by simp)
  have hol := H.q.lt
  have hsz := hg.size
  have hne : ∀ x ∈ Bb :: Hb :: Qb :: X, some x ≠ ob' := fun x hx => by
    rcases hob with e | e
    · rw [e]; exact (H.ge x hx).2.2
    · rw [e]; intro e2; injection e2 with e2; have := (H.ge x hx).2.1; omega
  have hold : Kept (fun b => b < w0.heap.size) w w' := Kept.grown hg (fun i hi e => by have := (hol i e.symm).1; omega)
  have hold2 : Kept (fun b => b < w0.heap.size) w' (w'.setCell ⟨Qb, 0, none⟩ qv') := fun i hi _ => heap_set w' Qb 0 qv' (by omega)
  have box : ∀ {x t cs}, x ∈ Bb :: Hb :: Qb :: X → ABox w x t cs → ABox w' x t cs := fun hx hb => (hg.block _ (H.ge _ hx).2.1 (H.ge _ hx).2.2).trans hb
  have hpg : OwnP w' w0.heap.size 36 pv pages (PBk w0.heap.size (Bb :: Hb :: Qb :: X) ob') :=
    (H.pg.mono (Q := fun b => PBk w0.heap.size (Bb :: Hb :: Qb :: X) ob b ∧ PBk w0.heap.size (Bb :: Hb :: Qb :: X) ob' b) (fun i hi hl => ⟨hi, hi.1, hi.2.1, by
      rcases hob with e | e
      · rw [e]; exact hi.2.2
      · rw [e]; intro e2; injection e2 with e2; omega⟩)).kept (Kept.grown hg (fun i hi => hi.1.2.2)) |>.mono (fun i hi _ => hi.2)
  refine ⟨(H.bl.grown hg H.bl.size (fun k hk => (hol k hk).1)).setCell (p := ⟨Qb, 0, none⟩) gQ.1 _, (box (by simp) H.bb).other n1 _ _, (H.bs.keep hold hsz).keep hold2 (by simp), (box (by simp) H.hb).other n2 _ _, ?_,
    hq.keptA hold2 (fun g hg' _ => heap_set w' Qb 0 qv' (fun e => hne Qb (by simp) (e ▸ hg'.symm))), hpg.set Qb 0 qv' (fun i hi e => hi.2.1 (by simp [e])), H.nd,
    fun y hy => ⟨(H.ge y hy).1, by have := (H.ge y hy).2.1; simp; omega, hne y hy⟩⟩
  have := (box (by simp) H.qb).set 0 qv'
  simpa using this
theorem PO.more (H : PO w0 w Bb Hb Qb [] A c body h ob qv queue pv pages) (hb : Below w.heap.size w w') {Y : List Nat} (hY : ∀ y ∈ Y, w.heap.size ≤ y ∧ y < w'.heap.size) (hn : Y.Nodup) : PO w0 w' Bb Hb Qb Y A c body h ob qv queue pv pages := by
  have H1 := H.to hb
  have hno : ∀ x ∈ [Bb, Hb, Qb], x ∉ Y := fun x hx hy => by have := (H.ge x (by simpa using hx)).2.1; have := (hY x hy).1; omega
  have hol := H.q.lt
  refine ⟨H1.bl, H1.bb, H1.bs, H1.hb, H1.qb, H1.q, ?_, ?_, ?_⟩
  · refine (H.pg.mono (fun i hi hl => ⟨hi.1, ?_, hi.2.2⟩)).below hb
    intro hm
    have : i ∈ [Bb, Hb, Qb] ∨ i ∈ Y := by simp only [List.mem_cons] at hm ⊢; simp; rcases hm with h | h | h | h <;> simp [h]
    rcases this with h1 | h1
    · exact hi.2.1 h1
    · have := (hY i h1).1; omega
  · have := H.nd
    simp only [List.nodup_cons, List.mem_cons, not_or] at this ⊢
    refine ⟨⟨this.1.1, this.1.2.1, hno Bb (by simp)⟩, ⟨this.2.1.1, hno Hb (by simp)⟩, hno Qb (by simp), hn⟩
  · intro x hx
    by_cases hm : x ∈ [Bb, Hb, Qb]
    · exact H1.ge x hm
    · have hy : x ∈ Y := by simp only [List.mem_cons, not_or] at hx hm; rcases hx with h | h | h | h <;> simp_all
      refine ⟨by have := (hY x hy).1; have := H.bl.size; omega, (hY x hy).2, fun e => ?_⟩
      have := (hol x e.symm).2
      have := (hY x hy).1
      omega
theorem PO.less (H : PO w0 w Bb Hb Qb X A c body h ob qv queue pv pages) : PO w0 w Bb Hb Qb [] A c body h ob qv queue pv pages := by
  refine ⟨H.bl, H.bb, H.bs, H.hb, H.qb, H.q, H.pg.mono (fun i hi _ => ⟨hi.1, fun hm => hi.2.1 ?_, hi.2.2⟩), ?_, fun x hx => H.ge x ?_⟩
  · simp only [List.mem_cons] at hm ⊢; rcases hm with h | h | h | h <;> simp_all
  · have := H.nd
    simp only [List.nodup_cons, List.mem_cons, not_or] at this ⊢
    simp_all
  · simp only [List.mem_cons] at hx ⊢; rcases hx with h | h | h | h <;> simp_all
theorem PO.page (H : PO w0 w Bb Hb Qb X A c body h ob qv queue pv pages) {pv' : Value} {d : PageP} (hg : w.grownBy w' pv.ownBlock) (h2 : Own w' w0.heap.size 36 pv' (pages.map (Av.mk : PageP → Av PageP (PBk w0.heap.size (Bb :: Hb :: Qb :: X) ob)) ++ [⟨d⟩]))
    (hat : ∀ g, pv'.ownBlock = some g → pv.ownBlock = some g ∨ g = w.heap.size) : PO w0 w' Bb Hb Qb X A c body h ob qv queue pv' (pages ++ [d]) := by
  have hpl := H.pg.lt
  have hpa := H.pg.at_
  have hsz := hg.size
  have hol := H.q.lt
  have hold : Kept (fun b => b < w0.heap.size) w w' := Kept.grown hg (fun i hi e => by have := (hpl i e.symm).1; omega)
  have box : ∀ {x t cs}, x ∈ Bb :: Hb :: Qb :: X → ABox w x t cs → ABox w' x t cs := fun {x t cs} hx hb => (hg.block _ (H.ge _ hx).2.1 (fun e => (hpa x e.symm).2.1 hx)).trans hb
  refine ⟨H.bl.grown hg H.bl.size (fun k hk => (hpl k hk).1), box (by simp) H.bb, H.bs.keep hold hsz, box (by simp) H.hb, box (by simp) H.qb,
    H.q.keptA hold (fun g hg' hl => hg.block g hl (fun e => (hpa g e.symm).2.2 hg'.symm)), H.pg.pushed h2 hat ⟨H.bl.size, fun hx => by have := (H.ge _ hx).2.1; omega, fun e => by have := (hol _ e.symm).2; omega⟩, H.nd,
    fun y hy => ⟨(H.ge y hy).1, by have := (H.ge y hy).2.1; omega, (H.ge y hy).2.2⟩⟩
theorem PO.cut (H : PO w0 w Bb Hb Qb X A c body h ob qv queue pv pages) {A' : Option Addr} {c' n : Nat} {body' : List LineP} {ob' : Option Nat} {qv' : Value} {queue' : List LineP} (hbs : Sl w (fun b => b < w0.heap.size) A' c' body') (hn : n = body'.length)
    (hq : Que w w0.heap.size 88 ob' qv' (queue'.map (Av.mk : LineP → OldL w0.heap.size))) (hob : ob' = none ∨ ob' = ob) :
    PO w0 ((w.setCell ⟨Bb, 0, none⟩ (.slice A' n c')).setCell ⟨Qb, 0, none⟩ qv') Bb Hb Qb X A' c' body' h ob' qv' queue' pv pages := by
  subst hn
  have hn := H.nd
  simp only [List.nodup_cons, List.mem_cons, not_or] at hn
  have n1 : Bb ≠ Qb := hn.1.2.1
  have n2 : Hb ≠ Qb := hn.2.1.1
  have n3 : Hb ≠ Bb := fun e => hn.1.1 e.symm
  have n4 : Qb ≠ Bb := fun e => n1 e.symm
  have gB := H.ge Bb (by simp)
  have gQ := H.ge Qb (by simp)
  have hold : Kept (fun b => b < w0.heap.size) w ((w.setCell ⟨Bb, 0, none⟩ (.slice A' body'.length c')).setCell ⟨Qb, 0, none⟩ qv') := fun i hi _ => (heap_set _ Qb 0 _ (by omega)).trans (heap_set w Bb 0 _ (by omega))
  have hne : ∀ x, some x ≠ ob → some x ≠ ob' := fun x hx => by
    rcases hob with e | e
    · rw [e]; simp
    · rw [e]; exact hx
  have hpg : OwnP w w0.heap.size 36 pv pages (PBk w0.heap.size (Bb :: Hb :: Qb :: X) ob') := H.pg.mono (fun i hi _ => ⟨hi.1, hi.2.1, hne i hi.2.2⟩)
  refine ⟨(H.bl.setCell (p := ⟨Bb, 0, none⟩) gB.1 _).setCell (p := ⟨Qb, 0, none⟩) gQ.1 _, ?_, hbs.keep hold (by simp), (H.hb.other n3 _ _).other n2 _ _, ?_, hq.keptA hold (fun g hg' _ => ?_), (hpg.set Bb 0 _ (fun i hi e => hi.2.1 (by simp [e]))).set Qb 0 _ (fun i hi e => hi.2.1 (by simp [e])), H.nd,
    fun y hy => ⟨(H.ge y hy).1, by have := (H.ge y hy).2.1; simpa using this, hne y (H.ge y hy).2.2⟩⟩
  · have := (H.bb.set 0 (.slice A' body'.length c')).other n1 0 qv'
    simpa using this
  · have := (H.qb.other n4 0 (.slice A' body'.length c')).set 0 qv'
    simpa using this
  · refine (heap_set _ Qb 0 _ (fun e => ?_)).trans (heap_set w Bb 0 _ (fun e => ?_))
    · exact hne Qb gQ.2.2 (e ▸ hg'.symm)
    · exact hne Bb gB.2.2 (e ▸ hg'.symm)
end
end Go.Proofs.YtakaielemicpkaaGreatDoor
namespace Go.Proofs.YtakaielemicpkaaGreatDoor
open Go.RowKit
section
variable {P : Program} {ops : Array Oper} {Q : Exit → Act → World → Prop} {md : Region.Mode} {C : World → Prop} {hs : List Nat} {Rl : World → World → Prop} {Φ : Nat → SPR Rl} {m : Nat}
def kindP (hs : List Nat) (m : Nat) (pre : List Nat) (k : Nat) : Nat := if Nat.beq k m then 2 else if pre.contains k then 3 else if hs.contains k then 1 else 0
def wpRP (P : Program) (md : Region.Mode) (ops : Array Oper) (C : World → Prop) (hs : List Nat) {Rl : World → World → Prop} (Φ : Nat → SPR Rl) (m : Nat) (pre : List Nat) (fin : Act → (Nat → World → Prop) → Prop) : List Oper → Nat → Act → (Nat → World → Prop) → Prop
  | [], _, a, G => fin a G
  | o :: l, k, a, G =>
    if kindP hs m pre k = 2 then fin a G
    else if kindP hs m pre k = 3 then wpRP P md ops C hs Φ m pre fin l (k + 1) a G
    else if Region.wanted o (yielded ops a.tmps) = true then
      if kindP hs m pre k = 1 then Safe P md ops C Φ k o a G ∧ ∀ v, Joint C G ((Φ k).p v) → wpRP P md ops C hs Φ m pre fin l (k + 1) (a.put o.dst v) (updG G k ((Φ k).p v))
      else o.quiet P a C (fun a' => wpRP P md ops C hs Φ m pre fin l (k + 1) a' G)
    else wpRP P md ops C hs Φ m pre fin l (k + 1) (a.put o.dst undef) G
structure WP (P : Program) (md : Region.Mode) (ops : Array Oper) (C : World → Prop) {Rl : World → World → Prop} (hs : List Nat) (Φ : Nat → SPR Rl) (m : Nat) (pre : List Nat) (fin : Act → (Nat → World → Prop) → Prop) (l : List Oper) (k : Nat) (a : Act) (G : Nat → World → Prop) : Prop where
  h : wpRP P md ops C hs Φ m pre fin l k a G
end
section
variable {P : Program} {ops : Array Oper} {Q : Exit → Act → World → Prop} {md : Region.Mode} {C : World → Prop} {hs : List Nat} {Rl : World → World → Prop} {Φ : Nat → SPR Rl} {m : Nat} {pre : List Nat} {fin : Act → (Nat → World → Prop) → Prop} {T : Type} {f : T → World} {a : Act} {G : Nat → World → Prop} {o : Oper} {l : List Oper} {k : Nat}
end
end Go.Proofs.YtakaielemicpkaaGreatDoor
namespace Go.Proofs.YtakaielemicpkaaGreatDoor
open Go.RowKit
theorem own_keepI {w w' : World} {base : Nat} {e : TypeId} {v : Value} {l : List Int} (h : Own w base e v l) (hk : ∀ g, v.ownBlock = some g → w'.heap[g]? = w.heap[g]?) : Own w' base e v l := by
  obtain ⟨xs, hx, ho, hr⟩ := h
  refine ⟨xs, ⟨hx.1, ?_⟩, ho, fun i hi => hr i hi⟩
  rcases hx.2 with hn | ⟨g, cap, cur, rfl, hb, hg, rest⟩
  · exact .inl hn
  · exact .inr ⟨g, cap, cur, rfl, hb, (hk g rfl).trans hg, rest⟩
theorem own_ne {α : Type} [Rep α] {w : World} {B b : Nat} {e e' : TypeId} {v : Value} {l : List α} {cs : Array Value} {fr : Nat × Nat} (h : Own w B e v l) (hb : w.heap[b]? = some (.cells cs e' fr)) (hne : e ≠ e') : v.ownBlock ≠ some b := by
  obtain ⟨xs, hx, _⟩ := h
  rcases hx.2 with ⟨rfl, _⟩ | ⟨g, cap, cur, rfl, _, hg, _⟩
  · simp [Value.ownBlock]
  · intro he
    have : g = b := by simpa [Value.ownBlock] using he
    subst this
    rw [hg] at hb
    cases hb
    exact hne rfl
theorem cutL_snoc {α : Type} (l : List α) {i j : Nat} (h : i ≤ j) (hj : j < l.length) : cutL l i (j + 1) = cutL l i j ++ [l[j]] := by
  unfold cutL
  rw [List.take_succ_eq_append_getElem hj, List.drop_append_of_le_length (by rw [List.length_take]; omega)]
theorem cutL_nil {α : Type} (l : List α) (i : Nat) : cutL l i i = [] := by
  unfold cutL
  exact List.drop_of_length_le (by rw [List.length_take]; omega)
theorem notesP_one (x : Word) : notesP [x] = if x.n ≠ 0 then [x.n - 1] else [] := by
  unfold notesP
  by_cases h : x.n = 0 <;> simp [h]
theorem lit_int {w : World} {b : Nat} {t : TypeId} {x : Int} {S : Nat → Prop} (h : w.heap[b]? = some (.cells #[.int .i64 x] t (0, 0))) (hx : I64 x) (hS : S b) : Sl w S (some ⟨b, 0, none⟩) 1 [x] :=
  Sl.block (l := [x]) h hS (by simp [maxLen]) (fun i hi => by
    obtain rfl : i = 0 := by simpa using hi
    exact ⟨rfl, hx⟩)
end Go.Proofs.YtakaielemicpkaaGreatDoor
namespace Go.Proofs.YtakaielemicpkaaGreatDoor
open Go.RowKit
def vocab : List ByteArray := [⟨#[97]⟩, ⟨#[116, 104, 101]⟩, ⟨#[99, 111, 117, 114, 116]⟩, ⟨#[119, 105, 108, 108]⟩, ⟨#[104, 101, 97, 114]⟩, ⟨#[109, 111, 116, 105, 111, 110]⟩, ⟨#[111, 102]⟩, ⟨#[112, 108, 97, 105, 110, 116, 105, 102, 102]⟩, ⟨#[77, 46, 73, 46, 84, 46]⟩, ⟨#[82, 117, 108, 101]⟩, ⟨#[49, 50, 40, 98, 41]⟩, ⟨#[100, 105, 115, 109, 105, 115, 115, 101, 100]⟩, ⟨#[119, 105, 116, 104]⟩, ⟨#[112, 114, 101, 106, 117, 100, 105, 99, 101]⟩, ⟨#[97, 110, 100]⟩, ⟨#[99, 111, 115, 116, 115]⟩, ⟨#[87, 87, 87, 64, 87]⟩, ⟨#[105, 116]⟩, ⟨#[105, 115]⟩, ⟨#[115, 111]⟩, ⟨#[111, 114, 100, 101, 114, 101, 100, 46]⟩, ⟨#[97, 98, 99, 100, 101, 102, 103, 104, 105, 106, 107, 108, 109, 110, 111, 112, 113, 114, 115, 116, 117, 118, 119, 120, 121, 122, 97, 98, 99, 100, 101, 102, 103, 104, 105, 106, 107, 108, 109, 110]⟩]
def keysV : List ByteArray := [⟨#[99, 111, 115, 116, 115]⟩, ⟨#[109, 111, 116, 105, 111, 110]⟩, ⟨#[82, 117, 108, 101]⟩, ⟨#[115, 109, 105, 116, 104]⟩]
def Good (x : Word) : Prop := valid x.s = true ∧ (x.key = ⟨#[]⟩ ∨ valid x.key = true) ∧ (x.t = 0 ∨ x.t = 1)
theorem vocab_good : vocab.all valid = true := by decide +kernel
theorem keysV_good : keysV.all valid = true := by decide +kernel
theorem lits_at {l : List ByteArray} (hl : l.all valid = true) (j : Nat) (hj : j < l.length) : ∃ s, (l.map Value.string)[j]? = some (.string s) ∧ valid s = true :=
  ⟨l[j], by simp [hj], (List.all_eq_true.1 hl) _ (List.getElem_mem hj)⟩
set_option maxRecDepth 100000 in
set_option maxHeartbeats 2000000 in
theorem one_any (n : Nat) (hn : n ≤ 16777216) (w : World) :
    Calls Tryz.prog 106 #[.int .i64 (n : Int)] w fun e w' => ∃ x : Word, e = .returned x.val ∧ Good x ∧ x.n = 0 ∧ Below w.heap.size w w' := by
  have hb : (n : Int) ≤ 16777216 := by omega
  have h0 : 0 ≤ (n : Int) := by omega
  obtain ⟨s, c0, hs⟩ := lits_at vocab_good (n % 22) (Nat.mod_lt _ (by decide))
  simp only [vocab, List.map_cons, List.map_nil] at c0
  have HS := Lib.hid hs
  clear hs
  go_enter Tryz.func106, Tryz.ntmps106
  by_cases hk : n / 22 % 6 = 0
  · obtain ⟨key, k0, hkey⟩ := lits_at keysV_good (n / 132 % 4) (Nat.mod_lt _ (by decide))
    simp only [keysV, List.map_cons, List.map_nil] at k0
    have hk' : (n : Int) / 22 % 6 = 0 := by omega
    have HK := Lib.hid hkey
    clear hk hkey
    go_wp2_with fail
    refine bodyPost_ret (v := .agg #[.string s, .string key, .int .i64 (↑n / 528 % 2), .int .i64 0]) (by simp [results, Tryz.results106, go_sem]) rfl ⟨⟨s, key, (n : Int) / 528 % 2, 0⟩, rfl, ⟨HS.out, .inr HK.out, ?_⟩, rfl, ?_⟩
    · show (n : Int) / 528 % 2 = 0 ∨ (n : Int) / 528 % 2 = 1
      omega
    · exact (((((Below.refl _ _).alloc (Nat.le_refl _) _).alloc (by simp) _).alloc (by simp; omega) _).alloc (by simp; omega) _)
  · have hk' : ¬ (n : Int) / 22 % 6 = 0 := by omega
    clear hk
    go_wp2_with fail
    refine bodyPost_ret (v := .agg #[.string s, .string ⟨#[]⟩, .int .i64 0, .int .i64 0]) (by simp [results, Tryz.results106, go_sem]) rfl ⟨⟨s, ⟨#[]⟩, 0, 0⟩, rfl, ⟨HS.out, .inl rfl, .inl rfl⟩, rfl, ?_⟩
    exact ((((Below.refl _ _).alloc (Nat.le_refl _) _).alloc (by simp) _).alloc (by simp; omega) _)
theorem valid_size {s : ByteArray} (h : valid s = true) : s.size ≤ 40 := by
  unfold valid at h
  rw [Bool.and_eq_true, decide_eq_true_iff] at h
  exact h.1.2
theorem good_ok {x : Word} (h : Good x) (h0 : x.n = 0) : x.ok := by
  have h1 := valid_size h.1
  refine ⟨by unfold maxLen; omega, ?_, ?_, by rw [h0]; exact ⟨by decide, by decide⟩⟩
  · rcases h.2.1 with e | e
    · rw [e]; decide
    · have := valid_size e; unfold maxLen; omega
  · rcases h.2.2 with e | e <;> rw [e] <;> exact ⟨by decide, by decide⟩
theorem word_info : (Tryz.prog.info? 104).map (fun i => (i.zero, i.size, i.bytes)) = some (some (.agg #[.string ⟨#[]⟩, .string ⟨#[]⟩, .int .i64 0, .int .i64 0]), Rep.size Word, 48) := by kernel_rfl
set_option maxHeartbeats 1000000 in
theorem part_any (n most : Nat) (hn : n ≤ 1000000) (hm : 1 ≤ most) (hm2 : most ≤ 1000) (w : World) :
    Calls Tryz.prog 84 #[.int .i64 (n : Int), .int .i64 (most : Int)] w fun e w' => ∃ v, e = .returned v ∧ ∃ l : List Word, Own w' w.heap.size 104 v l ∧ l.length = 1 + n % most ∧ (∀ x ∈ l, Good x ∧ x.n = 0) ∧ Below w.heap.size w w' := by
  have h1 : (n : Int) ≤ 1000000 := by omega
  have h0 : 0 ≤ (n : Int) := by omega
  have h2 : (most : Int) ≤ 1000 := by omega
  have h3 : 1 ≤ (most : Int) := by omega
  have h4 : (most : Int) ≠ 0 := by omega
  go_enter Tryz.func84, Tryz.ntmps84
  go_wp2_with fail
  obtain ⟨z0, hz0⟩ : ∃ z, z = bits BinOp.or IntKind.u32 (↑n) 1 := ⟨_, rfl⟩
  have hz1 : 0 ≤ z0 := by rw [hz0]; exact bits_lo_u32 ..
  have hz2 : z0 ≤ 4294967295 := by rw [hz0]; exact bits_hi_u32 ..
  rw [← hz0]
  clear hz0
  have hq : (n : Int) % (most : Int) = ((n % most : Nat) : Int) := by omega
  have hql : n % most < most := Nat.mod_lt _ hm
  obtain ⟨q, hqe⟩ : ∃ q, q = n % most := ⟨_, rfl⟩
  rw [← hqe] at hq hql
  have HQ2 := Lib.hid hqe
  clear hqe
  have HQ := Lib.hid hq
  have hq2 : ((n : Int) % (most : Int)) < 1000 := by omega
  have hq3 : 0 ≤ ((n : Int) % (most : Int)) := by omega
  clear hq
  go_loopw [5, 6, 7] (fun x v i wr => ∃ k : Nat, k ≤ 1 + q ∧ i = .int .i64 k ∧ (∃ z : Int, x = .int .u32 z ∧ 0 ≤ z ∧ z ≤ 4294967295) ∧ (∃ l : List Word, Own wr w.heap.size 104 v l ∧ l.length = k ∧ (∀ x ∈ l, Good x ∧ x.n = 0)) ∧ Below w.heap.size w wr) (fun _ _ i _ => 1 + q - (intOf i).toNat)
  case atStart => exact ⟨0, Nat.zero_le _, rfl, ⟨z0, rfl, hz1, hz2⟩, ⟨[], Own.nil _ _ _, rfl, fun _ h => (by cases h)⟩, Below.refl _ _⟩
  case round =>
    obtain ⟨k, hk, rfl, ⟨z, rfl, hz3, hz4⟩, ⟨l, hown, hlen, hgood⟩, hb⟩ := hrel
    have Hb := Lib.hid hb
    have hzw := hb.size
    have HL := Lib.hid hlen
    have HG := Lib.hid hgood
    clear hb hlen hgood
    obtain ⟨A2, c2, rfl, _⟩ := hown.sl
    by_cases hlt : k < 1 + q
    · have hkl : (k : Int) < 1 + ((n : Int) % (most : Int)) := by rw [HQ.out]; omega
      have hk0 : (0 : Int) ≤ (k : Int) := by omega
      have hk1 : (k : Int) ≤ 1000 := by omega
      go_wp2_with fail
      obtain ⟨y, hy, hy2⟩ : ∃ y : Nat, (z * 1664525 + 1013904223) % 4294967296 / 256 = (y : Int) ∧ y ≤ 16777216 := ⟨((z * 1664525 + 1013904223) % 4294967296 / 256).toNat, by omega, by omega⟩
      rw [hy]
      clear hy
      refine (one_any y hy2 _).mono ?_
      rintro e w4 ⟨x, rfl, hgx, hx0, hb4⟩
      have hown4 := hown.below hb4
      have Hb4 := Lib.hid (Hb.out.trans (hb4.mono hzw))
      have hz4 := hb4.size
      have HX := Lib.hid hgx
      have HX0 := Lib.hid hx0
      have HOK := Lib.hid (good_ok hgx hx0)
      have hll : l.length ≤ 1000 := by have := HL.out; omega
      clear hb4 hgx hx0
      unfold Word.val
      go_wp2_with (at_builtin; refine wpList_push (α := Word) _ rfl (.tmp 22) (.tmp 27) 99 rfl w.heap.size 104 (.agg #[.string ⟨#[]⟩, .string ⟨#[]⟩, .int .i64 0, .int .i64 0]) 48 Tryz.underlying99 word_info rfl (by decide) _ l rfl (hown4.alloc _) w4.heap.size _ x (0, 0) 104 rfl (heap_alloc_new w4 _) ⟨rfl, HOK.out⟩ (by omega) (by omega) (by first | omega | (simp; done) | (simp; omega)) _ rfl ?_; intro g cap w5 hown5 hg5 hat5 hlt5)
      go_roundw
      case rel => exact ⟨k + 1, by omega, by go_num, ⟨_, rfl, by omega, by omega⟩, ⟨_, hown5, by simp [HL.out], fun y hy => (by rcases List.mem_append.1 hy with h | h; exact HG.out y h; rw [List.mem_singleton] at h; subst h; exact ⟨HX.out, HX0.out⟩)⟩, below_push Hb4.out hown4 (by omega) hg5⟩
      case measure => simp [intOf]; omega
    · have hkl : ¬ (k : Int) < 1 + ((n : Int) % (most : Int)) := by rw [HQ.out]; omega
      go_wp2_with fail
      go_ret
      exact ⟨_, rfl, l, hown, by rw [HL.out, ← HQ2.out]; omega, HG.out, Hb.out⟩
end Go.Proofs.YtakaielemicpkaaGreatDoor
namespace Go.Proofs.YtakaielemicpkaaGreatDoor
open Go.RowKit
def aro (n m : Int) : Int := (if n < 0 then -(n + 1) else n) % m
theorem aro_lt (n m : Int) (h : 1 ≤ m) : 0 ≤ aro n m ∧ aro n m < m := ⟨Int.emod_nonneg _ (by omega), Int.emod_lt_of_pos _ (by omega)⟩
set_option maxHeartbeats 400000 in
theorem around_any (n m : Int) (w : World) (hn : I64 n) (hm : 1 ≤ m) (hm2 : m ≤ 9223372036854775807) :
    Calls Tryz.prog 13 #[.int .i64 n, .int .i64 m] w fun e w' => e = .returned (.int .i64 (aro n m)) ∧ w = w' := by
  obtain ⟨h0, h1⟩ := hn
  go_enter Tryz.func13, Tryz.ntmps13
  by_cases h : n < 0
  · have e : aro n m = (-(n + 1)) % m := by unfold aro; rw [if_pos h]
    have E := Lib.hid e
    clear e
    have hp : 0 ≤ -(n + 1) := by omega
    go_wp2
    go_ret
    refine ⟨ret_int ?_, rfl⟩
    rw [E.out]
    rw [← Int.neg_tmod, Int.tmod_eq_emod_of_nonneg hp]
  · have e : aro n m = n % m := by unfold aro; rw [if_neg h]
    have E := Lib.hid e
    clear e
    go_wp2
    go_ret
    exact ⟨ret_int (by rw [E.out]), rfl⟩
end Go.Proofs.YtakaielemicpkaaGreatDoor
namespace Go.Proofs.YtakaielemicpkaaGreatDoor
open Go.RowKit
set_option maxHeartbeats 1000000 in
theorem pick_any (A : Option Addr) (c : Nat) (l : List Int) (i : Int) (m : Int) (w : World) (hl : Sl w (fun b => b < w.heap.size) A c l) (hm : 1 ≤ m) (hm2 : m ≤ 1000000) (hi0 : 0 ≤ i) :
    Calls Tryz.prog 30 #[.slice A l.length c, .int .i64 i, .int .i64 m] w fun e w' => ∃ r : Nat, e = .returned (.int .i64 (r : Int)) ∧ (r : Int) < m ∧ w = w' := by
  obtain ⟨i, rfl⟩ := Int.eq_ofNat_of_zero_le hi0
  clear hi0
  have hlen : l.length ≤ 9223372036854775807 := by have := hl.1; have := hl.2.1; unfold maxLen at this; omega
  have h0 : ¬ (i : Int) < 0 := by omega
  by_cases hi : i < l.length
  · obtain ⟨b, o, rfl, _, hbl, hx, hc⟩ := int_at hl hi
    obtain ⟨a0, a1⟩ := aro_lt l[i] m hm
    generalize l[i] = x at *
    have Hx := Lib.hid hx
    have hi1 : ¬ (l.length : Int) ≤ (i : Int) := by omega
    have hi2 : (i : Int) < (l.length : Int) := by omega
    have hi0 : 0 ≤ (i : Int) := by omega
    clear hx hl hi
    go_enter Tryz.func30, Tryz.ntmps30
    go_wp2_with fail
    refine (around_any x m _ Hx.out hm (by omega)).mono ?_
    rintro e w' ⟨rfl, rfl⟩
    generalize aro x m = r at *
    go_wp2_with fail
    go_ret
    exact ⟨r.toNat, ret_int (by omega), by omega, rfl⟩
  · have hi1 : (l.length : Int) ≤ (i : Int) := by omega
    clear hl hi
    go_enter Tryz.func30, Tryz.ntmps30
    go_wp2_with fail
    go_ret
    exact ⟨0, rfl, by omega, rfl⟩
def noNote (l : List Word) : Prop := ∀ x ∈ l, x.n = 0
set_option maxHeartbeats 1000000 in
theorem last_any (A : Option Addr) (c : Nat) (l : List (List Word)) (n : Nat) (w : World) (hl : Sl w (fun b => b < w.heap.size) A c l) (hn : n ≤ 1000000) :
    Calls Tryz.prog 86 #[.slice A l.length c, .int .i64 (n : Int)] w fun e w' => ∃ b : Bool, e = .returned (.bool b) ∧ (b = false → ∀ p ∈ l.drop (n + 1), noNote p) ∧ w = w' := by
  have hlen : l.length ≤ 9223372036854775807 := by have := hl.1; have := hl.2.1; unfold maxLen at this; omega
  have h1 : (n : Int) ≤ 1000000 := by omega
  have h0 : 0 ≤ (n : Int) := by omega
  have Hl := Lib.hid hl
  clear hl
  go_enter Tryz.func86, Tryz.ntmps86
  go_wp2_with fail
  go_loopw [5, 6] (fun i _ wr => ∃ k : Nat, n + 1 ≤ k ∧ (k ≤ l.length ∨ k = n + 1) ∧ i = .int .i64 k ∧ Hid (∀ j (hj : j < l.length), n + 1 ≤ j → j < k → noNote l[j]) ∧ wr = w) (fun i _ _ => l.length - (intOf i).toNat)
  case atStart => exact ⟨n + 1, Nat.le_refl _, .inr rfl, by go_num, (fun j hj h1 h2 => absurd h1 (by omega)), rfl⟩
  case round =>
    obtain ⟨k, hk, hk2, rfl, hno, rfl⟩ := hrel
    by_cases hlt : k < l.length
    · obtain ⟨b, o, Ap, cp, rfl, _, hbl, hc, hp⟩ := part_at Hl.out hlt
      have hkl : (k : Int) < (l.length : Int) := by omega
      have hk0 : (0 : Int) ≤ (k : Int) := by omega
      have HT := Lib.hid (fun (h : noNote l[k]) j (hj : j < l.length) (h1 : n + 1 ≤ j) (h2 : j < k + 1) => (by by_cases e : j = k; subst e; exact h; exact hno.out j hj h1 (by omega) : noNote l[j]))
      have h2 : l[k].length ≤ 9223372036854775807 := by have := hp.1; have := hp.2.1; unfold maxLen at this; omega
      generalize l[k] = p at *
      have Hp := Lib.hid hp
      have hk3 : (k : Int) ≤ 9223372036854775806 := by omega
      clear hp hk2 hno
      go_wp2_with fail
      obtain ⟨wo, rfl⟩ : ∃ wo : World, wo = wr := ⟨_, rfl⟩
      go_loopw [6] (fun i wr => ∃ j : Nat, j ≤ p.length ∧ i = .int .i64 j ∧ Hid (∀ i (hi : i < p.length), i < j → p[i].n = 0) ∧ wr = wo) (fun i _ => p.length - (intOf i).toNat)
      case atStart => exact ⟨0, Nat.zero_le _, rfl, (fun i hi h => absurd h (by omega)), rfl⟩
      case round =>
        obtain ⟨j, hj, rfl, hno2, rfl⟩ := hrel
        by_cases hjl : j < p.length
        · obtain ⟨b3, o3, rfl, _, hbl3, hok, d0, d1, d2, d3⟩ := word_at Hp.out hjl
          have hj1 : (j : Int) < (p.length : Int) := by omega
          have hj0 : (0 : Int) ≤ (j : Int) := by omega
          have HT2 := Lib.hid (fun (h : p[j].n = 0) i (hi : i < p.length) (h2 : i < j + 1) => (by by_cases e : i = j; subst e; exact h; exact hno2.out i hi (by omega) : p[i].n = 0))
          have hr := hok.2.2.2
          generalize p[j] = x at *
          clear hok d0 d1 d2
          by_cases hx : x.n = 0
          · have E := Lib.hid (HT2.out hx)
            rw [hx] at d3
            clear hx HT2 hno2
            go_wp2_with fail
            go_roundw
            case rel => exact ⟨j + 1, by omega, by go_num, E.out, by first | trivial | rfl⟩
            case measure => simp [intOf]; omega
          · have hB : (x.n == 0) = false := beq_eq_false_iff_ne.2 hx
            clear hx HT2 hno2
            go_wp2_with fail
            go_ret
            exact ⟨true, rfl, fun h => (by cases h), rfl⟩
        · have E := Lib.hid (HT.out (fun x hx => by obtain ⟨i, hi, rfl⟩ := List.getElem_of_mem hx; exact hno2.out i hi (by omega)))
          clear HT hno2
          go_wp2_with fail
          go_roundw
          case rel => exact ⟨k + 1, by omega, by omega, by go_num, E.out, by first | trivial | rfl⟩
          case measure => simp [intOf]; omega
    · have E := Lib.hid (fun p (hp : p ∈ l.drop (n + 1)) => (by
        obtain ⟨i, hi, rfl⟩ := List.getElem_of_mem hp
        rw [List.length_drop] at hi
        rw [List.getElem_drop]
        exact hno.out (n + 1 + i) (by omega) (by omega) (by omega) : noNote p))
      clear hno
      go_wp2_with fail
      go_ret
      exact ⟨false, rfl, fun _ => E.out, rfl⟩
end Go.Proofs.YtakaielemicpkaaGreatDoor
namespace Go.Proofs.YtakaielemicpkaaGreatDoor
open Go.RowKit
def withNote (x : Word) (m : Int) : Word := ⟨x.s, x.key, x.t, m⟩
def Referred (p : List Word) (m : Int) (b : Bool) (q : List Word) : Prop :=
  (b = false ∧ q = p) ∨ (b = true ∧ ∃ i, ∃ h : i < p.length, (∀ j (hj : j < p.length), i ≤ j → p[j].n = 0) ∧ q = p.set i (withNote p[i] m))
def RefP (g cap : Nat) (l : List Word) (m : Int) (later : Bool) (w : World) (e : Ending) (w' : World) : Prop :=
  ∃ b : Bool, e = .returned (.bool b) ∧ ∃ q, Referred l m b q ∧ (b = true → later = false) ∧ q.length = l.length ∧ Own w' 0 104 (.slice (some ⟨g, 0, none⟩) l.length cap) q ∧ w.grownBy w' (some g)
set_option maxHeartbeats 1000000 in
theorem refer_any (g cap : Nat) (l : List Word) (n : Nat) (m : Int) (later : Bool) (w : World) (hown : Own w 0 104 (.slice (some ⟨g, 0, none⟩) l.length cap) l) (hn : n ≤ 1000000) (hm0 : 0 ≤ m) (hm : m ≤ 1000) (hlen : l.length ≤ 1000) :
    Calls Tryz.prog 85 #[.slice (some ⟨g, 0, none⟩) l.length cap, .int .i64 (n : Int), .int .i64 m, .bool later] w (RefP g cap l m later w) := by
  have h1 : (n : Int) ≤ 1000000 := by omega
  have h0 : 0 ≤ (n : Int) := by omega
  have h2 : (l.length : Int) ≤ 1000 := by omega
  obtain ⟨A, c, e1, hs⟩ := hown.sl
  obtain ⟨rfl, _, rfl⟩ := Value.slice.inj e1
  have Hs := Lib.hid hs
  have HO := Lib.hid hown
  clear e1 hs hown
  go_enter Tryz.func85, Tryz.ntmps85
  go_wp2_with fail
  go_loopw [9, 10] (fun f i wr => ∃ k : Nat, k ≤ l.length ∧ i = .int .i64 k ∧ (∃ q : Nat, f = .int .i64 (q : Int) ∧ q ≤ k ∧ Hid (∀ j (hj : j < l.length), q ≤ j → j < k → l[j].n = 0)) ∧ wr = w) (fun _ i _ => l.length - (intOf i).toNat)
  case atStart => exact ⟨0, Nat.zero_le _, rfl, ⟨0, rfl, Nat.le_refl _, (fun j hj h1 h2 => absurd h2 (by omega))⟩, rfl⟩
  case round =>
    obtain ⟨k, hk, rfl, ⟨q, rfl, hqk, hno⟩, rfl⟩ := hrel
    by_cases hlt : k < l.length
    · obtain ⟨b3, o3, e3, _, hbl3, hok, d0, d1, d2, d3⟩ := word_at Hs.out hlt
      obtain ⟨rfl, rfl⟩ : b3 = g ∧ o3 = 0 := by simpa using e3.symm
      simp only [Nat.zero_add] at d3
      have hkl : (k : Int) < (l.length : Int) := by omega
      have hk0 : (0 : Int) ≤ (k : Int) := by omega
      have HT := Lib.hid (fun (h : l[k].n = 0) j (hj : j < l.length) (h1 : q ≤ j) (h2 : j < k + 1) => (by by_cases e : j = k; subst e; exact h; exact hno.out j hj h1 (by omega) : l[j].n = 0))
      have hr := hok.2.2.2
      generalize l[k] = x at *
      clear hok d0 d1 d2 e3
      by_cases hx : x.n = 0
      · have E := Lib.hid (HT.out hx)
        rw [hx] at d3
        clear hx HT hno
        go_wp2_with fail
        go_roundw
        case rel => exact ⟨k + 1, by omega, by go_num, ⟨q, rfl, by omega, E.out⟩, by first | trivial | rfl⟩
        case measure => simp [intOf]; omega
      · have hB : (x.n == 0) = false := beq_eq_false_iff_ne.2 hx
        clear hx HT hno
        go_wp2_with fail
        go_roundw
        case rel => exact ⟨k + 1, by omega, by go_num, ⟨k + 1, by go_num, by omega, (fun j hj h1 h2 => absurd h2 (by omega))⟩, by first | trivial | rfl⟩
        case measure => simp [intOf]; omega
    · obtain rfl : k = l.length := by omega
      have hno2 := Lib.hid (fun j (hj : j < l.length) (h1 : q ≤ j) => hno.out j hj h1 hj)
      clear hno
      cases later with
      | true =>
        go_wp2_with fail
        go_ret
        exact ⟨false, rfl, l, .inl ⟨rfl, rfl⟩, fun h => (by cases h), rfl, HO.out, World.grownBy.refl _ _⟩
      | false =>
        by_cases hq : q < l.length
        · have hq1 : (q : Int) < (l.length : Int) := by omega
          have hq0 : (0 : Int) ≤ (q : Int) := by omega
          have hmod : n % (l.length - q) < l.length - q := Nat.mod_lt _ (by omega)
          have hmi : (n : Int) % ((l.length : Int) - (q : Int)) = ((n % (l.length - q) : Nat) : Int) := by
            rw [Int.natCast_emod]; congr 1; omega
          generalize n % (l.length - q) = r at *
          obtain ⟨g', cap', es, e4, _, hg, _, hr4, hcell, hfz⟩ := HO.out.at_ (show q + r < l.length by omega)
          obtain ⟨re, hok⟩ := hr4
          subst re
          have c3 := hcell 3 _ rfl
          rw [show Rep.size Word = 4 from rfl] at c3
          obtain ⟨rfl, _⟩ : g' = g ∧ cap' = cap := by
            have := Value.slice.inj e4
            simp at this
            exact ⟨this.1.symm, this.2.symm⟩
          have HH := Lib.hid (HO.out.setf (q + r) 3 (show q + r < l.length by omega) (by decide) (.int .i64 m) rfl (withNote l[q + r] m) (fun S es h => by
            obtain ⟨h1, h2⟩ := h
            subst h1
            exact ⟨rfl, h2.1, h2.2.1, h2.2.2.1, ⟨by show -9223372036854775808 ≤ m; omega, by show m ≤ 9223372036854775807; omega⟩⟩) (o := (q + r) * 4 + 3) rfl)
          have HR : Hid (Referred l m true (l.set (q + r) (withNote l[q + r] m))) := .inr ⟨rfl, q + r, by omega, fun j hj h => hno2.out j hj (by omega), rfl⟩
          have hk1 : (q : Int) + (r : Int) < (l.length : Int) := by omega
          have hk0 : 0 ≤ (q : Int) + (r : Int) := by omega
          generalize l[q + r].n = old at *
          have HL : Hid ((l.set (q + r) (withNote l[q + r] m)).length = l.length) := Lib.hid (by simp)
          generalize l.set (q + r) _ = l' at *
          clear hok hcell e4
          go_wp2_with fail
          go_ret
          exact ⟨true, rfl, _, HR.out, fun _ => rfl, HL.out, HH.out.1, HH.out.2⟩
        · have hq1 : ¬ (q : Int) < (l.length : Int) := by omega
          go_wp2_with fail
          go_ret
          exact ⟨false, rfl, l, .inl ⟨rfl, rfl⟩, fun h => (by cases h), rfl, HO.out, World.grownBy.refl _ _⟩
end Go.Proofs.YtakaielemicpkaaGreatDoor
namespace Go.Proofs.YtakaielemicpkaaGreatDoor
open Go.RowKit
theorem raw_info : (Tryz.prog.info? 99).map (fun i => (i.zero, i.size, i.bytes)) = some (some (.slice none 0 0), Rep.size Raw, 24) := by kernel_rfl
def Fresh (m : Nat) (p : List Word) : Prop := 1 ≤ p.length ∧ p.length ≤ m ∧ ∀ x ∈ p, Good x ∧ x.n = 0
theorem Own.fit {α : Type} [Rep α] {w w' : World} {base : Nat} {e : TypeId} {v : Value} {l : List α} (h : Own w' base e v l) (hb : base = w.heap.size) : ∀ g, v.ownBlock = some g → w.heap.size ≤ g := fun g hg => hb ▸ (h.lt g hg).1
structure St1 (w wr : World) (Y : Nat) (k : Nat) (v : Value) (us : List Raw) (ls : List (List Word)) : Prop where
  y : TBox wr Y v (.slice none 0 0)
  x : TBox wr w.heap.size (.slice none 0 0) (.slice none 0 0)
  n : Nest wr (fun g => Y < g) 99 104 v us ls
  l : ls.length = k
  f : ∀ p ∈ ls, Fresh 40 p
  b : Below w.heap.size w wr
theorem St1.push {w wr w4 w5 : World} {Y k : Nat} {v v' : Value} {us : List Raw} {ls : List (List Word)} {u : Raw} {p : List Word} {o : Obj} (h : St1 w wr Y k v us ls) (hY : w.heap.size < Y) (hb4 : Below wr.heap.size wr w4) (hu : Own w4 wr.heap.size 104 u.v p) (hp : Fresh 40 p)
    (hown : Own w5 0 99 v' (us ++ [u])) (hg : (w4.alloc o).grownBy w5 v.ownBlock) (hat : v'.ownBlock = v.ownBlock ∨ v'.ownBlock = some (w4.alloc o).heap.size) :
    St1 w (w5.setCell ⟨Y, 0, none⟩ v') Y (k + 1) v' (us ++ [u]) (ls ++ [p]) := by
  have hylt := h.y.lt
  have hz := hb4.size
  have hvB : ∀ g, v.ownBlock = some g → Y < g := h.n.mv
  have keep : ∀ b, b < w4.heap.size → some b ≠ v.ownBlock → w5.heap[b]? = w4.heap[b]? := fun b hb hne => (hg.block b (by simp; omega) hne).trans (Below.heap_alloc w4 o b hb)
  have y5 : TBox w5 Y v (.slice none 0 0) := (h.y.below hb4).kept (keep Y (by omega) (fun e => by have := hvB Y e.symm; omega))
  have x5 : TBox w5 w.heap.size (.slice none 0 0) (.slice none 0 0) := (h.x.below hb4).kept (keep _ (by omega) (fun e => by have := hvB _ e.symm; omega))
  have n5 : Nest w5 (fun g => Y < g) _ _ v' (us ++ [u]) (ls ++ [p]) :=
    (Nest.push (B := fun g => Y < g ∧ g < wr.heap.size) (B' := fun g => Y < g) (H := (w4.alloc o).heap.size) ((h.n.mono fun g hg' hB => ⟨hB, hg'⟩).below hb4) (hu.re (Nat.zero_le _)) (fun g hg' => by have := hu.fit rfl g hg'; exact ⟨fun hh => by have := hh.2; omega, by omega⟩) keep hown hat (by simp) (fun g hh => hh.1) (by simp; omega))
  refine ⟨y5.set0 v', x5.other (by omega) v', n5.kept fun g hg' hB => heap_set w5 Y 0 v' (by omega), by simp [h.l], fun q hq => ?_, ?_⟩
  · rcases List.mem_append.1 hq with hq | hq
    · exact h.f q hq
    · rw [List.mem_singleton] at hq; subst hq; exact hp
  · have b4 : Below w.heap.size w w4 := h.b.trans (hb4.mono h.b.size)
    have b5 : Below w.heap.size w w5 := (b4.alloc b4.size o).grown hg (by have := b4.size; simp; omega) (fun g hg' => by have := hvB g hg'; omega)
    exact b5.setCell (p := ⟨Y, 0, none⟩) (by show w.heap.size ≤ Y; omega) v'
theorem St1.cell {w wr w4 w5 : World} {Y k : Nat} {v : Value} {us : List Raw} {ls : List (List Word)} {o : Obj} (h : St1 w wr Y k v us ls) (_hY : w.heap.size < Y) (hb4 : Below wr.heap.size wr w4) (hg : (w4.alloc o).grownBy w5 v.ownBlock) : w5.cell? ⟨Y, 0, none⟩ = some v ∧ ∀ o, w5.frozen? ⟨Y, o, none⟩ = false := by
  have y5 : TBox w5 Y v (.slice none 0 0) := (h.y.below hb4).kept ((hg.block Y (by have := h.y.lt; have := hb4.size; simp; omega) (fun e => by have := h.n.mv Y e.symm; omega)).trans (Below.heap_alloc w4 o Y (by have := h.y.lt; have := hb4.size; omega)))
  exact ⟨y5.c0, y5.fz⟩
def seqOf (l : List Word) : List Int := (l.map (·.n)).filter (fun x => x != 0)
theorem seqOf_append (a b : List Word) : seqOf (a ++ b) = seqOf a ++ seqOf b := by unfold seqOf; rw [List.map_append, List.filter_append]
theorem seqOf_nil {l : List Word} (h : ∀ x ∈ l, x.n = 0) : seqOf l = [] := by
  unfold seqOf
  rw [List.filter_eq_nil_iff]
  intro y hy
  obtain ⟨x, hx, rfl⟩ := List.mem_map.1 hy
  rw [h x hx]; simp
theorem seqOf_none {ls : List (List Word)} (h : ∀ p ∈ ls, noNote p) : seqOf ls.flatten = [] := seqOf_nil fun x hx => by
  obtain ⟨p, hp, hxp⟩ := List.mem_flatten.1 hx
  exact h p hp x hxp
theorem seq_set (ls : List (List Word)) (k i : Nat) (hk : k < ls.length) (hi : i < ls[k].length) (m : Int) (hm : m ≠ 0) (hl : ∀ p ∈ ls.drop (k + 1), noNote p) (h0 : ∀ j (hj : j < ls[k].length), i ≤ j → ls[k][j].n = 0) :
    seqOf (ls.set k (ls[k].set i (withNote ls[k][i] m))).flatten = seqOf ls.flatten ++ [m] := by
  have e1 : ls.set k (ls[k].set i (withNote ls[k][i] m)) = ls.take k ++ (ls[k].set i (withNote ls[k][i] m) :: ls.drop (k + 1)) := by rw [List.set_eq_take_append_cons_drop, if_pos hk]
  have e2 : ls = ls.take k ++ (ls[k] :: ls.drop (k + 1)) := by rw [← List.drop_eq_getElem_cons hk, List.take_append_drop]
  have e3 : ls[k].set i (withNote ls[k][i] m) = ls[k].take i ++ (withNote ls[k][i] m :: ls[k].drop (i + 1)) := by rw [List.set_eq_take_append_cons_drop, if_pos hi]
  have e4 : ls[k] = ls[k].take i ++ ls[k].drop i := (List.take_append_drop i _).symm
  have d1 : seqOf (ls[k].drop i) = [] := seqOf_nil fun x hx => by
    obtain ⟨j, hj, rfl⟩ := List.getElem_of_mem hx
    rw [List.length_drop] at hj
    rw [List.getElem_drop]; exact h0 (i + j) (by omega) (by omega)
  have d2 : seqOf (ls[k].drop (i + 1)) = [] := seqOf_nil fun x hx => by
    obtain ⟨j, hj, rfl⟩ := List.getElem_of_mem hx
    rw [List.length_drop] at hj
    rw [List.getElem_drop]; exact h0 (i + 1 + j) (by omega) (by omega)
  have d3 := seqOf_none hl
  have d4 : seqOf [withNote ls[k][i] m] = [m] := by simp [seqOf, withNote, hm]
  have l1 : seqOf (ls.set k (ls[k].set i (withNote ls[k][i] m))).flatten = seqOf (ls.take k).flatten ++ (seqOf (ls[k].take i) ++ [m]) := by
    rw [e1, List.flatten_append, List.flatten_cons, seqOf_append, seqOf_append, d3, List.append_nil, e3, seqOf_append, ← List.singleton_append, seqOf_append, d4, d2, List.append_nil]
  have l2 : seqOf ls.flatten = seqOf (ls.take k).flatten ++ seqOf (ls[k].take i) := by
    conv => lhs; rw [e2, List.flatten_append, List.flatten_cons, seqOf_append, seqOf_append, d3, List.append_nil, e4, seqOf_append, d1, List.append_nil]
  rw [l1, l2, List.append_assoc]
structure GText (ls ns : List (List Word)) : Prop where
  l1 : 1 ≤ ls.length
  l4 : ls.length ≤ 4
  n3 : ns.length ≤ 3
  p : ∀ p ∈ ls, 1 ≤ p.length ∧ p.length ≤ 40 ∧ ∀ x ∈ p, Good x
  q : ∀ p ∈ ns, Fresh 12 p
  s : seqOf ls.flatten = (List.range ns.length).map (fun i : Nat => (i : Int) + 1)
structure St2 (w wr : World) (Y H : Nat) (v vn : Value) (us un : List Raw) (ls ns : List (List Word)) : Prop where
  y : TBox wr Y v vn
  x : TBox wr w.heap.size (.slice none 0 0) (.slice none 0 0)
  n : Nest wr (fun g => Y < g ∧ g < H) 99 104 v us ls
  m : Nest wr (fun g => H ≤ g) 99 104 vn un ns
  b : Below w.heap.size w wr
  hz : H ≤ wr.heap.size
  yh : Y < H
theorem St1.next {w wr : World} {Y k : Nat} {v : Value} {us : List Raw} {ls : List (List Word)} (h : St1 w wr Y k v us ls) : St2 w wr Y wr.heap.size v (.slice none 0 0) us [] ls [] :=
  ⟨h.y, h.x, h.n.mono fun _ hg hB => ⟨hB, hg⟩, Nest.nil _ _ _ _, h.b, Nat.le_refl _, h.y.lt⟩
theorem St2.inner {w wr w' : World} {Y H : Nat} {v vn : Value} {us un : List Raw} {ls ns : List (List Word)} (h : St2 w wr Y H v vn us un ls ns) (hY : w.heap.size < Y) (i : Nat) (hi : i < us.length) {q : List Word} {g : Nat} (hg : us[i].v.ownBlock = some g)
    (hown : Own w' 0 104 us[i].v q) (hgr : wr.grownBy w' (some g)) : St2 w w' Y H v vn us un (ls.set i q) ns := by
  have hgB := h.n.mi i hi g hg
  have kp : ∀ b, b < wr.heap.size → b ≠ g → w'.heap[b]? = wr.heap[b]? := fun b hb hne => hgr.block b hb (fun e => hne (by injection e))
  exact ⟨h.y.kept (kp _ h.y.lt (by omega)), h.x.kept (kp _ h.x.lt (by omega)), h.n.inner i hi (fun b hb hne => kp b hb (fun e => hne (by rw [e, hg]))) hown, h.m.kept (fun b hb hB => kp b hb (by omega)),
    h.b.grown hgr h.b.size (fun g' hg' => by injection hg' with e; omega), Nat.le_trans h.hz hgr.size, h.yh⟩
theorem St2.cells {w wr w4 w5 : World} {Y H : Nat} {v vn : Value} {us un : List Raw} {ls ns : List (List Word)} {o : Obj} (h : St2 w wr Y H v vn us un ls ns) (hb4 : Below wr.heap.size wr w4) (hg : (w4.alloc o).grownBy w5 vn.ownBlock) : w5.cell? ⟨Y, 1, none⟩ = some vn ∧ ∀ o, w5.frozen? ⟨Y, o, none⟩ = false := by
  have y5 : TBox w5 Y v vn := (h.y.below hb4).kept ((hg.block Y (by have := h.y.lt; have := hb4.size; simp; omega) (fun e => by have := h.m.mv Y e.symm; have := h.yh; omega)).trans (Below.heap_alloc w4 o Y (by have := h.y.lt; have := hb4.size; omega)))
  exact ⟨y5.c1, y5.fz⟩
theorem St2.push {w wr w4 w5 : World} {Y H : Nat} {v vn v' : Value} {us un : List Raw} {ls ns : List (List Word)} {u : Raw} {p : List Word} {o : Obj} (h : St2 w wr Y H v vn us un ls ns) (hY : w.heap.size < Y) (hb4 : Below wr.heap.size wr w4) (hu : Own w4 wr.heap.size 104 u.v p)
    (hown : Own w5 0 99 v' (un ++ [u])) (hg : (w4.alloc o).grownBy w5 vn.ownBlock) (hat : v'.ownBlock = vn.ownBlock ∨ v'.ownBlock = some (w4.alloc o).heap.size) :
    St2 w (w5.setCell ⟨Y, 1, none⟩ v') Y H v v' us (un ++ [u]) ls (ns ++ [p]) := by
  have hylt := h.y.lt
  have hz := hb4.size
  have hzH := h.hz
  have hyH := h.yh
  have hvB : ∀ g, vn.ownBlock = some g → H ≤ g := h.m.mv
  have keep : ∀ b, b < w4.heap.size → some b ≠ vn.ownBlock → w5.heap[b]? = w4.heap[b]? := fun b hb hne => (hg.block b (by simp; omega) hne).trans (Below.heap_alloc w4 o b hb)
  have y5 : TBox w5 Y v vn := (h.y.below hb4).kept (keep Y (by omega) (fun e => by have := hvB Y e.symm; omega))
  have x5 : TBox w5 w.heap.size (.slice none 0 0) (.slice none 0 0) := (h.x.below hb4).kept (keep _ (by omega) (fun e => by have := hvB _ e.symm; omega))
  have n5 : Nest w5 (fun g => Y < g ∧ g < H) _ _ v us ls := (h.n.below hb4).kept fun g hg' hB => keep g hg' (fun e => by have := hvB _ e.symm; omega)
  have m5 : Nest w5 (fun g => H ≤ g) _ _ v' (un ++ [u]) (ns ++ [p]) :=
    (Nest.push (B := fun g => H ≤ g ∧ g < wr.heap.size) (B' := fun g => H ≤ g) (H := (w4.alloc o).heap.size) ((h.m.mono fun g hg' hB => ⟨hB, hg'⟩).below hb4) (hu.re (Nat.zero_le _)) (fun g hg' => by have := hu.fit rfl g hg'; exact ⟨fun hh => by have := hh.2; omega, by omega⟩) keep hown hat (by simp) (fun g hh => hh.1) (by simp; omega))
  have b4 : Below w.heap.size w w4 := h.b.trans (hb4.mono h.b.size)
  have b5 : Below w.heap.size w w5 := (b4.alloc b4.size o).grown hg (by have := b4.size; simp; omega) (fun g hg' => by have := hvB g hg'; omega)
  have hz5 := hg.size
  refine ⟨y5.set1 v', x5.other (by omega) v', n5.kept fun g hg' hB => heap_set w5 Y 1 v' (by omega), m5.kept fun g hg' hB => heap_set w5 Y 1 v' (by omega), b5.setCell (p := ⟨Y, 1, none⟩) (by show w.heap.size ≤ Y; omega) v', ?_, h.yh⟩
  have : (w4.alloc o).heap.size = w4.heap.size + 1 := by simp
  simp only [World.size_setCell]; omega
theorem St2.below {w wr w' : World} {Y H : Nat} {v vn : Value} {us un : List Raw} {ls ns : List (List Word)} (h : St2 w wr Y H v vn us un ls ns) (hb : Below wr.heap.size wr w') : St2 w w' Y H v vn us un ls ns :=
  ⟨h.y.below hb, h.x.below hb, h.n.below hb, h.m.below hb, h.b.trans (hb.mono h.b.size), Nat.le_trans h.hz hb.size, h.yh⟩
theorem GText.next {ls ns : List (List Word)} (h : GText ls ns) (k : Nat) (hk : k < ls.length) {q p : List Word} (hq : Referred ls[k] ((ns.length : Int) + 1) true q) (hl : ∀ p ∈ ls.drop (k + 1), noNote p) (hp : Fresh 12 p) (h3 : ns.length + 1 ≤ 3) : GText (ls.set k q) (ns ++ [p]) := by
  rcases hq with ⟨h0, _⟩ | ⟨_, i, hi, h0, rfl⟩
  · cases h0
  · have hpk := h.p ls[k] (List.getElem_mem hk)
    refine ⟨by rw [List.length_set]; exact h.l1, by rw [List.length_set]; exact h.l4, by simp; omega, fun r hr => ?_, fun r hr => ?_, ?_⟩
    · rcases List.mem_or_eq_of_mem_set hr with hr | rfl
      · exact h.p r hr
      · rw [List.length_set]
        refine ⟨hpk.1, hpk.2.1, fun x hx => ?_⟩
        rcases List.mem_or_eq_of_mem_set hx with hx | rfl
        · exact hpk.2.2 x hx
        · exact (show Good ls[k][i] from hpk.2.2 _ (List.getElem_mem hi))
    · rcases List.mem_append.1 hr with hr | hr
      · exact h.q r hr
      · rw [List.mem_singleton] at hr; subst hr; exact hp
    · rw [seq_set ls k i hk hi _ (by omega) hl h0, h.s, List.length_append, List.length_singleton, List.range_succ, List.map_append]; rfl
theorem St2.stay {w wr w' : World} {Y H : Nat} {v vn : Value} {us un : List Raw} {ls ns : List (List Word)} (h : St2 w wr Y H v vn us un ls ns) (hY : w.heap.size < Y) (i : Nat) (hi : i < us.length) (hi' : i < ls.length) {q : List Word} {g : Nat} {m : Int} (hg : us[i].v.ownBlock = some g)
    (hq : Referred ls[i] m false q) (hown : Own w' 0 104 us[i].v q) (hgr : wr.grownBy w' (some g)) : St2 w w' Y H v vn us un ls ns := by
  rcases hq with ⟨_, rfl⟩ | ⟨h0, _⟩
  · have := h.inner hY i hi hg hown hgr
    rwa [List.set_getElem_self] at this
  · cases h0
end Go.Proofs.YtakaielemicpkaaGreatDoor
namespace Go.Proofs.YtakaielemicpkaaGreatDoor
open Go.RowKit
def IsText (w : World) (e : Ending) (w' : World) : Prop :=
  ∃ v vn ls ns, e = .returned (.agg #[v, vn]) ∧ GText ls ns ∧ (∃ B us un, Nest w' (fun g => w.heap.size ≤ g ∧ g < B) 99 104 v us ls ∧ Nest w' (fun g => B ≤ g) 99 104 vn un ns) ∧ Below w.heap.size w w'
set_option maxRecDepth 100000 in
set_option maxHeartbeats 4000000 in
theorem text_any (A : Option Addr) (c : Nat) (l : List Int) (w : World) (hl : Sl w (fun b => b < w.heap.size) A c l) :
    Calls Tryz.prog 61 #[.slice A l.length c] w (IsText w) := by
  have hb0 := ((Below.refl w.heap.size w).alloc (Nat.le_refl _) (.cells #[.slice none 0 0, .slice none 0 0] 50))
  have hb1 := hb0.alloc (by simp) (.cells #[.slice none 0 0, .slice none 0 0] 50)
  have HB := Lib.hid hb1
  have HL := Lib.hid hl
  clear hl hb0 hb1
  go_enter Tryz.func61, Tryz.ntmps61
  go_wp2_with fail
  have hx : TBox ((w.alloc (.cells #[.slice none 0 0, .slice none 0 0] 50)).alloc (.cells #[.slice none 0 0, .slice none 0 0] 50)) w.heap.size (.slice none 0 0) (.slice none 0 0) := ⟨(Below.heap_alloc _ _ _ (by simp)).trans (heap_at rfl)⟩
  have hy : TBox ((w.alloc (.cells #[.slice none 0 0, .slice none 0 0] 50)).alloc (.cells #[.slice none 0 0, .slice none 0 0] 50)) (w.heap.size + 1) (.slice none 0 0) (.slice none 0 0) := ⟨heap_at (by simp)⟩
  generalize ((w.alloc (.cells #[.slice none 0 0, .slice none 0 0] 50)).alloc (.cells #[.slice none 0 0, .slice none 0 0] 50)) = w1 at *
  have S0 : St1 w w1 (w.heap.size + 1) 0 (.slice none 0 0) [] [] := ⟨hy, hx, Nest.nil _ _ _ _, rfl, fun _ h => (by cases h), HB.out⟩
  have HS0 := Lib.hid S0
  clear hx hy S0
  have hYX : w.heap.size < w.heap.size + 1 := by omega
  generalize w.heap.size + 1 = Y at *
  refine (pick_any A c l 1 4 _ (HL.out.to HB.out) (by decide) (by decide) (by decide)).mono ?_
  rintro e w' ⟨r0, rfl, hr0, rfl⟩
  clear HB
  go_wp2_with fail
  go_loopw [5] (fun i wr => ∃ k : Nat, k ≤ 4 ∧ i = .int .i64 k ∧ ∃ v us ls, Hid (St1 w wr Y k v us ls)) (fun i _ => 5 - (intOf i).toNat)
  case atStart => exact ⟨0, by omega, rfl, _, _, _, HS0⟩
  case round =>
    obtain ⟨k, hk, rfl, v, us, ls, hst⟩ := hrel
    have hk0 : 0 ≤ (k : Int) := by omega
    go_wp2_with fail
    refine (pick_any A c l 0 4 _ (HL.out.to hst.out.b) (by decide) (by decide) (by decide)).mono ?_
    rintro e w' ⟨r, rfl, hr, rfl⟩
    by_cases hkr : k ≤ r
    · have hkr' : (k : Int) ≤ (r : Int) := by omega
      have hk3 : (k : Int) ≤ 3 := by omega
      have hle : us.length ≤ 4 := by have := hst.out.n.len; have := hst.out.l; omega
      obtain ⟨A1, c1, rfl, _, _⟩ := hst.out.n.own.form
      have t0 := hst.out.y.c0
      have hsz := hst.out.b.size
      have hw2 : IntKind.i64.wrap (2 + (k : Int)) = 2 + (k : Int) := by rw [IntWalk.i64_in _ (by omega)]
      have hw3 : 0 ≤ 2 + (k : Int) := by omega
      go_wp2_with fail
      go_region_law (first
        | (rw [if_pos (by rfl)]; go_simp; go_at_call 30; refine (pick_any A c l (2 + (k : Int)) 1000000 _ (HL.out.to hst.out.b.drew) (by decide) (by decide) hw3).mono ?_; rintro e w' ⟨r2, rfl, hr2, rfl⟩)
        | (rw [if_pos (by rfl)]; go_simp; go_at_call 84; refine (part_any r2 40 (by omega) (by decide) (by decide) _).mono ?_; rintro e w4 ⟨vp, rfl, p, hown4, hplen, hpg, hb4'⟩; have hb4 := (Below.refl wr.heap.size wr).drew.trans hb4'; clear hb4'; have t4 := (hb4.cell (p := ⟨Y, 0, none⟩) hst.out.y.lt).trans t0; obtain ⟨Ap, cp, rfl, _, _⟩ := hown4.form; have HPL := Lib.hid hplen; have HPG := Lib.hid hpg; clear hplen hpg; have n4 := fun ob => ((hst.out.y.below hb4).below ((Below.refl _ _).alloc (Nat.le_refl _) ob)).c0)
        | ((refine step_push (α := Raw) _ (by rfl) (.tmp 18) (.tmp 24) 48 (by rfl) 0 99 (.slice none 0 0) 24 Tryz.underlying48 raw_info rfl (by decide) _ us (by rfl) ((hst.out.n.own.below hb4).alloc _) w4.heap.size _ ⟨.slice Ap p.length cp, rfl⟩ (0, 0) 99 (by rfl) (heap_alloc_new w4 _) rfl (by omega) (by omega) (by simp) _ rfl ?_); intro g cap w5 hown5 hg5 hat5 hlt5; obtain ⟨t5, z5⟩ := St1.cell hst.out hYX hb4 hg5)
        | fail)
      all_goals go_wp2_with fail
      all_goals go_roundw
      all_goals first
        | exact ⟨k + 1, by omega, by go_num, _, _, _, St1.push (u := ⟨.slice Ap p.length cp, rfl⟩) hst.out hYX hb4 (hown4.re (Nat.le_refl _)) ⟨by rw [HPL.out]; omega, by rw [HPL.out]; omega, HPG.out⟩ hown5 hg5 (by rcases hat5 with e | e; exact .inl e.symm; exact .inr (by rw [e]; rfl))⟩
        | (simp [intOf]; omega)
    · have hkr' : ¬ (k : Int) ≤ (r : Int) := by omega
      have hk1 : 1 ≤ k := by omega
      have hst2 := Lib.hid hst.out.next
      have hl4 := hst.out.l
      have hf := Lib.hid hst.out.f
      have HT : Hid (GText ls []) := Lib.hid ⟨by omega, by omega, by simp, fun p hp => ⟨(hf.out p hp).1, (hf.out p hp).2.1, fun x hx => ((hf.out p hp).2.2 x hx).1⟩, fun p hp => (by cases hp), seqOf_none fun p hp x hx => ((hf.out p hp).2.2 x hx).2⟩
      clear hst hf
      generalize wr.heap.size = H at *
      go_wp2_with fail
      go_loopw [6, 7, 8] (fun i _ _ wr => ∃ k : Nat, k ≤ r0 ∧ i = .int .i64 k ∧ ∃ ls ns vn un, Hid (St2 w wr Y H v vn us un ls ns) ∧ Hid (GText ls ns) ∧ ns.length ≤ k) (fun i _ _ _ => r0 - (intOf i).toNat)
      case atStart => exact ⟨0, by omega, rfl, ls, [], _, [], hst2, HT, by simp⟩
      case round =>
        clear hst2 HT hl4
        obtain ⟨k2, hk2, rfl, ls, ns, vn, un, hst, hgt, hnk⟩ := hrel
        have hk20 : 0 ≤ (k2 : Int) := by omega
        by_cases hlt : k2 < r0
        · have hlt' : (k2 : Int) < (r0 : Int) := by omega
          have hw6 : IntKind.i64.wrap (6 + (k2 : Int)) = 6 + (k2 : Int) := by rw [IntWalk.i64_in _ (by omega)]
          have hw60 : 0 ≤ 6 + (k2 : Int) := by omega
          go_wp2_with fail
          refine (pick_any A c l (6 + (k2 : Int)) 1000000 _ (HL.out.to hst.out.b) (by decide) (by decide) (by omega)).mono ?_
          rintro e w' ⟨r2, rfl, hr2, rfl⟩
          have hlens : ∀ p ∈ ls, p.length < 9223372036854775808 := fun p hp => by have := (hgt.out.p p hp).2.1; omega
          have hlensn : ∀ p ∈ ns, p.length < 9223372036854775808 := fun p hp => by have := (hgt.out.q p hp).2.1; omega
          obtain ⟨A1, c1, rfl, _⟩ := hst.out.n.sl hlens
          obtain ⟨A2, c2, rfl, _⟩ := hst.out.m.sl hlensn
          have HLS := Lib.hid hlens
          have hn3 : ns.length ≤ 3 := by omega
          have hl4 := hgt.out.l4
          have hwn : IntKind.i64.wrap ((ns.length : Int) + 1) = (ns.length : Int) + 1 := by rw [IntWalk.i64_in _ (by omega)]
          clear hlens hlensn
          go_wp2_with fail
          go_loopw [8] (fun i wr3 => ∃ j : Nat, j ≤ ls.length ∧ i = .int .i64 j ∧ Hid (St2 w wr3 Y H (.slice A1 ls.length c1) (.slice A2 ns.length c2) us un ls ns)) (fun i _ => ls.length - (intOf i).toNat)
          case atStart => exact ⟨0, by omega, rfl, hst⟩
          case round =>
            clear hst
            obtain ⟨j, hj, rfl, hst⟩ := hrel
            have t0 := hst.out.y.c0
            have t1 := hst.out.y.c1
            have hj0 : 0 ≤ (j : Int) := by omega
            have hj4 : (j : Int) ≤ 4 := by omega
            by_cases hjl : j < ls.length
            · have hjl' : (j : Int) < (ls.length : Int) := by omega
              obtain ⟨gv, cap, hu, ev, hgl, hB, _, hcell, hfz⟩ := hst.out.n.at_ hjl
              obtain ⟨rfl, rfl⟩ : A1 = some ⟨gv, 0, none⟩ ∧ c1 = cap := by have := Value.slice.inj ev; exact ⟨this.1, this.2.2⟩
              have hpj := hgt.out.p ls[j] (List.getElem_mem hjl)
              obtain ⟨gk, capk, es, ek, _, hgk, hrest⟩ := (hst.out.n.inn j hu hjl).at_ (k := 0) (by omega)
              clear hrest
              have hrow := hst.out.n.inn j hu hjl
              have EK := Lib.hid (show us[j].v.ownBlock = some gk by rw [ek]; rfl)
              rw [ek] at hcell
              have HEK := Lib.hid ek
              rw [ek] at hrow
              have HROW := Lib.hid hrow
              have hlj : ls[j].length ≤ 40 := hpj.2.1
              obtain ⟨As, cs, es2, hsl⟩ := hst.out.n.sl HLS.out
              obtain ⟨rfl, rfl⟩ : As = some ⟨gv, 0, none⟩ ∧ cs = c1 := by have := Value.slice.inj es2; exact ⟨this.1.symm, this.2.2.symm⟩
              have HSL := Lib.hid hsl
              have hYg : some Y ≠ some gk := fun e => by have := (hst.out.n.mi j hu gk EK.out).1; injection e with e; omega
              have hvg : some gv ≠ some gk := hst.out.n.ne j hu gk EK.out
              clear ev es2 hsl hrow ek hfz
              go_wp2_with fail
              go_region_held3 (fun w' => w'.cell? ⟨Y, 0, none⟩ = some (.slice (some ⟨gv, 0, none⟩) ls.length cs) ∧ w'.cell? ⟨Y, 1, none⟩ = some (.slice A2 ns.length c2) ∧ w'.cell? ⟨gv, j, none⟩ = some (.slice (some ⟨gk, 0, none⟩) ls[j].length capk)) (go_keep)
                (first
                  | (go_at_call 86; refine (last_any _ _ ls j _ HSL.out.drew (by omega)).mono ?_; rintro e w5 ⟨b5, rfl, hb5, rfl⟩)
                  | (go_at_call 85; refine (refer_any gk capk ls[j] r2 ((ns.length : Int) + 1) b5 _ HROW.out.drew (by omega) (by omega) (by omega) (by omega)).mono ?_; rintro e w6 ⟨b6, rfl, q6, hq6, hl6, hlq6, hown6, hg6⟩; have hg6' := (grown_drew (World.grownBy.refl wr (some gk))).trans hg6; have f0 := hg6'.cell t0 hYg; have f1 := hg6'.cell t1 hYg; have f2 := hg6'.cell hcell hvg)
                  | fail)
              clear hcell f2 hYg hvg
              cases b6 with
              | false =>
                have hst2 := Lib.hid (hst.out.stay hYX j hu hjl EK.out hq6 (by rw [HEK.out]; exact hown6) hg6')
                clear hq6 hb5 hl6 hlq6 hown6 hg6 hg6' t0 t1 hwn
                unfold Exit.then
                go_wp2_with fail
                go_roundw
                case rel => exact ⟨j + 1, by omega, by go_num, hst2⟩
                case measure => simp [intOf]; omega
              | true =>
                have hst2 := Lib.hid (hst.out.inner hYX j hu EK.out (by rw [HEK.out]; exact hown6) hg6')
                have HLF := Lib.hid (hb5 (hl6 rfl))
                have HQ6 := Lib.hid hq6
                clear hq6 hb5 hl6 hlq6 hown6 hg6 hg6' t0 t1 hwn
                unfold Exit.then
                go_wp2_with fail
                go_region_law (first
                  | (rw [if_pos (by rfl)]; go_simp; go_at_call 84; refine (part_any r2 12 (by omega) (by decide) (by decide) _).mono ?_; rintro e w7 ⟨vp, rfl, p, hown7, hplen, hpg, hb7'⟩; have hb7 := (Below.refl w6.heap.size w6).drew.trans hb7'; clear hb7'; have t7 := (hb7.cell (p := ⟨Y, 1, none⟩) hst2.out.y.lt).trans f1; obtain ⟨Ap, cp, rfl, _, _⟩ := hown7.form; have HPL := Lib.hid hplen; have HPG := Lib.hid hpg; clear hplen hpg; have n7 := fun ob => ((hst2.out.y.below hb7).below ((Below.refl _ _).alloc (Nat.le_refl _) ob)).c1)
                  | ((refine step_push (α := Raw) _ (by rfl) (.tmp 67) (.tmp 70) 48 (by rfl) 0 99 (.slice none 0 0) 24 Tryz.underlying48 raw_info rfl (by decide) _ un (by rfl) ((hst2.out.m.own.below hb7).alloc _) w7.heap.size _ ⟨.slice Ap p.length cp, rfl⟩ (0, 0) 99 (by rfl) (heap_alloc_new w7 _) rfl (by have := hst2.out.m.len; omega) (by have := hst2.out.m.len; omega) (by simp) _ rfl ?_); intro g cap8 w8 hown8 hg8 hat8 hlt8; obtain ⟨t8, z8⟩ := St2.cells hst2.out hb7 hg8)
                  | fail)
                all_goals go_wp2_with fail
                all_goals go_roundw
                all_goals first
                  | exact ⟨k2 + 1, by omega, by go_num, _, _, _, _, St2.push (u := ⟨.slice Ap p.length cp, rfl⟩) hst2.out hYX hb7 (hown7.re (Nat.le_refl _)) hown8 hg8 (by rcases hat8 with e | e; exact .inl e.symm; exact .inr (by rw [e]; rfl)), hgt.out.next j hjl HQ6.out HLF.out ⟨by rw [HPL.out]; omega, by rw [HPL.out]; omega, HPG.out⟩ (by omega), by simp; omega⟩
                  | (simp [intOf]; omega)
            · have hjl' : ¬ (j : Int) < (ls.length : Int) := by omega
              go_wp2_with fail
              go_quiet (fail)
              have hst2 := Lib.hid (hst.out.below (Below.dn (Below.refl _ _) nq))
              go_wp2_with fail
              go_roundw
              case rel => exact ⟨k2 + 1, by omega, by go_num, ls, ns, _, un, hst2, hgt, by omega⟩
              case measure => simp [intOf]; omega
        · have hlt' : ¬ (k2 : Int) < (r0 : Int) := by omega
          have hlens : ∀ p ∈ ls, p.length < 9223372036854775808 := fun p hp => by have := (hgt.out.p p hp).2.1; omega
          have hlensn : ∀ p ∈ ns, p.length < 9223372036854775808 := fun p hp => by have := (hgt.out.q p hp).2.1; omega
          obtain ⟨A1, c1, rfl, _⟩ := hst.out.n.sl hlens
          obtain ⟨A2, c2, rfl, _⟩ := hst.out.m.sl hlensn
          have t0 := hst.out.y.c0
          have t1 := hst.out.y.c1
          have x0 := hst.out.x.c0
          have x1 := hst.out.x.c1
          have hfz := hst.out.x.fz
          have hz := hst.out.b.size
          have hyx := hst.out.y.lt
          go_wp2_with fail
          refine bodyPost_ret (v := .agg #[.slice A1 ls.length c1, .slice A2 ns.length c2]) (by simp [results, Tryz.results61, go_sem, x0, x1]) rfl ⟨_, _, ls, ns, rfl, hgt.out, ⟨H, us, un, ?_, ?_⟩, ?_⟩
          · exact (hst.out.n.kept fun g hg hB => ((heap_set _ _ 1 _ (by omega)).trans (heap_set _ _ 0 _ (by omega)))).mono fun g _ hB => ⟨by omega, hB.2⟩
          · exact hst.out.m.kept fun g hg hB => by have := hst.out.yh; exact ((heap_set _ _ 1 _ (by omega)).trans (heap_set _ _ 0 _ (by omega)))
          · exact (hst.out.b.setCell (p := ⟨w.heap.size, 0, none⟩) (Nat.le_refl _) _).setCell (p := ⟨w.heap.size, 1, none⟩) (Nat.le_refl _) _
end Go.Proofs.YtakaielemicpkaaGreatDoor
namespace Go.Proofs.YtakaielemicpkaaGreatDoor
open Go.RowKit
theorem tot_bd (m : Nat) : ∀ (l : List (List Word)), (∀ p ∈ l, p.length ≤ m) → tot l ≤ l.length * m
  | [], _ => by simp [tot]
  | p :: l, h => by
    have h1 := h p (List.mem_cons_self ..)
    have h2 := tot_bd m l (fun q hq => h q (List.mem_cons_of_mem _ hq))
    have e : tot (p :: l) = p.length + tot l := by unfold tot; rw [List.flatten_cons, List.length_append]
    rw [e, List.length_cons, Nat.add_mul, Nat.one_mul]; omega
theorem GText.tot {ls ns : List (List Word)} (h : GText ls ns) : tot (ls ++ ns) ≤ 196 := by
  rw [tot_append]
  have h1 := tot_bd 40 ls (fun p hp => (h.p p hp).2.1)
  have h2 := tot_bd 12 ns (fun p hp => (h.q p hp).2.1)
  have h3 : ls.length * 40 ≤ 4 * 40 := Nat.mul_le_mul_right _ h.l4
  have h4 : ns.length * 12 ≤ 3 * 12 := Nat.mul_le_mul_right _ h.n3
  omega
structure TX (w : World) (A : Option Addr) (c : Nat) (B : Option Addr) (d : Nat) (a b : List (List Word)) : Prop where
  sa : Sl w (fun b => b < w.heap.size) A c a
  sb : Sl w (fun b => b < w.heap.size) B d b
  la : a.length ≤ 1048576
  lb : b.length ≤ 1048576
  t : tot (a ++ b) ≤ 1048576
theorem GText.lens {ls ns : List (List Word)} (h : GText ls ns) : (∀ p ∈ ls, p.length < 9223372036854775808) ∧ (∀ p ∈ ns, p.length < 9223372036854775808) :=
  ⟨fun p hp => by have := (h.p p hp).2.1; omega, fun p hp => by have := (h.q p hp).2.1; omega⟩
def up : Int → Nat → List Int
  | _, 0 => []
  | a, m + 1 => (a + 1) :: up (a + 1) m
theorem up_range : ∀ (n : Nat) (a : Int), (List.range n).map (fun i : Nat => a + ((i : Int) + 1)) = up a n
  | 0, _ => rfl
  | n + 1, a => by
    rw [List.range_succ_eq_map, List.map_cons, List.map_map, up, ← up_range n (a + 1)]
    congr 1
    apply List.map_congr_left
    intro i _
    simp only [Function.comp]; omega
theorem up_split : ∀ (l1 l2 : List Int) (a : Int) (m : Nat), l1 ++ l2 = up a m → l1 = up a l1.length ∧ l2 = up (a + l1.length) l2.length ∧ m = l1.length + l2.length
  | [], l2, a, m, h => by
    have hl : l2.length = m := by
      have : ∀ (m : Nat) (a : Int), (up a m).length = m := by
        intro m
        induction m with
        | zero => intro a; rfl
        | succ m ih => intro a; rw [up, List.length_cons, ih]
      have h' := congrArg List.length h
      rw [this] at h'
      simpa using h'
    subst hl
    refine ⟨rfl, ?_, by simp⟩
    simpa using h
  | x :: l1, l2, a, 0, h => by simp [up] at h
  | x :: l1, l2, a, m + 1, h => by
    rw [List.cons_append, up] at h
    obtain ⟨h1, h2⟩ := List.cons.inj h
    obtain ⟨e1, e2, e3⟩ := up_split l1 l2 (a + 1) m h2
    refine ⟨by rw [List.length_cons, up, ← e1, h1], ?_, by rw [List.length_cons]; omega⟩
    rw [List.length_cons, show a + ((l1.length + 1 : Nat) : Int) = a + 1 + l1.length by omega]
    exact e2
theorem seqOf_cons (x : Word) (r : List Word) : seqOf (x :: r) = if x.n = 0 then seqOf r else x.n :: seqOf r := by
  unfold seqOf
  rw [List.map_cons]
  by_cases h : x.n = 0
  · rw [if_pos h, List.filter_cons_of_neg (by simp [h])]
  · rw [if_neg h, List.filter_cons_of_pos (by simp [h])]
def Fine (x : Word) : Prop := badW x = false ∧ (x.t = 0 ∨ x.t = 1)
theorem scanW_fine {np nn i : Nat} (hi : i < np) : ∀ (p : List Word) (notes : Int) (m : Nat), (∀ x ∈ p, Fine x) → seqOf p = up notes m → notes + m ≤ nn → scanW np nn i notes p = (0, notes + m)
  | [], notes, m, _, hs, _ => by
    have : m = 0 := by
      cases m with
      | zero => rfl
      | succ m => simp [seqOf, up] at hs
    subst this; simp [scanW]
  | x :: r, notes, m, hf, hs, hn => by
    have hx := hf x (List.mem_cons_self ..)
    have hr : ∀ y ∈ r, Fine y := fun y hy => hf y (List.mem_cons_of_mem _ hy)
    rw [seqOf_cons] at hs
    by_cases h0 : x.n = 0
    · rw [if_pos h0] at hs
      rw [scanW, step_plain hx.1 hx.2 h0, if_pos rfl]
      exact scanW_fine hi r notes m hr hs hn
    · rw [if_neg h0] at hs
      cases m with
      | zero => simp [up] at hs
      | succ m =>
        rw [up] at hs
        obtain ⟨h1, h2⟩ := List.cons.inj hs
        rw [scanW, step_note hx.1 hx.2 h0 (by rintro (h | h | h) <;> omega), if_pos rfl]
        rw [scanW_fine hi r (notes + 1) m hr h2 (by omega)]
        simp only [Prod.mk.injEq, true_and]; omega
theorem scanW_none {np nn i : Nat} : ∀ (p : List Word) (notes : Int), (∀ x ∈ p, Fine x ∧ x.n = 0) → scanW np nn i notes p = (0, notes)
  | [], notes, _ => rfl
  | x :: r, notes, hf => by
    have hx := hf x (List.mem_cons_self ..)
    rw [scanW, step_plain hx.1.1 hx.1.2 hx.2, if_pos rfl]
    exact scanW_none r notes (fun y hy => hf y (List.mem_cons_of_mem _ hy))
theorem scanP_none {np nn : Nat} : ∀ (l : List (List Word)) (i : Nat) (notes : Int), (∀ p ∈ l, ∀ x ∈ p, Fine x ∧ x.n = 0) → scanP np nn i notes l = (0, notes)
  | [], _, _, _ => rfl
  | p :: r, i, notes, hf => by
    rw [scanP, scanW_none p notes (hf p (List.mem_cons_self ..)), if_pos rfl]
    exact scanP_none r (i + 1) notes (fun q hq => hf q (List.mem_cons_of_mem _ hq))
theorem scanP_fine {np nn : Nat} (R : List (List Word)) : ∀ (l : List (List Word)) (i : Nat) (notes : Int) (m : Nat), i + l.length ≤ np → (∀ p ∈ l, ∀ x ∈ p, Fine x) → seqOf l.flatten = up notes m → notes + m ≤ nn → scanP np nn i notes (l ++ R) = scanP np nn (i + l.length) (notes + m) R
  | [], i, notes, m, _, _, hs, _ => by
    have : m = 0 := by
      cases m with
      | zero => rfl
      | succ m => simp [seqOf, up] at hs
    subst this; simp
  | p :: r, i, notes, m, hi, hf, hs, hn => by
    rw [List.length_cons] at hi
    rw [List.flatten_cons, seqOf_append] at hs
    obtain ⟨e1, e2, e3⟩ := up_split _ _ _ _ hs
    have h1 := scanW_fine (np := np) (nn := nn) (i := i) (by omega) p notes _ (hf p (List.mem_cons_self ..)) e1 (by omega)
    rw [List.cons_append, scanP, h1, if_pos rfl]
    rw [scanP_fine R r (i + 1) _ _ (by omega) (fun q hq => hf q (List.mem_cons_of_mem _ hq)) e2 (by omega)]
    rw [List.length_cons]
    congr 1
    · omega
    · omega
theorem chk_fine (ls ns : List (List Word)) (h1 : ls.length ≤ 100) (h2 : ns.length ≤ 100) (hl : ∀ p ∈ ls ++ ns, 1 ≤ p.length ∧ p.length ≤ 500) (hf : ∀ p ∈ ls, ∀ x ∈ p, Fine x) (hn : ∀ p ∈ ns, ∀ x ∈ p, Fine x ∧ x.n = 0) (hs : seqOf ls.flatten = up 0 ns.length) : chkOf ls ns = 0 := by
  have a1 : anyLen longP (ls ++ ns) = false := by
    unfold anyLen
    rw [List.any_eq_false]
    intro p hp
    have := (hl p hp).2
    simp [longP]; omega
  have a2 : anyLen emptyP (ls ++ ns) = false := by
    unfold anyLen
    rw [List.any_eq_false]
    intro p hp
    have := (hl p hp).1
    simp [emptyP]
    intro e; rw [e] at this; simp at this
  unfold chkOf
  rw [if_neg (by rw [a1]; simp; omega), if_neg (by rw [a2]; simp)]
  rw [scanP_fine ns ls 0 0 ns.length (by omega) hf hs (by omega), scanP_none ns _ _ hn]
  unfold endP
  rw [if_neg (by simp), if_neg (by simp)]
theorem Good.fine {x : Word} (h : Good x) : Fine x := by
  refine ⟨?_, h.2.2⟩
  by_cases hk : x.key = ⟨#[]⟩
  · exact good_nokey h.1 hk
  · exact good_key h.1 (h.2.1.resolve_left hk)
theorem GText.seq {ls ns : List (List Word)} (h : GText ls ns) : seqOf ls.flatten = up 0 ns.length := by
  rw [h.s, ← up_range]
  apply List.map_congr_left
  intro i _; omega
theorem GText.chk {ls ns : List (List Word)} (h : GText ls ns) : chkOf ls ns = 0 :=
  chk_fine ls ns (by have := h.l4; omega) (by have := h.n3; omega)
    (fun p hp => by
      rcases List.mem_append.1 hp with hp | hp
      · have := h.p p hp; exact ⟨this.1, by have := this.2.1; omega⟩
      · have := h.q p hp; exact ⟨this.1, by have := this.2.1; omega⟩)
    (fun p hp x hx => ((h.p p hp).2.2 x hx).fine) (fun p hp x hx => ⟨((h.q p hp).2.2 x hx).1.fine, ((h.q p hp).2.2 x hx).2⟩) h.seq
end Go.Proofs.YtakaielemicpkaaGreatDoor
