/- Every word of a version stands on one line of the pages of this version. No program is in sight.
Where a word stands, if it stands on one line only. No program is in sight.
Fillers: words of a given width. No program is in sight.
The text of fillers: it is a text of the generator too, and it has the same pages. No program is in sight.
The second book of BookShapes while it is built. No condition.
glyph.Fill. No condition.
The law's fillers. No condition but what the tables hold and that the sizes fit.
book.checkVersions: no error for a section of the generator. No condition but that.
book.Check: no error for a book of the generator. No condition but that. -/
import Derived.Test.YtakaielemicpkaaGreatDoorBZa12
import Derived.BigRegion
namespace Go.Proofs.YtakaielemicpkaaGreatDoor
open Go.RowKit
def hitL (wd : Int) (x : LineP) : Bool := decide (x.fr ≤ wd ∧ wd < x.un)
/-- How many lines have a word. -/
def cntL (wd : Int) (l : List LineP) : Nat := l.countP (hitL wd)
theorem cntL_append (wd : Int) (a b : List LineP) : cntL wd (a ++ b) = cntL wd a + cntL wd b := List.countP_append
/-- The number of the last line that has it, of a list turned about. -/
def lastR (wd : Int) : List LineP → Nat
  | [] => 0
  | x :: r => if hitL wd x = true then r.length + 1 else lastR wd r
theorem lines_one (wd m first : Int) (ws : List Word) (wl : List Int) : ∀ (es : List Nat) (i : Nat), endsF i ws.length es → cntL wd (linesFrom ws wl m first i es) = if first + i ≤ wd ∧ wd < first + ws.length then 1 else 0
  | [], i, h => by
    have : i = ws.length := h
    subst this
    rw [if_neg (by omega)]; rfl
  | e :: es, i, h => by
    obtain ⟨h1, h2, h3⟩ := h
    rw [linesFrom]
    have ih := lines_one wd m first ws wl es e h3
    unfold cntL at ih ⊢
    rw [List.countP_cons, ih]
    unfold hitL
    simp only [decide_eq_true_eq]
    split <;> split <;> (try split) <;> omega
theorem parts_one (wd m : Int) : ∀ (l : List (List Word)) (first : Int), (∀ p ∈ l, Reg (widthsP p) m) → cntL wd (partsP m first l).flatten = if first ≤ wd ∧ wd < first + (tot l : Nat) then 1 else 0
  | [], first, _ => by
    rw [if_neg (by have : tot ([] : List (List Word)) = 0 := rfl; omega)]; rfl
  | p :: l, first, h => by
    rw [partsP, List.flatten_cons, cntL_append, parts_one wd m l _ (fun q hq => h q (by simp [hq]))]
    unfold setP
    rw [lines_one wd m first p _ _ 0 (endsP_full (h p (by simp)))]
    have e : tot (p :: l) = p.length + tot l := by unfold tot; simp
    rw [e]
    split <;> split <;> (try split) <;> omega
theorem pages_sum (wd : Int) (notes : List (List LineP)) (h : Nat) (h4 : 4 ≤ h) : ∀ (f : Nat) (body queue : List LineP), allLines body notes + queue.length ≤ f → ((setPages notes h f body queue).map fun p => cntL wd (p.body ++ p.notes)).sum = cntL wd body + cntL wd (queue ++ body.flatMap (noteLines notes))
  | 0, body, queue, hf => by
    have hb : body = [] := by
      cases body with
      | nil => rfl
      | cons x xs => rw [allLines, List.map_cons, List.sum_cons] at hf; omega
    have hq : queue = [] := List.eq_nil_of_length_eq_zero (by omega)
    subst hb hq
    simp [setPages, cntL]
  | f + 1, body, queue, hf => by
    rw [setPages]
    split
    · rename_i hn
      obtain ⟨rfl, rfl⟩ := hn
      simp [cntL]
    · rename_i hn
      have hl := page_less notes h h4 body queue hn
      obtain ⟨k, a, b, c, d, e⟩ := fillP_spec notes h body 0 (min queue.length (h - 1)) queue (Nat.min_le_left _ _)
      dsimp only at hl ⊢
      rw [List.map_cons, List.sum_cons, pages_sum wd notes h h4 f _ _ (by omega)]
      generalize fillP notes h body 0 (min queue.length (h - 1)) queue = F at *
      have h1 : cntL wd body = cntL wd (body.take F.1) + cntL wd (body.drop F.1) := by rw [← cntL_append, List.take_append_drop]
      have h2 : cntL wd F.2.2 = cntL wd (F.2.2.take F.2.1) + cntL wd (F.2.2.drop F.2.1) := by rw [← cntL_append, List.take_append_drop]
      have h3 : cntL wd (body.flatMap (noteLines notes)) = cntL wd ((body.take F.1).flatMap (noteLines notes)) + cntL wd ((body.drop F.1).flatMap (noteLines notes)) := by rw [← cntL_append, ← List.flatMap_append, List.take_append_drop]
      have h4' : cntL wd F.2.2 = cntL wd queue + cntL wd ((body.take F.1).flatMap (noteLines notes)) := by rw [d, b, Nat.zero_add, cntL_append]
      simp only [cntL_append]
      omega
theorem up_refs (notes : List (List LineP)) : ∀ (j a : Nat), a + j = notes.length → ((up (a : Int) j).map (· - 1)).flatMap (fun n => notes.getD n.toNat []) = (notes.drop a).flatten
  | 0, a, h => by
    rw [up, List.drop_of_length_le (by omega)]; rfl
  | j + 1, a, h => by
    have hl : a < notes.length := by omega
    rw [up, List.map_cons, List.flatMap_cons, show ((a : Int) + 1) = ((a + 1 : Nat) : Int) by omega, up_refs notes j (a + 1) (by omega), List.drop_eq_getElem_cons hl, List.flatten_cons]
    have e : (((a + 1 : Nat) : Int) - 1).toNat = a := by omega
    rw [e, List.getD_eq_getElem?_getD, List.getElem?_eq_getElem hl]; rfl
theorem GText.refs {a b : List (List Word)} (hg : GText a b) {m : Int} (hm : 500 ≤ m ∧ m ≤ 2000) : (bodyP a m).flatMap (noteLines (notesLP a b m)) = (notesLP a b m).flatten := by
  have hf := hg.fine
  have h2 : (bodyP a m).flatMap (·.notes) = (up 0 b.length).map (· - 1) := by
    unfold bodyP
    rw [parts_notes a 0 (fun p hp => hf.reg hm.1 hm.2 (by simp [hp])), notesP_seq, hg.seq]
  have h3 : (bodyP a m).flatMap (noteLines (notesLP a b m)) = ((bodyP a m).flatMap (·.notes)).flatMap (fun n => (notesLP a b m).getD n.toNat []) := by
    rw [List.flatMap_assoc]; rfl
  rw [h3, h2]
  have := up_refs (notesLP a b m) b.length 0 (by rw [Nat.zero_add]; exact (partsP_length m b _).symm)
  rw [List.drop_zero] at this
  exact this
/-- All pages of a text have a word of it on one line. -/
theorem GText.once {a b : List (List Word)} (hg : GText a b) {m h : Int} (hz : Siz m h) (wd : Int) (h0 : 0 ≤ wd) (h1 : wd < (Go.Proofs.YtakaielemicpkaaGreatDoor.tot (a ++ b) : Nat)) : ((okPages a b m h).map fun p => cntL wd (p.body ++ p.notes)).sum = 1 := by
  have hm : 500 ≤ m ∧ m ≤ 2000 := ⟨hz.m1, hz.m2⟩
  rw [(hg.pages hm ⟨hz.h1, hz.h2⟩).1]
  unfold pagesOfText
  rw [pages_sum wd _ _ (by have := hz.h1; omega) _ _ _ (by simp), List.nil_append, hg.refs hm, ← cntL_append]
  have hf := hg.fine
  have e : bodyP a m ++ (notesLP a b m).flatten = (partsP m 0 (a ++ b)).flatten := by
    rw [partsP_append, List.flatten_append, Int.zero_add]; rfl
  rw [e, parts_one wd m (a ++ b) 0 (fun p hp => hf.reg hm.1 hm.2 hp), if_pos (by omega)]
/-- The same over all pages of a book. -/
def sumC (e v wd : Int) (l : List CoreP) : Nat := (l.map fun c => if c.entry = e ∧ c.ver = v then cntL wd (c.body ++ c.notes) else 0).sum
theorem sumC_append (e v wd : Int) (a b : List CoreP) : sumC e v wd (a ++ b) = sumC e v wd a + sumC e v wd b := by unfold sumC; rw [List.map_append, List.sum_append]
theorem sumC_yes (e v wd : Int) (ps : List PageP) : sumC e v wd (ps.map (coreT e v)) = (ps.map fun p => cntL wd (p.body ++ p.notes)).sum := by
  unfold sumC
  rw [List.map_map]
  congr 1
  apply List.map_congr_left
  intro p _
  show (if e = e ∧ v = v then _ else _) = _
  rw [if_pos ⟨rfl, rfl⟩]; rfl
theorem sumC_no (e v wd e' v' : Int) (hne : ¬ (e' = e ∧ v' = v)) : ∀ (ps : List PageP), sumC e v wd (ps.map (coreT e' v')) = 0
  | [] => rfl
  | p :: ps => by
    have ih := sumC_no e v wd e' v' hne ps
    unfold sumC at ih ⊢
    rw [List.map_cons, List.map_cons, List.sum_cons, ih]
    show (if e' = e ∧ v' = v then _ else 0) + 0 = 0
    rw [if_neg hne]
theorem sumV_entry (m h e v wd e' : Int) (hne : e' ≠ e) : ∀ (ts : List TextP) (vs : List Int), sumC e v wd (coreV m h e' vs ts) = 0
  | [], _ => by simp [coreV, sumC]
  | t :: ts, vs => by rw [coreV, sumC_append, sumC_no e v wd e' _ (fun hh => hne hh.1), sumV_entry m h e v wd e' hne ts]
theorem sumV_ver (m h e v wd : Int) : ∀ (ts : List TextP) (vs : List Int), ts.length ≤ vs.length → v ∉ vs → sumC e v wd (coreV m h e vs ts) = 0
  | [], _, _, _ => by simp [coreV, sumC]
  | t :: ts, [], hl, _ => by simp at hl
  | t :: ts, x :: vs, hl, hv => by
    rw [coreV, sumC_append, sumC_no e v wd e _ (fun hh => hv (by have := hh.2; simp at this; simp [this])), List.tail_cons, sumV_ver m h e v wd ts vs (by simpa using hl) (fun hh => hv (by simp [hh]))]
theorem sumV_at (m h e wd : Int) : ∀ (ts : List TextP) (vs : List Int) (k : Nat) (hk : k < ts.length) (hv : k < vs.length), ts.length ≤ vs.length → vs.Nodup → sumC e vs[k] wd (coreV m h e vs ts) = ((okPages ts[k].a ts[k].b m h).map fun p => cntL wd (p.body ++ p.notes)).sum
  | t :: ts, x :: vs, 0, hk, hv, hl, hn => by
    rw [coreV, sumC_append]
    show sumC e x wd ((okPages t.a t.b m h).map (coreT e x)) + sumC e x wd (coreV m h e vs ts) = _
    rw [sumC_yes, sumV_ver m h e x wd ts vs (by simpa using hl) (List.nodup_cons.1 hn).1]; rfl
  | t :: ts, x :: vs, k + 1, hk, hv, hl, hn => by
    have hk' : k < ts.length := by simpa using hk
    have hv' : k < vs.length := by simpa using hv
    rw [coreV, sumC_append]
    show sumC e vs[k] wd ((okPages t.a t.b m h).map (coreT e x)) + sumC e vs[k] wd (coreV m h e vs ts) = _
    rw [sumC_no e _ wd e x (fun hh => (List.nodup_cons.1 hn).1 (by rw [hh.2]; exact List.getElem_mem hv')), Nat.zero_add, sumV_at m h e wd ts vs k hk' hv' (by simpa using hl) (List.nodup_cons.1 hn).2]; rfl
theorem sumS_entry (m h e v wd : Int) : ∀ (l : List SectP), (∀ s ∈ l, s.entry ≠ e) → sumC e v wd (coreS m h l) = 0
  | [], _ => rfl
  | s :: l, hs => by
    show sumC e v wd (coreV m h s.entry s.vers s.texts ++ coreS m h l) = 0
    rw [sumC_append, sumV_entry m h e v wd _ (hs s (by simp)), sumS_entry m h e v wd l (fun x hx => hs x (by simp [hx]))]
theorem versG_nodup (i j : Nat) (hi : i ≤ 3) (hj : j ≤ 2) : (versG i j).Nodup := by
  unfold versG
  refine List.nodup_cons.2 ⟨fun hm => ?_, ?_⟩
  · obtain ⟨k, hk, e⟩ := List.mem_map.1 hm
    have := List.mem_range.1 hk
    omega
  · rw [List.nodup_iff_pairwise_ne, List.pairwise_map]
    refine List.Pairwise.imp_of_mem (R := (· < ·)) (fun {a b} _ _ hab => ?_) List.pairwise_lt_range
    omega
theorem GBk.once {m h : Int} {l : List SectP} (H : GBk m h l) {i k : Nat} (hi : i < l.length) (hk : k < l[i].texts.length) (hv : k < l[i].vers.length) (wd : Int) (h0 : 0 ≤ wd) (h1 : wd < (tot (l[i].texts[k].a ++ l[i].texts[k].b) : Nat)) : sumC l[i].entry (l[i].vers[k]) wd ((pagesB m h l).map PageP.core) = 1 := by
  obtain ⟨f, hf⟩ := H.s
  have hn := H.n
  have hent : ∀ (a : Nat) (ha : a < l.length), ∃ d : Nat, d ≤ 1 ∧ l[a].entry = 2 * (a : Int) + d := fun a ha => (hf a ha).1
  have hsp : l = l.take i ++ l[i] :: l.drop (i + 1) := by rw [← List.drop_eq_getElem_cons hi, List.take_append_drop]
  rw [pagesB_core]
  have hc : coreS m h l = coreS m h (l.take i) ++ (coreV m h l[i].entry l[i].vers l[i].texts ++ coreS m h (l.drop (i + 1))) := by
    conv => lhs; rw [hsp]
    unfold coreS
    rw [List.flatMap_append, List.flatMap_cons]
  rw [hc, sumC_append, sumC_append]
  obtain ⟨d, hd, he⟩ := hent i hi
  rw [sumS_entry m h _ _ wd (l.take i) (fun s hs => by
      obtain ⟨a, ha, rfl⟩ := List.getElem_of_mem hs
      rw [List.length_take] at ha
      rw [List.getElem_take]
      obtain ⟨d', hd', he'⟩ := hent a (by omega)
      omega),
    sumS_entry m h _ _ wd (l.drop (i + 1)) (fun s hs => by
      obtain ⟨a, ha, rfl⟩ := List.getElem_of_mem hs
      rw [List.length_drop] at ha
      rw [List.getElem_drop]
      obtain ⟨d', hd', he'⟩ := hent (i + 1 + a) (by omega)
      omega)]
  obtain ⟨-, -, j, hj, -, hvs, htl, hg⟩ := hf i hi
  rw [sumV_at m h _ wd _ _ k hk hv (by rw [hvs, versG_len, htl]; omega) (by rw [hvs]; exact versG_nodup i j (by omega) hj)]
  rw [(hg _ (List.getElem_mem hk)).once H.siz wd h0 h1]
end Go.Proofs.YtakaielemicpkaaGreatDoor
namespace Go.Proofs.YtakaielemicpkaaGreatDoor
open Go.RowKit
theorem lastR_snoc (wd : Int) : ∀ (r : List LineP) (x : LineP), lastR wd (r ++ [x]) = if lastR wd r = 0 then (if hitL wd x = true then 1 else 0) else lastR wd r + 1
  | [], x => by simp [lastR]
  | y :: r, x => by
    rw [List.cons_append, lastR, lastR, lastR_snoc wd r x]
    by_cases hy : hitL wd y = true
    · rw [if_pos hy, if_pos hy, if_neg (by omega), List.length_append, List.length_singleton]
    · rw [if_neg hy, if_neg hy]
theorem last_none (wd : Int) : ∀ (l : List LineP), cntL wd l = 0 → lastR wd l.reverse = 0 ∧ lineP l wd = none
  | [], _ => ⟨rfl, rfl⟩
  | x :: xs, h => by
    unfold cntL at h
    rw [List.countP_cons] at h
    have hx : ¬ hitL wd x = true := fun e => by rw [if_pos e] at h; omega
    obtain ⟨h1, h2⟩ := last_none wd xs (by unfold cntL; omega)
    refine ⟨by rw [List.reverse_cons, lastR_snoc, h1, if_pos rfl, if_neg hx], ?_⟩
    unfold lineP at h2 ⊢
    rw [List.findIdx?_cons, if_neg (show ¬ (decide (x.fr ≤ wd ∧ wd < x.un)) = true from hx), h2]; rfl
theorem last_one (wd : Int) : ∀ (l : List LineP), cntL wd l = 1 → ∃ i, lineP l wd = some i ∧ lastR wd l.reverse = i + 1
  | [], h => by simp [cntL] at h
  | x :: xs, h => by
    unfold cntL at h
    rw [List.countP_cons] at h
    by_cases hx : hitL wd x = true
    · rw [if_pos hx] at h
      obtain ⟨h1, -⟩ := last_none wd xs (by unfold cntL; omega)
      refine ⟨0, ?_, by rw [List.reverse_cons, lastR_snoc, h1, if_pos rfl, if_pos hx]⟩
      unfold lineP
      rw [List.findIdx?_cons, if_pos (show (decide (x.fr ≤ wd ∧ wd < x.un)) = true from hx)]
    · rw [if_neg hx] at h
      obtain ⟨i, h1, h2⟩ := last_one wd xs (by unfold cntL; omega)
      refine ⟨i + 1, ?_, by rw [List.reverse_cons, lastR_snoc, h2, if_neg (by omega)]⟩
      unfold lineP at h1 ⊢
      rw [List.findIdx?_cons, if_neg (show ¬ (decide (x.fr ≤ wd ∧ wd < x.un)) = true from hx), h1]; rfl
/-- The lines of the pages of a version that have a word. -/
def sumP (e v wd : Int) (ps : List PageP) : Nat := sumC e v wd (ps.map PageP.core)
theorem sumP_cons (e v wd : Int) (p : PageP) (ps : List PageP) : sumP e v wd (p :: ps) = (if p.entry = e ∧ p.ver = v then cntL wd (p.body ++ p.notes) else 0) + sumP e v wd ps := rfl
theorem sumP_append (e v wd : Int) (a b : List PageP) : sumP e v wd (a ++ b) = sumP e v wd a + sumP e v wd b := by unfold sumP; rw [List.map_append, sumC_append]
theorem sumP_take (e v wd : Int) (ps : List PageP) {j : Nat} (hj : j < ps.length) : sumP e v wd (ps.take (j + 1)) = sumP e v wd (ps.take j) + (if ps[j].entry = e ∧ ps[j].ver = v then cntL wd (ps[j].body ++ ps[j].notes) else 0) := by
  rw [List.take_succ_eq_append_getElem hj, sumP_append, sumP_cons]; rfl
theorem where_zero (e v wd : Int) : ∀ (ps : List PageP), sumP e v wd ps = 0 → whereP e v wd ps = none
  | [], _ => rfl
  | p :: ps, h => by
    rw [sumP_cons] at h
    rw [whereP]
    by_cases hm : p.entry = e ∧ p.ver = v
    · rw [if_pos hm] at h ⊢
      rw [(last_none wd _ (show cntL wd (p.body ++ p.notes) = 0 by omega)).2]
      exact where_zero e v wd ps (by omega)
    · rw [if_neg hm] at h ⊢
      exact where_zero e v wd ps (by omega)
theorem where_one {e v wd : Int} {ps : List PageP} (h : sumP e v wd ps = 1) {j : Nat} (hj : j < ps.length) (hm : ps[j].entry = e ∧ ps[j].ver = v) (hc : 0 < cntL wd (ps[j].body ++ ps[j].notes)) :
    whereP e v wd ps = some (ps[j].num, ps[j].suf, lastR wd (ps[j].body ++ ps[j].notes).reverse) := by
  have hs : ps = ps.take j ++ ps[j] :: ps.drop (j + 1) := by rw [← List.drop_eq_getElem_cons hj, List.take_append_drop]
  have h1 : sumP e v wd ps = sumP e v wd (ps.take j) + ((if ps[j].entry = e ∧ ps[j].ver = v then cntL wd (ps[j].body ++ ps[j].notes) else 0) + sumP e v wd (ps.drop (j + 1))) := by
    conv => lhs; rw [hs]
    rw [sumP_append, sumP_cons]
  rw [if_pos hm] at h1
  obtain ⟨i, h2, h3⟩ := last_one wd (ps[j].body ++ ps[j].notes) (by omega)
  conv => lhs; rw [hs]
  rw [whereP_append, where_zero e v wd (ps.take j) (by omega), Option.none_or, whereP, if_pos hm, h2, h3]
end Go.Proofs.YtakaielemicpkaaGreatDoor
namespace Go.Proofs.YtakaielemicpkaaGreatDoor
open Go.RowKit
/-- What Fill says. -/
def fillOk (n : Int) : Bool := decide (4 ≤ n ∧ n ≤ 480 ∧ n % 2 = 0)
def tailOf (r : Nat) : List UInt8 := if r = 2 then [69, 105] else if r = 4 then [105] else if r = 6 then [116] else if r = 8 then [97] else if r = 10 then [69] else []
def mCount (n : Nat) : Nat := if n % 12 = 2 then n / 12 - 1 else n / 12
def fillS (n : Int) : ByteArray := if fillOk n then ⟨(List.replicate (mCount n.toNat) 109 ++ tailOf (n.toNat % 12)).toArray⟩ else ⟨#[]⟩
theorem fillS_no {n : Int} (h : ¬ (4 ≤ n ∧ n ≤ 480 ∧ n % 2 = 0)) : fillS n = ⟨#[]⟩ ∧ fillOk n = false := by
  have : fillOk n = false := decide_eq_false h
  unfold fillS; rw [this]; exact ⟨rfl, rfl⟩
theorem fillS_yes {n : Nat} (h1 : 4 ≤ n) (h2 : n ≤ 480) (h3 : n % 2 = 0) : fillS (n : Int) = ⟨(List.replicate (mCount n) 109 ++ tailOf (n % 12)).toArray⟩ ∧ fillOk (n : Int) = true := by
  have : fillOk (n : Int) = true := decide_eq_true (by omega)
  unfold fillS; rw [this]; exact ⟨rfl, rfl⟩
theorem fill_law : ∀ n : Nat, n < 481 → fillOk (n : Int) = true → valid (fillS (n : Int)) = true ∧ width (fillS (n : Int)) = (n : Int) := by decide +kernel
theorem fill_int (n : Int) (h : fillOk n = true) : valid (fillS n) = true ∧ width (fillS n) = n := by
  have h' := h
  unfold fillOk at h'
  rw [decide_eq_true_iff] at h'
  obtain ⟨m, rfl⟩ := Int.eq_ofNat_of_zero_le (show 0 ≤ n by omega)
  exact fill_law m (by omega) h
theorem sumW_even (l : List UInt8) : sumW l % 2 = 0 := by
  induction l with
  | nil => rfl
  | cons c r ih => have := gw_pos c.toNat c.toNat_lt; simp only [sumW]; omega
theorem valid_lo (s : ByteArray) (h : s.size < 1) : valid s = false := by
  unfold valid; rw [decide_eq_false (by omega)]; rfl
theorem valid_hi (s : ByteArray) (h : 40 < s.size) : valid s = false := by
  unfold valid; rw [decide_eq_false (by omega)]; rfl
theorem valid_mid (s : ByteArray) (h : 1 ≤ s.size) (h2 : s.size ≤ 40) : valid s = okW s.data.toList := by
  unfold valid; rw [decide_eq_true ⟨h, h2⟩]; rfl
theorem width_of (s : ByteArray) : width s = if valid s then sumW s.data.toList else 0 := by
  by_cases h1 : s.size < 1
  · rw [valid_lo s h1]
    have hl : s.data.toList.length = s.size := by simp
    have : s.data.toList = [] := List.eq_nil_of_length_eq_zero (by rw [hl]; omega)
    unfold width
    rw [this]; simp [sumW]
  · by_cases h2 : 40 < s.size
    · rw [valid_hi s h2]; unfold width; rw [if_pos h2]; rfl
    · rw [valid_mid s (by omega) (by omega)]; unfold width; rw [if_neg h2]
theorem fill_width (s : ByteArray) : fillOk (width s) = valid s := by
  rw [Bool.eq_iff_iff]
  constructor
  · intro h
    unfold fillOk at h
    rw [decide_eq_true_iff] at h
    rw [valid_iff, decide_eq_true_iff]; omega
  · intro h
    have hw := width_of s
    rw [h, if_pos rfl] at hw
    unfold valid at h
    rw [Bool.and_eq_true, decide_eq_true_iff] at h
    have h1 := sumW_pos _ h.2
    have h2 := sumW_bd s.data.toList
    have h3 := sumW_even s.data.toList
    have hl : s.data.toList.length = s.size := by simp
    unfold fillOk
    rw [decide_eq_true_iff, hw]
    omega
theorem width_bd (s : ByteArray) : 0 ≤ width s ∧ width s ≤ 480 := by
  unfold width
  have h2 := sumW_bd s.data.toList
  have hl : s.data.toList.length = s.size := by simp
  split
  · omega
  · split <;> omega
end Go.Proofs.YtakaielemicpkaaGreatDoor
namespace Go.Proofs.YtakaielemicpkaaGreatDoor
open Go.RowKit
def fillW (x : Word) : Word := ⟨fillS (width x.s), ⟨#[]⟩, 0, x.n⟩
def fillT (l : List (List Word)) : List (List Word) := l.map (·.map fillW)
def fillX (t : TextP) : TextP := ⟨fillT t.a, fillT t.b⟩
def fillSec (s : SectP) : SectP := ⟨s.entry, s.frozen, s.vers, s.texts.map fillX⟩
theorem fillW_law {x : Word} (h : Good x) : Good (fillW x) ∧ width (fillW x).s = width x.s := by
  have h1 := fill_int (width x.s) (by rw [fill_width]; exact h.1)
  exact ⟨⟨h1.1, Or.inl rfl, Or.inl rfl⟩, h1.2⟩
theorem seqOf_fill (l : List Word) : seqOf (l.map fillW) = seqOf l := by unfold seqOf; rw [List.map_map]; rfl
theorem fillT_flat (l : List (List Word)) : (fillT l).flatten = l.flatten.map fillW := by unfold fillT; rw [List.map_flatten]
theorem tot_fill (l : List (List Word)) : tot (fillT l) = tot l := by unfold tot; rw [fillT_flat, List.length_map]
theorem fillT_mem {l : List (List Word)} {p : List Word} (h : p ∈ fillT l) : ∃ q ∈ l, p = q.map fillW := by
  obtain ⟨q, hq, rfl⟩ := List.mem_map.1 h
  exact ⟨q, hq, rfl⟩
theorem GText.fill {a b : List (List Word)} (H : GText a b) : GText (fillT a) (fillT b) where
  l1 := by unfold fillT; rw [List.length_map]; exact H.l1
  l4 := by unfold fillT; rw [List.length_map]; exact H.l4
  n3 := by unfold fillT; rw [List.length_map]; exact H.n3
  p := fun p hp => by
    obtain ⟨q, hq, rfl⟩ := fillT_mem hp
    obtain ⟨h1, h2, h3⟩ := H.p q hq
    refine ⟨by rw [List.length_map]; exact h1, by rw [List.length_map]; exact h2, fun x hx => ?_⟩
    obtain ⟨y, hy, rfl⟩ := List.mem_map.1 hx
    exact (fillW_law (h3 y hy)).1
  q := fun p hp => by
    obtain ⟨q, hq, rfl⟩ := fillT_mem hp
    obtain ⟨h1, h2, h3⟩ := H.q q hq
    refine ⟨by rw [List.length_map]; exact h1, by rw [List.length_map]; exact h2, fun x hx => ?_⟩
    obtain ⟨y, hy, rfl⟩ := List.mem_map.1 hx
    exact ⟨(fillW_law (h3 y hy).1).1, (h3 y hy).2⟩
  s := by rw [fillT_flat, seqOf_fill, H.s]; unfold fillT; rw [List.length_map]
theorem widths_fill {p : List Word} (h : ∀ x ∈ p, Good x) : widthsP (p.map fillW) = widthsP p := by
  unfold widthsP
  rw [List.map_map]
  exact List.map_congr_left fun x hx => (fillW_law (h x hx)).2
theorem notesP_fill (p : List Word) : notesP (p.map fillW) = notesP p := by
  unfold notesP
  rw [List.filter_map, List.map_map]; rfl
theorem cutL_fill (p : List Word) (i j : Nat) : cutL (p.map fillW) i j = (cutL p i j).map fillW := by unfold cutL; rw [List.map_drop, List.map_take]
theorem lines_fill (p : List Word) (wd : List Int) (m first : Int) : ∀ (es : List Nat) (i : Nat), linesFrom (p.map fillW) wd m first i es = linesFrom p wd m first i es
  | [], _ => rfl
  | e :: es, i => by rw [linesFrom, linesFrom, lines_fill p wd m first es e, cutL_fill, notesP_fill]
theorem setP_fill {p : List Word} (h : ∀ x ∈ p, Good x) (first m : Int) : setP (p.map fillW) first m = setP p first m := by
  unfold setP; rw [widths_fill h, lines_fill]
theorem parts_fill (m : Int) : ∀ (l : List (List Word)) (first : Int), (∀ p ∈ l, ∀ x ∈ p, Good x) → partsP m first (fillT l) = partsP m first l
  | [], _, _ => rfl
  | p :: ps, first, h => by
    show partsP m first (p.map fillW :: fillT ps) = _
    rw [partsP, partsP, setP_fill (h p (List.mem_cons_self ..)), List.length_map, parts_fill m ps _ (fun q hq => h q (List.mem_cons_of_mem _ hq))]
theorem okPages_fill {a b : List (List Word)} (H : GText a b) {m h : Int} (hz : Siz m h) : okPages (fillT a) (fillT b) m h = okPages a b m h := by
  have hm : 500 ≤ m ∧ m ≤ 2000 := ⟨hz.m1, hz.m2⟩
  have hh : 4 ≤ h ∧ h ≤ 100 := ⟨hz.h1, hz.h2⟩
  rw [(H.fill.pages hm hh).1, (H.pages hm hh).1]
  unfold pagesOfText bodyP notesLP
  rw [parts_fill m a 0 (fun p hp => (H.p p hp).2.2), tot_fill, parts_fill m b _ (fun p hp x hx => ((H.q p hp).2.2 x hx).1)]
theorem versB_fill {m h : Int} (hz : Siz m h) (e : Int) : ∀ (ts : List TextP) (k : Nat) (num suf : Int) (vs : List Int), (∀ t ∈ ts, GText t.a t.b) → versB m h e k num suf vs (ts.map fillX) = versB m h e k num suf vs ts
  | [], _, _, _, _, _ => rfl
  | t :: ts, k, num, suf, vs, H => by
    rw [List.map_cons, versB, versB]
    have h1 : okPages (fillX t).a (fillX t).b m h = okPages t.a t.b m h := okPages_fill (H t (List.mem_cons_self ..)) hz
    rw [h1, versB_fill hz e ts _ _ _ _ (fun u hu => H u (List.mem_cons_of_mem _ hu))]
theorem plainB_fill {m h : Int} (hz : Siz m h) {s : SectP} (H : ∀ t ∈ s.texts, GText t.a t.b) : plainB m h (fillSec s) = plainB m h s := by
  obtain ⟨e, f, v, ts⟩ := s
  cases ts with
  | nil => rfl
  | cons t ts => exact congrArg List.length (okPages_fill (H t (List.mem_cons_self ..)) hz)
theorem sectsB_fill {m h : Int} (hz : Siz m h) : ∀ (l : List SectP) (num : Int), (∀ s ∈ l, ∀ t ∈ s.texts, GText t.a t.b) → sectsB m h num (l.map fillSec) = sectsB m h num l
  | [], _, _ => rfl
  | s :: ss, num, H => by
    have hs := H s (List.mem_cons_self ..)
    rw [List.map_cons, sectsB, sectsB, plainB_fill hz hs, sectsB_fill hz ss _ (fun u hu => H u (List.mem_cons_of_mem _ hu))]
    congr 1
    exact versB_fill hz s.entry s.texts 0 num 0 s.vers hs
theorem GBk.fill {m h : Int} {l : List SectP} (H : GBk m h l) : GBk m h (l.map fillSec) := by
  refine ⟨H.m1, H.m2, H.h1, H.h2, by rw [List.length_map]; exact H.n, ?_⟩
  obtain ⟨f, hf⟩ := H.s
  refine ⟨f, fun i hi => ?_⟩
  have hi' : i < l.length := by rw [List.length_map] at hi; exact hi
  rw [List.getElem_map]
  obtain ⟨h1, h2, j, h3, h4, h5, h6, h7⟩ := hf i hi'
  refine ⟨h1, h2, j, h3, h4, h5, by show (List.map fillX _).length = _; rw [List.length_map]; exact h6, fun t ht => ?_⟩
  obtain ⟨u, hu, rfl⟩ := List.mem_map.1 ht
  exact (h7 u hu).fill
theorem GBk.pages_fill {m h : Int} {l : List SectP} (H : GBk m h l) : pagesB m h (l.map fillSec) = pagesB m h l :=
  sectsB_fill H.siz l 0 fun s hs => (H.tame.v s hs).2.2
end Go.Proofs.YtakaielemicpkaaGreatDoor
namespace Go.Proofs.YtakaielemicpkaaGreatDoor
open Go.RowKit
structure SB (Wa : World) (X : Nat) (m h : Int) (v : Value) (l : List SectP) (W : World) : Prop where
  b : ABox W X 27 [.int .i64 m, .int .i64 h, v]
  o : OwnP W (X + 1) 45 v l (fun i => i ≠ X)
  bl : Below X Wa W
theorem SB.to {Wa W W' : World} {X : Nat} {m h : Int} {v : Value} {l : List SectP} (H : SB Wa X m h v l W) (hb : Below W.heap.size W W') : SB Wa X m h v l W' :=
  ⟨H.b.to hb, H.o.below hb, H.bl.trans (hb.mono (by have := H.b.lt; omega))⟩
theorem SB.push {Wa W W1 W' : World} {X : Nat} {m h : Int} {g : Nat} {v v' : Value} {l : List SectP} {s : SectP} (H : SB Wa X m h v l W) (h1 : Below W.heap.size W W1)
    (hown : Own W' (X + 1) 45 v' ((l ++ [s]).map (Av.mk : SectP → Av SectP (fun i => i ≠ X)))) (hg : W1.grownBy W' v.ownBlock) (hat : v.ownBlock = some g ∨ g = W1.heap.size) (hv : v'.ownBlock = some g) :
    SB Wa X m h v' (l ++ [s]) (W'.setCell ⟨X, 2, none⟩ v') := by
  have hz := h1.size
  have hlt := H.b.lt
  have hgX : g ≠ X := by
    rcases hat with e | e
    · exact H.o.at_ g e
    · omega
  have hbk : ABox W' X 27 [.int .i64 m, .int .i64 h, v] := (hg.block _ (by omega) (fun e => H.o.at_ _ e.symm rfl)).trans (H.b.to h1)
  refine ⟨?_, ?_, ?_⟩
  · have := hbk.set 2 v'
    simpa using this
  · exact (OwnP.ofBd hown (fun k hk => by rw [hv] at hk; injection hk with hk; subst hk; exact hgX)).set _ _ _ (fun i hi => hi)
  · exact ((H.bl.trans (h1.mono (by omega))).grown hg (by omega) (fun k hk => by have := (H.o.lt k hk).1; omega)).setCell (p := ⟨X, 2, none⟩) (Nat.le_refl _) _
/-- A section of the second book: the versions lie in the first one, the texts are new. -/
theorem sec_rep {W : World} {e : Int} {fr : Bool} {vs : List Int} {ts : List TextP} {X B M : Nat} {v vt : Value} {Ag : Option Addr} {cg : Nat} (hI : I64 e) (hV : Sl W (fun b => b < M) Ag cg vs) (hM : M ≤ X) (hT : OwnP W B 50 vt ts (Up B)) (hXB : X < B) (hv : ∀ g, v.ownBlock = some g → X < g ∧ g < B) (hvl : vs.length ≤ 10) (htl : ts.length ≤ 10) :
    Rep.R W (fun b => some b ≠ v.ownBlock ∧ b ≠ X) [.int .i64 e, .bool fr, .slice Ag vs.length cg, vt] (⟨e, fr, vs, ts⟩ : SectP) := by
  refine ⟨_, vt, rfl, hI, ⟨Ag, cg, rfl, hV.mono fun i (hi : i < M) _ => ⟨fun e => ?_, by omega⟩, by show vs.length < _; omega⟩, hT.rep (by show ts.length < _; omega) (fun b (hb : B ≤ b) _ => ⟨fun e => ?_, by omega⟩)⟩
  · have := hv i e.symm; omega
  · have := hv b e.symm; omega
/-- A text of fillers: both lists are new. -/
theorem text_rep {W : World} {B Y : Nat} {v va vb : Value} {t : TextP} (ha : OwnP W Y 99 va t.a (Up Y)) (hb : OwnP W Y 99 vb t.b (Up Y)) (hBY : B ≤ Y) (hv : ∀ g, v.ownBlock = some g → g < Y) (hla : t.a.length ≤ 100) (hlb : t.b.length ≤ 100) :
    Rep.R W (fun b => some b ≠ v.ownBlock ∧ Up B b) [va, vb] t := by
  refine ⟨va, vb, rfl, ha.rep (by show t.a.length < _; omega) (fun b (hb' : Y ≤ b) _ => ⟨fun e => ?_, Nat.le_trans hBY hb'⟩), hb.rep (by show t.b.length < _; omega) (fun b (hb' : Y ≤ b) _ => ⟨fun e => ?_, Nat.le_trans hBY hb'⟩)⟩
  · have := hv b e.symm; omega
  · have := hv b e.symm; omega
end Go.Proofs.YtakaielemicpkaaGreatDoor
namespace Go.Proofs.YtakaielemicpkaaGreatDoor
open Go.RowKit
theorem tail_0 (w : World) : (Instr.index 123 (.agg #[.string ⟨#[]⟩, .string ⟨#[69, 105]⟩, .string ⟨#[105]⟩, .string ⟨#[116]⟩, .string ⟨#[97]⟩, .string ⟨#[69]⟩]) (.int .i64 0)).run Tryz.prog w = .ok (.string ⟨#[]⟩) w := by kernel_rfl
theorem tail_1 (w : World) : (Instr.index 123 (.agg #[.string ⟨#[]⟩, .string ⟨#[69, 105]⟩, .string ⟨#[105]⟩, .string ⟨#[116]⟩, .string ⟨#[97]⟩, .string ⟨#[69]⟩]) (.int .i64 1)).run Tryz.prog w = .ok (.string ⟨#[69, 105]⟩) w := by kernel_rfl
theorem tail_2 (w : World) : (Instr.index 123 (.agg #[.string ⟨#[]⟩, .string ⟨#[69, 105]⟩, .string ⟨#[105]⟩, .string ⟨#[116]⟩, .string ⟨#[97]⟩, .string ⟨#[69]⟩]) (.int .i64 2)).run Tryz.prog w = .ok (.string ⟨#[105]⟩) w := by kernel_rfl
theorem tail_3 (w : World) : (Instr.index 123 (.agg #[.string ⟨#[]⟩, .string ⟨#[69, 105]⟩, .string ⟨#[105]⟩, .string ⟨#[116]⟩, .string ⟨#[97]⟩, .string ⟨#[69]⟩]) (.int .i64 3)).run Tryz.prog w = .ok (.string ⟨#[116]⟩) w := by kernel_rfl
theorem tail_4 (w : World) : (Instr.index 123 (.agg #[.string ⟨#[]⟩, .string ⟨#[69, 105]⟩, .string ⟨#[105]⟩, .string ⟨#[116]⟩, .string ⟨#[97]⟩, .string ⟨#[69]⟩]) (.int .i64 4)).run Tryz.prog w = .ok (.string ⟨#[97]⟩) w := by kernel_rfl
theorem tail_5 (w : World) : (Instr.index 123 (.agg #[.string ⟨#[]⟩, .string ⟨#[69, 105]⟩, .string ⟨#[105]⟩, .string ⟨#[116]⟩, .string ⟨#[97]⟩, .string ⟨#[69]⟩]) (.int .i64 5)).run Tryz.prog w = .ok (.string ⟨#[69]⟩) w := by kernel_rfl
theorem ret_sb {a b : ByteArray} {c d : Bool} (h : a = b) (k : c = d) : Ending.returned (.tuple #[.string a, .bool c]) = .returned (.tuple #[.string b, .bool d]) := by rw [h, k]
theorem str_cat (a b : List UInt8) : (⟨(a ++ b).toArray⟩ : ByteArray) = ⟨a.toArray⟩ ++ ⟨b.toArray⟩ := by
  apply ByteArray.ext; simp
theorem str_eq {a b : ByteArray} (h : a = b) : Value.string a = .string b := by rw [h]
theorem rep_list : ∀ c, Lib.repeatL [109] c = List.replicate c 109
  | 0 => rfl
  | c + 1 => by rw [Lib.repeatL, rep_list c, List.replicate_succ]; rfl
theorem rep_m (z : Int) (c : Nat) (w : World) (hz : z = (c : Int)) (hc : c ≤ 100) :
    Calls Tryz.prog 82 #[.string ⟨#[109]⟩, .int .i64 z] w fun e w' => e = .returned (.string ⟨(List.replicate c 109).toArray⟩) ∧ Below w.heap.size w w' := by
  subst hz
  have h1 : (⟨#[109]⟩ : ByteArray).size * c ≤ 140737488355328 := by show 1 * c ≤ _; omega
  refine (Tryz.strings_Repeat ⟨#[109]⟩ c w (by omega) h1).mono fun e w' ⟨he, hb⟩ => ⟨?_, hb⟩
  rw [he]
  have : Lib.repeatL (⟨#[109]⟩ : ByteArray).data.toList c = List.replicate c 109 := rep_list c
  rw [this]
set_option maxHeartbeats 400000 in
theorem gfill_any (n : Int) (hn : I64 n) (w : World) :
    Calls Tryz.prog 59 #[.int .i64 n] w fun e w' => e = .returned (.tuple #[.string (fillS n), .bool (fillOk n)]) ∧ Below w.heap.size w w' := by
  by_cases h : 4 ≤ n ∧ n ≤ 480 ∧ n % 2 = 0
  · obtain ⟨h1, h2, h3⟩ := h
    obtain ⟨m, rfl⟩ := Int.eq_ofNat_of_zero_le (show 0 ≤ n by omega)
    have E := Lib.hid (fillS_yes (n := m) (by omega) (by omega) (by omega)).1
    have F := Lib.hid (fillS_yes (n := m) (by omega) (by omega) (by omega)).2
    have g1 : ¬ (m : Int) < 4 := by omega
    have g2 : ¬ (480 : Int) < (m : Int) := by omega
    have g3 : (m : Int) % 2 = 0 := by omega
    have g4 : (0 : Int) ≤ (m : Int) := by omega
    have g5 : (m : Int) ≤ 480 := by omega
    have hr : m % 12 = 0 ∨ m % 12 = 2 ∨ m % 12 = 4 ∨ m % 12 = 6 ∨ m % 12 = 8 ∨ m % 12 = 10 := by omega
    clear h1 h2 h3
    go_enter Tryz.func59, Tryz.ntmps59
    rcases hr with hr | hr | hr | hr | hr | hr
    · have e12 : (m : Int) % 12 = 0 := by omega
      have hI := fun w => tail_0 w
      have HT := Lib.hid (show mCount m = (m / 12) ∧ tailOf (m % 12) = [] from ⟨by unfold mCount; rw [hr]; rfl, by rw [hr]; rfl⟩)
      go_wp2_with fail
      go_quiet (fail)
      go_wp2_with fail
      refine (rep_m _ (m / 12) _ (by omega) (by omega)).mono ?_
      rintro e w1 ⟨rfl, hb⟩
      have Hb := Lib.hid ((Below.dn (Below.refl w.heap.size w) _).trans hb)
      have hc : (m / 12) ≤ 100 := by omega
      clear hI hb
      generalize (m / 12) = c at *
      have hc2 : c ≤ 9223372036854775807 := by omega
      go_wp2_with fail
      go_ret2
      exact ⟨ret_sb (by rw [E.out, HT.out.1, HT.out.2]; first | exact (str_cat _ _).symm | (apply ByteArray.ext; simp; done)) F.out.symm, Hb.out⟩
    · have e12 : (m : Int) % 12 = 2 := by omega
      have hI := fun w => tail_1 w
      have HT := Lib.hid (show mCount m = (m / 12 - 1) ∧ tailOf (m % 12) = [69, 105] from ⟨by unfold mCount; rw [hr]; rfl, by rw [hr]; rfl⟩)
      go_wp2_with fail
      go_quiet (fail)
      go_wp2_with fail
      refine (rep_m _ (m / 12 - 1) _ (by omega) (by omega)).mono ?_
      rintro e w1 ⟨rfl, hb⟩
      have Hb := Lib.hid ((Below.dn (Below.refl w.heap.size w) _).trans hb)
      have hc : (m / 12 - 1) ≤ 100 := by omega
      clear hI hb
      generalize (m / 12 - 1) = c at *
      have hc2 : c + 2 ≤ 9223372036854775807 := by omega
      go_wp2_with fail
      go_ret2
      exact ⟨ret_sb (by rw [E.out, HT.out.1, HT.out.2]; first | exact (str_cat _ _).symm | (apply ByteArray.ext; simp; done)) F.out.symm, Hb.out⟩
    · have e12 : (m : Int) % 12 = 4 := by omega
      have hI := fun w => tail_2 w
      have HT := Lib.hid (show mCount m = (m / 12) ∧ tailOf (m % 12) = [105] from ⟨by unfold mCount; rw [hr]; rfl, by rw [hr]; rfl⟩)
      go_wp2_with fail
      go_quiet (fail)
      go_wp2_with fail
      refine (rep_m _ (m / 12) _ (by omega) (by omega)).mono ?_
      rintro e w1 ⟨rfl, hb⟩
      have Hb := Lib.hid ((Below.dn (Below.refl w.heap.size w) _).trans hb)
      have hc : (m / 12) ≤ 100 := by omega
      clear hI hb
      generalize (m / 12) = c at *
      have hc2 : c + 1 ≤ 9223372036854775807 := by omega
      go_wp2_with fail
      go_ret2
      exact ⟨ret_sb (by rw [E.out, HT.out.1, HT.out.2]; first | exact (str_cat _ _).symm | (apply ByteArray.ext; simp; done)) F.out.symm, Hb.out⟩
    · have e12 : (m : Int) % 12 = 6 := by omega
      have hI := fun w => tail_3 w
      have HT := Lib.hid (show mCount m = (m / 12) ∧ tailOf (m % 12) = [116] from ⟨by unfold mCount; rw [hr]; rfl, by rw [hr]; rfl⟩)
      go_wp2_with fail
      go_quiet (fail)
      go_wp2_with fail
      refine (rep_m _ (m / 12) _ (by omega) (by omega)).mono ?_
      rintro e w1 ⟨rfl, hb⟩
      have Hb := Lib.hid ((Below.dn (Below.refl w.heap.size w) _).trans hb)
      have hc : (m / 12) ≤ 100 := by omega
      clear hI hb
      generalize (m / 12) = c at *
      have hc2 : c + 1 ≤ 9223372036854775807 := by omega
      go_wp2_with fail
      go_ret2
      exact ⟨ret_sb (by rw [E.out, HT.out.1, HT.out.2]; first | exact (str_cat _ _).symm | (apply ByteArray.ext; simp; done)) F.out.symm, Hb.out⟩
    · have e12 : (m : Int) % 12 = 8 := by omega
      have hI := fun w => tail_4 w
      have HT := Lib.hid (show mCount m = (m / 12) ∧ tailOf (m % 12) = [97] from ⟨by unfold mCount; rw [hr]; rfl, by rw [hr]; rfl⟩)
      go_wp2_with fail
      go_quiet (fail)
      go_wp2_with fail
      refine (rep_m _ (m / 12) _ (by omega) (by omega)).mono ?_
      rintro e w1 ⟨rfl, hb⟩
      have Hb := Lib.hid ((Below.dn (Below.refl w.heap.size w) _).trans hb)
      have hc : (m / 12) ≤ 100 := by omega
      clear hI hb
      generalize (m / 12) = c at *
      have hc2 : c + 1 ≤ 9223372036854775807 := by omega
      go_wp2_with fail
      go_ret2
      exact ⟨ret_sb (by rw [E.out, HT.out.1, HT.out.2]; first | exact (str_cat _ _).symm | (apply ByteArray.ext; simp; done)) F.out.symm, Hb.out⟩
    · have e12 : (m : Int) % 12 = 10 := by omega
      have hI := fun w => tail_5 w
      have HT := Lib.hid (show mCount m = (m / 12) ∧ tailOf (m % 12) = [69] from ⟨by unfold mCount; rw [hr]; rfl, by rw [hr]; rfl⟩)
      go_wp2_with fail
      go_quiet (fail)
      go_wp2_with fail
      refine (rep_m _ (m / 12) _ (by omega) (by omega)).mono ?_
      rintro e w1 ⟨rfl, hb⟩
      have Hb := Lib.hid ((Below.dn (Below.refl w.heap.size w) _).trans hb)
      have hc : (m / 12) ≤ 100 := by omega
      clear hI hb
      generalize (m / 12) = c at *
      have hc2 : c + 1 ≤ 9223372036854775807 := by omega
      go_wp2_with fail
      go_ret2
      exact ⟨ret_sb (by rw [E.out, HT.out.1, HT.out.2]; first | exact (str_cat _ _).symm | (apply ByteArray.ext; simp; done)) F.out.symm, Hb.out⟩
  · have E := Lib.hid (fillS_no h).1
    have F := Lib.hid (fillS_no h).2
    have g4 : -9223372036854775808 ≤ n := hn.1
    have g5 : n ≤ 9223372036854775807 := hn.2
    by_cases h1 : n < 4
    · go_enter Tryz.func59, Tryz.ntmps59
      go_wp2_with fail
      go_ret2
      exact ⟨ret_sb E.out.symm F.out.symm, Below.refl _ _⟩
    · by_cases h2 : 480 < n
      · go_enter Tryz.func59, Tryz.ntmps59
        go_wp2_with fail
        go_ret2
        exact ⟨ret_sb E.out.symm F.out.symm, Below.refl _ _⟩
      · have h3 : n % 2 = 1 := by omega
        have h5 : (0 : Int) ≤ n := by omega
        clear h
        go_enter Tryz.func59, Tryz.ntmps59
        go_wp2_with fail
        go_ret2
        exact ⟨ret_sb E.out.symm F.out.symm, Below.refl _ _⟩
end Go.Proofs.YtakaielemicpkaaGreatDoor
namespace Go.Proofs.YtakaielemicpkaaGreatDoor
open Go.RowKit
theorem fill_size (n : Int) : (fillS n).size ≤ 40 := by
  by_cases h : fillOk n = true
  · exact valid_size (fill_int n h).1
  · unfold fillS; rw [if_neg h]; decide
theorem fillW_ok {x : Word} (h : x.ok) : (fillW x).ok :=
  ⟨by have := fill_size (width x.s); show (fillS (width x.s)).size ≤ _; unfold maxLen; omega, by show (⟨#[]⟩ : ByteArray).size ≤ _; decide, ⟨by show (-9223372036854775808 : Int) ≤ 0; decide, by show (0 : Int) ≤ 9223372036854775807; decide⟩, h.2.2.2⟩
theorem fillP_take (p : List Word) (j : Nat) (h : j < p.length) : (p.take (j + 1)).map fillW = (p.take j).map fillW ++ [fillW p[j]] := by
  rw [List.take_succ_eq_append_getElem h, List.map_append]; rfl
theorem fillT_take (l : List (List Word)) (k : Nat) (h : k < l.length) : fillT (l.take (k + 1)) = fillT (l.take k) ++ [l[k].map fillW] := by
  unfold fillT; rw [List.take_succ_eq_append_getElem h, List.map_append]; rfl
set_option maxRecDepth 100000 in
set_option maxHeartbeats 4000000 in
theorem fillers_any (A : Option Addr) (c : Nat) (l : List (List Word)) (w : World) (hs : Sl w (fun b => b < w.heap.size) A c l) (hsh : ShortT l) (hT : Laid w) :
    Calls Tryz.prog 29 #[.slice A l.length c] w fun e w' => ∃ v, e = .returned v ∧ OwnP w' w.heap.size 99 v (fillT l) (Up w.heap.size) ∧ Below w.heap.size w w' := by
  have HS := Lib.hid hs
  have HSH := Lib.hid hsh
  have HT := Lib.hid hT
  have h63 : l.length ≤ 1048576 := hsh.1
  have hlc : l.length ≤ c := hs.1
  obtain ⟨n, hn⟩ : ∃ n, l.length = n := ⟨_, rfl⟩
  have HN := Lib.hid hn
  rw [hn] at h63 hlc ⊢
  clear hs hsh hT hn
  go_enter Tryz.func29, Tryz.ntmps29
  go_wp2_with fail
  go_loopw [3, 4, 5, 6, 7, 8] (fun v3 i _ _ _ _ wr => ∃ (k : Nat) (mm : List (List Word)), k ≤ n ∧ i = .int .i64 k ∧ Hid (fillT (l.take k) = mm) ∧ mm.length = k ∧ Hid (OwnP wr w.heap.size 99 v3 mm (Up w.heap.size)) ∧ Hid (Below w.heap.size w wr)) (fun _ i _ _ _ _ _ => n - (intOf i).toNat)
  case atStart => exact ⟨0, [], Nat.zero_le _, rfl, Lib.hid rfl, rfl, Lib.hid (OwnP.nil _ _ _ _), Lib.hid (Below.refl _ _)⟩
  case round =>
    obtain ⟨k, mm, hk, rfl, HM, hml, HO, HB⟩ := hrel
    obtain ⟨A3, c3, hv3, -, -⟩ := HO.out.len
    rw [hml] at hv3
    subst hv3
    have HML := Lib.hid hml
    clear hml
    by_cases hlt : k < n
    · have hkl' : k < l.length := by rw [HN.out]; exact hlt
      obtain ⟨b, o, A1, c1, rfl, _, hbl, k0, hp⟩ := part_at (HS.out.to HB.out) hkl'
      have hkl : (k : Int) < (n : Int) := by omega
      have hk0 : (0 : Int) ≤ (k : Int) := by omega
      have HPL := Lib.hid (HSH.out.2 _ (List.getElem_mem hkl'))
      have HTK := Lib.hid (fillT_take l k hkl')
      obtain ⟨p, hpp⟩ : ∃ p, l[k] = p := ⟨_, rfl⟩
      rw [hpp] at k0 hp HPL HTK
      have HP := Lib.hid hp
      obtain ⟨np, hnp⟩ : ∃ np, p.length = np := ⟨_, rfl⟩
      have HNP := Lib.hid hnp
      have hpl : np ≤ 1048576 := by rw [← hnp]; exact HPL.out
      have hpc : np ≤ c1 := by rw [← hnp]; exact hp.1
      rw [hnp] at k0
      have HK0 := Lib.hid k0
      have HLB := Lib.hid hbl
      clear hpp hp hnp hkl'
      go_wp2_with fail
      obtain ⟨wo, rfl⟩ : ∃ wo : World, wo = wr := ⟨_, rfl⟩
      clear k0
      go_loopw [5, 6, 7, 8] (fun v i _ _ wr => ∃ (j : Nat) (q : List Word), j ≤ np ∧ i = .int .i64 j ∧ Hid ((p.take j).map fillW = q) ∧ q.length = j ∧ Hid (Own wr wo.heap.size 104 v q) ∧ Hid (Below wo.heap.size wo wr)) (fun _ i _ _ _ => np - (intOf i).toNat)
      case atStart => exact ⟨0, [], Nat.zero_le _, rfl, Lib.hid rfl, rfl, Lib.hid (Own.nil _ _ _), Lib.hid (Below.refl _ _)⟩
      case round =>
        obtain ⟨j, q, hj, rfl, HQ, hql, HO5, HB5⟩ := hrel
        obtain ⟨A5, c5, hv5, -, -⟩ := HO5.out.form
        rw [hql] at hv5
        subst hv5
        have HQL := Lib.hid hql
        have k0 := (HB5.out.cell (p := ⟨b, o + k, none⟩) HLB.out).trans HK0.out
        clear hql
        by_cases hjl : j < np
        · have hjp : j < p.length := by rw [HNP.out]; exact hjl
          obtain ⟨b3, o3, rfl, _, hbl3, hok, d0, d1, d2, d3⟩ := word_at HP.out hjp
          have hj1 : (j : Int) < (np : Int) := by omega
          have hj0 : (0 : Int) ≤ (j : Int) := by omega
          have HPT := Lib.hid (fillP_take p j hjp)
          obtain ⟨x, hx⟩ : ∃ x, p[j] = x := ⟨_, rfl⟩
          rw [hx] at hok d0 d1 d2 d3 HPT
          have HOK := Lib.hid (fillW_ok hok)
          have e0 := (HB5.out.cell (p := ⟨b3, o3 + j * 4, none⟩) hbl3).trans d0
          have HD := Lib.hid d3
          have HL3 := Lib.hid hbl3
          clear d0 d1 d2 d3 hok hx hjp hbl3
          go_wp2_with fail
          refine (width_any x.s _ ((HT.out.to HB.out).to HB5.out)).mono ?_
          rintro e w' ⟨rfl, rfl⟩
          obtain ⟨z0, z1⟩ := width_bd x.s
          have HW : Hid (fillW x = ⟨fillS (width x.s), ⟨#[]⟩, 0, x.n⟩) := rfl
          obtain ⟨wd, hwd⟩ : ∃ wd, width x.s = wd := ⟨_, rfl⟩
          rw [hwd] at z0 z1 HW ⊢
          clear hwd
          go_wp2_with fail
          refine (gfill_any wd ⟨by omega, by omega⟩ _).mono ?_
          rintro e w6 ⟨rfl, hb6⟩
          have HB6 := Lib.hid (HB5.out.trans (hb6.mono HB5.out.size))
          have HO6 := Lib.hid (HO5.out.below hb6)
          obtain ⟨fs, hfs⟩ : ∃ fs, fillS wd = fs := ⟨_, rfl⟩
          rw [hfs] at HW ⊢
          have g0 := (HB6.out.cell (p := ⟨b, o + k, none⟩) HLB.out).trans HK0.out
          have g3 := (HB6.out.cell (p := ⟨b3, o3 + j * 4 + 3, none⟩) HL3.out).trans HD.out
          have hq20 : q.length ≤ 1048576 := by have := HQL.out; omega
          have HRW : Hid ((⟨fs, ⟨#[]⟩, 0, x.n⟩ : Word).ok) := Lib.hid (HW.out ▸ HOK.out)
          have HQ2 : Hid ((p.take (j + 1)).map fillW = q ++ [⟨fs, ⟨#[]⟩, 0, x.n⟩]) := Lib.hid (by rw [HPT.out, HQ.out, HW.out])
          clear hb6 hfs k0 e0
          go_wp2_with (first
            | (at_builtin; refine wpList_push (α := Word) _ rfl (.tmp 37) (.tmp 48) 99 rfl wo.heap.size 104 (.agg #[.string ⟨#[]⟩, .string ⟨#[]⟩, .int .i64 0, .int .i64 0]) 48 Tryz.underlying99 word_infoB rfl (show 0 < 4 by decide) (.slice A5 j c5) q rfl (HO6.out.alloc _) w6.heap.size _ ⟨fs, ⟨#[]⟩, 0, x.n⟩ (0, 0) 104 rfl (heap_alloc_new w6 _) ⟨rfl, HRW.out⟩ (by omega) (by omega) (by have := HB6.out.size; simp; omega) _ rfl ?_; rw [HQL.out]; intro g cap w8 ho8 hg8 hat8 hlt8; have HO8 := Lib.hid ho8; have HB8 := Lib.hid (below_push HB6.out HO6.out HB6.out.size hg8); clear ho8 hg8 hat8 hlt8)
            | fail)
          go_roundw
          case rel => exact ⟨j + 1, _, by omega, by go_num, HQ2, by rw [List.length_append, HQL.out]; rfl, HO8, HB8⟩
          case measure => simp [intOf]; omega
        · obtain rfl : j = np := by omega
          have HU := Lib.hid (HO5.out.upF (B := wo.heap.size) (Nat.le_refl _))
          have HE : Hid (fillT (l.take (k + 1)) = mm ++ [q]) := Lib.hid (by rw [HTK.out, HM.out, ← HQ.out, List.take_of_length_le (Nat.le_of_eq HNP.out)])
          have hjn : ¬ (j : Int) < (j : Int) := by omega
          have HO2 : Hid (OwnP (wr.alloc (.cells #[.slice A5 j c5] 99)) w.heap.size 99 (.slice A3 k c3) mm (Up w.heap.size)) := Lib.hid ((HO.out.below HB5.out).below ((Below.refl _ _).alloc (Nat.le_refl _) _))
          have HR2 : Hid (Rep.R (wr.alloc (.cells #[.slice A5 j c5] 99)) (fun b => some b ≠ (Value.slice A3 k c3).ownBlock) [.slice A5 j c5] (⟨q⟩ : Av (List Word) (Up w.heap.size))) := Lib.hid (Rep.keep (α := List Word) (HU.out.rep (by have := HQL.out; omega) (fun i hi hil => ⟨fun e => by have := (HO.out.lt i e.symm).2; omega, Nat.le_trans HB.out.size hi⟩)) (Kept.all ((Below.refl _ _).alloc (Nat.le_refl _) _)))
          have HBZ : Hid (Below w.heap.size w (wr.alloc (.cells #[.slice A5 j c5] 99))) := Lib.hid ((HB.out.trans (HB5.out.mono HB.out.size)).trans ((Below.refl _ _).alloc (by have := HB.out.size; have := HB5.out.size; omega) _))
          have hmm : mm.length ≤ 1048576 := by have := HML.out; omega
          go_wp2_with (first
            | (at_builtin; refine wpList_push _ (α := Av (List Word) (Up w.heap.size)) rfl (.tmp 50) (.tmp 52) 48 rfl w.heap.size 99 (.slice none 0 0) 24 Tryz.underlying48 par_info rfl (show 0 < 1 by decide) (.slice A3 k c3) (mm.map Av.mk) rfl HO2.out.own wr.heap.size #[.slice A5 j c5] ⟨q⟩ (0, 0) _ rfl (heap_alloc_new wr _) HR2.out (by rw [List.length_map]; omega) (by rw [List.length_map]; omega) HBZ.out.size _ rfl ?_; rw [List.length_map, HML.out]; intro g cap w3 ho3 hg3 hat3 hlt3;
                have HO3 := Lib.hid (HO2.out.pushed ho3 (fun q hq => by cases hq; exact hat3) HBZ.out.size);
                have HB3 : Hid (Below w.heap.size w w3) := Lib.hid (HBZ.out.grown hg3 HBZ.out.size (fun q hq => (HO2.out.lt q hq).1));
                clear ho3 hg3 hat3 hlt3 HO2 HR2 HBZ)
            | fail)
          go_roundw
          case rel => exact ⟨k + 1, _, by omega, by go_num, HE, by rw [List.length_append, HML.out]; rfl, HO3, HB3⟩
          case measure => simp [intOf]; omega
    · have HF : Hid (fillT l = mm) := Lib.hid (by rw [← HM.out, List.take_of_length_le (by rw [HN.out]; omega)])
      go_wp2_with fail
      go_ret
      exact ⟨_, rfl, by rw [HF.out]; exact HO.out, HB.out⟩
end Go.Proofs.YtakaielemicpkaaGreatDoor
namespace Go.Proofs.YtakaielemicpkaaGreatDoor
open Go.RowKit
theorem not_take {l : List Int} (h : l.Nodup) {q : Nat} (hq : q < l.length) : l[q] ∉ l.take q := by
  intro hm
  obtain ⟨i, hi, e⟩ := List.getElem_of_mem hm
  rw [List.length_take] at hi
  rw [List.getElem_take] at e
  exact List.pairwise_iff_getElem.1 h i q (by omega) hq (by omega) e
set_option maxRecDepth 100000 in
set_option maxHeartbeats 2000000 in
theorem checkVersions_any {m h : Int} (hz : Siz m h) (A : Option Addr) (n c : Nat) (s : SectP) (Ag An : Option Addr) (cg cn nv : Nat) (w : World) (hT : Laid w) (hv : Sl w (fun b => b < w.heap.size) Ag cg s.vers) (ht : Sl w (fun b => b < w.heap.size) An cn s.texts) (hnv : s.vers.length = nv) (hnt : s.texts.length = nv) (h4 : nv ≤ 4) (hr : ∀ v ∈ s.vers, 0 ≤ v ∧ v ≤ 2147483647) (hnd : s.vers.Nodup) (hg : ∀ t ∈ s.texts, GText t.a t.b) :
    Calls Tryz.prog 49 #[.agg #[.int .i64 m, .int .i64 h, .slice A n c], .agg #[.int .i64 s.entry, .bool s.frozen, .slice Ag nv cg, .slice An nv cn]] w fun e w' => e = .returned (.int .i64 0) ∧ Below w.heap.size w w' := by
  obtain ⟨wb, hwb⟩ : ∃ wb, (w.alloc (.cells #[.int .i64 m, .int .i64 h, .slice A n c] 27)).alloc (.cells #[.int .i64 s.entry, .bool s.frozen, .slice Ag nv cg, .slice An nv cn] 45) = wb := ⟨_, rfl⟩
  have hba : Below w.heap.size w wb := by rw [← hwb]; exact ((Below.refl _ _).alloc (Nat.le_refl _) _).alloc (by simp) _
  have hx0 : ABox wb w.heap.size 27 [.int .i64 m, .int .i64 h, .slice A n c] := by rw [← hwb]; exact (Below.heap_alloc _ _ _ (by simp)).trans (heap_alloc_new w _)
  have hx1 : ABox wb (w.heap.size + 1) 45 [.int .i64 s.entry, .bool s.frozen, .slice Ag nv cg, .slice An nv cn] := by rw [← hwb]; exact heap_at (by simp)
  have hgc : nv ≤ cg := by rw [← hnv]; exact hv.1
  have hnc : nv ≤ cn := by rw [← hnt]; exact ht.1
  have HV := Lib.hid (hv.to hba)
  have HX := Lib.hid (ht.to hba)
  have HTB := Lib.hid (hT.to hba)
  have HNV := Lib.hid hnv
  have HNX := Lib.hid hnt
  have HR := Lib.hid hr
  have HND := Lib.hid hnd
  have HG := Lib.hid hg
  have HZ := Lib.hid hz
  have HBA := Lib.hid hba
  have HX0 := Lib.hid hx0
  have HX1 := Lib.hid hx1
  clear hv ht hT hnv hnt hr hnd hg hz hba hx0 hx1
  go_enter Tryz.func49, Tryz.ntmps49
  go_upto_region 1 with (fail)
  try rw [hwb]
  clear hwb
  have y2 := HX1.out.cell 2 rfl
  go_wp2_with fail
  clear y2
  go_loopw [11] (fun i wr => ∃ q : Nat, q ≤ nv ∧ i = .int .i64 q ∧ Below wb.heap.size wb wr) (fun i _ => nv - (intOf i).toNat)
  case atStart => exact ⟨0, by omega, rfl, Below.refl _ _⟩
  case round =>
    obtain ⟨q, hq, rfl, hbl⟩ := hrel
    by_cases hlt : q < nv
    · have hqv : q < s.vers.length := by rw [HNV.out]; exact hlt
      have hqt : q < s.texts.length := by rw [HNX.out]; exact hlt
      obtain ⟨bt, ot, Aa, ca, Ab, cb, rfl, -, hbt, e0, e1, ht1, ht2⟩ := text_at (HX.out.to hbl) hqt
      obtain ⟨bv, ov, rfl, -, hbv, -, e9⟩ := int_at (HV.out.to hbl) hqv
      have hgt := HG.out _ (List.getElem_mem hqt)
      have hrv := HR.out _ (List.getElem_mem hqv)
      have hni := not_take HND.out hqv
      have hct := containsI_any (some ⟨bv, ov, none⟩) cg (s.vers.take q) s.vers[q] wr ((HV.out.to hbl).take q (by omega)) (by rw [List.length_take]; omega)
      rw [List.length_take_of_le (by omega), decide_eq_false hni] at hct
      obtain ⟨y, hy⟩ : ∃ y, s.texts[q] = y := ⟨_, rfl⟩
      obtain ⟨vq, hvq⟩ : ∃ vq, s.vers[q] = vq := ⟨_, rfl⟩
      rw [hvq] at e9 hrv hct
      rw [hy] at e0 e1 ht1 ht2 hgt
      have hwi := within_any vq 0 2147483647 wr
      rw [decide_eq_true hrv] at hwi
      have HWI := Lib.hid hwi
      have HCT := Lib.hid hct
      have HGT := Lib.hid hgt
      have HT1 := Lib.hid ht1
      have HT2 := Lib.hid ht2
      have HBL := Lib.hid hbl
      have y2 := (HX1.out.to hbl).cell 2 rfl
      have hqI : (q : Int) < (nv : Int) := by omega
      have hqc : q ≤ cg := by omega
      clear hy hvq hrv hni hct hwi hgt ht1 ht2 hbl hqv hqt
      go_wp2_with fail
      refine HWI.out.mono ?_
      rintro e w1 ⟨rfl, rfl⟩
      go_wp2_with fail
      refine HCT.out.mono ?_
      rintro e w1 ⟨rfl, rfl⟩
      go_upto_region 8 with (fail)
      clear y2
      refine wp_region_rely [6] (fun i => if i = 6 then SP.val (.int .i64 0) else SP.any) 8 (by kernel_rfl) (by kernel_rfl) ?_
      intro T _ g hg hgm
      have a0 : ∀ x, (g x).cell? ⟨w.heap.size, 0, none⟩ = some (.int .i64 m) := fun x => ((HX0.out.to HBL.out).to (hg x)).cell 0 rfl
      have a1 : ∀ x, (g x).cell? ⟨w.heap.size, 1, none⟩ = some (.int .i64 h) := fun x => ((HX0.out.to HBL.out).to (hg x)).cell 1 rfl
      have a2 : ∀ x, (g x).cell? ⟨w.heap.size, 2, none⟩ = some (.slice A n c) := fun x => ((HX0.out.to HBL.out).to (hg x)).cell 2 rfl
      have a3 : ∀ x, (g x).cell? ⟨w.heap.size + 1, 3, none⟩ = some (.slice (some ⟨bt, ot, none⟩) nv cn) := fun x => ((HX1.out.to HBL.out).to (hg x)).cell 3 rfl
      have a4 : ∀ x, (g x).cell? ⟨bt, ot + q * 2, none⟩ = some (.slice Aa y.a.length ca) := fun x => ((hg x).cell (p := ⟨bt, ot + q * 2, none⟩) hbt).trans e0
      have a5 : ∀ x, (g x).cell? ⟨bt, ot + q * 2 + 1, none⟩ = some (.slice Ab y.b.length cb) := fun x => ((hg x).cell (p := ⟨bt, ot + q * 2 + 1, none⟩) hbt).trans e1
      repeat (refine wpR_pure (by rfl) fun Kq hq => ?_; go_big_quiet_step (fail); refine wpQuiet_nil (hq _ ?_); clear hq Kq)
      refine wpR_busy (by rfl) (by rfl) (fun x hG K Q hK => ?_) (fun v x hG hp Kr hr => ?_)
      · go_simp
        go_at_call 68
        refine (wrong_any Aa Ab ca cb y.a y.b m h (.slice A n c) rfl (g x) ((HTB.out.to HBL.out).to (hg x)) (HT1.out.to (hg x)) (HT2.out.to (hg x)) ⟨by have := HZ.out.h1; omega, by have := HZ.out.h2; omega⟩ (by have := HGT.out.l4; omega) (by have := HGT.out.n3; omega)).mono ?_
        rintro e V1 ⟨rfl, hb1⟩
        rw [HGT.out.wrong ⟨HZ.out.m1, HZ.out.m2⟩ ⟨HZ.out.h1, HZ.out.h2⟩]
        go_simp
        exact hK _ _ hb1 rfl
      have hp : v = .int .i64 0 := hp
      subst hp
      (try clear hp); clear hG
      simp only [Act.put, List.setIfInBounds_toArray, List.set_cons_zero, List.set_cons_succ]
      refine hr _ ?_
      clear hr Kr
      repeat (refine wpR_pure (by rfl) fun Kq hq => ?_; go_big_quiet_step (fail); refine wpQuiet_nil (hq _ ?_); clear hq Kq)
      refine wpR_end (by kernel_rfl) (fun x hG => ?_) _
      clear a0 a1 a2 a3 a4 a5 e0 e1 e9
      have HB2 := Lib.hid (HBL.out.trans ((hg x).mono HBL.out.size))
      clear hG hg hgm
      unfold Exit.then
      generalize g x = w6 at *
      clear g
      go_wp2_with fail
      go_roundw
      case rel => exact ⟨q + 1, by omega, by go_num, HB2.out⟩
      case measure => simp [intOf]; omega
    · obtain rfl : q = nv := by omega
      have HBE := Lib.hid (HBA.out.trans (hbl.mono HBA.out.size))
      clear hbl
      go_wp2_with fail
      go_ret
      exact ⟨rfl, HBE.out⟩
end Go.Proofs.YtakaielemicpkaaGreatDoor
namespace Go.Proofs.YtakaielemicpkaaGreatDoor
open Go.RowKit
theorem versG_range {i j : Nat} (hi : i ≤ 3) (hj : j ≤ 2) : ∀ v ∈ versG i j, 0 ≤ v ∧ v ≤ 2147483647 := by
  intro v hv
  unfold versG at hv
  rcases List.mem_cons.1 hv with rfl | hv
  · omega
  · obtain ⟨k, hk, rfl⟩ := List.mem_map.1 hv
    rw [List.mem_range] at hk
    omega
/-- What Check asks of a section. -/
structure ChkS (f k : Nat) (l : List SectP) (s : SectP) : Prop where
  e0 : 0 ≤ s.entry
  e1 : s.entry ≤ 65535
  fd : findP l s.entry = (k : Int)
  fr : s.frozen = decide (k < f)
  n1 : 1 ≤ s.vers.length
  n3 : s.vers.length ≤ 3
  nt : s.texts.length = s.vers.length
  nf : s.frozen = false → s.vers.length = 1
  rg : ∀ v ∈ s.vers, 0 ≤ v ∧ v ≤ 2147483647
  nd : s.vers.Nodup
  g : ∀ t ∈ s.texts, GText t.a t.b
theorem GBk.chk {m h : Int} {l : List SectP} (H : GBk m h l) : ∃ f, ∀ k (hk : k < l.length), ChkS f k l l[k] := by
  obtain ⟨f, hf⟩ := H.s
  have hn := H.n
  refine ⟨f, fun k hk => ?_⟩
  obtain ⟨⟨d, hd, he⟩, h2, j, h3, h4, h5, h6, h7⟩ := hf k hk
  have hvl : l[k].vers.length = j + 1 := by rw [h5, versG_len]
  refine ⟨by omega, by omega, findP_hit hk rfl fun i hi e => ?_, h2, by omega, by omega, by omega, fun hfr => by have := h4 hfr; omega, by rw [h5]; exact versG_range (by omega) h3, by rw [h5]; exact versG_nodup k j (by omega) h3, h7⟩
  obtain ⟨⟨d2, hd2, he2⟩, -⟩ := hf i (by omega)
  omega
set_option maxRecDepth 100000 in
set_option maxHeartbeats 4000000 in
theorem check_any {m h : Int} {l : List SectP} (H : GBk m h l) (A : Option Addr) (c : Nat) (w : World) (hT : Laid w) (hs : Sl w (fun b => b < w.heap.size) A c l) (hB : BookOk w m h A c l) :
    Calls Tryz.prog 24 #[.agg #[.int .i64 m, .int .i64 h, .slice A l.length c]] w fun e w' => e = .returned (.int .i64 0) ∧ Below w.heap.size w w' := by
  obtain ⟨n, hn⟩ : ∃ n, l.length = n := ⟨_, rfl⟩
  obtain ⟨wb, hwb⟩ : ∃ wb, w.alloc (.cells #[.int .i64 m, .int .i64 h, .slice A n c] 27) = wb := ⟨_, rfl⟩
  have hba : Below w.heap.size w wb := by rw [← hwb]; exact (Below.refl _ _).alloc (Nat.le_refl _) _
  have hx0 : ABox wb w.heap.size 27 [.int .i64 m, .int .i64 h, .slice A n c] := by rw [← hwb]; exact heap_alloc_new w _
  obtain ⟨f, hf⟩ := H.chk
  have HF := Lib.hid hf
  have hn5 : n ≤ 4 := by rw [← hn]; exact H.n
  have hnc : n ≤ c := by rw [← hn]; exact hs.1
  have hm1 : 500 ≤ m := H.m1
  have hm2 : m ≤ 2000 := by have := H.m2; omega
  have hh1 : 4 ≤ h := H.h1
  have hh2 : h ≤ 100 := by have := H.h2; omega
  have hpl : (pagesB m h l).length ≤ 3920 := H.tame.pages H.siz
  have HZ := Lib.hid H.siz
  have HS := Lib.hid (hs.to hba)
  have HTB := Lib.hid (hT.to hba)
  have HBO := Lib.hid (hB.to hba)
  have HN := Lib.hid hn
  have HBA := Lib.hid hba
  have HX0 := Lib.hid hx0
  have HW1 := Lib.hid (within_any m 500 2000 wb)
  have HW2 := Lib.hid (within_any h 4 100 wb)
  have HD1 := Lib.hid (decide_eq_true (p := 500 ≤ m ∧ m ≤ 2000) ⟨hm1, hm2⟩)
  have HD2 := Lib.hid (decide_eq_true (p := 4 ≤ h ∧ h ≤ 100) ⟨hh1, hh2⟩)
  have HPL := Lib.hid hpl
  rw [hn]
  clear hm1 hm2 hh1 hh2 hpl hs hT hB hn hba hx0 hf H
  go_enter Tryz.func24, Tryz.ntmps24
  go_upto_region 1 with (fail)
  try rw [hwb]
  clear hwb
  have x0 := HX0.out.cell 0 rfl
  have x1 := HX0.out.cell 1 rfl
  have x2 := HX0.out.cell 2 rfl
  go_wp2_with fail
  refine HW1.out.mono ?_
  rintro e w1 ⟨rfl, rfl⟩
  rw [HD1.out]
  go_wp2_with fail
  refine HW2.out.mono ?_
  rintro e w1 ⟨rfl, rfl⟩
  rw [HD2.out]
  go_wp2_with fail
  clear x0 x1 x2
  go_loopw [3, 20] (fun o i wr => ∃ (k : Nat) (ob : Bool), k ≤ n ∧ i = .int .i64 k ∧ o = .bool ob ∧ (ob = true → f < k) ∧ Below wb.heap.size wb wr) (fun _ i _ => n - (intOf i).toNat)
  case atStart => exact ⟨0, false, by omega, rfl, rfl, by simp, Below.refl _ _⟩
  case round =>
    obtain ⟨k, ob, hk, rfl, rfl, hob, hbl⟩ := hrel
    by_cases hlt : k < n
    · have hkl : k < l.length := by rw [HN.out]; exact hlt
      obtain ⟨b, o, Ag, cg, An, cn, rfl, -, hbb, e0, e1, e2, e3, hg1, hn1, -⟩ := sect_at (HS.out.to hbl) hkl
      have hc := HF.out k hkl
      obtain ⟨x, hx⟩ : ∃ x, l[k] = x := ⟨_, rfl⟩
      rw [hx] at e0 e1 e2 e3 hg1 hn1 hc
      obtain ⟨nv, hnv⟩ : ∃ nv, x.vers.length = nv := ⟨_, rfl⟩
      obtain ⟨fr, hfr⟩ : ∃ fr, x.frozen = fr := ⟨_, rfl⟩
      have hnt : x.texts.length = nv := hc.nt.trans hnv
      rw [hnv] at e2
      rw [hnt] at e3
      rw [hfr] at e1
      have hcases : (fr = true ∧ ob = false ∧ 1 < nv) ∨ (fr = true ∧ ob = false ∧ nv = 1) ∨ (fr = false ∧ ob = false ∧ nv = 1 ∧ f ≤ k) ∨ (fr = false ∧ ob = true ∧ nv = 1 ∧ f ≤ k) := by
        have h1 := hc.fr
        have h2 := hc.nf
        have h3 := hc.n1
        rw [hfr] at h1 h2
        rw [hnv] at h2 h3
        cases fr with
        | true =>
          have h4 : k < f := of_decide_eq_true h1.symm
          cases ob with
          | true => have := hob rfl; omega
          | false => rcases Nat.lt_or_ge 1 nv with h5 | h5
                     · exact Or.inl ⟨rfl, rfl, h5⟩
                     · exact Or.inr (Or.inl ⟨rfl, rfl, by omega⟩)
        | false =>
          have h4 : ¬ k < f := of_decide_eq_false h1.symm
          have h5 := h2 rfl
          cases ob with
          | true => exact Or.inr (Or.inr (Or.inr ⟨rfl, rfl, h5, by omega⟩))
          | false => exact Or.inr (Or.inr (Or.inl ⟨rfl, rfl, h5, by omega⟩))
      have hI0 : ¬ (nv : Int) = 0 := by have := hc.n1; omega
      have hI3 : nv ≤ 3 := by have := hc.n3; omega
      have HC := Lib.hid hc
      have HCS := Lib.hid hcases
      have HNV := Lib.hid hnv
      have HNX := Lib.hid hnt
      have HFR := Lib.hid hfr
      obtain ⟨X, hX⟩ : ∃ X, wr.heap.size = X := ⟨_, rfl⟩
      obtain ⟨w2, hw2⟩ : ∃ w2, wr.alloc (.cells #[.int .i64 x.entry, .bool fr, .slice Ag nv cg, .slice An nv cn] 45) = w2 := ⟨_, rfl⟩
      have hb2 : Below wr.heap.size wr w2 := by rw [← hw2]; exact (Below.refl _ _).alloc (Nat.le_refl _) _
      have hxx : ABox w2 X 45 [.int .i64 x.entry, .bool fr, .slice Ag nv cg, .slice An nv cn] := by rw [← hw2, ← hX]; exact heap_alloc_new wr _
      have HB2 := Lib.hid (hbl.trans (hb2.mono hbl.size))
      have HX2 := Lib.hid (HX0.out.to HB2.out)
      have HXX := Lib.hid hxx
      have HV2 := Lib.hid (hg1.to hb2)
      have HT2 := Lib.hid (hn1.to hb2)
      have hkI : (k : Int) < (n : Int) := by omega
      have hwi := within_any x.entry 0 65535 w2
      rw [decide_eq_true ⟨hc.e0, hc.e1⟩] at hwi
      have hfd := find_any (some ⟨b, o, none⟩) c l m h x.entry w2 (HS.out.to HB2.out) (by rw [HN.out]; omega)
      rw [HN.out, hc.fd] at hfd
      have HWI := Lib.hid hwi
      have HFD := Lib.hid hfd
      clear hx hc hcases hnv hnt hfr hob hg1 hn1 hkl hwi hfd
      go_upto_region 7 with (fail)
      try rw [hX]
      try rw [hw2]
      clear hX hw2 hb2 hxx hbl e0 e1 e2 e3
      have p0 := HXX.out.cell 0 rfl
      go_wp2_with fail
      refine HWI.out.mono ?_
      rintro e w3 ⟨rfl, rfl⟩
      have x0 := HX2.out.cell 0 rfl
      have x1 := HX2.out.cell 1 rfl
      have x2 := HX2.out.cell 2 rfl
      go_wp2_with fail
      refine HFD.out.mono ?_
      rintro e w3 ⟨rfl, hb3⟩
      have HB3 := Lib.hid (HB2.out.trans (hb3.mono HB2.out.size))
      have HXX3 := Lib.hid (HXX.out.to hb3)
      have HX3 := Lib.hid (HX2.out.to hb3)
      have hcv := checkVersions_any HZ.out (some ⟨b, o, none⟩) n c x Ag An cg cn nv w3 (HTB.out.to HB3.out) (HV2.out.to hb3) (HT2.out.to hb3) HNV.out HNX.out (by omega) HC.out.rg HC.out.nd HC.out.g
      rw [HFR.out] at hcv
      have HCV := Lib.hid hcv
      clear hb3 hcv p0 x0 x1 x2
      have p0 := HXX3.out.cell 0 rfl
      have p1 := HXX3.out.cell 1 rfl
      have p2 := HXX3.out.cell 2 rfl
      have p3 := HXX3.out.cell 3 rfl
      have x0 := HX3.out.cell 0 rfl
      have x1 := HX3.out.cell 1 rfl
      have x2 := HX3.out.cell 2 rfl
      have hI100 : ¬ (100 : Int) < (nv : Int) := by omega
      rcases HCS.out with ⟨rfl, rfl, h1⟩ | ⟨rfl, rfl, h1⟩ | ⟨rfl, rfl, h1, h2⟩ | ⟨rfl, rfl, h1, h2⟩
      · have hI1 : (1 : Int) < (nv : Int) := by omega
        clear HCS
        go_wp2_with fail
        refine HCV.out.mono ?_
        rintro e w4 ⟨rfl, hb4⟩
        have HB4 := Lib.hid (HB3.out.trans (hb4.mono HB3.out.size))
        have p1 := (HXX3.out.to hb4).cell 1 rfl
        clear hb4 x0 x1 x2
        go_wp2_with fail
        go_roundw
        case rel => exact ⟨k + 1, _, by omega, by go_num, rfl, by (first | (intro hh; cases hh; done) | (intro _; omega)), HB4.out⟩
        case measure => simp [intOf]; omega
      · have hI1 : ¬ (1 : Int) < (nv : Int) := by omega
        clear HCS h1
        go_wp2_with fail
        refine HCV.out.mono ?_
        rintro e w4 ⟨rfl, hb4⟩
        have HB4 := Lib.hid (HB3.out.trans (hb4.mono HB3.out.size))
        have p1 := (HXX3.out.to hb4).cell 1 rfl
        clear hb4 x0 x1 x2
        go_wp2_with fail
        go_roundw
        case rel => exact ⟨k + 1, _, by omega, by go_num, rfl, by (first | (intro hh; cases hh; done) | (intro _; omega)), HB4.out⟩
        case measure => simp [intOf]; omega
      · have hI1 : ¬ (1 : Int) < (nv : Int) := by omega
        clear HCS h1
        go_wp2_with fail
        refine HCV.out.mono ?_
        rintro e w4 ⟨rfl, hb4⟩
        have HB4 := Lib.hid (HB3.out.trans (hb4.mono HB3.out.size))
        have p1 := (HXX3.out.to hb4).cell 1 rfl
        clear hb4 x0 x1 x2
        go_wp2_with fail
        go_roundw
        case rel => exact ⟨k + 1, _, by omega, by go_num, rfl, by (first | (intro hh; cases hh; done) | (intro _; omega)), HB4.out⟩
        case measure => simp [intOf]; omega
      · have hI1 : ¬ (1 : Int) < (nv : Int) := by omega
        clear HCS h1
        go_wp2_with fail
        refine HCV.out.mono ?_
        rintro e w4 ⟨rfl, hb4⟩
        have HB4 := Lib.hid (HB3.out.trans (hb4.mono HB3.out.size))
        have p1 := (HXX3.out.to hb4).cell 1 rfl
        clear hb4 x0 x1 x2
        go_wp2_with fail
        go_roundw
        case rel => exact ⟨k + 1, _, by omega, by go_num, rfl, by (first | (intro hh; cases hh; done) | (intro _; omega)), HB4.out⟩
        case measure => simp [intOf]; omega
    · obtain rfl : k = n := by omega
      have hp := pages_any (HBO.out.to hbl)
      rw [HN.out] at hp
      have HP := Lib.hid hp
      have HBL := Lib.hid hbl
      have x0 := (HX0.out.to hbl).cell 0 rfl
      have x1 := (HX0.out.to hbl).cell 1 rfl
      have x2 := (HX0.out.to hbl).cell 2 rfl
      clear hp hbl hob
      go_wp2_with fail
      refine HP.out.mono ?_
      rintro e W3 ⟨v, R, rfl, ho, -, hb⟩
      obtain ⟨Ap, cp, rfl, -⟩ := ho.plain.sl
      obtain ⟨P, hP⟩ : ∃ P, (pagesB m h l).length = P := ⟨_, rfl⟩
      have hPI : ¬ (16384 : Int) < (P : Int) := by have := HPL.out; omega
      have HBE := Lib.hid (HBA.out.trans ((HBL.out.trans (hb.mono HBL.out.size)).mono HBA.out.size))
      rw [hP]
      clear hP ho hb x0 x1 x2
      go_wp2_with fail
      go_ret
      exact ⟨rfl, HBE.out⟩
end Go.Proofs.YtakaielemicpkaaGreatDoor
