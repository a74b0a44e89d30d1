/- Copies of lines. No condition but sizes.
A region that draws its order, whose operations and callees leave all older memory as it is: one walk serves every order. No condition.
A list that is taken from in front and grown behind: what is left of a row of one's own. No condition.
How many lines a page has left; whether the next line fits. No condition but sizes.
Elements all of whose memory lies in a given set of blocks. No condition.
What stands in the boxes of a page's filling: the body, the height, the queue, the pages. No condition.
A region that draws its order: first what asks nothing of memory, in any order; then the others, once, in the order of the text. No condition.
Helpers for the walks of the references. No condition.
The reference's generator of texts: its words and its paragraphs. No condition but that the numbers fit.
Around, SameStrings. No condition.
The reference's generator of texts: Pick, last, refer. No condition but that the numbers fit.
The reference's generator of texts: refer. No condition but that the numbers fit.
The reference's generator of texts. No condition. -/
import Derived.Test.YtakaielemicpkaaGreatDoorBZc4
import Derived.BigQuiet
namespace Go.Proofs.YtakaielemicpkaaGreatDoor
open Go.RowKit
theorem iclone_any (A : Option Addr) (c n : Nat) (l : List Int) (w : World) (hl : Sl w (fun b => b < w.heap.size) A c l) (hn : l.length = n) (hsz : n ≤ 1073741824) :
  Calls Tryz.prog 81 #[.slice A n c] w fun e w' => ∃ v, e = .returned v ∧ Own w' w.heap.size 3 v l ∧ Below w.heap.size w w' := by
 have hq := fun w' => Lib.run_eql_slice_nil (P := Tryz.prog) w' 22 3 A n c 0 0 Tryz.underlying22
 cases A with
 | none =>
  have hl0 : l = [] := by
   by_cases h0 : 0 < l.length
   ·obtain ⟨b, o, e, _⟩ := hl.2.2 h0; cases e
   ·exact List.eq_nil_of_length_eq_zero (by omega)
  subst hl0
  simp only [Option.isNone_none] at hq
  go_enter Tryz.func81, Tryz.ntmps81
  go_wp2_with fail
  go_ret
  exact ⟨_, rfl, Own.nil _ _ _, Below.refl _ _⟩
 | some a =>
  simp only [Option.isNone_some] at hq
  go_enter Tryz.func81, Tryz.ntmps81
  go_wp2_with (at_builtin; refine wpList_cat (α := Int) _ rfl (.tmp 5) (.tmp 6) 22 rfl w.heap.size 3 (.int .i64 0) 8 Tryz.underlying22 int_info rfl (by decide) (.slice (some ⟨w.heap.size, 0, none⟩) 0 0) [] rfl (Own.made w _ _ (Nat.le_refl _)) (some a) c n l rfl hn (fun b => b < w.heap.size) (hl.keep (Kept.all ((Below.refl _ _).alloc (Nat.le_refl _) _)) (by simp)) (by intro i (hi : i < w.heap.size) _ e; simp [Value.ownBlock] at e; omega) (by simp; omega) (by simp; omega) (by simp) ?_; intro v2 w2 hown2 hg2 _)
  go_ret
  exact ⟨_, rfl, hown2, below_cat ((Below.refl _ _).alloc (Nat.le_refl _) _) (Own.made (α := Int) w _ _ (Nat.le_refl _)) (by simp) hg2⟩
def SmallL (l : List LineP) : Prop := ∀ x ∈ l, x.gaps.length ≤ 100000 ∧ x.notes.length ≤ 100000
theorem Own.lc {w : World} {base : Nat} {e : TypeId} {v : Value} {l : List LineP} (h : Own w base e v l) :
  ∃ rows : List LC, rows.length = l.length ∧ Own w base e v rows ∧ ∀ i (h1 : i < rows.length) (h2 : i < l.length), rows[i].fr = l[i].fr ∧ rows[i].un = l[i].un := by
 obtain ⟨xs, hx, ho, hr⟩ := id h
 have key : ∀ n, n ≤ l.length → ∃ rows : List LC, rows.length = n ∧ ∀ i (h1 : i < rows.length) (h2 : i < l.length), rows[i].fr = l[i].fr ∧ rows[i].un = l[i].un ∧ Rep.R w (fun b => some b ≠ v.ownBlock) ((xs.drop (i * 4)).take 4) rows[i] := by
  intro n
  induction n with
  | zero => exact fun _ => ⟨[], rfl, fun i h => absurd h (Nat.not_lt_zero _)⟩
  | succ n ih =>
   intro hn
   obtain ⟨rows, h1, h2⟩ := ih (by omega)
   have hrn := hr n hn
   have hone := Rep.one hrn
   obtain ⟨va, vb, e1, -, -⟩ := hrn
   refine ⟨rows ++ [⟨l[n].fr, l[n].un, va, vb⟩], by rw [List.length_append, h1]; rfl, fun i h3 h4 => ?_⟩
   by_cases hi : i < rows.length
   ·rw [List.getElem_append_left hi]
    exact h2 i hi h4
   ·obtain rfl : i = n := by rw [List.length_append, List.length_singleton] at h3; omega
    have e2 : (rows ++ [(⟨l[i].fr, l[i].un, va, vb⟩ : LC)])[i] = ⟨l[i].fr, l[i].un, va, vb⟩ := by rw [List.getElem_append_right (by omega)]; simp [h1]
    rw [e2]
    refine ⟨rfl, rfl, e1, ?_, ?_⟩
    ·exact hone va (by rw [e1]; simp)
    ·exact hone vb (by rw [e1]; simp)
 obtain ⟨rows, h1, h2⟩ := key l.length (Nat.le_refl _)
 exact ⟨rows, h1, ⟨xs, by rw [h1]; exact hx, ho, fun i hi => (h2 i hi (by omega)).2.2⟩, fun i hi1 hi2 => ⟨(h2 i hi1 hi2).1, (h2 i hi1 hi2).2.1⟩⟩
structure CL (W : World) (base g : Nat) (rows : List LC) (l : List LineP) (k : Nat) : Prop where
 own : Own W base 88 (.slice (some ⟨g, 0, none⟩) l.length l.length) rows
 len : rows.length = l.length
 f : ∀ i (h1 : i < rows.length) (h2 : i < l.length), rows[i].fr = l[i].fr ∧ rows[i].un = l[i].un ∧ (i < k → Rep.R W (fun b => base ≤ b ∧ b ≠ g) [rows[i].gv] l[i].gaps ∧ Rep.R W (fun b => base ≤ b ∧ b ≠ g) [rows[i].nv] l[i].notes)
section
variable {W W' : World} {base g : Nat} {rows : List LC} {l : List LineP} {k : Nat}
theorem CL.to (h : CL W base g rows l k) (hb : Below W.heap.size W W') : CL W' base g rows l k :=
 ⟨h.own.below hb, h.len, fun i h1 h2 => ⟨(h.f i h1 h2).1, (h.f i h1 h2).2.1, fun hk => ⟨Rep.keep ((h.f i h1 h2).2.2 hk).1 (Kept.all hb), Rep.keep ((h.f i h1 h2).2.2 hk).2 (Kept.all hb)⟩⟩⟩
theorem CL.cells (h : CL W base g rows l k) {i : Nat} (hi : i < l.length) (j : Nat) (hj : j < 4) : ∃ u, W.cell? ⟨g, i * 4 + j, none⟩ = some u ∧ W.frozen? ⟨g, i * 4 + j, none⟩ = false := by
 obtain ⟨g', cap, es, e1, -, -, -, hr, hc, hf⟩ := h.own.at_ (k := i) (by rw [h.len]; exact hi)
 injection e1 with q1 _ _
 injection q1 with q1
 injection q1 with q1 _ _
 subst q1
 have hl : es.length = 4 := Rep.len hr
 exact ⟨es[j], hc j _ (List.getElem?_eq_getElem (by omega)), hf _⟩
theorem CL.set (h : CL W base g rows l k) (hk : k < l.length) {v1 v2 : Value} (h1 : Rep.R W (fun b => base ≤ b ∧ b ≠ g) [v1] l[k].gaps) (h2 : Rep.R W (fun b => base ≤ b ∧ b ≠ g) [v2] l[k].notes) :
  ∃ rows', CL ((W.setCell ⟨g, k * 4 + 2, none⟩ v1).setCell ⟨g, k * 4 + 3, none⟩ v2) base g rows' l (k + 1) := by
 have hkr : k < rows.length := by rw [h.len]; exact hk
 have o1 := Rep.one h1 v1 (by simp)
 have o2 := Rep.one h2 v2 (by simp)
 obtain ⟨a1, b1⟩ := h.own.setg k 2 hkr (show 2 < 4 by omega) v1 o1 {rows[k] with gv := v1} (fun es he => by
  obtain ⟨rfl, q1, q2⟩ := he
  exact ⟨rfl, o1, q2⟩) (o := k * 4 + 2) rfl
 have hkr2 : k < (rows.set k {rows[k] with gv := v1}).length := by rw [List.length_set]; exact hkr
 obtain ⟨a2, b2⟩ := a1.setg k 3 hkr2 (show 3 < 4 by omega) v2 o2 {rows[k] with gv := v1, nv := v2} (fun es he => by
  rw [List.getElem_set_self] at he
  obtain ⟨rfl, q1, q2⟩ := he
  exact ⟨rfl, o1, o2⟩) (o := k * 4 + 3) rfl
 have b3 := grown_trans2 b1 b2
 have kp : Kept (fun b => base ≤ b ∧ b ≠ g) W ((W.setCell ⟨g, k * 4 + 2, none⟩ v1).setCell ⟨g, k * 4 + 3, none⟩ v2) := Kept.grown b3 (fun i hi => by simpa using hi.2)
 refine ⟨_, a2, by rw [List.length_set, List.length_set]; exact h.len, fun i h3 h4 => ?_⟩
 have h5 : i < rows.length := by rw [h.len]; exact h4
 by_cases hik : k = i
 ·subst hik
  rw [List.getElem_set_self]
  exact ⟨(h.f k h5 h4).1, (h.f k h5 h4).2.1, fun _ => ⟨Rep.keep h1 kp, Rep.keep h2 kp⟩⟩
 ·rw [List.getElem_set_ne hik, List.getElem_set_ne hik]
  have := h.f i h5 h4
  exact ⟨this.1, this.2.1, fun hk2 => ⟨Rep.keep (this.2.2 (by omega)).1 kp, Rep.keep (this.2.2 (by omega)).2 kp⟩⟩
theorem CL.done (h : CL W base g rows l l.length) : Own W base 88 (.slice (some ⟨g, 0, none⟩) l.length l.length) (l.map (Bd.mk : LineP → Bd LineP base)) := by
 have h1 := h.own.conv (α := Bd LineP base) (l.map Bd.mk) (by rw [List.length_map, h.len]) rfl (fun i h1 h2 es he => by
  have h3 : i < l.length := by rw [← h.len]; exact h1
  obtain ⟨rfl, -, -⟩ := he
  obtain ⟨e1, e2, e3⟩ := h.f i h1 h3
  obtain ⟨e4, e5⟩ := e3 h3
  rw [List.getElem_map, e1, e2]
  refine ⟨_, _, rfl, Rep.mono e4 (fun b hb _ => ⟨?_, hb.1⟩), Rep.mono e5 (fun b hb _ => ⟨?_, hb.1⟩)⟩
  ·simpa [Value.ownBlock] using hb.2
  ·simpa [Value.ownBlock] using hb.2)
 exact h1
end
set_option maxRecDepth 100000 in
set_option maxHeartbeats 8000000 in
theorem pclone_any (A : Option Addr) (c n : Nat) (l : List LineP) (w : World) (hl : Sl w (fun b => b < w.heap.size) A c l) (hn : l.length = n) (hsz : n ≤ 1048576) (hsm : SmallL l) :
  Calls Tryz.prog 118 #[.slice A n c] w fun e w' => ∃ v, e = .returned v ∧ Own w' w.heap.size 88 v (l.map (Bd.mk : LineP → Bd LineP w.heap.size)) ∧ Below w.heap.size w w' := by
 subst hn
 by_cases h0 : l.length = 0
 ·obtain rfl : l = [] := List.eq_nil_of_length_eq_zero h0
  clear hsm hsz hl
  go_enter Tryz.func118, Tryz.ntmps118
  go_wp2_with fail
  go_ret
  exact ⟨_, rfl, Own.nil _ _ _, Below.refl _ _⟩
 have HSL := Lib.hid hl
 have HSMA := Lib.hid hsm
 have h1 : ((l.length : Int) == 0) = false := by rw [beq_eq_false_iff_ne]; omega
 have HN0 := Lib.hid h0
 clear hl hsm h0
 go_enter Tryz.func118, Tryz.ntmps118
 have hba : Below w.heap.size w (w.alloc (.cells (madeCells #[.int .i64 0, .int .i64 0, .slice none 0 0, .slice none 0 0] (l.length * 4)) 88)) := (Below.refl _ _).alloc (Nat.le_refl _) _
 have HBA := Lib.hid hba
 have HSL1 : Hid (Sl (w.alloc (.cells (madeCells #[.int .i64 0, .int .i64 0, .slice none 0 0, .slice none 0 0] (l.length * 4)) 88)) (fun b => b ≠ w.heap.size) A c l) := Lib.hid ((HSL.out.keep (Kept.all hba) hba.size).mono (fun i hi _ => Nat.ne_of_lt hi))
 clear hba
 go_upto_region 5 with (first
  |(refine wpList_make rfl 34 (.tmp 9) (.tmp 9) rfl 88 (.agg #[.int .i64 0, .int .i64 0, .slice none 0 0, .slice none 0 0]) 4 64 Tryz.underlying34 line_info l.length rfl rfl (by omega) (by omega) ?_)
  |(refine wpList_copy_rep (α := LineP) rfl (.tmp 11) (.tmp 12) 34 34 rfl 88 Tryz.underlying34 (by kernel_rfl) w.heap.size l.length _ A c l rfl rfl rfl HSL1.out (by have := HN0.out; omega) (heap_alloc_new w _) (size_madeCells _ _) w.heap.size (Nat.le_refl _) (by unfold maxLen; omega) ?_; intro w2 ho2 hg2)
  | fail)
 have HB2 : Hid (Below w.heap.size w w2) := Lib.hid (HBA.out.grown hg2 (by simp) (fun k hk => by cases hk; exact Nat.le_refl _))
 obtain ⟨rows, hrl, hro, hrf⟩ := ho2.lc
 have HC0 : Hid (CL w2 w.heap.size w.heap.size rows l 0) := Lib.hid ⟨hro, hrl, fun i h1 h2 => ⟨(hrf i h1 h2).1, (hrf i h1 h2).2, fun h => absurd h (Nat.not_lt_zero _)⟩⟩
 have HGL : Hid (w.heap.size < w2.heap.size) := Lib.hid (by have := hg2.size; simp at this; omega)
 clear hrl hro hrf ho2 hg2 HSL1 HBA
 obtain ⟨g, hg⟩ : ∃ g, w.heap.size = g := ⟨_, rfl⟩
 have HGE := Lib.hid hg
 rw [hg] at HC0 HB2 HGL HSL ⊢
 clear hg
 go_wp2_with fail
 go_loopw [16] (fun vi wr => ∃ (k : Nat) (rows : List LC), k ≤ l.length ∧ vi = .int .i64 (k : Int) ∧ Hid (CL wr g g rows l k) ∧ Hid (Below g w wr ∧ g < wr.heap.size)) (fun vi _ => l.length - (intOf vi).toNat)
 case atStart => exact ⟨0, rows, Nat.zero_le _, rfl, HC0, Lib.hid ⟨HB2.out, HGL.out⟩⟩
 case round =>
  clear HC0 HB2 HGL
  clear rows w2
  obtain ⟨k, rows, hk, rfl, HCL, HB⟩ := hrel
  by_cases hlt : k < l.length
  ·have hkl : (k : Int) < (l.length : Int) := by omega
   have hk0 : (0 : Int) ≤ (k : Int) := by omega
   have HSLw : Hid (Sl wr (fun b => b < g) A c l) := Lib.hid (HSL.out.keep (Kept.below HB.out.1 (fun i hi => hi)) HB.out.1.size)
   obtain ⟨b, o, Ag, cg, An, cn, hA, hbg, hbl, -, -, e2, e3, hgS, hnS⟩ := line_at HSLw.out hlt
   subst hA
   have HG0 : Hid (Sl wr (fun b => b < wr.heap.size) Ag cg l[k].gaps) := Lib.hid (hgS.mono (fun i hi hl => hl))
   have HN0 : Hid (Sl wr (fun b => b < wr.heap.size) An cn l[k].notes) := Lib.hid (hnS.mono (fun i hi hl => hl))
   have HSM := Lib.hid (HSMA.out l[k] (List.getElem_mem hlt))
   have SP : ∀ W, Below wr.heap.size wr W → W.cell? ⟨b, o + k * 4 + 2, none⟩ = some (.slice Ag l[k].gaps.length cg) ∧ W.cell? ⟨b, o + k * 4 + 3, none⟩ = some (.slice An l[k].notes.length cn) := fun W hW => ⟨(hW.cell (p := ⟨b, _, none⟩) hbl).trans e2, (hW.cell (p := ⟨b, _, none⟩) hbl).trans e3⟩
   have SQ : ∀ W v1 o1, Below wr.heap.size wr W → (W.setCell ⟨g, o1, none⟩ v1).cell? ⟨b, o + k * 4 + 2, none⟩ = some (.slice Ag l[k].gaps.length cg) ∧ (W.setCell ⟨g, o1, none⟩ v1).cell? ⟨b, o + k * 4 + 3, none⟩ = some (.slice An l[k].notes.length cn) := fun W v1 o1 hW => by
    have h := SP W hW
    have hne : b ≠ g := Nat.ne_of_lt hbg
    exact ⟨(World.cell?_of_block (a := ⟨b, _, none⟩) (heap_set W g o1 v1 hne)).trans h.1, (World.cell?_of_block (a := ⟨b, _, none⟩) (heap_set W g o1 v1 hne)).trans h.2⟩
   have SQ2 : ∀ W v1 o1 v2 o2, Below wr.heap.size wr W → ((W.setCell ⟨g, o1, none⟩ v1).setCell ⟨g, o2, none⟩ v2).cell? ⟨b, o + k * 4 + 2, none⟩ = some (.slice Ag l[k].gaps.length cg) ∧ ((W.setCell ⟨g, o1, none⟩ v1).setCell ⟨g, o2, none⟩ v2).cell? ⟨b, o + k * 4 + 3, none⟩ = some (.slice An l[k].notes.length cn) := fun W v1 o1 v2 o2 hW => by
    have h := SQ W v1 o1 hW
    have hne : b ≠ g := Nat.ne_of_lt hbg
    exact ⟨(World.cell?_of_block (a := ⟨b, _, none⟩) (heap_set _ g o2 v2 hne)).trans h.1, (World.cell?_of_block (a := ⟨b, _, none⟩) (heap_set _ g o2 v2 hne)).trans h.2⟩
   have HSP := Lib.hid SP
   have HSQ := Lib.hid SQ
   have HSQ2 := Lib.hid SQ2
   have HXS : Hid (∃ x, x = l[k]) := Lib.hid ⟨_, rfl⟩
   obtain ⟨x, hx⟩ : ∃ x, l[k] = x := ⟨_, rfl⟩
   rw [hx] at HG0 HN0 HSM HSP HSQ HSQ2
   have HX := Lib.hid hx
   have hlc : l.length ≤ c := HSLw.out.1
   clear SP SQ SQ2 hgS hnS e2 e3 hx HXS
   go_upto_region 8 with (fail)
   refine wp_region_D (fun w' => w'.cell? ⟨b, o + k * 4 + 2, none⟩ = some (.slice Ag x.gaps.length cg) ∧ w'.cell? ⟨b, o + k * 4 + 3, none⟩ = some (.slice An x.notes.length cn)) (fun _ => true) (by kernel_rfl) ?_
   have hb0 : Hid (Below wr.heap.size wr wr.drew) := Lib.hid (Below.refl _ _).drew
   generalize wr.drew = W0 at *
   refine wpAnyE_take (i := 0) (oi := ⟨some 19, Op.move (Operand.tmp 3), 34, _, _, _⟩) (v := ?_) rfl (by kernel_rfl) (by kernel_rfl) (by kernel_rfl) (by kernel_rfl) (by kernel_rfl) (fun _ _ _ h => h) (by rfl) ?hykr8_1 ((HSP.out _ hb0.out)) ?hrkr8_1
   case hykr8_1 => (intro wS hSw; clear hSw; go_simp; (try with_reducible rfl))
   all_goals try simp only [Act.put, List.setIfInBounds_toArray, List.set_cons_zero, List.set_cons_succ]
   refine wpAnyE_take (i := 1) (oi := ⟨some 20, Op.move (Operand.tmp 4), 3, _, _, _⟩) (v := ?_) rfl (by kernel_rfl) (by kernel_rfl) (by kernel_rfl) (by kernel_rfl) (by kernel_rfl) (fun _ _ _ h => h) (by rfl) ?hykr8_2 ((HSP.out _ hb0.out)) ?hrkr8_2
   case hykr8_2 => (intro wS hSw; clear hSw; go_simp; (try with_reducible rfl))
   all_goals try simp only [Act.put, List.setIfInBounds_toArray, List.set_cons_zero, List.set_cons_succ]
   refine wpAnyE_take (i := 2) (oi := ⟨some 21, Op.move (Operand.tmp 3), 34, _, _, _⟩) (v := ?_) rfl (by kernel_rfl) (by kernel_rfl) (by kernel_rfl) (by kernel_rfl) (by kernel_rfl) (fun _ _ _ h => h) (by rfl) ?hykr8_3 ((HSP.out _ hb0.out)) ?hrkr8_3
   case hykr8_3 => (intro wS hSw; clear hSw; go_simp; (try with_reducible rfl))
   all_goals try simp only [Act.put, List.setIfInBounds_toArray, List.set_cons_zero, List.set_cons_succ]
   refine wpAnyE_take (i := 3) (oi := ⟨some 22, Op.move (Operand.tmp 4), 3, _, _, _⟩) (v := ?_) rfl (by kernel_rfl) (by kernel_rfl) (by kernel_rfl) (by kernel_rfl) (by kernel_rfl) (fun _ _ _ h => h) (by rfl) ?hykr8_4 ((HSP.out _ hb0.out)) ?hrkr8_4
   case hykr8_4 => (intro wS hSw; clear hSw; go_simp; (try with_reducible rfl))
   all_goals try simp only [Act.put, List.setIfInBounds_toArray, List.set_cons_zero, List.set_cons_succ]
   refine wpAnyE_take (i := 4) (oi := ⟨some 23, Op.move (Operand.tmp 0), 34, _, _, _⟩) (v := ?_) rfl (by kernel_rfl) (by kernel_rfl) (by kernel_rfl) (by kernel_rfl) (by kernel_rfl) (fun _ _ _ h => h) (by rfl) ?hykr8_5 ((HSP.out _ hb0.out)) ?hrkr8_5
   case hykr8_5 => (intro wS hSw; clear hSw; go_simp; (try with_reducible rfl))
   all_goals try simp only [Act.put, List.setIfInBounds_toArray, List.set_cons_zero, List.set_cons_succ]
   refine wpAnyE_take (i := 5) (oi := ⟨some 24, Op.move (Operand.tmp 4), 3, _, _, _⟩) (v := ?_) rfl (by kernel_rfl) (by kernel_rfl) (by kernel_rfl) (by kernel_rfl) (by kernel_rfl) (fun _ _ _ h => h) (by rfl) ?hykr8_6 ((HSP.out _ hb0.out)) ?hrkr8_6
   case hykr8_6 => (intro wS hSw; clear hSw; go_simp; (try with_reducible rfl))
   all_goals try simp only [Act.put, List.setIfInBounds_toArray, List.set_cons_zero, List.set_cons_succ]
   refine wpAnyE_take (i := 6) (oi := ⟨some 25, Op.indexAddr 34 (Operand.tmp 23) (Operand.tmp 24), 0, _, _, _⟩) (v := ?_) rfl (by kernel_rfl) (by kernel_rfl) (by kernel_rfl) (by kernel_rfl) (by kernel_rfl) (fun _ _ _ h => h) (by rfl) ?hykr8_7 ((HSP.out _ hb0.out)) ?hrkr8_7
   case hykr8_7 => (intro wS hSw; clear hSw; go_simp; (try with_reducible rfl))
   all_goals try simp only [Act.put, List.setIfInBounds_toArray, List.set_cons_zero, List.set_cons_succ]
   refine wpAnyE_take (i := 7) (oi := ⟨some 26, Op.fieldAddr 88 (Operand.tmp 25) 2, 0, _, _, _⟩) (v := ?_) rfl (by kernel_rfl) (by kernel_rfl) (by kernel_rfl) (by kernel_rfl) (by kernel_rfl) (fun _ _ _ h => h) (by rfl) ?hykr8_8 ((HSP.out _ hb0.out)) ?hrkr8_8
   case hykr8_8 => (intro wS hSw; clear hSw; go_simp; (try with_reducible rfl))
   all_goals try simp only [Act.put, List.setIfInBounds_toArray, List.set_cons_zero, List.set_cons_succ]
   refine wpAnyE_take (i := 8) (oi := ⟨some 27, Op.load 22 (Operand.tmp 26), 22, _, _, _⟩) (v := ?_) rfl (by kernel_rfl) (by kernel_rfl) (by kernel_rfl) (by kernel_rfl) (by kernel_rfl) (fun _ _ _ h => h) (by rfl) ?hykr8_9 ((HSP.out _ hb0.out)) ?hrkr8_9
   case hykr8_9 => (intro wS hSw; (have hq := hSw.1); clear hSw; go_simp; (try with_reducible rfl))
   all_goals try simp only [Act.put, List.setIfInBounds_toArray, List.set_cons_zero, List.set_cons_succ]
   refine wpAnyE_take (i := 10) (oi := ⟨some 29, Op.move (Operand.tmp 0), 34, _, _, _⟩) (v := ?_) rfl (by kernel_rfl) (by kernel_rfl) (by kernel_rfl) (by kernel_rfl) (by kernel_rfl) (fun _ _ _ h => h) (by rfl) ?hykr8_10 ((HSP.out _ hb0.out)) ?hrkr8_10
   case hykr8_10 => (intro wS hSw; clear hSw; go_simp; (try with_reducible rfl))
   all_goals try simp only [Act.put, List.setIfInBounds_toArray, List.set_cons_zero, List.set_cons_succ]
   refine wpAnyE_take (i := 11) (oi := ⟨some 30, Op.move (Operand.tmp 4), 3, _, _, _⟩) (v := ?_) rfl (by kernel_rfl) (by kernel_rfl) (by kernel_rfl) (by kernel_rfl) (by kernel_rfl) (fun _ _ _ h => h) (by rfl) ?hykr8_11 ((HSP.out _ hb0.out)) ?hrkr8_11
   case hykr8_11 => (intro wS hSw; clear hSw; go_simp; (try with_reducible rfl))
   all_goals try simp only [Act.put, List.setIfInBounds_toArray, List.set_cons_zero, List.set_cons_succ]
   refine wpAnyE_take (i := 12) (oi := ⟨some 31, Op.indexAddr 34 (Operand.tmp 29) (Operand.tmp 30), 0, _, _, _⟩) (v := ?_) rfl (by kernel_rfl) (by kernel_rfl) (by kernel_rfl) (by kernel_rfl) (by kernel_rfl) (fun _ _ _ h => h) (by rfl) ?hykr8_12 ((HSP.out _ hb0.out)) ?hrkr8_12
   case hykr8_12 => (intro wS hSw; clear hSw; go_simp; (try with_reducible rfl))
   all_goals try simp only [Act.put, List.setIfInBounds_toArray, List.set_cons_zero, List.set_cons_succ]
   refine wpAnyE_take (i := 13) (oi := ⟨some 32, Op.fieldAddr 88 (Operand.tmp 31) 3, 0, _, _, _⟩) (v := ?_) rfl (by kernel_rfl) (by kernel_rfl) (by kernel_rfl) (by kernel_rfl) (by kernel_rfl) (fun _ _ _ h => h) (by rfl) ?hykr8_13 ((HSP.out _ hb0.out)) ?hrkr8_13
   case hykr8_13 => (intro wS hSw; clear hSw; go_simp; (try with_reducible rfl))
   all_goals try simp only [Act.put, List.setIfInBounds_toArray, List.set_cons_zero, List.set_cons_succ]
   refine wpAnyE_take (i := 14) (oi := ⟨some 33, Op.load 22 (Operand.tmp 32), 22, _, _, _⟩) (v := ?_) rfl (by kernel_rfl) (by kernel_rfl) (by kernel_rfl) (by kernel_rfl) (by kernel_rfl) (fun _ _ _ h => h) (by rfl) ?hykr8_14 ((HSP.out _ hb0.out)) ?hrkr8_14
   case hykr8_14 => (intro wS hSw; (have hq := hSw.2); clear hSw; go_simp; (try with_reducible rfl))
   all_goals try simp only [Act.put, List.setIfInBounds_toArray, List.set_cons_zero, List.set_cons_succ]
   refine wpAnyD_one (i := 9) (oi := ⟨some 28, Op.call { callee := Callee.value (Operand.func 81), args := #[Operand.tmp 27], argTypes := #[22] }, 22, _, _, _⟩) rfl (by kernel_rfl) (by rfl) (fun K hK => ?_)
   go_simp
   go_at_call 81
   refine (iclone_any Ag cg x.gaps.length x.gaps W0 (HG0.out.to hb0.out) rfl (by have := HSM.out.1; omega)).mono ?_
   rintro e W1 ⟨v1, rfl, ho1, hb1⟩
   obtain ⟨A1, c1, rfl, -⟩ := ho1.form
   have HR1 : Hid (Rep.R W1 (fun b => g ≤ b ∧ b ≠ g) [.slice A1 x.gaps.length c1] x.gaps) := Lib.hid (rep_ints ho1 rfl (fun b hb => by have := HB.out.2; have := hb0.out.size; omega))
   have hbb := Lib.hid (hb0.out.trans (hb1.mono hb0.out.size))
   have HZ1 := Lib.hid hb1.size
   clear ho1 hb1
   go_simp
   refine hK _ _ (fun _ => ?_) ?_
   ·exact (HSP.out _ hbb.out)
   clear hK K
   try simp only [Act.put, List.setIfInBounds_toArray, List.set_cons_zero, List.set_cons_succ]
   refine wpAnyD_one (i := 15) (oi := ⟨some 34, Op.call { callee := Callee.value (Operand.func 81), args := #[Operand.tmp 33], argTypes := #[22] }, 22, _, _, _⟩) rfl (by kernel_rfl) (by rfl) (fun K hK => ?_)
   go_simp
   go_at_call 81
   refine (iclone_any An cn x.notes.length x.notes W1 (HN0.out.to hbb.out) rfl (by have := HSM.out.2; omega)).mono ?_
   rintro e W2 ⟨v2, rfl, ho2, hb2⟩
   obtain ⟨A2, c2, rfl, -⟩ := ho2.form
   have HR2 : Hid (Rep.R W2 (fun b => g ≤ b ∧ b ≠ g) [.slice A2 x.notes.length c2] x.notes) := Lib.hid (rep_ints ho2 rfl (fun b hb => by have := HB.out.2; have := hbb.out.size; omega))
   have HR1b := Lib.hid (Rep.keep HR1.out (Kept.all hb2))
   have hbz := Lib.hid (hbb.out.trans (hb2.mono hbb.out.size))
   have HZ2 := Lib.hid hb2.size
   clear ho2 hb2 HR1
   go_simp
   refine hK _ _ (fun _ => ?_) ?_
   ·exact (HSP.out _ hbz.out)
   clear hK K
   try simp only [Act.put, List.setIfInBounds_toArray, List.set_cons_zero, List.set_cons_succ]
   refine wpAnyE_take (i := 16) (oi := ⟨some 35, Op.indexAddr 34 (Operand.tmp 19) (Operand.tmp 20), 0, _, _, _⟩) (v := ?_) rfl (by kernel_rfl) (by kernel_rfl) (by kernel_rfl) (by kernel_rfl) (by kernel_rfl) (fun _ _ _ h => h) (by rfl) ?hykr8_15 ((HSP.out _ hbz.out)) ?hrkr8_15
   case hykr8_15 => (intro wS hSw; clear hSw; go_simp; (try with_reducible rfl))
   all_goals try simp only [Act.put, List.setIfInBounds_toArray, List.set_cons_zero, List.set_cons_succ]
   refine wpAnyE_take (i := 17) (oi := ⟨some 36, Op.fieldAddr 88 (Operand.tmp 35) 2, 0, _, _, _⟩) (v := ?_) rfl (by kernel_rfl) (by kernel_rfl) (by kernel_rfl) (by kernel_rfl) (by kernel_rfl) (fun _ _ _ h => h) (by rfl) ?hykr8_16 ((HSP.out _ hbz.out)) ?hrkr8_16
   case hykr8_16 => (intro wS hSw; clear hSw; go_simp; (try with_reducible rfl))
   all_goals try simp only [Act.put, List.setIfInBounds_toArray, List.set_cons_zero, List.set_cons_succ]
   refine wpAnyD_one (i := 18) (oi := ⟨none, Op.store 22 (Operand.tmp 36) (Operand.tmp 28), 0, _, _, _⟩) rfl (by kernel_rfl) (by rfl) (fun K hK => ?_)
   have HCLz := Lib.hid (HCL.out.to hbz.out)
   obtain ⟨u1, hu1, hf1⟩ := HCLz.out.cells hlt 2 (by omega)
   go_simp
   refine hK _ _ (fun _ => ?_) ?_
   ·exact (HSQ.out _ _ _ hbz.out)
   clear hK K
   try simp only [Act.put]
   refine wpAnyE_take (i := 19) (oi := ⟨some 37, Op.indexAddr 34 (Operand.tmp 21) (Operand.tmp 22), 0, _, _, _⟩) (v := ?_) rfl (by kernel_rfl) (by kernel_rfl) (by kernel_rfl) (by kernel_rfl) (by kernel_rfl) (fun _ _ _ h => h) (by rfl) ?hykr8_17 ((HSQ.out _ _ _ hbz.out)) ?hrkr8_17
   case hykr8_17 => (intro wS hSw; clear hSw; go_simp; (try with_reducible rfl))
   all_goals try simp only [Act.put, List.setIfInBounds_toArray, List.set_cons_zero, List.set_cons_succ]
   refine wpAnyE_take (i := 20) (oi := ⟨some 38, Op.fieldAddr 88 (Operand.tmp 37) 3, 0, _, _, _⟩) (v := ?_) rfl (by kernel_rfl) (by kernel_rfl) (by kernel_rfl) (by kernel_rfl) (by kernel_rfl) (fun _ _ _ h => h) (by rfl) ?hykr8_18 ((HSQ.out _ _ _ hbz.out)) ?hrkr8_18
   case hykr8_18 => (intro wS hSw; clear hSw; go_simp; (try with_reducible rfl))
   all_goals try simp only [Act.put, List.setIfInBounds_toArray, List.set_cons_zero, List.set_cons_succ]
   refine wpAnyD_one (i := 21) (oi := ⟨none, Op.store 22 (Operand.tmp 38) (Operand.tmp 34), 0, _, _, _⟩) rfl (by kernel_rfl) (by rfl) (fun K hK => ?_)
   obtain ⟨u2, hu2, hf2⟩ := HCLz.out.cells hlt 3 (by omega)
   have hu3 : (W2.setCell ⟨g, k * 4 + 2, none⟩ (.slice A1 x.gaps.length c1)).cell? ⟨g, k * 4 + 3, none⟩ = some u2 := (World.cell?_setCell_other _ _ _ _ (by intro h; injection h with _ h; omega)).trans hu2
   have hf3 : (W2.setCell ⟨g, k * 4 + 2, none⟩ (.slice A1 x.gaps.length c1)).frozen? ⟨g, k * 4 + 3, none⟩ = false := (World.frozen?_setCell _ _ _ _).trans hf2
   go_simp
   refine hK _ _ (fun _ => ?_) ?_
   ·exact (HSQ2.out _ _ _ _ _ hbz.out)
   clear hK K
   try simp only [Act.put]
   refine wpAnyD_done (by kernel_rfl) ?_ _
   obtain ⟨rows', hcl'⟩ := HCLz.out.set hlt (v1 := .slice A1 x.gaps.length c1) (v2 := .slice A2 x.notes.length c2) (by rw [HX.out]; exact HR1b.out) (by rw [HX.out]; exact HR2.out)
   have HCL2 := Lib.hid hcl'
   have HB3 : Hid (Below g w ((W2.setCell ⟨g, k * 4 + 2, none⟩ (.slice A1 x.gaps.length c1)).setCell ⟨g, k * 4 + 3, none⟩ (.slice A2 x.notes.length c2)) ∧ g < ((W2.setCell ⟨g, k * 4 + 2, none⟩ (.slice A1 x.gaps.length c1)).setCell ⟨g, k * 4 + 3, none⟩ (.slice A2 x.notes.length c2)).heap.size) := Lib.hid ⟨((HB.out.1.trans (hbz.out.mono (by have := HB.out.2; omega))).setCell (p := ⟨g, k * 4 + 2, none⟩) (Nat.le_refl _) _).setCell (p := ⟨g, k * 4 + 3, none⟩) (Nat.le_refl _) _, by have := HB.out.2; have := hbz.out.size; simp; omega⟩
   clear hcl' hu2 hf2 hu3 hf3 HCLz
   unfold Exit.then
   go_wp2_with fail
   go_roundw
   case rel => exact ⟨k + 1, rows', by omega, by go_num, HCL2, HB3⟩
   case measure => (first | (simp [intOf]; done) | (simp [intOf]; omega))
  ·have HD : Hid (Own wr w.heap.size 88 (.slice (some ⟨g, 0, none⟩) l.length l.length) (l.map (Bd.mk : LineP → Bd LineP w.heap.size))) := Lib.hid (by
    have h := HCL.out
    rw [show k = l.length by omega] at h
    have h2 := h.done
    rwa [← HGE.out] at h2 ⊢)
   have HB9 : Hid (Below w.heap.size w wr) := Lib.hid (by have := HB.out.1; rwa [← HGE.out] at this)
   go_wp2_with fail
   go_ret
   exact ⟨_, rfl, HD.out, HB9.out⟩
end Go.Proofs.YtakaielemicpkaaGreatDoor
namespace Go.Proofs.YtakaielemicpkaaGreatDoor
open Go.RowKit
theorem wp_region_calm {P : Program} {id : Nat} {Q : Exit → Act → World → Prop} {a : Act} {w : World} {l : List Oper} (hm : P.follows .mixedOrders = true) (hB : Region.lexB .any l.toArray = true)
  (h : ∀ (T : Type) (_ : Nonempty T) (f : T → World), (∀ d, Below w.heap.size w (f d)) → (∀ d w', Below (f d).heap.size (f d) w' → ∃ m, w' = f m) →
   wpQuiet P l.toArray (fun w' => ∃ n, w' = f n) (fun a' => ∀ w', (∃ n, w' = f n) → Q .normal a' w') l a) : (Code.region id l.toArray true).wp P Q a w := by
 refine wp_region_quiet (C := fun w' => ∃ n, w' = (Subtype.val : {x : World // Below w.heap.size w x} → World) n) hm hB ⟨⟨_, (Below.refl _ w).drew⟩, rfl⟩ ?_
 rw [List.toList_toArray]
 exact h _ ⟨⟨_, (Below.refl _ w).drew⟩⟩ Subtype.val (fun d => d.2) (fun d w' hb => ⟨⟨w', d.2.trans (hb.mono d.2.size)⟩, rfl⟩)
end Go.Proofs.YtakaielemicpkaaGreatDoor
namespace Go.Proofs.YtakaielemicpkaaGreatDoor
open Go.RowKit
section
variable {P : Program} {α : Type} [Rep α]
theorem run_freshC (w : World) (t ty e : TypeId) (z : Value) (bytes : Nat) (ht : P.underlying t = some (.slice e)) (hinfo : (P.info? e).map (fun i => (i.zero, i.size, i.bytes)) = some (some z, Rep.size α, bytes))
  (hzs : z.cells.size = Rep.size α) (hsz : 0 < Rep.size α) (A : Option Addr) (n k : Nat) (l : List α) (hn : l.length = n) (hl : Sl w (fun b => b < w.heap.size) A k l) (hA : A = none → k = 0)
  (A' : Option Addr) (c m : Nat) (l' : List α) (hm : l'.length = m) (hl' : Sl w (fun b => b < w.heap.size) A' c l') (h0 : k < n + m) (hbytes : (n + m) * bytes ≤ 140737488355328) (hml : n + m ≤ 9223372036854775807) :
  ∃ v' w', (Builtin.append_ #[t, t] ty #[.slice A n k, .slice A' m c]).run P w = .ok v' w' ∧ Own w' w.heap.size e v' (l ++ l') ∧ Below w.heap.size w w' ∧ v'.ownBlock = some w.heap.size := by
 obtain ⟨i, hi, hz, hz1, hz2⟩ := info_parts hinfo
 subst hn
 subst hm
 have hnk := hl.1
 have hm0 : 0 < l'.length := by omega
 obtain ⟨b', o', news, rfl, hSb', hlt', hnl', hn1', hnc', hnr'⟩ := hl'.flat hm0
 have key : ∀ olds : List Value, olds.length = l.length * Rep.size α → (∀ u ∈ olds, u.oneCell' = true) → (∀ i, (h : i < l.length) → Rep.R w (fun b => b < w.heap.size) ((olds.drop (i * Rep.size α)).take (Rep.size α)) l[i]) →
   ∀ v' w', w'.ownsRow w.heap.size e (Rep.size α) v' (l.length + l'.length) (olds ++ news) → w.grownBy w' none → (v'.ownBlock = none ∨ v'.ownBlock = some w.heap.size) → Own w' w.heap.size e v' (l ++ l') ∧ Below w.heap.size w w' := by
  intro olds ho1 ho2 ho3 v' w' hw hg hat
  have hb : Below w.heap.size w w' := ⟨hg.os, hg.tape, hg.output, hg.size, fun k hk => hg.block k hk (by simp)⟩
  refine ⟨?_, hb⟩
  have hx := Own.more (w := w) (w' := w') (base := w.heap.size) (e := e) (v := .slice none 0 0) (v' := v') (l := ([] : List α)) (m := l ++ l') (news := olds ++ news) (H := w.heap.size) (Own.nil _ _ _)
   (fun xs hx => by
    have : xs = [] := List.eq_nil_of_length_eq_zero (by rw [hx.1]; simp)
    subst this
    simpa using hw) hg hat (Nat.le_refl _)
   (fun u hu => (List.mem_append.1 hu).elim (ho2 u) (hn1' u)) (by rw [List.length_append, List.length_append, ho1, hnl', Nat.add_mul])
   (fun i hi => by
    refine Rep.mono (S := fun b => b < w.heap.size) ?_ (fun j _ _ => by simp [Value.ownBlock])
    by_cases hil : i < l.length
    ·have e : (i + 1) * Rep.size α ≤ olds.length := by rw [ho1]; exact Nat.mul_le_mul_right _ hil
     rw [Nat.add_mul, Nat.one_mul] at e
     rw [List.drop_append_of_le_length (by omega), List.take_append_of_le_length (by rw [List.length_drop]; omega), List.getElem_append_left hil]
     exact ho3 i hil
    ·have him : i - l.length < l'.length := by rw [List.length_append] at hi; omega
     have e : i * Rep.size α = olds.length + (i - l.length) * Rep.size α := by
      rw [ho1, ← Nat.add_mul]; congr 1; omega
     rw [List.getElem_append_right (by omega), List.drop_append, List.drop_of_length_le (by omega), List.nil_append, e, Nat.add_sub_cancel_left]
     exact hnr' _ him)
  rwa [List.nil_append] at hx
 have grow : ∀ (ad : Addr) (olds : List Value), olds.length = l.length * Rep.size α → (∀ j u, olds[j]? = some u → w.cell? (ad.add j) = some u) → (∀ u ∈ olds, u.oneCell' = true) → (∀ i, (h : i < l.length) → Rep.R w (fun b => b < w.heap.size) ((olds.drop (i * Rep.size α)).take (Rep.size α)) l[i]) →
   ∃ v' w', (Builtin.append_ #[t, t] ty #[.slice (some ad) l.length k, .slice (some ⟨b', o', none⟩) l'.length c]).run P w = .ok v' w' ∧ Own w' w.heap.size e v' (l ++ l') ∧ Below w.heap.size w w' ∧ v'.ownBlock = some w.heap.size := by
  intro ad olds hol hoc ho1 hor
  obtain ⟨v', w', hrun, h2, h3⟩ := run_append_arg_grows (P := P) w t ty e i z (Rep.size α) bytes ht hi hz hz1 hz2 hzs hsz ad l.length k olds hol hoc
   ⟨b', o', none⟩ l'.length c news hnl' (fun j u hu => by rw [addr_add]; exact hnc' j u hu) h0 (by simp only [maxLen]; omega) hbytes
  have e2 : v'.ownBlock = some w.heap.size := by
   have e1 := hrun
   rw [run_append_grow (P := P) w t ty e i z ht hi hz ad l.length k olds (by rw [hz1]; exact hol) hoc ⟨b', o', none⟩ l'.length c news (by rw [hz1]; exact hnl') (fun j u hu => by rw [addr_add]; exact hnc' j u hu) h0 (by omega) (by rw [hz2]; exact growslice_fits h0 hbytes)] at e1
   cases e1
   rfl
  have h4 := key olds hol ho1 hor v' w' h2 h3 (.inr e2)
  exact ⟨v', w', hrun, h4.1, h4.2, e2⟩
 by_cases h1 : 0 < l.length
 ·obtain ⟨b, o, olds, rfl, hSb, hlt, hol, ho1, hoc, hor⟩ := hl.flat h1
  exact grow _ olds hol (fun j u hu => by rw [addr_add]; exact hoc j u hu) ho1 hor
 ·have h1' : l.length = 0 := by omega
  obtain rfl : l = [] := List.eq_nil_of_length_eq_zero h1'
  rcases A with _ | ad
  ·obtain rfl := hA rfl
   obtain ⟨v', w', hrun, h2, h3, _, h5⟩ := run_append_own_at (P := P) w w.heap.size t ty e i z (Rep.size α) bytes ht hi hz hz1 hz2 hzs hsz (.slice none 0 0) 0 [] (World.ownsRow_nil _ _ _ _) ⟨b', o', none⟩ l'.length c news hnl'
    (fun j u hu => by rw [addr_add]; exact hnc' j u hu) hn1' (by simp only [maxLen]; omega) (by simpa using hbytes) (Nat.le_refl _)
   have h4 := key [] (by simp) (by simp) (fun i hi => absurd hi (by simp)) v' w' (by simpa using h2) h3 h5
   refine ⟨v', w', hrun, h4.1, h4.2, ?_⟩
   rcases h5 with h5 | h5
   ·obtain ⟨A2, c2, e2, -, hlc, -⟩ := h4.1.form
    subst e2
    cases A2 with
    | none =>
     obtain ⟨xs, hx, -⟩ := h4.1
     rcases hx.2 with ⟨q1, q2⟩ | ⟨g, cap, cur, q1, _⟩
     ·simp at q2; simp [q2] at hm0
     ·cases q1
    | some a2 => exact absurd h5 (by simp [Value.ownBlock])
   ·exact h5
  ·exact grow ad [] (by simp) (fun j u hu => by simp at hu) (by simp) (fun i hi => absurd hi (by simp))
def Que (w : World) (base : Nat) (e : TypeId) (ob : Option Nat) (v : Value) (l : List α) : Prop :=
 (∃ (pre : List α) (g c : Nat), ob = some g ∧ pre.length < c ∧ Own w base e (.slice (some ⟨g, 0, none⟩) (pre ++ l).length c) (pre ++ l) ∧ v = .slice (some ⟨g, pre.length * Rep.size α, none⟩) l.length (c - pre.length)) ∨
 (l = [] ∧ ob = none ∧ ∃ A, v = .slice A 0 0)
theorem Que.nil (w : World) (base : Nat) (e : TypeId) : Que w base e none (.slice none 0 0) ([] : List α) := .inr ⟨rfl, rfl, _, rfl⟩
theorem Que.len {w : World} {base : Nat} {e : TypeId} {ob : Option Nat} {v : Value} {l : List α} (h : Que w base e ob v l) : ∃ A c, v = .slice A l.length c ∧ Sl w (fun b => b < w.heap.size) A c l ∧ (A = none → c = 0) := by
 rcases h with ⟨pre, g, c, rfl, hlt, ho, rfl⟩ | ⟨rfl, rfl, A, rfl⟩
 ·refine ⟨_, _, rfl, ?_, by simp⟩
  obtain ⟨A', c', e', hs⟩ := ho.sl
  cases e'
  have hd := hs.drop pre.length (by simp)
  rw [if_neg (by omega)] at hd
  simpa [addr_add] using hd
 ·exact ⟨A, 0, rfl, Sl.nil _ _ _ _ (Nat.zero_le _), fun _ => rfl⟩
theorem Que.kept {w w' : World} {base : Nat} {e : TypeId} {ob : Option Nat} {v : Value} {l : List α} (h : Que w base e ob v l) (hk : ∀ i, i < w.heap.size → w'.heap[i]? = w.heap[i]?) : Que w' base e ob v l := by
 rcases h with ⟨pre, g, c, rfl, hlt, ho, rfl⟩ | ⟨rfl, rfl, A, rfl⟩
 ·exact .inl ⟨pre, g, c, rfl, hlt, ho.kept hk, rfl⟩
 ·exact .inr ⟨rfl, rfl, A, rfl⟩
theorem Que.below {w w' : World} {base : Nat} {e : TypeId} {ob : Option Nat} {v : Value} {l : List α} (h : Que w base e ob v l) (hb : Below w.heap.size w w') : Que w' base e ob v l := h.kept hb.block
theorem Que.lt {w : World} {base : Nat} {e : TypeId} {ob : Option Nat} {v : Value} {l : List α} (h : Que w base e ob v l) : ∀ k, ob = some k → base ≤ k ∧ k < w.heap.size := by
 rcases h with ⟨pre, g, c, rfl, hlt, ho, rfl⟩ | ⟨rfl, rfl, A, rfl⟩
 ·intro k hk
  cases hk
  exact ho.lt g rfl
 ·intro k hk; cases hk
theorem Que.cut {w : World} {base : Nat} {e : TypeId} {ob : Option Nat} {l : List α} {A : Option Addr} {n c : Nat} (h : Que w base e ob (.slice A n c) l) {k : Nat} (hk : k ≤ l.length) :
  ∃ ob', (ob' = none ∨ ob' = ob) ∧ Que w base e ob' (.slice (if c = k then A else A.map (·.add (k * Rep.size α))) (n - k) (c - k)) (l.drop k) := by
 rcases h with ⟨pre, g, c0, rfl, hlt, ho, hv⟩ | ⟨rfl, rfl, A, hv⟩
 ·injection hv with h1 h2 h3
  subst h1 h2 h3
  obtain ⟨_, _, e1, -, hlc, -⟩ := ho.form
  injection e1 with _ _ e3
  rw [← e3, List.length_append] at hlc
  by_cases hck : c0 - pre.length = k
  ·refine ⟨none, .inl rfl, .inr ⟨List.drop_of_length_le (by omega), rfl, _, by rw [show l.length - k = 0 by omega, show c0 - pre.length - k = 0 by omega]⟩⟩
  ·refine ⟨some g, .inr rfl, .inl ⟨pre ++ l.take k, g, c0, rfl, ?_, ?_, ?_⟩⟩
   ·rw [List.length_append, List.length_take]; omega
   ·rw [List.append_assoc, List.take_append_drop]; exact ho
   ·rw [if_neg hck, List.length_append, List.length_take, List.length_drop, Nat.min_eq_left hk, Nat.add_mul]
    simp only [Option.map_some, addr_add, Nat.sub_sub]
 ·injection hv with h1 h2 h3
  subst h1 h2 h3
  obtain rfl : k = 0 := by simpa using hk
  exact ⟨none, .inl rfl, .inr ⟨rfl, rfl, A, rfl⟩⟩
theorem run_que (w : World) (base : Nat) (t ty e : TypeId) (z : Value) (bytes : Nat) (ht : P.underlying t = some (.slice e)) (hinfo : (P.info? e).map (fun i => (i.zero, i.size, i.bytes)) = some (some z, Rep.size α, bytes))
  (hzs : z.cells.size = Rep.size α) (hsz : 0 < Rep.size α) (ob : Option Nat) (v : Value) (l : List α) (hown : Que w base e ob v l)
  (A : Option Addr) (c n : Nat) (m : List α) (hn : m.length = n) (S : Nat → Prop) (hm : Sl w S A c m) (hS : ∀ i, S i → i < w.heap.size → some i ≠ ob) (hS2 : ∀ i, S i → i < w.heap.size)
  (hbytes : (l.length + n) * bytes ≤ 140737488355328) (hml : l.length + n ≤ 9223372036854775807) (hbase : base ≤ w.heap.size) :
  ∃ v' w' ob', (Builtin.append_ #[t, t] ty #[v, .slice A n c]).run P w = .ok v' w' ∧ Que w' base e ob' v' (l ++ m) ∧ w.grownBy w' ob ∧ (ob' = ob ∨ ob' = some w.heap.size) := by
 obtain ⟨i, hi, hz, hz1, hz2⟩ := info_parts hinfo
 subst hn
 obtain ⟨A0, k0, rfl, hs0, hA0⟩ := hown.len
 by_cases h0 : k0 < l.length + m.length
 ·obtain ⟨v', w', h1, h2, h3, h4⟩ := run_freshC (P := P) w t ty e z bytes ht hinfo hzs hsz A0 l.length k0 l rfl hs0 hA0 A c m.length m rfl (hm.mono fun i hi _ => hS2 i hi) h0 hbytes hml
  refine ⟨v', w', some w.heap.size, h1, ?_, ⟨h3.os, h3.tape, h3.output, h3.size, fun k hk _ => h3.block k hk⟩, .inr rfl⟩
  have h5 := h2.re hbase
  obtain ⟨A2, c2, rfl, -, hlc, -⟩ := h5.form
  cases A2 with
  | none => exact absurd h4 (by simp [Value.ownBlock])
  | some a2 =>
   obtain ⟨xs, hx, -⟩ := id h5
   rcases hx.2 with ⟨q1, _⟩ | ⟨g, cap, cur, q1, _⟩
   ·cases q1
   ·cases q1
    simp only [Value.ownBlock, Option.some.injEq] at h4
    subst h4
    exact .inl ⟨[], _, c2, rfl, by rw [List.length_append] at hlc; rw [List.length_nil]; omega, h5, by simp⟩
 ·by_cases hm0 : 0 < m.length
  ·rcases id hown with ⟨pre, g, cc, rfl, hlt, ho, hv⟩ | ⟨rfl, rfl, _, hv⟩
   ·injection hv with e1 e2 e3
    subst e1 e3
    obtain ⟨b, o, news, rfl, hSb, hltb, hnl, hn1, hnc, hnr⟩ := hm.flat hm0
    have hbig : (pre ++ l).length + m.length ≤ cc := by rw [List.length_append]; omega
    obtain ⟨xs, hx, ho1, hr⟩ := id ho
    obtain ⟨w', hrun, hx2, hg⟩ := run_append_fits (P := P) w base t ty e i (Rep.size α) ht hi hz1 g (pre ++ l).length cc xs hx ⟨b, o, none⟩ m.length c news hnl (fun j u hu => by rw [addr_add]; exact hnc j u hu) hn1 hbig
    rcases id hx.2 with ⟨q1, _⟩ | ⟨g', cap, cur, q1, hbg, hgg, hnc2, hcm, hcs, hcx⟩
    ·cases q1
    ·injection q1 with q1 q2 q3
     injection q1 with q1
     injection q1 with q1
     subst q1 q3
     have hfz : ∀ j, w.frozen? ⟨g, j, none⟩ = false := fun j => by simp [World.frozen?, hgg]
     have hcell : ∀ j, j < (pre ++ l).length * Rep.size α + news.length → (w.cell? ⟨g, j, none⟩).isSome = true := fun j hj => by
      rw [cell_of_row w g j cur e (0, 0) hgg]
      have : j < cur.size := by
       have := Nat.mul_le_mul_right (Rep.size α) hbig
       rw [Nat.add_mul, ← hnl] at this
       omega
      rw [Array.getElem?_eq_getElem this]; rfl
     have ea : pre.length * Rep.size α + l.length * Rep.size α = (pre ++ l).length * Rep.size α := by rw [List.length_append, Nat.add_mul]
     have h1 := run_append_room_cells (P := P) w t ty e i ht hi g 0 (pre ++ l).length cc ⟨b, o, none⟩ m.length c news (by rw [hz1]; exact hnl) (fun j u hu => by rw [addr_add]; exact hnc j u hu) hn1 hbig
      (fun j hj => hcell _ (by rw [hz1]; omega)) (fun j _ => hfz _)
     have h2 := run_append_room_cells (P := P) w t ty e i ht hi g (pre.length * Rep.size α) l.length (cc - pre.length) ⟨b, o, none⟩ m.length c news (by rw [hz1]; exact hnl) (fun j u hu => by rw [addr_add]; exact hnc j u hu) hn1 (by omega)
      (fun j hj => hcell _ (by rw [hz1, ea]; omega)) (fun j _ => hfz _)
     rw [h1] at hrun
     cases hrun
     rw [hz1] at h2 hx2 hg
     rw [Nat.zero_add] at hx2 hg
     rw [ea] at h2
     refine ⟨_, _, some g, h2, .inl ⟨pre, g, cc, rfl, by omega, ?_, by rw [@List.length_append _ l]⟩, hg, .inl rfl⟩
     have e3 : pre ++ (l ++ m) = (pre ++ l) ++ m := (List.append_assoc _ _ _).symm
     rw [e3]
     have hmore := Own.more (m := m) (news := news) (H := w.heap.size) (v' := .slice (some ⟨g, 0, none⟩) ((pre ++ l).length + m.length) cc) ho (fun ys hy => ?_) hg (.inl rfl) (Nat.le_refl _) hn1 hnl (fun i hi => Rep.mono (hnr i hi) (fun b hb hl => hS b hb hl))
     ·have e4 : ((pre ++ l) ++ m).length = (pre ++ l).length + m.length := List.length_append
      rw [e4]
      exact hmore
     ·have e4 : ((pre ++ l) ++ m).length = (pre ++ l).length + m.length := List.length_append
      rw [e4]
      obtain rfl : xs = ys := by
       rcases hy.2 with ⟨q1, q2⟩ | ⟨g2, c2, cu2, q1, _, q3, _, _, _, q4⟩
       ·cases q1
       ·cases q1
        rw [hgg] at q3; cases q3
        rw [← hcx, ← q4]
      exact hx2
   ·injection hv with _ _ e3
    rw [List.length_nil] at h0
    omega
  ·obtain rfl : m = [] := List.eq_nil_of_length_eq_zero (by omega)
   refine ⟨_, w, ob, ?_, by simpa using hown, World.grownBy.refl _ _, .inl rfl⟩
   have hle : l.length ≤ k0 := hs0.1
   rcases A0 with _ | a0 <;> rcases A with _ | a <;> simp [Builtin.append_, run_underlying ht, sizeOf, typeInfo, hi, Builtin.lenOf, Builtin.firstCells, loadCells, loadCellsFrom, storeCells, hle]
theorem wpList_que {ops : Array Oper} {rest : List Oper} {o : Oper} {a : Act} {Q : Exit → Act → World → Prop} {w : World} (hgd : o.guard = none) (s x : Operand) (t : TypeId)
  (ho : o.op = .call { callee := .builtin .append, args := #[s, x], argTypes := #[t, t] })
  (base : Nat) (e : TypeId) (z : Value) (bytes : Nat) (ht : P.underlying t = some (.slice e)) (hinfo : (P.info? e).map (fun i => (i.zero, i.size, i.bytes)) = some (some z, Rep.size α, bytes))
  (hzs : z.cells.size = Rep.size α) (hsz : 0 < Rep.size α)
  (ob : Option Nat) (v : Value) (l : List α) (hs : a.eval s = v) (hown : Que w base e ob v l)
  (A : Option Addr) (c n : Nat) (m : List α) (hx : a.eval x = .slice A n c) (hn : m.length = n) (S : Nat → Prop) (hm : Sl w S A c m) (hS : ∀ i, S i → i < w.heap.size → some i ≠ ob) (hS2 : ∀ i, S i → i < w.heap.size)
  (hbytes : (l.length + n) * bytes ≤ 140737488355328) (hml : l.length + n ≤ 9223372036854775807) (hbase : base ≤ w.heap.size)
  (h : ∀ v' w' ob', Que w' base e ob' v' (l ++ m) → w.grownBy w' ob → (ob' = ob ∨ ob' = some w.heap.size) → wpList P ops Q rest (a.put o.dst v') w') : wpList P ops Q (o :: rest) a w :=
 wpList_plain hgd fun _ hK => by
  obtain ⟨v', w', ob', hrun, h2, h3, h4⟩ := run_que (P := P) w base t o.type e z bytes ht hinfo hzs hsz ob v l hown A c n m hn S hm hS hS2 hbytes hml hbase
  unfold Oper.wp execOp
  simp only [ho, resolve, invoke, builtin, Sem.run_bind, Sem.run_pure, Result.andThen_ok, List.map_toArray, List.map_cons, List.map_nil, hs, hx, hrun]
  exact hK _ _ (h v' w' ob' h2 h3 h4)
end
end Go.Proofs.YtakaielemicpkaaGreatDoor
namespace Go.Proofs.YtakaielemicpkaaGreatDoor
open Go.RowKit
def roomV (Hb Lb Sb : Nat) : Value := .func (.func 116) #[] #[.pointer (some ⟨Hb, 0, none⟩), .pointer (some ⟨Lb, 0, none⟩), .pointer (some ⟨Sb, 0, none⟩)]
theorem room_any (Hb Lb Sb h l s : Nat) (w : World) (hh : h ≤ 1048576) (hl : l ≤ 1073741824) (hs : s ≤ 1073741824) (h1 : w.cell? ⟨Hb, 0, none⟩ = some (.int .i64 (h : Int))) (h2 : w.cell? ⟨Lb, 0, none⟩ = some (.int .i64 (l : Int))) (h3 : w.cell? ⟨Sb, 0, none⟩ = some (.int .i64 (s : Int))) :
  Calls Tryz.prog 116 #[.pointer (some ⟨Hb, 0, none⟩), .pointer (some ⟨Lb, 0, none⟩), .pointer (some ⟨Sb, 0, none⟩)] w fun e w' => e = .returned (.int .i64 (roomP h l s)) ∧ w = w' := by
 go_enter Tryz.func116, Tryz.ntmps116
 go_wp2_with fail
 go_ret
 refine ⟨ret_int ?_, rfl⟩
 unfold roomP
 omega
def fitsAt (h l s q : Nat) (body : List LineP) : Bool := match body[l]? with
 | none => false
 | some x => fitsP h l s q x
set_option maxHeartbeats 1000000 in
theorem fits_any (Lb Bb Rb Sb Qb Hb h l s q cq cb : Nat) (Aq A : Option Addr) (body : List LineP) (w : World) (hh : h ≤ 1048576) (hl : l ≤ body.length) (hbn : body.length ≤ 1073741824) (hs : s ≤ 1073741824) (_hq : q ≤ 1073741824)
  (h1 : w.cell? ⟨Hb, 0, none⟩ = some (.int .i64 (h : Int))) (h2 : w.cell? ⟨Lb, 0, none⟩ = some (.int .i64 (l : Int))) (h3 : w.cell? ⟨Sb, 0, none⟩ = some (.int .i64 (s : Int)))
  (h4 : w.cell? ⟨Bb, 0, none⟩ = some (.slice A body.length cb)) (h5 : w.cell? ⟨Qb, 0, none⟩ = some (.slice Aq q cq)) (h6 : w.cell? ⟨Rb, 0, none⟩ = some (roomV Hb Lb Sb)) (hb : Sl w (fun b => b < w.heap.size) A cb body) :
  Calls Tryz.prog 117 #[.pointer (some ⟨Lb, 0, none⟩), .pointer (some ⟨Bb, 0, none⟩), .pointer (some ⟨Rb, 0, none⟩), .pointer (some ⟨Sb, 0, none⟩), .pointer (some ⟨Qb, 0, none⟩)] w fun e w' => e = .returned (.bool (fitsAt h l s q body)) ∧ Below w.heap.size w w' := by
 have HR : Hid (∀ W, Below w.heap.size w W → Calls Tryz.prog 116 #[.pointer (some ⟨Hb, 0, none⟩), .pointer (some ⟨Lb, 0, none⟩), .pointer (some ⟨Sb, 0, none⟩)] W fun e w' => e = .returned (.int .i64 (roomP h l s)) ∧ W = w') := Lib.hid (fun W hW => room_any Hb Lb Sb h l s W hh (by omega) hs
  ((hW.cell (p := ⟨Hb, 0, none⟩) (World.block_lt_of_cell? w ⟨Hb, 0, none⟩ h1)).trans h1) ((hW.cell (p := ⟨Lb, 0, none⟩) (World.block_lt_of_cell? w ⟨Lb, 0, none⟩ h2)).trans h2) ((hW.cell (p := ⟨Sb, 0, none⟩) (World.block_lt_of_cell? w ⟨Sb, 0, none⟩ h3)).trans h3))
 unfold roomV at h6
 have HL := Lib.hid hl
 by_cases he : l = body.length
 ·have hf : fitsAt h l s q body = false := by unfold fitsAt; rw [List.getElem?_eq_none (by omega)]
  rw [hf]
  rw [← he] at h4
  have HE := Lib.hid he
  clear hl hb hf he
  go_enter Tryz.func117, Tryz.ntmps117
  go_wp2_with fail
  go_ret
  exact ⟨rfl, Below.refl _ _⟩
 ·have hlt : l < body.length := by omega
  have hf : fitsAt h l s q body = fitsP h l s q body[l] := by unfold fitsAt; rw [List.getElem?_eq_getElem hlt]
  rw [hf]
  obtain ⟨b, o, Ag, cg, An, cn, rfl, hbb, hbl, -, -, -, e3, -, -⟩ := line_at hb hlt
  have hlc : body.length ≤ cb := hb.1
  have hlI : (l : Int) < (body.length : Int) := by omega
  have hl0 : (0 : Int) ≤ (l : Int) := by omega
  have HNE : ((l : Int) == (body.length : Int)) = false := by rw [beq_eq_false_iff_ne]; omega
  have HE := Lib.hid he
  obtain ⟨x, hx⟩ : ∃ x, body[l] = x := ⟨_, rfl⟩
  rw [hx] at e3 ⊢
  clear hl hb hf he hx
  by_cases hn : x.notes.length = 0
  ·have hf : fitsP h l s q x = decide (0 < roomP h l s) := by unfold fitsP; rw [if_pos (List.eq_nil_of_length_eq_zero hn)]
   rw [hf]
   rw [hn] at e3
   clear hn hf
   go_enter Tryz.func117, Tryz.ntmps117
   go_wp2_with (first | (go_at_call 116; refine (HR.out _ (Below.refl _ _)).mono ?_; rintro e w' ⟨rfl, rfl⟩) | fail)
   go_ret
   exact ⟨rfl, Below.refl _ _⟩
  ·have hf : fitsP h l s q x = (decide (s = q) && decide (3 - ((min s 1 : Nat) : Int) ≤ roomP h l s)) := by unfold fitsP; rw [if_neg (fun h => hn (by rw [h]; rfl))]
   rw [hf]
   have HN0 : ((x.notes.length : Int) == 0) = false := by rw [beq_eq_false_iff_ne]; omega
   have HN := Lib.hid hn
   clear hn hf
   have hl1 : Lb < w.heap.size := World.block_lt_of_cell? w ⟨Lb, 0, none⟩ h2
   have hl3 : Sb < w.heap.size := World.block_lt_of_cell? w ⟨Sb, 0, none⟩ h3
   have hl5 : Qb < w.heap.size := World.block_lt_of_cell? w ⟨Qb, 0, none⟩ h5
   have hl6 : Rb < w.heap.size := World.block_lt_of_cell? w ⟨Rb, 0, none⟩ h6
   have HE1 : ∀ b, decide (s = q) = b → ((s : Int) == (q : Int)) = b := fun b hb => by
    rw [← hb, Bool.eq_iff_iff, beq_iff_eq, decide_eq_true_iff]; omega
   cases hsq : decide (s = q) <;>
   ·have HE2 := HE1 _ hsq
    clear HE1 hsq
    go_enter Tryz.func117, Tryz.ntmps117
    go_wp2_with fail
    refine wp_region_calm (by kernel_rfl) (by kernel_rfl) ?_
    intro T5 hT5 f hf hg
    have a3 : ∀ d, (f d).cell? ⟨Sb, 0, none⟩ = some (.int .i64 (s : Int)) := fun d => ((hf d).cell (p := ⟨Sb, 0, none⟩) hl3).trans h3
    have a5 : ∀ d, (f d).cell? ⟨Qb, 0, none⟩ = some (.slice Aq q cq) := fun d => ((hf d).cell (p := ⟨Qb, 0, none⟩) hl5).trans h5
    have a6 : ∀ d, (f d).cell? ⟨Rb, 0, none⟩ = some (.func (.func 116) #[] #[.pointer (some ⟨Hb, 0, none⟩), .pointer (some ⟨Lb, 0, none⟩), .pointer (some ⟨Sb, 0, none⟩)]) := fun d => ((hf d).cell (p := ⟨Rb, 0, none⟩) hl6).trans h6
    have HF5 := Lib.hid hf
    have HG5 := Lib.hid hg
    clear hf hg
    repeat (go_big_quiet_step (first
     |(go_at_call 116; refine (HR.out _ (HF5.out _)).mono ?_; rintro e w6 ⟨rfl, rfl⟩; exact ⟨rfl, HG5.out _ _ (Below.refl _ _)⟩)))
    refine wpQuiet_nil ?_
    rintro _ ⟨nq, rfl⟩
    have Hd := Lib.hid (HF5.out nq)
    clear HF5 HG5 a3 a5 a6
    generalize f nq = wd at *
    unfold Exit.then
    go_wp2_with fail
    go_ret
    refine ⟨ret_bool ?_, Hd.out⟩
    first | rfl | (rw [Bool.true_and, decide_eq_decide]; constructor <;> intro _ <;> omega)
end Go.Proofs.YtakaielemicpkaaGreatDoor
namespace Go.Proofs.YtakaielemicpkaaGreatDoor
open Go.RowKit
structure Av (α : Type) (P : Nat → Prop) where
 x : α
instance instRepAv (α : Type) [Rep α] (P : Nat → Prop) : Rep (Av α P) where
 size := Rep.size α
 R w S cs y := Rep.R w (fun b => S b ∧ P b) cs y.x
 len h := Rep.len (α := α) h
 one h := Rep.one (α := α) h
 keep h hk := Rep.keep (α := α) h (fun i hi hlt => hk i hi.1 hlt)
 mono h hS := Rep.mono (α := α) h (fun i hi hlt => ⟨hS i hi.1 hlt, hi.2⟩)
structure OwnP {α : Type} [Rep α] (w : World) (base : Nat) (e : TypeId) (v : Value) (l : List α) (P : Nat → Prop) : Prop where
 own : Own w base e v (l.map (Av.mk : α → Av α P))
 at_ : ∀ g, v.ownBlock = some g → P g
section
variable {α : Type} [Rep α] {P Q : Nat → Prop} {w w' : World} {base : Nat} {e : TypeId} {v : Value} {l : List α}
theorem size_av : Rep.size (Av α P) = Rep.size α := rfl
theorem OwnP.nil (w : World) (base : Nat) (e : TypeId) (P : Nat → Prop) : OwnP w base e (.slice none 0 0) ([] : List α) P := ⟨Own.nil _ _ _, by simp [Value.ownBlock]⟩
theorem OwnP.kept (h : OwnP w base e v l P) (hk : Kept P w w') : OwnP w' base e v l P := by
 obtain ⟨⟨xs, hx, ho, hr⟩, ha⟩ := h
 refine ⟨⟨xs, ⟨hx.1, ?_⟩, ho, fun i hi => Rep.keep (α := α) (hr i hi) (fun b hb hl => hk b hb.2 hl)⟩, ha⟩
 rcases hx.2 with hn | ⟨g, cap, cur, hv, hb, hg, rest⟩
 ·exact .inl hn
 ·refine .inr ⟨g, cap, cur, hv, hb, ?_, rest⟩
  rw [hk g (ha g (by rw [hv]; rfl)) (Array.getElem?_eq_some_iff.1 hg).1]; exact hg
theorem OwnP.below (h : OwnP w base e v l P) (hb : Below w.heap.size w w') : OwnP w' base e v l P := h.kept (Kept.all hb)
theorem OwnP.grown {row : Option Nat} (h : OwnP w base e v l P) (hg : w.grownBy w' row) (hP : ∀ i, P i → some i ≠ row) : OwnP w' base e v l P := h.kept (Kept.grown hg hP)
theorem OwnP.set (h : OwnP w base e v l P) (b o : Nat) (u : Value) (hP : ∀ i, P i → i ≠ b) : OwnP (w.setCell ⟨b, o, none⟩ u) base e v l P :=
 h.kept (fun i hi _ => heap_set w b o u (hP i hi))
theorem OwnP.lt (h : OwnP w base e v l P) : ∀ k, v.ownBlock = some k → base ≤ k ∧ k < w.heap.size := h.own.lt
theorem OwnP.mono (h : OwnP w base e v l P) (hPQ : ∀ i, P i → i < w.heap.size → Q i) : OwnP w base e v l Q := by
 have hlt := h.own.lt
 obtain ⟨⟨xs, hx, ho, hr⟩, ha⟩ := h
 refine ⟨⟨xs, by rw [List.length_map] at hx ⊢; exact hx, ho, fun i hi => ?_⟩, fun g hg => hPQ g (ha g hg) (hlt g hg).2⟩
 rw [List.length_map] at hi
 have h1 := hr i (by rw [List.length_map]; exact hi)
 rw [List.getElem_map] at h1 ⊢
 exact Rep.mono (α := α) h1 (fun b hb hl => ⟨hb.1, hPQ b hb.2 hl⟩)
theorem OwnP.plain (h : OwnP w base e v l P) : Own w base e v l := by
 obtain ⟨⟨xs, hx, ho, hr⟩, ha⟩ := h
 refine ⟨xs, by rw [List.length_map] at hx; exact hx, ho, fun i hi => ?_⟩
 have h1 := hr i (by rw [List.length_map]; exact hi)
 rw [List.getElem_map] at h1
 exact Rep.mono (α := α) h1 (fun b hb _ => hb.1)
theorem OwnP.len (h : OwnP w base e v l P) : ∃ A c, v = .slice A l.length c ∧ (∀ a, A = some a → base ≤ a.block ∧ a.block < w.heap.size) ∧ l.length ≤ c ∧ c ≤ maxLen := h.plain.form
theorem OwnP.sl (h : OwnP w base e v l P) : ∃ A c, v = .slice A l.length c ∧ Sl w P A c l := by
 obtain ⟨⟨xs, hx, ho, hr⟩, ha⟩ := h
 rcases hx.2 with ⟨rfl, hn⟩ | ⟨g, cap, cur, rfl, hb, hg, hnc, hcm, hcs, htake⟩
 ·rw [List.length_map] at hn
  exact ⟨none, 0, by rw [hn], by omega, by simp [maxLen], fun h => absurd h (by omega)⟩
 ·rw [List.length_map] at hnc htake
  have hlt := (Array.getElem?_eq_some_iff.1 hg).1
  refine ⟨some ⟨g, 0, none⟩, cap, by rw [List.length_map], hnc, hcm, fun _ => ⟨g, 0, rfl, ha g rfl, hlt, fun i hi => ?_⟩⟩
  have h1 := hr i (by rw [List.length_map]; exact hi)
  rw [List.getElem_map] at h1
  refine ⟨_, Rep.mono (α := α) h1 (fun b hb' _ => hb'.2), fun j u hu => ?_⟩
  rw [Nat.zero_add, cell_of_row w g _ cur e (0, 0) hg]
  rw [List.getElem?_take] at hu
  split at hu
  ·rename_i hj
   rw [List.getElem?_drop] at hu
   have hu2 : xs[i * Rep.size α + j]? = some u := hu
   have hlx : i * Rep.size α + j < xs.length := (List.getElem?_eq_some_iff.1 hu2).1
   have hxl : xs.length = l.length * Rep.size α := by have := hx.1; rw [List.length_map] at this; exact this
   have e2 : cur.toList[i * Rep.size α + j]? = some u := by
    have h3 : (cur.toList.take (l.length * Rep.size α))[i * Rep.size α + j]? = some u := by
     have h4 := congrArg (fun t : List Value => t[i * Rep.size α + j]?) htake
     simp only [size_av] at h4
     rw [h4]; exact hu2
    rw [List.getElem?_take] at h3
    split at h3
    ·exact h3
    ·cases h3
   simpa using e2
  ·cases hu
theorem OwnP.ofBd (h : Own w base e v (l.map (Av.mk : α → Av α P))) (ha : ∀ g, v.ownBlock = some g → P g) : OwnP w base e v l P := ⟨h, ha⟩
end
end Go.Proofs.YtakaielemicpkaaGreatDoor
namespace Go.Proofs.YtakaielemicpkaaGreatDoor
open Go.RowKit
section
variable {α : Type} [Rep α] {P : Nat → Prop} {w w' : World} {base : Nat} {e : TypeId} {v : Value}
theorem Own.keptA {l : List (Av α P)} (h : Own w base e v l) (hk : Kept P w w') (ha : ∀ g, v.ownBlock = some g → g < w.heap.size → w'.heap[g]? = w.heap[g]?) : Own w' base e v l := by
 obtain ⟨xs, hx, ho, hr⟩ := h
 refine ⟨xs, ⟨hx.1, ?_⟩, ho, fun i hi => Rep.keep (α := α) (hr i hi) (fun b hb hl => hk b hb.2 hl)⟩
 rcases hx.2 with hn | ⟨g, cap, cur, hv, hb, hg, rest⟩
 ·exact .inl hn
 ·refine .inr ⟨g, cap, cur, hv, hb, ?_, rest⟩
  rw [ha g (by rw [hv]; rfl) (Array.getElem?_eq_some_iff.1 hg).1]; exact hg
theorem Que.keptA {ob : Option Nat} {l : List (Av α P)} (h : Que w base e ob v l) (hk : Kept P w w') (ha : ∀ g, ob = some g → g < w.heap.size → w'.heap[g]? = w.heap[g]?) : Que w' base e ob v l := by
 rcases h with ⟨pre, g, c, rfl, hlt, ho, rfl⟩ | ⟨rfl, rfl, A, rfl⟩
 ·exact .inl ⟨pre, g, c, rfl, hlt, ho.keptA hk (fun g' hg' => ha g' hg'), rfl⟩
 ·exact .inr ⟨rfl, rfl, A, rfl⟩
theorem Sl.av {S : Nat → Prop} {A : Option Addr} {c : Nat} {l : List α} (h : Sl w S A c l) (hS : ∀ i, S i → i < w.heap.size → P i) : Sl w S A c (l.map (Av.mk : α → Av α P)) := by
 refine ⟨by rw [List.length_map]; exact h.1, h.2.1, fun h0 => ?_⟩
 rw [List.length_map] at h0
 obtain ⟨b, o, rfl, hb, hlt, hx⟩ := h.2.2 h0
 refine ⟨b, o, rfl, hb, hlt, fun i hi => ?_⟩
 rw [List.length_map] at hi
 obtain ⟨es, hr, hc⟩ := hx i hi
 rw [List.getElem_map]
 exact ⟨es, Rep.mono (α := α) hr (fun b hb hl => ⟨hb, hS b hb hl⟩), hc⟩
theorem Sl.unav {S : Nat → Prop} {A : Option Addr} {c : Nat} {l : List α} (h : Sl w S A c (l.map (Av.mk : α → Av α P))) : Sl w S A c l := by
 refine ⟨by have := h.1; rw [List.length_map] at this; exact this, h.2.1, fun h0 => ?_⟩
 obtain ⟨b, o, rfl, hb, hlt, hx⟩ := h.2.2 (by rw [List.length_map]; exact h0)
 refine ⟨b, o, rfl, hb, hlt, fun i hi => ?_⟩
 obtain ⟨es, hr, hc⟩ := hx i (by rw [List.length_map]; exact hi)
 rw [List.getElem_map] at hr
 exact ⟨es, Rep.mono (α := α) hr (fun b hb hl => hb.1), hc⟩
theorem OwnP.pushed {l : List α} {d : α} {v' : Value} {H : Nat} (h : OwnP w base e v l P) (h2 : Own w' base e v' (l.map (Av.mk : α → Av α P) ++ [⟨d⟩])) (hat : ∀ g, v'.ownBlock = some g → v.ownBlock = some g ∨ g = H) (hH : P H) : OwnP w' base e v' (l ++ [d]) P :=
 ⟨by rw [List.map_append]; exact h2, fun g hg => (hat g hg).elim (h.at_ g) (fun e => e ▸ hH)⟩
end
def PBk (B : Nat) (X : List Nat) (ob : Option Nat) (b : Nat) : Prop := B ≤ b ∧ b ∉ X ∧ some b ≠ ob
abbrev OldL (B : Nat) := Av LineP (fun b => b < B)
structure PO (w0 w : World) (Bb Hb Qb : Nat) (X : List Nat) (A : Option Addr) (c : Nat) (body : List LineP) (h : Nat) (ob : Option Nat) (qv : Value) (queue : List LineP) (pv : Value) (pages : List PageP) : Prop where
 bl : Below w0.heap.size w0 w
 bb : ABox w Bb 34 [.slice A body.length c]
 bs : Sl w (fun b => b < w0.heap.size) A c body
 hb : ABox w Hb 3 [.int .i64 (h : Int)]
 qb : ABox w Qb 34 [qv]
 q : Que w w0.heap.size 88 ob qv (queue.map (Av.mk : LineP → OldL w0.heap.size))
 pg : OwnP w w0.heap.size 36 pv pages (PBk w0.heap.size (Bb :: Hb :: Qb :: X) ob)
 nd : (Bb :: Hb :: Qb :: X).Nodup
 ge : ∀ x ∈ Bb :: Hb :: Qb :: X, w0.heap.size ≤ x ∧ x < w.heap.size ∧ some x ≠ ob
section
variable {w0 w w' : World} {Bb Hb Qb : Nat} {X : List Nat} {A : Option Addr} {c : Nat} {body : List LineP} {h : Nat} {ob : Option Nat} {qv : Value} {queue : List LineP} {pv : Value} {pages : List PageP}
theorem PO.to (H : PO w0 w Bb Hb Qb X A c body h ob qv queue pv pages) (hb : Below w.heap.size w w') : PO w0 w' Bb Hb Qb X A c body h ob qv queue pv pages :=
 ⟨H.bl.trans (hb.mono H.bl.size), H.bb.to hb, H.bs.keep (Kept.all hb) hb.size, H.hb.to hb, H.qb.to hb, H.q.below hb, H.pg.below hb, H.nd, fun x hx => ⟨(H.ge x hx).1, by have := (H.ge x hx).2.1; have := hb.size; omega, (H.ge x hx).2.2⟩⟩
theorem PO.set (H : PO w0 w Bb Hb Qb X A c body h ob qv queue pv pages) {x : Nat} (hx : x ∈ X) (u : Value) : PO w0 (w.setCell ⟨x, 0, none⟩ u) Bb Hb Qb X A c body h ob qv queue pv pages := by
 have hn := H.nd
 simp only [List.nodup_cons, List.mem_cons, not_or] at hn
 have n1 : Bb ≠ x := fun e => hn.1.2.2 (e ▸ hx)
 have n2 : Hb ≠ x := fun e => hn.2.1.2 (e ▸ hx)
 have n3 : Qb ≠ x := fun e => hn.2.2.1 (e ▸ hx)
 have hxx : x ∈ Bb :: Hb :: Qb :: X := by simp [hx]
 have hg := H.ge x hxx
 have hold : Kept (fun b => b < w0.heap.size) w (w.setCell ⟨x, 0, none⟩ u) := fun i hi _ => heap_set w x 0 u (by omega)
 refine ⟨H.bl.setCell (p := ⟨x, 0, none⟩) hg.1 _, H.bb.other n1 _ _, H.bs.keep hold (by simp), H.hb.other n2 _ _, H.qb.other n3 _ _, H.q.keptA hold (fun g hg' _ => heap_set w x 0 u (fun e => hg.2.2 (e ▸ hg'.symm))), H.pg.set x 0 u (fun i hi e => hi.2.1 (e ▸ hxx)), H.nd, fun y hy => ⟨(H.ge y hy).1, by simpa using (H.ge y hy).2.1, (H.ge y hy).2.2⟩⟩
theorem PO.que (H : PO w0 w Bb Hb Qb X A c body h ob qv queue pv pages) {ob' : Option Nat} {qv' : Value} {queue' : List LineP} (hg : w.grownBy w' ob) (hq : Que w' w0.heap.size 88 ob' qv' (queue'.map (Av.mk : LineP → OldL w0.heap.size)))
  (hob : ob' = ob ∨ ob' = some w.heap.size) : PO w0 (w'.setCell ⟨Qb, 0, none⟩ qv') Bb Hb Qb X A c body h ob' qv' queue' pv pages := by
 have hn := H.nd
 simp only [List.nodup_cons, List.mem_cons, not_or] at hn
 have n1 : Bb ≠ Qb := fun e => hn.1.2.1 e
 have n2 : Hb ≠ Qb := fun e => hn.2.1.1 e
 have gB := H.ge Bb (by simp)
 have gH := H.ge Hb (by simp)
 have gQ := H.ge Qb (by simp)
 have hol := H.q.lt
 have hsz := hg.size
 have hne : ∀ x ∈ Bb :: Hb :: Qb :: X, some x ≠ ob' := fun x hx => by
  rcases hob with e | e
  ·rw [e]; exact (H.ge x hx).2.2
  ·rw [e]; intro e2; injection e2 with e2; have := (H.ge x hx).2.1; omega
 have hold : Kept (fun b => b < w0.heap.size) w w' := Kept.grown hg (fun i hi e => by have := (hol i e.symm).1; omega)
 have hold2 : Kept (fun b => b < w0.heap.size) w' (w'.setCell ⟨Qb, 0, none⟩ qv') := fun i hi _ => heap_set w' Qb 0 qv' (by omega)
 have box : ∀ {x t cs}, x ∈ Bb :: Hb :: Qb :: X → ABox w x t cs → ABox w' x t cs := fun hx hb => (hg.block _ (H.ge _ hx).2.1 (H.ge _ hx).2.2).trans hb
 have hpg : OwnP w' w0.heap.size 36 pv pages (PBk w0.heap.size (Bb :: Hb :: Qb :: X) ob') :=
  (H.pg.mono (Q := fun b => PBk w0.heap.size (Bb :: Hb :: Qb :: X) ob b ∧ PBk w0.heap.size (Bb :: Hb :: Qb :: X) ob' b) (fun i hi hl => ⟨hi, hi.1, hi.2.1, by
   rcases hob with e | e
   ·rw [e]; exact hi.2.2
   ·rw [e]; intro e2; injection e2 with e2; omega⟩)).kept (Kept.grown hg (fun i hi => hi.1.2.2)) |>.mono (fun i hi _ => hi.2)
 refine ⟨(H.bl.grown hg H.bl.size (fun k hk => (hol k hk).1)).setCell (p := ⟨Qb, 0, none⟩) gQ.1 _, (box (by simp) H.bb).other n1 _ _, (H.bs.keep hold hsz).keep hold2 (by simp), (box (by simp) H.hb).other n2 _ _, ?_,
  hq.keptA hold2 (fun g hg' _ => heap_set w' Qb 0 qv' (fun e => hne Qb (by simp) (e ▸ hg'.symm))), hpg.set Qb 0 qv' (fun i hi e => hi.2.1 (by simp [e])), H.nd,
  fun y hy => ⟨(H.ge y hy).1, by have := (H.ge y hy).2.1; simp; omega, hne y hy⟩⟩
 have := (box (by simp) H.qb).set 0 qv'
 simpa using this
theorem PO.more (H : PO w0 w Bb Hb Qb [] A c body h ob qv queue pv pages) (hb : Below w.heap.size w w') {Y : List Nat} (hY : ∀ y ∈ Y, w.heap.size ≤ y ∧ y < w'.heap.size) (hn : Y.Nodup) : PO w0 w' Bb Hb Qb Y A c body h ob qv queue pv pages := by
 have H1 := H.to hb
 have hno : ∀ x ∈ [Bb, Hb, Qb], x ∉ Y := fun x hx hy => by have := (H.ge x (by simpa using hx)).2.1; have := (hY x hy).1; omega
 have hol := H.q.lt
 refine ⟨H1.bl, H1.bb, H1.bs, H1.hb, H1.qb, H1.q, ?_, ?_, ?_⟩
 ·refine (H.pg.mono (fun i hi hl => ⟨hi.1, ?_, hi.2.2⟩)).below hb
  intro hm
  have : i ∈ [Bb, Hb, Qb] ∨ i ∈ Y := by simp only [List.mem_cons] at hm ⊢; simp; rcases hm with h | h | h | h <;> simp [h]
  rcases this with h1 | h1
  ·exact hi.2.1 h1
  ·have := (hY i h1).1; omega
 ·have := H.nd
  simp only [List.nodup_cons, List.mem_cons, not_or] at this ⊢
  refine ⟨⟨this.1.1, this.1.2.1, hno Bb (by simp)⟩, ⟨this.2.1.1, hno Hb (by simp)⟩, hno Qb (by simp), hn⟩
 ·intro x hx
  by_cases hm : x ∈ [Bb, Hb, Qb]
  ·exact H1.ge x hm
  ·have hy : x ∈ Y := by simp only [List.mem_cons, not_or] at hx hm; rcases hx with h | h | h | h <;> simp_all
   refine ⟨by have := (hY x hy).1; have := H.bl.size; omega, (hY x hy).2, fun e => ?_⟩
   have := (hol x e.symm).2
   have := (hY x hy).1
   omega
theorem PO.less (H : PO w0 w Bb Hb Qb X A c body h ob qv queue pv pages) : PO w0 w Bb Hb Qb [] A c body h ob qv queue pv pages := by
 refine ⟨H.bl, H.bb, H.bs, H.hb, H.qb, H.q, H.pg.mono (fun i hi _ => ⟨hi.1, fun hm => hi.2.1 ?_, hi.2.2⟩), ?_, fun x hx => H.ge x ?_⟩
 ·simp only [List.mem_cons] at hm ⊢; rcases hm with h | h | h | h <;> simp_all
 ·have := H.nd
  simp only [List.nodup_cons, List.mem_cons, not_or] at this ⊢
  simp_all
 ·simp only [List.mem_cons] at hx ⊢; rcases hx with h | h | h | h <;> simp_all
theorem PO.page (H : PO w0 w Bb Hb Qb X A c body h ob qv queue pv pages) {pv' : Value} {d : PageP} (hg : w.grownBy w' pv.ownBlock) (h2 : Own w' w0.heap.size 36 pv' (pages.map (Av.mk : PageP → Av PageP (PBk w0.heap.size (Bb :: Hb :: Qb :: X) ob)) ++ [⟨d⟩]))
  (hat : ∀ g, pv'.ownBlock = some g → pv.ownBlock = some g ∨ g = w.heap.size) : PO w0 w' Bb Hb Qb X A c body h ob qv queue pv' (pages ++ [d]) := by
 have hpl := H.pg.lt
 have hpa := H.pg.at_
 have hsz := hg.size
 have hol := H.q.lt
 have hold : Kept (fun b => b < w0.heap.size) w w' := Kept.grown hg (fun i hi e => by have := (hpl i e.symm).1; omega)
 have box : ∀ {x t cs}, x ∈ Bb :: Hb :: Qb :: X → ABox w x t cs → ABox w' x t cs := fun {x t cs} hx hb => (hg.block _ (H.ge _ hx).2.1 (fun e => (hpa x e.symm).2.1 hx)).trans hb
 refine ⟨H.bl.grown hg H.bl.size (fun k hk => (hpl k hk).1), box (by simp) H.bb, H.bs.keep hold hsz, box (by simp) H.hb, box (by simp) H.qb,
  H.q.keptA hold (fun g hg' hl => hg.block g hl (fun e => (hpa g e.symm).2.2 hg'.symm)), H.pg.pushed h2 hat ⟨H.bl.size, fun hx => by have := (H.ge _ hx).2.1; omega, fun e => by have := (hol _ e.symm).2; omega⟩, H.nd,
  fun y hy => ⟨(H.ge y hy).1, by have := (H.ge y hy).2.1; omega, (H.ge y hy).2.2⟩⟩
theorem PO.cut (H : PO w0 w Bb Hb Qb X A c body h ob qv queue pv pages) {A' : Option Addr} {c' n : Nat} {body' : List LineP} {ob' : Option Nat} {qv' : Value} {queue' : List LineP} (hbs : Sl w (fun b => b < w0.heap.size) A' c' body') (hn : n = body'.length)
  (hq : Que w w0.heap.size 88 ob' qv' (queue'.map (Av.mk : LineP → OldL w0.heap.size))) (hob : ob' = none ∨ ob' = ob) :
  PO w0 ((w.setCell ⟨Bb, 0, none⟩ (.slice A' n c')).setCell ⟨Qb, 0, none⟩ qv') Bb Hb Qb X A' c' body' h ob' qv' queue' pv pages := by
 subst hn
 have hn := H.nd
 simp only [List.nodup_cons, List.mem_cons, not_or] at hn
 have n1 : Bb ≠ Qb := hn.1.2.1
 have n2 : Hb ≠ Qb := hn.2.1.1
 have n3 : Hb ≠ Bb := fun e => hn.1.1 e.symm
 have n4 : Qb ≠ Bb := fun e => n1 e.symm
 have gB := H.ge Bb (by simp)
 have gQ := H.ge Qb (by simp)
 have hold : Kept (fun b => b < w0.heap.size) w ((w.setCell ⟨Bb, 0, none⟩ (.slice A' body'.length c')).setCell ⟨Qb, 0, none⟩ qv') := fun i hi _ => (heap_set _ Qb 0 _ (by omega)).trans (heap_set w Bb 0 _ (by omega))
 have hne : ∀ x, some x ≠ ob → some x ≠ ob' := fun x hx => by
  rcases hob with e | e
  ·rw [e]; simp
  ·rw [e]; exact hx
 have hpg : OwnP w w0.heap.size 36 pv pages (PBk w0.heap.size (Bb :: Hb :: Qb :: X) ob') := H.pg.mono (fun i hi _ => ⟨hi.1, hi.2.1, hne i hi.2.2⟩)
 refine ⟨(H.bl.setCell (p := ⟨Bb, 0, none⟩) gB.1 _).setCell (p := ⟨Qb, 0, none⟩) gQ.1 _, ?_, hbs.keep hold (by simp), (H.hb.other n3 _ _).other n2 _ _, ?_, hq.keptA hold (fun g hg' _ => ?_), (hpg.set Bb 0 _ (fun i hi e => hi.2.1 (by simp [e]))).set Qb 0 _ (fun i hi e => hi.2.1 (by simp [e])), H.nd,
  fun y hy => ⟨(H.ge y hy).1, by have := (H.ge y hy).2.1; simpa using this, hne y (H.ge y hy).2.2⟩⟩
 ·have := (H.bb.set 0 (.slice A' body'.length c')).other n1 0 qv'
  simpa using this
 ·have := (H.qb.other n4 0 (.slice A' body'.length c')).set 0 qv'
  simpa using this
 ·refine (heap_set _ Qb 0 _ (fun e => ?_)).trans (heap_set w Bb 0 _ (fun e => ?_))
  ·exact hne Qb gQ.2.2 (e ▸ hg'.symm)
  ·exact hne Bb gB.2.2 (e ▸ hg'.symm)
end
end Go.Proofs.YtakaielemicpkaaGreatDoor
namespace Go.Proofs.YtakaielemicpkaaGreatDoor
open Go.RowKit
section
variable {P : Program} {ops : Array Oper} {Q : Exit → Act → World → Prop} {md : Region.Mode} {C : World → Prop} {hs : List Nat} {Rl : World → World → Prop} {Φ : Nat → SPR Rl} {m : Nat}
def kindP (hs : List Nat) (m : Nat) (pre : List Nat) (k : Nat) : Nat := if Nat.beq k m then 2 else if pre.contains k then 3 else if hs.contains k then 1 else 0
def wpRP (P : Program) (md : Region.Mode) (ops : Array Oper) (C : World → Prop) (hs : List Nat) {Rl : World → World → Prop} (Φ : Nat → SPR Rl) (m : Nat) (pre : List Nat) (fin : Act → (Nat → World → Prop) → Prop) : List Oper → Nat → Act → (Nat → World → Prop) → Prop
 | [], _, a, G => fin a G
 | o :: l, k, a, G =>
  if kindP hs m pre k = 2 then fin a G
  else if kindP hs m pre k = 3 then wpRP P md ops C hs Φ m pre fin l (k + 1) a G
  else if Region.wanted o (yielded ops a.tmps) = true then
   if kindP hs m pre k = 1 then Safe P md ops C Φ k o a G ∧ ∀ v, Joint C G ((Φ k).p v) → wpRP P md ops C hs Φ m pre fin l (k + 1) (a.put o.dst v) (updG G k ((Φ k).p v))
   else o.quiet P a C (fun a' => wpRP P md ops C hs Φ m pre fin l (k + 1) a' G)
  else wpRP P md ops C hs Φ m pre fin l (k + 1) (a.put o.dst undef) G
structure WP (P : Program) (md : Region.Mode) (ops : Array Oper) (C : World → Prop) {Rl : World → World → Prop} (hs : List Nat) (Φ : Nat → SPR Rl) (m : Nat) (pre : List Nat) (fin : Act → (Nat → World → Prop) → Prop) (l : List Oper) (k : Nat) (a : Act) (G : Nat → World → Prop) : Prop where
 h : wpRP P md ops C hs Φ m pre fin l k a G
end
section
variable {P : Program} {ops : Array Oper} {Q : Exit → Act → World → Prop} {md : Region.Mode} {C : World → Prop} {hs : List Nat} {Rl : World → World → Prop} {Φ : Nat → SPR Rl} {m : Nat} {pre : List Nat} {fin : Act → (Nat → World → Prop) → Prop} {T : Type} {f : T → World} {a : Act} {G : Nat → World → Prop} {o : Oper} {l : List Oper} {k : Nat}
end
end Go.Proofs.YtakaielemicpkaaGreatDoor
namespace Go.Proofs.YtakaielemicpkaaGreatDoor
open Go.RowKit
theorem own_keepI {w w' : World} {base : Nat} {e : TypeId} {v : Value} {l : List Int} (h : Own w base e v l) (hk : ∀ g, v.ownBlock = some g → w'.heap[g]? = w.heap[g]?) : Own w' base e v l := by
 obtain ⟨xs, hx, ho, hr⟩ := h
 refine ⟨xs, ⟨hx.1, ?_⟩, ho, fun i hi => hr i hi⟩
 rcases hx.2 with hn | ⟨g, cap, cur, rfl, hb, hg, rest⟩
 ·exact .inl hn
 ·exact .inr ⟨g, cap, cur, rfl, hb, (hk g rfl).trans hg, rest⟩
theorem own_ne {α : Type} [Rep α] {w : World} {B b : Nat} {e e' : TypeId} {v : Value} {l : List α} {cs : Array Value} {fr : Nat × Nat} (h : Own w B e v l) (hb : w.heap[b]? = some (.cells cs e' fr)) (hne : e ≠ e') : v.ownBlock ≠ some b := by
 obtain ⟨xs, hx, _⟩ := h
 rcases hx.2 with ⟨rfl, _⟩ | ⟨g, cap, cur, rfl, _, hg, _⟩
 ·simp [Value.ownBlock]
 ·intro he
  have : g = b := by simpa [Value.ownBlock] using he
  subst this
  rw [hg] at hb
  cases hb
  exact hne rfl
theorem cutL_snoc {α : Type} (l : List α) {i j : Nat} (h : i ≤ j) (hj : j < l.length) : cutL l i (j + 1) = cutL l i j ++ [l[j]] := by
 unfold cutL
 rw [List.take_succ_eq_append_getElem hj, List.drop_append_of_le_length (by rw [List.length_take]; omega)]
theorem cutL_nil {α : Type} (l : List α) (i : Nat) : cutL l i i = [] := by
 unfold cutL
 exact List.drop_of_length_le (by rw [List.length_take]; omega)
theorem notesP_one (x : Word) : notesP [x] = if x.n ≠ 0 then [x.n - 1] else [] := by
 unfold notesP
 by_cases h : x.n = 0 <;> simp [h]
theorem lit_int {w : World} {b : Nat} {t : TypeId} {x : Int} {S : Nat → Prop} (h : w.heap[b]? = some (.cells #[.int .i64 x] t (0, 0))) (hx : I64 x) (hS : S b) : Sl w S (some ⟨b, 0, none⟩) 1 [x] :=
 Sl.block (l := [x]) h hS (by simp [maxLen]) (fun i hi => by
  obtain rfl : i = 0 := by simpa using hi
  exact ⟨rfl, hx⟩)
end Go.Proofs.YtakaielemicpkaaGreatDoor
namespace Go.Proofs.YtakaielemicpkaaGreatDoor
open Go.RowKit
def vocab : List ByteArray := [⟨#[97]⟩, ⟨#[116, 104, 101]⟩, ⟨#[99, 111, 117, 114, 116]⟩, ⟨#[119, 105, 108, 108]⟩, ⟨#[104, 101, 97, 114]⟩, ⟨#[109, 111, 116, 105, 111, 110]⟩, ⟨#[111, 102]⟩, ⟨#[112, 108, 97, 105, 110, 116, 105, 102, 102]⟩, ⟨#[77, 46, 73, 46, 84, 46]⟩, ⟨#[82, 117, 108, 101]⟩, ⟨#[49, 50, 40, 98, 41]⟩, ⟨#[100, 105, 115, 109, 105, 115, 115, 101, 100]⟩, ⟨#[119, 105, 116, 104]⟩, ⟨#[112, 114, 101, 106, 117, 100, 105, 99, 101]⟩, ⟨#[97, 110, 100]⟩, ⟨#[99, 111, 115, 116, 115]⟩, ⟨#[87, 87, 87, 64, 87]⟩, ⟨#[105, 116]⟩, ⟨#[105, 115]⟩, ⟨#[115, 111]⟩, ⟨#[111, 114, 100, 101, 114, 101, 100, 46]⟩, ⟨#[97, 98, 99, 100, 101, 102, 103, 104, 105, 106, 107, 108, 109, 110, 111, 112, 113, 114, 115, 116, 117, 118, 119, 120, 121, 122, 97, 98, 99, 100, 101, 102, 103, 104, 105, 106, 107, 108, 109, 110]⟩]
def keysV : List ByteArray := [⟨#[99, 111, 115, 116, 115]⟩, ⟨#[109, 111, 116, 105, 111, 110]⟩, ⟨#[82, 117, 108, 101]⟩, ⟨#[115, 109, 105, 116, 104]⟩]
def Good (x : Word) : Prop := valid x.s = true ∧ (x.key = ⟨#[]⟩ ∨ valid x.key = true) ∧ (x.t = 0 ∨ x.t = 1)
theorem vocab_good : vocab.all valid = true := by decide +kernel
theorem keysV_good : keysV.all valid = true := by decide +kernel
theorem lits_at {l : List ByteArray} (hl : l.all valid = true) (j : Nat) (hj : j < l.length) : ∃ s, (l.map Value.string)[j]? = some (.string s) ∧ valid s = true :=
 ⟨l[j], by simp [hj], (List.all_eq_true.1 hl) _ (List.getElem_mem hj)⟩
set_option maxRecDepth 100000 in
set_option maxHeartbeats 2000000 in
theorem one_any (n : Nat) (hn : n ≤ 16777216) (w : World) :
  Calls Tryz.prog 106 #[.int .i64 (n : Int)] w fun e w' => ∃ x : Word, e = .returned x.val ∧ Good x ∧ x.n = 0 ∧ Below w.heap.size w w' := by
 have hb : (n : Int) ≤ 16777216 := by omega
 have h0 : 0 ≤ (n : Int) := by omega
 obtain ⟨s, c0, hs⟩ := lits_at vocab_good (n % 22) (Nat.mod_lt _ (by decide))
 simp only [vocab, List.map_cons, List.map_nil] at c0
 have HS := Lib.hid hs
 clear hs
 go_enter Tryz.func106, Tryz.ntmps106
 by_cases hk : n / 22 % 6 = 0
 ·obtain ⟨key, k0, hkey⟩ := lits_at keysV_good (n / 132 % 4) (Nat.mod_lt _ (by decide))
  simp only [keysV, List.map_cons, List.map_nil] at k0
  have hk' : (n : Int) / 22 % 6 = 0 := by omega
  have HK := Lib.hid hkey
  clear hk hkey
  go_wp2_with fail
  refine bodyPost_ret (v := .agg #[.string s, .string key, .int .i64 (↑n / 528 % 2), .int .i64 0]) (by simp [results, Tryz.results106, go_sem]) rfl ⟨⟨s, key, (n : Int) / 528 % 2, 0⟩, rfl, ⟨HS.out, .inr HK.out, ?_⟩, rfl, ?_⟩
  ·show (n : Int) / 528 % 2 = 0 ∨ (n : Int) / 528 % 2 = 1
   omega
  ·exact (((((Below.refl _ _).alloc (Nat.le_refl _) _).alloc (by simp) _).alloc (by simp; omega) _).alloc (by simp; omega) _)
 ·have hk' : ¬ (n : Int) / 22 % 6 = 0 := by omega
  clear hk
  go_wp2_with fail
  refine bodyPost_ret (v := .agg #[.string s, .string ⟨#[]⟩, .int .i64 0, .int .i64 0]) (by simp [results, Tryz.results106, go_sem]) rfl ⟨⟨s, ⟨#[]⟩, 0, 0⟩, rfl, ⟨HS.out, .inl rfl, .inl rfl⟩, rfl, ?_⟩
  exact ((((Below.refl _ _).alloc (Nat.le_refl _) _).alloc (by simp) _).alloc (by simp; omega) _)
theorem valid_size {s : ByteArray} (h : valid s = true) : s.size ≤ 40 := by
 unfold valid at h
 rw [Bool.and_eq_true, decide_eq_true_iff] at h
 exact h.1.2
theorem good_ok {x : Word} (h : Good x) (h0 : x.n = 0) : x.ok := by
 have h1 := valid_size h.1
 refine ⟨by unfold maxLen; omega, ?_, ?_, by rw [h0]; exact ⟨by decide, by decide⟩⟩
 ·rcases h.2.1 with e | e
  ·rw [e]; decide
  ·have := valid_size e; unfold maxLen; omega
 ·rcases h.2.2 with e | e <;> rw [e] <;> exact ⟨by decide, by decide⟩
theorem word_info : (Tryz.prog.info? 104).map (fun i => (i.zero, i.size, i.bytes)) = some (some (.agg #[.string ⟨#[]⟩, .string ⟨#[]⟩, .int .i64 0, .int .i64 0]), Rep.size Word, 48) := by kernel_rfl
set_option maxHeartbeats 1000000 in
theorem part_any (n most : Nat) (hn : n ≤ 1000000) (hm : 1 ≤ most) (hm2 : most ≤ 1000) (w : World) :
  Calls Tryz.prog 84 #[.int .i64 (n : Int), .int .i64 (most : Int)] w fun e w' => ∃ v, e = .returned v ∧ ∃ l : List Word, Own w' w.heap.size 104 v l ∧ l.length = 1 + n % most ∧ (∀ x ∈ l, Good x ∧ x.n = 0) ∧ Below w.heap.size w w' := by
 have h1 : (n : Int) ≤ 1000000 := by omega
 have h0 : 0 ≤ (n : Int) := by omega
 have h2 : (most : Int) ≤ 1000 := by omega
 have h3 : 1 ≤ (most : Int) := by omega
 have h4 : (most : Int) ≠ 0 := by omega
 go_enter Tryz.func84, Tryz.ntmps84
 go_wp2_with fail
 obtain ⟨z0, hz0⟩ : ∃ z, z = bits BinOp.or IntKind.u32 (↑n) 1 := ⟨_, rfl⟩
 have hz1 : 0 ≤ z0 := by rw [hz0]; exact bits_lo_u32 ..
 have hz2 : z0 ≤ 4294967295 := by rw [hz0]; exact bits_hi_u32 ..
 rw [← hz0]
 clear hz0
 have hq : (n : Int) % (most : Int) = ((n % most : Nat) : Int) := by omega
 have hql : n % most < most := Nat.mod_lt _ hm
 obtain ⟨q, hqe⟩ : ∃ q, q = n % most := ⟨_, rfl⟩
 rw [← hqe] at hq hql
 have HQ2 := Lib.hid hqe
 clear hqe
 have HQ := Lib.hid hq
 have hq2 : ((n : Int) % (most : Int)) < 1000 := by omega
 have hq3 : 0 ≤ ((n : Int) % (most : Int)) := by omega
 clear hq
 go_loopw [5, 6, 7] (fun x v i wr => ∃ k : Nat, k ≤ 1 + q ∧ i = .int .i64 k ∧ (∃ z : Int, x = .int .u32 z ∧ 0 ≤ z ∧ z ≤ 4294967295) ∧ (∃ l : List Word, Own wr w.heap.size 104 v l ∧ l.length = k ∧ (∀ x ∈ l, Good x ∧ x.n = 0)) ∧ Below w.heap.size w wr) (fun _ _ i _ => 1 + q - (intOf i).toNat)
 case atStart => exact ⟨0, Nat.zero_le _, rfl, ⟨z0, rfl, hz1, hz2⟩, ⟨[], Own.nil _ _ _, rfl, fun _ h => (by cases h)⟩, Below.refl _ _⟩
 case round =>
  obtain ⟨k, hk, rfl, ⟨z, rfl, hz3, hz4⟩, ⟨l, hown, hlen, hgood⟩, hb⟩ := hrel
  have Hb := Lib.hid hb
  have hzw := hb.size
  have HL := Lib.hid hlen
  have HG := Lib.hid hgood
  clear hb hlen hgood
  obtain ⟨A2, c2, rfl, _⟩ := hown.sl
  by_cases hlt : k < 1 + q
  ·have hkl : (k : Int) < 1 + ((n : Int) % (most : Int)) := by rw [HQ.out]; omega
   have hk0 : (0 : Int) ≤ (k : Int) := by omega
   have hk1 : (k : Int) ≤ 1000 := by omega
   go_wp2_with fail
   obtain ⟨y, hy, hy2⟩ : ∃ y : Nat, (z * 1664525 + 1013904223) % 4294967296 / 256 = (y : Int) ∧ y ≤ 16777216 := ⟨((z * 1664525 + 1013904223) % 4294967296 / 256).toNat, by omega, by omega⟩
   rw [hy]
   clear hy
   refine (one_any y hy2 _).mono ?_
   rintro e w4 ⟨x, rfl, hgx, hx0, hb4⟩
   have hown4 := hown.below hb4
   have Hb4 := Lib.hid (Hb.out.trans (hb4.mono hzw))
   have hz4 := hb4.size
   have HX := Lib.hid hgx
   have HX0 := Lib.hid hx0
   have HOK := Lib.hid (good_ok hgx hx0)
   have hll : l.length ≤ 1000 := by have := HL.out; omega
   clear hb4 hgx hx0
   unfold Word.val
   go_wp2_with (at_builtin; refine wpList_push (α := Word) _ rfl (.tmp 22) (.tmp 27) 99 rfl w.heap.size 104 (.agg #[.string ⟨#[]⟩, .string ⟨#[]⟩, .int .i64 0, .int .i64 0]) 48 Tryz.underlying99 word_info rfl (by decide) _ l rfl (hown4.alloc _) w4.heap.size _ x (0, 0) 104 rfl (heap_alloc_new w4 _) ⟨rfl, HOK.out⟩ (by omega) (by omega) (by first | omega | (simp; done) | (simp; omega)) _ rfl ?_; intro g cap w5 hown5 hg5 hat5 hlt5)
   go_roundw
   case rel => exact ⟨k + 1, by omega, by go_num, ⟨_, rfl, by omega, by omega⟩, ⟨_, hown5, by simp [HL.out], fun y hy => (by rcases List.mem_append.1 hy with h | h; exact HG.out y h; rw [List.mem_singleton] at h; subst h; exact ⟨HX.out, HX0.out⟩)⟩, below_push Hb4.out hown4 (by omega) hg5⟩
   case measure => simp [intOf]; omega
  ·have hkl : ¬ (k : Int) < 1 + ((n : Int) % (most : Int)) := by rw [HQ.out]; omega
   go_wp2_with fail
   go_ret
   exact ⟨_, rfl, l, hown, by rw [HL.out, ← HQ2.out]; omega, HG.out, Hb.out⟩
end Go.Proofs.YtakaielemicpkaaGreatDoor
namespace Go.Proofs.YtakaielemicpkaaGreatDoor
open Go.RowKit
def aro (n m : Int) : Int := (if n < 0 then -(n + 1) else n) % m
theorem aro_lt (n m : Int) (h : 1 ≤ m) : 0 ≤ aro n m ∧ aro n m < m := ⟨Int.emod_nonneg _ (by omega), Int.emod_lt_of_pos _ (by omega)⟩
set_option maxHeartbeats 400000 in
theorem around_any (n m : Int) (w : World) (hn : I64 n) (hm : 1 ≤ m) (hm2 : m ≤ 9223372036854775807) :
  Calls Tryz.prog 13 #[.int .i64 n, .int .i64 m] w fun e w' => e = .returned (.int .i64 (aro n m)) ∧ w = w' := by
 obtain ⟨h0, h1⟩ := hn
 go_enter Tryz.func13, Tryz.ntmps13
 by_cases h : n < 0
 ·have e : aro n m = (-(n + 1)) % m := by unfold aro; rw [if_pos h]
  have E := Lib.hid e
  clear e
  have hp : 0 ≤ -(n + 1) := by omega
  go_wp2
  go_ret
  refine ⟨ret_int ?_, rfl⟩
  rw [E.out]
  rw [← Int.neg_tmod, Int.tmod_eq_emod_of_nonneg hp]
 ·have e : aro n m = n % m := by unfold aro; rw [if_neg h]
  have E := Lib.hid e
  clear e
  go_wp2
  go_ret
  exact ⟨ret_int (by rw [E.out]), rfl⟩
end Go.Proofs.YtakaielemicpkaaGreatDoor
namespace Go.Proofs.YtakaielemicpkaaGreatDoor
open Go.RowKit
set_option maxHeartbeats 1000000 in
theorem pick_any (A : Option Addr) (c : Nat) (l : List Int) (i : Int) (m : Int) (w : World) (hl : Sl w (fun b => b < w.heap.size) A c l) (hm : 1 ≤ m) (hm2 : m ≤ 1000000) (hi0 : 0 ≤ i) :
  Calls Tryz.prog 30 #[.slice A l.length c, .int .i64 i, .int .i64 m] w fun e w' => ∃ r : Nat, e = .returned (.int .i64 (r : Int)) ∧ (r : Int) < m ∧ w = w' := by
 obtain ⟨i, rfl⟩ := Int.eq_ofNat_of_zero_le hi0
 clear hi0
 have hlen : l.length ≤ 9223372036854775807 := by have := hl.1; have := hl.2.1; unfold maxLen at this; omega
 have h0 : ¬ (i : Int) < 0 := by omega
 by_cases hi : i < l.length
 ·obtain ⟨b, o, rfl, _, hbl, hx, hc⟩ := int_at hl hi
  obtain ⟨a0, a1⟩ := aro_lt l[i] m hm
  generalize l[i] = x at *
  have Hx := Lib.hid hx
  have hi1 : ¬ (l.length : Int) ≤ (i : Int) := by omega
  have hi2 : (i : Int) < (l.length : Int) := by omega
  have hi0 : 0 ≤ (i : Int) := by omega
  clear hx hl hi
  go_enter Tryz.func30, Tryz.ntmps30
  go_wp2_with fail
  refine (around_any x m _ Hx.out hm (by omega)).mono ?_
  rintro e w' ⟨rfl, rfl⟩
  generalize aro x m = r at *
  go_wp2_with fail
  go_ret
  exact ⟨r.toNat, ret_int (by omega), by omega, rfl⟩
 ·have hi1 : (l.length : Int) ≤ (i : Int) := by omega
  clear hl hi
  go_enter Tryz.func30, Tryz.ntmps30
  go_wp2_with fail
  go_ret
  exact ⟨0, rfl, by omega, rfl⟩
def noNote (l : List Word) : Prop := ∀ x ∈ l, x.n = 0
set_option maxHeartbeats 1000000 in
theorem last_any (A : Option Addr) (c : Nat) (l : List (List Word)) (n : Nat) (w : World) (hl : Sl w (fun b => b < w.heap.size) A c l) (hn : n ≤ 1000000) :
  Calls Tryz.prog 86 #[.slice A l.length c, .int .i64 (n : Int)] w fun e w' => ∃ b : Bool, e = .returned (.bool b) ∧ (b = false → ∀ p ∈ l.drop (n + 1), noNote p) ∧ w = w' := by
 have hlen : l.length ≤ 9223372036854775807 := by have := hl.1; have := hl.2.1; unfold maxLen at this; omega
 have h1 : (n : Int) ≤ 1000000 := by omega
 have h0 : 0 ≤ (n : Int) := by omega
 have Hl := Lib.hid hl
 clear hl
 go_enter Tryz.func86, Tryz.ntmps86
 go_wp2_with fail
 go_loopw [5, 6] (fun i _ wr => ∃ k : Nat, n + 1 ≤ k ∧ (k ≤ l.length ∨ k = n + 1) ∧ i = .int .i64 k ∧ Hid (∀ j (hj : j < l.length), n + 1 ≤ j → j < k → noNote l[j]) ∧ wr = w) (fun i _ _ => l.length - (intOf i).toNat)
 case atStart => exact ⟨n + 1, Nat.le_refl _, .inr rfl, by go_num, (fun j hj h1 h2 => absurd h1 (by omega)), rfl⟩
 case round =>
  obtain ⟨k, hk, hk2, rfl, hno, rfl⟩ := hrel
  by_cases hlt : k < l.length
  ·obtain ⟨b, o, Ap, cp, rfl, _, hbl, hc, hp⟩ := part_at Hl.out hlt
   have hkl : (k : Int) < (l.length : Int) := by omega
   have hk0 : (0 : Int) ≤ (k : Int) := by omega
   have HT := Lib.hid (fun (h : noNote l[k]) j (hj : j < l.length) (h1 : n + 1 ≤ j) (h2 : j < k + 1) => (by by_cases e : j = k; subst e; exact h; exact hno.out j hj h1 (by omega) : noNote l[j]))
   have h2 : l[k].length ≤ 9223372036854775807 := by have := hp.1; have := hp.2.1; unfold maxLen at this; omega
   generalize l[k] = p at *
   have Hp := Lib.hid hp
   have hk3 : (k : Int) ≤ 9223372036854775806 := by omega
   clear hp hk2 hno
   go_wp2_with fail
   obtain ⟨wo, rfl⟩ : ∃ wo : World, wo = wr := ⟨_, rfl⟩
   go_loopw [6] (fun i wr => ∃ j : Nat, j ≤ p.length ∧ i = .int .i64 j ∧ Hid (∀ i (hi : i < p.length), i < j → p[i].n = 0) ∧ wr = wo) (fun i _ => p.length - (intOf i).toNat)
   case atStart => exact ⟨0, Nat.zero_le _, rfl, (fun i hi h => absurd h (by omega)), rfl⟩
   case round =>
    obtain ⟨j, hj, rfl, hno2, rfl⟩ := hrel
    by_cases hjl : j < p.length
    ·obtain ⟨b3, o3, rfl, _, hbl3, hok, d0, d1, d2, d3⟩ := word_at Hp.out hjl
     have hj1 : (j : Int) < (p.length : Int) := by omega
     have hj0 : (0 : Int) ≤ (j : Int) := by omega
     have HT2 := Lib.hid (fun (h : p[j].n = 0) i (hi : i < p.length) (h2 : i < j + 1) => (by by_cases e : i = j; subst e; exact h; exact hno2.out i hi (by omega) : p[i].n = 0))
     have hr := hok.2.2.2
     generalize p[j] = x at *
     clear hok d0 d1 d2
     by_cases hx : x.n = 0
     ·have E := Lib.hid (HT2.out hx)
      rw [hx] at d3
      clear hx HT2 hno2
      go_wp2_with fail
      go_roundw
      case rel => exact ⟨j + 1, by omega, by go_num, E.out, by first | trivial | rfl⟩
      case measure => simp [intOf]; omega
     ·have hB : (x.n == 0) = false := beq_eq_false_iff_ne.2 hx
      clear hx HT2 hno2
      go_wp2_with fail
      go_ret
      exact ⟨true, rfl, fun h => (by cases h), rfl⟩
    ·have E := Lib.hid (HT.out (fun x hx => by obtain ⟨i, hi, rfl⟩ := List.getElem_of_mem hx; exact hno2.out i hi (by omega)))
     clear HT hno2
     go_wp2_with fail
     go_roundw
     case rel => exact ⟨k + 1, by omega, by omega, by go_num, E.out, by first | trivial | rfl⟩
     case measure => simp [intOf]; omega
  ·have E := Lib.hid (fun p (hp : p ∈ l.drop (n + 1)) => (by
    obtain ⟨i, hi, rfl⟩ := List.getElem_of_mem hp
    rw [List.length_drop] at hi
    rw [List.getElem_drop]
    exact hno.out (n + 1 + i) (by omega) (by omega) (by omega) : noNote p))
   clear hno
   go_wp2_with fail
   go_ret
   exact ⟨false, rfl, fun _ => E.out, rfl⟩
end Go.Proofs.YtakaielemicpkaaGreatDoor
namespace Go.Proofs.YtakaielemicpkaaGreatDoor
open Go.RowKit
def withNote (x : Word) (m : Int) : Word := ⟨x.s, x.key, x.t, m⟩
def Referred (p : List Word) (m : Int) (b : Bool) (q : List Word) : Prop :=
 (b = false ∧ q = p) ∨ (b = true ∧ ∃ i, ∃ h : i < p.length, (∀ j (hj : j < p.length), i ≤ j → p[j].n = 0) ∧ q = p.set i (withNote p[i] m))
def RefP (g cap : Nat) (l : List Word) (m : Int) (later : Bool) (w : World) (e : Ending) (w' : World) : Prop :=
 ∃ b : Bool, e = .returned (.bool b) ∧ ∃ q, Referred l m b q ∧ (b = true → later = false) ∧ q.length = l.length ∧ Own w' 0 104 (.slice (some ⟨g, 0, none⟩) l.length cap) q ∧ w.grownBy w' (some g)
set_option maxHeartbeats 1000000 in
theorem refer_any (g cap : Nat) (l : List Word) (n : Nat) (m : Int) (later : Bool) (w : World) (hown : Own w 0 104 (.slice (some ⟨g, 0, none⟩) l.length cap) l) (hn : n ≤ 1000000) (hm0 : 0 ≤ m) (hm : m ≤ 1000) (hlen : l.length ≤ 1000) :
  Calls Tryz.prog 85 #[.slice (some ⟨g, 0, none⟩) l.length cap, .int .i64 (n : Int), .int .i64 m, .bool later] w (RefP g cap l m later w) := by
 have h1 : (n : Int) ≤ 1000000 := by omega
 have h0 : 0 ≤ (n : Int) := by omega
 have h2 : (l.length : Int) ≤ 1000 := by omega
 obtain ⟨A, c, e1, hs⟩ := hown.sl
 obtain ⟨rfl, _, rfl⟩ := Value.slice.inj e1
 have Hs := Lib.hid hs
 have HO := Lib.hid hown
 clear e1 hs hown
 go_enter Tryz.func85, Tryz.ntmps85
 go_wp2_with fail
 go_loopw [9, 10] (fun f i wr => ∃ k : Nat, k ≤ l.length ∧ i = .int .i64 k ∧ (∃ q : Nat, f = .int .i64 (q : Int) ∧ q ≤ k ∧ Hid (∀ j (hj : j < l.length), q ≤ j → j < k → l[j].n = 0)) ∧ wr = w) (fun _ i _ => l.length - (intOf i).toNat)
 case atStart => exact ⟨0, Nat.zero_le _, rfl, ⟨0, rfl, Nat.le_refl _, (fun j hj h1 h2 => absurd h2 (by omega))⟩, rfl⟩
 case round =>
  obtain ⟨k, hk, rfl, ⟨q, rfl, hqk, hno⟩, rfl⟩ := hrel
  by_cases hlt : k < l.length
  ·obtain ⟨b3, o3, e3, _, hbl3, hok, d0, d1, d2, d3⟩ := word_at Hs.out hlt
   obtain ⟨rfl, rfl⟩ : b3 = g ∧ o3 = 0 := by simpa using e3.symm
   simp only [Nat.zero_add] at d3
   have hkl : (k : Int) < (l.length : Int) := by omega
   have hk0 : (0 : Int) ≤ (k : Int) := by omega
   have HT := Lib.hid (fun (h : l[k].n = 0) j (hj : j < l.length) (h1 : q ≤ j) (h2 : j < k + 1) => (by by_cases e : j = k; subst e; exact h; exact hno.out j hj h1 (by omega) : l[j].n = 0))
   have hr := hok.2.2.2
   generalize l[k] = x at *
   clear hok d0 d1 d2 e3
   by_cases hx : x.n = 0
   ·have E := Lib.hid (HT.out hx)
    rw [hx] at d3
    clear hx HT hno
    go_wp2_with fail
    go_roundw
    case rel => exact ⟨k + 1, by omega, by go_num, ⟨q, rfl, by omega, E.out⟩, by first | trivial | rfl⟩
    case measure => simp [intOf]; omega
   ·have hB : (x.n == 0) = false := beq_eq_false_iff_ne.2 hx
    clear hx HT hno
    go_wp2_with fail
    go_roundw
    case rel => exact ⟨k + 1, by omega, by go_num, ⟨k + 1, by go_num, by omega, (fun j hj h1 h2 => absurd h2 (by omega))⟩, by first | trivial | rfl⟩
    case measure => simp [intOf]; omega
  ·obtain rfl : k = l.length := by omega
   have hno2 := Lib.hid (fun j (hj : j < l.length) (h1 : q ≤ j) => hno.out j hj h1 hj)
   clear hno
   cases later with
   | true =>
    go_wp2_with fail
    go_ret
    exact ⟨false, rfl, l, .inl ⟨rfl, rfl⟩, fun h => (by cases h), rfl, HO.out, World.grownBy.refl _ _⟩
   | false =>
    by_cases hq : q < l.length
    ·have hq1 : (q : Int) < (l.length : Int) := by omega
     have hq0 : (0 : Int) ≤ (q : Int) := by omega
     have hmod : n % (l.length - q) < l.length - q := Nat.mod_lt _ (by omega)
     have hmi : (n : Int) % ((l.length : Int) - (q : Int)) = ((n % (l.length - q) : Nat) : Int) := by
      rw [Int.natCast_emod]; congr 1; omega
     generalize n % (l.length - q) = r at *
     obtain ⟨g', cap', es, e4, _, hg, _, hr4, hcell, hfz⟩ := HO.out.at_ (show q + r < l.length by omega)
     obtain ⟨re, hok⟩ := hr4
     subst re
     have c3 := hcell 3 _ rfl
     rw [show Rep.size Word = 4 from rfl] at c3
     obtain ⟨rfl, _⟩ : g' = g ∧ cap' = cap := by
      have := Value.slice.inj e4
      simp at this
      exact ⟨this.1.symm, this.2.symm⟩
     have HH := Lib.hid (HO.out.setf (q + r) 3 (show q + r < l.length by omega) (by decide) (.int .i64 m) rfl (withNote l[q + r] m) (fun S es h => by
      obtain ⟨h1, h2⟩ := h
      subst h1
      exact ⟨rfl, h2.1, h2.2.1, h2.2.2.1, ⟨by show -9223372036854775808 ≤ m; omega, by show m ≤ 9223372036854775807; omega⟩⟩) (o := (q + r) * 4 + 3) rfl)
     have HR : Hid (Referred l m true (l.set (q + r) (withNote l[q + r] m))) := .inr ⟨rfl, q + r, by omega, fun j hj h => hno2.out j hj (by omega), rfl⟩
     have hk1 : (q : Int) + (r : Int) < (l.length : Int) := by omega
     have hk0 : 0 ≤ (q : Int) + (r : Int) := by omega
     generalize l[q + r].n = old at *
     have HL : Hid ((l.set (q + r) (withNote l[q + r] m)).length = l.length) := Lib.hid (by simp)
     generalize l.set (q + r) _ = l' at *
     clear hok hcell e4
     go_wp2_with fail
     go_ret
     exact ⟨true, rfl, _, HR.out, fun _ => rfl, HL.out, HH.out.1, HH.out.2⟩
    ·have hq1 : ¬ (q : Int) < (l.length : Int) := by omega
     go_wp2_with fail
     go_ret
     exact ⟨false, rfl, l, .inl ⟨rfl, rfl⟩, fun h => (by cases h), rfl, HO.out, World.grownBy.refl _ _⟩
end Go.Proofs.YtakaielemicpkaaGreatDoor
namespace Go.Proofs.YtakaielemicpkaaGreatDoor
open Go.RowKit
theorem raw_info : (Tryz.prog.info? 99).map (fun i => (i.zero, i.size, i.bytes)) = some (some (.slice none 0 0), Rep.size Raw, 24) := by kernel_rfl
def Fresh (m : Nat) (p : List Word) : Prop := 1 ≤ p.length ∧ p.length ≤ m ∧ ∀ x ∈ p, Good x ∧ x.n = 0
theorem Own.fit {α : Type} [Rep α] {w w' : World} {base : Nat} {e : TypeId} {v : Value} {l : List α} (h : Own w' base e v l) (hb : base = w.heap.size) : ∀ g, v.ownBlock = some g → w.heap.size ≤ g := fun g hg => hb ▸ (h.lt g hg).1
structure St1 (w wr : World) (Y : Nat) (k : Nat) (v : Value) (us : List Raw) (ls : List (List Word)) : Prop where
 y : TBox wr Y v (.slice none 0 0)
 x : TBox wr w.heap.size (.slice none 0 0) (.slice none 0 0)
 n : Nest wr (fun g => Y < g) 99 104 v us ls
 l : ls.length = k
 f : ∀ p ∈ ls, Fresh 40 p
 b : Below w.heap.size w wr
theorem St1.push {w wr w4 w5 : World} {Y k : Nat} {v v' : Value} {us : List Raw} {ls : List (List Word)} {u : Raw} {p : List Word} {o : Obj} (h : St1 w wr Y k v us ls) (hY : w.heap.size < Y) (hb4 : Below wr.heap.size wr w4) (hu : Own w4 wr.heap.size 104 u.v p) (hp : Fresh 40 p)
  (hown : Own w5 0 99 v' (us ++ [u])) (hg : (w4.alloc o).grownBy w5 v.ownBlock) (hat : v'.ownBlock = v.ownBlock ∨ v'.ownBlock = some (w4.alloc o).heap.size) :
  St1 w (w5.setCell ⟨Y, 0, none⟩ v') Y (k + 1) v' (us ++ [u]) (ls ++ [p]) := by
 have hylt := h.y.lt
 have hz := hb4.size
 have hvB : ∀ g, v.ownBlock = some g → Y < g := h.n.mv
 have keep : ∀ b, b < w4.heap.size → some b ≠ v.ownBlock → w5.heap[b]? = w4.heap[b]? := fun b hb hne => (hg.block b (by simp; omega) hne).trans (Below.heap_alloc w4 o b hb)
 have y5 : TBox w5 Y v (.slice none 0 0) := (h.y.below hb4).kept (keep Y (by omega) (fun e => by have := hvB Y e.symm; omega))
 have x5 : TBox w5 w.heap.size (.slice none 0 0) (.slice none 0 0) := (h.x.below hb4).kept (keep _ (by omega) (fun e => by have := hvB _ e.symm; omega))
 have n5 : Nest w5 (fun g => Y < g) _ _ v' (us ++ [u]) (ls ++ [p]) :=
  (Nest.push (B := fun g => Y < g ∧ g < wr.heap.size) (B' := fun g => Y < g) (H := (w4.alloc o).heap.size) ((h.n.mono fun g hg' hB => ⟨hB, hg'⟩).below hb4) (hu.re (Nat.zero_le _)) (fun g hg' => by have := hu.fit rfl g hg'; exact ⟨fun hh => by have := hh.2; omega, by omega⟩) keep hown hat (by simp) (fun g hh => hh.1) (by simp; omega))
 refine ⟨y5.set0 v', x5.other (by omega) v', n5.kept fun g hg' hB => heap_set w5 Y 0 v' (by omega), by simp [h.l], fun q hq => ?_, ?_⟩
 ·rcases List.mem_append.1 hq with hq | hq
  ·exact h.f q hq
  ·rw [List.mem_singleton] at hq; subst hq; exact hp
 ·have b4 : Below w.heap.size w w4 := h.b.trans (hb4.mono h.b.size)
  have b5 : Below w.heap.size w w5 := (b4.alloc b4.size o).grown hg (by have := b4.size; simp; omega) (fun g hg' => by have := hvB g hg'; omega)
  exact b5.setCell (p := ⟨Y, 0, none⟩) (by show w.heap.size ≤ Y; omega) v'
theorem St1.cell {w wr w4 w5 : World} {Y k : Nat} {v : Value} {us : List Raw} {ls : List (List Word)} {o : Obj} (h : St1 w wr Y k v us ls) (_hY : w.heap.size < Y) (hb4 : Below wr.heap.size wr w4) (hg : (w4.alloc o).grownBy w5 v.ownBlock) : w5.cell? ⟨Y, 0, none⟩ = some v ∧ ∀ o, w5.frozen? ⟨Y, o, none⟩ = false := by
 have y5 : TBox w5 Y v (.slice none 0 0) := (h.y.below hb4).kept ((hg.block Y (by have := h.y.lt; have := hb4.size; simp; omega) (fun e => by have := h.n.mv Y e.symm; omega)).trans (Below.heap_alloc w4 o Y (by have := h.y.lt; have := hb4.size; omega)))
 exact ⟨y5.c0, y5.fz⟩
def seqOf (l : List Word) : List Int := (l.map (·.n)).filter (fun x => x != 0)
theorem seqOf_append (a b : List Word) : seqOf (a ++ b) = seqOf a ++ seqOf b := by unfold seqOf; rw [List.map_append, List.filter_append]
theorem seqOf_nil {l : List Word} (h : ∀ x ∈ l, x.n = 0) : seqOf l = [] := by
 unfold seqOf
 rw [List.filter_eq_nil_iff]
 intro y hy
 obtain ⟨x, hx, rfl⟩ := List.mem_map.1 hy
 rw [h x hx]; simp
theorem seqOf_none {ls : List (List Word)} (h : ∀ p ∈ ls, noNote p) : seqOf ls.flatten = [] := seqOf_nil fun x hx => by
 obtain ⟨p, hp, hxp⟩ := List.mem_flatten.1 hx
 exact h p hp x hxp
theorem seq_set (ls : List (List Word)) (k i : Nat) (hk : k < ls.length) (hi : i < ls[k].length) (m : Int) (hm : m ≠ 0) (hl : ∀ p ∈ ls.drop (k + 1), noNote p) (h0 : ∀ j (hj : j < ls[k].length), i ≤ j → ls[k][j].n = 0) :
  seqOf (ls.set k (ls[k].set i (withNote ls[k][i] m))).flatten = seqOf ls.flatten ++ [m] := by
 have e1 : ls.set k (ls[k].set i (withNote ls[k][i] m)) = ls.take k ++ (ls[k].set i (withNote ls[k][i] m) :: ls.drop (k + 1)) := by rw [List.set_eq_take_append_cons_drop, if_pos hk]
 have e2 : ls = ls.take k ++ (ls[k] :: ls.drop (k + 1)) := by rw [← List.drop_eq_getElem_cons hk, List.take_append_drop]
 have e3 : ls[k].set i (withNote ls[k][i] m) = ls[k].take i ++ (withNote ls[k][i] m :: ls[k].drop (i + 1)) := by rw [List.set_eq_take_append_cons_drop, if_pos hi]
 have e4 : ls[k] = ls[k].take i ++ ls[k].drop i := (List.take_append_drop i _).symm
 have d1 : seqOf (ls[k].drop i) = [] := seqOf_nil fun x hx => by
  obtain ⟨j, hj, rfl⟩ := List.getElem_of_mem hx
  rw [List.length_drop] at hj
  rw [List.getElem_drop]; exact h0 (i + j) (by omega) (by omega)
 have d2 : seqOf (ls[k].drop (i + 1)) = [] := seqOf_nil fun x hx => by
  obtain ⟨j, hj, rfl⟩ := List.getElem_of_mem hx
  rw [List.length_drop] at hj
  rw [List.getElem_drop]; exact h0 (i + 1 + j) (by omega) (by omega)
 have d3 := seqOf_none hl
 have d4 : seqOf [withNote ls[k][i] m] = [m] := by simp [seqOf, withNote, hm]
 have l1 : seqOf (ls.set k (ls[k].set i (withNote ls[k][i] m))).flatten = seqOf (ls.take k).flatten ++ (seqOf (ls[k].take i) ++ [m]) := by
  rw [e1, List.flatten_append, List.flatten_cons, seqOf_append, seqOf_append, d3, List.append_nil, e3, seqOf_append, ← List.singleton_append, seqOf_append, d4, d2, List.append_nil]
 have l2 : seqOf ls.flatten = seqOf (ls.take k).flatten ++ seqOf (ls[k].take i) := by
  conv => lhs; rw [e2, List.flatten_append, List.flatten_cons, seqOf_append, seqOf_append, d3, List.append_nil, e4, seqOf_append, d1, List.append_nil]
 rw [l1, l2, List.append_assoc]
structure GText (ls ns : List (List Word)) : Prop where
 l1 : 1 ≤ ls.length
 l4 : ls.length ≤ 4
 n3 : ns.length ≤ 3
 p : ∀ p ∈ ls, 1 ≤ p.length ∧ p.length ≤ 40 ∧ ∀ x ∈ p, Good x
 q : ∀ p ∈ ns, Fresh 12 p
 s : seqOf ls.flatten = (List.range ns.length).map (fun i : Nat => (i : Int) + 1)
structure St2 (w wr : World) (Y H : Nat) (v vn : Value) (us un : List Raw) (ls ns : List (List Word)) : Prop where
 y : TBox wr Y v vn
 x : TBox wr w.heap.size (.slice none 0 0) (.slice none 0 0)
 n : Nest wr (fun g => Y < g ∧ g < H) 99 104 v us ls
 m : Nest wr (fun g => H ≤ g) 99 104 vn un ns
 b : Below w.heap.size w wr
 hz : H ≤ wr.heap.size
 yh : Y < H
theorem St1.next {w wr : World} {Y k : Nat} {v : Value} {us : List Raw} {ls : List (List Word)} (h : St1 w wr Y k v us ls) : St2 w wr Y wr.heap.size v (.slice none 0 0) us [] ls [] :=
 ⟨h.y, h.x, h.n.mono fun _ hg hB => ⟨hB, hg⟩, Nest.nil _ _ _ _, h.b, Nat.le_refl _, h.y.lt⟩
theorem St2.inner {w wr w' : World} {Y H : Nat} {v vn : Value} {us un : List Raw} {ls ns : List (List Word)} (h : St2 w wr Y H v vn us un ls ns) (hY : w.heap.size < Y) (i : Nat) (hi : i < us.length) {q : List Word} {g : Nat} (hg : us[i].v.ownBlock = some g)
  (hown : Own w' 0 104 us[i].v q) (hgr : wr.grownBy w' (some g)) : St2 w w' Y H v vn us un (ls.set i q) ns := by
 have hgB := h.n.mi i hi g hg
 have kp : ∀ b, b < wr.heap.size → b ≠ g → w'.heap[b]? = wr.heap[b]? := fun b hb hne => hgr.block b hb (fun e => hne (by injection e))
 exact ⟨h.y.kept (kp _ h.y.lt (by omega)), h.x.kept (kp _ h.x.lt (by omega)), h.n.inner i hi (fun b hb hne => kp b hb (fun e => hne (by rw [e, hg]))) hown, h.m.kept (fun b hb hB => kp b hb (by omega)),
  h.b.grown hgr h.b.size (fun g' hg' => by injection hg' with e; omega), Nat.le_trans h.hz hgr.size, h.yh⟩
theorem St2.cells {w wr w4 w5 : World} {Y H : Nat} {v vn : Value} {us un : List Raw} {ls ns : List (List Word)} {o : Obj} (h : St2 w wr Y H v vn us un ls ns) (hb4 : Below wr.heap.size wr w4) (hg : (w4.alloc o).grownBy w5 vn.ownBlock) : w5.cell? ⟨Y, 1, none⟩ = some vn ∧ ∀ o, w5.frozen? ⟨Y, o, none⟩ = false := by
 have y5 : TBox w5 Y v vn := (h.y.below hb4).kept ((hg.block Y (by have := h.y.lt; have := hb4.size; simp; omega) (fun e => by have := h.m.mv Y e.symm; have := h.yh; omega)).trans (Below.heap_alloc w4 o Y (by have := h.y.lt; have := hb4.size; omega)))
 exact ⟨y5.c1, y5.fz⟩
theorem St2.push {w wr w4 w5 : World} {Y H : Nat} {v vn v' : Value} {us un : List Raw} {ls ns : List (List Word)} {u : Raw} {p : List Word} {o : Obj} (h : St2 w wr Y H v vn us un ls ns) (hY : w.heap.size < Y) (hb4 : Below wr.heap.size wr w4) (hu : Own w4 wr.heap.size 104 u.v p)
  (hown : Own w5 0 99 v' (un ++ [u])) (hg : (w4.alloc o).grownBy w5 vn.ownBlock) (hat : v'.ownBlock = vn.ownBlock ∨ v'.ownBlock = some (w4.alloc o).heap.size) :
  St2 w (w5.setCell ⟨Y, 1, none⟩ v') Y H v v' us (un ++ [u]) ls (ns ++ [p]) := by
 have hylt := h.y.lt
 have hz := hb4.size
 have hzH := h.hz
 have hyH := h.yh
 have hvB : ∀ g, vn.ownBlock = some g → H ≤ g := h.m.mv
 have keep : ∀ b, b < w4.heap.size → some b ≠ vn.ownBlock → w5.heap[b]? = w4.heap[b]? := fun b hb hne => (hg.block b (by simp; omega) hne).trans (Below.heap_alloc w4 o b hb)
 have y5 : TBox w5 Y v vn := (h.y.below hb4).kept (keep Y (by omega) (fun e => by have := hvB Y e.symm; omega))
 have x5 : TBox w5 w.heap.size (.slice none 0 0) (.slice none 0 0) := (h.x.below hb4).kept (keep _ (by omega) (fun e => by have := hvB _ e.symm; omega))
 have n5 : Nest w5 (fun g => Y < g ∧ g < H) _ _ v us ls := (h.n.below hb4).kept fun g hg' hB => keep g hg' (fun e => by have := hvB _ e.symm; omega)
 have m5 : Nest w5 (fun g => H ≤ g) _ _ v' (un ++ [u]) (ns ++ [p]) :=
  (Nest.push (B := fun g => H ≤ g ∧ g < wr.heap.size) (B' := fun g => H ≤ g) (H := (w4.alloc o).heap.size) ((h.m.mono fun g hg' hB => ⟨hB, hg'⟩).below hb4) (hu.re (Nat.zero_le _)) (fun g hg' => by have := hu.fit rfl g hg'; exact ⟨fun hh => by have := hh.2; omega, by omega⟩) keep hown hat (by simp) (fun g hh => hh.1) (by simp; omega))
 have b4 : Below w.heap.size w w4 := h.b.trans (hb4.mono h.b.size)
 have b5 : Below w.heap.size w w5 := (b4.alloc b4.size o).grown hg (by have := b4.size; simp; omega) (fun g hg' => by have := hvB g hg'; omega)
 have hz5 := hg.size
 refine ⟨y5.set1 v', x5.other (by omega) v', n5.kept fun g hg' hB => heap_set w5 Y 1 v' (by omega), m5.kept fun g hg' hB => heap_set w5 Y 1 v' (by omega), b5.setCell (p := ⟨Y, 1, none⟩) (by show w.heap.size ≤ Y; omega) v', ?_, h.yh⟩
 have : (w4.alloc o).heap.size = w4.heap.size + 1 := by simp
 simp only [World.size_setCell]; omega
theorem St2.below {w wr w' : World} {Y H : Nat} {v vn : Value} {us un : List Raw} {ls ns : List (List Word)} (h : St2 w wr Y H v vn us un ls ns) (hb : Below wr.heap.size wr w') : St2 w w' Y H v vn us un ls ns :=
 ⟨h.y.below hb, h.x.below hb, h.n.below hb, h.m.below hb, h.b.trans (hb.mono h.b.size), Nat.le_trans h.hz hb.size, h.yh⟩
theorem GText.next {ls ns : List (List Word)} (h : GText ls ns) (k : Nat) (hk : k < ls.length) {q p : List Word} (hq : Referred ls[k] ((ns.length : Int) + 1) true q) (hl : ∀ p ∈ ls.drop (k + 1), noNote p) (hp : Fresh 12 p) (h3 : ns.length + 1 ≤ 3) : GText (ls.set k q) (ns ++ [p]) := by
 rcases hq with ⟨h0, _⟩ | ⟨_, i, hi, h0, rfl⟩
 ·cases h0
 ·have hpk := h.p ls[k] (List.getElem_mem hk)
  refine ⟨by rw [List.length_set]; exact h.l1, by rw [List.length_set]; exact h.l4, by simp; omega, fun r hr => ?_, fun r hr => ?_, ?_⟩
  ·rcases List.mem_or_eq_of_mem_set hr with hr | rfl
   ·exact h.p r hr
   ·rw [List.length_set]
    refine ⟨hpk.1, hpk.2.1, fun x hx => ?_⟩
    rcases List.mem_or_eq_of_mem_set hx with hx | rfl
    ·exact hpk.2.2 x hx
    ·exact (show Good ls[k][i] from hpk.2.2 _ (List.getElem_mem hi))
  ·rcases List.mem_append.1 hr with hr | hr
   ·exact h.q r hr
   ·rw [List.mem_singleton] at hr; subst hr; exact hp
  ·rw [seq_set ls k i hk hi _ (by omega) hl h0, h.s, List.length_append, List.length_singleton, List.range_succ, List.map_append]; rfl
theorem St2.stay {w wr w' : World} {Y H : Nat} {v vn : Value} {us un : List Raw} {ls ns : List (List Word)} (h : St2 w wr Y H v vn us un ls ns) (hY : w.heap.size < Y) (i : Nat) (hi : i < us.length) (hi' : i < ls.length) {q : List Word} {g : Nat} {m : Int} (hg : us[i].v.ownBlock = some g)
  (hq : Referred ls[i] m false q) (hown : Own w' 0 104 us[i].v q) (hgr : wr.grownBy w' (some g)) : St2 w w' Y H v vn us un ls ns := by
 rcases hq with ⟨_, rfl⟩ | ⟨h0, _⟩
 ·have := h.inner hY i hi hg hown hgr
  rwa [List.set_getElem_self] at this
 ·cases h0
end Go.Proofs.YtakaielemicpkaaGreatDoor
