/- A text of wide words. No condition.
The reference's page: how many lines are used, whether a line fits. No condition but sizes.
The reference's error of lines, notes and a height is that of package page. No condition but sizes.
A page that the reference fills: its box, its rows of lines, the queue and the pages before it, each apart from the others. No condition.
The reference's pages of lines and their notes are those of package page. No condition but sizes. -/
import Derived.Test.YtakaielemicpkaaGreatDoorBZc11
namespace Go.Proofs.YtakaielemicpkaaGreatDoor
open Go.RowKit
def wideW : Word := ⟨⟨#[109, 109, 109, 109, 109, 109, 109, 109, 109, 109, 109, 109, 109, 109, 109, 109, 109, 109, 109, 109, 109, 109, 109, 109, 109, 109, 109, 109, 109, 109, 109, 109, 109, 109, 109, 109, 109, 109, 109, 109]⟩, ⟨#[]⟩, 0, 0⟩
theorem results_box1 {P : Program} {fn : Func} {p : Tmp} {ty : TypeId} (h : fn.results = #[.cell p ty]) (tmps : Array Value) (w : World) (g : Nat) (t : TypeId) (cs : List Value) (d : TypeDesc)
  (hp : tmps.getD p undef = .pointer (some ⟨g, 0, none⟩)) (hg : ABox w g t cs) (hu : P.underlying ty = some d) (hd : (match d with | .struct _ | .array _ _ => true | _ => false) = true) (hi : (P.info? ty).map (·.size) = some cs.length) :
  (results fn tmps).run P w = .ok (.agg cs.toArray) w := by
 have hp' : tmps[p]?.getD undef = .pointer (some ⟨g, 0, none⟩) := by simpa using hp
 have hi' : (P.info? ty).map (·.size) = some cs.toArray.size := by simpa using hi
 simp [results, h, hp', asAddr, run_loadVar_row w g t ty cs.toArray (0, 0) d hg hu hd hi']
theorem wideW_ok : wideW.ok := ⟨by decide, by decide, ⟨by decide, by decide⟩, ⟨by decide, by decide⟩⟩
theorem word_infoW : (Tryz.prog.info? 104).map (fun i => (i.zero, i.size, i.bytes)) = some (some (.agg #[.string ⟨#[]⟩, .string ⟨#[]⟩, .int .i64 0, .int .i64 0]), Rep.size Word, 48) := by kernel_rfl
set_option maxHeartbeats 1000000 in
theorem wide_any (n : Nat) (hn : n ≤ 1000) (w : World) :
  Calls Tryz.prog 37 #[.int .i64 (n : Int)] w fun e w' => ∃ A c, e = .returned (.agg #[.slice A 1 c, .slice none 0 0]) ∧ Sl w' (fun b => w.heap.size ≤ b ∧ b < w'.heap.size) A c [List.replicate n wideW] ∧ Below w.heap.size w w' := by
 have hn2 : (n : Int) ≤ 1000 := by omega
 have hb0 := (Below.refl w.heap.size w).alloc (Nat.le_refl _) (.cells #[.slice none 0 0, .slice none 0 0] 50)
 have hx0 : ABox (w.alloc (.cells #[.slice none 0 0, .slice none 0 0] 50)) w.heap.size 50 [.slice none 0 0, .slice none 0 0] := heap_alloc_new w _
 have hz : (w.alloc (.cells #[.slice none 0 0, .slice none 0 0] 50)).heap.size = w.heap.size + 1 := by simp
 go_enter Tryz.func37, Tryz.ntmps37
 go_upto_region 1 with (fail)
 generalize w.alloc (.cells #[.slice none 0 0, .slice none 0 0] 50) = w0 at *
 have HB0 := Lib.hid hb0
 have HX0 := Lib.hid hx0
 have HZ := Lib.hid hz
 clear hb0 hx0 hz
 go_wp2_with fail
 go_loopw [3, 4] (fun v i wr => ∃ k : Nat, k ≤ n ∧ i = .int .i64 k ∧ Own wr w0.heap.size 104 v (List.replicate k wideW) ∧ Below w0.heap.size w0 wr) (fun _ i _ => n - (intOf i).toNat)
 case atStart => exact ⟨0, Nat.zero_le _, rfl, Own.nil _ _ _, Below.refl _ _⟩
 case round =>
  obtain ⟨k, hk, rfl, hown, hb⟩ := hrel
  have Hb := Lib.hid hb
  have hzw := hb.size
  clear hb
  obtain ⟨A2, c2, rfl, _⟩ := hown.sl
  by_cases hlt : k < n
  ·have hkl : (k : Int) < n := by omega
   obtain ⟨l, hl⟩ : ∃ l, List.replicate k wideW = l := ⟨_, rfl⟩
   have hll : l.length = k := by rw [← hl]; simp
   have hl2 : l ++ [wideW] = List.replicate (k + 1) wideW := by rw [← hl, List.replicate_succ']
   rw [hl] at hown ⊢
   have HL2 := Lib.hid hl2
   have HLL := Lib.hid hll
   have hlk : l.length ≤ 1000 := by omega
   clear hl hl2 hll
   go_wp2_with (at_builtin; refine wpList_push (α := Word) _ rfl (.tmp 10) (.tmp 12) 99 rfl w0.heap.size 104 (.agg #[.string ⟨#[]⟩, .string ⟨#[]⟩, .int .i64 0, .int .i64 0]) 48 Tryz.underlying99 word_infoW rfl (by decide) _ l rfl (hown.alloc _) wr.heap.size _ wideW (0, 0) 104 rfl (heap_alloc_new wr _) ⟨rfl, wideW_ok⟩ (by omega) (by omega) (by first | omega | (simp; done) | (simp; omega)) _ rfl ?_; intro g cap w5 hown5 hg5 hat5 hlt5)
   go_roundw
   case rel => exact ⟨k + 1, by omega, by go_num, by rw [← HL2.out]; exact hown5, below_push Hb.out hown (by omega) hg5⟩
   case measure => simp [intOf]; omega
  ·obtain rfl : k = n := by omega
   obtain ⟨l, hl⟩ : ∃ l, List.replicate k wideW = l := ⟨_, rfl⟩
   have hll : l.length ≤ 1000 := by rw [← hl]; simp; omega
   rw [hl] at hown ⊢
   have HL := Lib.hid hl
   clear hl
   obtain ⟨W1, hW1⟩ : ∃ W1, wr.alloc (.cells #[.slice A2 l.length c2] 99) = W1 := ⟨_, rfl⟩
   have hb1 : Below wr.heap.size wr W1 := by rw [← hW1]; exact (Below.refl _ _).alloc (Nat.le_refl _) _
   have hX : W1.heap[wr.heap.size]? = some (.cells #[.slice A2 l.length c2] 99 (0, 0)) := by rw [← hW1]; exact heap_alloc_new wr _
   have HY := Lib.hid ((HX0.out.to Hb.out).to hb1)
   have x0 := HY.out.cell 0 rfl
   have x1 := HY.out.cell 1 rfl
   have f0 := HY.out.fz 0
   have f1 := HY.out.fz 1
   obtain ⟨A5, c5, e5, hs5⟩ := hown.sl
   cases e5
   have hsl : Sl W1 (fun b => w.heap.size < b ∧ b < W1.heap.size) (some ⟨wr.heap.size, 0, none⟩) 1 [l] := Sl.block (l := [l]) hX ⟨by have := HZ.out; omega, by have := cell_lt hX; omega⟩ (by simp [maxLen]) (fun i hi => by
    obtain rfl : i = 0 := by simpa using hi
    refine ⟨A2, c2, rfl, ?_, by simp only [List.getElem_cons_zero]; omega⟩
    exact (((hown.below hb1).sl_at rfl).mono fun i hi _ => ⟨by have := hi.1; have := HZ.out; omega, hi.2⟩))
   have HSL := Lib.hid hsl
   have HB1 : Hid (Below w.heap.size w W1) := Lib.hid ((HB0.out.trans (Hb.out.mono (by have := HZ.out; omega))).trans (hb1.mono (by have := HZ.out; omega)))
   have HZ1 : Hid (w.heap.size < wr.heap.size) := Lib.hid (by have := HZ.out; omega)
   clear hX hsl hb1 hs5 hown
   go_upto_region 7 with (fail)
   exact bodyPost_ret (v := .agg #[.slice (some ⟨wr.heap.size, 0, none⟩) 1 1, .slice none 0 0]) (results_box1 Tryz.results37 _ _ w.heap.size _ [.slice (some ⟨wr.heap.size, 0, none⟩) 1 1, .slice none 0 0] _ rfl (by simpa using (HY.out.set 0 (.slice (some ⟨wr.heap.size, 0, none⟩) 1 1)).set 1 (.slice none 0 0)) Tryz.underlying50 rfl (by kernel_rfl)) rfl
    ⟨some ⟨wr.heap.size, 0, none⟩, 1, rfl, by
     rw [HL.out]
     refine (HSL.out.keep ?_ (by simp)).mono (fun i hi hl => ⟨Nat.le_of_lt hi.1, hl⟩)
     exact fun i hi _ => (heap_set _ _ 1 _ (by have := hi.1; omega)).trans (heap_set _ _ 0 _ (by have := hi.1; omega)), (HB1.out.setCell (p := ⟨w.heap.size, 0, none⟩) (Nat.le_refl _) _).setCell (p := ⟨w.heap.size, 1, none⟩) (Nat.le_refl _) _⟩
end Go.Proofs.YtakaielemicpkaaGreatDoor
namespace Go.Proofs.YtakaielemicpkaaGreatDoor
open Go.RowKit
def usedN (nb nn : Nat) : Nat := nb + nn + min nn 1
set_option maxHeartbeats 1000000 in
theorem rused_any (A B : Option Addr) (c d nb nn : Nat) (w : World) (h1 : nb ≤ 1048576) (h2 : nn ≤ 1048576) :
  Calls Tryz.prog 92 #[.agg #[.int .i64 0, .int .i64 0, .int .i64 0, .int .i64 0, .slice A nb c, .slice B nn d]] w fun e w' => e = .returned (.int .i64 (usedN nb nn : Nat)) ∧ Below w.heap.size w w' := by
 obtain ⟨wb, hwb⟩ : ∃ wb, w.alloc (.cells #[.int .i64 0, .int .i64 0, .int .i64 0, .int .i64 0, .slice A nb c, .slice B nn d] 36) = wb := ⟨_, rfl⟩
 have hba : Below w.heap.size w wb := by rw [← hwb]; exact (Below.refl _ _).alloc (Nat.le_refl _) _
 have hx0 : ABox wb w.heap.size 36 [.int .i64 0, .int .i64 0, .int .i64 0, .int .i64 0, .slice A nb c, .slice B nn d] := by rw [← hwb]; exact heap_alloc_new w _
 have x4 := hx0.cell 4 rfl
 have x5 := hx0.cell 5 rfl
 have HB := Lib.hid hba
 clear hba hx0
 go_enter Tryz.func92, Tryz.ntmps92
 go_upto_region 1 with (fail)
 try rw [hwb]
 clear hwb
 go_wp2_with fail
 go_ret
 exact ⟨congrArg (fun z => Ending.returned (.int .i64 z)) (show ((nb : Int) + (nn : Int) + min (nn : Int) 1) = ((usedN nb nn : Nat) : Int) by unfold usedN; omega), HB.out⟩
def fitsR (h nb nn q : Nat) (x : LineP) : Bool := fitsP h nb nn (nn + q) x
set_option maxRecDepth 100000 in
set_option maxHeartbeats 2000000 in
theorem rfits_any (A B Ag An : Option Addr) (c d cg cn nb nn q h : Nat) (x : LineP) (w : World) (h1 : nb ≤ 1048576) (h2 : nn ≤ 1048576) (h3 : q ≤ 1048576) (h4 : h ≤ 100) (hxn : x.notes.length ≤ 9223372036854775807) :
  Calls Tryz.prog 91 #[.agg #[.int .i64 0, .int .i64 0, .int .i64 0, .int .i64 0, .slice A nb c, .slice B nn d], .agg #[.int .i64 x.fr, .int .i64 x.un, .slice Ag x.gaps.length cg, .slice An x.notes.length cn], .int .i64 (q : Int), .int .i64 (h : Int)] w
   fun e w' => e = .returned (.bool (fitsR h nb nn q x)) ∧ Below w.heap.size w w' := by
 obtain ⟨wb, hwb⟩ : ∃ wb, (w.alloc (.cells #[.int .i64 0, .int .i64 0, .int .i64 0, .int .i64 0, .slice A nb c, .slice B nn d] 36)).alloc (.cells #[.int .i64 x.fr, .int .i64 x.un, .slice Ag x.gaps.length cg, .slice An x.notes.length cn] 88) = wb := ⟨_, rfl⟩
 have hba : Below w.heap.size w wb := by rw [← hwb]; exact ((Below.refl _ _).alloc (Nat.le_refl _) _).alloc (by simp) _
 have hx0 : ABox wb w.heap.size 36 [.int .i64 0, .int .i64 0, .int .i64 0, .int .i64 0, .slice A nb c, .slice B nn d] := by rw [← hwb]; exact (Below.heap_alloc _ _ _ (by simp)).trans (heap_alloc_new w _)
 have hx1 : ABox wb (w.heap.size + 1) 88 [.int .i64 x.fr, .int .i64 x.un, .slice Ag x.gaps.length cg, .slice An x.notes.length cn] := by rw [← hwb]; exact heap_at (by simp)
 have HU := Lib.hid (rused_any A B c d nb nn wb h1 h2)
 have y3 := hx1.cell 3 rfl
 have HB := Lib.hid hba
 have HX0 := Lib.hid hx0
 have x0 := hx0.cell 0 rfl
 have x1 := hx0.cell 1 rfl
 have x2 := hx0.cell 2 rfl
 have x3 := hx0.cell 3 rfl
 have x4 := hx0.cell 4 rfl
 have x5 := hx0.cell 5 rfl
 clear hba hx0 hx1
 go_enter Tryz.func91, Tryz.ntmps91
 go_upto_region 1 with (fail)
 try rw [hwb]
 clear hwb
 by_cases hn : x.notes = []
 ·have hnl : (x.notes.length : Int) = 0 := by rw [hn]; rfl
  have HR : Hid (fitsR h nb nn q x = decide ((usedN nb nn : Int) ≤ (h : Int) - 1)) := Lib.hid (by
   unfold fitsR fitsP roomP usedN
   rw [if_pos hn]
   rw [Bool.eq_iff_iff, decide_eq_true_iff, decide_eq_true_iff]
   omega)
  have hu : usedN nb nn ≤ 2097153 := by unfold usedN; omega
  clear hn
  go_wp2_with (first | (go_at_call 92; refine HU.out.mono ?_; rintro e w' ⟨rfl, hb2⟩; have HB2 := Lib.hid (HB.out.trans (hb2.mono HB.out.size)); clear hb2) | fail)
  go_ret
  exact ⟨ret_bool HR.out.symm, HB2.out⟩
 ·have hnl : ¬ (x.notes.length : Int) = 0 := by have := List.length_pos_iff.2 hn; omega
  have HR : Hid (fitsR h nb nn q x = (decide (q = 0) && decide ((usedN nb nn : Int) + 1 + (1 - ((min nn 1 : Nat) : Int)) + 1 ≤ (h : Int)))) := Lib.hid (by
   unfold fitsR fitsP roomP usedN
   rw [if_neg hn]
   rw [Bool.eq_iff_iff, Bool.and_eq_true, Bool.and_eq_true, decide_eq_true_iff, decide_eq_true_iff, decide_eq_true_iff, decide_eq_true_iff]
   omega)
  have hu : usedN nb nn ≤ 2097153 := by unfold usedN; omega
  clear hn
  by_cases hq : q = 0
  ·subst hq
   go_wp2_with (first | (go_at_call 92; refine HU.out.mono ?_; rintro e w' ⟨rfl, hb2⟩; have HB2 := Lib.hid (HB.out.trans (hb2.mono HB.out.size)); clear hb2) | fail)
   go_ret
   exact ⟨ret_bool (show decide ((usedN nb nn : Int) + 1 + (1 - min (nn : Int) 1) + 1 ≤ (h : Int)) = fitsR h nb nn 0 x by rw [HR.out, show ((min nn 1 : Nat) : Int) = min (nn : Int) 1 by omega]; simp), HB2.out⟩
  ·have hq2 : ¬ (q : Int) = 0 := by omega
   have HR2 : Hid (fitsR h nb nn q x = false) := Lib.hid (by rw [HR.out, decide_eq_false hq]; rfl)
   go_wp2_with fail
   go_ret
   exact ⟨ret_bool HR2.out.symm, HB.out⟩
theorem rints_any (A : Option Addr) (c n : Nat) (l : List Int) (w : World) (hs : Sl w (fun b => b < w.heap.size) A c l) (hn : l.length = n) (hm : n ≤ 1048576) :
  Calls Tryz.prog 112 #[.slice A n c, .int .i64 (n : Int)] w fun e w' => ∃ v, e = .returned v ∧ Own w' w.heap.size 3 v l ∧ Below w.heap.size w w' := by
 have HS := Lib.hid hs
 have HN := Lib.hid hn
 have hnc : n ≤ c := by rw [← hn]; exact hs.1
 clear hs hn
 go_enter Tryz.func112, Tryz.ntmps112
 go_wp2_with (first
  |(at_builtin; refine wpList_cat (α := Int) _ rfl (.tmp 6) (.tmp 12) 22 rfl w.heap.size 3 (.int .i64 0) 8 Tryz.underlying22 int_info rfl (by decide) (.slice none 0 0) [] rfl (Own.nil _ _ _) A c n l rfl HN.out (fun b => b < w.heap.size) HS.out (fun i hi _ e => by simp [Value.ownBlock] at e) (by simp; omega) (by simp; omega) (Nat.le_refl _) ?_; intro v4 w4 hown4 hg4 hat4; have HO4 := Lib.hid hown4; have HB4 := Lib.hid (below_cat (Below.refl w.heap.size w) (Own.nil w w.heap.size 3 (α := Int)) (Nat.le_refl _) hg4); clear hown4 hg4 hat4)
  | fail)
 go_ret
 exact ⟨_, rfl, HO4.out, HB4.out⟩
def IsCopy (x : LineP) (w : World) (e : Ending) (w' : World) : Prop := ∃ A c B d, e = .returned (.agg #[.int .i64 x.fr, .int .i64 x.un, .slice A x.gaps.length c, .slice B x.notes.length d]) ∧ Own w' w.heap.size 3 (.slice A x.gaps.length c) x.gaps ∧ Own w' w.heap.size 3 (.slice B x.notes.length d) x.notes ∧ Below w.heap.size w w'
set_option maxRecDepth 100000 in
set_option maxHeartbeats 4000000 in
theorem rcopy_any (Ag An : Option Addr) (cg cn : Nat) (x : LineP) (w : World) (hg : Sl w (fun b => b < w.heap.size) Ag cg x.gaps) (hn : Sl w (fun b => b < w.heap.size) An cn x.notes) (h1 : x.gaps.length ≤ 1048576) (h2 : x.notes.length ≤ 1048576) :
  Calls Tryz.prog 90 #[.agg #[.int .i64 x.fr, .int .i64 x.un, .slice Ag x.gaps.length cg, .slice An x.notes.length cn]] w (IsCopy x w) := by
 obtain ⟨wb, hwb⟩ : ∃ wb, (w.alloc (.cells #[.int .i64 x.fr, .int .i64 x.un, .slice Ag x.gaps.length cg, .slice An x.notes.length cn] 88)).alloc (.cells #[.int .i64 0, .int .i64 0, .slice none 0 0, .slice none 0 0] 88) = wb := ⟨_, rfl⟩
 have hba : Below w.heap.size w wb := by rw [← hwb]; exact ((Below.refl _ _).alloc (Nat.le_refl _) _).alloc (by simp) _
 have hsz : wb.heap.size = w.heap.size + 2 := by rw [← hwb]; simp
 have hx0 : ABox wb w.heap.size 88 [.int .i64 x.fr, .int .i64 x.un, .slice Ag x.gaps.length cg, .slice An x.notes.length cn] := by rw [← hwb]; exact (Below.heap_alloc _ _ _ (by simp)).trans (heap_alloc_new w _)
 have hx1 : ABox wb (w.heap.size + 1) 88 [.int .i64 0, .int .i64 0, .slice none 0 0, .slice none 0 0] := by rw [← hwb]; exact heap_at (by simp)
 have HG := Lib.hid (hg.to hba)
 have HN := Lib.hid (hn.to hba)
 have HB := Lib.hid hba
 have HX0 := Lib.hid hx0
 have HX1 := Lib.hid hx1
 have HSZ := Lib.hid hsz
 obtain ⟨O, hO⟩ : ∃ O, w.heap.size + 1 = O := ⟨_, rfl⟩
 clear hba hx0 hx1 hg hn hsz
 go_enter Tryz.func90, Tryz.ntmps90
 go_upto_region 1 with (fail)
 try rw [hwb]
 clear hwb
 refine wp_region_rely [9, 15] (fun i => if i = 9 then SP.own wb.heap.size 3 x.gaps else if i = 15 then SP.own wb.heap.size 3 x.notes else SP.any) 17 (by kernel_rfl) (by kernel_rfl) ?_
 intro T _ g hg hgm
 have x0 : ∀ d, (g d).cell? ⟨w.heap.size, 0, none⟩ = some (.int .i64 x.fr) := fun d => (HX0.out.to (hg d)).cell 0 rfl
 have x1 : ∀ d, (g d).cell? ⟨w.heap.size, 1, none⟩ = some (.int .i64 x.un) := fun d => (HX0.out.to (hg d)).cell 1 rfl
 have x2 : ∀ d, (g d).cell? ⟨w.heap.size, 2, none⟩ = some (.slice Ag x.gaps.length cg) := fun d => (HX0.out.to (hg d)).cell 2 rfl
 have x3 : ∀ d, (g d).cell? ⟨w.heap.size, 3, none⟩ = some (.slice An x.notes.length cn) := fun d => (HX0.out.to (hg d)).cell 3 rfl
 repeat (refine wpR_pure (by rfl) fun Kq hq => ?_; go_big_quiet_step (fail); refine wpQuiet_nil (hq _ ?_); clear hq Kq)
 refine wpR_busy (by rfl) (by rfl) (fun d hG K Q hK => ?_) (fun v d hG hp Kr hr => ?_)
 ·go_simp
  go_at_call 112
  refine (rints_any Ag cg x.gaps.length x.gaps (g d) (HG.out.to (hg d)) rfl h1).mono ?_
  rintro e W1 ⟨v3, rfl, ho3, hb1⟩
  go_simp
  exact hK _ _ hb1 (ho3.re (hg d).size)
 obtain ⟨A3, c3, rfl, -⟩ := (show Own (g d) wb.heap.size 3 v x.gaps from hp).form
 (try clear hp); clear hG
 simp only [Act.put, List.setIfInBounds_toArray, List.set_cons_zero, List.set_cons_succ]
 refine hr _ ?_
 clear hr Kr
 repeat (refine wpR_pure (by rfl) fun Kq hq => ?_; go_big_quiet_step (fail); refine wpQuiet_nil (hq _ ?_); clear hq Kq)
 refine wpR_busy (by rfl) (by rfl) (fun d hG K Q hK => ?_) (fun v d hG hp Kr hr => ?_)
 ·go_simp
  go_at_call 112
  refine (rints_any An cn x.notes.length x.notes (g d) (HN.out.to (hg d)) rfl h2).mono ?_
  rintro e W1 ⟨v3, rfl, ho3, hb1⟩
  go_simp
  exact hK _ _ hb1 (ho3.re (hg d).size)
 obtain ⟨A4, c4, rfl, -⟩ := (show Own (g d) wb.heap.size 3 v x.notes from hp).form
 (try clear hp); clear hG
 simp only [Act.put, List.setIfInBounds_toArray, List.set_cons_zero, List.set_cons_succ]
 refine hr _ ?_
 clear hr Kr
 repeat (refine wpR_pure (by rfl) fun Kq hq => ?_; go_big_quiet_step (fail); refine wpQuiet_nil (hq _ ?_); clear hq Kq)
 refine wpR_tail 1 (by rfl) (by rfl) (fun d hG => ?_)
 have HO3 : Hid (Own (g d) wb.heap.size 3 (.slice A3 x.gaps.length c3) x.gaps) := Lib.hid (hG 9)
 have HO4 : Hid (Own (g d) wb.heap.size 3 (.slice A4 x.notes.length c4) x.notes) := Lib.hid (hG 15)
 have HXd := Lib.hid (HX1.out.to (hg d))
 have HBd := Lib.hid (HB.out.trans ((hg d).mono HB.out.size))
 rw [hO] at HXd
 try rw [hO]
 clear hG hg hgm x0 x1 x2 x3
 generalize g d = w6 at *
 clear g
 have z0 := HXd.out.cell 0 rfl
 have z1 := (HXd.out.set 0 (.int .i64 x.fr)).cell 1 rfl
 have z2 := ((HXd.out.set 0 (.int .i64 x.fr)).set 1 (.int .i64 x.un)).cell 2 rfl
 have z3 := (((HXd.out.set 0 (.int .i64 x.fr)).set 1 (.int .i64 x.un)).set 2 (.slice A3 x.gaps.length c3)).cell 3 rfl
 have y0 := HXd.out.fz 0
 have y1 := (HXd.out.set 0 (.int .i64 x.fr)).fz 1
 have y2 := ((HXd.out.set 0 (.int .i64 x.fr)).set 1 (.int .i64 x.un)).fz 2
 have y3 := (((HXd.out.set 0 (.int .i64 x.fr)).set 1 (.int .i64 x.un)).set 2 (.slice A3 x.gaps.length c3)).fz 3
 refine wpAny_one (i := 17) (oi := _) rfl (by kernel_rfl) (by rfl) (fun K hK => ?_)
 go_simp
 refine hK _ _ ?_
 clear hK K
 try simp only [Act.put, List.setIfInBounds_toArray, List.set_cons_zero, List.set_cons_succ]
 clear z0 z1 z2 z3 y0 y1 y2 y3
 refine wpAny_done (by kernel_rfl) ?_ _
 unfold Exit.then
 have hkk : ∀ i, i ≠ O → ((((w6.setCell ⟨O, 0, none⟩ (.int .i64 x.fr)).setCell ⟨O, 1, none⟩ (.int .i64 x.un)).setCell ⟨O, 2, none⟩ (.slice A3 x.gaps.length c3)).setCell ⟨O, 3, none⟩ (.slice A4 x.notes.length c4)).heap[i]? = w6.heap[i]? := fun i hi => (heap_set _ _ _ _ hi).trans ((heap_set _ _ _ _ hi).trans ((heap_set _ _ _ _ hi).trans (heap_set _ _ _ _ hi)))
 have hwO : w.heap.size ≤ O := by omega
 have hwb2 : w.heap.size ≤ wb.heap.size := by have := HSZ.out; omega
 have hOb : O < wb.heap.size := by have := HSZ.out; omega
 have HZB : Hid (Below w.heap.size w ((((w6.setCell ⟨O, 0, none⟩ (.int .i64 x.fr)).setCell ⟨O, 1, none⟩ (.int .i64 x.un)).setCell ⟨O, 2, none⟩ (.slice A3 x.gaps.length c3)).setCell ⟨O, 3, none⟩ (.slice A4 x.notes.length c4))) := Lib.hid ((((HBd.out.setCell (p := ⟨O, 0, none⟩) hwO _).setCell (p := ⟨O, 1, none⟩) hwO _).setCell (p := ⟨O, 2, none⟩) hwO _).setCell (p := ⟨O, 3, none⟩) hwO _)
 have HZ3 : Hid (Own ((((w6.setCell ⟨O, 0, none⟩ (.int .i64 x.fr)).setCell ⟨O, 1, none⟩ (.int .i64 x.un)).setCell ⟨O, 2, none⟩ (.slice A3 x.gaps.length c3)).setCell ⟨O, 3, none⟩ (.slice A4 x.notes.length c4)) w.heap.size 3 (.slice A3 x.gaps.length c3) x.gaps) := Lib.hid ((own_keepI HO3.out (fun i hi => hkk i (fun e => by have := (HO3.out.lt i hi).1; omega))).re hwb2)
 have HZ4 : Hid (Own ((((w6.setCell ⟨O, 0, none⟩ (.int .i64 x.fr)).setCell ⟨O, 1, none⟩ (.int .i64 x.un)).setCell ⟨O, 2, none⟩ (.slice A3 x.gaps.length c3)).setCell ⟨O, 3, none⟩ (.slice A4 x.notes.length c4)) w.heap.size 3 (.slice A4 x.notes.length c4) x.notes) := Lib.hid ((own_keepI HO4.out (fun i hi => hkk i (fun e => by have := (HO4.out.lt i hi).1; omega))).re hwb2)
 have HZX : Hid (ABox ((((w6.setCell ⟨O, 0, none⟩ (.int .i64 x.fr)).setCell ⟨O, 1, none⟩ (.int .i64 x.un)).setCell ⟨O, 2, none⟩ (.slice A3 x.gaps.length c3)).setCell ⟨O, 3, none⟩ (.slice A4 x.notes.length c4)) O 88 [.int .i64 x.fr, .int .i64 x.un, .slice A3 x.gaps.length c3, .slice A4 x.notes.length c4]) := Lib.hid ((((HXd.out.set 0 (.int .i64 x.fr)).set 1 (.int .i64 x.un)).set 2 (.slice A3 x.gaps.length c3)).set 3 (.slice A4 x.notes.length c4))
 clear hkk
 go_wp2_with fail
 exact bodyPost_ret (v := .agg #[.int .i64 x.fr, .int .i64 x.un, .slice A3 x.gaps.length c3, .slice A4 x.notes.length c4]) (results_box1 Tryz.results90 _ _ O _ [.int .i64 x.fr, .int .i64 x.un, .slice A3 x.gaps.length c3, .slice A4 x.notes.length c4] _ rfl HZX.out Tryz.underlying88 rfl (by kernel_rfl)) rfl
  ⟨A3, c3, A4, c4, rfl, HZ3.out, HZ4.out, HZB.out⟩
end Go.Proofs.YtakaielemicpkaaGreatDoor
namespace Go.Proofs.YtakaielemicpkaaGreatDoor
open Go.RowKit
theorem lrows_at {w : World} {S : Nat → Prop} {A : Option Addr} {c : Nat} {l : List (List LineP)} (h : Sl w S A c l) {k : Nat} (hk : k < l.length) :
  ∃ b o A1 c1, A = some ⟨b, o, none⟩ ∧ S b ∧ b < w.heap.size ∧ w.cell? ⟨b, o + k, none⟩ = some (.slice A1 l[k].length c1) ∧ Sl w S A1 c1 l[k] := by
 obtain ⟨b, o, es, rfl, hb, hlt, ⟨A1, c1, rfl, hs, -⟩, hc⟩ := h.at_ hk
 have h0 := hc 0 _ rfl
 simp only [Rep.size, Nat.mul_one, Nat.add_zero] at h0
 exact ⟨b, o, A1, c1, rfl, hb, hlt, h0, hs⟩
set_option maxRecDepth 100000 in
set_option maxHeartbeats 8000000 in
theorem rwrong_any (A B : Option Addr) (c d : Nat) (body : List LineP) (notes : List (List LineP)) (h : Int) (w : World) (ha : Sl w (fun b => b < w.heap.size) A c body) (hb : Sl w (fun b => b < w.heap.size) B d notes) (hln : notes.length ≤ 1048576) (hlb : body.length ≤ 1048576) (hsm : ∀ x ∈ body, x.notes.length ≤ 1048576) :
  Calls Tryz.prog 89 #[.slice A body.length c, .slice B notes.length d, .int .i64 h] w fun e w' => e = .returned (.int .i64 (pageE body notes h)) ∧ Below w.heap.size w w' := by
 have HA := Lib.hid ha
 have HBS := Lib.hid hb
 have HSM := Lib.hid hsm
 have hnc : notes.length ≤ d := hb.1
 have hbc : body.length ≤ c := ha.1
 have HB : Hid (Below w.heap.size w w) := Lib.hid (Below.refl _ _)
 clear ha hb hsm
 by_cases h4 : h < 4
 ·have HE : Hid (pageE body notes h = 5) := Lib.hid (by unfold pageE; rw [if_pos (.inl h4)])
  go_enter Tryz.func89, Tryz.ntmps89
  go_wp2_with fail
  go_ret
  exact ⟨by rw [HE.out]; rfl, Below.refl _ _⟩
 by_cases h5 : 100 < h
 ·have HE : Hid (pageE body notes h = 5) := Lib.hid (by unfold pageE; rw [if_pos (.inr h5)])
  go_enter Tryz.func89, Tryz.ntmps89
  go_wp2_with fail
  go_ret
  exact ⟨by rw [HE.out]; rfl, Below.refl _ _⟩
 have H45 : Hid (¬ (h < 4 ∨ 100 < h)) := Lib.hid (by omega)
 go_enter Tryz.func89, Tryz.ntmps89
 go_wp2_with fail
 go_loopw [7] (fun i wr => ∃ k : Nat, k ≤ notes.length ∧ i = .int .i64 (k : Int) ∧ Hid (∀ j (hj : j < notes.length), j < k → notes[j] ≠ []) ∧ wr = w) (fun i _ => notes.length - (intOf i).toNat)
 case atStart => exact ⟨0, Nat.zero_le _, rfl, Lib.hid (fun j _ h => absurd h (Nat.not_lt_zero _)), by first | rfl | trivial⟩
 case round =>
  obtain ⟨k, hk, rfl, HNE, rfl⟩ := hrel
  by_cases hlt : k < notes.length
  ·have hkI : (k : Int) < (notes.length : Int) := by omega
   obtain ⟨b, o, A1, c1, rfl, -, -, e0, -⟩ := lrows_at HBS.out hlt
   obtain ⟨y, hy⟩ : ∃ y, notes[k] = y := ⟨_, rfl⟩
   rw [hy] at e0
   have HY := Lib.hid hy
   clear hy
   by_cases hye : y = []
   ·have HE : Hid (pageE body notes h = 1) := Lib.hid (by
     unfold pageE
     rw [if_neg H45.out, if_pos]
     exact List.any_eq_true.2 ⟨notes[k], List.getElem_mem hlt, decide_eq_true (by rw [HY.out]; exact hye)⟩)
    subst hye
    go_wp2_with fail
    go_ret
    exact ⟨by rw [HE.out]; rfl, HB.out⟩
   ·have hy0 : ¬ (y.length : Int) = 0 := by have := List.length_pos_iff.2 hye; omega
    have HYE := Lib.hid hye
    clear hye
    go_wp2_with fail
    go_roundw
    case rel => exact ⟨k + 1, by omega, by go_num, Lib.hid (fun j hj hjk => by
     rcases Nat.lt_or_ge j k with h | h
     ·exact HNE.out j hj h
     ·obtain rfl : j = k := by omega
      rw [HY.out]; exact HYE.out), by first | rfl | trivial⟩
    case measure => simp [intOf]; omega
  ·obtain rfl : k = notes.length := by omega
   have HE : Hid (pageE body notes h = match nextN notes.length 0 (body.flatMap (·.notes)) with | none => 12 | some k => if k < notes.length then 3 else 0) := Lib.hid (by
    unfold pageE
    rw [if_neg H45.out, if_neg]
    ·rfl
    ·rw [Bool.not_eq_true, List.any_eq_false]
     intro x hx
     obtain ⟨j, hj, rfl⟩ := List.getElem_of_mem hx
     rw [decide_eq_true_iff]
     exact HNE.out j hj hj)
   clear HNE H45
   go_wp2_with fail
   obtain ⟨wo, rfl⟩ : ∃ wo : World, wo = wr := ⟨_, rfl⟩
   go_loopw [8, 9] (fun vn vi wr => ∃ (k : Nat) (nx : Int), k ≤ body.length ∧ vi = .int .i64 (k : Int) ∧ vn = .int .i64 nx ∧ Hid (nextN notes.length 0 ((body.take k).flatMap (·.notes)) = some nx) ∧ 0 ≤ nx ∧ nx ≤ notes.length ∧ wr = wo) (fun _ vi _ => body.length - (intOf vi).toNat)
   case atStart => exact ⟨0, 0, Nat.zero_le _, rfl, rfl, Lib.hid rfl, Int.le_refl _, by omega, by first | rfl | trivial⟩
   case round =>
    obtain ⟨k, nx, hk, rfl, rfl, HX, hn0, hn1, rfl⟩ := hrel
    by_cases hlt : k < body.length
    ·have hkl : (k : Int) < (body.length : Int) := by omega
     have hk0 : (0 : Int) ≤ (k : Int) := by omega
     obtain ⟨b, o, Ag, cg, An, cn, rfl, -, hbl2, -, -, -, e3, hgS, hnS⟩ := line_at HA.out hlt
     have HRS := Lib.hid (refs_step body k hlt)
     have HNO : Hid (∀ j, nextN notes.length 0 ((body.take k).flatMap (·.notes) ++ (body[k].notes).take j) = none → nextN notes.length 0 (body.flatMap (·.notes)) = none) := Lib.hid (fun j hj => by
      have h1 : (body.flatMap (·.notes)) = ((body.take k).flatMap (·.notes) ++ (body[k].notes).take j) ++ ((body[k].notes).drop j ++ (body.drop (k + 1)).flatMap (·.notes)) := by
       conv => lhs; rw [← List.take_append_drop (k + 1) body, List.flatMap_append, HRS.out]
       rw [List.append_assoc, List.append_assoc]
       congr 1
       rw [← List.append_assoc, List.take_append_drop]
      rw [h1, nextN_app, hj]; rfl)
     have HNS := Lib.hid hnS
     have hnl9 : body[k].notes.length ≤ 1048576 := HSM.out _ (List.getElem_mem hlt)
     have hncn : body[k].notes.length ≤ cn := hnS.1
     generalize body[k] = x at *
     clear hgS hnS
     go_wp2_with fail
     obtain ⟨w2, rfl⟩ : ∃ w2 : World, w2 = wr := ⟨_, rfl⟩
     go_loopw [8, 10] (fun vn vj wr => ∃ (j : Nat) (nx : Int), j ≤ x.notes.length ∧ vj = .int .i64 (j : Int) ∧ vn = .int .i64 nx ∧ Hid (nextN notes.length 0 ((body.take k).flatMap (·.notes) ++ x.notes.take j) = some nx) ∧ 0 ≤ nx ∧ nx ≤ notes.length ∧ wr = w2) (fun _ vj _ => x.notes.length - (intOf vj).toNat)
     case atStart => exact ⟨0, nx, Nat.zero_le _, rfl, rfl, Lib.hid (by rw [List.take_zero, List.append_nil]; exact HX.out), hn0, hn1, by first | rfl | trivial⟩
     case round =>
      clear HX hn0 hn1
      obtain ⟨j, nx, hj, rfl, rfl, HX, hn0, hn1, rfl⟩ := hrel
      by_cases hjl : j < x.notes.length
      ·have hjl' : (j : Int) < (x.notes.length : Int) := by omega
       have hj0 : (0 : Int) ≤ (j : Int) := by omega
       obtain ⟨b1, o1, hA1, -, -, hok, ce⟩ := int_at HNS.out hjl
       subst hA1
       have HT2 : Hid (nextN notes.length 0 ((body.take k).flatMap (·.notes) ++ x.notes.take (j + 1)) = if x.notes[j] ≠ nx ∨ (notes.length : Int) ≤ x.notes[j] then none else some (nx + 1)) := Lib.hid (by
        have e1 : ((body.take k).flatMap (·.notes)) ++ x.notes.take (j + 1) = ((body.take k).flatMap (·.notes) ++ x.notes.take j) ++ [x.notes[j]] := by
         rw [List.take_succ_eq_append_getElem hjl, List.append_assoc]
        rw [e1, nextN_app, HX.out]
        rfl)
       have HNJ := Lib.hid (HNO.out (j + 1))
       have HOK := Lib.hid hok
       generalize x.notes[j] = q at *
       clear hok
       by_cases hq : q = nx
       ·subst hq
        by_cases hq2 : (notes.length : Int) ≤ q
        ·have HE2 : Hid (pageE body notes h = 12) := Lib.hid (by rw [HE.out, HNJ.out (by rw [HT2.out, if_pos (.inr hq2)])])
         go_wp2_with fail
         go_ret
         exact ⟨by rw [HE2.out]; rfl, HB.out⟩
        ·have HX2 : Hid (nextN notes.length 0 ((body.take k).flatMap (·.notes) ++ x.notes.take (j + 1)) = some (q + 1)) := Lib.hid (by rw [HT2.out, if_neg (by omega)])
         have hq3 : q < (notes.length : Int) := by omega
         clear HT2 HNJ
         go_wp2_with fail
         go_roundw
         case rel => exact ⟨j + 1, q + 1, by omega, by go_num, by go_num, HX2, by omega, by omega, by first | trivial | rfl⟩
         case measure => (first | (simp [intOf]; done) | (simp [intOf]; omega))
       ·have HE2 : Hid (pageE body notes h = 12) := Lib.hid (by rw [HE.out, HNJ.out (by rw [HT2.out, if_pos (.inl hq)])])
        have hqb : (q == nx) = false := by rw [beq_eq_false_iff_ne]; exact hq
        go_wp2_with fail
        go_ret
        exact ⟨by rw [HE2.out]; rfl, HB.out⟩
      ·have HX2 : Hid (nextN notes.length 0 ((body.take (k + 1)).flatMap (·.notes)) = some nx) := Lib.hid (by rw [HRS.out]; have := HX.out; rwa [List.take_of_length_le (show x.notes.length ≤ j by omega)] at this)
       have hjl' : ¬ (j : Int) < (x.notes.length : Int) := by omega
       go_wp2_with fail
       go_roundw
       case rel => exact ⟨k + 1, nx, by omega, by go_num, rfl, HX2, hn0, hn1, by first | trivial | rfl⟩
       case measure => (first | (simp [intOf]; done) | (simp [intOf]; omega))
    ·have HX2 : Hid (nextN notes.length 0 (body.flatMap (·.notes)) = some nx) := Lib.hid (by have := HX.out; rwa [List.take_of_length_le (by omega)] at this)
     clear HX
     by_cases hnx : nx < (notes.length : Int)
     ·have HE2 : Hid (pageE body notes h = 3) := Lib.hid (by rw [HE.out, HX2.out]; exact if_pos hnx)
      go_wp2_with fail
      go_ret
      exact ⟨by rw [HE2.out]; rfl, HB.out⟩
     ·have HE2 : Hid (pageE body notes h = 0) := Lib.hid (by rw [HE.out, HX2.out]; exact if_neg hnx)
      go_wp2_with fail
      go_ret
      exact ⟨by rw [HE2.out]; rfl, HB.out⟩
end Go.Proofs.YtakaielemicpkaaGreatDoor
namespace Go.Proofs.YtakaielemicpkaaGreatDoor
open Go.RowKit
def PE (O : Nat) (a b : Option Nat) (i : Nat) : Prop := O < i ∧ some i ≠ a ∧ some i ≠ b
structure PS (w0 w : World) (ob : Option Nat) (qv : Value) (queue : List LineP) (pv : Value) (pages : List PageP) : Prop where
 bw : Below w0.heap.size w0 w
 q : Que w w0.heap.size 88 ob qv (queue.map (Av.mk : LineP → OldL w0.heap.size))
 pg : OwnP w w0.heap.size 36 pv pages (fun i => w0.heap.size ≤ i ∧ some i ≠ ob)
structure PG (w0 w : World) (O : Nat) (ob : Option Nat) (qv : Value) (queue : List LineP) (pv : Value) (pages : List PageP) (bv : Value) (bl : List LineP) (nv : Value) (nl : List LineP) : Prop where
 bw : Below w0.heap.size w0 w
 q : Que w w0.heap.size 88 ob qv (queue.map (Av.mk : LineP → OldL w0.heap.size))
 pg : OwnP w w0.heap.size 36 pv pages (fun i => (w0.heap.size ≤ i ∧ i < O) ∧ some i ≠ ob)
 o : ABox w O 36 [.int .i64 0, .int .i64 0, .int .i64 0, .int .i64 0, bv, nv]
 oq : some O ≠ ob
 og : w0.heap.size ≤ O
 b : OwnP w (O + 1) 88 bv bl (PE O ob nv.ownBlock)
 n : OwnP w (O + 1) 88 nv nl (PE O ob bv.ownBlock)
section
variable {w0 w w' : World} {O : Nat} {ob : Option Nat} {qv : Value} {queue : List LineP} {pv : Value} {pages : List PageP} {bv nv : Value} {bl nl : List LineP}
theorem PS.to (H : PS w0 w ob qv queue pv pages) (hb : Below w.heap.size w w') : PS w0 w' ob qv queue pv pages :=
 ⟨H.bw.trans (hb.mono H.bw.size), H.q.below hb, H.pg.below hb⟩
theorem PG.to (H : PG w0 w O ob qv queue pv pages bv bl nv nl) (hb : Below w.heap.size w w') : PG w0 w' O ob qv queue pv pages bv bl nv nl :=
 ⟨H.bw.trans (hb.mono H.bw.size), H.q.below hb, H.pg.below hb, H.o.to hb, H.oq, H.og, H.b.below hb, H.n.below hb⟩
theorem PS.start (H : PS w0 w ob qv queue pv pages) (hb : Below w.heap.size w w') (ho : ABox w' w.heap.size 36 [.int .i64 0, .int .i64 0, .int .i64 0, .int .i64 0, .slice none 0 0, .slice none 0 0]) :
  PG w0 w' w.heap.size ob qv queue pv pages (.slice none 0 0) [] (.slice none 0 0) [] :=
 ⟨(H.to hb).bw, (H.to hb).q, (H.pg.mono (fun i hi hl => ⟨⟨hi.1, hl⟩, hi.2⟩)).below hb, ho, fun e => by have := (H.q.lt _ e.symm).2; omega, H.bw.size, OwnP.nil _ _ _ _, OwnP.nil _ _ _ _⟩
theorem PG.note (H : PG w0 w O ob qv queue pv pages bv bl nv nl) {x : LineP} {v' : Value} (hx : Own w' (O + 1) 88 v' (nl.map (Av.mk : LineP → Av LineP (PE O ob bv.ownBlock)) ++ [⟨x⟩])) (hg : w.grownBy w' nv.ownBlock) (hat : v'.ownBlock = nv.ownBlock ∨ v'.ownBlock = some w.heap.size) :
  w'.cell? ⟨O, 5, none⟩ = some nv ∧ (∀ j, w'.frozen? ⟨O, j, none⟩ = false) ∧ PG w0 (w'.setCell ⟨O, 5, none⟩ v') O ob qv queue pv pages bv bl v' (nl ++ [x]) := by
 have hol := H.q.lt
 have hsz := hg.size
 have hOw : O < w.heap.size := H.o.lt
 have hOn : some O ≠ nv.ownBlock := fun e => by have := (H.n.lt _ e.symm).1; omega
 have hqn : ∀ g, ob = some g → some g ≠ nv.ownBlock := fun g e1 e2 => (H.n.at_ g e2.symm).2.1 (by rw [e1])
 have hoO : ABox w' O 36 [.int .i64 0, .int .i64 0, .int .i64 0, .int .i64 0, bv, nv] := (hg.block O hOw hOn).trans H.o
 have hold : Kept (fun b => b < w0.heap.size) w w' := Kept.grown hg (fun i hi e => by have := (H.n.lt _ e.symm).1; have := H.og; omega)
 have hold2 : Kept (fun b => b < w0.heap.size) w' (w'.setCell ⟨O, 5, none⟩ v') := fun i hi _ => heap_set w' O 5 v' (by have := H.og; omega)
 refine ⟨hoO.cell 5 rfl, fun j => hoO.fz j, ?_, ?_, ?_, ?_, H.oq, H.og, ?_, ?_⟩
 ·exact (H.bw.grown hg H.bw.size (fun k hk => by have := (H.n.lt _ hk).1; have := H.og; omega)).setCell (p := ⟨O, 5, none⟩) H.og _
 ·exact (H.q.keptA hold (fun g hg' hl => hg.block g hl (fun e => hqn g hg' e))).keptA hold2 (fun g hg' _ => heap_set w' O 5 v' (fun e => H.oq (e ▸ hg'.symm)))
 ·exact (H.pg.grown hg (fun i hi e => by have := (H.n.lt _ e.symm).1; omega)).set O 5 v' (fun i hi e => by omega)
 ·have := hoO.set 5 v'
  simpa using this
 ·refine (((H.b.mono (Q := fun i => PE O ob nv.ownBlock i ∧ PE O ob v'.ownBlock i) (fun i hi hl => ⟨hi, hi.1, hi.2.1, fun e => ?_⟩)).grown hg (fun i hi => hi.1.2.2)).set O 5 v' (fun i hi e => by have := hi.1.1; omega)).mono (fun i hi _ => hi.2)
  rcases hat with h | h
  ·exact hi.2.2 (by rw [e, h])
  ·rw [h] at e; injection e with e; omega
 ·exact (H.n.pushed hx (H := w.heap.size) (fun g hgo => by
   rcases hat with h | h
   ·exact .inl (h ▸ hgo)
   ·rw [h] at hgo; injection hgo with e; exact .inr e.symm) ⟨hOw, fun e => by have := (hol _ e.symm).2; omega, fun e => by have := (H.b.lt _ e.symm).2; omega⟩).set O 5 v' (fun i hi e => by have := hi.1; omega)
theorem PG.body (H : PG w0 w O ob qv queue pv pages bv bl nv nl) {x : LineP} {v' : Value} (hx : Own w' (O + 1) 88 v' (bl.map (Av.mk : LineP → Av LineP (PE O ob nv.ownBlock)) ++ [⟨x⟩])) (hg : w.grownBy w' bv.ownBlock) (hat : v'.ownBlock = bv.ownBlock ∨ v'.ownBlock = some w.heap.size) :
  w'.cell? ⟨O, 4, none⟩ = some bv ∧ (∀ j, w'.frozen? ⟨O, j, none⟩ = false) ∧ PG w0 (w'.setCell ⟨O, 4, none⟩ v') O ob qv queue pv pages v' (bl ++ [x]) nv nl := by
 have hol := H.q.lt
 have hsz := hg.size
 have hOw : O < w.heap.size := H.o.lt
 have hOn : some O ≠ bv.ownBlock := fun e => by have := (H.b.lt _ e.symm).1; omega
 have hqn : ∀ g, ob = some g → some g ≠ bv.ownBlock := fun g e1 e2 => (H.b.at_ g e2.symm).2.1 (by rw [e1])
 have hoO : ABox w' O 36 [.int .i64 0, .int .i64 0, .int .i64 0, .int .i64 0, bv, nv] := (hg.block O hOw hOn).trans H.o
 have hold : Kept (fun b => b < w0.heap.size) w w' := Kept.grown hg (fun i hi e => by have := (H.b.lt _ e.symm).1; have := H.og; omega)
 have hold2 : Kept (fun b => b < w0.heap.size) w' (w'.setCell ⟨O, 4, none⟩ v') := fun i hi _ => heap_set w' O 4 v' (by have := H.og; omega)
 refine ⟨hoO.cell 4 rfl, fun j => hoO.fz j, ?_, ?_, ?_, ?_, H.oq, H.og, ?_, ?_⟩
 ·exact (H.bw.grown hg H.bw.size (fun k hk => by have := (H.b.lt _ hk).1; have := H.og; omega)).setCell (p := ⟨O, 4, none⟩) H.og _
 ·exact (H.q.keptA hold (fun g hg' hl => hg.block g hl (fun e => hqn g hg' e))).keptA hold2 (fun g hg' _ => heap_set w' O 4 v' (fun e => H.oq (e ▸ hg'.symm)))
 ·exact (H.pg.grown hg (fun i hi e => by have := (H.b.lt _ e.symm).1; omega)).set O 4 v' (fun i hi e => by omega)
 ·have := hoO.set 4 v'
  simpa using this
 ·exact (H.b.pushed hx (H := w.heap.size) (fun g hgo => by
   rcases hat with h | h
   ·exact .inl (h ▸ hgo)
   ·rw [h] at hgo; injection hgo with e; exact .inr e.symm) ⟨hOw, fun e => by have := (hol _ e.symm).2; omega, fun e => by have := (H.n.lt _ e.symm).2; omega⟩).set O 4 v' (fun i hi e => by have := hi.1; omega)
 ·refine (((H.n.mono (Q := fun i => PE O ob bv.ownBlock i ∧ PE O ob v'.ownBlock i) (fun i hi hl => ⟨hi, hi.1, hi.2.1, fun e => ?_⟩)).grown hg (fun i hi => hi.1.2.2)).set O 4 v' (fun i hi e => by have := hi.1.1; omega)).mono (fun i hi _ => hi.2)
  rcases hat with h | h
  ·exact hi.2.2 (by rw [e, h])
  ·rw [h] at e; injection e with e; omega
theorem PG.que (H : PG w0 w O ob qv queue pv pages bv bl nv nl) {ob' : Option Nat} {qv' : Value} {queue' : List LineP} (hg : w.grownBy w' ob) (hq : Que w' w0.heap.size 88 ob' qv' (queue'.map (Av.mk : LineP → OldL w0.heap.size))) (hob : ob' = ob ∨ ob' = some w.heap.size) :
  PG w0 w' O ob' qv' queue' pv pages bv bl nv nl := by
 have hol := H.q.lt
 have hOw : O < w.heap.size := H.o.lt
 have hn : ∀ i, i < w.heap.size → some i ≠ ob → some i ≠ ob' := fun i hl hi e => by
  rcases hob with h | h
  ·exact hi (by rw [e, h])
  ·rw [h] at e; injection e with e; omega
 refine ⟨H.bw.grown hg H.bw.size (fun k hk => (hol k hk).1), hq, ?_, (hg.block O hOw H.oq).trans H.o, hn O hOw H.oq, H.og, ?_, ?_⟩
 ·exact ((H.pg.mono (Q := fun i => some i ≠ ob ∧ ((w0.heap.size ≤ i ∧ i < O) ∧ some i ≠ ob')) (fun i hi hl => ⟨hi.2, hi.1, hn i hl hi.2⟩)).grown hg (fun i hi => hi.1)).mono (fun i hi _ => hi.2)
 ·exact ((H.b.mono (Q := fun i => some i ≠ ob ∧ PE O ob' nv.ownBlock i) (fun i hi hl => ⟨hi.2.1, hi.1, hn i hl hi.2.1, hi.2.2⟩)).grown hg (fun i hi => hi.1)).mono (fun i hi _ => hi.2)
 ·exact ((H.n.mono (Q := fun i => some i ≠ ob ∧ PE O ob' bv.ownBlock i) (fun i hi hl => ⟨hi.2.1, hi.1, hn i hl hi.2.1, hi.2.2⟩)).grown hg (fun i hi => hi.1)).mono (fun i hi _ => hi.2)
theorem PG.cut (H : PG w0 w O ob qv queue pv pages bv bl nv nl) {ob' : Option Nat} {qv' : Value} {queue' : List LineP} (hq : Que w w0.heap.size 88 ob' qv' (queue'.map (Av.mk : LineP → OldL w0.heap.size))) (hob : ob' = none ∨ ob' = ob) :
  PG w0 w O ob' qv' queue' pv pages bv bl nv nl := by
 have hn : ∀ i, some i ≠ ob → some i ≠ ob' := fun i hi => by
  rcases hob with rfl | rfl
  ·simp
  ·exact hi
 exact ⟨H.bw, hq, H.pg.mono (fun i hi _ => ⟨hi.1, hn i hi.2⟩), H.o, hn O H.oq, H.og, H.b.mono (fun i hi _ => ⟨hi.1, hn i hi.2.1, hi.2.2⟩), H.n.mono (fun i hi _ => ⟨hi.1, hn i hi.2.1, hi.2.2⟩)⟩
theorem PG.rep (H : PG w0 w O ob qv queue pv pages bv bl nv nl) (h1 : bl.length < 9223372036854775808) (h2 : nl.length < 9223372036854775808) :
  Rep.R w (fun i => O < i ∧ some i ≠ ob) [.int .i64 0, .int .i64 0, .int .i64 0, .int .i64 0, bv, nv] (⟨0, 0, 0, 0, bl, nl⟩ : PageP) := by
 exact ⟨_, _, rfl, H.b.rep h1 (fun i hi _ => ⟨hi.1, hi.2.1⟩), H.n.rep h2 (fun i hi _ => ⟨hi.1, hi.2.1⟩)⟩
theorem PG.page (H : PG w0 w O ob qv queue pv pages bv bl nv nl) {pv' : Value} {d : PageP} (hg : w.grownBy w' pv.ownBlock) (h2 : Own w' w0.heap.size 36 pv' (pages.map (Av.mk : PageP → Av PageP (fun i => w0.heap.size ≤ i ∧ some i ≠ ob)) ++ [⟨d⟩]))
  (hat : ∀ g, pv'.ownBlock = some g → pv.ownBlock = some g ∨ g = w.heap.size) : PS w0 w' ob qv queue pv' (pages ++ [d]) := by
 have hol := H.q.lt
 have hpl := H.pg.lt
 have hold : Kept (fun b => b < w0.heap.size) w w' := Kept.grown hg (fun i hi e => by have := (hpl i e.symm).1; omega)
 have hpg : OwnP w w0.heap.size 36 pv pages (fun i => w0.heap.size ≤ i ∧ some i ≠ ob) := H.pg.mono (fun i hi _ => ⟨hi.1.1, hi.2⟩)
 exact ⟨H.bw.grown hg H.bw.size (fun k hk => (hpl k hk).1), H.q.keptA hold (fun g hg' hl => hg.block g hl (fun e => (H.pg.at_ g e.symm).2 (by rw [hg']))), hpg.pushed h2 hat ⟨H.bw.size, fun e => by have := (hol _ e.symm).2; omega⟩⟩
end
theorem moved {h lines shown s q : Nat} (h1 : shown ≤ s) (h2 : s ≤ q) (h3 : s = shown ∨ lines + 1 + s + 1 ≤ h) (h4 : ¬ (0 < q - s ∧ lines + 1 + s + 2 ≤ h)) : s = shownP h lines shown q := by
 unfold shownP
 split <;> omega
end Go.Proofs.YtakaielemicpkaaGreatDoor
namespace Go.Proofs.YtakaielemicpkaaGreatDoor
open Go.RowKit
def SP.copy (B : Nat) (x : LineP) : SP := ⟨fun v w => ∃ A c A' c', v = .agg #[.int .i64 x.fr, .int .i64 x.un, .slice A x.gaps.length c, .slice A' x.notes.length c'] ∧ Own w B 3 (.slice A x.gaps.length c) x.gaps ∧ Own w B 3 (.slice A' x.notes.length c') x.notes, fun _ _ _ h hb => by
 obtain ⟨A, c, A', c', h1, h2, h3⟩ := h
 exact ⟨A, c, A', c', h1, h2.below hb, h3.below hb⟩⟩
set_option maxRecDepth 100000 in
set_option maxHeartbeats 32000000 in
theorem rset_any (A B : Option Addr) (c d : Nat) (body : List LineP) (notes : List (List LineP)) (h : Int) (w : World) (ha : Sl w (fun b => b < w.heap.size) A c body) (hb : Sl w (fun b => b < w.heap.size) B d notes) (hln : notes.length ≤ 1048576)
  (hall : body.length + notes.flatten.length ≤ 1048576) (hsm : SmallL body) (hsn : ∀ n ∈ notes, SmallL n) :
  Calls Tryz.prog 63 #[.slice A body.length c, .slice B notes.length d, .int .i64 h] w fun e w' => ∃ v, e = .returned (.tuple #[v, .int .i64 (pageE body notes h)]) ∧
   (pageE body notes h = 0 → Own w' w.heap.size 36 v ((setPages notes h.toNat (allLines body notes) body []).map (Bd.mk : PageP → Bd PageP w.heap.size))) ∧ (pageE body notes h ≠ 0 → v = .slice none 0 0) ∧ Below w.heap.size w w' := by
 have HC := Lib.hid (rwrong_any A B c d body notes h w ha hb hln (by omega) (fun x hx => by have := (hsm x hx).2; omega))
 have HA := Lib.hid ha
 have HBn := Lib.hid hb
 have HSM := Lib.hid hsm
 have HSN := Lib.hid hsn
 have hbc : body.length ≤ c := ha.1
 have hnd : notes.length ≤ d := hb.1
 clear ha hb hsm hsn
 by_cases hE : pageE body notes h = 0
 ·obtain ⟨hn, rfl⟩ : ∃ hn : Nat, h = (hn : Int) := ⟨h.toNat, by have := pageE_h hE; omega⟩
  have hh := pageE_h hE
  have h4 : 4 ≤ hn := by omega
  have h100 : hn ≤ 100 := by omega
  have HREF := Lib.hid (pageE_refs hE)
  have hbl : body.length ≤ 1048576 := by omega
  have HALL : Hid (allLines body notes ≤ 1048576) := Lib.hid (Nat.le_trans (pageE_all hE) hall)
  have HE := Lib.hid hE
  simp only [hE] at HC ⊢
  rw [Int.toNat_natCast]
  clear hE hh hall
  go_enter Tryz.func63, Tryz.ntmps63
  go_wp2_with (first | (go_at_call 89; refine HC.out.mono ?_; rintro e w2 ⟨rfl, hb2⟩) | fail)
  have HP0 : Hid (PS w w2 none (.slice none 0 0) [] (.slice none 0 0) []) := Lib.hid ⟨hb2, Que.nil _ _ _, OwnP.nil _ _ _ _⟩
  obtain ⟨N, hN⟩ : ∃ N, (setPages notes hn (allLines body notes) body []).length = N := ⟨_, rfl⟩
  have HNE := Lib.hid hN
  clear hb2 HC hN
  go_loopw [9, 10, 11] (fun v9 v10 v11 wr => ∃ (at_ : Nat) (ob : Option Nat) (qu : List LineP) (pgs : List PageP) (f : Nat), v11 = .int .i64 (at_ : Int) ∧ at_ ≤ body.length ∧ Hid (PS w wr ob v10 qu v9 pgs) ∧ Hid (allLines (body.drop at_) notes + qu.length ≤ f ∧ f ≤ 1048576) ∧
   Hid (pgs ++ setPages notes hn f (body.drop at_) qu = setPages notes hn (allLines body notes) body []) ∧ Hid (SmallL qu)) (fun v9 _ _ _ => N - vlen v9)
  case atStart => exact ⟨0, none, [], [], _, rfl, Nat.zero_le _, HP0, Lib.hid ⟨Nat.le_refl _, HALL.out⟩, Lib.hid rfl, Lib.hid (fun x hx => absurd hx (by simp))⟩
  case round =>
   clear HP0 w2
   obtain ⟨at_, ob, qu, pgs, f, rfl, hat, HP, HF, HT, HS⟩ := hrel
   obtain ⟨Aq, cq, hqv, -, -⟩ := HP.out.q.len
   rw [List.length_map] at hqv
   subst hqv
   obtain ⟨A9, c9, hv9, -, -⟩ := HP.out.pg.len
   subst hv9
   go_upto_region 7 with (fail)
   go_cut [29] from 21 to 29 (fun v29 wx => v29 = .bool (decide (at_ < body.length) || decide (0 < qu.length)) ∧ wx = wr)
   case first =>
    by_cases h1 : at_ < body.length
    ·have h2 : (at_ : Int) < (body.length : Int) := by omega
     have H1 := Lib.hid h1
     clear h1
     go_wp2_with fail
     go_meet
     exact ⟨by rw [decide_eq_true H1.out]; rfl, rfl⟩
    ·have h2 : ¬ (at_ : Int) < (body.length : Int) := by omega
     have H1 := Lib.hid h1
     clear h1
     by_cases h3 : 0 < qu.length
     ·have h5 : (0 : Int) < (qu.length : Int) := by omega
      have H3 := Lib.hid h3
      clear h3
      go_wp2_with fail
      go_meet
      exact ⟨by rw [decide_eq_false H1.out, decide_eq_true H3.out]; rfl, rfl⟩
     ·have h5 : ¬ (0 : Int) < (qu.length : Int) := by omega
      have H3 := Lib.hid h3
      clear h3
      go_wp2_with fail
      go_meet
      exact ⟨by rw [decide_eq_false H1.out, decide_eq_false H3.out]; rfl, rfl⟩
   case rest =>
    obtain ⟨rfl, rfl⟩ := hcut
    by_cases hfin : at_ < body.length ∨ 0 < qu.length
    ·have HFIN := Lib.hid hfin
     rw [show (decide (at_ < body.length) || decide (0 < qu.length)) = true by rw [Bool.or_eq_true, decide_eq_true_iff, decide_eq_true_iff]; exact hfin]
     clear hfin
     go_upto_region 9 with (fail)
     obtain ⟨O, hO⟩ : ∃ O, wc.heap.size = O := ⟨_, rfl⟩
     obtain ⟨wP, hwP⟩ : ∃ wP, wc.alloc (.cells #[.int .i64 0, .int .i64 0, .int .i64 0, .int .i64 0, .slice none 0 0, .slice none 0 0] 36) = wP := ⟨_, rfl⟩
     have hpg0 : PG w wP O ob (.slice Aq qu.length cq) qu (.slice A9 pgs.length c9) pgs (.slice none 0 0) [] (.slice none 0 0) [] := by
      rw [← hO, ← hwP]
      exact HP.out.start ((Below.refl _ _).alloc (Nat.le_refl _) _) (heap_alloc_new wc _)
     rw [hwP, hO]
     have HG0 := Lib.hid hpg0
     have HQB : Hid (qu.length ≤ 1048576) := Lib.hid (by have := HF.out; omega)
     clear hpg0 hwP hO HP
     clear wc
     go_loopw [10] (fun v10 wx => ∃ (s : Nat) (ob1 : Option Nat) (nv : Value), s ≤ qu.length ∧ s ≤ hn - 1 ∧ Hid (PG w wx O ob1 v10 (qu.drop s) (.slice A9 pgs.length c9) pgs (.slice none 0 0) [] nv (qu.take s))) (fun v10 _ => vlen v10)
     case atStart => exact ⟨0, ob, _, Nat.zero_le _, Nat.zero_le _, HG0⟩
     case round =>
      clear HG0 wP
      obtain ⟨s, ob1, nv, hs1, hs2, HG⟩ := hrel
      obtain ⟨A1, c1, hqv, -, -⟩ := HG.out.q.len
      rw [List.length_map, List.length_drop] at hqv
      subst hqv
      obtain ⟨An, cn, hnv, -, -⟩ := HG.out.n.len
      rw [List.length_take, Nat.min_eq_left hs1] at hnv
      subst hnv
      have x5 := HG.out.o.cell 5 rfl
      have hsq : s ≤ 1048576 := by have := HQB.out; omega
      go_upto_region 9 with (fail)
      go_cut [41] from 31 to 41 (fun v41 wx => v41 = .bool (decide (s < qu.length) && decide (s < hn - 1)) ∧ wx = wr)
      case first =>
       by_cases h1 : s < qu.length
       ·have h2 : (0 : Int) < ((qu.length - s : Nat) : Int) := by omega
        have H1 := Lib.hid h1
        by_cases h3 : s < hn - 1
        ·have h5 : (s : Int) < (hn : Int) - 1 := by omega
         have H3 := Lib.hid h3
         clear h1 h3
         go_wp2_with fail
         go_meet
         exact ⟨by rw [decide_eq_true H1.out, decide_eq_true H3.out]; rfl, rfl⟩
        ·have h5 : ¬ (s : Int) < (hn : Int) - 1 := by omega
         have H3 := Lib.hid h3
         clear h1 h3
         go_wp2_with fail
         go_meet
         exact ⟨by rw [decide_eq_true H1.out, decide_eq_false H3.out]; rfl, rfl⟩
       ·have h2 : ¬ (0 : Int) < ((qu.length - s : Nat) : Int) := by omega
        have H1 := Lib.hid h1
        clear h1
        go_wp2_with fail
        go_meet
        exact ⟨by rw [decide_eq_false H1.out]; rfl, rfl⟩
      case rest =>
       obtain ⟨rfl, rfl⟩ := hcut
       obtain ⟨wr, rfl⟩ : ∃ wr : World, wr = wc := ⟨_, rfl⟩
       clear x5
       by_cases hgo : s < qu.length ∧ s < hn - 1
       ·obtain ⟨hgo1, hgo2⟩ := hgo
        rw [decide_eq_true hgo1, decide_eq_true hgo2]
        obtain ⟨A1', c1', e1', hsq1, -⟩ := HG.out.q.len
        obtain ⟨rfl, rfl⟩ : A1 = A1' ∧ c1 = c1' := by injection e1' with a b c; exact ⟨a, c⟩
        obtain ⟨b, o, Ag, cg, Am, cm, hA1, -, hbl1, e0, e1, e2, e3, hgS, hnS⟩ := line_at hsq1.unav (k := 0) (by rw [List.length_drop]; omega)
        subst hA1
        simp only [Nat.zero_mul, Nat.add_zero] at e0 e1 e2 e3
        obtain ⟨x, hx⟩ : ∃ x, (qu.drop s)[0]'(by rw [List.length_drop]; omega) = x := ⟨_, rfl⟩
        rw [hx] at e0 e1 e2 e3 hgS hnS
        have HXQ : Hid (qu[s]? = some x) := Lib.hid (by rw [List.getElem_drop] at hx; rw [List.getElem?_eq_getElem hgo1]; simpa using congrArg some hx)
        have HSX : Hid (x.gaps.length ≤ 100000 ∧ x.notes.length ≤ 100000) := Lib.hid (HS.out x (List.mem_of_getElem? HXQ.out))
        have HGS := Lib.hid hgS
        have HNS := Lib.hid hnS
        have HB1 : Hid (b < wr.heap.size) := Lib.hid hbl1
        have HC1 : Hid (qu.length - s ≤ c1) := Lib.hid (by have := hsq1.1; rwa [List.length_map, List.length_drop] at this)
        have hi0 : (0 : Int) < ((qu.length - s : Nat) : Int) := by omega
        clear hgS hnS hbl1 hx hsq1 e1'
        go_upto_region 10 with (fail)
        refine wp_region_rely [5, 6] (fun i => if i = 5 then SP.copy wr.heap.size x else if i = 6 then SP.rp wr.heap.size [x] else SP.any) 7 (by kernel_rfl) (by kernel_rfl) ?_
        intro T _ g hg hgm
        have q5 : ∀ d, (g d).cell? ⟨O, 5, none⟩ = some (.slice An s cn) := fun d => (HG.out.o.to (hg d)).cell 5 rfl
        have l0 : ∀ d, (g d).cell? ⟨b, o, none⟩ = some (.int .i64 x.fr) := fun d => ((hg d).cell (p := ⟨b, o, none⟩) HB1.out).trans e0
        have l1 : ∀ d, (g d).cell? ⟨b, o + 1, none⟩ = some (.int .i64 x.un) := fun d => ((hg d).cell (p := ⟨b, o + 1, none⟩) HB1.out).trans e1
        have l2 : ∀ d, (g d).cell? ⟨b, o + 2, none⟩ = some (.slice Ag x.gaps.length cg) := fun d => ((hg d).cell (p := ⟨b, o + 2, none⟩) HB1.out).trans e2
        have l3 : ∀ d, (g d).cell? ⟨b, o + 3, none⟩ = some (.slice Am x.notes.length cm) := fun d => ((hg d).cell (p := ⟨b, o + 3, none⟩) HB1.out).trans e3
        repeat (refine wpR_pure (by rfl) fun Kq hq => ?_; go_big_quiet_step (fail); refine wpQuiet_nil (hq _ ?_); clear hq Kq)
        refine wpR_busy (by rfl) (by rfl) (fun d hG K Q hK => ?_) (fun v d hG hp Kr hr => ?_)
        ·go_simp
         go_at_call 90
         refine (rcopy_any Ag Am cg cm x (g d) (HGS.out.to (hg d)) (HNS.out.to (hg d)) (by have := HSX.out; omega) (by have := HSX.out; omega)).mono ?_
         rintro e W1 ⟨A3, c3, A4, c4, rfl, ho3, ho4, hb1⟩
         go_simp
         exact hK _ _ hb1 (⟨A3, c3, A4, c4, rfl, ho3.re (hg d).size, ho4.re (hg d).size⟩)
        obtain ⟨A3, c3, A4, c4, rfl, -⟩ := (show ∃ A c A' c', v = .agg #[.int .i64 x.fr, .int .i64 x.un, .slice A x.gaps.length c, .slice A' x.notes.length c'] ∧ _ from hp)
        (try clear hp); clear hG
        simp only [Act.put, List.setIfInBounds_toArray, List.set_cons_zero, List.set_cons_succ]
        refine hr _ ?_
        clear hr Kr
        repeat (refine wpR_pure (by rfl) fun Kq hq => ?_; go_big_quiet_step (fail); refine wpQuiet_nil (hq _ ?_); clear hq Kq)
        refine wpR_busy (by rfl) (by rfl) (fun d hG K Q hK => ?_) (fun v d hG hp Kr hr => ?_)
        ·obtain ⟨A3', c3', A4', c4', he, ho3, ho4⟩ := (show ∃ A c A' c', Value.agg #[.int .i64 x.fr, .int .i64 x.un, .slice A3 x.gaps.length c3, .slice A4 x.notes.length c4] = .agg #[.int .i64 x.fr, .int .i64 x.un, .slice A x.gaps.length c, .slice A' x.notes.length c'] ∧ Own (g d) wr.heap.size 3 (.slice A x.gaps.length c) x.gaps ∧ Own (g d) wr.heap.size 3 (.slice A' x.notes.length c') x.notes from hG 5 (by kernel_rfl))
         obtain ⟨rfl, rfl, rfl, rfl⟩ : A3 = A3' ∧ c3 = c3' ∧ A4 = A4' ∧ c4 = c4' := by
          have := congrArg (fun v : Value => match v with | .agg cs => cs.toList | _ => []) he
          simp at this
          exact ⟨this.1.1, this.1.2, this.2.1, this.2.2⟩
         have HR : Hid (Rep.R (g d) (Up wr.heap.size) [.int .i64 x.fr, .int .i64 x.un, .slice A3 x.gaps.length c3, .slice A4 x.notes.length c4] x) := Lib.hid ⟨_, _, rfl, rep_ints ho3 rfl (fun b hb => hb), rep_ints ho4 rfl (fun b hb => hb)⟩
         clear ho3 ho4 he
         go_simp
         exact hK _ _ ((Below.refl _ _).alloc (Nat.le_refl _) _) (rp_lit (hg d).size HR.out)
        obtain ⟨⟨Az, cz, rfl⟩, -⟩ := (show (∃ A c, v = .slice A [x].length c) ∧ _ from hp)
        (try clear hp); clear hG
        simp only [Act.put, List.setIfInBounds_toArray, List.set_cons_zero, List.set_cons_succ]
        refine hr _ ?_
        clear hr Kr
        refine wpR_tail 3 (by rfl) (by rfl) (fun d hG => ?_)
        have H6 : Hid (Rep.R (g d) (Up wr.heap.size) [.slice Az [x].length cz] [x]) := Lib.hid (show (∃ A c, Value.slice Az [x].length cz = Value.slice A [x].length c) ∧ Rep.R (g d) (Up wr.heap.size) [.slice Az [x].length cz] [x] from hG 6).2
        have HGd := Lib.hid (HG.out.to (hg d))
        have HLT := Lib.hid HG.out.n.lt
        have HQL := Lib.hid HG.out.q.lt
        have HOT := Lib.hid HG.out.b.lt
        have HOL : Hid (O < wr.heap.size) := Lib.hid HG.out.o.lt
        have HSZ : Hid (wr.heap.size ≤ (g d).heap.size) := Lib.hid (hg d).size
        clear hG hg hgm q5 l0 l1 l2 l3 e0 e1 e2 e3
        generalize g d = w6 at *
        clear g
        have HSl : Hid (Sl w6 (Up wr.heap.size) Az cz ([x].map (Av.mk : LineP → Av LineP (PE O ob1 (Value.slice none 0 0).ownBlock)))) := Lib.hid (by
         obtain ⟨A', c', e, hs, -⟩ := H6.out
         cases e
         exact hs.av (fun i hi _ => ⟨Nat.lt_of_lt_of_le HOL.out hi, fun e => by have := (HQL.out i e.symm).2; have : wr.heap.size ≤ i := hi; omega, fun e => by have := (HOT.out i e.symm).2; have : wr.heap.size ≤ i := hi; omega⟩))
        have HLM : Hid (((qu.take s).map (Av.mk : LineP → Av LineP (PE O ob1 (Value.slice none 0 0).ownBlock))).length = s) := Lib.hid (by rw [List.length_map]; rw [List.length_take]; omega)
        refine wpAny_one (i := 7) (oi := _) rfl (by kernel_rfl) (by rfl) (fun K hK => ?_)
        refine wp_cat (α := Av LineP (PE O ob1 (Value.slice none 0 0).ownBlock)) _ (.tmp 43) (.tmp 48) 34 rfl (O + 1) 88 (.agg #[.int .i64 0, .int .i64 0, .slice none 0 0, .slice none 0 0]) 64 Tryz.underlying34 line_info rfl (show 0 < 4 by decide) (.slice An s cn) ((qu.take s).map Av.mk) rfl HGd.out.n.own Az cz 1 ([x].map Av.mk) rfl rfl (Up wr.heap.size) HSl.out (fun i (hi : wr.heap.size ≤ i) _ e => by have := (HLT.out i e.symm).2; omega) (by rw [HLM.out]; have := HQB.out; omega) (by rw [HLM.out]; have := HQB.out; omega) (by have := HOL.out; have := HSZ.out; omega) ?_
        intro v5 w5 hown5 hg5 hat5
        obtain ⟨A5, c5, e5, -⟩ := hown5.form
        rw [List.length_append, HLM.out] at e5
        simp only [List.length_map, List.length_cons, List.length_nil, Nat.zero_add] at e5
        subst e5
        obtain ⟨q5, f5, hpg5⟩ := HGd.out.note hown5 hg5 hat5
        have r5 := f5 5
        have HG5 := Lib.hid hpg5
        refine hK _ _ ?_
        clear hK K hown5 hg5 hat5 hpg5 f5 HSl H6 HGd
        try simp only [Act.put, List.setIfInBounds_toArray]
        refine wpAny_one (i := 8) (oi := _) rfl (by kernel_rfl) (by rfl) (fun K hK => ?_)
        go_simp
        refine hK _ _ ?_
        clear hK K
        try simp only [Act.put, List.setIfInBounds_toArray, List.set_cons_zero, List.set_cons_succ]
        refine wpAny_one (i := 9) (oi := _) rfl (by kernel_rfl) (by rfl) (fun K hK => ?_)
        go_simp
        refine hK _ _ ?_
        clear hK K
        try simp only [Act.put, List.setIfInBounds_toArray, List.set_cons_zero, List.set_cons_succ]
        clear q5 r5
        refine wpAny_done (by kernel_rfl) ?_ _
        unfold Exit.then
        have HTS : Hid (qu.take (s + 1) = qu.take s ++ [x]) := Lib.hid (by rw [List.take_add_one, HXQ.out]; rfl)
        have hcb := HC1.out
        have hcI : (1 : Int) ≤ (c1 : Int) := by omega
        have hlI : (1 : Int) ≤ ((qu.length - s : Nat) : Int) := by omega
        obtain ⟨ob3, hob3, hq3⟩ := HG5.out.q.cut (k := 1) (by rw [List.length_map, List.length_drop]; omega)
        rw [← List.map_drop, List.drop_drop] at hq3
        by_cases hc1 : c1 = 1
        ·rw [if_pos hc1, hc1] at hq3
         have HGC := Lib.hid (HG5.out.cut hq3 hob3)
         clear hq3
         go_wp2_with fail
         go_roundw
         case rel => exact ⟨s + 1, ob3, _, by omega, by omega, Lib.hid (by rw [HTS.out]; exact HGC.out)⟩
         case measure => (simp only [vlen]; omega)
        ·rw [if_neg hc1, show (some (⟨b, o, none⟩ : Addr)).map (·.add (1 * Rep.size (OldL w.heap.size))) = some ⟨b, o + 4, none⟩ from rfl] at hq3
         have HGC := Lib.hid (HG5.out.cut hq3 hob3)
         clear hq3
         go_wp2_with fail
         go_roundw
         case rel => exact ⟨s + 1, ob3, _, by omega, by omega, Lib.hid (by rw [HTS.out]; exact HGC.out)⟩
         case measure => (simp only [vlen]; omega)
       ·have hse : s = min qu.length (hn - 1) := by omega
        rw [show (decide (s < qu.length) && decide (s < hn - 1)) = false by rw [Bool.and_eq_false_iff, decide_eq_false_iff_not, decide_eq_false_iff_not]; omega]
        obtain ⟨bd, hbd⟩ : ∃ bd, body.drop at_ = bd := ⟨_, rfl⟩
        have hbdl : at_ + bd.length = body.length := by rw [← hbd, List.length_drop]; omega
        have HBD := Lib.hid hbd
        rw [hbd] at HF HT
        have HBS : Hid (SmallL bd) := Lib.hid (fun x hx => HSM.out x (by rw [← hbd] at hx; exact List.mem_of_mem_drop hx))
        have HBR : Hid (Refs bd notes) := Lib.hid (fun x hx => HREF.out x (by rw [← hbd] at hx; exact List.mem_of_mem_drop hx))
        have HFI0 : Hid (fillP notes hn (bd.drop 0) 0 s qu = fillP notes hn bd 0 (min qu.length (hn - 1)) qu) := Lib.hid (by rw [List.drop_zero, hse])
        have HF0 : Hid (allLines (bd.drop 0) notes + qu.length ≤ f) := Lib.hid (by rw [List.drop_zero]; exact HF.out.1)
        have hf1 : f ≤ 1048576 := HF.out.2
        have HEX : Hid (∀ i (hi : i < bd.length) (hi2 : at_ + i < body.length), body[at_ + i] = bd[i]) := Lib.hid (fun i hi hi2 => by simp only [← hbd, List.getElem_drop])
        clear hbd hse hgo
        obtain ⟨wq, rfl⟩ : ∃ wq : World, wq = wr := ⟨_, rfl⟩
        go_upto_region 12 with (fail)
        go_loopw [10, 11] (fun v10 v11 wx => ∃ (ln sh : Nat) (ob1 : Option Nat) (bv nv : Value) (qu1 : List LineP), v11 = .int .i64 ((at_ + ln : Nat) : Int) ∧ ln ≤ bd.length ∧ sh ≤ qu1.length ∧ Hid (PG w wx O ob1 v10 (qu1.drop sh) (.slice A9 pgs.length c9) pgs bv (bd.take ln) nv (qu1.take sh)) ∧ Hid (fillP notes hn (bd.drop ln) ln sh qu1 = fillP notes hn bd 0 (min qu.length (hn - 1)) qu) ∧ Hid (allLines (bd.drop ln) notes + qu1.length ≤ f) ∧ Hid (SmallL qu1)) (fun _ v11 _ => body.length - (intOf v11).toNat)
        case atStart => exact ⟨0, s, ob1, _, _, qu, by rw [Nat.add_zero], Nat.zero_le _, hs1, HG, HFI0, HF0, HS⟩
        case round =>
         clear HG HFI0 HF0 HS
         clear wq
         obtain ⟨ln, sh, ob1, bv, nv, qu1, rfl, hln1, hsh, HG, HFI, HF1, HS⟩ := hrel
         obtain ⟨A1, c1, hqv, -, -⟩ := HG.out.q.len
         rw [List.length_map, List.length_drop] at hqv
         subst hqv
         obtain ⟨An, cn, hnv, -, -⟩ := HG.out.n.len
         rw [List.length_take, Nat.min_eq_left hsh] at hnv
         subst hnv
         obtain ⟨Ab, cb, hbv, -, -⟩ := HG.out.b.len
         rw [List.length_take, Nat.min_eq_left hln1] at hbv
         subst hbv
         have hq1f : qu1.length ≤ 1048576 := by have := HF1.out; omega
         have hln2 : ln ≤ 1048576 := by omega
         have hsh2 : sh ≤ 1048576 := by omega
         have HQB1 : Hid (qu1.length ≤ 1048576) := Lib.hid hq1f
         go_upto_region 12 with (fail)
         go_cut [67] from 53 to 67 (fun v67 wx => v67 = .bool (fitsAt hn ln sh qu1.length bd) ∧ Hid (Below wr.heap.size wr wx))
         case first =>
          by_cases hl : ln < bd.length
          ·have hlI : ((at_ + ln : Nat) : Int) < (body.length : Int) := by omega
           have hlI2 : (at_ : Int) + (ln : Int) < (body.length : Int) := by omega
           obtain ⟨b, o, Ag, cg, Am, cm, rfl, -, hbl1, e0, e1, e2, e3, hgS, hnS⟩ := line_at (HA.out.to HG.out.bw) (k := at_ + ln) (by omega)
           have hsx := HBS.out _ (List.getElem_mem hl)
           rw [HEX.out ln hl (by omega)] at e0 e1 e2 e3 hgS hnS
           have HFA : Hid (fitsAt hn ln sh qu1.length bd = fitsR hn ln sh (qu1.length - sh) bd[ln]) := Lib.hid (by
            unfold fitsAt fitsR
            rw [List.getElem?_eq_getElem hl, show sh + (qu1.length - sh) = qu1.length by omega])
           obtain ⟨x, hx⟩ : ∃ x, bd[ln] = x := ⟨_, rfl⟩
           rw [hx] at e0 e1 e2 e3 hgS hnS HFA hsx
           have HSX := Lib.hid hsx
           have HB1 : Hid (b < wr.heap.size) := Lib.hid hbl1
           clear hx hgS hnS hbl1 hl hsx
           refine wp_region_rely [13] (fun i => if i = 13 then SP.val (.bool (fitsR hn ln sh (qu1.length - sh) x)) else SP.any) 15 (by kernel_rfl) (by kernel_rfl) ?_
           intro T _ g hg hgm
           have x0 : ∀ d, (g d).cell? ⟨O, 0, none⟩ = some (.int .i64 0) := fun d => (HG.out.o.to (hg d)).cell 0 rfl
           have x1 : ∀ d, (g d).cell? ⟨O, 1, none⟩ = some (.int .i64 0) := fun d => (HG.out.o.to (hg d)).cell 1 rfl
           have x2 : ∀ d, (g d).cell? ⟨O, 2, none⟩ = some (.int .i64 0) := fun d => (HG.out.o.to (hg d)).cell 2 rfl
           have x3 : ∀ d, (g d).cell? ⟨O, 3, none⟩ = some (.int .i64 0) := fun d => (HG.out.o.to (hg d)).cell 3 rfl
           have x4 : ∀ d, (g d).cell? ⟨O, 4, none⟩ = some (.slice Ab ln cb) := fun d => (HG.out.o.to (hg d)).cell 4 rfl
           have x5 : ∀ d, (g d).cell? ⟨O, 5, none⟩ = some (.slice An sh cn) := fun d => (HG.out.o.to (hg d)).cell 5 rfl
           have l0 : ∀ d, (g d).cell? ⟨b, o + (at_ + ln) * 4, none⟩ = some (.int .i64 x.fr) := fun d => ((hg d).cell (p := ⟨b, o + (at_ + ln) * 4, none⟩) HB1.out).trans e0
           have l1 : ∀ d, (g d).cell? ⟨b, o + (at_ + ln) * 4 + 1, none⟩ = some (.int .i64 x.un) := fun d => ((hg d).cell (p := ⟨b, o + (at_ + ln) * 4 + 1, none⟩) HB1.out).trans e1
           have l2 : ∀ d, (g d).cell? ⟨b, o + (at_ + ln) * 4 + 2, none⟩ = some (.slice Ag x.gaps.length cg) := fun d => ((hg d).cell (p := ⟨b, o + (at_ + ln) * 4 + 2, none⟩) HB1.out).trans e2
           have l3 : ∀ d, (g d).cell? ⟨b, o + (at_ + ln) * 4 + 3, none⟩ = some (.slice Am x.notes.length cm) := fun d => ((hg d).cell (p := ⟨b, o + (at_ + ln) * 4 + 3, none⟩) HB1.out).trans e3
           repeat (refine wpR_pure (by rfl) fun Kq hq => ?_; go_big_quiet_step (fail); refine wpQuiet_nil (hq _ ?_); clear hq Kq)
           refine wpR_busy (by rfl) (by rfl) (fun d hG K Q hK => ?_) (fun v d hG hp Kr hr => ?_)
           ·go_simp
            go_at_call 91
            refine (rfits_any Ab An Ag Am cb cn cg cm ln sh (qu1.length - sh) hn x (g d) hln2 hsh2 (by omega) h100 (by have := HSX.out.2; omega)).mono ?_
            rintro e W1 ⟨rfl, hb1⟩
            go_simp
            exact hK _ _ hb1 (rfl)
           have hp : v = .bool (fitsR hn ln sh (qu1.length - sh) x) := hp
           subst hp
           (try clear hp); clear hG
           simp only [Act.put, List.setIfInBounds_toArray, List.set_cons_zero, List.set_cons_succ]
           refine hr _ ?_
           clear hr Kr
           repeat (refine wpR_pure (by rfl) fun Kq hq => ?_; go_big_quiet_step (fail); refine wpQuiet_nil (hq _ ?_); clear hq Kq)
           refine wpR_end (by kernel_rfl) (fun d hG => ?_) _
           clear x0 x1 x2 x3 x4 x5 l0 l1 l2 l3
           have HBd := Lib.hid (hg d)
           clear hG hg hgm
           unfold Exit.then
           generalize g d = w6 at *
           clear g
           go_wp2_with fail
           go_meet
           exact ⟨by rw [HFA.out], HBd⟩
          ·have hlI : ¬ ((at_ + ln : Nat) : Int) < (body.length : Int) := by omega
           have hlI2 : ¬ (at_ : Int) + (ln : Int) < (body.length : Int) := by omega
           have HFA : Hid (fitsAt hn ln sh qu1.length bd = false) := Lib.hid (by
            unfold fitsAt
            rw [List.getElem?_eq_none (by omega)])
           clear hl
           refine wp_region_rely [13] (fun i => if i = 13 then SP.any else SP.any) 15 (by kernel_rfl) (by kernel_rfl) ?_
           intro T _ g hg hgm
           repeat (refine wpR_pure (by rfl) fun Kq hq => ?_; go_big_quiet_step (fail); refine wpQuiet_nil (hq _ ?_); clear hq Kq)
           refine wpR_pass (by rfl) (by rfl) ?_
           simp only [Act.put, List.setIfInBounds_toArray, List.set_cons_zero, List.set_cons_succ]
           repeat (refine wpR_pure (by rfl) fun Kq hq => ?_; go_big_quiet_step (fail); refine wpQuiet_nil (hq _ ?_); clear hq Kq)
           refine wpR_end (by kernel_rfl) (fun d hG => ?_) _
           skip
           have HBd := Lib.hid (hg d)
           clear hG hg hgm
           unfold Exit.then
           generalize g d = w6 at *
           clear g
           go_wp2_with fail
           go_meet
           exact ⟨by rw [HFA.out], HBd⟩
         case rest =>
          obtain ⟨rfl, HBw⟩ := hcut
          have HGw := Lib.hid (HG.out.to HBw.out)
          clear HG HBw
          clear wr
          obtain ⟨wr, rfl⟩ : ∃ wr : World, wr = wc := ⟨_, rfl⟩
          by_cases hfit : fitsAt hn ln sh qu1.length bd = true
          ·rw [hfit]
           obtain ⟨hl, hf⟩ := fits_get hfit
           have hlI : ((at_ + ln : Nat) : Int) < (body.length : Int) := by omega
           have hlI2 : (at_ : Int) + (ln : Int) < (body.length : Int) := by omega
           obtain ⟨b, o, Ag, cg, Am, cm, rfl, -, hbl1, e0, e1, e2, e3, hgS, hnS⟩ := line_at HA.out (k := at_ + ln) (by omega)
           have hsx := HBS.out _ (List.getElem_mem hl)
           have hrx := HBR.out _ (List.getElem_mem hl)
           have hgo := fillP_go (notes := notes) hl hf
           have hal : allLines (bd.drop ln) notes = 1 + (noteLines notes bd[ln]).length + allLines (bd.drop (ln + 1)) notes := by
            rw [List.drop_eq_getElem_cons hl]
            unfold allLines
            rw [List.map_cons, List.sum_cons]
           have htk : bd.take (ln + 1) = bd.take ln ++ [bd[ln]] := List.take_succ_eq_append_getElem hl
           have hex := HEX.out ln hl (by omega)
           rw [hex] at e0 e1 e2 e3 hgS hnS
           obtain ⟨x, hx⟩ : ∃ x, bd[ln] = x := ⟨_, rfl⟩
           rw [hx] at e0 e1 e2 e3 hgS hnS hsx hrx hgo hal htk
           have HSX := Lib.hid hsx
           have HRX := Lib.hid hrx
           have HGO := Lib.hid hgo
           have HAL := Lib.hid hal
           have HTK := Lib.hid htk
           have HBW : Hid (b < w.heap.size) := Lib.hid hbl1
           have HNSw := Lib.hid hnS
           have HGS : Hid (Sl wr (fun b => b < wr.heap.size) Ag cg x.gaps) := Lib.hid (hgS.to HGw.out.bw)
           have HNS : Hid (Sl wr (fun b => b < wr.heap.size) Am cm x.notes) := Lib.hid (hnS.to HGw.out.bw)
           have HW0 : Hid (∀ W, Below w.heap.size w W → W.cell? ⟨b, o + (at_ + ln) * 4, none⟩ = some (.int .i64 x.fr)) := Lib.hid (fun W hW => (hW.cell (p := ⟨b, o + (at_ + ln) * 4, none⟩) HBW.out).trans e0)
           have HW1 : Hid (∀ W, Below w.heap.size w W → W.cell? ⟨b, o + (at_ + ln) * 4 + 1, none⟩ = some (.int .i64 x.un)) := Lib.hid (fun W hW => (hW.cell (p := ⟨b, o + (at_ + ln) * 4 + 1, none⟩) HBW.out).trans e1)
           have HW2 : Hid (∀ W, Below w.heap.size w W → W.cell? ⟨b, o + (at_ + ln) * 4 + 2, none⟩ = some (.slice Ag x.gaps.length cg)) := Lib.hid (fun W hW => (hW.cell (p := ⟨b, o + (at_ + ln) * 4 + 2, none⟩) HBW.out).trans e2)
           have HW3 : Hid (∀ W, Below w.heap.size w W → W.cell? ⟨b, o + (at_ + ln) * 4 + 3, none⟩ = some (.slice Am x.notes.length cm)) := Lib.hid (fun W hW => (hW.cell (p := ⟨b, o + (at_ + ln) * 4 + 3, none⟩) HBW.out).trans e3)
           have HLN : Hid (ln < bd.length) := Lib.hid hl
           have HNL : Hid (qu1.length + (noteLines notes x).length ≤ 1048576) := Lib.hid (by have := HF1.out; have := HAL.out; omega)
           have HBX : Hid (Below w.heap.size w wr) := Lib.hid HGw.out.bw
           have hnx : x.notes.length ≤ 1048576 := by have := HSX.out.2; omega
           have hncm : x.notes.length ≤ cm := hnS.1
           have hlnB : ln ≤ 1048576 := hln2
           have HLB : Hid (ln ≤ 1048576) := Lib.hid hln2
           clear hf hgo hal htk hex hx hsx hrx hgS hnS e0 e1 e2 e3 hbl1 hl hfit
           go_upto_region 13 with (fail)
           refine wp_region_rely [6, 7] (fun i => if i = 6 then SP.copy wr.heap.size x else if i = 7 then SP.rp wr.heap.size [x] else SP.any) 8 (by kernel_rfl) (by kernel_rfl) ?_
           intro T _ g hg hgm
           have q5 : ∀ d, (g d).cell? ⟨O, 4, none⟩ = some (.slice Ab ln cb) := fun d => (HGw.out.o.to (hg d)).cell 4 rfl
           have l0 : ∀ d, (g d).cell? ⟨b, o + (at_ + ln) * 4, none⟩ = some (.int .i64 x.fr) := fun d => HW0.out _ (HBX.out.trans ((hg d).mono HBX.out.size))
           have l1 : ∀ d, (g d).cell? ⟨b, o + (at_ + ln) * 4 + 1, none⟩ = some (.int .i64 x.un) := fun d => HW1.out _ (HBX.out.trans ((hg d).mono HBX.out.size))
           have l2 : ∀ d, (g d).cell? ⟨b, o + (at_ + ln) * 4 + 2, none⟩ = some (.slice Ag x.gaps.length cg) := fun d => HW2.out _ (HBX.out.trans ((hg d).mono HBX.out.size))
           have l3 : ∀ d, (g d).cell? ⟨b, o + (at_ + ln) * 4 + 3, none⟩ = some (.slice Am x.notes.length cm) := fun d => HW3.out _ (HBX.out.trans ((hg d).mono HBX.out.size))
           repeat (refine wpR_pure (by rfl) fun Kq hq => ?_; go_big_quiet_step (fail); refine wpQuiet_nil (hq _ ?_); clear hq Kq)
           refine wpR_busy (by rfl) (by rfl) (fun d hG K Q hK => ?_) (fun v d hG hp Kr hr => ?_)
           ·go_simp
            go_at_call 90
            refine (rcopy_any Ag Am cg cm x (g d) (HGS.out.to (hg d)) (HNS.out.to (hg d)) (by have := HSX.out; omega) (by have := HSX.out; omega)).mono ?_
            rintro e W1 ⟨A3, c3, A4, c4, rfl, ho3, ho4, hb1⟩
            go_simp
            exact hK _ _ hb1 (⟨A3, c3, A4, c4, rfl, ho3.re (hg d).size, ho4.re (hg d).size⟩)
           obtain ⟨A3, c3, A4, c4, rfl, -⟩ := (show ∃ A c A' c', v = .agg #[.int .i64 x.fr, .int .i64 x.un, .slice A x.gaps.length c, .slice A' x.notes.length c'] ∧ _ from hp)
           (try clear hp); clear hG
           simp only [Act.put, List.setIfInBounds_toArray, List.set_cons_zero, List.set_cons_succ]
           refine hr _ ?_
           clear hr Kr
           repeat (refine wpR_pure (by rfl) fun Kq hq => ?_; go_big_quiet_step (fail); refine wpQuiet_nil (hq _ ?_); clear hq Kq)
           refine wpR_busy (by rfl) (by rfl) (fun d hG K Q hK => ?_) (fun v d hG hp Kr hr => ?_)
           ·obtain ⟨A3', c3', A4', c4', he, ho3, ho4⟩ := (show ∃ A c A' c', Value.agg #[.int .i64 x.fr, .int .i64 x.un, .slice A3 x.gaps.length c3, .slice A4 x.notes.length c4] = .agg #[.int .i64 x.fr, .int .i64 x.un, .slice A x.gaps.length c, .slice A' x.notes.length c'] ∧ Own (g d) wr.heap.size 3 (.slice A x.gaps.length c) x.gaps ∧ Own (g d) wr.heap.size 3 (.slice A' x.notes.length c') x.notes from hG 6 (by kernel_rfl))
            obtain ⟨rfl, rfl, rfl, rfl⟩ : A3 = A3' ∧ c3 = c3' ∧ A4 = A4' ∧ c4 = c4' := by
             have := congrArg (fun v : Value => match v with | .agg cs => cs.toList | _ => []) he
             simp at this
             exact ⟨this.1.1, this.1.2, this.2.1, this.2.2⟩
            have HR : Hid (Rep.R (g d) (Up wr.heap.size) [.int .i64 x.fr, .int .i64 x.un, .slice A3 x.gaps.length c3, .slice A4 x.notes.length c4] x) := Lib.hid ⟨_, _, rfl, rep_ints ho3 rfl (fun b hb => hb), rep_ints ho4 rfl (fun b hb => hb)⟩
            clear ho3 ho4 he
            go_simp
            exact hK _ _ ((Below.refl _ _).alloc (Nat.le_refl _) _) (rp_lit (hg d).size HR.out)
           obtain ⟨⟨Az, cz, rfl⟩, -⟩ := (show (∃ A c, v = .slice A [x].length c) ∧ _ from hp)
           (try clear hp); clear hG
           simp only [Act.put, List.setIfInBounds_toArray, List.set_cons_zero, List.set_cons_succ]
           refine hr _ ?_
           clear hr Kr
           refine wpR_tail 3 (by rfl) (by rfl) (fun d hG => ?_)
           have H6 : Hid (Rep.R (g d) (Up wr.heap.size) [.slice Az [x].length cz] [x]) := Lib.hid (show (∃ A c, Value.slice Az [x].length cz = Value.slice A [x].length c) ∧ Rep.R (g d) (Up wr.heap.size) [.slice Az [x].length cz] [x] from hG 7).2
           have HGd := Lib.hid (HGw.out.to (hg d))
           have HLT := Lib.hid HGw.out.b.lt
           have HQL := Lib.hid HGw.out.q.lt
           have HOT := Lib.hid HGw.out.n.lt
           have HOL : Hid (O < wr.heap.size) := Lib.hid HGw.out.o.lt
           have HSZ : Hid (wr.heap.size ≤ (g d).heap.size) := Lib.hid (hg d).size
           clear hG hg hgm q5 l0 l1 l2 l3
           generalize g d = w6 at *
           clear g
           have HSl : Hid (Sl w6 (Up wr.heap.size) Az cz ([x].map (Av.mk : LineP → Av LineP (PE O ob1 (Value.slice An sh cn).ownBlock)))) := Lib.hid (by
            obtain ⟨A', c', e, hs, -⟩ := H6.out
            cases e
            exact hs.av (fun i hi _ => ⟨Nat.lt_of_lt_of_le HOL.out hi, fun e => by have := (HQL.out i e.symm).2; have : wr.heap.size ≤ i := hi; omega, fun e => by have := (HOT.out i e.symm).2; have : wr.heap.size ≤ i := hi; omega⟩))
           have HLM : Hid (((bd.take ln).map (Av.mk : LineP → Av LineP (PE O ob1 (Value.slice An sh cn).ownBlock))).length = ln) := Lib.hid (by rw [List.length_map]; rw [List.length_take]; omega)
           refine wpAny_one (i := 8) (oi := _) rfl (by kernel_rfl) (by rfl) (fun K hK => ?_)
           refine wp_cat (α := Av LineP (PE O ob1 (Value.slice An sh cn).ownBlock)) _ (.tmp 69) (.tmp 75) 34 rfl (O + 1) 88 (.agg #[.int .i64 0, .int .i64 0, .slice none 0 0, .slice none 0 0]) 64 Tryz.underlying34 line_info rfl (show 0 < 4 by decide) (.slice Ab ln cb) ((bd.take ln).map Av.mk) rfl HGd.out.b.own Az cz 1 ([x].map Av.mk) rfl rfl (Up wr.heap.size) HSl.out (fun i (hi : wr.heap.size ≤ i) _ e => by have := (HLT.out i e.symm).2; omega) (by rw [HLM.out]; have := HLB.out; omega) (by rw [HLM.out]; have := HLB.out; omega) (by have := HOL.out; have := HSZ.out; omega) ?_
           intro v5 w5 hown5 hg5 hat5
           obtain ⟨A5, c5, e5, -⟩ := hown5.form
           rw [List.length_append, HLM.out] at e5
           simp only [List.length_map, List.length_cons, List.length_nil, Nat.zero_add] at e5
           subst e5
           obtain ⟨q5, f5, hpg5⟩ := HGd.out.body hown5 hg5 hat5
           have r5 := f5 4
           have HG5 := Lib.hid hpg5
           refine hK _ _ ?_
           clear hK K hown5 hg5 hat5 hpg5 f5 HSl H6 HGd
           try simp only [Act.put, List.setIfInBounds_toArray]
           refine wpAny_one (i := 9) (oi := _) rfl (by kernel_rfl) (by rfl) (fun K hK => ?_)
           go_simp
           refine hK _ _ ?_
           clear hK K
           try simp only [Act.put, List.setIfInBounds_toArray, List.set_cons_zero, List.set_cons_succ]
           refine wpAny_one (i := 10) (oi := _) rfl (by kernel_rfl) (by rfl) (fun K hK => ?_)
           go_simp
           refine hK _ _ ?_
           clear hK K
           try simp only [Act.put, List.setIfInBounds_toArray, List.set_cons_zero, List.set_cons_succ]
           clear q5 r5
           refine wpAny_done (by kernel_rfl) ?_ _
           unfold Exit.then
           rw [← HTK.out] at HG5
           generalize w5.setCell _ _ = wB at *
           clear w6 HGS HNS HGw HSZ HLT HQL HOT HOL HBX
           clear wr
           go_upto_region 15 with (fail)
           go_loopw [10, 13] (fun v10 v13 wx => ∃ (j : Nat) (ob2 : Option Nat), v13 = .int .i64 (j : Int) ∧ j ≤ x.notes.length ∧ Hid (PG w wx O ob2 v10 (qu1.drop sh ++ noteTo notes x j) (.slice A9 pgs.length c9) pgs (.slice A5 (ln + 1) c5) (bd.take (ln + 1)) (.slice An sh cn) (qu1.take sh))) (fun _ v13 _ => x.notes.length - (intOf v13).toNat)
           case atStart => exact ⟨0, ob1, rfl, Nat.zero_le _, Lib.hid (by rw [show noteTo notes x 0 = [] from rfl, List.append_nil]; exact HG5.out)⟩
           case round =>
            clear HG5 wB
            obtain ⟨j, ob2, rfl, hj, HG6⟩ := hrel
            have m3 := HW3.out _ HG6.out.bw
            by_cases hjl : j < x.notes.length
            ·have hjI : (j : Int) < (x.notes.length : Int) := by omega
             obtain ⟨b1, o1, hA1, hb1, -, -, ce⟩ := int_at HNSw.out hjl
             subst hA1
             have hq := HRX.out _ (List.getElem_mem hjl)
             obtain ⟨kn, hkn⟩ : ∃ kn : Nat, x.notes[j] = (kn : Int) := ⟨(x.notes[j]).toNat, by omega⟩
             have hns := noteTo_step hjl (notes := notes) (by omega)
             rw [hkn] at ce hq
             have hkl : kn < notes.length := by omega
             obtain ⟨b2, o2, Ap, cp, rfl, hb2, -, ce2, hyS⟩ := lrows_at HBn.out hkl
             have hnq : noteTo notes x (j + 1) = noteTo notes x j ++ notes[kn] := by
              rw [hns]; congr 1; simp only [hkn, Int.toNat_natCast]
             obtain ⟨y, hy⟩ : ∃ y, notes[kn] = y := ⟨_, rfl⟩
             rw [hy] at ce2 hyS hnq
             have HNQ := Lib.hid hnq
             have HYL : Hid ((qu1.drop sh ++ noteTo notes x j).length + y.length ≤ 1048576) := Lib.hid (by
              have h1 := noteTo_le notes x (j + 1)
              have h2 := HNL.out
              rw [HNQ.out, List.length_append] at h1
              rw [List.length_append, List.length_drop]
              omega)
             have HY : Hid (Sl wr (fun b => b < w.heap.size) Ap cp y) := Lib.hid (hyS.old (Kept.below HG6.out.bw (fun _ h => h)) HG6.out.bw.size)
             have c1 := (HG6.out.bw.cell (p := ⟨b1, o1 + j, none⟩) hb1).trans ce
             have c2 := (HG6.out.bw.cell (p := ⟨b2, o2 + kn, none⟩) hb2).trans ce2
             have hknI : (kn : Int) < (notes.length : Int) := by omega
             have HWS : Hid (w.heap.size ≤ wr.heap.size) := Lib.hid HG6.out.bw.size
             have HQ6 := Lib.hid HG6.out.q
             clear hns hnq hkn hq hy hyS ce ce2 hb1 hb2
             go_wp2_with (first
              |(at_builtin; refine wpList_que (α := OldL w.heap.size) rfl (.tmp 88) (.tmp 99) 34 rfl w.heap.size 88 (.agg #[.int .i64 0, .int .i64 0, .slice none 0 0, .slice none 0 0]) 64 Tryz.underlying34 line_info rfl (show 0 < 4 by decide) ob2 _ ((qu1.drop sh ++ noteTo notes x j).map Av.mk) rfl HQ6.out Ap cp y.length (y.map Av.mk) rfl (by rw [List.length_map]) (fun b => b < w.heap.size) (HY.out.av (fun i h _ => h)) (fun i hi _ e => by have := (HQ6.out.lt i e.symm).1; omega) (fun i hi => Nat.lt_of_lt_of_le hi HWS.out) (by rw [List.length_map]; have := HYL.out; omega) (by rw [List.length_map]; have := HYL.out; omega) HWS.out ?_; intro v' w' ob' hq' hg' hob'; have HG7 := Lib.hid (HG6.out.que (queue' := qu1.drop sh ++ noteTo notes x (j + 1)) hg' (by rw [HNQ.out, ← List.append_assoc, List.map_append]; exact hq') hob'); clear hq' hg' hob')
              | fail)
             go_roundw
             case rel => exact ⟨j + 1, ob', by go_num, by omega, HG7⟩
             case measure => (first | (simp [intOf]; done) | (simp [intOf]; omega))
            ·obtain rfl : j = x.notes.length := by omega
             have hjI : ¬ (x.notes.length : Int) < (x.notes.length : Int) := by omega
             obtain ⟨qu2, hq2⟩ : ∃ qu2, qu1 ++ noteLines notes x = qu2 := ⟨_, rfl⟩
             have HG7 : Hid (PG w wr O ob2 u10 (qu2.drop sh) (.slice A9 pgs.length c9) pgs (.slice A5 (ln + 1) c5) (bd.take (ln + 1)) (.slice An sh cn) (qu2.take sh)) := Lib.hid (by
              rw [← hq2, List.drop_append_of_le_length hsh, List.take_append_of_le_length hsh, ← noteTo_all]
              exact HG6.out)
             have HQ2 := Lib.hid hq2
             have hqq : qu2.length ≤ 1048576 := by rw [← hq2, List.length_append]; exact HNL.out
             have HQB2 : Hid (qu2.length ≤ 1048576) := Lib.hid hqq
             have hsh3 : sh ≤ qu2.length := by rw [← hq2, List.length_append]; omega
             have HS3 : Hid (SmallL qu2) := Lib.hid (fun y hy => by
              rw [← hq2, List.mem_append] at hy
              exact hy.elim (HS.out y) (notes_small HSN.out x y))
             have HF3 : Hid (allLines (bd.drop (ln + 1)) notes + qu2.length ≤ f) := Lib.hid (by have h1 := HF1.out; have h2 := HAL.out; rw [← hq2, List.length_append]; omega)
             have HFI2 : Hid (fillP notes hn (bd.drop (ln + 1)) (ln + 1) (shownP hn ln sh qu2.length) qu2 = fillP notes hn bd 0 (min qu.length (hn - 1)) qu) := Lib.hid (by rw [← HFI.out, HGO.out, hq2])
             clear hq2 HG6
             obtain ⟨wq, rfl⟩ : ∃ wq : World, wq = wr := ⟨_, rfl⟩
             go_upto_region 18 with (fail)
             go_loopw [10] (fun v10 wx => ∃ (s : Nat) (ob3 : Option Nat) (nv : Value), sh ≤ s ∧ s ≤ qu2.length ∧ (s = sh ∨ ln + 1 + s + 1 ≤ hn) ∧ Hid (PG w wx O ob3 v10 (qu2.drop s) (.slice A9 pgs.length c9) pgs (.slice A5 (ln + 1) c5) (bd.take (ln + 1)) nv (qu2.take s))) (fun v10 _ => vlen v10)
             case atStart => exact ⟨sh, ob2, _, Nat.le_refl _, hsh3, .inl rfl, HG7⟩
             case round =>
              clear HG7 m3
              clear wq
              obtain ⟨s, ob3, nv, hs3, hs4, hs5, HG⟩ := hrel
              obtain ⟨A1, c1, hqv, -, -⟩ := HG.out.q.len
              rw [List.length_map, List.length_drop] at hqv
              subst hqv
              obtain ⟨An, cn, hnv, -, -⟩ := HG.out.n.len
              rw [List.length_take, Nat.min_eq_left hs4] at hnv
              subst hnv
              have hs6 : s ≤ 1048576 := by have := HQB2.out; omega
              have hln5 : ln + 1 ≤ 1048576 := by have := HLN.out; omega
              go_upto_region 18 with (fail)
              go_cut [115] from 101 to 115 (fun v115 wx => v115 = .bool (decide (s < qu2.length) && decide (ln + 1 + s + 2 ≤ hn)) ∧ Hid (Below wr.heap.size wr wx))
              case first =>
               by_cases h1 : s < qu2.length
               ·have h2 : (0 : Int) < ((qu2.length - s : Nat) : Int) := by omega
                have H1 := Lib.hid h1
                have hu : usedN (ln + 1) s ≤ 2097153 := by unfold usedN; omega
                have h1b : 0 < qu2.length - s := by omega
                refine wp_region_rely [5] (fun i => if i = 5 then SP.val (.int .i64 (usedN (ln + 1) s : Nat)) else SP.any) 15 (by kernel_rfl) (by kernel_rfl) ?_
                intro T _ g hg hgm
                have x0 : ∀ d, (g d).cell? ⟨O, 0, none⟩ = some (.int .i64 0) := fun d => (HG.out.o.to (hg d)).cell 0 rfl
                have x1 : ∀ d, (g d).cell? ⟨O, 1, none⟩ = some (.int .i64 0) := fun d => (HG.out.o.to (hg d)).cell 1 rfl
                have x2 : ∀ d, (g d).cell? ⟨O, 2, none⟩ = some (.int .i64 0) := fun d => (HG.out.o.to (hg d)).cell 2 rfl
                have x3 : ∀ d, (g d).cell? ⟨O, 3, none⟩ = some (.int .i64 0) := fun d => (HG.out.o.to (hg d)).cell 3 rfl
                have x4 : ∀ d, (g d).cell? ⟨O, 4, none⟩ = some (.slice A5 (ln + 1) c5) := fun d => (HG.out.o.to (hg d)).cell 4 rfl
                have x5 : ∀ d, (g d).cell? ⟨O, 5, none⟩ = some (.slice An s cn) := fun d => (HG.out.o.to (hg d)).cell 5 rfl
                repeat (refine wpR_pure (by rfl) fun Kq hq => ?_; go_big_quiet_step (fail); refine wpQuiet_nil (hq _ ?_); clear hq Kq)
                refine wpR_busy (by rfl) (by rfl) (fun d hG K Q hK => ?_) (fun v d hG hp Kr hr => ?_)
                ·go_simp
                 go_at_call 92
                 refine (rused_any A5 An c5 cn (ln + 1) s (g d) hln5 hs6).mono ?_
                 rintro e W1 ⟨rfl, hb1⟩
                 go_simp
                 exact hK _ _ hb1 (rfl)
                have hp : v = .int .i64 (usedN (ln + 1) s : Nat) := hp
                subst hp
                (try clear hp); clear hG
                simp only [Act.put, List.setIfInBounds_toArray, List.set_cons_zero, List.set_cons_succ]
                refine hr _ ?_
                clear hr Kr
                repeat (refine wpR_pure (by rfl) fun Kq hq => ?_; go_big_quiet_step (fail); refine wpQuiet_nil (hq _ ?_); clear hq Kq)
                refine wpR_end (by kernel_rfl) (fun d hG => ?_) _
                clear x0 x1 x2 x3 x4 x5
                have HBd := Lib.hid (hg d)
                clear hG hg hgm
                unfold Exit.then
                generalize g d = w6 at *
                clear g
                go_wp2_with fail
                go_meet
                exact ⟨congrArg Value.bool (show decide ((usedN (ln + 1) s : Int) + 2 - min (s : Int) 1 ≤ (hn : Int)) = (decide (s < qu2.length) && decide (ln + 1 + s + 2 ≤ hn)) by
                 rw [decide_eq_true H1.out, Bool.true_and, Bool.eq_iff_iff, decide_eq_true_iff, decide_eq_true_iff]
                 unfold usedN
                 omega), HBd⟩
               ·have h2 : ¬ (0 : Int) < ((qu2.length - s : Nat) : Int) := by omega
                have H1 := Lib.hid h1
                have h1b : ¬ 0 < qu2.length - s := by omega
                refine wp_region_rely [5] (fun i => if i = 5 then SP.any else SP.any) 15 (by kernel_rfl) (by kernel_rfl) ?_
                intro T _ g hg hgm
                have x5 : ∀ d, (g d).cell? ⟨O, 5, none⟩ = some (.slice An s cn) := fun d => (HG.out.o.to (hg d)).cell 5 rfl
                repeat (refine wpR_pure (by rfl) fun Kq hq => ?_; go_big_quiet_step (fail); refine wpQuiet_nil (hq _ ?_); clear hq Kq)
                refine wpR_pass (by rfl) (by rfl) ?_
                simp only [Act.put, List.setIfInBounds_toArray, List.set_cons_zero, List.set_cons_succ]
                repeat (refine wpR_pure (by rfl) fun Kq hq => ?_; go_big_quiet_step (fail); refine wpQuiet_nil (hq _ ?_); clear hq Kq)
                refine wpR_end (by kernel_rfl) (fun d hG => ?_) _
                clear x5
                have HBd := Lib.hid (hg d)
                clear hG hg hgm
                unfold Exit.then
                generalize g d = w6 at *
                clear g
                go_wp2_with fail
                go_meet
                exact ⟨by rw [decide_eq_false H1.out]; rfl, HBd⟩
              case rest =>
               obtain ⟨rfl, HBw⟩ := hcut
               have HGw := Lib.hid (HG.out.to HBw.out)
               clear HG HBw
               clear wr
               obtain ⟨wr, rfl⟩ : ∃ wr : World, wr = wc := ⟨_, rfl⟩
               by_cases hgo : s < qu2.length ∧ ln + 1 + s + 2 ≤ hn
               ·obtain ⟨hgo1, hgo2⟩ := hgo
                rw [decide_eq_true hgo1, decide_eq_true hgo2]
                obtain ⟨A1', c1', e1', hsq1, -⟩ := HGw.out.q.len
                obtain ⟨rfl, rfl⟩ : A1 = A1' ∧ c1 = c1' := by injection e1' with a b c; exact ⟨a, c⟩
                obtain ⟨b, o, Ag, cg, Am, cm, hA1, -, hbl1, e0, e1, e2, e3, hgS, hnS⟩ := line_at hsq1.unav (k := 0) (by rw [List.length_drop]; omega)
                subst hA1
                simp only [Nat.zero_mul, Nat.add_zero] at e0 e1 e2 e3
                obtain ⟨z, hx⟩ : ∃ z, (qu2.drop s)[0]'(by rw [List.length_drop]; omega) = z := ⟨_, rfl⟩
                rw [hx] at e0 e1 e2 e3 hgS hnS
                have HXQ : Hid (qu2[s]? = some z) := Lib.hid (by rw [List.getElem_drop] at hx; rw [List.getElem?_eq_getElem hgo1]; simpa using congrArg some hx)
                have HSZ2 : Hid (z.gaps.length ≤ 100000 ∧ z.notes.length ≤ 100000) := Lib.hid (HS3.out z (List.mem_of_getElem? HXQ.out))
                have HGS := Lib.hid hgS
                have HNS := Lib.hid hnS
                have HB1 : Hid (b < wr.heap.size) := Lib.hid hbl1
                have HC1 : Hid (qu2.length - s ≤ c1) := Lib.hid (by have := hsq1.1; rwa [List.length_map, List.length_drop] at this)
                have hi0 : (0 : Int) < ((qu2.length - s : Nat) : Int) := by omega
                have HTS : Hid (qu2.take (s + 1) = qu2.take s ++ [z]) := Lib.hid (by rw [List.take_add_one, HXQ.out]; rfl)
                clear hgS hnS hbl1 hx hsq1 e1'
                go_upto_region 19 with (fail)
                refine wp_region_rely [5, 6] (fun i => if i = 5 then SP.copy wr.heap.size z else if i = 6 then SP.rp wr.heap.size [z] else SP.any) 7 (by kernel_rfl) (by kernel_rfl) ?_
                intro T _ g hg hgm
                have q5 : ∀ d, (g d).cell? ⟨O, 5, none⟩ = some (.slice An s cn) := fun d => (HGw.out.o.to (hg d)).cell 5 rfl
                have l0 : ∀ d, (g d).cell? ⟨b, o, none⟩ = some (.int .i64 z.fr) := fun d => ((hg d).cell (p := ⟨b, o, none⟩) HB1.out).trans e0
                have l1 : ∀ d, (g d).cell? ⟨b, o + 1, none⟩ = some (.int .i64 z.un) := fun d => ((hg d).cell (p := ⟨b, o + 1, none⟩) HB1.out).trans e1
                have l2 : ∀ d, (g d).cell? ⟨b, o + 2, none⟩ = some (.slice Ag z.gaps.length cg) := fun d => ((hg d).cell (p := ⟨b, o + 2, none⟩) HB1.out).trans e2
                have l3 : ∀ d, (g d).cell? ⟨b, o + 3, none⟩ = some (.slice Am z.notes.length cm) := fun d => ((hg d).cell (p := ⟨b, o + 3, none⟩) HB1.out).trans e3
                repeat (refine wpR_pure (by rfl) fun Kq hq => ?_; go_big_quiet_step (fail); refine wpQuiet_nil (hq _ ?_); clear hq Kq)
                refine wpR_busy (by rfl) (by rfl) (fun d hG K Q hK => ?_) (fun v d hG hp Kr hr => ?_)
                ·go_simp
                 go_at_call 90
                 refine (rcopy_any Ag Am cg cm z (g d) (HGS.out.to (hg d)) (HNS.out.to (hg d)) (by have := HSZ2.out; omega) (by have := HSZ2.out; omega)).mono ?_
                 rintro e W1 ⟨A3, c3, A4, c4, rfl, ho3, ho4, hb1⟩
                 go_simp
                 exact hK _ _ hb1 (⟨A3, c3, A4, c4, rfl, ho3.re (hg d).size, ho4.re (hg d).size⟩)
                obtain ⟨A3, c3, A4, c4, rfl, -⟩ := (show ∃ A c A' c', v = .agg #[.int .i64 z.fr, .int .i64 z.un, .slice A z.gaps.length c, .slice A' z.notes.length c'] ∧ _ from hp)
                (try clear hp); clear hG
                simp only [Act.put, List.setIfInBounds_toArray, List.set_cons_zero, List.set_cons_succ]
                refine hr _ ?_
                clear hr Kr
                repeat (refine wpR_pure (by rfl) fun Kq hq => ?_; go_big_quiet_step (fail); refine wpQuiet_nil (hq _ ?_); clear hq Kq)
                refine wpR_busy (by rfl) (by rfl) (fun d hG K Q hK => ?_) (fun v d hG hp Kr hr => ?_)
                ·obtain ⟨A3', c3', A4', c4', he, ho3, ho4⟩ := (show ∃ A c A' c', Value.agg #[.int .i64 z.fr, .int .i64 z.un, .slice A3 z.gaps.length c3, .slice A4 z.notes.length c4] = .agg #[.int .i64 z.fr, .int .i64 z.un, .slice A z.gaps.length c, .slice A' z.notes.length c'] ∧ Own (g d) wr.heap.size 3 (.slice A z.gaps.length c) z.gaps ∧ Own (g d) wr.heap.size 3 (.slice A' z.notes.length c') z.notes from hG 5 (by kernel_rfl))
                 obtain ⟨rfl, rfl, rfl, rfl⟩ : A3 = A3' ∧ c3 = c3' ∧ A4 = A4' ∧ c4 = c4' := by
                  have := congrArg (fun v : Value => match v with | .agg cs => cs.toList | _ => []) he
                  simp at this
                  exact ⟨this.1.1, this.1.2, this.2.1, this.2.2⟩
                 have HR : Hid (Rep.R (g d) (Up wr.heap.size) [.int .i64 z.fr, .int .i64 z.un, .slice A3 z.gaps.length c3, .slice A4 z.notes.length c4] z) := Lib.hid ⟨_, _, rfl, rep_ints ho3 rfl (fun b hb => hb), rep_ints ho4 rfl (fun b hb => hb)⟩
                 clear ho3 ho4 he
                 go_simp
                 exact hK _ _ ((Below.refl _ _).alloc (Nat.le_refl _) _) (rp_lit (hg d).size HR.out)
                obtain ⟨⟨Az, cz, rfl⟩, -⟩ := (show (∃ A c, v = .slice A [z].length c) ∧ _ from hp)
                (try clear hp); clear hG
                simp only [Act.put, List.setIfInBounds_toArray, List.set_cons_zero, List.set_cons_succ]
                refine hr _ ?_
                clear hr Kr
                refine wpR_tail 3 (by rfl) (by rfl) (fun d hG => ?_)
                have H6 : Hid (Rep.R (g d) (Up wr.heap.size) [.slice Az [z].length cz] [z]) := Lib.hid (show (∃ A c, Value.slice Az [z].length cz = Value.slice A [z].length c) ∧ Rep.R (g d) (Up wr.heap.size) [.slice Az [z].length cz] [z] from hG 6).2
                have HGd := Lib.hid (HGw.out.to (hg d))
                have HLT := Lib.hid HGw.out.n.lt
                have HQL := Lib.hid HGw.out.q.lt
                have HOT := Lib.hid HGw.out.b.lt
                have HOL : Hid (O < wr.heap.size) := Lib.hid HGw.out.o.lt
                have HSZ : Hid (wr.heap.size ≤ (g d).heap.size) := Lib.hid (hg d).size
                clear hG hg hgm q5 l0 l1 l2 l3 e0 e1 e2 e3
                generalize g d = w6 at *
                clear g
                have HSl : Hid (Sl w6 (Up wr.heap.size) Az cz ([z].map (Av.mk : LineP → Av LineP (PE O ob3 (Value.slice A5 (ln + 1) c5).ownBlock)))) := Lib.hid (by
                 obtain ⟨A', c', e, hs, -⟩ := H6.out
                 cases e
                 exact hs.av (fun i hi _ => ⟨Nat.lt_of_lt_of_le HOL.out hi, fun e => by have := (HQL.out i e.symm).2; have : wr.heap.size ≤ i := hi; omega, fun e => by have := (HOT.out i e.symm).2; have : wr.heap.size ≤ i := hi; omega⟩))
                have HLM : Hid (((qu2.take s).map (Av.mk : LineP → Av LineP (PE O ob3 (Value.slice A5 (ln + 1) c5).ownBlock))).length = s) := Lib.hid (by rw [List.length_map]; rw [List.length_take]; omega)
                refine wpAny_one (i := 7) (oi := _) rfl (by kernel_rfl) (by rfl) (fun K hK => ?_)
                refine wp_cat (α := Av LineP (PE O ob3 (Value.slice A5 (ln + 1) c5).ownBlock)) _ (.tmp 117) (.tmp 122) 34 rfl (O + 1) 88 (.agg #[.int .i64 0, .int .i64 0, .slice none 0 0, .slice none 0 0]) 64 Tryz.underlying34 line_info rfl (show 0 < 4 by decide) (.slice An s cn) ((qu2.take s).map Av.mk) rfl HGd.out.n.own Az cz 1 ([z].map Av.mk) rfl rfl (Up wr.heap.size) HSl.out (fun i (hi : wr.heap.size ≤ i) _ e => by have := (HLT.out i e.symm).2; omega) (by rw [HLM.out]; have := HQB2.out; omega) (by rw [HLM.out]; have := HQB2.out; omega) (by have := HOL.out; have := HSZ.out; omega) ?_
                intro v5 w5 hown5 hg5 hat5
                obtain ⟨A6, c6, e5, -⟩ := hown5.form
                rw [List.length_append, HLM.out] at e5
                simp only [List.length_map, List.length_cons, List.length_nil, Nat.zero_add] at e5
                subst e5
                obtain ⟨q5, f5, hpg5⟩ := HGd.out.note hown5 hg5 hat5
                have r5 := f5 5
                have HG8 := Lib.hid hpg5
                refine hK _ _ ?_
                clear hK K hown5 hg5 hat5 hpg5 f5 HSl H6 HGd
                try simp only [Act.put, List.setIfInBounds_toArray]
                refine wpAny_one (i := 8) (oi := _) rfl (by kernel_rfl) (by rfl) (fun K hK => ?_)
                go_simp
                refine hK _ _ ?_
                clear hK K
                try simp only [Act.put, List.setIfInBounds_toArray, List.set_cons_zero, List.set_cons_succ]
                refine wpAny_one (i := 9) (oi := _) rfl (by kernel_rfl) (by rfl) (fun K hK => ?_)
                go_simp
                refine hK _ _ ?_
                clear hK K
                try simp only [Act.put, List.setIfInBounds_toArray, List.set_cons_zero, List.set_cons_succ]
                clear q5 r5
                refine wpAny_done (by kernel_rfl) ?_ _
                unfold Exit.then
                have hcb := HC1.out
                have hcI : (1 : Int) ≤ (c1 : Int) := by omega
                have hlI : (1 : Int) ≤ ((qu2.length - s : Nat) : Int) := by omega
                obtain ⟨ob4, hob3, hq3⟩ := HG8.out.q.cut (k := 1) (by rw [List.length_map, List.length_drop]; omega)
                rw [← List.map_drop, List.drop_drop] at hq3
                by_cases hc1 : c1 = 1
                ·rw [if_pos hc1, hc1] at hq3
                 have HGC := Lib.hid (HG8.out.cut hq3 hob3)
                 clear hq3
                 go_wp2_with fail
                 go_roundw
                 case rel => exact ⟨s + 1, ob4, _, by omega, by omega, .inr (by omega), Lib.hid (by rw [HTS.out]; exact HGC.out)⟩
                 case measure => (simp only [vlen]; omega)
                ·rw [if_neg hc1, show (some (⟨b, o, none⟩ : Addr)).map (·.add (1 * Rep.size (OldL w.heap.size))) = some ⟨b, o + 4, none⟩ from rfl] at hq3
                 have HGC := Lib.hid (HG8.out.cut hq3 hob3)
                 clear hq3
                 go_wp2_with fail
                 go_roundw
                 case rel => exact ⟨s + 1, ob4, _, by omega, by omega, .inr (by omega), Lib.hid (by rw [HTS.out]; exact HGC.out)⟩
                 case measure => (simp only [vlen]; omega)
               ·have hse : s = shownP hn ln sh qu2.length := moved hs3 hs4 hs5 (by omega)
                rw [show (decide (s < qu2.length) && decide (ln + 1 + s + 2 ≤ hn)) = false by rw [Bool.and_eq_false_iff, decide_eq_false_iff_not, decide_eq_false_iff_not]; omega]
                have HFI3 : Hid (fillP notes hn (bd.drop (ln + 1)) (ln + 1) s qu2 = fillP notes hn bd 0 (min qu.length (hn - 1)) qu) := Lib.hid (by rw [hse]; exact HFI2.out)
                have hln6 : ln + 1 ≤ bd.length := HLN.out
                clear hse hgo HFI2
                go_wp2_with fail
                go_roundw
                case rel => exact ⟨ln + 1, s, ob3, _, _, qu2, by go_num, hln6, hs4, HGw, HFI3, HF3, HS3⟩
                case measure => (first | (simp [intOf]; done) | (simp [intOf]; omega))
          ·rw [Bool.not_eq_true] at hfit
           rw [hfit]
           have hd := HFI.out.symm.trans (fillP_stop (notes := notes) hfit)
           have hnn : ¬ (bd.length = 0 ∧ qu.length = 0) := by have := HFIN.out; omega
           obtain ⟨hP1, hP2⟩ := pages_step h4 HF.out.1 hnn hd
           have hdd : body.drop (at_ + ln) = bd.drop ln := by rw [← List.drop_drop, HBD.out]
           obtain ⟨p, hp⟩ : ∃ p : PageP, ⟨0, 0, 0, 0, bd.take ln, qu1.take sh⟩ = p := ⟨_, rfl⟩
           have HT2 : Hid ((pgs ++ [p]) ++ setPages notes hn (f - 1) (body.drop (at_ + ln)) (qu1.drop sh) = setPages notes hn (allLines body notes) body []) := Lib.hid (by
            rw [hdd, ← HT.out, hP2, hp, List.append_assoc]; rfl)
           have HF2 : Hid (allLines (body.drop (at_ + ln)) notes + (qu1.drop sh).length ≤ f - 1 ∧ f - 1 ≤ 1048576) := Lib.hid (by rw [hdd]; exact ⟨hP1, by omega⟩)
           have HS2 : Hid (SmallL (qu1.drop sh)) := Lib.hid (fun x hx => HS.out x (List.mem_of_mem_drop hx))
           have HPN : Hid (pgs.length + 1 ≤ N) := Lib.hid (by
            have h1 := congrArg List.length HT2.out
            rw [List.length_append, List.length_append, HNE.out] at h1
            simp at h1
            omega)
           have hNB : N ≤ 1048576 := by rw [← HNE.out]; exact Nat.le_trans (setPages_le _ _ _ _ _) HALL.out
           have hpb : pgs.length ≤ 1048576 := by have := HPN.out; omega
           have HPB := Lib.hid hpb
           have hbt : (bd.take ln).length ≤ 1048576 := by rw [List.length_take]; omega
           have hqt : (qu1.take sh).length ≤ 1048576 := by rw [List.length_take]; omega
           have hba : Below wr.heap.size wr (wr.alloc (.cells #[.int .i64 0, .int .i64 0, .int .i64 0, .int .i64 0, .slice Ab ln cb, .slice An sh cn] 36)) := (Below.refl _ _).alloc (Nat.le_refl _) _
           have HGa := Lib.hid (HGw.out.to hba)
           have hrp := HGa.out.rep (by omega) (by omega)
           rw [hp] at hrp
           have HPO : Hid (∀ q, (Value.slice A9 pgs.length c9).ownBlock = some q → q < O) := Lib.hid (fun q hq => (HGw.out.pg.at_ q hq).1.2)
           have HOG : Hid (w.heap.size ≤ O) := Lib.hid HGw.out.og
           have HRE : Hid (Rep.R (wr.alloc (.cells #[.int .i64 0, .int .i64 0, .int .i64 0, .int .i64 0, .slice Ab ln cb, .slice An sh cn] 36)) (fun b => some b ≠ (Value.slice A9 pgs.length c9).ownBlock) [.int .i64 0, .int .i64 0, .int .i64 0, .int .i64 0, .slice Ab ln cb, .slice An sh cn] (⟨p⟩ : Av PageP (fun i => w.heap.size ≤ i ∧ some i ≠ ob1))) :=
            Lib.hid (Rep.mono (α := PageP) hrp (fun i hi _ => ⟨fun e => by have := HPO.out i e.symm; have := hi.1; omega, by have := HOG.out; have := hi.1; omega, hi.2⟩))
           have HOP : Hid (Own (wr.alloc (.cells #[.int .i64 0, .int .i64 0, .int .i64 0, .int .i64 0, .slice Ab ln cb, .slice An sh cn] 36)) w.heap.size 36 (.slice A9 (pgs.map (Av.mk : PageP → Av PageP (fun i => w.heap.size ≤ i ∧ some i ≠ ob1))).length c9) (pgs.map (Av.mk : PageP → Av PageP (fun i => w.heap.size ≤ i ∧ some i ≠ ob1)))) :=
            Lib.hid (by rw [List.length_map]; exact (HGa.out.pg.mono (Q := fun i => w.heap.size ≤ i ∧ some i ≠ ob1) (fun i hi _ => ⟨hi.1.1, hi.2⟩)).own)
           have hml : (pgs.map (Av.mk : PageP → Av PageP (fun i => w.heap.size ≤ i ∧ some i ≠ ob1))).length = pgs.length := List.length_map _
           rw [hml] at HOP
           have HML := Lib.hid hml
           have x0 := HGw.out.o.cell 0 rfl
           have x1 := HGw.out.o.cell 1 rfl
           have x2 := HGw.out.o.cell 2 rfl
           have x3 := HGw.out.o.cell 3 rfl
           have x4 := HGw.out.o.cell 4 rfl
           have x5 := HGw.out.o.cell 5 rfl
           have HWZ : Hid (w.heap.size ≤ wr.heap.size) := Lib.hid HGw.out.bw.size
           have hatl : at_ + ln ≤ body.length := by omega
           clear hd hnn hP1 hP2 hdd hp hrp hba hml hbt hqt HGw hfit
           go_wp2_with (first
            |(at_builtin; refine wpList_push (α := Av PageP (fun i => w.heap.size ≤ i ∧ some i ≠ ob1)) _ rfl (.tmp 129) (.tmp 131) 29 rfl w.heap.size 36 (.agg #[.int .i64 0, .int .i64 0, .int .i64 0, .int .i64 0, .slice none 0 0, .slice none 0 0]) 80 Tryz.underlying29 page_info rfl (show 0 < 6 by decide) (.slice A9 pgs.length c9) (pgs.map Av.mk) rfl HOP.out wr.heap.size _ ⟨p⟩ (0, 0) 36 rfl (heap_alloc_new wr _) HRE.out (by rw [HML.out]; have := HPB.out; omega) (by rw [HML.out]; have := HPB.out; omega) (by have := HWZ.out; simp; omega) _ rfl ?_; intro g5 p5 w5 hown5 hg5 hat5 hlt5; rw [HML.out] at hown5 ⊢; have HPS := Lib.hid (HGa.out.page hg5 hown5 (fun k hk => by cases hk; exact hat5)); clear hown5 hg5 hat5 hlt5)
            | fail)
           clear x0 x1 x2 x3 x4 x5
           go_roundw
           case rel => exact ⟨at_ + ln, ob1, qu1.drop sh, pgs ++ [p], f - 1, by go_num, hatl, by first | exact HPS | (rw [List.length_drop] at *; exact HPS), HF2, HT2, HS2⟩
           case measure => (have := HPN.out; simp only [vlen]; omega)
    ·rw [show (decide (at_ < body.length) || decide (0 < qu.length)) = false by rw [Bool.or_eq_false_iff, decide_eq_false_iff_not, decide_eq_false_iff_not]; omega]
     have hat2 : at_ = body.length := by omega
     obtain rfl : qu = [] := List.eq_nil_of_length_eq_zero (by omega)
     have HFI : Hid (pgs = setPages notes hn (allLines body notes) body []) := Lib.hid (by
      have h1 := HT.out
      rwa [hat2, List.drop_length, setPages_nil, List.append_nil] at h1)
     go_wp2_with fail
     go_ret2
     exact ⟨_, rfl, fun _ => by rw [← HFI.out]; exact (HP.out.pg.mono (fun i hi _ => hi.1)).bd, fun h => absurd rfl h, HP.out.bw⟩
 ·have HE := Lib.hid hE
  have hE0 : ¬ pageE body notes h = 0 := hE
  obtain ⟨pe, hpe⟩ : ∃ pe, pageE body notes h = pe := ⟨_, rfl⟩
  rw [hpe] at HC HE hE0 ⊢
  clear hE
  go_enter Tryz.func63, Tryz.ntmps63
  go_wp2_with (first | (go_at_call 89; refine HC.out.mono ?_; rintro e w2 ⟨rfl, hb2⟩; have HB2 := Lib.hid hb2; clear hb2) | fail)
  go_ret2
  exact ⟨_, rfl, fun h => absurd h HE.out, fun _ => rfl, HB2.out⟩
end Go.Proofs.YtakaielemicpkaaGreatDoor
