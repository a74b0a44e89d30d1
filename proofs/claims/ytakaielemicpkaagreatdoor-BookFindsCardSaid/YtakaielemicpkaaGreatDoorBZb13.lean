/- A text of wide words. No condition.
The reference's page: how many lines are used, whether a line fits. No condition but sizes.
The reference's error of lines, notes and a height is that of package page. No condition but sizes.
A page that the reference fills: its box, its rows of lines, the queue and the pages before it, each apart from the others. No condition. -/
import Derived.Test.YtakaielemicpkaaGreatDoorBZb12
namespace Go.Proofs.YtakaielemicpkaaGreatDoor
open Go.RowKit
def wideW : Word := ⟨⟨#[109, 109, 109, 109, 109, 109, 109, 109, 109, 109, 109, 109, 109, 109, 109, 109, 109, 109, 109, 109, 109, 109, 109, 109, 109, 109, 109, 109, 109, 109, 109, 109, 109, 109, 109, 109, 109, 109, 109, 109]⟩, ⟨#[]⟩, 0, 0⟩
theorem results_box1 {P : Program} {fn : Func} {p : Tmp} {ty : TypeId} (h : fn.results = #[.cell p ty]) (tmps : Array Value) (w : World) (g : Nat) (t : TypeId) (cs : List Value) (d : TypeDesc)
    (hp : tmps.getD p undef = .pointer (some ⟨g, 0, none⟩)) (hg : ABox w g t cs) (hu : P.underlying ty = some d) (hd : (match d with | .struct _ | .array _ _ => true | _ => false) = true) (hi : (P.info? ty).map (·.size) = some cs.length) :
    (results fn tmps).run P w = .ok (.agg cs.toArray) w := by
  have hp' : tmps[p]?.getD undef = .pointer (some ⟨g, 0, none⟩) := by simpa using hp
  have hi' : (P.info? ty).map (·.size) = some cs.toArray.size := by simpa using hi
  simp [results, h, hp', asAddr, run_loadVar_row w g t ty cs.toArray (0, 0) d hg hu hd hi']
theorem wideW_ok : wideW.ok := ⟨by decide, by decide, ⟨by decide, by decide⟩, ⟨by decide, by decide⟩⟩
theorem word_infoW : (Tryz.prog.info? 104).map (fun i => (i.zero, i.size, i.bytes)) = some (some (.agg #[.string ⟨#[]⟩, .string ⟨#[]⟩, .int .i64 0, .int .i64 0]), Rep.size Word, 48) := by kernel_rfl
set_option maxHeartbeats 1000000 in
theorem wide_any (n : Nat) (hn : n ≤ 1000) (w : World) :
    Calls Tryz.prog 37 #[.int .i64 (n : Int)] w fun e w' => ∃ A c, e = .returned (.agg #[.slice A 1 c, .slice none 0 0]) ∧ Sl w' (fun b => w.heap.size ≤ b ∧ b < w'.heap.size) A c [List.replicate n wideW] ∧ Below w.heap.size w w' := by
  have hn2 : (n : Int) ≤ 1000 := by omega
  have hb0 := (Below.refl w.heap.size w).alloc (Nat.le_refl _) (.cells #[.slice none 0 0, .slice none 0 0] 50)
  have hx0 : ABox (w.alloc (.cells #[.slice none 0 0, .slice none 0 0] 50)) w.heap.size 50 [.slice none 0 0, .slice none 0 0] := heap_alloc_new w _
  have hz : (w.alloc (.cells #[.slice none 0 0, .slice none 0 0] 50)).heap.size = w.heap.size + 1 := by simp
  go_enter Tryz.func37, Tryz.ntmps37
  go_upto_region 1 with (fail)
  generalize w.alloc (.cells #[.slice none 0 0, .slice none 0 0] 50) = w0 at *
  have HB0 := Lib.hid hb0
  have HX0 := Lib.hid hx0
  have HZ := Lib.hid hz
  clear hb0 hx0 hz
  go_wp2_with fail
  go_loopw [3, 4] (fun v i wr => ∃ k : Nat, k ≤ n ∧ i = .int .i64 k ∧ Own wr w0.heap.size 104 v (List.replicate k wideW) ∧ Below w0.heap.size w0 wr) (fun _ i _ => n - (intOf i).toNat)
  case atStart => exact ⟨0, Nat.zero_le _, rfl, Own.nil _ _ _, Below.refl _ _⟩
  case round =>
    obtain ⟨k, hk, rfl, hown, hb⟩ := hrel
    have Hb := Lib.hid hb
    have hzw := hb.size
    clear hb
    obtain ⟨A2, c2, rfl, _⟩ := hown.sl
    by_cases hlt : k < n
    · have hkl : (k : Int) < n := by omega
      obtain ⟨l, hl⟩ : ∃ l, List.replicate k wideW = l := ⟨_, rfl⟩
      have hll : l.length = k := by rw [← hl]; simp
      have hl2 : l ++ [wideW] = List.replicate (k + 1) wideW := by rw [← hl, List.replicate_succ']
      rw [hl] at hown ⊢
      have HL2 := Lib.hid hl2
      have HLL := Lib.hid hll
      have hlk : l.length ≤ 1000 := by omega
      clear hl hl2 hll
      go_wp2_with (at_builtin; refine wpList_push (α := Word) _ rfl (.tmp 10) (.tmp 12) 99 rfl w0.heap.size 104 (.agg #[.string ⟨#[]⟩, .string ⟨#[]⟩, .int .i64 0, .int .i64 0]) 48 Tryz.underlying99 word_infoW rfl (by decide) _ l rfl (hown.alloc _) wr.heap.size _ wideW (0, 0) 104 rfl (heap_alloc_new wr _) ⟨rfl, wideW_ok⟩ (by omega) (by omega) (by first | omega | (simp; done) | (simp; omega)) _ rfl ?_; intro g cap w5 hown5 hg5 hat5 hlt5)
      go_roundw
      case rel => exact ⟨k + 1, by omega, by go_num, by rw [← HL2.out]; exact hown5, below_push Hb.out hown (by omega) hg5⟩
      case measure => simp [intOf]; omega
    · obtain rfl : k = n := by omega
      obtain ⟨l, hl⟩ : ∃ l, List.replicate k wideW = l := ⟨_, rfl⟩
      have hll : l.length ≤ 1000 := by rw [← hl]; simp; omega
      rw [hl] at hown ⊢
      have HL := Lib.hid hl
      clear hl
      obtain ⟨W1, hW1⟩ : ∃ W1, wr.alloc (.cells #[.slice A2 l.length c2] 99) = W1 := ⟨_, rfl⟩
      have hb1 : Below wr.heap.size wr W1 := by rw [← hW1]; exact (Below.refl _ _).alloc (Nat.le_refl _) _
      have hX : W1.heap[wr.heap.size]? = some (.cells #[.slice A2 l.length c2] 99 (0, 0)) := by rw [← hW1]; exact heap_alloc_new wr _
      have HY := Lib.hid ((HX0.out.to Hb.out).to hb1)
      have x0 := HY.out.cell 0 rfl
      have x1 := HY.out.cell 1 rfl
      have f0 := HY.out.fz 0
      have f1 := HY.out.fz 1
      obtain ⟨A5, c5, e5, hs5⟩ := hown.sl
      cases e5
      have hsl : Sl W1 (fun b => w.heap.size < b ∧ b < W1.heap.size) (some ⟨wr.heap.size, 0, none⟩) 1 [l] := Sl.block (l := [l]) hX ⟨by have := HZ.out; omega, by have := cell_lt hX; omega⟩ (by simp [maxLen]) (fun i hi => by
        obtain rfl : i = 0 := by simpa using hi
        refine ⟨A2, c2, rfl, ?_, by simp only [List.getElem_cons_zero]; omega⟩
        exact (((hown.below hb1).sl_at rfl).mono fun i hi _ => ⟨by have := hi.1; have := HZ.out; omega, hi.2⟩))
      have HSL := Lib.hid hsl
      have HB1 : Hid (Below w.heap.size w W1) := Lib.hid ((HB0.out.trans (Hb.out.mono (by have := HZ.out; omega))).trans (hb1.mono (by have := HZ.out; omega)))
      have HZ1 : Hid (w.heap.size < wr.heap.size) := Lib.hid (by have := HZ.out; omega)
      clear hX hsl hb1 hs5 hown
      go_upto_region 7 with (fail)
      exact bodyPost_ret (v := .agg #[.slice (some ⟨wr.heap.size, 0, none⟩) 1 1, .slice none 0 0]) (results_box1 Tryz.results37 _ _ w.heap.size _ [.slice (some ⟨wr.heap.size, 0, none⟩) 1 1, .slice none 0 0] _ rfl (by simpa using (HY.out.set 0 (.slice (some ⟨wr.heap.size, 0, none⟩) 1 1)).set 1 (.slice none 0 0)) Tryz.underlying50 rfl (by kernel_rfl)) rfl
        ⟨some ⟨wr.heap.size, 0, none⟩, 1, rfl, by
          rw [HL.out]
          refine (HSL.out.keep ?_ (by simp)).mono (fun i hi hl => ⟨Nat.le_of_lt hi.1, hl⟩)
          exact fun i hi _ => (heap_set _ _ 1 _ (by have := hi.1; omega)).trans (heap_set _ _ 0 _ (by have := hi.1; omega)), (HB1.out.setCell (p := ⟨w.heap.size, 0, none⟩) (Nat.le_refl _) _).setCell (p := ⟨w.heap.size, 1, none⟩) (Nat.le_refl _) _⟩
end Go.Proofs.YtakaielemicpkaaGreatDoor
namespace Go.Proofs.YtakaielemicpkaaGreatDoor
open Go.RowKit
def usedN (nb nn : Nat) : Nat := nb + nn + min nn 1
set_option maxHeartbeats 1000000 in
theorem rused_any (A B : Option Addr) (c d nb nn : Nat) (w : World) (h1 : nb ≤ 1048576) (h2 : nn ≤ 1048576) :
    Calls Tryz.prog 92 #[.agg #[.int .i64 0, .int .i64 0, .int .i64 0, .int .i64 0, .slice A nb c, .slice B nn d]] w fun e w' => e = .returned (.int .i64 (usedN nb nn : Nat)) ∧ Below w.heap.size w w' := by
  obtain ⟨wb, hwb⟩ : ∃ wb, w.alloc (.cells #[.int .i64 0, .int .i64 0, .int .i64 0, .int .i64 0, .slice A nb c, .slice B nn d] 36) = wb := ⟨_, rfl⟩
  have hba : Below w.heap.size w wb := by rw [← hwb]; exact (Below.refl _ _).alloc (Nat.le_refl _) _
  have hx0 : ABox wb w.heap.size 36 [.int .i64 0, .int .i64 0, .int .i64 0, .int .i64 0, .slice A nb c, .slice B nn d] := by rw [← hwb]; exact heap_alloc_new w _
  have x4 := hx0.cell 4 rfl
  have x5 := hx0.cell 5 rfl
  have HB := Lib.hid hba
  clear hba hx0
  go_enter Tryz.func92, Tryz.ntmps92
  go_upto_region 1 with (fail)
  try rw [hwb]
  clear hwb
  go_wp2_with fail
  go_ret
  exact ⟨congrArg (fun z => Ending.returned (.int .i64 z)) (show ((nb : Int) + (nn : Int) + min (nn : Int) 1) = ((usedN nb nn : Nat) : Int) by unfold usedN; omega), HB.out⟩
def fitsR (h nb nn q : Nat) (x : LineP) : Bool := fitsP h nb nn (nn + q) x
set_option maxRecDepth 100000 in
set_option maxHeartbeats 2000000 in
theorem rfits_any (A B Ag An : Option Addr) (c d cg cn nb nn q h : Nat) (x : LineP) (w : World) (h1 : nb ≤ 1048576) (h2 : nn ≤ 1048576) (h3 : q ≤ 1048576) (h4 : h ≤ 100) (hxn : x.notes.length ≤ 9223372036854775807) :
    Calls Tryz.prog 91 #[.agg #[.int .i64 0, .int .i64 0, .int .i64 0, .int .i64 0, .slice A nb c, .slice B nn d], .agg #[.int .i64 x.fr, .int .i64 x.un, .slice Ag x.gaps.length cg, .slice An x.notes.length cn], .int .i64 (q : Int), .int .i64 (h : Int)] w
      fun e w' => e = .returned (.bool (fitsR h nb nn q x)) ∧ Below w.heap.size w w' := by
  obtain ⟨wb, hwb⟩ : ∃ wb, (w.alloc (.cells #[.int .i64 0, .int .i64 0, .int .i64 0, .int .i64 0, .slice A nb c, .slice B nn d] 36)).alloc (.cells #[.int .i64 x.fr, .int .i64 x.un, .slice Ag x.gaps.length cg, .slice An x.notes.length cn] 88) = wb := ⟨_, rfl⟩
  have hba : Below w.heap.size w wb := by rw [← hwb]; exact ((Below.refl _ _).alloc (Nat.le_refl _) _).alloc (by simp) _
  have hx0 : ABox wb w.heap.size 36 [.int .i64 0, .int .i64 0, .int .i64 0, .int .i64 0, .slice A nb c, .slice B nn d] := by rw [← hwb]; exact (Below.heap_alloc _ _ _ (by simp)).trans (heap_alloc_new w _)
  have hx1 : ABox wb (w.heap.size + 1) 88 [.int .i64 x.fr, .int .i64 x.un, .slice Ag x.gaps.length cg, .slice An x.notes.length cn] := by rw [← hwb]; exact heap_at (by simp)
  have HU := Lib.hid (rused_any A B c d nb nn wb h1 h2)
  have y3 := hx1.cell 3 rfl
  have HB := Lib.hid hba
  have HX0 := Lib.hid hx0
  have x0 := hx0.cell 0 rfl
  have x1 := hx0.cell 1 rfl
  have x2 := hx0.cell 2 rfl
  have x3 := hx0.cell 3 rfl
  have x4 := hx0.cell 4 rfl
  have x5 := hx0.cell 5 rfl
  clear hba hx0 hx1
  go_enter Tryz.func91, Tryz.ntmps91
  go_upto_region 1 with (fail)
  try rw [hwb]
  clear hwb
  by_cases hn : x.notes = []
  · have hnl : (x.notes.length : Int) = 0 := by rw [hn]; rfl
    have HR : Hid (fitsR h nb nn q x = decide ((usedN nb nn : Int) ≤ (h : Int) - 1)) := Lib.hid (by
      unfold fitsR fitsP roomP usedN
      rw [if_pos hn]
      rw [Bool.eq_iff_iff, decide_eq_true_iff, decide_eq_true_iff]
      omega)
    have hu : usedN nb nn ≤ 2097153 := by unfold usedN; omega
    clear hn
    go_wp2_with (first | (go_at_call 92; refine HU.out.mono ?_; rintro e w' ⟨rfl, hb2⟩; have HB2 := Lib.hid (HB.out.trans (hb2.mono HB.out.size)); clear hb2) | fail)
    go_ret
    exact ⟨ret_bool HR.out.symm, HB2.out⟩
  · have hnl : ¬ (x.notes.length : Int) = 0 := by have := List.length_pos_iff.2 hn; omega
    have HR : Hid (fitsR h nb nn q x = (decide (q = 0) && decide ((usedN nb nn : Int) + 1 + (1 - ((min nn 1 : Nat) : Int)) + 1 ≤ (h : Int)))) := Lib.hid (by
      unfold fitsR fitsP roomP usedN
      rw [if_neg hn]
      rw [Bool.eq_iff_iff, Bool.and_eq_true, Bool.and_eq_true, decide_eq_true_iff, decide_eq_true_iff, decide_eq_true_iff, decide_eq_true_iff]
      omega)
    have hu : usedN nb nn ≤ 2097153 := by unfold usedN; omega
    clear hn
    by_cases hq : q = 0
    · subst hq
      go_wp2_with (first | (go_at_call 92; refine HU.out.mono ?_; rintro e w' ⟨rfl, hb2⟩; have HB2 := Lib.hid (HB.out.trans (hb2.mono HB.out.size)); clear hb2) | fail)
      go_ret
      exact ⟨ret_bool (show decide ((usedN nb nn : Int) + 1 + (1 - min (nn : Int) 1) + 1 ≤ (h : Int)) = fitsR h nb nn 0 x by rw [HR.out, show ((min nn 1 : Nat) : Int) = min (nn : Int) 1 by omega]; simp), HB2.out⟩
    · have hq2 : ¬ (q : Int) = 0 := by omega
      have HR2 : Hid (fitsR h nb nn q x = false) := Lib.hid (by rw [HR.out, decide_eq_false hq]; rfl)
      go_wp2_with fail
      go_ret
      exact ⟨ret_bool HR2.out.symm, HB.out⟩
theorem rints_any (A : Option Addr) (c n : Nat) (l : List Int) (w : World) (hs : Sl w (fun b => b < w.heap.size) A c l) (hn : l.length = n) (hm : n ≤ 1048576) :
    Calls Tryz.prog 112 #[.slice A n c, .int .i64 (n : Int)] w fun e w' => ∃ v, e = .returned v ∧ Own w' w.heap.size 3 v l ∧ Below w.heap.size w w' := by
  have HS := Lib.hid hs
  have HN := Lib.hid hn
  have hnc : n ≤ c := by rw [← hn]; exact hs.1
  clear hs hn
  go_enter Tryz.func112, Tryz.ntmps112
  go_wp2_with (first
    | (at_builtin; refine wpList_cat (α := Int) _ rfl (.tmp 6) (.tmp 12) 22 rfl w.heap.size 3 (.int .i64 0) 8 Tryz.underlying22 int_info rfl (by decide) (.slice none 0 0) [] rfl (Own.nil _ _ _) A c n l rfl HN.out (fun b => b < w.heap.size) HS.out (fun i hi _ e => by simp [Value.ownBlock] at e) (by simp; omega) (by simp; omega) (Nat.le_refl _) ?_; intro v4 w4 hown4 hg4 hat4; have HO4 := Lib.hid hown4; have HB4 := Lib.hid (below_cat (Below.refl w.heap.size w) (Own.nil w w.heap.size 3 (α := Int)) (Nat.le_refl _) hg4); clear hown4 hg4 hat4)
    | fail)
  go_ret
  exact ⟨_, rfl, HO4.out, HB4.out⟩
def IsCopy (x : LineP) (w : World) (e : Ending) (w' : World) : Prop := ∃ A c B d, e = .returned (.agg #[.int .i64 x.fr, .int .i64 x.un, .slice A x.gaps.length c, .slice B x.notes.length d]) ∧ Own w' w.heap.size 3 (.slice A x.gaps.length c) x.gaps ∧ Own w' w.heap.size 3 (.slice B x.notes.length d) x.notes ∧ Below w.heap.size w w'
set_option maxRecDepth 100000 in
set_option maxHeartbeats 4000000 in
theorem rcopy_any (Ag An : Option Addr) (cg cn : Nat) (x : LineP) (w : World) (hg : Sl w (fun b => b < w.heap.size) Ag cg x.gaps) (hn : Sl w (fun b => b < w.heap.size) An cn x.notes) (h1 : x.gaps.length ≤ 1048576) (h2 : x.notes.length ≤ 1048576) :
    Calls Tryz.prog 90 #[.agg #[.int .i64 x.fr, .int .i64 x.un, .slice Ag x.gaps.length cg, .slice An x.notes.length cn]] w (IsCopy x w) := by
  obtain ⟨wb, hwb⟩ : ∃ wb, (w.alloc (.cells #[.int .i64 x.fr, .int .i64 x.un, .slice Ag x.gaps.length cg, .slice An x.notes.length cn] 88)).alloc (.cells #[.int .i64 0, .int .i64 0, .slice none 0 0, .slice none 0 0] 88) = wb := ⟨_, rfl⟩
  have hba : Below w.heap.size w wb := by rw [← hwb]; exact ((Below.refl _ _).alloc (Nat.le_refl _) _).alloc (by simp) _
  have hsz : wb.heap.size = w.heap.size + 2 := by rw [← hwb]; simp
  have hx0 : ABox wb w.heap.size 88 [.int .i64 x.fr, .int .i64 x.un, .slice Ag x.gaps.length cg, .slice An x.notes.length cn] := by rw [← hwb]; exact (Below.heap_alloc _ _ _ (by simp)).trans (heap_alloc_new w _)
  have hx1 : ABox wb (w.heap.size + 1) 88 [.int .i64 0, .int .i64 0, .slice none 0 0, .slice none 0 0] := by rw [← hwb]; exact heap_at (by simp)
  have HG := Lib.hid (hg.to hba)
  have HN := Lib.hid (hn.to hba)
  have HB := Lib.hid hba
  have HX0 := Lib.hid hx0
  have HX1 := Lib.hid hx1
  have HSZ := Lib.hid hsz
  obtain ⟨O, hO⟩ : ∃ O, w.heap.size + 1 = O := ⟨_, rfl⟩
  clear hba hx0 hx1 hg hn hsz
  go_enter Tryz.func90, Tryz.ntmps90
  go_upto_region 1 with (fail)
  try rw [hwb]
  clear hwb
  refine wp_region_rely [9, 15] (fun i => if i = 9 then SP.own wb.heap.size 3 x.gaps else if i = 15 then SP.own wb.heap.size 3 x.notes else SP.any) 17 (by kernel_rfl) (by kernel_rfl) ?_
  intro T _ g hg hgm
  have x0 : ∀ d, (g d).cell? ⟨w.heap.size, 0, none⟩ = some (.int .i64 x.fr) := fun d => (HX0.out.to (hg d)).cell 0 rfl
  have x1 : ∀ d, (g d).cell? ⟨w.heap.size, 1, none⟩ = some (.int .i64 x.un) := fun d => (HX0.out.to (hg d)).cell 1 rfl
  have x2 : ∀ d, (g d).cell? ⟨w.heap.size, 2, none⟩ = some (.slice Ag x.gaps.length cg) := fun d => (HX0.out.to (hg d)).cell 2 rfl
  have x3 : ∀ d, (g d).cell? ⟨w.heap.size, 3, none⟩ = some (.slice An x.notes.length cn) := fun d => (HX0.out.to (hg d)).cell 3 rfl
  repeat (refine wpR_pure (by rfl) fun Kq hq => ?_; go_big_quiet_step (fail); refine wpQuiet_nil (hq _ ?_); clear hq Kq)
  refine wpR_busy (by rfl) (by rfl) (fun d hG K Q hK => ?_) (fun v d hG hp Kr hr => ?_)
  · go_simp
    go_at_call 112
    refine (rints_any Ag cg x.gaps.length x.gaps (g d) (HG.out.to (hg d)) rfl h1).mono ?_
    rintro e W1 ⟨v3, rfl, ho3, hb1⟩
    go_simp
    exact hK _ _ hb1 (ho3.re (hg d).size)
  obtain ⟨A3, c3, rfl, -⟩ := (show Own (g d) wb.heap.size 3 v x.gaps from hp).form
  (try clear hp); clear hG
  simp only [Act.put, List.setIfInBounds_toArray, List.set_cons_zero, List.set_cons_succ]
  refine hr _ ?_
  clear hr Kr
  repeat (refine wpR_pure (by rfl) fun Kq hq => ?_; go_big_quiet_step (fail); refine wpQuiet_nil (hq _ ?_); clear hq Kq)
  refine wpR_busy (by rfl) (by rfl) (fun d hG K Q hK => ?_) (fun v d hG hp Kr hr => ?_)
  · go_simp
    go_at_call 112
    refine (rints_any An cn x.notes.length x.notes (g d) (HN.out.to (hg d)) rfl h2).mono ?_
    rintro e W1 ⟨v3, rfl, ho3, hb1⟩
    go_simp
    exact hK _ _ hb1 (ho3.re (hg d).size)
  obtain ⟨A4, c4, rfl, -⟩ := (show Own (g d) wb.heap.size 3 v x.notes from hp).form
  (try clear hp); clear hG
  simp only [Act.put, List.setIfInBounds_toArray, List.set_cons_zero, List.set_cons_succ]
  refine hr _ ?_
  clear hr Kr
  repeat (refine wpR_pure (by rfl) fun Kq hq => ?_; go_big_quiet_step (fail); refine wpQuiet_nil (hq _ ?_); clear hq Kq)
  refine wpR_tail 1 (by rfl) (by rfl) (fun d hG => ?_)
  have HO3 : Hid (Own (g d) wb.heap.size 3 (.slice A3 x.gaps.length c3) x.gaps) := Lib.hid (hG 9)
  have HO4 : Hid (Own (g d) wb.heap.size 3 (.slice A4 x.notes.length c4) x.notes) := Lib.hid (hG 15)
  have HXd := Lib.hid (HX1.out.to (hg d))
  have HBd := Lib.hid (HB.out.trans ((hg d).mono HB.out.size))
  rw [hO] at HXd
  try rw [hO]
  clear hG hg hgm x0 x1 x2 x3
  generalize g d = w6 at *
  clear g
  have z0 := HXd.out.cell 0 rfl
  have z1 := (HXd.out.set 0 (.int .i64 x.fr)).cell 1 rfl
  have z2 := ((HXd.out.set 0 (.int .i64 x.fr)).set 1 (.int .i64 x.un)).cell 2 rfl
  have z3 := (((HXd.out.set 0 (.int .i64 x.fr)).set 1 (.int .i64 x.un)).set 2 (.slice A3 x.gaps.length c3)).cell 3 rfl
  have y0 := HXd.out.fz 0
  have y1 := (HXd.out.set 0 (.int .i64 x.fr)).fz 1
  have y2 := ((HXd.out.set 0 (.int .i64 x.fr)).set 1 (.int .i64 x.un)).fz 2
  have y3 := (((HXd.out.set 0 (.int .i64 x.fr)).set 1 (.int .i64 x.un)).set 2 (.slice A3 x.gaps.length c3)).fz 3
  refine wpAny_one (i := 17) (oi := _) rfl (by kernel_rfl) (by rfl) (fun K hK => ?_)
  go_simp
  refine hK _ _ ?_
  clear hK K
  try simp only [Act.put, List.setIfInBounds_toArray, List.set_cons_zero, List.set_cons_succ]
  clear z0 z1 z2 z3 y0 y1 y2 y3
  refine wpAny_done (by kernel_rfl) ?_ _
  unfold Exit.then
  have hkk : ∀ i, i ≠ O → ((((w6.setCell ⟨O, 0, none⟩ (.int .i64 x.fr)).setCell ⟨O, 1, none⟩ (.int .i64 x.un)).setCell ⟨O, 2, none⟩ (.slice A3 x.gaps.length c3)).setCell ⟨O, 3, none⟩ (.slice A4 x.notes.length c4)).heap[i]? = w6.heap[i]? := fun i hi => (heap_set _ _ _ _ hi).trans ((heap_set _ _ _ _ hi).trans ((heap_set _ _ _ _ hi).trans (heap_set _ _ _ _ hi)))
  have hwO : w.heap.size ≤ O := by omega
  have hwb2 : w.heap.size ≤ wb.heap.size := by have := HSZ.out; omega
  have hOb : O < wb.heap.size := by have := HSZ.out; omega
  have HZB : Hid (Below w.heap.size w ((((w6.setCell ⟨O, 0, none⟩ (.int .i64 x.fr)).setCell ⟨O, 1, none⟩ (.int .i64 x.un)).setCell ⟨O, 2, none⟩ (.slice A3 x.gaps.length c3)).setCell ⟨O, 3, none⟩ (.slice A4 x.notes.length c4))) := Lib.hid ((((HBd.out.setCell (p := ⟨O, 0, none⟩) hwO _).setCell (p := ⟨O, 1, none⟩) hwO _).setCell (p := ⟨O, 2, none⟩) hwO _).setCell (p := ⟨O, 3, none⟩) hwO _)
  have HZ3 : Hid (Own ((((w6.setCell ⟨O, 0, none⟩ (.int .i64 x.fr)).setCell ⟨O, 1, none⟩ (.int .i64 x.un)).setCell ⟨O, 2, none⟩ (.slice A3 x.gaps.length c3)).setCell ⟨O, 3, none⟩ (.slice A4 x.notes.length c4)) w.heap.size 3 (.slice A3 x.gaps.length c3) x.gaps) := Lib.hid ((own_keepI HO3.out (fun i hi => hkk i (fun e => by have := (HO3.out.lt i hi).1; omega))).re hwb2)
  have HZ4 : Hid (Own ((((w6.setCell ⟨O, 0, none⟩ (.int .i64 x.fr)).setCell ⟨O, 1, none⟩ (.int .i64 x.un)).setCell ⟨O, 2, none⟩ (.slice A3 x.gaps.length c3)).setCell ⟨O, 3, none⟩ (.slice A4 x.notes.length c4)) w.heap.size 3 (.slice A4 x.notes.length c4) x.notes) := Lib.hid ((own_keepI HO4.out (fun i hi => hkk i (fun e => by have := (HO4.out.lt i hi).1; omega))).re hwb2)
  have HZX : Hid (ABox ((((w6.setCell ⟨O, 0, none⟩ (.int .i64 x.fr)).setCell ⟨O, 1, none⟩ (.int .i64 x.un)).setCell ⟨O, 2, none⟩ (.slice A3 x.gaps.length c3)).setCell ⟨O, 3, none⟩ (.slice A4 x.notes.length c4)) O 88 [.int .i64 x.fr, .int .i64 x.un, .slice A3 x.gaps.length c3, .slice A4 x.notes.length c4]) := Lib.hid ((((HXd.out.set 0 (.int .i64 x.fr)).set 1 (.int .i64 x.un)).set 2 (.slice A3 x.gaps.length c3)).set 3 (.slice A4 x.notes.length c4))
  clear hkk
  go_wp2_with fail
  exact bodyPost_ret (v := .agg #[.int .i64 x.fr, .int .i64 x.un, .slice A3 x.gaps.length c3, .slice A4 x.notes.length c4]) (results_box1 Tryz.results90 _ _ O _ [.int .i64 x.fr, .int .i64 x.un, .slice A3 x.gaps.length c3, .slice A4 x.notes.length c4] _ rfl HZX.out Tryz.underlying88 rfl (by kernel_rfl)) rfl
    ⟨A3, c3, A4, c4, rfl, HZ3.out, HZ4.out, HZB.out⟩
end Go.Proofs.YtakaielemicpkaaGreatDoor
namespace Go.Proofs.YtakaielemicpkaaGreatDoor
open Go.RowKit
theorem lrows_at {w : World} {S : Nat → Prop} {A : Option Addr} {c : Nat} {l : List (List LineP)} (h : Sl w S A c l) {k : Nat} (hk : k < l.length) :
    ∃ b o A1 c1, A = some ⟨b, o, none⟩ ∧ S b ∧ b < w.heap.size ∧ w.cell? ⟨b, o + k, none⟩ = some (.slice A1 l[k].length c1) ∧ Sl w S A1 c1 l[k] := by
  obtain ⟨b, o, es, rfl, hb, hlt, ⟨A1, c1, rfl, hs, -⟩, hc⟩ := h.at_ hk
  have h0 := hc 0 _ rfl
  simp only [Rep.size, Nat.mul_one, Nat.add_zero] at h0
  exact ⟨b, o, A1, c1, rfl, hb, hlt, h0, hs⟩
set_option maxRecDepth 100000 in
set_option maxHeartbeats 8000000 in
theorem rwrong_any (A B : Option Addr) (c d : Nat) (body : List LineP) (notes : List (List LineP)) (h : Int) (w : World) (ha : Sl w (fun b => b < w.heap.size) A c body) (hb : Sl w (fun b => b < w.heap.size) B d notes) (hln : notes.length ≤ 1048576) (hlb : body.length ≤ 1048576) (hsm : ∀ x ∈ body, x.notes.length ≤ 1048576) :
    Calls Tryz.prog 89 #[.slice A body.length c, .slice B notes.length d, .int .i64 h] w fun e w' => e = .returned (.int .i64 (pageE body notes h)) ∧ Below w.heap.size w w' := by
  have HA := Lib.hid ha
  have HBS := Lib.hid hb
  have HSM := Lib.hid hsm
  have hnc : notes.length ≤ d := hb.1
  have hbc : body.length ≤ c := ha.1
  have HB : Hid (Below w.heap.size w w) := Lib.hid (Below.refl _ _)
  clear ha hb hsm
  by_cases h4 : h < 4
  · have HE : Hid (pageE body notes h = 5) := Lib.hid (by unfold pageE; rw [if_pos (.inl h4)])
    go_enter Tryz.func89, Tryz.ntmps89
    go_wp2_with fail
    go_ret
    exact ⟨by rw [HE.out]; rfl, Below.refl _ _⟩
  by_cases h5 : 100 < h
  · have HE : Hid (pageE body notes h = 5) := Lib.hid (by unfold pageE; rw [if_pos (.inr h5)])
    go_enter Tryz.func89, Tryz.ntmps89
    go_wp2_with fail
    go_ret
    exact ⟨by rw [HE.out]; rfl, Below.refl _ _⟩
  have H45 : Hid (¬ (h < 4 ∨ 100 < h)) := Lib.hid (by omega)
  go_enter Tryz.func89, Tryz.ntmps89
  go_wp2_with fail
  go_loopw [7] (fun i wr => ∃ k : Nat, k ≤ notes.length ∧ i = .int .i64 (k : Int) ∧ Hid (∀ j (hj : j < notes.length), j < k → notes[j] ≠ []) ∧ wr = w) (fun i _ => notes.length - (intOf i).toNat)
  case atStart => exact ⟨0, Nat.zero_le _, rfl, Lib.hid (fun j _ h => absurd h (Nat.not_lt_zero _)), by first | rfl | trivial⟩
  case round =>
    obtain ⟨k, hk, rfl, HNE, rfl⟩ := hrel
    by_cases hlt : k < notes.length
    · have hkI : (k : Int) < (notes.length : Int) := by omega
      obtain ⟨b, o, A1, c1, rfl, -, -, e0, -⟩ := lrows_at HBS.out hlt
      obtain ⟨y, hy⟩ : ∃ y, notes[k] = y := ⟨_, rfl⟩
      rw [hy] at e0
      have HY := Lib.hid hy
      clear hy
      by_cases hye : y = []
      · have HE : Hid (pageE body notes h = 1) := Lib.hid (by
          unfold pageE
          rw [if_neg H45.out, if_pos]
          exact List.any_eq_true.2 ⟨notes[k], List.getElem_mem hlt, decide_eq_true (by rw [HY.out]; exact hye)⟩)
        subst hye
        go_wp2_with fail
        go_ret
        exact ⟨by rw [HE.out]; rfl, HB.out⟩
      · have hy0 : ¬ (y.length : Int) = 0 := by have := List.length_pos_iff.2 hye; omega
        have HYE := Lib.hid hye
        clear hye
        go_wp2_with fail
        go_roundw
        case rel => exact ⟨k + 1, by omega, by go_num, Lib.hid (fun j hj hjk => by
          rcases Nat.lt_or_ge j k with h | h
          · exact HNE.out j hj h
          · obtain rfl : j = k := by omega
            rw [HY.out]; exact HYE.out), by first | rfl | trivial⟩
        case measure => simp [intOf]; omega
    · obtain rfl : k = notes.length := by omega
      have HE : Hid (pageE body notes h = match nextN notes.length 0 (body.flatMap (·.notes)) with | none => 12 | some k => if k < notes.length then 3 else 0) := Lib.hid (by
        unfold pageE
        rw [if_neg H45.out, if_neg]
        · rfl
        · rw [Bool.not_eq_true, List.any_eq_false]
          intro x hx
          obtain ⟨j, hj, rfl⟩ := List.getElem_of_mem hx
          rw [decide_eq_true_iff]
          exact HNE.out j hj hj)
      clear HNE H45
      go_wp2_with fail
      obtain ⟨wo, rfl⟩ : ∃ wo : World, wo = wr := ⟨_, rfl⟩
      go_loopw [8, 9] (fun vn vi wr => ∃ (k : Nat) (nx : Int), k ≤ body.length ∧ vi = .int .i64 (k : Int) ∧ vn = .int .i64 nx ∧ Hid (nextN notes.length 0 ((body.take k).flatMap (·.notes)) = some nx) ∧ 0 ≤ nx ∧ nx ≤ notes.length ∧ wr = wo) (fun _ vi _ => body.length - (intOf vi).toNat)
      case atStart => exact ⟨0, 0, Nat.zero_le _, rfl, rfl, Lib.hid rfl, Int.le_refl _, by omega, by first | rfl | trivial⟩
      case round =>
        obtain ⟨k, nx, hk, rfl, rfl, HX, hn0, hn1, rfl⟩ := hrel
        by_cases hlt : k < body.length
        · have hkl : (k : Int) < (body.length : Int) := by omega
          have hk0 : (0 : Int) ≤ (k : Int) := by omega
          obtain ⟨b, o, Ag, cg, An, cn, rfl, -, hbl2, -, -, -, e3, hgS, hnS⟩ := line_at HA.out hlt
          have HRS := Lib.hid (refs_step body k hlt)
          have HNO : Hid (∀ j, nextN notes.length 0 ((body.take k).flatMap (·.notes) ++ (body[k].notes).take j) = none → nextN notes.length 0 (body.flatMap (·.notes)) = none) := Lib.hid (fun j hj => by
            have h1 : (body.flatMap (·.notes)) = ((body.take k).flatMap (·.notes) ++ (body[k].notes).take j) ++ ((body[k].notes).drop j ++ (body.drop (k + 1)).flatMap (·.notes)) := by
              conv => lhs; rw [← List.take_append_drop (k + 1) body, List.flatMap_append, HRS.out]
              rw [List.append_assoc, List.append_assoc]
              congr 1
              rw [← List.append_assoc, List.take_append_drop]
            rw [h1, nextN_app, hj]; rfl)
          have HNS := Lib.hid hnS
          have hnl9 : body[k].notes.length ≤ 1048576 := HSM.out _ (List.getElem_mem hlt)
          have hncn : body[k].notes.length ≤ cn := hnS.1
          generalize body[k] = x at *
          clear hgS hnS
          go_wp2_with fail
          obtain ⟨w2, rfl⟩ : ∃ w2 : World, w2 = wr := ⟨_, rfl⟩
          go_loopw [8, 10] (fun vn vj wr => ∃ (j : Nat) (nx : Int), j ≤ x.notes.length ∧ vj = .int .i64 (j : Int) ∧ vn = .int .i64 nx ∧ Hid (nextN notes.length 0 ((body.take k).flatMap (·.notes) ++ x.notes.take j) = some nx) ∧ 0 ≤ nx ∧ nx ≤ notes.length ∧ wr = w2) (fun _ vj _ => x.notes.length - (intOf vj).toNat)
          case atStart => exact ⟨0, nx, Nat.zero_le _, rfl, rfl, Lib.hid (by rw [List.take_zero, List.append_nil]; exact HX.out), hn0, hn1, by first | rfl | trivial⟩
          case round =>
            clear HX hn0 hn1
            obtain ⟨j, nx, hj, rfl, rfl, HX, hn0, hn1, rfl⟩ := hrel
            by_cases hjl : j < x.notes.length
            · have hjl' : (j : Int) < (x.notes.length : Int) := by omega
              have hj0 : (0 : Int) ≤ (j : Int) := by omega
              obtain ⟨b1, o1, hA1, -, -, hok, ce⟩ := int_at HNS.out hjl
              subst hA1
              have HT2 : Hid (nextN notes.length 0 ((body.take k).flatMap (·.notes) ++ x.notes.take (j + 1)) = if x.notes[j] ≠ nx ∨ (notes.length : Int) ≤ x.notes[j] then none else some (nx + 1)) := Lib.hid (by
                have e1 : ((body.take k).flatMap (·.notes)) ++ x.notes.take (j + 1) = ((body.take k).flatMap (·.notes) ++ x.notes.take j) ++ [x.notes[j]] := by
                  rw [List.take_succ_eq_append_getElem hjl, List.append_assoc]
                rw [e1, nextN_app, HX.out]
                rfl)
              have HNJ := Lib.hid (HNO.out (j + 1))
              have HOK := Lib.hid hok
              generalize x.notes[j] = q at *
              clear hok
              by_cases hq : q = nx
              · subst hq
                by_cases hq2 : (notes.length : Int) ≤ q
                · have HE2 : Hid (pageE body notes h = 12) := Lib.hid (by rw [HE.out, HNJ.out (by rw [HT2.out, if_pos (.inr hq2)])])
                  go_wp2_with fail
                  go_ret
                  exact ⟨by rw [HE2.out]; rfl, HB.out⟩
                · have HX2 : Hid (nextN notes.length 0 ((body.take k).flatMap (·.notes) ++ x.notes.take (j + 1)) = some (q + 1)) := Lib.hid (by rw [HT2.out, if_neg (by omega)])
                  have hq3 : q < (notes.length : Int) := by omega
                  clear HT2 HNJ
                  go_wp2_with fail
                  go_roundw
                  case rel => exact ⟨j + 1, q + 1, by omega, by go_num, by go_num, HX2, by omega, by omega, by first | trivial | rfl⟩
                  case measure => (first | (simp [intOf]; done) | (simp [intOf]; omega))
              · have HE2 : Hid (pageE body notes h = 12) := Lib.hid (by rw [HE.out, HNJ.out (by rw [HT2.out, if_pos (.inl hq)])])
                have hqb : (q == nx) = false := by rw [beq_eq_false_iff_ne]; exact hq
                go_wp2_with fail
                go_ret
                exact ⟨by rw [HE2.out]; rfl, HB.out⟩
            · have HX2 : Hid (nextN notes.length 0 ((body.take (k + 1)).flatMap (·.notes)) = some nx) := Lib.hid (by rw [HRS.out]; have := HX.out; rwa [List.take_of_length_le (show x.notes.length ≤ j by omega)] at this)
              have hjl' : ¬ (j : Int) < (x.notes.length : Int) := by omega
              go_wp2_with fail
              go_roundw
              case rel => exact ⟨k + 1, nx, by omega, by go_num, rfl, HX2, hn0, hn1, by first | trivial | rfl⟩
              case measure => (first | (simp [intOf]; done) | (simp [intOf]; omega))
        · have HX2 : Hid (nextN notes.length 0 (body.flatMap (·.notes)) = some nx) := Lib.hid (by have := HX.out; rwa [List.take_of_length_le (by omega)] at this)
          clear HX
          by_cases hnx : nx < (notes.length : Int)
          · have HE2 : Hid (pageE body notes h = 3) := Lib.hid (by rw [HE.out, HX2.out]; exact if_pos hnx)
            go_wp2_with fail
            go_ret
            exact ⟨by rw [HE2.out]; rfl, HB.out⟩
          · have HE2 : Hid (pageE body notes h = 0) := Lib.hid (by rw [HE.out, HX2.out]; exact if_neg hnx)
            go_wp2_with fail
            go_ret
            exact ⟨by rw [HE2.out]; rfl, HB.out⟩
end Go.Proofs.YtakaielemicpkaaGreatDoor
namespace Go.Proofs.YtakaielemicpkaaGreatDoor
open Go.RowKit
def PE (O : Nat) (a b : Option Nat) (i : Nat) : Prop := O < i ∧ some i ≠ a ∧ some i ≠ b
structure PS (w0 w : World) (ob : Option Nat) (qv : Value) (queue : List LineP) (pv : Value) (pages : List PageP) : Prop where
  bw : Below w0.heap.size w0 w
  q : Que w w0.heap.size 88 ob qv (queue.map (Av.mk : LineP → OldL w0.heap.size))
  pg : OwnP w w0.heap.size 36 pv pages (fun i => w0.heap.size ≤ i ∧ some i ≠ ob)
structure PG (w0 w : World) (O : Nat) (ob : Option Nat) (qv : Value) (queue : List LineP) (pv : Value) (pages : List PageP) (bv : Value) (bl : List LineP) (nv : Value) (nl : List LineP) : Prop where
  bw : Below w0.heap.size w0 w
  q : Que w w0.heap.size 88 ob qv (queue.map (Av.mk : LineP → OldL w0.heap.size))
  pg : OwnP w w0.heap.size 36 pv pages (fun i => (w0.heap.size ≤ i ∧ i < O) ∧ some i ≠ ob)
  o : ABox w O 36 [.int .i64 0, .int .i64 0, .int .i64 0, .int .i64 0, bv, nv]
  oq : some O ≠ ob
  og : w0.heap.size ≤ O
  b : OwnP w (O + 1) 88 bv bl (PE O ob nv.ownBlock)
  n : OwnP w (O + 1) 88 nv nl (PE O ob bv.ownBlock)
section
variable {w0 w w' : World} {O : Nat} {ob : Option Nat} {qv : Value} {queue : List LineP} {pv : Value} {pages : List PageP} {bv nv : Value} {bl nl : List LineP}
theorem PS.to (H : PS w0 w ob qv queue pv pages) (hb : Below w.heap.size w w') : PS w0 w' ob qv queue pv pages :=
  ⟨H.bw.trans (hb.mono H.bw.size), H.q.below hb, H.pg.below hb⟩
theorem PG.to (H : PG w0 w O ob qv queue pv pages bv bl nv nl) (hb : Below w.heap.size w w') : PG w0 w' O ob qv queue pv pages bv bl nv nl :=
  ⟨H.bw.trans (hb.mono H.bw.size), H.q.below hb, H.pg.below hb, H.o.to hb, H.oq, H.og, H.b.below hb, H.n.below hb⟩
theorem PS.start (H : PS w0 w ob qv queue pv pages) (hb : Below w.heap.size w w') (ho : ABox w' w.heap.size 36 [.int .i64 0, .int .i64 0, .int .i64 0, .int .i64 0, .slice none 0 0, .slice none 0 0]) :
    PG w0 w' w.heap.size ob qv queue pv pages (.slice none 0 0) [] (.slice none 0 0) [] :=
  ⟨(H.to hb).bw, (H.to hb).q, (H.pg.mono (fun i hi hl => ⟨⟨hi.1, hl⟩, hi.2⟩)).below hb, ho, fun e => by have := (H.q.lt _ e.symm).2; omega, H.bw.size, OwnP.nil _ _ _ _, OwnP.nil _ _ _ _⟩
theorem PG.note (H : PG w0 w O ob qv queue pv pages bv bl nv nl) {x : LineP} {v' : Value} (hx : Own w' (O + 1) 88 v' (nl.map (Av.mk : LineP → Av LineP (PE O ob bv.ownBlock)) ++ [⟨x⟩])) (hg : w.grownBy w' nv.ownBlock) (hat : v'.ownBlock = nv.ownBlock ∨ v'.ownBlock = some w.heap.size) :
    w'.cell? ⟨O, 5, none⟩ = some nv ∧ (∀ j, w'.frozen? ⟨O, j, none⟩ = false) ∧ PG w0 (w'.setCell ⟨O, 5, none⟩ v') O ob qv queue pv pages bv bl v' (nl ++ [x]) := by
  have hol := H.q.lt
  have hsz := hg.size
  have hOw : O < w.heap.size := H.o.lt
  have hOn : some O ≠ nv.ownBlock := fun e => by have := (H.n.lt _ e.symm).1; omega
  have hqn : ∀ g, ob = some g → some g ≠ nv.ownBlock := fun g e1 e2 => (H.n.at_ g e2.symm).2.1 (by rw [e1])
  have hoO : ABox w' O 36 [.int .i64 0, .int .i64 0, .int .i64 0, .int .i64 0, bv, nv] := (hg.block O hOw hOn).trans H.o
  have hold : Kept (fun b => b < w0.heap.size) w w' := Kept.grown hg (fun i hi e => by have := (H.n.lt _ e.symm).1; have := H.og; omega)
  have hold2 : Kept (fun b => b < w0.heap.size) w' (w'.setCell ⟨O, 5, none⟩ v') := fun i hi _ => heap_set w' O 5 v' (by have := H.og; omega)
  refine ⟨hoO.cell 5 rfl, fun j => hoO.fz j, ?_, ?_, ?_, ?_, H.oq, H.og, ?_, ?_⟩
  · exact (H.bw.grown hg H.bw.size (fun k hk => by have := (H.n.lt _ hk).1; have := H.og; omega)).setCell (p := ⟨O, 5, none⟩) H.og _
  · exact (H.q.keptA hold (fun g hg' hl => hg.block g hl (fun e => hqn g hg' e))).keptA hold2 (fun g hg' _ => heap_set w' O 5 v' (fun e => H.oq (e ▸ hg'.symm)))
  · exact (H.pg.grown hg (fun i hi e => by have := (H.n.lt _ e.symm).1; omega)).set O 5 v' (fun i hi e => by omega)
  · have := hoO.set 5 v'
    simpa using this
  · refine (((H.b.mono (Q := fun i => PE O ob nv.ownBlock i ∧ PE O ob v'.ownBlock i) (fun i hi hl => ⟨hi, hi.1, hi.2.1, fun e => ?_⟩)).grown hg (fun i hi => hi.1.2.2)).set O 5 v' (fun i hi e => by have := hi.1.1; omega)).mono (fun i hi _ => hi.2)
    rcases hat with h | h
    · exact hi.2.2 (by rw [e, h])
    · rw [h] at e; injection e with e; omega
  · exact (H.n.pushed hx (H := w.heap.size) (fun g hgo => by
      rcases hat with h | h
      · exact .inl (h ▸ hgo)
      · rw [h] at hgo; injection hgo with e; exact .inr e.symm) ⟨hOw, fun e => by have := (hol _ e.symm).2; omega, fun e => by have := (H.b.lt _ e.symm).2; omega⟩).set O 5 v' (fun i hi e => by have := hi.1; omega)
theorem PG.body (H : PG w0 w O ob qv queue pv pages bv bl nv nl) {x : LineP} {v' : Value} (hx : Own w' (O + 1) 88 v' (bl.map (Av.mk : LineP → Av LineP (PE O ob nv.ownBlock)) ++ [⟨x⟩])) (hg : w.grownBy w' bv.ownBlock) (hat : v'.ownBlock = bv.ownBlock ∨ v'.ownBlock = some w.heap.size) :
    w'.cell? ⟨O, 4, none⟩ = some bv ∧ (∀ j, w'.frozen? ⟨O, j, none⟩ = false) ∧ PG w0 (w'.setCell ⟨O, 4, none⟩ v') O ob qv queue pv pages v' (bl ++ [x]) nv nl := by
  have hol := H.q.lt
  have hsz := hg.size
  have hOw : O < w.heap.size := H.o.lt
  have hOn : some O ≠ bv.ownBlock := fun e => by have := (H.b.lt _ e.symm).1; omega
  have hqn : ∀ g, ob = some g → some g ≠ bv.ownBlock := fun g e1 e2 => (H.b.at_ g e2.symm).2.1 (by rw [e1])
  have hoO : ABox w' O 36 [.int .i64 0, .int .i64 0, .int .i64 0, .int .i64 0, bv, nv] := (hg.block O hOw hOn).trans H.o
  have hold : Kept (fun b => b < w0.heap.size) w w' := Kept.grown hg (fun i hi e => by have := (H.b.lt _ e.symm).1; have := H.og; omega)
  have hold2 : Kept (fun b => b < w0.heap.size) w' (w'.setCell ⟨O, 4, none⟩ v') := fun i hi _ => heap_set w' O 4 v' (by have := H.og; omega)
  refine ⟨hoO.cell 4 rfl, fun j => hoO.fz j, ?_, ?_, ?_, ?_, H.oq, H.og, ?_, ?_⟩
  · exact (H.bw.grown hg H.bw.size (fun k hk => by have := (H.b.lt _ hk).1; have := H.og; omega)).setCell (p := ⟨O, 4, none⟩) H.og _
  · exact (H.q.keptA hold (fun g hg' hl => hg.block g hl (fun e => hqn g hg' e))).keptA hold2 (fun g hg' _ => heap_set w' O 4 v' (fun e => H.oq (e ▸ hg'.symm)))
  · exact (H.pg.grown hg (fun i hi e => by have := (H.b.lt _ e.symm).1; omega)).set O 4 v' (fun i hi e => by omega)
  · have := hoO.set 4 v'
    simpa using this
  · exact (H.b.pushed hx (H := w.heap.size) (fun g hgo => by
      rcases hat with h | h
      · exact .inl (h ▸ hgo)
      · rw [h] at hgo; injection hgo with e; exact .inr e.symm) ⟨hOw, fun e => by have := (hol _ e.symm).2; omega, fun e => by have := (H.n.lt _ e.symm).2; omega⟩).set O 4 v' (fun i hi e => by have := hi.1; omega)
  · refine (((H.n.mono (Q := fun i => PE O ob bv.ownBlock i ∧ PE O ob v'.ownBlock i) (fun i hi hl => ⟨hi, hi.1, hi.2.1, fun e => ?_⟩)).grown hg (fun i hi => hi.1.2.2)).set O 4 v' (fun i hi e => by have := hi.1.1; omega)).mono (fun i hi _ => hi.2)
    rcases hat with h | h
    · exact hi.2.2 (by rw [e, h])
    · rw [h] at e; injection e with e; omega
theorem PG.que (H : PG w0 w O ob qv queue pv pages bv bl nv nl) {ob' : Option Nat} {qv' : Value} {queue' : List LineP} (hg : w.grownBy w' ob) (hq : Que w' w0.heap.size 88 ob' qv' (queue'.map (Av.mk : LineP → OldL w0.heap.size))) (hob : ob' = ob ∨ ob' = some w.heap.size) :
    PG w0 w' O ob' qv' queue' pv pages bv bl nv nl := by
  have hol := H.q.lt
  have hOw : O < w.heap.size := H.o.lt
  have hn : ∀ i, i < w.heap.size → some i ≠ ob → some i ≠ ob' := fun i hl hi e => by
    rcases hob with h | h
    · exact hi (by rw [e, h])
    · rw [h] at e; injection e with e; omega
  refine ⟨H.bw.grown hg H.bw.size (fun k hk => (hol k hk).1), hq, ?_, (hg.block O hOw H.oq).trans H.o, hn O hOw H.oq, H.og, ?_, ?_⟩
  · exact ((H.pg.mono (Q := fun i => some i ≠ ob ∧ ((w0.heap.size ≤ i ∧ i < O) ∧ some i ≠ ob')) (fun i hi hl => ⟨hi.2, hi.1, hn i hl hi.2⟩)).grown hg (fun i hi => hi.1)).mono (fun i hi _ => hi.2)
  · exact ((H.b.mono (Q := fun i => some i ≠ ob ∧ PE O ob' nv.ownBlock i) (fun i hi hl => ⟨hi.2.1, hi.1, hn i hl hi.2.1, hi.2.2⟩)).grown hg (fun i hi => hi.1)).mono (fun i hi _ => hi.2)
  · exact ((H.n.mono (Q := fun i => some i ≠ ob ∧ PE O ob' bv.ownBlock i) (fun i hi hl => ⟨hi.2.1, hi.1, hn i hl hi.2.1, hi.2.2⟩)).grown hg (fun i hi => hi.1)).mono (fun i hi _ => hi.2)
theorem PG.cut (H : PG w0 w O ob qv queue pv pages bv bl nv nl) {ob' : Option Nat} {qv' : Value} {queue' : List LineP} (hq : Que w w0.heap.size 88 ob' qv' (queue'.map (Av.mk : LineP → OldL w0.heap.size))) (hob : ob' = none ∨ ob' = ob) :
    PG w0 w O ob' qv' queue' pv pages bv bl nv nl := by
  have hn : ∀ i, some i ≠ ob → some i ≠ ob' := fun i hi => by
    rcases hob with rfl | rfl
    · simp
    · exact hi
  exact ⟨H.bw, hq, H.pg.mono (fun i hi _ => ⟨hi.1, hn i hi.2⟩), H.o, hn O H.oq, H.og, H.b.mono (fun i hi _ => ⟨hi.1, hn i hi.2.1, hi.2.2⟩), H.n.mono (fun i hi _ => ⟨hi.1, hn i hi.2.1, hi.2.2⟩)⟩
theorem PG.rep (H : PG w0 w O ob qv queue pv pages bv bl nv nl) (h1 : bl.length < 9223372036854775808) (h2 : nl.length < 9223372036854775808) :
    Rep.R w (fun i => O < i ∧ some i ≠ ob) [.int .i64 0, .int .i64 0, .int .i64 0, .int .i64 0, bv, nv] (⟨0, 0, 0, 0, bl, nl⟩ : PageP) := by
  exact ⟨_, _, rfl, H.b.rep h1 (fun i hi _ => ⟨hi.1, hi.2.1⟩), H.n.rep h2 (fun i hi _ => ⟨hi.1, hi.2.1⟩)⟩
theorem PG.page (H : PG w0 w O ob qv queue pv pages bv bl nv nl) {pv' : Value} {d : PageP} (hg : w.grownBy w' pv.ownBlock) (h2 : Own w' w0.heap.size 36 pv' (pages.map (Av.mk : PageP → Av PageP (fun i => w0.heap.size ≤ i ∧ some i ≠ ob)) ++ [⟨d⟩]))
    (hat : ∀ g, pv'.ownBlock = some g → pv.ownBlock = some g ∨ g = w.heap.size) : PS w0 w' ob qv queue pv' (pages ++ [d]) := by
  have hol := H.q.lt
  have hpl := H.pg.lt
  have hold : Kept (fun b => b < w0.heap.size) w w' := Kept.grown hg (fun i hi e => by have := (hpl i e.symm).1; omega)
  have hpg : OwnP w w0.heap.size 36 pv pages (fun i => w0.heap.size ≤ i ∧ some i ≠ ob) := H.pg.mono (fun i hi _ => ⟨hi.1.1, hi.2⟩)
  exact ⟨H.bw.grown hg H.bw.size (fun k hk => (hpl k hk).1), H.q.keptA hold (fun g hg' hl => hg.block g hl (fun e => (H.pg.at_ g e.symm).2 (by rw [hg']))), hpg.pushed h2 hat ⟨H.bw.size, fun e => by have := (hol _ e.symm).2; omega⟩⟩
end
theorem moved {h lines shown s q : Nat} (h1 : shown ≤ s) (h2 : s ≤ q) (h3 : s = shown ∨ lines + 1 + s + 1 ≤ h) (h4 : ¬ (0 < q - s ∧ lines + 1 + s + 2 ≤ h)) : s = shownP h lines shown q := by
  unfold shownP
  split <;> omega
end Go.Proofs.YtakaielemicpkaaGreatDoor
