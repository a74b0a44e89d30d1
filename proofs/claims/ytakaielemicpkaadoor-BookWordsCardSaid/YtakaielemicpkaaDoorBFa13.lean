/- The chapter's example: lives is true. No condition but what the tables hold.
BookFresh, walked: it answers true. No condition but what the tables hold.
The pages of a book, version by version: what each page is but for its label. No program is in sight. -/
import Derived.Test.YtakaielemicpkaaDoorBFa12
namespace Go.Proofs.YtakaielemicpkaaDoor
open Go.RowKit
/-- A book's variable. -/
structure LB (w : World) (b : Nat) (A : Option Addr) (c : Nat) (l : List SectP) : Prop where
  bx : ABox w b 25 [.int .i64 500, .int .i64 4, .slice A l.length c]
  sm : SM w A c l
theorem LB.to {w w' : World} {b c : Nat} {A : Option Addr} {l : List SectP} (h : LB w b A c l) (hb : Below w.heap.size w w') : LB w' b A c l := ⟨h.bx.to hb, h.sm.to hb⟩
theorem LB.fresh {w : World} {A : Option Addr} {c : Nat} {l : List SectP} (h : SM w A c l) : LB (w.alloc (.cells #[.int .i64 500, .int .i64 4, .slice A l.length c] 25)) w.heap.size A c l ∧ Below w.heap.size w (w.alloc (.cells #[.int .i64 500, .int .i64 4, .slice A l.length c] 25)) :=
  have hb : Below w.heap.size w (w.alloc (.cells #[.int .i64 500, .int .i64 4, .slice A l.length c] 25)) := (Below.refl _ _).alloc (Nat.le_refl _) _
  ⟨⟨heap_alloc_new w _, h.to hb⟩, hb⟩
def bkSt (w : World) (b : Nat) (A : Option Addr) (c n : Nat) : World := ((w.setCell ⟨b, 0, none⟩ (.int .i64 500)).setCell ⟨b, 1, none⟩ (.int .i64 4)).setCell ⟨b, 2, none⟩ (.slice A n c)
theorem LB.into {w w1 : World} {A : Option Addr} {c : Nat} {l : List SectP} {b : Nat} (hT : Tabs w) (h1 : Below w.heap.size w w1) (hx : ABox w1 b 25 [.int .i64 0, .int .i64 0, .slice none 0 0]) (hb : w.heap.size ≤ b) (ha : Sl w1 (fun i => i ≠ b) A c l) : LB (bkSt w1 b A c l.length) b A c l ∧ Below w.heap.size w (bkSt w1 b A c l.length) := by
  have hB : Below w.heap.size w (bkSt w1 b A c l.length) := below3 h1 hb _ _ _
  refine ⟨⟨abox3 hx _ _ _, hT.to hB, ?_⟩, hB⟩
  refine (ha.keep (fun i hi _ => ?_) (by unfold bkSt; simp)).mono fun i _ h => h
  exact (heap_set _ _ _ _ hi).trans ((heap_set _ _ _ _ hi).trans (heap_set _ _ _ _ hi))
theorem region_cut {P : Program} {c : Code} {a : Act} {w : World} {Q : Exit → Act → World → Prop} (R : Act → Act → World → Prop) (h1 : c.wp P (fun e a' w' => e = .normal ∧ R a a' w') a w) (h2 : ∀ a' w', R a a' w' → Q .normal a' w') : c.wp P Q a w :=
  wp_mono h1 (fun e a' w' h => by obtain ⟨rfl, h⟩ := h; exact h2 a' w' h)
set_option maxRecDepth 100000 in
set_option maxHeartbeats 16000000 in
theorem lives_any (W1 : World) (hT : Tabs W1) : Calls Tryd.prog 12 #[] W1 fun e w' => e = .returned (.bool true) ∧ Below W1.heap.size W1 w' := by
  have HB : Hid (Below W1.heap.size W1 W1) := Lib.hid (Below.refl _ _)
  have HW5 : Hid (∀ w, Calls Tryd.prog 32 #[.int .i64 5] w fun e w' => ∃ A c, e = .returned (.agg #[.slice A 1 c, .slice none 0 0]) ∧ Sl w' (fun b => w.heap.size ≤ b ∧ b < w'.heap.size) A c [List.replicate 5 wideW] ∧ Below w.heap.size w w') := Lib.hid (fun w => wide_any 5 (by decide) w)
  have HW4 : Hid (∀ w, Calls Tryd.prog 32 #[.int .i64 4] w fun e w' => ∃ A c, e = .returned (.agg #[.slice A 1 c, .slice none 0 0]) ∧ Sl w' (fun b => w.heap.size ≤ b ∧ b < w'.heap.size) A c [List.replicate 4 wideW] ∧ Below w.heap.size w w') := Lib.hid (fun w => wide_any 4 (by decide) w)
  have HW9 : Hid (∀ w, Calls Tryd.prog 32 #[.int .i64 9] w fun e w' => ∃ A c, e = .returned (.agg #[.slice A 1 c, .slice none 0 0]) ∧ Sl w' (fun b => w.heap.size ≤ b ∧ b < w'.heap.size) A c [List.replicate 9 wideW] ∧ Below w.heap.size w w') := Lib.hid (fun w => wide_any 9 (by decide) w)
  have HW1 : Hid (∀ w, Calls Tryd.prog 32 #[.int .i64 1] w fun e w' => ∃ A c, e = .returned (.agg #[.slice A 1 c, .slice none 0 0]) ∧ Sl w' (fun b => w.heap.size ≤ b ∧ b < w'.heap.size) A c [List.replicate 1 wideW] ∧ Below w.heap.size w w') := Lib.hid (fun w => wide_any 1 (by decide) w)
  have HT := Lib.hid hT
  clear hT
  go_enter Tryd.func12, Tryd.ntmps12
  go_upto_region 2 with (first
    | (go_at_call 32; refine (HW5.out _).mono ?_; rintro e V1 ⟨At, ct, rfl, ht, hb⟩; have HA := Lib.hid (ex_add (A := none) (c := 0) (l2 := exA) 5 (by decide) 0 3 ex_oks.1.1 ex_oks.1.2.1 rfl ⟨HT.out.to hb, Sl.nil _ _ _ _ (by simp [maxLen])⟩ (ht.mono fun i hi _ => hi.2) ex_find.1.1 (by decide) (by decide) ex_wrong.1.1 (by decide)); have HV1 := Lib.hid hb; clear ht hb)
    | (go_at_call 16; refine HA.out.mono ?_; rintro e V2 ⟨Ab, cb, rfl, hm, -, hb⟩; have HM2 := Lib.hid hm; have HV2 := Lib.hid (HV1.out.trans (hb.mono HV1.out.size)); clear hm hb HA)
    | fail)
  obtain ⟨W2, hW⟩ : ∃ W2, V2.alloc (.cells #[.int .i64 500, .int .i64 4, .slice Ab exA.length cb] 25) = W2 := ⟨_, rfl⟩
  have hl := LB.fresh HM2.out
  obtain ⟨b1, hbk⟩ : ∃ b1, V2.heap.size = b1 := ⟨_, rfl⟩
  obtain ⟨A1, hAk⟩ : ∃ A1, Ab = A1 := ⟨_, rfl⟩
  obtain ⟨c1, hck⟩ : ∃ c1, cb = c1 := ⟨_, rfl⟩
  rw [hW] at hl ⊢
  rw [hbk, hAk, hck]
  have hb : Below W1.heap.size W1 W2 := HV2.out.trans (hl.2.mono HV2.out.size)
  have HL1 : Hid (LB W2 b1 A1 c1 exA) := Lib.hid (by rw [← hbk, ← hAk, ← hck]; exact hl.1)
  have HB := Lib.hid (HB.out.trans (hb.mono HB.out.size))
  clear hl hb hW hbk hAk hck
  refine region_cut (fun a a' w' => ∃ Ab2 cb2 At ct b2, a' = ((((((((a.put (some 31) (.agg #[.int .i64 500, .int .i64 4, .slice A1 exA.length c1])).put (some 32) (.agg #[.slice At 1 ct, .slice none 0 0])).put (some 33) (.tuple #[.agg #[.int .i64 500, .int .i64 4, .slice Ab2 exB.length cb2], .int .i64 0])).put (some 30) (.tuple #[.agg #[.int .i64 500, .int .i64 4, .slice Ab2 exB.length cb2], .int .i64 0])).put (some 34) (.agg #[.int .i64 500, .int .i64 4, .slice Ab2 exB.length cb2])).put (some 35) (.int .i64 0)).put (some 3) (.pointer (some ⟨b2, 0, none⟩))).put (some 4) (.int .i64 0)) ∧ LB w' b2 Ab2 cb2 exB ∧ Below W2.heap.size W2 w') ?_ ?_
  · refine wp_region_D (fun w' => w'.cell? ⟨b1, 0, none⟩ = some (.int .i64 500) ∧ w'.cell? ⟨b1, 1, none⟩ = some (.int .i64 4) ∧ w'.cell? ⟨b1, 2, none⟩ = some (.slice A1 exA.length c1)) (fun i => decide (i < 4) || decide (i = 6)) (by kernel_rfl) ?_
    obtain ⟨V0, hV0⟩ : ∃ V0, W2.drew = V0 := ⟨_, rfl⟩
    have hbd : Below W2.heap.size W2 V0 := by rw [← hV0]; exact (Below.refl _ _).drew
    have HB0 := Lib.hid hbd
    have HY0 := Lib.hid (HL1.out.to hbd)
    rw [hV0]
    clear hV0 hbd
    have hS0 : V0.cell? ⟨b1, 0, none⟩ = some (.int .i64 500) ∧ V0.cell? ⟨b1, 1, none⟩ = some (.int .i64 4) ∧ V0.cell? ⟨b1, 2, none⟩ = some (.slice A1 exA.length c1) := ⟨HY0.out.bx.cell 0 rfl, HY0.out.bx.cell 1 rfl, HY0.out.bx.cell 2 rfl⟩
    have HS0 := Lib.hid hS0
    refine wpAnyE_take (i := 0) (oi := ⟨some 31, Op.load 25 (Operand.tmp 1), 25, _, _, _⟩) (v := ?_) rfl (by kernel_rfl) (by kernel_rfl) (by kernel_rfl) (by kernel_rfl) (by kernel_rfl) (fun _ _ _ h => nomatch h.1) (by rfl) ?hykr2_1 (hS0) ?hrkr2_1
    case hykr2_1 => (intro wS hSw; (have hq0 := hSw.1); (have hq1 := hSw.2.1); (have hq2 := hSw.2.2); clear hSw; go_simp; (try with_reducible rfl))
    all_goals try simp only [Act.put, List.setIfInBounds_toArray, List.set_cons_zero, List.set_cons_succ]
    refine wpAnyD_two (i := 1) (j := 6) (oi := ⟨some 32, Op.call { callee := Callee.value (Operand.func 32), args := #[Operand.const (Value.int IntKind.i64 4)], argTypes := #[3] }, 35, _, _, _⟩) (oj := ⟨some 3, Op.alloc 25, 0, _, _, _⟩) (by kernel_rfl) rfl rfl (by rfl) (by rfl) (fun K hK => ?_) (fun K hK => ?_)
    · go_simp
      go_at_call 32
      refine (HW4.out V0).mono ?_
      rintro e V1 ⟨At, ct, rfl, ht, hb⟩
      go_simp
      have HB1 := Lib.hid (HB0.out.trans (hb.mono HB0.out.size))
      have HY1 := Lib.hid (HY0.out.to hb)
      have hS1 : V1.cell? ⟨b1, 0, none⟩ = some (.int .i64 500) ∧ V1.cell? ⟨b1, 1, none⟩ = some (.int .i64 4) ∧ V1.cell? ⟨b1, 2, none⟩ = some (.slice A1 exA.length c1) := ⟨HY1.out.bx.cell 0 rfl, HY1.out.bx.cell 1 rfl, HY1.out.bx.cell 2 rfl⟩
      have HT1 := Lib.hid (ht.mono (S' := fun b => b < V1.heap.size) fun i hi _ => hi.2)
      clear ht hb
      refine hK _ _ (fun _ => ?_) ?_
      · exact hS1
      clear hK K
      try simp only [Act.put, List.setIfInBounds_toArray, List.set_cons_zero, List.set_cons_succ]
      refine wpAnyD_two (i := 2) (j := 6) (oi := ⟨some 33, Op.call { callee := Callee.value (Operand.func 16), args := #[Operand.tmp 31, Operand.const (Value.int IntKind.i64 1), Operand.const (Value.int IntKind.i64 4), Operand.tmp 32], argTypes := #[25, 3, 3, 35] }, 52, _, _, _⟩) (oj := ⟨some 3, Op.alloc 25, 0, _, _, _⟩) (by kernel_rfl) rfl rfl (by rfl) (by rfl) (fun K hK => ?_) (fun K hK => ?_)
      · go_simp
        go_at_call 16
        refine (ex_add (l2 := exB) 4 (by decide) 1 4 ex_oks.1.2.1 ex_oks.1.2.2.1 rfl HY1.out.sm HT1.out ex_find.1.2.1 (by decide) (by decide) ex_wrong.1.2 (by decide)).mono ?_
        rintro e V2 ⟨Ab, cb, rfl, hm, hn, hb⟩
        go_simp
        have HB2 := Lib.hid (HB1.out.trans (hb.mono HB1.out.size))
        have HY2 := Lib.hid (HY1.out.to hb)
        have hS2 : V2.cell? ⟨b1, 0, none⟩ = some (.int .i64 500) ∧ V2.cell? ⟨b1, 1, none⟩ = some (.int .i64 4) ∧ V2.cell? ⟨b1, 2, none⟩ = some (.slice A1 exA.length c1) := ⟨HY2.out.bx.cell 0 rfl, HY2.out.bx.cell 1 rfl, HY2.out.bx.cell 2 rfl⟩
        have HT2 := Lib.hid (HT1.out.to hb)
        have HR2 := Lib.hid hm
        clear hm hn hb
        refine hK _ _ (fun _ => ?_) ?_
        · exact hS2
        clear hK K
        try simp only [Act.put, List.setIfInBounds_toArray, List.set_cons_zero, List.set_cons_succ]
        refine wpAnyE_take (i := 3) (oi := ⟨some 30, Op.move (Operand.tmp 33), 52, _, _, _⟩) (v := ?_) rfl (by kernel_rfl) (by kernel_rfl) (by kernel_rfl) (by kernel_rfl) (by kernel_rfl) (fun _ _ _ h => nomatch h.1) (by rfl) ?hykr2_2 (hS2) ?hrkr2_2
        case hykr2_2 => (intro wS hSw; clear hSw; go_simp; (try with_reducible rfl))
        all_goals try simp only [Act.put, List.setIfInBounds_toArray, List.set_cons_zero, List.set_cons_succ]
        refine wpAnyF_take (i := 4) (oi := ⟨some 34, Op.extract (Operand.tmp 30) 0, 25, _, _, _⟩) (v := ?_) rfl (by rfl) (by kernel_rfl) (by kernel_rfl) (by kernel_rfl) (fun _ _ _ h => nomatch h.1) (by rfl) ?hykr2_3 ?hrkr2_3
        case hykr2_3 => (intro wS; go_simp; (try with_reducible rfl))
        all_goals try simp only [Act.put, List.setIfInBounds_toArray, List.set_cons_zero, List.set_cons_succ]
        refine wpAnyF_take (i := 5) (oi := ⟨some 35, Op.extract (Operand.tmp 30) 1, 47, _, _, _⟩) (v := ?_) rfl (by rfl) (by kernel_rfl) (by kernel_rfl) (by kernel_rfl) (fun _ _ _ h => nomatch h.1) (by rfl) ?hykr2_4 ?hrkr2_4
        case hykr2_4 => (intro wS; go_simp; (try with_reducible rfl))
        all_goals try simp only [Act.put, List.setIfInBounds_toArray, List.set_cons_zero, List.set_cons_succ]
        refine wpAnyD_one (i := 6) (oi := ⟨some 3, Op.alloc 25, 0, _, _, _⟩) rfl (by kernel_rfl) (by rfl) (fun K hK => ?_)
        go_simp
        obtain ⟨V3, hV⟩ : ∃ V3, (V2.alloc (.cells #[.int .i64 0, .int .i64 0, .slice none 0 0] 25)) = V3 := ⟨_, rfl⟩
        have hb : Below V2.heap.size V2 V3 := by rw [← hV]; exact (Below.refl _ _).alloc (Nat.le_refl _) _
        have hx : ABox V3 V2.heap.size 25 [.int .i64 0, .int .i64 0, .slice none 0 0] := by rw [← hV]; exact heap_alloc_new V2 _
        obtain ⟨bn, hbn⟩ : ∃ bn, V2.heap.size = bn := ⟨_, rfl⟩
        have HBN : Hid (W2.heap.size ≤ bn) := Lib.hid (by rw [← hbn]; exact HB2.out.size)
        rw [hV, hbn]
        rw [hbn] at hx
        have HN := Lib.hid ((HR2.out.s.keep (Kept.all hb) hb.size).mono (S' := fun i => i ≠ bn) fun i (hi : i < V2.heap.size) _ => by omega)
        have HB3 := Lib.hid (HB2.out.trans (hb.mono HB2.out.size))
        have HY3 := Lib.hid (HY2.out.to hb)
        have hS3 : V3.cell? ⟨b1, 0, none⟩ = some (.int .i64 500) ∧ V3.cell? ⟨b1, 1, none⟩ = some (.int .i64 4) ∧ V3.cell? ⟨b1, 2, none⟩ = some (.slice A1 exA.length c1) := ⟨HY3.out.bx.cell 0 rfl, HY3.out.bx.cell 1 rfl, HY3.out.bx.cell 2 rfl⟩
        have HT3 := Lib.hid (HT2.out.to hb)
        have HR3 := Lib.hid (HR2.out.to hb)
        have HX3 := Lib.hid hx
        clear hx hb hV hbn
        refine hK _ _ (fun _ => ?_) ?_
        · exact hS3
        clear hK K
        try simp only [Act.put, List.setIfInBounds_toArray, List.set_cons_zero, List.set_cons_succ]
        refine wpAnyD_one (i := 7) (oi := ⟨none, Op.store 25 (Operand.tmp 3) (Operand.tmp 34), 0, _, _, _⟩) rfl (by kernel_rfl) (by rfl) (fun K hK => ?_)
        have z0 := HX3.out.cell 0 rfl
        have z1 := HX3.out.cell 1 rfl
        have z2 := HX3.out.cell 2 rfl
        have y0 := HX3.out.fz 0
        have y1 := HX3.out.fz 1
        have y2 := HX3.out.fz 2
        go_simp
        clear z0 z1 z2 y0 y1 y2
        refine hK _ _ (fun h => absurd h (by decide)) ?_
        clear hK K
        try simp only [Act.put]
        refine wpAnyD_one (i := 8) (oi := ⟨some 4, Op.assign (Operand.tmp 35), 47, _, _, _⟩) rfl (by kernel_rfl) (by rfl) (fun K hK => ?_)
        go_simp
        refine hK _ _ (fun h => absurd h (by decide)) ?_
        clear hK K
        try simp only [Act.put, List.setIfInBounds_toArray, List.set_cons_zero, List.set_cons_succ]
        refine wpAnyD_done (by kernel_rfl) ?_ _
        refine ⟨rfl, Ab, cb, At, ct, bn, rfl, ?_⟩
        exact LB.into HL1.out.sm.t HB3.out HX3.out HBN.out HN.out
      · go_simp
        obtain ⟨V2, hV⟩ : ∃ V2, (V1.alloc (.cells #[.int .i64 0, .int .i64 0, .slice none 0 0] 25)) = V2 := ⟨_, rfl⟩
        have hb : Below V1.heap.size V1 V2 := by rw [← hV]; exact (Below.refl _ _).alloc (Nat.le_refl _) _
        have hx : ABox V2 V1.heap.size 25 [.int .i64 0, .int .i64 0, .slice none 0 0] := by rw [← hV]; exact heap_alloc_new V1 _
        obtain ⟨bn, hbn⟩ : ∃ bn, V1.heap.size = bn := ⟨_, rfl⟩
        have HBN : Hid (W2.heap.size ≤ bn) := Lib.hid (by rw [← hbn]; exact HB1.out.size)
        rw [hV, hbn]
        rw [hbn] at hx
        have HB2 := Lib.hid (HB1.out.trans (hb.mono HB1.out.size))
        have HY2 := Lib.hid (HY1.out.to hb)
        have hS2 : V2.cell? ⟨b1, 0, none⟩ = some (.int .i64 500) ∧ V2.cell? ⟨b1, 1, none⟩ = some (.int .i64 4) ∧ V2.cell? ⟨b1, 2, none⟩ = some (.slice A1 exA.length c1) := ⟨HY2.out.bx.cell 0 rfl, HY2.out.bx.cell 1 rfl, HY2.out.bx.cell 2 rfl⟩
        have HT2 := Lib.hid (HT1.out.to hb)
        have HX2 := Lib.hid hx
        clear hx hb hV hbn
        refine hK _ _ (fun _ => ?_) ?_
        · exact hS2
        clear hK K
        try simp only [Act.put, List.setIfInBounds_toArray, List.set_cons_zero, List.set_cons_succ]
        refine wpAnyD_one (i := 2) (oi := ⟨some 33, Op.call { callee := Callee.value (Operand.func 16), args := #[Operand.tmp 31, Operand.const (Value.int IntKind.i64 1), Operand.const (Value.int IntKind.i64 4), Operand.tmp 32], argTypes := #[25, 3, 3, 35] }, 52, _, _, _⟩) rfl (by kernel_rfl) (by rfl) (fun K hK => ?_)
        go_simp
        go_at_call 16
        refine (ex_add (l2 := exB) 4 (by decide) 1 4 ex_oks.1.2.1 ex_oks.1.2.2.1 rfl HY2.out.sm HT2.out ex_find.1.2.1 (by decide) (by decide) ex_wrong.1.2 (by decide)).mono ?_
        rintro e V3 ⟨Ab, cb, rfl, hm, hn, hb⟩
        go_simp
        have HB3 := Lib.hid (HB2.out.trans (hb.mono HB2.out.size))
        have HY3 := Lib.hid (HY2.out.to hb)
        have hS3 : V3.cell? ⟨b1, 0, none⟩ = some (.int .i64 500) ∧ V3.cell? ⟨b1, 1, none⟩ = some (.int .i64 4) ∧ V3.cell? ⟨b1, 2, none⟩ = some (.slice A1 exA.length c1) := ⟨HY3.out.bx.cell 0 rfl, HY3.out.bx.cell 1 rfl, HY3.out.bx.cell 2 rfl⟩
        have HT3 := Lib.hid (HT2.out.to hb)
        have HX3 := Lib.hid (HX2.out.to hb)
        have HR3 := Lib.hid hm
        have HN := Lib.hid (hn.mono (S' := fun i => i ≠ bn) fun i (hi : V2.heap.size ≤ i) _ => by have := HX2.out.lt; omega)
        clear hm hn hb
        refine hK _ _ (fun _ => ?_) ?_
        · exact hS3
        clear hK K
        try simp only [Act.put, List.setIfInBounds_toArray, List.set_cons_zero, List.set_cons_succ]
        refine wpAnyE_take (i := 3) (oi := ⟨some 30, Op.move (Operand.tmp 33), 52, _, _, _⟩) (v := ?_) rfl (by kernel_rfl) (by kernel_rfl) (by kernel_rfl) (by kernel_rfl) (by kernel_rfl) (fun _ _ _ h => nomatch h.1) (by rfl) ?hykr2_5 (hS3) ?hrkr2_5
        case hykr2_5 => (intro wS hSw; clear hSw; go_simp; (try with_reducible rfl))
        all_goals try simp only [Act.put, List.setIfInBounds_toArray, List.set_cons_zero, List.set_cons_succ]
        refine wpAnyF_take (i := 4) (oi := ⟨some 34, Op.extract (Operand.tmp 30) 0, 25, _, _, _⟩) (v := ?_) rfl (by rfl) (by kernel_rfl) (by kernel_rfl) (by kernel_rfl) (fun _ _ _ h => nomatch h.1) (by rfl) ?hykr2_6 ?hrkr2_6
        case hykr2_6 => (intro wS; go_simp; (try with_reducible rfl))
        all_goals try simp only [Act.put, List.setIfInBounds_toArray, List.set_cons_zero, List.set_cons_succ]
        refine wpAnyF_take (i := 5) (oi := ⟨some 35, Op.extract (Operand.tmp 30) 1, 47, _, _, _⟩) (v := ?_) rfl (by rfl) (by kernel_rfl) (by kernel_rfl) (by kernel_rfl) (fun _ _ _ h => nomatch h.1) (by rfl) ?hykr2_7 ?hrkr2_7
        case hykr2_7 => (intro wS; go_simp; (try with_reducible rfl))
        all_goals try simp only [Act.put, List.setIfInBounds_toArray, List.set_cons_zero, List.set_cons_succ]
        refine wpAnyD_one (i := 7) (oi := ⟨none, Op.store 25 (Operand.tmp 3) (Operand.tmp 34), 0, _, _, _⟩) rfl (by kernel_rfl) (by rfl) (fun K hK => ?_)
        have z0 := HX3.out.cell 0 rfl
        have z1 := HX3.out.cell 1 rfl
        have z2 := HX3.out.cell 2 rfl
        have y0 := HX3.out.fz 0
        have y1 := HX3.out.fz 1
        have y2 := HX3.out.fz 2
        go_simp
        clear z0 z1 z2 y0 y1 y2
        refine hK _ _ (fun h => absurd h (by decide)) ?_
        clear hK K
        try simp only [Act.put]
        refine wpAnyD_one (i := 8) (oi := ⟨some 4, Op.assign (Operand.tmp 35), 47, _, _, _⟩) rfl (by kernel_rfl) (by rfl) (fun K hK => ?_)
        go_simp
        refine hK _ _ (fun h => absurd h (by decide)) ?_
        clear hK K
        try simp only [Act.put, List.setIfInBounds_toArray, List.set_cons_zero, List.set_cons_succ]
        refine wpAnyD_done (by kernel_rfl) ?_ _
        refine ⟨rfl, Ab, cb, At, ct, bn, rfl, ?_⟩
        exact LB.into HL1.out.sm.t HB3.out HX3.out HBN.out HN.out
    · go_simp
      obtain ⟨V1, hV⟩ : ∃ V1, (V0.alloc (.cells #[.int .i64 0, .int .i64 0, .slice none 0 0] 25)) = V1 := ⟨_, rfl⟩
      have hb : Below V0.heap.size V0 V1 := by rw [← hV]; exact (Below.refl _ _).alloc (Nat.le_refl _) _
      have hx : ABox V1 V0.heap.size 25 [.int .i64 0, .int .i64 0, .slice none 0 0] := by rw [← hV]; exact heap_alloc_new V0 _
      obtain ⟨bn, hbn⟩ : ∃ bn, V0.heap.size = bn := ⟨_, rfl⟩
      have HBN : Hid (W2.heap.size ≤ bn) := Lib.hid (by rw [← hbn]; exact HB0.out.size)
      rw [hV, hbn]
      rw [hbn] at hx
      have HB1 := Lib.hid (HB0.out.trans (hb.mono HB0.out.size))
      have HY1 := Lib.hid (HY0.out.to hb)
      have hS1 : V1.cell? ⟨b1, 0, none⟩ = some (.int .i64 500) ∧ V1.cell? ⟨b1, 1, none⟩ = some (.int .i64 4) ∧ V1.cell? ⟨b1, 2, none⟩ = some (.slice A1 exA.length c1) := ⟨HY1.out.bx.cell 0 rfl, HY1.out.bx.cell 1 rfl, HY1.out.bx.cell 2 rfl⟩
      have HX1 := Lib.hid hx
      clear hx hb hV hbn
      refine hK _ _ (fun _ => ?_) ?_
      · exact hS1
      clear hK K
      try simp only [Act.put, List.setIfInBounds_toArray, List.set_cons_zero, List.set_cons_succ]
      refine wpAnyD_one (i := 1) (oi := ⟨some 32, Op.call { callee := Callee.value (Operand.func 32), args := #[Operand.const (Value.int IntKind.i64 4)], argTypes := #[3] }, 35, _, _, _⟩) rfl (by kernel_rfl) (by rfl) (fun K hK => ?_)
      go_simp
      go_at_call 32
      refine (HW4.out V1).mono ?_
      rintro e V2 ⟨At, ct, rfl, ht, hb⟩
      go_simp
      have HB2 := Lib.hid (HB1.out.trans (hb.mono HB1.out.size))
      have HY2 := Lib.hid (HY1.out.to hb)
      have hS2 : V2.cell? ⟨b1, 0, none⟩ = some (.int .i64 500) ∧ V2.cell? ⟨b1, 1, none⟩ = some (.int .i64 4) ∧ V2.cell? ⟨b1, 2, none⟩ = some (.slice A1 exA.length c1) := ⟨HY2.out.bx.cell 0 rfl, HY2.out.bx.cell 1 rfl, HY2.out.bx.cell 2 rfl⟩
      have HX2 := Lib.hid (HX1.out.to hb)
      have HT2 := Lib.hid (ht.mono (S' := fun b => b < V2.heap.size) fun i hi _ => hi.2)
      clear ht hb
      refine hK _ _ (fun _ => ?_) ?_
      · exact hS2
      clear hK K
      try simp only [Act.put, List.setIfInBounds_toArray, List.set_cons_zero, List.set_cons_succ]
      refine wpAnyD_one (i := 2) (oi := ⟨some 33, Op.call { callee := Callee.value (Operand.func 16), args := #[Operand.tmp 31, Operand.const (Value.int IntKind.i64 1), Operand.const (Value.int IntKind.i64 4), Operand.tmp 32], argTypes := #[25, 3, 3, 35] }, 52, _, _, _⟩) rfl (by kernel_rfl) (by rfl) (fun K hK => ?_)
      go_simp
      go_at_call 16
      refine (ex_add (l2 := exB) 4 (by decide) 1 4 ex_oks.1.2.1 ex_oks.1.2.2.1 rfl HY2.out.sm HT2.out ex_find.1.2.1 (by decide) (by decide) ex_wrong.1.2 (by decide)).mono ?_
      rintro e V3 ⟨Ab, cb, rfl, hm, hn, hb⟩
      go_simp
      have HB3 := Lib.hid (HB2.out.trans (hb.mono HB2.out.size))
      have HY3 := Lib.hid (HY2.out.to hb)
      have hS3 : V3.cell? ⟨b1, 0, none⟩ = some (.int .i64 500) ∧ V3.cell? ⟨b1, 1, none⟩ = some (.int .i64 4) ∧ V3.cell? ⟨b1, 2, none⟩ = some (.slice A1 exA.length c1) := ⟨HY3.out.bx.cell 0 rfl, HY3.out.bx.cell 1 rfl, HY3.out.bx.cell 2 rfl⟩
      have HT3 := Lib.hid (HT2.out.to hb)
      have HX3 := Lib.hid (HX2.out.to hb)
      have HR3 := Lib.hid hm
      have HN := Lib.hid (hn.mono (S' := fun i => i ≠ bn) fun i (hi : V2.heap.size ≤ i) _ => by have := HX2.out.lt; omega)
      clear hm hn hb
      refine hK _ _ (fun _ => ?_) ?_
      · exact hS3
      clear hK K
      try simp only [Act.put, List.setIfInBounds_toArray, List.set_cons_zero, List.set_cons_succ]
      refine wpAnyE_take (i := 3) (oi := ⟨some 30, Op.move (Operand.tmp 33), 52, _, _, _⟩) (v := ?_) rfl (by kernel_rfl) (by kernel_rfl) (by kernel_rfl) (by kernel_rfl) (by kernel_rfl) (fun _ _ _ h => nomatch h.1) (by rfl) ?hykr2_8 (hS3) ?hrkr2_8
      case hykr2_8 => (intro wS hSw; clear hSw; go_simp; (try with_reducible rfl))
      all_goals try simp only [Act.put, List.setIfInBounds_toArray, List.set_cons_zero, List.set_cons_succ]
      refine wpAnyF_take (i := 4) (oi := ⟨some 34, Op.extract (Operand.tmp 30) 0, 25, _, _, _⟩) (v := ?_) rfl (by rfl) (by kernel_rfl) (by kernel_rfl) (by kernel_rfl) (fun _ _ _ h => nomatch h.1) (by rfl) ?hykr2_9 ?hrkr2_9
      case hykr2_9 => (intro wS; go_simp; (try with_reducible rfl))
      all_goals try simp only [Act.put, List.setIfInBounds_toArray, List.set_cons_zero, List.set_cons_succ]
      refine wpAnyF_take (i := 5) (oi := ⟨some 35, Op.extract (Operand.tmp 30) 1, 47, _, _, _⟩) (v := ?_) rfl (by rfl) (by kernel_rfl) (by kernel_rfl) (by kernel_rfl) (fun _ _ _ h => nomatch h.1) (by rfl) ?hykr2_10 ?hrkr2_10
      case hykr2_10 => (intro wS; go_simp; (try with_reducible rfl))
      all_goals try simp only [Act.put, List.setIfInBounds_toArray, List.set_cons_zero, List.set_cons_succ]
      refine wpAnyD_one (i := 7) (oi := ⟨none, Op.store 25 (Operand.tmp 3) (Operand.tmp 34), 0, _, _, _⟩) rfl (by kernel_rfl) (by rfl) (fun K hK => ?_)
      have z0 := HX3.out.cell 0 rfl
      have z1 := HX3.out.cell 1 rfl
      have z2 := HX3.out.cell 2 rfl
      have y0 := HX3.out.fz 0
      have y1 := HX3.out.fz 1
      have y2 := HX3.out.fz 2
      go_simp
      clear z0 z1 z2 y0 y1 y2
      refine hK _ _ (fun h => absurd h (by decide)) ?_
      clear hK K
      try simp only [Act.put]
      refine wpAnyD_one (i := 8) (oi := ⟨some 4, Op.assign (Operand.tmp 35), 47, _, _, _⟩) rfl (by kernel_rfl) (by rfl) (fun K hK => ?_)
      go_simp
      refine hK _ _ (fun h => absurd h (by decide)) ?_
      clear hK K
      try simp only [Act.put, List.setIfInBounds_toArray, List.set_cons_zero, List.set_cons_succ]
      refine wpAnyD_done (by kernel_rfl) ?_ _
      refine ⟨rfl, Ab, cb, At, ct, bn, rfl, ?_⟩
      exact LB.into HL1.out.sm.t HB3.out HX3.out HBN.out HN.out
  rintro _ W3 ⟨A2, c2, At, ct, b2, rfl, hl, hb⟩
  have HL2 := Lib.hid hl
  simp only [Act.put, List.setIfInBounds_toArray, List.set_cons_zero, List.set_cons_succ]
  have HL1 := Lib.hid (HL1.out.to hb)
  have HB := Lib.hid (HB.out.trans (hb.mono HB.out.size))
  clear hl hb
  have q0 := HL2.out.bx.cell 0 rfl
  have q1 := HL2.out.bx.cell 1 rfl
  have q2 := HL2.out.bx.cell 2 rfl
  go_upto_region 4 with (first
    | (go_at_call 33; refine (ex_freeze (l2 := exF) ex_oks.1.2.2.1 rfl HL2.out.sm).mono ?_; rintro e V1 ⟨Af, cf, rfl, hm, -, hb⟩; have HM1 := Lib.hid hm; have HV1 := Lib.hid hb; clear hm hb q0 q1 q2)
    | (go_at_call 32; refine (HW9.out _).mono ?_; rintro e V2 ⟨At, ct, rfl, ht, hb⟩; have HC := Lib.hid (ex_correct (l2 := exC) 9 (by decide) 0 7 0 (frz ⟨0, false, [3], [wideT 5]⟩) ex_oks.1.2.2.2 ex_oks.2.1.1 rfl (HM1.out.to hb) (ht.mono fun i hi _ => hi.2) ex_find.1.2.2.1 (by decide) rfl (by decide) (by decide) ex_wrong.2.1 (by decide)); have HV2 := Lib.hid (HV1.out.trans (hb.mono HV1.out.size)); clear ht hb)
    | (go_at_call 17; refine HC.out.mono ?_; rintro e V3 ⟨Ab, cb, rfl, hm, -, hb⟩; have HM3 := Lib.hid hm; have HV3 := Lib.hid (HV2.out.trans (hb.mono HV2.out.size)); clear hm hb HC)
    | fail)
  obtain ⟨W4, hW⟩ : ∃ W4, V3.alloc (.cells #[.int .i64 500, .int .i64 4, .slice Ab exC.length cb] 25) = W4 := ⟨_, rfl⟩
  have hl := LB.fresh HM3.out
  obtain ⟨b3, hbk⟩ : ∃ b3, V3.heap.size = b3 := ⟨_, rfl⟩
  obtain ⟨A3, hAk⟩ : ∃ A3, Ab = A3 := ⟨_, rfl⟩
  obtain ⟨c3, hck⟩ : ∃ c3, cb = c3 := ⟨_, rfl⟩
  rw [hW] at hl ⊢
  rw [hbk, hAk, hck]
  have hb : Below W3.heap.size W3 W4 := HV3.out.trans (hl.2.mono HV3.out.size)
  have HL3 : Hid (LB W4 b3 A3 c3 exC) := Lib.hid (by rw [← hbk, ← hAk, ← hck]; exact hl.1)
  have HL1 := Lib.hid (HL1.out.to hb)
  have HL2 := Lib.hid (HL2.out.to hb)
  have HB := Lib.hid (HB.out.trans (hb.mono HB.out.size))
  clear hl hb hW hbk hAk hck
  refine region_cut (fun a a' w' => ∃ Ab4 cb4 At ct b4, a' = ((((((((a.put (some 44) (.agg #[.int .i64 500, .int .i64 4, .slice A3 exC.length c3])).put (some 45) (.agg #[.slice At 1 ct, .slice none 0 0])).put (some 46) (.tuple #[.agg #[.int .i64 500, .int .i64 4, .slice Ab4 exD.length cb4], .int .i64 0])).put (some 43) (.tuple #[.agg #[.int .i64 500, .int .i64 4, .slice Ab4 exD.length cb4], .int .i64 0])).put (some 47) (.agg #[.int .i64 500, .int .i64 4, .slice Ab4 exD.length cb4])).put (some 48) (.int .i64 0)).put (some 7) (.pointer (some ⟨b4, 0, none⟩))).put (some 8) (.int .i64 0)) ∧ LB w' b4 Ab4 cb4 exD ∧ Below W4.heap.size W4 w') ?_ ?_
  · refine wp_region_D (fun w' => w'.cell? ⟨b3, 0, none⟩ = some (.int .i64 500) ∧ w'.cell? ⟨b3, 1, none⟩ = some (.int .i64 4) ∧ w'.cell? ⟨b3, 2, none⟩ = some (.slice A3 exC.length c3)) (fun i => decide (i < 4) || decide (i = 6)) (by kernel_rfl) ?_
    obtain ⟨V0, hV0⟩ : ∃ V0, W4.drew = V0 := ⟨_, rfl⟩
    have hbd : Below W4.heap.size W4 V0 := by rw [← hV0]; exact (Below.refl _ _).drew
    have HB0 := Lib.hid hbd
    have HY0 := Lib.hid (HL3.out.to hbd)
    rw [hV0]
    clear hV0 hbd
    have hS0 : V0.cell? ⟨b3, 0, none⟩ = some (.int .i64 500) ∧ V0.cell? ⟨b3, 1, none⟩ = some (.int .i64 4) ∧ V0.cell? ⟨b3, 2, none⟩ = some (.slice A3 exC.length c3) := ⟨HY0.out.bx.cell 0 rfl, HY0.out.bx.cell 1 rfl, HY0.out.bx.cell 2 rfl⟩
    have HS0 := Lib.hid hS0
    refine wpAnyE_take (i := 0) (oi := ⟨some 44, Op.load 25 (Operand.tmp 5), 25, _, _, _⟩) (v := ?_) rfl (by kernel_rfl) (by kernel_rfl) (by kernel_rfl) (by kernel_rfl) (by kernel_rfl) (fun _ _ _ h => nomatch h.1) (by rfl) ?hykr4_1 (hS0) ?hrkr4_1
    case hykr4_1 => (intro wS hSw; (have hq0 := hSw.1); (have hq1 := hSw.2.1); (have hq2 := hSw.2.2); clear hSw; go_simp; (try with_reducible rfl))
    all_goals try simp only [Act.put, List.setIfInBounds_toArray, List.set_cons_zero, List.set_cons_succ]
    refine wpAnyD_two (i := 1) (j := 6) (oi := ⟨some 45, Op.call { callee := Callee.value (Operand.func 32), args := #[Operand.const (Value.int IntKind.i64 1)], argTypes := #[3] }, 35, _, _, _⟩) (oj := ⟨some 7, Op.alloc 25, 0, _, _, _⟩) (by kernel_rfl) rfl rfl (by rfl) (by rfl) (fun K hK => ?_) (fun K hK => ?_)
    · go_simp
      go_at_call 32
      refine (HW1.out V0).mono ?_
      rintro e V1 ⟨At, ct, rfl, ht, hb⟩
      go_simp
      have HB1 := Lib.hid (HB0.out.trans (hb.mono HB0.out.size))
      have HY1 := Lib.hid (HY0.out.to hb)
      have hS1 : V1.cell? ⟨b3, 0, none⟩ = some (.int .i64 500) ∧ V1.cell? ⟨b3, 1, none⟩ = some (.int .i64 4) ∧ V1.cell? ⟨b3, 2, none⟩ = some (.slice A3 exC.length c3) := ⟨HY1.out.bx.cell 0 rfl, HY1.out.bx.cell 1 rfl, HY1.out.bx.cell 2 rfl⟩
      have HT1 := Lib.hid (ht.mono (S' := fun b => b < V1.heap.size) fun i hi _ => hi.2)
      clear ht hb
      refine hK _ _ (fun _ => ?_) ?_
      · exact hS1
      clear hK K
      try simp only [Act.put, List.setIfInBounds_toArray, List.set_cons_zero, List.set_cons_succ]
      refine wpAnyD_two (i := 2) (j := 6) (oi := ⟨some 46, Op.call { callee := Callee.value (Operand.func 16), args := #[Operand.tmp 44, Operand.const (Value.int IntKind.i64 2), Operand.const (Value.int IntKind.i64 8), Operand.tmp 45], argTypes := #[25, 3, 3, 35] }, 52, _, _, _⟩) (oj := ⟨some 7, Op.alloc 25, 0, _, _, _⟩) (by kernel_rfl) rfl rfl (by rfl) (by rfl) (fun K hK => ?_) (fun K hK => ?_)
      · go_simp
        go_at_call 16
        refine (ex_add (l2 := exD) 1 (by decide) 2 8 ex_oks.2.1.1 ex_oks.2.1.2 rfl HY1.out.sm HT1.out ex_find.1.2.2.2 (by decide) (by decide) ex_wrong.2.2 (by decide)).mono ?_
        rintro e V2 ⟨Ab, cb, rfl, hm, hn, hb⟩
        go_simp
        have HB2 := Lib.hid (HB1.out.trans (hb.mono HB1.out.size))
        have HY2 := Lib.hid (HY1.out.to hb)
        have hS2 : V2.cell? ⟨b3, 0, none⟩ = some (.int .i64 500) ∧ V2.cell? ⟨b3, 1, none⟩ = some (.int .i64 4) ∧ V2.cell? ⟨b3, 2, none⟩ = some (.slice A3 exC.length c3) := ⟨HY2.out.bx.cell 0 rfl, HY2.out.bx.cell 1 rfl, HY2.out.bx.cell 2 rfl⟩
        have HT2 := Lib.hid (HT1.out.to hb)
        have HR2 := Lib.hid hm
        clear hm hn hb
        refine hK _ _ (fun _ => ?_) ?_
        · exact hS2
        clear hK K
        try simp only [Act.put, List.setIfInBounds_toArray, List.set_cons_zero, List.set_cons_succ]
        refine wpAnyE_take (i := 3) (oi := ⟨some 43, Op.move (Operand.tmp 46), 52, _, _, _⟩) (v := ?_) rfl (by kernel_rfl) (by kernel_rfl) (by kernel_rfl) (by kernel_rfl) (by kernel_rfl) (fun _ _ _ h => nomatch h.1) (by rfl) ?hykr4_2 (hS2) ?hrkr4_2
        case hykr4_2 => (intro wS hSw; clear hSw; go_simp; (try with_reducible rfl))
        all_goals try simp only [Act.put, List.setIfInBounds_toArray, List.set_cons_zero, List.set_cons_succ]
        refine wpAnyF_take (i := 4) (oi := ⟨some 47, Op.extract (Operand.tmp 43) 0, 25, _, _, _⟩) (v := ?_) rfl (by rfl) (by kernel_rfl) (by kernel_rfl) (by kernel_rfl) (fun _ _ _ h => nomatch h.1) (by rfl) ?hykr4_3 ?hrkr4_3
        case hykr4_3 => (intro wS; go_simp; (try with_reducible rfl))
        all_goals try simp only [Act.put, List.setIfInBounds_toArray, List.set_cons_zero, List.set_cons_succ]
        refine wpAnyF_take (i := 5) (oi := ⟨some 48, Op.extract (Operand.tmp 43) 1, 47, _, _, _⟩) (v := ?_) rfl (by rfl) (by kernel_rfl) (by kernel_rfl) (by kernel_rfl) (fun _ _ _ h => nomatch h.1) (by rfl) ?hykr4_4 ?hrkr4_4
        case hykr4_4 => (intro wS; go_simp; (try with_reducible rfl))
        all_goals try simp only [Act.put, List.setIfInBounds_toArray, List.set_cons_zero, List.set_cons_succ]
        refine wpAnyD_one (i := 6) (oi := ⟨some 7, Op.alloc 25, 0, _, _, _⟩) rfl (by kernel_rfl) (by rfl) (fun K hK => ?_)
        go_simp
        obtain ⟨V3, hV⟩ : ∃ V3, (V2.alloc (.cells #[.int .i64 0, .int .i64 0, .slice none 0 0] 25)) = V3 := ⟨_, rfl⟩
        have hb : Below V2.heap.size V2 V3 := by rw [← hV]; exact (Below.refl _ _).alloc (Nat.le_refl _) _
        have hx : ABox V3 V2.heap.size 25 [.int .i64 0, .int .i64 0, .slice none 0 0] := by rw [← hV]; exact heap_alloc_new V2 _
        obtain ⟨bn, hbn⟩ : ∃ bn, V2.heap.size = bn := ⟨_, rfl⟩
        have HBN : Hid (W4.heap.size ≤ bn) := Lib.hid (by rw [← hbn]; exact HB2.out.size)
        rw [hV, hbn]
        rw [hbn] at hx
        have HN := Lib.hid ((HR2.out.s.keep (Kept.all hb) hb.size).mono (S' := fun i => i ≠ bn) fun i (hi : i < V2.heap.size) _ => by omega)
        have HB3 := Lib.hid (HB2.out.trans (hb.mono HB2.out.size))
        have HY3 := Lib.hid (HY2.out.to hb)
        have hS3 : V3.cell? ⟨b3, 0, none⟩ = some (.int .i64 500) ∧ V3.cell? ⟨b3, 1, none⟩ = some (.int .i64 4) ∧ V3.cell? ⟨b3, 2, none⟩ = some (.slice A3 exC.length c3) := ⟨HY3.out.bx.cell 0 rfl, HY3.out.bx.cell 1 rfl, HY3.out.bx.cell 2 rfl⟩
        have HT3 := Lib.hid (HT2.out.to hb)
        have HR3 := Lib.hid (HR2.out.to hb)
        have HX3 := Lib.hid hx
        clear hx hb hV hbn
        refine hK _ _ (fun _ => ?_) ?_
        · exact hS3
        clear hK K
        try simp only [Act.put, List.setIfInBounds_toArray, List.set_cons_zero, List.set_cons_succ]
        refine wpAnyD_one (i := 7) (oi := ⟨none, Op.store 25 (Operand.tmp 7) (Operand.tmp 47), 0, _, _, _⟩) rfl (by kernel_rfl) (by rfl) (fun K hK => ?_)
        have z0 := HX3.out.cell 0 rfl
        have z1 := HX3.out.cell 1 rfl
        have z2 := HX3.out.cell 2 rfl
        have y0 := HX3.out.fz 0
        have y1 := HX3.out.fz 1
        have y2 := HX3.out.fz 2
        go_simp
        clear z0 z1 z2 y0 y1 y2
        refine hK _ _ (fun h => absurd h (by decide)) ?_
        clear hK K
        try simp only [Act.put]
        refine wpAnyD_one (i := 8) (oi := ⟨some 8, Op.assign (Operand.tmp 48), 47, _, _, _⟩) rfl (by kernel_rfl) (by rfl) (fun K hK => ?_)
        go_simp
        refine hK _ _ (fun h => absurd h (by decide)) ?_
        clear hK K
        try simp only [Act.put, List.setIfInBounds_toArray, List.set_cons_zero, List.set_cons_succ]
        refine wpAnyD_done (by kernel_rfl) ?_ _
        refine ⟨rfl, Ab, cb, At, ct, bn, rfl, ?_⟩
        exact LB.into HL3.out.sm.t HB3.out HX3.out HBN.out HN.out
      · go_simp
        obtain ⟨V2, hV⟩ : ∃ V2, (V1.alloc (.cells #[.int .i64 0, .int .i64 0, .slice none 0 0] 25)) = V2 := ⟨_, rfl⟩
        have hb : Below V1.heap.size V1 V2 := by rw [← hV]; exact (Below.refl _ _).alloc (Nat.le_refl _) _
        have hx : ABox V2 V1.heap.size 25 [.int .i64 0, .int .i64 0, .slice none 0 0] := by rw [← hV]; exact heap_alloc_new V1 _
        obtain ⟨bn, hbn⟩ : ∃ bn, V1.heap.size = bn := ⟨_, rfl⟩
        have HBN : Hid (W4.heap.size ≤ bn) := Lib.hid (by rw [← hbn]; exact HB1.out.size)
        rw [hV, hbn]
        rw [hbn] at hx
        have HB2 := Lib.hid (HB1.out.trans (hb.mono HB1.out.size))
        have HY2 := Lib.hid (HY1.out.to hb)
        have hS2 : V2.cell? ⟨b3, 0, none⟩ = some (.int .i64 500) ∧ V2.cell? ⟨b3, 1, none⟩ = some (.int .i64 4) ∧ V2.cell? ⟨b3, 2, none⟩ = some (.slice A3 exC.length c3) := ⟨HY2.out.bx.cell 0 rfl, HY2.out.bx.cell 1 rfl, HY2.out.bx.cell 2 rfl⟩
        have HT2 := Lib.hid (HT1.out.to hb)
        have HX2 := Lib.hid hx
        clear hx hb hV hbn
        refine hK _ _ (fun _ => ?_) ?_
        · exact hS2
        clear hK K
        try simp only [Act.put, List.setIfInBounds_toArray, List.set_cons_zero, List.set_cons_succ]
        refine wpAnyD_one (i := 2) (oi := ⟨some 46, Op.call { callee := Callee.value (Operand.func 16), args := #[Operand.tmp 44, Operand.const (Value.int IntKind.i64 2), Operand.const (Value.int IntKind.i64 8), Operand.tmp 45], argTypes := #[25, 3, 3, 35] }, 52, _, _, _⟩) rfl (by kernel_rfl) (by rfl) (fun K hK => ?_)
        go_simp
        go_at_call 16
        refine (ex_add (l2 := exD) 1 (by decide) 2 8 ex_oks.2.1.1 ex_oks.2.1.2 rfl HY2.out.sm HT2.out ex_find.1.2.2.2 (by decide) (by decide) ex_wrong.2.2 (by decide)).mono ?_
        rintro e V3 ⟨Ab, cb, rfl, hm, hn, hb⟩
        go_simp
        have HB3 := Lib.hid (HB2.out.trans (hb.mono HB2.out.size))
        have HY3 := Lib.hid (HY2.out.to hb)
        have hS3 : V3.cell? ⟨b3, 0, none⟩ = some (.int .i64 500) ∧ V3.cell? ⟨b3, 1, none⟩ = some (.int .i64 4) ∧ V3.cell? ⟨b3, 2, none⟩ = some (.slice A3 exC.length c3) := ⟨HY3.out.bx.cell 0 rfl, HY3.out.bx.cell 1 rfl, HY3.out.bx.cell 2 rfl⟩
        have HT3 := Lib.hid (HT2.out.to hb)
        have HX3 := Lib.hid (HX2.out.to hb)
        have HR3 := Lib.hid hm
        have HN := Lib.hid (hn.mono (S' := fun i => i ≠ bn) fun i (hi : V2.heap.size ≤ i) _ => by have := HX2.out.lt; omega)
        clear hm hn hb
        refine hK _ _ (fun _ => ?_) ?_
        · exact hS3
        clear hK K
        try simp only [Act.put, List.setIfInBounds_toArray, List.set_cons_zero, List.set_cons_succ]
        refine wpAnyE_take (i := 3) (oi := ⟨some 43, Op.move (Operand.tmp 46), 52, _, _, _⟩) (v := ?_) rfl (by kernel_rfl) (by kernel_rfl) (by kernel_rfl) (by kernel_rfl) (by kernel_rfl) (fun _ _ _ h => nomatch h.1) (by rfl) ?hykr4_5 (hS3) ?hrkr4_5
        case hykr4_5 => (intro wS hSw; clear hSw; go_simp; (try with_reducible rfl))
        all_goals try simp only [Act.put, List.setIfInBounds_toArray, List.set_cons_zero, List.set_cons_succ]
        refine wpAnyF_take (i := 4) (oi := ⟨some 47, Op.extract (Operand.tmp 43) 0, 25, _, _, _⟩) (v := ?_) rfl (by rfl) (by kernel_rfl) (by kernel_rfl) (by kernel_rfl) (fun _ _ _ h => nomatch h.1) (by rfl) ?hykr4_6 ?hrkr4_6
        case hykr4_6 => (intro wS; go_simp; (try with_reducible rfl))
        all_goals try simp only [Act.put, List.setIfInBounds_toArray, List.set_cons_zero, List.set_cons_succ]
        refine wpAnyF_take (i := 5) (oi := ⟨some 48, Op.extract (Operand.tmp 43) 1, 47, _, _, _⟩) (v := ?_) rfl (by rfl) (by kernel_rfl) (by kernel_rfl) (by kernel_rfl) (fun _ _ _ h => nomatch h.1) (by rfl) ?hykr4_7 ?hrkr4_7
        case hykr4_7 => (intro wS; go_simp; (try with_reducible rfl))
        all_goals try simp only [Act.put, List.setIfInBounds_toArray, List.set_cons_zero, List.set_cons_succ]
        refine wpAnyD_one (i := 7) (oi := ⟨none, Op.store 25 (Operand.tmp 7) (Operand.tmp 47), 0, _, _, _⟩) rfl (by kernel_rfl) (by rfl) (fun K hK => ?_)
        have z0 := HX3.out.cell 0 rfl
        have z1 := HX3.out.cell 1 rfl
        have z2 := HX3.out.cell 2 rfl
        have y0 := HX3.out.fz 0
        have y1 := HX3.out.fz 1
        have y2 := HX3.out.fz 2
        go_simp
        clear z0 z1 z2 y0 y1 y2
        refine hK _ _ (fun h => absurd h (by decide)) ?_
        clear hK K
        try simp only [Act.put]
        refine wpAnyD_one (i := 8) (oi := ⟨some 8, Op.assign (Operand.tmp 48), 47, _, _, _⟩) rfl (by kernel_rfl) (by rfl) (fun K hK => ?_)
        go_simp
        refine hK _ _ (fun h => absurd h (by decide)) ?_
        clear hK K
        try simp only [Act.put, List.setIfInBounds_toArray, List.set_cons_zero, List.set_cons_succ]
        refine wpAnyD_done (by kernel_rfl) ?_ _
        refine ⟨rfl, Ab, cb, At, ct, bn, rfl, ?_⟩
        exact LB.into HL3.out.sm.t HB3.out HX3.out HBN.out HN.out
    · go_simp
      obtain ⟨V1, hV⟩ : ∃ V1, (V0.alloc (.cells #[.int .i64 0, .int .i64 0, .slice none 0 0] 25)) = V1 := ⟨_, rfl⟩
      have hb : Below V0.heap.size V0 V1 := by rw [← hV]; exact (Below.refl _ _).alloc (Nat.le_refl _) _
      have hx : ABox V1 V0.heap.size 25 [.int .i64 0, .int .i64 0, .slice none 0 0] := by rw [← hV]; exact heap_alloc_new V0 _
      obtain ⟨bn, hbn⟩ : ∃ bn, V0.heap.size = bn := ⟨_, rfl⟩
      have HBN : Hid (W4.heap.size ≤ bn) := Lib.hid (by rw [← hbn]; exact HB0.out.size)
      rw [hV, hbn]
      rw [hbn] at hx
      have HB1 := Lib.hid (HB0.out.trans (hb.mono HB0.out.size))
      have HY1 := Lib.hid (HY0.out.to hb)
      have hS1 : V1.cell? ⟨b3, 0, none⟩ = some (.int .i64 500) ∧ V1.cell? ⟨b3, 1, none⟩ = some (.int .i64 4) ∧ V1.cell? ⟨b3, 2, none⟩ = some (.slice A3 exC.length c3) := ⟨HY1.out.bx.cell 0 rfl, HY1.out.bx.cell 1 rfl, HY1.out.bx.cell 2 rfl⟩
      have HX1 := Lib.hid hx
      clear hx hb hV hbn
      refine hK _ _ (fun _ => ?_) ?_
      · exact hS1
      clear hK K
      try simp only [Act.put, List.setIfInBounds_toArray, List.set_cons_zero, List.set_cons_succ]
      refine wpAnyD_one (i := 1) (oi := ⟨some 45, Op.call { callee := Callee.value (Operand.func 32), args := #[Operand.const (Value.int IntKind.i64 1)], argTypes := #[3] }, 35, _, _, _⟩) rfl (by kernel_rfl) (by rfl) (fun K hK => ?_)
      go_simp
      go_at_call 32
      refine (HW1.out V1).mono ?_
      rintro e V2 ⟨At, ct, rfl, ht, hb⟩
      go_simp
      have HB2 := Lib.hid (HB1.out.trans (hb.mono HB1.out.size))
      have HY2 := Lib.hid (HY1.out.to hb)
      have hS2 : V2.cell? ⟨b3, 0, none⟩ = some (.int .i64 500) ∧ V2.cell? ⟨b3, 1, none⟩ = some (.int .i64 4) ∧ V2.cell? ⟨b3, 2, none⟩ = some (.slice A3 exC.length c3) := ⟨HY2.out.bx.cell 0 rfl, HY2.out.bx.cell 1 rfl, HY2.out.bx.cell 2 rfl⟩
      have HX2 := Lib.hid (HX1.out.to hb)
      have HT2 := Lib.hid (ht.mono (S' := fun b => b < V2.heap.size) fun i hi _ => hi.2)
      clear ht hb
      refine hK _ _ (fun _ => ?_) ?_
      · exact hS2
      clear hK K
      try simp only [Act.put, List.setIfInBounds_toArray, List.set_cons_zero, List.set_cons_succ]
      refine wpAnyD_one (i := 2) (oi := ⟨some 46, Op.call { callee := Callee.value (Operand.func 16), args := #[Operand.tmp 44, Operand.const (Value.int IntKind.i64 2), Operand.const (Value.int IntKind.i64 8), Operand.tmp 45], argTypes := #[25, 3, 3, 35] }, 52, _, _, _⟩) rfl (by kernel_rfl) (by rfl) (fun K hK => ?_)
      go_simp
      go_at_call 16
      refine (ex_add (l2 := exD) 1 (by decide) 2 8 ex_oks.2.1.1 ex_oks.2.1.2 rfl HY2.out.sm HT2.out ex_find.1.2.2.2 (by decide) (by decide) ex_wrong.2.2 (by decide)).mono ?_
      rintro e V3 ⟨Ab, cb, rfl, hm, hn, hb⟩
      go_simp
      have HB3 := Lib.hid (HB2.out.trans (hb.mono HB2.out.size))
      have HY3 := Lib.hid (HY2.out.to hb)
      have hS3 : V3.cell? ⟨b3, 0, none⟩ = some (.int .i64 500) ∧ V3.cell? ⟨b3, 1, none⟩ = some (.int .i64 4) ∧ V3.cell? ⟨b3, 2, none⟩ = some (.slice A3 exC.length c3) := ⟨HY3.out.bx.cell 0 rfl, HY3.out.bx.cell 1 rfl, HY3.out.bx.cell 2 rfl⟩
      have HT3 := Lib.hid (HT2.out.to hb)
      have HX3 := Lib.hid (HX2.out.to hb)
      have HR3 := Lib.hid hm
      have HN := Lib.hid (hn.mono (S' := fun i => i ≠ bn) fun i (hi : V2.heap.size ≤ i) _ => by have := HX2.out.lt; omega)
      clear hm hn hb
      refine hK _ _ (fun _ => ?_) ?_
      · exact hS3
      clear hK K
      try simp only [Act.put, List.setIfInBounds_toArray, List.set_cons_zero, List.set_cons_succ]
      refine wpAnyE_take (i := 3) (oi := ⟨some 43, Op.move (Operand.tmp 46), 52, _, _, _⟩) (v := ?_) rfl (by kernel_rfl) (by kernel_rfl) (by kernel_rfl) (by kernel_rfl) (by kernel_rfl) (fun _ _ _ h => nomatch h.1) (by rfl) ?hykr4_8 (hS3) ?hrkr4_8
      case hykr4_8 => (intro wS hSw; clear hSw; go_simp; (try with_reducible rfl))
      all_goals try simp only [Act.put, List.setIfInBounds_toArray, List.set_cons_zero, List.set_cons_succ]
      refine wpAnyF_take (i := 4) (oi := ⟨some 47, Op.extract (Operand.tmp 43) 0, 25, _, _, _⟩) (v := ?_) rfl (by rfl) (by kernel_rfl) (by kernel_rfl) (by kernel_rfl) (fun _ _ _ h => nomatch h.1) (by rfl) ?hykr4_9 ?hrkr4_9
      case hykr4_9 => (intro wS; go_simp; (try with_reducible rfl))
      all_goals try simp only [Act.put, List.setIfInBounds_toArray, List.set_cons_zero, List.set_cons_succ]
      refine wpAnyF_take (i := 5) (oi := ⟨some 48, Op.extract (Operand.tmp 43) 1, 47, _, _, _⟩) (v := ?_) rfl (by rfl) (by kernel_rfl) (by kernel_rfl) (by kernel_rfl) (fun _ _ _ h => nomatch h.1) (by rfl) ?hykr4_10 ?hrkr4_10
      case hykr4_10 => (intro wS; go_simp; (try with_reducible rfl))
      all_goals try simp only [Act.put, List.setIfInBounds_toArray, List.set_cons_zero, List.set_cons_succ]
      refine wpAnyD_one (i := 7) (oi := ⟨none, Op.store 25 (Operand.tmp 7) (Operand.tmp 47), 0, _, _, _⟩) rfl (by kernel_rfl) (by rfl) (fun K hK => ?_)
      have z0 := HX3.out.cell 0 rfl
      have z1 := HX3.out.cell 1 rfl
      have z2 := HX3.out.cell 2 rfl
      have y0 := HX3.out.fz 0
      have y1 := HX3.out.fz 1
      have y2 := HX3.out.fz 2
      go_simp
      clear z0 z1 z2 y0 y1 y2
      refine hK _ _ (fun h => absurd h (by decide)) ?_
      clear hK K
      try simp only [Act.put]
      refine wpAnyD_one (i := 8) (oi := ⟨some 8, Op.assign (Operand.tmp 48), 47, _, _, _⟩) rfl (by kernel_rfl) (by rfl) (fun K hK => ?_)
      go_simp
      refine hK _ _ (fun h => absurd h (by decide)) ?_
      clear hK K
      try simp only [Act.put, List.setIfInBounds_toArray, List.set_cons_zero, List.set_cons_succ]
      refine wpAnyD_done (by kernel_rfl) ?_ _
      refine ⟨rfl, Ab, cb, At, ct, bn, rfl, ?_⟩
      exact LB.into HL3.out.sm.t HB3.out HX3.out HBN.out HN.out
  rintro _ W5 ⟨A4, c4, At, ct, b4, rfl, hl, hb⟩
  have HL4 := Lib.hid hl
  simp only [Act.put, List.setIfInBounds_toArray, List.set_cons_zero, List.set_cons_succ]
  have HL1 := Lib.hid (HL1.out.to hb)
  have HL2 := Lib.hid (HL2.out.to hb)
  have HL3 := Lib.hid (HL3.out.to hb)
  have HB := Lib.hid (HB.out.trans (hb.mono HB.out.size))
  clear hl hb
  go_upto_region 5 with (fail)
  refine region_cut (fun a a' w' => ∃ Ab5 cb5 At ct b5, a' = ((((((((a.put (some 50) (.agg #[.int .i64 500, .int .i64 4, .slice A4 exD.length c4])).put (some 51) (.agg #[.slice At 1 ct, .slice none 0 0])).put (some 52) (.tuple #[.agg #[.int .i64 500, .int .i64 4, .slice Ab5 exI.length cb5], .int .i64 0])).put (some 49) (.tuple #[.agg #[.int .i64 500, .int .i64 4, .slice Ab5 exI.length cb5], .int .i64 0])).put (some 53) (.agg #[.int .i64 500, .int .i64 4, .slice Ab5 exI.length cb5])).put (some 54) (.int .i64 0)).put (some 9) (.pointer (some ⟨b5, 0, none⟩))).put (some 10) (.int .i64 0)) ∧ LB w' b5 Ab5 cb5 exI ∧ Below W5.heap.size W5 w') ?_ ?_
  · refine wp_region_D (fun w' => w'.cell? ⟨b4, 0, none⟩ = some (.int .i64 500) ∧ w'.cell? ⟨b4, 1, none⟩ = some (.int .i64 4) ∧ w'.cell? ⟨b4, 2, none⟩ = some (.slice A4 exD.length c4)) (fun i => decide (i < 4) || decide (i = 6)) (by kernel_rfl) ?_
    obtain ⟨V0, hV0⟩ : ∃ V0, W5.drew = V0 := ⟨_, rfl⟩
    have hbd : Below W5.heap.size W5 V0 := by rw [← hV0]; exact (Below.refl _ _).drew
    have HB0 := Lib.hid hbd
    have HY0 := Lib.hid (HL4.out.to hbd)
    rw [hV0]
    clear hV0 hbd
    have hS0 : V0.cell? ⟨b4, 0, none⟩ = some (.int .i64 500) ∧ V0.cell? ⟨b4, 1, none⟩ = some (.int .i64 4) ∧ V0.cell? ⟨b4, 2, none⟩ = some (.slice A4 exD.length c4) := ⟨HY0.out.bx.cell 0 rfl, HY0.out.bx.cell 1 rfl, HY0.out.bx.cell 2 rfl⟩
    have HS0 := Lib.hid hS0
    refine wpAnyE_take (i := 0) (oi := ⟨some 50, Op.load 25 (Operand.tmp 7), 25, _, _, _⟩) (v := ?_) rfl (by kernel_rfl) (by kernel_rfl) (by kernel_rfl) (by kernel_rfl) (by kernel_rfl) (fun _ _ _ h => nomatch h.1) (by rfl) ?hykr5_1 (hS0) ?hrkr5_1
    case hykr5_1 => (intro wS hSw; (have hq0 := hSw.1); (have hq1 := hSw.2.1); (have hq2 := hSw.2.2); clear hSw; go_simp; (try with_reducible rfl))
    all_goals try simp only [Act.put, List.setIfInBounds_toArray, List.set_cons_zero, List.set_cons_succ]
    refine wpAnyD_two (i := 1) (j := 6) (oi := ⟨some 51, Op.call { callee := Callee.value (Operand.func 32), args := #[Operand.const (Value.int IntKind.i64 5)], argTypes := #[3] }, 35, _, _, _⟩) (oj := ⟨some 9, Op.alloc 25, 0, _, _, _⟩) (by kernel_rfl) rfl rfl (by rfl) (by rfl) (fun K hK => ?_) (fun K hK => ?_)
    · go_simp
      go_at_call 32
      refine (HW5.out V0).mono ?_
      rintro e V1 ⟨At, ct, rfl, ht, hb⟩
      go_simp
      have HB1 := Lib.hid (HB0.out.trans (hb.mono HB0.out.size))
      have HY1 := Lib.hid (HY0.out.to hb)
      have hS1 : V1.cell? ⟨b4, 0, none⟩ = some (.int .i64 500) ∧ V1.cell? ⟨b4, 1, none⟩ = some (.int .i64 4) ∧ V1.cell? ⟨b4, 2, none⟩ = some (.slice A4 exD.length c4) := ⟨HY1.out.bx.cell 0 rfl, HY1.out.bx.cell 1 rfl, HY1.out.bx.cell 2 rfl⟩
      have HT1 := Lib.hid (ht.mono (S' := fun b => b < V1.heap.size) fun i hi _ => hi.2)
      clear ht hb
      refine hK _ _ (fun _ => ?_) ?_
      · exact hS1
      clear hK K
      try simp only [Act.put, List.setIfInBounds_toArray, List.set_cons_zero, List.set_cons_succ]
      refine wpAnyD_two (i := 2) (j := 6) (oi := ⟨some 52, Op.call { callee := Callee.value (Operand.func 17), args := #[Operand.tmp 50, Operand.const (Value.int IntKind.i64 2), Operand.const (Value.int IntKind.i64 9), Operand.tmp 51], argTypes := #[25, 3, 3, 35] }, 52, _, _, _⟩) (oj := ⟨some 9, Op.alloc 25, 0, _, _, _⟩) (by kernel_rfl) rfl rfl (by rfl) (by rfl) (fun K hK => ?_) (fun K hK => ?_)
      · go_simp
        go_at_call 17
        refine (ex_correct (l2 := exI) 5 (by decide) 2 9 2 ⟨2, false, [8], [wideT 1]⟩ ex_oks.2.1.2 ex_oks.2.2.1.1 rfl HY1.out.sm HT1.out ex_find.2.1 (by decide) rfl (by decide) (by decide) ex_wrong.1.1 (by decide)).mono ?_
        rintro e V2 ⟨Ab, cb, rfl, hm, hn, hb⟩
        go_simp
        have HB2 := Lib.hid (HB1.out.trans (hb.mono HB1.out.size))
        have HY2 := Lib.hid (HY1.out.to hb)
        have hS2 : V2.cell? ⟨b4, 0, none⟩ = some (.int .i64 500) ∧ V2.cell? ⟨b4, 1, none⟩ = some (.int .i64 4) ∧ V2.cell? ⟨b4, 2, none⟩ = some (.slice A4 exD.length c4) := ⟨HY2.out.bx.cell 0 rfl, HY2.out.bx.cell 1 rfl, HY2.out.bx.cell 2 rfl⟩
        have HT2 := Lib.hid (HT1.out.to hb)
        have HR2 := Lib.hid hm
        clear hm hn hb
        refine hK _ _ (fun _ => ?_) ?_
        · exact hS2
        clear hK K
        try simp only [Act.put, List.setIfInBounds_toArray, List.set_cons_zero, List.set_cons_succ]
        refine wpAnyE_take (i := 3) (oi := ⟨some 49, Op.move (Operand.tmp 52), 52, _, _, _⟩) (v := ?_) rfl (by kernel_rfl) (by kernel_rfl) (by kernel_rfl) (by kernel_rfl) (by kernel_rfl) (fun _ _ _ h => nomatch h.1) (by rfl) ?hykr5_2 (hS2) ?hrkr5_2
        case hykr5_2 => (intro wS hSw; clear hSw; go_simp; (try with_reducible rfl))
        all_goals try simp only [Act.put, List.setIfInBounds_toArray, List.set_cons_zero, List.set_cons_succ]
        refine wpAnyF_take (i := 4) (oi := ⟨some 53, Op.extract (Operand.tmp 49) 0, 25, _, _, _⟩) (v := ?_) rfl (by rfl) (by kernel_rfl) (by kernel_rfl) (by kernel_rfl) (fun _ _ _ h => nomatch h.1) (by rfl) ?hykr5_3 ?hrkr5_3
        case hykr5_3 => (intro wS; go_simp; (try with_reducible rfl))
        all_goals try simp only [Act.put, List.setIfInBounds_toArray, List.set_cons_zero, List.set_cons_succ]
        refine wpAnyF_take (i := 5) (oi := ⟨some 54, Op.extract (Operand.tmp 49) 1, 47, _, _, _⟩) (v := ?_) rfl (by rfl) (by kernel_rfl) (by kernel_rfl) (by kernel_rfl) (fun _ _ _ h => nomatch h.1) (by rfl) ?hykr5_4 ?hrkr5_4
        case hykr5_4 => (intro wS; go_simp; (try with_reducible rfl))
        all_goals try simp only [Act.put, List.setIfInBounds_toArray, List.set_cons_zero, List.set_cons_succ]
        refine wpAnyD_one (i := 6) (oi := ⟨some 9, Op.alloc 25, 0, _, _, _⟩) rfl (by kernel_rfl) (by rfl) (fun K hK => ?_)
        go_simp
        obtain ⟨V3, hV⟩ : ∃ V3, (V2.alloc (.cells #[.int .i64 0, .int .i64 0, .slice none 0 0] 25)) = V3 := ⟨_, rfl⟩
        have hb : Below V2.heap.size V2 V3 := by rw [← hV]; exact (Below.refl _ _).alloc (Nat.le_refl _) _
        have hx : ABox V3 V2.heap.size 25 [.int .i64 0, .int .i64 0, .slice none 0 0] := by rw [← hV]; exact heap_alloc_new V2 _
        obtain ⟨bn, hbn⟩ : ∃ bn, V2.heap.size = bn := ⟨_, rfl⟩
        have HBN : Hid (W5.heap.size ≤ bn) := Lib.hid (by rw [← hbn]; exact HB2.out.size)
        rw [hV, hbn]
        rw [hbn] at hx
        have HN := Lib.hid ((HR2.out.s.keep (Kept.all hb) hb.size).mono (S' := fun i => i ≠ bn) fun i (hi : i < V2.heap.size) _ => by omega)
        have HB3 := Lib.hid (HB2.out.trans (hb.mono HB2.out.size))
        have HY3 := Lib.hid (HY2.out.to hb)
        have hS3 : V3.cell? ⟨b4, 0, none⟩ = some (.int .i64 500) ∧ V3.cell? ⟨b4, 1, none⟩ = some (.int .i64 4) ∧ V3.cell? ⟨b4, 2, none⟩ = some (.slice A4 exD.length c4) := ⟨HY3.out.bx.cell 0 rfl, HY3.out.bx.cell 1 rfl, HY3.out.bx.cell 2 rfl⟩
        have HT3 := Lib.hid (HT2.out.to hb)
        have HR3 := Lib.hid (HR2.out.to hb)
        have HX3 := Lib.hid hx
        clear hx hb hV hbn
        refine hK _ _ (fun _ => ?_) ?_
        · exact hS3
        clear hK K
        try simp only [Act.put, List.setIfInBounds_toArray, List.set_cons_zero, List.set_cons_succ]
        refine wpAnyD_one (i := 7) (oi := ⟨none, Op.store 25 (Operand.tmp 9) (Operand.tmp 53), 0, _, _, _⟩) rfl (by kernel_rfl) (by rfl) (fun K hK => ?_)
        have z0 := HX3.out.cell 0 rfl
        have z1 := HX3.out.cell 1 rfl
        have z2 := HX3.out.cell 2 rfl
        have y0 := HX3.out.fz 0
        have y1 := HX3.out.fz 1
        have y2 := HX3.out.fz 2
        go_simp
        clear z0 z1 z2 y0 y1 y2
        refine hK _ _ (fun h => absurd h (by decide)) ?_
        clear hK K
        try simp only [Act.put]
        refine wpAnyD_one (i := 8) (oi := ⟨some 10, Op.assign (Operand.tmp 54), 47, _, _, _⟩) rfl (by kernel_rfl) (by rfl) (fun K hK => ?_)
        go_simp
        refine hK _ _ (fun h => absurd h (by decide)) ?_
        clear hK K
        try simp only [Act.put, List.setIfInBounds_toArray, List.set_cons_zero, List.set_cons_succ]
        refine wpAnyD_done (by kernel_rfl) ?_ _
        refine ⟨rfl, Ab, cb, At, ct, bn, rfl, ?_⟩
        exact LB.into HL4.out.sm.t HB3.out HX3.out HBN.out HN.out
      · go_simp
        obtain ⟨V2, hV⟩ : ∃ V2, (V1.alloc (.cells #[.int .i64 0, .int .i64 0, .slice none 0 0] 25)) = V2 := ⟨_, rfl⟩
        have hb : Below V1.heap.size V1 V2 := by rw [← hV]; exact (Below.refl _ _).alloc (Nat.le_refl _) _
        have hx : ABox V2 V1.heap.size 25 [.int .i64 0, .int .i64 0, .slice none 0 0] := by rw [← hV]; exact heap_alloc_new V1 _
        obtain ⟨bn, hbn⟩ : ∃ bn, V1.heap.size = bn := ⟨_, rfl⟩
        have HBN : Hid (W5.heap.size ≤ bn) := Lib.hid (by rw [← hbn]; exact HB1.out.size)
        rw [hV, hbn]
        rw [hbn] at hx
        have HB2 := Lib.hid (HB1.out.trans (hb.mono HB1.out.size))
        have HY2 := Lib.hid (HY1.out.to hb)
        have hS2 : V2.cell? ⟨b4, 0, none⟩ = some (.int .i64 500) ∧ V2.cell? ⟨b4, 1, none⟩ = some (.int .i64 4) ∧ V2.cell? ⟨b4, 2, none⟩ = some (.slice A4 exD.length c4) := ⟨HY2.out.bx.cell 0 rfl, HY2.out.bx.cell 1 rfl, HY2.out.bx.cell 2 rfl⟩
        have HT2 := Lib.hid (HT1.out.to hb)
        have HX2 := Lib.hid hx
        clear hx hb hV hbn
        refine hK _ _ (fun _ => ?_) ?_
        · exact hS2
        clear hK K
        try simp only [Act.put, List.setIfInBounds_toArray, List.set_cons_zero, List.set_cons_succ]
        refine wpAnyD_one (i := 2) (oi := ⟨some 52, Op.call { callee := Callee.value (Operand.func 17), args := #[Operand.tmp 50, Operand.const (Value.int IntKind.i64 2), Operand.const (Value.int IntKind.i64 9), Operand.tmp 51], argTypes := #[25, 3, 3, 35] }, 52, _, _, _⟩) rfl (by kernel_rfl) (by rfl) (fun K hK => ?_)
        go_simp
        go_at_call 17
        refine (ex_correct (l2 := exI) 5 (by decide) 2 9 2 ⟨2, false, [8], [wideT 1]⟩ ex_oks.2.1.2 ex_oks.2.2.1.1 rfl HY2.out.sm HT2.out ex_find.2.1 (by decide) rfl (by decide) (by decide) ex_wrong.1.1 (by decide)).mono ?_
        rintro e V3 ⟨Ab, cb, rfl, hm, hn, hb⟩
        go_simp
        have HB3 := Lib.hid (HB2.out.trans (hb.mono HB2.out.size))
        have HY3 := Lib.hid (HY2.out.to hb)
        have hS3 : V3.cell? ⟨b4, 0, none⟩ = some (.int .i64 500) ∧ V3.cell? ⟨b4, 1, none⟩ = some (.int .i64 4) ∧ V3.cell? ⟨b4, 2, none⟩ = some (.slice A4 exD.length c4) := ⟨HY3.out.bx.cell 0 rfl, HY3.out.bx.cell 1 rfl, HY3.out.bx.cell 2 rfl⟩
        have HT3 := Lib.hid (HT2.out.to hb)
        have HX3 := Lib.hid (HX2.out.to hb)
        have HR3 := Lib.hid hm
        have HN := Lib.hid (hn.mono (S' := fun i => i ≠ bn) fun i (hi : V2.heap.size ≤ i) _ => by have := HX2.out.lt; omega)
        clear hm hn hb
        refine hK _ _ (fun _ => ?_) ?_
        · exact hS3
        clear hK K
        try simp only [Act.put, List.setIfInBounds_toArray, List.set_cons_zero, List.set_cons_succ]
        refine wpAnyE_take (i := 3) (oi := ⟨some 49, Op.move (Operand.tmp 52), 52, _, _, _⟩) (v := ?_) rfl (by kernel_rfl) (by kernel_rfl) (by kernel_rfl) (by kernel_rfl) (by kernel_rfl) (fun _ _ _ h => nomatch h.1) (by rfl) ?hykr5_5 (hS3) ?hrkr5_5
        case hykr5_5 => (intro wS hSw; clear hSw; go_simp; (try with_reducible rfl))
        all_goals try simp only [Act.put, List.setIfInBounds_toArray, List.set_cons_zero, List.set_cons_succ]
        refine wpAnyF_take (i := 4) (oi := ⟨some 53, Op.extract (Operand.tmp 49) 0, 25, _, _, _⟩) (v := ?_) rfl (by rfl) (by kernel_rfl) (by kernel_rfl) (by kernel_rfl) (fun _ _ _ h => nomatch h.1) (by rfl) ?hykr5_6 ?hrkr5_6
        case hykr5_6 => (intro wS; go_simp; (try with_reducible rfl))
        all_goals try simp only [Act.put, List.setIfInBounds_toArray, List.set_cons_zero, List.set_cons_succ]
        refine wpAnyF_take (i := 5) (oi := ⟨some 54, Op.extract (Operand.tmp 49) 1, 47, _, _, _⟩) (v := ?_) rfl (by rfl) (by kernel_rfl) (by kernel_rfl) (by kernel_rfl) (fun _ _ _ h => nomatch h.1) (by rfl) ?hykr5_7 ?hrkr5_7
        case hykr5_7 => (intro wS; go_simp; (try with_reducible rfl))
        all_goals try simp only [Act.put, List.setIfInBounds_toArray, List.set_cons_zero, List.set_cons_succ]
        refine wpAnyD_one (i := 7) (oi := ⟨none, Op.store 25 (Operand.tmp 9) (Operand.tmp 53), 0, _, _, _⟩) rfl (by kernel_rfl) (by rfl) (fun K hK => ?_)
        have z0 := HX3.out.cell 0 rfl
        have z1 := HX3.out.cell 1 rfl
        have z2 := HX3.out.cell 2 rfl
        have y0 := HX3.out.fz 0
        have y1 := HX3.out.fz 1
        have y2 := HX3.out.fz 2
        go_simp
        clear z0 z1 z2 y0 y1 y2
        refine hK _ _ (fun h => absurd h (by decide)) ?_
        clear hK K
        try simp only [Act.put]
        refine wpAnyD_one (i := 8) (oi := ⟨some 10, Op.assign (Operand.tmp 54), 47, _, _, _⟩) rfl (by kernel_rfl) (by rfl) (fun K hK => ?_)
        go_simp
        refine hK _ _ (fun h => absurd h (by decide)) ?_
        clear hK K
        try simp only [Act.put, List.setIfInBounds_toArray, List.set_cons_zero, List.set_cons_succ]
        refine wpAnyD_done (by kernel_rfl) ?_ _
        refine ⟨rfl, Ab, cb, At, ct, bn, rfl, ?_⟩
        exact LB.into HL4.out.sm.t HB3.out HX3.out HBN.out HN.out
    · go_simp
      obtain ⟨V1, hV⟩ : ∃ V1, (V0.alloc (.cells #[.int .i64 0, .int .i64 0, .slice none 0 0] 25)) = V1 := ⟨_, rfl⟩
      have hb : Below V0.heap.size V0 V1 := by rw [← hV]; exact (Below.refl _ _).alloc (Nat.le_refl _) _
      have hx : ABox V1 V0.heap.size 25 [.int .i64 0, .int .i64 0, .slice none 0 0] := by rw [← hV]; exact heap_alloc_new V0 _
      obtain ⟨bn, hbn⟩ : ∃ bn, V0.heap.size = bn := ⟨_, rfl⟩
      have HBN : Hid (W5.heap.size ≤ bn) := Lib.hid (by rw [← hbn]; exact HB0.out.size)
      rw [hV, hbn]
      rw [hbn] at hx
      have HB1 := Lib.hid (HB0.out.trans (hb.mono HB0.out.size))
      have HY1 := Lib.hid (HY0.out.to hb)
      have hS1 : V1.cell? ⟨b4, 0, none⟩ = some (.int .i64 500) ∧ V1.cell? ⟨b4, 1, none⟩ = some (.int .i64 4) ∧ V1.cell? ⟨b4, 2, none⟩ = some (.slice A4 exD.length c4) := ⟨HY1.out.bx.cell 0 rfl, HY1.out.bx.cell 1 rfl, HY1.out.bx.cell 2 rfl⟩
      have HX1 := Lib.hid hx
      clear hx hb hV hbn
      refine hK _ _ (fun _ => ?_) ?_
      · exact hS1
      clear hK K
      try simp only [Act.put, List.setIfInBounds_toArray, List.set_cons_zero, List.set_cons_succ]
      refine wpAnyD_one (i := 1) (oi := ⟨some 51, Op.call { callee := Callee.value (Operand.func 32), args := #[Operand.const (Value.int IntKind.i64 5)], argTypes := #[3] }, 35, _, _, _⟩) rfl (by kernel_rfl) (by rfl) (fun K hK => ?_)
      go_simp
      go_at_call 32
      refine (HW5.out V1).mono ?_
      rintro e V2 ⟨At, ct, rfl, ht, hb⟩
      go_simp
      have HB2 := Lib.hid (HB1.out.trans (hb.mono HB1.out.size))
      have HY2 := Lib.hid (HY1.out.to hb)
      have hS2 : V2.cell? ⟨b4, 0, none⟩ = some (.int .i64 500) ∧ V2.cell? ⟨b4, 1, none⟩ = some (.int .i64 4) ∧ V2.cell? ⟨b4, 2, none⟩ = some (.slice A4 exD.length c4) := ⟨HY2.out.bx.cell 0 rfl, HY2.out.bx.cell 1 rfl, HY2.out.bx.cell 2 rfl⟩
      have HX2 := Lib.hid (HX1.out.to hb)
      have HT2 := Lib.hid (ht.mono (S' := fun b => b < V2.heap.size) fun i hi _ => hi.2)
      clear ht hb
      refine hK _ _ (fun _ => ?_) ?_
      · exact hS2
      clear hK K
      try simp only [Act.put, List.setIfInBounds_toArray, List.set_cons_zero, List.set_cons_succ]
      refine wpAnyD_one (i := 2) (oi := ⟨some 52, Op.call { callee := Callee.value (Operand.func 17), args := #[Operand.tmp 50, Operand.const (Value.int IntKind.i64 2), Operand.const (Value.int IntKind.i64 9), Operand.tmp 51], argTypes := #[25, 3, 3, 35] }, 52, _, _, _⟩) rfl (by kernel_rfl) (by rfl) (fun K hK => ?_)
      go_simp
      go_at_call 17
      refine (ex_correct (l2 := exI) 5 (by decide) 2 9 2 ⟨2, false, [8], [wideT 1]⟩ ex_oks.2.1.2 ex_oks.2.2.1.1 rfl HY2.out.sm HT2.out ex_find.2.1 (by decide) rfl (by decide) (by decide) ex_wrong.1.1 (by decide)).mono ?_
      rintro e V3 ⟨Ab, cb, rfl, hm, hn, hb⟩
      go_simp
      have HB3 := Lib.hid (HB2.out.trans (hb.mono HB2.out.size))
      have HY3 := Lib.hid (HY2.out.to hb)
      have hS3 : V3.cell? ⟨b4, 0, none⟩ = some (.int .i64 500) ∧ V3.cell? ⟨b4, 1, none⟩ = some (.int .i64 4) ∧ V3.cell? ⟨b4, 2, none⟩ = some (.slice A4 exD.length c4) := ⟨HY3.out.bx.cell 0 rfl, HY3.out.bx.cell 1 rfl, HY3.out.bx.cell 2 rfl⟩
      have HT3 := Lib.hid (HT2.out.to hb)
      have HX3 := Lib.hid (HX2.out.to hb)
      have HR3 := Lib.hid hm
      have HN := Lib.hid (hn.mono (S' := fun i => i ≠ bn) fun i (hi : V2.heap.size ≤ i) _ => by have := HX2.out.lt; omega)
      clear hm hn hb
      refine hK _ _ (fun _ => ?_) ?_
      · exact hS3
      clear hK K
      try simp only [Act.put, List.setIfInBounds_toArray, List.set_cons_zero, List.set_cons_succ]
      refine wpAnyE_take (i := 3) (oi := ⟨some 49, Op.move (Operand.tmp 52), 52, _, _, _⟩) (v := ?_) rfl (by kernel_rfl) (by kernel_rfl) (by kernel_rfl) (by kernel_rfl) (by kernel_rfl) (fun _ _ _ h => nomatch h.1) (by rfl) ?hykr5_8 (hS3) ?hrkr5_8
      case hykr5_8 => (intro wS hSw; clear hSw; go_simp; (try with_reducible rfl))
      all_goals try simp only [Act.put, List.setIfInBounds_toArray, List.set_cons_zero, List.set_cons_succ]
      refine wpAnyF_take (i := 4) (oi := ⟨some 53, Op.extract (Operand.tmp 49) 0, 25, _, _, _⟩) (v := ?_) rfl (by rfl) (by kernel_rfl) (by kernel_rfl) (by kernel_rfl) (fun _ _ _ h => nomatch h.1) (by rfl) ?hykr5_9 ?hrkr5_9
      case hykr5_9 => (intro wS; go_simp; (try with_reducible rfl))
      all_goals try simp only [Act.put, List.setIfInBounds_toArray, List.set_cons_zero, List.set_cons_succ]
      refine wpAnyF_take (i := 5) (oi := ⟨some 54, Op.extract (Operand.tmp 49) 1, 47, _, _, _⟩) (v := ?_) rfl (by rfl) (by kernel_rfl) (by kernel_rfl) (by kernel_rfl) (fun _ _ _ h => nomatch h.1) (by rfl) ?hykr5_10 ?hrkr5_10
      case hykr5_10 => (intro wS; go_simp; (try with_reducible rfl))
      all_goals try simp only [Act.put, List.setIfInBounds_toArray, List.set_cons_zero, List.set_cons_succ]
      refine wpAnyD_one (i := 7) (oi := ⟨none, Op.store 25 (Operand.tmp 9) (Operand.tmp 53), 0, _, _, _⟩) rfl (by kernel_rfl) (by rfl) (fun K hK => ?_)
      have z0 := HX3.out.cell 0 rfl
      have z1 := HX3.out.cell 1 rfl
      have z2 := HX3.out.cell 2 rfl
      have y0 := HX3.out.fz 0
      have y1 := HX3.out.fz 1
      have y2 := HX3.out.fz 2
      go_simp
      clear z0 z1 z2 y0 y1 y2
      refine hK _ _ (fun h => absurd h (by decide)) ?_
      clear hK K
      try simp only [Act.put]
      refine wpAnyD_one (i := 8) (oi := ⟨some 10, Op.assign (Operand.tmp 54), 47, _, _, _⟩) rfl (by kernel_rfl) (by rfl) (fun K hK => ?_)
      go_simp
      refine hK _ _ (fun h => absurd h (by decide)) ?_
      clear hK K
      try simp only [Act.put, List.setIfInBounds_toArray, List.set_cons_zero, List.set_cons_succ]
      refine wpAnyD_done (by kernel_rfl) ?_ _
      refine ⟨rfl, Ab, cb, At, ct, bn, rfl, ?_⟩
      exact LB.into HL4.out.sm.t HB3.out HX3.out HBN.out HN.out
  rintro _ W6 ⟨A5, c5, At, ct, b5, rfl, hl, hb⟩
  have HL5 := Lib.hid hl
  simp only [Act.put, List.setIfInBounds_toArray, List.set_cons_zero, List.set_cons_succ]
  have HL1 := Lib.hid (HL1.out.to hb)
  have HL2 := Lib.hid (HL2.out.to hb)
  have HL3 := Lib.hid (HL3.out.to hb)
  have HL4 := Lib.hid (HL4.out.to hb)
  have HB := Lib.hid (HB.out.trans (hb.mono HB.out.size))
  clear hl hb
  have q0 := HL5.out.bx.cell 0 rfl
  have q1 := HL5.out.bx.cell 1 rfl
  have q2 := HL5.out.bx.cell 2 rfl
  go_upto_region 7 with (first
    | (go_at_call 18; refine (ex_strike (l2 := exK) 2 2 ex_oks.2.2.1.1 rfl HL5.out.sm ex_find.2.2.1 (by decide)).mono ?_; rintro e V1 ⟨Ab, cb, rfl, hm, -, hb⟩; have HM1 := Lib.hid hm; have HV1 := Lib.hid hb; clear hm hb)
    | fail)
  obtain ⟨W7, hW⟩ : ∃ W7, V1.alloc (.cells #[.int .i64 500, .int .i64 4, .slice Ab exK.length cb] 25) = W7 := ⟨_, rfl⟩
  have hl := LB.fresh HM1.out
  obtain ⟨b6, hbk⟩ : ∃ b6, V1.heap.size = b6 := ⟨_, rfl⟩
  obtain ⟨A6, hAk⟩ : ∃ A6, Ab = A6 := ⟨_, rfl⟩
  obtain ⟨c6, hck⟩ : ∃ c6, cb = c6 := ⟨_, rfl⟩
  rw [hW] at hl ⊢
  rw [hbk, hAk, hck]
  have hb : Below W6.heap.size W6 W7 := HV1.out.trans (hl.2.mono HV1.out.size)
  have HL6 : Hid (LB W7 b6 A6 c6 exK) := Lib.hid (by rw [← hbk, ← hAk, ← hck]; exact hl.1)
  have HL1 := Lib.hid (HL1.out.to hb)
  have HL2 := Lib.hid (HL2.out.to hb)
  have HL3 := Lib.hid (HL3.out.to hb)
  have HL4 := Lib.hid (HL4.out.to hb)
  have HL5 := Lib.hid (HL5.out.to hb)
  have HB := Lib.hid (HB.out.trans (hb.mono HB.out.size))
  clear hl hb hW hbk hAk hck q0 q1 q2
  have q0 := HL6.out.bx.cell 0 rfl
  have q1 := HL6.out.bx.cell 1 rfl
  have q2 := HL6.out.bx.cell 2 rfl
  go_upto_region 8 with (first
    | (go_at_call 18; refine (ex_strike (l2 := exM) 0 0 ex_oks.2.2.1.2 rfl HL6.out.sm ex_find.2.2.2 (by decide)).mono ?_; rintro e V1 ⟨Ab, cb, rfl, hm, -, hb⟩; have HM1 := Lib.hid hm; have HV1 := Lib.hid hb; clear hm hb)
    | fail)
  obtain ⟨W8, hW⟩ : ∃ W8, V1.alloc (.cells #[.int .i64 500, .int .i64 4, .slice Ab exM.length cb] 25) = W8 := ⟨_, rfl⟩
  have hl := LB.fresh HM1.out
  obtain ⟨b7, hbk⟩ : ∃ b7, V1.heap.size = b7 := ⟨_, rfl⟩
  obtain ⟨A7, hAk⟩ : ∃ A7, Ab = A7 := ⟨_, rfl⟩
  obtain ⟨c7, hck⟩ : ∃ c7, cb = c7 := ⟨_, rfl⟩
  rw [hW] at hl ⊢
  rw [hbk, hAk, hck]
  have hb : Below W7.heap.size W7 W8 := HV1.out.trans (hl.2.mono HV1.out.size)
  have HL7 : Hid (LB W8 b7 A7 c7 exM) := Lib.hid (by rw [← hbk, ← hAk, ← hck]; exact hl.1)
  have HL1 := Lib.hid (HL1.out.to hb)
  have HL2 := Lib.hid (HL2.out.to hb)
  have HL3 := Lib.hid (HL3.out.to hb)
  have HL4 := Lib.hid (HL4.out.to hb)
  have HL5 := Lib.hid (HL5.out.to hb)
  have HL6 := Lib.hid (HL6.out.to hb)
  have HB := Lib.hid (HB.out.trans (hb.mono HB.out.size))
  clear hl hb hW hbk hAk hck q0 q1 q2
  have q0 := HL3.out.bx.cell 0 rfl
  have q1 := HL3.out.bx.cell 1 rfl
  have q2 := HL3.out.bx.cell 2 rfl
  go_upto_region 9 with (first
    | (go_at_call 10; refine (ex_where (e := 0) (v := 7) (wd := 4) (n := 2) (s := 2) (i := 1) ex_oks.2.1.1 HL3.out.sm ex_where1).mono ?_; rintro e V1 ⟨rfl, hb⟩; have HV1 := Lib.hid hb; clear hb)
    | fail)
  obtain ⟨W9, hW⟩ : ∃ W9, V1.alloc (.cells #[.int .i64 2, .int .i64 2] 37) = W9 := ⟨_, rfl⟩
  have hb2 : Below V1.heap.size V1 W9 := by rw [← hW]; exact (Below.refl _ _).alloc (Nat.le_refl _) _
  have hx : ABox W9 V1.heap.size 37 [.int .i64 2, .int .i64 2] := by rw [← hW]; exact heap_alloc_new V1 _
  obtain ⟨b8, hbk⟩ : ∃ b8, V1.heap.size = b8 := ⟨_, rfl⟩
  rw [hW, hbk]
  rw [hbk] at hx
  have hb : Below W8.heap.size W8 W9 := HV1.out.trans (hb2.mono HV1.out.size)
  have HX8 := Lib.hid hx
  have HL1 := Lib.hid (HL1.out.to hb)
  have HL2 := Lib.hid (HL2.out.to hb)
  have HL3 := Lib.hid (HL3.out.to hb)
  have HL4 := Lib.hid (HL4.out.to hb)
  have HL5 := Lib.hid (HL5.out.to hb)
  have HL6 := Lib.hid (HL6.out.to hb)
  have HL7 := Lib.hid (HL7.out.to hb)
  have HB := Lib.hid (HB.out.trans (hb.mono HB.out.size))
  clear hb hb2 hx hW hbk q0 q1 q2 HV1
  have q0 := HL3.out.bx.cell 0 rfl
  have q1 := HL3.out.bx.cell 1 rfl
  have q2 := HL3.out.bx.cell 2 rfl
  go_upto_region 10 with (first
    | (go_at_call 10; refine (ex_where (e := 0) (v := 3) (wd := 4) (n := 2) (s := 0) (i := 1) ex_oks.2.1.1 HL3.out.sm ex_where2).mono ?_; rintro e V1 ⟨rfl, hb⟩; have HV1 := Lib.hid hb; clear hb)
    | fail)
  obtain ⟨W10, hW⟩ : ∃ W10, V1.alloc (.cells #[.int .i64 2, .int .i64 0] 37) = W10 := ⟨_, rfl⟩
  have hb2 : Below V1.heap.size V1 W10 := by rw [← hW]; exact (Below.refl _ _).alloc (Nat.le_refl _) _
  have hx : ABox W10 V1.heap.size 37 [.int .i64 2, .int .i64 0] := by rw [← hW]; exact heap_alloc_new V1 _
  obtain ⟨b9, hbk⟩ : ∃ b9, V1.heap.size = b9 := ⟨_, rfl⟩
  rw [hW, hbk]
  rw [hbk] at hx
  have hb : Below W9.heap.size W9 W10 := HV1.out.trans (hb2.mono HV1.out.size)
  have HX9 := Lib.hid hx
  have HL1 := Lib.hid (HL1.out.to hb)
  have HL2 := Lib.hid (HL2.out.to hb)
  have HL3 := Lib.hid (HL3.out.to hb)
  have HL4 := Lib.hid (HL4.out.to hb)
  have HL5 := Lib.hid (HL5.out.to hb)
  have HL6 := Lib.hid (HL6.out.to hb)
  have HL7 := Lib.hid (HL7.out.to hb)
  have HX8 := Lib.hid (HX8.out.to hb)
  have HB := Lib.hid (HB.out.trans (hb.mono HB.out.size))
  clear hb hb2 hx hW hbk q0 q1 q2 HV1
  go_upto_region 11 with (fail)
  have q0 := HL2.out.bx.cell 0 rfl
  have q1 := HL2.out.bx.cell 1 rfl
  have q2 := HL2.out.bx.cell 2 rfl
  go_wp2_with fail
  refine (ex_labels ex_oks.1.2.2.1 HL2.out.sm ex_ok.1.2 ex_labA).mono ?_
  rintro e W11 ⟨rfl, hb⟩
  have HL1 := Lib.hid (HL1.out.to hb)
  have HL2 := Lib.hid (HL2.out.to hb)
  have HL3 := Lib.hid (HL3.out.to hb)
  have HL4 := Lib.hid (HL4.out.to hb)
  have HL5 := Lib.hid (HL5.out.to hb)
  have HL6 := Lib.hid (HL6.out.to hb)
  have HL7 := Lib.hid (HL7.out.to hb)
  have HX8 := Lib.hid (HX8.out.to hb)
  have HX9 := Lib.hid (HX9.out.to hb)
  have HB := Lib.hid (HB.out.trans (hb.mono HB.out.size))
  clear hb q0 q1 q2
  have q0 := HL3.out.bx.cell 0 rfl
  have q1 := HL3.out.bx.cell 1 rfl
  have q2 := HL3.out.bx.cell 2 rfl
  go_wp2_with fail
  refine (ex_labels ex_oks.2.1.1 HL3.out.sm ex_ok.2.1.1 ex_labC).mono ?_
  rintro e W12 ⟨rfl, hb⟩
  have HL1 := Lib.hid (HL1.out.to hb)
  have HL2 := Lib.hid (HL2.out.to hb)
  have HL3 := Lib.hid (HL3.out.to hb)
  have HL4 := Lib.hid (HL4.out.to hb)
  have HL5 := Lib.hid (HL5.out.to hb)
  have HL6 := Lib.hid (HL6.out.to hb)
  have HL7 := Lib.hid (HL7.out.to hb)
  have HX8 := Lib.hid (HX8.out.to hb)
  have HX9 := Lib.hid (HX9.out.to hb)
  have HB := Lib.hid (HB.out.trans (hb.mono HB.out.size))
  clear hb q0 q1 q2
  have q0 := HL4.out.bx.cell 0 rfl
  have q1 := HL4.out.bx.cell 1 rfl
  have q2 := HL4.out.bx.cell 2 rfl
  go_wp2_with fail
  refine (ex_labels ex_oks.2.1.2 HL4.out.sm ex_ok.2.1.2 ex_labD).mono ?_
  rintro e W13 ⟨rfl, hb⟩
  have HL1 := Lib.hid (HL1.out.to hb)
  have HL2 := Lib.hid (HL2.out.to hb)
  have HL3 := Lib.hid (HL3.out.to hb)
  have HL4 := Lib.hid (HL4.out.to hb)
  have HL5 := Lib.hid (HL5.out.to hb)
  have HL6 := Lib.hid (HL6.out.to hb)
  have HL7 := Lib.hid (HL7.out.to hb)
  have HX8 := Lib.hid (HX8.out.to hb)
  have HX9 := Lib.hid (HX9.out.to hb)
  have HB := Lib.hid (HB.out.trans (hb.mono HB.out.size))
  clear hb q0 q1 q2
  have q0 := HL5.out.bx.cell 0 rfl
  have q1 := HL5.out.bx.cell 1 rfl
  have q2 := HL5.out.bx.cell 2 rfl
  go_wp2_with fail
  refine (ex_labels ex_oks.2.2.1.1 HL5.out.sm ex_ok.2.2.1.1 ex_labI).mono ?_
  rintro e W14 ⟨rfl, hb⟩
  have HL1 := Lib.hid (HL1.out.to hb)
  have HL2 := Lib.hid (HL2.out.to hb)
  have HL3 := Lib.hid (HL3.out.to hb)
  have HL4 := Lib.hid (HL4.out.to hb)
  have HL5 := Lib.hid (HL5.out.to hb)
  have HL6 := Lib.hid (HL6.out.to hb)
  have HL7 := Lib.hid (HL7.out.to hb)
  have HX8 := Lib.hid (HX8.out.to hb)
  have HX9 := Lib.hid (HX9.out.to hb)
  have HB := Lib.hid (HB.out.trans (hb.mono HB.out.size))
  clear hb q0 q1 q2
  have l0 := HX8.out.cell 0 rfl
  have l1 := HX8.out.cell 1 rfl
  have m0 := HX9.out.cell 0 rfl
  have m1 := HX9.out.cell 1 rfl
  go_upto_region 13 with (fail)
  clear l0 l1 m0 m1
  refine wp_region_rely [9, 11, 16, 18] (fun i => if i = 9 then SP.val (.string ⟨#[49, 32, 50, 32, 50, 97, 32, 50, 98, 32, 50, 99, 32, 51, 32]⟩) else if i = 11 then SP.val (.string ⟨#[49, 32, 50, 32, 50, 97, 32, 50, 98, 32, 50, 99, 32, 51, 32]⟩) else if i = 16 then SP.val (.string ⟨#[49, 32, 50, 32, 50, 97, 32, 50, 98, 32, 50, 99, 32, 51, 32]⟩) else if i = 18 then SP.val (.string ⟨#[49, 32, 50, 32, 50, 97, 32, 50, 98, 32, 50, 99, 32, 51, 32]⟩) else SP.any) 22 (by kernel_rfl) (by kernel_rfl) ?_
  intro T _ g hg hgm
  have q60 : ∀ d, (g d).cell? ⟨b6, 0, none⟩ = some (.int .i64 500) := fun d => (HL6.out.to (hg d)).bx.cell 0 rfl
  have q61 : ∀ d, (g d).cell? ⟨b6, 1, none⟩ = some (.int .i64 4) := fun d => (HL6.out.to (hg d)).bx.cell 1 rfl
  have q62 : ∀ d, (g d).cell? ⟨b6, 2, none⟩ = some (.slice A6 exK.length c6) := fun d => (HL6.out.to (hg d)).bx.cell 2 rfl
  have q30 : ∀ d, (g d).cell? ⟨b3, 0, none⟩ = some (.int .i64 500) := fun d => (HL3.out.to (hg d)).bx.cell 0 rfl
  have q31 : ∀ d, (g d).cell? ⟨b3, 1, none⟩ = some (.int .i64 4) := fun d => (HL3.out.to (hg d)).bx.cell 1 rfl
  have q32 : ∀ d, (g d).cell? ⟨b3, 2, none⟩ = some (.slice A3 exC.length c3) := fun d => (HL3.out.to (hg d)).bx.cell 2 rfl
  have q70 : ∀ d, (g d).cell? ⟨b7, 0, none⟩ = some (.int .i64 500) := fun d => (HL7.out.to (hg d)).bx.cell 0 rfl
  have q71 : ∀ d, (g d).cell? ⟨b7, 1, none⟩ = some (.int .i64 4) := fun d => (HL7.out.to (hg d)).bx.cell 1 rfl
  have q72 : ∀ d, (g d).cell? ⟨b7, 2, none⟩ = some (.slice A7 exM.length c7) := fun d => (HL7.out.to (hg d)).bx.cell 2 rfl
  repeat (refine wpR_pure (by rfl) fun Kq hq => ?_; go_big_quiet_step (fail); refine wpQuiet_nil (hq _ ?_); clear hq Kq)
  refine wpR_busy (by rfl) (by rfl) (fun d hG K Q hK => ?_) (fun v d hG hp Kr hr => ?_)
  · go_simp
    go_at_call 34
    refine (ex_labels ex_oks.2.2.1.2 (HL6.out.to (hg d)).sm ex_ok.2.2.1.2 (ex_labK.trans ex_labC)).mono ?_
    rintro e W1 ⟨rfl, hb1⟩
    go_simp
    exact hK _ _ hb1 (rfl)
  have hp : v = .string ⟨#[49, 32, 50, 32, 50, 97, 32, 50, 98, 32, 50, 99, 32, 51, 32]⟩ := hp
  subst hp
  (try clear hp); clear hG
  simp only [Act.put, List.setIfInBounds_toArray, List.set_cons_zero, List.set_cons_succ]
  refine hr _ ?_
  clear hr Kr
  repeat (refine wpR_pure (by rfl) fun Kq hq => ?_; go_big_quiet_step (fail); refine wpQuiet_nil (hq _ ?_); clear hq Kq)
  refine wpR_busy (by rfl) (by rfl) (fun d hG K Q hK => ?_) (fun v d hG hp Kr hr => ?_)
  · go_simp
    go_at_call 34
    refine (ex_labels ex_oks.2.1.1 (HL3.out.to (hg d)).sm ex_ok.2.1.1 ex_labC).mono ?_
    rintro e W1 ⟨rfl, hb1⟩
    go_simp
    exact hK _ _ hb1 (rfl)
  have hp : v = .string ⟨#[49, 32, 50, 32, 50, 97, 32, 50, 98, 32, 50, 99, 32, 51, 32]⟩ := hp
  subst hp
  (try clear hp); clear hG
  simp only [Act.put, List.setIfInBounds_toArray, List.set_cons_zero, List.set_cons_succ]
  refine hr _ ?_
  clear hr Kr
  repeat (refine wpR_pure (by rfl) fun Kq hq => ?_; go_big_quiet_step (fail); refine wpQuiet_nil (hq _ ?_); clear hq Kq)
  refine wpR_busy (by rfl) (by rfl) (fun d hG K Q hK => ?_) (fun v d hG hp Kr hr => ?_)
  · go_simp
    go_at_call 34
    refine (ex_labels ex_oks.2.2.2 (HL7.out.to (hg d)).sm ex_ok.2.2.2 (ex_labM.trans ex_labC)).mono ?_
    rintro e W1 ⟨rfl, hb1⟩
    go_simp
    exact hK _ _ hb1 (rfl)
  have hp : v = .string ⟨#[49, 32, 50, 32, 50, 97, 32, 50, 98, 32, 50, 99, 32, 51, 32]⟩ := hp
  subst hp
  (try clear hp); clear hG
  simp only [Act.put, List.setIfInBounds_toArray, List.set_cons_zero, List.set_cons_succ]
  refine hr _ ?_
  clear hr Kr
  repeat (refine wpR_pure (by rfl) fun Kq hq => ?_; go_big_quiet_step (fail); refine wpQuiet_nil (hq _ ?_); clear hq Kq)
  refine wpR_busy (by rfl) (by rfl) (fun d hG K Q hK => ?_) (fun v d hG hp Kr hr => ?_)
  · go_simp
    go_at_call 34
    refine (ex_labels ex_oks.2.1.1 (HL3.out.to (hg d)).sm ex_ok.2.1.1 ex_labC).mono ?_
    rintro e W1 ⟨rfl, hb1⟩
    go_simp
    exact hK _ _ hb1 (rfl)
  have hp : v = .string ⟨#[49, 32, 50, 32, 50, 97, 32, 50, 98, 32, 50, 99, 32, 51, 32]⟩ := hp
  subst hp
  (try clear hp); clear hG
  simp only [Act.put, List.setIfInBounds_toArray, List.set_cons_zero, List.set_cons_succ]
  refine hr _ ?_
  clear hr Kr
  repeat (refine wpR_pure (by rfl) fun Kq hq => ?_; go_big_quiet_step (fail); refine wpQuiet_nil (hq _ ?_); clear hq Kq)
  refine wpR_end (by kernel_rfl) (fun d hG => ?_) _

  have HBd := Lib.hid (hg d)
  clear hG hg hgm
  unfold Exit.then
  go_wp2_with fail
  go_ret
  exact ⟨rfl, HB.out.trans (HBd.out.mono HB.out.size)⟩
end Go.Proofs.YtakaielemicpkaaDoor
namespace Go.Proofs.YtakaielemicpkaaDoor
open Go.RowKit
/-- A book's variable. -/
structure LM (m h : Int) (w : World) (b : Nat) (A : Option Addr) (c : Nat) (l : List SectP) : Prop where
  bx : ABox w b 25 [.int .i64 m, .int .i64 h, .slice A l.length c]
  sm : SM w A c l
theorem LM.to {m h : Int} {w w' : World} {b c : Nat} {A : Option Addr} {l : List SectP} (H : LM m h w b A c l) (hb : Below w.heap.size w w') : LM m h w' b A c l := ⟨H.bx.to hb, H.sm.to hb⟩
theorem LM.fresh {m h : Int} {w : World} {A : Option Addr} {c : Nat} {l : List SectP} (H : SM w A c l) : LM m h (w.alloc (.cells #[.int .i64 m, .int .i64 h, .slice A l.length c] 25)) w.heap.size A c l ∧ Below w.heap.size w (w.alloc (.cells #[.int .i64 m, .int .i64 h, .slice A l.length c] 25)) :=
  have hb : Below w.heap.size w (w.alloc (.cells #[.int .i64 m, .int .i64 h, .slice A l.length c] 25)) := (Below.refl _ _).alloc (Nat.le_refl _) _
  ⟨⟨heap_alloc_new w _, H.to hb⟩, hb⟩
/-- A text's variable. -/
structure LT (w : World) (x : Nat) (A : Option Addr) (c : Nat) (B : Option Addr) (d : Nat) (a b : List (List Word)) : Prop where
  bx : ABox w x 35 [.slice A a.length c, .slice B b.length d]
  tm : TM w A c B d a b
theorem LT.to {w w' : World} {x c d : Nat} {A B : Option Addr} {a b : List (List Word)} (H : LT w x A c B d a b) (hb : Below w.heap.size w w') : LT w' x A c B d a b := ⟨H.bx.to hb, H.tm.to hb⟩
theorem LT.fresh {w : World} {A B : Option Addr} {c d : Nat} {a b : List (List Word)} (H : TM w A c B d a b) : LT (w.alloc (.cells #[.slice A a.length c, .slice B b.length d] 35)) w.heap.size A c B d a b ∧ Below w.heap.size w (w.alloc (.cells #[.slice A a.length c, .slice B b.length d] 35)) :=
  have hb : Below w.heap.size w (w.alloc (.cells #[.slice A a.length c, .slice B b.length d] 35)) := (Below.refl _ _).alloc (Nat.le_refl _) _
  ⟨⟨heap_alloc_new w _, H.to hb⟩, hb⟩
set_option maxRecDepth 100000 in
set_option maxHeartbeats 16000000 in
theorem fresh_any (A0 : Option Addr) (c0 : Nat) (l0 : List Int) (A1 : Option Addr) (c1 : Nat) (l1 : List Int) (A2 : Option Addr) (c2 : Nat) (l2 : List Int) (W1 : World) (hs0 : Sl W1 (fun b => b < W1.heap.size) A0 c0 l0) (hs1 : Sl W1 (fun b => b < W1.heap.size) A1 c1 l1) (hs2 : Sl W1 (fun b => b < W1.heap.size) A2 c2 l2) (hT : Tabs W1) :
    Calls Tryd.prog 5 #[.slice A0 l0.length c0, .slice A1 l1.length c1, .slice A2 l2.length c2] W1 fun e w' => e = .returned (.bool true) ∧ Below W1.heap.size W1 w' := by
  have HB : Hid (Below W1.heap.size W1 W1) := Lib.hid (Below.refl _ _)
  have HT := Lib.hid hT
  have HI0 := Lib.hid hs0
  have HI1 := Lib.hid hs1
  have HI2 := Lib.hid hs2
  clear hT hs0 hs1 hs2
  go_enter Tryd.func5, Tryd.ntmps5
  go_upto_region 2 with (first
    | (go_at_call 7; refine (gbook_any A0 c0 l0 W1 HI0.out).mono ?_; rintro e V1 ⟨m, h, Ab1, cb1, ss, rfl, hg, hs, hb⟩; have HG := Lib.hid hg; have HV1 := Lib.hid hb; have hl := LM.fresh (m := m) (h := h) (⟨HT.out.to hb, hs.mono fun i hi _ => hi.2⟩ : SM V1 Ab1 cb1 ss); clear hg hs hb)
    | fail)
  obtain ⟨W2, hW⟩ : ∃ W2, V1.alloc (.cells #[.int .i64 m, .int .i64 h, .slice Ab1 ss.length cb1] 25) = W2 := ⟨_, rfl⟩
  obtain ⟨b1, hbk⟩ : ∃ b1, V1.heap.size = b1 := ⟨_, rfl⟩
  rw [hW] at hl
  rw [hW, hbk]
  have hb : Below W1.heap.size W1 W2 := HV1.out.trans (hl.2.mono HV1.out.size)
  have H1v := Lib.hid hl.1
  rw [hbk] at H1v
  have HB := Lib.hid (HB.out.trans (hb.mono HB.out.size))
  clear hl hb hW hbk
  have HZ := Lib.hid HG.out.siz
  have HTM := Lib.hid HG.out.tame
  have HLN : Hid (ss.length ≤ 4) := Lib.hid HG.out.n
  have HEN : Hid (∀ i (hi : i < ss.length), ss[i].entry ≠ 60000) := Lib.hid (fun i hi e => by have := HG.out.entry i hi; omega)
  go_upto_region 3 with (first
    | (go_at_call 15; refine (text_any A1 c1 l1 W2 (HI1.out.to HB.out)).mono ?_; intro e V1 hT1; obtain ⟨At2, ct2, Bt2, dt2, ta2, tb2, rfl, hg, ht, hb⟩ := hT1.own.open; have HG2 := Lib.hid hg; have HV1 := Lib.hid hb; have hl := LT.fresh ht; clear hg ht hb hT1)
    | fail)
  obtain ⟨W3, hW⟩ : ∃ W3, V1.alloc (.cells #[.slice At2 ta2.length ct2, .slice Bt2 tb2.length dt2] 35) = W3 := ⟨_, rfl⟩
  obtain ⟨b2, hbk⟩ : ∃ b2, V1.heap.size = b2 := ⟨_, rfl⟩
  rw [hW] at hl
  rw [hW, hbk]
  have hb : Below W2.heap.size W2 W3 := HV1.out.trans (hl.2.mono HV1.out.size)
  have H2v := Lib.hid hl.1
  rw [hbk] at H2v
  have H1v := Lib.hid (H1v.out.to hb)
  have HB := Lib.hid (HB.out.trans (hb.mono HB.out.size))
  clear hl hb hW hbk
  go_upto_region 4 with (first
    | (go_at_call 15; refine (text_any A2 c2 l2 W3 (HI2.out.to HB.out)).mono ?_; intro e V1 hT1; obtain ⟨At3, ct3, Bt3, dt3, ta3, tb3, rfl, hg, ht, hb⟩ := hT1.own.open; have HG3 := Lib.hid hg; have HV1 := Lib.hid hb; have hl := LT.fresh ht; clear hg ht hb hT1)
    | fail)
  obtain ⟨W4, hW⟩ : ∃ W4, V1.alloc (.cells #[.slice At3 ta3.length ct3, .slice Bt3 tb3.length dt3] 35) = W4 := ⟨_, rfl⟩
  obtain ⟨b3, hbk⟩ : ∃ b3, V1.heap.size = b3 := ⟨_, rfl⟩
  rw [hW] at hl
  rw [hW, hbk]
  have hb : Below W3.heap.size W3 W4 := HV1.out.trans (hl.2.mono HV1.out.size)
  have H3v := Lib.hid hl.1
  rw [hbk] at H3v
  have H1v := Lib.hid (H1v.out.to hb)
  have H2v := Lib.hid (H2v.out.to hb)
  have HB := Lib.hid (HB.out.trans (hb.mono HB.out.size))
  clear hl hb hW hbk
  obtain ⟨LA, hLA⟩ : ∃ LA, ss ++ [(⟨60000, false, [100], [⟨ta2, tb2⟩]⟩ : SectP)] = LA := ⟨_, rfl⟩
  obtain ⟨LB, hLB⟩ : ∃ LB, ss ++ [(⟨60000, false, [101], [⟨ta3, tb3⟩]⟩ : SectP)] = LB := ⟨_, rfl⟩
  have HLA := Lib.hid hLA
  have HLB := Lib.hid hLB
  have hsh := (HTM.out.push (e := 60000) (v := 101) (t := ⟨ta3, tb3⟩) HLN.out HG3.out).short
  rw [hLB] at hsh
  have HSH := Lib.hid hsh
  clear hLA hLB hsh
  have hc := bk_add 60000 100 HZ.out HTM.out HLN.out HG2.out H1v.out.sm H2v.out.tm (findP_none HEN.out) (by decide) (by decide)
  rw [HLA.out] at hc
  have HC4 := Lib.hid hc
  clear hc
  have q0 := H1v.out.bx.cell 0 rfl
  have q1 := H1v.out.bx.cell 1 rfl
  have q2 := H1v.out.bx.cell 2 rfl
  have t0 := H2v.out.bx.cell 0 rfl
  have t1 := H2v.out.bx.cell 1 rfl
  go_upto_region 5 with (first
    | (go_at_call 16; refine HC4.out.mono ?_; rintro e V1 ⟨Ab4, cb4, rfl, hm, hb⟩; have HV1 := Lib.hid hb; have hl := LM.fresh (m := m) (h := h) hm; clear hm hb)
    | fail)
  obtain ⟨W5, hW⟩ : ∃ W5, V1.alloc (.cells #[.int .i64 m, .int .i64 h, .slice Ab4 (LA).length cb4] 25) = W5 := ⟨_, rfl⟩
  obtain ⟨b4, hbk⟩ : ∃ b4, V1.heap.size = b4 := ⟨_, rfl⟩
  rw [hW] at hl
  rw [hW, hbk]
  have hb : Below W4.heap.size W4 W5 := HV1.out.trans (hl.2.mono HV1.out.size)
  have H4v := Lib.hid hl.1
  rw [hbk] at H4v
  have H1v := Lib.hid (H1v.out.to hb)
  have H2v := Lib.hid (H2v.out.to hb)
  have H3v := Lib.hid (H3v.out.to hb)
  have HB := Lib.hid (HB.out.trans (hb.mono HB.out.size))
  clear hl hb hW hbk q0 q1 q2 t0 t1
  have hm := H4v.out.sm
  rw [← HLA.out] at hm
  have hc := bk_renew (t0 := ⟨ta2, tb2⟩) 60000 101 HZ.out HTM.out HLN.out HG3.out HG2.out hm H3v.out.tm HEN.out (by decide) (by decide)
  rw [HLA.out, HLB.out] at hc
  have HC5 := Lib.hid hc
  clear hc hm
  have q0 := H4v.out.bx.cell 0 rfl
  have q1 := H4v.out.bx.cell 1 rfl
  have q2 := H4v.out.bx.cell 2 rfl
  have t0 := H3v.out.bx.cell 0 rfl
  have t1 := H3v.out.bx.cell 1 rfl
  go_upto_region 6 with (first
    | (go_at_call 17; refine HC5.out.mono ?_; rintro e V1 ⟨Ab5, cb5, rfl, hm, hb⟩; have HV1 := Lib.hid hb; have hl := LM.fresh (m := m) (h := h) hm; clear hm hb)
    | fail)
  obtain ⟨W6, hW⟩ : ∃ W6, V1.alloc (.cells #[.int .i64 m, .int .i64 h, .slice Ab5 (LB).length cb5] 25) = W6 := ⟨_, rfl⟩
  obtain ⟨b5, hbk⟩ : ∃ b5, V1.heap.size = b5 := ⟨_, rfl⟩
  rw [hW] at hl
  rw [hW, hbk]
  have hb : Below W5.heap.size W5 W6 := HV1.out.trans (hl.2.mono HV1.out.size)
  have H5v := Lib.hid hl.1
  rw [hbk] at H5v
  have H1v := Lib.hid (H1v.out.to hb)
  have H2v := Lib.hid (H2v.out.to hb)
  have H3v := Lib.hid (H3v.out.to hb)
  have H4v := Lib.hid (H4v.out.to hb)
  have HB := Lib.hid (HB.out.trans (hb.mono HB.out.size))
  clear hl hb hW hbk q0 q1 q2 t0 t1
  have hc := bk_add 60000 101 HZ.out HTM.out HLN.out HG3.out H1v.out.sm H3v.out.tm (findP_none HEN.out) (by decide) (by decide)
  rw [HLB.out] at hc
  have HC6 := Lib.hid hc
  clear hc
  have q0 := H1v.out.bx.cell 0 rfl
  have q1 := H1v.out.bx.cell 1 rfl
  have q2 := H1v.out.bx.cell 2 rfl
  have t0 := H3v.out.bx.cell 0 rfl
  have t1 := H3v.out.bx.cell 1 rfl
  go_upto_region 7 with (first
    | (go_at_call 16; refine HC6.out.mono ?_; rintro e V1 ⟨Ab6, cb6, rfl, hm, hb⟩; have HV1 := Lib.hid hb; have hl := LM.fresh (m := m) (h := h) hm; clear hm hb)
    | fail)
  obtain ⟨W7, hW⟩ : ∃ W7, V1.alloc (.cells #[.int .i64 m, .int .i64 h, .slice Ab6 (LB).length cb6] 25) = W7 := ⟨_, rfl⟩
  obtain ⟨b6, hbk⟩ : ∃ b6, V1.heap.size = b6 := ⟨_, rfl⟩
  rw [hW] at hl
  rw [hW, hbk]
  have hb : Below W6.heap.size W6 W7 := HV1.out.trans (hl.2.mono HV1.out.size)
  have H6v := Lib.hid hl.1
  rw [hbk] at H6v
  have H1v := Lib.hid (H1v.out.to hb)
  have H2v := Lib.hid (H2v.out.to hb)
  have H3v := Lib.hid (H3v.out.to hb)
  have H4v := Lib.hid (H4v.out.to hb)
  have H5v := Lib.hid (H5v.out.to hb)
  have HB := Lib.hid (HB.out.trans (hb.mono HB.out.size))
  clear hl hb hW hbk q0 q1 q2 t0 t1
  have hm := H5v.out.sm
  rw [← HLB.out] at hm
  have hc := bk_unadd (m := m) (h := h) (t0 := ⟨ta3, tb3⟩) 60000 HTM.out HLN.out HG3.out hm HEN.out
  rw [HLB.out] at hc
  have HC7 := Lib.hid hc
  clear hc hm
  have q0 := H5v.out.bx.cell 0 rfl
  have q1 := H5v.out.bx.cell 1 rfl
  have q2 := H5v.out.bx.cell 2 rfl
  go_upto_region 8 with (first
    | (go_at_call 18; refine HC7.out.mono ?_; rintro e V1 ⟨Ab7, cb7, rfl, hm, hb⟩; have HV1 := Lib.hid hb; have hl := LM.fresh (m := m) (h := h) hm; clear hm hb)
    | fail)
  obtain ⟨W8, hW⟩ : ∃ W8, V1.alloc (.cells #[.int .i64 m, .int .i64 h, .slice Ab7 (ss).length cb7] 25) = W8 := ⟨_, rfl⟩
  obtain ⟨b7, hbk⟩ : ∃ b7, V1.heap.size = b7 := ⟨_, rfl⟩
  rw [hW] at hl
  rw [hW, hbk]
  have hb : Below W7.heap.size W7 W8 := HV1.out.trans (hl.2.mono HV1.out.size)
  have H7v := Lib.hid hl.1
  rw [hbk] at H7v
  have H1v := Lib.hid (H1v.out.to hb)
  have H2v := Lib.hid (H2v.out.to hb)
  have H3v := Lib.hid (H3v.out.to hb)
  have H4v := Lib.hid (H4v.out.to hb)
  have H5v := Lib.hid (H5v.out.to hb)
  have H6v := Lib.hid (H6v.out.to hb)
  have HB := Lib.hid (HB.out.trans (hb.mono HB.out.size))
  clear hl hb hW hbk q0 q1 q2
  have hc := bk_add 60000 101 HZ.out HTM.out HLN.out HG3.out H7v.out.sm H3v.out.tm (findP_none HEN.out) (by decide) (by decide)
  rw [HLB.out] at hc
  have HC8 := Lib.hid hc
  clear hc
  have q0 := H7v.out.bx.cell 0 rfl
  have q1 := H7v.out.bx.cell 1 rfl
  have q2 := H7v.out.bx.cell 2 rfl
  have t0 := H3v.out.bx.cell 0 rfl
  have t1 := H3v.out.bx.cell 1 rfl
  go_upto_region 9 with (first
    | (go_at_call 16; refine HC8.out.mono ?_; rintro e V1 ⟨Ab8, cb8, rfl, hm, hb⟩; have HV1 := Lib.hid hb; have hl := LM.fresh (m := m) (h := h) hm; clear hm hb)
    | fail)
  obtain ⟨W9, hW⟩ : ∃ W9, V1.alloc (.cells #[.int .i64 m, .int .i64 h, .slice Ab8 (LB).length cb8] 25) = W9 := ⟨_, rfl⟩
  obtain ⟨b8, hbk⟩ : ∃ b8, V1.heap.size = b8 := ⟨_, rfl⟩
  rw [hW] at hl
  rw [hW, hbk]
  have hb : Below W8.heap.size W8 W9 := HV1.out.trans (hl.2.mono HV1.out.size)
  have H8v := Lib.hid hl.1
  rw [hbk] at H8v
  have H1v := Lib.hid (H1v.out.to hb)
  have H2v := Lib.hid (H2v.out.to hb)
  have H3v := Lib.hid (H3v.out.to hb)
  have H4v := Lib.hid (H4v.out.to hb)
  have H5v := Lib.hid (H5v.out.to hb)
  have H6v := Lib.hid (H6v.out.to hb)
  have H7v := Lib.hid (H7v.out.to hb)
  have HB := Lib.hid (HB.out.trans (hb.mono HB.out.size))
  clear hl hb hW hbk q0 q1 q2 t0 t1
  go_upto_region 10 with (fail)
  have p0 := H5v.out.bx.cell 0 rfl
  have p1 := H5v.out.bx.cell 1 rfl
  have p2 := H5v.out.bx.cell 2 rfl
  have q0 := H6v.out.bx.cell 0 rfl
  have q1 := H6v.out.bx.cell 1 rfl
  have q2 := H6v.out.bx.cell 2 rfl
  go_wp2_with fail
  refine (sameBook_any Ab5 Ab6 cb5 cb6 (LB).length m h (LB) W9 H5v.out.sm.s H6v.out.sm.s rfl HSH.out).mono ?_
  rintro e W10 ⟨rfl, hb⟩
  have H1v := Lib.hid (H1v.out.to hb)
  have H2v := Lib.hid (H2v.out.to hb)
  have H3v := Lib.hid (H3v.out.to hb)
  have H4v := Lib.hid (H4v.out.to hb)
  have H5v := Lib.hid (H5v.out.to hb)
  have H6v := Lib.hid (H6v.out.to hb)
  have H7v := Lib.hid (H7v.out.to hb)
  have H8v := Lib.hid (H8v.out.to hb)
  have HB := Lib.hid (HB.out.trans (hb.mono HB.out.size))
  clear hb p0 p1 p2 q0 q1 q2
  have p0 := H7v.out.bx.cell 0 rfl
  have p1 := H7v.out.bx.cell 1 rfl
  have p2 := H7v.out.bx.cell 2 rfl
  have q0 := H1v.out.bx.cell 0 rfl
  have q1 := H1v.out.bx.cell 1 rfl
  have q2 := H1v.out.bx.cell 2 rfl
  go_wp2_with fail
  refine (sameBook_any Ab7 Ab1 cb7 cb1 (ss).length m h (ss) W10 H7v.out.sm.s H1v.out.sm.s rfl HTM.out.short).mono ?_
  rintro e W11 ⟨rfl, hb⟩
  have H1v := Lib.hid (H1v.out.to hb)
  have H2v := Lib.hid (H2v.out.to hb)
  have H3v := Lib.hid (H3v.out.to hb)
  have H4v := Lib.hid (H4v.out.to hb)
  have H5v := Lib.hid (H5v.out.to hb)
  have H6v := Lib.hid (H6v.out.to hb)
  have H7v := Lib.hid (H7v.out.to hb)
  have H8v := Lib.hid (H8v.out.to hb)
  have HB := Lib.hid (HB.out.trans (hb.mono HB.out.size))
  clear hb p0 p1 p2 q0 q1 q2
  have p0 := H8v.out.bx.cell 0 rfl
  have p1 := H8v.out.bx.cell 1 rfl
  have p2 := H8v.out.bx.cell 2 rfl
  have q0 := H6v.out.bx.cell 0 rfl
  have q1 := H6v.out.bx.cell 1 rfl
  have q2 := H6v.out.bx.cell 2 rfl
  go_wp2_with fail
  refine (sameBook_any Ab8 Ab6 cb8 cb6 (LB).length m h (LB) W11 H8v.out.sm.s H6v.out.sm.s rfl HSH.out).mono ?_
  rintro e W12 ⟨rfl, hb⟩
  have H1v := Lib.hid (H1v.out.to hb)
  have H2v := Lib.hid (H2v.out.to hb)
  have H3v := Lib.hid (H3v.out.to hb)
  have H4v := Lib.hid (H4v.out.to hb)
  have H5v := Lib.hid (H5v.out.to hb)
  have H6v := Lib.hid (H6v.out.to hb)
  have H7v := Lib.hid (H7v.out.to hb)
  have H8v := Lib.hid (H8v.out.to hb)
  have HB := Lib.hid (HB.out.trans (hb.mono HB.out.size))
  clear hb p0 p1 p2 q0 q1 q2
  go_wp2_with fail
  refine (lives_any W12 (HT.out.to HB.out)).mono ?_
  rintro e W13 ⟨rfl, hb⟩
  have HB := Lib.hid (HB.out.trans (hb.mono HB.out.size))
  clear hb
  go_wp2_with fail
  go_ret
  exact ⟨rfl, HB.out⟩
end Go.Proofs.YtakaielemicpkaaDoor
namespace Go.Proofs.YtakaielemicpkaaDoor
open Go.RowKit
/-- A page but for its label. -/
structure CoreP where
  entry : Int
  ver : Int
  body : List LineP
  notes : List LineP
def PageP.core (p : PageP) : CoreP := ⟨p.entry, p.ver, p.body, p.notes⟩
def coreT (e v : Int) (p : PageP) : CoreP := ⟨e, v, p.body, p.notes⟩
def coreV (m h e : Int) : List Int → List TextP → List CoreP
  | _, [] => []
  | vs, t :: ts => (okPages t.a t.b m h).map (coreT e (vs.headD 0)) ++ coreV m h e vs.tail ts
def coreS (m h : Int) (l : List SectP) : List CoreP := l.flatMap fun s => coreV m h s.entry s.vers s.texts
theorem labelP_core (e v : Int) : ∀ (ps : List PageP) (num suf : Int) (k : Nat), (labelP e v num suf k ps).map PageP.core = ps.map (coreT e v)
  | [], _, _, _ => by simp [labelP]
  | p :: ps, num, suf, k => by
    rw [labelP_cons, List.map_cons, List.map_cons, labelP_core]; rfl
theorem versB_core (m h e : Int) : ∀ (ts : List TextP) (k : Nat) (num suf : Int) (vs : List Int), (versB m h e k num suf vs ts).map PageP.core = coreV m h e vs ts
  | [], _, _, _, _ => by simp [versB, coreV]
  | t :: ts, k, num, suf, vs => by
    rw [versB, List.map_append, labelP_core, versB_core m h e ts]; rfl
theorem sectsB_core (m h : Int) : ∀ (l : List SectP) (num : Int), (sectsB m h num l).map PageP.core = coreS m h l
  | [], _ => rfl
  | s :: l, num => by
    rw [sectsB, List.map_append, versB_core, sectsB_core m h l]; rfl
theorem pagesB_core (m h : Int) (l : List SectP) : (pagesB m h l).map PageP.core = coreS m h l := sectsB_core m h l 0
theorem coreS_drop (m h : Int) (l : List SectP) {i : Nat} (hi : i < l.length) : coreS m h (l.drop i) = coreV m h l[i].entry l[i].vers l[i].texts ++ coreS m h (l.drop (i + 1)) := by
  rw [List.drop_eq_getElem_cons hi]; rfl
theorem coreV_drop (m h e : Int) (vs : List Int) (ts : List TextP) {k : Nat} (hk : k < ts.length) (hv : k < vs.length) : coreV m h e (vs.drop k) (ts.drop k) = (okPages ts[k].a ts[k].b m h).map (coreT e vs[k]) ++ coreV m h e (vs.drop (k + 1)) (ts.drop (k + 1)) := by
  rw [List.drop_eq_getElem_cons hk, List.drop_eq_getElem_cons hv]; rfl
/-- What stands where the remaining pages begin. -/
theorem core_at {α : Type} {P L r : List α} {a : Nat} (h : P.drop a = L ++ r) {j : Nat} (hj : j < L.length) : P[a + j]? = some L[j] := by
  rw [← List.getElem?_drop, h, List.getElem?_append_left hj, List.getElem?_eq_getElem hj]
theorem core_next {α : Type} {P L r : List α} {a : Nat} (h : P.drop a = L ++ r) : P.drop (a + L.length) = r := by
  rw [← List.drop_drop, h, List.drop_left]
theorem core_len {α : Type} {P L r : List α} {a : Nat} (h : P.drop a = L ++ r) (ha : a ≤ P.length) : a + L.length ≤ P.length := by
  have := congrArg List.length h
  rw [List.length_drop, List.length_append] at this
  omega
theorem setPages_all (P : LineP → Prop) (notes : List (List LineP)) (hn : ∀ n ∈ notes, ∀ x ∈ n, P x) (h : Nat) : ∀ (f : Nat) (body queue : List LineP), (∀ x ∈ body, P x) → (∀ x ∈ queue, P x) → ∀ p ∈ setPages notes h f body queue, (∀ x ∈ p.body, P x) ∧ ∀ x ∈ p.notes, P x
  | 0, _, _, _, _ => by simp [setPages]
  | f + 1, body, queue, h1, h2 => by
    obtain ⟨k, a, b, c, d, e⟩ := fillP_spec notes h body 0 (min queue.length (h - 1)) queue (Nat.min_le_left _ _)
    have hq : ∀ x ∈ (fillP notes h body 0 (min queue.length (h - 1)) queue).2.2, P x := by
      rw [d]
      intro x hx
      rcases List.mem_append.1 hx with hx | hx
      · exact h2 x hx
      · obtain ⟨y, -, hy⟩ := List.mem_flatMap.1 hx
        unfold noteLines at hy
        obtain ⟨q, -, hq⟩ := List.mem_flatMap.1 hy
        by_cases hl : q.toNat < notes.length
        · rw [List.getD_eq_getElem?_getD, List.getElem?_eq_getElem hl] at hq
          exact hn _ (List.getElem_mem hl) x hq
        · rw [List.getD_eq_getElem?_getD, List.getElem?_eq_none (by omega)] at hq
          simp at hq
    intro p hp
    rw [setPages] at hp
    split at hp
    · simp at hp
    · rcases List.mem_cons.1 hp with rfl | hp
      · exact ⟨fun x hx => h1 x (List.mem_of_mem_take hx), fun x hx => hq x (List.mem_of_mem_take hx)⟩
      · exact setPages_all P notes hn h f _ _ (fun x hx => h1 x (List.mem_of_mem_drop hx)) (fun x hx => hq x (List.mem_of_mem_drop hx)) p hp
theorem okPages_lines (a b : List (List Word)) (m h : Int) : ∀ p ∈ okPages a b m h, SmallL p.body ∧ SmallL p.notes := by
  unfold okPages
  split
  · rename_i hE
    obtain ⟨hf, ⟨h1, h2⟩, hp⟩ := textE_fine hE
    have hs := hf.small m
    exact setPages_all (fun x => x.gaps.length ≤ 100000 ∧ x.notes.length ≤ 100000) (notesLP a b m) hs.2 h.toNat _ (bodyP a m) [] hs.1 (by simp)
  · intro p hp
    simp at hp
end Go.Proofs.YtakaielemicpkaaDoor
