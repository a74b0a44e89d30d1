/- The chapter's example: lives is true. No condition but what the tables hold.
BookFresh, walked: it answers true. No condition but what the tables hold.
The pages of a book, version by version: what each page is but for its label. No program is in sight.
BookSets, walked: it answers true. No condition but what the tables hold. -/
import Derived.Test.YtakaielemicpkaaGreatDoorBZc13
namespace Go.Proofs.YtakaielemicpkaaGreatDoor
open Go.RowKit
structure LB (w : World) (b : Nat) (A : Option Addr) (c : Nat) (l : List SectP) : Prop where
 bx : ABox w b 27 [.int .i64 500, .int .i64 4, .slice A l.length c]
 sm : SM w A c l
theorem LB.to {w w' : World} {b c : Nat} {A : Option Addr} {l : List SectP} (h : LB w b A c l) (hb : Below w.heap.size w w') : LB w' b A c l := ⟨h.bx.to hb, h.sm.to hb⟩
theorem LB.fresh {w : World} {A : Option Addr} {c : Nat} {l : List SectP} (h : SM w A c l) : LB (w.alloc (.cells #[.int .i64 500, .int .i64 4, .slice A l.length c] 27)) w.heap.size A c l ∧ Below w.heap.size w (w.alloc (.cells #[.int .i64 500, .int .i64 4, .slice A l.length c] 27)) :=
 have hb : Below w.heap.size w (w.alloc (.cells #[.int .i64 500, .int .i64 4, .slice A l.length c] 27)) := (Below.refl _ _).alloc (Nat.le_refl _) _
 ⟨⟨heap_alloc_new w _, h.to hb⟩, hb⟩
def bkSt (w : World) (b : Nat) (A : Option Addr) (c n : Nat) : World := ((w.setCell ⟨b, 0, none⟩ (.int .i64 500)).setCell ⟨b, 1, none⟩ (.int .i64 4)).setCell ⟨b, 2, none⟩ (.slice A n c)
theorem LB.into {w w1 : World} {A : Option Addr} {c : Nat} {l : List SectP} {b : Nat} (hT : Tabs w) (h1 : Below w.heap.size w w1) (hx : ABox w1 b 27 [.int .i64 0, .int .i64 0, .slice none 0 0]) (hb : w.heap.size ≤ b) (ha : Sl w1 (fun i => i ≠ b) A c l) : LB (bkSt w1 b A c l.length) b A c l ∧ Below w.heap.size w (bkSt w1 b A c l.length) := by
 have hB : Below w.heap.size w (bkSt w1 b A c l.length) := below3 h1 hb _ _ _
 refine ⟨⟨abox3 hx _ _ _, hT.to hB, ?_⟩, hB⟩
 refine (ha.keep (fun i hi _ => ?_) (by unfold bkSt; simp)).mono fun i _ h => h
 exact (heap_set _ _ _ _ hi).trans ((heap_set _ _ _ _ hi).trans (heap_set _ _ _ _ hi))
theorem region_cut {P : Program} {c : Code} {a : Act} {w : World} {Q : Exit → Act → World → Prop} (R : Act → Act → World → Prop) (h1 : c.wp P (fun e a' w' => e = .normal ∧ R a a' w') a w) (h2 : ∀ a' w', R a a' w' → Q .normal a' w') : c.wp P Q a w :=
 wp_mono h1 (fun e a' w' h => by obtain ⟨rfl, h⟩ := h; exact h2 a' w' h)
set_option maxRecDepth 100000 in
set_option maxHeartbeats 16000000 in
theorem lives_any (W1 : World) (hT : Tabs W1) : Calls Tryz.prog 17 #[] W1 fun e w' => e = .returned (.bool true) ∧ Below W1.heap.size W1 w' := by
 have HB : Hid (Below W1.heap.size W1 W1) := Lib.hid (Below.refl _ _)
 have HW5 : Hid (∀ w, Calls Tryz.prog 37 #[.int .i64 5] w fun e w' => ∃ A c, e = .returned (.agg #[.slice A 1 c, .slice none 0 0]) ∧ Sl w' (fun b => w.heap.size ≤ b ∧ b < w'.heap.size) A c [List.replicate 5 wideW] ∧ Below w.heap.size w w') := Lib.hid (fun w => wide_any 5 (by decide) w)
 have HW4 : Hid (∀ w, Calls Tryz.prog 37 #[.int .i64 4] w fun e w' => ∃ A c, e = .returned (.agg #[.slice A 1 c, .slice none 0 0]) ∧ Sl w' (fun b => w.heap.size ≤ b ∧ b < w'.heap.size) A c [List.replicate 4 wideW] ∧ Below w.heap.size w w') := Lib.hid (fun w => wide_any 4 (by decide) w)
 have HW9 : Hid (∀ w, Calls Tryz.prog 37 #[.int .i64 9] w fun e w' => ∃ A c, e = .returned (.agg #[.slice A 1 c, .slice none 0 0]) ∧ Sl w' (fun b => w.heap.size ≤ b ∧ b < w'.heap.size) A c [List.replicate 9 wideW] ∧ Below w.heap.size w w') := Lib.hid (fun w => wide_any 9 (by decide) w)
 have HW1 : Hid (∀ w, Calls Tryz.prog 37 #[.int .i64 1] w fun e w' => ∃ A c, e = .returned (.agg #[.slice A 1 c, .slice none 0 0]) ∧ Sl w' (fun b => w.heap.size ≤ b ∧ b < w'.heap.size) A c [List.replicate 1 wideW] ∧ Below w.heap.size w w') := Lib.hid (fun w => wide_any 1 (by decide) w)
 have HT := Lib.hid hT
 clear hT
 go_enter Tryz.func17, Tryz.ntmps17
 go_upto_region 2 with (first
  |(go_at_call 37; refine (HW5.out _).mono ?_; rintro e V1 ⟨At, ct, rfl, ht, hb⟩; have HA := Lib.hid (ex_add (A := none) (c := 0) (l2 := exA) 5 (by decide) 0 3 ex_oks.1.1 ex_oks.1.2.1 rfl ⟨HT.out.to hb, Sl.nil _ _ _ _ (by simp [maxLen])⟩ (ht.mono fun i hi _ => hi.2) ex_find.1.1 (by decide) (by decide) ex_wrong.1.1 (by decide)); have HV1 := Lib.hid hb; clear ht hb)
  |(go_at_call 36; refine HA.out.mono ?_; rintro e V2 ⟨Ab, cb, rfl, hm, -, hb⟩; have HM2 := Lib.hid hm; have HV2 := Lib.hid (HV1.out.trans (hb.mono HV1.out.size)); clear hm hb HA)
  | fail)
 obtain ⟨W2, hW⟩ : ∃ W2, V2.alloc (.cells #[.int .i64 500, .int .i64 4, .slice Ab exA.length cb] 27) = W2 := ⟨_, rfl⟩
 have hl := LB.fresh HM2.out
 obtain ⟨b1, hbk⟩ : ∃ b1, V2.heap.size = b1 := ⟨_, rfl⟩
 obtain ⟨A1, hAk⟩ : ∃ A1, Ab = A1 := ⟨_, rfl⟩
 obtain ⟨c1, hck⟩ : ∃ c1, cb = c1 := ⟨_, rfl⟩
 rw [hW] at hl ⊢
 rw [hbk, hAk, hck]
 have hb : Below W1.heap.size W1 W2 := HV2.out.trans (hl.2.mono HV2.out.size)
 have HL1 : Hid (LB W2 b1 A1 c1 exA) := Lib.hid (by rw [← hbk, ← hAk, ← hck]; exact hl.1)
 have HB := Lib.hid (HB.out.trans (hb.mono HB.out.size))
 clear hl hb hW hbk hAk hck
 refine region_cut (fun a a' w' => ∃ Ab2 cb2 At ct b2, a' = ((((((((a.put (some 31) (.agg #[.int .i64 500, .int .i64 4, .slice A1 exA.length c1])).put (some 32) (.agg #[.slice At 1 ct, .slice none 0 0])).put (some 33) (.tuple #[.agg #[.int .i64 500, .int .i64 4, .slice Ab2 exB.length cb2], .int .i64 0])).put (some 30) (.tuple #[.agg #[.int .i64 500, .int .i64 4, .slice Ab2 exB.length cb2], .int .i64 0])).put (some 34) (.agg #[.int .i64 500, .int .i64 4, .slice Ab2 exB.length cb2])).put (some 35) (.int .i64 0)).put (some 3) (.pointer (some ⟨b2, 0, none⟩))).put (some 4) (.int .i64 0)) ∧ LB w' b2 Ab2 cb2 exB ∧ Below W2.heap.size W2 w') ?_ ?_
 ·refine wp_region_D (fun w' => w'.cell? ⟨b1, 0, none⟩ = some (.int .i64 500) ∧ w'.cell? ⟨b1, 1, none⟩ = some (.int .i64 4) ∧ w'.cell? ⟨b1, 2, none⟩ = some (.slice A1 exA.length c1)) (fun i => decide (i < 4) || decide (i = 6)) (by kernel_rfl) ?_
  obtain ⟨V0, hV0⟩ : ∃ V0, W2.drew = V0 := ⟨_, rfl⟩
  have hbd : Below W2.heap.size W2 V0 := by rw [← hV0]; exact (Below.refl _ _).drew
  have HB0 := Lib.hid hbd
  have HY0 := Lib.hid (HL1.out.to hbd)
  rw [hV0]
  clear hV0 hbd
  have hS0 : V0.cell? ⟨b1, 0, none⟩ = some (.int .i64 500) ∧ V0.cell? ⟨b1, 1, none⟩ = some (.int .i64 4) ∧ V0.cell? ⟨b1, 2, none⟩ = some (.slice A1 exA.length c1) := ⟨HY0.out.bx.cell 0 rfl, HY0.out.bx.cell 1 rfl, HY0.out.bx.cell 2 rfl⟩
  have HS0 := Lib.hid hS0
  refine wpAnyE_take (i := 0) (oi := ⟨some 31, Op.load 27 (Operand.tmp 1), 27, _, _, _⟩) (v := ?_) rfl (by kernel_rfl) (by kernel_rfl) (by kernel_rfl) (by kernel_rfl) (by kernel_rfl) (fun _ _ _ h => nomatch h.1) (by rfl) ?hykr2_1 (hS0) ?hrkr2_1
  case hykr2_1 => (intro wS hSw; (have hq0 := hSw.1); (have hq1 := hSw.2.1); (have hq2 := hSw.2.2); clear hSw; go_simp; (try with_reducible rfl))
  all_goals try simp only [Act.put, List.setIfInBounds_toArray, List.set_cons_zero, List.set_cons_succ]
  refine wpAnyD_two (i := 1) (j := 6) (oi := ⟨some 32, Op.call { callee := Callee.value (Operand.func 37), args := #[Operand.const (Value.int IntKind.i64 4)], argTypes := #[3] }, 50, _, _, _⟩) (oj := ⟨some 3, Op.alloc 27, 0, _, _, _⟩) (by kernel_rfl) rfl rfl (by rfl) (by rfl) (fun K hK => ?_) (fun K hK => ?_)
  ·go_simp
   go_at_call 37
   refine (HW4.out V0).mono ?_
   rintro e V1 ⟨At, ct, rfl, ht, hb⟩
   go_simp
   have HB1 := Lib.hid (HB0.out.trans (hb.mono HB0.out.size))
   have HY1 := Lib.hid (HY0.out.to hb)
   have hS1 : V1.cell? ⟨b1, 0, none⟩ = some (.int .i64 500) ∧ V1.cell? ⟨b1, 1, none⟩ = some (.int .i64 4) ∧ V1.cell? ⟨b1, 2, none⟩ = some (.slice A1 exA.length c1) := ⟨HY1.out.bx.cell 0 rfl, HY1.out.bx.cell 1 rfl, HY1.out.bx.cell 2 rfl⟩
   have HT1 := Lib.hid (ht.mono (S' := fun b => b < V1.heap.size) fun i hi _ => hi.2)
   clear ht hb
   refine hK _ _ (fun _ => ?_) ?_
   ·exact hS1
   clear hK K
   try simp only [Act.put, List.setIfInBounds_toArray, List.set_cons_zero, List.set_cons_succ]
   refine wpAnyD_two (i := 2) (j := 6) (oi := ⟨some 33, Op.call { callee := Callee.value (Operand.func 36), args := #[Operand.tmp 31, Operand.const (Value.int IntKind.i64 1), Operand.const (Value.int IntKind.i64 4), Operand.tmp 32], argTypes := #[27, 3, 3, 50] }, 81, _, _, _⟩) (oj := ⟨some 3, Op.alloc 27, 0, _, _, _⟩) (by kernel_rfl) rfl rfl (by rfl) (by rfl) (fun K hK => ?_) (fun K hK => ?_)
   ·go_simp
    go_at_call 36
    refine (ex_add (l2 := exB) 4 (by decide) 1 4 ex_oks.1.2.1 ex_oks.1.2.2.1 rfl HY1.out.sm HT1.out ex_find.1.2.1 (by decide) (by decide) ex_wrong.1.2 (by decide)).mono ?_
    rintro e V2 ⟨Ab, cb, rfl, hm, hn, hb⟩
    go_simp
    have HB2 := Lib.hid (HB1.out.trans (hb.mono HB1.out.size))
    have HY2 := Lib.hid (HY1.out.to hb)
    have hS2 : V2.cell? ⟨b1, 0, none⟩ = some (.int .i64 500) ∧ V2.cell? ⟨b1, 1, none⟩ = some (.int .i64 4) ∧ V2.cell? ⟨b1, 2, none⟩ = some (.slice A1 exA.length c1) := ⟨HY2.out.bx.cell 0 rfl, HY2.out.bx.cell 1 rfl, HY2.out.bx.cell 2 rfl⟩
    have HT2 := Lib.hid (HT1.out.to hb)
    have HR2 := Lib.hid hm
    clear hm hn hb
    refine hK _ _ (fun _ => ?_) ?_
    ·exact hS2
    clear hK K
    try simp only [Act.put, List.setIfInBounds_toArray, List.set_cons_zero, List.set_cons_succ]
    refine wpAnyE_take (i := 3) (oi := ⟨some 30, Op.move (Operand.tmp 33), 81, _, _, _⟩) (v := ?_) rfl (by kernel_rfl) (by kernel_rfl) (by kernel_rfl) (by kernel_rfl) (by kernel_rfl) (fun _ _ _ h => nomatch h.1) (by rfl) ?hykr2_2 (hS2) ?hrkr2_2
    case hykr2_2 => (intro wS hSw; clear hSw; go_simp; (try with_reducible rfl))
    all_goals try simp only [Act.put, List.setIfInBounds_toArray, List.set_cons_zero, List.set_cons_succ]
    refine wpAnyF_take (i := 4) (oi := ⟨some 34, Op.extract (Operand.tmp 30) 0, 27, _, _, _⟩) (v := ?_) rfl (by rfl) (by kernel_rfl) (by kernel_rfl) (by kernel_rfl) (fun _ _ _ h => nomatch h.1) (by rfl) ?hykr2_3 ?hrkr2_3
    case hykr2_3 => (intro wS; go_simp; (try with_reducible rfl))
    all_goals try simp only [Act.put, List.setIfInBounds_toArray, List.set_cons_zero, List.set_cons_succ]
    refine wpAnyF_take (i := 5) (oi := ⟨some 35, Op.extract (Operand.tmp 30) 1, 58, _, _, _⟩) (v := ?_) rfl (by rfl) (by kernel_rfl) (by kernel_rfl) (by kernel_rfl) (fun _ _ _ h => nomatch h.1) (by rfl) ?hykr2_4 ?hrkr2_4
    case hykr2_4 => (intro wS; go_simp; (try with_reducible rfl))
    all_goals try simp only [Act.put, List.setIfInBounds_toArray, List.set_cons_zero, List.set_cons_succ]
    refine wpAnyD_one (i := 6) (oi := ⟨some 3, Op.alloc 27, 0, _, _, _⟩) rfl (by kernel_rfl) (by rfl) (fun K hK => ?_)
    go_simp
    obtain ⟨V3, hV⟩ : ∃ V3, (V2.alloc (.cells #[.int .i64 0, .int .i64 0, .slice none 0 0] 27)) = V3 := ⟨_, rfl⟩
    have hb : Below V2.heap.size V2 V3 := by rw [← hV]; exact (Below.refl _ _).alloc (Nat.le_refl _) _
    have hx : ABox V3 V2.heap.size 27 [.int .i64 0, .int .i64 0, .slice none 0 0] := by rw [← hV]; exact heap_alloc_new V2 _
    obtain ⟨bn, hbn⟩ : ∃ bn, V2.heap.size = bn := ⟨_, rfl⟩
    have HBN : Hid (W2.heap.size ≤ bn) := Lib.hid (by rw [← hbn]; exact HB2.out.size)
    rw [hV, hbn]
    rw [hbn] at hx
    have HN := Lib.hid ((HR2.out.s.keep (Kept.all hb) hb.size).mono (S' := fun i => i ≠ bn) fun i (hi : i < V2.heap.size) _ => by omega)
    have HB3 := Lib.hid (HB2.out.trans (hb.mono HB2.out.size))
    have HY3 := Lib.hid (HY2.out.to hb)
    have hS3 : V3.cell? ⟨b1, 0, none⟩ = some (.int .i64 500) ∧ V3.cell? ⟨b1, 1, none⟩ = some (.int .i64 4) ∧ V3.cell? ⟨b1, 2, none⟩ = some (.slice A1 exA.length c1) := ⟨HY3.out.bx.cell 0 rfl, HY3.out.bx.cell 1 rfl, HY3.out.bx.cell 2 rfl⟩
    have HT3 := Lib.hid (HT2.out.to hb)
    have HR3 := Lib.hid (HR2.out.to hb)
    have HX3 := Lib.hid hx
    clear hx hb hV hbn
    refine hK _ _ (fun _ => ?_) ?_
    ·exact hS3
    clear hK K
    try simp only [Act.put, List.setIfInBounds_toArray, List.set_cons_zero, List.set_cons_succ]
    refine wpAnyD_one (i := 7) (oi := ⟨none, Op.store 27 (Operand.tmp 3) (Operand.tmp 34), 0, _, _, _⟩) rfl (by kernel_rfl) (by rfl) (fun K hK => ?_)
    have z0 := HX3.out.cell 0 rfl
    have z1 := HX3.out.cell 1 rfl
    have z2 := HX3.out.cell 2 rfl
    have y0 := HX3.out.fz 0
    have y1 := HX3.out.fz 1
    have y2 := HX3.out.fz 2
    go_simp
    clear z0 z1 z2 y0 y1 y2
    refine hK _ _ (fun h => absurd h (by decide)) ?_
    clear hK K
    try simp only [Act.put]
    refine wpAnyD_one (i := 8) (oi := ⟨some 4, Op.assign (Operand.tmp 35), 58, _, _, _⟩) rfl (by kernel_rfl) (by rfl) (fun K hK => ?_)
    go_simp
    refine hK _ _ (fun h => absurd h (by decide)) ?_
    clear hK K
    try simp only [Act.put, List.setIfInBounds_toArray, List.set_cons_zero, List.set_cons_succ]
    refine wpAnyD_done (by kernel_rfl) ?_ _
    refine ⟨rfl, Ab, cb, At, ct, bn, rfl, ?_⟩
    exact LB.into HL1.out.sm.t HB3.out HX3.out HBN.out HN.out
   ·go_simp
    obtain ⟨V2, hV⟩ : ∃ V2, (V1.alloc (.cells #[.int .i64 0, .int .i64 0, .slice none 0 0] 27)) = V2 := ⟨_, rfl⟩
    have hb : Below V1.heap.size V1 V2 := by rw [← hV]; exact (Below.refl _ _).alloc (Nat.le_refl _) _
    have hx : ABox V2 V1.heap.size 27 [.int .i64 0, .int .i64 0, .slice none 0 0] := by rw [← hV]; exact heap_alloc_new V1 _
    obtain ⟨bn, hbn⟩ : ∃ bn, V1.heap.size = bn := ⟨_, rfl⟩
    have HBN : Hid (W2.heap.size ≤ bn) := Lib.hid (by rw [← hbn]; exact HB1.out.size)
    rw [hV, hbn]
    rw [hbn] at hx
    have HB2 := Lib.hid (HB1.out.trans (hb.mono HB1.out.size))
    have HY2 := Lib.hid (HY1.out.to hb)
    have hS2 : V2.cell? ⟨b1, 0, none⟩ = some (.int .i64 500) ∧ V2.cell? ⟨b1, 1, none⟩ = some (.int .i64 4) ∧ V2.cell? ⟨b1, 2, none⟩ = some (.slice A1 exA.length c1) := ⟨HY2.out.bx.cell 0 rfl, HY2.out.bx.cell 1 rfl, HY2.out.bx.cell 2 rfl⟩
    have HT2 := Lib.hid (HT1.out.to hb)
    have HX2 := Lib.hid hx
    clear hx hb hV hbn
    refine hK _ _ (fun _ => ?_) ?_
    ·exact hS2
    clear hK K
    try simp only [Act.put, List.setIfInBounds_toArray, List.set_cons_zero, List.set_cons_succ]
    refine wpAnyD_one (i := 2) (oi := ⟨some 33, Op.call { callee := Callee.value (Operand.func 36), args := #[Operand.tmp 31, Operand.const (Value.int IntKind.i64 1), Operand.const (Value.int IntKind.i64 4), Operand.tmp 32], argTypes := #[27, 3, 3, 50] }, 81, _, _, _⟩) rfl (by kernel_rfl) (by rfl) (fun K hK => ?_)
    go_simp
    go_at_call 36
    refine (ex_add (l2 := exB) 4 (by decide) 1 4 ex_oks.1.2.1 ex_oks.1.2.2.1 rfl HY2.out.sm HT2.out ex_find.1.2.1 (by decide) (by decide) ex_wrong.1.2 (by decide)).mono ?_
    rintro e V3 ⟨Ab, cb, rfl, hm, hn, hb⟩
    go_simp
    have HB3 := Lib.hid (HB2.out.trans (hb.mono HB2.out.size))
    have HY3 := Lib.hid (HY2.out.to hb)
    have hS3 : V3.cell? ⟨b1, 0, none⟩ = some (.int .i64 500) ∧ V3.cell? ⟨b1, 1, none⟩ = some (.int .i64 4) ∧ V3.cell? ⟨b1, 2, none⟩ = some (.slice A1 exA.length c1) := ⟨HY3.out.bx.cell 0 rfl, HY3.out.bx.cell 1 rfl, HY3.out.bx.cell 2 rfl⟩
    have HT3 := Lib.hid (HT2.out.to hb)
    have HX3 := Lib.hid (HX2.out.to hb)
    have HR3 := Lib.hid hm
    have HN := Lib.hid (hn.mono (S' := fun i => i ≠ bn) fun i (hi : V2.heap.size ≤ i) _ => by have := HX2.out.lt; omega)
    clear hm hn hb
    refine hK _ _ (fun _ => ?_) ?_
    ·exact hS3
    clear hK K
    try simp only [Act.put, List.setIfInBounds_toArray, List.set_cons_zero, List.set_cons_succ]
    refine wpAnyE_take (i := 3) (oi := ⟨some 30, Op.move (Operand.tmp 33), 81, _, _, _⟩) (v := ?_) rfl (by kernel_rfl) (by kernel_rfl) (by kernel_rfl) (by kernel_rfl) (by kernel_rfl) (fun _ _ _ h => nomatch h.1) (by rfl) ?hykr2_5 (hS3) ?hrkr2_5
    case hykr2_5 => (intro wS hSw; clear hSw; go_simp; (try with_reducible rfl))
    all_goals try simp only [Act.put, List.setIfInBounds_toArray, List.set_cons_zero, List.set_cons_succ]
    refine wpAnyF_take (i := 4) (oi := ⟨some 34, Op.extract (Operand.tmp 30) 0, 27, _, _, _⟩) (v := ?_) rfl (by rfl) (by kernel_rfl) (by kernel_rfl) (by kernel_rfl) (fun _ _ _ h => nomatch h.1) (by rfl) ?hykr2_6 ?hrkr2_6
    case hykr2_6 => (intro wS; go_simp; (try with_reducible rfl))
    all_goals try simp only [Act.put, List.setIfInBounds_toArray, List.set_cons_zero, List.set_cons_succ]
    refine wpAnyF_take (i := 5) (oi := ⟨some 35, Op.extract (Operand.tmp 30) 1, 58, _, _, _⟩) (v := ?_) rfl (by rfl) (by kernel_rfl) (by kernel_rfl) (by kernel_rfl) (fun _ _ _ h => nomatch h.1) (by rfl) ?hykr2_7 ?hrkr2_7
    case hykr2_7 => (intro wS; go_simp; (try with_reducible rfl))
    all_goals try simp only [Act.put, List.setIfInBounds_toArray, List.set_cons_zero, List.set_cons_succ]
    refine wpAnyD_one (i := 7) (oi := ⟨none, Op.store 27 (Operand.tmp 3) (Operand.tmp 34), 0, _, _, _⟩) rfl (by kernel_rfl) (by rfl) (fun K hK => ?_)
    have z0 := HX3.out.cell 0 rfl
    have z1 := HX3.out.cell 1 rfl
    have z2 := HX3.out.cell 2 rfl
    have y0 := HX3.out.fz 0
    have y1 := HX3.out.fz 1
    have y2 := HX3.out.fz 2
    go_simp
    clear z0 z1 z2 y0 y1 y2
    refine hK _ _ (fun h => absurd h (by decide)) ?_
    clear hK K
    try simp only [Act.put]
    refine wpAnyD_one (i := 8) (oi := ⟨some 4, Op.assign (Operand.tmp 35), 58, _, _, _⟩) rfl (by kernel_rfl) (by rfl) (fun K hK => ?_)
    go_simp
    refine hK _ _ (fun h => absurd h (by decide)) ?_
    clear hK K
    try simp only [Act.put, List.setIfInBounds_toArray, List.set_cons_zero, List.set_cons_succ]
    refine wpAnyD_done (by kernel_rfl) ?_ _
    refine ⟨rfl, Ab, cb, At, ct, bn, rfl, ?_⟩
    exact LB.into HL1.out.sm.t HB3.out HX3.out HBN.out HN.out
  ·go_simp
   obtain ⟨V1, hV⟩ : ∃ V1, (V0.alloc (.cells #[.int .i64 0, .int .i64 0, .slice none 0 0] 27)) = V1 := ⟨_, rfl⟩
   have hb : Below V0.heap.size V0 V1 := by rw [← hV]; exact (Below.refl _ _).alloc (Nat.le_refl _) _
   have hx : ABox V1 V0.heap.size 27 [.int .i64 0, .int .i64 0, .slice none 0 0] := by rw [← hV]; exact heap_alloc_new V0 _
   obtain ⟨bn, hbn⟩ : ∃ bn, V0.heap.size = bn := ⟨_, rfl⟩
   have HBN : Hid (W2.heap.size ≤ bn) := Lib.hid (by rw [← hbn]; exact HB0.out.size)
   rw [hV, hbn]
   rw [hbn] at hx
   have HB1 := Lib.hid (HB0.out.trans (hb.mono HB0.out.size))
   have HY1 := Lib.hid (HY0.out.to hb)
   have hS1 : V1.cell? ⟨b1, 0, none⟩ = some (.int .i64 500) ∧ V1.cell? ⟨b1, 1, none⟩ = some (.int .i64 4) ∧ V1.cell? ⟨b1, 2, none⟩ = some (.slice A1 exA.length c1) := ⟨HY1.out.bx.cell 0 rfl, HY1.out.bx.cell 1 rfl, HY1.out.bx.cell 2 rfl⟩
   have HX1 := Lib.hid hx
   clear hx hb hV hbn
   refine hK _ _ (fun _ => ?_) ?_
   ·exact hS1
   clear hK K
   try simp only [Act.put, List.setIfInBounds_toArray, List.set_cons_zero, List.set_cons_succ]
   refine wpAnyD_one (i := 1) (oi := ⟨some 32, Op.call { callee := Callee.value (Operand.func 37), args := #[Operand.const (Value.int IntKind.i64 4)], argTypes := #[3] }, 50, _, _, _⟩) rfl (by kernel_rfl) (by rfl) (fun K hK => ?_)
   go_simp
   go_at_call 37
   refine (HW4.out V1).mono ?_
   rintro e V2 ⟨At, ct, rfl, ht, hb⟩
   go_simp
   have HB2 := Lib.hid (HB1.out.trans (hb.mono HB1.out.size))
   have HY2 := Lib.hid (HY1.out.to hb)
   have hS2 : V2.cell? ⟨b1, 0, none⟩ = some (.int .i64 500) ∧ V2.cell? ⟨b1, 1, none⟩ = some (.int .i64 4) ∧ V2.cell? ⟨b1, 2, none⟩ = some (.slice A1 exA.length c1) := ⟨HY2.out.bx.cell 0 rfl, HY2.out.bx.cell 1 rfl, HY2.out.bx.cell 2 rfl⟩
   have HX2 := Lib.hid (HX1.out.to hb)
   have HT2 := Lib.hid (ht.mono (S' := fun b => b < V2.heap.size) fun i hi _ => hi.2)
   clear ht hb
   refine hK _ _ (fun _ => ?_) ?_
   ·exact hS2
   clear hK K
   try simp only [Act.put, List.setIfInBounds_toArray, List.set_cons_zero, List.set_cons_succ]
   refine wpAnyD_one (i := 2) (oi := ⟨some 33, Op.call { callee := Callee.value (Operand.func 36), args := #[Operand.tmp 31, Operand.const (Value.int IntKind.i64 1), Operand.const (Value.int IntKind.i64 4), Operand.tmp 32], argTypes := #[27, 3, 3, 50] }, 81, _, _, _⟩) rfl (by kernel_rfl) (by rfl) (fun K hK => ?_)
   go_simp
   go_at_call 36
   refine (ex_add (l2 := exB) 4 (by decide) 1 4 ex_oks.1.2.1 ex_oks.1.2.2.1 rfl HY2.out.sm HT2.out ex_find.1.2.1 (by decide) (by decide) ex_wrong.1.2 (by decide)).mono ?_
   rintro e V3 ⟨Ab, cb, rfl, hm, hn, hb⟩
   go_simp
   have HB3 := Lib.hid (HB2.out.trans (hb.mono HB2.out.size))
   have HY3 := Lib.hid (HY2.out.to hb)
   have hS3 : V3.cell? ⟨b1, 0, none⟩ = some (.int .i64 500) ∧ V3.cell? ⟨b1, 1, none⟩ = some (.int .i64 4) ∧ V3.cell? ⟨b1, 2, none⟩ = some (.slice A1 exA.length c1) := ⟨HY3.out.bx.cell 0 rfl, HY3.out.bx.cell 1 rfl, HY3.out.bx.cell 2 rfl⟩
   have HT3 := Lib.hid (HT2.out.to hb)
   have HX3 := Lib.hid (HX2.out.to hb)
   have HR3 := Lib.hid hm
   have HN := Lib.hid (hn.mono (S' := fun i => i ≠ bn) fun i (hi : V2.heap.size ≤ i) _ => by have := HX2.out.lt; omega)
   clear hm hn hb
   refine hK _ _ (fun _ => ?_) ?_
   ·exact hS3
   clear hK K
   try simp only [Act.put, List.setIfInBounds_toArray, List.set_cons_zero, List.set_cons_succ]
   refine wpAnyE_take (i := 3) (oi := ⟨some 30, Op.move (Operand.tmp 33), 81, _, _, _⟩) (v := ?_) rfl (by kernel_rfl) (by kernel_rfl) (by kernel_rfl) (by kernel_rfl) (by kernel_rfl) (fun _ _ _ h => nomatch h.1) (by rfl) ?hykr2_8 (hS3) ?hrkr2_8
   case hykr2_8 => (intro wS hSw; clear hSw; go_simp; (try with_reducible rfl))
   all_goals try simp only [Act.put, List.setIfInBounds_toArray, List.set_cons_zero, List.set_cons_succ]
   refine wpAnyF_take (i := 4) (oi := ⟨some 34, Op.extract (Operand.tmp 30) 0, 27, _, _, _⟩) (v := ?_) rfl (by rfl) (by kernel_rfl) (by kernel_rfl) (by kernel_rfl) (fun _ _ _ h => nomatch h.1) (by rfl) ?hykr2_9 ?hrkr2_9
   case hykr2_9 => (intro wS; go_simp; (try with_reducible rfl))
   all_goals try simp only [Act.put, List.setIfInBounds_toArray, List.set_cons_zero, List.set_cons_succ]
   refine wpAnyF_take (i := 5) (oi := ⟨some 35, Op.extract (Operand.tmp 30) 1, 58, _, _, _⟩) (v := ?_) rfl (by rfl) (by kernel_rfl) (by kernel_rfl) (by kernel_rfl) (fun _ _ _ h => nomatch h.1) (by rfl) ?hykr2_10 ?hrkr2_10
   case hykr2_10 => (intro wS; go_simp; (try with_reducible rfl))
   all_goals try simp only [Act.put, List.setIfInBounds_toArray, List.set_cons_zero, List.set_cons_succ]
   refine wpAnyD_one (i := 7) (oi := ⟨none, Op.store 27 (Operand.tmp 3) (Operand.tmp 34), 0, _, _, _⟩) rfl (by kernel_rfl) (by rfl) (fun K hK => ?_)
   have z0 := HX3.out.cell 0 rfl
   have z1 := HX3.out.cell 1 rfl
   have z2 := HX3.out.cell 2 rfl
   have y0 := HX3.out.fz 0
   have y1 := HX3.out.fz 1
   have y2 := HX3.out.fz 2
   go_simp
   clear z0 z1 z2 y0 y1 y2
   refine hK _ _ (fun h => absurd h (by decide)) ?_
   clear hK K
   try simp only [Act.put]
   refine wpAnyD_one (i := 8) (oi := ⟨some 4, Op.assign (Operand.tmp 35), 58, _, _, _⟩) rfl (by kernel_rfl) (by rfl) (fun K hK => ?_)
   go_simp
   refine hK _ _ (fun h => absurd h (by decide)) ?_
   clear hK K
   try simp only [Act.put, List.setIfInBounds_toArray, List.set_cons_zero, List.set_cons_succ]
   refine wpAnyD_done (by kernel_rfl) ?_ _
   refine ⟨rfl, Ab, cb, At, ct, bn, rfl, ?_⟩
   exact LB.into HL1.out.sm.t HB3.out HX3.out HBN.out HN.out
 rintro _ W3 ⟨A2, c2, At, ct, b2, rfl, hl, hb⟩
 have HL2 := Lib.hid hl
 simp only [Act.put, List.setIfInBounds_toArray, List.set_cons_zero, List.set_cons_succ]
 have HL1 := Lib.hid (HL1.out.to hb)
 have HB := Lib.hid (HB.out.trans (hb.mono HB.out.size))
 clear hl hb
 have q0 := HL2.out.bx.cell 0 rfl
 have q1 := HL2.out.bx.cell 1 rfl
 have q2 := HL2.out.bx.cell 2 rfl
 go_upto_region 4 with (first
  |(go_at_call 28; refine (ex_freeze (l2 := exF) ex_oks.1.2.2.1 rfl HL2.out.sm).mono ?_; rintro e V1 ⟨Af, cf, rfl, hm, -, hb⟩; have HM1 := Lib.hid hm; have HV1 := Lib.hid hb; clear hm hb q0 q1 q2)
  |(go_at_call 37; refine (HW9.out _).mono ?_; rintro e V2 ⟨At, ct, rfl, ht, hb⟩; have HC := Lib.hid (ex_correct (l2 := exC) 9 (by decide) 0 7 0 (frz ⟨0, false, [3], [wideT 5]⟩) ex_oks.1.2.2.2 ex_oks.2.1.1 rfl (HM1.out.to hb) (ht.mono fun i hi _ => hi.2) ex_find.1.2.2.1 (by decide) rfl (by decide) (by decide) ex_wrong.2.1 (by decide)); have HV2 := Lib.hid (HV1.out.trans (hb.mono HV1.out.size)); clear ht hb)
  |(go_at_call 38; refine HC.out.mono ?_; rintro e V3 ⟨Ab, cb, rfl, hm, -, hb⟩; have HM3 := Lib.hid hm; have HV3 := Lib.hid (HV2.out.trans (hb.mono HV2.out.size)); clear hm hb HC)
  | fail)
 obtain ⟨W4, hW⟩ : ∃ W4, V3.alloc (.cells #[.int .i64 500, .int .i64 4, .slice Ab exC.length cb] 27) = W4 := ⟨_, rfl⟩
 have hl := LB.fresh HM3.out
 obtain ⟨b3, hbk⟩ : ∃ b3, V3.heap.size = b3 := ⟨_, rfl⟩
 obtain ⟨A3, hAk⟩ : ∃ A3, Ab = A3 := ⟨_, rfl⟩
 obtain ⟨c3, hck⟩ : ∃ c3, cb = c3 := ⟨_, rfl⟩
 rw [hW] at hl ⊢
 rw [hbk, hAk, hck]
 have hb : Below W3.heap.size W3 W4 := HV3.out.trans (hl.2.mono HV3.out.size)
 have HL3 : Hid (LB W4 b3 A3 c3 exC) := Lib.hid (by rw [← hbk, ← hAk, ← hck]; exact hl.1)
 have HL1 := Lib.hid (HL1.out.to hb)
 have HL2 := Lib.hid (HL2.out.to hb)
 have HB := Lib.hid (HB.out.trans (hb.mono HB.out.size))
 clear hl hb hW hbk hAk hck
 refine region_cut (fun a a' w' => ∃ Ab4 cb4 At ct b4, a' = ((((((((a.put (some 44) (.agg #[.int .i64 500, .int .i64 4, .slice A3 exC.length c3])).put (some 45) (.agg #[.slice At 1 ct, .slice none 0 0])).put (some 46) (.tuple #[.agg #[.int .i64 500, .int .i64 4, .slice Ab4 exD.length cb4], .int .i64 0])).put (some 43) (.tuple #[.agg #[.int .i64 500, .int .i64 4, .slice Ab4 exD.length cb4], .int .i64 0])).put (some 47) (.agg #[.int .i64 500, .int .i64 4, .slice Ab4 exD.length cb4])).put (some 48) (.int .i64 0)).put (some 7) (.pointer (some ⟨b4, 0, none⟩))).put (some 8) (.int .i64 0)) ∧ LB w' b4 Ab4 cb4 exD ∧ Below W4.heap.size W4 w') ?_ ?_
 ·refine wp_region_D (fun w' => w'.cell? ⟨b3, 0, none⟩ = some (.int .i64 500) ∧ w'.cell? ⟨b3, 1, none⟩ = some (.int .i64 4) ∧ w'.cell? ⟨b3, 2, none⟩ = some (.slice A3 exC.length c3)) (fun i => decide (i < 4) || decide (i = 6)) (by kernel_rfl) ?_
  obtain ⟨V0, hV0⟩ : ∃ V0, W4.drew = V0 := ⟨_, rfl⟩
  have hbd : Below W4.heap.size W4 V0 := by rw [← hV0]; exact (Below.refl _ _).drew
  have HB0 := Lib.hid hbd
  have HY0 := Lib.hid (HL3.out.to hbd)
  rw [hV0]
  clear hV0 hbd
  have hS0 : V0.cell? ⟨b3, 0, none⟩ = some (.int .i64 500) ∧ V0.cell? ⟨b3, 1, none⟩ = some (.int .i64 4) ∧ V0.cell? ⟨b3, 2, none⟩ = some (.slice A3 exC.length c3) := ⟨HY0.out.bx.cell 0 rfl, HY0.out.bx.cell 1 rfl, HY0.out.bx.cell 2 rfl⟩
  have HS0 := Lib.hid hS0
  refine wpAnyE_take (i := 0) (oi := ⟨some 44, Op.load 27 (Operand.tmp 5), 27, _, _, _⟩) (v := ?_) rfl (by kernel_rfl) (by kernel_rfl) (by kernel_rfl) (by kernel_rfl) (by kernel_rfl) (fun _ _ _ h => nomatch h.1) (by rfl) ?hykr4_1 (hS0) ?hrkr4_1
  case hykr4_1 => (intro wS hSw; (have hq0 := hSw.1); (have hq1 := hSw.2.1); (have hq2 := hSw.2.2); clear hSw; go_simp; (try with_reducible rfl))
  all_goals try simp only [Act.put, List.setIfInBounds_toArray, List.set_cons_zero, List.set_cons_succ]
  refine wpAnyD_two (i := 1) (j := 6) (oi := ⟨some 45, Op.call { callee := Callee.value (Operand.func 37), args := #[Operand.const (Value.int IntKind.i64 1)], argTypes := #[3] }, 50, _, _, _⟩) (oj := ⟨some 7, Op.alloc 27, 0, _, _, _⟩) (by kernel_rfl) rfl rfl (by rfl) (by rfl) (fun K hK => ?_) (fun K hK => ?_)
  ·go_simp
   go_at_call 37
   refine (HW1.out V0).mono ?_
   rintro e V1 ⟨At, ct, rfl, ht, hb⟩
   go_simp
   have HB1 := Lib.hid (HB0.out.trans (hb.mono HB0.out.size))
   have HY1 := Lib.hid (HY0.out.to hb)
   have hS1 : V1.cell? ⟨b3, 0, none⟩ = some (.int .i64 500) ∧ V1.cell? ⟨b3, 1, none⟩ = some (.int .i64 4) ∧ V1.cell? ⟨b3, 2, none⟩ = some (.slice A3 exC.length c3) := ⟨HY1.out.bx.cell 0 rfl, HY1.out.bx.cell 1 rfl, HY1.out.bx.cell 2 rfl⟩
   have HT1 := Lib.hid (ht.mono (S' := fun b => b < V1.heap.size) fun i hi _ => hi.2)
   clear ht hb
   refine hK _ _ (fun _ => ?_) ?_
   ·exact hS1
   clear hK K
   try simp only [Act.put, List.setIfInBounds_toArray, List.set_cons_zero, List.set_cons_succ]
   refine wpAnyD_two (i := 2) (j := 6) (oi := ⟨some 46, Op.call { callee := Callee.value (Operand.func 36), args := #[Operand.tmp 44, Operand.const (Value.int IntKind.i64 2), Operand.const (Value.int IntKind.i64 8), Operand.tmp 45], argTypes := #[27, 3, 3, 50] }, 81, _, _, _⟩) (oj := ⟨some 7, Op.alloc 27, 0, _, _, _⟩) (by kernel_rfl) rfl rfl (by rfl) (by rfl) (fun K hK => ?_) (fun K hK => ?_)
   ·go_simp
    go_at_call 36
    refine (ex_add (l2 := exD) 1 (by decide) 2 8 ex_oks.2.1.1 ex_oks.2.1.2 rfl HY1.out.sm HT1.out ex_find.1.2.2.2 (by decide) (by decide) ex_wrong.2.2 (by decide)).mono ?_
    rintro e V2 ⟨Ab, cb, rfl, hm, hn, hb⟩
    go_simp
    have HB2 := Lib.hid (HB1.out.trans (hb.mono HB1.out.size))
    have HY2 := Lib.hid (HY1.out.to hb)
    have hS2 : V2.cell? ⟨b3, 0, none⟩ = some (.int .i64 500) ∧ V2.cell? ⟨b3, 1, none⟩ = some (.int .i64 4) ∧ V2.cell? ⟨b3, 2, none⟩ = some (.slice A3 exC.length c3) := ⟨HY2.out.bx.cell 0 rfl, HY2.out.bx.cell 1 rfl, HY2.out.bx.cell 2 rfl⟩
    have HT2 := Lib.hid (HT1.out.to hb)
    have HR2 := Lib.hid hm
    clear hm hn hb
    refine hK _ _ (fun _ => ?_) ?_
    ·exact hS2
    clear hK K
    try simp only [Act.put, List.setIfInBounds_toArray, List.set_cons_zero, List.set_cons_succ]
    refine wpAnyE_take (i := 3) (oi := ⟨some 43, Op.move (Operand.tmp 46), 81, _, _, _⟩) (v := ?_) rfl (by kernel_rfl) (by kernel_rfl) (by kernel_rfl) (by kernel_rfl) (by kernel_rfl) (fun _ _ _ h => nomatch h.1) (by rfl) ?hykr4_2 (hS2) ?hrkr4_2
    case hykr4_2 => (intro wS hSw; clear hSw; go_simp; (try with_reducible rfl))
    all_goals try simp only [Act.put, List.setIfInBounds_toArray, List.set_cons_zero, List.set_cons_succ]
    refine wpAnyF_take (i := 4) (oi := ⟨some 47, Op.extract (Operand.tmp 43) 0, 27, _, _, _⟩) (v := ?_) rfl (by rfl) (by kernel_rfl) (by kernel_rfl) (by kernel_rfl) (fun _ _ _ h => nomatch h.1) (by rfl) ?hykr4_3 ?hrkr4_3
    case hykr4_3 => (intro wS; go_simp; (try with_reducible rfl))
    all_goals try simp only [Act.put, List.setIfInBounds_toArray, List.set_cons_zero, List.set_cons_succ]
    refine wpAnyF_take (i := 5) (oi := ⟨some 48, Op.extract (Operand.tmp 43) 1, 58, _, _, _⟩) (v := ?_) rfl (by rfl) (by kernel_rfl) (by kernel_rfl) (by kernel_rfl) (fun _ _ _ h => nomatch h.1) (by rfl) ?hykr4_4 ?hrkr4_4
    case hykr4_4 => (intro wS; go_simp; (try with_reducible rfl))
    all_goals try simp only [Act.put, List.setIfInBounds_toArray, List.set_cons_zero, List.set_cons_succ]
    refine wpAnyD_one (i := 6) (oi := ⟨some 7, Op.alloc 27, 0, _, _, _⟩) rfl (by kernel_rfl) (by rfl) (fun K hK => ?_)
    go_simp
    obtain ⟨V3, hV⟩ : ∃ V3, (V2.alloc (.cells #[.int .i64 0, .int .i64 0, .slice none 0 0] 27)) = V3 := ⟨_, rfl⟩
    have hb : Below V2.heap.size V2 V3 := by rw [← hV]; exact (Below.refl _ _).alloc (Nat.le_refl _) _
    have hx : ABox V3 V2.heap.size 27 [.int .i64 0, .int .i64 0, .slice none 0 0] := by rw [← hV]; exact heap_alloc_new V2 _
    obtain ⟨bn, hbn⟩ : ∃ bn, V2.heap.size = bn := ⟨_, rfl⟩
    have HBN : Hid (W4.heap.size ≤ bn) := Lib.hid (by rw [← hbn]; exact HB2.out.size)
    rw [hV, hbn]
    rw [hbn] at hx
    have HN := Lib.hid ((HR2.out.s.keep (Kept.all hb) hb.size).mono (S' := fun i => i ≠ bn) fun i (hi : i < V2.heap.size) _ => by omega)
    have HB3 := Lib.hid (HB2.out.trans (hb.mono HB2.out.size))
    have HY3 := Lib.hid (HY2.out.to hb)
    have hS3 : V3.cell? ⟨b3, 0, none⟩ = some (.int .i64 500) ∧ V3.cell? ⟨b3, 1, none⟩ = some (.int .i64 4) ∧ V3.cell? ⟨b3, 2, none⟩ = some (.slice A3 exC.length c3) := ⟨HY3.out.bx.cell 0 rfl, HY3.out.bx.cell 1 rfl, HY3.out.bx.cell 2 rfl⟩
    have HT3 := Lib.hid (HT2.out.to hb)
    have HR3 := Lib.hid (HR2.out.to hb)
    have HX3 := Lib.hid hx
    clear hx hb hV hbn
    refine hK _ _ (fun _ => ?_) ?_
    ·exact hS3
    clear hK K
    try simp only [Act.put, List.setIfInBounds_toArray, List.set_cons_zero, List.set_cons_succ]
    refine wpAnyD_one (i := 7) (oi := ⟨none, Op.store 27 (Operand.tmp 7) (Operand.tmp 47), 0, _, _, _⟩) rfl (by kernel_rfl) (by rfl) (fun K hK => ?_)
    have z0 := HX3.out.cell 0 rfl
    have z1 := HX3.out.cell 1 rfl
    have z2 := HX3.out.cell 2 rfl
    have y0 := HX3.out.fz 0
    have y1 := HX3.out.fz 1
    have y2 := HX3.out.fz 2
    go_simp
    clear z0 z1 z2 y0 y1 y2
    refine hK _ _ (fun h => absurd h (by decide)) ?_
    clear hK K
    try simp only [Act.put]
    refine wpAnyD_one (i := 8) (oi := ⟨some 8, Op.assign (Operand.tmp 48), 58, _, _, _⟩) rfl (by kernel_rfl) (by rfl) (fun K hK => ?_)
    go_simp
    refine hK _ _ (fun h => absurd h (by decide)) ?_
    clear hK K
    try simp only [Act.put, List.setIfInBounds_toArray, List.set_cons_zero, List.set_cons_succ]
    refine wpAnyD_done (by kernel_rfl) ?_ _
    refine ⟨rfl, Ab, cb, At, ct, bn, rfl, ?_⟩
    exact LB.into HL3.out.sm.t HB3.out HX3.out HBN.out HN.out
   ·go_simp
    obtain ⟨V2, hV⟩ : ∃ V2, (V1.alloc (.cells #[.int .i64 0, .int .i64 0, .slice none 0 0] 27)) = V2 := ⟨_, rfl⟩
    have hb : Below V1.heap.size V1 V2 := by rw [← hV]; exact (Below.refl _ _).alloc (Nat.le_refl _) _
    have hx : ABox V2 V1.heap.size 27 [.int .i64 0, .int .i64 0, .slice none 0 0] := by rw [← hV]; exact heap_alloc_new V1 _
    obtain ⟨bn, hbn⟩ : ∃ bn, V1.heap.size = bn := ⟨_, rfl⟩
    have HBN : Hid (W4.heap.size ≤ bn) := Lib.hid (by rw [← hbn]; exact HB1.out.size)
    rw [hV, hbn]
    rw [hbn] at hx
    have HB2 := Lib.hid (HB1.out.trans (hb.mono HB1.out.size))
    have HY2 := Lib.hid (HY1.out.to hb)
    have hS2 : V2.cell? ⟨b3, 0, none⟩ = some (.int .i64 500) ∧ V2.cell? ⟨b3, 1, none⟩ = some (.int .i64 4) ∧ V2.cell? ⟨b3, 2, none⟩ = some (.slice A3 exC.length c3) := ⟨HY2.out.bx.cell 0 rfl, HY2.out.bx.cell 1 rfl, HY2.out.bx.cell 2 rfl⟩
    have HT2 := Lib.hid (HT1.out.to hb)
    have HX2 := Lib.hid hx
    clear hx hb hV hbn
    refine hK _ _ (fun _ => ?_) ?_
    ·exact hS2
    clear hK K
    try simp only [Act.put, List.setIfInBounds_toArray, List.set_cons_zero, List.set_cons_succ]
    refine wpAnyD_one (i := 2) (oi := ⟨some 46, Op.call { callee := Callee.value (Operand.func 36), args := #[Operand.tmp 44, Operand.const (Value.int IntKind.i64 2), Operand.const (Value.int IntKind.i64 8), Operand.tmp 45], argTypes := #[27, 3, 3, 50] }, 81, _, _, _⟩) rfl (by kernel_rfl) (by rfl) (fun K hK => ?_)
    go_simp
    go_at_call 36
    refine (ex_add (l2 := exD) 1 (by decide) 2 8 ex_oks.2.1.1 ex_oks.2.1.2 rfl HY2.out.sm HT2.out ex_find.1.2.2.2 (by decide) (by decide) ex_wrong.2.2 (by decide)).mono ?_
    rintro e V3 ⟨Ab, cb, rfl, hm, hn, hb⟩
    go_simp
    have HB3 := Lib.hid (HB2.out.trans (hb.mono HB2.out.size))
    have HY3 := Lib.hid (HY2.out.to hb)
    have hS3 : V3.cell? ⟨b3, 0, none⟩ = some (.int .i64 500) ∧ V3.cell? ⟨b3, 1, none⟩ = some (.int .i64 4) ∧ V3.cell? ⟨b3, 2, none⟩ = some (.slice A3 exC.length c3) := ⟨HY3.out.bx.cell 0 rfl, HY3.out.bx.cell 1 rfl, HY3.out.bx.cell 2 rfl⟩
    have HT3 := Lib.hid (HT2.out.to hb)
    have HX3 := Lib.hid (HX2.out.to hb)
    have HR3 := Lib.hid hm
    have HN := Lib.hid (hn.mono (S' := fun i => i ≠ bn) fun i (hi : V2.heap.size ≤ i) _ => by have := HX2.out.lt; omega)
    clear hm hn hb
    refine hK _ _ (fun _ => ?_) ?_
    ·exact hS3
    clear hK K
    try simp only [Act.put, List.setIfInBounds_toArray, List.set_cons_zero, List.set_cons_succ]
    refine wpAnyE_take (i := 3) (oi := ⟨some 43, Op.move (Operand.tmp 46), 81, _, _, _⟩) (v := ?_) rfl (by kernel_rfl) (by kernel_rfl) (by kernel_rfl) (by kernel_rfl) (by kernel_rfl) (fun _ _ _ h => nomatch h.1) (by rfl) ?hykr4_5 (hS3) ?hrkr4_5
    case hykr4_5 => (intro wS hSw; clear hSw; go_simp; (try with_reducible rfl))
    all_goals try simp only [Act.put, List.setIfInBounds_toArray, List.set_cons_zero, List.set_cons_succ]
    refine wpAnyF_take (i := 4) (oi := ⟨some 47, Op.extract (Operand.tmp 43) 0, 27, _, _, _⟩) (v := ?_) rfl (by rfl) (by kernel_rfl) (by kernel_rfl) (by kernel_rfl) (fun _ _ _ h => nomatch h.1) (by rfl) ?hykr4_6 ?hrkr4_6
    case hykr4_6 => (intro wS; go_simp; (try with_reducible rfl))
    all_goals try simp only [Act.put, List.setIfInBounds_toArray, List.set_cons_zero, List.set_cons_succ]
    refine wpAnyF_take (i := 5) (oi := ⟨some 48, Op.extract (Operand.tmp 43) 1, 58, _, _, _⟩) (v := ?_) rfl (by rfl) (by kernel_rfl) (by kernel_rfl) (by kernel_rfl) (fun _ _ _ h => nomatch h.1) (by rfl) ?hykr4_7 ?hrkr4_7
    case hykr4_7 => (intro wS; go_simp; (try with_reducible rfl))
    all_goals try simp only [Act.put, List.setIfInBounds_toArray, List.set_cons_zero, List.set_cons_succ]
    refine wpAnyD_one (i := 7) (oi := ⟨none, Op.store 27 (Operand.tmp 7) (Operand.tmp 47), 0, _, _, _⟩) rfl (by kernel_rfl) (by rfl) (fun K hK => ?_)
    have z0 := HX3.out.cell 0 rfl
    have z1 := HX3.out.cell 1 rfl
    have z2 := HX3.out.cell 2 rfl
    have y0 := HX3.out.fz 0
    have y1 := HX3.out.fz 1
    have y2 := HX3.out.fz 2
    go_simp
    clear z0 z1 z2 y0 y1 y2
    refine hK _ _ (fun h => absurd h (by decide)) ?_
    clear hK K
    try simp only [Act.put]
    refine wpAnyD_one (i := 8) (oi := ⟨some 8, Op.assign (Operand.tmp 48), 58, _, _, _⟩) rfl (by kernel_rfl) (by rfl) (fun K hK => ?_)
    go_simp
    refine hK _ _ (fun h => absurd h (by decide)) ?_
    clear hK K
    try simp only [Act.put, List.setIfInBounds_toArray, List.set_cons_zero, List.set_cons_succ]
    refine wpAnyD_done (by kernel_rfl) ?_ _
    refine ⟨rfl, Ab, cb, At, ct, bn, rfl, ?_⟩
    exact LB.into HL3.out.sm.t HB3.out HX3.out HBN.out HN.out
  ·go_simp
   obtain ⟨V1, hV⟩ : ∃ V1, (V0.alloc (.cells #[.int .i64 0, .int .i64 0, .slice none 0 0] 27)) = V1 := ⟨_, rfl⟩
   have hb : Below V0.heap.size V0 V1 := by rw [← hV]; exact (Below.refl _ _).alloc (Nat.le_refl _) _
   have hx : ABox V1 V0.heap.size 27 [.int .i64 0, .int .i64 0, .slice none 0 0] := by rw [← hV]; exact heap_alloc_new V0 _
   obtain ⟨bn, hbn⟩ : ∃ bn, V0.heap.size = bn := ⟨_, rfl⟩
   have HBN : Hid (W4.heap.size ≤ bn) := Lib.hid (by rw [← hbn]; exact HB0.out.size)
   rw [hV, hbn]
   rw [hbn] at hx
   have HB1 := Lib.hid (HB0.out.trans (hb.mono HB0.out.size))
   have HY1 := Lib.hid (HY0.out.to hb)
   have hS1 : V1.cell? ⟨b3, 0, none⟩ = some (.int .i64 500) ∧ V1.cell? ⟨b3, 1, none⟩ = some (.int .i64 4) ∧ V1.cell? ⟨b3, 2, none⟩ = some (.slice A3 exC.length c3) := ⟨HY1.out.bx.cell 0 rfl, HY1.out.bx.cell 1 rfl, HY1.out.bx.cell 2 rfl⟩
   have HX1 := Lib.hid hx
   clear hx hb hV hbn
   refine hK _ _ (fun _ => ?_) ?_
   ·exact hS1
   clear hK K
   try simp only [Act.put, List.setIfInBounds_toArray, List.set_cons_zero, List.set_cons_succ]
   refine wpAnyD_one (i := 1) (oi := ⟨some 45, Op.call { callee := Callee.value (Operand.func 37), args := #[Operand.const (Value.int IntKind.i64 1)], argTypes := #[3] }, 50, _, _, _⟩) rfl (by kernel_rfl) (by rfl) (fun K hK => ?_)
   go_simp
   go_at_call 37
   refine (HW1.out V1).mono ?_
   rintro e V2 ⟨At, ct, rfl, ht, hb⟩
   go_simp
   have HB2 := Lib.hid (HB1.out.trans (hb.mono HB1.out.size))
   have HY2 := Lib.hid (HY1.out.to hb)
   have hS2 : V2.cell? ⟨b3, 0, none⟩ = some (.int .i64 500) ∧ V2.cell? ⟨b3, 1, none⟩ = some (.int .i64 4) ∧ V2.cell? ⟨b3, 2, none⟩ = some (.slice A3 exC.length c3) := ⟨HY2.out.bx.cell 0 rfl, HY2.out.bx.cell 1 rfl, HY2.out.bx.cell 2 rfl⟩
   have HX2 := Lib.hid (HX1.out.to hb)
   have HT2 := Lib.hid (ht.mono (S' := fun b => b < V2.heap.size) fun i hi _ => hi.2)
   clear ht hb
   refine hK _ _ (fun _ => ?_) ?_
   ·exact hS2
   clear hK K
   try simp only [Act.put, List.setIfInBounds_toArray, List.set_cons_zero, List.set_cons_succ]
   refine wpAnyD_one (i := 2) (oi := ⟨some 46, Op.call { callee := Callee.value (Operand.func 36), args := #[Operand.tmp 44, Operand.const (Value.int IntKind.i64 2), Operand.const (Value.int IntKind.i64 8), Operand.tmp 45], argTypes := #[27, 3, 3, 50] }, 81, _, _, _⟩) rfl (by kernel_rfl) (by rfl) (fun K hK => ?_)
   go_simp
   go_at_call 36
   refine (ex_add (l2 := exD) 1 (by decide) 2 8 ex_oks.2.1.1 ex_oks.2.1.2 rfl HY2.out.sm HT2.out ex_find.1.2.2.2 (by decide) (by decide) ex_wrong.2.2 (by decide)).mono ?_
   rintro e V3 ⟨Ab, cb, rfl, hm, hn, hb⟩
   go_simp
   have HB3 := Lib.hid (HB2.out.trans (hb.mono HB2.out.size))
   have HY3 := Lib.hid (HY2.out.to hb)
   have hS3 : V3.cell? ⟨b3, 0, none⟩ = some (.int .i64 500) ∧ V3.cell? ⟨b3, 1, none⟩ = some (.int .i64 4) ∧ V3.cell? ⟨b3, 2, none⟩ = some (.slice A3 exC.length c3) := ⟨HY3.out.bx.cell 0 rfl, HY3.out.bx.cell 1 rfl, HY3.out.bx.cell 2 rfl⟩
   have HT3 := Lib.hid (HT2.out.to hb)
   have HX3 := Lib.hid (HX2.out.to hb)
   have HR3 := Lib.hid hm
   have HN := Lib.hid (hn.mono (S' := fun i => i ≠ bn) fun i (hi : V2.heap.size ≤ i) _ => by have := HX2.out.lt; omega)
   clear hm hn hb
   refine hK _ _ (fun _ => ?_) ?_
   ·exact hS3
   clear hK K
   try simp only [Act.put, List.setIfInBounds_toArray, List.set_cons_zero, List.set_cons_succ]
   refine wpAnyE_take (i := 3) (oi := ⟨some 43, Op.move (Operand.tmp 46), 81, _, _, _⟩) (v := ?_) rfl (by kernel_rfl) (by kernel_rfl) (by kernel_rfl) (by kernel_rfl) (by kernel_rfl) (fun _ _ _ h => nomatch h.1) (by rfl) ?hykr4_8 (hS3) ?hrkr4_8
   case hykr4_8 => (intro wS hSw; clear hSw; go_simp; (try with_reducible rfl))
   all_goals try simp only [Act.put, List.setIfInBounds_toArray, List.set_cons_zero, List.set_cons_succ]
   refine wpAnyF_take (i := 4) (oi := ⟨some 47, Op.extract (Operand.tmp 43) 0, 27, _, _, _⟩) (v := ?_) rfl (by rfl) (by kernel_rfl) (by kernel_rfl) (by kernel_rfl) (fun _ _ _ h => nomatch h.1) (by rfl) ?hykr4_9 ?hrkr4_9
   case hykr4_9 => (intro wS; go_simp; (try with_reducible rfl))
   all_goals try simp only [Act.put, List.setIfInBounds_toArray, List.set_cons_zero, List.set_cons_succ]
   refine wpAnyF_take (i := 5) (oi := ⟨some 48, Op.extract (Operand.tmp 43) 1, 58, _, _, _⟩) (v := ?_) rfl (by rfl) (by kernel_rfl) (by kernel_rfl) (by kernel_rfl) (fun _ _ _ h => nomatch h.1) (by rfl) ?hykr4_10 ?hrkr4_10
   case hykr4_10 => (intro wS; go_simp; (try with_reducible rfl))
   all_goals try simp only [Act.put, List.setIfInBounds_toArray, List.set_cons_zero, List.set_cons_succ]
   refine wpAnyD_one (i := 7) (oi := ⟨none, Op.store 27 (Operand.tmp 7) (Operand.tmp 47), 0, _, _, _⟩) rfl (by kernel_rfl) (by rfl) (fun K hK => ?_)
   have z0 := HX3.out.cell 0 rfl
   have z1 := HX3.out.cell 1 rfl
   have z2 := HX3.out.cell 2 rfl
   have y0 := HX3.out.fz 0
   have y1 := HX3.out.fz 1
   have y2 := HX3.out.fz 2
   go_simp
   clear z0 z1 z2 y0 y1 y2
   refine hK _ _ (fun h => absurd h (by decide)) ?_
   clear hK K
   try simp only [Act.put]
   refine wpAnyD_one (i := 8) (oi := ⟨some 8, Op.assign (Operand.tmp 48), 58, _, _, _⟩) rfl (by kernel_rfl) (by rfl) (fun K hK => ?_)
   go_simp
   refine hK _ _ (fun h => absurd h (by decide)) ?_
   clear hK K
   try simp only [Act.put, List.setIfInBounds_toArray, List.set_cons_zero, List.set_cons_succ]
   refine wpAnyD_done (by kernel_rfl) ?_ _
   refine ⟨rfl, Ab, cb, At, ct, bn, rfl, ?_⟩
   exact LB.into HL3.out.sm.t HB3.out HX3.out HBN.out HN.out
 rintro _ W5 ⟨A4, c4, At, ct, b4, rfl, hl, hb⟩
 have HL4 := Lib.hid hl
 simp only [Act.put, List.setIfInBounds_toArray, List.set_cons_zero, List.set_cons_succ]
 have HL1 := Lib.hid (HL1.out.to hb)
 have HL2 := Lib.hid (HL2.out.to hb)
 have HL3 := Lib.hid (HL3.out.to hb)
 have HB := Lib.hid (HB.out.trans (hb.mono HB.out.size))
 clear hl hb
 go_upto_region 5 with (fail)
 refine region_cut (fun a a' w' => ∃ Ab5 cb5 At ct b5, a' = ((((((((a.put (some 50) (.agg #[.int .i64 500, .int .i64 4, .slice A4 exD.length c4])).put (some 51) (.agg #[.slice At 1 ct, .slice none 0 0])).put (some 52) (.tuple #[.agg #[.int .i64 500, .int .i64 4, .slice Ab5 exI.length cb5], .int .i64 0])).put (some 49) (.tuple #[.agg #[.int .i64 500, .int .i64 4, .slice Ab5 exI.length cb5], .int .i64 0])).put (some 53) (.agg #[.int .i64 500, .int .i64 4, .slice Ab5 exI.length cb5])).put (some 54) (.int .i64 0)).put (some 9) (.pointer (some ⟨b5, 0, none⟩))).put (some 10) (.int .i64 0)) ∧ LB w' b5 Ab5 cb5 exI ∧ Below W5.heap.size W5 w') ?_ ?_
 ·refine wp_region_D (fun w' => w'.cell? ⟨b4, 0, none⟩ = some (.int .i64 500) ∧ w'.cell? ⟨b4, 1, none⟩ = some (.int .i64 4) ∧ w'.cell? ⟨b4, 2, none⟩ = some (.slice A4 exD.length c4)) (fun i => decide (i < 4) || decide (i = 6)) (by kernel_rfl) ?_
  obtain ⟨V0, hV0⟩ : ∃ V0, W5.drew = V0 := ⟨_, rfl⟩
  have hbd : Below W5.heap.size W5 V0 := by rw [← hV0]; exact (Below.refl _ _).drew
  have HB0 := Lib.hid hbd
  have HY0 := Lib.hid (HL4.out.to hbd)
  rw [hV0]
  clear hV0 hbd
  have hS0 : V0.cell? ⟨b4, 0, none⟩ = some (.int .i64 500) ∧ V0.cell? ⟨b4, 1, none⟩ = some (.int .i64 4) ∧ V0.cell? ⟨b4, 2, none⟩ = some (.slice A4 exD.length c4) := ⟨HY0.out.bx.cell 0 rfl, HY0.out.bx.cell 1 rfl, HY0.out.bx.cell 2 rfl⟩
  have HS0 := Lib.hid hS0
  refine wpAnyE_take (i := 0) (oi := ⟨some 50, Op.load 27 (Operand.tmp 7), 27, _, _, _⟩) (v := ?_) rfl (by kernel_rfl) (by kernel_rfl) (by kernel_rfl) (by kernel_rfl) (by kernel_rfl) (fun _ _ _ h => nomatch h.1) (by rfl) ?hykr5_1 (hS0) ?hrkr5_1
  case hykr5_1 => (intro wS hSw; (have hq0 := hSw.1); (have hq1 := hSw.2.1); (have hq2 := hSw.2.2); clear hSw; go_simp; (try with_reducible rfl))
  all_goals try simp only [Act.put, List.setIfInBounds_toArray, List.set_cons_zero, List.set_cons_succ]
  refine wpAnyD_two (i := 1) (j := 6) (oi := ⟨some 51, Op.call { callee := Callee.value (Operand.func 37), args := #[Operand.const (Value.int IntKind.i64 5)], argTypes := #[3] }, 50, _, _, _⟩) (oj := ⟨some 9, Op.alloc 27, 0, _, _, _⟩) (by kernel_rfl) rfl rfl (by rfl) (by rfl) (fun K hK => ?_) (fun K hK => ?_)
  ·go_simp
   go_at_call 37
   refine (HW5.out V0).mono ?_
   rintro e V1 ⟨At, ct, rfl, ht, hb⟩
   go_simp
   have HB1 := Lib.hid (HB0.out.trans (hb.mono HB0.out.size))
   have HY1 := Lib.hid (HY0.out.to hb)
   have hS1 : V1.cell? ⟨b4, 0, none⟩ = some (.int .i64 500) ∧ V1.cell? ⟨b4, 1, none⟩ = some (.int .i64 4) ∧ V1.cell? ⟨b4, 2, none⟩ = some (.slice A4 exD.length c4) := ⟨HY1.out.bx.cell 0 rfl, HY1.out.bx.cell 1 rfl, HY1.out.bx.cell 2 rfl⟩
   have HT1 := Lib.hid (ht.mono (S' := fun b => b < V1.heap.size) fun i hi _ => hi.2)
   clear ht hb
   refine hK _ _ (fun _ => ?_) ?_
   ·exact hS1
   clear hK K
   try simp only [Act.put, List.setIfInBounds_toArray, List.set_cons_zero, List.set_cons_succ]
   refine wpAnyD_two (i := 2) (j := 6) (oi := ⟨some 52, Op.call { callee := Callee.value (Operand.func 38), args := #[Operand.tmp 50, Operand.const (Value.int IntKind.i64 2), Operand.const (Value.int IntKind.i64 9), Operand.tmp 51], argTypes := #[27, 3, 3, 50] }, 81, _, _, _⟩) (oj := ⟨some 9, Op.alloc 27, 0, _, _, _⟩) (by kernel_rfl) rfl rfl (by rfl) (by rfl) (fun K hK => ?_) (fun K hK => ?_)
   ·go_simp
    go_at_call 38
    refine (ex_correct (l2 := exI) 5 (by decide) 2 9 2 ⟨2, false, [8], [wideT 1]⟩ ex_oks.2.1.2 ex_oks.2.2.1.1 rfl HY1.out.sm HT1.out ex_find.2.1 (by decide) rfl (by decide) (by decide) ex_wrong.1.1 (by decide)).mono ?_
    rintro e V2 ⟨Ab, cb, rfl, hm, hn, hb⟩
    go_simp
    have HB2 := Lib.hid (HB1.out.trans (hb.mono HB1.out.size))
    have HY2 := Lib.hid (HY1.out.to hb)
    have hS2 : V2.cell? ⟨b4, 0, none⟩ = some (.int .i64 500) ∧ V2.cell? ⟨b4, 1, none⟩ = some (.int .i64 4) ∧ V2.cell? ⟨b4, 2, none⟩ = some (.slice A4 exD.length c4) := ⟨HY2.out.bx.cell 0 rfl, HY2.out.bx.cell 1 rfl, HY2.out.bx.cell 2 rfl⟩
    have HT2 := Lib.hid (HT1.out.to hb)
    have HR2 := Lib.hid hm
    clear hm hn hb
    refine hK _ _ (fun _ => ?_) ?_
    ·exact hS2
    clear hK K
    try simp only [Act.put, List.setIfInBounds_toArray, List.set_cons_zero, List.set_cons_succ]
    refine wpAnyE_take (i := 3) (oi := ⟨some 49, Op.move (Operand.tmp 52), 81, _, _, _⟩) (v := ?_) rfl (by kernel_rfl) (by kernel_rfl) (by kernel_rfl) (by kernel_rfl) (by kernel_rfl) (fun _ _ _ h => nomatch h.1) (by rfl) ?hykr5_2 (hS2) ?hrkr5_2
    case hykr5_2 => (intro wS hSw; clear hSw; go_simp; (try with_reducible rfl))
    all_goals try simp only [Act.put, List.setIfInBounds_toArray, List.set_cons_zero, List.set_cons_succ]
    refine wpAnyF_take (i := 4) (oi := ⟨some 53, Op.extract (Operand.tmp 49) 0, 27, _, _, _⟩) (v := ?_) rfl (by rfl) (by kernel_rfl) (by kernel_rfl) (by kernel_rfl) (fun _ _ _ h => nomatch h.1) (by rfl) ?hykr5_3 ?hrkr5_3
    case hykr5_3 => (intro wS; go_simp; (try with_reducible rfl))
    all_goals try simp only [Act.put, List.setIfInBounds_toArray, List.set_cons_zero, List.set_cons_succ]
    refine wpAnyF_take (i := 5) (oi := ⟨some 54, Op.extract (Operand.tmp 49) 1, 58, _, _, _⟩) (v := ?_) rfl (by rfl) (by kernel_rfl) (by kernel_rfl) (by kernel_rfl) (fun _ _ _ h => nomatch h.1) (by rfl) ?hykr5_4 ?hrkr5_4
    case hykr5_4 => (intro wS; go_simp; (try with_reducible rfl))
    all_goals try simp only [Act.put, List.setIfInBounds_toArray, List.set_cons_zero, List.set_cons_succ]
    refine wpAnyD_one (i := 6) (oi := ⟨some 9, Op.alloc 27, 0, _, _, _⟩) rfl (by kernel_rfl) (by rfl) (fun K hK => ?_)
    go_simp
    obtain ⟨V3, hV⟩ : ∃ V3, (V2.alloc (.cells #[.int .i64 0, .int .i64 0, .slice none 0 0] 27)) = V3 := ⟨_, rfl⟩
    have hb : Below V2.heap.size V2 V3 := by rw [← hV]; exact (Below.refl _ _).alloc (Nat.le_refl _) _
    have hx : ABox V3 V2.heap.size 27 [.int .i64 0, .int .i64 0, .slice none 0 0] := by rw [← hV]; exact heap_alloc_new V2 _
    obtain ⟨bn, hbn⟩ : ∃ bn, V2.heap.size = bn := ⟨_, rfl⟩
    have HBN : Hid (W5.heap.size ≤ bn) := Lib.hid (by rw [← hbn]; exact HB2.out.size)
    rw [hV, hbn]
    rw [hbn] at hx
    have HN := Lib.hid ((HR2.out.s.keep (Kept.all hb) hb.size).mono (S' := fun i => i ≠ bn) fun i (hi : i < V2.heap.size) _ => by omega)
    have HB3 := Lib.hid (HB2.out.trans (hb.mono HB2.out.size))
    have HY3 := Lib.hid (HY2.out.to hb)
    have hS3 : V3.cell? ⟨b4, 0, none⟩ = some (.int .i64 500) ∧ V3.cell? ⟨b4, 1, none⟩ = some (.int .i64 4) ∧ V3.cell? ⟨b4, 2, none⟩ = some (.slice A4 exD.length c4) := ⟨HY3.out.bx.cell 0 rfl, HY3.out.bx.cell 1 rfl, HY3.out.bx.cell 2 rfl⟩
    have HT3 := Lib.hid (HT2.out.to hb)
    have HR3 := Lib.hid (HR2.out.to hb)
    have HX3 := Lib.hid hx
    clear hx hb hV hbn
    refine hK _ _ (fun _ => ?_) ?_
    ·exact hS3
    clear hK K
    try simp only [Act.put, List.setIfInBounds_toArray, List.set_cons_zero, List.set_cons_succ]
    refine wpAnyD_one (i := 7) (oi := ⟨none, Op.store 27 (Operand.tmp 9) (Operand.tmp 53), 0, _, _, _⟩) rfl (by kernel_rfl) (by rfl) (fun K hK => ?_)
    have z0 := HX3.out.cell 0 rfl
    have z1 := HX3.out.cell 1 rfl
    have z2 := HX3.out.cell 2 rfl
    have y0 := HX3.out.fz 0
    have y1 := HX3.out.fz 1
    have y2 := HX3.out.fz 2
    go_simp
    clear z0 z1 z2 y0 y1 y2
    refine hK _ _ (fun h => absurd h (by decide)) ?_
    clear hK K
    try simp only [Act.put]
    refine wpAnyD_one (i := 8) (oi := ⟨some 10, Op.assign (Operand.tmp 54), 58, _, _, _⟩) rfl (by kernel_rfl) (by rfl) (fun K hK => ?_)
    go_simp
    refine hK _ _ (fun h => absurd h (by decide)) ?_
    clear hK K
    try simp only [Act.put, List.setIfInBounds_toArray, List.set_cons_zero, List.set_cons_succ]
    refine wpAnyD_done (by kernel_rfl) ?_ _
    refine ⟨rfl, Ab, cb, At, ct, bn, rfl, ?_⟩
    exact LB.into HL4.out.sm.t HB3.out HX3.out HBN.out HN.out
   ·go_simp
    obtain ⟨V2, hV⟩ : ∃ V2, (V1.alloc (.cells #[.int .i64 0, .int .i64 0, .slice none 0 0] 27)) = V2 := ⟨_, rfl⟩
    have hb : Below V1.heap.size V1 V2 := by rw [← hV]; exact (Below.refl _ _).alloc (Nat.le_refl _) _
    have hx : ABox V2 V1.heap.size 27 [.int .i64 0, .int .i64 0, .slice none 0 0] := by rw [← hV]; exact heap_alloc_new V1 _
    obtain ⟨bn, hbn⟩ : ∃ bn, V1.heap.size = bn := ⟨_, rfl⟩
    have HBN : Hid (W5.heap.size ≤ bn) := Lib.hid (by rw [← hbn]; exact HB1.out.size)
    rw [hV, hbn]
    rw [hbn] at hx
    have HB2 := Lib.hid (HB1.out.trans (hb.mono HB1.out.size))
    have HY2 := Lib.hid (HY1.out.to hb)
    have hS2 : V2.cell? ⟨b4, 0, none⟩ = some (.int .i64 500) ∧ V2.cell? ⟨b4, 1, none⟩ = some (.int .i64 4) ∧ V2.cell? ⟨b4, 2, none⟩ = some (.slice A4 exD.length c4) := ⟨HY2.out.bx.cell 0 rfl, HY2.out.bx.cell 1 rfl, HY2.out.bx.cell 2 rfl⟩
    have HT2 := Lib.hid (HT1.out.to hb)
    have HX2 := Lib.hid hx
    clear hx hb hV hbn
    refine hK _ _ (fun _ => ?_) ?_
    ·exact hS2
    clear hK K
    try simp only [Act.put, List.setIfInBounds_toArray, List.set_cons_zero, List.set_cons_succ]
    refine wpAnyD_one (i := 2) (oi := ⟨some 52, Op.call { callee := Callee.value (Operand.func 38), args := #[Operand.tmp 50, Operand.const (Value.int IntKind.i64 2), Operand.const (Value.int IntKind.i64 9), Operand.tmp 51], argTypes := #[27, 3, 3, 50] }, 81, _, _, _⟩) rfl (by kernel_rfl) (by rfl) (fun K hK => ?_)
    go_simp
    go_at_call 38
    refine (ex_correct (l2 := exI) 5 (by decide) 2 9 2 ⟨2, false, [8], [wideT 1]⟩ ex_oks.2.1.2 ex_oks.2.2.1.1 rfl HY2.out.sm HT2.out ex_find.2.1 (by decide) rfl (by decide) (by decide) ex_wrong.1.1 (by decide)).mono ?_
    rintro e V3 ⟨Ab, cb, rfl, hm, hn, hb⟩
    go_simp
    have HB3 := Lib.hid (HB2.out.trans (hb.mono HB2.out.size))
    have HY3 := Lib.hid (HY2.out.to hb)
    have hS3 : V3.cell? ⟨b4, 0, none⟩ = some (.int .i64 500) ∧ V3.cell? ⟨b4, 1, none⟩ = some (.int .i64 4) ∧ V3.cell? ⟨b4, 2, none⟩ = some (.slice A4 exD.length c4) := ⟨HY3.out.bx.cell 0 rfl, HY3.out.bx.cell 1 rfl, HY3.out.bx.cell 2 rfl⟩
    have HT3 := Lib.hid (HT2.out.to hb)
    have HX3 := Lib.hid (HX2.out.to hb)
    have HR3 := Lib.hid hm
    have HN := Lib.hid (hn.mono (S' := fun i => i ≠ bn) fun i (hi : V2.heap.size ≤ i) _ => by have := HX2.out.lt; omega)
    clear hm hn hb
    refine hK _ _ (fun _ => ?_) ?_
    ·exact hS3
    clear hK K
    try simp only [Act.put, List.setIfInBounds_toArray, List.set_cons_zero, List.set_cons_succ]
    refine wpAnyE_take (i := 3) (oi := ⟨some 49, Op.move (Operand.tmp 52), 81, _, _, _⟩) (v := ?_) rfl (by kernel_rfl) (by kernel_rfl) (by kernel_rfl) (by kernel_rfl) (by kernel_rfl) (fun _ _ _ h => nomatch h.1) (by rfl) ?hykr5_5 (hS3) ?hrkr5_5
    case hykr5_5 => (intro wS hSw; clear hSw; go_simp; (try with_reducible rfl))
    all_goals try simp only [Act.put, List.setIfInBounds_toArray, List.set_cons_zero, List.set_cons_succ]
    refine wpAnyF_take (i := 4) (oi := ⟨some 53, Op.extract (Operand.tmp 49) 0, 27, _, _, _⟩) (v := ?_) rfl (by rfl) (by kernel_rfl) (by kernel_rfl) (by kernel_rfl) (fun _ _ _ h => nomatch h.1) (by rfl) ?hykr5_6 ?hrkr5_6
    case hykr5_6 => (intro wS; go_simp; (try with_reducible rfl))
    all_goals try simp only [Act.put, List.setIfInBounds_toArray, List.set_cons_zero, List.set_cons_succ]
    refine wpAnyF_take (i := 5) (oi := ⟨some 54, Op.extract (Operand.tmp 49) 1, 58, _, _, _⟩) (v := ?_) rfl (by rfl) (by kernel_rfl) (by kernel_rfl) (by kernel_rfl) (fun _ _ _ h => nomatch h.1) (by rfl) ?hykr5_7 ?hrkr5_7
    case hykr5_7 => (intro wS; go_simp; (try with_reducible rfl))
    all_goals try simp only [Act.put, List.setIfInBounds_toArray, List.set_cons_zero, List.set_cons_succ]
    refine wpAnyD_one (i := 7) (oi := ⟨none, Op.store 27 (Operand.tmp 9) (Operand.tmp 53), 0, _, _, _⟩) rfl (by kernel_rfl) (by rfl) (fun K hK => ?_)
    have z0 := HX3.out.cell 0 rfl
    have z1 := HX3.out.cell 1 rfl
    have z2 := HX3.out.cell 2 rfl
    have y0 := HX3.out.fz 0
    have y1 := HX3.out.fz 1
    have y2 := HX3.out.fz 2
    go_simp
    clear z0 z1 z2 y0 y1 y2
    refine hK _ _ (fun h => absurd h (by decide)) ?_
    clear hK K
    try simp only [Act.put]
    refine wpAnyD_one (i := 8) (oi := ⟨some 10, Op.assign (Operand.tmp 54), 58, _, _, _⟩) rfl (by kernel_rfl) (by rfl) (fun K hK => ?_)
    go_simp
    refine hK _ _ (fun h => absurd h (by decide)) ?_
    clear hK K
    try simp only [Act.put, List.setIfInBounds_toArray, List.set_cons_zero, List.set_cons_succ]
    refine wpAnyD_done (by kernel_rfl) ?_ _
    refine ⟨rfl, Ab, cb, At, ct, bn, rfl, ?_⟩
    exact LB.into HL4.out.sm.t HB3.out HX3.out HBN.out HN.out
  ·go_simp
   obtain ⟨V1, hV⟩ : ∃ V1, (V0.alloc (.cells #[.int .i64 0, .int .i64 0, .slice none 0 0] 27)) = V1 := ⟨_, rfl⟩
   have hb : Below V0.heap.size V0 V1 := by rw [← hV]; exact (Below.refl _ _).alloc (Nat.le_refl _) _
   have hx : ABox V1 V0.heap.size 27 [.int .i64 0, .int .i64 0, .slice none 0 0] := by rw [← hV]; exact heap_alloc_new V0 _
   obtain ⟨bn, hbn⟩ : ∃ bn, V0.heap.size = bn := ⟨_, rfl⟩
   have HBN : Hid (W5.heap.size ≤ bn) := Lib.hid (by rw [← hbn]; exact HB0.out.size)
   rw [hV, hbn]
   rw [hbn] at hx
   have HB1 := Lib.hid (HB0.out.trans (hb.mono HB0.out.size))
   have HY1 := Lib.hid (HY0.out.to hb)
   have hS1 : V1.cell? ⟨b4, 0, none⟩ = some (.int .i64 500) ∧ V1.cell? ⟨b4, 1, none⟩ = some (.int .i64 4) ∧ V1.cell? ⟨b4, 2, none⟩ = some (.slice A4 exD.length c4) := ⟨HY1.out.bx.cell 0 rfl, HY1.out.bx.cell 1 rfl, HY1.out.bx.cell 2 rfl⟩
   have HX1 := Lib.hid hx
   clear hx hb hV hbn
   refine hK _ _ (fun _ => ?_) ?_
   ·exact hS1
   clear hK K
   try simp only [Act.put, List.setIfInBounds_toArray, List.set_cons_zero, List.set_cons_succ]
   refine wpAnyD_one (i := 1) (oi := ⟨some 51, Op.call { callee := Callee.value (Operand.func 37), args := #[Operand.const (Value.int IntKind.i64 5)], argTypes := #[3] }, 50, _, _, _⟩) rfl (by kernel_rfl) (by rfl) (fun K hK => ?_)
   go_simp
   go_at_call 37
   refine (HW5.out V1).mono ?_
   rintro e V2 ⟨At, ct, rfl, ht, hb⟩
   go_simp
   have HB2 := Lib.hid (HB1.out.trans (hb.mono HB1.out.size))
   have HY2 := Lib.hid (HY1.out.to hb)
   have hS2 : V2.cell? ⟨b4, 0, none⟩ = some (.int .i64 500) ∧ V2.cell? ⟨b4, 1, none⟩ = some (.int .i64 4) ∧ V2.cell? ⟨b4, 2, none⟩ = some (.slice A4 exD.length c4) := ⟨HY2.out.bx.cell 0 rfl, HY2.out.bx.cell 1 rfl, HY2.out.bx.cell 2 rfl⟩
   have HX2 := Lib.hid (HX1.out.to hb)
   have HT2 := Lib.hid (ht.mono (S' := fun b => b < V2.heap.size) fun i hi _ => hi.2)
   clear ht hb
   refine hK _ _ (fun _ => ?_) ?_
   ·exact hS2
   clear hK K
   try simp only [Act.put, List.setIfInBounds_toArray, List.set_cons_zero, List.set_cons_succ]
   refine wpAnyD_one (i := 2) (oi := ⟨some 52, Op.call { callee := Callee.value (Operand.func 38), args := #[Operand.tmp 50, Operand.const (Value.int IntKind.i64 2), Operand.const (Value.int IntKind.i64 9), Operand.tmp 51], argTypes := #[27, 3, 3, 50] }, 81, _, _, _⟩) rfl (by kernel_rfl) (by rfl) (fun K hK => ?_)
   go_simp
   go_at_call 38
   refine (ex_correct (l2 := exI) 5 (by decide) 2 9 2 ⟨2, false, [8], [wideT 1]⟩ ex_oks.2.1.2 ex_oks.2.2.1.1 rfl HY2.out.sm HT2.out ex_find.2.1 (by decide) rfl (by decide) (by decide) ex_wrong.1.1 (by decide)).mono ?_
   rintro e V3 ⟨Ab, cb, rfl, hm, hn, hb⟩
   go_simp
   have HB3 := Lib.hid (HB2.out.trans (hb.mono HB2.out.size))
   have HY3 := Lib.hid (HY2.out.to hb)
   have hS3 : V3.cell? ⟨b4, 0, none⟩ = some (.int .i64 500) ∧ V3.cell? ⟨b4, 1, none⟩ = some (.int .i64 4) ∧ V3.cell? ⟨b4, 2, none⟩ = some (.slice A4 exD.length c4) := ⟨HY3.out.bx.cell 0 rfl, HY3.out.bx.cell 1 rfl, HY3.out.bx.cell 2 rfl⟩
   have HT3 := Lib.hid (HT2.out.to hb)
   have HX3 := Lib.hid (HX2.out.to hb)
   have HR3 := Lib.hid hm
   have HN := Lib.hid (hn.mono (S' := fun i => i ≠ bn) fun i (hi : V2.heap.size ≤ i) _ => by have := HX2.out.lt; omega)
   clear hm hn hb
   refine hK _ _ (fun _ => ?_) ?_
   ·exact hS3
   clear hK K
   try simp only [Act.put, List.setIfInBounds_toArray, List.set_cons_zero, List.set_cons_succ]
   refine wpAnyE_take (i := 3) (oi := ⟨some 49, Op.move (Operand.tmp 52), 81, _, _, _⟩) (v := ?_) rfl (by kernel_rfl) (by kernel_rfl) (by kernel_rfl) (by kernel_rfl) (by kernel_rfl) (fun _ _ _ h => nomatch h.1) (by rfl) ?hykr5_8 (hS3) ?hrkr5_8
   case hykr5_8 => (intro wS hSw; clear hSw; go_simp; (try with_reducible rfl))
   all_goals try simp only [Act.put, List.setIfInBounds_toArray, List.set_cons_zero, List.set_cons_succ]
   refine wpAnyF_take (i := 4) (oi := ⟨some 53, Op.extract (Operand.tmp 49) 0, 27, _, _, _⟩) (v := ?_) rfl (by rfl) (by kernel_rfl) (by kernel_rfl) (by kernel_rfl) (fun _ _ _ h => nomatch h.1) (by rfl) ?hykr5_9 ?hrkr5_9
   case hykr5_9 => (intro wS; go_simp; (try with_reducible rfl))
   all_goals try simp only [Act.put, List.setIfInBounds_toArray, List.set_cons_zero, List.set_cons_succ]
   refine wpAnyF_take (i := 5) (oi := ⟨some 54, Op.extract (Operand.tmp 49) 1, 58, _, _, _⟩) (v := ?_) rfl (by rfl) (by kernel_rfl) (by kernel_rfl) (by kernel_rfl) (fun _ _ _ h => nomatch h.1) (by rfl) ?hykr5_10 ?hrkr5_10
   case hykr5_10 => (intro wS; go_simp; (try with_reducible rfl))
   all_goals try simp only [Act.put, List.setIfInBounds_toArray, List.set_cons_zero, List.set_cons_succ]
   refine wpAnyD_one (i := 7) (oi := ⟨none, Op.store 27 (Operand.tmp 9) (Operand.tmp 53), 0, _, _, _⟩) rfl (by kernel_rfl) (by rfl) (fun K hK => ?_)
   have z0 := HX3.out.cell 0 rfl
   have z1 := HX3.out.cell 1 rfl
   have z2 := HX3.out.cell 2 rfl
   have y0 := HX3.out.fz 0
   have y1 := HX3.out.fz 1
   have y2 := HX3.out.fz 2
   go_simp
   clear z0 z1 z2 y0 y1 y2
   refine hK _ _ (fun h => absurd h (by decide)) ?_
   clear hK K
   try simp only [Act.put]
   refine wpAnyD_one (i := 8) (oi := ⟨some 10, Op.assign (Operand.tmp 54), 58, _, _, _⟩) rfl (by kernel_rfl) (by rfl) (fun K hK => ?_)
   go_simp
   refine hK _ _ (fun h => absurd h (by decide)) ?_
   clear hK K
   try simp only [Act.put, List.setIfInBounds_toArray, List.set_cons_zero, List.set_cons_succ]
   refine wpAnyD_done (by kernel_rfl) ?_ _
   refine ⟨rfl, Ab, cb, At, ct, bn, rfl, ?_⟩
   exact LB.into HL4.out.sm.t HB3.out HX3.out HBN.out HN.out
 rintro _ W6 ⟨A5, c5, At, ct, b5, rfl, hl, hb⟩
 have HL5 := Lib.hid hl
 simp only [Act.put, List.setIfInBounds_toArray, List.set_cons_zero, List.set_cons_succ]
 have HL1 := Lib.hid (HL1.out.to hb)
 have HL2 := Lib.hid (HL2.out.to hb)
 have HL3 := Lib.hid (HL3.out.to hb)
 have HL4 := Lib.hid (HL4.out.to hb)
 have HB := Lib.hid (HB.out.trans (hb.mono HB.out.size))
 clear hl hb
 have q0 := HL5.out.bx.cell 0 rfl
 have q1 := HL5.out.bx.cell 1 rfl
 have q2 := HL5.out.bx.cell 2 rfl
 go_upto_region 7 with (first
  |(go_at_call 39; refine (ex_strike (l2 := exK) 2 2 ex_oks.2.2.1.1 rfl HL5.out.sm ex_find.2.2.1 (by decide)).mono ?_; rintro e V1 ⟨Ab, cb, rfl, hm, -, hb⟩; have HM1 := Lib.hid hm; have HV1 := Lib.hid hb; clear hm hb)
  | fail)
 obtain ⟨W7, hW⟩ : ∃ W7, V1.alloc (.cells #[.int .i64 500, .int .i64 4, .slice Ab exK.length cb] 27) = W7 := ⟨_, rfl⟩
 have hl := LB.fresh HM1.out
 obtain ⟨b6, hbk⟩ : ∃ b6, V1.heap.size = b6 := ⟨_, rfl⟩
 obtain ⟨A6, hAk⟩ : ∃ A6, Ab = A6 := ⟨_, rfl⟩
 obtain ⟨c6, hck⟩ : ∃ c6, cb = c6 := ⟨_, rfl⟩
 rw [hW] at hl ⊢
 rw [hbk, hAk, hck]
 have hb : Below W6.heap.size W6 W7 := HV1.out.trans (hl.2.mono HV1.out.size)
 have HL6 : Hid (LB W7 b6 A6 c6 exK) := Lib.hid (by rw [← hbk, ← hAk, ← hck]; exact hl.1)
 have HL1 := Lib.hid (HL1.out.to hb)
 have HL2 := Lib.hid (HL2.out.to hb)
 have HL3 := Lib.hid (HL3.out.to hb)
 have HL4 := Lib.hid (HL4.out.to hb)
 have HL5 := Lib.hid (HL5.out.to hb)
 have HB := Lib.hid (HB.out.trans (hb.mono HB.out.size))
 clear hl hb hW hbk hAk hck q0 q1 q2
 have q0 := HL6.out.bx.cell 0 rfl
 have q1 := HL6.out.bx.cell 1 rfl
 have q2 := HL6.out.bx.cell 2 rfl
 go_upto_region 8 with (first
  |(go_at_call 39; refine (ex_strike (l2 := exM) 0 0 ex_oks.2.2.1.2 rfl HL6.out.sm ex_find.2.2.2 (by decide)).mono ?_; rintro e V1 ⟨Ab, cb, rfl, hm, -, hb⟩; have HM1 := Lib.hid hm; have HV1 := Lib.hid hb; clear hm hb)
  | fail)
 obtain ⟨W8, hW⟩ : ∃ W8, V1.alloc (.cells #[.int .i64 500, .int .i64 4, .slice Ab exM.length cb] 27) = W8 := ⟨_, rfl⟩
 have hl := LB.fresh HM1.out
 obtain ⟨b7, hbk⟩ : ∃ b7, V1.heap.size = b7 := ⟨_, rfl⟩
 obtain ⟨A7, hAk⟩ : ∃ A7, Ab = A7 := ⟨_, rfl⟩
 obtain ⟨c7, hck⟩ : ∃ c7, cb = c7 := ⟨_, rfl⟩
 rw [hW] at hl ⊢
 rw [hbk, hAk, hck]
 have hb : Below W7.heap.size W7 W8 := HV1.out.trans (hl.2.mono HV1.out.size)
 have HL7 : Hid (LB W8 b7 A7 c7 exM) := Lib.hid (by rw [← hbk, ← hAk, ← hck]; exact hl.1)
 have HL1 := Lib.hid (HL1.out.to hb)
 have HL2 := Lib.hid (HL2.out.to hb)
 have HL3 := Lib.hid (HL3.out.to hb)
 have HL4 := Lib.hid (HL4.out.to hb)
 have HL5 := Lib.hid (HL5.out.to hb)
 have HL6 := Lib.hid (HL6.out.to hb)
 have HB := Lib.hid (HB.out.trans (hb.mono HB.out.size))
 clear hl hb hW hbk hAk hck q0 q1 q2
 have q0 := HL3.out.bx.cell 0 rfl
 have q1 := HL3.out.bx.cell 1 rfl
 have q2 := HL3.out.bx.cell 2 rfl
 go_upto_region 9 with (first
  |(go_at_call 18; refine (ex_where (e := 0) (v := 7) (wd := 4) (n := 2) (s := 2) (i := 1) ex_oks.2.1.1 HL3.out.sm ex_where1).mono ?_; rintro e V1 ⟨rfl, hb⟩; have HV1 := Lib.hid hb; clear hb)
  | fail)
 obtain ⟨W9, hW⟩ : ∃ W9, V1.alloc (.cells #[.int .i64 2, .int .i64 2] 24) = W9 := ⟨_, rfl⟩
 have hb2 : Below V1.heap.size V1 W9 := by rw [← hW]; exact (Below.refl _ _).alloc (Nat.le_refl _) _
 have hx : ABox W9 V1.heap.size 24 [.int .i64 2, .int .i64 2] := by rw [← hW]; exact heap_alloc_new V1 _
 obtain ⟨b8, hbk⟩ : ∃ b8, V1.heap.size = b8 := ⟨_, rfl⟩
 rw [hW, hbk]
 rw [hbk] at hx
 have hb : Below W8.heap.size W8 W9 := HV1.out.trans (hb2.mono HV1.out.size)
 have HX8 := Lib.hid hx
 have HL1 := Lib.hid (HL1.out.to hb)
 have HL2 := Lib.hid (HL2.out.to hb)
 have HL3 := Lib.hid (HL3.out.to hb)
 have HL4 := Lib.hid (HL4.out.to hb)
 have HL5 := Lib.hid (HL5.out.to hb)
 have HL6 := Lib.hid (HL6.out.to hb)
 have HL7 := Lib.hid (HL7.out.to hb)
 have HB := Lib.hid (HB.out.trans (hb.mono HB.out.size))
 clear hb hb2 hx hW hbk q0 q1 q2 HV1
 have q0 := HL3.out.bx.cell 0 rfl
 have q1 := HL3.out.bx.cell 1 rfl
 have q2 := HL3.out.bx.cell 2 rfl
 go_upto_region 10 with (first
  |(go_at_call 18; refine (ex_where (e := 0) (v := 3) (wd := 4) (n := 2) (s := 0) (i := 1) ex_oks.2.1.1 HL3.out.sm ex_where2).mono ?_; rintro e V1 ⟨rfl, hb⟩; have HV1 := Lib.hid hb; clear hb)
  | fail)
 obtain ⟨W10, hW⟩ : ∃ W10, V1.alloc (.cells #[.int .i64 2, .int .i64 0] 24) = W10 := ⟨_, rfl⟩
 have hb2 : Below V1.heap.size V1 W10 := by rw [← hW]; exact (Below.refl _ _).alloc (Nat.le_refl _) _
 have hx : ABox W10 V1.heap.size 24 [.int .i64 2, .int .i64 0] := by rw [← hW]; exact heap_alloc_new V1 _
 obtain ⟨b9, hbk⟩ : ∃ b9, V1.heap.size = b9 := ⟨_, rfl⟩
 rw [hW, hbk]
 rw [hbk] at hx
 have hb : Below W9.heap.size W9 W10 := HV1.out.trans (hb2.mono HV1.out.size)
 have HX9 := Lib.hid hx
 have HL1 := Lib.hid (HL1.out.to hb)
 have HL2 := Lib.hid (HL2.out.to hb)
 have HL3 := Lib.hid (HL3.out.to hb)
 have HL4 := Lib.hid (HL4.out.to hb)
 have HL5 := Lib.hid (HL5.out.to hb)
 have HL6 := Lib.hid (HL6.out.to hb)
 have HL7 := Lib.hid (HL7.out.to hb)
 have HX8 := Lib.hid (HX8.out.to hb)
 have HB := Lib.hid (HB.out.trans (hb.mono HB.out.size))
 clear hb hb2 hx hW hbk q0 q1 q2 HV1
 go_upto_region 11 with (fail)
 have q0 := HL2.out.bx.cell 0 rfl
 have q1 := HL2.out.bx.cell 1 rfl
 have q2 := HL2.out.bx.cell 2 rfl
 go_wp2_with fail
 refine (ex_labels ex_oks.1.2.2.1 HL2.out.sm ex_ok.1.2 ex_labA).mono ?_
 rintro e W11 ⟨rfl, hb⟩
 have HL1 := Lib.hid (HL1.out.to hb)
 have HL2 := Lib.hid (HL2.out.to hb)
 have HL3 := Lib.hid (HL3.out.to hb)
 have HL4 := Lib.hid (HL4.out.to hb)
 have HL5 := Lib.hid (HL5.out.to hb)
 have HL6 := Lib.hid (HL6.out.to hb)
 have HL7 := Lib.hid (HL7.out.to hb)
 have HX8 := Lib.hid (HX8.out.to hb)
 have HX9 := Lib.hid (HX9.out.to hb)
 have HB := Lib.hid (HB.out.trans (hb.mono HB.out.size))
 clear hb q0 q1 q2
 have q0 := HL3.out.bx.cell 0 rfl
 have q1 := HL3.out.bx.cell 1 rfl
 have q2 := HL3.out.bx.cell 2 rfl
 go_wp2_with fail
 refine (ex_labels ex_oks.2.1.1 HL3.out.sm ex_ok.2.1.1 ex_labC).mono ?_
 rintro e W12 ⟨rfl, hb⟩
 have HL1 := Lib.hid (HL1.out.to hb)
 have HL2 := Lib.hid (HL2.out.to hb)
 have HL3 := Lib.hid (HL3.out.to hb)
 have HL4 := Lib.hid (HL4.out.to hb)
 have HL5 := Lib.hid (HL5.out.to hb)
 have HL6 := Lib.hid (HL6.out.to hb)
 have HL7 := Lib.hid (HL7.out.to hb)
 have HX8 := Lib.hid (HX8.out.to hb)
 have HX9 := Lib.hid (HX9.out.to hb)
 have HB := Lib.hid (HB.out.trans (hb.mono HB.out.size))
 clear hb q0 q1 q2
 have q0 := HL4.out.bx.cell 0 rfl
 have q1 := HL4.out.bx.cell 1 rfl
 have q2 := HL4.out.bx.cell 2 rfl
 go_wp2_with fail
 refine (ex_labels ex_oks.2.1.2 HL4.out.sm ex_ok.2.1.2 ex_labD).mono ?_
 rintro e W13 ⟨rfl, hb⟩
 have HL1 := Lib.hid (HL1.out.to hb)
 have HL2 := Lib.hid (HL2.out.to hb)
 have HL3 := Lib.hid (HL3.out.to hb)
 have HL4 := Lib.hid (HL4.out.to hb)
 have HL5 := Lib.hid (HL5.out.to hb)
 have HL6 := Lib.hid (HL6.out.to hb)
 have HL7 := Lib.hid (HL7.out.to hb)
 have HX8 := Lib.hid (HX8.out.to hb)
 have HX9 := Lib.hid (HX9.out.to hb)
 have HB := Lib.hid (HB.out.trans (hb.mono HB.out.size))
 clear hb q0 q1 q2
 have q0 := HL5.out.bx.cell 0 rfl
 have q1 := HL5.out.bx.cell 1 rfl
 have q2 := HL5.out.bx.cell 2 rfl
 go_wp2_with fail
 refine (ex_labels ex_oks.2.2.1.1 HL5.out.sm ex_ok.2.2.1.1 ex_labI).mono ?_
 rintro e W14 ⟨rfl, hb⟩
 have HL1 := Lib.hid (HL1.out.to hb)
 have HL2 := Lib.hid (HL2.out.to hb)
 have HL3 := Lib.hid (HL3.out.to hb)
 have HL4 := Lib.hid (HL4.out.to hb)
 have HL5 := Lib.hid (HL5.out.to hb)
 have HL6 := Lib.hid (HL6.out.to hb)
 have HL7 := Lib.hid (HL7.out.to hb)
 have HX8 := Lib.hid (HX8.out.to hb)
 have HX9 := Lib.hid (HX9.out.to hb)
 have HB := Lib.hid (HB.out.trans (hb.mono HB.out.size))
 clear hb q0 q1 q2
 have l0 := HX8.out.cell 0 rfl
 have l1 := HX8.out.cell 1 rfl
 have m0 := HX9.out.cell 0 rfl
 have m1 := HX9.out.cell 1 rfl
 go_upto_region 13 with (fail)
 clear l0 l1 m0 m1
 refine wp_region_rely [9, 11, 16, 18] (fun i => if i = 9 then SP.val (.string ⟨#[49, 32, 50, 32, 50, 97, 32, 50, 98, 32, 50, 99, 32, 51, 32]⟩) else if i = 11 then SP.val (.string ⟨#[49, 32, 50, 32, 50, 97, 32, 50, 98, 32, 50, 99, 32, 51, 32]⟩) else if i = 16 then SP.val (.string ⟨#[49, 32, 50, 32, 50, 97, 32, 50, 98, 32, 50, 99, 32, 51, 32]⟩) else if i = 18 then SP.val (.string ⟨#[49, 32, 50, 32, 50, 97, 32, 50, 98, 32, 50, 99, 32, 51, 32]⟩) else SP.any) 22 (by kernel_rfl) (by kernel_rfl) ?_
 intro T _ g hg hgm
 have q60 : ∀ d, (g d).cell? ⟨b6, 0, none⟩ = some (.int .i64 500) := fun d => (HL6.out.to (hg d)).bx.cell 0 rfl
 have q61 : ∀ d, (g d).cell? ⟨b6, 1, none⟩ = some (.int .i64 4) := fun d => (HL6.out.to (hg d)).bx.cell 1 rfl
 have q62 : ∀ d, (g d).cell? ⟨b6, 2, none⟩ = some (.slice A6 exK.length c6) := fun d => (HL6.out.to (hg d)).bx.cell 2 rfl
 have q30 : ∀ d, (g d).cell? ⟨b3, 0, none⟩ = some (.int .i64 500) := fun d => (HL3.out.to (hg d)).bx.cell 0 rfl
 have q31 : ∀ d, (g d).cell? ⟨b3, 1, none⟩ = some (.int .i64 4) := fun d => (HL3.out.to (hg d)).bx.cell 1 rfl
 have q32 : ∀ d, (g d).cell? ⟨b3, 2, none⟩ = some (.slice A3 exC.length c3) := fun d => (HL3.out.to (hg d)).bx.cell 2 rfl
 have q70 : ∀ d, (g d).cell? ⟨b7, 0, none⟩ = some (.int .i64 500) := fun d => (HL7.out.to (hg d)).bx.cell 0 rfl
 have q71 : ∀ d, (g d).cell? ⟨b7, 1, none⟩ = some (.int .i64 4) := fun d => (HL7.out.to (hg d)).bx.cell 1 rfl
 have q72 : ∀ d, (g d).cell? ⟨b7, 2, none⟩ = some (.slice A7 exM.length c7) := fun d => (HL7.out.to (hg d)).bx.cell 2 rfl
 repeat (refine wpR_pure (by rfl) fun Kq hq => ?_; go_big_quiet_step (fail); refine wpQuiet_nil (hq _ ?_); clear hq Kq)
 refine wpR_busy (by rfl) (by rfl) (fun d hG K Q hK => ?_) (fun v d hG hp Kr hr => ?_)
 ·go_simp
  go_at_call 40
  refine (ex_labels ex_oks.2.2.1.2 (HL6.out.to (hg d)).sm ex_ok.2.2.1.2 (ex_labK.trans ex_labC)).mono ?_
  rintro e W1 ⟨rfl, hb1⟩
  go_simp
  exact hK _ _ hb1 (rfl)
 have hp : v = .string ⟨#[49, 32, 50, 32, 50, 97, 32, 50, 98, 32, 50, 99, 32, 51, 32]⟩ := hp
 subst hp
 (try clear hp); clear hG
 simp only [Act.put, List.setIfInBounds_toArray, List.set_cons_zero, List.set_cons_succ]
 refine hr _ ?_
 clear hr Kr
 repeat (refine wpR_pure (by rfl) fun Kq hq => ?_; go_big_quiet_step (fail); refine wpQuiet_nil (hq _ ?_); clear hq Kq)
 refine wpR_busy (by rfl) (by rfl) (fun d hG K Q hK => ?_) (fun v d hG hp Kr hr => ?_)
 ·go_simp
  go_at_call 40
  refine (ex_labels ex_oks.2.1.1 (HL3.out.to (hg d)).sm ex_ok.2.1.1 ex_labC).mono ?_
  rintro e W1 ⟨rfl, hb1⟩
  go_simp
  exact hK _ _ hb1 (rfl)
 have hp : v = .string ⟨#[49, 32, 50, 32, 50, 97, 32, 50, 98, 32, 50, 99, 32, 51, 32]⟩ := hp
 subst hp
 (try clear hp); clear hG
 simp only [Act.put, List.setIfInBounds_toArray, List.set_cons_zero, List.set_cons_succ]
 refine hr _ ?_
 clear hr Kr
 repeat (refine wpR_pure (by rfl) fun Kq hq => ?_; go_big_quiet_step (fail); refine wpQuiet_nil (hq _ ?_); clear hq Kq)
 refine wpR_busy (by rfl) (by rfl) (fun d hG K Q hK => ?_) (fun v d hG hp Kr hr => ?_)
 ·go_simp
  go_at_call 40
  refine (ex_labels ex_oks.2.2.2 (HL7.out.to (hg d)).sm ex_ok.2.2.2 (ex_labM.trans ex_labC)).mono ?_
  rintro e W1 ⟨rfl, hb1⟩
  go_simp
  exact hK _ _ hb1 (rfl)
 have hp : v = .string ⟨#[49, 32, 50, 32, 50, 97, 32, 50, 98, 32, 50, 99, 32, 51, 32]⟩ := hp
 subst hp
 (try clear hp); clear hG
 simp only [Act.put, List.setIfInBounds_toArray, List.set_cons_zero, List.set_cons_succ]
 refine hr _ ?_
 clear hr Kr
 repeat (refine wpR_pure (by rfl) fun Kq hq => ?_; go_big_quiet_step (fail); refine wpQuiet_nil (hq _ ?_); clear hq Kq)
 refine wpR_busy (by rfl) (by rfl) (fun d hG K Q hK => ?_) (fun v d hG hp Kr hr => ?_)
 ·go_simp
  go_at_call 40
  refine (ex_labels ex_oks.2.1.1 (HL3.out.to (hg d)).sm ex_ok.2.1.1 ex_labC).mono ?_
  rintro e W1 ⟨rfl, hb1⟩
  go_simp
  exact hK _ _ hb1 (rfl)
 have hp : v = .string ⟨#[49, 32, 50, 32, 50, 97, 32, 50, 98, 32, 50, 99, 32, 51, 32]⟩ := hp
 subst hp
 (try clear hp); clear hG
 simp only [Act.put, List.setIfInBounds_toArray, List.set_cons_zero, List.set_cons_succ]
 refine hr _ ?_
 clear hr Kr
 repeat (refine wpR_pure (by rfl) fun Kq hq => ?_; go_big_quiet_step (fail); refine wpQuiet_nil (hq _ ?_); clear hq Kq)
 refine wpR_end (by kernel_rfl) (fun d hG => ?_) _

 have HBd := Lib.hid (hg d)
 clear hG hg hgm
 unfold Exit.then
 go_wp2_with fail
 go_ret
 exact ⟨rfl, HB.out.trans (HBd.out.mono HB.out.size)⟩
end Go.Proofs.YtakaielemicpkaaGreatDoor
namespace Go.Proofs.YtakaielemicpkaaGreatDoor
open Go.RowKit
structure LM (m h : Int) (w : World) (b : Nat) (A : Option Addr) (c : Nat) (l : List SectP) : Prop where
 bx : ABox w b 27 [.int .i64 m, .int .i64 h, .slice A l.length c]
 sm : SM w A c l
theorem LM.fresh {m h : Int} {w : World} {A : Option Addr} {c : Nat} {l : List SectP} (H : SM w A c l) : LM m h (w.alloc (.cells #[.int .i64 m, .int .i64 h, .slice A l.length c] 27)) w.heap.size A c l ∧ Below w.heap.size w (w.alloc (.cells #[.int .i64 m, .int .i64 h, .slice A l.length c] 27)) :=
 have hb : Below w.heap.size w (w.alloc (.cells #[.int .i64 m, .int .i64 h, .slice A l.length c] 27)) := (Below.refl _ _).alloc (Nat.le_refl _) _
 ⟨⟨heap_alloc_new w _, H.to hb⟩, hb⟩
structure LT (w : World) (x : Nat) (A : Option Addr) (c : Nat) (B : Option Addr) (d : Nat) (a b : List (List Word)) : Prop where
 bx : ABox w x 50 [.slice A a.length c, .slice B b.length d]
 tm : TM w A c B d a b
end Go.Proofs.YtakaielemicpkaaGreatDoor
namespace Go.Proofs.YtakaielemicpkaaGreatDoor
open Go.RowKit
structure CoreP where
 entry : Int
 ver : Int
 body : List LineP
 notes : List LineP
def PageP.core (p : PageP) : CoreP := ⟨p.entry, p.ver, p.body, p.notes⟩
def coreT (e v : Int) (p : PageP) : CoreP := ⟨e, v, p.body, p.notes⟩
def coreV (m h e : Int) : List Int → List TextP → List CoreP
 | _, [] => []
 | vs, t :: ts => (okPages t.a t.b m h).map (coreT e (vs.headD 0)) ++ coreV m h e vs.tail ts
def coreS (m h : Int) (l : List SectP) : List CoreP := l.flatMap fun s => coreV m h s.entry s.vers s.texts
theorem labelP_core (e v : Int) : ∀ (ps : List PageP) (num suf : Int) (k : Nat), (labelP e v num suf k ps).map PageP.core = ps.map (coreT e v)
 | [], _, _, _ => by simp [labelP]
 | p :: ps, num, suf, k => by
  rw [labelP_cons, List.map_cons, List.map_cons, labelP_core]; rfl
theorem versB_core (m h e : Int) : ∀ (ts : List TextP) (k : Nat) (num suf : Int) (vs : List Int), (versB m h e k num suf vs ts).map PageP.core = coreV m h e vs ts
 | [], _, _, _, _ => by simp [versB, coreV]
 | t :: ts, k, num, suf, vs => by
  rw [versB, List.map_append, labelP_core, versB_core m h e ts]; rfl
theorem sectsB_core (m h : Int) : ∀ (l : List SectP) (num : Int), (sectsB m h num l).map PageP.core = coreS m h l
 | [], _ => rfl
 | s :: l, num => by
  rw [sectsB, List.map_append, versB_core, sectsB_core m h l]; rfl
theorem pagesB_core (m h : Int) (l : List SectP) : (pagesB m h l).map PageP.core = coreS m h l := sectsB_core m h l 0
theorem setPages_all (P : LineP → Prop) (notes : List (List LineP)) (hn : ∀ n ∈ notes, ∀ x ∈ n, P x) (h : Nat) : ∀ (f : Nat) (body queue : List LineP), (∀ x ∈ body, P x) → (∀ x ∈ queue, P x) → ∀ p ∈ setPages notes h f body queue, (∀ x ∈ p.body, P x) ∧ ∀ x ∈ p.notes, P x
 | 0, _, _, _, _ => by simp [setPages]
 | f + 1, body, queue, h1, h2 => by
  obtain ⟨k, a, b, c, d, e⟩ := fillP_spec notes h body 0 (min queue.length (h - 1)) queue (Nat.min_le_left _ _)
  have hq : ∀ x ∈ (fillP notes h body 0 (min queue.length (h - 1)) queue).2.2, P x := by
   rw [d]
   intro x hx
   rcases List.mem_append.1 hx with hx | hx
   ·exact h2 x hx
   ·obtain ⟨y, -, hy⟩ := List.mem_flatMap.1 hx
    unfold noteLines at hy
    obtain ⟨q, -, hq⟩ := List.mem_flatMap.1 hy
    by_cases hl : q.toNat < notes.length
    ·rw [List.getD_eq_getElem?_getD, List.getElem?_eq_getElem hl] at hq
     exact hn _ (List.getElem_mem hl) x hq
    ·rw [List.getD_eq_getElem?_getD, List.getElem?_eq_none (by omega)] at hq
     simp at hq
  intro p hp
  rw [setPages] at hp
  split at hp
  ·simp at hp
  ·rcases List.mem_cons.1 hp with rfl | hp
   ·exact ⟨fun x hx => h1 x (List.mem_of_mem_take hx), fun x hx => hq x (List.mem_of_mem_take hx)⟩
   ·exact setPages_all P notes hn h f _ _ (fun x hx => h1 x (List.mem_of_mem_drop hx)) (fun x hx => hq x (List.mem_of_mem_drop hx)) p hp
theorem okPages_lines (a b : List (List Word)) (m h : Int) : ∀ p ∈ okPages a b m h, SmallL p.body ∧ SmallL p.notes := by
 unfold okPages
 split
 ·rename_i hE
  obtain ⟨hf, ⟨h1, h2⟩, hp⟩ := textE_fine hE
  have hs := hf.small m
  exact setPages_all (fun x => x.gaps.length ≤ 100000 ∧ x.notes.length ≤ 100000) (notesLP a b m) hs.2 h.toNat _ (bodyP a m) [] hs.1 (by simp)
 ·intro p hp
  simp at hp
end Go.Proofs.YtakaielemicpkaaGreatDoor
namespace Go.Proofs.YtakaielemicpkaaGreatDoor
open Go.RowKit
theorem pageS_at {w : World} {S : Nat → Prop} {A : Option Addr} {c : Nat} {l : List PageP} (h : Sl w S A c l) {k : Nat} (hk : k < l.length) :
  ∃ b o A1 c1 A2 c2, A = some ⟨b, o, none⟩ ∧ S b ∧ b < w.heap.size ∧ w.cell? ⟨b, o + k * 6, none⟩ = some (.int .i64 l[k].num) ∧ w.cell? ⟨b, o + k * 6 + 1, none⟩ = some (.int .i64 l[k].suf) ∧ w.cell? ⟨b, o + k * 6 + 2, none⟩ = some (.int .i64 l[k].entry) ∧
   w.cell? ⟨b, o + k * 6 + 3, none⟩ = some (.int .i64 l[k].ver) ∧ w.cell? ⟨b, o + k * 6 + 4, none⟩ = some (.slice A1 l[k].body.length c1) ∧ w.cell? ⟨b, o + k * 6 + 5, none⟩ = some (.slice A2 l[k].notes.length c2) ∧ Sl w S A1 c1 l[k].body ∧ Sl w S A2 c2 l[k].notes := by
 obtain ⟨b, o, va, vb, rfl, hb, hlt, h0, h1, h2, h3, h4, h5, ⟨A1, c1, e1, r1, -⟩, ⟨A2, c2, e2, r2, -⟩⟩ := page_at h hk
 cases e1; cases e2
 exact ⟨b, o, A1, c1, A2, c2, rfl, hb, hlt, h0, h1, h2, h3, h4, h5, r1, r2⟩
end Go.Proofs.YtakaielemicpkaaGreatDoor
