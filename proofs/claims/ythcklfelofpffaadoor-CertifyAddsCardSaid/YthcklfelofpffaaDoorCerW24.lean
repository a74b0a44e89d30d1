/- The examples of the chapter: lives. No condition but what the table holds. -/
import Derived.Test.YthcklfelofpffaaDoorCerW23
namespace Go.Proofs.YthcklfelofpffaaDoor
open Go.RowKit
theorem wpQuiet_run {P : Program} {ops : Array Oper} {C : World → Prop} {Q : Act → Prop} {a : Act} {o : Oper} {rest : List Oper} (hw : Region.wanted o (yielded ops a.tmps) = true) (v : Value) (h : ∀ w, C w → (execOp a.eval o).run P w = .ok (.value v) w)
    (hk : wpQuiet P ops C Q rest (a.put o.dst v)) : wpQuiet P ops C Q (o :: rest) a :=
  BigFrame.wpQuiet_want hw fun _ hK => ⟨v, fun w hc => by unfold Oper.quietAt; rw [h w hc]; exact ⟨rfl, rfl⟩, hK _ hk⟩
theorem exec_eqlH {o : Oper} {a : Act} {w : World} (x y : Operand) (ho : o.op = .binOp .eql 29 x y 29) (l m : List UInt8) (hx : a.eval x = hashV l) (hy : a.eval y = hashV m) (hl : l.length = 32) (hm : m.length = 32) (b : Bool) (hb : decide (l = m) = b) :
    (execOp a.eval o).run Tryd.prog w = .ok (.value (.bool b)) w := by
  have h1 := run_hash_eql l m hl hm w
  unfold execOp
  unfold hashV at hx hy
  rw [← hb]
  simp only [ho, hx, hy, Sem.run_bind, run_eqGuard_agg w .eql 29 x y _ _ guard_h, h1, Result.andThen_ok, Sem.run_pure]
theorem exec_hfield {o : Oper} {a : Act} {w : World} (x : Operand) (ho : o.op = .field 40 x 0) (n : Int) (r : List UInt8) (hx : a.eval x = .agg (headL n r).toArray) : (execOp a.eval o).run Tryd.prog w = .ok (.value (.int .i64 n)) w := by
  unfold execOp
  have hu := Tryd.underlying40
  have hi := Tryd.underlying3
  simp only [ho, hx, Instr.field, Sem.run_bind, run_underlying hu, Result.andThen_ok]
  simp [Go.part, isAgg, asAgg, run_underlying hi, headL, go_sem]
theorem wpList_eqlH {ops : Array Oper} {rest : List Oper} {o : Oper} {a : Act} {Q : Exit → Act → World → Prop} {w : World} (hgd : o.guard = none) (x y : Operand) (ho : o.op = .binOp .eql 29 x y 29) (l m : List UInt8) (hx : a.eval x = hashV l) (hy : a.eval y = hashV m) (hl : l.length = 32) (hm : m.length = 32)
    (h : wpList Tryd.prog ops Q rest (a.put o.dst (.bool (decide (l = m)))) w) : wpList Tryd.prog ops Q (o :: rest) a w :=
  wpList_plain hgd fun _ hK => wp_eqlH x y ho l m hx hy hl hm (hK _ _ h)
set_option maxRecDepth 100000 in
set_option maxHeartbeats 4000000 in
theorem lives_any (w : World) (hK : KLaid w) : Calls Tryd.prog 13 #[] w fun e w' => e = .returned (.bool true) ∧ Below w.heap.size w w' := by
  go_enter Tryd.func13, Tryd.ntmps13
  have HK0 := Lib.hid hK
  have HB0 : Hid (Below w.heap.size w w) := Lib.hid (Below.refl _ _)
  clear hK
  go_upto_region 2 with (fail)
  have hb1 : Below w.heap.size w ((w.alloc (.cells #[.string ⟨#[97, 98]⟩] 9)).alloc (.cells #[.string ⟨#[49]⟩, .slice (some ⟨w.heap.size, 0, none⟩) 1 1, .slice none 0 0] 24)) := ((Below.refl _ _).alloc (Nat.le_refl _) _).alloc (by simp) _
  have hx1 : Sl ((w.alloc (.cells #[.string ⟨#[97, 98]⟩] 9)).alloc (.cells #[.string ⟨#[49]⟩, .slice (some ⟨w.heap.size, 0, none⟩) 1 1, .slice none 0 0] 24)) (fun b => b < ((w.alloc (.cells #[.string ⟨#[97, 98]⟩] 9)).alloc (.cells #[.string ⟨#[49]⟩, .slice (some ⟨w.heap.size, 0, none⟩) 1 1, .slice none 0 0] 24)).heap.size) (some ⟨w.heap.size, 0, none⟩) 1 ([⟨#[97, 98]⟩] : List ByteArray) := Sl.block (l := ([⟨#[97, 98]⟩] : List ByteArray)) (cs := #[.string ⟨#[97, 98]⟩]) (te := 9) (fr := (0, 0)) ((Below.heap_alloc _ _ _ (by simp)).trans (heap_alloc_new w _)) (by simp; omega) (by simp [maxLen]) (fun j hj => by (obtain rfl : j = 0 := (by simpa using hj)); rfl)
  have HS1 : Hid (SB ((w.alloc (.cells #[.string ⟨#[97, 98]⟩] 9)).alloc (.cells #[.string ⟨#[49]⟩, .slice (some ⟨w.heap.size, 0, none⟩) 1 1, .slice none 0 0] 24)) (w.heap.size + 1) sOne (some ⟨w.heap.size, 0, none⟩) 1 none 0) := Lib.hid ⟨heap_at (by simp), hx1, (Sl.nil _ _ _ _ (by decide))⟩
  replace HK0 := Lib.hid (HK0.out.to hb1)
  replace HB0 := Lib.hid (HB0.out.trans (hb1.mono HB0.out.size))
  generalize hw1 : World.alloc (World.alloc w _) _ = w1
  have hv1 : ((w.alloc (.cells #[.string ⟨#[97, 98]⟩] 9)).alloc (.cells #[.string ⟨#[49]⟩, .slice (some ⟨w.heap.size, 0, none⟩) 1 1, .slice none 0 0] 24)) = w1 := hw1
  rw [hv1] at HS1 HK0 HB0
  clear hw1 hv1 hb1 hx1
  generalize w.heap.size + 1 = O1 at *
  generalize hA1 : (some (⟨w.heap.size, 0, none⟩ : Addr)) = F1 at *
  clear hA1
  go_upto_region 3 with (fail)
  have hb2 : Below w1.heap.size w1 ((w1.alloc (.cells #[.string ⟨#[120]⟩] 9)).alloc (.cells #[.string ⟨#[50]⟩, .slice none 0 0, .slice (some ⟨w1.heap.size, 0, none⟩) 1 1] 24)) := ((Below.refl _ _).alloc (Nat.le_refl _) _).alloc (by simp) _
  have hx2 : Sl ((w1.alloc (.cells #[.string ⟨#[120]⟩] 9)).alloc (.cells #[.string ⟨#[50]⟩, .slice none 0 0, .slice (some ⟨w1.heap.size, 0, none⟩) 1 1] 24)) (fun b => b < ((w1.alloc (.cells #[.string ⟨#[120]⟩] 9)).alloc (.cells #[.string ⟨#[50]⟩, .slice none 0 0, .slice (some ⟨w1.heap.size, 0, none⟩) 1 1] 24)).heap.size) (some ⟨w1.heap.size, 0, none⟩) 1 ([⟨#[120]⟩] : List ByteArray) := Sl.block (l := ([⟨#[120]⟩] : List ByteArray)) (cs := #[.string ⟨#[120]⟩]) (te := 9) (fr := (0, 0)) ((Below.heap_alloc _ _ _ (by simp)).trans (heap_alloc_new w1 _)) (by simp; omega) (by simp [maxLen]) (fun j hj => by (obtain rfl : j = 0 := (by simpa using hj)); rfl)
  have HS2 : Hid (SB ((w1.alloc (.cells #[.string ⟨#[120]⟩] 9)).alloc (.cells #[.string ⟨#[50]⟩, .slice none 0 0, .slice (some ⟨w1.heap.size, 0, none⟩) 1 1] 24)) (w1.heap.size + 1) sTwo none 0 (some ⟨w1.heap.size, 0, none⟩) 1) := Lib.hid ⟨heap_at (by simp), (Sl.nil _ _ _ _ (by decide)), hx2⟩
  replace HS1 := Lib.hid (HS1.out.to hb2)
  replace HK0 := Lib.hid (HK0.out.to hb2)
  replace HB0 := Lib.hid (HB0.out.trans (hb2.mono HB0.out.size))
  generalize hw2 : World.alloc (World.alloc w1 _) _ = w2
  have hv2 : ((w1.alloc (.cells #[.string ⟨#[120]⟩] 9)).alloc (.cells #[.string ⟨#[50]⟩, .slice none 0 0, .slice (some ⟨w1.heap.size, 0, none⟩) 1 1] 24)) = w2 := hw2
  rw [hv2] at HS2 HK0 HB0 HS1
  clear hw2 hv2 hb2 hx2
  generalize w1.heap.size + 1 = O2 at *
  generalize hA2 : (some (⟨w1.heap.size, 0, none⟩ : Addr)) = F2 at *
  clear hA2
  go_upto_region 4 with (fail)
  have hb3 : Below w2.heap.size w2 ((w2.alloc (.cells #[.string ⟨#[97, 99]⟩] 9)).alloc (.cells #[.string ⟨#[49]⟩, .slice (some ⟨w2.heap.size, 0, none⟩) 1 1, .slice none 0 0] 24)) := ((Below.refl _ _).alloc (Nat.le_refl _) _).alloc (by simp) _
  have hx3 : Sl ((w2.alloc (.cells #[.string ⟨#[97, 99]⟩] 9)).alloc (.cells #[.string ⟨#[49]⟩, .slice (some ⟨w2.heap.size, 0, none⟩) 1 1, .slice none 0 0] 24)) (fun b => b < ((w2.alloc (.cells #[.string ⟨#[97, 99]⟩] 9)).alloc (.cells #[.string ⟨#[49]⟩, .slice (some ⟨w2.heap.size, 0, none⟩) 1 1, .slice none 0 0] 24)).heap.size) (some ⟨w2.heap.size, 0, none⟩) 1 ([⟨#[97, 99]⟩] : List ByteArray) := Sl.block (l := ([⟨#[97, 99]⟩] : List ByteArray)) (cs := #[.string ⟨#[97, 99]⟩]) (te := 9) (fr := (0, 0)) ((Below.heap_alloc _ _ _ (by simp)).trans (heap_alloc_new w2 _)) (by simp; omega) (by simp [maxLen]) (fun j hj => by (obtain rfl : j = 0 := (by simpa using hj)); rfl)
  have HS3 : Hid (SB ((w2.alloc (.cells #[.string ⟨#[97, 99]⟩] 9)).alloc (.cells #[.string ⟨#[49]⟩, .slice (some ⟨w2.heap.size, 0, none⟩) 1 1, .slice none 0 0] 24)) (w2.heap.size + 1) sOther (some ⟨w2.heap.size, 0, none⟩) 1 none 0) := Lib.hid ⟨heap_at (by simp), hx3, (Sl.nil _ _ _ _ (by decide))⟩
  replace HS1 := Lib.hid (HS1.out.to hb3)
  replace HS2 := Lib.hid (HS2.out.to hb3)
  replace HK0 := Lib.hid (HK0.out.to hb3)
  replace HB0 := Lib.hid (HB0.out.trans (hb3.mono HB0.out.size))
  generalize hw3 : World.alloc (World.alloc w2 _) _ = w3
  have hv3 : ((w2.alloc (.cells #[.string ⟨#[97, 99]⟩] 9)).alloc (.cells #[.string ⟨#[49]⟩, .slice (some ⟨w2.heap.size, 0, none⟩) 1 1, .slice none 0 0] 24)) = w3 := hw3
  rw [hv3] at HS3 HK0 HB0 HS1 HS2
  clear hw3 hv3 hb3 hx3
  generalize w2.heap.size + 1 = O3 at *
  generalize hA3 : (some (⟨w2.heap.size, 0, none⟩ : Addr)) = F3 at *
  clear hA3
  have HAD : Hid (Calls Tryd.prog 15 #[.agg #[.slice none 0 0, .slice none 0 0], .int .i64 0, .slice (some ⟨w3.heap.size, 0, none⟩) 2 2] (w3.alloc (.cells #[.string sOne.label, .slice F1 sOne.body.length 1, .slice none sOne.notes.length 0, .string sTwo.label, .slice none sTwo.body.length 0, .slice F2 sTwo.notes.length 1] 24)) fun e w' => ∃ A' B' ca' cb', e = .returned (.agg #[.slice A' lvA.1.length ca', .slice B' lvA.2.length cb']) ∧ Sl w' (fun b => b < w'.heap.size) A' ca' lvA.1 ∧ Sl w' (fun b => b < w'.heap.size) B' cb' lvA.2 ∧ Below w3.heap.size w3 w') := Lib.hid (by
    have h := addTwo w3 [] [] none none 0 0 sOne sTwo F1 none none F2 1 0 0 1 (Sl.nil _ _ _ _ (by decide)) (Sl.nil _ _ _ _ (by decide)) HS1.out.b HS1.out.n HS2.out.b HS2.out.n (by first | rfl | (rw [lv_len.1, lv_len.2.1])) (by first | (rw [lv_len.1]; decide) | decide) lv_sizes.1 lv_sizes.2.1 (by decide) (by decide) (by decide) (by decide) HK0.out
    exact h)
  have k10 := HS1.out.box.cell 0 rfl
  have k11 := HS1.out.box.cell 1 rfl
  have k12 := HS1.out.box.cell 2 rfl
  have k20 := HS2.out.box.cell 0 rfl
  have k21 := HS2.out.box.cell 1 rfl
  have k22 := HS2.out.box.cell 2 rfl
  have k30 := HS3.out.box.cell 0 rfl
  have k31 := HS3.out.box.cell 1 rfl
  have k32 := HS3.out.box.cell 2 rfl
  go_wp2_with fail
  refine HAD.out.mono ?_
  rintro e w4 ⟨G1A, G1B, G1a, G1b, rfl, hs1, hs2, hb⟩
  clear k10 k11 k12 k20 k21 k22 k30 k31 k32
  clear HAD
  have hb2 : Below w4.heap.size w4 (w4.alloc (.cells #[.slice G1A lvA.1.length G1a, .slice G1B lvA.2.length G1b] 36)) := (Below.refl _ _).alloc (Nat.le_refl _) _
  have G1 : Hid (LB (w4.alloc (.cells #[.slice G1A lvA.1.length G1a, .slice G1B lvA.2.length G1b] 36)) w4.heap.size lvA.1 lvA.2 G1A G1a G1B G1b) := Lib.hid ⟨heap_alloc_new w4 _, hs1.to hb2, hs2.to hb2⟩
  have hb3 := hb.trans (hb2.mono hb.size)
  replace HS1 := Lib.hid (HS1.out.to hb3)
  replace HS2 := Lib.hid (HS2.out.to hb3)
  replace HS3 := Lib.hid (HS3.out.to hb3)
  replace HK0 := Lib.hid (HK0.out.to hb3)
  replace HB0 := Lib.hid (HB0.out.trans (hb3.mono HB0.out.size))
  clear hs1 hs2 hb hb2 hb3
  go_upto_region 5 with (fail)
  generalize hw : World.alloc w4 _ = w5
  have hv : (w4.alloc (.cells #[.slice G1A lvA.1.length G1a, .slice G1B lvA.2.length G1b] 36)) = w5 := hw
  rw [hv] at G1 HK0 HB0 HS1 HS2 HS3
  clear hw hv
  generalize w4.heap.size = G1O at *
  have HTP := Lib.hid (top_any G1A G1B G1a lvA.1.length lvA.1 w5 G1b lvA.2.length G1.out.l rfl (by rw [lv_len.1]; decide) HK0.out)
  have HRL : Hid ((root lvA.1).length = 32) := Lib.hid (root_length _ (h32_len G1.out.l))
  have k10 := HS1.out.box.cell 0 rfl
  have k11 := HS1.out.box.cell 1 rfl
  have k12 := HS1.out.box.cell 2 rfl
  have k20 := HS2.out.box.cell 0 rfl
  have k21 := HS2.out.box.cell 1 rfl
  have k22 := HS2.out.box.cell 2 rfl
  have k30 := HS3.out.box.cell 0 rfl
  have k31 := HS3.out.box.cell 1 rfl
  have k32 := HS3.out.box.cell 2 rfl
  have qG10 := G1.out.box.cell 0 rfl
  have qG11 := G1.out.box.cell 1 rfl
  go_wp2_with fail
  refine HTP.out.mono ?_
  rintro e w6 ⟨rfl, hb⟩
  clear k10 k11 k12 k20 k21 k22 k30 k31 k32 qG10 qG11
  clear HTP
  obtain ⟨r1, hr1⟩ : ∃ r, r = root lvA.1 := ⟨_, rfl⟩
  have HR1 := Lib.hid hr1
  rw [← hr1] at HRL ⊢
  clear hr1
  have hn2 : ((lvA.1.length : Nat) : Int) = 2 := by rw [lv_len.1]; rfl
  rw [hn2]
  clear hn2
  have HSZ : Hid ((headL 2 r1).toArray.size = 33) := Lib.hid (by unfold headL; simp [HRL.out])
  have HON := Lib.hid (headL_one 2 r1)
  have hal : (w6.alloc (.cells zhead.toArray 40)).heap[w6.heap.size]? = some (.cells zhead.toArray 40 (0, 0)) := heap_alloc_new w6 _
  have hb2 : Below w6.heap.size w6 ((w6.alloc (.cells zhead.toArray 40)).setRow w6.heap.size (headL 2 r1).toArray) := below_setRow ((Below.refl _ _).alloc (Nat.le_refl _) _) (Nat.le_refl _) _
  have HH : Hid (ABox ((w6.alloc (.cells zhead.toArray 40)).setRow w6.heap.size (headL 2 r1).toArray) w6.heap.size 40 (headL 2 r1)) := Lib.hid (setRow_heap _ w6.heap.size _ (headL 2 r1).toArray _ _ hal)
  have hb3 := hb.trans (hb2.mono hb.size)
  replace HS1 := Lib.hid (HS1.out.to hb3)
  replace HS2 := Lib.hid (HS2.out.to hb3)
  replace HS3 := Lib.hid (HS3.out.to hb3)
  replace G1 := Lib.hid (G1.out.to hb3)
  replace HK0 := Lib.hid (HK0.out.to hb3)
  replace HB0 := Lib.hid (HB0.out.trans (hb3.mono HB0.out.size))
  clear hb hb2 hb3
  unfold headV
  go_upto_region 6 with (first | (refine wpList_store_row rfl 40 (.tmp 5) (.tmp 28) rfl w6.heap.size (headL 2 r1).toArray rfl rfl 40 zhead.toArray hal (by rw [HSZ.out]; kernel_rfl) (by rw [HSZ.out]; rfl) HON.out ?_) | fail)
  generalize hw : World.setRow (World.alloc w6 _) _ _ = w7
  have hv : ((w6.alloc (.cells zhead.toArray 40)).setRow w6.heap.size (headL 2 r1).toArray) = w7 := hw
  rw [hv] at HH HK0 HB0 HS1 HS2 HS3 G1
  clear hw hv hal HSZ HON
  generalize w6.heap.size = HO at *
  have HAD : Hid (Calls Tryd.prog 15 #[.agg #[.slice G1A lvA.1.length G1a, .slice G1B lvA.2.length G1b], .int .i64 0, .slice (some ⟨w7.heap.size, 0, none⟩) 2 2] (w7.alloc (.cells #[.string sOne.label, .slice F1 sOne.body.length 1, .slice none sOne.notes.length 0, .string sTwo.label, .slice none sTwo.body.length 0, .slice F2 sTwo.notes.length 1] 24)) fun e w' => ∃ A' B' ca' cb', e = .returned (.agg #[.slice A' lvA.1.length ca', .slice B' lvA.2.length cb']) ∧ Sl w' (fun b => b < w'.heap.size) A' ca' lvA.1 ∧ Sl w' (fun b => b < w'.heap.size) B' cb' lvA.2 ∧ Below w7.heap.size w7 w') := Lib.hid (by
    have h := addTwo w7 lvA.1 lvA.2 G1A G1B G1a G1b sOne sTwo F1 none none F2 1 0 0 1 G1.out.l G1.out.n HS1.out.b HS1.out.n HS2.out.b HS2.out.n (by first | rfl | (rw [lv_len.1, lv_len.2.1])) (by first | (rw [lv_len.1]; decide) | decide) lv_sizes.1 lv_sizes.2.1 (by decide) (by decide) (by decide) (by decide) HK0.out
    rw [show ((lvA.1, lvA.2) : List H32 × List ByteArray) = lvA from rfl, lv_again] at h
    exact h)
  have k10 := HS1.out.box.cell 0 rfl
  have k11 := HS1.out.box.cell 1 rfl
  have k12 := HS1.out.box.cell 2 rfl
  have k20 := HS2.out.box.cell 0 rfl
  have k21 := HS2.out.box.cell 1 rfl
  have k22 := HS2.out.box.cell 2 rfl
  have k30 := HS3.out.box.cell 0 rfl
  have k31 := HS3.out.box.cell 1 rfl
  have k32 := HS3.out.box.cell 2 rfl
  have qG10 := G1.out.box.cell 0 rfl
  have qG11 := G1.out.box.cell 1 rfl
  go_wp2_with fail
  refine HAD.out.mono ?_
  rintro e w8 ⟨G2A, G2B, G2a, G2b, rfl, hs1, hs2, hb⟩
  clear k10 k11 k12 k20 k21 k22 k30 k31 k32 qG10 qG11
  clear HAD
  have hb2 : Below w8.heap.size w8 (w8.alloc (.cells #[.slice G2A lvA.1.length G2a, .slice G2B lvA.2.length G2b] 36)) := (Below.refl _ _).alloc (Nat.le_refl _) _
  have G2 : Hid (LB (w8.alloc (.cells #[.slice G2A lvA.1.length G2a, .slice G2B lvA.2.length G2b] 36)) w8.heap.size lvA.1 lvA.2 G2A G2a G2B G2b) := Lib.hid ⟨heap_alloc_new w8 _, hs1.to hb2, hs2.to hb2⟩
  have hb3 := hb.trans (hb2.mono hb.size)
  replace HS1 := Lib.hid (HS1.out.to hb3)
  replace HS2 := Lib.hid (HS2.out.to hb3)
  replace HS3 := Lib.hid (HS3.out.to hb3)
  replace G1 := Lib.hid (G1.out.to hb3)
  replace HH := Lib.hid (HH.out.to hb3)
  replace HK0 := Lib.hid (HK0.out.to hb3)
  replace HB0 := Lib.hid (HB0.out.trans (hb3.mono HB0.out.size))
  clear hs1 hs2 hb hb2 hb3
  go_upto_region 7 with (fail)
  generalize hw : World.alloc w8 _ = w9
  have hv : (w8.alloc (.cells #[.slice G2A lvA.1.length G2a, .slice G2B lvA.2.length G2b] 36)) = w9 := hw
  rw [hv] at G2 HK0 HB0 HS1 HS2 HS3 G1 HH
  clear hw hv
  generalize w8.heap.size = G2O at *
  have HAD : Hid (Calls Tryd.prog 15 #[.agg #[.slice G1A lvA.1.length G1a, .slice G1B lvA.2.length G1b], .int .i64 0, .slice (some ⟨w9.heap.size, 0, none⟩) 2 2] (w9.alloc (.cells #[.string sOther.label, .slice F3 sOther.body.length 1, .slice none sOther.notes.length 0, .string sTwo.label, .slice none sTwo.body.length 0, .slice F2 sTwo.notes.length 1] 24)) fun e w' => ∃ A' B' ca' cb', e = .returned (.agg #[.slice A' lvM.1.length ca', .slice B' lvM.2.length cb']) ∧ Sl w' (fun b => b < w'.heap.size) A' ca' lvM.1 ∧ Sl w' (fun b => b < w'.heap.size) B' cb' lvM.2 ∧ Below w9.heap.size w9 w') := Lib.hid (by
    have h := addTwo w9 lvA.1 lvA.2 G1A G1B G1a G1b sOther sTwo F3 none none F2 1 0 0 1 G1.out.l G1.out.n HS3.out.b HS3.out.n HS2.out.b HS2.out.n (by first | rfl | (rw [lv_len.1, lv_len.2.1])) (by first | (rw [lv_len.1]; decide) | decide) lv_sizes.2.2 lv_sizes.2.1 (by decide) (by decide) (by decide) (by decide) HK0.out
    exact h)
  have k10 := HS1.out.box.cell 0 rfl
  have k11 := HS1.out.box.cell 1 rfl
  have k12 := HS1.out.box.cell 2 rfl
  have k20 := HS2.out.box.cell 0 rfl
  have k21 := HS2.out.box.cell 1 rfl
  have k22 := HS2.out.box.cell 2 rfl
  have k30 := HS3.out.box.cell 0 rfl
  have k31 := HS3.out.box.cell 1 rfl
  have k32 := HS3.out.box.cell 2 rfl
  have qG10 := G1.out.box.cell 0 rfl
  have qG11 := G1.out.box.cell 1 rfl
  have qG20 := G2.out.box.cell 0 rfl
  have qG21 := G2.out.box.cell 1 rfl
  go_wp2_with fail
  refine HAD.out.mono ?_
  rintro e w10 ⟨G3A, G3B, G3a, G3b, rfl, hs1, hs2, hb⟩
  clear k10 k11 k12 k20 k21 k22 k30 k31 k32 qG10 qG11 qG20 qG21
  clear HAD
  have hb2 : Below w10.heap.size w10 (w10.alloc (.cells #[.slice G3A lvM.1.length G3a, .slice G3B lvM.2.length G3b] 36)) := (Below.refl _ _).alloc (Nat.le_refl _) _
  have G3 : Hid (LB (w10.alloc (.cells #[.slice G3A lvM.1.length G3a, .slice G3B lvM.2.length G3b] 36)) w10.heap.size lvM.1 lvM.2 G3A G3a G3B G3b) := Lib.hid ⟨heap_alloc_new w10 _, hs1.to hb2, hs2.to hb2⟩
  have hb3 := hb.trans (hb2.mono hb.size)
  replace HS1 := Lib.hid (HS1.out.to hb3)
  replace HS2 := Lib.hid (HS2.out.to hb3)
  replace HS3 := Lib.hid (HS3.out.to hb3)
  replace G1 := Lib.hid (G1.out.to hb3)
  replace HH := Lib.hid (HH.out.to hb3)
  replace G2 := Lib.hid (G2.out.to hb3)
  replace HK0 := Lib.hid (HK0.out.to hb3)
  replace HB0 := Lib.hid (HB0.out.trans (hb3.mono HB0.out.size))
  clear hs1 hs2 hb hb2 hb3
  go_upto_region 8 with (fail)
  generalize hw : World.alloc w10 _ = w11
  have hv : (w10.alloc (.cells #[.slice G3A lvM.1.length G3a, .slice G3B lvM.2.length G3b] 36)) = w11 := hw
  rw [hv] at G3 HK0 HB0 HS1 HS2 HS3 G1 HH G2
  clear hw hv
  generalize w10.heap.size = G3O at *
  have HPR := Lib.hid (proof_any G3A G3B G3a G3b lvM.1 lvM.2 ⟨#[49]⟩ w11 G3.out.l G3.out.n (by rw [lv_len.2.2.1, lv_len.2.2.2]) (by rw [lv_len.2.2.1]; decide) HK0.out)
  rw [lv_proof.1, lv_proof.2.1] at HPR
  have k10 := HS1.out.box.cell 0 rfl
  have k11 := HS1.out.box.cell 1 rfl
  have k12 := HS1.out.box.cell 2 rfl
  have k20 := HS2.out.box.cell 0 rfl
  have k21 := HS2.out.box.cell 1 rfl
  have k22 := HS2.out.box.cell 2 rfl
  have k30 := HS3.out.box.cell 0 rfl
  have k31 := HS3.out.box.cell 1 rfl
  have k32 := HS3.out.box.cell 2 rfl
  have qG10 := G1.out.box.cell 0 rfl
  have qG11 := G1.out.box.cell 1 rfl
  have qG20 := G2.out.box.cell 0 rfl
  have qG21 := G2.out.box.cell 1 rfl
  have qG30 := G3.out.box.cell 0 rfl
  have qG31 := G3.out.box.cell 1 rfl
  go_wp2_with fail
  refine HPR.out.mono ?_
  rintro e w12 ⟨P1A, P1c, rfl, hs, hb⟩
  clear k10 k11 k12 k20 k21 k22 k30 k31 k32 qG10 qG11 qG20 qG21 qG30 qG31
  clear HPR
  replace HS1 := Lib.hid (HS1.out.to hb)
  replace HS2 := Lib.hid (HS2.out.to hb)
  replace HS3 := Lib.hid (HS3.out.to hb)
  replace G1 := Lib.hid (G1.out.to hb)
  replace HH := Lib.hid (HH.out.to hb)
  replace G2 := Lib.hid (G2.out.to hb)
  replace G3 := Lib.hid (G3.out.to hb)
  replace HK0 := Lib.hid (HK0.out.to hb)
  replace HB0 := Lib.hid (HB0.out.trans (hb.mono HB0.out.size))
  have HP1 := Lib.hid hs
  clear hs hb
  go_upto_region 9 with (fail)
  obtain ⟨p1, hp1⟩ : ∃ q, q = proofP lvM.1 lvM.2 ⟨#[49]⟩ := ⟨_, rfl⟩
  have HPE := Lib.hid hp1
  rw [← hp1] at HP1 ⊢
  clear hp1
  have HPR := Lib.hid (proof_any G3A G3B G3a G3b lvM.1 lvM.2 ⟨#[50]⟩ w12 G3.out.l G3.out.n (by rw [lv_len.2.2.1, lv_len.2.2.2]) (by rw [lv_len.2.2.1]; decide) HK0.out)
  rw [lv_proof.2.2.1, lv_proof.2.2.2] at HPR
  have k10 := HS1.out.box.cell 0 rfl
  have k11 := HS1.out.box.cell 1 rfl
  have k12 := HS1.out.box.cell 2 rfl
  have k20 := HS2.out.box.cell 0 rfl
  have k21 := HS2.out.box.cell 1 rfl
  have k22 := HS2.out.box.cell 2 rfl
  have k30 := HS3.out.box.cell 0 rfl
  have k31 := HS3.out.box.cell 1 rfl
  have k32 := HS3.out.box.cell 2 rfl
  have qG10 := G1.out.box.cell 0 rfl
  have qG11 := G1.out.box.cell 1 rfl
  have qG20 := G2.out.box.cell 0 rfl
  have qG21 := G2.out.box.cell 1 rfl
  have qG30 := G3.out.box.cell 0 rfl
  have qG31 := G3.out.box.cell 1 rfl
  go_wp2_with fail
  refine HPR.out.mono ?_
  rintro e w13 ⟨P2A, P2c, rfl, hs, hb⟩
  clear k10 k11 k12 k20 k21 k22 k30 k31 k32 qG10 qG11 qG20 qG21 qG30 qG31
  clear HPR
  replace HS1 := Lib.hid (HS1.out.to hb)
  replace HS2 := Lib.hid (HS2.out.to hb)
  replace HS3 := Lib.hid (HS3.out.to hb)
  replace G1 := Lib.hid (G1.out.to hb)
  replace HH := Lib.hid (HH.out.to hb)
  replace G2 := Lib.hid (G2.out.to hb)
  replace G3 := Lib.hid (G3.out.to hb)
  replace HK0 := Lib.hid (HK0.out.to hb)
  replace HB0 := Lib.hid (HB0.out.trans (hb.mono HB0.out.size))
  have HPS := Lib.hid (HP1.out.to hb)
  clear HP1
  have HP2 := Lib.hid hs
  clear hs hb
  clear HP2
  have HP1 := HPS
  clear HPS
  go_upto_region 10 with (fail)
  obtain ⟨f1, hf1⟩ : ∃ q, q = leafOf 0 sOne := ⟨_, rfl⟩
  have HF1 := Lib.hid hf1
  have HFL : Hid (f1.length = 32) := Lib.hid (by rw [hf1]; exact sha_length _)
  have HLF := Lib.hid (leafS_any 0 sOne F1 none 1 0 w13 (by unfold I64; omega) HS1.out.b HS1.out.n (by have := lv_sizes.1; omega) HK0.out)
  rw [← hf1] at HLF
  clear hf1
  have k10 := HS1.out.box.cell 0 rfl
  have k11 := HS1.out.box.cell 1 rfl
  have k12 := HS1.out.box.cell 2 rfl
  have k20 := HS2.out.box.cell 0 rfl
  have k21 := HS2.out.box.cell 1 rfl
  have k22 := HS2.out.box.cell 2 rfl
  have k30 := HS3.out.box.cell 0 rfl
  have k31 := HS3.out.box.cell 1 rfl
  have k32 := HS3.out.box.cell 2 rfl
  have qG10 := G1.out.box.cell 0 rfl
  have qG11 := G1.out.box.cell 1 rfl
  have qG20 := G2.out.box.cell 0 rfl
  have qG21 := G2.out.box.cell 1 rfl
  have qG30 := G3.out.box.cell 0 rfl
  have qG31 := G3.out.box.cell 1 rfl
  go_wp2_with fail
  refine HLF.out.mono ?_
  rintro e w14 ⟨rfl, hb⟩
  clear k10 k11 k12 k20 k21 k22 k30 k31 k32 qG10 qG11 qG20 qG21 qG30 qG31
  clear HLF
  replace HS1 := Lib.hid (HS1.out.to hb)
  replace HS2 := Lib.hid (HS2.out.to hb)
  replace HS3 := Lib.hid (HS3.out.to hb)
  replace G1 := Lib.hid (G1.out.to hb)
  replace HH := Lib.hid (HH.out.to hb)
  replace G2 := Lib.hid (G2.out.to hb)
  replace G3 := Lib.hid (G3.out.to hb)
  replace HK0 := Lib.hid (HK0.out.to hb)
  replace HB0 := Lib.hid (HB0.out.trans (hb.mono HB0.out.size))
  replace HP1 := Lib.hid (HP1.out.to hb)
  clear hb
  have hb2 : Below w14.heap.size w14 (w14.alloc (.cells #[.int .u8 0, .int .u8 1, .int .u8 49, .int .u8 1, .int .u8 2, .int .u8 97, .int .u8 98, .int .u8 0] 5)) := (Below.refl _ _).alloc (Nat.le_refl _) _
  have hsb : Sl (w14.alloc (.cells #[.int .u8 0, .int .u8 1, .int .u8 49, .int .u8 1, .int .u8 2, .int .u8 97, .int .u8 98, .int .u8 0] 5)) (fun b => b < (w14.alloc (.cells #[.int .u8 0, .int .u8 1, .int .u8 49, .int .u8 1, .int .u8 2, .int .u8 97, .int .u8 98, .int .u8 0] 5)).heap.size) (some ⟨w14.heap.size, 0, none⟩) 8 ([0, 1, 49, 1, 2, 97, 98, 0] : List UInt8) := Sl.block (l := ([0, 1, 49, 1, 2, 97, 98, 0] : List UInt8)) (cs := #[.int .u8 0, .int .u8 1, .int .u8 49, .int .u8 1, .int .u8 2, .int .u8 97, .int .u8 98, .int .u8 0]) (te := 5) (fr := (0, 0)) (heap_alloc_new w14 _) (by simp) (by simp [maxLen]) (fun j hj => by
    have : j = 0 ∨ j = 1 ∨ j = 2 ∨ j = 3 ∨ j = 4 ∨ j = 5 ∨ j = 6 ∨ j = 7 := by simp at hj; omega
    rcases this with rfl | rfl | rfl | rfl | rfl | rfl | rfl | rfl <;> rfl)
  have HLD := Lib.hid (leaf_any [0, 1, 49, 1, 2, 97, 98, 0] (some ⟨w14.heap.size, 0, none⟩) 8 8 (w14.alloc (.cells #[.int .u8 0, .int .u8 1, .int .u8 49, .int .u8 1, .int .u8 2, .int .u8 97, .int .u8 98, .int .u8 0] 5)) hsb rfl (by decide) (HK0.out.to hb2))
  replace HS1 := Lib.hid (HS1.out.to hb2)
  replace HS2 := Lib.hid (HS2.out.to hb2)
  replace HS3 := Lib.hid (HS3.out.to hb2)
  replace G1 := Lib.hid (G1.out.to hb2)
  replace HH := Lib.hid (HH.out.to hb2)
  replace G2 := Lib.hid (G2.out.to hb2)
  replace G3 := Lib.hid (G3.out.to hb2)
  replace HK0 := Lib.hid (HK0.out.to hb2)
  replace HB0 := Lib.hid (HB0.out.trans (hb2.mono HB0.out.size))
  replace HP1 := Lib.hid (HP1.out.to hb2)
  clear hb2 hsb
  have HFE : Hid (decide (f1 = leafH [0, 1, 49, 1, 2, 97, 98, 0]) = true) := Lib.hid (by rw [HF1.out]; exact lv_leaf)
  have HFM : Hid ((leafH [0, 1, 49, 1, 2, 97, 98, 0]).length = 32) := Lib.hid (sha_length _)
  generalize leafH [0, 1, 49, 1, 2, 97, 98, 0] = f2 at *
  go_wp2_with fail
  refine HLD.out.mono ?_
  rintro e w15 ⟨rfl, hb⟩
  clear HLD
  replace HS1 := Lib.hid (HS1.out.to hb)
  replace HS2 := Lib.hid (HS2.out.to hb)
  replace HS3 := Lib.hid (HS3.out.to hb)
  replace G1 := Lib.hid (G1.out.to hb)
  replace HH := Lib.hid (HH.out.to hb)
  replace G2 := Lib.hid (G2.out.to hb)
  replace G3 := Lib.hid (G3.out.to hb)
  replace HK0 := Lib.hid (HK0.out.to hb)
  replace HB0 := Lib.hid (HB0.out.trans (hb.mono HB0.out.size))
  replace HP1 := Lib.hid (HP1.out.to hb)
  clear hb
  go_upto_region 11 with (first | (refine wpList_eqlH rfl (.tmp 52) (.tmp 54) rfl f1 f2 rfl rfl HFL.out HFM.out ?_; rw [HFE.out]) | fail)
  obtain ⟨f3, hf3⟩ : ∃ q, q = leafOf 0 sTwo := ⟨_, rfl⟩
  have HF3 := Lib.hid hf3
  have HFL3 : Hid (f3.length = 32) := Lib.hid (by rw [hf3]; exact sha_length _)
  clear hf3
  have HFN : Hid (decide (r1 = nodeH f1 f3) = true) := Lib.hid (by rw [HR1.out, HF1.out, HF3.out]; exact lv_root)
  have HNL : Hid ((nodeH f1 f3).length = 32) := Lib.hid (sha_length _)
  go_cut [15] from 56 to 74 (fun v wx => v = .bool true ∧ Hid (Below w15.heap.size w15 wx))
  case first =>
    refine wp_region_calm (by kernel_rfl) (by kernel_rfl) ?_
    intro TT hTT g hgb hgm
    have eHS10 := fun d => (HS1.out.to (hgb d)).box.cell 0 rfl
    have eHS11 := fun d => (HS1.out.to (hgb d)).box.cell 1 rfl
    have eHS12 := fun d => (HS1.out.to (hgb d)).box.cell 2 rfl
    have eHS20 := fun d => (HS2.out.to (hgb d)).box.cell 0 rfl
    have eHS21 := fun d => (HS2.out.to (hgb d)).box.cell 1 rfl
    have eHS22 := fun d => (HS2.out.to (hgb d)).box.cell 2 rfl
    have eHS30 := fun d => (HS3.out.to (hgb d)).box.cell 0 rfl
    have eHS31 := fun d => (HS3.out.to (hgb d)).box.cell 1 rfl
    have eHS32 := fun d => (HS3.out.to (hgb d)).box.cell 2 rfl
    have eG10 := fun d => (G1.out.to (hgb d)).box.cell 0 rfl
    have eG11 := fun d => (G1.out.to (hgb d)).box.cell 1 rfl
    have eG20 := fun d => (G2.out.to (hgb d)).box.cell 0 rfl
    have eG21 := fun d => (G2.out.to (hgb d)).box.cell 1 rfl
    have eG30 := fun d => (G3.out.to (hgb d)).box.cell 0 rfl
    have eG31 := fun d => (G3.out.to (hgb d)).box.cell 1 rfl
    have hgK := Lib.hid (fun d => HK0.out.to (hgb d))
    have HC1 : Hid (∀ d, Calls Tryd.prog 11 #[.int .i64 0, .agg #[.string sOne.label, .slice F1 sOne.body.length 1, .slice none sOne.notes.length 0]] (g d) fun e w' => e = .returned (hashV f1) ∧ ∃ m, w' = g m) := Lib.hid (fun d => by
      refine (leafS_any 0 sOne F1 none 1 0 (g d) (by unfold I64; omega) (HS1.out.to (hgb d)).b (HS1.out.to (hgb d)).n (by have := lv_sizes.1; omega) (hgK.out d)).mono ?_
      rintro e w' ⟨rfl, hb⟩
      exact ⟨by rw [HF1.out], hgm d w' hb⟩)
    have HC3 : Hid (∀ d, Calls Tryd.prog 11 #[.int .i64 0, .agg #[.string sTwo.label, .slice none sTwo.body.length 0, .slice F2 sTwo.notes.length 1]] (g d) fun e w' => e = .returned (hashV f3) ∧ ∃ m, w' = g m) := Lib.hid (fun d => by
      refine (leafS_any 0 sTwo none F2 0 1 (g d) (by unfold I64; omega) (HS2.out.to (hgb d)).b (HS2.out.to (hgb d)).n (by have := lv_sizes.2.1; omega) (hgK.out d)).mono ?_
      rintro e w' ⟨rfl, hb⟩
      exact ⟨by rw [HF3.out], hgm d w' hb⟩)
    have HCN : Hid (∀ d, Calls Tryd.prog 45 #[hashV f1, hashV f3] (g d) fun e w' => e = .returned (hashV (nodeH f1 f3)) ∧ ∃ m, w' = g m) := Lib.hid (fun d => by
      refine (node_any f1 f3 HFL.out HFL3.out (g d) (hgK.out d)).mono ?_
      rintro e w' ⟨rfl, hb⟩
      exact ⟨rfl, hgm d w' hb⟩)
    have HCS : Hid (∀ d, Calls Tryd.prog 16 #[.agg #[.slice G1A lvA.1.length G1a, .slice G1B lvA.2.length G1b], .agg #[.slice G2A lvA.1.length G2a, .slice G2B lvA.2.length G2b]] (g d) fun e w' => e = .returned (.bool true) ∧ ∃ m, w' = g m) := Lib.hid (fun d => by
      refine (same_any G1A G1B G2A G2B G1a G1b G2a G2b lvA.1 lvA.1 lvA.2 lvA.2 (g d) (G1.out.to (hgb d)).l (G1.out.to (hgb d)).n (G2.out.to (hgb d)).l (G2.out.to (hgb d)).n).mono ?_
      rintro e w' ⟨rfl, hb⟩
      exact ⟨by simp, hgm d w' hb⟩)
    have eH0 := fun d => (HH.out.to (hgb d)).cell 0 rfl
    have eH1 : Hid (∀ d, (g d).rangeAt HO 1 (r1.map encB)) := Lib.hid (fun d j v hv => by rw [Nat.add_comm]; exact (HH.out.to (hgb d)).cell (j + 1) (by unfold headL; rw [List.getElem?_cons_succ]; exact hv))
    have HGB := Lib.hid hgb
    have HGM := Lib.hid hgm
    have HRM : Hid ((r1.map encB).length = 32) := Lib.hid (by rw [List.length_map, HRL.out])
    clear hgb hgm
    go_big_quiet_step (fail)
    go_big_quiet_step (fail)
    go_big_quiet_step (fail)
    go_big_quiet_step (fail)
    go_big_quiet_step (fail)
    refine wpQuiet_run (by rfl) (hashV r1) ?_ ?_
    · rintro _ ⟨d, rfl⟩
      exact exec_load_mid 29 (.tmp 60) rfl HO 1 rfl (r1.map encB) _ (eH1.out d) Tryd.underlying29 rfl (by rw [HRM.out]; kernel_rfl)
    try simp only [Act.put, List.setIfInBounds_toArray, List.set_cons_zero, List.set_cons_succ]
    go_big_quiet_step (fail)
    go_big_quiet_step ((go_at_call 11; with_reducible refine Calls.mono (HC1.out _) ?_; rintro e w6 ⟨rfl, hm⟩; exact ⟨rfl, hm⟩))
    go_big_quiet_step (fail)
    go_big_quiet_step ((go_at_call 11; with_reducible refine Calls.mono (HC3.out _) ?_; rintro e w6 ⟨rfl, hm⟩; exact ⟨rfl, hm⟩))
    go_big_quiet_step ((go_at_call 45; with_reducible refine Calls.mono (HCN.out _) ?_; rintro e w6 ⟨rfl, hm⟩; exact ⟨rfl, hm⟩))
    refine wpQuiet_run (by rfl) (.bool true) ?_ ?_
    · rintro _ ⟨d, rfl⟩
      exact exec_eqlH (.tmp 61) (.tmp 66) rfl r1 (nodeH f1 f3) rfl rfl HRL.out HNL.out true HFN.out
    try simp only [Act.put, List.setIfInBounds_toArray, List.set_cons_zero, List.set_cons_succ]
    go_big_quiet_step (fail)
    go_big_quiet_step (fail)
    go_big_quiet_step (fail)
    go_big_quiet_step (fail)
    go_big_quiet_step ((go_at_call 16; with_reducible refine Calls.mono (HCS.out _) ?_; rintro e w6 ⟨rfl, hm⟩; exact ⟨rfl, hm⟩))
    go_big_quiet_step (fail)
    go_big_quiet_step (fail)
    refine wpQuiet_nil ?_
    rintro _ ⟨nq, rfl⟩
    unfold Exit.then
    try go_wp2_with fail
    go_meet
    exact ⟨rfl, Lib.hid (HGB.out nq)⟩
  case rest =>
    obtain ⟨rfl, hbc⟩ := hcut
    replace HS1 := Lib.hid (HS1.out.to hbc.out)
    replace HS2 := Lib.hid (HS2.out.to hbc.out)
    replace HS3 := Lib.hid (HS3.out.to hbc.out)
    replace G1 := Lib.hid (G1.out.to hbc.out)
    replace HH := Lib.hid (HH.out.to hbc.out)
    replace G2 := Lib.hid (G2.out.to hbc.out)
    replace G3 := Lib.hid (G3.out.to hbc.out)
    replace HK0 := Lib.hid (HK0.out.to hbc.out)
    replace HB0 := Lib.hid (HB0.out.trans (hbc.out.mono HB0.out.size))
    replace HP1 := Lib.hid (HP1.out.to hbc.out)
    clear hbc
    obtain ⟨r3, hr3⟩ : ∃ q, q = root lvM.1 := ⟨_, rfl⟩
    have HR3 := Lib.hid hr3
    have HRL3 : Hid (r3.length = 32) := Lib.hid (by rw [hr3]; exact root_length _ (h32_len G3.out.l))
    clear hr3
    go_upto_region 12 with (fail)
    refine wp_region_calm (by kernel_rfl) (by kernel_rfl) ?_
    intro TT hTT g hgb hgm
    have eHS10 := fun d => (HS1.out.to (hgb d)).box.cell 0 rfl
    have eHS11 := fun d => (HS1.out.to (hgb d)).box.cell 1 rfl
    have eHS12 := fun d => (HS1.out.to (hgb d)).box.cell 2 rfl
    have eHS20 := fun d => (HS2.out.to (hgb d)).box.cell 0 rfl
    have eHS21 := fun d => (HS2.out.to (hgb d)).box.cell 1 rfl
    have eHS22 := fun d => (HS2.out.to (hgb d)).box.cell 2 rfl
    have eHS30 := fun d => (HS3.out.to (hgb d)).box.cell 0 rfl
    have eHS31 := fun d => (HS3.out.to (hgb d)).box.cell 1 rfl
    have eHS32 := fun d => (HS3.out.to (hgb d)).box.cell 2 rfl
    have eG10 := fun d => (G1.out.to (hgb d)).box.cell 0 rfl
    have eG11 := fun d => (G1.out.to (hgb d)).box.cell 1 rfl
    have eG20 := fun d => (G2.out.to (hgb d)).box.cell 0 rfl
    have eG21 := fun d => (G2.out.to (hgb d)).box.cell 1 rfl
    have eG30 := fun d => (G3.out.to (hgb d)).box.cell 0 rfl
    have eG31 := fun d => (G3.out.to (hgb d)).box.cell 1 rfl
    have hgK := Lib.hid (fun d => HK0.out.to (hgb d))
    have HCT : Hid (∀ d, Calls Tryd.prog 17 #[.agg #[.slice G3A lvM.1.length G3a, .slice G3B lvM.2.length G3b]] (g d) fun e w' => e = .returned (.agg (headL 3 r3).toArray) ∧ ∃ m, w' = g m) := Lib.hid (fun d => by
      refine (top_any G3A G3B G3a lvM.1.length lvM.1 (g d) G3b lvM.2.length (G3.out.to (hgb d)).l rfl (by rw [lv_len.2.2.1]; decide) (hgK.out d)).mono ?_
      rintro e w' ⟨rfl, hb⟩
      exact ⟨by rw [HR3.out, lv_len.2.2.1]; rfl, hgm d w' hb⟩)
    have HCK : Hid (∀ d, Calls Tryd.prog 22 #[.agg (headL 3 r3).toArray, .int .i64 0, .agg #[.string sOther.label, .slice F3 sOther.body.length 1, .slice none sOther.notes.length 0], .int .i64 2, .slice P1A p1.length P1c] (g d) fun e w' => e = .returned (.bool true) ∧ ∃ m, w' = g m) := Lib.hid (fun d => by
      refine (check_any 3 0 2 r3 sOther F3 none P1A 1 0 P1c p1.length p1 (g d) HRL3.out (by unfold I64; omega) (HS3.out.to (hgb d)).b (HS3.out.to (hgb d)).n (by have := lv_sizes.2.2; omega) (HP1.out.to (hgb d)) rfl (hgK.out d)).mono ?_
      rintro e w' ⟨rfl, hb⟩
      exact ⟨by rw [HR3.out, HPE.out, lv_check.1], hgm d w' hb⟩)
    have HCL : Hid (∀ d, Calls Tryd.prog 22 #[.agg (headL 3 r3).toArray, .int .i64 0, .agg #[.string sOne.label, .slice F1 sOne.body.length 1, .slice none sOne.notes.length 0], .int .i64 2, .slice P1A p1.length P1c] (g d) fun e w' => e = .returned (.bool false) ∧ ∃ m, w' = g m) := Lib.hid (fun d => by
      refine (check_any 3 0 2 r3 sOne F1 none P1A 1 0 P1c p1.length p1 (g d) HRL3.out (by unfold I64; omega) (HS1.out.to (hgb d)).b (HS1.out.to (hgb d)).n (by have := lv_sizes.1; omega) (HP1.out.to (hgb d)) rfl (hgK.out d)).mono ?_
      rintro e w' ⟨rfl, hb⟩
      exact ⟨by rw [HR3.out, HPE.out, lv_check.2], hgm d w' hb⟩)
    have HGB := Lib.hid hgb
    have HGM := Lib.hid hgm
    clear hgb hgm
    go_big_quiet_step (fail)
    go_big_quiet_step (fail)
    go_big_quiet_step (fail)
    go_big_quiet_step (fail)
    go_big_quiet_step (fail)
    go_big_quiet_step (fail)
    go_big_quiet_step ((go_at_call 17; with_reducible refine Calls.mono (HCT.out _) ?_; rintro e w6 ⟨rfl, hm⟩; exact ⟨rfl, hm⟩))
    refine wpQuiet_run (by rfl) (.int .i64 3) ?_ ?_
    · rintro _ ⟨d, rfl⟩
      exact exec_hfield (.tmp 80) rfl 3 r3 rfl
    try simp only [Act.put, List.setIfInBounds_toArray, List.set_cons_zero, List.set_cons_succ]
    go_big_quiet_step (fail)
    go_big_quiet_step (fail)
    go_big_quiet_step (fail)
    go_big_quiet_step (fail)
    go_big_quiet_step (fail)
    go_big_quiet_step (fail)
    go_big_quiet_step (fail)
    go_big_quiet_step (fail)
    go_big_quiet_step (fail)
    go_big_quiet_step (fail)
    go_big_quiet_step (fail)
    go_big_quiet_step (fail)
    go_big_quiet_step (fail)
    go_big_quiet_step (fail)
    go_big_quiet_step (fail)
    go_big_quiet_step (fail)
    go_big_quiet_step (fail)
    go_big_quiet_step (fail)
    go_big_quiet_step ((go_at_call 17; with_reducible refine Calls.mono (HCT.out _) ?_; rintro e w6 ⟨rfl, hm⟩; exact ⟨rfl, hm⟩))
    go_big_quiet_step (fail)
    go_big_quiet_step (fail)
    go_big_quiet_step ((go_at_call 22; with_reducible refine Calls.mono (HCK.out _) ?_; rintro e w6 ⟨rfl, hm⟩; exact ⟨rfl, hm⟩))
    go_big_quiet_step (fail)
    go_big_quiet_step (fail)
    go_big_quiet_step (fail)
    go_big_quiet_step ((go_at_call 17; with_reducible refine Calls.mono (HCT.out _) ?_; rintro e w6 ⟨rfl, hm⟩; exact ⟨rfl, hm⟩))
    go_big_quiet_step (fail)
    go_big_quiet_step (fail)
    go_big_quiet_step ((go_at_call 22; with_reducible refine Calls.mono (HCL.out _) ?_; rintro e w6 ⟨rfl, hm⟩; exact ⟨rfl, hm⟩))
    go_big_quiet_step (fail)
    go_big_quiet_step (fail)
    go_big_quiet_step (fail)
    refine wpQuiet_nil ?_
    rintro _ ⟨nq, rfl⟩
    unfold Exit.then
    try go_wp2_with fail
    go_ret
    exact ⟨rfl, HB0.out.trans ((HGB.out nq).mono HB0.out.size)⟩

end Go.Proofs.YthcklfelofpffaaDoor
