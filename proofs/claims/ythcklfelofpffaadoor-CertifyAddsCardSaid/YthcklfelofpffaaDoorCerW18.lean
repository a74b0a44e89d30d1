/- What takes the elements of a path, the last first: merkle.taker. No condition. -/
import Derived.Test.YthcklfelofpffaaDoorCerW17
namespace Go.Proofs.YthcklfelofpffaaDoor
open Go.RowKit
/-- Only blocks among F may have changed. -/
structure Out (F : Nat → Prop) (w w' : World) : Prop where
  os : w'.os = w.os
  tape : w'.tape = w.tape
  output : w'.output = w.output
  size : w.heap.size ≤ w'.heap.size
  block : ∀ g, g < w.heap.size → ¬ F g → w'.heap[g]? = w.heap[g]?
section
variable {F : Nat → Prop} {w w' w'' : World}
theorem Out.refl (F : Nat → Prop) (w : World) : Out F w w := ⟨rfl, rfl, rfl, Nat.le_refl _, fun _ _ _ => rfl⟩
theorem Out.trans (h : Out F w w') (k : Out F w' w'') : Out F w w'' :=
  ⟨k.os.trans h.os, k.tape.trans h.tape, k.output.trans h.output, Nat.le_trans h.size k.size, fun g hg hf => (k.block g (Nat.lt_of_lt_of_le hg h.size) hf).trans (h.block g hg hf)⟩
theorem Out.of_below (h : Below w.heap.size w w') : Out F w w' := ⟨h.os, h.tape, h.output, h.size, fun g hg _ => h.block g hg⟩
theorem Out.below {B : Nat} (h : Out F w w') (hF : ∀ g, F g → B ≤ g) (hB : B ≤ w.heap.size) : Below B w w' :=
  ⟨h.os, h.tape, h.output, h.size, fun g hg => h.block g (by omega) (fun hf => by have := hF g hf; omega)⟩
theorem Out.set (h : Out F w w') {g : Nat} (hg : F g ∨ w.heap.size ≤ g) (o : Nat) (v : Value) : Out F w (w'.setCell ⟨g, o, none⟩ v) := by
  refine ⟨h.os, h.tape, h.output, by simpa using h.size, fun x hx hf => ?_⟩
  rw [heap_set _ _ _ _ (by rintro rfl; rcases hg with hg | hg; exact hf hg; omega)]
  exact h.block x hx hf
theorem Out.box (h : Out F w w') {P : Nat} {t : TypeId} {cs : List Value} (hb : ABox w P t cs) (hf : ¬ F P) : ABox w' P t cs := (h.block P hb.lt hf).trans hb
end
theorem Out.setRow {F : Nat → Prop} {w w' : World} (h : Out F w w') {R : Nat} (hR : w.heap.size ≤ R) (cs : Array Value) : Out F w (w'.setRow R cs) :=
  ⟨h.os, h.tape, h.output, by rw [setRow_size]; exact h.size, fun g hg hf => (setRow_other w' R g cs (by omega)).trans (h.block g hg hf)⟩
theorem abox_setRow {w : World} {R P : Nat} {t : TypeId} {cs : List Value} {vs : Array Value} (h : ABox w P t cs) (hne : P ≠ R) : ABox (w.setRow R vs) P t cs := (setRow_other w R P vs hne).trans h
/-- The state of a taker: how many elements are left, and whether one was missing. -/
def takeP (p : List H32) (s : Nat × Bool) : List UInt8 × (Nat × Bool) := if s.1 = 0 then (zer32, (0, true)) else (hAt p (s.1 - 1), (s.1 - 1, s.2))
structure TK (w0 w : World) (Lb Mb Pb : Nat) (v : Value) (s : Nat × Bool) : Prop where
  l : ABox w Lb 3 [.int .i64 (s.1 : Int)]
  m : ABox w Mb 4 [.bool s.2]
  p : ABox w Pb 34 [v]
  bl : w0.heap.size ≤ Lb
  bm : w0.heap.size ≤ Mb
  bp : w0.heap.size ≤ Pb
  lm : Lb ≠ Mb
  lp : Lb ≠ Pb
  mp : Mb ≠ Pb
  b : Below w0.heap.size w0 w
def TF (Lb Mb : Nat) : Nat → Prop := fun g => g = Lb ∨ g = Mb
theorem TK.bs {w0 w : World} {Lb Mb Pb : Nat} {v : Value} {s : Nat × Bool} (h : TK w0 w Lb Mb Pb v s) : w0.heap.size ≤ w.heap.size := h.b.size
theorem TK.to {w0 w w' : World} {Lb Mb Pb : Nat} {v : Value} {s : Nat × Bool} (h : TK w0 w Lb Mb Pb v s) (hb : Below w.heap.size w w') : TK w0 w' Lb Mb Pb v s :=
  ⟨h.l.to hb, h.m.to hb, h.p.to hb, h.bl, h.bm, h.bp, h.lm, h.lp, h.mp, h.b.trans (hb.mono h.bs)⟩
theorem TK.setL {w0 w : World} {Lb Mb Pb : Nat} {v : Value} {s : Nat × Bool} (h : TK w0 w Lb Mb Pb v s) (n : Nat) : TK w0 (w.setCell ⟨Lb, 0, none⟩ (.int .i64 (n : Int))) Lb Mb Pb v (n, s.2) := by
  refine ⟨h.l.set 0 _, ?_, ?_, h.bl, h.bm, h.bp, h.lm, h.lp, h.mp, h.b.setCell (p := ⟨Lb, 0, none⟩) h.bl _⟩
  · unfold ABox; rw [heap_set _ _ _ _ (Ne.symm h.lm)]; exact h.m
  · unfold ABox; rw [heap_set _ _ _ _ (Ne.symm h.lp)]; exact h.p
theorem TK.setM {w0 w : World} {Lb Mb Pb : Nat} {v : Value} {s : Nat × Bool} (h : TK w0 w Lb Mb Pb v s) (b : Bool) : TK w0 (w.setCell ⟨Mb, 0, none⟩ (.bool b)) Lb Mb Pb v (s.1, b) := by
  refine ⟨?_, h.m.set 0 _, ?_, h.bl, h.bm, h.bp, h.lm, h.lp, h.mp, h.b.setCell (p := ⟨Mb, 0, none⟩) h.bm _⟩
  · unfold ABox; rw [heap_set _ _ _ _ h.lm]; exact h.l
  · unfold ABox; rw [heap_set _ _ _ _ (Ne.symm h.mp)]; exact h.p
theorem TK.setX {w0 w : World} {Lb Mb Pb : Nat} {v : Value} {s : Nat × Bool} (h : TK w0 w Lb Mb Pb v s) {g : Nat} (h1 : g ≠ Lb) (h2 : g ≠ Mb) (h3 : g ≠ Pb) (h4 : w0.heap.size ≤ g) (o : Nat) (u : Value) : TK w0 (w.setCell ⟨g, o, none⟩ u) Lb Mb Pb v s := by
  refine ⟨?_, ?_, ?_, h.bl, h.bm, h.bp, h.lm, h.lp, h.mp, h.b.setCell (p := ⟨g, o, none⟩) h4 _⟩
  · unfold ABox; rw [heap_set _ _ _ _ (Ne.symm h1)]; exact h.l
  · unfold ABox; rw [heap_set _ _ _ _ (Ne.symm h2)]; exact h.m
  · unfold ABox; rw [heap_set _ _ _ _ (Ne.symm h3)]; exact h.p
theorem TK.setRow {w0 w : World} {Lb Mb Pb : Nat} {v : Value} {s : Nat × Bool} (h : TK w0 w Lb Mb Pb v s) {R : Nat} (h1 : Lb ≠ R) (h2 : Mb ≠ R) (h3 : Pb ≠ R) (h4 : w0.heap.size ≤ R) (cs : Array Value) : TK w0 (w.setRow R cs) Lb Mb Pb v s :=
  ⟨abox_setRow h.l h1, abox_setRow h.m h2, abox_setRow h.p h3, h.bl, h.bm, h.bp, h.lm, h.lp, h.mp, below_setRow h.b h4 _⟩
set_option maxRecDepth 100000 in
set_option maxHeartbeats 4000000 in
theorem take_any (w0 w : World) (Lb Mb Pb : Nat) (A : Option Addr) (c n : Nat) (p : List H32) (s : Nat × Bool) (hs : Sl w0 (fun b => b < w0.heap.size) A c p) (hn : p.length = n) (hn2 : n ≤ 9223372036854775807) (h1 : s.1 ≤ n) (h : TK w0 w Lb Mb Pb (.slice A n c) s) :
    Calls Tryd.prog 95 #[.pointer (some ⟨Lb, 0, none⟩), .pointer (some ⟨Mb, 0, none⟩), .pointer (some ⟨Pb, 0, none⟩)] w fun e w' => e = .returned (hashV (takeP p s).1) ∧ TK w0 w' Lb Mb Pb (.slice A n c) (takeP p s).2 ∧ Out (TF Lb Mb) w w' := by
  obtain ⟨k, mi⟩ := s
  dsimp only at h1
  have HH := Lib.hid h
  have HS := Lib.hid hs
  have HN := Lib.hid hn
  have HK1 := Lib.hid h1
  by_cases h0 : k = 0
  · subst h0
    have HT := Lib.hid (h.to ((Below.refl w.heap.size w).alloc (Nat.le_refl _) (.cells (zer32.map encB).toArray 29)))
    have HR0 : Hid (ABox (w.alloc (.cells (zer32.map encB).toArray 29)) w.heap.size 29 (zer32.map encB)) := Lib.hid (heap_alloc_new w _)
    have HW : Hid (Out (TF Lb Mb) w (w.alloc (.cells (zer32.map encB).toArray 29))) := Lib.hid (Out.of_below ((Below.refl w.heap.size w).alloc (Nat.le_refl _) _))
    have HLT : Hid (Lb < w.heap.size ∧ Mb < w.heap.size ∧ Pb < w.heap.size ∧ w0.heap.size ≤ w.heap.size) := Lib.hid ⟨h.l.lt, h.m.lt, h.p.lt, h.bs⟩
    have HWE : Hid (Out (TF Lb Mb) w (((w.alloc (.cells (zer32.map encB).toArray 29)).setCell ⟨Mb, 0, none⟩ (.bool true)).setRow w.heap.size (zer32.map encB).toArray)) := Lib.hid ((HW.out.set (.inl (.inr rfl)) 0 _).setRow (Nat.le_refl _) _)
    clear h hs hn h1
    go_enter Tryd.func95, Tryd.ntmps95
    go_upto_region 1 with (fail)
    generalize hw1 : World.alloc w _ = w1
    have hw2 : w.alloc (.cells (zer32.map encB).toArray 29) = w1 := hw1
    rw [hw2] at HT HR0 HW HWE
    clear hw1 hw2
    generalize w.heap.size = R at *
    have k0 := HT.out.l.cell 0 rfl
    have k1 := HT.out.m.cell 0 rfl
    have kf := HT.out.m.fz
    have HT2 := Lib.hid (HT.out.setM true)
    have HR2 : Hid (ABox (w1.setCell ⟨Mb, 0, none⟩ (.bool true)) R 29 (zer32.map encB)) := Lib.hid (by unfold ABox; rw [heap_set _ _ _ _ (by have := HLT.out.2.1; omega)]; exact HR0.out)
    have hr2 := HR2.out
    unfold ABox at hr2
    have HZ : Hid ((zer32.map encB).toArray.size = 32) := Lib.hid rfl
    have HZ1 := Lib.hid (hash_all zer32)
    have HX := Lib.hid (setRow_heap _ R _ (zer32.map encB).toArray _ _ hr2)
    have HTE := Lib.hid (HT2.out.setRow (R := R) (by have := HLT.out; omega) (by have := HLT.out; omega) (by have := HLT.out; omega) (by have := HLT.out; omega) (zer32.map encB).toArray)
    go_wp2_with (first
      | (refine wpList_store_row rfl 29 (.tmp 3) (.tmp 6) rfl R (zer32.map encB).toArray rfl rfl 29 (zer32.map encB).toArray hr2 (by rw [HZ.out]; kernel_rfl) rfl HZ1.out ?_)
      | fail)
    exact bodyPost_ret (v := .agg (zer32.map encB).toArray) (results_cell_row Tryd.results95 _ _ R _ _ (0, 0) _ rfl HX.out Tryd.underlying29 rfl (by rw [HZ.out]; kernel_rfl)) rfl ⟨rfl, HTE.out, HWE.out⟩
  · obtain ⟨j, rfl⟩ : ∃ j, k = j + 1 := ⟨k - 1, by omega⟩
    have hjn : j < p.length := by omega
    have hT := h.to ((Below.refl w.heap.size w).alloc (Nat.le_refl _) (.cells (zer32.map encB).toArray 29))
    obtain ⟨b, o, rfl, hbS, _, hel, hxl⟩ := h32_at hs hjn
    have hnc : n ≤ c := by have := hs.1; omega
    have hcm : c ≤ 9223372036854775807 := by have := hs.2.1; unfold maxLen at this; omega
    have HT := Lib.hid hT
    have HE0 := Lib.hid hel
    have HXL := Lib.hid hxl
    have HBS : Hid (b < w0.heap.size) := Lib.hid hbS
    have HTP : Hid (takeP p (j + 1, mi) = (p[j].l, (j, mi))) := Lib.hid (by unfold takeP; rw [if_neg (by simp)]; simp only [Nat.add_sub_cancel]; rw [hAt_eq p j hjn])
    have HR0 : Hid (ABox (w.alloc (.cells (zer32.map encB).toArray 29)) w.heap.size 29 (zer32.map encB)) := Lib.hid (heap_alloc_new w _)
    have HW : Hid (Out (TF Lb Mb) w (w.alloc (.cells (zer32.map encB).toArray 29))) := Lib.hid (Out.of_below ((Below.refl w.heap.size w).alloc (Nat.le_refl _) _))
    have HLT : Hid (Lb < w.heap.size ∧ Mb < w.heap.size ∧ Pb < w.heap.size ∧ w0.heap.size ≤ w.heap.size) := Lib.hid ⟨h.l.lt, h.m.lt, h.p.lt, h.bs⟩
    have HCN : Hid ((p[j].l.map encB).length = 32) := Lib.hid (by rw [List.length_map, hxl])
    have hjn' : (j : Int) < (n : Int) := by omega
    generalize p[j].l = x at *
    clear h hs hn h1 hT hel hxl h0
    have HWE : Hid (Out (TF Lb Mb) w (((w.alloc (.cells (zer32.map encB).toArray 29)).setCell ⟨Lb, 0, none⟩ (.int .i64 (j : Int))).setRow w.heap.size (x.map encB).toArray)) := Lib.hid ((HW.out.set (.inl (.inl rfl)) 0 _).setRow (Nat.le_refl _) _)
    go_enter Tryd.func95, Tryd.ntmps95
    go_upto_region 1 with (fail)
    generalize hw1 : World.alloc w _ = w1
    have hw2 : w.alloc (.cells (zer32.map encB).toArray 29) = w1 := hw1
    rw [hw2] at HT HR0 HW HWE
    clear hw1 hw2
    generalize w.heap.size = R at *
    have k0 := HT.out.l.cell 0 rfl
    have kf := HT.out.l.fz
    have k2 := (HT.out.setL j).p.cell 0 rfl
    have k3 := (HT.out.setL j).l.cell 0 rfl
    have HT2 := Lib.hid (HT.out.setL j)
    have HR2 : Hid (ABox (w1.setCell ⟨Lb, 0, none⟩ (.int .i64 (j : Int))) R 29 (zer32.map encB)) := Lib.hid (by unfold ABox; rw [heap_set _ _ _ _ (by have := HLT.out.1; omega)]; exact HR0.out)
    have HE : Hid ((w1.setCell ⟨Lb, 0, none⟩ (.int .i64 (j : Int))).rangeAt b (o + j * 32) (x.map encB)) := Lib.hid (fun i v hv => (HT2.out.b.cell (p := ⟨b, _, none⟩) HBS.out).trans (HE0.out i v hv))
    have hr2 := HR2.out
    unfold ABox at hr2
    have HZ : Hid ((zer32.map encB).toArray.size = 32) := Lib.hid rfl
    have HC1 := Lib.hid (hash_all x)
    have HSZ := Lib.hid (hash_size HXL.out)
    have HX := Lib.hid (setRow_heap _ R _ (x.map encB).toArray _ _ hr2)
    have HTE := Lib.hid (HT2.out.setRow (R := R) (by have := HLT.out; omega) (by have := HLT.out; omega) (by have := HLT.out; omega) (by have := HLT.out; omega) (x.map encB).toArray)
    have HRE : Hid (hashV x = .agg (x.map encB).toArray) := Lib.hid rfl
    generalize hcs : (x.map encB) = cl at *
    generalize hcs2 : cl.toArray = cs at *
    have HCS2 := Lib.hid hcs2
    clear hcs hcs2
    generalize (zer32.map encB).toArray = zs at *
    go_wp2_with (first
      | (refine wpList_load_mid rfl 29 (.tmp 11) rfl b (o + j * 32) ?_ cl _ ?_ Tryd.underlying29 ?_ ?_ ?_; rfl; exact HE.out; rfl; (rw [HCN.out]; kernel_rfl))
      | (refine wpList_store_row rfl 29 (.tmp 3) (.tmp 12) rfl R cs ?_ ?_ 29 zs hr2 (by rw [HSZ.out]; kernel_rfl) (by rw [HZ.out, HSZ.out]) HC1.out ?_; rfl; (show Value.agg cl.toArray = Value.agg cs; rw [HCS2.out]))
      | fail)
    exact bodyPost_ret (v := .agg cs) (results_cell_row Tryd.results95 _ _ R _ cs (0, 0) _ rfl HX.out Tryd.underlying29 rfl (by rw [HSZ.out]; kernel_rfl)) rfl ⟨by rw [HTP.out, HRE.out], by rw [HTP.out]; exact HTE.out, HWE.out⟩
theorem tdone_any (w0 w : World) (Lb Mb Pb : Nat) (v : Value) (s : Nat × Bool) (h : TK w0 w Lb Mb Pb v s) :
    Calls Tryd.prog 96 #[.pointer (some ⟨Lb, 0, none⟩), .pointer (some ⟨Mb, 0, none⟩)] w fun e w' => e = .returned (.bool (decide (s = (0, false)))) ∧ w = w' := by
  obtain ⟨k, mi⟩ := s
  have k0 := h.l.cell 0 rfl
  have k1 := h.m.cell 0 rfl
  dsimp only at k0 k1
  clear h
  by_cases h0 : k = 0
  · subst h0
    go_enter Tryd.func96, Tryd.ntmps96
    go_wp2_with fail
    go_ret
    refine ⟨ret_bool ?_, rfl⟩
    cases mi <;> simp
  · have h1 : ¬ (k : Int) = 0 := by omega
    go_enter Tryd.func96, Tryd.ntmps96
    go_wp2_with fail
    go_ret
    refine ⟨ret_bool ?_, rfl⟩
    simp [h0]
def takeV (Lb Mb Pb : Nat) : Value := .func (.func 95) #[] #[.pointer (some ⟨Lb, 0, none⟩), .pointer (some ⟨Mb, 0, none⟩), .pointer (some ⟨Pb, 0, none⟩)]
def doneV (Lb Mb : Nat) : Value := .func (.func 96) #[] #[.pointer (some ⟨Lb, 0, none⟩), .pointer (some ⟨Mb, 0, none⟩)]
theorem taker_any (w : World) (A : Option Addr) (c n : Nat) :
    Calls Tryd.prog 79 #[.slice A n c] w fun e w' => ∃ Lb Mb Pb, e = .returned (.tuple #[takeV Lb Mb Pb, doneV Lb Mb]) ∧ TK w w' Lb Mb Pb (.slice A n c) (n, false) := by
  have HP : Hid (ABox (((w.alloc (.cells #[.slice A n c] 34)).alloc (.cells #[.int .i64 (n : Int)] 3)).alloc (.cells #[.bool false] 4)) w.heap.size 34 [.slice A n c]) := Lib.hid (by
    unfold ABox; rw [Below.heap_alloc _ _ _ (by simp; omega), Below.heap_alloc _ _ _ (by simp)]; exact heap_alloc_new w _)
  have HL : Hid (ABox (((w.alloc (.cells #[.slice A n c] 34)).alloc (.cells #[.int .i64 (n : Int)] 3)).alloc (.cells #[.bool false] 4)) (w.heap.size + 1) 3 [.int .i64 (n : Int)]) := Lib.hid (by
    unfold ABox; rw [Below.heap_alloc _ _ _ (by simp)]; exact heap_at (by simp))
  have HM : Hid (ABox (((w.alloc (.cells #[.slice A n c] 34)).alloc (.cells #[.int .i64 (n : Int)] 3)).alloc (.cells #[.bool false] 4)) (w.heap.size + 1 + 1) 4 [.bool false]) := Lib.hid (heap_at (by simp))
  have HB : Hid (Below w.heap.size w (((w.alloc (.cells #[.slice A n c] 34)).alloc (.cells #[.int .i64 (n : Int)] 3)).alloc (.cells #[.bool false] 4))) := Lib.hid ((((Below.refl _ _).alloc (Nat.le_refl _) _).alloc (by simp) _).alloc (by simp; omega) _)
  go_enter Tryd.func79, Tryd.ntmps79
  go_wp2_with fail
  go_ret2
  exact ⟨_, _, _, rfl, HL.out, HM.out, HP.out, by omega, by omega, by omega, by omega, by omega, by omega, HB.out⟩
end Go.Proofs.YthcklfelofpffaaDoor
