/- What takes the elements of a path, the last first: merkle.taker. No condition.
A path is climbed: the inner function of merkle.Includes. No condition but sizes and what the table holds.
A proof that a leaf is included is verified: merkle.Includes. No condition but sizes and what the table holds.
SameHashes, SameStrings, Around. No condition. -/
import Derived.Test.YthcklfelofpffaaDoorCPd4
import Derived.Laws.EntriesVeiled
namespace Go.Proofs.YthcklfelofpffaaDoor
open Go.RowKit
/-- Only blocks among F may have changed. -/
structure Out (F : Nat → Prop) (w w' : World) : Prop where
  os : w'.os = w.os
  tape : w'.tape = w.tape
  output : w'.output = w.output
  size : w.heap.size ≤ w'.heap.size
  block : ∀ g, g < w.heap.size → ¬ F g → w'.heap[g]? = w.heap[g]?
section
variable {F : Nat → Prop} {w w' w'' : World}
theorem Out.refl (F : Nat → Prop) (w : World) : Out F w w := ⟨rfl, rfl, rfl, Nat.le_refl _, fun _ _ _ => rfl⟩
theorem Out.trans (h : Out F w w') (k : Out F w' w'') : Out F w w'' :=
  ⟨k.os.trans h.os, k.tape.trans h.tape, k.output.trans h.output, Nat.le_trans h.size k.size, fun g hg hf => (k.block g (Nat.lt_of_lt_of_le hg h.size) hf).trans (h.block g hg hf)⟩
theorem Out.of_below (h : Below w.heap.size w w') : Out F w w' := ⟨h.os, h.tape, h.output, h.size, fun g hg _ => h.block g hg⟩
theorem Out.below {B : Nat} (h : Out F w w') (hF : ∀ g, F g → B ≤ g) (hB : B ≤ w.heap.size) : Below B w w' :=
  ⟨h.os, h.tape, h.output, h.size, fun g hg => h.block g (by omega) (fun hf => by have := hF g hf; omega)⟩
theorem Out.set (h : Out F w w') {g : Nat} (hg : F g ∨ w.heap.size ≤ g) (o : Nat) (v : Value) : Out F w (w'.setCell ⟨g, o, none⟩ v) := by
  refine ⟨h.os, h.tape, h.output, by simpa using h.size, fun x hx hf => ?_⟩
  rw [heap_set _ _ _ _ (by rintro rfl; rcases hg with hg | hg; exact hf hg; omega)]
  exact h.block x hx hf
theorem Out.box (h : Out F w w') {P : Nat} {t : TypeId} {cs : List Value} (hb : ABox w P t cs) (hf : ¬ F P) : ABox w' P t cs := (h.block P hb.lt hf).trans hb
end
theorem Out.setRow {F : Nat → Prop} {w w' : World} (h : Out F w w') {R : Nat} (hR : w.heap.size ≤ R) (cs : Array Value) : Out F w (w'.setRow R cs) :=
  ⟨h.os, h.tape, h.output, by rw [setRow_size]; exact h.size, fun g hg hf => (setRow_other w' R g cs (by omega)).trans (h.block g hg hf)⟩
theorem abox_setRow {w : World} {R P : Nat} {t : TypeId} {cs : List Value} {vs : Array Value} (h : ABox w P t cs) (hne : P ≠ R) : ABox (w.setRow R vs) P t cs := (setRow_other w R P vs hne).trans h
/-- The state of a taker: how many elements are left, and whether one was missing. -/
def takeP (p : List H32) (s : Nat × Bool) : List UInt8 × (Nat × Bool) := if s.1 = 0 then (zer32, (0, true)) else (hAt p (s.1 - 1), (s.1 - 1, s.2))
structure TK (w0 w : World) (Lb Mb Pb : Nat) (v : Value) (s : Nat × Bool) : Prop where
  l : ABox w Lb 3 [.int .i64 (s.1 : Int)]
  m : ABox w Mb 4 [.bool s.2]
  p : ABox w Pb 34 [v]
  bl : w0.heap.size ≤ Lb
  bm : w0.heap.size ≤ Mb
  bp : w0.heap.size ≤ Pb
  lm : Lb ≠ Mb
  lp : Lb ≠ Pb
  mp : Mb ≠ Pb
  b : Below w0.heap.size w0 w
def TF (Lb Mb : Nat) : Nat → Prop := fun g => g = Lb ∨ g = Mb
theorem TK.bs {w0 w : World} {Lb Mb Pb : Nat} {v : Value} {s : Nat × Bool} (h : TK w0 w Lb Mb Pb v s) : w0.heap.size ≤ w.heap.size := h.b.size
theorem TK.to {w0 w w' : World} {Lb Mb Pb : Nat} {v : Value} {s : Nat × Bool} (h : TK w0 w Lb Mb Pb v s) (hb : Below w.heap.size w w') : TK w0 w' Lb Mb Pb v s :=
  ⟨h.l.to hb, h.m.to hb, h.p.to hb, h.bl, h.bm, h.bp, h.lm, h.lp, h.mp, h.b.trans (hb.mono h.bs)⟩
theorem TK.setL {w0 w : World} {Lb Mb Pb : Nat} {v : Value} {s : Nat × Bool} (h : TK w0 w Lb Mb Pb v s) (n : Nat) : TK w0 (w.setCell ⟨Lb, 0, none⟩ (.int .i64 (n : Int))) Lb Mb Pb v (n, s.2) := by
  refine ⟨h.l.set 0 _, ?_, ?_, h.bl, h.bm, h.bp, h.lm, h.lp, h.mp, h.b.setCell (p := ⟨Lb, 0, none⟩) h.bl _⟩
  · unfold ABox; rw [heap_set _ _ _ _ (Ne.symm h.lm)]; exact h.m
  · unfold ABox; rw [heap_set _ _ _ _ (Ne.symm h.lp)]; exact h.p
theorem TK.setM {w0 w : World} {Lb Mb Pb : Nat} {v : Value} {s : Nat × Bool} (h : TK w0 w Lb Mb Pb v s) (b : Bool) : TK w0 (w.setCell ⟨Mb, 0, none⟩ (.bool b)) Lb Mb Pb v (s.1, b) := by
  refine ⟨?_, h.m.set 0 _, ?_, h.bl, h.bm, h.bp, h.lm, h.lp, h.mp, h.b.setCell (p := ⟨Mb, 0, none⟩) h.bm _⟩
  · unfold ABox; rw [heap_set _ _ _ _ h.lm]; exact h.l
  · unfold ABox; rw [heap_set _ _ _ _ (Ne.symm h.mp)]; exact h.p
theorem TK.setX {w0 w : World} {Lb Mb Pb : Nat} {v : Value} {s : Nat × Bool} (h : TK w0 w Lb Mb Pb v s) {g : Nat} (h1 : g ≠ Lb) (h2 : g ≠ Mb) (h3 : g ≠ Pb) (h4 : w0.heap.size ≤ g) (o : Nat) (u : Value) : TK w0 (w.setCell ⟨g, o, none⟩ u) Lb Mb Pb v s := by
  refine ⟨?_, ?_, ?_, h.bl, h.bm, h.bp, h.lm, h.lp, h.mp, h.b.setCell (p := ⟨g, o, none⟩) h4 _⟩
  · unfold ABox; rw [heap_set _ _ _ _ (Ne.symm h1)]; exact h.l
  · unfold ABox; rw [heap_set _ _ _ _ (Ne.symm h2)]; exact h.m
  · unfold ABox; rw [heap_set _ _ _ _ (Ne.symm h3)]; exact h.p
theorem TK.setRow {w0 w : World} {Lb Mb Pb : Nat} {v : Value} {s : Nat × Bool} (h : TK w0 w Lb Mb Pb v s) {R : Nat} (h1 : Lb ≠ R) (h2 : Mb ≠ R) (h3 : Pb ≠ R) (h4 : w0.heap.size ≤ R) (cs : Array Value) : TK w0 (w.setRow R cs) Lb Mb Pb v s :=
  ⟨abox_setRow h.l h1, abox_setRow h.m h2, abox_setRow h.p h3, h.bl, h.bm, h.bp, h.lm, h.lp, h.mp, below_setRow h.b h4 _⟩
set_option maxRecDepth 100000 in
set_option maxHeartbeats 4000000 in
theorem take_any (w0 w : World) (Lb Mb Pb : Nat) (A : Option Addr) (c n : Nat) (p : List H32) (s : Nat × Bool) (hs : Sl w0 (fun b => b < w0.heap.size) A c p) (hn : p.length = n) (hn2 : n ≤ 9223372036854775807) (h1 : s.1 ≤ n) (h : TK w0 w Lb Mb Pb (.slice A n c) s) :
    Calls Tryd.prog 95 #[.pointer (some ⟨Lb, 0, none⟩), .pointer (some ⟨Mb, 0, none⟩), .pointer (some ⟨Pb, 0, none⟩)] w fun e w' => e = .returned (hashV (takeP p s).1) ∧ TK w0 w' Lb Mb Pb (.slice A n c) (takeP p s).2 ∧ Out (TF Lb Mb) w w' := by
  obtain ⟨k, mi⟩ := s
  dsimp only at h1
  have HH := Lib.hid h
  have HS := Lib.hid hs
  have HN := Lib.hid hn
  have HK1 := Lib.hid h1
  by_cases h0 : k = 0
  · subst h0
    have HT := Lib.hid (h.to ((Below.refl w.heap.size w).alloc (Nat.le_refl _) (.cells (zer32.map encB).toArray 29)))
    have HR0 : Hid (ABox (w.alloc (.cells (zer32.map encB).toArray 29)) w.heap.size 29 (zer32.map encB)) := Lib.hid (heap_alloc_new w _)
    have HW : Hid (Out (TF Lb Mb) w (w.alloc (.cells (zer32.map encB).toArray 29))) := Lib.hid (Out.of_below ((Below.refl w.heap.size w).alloc (Nat.le_refl _) _))
    have HLT : Hid (Lb < w.heap.size ∧ Mb < w.heap.size ∧ Pb < w.heap.size ∧ w0.heap.size ≤ w.heap.size) := Lib.hid ⟨h.l.lt, h.m.lt, h.p.lt, h.bs⟩
    have HWE : Hid (Out (TF Lb Mb) w (((w.alloc (.cells (zer32.map encB).toArray 29)).setCell ⟨Mb, 0, none⟩ (.bool true)).setRow w.heap.size (zer32.map encB).toArray)) := Lib.hid ((HW.out.set (.inl (.inr rfl)) 0 _).setRow (Nat.le_refl _) _)
    clear h hs hn h1
    go_enter Tryd.func95, Tryd.ntmps95
    go_upto_region 1 with (fail)
    generalize hw1 : World.alloc w _ = w1
    have hw2 : w.alloc (.cells (zer32.map encB).toArray 29) = w1 := hw1
    rw [hw2] at HT HR0 HW HWE
    clear hw1 hw2
    generalize w.heap.size = R at *
    have k0 := HT.out.l.cell 0 rfl
    have k1 := HT.out.m.cell 0 rfl
    have kf := HT.out.m.fz
    have HT2 := Lib.hid (HT.out.setM true)
    have HR2 : Hid (ABox (w1.setCell ⟨Mb, 0, none⟩ (.bool true)) R 29 (zer32.map encB)) := Lib.hid (by unfold ABox; rw [heap_set _ _ _ _ (by have := HLT.out.2.1; omega)]; exact HR0.out)
    have hr2 := HR2.out
    unfold ABox at hr2
    have HZ : Hid ((zer32.map encB).toArray.size = 32) := Lib.hid rfl
    have HZ1 := Lib.hid (hash_all zer32)
    have HX := Lib.hid (setRow_heap _ R _ (zer32.map encB).toArray _ _ hr2)
    have HTE := Lib.hid (HT2.out.setRow (R := R) (by have := HLT.out; omega) (by have := HLT.out; omega) (by have := HLT.out; omega) (by have := HLT.out; omega) (zer32.map encB).toArray)
    go_wp2_with (first
      | (refine wpList_store_row rfl 29 (.tmp 3) (.tmp 6) rfl R (zer32.map encB).toArray rfl rfl 29 (zer32.map encB).toArray hr2 (by rw [HZ.out]; kernel_rfl) rfl HZ1.out ?_)
      | fail)
    exact bodyPost_ret (v := .agg (zer32.map encB).toArray) (results_cell_row Tryd.results95 _ _ R _ _ (0, 0) _ rfl HX.out Tryd.underlying29 rfl (by rw [HZ.out]; kernel_rfl)) rfl ⟨rfl, HTE.out, HWE.out⟩
  · obtain ⟨j, rfl⟩ : ∃ j, k = j + 1 := ⟨k - 1, by omega⟩
    have hjn : j < p.length := by omega
    have hT := h.to ((Below.refl w.heap.size w).alloc (Nat.le_refl _) (.cells (zer32.map encB).toArray 29))
    obtain ⟨b, o, rfl, hbS, _, hel, hxl⟩ := h32_at hs hjn
    have hnc : n ≤ c := by have := hs.1; omega
    have hcm : c ≤ 9223372036854775807 := by have := hs.2.1; unfold maxLen at this; omega
    have HT := Lib.hid hT
    have HE0 := Lib.hid hel
    have HXL := Lib.hid hxl
    have HBS : Hid (b < w0.heap.size) := Lib.hid hbS
    have HTP : Hid (takeP p (j + 1, mi) = (p[j].l, (j, mi))) := Lib.hid (by unfold takeP; rw [if_neg (by simp)]; simp only [Nat.add_sub_cancel]; rw [hAt_eq p j hjn])
    have HR0 : Hid (ABox (w.alloc (.cells (zer32.map encB).toArray 29)) w.heap.size 29 (zer32.map encB)) := Lib.hid (heap_alloc_new w _)
    have HW : Hid (Out (TF Lb Mb) w (w.alloc (.cells (zer32.map encB).toArray 29))) := Lib.hid (Out.of_below ((Below.refl w.heap.size w).alloc (Nat.le_refl _) _))
    have HLT : Hid (Lb < w.heap.size ∧ Mb < w.heap.size ∧ Pb < w.heap.size ∧ w0.heap.size ≤ w.heap.size) := Lib.hid ⟨h.l.lt, h.m.lt, h.p.lt, h.bs⟩
    have HCN : Hid ((p[j].l.map encB).length = 32) := Lib.hid (by rw [List.length_map, hxl])
    have hjn' : (j : Int) < (n : Int) := by omega
    generalize p[j].l = x at *
    clear h hs hn h1 hT hel hxl h0
    have HWE : Hid (Out (TF Lb Mb) w (((w.alloc (.cells (zer32.map encB).toArray 29)).setCell ⟨Lb, 0, none⟩ (.int .i64 (j : Int))).setRow w.heap.size (x.map encB).toArray)) := Lib.hid ((HW.out.set (.inl (.inl rfl)) 0 _).setRow (Nat.le_refl _) _)
    go_enter Tryd.func95, Tryd.ntmps95
    go_upto_region 1 with (fail)
    generalize hw1 : World.alloc w _ = w1
    have hw2 : w.alloc (.cells (zer32.map encB).toArray 29) = w1 := hw1
    rw [hw2] at HT HR0 HW HWE
    clear hw1 hw2
    generalize w.heap.size = R at *
    have k0 := HT.out.l.cell 0 rfl
    have kf := HT.out.l.fz
    have k2 := (HT.out.setL j).p.cell 0 rfl
    have k3 := (HT.out.setL j).l.cell 0 rfl
    have HT2 := Lib.hid (HT.out.setL j)
    have HR2 : Hid (ABox (w1.setCell ⟨Lb, 0, none⟩ (.int .i64 (j : Int))) R 29 (zer32.map encB)) := Lib.hid (by unfold ABox; rw [heap_set _ _ _ _ (by have := HLT.out.1; omega)]; exact HR0.out)
    have HE : Hid ((w1.setCell ⟨Lb, 0, none⟩ (.int .i64 (j : Int))).rangeAt b (o + j * 32) (x.map encB)) := Lib.hid (fun i v hv => (HT2.out.b.cell (p := ⟨b, _, none⟩) HBS.out).trans (HE0.out i v hv))
    have hr2 := HR2.out
    unfold ABox at hr2
    have HZ : Hid ((zer32.map encB).toArray.size = 32) := Lib.hid rfl
    have HC1 := Lib.hid (hash_all x)
    have HSZ := Lib.hid (hash_size HXL.out)
    have HX := Lib.hid (setRow_heap _ R _ (x.map encB).toArray _ _ hr2)
    have HTE := Lib.hid (HT2.out.setRow (R := R) (by have := HLT.out; omega) (by have := HLT.out; omega) (by have := HLT.out; omega) (by have := HLT.out; omega) (x.map encB).toArray)
    have HRE : Hid (hashV x = .agg (x.map encB).toArray) := Lib.hid rfl
    generalize hcs : (x.map encB) = cl at *
    generalize hcs2 : cl.toArray = cs at *
    have HCS2 := Lib.hid hcs2
    clear hcs hcs2
    generalize (zer32.map encB).toArray = zs at *
    go_wp2_with (first
      | (refine wpList_load_mid rfl 29 (.tmp 11) rfl b (o + j * 32) ?_ cl _ ?_ Tryd.underlying29 ?_ ?_ ?_; rfl; exact HE.out; rfl; (rw [HCN.out]; kernel_rfl))
      | (refine wpList_store_row rfl 29 (.tmp 3) (.tmp 12) rfl R cs ?_ ?_ 29 zs hr2 (by rw [HSZ.out]; kernel_rfl) (by rw [HZ.out, HSZ.out]) HC1.out ?_; rfl; (show Value.agg cl.toArray = Value.agg cs; rw [HCS2.out]))
      | fail)
    exact bodyPost_ret (v := .agg cs) (results_cell_row Tryd.results95 _ _ R _ cs (0, 0) _ rfl HX.out Tryd.underlying29 rfl (by rw [HSZ.out]; kernel_rfl)) rfl ⟨by rw [HTP.out, HRE.out], by rw [HTP.out]; exact HTE.out, HWE.out⟩
theorem tdone_any (w0 w : World) (Lb Mb Pb : Nat) (v : Value) (s : Nat × Bool) (h : TK w0 w Lb Mb Pb v s) :
    Calls Tryd.prog 96 #[.pointer (some ⟨Lb, 0, none⟩), .pointer (some ⟨Mb, 0, none⟩)] w fun e w' => e = .returned (.bool (decide (s = (0, false)))) ∧ w = w' := by
  obtain ⟨k, mi⟩ := s
  have k0 := h.l.cell 0 rfl
  have k1 := h.m.cell 0 rfl
  dsimp only at k0 k1
  clear h
  by_cases h0 : k = 0
  · subst h0
    go_enter Tryd.func96, Tryd.ntmps96
    go_wp2_with fail
    go_ret
    refine ⟨ret_bool ?_, rfl⟩
    cases mi <;> simp
  · have h1 : ¬ (k : Int) = 0 := by omega
    go_enter Tryd.func96, Tryd.ntmps96
    go_wp2_with fail
    go_ret
    refine ⟨ret_bool ?_, rfl⟩
    simp [h0]
def takeV (Lb Mb Pb : Nat) : Value := .func (.func 95) #[] #[.pointer (some ⟨Lb, 0, none⟩), .pointer (some ⟨Mb, 0, none⟩), .pointer (some ⟨Pb, 0, none⟩)]
def doneV (Lb Mb : Nat) : Value := .func (.func 96) #[] #[.pointer (some ⟨Lb, 0, none⟩), .pointer (some ⟨Mb, 0, none⟩)]
theorem taker_any (w : World) (A : Option Addr) (c n : Nat) :
    Calls Tryd.prog 79 #[.slice A n c] w fun e w' => ∃ Lb Mb Pb, e = .returned (.tuple #[takeV Lb Mb Pb, doneV Lb Mb]) ∧ TK w w' Lb Mb Pb (.slice A n c) (n, false) := by
  have HP : Hid (ABox (((w.alloc (.cells #[.slice A n c] 34)).alloc (.cells #[.int .i64 (n : Int)] 3)).alloc (.cells #[.bool false] 4)) w.heap.size 34 [.slice A n c]) := Lib.hid (by
    unfold ABox; rw [Below.heap_alloc _ _ _ (by simp; omega), Below.heap_alloc _ _ _ (by simp)]; exact heap_alloc_new w _)
  have HL : Hid (ABox (((w.alloc (.cells #[.slice A n c] 34)).alloc (.cells #[.int .i64 (n : Int)] 3)).alloc (.cells #[.bool false] 4)) (w.heap.size + 1) 3 [.int .i64 (n : Int)]) := Lib.hid (by
    unfold ABox; rw [Below.heap_alloc _ _ _ (by simp)]; exact heap_at (by simp))
  have HM : Hid (ABox (((w.alloc (.cells #[.slice A n c] 34)).alloc (.cells #[.int .i64 (n : Int)] 3)).alloc (.cells #[.bool false] 4)) (w.heap.size + 1 + 1) 4 [.bool false]) := Lib.hid (heap_at (by simp))
  have HB : Hid (Below w.heap.size w (((w.alloc (.cells #[.slice A n c] 34)).alloc (.cells #[.int .i64 (n : Int)] 3)).alloc (.cells #[.bool false] 4))) := Lib.hid ((((Below.refl _ _).alloc (Nat.le_refl _) _).alloc (by simp) _).alloc (by simp; omega) _)
  go_enter Tryd.func79, Tryd.ntmps79
  go_wp2_with fail
  go_ret2
  exact ⟨_, _, _, rfl, HL.out, HM.out, HP.out, by omega, by omega, by omega, by omega, by omega, by omega, HB.out⟩
end Go.Proofs.YthcklfelofpffaaDoor
namespace Go.Proofs.YthcklfelofpffaaDoor
open Go.RowKit
/-- What a path makes of a leaf. -/
def climbP : Nat → List H32 → List UInt8 → Nat → Nat → Nat × Bool → List UInt8 × (Nat × Bool)
  | 0, _, leaf, _, _, s => (leaf, s)
  | f + 1, p, leaf, n, i, s => if n = 1 then (leaf, s) else
    if i < splitN n then (nodeH (climbP f p leaf (splitN n) i (takeP p s).2).1 (takeP p s).1, (climbP f p leaf (splitN n) i (takeP p s).2).2)
    else (nodeH (takeP p s).1 (climbP f p leaf (n - splitN n) (i - splitN n) (takeP p s).2).1, (climbP f p leaf (n - splitN n) (i - splitN n) (takeP p s).2).2)
theorem takeP_32 {p : List H32} (h : ∀ x ∈ p, x.l.length = 32) (s : Nat × Bool) (hs : s.1 ≤ p.length) : (takeP p s).1.length = 32 ∧ (takeP p s).2.1 ≤ p.length := by
  unfold takeP
  split
  · exact ⟨rfl, by simp⟩
  · have hl : s.1 - 1 < p.length := by omega
    simp only
    rw [hAt_eq p _ hl]
    exact ⟨h _ (List.getElem_mem _), by omega⟩
theorem climbP_32 {p : List H32} (h : ∀ x ∈ p, x.l.length = 32) {leaf : List UInt8} (hl : leaf.length = 32) : ∀ (f n i : Nat) (s : Nat × Bool), s.1 ≤ p.length → (climbP f p leaf n i s).1.length = 32 ∧ (climbP f p leaf n i s).2.1 ≤ p.length
  | 0, _, _, _, hs => ⟨hl, hs⟩
  | f + 1, n, i, s, hs => by
    rw [climbP]
    split
    · exact ⟨hl, hs⟩
    · split
      · exact ⟨sha_length _, (climbP_32 h hl f _ _ _ (takeP_32 h s hs).2).2⟩
      · exact ⟨sha_length _, (climbP_32 h hl f _ _ _ (takeP_32 h s hs).2).2⟩
theorem climbP_one (f : Nat) (p : List H32) (leaf : List UInt8) (i : Nat) (s : Nat × Bool) : climbP f p leaf 1 i s = (leaf, s) := by
  cases f with
  | zero => rfl
  | succ f => rw [climbP, if_pos rfl]
def climbV (Lf Tb Cb : Nat) : Value := .func (.func 80) #[] #[.pointer (some ⟨Lf, 0, none⟩), .pointer (some ⟨Tb, 0, none⟩), .pointer (some ⟨Cb, 0, none⟩)]
structure CK (w0 w : World) (Lb Mb Pb Lf Tb Cb : Nat) (v : Value) (leaf : List UInt8) (s : Nat × Bool) : Prop where
  t : TK w0 w Lb Mb Pb v s
  lf : ABox w Lf 29 (leaf.map encB)
  tb : ABox w Tb 115 [takeV Lb Mb Pb]
  cb : ABox w Cb 118 [climbV Lf Tb Cb]
  nf : ¬ TF Lb Mb Lf
  nt : ¬ TF Lb Mb Tb
  nc : ¬ TF Lb Mb Cb
section
variable {w0 w w' : World} {Lb Mb Pb Lf Tb Cb : Nat} {v : Value} {leaf : List UInt8} {s s' : Nat × Bool}
theorem CK.out (h : CK w0 w Lb Mb Pb Lf Tb Cb v leaf s) (ht : TK w0 w' Lb Mb Pb v s') (ho : Out (TF Lb Mb) w w') : CK w0 w' Lb Mb Pb Lf Tb Cb v leaf s' :=
  ⟨ht, ho.box h.lf h.nf, ho.box h.tb h.nt, ho.box h.cb h.nc, h.nf, h.nt, h.nc⟩
theorem CK.to (h : CK w0 w Lb Mb Pb Lf Tb Cb v leaf s) (hb : Below w.heap.size w w') : CK w0 w' Lb Mb Pb Lf Tb Cb v leaf s := h.out (h.t.to hb) (Out.of_below hb)
theorem CK.setRow (h : CK w0 w Lb Mb Pb Lf Tb Cb v leaf s) {R : Nat} (h1 : ¬ TF Lb Mb R) (h2 : R ≠ Pb ∧ R ≠ Lf ∧ R ≠ Tb ∧ R ≠ Cb) (h4 : w0.heap.size ≤ R) (cs : Array Value) : CK w0 (w.setRow R cs) Lb Mb Pb Lf Tb Cb v leaf s :=
  ⟨h.t.setRow (fun e => h1 (.inl e.symm)) (fun e => h1 (.inr e.symm)) (Ne.symm h2.1) h4 cs, abox_setRow h.lf (Ne.symm h2.2.1), abox_setRow h.tb (Ne.symm h2.2.2.1), abox_setRow h.cb (Ne.symm h2.2.2.2), h.nf, h.nt, h.nc⟩
end
set_option maxRecDepth 100000 in
set_option maxHeartbeats 4000000 in
theorem climb1_any (w0 w : World) (Lb Mb Pb Lf Tb Cb i : Nat) (v : Value) (leaf : List UInt8) (s : Nat × Bool) (hl : leaf.length = 32) (h : CK w0 w Lb Mb Pb Lf Tb Cb v leaf s) :
    Calls Tryd.prog 80 #[.int .i64 1, .int .i64 (i : Int), .pointer (some ⟨Lf, 0, none⟩), .pointer (some ⟨Tb, 0, none⟩), .pointer (some ⟨Cb, 0, none⟩)] w fun e w' => e = .returned (hashV leaf) ∧ TK w0 w' Lb Mb Pb v s ∧ Out (TF Lb Mb) w w' := by
  have HC0 := Lib.hid (h.to ((Below.refl w.heap.size w).alloc (Nat.le_refl _) (.cells (zer32.map encB).toArray 29)))
  have HR0 : Hid (ABox (w.alloc (.cells (zer32.map encB).toArray 29)) w.heap.size 29 (zer32.map encB)) := Lib.hid (heap_alloc_new w _)
  have HOW : Hid (Out (TF Lb Mb) w ((w.alloc (.cells (zer32.map encB).toArray 29)).setRow w.heap.size (leaf.map encB).toArray)) := Lib.hid ((Out.of_below ((Below.refl w.heap.size w).alloc (Nat.le_refl _) _)).setRow (Nat.le_refl _) _)
  have HTE : Hid (TK w0 ((w.alloc (.cells (zer32.map encB).toArray 29)).setRow w.heap.size (leaf.map encB).toArray) Lb Mb Pb v s) := Lib.hid (HC0.out.t.setRow (by have := h.t.l.lt; omega) (by have := h.t.m.lt; omega) (by have := h.t.p.lt; omega) h.t.bs _)
  have HSZ := Lib.hid (hash_size hl)
  have HC1 := Lib.hid (hash_all leaf)
  have HZ : Hid ((zer32.map encB).toArray.size = 32) := Lib.hid rfl
  have HRE : Hid (hashV leaf = .agg (leaf.map encB).toArray) := Lib.hid rfl
  have HX := Lib.hid (setRow_heap _ w.heap.size _ (leaf.map encB).toArray _ _ HR0.out)
  have hr0 := HR0.out
  have hlf := HC0.out.lf
  unfold ABox at hr0 hlf
  clear h hl
  go_enter Tryd.func80, Tryd.ntmps80
  go_upto_region 1 with (fail)
  generalize hw1 : World.alloc w _ = w1
  have hw2 : w.alloc (.cells (zer32.map encB).toArray 29) = w1 := hw1
  rw [hw2] at HC0 HR0 HOW HTE HX hr0 hlf
  clear hw1 hw2
  generalize w.heap.size = R at *
  generalize (leaf.map encB).toArray = cs at *
  generalize (zer32.map encB).toArray = zs at *
  go_wp2_with (first
    | (refine wpList_load_row rfl 29 (.tmp 2) rfl Lf ?_ 29 cs (0, 0) _ hlf Tryd.underlying29 ?_ ?_ ?_; rfl; rfl; (rw [HSZ.out]; kernel_rfl))
    | (refine wpList_store_row rfl 29 (.tmp 7) (.tmp 12) rfl R cs ?_ ?_ 29 zs hr0 (by rw [HSZ.out]; kernel_rfl) (by rw [HZ.out, HSZ.out]) HC1.out ?_; rfl; rfl)
    | fail)
  exact bodyPost_ret (v := .agg cs) (results_cell_row Tryd.results80 _ _ R _ cs (0, 0) _ rfl HX.out Tryd.underlying29 rfl (by rw [HSZ.out]; kernel_rfl)) rfl ⟨by rw [HRE.out], HTE.out, HOW.out⟩
set_option maxRecDepth 100000 in
set_option maxHeartbeats 4000000 in
theorem climb2_any (f : Nat) (w0 : World) (Lb Mb Pb Lf Tb Cb : Nat) (A : Option Addr) (c N : Nat) (p : List H32) (leaf : List UInt8) (hl : leaf.length = 32) (hK : KLaid w0)
    (hs : Sl w0 (fun b => b < w0.heap.size) A c p) (hN : p.length = N) (hN2 : N ≤ 9223372036854775807)
    (ih : ∀ (n i : Nat) (s : Nat × Bool) (w : World), 1 ≤ n → n ≤ f + 1 → n ≤ 65536 → i < n → s.1 ≤ N → CK w0 w Lb Mb Pb Lf Tb Cb (.slice A N c) leaf s →
      Calls Tryd.prog 80 #[.int .i64 (n : Int), .int .i64 (i : Int), .pointer (some ⟨Lf, 0, none⟩), .pointer (some ⟨Tb, 0, none⟩), .pointer (some ⟨Cb, 0, none⟩)] w fun e w' => e = .returned (hashV (climbP f p leaf n i s).1) ∧ TK w0 w' Lb Mb Pb (.slice A N c) (climbP f p leaf n i s).2 ∧ Out (TF Lb Mb) w w')
    (n i : Nat) (s : Nat × Bool) (w : World) (h2 : 2 ≤ n) (hf : n ≤ f + 2) (hn : n ≤ 65536) (hi : i < n) (hs1 : s.1 ≤ N) (h : CK w0 w Lb Mb Pb Lf Tb Cb (.slice A N c) leaf s) :
    Calls Tryd.prog 80 #[.int .i64 (n : Int), .int .i64 (i : Int), .pointer (some ⟨Lf, 0, none⟩), .pointer (some ⟨Tb, 0, none⟩), .pointer (some ⟨Cb, 0, none⟩)] w fun e w' => e = .returned (hashV (climbP (f + 1) p leaf n i s).1) ∧ TK w0 w' Lb Mb Pb (.slice A N c) (climbP (f + 1) p leaf n i s).2 ∧ Out (TF Lb Mb) w w' := by
  obtain ⟨_, _, h3, h4, _⟩ := splitN_bounds n h2 (by omega)
  have HSP := Lib.hid (split_any n h2 (by omega))
  have HP32 := Lib.hid (h32_len hs)
  have HI := Lib.hid ih
  have HK := Lib.hid hK
  obtain ⟨tv, s1, hts⟩ : ∃ tv s1, takeP p s = (tv, s1) := ⟨_, _, rfl⟩
  have HTV : Hid (tv.length = 32 ∧ s1.1 ≤ N) := Lib.hid (by have := takeP_32 (h32_len hs) s (by omega); rw [hts] at this; exact ⟨this.1, by have := this.2; simp only at this; omega⟩)
  have HTK : Hid (∀ W, TK w0 W Lb Mb Pb (.slice A N c) s → Calls Tryd.prog 95 #[.pointer (some ⟨Lb, 0, none⟩), .pointer (some ⟨Mb, 0, none⟩), .pointer (some ⟨Pb, 0, none⟩)] W fun e w' => e = .returned (hashV tv) ∧ TK w0 w' Lb Mb Pb (.slice A N c) s1 ∧ Out (TF Lb Mb) W w') := Lib.hid (fun W hW => by
    have := take_any w0 W Lb Mb Pb A c N p s hs hN hN2 hs1 hW
    rw [hts] at this; exact this)
  have HCL : Hid (i < splitN n → climbP (f + 1) p leaf n i s = (nodeH (climbP f p leaf (splitN n) i s1).1 tv, (climbP f p leaf (splitN n) i s1).2)) := Lib.hid (fun hik => by rw [climbP, if_neg (by omega), if_pos hik, hts])
  have HCR : Hid (¬ i < splitN n → climbP (f + 1) p leaf n i s = (nodeH tv (climbP f p leaf (n - splitN n) (i - splitN n) s1).1, (climbP f p leaf (n - splitN n) (i - splitN n) s1).2)) := Lib.hid (fun hik => by rw [climbP, if_neg (by omega), if_neg hik, hts])
  have HC32 : Hid (∀ n i, (climbP f p leaf n i s1).1.length = 32) := Lib.hid (fun n i => (climbP_32 (h32_len hs) hl f n i s1 (by have := HTV.out.2; omega)).1)
  have HCK0 := Lib.hid (h.to ((Below.refl w.heap.size w).alloc (Nat.le_refl _) (.cells (zer32.map encB).toArray 29)))
  have HR0 : Hid (ABox (w.alloc (.cells (zer32.map encB).toArray 29)) w.heap.size 29 (zer32.map encB)) := Lib.hid (heap_alloc_new w _)
  have HOU0 : Hid (Out (TF Lb Mb) w (w.alloc (.cells (zer32.map encB).toArray 29))) := Lib.hid (Out.of_below ((Below.refl w.heap.size w).alloc (Nat.le_refl _) _))
  have hRF : Hid (¬ TF Lb Mb w.heap.size) := Lib.hid (by have h1 := h.t.l.lt; have h2 := h.t.m.lt; rintro (h | h) <;> omega)
  have hRC : Hid (w.heap.size ≠ Pb ∧ w.heap.size ≠ Lf ∧ w.heap.size ≠ Tb ∧ w.heap.size ≠ Cb ∧ w0.heap.size ≤ w.heap.size) := Lib.hid ⟨by have := h.t.p.lt; omega, by have := h.lf.lt; omega, by have := h.tb.lt; omega, by have := h.cb.lt; omega, h.t.bs⟩
  have HTSZ := Lib.hid (hash_size HTV.out.1)
  have HZ : Hid ((zer32.map encB).toArray.size = 32) := Lib.hid rfl
  have HF := Lib.hid hf
  have hn1 : ((n : Int) == 1) = false := by rw [beq_eq_false_iff_ne]; omega
  clear h hs hl hK ih hts hf
  generalize splitN n = k at *
  go_enter Tryd.func80, Tryd.ntmps80
  go_upto_region 3 with (fail)
  generalize hw1 : World.alloc w _ = w1
  have hw2 : w.alloc (.cells (zer32.map encB).toArray 29) = w1 := hw1
  rw [hw2] at HCK0 HR0 HOU0
  clear hw1 hw2
  obtain ⟨R, hR⟩ : ∃ R, R = w.heap.size := ⟨_, rfl⟩
  have HRW := Lib.hid hR
  rw [← hR] at HR0 hRF hRC ⊢
  clear hR
  go_cut [8, 9] from 13 to 17 (fun k9 p9 wx => ∃ H, k9 = .int .i64 (k : Int) ∧ p9 = .pointer (some ⟨H, 0, none⟩) ∧ Hid (ABox wx H 29 (tv.map encB)) ∧ Hid (ABox wx R 29 (zer32.map encB)) ∧ Hid (CK w0 wx Lb Mb Pb Lf Tb Cb (.slice A N c) leaf s1) ∧ Hid (Out (TF Lb Mb) w wx) ∧ Hid (¬ TF Lb Mb H) ∧ Hid (H ≠ R ∧ w.heap.size ≤ H))
  case first =>
    have hb0 : Below w1.heap.size w1 w1.drew := (Below.refl _ _).drew
    have hck0 := Lib.hid (HCK0.out.to hb0)
    have hou0 := Lib.hid (HOU0.out.trans (Out.of_below (F := TF Lb Mb) hb0))
    have hR0 := Lib.hid (HR0.out.to hb0)
    have HWS : Hid (w.heap.size ≤ w1.drew.heap.size) := Lib.hid hou0.out.size
    clear hb0
    refine wp_region_D (fun w' => w'.cell? ⟨Tb, 0, none⟩ = some (takeV Lb Mb Pb)) (fun i => decide (i ≤ 4 ∧ i ≠ 3)) (by kernel_rfl) ?_
    generalize w1.drew = W0 at *
    refine wpAnyE_take (i := 0) (oi := ⟨some 13, Op.move (Operand.tmp 0), 3, _, _, _⟩) (v := ?_) rfl (by kernel_rfl) (by kernel_rfl) (by kernel_rfl) (by kernel_rfl) (by kernel_rfl) (fun _ _ _ h => h) (by rfl) ?hykr3_1 (hck0.out.tb.cell 0 rfl) ?hrkr3_1
    case hykr3_1 => (intro wS hSw; (try dsimp only at hSw); go_simp; (try with_reducible rfl))
    all_goals try simp only [Act.put, List.setIfInBounds_toArray, List.set_cons_zero, List.set_cons_succ]
    refine wpAnyE_take (i := 2) (oi := ⟨some 15, Op.load 115 (Operand.tmp 3), 115, _, _, _⟩) (v := ?_) rfl (by kernel_rfl) (by kernel_rfl) (by kernel_rfl) (by kernel_rfl) (by kernel_rfl) (fun _ _ _ h => h) (by rfl) ?hykr3_2 (hck0.out.tb.cell 0 rfl) ?hrkr3_2
    case hykr3_2 => (intro wS hSw; (try dsimp only at hSw); go_simp; (try with_reducible rfl))
    all_goals try simp only [Act.put, List.setIfInBounds_toArray, List.set_cons_zero, List.set_cons_succ]
    refine wpAnyD_two (i := 1) (j := 4) (oi := ⟨some 14, Op.call { callee := Callee.value (Operand.func 62), args := #[Operand.tmp 13], argTypes := #[3] }, 3, _, _, _⟩) (oj := ⟨some 9, Op.alloc 29, 0, _, _, _⟩) (by kernel_rfl) rfl rfl (by rfl) (by rfl) (fun K hK => ?_) (fun K hK => ?_)
    · go_simp
      go_at_call 62
      refine (HSP.out W0).mono ?_
      rintro e w9 ⟨rfl, rfl⟩
      go_simp
      refine hK _ _ (fun _ => ?_) ?_
      · exact hck0.out.tb.cell 0 rfl
      clear hK K
      try simp only [Act.put, List.setIfInBounds_toArray, List.set_cons_zero, List.set_cons_succ]
      refine wpAnyD_two (i := 3) (j := 4) (oi := ⟨some 16, Op.call { callee := Callee.value (Operand.tmp 15), args := #[], argTypes := #[] }, 29, _, _, _⟩) (oj := ⟨some 9, Op.alloc 29, 0, _, _, _⟩) (by kernel_rfl) rfl rfl (by rfl) (by rfl) (fun K hK => ?_) (fun K hK => ?_)
      · go_simp
        unfold takeV
        go_simp
        go_at_call 95
        refine (HTK.out W0 hck0.out.t).mono ?_
        rintro e W1 ⟨rfl, ht1, ho1⟩
        have hck1 := Lib.hid (hck0.out.out ht1 ho1)
        have hou1 := Lib.hid (hou0.out.trans ho1)
        have hR1 := Lib.hid (ho1.box hR0.out hRF.out)
        go_simp
        refine hK _ _ (fun h => absurd h (by decide)) ?_
        clear hK K
        try simp only [Act.put, List.setIfInBounds_toArray, List.set_cons_zero, List.set_cons_succ]
        refine wpAnyD_one (i := 4) (oi := ⟨some 9, Op.alloc 29, 0, _, _, _⟩) rfl (by kernel_rfl) (by rfl) (fun K hK => ?_)
        go_simp
        have hck2 := Lib.hid (hck1.out.to ((Below.refl W1.heap.size W1).alloc (Nat.le_refl _) (.cells (zer32.map encB).toArray 29)))
        have hou2 := Lib.hid (hou1.out.trans (Out.of_below (F := TF Lb Mb) ((Below.refl W1.heap.size W1).alloc (Nat.le_refl _) (.cells (zer32.map encB).toArray 29))))
        have hR2 := Lib.hid (hR1.out.to ((Below.refl W1.heap.size W1).alloc (Nat.le_refl _) (.cells (zer32.map encB).toArray 29)))
        have hZ2 := Lib.hid (hck1.out.t.bs)
        have hH2 : Hid (ABox (W1.alloc (.cells (zer32.map encB).toArray 29)) W1.heap.size 29 (zer32.map encB)) := Lib.hid (heap_alloc_new W1 _)
        have hHF : Hid (¬ TF Lb Mb W1.heap.size) := Lib.hid (by have h1 := hck1.out.t.l.lt; have h2 := hck1.out.t.m.lt; rintro (h | h) <;> omega)
        have hHC : Hid (W1.heap.size ≠ Pb ∧ W1.heap.size ≠ Lf ∧ W1.heap.size ≠ Tb ∧ W1.heap.size ≠ Cb) := Lib.hid ⟨by have := hck1.out.t.p.lt; omega, by have := hck1.out.lf.lt; omega, by have := hck1.out.tb.lt; omega, by have := hck1.out.cb.lt; omega⟩
        have hHR : Hid (W1.heap.size ≠ R ∧ w.heap.size ≤ W1.heap.size) := Lib.hid ⟨by have := hR1.out.lt; omega, hou1.out.size⟩
        refine hK _ _ (fun _ => ?_) ?_
        · exact hck2.out.tb.cell 0 rfl
        clear hK K
        generalize hal : World.alloc W1 _ = W2
        have hal2 : W1.alloc (.cells (zer32.map encB).toArray 29) = W2 := hal
        rw [hal2] at hck2 hou2 hR2 hH2
        clear hal hal2
        generalize W1.heap.size = H at *
        try simp only [Act.put, List.setIfInBounds_toArray, List.set_cons_zero, List.set_cons_succ]
        refine wpAnyD_one (i := 5) (oi := ⟨some 8, Op.assign (Operand.tmp 14), 3, _, _, _⟩) rfl (by kernel_rfl) (by rfl) (fun K hK => ?_)
        go_simp
        refine hK _ _ (fun h => absurd h (by decide)) ?_
        clear hK K
        try simp only [Act.put, List.setIfInBounds_toArray, List.set_cons_zero, List.set_cons_succ]
        refine wpAnyD_one (i := 6) (oi := ⟨none, Op.store 29 (Operand.tmp 9) (Operand.tmp 16), 0, _, _, _⟩) rfl (by kernel_rfl) (by rfl) (fun K hK => ?_)
        have hq := hH2.out
        unfold ABox at hq
        refine wp_store_row 29 (.tmp 9) (.tmp 16) rfl H (tv.map encB).toArray ?_ ?_ 29 (zer32.map encB).toArray hq (by rw [HTSZ.out]; kernel_rfl) (by rw [HTSZ.out]; rfl) (hash_all tv) ?_
        · rfl
        · rfl
        refine hK _ _ (fun h => absurd h (by decide)) ?_
        clear hK K
        try simp only [Act.put]
        refine wpAnyD_done (by kernel_rfl) ?_ _
        unfold Exit.then
        try go_wp2_with fail
        go_meet
        exact ⟨H, rfl, rfl, Lib.hid (setRow_heap _ H _ _ _ _ hq), Lib.hid (abox_setRow hR2.out (Ne.symm hHR.out.1)), Lib.hid (hck2.out.setRow hHF.out hHC.out (by have := hHR.out; have := hRC.out; have := HRW.out; omega) _), Lib.hid (hou2.out.setRow hHR.out.2 _), hHF, hHR⟩
      · go_simp
        have hck1 := Lib.hid (hck0.out.to ((Below.refl W0.heap.size W0).alloc (Nat.le_refl _) (.cells (zer32.map encB).toArray 29)))
        have hou1 := Lib.hid (hou0.out.trans (Out.of_below (F := TF Lb Mb) ((Below.refl W0.heap.size W0).alloc (Nat.le_refl _) (.cells (zer32.map encB).toArray 29))))
        have hR1 := Lib.hid (hR0.out.to ((Below.refl W0.heap.size W0).alloc (Nat.le_refl _) (.cells (zer32.map encB).toArray 29)))
        have hZ1 := Lib.hid (hck0.out.t.bs)
        have hH1 : Hid (ABox (W0.alloc (.cells (zer32.map encB).toArray 29)) W0.heap.size 29 (zer32.map encB)) := Lib.hid (heap_alloc_new W0 _)
        have hHF : Hid (¬ TF Lb Mb W0.heap.size) := Lib.hid (by have h1 := hck0.out.t.l.lt; have h2 := hck0.out.t.m.lt; rintro (h | h) <;> omega)
        have hHC : Hid (W0.heap.size ≠ Pb ∧ W0.heap.size ≠ Lf ∧ W0.heap.size ≠ Tb ∧ W0.heap.size ≠ Cb) := Lib.hid ⟨by have := hck0.out.t.p.lt; omega, by have := hck0.out.lf.lt; omega, by have := hck0.out.tb.lt; omega, by have := hck0.out.cb.lt; omega⟩
        have hHR : Hid (W0.heap.size ≠ R ∧ w.heap.size ≤ W0.heap.size) := Lib.hid ⟨by have := hR0.out.lt; omega, hou0.out.size⟩
        refine hK _ _ (fun _ => ?_) ?_
        · exact hck1.out.tb.cell 0 rfl
        clear hK K
        generalize hal : World.alloc W0 _ = W1
        have hal2 : W0.alloc (.cells (zer32.map encB).toArray 29) = W1 := hal
        rw [hal2] at hck1 hou1 hR1 hH1
        clear hal hal2
        generalize W0.heap.size = H at *
        try simp only [Act.put, List.setIfInBounds_toArray, List.set_cons_zero, List.set_cons_succ]
        refine wpAnyD_one (i := 3) (oi := ⟨some 16, Op.call { callee := Callee.value (Operand.tmp 15), args := #[], argTypes := #[] }, 29, _, _, _⟩) rfl (by kernel_rfl) (by rfl) (fun K hK => ?_)
        go_simp
        unfold takeV
        go_simp
        go_at_call 95
        refine (HTK.out W1 hck1.out.t).mono ?_
        rintro e W2 ⟨rfl, ht2, ho2⟩
        have hck2 := Lib.hid (hck1.out.out ht2 ho2)
        have hou2 := Lib.hid (hou1.out.trans ho2)
        have hR2 := Lib.hid (ho2.box hR1.out hRF.out)
        have hH2 := Lib.hid (ho2.box hH1.out hHF.out)
        go_simp
        refine hK _ _ (fun h => absurd h (by decide)) ?_
        clear hK K
        try simp only [Act.put, List.setIfInBounds_toArray, List.set_cons_zero, List.set_cons_succ]
        refine wpAnyD_one (i := 5) (oi := ⟨some 8, Op.assign (Operand.tmp 14), 3, _, _, _⟩) rfl (by kernel_rfl) (by rfl) (fun K hK => ?_)
        go_simp
        refine hK _ _ (fun h => absurd h (by decide)) ?_
        clear hK K
        try simp only [Act.put, List.setIfInBounds_toArray, List.set_cons_zero, List.set_cons_succ]
        refine wpAnyD_one (i := 6) (oi := ⟨none, Op.store 29 (Operand.tmp 9) (Operand.tmp 16), 0, _, _, _⟩) rfl (by kernel_rfl) (by rfl) (fun K hK => ?_)
        have hq := hH2.out
        unfold ABox at hq
        refine wp_store_row 29 (.tmp 9) (.tmp 16) rfl H (tv.map encB).toArray ?_ ?_ 29 (zer32.map encB).toArray hq (by rw [HTSZ.out]; kernel_rfl) (by rw [HTSZ.out]; rfl) (hash_all tv) ?_
        · rfl
        · rfl
        refine hK _ _ (fun h => absurd h (by decide)) ?_
        clear hK K
        try simp only [Act.put]
        refine wpAnyD_done (by kernel_rfl) ?_ _
        unfold Exit.then
        try go_wp2_with fail
        go_meet
        exact ⟨H, rfl, rfl, Lib.hid (setRow_heap _ H _ _ _ _ hq), Lib.hid (abox_setRow hR2.out (Ne.symm hHR.out.1)), Lib.hid (hck2.out.setRow hHF.out hHC.out (by have := hHR.out; have := hRC.out; have := HRW.out; omega) _), Lib.hid (hou2.out.setRow hHR.out.2 _), hHF, hHR⟩
    · go_simp
      have hck1 := Lib.hid (hck0.out.to ((Below.refl W0.heap.size W0).alloc (Nat.le_refl _) (.cells (zer32.map encB).toArray 29)))
      have hou1 := Lib.hid (hou0.out.trans (Out.of_below (F := TF Lb Mb) ((Below.refl W0.heap.size W0).alloc (Nat.le_refl _) (.cells (zer32.map encB).toArray 29))))
      have hR1 := Lib.hid (hR0.out.to ((Below.refl W0.heap.size W0).alloc (Nat.le_refl _) (.cells (zer32.map encB).toArray 29)))
      have hZ1 := Lib.hid (hck0.out.t.bs)
      have hH1 : Hid (ABox (W0.alloc (.cells (zer32.map encB).toArray 29)) W0.heap.size 29 (zer32.map encB)) := Lib.hid (heap_alloc_new W0 _)
      have hHF : Hid (¬ TF Lb Mb W0.heap.size) := Lib.hid (by have h1 := hck0.out.t.l.lt; have h2 := hck0.out.t.m.lt; rintro (h | h) <;> omega)
      have hHC : Hid (W0.heap.size ≠ Pb ∧ W0.heap.size ≠ Lf ∧ W0.heap.size ≠ Tb ∧ W0.heap.size ≠ Cb) := Lib.hid ⟨by have := hck0.out.t.p.lt; omega, by have := hck0.out.lf.lt; omega, by have := hck0.out.tb.lt; omega, by have := hck0.out.cb.lt; omega⟩
      have hHR : Hid (W0.heap.size ≠ R ∧ w.heap.size ≤ W0.heap.size) := Lib.hid ⟨by have := hR0.out.lt; omega, hou0.out.size⟩
      refine hK _ _ (fun _ => ?_) ?_
      · exact hck1.out.tb.cell 0 rfl
      clear hK K
      generalize hal : World.alloc W0 _ = W1
      have hal2 : W0.alloc (.cells (zer32.map encB).toArray 29) = W1 := hal
      rw [hal2] at hck1 hou1 hR1 hH1
      clear hal hal2
      generalize W0.heap.size = H at *
      try simp only [Act.put, List.setIfInBounds_toArray, List.set_cons_zero, List.set_cons_succ]
      refine wpAnyD_one (i := 1) (oi := ⟨some 14, Op.call { callee := Callee.value (Operand.func 62), args := #[Operand.tmp 13], argTypes := #[3] }, 3, _, _, _⟩) rfl (by kernel_rfl) (by rfl) (fun K hK => ?_)
      go_simp
      go_at_call 62
      refine (HSP.out W1).mono ?_
      rintro e w9 ⟨rfl, rfl⟩
      go_simp
      refine hK _ _ (fun _ => ?_) ?_
      · exact hck1.out.tb.cell 0 rfl
      clear hK K
      try simp only [Act.put, List.setIfInBounds_toArray, List.set_cons_zero, List.set_cons_succ]
      refine wpAnyD_one (i := 3) (oi := ⟨some 16, Op.call { callee := Callee.value (Operand.tmp 15), args := #[], argTypes := #[] }, 29, _, _, _⟩) rfl (by kernel_rfl) (by rfl) (fun K hK => ?_)
      go_simp
      unfold takeV
      go_simp
      go_at_call 95
      refine (HTK.out W1 hck1.out.t).mono ?_
      rintro e W2 ⟨rfl, ht2, ho2⟩
      have hck2 := Lib.hid (hck1.out.out ht2 ho2)
      have hou2 := Lib.hid (hou1.out.trans ho2)
      have hR2 := Lib.hid (ho2.box hR1.out hRF.out)
      have hH2 := Lib.hid (ho2.box hH1.out hHF.out)
      go_simp
      refine hK _ _ (fun h => absurd h (by decide)) ?_
      clear hK K
      try simp only [Act.put, List.setIfInBounds_toArray, List.set_cons_zero, List.set_cons_succ]
      refine wpAnyD_one (i := 5) (oi := ⟨some 8, Op.assign (Operand.tmp 14), 3, _, _, _⟩) rfl (by kernel_rfl) (by rfl) (fun K hK => ?_)
      go_simp
      refine hK _ _ (fun h => absurd h (by decide)) ?_
      clear hK K
      try simp only [Act.put, List.setIfInBounds_toArray, List.set_cons_zero, List.set_cons_succ]
      refine wpAnyD_one (i := 6) (oi := ⟨none, Op.store 29 (Operand.tmp 9) (Operand.tmp 16), 0, _, _, _⟩) rfl (by kernel_rfl) (by rfl) (fun K hK => ?_)
      have hq := hH2.out
      unfold ABox at hq
      refine wp_store_row 29 (.tmp 9) (.tmp 16) rfl H (tv.map encB).toArray ?_ ?_ 29 (zer32.map encB).toArray hq (by rw [HTSZ.out]; kernel_rfl) (by rw [HTSZ.out]; rfl) (hash_all tv) ?_
      · rfl
      · rfl
      refine hK _ _ (fun h => absurd h (by decide)) ?_
      clear hK K
      try simp only [Act.put]
      refine wpAnyD_done (by kernel_rfl) ?_ _
      unfold Exit.then
      try go_wp2_with fail
      go_meet
      exact ⟨H, rfl, rfl, Lib.hid (setRow_heap _ H _ _ _ _ hq), Lib.hid (abox_setRow hR2.out (Ne.symm hHR.out.1)), Lib.hid (hck2.out.setRow hHF.out hHC.out (by have := hHR.out; have := hRC.out; have := HRW.out; omega) _), Lib.hid (hou2.out.setRow hHR.out.2 _), hHF, hHR⟩
  case rest =>
    obtain ⟨H, rfl, rfl, HHB, HRB, HCK, HOU, HHF, HHR⟩ := hcut
    have HF1 := HF.out
    by_cases hik : i < k
    · have hik' : (i : Int) < (k : Int) := by omega
      obtain ⟨cv, s2, hcs⟩ : ∃ cv s2, climbP f p leaf k i s1 = (cv, s2) := ⟨_, _, rfl⟩
      have HCE : Hid (climbP (f + 1) p leaf n i s = (nodeH cv tv, s2)) := Lib.hid (by rw [HCL.out hik, hcs])
      have HC32 : Hid (∀ _ _ : Nat, cv.length = 32) := Lib.hid (fun _ _ => by have := HC32.out k i; rw [hcs] at this; exact this)
      have HCLI : Hid (∀ W, CK w0 W Lb Mb Pb Lf Tb Cb (.slice A N c) leaf s1 → Calls Tryd.prog 80 #[.int .i64 (k : Int), .int .i64 (i : Int), .pointer (some ⟨Lf, 0, none⟩), .pointer (some ⟨Tb, 0, none⟩), .pointer (some ⟨Cb, 0, none⟩)] W fun e w' => e = .returned (hashV cv) ∧ TK w0 w' Lb Mb Pb (.slice A N c) s2 ∧ Out (TF Lb Mb) W w') := Lib.hid (fun W hW => by
        have := HI.out k i s1 W (by omega) (by omega) (by omega) hik HTV.out.2 hW
        rw [hcs] at this; exact this)
      clear hcs HI HCL HCR HTK HSP
      go_upto_region 5 with (fail)
      refine wp_region_D (fun w' => w'.cell? ⟨Cb, 0, none⟩ = some (climbV Lf Tb Cb) ∧ w'.heap[H]? = some (.cells (tv.map encB).toArray 29 (0, 0))) (fun i => decide (i < 5)) (by kernel_rfl) ?_
      have hb0 : Below wc.heap.size wc wc.drew := (Below.refl _ _).drew
      have hck0 := Lib.hid (HCK.out.to hb0)
      have hou0 := Lib.hid (HOU.out.trans (Out.of_below (F := TF Lb Mb) hb0))
      have hR0 := Lib.hid (HRB.out.to hb0)
      have hH0 := Lib.hid (HHB.out.to hb0)
      clear hb0
      generalize wc.drew = W0 at *
      refine wpAnyE_take (i := 0) (oi := ⟨some 20, Op.load 118 (Operand.tmp 4), 118, _, _, _⟩) (v := ?_) rfl (by kernel_rfl) (by kernel_rfl) (by kernel_rfl) (by kernel_rfl) (by kernel_rfl) (fun _ _ _ h => h) (by rfl) ?hykr5_1 (⟨hck0.out.cb.cell 0 rfl, hH0.out⟩) ?hrkr5_1
      case hykr5_1 => (intro wS hSw; (try dsimp only at hSw); go_simp; (try with_reducible rfl))
      all_goals try simp only [Act.put, List.setIfInBounds_toArray, List.set_cons_zero, List.set_cons_succ]
      refine wpAnyE_take (i := 1) (oi := ⟨some 21, Op.move (Operand.tmp 8), 3, _, _, _⟩) (v := ?_) rfl (by kernel_rfl) (by kernel_rfl) (by kernel_rfl) (by kernel_rfl) (by kernel_rfl) (fun _ _ _ h => h) (by rfl) ?hykr5_2 (⟨hck0.out.cb.cell 0 rfl, hH0.out⟩) ?hrkr5_2
      case hykr5_2 => (intro wS hSw; (try dsimp only at hSw); go_simp; (try with_reducible rfl))
      all_goals try simp only [Act.put, List.setIfInBounds_toArray, List.set_cons_zero, List.set_cons_succ]
      refine wpAnyE_take (i := 2) (oi := ⟨some 22, Op.move (Operand.tmp 1), 3, _, _, _⟩) (v := ?_) rfl (by kernel_rfl) (by kernel_rfl) (by kernel_rfl) (by kernel_rfl) (by kernel_rfl) (fun _ _ _ h => h) (by rfl) ?hykr5_3 (⟨hck0.out.cb.cell 0 rfl, hH0.out⟩) ?hrkr5_3
      case hykr5_3 => (intro wS hSw; (try dsimp only at hSw); go_simp; (try with_reducible rfl))
      all_goals try simp only [Act.put, List.setIfInBounds_toArray, List.set_cons_zero, List.set_cons_succ]
      refine wpAnyE_take (i := 4) (oi := ⟨some 24, Op.load 29 (Operand.tmp 9), 29, _, _, _⟩) (v := ?_) rfl (by kernel_rfl) (by kernel_rfl) (by kernel_rfl) (by kernel_rfl) (by kernel_rfl) (fun _ _ _ h => h) (by rfl) ?hykr5_4 (⟨hck0.out.cb.cell 0 rfl, hH0.out⟩) ?hrkr5_4
      case hykr5_4 => (intro wS hSw; refine exec_load_row 29 (.tmp 9) ?_ H ?_ 29 (tv.map encB).toArray (0, 0) _ hSw.2 Tryd.underlying29 ?_ ?_; rfl; rfl; rfl; (rw [HTSZ.out]; kernel_rfl))
      all_goals try simp only [Act.put, List.setIfInBounds_toArray, List.set_cons_zero, List.set_cons_succ]
      refine wpAnyD_one (i := 3) (oi := ⟨some 23, Op.call { callee := Callee.value (Operand.tmp 20), args := #[Operand.tmp 21, Operand.tmp 22], argTypes := #[3, 3] }, 29, _, _, _⟩) rfl (by kernel_rfl) (by rfl) (fun K hK => ?_)
      go_simp
      unfold climbV
      go_simp
      go_at_call 80
      refine (HCLI.out W0 hck0.out).mono ?_
      rintro e W2 ⟨rfl, ht2, ho2⟩
      have hck2 := Lib.hid (hck0.out.out ht2 ho2)
      have hou2 := Lib.hid (hou0.out.trans ho2)
      have hR2 := Lib.hid (ho2.box hR0.out hRF.out)
      have hH2 := Lib.hid (ho2.box hH0.out HHF.out)
      go_simp
      refine hK _ _ (fun _ => ?_) ?_
      · exact ⟨hck2.out.cb.cell 0 rfl, hH2.out⟩
      clear hK K
      try simp only [Act.put, List.setIfInBounds_toArray, List.set_cons_zero, List.set_cons_succ]
      refine wpAnyD_one (i := 5) (oi := ⟨some 25, Op.call { callee := Callee.value (Operand.func 45), args := #[Operand.tmp 23, Operand.tmp 24], argTypes := #[29, 29] }, 29, _, _, _⟩) rfl (by kernel_rfl) (by rfl) (fun K hK => ?_)
      go_simp
      go_at_call 45
      refine (node_any cv tv (HC32.out 0 0) HTV.out.1 W2 (HK.out.to hck2.out.t.b)).mono ?_
      rintro e W3 ⟨rfl, hb3⟩
      have hck3 := Lib.hid (hck2.out.to hb3)
      have hou3 := Lib.hid (hou2.out.trans (Out.of_below (F := TF Lb Mb) hb3))
      have hR3 := Lib.hid (hR2.out.to hb3)
      go_simp
      refine hK _ _ (fun h => absurd h (by decide)) ?_
      clear hK K
      try simp only [Act.put, List.setIfInBounds_toArray, List.set_cons_zero, List.set_cons_succ]
      refine wpAnyD_one (i := 6) (oi := ⟨none, Op.store 29 (Operand.tmp 7) (Operand.tmp 25), 0, _, _, _⟩) rfl (by kernel_rfl) (by rfl) (fun K hK => ?_)
      have hq := hR3.out
      unfold ABox at hq
      have HQS := Lib.hid (hash_size (show (nodeH cv tv).length = 32 from sha_length _))
      refine wp_store_row 29 (.tmp 7) (.tmp 25) rfl R ((nodeH cv tv).map encB).toArray ?_ ?_ 29 (zer32.map encB).toArray hq (by rw [HQS.out]; kernel_rfl) (by rw [HQS.out]; rfl) (hash_all _) ?_
      · rfl
      · rfl
      refine hK _ _ (fun h => absurd h (by decide)) ?_
      clear hK K
      try simp only [Act.put]
      refine wpAnyD_done (by kernel_rfl) ?_ _
      unfold Exit.then
      go_wp2_with fail
      have HX := Lib.hid (setRow_heap _ R _ ((nodeH cv tv).map encB).toArray _ _ hq)
      exact bodyPost_ret (v := .agg ((nodeH cv tv).map encB).toArray) (results_cell_row Tryd.results80 _ _ R _ _ (0, 0) _ rfl HX.out Tryd.underlying29 rfl (by rw [HQS.out]; kernel_rfl)) rfl ⟨by rw [HCE.out]; rfl, by rw [HCE.out]; exact (hck3.out.setRow hRF.out ⟨hRC.out.1, hRC.out.2.1, hRC.out.2.2.1, hRC.out.2.2.2.1⟩ hRC.out.2.2.2.2 _).t, hou3.out.setRow (by have := HRW.out; omega) _⟩
    · have hik' : ¬ (i : Int) < (k : Int) := by omega
      obtain ⟨cv, s2, hcs⟩ : ∃ cv s2, climbP f p leaf (n - k) (i - k) s1 = (cv, s2) := ⟨_, _, rfl⟩
      have HCE : Hid (climbP (f + 1) p leaf n i s = (nodeH tv cv, s2)) := Lib.hid (by rw [HCR.out hik, hcs])
      have HC32 : Hid (∀ _ _ : Nat, cv.length = 32) := Lib.hid (fun _ _ => by have := HC32.out (n - k) (i - k); rw [hcs] at this; exact this)
      have HCLI : Hid (∀ W, CK w0 W Lb Mb Pb Lf Tb Cb (.slice A N c) leaf s1 → Calls Tryd.prog 80 #[.int .i64 ((n : Int) - (k : Int)), .int .i64 ((i : Int) - (k : Int)), .pointer (some ⟨Lf, 0, none⟩), .pointer (some ⟨Tb, 0, none⟩), .pointer (some ⟨Cb, 0, none⟩)] W fun e w' => e = .returned (hashV cv) ∧ TK w0 w' Lb Mb Pb (.slice A N c) s2 ∧ Out (TF Lb Mb) W w') := Lib.hid (fun W hW => by
        have := HI.out (n - k) (i - k) s1 W (by omega) (by omega) (by omega) (by omega) HTV.out.2 hW
        rw [hcs, show ((n - k : Nat) : Int) = (n : Int) - (k : Int) by omega, show ((i - k : Nat) : Int) = (i : Int) - (k : Int) by omega] at this; exact this)
      have hw1 : IntKind.i64.wrap ((n : Int) - (k : Int)) = (n : Int) - (k : Int) := by rw [IntWalk.i64_in _ (by omega)]
      have hw2 : IntKind.i64.wrap ((i : Int) - (k : Int)) = (i : Int) - (k : Int) := by rw [IntWalk.i64_in _ (by omega)]
      clear hcs HI HCL HCR HTK HSP
      go_upto_region 6 with (fail)
      refine wp_region_D (fun w' => w'.cell? ⟨Cb, 0, none⟩ = some (climbV Lf Tb Cb) ∧ w'.heap[H]? = some (.cells (tv.map encB).toArray 29 (0, 0))) (fun i => decide (i < 9)) (by kernel_rfl) ?_
      have hb0 : Below wc.heap.size wc wc.drew := (Below.refl _ _).drew
      have hck0 := Lib.hid (HCK.out.to hb0)
      have hou0 := Lib.hid (HOU.out.trans (Out.of_below (F := TF Lb Mb) hb0))
      have hR0 := Lib.hid (HRB.out.to hb0)
      have hH0 := Lib.hid (HHB.out.to hb0)
      clear hb0
      generalize wc.drew = W0 at *
      refine wpAnyE_take (i := 0) (oi := ⟨some 26, Op.load 29 (Operand.tmp 9), 29, _, _, _⟩) (v := ?_) rfl (by kernel_rfl) (by kernel_rfl) (by kernel_rfl) (by kernel_rfl) (by kernel_rfl) (fun _ _ _ h => h) (by rfl) ?hykr6_1 (⟨hck0.out.cb.cell 0 rfl, hH0.out⟩) ?hrkr6_1
      case hykr6_1 => (intro wS hSw; refine exec_load_row 29 (.tmp 9) ?_ H ?_ 29 (tv.map encB).toArray (0, 0) _ hSw.2 Tryd.underlying29 ?_ ?_; rfl; rfl; rfl; (rw [HTSZ.out]; kernel_rfl))
      all_goals try simp only [Act.put, List.setIfInBounds_toArray, List.set_cons_zero, List.set_cons_succ]
      refine wpAnyE_take (i := 1) (oi := ⟨some 27, Op.load 118 (Operand.tmp 4), 118, _, _, _⟩) (v := ?_) rfl (by kernel_rfl) (by kernel_rfl) (by kernel_rfl) (by kernel_rfl) (by kernel_rfl) (fun _ _ _ h => h) (by rfl) ?hykr6_2 (⟨hck0.out.cb.cell 0 rfl, hH0.out⟩) ?hrkr6_2
      case hykr6_2 => (intro wS hSw; (try dsimp only at hSw); go_simp; (try with_reducible rfl))
      all_goals try simp only [Act.put, List.setIfInBounds_toArray, List.set_cons_zero, List.set_cons_succ]
      refine wpAnyE_take (i := 2) (oi := ⟨some 28, Op.move (Operand.tmp 0), 3, _, _, _⟩) (v := ?_) rfl (by kernel_rfl) (by kernel_rfl) (by kernel_rfl) (by kernel_rfl) (by kernel_rfl) (fun _ _ _ h => h) (by rfl) ?hykr6_3 (⟨hck0.out.cb.cell 0 rfl, hH0.out⟩) ?hrkr6_3
      case hykr6_3 => (intro wS hSw; (try dsimp only at hSw); go_simp; (try with_reducible rfl))
      all_goals try simp only [Act.put, List.setIfInBounds_toArray, List.set_cons_zero, List.set_cons_succ]
      refine wpAnyE_take (i := 3) (oi := ⟨some 29, Op.move (Operand.tmp 8), 3, _, _, _⟩) (v := ?_) rfl (by kernel_rfl) (by kernel_rfl) (by kernel_rfl) (by kernel_rfl) (by kernel_rfl) (fun _ _ _ h => h) (by rfl) ?hykr6_4 (⟨hck0.out.cb.cell 0 rfl, hH0.out⟩) ?hrkr6_4
      case hykr6_4 => (intro wS hSw; (try dsimp only at hSw); go_simp; (try with_reducible rfl))
      all_goals try simp only [Act.put, List.setIfInBounds_toArray, List.set_cons_zero, List.set_cons_succ]
      refine wpAnyE_take (i := 4) (oi := ⟨some 30, Op.binOp BinOp.sub 3 (Operand.tmp 28) (Operand.tmp 29) 3, 3, _, _, _⟩) (v := ?_) rfl (by kernel_rfl) (by kernel_rfl) (by kernel_rfl) (by kernel_rfl) (by kernel_rfl) (fun _ _ _ h => h) (by rfl) ?hykr6_5 (⟨hck0.out.cb.cell 0 rfl, hH0.out⟩) ?hrkr6_5
      case hykr6_5 => (intro wS hSw; (try dsimp only at hSw); go_simp; (try with_reducible rfl))
      all_goals try simp only [Act.put, List.setIfInBounds_toArray, List.set_cons_zero, List.set_cons_succ]
      refine wpAnyE_take (i := 5) (oi := ⟨some 31, Op.move (Operand.tmp 1), 3, _, _, _⟩) (v := ?_) rfl (by kernel_rfl) (by kernel_rfl) (by kernel_rfl) (by kernel_rfl) (by kernel_rfl) (fun _ _ _ h => h) (by rfl) ?hykr6_6 (⟨hck0.out.cb.cell 0 rfl, hH0.out⟩) ?hrkr6_6
      case hykr6_6 => (intro wS hSw; (try dsimp only at hSw); go_simp; (try with_reducible rfl))
      all_goals try simp only [Act.put, List.setIfInBounds_toArray, List.set_cons_zero, List.set_cons_succ]
      refine wpAnyE_take (i := 6) (oi := ⟨some 32, Op.move (Operand.tmp 8), 3, _, _, _⟩) (v := ?_) rfl (by kernel_rfl) (by kernel_rfl) (by kernel_rfl) (by kernel_rfl) (by kernel_rfl) (fun _ _ _ h => h) (by rfl) ?hykr6_7 (⟨hck0.out.cb.cell 0 rfl, hH0.out⟩) ?hrkr6_7
      case hykr6_7 => (intro wS hSw; (try dsimp only at hSw); go_simp; (try with_reducible rfl))
      all_goals try simp only [Act.put, List.setIfInBounds_toArray, List.set_cons_zero, List.set_cons_succ]
      refine wpAnyE_take (i := 7) (oi := ⟨some 33, Op.binOp BinOp.sub 3 (Operand.tmp 31) (Operand.tmp 32) 3, 3, _, _, _⟩) (v := ?_) rfl (by kernel_rfl) (by kernel_rfl) (by kernel_rfl) (by kernel_rfl) (by kernel_rfl) (fun _ _ _ h => h) (by rfl) ?hykr6_8 (⟨hck0.out.cb.cell 0 rfl, hH0.out⟩) ?hrkr6_8
      case hykr6_8 => (intro wS hSw; (try dsimp only at hSw); go_simp; (try with_reducible rfl))
      all_goals try simp only [Act.put, List.setIfInBounds_toArray, List.set_cons_zero, List.set_cons_succ]
      refine wpAnyD_one (i := 8) (oi := ⟨some 34, Op.call { callee := Callee.value (Operand.tmp 27), args := #[Operand.tmp 30, Operand.tmp 33], argTypes := #[3, 3] }, 29, _, _, _⟩) rfl (by kernel_rfl) (by rfl) (fun K hK => ?_)
      go_simp
      unfold climbV
      go_simp
      go_at_call 80
      refine (HCLI.out W0 hck0.out).mono ?_
      rintro e W2 ⟨rfl, ht2, ho2⟩
      have hck2 := Lib.hid (hck0.out.out ht2 ho2)
      have hou2 := Lib.hid (hou0.out.trans ho2)
      have hR2 := Lib.hid (ho2.box hR0.out hRF.out)
      have hH2 := Lib.hid (ho2.box hH0.out HHF.out)
      go_simp
      refine hK _ _ (fun _ => ?_) ?_
      · exact ⟨hck2.out.cb.cell 0 rfl, hH2.out⟩
      clear hK K
      try simp only [Act.put, List.setIfInBounds_toArray, List.set_cons_zero, List.set_cons_succ]
      refine wpAnyD_one (i := 9) (oi := ⟨some 35, Op.call { callee := Callee.value (Operand.func 45), args := #[Operand.tmp 26, Operand.tmp 34], argTypes := #[29, 29] }, 29, _, _, _⟩) rfl (by kernel_rfl) (by rfl) (fun K hK => ?_)
      go_simp
      go_at_call 45
      refine (node_any tv cv HTV.out.1 (HC32.out 0 0) W2 (HK.out.to hck2.out.t.b)).mono ?_
      rintro e W3 ⟨rfl, hb3⟩
      have hck3 := Lib.hid (hck2.out.to hb3)
      have hou3 := Lib.hid (hou2.out.trans (Out.of_below (F := TF Lb Mb) hb3))
      have hR3 := Lib.hid (hR2.out.to hb3)
      go_simp
      refine hK _ _ (fun h => absurd h (by decide)) ?_
      clear hK K
      try simp only [Act.put, List.setIfInBounds_toArray, List.set_cons_zero, List.set_cons_succ]
      refine wpAnyD_one (i := 10) (oi := ⟨none, Op.store 29 (Operand.tmp 7) (Operand.tmp 35), 0, _, _, _⟩) rfl (by kernel_rfl) (by rfl) (fun K hK => ?_)
      have hq := hR3.out
      unfold ABox at hq
      have HQS := Lib.hid (hash_size (show (nodeH tv cv).length = 32 from sha_length _))
      refine wp_store_row 29 (.tmp 7) (.tmp 35) rfl R ((nodeH tv cv).map encB).toArray ?_ ?_ 29 (zer32.map encB).toArray hq (by rw [HQS.out]; kernel_rfl) (by rw [HQS.out]; rfl) (hash_all _) ?_
      · rfl
      · rfl
      refine hK _ _ (fun h => absurd h (by decide)) ?_
      clear hK K
      try simp only [Act.put]
      refine wpAnyD_done (by kernel_rfl) ?_ _
      unfold Exit.then
      go_wp2_with fail
      have HX := Lib.hid (setRow_heap _ R _ ((nodeH tv cv).map encB).toArray _ _ hq)
      exact bodyPost_ret (v := .agg ((nodeH tv cv).map encB).toArray) (results_cell_row Tryd.results80 _ _ R _ _ (0, 0) _ rfl HX.out Tryd.underlying29 rfl (by rw [HQS.out]; kernel_rfl)) rfl ⟨by rw [HCE.out]; rfl, by rw [HCE.out]; exact (hck3.out.setRow hRF.out ⟨hRC.out.1, hRC.out.2.1, hRC.out.2.2.1, hRC.out.2.2.2.1⟩ hRC.out.2.2.2.2 _).t, hou3.out.setRow (by have := HRW.out; omega) _⟩
end Go.Proofs.YthcklfelofpffaaDoor
namespace Go.Proofs.YthcklfelofpffaaDoor
open Go.RowKit
section
variable {P : Program} {ops : Array Oper} {Q : Exit → Act → World → Prop} {md : Region.Mode} {S : World → Prop} {hd : Nat → Bool}
/-- One that is not wanted is passed over. -/
theorem wpAnyD_skip {i : Nat} {oi : Oper} {fuel : Nat} {listed : Array Bool} {a : Act} {w : World} (hi : ops[i]? = some oi) (hr : Region.ready md ops listed = [i]) (hw : Region.wanted oi (yielded ops a.tmps) = false) (hS : hd i = true → S w)
    (h : wpAnyD P md ops Q S hd fuel (listed.setIfInBounds i true) (a.put oi.dst undef) w) : wpAnyD P md ops Q S hd (fuel + 1) listed a w := by
  refine ⟨fun h0 => (by rw [hr] at h0; cases h0), fun j hj => ?_⟩
  rw [hr, List.mem_singleton] at hj
  subst hj
  unfold wpOp
  simp only [hi, hw, Bool.false_eq_true, if_false]
  exact ⟨hS, h⟩
end
/-- Two hash values compared. -/
theorem wp_eqlH {o : Oper} {a : Act} {K : Act → World → Prop} {Q : Exit → Act → World → Prop} {w : World} (x y : Operand) (ho : o.op = .binOp .eql 29 x y 29) (l m : List UInt8) (hx : a.eval x = hashV l) (hy : a.eval y = hashV m) (hl : l.length = 32) (hm : m.length = 32)
    (h : K (a.put o.dst (.bool (decide (l = m)))) w) : o.wp Tryd.prog a w K Q := by
  have h1 := run_hash_eql l m hl hm w
  have hq : (execOp a.eval o).run Tryd.prog w = .ok (.value (.bool (decide (l = m)))) w := by
    unfold execOp
    unfold hashV at hx hy
    simp only [ho, hx, hy, Sem.run_bind, run_eqGuard_agg w .eql 29 x y _ _ guard_h, h1, Result.andThen_ok, Sem.run_pure]
  unfold Oper.wp
  rw [hq]
  exact h
def incRes (cv root : List UInt8) (s : Nat × Bool) : Bool := decide (cv = root) && decide (s = (0, false))
/-- Whether a path proves that a leaf is the one with an index. -/
def includesP (root : List UInt8) (n i : Int) (leaf : List UInt8) (p : List H32) : Bool :=
  decide (0 ≤ i ∧ i < n ∧ n ≤ 65536) && incRes (climbP n.toNat p leaf n.toNat i.toNat (p.length, false)).1 root (climbP n.toNat p leaf n.toNat i.toNat (p.length, false)).2
theorem climb_any (w0 : World) (Lb Mb Pb Lf Tb Cb : Nat) (A : Option Addr) (c N : Nat) (p : List H32) (leaf : List UInt8) (hl : leaf.length = 32) (hK : KLaid w0)
    (hs : Sl w0 (fun b => b < w0.heap.size) A c p) (hN : p.length = N) (hN2 : N ≤ 9223372036854775807) : ∀ (f n i : Nat) (s : Nat × Bool) (w : World), 1 ≤ n → n ≤ f + 1 → n ≤ 65536 → i < n → s.1 ≤ N → CK w0 w Lb Mb Pb Lf Tb Cb (.slice A N c) leaf s →
      Calls Tryd.prog 80 #[.int .i64 (n : Int), .int .i64 (i : Int), .pointer (some ⟨Lf, 0, none⟩), .pointer (some ⟨Tb, 0, none⟩), .pointer (some ⟨Cb, 0, none⟩)] w fun e w' => e = .returned (hashV (climbP f p leaf n i s).1) ∧ TK w0 w' Lb Mb Pb (.slice A N c) (climbP f p leaf n i s).2 ∧ Out (TF Lb Mb) w w' := by
  intro f
  induction f with
  | zero =>
    intro n i s w h1 h2 _ _ hs1 h
    obtain rfl : n = 1 := by omega
    rw [climbP_one]
    exact climb1_any w0 w Lb Mb Pb Lf Tb Cb i _ leaf s hl h
  | succ f ih =>
    intro n i s w h1 h2 h3 h4 hs1 h
    by_cases hn : n = 1
    · subst hn
      rw [climbP_one]
      exact climb1_any w0 w Lb Mb Pb Lf Tb Cb i _ leaf s hl h
    · exact climb2_any f w0 Lb Mb Pb Lf Tb Cb A c N p leaf hl hK hs hN hN2 ih n i s w (by omega) h2 h3 h4 hs1 h
set_option maxRecDepth 100000 in
set_option maxHeartbeats 4000000 in
theorem includes_no (root leaf : List UInt8) (n i : Int) (A : Option Addr) (c N : Nat) (p : List H32) (w : World) (h : ¬ (0 ≤ i ∧ i < n ∧ n ≤ 65536)) :
    Calls Tryd.prog 54 #[hashV root, .int .i64 n, .int .i64 i, hashV leaf, .slice A N c] w fun e w' => e = .returned (.bool (includesP root n i leaf p)) ∧ Below w.heap.size w w' := by
  have HE : Hid (includesP root n i leaf p = false) := Lib.hid (by unfold includesP; rw [decide_eq_false h]; rfl)
  have HB : Hid (Below w.heap.size w ((w.alloc (.cells (root.map encB).toArray 29)).alloc (.cells (leaf.map encB).toArray 29))) := Lib.hid (((Below.refl _ _).alloc (Nat.le_refl _) _).alloc (by simp) _)
  unfold hashV
  generalize (root.map encB).toArray = rs at *
  generalize (leaf.map encB).toArray = ls at *
  by_cases h1 : i < 0
  · go_enter Tryd.func54, Tryd.ntmps54
    go_wp2_with fail
    go_ret
    exact ⟨ret_bool HE.out.symm, HB.out⟩
  · by_cases h2 : n ≤ i
    · go_enter Tryd.func54, Tryd.ntmps54
      go_wp2_with fail
      go_ret
      exact ⟨ret_bool HE.out.symm, HB.out⟩
    · have h3 : 65536 < n := by omega
      go_enter Tryd.func54, Tryd.ntmps54
      go_wp2_with fail
      go_ret
      exact ⟨ret_bool HE.out.symm, HB.out⟩
set_option maxRecDepth 100000 in
set_option maxHeartbeats 4000000 in
theorem includes_yes (root leaf : List UInt8) (hr : root.length = 32) (hl : leaf.length = 32) (n i : Nat) (A : Option Addr) (c N : Nat) (p : List H32) (w : World) (hi : i < n) (hn : n ≤ 65536) (hs : Sl w (fun b => b < w.heap.size) A c p) (hN : p.length = N) (hN2 : N ≤ 9223372036854775807) (hK : KLaid w) :
    Calls Tryd.prog 54 #[hashV root, .int .i64 (n : Int), .int .i64 (i : Int), hashV leaf, .slice A N c] w fun e w' => e = .returned (.bool (incRes (climbP n p leaf n i (N, false)).1 root (climbP n p leaf n i (N, false)).2)) ∧ Below w.heap.size w w' := by
  have HRL := Lib.hid hr
  have HRSZ := Lib.hid (hash_size hr)
  have HS := Lib.hid hs
  have HK := Lib.hid hK
  have HI := Lib.hid hi
  have HN := Lib.hid hN
  have HLL := Lib.hid hl
  have h1 : ¬ (i : Int) < 0 := by omega
  have h2 : ¬ n ≤ i := by omega
  have h3 : ¬ (65536 : Int) < (n : Int) := by omega
  obtain ⟨cv, s2, hcs⟩ : ∃ cv s2, climbP n p leaf n i (N, false) = (cv, s2) := ⟨_, _, rfl⟩
  have HCV : Hid (cv.length = 32) := Lib.hid (by have := (climbP_32 (h32_len hs) hl n n i (N, false) (by simp only; omega)).1; rw [hcs] at this; exact this)
  have HCC : Hid (climbP n p leaf n i (N, false) = (cv, s2)) := Lib.hid hcs
  rw [hcs]
  clear hcs hs hK hN hr hl
  have HB0 : Hid (Below w.heap.size w ((w.alloc (.cells (root.map encB).toArray 29)).alloc (.cells (leaf.map encB).toArray 29))) := Lib.hid (((Below.refl _ _).alloc (Nat.le_refl _) _).alloc (by simp) _)
  have HRB0 : Hid (ABox ((w.alloc (.cells (root.map encB).toArray 29)).alloc (.cells (leaf.map encB).toArray 29)) w.heap.size 29 (root.map encB)) := Lib.hid (by unfold ABox; rw [Below.heap_alloc _ _ _ (by simp)]; exact heap_alloc_new w _)
  have HLB0 : Hid (ABox ((w.alloc (.cells (root.map encB).toArray 29)).alloc (.cells (leaf.map encB).toArray 29)) (w.heap.size + 1) 29 (leaf.map encB)) := Lib.hid (heap_at (by simp))
  unfold hashV
  go_enter Tryd.func54, Tryd.ntmps54
  go_upto_region 3 with (fail)
  generalize hw1 : World.alloc (World.alloc w _) _ = w1
  have hw2 : (w.alloc (.cells (root.map encB).toArray 29)).alloc (.cells (leaf.map encB).toArray 29) = w1 := hw1
  rw [hw2] at HB0 HRB0 HLB0
  clear hw1 hw2
  have HTA := Lib.hid (taker_any w1 A c N)
  have HS1 := Lib.hid (HS.out.to HB0.out)
  have HK1 := Lib.hid (HK.out.to HB0.out)
  have HSZ1 : Hid (w.heap.size + 1 < w1.heap.size) := Lib.hid HLB0.out.lt
  go_wp2_with fail
  refine HTA.out.mono ?_
  rintro e w2 ⟨Lb, Mb, Pb, rfl, ht2⟩
  have hba : Below w2.heap.size w2 ((w2.alloc (.cells #[takeV Lb Mb Pb] 115)).alloc (.cells #[climbV (w.heap.size + 1) w2.heap.size (w2.heap.size + 1)] 118)) := ((Below.refl _ _).alloc (Nat.le_refl _) _).alloc (by simp) _
  have HB2 := Lib.hid (HB0.out.trans (ht2.b.mono HB0.out.size))
  have HBB := Lib.hid (HB2.out.trans (hba.mono HB2.out.size))
  have HRB := Lib.hid ((HRB0.out.to ht2.b).to hba)
  have HTF : Hid (w1.heap.size ≤ Lb ∧ w1.heap.size ≤ Mb) := Lib.hid ⟨ht2.bl, ht2.bm⟩
  have HLM : Hid (Lb < w2.heap.size ∧ Mb < w2.heap.size ∧ w1.heap.size ≤ w2.heap.size) := Lib.hid ⟨ht2.l.lt, ht2.m.lt, ht2.bs⟩
  have HCK : Hid (CK w1 ((w2.alloc (.cells #[takeV Lb Mb Pb] 115)).alloc (.cells #[climbV (w.heap.size + 1) w2.heap.size (w2.heap.size + 1)] 118)) Lb Mb Pb (w.heap.size + 1) w2.heap.size (w2.heap.size + 1) (.slice A N c) leaf (N, false)) := Lib.hid ⟨ht2.to hba, (HLB0.out.to ht2.b).to hba, by unfold ABox; rw [Below.heap_alloc _ _ _ (by simp)]; exact heap_alloc_new w2 _, heap_at (by simp),
    by have := HTF.out; have := HSZ1.out; rintro (h | h) <;> omega, by have := HLM.out; rintro (h | h) <;> omega, by have := HLM.out; rintro (h | h) <;> omega⟩
  have hTF : Hid (∀ g, TF Lb Mb g → w.heap.size ≤ g) := Lib.hid (by have := HTF.out; have := HSZ1.out; rintro g (h | h) <;> omega)
  have hRF : Hid (¬ TF Lb Mb w.heap.size) := Lib.hid (by have := HTF.out; have := HSZ1.out; rintro (h | h) <;> omega)
  have HCLI : Hid (∀ W, CK w1 W Lb Mb Pb (w.heap.size + 1) w2.heap.size (w2.heap.size + 1) (.slice A N c) leaf (N, false) → Calls Tryd.prog 80 #[.int .i64 (n : Int), .int .i64 (i : Int), .pointer (some ⟨w.heap.size + 1, 0, none⟩), .pointer (some ⟨w2.heap.size, 0, none⟩), .pointer (some ⟨w2.heap.size + 1, 0, none⟩)] W fun e w' => e = .returned (hashV cv) ∧ TK w1 w' Lb Mb Pb (.slice A N c) s2 ∧ Out (TF Lb Mb) W w') := Lib.hid (fun W hW => by
    have := climb_any w1 Lb Mb Pb (w.heap.size + 1) w2.heap.size (w2.heap.size + 1) A c N p leaf HLL.out HK1.out HS1.out HN.out hN2 n n i (N, false) W (by omega) (by omega) hn hi (Nat.le_refl _) hW
    rw [HCC.out] at this; exact this)
  clear ht2 hba
  unfold takeV doneV
  go_upto_region 6 with (fail)
  generalize hw5 : World.alloc (World.alloc w2 _) _ = w6
  have hw6 : ((w2.alloc (.cells #[takeV Lb Mb Pb] 115)).alloc (.cells #[climbV (w.heap.size + 1) w2.heap.size (w2.heap.size + 1)] 118)) = w6 := hw5
  rw [hw6] at HBB HRB HCK
  clear hw5 hw6 HTA HS1 HSZ1 HB2 HTF HLM HB0 HRB0 HLB0
  generalize w2.heap.size + 1 = Cb at *
  generalize w2.heap.size = Tb at *
  generalize w.heap.size + 1 = Lf at *
  obtain ⟨Rb, hRb⟩ : ∃ R, R = w.heap.size := ⟨_, rfl⟩
  rw [← hRb] at HRB hRF ⊢
  have HRbe := Lib.hid hRb
  clear hRb
  refine wp_region_D (fun w' => w'.cell? ⟨Cb, 0, none⟩ = some (climbV Lf Tb Cb) ∧ w'.heap[Rb]? = some (.cells (root.map encB).toArray 29 (0, 0))) (fun i => decide (i < 5)) (by kernel_rfl) ?_
  have hb0 : Below w6.heap.size w6 w6.drew := (Below.refl _ _).drew
  have hck0 := Lib.hid (HCK.out.to hb0)
  have hbb0 := Lib.hid (HBB.out.trans (hb0.mono HBB.out.size))
  have hR0 := Lib.hid (HRB.out.to hb0)
  clear hb0
  generalize w6.drew = W0 at *
  refine wpAnyE_take (i := 0) (oi := ⟨some 31, Op.load 118 (Operand.tmp 13), 118, _, _, _⟩) (v := ?_) rfl (by kernel_rfl) (by kernel_rfl) (by kernel_rfl) (by kernel_rfl) (by kernel_rfl) (fun _ _ _ h => h) (by rfl) ?hykr6_1 (⟨hck0.out.cb.cell 0 rfl, hR0.out⟩) ?hrkr6_1
  case hykr6_1 => (intro wS hSw; (try dsimp only at hSw); go_simp; (try with_reducible rfl))
  all_goals try simp only [Act.put, List.setIfInBounds_toArray, List.set_cons_zero, List.set_cons_succ]
  refine wpAnyE_take (i := 1) (oi := ⟨some 32, Op.move (Operand.tmp 1), 3, _, _, _⟩) (v := ?_) rfl (by kernel_rfl) (by kernel_rfl) (by kernel_rfl) (by kernel_rfl) (by kernel_rfl) (fun _ _ _ h => h) (by rfl) ?hykr6_2 (⟨hck0.out.cb.cell 0 rfl, hR0.out⟩) ?hrkr6_2
  case hykr6_2 => (intro wS hSw; (try dsimp only at hSw); go_simp; (try with_reducible rfl))
  all_goals try simp only [Act.put, List.setIfInBounds_toArray, List.set_cons_zero, List.set_cons_succ]
  refine wpAnyE_take (i := 2) (oi := ⟨some 33, Op.move (Operand.tmp 2), 3, _, _, _⟩) (v := ?_) rfl (by kernel_rfl) (by kernel_rfl) (by kernel_rfl) (by kernel_rfl) (by kernel_rfl) (fun _ _ _ h => h) (by rfl) ?hykr6_3 (⟨hck0.out.cb.cell 0 rfl, hR0.out⟩) ?hrkr6_3
  case hykr6_3 => (intro wS hSw; (try dsimp only at hSw); go_simp; (try with_reducible rfl))
  all_goals try simp only [Act.put, List.setIfInBounds_toArray, List.set_cons_zero, List.set_cons_succ]
  refine wpAnyE_take (i := 4) (oi := ⟨some 35, Op.load 29 (Operand.tmp 5), 29, _, _, _⟩) (v := ?_) rfl (by kernel_rfl) (by kernel_rfl) (by kernel_rfl) (by kernel_rfl) (by kernel_rfl) (fun _ _ _ h => h) (by rfl) ?hykr6_4 (⟨hck0.out.cb.cell 0 rfl, hR0.out⟩) ?hrkr6_4
  case hykr6_4 => (intro wS hSw; refine exec_load_row 29 (.tmp 5) ?_ Rb ?_ 29 (root.map encB).toArray (0, 0) _ hSw.2 Tryd.underlying29 ?_ ?_; rfl; rfl; rfl; (rw [HRSZ.out]; kernel_rfl))
  all_goals try simp only [Act.put, List.setIfInBounds_toArray, List.set_cons_zero, List.set_cons_succ]
  refine wpAnyD_one (i := 3) (oi := ⟨some 34, Op.call { callee := Callee.value (Operand.tmp 31), args := #[Operand.tmp 32, Operand.tmp 33], argTypes := #[3, 3] }, 29, _, _, _⟩) rfl (by kernel_rfl) (by rfl) (fun K hK => ?_)
  go_simp
  unfold climbV
  go_simp
  go_at_call 80
  refine (HCLI.out W0 hck0.out).mono ?_
  rintro e W2 ⟨rfl, ht2, ho2⟩
  have hck2 := Lib.hid (hck0.out.out ht2 ho2)
  have hb2 := Lib.hid (hbb0.out.trans (ho2.below hTF.out hbb0.out.size))
  have hR2 := Lib.hid (ho2.box hR0.out hRF.out)
  go_simp
  refine hK _ _ (fun _ => ?_) ?_
  · exact ⟨hck2.out.cb.cell 0 rfl, hR2.out⟩
  clear hK K
  try simp only [Act.put, List.setIfInBounds_toArray, List.set_cons_zero, List.set_cons_succ]
  refine wpAnyD_one (i := 5) (oi := ⟨some 36, Op.binOp BinOp.eql 29 (Operand.tmp 34) (Operand.tmp 35) 29, 4, _, _, _⟩) rfl (by kernel_rfl) (by rfl) (fun K hK => ?_)
  refine wp_eqlH (.tmp 34) (.tmp 35) rfl cv root ?_ ?_ HCV.out HRL.out ?_
  · rfl
  · rfl
  refine hK _ _ (fun h => absurd h (by decide)) ?_
  clear hK K
  try simp only [Act.put, List.setIfInBounds_toArray, List.set_cons_zero, List.set_cons_succ]
  generalize hq : decide (cv = root) = q at *
  have HQ := Lib.hid hq
  clear hq
  cases q with
  | true =>
    have HRES : Hid (incRes cv root s2 = decide (s2 = (0, false))) := Lib.hid (by unfold incRes; rw [HQ.out]; rfl)
    refine wpAnyD_one (i := 6) (oi := ⟨some 37, Op.move (Operand.tmp 36), 4, _, _, _⟩) rfl (by kernel_rfl) (by rfl) (fun K hK => ?_)
    go_simp
    refine hK _ _ (fun h => absurd h (by decide)) ?_
    clear hK K
    try simp only [Act.put, List.setIfInBounds_toArray, List.set_cons_zero, List.set_cons_succ]
    refine wpAnyD_one (i := 7) (oi := ⟨some 38, Op.move (Operand.tmp 12), 31, _, _, _⟩) rfl (by kernel_rfl) (by rfl) (fun K hK => ?_)
    go_simp
    refine hK _ _ (fun h => absurd h (by decide)) ?_
    clear hK K
    try simp only [Act.put, List.setIfInBounds_toArray, List.set_cons_zero, List.set_cons_succ]
    refine wpAnyD_one (i := 8) (oi := ⟨some 39, Op.call { callee := Callee.value (Operand.tmp 38), args := #[], argTypes := #[] }, 4, _, _, _⟩) rfl (by kernel_rfl) (by rfl) (fun K hK => ?_)
    go_simp
    go_at_call 96
    refine (tdone_any w1 W2 Lb Mb Pb _ s2 hck2.out.t).mono ?_
    rintro e w9 ⟨rfl, rfl⟩
    go_simp
    refine hK _ _ (fun h => absurd h (by decide)) ?_
    clear hK K
    try simp only [Act.put, List.setIfInBounds_toArray, List.set_cons_zero, List.set_cons_succ]
    refine wpAnyD_one (i := 9) (oi := ⟨some 40, Op.pick (Operand.tmp 37) (Operand.tmp 39) (Operand.const (Value.bool false)), 4, _, _, _⟩) rfl (by kernel_rfl) (by rfl) (fun K hK => ?_)
    go_simp
    refine hK _ _ (fun h => absurd h (by decide)) ?_
    clear hK K
    try simp only [Act.put, List.setIfInBounds_toArray, List.set_cons_zero, List.set_cons_succ]
    refine wpAnyD_one (i := 10) (oi := ⟨some 10, Op.assign (Operand.tmp 40), 4, _, _, _⟩) rfl (by kernel_rfl) (by rfl) (fun K hK => ?_)
    go_simp
    refine hK _ _ (fun h => absurd h (by decide)) ?_
    clear hK K
    try simp only [Act.put, List.setIfInBounds_toArray, List.set_cons_zero, List.set_cons_succ]
    refine wpAnyD_done (by kernel_rfl) ?_ _
    unfold Exit.then
    go_wp2_with fail
    go_ret
    exact ⟨ret_bool HRES.out.symm, hb2.out⟩
  | false =>
    have HRES : Hid (incRes cv root s2 = false) := Lib.hid (by unfold incRes; rw [HQ.out]; rfl)
    refine wpAnyD_one (i := 6) (oi := ⟨some 37, Op.move (Operand.tmp 36), 4, _, _, _⟩) rfl (by kernel_rfl) (by rfl) (fun K hK => ?_)
    go_simp
    refine hK _ _ (fun h => absurd h (by decide)) ?_
    clear hK K
    try simp only [Act.put, List.setIfInBounds_toArray, List.set_cons_zero, List.set_cons_succ]
    refine wpAnyD_skip (i := 7) (oi := ⟨some 38, Op.move (Operand.tmp 12), 31, _, _, _⟩) rfl (by kernel_rfl) (by rfl) (fun h => absurd h (by decide)) ?_
    try simp only [Act.put, List.setIfInBounds_toArray, List.set_cons_zero, List.set_cons_succ]
    refine wpAnyD_skip (i := 8) (oi := ⟨some 39, Op.call { callee := Callee.value (Operand.tmp 38), args := #[], argTypes := #[] }, 4, _, _, _⟩) rfl (by kernel_rfl) (by rfl) (fun h => absurd h (by decide)) ?_
    try simp only [Act.put, List.setIfInBounds_toArray, List.set_cons_zero, List.set_cons_succ]
    refine wpAnyD_one (i := 9) (oi := ⟨some 40, Op.pick (Operand.tmp 37) (Operand.tmp 39) (Operand.const (Value.bool false)), 4, _, _, _⟩) rfl (by kernel_rfl) (by rfl) (fun K hK => ?_)
    go_simp
    refine hK _ _ (fun h => absurd h (by decide)) ?_
    clear hK K
    try simp only [Act.put, List.setIfInBounds_toArray, List.set_cons_zero, List.set_cons_succ]
    refine wpAnyD_one (i := 10) (oi := ⟨some 10, Op.assign (Operand.tmp 40), 4, _, _, _⟩) rfl (by kernel_rfl) (by rfl) (fun K hK => ?_)
    go_simp
    refine hK _ _ (fun h => absurd h (by decide)) ?_
    clear hK K
    try simp only [Act.put, List.setIfInBounds_toArray, List.set_cons_zero, List.set_cons_succ]
    refine wpAnyD_done (by kernel_rfl) ?_ _
    unfold Exit.then
    go_wp2_with fail
    go_ret
    exact ⟨ret_bool HRES.out.symm, hb2.out⟩
theorem includes_any (root leaf : List UInt8) (hr : root.length = 32) (hl : leaf.length = 32) (n i : Int) (A : Option Addr) (c N : Nat) (p : List H32) (w : World) (hs : Sl w (fun b => b < w.heap.size) A c p) (hN : p.length = N) (hN2 : N ≤ 9223372036854775807) (hK : KLaid w) :
    Calls Tryd.prog 54 #[hashV root, .int .i64 n, .int .i64 i, hashV leaf, .slice A N c] w fun e w' => e = .returned (.bool (includesP root n i leaf p)) ∧ Below w.heap.size w w' := by
  by_cases h : 0 ≤ i ∧ i < n ∧ n ≤ 65536
  · have e : includesP root n i leaf p = incRes (climbP n.toNat p leaf n.toNat i.toNat (N, false)).1 root (climbP n.toNat p leaf n.toNat i.toNat (N, false)).2 := by
      unfold includesP; rw [decide_eq_true h, hN]; rfl
    obtain ⟨n', rfl⟩ : ∃ k : Nat, n = (k : Int) := ⟨n.toNat, by omega⟩
    obtain ⟨i', rfl⟩ : ∃ k : Nat, i = (k : Int) := ⟨i.toNat, by omega⟩
    rw [e]
    exact includes_yes root leaf hr hl n' i' A c N p w (by omega) (by omega) hs hN hN2 hK
  · exact includes_no root leaf n i A c N p w h
end Go.Proofs.YthcklfelofpffaaDoor
namespace Go.Proofs.YthcklfelofpffaaDoor
open Go.RowKit
instance : DecidableEq H32 := fun a b => decidable_of_iff (a.l = b.l) ⟨fun h => by cases a; cases b; exact congrArg H32.mk h, fun h => by rw [h]⟩
set_option maxRecDepth 100000 in
set_option maxHeartbeats 4000000 in
theorem same_hashes (A B : Option Addr) (c d n m : Nat) (l q : List H32) (w : World) (hl : Sl w (fun b => b < w.heap.size) A c l) (hm : Sl w (fun b => b < w.heap.size) B d q) (hn : l.length = n) (hmm : q.length = m) :
    Calls Tryd.prog 24 #[.slice A n c, .slice B m d] w fun e w' => e = .returned (.bool (decide (l = q))) ∧ Below w.heap.size w w' := by
  have hlen : n ≤ 9223372036854775807 := by have := hl.1; have := hl.2.1; unfold maxLen at this; omega
  have hlem : m ≤ 9223372036854775807 := by have := hm.1; have := hm.2.1; unfold maxLen at this; omega
  have HL := Lib.hid hl
  have HM := Lib.hid hm
  have HN := Lib.hid (And.intro hn hmm)
  clear hl hm hn hmm
  by_cases hll : n = m
  · subst hll
    have hnn : ((n : Int) != (n : Int)) = false := by simp
    go_enter Tryd.func24, Tryd.ntmps24
    go_wp2_with fail
    go_loopw [5] (fun i wr => ∃ k : Nat, k ≤ n ∧ i = .int .i64 k ∧ Hid (l.take k = q.take k) ∧ Hid (Below w.heap.size w wr)) (fun i _ => n - (intOf i).toNat)
    case atStart => exact ⟨0, Nat.zero_le _, rfl, Lib.hid rfl, Lib.hid (Below.refl _ _)⟩
    case round =>
      obtain ⟨k, hk, rfl, hi, hb⟩ := hrel
      by_cases hlt : k < n
      · have hkl : k < l.length := by have := HN.out; omega
        have hkq : k < q.length := by have := HN.out; omega
        obtain ⟨b, o, rfl, hbS, hbl, hr1, hl1⟩ := h32_at (HL.out.to hb.out) hkl
        obtain ⟨b2, o2, rfl, hbS2, hbl2, hr2, hl2⟩ := h32_at (HM.out.to hb.out) hkq
        have hkn : (k : Int) < (n : Int) := by omega
        have hk0 : (0 : Int) ≤ (k : Int) := by omega
        obtain ⟨cond, hcond⟩ : ∃ b, b = !decide (l[k].l = q[k].l) := ⟨_, rfl⟩
        have HCD := Lib.hid hcond
        have HXY := Lib.hid (And.intro hl1 hl2)
        have HEQ : Hid (l[k].l = q[k].l → l[k] = q[k]) := Lib.hid (fun e => by cases hx : l[k]; cases hy : q[k]; rw [hx, hy] at e; exact congrArg H32.mk e)
        have HNE : Hid (l[k] ≠ q[k] → l ≠ q) := Lib.hid (fun e => ne_at hkl hkq e)
        have HSU : Hid (l[k] = q[k] → l.take (k + 1) = q.take (k + 1)) := Lib.hid (fun e => take_succ_eq hkl hkq hi.out e)
        have HEX : Hid (cond = true → l[k] ≠ q[k]) := Lib.hid (fun e h => by rw [hcond, h] at e; simp at e)
        have HEY : Hid (cond = false → l[k] = q[k]) := Lib.hid (fun e => HEQ.out (by rw [hcond] at e; simpa using e))
        clear hcond hi HEQ
        generalize l[k].l = x at *
        generalize q[k].l = y at *
        have HLX : Hid ((x.map encB).length = 32 ∧ (y.map encB).length = 32) := Lib.hid ⟨by rw [List.length_map, HXY.out.1], by rw [List.length_map, HXY.out.2]⟩
        have HNQ : Hid (∀ W, (binOp .neq 29 (.agg (x.map encB).toArray) (.agg (y.map encB).toArray)).run Tryd.prog W = .ok (.bool cond) W) := Lib.hid (fun W => by rw [HCD.out]; exact run_hash_neq _ _ HXY.out.1 HXY.out.2 W)
        have hHeld : wr.drew.rangeAt b (o + k * 32) (x.map encB) ∧ wr.drew.rangeAt b2 (o2 + k * 32) (y.map encB) := ⟨(World.rangeAt_drew _ _ _ _).2 hr1, (World.rangeAt_drew _ _ _ _).2 hr2⟩
        clear hr1 hr2
        clear HL HM HN
        go_wp2_with fail
        refine wp_region_D (fun w' => w'.rangeAt b (o + k * 32) (x.map encB) ∧ w'.rangeAt b2 (o2 + k * 32) (y.map encB)) (fun _ => true) (by kernel_rfl) ?_
        refine wpAnyE_take (i := 0) (oi := ⟨some 17, Op.move (Operand.tmp 0), 34, _, _, _⟩) (v := ?_) rfl (by kernel_rfl) (by kernel_rfl) (by kernel_rfl) (by kernel_rfl) (by kernel_rfl) (fun _ _ _ h => h) (by rfl) ?hykra1 (hHeld) ?hrkra1
        case hykra1 => (intro wS hSw; (try dsimp only at hSw); go_simp; (try with_reducible rfl))
        all_goals try simp only [Act.put, List.setIfInBounds_toArray, List.set_cons_zero, List.set_cons_succ]
        refine wpAnyE_take (i := 1) (oi := ⟨some 18, Op.move (Operand.tmp 5), 3, _, _, _⟩) (v := ?_) rfl (by kernel_rfl) (by kernel_rfl) (by kernel_rfl) (by kernel_rfl) (by kernel_rfl) (fun _ _ _ h => h) (by rfl) ?hykra2 (hHeld) ?hrkra2
        case hykra2 => (intro wS hSw; (try dsimp only at hSw); go_simp; (try with_reducible rfl))
        all_goals try simp only [Act.put, List.setIfInBounds_toArray, List.set_cons_zero, List.set_cons_succ]
        refine wpAnyE_take (i := 2) (oi := ⟨some 19, Op.indexAddr 34 (Operand.tmp 17) (Operand.tmp 18), 0, _, _, _⟩) (v := ?_) rfl (by kernel_rfl) (by kernel_rfl) (by kernel_rfl) (by kernel_rfl) (by kernel_rfl) (fun _ _ _ h => h) (by rfl) ?hykra3 (hHeld) ?hrkra3
        case hykra3 => (intro wS hSw; (try dsimp only at hSw); go_simp; (try with_reducible rfl))
        all_goals try simp only [Act.put, List.setIfInBounds_toArray, List.set_cons_zero, List.set_cons_succ]
        refine wpAnyE_take (i := 3) (oi := ⟨some 20, Op.load 29 (Operand.tmp 19), 29, _, _, _⟩) (v := ?_) rfl (by kernel_rfl) (by kernel_rfl) (by kernel_rfl) (by kernel_rfl) (by kernel_rfl) (fun _ _ _ h => h) (by rfl) ?hykra4 (hHeld) ?hrkra4
        case hykra4 => (intro wS hSw; refine exec_load_mid 29 (.tmp 19) ?_ b (o + k * 32) ?_ (x.map encB) _ hSw.1 Tryd.underlying29 ?_ ?_; rfl; rfl; rfl; (rw [HLX.out.1]; kernel_rfl))
        all_goals try simp only [Act.put, List.setIfInBounds_toArray, List.set_cons_zero, List.set_cons_succ]
        refine wpAnyE_take (i := 4) (oi := ⟨some 21, Op.move (Operand.tmp 1), 34, _, _, _⟩) (v := ?_) rfl (by kernel_rfl) (by kernel_rfl) (by kernel_rfl) (by kernel_rfl) (by kernel_rfl) (fun _ _ _ h => h) (by rfl) ?hykra5 (hHeld) ?hrkra5
        case hykra5 => (intro wS hSw; (try dsimp only at hSw); go_simp; (try with_reducible rfl))
        all_goals try simp only [Act.put, List.setIfInBounds_toArray, List.set_cons_zero, List.set_cons_succ]
        refine wpAnyE_take (i := 5) (oi := ⟨some 22, Op.move (Operand.tmp 5), 3, _, _, _⟩) (v := ?_) rfl (by kernel_rfl) (by kernel_rfl) (by kernel_rfl) (by kernel_rfl) (by kernel_rfl) (fun _ _ _ h => h) (by rfl) ?hykra6 (hHeld) ?hrkra6
        case hykra6 => (intro wS hSw; (try dsimp only at hSw); go_simp; (try with_reducible rfl))
        all_goals try simp only [Act.put, List.setIfInBounds_toArray, List.set_cons_zero, List.set_cons_succ]
        refine wpAnyE_take (i := 6) (oi := ⟨some 23, Op.indexAddr 34 (Operand.tmp 21) (Operand.tmp 22), 0, _, _, _⟩) (v := ?_) rfl (by kernel_rfl) (by kernel_rfl) (by kernel_rfl) (by kernel_rfl) (by kernel_rfl) (fun _ _ _ h => h) (by rfl) ?hykra7 (hHeld) ?hrkra7
        case hykra7 => (intro wS hSw; (try dsimp only at hSw); go_simp; (try with_reducible rfl))
        all_goals try simp only [Act.put, List.setIfInBounds_toArray, List.set_cons_zero, List.set_cons_succ]
        refine wpAnyE_take (i := 7) (oi := ⟨some 24, Op.load 29 (Operand.tmp 23), 29, _, _, _⟩) (v := ?_) rfl (by kernel_rfl) (by kernel_rfl) (by kernel_rfl) (by kernel_rfl) (by kernel_rfl) (fun _ _ _ h => h) (by rfl) ?hykra8 (hHeld) ?hrkra8
        case hykra8 => (intro wS hSw; refine exec_load_mid 29 (.tmp 23) ?_ b2 (o2 + k * 32) ?_ (y.map encB) _ hSw.2 Tryd.underlying29 ?_ ?_; rfl; rfl; rfl; (rw [HLX.out.2]; kernel_rfl))
        all_goals try simp only [Act.put, List.setIfInBounds_toArray, List.set_cons_zero, List.set_cons_succ]
        refine wpAnyE_take (i := 8) (oi := ⟨some 25, Op.binOp BinOp.neq 29 (Operand.tmp 20) (Operand.tmp 24) 29, 4, _, _, _⟩) (v := ?_) rfl (by kernel_rfl) (by kernel_rfl) (by kernel_rfl) (by kernel_rfl) (by kernel_rfl) (fun _ _ _ h => h) (by rfl) ?hykra9 (hHeld) ?hrkra9
        case hykra9 => (intro wS hSw; refine exec_neq 29 29 (.tmp 20) (.tmp 24) ?_ (x.map encB).toArray (y.map encB).toArray ?_ ?_ guard_h cond (HNQ.out wS); rfl; rfl; rfl)
        all_goals try simp only [Act.put, List.setIfInBounds_toArray, List.set_cons_zero, List.set_cons_succ]
        refine wpAnyD_done (by kernel_rfl) ?_ _
        unfold Exit.then
        cases cond with
        | false =>
          go_wp2_with fail
          go_roundw
          case rel => exact ⟨k + 1, by omega, by go_num, Lib.hid (HSU.out (HEY.out (by simp))), Lib.hid hb.out.drew⟩
          case measure => simp [intOf]; omega
        | true =>
          go_wp2_with fail
          go_ret
          exact ⟨ret_bool (decide_eq_false (HNE.out (HEX.out (by simp)))).symm, hb.out.drew⟩
      · go_wp2_with fail
        go_ret
        exact ⟨ret_bool (decide_eq_true (eq_all (by have := HN.out; omega) (by have := HN.out; omega) hi.out)).symm, hb.out⟩
  · have hnn : ((n : Int) != (m : Int)) = true := by simp; omega
    have HNE : Hid (l ≠ q) := Lib.hid (fun e => hll (by have := HN.out; rw [e] at this; omega))
    clear hll
    go_enter Tryd.func24, Tryd.ntmps24
    go_wp2
    go_ret
    exact ⟨ret_bool (decide_eq_false HNE.out).symm, Below.refl _ _⟩
set_option maxHeartbeats 400000 in
theorem same_strings (A B : Option Addr) (c d : Nat) (l m : List ByteArray) (w : World) (hl : Sl w (fun b => b < w.heap.size) A c l) (hm : Sl w (fun b => b < w.heap.size) B d m) :
    Calls Tryd.prog 51 #[.slice A l.length c, .slice B m.length d] w fun e w' => e = .returned (.bool (decide (l = m))) ∧ Below w.heap.size w w' := by
  have hlen : l.length ≤ 9223372036854775807 := by have := hl.1; have := hl.2.1; unfold maxLen at this; omega
  have hlem : m.length ≤ 9223372036854775807 := by have := hm.1; have := hm.2.1; unfold maxLen at this; omega
  by_cases hll : l.length = m.length
  · have hnn : ((l.length : Int) != (m.length : Int)) = false := by rw [hll]; simp
    have Hll := Lib.hid hll
    go_enter Tryd.func51, Tryd.ntmps51
    clear hll
    go_wp2
    go_loopw [5] (fun i wr => ∃ k : Nat, k ≤ l.length ∧ i = .int .i64 k ∧ Hid (l.take k = m.take k) ∧ Below w.heap.size w wr) (fun i _ => l.length - (intOf i).toNat)
    case atStart => exact ⟨0, Nat.zero_le _, rfl, rfl, Below.refl _ _⟩
    case round =>
      obtain ⟨k, hk, rfl, hi, hb⟩ := hrel
      by_cases hlt : k < l.length
      · have hltm : k < m.length := by have := Hll.out; omega
        obtain ⟨b, o, rfl, hbS, hbl, c0⟩ := str_at (hl.keep (Kept.all hb) hb.size) hlt
        obtain ⟨b2, o2, rfl, hbS2, hbl2, d0⟩ := str_at (hm.keep (Kept.all hb) hb.size) hltm
        have hkl : (k : Int) < (l.length : Int) := by omega
        have hkm : (k : Int) < (m.length : Int) := by omega
        have hk0 : (0 : Int) ≤ (k : Int) := by omega
        by_cases heq : l[k] = m[k]
        · have hB : (!l[k].toList == m[k].toList) = false := by rw [tl_eq heq]; rfl
          have Heq := Lib.hid heq
          clear heq
          go_wp2_with fail
          go_quiet (fail)
          go_wp2_with fail
          go_roundw
          case rel => exact ⟨k + 1, by omega, by go_num, take_succ_eq hlt hltm hi.out Heq.out, Below.dn hb _⟩
          case measure => simp [intOf]; omega
        · have hB : (!l[k].toList == m[k].toList) = true := by rw [tl_ne heq]; rfl
          have Heq := Lib.hid heq
          clear heq
          go_wp2_with fail
          go_quiet (fail)
          go_wp2_with fail
          go_ret
          exact ⟨ret_bool (decide_eq_false (ne_at hlt hltm Heq.out)).symm, Below.dn hb _⟩
      · go_wp2_with fail
        go_ret
        exact ⟨ret_bool (decide_eq_true (eq_all (by omega) (by have := Hll.out; omega) hi.out)).symm, hb⟩
  · have hnn : ((l.length : Int) != (m.length : Int)) = true := by simp; omega
    have Hll := Lib.hid hll
    clear hll
    go_enter Tryd.func51, Tryd.ntmps51
    go_wp2
    go_ret
    exact ⟨ret_bool (decide_eq_false (fun e => Hll.out (by rw [e]))).symm, Below.refl _ _⟩
end Go.Proofs.YthcklfelofpffaaDoor
