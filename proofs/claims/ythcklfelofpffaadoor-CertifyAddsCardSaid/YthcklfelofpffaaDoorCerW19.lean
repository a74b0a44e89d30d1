/- A path is climbed: the inner function of merkle.Includes. No condition but sizes and what the table holds. -/
import Derived.Test.YthcklfelofpffaaDoorCerW18
import Derived.Test.YthcklfelofpffaaDoorRegE
namespace Go.Proofs.YthcklfelofpffaaDoor
open Go.RowKit
/-- What a path makes of a leaf. -/
def climbP : Nat → List H32 → List UInt8 → Nat → Nat → Nat × Bool → List UInt8 × (Nat × Bool)
  | 0, _, leaf, _, _, s => (leaf, s)
  | f + 1, p, leaf, n, i, s => if n = 1 then (leaf, s) else
    if i < splitN n then (nodeH (climbP f p leaf (splitN n) i (takeP p s).2).1 (takeP p s).1, (climbP f p leaf (splitN n) i (takeP p s).2).2)
    else (nodeH (takeP p s).1 (climbP f p leaf (n - splitN n) (i - splitN n) (takeP p s).2).1, (climbP f p leaf (n - splitN n) (i - splitN n) (takeP p s).2).2)
theorem takeP_32 {p : List H32} (h : ∀ x ∈ p, x.l.length = 32) (s : Nat × Bool) (hs : s.1 ≤ p.length) : (takeP p s).1.length = 32 ∧ (takeP p s).2.1 ≤ p.length := by
  unfold takeP
  split
  · exact ⟨rfl, by simp⟩
  · have hl : s.1 - 1 < p.length := by omega
    simp only
    rw [hAt_eq p _ hl]
    exact ⟨h _ (List.getElem_mem _), by omega⟩
theorem climbP_32 {p : List H32} (h : ∀ x ∈ p, x.l.length = 32) {leaf : List UInt8} (hl : leaf.length = 32) : ∀ (f n i : Nat) (s : Nat × Bool), s.1 ≤ p.length → (climbP f p leaf n i s).1.length = 32 ∧ (climbP f p leaf n i s).2.1 ≤ p.length
  | 0, _, _, _, hs => ⟨hl, hs⟩
  | f + 1, n, i, s, hs => by
    rw [climbP]
    split
    · exact ⟨hl, hs⟩
    · split
      · exact ⟨sha_length _, (climbP_32 h hl f _ _ _ (takeP_32 h s hs).2).2⟩
      · exact ⟨sha_length _, (climbP_32 h hl f _ _ _ (takeP_32 h s hs).2).2⟩
theorem climbP_one (f : Nat) (p : List H32) (leaf : List UInt8) (i : Nat) (s : Nat × Bool) : climbP f p leaf 1 i s = (leaf, s) := by
  cases f with
  | zero => rfl
  | succ f => rw [climbP, if_pos rfl]
def climbV (Lf Tb Cb : Nat) : Value := .func (.func 80) #[] #[.pointer (some ⟨Lf, 0, none⟩), .pointer (some ⟨Tb, 0, none⟩), .pointer (some ⟨Cb, 0, none⟩)]
structure CK (w0 w : World) (Lb Mb Pb Lf Tb Cb : Nat) (v : Value) (leaf : List UInt8) (s : Nat × Bool) : Prop where
  t : TK w0 w Lb Mb Pb v s
  lf : ABox w Lf 29 (leaf.map encB)
  tb : ABox w Tb 115 [takeV Lb Mb Pb]
  cb : ABox w Cb 118 [climbV Lf Tb Cb]
  nf : ¬ TF Lb Mb Lf
  nt : ¬ TF Lb Mb Tb
  nc : ¬ TF Lb Mb Cb
section
variable {w0 w w' : World} {Lb Mb Pb Lf Tb Cb : Nat} {v : Value} {leaf : List UInt8} {s s' : Nat × Bool}
theorem CK.out (h : CK w0 w Lb Mb Pb Lf Tb Cb v leaf s) (ht : TK w0 w' Lb Mb Pb v s') (ho : Out (TF Lb Mb) w w') : CK w0 w' Lb Mb Pb Lf Tb Cb v leaf s' :=
  ⟨ht, ho.box h.lf h.nf, ho.box h.tb h.nt, ho.box h.cb h.nc, h.nf, h.nt, h.nc⟩
theorem CK.to (h : CK w0 w Lb Mb Pb Lf Tb Cb v leaf s) (hb : Below w.heap.size w w') : CK w0 w' Lb Mb Pb Lf Tb Cb v leaf s := h.out (h.t.to hb) (Out.of_below hb)
theorem CK.setRow (h : CK w0 w Lb Mb Pb Lf Tb Cb v leaf s) {R : Nat} (h1 : ¬ TF Lb Mb R) (h2 : R ≠ Pb ∧ R ≠ Lf ∧ R ≠ Tb ∧ R ≠ Cb) (h4 : w0.heap.size ≤ R) (cs : Array Value) : CK w0 (w.setRow R cs) Lb Mb Pb Lf Tb Cb v leaf s :=
  ⟨h.t.setRow (fun e => h1 (.inl e.symm)) (fun e => h1 (.inr e.symm)) (Ne.symm h2.1) h4 cs, abox_setRow h.lf (Ne.symm h2.2.1), abox_setRow h.tb (Ne.symm h2.2.2.1), abox_setRow h.cb (Ne.symm h2.2.2.2), h.nf, h.nt, h.nc⟩
end
set_option maxRecDepth 100000 in
set_option maxHeartbeats 4000000 in
theorem climb1_any (w0 w : World) (Lb Mb Pb Lf Tb Cb i : Nat) (v : Value) (leaf : List UInt8) (s : Nat × Bool) (hl : leaf.length = 32) (h : CK w0 w Lb Mb Pb Lf Tb Cb v leaf s) :
    Calls Tryd.prog 80 #[.int .i64 1, .int .i64 (i : Int), .pointer (some ⟨Lf, 0, none⟩), .pointer (some ⟨Tb, 0, none⟩), .pointer (some ⟨Cb, 0, none⟩)] w fun e w' => e = .returned (hashV leaf) ∧ TK w0 w' Lb Mb Pb v s ∧ Out (TF Lb Mb) w w' := by
  have HC0 := Lib.hid (h.to ((Below.refl w.heap.size w).alloc (Nat.le_refl _) (.cells (zer32.map encB).toArray 29)))
  have HR0 : Hid (ABox (w.alloc (.cells (zer32.map encB).toArray 29)) w.heap.size 29 (zer32.map encB)) := Lib.hid (heap_alloc_new w _)
  have HOW : Hid (Out (TF Lb Mb) w ((w.alloc (.cells (zer32.map encB).toArray 29)).setRow w.heap.size (leaf.map encB).toArray)) := Lib.hid ((Out.of_below ((Below.refl w.heap.size w).alloc (Nat.le_refl _) _)).setRow (Nat.le_refl _) _)
  have HTE : Hid (TK w0 ((w.alloc (.cells (zer32.map encB).toArray 29)).setRow w.heap.size (leaf.map encB).toArray) Lb Mb Pb v s) := Lib.hid (HC0.out.t.setRow (by have := h.t.l.lt; omega) (by have := h.t.m.lt; omega) (by have := h.t.p.lt; omega) h.t.bs _)
  have HSZ := Lib.hid (hash_size hl)
  have HC1 := Lib.hid (hash_all leaf)
  have HZ : Hid ((zer32.map encB).toArray.size = 32) := Lib.hid rfl
  have HRE : Hid (hashV leaf = .agg (leaf.map encB).toArray) := Lib.hid rfl
  have HX := Lib.hid (setRow_heap _ w.heap.size _ (leaf.map encB).toArray _ _ HR0.out)
  have hr0 := HR0.out
  have hlf := HC0.out.lf
  unfold ABox at hr0 hlf
  clear h hl
  go_enter Tryd.func80, Tryd.ntmps80
  go_upto_region 1 with (fail)
  generalize hw1 : World.alloc w _ = w1
  have hw2 : w.alloc (.cells (zer32.map encB).toArray 29) = w1 := hw1
  rw [hw2] at HC0 HR0 HOW HTE HX hr0 hlf
  clear hw1 hw2
  generalize w.heap.size = R at *
  generalize (leaf.map encB).toArray = cs at *
  generalize (zer32.map encB).toArray = zs at *
  go_wp2_with (first
    | (refine wpList_load_row rfl 29 (.tmp 2) rfl Lf ?_ 29 cs (0, 0) _ hlf Tryd.underlying29 ?_ ?_ ?_; rfl; rfl; (rw [HSZ.out]; kernel_rfl))
    | (refine wpList_store_row rfl 29 (.tmp 7) (.tmp 12) rfl R cs ?_ ?_ 29 zs hr0 (by rw [HSZ.out]; kernel_rfl) (by rw [HZ.out, HSZ.out]) HC1.out ?_; rfl; rfl)
    | fail)
  exact bodyPost_ret (v := .agg cs) (results_cell_row Tryd.results80 _ _ R _ cs (0, 0) _ rfl HX.out Tryd.underlying29 rfl (by rw [HSZ.out]; kernel_rfl)) rfl ⟨by rw [HRE.out], HTE.out, HOW.out⟩
set_option maxRecDepth 100000 in
set_option maxHeartbeats 4000000 in
theorem climb2_any (f : Nat) (w0 : World) (Lb Mb Pb Lf Tb Cb : Nat) (A : Option Addr) (c N : Nat) (p : List H32) (leaf : List UInt8) (hl : leaf.length = 32) (hK : KLaid w0)
    (hs : Sl w0 (fun b => b < w0.heap.size) A c p) (hN : p.length = N) (hN2 : N ≤ 9223372036854775807)
    (ih : ∀ (n i : Nat) (s : Nat × Bool) (w : World), 1 ≤ n → n ≤ f + 1 → n ≤ 65536 → i < n → s.1 ≤ N → CK w0 w Lb Mb Pb Lf Tb Cb (.slice A N c) leaf s →
      Calls Tryd.prog 80 #[.int .i64 (n : Int), .int .i64 (i : Int), .pointer (some ⟨Lf, 0, none⟩), .pointer (some ⟨Tb, 0, none⟩), .pointer (some ⟨Cb, 0, none⟩)] w fun e w' => e = .returned (hashV (climbP f p leaf n i s).1) ∧ TK w0 w' Lb Mb Pb (.slice A N c) (climbP f p leaf n i s).2 ∧ Out (TF Lb Mb) w w')
    (n i : Nat) (s : Nat × Bool) (w : World) (h2 : 2 ≤ n) (hf : n ≤ f + 2) (hn : n ≤ 65536) (hi : i < n) (hs1 : s.1 ≤ N) (h : CK w0 w Lb Mb Pb Lf Tb Cb (.slice A N c) leaf s) :
    Calls Tryd.prog 80 #[.int .i64 (n : Int), .int .i64 (i : Int), .pointer (some ⟨Lf, 0, none⟩), .pointer (some ⟨Tb, 0, none⟩), .pointer (some ⟨Cb, 0, none⟩)] w fun e w' => e = .returned (hashV (climbP (f + 1) p leaf n i s).1) ∧ TK w0 w' Lb Mb Pb (.slice A N c) (climbP (f + 1) p leaf n i s).2 ∧ Out (TF Lb Mb) w w' := by
  obtain ⟨_, _, h3, h4, _⟩ := splitN_bounds n h2 (by omega)
  have HSP := Lib.hid (split_any n h2 (by omega))
  have HP32 := Lib.hid (h32_len hs)
  have HI := Lib.hid ih
  have HK := Lib.hid hK
  obtain ⟨tv, s1, hts⟩ : ∃ tv s1, takeP p s = (tv, s1) := ⟨_, _, rfl⟩
  have HTV : Hid (tv.length = 32 ∧ s1.1 ≤ N) := Lib.hid (by have := takeP_32 (h32_len hs) s (by omega); rw [hts] at this; exact ⟨this.1, by have := this.2; simp only at this; omega⟩)
  have HTK : Hid (∀ W, TK w0 W Lb Mb Pb (.slice A N c) s → Calls Tryd.prog 95 #[.pointer (some ⟨Lb, 0, none⟩), .pointer (some ⟨Mb, 0, none⟩), .pointer (some ⟨Pb, 0, none⟩)] W fun e w' => e = .returned (hashV tv) ∧ TK w0 w' Lb Mb Pb (.slice A N c) s1 ∧ Out (TF Lb Mb) W w') := Lib.hid (fun W hW => by
    have := take_any w0 W Lb Mb Pb A c N p s hs hN hN2 hs1 hW
    rw [hts] at this; exact this)
  have HCL : Hid (i < splitN n → climbP (f + 1) p leaf n i s = (nodeH (climbP f p leaf (splitN n) i s1).1 tv, (climbP f p leaf (splitN n) i s1).2)) := Lib.hid (fun hik => by rw [climbP, if_neg (by omega), if_pos hik, hts])
  have HCR : Hid (¬ i < splitN n → climbP (f + 1) p leaf n i s = (nodeH tv (climbP f p leaf (n - splitN n) (i - splitN n) s1).1, (climbP f p leaf (n - splitN n) (i - splitN n) s1).2)) := Lib.hid (fun hik => by rw [climbP, if_neg (by omega), if_neg hik, hts])
  have HC32 : Hid (∀ n i, (climbP f p leaf n i s1).1.length = 32) := Lib.hid (fun n i => (climbP_32 (h32_len hs) hl f n i s1 (by have := HTV.out.2; omega)).1)
  have HCK0 := Lib.hid (h.to ((Below.refl w.heap.size w).alloc (Nat.le_refl _) (.cells (zer32.map encB).toArray 29)))
  have HR0 : Hid (ABox (w.alloc (.cells (zer32.map encB).toArray 29)) w.heap.size 29 (zer32.map encB)) := Lib.hid (heap_alloc_new w _)
  have HOU0 : Hid (Out (TF Lb Mb) w (w.alloc (.cells (zer32.map encB).toArray 29))) := Lib.hid (Out.of_below ((Below.refl w.heap.size w).alloc (Nat.le_refl _) _))
  have hRF : Hid (¬ TF Lb Mb w.heap.size) := Lib.hid (by have h1 := h.t.l.lt; have h2 := h.t.m.lt; rintro (h | h) <;> omega)
  have hRC : Hid (w.heap.size ≠ Pb ∧ w.heap.size ≠ Lf ∧ w.heap.size ≠ Tb ∧ w.heap.size ≠ Cb ∧ w0.heap.size ≤ w.heap.size) := Lib.hid ⟨by have := h.t.p.lt; omega, by have := h.lf.lt; omega, by have := h.tb.lt; omega, by have := h.cb.lt; omega, h.t.bs⟩
  have HTSZ := Lib.hid (hash_size HTV.out.1)
  have HZ : Hid ((zer32.map encB).toArray.size = 32) := Lib.hid rfl
  have HF := Lib.hid hf
  have hn1 : ((n : Int) == 1) = false := by rw [beq_eq_false_iff_ne]; omega
  clear h hs hl hK ih hts hf
  generalize splitN n = k at *
  go_enter Tryd.func80, Tryd.ntmps80
  go_upto_region 3 with (fail)
  generalize hw1 : World.alloc w _ = w1
  have hw2 : w.alloc (.cells (zer32.map encB).toArray 29) = w1 := hw1
  rw [hw2] at HCK0 HR0 HOU0
  clear hw1 hw2
  obtain ⟨R, hR⟩ : ∃ R, R = w.heap.size := ⟨_, rfl⟩
  have HRW := Lib.hid hR
  rw [← hR] at HR0 hRF hRC ⊢
  clear hR
  go_cut [8, 9] from 13 to 17 (fun k9 p9 wx => ∃ H, k9 = .int .i64 (k : Int) ∧ p9 = .pointer (some ⟨H, 0, none⟩) ∧ Hid (ABox wx H 29 (tv.map encB)) ∧ Hid (ABox wx R 29 (zer32.map encB)) ∧ Hid (CK w0 wx Lb Mb Pb Lf Tb Cb (.slice A N c) leaf s1) ∧ Hid (Out (TF Lb Mb) w wx) ∧ Hid (¬ TF Lb Mb H) ∧ Hid (H ≠ R ∧ w.heap.size ≤ H))
  case first =>
    have hb0 : Below w1.heap.size w1 w1.drew := (Below.refl _ _).drew
    have hck0 := Lib.hid (HCK0.out.to hb0)
    have hou0 := Lib.hid (HOU0.out.trans (Out.of_below (F := TF Lb Mb) hb0))
    have hR0 := Lib.hid (HR0.out.to hb0)
    have HWS : Hid (w.heap.size ≤ w1.drew.heap.size) := Lib.hid hou0.out.size
    clear hb0
    refine wp_region_D (fun w' => w'.cell? ⟨Tb, 0, none⟩ = some (takeV Lb Mb Pb)) (fun i => decide (i ≤ 4 ∧ i ≠ 3)) (by kernel_rfl) ?_
    generalize w1.drew = W0 at *
    refine wpAnyE_take (i := 0) (oi := ⟨some 13, Op.move (Operand.tmp 0), 3, _, _, _⟩) (v := ?_) rfl (by kernel_rfl) (by kernel_rfl) (by kernel_rfl) (by kernel_rfl) (by kernel_rfl) (fun _ _ _ h => h) (by rfl) ?hykr3_1 (hck0.out.tb.cell 0 rfl) ?hrkr3_1
    case hykr3_1 => (intro wS hSw; (try dsimp only at hSw); go_simp; (try with_reducible rfl))
    all_goals try simp only [Act.put, List.setIfInBounds_toArray, List.set_cons_zero, List.set_cons_succ]
    refine wpAnyE_take (i := 2) (oi := ⟨some 15, Op.load 115 (Operand.tmp 3), 115, _, _, _⟩) (v := ?_) rfl (by kernel_rfl) (by kernel_rfl) (by kernel_rfl) (by kernel_rfl) (by kernel_rfl) (fun _ _ _ h => h) (by rfl) ?hykr3_2 (hck0.out.tb.cell 0 rfl) ?hrkr3_2
    case hykr3_2 => (intro wS hSw; (try dsimp only at hSw); go_simp; (try with_reducible rfl))
    all_goals try simp only [Act.put, List.setIfInBounds_toArray, List.set_cons_zero, List.set_cons_succ]
    refine wpAnyD_two (i := 1) (j := 4) (oi := ⟨some 14, Op.call { callee := Callee.value (Operand.func 62), args := #[Operand.tmp 13], argTypes := #[3] }, 3, _, _, _⟩) (oj := ⟨some 9, Op.alloc 29, 0, _, _, _⟩) (by kernel_rfl) rfl rfl (by rfl) (by rfl) (fun K hK => ?_) (fun K hK => ?_)
    · go_simp
      go_at_call 62
      refine (HSP.out W0).mono ?_
      rintro e w9 ⟨rfl, rfl⟩
      go_simp
      refine hK _ _ (fun _ => ?_) ?_
      · exact hck0.out.tb.cell 0 rfl
      clear hK K
      try simp only [Act.put, List.setIfInBounds_toArray, List.set_cons_zero, List.set_cons_succ]
      refine wpAnyD_two (i := 3) (j := 4) (oi := ⟨some 16, Op.call { callee := Callee.value (Operand.tmp 15), args := #[], argTypes := #[] }, 29, _, _, _⟩) (oj := ⟨some 9, Op.alloc 29, 0, _, _, _⟩) (by kernel_rfl) rfl rfl (by rfl) (by rfl) (fun K hK => ?_) (fun K hK => ?_)
      · go_simp
        unfold takeV
        go_simp
        go_at_call 95
        refine (HTK.out W0 hck0.out.t).mono ?_
        rintro e W1 ⟨rfl, ht1, ho1⟩
        have hck1 := Lib.hid (hck0.out.out ht1 ho1)
        have hou1 := Lib.hid (hou0.out.trans ho1)
        have hR1 := Lib.hid (ho1.box hR0.out hRF.out)
        go_simp
        refine hK _ _ (fun h => absurd h (by decide)) ?_
        clear hK K
        try simp only [Act.put, List.setIfInBounds_toArray, List.set_cons_zero, List.set_cons_succ]
        refine wpAnyD_one (i := 4) (oi := ⟨some 9, Op.alloc 29, 0, _, _, _⟩) rfl (by kernel_rfl) (by rfl) (fun K hK => ?_)
        go_simp
        have hck2 := Lib.hid (hck1.out.to ((Below.refl W1.heap.size W1).alloc (Nat.le_refl _) (.cells (zer32.map encB).toArray 29)))
        have hou2 := Lib.hid (hou1.out.trans (Out.of_below (F := TF Lb Mb) ((Below.refl W1.heap.size W1).alloc (Nat.le_refl _) (.cells (zer32.map encB).toArray 29))))
        have hR2 := Lib.hid (hR1.out.to ((Below.refl W1.heap.size W1).alloc (Nat.le_refl _) (.cells (zer32.map encB).toArray 29)))
        have hZ2 := Lib.hid (hck1.out.t.bs)
        have hH2 : Hid (ABox (W1.alloc (.cells (zer32.map encB).toArray 29)) W1.heap.size 29 (zer32.map encB)) := Lib.hid (heap_alloc_new W1 _)
        have hHF : Hid (¬ TF Lb Mb W1.heap.size) := Lib.hid (by have h1 := hck1.out.t.l.lt; have h2 := hck1.out.t.m.lt; rintro (h | h) <;> omega)
        have hHC : Hid (W1.heap.size ≠ Pb ∧ W1.heap.size ≠ Lf ∧ W1.heap.size ≠ Tb ∧ W1.heap.size ≠ Cb) := Lib.hid ⟨by have := hck1.out.t.p.lt; omega, by have := hck1.out.lf.lt; omega, by have := hck1.out.tb.lt; omega, by have := hck1.out.cb.lt; omega⟩
        have hHR : Hid (W1.heap.size ≠ R ∧ w.heap.size ≤ W1.heap.size) := Lib.hid ⟨by have := hR1.out.lt; omega, hou1.out.size⟩
        refine hK _ _ (fun _ => ?_) ?_
        · exact hck2.out.tb.cell 0 rfl
        clear hK K
        generalize hal : World.alloc W1 _ = W2
        have hal2 : W1.alloc (.cells (zer32.map encB).toArray 29) = W2 := hal
        rw [hal2] at hck2 hou2 hR2 hH2
        clear hal hal2
        generalize W1.heap.size = H at *
        try simp only [Act.put, List.setIfInBounds_toArray, List.set_cons_zero, List.set_cons_succ]
        refine wpAnyD_one (i := 5) (oi := ⟨some 8, Op.assign (Operand.tmp 14), 3, _, _, _⟩) rfl (by kernel_rfl) (by rfl) (fun K hK => ?_)
        go_simp
        refine hK _ _ (fun h => absurd h (by decide)) ?_
        clear hK K
        try simp only [Act.put, List.setIfInBounds_toArray, List.set_cons_zero, List.set_cons_succ]
        refine wpAnyD_one (i := 6) (oi := ⟨none, Op.store 29 (Operand.tmp 9) (Operand.tmp 16), 0, _, _, _⟩) rfl (by kernel_rfl) (by rfl) (fun K hK => ?_)
        have hq := hH2.out
        unfold ABox at hq
        refine wp_store_row 29 (.tmp 9) (.tmp 16) rfl H (tv.map encB).toArray ?_ ?_ 29 (zer32.map encB).toArray hq (by rw [HTSZ.out]; kernel_rfl) (by rw [HTSZ.out]; rfl) (hash_all tv) ?_
        · rfl
        · rfl
        refine hK _ _ (fun h => absurd h (by decide)) ?_
        clear hK K
        try simp only [Act.put]
        refine wpAnyD_done (by kernel_rfl) ?_ _
        unfold Exit.then
        try go_wp2_with fail
        go_meet
        exact ⟨H, rfl, rfl, Lib.hid (setRow_heap _ H _ _ _ _ hq), Lib.hid (abox_setRow hR2.out (Ne.symm hHR.out.1)), Lib.hid (hck2.out.setRow hHF.out hHC.out (by have := hHR.out; have := hRC.out; have := HRW.out; omega) _), Lib.hid (hou2.out.setRow hHR.out.2 _), hHF, hHR⟩
      · go_simp
        have hck1 := Lib.hid (hck0.out.to ((Below.refl W0.heap.size W0).alloc (Nat.le_refl _) (.cells (zer32.map encB).toArray 29)))
        have hou1 := Lib.hid (hou0.out.trans (Out.of_below (F := TF Lb Mb) ((Below.refl W0.heap.size W0).alloc (Nat.le_refl _) (.cells (zer32.map encB).toArray 29))))
        have hR1 := Lib.hid (hR0.out.to ((Below.refl W0.heap.size W0).alloc (Nat.le_refl _) (.cells (zer32.map encB).toArray 29)))
        have hZ1 := Lib.hid (hck0.out.t.bs)
        have hH1 : Hid (ABox (W0.alloc (.cells (zer32.map encB).toArray 29)) W0.heap.size 29 (zer32.map encB)) := Lib.hid (heap_alloc_new W0 _)
        have hHF : Hid (¬ TF Lb Mb W0.heap.size) := Lib.hid (by have h1 := hck0.out.t.l.lt; have h2 := hck0.out.t.m.lt; rintro (h | h) <;> omega)
        have hHC : Hid (W0.heap.size ≠ Pb ∧ W0.heap.size ≠ Lf ∧ W0.heap.size ≠ Tb ∧ W0.heap.size ≠ Cb) := Lib.hid ⟨by have := hck0.out.t.p.lt; omega, by have := hck0.out.lf.lt; omega, by have := hck0.out.tb.lt; omega, by have := hck0.out.cb.lt; omega⟩
        have hHR : Hid (W0.heap.size ≠ R ∧ w.heap.size ≤ W0.heap.size) := Lib.hid ⟨by have := hR0.out.lt; omega, hou0.out.size⟩
        refine hK _ _ (fun _ => ?_) ?_
        · exact hck1.out.tb.cell 0 rfl
        clear hK K
        generalize hal : World.alloc W0 _ = W1
        have hal2 : W0.alloc (.cells (zer32.map encB).toArray 29) = W1 := hal
        rw [hal2] at hck1 hou1 hR1 hH1
        clear hal hal2
        generalize W0.heap.size = H at *
        try simp only [Act.put, List.setIfInBounds_toArray, List.set_cons_zero, List.set_cons_succ]
        refine wpAnyD_one (i := 3) (oi := ⟨some 16, Op.call { callee := Callee.value (Operand.tmp 15), args := #[], argTypes := #[] }, 29, _, _, _⟩) rfl (by kernel_rfl) (by rfl) (fun K hK => ?_)
        go_simp
        unfold takeV
        go_simp
        go_at_call 95
        refine (HTK.out W1 hck1.out.t).mono ?_
        rintro e W2 ⟨rfl, ht2, ho2⟩
        have hck2 := Lib.hid (hck1.out.out ht2 ho2)
        have hou2 := Lib.hid (hou1.out.trans ho2)
        have hR2 := Lib.hid (ho2.box hR1.out hRF.out)
        have hH2 := Lib.hid (ho2.box hH1.out hHF.out)
        go_simp
        refine hK _ _ (fun h => absurd h (by decide)) ?_
        clear hK K
        try simp only [Act.put, List.setIfInBounds_toArray, List.set_cons_zero, List.set_cons_succ]
        refine wpAnyD_one (i := 5) (oi := ⟨some 8, Op.assign (Operand.tmp 14), 3, _, _, _⟩) rfl (by kernel_rfl) (by rfl) (fun K hK => ?_)
        go_simp
        refine hK _ _ (fun h => absurd h (by decide)) ?_
        clear hK K
        try simp only [Act.put, List.setIfInBounds_toArray, List.set_cons_zero, List.set_cons_succ]
        refine wpAnyD_one (i := 6) (oi := ⟨none, Op.store 29 (Operand.tmp 9) (Operand.tmp 16), 0, _, _, _⟩) rfl (by kernel_rfl) (by rfl) (fun K hK => ?_)
        have hq := hH2.out
        unfold ABox at hq
        refine wp_store_row 29 (.tmp 9) (.tmp 16) rfl H (tv.map encB).toArray ?_ ?_ 29 (zer32.map encB).toArray hq (by rw [HTSZ.out]; kernel_rfl) (by rw [HTSZ.out]; rfl) (hash_all tv) ?_
        · rfl
        · rfl
        refine hK _ _ (fun h => absurd h (by decide)) ?_
        clear hK K
        try simp only [Act.put]
        refine wpAnyD_done (by kernel_rfl) ?_ _
        unfold Exit.then
        try go_wp2_with fail
        go_meet
        exact ⟨H, rfl, rfl, Lib.hid (setRow_heap _ H _ _ _ _ hq), Lib.hid (abox_setRow hR2.out (Ne.symm hHR.out.1)), Lib.hid (hck2.out.setRow hHF.out hHC.out (by have := hHR.out; have := hRC.out; have := HRW.out; omega) _), Lib.hid (hou2.out.setRow hHR.out.2 _), hHF, hHR⟩
    · go_simp
      have hck1 := Lib.hid (hck0.out.to ((Below.refl W0.heap.size W0).alloc (Nat.le_refl _) (.cells (zer32.map encB).toArray 29)))
      have hou1 := Lib.hid (hou0.out.trans (Out.of_below (F := TF Lb Mb) ((Below.refl W0.heap.size W0).alloc (Nat.le_refl _) (.cells (zer32.map encB).toArray 29))))
      have hR1 := Lib.hid (hR0.out.to ((Below.refl W0.heap.size W0).alloc (Nat.le_refl _) (.cells (zer32.map encB).toArray 29)))
      have hZ1 := Lib.hid (hck0.out.t.bs)
      have hH1 : Hid (ABox (W0.alloc (.cells (zer32.map encB).toArray 29)) W0.heap.size 29 (zer32.map encB)) := Lib.hid (heap_alloc_new W0 _)
      have hHF : Hid (¬ TF Lb Mb W0.heap.size) := Lib.hid (by have h1 := hck0.out.t.l.lt; have h2 := hck0.out.t.m.lt; rintro (h | h) <;> omega)
      have hHC : Hid (W0.heap.size ≠ Pb ∧ W0.heap.size ≠ Lf ∧ W0.heap.size ≠ Tb ∧ W0.heap.size ≠ Cb) := Lib.hid ⟨by have := hck0.out.t.p.lt; omega, by have := hck0.out.lf.lt; omega, by have := hck0.out.tb.lt; omega, by have := hck0.out.cb.lt; omega⟩
      have hHR : Hid (W0.heap.size ≠ R ∧ w.heap.size ≤ W0.heap.size) := Lib.hid ⟨by have := hR0.out.lt; omega, hou0.out.size⟩
      refine hK _ _ (fun _ => ?_) ?_
      · exact hck1.out.tb.cell 0 rfl
      clear hK K
      generalize hal : World.alloc W0 _ = W1
      have hal2 : W0.alloc (.cells (zer32.map encB).toArray 29) = W1 := hal
      rw [hal2] at hck1 hou1 hR1 hH1
      clear hal hal2
      generalize W0.heap.size = H at *
      try simp only [Act.put, List.setIfInBounds_toArray, List.set_cons_zero, List.set_cons_succ]
      refine wpAnyD_one (i := 1) (oi := ⟨some 14, Op.call { callee := Callee.value (Operand.func 62), args := #[Operand.tmp 13], argTypes := #[3] }, 3, _, _, _⟩) rfl (by kernel_rfl) (by rfl) (fun K hK => ?_)
      go_simp
      go_at_call 62
      refine (HSP.out W1).mono ?_
      rintro e w9 ⟨rfl, rfl⟩
      go_simp
      refine hK _ _ (fun _ => ?_) ?_
      · exact hck1.out.tb.cell 0 rfl
      clear hK K
      try simp only [Act.put, List.setIfInBounds_toArray, List.set_cons_zero, List.set_cons_succ]
      refine wpAnyD_one (i := 3) (oi := ⟨some 16, Op.call { callee := Callee.value (Operand.tmp 15), args := #[], argTypes := #[] }, 29, _, _, _⟩) rfl (by kernel_rfl) (by rfl) (fun K hK => ?_)
      go_simp
      unfold takeV
      go_simp
      go_at_call 95
      refine (HTK.out W1 hck1.out.t).mono ?_
      rintro e W2 ⟨rfl, ht2, ho2⟩
      have hck2 := Lib.hid (hck1.out.out ht2 ho2)
      have hou2 := Lib.hid (hou1.out.trans ho2)
      have hR2 := Lib.hid (ho2.box hR1.out hRF.out)
      have hH2 := Lib.hid (ho2.box hH1.out hHF.out)
      go_simp
      refine hK _ _ (fun h => absurd h (by decide)) ?_
      clear hK K
      try simp only [Act.put, List.setIfInBounds_toArray, List.set_cons_zero, List.set_cons_succ]
      refine wpAnyD_one (i := 5) (oi := ⟨some 8, Op.assign (Operand.tmp 14), 3, _, _, _⟩) rfl (by kernel_rfl) (by rfl) (fun K hK => ?_)
      go_simp
      refine hK _ _ (fun h => absurd h (by decide)) ?_
      clear hK K
      try simp only [Act.put, List.setIfInBounds_toArray, List.set_cons_zero, List.set_cons_succ]
      refine wpAnyD_one (i := 6) (oi := ⟨none, Op.store 29 (Operand.tmp 9) (Operand.tmp 16), 0, _, _, _⟩) rfl (by kernel_rfl) (by rfl) (fun K hK => ?_)
      have hq := hH2.out
      unfold ABox at hq
      refine wp_store_row 29 (.tmp 9) (.tmp 16) rfl H (tv.map encB).toArray ?_ ?_ 29 (zer32.map encB).toArray hq (by rw [HTSZ.out]; kernel_rfl) (by rw [HTSZ.out]; rfl) (hash_all tv) ?_
      · rfl
      · rfl
      refine hK _ _ (fun h => absurd h (by decide)) ?_
      clear hK K
      try simp only [Act.put]
      refine wpAnyD_done (by kernel_rfl) ?_ _
      unfold Exit.then
      try go_wp2_with fail
      go_meet
      exact ⟨H, rfl, rfl, Lib.hid (setRow_heap _ H _ _ _ _ hq), Lib.hid (abox_setRow hR2.out (Ne.symm hHR.out.1)), Lib.hid (hck2.out.setRow hHF.out hHC.out (by have := hHR.out; have := hRC.out; have := HRW.out; omega) _), Lib.hid (hou2.out.setRow hHR.out.2 _), hHF, hHR⟩
  case rest =>
    obtain ⟨H, rfl, rfl, HHB, HRB, HCK, HOU, HHF, HHR⟩ := hcut
    have HF1 := HF.out
    by_cases hik : i < k
    · have hik' : (i : Int) < (k : Int) := by omega
      obtain ⟨cv, s2, hcs⟩ : ∃ cv s2, climbP f p leaf k i s1 = (cv, s2) := ⟨_, _, rfl⟩
      have HCE : Hid (climbP (f + 1) p leaf n i s = (nodeH cv tv, s2)) := Lib.hid (by rw [HCL.out hik, hcs])
      have HC32 : Hid (∀ _ _ : Nat, cv.length = 32) := Lib.hid (fun _ _ => by have := HC32.out k i; rw [hcs] at this; exact this)
      have HCLI : Hid (∀ W, CK w0 W Lb Mb Pb Lf Tb Cb (.slice A N c) leaf s1 → Calls Tryd.prog 80 #[.int .i64 (k : Int), .int .i64 (i : Int), .pointer (some ⟨Lf, 0, none⟩), .pointer (some ⟨Tb, 0, none⟩), .pointer (some ⟨Cb, 0, none⟩)] W fun e w' => e = .returned (hashV cv) ∧ TK w0 w' Lb Mb Pb (.slice A N c) s2 ∧ Out (TF Lb Mb) W w') := Lib.hid (fun W hW => by
        have := HI.out k i s1 W (by omega) (by omega) (by omega) hik HTV.out.2 hW
        rw [hcs] at this; exact this)
      clear hcs HI HCL HCR HTK HSP
      go_upto_region 5 with (fail)
      refine wp_region_D (fun w' => w'.cell? ⟨Cb, 0, none⟩ = some (climbV Lf Tb Cb) ∧ w'.heap[H]? = some (.cells (tv.map encB).toArray 29 (0, 0))) (fun i => decide (i < 5)) (by kernel_rfl) ?_
      have hb0 : Below wc.heap.size wc wc.drew := (Below.refl _ _).drew
      have hck0 := Lib.hid (HCK.out.to hb0)
      have hou0 := Lib.hid (HOU.out.trans (Out.of_below (F := TF Lb Mb) hb0))
      have hR0 := Lib.hid (HRB.out.to hb0)
      have hH0 := Lib.hid (HHB.out.to hb0)
      clear hb0
      generalize wc.drew = W0 at *
      refine wpAnyE_take (i := 0) (oi := ⟨some 20, Op.load 118 (Operand.tmp 4), 118, _, _, _⟩) (v := ?_) rfl (by kernel_rfl) (by kernel_rfl) (by kernel_rfl) (by kernel_rfl) (by kernel_rfl) (fun _ _ _ h => h) (by rfl) ?hykr5_1 (⟨hck0.out.cb.cell 0 rfl, hH0.out⟩) ?hrkr5_1
      case hykr5_1 => (intro wS hSw; (try dsimp only at hSw); go_simp; (try with_reducible rfl))
      all_goals try simp only [Act.put, List.setIfInBounds_toArray, List.set_cons_zero, List.set_cons_succ]
      refine wpAnyE_take (i := 1) (oi := ⟨some 21, Op.move (Operand.tmp 8), 3, _, _, _⟩) (v := ?_) rfl (by kernel_rfl) (by kernel_rfl) (by kernel_rfl) (by kernel_rfl) (by kernel_rfl) (fun _ _ _ h => h) (by rfl) ?hykr5_2 (⟨hck0.out.cb.cell 0 rfl, hH0.out⟩) ?hrkr5_2
      case hykr5_2 => (intro wS hSw; (try dsimp only at hSw); go_simp; (try with_reducible rfl))
      all_goals try simp only [Act.put, List.setIfInBounds_toArray, List.set_cons_zero, List.set_cons_succ]
      refine wpAnyE_take (i := 2) (oi := ⟨some 22, Op.move (Operand.tmp 1), 3, _, _, _⟩) (v := ?_) rfl (by kernel_rfl) (by kernel_rfl) (by kernel_rfl) (by kernel_rfl) (by kernel_rfl) (fun _ _ _ h => h) (by rfl) ?hykr5_3 (⟨hck0.out.cb.cell 0 rfl, hH0.out⟩) ?hrkr5_3
      case hykr5_3 => (intro wS hSw; (try dsimp only at hSw); go_simp; (try with_reducible rfl))
      all_goals try simp only [Act.put, List.setIfInBounds_toArray, List.set_cons_zero, List.set_cons_succ]
      refine wpAnyE_take (i := 4) (oi := ⟨some 24, Op.load 29 (Operand.tmp 9), 29, _, _, _⟩) (v := ?_) rfl (by kernel_rfl) (by kernel_rfl) (by kernel_rfl) (by kernel_rfl) (by kernel_rfl) (fun _ _ _ h => h) (by rfl) ?hykr5_4 (⟨hck0.out.cb.cell 0 rfl, hH0.out⟩) ?hrkr5_4
      case hykr5_4 => (intro wS hSw; refine exec_load_row 29 (.tmp 9) ?_ H ?_ 29 (tv.map encB).toArray (0, 0) _ hSw.2 Tryd.underlying29 ?_ ?_; rfl; rfl; rfl; (rw [HTSZ.out]; kernel_rfl))
      all_goals try simp only [Act.put, List.setIfInBounds_toArray, List.set_cons_zero, List.set_cons_succ]
      refine wpAnyD_one (i := 3) (oi := ⟨some 23, Op.call { callee := Callee.value (Operand.tmp 20), args := #[Operand.tmp 21, Operand.tmp 22], argTypes := #[3, 3] }, 29, _, _, _⟩) rfl (by kernel_rfl) (by rfl) (fun K hK => ?_)
      go_simp
      unfold climbV
      go_simp
      go_at_call 80
      refine (HCLI.out W0 hck0.out).mono ?_
      rintro e W2 ⟨rfl, ht2, ho2⟩
      have hck2 := Lib.hid (hck0.out.out ht2 ho2)
      have hou2 := Lib.hid (hou0.out.trans ho2)
      have hR2 := Lib.hid (ho2.box hR0.out hRF.out)
      have hH2 := Lib.hid (ho2.box hH0.out HHF.out)
      go_simp
      refine hK _ _ (fun _ => ?_) ?_
      · exact ⟨hck2.out.cb.cell 0 rfl, hH2.out⟩
      clear hK K
      try simp only [Act.put, List.setIfInBounds_toArray, List.set_cons_zero, List.set_cons_succ]
      refine wpAnyD_one (i := 5) (oi := ⟨some 25, Op.call { callee := Callee.value (Operand.func 45), args := #[Operand.tmp 23, Operand.tmp 24], argTypes := #[29, 29] }, 29, _, _, _⟩) rfl (by kernel_rfl) (by rfl) (fun K hK => ?_)
      go_simp
      go_at_call 45
      refine (node_any cv tv (HC32.out 0 0) HTV.out.1 W2 (HK.out.to hck2.out.t.b)).mono ?_
      rintro e W3 ⟨rfl, hb3⟩
      have hck3 := Lib.hid (hck2.out.to hb3)
      have hou3 := Lib.hid (hou2.out.trans (Out.of_below (F := TF Lb Mb) hb3))
      have hR3 := Lib.hid (hR2.out.to hb3)
      go_simp
      refine hK _ _ (fun h => absurd h (by decide)) ?_
      clear hK K
      try simp only [Act.put, List.setIfInBounds_toArray, List.set_cons_zero, List.set_cons_succ]
      refine wpAnyD_one (i := 6) (oi := ⟨none, Op.store 29 (Operand.tmp 7) (Operand.tmp 25), 0, _, _, _⟩) rfl (by kernel_rfl) (by rfl) (fun K hK => ?_)
      have hq := hR3.out
      unfold ABox at hq
      have HQS := Lib.hid (hash_size (show (nodeH cv tv).length = 32 from sha_length _))
      refine wp_store_row 29 (.tmp 7) (.tmp 25) rfl R ((nodeH cv tv).map encB).toArray ?_ ?_ 29 (zer32.map encB).toArray hq (by rw [HQS.out]; kernel_rfl) (by rw [HQS.out]; rfl) (hash_all _) ?_
      · rfl
      · rfl
      refine hK _ _ (fun h => absurd h (by decide)) ?_
      clear hK K
      try simp only [Act.put]
      refine wpAnyD_done (by kernel_rfl) ?_ _
      unfold Exit.then
      go_wp2_with fail
      have HX := Lib.hid (setRow_heap _ R _ ((nodeH cv tv).map encB).toArray _ _ hq)
      exact bodyPost_ret (v := .agg ((nodeH cv tv).map encB).toArray) (results_cell_row Tryd.results80 _ _ R _ _ (0, 0) _ rfl HX.out Tryd.underlying29 rfl (by rw [HQS.out]; kernel_rfl)) rfl ⟨by rw [HCE.out]; rfl, by rw [HCE.out]; exact (hck3.out.setRow hRF.out ⟨hRC.out.1, hRC.out.2.1, hRC.out.2.2.1, hRC.out.2.2.2.1⟩ hRC.out.2.2.2.2 _).t, hou3.out.setRow (by have := HRW.out; omega) _⟩
    · have hik' : ¬ (i : Int) < (k : Int) := by omega
      obtain ⟨cv, s2, hcs⟩ : ∃ cv s2, climbP f p leaf (n - k) (i - k) s1 = (cv, s2) := ⟨_, _, rfl⟩
      have HCE : Hid (climbP (f + 1) p leaf n i s = (nodeH tv cv, s2)) := Lib.hid (by rw [HCR.out hik, hcs])
      have HC32 : Hid (∀ _ _ : Nat, cv.length = 32) := Lib.hid (fun _ _ => by have := HC32.out (n - k) (i - k); rw [hcs] at this; exact this)
      have HCLI : Hid (∀ W, CK w0 W Lb Mb Pb Lf Tb Cb (.slice A N c) leaf s1 → Calls Tryd.prog 80 #[.int .i64 ((n : Int) - (k : Int)), .int .i64 ((i : Int) - (k : Int)), .pointer (some ⟨Lf, 0, none⟩), .pointer (some ⟨Tb, 0, none⟩), .pointer (some ⟨Cb, 0, none⟩)] W fun e w' => e = .returned (hashV cv) ∧ TK w0 w' Lb Mb Pb (.slice A N c) s2 ∧ Out (TF Lb Mb) W w') := Lib.hid (fun W hW => by
        have := HI.out (n - k) (i - k) s1 W (by omega) (by omega) (by omega) (by omega) HTV.out.2 hW
        rw [hcs, show ((n - k : Nat) : Int) = (n : Int) - (k : Int) by omega, show ((i - k : Nat) : Int) = (i : Int) - (k : Int) by omega] at this; exact this)
      have hw1 : IntKind.i64.wrap ((n : Int) - (k : Int)) = (n : Int) - (k : Int) := by rw [IntWalk.i64_in _ (by omega)]
      have hw2 : IntKind.i64.wrap ((i : Int) - (k : Int)) = (i : Int) - (k : Int) := by rw [IntWalk.i64_in _ (by omega)]
      clear hcs HI HCL HCR HTK HSP
      go_upto_region 6 with (fail)
      refine wp_region_D (fun w' => w'.cell? ⟨Cb, 0, none⟩ = some (climbV Lf Tb Cb) ∧ w'.heap[H]? = some (.cells (tv.map encB).toArray 29 (0, 0))) (fun i => decide (i < 9)) (by kernel_rfl) ?_
      have hb0 : Below wc.heap.size wc wc.drew := (Below.refl _ _).drew
      have hck0 := Lib.hid (HCK.out.to hb0)
      have hou0 := Lib.hid (HOU.out.trans (Out.of_below (F := TF Lb Mb) hb0))
      have hR0 := Lib.hid (HRB.out.to hb0)
      have hH0 := Lib.hid (HHB.out.to hb0)
      clear hb0
      generalize wc.drew = W0 at *
      refine wpAnyE_take (i := 0) (oi := ⟨some 26, Op.load 29 (Operand.tmp 9), 29, _, _, _⟩) (v := ?_) rfl (by kernel_rfl) (by kernel_rfl) (by kernel_rfl) (by kernel_rfl) (by kernel_rfl) (fun _ _ _ h => h) (by rfl) ?hykr6_1 (⟨hck0.out.cb.cell 0 rfl, hH0.out⟩) ?hrkr6_1
      case hykr6_1 => (intro wS hSw; refine exec_load_row 29 (.tmp 9) ?_ H ?_ 29 (tv.map encB).toArray (0, 0) _ hSw.2 Tryd.underlying29 ?_ ?_; rfl; rfl; rfl; (rw [HTSZ.out]; kernel_rfl))
      all_goals try simp only [Act.put, List.setIfInBounds_toArray, List.set_cons_zero, List.set_cons_succ]
      refine wpAnyE_take (i := 1) (oi := ⟨some 27, Op.load 118 (Operand.tmp 4), 118, _, _, _⟩) (v := ?_) rfl (by kernel_rfl) (by kernel_rfl) (by kernel_rfl) (by kernel_rfl) (by kernel_rfl) (fun _ _ _ h => h) (by rfl) ?hykr6_2 (⟨hck0.out.cb.cell 0 rfl, hH0.out⟩) ?hrkr6_2
      case hykr6_2 => (intro wS hSw; (try dsimp only at hSw); go_simp; (try with_reducible rfl))
      all_goals try simp only [Act.put, List.setIfInBounds_toArray, List.set_cons_zero, List.set_cons_succ]
      refine wpAnyE_take (i := 2) (oi := ⟨some 28, Op.move (Operand.tmp 0), 3, _, _, _⟩) (v := ?_) rfl (by kernel_rfl) (by kernel_rfl) (by kernel_rfl) (by kernel_rfl) (by kernel_rfl) (fun _ _ _ h => h) (by rfl) ?hykr6_3 (⟨hck0.out.cb.cell 0 rfl, hH0.out⟩) ?hrkr6_3
      case hykr6_3 => (intro wS hSw; (try dsimp only at hSw); go_simp; (try with_reducible rfl))
      all_goals try simp only [Act.put, List.setIfInBounds_toArray, List.set_cons_zero, List.set_cons_succ]
      refine wpAnyE_take (i := 3) (oi := ⟨some 29, Op.move (Operand.tmp 8), 3, _, _, _⟩) (v := ?_) rfl (by kernel_rfl) (by kernel_rfl) (by kernel_rfl) (by kernel_rfl) (by kernel_rfl) (fun _ _ _ h => h) (by rfl) ?hykr6_4 (⟨hck0.out.cb.cell 0 rfl, hH0.out⟩) ?hrkr6_4
      case hykr6_4 => (intro wS hSw; (try dsimp only at hSw); go_simp; (try with_reducible rfl))
      all_goals try simp only [Act.put, List.setIfInBounds_toArray, List.set_cons_zero, List.set_cons_succ]
      refine wpAnyE_take (i := 4) (oi := ⟨some 30, Op.binOp BinOp.sub 3 (Operand.tmp 28) (Operand.tmp 29) 3, 3, _, _, _⟩) (v := ?_) rfl (by kernel_rfl) (by kernel_rfl) (by kernel_rfl) (by kernel_rfl) (by kernel_rfl) (fun _ _ _ h => h) (by rfl) ?hykr6_5 (⟨hck0.out.cb.cell 0 rfl, hH0.out⟩) ?hrkr6_5
      case hykr6_5 => (intro wS hSw; (try dsimp only at hSw); go_simp; (try with_reducible rfl))
      all_goals try simp only [Act.put, List.setIfInBounds_toArray, List.set_cons_zero, List.set_cons_succ]
      refine wpAnyE_take (i := 5) (oi := ⟨some 31, Op.move (Operand.tmp 1), 3, _, _, _⟩) (v := ?_) rfl (by kernel_rfl) (by kernel_rfl) (by kernel_rfl) (by kernel_rfl) (by kernel_rfl) (fun _ _ _ h => h) (by rfl) ?hykr6_6 (⟨hck0.out.cb.cell 0 rfl, hH0.out⟩) ?hrkr6_6
      case hykr6_6 => (intro wS hSw; (try dsimp only at hSw); go_simp; (try with_reducible rfl))
      all_goals try simp only [Act.put, List.setIfInBounds_toArray, List.set_cons_zero, List.set_cons_succ]
      refine wpAnyE_take (i := 6) (oi := ⟨some 32, Op.move (Operand.tmp 8), 3, _, _, _⟩) (v := ?_) rfl (by kernel_rfl) (by kernel_rfl) (by kernel_rfl) (by kernel_rfl) (by kernel_rfl) (fun _ _ _ h => h) (by rfl) ?hykr6_7 (⟨hck0.out.cb.cell 0 rfl, hH0.out⟩) ?hrkr6_7
      case hykr6_7 => (intro wS hSw; (try dsimp only at hSw); go_simp; (try with_reducible rfl))
      all_goals try simp only [Act.put, List.setIfInBounds_toArray, List.set_cons_zero, List.set_cons_succ]
      refine wpAnyE_take (i := 7) (oi := ⟨some 33, Op.binOp BinOp.sub 3 (Operand.tmp 31) (Operand.tmp 32) 3, 3, _, _, _⟩) (v := ?_) rfl (by kernel_rfl) (by kernel_rfl) (by kernel_rfl) (by kernel_rfl) (by kernel_rfl) (fun _ _ _ h => h) (by rfl) ?hykr6_8 (⟨hck0.out.cb.cell 0 rfl, hH0.out⟩) ?hrkr6_8
      case hykr6_8 => (intro wS hSw; (try dsimp only at hSw); go_simp; (try with_reducible rfl))
      all_goals try simp only [Act.put, List.setIfInBounds_toArray, List.set_cons_zero, List.set_cons_succ]
      refine wpAnyD_one (i := 8) (oi := ⟨some 34, Op.call { callee := Callee.value (Operand.tmp 27), args := #[Operand.tmp 30, Operand.tmp 33], argTypes := #[3, 3] }, 29, _, _, _⟩) rfl (by kernel_rfl) (by rfl) (fun K hK => ?_)
      go_simp
      unfold climbV
      go_simp
      go_at_call 80
      refine (HCLI.out W0 hck0.out).mono ?_
      rintro e W2 ⟨rfl, ht2, ho2⟩
      have hck2 := Lib.hid (hck0.out.out ht2 ho2)
      have hou2 := Lib.hid (hou0.out.trans ho2)
      have hR2 := Lib.hid (ho2.box hR0.out hRF.out)
      have hH2 := Lib.hid (ho2.box hH0.out HHF.out)
      go_simp
      refine hK _ _ (fun _ => ?_) ?_
      · exact ⟨hck2.out.cb.cell 0 rfl, hH2.out⟩
      clear hK K
      try simp only [Act.put, List.setIfInBounds_toArray, List.set_cons_zero, List.set_cons_succ]
      refine wpAnyD_one (i := 9) (oi := ⟨some 35, Op.call { callee := Callee.value (Operand.func 45), args := #[Operand.tmp 26, Operand.tmp 34], argTypes := #[29, 29] }, 29, _, _, _⟩) rfl (by kernel_rfl) (by rfl) (fun K hK => ?_)
      go_simp
      go_at_call 45
      refine (node_any tv cv HTV.out.1 (HC32.out 0 0) W2 (HK.out.to hck2.out.t.b)).mono ?_
      rintro e W3 ⟨rfl, hb3⟩
      have hck3 := Lib.hid (hck2.out.to hb3)
      have hou3 := Lib.hid (hou2.out.trans (Out.of_below (F := TF Lb Mb) hb3))
      have hR3 := Lib.hid (hR2.out.to hb3)
      go_simp
      refine hK _ _ (fun h => absurd h (by decide)) ?_
      clear hK K
      try simp only [Act.put, List.setIfInBounds_toArray, List.set_cons_zero, List.set_cons_succ]
      refine wpAnyD_one (i := 10) (oi := ⟨none, Op.store 29 (Operand.tmp 7) (Operand.tmp 35), 0, _, _, _⟩) rfl (by kernel_rfl) (by rfl) (fun K hK => ?_)
      have hq := hR3.out
      unfold ABox at hq
      have HQS := Lib.hid (hash_size (show (nodeH tv cv).length = 32 from sha_length _))
      refine wp_store_row 29 (.tmp 7) (.tmp 35) rfl R ((nodeH tv cv).map encB).toArray ?_ ?_ 29 (zer32.map encB).toArray hq (by rw [HQS.out]; kernel_rfl) (by rw [HQS.out]; rfl) (hash_all _) ?_
      · rfl
      · rfl
      refine hK _ _ (fun h => absurd h (by decide)) ?_
      clear hK K
      try simp only [Act.put]
      refine wpAnyD_done (by kernel_rfl) ?_ _
      unfold Exit.then
      go_wp2_with fail
      have HX := Lib.hid (setRow_heap _ R _ ((nodeH tv cv).map encB).toArray _ _ hq)
      exact bodyPost_ret (v := .agg ((nodeH tv cv).map encB).toArray) (results_cell_row Tryd.results80 _ _ R _ _ (0, 0) _ rfl HX.out Tryd.underlying29 rfl (by rw [HQS.out]; kernel_rfl)) rfl ⟨by rw [HCE.out]; rfl, by rw [HCE.out]; exact (hck3.out.setRow hRF.out ⟨hRC.out.1, hRC.out.2.1, hRC.out.2.2.1, hRC.out.2.2.2.1⟩ hRC.out.2.2.2.2 _).t, hou3.out.setRow (by have := HRW.out; omega) _⟩
end Go.Proofs.YthcklfelofpffaaDoor
