/- A proof that a leaf is included is verified: merkle.Includes. No condition but sizes and what the table holds. -/
import Derived.Test.YthcklfelofpffaaDoorCerW19
import Derived.Laws.EntriesVeiled
namespace Go.Proofs.YthcklfelofpffaaDoor
open Go.RowKit
section
variable {P : Program} {ops : Array Oper} {Q : Exit → Act → World → Prop} {md : Region.Mode} {S : World → Prop} {hd : Nat → Bool}
/-- One that is not wanted is passed over. -/
theorem wpAnyD_skip {i : Nat} {oi : Oper} {fuel : Nat} {listed : Array Bool} {a : Act} {w : World} (hi : ops[i]? = some oi) (hr : Region.ready md ops listed = [i]) (hw : Region.wanted oi (yielded ops a.tmps) = false) (hS : hd i = true → S w)
    (h : wpAnyD P md ops Q S hd fuel (listed.setIfInBounds i true) (a.put oi.dst undef) w) : wpAnyD P md ops Q S hd (fuel + 1) listed a w := by
  refine ⟨fun h0 => (by rw [hr] at h0; cases h0), fun j hj => ?_⟩
  rw [hr, List.mem_singleton] at hj
  subst hj
  unfold wpOp
  simp only [hi, hw, Bool.false_eq_true, if_false]
  exact ⟨hS, h⟩
end
/-- Two hash values compared. -/
theorem wp_eqlH {o : Oper} {a : Act} {K : Act → World → Prop} {Q : Exit → Act → World → Prop} {w : World} (x y : Operand) (ho : o.op = .binOp .eql 29 x y 29) (l m : List UInt8) (hx : a.eval x = hashV l) (hy : a.eval y = hashV m) (hl : l.length = 32) (hm : m.length = 32)
    (h : K (a.put o.dst (.bool (decide (l = m)))) w) : o.wp Tryd.prog a w K Q := by
  have h1 := run_hash_eql l m hl hm w
  have hq : (execOp a.eval o).run Tryd.prog w = .ok (.value (.bool (decide (l = m)))) w := by
    unfold execOp
    unfold hashV at hx hy
    simp only [ho, hx, hy, Sem.run_bind, run_eqGuard_agg w .eql 29 x y _ _ guard_h, h1, Result.andThen_ok, Sem.run_pure]
  unfold Oper.wp
  rw [hq]
  exact h
def incRes (cv root : List UInt8) (s : Nat × Bool) : Bool := decide (cv = root) && decide (s = (0, false))
/-- Whether a path proves that a leaf is the one with an index. -/
def includesP (root : List UInt8) (n i : Int) (leaf : List UInt8) (p : List H32) : Bool :=
  decide (0 ≤ i ∧ i < n ∧ n ≤ 65536) && incRes (climbP n.toNat p leaf n.toNat i.toNat (p.length, false)).1 root (climbP n.toNat p leaf n.toNat i.toNat (p.length, false)).2
theorem climb_any (w0 : World) (Lb Mb Pb Lf Tb Cb : Nat) (A : Option Addr) (c N : Nat) (p : List H32) (leaf : List UInt8) (hl : leaf.length = 32) (hK : KLaid w0)
    (hs : Sl w0 (fun b => b < w0.heap.size) A c p) (hN : p.length = N) (hN2 : N ≤ 9223372036854775807) : ∀ (f n i : Nat) (s : Nat × Bool) (w : World), 1 ≤ n → n ≤ f + 1 → n ≤ 65536 → i < n → s.1 ≤ N → CK w0 w Lb Mb Pb Lf Tb Cb (.slice A N c) leaf s →
      Calls Tryd.prog 80 #[.int .i64 (n : Int), .int .i64 (i : Int), .pointer (some ⟨Lf, 0, none⟩), .pointer (some ⟨Tb, 0, none⟩), .pointer (some ⟨Cb, 0, none⟩)] w fun e w' => e = .returned (hashV (climbP f p leaf n i s).1) ∧ TK w0 w' Lb Mb Pb (.slice A N c) (climbP f p leaf n i s).2 ∧ Out (TF Lb Mb) w w' := by
  intro f
  induction f with
  | zero =>
    intro n i s w h1 h2 _ _ hs1 h
    obtain rfl : n = 1 := by omega
    rw [climbP_one]
    exact climb1_any w0 w Lb Mb Pb Lf Tb Cb i _ leaf s hl h
  | succ f ih =>
    intro n i s w h1 h2 h3 h4 hs1 h
    by_cases hn : n = 1
    · subst hn
      rw [climbP_one]
      exact climb1_any w0 w Lb Mb Pb Lf Tb Cb i _ leaf s hl h
    · exact climb2_any f w0 Lb Mb Pb Lf Tb Cb A c N p leaf hl hK hs hN hN2 ih n i s w (by omega) h2 h3 h4 hs1 h
set_option maxRecDepth 100000 in
set_option maxHeartbeats 4000000 in
theorem includes_no (root leaf : List UInt8) (n i : Int) (A : Option Addr) (c N : Nat) (p : List H32) (w : World) (h : ¬ (0 ≤ i ∧ i < n ∧ n ≤ 65536)) :
    Calls Tryd.prog 54 #[hashV root, .int .i64 n, .int .i64 i, hashV leaf, .slice A N c] w fun e w' => e = .returned (.bool (includesP root n i leaf p)) ∧ Below w.heap.size w w' := by
  have HE : Hid (includesP root n i leaf p = false) := Lib.hid (by unfold includesP; rw [decide_eq_false h]; rfl)
  have HB : Hid (Below w.heap.size w ((w.alloc (.cells (root.map encB).toArray 29)).alloc (.cells (leaf.map encB).toArray 29))) := Lib.hid (((Below.refl _ _).alloc (Nat.le_refl _) _).alloc (by simp) _)
  unfold hashV
  generalize (root.map encB).toArray = rs at *
  generalize (leaf.map encB).toArray = ls at *
  by_cases h1 : i < 0
  · go_enter Tryd.func54, Tryd.ntmps54
    go_wp2_with fail
    go_ret
    exact ⟨ret_bool HE.out.symm, HB.out⟩
  · by_cases h2 : n ≤ i
    · go_enter Tryd.func54, Tryd.ntmps54
      go_wp2_with fail
      go_ret
      exact ⟨ret_bool HE.out.symm, HB.out⟩
    · have h3 : 65536 < n := by omega
      go_enter Tryd.func54, Tryd.ntmps54
      go_wp2_with fail
      go_ret
      exact ⟨ret_bool HE.out.symm, HB.out⟩
set_option maxRecDepth 100000 in
set_option maxHeartbeats 4000000 in
theorem includes_yes (root leaf : List UInt8) (hr : root.length = 32) (hl : leaf.length = 32) (n i : Nat) (A : Option Addr) (c N : Nat) (p : List H32) (w : World) (hi : i < n) (hn : n ≤ 65536) (hs : Sl w (fun b => b < w.heap.size) A c p) (hN : p.length = N) (hN2 : N ≤ 9223372036854775807) (hK : KLaid w) :
    Calls Tryd.prog 54 #[hashV root, .int .i64 (n : Int), .int .i64 (i : Int), hashV leaf, .slice A N c] w fun e w' => e = .returned (.bool (incRes (climbP n p leaf n i (N, false)).1 root (climbP n p leaf n i (N, false)).2)) ∧ Below w.heap.size w w' := by
  have HRL := Lib.hid hr
  have HRSZ := Lib.hid (hash_size hr)
  have HS := Lib.hid hs
  have HK := Lib.hid hK
  have HI := Lib.hid hi
  have HN := Lib.hid hN
  have HLL := Lib.hid hl
  have h1 : ¬ (i : Int) < 0 := by omega
  have h2 : ¬ n ≤ i := by omega
  have h3 : ¬ (65536 : Int) < (n : Int) := by omega
  obtain ⟨cv, s2, hcs⟩ : ∃ cv s2, climbP n p leaf n i (N, false) = (cv, s2) := ⟨_, _, rfl⟩
  have HCV : Hid (cv.length = 32) := Lib.hid (by have := (climbP_32 (h32_len hs) hl n n i (N, false) (by simp only; omega)).1; rw [hcs] at this; exact this)
  have HCC : Hid (climbP n p leaf n i (N, false) = (cv, s2)) := Lib.hid hcs
  rw [hcs]
  clear hcs hs hK hN hr hl
  have HB0 : Hid (Below w.heap.size w ((w.alloc (.cells (root.map encB).toArray 29)).alloc (.cells (leaf.map encB).toArray 29))) := Lib.hid (((Below.refl _ _).alloc (Nat.le_refl _) _).alloc (by simp) _)
  have HRB0 : Hid (ABox ((w.alloc (.cells (root.map encB).toArray 29)).alloc (.cells (leaf.map encB).toArray 29)) w.heap.size 29 (root.map encB)) := Lib.hid (by unfold ABox; rw [Below.heap_alloc _ _ _ (by simp)]; exact heap_alloc_new w _)
  have HLB0 : Hid (ABox ((w.alloc (.cells (root.map encB).toArray 29)).alloc (.cells (leaf.map encB).toArray 29)) (w.heap.size + 1) 29 (leaf.map encB)) := Lib.hid (heap_at (by simp))
  unfold hashV
  go_enter Tryd.func54, Tryd.ntmps54
  go_upto_region 3 with (fail)
  generalize hw1 : World.alloc (World.alloc w _) _ = w1
  have hw2 : (w.alloc (.cells (root.map encB).toArray 29)).alloc (.cells (leaf.map encB).toArray 29) = w1 := hw1
  rw [hw2] at HB0 HRB0 HLB0
  clear hw1 hw2
  have HTA := Lib.hid (taker_any w1 A c N)
  have HS1 := Lib.hid (HS.out.to HB0.out)
  have HK1 := Lib.hid (HK.out.to HB0.out)
  have HSZ1 : Hid (w.heap.size + 1 < w1.heap.size) := Lib.hid HLB0.out.lt
  go_wp2_with fail
  refine HTA.out.mono ?_
  rintro e w2 ⟨Lb, Mb, Pb, rfl, ht2⟩
  have hba : Below w2.heap.size w2 ((w2.alloc (.cells #[takeV Lb Mb Pb] 115)).alloc (.cells #[climbV (w.heap.size + 1) w2.heap.size (w2.heap.size + 1)] 118)) := ((Below.refl _ _).alloc (Nat.le_refl _) _).alloc (by simp) _
  have HB2 := Lib.hid (HB0.out.trans (ht2.b.mono HB0.out.size))
  have HBB := Lib.hid (HB2.out.trans (hba.mono HB2.out.size))
  have HRB := Lib.hid ((HRB0.out.to ht2.b).to hba)
  have HTF : Hid (w1.heap.size ≤ Lb ∧ w1.heap.size ≤ Mb) := Lib.hid ⟨ht2.bl, ht2.bm⟩
  have HLM : Hid (Lb < w2.heap.size ∧ Mb < w2.heap.size ∧ w1.heap.size ≤ w2.heap.size) := Lib.hid ⟨ht2.l.lt, ht2.m.lt, ht2.bs⟩
  have HCK : Hid (CK w1 ((w2.alloc (.cells #[takeV Lb Mb Pb] 115)).alloc (.cells #[climbV (w.heap.size + 1) w2.heap.size (w2.heap.size + 1)] 118)) Lb Mb Pb (w.heap.size + 1) w2.heap.size (w2.heap.size + 1) (.slice A N c) leaf (N, false)) := Lib.hid ⟨ht2.to hba, (HLB0.out.to ht2.b).to hba, by unfold ABox; rw [Below.heap_alloc _ _ _ (by simp)]; exact heap_alloc_new w2 _, heap_at (by simp),
    by have := HTF.out; have := HSZ1.out; rintro (h | h) <;> omega, by have := HLM.out; rintro (h | h) <;> omega, by have := HLM.out; rintro (h | h) <;> omega⟩
  have hTF : Hid (∀ g, TF Lb Mb g → w.heap.size ≤ g) := Lib.hid (by have := HTF.out; have := HSZ1.out; rintro g (h | h) <;> omega)
  have hRF : Hid (¬ TF Lb Mb w.heap.size) := Lib.hid (by have := HTF.out; have := HSZ1.out; rintro (h | h) <;> omega)
  have HCLI : Hid (∀ W, CK w1 W Lb Mb Pb (w.heap.size + 1) w2.heap.size (w2.heap.size + 1) (.slice A N c) leaf (N, false) → Calls Tryd.prog 80 #[.int .i64 (n : Int), .int .i64 (i : Int), .pointer (some ⟨w.heap.size + 1, 0, none⟩), .pointer (some ⟨w2.heap.size, 0, none⟩), .pointer (some ⟨w2.heap.size + 1, 0, none⟩)] W fun e w' => e = .returned (hashV cv) ∧ TK w1 w' Lb Mb Pb (.slice A N c) s2 ∧ Out (TF Lb Mb) W w') := Lib.hid (fun W hW => by
    have := climb_any w1 Lb Mb Pb (w.heap.size + 1) w2.heap.size (w2.heap.size + 1) A c N p leaf HLL.out HK1.out HS1.out HN.out hN2 n n i (N, false) W (by omega) (by omega) hn hi (Nat.le_refl _) hW
    rw [HCC.out] at this; exact this)
  clear ht2 hba
  unfold takeV doneV
  go_upto_region 6 with (fail)
  generalize hw5 : World.alloc (World.alloc w2 _) _ = w6
  have hw6 : ((w2.alloc (.cells #[takeV Lb Mb Pb] 115)).alloc (.cells #[climbV (w.heap.size + 1) w2.heap.size (w2.heap.size + 1)] 118)) = w6 := hw5
  rw [hw6] at HBB HRB HCK
  clear hw5 hw6 HTA HS1 HSZ1 HB2 HTF HLM HB0 HRB0 HLB0
  generalize w2.heap.size + 1 = Cb at *
  generalize w2.heap.size = Tb at *
  generalize w.heap.size + 1 = Lf at *
  obtain ⟨Rb, hRb⟩ : ∃ R, R = w.heap.size := ⟨_, rfl⟩
  rw [← hRb] at HRB hRF ⊢
  have HRbe := Lib.hid hRb
  clear hRb
  refine wp_region_D (fun w' => w'.cell? ⟨Cb, 0, none⟩ = some (climbV Lf Tb Cb) ∧ w'.heap[Rb]? = some (.cells (root.map encB).toArray 29 (0, 0))) (fun i => decide (i < 5)) (by kernel_rfl) ?_
  have hb0 : Below w6.heap.size w6 w6.drew := (Below.refl _ _).drew
  have hck0 := Lib.hid (HCK.out.to hb0)
  have hbb0 := Lib.hid (HBB.out.trans (hb0.mono HBB.out.size))
  have hR0 := Lib.hid (HRB.out.to hb0)
  clear hb0
  generalize w6.drew = W0 at *
  refine wpAnyE_take (i := 0) (oi := ⟨some 31, Op.load 118 (Operand.tmp 13), 118, _, _, _⟩) (v := ?_) rfl (by kernel_rfl) (by kernel_rfl) (by kernel_rfl) (by kernel_rfl) (by kernel_rfl) (fun _ _ _ h => h) (by rfl) ?hykr6_1 (⟨hck0.out.cb.cell 0 rfl, hR0.out⟩) ?hrkr6_1
  case hykr6_1 => (intro wS hSw; (try dsimp only at hSw); go_simp; (try with_reducible rfl))
  all_goals try simp only [Act.put, List.setIfInBounds_toArray, List.set_cons_zero, List.set_cons_succ]
  refine wpAnyE_take (i := 1) (oi := ⟨some 32, Op.move (Operand.tmp 1), 3, _, _, _⟩) (v := ?_) rfl (by kernel_rfl) (by kernel_rfl) (by kernel_rfl) (by kernel_rfl) (by kernel_rfl) (fun _ _ _ h => h) (by rfl) ?hykr6_2 (⟨hck0.out.cb.cell 0 rfl, hR0.out⟩) ?hrkr6_2
  case hykr6_2 => (intro wS hSw; (try dsimp only at hSw); go_simp; (try with_reducible rfl))
  all_goals try simp only [Act.put, List.setIfInBounds_toArray, List.set_cons_zero, List.set_cons_succ]
  refine wpAnyE_take (i := 2) (oi := ⟨some 33, Op.move (Operand.tmp 2), 3, _, _, _⟩) (v := ?_) rfl (by kernel_rfl) (by kernel_rfl) (by kernel_rfl) (by kernel_rfl) (by kernel_rfl) (fun _ _ _ h => h) (by rfl) ?hykr6_3 (⟨hck0.out.cb.cell 0 rfl, hR0.out⟩) ?hrkr6_3
  case hykr6_3 => (intro wS hSw; (try dsimp only at hSw); go_simp; (try with_reducible rfl))
  all_goals try simp only [Act.put, List.setIfInBounds_toArray, List.set_cons_zero, List.set_cons_succ]
  refine wpAnyE_take (i := 4) (oi := ⟨some 35, Op.load 29 (Operand.tmp 5), 29, _, _, _⟩) (v := ?_) rfl (by kernel_rfl) (by kernel_rfl) (by kernel_rfl) (by kernel_rfl) (by kernel_rfl) (fun _ _ _ h => h) (by rfl) ?hykr6_4 (⟨hck0.out.cb.cell 0 rfl, hR0.out⟩) ?hrkr6_4
  case hykr6_4 => (intro wS hSw; refine exec_load_row 29 (.tmp 5) ?_ Rb ?_ 29 (root.map encB).toArray (0, 0) _ hSw.2 Tryd.underlying29 ?_ ?_; rfl; rfl; rfl; (rw [HRSZ.out]; kernel_rfl))
  all_goals try simp only [Act.put, List.setIfInBounds_toArray, List.set_cons_zero, List.set_cons_succ]
  refine wpAnyD_one (i := 3) (oi := ⟨some 34, Op.call { callee := Callee.value (Operand.tmp 31), args := #[Operand.tmp 32, Operand.tmp 33], argTypes := #[3, 3] }, 29, _, _, _⟩) rfl (by kernel_rfl) (by rfl) (fun K hK => ?_)
  go_simp
  unfold climbV
  go_simp
  go_at_call 80
  refine (HCLI.out W0 hck0.out).mono ?_
  rintro e W2 ⟨rfl, ht2, ho2⟩
  have hck2 := Lib.hid (hck0.out.out ht2 ho2)
  have hb2 := Lib.hid (hbb0.out.trans (ho2.below hTF.out hbb0.out.size))
  have hR2 := Lib.hid (ho2.box hR0.out hRF.out)
  go_simp
  refine hK _ _ (fun _ => ?_) ?_
  · exact ⟨hck2.out.cb.cell 0 rfl, hR2.out⟩
  clear hK K
  try simp only [Act.put, List.setIfInBounds_toArray, List.set_cons_zero, List.set_cons_succ]
  refine wpAnyD_one (i := 5) (oi := ⟨some 36, Op.binOp BinOp.eql 29 (Operand.tmp 34) (Operand.tmp 35) 29, 4, _, _, _⟩) rfl (by kernel_rfl) (by rfl) (fun K hK => ?_)
  refine wp_eqlH (.tmp 34) (.tmp 35) rfl cv root ?_ ?_ HCV.out HRL.out ?_
  · rfl
  · rfl
  refine hK _ _ (fun h => absurd h (by decide)) ?_
  clear hK K
  try simp only [Act.put, List.setIfInBounds_toArray, List.set_cons_zero, List.set_cons_succ]
  generalize hq : decide (cv = root) = q at *
  have HQ := Lib.hid hq
  clear hq
  cases q with
  | true =>
    have HRES : Hid (incRes cv root s2 = decide (s2 = (0, false))) := Lib.hid (by unfold incRes; rw [HQ.out]; rfl)
    refine wpAnyD_one (i := 6) (oi := ⟨some 37, Op.move (Operand.tmp 36), 4, _, _, _⟩) rfl (by kernel_rfl) (by rfl) (fun K hK => ?_)
    go_simp
    refine hK _ _ (fun h => absurd h (by decide)) ?_
    clear hK K
    try simp only [Act.put, List.setIfInBounds_toArray, List.set_cons_zero, List.set_cons_succ]
    refine wpAnyD_one (i := 7) (oi := ⟨some 38, Op.move (Operand.tmp 12), 31, _, _, _⟩) rfl (by kernel_rfl) (by rfl) (fun K hK => ?_)
    go_simp
    refine hK _ _ (fun h => absurd h (by decide)) ?_
    clear hK K
    try simp only [Act.put, List.setIfInBounds_toArray, List.set_cons_zero, List.set_cons_succ]
    refine wpAnyD_one (i := 8) (oi := ⟨some 39, Op.call { callee := Callee.value (Operand.tmp 38), args := #[], argTypes := #[] }, 4, _, _, _⟩) rfl (by kernel_rfl) (by rfl) (fun K hK => ?_)
    go_simp
    go_at_call 96
    refine (tdone_any w1 W2 Lb Mb Pb _ s2 hck2.out.t).mono ?_
    rintro e w9 ⟨rfl, rfl⟩
    go_simp
    refine hK _ _ (fun h => absurd h (by decide)) ?_
    clear hK K
    try simp only [Act.put, List.setIfInBounds_toArray, List.set_cons_zero, List.set_cons_succ]
    refine wpAnyD_one (i := 9) (oi := ⟨some 40, Op.pick (Operand.tmp 37) (Operand.tmp 39) (Operand.const (Value.bool false)), 4, _, _, _⟩) rfl (by kernel_rfl) (by rfl) (fun K hK => ?_)
    go_simp
    refine hK _ _ (fun h => absurd h (by decide)) ?_
    clear hK K
    try simp only [Act.put, List.setIfInBounds_toArray, List.set_cons_zero, List.set_cons_succ]
    refine wpAnyD_one (i := 10) (oi := ⟨some 10, Op.assign (Operand.tmp 40), 4, _, _, _⟩) rfl (by kernel_rfl) (by rfl) (fun K hK => ?_)
    go_simp
    refine hK _ _ (fun h => absurd h (by decide)) ?_
    clear hK K
    try simp only [Act.put, List.setIfInBounds_toArray, List.set_cons_zero, List.set_cons_succ]
    refine wpAnyD_done (by kernel_rfl) ?_ _
    unfold Exit.then
    go_wp2_with fail
    go_ret
    exact ⟨ret_bool HRES.out.symm, hb2.out⟩
  | false =>
    have HRES : Hid (incRes cv root s2 = false) := Lib.hid (by unfold incRes; rw [HQ.out]; rfl)
    refine wpAnyD_one (i := 6) (oi := ⟨some 37, Op.move (Operand.tmp 36), 4, _, _, _⟩) rfl (by kernel_rfl) (by rfl) (fun K hK => ?_)
    go_simp
    refine hK _ _ (fun h => absurd h (by decide)) ?_
    clear hK K
    try simp only [Act.put, List.setIfInBounds_toArray, List.set_cons_zero, List.set_cons_succ]
    refine wpAnyD_skip (i := 7) (oi := ⟨some 38, Op.move (Operand.tmp 12), 31, _, _, _⟩) rfl (by kernel_rfl) (by rfl) (fun h => absurd h (by decide)) ?_
    try simp only [Act.put, List.setIfInBounds_toArray, List.set_cons_zero, List.set_cons_succ]
    refine wpAnyD_skip (i := 8) (oi := ⟨some 39, Op.call { callee := Callee.value (Operand.tmp 38), args := #[], argTypes := #[] }, 4, _, _, _⟩) rfl (by kernel_rfl) (by rfl) (fun h => absurd h (by decide)) ?_
    try simp only [Act.put, List.setIfInBounds_toArray, List.set_cons_zero, List.set_cons_succ]
    refine wpAnyD_one (i := 9) (oi := ⟨some 40, Op.pick (Operand.tmp 37) (Operand.tmp 39) (Operand.const (Value.bool false)), 4, _, _, _⟩) rfl (by kernel_rfl) (by rfl) (fun K hK => ?_)
    go_simp
    refine hK _ _ (fun h => absurd h (by decide)) ?_
    clear hK K
    try simp only [Act.put, List.setIfInBounds_toArray, List.set_cons_zero, List.set_cons_succ]
    refine wpAnyD_one (i := 10) (oi := ⟨some 10, Op.assign (Operand.tmp 40), 4, _, _, _⟩) rfl (by kernel_rfl) (by rfl) (fun K hK => ?_)
    go_simp
    refine hK _ _ (fun h => absurd h (by decide)) ?_
    clear hK K
    try simp only [Act.put, List.setIfInBounds_toArray, List.set_cons_zero, List.set_cons_succ]
    refine wpAnyD_done (by kernel_rfl) ?_ _
    unfold Exit.then
    go_wp2_with fail
    go_ret
    exact ⟨ret_bool HRES.out.symm, hb2.out⟩
theorem includes_any (root leaf : List UInt8) (hr : root.length = 32) (hl : leaf.length = 32) (n i : Int) (A : Option Addr) (c N : Nat) (p : List H32) (w : World) (hs : Sl w (fun b => b < w.heap.size) A c p) (hN : p.length = N) (hN2 : N ≤ 9223372036854775807) (hK : KLaid w) :
    Calls Tryd.prog 54 #[hashV root, .int .i64 n, .int .i64 i, hashV leaf, .slice A N c] w fun e w' => e = .returned (.bool (includesP root n i leaf p)) ∧ Below w.heap.size w w' := by
  by_cases h : 0 ≤ i ∧ i < n ∧ n ≤ 65536
  · have e : includesP root n i leaf p = incRes (climbP n.toNat p leaf n.toNat i.toNat (N, false)).1 root (climbP n.toNat p leaf n.toNat i.toNat (N, false)).2 := by
      unfold includesP; rw [decide_eq_true h, hN]; rfl
    obtain ⟨n', rfl⟩ : ∃ k : Nat, n = (k : Int) := ⟨n.toNat, by omega⟩
    obtain ⟨i', rfl⟩ : ∃ k : Nat, i = (k : Int) := ⟨i.toNat, by omega⟩
    rw [e]
    exact includes_yes root leaf hr hl n' i' A c N p w (by omega) (by omega) hs hN hN2 hK
  · exact includes_no root leaf n i A c N p w h
end Go.Proofs.YthcklfelofpffaaDoor
