/- CertifyLeaves: the law's own function returns true, whatever sheet is given whose encoding is not too large. -/
import Derived.Test.YthcklfelofpffaaDoorCerW36
namespace Go.Proofs.YthcklfelofpffaaDoor
open Go.RowKit
theorem smallB (branch : Int) {s : Sheet} (h : SmallS s) : (sheetB branch s).length ≤ 1073740000 := by have := smallS_size branch h; omega
set_option maxRecDepth 100000 in
set_option maxHeartbeats 4000000 in
theorem leavesLaw_any (branch : Int) (s : Sheet) (A B : Option Addr) (c d : Nat) (C : Option Addr) (cC : Nat) (l : List Int) (w : World) (hbr : I64 branch) (ha : Sl w (fun b => b < w.heap.size) A c s.body) (hb : Sl w (fun b => b < w.heap.size) B d s.notes) (hsz : (sheetB branch s).length ≤ 1073740000)
    (hl : Sl w (fun b => b < w.heap.size) C cC l) (hK : KLaid w) :
    Calls Tryd.prog 3 #[.int .i64 branch, .agg #[.string s.label, .slice A s.body.length c, .slice B s.notes.length d], .slice C l.length cC] w fun e w' => e = .returned (.bool true) ∧ Below w.heap.size w w' := by
  have hba : Below w.heap.size w (w.alloc (.cells #[.string s.label, .slice A s.body.length c, .slice B s.notes.length d] 24)) := (Below.refl _ _).alloc (Nat.le_refl _) _
  have HX1 : Hid (ABox (w.alloc (.cells #[.string s.label, .slice A s.body.length c, .slice B s.notes.length d] 24)) w.heap.size 24 [.string s.label, .slice A s.body.length c, .slice B s.notes.length d]) := Lib.hid (heap_alloc_new w _)
  have HB := Lib.hid hba
  have HLT : Hid (w.heap.size < (w.alloc (.cells #[.string s.label, .slice A s.body.length c, .slice B s.notes.length d] 24)).heap.size) := Lib.hid (by simp)
  have HSO := Lib.hid (fun W (h : Below _ _ W) => some_any C cC l W ((hl.to hba).to h))
  have HRS : Hid (∀ W (v : Value), Below (w.alloc (.cells #[.string s.label, .slice A s.body.length c, .slice B s.notes.length d] 24)).heap.size (w.alloc (.cells #[.string s.label, .slice A s.body.length c, .slice B s.notes.length d] 24)) W → (∀ g, v.ownBlock = some g → (w.alloc (.cells #[.string s.label, .slice A s.body.length c, .slice B s.notes.length d] 24)).heap.size ≤ g) → Rep.R W (fun b => some b ≠ v.ownBlock) [.string s.label, .slice A s.body.length c, .slice B s.notes.length d] s) := Lib.hid (fun W v hW hv => by
    have h1 := (ha.to hba)
    have h2 := (hb.to hba)
    have m1 := ha.1; have m2 := ha.2.1; have m3 := hb.1; have m4 := hb.2.1
    unfold maxLen at m2 m4
    exact ⟨_, _, rfl, ⟨A, c, rfl, (h1.keep (Kept.all hW) hW.size).mono (fun i hi _ e => by have := hv i e.symm; omega), by omega⟩, ⟨B, d, rfl, (h2.keep (Kept.all hW) hW.size).mono (fun i hi _ e => by have := hv i e.symm; omega), by omega⟩⟩)
  have HK := Lib.hid (hK.to hba)
  have HBR := Lib.hid hbr
  have HSZ := Lib.hid hsz
  clear hba ha hb hsz hl hK hbr
  go_enter Tryd.func3, Tryd.ntmps3
  go_upto_region 1 with (fail)
  generalize (w.alloc (.cells #[.string s.label, .slice A s.body.length c, .slice B s.notes.length d] 24)) = w1 at *
  have SP : ∀ W, Below w1.heap.size w1 W → W.cell? ⟨w.heap.size, 0, none⟩ = some (.string s.label) ∧ W.cell? ⟨w.heap.size, 1, none⟩ = some (.slice A s.body.length c) ∧ W.cell? ⟨w.heap.size, 2, none⟩ = some (.slice B s.notes.length d) := fun W h =>
    ⟨(HX1.out.to h).cell 0 rfl, (HX1.out.to h).cell 1 rfl, (HX1.out.to h).cell 2 rfl⟩
  go_cut [7] from 9 to 14 (fun p7 wx => ∃ (A9 : Option Addr) (c9 : Nat) (all : List Sheet), p7 = .slice A9 all.length c9 ∧ Hid (Own wx w1.heap.size 24 (.slice A9 all.length c9) all) ∧ Hid (all.length ≤ 13) ∧ Hid (∀ x ∈ all, (sheetB branch x).length ≤ 1073740000) ∧ Hid (Below w1.heap.size w1 wx))
  case first =>
    refine wp_region_D (fun w' => w'.cell? ⟨w.heap.size, 0, none⟩ = some (.string s.label) ∧ w'.cell? ⟨w.heap.size, 1, none⟩ = some (.slice A s.body.length c) ∧ w'.cell? ⟨w.heap.size, 2, none⟩ = some (.slice B s.notes.length d)) (fun i => decide (i < 4)) (by kernel_rfl) ?_
    have hb0 : Hid (Below w1.heap.size w1 w1.drew) := Lib.hid (Below.refl _ _).drew
    generalize w1.drew = W0 at *
    refine wpAnyE_take (i := 0) (oi := ⟨some 9, Op.move (Operand.tmp 2), 25, _, _, _⟩) (v := ?_) rfl (by kernel_rfl) (by kernel_rfl) (by kernel_rfl) (by kernel_rfl) (by kernel_rfl) (fun _ _ _ h => h) (by rfl) ?hykr1_1 ((SP _ hb0.out)) ?hrkr1_1
    case hykr1_1 => (intro wS hSw; clear hSw; go_simp; (try with_reducible rfl))
    all_goals try simp only [Act.put, List.setIfInBounds_toArray, List.set_cons_zero, List.set_cons_succ]
    refine wpAnyE_take (i := 2) (oi := ⟨some 11, Op.load 24 (Operand.tmp 4), 24, _, _, _⟩) (v := ?_) rfl (by kernel_rfl) (by kernel_rfl) (by kernel_rfl) (by kernel_rfl) (by kernel_rfl) (fun _ _ _ h => h) (by rfl) ?hykr1_2 ((SP _ hb0.out)) ?hrkr1_2
    case hykr1_2 => (intro wS hSw; (have hq := hSw.1); (have hq2 := hSw.2.1); (have hq3 := hSw.2.2); clear hSw; go_simp; (try with_reducible rfl))
    all_goals try simp only [Act.put, List.setIfInBounds_toArray, List.set_cons_zero, List.set_cons_succ]
    refine wpAnyD_two (i := 1) (j := 3) (oi := ⟨some 10, Op.call { callee := Callee.value (Operand.func 10), args := #[Operand.tmp 9], argTypes := #[25] }, 26, _, _, _⟩) (oj := ⟨some 12, Op.buildSlice 26 1 #[(0, Operand.tmp 11)], 26, _, _, _⟩) (by kernel_rfl) rfl rfl (by rfl) (by rfl) (fun K hK => ?_) (fun K hK => ?_)
    · go_simp
      go_at_call 10
      refine (HSO.out W0 hb0.out).mono ?_
      rintro e W1 ⟨v1, rfl, sh, hown1, hlen, hsm, hbs1⟩
      have hb1 := Lib.hid (hb0.out.trans (hbs1.mono hb0.out.size))
      have HOW := Lib.hid (hown1.re (B := w1.heap.size) hb0.out.size)
      have HLN := Lib.hid hlen
      have HSM := Lib.hid hsm
      clear hown1 hbs1 hlen hsm
      go_simp
      refine hK _ _ (fun _ => ?_) ?_
      · exact (SP _ hb1.out)
      clear hK K
      try simp only [Act.put, List.setIfInBounds_toArray, List.set_cons_zero, List.set_cons_succ]
      refine wpAnyD_one (i := 3) (oi := ⟨some 12, Op.buildSlice 26 1 #[(0, Operand.tmp 11)], 26, _, _, _⟩) rfl (by kernel_rfl) (by rfl) (fun K hK => ?_)
      go_simp
      have hb2 := Lib.hid (hb1.out.alloc hb1.out.size (.cells #[.string s.label, .slice A s.body.length c, .slice B s.notes.length d] 24))
      have hL2 : Hid ((W1.alloc (.cells #[.string s.label, .slice A s.body.length c, .slice B s.notes.length d] 24)).heap[W1.heap.size]? = some (.cells #[.string s.label, .slice A s.body.length c, .slice B s.notes.length d] 24 (0, 0))) := Lib.hid (heap_alloc_new W1 _)
      have HOX := Lib.hid (HOW.out.alloc (.cells #[.string s.label, .slice A s.body.length c, .slice B s.notes.length d] 24))
      refine hK _ _ (fun _ => ?_) ?_
      · exact (SP _ hb2.out)
      clear hK K
      generalize W1.heap.size = Bk at *
      generalize W1.alloc (.cells #[.string s.label, .slice A s.body.length c, .slice B s.notes.length d] 24) = W2 at *
      try simp only [Act.put, List.setIfInBounds_toArray, List.set_cons_zero, List.set_cons_succ]
      refine wpAnyD_one (i := 4) (oi := ⟨some 13, Op.call { callee := Callee.builtin Builtin.append, args := #[Operand.tmp 10, Operand.tmp 12], argTypes := #[26, 26] }, 26, _, _, _⟩) rfl (by kernel_rfl) (by rfl) (fun K hK => ?_)
      refine wp_push (α := Sheet) _ (.tmp 10) (.tmp 12) 26 rfl w1.heap.size 24 (.agg #[.string ⟨#[]⟩, .slice none 0 0, .slice none 0 0]) 64 Tryd.underlying26 sheet_info rfl (by decide) v1 sh rfl HOX.out Bk #[.string s.label, .slice A s.body.length c, .slice B s.notes.length d] s (0, 0) 24 rfl hL2.out (HRS.out W2 v1 hb2.out (fun g hg => (HOX.out.lt g hg).1)) (by have := HLN.out; omega) (by have := HLN.out; omega) hb2.out.size _ rfl ?_
      intro g5 p5 w5 hown5 hg5 hat5 hlt5
      have HO5 := Lib.hid hown5
      have HB5 := Lib.hid (below_cat hb2.out HOX.out hb2.out.size hg5)
      clear hown5 hg5 hat5
      refine hK _ _ (fun h => absurd h (by decide)) ?_
      clear hK K
      try simp only [Act.put, List.setIfInBounds_toArray, List.set_cons_zero, List.set_cons_succ]
      refine wpAnyD_one (i := 5) (oi := ⟨some 7, Op.assign (Operand.tmp 13), 26, _, _, _⟩) rfl (by kernel_rfl) (by rfl) (fun K hK => ?_)
      go_simp
      refine hK _ _ (fun h => absurd h (by decide)) ?_
      clear hK K
      try simp only [Act.put, List.setIfInBounds_toArray, List.set_cons_zero, List.set_cons_succ]
      refine wpAnyD_done (by kernel_rfl) ?_ _
      unfold Exit.then
      try go_wp2_with fail
      go_meet
      have HLL : Hid ((sh ++ [s]).length = sh.length + 1) := Lib.hid (by simp)
      exact ⟨some ⟨g5, 0, none⟩, p5, sh ++ [s], by rw [HLL.out], by rw [HLL.out]; exact HO5, Lib.hid (by have := HLN.out; simp; omega), Lib.hid (fun x hx => by rcases List.mem_append.1 hx with h | h; exact smallB branch (HSM.out x h); obtain rfl := List.mem_singleton.1 h; exact HSZ.out), HB5⟩
    · go_simp
      have hb1 := Lib.hid (hb0.out.alloc hb0.out.size (.cells #[.string s.label, .slice A s.body.length c, .slice B s.notes.length d] 24))
      have hL1 : Hid ((W0.alloc (.cells #[.string s.label, .slice A s.body.length c, .slice B s.notes.length d] 24)).heap[W0.heap.size]? = some (.cells #[.string s.label, .slice A s.body.length c, .slice B s.notes.length d] 24 (0, 0))) := Lib.hid (heap_alloc_new W0 _)
      refine hK _ _ (fun _ => ?_) ?_
      · exact (SP _ hb1.out)
      clear hK K
      generalize W0.heap.size = Bk at *
      generalize W0.alloc (.cells #[.string s.label, .slice A s.body.length c, .slice B s.notes.length d] 24) = W1 at *
      try simp only [Act.put, List.setIfInBounds_toArray, List.set_cons_zero, List.set_cons_succ]
      refine wpAnyD_one (i := 1) (oi := ⟨some 10, Op.call { callee := Callee.value (Operand.func 10), args := #[Operand.tmp 9], argTypes := #[25] }, 26, _, _, _⟩) rfl (by kernel_rfl) (by rfl) (fun K hK => ?_)
      go_simp
      go_at_call 10
      refine (HSO.out W1 hb1.out).mono ?_
      rintro e W2 ⟨v1, rfl, sh, hown2, hlen, hsm, hbs2⟩
      have hb2 := Lib.hid (hb1.out.trans (hbs2.mono hb1.out.size))
      have HOW := Lib.hid (hown2.re (B := w1.heap.size) hb1.out.size)
      have HLN := Lib.hid hlen
      have HSM := Lib.hid hsm
      have hL2 := Lib.hid ((hbs2.block _ (Array.getElem?_eq_some_iff.1 hL1.out).1).trans hL1.out)
      clear hown2 hbs2 hlen hsm
      go_simp
      refine hK _ _ (fun _ => ?_) ?_
      · exact (SP _ hb2.out)
      clear hK K
      try simp only [Act.put, List.setIfInBounds_toArray, List.set_cons_zero, List.set_cons_succ]
      refine wpAnyD_one (i := 4) (oi := ⟨some 13, Op.call { callee := Callee.builtin Builtin.append, args := #[Operand.tmp 10, Operand.tmp 12], argTypes := #[26, 26] }, 26, _, _, _⟩) rfl (by kernel_rfl) (by rfl) (fun K hK => ?_)
      refine wp_push (α := Sheet) _ (.tmp 10) (.tmp 12) 26 rfl w1.heap.size 24 (.agg #[.string ⟨#[]⟩, .slice none 0 0, .slice none 0 0]) 64 Tryd.underlying26 sheet_info rfl (by decide) v1 sh rfl HOW.out Bk #[.string s.label, .slice A s.body.length c, .slice B s.notes.length d] s (0, 0) 24 rfl hL2.out (HRS.out W2 v1 hb2.out (fun g hg => (HOW.out.lt g hg).1)) (by have := HLN.out; omega) (by have := HLN.out; omega) hb2.out.size _ rfl ?_
      intro g5 p5 w5 hown5 hg5 hat5 hlt5
      have HO5 := Lib.hid hown5
      have HB5 := Lib.hid (below_cat hb2.out HOW.out hb2.out.size hg5)
      clear hown5 hg5 hat5
      refine hK _ _ (fun h => absurd h (by decide)) ?_
      clear hK K
      try simp only [Act.put, List.setIfInBounds_toArray, List.set_cons_zero, List.set_cons_succ]
      refine wpAnyD_one (i := 5) (oi := ⟨some 7, Op.assign (Operand.tmp 13), 26, _, _, _⟩) rfl (by kernel_rfl) (by rfl) (fun K hK => ?_)
      go_simp
      refine hK _ _ (fun h => absurd h (by decide)) ?_
      clear hK K
      try simp only [Act.put, List.setIfInBounds_toArray, List.set_cons_zero, List.set_cons_succ]
      refine wpAnyD_done (by kernel_rfl) ?_ _
      unfold Exit.then
      try go_wp2_with fail
      go_meet
      have HLL : Hid ((sh ++ [s]).length = sh.length + 1) := Lib.hid (by simp)
      exact ⟨some ⟨g5, 0, none⟩, p5, sh ++ [s], by rw [HLL.out], by rw [HLL.out]; exact HO5, Lib.hid (by have := HLN.out; simp; omega), Lib.hid (fun x hx => by rcases List.mem_append.1 hx with h | h; exact smallB branch (HSM.out x h); obtain rfl := List.mem_singleton.1 h; exact HSZ.out), HB5⟩
  case rest =>
    obtain ⟨A9, c9, all, rfl, HO, HLA, HSA, HBc⟩ := hcut
    have HSL := Lib.hid (HO.out.slv rfl)
    have HB1 := Lib.hid (HB.out.trans (HBc.out.mono HB.out.size))
    have HK1 := Lib.hid (HK.out.to HBc.out)
    have hl13 : all.length ≤ 13 := HLA.out
    clear HO HBc HSO HRS SP HX1 HLT HK HB
    go_wp2_with fail
    go_loopw [8] (fun i wr => ∃ k : Nat, k ≤ all.length ∧ i = .int .i64 k ∧ Hid (Below wc.heap.size wc wr)) (fun i _ => all.length - (intOf i).toNat)
    case atStart => exact ⟨0, Nat.zero_le _, rfl, Lib.hid (Below.refl _ _)⟩
    case round =>
      obtain ⟨k, hk, rfl, HBw⟩ := hrel
      by_cases hlt : k < all.length
      · obtain ⟨b, o, A7, c7, A8, c8, rfl, hbS, hbl, e0, e1, e2, s1, s2⟩ := sheet_at (HSL.out.to HBw.out) hlt
        have hkl : (k : Int) < (all.length : Int) := by omega
        have hk0 : (0 : Int) ≤ (k : Int) := by omega
        have HZX := Lib.hid (HSA.out _ (List.getElem_mem hlt))
        generalize all[k] = x at *
        have HE := Lib.hid (And.intro hbl (And.intro e0 (And.intro e1 e2)))
        have HS1 := Lib.hid s1
        have HS2 := Lib.hid s2
        clear e0 e1 e2 s1 s2 hbl
        go_upto_region 5 with (fail)
        refine wp_region_calm (by kernel_rfl) (by kernel_rfl) ?_
        intro TT hTT g hgb hgm
        have a0 := fun dd => ((hgb dd).cell (p := ⟨b, o + k * 3, none⟩) HE.out.1).trans HE.out.2.1
        have a1 := fun dd => ((hgb dd).cell (p := ⟨b, o + k * 3 + 1, none⟩) HE.out.1).trans HE.out.2.2.1
        have a2 := fun dd => ((hgb dd).cell (p := ⟨b, o + k * 3 + 2, none⟩) HE.out.1).trans HE.out.2.2.2
        have HC1 : Hid (∀ dd, Calls Tryd.prog 11 #[.int .i64 branch, .agg #[.string x.label, .slice A7 x.body.length c7, .slice A8 x.notes.length c8]] (g dd) fun e w' => e = .returned (hashV (leafOf branch x)) ∧ ∃ m, w' = g m) := Lib.hid (fun dd => by
          refine (leafS_any branch x A7 A8 c7 c8 (g dd) HBR.out (HS1.out.to (hgb dd)) (HS2.out.to (hgb dd)) HZX.out ((HK1.out.to HBw.out).to (hgb dd))).mono ?_
          rintro e w' ⟨rfl, hb⟩
          exact ⟨rfl, hgm dd w' hb⟩)
        have HC2 : Hid (∀ dd, Calls Tryd.prog 12 #[.int .i64 branch, .agg #[.string x.label, .slice A7 x.body.length c7, .slice A8 x.notes.length c8]] (g dd) fun e w' => e = .returned (hashV (leafOf branch x)) ∧ ∃ m, w' = g m) := Lib.hid (fun dd => by
          refine (rleaf_any branch x A7 A8 c7 c8 (g dd) HBR.out (HS1.out.to (hgb dd)) (HS2.out.to (hgb dd)) HZX.out).mono ?_
          rintro e w' ⟨rfl, hb⟩
          exact ⟨rfl, hgm dd w' hb⟩)
        have HNQ : Hid (∀ W, (binOp .neq 29 (.agg ((leafOf branch x).map encB).toArray) (.agg ((leafOf branch x).map encB).toArray)).run Tryd.prog W = .ok (.bool false) W) := Lib.hid (fun W => by rw [run_hash_neq (leafOf branch x) (leafOf branch x) (sha_length _) (sha_length _) W]; simp)
        have HGB := Lib.hid hgb
        clear hgb hgm
        generalize leafOf branch x = lf at *
        go_big_quiet_step (fail)
        go_big_quiet_step (fail)
        go_big_quiet_step (fail)
        go_big_quiet_step (fail)
        go_big_quiet_step (fail)
        go_big_quiet_step ((go_at_call 11; with_reducible refine Calls.mono (HC1.out _) ?_; rintro e w6 ⟨rfl, hm⟩; exact ⟨rfl, hm⟩))
        go_big_quiet_step (fail)
        go_big_quiet_step (fail)
        go_big_quiet_step (fail)
        go_big_quiet_step (fail)
        go_big_quiet_step (fail)
        go_big_quiet_step ((go_at_call 12; with_reducible refine Calls.mono (HC2.out _) ?_; rintro e w6 ⟨rfl, hm⟩; exact ⟨rfl, hm⟩))
        refine wpQuiet_run (by rfl) (.bool false) ?_ ?_
        · rintro _ ⟨dd, rfl⟩
          exact exec_neq 29 29 (.tmp 25) (.tmp 31) rfl (lf.map encB).toArray (lf.map encB).toArray rfl rfl guard_h false (HNQ.out _)
        try simp only [Act.put, List.setIfInBounds_toArray, List.set_cons_zero, List.set_cons_succ]
        refine wpQuiet_nil ?_
        rintro _ ⟨nq, rfl⟩
        unfold Exit.then
        go_wp2_with fail
        go_roundw
        case rel => exact ⟨k + 1, by omega, by go_num, Lib.hid (HBw.out.trans ((HGB.out nq).mono HBw.out.size))⟩
        case measure => (simp [intOf]; omega)
      · have hkl : ¬ (k : Int) < (all.length : Int) := by omega
        have HLV := Lib.hid (lives_any wr (HK1.out.to HBw.out))
        go_wp2_with fail
        refine HLV.out.mono ?_
        rintro e w9 ⟨rfl, hb9⟩
        go_wp2_with fail
        go_ret
        exact ⟨rfl, HB1.out.trans ((HBw.out.trans (hb9.mono HBw.out.size)).mono HB1.out.size)⟩
end Go.Proofs.YthcklfelofpffaaDoor
