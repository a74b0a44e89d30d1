/- CertifyLeaves: the law's own function returns true, whatever sheet is given whose encoding is not too large.
The reference's proof for a label, in memory of its own; lists apart from one block. No condition but sizes.
The reference's generator of sheets: Some, with the sheets' words in memory of its own. No condition. -/
import Derived.Test.YthcklfelofpffaaDoorCPd12
namespace Go.Proofs.YthcklfelofpffaaDoor
open Go.RowKit
theorem smallB (branch : Int) {s : Sheet} (h : SmallS s) : (sheetB branch s).length ≤ 1073740000 := by have := smallS_size branch h; omega
set_option maxRecDepth 100000 in
set_option maxHeartbeats 4000000 in
theorem leavesLaw_any (branch : Int) (s : Sheet) (A B : Option Addr) (c d : Nat) (C : Option Addr) (cC : Nat) (l : List Int) (w : World) (hbr : I64 branch) (ha : Sl w (fun b => b < w.heap.size) A c s.body) (hb : Sl w (fun b => b < w.heap.size) B d s.notes) (hsz : (sheetB branch s).length ≤ 1073740000)
    (hl : Sl w (fun b => b < w.heap.size) C cC l) (hK : KLaid w) :
    Calls Tryd.prog 3 #[.int .i64 branch, .agg #[.string s.label, .slice A s.body.length c, .slice B s.notes.length d], .slice C l.length cC] w fun e w' => e = .returned (.bool true) ∧ Below w.heap.size w w' := by
  have hba : Below w.heap.size w (w.alloc (.cells #[.string s.label, .slice A s.body.length c, .slice B s.notes.length d] 24)) := (Below.refl _ _).alloc (Nat.le_refl _) _
  have HX1 : Hid (ABox (w.alloc (.cells #[.string s.label, .slice A s.body.length c, .slice B s.notes.length d] 24)) w.heap.size 24 [.string s.label, .slice A s.body.length c, .slice B s.notes.length d]) := Lib.hid (heap_alloc_new w _)
  have HB := Lib.hid hba
  have HLT : Hid (w.heap.size < (w.alloc (.cells #[.string s.label, .slice A s.body.length c, .slice B s.notes.length d] 24)).heap.size) := Lib.hid (by simp)
  have HSO := Lib.hid (fun W (h : Below _ _ W) => some_any C cC l W ((hl.to hba).to h))
  have HRS : Hid (∀ W (v : Value), Below (w.alloc (.cells #[.string s.label, .slice A s.body.length c, .slice B s.notes.length d] 24)).heap.size (w.alloc (.cells #[.string s.label, .slice A s.body.length c, .slice B s.notes.length d] 24)) W → (∀ g, v.ownBlock = some g → (w.alloc (.cells #[.string s.label, .slice A s.body.length c, .slice B s.notes.length d] 24)).heap.size ≤ g) → Rep.R W (fun b => some b ≠ v.ownBlock) [.string s.label, .slice A s.body.length c, .slice B s.notes.length d] s) := Lib.hid (fun W v hW hv => by
    have h1 := (ha.to hba)
    have h2 := (hb.to hba)
    have m1 := ha.1; have m2 := ha.2.1; have m3 := hb.1; have m4 := hb.2.1
    unfold maxLen at m2 m4
    exact ⟨_, _, rfl, ⟨A, c, rfl, (h1.keep (Kept.all hW) hW.size).mono (fun i hi _ e => by have := hv i e.symm; omega), by omega⟩, ⟨B, d, rfl, (h2.keep (Kept.all hW) hW.size).mono (fun i hi _ e => by have := hv i e.symm; omega), by omega⟩⟩)
  have HK := Lib.hid (hK.to hba)
  have HBR := Lib.hid hbr
  have HSZ := Lib.hid hsz
  clear hba ha hb hsz hl hK hbr
  go_enter Tryd.func3, Tryd.ntmps3
  go_upto_region 1 with (fail)
  generalize (w.alloc (.cells #[.string s.label, .slice A s.body.length c, .slice B s.notes.length d] 24)) = w1 at *
  have SP : ∀ W, Below w1.heap.size w1 W → W.cell? ⟨w.heap.size, 0, none⟩ = some (.string s.label) ∧ W.cell? ⟨w.heap.size, 1, none⟩ = some (.slice A s.body.length c) ∧ W.cell? ⟨w.heap.size, 2, none⟩ = some (.slice B s.notes.length d) := fun W h =>
    ⟨(HX1.out.to h).cell 0 rfl, (HX1.out.to h).cell 1 rfl, (HX1.out.to h).cell 2 rfl⟩
  go_cut [7] from 9 to 14 (fun p7 wx => ∃ (A9 : Option Addr) (c9 : Nat) (all : List Sheet), p7 = .slice A9 all.length c9 ∧ Hid (Own wx w1.heap.size 24 (.slice A9 all.length c9) all) ∧ Hid (all.length ≤ 13) ∧ Hid (∀ x ∈ all, (sheetB branch x).length ≤ 1073740000) ∧ Hid (Below w1.heap.size w1 wx))
  case first =>
    refine wp_region_D (fun w' => w'.cell? ⟨w.heap.size, 0, none⟩ = some (.string s.label) ∧ w'.cell? ⟨w.heap.size, 1, none⟩ = some (.slice A s.body.length c) ∧ w'.cell? ⟨w.heap.size, 2, none⟩ = some (.slice B s.notes.length d)) (fun i => decide (i < 4)) (by kernel_rfl) ?_
    have hb0 : Hid (Below w1.heap.size w1 w1.drew) := Lib.hid (Below.refl _ _).drew
    generalize w1.drew = W0 at *
    refine wpAnyE_take (i := 0) (oi := ⟨some 9, Op.move (Operand.tmp 2), 25, _, _, _⟩) (v := ?_) rfl (by kernel_rfl) (by kernel_rfl) (by kernel_rfl) (by kernel_rfl) (by kernel_rfl) (fun _ _ _ h => h) (by rfl) ?hykr1_1 ((SP _ hb0.out)) ?hrkr1_1
    case hykr1_1 => (intro wS hSw; clear hSw; go_simp; (try with_reducible rfl))
    all_goals try simp only [Act.put, List.setIfInBounds_toArray, List.set_cons_zero, List.set_cons_succ]
    refine wpAnyE_take (i := 2) (oi := ⟨some 11, Op.load 24 (Operand.tmp 4), 24, _, _, _⟩) (v := ?_) rfl (by kernel_rfl) (by kernel_rfl) (by kernel_rfl) (by kernel_rfl) (by kernel_rfl) (fun _ _ _ h => h) (by rfl) ?hykr1_2 ((SP _ hb0.out)) ?hrkr1_2
    case hykr1_2 => (intro wS hSw; (have hq := hSw.1); (have hq2 := hSw.2.1); (have hq3 := hSw.2.2); clear hSw; go_simp; (try with_reducible rfl))
    all_goals try simp only [Act.put, List.setIfInBounds_toArray, List.set_cons_zero, List.set_cons_succ]
    refine wpAnyD_two (i := 1) (j := 3) (oi := ⟨some 10, Op.call { callee := Callee.value (Operand.func 10), args := #[Operand.tmp 9], argTypes := #[25] }, 26, _, _, _⟩) (oj := ⟨some 12, Op.buildSlice 26 1 #[(0, Operand.tmp 11)], 26, _, _, _⟩) (by kernel_rfl) rfl rfl (by rfl) (by rfl) (fun K hK => ?_) (fun K hK => ?_)
    · go_simp
      go_at_call 10
      refine (HSO.out W0 hb0.out).mono ?_
      rintro e W1 ⟨v1, rfl, sh, hown1, hlen, hsm, hbs1⟩
      have hb1 := Lib.hid (hb0.out.trans (hbs1.mono hb0.out.size))
      have HOW := Lib.hid (hown1.re (B := w1.heap.size) hb0.out.size)
      have HLN := Lib.hid hlen
      have HSM := Lib.hid hsm
      clear hown1 hbs1 hlen hsm
      go_simp
      refine hK _ _ (fun _ => ?_) ?_
      · exact (SP _ hb1.out)
      clear hK K
      try simp only [Act.put, List.setIfInBounds_toArray, List.set_cons_zero, List.set_cons_succ]
      refine wpAnyD_one (i := 3) (oi := ⟨some 12, Op.buildSlice 26 1 #[(0, Operand.tmp 11)], 26, _, _, _⟩) rfl (by kernel_rfl) (by rfl) (fun K hK => ?_)
      go_simp
      have hb2 := Lib.hid (hb1.out.alloc hb1.out.size (.cells #[.string s.label, .slice A s.body.length c, .slice B s.notes.length d] 24))
      have hL2 : Hid ((W1.alloc (.cells #[.string s.label, .slice A s.body.length c, .slice B s.notes.length d] 24)).heap[W1.heap.size]? = some (.cells #[.string s.label, .slice A s.body.length c, .slice B s.notes.length d] 24 (0, 0))) := Lib.hid (heap_alloc_new W1 _)
      have HOX := Lib.hid (HOW.out.alloc (.cells #[.string s.label, .slice A s.body.length c, .slice B s.notes.length d] 24))
      refine hK _ _ (fun _ => ?_) ?_
      · exact (SP _ hb2.out)
      clear hK K
      generalize W1.heap.size = Bk at *
      generalize W1.alloc (.cells #[.string s.label, .slice A s.body.length c, .slice B s.notes.length d] 24) = W2 at *
      try simp only [Act.put, List.setIfInBounds_toArray, List.set_cons_zero, List.set_cons_succ]
      refine wpAnyD_one (i := 4) (oi := ⟨some 13, Op.call { callee := Callee.builtin Builtin.append, args := #[Operand.tmp 10, Operand.tmp 12], argTypes := #[26, 26] }, 26, _, _, _⟩) rfl (by kernel_rfl) (by rfl) (fun K hK => ?_)
      refine wp_push (α := Sheet) _ (.tmp 10) (.tmp 12) 26 rfl w1.heap.size 24 (.agg #[.string ⟨#[]⟩, .slice none 0 0, .slice none 0 0]) 64 Tryd.underlying26 sheet_info rfl (by decide) v1 sh rfl HOX.out Bk #[.string s.label, .slice A s.body.length c, .slice B s.notes.length d] s (0, 0) 24 rfl hL2.out (HRS.out W2 v1 hb2.out (fun g hg => (HOX.out.lt g hg).1)) (by have := HLN.out; omega) (by have := HLN.out; omega) hb2.out.size _ rfl ?_
      intro g5 p5 w5 hown5 hg5 hat5 hlt5
      have HO5 := Lib.hid hown5
      have HB5 := Lib.hid (below_cat hb2.out HOX.out hb2.out.size hg5)
      clear hown5 hg5 hat5
      refine hK _ _ (fun h => absurd h (by decide)) ?_
      clear hK K
      try simp only [Act.put, List.setIfInBounds_toArray, List.set_cons_zero, List.set_cons_succ]
      refine wpAnyD_one (i := 5) (oi := ⟨some 7, Op.assign (Operand.tmp 13), 26, _, _, _⟩) rfl (by kernel_rfl) (by rfl) (fun K hK => ?_)
      go_simp
      refine hK _ _ (fun h => absurd h (by decide)) ?_
      clear hK K
      try simp only [Act.put, List.setIfInBounds_toArray, List.set_cons_zero, List.set_cons_succ]
      refine wpAnyD_done (by kernel_rfl) ?_ _
      unfold Exit.then
      try go_wp2_with fail
      go_meet
      have HLL : Hid ((sh ++ [s]).length = sh.length + 1) := Lib.hid (by simp)
      exact ⟨some ⟨g5, 0, none⟩, p5, sh ++ [s], by rw [HLL.out], by rw [HLL.out]; exact HO5, Lib.hid (by have := HLN.out; simp; omega), Lib.hid (fun x hx => by rcases List.mem_append.1 hx with h | h; exact smallB branch (HSM.out x h); obtain rfl := List.mem_singleton.1 h; exact HSZ.out), HB5⟩
    · go_simp
      have hb1 := Lib.hid (hb0.out.alloc hb0.out.size (.cells #[.string s.label, .slice A s.body.length c, .slice B s.notes.length d] 24))
      have hL1 : Hid ((W0.alloc (.cells #[.string s.label, .slice A s.body.length c, .slice B s.notes.length d] 24)).heap[W0.heap.size]? = some (.cells #[.string s.label, .slice A s.body.length c, .slice B s.notes.length d] 24 (0, 0))) := Lib.hid (heap_alloc_new W0 _)
      refine hK _ _ (fun _ => ?_) ?_
      · exact (SP _ hb1.out)
      clear hK K
      generalize W0.heap.size = Bk at *
      generalize W0.alloc (.cells #[.string s.label, .slice A s.body.length c, .slice B s.notes.length d] 24) = W1 at *
      try simp only [Act.put, List.setIfInBounds_toArray, List.set_cons_zero, List.set_cons_succ]
      refine wpAnyD_one (i := 1) (oi := ⟨some 10, Op.call { callee := Callee.value (Operand.func 10), args := #[Operand.tmp 9], argTypes := #[25] }, 26, _, _, _⟩) rfl (by kernel_rfl) (by rfl) (fun K hK => ?_)
      go_simp
      go_at_call 10
      refine (HSO.out W1 hb1.out).mono ?_
      rintro e W2 ⟨v1, rfl, sh, hown2, hlen, hsm, hbs2⟩
      have hb2 := Lib.hid (hb1.out.trans (hbs2.mono hb1.out.size))
      have HOW := Lib.hid (hown2.re (B := w1.heap.size) hb1.out.size)
      have HLN := Lib.hid hlen
      have HSM := Lib.hid hsm
      have hL2 := Lib.hid ((hbs2.block _ (Array.getElem?_eq_some_iff.1 hL1.out).1).trans hL1.out)
      clear hown2 hbs2 hlen hsm
      go_simp
      refine hK _ _ (fun _ => ?_) ?_
      · exact (SP _ hb2.out)
      clear hK K
      try simp only [Act.put, List.setIfInBounds_toArray, List.set_cons_zero, List.set_cons_succ]
      refine wpAnyD_one (i := 4) (oi := ⟨some 13, Op.call { callee := Callee.builtin Builtin.append, args := #[Operand.tmp 10, Operand.tmp 12], argTypes := #[26, 26] }, 26, _, _, _⟩) rfl (by kernel_rfl) (by rfl) (fun K hK => ?_)
      refine wp_push (α := Sheet) _ (.tmp 10) (.tmp 12) 26 rfl w1.heap.size 24 (.agg #[.string ⟨#[]⟩, .slice none 0 0, .slice none 0 0]) 64 Tryd.underlying26 sheet_info rfl (by decide) v1 sh rfl HOW.out Bk #[.string s.label, .slice A s.body.length c, .slice B s.notes.length d] s (0, 0) 24 rfl hL2.out (HRS.out W2 v1 hb2.out (fun g hg => (HOW.out.lt g hg).1)) (by have := HLN.out; omega) (by have := HLN.out; omega) hb2.out.size _ rfl ?_
      intro g5 p5 w5 hown5 hg5 hat5 hlt5
      have HO5 := Lib.hid hown5
      have HB5 := Lib.hid (below_cat hb2.out HOW.out hb2.out.size hg5)
      clear hown5 hg5 hat5
      refine hK _ _ (fun h => absurd h (by decide)) ?_
      clear hK K
      try simp only [Act.put, List.setIfInBounds_toArray, List.set_cons_zero, List.set_cons_succ]
      refine wpAnyD_one (i := 5) (oi := ⟨some 7, Op.assign (Operand.tmp 13), 26, _, _, _⟩) rfl (by kernel_rfl) (by rfl) (fun K hK => ?_)
      go_simp
      refine hK _ _ (fun h => absurd h (by decide)) ?_
      clear hK K
      try simp only [Act.put, List.setIfInBounds_toArray, List.set_cons_zero, List.set_cons_succ]
      refine wpAnyD_done (by kernel_rfl) ?_ _
      unfold Exit.then
      try go_wp2_with fail
      go_meet
      have HLL : Hid ((sh ++ [s]).length = sh.length + 1) := Lib.hid (by simp)
      exact ⟨some ⟨g5, 0, none⟩, p5, sh ++ [s], by rw [HLL.out], by rw [HLL.out]; exact HO5, Lib.hid (by have := HLN.out; simp; omega), Lib.hid (fun x hx => by rcases List.mem_append.1 hx with h | h; exact smallB branch (HSM.out x h); obtain rfl := List.mem_singleton.1 h; exact HSZ.out), HB5⟩
  case rest =>
    obtain ⟨A9, c9, all, rfl, HO, HLA, HSA, HBc⟩ := hcut
    have HSL := Lib.hid (HO.out.slv rfl)
    have HB1 := Lib.hid (HB.out.trans (HBc.out.mono HB.out.size))
    have HK1 := Lib.hid (HK.out.to HBc.out)
    have hl13 : all.length ≤ 13 := HLA.out
    clear HO HBc HSO HRS SP HX1 HLT HK HB
    go_wp2_with fail
    go_loopw [8] (fun i wr => ∃ k : Nat, k ≤ all.length ∧ i = .int .i64 k ∧ Hid (Below wc.heap.size wc wr)) (fun i _ => all.length - (intOf i).toNat)
    case atStart => exact ⟨0, Nat.zero_le _, rfl, Lib.hid (Below.refl _ _)⟩
    case round =>
      obtain ⟨k, hk, rfl, HBw⟩ := hrel
      by_cases hlt : k < all.length
      · obtain ⟨b, o, A7, c7, A8, c8, rfl, hbS, hbl, e0, e1, e2, s1, s2⟩ := sheet_at (HSL.out.to HBw.out) hlt
        have hkl : (k : Int) < (all.length : Int) := by omega
        have hk0 : (0 : Int) ≤ (k : Int) := by omega
        have HZX := Lib.hid (HSA.out _ (List.getElem_mem hlt))
        generalize all[k] = x at *
        have HE := Lib.hid (And.intro hbl (And.intro e0 (And.intro e1 e2)))
        have HS1 := Lib.hid s1
        have HS2 := Lib.hid s2
        clear e0 e1 e2 s1 s2 hbl
        go_upto_region 5 with (fail)
        refine wp_region_calm (by kernel_rfl) (by kernel_rfl) ?_
        intro TT hTT g hgb hgm
        have a0 := fun dd => ((hgb dd).cell (p := ⟨b, o + k * 3, none⟩) HE.out.1).trans HE.out.2.1
        have a1 := fun dd => ((hgb dd).cell (p := ⟨b, o + k * 3 + 1, none⟩) HE.out.1).trans HE.out.2.2.1
        have a2 := fun dd => ((hgb dd).cell (p := ⟨b, o + k * 3 + 2, none⟩) HE.out.1).trans HE.out.2.2.2
        have HC1 : Hid (∀ dd, Calls Tryd.prog 11 #[.int .i64 branch, .agg #[.string x.label, .slice A7 x.body.length c7, .slice A8 x.notes.length c8]] (g dd) fun e w' => e = .returned (hashV (leafOf branch x)) ∧ ∃ m, w' = g m) := Lib.hid (fun dd => by
          refine (leafS_any branch x A7 A8 c7 c8 (g dd) HBR.out (HS1.out.to (hgb dd)) (HS2.out.to (hgb dd)) HZX.out ((HK1.out.to HBw.out).to (hgb dd))).mono ?_
          rintro e w' ⟨rfl, hb⟩
          exact ⟨rfl, hgm dd w' hb⟩)
        have HC2 : Hid (∀ dd, Calls Tryd.prog 12 #[.int .i64 branch, .agg #[.string x.label, .slice A7 x.body.length c7, .slice A8 x.notes.length c8]] (g dd) fun e w' => e = .returned (hashV (leafOf branch x)) ∧ ∃ m, w' = g m) := Lib.hid (fun dd => by
          refine (rleaf_any branch x A7 A8 c7 c8 (g dd) HBR.out (HS1.out.to (hgb dd)) (HS2.out.to (hgb dd)) HZX.out).mono ?_
          rintro e w' ⟨rfl, hb⟩
          exact ⟨rfl, hgm dd w' hb⟩)
        have HNQ : Hid (∀ W, (binOp .neq 29 (.agg ((leafOf branch x).map encB).toArray) (.agg ((leafOf branch x).map encB).toArray)).run Tryd.prog W = .ok (.bool false) W) := Lib.hid (fun W => by rw [run_hash_neq (leafOf branch x) (leafOf branch x) (sha_length _) (sha_length _) W]; simp)
        have HGB := Lib.hid hgb
        clear hgb hgm
        generalize leafOf branch x = lf at *
        go_big_quiet_step (fail)
        go_big_quiet_step (fail)
        go_big_quiet_step (fail)
        go_big_quiet_step (fail)
        go_big_quiet_step (fail)
        go_big_quiet_step ((go_at_call 11; with_reducible refine Calls.mono (HC1.out _) ?_; rintro e w6 ⟨rfl, hm⟩; exact ⟨rfl, hm⟩))
        go_big_quiet_step (fail)
        go_big_quiet_step (fail)
        go_big_quiet_step (fail)
        go_big_quiet_step (fail)
        go_big_quiet_step (fail)
        go_big_quiet_step ((go_at_call 12; with_reducible refine Calls.mono (HC2.out _) ?_; rintro e w6 ⟨rfl, hm⟩; exact ⟨rfl, hm⟩))
        refine wpQuiet_run (by rfl) (.bool false) ?_ ?_
        · rintro _ ⟨dd, rfl⟩
          exact exec_neq 29 29 (.tmp 25) (.tmp 31) rfl (lf.map encB).toArray (lf.map encB).toArray rfl rfl guard_h false (HNQ.out _)
        try simp only [Act.put, List.setIfInBounds_toArray, List.set_cons_zero, List.set_cons_succ]
        refine wpQuiet_nil ?_
        rintro _ ⟨nq, rfl⟩
        unfold Exit.then
        go_wp2_with fail
        go_roundw
        case rel => exact ⟨k + 1, by omega, by go_num, Lib.hid (HBw.out.trans ((HGB.out nq).mono HBw.out.size))⟩
        case measure => (simp [intOf]; omega)
      · have hkl : ¬ (k : Int) < (all.length : Int) := by omega
        have HLV := Lib.hid (lives_any wr (HK1.out.to HBw.out))
        go_wp2_with fail
        refine HLV.out.mono ?_
        rintro e w9 ⟨rfl, hb9⟩
        go_wp2_with fail
        go_ret
        exact ⟨rfl, HB1.out.trans ((HBw.out.trans (hb9.mono HBw.out.size)).mono HB1.out.size)⟩
end Go.Proofs.YthcklfelofpffaaDoor
namespace Go.Proofs.YthcklfelofpffaaDoor
open Go.RowKit
set_option maxRecDepth 100000 in
set_option maxHeartbeats 4000000 in
theorem rproofO_any (A B : Option Addr) (ca cb : Nat) (L : List H32) (N : List ByteArray) (x : ByteArray) (w : World) (hl : Sl w (fun b => b < w.heap.size) A ca L) (hn : Sl w (fun b => b < w.heap.size) B cb N) (hln : L.length = N.length) (hs : L.length ≤ 1048576) :
    Calls Tryd.prog 23 #[.agg #[.slice A L.length ca, .slice B N.length cb], .string x] w fun e w' => ∃ v, e = .returned (.tuple #[.int .i64 (proofI N x), v, .bool (proofB N x)]) ∧ Own w' w.heap.size 29 v (proofP L N x) ∧ Below w.heap.size w w' := by
  have hba : Below w.heap.size w (w.alloc (.cells #[.slice A L.length ca, .slice B N.length cb] 36)) := (Below.refl _ _).alloc (Nat.le_refl _) _
  have HX1 : Hid (ABox (w.alloc (.cells #[.slice A L.length ca, .slice B N.length cb] 36)) w.heap.size 36 [.slice A L.length ca, .slice B N.length cb]) := Lib.hid (heap_alloc_new w _)
  have HB := Lib.hid hba
  have HLA := Lib.hid (rlast_any A B ca L.length cb N x _ (hn.to hba))
  have HPA := Lib.hid (fun k (hk : k < L.length) W (h : Below _ _ W) => rpathE_any L A _ ca k W ((hl.to hba).to h) rfl hs hk)
  have HLN := Lib.hid hln
  clear hba hl hn hln
  go_enter Tryd.func23, Tryd.ntmps23
  go_upto_region 1 with (fail)
  generalize (w.alloc (.cells #[.slice A L.length ca, .slice B N.length cb] 36)) = w1 at *
  have k0 := HX1.out.cell 0 rfl
  have k1 := HX1.out.cell 1 rfl
  go_wp2_with fail
  refine HLA.out.mono ?_
  rintro e w2 ⟨rfl, hb2⟩
  have HB2 := Lib.hid hb2
  clear k0 k1 hb2 HLA
  rcases lastIx_cases N x with hc | ⟨j, hj, hc⟩
  · have HE : Hid (proofI N x = 0 ∧ proofP L N x = [] ∧ proofB N x = false) := Lib.hid (by unfold proofI proofP proofB; rw [hc]; exact ⟨rfl, rfl, rfl⟩)
    rw [hc]
    clear hc
    go_wp2_with fail
    go_ret3
    exact ⟨.slice none 0 0, by rw [HE.out.1, HE.out.2.2]; rfl, by rw [HE.out.2.1]; exact Own.nil _ _ _, HB.out.trans (HB2.out.mono HB.out.size)⟩
  · have HE : Hid (proofI N x = (j : Int) ∧ proofP L N x = pathH L j ∧ proofB N x = true) := Lib.hid (by
      have hq : ¬ (j : Int) < 0 := by omega
      unfold proofI proofP proofB; rw [hc, if_neg hq, if_neg hq, Int.toNat_natCast]; exact ⟨rfl, rfl, by simp [hq]⟩)
    rw [hc]
    clear hc
    have k2 := (HX1.out.to HB2.out).cell 0 rfl
    have HP := Lib.hid (HPA.out j (by have := HLN.out; omega) w2 HB2.out)
    have hj0 : ¬ (j : Int) < 0 := by omega
    clear HPA HX1
    go_wp2_with fail
    refine HP.out.mono ?_
    rintro e w3 ⟨v3, rfl, ho3, hb3⟩
    have HO3 := Lib.hid (ho3.re (HB.out.trans (HB2.out.mono HB.out.size)).size)
    obtain ⟨A', c', rfl, hs3⟩ := ho3.sl
    clear ho3
    have HB3 := Lib.hid hb3
    clear hs3 hb3 k2
    go_wp2_with fail
    go_ret3
    exact ⟨_, by rw [HE.out.1, HE.out.2.2]; rfl, by rw [HE.out.2.1]; exact HO3.out, HB.out.trans ((HB2.out.trans (HB3.out.mono HB2.out.size)).mono HB.out.size)⟩

/-- A list that does not lie in block T. -/
def Off {α : Type} [Rep α] (T : Nat) (w : World) (A : Option Addr) (c : Nat) (l : List α) : Prop := Sl w (fun b => b < w.heap.size ∧ b ≠ T) A c l
section
variable {α : Type} [Rep α] {T : Nat} {w w' : World} {A : Option Addr} {c : Nat} {l : List α}
theorem Off.sl (h : Off T w A c l) : Sl w (fun b => b < w.heap.size) A c l := h.mono fun _ hi _ => hi.1
theorem Off.to (h : Off T w A c l) (hb : Below w.heap.size w w') : Off T w' A c l :=
  (h.keep (fun i hi _ => hb.block i hi.1) hb.size).mono fun i hi _ => ⟨by have := hb.size; omega, hi.2⟩
theorem Off.set (h : Off T w A c l) (cs : Array Value) : Off T (w.setRow T cs) A c l :=
  (h.keep (w' := w.setRow T cs) (fun i hi _ => setRow_other w T i cs hi.2) (by simp)).mono fun i hi _ => ⟨by simpa using hi.1, hi.2⟩
end
theorem strs_off {w : World} {S : Nat → Prop} {A : Option Addr} {c T : Nat} {l : List ByteArray} (h : Sl w S A c l) {cs : Array Value} {t : TypeId} {fr : Nat × Nat} (hT : w.heap[T]? = some (.cells cs t fr)) (hcs : ∀ (i : Nat) s, cs[i]? ≠ some (.string s)) : Sl w (fun b => S b ∧ b ≠ T) A c l := by
  refine ⟨h.1, h.2.1, fun hn => ?_⟩
  obtain ⟨b, o, e, hb, hlt, hx⟩ := h.2.2 hn
  refine ⟨b, o, e, ⟨hb, ?_⟩, hlt, fun i hi => hx i hi⟩
  rintro rfl
  obtain ⟨es, rfl, hc⟩ := hx 0 hn
  have h1 := hc 0 _ rfl
  rw [cell_of_row _ _ _ _ _ _ hT] at h1
  exact hcs _ _ h1
theorem sheets_off {w : World} {S : Nat → Prop} {A : Option Addr} {c T : Nat} {l : List Sheet} (h : Sl w S A c l) {cs : Array Value} {t : TypeId} {fr : Nat × Nat} (hT : w.heap[T]? = some (.cells cs t fr)) (hcs : ∀ (i : Nat) s, cs[i]? ≠ some (.string s)) : Sl w (fun b => S b ∧ b ≠ T) A c l := by
  refine ⟨h.1, h.2.1, fun hn => ?_⟩
  obtain ⟨b, o, e, hb, hlt, hx⟩ := h.2.2 hn
  refine ⟨b, o, e, ⟨hb, ?_⟩, hlt, fun i hi => ?_⟩
  · rintro rfl
    obtain ⟨es, ⟨_, _, rfl, _⟩, hc⟩ := hx 0 hn
    have h1 := hc 0 _ rfl
    rw [cell_of_row _ _ _ _ _ _ hT] at h1
    exact hcs _ _ h1
  · obtain ⟨es, ⟨va, vb, rfl, ⟨A1, c1, e1, h1, g1⟩, ⟨A2, c2, e2, h2, g2⟩⟩, hc⟩ := hx i hi
    exact ⟨_, ⟨va, vb, rfl, ⟨A1, c1, e1, strs_off h1 hT hcs, g1⟩, ⟨A2, c2, e2, strs_off h2 hT hcs, g2⟩⟩, hc⟩
theorem head_nostr (n : Int) (r : List UInt8) : ∀ (i : Nat) s, (headL n r).toArray[i]? ≠ some (.string s) := by
  intro i s
  unfold headL
  cases i with
  | zero => simp
  | succ i => simp only [List.getElem?_toArray, List.getElem?_cons_succ, List.getElem?_map]; cases r[i]? <;> simp [encB]
theorem own_off {w : World} {B T n : Nat} {e : TypeId} {A : Option Addr} {c : Nat} {l : List H32} (h : Own w B e (.slice A n c) l) (hn : n = l.length) (hT : T < B) : Off T w A c l := by
  have hs := h.slv hn
  refine ⟨hs.1, hs.2.1, fun h0 => ?_⟩
  obtain ⟨b, o, e', hb, hlt, hx⟩ := hs.2.2 h0
  refine ⟨b, o, e', ⟨hb, ?_⟩, hlt, fun i hi => hx i hi⟩
  rintro rfl
  subst e'
  have := (h.lt b rfl).1
  omega
end Go.Proofs.YthcklfelofpffaaDoor
namespace Go.Proofs.YthcklfelofpffaaDoor
open Go.RowKit
/-- A sheet whose words lie above a bound. -/
structure ShB (B : Nat) where
  s : Sheet
instance instRepShB (B : Nat) : Rep (ShB B) where
  size := 3
  R w S cs x := Rep.R w (fun b => S b ∧ B ≤ b) cs x.s
  len h := Rep.len (α := Sheet) h
  one h := Rep.one (α := Sheet) h
  keep h hk := Rep.keep (α := Sheet) h (fun i hi hlt => hk i hi.1 hlt)
  mono h hS := Rep.mono (α := Sheet) h (fun i hi hlt => ⟨hS i hi.1 hlt, hi.2⟩)
theorem sheetB_info (B : Nat) : (Tryd.prog.info? 24).map (fun i => (i.zero, i.size, i.bytes)) = some (some (.agg #[.string ⟨#[]⟩, .slice none 0 0, .slice none 0 0]), Rep.size (ShB B), 64) := sheet_info
theorem shB_sl {w : World} {base B : Nat} {e : TypeId} {v : Value} {l : List (ShB B)} (h : Own w base e v l) (hB : B ≤ base) : ∃ A c, v = .slice A (l.map ShB.s).length c ∧ Sl w (fun b => b < w.heap.size ∧ B ≤ b) A c (l.map ShB.s) := by
  obtain ⟨A, c, rfl, hs⟩ := h.sl
  refine ⟨A, c, by rw [List.length_map], by rw [List.length_map]; exact hs.1, hs.2.1, fun h0 => ?_⟩
  rw [List.length_map] at h0
  obtain ⟨b, o, rfl, hb, hlt, hx⟩ := hs.2.2 h0
  refine ⟨b, o, rfl, ⟨hb, Nat.le_trans hB (h.lt b rfl).1⟩, hlt, fun i hi => ?_⟩
  rw [List.length_map] at hi
  obtain ⟨es, hr, hc⟩ := hx i hi
  rw [List.getElem_map]
  exact ⟨es, hr, hc⟩
set_option maxRecDepth 100000 in
set_option maxHeartbeats 4000000 in
theorem someB_any (A : Option Addr) (c : Nat) (l : List Int) (w : World) (hl : Sl w (fun b => b < w.heap.size) A c l) :
    Calls Tryd.prog 10 #[.slice A l.length c] w fun e w' => ∃ v : Value, e = .returned v ∧ ∃ sh : List (ShB w.heap.size), Own w' w.heap.size 24 v sh ∧ sh.length ≤ 12 ∧ (∀ s ∈ sh, SmallS s.s) ∧ Below w.heap.size w w' := by
  have HL := Lib.hid hl
  have hlen : l.length ≤ 9223372036854775807 := by have := hl.1; have := hl.2.1; unfold maxLen at this; omega
  clear hl
  go_enter Tryd.func10, Tryd.ntmps10
  go_wp2_with fail
  go_loopw [3, 4] (fun v i wr => ∃ (k : Nat) (sh : List (ShB w.heap.size)), k ≤ l.length ∧ i = .int .i64 k ∧ sh.length ≤ k ∧ k ≤ 12 ∧ Hid (Own wr w.heap.size 24 v sh) ∧ Hid (∀ s ∈ sh, SmallS s.s) ∧ Hid (Below w.heap.size w wr)) (fun _ i _ => l.length - (intOf i).toNat)
  case atStart => exact ⟨0, [], Nat.zero_le _, rfl, by simp, by omega, Lib.hid (Own.nil _ _ _), Lib.hid (by simp), Lib.hid (Below.refl _ _)⟩
  case round =>
    obtain ⟨k, sh, hk, rfl, hsh, hk12, HO, HSM, HB⟩ := hrel
    by_cases hlt : k < l.length
    · by_cases h12 : k < 12
      · obtain ⟨b, o, rfl, hbS, hbl, hok, c0⟩ := int_at (HL.out.to HB.out) hlt
        have hkl : (k : Int) < (l.length : Int) := by omega
        have hk0 : (0 : Int) ≤ (k : Int) := by omega
        have hk12' : (k : Int) < 12 := by omega
        have HAR := Lib.hid (fun wx => around_any l[k] 1000000 wx hok (by decide) (by decide))
        have hal := aro_lt l[k] 1000000 (by decide)
        generalize aro l[k] 1000000 = nz at *
        obtain ⟨n, rfl⟩ : ∃ n : Nat, nz = (n : Int) := ⟨nz.toNat, by omega⟩
        have hn6 : (n : Int) ≤ 1000000 := by omega
        clear hal
        generalize l[k] = lk at *
        obtain ⟨lab, d0, hlab⟩ := lit_at labels (n % 8) 2 labels_ok (Nat.mod_lt _ (by decide))
        simp only [labels, List.map_cons, List.map_nil] at d0
        have HLab := Lib.hid hlab
        clear hlab
        go_upto_region 8 with (first | (go_at_call 25; refine (HAR.out _).mono ?_; rintro e w' ⟨rfl, rfl⟩) | fail)
        have HSS : Hid (SS wr (((wr.alloc (.cells (labels.map Value.string).toArray 9)).alloc (.cells #[.string lab, .slice none 0 0, .slice none 0 0] 24)).alloc (.cells (phrases.map Value.string).toArray 9)) (wr.heap.size + 1) (wr.heap.size + 1 + 1) lab (.slice none 0 0) (.slice none 0 0) [] []) := Lib.hid
          ⟨by unfold ABox; rw [Below.heap_alloc _ _ _ (by simp)]; exact heap_at (by simp), Own.nil _ _ _, Own.nil _ _ _, heap_at (by simp), by omega, by omega, by omega, by simp [Value.ownBlock], by simp [Value.ownBlock], by simp [Value.ownBlock], by simp [Value.ownBlock], by simp [Value.ownBlock], (((Below.refl _ _).alloc (Nat.le_refl _) _).alloc (by simp) _).alloc (by simp; omega) _⟩
        generalize hw : World.alloc (World.alloc (World.alloc wr _) _) _ = w1
        have hv : ((wr.alloc (.cells (labels.map Value.string).toArray 9)).alloc (.cells #[.string lab, .slice none 0 0, .slice none 0 0] 24)).alloc (.cells (phrases.map Value.string).toArray 9) = w1 := hw
        rw [hv] at HSS
        clear hw hv d0
        generalize wr.heap.size + 1 + 1 = Wb at *
        generalize wr.heap.size + 1 = O at *
        obtain ⟨wo, rfl⟩ : ∃ wo : World, wo = wr := ⟨_, rfl⟩
        go_wp2_with fail
        go_loopw [8] (fun kk ww => ∃ (m : Nat) (v1 : Value) (body : List ByteArray), kk = .int .i64 m ∧ m ≤ n / 8 % 3 ∧ Hid (body.length = m) ∧ Hid (∀ x ∈ body, x.size ≤ 14) ∧ Hid (SS wo ww O Wb lab v1 (.slice none 0 0) body [])) (fun kk _ => 3 - (intOf kk).toNat)
        case atStart => exact ⟨0, _, [], rfl, Nat.zero_le _, Lib.hid rfl, Lib.hid (by simp), HSS⟩
        case round =>
          obtain ⟨m, v1, body, rfl, hm, hbl, HXS, HSS⟩ := hrel
          by_cases hmq : m < n / 8 % 3
          · have hm2 : m ≤ 2 := by omega
            have hmq' : (m : Int) < (n : Int) / 8 % 3 := by omega
            have hw1 : IntKind.i64.wrap ((n : Int) / 24 + (m : Int)) = (n : Int) / 24 + (m : Int) := by rw [IntWalk.i64_in _ (by omega)]
            have hwA : IntKind.i64.wrap ((n : Int) / 24) = (n : Int) / 24 := by rw [IntWalk.i64_in _ (by omega)]
            obtain ⟨j, hj⟩ : ∃ j, j = (n / 24 + m) % 4 := ⟨_, rfl⟩
            have htm : ((n : Int) / 24 + (m : Int)).tmod 4 = (j : Int) := by rw [Int.tmod_eq_emod_of_nonneg (by omega)]; omega
            have hj4 : (j : Int) < 4 := by omega
            have hj4' : j < 4 := by omega
            clear hj
            obtain ⟨x, dx, hx⟩ := lit_at phrases j 14 phrases_ok hj4'
            have hwx : wr.drew.cell? ⟨Wb, j, none⟩ = some (.string x) := HSS.out.drew.w.cell _ dx
            have hbx : wr.drew.cell? ⟨O, 1, none⟩ = some v1 := HSS.out.drew.box.cell 1 rfl
            have HX := Lib.hid hx
            have HS0 := Lib.hid HSS.out.drew
            have hHeld := And.intro hbx hwx
            clear dx hx hwx hbx HSS
            go_upto_region 11 with (fail)
            refine wp_region_D (fun w' => w'.cell? ⟨O, 1, none⟩ = some v1 ∧ w'.cell? ⟨Wb, j, none⟩ = some (.string x)) (fun i => decide (i < 11)) (by kernel_rfl) ?_
            generalize wr.drew = W0 at *
            refine wpAnyE_take (i := 0) (oi := ⟨some 39, Op.fieldAddr 24 (Operand.tmp 6) 1, 0, _, _, _⟩) (v := ?_) rfl (by kernel_rfl) (by kernel_rfl) (by kernel_rfl) (by kernel_rfl) (by kernel_rfl) (fun _ _ _ h => h) (by rfl) ?hyks1_1 (hHeld) ?hrks1_1
            case hyks1_1 => (intro wS hSw; clear hSw; go_simp; (try with_reducible rfl))
            all_goals try simp only [Act.put, List.setIfInBounds_toArray, List.set_cons_zero, List.set_cons_succ]
            refine wpAnyE_take (i := 1) (oi := ⟨some 40, Op.load 22 (Operand.tmp 39), 22, _, _, _⟩) (v := ?_) rfl (by kernel_rfl) (by kernel_rfl) (by kernel_rfl) (by kernel_rfl) (by kernel_rfl) (fun _ _ _ h => h) (by rfl) ?hyks1_2 (hHeld) ?hrks1_2
            case hyks1_2 => (intro wS hSw; (have hq := hSw.1); clear hSw; go_simp; (try with_reducible rfl))
            all_goals try simp only [Act.put, List.setIfInBounds_toArray, List.set_cons_zero, List.set_cons_succ]
            refine wpAnyE_take (i := 2) (oi := ⟨some 41, Op.move (Operand.tmp 7), 22, _, _, _⟩) (v := ?_) rfl (by kernel_rfl) (by kernel_rfl) (by kernel_rfl) (by kernel_rfl) (by kernel_rfl) (fun _ _ _ h => h) (by rfl) ?hyks1_3 (hHeld) ?hrks1_3
            case hyks1_3 => (intro wS hSw; clear hSw; go_simp; (try with_reducible rfl))
            all_goals try simp only [Act.put, List.setIfInBounds_toArray, List.set_cons_zero, List.set_cons_succ]
            refine wpAnyE_take (i := 3) (oi := ⟨some 42, Op.move (Operand.tmp 5), 3, _, _, _⟩) (v := ?_) rfl (by kernel_rfl) (by kernel_rfl) (by kernel_rfl) (by kernel_rfl) (by kernel_rfl) (fun _ _ _ h => h) (by rfl) ?hyks1_4 (hHeld) ?hrks1_4
            case hyks1_4 => (intro wS hSw; clear hSw; go_simp; (try with_reducible rfl))
            all_goals try simp only [Act.put, List.setIfInBounds_toArray, List.set_cons_zero, List.set_cons_succ]
            refine wpAnyE_take (i := 4) (oi := ⟨some 43, Op.binOp BinOp.quo 3 (Operand.tmp 42) (Operand.const (Value.int IntKind.i64 24)) 3, 3, _, _, _⟩) (v := ?_) rfl (by kernel_rfl) (by kernel_rfl) (by kernel_rfl) (by kernel_rfl) (by kernel_rfl) (fun _ _ _ h => h) (by rfl) ?hyks1_5 (hHeld) ?hrks1_5
            case hyks1_5 => (intro wS hSw; clear hSw; go_simp; (try with_reducible rfl))
            all_goals try simp only [Act.put, List.setIfInBounds_toArray, List.set_cons_zero, List.set_cons_succ]
            refine wpAnyE_take (i := 5) (oi := ⟨some 44, Op.move (Operand.tmp 8), 3, _, _, _⟩) (v := ?_) rfl (by kernel_rfl) (by kernel_rfl) (by kernel_rfl) (by kernel_rfl) (by kernel_rfl) (fun _ _ _ h => h) (by rfl) ?hyks1_6 (hHeld) ?hrks1_6
            case hyks1_6 => (intro wS hSw; clear hSw; go_simp; (try with_reducible rfl))
            all_goals try simp only [Act.put, List.setIfInBounds_toArray, List.set_cons_zero, List.set_cons_succ]
            refine wpAnyE_take (i := 6) (oi := ⟨some 45, Op.binOp BinOp.add 3 (Operand.tmp 43) (Operand.tmp 44) 3, 3, _, _, _⟩) (v := ?_) rfl (by kernel_rfl) (by kernel_rfl) (by kernel_rfl) (by kernel_rfl) (by kernel_rfl) (fun _ _ _ h => h) (by rfl) ?hyks1_7 (hHeld) ?hrks1_7
            case hyks1_7 => (intro wS hSw; clear hSw; go_simp; (try with_reducible rfl))
            all_goals try simp only [Act.put, List.setIfInBounds_toArray, List.set_cons_zero, List.set_cons_succ]
            refine wpAnyE_take (i := 7) (oi := ⟨some 46, Op.binOp BinOp.rem 3 (Operand.tmp 45) (Operand.const (Value.int IntKind.i64 4)) 3, 3, _, _, _⟩) (v := ?_) rfl (by kernel_rfl) (by kernel_rfl) (by kernel_rfl) (by kernel_rfl) (by kernel_rfl) (fun _ _ _ h => h) (by rfl) ?hyks1_8 (hHeld) ?hrks1_8
            case hyks1_8 => (intro wS hSw; clear hSw; go_simp; (try with_reducible rfl))
            all_goals try simp only [Act.put, List.setIfInBounds_toArray, List.set_cons_zero, List.set_cons_succ]
            refine wpAnyE_take (i := 8) (oi := ⟨some 47, Op.indexAddr 22 (Operand.tmp 41) (Operand.tmp 46), 0, _, _, _⟩) (v := ?_) rfl (by kernel_rfl) (by kernel_rfl) (by kernel_rfl) (by kernel_rfl) (by kernel_rfl) (fun _ _ _ h => h) (by rfl) ?hyks1_9 (hHeld) ?hrks1_9
            case hyks1_9 => (intro wS hSw; clear hSw; go_simp; (try with_reducible rfl))
            all_goals try simp only [Act.put, List.setIfInBounds_toArray, List.set_cons_zero, List.set_cons_succ]
            refine wpAnyE_take (i := 9) (oi := ⟨some 48, Op.load 9 (Operand.tmp 47), 9, _, _, _⟩) (v := ?_) rfl (by kernel_rfl) (by kernel_rfl) (by kernel_rfl) (by kernel_rfl) (by kernel_rfl) (fun _ _ _ h => h) (by rfl) ?hyks1_10 (hHeld) ?hrks1_10
            case hyks1_10 => (intro wS hSw; (have hq := hSw.2); clear hSw; go_simp; (try with_reducible rfl))
            all_goals try simp only [Act.put, List.setIfInBounds_toArray, List.set_cons_zero, List.set_cons_succ]
            refine wpAnyD_one (i := 10) (oi := ⟨some 49, Op.buildSlice 22 1 #[(0, Operand.tmp 48)], 22, _, _, _⟩) rfl (by kernel_rfl) (by rfl) (fun K hK => ?_)
            go_simp
            refine hK _ _ (fun _ => ?_) ?_
            · exact ⟨(((Below.refl W0.heap.size W0).alloc (Nat.le_refl _) _).cell (p := ⟨O, 1, none⟩) HS0.out.box.lt).trans hHeld.1, (((Below.refl W0.heap.size W0).alloc (Nat.le_refl _) _).cell (p := ⟨Wb, j, none⟩) HS0.out.w.lt).trans hHeld.2⟩
            clear hK K
            generalize hlit : World.alloc _ _ = W2
            have hhl := heap_alloc_new W0 (.cells #[.string x] 9)
            have hol := HS0.out.b.alloc (.cells #[.string x] 9)
            have hlit2 : W0.alloc (.cells #[.string x] 9) = W2 := hlit
            have HSZ : Hid (W2.heap.size = W0.heap.size + 1) := Lib.hid (by rw [← hlit2]; simp)
            rw [hlit2] at hhl hol
            have HLI := Lib.hid hlit2
            have HOL := Lib.hid hol
            have HHL := Lib.hid hhl
            clear hlit hlit2 hhl hol hHeld
            try simp only [Act.put, List.setIfInBounds_toArray, List.set_cons_zero, List.set_cons_succ]
            refine wpAnyD_one (i := 11) (oi := ⟨some 50, Op.call { callee := Callee.builtin Builtin.append, args := #[Operand.tmp 40, Operand.tmp 49], argTypes := #[22, 22] }, 22, _, _, _⟩) rfl (by kernel_rfl) (by rfl) (fun K hK => ?_)
            refine wp_push (α := ByteArray) _ (.tmp 40) (.tmp 49) 22 rfl wo.heap.size 9 (.string ⟨#[]⟩) 16 Tryd.underlying22 s_info rfl (by decide) v1 body rfl HOL.out W0.heap.size #[.string x] x (0, 0) 9 rfl HHL.out rfl (by have := hbl.out; omega) (by have := hbl.out; omega) (by have := HS0.out.bb.size; have := HSZ.out; omega) _ rfl ?_
            intro g5 p5 w5 hown5 hg5 hat5 hlt5
            rw [← HLI.out] at hg5 hat5
            have hss := HS0.out.push1 hown5 hg5 hat5
            have HS5 := Lib.hid hss.1
            have kO := hss.2.cell 1 rfl
            have fO := hss.2.fz
            clear hss hown5 hg5 hat5 HOL HHL
            refine hK _ _ (fun h => absurd h (by decide)) ?_
            clear hK K
            try simp only [Act.put, List.setIfInBounds_toArray, List.set_cons_zero, List.set_cons_succ]
            refine wpAnyD_one (i := 12) (oi := ⟨some 51, Op.fieldAddr 24 (Operand.tmp 6) 1, 0, _, _, _⟩) rfl (by kernel_rfl) (by rfl) (fun K hK => ?_)
            go_simp
            refine hK _ _ (fun h => absurd h (by decide)) ?_
            clear hK K
            try simp only [Act.put, List.setIfInBounds_toArray, List.set_cons_zero, List.set_cons_succ]
            refine wpAnyD_one (i := 13) (oi := ⟨none, Op.store 22 (Operand.tmp 51) (Operand.tmp 50), 0, _, _, _⟩) rfl (by kernel_rfl) (by rfl) (fun K hK => ?_)
            go_simp
            refine hK _ _ (fun h => absurd h (by decide)) ?_
            clear hK K
            try simp only [Act.put]
            refine wpAnyD_done (by kernel_rfl) ?_ _
            unfold Exit.then
            go_wp2_with fail
            go_roundw
            case rel => exact ⟨m + 1, _, body ++ [x], by go_num, by omega, Lib.hid (by have := hbl.out; simp; omega), Lib.hid (fun y hy => by rcases List.mem_append.1 hy with h | h; exact HXS.out y h; obtain rfl := List.mem_singleton.1 h; exact HX.out), HS5⟩
            case measure => (simp [intOf]; omega)
          · have hmq' : ¬ (m : Int) < (n : Int) / 8 % 3 := by omega
            have hsz1 : body.length ≤ 2 := by have := hbl.out; omega
            have HSZ1 := Lib.hid hsz1
            clear hsz1
            go_wp2_with fail
            clear hbl hmq' hmq hm
            go_loopw [9] (fun kk ww => ∃ (m : Nat) (v2 : Value) (notes : List ByteArray), kk = .int .i64 m ∧ m ≤ n / 96 % 3 ∧ Hid (notes.length = m) ∧ Hid (∀ x ∈ notes, x.size ≤ 14) ∧ Hid (SS wo ww O Wb lab v1 v2 body notes)) (fun kk _ => 3 - (intOf kk).toNat)
            case atStart => exact ⟨0, _, [], rfl, Nat.zero_le _, Lib.hid rfl, Lib.hid (by simp), HSS⟩
            case round =>
              obtain ⟨m, v2, notes, rfl, hm, hnl, HYS, HSS⟩ := hrel
              by_cases hmq : m < n / 96 % 3
              · have hm2 : m ≤ 2 := by omega
                have hmq' : (m : Int) < (n : Int) / 96 % 3 := by omega
                have hw1 : IntKind.i64.wrap ((n : Int) / 288 + (m : Int)) = (n : Int) / 288 + (m : Int) := by rw [IntWalk.i64_in _ (by omega)]
                have hwA : IntKind.i64.wrap ((n : Int) / 288) = (n : Int) / 288 := by rw [IntWalk.i64_in _ (by omega)]
                obtain ⟨j, hj⟩ : ∃ j, j = (n / 288 + m) % 4 := ⟨_, rfl⟩
                have htm : ((n : Int) / 288 + (m : Int)).tmod 4 = (j : Int) := by rw [Int.tmod_eq_emod_of_nonneg (by omega)]; omega
                have hj4 : (j : Int) < 4 := by omega
                have hj4' : j < 4 := by omega
                clear hj
                obtain ⟨x, dx, hx⟩ := lit_at phrases j 14 phrases_ok hj4'
                have hwx : wr.drew.cell? ⟨Wb, j, none⟩ = some (.string x) := HSS.out.drew.w.cell _ dx
                have hbx : wr.drew.cell? ⟨O, 2, none⟩ = some v2 := HSS.out.drew.box.cell 2 rfl
                have HX := Lib.hid hx
                have HS0 := Lib.hid HSS.out.drew
                have hHeld := And.intro hbx hwx
                clear dx hx hwx hbx HSS
                go_upto_region 15 with (fail)
                refine wp_region_D (fun w' => w'.cell? ⟨O, 2, none⟩ = some v2 ∧ w'.cell? ⟨Wb, j, none⟩ = some (.string x)) (fun i => decide (i < 11)) (by kernel_rfl) ?_
                generalize wr.drew = W0 at *
                refine wpAnyE_take (i := 0) (oi := ⟨some 59, Op.fieldAddr 24 (Operand.tmp 6) 2, 0, _, _, _⟩) (v := ?_) rfl (by kernel_rfl) (by kernel_rfl) (by kernel_rfl) (by kernel_rfl) (by kernel_rfl) (fun _ _ _ h => h) (by rfl) ?hyks2_1 (hHeld) ?hrks2_1
                case hyks2_1 => (intro wS hSw; clear hSw; go_simp; (try with_reducible rfl))
                all_goals try simp only [Act.put, List.setIfInBounds_toArray, List.set_cons_zero, List.set_cons_succ]
                refine wpAnyE_take (i := 1) (oi := ⟨some 60, Op.load 22 (Operand.tmp 59), 22, _, _, _⟩) (v := ?_) rfl (by kernel_rfl) (by kernel_rfl) (by kernel_rfl) (by kernel_rfl) (by kernel_rfl) (fun _ _ _ h => h) (by rfl) ?hyks2_2 (hHeld) ?hrks2_2
                case hyks2_2 => (intro wS hSw; (have hq := hSw.1); clear hSw; go_simp; (try with_reducible rfl))
                all_goals try simp only [Act.put, List.setIfInBounds_toArray, List.set_cons_zero, List.set_cons_succ]
                refine wpAnyE_take (i := 2) (oi := ⟨some 61, Op.move (Operand.tmp 7), 22, _, _, _⟩) (v := ?_) rfl (by kernel_rfl) (by kernel_rfl) (by kernel_rfl) (by kernel_rfl) (by kernel_rfl) (fun _ _ _ h => h) (by rfl) ?hyks2_3 (hHeld) ?hrks2_3
                case hyks2_3 => (intro wS hSw; clear hSw; go_simp; (try with_reducible rfl))
                all_goals try simp only [Act.put, List.setIfInBounds_toArray, List.set_cons_zero, List.set_cons_succ]
                refine wpAnyE_take (i := 3) (oi := ⟨some 62, Op.move (Operand.tmp 5), 3, _, _, _⟩) (v := ?_) rfl (by kernel_rfl) (by kernel_rfl) (by kernel_rfl) (by kernel_rfl) (by kernel_rfl) (fun _ _ _ h => h) (by rfl) ?hyks2_4 (hHeld) ?hrks2_4
                case hyks2_4 => (intro wS hSw; clear hSw; go_simp; (try with_reducible rfl))
                all_goals try simp only [Act.put, List.setIfInBounds_toArray, List.set_cons_zero, List.set_cons_succ]
                refine wpAnyE_take (i := 4) (oi := ⟨some 63, Op.binOp BinOp.quo 3 (Operand.tmp 62) (Operand.const (Value.int IntKind.i64 288)) 3, 3, _, _, _⟩) (v := ?_) rfl (by kernel_rfl) (by kernel_rfl) (by kernel_rfl) (by kernel_rfl) (by kernel_rfl) (fun _ _ _ h => h) (by rfl) ?hyks2_5 (hHeld) ?hrks2_5
                case hyks2_5 => (intro wS hSw; clear hSw; go_simp; (try with_reducible rfl))
                all_goals try simp only [Act.put, List.setIfInBounds_toArray, List.set_cons_zero, List.set_cons_succ]
                refine wpAnyE_take (i := 5) (oi := ⟨some 64, Op.move (Operand.tmp 9), 3, _, _, _⟩) (v := ?_) rfl (by kernel_rfl) (by kernel_rfl) (by kernel_rfl) (by kernel_rfl) (by kernel_rfl) (fun _ _ _ h => h) (by rfl) ?hyks2_6 (hHeld) ?hrks2_6
                case hyks2_6 => (intro wS hSw; clear hSw; go_simp; (try with_reducible rfl))
                all_goals try simp only [Act.put, List.setIfInBounds_toArray, List.set_cons_zero, List.set_cons_succ]
                refine wpAnyE_take (i := 6) (oi := ⟨some 65, Op.binOp BinOp.add 3 (Operand.tmp 63) (Operand.tmp 64) 3, 3, _, _, _⟩) (v := ?_) rfl (by kernel_rfl) (by kernel_rfl) (by kernel_rfl) (by kernel_rfl) (by kernel_rfl) (fun _ _ _ h => h) (by rfl) ?hyks2_7 (hHeld) ?hrks2_7
                case hyks2_7 => (intro wS hSw; clear hSw; go_simp; (try with_reducible rfl))
                all_goals try simp only [Act.put, List.setIfInBounds_toArray, List.set_cons_zero, List.set_cons_succ]
                refine wpAnyE_take (i := 7) (oi := ⟨some 66, Op.binOp BinOp.rem 3 (Operand.tmp 65) (Operand.const (Value.int IntKind.i64 4)) 3, 3, _, _, _⟩) (v := ?_) rfl (by kernel_rfl) (by kernel_rfl) (by kernel_rfl) (by kernel_rfl) (by kernel_rfl) (fun _ _ _ h => h) (by rfl) ?hyks2_8 (hHeld) ?hrks2_8
                case hyks2_8 => (intro wS hSw; clear hSw; go_simp; (try with_reducible rfl))
                all_goals try simp only [Act.put, List.setIfInBounds_toArray, List.set_cons_zero, List.set_cons_succ]
                refine wpAnyE_take (i := 8) (oi := ⟨some 67, Op.indexAddr 22 (Operand.tmp 61) (Operand.tmp 66), 0, _, _, _⟩) (v := ?_) rfl (by kernel_rfl) (by kernel_rfl) (by kernel_rfl) (by kernel_rfl) (by kernel_rfl) (fun _ _ _ h => h) (by rfl) ?hyks2_9 (hHeld) ?hrks2_9
                case hyks2_9 => (intro wS hSw; clear hSw; go_simp; (try with_reducible rfl))
                all_goals try simp only [Act.put, List.setIfInBounds_toArray, List.set_cons_zero, List.set_cons_succ]
                refine wpAnyE_take (i := 9) (oi := ⟨some 68, Op.load 9 (Operand.tmp 67), 9, _, _, _⟩) (v := ?_) rfl (by kernel_rfl) (by kernel_rfl) (by kernel_rfl) (by kernel_rfl) (by kernel_rfl) (fun _ _ _ h => h) (by rfl) ?hyks2_10 (hHeld) ?hrks2_10
                case hyks2_10 => (intro wS hSw; (have hq := hSw.2); clear hSw; go_simp; (try with_reducible rfl))
                all_goals try simp only [Act.put, List.setIfInBounds_toArray, List.set_cons_zero, List.set_cons_succ]
                refine wpAnyD_one (i := 10) (oi := ⟨some 69, Op.buildSlice 22 1 #[(0, Operand.tmp 68)], 22, _, _, _⟩) rfl (by kernel_rfl) (by rfl) (fun K hK => ?_)
                go_simp
                refine hK _ _ (fun _ => ?_) ?_
                · exact ⟨(((Below.refl W0.heap.size W0).alloc (Nat.le_refl _) _).cell (p := ⟨O, 2, none⟩) HS0.out.box.lt).trans hHeld.1, (((Below.refl W0.heap.size W0).alloc (Nat.le_refl _) _).cell (p := ⟨Wb, j, none⟩) HS0.out.w.lt).trans hHeld.2⟩
                clear hK K
                generalize hlit : World.alloc _ _ = W2
                have hhl := heap_alloc_new W0 (.cells #[.string x] 9)
                have hol := HS0.out.n.alloc (.cells #[.string x] 9)
                have hlit2 : W0.alloc (.cells #[.string x] 9) = W2 := hlit
                have HSZ : Hid (W2.heap.size = W0.heap.size + 1) := Lib.hid (by rw [← hlit2]; simp)
                rw [hlit2] at hhl hol
                have HLI := Lib.hid hlit2
                have HOL := Lib.hid hol
                have HHL := Lib.hid hhl
                clear hlit hlit2 hhl hol hHeld
                try simp only [Act.put, List.setIfInBounds_toArray, List.set_cons_zero, List.set_cons_succ]
                refine wpAnyD_one (i := 11) (oi := ⟨some 70, Op.call { callee := Callee.builtin Builtin.append, args := #[Operand.tmp 60, Operand.tmp 69], argTypes := #[22, 22] }, 22, _, _, _⟩) rfl (by kernel_rfl) (by rfl) (fun K hK => ?_)
                refine wp_push (α := ByteArray) _ (.tmp 60) (.tmp 69) 22 rfl wo.heap.size 9 (.string ⟨#[]⟩) 16 Tryd.underlying22 s_info rfl (by decide) v2 notes rfl HOL.out W0.heap.size #[.string x] x (0, 0) 9 rfl HHL.out rfl (by have := hnl.out; omega) (by have := hnl.out; omega) (by have := HS0.out.bb.size; have := HSZ.out; omega) _ rfl ?_
                intro g5 p5 w5 hown5 hg5 hat5 hlt5
                rw [← HLI.out] at hg5 hat5
                have hss := HS0.out.push2 hown5 hg5 hat5
                have HS5 := Lib.hid hss.1
                have kO := hss.2.cell 2 rfl
                have fO := hss.2.fz
                clear hss hown5 hg5 hat5 HOL HHL
                refine hK _ _ (fun h => absurd h (by decide)) ?_
                clear hK K
                try simp only [Act.put, List.setIfInBounds_toArray, List.set_cons_zero, List.set_cons_succ]
                refine wpAnyD_one (i := 12) (oi := ⟨some 71, Op.fieldAddr 24 (Operand.tmp 6) 2, 0, _, _, _⟩) rfl (by kernel_rfl) (by rfl) (fun K hK => ?_)
                go_simp
                refine hK _ _ (fun h => absurd h (by decide)) ?_
                clear hK K
                try simp only [Act.put, List.setIfInBounds_toArray, List.set_cons_zero, List.set_cons_succ]
                refine wpAnyD_one (i := 13) (oi := ⟨none, Op.store 22 (Operand.tmp 71) (Operand.tmp 70), 0, _, _, _⟩) rfl (by kernel_rfl) (by rfl) (fun K hK => ?_)
                go_simp
                refine hK _ _ (fun h => absurd h (by decide)) ?_
                clear hK K
                try simp only [Act.put]
                refine wpAnyD_done (by kernel_rfl) ?_ _
                unfold Exit.then
                go_wp2_with fail
                go_roundw
                case rel => exact ⟨m + 1, _, notes ++ [x], by go_num, by omega, Lib.hid (by have := hnl.out; simp; omega), Lib.hid (fun y hy => by rcases List.mem_append.1 hy with h | h; exact HYS.out y h; obtain rfl := List.mem_singleton.1 h; exact HX.out), HS5⟩
                case measure => (simp [intOf]; omega)
              · have hmq' : ¬ (m : Int) < (n : Int) / 96 % 3 := by omega
                have hsz2 : notes.length ≤ 2 := by have := hnl.out; omega
                have HSZ2 := Lib.hid hsz2
                obtain ⟨A1, c1, e1, hs1⟩ := HSS.out.b.sl
                obtain ⟨A2, c2, e2, hs2⟩ := HSS.out.n.sl
                subst e1 e2
                have k0 := HSS.out.box.cell 0 rfl
                have k1 := HSS.out.box.cell 1 rfl
                have k2 := HSS.out.box.cell 2 rfl
                have HB2 := Lib.hid (HB.out.trans (HSS.out.bb.mono HB.out.size))
                have HO2' := Lib.hid (HO.out.below HSS.out.bb)
                have hba : Below wr.heap.size wr (wr.alloc (.cells #[.string lab, .slice A1 body.length c1, .slice A2 notes.length c2] 24)) := (Below.refl _ _).alloc (Nat.le_refl _) _
                have HO2 := Lib.hid (HO2'.out.below hba)
                have HR : Hid (∀ v : Value, (∀ g, v.ownBlock = some g → g < wo.heap.size) → Rep.R (wr.alloc (.cells #[.string lab, .slice A1 body.length c1, .slice A2 notes.length c2] 24)) (fun b => some b ≠ v.ownBlock) [.string lab, .slice A1 body.length c1, .slice A2 notes.length c2] (⟨⟨lab, body, notes⟩⟩ : ShB w.heap.size)) := Lib.hid (fun v hv =>
                  ⟨_, _, rfl, ⟨A1, c1, rfl, ((HSS.out.b.sl_base (by rfl)).keep (Kept.all hba) hba.size).mono (fun i hi _ => ⟨fun e => by have := hv i e.symm; omega, by have := HB.out.size; omega⟩), Nat.lt_of_le_of_lt HSZ1.out (by decide)⟩, ⟨A2, c2, rfl, ((HSS.out.n.sl_base (by rfl)).keep (Kept.all hba) hba.size).mono (fun i hi _ => ⟨fun e => by have := hv i e.symm; omega, by have := HB.out.size; omega⟩), Nat.lt_of_le_of_lt HSZ2.out (by decide)⟩⟩)
                have HVL : Hid (∀ g, u3.ownBlock = some g → g < wo.heap.size) := Lib.hid (fun g hg => (HO.out.lt g hg).2)
                have HNS : Hid (SmallS ⟨lab, body, notes⟩) := Lib.hid ⟨HLab.out, HSZ1.out, HSZ2.out, HXS.out, HYS.out⟩
                clear hba hs1 hs2 HSS
                go_wp2_with (first
                  | (at_builtin; refine wpList_push (α := ShB w.heap.size) _ rfl (.tmp 72) (.tmp 74) 26 rfl w.heap.size 24 (.agg #[.string ⟨#[]⟩, .slice none 0 0, .slice none 0 0]) 64 Tryd.underlying26 (sheetB_info w.heap.size) rfl (show 0 < 3 by decide) u3 sh rfl HO2.out wr.heap.size #[.string lab, .slice A1 body.length c1, .slice A2 notes.length c2] ⟨⟨lab, body, notes⟩⟩ (0, 0) 24 rfl (heap_alloc_new wr _) (HR.out u3 HVL.out) (by omega) (by omega) (by have := HB2.out.size; simp; omega) _ rfl ?_; intro g5 p5 w5 hown5 hg5 hat5 hlt5)
                  | fail)
                go_roundw
                case rel => exact ⟨k + 1, sh ++ [⟨⟨lab, body, notes⟩⟩], by omega, by go_num, by simp; omega, by omega, Lib.hid hown5, Lib.hid (fun y hy => by rcases List.mem_append.1 hy with h | h; exact HSM.out y h; obtain rfl := List.mem_singleton.1 h; exact HNS.out), Lib.hid (below_push HB2.out HO2'.out HB2.out.size hg5)⟩
                case measure => simp [intOf]; omega
      · have hk12' : ¬ (k : Int) < 12 := by omega
        have hkl : (k : Int) < (l.length : Int) := by omega
        go_wp2_with fail
        go_ret
        exact ⟨u3, rfl, sh, HO.out, by omega, HSM.out, HB.out⟩
    · go_wp2_with fail
      go_ret
      exact ⟨u3, rfl, sh, HO.out, by omega, HSM.out, HB.out⟩
end Go.Proofs.YthcklfelofpffaaDoor
