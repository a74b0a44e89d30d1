/- CertifyIncludes: the law's own function returns true. No condition but what the table holds. -/
import Derived.Test.YthcklfelofpffaaDoorCerL1
namespace Go.Proofs.YthcklfelofpffaaDoor
open Go.RowKit
set_option maxRecDepth 100000 in
set_option maxHeartbeats 4000000 in
theorem includesLaw_any (branch : Int) (A : Option Addr) (c : Nat) (ll : List (List Int)) (B : Option Addr) (cB : Nat) (l : List Int) (w : World) (hbr : I64 branch) (hll : Sl w (fun b => b < w.heap.size) A c ll) (hl : Sl w (fun b => b < w.heap.size) B cB l) (hK : KLaid w) :
    Calls Tryd.prog 5 #[.int .i64 branch, .slice A ll.length c, .slice B l.length cB] w fun e w' => e = .returned (.bool true) ∧ Below w.heap.size w w' := by
  have HLL := Lib.hid hll
  have HSO := Lib.hid (some_any B cB l w hl)
  have HBR := Lib.hid hbr
  have HK := Lib.hid hK
  clear hll hl hbr hK
  go_enter Tryd.func5, Tryd.ntmps5
  go_wp2_with fail
  refine HSO.out.mono ?_
  rintro e w1 ⟨v1, rfl, sh, hown1, hlen1, hsm1, hb1⟩
  obtain ⟨A1, c1, rfl, hs1⟩ := hown1.sl
  have HB1 := Lib.hid hb1
  have HSM := Lib.hid hsm1
  have HL1 := Lib.hid hlen1
  have HDF := Lib.hid (different_any A1 c1 sh w1 hs1 (by omega))
  clear hown1 hlen1 hsm1 hb1 hs1 HSO
  go_wp2_with fail
  refine HDF.out.mono ?_
  rintro e w2 ⟨v2, rfl, d, hown2, hlen2, hdf2, hb2⟩
  obtain ⟨Ad, cd, rfl, hs2⟩ := hown2.sl
  have HD2 := Lib.hid hs2
  have HB2 := Lib.hid (HB1.out.trans (hb2.mono HB1.out.size))
  have HDF2 := Lib.hid hdf2
  have HLd : Hid (d.length ≤ 12) := Lib.hid (by have := HL1.out; omega)
  have HSMd : Hid (∀ s ∈ d, SmallS s) := Lib.hid (fun s hs => HSM.out s (hdf2.2 s hs))
  have HLG := Lib.hid (ledger_any branch A c ll w2 HBR.out (HLL.out.to HB2.out) (HK.out.to HB2.out))
  clear hown2 hlen2 hdf2 hb2 hs2 HDF HSM HL1 HB1
  go_wp2_with fail
  refine HLG.out.mono ?_
  rintro e w3 ⟨v3, v4, rfl, L0, N0, A3, A4, c3, c4, rfl, rfl, hs3, hs4, hln0, hlm0, hb3⟩
  have HB3 := Lib.hid (HB2.out.trans (hb3.mono HB2.out.size))
  have HD3 := Lib.hid (HD2.out.to hb3)
  have HLN0 := Lib.hid hln0
  have HLM0 := Lib.hid hlm0
  have HAD0 := Lib.hid (add_any branch A3 A4 Ad c3 c4 cd L0 N0 d w3 HBR.out hs3 hs4 HD3.out hln0 (by have := HLd.out; omega) (fun s hs => by have := smallS_size branch (HSMd.out s hs); omega) (HK.out.to HB3.out))
  clear hs3 hs4 hln0 hlm0 hb3 HLG HD2 HB2
  go_wp2_with fail
  refine HAD0.out.mono ?_
  rintro e w4 ⟨v5, v6, rfl, ho5, ho6, hb4⟩
  obtain ⟨A1, c1, rfl, hs5⟩ := ho5.sl
  obtain ⟨A2, c2, rfl, hs6⟩ := ho6.sl
  have HLQ := Lib.hid (addAll_len branch d (L0, N0) HLN0.out)
  have HALL := Lib.hid (has_all branch d (L0, N0) HLN0.out HDF2.out.1).1
  obtain ⟨L, N, hq⟩ : ∃ L N, addAll branch (L0, N0) d = (L, N) := ⟨_, _, rfl⟩
  rw [hq] at HLQ HALL hs5 hs6 ⊢
  have HB4 := Lib.hid (HB3.out.trans (hb4.mono HB3.out.size))
  have HD4 := Lib.hid (HD3.out.to hb4)
  have HLN : Hid (L.length = N.length) := Lib.hid HLQ.out.1
  have HLM : Hid (L.length ≤ 72) := Lib.hid (by have h1 : L.length ≤ L0.length + d.length := HLQ.out.2; have := HLM0.out; have := HLd.out; omega)
  have HAG : Hid (addAll branch (L, N) d = (L, N)) := Lib.hid (all_again branch d (L, N) HALL.out)
  dsimp only at hs5 hs6 ⊢
  have hb5 : Below w4.heap.size w4 (w4.alloc (.cells #[.slice A1 L.length c1, .slice A2 N.length c2] 36)) := (Below.refl _ _).alloc (Nat.le_refl _) _
  have HLD0 : Hid (LB (w4.alloc (.cells #[.slice A1 L.length c1, .slice A2 N.length c2] 36)) w4.heap.size L N A1 c1 A2 c2) := Lib.hid ⟨heap_alloc_new w4 _, hs5.to hb5, hs6.to hb5⟩
  have HD5 := Lib.hid (HD4.out.to hb5)
  have HB5 := Lib.hid (HB4.out.trans (hb5.mono HB4.out.size))
  clear hb5 hs5 hs6 ho5 ho6 hb4 HD3 HD4 HB3 HB4 HAD0 hq HLQ
  go_upto_region 3 with (fail)
  generalize hw : World.alloc w4 _ = w5
  have hv : w4.alloc (.cells #[.slice A1 L.length c1, .slice A2 N.length c2] 36) = w5 := hw
  rw [hv] at HLD0 HD5 HB5
  clear hw hv
  generalize w4.heap.size = Ob at *
  go_wp2_with fail
  go_loopw [9] (fun i wr => ∃ k : Nat, k ≤ d.length ∧ i = .int .i64 k ∧ Hid (Below w5.heap.size w5 wr)) (fun i _ => d.length - (intOf i).toNat)
  case atStart => exact ⟨0, Nat.zero_le _, rfl, Lib.hid (Below.refl _ _)⟩
  case round =>
    obtain ⟨k, hk, rfl, HBw⟩ := hrel
    have hd12 : d.length ≤ 12 := HLd.out
    have HLD := Lib.hid (HLD0.out.to HBw.out)
    have HBo := Lib.hid (HB5.out.trans (HBw.out.mono HB5.out.size))
    by_cases hlt : k < d.length
    · obtain ⟨b, o, A7, c7, A8, c8, rfl, hbS, hbl, e0, e1, e2, s1, s2⟩ := sheet_at (HD5.out.to HBw.out) hlt
      have hkl : (k : Int) < (d.length : Int) := by omega
      have hk0 : (0 : Int) ≤ (k : Int) := by omega
      have HCK := Lib.hid (has_check branch L N d[k] (HALL.out _ (List.getElem_mem _)) (by have := HLM.out; omega))
      have HSX := Lib.hid (HSMd.out _ (List.getElem_mem hlt))
      generalize d[k] = x at *
      have HE := Lib.hid (And.intro hbl (And.intro e0 (And.intro e1 e2)))
      have HS1 := Lib.hid s1
      have HS2 := Lib.hid s2
      have HPR : Hid (∀ W, Below wr.heap.size wr W → Calls Tryd.prog 21 #[.agg #[.slice A1 L.length c1, .slice A2 N.length c2], .string x.label] W fun e w' => ∃ A' c', e = .returned (.tuple #[.int .i64 (proofI N x.label), .slice A' (proofP L N x.label).length c', .bool true]) ∧ Sl w' (fun b => b < w'.heap.size) A' c' (proofP L N x.label) ∧ Below W.heap.size W w') := Lib.hid (fun W h => by
        have := proof_any A1 A2 c1 c2 L N x.label W (HLD.out.l.to h) (HLD.out.n.to h) HLN.out (by have := HLM.out; omega) (HK.out.to (HBo.out.trans (h.mono HBo.out.size)))
        rw [HCK.out.1] at this; exact this)
      have SP : ∀ W, Below wr.heap.size wr W → W.cell? ⟨Ob, 0, none⟩ = some (.slice A1 L.length c1) ∧ W.cell? ⟨Ob, 1, none⟩ = some (.slice A2 N.length c2) ∧ W.cell? ⟨b, o + k * 3, none⟩ = some (.string x.label) := fun W h =>
        ⟨(HLD.out.box.to h).cell 0 rfl, (HLD.out.box.to h).cell 1 rfl, (h.cell (p := ⟨b, o + k * 3, none⟩) HE.out.1).trans HE.out.2.1⟩
      clear e0 e1 e2 s1 s2 hbl
      go_upto_region 6 with (fail)
      go_cut [10, 11, 12] from 28 to 39 (fun a10 a11 a12 wx => ∃ A6 c6, a10 = .int .i64 (proofI N x.label) ∧ a11 = .slice A6 (proofP L N x.label).length c6 ∧ a12 = .bool true ∧ Hid (Sl wx (fun b => b < wx.heap.size) A6 c6 (proofP L N x.label)) ∧ Hid (Below wr.heap.size wr wx))
      case first =>
        refine wp_region_D (fun w' => w'.cell? ⟨Ob, 0, none⟩ = some (.slice A1 L.length c1) ∧ w'.cell? ⟨Ob, 1, none⟩ = some (.slice A2 N.length c2) ∧ w'.cell? ⟨b, o + k * 3, none⟩ = some (.string x.label)) (fun _ => true) (by kernel_rfl) ?_
        have hb0 : Hid (Below wr.heap.size wr wr.drew) := Lib.hid (Below.refl _ _).drew
        generalize wr.drew = W0 at *
        refine wpAnyE_take (i := 0) (oi := ⟨some 29, Op.load 36 (Operand.tmp 8), 36, _, _, _⟩) (v := ?_) rfl (by kernel_rfl) (by kernel_rfl) (by kernel_rfl) (by kernel_rfl) (by kernel_rfl) (fun _ _ _ h => h) (by rfl) ?hykr6_1 ((SP _ hb0.out)) ?hrkr6_1
        case hykr6_1 => (intro wS hSw; (have hq := hSw.1); (have hq2 := hSw.2.1); clear hSw; go_simp; (try with_reducible rfl))
        all_goals try simp only [Act.put, List.setIfInBounds_toArray, List.set_cons_zero, List.set_cons_succ]
        refine wpAnyE_take (i := 1) (oi := ⟨some 30, Op.move (Operand.tmp 7), 26, _, _, _⟩) (v := ?_) rfl (by kernel_rfl) (by kernel_rfl) (by kernel_rfl) (by kernel_rfl) (by kernel_rfl) (fun _ _ _ h => h) (by rfl) ?hykr6_2 ((SP _ hb0.out)) ?hrkr6_2
        case hykr6_2 => (intro wS hSw; clear hSw; go_simp; (try with_reducible rfl))
        all_goals try simp only [Act.put, List.setIfInBounds_toArray, List.set_cons_zero, List.set_cons_succ]
        refine wpAnyE_take (i := 2) (oi := ⟨some 31, Op.move (Operand.tmp 9), 3, _, _, _⟩) (v := ?_) rfl (by kernel_rfl) (by kernel_rfl) (by kernel_rfl) (by kernel_rfl) (by kernel_rfl) (fun _ _ _ h => h) (by rfl) ?hykr6_3 ((SP _ hb0.out)) ?hrkr6_3
        case hykr6_3 => (intro wS hSw; clear hSw; go_simp; (try with_reducible rfl))
        all_goals try simp only [Act.put, List.setIfInBounds_toArray, List.set_cons_zero, List.set_cons_succ]
        refine wpAnyE_take (i := 3) (oi := ⟨some 32, Op.indexAddr 26 (Operand.tmp 30) (Operand.tmp 31), 0, _, _, _⟩) (v := ?_) rfl (by kernel_rfl) (by kernel_rfl) (by kernel_rfl) (by kernel_rfl) (by kernel_rfl) (fun _ _ _ h => h) (by rfl) ?hykr6_4 ((SP _ hb0.out)) ?hrkr6_4
        case hykr6_4 => (intro wS hSw; clear hSw; go_simp; (try with_reducible rfl))
        all_goals try simp only [Act.put, List.setIfInBounds_toArray, List.set_cons_zero, List.set_cons_succ]
        refine wpAnyE_take (i := 4) (oi := ⟨some 33, Op.fieldAddr 24 (Operand.tmp 32) 0, 0, _, _, _⟩) (v := ?_) rfl (by kernel_rfl) (by kernel_rfl) (by kernel_rfl) (by kernel_rfl) (by kernel_rfl) (fun _ _ _ h => h) (by rfl) ?hykr6_5 ((SP _ hb0.out)) ?hrkr6_5
        case hykr6_5 => (intro wS hSw; clear hSw; go_simp; (try with_reducible rfl))
        all_goals try simp only [Act.put, List.setIfInBounds_toArray, List.set_cons_zero, List.set_cons_succ]
        refine wpAnyE_take (i := 5) (oi := ⟨some 34, Op.load 9 (Operand.tmp 33), 9, _, _, _⟩) (v := ?_) rfl (by kernel_rfl) (by kernel_rfl) (by kernel_rfl) (by kernel_rfl) (by kernel_rfl) (fun _ _ _ h => h) (by rfl) ?hykr6_6 ((SP _ hb0.out)) ?hrkr6_6
        case hykr6_6 => (intro wS hSw; (have hq := hSw.2.2); clear hSw; go_simp; (try with_reducible rfl))
        all_goals try simp only [Act.put, List.setIfInBounds_toArray, List.set_cons_zero, List.set_cons_succ]
        refine wpAnyD_one (i := 6) (oi := ⟨some 35, Op.call { callee := Callee.value (Operand.func 21), args := #[Operand.tmp 29, Operand.tmp 34], argTypes := #[36, 9] }, 45, _, _, _⟩) rfl (by kernel_rfl) (by rfl) (fun K hK => ?_)
        go_simp
        go_at_call 21
        refine (HPR.out W0 hb0.out).mono ?_
        rintro e W2 ⟨A6, c6, rfl, hs6, hb2⟩
        have hbb := Lib.hid (hb0.out.trans (hb2.mono hb0.out.size))
        have HS6 := Lib.hid hs6
        clear hs6 hb2
        go_simp
        refine hK _ _ (fun _ => ?_) ?_
        · exact (SP _ hbb.out)
        clear hK K
        try simp only [Act.put, List.setIfInBounds_toArray, List.set_cons_zero, List.set_cons_succ]
        refine wpAnyE_take (i := 7) (oi := ⟨some 28, Op.move (Operand.tmp 35), 45, _, _, _⟩) (v := ?_) rfl (by kernel_rfl) (by kernel_rfl) (by kernel_rfl) (by kernel_rfl) (by kernel_rfl) (fun _ _ _ h => h) (by rfl) ?hykr6_7 ((SP _ hbb.out)) ?hrkr6_7
        case hykr6_7 => (intro wS hSw; clear hSw; go_simp; (try with_reducible rfl))
        all_goals try simp only [Act.put, List.setIfInBounds_toArray, List.set_cons_zero, List.set_cons_succ]
        refine wpAnyE_take (i := 8) (oi := ⟨some 36, Op.extract (Operand.tmp 28) 0, 3, _, _, _⟩) (v := ?_) rfl (by kernel_rfl) (by kernel_rfl) (by kernel_rfl) (by kernel_rfl) (by kernel_rfl) (fun _ _ _ h => h) (by rfl) ?hykr6_8 ((SP _ hbb.out)) ?hrkr6_8
        case hykr6_8 => (intro wS hSw; clear hSw; go_simp; (try with_reducible rfl))
        all_goals try simp only [Act.put, List.setIfInBounds_toArray, List.set_cons_zero, List.set_cons_succ]
        refine wpAnyE_take (i := 9) (oi := ⟨some 37, Op.extract (Operand.tmp 28) 1, 34, _, _, _⟩) (v := ?_) rfl (by kernel_rfl) (by kernel_rfl) (by kernel_rfl) (by kernel_rfl) (by kernel_rfl) (fun _ _ _ h => h) (by rfl) ?hykr6_9 ((SP _ hbb.out)) ?hrkr6_9
        case hykr6_9 => (intro wS hSw; clear hSw; go_simp; (try with_reducible rfl))
        all_goals try simp only [Act.put, List.setIfInBounds_toArray, List.set_cons_zero, List.set_cons_succ]
        refine wpAnyE_take (i := 10) (oi := ⟨some 38, Op.extract (Operand.tmp 28) 2, 4, _, _, _⟩) (v := ?_) rfl (by kernel_rfl) (by kernel_rfl) (by kernel_rfl) (by kernel_rfl) (by kernel_rfl) (fun _ _ _ h => h) (by rfl) ?hykr6_10 ((SP _ hbb.out)) ?hrkr6_10
        case hykr6_10 => (intro wS hSw; clear hSw; go_simp; (try with_reducible rfl))
        all_goals try simp only [Act.put, List.setIfInBounds_toArray, List.set_cons_zero, List.set_cons_succ]
        refine wpAnyE_take (i := 11) (oi := ⟨some 10, Op.assign (Operand.tmp 36), 3, _, _, _⟩) (v := ?_) rfl (by kernel_rfl) (by kernel_rfl) (by kernel_rfl) (by kernel_rfl) (by kernel_rfl) (fun _ _ _ h => h) (by rfl) ?hykr6_11 ((SP _ hbb.out)) ?hrkr6_11
        case hykr6_11 => (intro wS hSw; clear hSw; go_simp; (try with_reducible rfl))
        all_goals try simp only [Act.put, List.setIfInBounds_toArray, List.set_cons_zero, List.set_cons_succ]
        refine wpAnyE_take (i := 12) (oi := ⟨some 11, Op.assign (Operand.tmp 37), 34, _, _, _⟩) (v := ?_) rfl (by kernel_rfl) (by kernel_rfl) (by kernel_rfl) (by kernel_rfl) (by kernel_rfl) (fun _ _ _ h => h) (by rfl) ?hykr6_12 ((SP _ hbb.out)) ?hrkr6_12
        case hykr6_12 => (intro wS hSw; clear hSw; go_simp; (try with_reducible rfl))
        all_goals try simp only [Act.put, List.setIfInBounds_toArray, List.set_cons_zero, List.set_cons_succ]
        refine wpAnyE_take (i := 13) (oi := ⟨some 12, Op.assign (Operand.tmp 38), 4, _, _, _⟩) (v := ?_) rfl (by kernel_rfl) (by kernel_rfl) (by kernel_rfl) (by kernel_rfl) (by kernel_rfl) (fun _ _ _ h => h) (by rfl) ?hykr6_13 ((SP _ hbb.out)) ?hrkr6_13
        case hykr6_13 => (intro wS hSw; clear hSw; go_simp; (try with_reducible rfl))
        all_goals try simp only [Act.put, List.setIfInBounds_toArray, List.set_cons_zero, List.set_cons_succ]
        refine wpAnyD_done (by kernel_rfl) ?_ _
        unfold Exit.then
        try go_wp2_with fail
        go_meet
        exact ⟨A6, c6, rfl, rfl, rfl, HS6, hbb⟩
      case rest =>
        obtain ⟨A6, c6, rfl, rfl, rfl, HS6, hbc⟩ := hcut
        have HBc := Lib.hid (HBo.out.trans (hbc.out.mono HBo.out.size))
        have HRL : Hid ((root L).length = 32) := Lib.hid (root_length _ (h32_len HLD.out.l))
        have HCV := Lib.hid HCK.out.2
        obtain ⟨pp, hpp⟩ : ∃ q, q = proofP L N x.label := ⟨_, rfl⟩
        obtain ⟨pi, hpi⟩ : ∃ q, q = proofI N x.label := ⟨_, rfl⟩
        rw [← hpp, ← hpi] at HCV
        rw [← hpp] at HS6
        rw [← hpp, ← hpi]
        clear hpp hpi HCK HPR
        obtain ⟨rr, hrr⟩ : ∃ q, q = root L := ⟨_, rfl⟩
        have HRR := Lib.hid hrr
        rw [← hrr] at HCV HRL
        clear hrr
        go_upto_region 7 with (fail)
        go_cut [53] from 39 to 53 (fun a53 wx => a53 = .bool false ∧ Hid (Below wc.heap.size wc wx))
        case first =>
          refine wp_region_calm (by kernel_rfl) (by kernel_rfl) ?_
          intro TT hTT g hgb hgm
          have c0 := fun d => (SP _ (hbc.out.trans ((hgb d).mono hbc.out.size))).1
          have c1x := fun d => (SP _ (hbc.out.trans ((hgb d).mono hbc.out.size))).2.1
          have c2x := fun d => (SP _ (hbc.out.trans ((hgb d).mono hbc.out.size))).2.2
          have c3x := fun d => ((hbc.out.trans ((hgb d).mono hbc.out.size)).cell (p := ⟨b, o + k * 3 + 1, none⟩) HE.out.1).trans HE.out.2.2.1
          have c4x := fun d => ((hbc.out.trans ((hgb d).mono hbc.out.size)).cell (p := ⟨b, o + k * 3 + 2, none⟩) HE.out.1).trans HE.out.2.2.2
          have HCT : Hid (∀ d, Calls Tryd.prog 17 #[.agg #[.slice A1 L.length c1, .slice A2 N.length c2]] (g d) fun e w' => e = .returned (headV L.length rr) ∧ ∃ m, w' = g m) := Lib.hid (fun d => by
            refine (top_any A1 A2 c1 L.length L (g d) c2 N.length ((HLD.out.l.to hbc.out).to (hgb d)) rfl (by have := HLM.out; omega) ((HK.out.to HBc.out).to (hgb d))).mono ?_
            rintro e w' ⟨rfl, hb⟩
            exact ⟨by rw [HRR.out], hgm d w' hb⟩)
          have HCC : Hid (∀ d, Calls Tryd.prog 22 #[headV L.length rr, .int .i64 branch, .agg #[.string x.label, .slice A7 x.body.length c7, .slice A8 x.notes.length c8], .int .i64 pi, .slice A6 pp.length c6] (g d) fun e w' => e = .returned (.bool true) ∧ ∃ m, w' = g m) := Lib.hid (fun d => by
            refine (check_any L.length branch pi rr x A7 A8 A6 c7 c8 c6 pp.length pp (g d) HRL.out HBR.out ((HS1.out.to hbc.out).to (hgb d)) ((HS2.out.to hbc.out).to (hgb d)) (by have := smallS_size branch HSX.out; omega) (HS6.out.to (hgb d)) rfl ((HK.out.to HBc.out).to (hgb d))).mono ?_
            rintro e w' ⟨rfl, hb⟩
            exact ⟨by rw [HCV.out], hgm d w' hb⟩)
          have HGB := Lib.hid hgb
          clear hgb hgm
          go_big_quiet_step (fail)
          go_big_quiet_step (fail)
          go_big_quiet_step (fail)
          go_big_quiet_step (fail)
          go_big_quiet_step ((go_at_call 17; with_reducible refine Calls.mono (HCT.out _) ?_; rintro e w6 ⟨rfl, hm⟩; exact ⟨rfl, hm⟩))
          go_big_quiet_step (fail)
          go_big_quiet_step (fail)
          go_big_quiet_step (fail)
          go_big_quiet_step (fail)
          go_big_quiet_step (fail)
          go_big_quiet_step (fail)
          go_big_quiet_step (fail)
          go_big_quiet_step ((go_at_call 22; with_reducible refine Calls.mono (HCC.out _) ?_; rintro e w6 ⟨rfl, hm⟩; exact ⟨rfl, hm⟩))
          go_big_quiet_step (fail)
          go_big_quiet_step (fail)
          refine wpQuiet_nil ?_
          rintro _ ⟨nq, rfl⟩
          unfold Exit.then
          try go_wp2_with fail
          go_meet
          exact ⟨rfl, Lib.hid (HGB.out nq)⟩
        case rest =>
          rename_i hcut2 _
          obtain ⟨rfl, hbd⟩ := hcut
          go_wp2_with fail
          go_roundw
          case rel => exact ⟨k + 1, by omega, by go_num, Lib.hid (HBw.out.trans ((hbc.out.trans (hbd.out.mono hbc.out.size)).mono HBw.out.size))⟩
          case measure => (simp [intOf]; omega)
    · have hkl : ¬ (k : Int) < (d.length : Int) := by omega
      have SP9 : ∀ W, Below wr.heap.size wr W → W.cell? ⟨Ob, 0, none⟩ = some (.slice A1 L.length c1) ∧ W.cell? ⟨Ob, 1, none⟩ = some (.slice A2 N.length c2) := fun W h => ⟨(HLD.out.box.to h).cell 0 rfl, (HLD.out.box.to h).cell 1 rfl⟩
      have HAD : Hid (∀ W, Below wr.heap.size wr W → Calls Tryd.prog 15 #[.agg #[.slice A1 L.length c1, .slice A2 N.length c2], .int .i64 branch, .slice Ad d.length cd] W fun e w' => ∃ v1 v2, e = .returned (.agg #[v1, v2]) ∧ Own w' W.heap.size 29 v1 L ∧ Own w' W.heap.size 9 v2 N ∧ Below W.heap.size W w') := Lib.hid (fun W h => by
        have := add_any branch A1 A2 Ad c1 c2 cd L N d W HBR.out (HLD.out.l.to h) (HLD.out.n.to h) ((HD5.out.to HBw.out).to h) HLN.out (by have := HLM.out; have := HLd.out; omega) (fun s hs => by have := smallS_size branch (HSMd.out s hs); omega) (HK.out.to (HBo.out.trans (h.mono HBo.out.size)))
        rw [HAG.out] at this; exact this)
      go_upto_region 9 with (fail)
      refine wp_region_D (fun w' => w'.cell? ⟨Ob, 0, none⟩ = some (.slice A1 L.length c1) ∧ w'.cell? ⟨Ob, 1, none⟩ = some (.slice A2 N.length c2)) (fun i => decide (i < 5)) (by kernel_rfl) ?_
      have hb0 : Hid (Below wr.heap.size wr wr.drew) := Lib.hid (Below.refl _ _).drew
      generalize wr.drew = W0 at *
      refine wpAnyE_take (i := 0) (oi := ⟨some 54, Op.load 36 (Operand.tmp 8), 36, _, _, _⟩) (v := ?_) rfl (by kernel_rfl) (by kernel_rfl) (by kernel_rfl) (by kernel_rfl) (by kernel_rfl) (fun _ _ _ h => h) (by rfl) ?hykr9_1 ((SP9 _ hb0.out)) ?hrkr9_1
      case hykr9_1 => (intro wS hSw; (have hq := hSw.1); (have hq2 := hSw.2); clear hSw; go_simp; (try with_reducible rfl))
      all_goals try simp only [Act.put, List.setIfInBounds_toArray, List.set_cons_zero, List.set_cons_succ]
      refine wpAnyE_take (i := 1) (oi := ⟨some 55, Op.load 36 (Operand.tmp 8), 36, _, _, _⟩) (v := ?_) rfl (by kernel_rfl) (by kernel_rfl) (by kernel_rfl) (by kernel_rfl) (by kernel_rfl) (fun _ _ _ h => h) (by rfl) ?hykr9_2 ((SP9 _ hb0.out)) ?hrkr9_2
      case hykr9_2 => (intro wS hSw; (have hq := hSw.1); (have hq2 := hSw.2); clear hSw; go_simp; (try with_reducible rfl))
      all_goals try simp only [Act.put, List.setIfInBounds_toArray, List.set_cons_zero, List.set_cons_succ]
      refine wpAnyE_take (i := 2) (oi := ⟨some 56, Op.move (Operand.tmp 0), 3, _, _, _⟩) (v := ?_) rfl (by kernel_rfl) (by kernel_rfl) (by kernel_rfl) (by kernel_rfl) (by kernel_rfl) (fun _ _ _ h => h) (by rfl) ?hykr9_3 ((SP9 _ hb0.out)) ?hrkr9_3
      case hykr9_3 => (intro wS hSw; clear hSw; go_simp; (try with_reducible rfl))
      all_goals try simp only [Act.put, List.setIfInBounds_toArray, List.set_cons_zero, List.set_cons_succ]
      refine wpAnyE_take (i := 3) (oi := ⟨some 57, Op.move (Operand.tmp 7), 26, _, _, _⟩) (v := ?_) rfl (by kernel_rfl) (by kernel_rfl) (by kernel_rfl) (by kernel_rfl) (by kernel_rfl) (fun _ _ _ h => h) (by rfl) ?hykr9_4 ((SP9 _ hb0.out)) ?hrkr9_4
      case hykr9_4 => (intro wS hSw; clear hSw; go_simp; (try with_reducible rfl))
      all_goals try simp only [Act.put, List.setIfInBounds_toArray, List.set_cons_zero, List.set_cons_succ]
      refine wpAnyD_one (i := 4) (oi := ⟨some 58, Op.call { callee := Callee.value (Operand.func 15), args := #[Operand.tmp 55, Operand.tmp 56, Operand.tmp 57], argTypes := #[36, 3, 26] }, 36, _, _, _⟩) rfl (by kernel_rfl) (by rfl) (fun K hK => ?_)
      go_simp
      go_at_call 15
      refine (HAD.out W0 hb0.out).mono ?_
      rintro e W3 ⟨v6, v7, rfl, ho6, ho7, hb3⟩
      obtain ⟨A6, c6, rfl, hs6⟩ := ho6.sl
      obtain ⟨A7, c7, rfl, hs7⟩ := ho7.sl
      have hbz := Lib.hid (hb0.out.trans (hb3.mono hb0.out.size))
      have HS6 := Lib.hid hs6
      have HS7 := Lib.hid hs7
      clear ho6 ho7 hb3 hs6 hs7
      go_simp
      refine hK _ _ (fun _ => ?_) ?_
      · exact (SP9 _ hbz.out)
      clear hK K
      try simp only [Act.put, List.setIfInBounds_toArray, List.set_cons_zero, List.set_cons_succ]
      refine wpAnyD_one (i := 5) (oi := ⟨some 59, Op.call { callee := Callee.value (Operand.func 16), args := #[Operand.tmp 54, Operand.tmp 58], argTypes := #[36, 36] }, 4, _, _, _⟩) rfl (by kernel_rfl) (by rfl) (fun K hK => ?_)
      go_simp
      go_at_call 16
      refine (same_any A1 A2 A6 A7 c1 c2 c6 c7 L L N N W3 (HLD.out.l.to hbz.out) (HLD.out.n.to hbz.out) HS6.out HS7.out).mono ?_
      rintro e W4 ⟨rfl, hb4⟩
      rw [show decide (L = L ∧ N = N) = true by simp]
      have hby := Lib.hid (hbz.out.trans (hb4.mono hbz.out.size))
      go_simp
      refine hK _ _ (fun h => absurd h (by decide)) ?_
      clear hK K
      try simp only [Act.put, List.setIfInBounds_toArray, List.set_cons_zero, List.set_cons_succ]
      refine wpAnyD_one (i := 6) (oi := ⟨some 60, Op.move (Operand.tmp 59), 4, _, _, _⟩) rfl (by kernel_rfl) (by rfl) (fun K hK => ?_)
      go_simp
      refine hK _ _ (fun h => absurd h (by decide)) ?_
      clear hK K
      try simp only [Act.put, List.setIfInBounds_toArray, List.set_cons_zero, List.set_cons_succ]
      refine wpAnyD_one (i := 7) (oi := ⟨some 61, Op.call { callee := Callee.value (Operand.func 13), args := #[], argTypes := #[] }, 4, _, _, _⟩) rfl (by kernel_rfl) (by rfl) (fun K hK => ?_)
      go_simp
      go_at_call 13
      refine (lives_any W4 (HK.out.to (HBo.out.trans (hby.out.mono HBo.out.size)))).mono ?_
      rintro e W5 ⟨rfl, hb5⟩
      have hbx := Lib.hid (hby.out.trans (hb5.mono hby.out.size))
      go_simp
      refine hK _ _ (fun h => absurd h (by decide)) ?_
      clear hK K
      try simp only [Act.put, List.setIfInBounds_toArray, List.set_cons_zero, List.set_cons_succ]
      refine wpAnyD_one (i := 8) (oi := ⟨some 62, Op.pick (Operand.tmp 60) (Operand.tmp 61) (Operand.const (Value.bool false)), 4, _, _, _⟩) rfl (by kernel_rfl) (by rfl) (fun K hK => ?_)
      go_simp
      refine hK _ _ (fun h => absurd h (by decide)) ?_
      clear hK K
      try simp only [Act.put, List.setIfInBounds_toArray, List.set_cons_zero, List.set_cons_succ]
      refine wpAnyD_one (i := 9) (oi := ⟨some 6, Op.assign (Operand.tmp 62), 4, _, _, _⟩) rfl (by kernel_rfl) (by rfl) (fun K hK => ?_)
      go_simp
      refine hK _ _ (fun h => absurd h (by decide)) ?_
      clear hK K
      try simp only [Act.put, List.setIfInBounds_toArray, List.set_cons_zero, List.set_cons_succ]
      refine wpAnyD_done (by kernel_rfl) ?_ _
      unfold Exit.then
      go_wp2_with fail
      go_ret
      exact ⟨rfl, HBo.out.trans (hbx.out.mono HBo.out.size)⟩
end Go.Proofs.YthcklfelofpffaaDoor
