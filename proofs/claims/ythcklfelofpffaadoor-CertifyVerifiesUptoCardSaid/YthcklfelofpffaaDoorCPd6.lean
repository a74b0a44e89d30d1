/- Same, Top, Proof, Check. No condition but sizes and what the table holds.
Sheets are certified: Add. No condition but sizes and what the table holds.
What the examples of the chapter need: sheets and ledgers in variables, two sheets certified, and what comes out of them. No condition but sizes and what the table holds.
The examples of the chapter: lives. No condition but what the table holds.
Numbers of a slice; Around; the sheet that a generator of sheets fills. No condition. -/
import Derived.Test.YthcklfelofpffaaDoorCPd5
import Derived.BigQuiet
namespace Go.Proofs.YthcklfelofpffaaDoor
open Go.RowKit
theorem list32 {α : Type} (l : List α) (h : l.length = 32) : ∃ x0 x1 x2 x3 x4 x5 x6 x7 x8 x9 x10 x11 x12 x13 x14 x15 x16 x17 x18 x19 x20 x21 x22 x23 x24 x25 x26 x27 x28 x29 x30 x31, l = [x0, x1, x2, x3, x4, x5, x6, x7, x8, x9, x10, x11, x12, x13, x14, x15, x16, x17, x18, x19, x20, x21, x22, x23, x24, x25, x26, x27, x28, x29, x30, x31] := by
  match l, h with
  | [x0, x1, x2, x3, x4, x5, x6, x7, x8, x9, x10, x11, x12, x13, x14, x15, x16, x17, x18, x19, x20, x21, x22, x23, x24, x25, x26, x27, x28, x29, x30, x31], _ => exact ⟨_, _, _, _, _, _, _, _, _, _, _, _, _, _, _, _, _, _, _, _, _, _, _, _, _, _, _, _, _, _, _, _, rfl⟩
/-- A head's cells. -/
def headL (n : Int) (r : List UInt8) : List Value := .int .i64 n :: r.map encB
def headV (n : Int) (r : List UInt8) : Value := .agg (headL n r).toArray
def zhead : List Value := .int .i64 0 :: zer32.map encB
theorem head_built (n : Int) (r : List UInt8) (h : r.length = 32) : Tryd.prog.built 40 [(0, .int .i64 n), (1, hashV r)] = some (headL n r).toArray := by
  obtain ⟨x0, x1, x2, x3, x4, x5, x6, x7, x8, x9, x10, x11, x12, x13, x14, x15, x16, x17, x18, x19, x20, x21, x22, x23, x24, x25, x26, x27, x28, x29, x30, x31, rfl⟩ := list32 r h
  kernel_rfl
theorem wp_built {P : Program} {o : Oper} {a : Act} {w : World} {K : Act → World → Prop} {Q : Exit → Act → World → Prop} (t : TypeId) (parts : List (Nat × Operand)) (ho : o.op = .build t parts.toArray) (l : List (Nat × Value)) (hl : parts.map (fun x => (x.1, a.eval x.2)) = l) (cs : Array Value) (hb : P.built t l = some cs)
    (h : K (a.put o.dst (.agg cs)) w) : o.wp P a w K Q := by
  have e : (parts.toArray.map fun (i, x) => (i, a.eval x)).toList = l := by rw [List.map_toArray]; exact hl
  refine wp_build t parts.toArray ho ?_ ?_
  · rw [e, hb]; rfl
  · rw [e, hb]; exact h
set_option maxRecDepth 100000 in
set_option maxHeartbeats 4000000 in
theorem same_any (A B C D : Option Addr) (ca cb cc cd : Nat) (L L2 : List H32) (N N2 : List ByteArray) (w : World) (hl : Sl w (fun b => b < w.heap.size) A ca L) (hn : Sl w (fun b => b < w.heap.size) B cb N)
    (hl2 : Sl w (fun b => b < w.heap.size) C cc L2) (hn2 : Sl w (fun b => b < w.heap.size) D cd N2) :
    Calls Tryd.prog 16 #[.agg #[.slice A L.length ca, .slice B N.length cb], .agg #[.slice C L2.length cc, .slice D N2.length cd]] w fun e w' => e = .returned (.bool (decide (L = L2 ∧ N = N2))) ∧ Below w.heap.size w w' := by
  have hba : Below w.heap.size w ((w.alloc (.cells #[.slice A L.length ca, .slice B N.length cb] 36)).alloc (.cells #[.slice C L2.length cc, .slice D N2.length cd] 36)) := ((Below.refl _ _).alloc (Nat.le_refl _) _).alloc (by simp) _
  have HX1 : Hid (ABox ((w.alloc (.cells #[.slice A L.length ca, .slice B N.length cb] 36)).alloc (.cells #[.slice C L2.length cc, .slice D N2.length cd] 36)) w.heap.size 36 [.slice A L.length ca, .slice B N.length cb]) := Lib.hid (by
    unfold ABox; rw [Below.heap_alloc _ _ _ (by simp)]; exact heap_alloc_new w _)
  have HX2 : Hid (ABox ((w.alloc (.cells #[.slice A L.length ca, .slice B N.length cb] 36)).alloc (.cells #[.slice C L2.length cc, .slice D N2.length cd] 36)) (w.heap.size + 1) 36 [.slice C L2.length cc, .slice D N2.length cd]) := Lib.hid (heap_at (by simp))
  have HB := Lib.hid hba
  have HSH := Lib.hid (same_hashes A C ca cc _ _ L L2 _ (hl.to hba) (hl2.to hba) rfl rfl)
  have HSS := Lib.hid (fun w' (h : Below _ _ w') => same_strings B D cb cd N N2 w' ((hn.to hba).to h) ((hn2.to hba).to h))
  clear hba hl hn hl2 hn2
  go_enter Tryd.func16, Tryd.ntmps16
  go_upto_region 1 with (fail)
  generalize ((w.alloc (.cells #[.slice A L.length ca, .slice B N.length cb] 36)).alloc (.cells #[.slice C L2.length cc, .slice D N2.length cd] 36)) = w1 at *
  have k0 := HX1.out.cell 0 rfl
  have k1 := HX2.out.cell 0 rfl
  by_cases h1 : L = L2
  · have HT : Hid (decide (L = L2) = true) := Lib.hid (decide_eq_true h1)
    have HT2 : Hid (decide (L = L2 ∧ N = N2) = decide (N = N2)) := Lib.hid (by simp [h1])
    have Hh1 := Lib.hid h1
    clear h1
    rw [HT.out] at HSH
    go_wp2_with fail
    refine HSH.out.mono ?_
    rintro e w2 ⟨rfl, hb2⟩
    have k2 := (HX1.out.to hb2).cell 1 rfl
    have k3 := (HX2.out.to hb2).cell 1 rfl
    have HB2 := Lib.hid hb2
    clear k0 k1 hb2
    go_wp2_with fail
    refine (HSS.out w2 HB2.out).mono ?_
    rintro e w3 ⟨rfl, hb3⟩
    go_wp2_with fail
    go_ret
    exact ⟨ret_bool HT2.out.symm, HB.out.trans ((HB2.out.trans (hb3.mono HB2.out.size)).mono HB.out.size)⟩
  · have HT : Hid (decide (L = L2) = false) := Lib.hid (decide_eq_false h1)
    have HT2 : Hid (decide (L = L2 ∧ N = N2) = false) := Lib.hid (by simp [h1])
    clear h1
    rw [HT.out] at HSH
    go_wp2_with fail
    refine HSH.out.mono ?_
    rintro e w2 ⟨rfl, hb2⟩
    go_wp2_with fail
    go_ret
    exact ⟨ret_bool HT2.out.symm, HB.out.trans (hb2.mono HB.out.size)⟩
/-- The head of a ledger. -/
theorem headL_one (n : Int) (r : List UInt8) : (headL n r).toArray.all (·.oneCell') = true := by
  unfold headL
  have h := hash_all r
  simp only [List.all_toArray, List.all_cons, Bool.and_eq_true] at h ⊢
  exact ⟨rfl, h⟩
set_option maxRecDepth 100000 in
set_option maxHeartbeats 4000000 in
theorem top_any (A B : Option Addr) (ca n : Nat) (L : List H32) (w : World) (cb nb : Nat) (hl : Sl w (fun b => b < w.heap.size) A ca L) (hn : L.length = n) (hs : n ≤ 1073741824) (hK : KLaid w) :
    Calls Tryd.prog 17 #[.agg #[.slice A n ca, .slice B nb cb]] w fun e w' => e = .returned (headV n (root L)) ∧ Below w.heap.size w w' := by
  have HRL : Hid ((root L).length = 32) := Lib.hid (root_length _ (h32_len hl))
  have hba : Below w.heap.size w ((w.alloc (.cells #[.slice A n ca, .slice B nb cb] 36)).alloc (.cells zhead.toArray 40)) := ((Below.refl _ _).alloc (Nat.le_refl _) _).alloc (by simp) _
  have HX1 : Hid (ABox ((w.alloc (.cells #[.slice A n ca, .slice B nb cb] 36)).alloc (.cells zhead.toArray 40)) w.heap.size 36 [.slice A n ca, .slice B nb cb]) := Lib.hid (by
    unfold ABox; rw [Below.heap_alloc _ _ _ (by simp)]; exact heap_alloc_new w _)
  have HR2 : Hid (ABox ((w.alloc (.cells #[.slice A n ca, .slice B nb cb] 36)).alloc (.cells zhead.toArray 40)) (w.heap.size + 1) 40 zhead) := Lib.hid (heap_at (by simp))
  have HB := Lib.hid hba
  have HRT := Lib.hid (fun W (h : Below _ _ W) => root_any L A n ca W ((hl.to hba).to h) hn hs ((hK.to hba).to h))
  clear hba hl hn hK
  have HBU := Lib.hid (head_built n (root L) HRL.out)
  have HSZ : Hid ((headL n (root L)).toArray.size = 33) := Lib.hid (by unfold headL; simp [HRL.out])
  have HONE := Lib.hid (headL_one n (root L))
  have HRE : Hid (headV n (root L) = .agg (headL n (root L)).toArray) := Lib.hid rfl
  generalize root L = r at *
  go_enter Tryd.func17, Tryd.ntmps17
  go_upto_region 1 with (fail)
  generalize hw1 : World.alloc (World.alloc w _) _ = w1
  have hw2 : ((w.alloc (.cells #[.slice A n ca, .slice B nb cb] 36)).alloc (.cells zhead.toArray 40)) = w1 := hw1
  rw [hw2] at HX1 HR2 HB HRT
  clear hw1 hw2
  refine wp_region_D (fun w' => w'.cell? ⟨w.heap.size, 0, none⟩ = some (.slice A n ca)) (fun i => decide (i < 6)) (by kernel_rfl) ?_
  have hb0 : Hid (Below w1.heap.size w1 w1.drew) := Lib.hid (Below.refl _ _).drew
  generalize w1.drew = W0 at *
  refine wpAnyE_take (i := 0) (oi := ⟨some 3, Op.fieldAddr 36 (Operand.tmp 1) 0, 0, _, _, _⟩) (v := ?_) rfl (by kernel_rfl) (by kernel_rfl) (by kernel_rfl) (by kernel_rfl) (by kernel_rfl) (fun _ _ _ h => h) (by rfl) ?hykr1_1 (((HX1.out.to hb0.out).cell 0 rfl)) ?hrkr1_1
  case hykr1_1 => (intro wS hSw; (try dsimp only at hSw); go_simp; (try with_reducible rfl))
  all_goals try simp only [Act.put, List.setIfInBounds_toArray, List.set_cons_zero, List.set_cons_succ]
  refine wpAnyE_take (i := 1) (oi := ⟨some 4, Op.load 34 (Operand.tmp 3), 34, _, _, _⟩) (v := ?_) rfl (by kernel_rfl) (by kernel_rfl) (by kernel_rfl) (by kernel_rfl) (by kernel_rfl) (fun _ _ _ h => h) (by rfl) ?hykr1_2 (((HX1.out.to hb0.out).cell 0 rfl)) ?hrkr1_2
  case hykr1_2 => (intro wS hSw; (try dsimp only at hSw); go_simp; (try with_reducible rfl))
  all_goals try simp only [Act.put, List.setIfInBounds_toArray, List.set_cons_zero, List.set_cons_succ]
  refine wpAnyE_take (i := 2) (oi := ⟨some 5, Op.call { callee := Callee.builtin Builtin.len, args := #[Operand.tmp 4], argTypes := #[34] }, 3, _, _, _⟩) (v := ?_) rfl (by kernel_rfl) (by kernel_rfl) (by kernel_rfl) (by kernel_rfl) (by kernel_rfl) (fun _ _ _ h => h) (by rfl) ?hykr1_3 (((HX1.out.to hb0.out).cell 0 rfl)) ?hrkr1_3
  case hykr1_3 => (intro wS hSw; (try dsimp only at hSw); go_simp; (try with_reducible rfl))
  all_goals try simp only [Act.put, List.setIfInBounds_toArray, List.set_cons_zero, List.set_cons_succ]
  refine wpAnyE_take (i := 3) (oi := ⟨some 6, Op.fieldAddr 36 (Operand.tmp 1) 0, 0, _, _, _⟩) (v := ?_) rfl (by kernel_rfl) (by kernel_rfl) (by kernel_rfl) (by kernel_rfl) (by kernel_rfl) (fun _ _ _ h => h) (by rfl) ?hykr1_4 (((HX1.out.to hb0.out).cell 0 rfl)) ?hrkr1_4
  case hykr1_4 => (intro wS hSw; (try dsimp only at hSw); go_simp; (try with_reducible rfl))
  all_goals try simp only [Act.put, List.setIfInBounds_toArray, List.set_cons_zero, List.set_cons_succ]
  refine wpAnyE_take (i := 4) (oi := ⟨some 7, Op.load 34 (Operand.tmp 6), 34, _, _, _⟩) (v := ?_) rfl (by kernel_rfl) (by kernel_rfl) (by kernel_rfl) (by kernel_rfl) (by kernel_rfl) (fun _ _ _ h => h) (by rfl) ?hykr1_5 (((HX1.out.to hb0.out).cell 0 rfl)) ?hrkr1_5
  case hykr1_5 => (intro wS hSw; (try dsimp only at hSw); go_simp; (try with_reducible rfl))
  all_goals try simp only [Act.put, List.setIfInBounds_toArray, List.set_cons_zero, List.set_cons_succ]
  refine wpAnyD_one (i := 5) (oi := ⟨some 8, Op.call { callee := Callee.value (Operand.func 31), args := #[Operand.tmp 7], argTypes := #[34] }, 29, _, _, _⟩) rfl (by kernel_rfl) (by rfl) (fun K hK => ?_)
  go_simp
  go_at_call 31
  refine (HRT.out W0 hb0.out).mono ?_
  rintro e W2 ⟨rfl, hb2⟩
  have hbb := Lib.hid (hb0.out.trans (hb2.mono hb0.out.size))
  go_simp
  refine hK _ _ (fun _ => ?_) ?_
  · exact ((HX1.out.to hbb.out).cell 0 rfl)
  clear hK K
  try simp only [Act.put, List.setIfInBounds_toArray, List.set_cons_zero, List.set_cons_succ]
  refine wpAnyD_one (i := 6) (oi := ⟨some 9, Op.build 40 #[(0, Operand.tmp 5), (1, Operand.tmp 8)], 40, _, _, _⟩) rfl (by kernel_rfl) (by rfl) (fun K hK => ?_)
  refine wp_built 40 [(0, .tmp 5), (1, .tmp 8)] rfl [(0, .int .i64 (n : Int)), (1, hashV r)] rfl _ HBU.out ?_
  refine hK _ _ (fun h => absurd h (by decide)) ?_
  clear hK K
  try simp only [Act.put, List.setIfInBounds_toArray, List.set_cons_zero, List.set_cons_succ]
  refine wpAnyD_one (i := 7) (oi := ⟨none, Op.store 40 (Operand.tmp 2) (Operand.tmp 9), 0, _, _, _⟩) rfl (by kernel_rfl) (by rfl) (fun K hK => ?_)
  have hq := (HR2.out.to hbb.out)
  unfold ABox at hq
  refine wp_store_row 40 (.tmp 2) (.tmp 9) rfl (w.heap.size + 1) (headL n r).toArray ?_ ?_ 40 zhead.toArray hq (by rw [HSZ.out]; kernel_rfl) (by rw [HSZ.out]; rfl) HONE.out ?_
  · rfl
  · rfl
  refine hK _ _ (fun h => absurd h (by decide)) ?_
  clear hK K
  try simp only [Act.put]
  refine wpAnyD_done (by kernel_rfl) ?_ _
  have HX := Lib.hid (setRow_heap _ (w.heap.size + 1) _ (headL n r).toArray _ _ hq)
  unfold Exit.then
  go_wp2_with fail
  exact bodyPost_ret (v := .agg (headL n r).toArray) (results_cell_row Tryd.results17 _ _ (w.heap.size + 1) _ _ (0, 0) _ rfl HX.out Tryd.underlying40 rfl (by rw [HSZ.out]; kernel_rfl)) rfl ⟨by rw [HRE.out], below_setRow (HB.out.trans (hbb.out.mono HB.out.size)) (by omega) _⟩
/-- The proof for a label. -/
def proofI (N : List ByteArray) (x : ByteArray) : Int := if lastIx N x < 0 then 0 else lastIx N x
def proofP (L : List H32) (N : List ByteArray) (x : ByteArray) : List H32 := if lastIx N x < 0 then [] else pathH L (lastIx N x).toNat
def proofB (N : List ByteArray) (x : ByteArray) : Bool := !decide (lastIx N x < 0)
set_option maxRecDepth 100000 in
set_option maxHeartbeats 4000000 in
theorem proof_any (A B : Option Addr) (ca cb : Nat) (L : List H32) (N : List ByteArray) (x : ByteArray) (w : World) (hl : Sl w (fun b => b < w.heap.size) A ca L) (hn : Sl w (fun b => b < w.heap.size) B cb N) (hln : L.length = N.length) (hs : L.length ≤ 1048576) (hK : KLaid w) :
    Calls Tryd.prog 21 #[.agg #[.slice A L.length ca, .slice B N.length cb], .string x] w fun e w' => ∃ A' c', e = .returned (.tuple #[.int .i64 (proofI N x), .slice A' (proofP L N x).length c', .bool (proofB N x)]) ∧ Sl w' (fun b => b < w'.heap.size) A' c' (proofP L N x) ∧ Below w.heap.size w w' := by
  have hba : Below w.heap.size w (w.alloc (.cells #[.slice A L.length ca, .slice B N.length cb] 36)) := (Below.refl _ _).alloc (Nat.le_refl _) _
  have HX1 : Hid (ABox (w.alloc (.cells #[.slice A L.length ca, .slice B N.length cb] 36)) w.heap.size 36 [.slice A L.length ca, .slice B N.length cb]) := Lib.hid (heap_alloc_new w _)
  have HB := Lib.hid hba
  have HLA := Lib.hid (last_any A B L.length ca cb _ N x _ (hn.to hba) rfl (by omega))
  have HPA := Lib.hid (fun k (hk : k < L.length) W (h : Below _ _ W) => path_any L A _ ca k W ((hl.to hba).to h) rfl hs hk ((hK.to hba).to h))
  have HLN := Lib.hid hln
  clear hba hl hn hK hln
  go_enter Tryd.func21, Tryd.ntmps21
  go_upto_region 1 with (fail)
  generalize (w.alloc (.cells #[.slice A L.length ca, .slice B N.length cb] 36)) = w1 at *
  have k0 := HX1.out.cell 0 rfl
  have k1 := HX1.out.cell 1 rfl
  go_wp2_with fail
  refine HLA.out.mono ?_
  rintro e w2 ⟨rfl, hb2⟩
  have HB2 := Lib.hid hb2
  clear k0 k1 hb2 HLA
  rcases lastIx_cases N x with hc | ⟨j, hj, hc⟩
  · have HE : Hid (proofI N x = 0 ∧ proofP L N x = [] ∧ proofB N x = false) := Lib.hid (by unfold proofI proofP proofB; rw [hc]; exact ⟨rfl, rfl, rfl⟩)
    rw [hc]
    clear hc
    go_wp2_with fail
    go_ret3
    exact ⟨none, 0, by rw [HE.out.1, HE.out.2.1, HE.out.2.2]; rfl, by rw [HE.out.2.1]; exact Sl.nil _ _ _ _ (by decide), HB.out.trans (HB2.out.mono HB.out.size)⟩
  · have HE : Hid (proofI N x = (j : Int) ∧ proofP L N x = pathH L j ∧ proofB N x = true) := Lib.hid (by
      have hq : ¬ (j : Int) < 0 := by omega
      unfold proofI proofP proofB; rw [hc, if_neg hq, if_neg hq, Int.toNat_natCast]; exact ⟨rfl, rfl, by simp [hq]⟩)
    rw [hc]
    clear hc
    have k2 := (HX1.out.to HB2.out).cell 0 rfl
    have HP := Lib.hid (HPA.out j (by have := HLN.out; omega) w2 HB2.out)
    have hj0 : ¬ (j : Int) < 0 := by omega
    clear HPA HX1
    go_wp2_with fail
    refine HP.out.mono ?_
    rintro e w3 ⟨A', c', rfl, hs3, hb3⟩
    have HS3 := Lib.hid hs3
    have HB3 := Lib.hid hb3
    clear hs3 hb3 k2
    go_wp2_with fail
    go_ret3
    exact ⟨A', c', by rw [HE.out.1, HE.out.2.1, HE.out.2.2]; rfl, by rw [HE.out.2.1]; exact HS3.out, HB.out.trans ((HB2.out.trans (HB3.out.mono HB2.out.size)).mono HB.out.size)⟩
/-- A proof is verified. -/
def checkP (n : Int) (r : List UInt8) (branch : Int) (s : Sheet) (i : Int) (p : List H32) : Bool := includesP r n i (leafOf branch s) p
set_option maxRecDepth 100000 in
set_option maxHeartbeats 4000000 in
theorem check_any (n branch i : Int) (r : List UInt8) (s : Sheet) (A B C : Option Addr) (c d cp N : Nat) (p : List H32) (w : World) (hr : r.length = 32) (hbr : I64 branch) (ha : Sl w (fun b => b < w.heap.size) A c s.body) (hb : Sl w (fun b => b < w.heap.size) B d s.notes) (hsz : (sheetB branch s).length ≤ 1073740000)
    (hp : Sl w (fun b => b < w.heap.size) C cp p) (hN : p.length = N) (hK : KLaid w) :
    Calls Tryd.prog 22 #[headV n r, .int .i64 branch, .agg #[.string s.label, .slice A s.body.length c, .slice B s.notes.length d], .int .i64 i, .slice C N cp] w fun e w' => e = .returned (.bool (checkP n r branch s i p)) ∧ Below w.heap.size w w' := by
  have hN2 : N ≤ 9223372036854775807 := by have h1 := hp.1; have h2 := hp.2.1; unfold maxLen at h2; omega
  have hba : Below w.heap.size w ((w.alloc (.cells (headL n r).toArray 40)).alloc (.cells #[.string s.label, .slice A s.body.length c, .slice B s.notes.length d] 24)) := ((Below.refl _ _).alloc (Nat.le_refl _) _).alloc (by simp) _
  have HX1 : Hid (ABox ((w.alloc (.cells (headL n r).toArray 40)).alloc (.cells #[.string s.label, .slice A s.body.length c, .slice B s.notes.length d] 24)) w.heap.size 40 (headL n r)) := Lib.hid (by
    unfold ABox; rw [Below.heap_alloc _ _ _ (by simp)]; exact heap_alloc_new w _)
  have HX2 : Hid (ABox ((w.alloc (.cells (headL n r).toArray 40)).alloc (.cells #[.string s.label, .slice A s.body.length c, .slice B s.notes.length d] 24)) (w.heap.size + 1) 24 [.string s.label, .slice A s.body.length c, .slice B s.notes.length d]) := Lib.hid (heap_at (by simp))
  have HB := Lib.hid hba
  have HLF := Lib.hid (fun W (h : Below _ _ W) => leafS_any branch s A B c d W hbr ((ha.to hba).to h) ((hb.to hba).to h) hsz ((hK.to hba).to h))
  have HIN := Lib.hid (fun W (h : Below _ _ W) => includes_any r (leafOf branch s) hr (sha_length _) n i C cp N p W ((hp.to hba).to h) hN hN2 ((hK.to hba).to h))
  have HRM : Hid ((r.map encB).length = 32) := Lib.hid (by rw [List.length_map, hr])
  have HCE : Hid (checkP n r branch s i p = includesP r n i (leafOf branch s) p) := Lib.hid rfl
  clear hba ha hb hp hN hK hsz hbr hr
  unfold headV
  rw [HCE.out]
  generalize leafOf branch s = lf at *
  clear HCE
  have SP : ∀ W, Below ((w.alloc (.cells (headL n r).toArray 40)).alloc (.cells #[.string s.label, .slice A s.body.length c, .slice B s.notes.length d] 24)).heap.size ((w.alloc (.cells (headL n r).toArray 40)).alloc (.cells #[.string s.label, .slice A s.body.length c, .slice B s.notes.length d] 24)) W →
      W.cell? ⟨w.heap.size, 0, none⟩ = some (.int .i64 n) ∧ W.rangeAt w.heap.size 1 (r.map encB) ∧ W.heap[w.heap.size + 1]? = some (.cells #[.string s.label, .slice A s.body.length c, .slice B s.notes.length d] 24 (0, 0)) := fun W h => by
    refine ⟨(HX1.out.to h).cell 0 rfl, fun j v hv => ?_, HX2.out.to h⟩
    rw [Nat.add_comm]
    exact (HX1.out.to h).cell (j + 1) (by unfold headL; rw [List.getElem?_cons_succ]; exact hv)
  go_enter Tryd.func22, Tryd.ntmps22
  go_upto_region 1 with (fail)
  generalize hw1 : World.alloc (World.alloc w _) _ = w1
  have hw2 : ((w.alloc (.cells (headL n r).toArray 40)).alloc (.cells #[.string s.label, .slice A s.body.length c, .slice B s.notes.length d] 24)) = w1 := hw1
  rw [hw2] at HX1 HX2 HB HLF HIN SP
  clear hw1 hw2
  refine wp_region_D (fun w' => w'.cell? ⟨w.heap.size, 0, none⟩ = some (.int .i64 n) ∧ w'.rangeAt w.heap.size 1 (r.map encB) ∧ w'.heap[w.heap.size + 1]? = some (.cells #[.string s.label, .slice A s.body.length c, .slice B s.notes.length d] 24 (0, 0))) (fun i => decide (i < 9)) (by kernel_rfl) ?_
  have hb0 : Hid (Below w1.heap.size w1 w1.drew) := Lib.hid (Below.refl _ _).drew
  generalize w1.drew = W0 at *
  refine wpAnyE_take (i := 0) (oi := ⟨some 11, Op.fieldAddr 40 (Operand.tmp 5) 1, 0, _, _, _⟩) (v := ?_) rfl (by kernel_rfl) (by kernel_rfl) (by kernel_rfl) (by kernel_rfl) (by kernel_rfl) (fun _ _ _ h => h) (by rfl) ?hykr1_1 (SP _ hb0.out) ?hrkr1_1
  case hykr1_1 => (intro wS hSw; clear hSw; go_simp; (try with_reducible rfl))
  all_goals try simp only [Act.put, List.setIfInBounds_toArray, List.set_cons_zero, List.set_cons_succ]
  refine wpAnyE_take (i := 1) (oi := ⟨some 12, Op.load 29 (Operand.tmp 11), 29, _, _, _⟩) (v := ?_) rfl (by kernel_rfl) (by kernel_rfl) (by kernel_rfl) (by kernel_rfl) (by kernel_rfl) (fun _ _ _ h => h) (by rfl) ?hykr1_2 (SP _ hb0.out) ?hrkr1_2
  case hykr1_2 => (intro wS hSw; refine exec_load_mid 29 (.tmp 11) ?_ w.heap.size 1 ?_ (r.map encB) _ hSw.2.1 Tryd.underlying29 ?_ ?_; rfl; rfl; rfl; (rw [HRM.out]; kernel_rfl))
  all_goals try simp only [Act.put, List.setIfInBounds_toArray, List.set_cons_zero, List.set_cons_succ]
  refine wpAnyE_take (i := 2) (oi := ⟨some 13, Op.fieldAddr 40 (Operand.tmp 5) 0, 0, _, _, _⟩) (v := ?_) rfl (by kernel_rfl) (by kernel_rfl) (by kernel_rfl) (by kernel_rfl) (by kernel_rfl) (fun _ _ _ h => h) (by rfl) ?hykr1_3 (SP _ hb0.out) ?hrkr1_3
  case hykr1_3 => (intro wS hSw; clear hSw; go_simp; (try with_reducible rfl))
  all_goals try simp only [Act.put, List.setIfInBounds_toArray, List.set_cons_zero, List.set_cons_succ]
  refine wpAnyE_take (i := 3) (oi := ⟨some 14, Op.load 3 (Operand.tmp 13), 3, _, _, _⟩) (v := ?_) rfl (by kernel_rfl) (by kernel_rfl) (by kernel_rfl) (by kernel_rfl) (by kernel_rfl) (fun _ _ _ h => h) (by rfl) ?hykr1_4 (SP _ hb0.out) ?hrkr1_4
  case hykr1_4 => (intro wS hSw; (have hq := hSw.1); clear hSw; go_simp; (try with_reducible rfl))
  all_goals try simp only [Act.put, List.setIfInBounds_toArray, List.set_cons_zero, List.set_cons_succ]
  refine wpAnyE_take (i := 4) (oi := ⟨some 15, Op.move (Operand.tmp 3), 3, _, _, _⟩) (v := ?_) rfl (by kernel_rfl) (by kernel_rfl) (by kernel_rfl) (by kernel_rfl) (by kernel_rfl) (fun _ _ _ h => h) (by rfl) ?hykr1_5 (SP _ hb0.out) ?hrkr1_5
  case hykr1_5 => (intro wS hSw; clear hSw; go_simp; (try with_reducible rfl))
  all_goals try simp only [Act.put, List.setIfInBounds_toArray, List.set_cons_zero, List.set_cons_succ]
  refine wpAnyE_take (i := 5) (oi := ⟨some 16, Op.move (Operand.tmp 1), 3, _, _, _⟩) (v := ?_) rfl (by kernel_rfl) (by kernel_rfl) (by kernel_rfl) (by kernel_rfl) (by kernel_rfl) (fun _ _ _ h => h) (by rfl) ?hykr1_6 (SP _ hb0.out) ?hrkr1_6
  case hykr1_6 => (intro wS hSw; clear hSw; go_simp; (try with_reducible rfl))
  all_goals try simp only [Act.put, List.setIfInBounds_toArray, List.set_cons_zero, List.set_cons_succ]
  refine wpAnyE_take (i := 6) (oi := ⟨some 17, Op.load 24 (Operand.tmp 7), 24, _, _, _⟩) (v := ?_) rfl (by kernel_rfl) (by kernel_rfl) (by kernel_rfl) (by kernel_rfl) (by kernel_rfl) (fun _ _ _ h => h) (by rfl) ?hykr1_7 (SP _ hb0.out) ?hrkr1_7
  case hykr1_7 => (intro wS hSw; refine exec_load_row 24 (.tmp 7) ?_ (w.heap.size + 1) ?_ 24 #[.string s.label, .slice A s.body.length c, .slice B s.notes.length d] (0, 0) _ hSw.2.2 Tryd.underlying24 ?_ ?_; rfl; rfl; rfl; kernel_rfl)
  all_goals try simp only [Act.put, List.setIfInBounds_toArray, List.set_cons_zero, List.set_cons_succ]
  refine wpAnyE_take (i := 8) (oi := ⟨some 19, Op.move (Operand.tmp 4), 34, _, _, _⟩) (v := ?_) rfl (by kernel_rfl) (by kernel_rfl) (by kernel_rfl) (by kernel_rfl) (by kernel_rfl) (fun _ _ _ h => h) (by rfl) ?hykr1_8 (SP _ hb0.out) ?hrkr1_8
  case hykr1_8 => (intro wS hSw; clear hSw; go_simp; (try with_reducible rfl))
  all_goals try simp only [Act.put, List.setIfInBounds_toArray, List.set_cons_zero, List.set_cons_succ]
  refine wpAnyD_one (i := 7) (oi := ⟨some 18, Op.call { callee := Callee.value (Operand.func 11), args := #[Operand.tmp 16, Operand.tmp 17], argTypes := #[3, 24] }, 29, _, _, _⟩) rfl (by kernel_rfl) (by rfl) (fun K hK => ?_)
  go_simp
  go_at_call 11
  refine (HLF.out W0 hb0.out).mono ?_
  rintro e W2 ⟨rfl, hb2⟩
  have hbb := Lib.hid (hb0.out.trans (hb2.mono hb0.out.size))
  go_simp
  refine hK _ _ (fun _ => ?_) ?_
  · exact SP _ hbb.out
  clear hK K
  try simp only [Act.put, List.setIfInBounds_toArray, List.set_cons_zero, List.set_cons_succ]
  refine wpAnyD_one (i := 9) (oi := ⟨some 20, Op.call { callee := Callee.value (Operand.func 54), args := #[Operand.tmp 12, Operand.tmp 14, Operand.tmp 15, Operand.tmp 18, Operand.tmp 19], argTypes := #[29, 3, 3, 29, 34] }, 4, _, _, _⟩) rfl (by kernel_rfl) (by rfl) (fun K hK => ?_)
  go_simp
  go_at_call 54
  refine (HIN.out W2 hbb.out).mono ?_
  rintro e W3 ⟨rfl, hb3⟩
  have hbz := Lib.hid (hbb.out.trans (hb3.mono hbb.out.size))
  go_simp
  refine hK _ _ (fun h => absurd h (by decide)) ?_
  clear hK K
  try simp only [Act.put, List.setIfInBounds_toArray, List.set_cons_zero, List.set_cons_succ]
  refine wpAnyD_one (i := 10) (oi := ⟨some 10, Op.assign (Operand.tmp 20), 4, _, _, _⟩) rfl (by kernel_rfl) (by rfl) (fun K hK => ?_)
  go_simp
  refine hK _ _ (fun h => absurd h (by decide)) ?_
  clear hK K
  try simp only [Act.put, List.setIfInBounds_toArray, List.set_cons_zero, List.set_cons_succ]
  refine wpAnyD_done (by kernel_rfl) ?_ _
  unfold Exit.then
  go_wp2_with fail
  go_ret
  exact ⟨rfl, HB.out.trans (hbz.out.mono HB.out.size)⟩
end Go.Proofs.YthcklfelofpffaaDoor
namespace Go.Proofs.YthcklfelofpffaaDoor
open Go.RowKit
instance : Rep Sheet where
  size := 3
  R w S cs s := ∃ va vb, cs = [.string s.label, va, vb] ∧ Rep.R w S [va] s.body ∧ Rep.R w S [vb] s.notes
  len := by rintro w S cs s ⟨va, vb, rfl, _⟩; rfl
  one := by
    rintro w S cs s ⟨va, vb, rfl, ha, hb⟩ u hu
    have h1 := Rep.one ha va (by simp)
    have h2 := Rep.one hb vb (by simp)
    simp at hu
    rcases hu with rfl | rfl | rfl
    · rfl
    · exact h1
    · exact h2
  keep := by rintro w w' S cs s ⟨va, vb, rfl, ha, hb⟩ hk; exact ⟨va, vb, rfl, Rep.keep ha hk, Rep.keep hb hk⟩
  mono := by rintro w S S' cs s ⟨va, vb, rfl, ha, hb⟩ hk; exact ⟨va, vb, rfl, Rep.mono ha hk, Rep.mono hb hk⟩
theorem sheet_at {w : World} {S : Nat → Prop} {A : Option Addr} {c : Nat} {l : List Sheet} (h : Sl w S A c l) {k : Nat} (hk : k < l.length) :
    ∃ b o A1 c1 A2 c2, A = some ⟨b, o, none⟩ ∧ S b ∧ b < w.heap.size ∧ w.cell? ⟨b, o + k * 3, none⟩ = some (.string l[k].label) ∧ w.cell? ⟨b, o + k * 3 + 1, none⟩ = some (.slice A1 l[k].body.length c1) ∧ w.cell? ⟨b, o + k * 3 + 2, none⟩ = some (.slice A2 l[k].notes.length c2) ∧
      Sl w S A1 c1 l[k].body ∧ Sl w S A2 c2 l[k].notes := by
  obtain ⟨b, o, es, rfl, hb, hlt, ⟨va, vb, rfl, ⟨A1, c1, e1, h1, _⟩, ⟨A2, c2, e2, h2, _⟩⟩, hc⟩ := h.at_ hk
  obtain rfl : va = .slice A1 l[k].body.length c1 := by simpa using e1
  obtain rfl : vb = .slice A2 l[k].notes.length c2 := by simpa using e2
  exact ⟨b, o, A1, c1, A2, c2, rfl, hb, hlt, hc 0 _ rfl, hc 1 _ rfl, hc 2 _ rfl, h1, h2⟩
/-- What sheets make of a ledger. -/
def addAll (branch : Int) (p : List H32 × List ByteArray) (l : List Sheet) : List H32 × List ByteArray := l.foldl (addOne branch) p
theorem addOne_len (branch : Int) (p : List H32 × List ByteArray) (s : Sheet) (h : p.1.length = p.2.length) : (addOne branch p s).1.length = (addOne branch p s).2.length ∧ (addOne branch p s).1.length ≤ p.1.length + 1 := by
  unfold addOne; split <;> simp [h]
theorem addAll_len (branch : Int) : ∀ (l : List Sheet) (p : List H32 × List ByteArray), p.1.length = p.2.length → (addAll branch p l).1.length = (addAll branch p l).2.length ∧ (addAll branch p l).1.length ≤ p.1.length + l.length
  | [], p, h => ⟨h, by simp [addAll]⟩
  | s :: l, p, h => by
    obtain ⟨h1, h2⟩ := addOne_len branch p s h
    obtain ⟨h3, h4⟩ := addAll_len branch l _ h1
    exact ⟨h3, by rw [List.length_cons]; exact Nat.le_trans h4 (by omega)⟩
theorem addAll_take (branch : Int) (p : List H32 × List ByteArray) (l : List Sheet) (k : Nat) (h : k < l.length) : addAll branch p (l.take (k + 1)) = addOne branch (addAll branch p (l.take k)) l[k] := by
  unfold addAll; rw [List.take_succ_eq_append_getElem h, List.foldl_append]; rfl
theorem LG.born {W : World} {O base : Nat} {v1 v2 : Value} {L : List H32} {N : List ByteArray} (hO : ABox W O 36 [.slice none 0 0, .slice none 0 0]) (hOb : base ≤ O) (h1 : Own W base 29 v1 L) (h2 : Own W base 9 v2 N)
    (n1 : some O ≠ v1.ownBlock) (n2 : some O ≠ v2.ownBlock) (dj : ∀ g, v1.ownBlock = some g → v2.ownBlock ≠ some g) (hbs : base ≤ W.heap.size) : LG ((W.setCell ⟨O, 0, none⟩ v1).setCell ⟨O, 1, none⟩ v2) O base v1 v2 L N := by
  have hk : ∀ g, g ≠ O → ((W.setCell ⟨O, 0, none⟩ v1).setCell ⟨O, 1, none⟩ v2).heap[g]? = W.heap[g]? := fun g hne => (heap_set _ _ _ _ hne).trans (heap_set _ _ _ _ hne)
  exact ⟨(hO.set 0 v1).set 1 v2, own_keepH h1 (fun g e => hk g (fun e2 => n1 (by rw [e, e2]))), own_keepS h2 (fun g e => hk g (fun e2 => n2 (by rw [e, e2]))), hOb, n1, n2, dj, by simp; omega⟩
set_option maxRecDepth 100000 in
set_option maxHeartbeats 4000000 in
theorem add_any (branch : Int) (A B C : Option Addr) (ca cb cc : Nat) (L : List H32) (N : List ByteArray) (l : List Sheet) (w : World) (hbr : I64 branch)
    (hl : Sl w (fun b => b < w.heap.size) A ca L) (hn : Sl w (fun b => b < w.heap.size) B cb N) (hs : Sl w (fun b => b < w.heap.size) C cc l) (hln : L.length = N.length) (hlm : L.length + l.length ≤ 1048576)
    (hsz : ∀ s ∈ l, (sheetB branch s).length ≤ 1073740000) (hK : KLaid w) :
    Calls Tryd.prog 15 #[.agg #[.slice A L.length ca, .slice B N.length cb], .int .i64 branch, .slice C l.length cc] w fun e w' => ∃ v1 v2, e = .returned (.agg #[v1, v2]) ∧
      Own w' w.heap.size 29 v1 (addAll branch (L, N) l).1 ∧ Own w' w.heap.size 9 v2 (addAll branch (L, N) l).2 ∧ Below w.heap.size w w' := by
  have HL := Lib.hid hl
  have HN := Lib.hid hn
  have HS := Lib.hid hs
  have HK := Lib.hid hK
  have HBR := Lib.hid hbr
  have HSZ := Lib.hid hsz
  have HLN := Lib.hid hln
  have HLM := Lib.hid hlm
  clear hl hn hs hK hbr hsz hln hlm
  go_enter Tryd.func15, Tryd.ntmps15
  go_upto_region 1 with (fail)
  have hb0 : Below w.heap.size w (((w.alloc (.cells #[.slice A L.length ca, .slice B N.length cb] 36)).alloc (.cells #[.int .i64 branch] 3)).alloc (.cells #[.slice none 0 0, .slice none 0 0] 36)) := (((Below.refl _ _).alloc (Nat.le_refl _) _).alloc (by simp) _).alloc (by simp; omega) _
  have HB0 := Lib.hid hb0
  have HZ0 : Hid ((((w.alloc (.cells #[.slice A L.length ca, .slice B N.length cb] 36)).alloc (.cells #[.int .i64 branch] 3)).alloc (.cells #[.slice none 0 0, .slice none 0 0] 36)).heap.size = w.heap.size + 3) := Lib.hid (by simp)
  have HX0 : Hid (ABox (((w.alloc (.cells #[.slice A L.length ca, .slice B N.length cb] 36)).alloc (.cells #[.int .i64 branch] 3)).alloc (.cells #[.slice none 0 0, .slice none 0 0] 36)) w.heap.size 36 [.slice A L.length ca, .slice B N.length cb]) := Lib.hid (by
    unfold ABox; rw [Below.heap_alloc _ _ _ (by simp; omega), Below.heap_alloc _ _ _ (by simp)]; exact heap_alloc_new w _)
  have HX1 : Hid (ABox (((w.alloc (.cells #[.slice A L.length ca, .slice B N.length cb] 36)).alloc (.cells #[.int .i64 branch] 3)).alloc (.cells #[.slice none 0 0, .slice none 0 0] 36)) (w.heap.size + 1) 3 [.int .i64 branch]) := Lib.hid (by
    unfold ABox; rw [Below.heap_alloc _ _ _ (by simp)]; exact heap_at (by simp))
  have HX2 : Hid (ABox (((w.alloc (.cells #[.slice A L.length ca, .slice B N.length cb] 36)).alloc (.cells #[.int .i64 branch] 3)).alloc (.cells #[.slice none 0 0, .slice none 0 0] 36)) (w.heap.size + 1 + 1) 36 [.slice none 0 0, .slice none 0 0]) := Lib.hid (heap_at (by simp))
  have HL0 := Lib.hid (HL.out.to hb0)
  have HN0 := Lib.hid (HN.out.to hb0)
  have HK0 := Lib.hid (HK.out.to hb0)
  clear hb0 HL HN HK
  generalize (((w.alloc (.cells #[.slice A L.length ca, .slice B N.length cb] 36)).alloc (.cells #[.int .i64 branch] 3)).alloc (.cells #[.slice none 0 0, .slice none 0 0] 36)) = w0 at *
  have SP : ∀ w', Below w0.heap.size w0 w' → w'.cell? ⟨w.heap.size, 0, none⟩ = some (.slice A L.length ca) ∧ w'.cell? ⟨w.heap.size, 1, none⟩ = some (.slice B N.length cb) := fun w' h => by
    have hx : ABox w' w.heap.size 36 [.slice A L.length ca, .slice B N.length cb] := (h.block _ (by have := HZ0.out; omega)).trans HX0.out
    exact ⟨hx.cell 0 rfl, hx.cell 1 rfl⟩
  go_cut [7] from 11 to 18 (fun p wx => ∃ O A1 c1 A2 c2, p = .pointer (some ⟨O, 0, none⟩) ∧ Hid (LG wx O w0.heap.size (.slice A1 L.length c1) (.slice A2 N.length c2) L N) ∧ Hid (Below w0.heap.size w0 wx))
  case first =>
    refine wp_region_D (fun w' => w'.cell? ⟨w.heap.size, 0, none⟩ = some (.slice A L.length ca) ∧ w'.cell? ⟨w.heap.size, 1, none⟩ = some (.slice B N.length cb)) (fun i => decide (i < 8)) (by kernel_rfl) ?_
    have hbs : Hid (Below w0.heap.size w0 w0.drew) := Lib.hid (Below.refl _ _).drew
    have hHeld := SP _ hbs.out
    generalize w0.drew = W0 at *
    refine wpAnyE_take (i := 0) (oi := ⟨some 11, Op.fieldAddr 36 (Operand.tmp 3) 0, 0, _, _, _⟩) (v := ?_) rfl (by kernel_rfl) (by kernel_rfl) (by kernel_rfl) (by kernel_rfl) (by kernel_rfl) (fun _ _ _ h => h) (by rfl) ?hyk1 hHeld ?hrk1
    case hyk1 => (intro wS hSw; (try dsimp only at hSw); go_simp; (try with_reducible rfl))
    all_goals try simp only [Act.put, List.setIfInBounds_toArray, List.set_cons_zero, List.set_cons_succ]
    refine wpAnyE_take (i := 1) (oi := ⟨some 12, Op.load 34 (Operand.tmp 11), 34, _, _, _⟩) (v := ?_) rfl (by kernel_rfl) (by kernel_rfl) (by kernel_rfl) (by kernel_rfl) (by kernel_rfl) (fun _ _ _ h => h) (by rfl) ?hyk2 hHeld ?hrk2
    case hyk2 => (intro wS hSw; (try dsimp only at hSw); go_simp; (try with_reducible rfl))
    all_goals try simp only [Act.put, List.setIfInBounds_toArray, List.set_cons_zero, List.set_cons_succ]
    refine wpAnyE_take (i := 3) (oi := ⟨some 14, Op.fieldAddr 36 (Operand.tmp 3) 1, 0, _, _, _⟩) (v := ?_) rfl (by kernel_rfl) (by kernel_rfl) (by kernel_rfl) (by kernel_rfl) (by kernel_rfl) (fun _ _ _ h => h) (by rfl) ?hyk3 hHeld ?hrk3
    case hyk3 => (intro wS hSw; (try dsimp only at hSw); go_simp; (try with_reducible rfl))
    all_goals try simp only [Act.put, List.setIfInBounds_toArray, List.set_cons_zero, List.set_cons_succ]
    refine wpAnyE_take (i := 4) (oi := ⟨some 15, Op.load 22 (Operand.tmp 14), 22, _, _, _⟩) (v := ?_) rfl (by kernel_rfl) (by kernel_rfl) (by kernel_rfl) (by kernel_rfl) (by kernel_rfl) (fun _ _ _ h => h) (by rfl) ?hyk4 hHeld ?hrk4
    case hyk4 => (intro wS hSw; (try dsimp only at hSw); go_simp; (try with_reducible rfl))
    all_goals try simp only [Act.put, List.setIfInBounds_toArray, List.set_cons_zero, List.set_cons_succ]
    refine wpAnyD_two (i := 2) (j := 7) (oi := ⟨some 13, Op.call { callee := Callee.value (Operand.func 47), args := #[Operand.tmp 12], argTypes := #[34] }, 34, _, _, _⟩) (oj := ⟨some 7, Op.alloc 36, 0, _, _, _⟩) (by kernel_rfl) rfl rfl (by rfl) (by rfl) (fun K hK => ?_) (fun K hK => ?_)
    · go_simp
      go_at_call 47
      refine (hclone_any A ca _ L W0 (HL0.out.to hbs.out) rfl (by have := HLM.out; omega)).mono ?_
      rintro e W1 ⟨v1, rfl, hown1, hbc1⟩
      obtain ⟨A1, c1, rfl, -⟩ := hown1.form
      have hb1 := Lib.hid (hbs.out.trans (hbc1.mono hbs.out.size))
      have ho11 := Lib.hid (hown1.re hbs.out.size)
      have hl11 : Hid (∀ g, (Value.slice A1 L.length c1).ownBlock = some g → W0.heap.size ≤ g) := Lib.hid (fun g hg => (hown1.lt g hg).1)
      go_simp
      refine hK _ _ (fun _ => ?_) ?_
      · exact SP _ hb1.out
      clear hK K hHeld
      have hHeld := SP _ hb1.out
      try simp only [Act.put, List.setIfInBounds_toArray, List.set_cons_zero, List.set_cons_succ]
      clear hown1 hbc1
      refine wpAnyD_two (i := 5) (j := 7) (oi := ⟨some 16, Op.call { callee := Callee.value (Operand.func 48), args := #[Operand.tmp 15], argTypes := #[22] }, 22, _, _, _⟩) (oj := ⟨some 7, Op.alloc 36, 0, _, _, _⟩) (by kernel_rfl) rfl rfl (by rfl) (by rfl) (fun K hK => ?_) (fun K hK => ?_)
      · go_simp
        go_at_call 48
        refine (sclone_any B cb _ N W1 (HN0.out.to hb1.out) rfl (by have := HLM.out; have := HLN.out; omega)).mono ?_
        rintro e W2 ⟨v2, rfl, hown2, hbc2⟩
        obtain ⟨A2, c2, rfl, -⟩ := hown2.form
        have hb2 := Lib.hid (hb1.out.trans (hbc2.mono hb1.out.size))
        have ho22 := Lib.hid (hown2.re hb1.out.size)
        have ho12 := Lib.hid (ho11.out.below hbc2)
        have hdj : Hid (∀ g, (Value.slice A1 L.length c1).ownBlock = some g → (Value.slice A2 N.length c2).ownBlock ≠ some g) := Lib.hid (fun g h1 h2 => by have := (ho11.out.lt g h1).2; have := (hown2.lt g h2).1; omega)
        go_simp
        refine hK _ _ (fun _ => ?_) ?_
        · exact SP _ hb2.out
        clear hK K hHeld
        have hHeld := SP _ hb2.out
        try simp only [Act.put, List.setIfInBounds_toArray, List.set_cons_zero, List.set_cons_succ]
        clear hown2 hbc2
        refine wpAnyE_take (i := 6) (oi := ⟨some 17, Op.build 36 #[(0, Operand.tmp 13), (1, Operand.tmp 16)], 36, _, _, _⟩) (v := ?_) rfl (by kernel_rfl) (by kernel_rfl) (by kernel_rfl) (by kernel_rfl) (by kernel_rfl) (fun _ _ _ h => h) (by rfl) ?hyk5 hHeld ?hrk5
        case hyk5 => (intro wS hSw; (try dsimp only at hSw); go_simp; (try with_reducible rfl))
        all_goals try simp only [Act.put, List.setIfInBounds_toArray, List.set_cons_zero, List.set_cons_succ]
        refine wpAnyD_one (i := 7) (oi := ⟨some 7, Op.alloc 36, 0, _, _, _⟩) rfl (by kernel_rfl) (by rfl) (fun K hK => ?_)
        go_simp
        refine hK _ _ (fun _ => ?_) ?_
        · exact SP _ (hb2.out.alloc hb2.out.size _)
        clear hK K hHeld
        have hb3 := Lib.hid (hb2.out.alloc hb2.out.size (.cells #[.slice none 0 0, .slice none 0 0] 36))
        have hO3 : Hid (ABox (W2.alloc (.cells #[.slice none 0 0, .slice none 0 0] 36)) W2.heap.size 36 [.slice none 0 0, .slice none 0 0]) := Lib.hid (heap_alloc_new W2 _)
        have hOb : Hid (w0.heap.size ≤ W2.heap.size) := Lib.hid hb2.out.size
        have hn1 : Hid (some W2.heap.size ≠ (Value.slice A1 L.length c1).ownBlock) := Lib.hid (fun e => by have := (ho12.out.lt _ e.symm).2; omega)
        have ho13 := Lib.hid (ho12.out.alloc (.cells #[.slice none 0 0, .slice none 0 0] 36))
        have hn2 : Hid (some W2.heap.size ≠ (Value.slice A2 N.length c2).ownBlock) := Lib.hid (fun e => by have := (ho22.out.lt _ e.symm).2; omega)
        have ho23 := Lib.hid (ho22.out.alloc (.cells #[.slice none 0 0, .slice none 0 0] 36))
        generalize W2.heap.size = O at *
        generalize W2.alloc (.cells #[.slice none 0 0, .slice none 0 0] 36) = W3 at *
        have hHeld := SP _ hb3.out
        try simp only [Act.put, List.setIfInBounds_toArray, List.set_cons_zero, List.set_cons_succ]
        refine wpAnyD_one (i := 8) (oi := ⟨none, Op.store 36 (Operand.tmp 7) (Operand.tmp 17), 0, _, _, _⟩) rfl (by kernel_rfl) (by rfl) (fun K hK => ?_)
        have hlg := Lib.hid (LG.born hO3.out hOb.out ho13.out ho23.out hn1.out hn2.out hdj.out hb3.out.size)
        have hbe := Lib.hid ((hb3.out.setCell (p := ⟨O, 0, none⟩) hOb.out (.slice A1 L.length c1)).setCell (p := ⟨O, 1, none⟩) hOb.out (.slice A2 N.length c2))
        have k90 := hO3.out.cell 0 rfl
        have f90 := hO3.out.fz
        have k91 := (hO3.out.set 0 (.slice A1 L.length c1)).cell 1 rfl
        have f91 := (hO3.out.set 0 (.slice A1 L.length c1)).fz
        go_simp
        refine hK _ _ (fun h => absurd h (by decide)) ?_
        clear hK K
        try simp only [Act.put, List.setIfInBounds_toArray, List.set_cons_zero, List.set_cons_succ]
        refine wpAnyD_done (by kernel_rfl) ?_ _
        unfold Exit.then
        try go_wp2_with fail
        go_meet
        exact ⟨_, _, _, _, _, rfl, hlg, hbe⟩
      · go_simp
        refine hK _ _ (fun _ => ?_) ?_
        · exact SP _ (hb1.out.alloc hb1.out.size _)
        clear hK K hHeld
        have hb2 := Lib.hid (hb1.out.alloc hb1.out.size (.cells #[.slice none 0 0, .slice none 0 0] 36))
        have hO2 : Hid (ABox (W1.alloc (.cells #[.slice none 0 0, .slice none 0 0] 36)) W1.heap.size 36 [.slice none 0 0, .slice none 0 0]) := Lib.hid (heap_alloc_new W1 _)
        have hOb : Hid (w0.heap.size ≤ W1.heap.size) := Lib.hid hb1.out.size
        have hn1 : Hid (some W1.heap.size ≠ (Value.slice A1 L.length c1).ownBlock) := Lib.hid (fun e => by have := (ho11.out.lt _ e.symm).2; omega)
        have ho12 := Lib.hid (ho11.out.alloc (.cells #[.slice none 0 0, .slice none 0 0] 36))
        generalize W1.heap.size = O at *
        generalize W1.alloc (.cells #[.slice none 0 0, .slice none 0 0] 36) = W2 at *
        have hHeld := SP _ hb2.out
        try simp only [Act.put, List.setIfInBounds_toArray, List.set_cons_zero, List.set_cons_succ]
        refine wpAnyD_one (i := 5) (oi := ⟨some 16, Op.call { callee := Callee.value (Operand.func 48), args := #[Operand.tmp 15], argTypes := #[22] }, 22, _, _, _⟩) rfl (by kernel_rfl) (by rfl) (fun K hK => ?_)
        go_simp
        go_at_call 48
        refine (sclone_any B cb _ N W2 (HN0.out.to hb2.out) rfl (by have := HLM.out; have := HLN.out; omega)).mono ?_
        rintro e W3 ⟨v2, rfl, hown3, hbc3⟩
        obtain ⟨A2, c2, rfl, -⟩ := hown3.form
        have hb3 := Lib.hid (hb2.out.trans (hbc3.mono hb2.out.size))
        have ho23 := Lib.hid (hown3.re hb2.out.size)
        have ho13 := Lib.hid (ho12.out.below hbc3)
        have hdj : Hid (∀ g, (Value.slice A1 L.length c1).ownBlock = some g → (Value.slice A2 N.length c2).ownBlock ≠ some g) := Lib.hid (fun g h1 h2 => by have := (ho12.out.lt g h1).2; have := (hown3.lt g h2).1; omega)
        have hO3 := Lib.hid (hO2.out.to hbc3)
        have hn2 : Hid (some O ≠ (Value.slice A2 N.length c2).ownBlock) := Lib.hid (fun e => by have := (hown3.lt _ e.symm).1; have := hO2.out.lt; omega)
        go_simp
        refine hK _ _ (fun _ => ?_) ?_
        · exact SP _ hb3.out
        clear hK K hHeld
        have hHeld := SP _ hb3.out
        try simp only [Act.put, List.setIfInBounds_toArray, List.set_cons_zero, List.set_cons_succ]
        clear hown3 hbc3
        refine wpAnyE_take (i := 6) (oi := ⟨some 17, Op.build 36 #[(0, Operand.tmp 13), (1, Operand.tmp 16)], 36, _, _, _⟩) (v := ?_) rfl (by kernel_rfl) (by kernel_rfl) (by kernel_rfl) (by kernel_rfl) (by kernel_rfl) (fun _ _ _ h => h) (by rfl) ?hyk6 hHeld ?hrk6
        case hyk6 => (intro wS hSw; (try dsimp only at hSw); go_simp; (try with_reducible rfl))
        all_goals try simp only [Act.put, List.setIfInBounds_toArray, List.set_cons_zero, List.set_cons_succ]
        refine wpAnyD_one (i := 8) (oi := ⟨none, Op.store 36 (Operand.tmp 7) (Operand.tmp 17), 0, _, _, _⟩) rfl (by kernel_rfl) (by rfl) (fun K hK => ?_)
        have hlg := Lib.hid (LG.born hO3.out hOb.out ho13.out ho23.out hn1.out hn2.out hdj.out hb3.out.size)
        have hbe := Lib.hid ((hb3.out.setCell (p := ⟨O, 0, none⟩) hOb.out (.slice A1 L.length c1)).setCell (p := ⟨O, 1, none⟩) hOb.out (.slice A2 N.length c2))
        have k90 := hO3.out.cell 0 rfl
        have f90 := hO3.out.fz
        have k91 := (hO3.out.set 0 (.slice A1 L.length c1)).cell 1 rfl
        have f91 := (hO3.out.set 0 (.slice A1 L.length c1)).fz
        go_simp
        refine hK _ _ (fun h => absurd h (by decide)) ?_
        clear hK K
        try simp only [Act.put, List.setIfInBounds_toArray, List.set_cons_zero, List.set_cons_succ]
        refine wpAnyD_done (by kernel_rfl) ?_ _
        unfold Exit.then
        try go_wp2_with fail
        go_meet
        exact ⟨_, _, _, _, _, rfl, hlg, hbe⟩
    · go_simp
      refine hK _ _ (fun _ => ?_) ?_
      · exact SP _ (hbs.out.alloc hbs.out.size _)
      clear hK K hHeld
      have hb1 := Lib.hid (hbs.out.alloc hbs.out.size (.cells #[.slice none 0 0, .slice none 0 0] 36))
      have hO1 : Hid (ABox (W0.alloc (.cells #[.slice none 0 0, .slice none 0 0] 36)) W0.heap.size 36 [.slice none 0 0, .slice none 0 0]) := Lib.hid (heap_alloc_new W0 _)
      have hOb : Hid (w0.heap.size ≤ W0.heap.size) := Lib.hid hbs.out.size
      generalize W0.heap.size = O at *
      generalize W0.alloc (.cells #[.slice none 0 0, .slice none 0 0] 36) = W1 at *
      have hHeld := SP _ hb1.out
      try simp only [Act.put, List.setIfInBounds_toArray, List.set_cons_zero, List.set_cons_succ]
      refine wpAnyD_one (i := 2) (oi := ⟨some 13, Op.call { callee := Callee.value (Operand.func 47), args := #[Operand.tmp 12], argTypes := #[34] }, 34, _, _, _⟩) rfl (by kernel_rfl) (by rfl) (fun K hK => ?_)
      go_simp
      go_at_call 47
      refine (hclone_any A ca _ L W1 (HL0.out.to hb1.out) rfl (by have := HLM.out; omega)).mono ?_
      rintro e W2 ⟨v1, rfl, hown2, hbc2⟩
      obtain ⟨A1, c1, rfl, -⟩ := hown2.form
      have hb2 := Lib.hid (hb1.out.trans (hbc2.mono hb1.out.size))
      have ho12 := Lib.hid (hown2.re hb1.out.size)
      have hl12 : Hid (∀ g, (Value.slice A1 L.length c1).ownBlock = some g → W1.heap.size ≤ g) := Lib.hid (fun g hg => (hown2.lt g hg).1)
      have hO2 := Lib.hid (hO1.out.to hbc2)
      have hn1 : Hid (some O ≠ (Value.slice A1 L.length c1).ownBlock) := Lib.hid (fun e => by have := hl12.out _ e.symm; have := hO1.out.lt; omega)
      go_simp
      refine hK _ _ (fun _ => ?_) ?_
      · exact SP _ hb2.out
      clear hK K hHeld
      have hHeld := SP _ hb2.out
      try simp only [Act.put, List.setIfInBounds_toArray, List.set_cons_zero, List.set_cons_succ]
      clear hown2 hbc2
      refine wpAnyD_one (i := 5) (oi := ⟨some 16, Op.call { callee := Callee.value (Operand.func 48), args := #[Operand.tmp 15], argTypes := #[22] }, 22, _, _, _⟩) rfl (by kernel_rfl) (by rfl) (fun K hK => ?_)
      go_simp
      go_at_call 48
      refine (sclone_any B cb _ N W2 (HN0.out.to hb2.out) rfl (by have := HLM.out; have := HLN.out; omega)).mono ?_
      rintro e W3 ⟨v2, rfl, hown3, hbc3⟩
      obtain ⟨A2, c2, rfl, -⟩ := hown3.form
      have hb3 := Lib.hid (hb2.out.trans (hbc3.mono hb2.out.size))
      have ho23 := Lib.hid (hown3.re hb2.out.size)
      have ho13 := Lib.hid (ho12.out.below hbc3)
      have hdj : Hid (∀ g, (Value.slice A1 L.length c1).ownBlock = some g → (Value.slice A2 N.length c2).ownBlock ≠ some g) := Lib.hid (fun g h1 h2 => by have := (ho12.out.lt g h1).2; have := (hown3.lt g h2).1; omega)
      have hO3 := Lib.hid (hO2.out.to hbc3)
      have hn2 : Hid (some O ≠ (Value.slice A2 N.length c2).ownBlock) := Lib.hid (fun e => by have := (hown3.lt _ e.symm).1; have := hO2.out.lt; omega)
      go_simp
      refine hK _ _ (fun _ => ?_) ?_
      · exact SP _ hb3.out
      clear hK K hHeld
      have hHeld := SP _ hb3.out
      try simp only [Act.put, List.setIfInBounds_toArray, List.set_cons_zero, List.set_cons_succ]
      clear hown3 hbc3
      refine wpAnyE_take (i := 6) (oi := ⟨some 17, Op.build 36 #[(0, Operand.tmp 13), (1, Operand.tmp 16)], 36, _, _, _⟩) (v := ?_) rfl (by kernel_rfl) (by kernel_rfl) (by kernel_rfl) (by kernel_rfl) (by kernel_rfl) (fun _ _ _ h => h) (by rfl) ?hyk7 hHeld ?hrk7
      case hyk7 => (intro wS hSw; (try dsimp only at hSw); go_simp; (try with_reducible rfl))
      all_goals try simp only [Act.put, List.setIfInBounds_toArray, List.set_cons_zero, List.set_cons_succ]
      refine wpAnyD_one (i := 8) (oi := ⟨none, Op.store 36 (Operand.tmp 7) (Operand.tmp 17), 0, _, _, _⟩) rfl (by kernel_rfl) (by rfl) (fun K hK => ?_)
      have hlg := Lib.hid (LG.born hO3.out hOb.out ho13.out ho23.out hn1.out hn2.out hdj.out hb3.out.size)
      have hbe := Lib.hid ((hb3.out.setCell (p := ⟨O, 0, none⟩) hOb.out (.slice A1 L.length c1)).setCell (p := ⟨O, 1, none⟩) hOb.out (.slice A2 N.length c2))
      have k90 := hO3.out.cell 0 rfl
      have f90 := hO3.out.fz
      have k91 := (hO3.out.set 0 (.slice A1 L.length c1)).cell 1 rfl
      have f91 := (hO3.out.set 0 (.slice A1 L.length c1)).fz
      go_simp
      refine hK _ _ (fun h => absurd h (by decide)) ?_
      clear hK K
      try simp only [Act.put, List.setIfInBounds_toArray, List.set_cons_zero, List.set_cons_succ]
      refine wpAnyD_done (by kernel_rfl) ?_ _
      unfold Exit.then
      try go_wp2_with fail
      go_meet
      exact ⟨_, _, _, _, _, rfl, hlg, hbe⟩
  case rest =>
    obtain ⟨O, A1, c1, A2, c2, rfl, HG1, HB1⟩ := hcut
    have hmf : ∀ (fn : Fn) (first cap : Array Value) (w : World), (Instr.makeFunc fn first cap).run Tryd.prog w = .ok (.func fn first cap) w := fun _ _ _ _ => rfl
    clear SP
    have HLL : Hid (l.length ≤ 1048576) := Lib.hid (by have := HLM.out; omega)
    have hll : (l.length : Int) ≤ 1048576 := by have := HLM.out; omega
    go_wp2_with fail
    go_loopw [21] (fun i wr => ∃ (k : Nat) (v1 v2 : Value), k ≤ l.length ∧ i = .int .i64 (k : Int) ∧ Hid (LG wr O w0.heap.size v1 v2 (addAll branch (L, N) (l.take k)).1 (addAll branch (L, N) (l.take k)).2) ∧ Hid (Below w0.heap.size w0 wr))
      (fun i _ => l.length - (intOf i).toNat)
    case atStart => exact ⟨0, _, _, Nat.zero_le _, rfl, HG1, HB1⟩
    case round =>
      obtain ⟨k, v1, v2, hk, rfl, HGr, HBr⟩ := hrel
      by_cases hkl : k < l.length
      · obtain ⟨b, o, A3, c3, A4, c4, rfl, hb, hblt, d0, d1, d2, s1, s2⟩ := sheet_at HS.out hkl
        have HBw : Hid (Below w.heap.size w wr) := Lib.hid (HB0.out.trans (HBr.out.mono (by have := HZ0.out; omega)))
        have e0 := (HBw.out.cell (p := ⟨b, o + k * 3, none⟩) hb).trans d0
        have e1 := (HBw.out.cell (p := ⟨b, o + k * 3 + 1, none⟩) hb).trans d1
        have e2 := (HBw.out.cell (p := ⟨b, o + k * 3 + 2, none⟩) hb).trans d2
        clear d0 d1 d2
        generalize hx : l[k] = x at *
        have HAT := Lib.hid (addAll_take branch (L, N) l k hkl)
        obtain ⟨hl1, hl2⟩ := addAll_len branch (l.take k) (L, N) HLN.out
        have HL1 := Lib.hid hl1
        have HL2 : Hid ((addAll branch (L, N) (l.take k)).1.length ≤ 1048576) := Lib.hid (by have := HLM.out; rw [List.length_take] at hl2; simp only at hl2; omega)
        have HXS : Hid ((sheetB branch x).length ≤ 1073740000) := Lib.hid (HSZ.out x (by rw [← hx]; exact List.getElem_mem _))
        rw [hx] at HAT
        clear hl1 hl2
        obtain ⟨q1, hq1⟩ : ∃ q1, q1 = addAll branch (L, N) (l.take (k + 1)) := ⟨_, rfl⟩
        have HQ1 := Lib.hid hq1
        rw [← hq1] at HAT
        clear hq1
        generalize addAll branch (L, N) (l.take k) = q at *
        have HT : ∀ W, Below wr.heap.size wr W → Calls Tryd.prog 49 #[.agg #[.string x.label, .slice A3 x.body.length c3, .slice A4 x.notes.length c4], .pointer (some ⟨w.heap.size + 1, 0, none⟩), .pointer (some ⟨O, 0, none⟩)] W fun e w' => e = .returned (.tuple #[]) ∧
            ∃ v1' v2', LG w' O w0.heap.size v1' v2' q1.1 q1.2 ∧ Below w0.heap.size w0 w' := fun W hW => by
          have hz := HZ0.out
          have hB := HBr.out.trans (hW.mono HBr.out.size)
          refine (add1_any branch x A3 A4 c3 c4 (w.heap.size + 1) O w0.heap.size v1 v2 q.1 q.2 W HBR.out ((hB.cell (p := ⟨w.heap.size + 1, 0, none⟩) (by show w.heap.size + 1 < _; omega)).trans (HX1.out.cell 0 rfl)) (by omega)
            ((s1.to HB0.out).keep (Kept.below hB (fun _ h => h)) hB.size) ((s2.to HB0.out).keep (Kept.below hB (fun _ h => h)) hB.size) HXS.out (HK0.out.to hB) (HGr.out.to hW) HL1.out HL2.out).mono ?_
          rintro e w' ⟨rfl, v1', v2', hg, hb⟩
          rw [HAT.out]
          exact ⟨rfl, v1', v2', hg, hB.trans hb⟩
        clear HBr HGr HBw s1 s2
        go_wp2_with (first | (go_at_call 49; refine (HT _ ((Below.refl _ _).alloc (Nat.le_refl _) _)).mono ?_; rintro e w5 ⟨rfl, v1', v2', hg5, hb5⟩) | fail)
        go_roundw
        case rel => exact ⟨k + 1, v1', v2', by omega, by go_num, Lib.hid (by rw [← HQ1.out]; exact hg5), Lib.hid hb5⟩
        case measure => simp [intOf]; omega
      · obtain rfl : k = l.length := by omega
        have HGe : Hid (LG wr O w0.heap.size v1 v2 (addAll branch (L, N) l).1 (addAll branch (L, N) l).2) := Lib.hid (by have := HGr.out; rwa [List.take_length] at this)
        have HR : Hid (ABox wr (w.heap.size + 1 + 1) 36 [.slice none 0 0, .slice none 0 0]) := Lib.hid ((HBr.out.block _ (by have := HZ0.out; omega)).trans HX2.out)
        have k0 := HGe.out.o.cell 0 rfl
        have k1 := HGe.out.o.cell 1 rfl
        have r0 := HR.out.cell 0 rfl
        have r1 := (HR.out.set 0 v1).cell 1 rfl
        have rf := HR.out.fz
        have rf2 := (HR.out.set 0 v1).fz
        have HRR := Lib.hid ((HR.out.set 0 v1).set 1 v2)
        obtain ⟨A5, c5, e5, -⟩ := HGe.out.l.form
        obtain ⟨A6, c6, e6, -⟩ := HGe.out.n.form
        clear HGr HR
        obtain ⟨q, hqe⟩ : ∃ q, q = addAll branch (L, N) l := ⟨_, rfl⟩
        have HQE := Lib.hid hqe.symm
        rw [← hqe] at HGe e5 e6
        clear hqe
        clear hmf
        subst e5 e6
        go_wp2_with fail
        have hz := HZ0.out
        have hkk : ∀ g, w0.heap.size ≤ g → ((wr.setCell ⟨w.heap.size + 1 + 1, 0, none⟩ (.slice A5 q.1.length c5)).setCell ⟨w.heap.size + 1 + 1, 1, none⟩ (.slice A6 q.2.length c6)).heap[g]? = wr.heap[g]? := fun g hg => (heap_set _ _ _ _ (by omega)).trans (heap_set _ _ _ _ (by omega))
        refine bodyPost_ret (v := .agg #[.slice A5 q.1.length c5, .slice A6 q.2.length c6]) (results_cell_row Tryd.results15 _ _ (w.heap.size + 1 + 1) _ _ (0, 0) _ rfl HRR.out Tryd.underlying36 rfl (by kernel_rfl)) rfl ⟨_, _, rfl, ?_, ?_, ?_⟩
        · rw [HQE.out]; exact (own_keepH HGe.out.l (fun g hg => hkk g (HGe.out.l.lt g hg).1)).re (by omega)
        · rw [HQE.out]; exact (own_keepS HGe.out.n (fun g hg => hkk g (HGe.out.n.lt g hg).1)).re (by omega)
        · exact ((HB0.out.trans (HBr.out.mono (by omega))).setCell (p := ⟨_, 0, none⟩) (by show _ ≤ w.heap.size + 1 + 1; omega) _).setCell (p := ⟨_, 1, none⟩) (by show _ ≤ w.heap.size + 1 + 1; omega) _
end Go.Proofs.YthcklfelofpffaaDoor
namespace Go.Proofs.YthcklfelofpffaaDoor
open Go.RowKit
/-- A sheet in a variable. -/
structure SB (W : World) (O : Nat) (s : Sheet) (A1 : Option Addr) (c1 : Nat) (A2 : Option Addr) (c2 : Nat) : Prop where
  box : ABox W O 24 [.string s.label, .slice A1 s.body.length c1, .slice A2 s.notes.length c2]
  b : Sl W (fun b => b < W.heap.size) A1 c1 s.body
  n : Sl W (fun b => b < W.heap.size) A2 c2 s.notes
theorem SB.to {W W' : World} {O : Nat} {s : Sheet} {A1 : Option Addr} {c1 : Nat} {A2 : Option Addr} {c2 : Nat} (h : SB W O s A1 c1 A2 c2) (hb : Below W.heap.size W W') : SB W' O s A1 c1 A2 c2 := ⟨h.box.to hb, h.b.to hb, h.n.to hb⟩
/-- A ledger in a variable. -/
structure LB (W : World) (O : Nat) (L : List H32) (N : List ByteArray) (A1 : Option Addr) (c1 : Nat) (A2 : Option Addr) (c2 : Nat) : Prop where
  box : ABox W O 36 [.slice A1 L.length c1, .slice A2 N.length c2]
  l : Sl W (fun b => b < W.heap.size) A1 c1 L
  n : Sl W (fun b => b < W.heap.size) A2 c2 N
theorem LB.to {W W' : World} {O : Nat} {L : List H32} {N : List ByteArray} {A1 : Option Addr} {c1 : Nat} {A2 : Option Addr} {c2 : Nat} (h : LB W O L N A1 c1 A2 c2) (hb : Below W.heap.size W W') : LB W' O L N A1 c1 A2 c2 := ⟨h.box.to hb, h.l.to hb, h.n.to hb⟩
/-- Two sheets in a row. -/
theorem sl_pair {W : World} {B : Nat} {te : TypeId} {fr : Nat × Nat} {s1 s2 : Sheet} {A1 A2 A3 A4 : Option Addr} {c1 c2 c3 c4 : Nat}
    (hB : W.heap[B]? = some (.cells #[.string s1.label, .slice A1 s1.body.length c1, .slice A2 s1.notes.length c2, .string s2.label, .slice A3 s2.body.length c3, .slice A4 s2.notes.length c4] te fr))
    (h1 : Sl W (fun b => b < W.heap.size) A1 c1 s1.body) (h2 : Sl W (fun b => b < W.heap.size) A2 c2 s1.notes) (h3 : Sl W (fun b => b < W.heap.size) A3 c3 s2.body) (h4 : Sl W (fun b => b < W.heap.size) A4 c4 s2.notes)
    (l1 : s1.body.length < 9223372036854775808) (l2 : s1.notes.length < 9223372036854775808) (l3 : s2.body.length < 9223372036854775808) (l4 : s2.notes.length < 9223372036854775808) :
    Sl W (fun b => b < W.heap.size) (some ⟨B, 0, none⟩) 2 [s1, s2] := by
  refine Sl.block (l := [s1, s2]) hB (Array.getElem?_eq_some_iff.1 hB).1 (by simp [maxLen]) (fun i hi => ?_)
  have : i = 0 ∨ i = 1 := by simp at hi; omega
  rcases this with rfl | rfl
  · exact ⟨_, _, rfl, ⟨A1, c1, rfl, h1, l1⟩, ⟨A2, c2, rfl, h2, l2⟩⟩
  · exact ⟨_, _, rfl, ⟨A3, c3, rfl, h3, l3⟩, ⟨A4, c4, rfl, h4, l4⟩⟩
theorem addTwo (W : World) (L : List H32) (N : List ByteArray) (A B : Option Addr) (ca cb : Nat) (s1 s2 : Sheet) (A1 A2 A3 A4 : Option Addr) (c1 c2 c3 c4 : Nat) (hl : Sl W (fun b => b < W.heap.size) A ca L) (hn : Sl W (fun b => b < W.heap.size) B cb N)
    (h1 : Sl W (fun b => b < W.heap.size) A1 c1 s1.body) (h2 : Sl W (fun b => b < W.heap.size) A2 c2 s1.notes) (h3 : Sl W (fun b => b < W.heap.size) A3 c3 s2.body) (h4 : Sl W (fun b => b < W.heap.size) A4 c4 s2.notes)
    (hln : L.length = N.length) (hlm : L.length ≤ 1000) (z1 : (sheetB 0 s1).length ≤ 1000000) (z2 : (sheetB 0 s2).length ≤ 1000000) (l1 : s1.body.length ≤ 100) (l2 : s1.notes.length ≤ 100) (l3 : s2.body.length ≤ 100) (l4 : s2.notes.length ≤ 100) (hK : KLaid W) :
    Calls Tryd.prog 15 #[.agg #[.slice A L.length ca, .slice B N.length cb], .int .i64 0, .slice (some ⟨W.heap.size, 0, none⟩) 2 2]
      (W.alloc (.cells #[.string s1.label, .slice A1 s1.body.length c1, .slice A2 s1.notes.length c2, .string s2.label, .slice A3 s2.body.length c3, .slice A4 s2.notes.length c4] 24)) fun e w' =>
      ∃ A' B' ca' cb', e = .returned (.agg #[.slice A' (addAll 0 (L, N) [s1, s2]).1.length ca', .slice B' (addAll 0 (L, N) [s1, s2]).2.length cb']) ∧
        Sl w' (fun b => b < w'.heap.size) A' ca' (addAll 0 (L, N) [s1, s2]).1 ∧ Sl w' (fun b => b < w'.heap.size) B' cb' (addAll 0 (L, N) [s1, s2]).2 ∧ Below W.heap.size W w' := by
  have hb : Below W.heap.size W (W.alloc (.cells #[.string s1.label, .slice A1 s1.body.length c1, .slice A2 s1.notes.length c2, .string s2.label, .slice A3 s2.body.length c3, .slice A4 s2.notes.length c4] 24)) := (Below.refl _ _).alloc (Nat.le_refl _) _
  refine (add_any 0 A B (some ⟨W.heap.size, 0, none⟩) ca cb 2 L N [s1, s2] _ (by unfold I64; omega) (hl.to hb) (hn.to hb) (sl_pair (heap_alloc_new W _) (h1.to hb) (h2.to hb) (h3.to hb) (h4.to hb) (by omega) (by omega) (by omega) (by omega)) hln (by simp; omega) (fun s hs => ?_) (hK.to hb)).mono ?_
  · rcases List.mem_cons.1 hs with rfl | hs
    · omega
    · obtain rfl := List.mem_singleton.1 hs
      omega
  · rintro e w' ⟨v1, v2, rfl, ho1, ho2, hb2⟩
    obtain ⟨A', ca', rfl, hs1⟩ := ho1.sl
    obtain ⟨B', cb', rfl, hs2⟩ := ho2.sl
    exact ⟨A', B', ca', cb', rfl, hs1, hs2, hb.trans (hb2.mono hb.size)⟩
/-- The sheets of the examples. -/
def sOne : Sheet := ⟨⟨#[49]⟩, [⟨#[97, 98]⟩], []⟩
def sTwo : Sheet := ⟨⟨#[50]⟩, [], [⟨#[120]⟩]⟩
def sOther : Sheet := ⟨⟨#[49]⟩, [⟨#[97, 99]⟩], []⟩
def lvA : List H32 × List ByteArray := addAll 0 ([], []) [sOne, sTwo]
def lvM : List H32 × List ByteArray := addAll 0 lvA [sOther, sTwo]
theorem lv_again : addAll 0 lvA [sOne, sTwo] = lvA := by decide +kernel
theorem lv_len : lvA.1.length = 2 ∧ lvA.2.length = 2 ∧ lvM.1.length = 3 ∧ lvM.2.length = 3 := by decide +kernel
theorem lv_leaf : decide (leafOf 0 sOne = leafH [0, 1, 49, 1, 2, 97, 98, 0]) = true := by decide +kernel
theorem lv_root : decide (root lvA.1 = nodeH (leafOf 0 sOne) (leafOf 0 sTwo)) = true := by decide +kernel
theorem lv_proof : proofI lvM.2 ⟨#[49]⟩ = 2 ∧ proofB lvM.2 ⟨#[49]⟩ = true ∧ proofI lvM.2 ⟨#[50]⟩ = 1 ∧ proofB lvM.2 ⟨#[50]⟩ = true := by decide +kernel
theorem lv_check : checkP 3 (root lvM.1) 0 sOther 2 (proofP lvM.1 lvM.2 ⟨#[49]⟩) = true ∧ checkP 3 (root lvM.1) 0 sOne 2 (proofP lvM.1 lvM.2 ⟨#[49]⟩) = false := by decide +kernel
theorem lv_sizes : (sheetB 0 sOne).length ≤ 1000000 ∧ (sheetB 0 sTwo).length ≤ 1000000 ∧ (sheetB 0 sOther).length ≤ 1000000 := by decide +kernel
end Go.Proofs.YthcklfelofpffaaDoor
namespace Go.Proofs.YthcklfelofpffaaDoor
open Go.RowKit
theorem wpQuiet_run {P : Program} {ops : Array Oper} {C : World → Prop} {Q : Act → Prop} {a : Act} {o : Oper} {rest : List Oper} (hw : Region.wanted o (yielded ops a.tmps) = true) (v : Value) (h : ∀ w, C w → (execOp a.eval o).run P w = .ok (.value v) w)
    (hk : wpQuiet P ops C Q rest (a.put o.dst v)) : wpQuiet P ops C Q (o :: rest) a :=
  BigFrame.wpQuiet_want hw fun _ hK => ⟨v, fun w hc => by unfold Oper.quietAt; rw [h w hc]; exact ⟨rfl, rfl⟩, hK _ hk⟩
theorem exec_eqlH {o : Oper} {a : Act} {w : World} (x y : Operand) (ho : o.op = .binOp .eql 29 x y 29) (l m : List UInt8) (hx : a.eval x = hashV l) (hy : a.eval y = hashV m) (hl : l.length = 32) (hm : m.length = 32) (b : Bool) (hb : decide (l = m) = b) :
    (execOp a.eval o).run Tryd.prog w = .ok (.value (.bool b)) w := by
  have h1 := run_hash_eql l m hl hm w
  unfold execOp
  unfold hashV at hx hy
  rw [← hb]
  simp only [ho, hx, hy, Sem.run_bind, run_eqGuard_agg w .eql 29 x y _ _ guard_h, h1, Result.andThen_ok, Sem.run_pure]
theorem exec_hfield {o : Oper} {a : Act} {w : World} (x : Operand) (ho : o.op = .field 40 x 0) (n : Int) (r : List UInt8) (hx : a.eval x = .agg (headL n r).toArray) : (execOp a.eval o).run Tryd.prog w = .ok (.value (.int .i64 n)) w := by
  unfold execOp
  have hu := Tryd.underlying40
  have hi := Tryd.underlying3
  simp only [ho, hx, Instr.field, Sem.run_bind, run_underlying hu, Result.andThen_ok]
  simp [Go.part, isAgg, asAgg, run_underlying hi, headL, go_sem]
theorem wpList_eqlH {ops : Array Oper} {rest : List Oper} {o : Oper} {a : Act} {Q : Exit → Act → World → Prop} {w : World} (hgd : o.guard = none) (x y : Operand) (ho : o.op = .binOp .eql 29 x y 29) (l m : List UInt8) (hx : a.eval x = hashV l) (hy : a.eval y = hashV m) (hl : l.length = 32) (hm : m.length = 32)
    (h : wpList Tryd.prog ops Q rest (a.put o.dst (.bool (decide (l = m)))) w) : wpList Tryd.prog ops Q (o :: rest) a w :=
  wpList_plain hgd fun _ hK => wp_eqlH x y ho l m hx hy hl hm (hK _ _ h)
set_option maxRecDepth 100000 in
set_option maxHeartbeats 4000000 in
theorem lives_any (w : World) (hK : KLaid w) : Calls Tryd.prog 13 #[] w fun e w' => e = .returned (.bool true) ∧ Below w.heap.size w w' := by
  go_enter Tryd.func13, Tryd.ntmps13
  have HK0 := Lib.hid hK
  have HB0 : Hid (Below w.heap.size w w) := Lib.hid (Below.refl _ _)
  clear hK
  go_upto_region 2 with (fail)
  have hb1 : Below w.heap.size w ((w.alloc (.cells #[.string ⟨#[97, 98]⟩] 9)).alloc (.cells #[.string ⟨#[49]⟩, .slice (some ⟨w.heap.size, 0, none⟩) 1 1, .slice none 0 0] 24)) := ((Below.refl _ _).alloc (Nat.le_refl _) _).alloc (by simp) _
  have hx1 : Sl ((w.alloc (.cells #[.string ⟨#[97, 98]⟩] 9)).alloc (.cells #[.string ⟨#[49]⟩, .slice (some ⟨w.heap.size, 0, none⟩) 1 1, .slice none 0 0] 24)) (fun b => b < ((w.alloc (.cells #[.string ⟨#[97, 98]⟩] 9)).alloc (.cells #[.string ⟨#[49]⟩, .slice (some ⟨w.heap.size, 0, none⟩) 1 1, .slice none 0 0] 24)).heap.size) (some ⟨w.heap.size, 0, none⟩) 1 ([⟨#[97, 98]⟩] : List ByteArray) := Sl.block (l := ([⟨#[97, 98]⟩] : List ByteArray)) (cs := #[.string ⟨#[97, 98]⟩]) (te := 9) (fr := (0, 0)) ((Below.heap_alloc _ _ _ (by simp)).trans (heap_alloc_new w _)) (by simp; omega) (by simp [maxLen]) (fun j hj => by (obtain rfl : j = 0 := (by simpa using hj)); rfl)
  have HS1 : Hid (SB ((w.alloc (.cells #[.string ⟨#[97, 98]⟩] 9)).alloc (.cells #[.string ⟨#[49]⟩, .slice (some ⟨w.heap.size, 0, none⟩) 1 1, .slice none 0 0] 24)) (w.heap.size + 1) sOne (some ⟨w.heap.size, 0, none⟩) 1 none 0) := Lib.hid ⟨heap_at (by simp), hx1, (Sl.nil _ _ _ _ (by decide))⟩
  replace HK0 := Lib.hid (HK0.out.to hb1)
  replace HB0 := Lib.hid (HB0.out.trans (hb1.mono HB0.out.size))
  generalize hw1 : World.alloc (World.alloc w _) _ = w1
  have hv1 : ((w.alloc (.cells #[.string ⟨#[97, 98]⟩] 9)).alloc (.cells #[.string ⟨#[49]⟩, .slice (some ⟨w.heap.size, 0, none⟩) 1 1, .slice none 0 0] 24)) = w1 := hw1
  rw [hv1] at HS1 HK0 HB0
  clear hw1 hv1 hb1 hx1
  generalize w.heap.size + 1 = O1 at *
  generalize hA1 : (some (⟨w.heap.size, 0, none⟩ : Addr)) = F1 at *
  clear hA1
  go_upto_region 3 with (fail)
  have hb2 : Below w1.heap.size w1 ((w1.alloc (.cells #[.string ⟨#[120]⟩] 9)).alloc (.cells #[.string ⟨#[50]⟩, .slice none 0 0, .slice (some ⟨w1.heap.size, 0, none⟩) 1 1] 24)) := ((Below.refl _ _).alloc (Nat.le_refl _) _).alloc (by simp) _
  have hx2 : Sl ((w1.alloc (.cells #[.string ⟨#[120]⟩] 9)).alloc (.cells #[.string ⟨#[50]⟩, .slice none 0 0, .slice (some ⟨w1.heap.size, 0, none⟩) 1 1] 24)) (fun b => b < ((w1.alloc (.cells #[.string ⟨#[120]⟩] 9)).alloc (.cells #[.string ⟨#[50]⟩, .slice none 0 0, .slice (some ⟨w1.heap.size, 0, none⟩) 1 1] 24)).heap.size) (some ⟨w1.heap.size, 0, none⟩) 1 ([⟨#[120]⟩] : List ByteArray) := Sl.block (l := ([⟨#[120]⟩] : List ByteArray)) (cs := #[.string ⟨#[120]⟩]) (te := 9) (fr := (0, 0)) ((Below.heap_alloc _ _ _ (by simp)).trans (heap_alloc_new w1 _)) (by simp; omega) (by simp [maxLen]) (fun j hj => by (obtain rfl : j = 0 := (by simpa using hj)); rfl)
  have HS2 : Hid (SB ((w1.alloc (.cells #[.string ⟨#[120]⟩] 9)).alloc (.cells #[.string ⟨#[50]⟩, .slice none 0 0, .slice (some ⟨w1.heap.size, 0, none⟩) 1 1] 24)) (w1.heap.size + 1) sTwo none 0 (some ⟨w1.heap.size, 0, none⟩) 1) := Lib.hid ⟨heap_at (by simp), (Sl.nil _ _ _ _ (by decide)), hx2⟩
  replace HS1 := Lib.hid (HS1.out.to hb2)
  replace HK0 := Lib.hid (HK0.out.to hb2)
  replace HB0 := Lib.hid (HB0.out.trans (hb2.mono HB0.out.size))
  generalize hw2 : World.alloc (World.alloc w1 _) _ = w2
  have hv2 : ((w1.alloc (.cells #[.string ⟨#[120]⟩] 9)).alloc (.cells #[.string ⟨#[50]⟩, .slice none 0 0, .slice (some ⟨w1.heap.size, 0, none⟩) 1 1] 24)) = w2 := hw2
  rw [hv2] at HS2 HK0 HB0 HS1
  clear hw2 hv2 hb2 hx2
  generalize w1.heap.size + 1 = O2 at *
  generalize hA2 : (some (⟨w1.heap.size, 0, none⟩ : Addr)) = F2 at *
  clear hA2
  go_upto_region 4 with (fail)
  have hb3 : Below w2.heap.size w2 ((w2.alloc (.cells #[.string ⟨#[97, 99]⟩] 9)).alloc (.cells #[.string ⟨#[49]⟩, .slice (some ⟨w2.heap.size, 0, none⟩) 1 1, .slice none 0 0] 24)) := ((Below.refl _ _).alloc (Nat.le_refl _) _).alloc (by simp) _
  have hx3 : Sl ((w2.alloc (.cells #[.string ⟨#[97, 99]⟩] 9)).alloc (.cells #[.string ⟨#[49]⟩, .slice (some ⟨w2.heap.size, 0, none⟩) 1 1, .slice none 0 0] 24)) (fun b => b < ((w2.alloc (.cells #[.string ⟨#[97, 99]⟩] 9)).alloc (.cells #[.string ⟨#[49]⟩, .slice (some ⟨w2.heap.size, 0, none⟩) 1 1, .slice none 0 0] 24)).heap.size) (some ⟨w2.heap.size, 0, none⟩) 1 ([⟨#[97, 99]⟩] : List ByteArray) := Sl.block (l := ([⟨#[97, 99]⟩] : List ByteArray)) (cs := #[.string ⟨#[97, 99]⟩]) (te := 9) (fr := (0, 0)) ((Below.heap_alloc _ _ _ (by simp)).trans (heap_alloc_new w2 _)) (by simp; omega) (by simp [maxLen]) (fun j hj => by (obtain rfl : j = 0 := (by simpa using hj)); rfl)
  have HS3 : Hid (SB ((w2.alloc (.cells #[.string ⟨#[97, 99]⟩] 9)).alloc (.cells #[.string ⟨#[49]⟩, .slice (some ⟨w2.heap.size, 0, none⟩) 1 1, .slice none 0 0] 24)) (w2.heap.size + 1) sOther (some ⟨w2.heap.size, 0, none⟩) 1 none 0) := Lib.hid ⟨heap_at (by simp), hx3, (Sl.nil _ _ _ _ (by decide))⟩
  replace HS1 := Lib.hid (HS1.out.to hb3)
  replace HS2 := Lib.hid (HS2.out.to hb3)
  replace HK0 := Lib.hid (HK0.out.to hb3)
  replace HB0 := Lib.hid (HB0.out.trans (hb3.mono HB0.out.size))
  generalize hw3 : World.alloc (World.alloc w2 _) _ = w3
  have hv3 : ((w2.alloc (.cells #[.string ⟨#[97, 99]⟩] 9)).alloc (.cells #[.string ⟨#[49]⟩, .slice (some ⟨w2.heap.size, 0, none⟩) 1 1, .slice none 0 0] 24)) = w3 := hw3
  rw [hv3] at HS3 HK0 HB0 HS1 HS2
  clear hw3 hv3 hb3 hx3
  generalize w2.heap.size + 1 = O3 at *
  generalize hA3 : (some (⟨w2.heap.size, 0, none⟩ : Addr)) = F3 at *
  clear hA3
  have HAD : Hid (Calls Tryd.prog 15 #[.agg #[.slice none 0 0, .slice none 0 0], .int .i64 0, .slice (some ⟨w3.heap.size, 0, none⟩) 2 2] (w3.alloc (.cells #[.string sOne.label, .slice F1 sOne.body.length 1, .slice none sOne.notes.length 0, .string sTwo.label, .slice none sTwo.body.length 0, .slice F2 sTwo.notes.length 1] 24)) fun e w' => ∃ A' B' ca' cb', e = .returned (.agg #[.slice A' lvA.1.length ca', .slice B' lvA.2.length cb']) ∧ Sl w' (fun b => b < w'.heap.size) A' ca' lvA.1 ∧ Sl w' (fun b => b < w'.heap.size) B' cb' lvA.2 ∧ Below w3.heap.size w3 w') := Lib.hid (by
    have h := addTwo w3 [] [] none none 0 0 sOne sTwo F1 none none F2 1 0 0 1 (Sl.nil _ _ _ _ (by decide)) (Sl.nil _ _ _ _ (by decide)) HS1.out.b HS1.out.n HS2.out.b HS2.out.n (by first | rfl | (rw [lv_len.1, lv_len.2.1])) (by first | (rw [lv_len.1]; decide) | decide) lv_sizes.1 lv_sizes.2.1 (by decide) (by decide) (by decide) (by decide) HK0.out
    exact h)
  have k10 := HS1.out.box.cell 0 rfl
  have k11 := HS1.out.box.cell 1 rfl
  have k12 := HS1.out.box.cell 2 rfl
  have k20 := HS2.out.box.cell 0 rfl
  have k21 := HS2.out.box.cell 1 rfl
  have k22 := HS2.out.box.cell 2 rfl
  have k30 := HS3.out.box.cell 0 rfl
  have k31 := HS3.out.box.cell 1 rfl
  have k32 := HS3.out.box.cell 2 rfl
  go_wp2_with fail
  refine HAD.out.mono ?_
  rintro e w4 ⟨G1A, G1B, G1a, G1b, rfl, hs1, hs2, hb⟩
  clear k10 k11 k12 k20 k21 k22 k30 k31 k32
  clear HAD
  have hb2 : Below w4.heap.size w4 (w4.alloc (.cells #[.slice G1A lvA.1.length G1a, .slice G1B lvA.2.length G1b] 36)) := (Below.refl _ _).alloc (Nat.le_refl _) _
  have G1 : Hid (LB (w4.alloc (.cells #[.slice G1A lvA.1.length G1a, .slice G1B lvA.2.length G1b] 36)) w4.heap.size lvA.1 lvA.2 G1A G1a G1B G1b) := Lib.hid ⟨heap_alloc_new w4 _, hs1.to hb2, hs2.to hb2⟩
  have hb3 := hb.trans (hb2.mono hb.size)
  replace HS1 := Lib.hid (HS1.out.to hb3)
  replace HS2 := Lib.hid (HS2.out.to hb3)
  replace HS3 := Lib.hid (HS3.out.to hb3)
  replace HK0 := Lib.hid (HK0.out.to hb3)
  replace HB0 := Lib.hid (HB0.out.trans (hb3.mono HB0.out.size))
  clear hs1 hs2 hb hb2 hb3
  go_upto_region 5 with (fail)
  generalize hw : World.alloc w4 _ = w5
  have hv : (w4.alloc (.cells #[.slice G1A lvA.1.length G1a, .slice G1B lvA.2.length G1b] 36)) = w5 := hw
  rw [hv] at G1 HK0 HB0 HS1 HS2 HS3
  clear hw hv
  generalize w4.heap.size = G1O at *
  have HTP := Lib.hid (top_any G1A G1B G1a lvA.1.length lvA.1 w5 G1b lvA.2.length G1.out.l rfl (by rw [lv_len.1]; decide) HK0.out)
  have HRL : Hid ((root lvA.1).length = 32) := Lib.hid (root_length _ (h32_len G1.out.l))
  have k10 := HS1.out.box.cell 0 rfl
  have k11 := HS1.out.box.cell 1 rfl
  have k12 := HS1.out.box.cell 2 rfl
  have k20 := HS2.out.box.cell 0 rfl
  have k21 := HS2.out.box.cell 1 rfl
  have k22 := HS2.out.box.cell 2 rfl
  have k30 := HS3.out.box.cell 0 rfl
  have k31 := HS3.out.box.cell 1 rfl
  have k32 := HS3.out.box.cell 2 rfl
  have qG10 := G1.out.box.cell 0 rfl
  have qG11 := G1.out.box.cell 1 rfl
  go_wp2_with fail
  refine HTP.out.mono ?_
  rintro e w6 ⟨rfl, hb⟩
  clear k10 k11 k12 k20 k21 k22 k30 k31 k32 qG10 qG11
  clear HTP
  obtain ⟨r1, hr1⟩ : ∃ r, r = root lvA.1 := ⟨_, rfl⟩
  have HR1 := Lib.hid hr1
  rw [← hr1] at HRL ⊢
  clear hr1
  have hn2 : ((lvA.1.length : Nat) : Int) = 2 := by rw [lv_len.1]; rfl
  rw [hn2]
  clear hn2
  have HSZ : Hid ((headL 2 r1).toArray.size = 33) := Lib.hid (by unfold headL; simp [HRL.out])
  have HON := Lib.hid (headL_one 2 r1)
  have hal : (w6.alloc (.cells zhead.toArray 40)).heap[w6.heap.size]? = some (.cells zhead.toArray 40 (0, 0)) := heap_alloc_new w6 _
  have hb2 : Below w6.heap.size w6 ((w6.alloc (.cells zhead.toArray 40)).setRow w6.heap.size (headL 2 r1).toArray) := below_setRow ((Below.refl _ _).alloc (Nat.le_refl _) _) (Nat.le_refl _) _
  have HH : Hid (ABox ((w6.alloc (.cells zhead.toArray 40)).setRow w6.heap.size (headL 2 r1).toArray) w6.heap.size 40 (headL 2 r1)) := Lib.hid (setRow_heap _ w6.heap.size _ (headL 2 r1).toArray _ _ hal)
  have hb3 := hb.trans (hb2.mono hb.size)
  replace HS1 := Lib.hid (HS1.out.to hb3)
  replace HS2 := Lib.hid (HS2.out.to hb3)
  replace HS3 := Lib.hid (HS3.out.to hb3)
  replace G1 := Lib.hid (G1.out.to hb3)
  replace HK0 := Lib.hid (HK0.out.to hb3)
  replace HB0 := Lib.hid (HB0.out.trans (hb3.mono HB0.out.size))
  clear hb hb2 hb3
  unfold headV
  go_upto_region 6 with (first | (refine wpList_store_row rfl 40 (.tmp 5) (.tmp 28) rfl w6.heap.size (headL 2 r1).toArray rfl rfl 40 zhead.toArray hal (by rw [HSZ.out]; kernel_rfl) (by rw [HSZ.out]; rfl) HON.out ?_) | fail)
  generalize hw : World.setRow (World.alloc w6 _) _ _ = w7
  have hv : ((w6.alloc (.cells zhead.toArray 40)).setRow w6.heap.size (headL 2 r1).toArray) = w7 := hw
  rw [hv] at HH HK0 HB0 HS1 HS2 HS3 G1
  clear hw hv hal HSZ HON
  generalize w6.heap.size = HO at *
  have HAD : Hid (Calls Tryd.prog 15 #[.agg #[.slice G1A lvA.1.length G1a, .slice G1B lvA.2.length G1b], .int .i64 0, .slice (some ⟨w7.heap.size, 0, none⟩) 2 2] (w7.alloc (.cells #[.string sOne.label, .slice F1 sOne.body.length 1, .slice none sOne.notes.length 0, .string sTwo.label, .slice none sTwo.body.length 0, .slice F2 sTwo.notes.length 1] 24)) fun e w' => ∃ A' B' ca' cb', e = .returned (.agg #[.slice A' lvA.1.length ca', .slice B' lvA.2.length cb']) ∧ Sl w' (fun b => b < w'.heap.size) A' ca' lvA.1 ∧ Sl w' (fun b => b < w'.heap.size) B' cb' lvA.2 ∧ Below w7.heap.size w7 w') := Lib.hid (by
    have h := addTwo w7 lvA.1 lvA.2 G1A G1B G1a G1b sOne sTwo F1 none none F2 1 0 0 1 G1.out.l G1.out.n HS1.out.b HS1.out.n HS2.out.b HS2.out.n (by first | rfl | (rw [lv_len.1, lv_len.2.1])) (by first | (rw [lv_len.1]; decide) | decide) lv_sizes.1 lv_sizes.2.1 (by decide) (by decide) (by decide) (by decide) HK0.out
    rw [show ((lvA.1, lvA.2) : List H32 × List ByteArray) = lvA from rfl, lv_again] at h
    exact h)
  have k10 := HS1.out.box.cell 0 rfl
  have k11 := HS1.out.box.cell 1 rfl
  have k12 := HS1.out.box.cell 2 rfl
  have k20 := HS2.out.box.cell 0 rfl
  have k21 := HS2.out.box.cell 1 rfl
  have k22 := HS2.out.box.cell 2 rfl
  have k30 := HS3.out.box.cell 0 rfl
  have k31 := HS3.out.box.cell 1 rfl
  have k32 := HS3.out.box.cell 2 rfl
  have qG10 := G1.out.box.cell 0 rfl
  have qG11 := G1.out.box.cell 1 rfl
  go_wp2_with fail
  refine HAD.out.mono ?_
  rintro e w8 ⟨G2A, G2B, G2a, G2b, rfl, hs1, hs2, hb⟩
  clear k10 k11 k12 k20 k21 k22 k30 k31 k32 qG10 qG11
  clear HAD
  have hb2 : Below w8.heap.size w8 (w8.alloc (.cells #[.slice G2A lvA.1.length G2a, .slice G2B lvA.2.length G2b] 36)) := (Below.refl _ _).alloc (Nat.le_refl _) _
  have G2 : Hid (LB (w8.alloc (.cells #[.slice G2A lvA.1.length G2a, .slice G2B lvA.2.length G2b] 36)) w8.heap.size lvA.1 lvA.2 G2A G2a G2B G2b) := Lib.hid ⟨heap_alloc_new w8 _, hs1.to hb2, hs2.to hb2⟩
  have hb3 := hb.trans (hb2.mono hb.size)
  replace HS1 := Lib.hid (HS1.out.to hb3)
  replace HS2 := Lib.hid (HS2.out.to hb3)
  replace HS3 := Lib.hid (HS3.out.to hb3)
  replace G1 := Lib.hid (G1.out.to hb3)
  replace HH := Lib.hid (HH.out.to hb3)
  replace HK0 := Lib.hid (HK0.out.to hb3)
  replace HB0 := Lib.hid (HB0.out.trans (hb3.mono HB0.out.size))
  clear hs1 hs2 hb hb2 hb3
  go_upto_region 7 with (fail)
  generalize hw : World.alloc w8 _ = w9
  have hv : (w8.alloc (.cells #[.slice G2A lvA.1.length G2a, .slice G2B lvA.2.length G2b] 36)) = w9 := hw
  rw [hv] at G2 HK0 HB0 HS1 HS2 HS3 G1 HH
  clear hw hv
  generalize w8.heap.size = G2O at *
  have HAD : Hid (Calls Tryd.prog 15 #[.agg #[.slice G1A lvA.1.length G1a, .slice G1B lvA.2.length G1b], .int .i64 0, .slice (some ⟨w9.heap.size, 0, none⟩) 2 2] (w9.alloc (.cells #[.string sOther.label, .slice F3 sOther.body.length 1, .slice none sOther.notes.length 0, .string sTwo.label, .slice none sTwo.body.length 0, .slice F2 sTwo.notes.length 1] 24)) fun e w' => ∃ A' B' ca' cb', e = .returned (.agg #[.slice A' lvM.1.length ca', .slice B' lvM.2.length cb']) ∧ Sl w' (fun b => b < w'.heap.size) A' ca' lvM.1 ∧ Sl w' (fun b => b < w'.heap.size) B' cb' lvM.2 ∧ Below w9.heap.size w9 w') := Lib.hid (by
    have h := addTwo w9 lvA.1 lvA.2 G1A G1B G1a G1b sOther sTwo F3 none none F2 1 0 0 1 G1.out.l G1.out.n HS3.out.b HS3.out.n HS2.out.b HS2.out.n (by first | rfl | (rw [lv_len.1, lv_len.2.1])) (by first | (rw [lv_len.1]; decide) | decide) lv_sizes.2.2 lv_sizes.2.1 (by decide) (by decide) (by decide) (by decide) HK0.out
    exact h)
  have k10 := HS1.out.box.cell 0 rfl
  have k11 := HS1.out.box.cell 1 rfl
  have k12 := HS1.out.box.cell 2 rfl
  have k20 := HS2.out.box.cell 0 rfl
  have k21 := HS2.out.box.cell 1 rfl
  have k22 := HS2.out.box.cell 2 rfl
  have k30 := HS3.out.box.cell 0 rfl
  have k31 := HS3.out.box.cell 1 rfl
  have k32 := HS3.out.box.cell 2 rfl
  have qG10 := G1.out.box.cell 0 rfl
  have qG11 := G1.out.box.cell 1 rfl
  have qG20 := G2.out.box.cell 0 rfl
  have qG21 := G2.out.box.cell 1 rfl
  go_wp2_with fail
  refine HAD.out.mono ?_
  rintro e w10 ⟨G3A, G3B, G3a, G3b, rfl, hs1, hs2, hb⟩
  clear k10 k11 k12 k20 k21 k22 k30 k31 k32 qG10 qG11 qG20 qG21
  clear HAD
  have hb2 : Below w10.heap.size w10 (w10.alloc (.cells #[.slice G3A lvM.1.length G3a, .slice G3B lvM.2.length G3b] 36)) := (Below.refl _ _).alloc (Nat.le_refl _) _
  have G3 : Hid (LB (w10.alloc (.cells #[.slice G3A lvM.1.length G3a, .slice G3B lvM.2.length G3b] 36)) w10.heap.size lvM.1 lvM.2 G3A G3a G3B G3b) := Lib.hid ⟨heap_alloc_new w10 _, hs1.to hb2, hs2.to hb2⟩
  have hb3 := hb.trans (hb2.mono hb.size)
  replace HS1 := Lib.hid (HS1.out.to hb3)
  replace HS2 := Lib.hid (HS2.out.to hb3)
  replace HS3 := Lib.hid (HS3.out.to hb3)
  replace G1 := Lib.hid (G1.out.to hb3)
  replace HH := Lib.hid (HH.out.to hb3)
  replace G2 := Lib.hid (G2.out.to hb3)
  replace HK0 := Lib.hid (HK0.out.to hb3)
  replace HB0 := Lib.hid (HB0.out.trans (hb3.mono HB0.out.size))
  clear hs1 hs2 hb hb2 hb3
  go_upto_region 8 with (fail)
  generalize hw : World.alloc w10 _ = w11
  have hv : (w10.alloc (.cells #[.slice G3A lvM.1.length G3a, .slice G3B lvM.2.length G3b] 36)) = w11 := hw
  rw [hv] at G3 HK0 HB0 HS1 HS2 HS3 G1 HH G2
  clear hw hv
  generalize w10.heap.size = G3O at *
  have HPR := Lib.hid (proof_any G3A G3B G3a G3b lvM.1 lvM.2 ⟨#[49]⟩ w11 G3.out.l G3.out.n (by rw [lv_len.2.2.1, lv_len.2.2.2]) (by rw [lv_len.2.2.1]; decide) HK0.out)
  rw [lv_proof.1, lv_proof.2.1] at HPR
  have k10 := HS1.out.box.cell 0 rfl
  have k11 := HS1.out.box.cell 1 rfl
  have k12 := HS1.out.box.cell 2 rfl
  have k20 := HS2.out.box.cell 0 rfl
  have k21 := HS2.out.box.cell 1 rfl
  have k22 := HS2.out.box.cell 2 rfl
  have k30 := HS3.out.box.cell 0 rfl
  have k31 := HS3.out.box.cell 1 rfl
  have k32 := HS3.out.box.cell 2 rfl
  have qG10 := G1.out.box.cell 0 rfl
  have qG11 := G1.out.box.cell 1 rfl
  have qG20 := G2.out.box.cell 0 rfl
  have qG21 := G2.out.box.cell 1 rfl
  have qG30 := G3.out.box.cell 0 rfl
  have qG31 := G3.out.box.cell 1 rfl
  go_wp2_with fail
  refine HPR.out.mono ?_
  rintro e w12 ⟨P1A, P1c, rfl, hs, hb⟩
  clear k10 k11 k12 k20 k21 k22 k30 k31 k32 qG10 qG11 qG20 qG21 qG30 qG31
  clear HPR
  replace HS1 := Lib.hid (HS1.out.to hb)
  replace HS2 := Lib.hid (HS2.out.to hb)
  replace HS3 := Lib.hid (HS3.out.to hb)
  replace G1 := Lib.hid (G1.out.to hb)
  replace HH := Lib.hid (HH.out.to hb)
  replace G2 := Lib.hid (G2.out.to hb)
  replace G3 := Lib.hid (G3.out.to hb)
  replace HK0 := Lib.hid (HK0.out.to hb)
  replace HB0 := Lib.hid (HB0.out.trans (hb.mono HB0.out.size))
  have HP1 := Lib.hid hs
  clear hs hb
  go_upto_region 9 with (fail)
  obtain ⟨p1, hp1⟩ : ∃ q, q = proofP lvM.1 lvM.2 ⟨#[49]⟩ := ⟨_, rfl⟩
  have HPE := Lib.hid hp1
  rw [← hp1] at HP1 ⊢
  clear hp1
  have HPR := Lib.hid (proof_any G3A G3B G3a G3b lvM.1 lvM.2 ⟨#[50]⟩ w12 G3.out.l G3.out.n (by rw [lv_len.2.2.1, lv_len.2.2.2]) (by rw [lv_len.2.2.1]; decide) HK0.out)
  rw [lv_proof.2.2.1, lv_proof.2.2.2] at HPR
  have k10 := HS1.out.box.cell 0 rfl
  have k11 := HS1.out.box.cell 1 rfl
  have k12 := HS1.out.box.cell 2 rfl
  have k20 := HS2.out.box.cell 0 rfl
  have k21 := HS2.out.box.cell 1 rfl
  have k22 := HS2.out.box.cell 2 rfl
  have k30 := HS3.out.box.cell 0 rfl
  have k31 := HS3.out.box.cell 1 rfl
  have k32 := HS3.out.box.cell 2 rfl
  have qG10 := G1.out.box.cell 0 rfl
  have qG11 := G1.out.box.cell 1 rfl
  have qG20 := G2.out.box.cell 0 rfl
  have qG21 := G2.out.box.cell 1 rfl
  have qG30 := G3.out.box.cell 0 rfl
  have qG31 := G3.out.box.cell 1 rfl
  go_wp2_with fail
  refine HPR.out.mono ?_
  rintro e w13 ⟨P2A, P2c, rfl, hs, hb⟩
  clear k10 k11 k12 k20 k21 k22 k30 k31 k32 qG10 qG11 qG20 qG21 qG30 qG31
  clear HPR
  replace HS1 := Lib.hid (HS1.out.to hb)
  replace HS2 := Lib.hid (HS2.out.to hb)
  replace HS3 := Lib.hid (HS3.out.to hb)
  replace G1 := Lib.hid (G1.out.to hb)
  replace HH := Lib.hid (HH.out.to hb)
  replace G2 := Lib.hid (G2.out.to hb)
  replace G3 := Lib.hid (G3.out.to hb)
  replace HK0 := Lib.hid (HK0.out.to hb)
  replace HB0 := Lib.hid (HB0.out.trans (hb.mono HB0.out.size))
  have HPS := Lib.hid (HP1.out.to hb)
  clear HP1
  have HP2 := Lib.hid hs
  clear hs hb
  clear HP2
  have HP1 := HPS
  clear HPS
  go_upto_region 10 with (fail)
  obtain ⟨f1, hf1⟩ : ∃ q, q = leafOf 0 sOne := ⟨_, rfl⟩
  have HF1 := Lib.hid hf1
  have HFL : Hid (f1.length = 32) := Lib.hid (by rw [hf1]; exact sha_length _)
  have HLF := Lib.hid (leafS_any 0 sOne F1 none 1 0 w13 (by unfold I64; omega) HS1.out.b HS1.out.n (by have := lv_sizes.1; omega) HK0.out)
  rw [← hf1] at HLF
  clear hf1
  have k10 := HS1.out.box.cell 0 rfl
  have k11 := HS1.out.box.cell 1 rfl
  have k12 := HS1.out.box.cell 2 rfl
  have k20 := HS2.out.box.cell 0 rfl
  have k21 := HS2.out.box.cell 1 rfl
  have k22 := HS2.out.box.cell 2 rfl
  have k30 := HS3.out.box.cell 0 rfl
  have k31 := HS3.out.box.cell 1 rfl
  have k32 := HS3.out.box.cell 2 rfl
  have qG10 := G1.out.box.cell 0 rfl
  have qG11 := G1.out.box.cell 1 rfl
  have qG20 := G2.out.box.cell 0 rfl
  have qG21 := G2.out.box.cell 1 rfl
  have qG30 := G3.out.box.cell 0 rfl
  have qG31 := G3.out.box.cell 1 rfl
  go_wp2_with fail
  refine HLF.out.mono ?_
  rintro e w14 ⟨rfl, hb⟩
  clear k10 k11 k12 k20 k21 k22 k30 k31 k32 qG10 qG11 qG20 qG21 qG30 qG31
  clear HLF
  replace HS1 := Lib.hid (HS1.out.to hb)
  replace HS2 := Lib.hid (HS2.out.to hb)
  replace HS3 := Lib.hid (HS3.out.to hb)
  replace G1 := Lib.hid (G1.out.to hb)
  replace HH := Lib.hid (HH.out.to hb)
  replace G2 := Lib.hid (G2.out.to hb)
  replace G3 := Lib.hid (G3.out.to hb)
  replace HK0 := Lib.hid (HK0.out.to hb)
  replace HB0 := Lib.hid (HB0.out.trans (hb.mono HB0.out.size))
  replace HP1 := Lib.hid (HP1.out.to hb)
  clear hb
  have hb2 : Below w14.heap.size w14 (w14.alloc (.cells #[.int .u8 0, .int .u8 1, .int .u8 49, .int .u8 1, .int .u8 2, .int .u8 97, .int .u8 98, .int .u8 0] 5)) := (Below.refl _ _).alloc (Nat.le_refl _) _
  have hsb : Sl (w14.alloc (.cells #[.int .u8 0, .int .u8 1, .int .u8 49, .int .u8 1, .int .u8 2, .int .u8 97, .int .u8 98, .int .u8 0] 5)) (fun b => b < (w14.alloc (.cells #[.int .u8 0, .int .u8 1, .int .u8 49, .int .u8 1, .int .u8 2, .int .u8 97, .int .u8 98, .int .u8 0] 5)).heap.size) (some ⟨w14.heap.size, 0, none⟩) 8 ([0, 1, 49, 1, 2, 97, 98, 0] : List UInt8) := Sl.block (l := ([0, 1, 49, 1, 2, 97, 98, 0] : List UInt8)) (cs := #[.int .u8 0, .int .u8 1, .int .u8 49, .int .u8 1, .int .u8 2, .int .u8 97, .int .u8 98, .int .u8 0]) (te := 5) (fr := (0, 0)) (heap_alloc_new w14 _) (by simp) (by simp [maxLen]) (fun j hj => by
    have : j = 0 ∨ j = 1 ∨ j = 2 ∨ j = 3 ∨ j = 4 ∨ j = 5 ∨ j = 6 ∨ j = 7 := by simp at hj; omega
    rcases this with rfl | rfl | rfl | rfl | rfl | rfl | rfl | rfl <;> rfl)
  have HLD := Lib.hid (leaf_any [0, 1, 49, 1, 2, 97, 98, 0] (some ⟨w14.heap.size, 0, none⟩) 8 8 (w14.alloc (.cells #[.int .u8 0, .int .u8 1, .int .u8 49, .int .u8 1, .int .u8 2, .int .u8 97, .int .u8 98, .int .u8 0] 5)) hsb rfl (by decide) (HK0.out.to hb2))
  replace HS1 := Lib.hid (HS1.out.to hb2)
  replace HS2 := Lib.hid (HS2.out.to hb2)
  replace HS3 := Lib.hid (HS3.out.to hb2)
  replace G1 := Lib.hid (G1.out.to hb2)
  replace HH := Lib.hid (HH.out.to hb2)
  replace G2 := Lib.hid (G2.out.to hb2)
  replace G3 := Lib.hid (G3.out.to hb2)
  replace HK0 := Lib.hid (HK0.out.to hb2)
  replace HB0 := Lib.hid (HB0.out.trans (hb2.mono HB0.out.size))
  replace HP1 := Lib.hid (HP1.out.to hb2)
  clear hb2 hsb
  have HFE : Hid (decide (f1 = leafH [0, 1, 49, 1, 2, 97, 98, 0]) = true) := Lib.hid (by rw [HF1.out]; exact lv_leaf)
  have HFM : Hid ((leafH [0, 1, 49, 1, 2, 97, 98, 0]).length = 32) := Lib.hid (sha_length _)
  generalize leafH [0, 1, 49, 1, 2, 97, 98, 0] = f2 at *
  go_wp2_with fail
  refine HLD.out.mono ?_
  rintro e w15 ⟨rfl, hb⟩
  clear HLD
  replace HS1 := Lib.hid (HS1.out.to hb)
  replace HS2 := Lib.hid (HS2.out.to hb)
  replace HS3 := Lib.hid (HS3.out.to hb)
  replace G1 := Lib.hid (G1.out.to hb)
  replace HH := Lib.hid (HH.out.to hb)
  replace G2 := Lib.hid (G2.out.to hb)
  replace G3 := Lib.hid (G3.out.to hb)
  replace HK0 := Lib.hid (HK0.out.to hb)
  replace HB0 := Lib.hid (HB0.out.trans (hb.mono HB0.out.size))
  replace HP1 := Lib.hid (HP1.out.to hb)
  clear hb
  go_upto_region 11 with (first | (refine wpList_eqlH rfl (.tmp 52) (.tmp 54) rfl f1 f2 rfl rfl HFL.out HFM.out ?_; rw [HFE.out]) | fail)
  obtain ⟨f3, hf3⟩ : ∃ q, q = leafOf 0 sTwo := ⟨_, rfl⟩
  have HF3 := Lib.hid hf3
  have HFL3 : Hid (f3.length = 32) := Lib.hid (by rw [hf3]; exact sha_length _)
  clear hf3
  have HFN : Hid (decide (r1 = nodeH f1 f3) = true) := Lib.hid (by rw [HR1.out, HF1.out, HF3.out]; exact lv_root)
  have HNL : Hid ((nodeH f1 f3).length = 32) := Lib.hid (sha_length _)
  go_cut [15] from 56 to 74 (fun v wx => v = .bool true ∧ Hid (Below w15.heap.size w15 wx))
  case first =>
    refine wp_region_calm (by kernel_rfl) (by kernel_rfl) ?_
    intro TT hTT g hgb hgm
    have eHS10 := fun d => (HS1.out.to (hgb d)).box.cell 0 rfl
    have eHS11 := fun d => (HS1.out.to (hgb d)).box.cell 1 rfl
    have eHS12 := fun d => (HS1.out.to (hgb d)).box.cell 2 rfl
    have eHS20 := fun d => (HS2.out.to (hgb d)).box.cell 0 rfl
    have eHS21 := fun d => (HS2.out.to (hgb d)).box.cell 1 rfl
    have eHS22 := fun d => (HS2.out.to (hgb d)).box.cell 2 rfl
    have eHS30 := fun d => (HS3.out.to (hgb d)).box.cell 0 rfl
    have eHS31 := fun d => (HS3.out.to (hgb d)).box.cell 1 rfl
    have eHS32 := fun d => (HS3.out.to (hgb d)).box.cell 2 rfl
    have eG10 := fun d => (G1.out.to (hgb d)).box.cell 0 rfl
    have eG11 := fun d => (G1.out.to (hgb d)).box.cell 1 rfl
    have eG20 := fun d => (G2.out.to (hgb d)).box.cell 0 rfl
    have eG21 := fun d => (G2.out.to (hgb d)).box.cell 1 rfl
    have eG30 := fun d => (G3.out.to (hgb d)).box.cell 0 rfl
    have eG31 := fun d => (G3.out.to (hgb d)).box.cell 1 rfl
    have hgK := Lib.hid (fun d => HK0.out.to (hgb d))
    have HC1 : Hid (∀ d, Calls Tryd.prog 11 #[.int .i64 0, .agg #[.string sOne.label, .slice F1 sOne.body.length 1, .slice none sOne.notes.length 0]] (g d) fun e w' => e = .returned (hashV f1) ∧ ∃ m, w' = g m) := Lib.hid (fun d => by
      refine (leafS_any 0 sOne F1 none 1 0 (g d) (by unfold I64; omega) (HS1.out.to (hgb d)).b (HS1.out.to (hgb d)).n (by have := lv_sizes.1; omega) (hgK.out d)).mono ?_
      rintro e w' ⟨rfl, hb⟩
      exact ⟨by rw [HF1.out], hgm d w' hb⟩)
    have HC3 : Hid (∀ d, Calls Tryd.prog 11 #[.int .i64 0, .agg #[.string sTwo.label, .slice none sTwo.body.length 0, .slice F2 sTwo.notes.length 1]] (g d) fun e w' => e = .returned (hashV f3) ∧ ∃ m, w' = g m) := Lib.hid (fun d => by
      refine (leafS_any 0 sTwo none F2 0 1 (g d) (by unfold I64; omega) (HS2.out.to (hgb d)).b (HS2.out.to (hgb d)).n (by have := lv_sizes.2.1; omega) (hgK.out d)).mono ?_
      rintro e w' ⟨rfl, hb⟩
      exact ⟨by rw [HF3.out], hgm d w' hb⟩)
    have HCN : Hid (∀ d, Calls Tryd.prog 45 #[hashV f1, hashV f3] (g d) fun e w' => e = .returned (hashV (nodeH f1 f3)) ∧ ∃ m, w' = g m) := Lib.hid (fun d => by
      refine (node_any f1 f3 HFL.out HFL3.out (g d) (hgK.out d)).mono ?_
      rintro e w' ⟨rfl, hb⟩
      exact ⟨rfl, hgm d w' hb⟩)
    have HCS : Hid (∀ d, Calls Tryd.prog 16 #[.agg #[.slice G1A lvA.1.length G1a, .slice G1B lvA.2.length G1b], .agg #[.slice G2A lvA.1.length G2a, .slice G2B lvA.2.length G2b]] (g d) fun e w' => e = .returned (.bool true) ∧ ∃ m, w' = g m) := Lib.hid (fun d => by
      refine (same_any G1A G1B G2A G2B G1a G1b G2a G2b lvA.1 lvA.1 lvA.2 lvA.2 (g d) (G1.out.to (hgb d)).l (G1.out.to (hgb d)).n (G2.out.to (hgb d)).l (G2.out.to (hgb d)).n).mono ?_
      rintro e w' ⟨rfl, hb⟩
      exact ⟨by simp, hgm d w' hb⟩)
    have eH0 := fun d => (HH.out.to (hgb d)).cell 0 rfl
    have eH1 : Hid (∀ d, (g d).rangeAt HO 1 (r1.map encB)) := Lib.hid (fun d j v hv => by rw [Nat.add_comm]; exact (HH.out.to (hgb d)).cell (j + 1) (by unfold headL; rw [List.getElem?_cons_succ]; exact hv))
    have HGB := Lib.hid hgb
    have HGM := Lib.hid hgm
    have HRM : Hid ((r1.map encB).length = 32) := Lib.hid (by rw [List.length_map, HRL.out])
    clear hgb hgm
    go_big_quiet_step (fail)
    go_big_quiet_step (fail)
    go_big_quiet_step (fail)
    go_big_quiet_step (fail)
    go_big_quiet_step (fail)
    refine wpQuiet_run (by rfl) (hashV r1) ?_ ?_
    · rintro _ ⟨d, rfl⟩
      exact exec_load_mid 29 (.tmp 60) rfl HO 1 rfl (r1.map encB) _ (eH1.out d) Tryd.underlying29 rfl (by rw [HRM.out]; kernel_rfl)
    try simp only [Act.put, List.setIfInBounds_toArray, List.set_cons_zero, List.set_cons_succ]
    go_big_quiet_step (fail)
    go_big_quiet_step ((go_at_call 11; with_reducible refine Calls.mono (HC1.out _) ?_; rintro e w6 ⟨rfl, hm⟩; exact ⟨rfl, hm⟩))
    go_big_quiet_step (fail)
    go_big_quiet_step ((go_at_call 11; with_reducible refine Calls.mono (HC3.out _) ?_; rintro e w6 ⟨rfl, hm⟩; exact ⟨rfl, hm⟩))
    go_big_quiet_step ((go_at_call 45; with_reducible refine Calls.mono (HCN.out _) ?_; rintro e w6 ⟨rfl, hm⟩; exact ⟨rfl, hm⟩))
    refine wpQuiet_run (by rfl) (.bool true) ?_ ?_
    · rintro _ ⟨d, rfl⟩
      exact exec_eqlH (.tmp 61) (.tmp 66) rfl r1 (nodeH f1 f3) rfl rfl HRL.out HNL.out true HFN.out
    try simp only [Act.put, List.setIfInBounds_toArray, List.set_cons_zero, List.set_cons_succ]
    go_big_quiet_step (fail)
    go_big_quiet_step (fail)
    go_big_quiet_step (fail)
    go_big_quiet_step (fail)
    go_big_quiet_step ((go_at_call 16; with_reducible refine Calls.mono (HCS.out _) ?_; rintro e w6 ⟨rfl, hm⟩; exact ⟨rfl, hm⟩))
    go_big_quiet_step (fail)
    go_big_quiet_step (fail)
    refine wpQuiet_nil ?_
    rintro _ ⟨nq, rfl⟩
    unfold Exit.then
    try go_wp2_with fail
    go_meet
    exact ⟨rfl, Lib.hid (HGB.out nq)⟩
  case rest =>
    obtain ⟨rfl, hbc⟩ := hcut
    replace HS1 := Lib.hid (HS1.out.to hbc.out)
    replace HS2 := Lib.hid (HS2.out.to hbc.out)
    replace HS3 := Lib.hid (HS3.out.to hbc.out)
    replace G1 := Lib.hid (G1.out.to hbc.out)
    replace HH := Lib.hid (HH.out.to hbc.out)
    replace G2 := Lib.hid (G2.out.to hbc.out)
    replace G3 := Lib.hid (G3.out.to hbc.out)
    replace HK0 := Lib.hid (HK0.out.to hbc.out)
    replace HB0 := Lib.hid (HB0.out.trans (hbc.out.mono HB0.out.size))
    replace HP1 := Lib.hid (HP1.out.to hbc.out)
    clear hbc
    obtain ⟨r3, hr3⟩ : ∃ q, q = root lvM.1 := ⟨_, rfl⟩
    have HR3 := Lib.hid hr3
    have HRL3 : Hid (r3.length = 32) := Lib.hid (by rw [hr3]; exact root_length _ (h32_len G3.out.l))
    clear hr3
    go_upto_region 12 with (fail)
    refine wp_region_calm (by kernel_rfl) (by kernel_rfl) ?_
    intro TT hTT g hgb hgm
    have eHS10 := fun d => (HS1.out.to (hgb d)).box.cell 0 rfl
    have eHS11 := fun d => (HS1.out.to (hgb d)).box.cell 1 rfl
    have eHS12 := fun d => (HS1.out.to (hgb d)).box.cell 2 rfl
    have eHS20 := fun d => (HS2.out.to (hgb d)).box.cell 0 rfl
    have eHS21 := fun d => (HS2.out.to (hgb d)).box.cell 1 rfl
    have eHS22 := fun d => (HS2.out.to (hgb d)).box.cell 2 rfl
    have eHS30 := fun d => (HS3.out.to (hgb d)).box.cell 0 rfl
    have eHS31 := fun d => (HS3.out.to (hgb d)).box.cell 1 rfl
    have eHS32 := fun d => (HS3.out.to (hgb d)).box.cell 2 rfl
    have eG10 := fun d => (G1.out.to (hgb d)).box.cell 0 rfl
    have eG11 := fun d => (G1.out.to (hgb d)).box.cell 1 rfl
    have eG20 := fun d => (G2.out.to (hgb d)).box.cell 0 rfl
    have eG21 := fun d => (G2.out.to (hgb d)).box.cell 1 rfl
    have eG30 := fun d => (G3.out.to (hgb d)).box.cell 0 rfl
    have eG31 := fun d => (G3.out.to (hgb d)).box.cell 1 rfl
    have hgK := Lib.hid (fun d => HK0.out.to (hgb d))
    have HCT : Hid (∀ d, Calls Tryd.prog 17 #[.agg #[.slice G3A lvM.1.length G3a, .slice G3B lvM.2.length G3b]] (g d) fun e w' => e = .returned (.agg (headL 3 r3).toArray) ∧ ∃ m, w' = g m) := Lib.hid (fun d => by
      refine (top_any G3A G3B G3a lvM.1.length lvM.1 (g d) G3b lvM.2.length (G3.out.to (hgb d)).l rfl (by rw [lv_len.2.2.1]; decide) (hgK.out d)).mono ?_
      rintro e w' ⟨rfl, hb⟩
      exact ⟨by rw [HR3.out, lv_len.2.2.1]; rfl, hgm d w' hb⟩)
    have HCK : Hid (∀ d, Calls Tryd.prog 22 #[.agg (headL 3 r3).toArray, .int .i64 0, .agg #[.string sOther.label, .slice F3 sOther.body.length 1, .slice none sOther.notes.length 0], .int .i64 2, .slice P1A p1.length P1c] (g d) fun e w' => e = .returned (.bool true) ∧ ∃ m, w' = g m) := Lib.hid (fun d => by
      refine (check_any 3 0 2 r3 sOther F3 none P1A 1 0 P1c p1.length p1 (g d) HRL3.out (by unfold I64; omega) (HS3.out.to (hgb d)).b (HS3.out.to (hgb d)).n (by have := lv_sizes.2.2; omega) (HP1.out.to (hgb d)) rfl (hgK.out d)).mono ?_
      rintro e w' ⟨rfl, hb⟩
      exact ⟨by rw [HR3.out, HPE.out, lv_check.1], hgm d w' hb⟩)
    have HCL : Hid (∀ d, Calls Tryd.prog 22 #[.agg (headL 3 r3).toArray, .int .i64 0, .agg #[.string sOne.label, .slice F1 sOne.body.length 1, .slice none sOne.notes.length 0], .int .i64 2, .slice P1A p1.length P1c] (g d) fun e w' => e = .returned (.bool false) ∧ ∃ m, w' = g m) := Lib.hid (fun d => by
      refine (check_any 3 0 2 r3 sOne F1 none P1A 1 0 P1c p1.length p1 (g d) HRL3.out (by unfold I64; omega) (HS1.out.to (hgb d)).b (HS1.out.to (hgb d)).n (by have := lv_sizes.1; omega) (HP1.out.to (hgb d)) rfl (hgK.out d)).mono ?_
      rintro e w' ⟨rfl, hb⟩
      exact ⟨by rw [HR3.out, HPE.out, lv_check.2], hgm d w' hb⟩)
    have HGB := Lib.hid hgb
    have HGM := Lib.hid hgm
    clear hgb hgm
    go_big_quiet_step (fail)
    go_big_quiet_step (fail)
    go_big_quiet_step (fail)
    go_big_quiet_step (fail)
    go_big_quiet_step (fail)
    go_big_quiet_step (fail)
    go_big_quiet_step ((go_at_call 17; with_reducible refine Calls.mono (HCT.out _) ?_; rintro e w6 ⟨rfl, hm⟩; exact ⟨rfl, hm⟩))
    refine wpQuiet_run (by rfl) (.int .i64 3) ?_ ?_
    · rintro _ ⟨d, rfl⟩
      exact exec_hfield (.tmp 80) rfl 3 r3 rfl
    try simp only [Act.put, List.setIfInBounds_toArray, List.set_cons_zero, List.set_cons_succ]
    go_big_quiet_step (fail)
    go_big_quiet_step (fail)
    go_big_quiet_step (fail)
    go_big_quiet_step (fail)
    go_big_quiet_step (fail)
    go_big_quiet_step (fail)
    go_big_quiet_step (fail)
    go_big_quiet_step (fail)
    go_big_quiet_step (fail)
    go_big_quiet_step (fail)
    go_big_quiet_step (fail)
    go_big_quiet_step (fail)
    go_big_quiet_step (fail)
    go_big_quiet_step (fail)
    go_big_quiet_step (fail)
    go_big_quiet_step (fail)
    go_big_quiet_step (fail)
    go_big_quiet_step (fail)
    go_big_quiet_step ((go_at_call 17; with_reducible refine Calls.mono (HCT.out _) ?_; rintro e w6 ⟨rfl, hm⟩; exact ⟨rfl, hm⟩))
    go_big_quiet_step (fail)
    go_big_quiet_step (fail)
    go_big_quiet_step ((go_at_call 22; with_reducible refine Calls.mono (HCK.out _) ?_; rintro e w6 ⟨rfl, hm⟩; exact ⟨rfl, hm⟩))
    go_big_quiet_step (fail)
    go_big_quiet_step (fail)
    go_big_quiet_step (fail)
    go_big_quiet_step ((go_at_call 17; with_reducible refine Calls.mono (HCT.out _) ?_; rintro e w6 ⟨rfl, hm⟩; exact ⟨rfl, hm⟩))
    go_big_quiet_step (fail)
    go_big_quiet_step (fail)
    go_big_quiet_step ((go_at_call 22; with_reducible refine Calls.mono (HCL.out _) ?_; rintro e w6 ⟨rfl, hm⟩; exact ⟨rfl, hm⟩))
    go_big_quiet_step (fail)
    go_big_quiet_step (fail)
    go_big_quiet_step (fail)
    refine wpQuiet_nil ?_
    rintro _ ⟨nq, rfl⟩
    unfold Exit.then
    try go_wp2_with fail
    go_ret
    exact ⟨rfl, HB0.out.trans ((HGB.out nq).mono HB0.out.size)⟩

end Go.Proofs.YthcklfelofpffaaDoor
namespace Go.Proofs.YthcklfelofpffaaDoor
open Go.RowKit
instance : Rep Int where
  size := 1
  R _ _ cs n := cs = [.int .i64 n] ∧ I64 n
  len := by rintro w S cs s ⟨rfl, _⟩; rfl
  one := by rintro w S cs s ⟨rfl, _⟩ u hu; simp at hu; rcases hu with rfl; rfl
  keep := by rintro w w' S cs s h _; exact h
  mono := by rintro w S S' cs s h _; exact h
theorem int_at {w : World} {S : Nat → Prop} {A : Option Addr} {c : Nat} {l : List Int} (h : Sl w S A c l) {k : Nat} (hk : k < l.length) :
    ∃ b o, A = some ⟨b, o, none⟩ ∧ S b ∧ b < w.heap.size ∧ I64 l[k] ∧ w.cell? ⟨b, o + k, none⟩ = some (.int .i64 l[k]) := by
  obtain ⟨b, o, es, rfl, hb, hlt, ⟨rfl, hok⟩, hc⟩ := h.at_ hk
  have := hc 0 _ rfl
  exact ⟨b, o, rfl, hb, hlt, hok, by simpa [Rep.size] using this⟩
/-- Around of the references. -/
def aro (n m : Int) : Int := (if n < 0 then -(n + 1) else n) % m
theorem aro_lt (n m : Int) (h : 1 ≤ m) : 0 ≤ aro n m ∧ aro n m < m := ⟨Int.emod_nonneg _ (by omega), Int.emod_lt_of_pos _ (by omega)⟩
set_option maxHeartbeats 400000 in
theorem around_any (n m : Int) (w : World) (hn : I64 n) (hm : 1 ≤ m) (hm2 : m ≤ 9223372036854775807) :
    Calls Tryd.prog 25 #[.int .i64 n, .int .i64 m] w fun e w' => e = .returned (.int .i64 (aro n m)) ∧ w = w' := by
  obtain ⟨h0, h1⟩ := hn
  go_enter Tryd.func25, Tryd.ntmps25
  by_cases h : n < 0
  · have e : aro n m = (-(n + 1)) % m := by unfold aro; rw [if_pos h]
    have E := Lib.hid e
    clear e
    have hp : 0 ≤ -(n + 1) := by omega
    go_wp2
    go_ret
    refine ⟨ret_int ?_, rfl⟩
    rw [E.out]
    rw [← Int.neg_tmod, Int.tmod_eq_emod_of_nonneg hp]
  · have e : aro n m = n % m := by unfold aro; rw [if_neg h]
    have E := Lib.hid e
    clear e
    go_wp2
    go_ret
    exact ⟨ret_int (by rw [E.out]), rfl⟩

theorem lit_at (l : List ByteArray) (j m : Nat) (h : l.all (fun x => decide (x.size ≤ m)) = true) (hj : j < l.length) : ∃ s, (l.map Value.string)[j]? = some (.string s) ∧ s.size ≤ m :=
  ⟨l[j], by simp [hj], by have := (List.all_eq_true.1 h) _ (List.getElem_mem hj); simpa using this⟩
def labels : List ByteArray := [⟨#[49]⟩, ⟨#[50]⟩, ⟨#[50, 97]⟩, ⟨#[51]⟩, ⟨#[52]⟩, ⟨#[52, 97]⟩, ⟨#[52, 98]⟩, ⟨#[53]⟩]
def phrases : List ByteArray := [⟨#[116, 104, 101, 32, 99, 111, 117, 114, 116]⟩, ⟨#[]⟩, ⟨#[111, 110, 101, 32, 91, 52, 48, 93, 32, 116, 104, 114, 101, 101]⟩, ⟨#[115, 111, 32, 111, 114, 100, 101, 114, 101, 100, 46]⟩]
theorem labels_ok : labels.all (fun x => decide (x.size ≤ 2)) = true := by decide +kernel
theorem phrases_ok : phrases.all (fun x => decide (x.size ≤ 14)) = true := by decide +kernel
/-- A sheet that is being filled: its variable, its two rows, the literal of phrases. -/
structure SS (w0 wr : World) (O Wb : Nat) (lab : ByteArray) (v1 v2 : Value) (body notes : List ByteArray) : Prop where
  box : ABox wr O 24 [.string lab, v1, v2]
  b : Own wr w0.heap.size 9 v1 body
  n : Own wr w0.heap.size 9 v2 notes
  w : ABox wr Wb 9 (phrases.map Value.string)
  ob : w0.heap.size ≤ O
  wb : w0.heap.size ≤ Wb
  ow : O ≠ Wb
  o1 : some O ≠ v1.ownBlock
  o2 : some O ≠ v2.ownBlock
  w1 : some Wb ≠ v1.ownBlock
  w2 : some Wb ≠ v2.ownBlock
  dj : ∀ g, v1.ownBlock = some g → v2.ownBlock ≠ some g
  bb : Below w0.heap.size w0 wr
section
variable {w0 wr w5 : World} {O Wb : Nat} {lab : ByteArray} {v1 v2 : Value} {body notes : List ByteArray}
theorem SS.drew (h : SS w0 wr O Wb lab v1 v2 body notes) : SS w0 wr.drew O Wb lab v1 v2 body notes :=
  ⟨h.box, h.b.drew, h.n.drew, h.w, h.ob, h.wb, h.ow, h.o1, h.o2, h.w1, h.w2, h.dj, h.bb.drew⟩
theorem SS.push1 (h : SS w0 wr O Wb lab v1 v2 body notes) {lit : Obj} {x : ByteArray} {g m cap : Nat} (hown : Own w5 w0.heap.size 9 (.slice (some ⟨g, 0, none⟩) m cap) (body ++ [x])) (hg : (wr.alloc lit).grownBy w5 v1.ownBlock) (hat : v1.ownBlock = some g ∨ g = (wr.alloc lit).heap.size) :
    SS w0 (w5.setCell ⟨O, 1, none⟩ (.slice (some ⟨g, 0, none⟩) m cap)) O Wb lab (.slice (some ⟨g, 0, none⟩) m cap) v2 (body ++ [x]) notes ∧ ABox w5 O 24 [.string lab, v1, v2] := by
  have hsz : (wr.alloc lit).heap.size = wr.heap.size + 1 := by simp
  have keep : ∀ y, y < wr.heap.size → some y ≠ v1.ownBlock → w5.heap[y]? = wr.heap[y]? := fun y hy hne => (hg.block y (by omega) hne).trans (Below.heap_alloc wr lit y hy)
  have hO5 : ABox w5 O 24 [.string lab, v1, v2] := (keep O h.box.lt h.o1).trans h.box
  have hgO : O ≠ g := fun e => by rcases hat with e2 | e2; exact h.o1 (by rw [e2, e]); have := h.box.lt; omega
  have hgW : Wb ≠ g := fun e => by rcases hat with e2 | e2; exact h.w1 (by rw [e2, e]); have := h.w.lt; omega
  have hg2 : ∀ y, v2.ownBlock = some y → y ≠ g := fun y hy e => by
    rcases hat with e2 | e2
    · exact h.dj g e2 (by rw [hy, e])
    · have := (h.n.lt y hy).2; omega
  refine ⟨⟨hO5.set 1 _, ?_, ?_, ?_, h.ob, h.wb, h.ow, ?_, h.o2, ?_, h.w2, ?_, ?_⟩, hO5⟩
  · exact own_keepS hown (fun y hy => heap_set _ _ _ _ (fun e => hgO (by simp [Value.ownBlock] at hy; omega)))
  · exact own_keepS h.n (fun y hy => (heap_set _ _ _ _ (fun e => h.o2 (by rw [hy, e]))).trans (keep y (h.n.lt y hy).2 (fun e => h.dj y e.symm hy)))
  · unfold ABox; rw [heap_set _ _ _ _ (Ne.symm h.ow), keep Wb h.w.lt h.w1]; exact h.w
  · intro e; simp [Value.ownBlock] at e; exact hgO e
  · intro e; simp [Value.ownBlock] at e; exact hgW e
  · intro y hy e; simp [Value.ownBlock] at hy; exact hg2 y e hy.symm
  · refine Below.setCell (p := ⟨O, 1, none⟩) ?_ h.ob _
    refine (h.bb.alloc h.bb.size lit).grown hg (by have := h.bb.size; omega) (fun k hk => (h.b.lt k hk).1)
theorem SS.push2 (h : SS w0 wr O Wb lab v1 v2 body notes) {lit : Obj} {x : ByteArray} {g m cap : Nat} (hown : Own w5 w0.heap.size 9 (.slice (some ⟨g, 0, none⟩) m cap) (notes ++ [x])) (hg : (wr.alloc lit).grownBy w5 v2.ownBlock) (hat : v2.ownBlock = some g ∨ g = (wr.alloc lit).heap.size) :
    SS w0 (w5.setCell ⟨O, 2, none⟩ (.slice (some ⟨g, 0, none⟩) m cap)) O Wb lab v1 (.slice (some ⟨g, 0, none⟩) m cap) body (notes ++ [x]) ∧ ABox w5 O 24 [.string lab, v1, v2] := by
  have hsz : (wr.alloc lit).heap.size = wr.heap.size + 1 := by simp
  have keep : ∀ y, y < wr.heap.size → some y ≠ v2.ownBlock → w5.heap[y]? = wr.heap[y]? := fun y hy hne => (hg.block y (by omega) hne).trans (Below.heap_alloc wr lit y hy)
  have hO5 : ABox w5 O 24 [.string lab, v1, v2] := (keep O h.box.lt h.o2).trans h.box
  have hgO : O ≠ g := fun e => by rcases hat with e2 | e2; exact h.o2 (by rw [e2, e]); have := h.box.lt; omega
  have hgW : Wb ≠ g := fun e => by rcases hat with e2 | e2; exact h.w2 (by rw [e2, e]); have := h.w.lt; omega
  have hg2 : ∀ y, v1.ownBlock = some y → y ≠ g := fun y hy e => by
    rcases hat with e2 | e2
    · exact h.dj y hy (by rw [e2, e])
    · have := (h.b.lt y hy).2; omega
  refine ⟨⟨hO5.set 2 _, ?_, ?_, ?_, h.ob, h.wb, h.ow, h.o1, ?_, h.w1, ?_, ?_, ?_⟩, hO5⟩
  · exact own_keepS h.b (fun y hy => (heap_set _ _ _ _ (fun e => h.o1 (by rw [hy, e]))).trans (keep y (h.b.lt y hy).2 (fun e => h.dj y hy e.symm)))
  · exact own_keepS hown (fun y hy => heap_set _ _ _ _ (fun e => hgO (by simp [Value.ownBlock] at hy; omega)))
  · unfold ABox; rw [heap_set _ _ _ _ (Ne.symm h.ow), keep Wb h.w.lt h.w2]; exact h.w
  · intro e; simp [Value.ownBlock] at e; exact hgO e
  · intro e; simp [Value.ownBlock] at e; exact hgW e
  · intro y hy e; simp [Value.ownBlock] at e; exact hg2 y hy e.symm
  · refine Below.setCell (p := ⟨O, 2, none⟩) ?_ h.ob _
    refine (h.bb.alloc h.bb.size lit).grown hg (by have := h.bb.size; omega) (fun k hk => (h.n.lt k hk).1)
end
end Go.Proofs.YthcklfelofpffaaDoor
