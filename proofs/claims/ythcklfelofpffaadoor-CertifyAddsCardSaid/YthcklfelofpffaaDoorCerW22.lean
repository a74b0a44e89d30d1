/- Same, Top, Proof, Check. No condition but sizes and what the table holds. -/
import Derived.Test.YthcklfelofpffaaDoorCerW21
namespace Go.Proofs.YthcklfelofpffaaDoor
open Go.RowKit
theorem list32 {α : Type} (l : List α) (h : l.length = 32) : ∃ x0 x1 x2 x3 x4 x5 x6 x7 x8 x9 x10 x11 x12 x13 x14 x15 x16 x17 x18 x19 x20 x21 x22 x23 x24 x25 x26 x27 x28 x29 x30 x31, l = [x0, x1, x2, x3, x4, x5, x6, x7, x8, x9, x10, x11, x12, x13, x14, x15, x16, x17, x18, x19, x20, x21, x22, x23, x24, x25, x26, x27, x28, x29, x30, x31] := by
  match l, h with
  | [x0, x1, x2, x3, x4, x5, x6, x7, x8, x9, x10, x11, x12, x13, x14, x15, x16, x17, x18, x19, x20, x21, x22, x23, x24, x25, x26, x27, x28, x29, x30, x31], _ => exact ⟨_, _, _, _, _, _, _, _, _, _, _, _, _, _, _, _, _, _, _, _, _, _, _, _, _, _, _, _, _, _, _, _, rfl⟩
/-- A head's cells. -/
def headL (n : Int) (r : List UInt8) : List Value := .int .i64 n :: r.map encB
def headV (n : Int) (r : List UInt8) : Value := .agg (headL n r).toArray
def zhead : List Value := .int .i64 0 :: zer32.map encB
theorem head_built (n : Int) (r : List UInt8) (h : r.length = 32) : Tryd.prog.built 40 [(0, .int .i64 n), (1, hashV r)] = some (headL n r).toArray := by
  obtain ⟨x0, x1, x2, x3, x4, x5, x6, x7, x8, x9, x10, x11, x12, x13, x14, x15, x16, x17, x18, x19, x20, x21, x22, x23, x24, x25, x26, x27, x28, x29, x30, x31, rfl⟩ := list32 r h
  kernel_rfl
theorem wp_built {P : Program} {o : Oper} {a : Act} {w : World} {K : Act → World → Prop} {Q : Exit → Act → World → Prop} (t : TypeId) (parts : List (Nat × Operand)) (ho : o.op = .build t parts.toArray) (l : List (Nat × Value)) (hl : parts.map (fun x => (x.1, a.eval x.2)) = l) (cs : Array Value) (hb : P.built t l = some cs)
    (h : K (a.put o.dst (.agg cs)) w) : o.wp P a w K Q := by
  have e : (parts.toArray.map fun (i, x) => (i, a.eval x)).toList = l := by rw [List.map_toArray]; exact hl
  refine wp_build t parts.toArray ho ?_ ?_
  · rw [e, hb]; rfl
  · rw [e, hb]; exact h
set_option maxRecDepth 100000 in
set_option maxHeartbeats 4000000 in
theorem same_any (A B C D : Option Addr) (ca cb cc cd : Nat) (L L2 : List H32) (N N2 : List ByteArray) (w : World) (hl : Sl w (fun b => b < w.heap.size) A ca L) (hn : Sl w (fun b => b < w.heap.size) B cb N)
    (hl2 : Sl w (fun b => b < w.heap.size) C cc L2) (hn2 : Sl w (fun b => b < w.heap.size) D cd N2) :
    Calls Tryd.prog 16 #[.agg #[.slice A L.length ca, .slice B N.length cb], .agg #[.slice C L2.length cc, .slice D N2.length cd]] w fun e w' => e = .returned (.bool (decide (L = L2 ∧ N = N2))) ∧ Below w.heap.size w w' := by
  have hba : Below w.heap.size w ((w.alloc (.cells #[.slice A L.length ca, .slice B N.length cb] 36)).alloc (.cells #[.slice C L2.length cc, .slice D N2.length cd] 36)) := ((Below.refl _ _).alloc (Nat.le_refl _) _).alloc (by simp) _
  have HX1 : Hid (ABox ((w.alloc (.cells #[.slice A L.length ca, .slice B N.length cb] 36)).alloc (.cells #[.slice C L2.length cc, .slice D N2.length cd] 36)) w.heap.size 36 [.slice A L.length ca, .slice B N.length cb]) := Lib.hid (by
    unfold ABox; rw [Below.heap_alloc _ _ _ (by simp)]; exact heap_alloc_new w _)
  have HX2 : Hid (ABox ((w.alloc (.cells #[.slice A L.length ca, .slice B N.length cb] 36)).alloc (.cells #[.slice C L2.length cc, .slice D N2.length cd] 36)) (w.heap.size + 1) 36 [.slice C L2.length cc, .slice D N2.length cd]) := Lib.hid (heap_at (by simp))
  have HB := Lib.hid hba
  have HSH := Lib.hid (same_hashes A C ca cc _ _ L L2 _ (hl.to hba) (hl2.to hba) rfl rfl)
  have HSS := Lib.hid (fun w' (h : Below _ _ w') => same_strings B D cb cd N N2 w' ((hn.to hba).to h) ((hn2.to hba).to h))
  clear hba hl hn hl2 hn2
  go_enter Tryd.func16, Tryd.ntmps16
  go_upto_region 1 with (fail)
  generalize ((w.alloc (.cells #[.slice A L.length ca, .slice B N.length cb] 36)).alloc (.cells #[.slice C L2.length cc, .slice D N2.length cd] 36)) = w1 at *
  have k0 := HX1.out.cell 0 rfl
  have k1 := HX2.out.cell 0 rfl
  by_cases h1 : L = L2
  · have HT : Hid (decide (L = L2) = true) := Lib.hid (decide_eq_true h1)
    have HT2 : Hid (decide (L = L2 ∧ N = N2) = decide (N = N2)) := Lib.hid (by simp [h1])
    have Hh1 := Lib.hid h1
    clear h1
    rw [HT.out] at HSH
    go_wp2_with fail
    refine HSH.out.mono ?_
    rintro e w2 ⟨rfl, hb2⟩
    have k2 := (HX1.out.to hb2).cell 1 rfl
    have k3 := (HX2.out.to hb2).cell 1 rfl
    have HB2 := Lib.hid hb2
    clear k0 k1 hb2
    go_wp2_with fail
    refine (HSS.out w2 HB2.out).mono ?_
    rintro e w3 ⟨rfl, hb3⟩
    go_wp2_with fail
    go_ret
    exact ⟨ret_bool HT2.out.symm, HB.out.trans ((HB2.out.trans (hb3.mono HB2.out.size)).mono HB.out.size)⟩
  · have HT : Hid (decide (L = L2) = false) := Lib.hid (decide_eq_false h1)
    have HT2 : Hid (decide (L = L2 ∧ N = N2) = false) := Lib.hid (by simp [h1])
    clear h1
    rw [HT.out] at HSH
    go_wp2_with fail
    refine HSH.out.mono ?_
    rintro e w2 ⟨rfl, hb2⟩
    go_wp2_with fail
    go_ret
    exact ⟨ret_bool HT2.out.symm, HB.out.trans (hb2.mono HB.out.size)⟩
/-- The head of a ledger. -/
theorem headL_one (n : Int) (r : List UInt8) : (headL n r).toArray.all (·.oneCell') = true := by
  unfold headL
  have h := hash_all r
  simp only [List.all_toArray, List.all_cons, Bool.and_eq_true] at h ⊢
  exact ⟨rfl, h⟩
set_option maxRecDepth 100000 in
set_option maxHeartbeats 4000000 in
theorem top_any (A B : Option Addr) (ca n : Nat) (L : List H32) (w : World) (cb nb : Nat) (hl : Sl w (fun b => b < w.heap.size) A ca L) (hn : L.length = n) (hs : n ≤ 1073741824) (hK : KLaid w) :
    Calls Tryd.prog 17 #[.agg #[.slice A n ca, .slice B nb cb]] w fun e w' => e = .returned (headV n (root L)) ∧ Below w.heap.size w w' := by
  have HRL : Hid ((root L).length = 32) := Lib.hid (root_length _ (h32_len hl))
  have hba : Below w.heap.size w ((w.alloc (.cells #[.slice A n ca, .slice B nb cb] 36)).alloc (.cells zhead.toArray 40)) := ((Below.refl _ _).alloc (Nat.le_refl _) _).alloc (by simp) _
  have HX1 : Hid (ABox ((w.alloc (.cells #[.slice A n ca, .slice B nb cb] 36)).alloc (.cells zhead.toArray 40)) w.heap.size 36 [.slice A n ca, .slice B nb cb]) := Lib.hid (by
    unfold ABox; rw [Below.heap_alloc _ _ _ (by simp)]; exact heap_alloc_new w _)
  have HR2 : Hid (ABox ((w.alloc (.cells #[.slice A n ca, .slice B nb cb] 36)).alloc (.cells zhead.toArray 40)) (w.heap.size + 1) 40 zhead) := Lib.hid (heap_at (by simp))
  have HB := Lib.hid hba
  have HRT := Lib.hid (fun W (h : Below _ _ W) => root_any L A n ca W ((hl.to hba).to h) hn hs ((hK.to hba).to h))
  clear hba hl hn hK
  have HBU := Lib.hid (head_built n (root L) HRL.out)
  have HSZ : Hid ((headL n (root L)).toArray.size = 33) := Lib.hid (by unfold headL; simp [HRL.out])
  have HONE := Lib.hid (headL_one n (root L))
  have HRE : Hid (headV n (root L) = .agg (headL n (root L)).toArray) := Lib.hid rfl
  generalize root L = r at *
  go_enter Tryd.func17, Tryd.ntmps17
  go_upto_region 1 with (fail)
  generalize hw1 : World.alloc (World.alloc w _) _ = w1
  have hw2 : ((w.alloc (.cells #[.slice A n ca, .slice B nb cb] 36)).alloc (.cells zhead.toArray 40)) = w1 := hw1
  rw [hw2] at HX1 HR2 HB HRT
  clear hw1 hw2
  refine wp_region_D (fun w' => w'.cell? ⟨w.heap.size, 0, none⟩ = some (.slice A n ca)) (fun i => decide (i < 6)) (by kernel_rfl) ?_
  have hb0 : Hid (Below w1.heap.size w1 w1.drew) := Lib.hid (Below.refl _ _).drew
  generalize w1.drew = W0 at *
  refine wpAnyE_take (i := 0) (oi := ⟨some 3, Op.fieldAddr 36 (Operand.tmp 1) 0, 0, _, _, _⟩) (v := ?_) rfl (by kernel_rfl) (by kernel_rfl) (by kernel_rfl) (by kernel_rfl) (by kernel_rfl) (fun _ _ _ h => h) (by rfl) ?hykr1_1 (((HX1.out.to hb0.out).cell 0 rfl)) ?hrkr1_1
  case hykr1_1 => (intro wS hSw; (try dsimp only at hSw); go_simp; (try with_reducible rfl))
  all_goals try simp only [Act.put, List.setIfInBounds_toArray, List.set_cons_zero, List.set_cons_succ]
  refine wpAnyE_take (i := 1) (oi := ⟨some 4, Op.load 34 (Operand.tmp 3), 34, _, _, _⟩) (v := ?_) rfl (by kernel_rfl) (by kernel_rfl) (by kernel_rfl) (by kernel_rfl) (by kernel_rfl) (fun _ _ _ h => h) (by rfl) ?hykr1_2 (((HX1.out.to hb0.out).cell 0 rfl)) ?hrkr1_2
  case hykr1_2 => (intro wS hSw; (try dsimp only at hSw); go_simp; (try with_reducible rfl))
  all_goals try simp only [Act.put, List.setIfInBounds_toArray, List.set_cons_zero, List.set_cons_succ]
  refine wpAnyE_take (i := 2) (oi := ⟨some 5, Op.call { callee := Callee.builtin Builtin.len, args := #[Operand.tmp 4], argTypes := #[34] }, 3, _, _, _⟩) (v := ?_) rfl (by kernel_rfl) (by kernel_rfl) (by kernel_rfl) (by kernel_rfl) (by kernel_rfl) (fun _ _ _ h => h) (by rfl) ?hykr1_3 (((HX1.out.to hb0.out).cell 0 rfl)) ?hrkr1_3
  case hykr1_3 => (intro wS hSw; (try dsimp only at hSw); go_simp; (try with_reducible rfl))
  all_goals try simp only [Act.put, List.setIfInBounds_toArray, List.set_cons_zero, List.set_cons_succ]
  refine wpAnyE_take (i := 3) (oi := ⟨some 6, Op.fieldAddr 36 (Operand.tmp 1) 0, 0, _, _, _⟩) (v := ?_) rfl (by kernel_rfl) (by kernel_rfl) (by kernel_rfl) (by kernel_rfl) (by kernel_rfl) (fun _ _ _ h => h) (by rfl) ?hykr1_4 (((HX1.out.to hb0.out).cell 0 rfl)) ?hrkr1_4
  case hykr1_4 => (intro wS hSw; (try dsimp only at hSw); go_simp; (try with_reducible rfl))
  all_goals try simp only [Act.put, List.setIfInBounds_toArray, List.set_cons_zero, List.set_cons_succ]
  refine wpAnyE_take (i := 4) (oi := ⟨some 7, Op.load 34 (Operand.tmp 6), 34, _, _, _⟩) (v := ?_) rfl (by kernel_rfl) (by kernel_rfl) (by kernel_rfl) (by kernel_rfl) (by kernel_rfl) (fun _ _ _ h => h) (by rfl) ?hykr1_5 (((HX1.out.to hb0.out).cell 0 rfl)) ?hrkr1_5
  case hykr1_5 => (intro wS hSw; (try dsimp only at hSw); go_simp; (try with_reducible rfl))
  all_goals try simp only [Act.put, List.setIfInBounds_toArray, List.set_cons_zero, List.set_cons_succ]
  refine wpAnyD_one (i := 5) (oi := ⟨some 8, Op.call { callee := Callee.value (Operand.func 31), args := #[Operand.tmp 7], argTypes := #[34] }, 29, _, _, _⟩) rfl (by kernel_rfl) (by rfl) (fun K hK => ?_)
  go_simp
  go_at_call 31
  refine (HRT.out W0 hb0.out).mono ?_
  rintro e W2 ⟨rfl, hb2⟩
  have hbb := Lib.hid (hb0.out.trans (hb2.mono hb0.out.size))
  go_simp
  refine hK _ _ (fun _ => ?_) ?_
  · exact ((HX1.out.to hbb.out).cell 0 rfl)
  clear hK K
  try simp only [Act.put, List.setIfInBounds_toArray, List.set_cons_zero, List.set_cons_succ]
  refine wpAnyD_one (i := 6) (oi := ⟨some 9, Op.build 40 #[(0, Operand.tmp 5), (1, Operand.tmp 8)], 40, _, _, _⟩) rfl (by kernel_rfl) (by rfl) (fun K hK => ?_)
  refine wp_built 40 [(0, .tmp 5), (1, .tmp 8)] rfl [(0, .int .i64 (n : Int)), (1, hashV r)] rfl _ HBU.out ?_
  refine hK _ _ (fun h => absurd h (by decide)) ?_
  clear hK K
  try simp only [Act.put, List.setIfInBounds_toArray, List.set_cons_zero, List.set_cons_succ]
  refine wpAnyD_one (i := 7) (oi := ⟨none, Op.store 40 (Operand.tmp 2) (Operand.tmp 9), 0, _, _, _⟩) rfl (by kernel_rfl) (by rfl) (fun K hK => ?_)
  have hq := (HR2.out.to hbb.out)
  unfold ABox at hq
  refine wp_store_row 40 (.tmp 2) (.tmp 9) rfl (w.heap.size + 1) (headL n r).toArray ?_ ?_ 40 zhead.toArray hq (by rw [HSZ.out]; kernel_rfl) (by rw [HSZ.out]; rfl) HONE.out ?_
  · rfl
  · rfl
  refine hK _ _ (fun h => absurd h (by decide)) ?_
  clear hK K
  try simp only [Act.put]
  refine wpAnyD_done (by kernel_rfl) ?_ _
  have HX := Lib.hid (setRow_heap _ (w.heap.size + 1) _ (headL n r).toArray _ _ hq)
  unfold Exit.then
  go_wp2_with fail
  exact bodyPost_ret (v := .agg (headL n r).toArray) (results_cell_row Tryd.results17 _ _ (w.heap.size + 1) _ _ (0, 0) _ rfl HX.out Tryd.underlying40 rfl (by rw [HSZ.out]; kernel_rfl)) rfl ⟨by rw [HRE.out], below_setRow (HB.out.trans (hbb.out.mono HB.out.size)) (by omega) _⟩
/-- The proof for a label. -/
def proofI (N : List ByteArray) (x : ByteArray) : Int := if lastIx N x < 0 then 0 else lastIx N x
def proofP (L : List H32) (N : List ByteArray) (x : ByteArray) : List H32 := if lastIx N x < 0 then [] else pathH L (lastIx N x).toNat
def proofB (N : List ByteArray) (x : ByteArray) : Bool := !decide (lastIx N x < 0)
set_option maxRecDepth 100000 in
set_option maxHeartbeats 4000000 in
theorem proof_any (A B : Option Addr) (ca cb : Nat) (L : List H32) (N : List ByteArray) (x : ByteArray) (w : World) (hl : Sl w (fun b => b < w.heap.size) A ca L) (hn : Sl w (fun b => b < w.heap.size) B cb N) (hln : L.length = N.length) (hs : L.length ≤ 1048576) (hK : KLaid w) :
    Calls Tryd.prog 21 #[.agg #[.slice A L.length ca, .slice B N.length cb], .string x] w fun e w' => ∃ A' c', e = .returned (.tuple #[.int .i64 (proofI N x), .slice A' (proofP L N x).length c', .bool (proofB N x)]) ∧ Sl w' (fun b => b < w'.heap.size) A' c' (proofP L N x) ∧ Below w.heap.size w w' := by
  have hba : Below w.heap.size w (w.alloc (.cells #[.slice A L.length ca, .slice B N.length cb] 36)) := (Below.refl _ _).alloc (Nat.le_refl _) _
  have HX1 : Hid (ABox (w.alloc (.cells #[.slice A L.length ca, .slice B N.length cb] 36)) w.heap.size 36 [.slice A L.length ca, .slice B N.length cb]) := Lib.hid (heap_alloc_new w _)
  have HB := Lib.hid hba
  have HLA := Lib.hid (last_any A B L.length ca cb _ N x _ (hn.to hba) rfl (by omega))
  have HPA := Lib.hid (fun k (hk : k < L.length) W (h : Below _ _ W) => path_any L A _ ca k W ((hl.to hba).to h) rfl hs hk ((hK.to hba).to h))
  have HLN := Lib.hid hln
  clear hba hl hn hK hln
  go_enter Tryd.func21, Tryd.ntmps21
  go_upto_region 1 with (fail)
  generalize (w.alloc (.cells #[.slice A L.length ca, .slice B N.length cb] 36)) = w1 at *
  have k0 := HX1.out.cell 0 rfl
  have k1 := HX1.out.cell 1 rfl
  go_wp2_with fail
  refine HLA.out.mono ?_
  rintro e w2 ⟨rfl, hb2⟩
  have HB2 := Lib.hid hb2
  clear k0 k1 hb2 HLA
  rcases lastIx_cases N x with hc | ⟨j, hj, hc⟩
  · have HE : Hid (proofI N x = 0 ∧ proofP L N x = [] ∧ proofB N x = false) := Lib.hid (by unfold proofI proofP proofB; rw [hc]; exact ⟨rfl, rfl, rfl⟩)
    rw [hc]
    clear hc
    go_wp2_with fail
    go_ret3
    exact ⟨none, 0, by rw [HE.out.1, HE.out.2.1, HE.out.2.2]; rfl, by rw [HE.out.2.1]; exact Sl.nil _ _ _ _ (by decide), HB.out.trans (HB2.out.mono HB.out.size)⟩
  · have HE : Hid (proofI N x = (j : Int) ∧ proofP L N x = pathH L j ∧ proofB N x = true) := Lib.hid (by
      have hq : ¬ (j : Int) < 0 := by omega
      unfold proofI proofP proofB; rw [hc, if_neg hq, if_neg hq, Int.toNat_natCast]; exact ⟨rfl, rfl, by simp [hq]⟩)
    rw [hc]
    clear hc
    have k2 := (HX1.out.to HB2.out).cell 0 rfl
    have HP := Lib.hid (HPA.out j (by have := HLN.out; omega) w2 HB2.out)
    have hj0 : ¬ (j : Int) < 0 := by omega
    clear HPA HX1
    go_wp2_with fail
    refine HP.out.mono ?_
    rintro e w3 ⟨A', c', rfl, hs3, hb3⟩
    have HS3 := Lib.hid hs3
    have HB3 := Lib.hid hb3
    clear hs3 hb3 k2
    go_wp2_with fail
    go_ret3
    exact ⟨A', c', by rw [HE.out.1, HE.out.2.1, HE.out.2.2]; rfl, by rw [HE.out.2.1]; exact HS3.out, HB.out.trans ((HB2.out.trans (HB3.out.mono HB2.out.size)).mono HB.out.size)⟩
/-- A proof is verified. -/
def checkP (n : Int) (r : List UInt8) (branch : Int) (s : Sheet) (i : Int) (p : List H32) : Bool := includesP r n i (leafOf branch s) p
set_option maxRecDepth 100000 in
set_option maxHeartbeats 4000000 in
theorem check_any (n branch i : Int) (r : List UInt8) (s : Sheet) (A B C : Option Addr) (c d cp N : Nat) (p : List H32) (w : World) (hr : r.length = 32) (hbr : I64 branch) (ha : Sl w (fun b => b < w.heap.size) A c s.body) (hb : Sl w (fun b => b < w.heap.size) B d s.notes) (hsz : (sheetB branch s).length ≤ 1073740000)
    (hp : Sl w (fun b => b < w.heap.size) C cp p) (hN : p.length = N) (hK : KLaid w) :
    Calls Tryd.prog 22 #[headV n r, .int .i64 branch, .agg #[.string s.label, .slice A s.body.length c, .slice B s.notes.length d], .int .i64 i, .slice C N cp] w fun e w' => e = .returned (.bool (checkP n r branch s i p)) ∧ Below w.heap.size w w' := by
  have hN2 : N ≤ 9223372036854775807 := by have h1 := hp.1; have h2 := hp.2.1; unfold maxLen at h2; omega
  have hba : Below w.heap.size w ((w.alloc (.cells (headL n r).toArray 40)).alloc (.cells #[.string s.label, .slice A s.body.length c, .slice B s.notes.length d] 24)) := ((Below.refl _ _).alloc (Nat.le_refl _) _).alloc (by simp) _
  have HX1 : Hid (ABox ((w.alloc (.cells (headL n r).toArray 40)).alloc (.cells #[.string s.label, .slice A s.body.length c, .slice B s.notes.length d] 24)) w.heap.size 40 (headL n r)) := Lib.hid (by
    unfold ABox; rw [Below.heap_alloc _ _ _ (by simp)]; exact heap_alloc_new w _)
  have HX2 : Hid (ABox ((w.alloc (.cells (headL n r).toArray 40)).alloc (.cells #[.string s.label, .slice A s.body.length c, .slice B s.notes.length d] 24)) (w.heap.size + 1) 24 [.string s.label, .slice A s.body.length c, .slice B s.notes.length d]) := Lib.hid (heap_at (by simp))
  have HB := Lib.hid hba
  have HLF := Lib.hid (fun W (h : Below _ _ W) => leafS_any branch s A B c d W hbr ((ha.to hba).to h) ((hb.to hba).to h) hsz ((hK.to hba).to h))
  have HIN := Lib.hid (fun W (h : Below _ _ W) => includes_any r (leafOf branch s) hr (sha_length _) n i C cp N p W ((hp.to hba).to h) hN hN2 ((hK.to hba).to h))
  have HRM : Hid ((r.map encB).length = 32) := Lib.hid (by rw [List.length_map, hr])
  have HCE : Hid (checkP n r branch s i p = includesP r n i (leafOf branch s) p) := Lib.hid rfl
  clear hba ha hb hp hN hK hsz hbr hr
  unfold headV
  rw [HCE.out]
  generalize leafOf branch s = lf at *
  clear HCE
  have SP : ∀ W, Below ((w.alloc (.cells (headL n r).toArray 40)).alloc (.cells #[.string s.label, .slice A s.body.length c, .slice B s.notes.length d] 24)).heap.size ((w.alloc (.cells (headL n r).toArray 40)).alloc (.cells #[.string s.label, .slice A s.body.length c, .slice B s.notes.length d] 24)) W →
      W.cell? ⟨w.heap.size, 0, none⟩ = some (.int .i64 n) ∧ W.rangeAt w.heap.size 1 (r.map encB) ∧ W.heap[w.heap.size + 1]? = some (.cells #[.string s.label, .slice A s.body.length c, .slice B s.notes.length d] 24 (0, 0)) := fun W h => by
    refine ⟨(HX1.out.to h).cell 0 rfl, fun j v hv => ?_, HX2.out.to h⟩
    rw [Nat.add_comm]
    exact (HX1.out.to h).cell (j + 1) (by unfold headL; rw [List.getElem?_cons_succ]; exact hv)
  go_enter Tryd.func22, Tryd.ntmps22
  go_upto_region 1 with (fail)
  generalize hw1 : World.alloc (World.alloc w _) _ = w1
  have hw2 : ((w.alloc (.cells (headL n r).toArray 40)).alloc (.cells #[.string s.label, .slice A s.body.length c, .slice B s.notes.length d] 24)) = w1 := hw1
  rw [hw2] at HX1 HX2 HB HLF HIN SP
  clear hw1 hw2
  refine wp_region_D (fun w' => w'.cell? ⟨w.heap.size, 0, none⟩ = some (.int .i64 n) ∧ w'.rangeAt w.heap.size 1 (r.map encB) ∧ w'.heap[w.heap.size + 1]? = some (.cells #[.string s.label, .slice A s.body.length c, .slice B s.notes.length d] 24 (0, 0))) (fun i => decide (i < 9)) (by kernel_rfl) ?_
  have hb0 : Hid (Below w1.heap.size w1 w1.drew) := Lib.hid (Below.refl _ _).drew
  generalize w1.drew = W0 at *
  refine wpAnyE_take (i := 0) (oi := ⟨some 11, Op.fieldAddr 40 (Operand.tmp 5) 1, 0, _, _, _⟩) (v := ?_) rfl (by kernel_rfl) (by kernel_rfl) (by kernel_rfl) (by kernel_rfl) (by kernel_rfl) (fun _ _ _ h => h) (by rfl) ?hykr1_1 (SP _ hb0.out) ?hrkr1_1
  case hykr1_1 => (intro wS hSw; clear hSw; go_simp; (try with_reducible rfl))
  all_goals try simp only [Act.put, List.setIfInBounds_toArray, List.set_cons_zero, List.set_cons_succ]
  refine wpAnyE_take (i := 1) (oi := ⟨some 12, Op.load 29 (Operand.tmp 11), 29, _, _, _⟩) (v := ?_) rfl (by kernel_rfl) (by kernel_rfl) (by kernel_rfl) (by kernel_rfl) (by kernel_rfl) (fun _ _ _ h => h) (by rfl) ?hykr1_2 (SP _ hb0.out) ?hrkr1_2
  case hykr1_2 => (intro wS hSw; refine exec_load_mid 29 (.tmp 11) ?_ w.heap.size 1 ?_ (r.map encB) _ hSw.2.1 Tryd.underlying29 ?_ ?_; rfl; rfl; rfl; (rw [HRM.out]; kernel_rfl))
  all_goals try simp only [Act.put, List.setIfInBounds_toArray, List.set_cons_zero, List.set_cons_succ]
  refine wpAnyE_take (i := 2) (oi := ⟨some 13, Op.fieldAddr 40 (Operand.tmp 5) 0, 0, _, _, _⟩) (v := ?_) rfl (by kernel_rfl) (by kernel_rfl) (by kernel_rfl) (by kernel_rfl) (by kernel_rfl) (fun _ _ _ h => h) (by rfl) ?hykr1_3 (SP _ hb0.out) ?hrkr1_3
  case hykr1_3 => (intro wS hSw; clear hSw; go_simp; (try with_reducible rfl))
  all_goals try simp only [Act.put, List.setIfInBounds_toArray, List.set_cons_zero, List.set_cons_succ]
  refine wpAnyE_take (i := 3) (oi := ⟨some 14, Op.load 3 (Operand.tmp 13), 3, _, _, _⟩) (v := ?_) rfl (by kernel_rfl) (by kernel_rfl) (by kernel_rfl) (by kernel_rfl) (by kernel_rfl) (fun _ _ _ h => h) (by rfl) ?hykr1_4 (SP _ hb0.out) ?hrkr1_4
  case hykr1_4 => (intro wS hSw; (have hq := hSw.1); clear hSw; go_simp; (try with_reducible rfl))
  all_goals try simp only [Act.put, List.setIfInBounds_toArray, List.set_cons_zero, List.set_cons_succ]
  refine wpAnyE_take (i := 4) (oi := ⟨some 15, Op.move (Operand.tmp 3), 3, _, _, _⟩) (v := ?_) rfl (by kernel_rfl) (by kernel_rfl) (by kernel_rfl) (by kernel_rfl) (by kernel_rfl) (fun _ _ _ h => h) (by rfl) ?hykr1_5 (SP _ hb0.out) ?hrkr1_5
  case hykr1_5 => (intro wS hSw; clear hSw; go_simp; (try with_reducible rfl))
  all_goals try simp only [Act.put, List.setIfInBounds_toArray, List.set_cons_zero, List.set_cons_succ]
  refine wpAnyE_take (i := 5) (oi := ⟨some 16, Op.move (Operand.tmp 1), 3, _, _, _⟩) (v := ?_) rfl (by kernel_rfl) (by kernel_rfl) (by kernel_rfl) (by kernel_rfl) (by kernel_rfl) (fun _ _ _ h => h) (by rfl) ?hykr1_6 (SP _ hb0.out) ?hrkr1_6
  case hykr1_6 => (intro wS hSw; clear hSw; go_simp; (try with_reducible rfl))
  all_goals try simp only [Act.put, List.setIfInBounds_toArray, List.set_cons_zero, List.set_cons_succ]
  refine wpAnyE_take (i := 6) (oi := ⟨some 17, Op.load 24 (Operand.tmp 7), 24, _, _, _⟩) (v := ?_) rfl (by kernel_rfl) (by kernel_rfl) (by kernel_rfl) (by kernel_rfl) (by kernel_rfl) (fun _ _ _ h => h) (by rfl) ?hykr1_7 (SP _ hb0.out) ?hrkr1_7
  case hykr1_7 => (intro wS hSw; refine exec_load_row 24 (.tmp 7) ?_ (w.heap.size + 1) ?_ 24 #[.string s.label, .slice A s.body.length c, .slice B s.notes.length d] (0, 0) _ hSw.2.2 Tryd.underlying24 ?_ ?_; rfl; rfl; rfl; kernel_rfl)
  all_goals try simp only [Act.put, List.setIfInBounds_toArray, List.set_cons_zero, List.set_cons_succ]
  refine wpAnyE_take (i := 8) (oi := ⟨some 19, Op.move (Operand.tmp 4), 34, _, _, _⟩) (v := ?_) rfl (by kernel_rfl) (by kernel_rfl) (by kernel_rfl) (by kernel_rfl) (by kernel_rfl) (fun _ _ _ h => h) (by rfl) ?hykr1_8 (SP _ hb0.out) ?hrkr1_8
  case hykr1_8 => (intro wS hSw; clear hSw; go_simp; (try with_reducible rfl))
  all_goals try simp only [Act.put, List.setIfInBounds_toArray, List.set_cons_zero, List.set_cons_succ]
  refine wpAnyD_one (i := 7) (oi := ⟨some 18, Op.call { callee := Callee.value (Operand.func 11), args := #[Operand.tmp 16, Operand.tmp 17], argTypes := #[3, 24] }, 29, _, _, _⟩) rfl (by kernel_rfl) (by rfl) (fun K hK => ?_)
  go_simp
  go_at_call 11
  refine (HLF.out W0 hb0.out).mono ?_
  rintro e W2 ⟨rfl, hb2⟩
  have hbb := Lib.hid (hb0.out.trans (hb2.mono hb0.out.size))
  go_simp
  refine hK _ _ (fun _ => ?_) ?_
  · exact SP _ hbb.out
  clear hK K
  try simp only [Act.put, List.setIfInBounds_toArray, List.set_cons_zero, List.set_cons_succ]
  refine wpAnyD_one (i := 9) (oi := ⟨some 20, Op.call { callee := Callee.value (Operand.func 54), args := #[Operand.tmp 12, Operand.tmp 14, Operand.tmp 15, Operand.tmp 18, Operand.tmp 19], argTypes := #[29, 3, 3, 29, 34] }, 4, _, _, _⟩) rfl (by kernel_rfl) (by rfl) (fun K hK => ?_)
  go_simp
  go_at_call 54
  refine (HIN.out W2 hbb.out).mono ?_
  rintro e W3 ⟨rfl, hb3⟩
  have hbz := Lib.hid (hbb.out.trans (hb3.mono hbb.out.size))
  go_simp
  refine hK _ _ (fun h => absurd h (by decide)) ?_
  clear hK K
  try simp only [Act.put, List.setIfInBounds_toArray, List.set_cons_zero, List.set_cons_succ]
  refine wpAnyD_one (i := 10) (oi := ⟨some 10, Op.assign (Operand.tmp 20), 4, _, _, _⟩) rfl (by kernel_rfl) (by rfl) (fun K hK => ?_)
  go_simp
  refine hK _ _ (fun h => absurd h (by decide)) ?_
  clear hK K
  try simp only [Act.put, List.setIfInBounds_toArray, List.set_cons_zero, List.set_cons_succ]
  refine wpAnyD_done (by kernel_rfl) ?_ _
  unfold Exit.then
  go_wp2_with fail
  go_ret
  exact ⟨rfl, HB.out.trans (hbz.out.mono HB.out.size)⟩
end Go.Proofs.YthcklfelofpffaaDoor
