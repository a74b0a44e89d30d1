/- Sheets are certified: Add. No condition but sizes and what the table holds. -/
import Derived.Test.YthcklfelofpffaaDoorCerW13
namespace Go.Proofs.YthcklfelofpffaaDoor
open Go.RowKit
instance : Rep Sheet where
  size := 3
  R w S cs s := ∃ va vb, cs = [.string s.label, va, vb] ∧ Rep.R w S [va] s.body ∧ Rep.R w S [vb] s.notes
  len := by rintro w S cs s ⟨va, vb, rfl, _⟩; rfl
  one := by
    rintro w S cs s ⟨va, vb, rfl, ha, hb⟩ u hu
    have h1 := Rep.one ha va (by simp)
    have h2 := Rep.one hb vb (by simp)
    simp at hu
    rcases hu with rfl | rfl | rfl
    · rfl
    · exact h1
    · exact h2
  keep := by rintro w w' S cs s ⟨va, vb, rfl, ha, hb⟩ hk; exact ⟨va, vb, rfl, Rep.keep ha hk, Rep.keep hb hk⟩
  mono := by rintro w S S' cs s ⟨va, vb, rfl, ha, hb⟩ hk; exact ⟨va, vb, rfl, Rep.mono ha hk, Rep.mono hb hk⟩
theorem sheet_at {w : World} {S : Nat → Prop} {A : Option Addr} {c : Nat} {l : List Sheet} (h : Sl w S A c l) {k : Nat} (hk : k < l.length) :
    ∃ b o A1 c1 A2 c2, A = some ⟨b, o, none⟩ ∧ S b ∧ b < w.heap.size ∧ w.cell? ⟨b, o + k * 3, none⟩ = some (.string l[k].label) ∧ w.cell? ⟨b, o + k * 3 + 1, none⟩ = some (.slice A1 l[k].body.length c1) ∧ w.cell? ⟨b, o + k * 3 + 2, none⟩ = some (.slice A2 l[k].notes.length c2) ∧
      Sl w S A1 c1 l[k].body ∧ Sl w S A2 c2 l[k].notes := by
  obtain ⟨b, o, es, rfl, hb, hlt, ⟨va, vb, rfl, ⟨A1, c1, e1, h1, _⟩, ⟨A2, c2, e2, h2, _⟩⟩, hc⟩ := h.at_ hk
  obtain rfl : va = .slice A1 l[k].body.length c1 := by simpa using e1
  obtain rfl : vb = .slice A2 l[k].notes.length c2 := by simpa using e2
  exact ⟨b, o, A1, c1, A2, c2, rfl, hb, hlt, hc 0 _ rfl, hc 1 _ rfl, hc 2 _ rfl, h1, h2⟩
/-- What sheets make of a ledger. -/
def addAll (branch : Int) (p : List H32 × List ByteArray) (l : List Sheet) : List H32 × List ByteArray := l.foldl (addOne branch) p
theorem addOne_len (branch : Int) (p : List H32 × List ByteArray) (s : Sheet) (h : p.1.length = p.2.length) : (addOne branch p s).1.length = (addOne branch p s).2.length ∧ (addOne branch p s).1.length ≤ p.1.length + 1 := by
  unfold addOne; split <;> simp [h]
theorem addAll_len (branch : Int) : ∀ (l : List Sheet) (p : List H32 × List ByteArray), p.1.length = p.2.length → (addAll branch p l).1.length = (addAll branch p l).2.length ∧ (addAll branch p l).1.length ≤ p.1.length + l.length
  | [], p, h => ⟨h, by simp [addAll]⟩
  | s :: l, p, h => by
    obtain ⟨h1, h2⟩ := addOne_len branch p s h
    obtain ⟨h3, h4⟩ := addAll_len branch l _ h1
    exact ⟨h3, by rw [List.length_cons]; exact Nat.le_trans h4 (by omega)⟩
theorem addAll_take (branch : Int) (p : List H32 × List ByteArray) (l : List Sheet) (k : Nat) (h : k < l.length) : addAll branch p (l.take (k + 1)) = addOne branch (addAll branch p (l.take k)) l[k] := by
  unfold addAll; rw [List.take_succ_eq_append_getElem h, List.foldl_append]; rfl
theorem LG.born {W : World} {O base : Nat} {v1 v2 : Value} {L : List H32} {N : List ByteArray} (hO : ABox W O 36 [.slice none 0 0, .slice none 0 0]) (hOb : base ≤ O) (h1 : Own W base 29 v1 L) (h2 : Own W base 9 v2 N)
    (n1 : some O ≠ v1.ownBlock) (n2 : some O ≠ v2.ownBlock) (dj : ∀ g, v1.ownBlock = some g → v2.ownBlock ≠ some g) (hbs : base ≤ W.heap.size) : LG ((W.setCell ⟨O, 0, none⟩ v1).setCell ⟨O, 1, none⟩ v2) O base v1 v2 L N := by
  have hk : ∀ g, g ≠ O → ((W.setCell ⟨O, 0, none⟩ v1).setCell ⟨O, 1, none⟩ v2).heap[g]? = W.heap[g]? := fun g hne => (heap_set _ _ _ _ hne).trans (heap_set _ _ _ _ hne)
  exact ⟨(hO.set 0 v1).set 1 v2, own_keepH h1 (fun g e => hk g (fun e2 => n1 (by rw [e, e2]))), own_keepS h2 (fun g e => hk g (fun e2 => n2 (by rw [e, e2]))), hOb, n1, n2, dj, by simp; omega⟩
set_option maxRecDepth 100000 in
set_option maxHeartbeats 4000000 in
theorem add_any (branch : Int) (A B C : Option Addr) (ca cb cc : Nat) (L : List H32) (N : List ByteArray) (l : List Sheet) (w : World) (hbr : I64 branch)
    (hl : Sl w (fun b => b < w.heap.size) A ca L) (hn : Sl w (fun b => b < w.heap.size) B cb N) (hs : Sl w (fun b => b < w.heap.size) C cc l) (hln : L.length = N.length) (hlm : L.length + l.length ≤ 1048576)
    (hsz : ∀ s ∈ l, (sheetB branch s).length ≤ 1073740000) (hK : KLaid w) :
    Calls Tryd.prog 15 #[.agg #[.slice A L.length ca, .slice B N.length cb], .int .i64 branch, .slice C l.length cc] w fun e w' => ∃ v1 v2, e = .returned (.agg #[v1, v2]) ∧
      Own w' w.heap.size 29 v1 (addAll branch (L, N) l).1 ∧ Own w' w.heap.size 9 v2 (addAll branch (L, N) l).2 ∧ Below w.heap.size w w' := by
  have HL := Lib.hid hl
  have HN := Lib.hid hn
  have HS := Lib.hid hs
  have HK := Lib.hid hK
  have HBR := Lib.hid hbr
  have HSZ := Lib.hid hsz
  have HLN := Lib.hid hln
  have HLM := Lib.hid hlm
  clear hl hn hs hK hbr hsz hln hlm
  go_enter Tryd.func15, Tryd.ntmps15
  go_upto_region 1 with (fail)
  have hb0 : Below w.heap.size w (((w.alloc (.cells #[.slice A L.length ca, .slice B N.length cb] 36)).alloc (.cells #[.int .i64 branch] 3)).alloc (.cells #[.slice none 0 0, .slice none 0 0] 36)) := (((Below.refl _ _).alloc (Nat.le_refl _) _).alloc (by simp) _).alloc (by simp; omega) _
  have HB0 := Lib.hid hb0
  have HZ0 : Hid ((((w.alloc (.cells #[.slice A L.length ca, .slice B N.length cb] 36)).alloc (.cells #[.int .i64 branch] 3)).alloc (.cells #[.slice none 0 0, .slice none 0 0] 36)).heap.size = w.heap.size + 3) := Lib.hid (by simp)
  have HX0 : Hid (ABox (((w.alloc (.cells #[.slice A L.length ca, .slice B N.length cb] 36)).alloc (.cells #[.int .i64 branch] 3)).alloc (.cells #[.slice none 0 0, .slice none 0 0] 36)) w.heap.size 36 [.slice A L.length ca, .slice B N.length cb]) := Lib.hid (by
    unfold ABox; rw [Below.heap_alloc _ _ _ (by simp; omega), Below.heap_alloc _ _ _ (by simp)]; exact heap_alloc_new w _)
  have HX1 : Hid (ABox (((w.alloc (.cells #[.slice A L.length ca, .slice B N.length cb] 36)).alloc (.cells #[.int .i64 branch] 3)).alloc (.cells #[.slice none 0 0, .slice none 0 0] 36)) (w.heap.size + 1) 3 [.int .i64 branch]) := Lib.hid (by
    unfold ABox; rw [Below.heap_alloc _ _ _ (by simp)]; exact heap_at (by simp))
  have HX2 : Hid (ABox (((w.alloc (.cells #[.slice A L.length ca, .slice B N.length cb] 36)).alloc (.cells #[.int .i64 branch] 3)).alloc (.cells #[.slice none 0 0, .slice none 0 0] 36)) (w.heap.size + 1 + 1) 36 [.slice none 0 0, .slice none 0 0]) := Lib.hid (heap_at (by simp))
  have HL0 := Lib.hid (HL.out.to hb0)
  have HN0 := Lib.hid (HN.out.to hb0)
  have HK0 := Lib.hid (HK.out.to hb0)
  clear hb0 HL HN HK
  generalize (((w.alloc (.cells #[.slice A L.length ca, .slice B N.length cb] 36)).alloc (.cells #[.int .i64 branch] 3)).alloc (.cells #[.slice none 0 0, .slice none 0 0] 36)) = w0 at *
  have SP : ∀ w', Below w0.heap.size w0 w' → w'.cell? ⟨w.heap.size, 0, none⟩ = some (.slice A L.length ca) ∧ w'.cell? ⟨w.heap.size, 1, none⟩ = some (.slice B N.length cb) := fun w' h => by
    have hx : ABox w' w.heap.size 36 [.slice A L.length ca, .slice B N.length cb] := (h.block _ (by have := HZ0.out; omega)).trans HX0.out
    exact ⟨hx.cell 0 rfl, hx.cell 1 rfl⟩
  go_cut [7] from 11 to 18 (fun p wx => ∃ O A1 c1 A2 c2, p = .pointer (some ⟨O, 0, none⟩) ∧ Hid (LG wx O w0.heap.size (.slice A1 L.length c1) (.slice A2 N.length c2) L N) ∧ Hid (Below w0.heap.size w0 wx))
  case first =>
    refine wp_region_D (fun w' => w'.cell? ⟨w.heap.size, 0, none⟩ = some (.slice A L.length ca) ∧ w'.cell? ⟨w.heap.size, 1, none⟩ = some (.slice B N.length cb)) (fun i => decide (i < 8)) (by kernel_rfl) ?_
    have hbs : Hid (Below w0.heap.size w0 w0.drew) := Lib.hid (Below.refl _ _).drew
    have hHeld := SP _ hbs.out
    generalize w0.drew = W0 at *
    refine wpAnyE_take (i := 0) (oi := ⟨some 11, Op.fieldAddr 36 (Operand.tmp 3) 0, 0, _, _, _⟩) (v := ?_) rfl (by kernel_rfl) (by kernel_rfl) (by kernel_rfl) (by kernel_rfl) (by kernel_rfl) (fun _ _ _ h => h) (by rfl) ?hyk1 hHeld ?hrk1
    case hyk1 => (intro wS hSw; (try dsimp only at hSw); go_simp; (try with_reducible rfl))
    all_goals try simp only [Act.put, List.setIfInBounds_toArray, List.set_cons_zero, List.set_cons_succ]
    refine wpAnyE_take (i := 1) (oi := ⟨some 12, Op.load 34 (Operand.tmp 11), 34, _, _, _⟩) (v := ?_) rfl (by kernel_rfl) (by kernel_rfl) (by kernel_rfl) (by kernel_rfl) (by kernel_rfl) (fun _ _ _ h => h) (by rfl) ?hyk2 hHeld ?hrk2
    case hyk2 => (intro wS hSw; (try dsimp only at hSw); go_simp; (try with_reducible rfl))
    all_goals try simp only [Act.put, List.setIfInBounds_toArray, List.set_cons_zero, List.set_cons_succ]
    refine wpAnyE_take (i := 3) (oi := ⟨some 14, Op.fieldAddr 36 (Operand.tmp 3) 1, 0, _, _, _⟩) (v := ?_) rfl (by kernel_rfl) (by kernel_rfl) (by kernel_rfl) (by kernel_rfl) (by kernel_rfl) (fun _ _ _ h => h) (by rfl) ?hyk3 hHeld ?hrk3
    case hyk3 => (intro wS hSw; (try dsimp only at hSw); go_simp; (try with_reducible rfl))
    all_goals try simp only [Act.put, List.setIfInBounds_toArray, List.set_cons_zero, List.set_cons_succ]
    refine wpAnyE_take (i := 4) (oi := ⟨some 15, Op.load 22 (Operand.tmp 14), 22, _, _, _⟩) (v := ?_) rfl (by kernel_rfl) (by kernel_rfl) (by kernel_rfl) (by kernel_rfl) (by kernel_rfl) (fun _ _ _ h => h) (by rfl) ?hyk4 hHeld ?hrk4
    case hyk4 => (intro wS hSw; (try dsimp only at hSw); go_simp; (try with_reducible rfl))
    all_goals try simp only [Act.put, List.setIfInBounds_toArray, List.set_cons_zero, List.set_cons_succ]
    refine wpAnyD_two (i := 2) (j := 7) (oi := ⟨some 13, Op.call { callee := Callee.value (Operand.func 47), args := #[Operand.tmp 12], argTypes := #[34] }, 34, _, _, _⟩) (oj := ⟨some 7, Op.alloc 36, 0, _, _, _⟩) (by kernel_rfl) rfl rfl (by rfl) (by rfl) (fun K hK => ?_) (fun K hK => ?_)
    · go_simp
      go_at_call 47
      refine (hclone_any A ca _ L W0 (HL0.out.to hbs.out) rfl (by have := HLM.out; omega)).mono ?_
      rintro e W1 ⟨v1, rfl, hown1, hbc1⟩
      obtain ⟨A1, c1, rfl, -⟩ := hown1.form
      have hb1 := Lib.hid (hbs.out.trans (hbc1.mono hbs.out.size))
      have ho11 := Lib.hid (hown1.re hbs.out.size)
      have hl11 : Hid (∀ g, (Value.slice A1 L.length c1).ownBlock = some g → W0.heap.size ≤ g) := Lib.hid (fun g hg => (hown1.lt g hg).1)
      go_simp
      refine hK _ _ (fun _ => ?_) ?_
      · exact SP _ hb1.out
      clear hK K hHeld
      have hHeld := SP _ hb1.out
      try simp only [Act.put, List.setIfInBounds_toArray, List.set_cons_zero, List.set_cons_succ]
      clear hown1 hbc1
      refine wpAnyD_two (i := 5) (j := 7) (oi := ⟨some 16, Op.call { callee := Callee.value (Operand.func 48), args := #[Operand.tmp 15], argTypes := #[22] }, 22, _, _, _⟩) (oj := ⟨some 7, Op.alloc 36, 0, _, _, _⟩) (by kernel_rfl) rfl rfl (by rfl) (by rfl) (fun K hK => ?_) (fun K hK => ?_)
      · go_simp
        go_at_call 48
        refine (sclone_any B cb _ N W1 (HN0.out.to hb1.out) rfl (by have := HLM.out; have := HLN.out; omega)).mono ?_
        rintro e W2 ⟨v2, rfl, hown2, hbc2⟩
        obtain ⟨A2, c2, rfl, -⟩ := hown2.form
        have hb2 := Lib.hid (hb1.out.trans (hbc2.mono hb1.out.size))
        have ho22 := Lib.hid (hown2.re hb1.out.size)
        have ho12 := Lib.hid (ho11.out.below hbc2)
        have hdj : Hid (∀ g, (Value.slice A1 L.length c1).ownBlock = some g → (Value.slice A2 N.length c2).ownBlock ≠ some g) := Lib.hid (fun g h1 h2 => by have := (ho11.out.lt g h1).2; have := (hown2.lt g h2).1; omega)
        go_simp
        refine hK _ _ (fun _ => ?_) ?_
        · exact SP _ hb2.out
        clear hK K hHeld
        have hHeld := SP _ hb2.out
        try simp only [Act.put, List.setIfInBounds_toArray, List.set_cons_zero, List.set_cons_succ]
        clear hown2 hbc2
        refine wpAnyE_take (i := 6) (oi := ⟨some 17, Op.build 36 #[(0, Operand.tmp 13), (1, Operand.tmp 16)], 36, _, _, _⟩) (v := ?_) rfl (by kernel_rfl) (by kernel_rfl) (by kernel_rfl) (by kernel_rfl) (by kernel_rfl) (fun _ _ _ h => h) (by rfl) ?hyk5 hHeld ?hrk5
        case hyk5 => (intro wS hSw; (try dsimp only at hSw); go_simp; (try with_reducible rfl))
        all_goals try simp only [Act.put, List.setIfInBounds_toArray, List.set_cons_zero, List.set_cons_succ]
        refine wpAnyD_one (i := 7) (oi := ⟨some 7, Op.alloc 36, 0, _, _, _⟩) rfl (by kernel_rfl) (by rfl) (fun K hK => ?_)
        go_simp
        refine hK _ _ (fun _ => ?_) ?_
        · exact SP _ (hb2.out.alloc hb2.out.size _)
        clear hK K hHeld
        have hb3 := Lib.hid (hb2.out.alloc hb2.out.size (.cells #[.slice none 0 0, .slice none 0 0] 36))
        have hO3 : Hid (ABox (W2.alloc (.cells #[.slice none 0 0, .slice none 0 0] 36)) W2.heap.size 36 [.slice none 0 0, .slice none 0 0]) := Lib.hid (heap_alloc_new W2 _)
        have hOb : Hid (w0.heap.size ≤ W2.heap.size) := Lib.hid hb2.out.size
        have hn1 : Hid (some W2.heap.size ≠ (Value.slice A1 L.length c1).ownBlock) := Lib.hid (fun e => by have := (ho12.out.lt _ e.symm).2; omega)
        have ho13 := Lib.hid (ho12.out.alloc (.cells #[.slice none 0 0, .slice none 0 0] 36))
        have hn2 : Hid (some W2.heap.size ≠ (Value.slice A2 N.length c2).ownBlock) := Lib.hid (fun e => by have := (ho22.out.lt _ e.symm).2; omega)
        have ho23 := Lib.hid (ho22.out.alloc (.cells #[.slice none 0 0, .slice none 0 0] 36))
        generalize W2.heap.size = O at *
        generalize W2.alloc (.cells #[.slice none 0 0, .slice none 0 0] 36) = W3 at *
        have hHeld := SP _ hb3.out
        try simp only [Act.put, List.setIfInBounds_toArray, List.set_cons_zero, List.set_cons_succ]
        refine wpAnyD_one (i := 8) (oi := ⟨none, Op.store 36 (Operand.tmp 7) (Operand.tmp 17), 0, _, _, _⟩) rfl (by kernel_rfl) (by rfl) (fun K hK => ?_)
        have hlg := Lib.hid (LG.born hO3.out hOb.out ho13.out ho23.out hn1.out hn2.out hdj.out hb3.out.size)
        have hbe := Lib.hid ((hb3.out.setCell (p := ⟨O, 0, none⟩) hOb.out (.slice A1 L.length c1)).setCell (p := ⟨O, 1, none⟩) hOb.out (.slice A2 N.length c2))
        have k90 := hO3.out.cell 0 rfl
        have f90 := hO3.out.fz
        have k91 := (hO3.out.set 0 (.slice A1 L.length c1)).cell 1 rfl
        have f91 := (hO3.out.set 0 (.slice A1 L.length c1)).fz
        go_simp
        refine hK _ _ (fun h => absurd h (by decide)) ?_
        clear hK K
        try simp only [Act.put, List.setIfInBounds_toArray, List.set_cons_zero, List.set_cons_succ]
        refine wpAnyD_done (by kernel_rfl) ?_ _
        unfold Exit.then
        try go_wp2_with fail
        go_meet
        exact ⟨_, _, _, _, _, rfl, hlg, hbe⟩
      · go_simp
        refine hK _ _ (fun _ => ?_) ?_
        · exact SP _ (hb1.out.alloc hb1.out.size _)
        clear hK K hHeld
        have hb2 := Lib.hid (hb1.out.alloc hb1.out.size (.cells #[.slice none 0 0, .slice none 0 0] 36))
        have hO2 : Hid (ABox (W1.alloc (.cells #[.slice none 0 0, .slice none 0 0] 36)) W1.heap.size 36 [.slice none 0 0, .slice none 0 0]) := Lib.hid (heap_alloc_new W1 _)
        have hOb : Hid (w0.heap.size ≤ W1.heap.size) := Lib.hid hb1.out.size
        have hn1 : Hid (some W1.heap.size ≠ (Value.slice A1 L.length c1).ownBlock) := Lib.hid (fun e => by have := (ho11.out.lt _ e.symm).2; omega)
        have ho12 := Lib.hid (ho11.out.alloc (.cells #[.slice none 0 0, .slice none 0 0] 36))
        generalize W1.heap.size = O at *
        generalize W1.alloc (.cells #[.slice none 0 0, .slice none 0 0] 36) = W2 at *
        have hHeld := SP _ hb2.out
        try simp only [Act.put, List.setIfInBounds_toArray, List.set_cons_zero, List.set_cons_succ]
        refine wpAnyD_one (i := 5) (oi := ⟨some 16, Op.call { callee := Callee.value (Operand.func 48), args := #[Operand.tmp 15], argTypes := #[22] }, 22, _, _, _⟩) rfl (by kernel_rfl) (by rfl) (fun K hK => ?_)
        go_simp
        go_at_call 48
        refine (sclone_any B cb _ N W2 (HN0.out.to hb2.out) rfl (by have := HLM.out; have := HLN.out; omega)).mono ?_
        rintro e W3 ⟨v2, rfl, hown3, hbc3⟩
        obtain ⟨A2, c2, rfl, -⟩ := hown3.form
        have hb3 := Lib.hid (hb2.out.trans (hbc3.mono hb2.out.size))
        have ho23 := Lib.hid (hown3.re hb2.out.size)
        have ho13 := Lib.hid (ho12.out.below hbc3)
        have hdj : Hid (∀ g, (Value.slice A1 L.length c1).ownBlock = some g → (Value.slice A2 N.length c2).ownBlock ≠ some g) := Lib.hid (fun g h1 h2 => by have := (ho12.out.lt g h1).2; have := (hown3.lt g h2).1; omega)
        have hO3 := Lib.hid (hO2.out.to hbc3)
        have hn2 : Hid (some O ≠ (Value.slice A2 N.length c2).ownBlock) := Lib.hid (fun e => by have := (hown3.lt _ e.symm).1; have := hO2.out.lt; omega)
        go_simp
        refine hK _ _ (fun _ => ?_) ?_
        · exact SP _ hb3.out
        clear hK K hHeld
        have hHeld := SP _ hb3.out
        try simp only [Act.put, List.setIfInBounds_toArray, List.set_cons_zero, List.set_cons_succ]
        clear hown3 hbc3
        refine wpAnyE_take (i := 6) (oi := ⟨some 17, Op.build 36 #[(0, Operand.tmp 13), (1, Operand.tmp 16)], 36, _, _, _⟩) (v := ?_) rfl (by kernel_rfl) (by kernel_rfl) (by kernel_rfl) (by kernel_rfl) (by kernel_rfl) (fun _ _ _ h => h) (by rfl) ?hyk6 hHeld ?hrk6
        case hyk6 => (intro wS hSw; (try dsimp only at hSw); go_simp; (try with_reducible rfl))
        all_goals try simp only [Act.put, List.setIfInBounds_toArray, List.set_cons_zero, List.set_cons_succ]
        refine wpAnyD_one (i := 8) (oi := ⟨none, Op.store 36 (Operand.tmp 7) (Operand.tmp 17), 0, _, _, _⟩) rfl (by kernel_rfl) (by rfl) (fun K hK => ?_)
        have hlg := Lib.hid (LG.born hO3.out hOb.out ho13.out ho23.out hn1.out hn2.out hdj.out hb3.out.size)
        have hbe := Lib.hid ((hb3.out.setCell (p := ⟨O, 0, none⟩) hOb.out (.slice A1 L.length c1)).setCell (p := ⟨O, 1, none⟩) hOb.out (.slice A2 N.length c2))
        have k90 := hO3.out.cell 0 rfl
        have f90 := hO3.out.fz
        have k91 := (hO3.out.set 0 (.slice A1 L.length c1)).cell 1 rfl
        have f91 := (hO3.out.set 0 (.slice A1 L.length c1)).fz
        go_simp
        refine hK _ _ (fun h => absurd h (by decide)) ?_
        clear hK K
        try simp only [Act.put, List.setIfInBounds_toArray, List.set_cons_zero, List.set_cons_succ]
        refine wpAnyD_done (by kernel_rfl) ?_ _
        unfold Exit.then
        try go_wp2_with fail
        go_meet
        exact ⟨_, _, _, _, _, rfl, hlg, hbe⟩
    · go_simp
      refine hK _ _ (fun _ => ?_) ?_
      · exact SP _ (hbs.out.alloc hbs.out.size _)
      clear hK K hHeld
      have hb1 := Lib.hid (hbs.out.alloc hbs.out.size (.cells #[.slice none 0 0, .slice none 0 0] 36))
      have hO1 : Hid (ABox (W0.alloc (.cells #[.slice none 0 0, .slice none 0 0] 36)) W0.heap.size 36 [.slice none 0 0, .slice none 0 0]) := Lib.hid (heap_alloc_new W0 _)
      have hOb : Hid (w0.heap.size ≤ W0.heap.size) := Lib.hid hbs.out.size
      generalize W0.heap.size = O at *
      generalize W0.alloc (.cells #[.slice none 0 0, .slice none 0 0] 36) = W1 at *
      have hHeld := SP _ hb1.out
      try simp only [Act.put, List.setIfInBounds_toArray, List.set_cons_zero, List.set_cons_succ]
      refine wpAnyD_one (i := 2) (oi := ⟨some 13, Op.call { callee := Callee.value (Operand.func 47), args := #[Operand.tmp 12], argTypes := #[34] }, 34, _, _, _⟩) rfl (by kernel_rfl) (by rfl) (fun K hK => ?_)
      go_simp
      go_at_call 47
      refine (hclone_any A ca _ L W1 (HL0.out.to hb1.out) rfl (by have := HLM.out; omega)).mono ?_
      rintro e W2 ⟨v1, rfl, hown2, hbc2⟩
      obtain ⟨A1, c1, rfl, -⟩ := hown2.form
      have hb2 := Lib.hid (hb1.out.trans (hbc2.mono hb1.out.size))
      have ho12 := Lib.hid (hown2.re hb1.out.size)
      have hl12 : Hid (∀ g, (Value.slice A1 L.length c1).ownBlock = some g → W1.heap.size ≤ g) := Lib.hid (fun g hg => (hown2.lt g hg).1)
      have hO2 := Lib.hid (hO1.out.to hbc2)
      have hn1 : Hid (some O ≠ (Value.slice A1 L.length c1).ownBlock) := Lib.hid (fun e => by have := hl12.out _ e.symm; have := hO1.out.lt; omega)
      go_simp
      refine hK _ _ (fun _ => ?_) ?_
      · exact SP _ hb2.out
      clear hK K hHeld
      have hHeld := SP _ hb2.out
      try simp only [Act.put, List.setIfInBounds_toArray, List.set_cons_zero, List.set_cons_succ]
      clear hown2 hbc2
      refine wpAnyD_one (i := 5) (oi := ⟨some 16, Op.call { callee := Callee.value (Operand.func 48), args := #[Operand.tmp 15], argTypes := #[22] }, 22, _, _, _⟩) rfl (by kernel_rfl) (by rfl) (fun K hK => ?_)
      go_simp
      go_at_call 48
      refine (sclone_any B cb _ N W2 (HN0.out.to hb2.out) rfl (by have := HLM.out; have := HLN.out; omega)).mono ?_
      rintro e W3 ⟨v2, rfl, hown3, hbc3⟩
      obtain ⟨A2, c2, rfl, -⟩ := hown3.form
      have hb3 := Lib.hid (hb2.out.trans (hbc3.mono hb2.out.size))
      have ho23 := Lib.hid (hown3.re hb2.out.size)
      have ho13 := Lib.hid (ho12.out.below hbc3)
      have hdj : Hid (∀ g, (Value.slice A1 L.length c1).ownBlock = some g → (Value.slice A2 N.length c2).ownBlock ≠ some g) := Lib.hid (fun g h1 h2 => by have := (ho12.out.lt g h1).2; have := (hown3.lt g h2).1; omega)
      have hO3 := Lib.hid (hO2.out.to hbc3)
      have hn2 : Hid (some O ≠ (Value.slice A2 N.length c2).ownBlock) := Lib.hid (fun e => by have := (hown3.lt _ e.symm).1; have := hO2.out.lt; omega)
      go_simp
      refine hK _ _ (fun _ => ?_) ?_
      · exact SP _ hb3.out
      clear hK K hHeld
      have hHeld := SP _ hb3.out
      try simp only [Act.put, List.setIfInBounds_toArray, List.set_cons_zero, List.set_cons_succ]
      clear hown3 hbc3
      refine wpAnyE_take (i := 6) (oi := ⟨some 17, Op.build 36 #[(0, Operand.tmp 13), (1, Operand.tmp 16)], 36, _, _, _⟩) (v := ?_) rfl (by kernel_rfl) (by kernel_rfl) (by kernel_rfl) (by kernel_rfl) (by kernel_rfl) (fun _ _ _ h => h) (by rfl) ?hyk7 hHeld ?hrk7
      case hyk7 => (intro wS hSw; (try dsimp only at hSw); go_simp; (try with_reducible rfl))
      all_goals try simp only [Act.put, List.setIfInBounds_toArray, List.set_cons_zero, List.set_cons_succ]
      refine wpAnyD_one (i := 8) (oi := ⟨none, Op.store 36 (Operand.tmp 7) (Operand.tmp 17), 0, _, _, _⟩) rfl (by kernel_rfl) (by rfl) (fun K hK => ?_)
      have hlg := Lib.hid (LG.born hO3.out hOb.out ho13.out ho23.out hn1.out hn2.out hdj.out hb3.out.size)
      have hbe := Lib.hid ((hb3.out.setCell (p := ⟨O, 0, none⟩) hOb.out (.slice A1 L.length c1)).setCell (p := ⟨O, 1, none⟩) hOb.out (.slice A2 N.length c2))
      have k90 := hO3.out.cell 0 rfl
      have f90 := hO3.out.fz
      have k91 := (hO3.out.set 0 (.slice A1 L.length c1)).cell 1 rfl
      have f91 := (hO3.out.set 0 (.slice A1 L.length c1)).fz
      go_simp
      refine hK _ _ (fun h => absurd h (by decide)) ?_
      clear hK K
      try simp only [Act.put, List.setIfInBounds_toArray, List.set_cons_zero, List.set_cons_succ]
      refine wpAnyD_done (by kernel_rfl) ?_ _
      unfold Exit.then
      try go_wp2_with fail
      go_meet
      exact ⟨_, _, _, _, _, rfl, hlg, hbe⟩
  case rest =>
    obtain ⟨O, A1, c1, A2, c2, rfl, HG1, HB1⟩ := hcut
    have hmf : ∀ (fn : Fn) (first cap : Array Value) (w : World), (Instr.makeFunc fn first cap).run Tryd.prog w = .ok (.func fn first cap) w := fun _ _ _ _ => rfl
    clear SP
    have HLL : Hid (l.length ≤ 1048576) := Lib.hid (by have := HLM.out; omega)
    have hll : (l.length : Int) ≤ 1048576 := by have := HLM.out; omega
    go_wp2_with fail
    go_loopw [21] (fun i wr => ∃ (k : Nat) (v1 v2 : Value), k ≤ l.length ∧ i = .int .i64 (k : Int) ∧ Hid (LG wr O w0.heap.size v1 v2 (addAll branch (L, N) (l.take k)).1 (addAll branch (L, N) (l.take k)).2) ∧ Hid (Below w0.heap.size w0 wr))
      (fun i _ => l.length - (intOf i).toNat)
    case atStart => exact ⟨0, _, _, Nat.zero_le _, rfl, HG1, HB1⟩
    case round =>
      obtain ⟨k, v1, v2, hk, rfl, HGr, HBr⟩ := hrel
      by_cases hkl : k < l.length
      · obtain ⟨b, o, A3, c3, A4, c4, rfl, hb, hblt, d0, d1, d2, s1, s2⟩ := sheet_at HS.out hkl
        have HBw : Hid (Below w.heap.size w wr) := Lib.hid (HB0.out.trans (HBr.out.mono (by have := HZ0.out; omega)))
        have e0 := (HBw.out.cell (p := ⟨b, o + k * 3, none⟩) hb).trans d0
        have e1 := (HBw.out.cell (p := ⟨b, o + k * 3 + 1, none⟩) hb).trans d1
        have e2 := (HBw.out.cell (p := ⟨b, o + k * 3 + 2, none⟩) hb).trans d2
        clear d0 d1 d2
        generalize hx : l[k] = x at *
        have HAT := Lib.hid (addAll_take branch (L, N) l k hkl)
        obtain ⟨hl1, hl2⟩ := addAll_len branch (l.take k) (L, N) HLN.out
        have HL1 := Lib.hid hl1
        have HL2 : Hid ((addAll branch (L, N) (l.take k)).1.length ≤ 1048576) := Lib.hid (by have := HLM.out; rw [List.length_take] at hl2; simp only at hl2; omega)
        have HXS : Hid ((sheetB branch x).length ≤ 1073740000) := Lib.hid (HSZ.out x (by rw [← hx]; exact List.getElem_mem _))
        rw [hx] at HAT
        clear hl1 hl2
        obtain ⟨q1, hq1⟩ : ∃ q1, q1 = addAll branch (L, N) (l.take (k + 1)) := ⟨_, rfl⟩
        have HQ1 := Lib.hid hq1
        rw [← hq1] at HAT
        clear hq1
        generalize addAll branch (L, N) (l.take k) = q at *
        have HT : ∀ W, Below wr.heap.size wr W → Calls Tryd.prog 49 #[.agg #[.string x.label, .slice A3 x.body.length c3, .slice A4 x.notes.length c4], .pointer (some ⟨w.heap.size + 1, 0, none⟩), .pointer (some ⟨O, 0, none⟩)] W fun e w' => e = .returned (.tuple #[]) ∧
            ∃ v1' v2', LG w' O w0.heap.size v1' v2' q1.1 q1.2 ∧ Below w0.heap.size w0 w' := fun W hW => by
          have hz := HZ0.out
          have hB := HBr.out.trans (hW.mono HBr.out.size)
          refine (add1_any branch x A3 A4 c3 c4 (w.heap.size + 1) O w0.heap.size v1 v2 q.1 q.2 W HBR.out ((hB.cell (p := ⟨w.heap.size + 1, 0, none⟩) (by show w.heap.size + 1 < _; omega)).trans (HX1.out.cell 0 rfl)) (by omega)
            ((s1.to HB0.out).keep (Kept.below hB (fun _ h => h)) hB.size) ((s2.to HB0.out).keep (Kept.below hB (fun _ h => h)) hB.size) HXS.out (HK0.out.to hB) (HGr.out.to hW) HL1.out HL2.out).mono ?_
          rintro e w' ⟨rfl, v1', v2', hg, hb⟩
          rw [HAT.out]
          exact ⟨rfl, v1', v2', hg, hB.trans hb⟩
        clear HBr HGr HBw s1 s2
        go_wp2_with (first | (go_at_call 49; refine (HT _ ((Below.refl _ _).alloc (Nat.le_refl _) _)).mono ?_; rintro e w5 ⟨rfl, v1', v2', hg5, hb5⟩) | fail)
        go_roundw
        case rel => exact ⟨k + 1, v1', v2', by omega, by go_num, Lib.hid (by rw [← HQ1.out]; exact hg5), Lib.hid hb5⟩
        case measure => simp [intOf]; omega
      · obtain rfl : k = l.length := by omega
        have HGe : Hid (LG wr O w0.heap.size v1 v2 (addAll branch (L, N) l).1 (addAll branch (L, N) l).2) := Lib.hid (by have := HGr.out; rwa [List.take_length] at this)
        have HR : Hid (ABox wr (w.heap.size + 1 + 1) 36 [.slice none 0 0, .slice none 0 0]) := Lib.hid ((HBr.out.block _ (by have := HZ0.out; omega)).trans HX2.out)
        have k0 := HGe.out.o.cell 0 rfl
        have k1 := HGe.out.o.cell 1 rfl
        have r0 := HR.out.cell 0 rfl
        have r1 := (HR.out.set 0 v1).cell 1 rfl
        have rf := HR.out.fz
        have rf2 := (HR.out.set 0 v1).fz
        have HRR := Lib.hid ((HR.out.set 0 v1).set 1 v2)
        obtain ⟨A5, c5, e5, -⟩ := HGe.out.l.form
        obtain ⟨A6, c6, e6, -⟩ := HGe.out.n.form
        clear HGr HR
        obtain ⟨q, hqe⟩ : ∃ q, q = addAll branch (L, N) l := ⟨_, rfl⟩
        have HQE := Lib.hid hqe.symm
        rw [← hqe] at HGe e5 e6
        clear hqe
        clear hmf
        subst e5 e6
        go_wp2_with fail
        have hz := HZ0.out
        have hkk : ∀ g, w0.heap.size ≤ g → ((wr.setCell ⟨w.heap.size + 1 + 1, 0, none⟩ (.slice A5 q.1.length c5)).setCell ⟨w.heap.size + 1 + 1, 1, none⟩ (.slice A6 q.2.length c6)).heap[g]? = wr.heap[g]? := fun g hg => (heap_set _ _ _ _ (by omega)).trans (heap_set _ _ _ _ (by omega))
        refine bodyPost_ret (v := .agg #[.slice A5 q.1.length c5, .slice A6 q.2.length c6]) (results_cell_row Tryd.results15 _ _ (w.heap.size + 1 + 1) _ _ (0, 0) _ rfl HRR.out Tryd.underlying36 rfl (by kernel_rfl)) rfl ⟨_, _, rfl, ?_, ?_, ?_⟩
        · rw [HQE.out]; exact (own_keepH HGe.out.l (fun g hg => hkk g (HGe.out.l.lt g hg).1)).re (by omega)
        · rw [HQE.out]; exact (own_keepS HGe.out.n (fun g hg => hkk g (HGe.out.n.lt g hg).1)).re (by omega)
        · exact ((HB0.out.trans (HBr.out.mono (by omega))).setCell (p := ⟨_, 0, none⟩) (by show _ ≤ w.heap.size + 1 + 1; omega) _).setCell (p := ⟨_, 1, none⟩) (by show _ ≤ w.heap.size + 1 + 1; omega) _
end Go.Proofs.YthcklfelofpffaaDoor
