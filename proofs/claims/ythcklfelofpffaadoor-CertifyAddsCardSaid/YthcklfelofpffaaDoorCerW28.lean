/- A ledger of lists of sheets made from numbers. No condition but what the table holds. -/
import Derived.Test.YthcklfelofpffaaDoorCerW27
namespace Go.Proofs.YthcklfelofpffaaDoor
open Go.RowKit
theorem textB_len (s : ByteArray) : (textB s).length ≤ s.size + 11 := by
  unfold textB
  have := uintB_length s.size
  have h : s.data.toList.length = s.size := by rw [Array.length_toList]; rfl
  rw [List.length_append, h]; omega
theorem textsB_len : ∀ (l : List ByteArray), (∀ x ∈ l, x.size ≤ 14) → (l.flatMap textB).length ≤ 25 * l.length
  | [], _ => by simp
  | x :: l, h => by
    have h1 := textB_len x
    have h2 := h x (by simp)
    have h3 := textsB_len l (fun y hy => h y (by simp [hy]))
    rw [List.flatMap_cons, List.length_append, List.length_cons]; omega
theorem smallS_size (branch : Int) {s : Sheet} (h : SmallS s) : (sheetB branch s).length ≤ 1000 := by
  obtain ⟨h1, h2, h3, h4, h5⟩ := h
  have a := textsB_len s.body h4
  have b := textsB_len s.notes h5
  have c := textB_len s.label
  have d := uintB_length s.body.length
  have e := uintB_length s.notes.length
  have f := uintB_length (zig branch)
  unfold sheetB textsB intB
  simp only [List.length_append]
  omega
theorem ints_at {w : World} {S : Nat → Prop} {A : Option Addr} {c : Nat} {l : List (List Int)} (h : Sl w S A c l) {k : Nat} (hk : k < l.length) :
    ∃ b o A1 c1, A = some ⟨b, o, none⟩ ∧ S b ∧ b < w.heap.size ∧ w.cell? ⟨b, o + k, none⟩ = some (.slice A1 l[k].length c1) ∧ Sl w S A1 c1 l[k] := by
  obtain ⟨b, o, es, rfl, hb, hlt, ⟨A1, c1, rfl, hs, _⟩, hc⟩ := h.at_ hk
  have := hc 0 _ rfl
  exact ⟨b, o, A1, c1, rfl, hb, hlt, by simpa [Rep.size] using this, hs⟩
theorem Own.slv {α : Type} [Rep α] {w : World} {base n : Nat} {e : TypeId} {A : Option Addr} {c : Nat} {l : List α} (h : Own w base e (.slice A n c) l) (hn : n = l.length) : Sl w (fun b => b < w.heap.size) A c l := by
  subst hn
  obtain ⟨A', c', e', hs⟩ := h.sl
  cases e'
  exact hs
/-- An own row lies at or above its bound. -/
theorem Own.sl_far {α : Type} [Rep α] {w : World} {base n R : Nat} {e : TypeId} {A : Option Addr} {c : Nat} {l : List α} (h : Own w base e (.slice A n c) l) (hn : n = l.length) (hR : ∀ (S S' : Nat → Prop) (cs : List Value) (a : α), Rep.R w S cs a → Rep.R w S' cs a) (hb : R < base) : Sl w (fun b => b ≠ R) A c l := by
  subst hn
  obtain ⟨A', c', e', hs⟩ := h.sl
  cases e'
  refine ⟨hs.1, hs.2.1, fun h0 => ?_⟩
  obtain ⟨b, o, rfl, _, hlt, hx⟩ := hs.2.2 h0
  refine ⟨b, o, rfl, ?_, hlt, fun i hi => ?_⟩
  · obtain ⟨g, cap, es, e1, hg, _⟩ := h.at_ (k := 0) h0
    cases e1
    omega
  · obtain ⟨es, hr, hc⟩ := hx i hi
    exact ⟨es, hR _ _ _ _ hr, hc⟩
/-- What ledger returns. -/
def LedOut (w w' : World) (v1 v2 : Value) : Prop := ∃ (L : List H32) (N : List ByteArray) (A1 A2 : Option Addr) (c1 c2 : Nat), v1 = .slice A1 L.length c1 ∧ v2 = .slice A2 N.length c2 ∧
  Sl w' (fun b => b < w'.heap.size) A1 c1 L ∧ Sl w' (fun b => b < w'.heap.size) A2 c2 N ∧ L.length = N.length ∧ L.length ≤ 60 ∧ Below w.heap.size w w'
set_option maxRecDepth 100000 in
set_option maxHeartbeats 4000000 in
theorem ledger_any (branch : Int) (A : Option Addr) (c : Nat) (ll : List (List Int)) (w : World) (hbr : I64 branch) (hl : Sl w (fun b => b < w.heap.size) A c ll) (hK : KLaid w) :
    Calls Tryd.prog 20 #[.int .i64 branch, .slice A ll.length c] w fun e w' => ∃ v1 v2, e = .returned (.agg #[v1, v2]) ∧ LedOut w w' v1 v2 := by
  have HL := Lib.hid hl
  have HBR := Lib.hid hbr
  have HK := Lib.hid hK
  clear hl hbr hK
  have hba : Below w.heap.size w ((w.alloc (.cells #[.slice none 0 0, .slice none 0 0] 36)).alloc (.cells #[.slice none 0 0, .slice none 0 0] 36)) := ((Below.refl _ _).alloc (Nat.le_refl _) _).alloc (by simp) _
  have HB0 := Lib.hid hba
  have HRB : Hid (ABox ((w.alloc (.cells #[.slice none 0 0, .slice none 0 0] 36)).alloc (.cells #[.slice none 0 0, .slice none 0 0] 36)) w.heap.size 36 [.slice none 0 0, .slice none 0 0]) := Lib.hid (by unfold ABox; rw [Below.heap_alloc _ _ _ (by simp)]; exact heap_alloc_new w _)
  have HLD0 : Hid (LB ((w.alloc (.cells #[.slice none 0 0, .slice none 0 0] 36)).alloc (.cells #[.slice none 0 0, .slice none 0 0] 36)) (w.heap.size + 1) [] [] none 0 none 0) := Lib.hid ⟨heap_at (by simp), Sl.nil _ _ _ _ (by decide), Sl.nil _ _ _ _ (by decide)⟩
  clear hba
  go_enter Tryd.func20, Tryd.ntmps20
  go_upto_region 2 with (fail)
  generalize hw : World.alloc (World.alloc w _) _ = w1
  have hv : ((w.alloc (.cells #[.slice none 0 0, .slice none 0 0] 36)).alloc (.cells #[.slice none 0 0, .slice none 0 0] 36)) = w1 := hw
  rw [hv] at HB0 HRB HLD0
  clear hw hv
  have HOb : Hid (w.heap.size ≤ w.heap.size + 1) := Lib.hid (by omega)
  have HRO : Hid (w.heap.size < w.heap.size + 1) := Lib.hid (by omega)
  generalize w.heap.size + 1 = Ob at *
  go_wp2_with fail
  go_loopw [6] (fun i wr => ∃ (k : Nat) (L : List H32) (N : List ByteArray) (A1 : Option Addr) (c1 : Nat) (A2 : Option Addr) (c2 : Nat), k ≤ ll.length ∧ i = .int .i64 k ∧ k ≤ 5 ∧ Hid (L.length = N.length) ∧ Hid (L.length ≤ 12 * k) ∧ Hid (ABox wr Ob 36 [.slice A1 L.length c1, .slice A2 N.length c2]) ∧ Hid (Sl wr (fun b => b ≠ w.heap.size) A1 c1 L) ∧ Hid (Sl wr (fun b => b ≠ w.heap.size) A2 c2 N) ∧ Hid (Below w.heap.size w wr) ∧ Hid (ABox wr w.heap.size 36 [.slice none 0 0, .slice none 0 0])) (fun i _ => ll.length - (intOf i).toNat)
  case atStart => exact ⟨0, [], [], none, 0, none, 0, Nat.zero_le _, rfl, by omega, Lib.hid rfl, Lib.hid (by simp), Lib.hid HLD0.out.box, Lib.hid (Sl.nil _ _ _ _ (by decide)), Lib.hid (Sl.nil _ _ _ _ (by decide)), HB0, HRB⟩
  case round =>
    obtain ⟨k, L, N, A1, c1, A2, c2, hk, rfl, hk5, HLN, HLM', HLX, HSL, HSN, HBo, HRX⟩ := hrel
    have HLD : Hid (LB wr Ob L N A1 c1 A2 c2) := Lib.hid ⟨HLX.out, HSL.out.mono (fun _ _ h => h), HSN.out.mono (fun _ _ h => h)⟩
    by_cases hlt : k < ll.length
    · by_cases h5 : k < 5
      · obtain ⟨b, o, AX, cX, rfl, _, hbl, e0, sx⟩ := ints_at (HL.out.to HBo.out) hlt
        have hkl : (k : Int) < (ll.length : Int) := by omega
        have hk0 : (0 : Int) ≤ (k : Int) := by omega
        have hk5' : (k : Int) < 5 := by omega
        have HSX := Lib.hid sx
        have HE := Lib.hid (And.intro hbl e0)
        have HLM : Hid (L.length ≤ 60 ∧ L.length ≤ 12 * k) := Lib.hid ⟨by have := HLM'.out; omega, HLM'.out⟩
        generalize ll[k] = x at *
        have HSO : Hid (∀ W, Below wr.heap.size wr W → Calls Tryd.prog 10 #[.slice AX x.length cX] W fun e w' => ∃ v : Value, e = .returned v ∧ ∃ sh : List Sheet, Own w' W.heap.size 24 v sh ∧ sh.length ≤ 12 ∧ (∀ s ∈ sh, SmallS s) ∧ Below W.heap.size W w') := Lib.hid (fun W h => some_any AX cX x W (HSX.out.to h))
        have HKK : Hid (∀ W, Below wr.heap.size wr W → KLaid W) := Lib.hid (fun W h => HK.out.to (HBo.out.trans (h.mono HBo.out.size)))
        have SP : ∀ W, Below wr.heap.size wr W → W.cell? ⟨Ob, 0, none⟩ = some (.slice A1 L.length c1) ∧ W.cell? ⟨Ob, 1, none⟩ = some (.slice A2 N.length c2) ∧ W.cell? ⟨b, o + k, none⟩ = some (.slice AX x.length cX) := fun W h =>
          ⟨(HLD.out.box.to h).cell 0 rfl, (HLD.out.box.to h).cell 1 rfl, (h.cell (p := ⟨b, o + k, none⟩) HE.out.1).trans HE.out.2⟩
        clear sx e0 hbl HLM'
        go_upto_region 5 with (fail)
        refine wp_region_D (fun w' => w'.cell? ⟨Ob, 0, none⟩ = some (.slice A1 L.length c1) ∧ w'.cell? ⟨Ob, 1, none⟩ = some (.slice A2 N.length c2) ∧ w'.cell? ⟨b, o + k, none⟩ = some (.slice AX x.length cX)) (fun i => decide (i < 7)) (by kernel_rfl) ?_
        have hb0 : Hid (Below wr.heap.size wr wr.drew) := Lib.hid (Below.refl _ _).drew
        generalize wr.drew = W0 at *
        refine wpAnyE_take (i := 0) (oi := ⟨some 18, Op.load 36 (Operand.tmp 5), 36, _, _, _⟩) (v := ?_) rfl (by kernel_rfl) (by kernel_rfl) (by kernel_rfl) (by kernel_rfl) (by kernel_rfl) (fun _ _ _ h => h) (by rfl) ?hykr5_1 ((SP _ hb0.out)) ?hrkr5_1
        case hykr5_1 => (intro wS hSw; (have hq := hSw.1); (have hq2 := hSw.2.1); clear hSw; go_simp; (try with_reducible rfl))
        all_goals try simp only [Act.put, List.setIfInBounds_toArray, List.set_cons_zero, List.set_cons_succ]
        refine wpAnyE_take (i := 1) (oi := ⟨some 19, Op.move (Operand.tmp 0), 3, _, _, _⟩) (v := ?_) rfl (by kernel_rfl) (by kernel_rfl) (by kernel_rfl) (by kernel_rfl) (by kernel_rfl) (fun _ _ _ h => h) (by rfl) ?hykr5_2 ((SP _ hb0.out)) ?hrkr5_2
        case hykr5_2 => (intro wS hSw; clear hSw; go_simp; (try with_reducible rfl))
        all_goals try simp only [Act.put, List.setIfInBounds_toArray, List.set_cons_zero, List.set_cons_succ]
        refine wpAnyE_take (i := 2) (oi := ⟨some 20, Op.move (Operand.tmp 1), 33, _, _, _⟩) (v := ?_) rfl (by kernel_rfl) (by kernel_rfl) (by kernel_rfl) (by kernel_rfl) (by kernel_rfl) (fun _ _ _ h => h) (by rfl) ?hykr5_3 ((SP _ hb0.out)) ?hrkr5_3
        case hykr5_3 => (intro wS hSw; clear hSw; go_simp; (try with_reducible rfl))
        all_goals try simp only [Act.put, List.setIfInBounds_toArray, List.set_cons_zero, List.set_cons_succ]
        refine wpAnyE_take (i := 3) (oi := ⟨some 21, Op.move (Operand.tmp 6), 3, _, _, _⟩) (v := ?_) rfl (by kernel_rfl) (by kernel_rfl) (by kernel_rfl) (by kernel_rfl) (by kernel_rfl) (fun _ _ _ h => h) (by rfl) ?hykr5_4 ((SP _ hb0.out)) ?hrkr5_4
        case hykr5_4 => (intro wS hSw; clear hSw; go_simp; (try with_reducible rfl))
        all_goals try simp only [Act.put, List.setIfInBounds_toArray, List.set_cons_zero, List.set_cons_succ]
        refine wpAnyE_take (i := 4) (oi := ⟨some 22, Op.indexAddr 33 (Operand.tmp 20) (Operand.tmp 21), 0, _, _, _⟩) (v := ?_) rfl (by kernel_rfl) (by kernel_rfl) (by kernel_rfl) (by kernel_rfl) (by kernel_rfl) (fun _ _ _ h => h) (by rfl) ?hykr5_5 ((SP _ hb0.out)) ?hrkr5_5
        case hykr5_5 => (intro wS hSw; clear hSw; go_simp; (try with_reducible rfl))
        all_goals try simp only [Act.put, List.setIfInBounds_toArray, List.set_cons_zero, List.set_cons_succ]
        refine wpAnyE_take (i := 5) (oi := ⟨some 23, Op.load 25 (Operand.tmp 22), 25, _, _, _⟩) (v := ?_) rfl (by kernel_rfl) (by kernel_rfl) (by kernel_rfl) (by kernel_rfl) (by kernel_rfl) (fun _ _ _ h => h) (by rfl) ?hykr5_6 ((SP _ hb0.out)) ?hrkr5_6
        case hykr5_6 => (intro wS hSw; (have hq := hSw.2.2); clear hSw; go_simp; (try with_reducible rfl))
        all_goals try simp only [Act.put, List.setIfInBounds_toArray, List.set_cons_zero, List.set_cons_succ]
        refine wpAnyD_one (i := 6) (oi := ⟨some 24, Op.call { callee := Callee.value (Operand.func 10), args := #[Operand.tmp 23], argTypes := #[25] }, 26, _, _, _⟩) rfl (by kernel_rfl) (by rfl) (fun K hK => ?_)
        go_simp
        go_at_call 10
        refine (HSO.out W0 hb0.out).mono ?_
        rintro e W2 ⟨v2, rfl, sh, hown2, hlen2, hsm2, hb2⟩
        obtain ⟨A5, c5, rfl, hs5⟩ := hown2.sl
        have hbb := Lib.hid (hb0.out.trans (hb2.mono hb0.out.size))
        have HS5 := Lib.hid hs5
        have HSM := Lib.hid hsm2
        have HLE := Lib.hid hlen2
        clear hs5 hsm2 hlen2 hown2 hb2
        go_simp
        refine hK _ _ (fun _ => ?_) ?_
        · exact (SP _ hbb.out)
        clear hK K
        try simp only [Act.put, List.setIfInBounds_toArray, List.set_cons_zero, List.set_cons_succ]
        refine wpAnyD_one (i := 7) (oi := ⟨some 25, Op.call { callee := Callee.value (Operand.func 15), args := #[Operand.tmp 18, Operand.tmp 19, Operand.tmp 24], argTypes := #[36, 3, 26] }, 36, _, _, _⟩) rfl (by kernel_rfl) (by rfl) (fun K hK => ?_)
        go_simp
        go_at_call 15
        refine (add_any branch A1 A2 A5 c1 c2 c5 L N sh W2 HBR.out (HLD.out.l.to hbb.out) (HLD.out.n.to hbb.out) HS5.out HLN.out (by have := HLE.out; have := HLM.out; omega) (fun s hs => by have := smallS_size branch (HSM.out s hs); omega) (HKK.out _ hbb.out)).mono ?_
        rintro e W3 ⟨v6, v7, rfl, ho6, ho7, hb3⟩
        obtain ⟨A6, c6, rfl, -⟩ := ho6.sl
        obtain ⟨A7, c7, rfl, -⟩ := ho7.sl
        have HO6 := Lib.hid ho6
        have HO7 := Lib.hid ho7
        have hbz := Lib.hid (hbb.out.trans (hb3.mono hbb.out.size))
        have HLQ := Lib.hid (addAll_len branch sh (L, N) HLN.out)
        have HBX := Lib.hid (HLD.out.box.to hbz.out)
        have HOL : Hid (Ob < W2.heap.size) := Lib.hid (by have := HLD.out.box.lt; have := hbb.out.size; omega)
        generalize addAll branch (L, N) sh = q at *
        clear ho6 ho7 hb3
        go_simp
        refine hK _ _ (fun h => absurd h (by decide)) ?_
        clear hK K
        try simp only [Act.put, List.setIfInBounds_toArray, List.set_cons_zero, List.set_cons_succ]
        refine wpAnyD_one (i := 8) (oi := ⟨none, Op.store 36 (Operand.tmp 5) (Operand.tmp 25), 0, _, _, _⟩) rfl (by kernel_rfl) (by rfl) (fun K hK => ?_)
        have b0 := HBX.out.cell 0 rfl
        have bf := HBX.out.fz
        have b1 := (HBX.out.set 0 (.slice A6 q.1.length c6)).cell 1 rfl
        have bf1 := (HBX.out.set 0 (.slice A6 q.1.length c6)).fz
        go_simp
        refine hK _ _ (fun h => absurd h (by decide)) ?_
        clear hK K
        try simp only [Act.put]
        refine wpAnyD_done (by kernel_rfl) ?_ _
        unfold Exit.then
        go_wp2_with fail
        have HEND := Lib.hid ((HBX.out.set 0 (.slice A6 q.1.length c6)).set 1 (.slice A7 q.2.length c7))
        have hkk : ∀ g, g ≠ Ob → ((W3.setCell ⟨Ob, 0, none⟩ (.slice A6 q.1.length c6)).setCell ⟨Ob, 1, none⟩ (.slice A7 q.2.length c7)).heap[g]? = W3.heap[g]? := fun g hg => (heap_set _ _ _ _ hg).trans (heap_set _ _ _ _ hg)
        go_roundw
        case rel => exact ⟨k + 1, q.1, q.2, A6, c6, A7, c7, by omega, by go_num, by omega, Lib.hid HLQ.out.1, Lib.hid (by have h1 : q.1.length ≤ L.length + sh.length := HLQ.out.2; have := HLE.out; have := HLM.out; omega), Lib.hid HEND.out, Lib.hid ((own_keepH HO6.out (fun g hg => hkk g (by have := (HO6.out.lt g hg).1; have := HOL.out; omega))).sl_far rfl (fun _ _ _ _ h => h) (by have := HOL.out; have := HRO.out; omega)), Lib.hid ((own_keepS HO7.out (fun g hg => hkk g (by have := (HO7.out.lt g hg).1; have := HOL.out; omega))).sl_far rfl (fun _ _ _ _ h => h) (by have := HOL.out; have := HRO.out; omega)), Lib.hid (((HBo.out.trans (hbz.out.mono HBo.out.size)).setCell (p := ⟨Ob, 0, none⟩) HOb.out _).setCell (p := ⟨Ob, 1, none⟩) HOb.out _), Lib.hid ((hkk _ (by have := HRO.out; omega)).trans (HRX.out.to hbz.out))⟩
        case measure => (simp [intOf]; omega)
      · have h5' : ¬ (k : Int) < 5 := by omega
        have hkl : (k : Int) < (ll.length : Int) := by omega
        have k0 := HLD.out.box.cell 0 rfl
        have k1 := HLD.out.box.cell 1 rfl
        have r0 := HRX.out.cell 0 rfl
        have rf := HRX.out.fz
        have r1 := (HRX.out.set 0 (.slice A1 L.length c1)).cell 1 rfl
        have rf1 := (HRX.out.set 0 (.slice A1 L.length c1)).fz
        go_wp2_with fail
        have HEND := Lib.hid ((HRX.out.set 0 (.slice A1 L.length c1)).set 1 (.slice A2 N.length c2))
        have hkk : ∀ g, g ≠ w.heap.size → ((wr.setCell ⟨w.heap.size, 0, none⟩ (.slice A1 L.length c1)).setCell ⟨w.heap.size, 1, none⟩ (.slice A2 N.length c2)).heap[g]? = wr.heap[g]? := fun g hg => (heap_set _ _ _ _ hg).trans (heap_set _ _ _ _ hg)
        refine bodyPost_ret (v := .agg #[.slice A1 L.length c1, .slice A2 N.length c2]) (results_cell_row Tryd.results20 _ _ w.heap.size _ _ (0, 0) _ rfl HEND.out Tryd.underlying36 rfl (by kernel_rfl)) rfl ⟨_, _, rfl, L, N, A1, A2, c1, c2, rfl, rfl, ?_, ?_, HLN.out, by have := HLM'.out; omega, ?_⟩
        · exact (HSL.out.keep (fun g hg _ => hkk g hg) (by simp)).mono (fun _ _ h => h)
        · exact (HSN.out.keep (fun g hg _ => hkk g hg) (by simp)).mono (fun _ _ h => h)
        · exact (HBo.out.setCell (p := ⟨w.heap.size, 0, none⟩) (Nat.le_refl _) _).setCell (p := ⟨w.heap.size, 1, none⟩) (Nat.le_refl _) _
    · have hkl : ¬ (k : Int) < (ll.length : Int) := by omega
      have k0 := HLD.out.box.cell 0 rfl
      have k1 := HLD.out.box.cell 1 rfl
      have r0 := HRX.out.cell 0 rfl
      have rf := HRX.out.fz
      have r1 := (HRX.out.set 0 (.slice A1 L.length c1)).cell 1 rfl
      have rf1 := (HRX.out.set 0 (.slice A1 L.length c1)).fz
      go_wp2_with fail
      have HEND := Lib.hid ((HRX.out.set 0 (.slice A1 L.length c1)).set 1 (.slice A2 N.length c2))
      have hkk : ∀ g, g ≠ w.heap.size → ((wr.setCell ⟨w.heap.size, 0, none⟩ (.slice A1 L.length c1)).setCell ⟨w.heap.size, 1, none⟩ (.slice A2 N.length c2)).heap[g]? = wr.heap[g]? := fun g hg => (heap_set _ _ _ _ hg).trans (heap_set _ _ _ _ hg)
      refine bodyPost_ret (v := .agg #[.slice A1 L.length c1, .slice A2 N.length c2]) (results_cell_row Tryd.results20 _ _ w.heap.size _ _ (0, 0) _ rfl HEND.out Tryd.underlying36 rfl (by kernel_rfl)) rfl ⟨_, _, rfl, L, N, A1, A2, c1, c2, rfl, rfl, ?_, ?_, HLN.out, by have := HLM'.out; omega, ?_⟩
      · exact (HSL.out.keep (fun g hg _ => hkk g hg) (by simp)).mono (fun _ _ h => h)
      · exact (HSN.out.keep (fun g hg _ => hkk g hg) (by simp)).mono (fun _ _ h => h)
      · exact (HBo.out.setCell (p := ⟨w.heap.size, 0, none⟩) (Nat.le_refl _) _).setCell (p := ⟨w.heap.size, 1, none⟩) (Nat.le_refl _) _
end Go.Proofs.YthcklfelofpffaaDoor
