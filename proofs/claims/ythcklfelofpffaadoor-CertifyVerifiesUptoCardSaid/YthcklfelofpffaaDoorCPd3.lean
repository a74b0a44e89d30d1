/- The writer of numbers and strings. No condition but sizes.
The leaf of a sheet. No condition but sizes and what the table holds.
The index of the last label: slices.Backward, and the range over it. No condition.
Hash values in memory; copies of rows of hash values and of strings. No condition but sizes.
Two hash values compared. No condition.
A region that draws its order: what only reads is taken first, as long as the operations that wait for it, or for one that waits for it, have not come. No condition. -/
import Derived.Test.YthcklfelofpffaaDoorCPd2
import Derived.RangeFuncNested
import Derived.RangeFuncBound
import Derived.RangeFuncCalls
import Derived.RangeFuncLeaves
import Derived.RangeFuncBox
import Derived.Shelf.Abstract
import Derived.Shelf.RegionOpen
import Derived.WalkKit
import Derived.OwnWalkIn
import Derived.TacticsInMore
import Derived.LoopNIn
import Derived.LoopIn
import Derived.ChangeKeysEq
namespace Go.Proofs.YthcklfelofpffaaDoor
open Go.RowKit
/-- Appending a string: the row behind it is the old one or a new one. -/
theorem run_catS {P : Program} {w : World} (base : Nat) (t ts ty e : TypeId) (ht : P.underlying t = some (.slice e)) (hts : P.underlying ts = some .string) (hinfo : (P.info? e).map (fun i => (i.zero, i.size, i.bytes)) = some (some (.int .u8 0), 1, 1))
    (v : Value) (l : List UInt8) (hown : Own w base e v l) (b : ByteArray) (hbytes : l.length + b.size ≤ 140737488355328) (hbase : base ≤ w.heap.size) :
    ∃ v' w', (Builtin.append_ #[t, ts] ty #[v, .string b]).run P w = .ok v' w' ∧ Own w' base e v' (l ++ b.data.toList) ∧ w.grownBy w' v.ownBlock ∧ (v'.ownBlock = v.ownBlock ∨ ∀ g, v'.ownBlock = some g → w.heap.size ≤ g) := by
  obtain ⟨i, hi, hz, hz1, hz2⟩ := info_parts hinfo
  have hbl : b.data.toList.length = b.size := by rw [Array.length_toList]; rfl
  have hr := hown.rowB
  obtain ⟨v', w', hrun, h2, h3, _⟩ := Lib.run_append_own_string (P := P) w base t ts ty e i ht hts hi hz hz1 hz2 v l.length (l.map encB) hr b (by simp only [maxLen]; omega) hbytes hbase
  refine ⟨v', w', hrun, own_of_row (by rw [List.length_append, hbl, List.map_append, ← strCells_eq]; exact h2), h3, ?_⟩
  rcases hr.2 with ⟨rfl, hn⟩ | ⟨g, cap, cur, rfl, hb, hg, hnc, hcm, hcs, htk⟩
  · obtain ⟨v2, w2, hrun2, k2, _, _⟩ := Lib.run_append_own_string (P := P) w w.heap.size t ts ty e i ht hts hi hz hz1 hz2 (.slice none 0 0) l.length (l.map encB) ⟨hr.1, .inl ⟨rfl, hn⟩⟩ b (by simp only [maxLen]; omega) hbytes (Nat.le_refl _)
    rw [hrun] at hrun2
    obtain ⟨rfl, rfl⟩ := Result.ok.inj hrun2
    refine .inr fun g hg => ?_
    rcases k2.2 with ⟨rfl, _⟩ | ⟨g2, cap, cur, rfl, hb, _⟩
    · cases hg
    · have hg' : some g2 = some g := hg
      cases hg'; exact hb
  · by_cases hroom : l.length + b.size ≤ cap
    · have hq := Lib.run_append_room_string (P := P) w t ts ty e i ht hts hi hz1 g l.length cap cur hg b hroom (by rw [hcs]; omega)
      rw [hrun] at hq
      obtain ⟨rfl, _⟩ := Result.ok.inj hq
      exact .inl rfl
    · have holds : ∀ j u, (l.map encB)[j]? = some u → w.cell? ((⟨g, 0, none⟩ : Addr).add j) = some u := hr.cells (g := g) rfl
      have hq := Lib.run_append_grow_string (P := P) w t ts ty e i (.int .u8 0) ht hts hi hz ⟨g, 0, none⟩ l.length cap (l.map encB) (by rw [hz1]; simp) holds b (by omega) (by omega) (by rw [hz2]; exact growslice_fits (by omega) (by omega))
      rw [hrun] at hq
      obtain ⟨rfl, _⟩ := Result.ok.inj hq
      exact .inr fun g' hg' => by have : some w.heap.size = some g' := hg'; cases this; exact Nat.le_refl _
theorem wpList_catT {P : Program} {w : World} {ops : Array Oper} {rest : List Oper} {o : Oper} {a : Act} {Q : Exit → Act → World → Prop} (hgd : o.guard = none) (s x : Operand) (t ts : TypeId)
    (ho : o.op = .call { callee := .builtin .append, args := #[s, x], argTypes := #[t, ts] })
    (base : Nat) (e : TypeId) (ht : P.underlying t = some (.slice e)) (hts : P.underlying ts = some .string) (hinfo : (P.info? e).map (fun i => (i.zero, i.size, i.bytes)) = some (some (.int .u8 0), 1, 1))
    (v : Value) (l : List UInt8) (hs : a.eval s = v) (hown : Own w base e v l) (b : ByteArray) (hx : a.eval x = .string b)
    (hbytes : l.length + b.size ≤ 140737488355328) (hbase : base ≤ w.heap.size)
    (h : ∀ v' w', Own w' base e v' (l ++ b.data.toList) → w.grownBy w' v.ownBlock → (v'.ownBlock = v.ownBlock ∨ ∀ g, v'.ownBlock = some g → w.heap.size ≤ g) → wpList P ops Q rest (a.put o.dst v') w') : wpList P ops Q (o :: rest) a w :=
  wpList_plain hgd fun K hK => by
    obtain ⟨v', w', hrun, h2, h3, h4⟩ := run_catS base t ts o.type e ht hts hinfo v l hown b hbytes hbase
    unfold Oper.wp execOp
    simp only [ho, resolve, invoke, builtin, Sem.run_bind, Sem.run_pure, Result.andThen_ok, List.map_toArray, List.map_cons, List.map_nil, hs, hx, hrun]
    exact hK _ _ (h v' w' h2 h3 h4)
theorem ownB_keep {w w' : World} {base : Nat} {e : TypeId} {v : Value} {l : List UInt8} (h : Own w base e v l) (hk : ∀ g, v.ownBlock = some g → w'.heap[g]? = w.heap[g]?) : Own w' base e v l := by
  refine own_of_row ?_
  have hr := h.rowB
  refine ⟨hr.1, ?_⟩
  rcases hr.2 with hn | ⟨g, cap, cur, rfl, hb, hg, rest⟩
  · exact .inl hn
  · exact .inr ⟨g, cap, cur, rfl, hb, (hk g rfl).trans hg, rest⟩
/-- The writer at P has collected l. -/
structure WS (w : World) (P base : Nat) (v : Value) (l : List UInt8) : Prop where
  p : ABox w P 63 [v]
  own : Own w base 5 v l
  lt : P < base
  bs : base ≤ w.heap.size
/-- Nothing old is written but the writer and its row; its row is the old one or a new one. -/
structure Mov (w : World) (P : Nat) (v : Value) (w' : World) (v' : Value) : Prop where
  os : w'.os = w.os
  tape : w'.tape = w.tape
  output : w'.output = w.output
  size : w.heap.size ≤ w'.heap.size
  block : ∀ i, i < w.heap.size → i ≠ P → some i ≠ v.ownBlock → w'.heap[i]? = w.heap[i]?
  row : v'.ownBlock = v.ownBlock ∨ ∀ g, v'.ownBlock = some g → w.heap.size ≤ g
theorem Mov.refl (w : World) (P : Nat) (v : Value) : Mov w P v w v := ⟨rfl, rfl, rfl, Nat.le_refl _, fun _ _ _ _ => rfl, .inl rfl⟩
theorem Mov.trans {w w1 w2 : World} {P : Nat} {v v1 v2 : Value} (h : Mov w P v w1 v1) (k : Mov w1 P v1 w2 v2) : Mov w P v w2 v2 := by
  refine ⟨k.os.trans h.os, k.tape.trans h.tape, k.output.trans h.output, Nat.le_trans h.size k.size, fun i hi hp hr => ?_, ?_⟩
  · refine (k.block i (by have := h.size; omega) hp ?_).trans (h.block i hi hp hr)
    rcases h.row with e | e
    · rw [e]; exact hr
    · intro he; have := e i he.symm; omega
  · rcases k.row with e | e
    · rcases h.row with f | f
      · exact .inl (e.trans f)
      · exact .inr (fun g hg => f g (e ▸ hg))
    · exact .inr (fun g hg => Nat.le_trans h.size (e g hg))
theorem Mov.below {B : Nat} {w0 w w' : World} {P : Nat} {v v' : Value} (hb : Below B w0 w) (h : Mov w P v w' v') (hB : B ≤ w.heap.size) (hP : B ≤ P) (hv : ∀ g, v.ownBlock = some g → B ≤ g) : Below B w0 w' :=
  ⟨h.os.trans hb.os, h.tape.trans hb.tape, h.output.trans hb.output, Nat.le_trans hb.size h.size, fun i hi => (h.block i (by omega) (by omega) (fun e => by have := hv i e.symm; omega)).trans (hb.block i hi)⟩
theorem Mov.of_below {w w1 w2 : World} {P : Nat} {v v2 : Value} (hb : Below w.heap.size w w1) (h : Mov w1 P v w2 v2) : Mov w P v w2 v2 :=
  ⟨h.os.trans hb.os, h.tape.trans hb.tape, h.output.trans hb.output, Nat.le_trans hb.size h.size, fun i hi hp hr => (h.block i (by have := hb.size; omega) hp hr).trans (hb.block i hi), h.row.imp id (fun e g hg => Nat.le_trans hb.size (e g hg))⟩
theorem WS.box5 {w w5 : World} {P base : Nat} {v : Value} {l : List UInt8} {o : Obj} (h : WS w P base v l) (hg : (w.alloc o).grownBy w5 v.ownBlock) : ABox w5 P 63 [v] := by
  have hlt := h.p.lt
  have hpv : some P ≠ v.ownBlock := fun e => by have := (h.own.lt P e.symm).1; have := h.lt; omega
  exact (hg.block P (by simp; omega) hpv).trans ((Below.heap_alloc w o P hlt).trans h.p)
theorem WS.box6 {w w5 : World} {P base : Nat} {v : Value} {l : List UInt8} (h : WS w P base v l) (hg : w.grownBy w5 v.ownBlock) : ABox w5 P 63 [v] := by
  have hpv : some P ≠ v.ownBlock := fun e => by have := (h.own.lt P e.symm).1; have := h.lt; omega
  exact (hg.block P h.p.lt hpv).trans h.p
/-- One byte more. -/
theorem WS.push {w w5 : World} {P base : Nat} {v : Value} {l m : List UInt8} {v5 : Value} {o : Obj} (h : WS w P base v l) (hown : Own w5 base 5 v5 m) (hg : (w.alloc o).grownBy w5 v.ownBlock) (hat : v5.ownBlock = v.ownBlock ∨ ∀ g, v5.ownBlock = some g → w.heap.size ≤ g) :
    WS (w5.setCell ⟨P, 0, none⟩ v5) P base v5 m ∧ Mov w P v (w5.setCell ⟨P, 0, none⟩ v5) v5 := by
  have hz : w.heap.size + 1 ≤ w5.heap.size := by have := hg.size; simpa using this
  have hlt := h.p.lt
  have hbs := h.bs
  have hpv : some P ≠ v.ownBlock := fun e => by have := (h.own.lt P e.symm).1; have := h.lt; omega
  have hp5 : ABox w5 P 63 [v] := (hg.block P (by simp; omega) hpv).trans ((Below.heap_alloc w o P hlt).trans h.p)
  refine ⟨⟨hp5.set 0 v5, ?_, h.lt, by simp; omega⟩, ⟨?_, ?_, ?_, by simp; omega, fun i hi hp hr => ?_, hat⟩⟩
  · exact ownB_keep hown (fun g hg' => heap_set _ _ _ _ (by have := (hown.lt g hg').1; have := h.lt; omega))
  · exact hg.os
  · exact hg.tape
  · exact hg.output
  · exact (heap_set _ _ _ _ hp).trans ((hg.block i (by simp; omega) hr).trans (Below.heap_alloc w o i hi))
theorem WS.cat {w w5 : World} {P base : Nat} {v : Value} {l m : List UInt8} {v5 : Value} (h : WS w P base v l) (hown : Own w5 base 5 v5 m) (hg : w.grownBy w5 v.ownBlock) (hat : v5.ownBlock = v.ownBlock ∨ ∀ g, v5.ownBlock = some g → w.heap.size ≤ g) :
    WS (w5.setCell ⟨P, 0, none⟩ v5) P base v5 m ∧ Mov w P v (w5.setCell ⟨P, 0, none⟩ v5) v5 := by
  have hz : w.heap.size ≤ w5.heap.size := hg.size
  have hlt := h.p.lt
  have hbs := h.bs
  have hpv : some P ≠ v.ownBlock := fun e => by have := (h.own.lt P e.symm).1; have := h.lt; omega
  have hp5 : ABox w5 P 63 [v] := (hg.block P hlt hpv).trans h.p
  refine ⟨⟨hp5.set 0 v5, ?_, h.lt, by simp; omega⟩, ⟨?_, ?_, ?_, by simp; omega, fun i hi hp hr => ?_, hat⟩⟩
  · exact ownB_keep hown (fun g hg' => heap_set _ _ _ _ (by have := (hown.lt g hg').1; have := h.lt; omega))
  · exact hg.os
  · exact hg.tape
  · exact hg.output
  · exact (heap_set _ _ _ _ hp).trans (hg.block i hi hr)
set_option maxRecDepth 100000 in
set_option maxHeartbeats 4000000 in
theorem uint_any (P base : Nat) (v : Value) (l : List UInt8) (n : Nat) (w : World) (h : WS w P base v l) (hn : n < 18446744073709551616) (hl : l.length ≤ 1073741824) :
    Calls Tryd.prog 34 #[.pointer (some ⟨P, 0, none⟩), .int .u64 (n : Int)] w fun e w' => e = .returned (.tuple #[]) ∧ ∃ v', WS w' P base v' (l ++ uintB n) ∧ Mov w P v w' v' := by
  have HW := Lib.hid h
  have HL := Lib.hid hl
  have HNN := Lib.hid hn
  clear h hl hn
  go_enter Tryd.func34, Tryd.ntmps34
  go_wp2_with fail
  go_loopw [1] (fun x wr => ∃ (m : Nat) (v1 : Value) (l1 : List UInt8), x = .int .u64 (m : Int) ∧ m ≤ n ∧ Hid (uintB n = l1 ++ uintB m) ∧ Hid (WS wr P base v1 (l ++ l1)) ∧ Hid (Mov w P v wr v1)) (fun x _ => (intOf x).toNat)
  case atStart => exact ⟨n, v, [], rfl, Nat.le_refl _, rfl, by rw [List.append_nil]; exact HW, Lib.hid (Mov.refl _ _ _)⟩
  case round =>
    obtain ⟨m, v1, l1, rfl, hm, hu, hws, hmv⟩ := hrel
    by_cases hge : 128 ≤ m
    · have hge' : (128 : Int) ≤ (m : Int) := by omega
      have HUB := Lib.hid (uintB_ge hge (by have := HNN.out; omega))
      have q1 := or128 m
      have q2 : (m : Int) / 128 = ((m / 128 : Nat) : Int) := by omega
      have HM2 : Hid (m / 128 ≤ n ∧ m / 128 < m) := Lib.hid ⟨by omega, by omega⟩
      have hm0 : (0 : Int) ≤ (m : Int) := by omega
      generalize UInt8.ofNat (m % 128 + 128) = by8 at *
      generalize m / 128 = m2 at *
      have HOA := Lib.hid (hws.out.own.alloc (.cells #[.int .u8 (by8.toNat : Int)] 5))
      have hcA : (wr.alloc (.cells #[.int .u8 (by8.toNat : Int)] 5)).cell? ⟨P, 0, none⟩ = some v1 := (hws.out.p.to ((Below.refl wr.heap.size wr).alloc (Nat.le_refl _) _)).cell 0 rfl
      have hcP := hws.out.p.cell 0 rfl
      have HBS := Lib.hid hws.out.bs
      have hfz := hws.out.p.fz
      have HLN : Hid ((l ++ l1).length ≤ 1073741900) := Lib.hid (by
        have h1 := uintB_length n
        have h2 := congrArg List.length hu.out
        have h3 := HL.out
        rw [List.length_append] at h2 ⊢; omega)
      obtain ⟨l5, hl5⟩ : ∃ l5, l5 = l ++ l1 := ⟨_, rfl⟩
      rw [← hl5] at HOA HLN hws
      have HL5 := Lib.hid hl5
      clear hl5

      go_wp2_with (at_builtin; refine wpList_push (α := UInt8) _ rfl (.tmp 13) (.tmp 17) 59 rfl base 5 (.int .u8 0) 1 Tryd.underlying59 b_info rfl (by decide) v1 l5 rfl HOA.out wr.heap.size #[.int .u8 (by8.toNat : Int)] by8 (0, 0) 5 rfl (heap_alloc_new wr _) rfl (by have := HLN.out; omega) (by have := HLN.out; omega) (by have := HBS.out; simp; omega) (wr.heap.size + 1) (by simp) ?_; intro g5 cap5 w5 hown5 hg5 ho5 hlt5; have hp5 := hws.out.box5 hg5; have k5 := hp5.cell 0 rfl; have f5 := hp5.fz)
      have hat : (Value.slice (some ⟨g5, 0, none⟩) (l5.length + 1) cap5).ownBlock = v1.ownBlock ∨ ∀ g, (Value.slice (some ⟨g5, 0, none⟩) (l5.length + 1) cap5).ownBlock = some g → wr.heap.size ≤ g := by
        rcases ho5 with e | e
        · exact .inl (by rw [e]; rfl)
        · exact .inr (fun g hg => by have hg' : some g5 = some g := hg; cases hg'; omega)
      obtain ⟨hws2, hmv2⟩ := hws.out.push hown5 hg5 hat
      exact ⟨⟨m2, _, l1 ++ [by8], rfl, HM2.out.1, Lib.hid (by rw [hu.out, HUB.out, List.append_assoc]; rfl), Lib.hid (by rw [← List.append_assoc, ← HL5.out]; exact hws2), Lib.hid (hmv.out.trans hmv2)⟩, by have := HM2.out.2; simp [intOf]; omega⟩
    · have hge' : ¬ (128 : Int) ≤ (m : Int) := by omega
      have HUB := Lib.hid (uintB_lt (n := m) (by omega))
      have HBM : Hid ((m : Int) = ((UInt8.ofNat m).toNat : Int)) := Lib.hid (by rw [UInt8.toNat_ofNat']; omega)
      have hm0 : (0 : Int) ≤ (m : Int) := by omega
      generalize UInt8.ofNat m = by8 at *
      have HOA := Lib.hid (hws.out.own.alloc (.cells #[.int .u8 (m : Int)] 5))
      have hcA : (wr.alloc (.cells #[.int .u8 (m : Int)] 5)).cell? ⟨P, 0, none⟩ = some v1 := (hws.out.p.to ((Below.refl wr.heap.size wr).alloc (Nat.le_refl _) _)).cell 0 rfl
      have hcP := hws.out.p.cell 0 rfl
      have HBS := Lib.hid hws.out.bs
      have hfz := hws.out.p.fz
      have HLN : Hid ((l ++ l1).length ≤ 1073741900) := Lib.hid (by
        have h1 := uintB_length n
        have h2 := congrArg List.length hu.out
        have h3 := HL.out
        rw [List.length_append] at h2 ⊢; omega)
      obtain ⟨l5, hl5⟩ : ∃ l5, l5 = l ++ l1 := ⟨_, rfl⟩
      rw [← hl5] at HOA HLN hws
      have HL5 := Lib.hid hl5
      clear hl5

      go_wp2_with (at_builtin; refine wpList_push (α := UInt8) _ rfl (.tmp 27) (.tmp 30) 59 rfl base 5 (.int .u8 0) 1 Tryd.underlying59 b_info rfl (by decide) v1 l5 rfl HOA.out wr.heap.size #[.int .u8 (m : Int)] by8 (0, 0) 5 rfl (heap_alloc_new wr _) (by show [Value.int .u8 (m : Int)] = [Value.int .u8 (by8.toNat : Int)]; rw [HBM.out]) (by have := HLN.out; omega) (by have := HLN.out; omega) (by have := HBS.out; simp; omega) (wr.heap.size + 1) (by simp) ?_; intro g5 cap5 w5 hown5 hg5 ho5 hlt5; have hp5 := hws.out.box5 hg5; have k5 := hp5.cell 0 rfl; have f5 := hp5.fz)
      have hat : (Value.slice (some ⟨g5, 0, none⟩) (l5.length + 1) cap5).ownBlock = v1.ownBlock ∨ ∀ g, (Value.slice (some ⟨g5, 0, none⟩) (l5.length + 1) cap5).ownBlock = some g → wr.heap.size ≤ g := by
        rcases ho5 with e | e
        · exact .inl (by rw [e]; rfl)
        · exact .inr (fun g hg => by have hg' : some g5 = some g := hg; cases hg'; omega)
      obtain ⟨hws2, hmv2⟩ := hws.out.push hown5 hg5 hat
      go_end0
      exact ⟨rfl, _, by rw [hu.out, HUB.out, ← List.append_assoc, ← HL5.out]; exact hws2, hmv.out.trans hmv2⟩
set_option maxRecDepth 100000 in
set_option maxHeartbeats 1000000 in
theorem int_any (P base : Nat) (v : Value) (l : List UInt8) (n : Int) (w : World) (h : WS w P base v l) (hn : I64 n) (hl : l.length ≤ 1073741824) :
    Calls Tryd.prog 32 #[.pointer (some ⟨P, 0, none⟩), .int .i64 n] w fun e w' => e = .returned (.tuple #[]) ∧ ∃ v', WS w' P base v' (l ++ intB n) ∧ Mov w P v w' v' := by
  have HU := Lib.hid (uint_any P base v l (zig n) w h (zig_lt hn) hl)
  have q1 := zig_bits n hn
  unfold intB
  generalize zig n = z at *
  clear h hn hl
  go_enter Tryd.func32, Tryd.ntmps32
  go_wp2_with fail
  refine HU.out.mono ?_
  rintro e w1 ⟨rfl, v1, hws, hmv⟩
  have HWS := Lib.hid hws
  have HMV := Lib.hid hmv
  clear hws hmv HU
  go_wp2_with fail
  go_end0
  exact ⟨rfl, v1, HWS.out, HMV.out⟩
set_option maxRecDepth 100000 in
set_option maxHeartbeats 1000000 in
theorem text_any (P base : Nat) (v : Value) (l : List UInt8) (s : ByteArray) (w : World) (h : WS w P base v l) (hl : l.length ≤ 1073741000) (hs : s.size ≤ 1073741824) :
    Calls Tryd.prog 33 #[.pointer (some ⟨P, 0, none⟩), .string s] w fun e w' => e = .returned (.tuple #[]) ∧ ∃ v', WS w' P base v' (l ++ textB s) ∧ Mov w P v w' v' := by
  have HU := Lib.hid (uint_any P base v l s.size w h (by omega) (by omega))
  have HSL : Hid (∀ l5 : List UInt8, (l5 ++ s.data.toList).length = l5.length + s.size) := Lib.hid (fun l5 => by rw [List.length_append, Array.length_toList]; rfl)
  have HL : Hid ((l ++ uintB s.size).length ≤ 1073741824) := Lib.hid (by rw [List.length_append]; have := uintB_length s.size; omega)
  have HTB : Hid (l ++ textB s = l ++ uintB s.size ++ s.data.toList) := Lib.hid (by rw [List.append_assoc]; rfl)
  clear h hl
  go_enter Tryd.func33, Tryd.ntmps33
  go_wp2_with fail
  refine HU.out.mono ?_
  rintro e w1 ⟨rfl, v1, hws, hmv⟩
  have HWS := Lib.hid hws
  have HMV := Lib.hid hmv
  obtain ⟨l5, hl5⟩ : ∃ l5, l5 = l ++ uintB s.size := ⟨_, rfl⟩
  rw [← hl5] at HWS HTB HL
  have hcP := HWS.out.p.cell 0 rfl
  clear hl5 hws hmv HU
  go_wp2_with (at_builtin; refine wpList_catT rfl (.tmp 14) (.tmp 15) 59 9 rfl base 5 Tryd.underlying59 Tryd.underlying9 b_info v1 l5 rfl HWS.out.own s rfl (by have := HL.out; omega) HWS.out.bs ?_; intro v5 w5 hown5 hg5 hat5; obtain ⟨A5, c5, rfl, hsl5⟩ := hown5.sl; have hp5 := HWS.out.box6 hg5; have k5 := hp5.cell 0 rfl; have f5 := hp5.fz)
  go_end0
  have hL := HSL.out l5
  obtain ⟨hws2, hmv2⟩ := HWS.out.cat hown5 hg5 hat5
  rw [hL] at hws2 hmv2
  exact ⟨rfl, _, by rw [HTB.out]; exact hws2, HMV.out.trans hmv2⟩
set_option maxHeartbeats 1000000 in
theorem bclone_any (A : Option Addr) (c n : Nat) (l : List UInt8) (w : World) (hl : Sl w (fun b => b < w.heap.size) A c l) (hn : l.length = n) (hsz : n ≤ 68719476736) :
    Calls Tryd.prog 63 #[.slice A n c] w fun e w' => ∃ v, e = .returned v ∧ Own w' w.heap.size 5 v l ∧ Below w.heap.size w w' := by
  have hq := fun w' => Lib.run_eql_slice_nil (P := Tryd.prog) w' 59 5 A n c 0 0 Tryd.underlying59
  cases A with
  | none =>
    have hl0 : l = [] := by
      by_cases h0 : 0 < l.length
      · obtain ⟨b, o, e, _⟩ := hl.2.2 h0; cases e
      · exact List.eq_nil_of_length_eq_zero (by omega)
    subst hl0
    simp only [Option.isNone_none] at hq
    go_enter Tryd.func63, Tryd.ntmps63
    go_wp2_with fail
    go_ret
    exact ⟨_, rfl, Own.nil _ _ _, Below.refl _ _⟩
  | some a =>
    simp only [Option.isNone_some] at hq
    go_enter Tryd.func63, Tryd.ntmps63
    go_wp2_with (at_builtin; refine wpList_cat (α := UInt8) _ rfl (.tmp 5) (.tmp 6) 59 rfl w.heap.size 5 (.int .u8 0) 1 Tryd.underlying59 b_info rfl (by decide) (.slice (some ⟨w.heap.size, 0, none⟩) 0 0) [] rfl (Own.made w _ _ (Nat.le_refl _)) (some a) c n l rfl hn (fun b => b < w.heap.size) (hl.keep (Kept.all ((Below.refl _ _).alloc (Nat.le_refl _) _)) (by simp)) (by intro i (hi : i < w.heap.size) _ e; simp [Value.ownBlock] at e; omega) (by simp; omega) (by simp; omega) (by simp) ?_; intro v2 w2 hown2 hg2 _)
    go_ret
    exact ⟨_, rfl, hown2, below_cat ((Below.refl _ _).alloc (Nat.le_refl _) _) (Own.made (α := UInt8) w _ _ (Nat.le_refl _)) (by simp) hg2⟩
theorem WS.slB {w : World} {P base : Nat} {v : Value} {l : List UInt8} (h : WS w P base v l) : ∃ A c, v = .slice A l.length c ∧ Sl w (fun b => b < w.heap.size) A c l := h.own.sl
set_option maxHeartbeats 1000000 in
theorem done_any (P base : Nat) (v : Value) (l : List UInt8) (w : World) (h : WS w P base v l) (hl : l.length ≤ 1073741824) :
    Calls Tryd.prog 35 #[.pointer (some ⟨P, 0, none⟩)] w fun e w' => ∃ v', e = .returned v' ∧ Own w' w.heap.size 5 v' l ∧ Below w.heap.size w w' := by
  obtain ⟨A, c, rfl, hs⟩ := h.slB
  have HC := Lib.hid (bclone_any A c l.length l w hs rfl (by omega))
  have hcP := h.p.cell 0 rfl
  clear h hs hl
  go_enter Tryd.func35, Tryd.ntmps35
  go_wp2_with fail
  refine HC.out.mono ?_
  rintro e w1 ⟨v1, rfl, hown, hb⟩
  have HO := Lib.hid hown
  have HB := Lib.hid hb
  clear hown hb
  go_wp2_with fail
  go_ret
  exact ⟨_, rfl, HO.out, HB.out⟩
end Go.Proofs.YthcklfelofpffaaDoor
namespace Go.Proofs.YthcklfelofpffaaDoor
open Go.RowKit
instance : Rep ByteArray where
  size := 1
  R _ _ cs s := cs = [.string s]
  len h := by subst h; rfl
  one h := by subst h; intro u hu; simp at hu; subst hu; rfl
  keep h _ := h
  mono h _ := h
structure Sheet where
  label : ByteArray
  body : List ByteArray
  notes : List ByteArray
/-- The encoding of a sheet of a branch. -/
def sheetB (branch : Int) (s : Sheet) : List UInt8 := intB branch ++ textB s.label ++ textsB s.body ++ textsB s.notes
def leafOf (branch : Int) (s : Sheet) : List UInt8 := leafH (sheetB branch s)
/-- The walk's state. -/
structure LS (w wr : World) (P R : Nat) (v : Value) (l : List UInt8) : Prop where
  eR : R = w.heap.size + 1
  eP : P = w.heap.size + 2
  ws : WS wr P (P + 1) v l
  r : ABox wr R 29 (zer32.map encB)
  b : Below w.heap.size w wr
theorem LS.mov {w wr w' : World} {P R : Nat} {v v' : Value} {l l' : List UInt8} (h : LS w wr P R v l) (hw : WS w' P (P + 1) v' l') (hm : Mov wr P v w' v') : LS w w' P R v' l' := by
  have h1 := h.eR; have h2 := h.eP
  exact ⟨h1, h2, hw, (hm.block R h.r.lt (by omega) (fun e => by have := (h.ws.own.lt R e.symm).1; omega)).trans h.r, hm.below h.b h.b.size (by omega) (fun g hg => by have := (h.ws.own.lt g hg).1; omega)⟩
theorem LS.to {w wr w' : World} {P R : Nat} {v : Value} {l : List UInt8} (h : LS w wr P R v l) (hb : Below wr.heap.size wr w') : LS w w' P R v l :=
  ⟨h.eR, h.eP, ⟨h.ws.p.to hb, h.ws.own.below hb, h.ws.lt, Nat.le_trans h.ws.bs hb.size⟩, h.r.to hb, h.b.trans (hb.mono h.b.size)⟩
/-- A block that is neither the writer nor its row. -/
structure QS (wr : World) (P Q : Nat) (v : Value) (t : TypeId) (cs : List Value) : Prop where
  q : ABox wr Q t cs
  np : Q ≠ P
  nr : some Q ≠ v.ownBlock
theorem QS.mov {wr w' : World} {P Q : Nat} {v v' : Value} {t : TypeId} {cs : List Value} (h : QS wr P Q v t cs) (hm : Mov wr P v w' v') : QS w' P Q v' t cs := by
  refine ⟨(hm.block Q h.q.lt h.np h.nr).trans h.q, h.np, ?_⟩
  rcases hm.row with e | e
  · rw [e]; exact h.nr
  · intro he; have := e Q he.symm; have := h.q.lt; omega
def partsB (s : Sheet) : Nat → List UInt8
  | 0 => []
  | 1 => textsB s.body
  | _ => textsB s.body ++ textsB s.notes
theorem flat_take (L : List ByteArray) (j : Nat) (h : j < L.length) : (L.take (j + 1)).flatMap textB = (L.take j).flatMap textB ++ textB L[j] := by
  rw [List.take_succ_eq_append_getElem h, List.flatMap_append]; simp
theorem flat_le (L : List ByteArray) (j : Nat) : ((L.take j).flatMap textB).length ≤ (L.flatMap textB).length := by
  conv => rhs; rw [← List.take_append_drop j L]
  rw [List.flatMap_append, List.length_append]; omega
theorem uintB_pos (n : Nat) : 1 ≤ (uintB n).length := by
  unfold uintB uintF; split <;> simp
theorem flat_ge : ∀ (L : List ByteArray), L.length ≤ (L.flatMap textB).length
  | [] => by simp
  | s :: L => by
    rw [List.flatMap_cons, List.length_append, List.length_cons]
    have h1 := flat_ge L
    have h2 : 1 ≤ (textB s).length := by unfold textB; rw [List.length_append]; have := uintB_pos s.size; omega
    omega
theorem textB_size (s : ByteArray) : s.size ≤ (textB s).length := by
  have : s.data.toList.length = s.size := by rw [Array.length_toList]; rfl
  unfold textB; rw [List.length_append, this]; omega
theorem str_at {w : World} {S : Nat → Prop} {A : Option Addr} {c : Nat} {l : List ByteArray} (h : Sl w S A c l) {k : Nat} (hk : k < l.length) :
    ∃ b o, A = some ⟨b, o, none⟩ ∧ S b ∧ b < w.heap.size ∧ w.cell? ⟨b, o + k, none⟩ = some (.string l[k]) := by
  obtain ⟨b, o, es, rfl, hb, hlt, he, hc⟩ := h.at_ hk
  have he' : es = [.string l[k]] := he
  subst he'
  have := hc 0 _ rfl
  exact ⟨b, o, rfl, hb, hlt, by simpa [Rep.size] using this⟩
theorem sheetB_parts (branch : Int) (s : Sheet) : sheetB branch s = intB branch ++ textB s.label ++ partsB s 2 := by
  unfold sheetB partsB; simp [List.append_assoc]
/-- The list of part k. -/
theorem part_of {wr w : World} {Q P : Nat} {v : Value} {s : Sheet} {A B : Option Addr} {c d : Nat} (hq : QS wr P Q v 22 [.slice A s.body.length c, .slice B s.notes.length d]) (ha : Sl w (fun b => b < w.heap.size) A c s.body) (hb : Sl w (fun b => b < w.heap.size) B d s.notes) (k : Nat) (hk : k < 2) :
    ∃ (L : List ByteArray) (AL : Option Addr) (cL : Nat), wr.cell? ⟨Q, k, none⟩ = some (.slice AL L.length cL) ∧ Sl w (fun b => b < w.heap.size) AL cL L ∧ partsB s (k + 1) = partsB s k ++ textsB L ∧ (partsB s (k + 1)).length ≤ (partsB s 2).length := by
  have : k = 0 ∨ k = 1 := by omega
  rcases this with rfl | rfl
  · exact ⟨s.body, A, c, hq.q.cell 0 rfl, ha, rfl, by unfold partsB; simp⟩
  · exact ⟨s.notes, B, d, hq.q.cell 1 rfl, hb, rfl, Nat.le_refl _⟩
set_option maxRecDepth 100000 in
set_option maxHeartbeats 4000000 in
theorem leafS_any (branch : Int) (s : Sheet) (A B : Option Addr) (c d : Nat) (w : World) (hbr : I64 branch) (ha : Sl w (fun b => b < w.heap.size) A c s.body) (hb : Sl w (fun b => b < w.heap.size) B d s.notes) (hsz : (sheetB branch s).length ≤ 1073740000) (hK : KLaid w) :
    Calls Tryd.prog 11 #[.int .i64 branch, .agg #[.string s.label, .slice A s.body.length c, .slice B s.notes.length d]] w fun e w' => e = .returned (hashV (leafOf branch s)) ∧ Below w.heap.size w w' := by
  have HA := Lib.hid ha
  have HB := Lib.hid hb
  have HK := Lib.hid hK
  have HBR := Lib.hid hbr
  have HSZ := Lib.hid hsz
  clear ha hb hK hbr hsz
  go_enter Tryd.func11, Tryd.ntmps11
  go_upto_region 2 with (fail)
  generalize hw1 : (World.alloc (World.alloc (World.alloc w _) _) _) = w1
  have HLS : Hid (LS w w1 (w.heap.size + 2) (w.heap.size + 1) (.slice none 0 0) []) := by
    subst hw1
    exact Lib.hid ⟨rfl, rfl, ⟨heap_at (by simp), Own.nil _ _ _, by omega, by simp⟩, (Below.heap_alloc _ _ _ (by simp)).trans (heap_at (by simp)), (((Below.refl _ _).alloc (Nat.le_refl _) _).alloc (by simp) _).alloc (by first | (simp; done) | (simp; omega)) _⟩
  have HD : Hid (ABox w1 w.heap.size 24 [.string s.label, .slice A s.body.length c, .slice B s.notes.length d]) := by
    subst hw1
    exact Lib.hid ((Below.heap_alloc _ _ _ (by first | (simp; done) | (simp; omega))).trans ((Below.heap_alloc _ _ _ (by simp)).trans (heap_at rfl)))
  clear hw1
  have eP : w.heap.size + 1 + 1 = w.heap.size + 2 := by omega
  rw [eP]
  clear eP
  generalize w.heap.size + 1 = R at *
  generalize w.heap.size + 2 = P at *
  have HQD : Hid (QS w1 P w.heap.size (.slice none 0 0) 24 [.string s.label, .slice A s.body.length c, .slice B s.notes.length d]) := Lib.hid ⟨HD.out, by have := HLS.out.eP; omega, by simp [Value.ownBlock]⟩
  have HTOT : Hid ((intB branch).length + (textB s.label).length + (partsB s 2).length ≤ 1073740000) := Lib.hid (by have := HSZ.out; rw [sheetB_parts] at this; simpa [List.length_append, Nat.add_assoc] using this)
  have HI := Lib.hid (int_any P (P + 1) _ [] branch w1 HLS.out.ws HBR.out (by simp))
  rw [List.nil_append] at HI
  clear HD
  go_wp2_with fail
  refine HI.out.mono ?_
  rintro e w2 ⟨rfl, v2, hws2, hmv2⟩
  have HLS2 := Lib.hid (HLS.out.mov hws2 hmv2)
  have HQD2 := Lib.hid (HQD.out.mov hmv2)
  clear hws2 hmv2 HLS HQD HI
  have HT := Lib.hid (text_any P (P + 1) v2 (intB branch) s.label w2 HLS2.out.ws (by have := HTOT.out; omega) (by have := HTOT.out; have := textB_size s.label; omega))
  have k0 := HQD2.out.q.cell 0 rfl
  go_wp2_with fail
  refine HT.out.mono ?_
  rintro e w3 ⟨rfl, v3, hws3, hmv3⟩
  have HLS3 := Lib.hid (HLS2.out.mov hws3 hmv3)
  have HQD3 := Lib.hid (HQD2.out.mov hmv3)
  clear hws3 hmv3 HLS2 HQD2 HT k0
  have k1 := HQD3.out.q.cell 1 rfl
  have k2 := HQD3.out.q.cell 2 rfl
  go_wp2_with fail
  have hba : Below w3.heap.size w3 (w3.alloc (.cells #[.slice A s.body.length c, .slice B s.notes.length d] 22)) := (Below.refl _ _).alloc (Nat.le_refl _) _
  have HQ : Hid (QS (w3.alloc (.cells #[.slice A s.body.length c, .slice B s.notes.length d] 22)) P w3.heap.size v3 22 [.slice A s.body.length c, .slice B s.notes.length d]) := Lib.hid ⟨heap_alloc_new w3 _, by have := HLS3.out.ws.p.lt; omega, fun e => by have := (HLS3.out.ws.own.lt _ e.symm).2; omega⟩
  have HLSa := Lib.hid (HLS3.out.to hba)
  clear hba HLS3 HQD3 k1 k2
  generalize (w3.alloc (.cells #[.slice A s.body.length c, .slice B s.notes.length d] 22)) = w4 at *
  generalize w3.heap.size = Q at *
  obtain ⟨pre, hpre⟩ : ∃ pre, pre = intB branch ++ textB s.label := ⟨_, rfl⟩
  have HPL : Hid (pre.length + (partsB s 2).length ≤ 1073740000) := Lib.hid (by have := HTOT.out; rw [hpre, List.length_append]; omega)
  have HE : Hid (leafOf branch s = leafH (pre ++ partsB s 2)) := Lib.hid (by rw [leafOf, sheetB_parts, hpre])
  have HLSb : Hid (LS w w4 P R v3 (pre ++ partsB s 0)) := Lib.hid (by rw [hpre, partsB, List.append_nil]; exact HLSa.out)
  clear HLSa hpre HTOT HSZ
  go_loopw [7, 9, 21] (fun _ _ i wr => ∃ (k : Nat) (v1 : Value), k ≤ 2 ∧ i = .int .i64 k ∧ Hid (LS w wr P R v1 (pre ++ partsB s k)) ∧ Hid (QS wr P Q v1 22 [.slice A s.body.length c, .slice B s.notes.length d])) (fun _ _ i _ => 2 - (intOf i).toNat)
  case atStart => exact ⟨0, v3, by omega, rfl, HLSb, HQ⟩
  case round =>
    obtain ⟨k, v1, hk, rfl, hls, hqs⟩ := hrel
    by_cases hlt : k < 2
    · have hlt2 : (k : Int) < 2 := by omega
      have hk0 : (0 : Int) ≤ (k : Int) := by omega
      obtain ⟨L, AL, cL, hcell, hsl, hpk, hple⟩ := part_of hqs.out HA.out HB.out k hlt
      have HSL := Lib.hid hsl
      have HPK := Lib.hid hpk
      have HLE : Hid ((pre ++ partsB s k).length + (textsB L).length ≤ 1073740000) := Lib.hid (by have h1 := HPL.out; have h2 := congrArg List.length hpk; rw [List.length_append] at h2 ⊢; omega)
      have hLL : L.length ≤ maxLen := by have h1 := hsl.1; have h2 := hsl.2.1; omega
      have hLL2 : L.length < 18446744073709551616 := by unfold maxLen at hLL; omega
      have HLL2 := Lib.hid hLL2
      clear hsl hpk hple hLL hLL2
      generalize hpk1 : partsB s (k + 1) = pk1 at *
      have HPK1 := Lib.hid hpk1
      clear hpk1
      obtain ⟨l0, hl0⟩ : ∃ l0, l0 = pre ++ partsB s k := ⟨_, rfl⟩
      have HL0 := Lib.hid hl0
      rw [← hl0] at hls HLE
      clear hl0
      have HU := Lib.hid (uint_any P (P + 1) v1 l0 L.length wr hls.out.ws HLL2.out (by have := HLE.out; omega))
      have hwl : IntKind.u64.wrap (L.length : Int) = (L.length : Int) := IntWalk.u64_in _ (by have := HLL2.out; omega)
      go_wp2_with fail
      refine HU.out.mono ?_
      rintro e w5 ⟨rfl, v5, hws5, hmv5⟩
      have HLS5 := Lib.hid (hls.out.mov hws5 hmv5)
      have HQ5 := Lib.hid (hqs.out.mov hmv5)
      clear hws5 hmv5 hls hqs HU hwl hcell
      go_wp2_with fail
      have hLb : (L.length : Int) ≤ 1073740000 := by
        have h1 := HLE.out; have h2 := flat_ge L
        have h3 : (textsB L).length = (uintB L.length).length + (L.flatMap textB).length := by unfold textsB; rw [List.length_append]
        omega
      obtain ⟨wo, rfl⟩ : ∃ wo : World, wo = wr := ⟨_, rfl⟩
      go_loopw [9, 31] (fun _ i wr => ∃ (j : Nat) (v1 : Value), j ≤ L.length ∧ i = .int .i64 j ∧ Hid (LS w wr P R v1 (l0 ++ uintB L.length ++ (L.take j).flatMap textB)) ∧ Hid (QS wr P Q v1 22 [.slice A s.body.length c, .slice B s.notes.length d])) (fun _ i _ => L.length - (intOf i).toNat)
      case atStart => exact ⟨0, v5, by omega, rfl, by rw [List.take_zero, List.flatMap_nil, List.append_nil]; exact HLS5, HQ5⟩
      case round =>
        obtain ⟨j, v6, hj, rfl, hls6, hqs6⟩ := hrel
        by_cases hjl : j < L.length
        · have hjl2 : (j : Int) < (L.length : Int) := by omega
          have hj0 : (0 : Int) ≤ (j : Int) := by omega
          obtain ⟨bL, oL, rfl, _, _, hx⟩ := str_at (HSL.out.to hls6.out.b) hjl
          have HFT := Lib.hid (flat_take L j hjl)
          have HFL := Lib.hid (flat_le L (j + 1))
          have HTB : Hid ((textsB L).length = (uintB L.length).length + (L.flatMap textB).length) := Lib.hid (by unfold textsB; rw [List.length_append])
          generalize L[j] = x at *
          have HXB := Lib.hid (textB_size x)
          obtain ⟨l6, hl6⟩ : ∃ l6, l6 = l0 ++ uintB L.length ++ (L.take j).flatMap textB := ⟨_, rfl⟩
          have HB6 : Hid (l6.length + (textB x).length ≤ 1073740000) := Lib.hid (by
            have h1 := HLE.out; have h2 := congrArg List.length HFT.out; have h3 := HFL.out; have h4 := HTB.out
            rw [List.length_append] at h2
            rw [hl6, List.length_append, List.length_append]; omega)
          have HL6 : Hid (l0 ++ uintB L.length ++ (L.take (j + 1)).flatMap textB = l6 ++ textB x) := Lib.hid (by rw [HFT.out, hl6, List.append_assoc, List.append_assoc, List.append_assoc])
          rw [← hl6] at hls6
          have HTX := Lib.hid (text_any P (P + 1) v6 l6 x wr hls6.out.ws (by have := HB6.out; omega) (by have := HB6.out; have := HXB.out; omega))
          clear hl6
          go_wp2_with fail
          refine HTX.out.mono ?_
          rintro e w7 ⟨rfl, v7, hws7, hmv7⟩
          have HLS7 := Lib.hid (hls6.out.mov hws7 hmv7)
          have HQ7 := Lib.hid (hqs6.out.mov hmv7)
          clear hws7 hmv7 hls6 hqs6 HTX hx
          go_wp2_with fail
          first
            | exact ⟨⟨j + 1, v7, by omega, by simp, by rw [HL6.out]; exact HLS7, HQ7⟩, by simp [intOf]; omega⟩
            | fail
        · obtain rfl : j = L.length := by omega
          have HLS8 : Hid (LS w wr P R v6 (pre ++ partsB s (k + 1))) := Lib.hid (by
            have h := hls6.out
            rw [List.take_length, HL0.out, List.append_assoc] at h
            rw [HPK1.out, HPK.out, ← List.append_assoc]; exact h)
          have HQ8 := Lib.hid hqs6.out
          clear hls6 hqs6
          go_wp2_with fail
          first
            | exact ⟨⟨k + 1, v6, by omega, by simp, HLS8, HQ8⟩, by simp [intOf]; omega⟩
            | fail
    · obtain rfl : k = 2 := by omega
      have HDN := Lib.hid (done_any P (P + 1) v1 _ wr hls.out.ws (by have := HPL.out; rw [List.length_append]; omega))
      have HLS9 := Lib.hid hls.out
      clear hls hqs
      go_wp2_with fail
      refine HDN.out.mono ?_
      rintro e w7 ⟨v7, rfl, hown7, hb7⟩
      obtain ⟨A7, c7, rfl, hs7⟩ := hown7.sl
      have HR7 := Lib.hid (HLS9.out.r.to hb7)
      have HB7 := Lib.hid (HLS9.out.b.trans (hb7.mono HLS9.out.b.size))
      have HRL : Hid (w.heap.size ≤ R) := Lib.hid (by have := HLS9.out.eR; omega)
      have HLF := Lib.hid (leaf_any _ A7 _ c7 w7 hs7 rfl (by have := HPL.out; rw [List.length_append]; omega) (HK.out.to HB7.out))
      have HE2 := Lib.hid HE.out
      generalize pre ++ partsB s 2 = enc at *
      clear hown7 hs7 hb7 HLS9 HDN HE HPL HLSb
      go_wp2_with fail
      refine HLF.out.mono ?_
      rintro e w8 ⟨rfl, hb8⟩
      have HB8 := Lib.hid (below_setRow (HB7.out.trans (hb8.mono HB7.out.size)) (R := R) HRL.out ((leafH enc).map encB).toArray)
      have hr8 : w8.heap[R]? = some (.cells (zer32.map encB).toArray 29 (0, 0)) := HR7.out.to hb8
      have HX := Lib.hid (setRow_heap w8 R _ ((leafH enc).map encB).toArray _ _ hr8)
      have HSZ := Lib.hid (hash_size (sha_length (0 :: enc)))
      have HC1 := Lib.hid (hash_all (leafH enc))
      have HRZ : Hid ((zer32.map encB).toArray.size = 32) := Lib.hid rfl
      have HRE : Hid (hashV (leafOf branch s) = .agg ((leafH enc).map encB).toArray) := Lib.hid (by rw [HE2.out]; rfl)
      have hlf : hashV (leafH enc) = .agg ((leafH enc).map encB).toArray := rfl
      rw [hlf]
      have HSZ2 : Hid (((leafH enc).map encB).toArray.size = 32) := HSZ
      clear hb8 HR7 HB7 HLF hlf HSZ HE2
      generalize ((leafH enc).map encB).toArray = cs at *
      generalize (zer32.map encB).toArray = zs at *
      go_wp2_with (first
        | (refine wpList_store_row rfl 29 (.tmp 4) (.tmp 41) rfl R cs rfl rfl 29 zs hr8 (by rw [HSZ2.out]; kernel_rfl) (by rw [HRZ.out, HSZ2.out]) HC1.out ?_)
        | fail)
      exact bodyPost_ret (v := .agg cs) (results_cell_row Tryd.results11 _ _ R _ cs (0, 0) _ rfl HX.out Tryd.underlying29 rfl (by rw [HSZ2.out]; kernel_rfl)) rfl ⟨by rw [HRE.out], HB8.out⟩
end Go.Proofs.YthcklfelofpffaaDoor
namespace Go.Proofs.YthcklfelofpffaaDoor
open Go.RowKit Go.Shelf
attribute [local go_sem] Oper.semAt_some
/-- What has come when k rounds are over. -/
def upto {α : Type} (f : Nat → α) (k : Nat) : List α := (List.range k).map f
theorem upto_succ {α : Type} (f : Nat → α) (k : Nat) : upto f (k + 1) = upto f k ++ [f k] := by simp [upto, List.range_succ]
theorem upto_length {α : Type} (f : Nat → α) (k : Nat) : (upto f k).length = k := by simp [upto]
/-- The k-th pair from behind. -/
def bk (l : List ByteArray) (k : Nat) : Nat × ByteArray := (l.length - 1 - k, l[l.length - 1 - k]?.getD ⟨#[]⟩)
set_option maxRecDepth 100000 in
set_option maxHeartbeats 2000000 in
theorem back1_in (F : Fence) (n : Nat) (h8 : F.fn 94) (hro : F.round = none) (hn : 1 ≤ n) (lp Bs n₀ b off cap : Nat) (l : List ByteArray) (hreach : l.length ≤ 4611686018427387904) (hb : b < n₀) (J Jx : List (Nat × ByteArray) → World → Prop)
    (hY : ∀ pre x W, J pre W → pre.length < l.length → YieldAt F (n - 1) Tryd.prog lp #[.int .i64 (x.1 : Int), .string x.2] W fun e W' =>
      (e = .returned (.bool true) ∧ J (pre ++ [x]) W' ∧ Below n₀ W W') ∨ (e = .returned (.bool false) ∧ Jx (pre ++ [x]) W'))
    (hBs0 : Bs < n₀)
    (W : World) (hBs : W.cell? ⟨Bs, 0, none⟩ = some (.slice (some ⟨b, off, none⟩) l.length cap)) (hc : ∀ j, j < l.length → W.cell? ⟨b, off + j, none⟩ = some (.string (l[j]?.getD ⟨#[]⟩))) (h0 : J [] W) :
    CallsIn F n Tryd.prog 94 #[.func (.yield lp) #[] #[], .pointer (some ⟨Bs, 0, none⟩)] W fun e W' => (∃ v, e = .returned v) ∧
      ((∃ ys, ys = upto (bk l) l.length ∧ J ys W') ∨ (∃ pre, (∃ k, k ≤ l.length ∧ pre = upto (bk l) k) ∧ Jx pre W')) := by
  refine callsIn_of_wp Tryd.func94 rfl h8 ?_ hro
  simp only [Tryd.ntmps94, List.size_toArray, List.length_cons, List.length_nil, Nat.reduceAdd, Nat.reduceSub, Array.replicate_succ, Array.replicate_zero, List.push_toArray, List.append_toArray, List.nil_append, List.cons_append]
  have hl63 : (l.length : Int) ≤ 4611686018427387904 := by omega
  gi_wp2
  gi_loopw [3] (fun i wr => ∃ k : Nat, k ≤ l.length ∧ i = .int .i64 ((l.length : Int) - 1 - (k : Int)) ∧ J (upto (bk l) k) wr ∧ Below n₀ W wr)
    (fun i _ => (intOf i + 1).toNat)
  case atStart => exact ⟨0, Nat.zero_le _, by simp, h0, Below.refl _ _⟩
  case round =>
    obtain ⟨k, hk, rfl, hJs, hnx⟩ := hrel
    by_cases hlt : k < l.length
    · obtain ⟨j, hj⟩ : ∃ j, j = l.length - 1 - k := ⟨_, rfl⟩
      have e1 : (l.length : Int) - 1 - (k : Int) = (j : Int) := by omega
      have hj0 : (0 : Int) ≤ (j : Int) := by omega
      have hjl : (j : Int) < (l.length : Int) := by omega
      have hjl2 : j < l.length := by omega
      obtain ⟨fn, tmps, assign, body, hy, hR⟩ := hY _ (bk l k) wr hJs (by rw [upto_length]; exact hlt)
      have hbk : bk l k = (j, l[j]?.getD ⟨#[]⟩) := by unfold bk; rw [← hj]
      have HKJ : Hid ((j : Int) - 1 = (l.length : Int) - 1 - ((k + 1 : Nat) : Int)) := Lib.hid (by omega)
      rw [hbk] at hy hR
      have HBK := Lib.hid hbk
      dsimp only at hy
      have hcx' : wr.cell? ⟨b, off + j, none⟩ = some (.string (l[j]?.getD ⟨#[]⟩)) := (hnx.cell (p := ⟨b, off + j, none⟩) hb).trans (hc j hjl2)
      have hbs' : wr.cell? ⟨Bs, 0, none⟩ = some (.slice (some ⟨b, off, none⟩) l.length cap) := (hnx.cell (p := ⟨Bs, 0, none⟩) hBs0).trans hBs
      generalize l[j]?.getD ⟨#[]⟩ = x at *
      rw [e1]
      clear hj hbk e1
      gi_wp2
      refine hR.mono ?_
      rintro e W3 (⟨rfl, hJ3, hk3⟩ | ⟨rfl, hJx3⟩)
      · gi_wp2
        go_roundw
        case rel => exact ⟨k + 1, by omega, by rw [HKJ.out], by rw [upto_succ, HBK.out]; exact hJ3, hnx.trans hk3⟩
        case measure => simp [intOf]
      · gi_wp2
        refine bodyPost_ret (results_none rfl _ _ _) rfl ?_
        exact ⟨⟨_, rfl⟩, .inr ⟨_, ⟨k + 1, by omega, by rw [upto_succ, HBK.out]⟩, hJx3⟩⟩
    · obtain rfl : k = l.length := by omega
      have e1 : (l.length : Int) - 1 - (l.length : Int) = -1 := by omega
      rw [e1]
      gi_wp2
      go_end0
      exact ⟨⟨_, rfl⟩, .inl ⟨_, rfl, hJs⟩⟩
set_option maxRecDepth 100000 in
set_option maxHeartbeats 1000000 in
theorem back1_nil_in (F : Fence) (n : Nat) (h8 : F.fn 94) (hro : F.round = none) (lp Bs cap : Nat) (A : Option Addr) (J : List (Nat × ByteArray) → World → Prop) (W : World) (hBs : W.cell? ⟨Bs, 0, none⟩ = some (.slice A 0 cap)) (h0 : J [] W) :
    CallsIn F n Tryd.prog 94 #[.func (.yield lp) #[] #[], .pointer (some ⟨Bs, 0, none⟩)] W fun e W' => (∃ v, e = .returned v) ∧ J [] W' := by
  refine callsIn_of_wp Tryd.func94 rfl h8 ?_ hro
  simp only [Tryd.ntmps94, List.size_toArray, List.length_cons, List.length_nil, Nat.reduceAdd, Nat.reduceSub, Array.replicate_succ, Array.replicate_zero, List.push_toArray, List.append_toArray, List.nil_append, List.cons_append]
  gi_wp2
  gi_loopw [3] (fun i wr => i = .int .i64 (-1) ∧ J [] wr) (fun _ _ => 0)
  case atStart => exact ⟨rfl, h0⟩
  case round =>
    obtain ⟨rfl, hJs⟩ := hrel
    gi_wp2
    go_end0
    exact ⟨⟨_, rfl⟩, hJs⟩
set_option maxHeartbeats 1000000 in
/-- slices.Backward(s): the slice is boxed, the function captures the box. -/
theorem back_in (F : Fence) (n : Nat) (h6 : F.fn 75) (hro : F.round = none) (a : Option Addr) (len cap : Nat) (w : World) :
    CallsIn F n Tryd.prog 75 #[.slice a len cap] w fun e w' => e = .returned (.func (.func 94) #[] #[.pointer (some ⟨w.heap.size, 0, none⟩)]) ∧ w' = w.alloc (.cells #[.slice a len cap] 22) := by
  refine callsIn_of_wp Tryd.func75 rfl h6 ?_ hro
  simp only [Tryd.ntmps75, List.size_toArray, List.length_cons, List.length_nil, Nat.reduceAdd, Nat.reduceSub, Array.replicate_succ, Array.replicate_zero, List.push_toArray, List.append_toArray, List.nil_append, List.cons_append]
  gi_wp2
  go_ret
  exact ⟨rfl, rfl⟩
theorem back_stops (F : Fence) (n : Nat) (h8 : F.fn 94) (hro : F.round = none) (hn : 1 ≤ n) (Bs n₀ : Nat) (A : Option Addr) (cap : Nat) (l : List ByteArray) (hreach : l.length ≤ 4611686018427387904) (w : World) (hBs : Bs < n₀) (hn₀ : n₀ ≤ w.heap.size)
    (hc : w.cell? ⟨Bs, 0, none⟩ = some (.slice A l.length cap)) (hI : Sl w (fun g => g < n₀) A cap l) :
    SeqStopsK F n Tryd.prog 94 #[.pointer (some ⟨Bs, 0, none⟩)] (fun x : Nat × ByteArray => #[Value.int .i64 (x.1 : Int), Value.string x.2]) (Below n₀) (fun ys => ys = upto (bk l) l.length)
      (fun pre => ∃ k, k ≤ l.length ∧ pre = upto (bk l) k) l.length w := fun lp J Jx W hW _ _ hY h0 => by
  have hc' := (hW.cell (p := ⟨Bs, 0, none⟩) (by show Bs < w.heap.size; omega)).trans hc
  by_cases hl : l.length = 0
  · have hl2 : l = [] := List.eq_nil_of_length_eq_zero hl
    subst hl2
    exact (back1_nil_in F n h8 hro lp Bs cap A J W hc' h0).mono fun e W' ⟨he, hj⟩ => ⟨he, .inl ⟨_, rfl, hj⟩⟩
  · obtain ⟨b, o, rfl, hb, hlt, _⟩ := hI.2.2 (by omega)
    refine back1_in F n h8 hro hn lp Bs n₀ b o cap l hreach hb J Jx hY hBs W hc' (fun j hj => ?_) h0
    obtain ⟨b2, o2, e, hb2, hlt2, hx⟩ := str_at hI hj
    cases e
    refine (hW.cell (p := ⟨b, o + j, none⟩) hlt2).trans (hx.trans ?_)
    rw [List.getElem?_eq_getElem hj]; rfl
/-- The index of the last one, or -1. -/
def lastTo (l : List ByteArray) (x : ByteArray) : Nat → Int
  | 0 => -1
  | k + 1 => if l[k]?.getD ⟨#[]⟩ = x then (k : Int) else lastTo l x k
def lastIx (l : List ByteArray) (x : ByteArray) : Int := lastTo l x l.length
theorem lastTo_none {l : List ByteArray} {x : ByteArray} : ∀ k, (∀ j, j < k → l[j]?.getD ⟨#[]⟩ ≠ x) → lastTo l x k = -1
  | 0, _ => rfl
  | k + 1, h => by rw [lastTo, if_neg (h k (by omega)), lastTo_none k fun j hj => h j (by omega)]
theorem lastTo_some {l : List ByteArray} {x : ByteArray} {j : Nat} : ∀ k, j < k → l[j]?.getD ⟨#[]⟩ = x → (∀ i, j < i → i < k → l[i]?.getD ⟨#[]⟩ ≠ x) → lastTo l x k = (j : Int)
  | 0, h, _, _ => by omega
  | k + 1, h, hx, hn => by
    rw [lastTo]
    by_cases e : j = k
    · subst e; rw [if_pos hx]
    · rw [if_neg (hn k (by omega) (by omega)), lastTo_some k (by omega) hx fun i h1 h2 => hn i h1 (by omega)]
theorem tl_loop (s : ByteArray) : ∀ n i r, s.size - i = n → ByteArray.toList.loop s i r = r.reverse ++ s.data.toList.drop i := by
  intro n
  induction n with
  | zero => intro i r h; rw [ByteArray.toList.loop, if_neg (by omega), List.drop_of_length_le (by simp; omega)]; simp
  | succ n ih =>
    intro i r h
    have hi : i < s.size := by omega
    rw [ByteArray.toList.loop, if_pos hi, ih (i + 1) _ (by omega)]
    have hd : s.data.toList.drop i = s.get! i :: s.data.toList.drop (i + 1) := by
      rw [List.drop_eq_getElem_cons (by simpa using hi)]
      congr 1
      simp [ByteArray.get!, hi]
    rw [hd]; simp
theorem tl_data (s : ByteArray) : s.toList = s.data.toList := by
  unfold ByteArray.toList; rw [tl_loop s s.size 0 [] (by omega)]; simp
theorem tl_ne {a b : ByteArray} (h : a ≠ b) : (a.toList == b.toList) = false := by
  rw [beq_eq_false_iff_ne, tl_data, tl_data]
  intro e
  apply h
  apply ByteArray.ext
  exact Array.toList_inj.1 e
theorem tl_eq {a b : ByteArray} (h : a = b) : (a.toList == b.toList) = true := by rw [h]; simp
theorem tl_iff {a b : ByteArray} (h : (a.toList == b.toList) = true) : a = b := by
  by_cases e : a = b
  · exact e
  · rw [tl_ne e] at h; cases h
theorem tl_nif {a b : ByteArray} (h : (a.toList == b.toList) = false) : a ≠ b := by
  intro e; rw [tl_eq e] at h; cases h
set_option maxRecDepth 100000 in
set_option maxHeartbeats 4000000 in
theorem last_in (F : Fence) (n : Nat) (h4 : F.fn 50) (h6 : F.fn 75) (h8 : F.fn 94) (hro : F.round = none) (hn : 3 ≤ n) (AL A : Option Addr) (nL cL cap : Nat) (l : List ByteArray) (x : ByteArray) (w : World)
    (hs : Sl w (fun b => b < w.heap.size) A cap l) (hreach : l.length ≤ 4611686018427387904) :
    CallsIn F n Tryd.prog 50 #[.agg #[.slice AL nL cL, .slice A l.length cap], .string x] w fun e W' => e = .returned (.int .i64 (lastIx l x)) ∧ Below w.heap.size w W' := by
  have h1 : 1 ≤ n := by omega
  refine callsIn_of_wp_marks Tryd.func50 rfl h4 ?_ hro
  simp only [Tryd.ntmps50, List.size_toArray, List.length_cons, List.length_nil, Nat.reduceAdd, Nat.reduceSub, Array.replicate_succ, Array.replicate_zero, List.push_toArray, List.append_toArray, List.nil_append, List.cons_append]
  gi_wp2_with (gi_at_call 75; refine (back_in F (n - 1) h6 hro _ _ _ _).mono ?_; rintro e w' ⟨rfl, rfl⟩)
  have hB0 : Below w.heap.size w ((((w.alloc (.cells #[.slice AL nL cL, .slice A l.length cap] 36)).alloc (.cells #[.string x] 9)).alloc (.cells #[.int .i64 0] 3)).alloc (.cells #[.slice A l.length cap] 22)) := ((((Below.refl _ w).alloc (Nat.le_refl _) _).alloc (by simp) _).alloc (by first | (simp; done) | (simp; omega)) _).alloc (by first | (simp; done) | (simp; omega)) _
  have hsz0 : ((((w.alloc (.cells #[.slice AL nL cL, .slice A l.length cap] 36)).alloc (.cells #[.string x] 9)).alloc (.cells #[.int .i64 0] 3)).alloc (.cells #[.slice A l.length cap] 22)).heap.size = w.heap.size + 4 := by simp
  have b1 : ABox ((((w.alloc (.cells #[.slice AL nL cL, .slice A l.length cap] 36)).alloc (.cells #[.string x] 9)).alloc (.cells #[.int .i64 0] 3)).alloc (.cells #[.slice A l.length cap] 22)) (w.heap.size + 1) 9 [.string x] := (Below.heap_alloc _ _ _ (by first | (simp; done) | (simp; omega))).trans ((Below.heap_alloc _ _ _ (by first | (simp; done) | (simp; omega))).trans (heap_at (by simp)))
  have b2 : ABox ((((w.alloc (.cells #[.slice AL nL cL, .slice A l.length cap] 36)).alloc (.cells #[.string x] 9)).alloc (.cells #[.int .i64 0] 3)).alloc (.cells #[.slice A l.length cap] 22)) (w.heap.size + 1 + 1) 3 [.int .i64 0] := (Below.heap_alloc _ _ _ (by first | (simp; done) | (simp; omega))).trans (heap_at (by simp))
  have b3 : ABox ((((w.alloc (.cells #[.slice AL nL cL, .slice A l.length cap] 36)).alloc (.cells #[.string x] 9)).alloc (.cells #[.int .i64 0] 3)).alloc (.cells #[.slice A l.length cap] 22)) (w.heap.size + 1 + 1 + 1) 22 [.slice A l.length cap] := heap_at (by simp)
  have hs0 := hs.to hB0
  generalize ((((w.alloc (.cells #[.slice AL nL cL, .slice A l.length cap] 36)).alloc (.cells #[.string x] 9)).alloc (.cells #[.int .i64 0] 3)).alloc (.cells #[.slice A l.length cap] 22)) = W0 at *
  refine wpIn_rangeFunc_ownG hro h1 (gf := 94) (lb := #[.pointer (some ⟨w.heap.size + 1 + 1 + 1, 0, none⟩)]) rfl h8 (enters_of Tryd.func94 (by kernel_rfl) rfl)
    (back_stops F (n - 1) h8 hro (by omega) (w.heap.size + 1 + 1 + 1) (w.heap.size + 4) A cap l hreach W0 (by omega) (by omega) (b3.cell 0 rfl) (hs0.mono (fun i hi _ => by omega))) belowK_t (belowK_b (by omega)) (Below.refl _ _) (fun _ => rfl)
    (fun pre W => ((∀ p ∈ pre, p.2 ≠ x) ∧ W.cell? ⟨w.heap.size + 1, 0, none⟩ = some (.string x) ∧ W.cell? ⟨w.heap.size + 1 + 1, 0, none⟩ = some (.int .i64 0) ∧ W.frozen? ⟨w.heap.size + 1 + 1, 0, none⟩ = false) ∧ Below w.heap.size w W)
    (fun c pre W => (c = .ret ∧ ∃ ini last, pre = ini ++ [last] ∧ (∀ p ∈ ini, p.2 ≠ x) ∧ last.2 = x ∧ W.cell? ⟨w.heap.size + 1 + 1, 0, none⟩ = some (.int .i64 (last.1 : Int))) ∧ Below w.heap.size w W)
    (OwnFrom.and (Own.from (fun s A B row hs hg hr => ⟨hs.1, cell_kept hs.2.1 hg hr, cell_kept hs.2.2.1 hg hr, (frozen_kept hs.2.2.1 hg hr).trans hs.2.2.2⟩) _) (ownFrom_below (Nat.le_refl _) (by omega)))
    (fun c => OwnFrom.and (Own.from (fun s A B row hs hg hr => by obtain ⟨hc, ini, last, e1, e2, e3, e4⟩ := hs; exact ⟨hc, ini, last, e1, e2, e3, cell_kept e4 hg hr⟩) _) (ownFrom_below (Nat.le_refl _) (by omega)))
    ⟨⟨by simp, b1.cell 0 rfl, b2.cell 0 rfl, b2.fz 0⟩, hB0⟩
    (fun y => { tmps := #[.agg #[.slice AL nL cL, .slice A l.length cap], .string x, .pointer (some ⟨w.heap.size, 0, none⟩), .pointer (some ⟨w.heap.size + 1, 0, none⟩), .pointer (some ⟨w.heap.size + 1 + 1, 0, none⟩), .int .i64 (y.1 : Int), .string y.2, .pointer (some ⟨w.heap.size, 1, none⟩), .slice A l.length cap, .func (.func 94) #[] #[.pointer (some ⟨w.heap.size + 1 + 1 + 1, 0, none⟩)], .int .i64 (y.1 : Int), .string y.2, undef, undef, undef, undef], defers := [] }) ?assign ?body ?done ?stop
  case assign =>
    intro lp y W K hK
    gi_wp2
    exact hK
  case body =>
    rintro lp pre y W ⟨⟨hp, hcx, hcr, hfr⟩, hB⟩ _
    gi_wp2
    · have hx : y.2 = x := tl_iff (by assumption)
      exact ⟨(KeepsOthers.setCell _ _ _).from _, ⟨rfl, pre, y, rfl, hp, hx, World.cell?_setCell_same' _ _ _ (by rw [hcr]; rfl)⟩, hB.setCell (p := ⟨w.heap.size + 1 + 1, 0, none⟩) (by show w.heap.size ≤ w.heap.size + 1 + 1; omega) _⟩
    · have hx : y.2 ≠ x := tl_nif (by assumption)
      exact ⟨KeepsFrom.refl _ _, Below.refl _ _, ⟨fun p hp' => (List.mem_append.1 hp').elim (hp p) (fun e => by simp at e; subst e; exact hx), hcx, hcr, hfr⟩, hB⟩
  case done =>
    rintro D ys W hD rfl ⟨⟨hne, _, hcr, hfr⟩, hB⟩ hK
    gi_wp2
    have hK' := (KeepsOthers.setCell W ⟨w.heap.size + 1 + 1, 0, none⟩ (.int .i64 (-1))).same D _ hK rfl
    refine ⟨by simp, .inl ⟨_, _, rfl, run_takeDeferred hK', ?_⟩⟩
    have hc5 := cell_kept (World.cell?_setCell_same' W ⟨w.heap.size + 1 + 1, 0, none⟩ (.int .i64 (-1)) (by rw [hcr]; rfl)) (grownBy_putObj' _ D (.deferred none)) (fun r e => by cases e; exact ⟨_, hK', rfl⟩)
    refine ⟨.int .i64 (-1), ?_, ?_, (hB.setCell (p := ⟨w.heap.size + 1 + 1, 0, none⟩) (by show w.heap.size ≤ w.heap.size + 1 + 1; omega) _).trans (belowK_b (w := w) (Nat.le_refl _) _ D _ _ (by omega) hK' rfl rfl)⟩
    · simp [results, Tryd.f50, go_sem, hc5]
    · rw [lastIx, lastTo_none]
      intro j hj
      refine hne (j, l[j]?.getD ⟨#[]⟩) ?_
      simp only [upto, List.mem_map, List.mem_range]
      exact ⟨l.length - 1 - j, by omega, by unfold bk; rw [show l.length - 1 - (l.length - 1 - j) = j by omega]⟩
  case stop =>
    rintro D c pre W hD ⟨k, hk, rfl⟩ ⟨⟨rfl, ini, last, e1, e2, e3, hcr⟩, hB⟩ hK
    gi_wp2
    refine ⟨by simp, .inl ⟨_, _, rfl, run_takeDeferred hK, ?_⟩⟩
    have hc5 := cell_kept hcr (grownBy_putObj' _ D (.deferred none)) (fun r e => by cases e; exact ⟨_, hK, rfl⟩)
    obtain ⟨k', rfl⟩ : ∃ k', k = k' + 1 := by
      cases k with
      | zero => simp [upto] at e1
      | succ k' => exact ⟨k', rfl⟩
    rw [upto_succ] at e1
    obtain ⟨rfl, e5⟩ := List.append_inj' e1 rfl
    obtain rfl : bk l k' = last := by simpa using e5
    refine ⟨.int .i64 ((bk l k').1 : Int), ?_, ?_, hB.trans (belowK_b (w := w) (Nat.le_refl _) W D _ _ (by omega) hK rfl rfl)⟩
    · simp [results, Tryd.f50, go_sem, hc5]
    · rw [lastIx, lastTo_some (j := l.length - 1 - k') l.length (by omega) e3 (fun i h1 h2 => ?_)]
      · rfl
      · refine e2 (i, l[i]?.getD ⟨#[]⟩) ?_
        simp only [upto, List.mem_map, List.mem_range]
        exact ⟨l.length - 1 - i, by omega, by unfold bk; rw [show l.length - 1 - (l.length - 1 - i) = i by omega]⟩
theorem last_any (AL A : Option Addr) (nL cL cap n : Nat) (l : List ByteArray) (x : ByteArray) (w : World) (hs : Sl w (fun b => b < w.heap.size) A cap l) (hn : l.length = n) (hreach : l.length ≤ 4611686018427387904) :
    Calls Tryd.prog 50 #[.agg #[.slice AL nL cL, .slice A n cap], .string x] w fun e W' => e = .returned (.int .i64 (lastIx l x)) ∧ Below w.heap.size w W' := by
  subst hn
  exact (callsIn_wide (n := 3)).1 (last_in .wide 3 trivial trivial trivial rfl (Nat.le_refl _) AL A nL cL cap l x w hs hreach)
end Go.Proofs.YthcklfelofpffaaDoor
namespace Go.Proofs.YthcklfelofpffaaDoor
open Go.RowKit
structure H32 where
  l : List UInt8
instance : Rep H32 where
  size := 32
  R _ _ cs h := cs = h.l.map encB ∧ h.l.length = 32
  len h := by rw [h.1, List.length_map, h.2]
  one h := by
    rw [h.1]; intro u hu
    obtain ⟨b, _, rfl⟩ := List.mem_map.1 hu
    rfl
  keep h _ := h
  mono h _ := h
theorem h_info : (Tryd.prog.info? 29).map (fun i => (i.zero, i.size, i.bytes)) = some (some (.agg (zer32.map encB).toArray), Rep.size H32, 32) := by kernel_rfl
theorem s_info : (Tryd.prog.info? 9).map (fun i => (i.zero, i.size, i.bytes)) = some (some (.string ⟨#[]⟩), Rep.size ByteArray, 16) := by kernel_rfl
theorem hclone_any (A : Option Addr) (c n : Nat) (l : List H32) (w : World) (hl : Sl w (fun b => b < w.heap.size) A c l) (hn : l.length = n) (hsz : n ≤ 1073741824) :
    Calls Tryd.prog 47 #[.slice A n c] w fun e w' => ∃ v, e = .returned v ∧ Own w' w.heap.size 29 v l ∧ Below w.heap.size w w' := by
  have hq := fun w' => Lib.run_eql_slice_nil (P := Tryd.prog) w' 34 29 A n c 0 0 Tryd.underlying34
  cases A with
  | none =>
    have hl0 : l = [] := by
      by_cases h0 : 0 < l.length
      · obtain ⟨b, o, e, _⟩ := hl.2.2 h0; cases e
      · exact List.eq_nil_of_length_eq_zero (by omega)
    subst hl0
    simp only [Option.isNone_none] at hq
    go_enter Tryd.func47, Tryd.ntmps47
    go_wp2_with fail
    go_ret
    exact ⟨_, rfl, Own.nil _ _ _, Below.refl _ _⟩
  | some a =>
    simp only [Option.isNone_some] at hq
    go_enter Tryd.func47, Tryd.ntmps47
    go_wp2_with (at_builtin; refine wpList_cat (α := H32) _ rfl (.tmp 5) (.tmp 6) 34 rfl w.heap.size 29 (.agg (zer32.map encB).toArray) 32 Tryd.underlying34 h_info rfl (by decide) (.slice (some ⟨w.heap.size, 0, none⟩) 0 0) [] rfl (Own.made w _ _ (Nat.le_refl _)) (some a) c n l rfl hn (fun b => b < w.heap.size) (hl.keep (Kept.all ((Below.refl _ _).alloc (Nat.le_refl _) _)) (by simp)) (by intro i (hi : i < w.heap.size) _ e; simp [Value.ownBlock] at e; omega) (by simp; omega) (by simp; omega) (by simp) ?_; intro v2 w2 hown2 hg2 _)
    go_ret
    exact ⟨_, rfl, hown2, below_cat ((Below.refl _ _).alloc (Nat.le_refl _) _) (Own.made (α := H32) w _ _ (Nat.le_refl _)) (by simp) hg2⟩
theorem sclone_any (A : Option Addr) (c n : Nat) (l : List ByteArray) (w : World) (hl : Sl w (fun b => b < w.heap.size) A c l) (hn : l.length = n) (hsz : n ≤ 1073741824) :
    Calls Tryd.prog 48 #[.slice A n c] w fun e w' => ∃ v, e = .returned v ∧ Own w' w.heap.size 9 v l ∧ Below w.heap.size w w' := by
  have hq := fun w' => Lib.run_eql_slice_nil (P := Tryd.prog) w' 22 9 A n c 0 0 Tryd.underlying22
  cases A with
  | none =>
    have hl0 : l = [] := by
      by_cases h0 : 0 < l.length
      · obtain ⟨b, o, e, _⟩ := hl.2.2 h0; cases e
      · exact List.eq_nil_of_length_eq_zero (by omega)
    subst hl0
    simp only [Option.isNone_none] at hq
    go_enter Tryd.func48, Tryd.ntmps48
    go_wp2_with fail
    go_ret
    exact ⟨_, rfl, Own.nil _ _ _, Below.refl _ _⟩
  | some a =>
    simp only [Option.isNone_some] at hq
    go_enter Tryd.func48, Tryd.ntmps48
    go_wp2_with (at_builtin; refine wpList_cat (α := ByteArray) _ rfl (.tmp 5) (.tmp 6) 22 rfl w.heap.size 9 (.string ⟨#[]⟩) 16 Tryd.underlying22 s_info rfl (by decide) (.slice (some ⟨w.heap.size, 0, none⟩) 0 0) [] rfl (Own.made w _ _ (Nat.le_refl _)) (some a) c n l rfl hn (fun b => b < w.heap.size) (hl.keep (Kept.all ((Below.refl _ _).alloc (Nat.le_refl _) _)) (by simp)) (by intro i (hi : i < w.heap.size) _ e; simp [Value.ownBlock] at e; omega) (by simp; omega) (by simp; omega) (by simp) ?_; intro v2 w2 hown2 hg2 _)
    go_ret
    exact ⟨_, rfl, hown2, below_cat ((Below.refl _ _).alloc (Nat.le_refl _) _) (Own.made (α := ByteArray) w _ _ (Nat.le_refl _)) (by simp) hg2⟩
end Go.Proofs.YthcklfelofpffaaDoor
namespace Go.Proofs.YthcklfelofpffaaDoor
open Go.RowKit
theorem cells_b : Tryd.prog.cellsOf 5 = 1 := by kernel_rfl
theorem info_b : ∃ i, Tryd.prog.info? 5 = some i := info_of_underlying Tryd.underlying5
theorem run_part_b (a : List UInt8) (i : Nat) (hi : i < a.length) (w : World) : (Go.part 5 (a.map encB).toArray (i * 1)).run Tryd.prog w = .ok (encB (a.getD i 0)) w := by
  have hu2 := Tryd.underlying5
  have he : (a.map encB).toArray[i]? = some (encB (a.getD i 0)) := by
    simp [List.getD_eq_getElem?_getD, hi]
  simp [Go.part, isAgg, run_underlying hu2, go_sem, he]
theorem run_items (d : Nat) (a b : List UInt8) (w : World) : ∀ (is : List Nat), (∀ i ∈ is, i < a.length ∧ i < b.length) → (Op.eqItems (d + 1) 5 1 (a.map encB).toArray (b.map encB).toArray is).run Tryd.prog w = .ok (is.all fun i => a.getD i 0 == b.getD i 0) w
  | [], _ => by simp [Op.eqItems]
  | i :: is, h => by
    have h1 := h i (by simp)
    have e1 := run_part_b a i h1.1 w
    have e2 := run_part_b b i h1.2 w
    have e3 : (Op.equalIn (d + 1) 5 (encB (a.getD i 0)) (encB (b.getD i 0))).run Tryd.prog w = .ok (a.getD i 0 == b.getD i 0) w := by
      unfold encB
      rw [run_equalIn_int w d 5 .u8 .u8 _ _ Tryd.underlying5]
      have e4 : (((a.getD i 0).toNat : Int) == ((b.getD i 0).toNat : Int)) = (a.getD i 0 == b.getD i 0) := by
        generalize a.getD i 0 = x
        generalize b.getD i 0 = y
        rw [Bool.eq_iff_iff, beq_iff_eq, beq_iff_eq]
        constructor
        · intro h; exact UInt8.toNat_inj.1 (Int.ofNat.inj h)
        · intro h; rw [h]
      rw [e4]
    simp only [Op.eqItems, Sem.run_bind, e1, e2, e3, Result.andThen_ok]
    rw [List.all_cons]
    cases hb : (a.getD i 0 == b.getD i 0)
    · simp
    · simp only [Bool.not_true, Bool.false_eq_true, if_false, Bool.true_and]
      exact run_items d a b w is (fun j hj => h j (by simp [hj]))
theorem all_eq {a b : List UInt8} (ha : a.length = 32) (hb : b.length = 32) : ((List.range 32).all fun i => a.getD i 0 == b.getD i 0) = decide (a = b) := by
  rw [Bool.eq_iff_iff, List.all_eq_true, decide_eq_true_iff]
  constructor
  · intro h
    apply List.ext_getElem (by omega)
    intro i h1 h2
    have := h i (by simp; omega)
    rw [beq_iff_eq, List.getD_eq_getElem?_getD, List.getD_eq_getElem?_getD, List.getElem?_eq_getElem h1, List.getElem?_eq_getElem h2] at this
    exact this
  · rintro rfl i _; simp
theorem run_hash_eq (d : Nat) (a b : List UInt8) (ha : a.length = 32) (hb : b.length = 32) (w : World) : (Op.equalIn (d + 2) 29 (.agg (a.map encB).toArray) (.agg (b.map encB).toArray)).run Tryd.prog w = .ok (decide (a = b)) w := by
  obtain ⟨i, hi⟩ := info_b
  rw [run_equalIn_array w (d + 1) _ _ Tryd.underlying29 hi, cells_b, run_items d a b w _ (fun j hj => by rw [List.mem_range] at hj; omega), all_eq ha hb]
theorem guard_h : Tryd.prog.eqGuardType Tryd.prog.depth 29 = false := by kernel_rfl
theorem run_hash_neq (a b : List UInt8) (ha : a.length = 32) (hb : b.length = 32) (w : World) : (binOp .neq 29 (.agg (a.map encB).toArray) (.agg (b.map encB).toArray)).run Tryd.prog w = .ok (.bool (!decide (a = b))) w := by
  rw [run_neq_struct, run_hash_eq 9998 a b ha hb]; rfl
theorem run_hash_eql (a b : List UInt8) (ha : a.length = 32) (hb : b.length = 32) (w : World) : (binOp .eql 29 (.agg (a.map encB).toArray) (.agg (b.map encB).toArray)).run Tryd.prog w = .ok (.bool (decide (a = b))) w := by
  rw [run_eql_struct, run_hash_eq 9998 a b ha hb]; rfl
end Go.Proofs.YthcklfelofpffaaDoor
namespace Go.Proofs.YthcklfelofpffaaDoor
open Go.RowKit
section
variable {P : Program} {ops : Array Oper} {Q : Exit → Act → World → Prop} {md : Region.Mode} {S : World → Prop} {hd : Nat → Bool}
/-- j waits for i, at once or by way of others. -/
def waitsB (md : Region.Mode) (ops : Array Oper) (i : Nat) : Nat → Nat → Bool
  | 0, _ => false
  | f + 1, j => ((ops[j]?).map fun o => o.after.any fun e => Region.binds md e && (e.on == i || waitsB md ops i f e.on)).getD false
/-- What has come up has come up behind what it waits for. -/
def Closed (md : Region.Mode) (ops : Array Oper) (listed : Array Bool) : Prop := ∀ j oj, ops[j]? = some oj → listed.getD j false = true → ∀ e ∈ oj.after, Region.binds md e = true → listed.getD e.on false = true
theorem ready_on {j : Nat} {listed : Array Bool} (h : j ∈ Region.ready md ops listed) : ∃ oj, ops[j]? = some oj ∧ ∀ e ∈ oj.after, Region.binds md e = true → listed.getD e.on false = true := by
  obtain ⟨_, oj, hoj, hall⟩ := mem_ready.1 h
  exact ⟨oj, hoj, fun e he hb => by simpa using hall e he hb⟩
theorem waits_listed {i : Nat} {listed : Array Bool} (hcl : Closed md ops listed) : ∀ (f j : Nat), waitsB md ops i f j = true → (∃ oj, ops[j]? = some oj ∧ ∀ e ∈ oj.after, Region.binds md e = true → listed.getD e.on false = true) → listed.getD i false = true
  | 0, _, h, _ => by simp [waitsB] at h
  | f + 1, j, h, ⟨oj, hoj, hall⟩ => by
    rw [waitsB, hoj] at h
    simp only [Option.map_some, Option.getD_some, Array.any_eq_true'] at h
    obtain ⟨e, he, h⟩ := h
    rw [Bool.and_eq_true, Bool.or_eq_true, beq_iff_eq] at h
    have hl := hall e he h.1
    rcases h.2 with h2 | h2
    · rw [← h2]; exact hl
    · have hlt : ∃ ok, ops[e.on]? = some ok := by
        match f, h2 with
        | f + 1, h2 =>
          rw [waitsB] at h2
          cases ho : ops[e.on]? with
          | none => rw [ho] at h2; simp at h2
          | some ok => exact ⟨ok, rfl⟩
      obtain ⟨ok, hok⟩ := hlt
      exact waits_listed hcl f e.on h2 ⟨ok, hok, hcl e.on ok hok hl⟩
theorem Closed.set {listed : Array Bool} (h : Closed md ops listed) {j : Nat} (hj : j ∈ Region.ready md ops listed) : Closed md ops (listed.setIfInBounds j true) := by
  intro k ok hok hl e he hb
  by_cases hkj : j = k
  · subst hkj
    obtain ⟨oj, hoj, hall⟩ := ready_on hj
    rw [hok] at hoj; cases hoj
    exact Go.getD_set_true (hall e he hb)
  · rw [Go.getD_set_ne false hkj] at hl
    exact Go.getD_set_true (h k ok hok hl e he hb)
theorem wpAnyE_first {i : Nat} {oi : Oper} {v : Value} (hi : ops[i]? = some oi) (hsel : ∀ (j : Nat) (o : Oper) cs b, ops[j]? = some o → o.op ≠ .select cs b)
    (hcov : ∀ (j : Nat) (oj : Oper), ops[j]? = some oj → j ≠ i → hd j = false → ∃ f, waitsB md ops i f j = true)
    (hQ : ∀ c a w, Q (.panic c) (a.put oi.dst v) w → Q (.panic c) a w) :
    ∀ (fuel : Nat) (listed : Array Bool) (a : Act) (w : World), Closed md ops listed →
      (∀ j oj, ops[j]? = some oj → j ≠ i → listed.getD j true = false → (∀ e ∈ oj.after, Region.binds md e = true → e.on ≠ i) → oi.apart ops oj = true) →
      i ∈ Region.ready md ops listed → YieldsIf P ops S oi v a → S w →
      wpAnyD P md ops Q S hd fuel (listed.setIfInBounds i true) (a.put oi.dst v) w → wpAnyD P md ops Q S hd (fuel + 1) listed a w := by
  intro fuel
  induction fuel with
  | zero =>
    intro listed a w _ _ hr hy hS H
    refine ⟨fun h => (by rw [h] at hr; cases hr), fun j hj => ?_⟩
    by_cases hji : j = i
    · subst hji; exact hy.wpOp hi hS ⟨fun _ => hS, H⟩
    · have := ready_mono hj hji
      rw [H.1] at this
      cases this
  | succ fuel ih =>
    intro listed a w hcl hfree hr hy hS H
    refine ⟨fun h => (by rw [h] at hr; cases hr), fun j hj => ?_⟩
    by_cases hji : j = i
    · subst hji; exact hy.wpOp hi hS ⟨fun _ => hS, H⟩
    · have h1 := H.2 j (ready_mono hj hji)
      obtain ⟨hjun, oj, hoj, hall⟩ := mem_ready.1 hj
      have hnot : ∀ e ∈ oj.after, Region.binds md e = true → e.on ≠ i := fun e he hb heq => by
        have h1 := hall e he hb
        have h0 := (mem_ready.1 hr).1
        rw [heq] at h1
        rcases Nat.lt_or_ge i listed.size with h' | h'
        · simp [h'] at h0 h1; rw [h0] at h1; cases h1
        · simp [Array.getElem?_eq_none h'] at h1
      have hhd : hd j = true := by
        cases hh : hd j with
        | true => rfl
        | false =>
          obtain ⟨f, hf⟩ := hcov j oj hoj hji hh
          have hl := waits_listed hcl f j hf (ready_on hj)
          have h0 := (mem_ready.1 hr).1
          rcases Nat.lt_or_ge i listed.size with h' | h'
          · simp [h'] at h0 hl; rw [h0] at hl; cases hl
          · simp [Array.getElem?_eq_none h'] at hl
      have h2 := wpOp_putIf hoj (hfree j oj hoj hji hjun hnot) (fun cs b => hsel i oi cs b hi) (fun cs b => hsel j oj cs b hoj) hQ hy h1
      have hfree' : ∀ k ok, ops[k]? = some ok → k ≠ i → (listed.setIfInBounds j true).getD k true = false →
          (∀ e ∈ ok.after, Region.binds md e = true → e.on ≠ i) → oi.apart ops ok = true := fun k ok hk hki hun hno => by
        refine hfree k ok hk hki ?_ hno
        by_cases hjk : j = k
        · subst hjk; exact hjun
        · rw [Go.getD_set_ne true hjk] at hun; exact hun
      refine wpOp_mono (fun a' w' h3 => ⟨fun _ => h3.2.1 hhd, ih (listed.setIfInBounds j true) a' w' (hcl.set hj) hfree' (ready_mono hr (Ne.symm hji)) h3.1 (h3.2.1 hhd) ?_⟩) h2
      rw [Array.setIfInBounds_comm _ _ hji]
      exact h3.2.2
def coversE (md : Region.Mode) (ops : Array Oper) (hd : Nat → Bool) (i : Nat) : Bool :=
  (List.range ops.size).all fun j => j == i || hd j || waitsB md ops i ops.size j
theorem coversE_spec {i : Nat} (h : coversE md ops hd i = true) : ∀ (j : Nat) (oj : Oper), ops[j]? = some oj → j ≠ i → hd j = false → ∃ f, waitsB md ops i f j = true := by
  intro j oj hj hji hh
  have hlt : j < ops.size := (Array.getElem?_eq_some_iff.1 hj).1
  have := (List.all_eq_true.1 h) j (List.mem_range.2 hlt)
  rw [hh] at this
  simp only [Bool.or_false, Bool.or_eq_true, beq_iff_eq] at this
  rcases this with h | h
  · exact absurd h hji
  · exact ⟨_, h⟩
def closedB (md : Region.Mode) (ops : Array Oper) (listed : Array Bool) : Bool :=
  (List.range ops.size).all fun j => !(listed.getD j false) || ((ops[j]?).map fun o => o.after.all fun e => !(Region.binds md e) || listed.getD e.on false).getD true
theorem closedB_spec {listed : Array Bool} (h : closedB md ops listed = true) : Closed md ops listed := by
  intro j oj hj hl e he hb
  have hlt : j < ops.size := (Array.getElem?_eq_some_iff.1 hj).1
  have := (List.all_eq_true.1 h) j (List.mem_range.2 hlt)
  rw [hj, hl] at this
  simp only [Option.map_some, Option.getD_some, Bool.not_true, Bool.false_or, Array.all_eq_true_iff_forall_mem] at this
  have h2 := this e he
  rw [hb] at h2
  simpa using h2
/-- Take number i first. -/
theorem wpAnyE_take {i : Nat} {oi : Oper} {v : Value} {fuel : Nat} {listed : Array Bool} {a : Act} {w : World} (hi : ops[i]? = some oi)
    (hs : Region.noSelect ops = true) (hc : coversE md ops hd i = true) (hcl : closedB md ops listed = true) (hf : Region.free md ops listed i = true) (hr : (Region.ready md ops listed).contains i = true)
    (hQ : ∀ c a w, Q (.panic c) (a.put oi.dst v) w → Q (.panic c) a w) (hw : Region.wanted oi (yielded ops a.tmps) = true) (hy : ∀ w, S w → (execOp a.eval oi).run P w = .ok (.value v) w) (hS : S w)
    (h : wpAnyD P md ops Q S hd fuel (listed.setIfInBounds i true) (a.put oi.dst v) w) : wpAnyD P md ops Q S hd (fuel + 1) listed a w :=
  wpAnyE_first hi (Region.noSelect_spec hs) (coversE_spec hc) hQ fuel listed a w (closedB_spec hcl) (Region.free_spec hi hf) (by simpa using hr) (Or.inl ⟨hw, hy⟩) hS h
end
end Go.Proofs.YthcklfelofpffaaDoor
