/- The writer of numbers and strings. No condition but sizes. -/
import Derived.Test.YthcklfelofpffaaDoorCerW8
import Derived.Test.YthcklfelofpffaaDoorCerWire
namespace Go.Proofs.YthcklfelofpffaaDoor
open Go.RowKit
/-- Appending a string: the row behind it is the old one or a new one. -/
theorem run_catS {P : Program} {w : World} (base : Nat) (t ts ty e : TypeId) (ht : P.underlying t = some (.slice e)) (hts : P.underlying ts = some .string) (hinfo : (P.info? e).map (fun i => (i.zero, i.size, i.bytes)) = some (some (.int .u8 0), 1, 1))
    (v : Value) (l : List UInt8) (hown : Own w base e v l) (b : ByteArray) (hbytes : l.length + b.size ≤ 140737488355328) (hbase : base ≤ w.heap.size) :
    ∃ v' w', (Builtin.append_ #[t, ts] ty #[v, .string b]).run P w = .ok v' w' ∧ Own w' base e v' (l ++ b.data.toList) ∧ w.grownBy w' v.ownBlock ∧ (v'.ownBlock = v.ownBlock ∨ ∀ g, v'.ownBlock = some g → w.heap.size ≤ g) := by
  obtain ⟨i, hi, hz, hz1, hz2⟩ := info_parts hinfo
  have hbl : b.data.toList.length = b.size := by rw [Array.length_toList]; rfl
  have hr := hown.rowB
  obtain ⟨v', w', hrun, h2, h3, _⟩ := Lib.run_append_own_string (P := P) w base t ts ty e i ht hts hi hz hz1 hz2 v l.length (l.map encB) hr b (by simp only [maxLen]; omega) hbytes hbase
  refine ⟨v', w', hrun, own_of_row (by rw [List.length_append, hbl, List.map_append, ← strCells_eq]; exact h2), h3, ?_⟩
  rcases hr.2 with ⟨rfl, hn⟩ | ⟨g, cap, cur, rfl, hb, hg, hnc, hcm, hcs, htk⟩
  · obtain ⟨v2, w2, hrun2, k2, _, _⟩ := Lib.run_append_own_string (P := P) w w.heap.size t ts ty e i ht hts hi hz hz1 hz2 (.slice none 0 0) l.length (l.map encB) ⟨hr.1, .inl ⟨rfl, hn⟩⟩ b (by simp only [maxLen]; omega) hbytes (Nat.le_refl _)
    rw [hrun] at hrun2
    obtain ⟨rfl, rfl⟩ := Result.ok.inj hrun2
    refine .inr fun g hg => ?_
    rcases k2.2 with ⟨rfl, _⟩ | ⟨g2, cap, cur, rfl, hb, _⟩
    · cases hg
    · have hg' : some g2 = some g := hg
      cases hg'; exact hb
  · by_cases hroom : l.length + b.size ≤ cap
    · have hq := Lib.run_append_room_string (P := P) w t ts ty e i ht hts hi hz1 g l.length cap cur hg b hroom (by rw [hcs]; omega)
      rw [hrun] at hq
      obtain ⟨rfl, _⟩ := Result.ok.inj hq
      exact .inl rfl
    · have holds : ∀ j u, (l.map encB)[j]? = some u → w.cell? ((⟨g, 0, none⟩ : Addr).add j) = some u := hr.cells (g := g) rfl
      have hq := Lib.run_append_grow_string (P := P) w t ts ty e i (.int .u8 0) ht hts hi hz ⟨g, 0, none⟩ l.length cap (l.map encB) (by rw [hz1]; simp) holds b (by omega) (by omega) (by rw [hz2]; exact growslice_fits (by omega) (by omega))
      rw [hrun] at hq
      obtain ⟨rfl, _⟩ := Result.ok.inj hq
      exact .inr fun g' hg' => by have : some w.heap.size = some g' := hg'; cases this; exact Nat.le_refl _
theorem wpList_catT {P : Program} {w : World} {ops : Array Oper} {rest : List Oper} {o : Oper} {a : Act} {Q : Exit → Act → World → Prop} (hgd : o.guard = none) (s x : Operand) (t ts : TypeId)
    (ho : o.op = .call { callee := .builtin .append, args := #[s, x], argTypes := #[t, ts] })
    (base : Nat) (e : TypeId) (ht : P.underlying t = some (.slice e)) (hts : P.underlying ts = some .string) (hinfo : (P.info? e).map (fun i => (i.zero, i.size, i.bytes)) = some (some (.int .u8 0), 1, 1))
    (v : Value) (l : List UInt8) (hs : a.eval s = v) (hown : Own w base e v l) (b : ByteArray) (hx : a.eval x = .string b)
    (hbytes : l.length + b.size ≤ 140737488355328) (hbase : base ≤ w.heap.size)
    (h : ∀ v' w', Own w' base e v' (l ++ b.data.toList) → w.grownBy w' v.ownBlock → (v'.ownBlock = v.ownBlock ∨ ∀ g, v'.ownBlock = some g → w.heap.size ≤ g) → wpList P ops Q rest (a.put o.dst v') w') : wpList P ops Q (o :: rest) a w :=
  wpList_plain hgd fun K hK => by
    obtain ⟨v', w', hrun, h2, h3, h4⟩ := run_catS base t ts o.type e ht hts hinfo v l hown b hbytes hbase
    unfold Oper.wp execOp
    simp only [ho, resolve, invoke, builtin, Sem.run_bind, Sem.run_pure, Result.andThen_ok, List.map_toArray, List.map_cons, List.map_nil, hs, hx, hrun]
    exact hK _ _ (h v' w' h2 h3 h4)
theorem ownB_keep {w w' : World} {base : Nat} {e : TypeId} {v : Value} {l : List UInt8} (h : Own w base e v l) (hk : ∀ g, v.ownBlock = some g → w'.heap[g]? = w.heap[g]?) : Own w' base e v l := by
  refine own_of_row ?_
  have hr := h.rowB
  refine ⟨hr.1, ?_⟩
  rcases hr.2 with hn | ⟨g, cap, cur, rfl, hb, hg, rest⟩
  · exact .inl hn
  · exact .inr ⟨g, cap, cur, rfl, hb, (hk g rfl).trans hg, rest⟩
/-- The writer at P has collected l. -/
structure WS (w : World) (P base : Nat) (v : Value) (l : List UInt8) : Prop where
  p : ABox w P 63 [v]
  own : Own w base 5 v l
  lt : P < base
  bs : base ≤ w.heap.size
/-- Nothing old is written but the writer and its row; its row is the old one or a new one. -/
structure Mov (w : World) (P : Nat) (v : Value) (w' : World) (v' : Value) : Prop where
  os : w'.os = w.os
  tape : w'.tape = w.tape
  output : w'.output = w.output
  size : w.heap.size ≤ w'.heap.size
  block : ∀ i, i < w.heap.size → i ≠ P → some i ≠ v.ownBlock → w'.heap[i]? = w.heap[i]?
  row : v'.ownBlock = v.ownBlock ∨ ∀ g, v'.ownBlock = some g → w.heap.size ≤ g
theorem Mov.refl (w : World) (P : Nat) (v : Value) : Mov w P v w v := ⟨rfl, rfl, rfl, Nat.le_refl _, fun _ _ _ _ => rfl, .inl rfl⟩
theorem Mov.trans {w w1 w2 : World} {P : Nat} {v v1 v2 : Value} (h : Mov w P v w1 v1) (k : Mov w1 P v1 w2 v2) : Mov w P v w2 v2 := by
  refine ⟨k.os.trans h.os, k.tape.trans h.tape, k.output.trans h.output, Nat.le_trans h.size k.size, fun i hi hp hr => ?_, ?_⟩
  · refine (k.block i (by have := h.size; omega) hp ?_).trans (h.block i hi hp hr)
    rcases h.row with e | e
    · rw [e]; exact hr
    · intro he; have := e i he.symm; omega
  · rcases k.row with e | e
    · rcases h.row with f | f
      · exact .inl (e.trans f)
      · exact .inr (fun g hg => f g (e ▸ hg))
    · exact .inr (fun g hg => Nat.le_trans h.size (e g hg))
theorem Mov.below {B : Nat} {w0 w w' : World} {P : Nat} {v v' : Value} (hb : Below B w0 w) (h : Mov w P v w' v') (hB : B ≤ w.heap.size) (hP : B ≤ P) (hv : ∀ g, v.ownBlock = some g → B ≤ g) : Below B w0 w' :=
  ⟨h.os.trans hb.os, h.tape.trans hb.tape, h.output.trans hb.output, Nat.le_trans hb.size h.size, fun i hi => (h.block i (by omega) (by omega) (fun e => by have := hv i e.symm; omega)).trans (hb.block i hi)⟩
theorem Mov.of_below {w w1 w2 : World} {P : Nat} {v v2 : Value} (hb : Below w.heap.size w w1) (h : Mov w1 P v w2 v2) : Mov w P v w2 v2 :=
  ⟨h.os.trans hb.os, h.tape.trans hb.tape, h.output.trans hb.output, Nat.le_trans hb.size h.size, fun i hi hp hr => (h.block i (by have := hb.size; omega) hp hr).trans (hb.block i hi), h.row.imp id (fun e g hg => Nat.le_trans hb.size (e g hg))⟩
theorem WS.box5 {w w5 : World} {P base : Nat} {v : Value} {l : List UInt8} {o : Obj} (h : WS w P base v l) (hg : (w.alloc o).grownBy w5 v.ownBlock) : ABox w5 P 63 [v] := by
  have hlt := h.p.lt
  have hpv : some P ≠ v.ownBlock := fun e => by have := (h.own.lt P e.symm).1; have := h.lt; omega
  exact (hg.block P (by simp; omega) hpv).trans ((Below.heap_alloc w o P hlt).trans h.p)
theorem WS.box6 {w w5 : World} {P base : Nat} {v : Value} {l : List UInt8} (h : WS w P base v l) (hg : w.grownBy w5 v.ownBlock) : ABox w5 P 63 [v] := by
  have hpv : some P ≠ v.ownBlock := fun e => by have := (h.own.lt P e.symm).1; have := h.lt; omega
  exact (hg.block P h.p.lt hpv).trans h.p
/-- One byte more. -/
theorem WS.push {w w5 : World} {P base : Nat} {v : Value} {l m : List UInt8} {v5 : Value} {o : Obj} (h : WS w P base v l) (hown : Own w5 base 5 v5 m) (hg : (w.alloc o).grownBy w5 v.ownBlock) (hat : v5.ownBlock = v.ownBlock ∨ ∀ g, v5.ownBlock = some g → w.heap.size ≤ g) :
    WS (w5.setCell ⟨P, 0, none⟩ v5) P base v5 m ∧ Mov w P v (w5.setCell ⟨P, 0, none⟩ v5) v5 := by
  have hz : w.heap.size + 1 ≤ w5.heap.size := by have := hg.size; simpa using this
  have hlt := h.p.lt
  have hbs := h.bs
  have hpv : some P ≠ v.ownBlock := fun e => by have := (h.own.lt P e.symm).1; have := h.lt; omega
  have hp5 : ABox w5 P 63 [v] := (hg.block P (by simp; omega) hpv).trans ((Below.heap_alloc w o P hlt).trans h.p)
  refine ⟨⟨hp5.set 0 v5, ?_, h.lt, by simp; omega⟩, ⟨?_, ?_, ?_, by simp; omega, fun i hi hp hr => ?_, hat⟩⟩
  · exact ownB_keep hown (fun g hg' => heap_set _ _ _ _ (by have := (hown.lt g hg').1; have := h.lt; omega))
  · exact hg.os
  · exact hg.tape
  · exact hg.output
  · exact (heap_set _ _ _ _ hp).trans ((hg.block i (by simp; omega) hr).trans (Below.heap_alloc w o i hi))
theorem WS.cat {w w5 : World} {P base : Nat} {v : Value} {l m : List UInt8} {v5 : Value} (h : WS w P base v l) (hown : Own w5 base 5 v5 m) (hg : w.grownBy w5 v.ownBlock) (hat : v5.ownBlock = v.ownBlock ∨ ∀ g, v5.ownBlock = some g → w.heap.size ≤ g) :
    WS (w5.setCell ⟨P, 0, none⟩ v5) P base v5 m ∧ Mov w P v (w5.setCell ⟨P, 0, none⟩ v5) v5 := by
  have hz : w.heap.size ≤ w5.heap.size := hg.size
  have hlt := h.p.lt
  have hbs := h.bs
  have hpv : some P ≠ v.ownBlock := fun e => by have := (h.own.lt P e.symm).1; have := h.lt; omega
  have hp5 : ABox w5 P 63 [v] := (hg.block P hlt hpv).trans h.p
  refine ⟨⟨hp5.set 0 v5, ?_, h.lt, by simp; omega⟩, ⟨?_, ?_, ?_, by simp; omega, fun i hi hp hr => ?_, hat⟩⟩
  · exact ownB_keep hown (fun g hg' => heap_set _ _ _ _ (by have := (hown.lt g hg').1; have := h.lt; omega))
  · exact hg.os
  · exact hg.tape
  · exact hg.output
  · exact (heap_set _ _ _ _ hp).trans (hg.block i hi hr)
set_option maxRecDepth 100000 in
set_option maxHeartbeats 4000000 in
theorem uint_any (P base : Nat) (v : Value) (l : List UInt8) (n : Nat) (w : World) (h : WS w P base v l) (hn : n < 18446744073709551616) (hl : l.length ≤ 1073741824) :
    Calls Tryd.prog 34 #[.pointer (some ⟨P, 0, none⟩), .int .u64 (n : Int)] w fun e w' => e = .returned (.tuple #[]) ∧ ∃ v', WS w' P base v' (l ++ uintB n) ∧ Mov w P v w' v' := by
  have HW := Lib.hid h
  have HL := Lib.hid hl
  have HNN := Lib.hid hn
  clear h hl hn
  go_enter Tryd.func34, Tryd.ntmps34
  go_wp2_with fail
  go_loopw [1] (fun x wr => ∃ (m : Nat) (v1 : Value) (l1 : List UInt8), x = .int .u64 (m : Int) ∧ m ≤ n ∧ Hid (uintB n = l1 ++ uintB m) ∧ Hid (WS wr P base v1 (l ++ l1)) ∧ Hid (Mov w P v wr v1)) (fun x _ => (intOf x).toNat)
  case atStart => exact ⟨n, v, [], rfl, Nat.le_refl _, rfl, by rw [List.append_nil]; exact HW, Lib.hid (Mov.refl _ _ _)⟩
  case round =>
    obtain ⟨m, v1, l1, rfl, hm, hu, hws, hmv⟩ := hrel
    by_cases hge : 128 ≤ m
    · have hge' : (128 : Int) ≤ (m : Int) := by omega
      have HUB := Lib.hid (uintB_ge hge (by have := HNN.out; omega))
      have q1 := or128 m
      have q2 : (m : Int) / 128 = ((m / 128 : Nat) : Int) := by omega
      have HM2 : Hid (m / 128 ≤ n ∧ m / 128 < m) := Lib.hid ⟨by omega, by omega⟩
      have hm0 : (0 : Int) ≤ (m : Int) := by omega
      generalize UInt8.ofNat (m % 128 + 128) = by8 at *
      generalize m / 128 = m2 at *
      have HOA := Lib.hid (hws.out.own.alloc (.cells #[.int .u8 (by8.toNat : Int)] 5))
      have hcA : (wr.alloc (.cells #[.int .u8 (by8.toNat : Int)] 5)).cell? ⟨P, 0, none⟩ = some v1 := (hws.out.p.to ((Below.refl wr.heap.size wr).alloc (Nat.le_refl _) _)).cell 0 rfl
      have hcP := hws.out.p.cell 0 rfl
      have HBS := Lib.hid hws.out.bs
      have hfz := hws.out.p.fz
      have HLN : Hid ((l ++ l1).length ≤ 1073741900) := Lib.hid (by
        have h1 := uintB_length n
        have h2 := congrArg List.length hu.out
        have h3 := HL.out
        rw [List.length_append] at h2 ⊢; omega)
      obtain ⟨l5, hl5⟩ : ∃ l5, l5 = l ++ l1 := ⟨_, rfl⟩
      rw [← hl5] at HOA HLN hws
      have HL5 := Lib.hid hl5
      clear hl5

      go_wp2_with (at_builtin; refine wpList_push (α := UInt8) _ rfl (.tmp 13) (.tmp 17) 59 rfl base 5 (.int .u8 0) 1 Tryd.underlying59 b_info rfl (by decide) v1 l5 rfl HOA.out wr.heap.size #[.int .u8 (by8.toNat : Int)] by8 (0, 0) 5 rfl (heap_alloc_new wr _) rfl (by have := HLN.out; omega) (by have := HLN.out; omega) (by have := HBS.out; simp; omega) (wr.heap.size + 1) (by simp) ?_; intro g5 cap5 w5 hown5 hg5 ho5 hlt5; have hp5 := hws.out.box5 hg5; have k5 := hp5.cell 0 rfl; have f5 := hp5.fz)
      have hat : (Value.slice (some ⟨g5, 0, none⟩) (l5.length + 1) cap5).ownBlock = v1.ownBlock ∨ ∀ g, (Value.slice (some ⟨g5, 0, none⟩) (l5.length + 1) cap5).ownBlock = some g → wr.heap.size ≤ g := by
        rcases ho5 with e | e
        · exact .inl (by rw [e]; rfl)
        · exact .inr (fun g hg => by have hg' : some g5 = some g := hg; cases hg'; omega)
      obtain ⟨hws2, hmv2⟩ := hws.out.push hown5 hg5 hat
      exact ⟨⟨m2, _, l1 ++ [by8], rfl, HM2.out.1, Lib.hid (by rw [hu.out, HUB.out, List.append_assoc]; rfl), Lib.hid (by rw [← List.append_assoc, ← HL5.out]; exact hws2), Lib.hid (hmv.out.trans hmv2)⟩, by have := HM2.out.2; simp [intOf]; omega⟩
    · have hge' : ¬ (128 : Int) ≤ (m : Int) := by omega
      have HUB := Lib.hid (uintB_lt (n := m) (by omega))
      have HBM : Hid ((m : Int) = ((UInt8.ofNat m).toNat : Int)) := Lib.hid (by rw [UInt8.toNat_ofNat']; omega)
      have hm0 : (0 : Int) ≤ (m : Int) := by omega
      generalize UInt8.ofNat m = by8 at *
      have HOA := Lib.hid (hws.out.own.alloc (.cells #[.int .u8 (m : Int)] 5))
      have hcA : (wr.alloc (.cells #[.int .u8 (m : Int)] 5)).cell? ⟨P, 0, none⟩ = some v1 := (hws.out.p.to ((Below.refl wr.heap.size wr).alloc (Nat.le_refl _) _)).cell 0 rfl
      have hcP := hws.out.p.cell 0 rfl
      have HBS := Lib.hid hws.out.bs
      have hfz := hws.out.p.fz
      have HLN : Hid ((l ++ l1).length ≤ 1073741900) := Lib.hid (by
        have h1 := uintB_length n
        have h2 := congrArg List.length hu.out
        have h3 := HL.out
        rw [List.length_append] at h2 ⊢; omega)
      obtain ⟨l5, hl5⟩ : ∃ l5, l5 = l ++ l1 := ⟨_, rfl⟩
      rw [← hl5] at HOA HLN hws
      have HL5 := Lib.hid hl5
      clear hl5

      go_wp2_with (at_builtin; refine wpList_push (α := UInt8) _ rfl (.tmp 27) (.tmp 30) 59 rfl base 5 (.int .u8 0) 1 Tryd.underlying59 b_info rfl (by decide) v1 l5 rfl HOA.out wr.heap.size #[.int .u8 (m : Int)] by8 (0, 0) 5 rfl (heap_alloc_new wr _) (by show [Value.int .u8 (m : Int)] = [Value.int .u8 (by8.toNat : Int)]; rw [HBM.out]) (by have := HLN.out; omega) (by have := HLN.out; omega) (by have := HBS.out; simp; omega) (wr.heap.size + 1) (by simp) ?_; intro g5 cap5 w5 hown5 hg5 ho5 hlt5; have hp5 := hws.out.box5 hg5; have k5 := hp5.cell 0 rfl; have f5 := hp5.fz)
      have hat : (Value.slice (some ⟨g5, 0, none⟩) (l5.length + 1) cap5).ownBlock = v1.ownBlock ∨ ∀ g, (Value.slice (some ⟨g5, 0, none⟩) (l5.length + 1) cap5).ownBlock = some g → wr.heap.size ≤ g := by
        rcases ho5 with e | e
        · exact .inl (by rw [e]; rfl)
        · exact .inr (fun g hg => by have hg' : some g5 = some g := hg; cases hg'; omega)
      obtain ⟨hws2, hmv2⟩ := hws.out.push hown5 hg5 hat
      go_end0
      exact ⟨rfl, _, by rw [hu.out, HUB.out, ← List.append_assoc, ← HL5.out]; exact hws2, hmv.out.trans hmv2⟩
set_option maxRecDepth 100000 in
set_option maxHeartbeats 1000000 in
theorem int_any (P base : Nat) (v : Value) (l : List UInt8) (n : Int) (w : World) (h : WS w P base v l) (hn : I64 n) (hl : l.length ≤ 1073741824) :
    Calls Tryd.prog 32 #[.pointer (some ⟨P, 0, none⟩), .int .i64 n] w fun e w' => e = .returned (.tuple #[]) ∧ ∃ v', WS w' P base v' (l ++ intB n) ∧ Mov w P v w' v' := by
  have HU := Lib.hid (uint_any P base v l (zig n) w h (zig_lt hn) hl)
  have q1 := zig_bits n hn
  unfold intB
  generalize zig n = z at *
  clear h hn hl
  go_enter Tryd.func32, Tryd.ntmps32
  go_wp2_with fail
  refine HU.out.mono ?_
  rintro e w1 ⟨rfl, v1, hws, hmv⟩
  have HWS := Lib.hid hws
  have HMV := Lib.hid hmv
  clear hws hmv HU
  go_wp2_with fail
  go_end0
  exact ⟨rfl, v1, HWS.out, HMV.out⟩
set_option maxRecDepth 100000 in
set_option maxHeartbeats 1000000 in
theorem text_any (P base : Nat) (v : Value) (l : List UInt8) (s : ByteArray) (w : World) (h : WS w P base v l) (hl : l.length ≤ 1073741000) (hs : s.size ≤ 1073741824) :
    Calls Tryd.prog 33 #[.pointer (some ⟨P, 0, none⟩), .string s] w fun e w' => e = .returned (.tuple #[]) ∧ ∃ v', WS w' P base v' (l ++ textB s) ∧ Mov w P v w' v' := by
  have HU := Lib.hid (uint_any P base v l s.size w h (by omega) (by omega))
  have HSL : Hid (∀ l5 : List UInt8, (l5 ++ s.data.toList).length = l5.length + s.size) := Lib.hid (fun l5 => by rw [List.length_append, Array.length_toList]; rfl)
  have HL : Hid ((l ++ uintB s.size).length ≤ 1073741824) := Lib.hid (by rw [List.length_append]; have := uintB_length s.size; omega)
  have HTB : Hid (l ++ textB s = l ++ uintB s.size ++ s.data.toList) := Lib.hid (by rw [List.append_assoc]; rfl)
  clear h hl
  go_enter Tryd.func33, Tryd.ntmps33
  go_wp2_with fail
  refine HU.out.mono ?_
  rintro e w1 ⟨rfl, v1, hws, hmv⟩
  have HWS := Lib.hid hws
  have HMV := Lib.hid hmv
  obtain ⟨l5, hl5⟩ : ∃ l5, l5 = l ++ uintB s.size := ⟨_, rfl⟩
  rw [← hl5] at HWS HTB HL
  have hcP := HWS.out.p.cell 0 rfl
  clear hl5 hws hmv HU
  go_wp2_with (at_builtin; refine wpList_catT rfl (.tmp 14) (.tmp 15) 59 9 rfl base 5 Tryd.underlying59 Tryd.underlying9 b_info v1 l5 rfl HWS.out.own s rfl (by have := HL.out; omega) HWS.out.bs ?_; intro v5 w5 hown5 hg5 hat5; obtain ⟨A5, c5, rfl, hsl5⟩ := hown5.sl; have hp5 := HWS.out.box6 hg5; have k5 := hp5.cell 0 rfl; have f5 := hp5.fz)
  go_end0
  have hL := HSL.out l5
  obtain ⟨hws2, hmv2⟩ := HWS.out.cat hown5 hg5 hat5
  rw [hL] at hws2 hmv2
  exact ⟨rfl, _, by rw [HTB.out]; exact hws2, HMV.out.trans hmv2⟩
set_option maxHeartbeats 1000000 in
theorem bclone_any (A : Option Addr) (c n : Nat) (l : List UInt8) (w : World) (hl : Sl w (fun b => b < w.heap.size) A c l) (hn : l.length = n) (hsz : n ≤ 68719476736) :
    Calls Tryd.prog 63 #[.slice A n c] w fun e w' => ∃ v, e = .returned v ∧ Own w' w.heap.size 5 v l ∧ Below w.heap.size w w' := by
  have hq := fun w' => Lib.run_eql_slice_nil (P := Tryd.prog) w' 59 5 A n c 0 0 Tryd.underlying59
  cases A with
  | none =>
    have hl0 : l = [] := by
      by_cases h0 : 0 < l.length
      · obtain ⟨b, o, e, _⟩ := hl.2.2 h0; cases e
      · exact List.eq_nil_of_length_eq_zero (by omega)
    subst hl0
    simp only [Option.isNone_none] at hq
    go_enter Tryd.func63, Tryd.ntmps63
    go_wp2_with fail
    go_ret
    exact ⟨_, rfl, Own.nil _ _ _, Below.refl _ _⟩
  | some a =>
    simp only [Option.isNone_some] at hq
    go_enter Tryd.func63, Tryd.ntmps63
    go_wp2_with (at_builtin; refine wpList_cat (α := UInt8) _ rfl (.tmp 5) (.tmp 6) 59 rfl w.heap.size 5 (.int .u8 0) 1 Tryd.underlying59 b_info rfl (by decide) (.slice (some ⟨w.heap.size, 0, none⟩) 0 0) [] rfl (Own.made w _ _ (Nat.le_refl _)) (some a) c n l rfl hn (fun b => b < w.heap.size) (hl.keep (Kept.all ((Below.refl _ _).alloc (Nat.le_refl _) _)) (by simp)) (by intro i (hi : i < w.heap.size) _ e; simp [Value.ownBlock] at e; omega) (by simp; omega) (by simp; omega) (by simp) ?_; intro v2 w2 hown2 hg2 _)
    go_ret
    exact ⟨_, rfl, hown2, below_cat ((Below.refl _ _).alloc (Nat.le_refl _) _) (Own.made (α := UInt8) w _ _ (Nat.le_refl _)) (by simp) hg2⟩
theorem WS.slB {w : World} {P base : Nat} {v : Value} {l : List UInt8} (h : WS w P base v l) : ∃ A c, v = .slice A l.length c ∧ Sl w (fun b => b < w.heap.size) A c l := h.own.sl
set_option maxHeartbeats 1000000 in
theorem done_any (P base : Nat) (v : Value) (l : List UInt8) (w : World) (h : WS w P base v l) (hl : l.length ≤ 1073741824) :
    Calls Tryd.prog 35 #[.pointer (some ⟨P, 0, none⟩)] w fun e w' => ∃ v', e = .returned v' ∧ Own w' w.heap.size 5 v' l ∧ Below w.heap.size w w' := by
  obtain ⟨A, c, rfl, hs⟩ := h.slB
  have HC := Lib.hid (bclone_any A c l.length l w hs rfl (by omega))
  have hcP := h.p.cell 0 rfl
  clear h hs hl
  go_enter Tryd.func35, Tryd.ntmps35
  go_wp2_with fail
  refine HC.out.mono ?_
  rintro e w1 ⟨v1, rfl, hown, hb⟩
  have HO := Lib.hid hown
  have HB := Lib.hid hb
  clear hown hb
  go_wp2_with fail
  go_ret
  exact ⟨_, rfl, HO.out, HB.out⟩
end Go.Proofs.YthcklfelofpffaaDoor
