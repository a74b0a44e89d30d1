/- One sheet more in a ledger: the function inside of Add. No condition but sizes and what the table holds.
bits.Len of Go's library, by the shelf's contract (proved once, over any program).
The root of a tree of hash values. No condition but sizes and what the table holds.
Hash values turned round in their row: slices.Reverse. No condition.
The path of a leaf: merkle.Path. No condition but sizes and what the table holds. -/
import Derived.Test.YthcklfelofpffaaDoorCPd3
import Derived.ChangeKeysEq
import Derived.Laws.NewFold
import Derived.Deep.MidRow
import Derived.Deep.CutRange
import Derived.Test.YthcklfelofpffaaDoorRows
import Derived.Shelf.Small.Bits
import Derived.Ground.NamesProg
import Derived.Lib.ItoaNum
namespace Go.Proofs.YthcklfelofpffaaDoor
open Go.RowKit
theorem foldl_set : ∀ (l : List Value) (k : Nat) (z : List Value), k + l.length = z.length → (l.zipIdx k).foldl (fun (c : Array Value) x => c.setIfInBounds (0 + x.2) x.1) z.toArray = (z.take k ++ l).toArray
  | [], k, z, h => by
    simp only [List.zipIdx_nil, List.foldl_nil, List.append_nil]
    rw [List.take_of_length_le (by simp at h; omega)]
  | x :: l, k, z, h => by
    rw [List.zipIdx_cons, List.foldl_cons]
    have e : z.toArray.setIfInBounds (0 + k) x = (z.set k x).toArray := by simp
    simp only [e]
    rw [foldl_set l (k + 1) (z.set k x) (by simp at h ⊢; omega)]
    congr 1
    have hk : k < (z.set k x).length := by simp at h ⊢; omega
    rw [List.take_succ_eq_append_getElem hk, List.getElem_set_self, List.take_set_of_le (Nat.le_refl k), List.append_assoc]; rfl
theorem fill_one (n : Nat) (z cs : Array Value) (hz : z.size = n) (hs : cs.size = n) : Instr.fill (fun i => some (i * n, n)) z [(0, .agg cs)] = some cs := by
  have hc : (Value.agg cs).cells = cs := rfl
  rw [Instr.fill]
  simp only [hc, hs, hz, ne_eq, not_true_eq_false, decide_false, Nat.zero_mul, Nat.zero_add, gt_iff_lt, Nat.lt_irrefl, Bool.or_self, Bool.false_eq_true, if_false]
  rw [Instr.fill]
  have h := foldl_set cs.toList 0 z.toList (by simp; omega)
  simp only [List.take_zero, List.nil_append, Array.toArray_toList, Nat.zero_add] at h
  refine congrArg some (Eq.trans ?_ h)
  rw [← Array.foldl_toList, Array.toList_zipIdx]
theorem run_build1 (cs : Array Value) (hs : cs.size = 32) (w : World) : (Instr.buildSlice 34 1 #[(0, .agg cs)]).run Tryd.prog w = .ok (.slice (some ⟨w.heap.size, 0, none⟩) 1 1) (w.alloc (.cells cs 29)) := by
  have hu := Tryd.underlying34
  obtain ⟨i, hi, hz0, hz1, hz2⟩ := info_parts h_info
  have hz1' : i.size = 32 := hz1
  have hf : ∀ z : Array Value, z.size = 32 → Instr.fill (fun i => some (i * 32, 32)) z [(0, .agg cs)] = some cs := fun z hz => fill_one 32 z cs hz hs
  have hsz : ∀ w, (sizeOf 29).run Tryd.prog w = .ok 32 w := fun w => by rw [run_sizeOf w hi, show Tryd.prog.cellsOf 29 = 32 by kernel_rfl]
  have hzv : ∀ w, (zeroValue 29).run Tryd.prog w = .ok (.agg (zer32.map encB).toArray) w := fun w => by simp [zeroValue, typeInfo, hi, hz0, go_sem]
  have hzc : (Value.agg (zer32.map encB).toArray).cells = (zer32.map encB).toArray := rfl
  have hr : ((Array.range (1 * 32)).map (fun x => (zer32.map encB).toArray[x % (zer32.map encB).toArray.size]!)).size = 32 := by simp
  have hff := hf _ hr
  have hle : ¬ (1 * 32 > 2 ^ 24) := by decide
  have hne : ¬ (1 * 32 = 0) := by decide
  simp only [Instr.buildSlice, Sem.run_bind, run_underlying hu, hsz, Result.andThen_ok, if_neg hle, if_neg hne, hzv, hzc, hff, Sem.run_pure, newRow]
  rw [run_newObj_alloc]; rfl
theorem wp_build1 {o : Oper} {a : Act} {K : Act → World → Prop} {Q : Exit → Act → World → Prop} {w : World} (x : Operand) (ho : o.op = .buildSlice 34 1 #[(0, x)]) (cs : Array Value) (hx : a.eval x = .agg cs) (hs : cs.size = 32)
    (h : K (a.put o.dst (.slice (some ⟨w.heap.size, 0, none⟩) 1 1)) (w.alloc (.cells cs 29))) : o.wp Tryd.prog a w K Q := by
  unfold Oper.wp execOp
  have hm : (#[(0, x)] : Array (Nat × Operand)).map (fun p => (p.1, a.eval p.2)) = #[(0, .agg cs)] := by simp [hx]
  simp only [ho, hm, Sem.run_bind, run_build1 cs hs w, Result.andThen_ok, Sem.run_pure]
  exact h
theorem exec_load_mid {P : Program} {w : World} {o : Oper} {a : Act} (ty : TypeId) (x : Operand) (ho : o.op = .load ty x) (b off : Nat) (hx : a.eval x = .pointer (some ⟨b, off, none⟩)) (cs : List Value) (d : TypeDesc) (hc : w.rangeAt b off cs)
    (hu : P.underlying ty = some d) (hd : d.isRow = true) (hi : (P.info? ty).map (·.size) = some cs.length) : (execOp a.eval o).run P w = .ok (.value (.agg cs.toArray)) w := by
  unfold execOp
  simp only [ho, hx, Instr.loadAt, Instr.sureAddr, Sem.run_bind, Sem.run_pure, Result.andThen_ok, run_loadVar_mid w b off ty cs d hc hu hd hi]
theorem exec_load_row {P : Program} {w : World} {o : Oper} {a : Act} (ty : TypeId) (x : Operand) (ho : o.op = .load ty x) (g : Nat) (hx : a.eval x = .pointer (some ⟨g, 0, none⟩)) (t : TypeId) (cs : Array Value) (fr : Nat × Nat) (d : TypeDesc) (hg : w.heap[g]? = some (.cells cs t fr))
    (hu : P.underlying ty = some d) (hd : (match d with | .struct _ | .array _ _ => true | _ => false) = true) (hi : (P.info? ty).map (·.size) = some cs.size) : (execOp a.eval o).run P w = .ok (.value (.agg cs)) w := by
  unfold execOp
  simp only [ho, hx, Instr.loadAt, Instr.sureAddr, Sem.run_bind, Sem.run_pure, Result.andThen_ok, run_loadVar_row w g t ty cs fr d hg hu hd hi]
theorem exec_neq {P : Program} {w : World} {o : Oper} {a : Act} (ty ty2 : TypeId) (x y : Operand) (ho : o.op = .binOp .neq ty x y ty2) (xs ys : Array Value) (hx : a.eval x = .agg xs) (hy : a.eval y = .agg ys) (hm : P.eqGuardType P.depth ty = false) (c : Bool) (h : (binOp .neq ty (.agg xs) (.agg ys)).run P w = .ok (.bool c) w) : (execOp a.eval o).run P w = .ok (.value (.bool c)) w := by
  unfold execOp
  simp only [ho, hx, hy, Sem.run_bind, run_eqGuard_agg w .neq ty x y xs ys hm, h, Result.andThen_ok, Sem.run_pure]
theorem lastTo_cases (l : List ByteArray) (x : ByteArray) : ∀ k, lastTo l x k = -1 ∨ ∃ j, j < k ∧ lastTo l x k = (j : Int)
  | 0 => .inl rfl
  | k + 1 => by
    rw [lastTo]
    split
    · exact .inr ⟨k, by omega, rfl⟩
    · rcases lastTo_cases l x k with h | ⟨j, hj, h⟩
      · exact .inl h
      · exact .inr ⟨j, by omega, h⟩
theorem lastIx_cases (l : List ByteArray) (x : ByteArray) : lastIx l x = -1 ∨ ∃ j, j < l.length ∧ lastIx l x = (j : Int) := lastTo_cases l x l.length
theorem h32_at {w : World} {S : Nat → Prop} {A : Option Addr} {c : Nat} {l : List H32} (h : Sl w S A c l) {k : Nat} (hk : k < l.length) :
    ∃ b o, A = some ⟨b, o, none⟩ ∧ S b ∧ b < w.heap.size ∧ w.rangeAt b (o + k * 32) (l[k].l.map encB) ∧ l[k].l.length = 32 := by
  obtain ⟨b, o, es, rfl, hb, hlt, ⟨he, hl⟩, hc⟩ := h.at_ hk
  subst he
  exact ⟨b, o, rfl, hb, hlt, fun j v hv => hc j v hv, hl⟩
/-- A ledger's variable, and its two rows. -/
structure LG (w : World) (O base : Nat) (v1 v2 : Value) (L : List H32) (N : List ByteArray) : Prop where
  o : ABox w O 36 [v1, v2]
  l : Own w base 29 v1 L
  n : Own w base 9 v2 N
  ob : base ≤ O
  o1 : some O ≠ v1.ownBlock
  o2 : some O ≠ v2.ownBlock
  dj : ∀ g, v1.ownBlock = some g → v2.ownBlock ≠ some g
  bs : base ≤ w.heap.size
theorem LG.to {w w' : World} {O base : Nat} {v1 v2 : Value} {L : List H32} {N : List ByteArray} (h : LG w O base v1 v2 L N) (hb : Below w.heap.size w w') : LG w' O base v1 v2 L N :=
  ⟨h.o.to hb, h.l.below hb, h.n.below hb, h.ob, h.o1, h.o2, h.dj, Nat.le_trans h.bs hb.size⟩
theorem Sl.at_base {α : Type} [Rep α] {w w' : World} {base : Nat} {A : Option Addr} {c : Nat} {l : List α} (h : Sl w (fun b => b < base) A c l) (hb : Below base w w') : Sl w' (fun b => b < w'.heap.size) A c l :=
  (h.keep (Kept.below hb (fun _ h => h)) hb.size).mono (fun _ _ hlt => hlt)
theorem own_keepH {w w' : World} {base : Nat} {e : TypeId} {v : Value} {l : List H32} (h : Own w base e v l) (hk : ∀ g, v.ownBlock = some g → w'.heap[g]? = w.heap[g]?) : Own w' base e v l := by
  obtain ⟨xs, hx, ho, hr⟩ := h
  refine ⟨xs, ⟨hx.1, ?_⟩, ho, fun i hi => hr i hi⟩
  rcases hx.2 with hn | ⟨g, cap, cur, rfl, hb, hg, rest⟩
  · exact .inl hn
  · exact .inr ⟨g, cap, cur, rfl, hb, (hk g rfl).trans hg, rest⟩
theorem own_keepS {w w' : World} {base : Nat} {e : TypeId} {v : Value} {l : List ByteArray} (h : Own w base e v l) (hk : ∀ g, v.ownBlock = some g → w'.heap[g]? = w.heap[g]?) : Own w' base e v l := by
  obtain ⟨xs, hx, ho, hr⟩ := h
  refine ⟨xs, ⟨hx.1, ?_⟩, ho, fun i hi => hr i hi⟩
  rcases hx.2 with hn | ⟨g, cap, cur, rfl, hb, hg, rest⟩
  · exact .inl hn
  · exact .inr ⟨g, cap, cur, rfl, hb, (hk g rfl).trans hg, rest⟩
/-- Between the two appends. -/
structure PL (wc w : World) (base : Nat) (v1 v2 u1 u2 : Value) (L : List H32) (N : List ByteArray) : Prop where
  os : w.os = wc.os
  tape : w.tape = wc.tape
  output : w.output = wc.output
  size : wc.heap.size ≤ w.heap.size
  block : ∀ i, i < wc.heap.size → some i ≠ v1.ownBlock → some i ≠ v2.ownBlock → w.heap[i]? = wc.heap[i]?
  l : Own w base 29 u1 L
  n : Own w base 9 u2 N
  r1 : u1.ownBlock = v1.ownBlock ∨ ∀ g, u1.ownBlock = some g → wc.heap.size ≤ g
  r2 : u2.ownBlock = v2.ownBlock ∨ ∀ g, u2.ownBlock = some g → wc.heap.size ≤ g
  dj : ∀ g, u1.ownBlock = some g → u2.ownBlock ≠ some g
  bs : base ≤ w.heap.size
/-- A literal's block, apart from both rows. -/
structure LT (w : World) (B : Nat) (es : Array Value) (te : TypeId) (u1 u2 : Value) : Prop where
  b : w.heap[B]? = some (.cells es te (0, 0))
  n1 : some B ≠ u1.ownBlock
  n2 : some B ≠ u2.ownBlock
section
variable {wc w w5 : World} {base : Nat} {v1 v2 u1 u2 : Value} {L : List H32} {N : List ByteArray}
theorem PL.start {O : Nat} (h : LG wc O base v1 v2 L N) : PL wc wc.drew base v1 v2 v1 v2 L N :=
  ⟨rfl, rfl, rfl, Nat.le_refl _, fun _ _ _ _ => rfl, h.l.drew, h.n.drew, .inl rfl, .inl rfl, h.dj, h.bs⟩
theorem PL.alloc (h : PL wc w base v1 v2 u1 u2 L N) (o : Obj) : PL wc (w.alloc o) base v1 v2 u1 u2 L N := by
  have hz := h.size
  exact ⟨h.os, h.tape, h.output, by simp; omega, fun i hi h1 h2 => (Below.heap_alloc w o i (by omega)).trans (h.block i hi h1 h2), h.l.alloc o, h.n.alloc o, h.r1, h.r2, h.dj, by have := h.bs; simp; omega⟩
theorem PL.lit (h : PL wc w base v1 v2 u1 u2 L N) (es : Array Value) (te : TypeId) : LT (w.alloc (.cells es te)) w.heap.size es te u1 u2 :=
  ⟨heap_alloc_new w _, fun e => by have := (h.l.lt _ e.symm).2; omega, fun e => by have := (h.n.lt _ e.symm).2; omega⟩
theorem LT.alloc {B : Nat} {es : Array Value} {te : TypeId} (h : LT w B es te u1 u2) (o : Obj) : LT (w.alloc o) B es te u1 u2 :=
  ⟨(Below.heap_alloc w o B (Array.getElem?_eq_some_iff.1 h.b).1).trans h.b, h.n1, h.n2⟩
theorem PL.push1 {g cap m : Nat} {L' : List H32} (h : PL wc w base v1 v2 u1 u2 L N) (hown : Own w5 base 29 (.slice (some ⟨g, 0, none⟩) m cap) L') (hg : w.grownBy w5 u1.ownBlock) (hat : u1.ownBlock = some g ∨ g = w.heap.size) :
    PL wc w5 base v1 v2 (.slice (some ⟨g, 0, none⟩) m cap) u2 L' N := by
  have hz := h.size
  refine ⟨hg.os.trans h.os, hg.tape.trans h.tape, hg.output.trans h.output, Nat.le_trans hz hg.size, fun i hi h1 h2 => (hg.block i (by omega) (fun e => ?_)).trans (h.block i hi h1 h2), hown, own_keepS h.n (fun k hk => hg.block k (h.n.lt k hk).2 (fun e => h.dj k e.symm hk)), ?_, h.r2, fun k hk hk2 => ?_, Nat.le_trans h.bs hg.size⟩
  · rcases h.r1 with e2 | e2
    · rw [e2] at e; exact h1 e
    · have := e2 i e.symm; omega
  · rcases hat with e | e
    · rcases h.r1 with e2 | e2
      · exact .inl (by rw [← e2, e]; rfl)
      · exact .inr (fun k hk => by have hk' : some g = some k := hk; cases hk'; exact e2 g e)
    · exact .inr (fun k hk => by have hk' : some g = some k := hk; cases hk'; omega)
  · have hk' : some g = some k := hk
    cases hk'
    rcases hat with e | e
    · exact h.dj g e hk2
    · have := (h.n.lt g hk2).2; omega
theorem PL.push2 {g cap m : Nat} {N' : List ByteArray} (h : PL wc w base v1 v2 u1 u2 L N) (hown : Own w5 base 9 (.slice (some ⟨g, 0, none⟩) m cap) N') (hg : w.grownBy w5 u2.ownBlock) (hat : u2.ownBlock = some g ∨ g = w.heap.size) :
    PL wc w5 base v1 v2 u1 (.slice (some ⟨g, 0, none⟩) m cap) L N' := by
  have hz := h.size
  refine ⟨hg.os.trans h.os, hg.tape.trans h.tape, hg.output.trans h.output, Nat.le_trans hz hg.size, fun i hi h1 h2 => (hg.block i (by omega) (fun e => ?_)).trans (h.block i hi h1 h2), own_keepH h.l (fun k hk => hg.block k (h.l.lt k hk).2 (fun e => h.dj k hk e.symm)), hown, h.r1, ?_, fun k hk hk2 => ?_, Nat.le_trans h.bs hg.size⟩
  · rcases h.r2 with e2 | e2
    · rw [e2] at e; exact h2 e
    · have := e2 i e.symm; omega
  · rcases hat with e | e
    · rcases h.r2 with e2 | e2
      · exact .inl (by rw [← e2, e]; rfl)
      · exact .inr (fun k hk => by have hk' : some g = some k := hk; cases hk'; exact e2 g e)
    · exact .inr (fun k hk => by have hk' : some g = some k := hk; cases hk'; omega)
  · have hk' : some g = some k := hk2
    cases hk'
    rcases hat with e | e
    · exact h.dj g hk e
    · have := (h.l.lt g hk).2; omega
theorem PL.box {O : Nat} (h : PL wc w base v1 v2 u1 u2 L N) {L0 : List H32} {N0 : List ByteArray} (hg : LG wc O base v1 v2 L0 N0) : ABox w O 36 [v1, v2] :=
  (h.block O hg.o.lt hg.o1 hg.o2).trans hg.o
theorem PL.finish {O : Nat} (h : PL wc w base v1 v2 u1 u2 L N) {L0 : List H32} {N0 : List ByteArray} (hg : LG wc O base v1 v2 L0 N0) :
    LG ((w.setCell ⟨O, 0, none⟩ u1).setCell ⟨O, 1, none⟩ u2) O base u1 u2 L N ∧ Below base wc ((w.setCell ⟨O, 0, none⟩ u1).setCell ⟨O, 1, none⟩ u2) := by
  have hO := hg.o.lt
  have n1 : some O ≠ u1.ownBlock := fun e => by
    rcases h.r1 with e2 | e2
    · rw [e2] at e; exact hg.o1 e
    · have := e2 O e.symm; omega
  have n2 : some O ≠ u2.ownBlock := fun e => by
    rcases h.r2 with e2 | e2
    · rw [e2] at e; exact hg.o2 e
    · have := e2 O e.symm; omega
  have hk : ∀ g, g ≠ O → ((w.setCell ⟨O, 0, none⟩ u1).setCell ⟨O, 1, none⟩ u2).heap[g]? = w.heap[g]? := fun g hne => (heap_set _ _ _ _ hne).trans (heap_set _ _ _ _ hne)
  refine ⟨⟨((h.box hg).set 0 u1).set 1 u2, own_keepH h.l (fun g e => hk g (fun e2 => n1 (by rw [e, e2]))), own_keepS h.n (fun g e => hk g (fun e2 => n2 (by rw [e, e2]))), hg.ob, n1, n2, h.dj, by have := h.bs; simp; omega⟩, ?_⟩
  have hb : Below base wc w := ⟨h.os, h.tape, h.output, h.size, fun i hi => h.block i (by have := hg.bs; omega) (fun e => by have := (hg.l.lt i e.symm).1; omega) (fun e => by have := (hg.n.lt i e.symm).1; omega)⟩
  exact (hb.setCell (p := ⟨O, 0, none⟩) hg.ob u1).setCell (p := ⟨O, 1, none⟩) hg.ob u2
theorem LT.push1 {B g cap m : Nat} {es : Array Value} {te : TypeId} (h : LT w B es te u1 u2) (hg : w.grownBy w5 u1.ownBlock) (hat : u1.ownBlock = some g ∨ g = w.heap.size) : LT w5 B es te (.slice (some ⟨g, 0, none⟩) m cap) u2 := by
  have hlt := (Array.getElem?_eq_some_iff.1 h.b).1
  refine ⟨(hg.block B hlt h.n1).trans h.b, fun e => ?_, h.n2⟩
  have e' : some B = some g := e
  cases e'
  rcases hat with e | e
  · exact h.n1 e.symm
  · omega
end
/-- What a sheet makes of a ledger. -/
def addOne (branch : Int) (p : List H32 × List ByteArray) (s : Sheet) : List H32 × List ByteArray :=
  if lastIx p.2 s.label < 0 ∨ (p.1[(lastIx p.2 s.label).toNat]?).map (·.l) ≠ some (leafOf branch s) then (p.1 ++ [⟨leafOf branch s⟩], p.2 ++ [s.label]) else p
set_option maxRecDepth 100000 in
set_option maxHeartbeats 4000000 in
theorem add1_any (branch : Int) (s : Sheet) (A B : Option Addr) (c d Bb O base : Nat) (v1 v2 : Value) (L : List H32) (N : List ByteArray) (w : World) (hbr : I64 branch) (hbb : w.cell? ⟨Bb, 0, none⟩ = some (.int .i64 branch)) (hbl : Bb < base)
    (ha : Sl w (fun b => b < base) A c s.body) (hb : Sl w (fun b => b < base) B d s.notes) (hsz : (sheetB branch s).length ≤ 1073740000) (hK : KLaid w)
    (hg : LG w O base v1 v2 L N) (hln : L.length = N.length) (hlm : L.length ≤ 1048576) :
    Calls Tryd.prog 49 #[.agg #[.string s.label, .slice A s.body.length c, .slice B s.notes.length d], .pointer (some ⟨Bb, 0, none⟩), .pointer (some ⟨O, 0, none⟩)] w fun e w' => e = .returned (.tuple #[]) ∧
      ∃ v1' v2', LG w' O base v1' v2' (addOne branch (L, N) s).1 (addOne branch (L, N) s).2 ∧ Below base w w' := by
  have HA := Lib.hid ha
  have HB := Lib.hid hb
  have HK := Lib.hid hK
  have HBR := Lib.hid hbr
  have HSZ := Lib.hid hsz
  have HG := Lib.hid hg
  have HBB := Lib.hid hbb
  have HBL := Lib.hid hbl
  have HLN := Lib.hid hln
  have HLM := Lib.hid hlm
  clear ha hb hK hbr hsz hg hbb hbl hln hlm
  go_enter Tryd.func49, Tryd.ntmps49
  go_upto_region 1 with (fail)
  have hba : Below w.heap.size w (w.alloc (.cells #[.string s.label, .slice A s.body.length c, .slice B s.notes.length d] 24)) := (Below.refl _ _).alloc (Nat.le_refl _) _
  have HBa : Hid (Below base w (w.alloc (.cells #[.string s.label, .slice A s.body.length c, .slice B s.notes.length d] 24))) := Lib.hid (hba.mono HG.out.bs)
  have HD : Hid (ABox (w.alloc (.cells #[.string s.label, .slice A s.body.length c, .slice B s.notes.length d] 24)) w.heap.size 24 [.string s.label, .slice A s.body.length c, .slice B s.notes.length d]) := Lib.hid (heap_alloc_new w _)
  have HG1 := Lib.hid (HG.out.to hba)
  have HDB : Hid (base ≤ w.heap.size) := Lib.hid HG.out.bs
  have HRD : Hid (∀ g, v1.ownBlock = some g ∨ v2.ownBlock = some g → g < w.heap.size) := Lib.hid (fun g hg => hg.elim (fun h => (HG.out.l.lt g h).2) (fun h => (HG.out.n.lt g h).2))
  have HLF := Lib.hid (leafS_any branch s A B c d _ HBR.out (HA.out.at_base HBa.out) (HB.out.at_base HBa.out) HSZ.out (HK.out.to hba))
  have k0 := (HBa.out.cell (p := ⟨Bb, 0, none⟩) HBL.out).trans HBB.out
  have k1 := HD.out.cell 0 rfl
  have k2 := HD.out.cell 1 rfl
  have k3 := HD.out.cell 2 rfl
  clear hba HG HA HB HK
  generalize (w.alloc (.cells #[.string s.label, .slice A s.body.length c, .slice B s.notes.length d] 24)) = w1 at *
  generalize w.heap.size = D at *
  have hlf : hashV (leafOf branch s) = .agg ((leafOf branch s).map encB).toArray := rfl
  rw [hlf] at HLF
  have HSZ2 := Lib.hid (hash_size (show (leafOf branch s).length = 32 from sha_length _))
  have HC1 := Lib.hid (hash_all (leafOf branch s))
  clear hlf
  generalize hcs : ((leafOf branch s).map encB).toArray = cs at *
  have HCS := Lib.hid hcs
  clear hcs
  go_wp2_with fail
  refine HLF.out.mono ?_
  rintro e w3 ⟨rfl, hb3⟩
  have HG3 := Lib.hid (HG1.out.to hb3)
  have HD3 := Lib.hid (HD.out.to hb3)
  have HB3 := Lib.hid (HBa.out.trans (hb3.mono HG1.out.bs))
  clear k0 k1 k2 k3 hb3 HG1 HD HBa HLF
  go_upto_region 2 with (first
    | (refine wpList_store_row rfl 29 (.tmp 4) (.tmp 8) rfl w3.heap.size cs rfl rfl 29 _ (heap_alloc_new w3 _) (by rw [HSZ2.out]; kernel_rfl) (by rw [HSZ2.out]; rfl) HC1.out ?_)
    | fail)
  generalize hw4 : (World.setRow (World.alloc w3 _) _ _) = w4
  have hb4 : Below w3.heap.size w3 w4 := by rw [← hw4]; exact below_setRow ((Below.refl _ _).alloc (Nat.le_refl _) _) (Nat.le_refl _) _
  have HH4 : Hid (w4.heap[w3.heap.size]? = some (.cells cs 29 (0, 0))) := by rw [← hw4]; exact Lib.hid (setRow_heap _ _ _ cs _ _ (heap_alloc_new w3 _))
  have HG4 := Lib.hid (HG3.out.to hb4)
  have HD4 := Lib.hid (HD3.out.to hb4)
  have HB4 := Lib.hid (HB3.out.trans (hb4.mono HG3.out.bs))
  have HHL : Hid (O < w3.heap.size ∧ D < w3.heap.size ∧ base ≤ w3.heap.size) := Lib.hid ⟨HG3.out.o.lt, HD3.out.lt, HG3.out.bs⟩
  have HHN : Hid (∀ g, v1.ownBlock = some g ∨ v2.ownBlock = some g → g < w3.heap.size) := Lib.hid (fun g hg => hg.elim (fun h => (HG3.out.l.lt g h).2) (fun h => (HG3.out.n.lt g h).2))
  clear hw4 hb4 HG3 HD3 HB3
  generalize w3.heap.size = Hb at *
  obtain ⟨A2, c2, rfl, hsl2⟩ := HG4.out.n.sl
  obtain ⟨A1, c1, rfl, hsl1⟩ := HG4.out.l.sl
  have HS1 := Lib.hid hsl1
  have HLA := Lib.hid (last_any A1 A2 L.length c1 c2 _ N s.label w4 hsl2 rfl (by have := HLN.out; have := HLM.out; omega))
  have k0 := HG4.out.o.cell 0 rfl
  have k1 := HG4.out.o.cell 1 rfl
  have k2 := HD4.out.cell 0 rfl
  clear hsl2 hsl1
  go_wp2_with fail
  refine HLA.out.mono ?_
  rintro e w5 ⟨rfl, hb5⟩
  have HG5 := Lib.hid (HG4.out.to hb5)
  have HD5 := Lib.hid (HD4.out.to hb5)
  have HH5 : Hid (w5.heap[Hb]? = some (.cells cs 29 (0, 0))) := Lib.hid ((hb5.block Hb (Array.getElem?_eq_some_iff.1 HH4.out).1).trans HH4.out)
  have HB5 := Lib.hid (HB4.out.trans (hb5.mono HG4.out.bs))
  have HS5 := Lib.hid (HS1.out.to hb5)
  clear hb5 HG4 HD4 HH4 HB4 HS1 HLA k0 k1 k2
  go_upto_region 3 with (fail)
  go_upto_region 3 with (fail)
  have HCOND : Hid (∃ cond : Bool, cond = decide (lastIx N s.label < 0 ∨ (L[(lastIx N s.label).toNat]?).map (·.l) ≠ some (leafOf branch s))) := Lib.hid ⟨_, rfl⟩
  obtain ⟨cond, hcond⟩ := HCOND.out
  have HCD := Lib.hid hcond
  clear hcond HCOND
  have hKX := lastIx_cases N s.label
  generalize hkx : lastIx N s.label = kx at *
  have HKX := Lib.hid hkx
  clear hkx
  go_cut [23] from 13 to 23 (fun v wx => v = .bool cond ∧ Hid (Below w5.heap.size w5 wx))
  case first =>
    rcases hKX with rfl | ⟨j, hj, rfl⟩
    · have hct : cond = true := by rw [HCD.out]; simp
      subst hct
      go_wp2_with fail
      go_quiet (fail)
      unfold Exit.then
      go_wp2_with fail
      go_meet
      exact ⟨rfl, Lib.hid (Below.dn (Below.refl _ _) nq)⟩
    · have hj0 : ¬ (j : Int) < 0 := by omega
      have hjL : j < L.length := by rw [HLN.out]; exact hj
      have hjL2 : (j : Int) < (L.length : Int) := by omega
      have hj1 : (0 : Int) ≤ (j : Int) := by omega
      obtain ⟨bL, oL, rfl, _, hbl, hrg, hel⟩ := h32_at HS5.out hjL
      have HCN : Hid (cond = !decide (L[j].l = leafOf branch s)) := Lib.hid (by
        rw [HCD.out, List.getElem?_eq_getElem (show ((j : Int)).toNat < L.length by omega)]
        simp only [Int.toNat_natCast, Option.map_some, Option.some.injEq, ne_eq]
        by_cases e : L[j].l = leafOf branch s <;> simp [e, hj0])
      have HNQ : Hid (∀ W, (binOp .neq 29 (.agg (L[j].l.map encB).toArray) (.agg cs)).run Tryd.prog W = .ok (.bool cond) W) := Lib.hid (fun W => by rw [← HCS.out, HCN.out]; exact run_hash_neq _ _ hel (sha_length _) W)
      have HEL : Hid ((L[j].l.map encB).length = 32) := Lib.hid (by rw [List.length_map]; exact hel)
      generalize L[j].l = el at *
      have SK : ∀ w', Below w5.heap.size w5 w' → w'.cell? ⟨O, 0, none⟩ = some (.slice (some ⟨bL, oL, none⟩) L.length c1) ∧ w'.rangeAt bL (oL + j * 32) (el.map encB) ∧ w'.heap[Hb]? = some (.cells cs 29 (0, 0)) := fun w' hb =>
        ⟨(hb.cell (p := ⟨O, 0, none⟩) HG5.out.o.lt).trans (HG5.out.o.cell 0 rfl), fun i v hv => (hb.cell (p := ⟨bL, _, none⟩) hbl).trans (hrg i v hv), (hb.block Hb (Array.getElem?_eq_some_iff.1 HH5.out).1).trans HH5.out⟩
      go_wp2_with fail
      refine wp_region_D (fun w' => w'.cell? ⟨O, 0, none⟩ = some (.slice (some ⟨bL, oL, none⟩) L.length c1) ∧ w'.rangeAt bL (oL + j * 32) (el.map encB) ∧ w'.heap[Hb]? = some (.cells cs 29 (0, 0))) (fun _ => true) (by kernel_rfl) ?_
      have hHeld := SK _ (Below.refl w5.heap.size w5).drew
      refine wpAnyE_take (i := 0) (oi := ⟨some 13, Op.move (Operand.tmp 5), 3, _, _, _⟩) (v := ?_) rfl (by kernel_rfl) (by kernel_rfl) (by kernel_rfl) (by kernel_rfl) (by kernel_rfl) (fun _ _ _ h => h) (by rfl) ?hyg30 hHeld ?hrg30
      case hyg30 => (intro wS hSw; (try dsimp only at hSw); go_simp; (try with_reducible rfl))
      all_goals try (simp only [Act.put, List.setIfInBounds_toArray, List.set_cons_zero, List.set_cons_succ])
      refine wpAnyE_take (i := 1) (oi := ⟨some 14, Op.binOp BinOp.lss 3 (Operand.tmp 13) (Operand.const (Value.int IntKind.i64 0)) 3, 4, _, _, _⟩) (v := ?_) rfl (by kernel_rfl) (by kernel_rfl) (by kernel_rfl) (by kernel_rfl) (by kernel_rfl) (fun _ _ _ h => h) (by rfl) ?hyg31 hHeld ?hrg31
      case hyg31 => (intro wS hSw; (try dsimp only at hSw); go_simp; (try with_reducible rfl))
      all_goals try (simp only [Act.put, List.setIfInBounds_toArray, List.set_cons_zero, List.set_cons_succ])
      refine wpAnyE_take (i := 2) (oi := ⟨some 15, Op.move (Operand.tmp 14), 4, _, _, _⟩) (v := ?_) rfl (by kernel_rfl) (by kernel_rfl) (by kernel_rfl) (by kernel_rfl) (by kernel_rfl) (fun _ _ _ h => h) (by rfl) ?hyg32 hHeld ?hrg32
      case hyg32 => (intro wS hSw; (try dsimp only at hSw); go_simp; (try with_reducible rfl))
      all_goals try (simp only [Act.put, List.setIfInBounds_toArray, List.set_cons_zero, List.set_cons_succ])
      refine wpAnyE_take (i := 3) (oi := ⟨some 16, Op.fieldAddr 36 (Operand.tmp 2) 0, 0, _, _, _⟩) (v := ?_) rfl (by kernel_rfl) (by kernel_rfl) (by kernel_rfl) (by kernel_rfl) (by kernel_rfl) (fun _ _ _ h => h) (by rfl) ?hyg33 hHeld ?hrg33
      case hyg33 => (intro wS hSw; (try dsimp only at hSw); go_simp; (try with_reducible rfl))
      all_goals try (simp only [Act.put, List.setIfInBounds_toArray, List.set_cons_zero, List.set_cons_succ])
      refine wpAnyE_take (i := 4) (oi := ⟨some 17, Op.load 34 (Operand.tmp 16), 34, _, _, _⟩) (v := ?_) rfl (by kernel_rfl) (by kernel_rfl) (by kernel_rfl) (by kernel_rfl) (by kernel_rfl) (fun _ _ _ h => h) (by rfl) ?hyg34 hHeld ?hrg34
      case hyg34 => (intro wS hSw; (try dsimp only at hSw); go_simp; (try with_reducible rfl))
      all_goals try (simp only [Act.put, List.setIfInBounds_toArray, List.set_cons_zero, List.set_cons_succ])
      refine wpAnyE_take (i := 5) (oi := ⟨some 18, Op.move (Operand.tmp 5), 3, _, _, _⟩) (v := ?_) rfl (by kernel_rfl) (by kernel_rfl) (by kernel_rfl) (by kernel_rfl) (by kernel_rfl) (fun _ _ _ h => h) (by rfl) ?hyg35 hHeld ?hrg35
      case hyg35 => (intro wS hSw; (try dsimp only at hSw); go_simp; (try with_reducible rfl))
      all_goals try (simp only [Act.put, List.setIfInBounds_toArray, List.set_cons_zero, List.set_cons_succ])
      refine wpAnyE_take (i := 6) (oi := ⟨some 19, Op.indexAddr 34 (Operand.tmp 17) (Operand.tmp 18), 0, _, _, _⟩) (v := ?_) rfl (by kernel_rfl) (by kernel_rfl) (by kernel_rfl) (by kernel_rfl) (by kernel_rfl) (fun _ _ _ h => h) (by rfl) ?hyg36 hHeld ?hrg36
      case hyg36 => (intro wS hSw; (try dsimp only at hSw); go_simp; (try with_reducible rfl))
      all_goals try (simp only [Act.put, List.setIfInBounds_toArray, List.set_cons_zero, List.set_cons_succ])
      refine wpAnyE_take (i := 7) (oi := ⟨some 20, Op.load 29 (Operand.tmp 19), 29, _, _, _⟩) (v := ?_) rfl (by kernel_rfl) (by kernel_rfl) (by kernel_rfl) (by kernel_rfl) (by kernel_rfl) (fun _ _ _ h => h) (by rfl) ?hyg37 hHeld ?hrg37
      case hyg37 => (intro wS hSw; refine exec_load_mid 29 (.tmp 19) ?_ bL (oL + j * 32) ?_ (el.map encB) _ hSw.2.1 Tryd.underlying29 ?_ ?_; rfl; rfl; rfl; (rw [HEL.out]; kernel_rfl))
      all_goals try (simp only [Act.put, List.setIfInBounds_toArray, List.set_cons_zero, List.set_cons_succ])
      refine wpAnyE_take (i := 8) (oi := ⟨some 21, Op.load 29 (Operand.tmp 4), 29, _, _, _⟩) (v := ?_) rfl (by kernel_rfl) (by kernel_rfl) (by kernel_rfl) (by kernel_rfl) (by kernel_rfl) (fun _ _ _ h => h) (by rfl) ?hyg38 hHeld ?hrg38
      case hyg38 => (intro wS hSw; refine exec_load_row 29 (.tmp 4) ?_ Hb ?_ 29 cs (0, 0) _ hSw.2.2 Tryd.underlying29 ?_ ?_; rfl; rfl; rfl; (rw [HSZ2.out]; kernel_rfl))
      all_goals try (simp only [Act.put, List.setIfInBounds_toArray, List.set_cons_zero, List.set_cons_succ])
      refine wpAnyE_take (i := 9) (oi := ⟨some 22, Op.binOp BinOp.neq 29 (Operand.tmp 20) (Operand.tmp 21) 29, 4, _, _, _⟩) (v := ?_) rfl (by kernel_rfl) (by kernel_rfl) (by kernel_rfl) (by kernel_rfl) (by kernel_rfl) (fun _ _ _ h => h) (by rfl) ?hyg39 hHeld ?hrg39
      case hyg39 => (intro wS hSw; refine exec_neq 29 29 (.tmp 20) (.tmp 21) ?_ (el.map encB).toArray cs ?_ ?_ guard_h cond (HNQ.out wS); rfl; rfl; rfl)
      all_goals try (simp only [Act.put, List.setIfInBounds_toArray, List.set_cons_zero, List.set_cons_succ])
      refine wpAnyE_take (i := 10) (oi := ⟨some 23, Op.pick (Operand.tmp 15) (Operand.const (Value.bool true)) (Operand.tmp 22), 4, _, _, _⟩) (v := ?_) rfl (by kernel_rfl) (by kernel_rfl) (by kernel_rfl) (by kernel_rfl) (by kernel_rfl) (fun _ _ _ h => h) (by rfl) ?hyg310 hHeld ?hrg310
      case hyg310 => (intro wS hSw; (try dsimp only at hSw); go_simp; (try with_reducible rfl))
      all_goals try (simp only [Act.put, List.setIfInBounds_toArray, List.set_cons_zero, List.set_cons_succ])
      refine wpAnyD_done (by kernel_rfl) ?_ _
      unfold Exit.then
      go_wp2_with fail
      go_meet
      have hjf : decide ((j : Int) < 0) = false := decide_eq_false (by omega)
      exact ⟨by rw [hjf, Bool.false_or], Lib.hid (Below.refl _ _).drew⟩
  case rest =>
    obtain ⟨rfl, hbc⟩ := hcut
    have HG6 := Lib.hid (HG5.out.to hbc.out)
    have HD6 := Lib.hid (HD5.out.to hbc.out)
    have HH6 : Hid (wc.heap[Hb]? = some (.cells cs 29 (0, 0))) := Lib.hid ((hbc.out.block Hb (Array.getElem?_eq_some_iff.1 HH5.out).1).trans HH5.out)
    have HB6 := Lib.hid (HB5.out.trans (hbc.out.mono HG5.out.bs))
    clear hbc HG5 HD5 HH5 HB5 HS5
    cases cond with
    | false =>
      have HAO : Hid (addOne branch (L, N) s = (L, N)) := Lib.hid (by
        unfold addOne
        simp only [HKX.out]
        rw [if_neg (by simpa using HCD.out.symm)])
      go_wp2_with fail
      go_end0
      exact ⟨rfl, _, _, by rw [HAO.out]; exact HG6.out, HB6.out⟩
    | true =>
      have HAO : Hid (addOne branch (L, N) s = (L ++ [⟨leafOf branch s⟩], N ++ [s.label])) := Lib.hid (by
        unfold addOne
        simp only [HKX.out]
        rw [if_pos (by simpa using HCD.out.symm)])
      have SP : ∀ (w' : World) (u1 u2 : Value) (L' : List H32) (N' : List ByteArray), PL wc w' base (.slice A1 L.length c1) (.slice A2 N.length c2) u1 u2 L' N' → w'.cell? ⟨O, 0, none⟩ = some (.slice A1 L.length c1) ∧ w'.cell? ⟨O, 1, none⟩ = some (.slice A2 N.length c2) ∧ w'.heap[Hb]? = some (.cells cs 29 (0, 0)) ∧ w'.cell? ⟨D, 0, none⟩ = some (.string s.label) := fun w' u1 u2 L' N' h => by
        have hb := h.box HG6.out
        have hd : ABox w' D 24 [.string s.label, .slice A s.body.length c, .slice B s.notes.length d] := (h.block D HD6.out.lt (fun e => by have := HRD.out D (.inl e.symm); omega) (fun e => by have := HRD.out D (.inr e.symm); omega)).trans HD6.out
        exact ⟨hb.cell 0 rfl, hb.cell 1 rfl, (h.block Hb (Array.getElem?_eq_some_iff.1 HH6.out).1 (fun e => by have := HHN.out Hb (.inl e.symm); omega) (fun e => by have := HHN.out Hb (.inr e.symm); omega)).trans HH6.out, hd.cell 0 rfl⟩
      go_wp2_with fail
      refine wp_region_D (fun w' => w'.cell? ⟨O, 0, none⟩ = some (.slice A1 L.length c1) ∧ w'.cell? ⟨O, 1, none⟩ = some (.slice A2 N.length c2) ∧ w'.heap[Hb]? = some (.cells cs 29 (0, 0)) ∧ w'.cell? ⟨D, 0, none⟩ = some (.string s.label)) (fun i => decide (i < 12)) (by kernel_rfl) ?_
      have hp0 := Lib.hid (PL.start HG6.out)
      have hHeld := SP _ _ _ _ _ hp0.out
      generalize wc.drew = W0 at *
      refine wpAnyE_take (i := 0) (oi := ⟨some 24, Op.fieldAddr 36 (Operand.tmp 2) 0, 0, _, _, _⟩) (v := ?_) rfl (by kernel_rfl) (by kernel_rfl) (by kernel_rfl) (by kernel_rfl) (by kernel_rfl) (fun _ _ _ h => h) (by rfl) ?hyp40 hHeld ?hrp40
      case hyp40 => (intro wS hSw; (try dsimp only at hSw); go_simp; (try with_reducible rfl))
      all_goals try (simp only [Act.put, List.setIfInBounds_toArray, List.set_cons_zero, List.set_cons_succ])
      refine wpAnyE_take (i := 1) (oi := ⟨some 25, Op.load 34 (Operand.tmp 24), 34, _, _, _⟩) (v := ?_) rfl (by kernel_rfl) (by kernel_rfl) (by kernel_rfl) (by kernel_rfl) (by kernel_rfl) (fun _ _ _ h => h) (by rfl) ?hyp41 hHeld ?hrp41
      case hyp41 => (intro wS hSw; (try dsimp only at hSw); go_simp; (try with_reducible rfl))
      all_goals try (simp only [Act.put, List.setIfInBounds_toArray, List.set_cons_zero, List.set_cons_succ])
      refine wpAnyE_take (i := 2) (oi := ⟨some 26, Op.load 29 (Operand.tmp 4), 29, _, _, _⟩) (v := ?_) rfl (by kernel_rfl) (by kernel_rfl) (by kernel_rfl) (by kernel_rfl) (by kernel_rfl) (fun _ _ _ h => h) (by rfl) ?hyp42 hHeld ?hrp42
      case hyp42 => (intro wS hSw; refine exec_load_row 29 (.tmp 4) ?_ Hb ?_ 29 cs (0, 0) _ hSw.2.2.1 Tryd.underlying29 ?_ ?_; rfl; rfl; rfl; (rw [HSZ2.out]; kernel_rfl))
      all_goals try (simp only [Act.put, List.setIfInBounds_toArray, List.set_cons_zero, List.set_cons_succ])
      refine wpAnyE_take (i := 5) (oi := ⟨some 29, Op.fieldAddr 36 (Operand.tmp 2) 1, 0, _, _, _⟩) (v := ?_) rfl (by kernel_rfl) (by kernel_rfl) (by kernel_rfl) (by kernel_rfl) (by kernel_rfl) (fun _ _ _ h => h) (by rfl) ?hyp45 hHeld ?hrp45
      case hyp45 => (intro wS hSw; (try dsimp only at hSw); go_simp; (try with_reducible rfl))
      all_goals try (simp only [Act.put, List.setIfInBounds_toArray, List.set_cons_zero, List.set_cons_succ])
      refine wpAnyE_take (i := 6) (oi := ⟨some 30, Op.load 22 (Operand.tmp 29), 22, _, _, _⟩) (v := ?_) rfl (by kernel_rfl) (by kernel_rfl) (by kernel_rfl) (by kernel_rfl) (by kernel_rfl) (fun _ _ _ h => h) (by rfl) ?hyp46 hHeld ?hrp46
      case hyp46 => (intro wS hSw; (try dsimp only at hSw); go_simp; (try with_reducible rfl))
      all_goals try (simp only [Act.put, List.setIfInBounds_toArray, List.set_cons_zero, List.set_cons_succ])
      refine wpAnyE_take (i := 7) (oi := ⟨some 31, Op.fieldAddr 24 (Operand.tmp 3) 0, 0, _, _, _⟩) (v := ?_) rfl (by kernel_rfl) (by kernel_rfl) (by kernel_rfl) (by kernel_rfl) (by kernel_rfl) (fun _ _ _ h => h) (by rfl) ?hyp47 hHeld ?hrp47
      case hyp47 => (intro wS hSw; (try dsimp only at hSw); go_simp; (try with_reducible rfl))
      all_goals try (simp only [Act.put, List.setIfInBounds_toArray, List.set_cons_zero, List.set_cons_succ])
      refine wpAnyE_take (i := 8) (oi := ⟨some 32, Op.load 9 (Operand.tmp 31), 9, _, _, _⟩) (v := ?_) rfl (by kernel_rfl) (by kernel_rfl) (by kernel_rfl) (by kernel_rfl) (by kernel_rfl) (fun _ _ _ h => h) (by rfl) ?hyp48 hHeld ?hrp48
      case hyp48 => (intro wS hSw; (try dsimp only at hSw); go_simp; (try with_reducible rfl))
      all_goals try (simp only [Act.put, List.setIfInBounds_toArray, List.set_cons_zero, List.set_cons_succ])
      refine wpAnyD_two (i := 3) (j := 9) (oi := ⟨some 27, Op.buildSlice 34 1 #[(0, Operand.tmp 26)], 34, _, _, _⟩) (oj := ⟨some 33, Op.buildSlice 22 1 #[(0, Operand.tmp 32)], 22, _, _, _⟩) (by kernel_rfl) rfl rfl (by rfl) (by rfl) (fun K hK => ?_) (fun K hK => ?_)
      · refine wp_build1 (.tmp 26) rfl cs rfl HSZ2.out ?_
        refine hK _ _ (fun _ => ?_) ?_
        · exact SP _ _ _ _ _ ((hp0.out).alloc (.cells cs 29))
        clear hK K hHeld
        have hp1 := Lib.hid (hp0.out.alloc (.cells cs 29))
        have hl1 := Lib.hid (hp0.out.lit cs 29)
        generalize W0.heap.size = B1 at *
        generalize W0.alloc (.cells cs 29) = W1 at *
        have hHeld := SP _ _ _ _ _ hp1.out
        try simp only [Act.put, List.setIfInBounds_toArray, List.set_cons_zero, List.set_cons_succ]
        refine wpAnyD_two (i := 4) (j := 9) (oi := ⟨some 28, Op.call { callee := Callee.builtin Builtin.append, args := #[Operand.tmp 25, Operand.tmp 27], argTypes := #[34, 34] }, 34, _, _, _⟩) (oj := ⟨some 33, Op.buildSlice 22 1 #[(0, Operand.tmp 32)], 22, _, _, _⟩) (by kernel_rfl) rfl rfl (by rfl) (by rfl) (fun K hK => ?_) (fun K hK => ?_)
        · refine wp_push (α := H32) _ (.tmp 25) (.tmp 27) 34 rfl base 29 (.agg (zer32.map encB).toArray) 32 Tryd.underlying34 h_info rfl (by decide) (.slice A1 L.length c1) L rfl hp1.out.l B1 cs ⟨leafOf branch s⟩ (0, 0) 29 rfl hl1.out.b ⟨by rw [← HCS.out], sha_length _⟩ (by have := HLM.out; omega) (by have := HLM.out; omega) hp1.out.bs _ rfl ?_
          intro g2 p2 W2 hown2 hg2 hat2 hlt2
          have hp2 := Lib.hid (hp1.out.push1 hown2 hg2 hat2)
          refine hK _ _ (fun _ => ?_) ?_
          · exact SP _ _ _ _ _ hp2.out
          clear hK K hHeld
          have hHeld := SP _ _ _ _ _ hp2.out
          try simp only [Act.put, List.setIfInBounds_toArray, List.set_cons_zero, List.set_cons_succ]
          refine wpAnyE_take (i := 11) (oi := ⟨some 35, Op.fieldAddr 36 (Operand.tmp 2) 0, 0, _, _, _⟩) (v := ?_) rfl (by kernel_rfl) (by kernel_rfl) (by kernel_rfl) (by kernel_rfl) (by kernel_rfl) (fun _ _ _ h => h) (by rfl) ?hyqA111 hHeld ?hrqA111
          case hyqA111 => (intro wS hSw; (try dsimp only at hSw); go_simp; (try with_reducible rfl))
          all_goals try (simp only [Act.put, List.setIfInBounds_toArray, List.set_cons_zero, List.set_cons_succ])
          refine wpAnyD_one (i := 9) (oi := ⟨some 33, Op.buildSlice 22 1 #[(0, Operand.tmp 32)], 22, _, _, _⟩) rfl (by kernel_rfl) (by rfl) (fun K hK => ?_)
          go_simp
          refine hK _ _ (fun _ => ?_) ?_
          · exact SP _ _ _ _ _ ((hp2.out).alloc (.cells #[.string s.label] 9))
          clear hK K hHeld
          have hp3 := Lib.hid (hp2.out.alloc (.cells #[.string s.label] 9))
          have hl3 := Lib.hid (hp2.out.lit #[.string s.label] 9)
          generalize W2.heap.size = B3 at *
          generalize W2.alloc (.cells #[.string s.label] 9) = W3 at *
          have hHeld := SP _ _ _ _ _ hp3.out
          try simp only [Act.put, List.setIfInBounds_toArray, List.set_cons_zero, List.set_cons_succ]
          refine wpAnyD_one (i := 10) (oi := ⟨some 34, Op.call { callee := Callee.builtin Builtin.append, args := #[Operand.tmp 30, Operand.tmp 33], argTypes := #[22, 22] }, 22, _, _, _⟩) rfl (by kernel_rfl) (by rfl) (fun K hK => ?_)
          refine wp_push (α := ByteArray) _ (.tmp 30) (.tmp 33) 22 rfl base 9 (.string ⟨#[]⟩) 16 Tryd.underlying22 s_info rfl (by decide) (.slice A2 N.length c2) N rfl hp3.out.n B3 #[.string s.label] s.label (0, 0) 9 rfl hl3.out.b rfl (by have := HLM.out; have := HLN.out; omega) (by have := HLM.out; have := HLN.out; omega) hp3.out.bs _ rfl ?_
          intro g4 p4 W4 hown4 hg4 hat4 hlt4
          have hp4 := Lib.hid (hp3.out.push2 hown4 hg4 hat4)
          refine hK _ _ (fun _ => ?_) ?_
          · exact SP _ _ _ _ _ hp4.out
          clear hK K hHeld
          try simp only [Act.put, List.setIfInBounds_toArray, List.set_cons_zero, List.set_cons_succ]
          obtain ⟨hlg, hbl9⟩ := hp4.out.finish HG6.out
          have hko := (hp4.out.box HG6.out)
          have k90 := hko.cell 0 rfl
          have f90 := hko.fz
          have k91 := (hko.set 0 (.slice (some ⟨g2, 0, none⟩) (L.length + 1) p2)).cell 1 rfl
          have f91 := (hko.set 0 (.slice (some ⟨g2, 0, none⟩) (L.length + 1) p2)).fz
          refine wpAnyD_one (i := 12) (oi := ⟨none, Op.store 34 (Operand.tmp 35) (Operand.tmp 28), 0, _, _, _⟩) rfl (by kernel_rfl) (by rfl) (fun K hK => ?_)
          go_simp
          refine hK _ _ (fun h => absurd h (by decide)) ?_
          clear hK K
          try simp only [Act.put, List.setIfInBounds_toArray, List.set_cons_zero, List.set_cons_succ]
          refine wpAnyD_one (i := 13) (oi := ⟨some 36, Op.fieldAddr 36 (Operand.tmp 2) 1, 0, _, _, _⟩) rfl (by kernel_rfl) (by rfl) (fun K hK => ?_)
          go_simp
          refine hK _ _ (fun h => absurd h (by decide)) ?_
          clear hK K
          try simp only [Act.put, List.setIfInBounds_toArray, List.set_cons_zero, List.set_cons_succ]
          refine wpAnyD_one (i := 14) (oi := ⟨none, Op.store 22 (Operand.tmp 36) (Operand.tmp 34), 0, _, _, _⟩) rfl (by kernel_rfl) (by rfl) (fun K hK => ?_)
          go_simp
          refine hK _ _ (fun h => absurd h (by decide)) ?_
          clear hK K
          try simp only [Act.put, List.setIfInBounds_toArray, List.set_cons_zero, List.set_cons_succ]
          refine wpAnyD_done (by kernel_rfl) ?_ _
          go_end0
          exact ⟨rfl, _, _, by rw [HAO.out]; exact hlg, HB6.out.trans hbl9⟩
        · go_simp
          refine hK _ _ (fun _ => ?_) ?_
          · exact SP _ _ _ _ _ ((hp1.out).alloc (.cells #[.string s.label] 9))
          clear hK K hHeld
          have hp2 := Lib.hid (hp1.out.alloc (.cells #[.string s.label] 9))
          have hl2 := Lib.hid (hp1.out.lit #[.string s.label] 9)
          have hl12 := Lib.hid (hl1.out.alloc (.cells #[.string s.label] 9))
          generalize W1.heap.size = B2 at *
          generalize W1.alloc (.cells #[.string s.label] 9) = W2 at *
          have hHeld := SP _ _ _ _ _ hp2.out
          try simp only [Act.put, List.setIfInBounds_toArray, List.set_cons_zero, List.set_cons_succ]
          refine wpAnyD_one (i := 4) (oi := ⟨some 28, Op.call { callee := Callee.builtin Builtin.append, args := #[Operand.tmp 25, Operand.tmp 27], argTypes := #[34, 34] }, 34, _, _, _⟩) rfl (by kernel_rfl) (by rfl) (fun K hK => ?_)
          refine wp_push (α := H32) _ (.tmp 25) (.tmp 27) 34 rfl base 29 (.agg (zer32.map encB).toArray) 32 Tryd.underlying34 h_info rfl (by decide) (.slice A1 L.length c1) L rfl hp2.out.l B1 cs ⟨leafOf branch s⟩ (0, 0) 29 rfl hl12.out.b ⟨by rw [← HCS.out], sha_length _⟩ (by have := HLM.out; omega) (by have := HLM.out; omega) hp2.out.bs _ rfl ?_
          intro g3 p3 W3 hown3 hg3 hat3 hlt3
          have hp3 := Lib.hid (hp2.out.push1 hown3 hg3 hat3)
          have hl23 := Lib.hid (LT.push1 (m := L.length + 1) (cap := p3) hl2.out hg3 hat3)
          refine hK _ _ (fun _ => ?_) ?_
          · exact SP _ _ _ _ _ hp3.out
          clear hK K hHeld
          have hHeld := SP _ _ _ _ _ hp3.out
          try simp only [Act.put, List.setIfInBounds_toArray, List.set_cons_zero, List.set_cons_succ]
          refine wpAnyE_take (i := 11) (oi := ⟨some 35, Op.fieldAddr 36 (Operand.tmp 2) 0, 0, _, _, _⟩) (v := ?_) rfl (by kernel_rfl) (by kernel_rfl) (by kernel_rfl) (by kernel_rfl) (by kernel_rfl) (fun _ _ _ h => h) (by rfl) ?hyqA211 hHeld ?hrqA211
          case hyqA211 => (intro wS hSw; (try dsimp only at hSw); go_simp; (try with_reducible rfl))
          all_goals try (simp only [Act.put, List.setIfInBounds_toArray, List.set_cons_zero, List.set_cons_succ])
          refine wpAnyD_one (i := 10) (oi := ⟨some 34, Op.call { callee := Callee.builtin Builtin.append, args := #[Operand.tmp 30, Operand.tmp 33], argTypes := #[22, 22] }, 22, _, _, _⟩) rfl (by kernel_rfl) (by rfl) (fun K hK => ?_)
          refine wp_push (α := ByteArray) _ (.tmp 30) (.tmp 33) 22 rfl base 9 (.string ⟨#[]⟩) 16 Tryd.underlying22 s_info rfl (by decide) (.slice A2 N.length c2) N rfl hp3.out.n B2 #[.string s.label] s.label (0, 0) 9 rfl hl23.out.b rfl (by have := HLM.out; have := HLN.out; omega) (by have := HLM.out; have := HLN.out; omega) hp3.out.bs _ rfl ?_
          intro g4 p4 W4 hown4 hg4 hat4 hlt4
          have hp4 := Lib.hid (hp3.out.push2 hown4 hg4 hat4)
          refine hK _ _ (fun _ => ?_) ?_
          · exact SP _ _ _ _ _ hp4.out
          clear hK K hHeld
          try simp only [Act.put, List.setIfInBounds_toArray, List.set_cons_zero, List.set_cons_succ]
          obtain ⟨hlg, hbl9⟩ := hp4.out.finish HG6.out
          have hko := (hp4.out.box HG6.out)
          have k90 := hko.cell 0 rfl
          have f90 := hko.fz
          have k91 := (hko.set 0 (.slice (some ⟨g3, 0, none⟩) (L.length + 1) p3)).cell 1 rfl
          have f91 := (hko.set 0 (.slice (some ⟨g3, 0, none⟩) (L.length + 1) p3)).fz
          refine wpAnyD_one (i := 12) (oi := ⟨none, Op.store 34 (Operand.tmp 35) (Operand.tmp 28), 0, _, _, _⟩) rfl (by kernel_rfl) (by rfl) (fun K hK => ?_)
          go_simp
          refine hK _ _ (fun h => absurd h (by decide)) ?_
          clear hK K
          try simp only [Act.put, List.setIfInBounds_toArray, List.set_cons_zero, List.set_cons_succ]
          refine wpAnyD_one (i := 13) (oi := ⟨some 36, Op.fieldAddr 36 (Operand.tmp 2) 1, 0, _, _, _⟩) rfl (by kernel_rfl) (by rfl) (fun K hK => ?_)
          go_simp
          refine hK _ _ (fun h => absurd h (by decide)) ?_
          clear hK K
          try simp only [Act.put, List.setIfInBounds_toArray, List.set_cons_zero, List.set_cons_succ]
          refine wpAnyD_one (i := 14) (oi := ⟨none, Op.store 22 (Operand.tmp 36) (Operand.tmp 34), 0, _, _, _⟩) rfl (by kernel_rfl) (by rfl) (fun K hK => ?_)
          go_simp
          refine hK _ _ (fun h => absurd h (by decide)) ?_
          clear hK K
          try simp only [Act.put, List.setIfInBounds_toArray, List.set_cons_zero, List.set_cons_succ]
          refine wpAnyD_done (by kernel_rfl) ?_ _
          go_end0
          exact ⟨rfl, _, _, by rw [HAO.out]; exact hlg, HB6.out.trans hbl9⟩
      · go_simp
        refine hK _ _ (fun _ => ?_) ?_
        · exact SP _ _ _ _ _ ((hp0.out).alloc (.cells #[.string s.label] 9))
        clear hK K hHeld
        have hp1 := Lib.hid (hp0.out.alloc (.cells #[.string s.label] 9))
        have hl1 := Lib.hid (hp0.out.lit #[.string s.label] 9)
        generalize W0.heap.size = B1 at *
        generalize W0.alloc (.cells #[.string s.label] 9) = W1 at *
        have hHeld := SP _ _ _ _ _ hp1.out
        try simp only [Act.put, List.setIfInBounds_toArray, List.set_cons_zero, List.set_cons_succ]
        refine wpAnyD_one (i := 3) (oi := ⟨some 27, Op.buildSlice 34 1 #[(0, Operand.tmp 26)], 34, _, _, _⟩) rfl (by kernel_rfl) (by rfl) (fun K hK => ?_)
        refine wp_build1 (.tmp 26) rfl cs rfl HSZ2.out ?_
        refine hK _ _ (fun _ => ?_) ?_
        · exact SP _ _ _ _ _ ((hp1.out).alloc (.cells cs 29))
        clear hK K hHeld
        have hp2 := Lib.hid (hp1.out.alloc (.cells cs 29))
        have hl2 := Lib.hid (hp1.out.lit cs 29)
        have hl12 := Lib.hid (hl1.out.alloc (.cells cs 29))
        generalize W1.heap.size = B2 at *
        generalize W1.alloc (.cells cs 29) = W2 at *
        have hHeld := SP _ _ _ _ _ hp2.out
        try simp only [Act.put, List.setIfInBounds_toArray, List.set_cons_zero, List.set_cons_succ]
        refine wpAnyD_one (i := 4) (oi := ⟨some 28, Op.call { callee := Callee.builtin Builtin.append, args := #[Operand.tmp 25, Operand.tmp 27], argTypes := #[34, 34] }, 34, _, _, _⟩) rfl (by kernel_rfl) (by rfl) (fun K hK => ?_)
        refine wp_push (α := H32) _ (.tmp 25) (.tmp 27) 34 rfl base 29 (.agg (zer32.map encB).toArray) 32 Tryd.underlying34 h_info rfl (by decide) (.slice A1 L.length c1) L rfl hp2.out.l B2 cs ⟨leafOf branch s⟩ (0, 0) 29 rfl hl2.out.b ⟨by rw [← HCS.out], sha_length _⟩ (by have := HLM.out; omega) (by have := HLM.out; omega) hp2.out.bs _ rfl ?_
        intro g3 p3 W3 hown3 hg3 hat3 hlt3
        have hp3 := Lib.hid (hp2.out.push1 hown3 hg3 hat3)
        have hl123 := Lib.hid (LT.push1 (m := L.length + 1) (cap := p3) hl12.out hg3 hat3)
        refine hK _ _ (fun _ => ?_) ?_
        · exact SP _ _ _ _ _ hp3.out
        clear hK K hHeld
        have hHeld := SP _ _ _ _ _ hp3.out
        try simp only [Act.put, List.setIfInBounds_toArray, List.set_cons_zero, List.set_cons_succ]
        refine wpAnyE_take (i := 11) (oi := ⟨some 35, Op.fieldAddr 36 (Operand.tmp 2) 0, 0, _, _, _⟩) (v := ?_) rfl (by kernel_rfl) (by kernel_rfl) (by kernel_rfl) (by kernel_rfl) (by kernel_rfl) (fun _ _ _ h => h) (by rfl) ?hyqB11 hHeld ?hrqB11
        case hyqB11 => (intro wS hSw; (try dsimp only at hSw); go_simp; (try with_reducible rfl))
        all_goals try (simp only [Act.put, List.setIfInBounds_toArray, List.set_cons_zero, List.set_cons_succ])
        refine wpAnyD_one (i := 10) (oi := ⟨some 34, Op.call { callee := Callee.builtin Builtin.append, args := #[Operand.tmp 30, Operand.tmp 33], argTypes := #[22, 22] }, 22, _, _, _⟩) rfl (by kernel_rfl) (by rfl) (fun K hK => ?_)
        refine wp_push (α := ByteArray) _ (.tmp 30) (.tmp 33) 22 rfl base 9 (.string ⟨#[]⟩) 16 Tryd.underlying22 s_info rfl (by decide) (.slice A2 N.length c2) N rfl hp3.out.n B1 #[.string s.label] s.label (0, 0) 9 rfl hl123.out.b rfl (by have := HLM.out; have := HLN.out; omega) (by have := HLM.out; have := HLN.out; omega) hp3.out.bs _ rfl ?_
        intro g4 p4 W4 hown4 hg4 hat4 hlt4
        have hp4 := Lib.hid (hp3.out.push2 hown4 hg4 hat4)
        refine hK _ _ (fun _ => ?_) ?_
        · exact SP _ _ _ _ _ hp4.out
        clear hK K hHeld
        try simp only [Act.put, List.setIfInBounds_toArray, List.set_cons_zero, List.set_cons_succ]
        obtain ⟨hlg, hbl9⟩ := hp4.out.finish HG6.out
        have hko := (hp4.out.box HG6.out)
        have k90 := hko.cell 0 rfl
        have f90 := hko.fz
        have k91 := (hko.set 0 (.slice (some ⟨g3, 0, none⟩) (L.length + 1) p3)).cell 1 rfl
        have f91 := (hko.set 0 (.slice (some ⟨g3, 0, none⟩) (L.length + 1) p3)).fz
        refine wpAnyD_one (i := 12) (oi := ⟨none, Op.store 34 (Operand.tmp 35) (Operand.tmp 28), 0, _, _, _⟩) rfl (by kernel_rfl) (by rfl) (fun K hK => ?_)
        go_simp
        refine hK _ _ (fun h => absurd h (by decide)) ?_
        clear hK K
        try simp only [Act.put, List.setIfInBounds_toArray, List.set_cons_zero, List.set_cons_succ]
        refine wpAnyD_one (i := 13) (oi := ⟨some 36, Op.fieldAddr 36 (Operand.tmp 2) 1, 0, _, _, _⟩) rfl (by kernel_rfl) (by rfl) (fun K hK => ?_)
        go_simp
        refine hK _ _ (fun h => absurd h (by decide)) ?_
        clear hK K
        try simp only [Act.put, List.setIfInBounds_toArray, List.set_cons_zero, List.set_cons_succ]
        refine wpAnyD_one (i := 14) (oi := ⟨none, Op.store 22 (Operand.tmp 36) (Operand.tmp 34), 0, _, _, _⟩) rfl (by kernel_rfl) (by rfl) (fun K hK => ?_)
        go_simp
        refine hK _ _ (fun h => absurd h (by decide)) ?_
        clear hK K
        try simp only [Act.put, List.setIfInBounds_toArray, List.set_cons_zero, List.set_cons_succ]
        refine wpAnyD_done (by kernel_rfl) ?_ _
        go_end0
        exact ⟨rfl, _, _, by rw [HAO.out]; exact hlg, HB6.out.trans hbl9⟩
end Go.Proofs.YthcklfelofpffaaDoor
namespace Go.Proofs.YthcklfelofpffaaDoor
open Go.Shelf Go.RowKit
def lays125_ren : Go.Shelf.Ren := ⟨fun | 125 => 87 | 128 => 98 | 129 => 99 | n => n, fun | 3 => 3 | 4 => 4 | 5 => 5 | 9 => 9 | 46 => 91 | 51 => 95 | 53 => 68 | n => n, fun | n => n⟩
theorem lays125 : Go.Proofs.Lays.n125 Tryd.prog lays125_ren := {
  mixed := by kernel_rfl
  f125 := Tryd.func87.trans (congrArg some (by kernel_rfl))
  f128 := Tryd.func98.trans (congrArg some (by kernel_rfl))
  f129 := Tryd.func99.trans (congrArg some (by kernel_rfl))
  t3 := Tryd.underlying3
  a3 := Tryd.isAgg3
  z3 := Tryd.sizeOf3
  v3 := Tryd.zeroValue3
  t4 := Tryd.underlying4
  a4 := Tryd.isAgg4
  z4 := Tryd.sizeOf4
  v4 := Tryd.zeroValue4
  t5 := Tryd.underlying5
  a5 := Tryd.isAgg5
  z5 := Tryd.sizeOf5
  v5 := Tryd.zeroValue5
  t9 := Tryd.underlying9
  a9 := Tryd.isAgg9
  z9 := Tryd.sizeOf9
  v9 := Tryd.zeroValue9
  t46 := Tryd.underlying91
  a46 := Tryd.isAgg91
  z46 := Tryd.sizeOf91
  v46 := Tryd.zeroValue91
  t51 := Tryd.underlying95
  a51 := Tryd.isAgg95
  z51 := Tryd.sizeOf95
  v51 := Tryd.zeroValue95
  t53 := Tryd.underlying68
  a53 := Tryd.isAgg68
  z53 := Tryd.sizeOf68
  v53 := Tryd.zeroValue68 }
theorem bits_Len (x : Int) (w : World) (h0 : 0 ≤ x) (h1 : x ≤ 18446744073709551615) :
    Calls Tryd.prog 87 #[.int .u64 x] w fun e w' => e = .returned (.int .i64 (Lib.bitLen x.toNat)) ∧ w = w' := (Any.bits_Len lays125 x w h0 h1).mono fun _ _ h => ⟨h.1, h.2.symm⟩
end Go.Proofs.YthcklfelofpffaaDoor
namespace Go.Proofs.YthcklfelofpffaaDoor
open Go.RowKit
/-- The greatest power of two that is less than n. -/
def splitN (n : Nat) : Nat := 2 ^ (Lib.bitLen (n - 1) - 1)
theorem splitN_bounds (n : Nat) (h2 : 2 ≤ n) (h : n ≤ 4611686018427387904) : 1 ≤ Lib.bitLen (n - 1) ∧ Lib.bitLen (n - 1) ≤ 62 ∧ 1 ≤ splitN n ∧ splitN n < n ∧ n ≤ 2 * splitN n := by
  obtain ⟨h1, h3, h4⟩ := Lib.bitLenAux_bounds 64 (n - 1) (by omega) (by omega)
  change 1 ≤ Lib.bitLen (n - 1) at h1
  change 2 ^ (Lib.bitLen (n - 1) - 1) ≤ n - 1 at h3
  change n - 1 < 2 ^ Lib.bitLen (n - 1) at h4
  have h5 := Lib.bitLen_le (n - 1) 62 (by omega) (by omega)
  have h6 : 2 ^ Lib.bitLen (n - 1) = 2 * 2 ^ (Lib.bitLen (n - 1) - 1) := by
    obtain ⟨j, hj⟩ : ∃ j, Lib.bitLen (n - 1) = j + 1 := ⟨Lib.bitLen (n - 1) - 1, by omega⟩
    rw [hj, Nat.pow_succ]; simp [Nat.mul_comm]
  unfold splitN
  refine ⟨h1, h5, Nat.one_le_two_pow, by omega, by omega⟩
theorem split_any (n : Nat) (h2 : 2 ≤ n) (h : n ≤ 1073741824) (w : World) : Calls Tryd.prog 62 #[.int .i64 (n : Int)] w fun e w' => e = .returned (.int .i64 (splitN n : Int)) ∧ w = w' := by
  obtain ⟨h1, h3, h4, h5, h6⟩ := splitN_bounds n h2 (by omega)
  have HL := bits_Len ((n : Int) - 1) w (by omega) (by omega)
  have e1 : ((n : Int) - 1).toNat = n - 1 := by omega
  rw [e1] at HL
  unfold splitN at h4 h5 h6 ⊢
  generalize Lib.bitLen (n - 1) = j at *
  have hn0 : (0 : Int) ≤ (n : Int) - 1 := by omega
  go_enter Tryd.func62, Tryd.ntmps62
  go_wp2_with (first | (go_at_call 87; refine HL.mono ?_; rintro e w' ⟨rfl, rfl⟩) | fail)
  have e2 : ((2 ^ (j - 1) : Nat) : Int) = (2 : Int) ^ (j - 1) := by push_cast; rfl
  go_ret
  refine ⟨ret_int ?_, rfl⟩
  rw [← e2]
  generalize 2 ^ (j - 1) = p at *
  unfold wrap64
  omega
def rootF : Nat → List H32 → List UInt8
  | 0, _ => sha []
  | f + 1, l => if l.length = 0 then sha [] else if l.length = 1 then ((l[0]?).map (·.l)).getD [] else nodeH (rootF f (l.take (splitN l.length))) (rootF f (l.drop (splitN l.length)))
/-- The root of the tree of some leaves. -/
def root (l : List H32) : List UInt8 := rootF l.length l
theorem rootF_fuel : ∀ (f g : Nat) (l : List H32), l.length ≤ f → l.length ≤ g → l.length ≤ 1073741824 → rootF f l = rootF g l
  | 0, 0, _, _, _, _ => rfl
  | 0, g + 1, l, h, _, _ => by rw [rootF, rootF, if_pos (by omega)]
  | f + 1, 0, l, _, h, _ => by rw [rootF, rootF, if_pos (by omega)]
  | f + 1, g + 1, l, hf, hg, hl => by
    rw [rootF, rootF]
    split
    · rfl
    · split
      · rfl
      · obtain ⟨_, _, h1, h2, _⟩ := splitN_bounds l.length (by omega) (by omega)
        rw [rootF_fuel f g _ (by rw [List.length_take]; omega) (by rw [List.length_take]; omega) (by rw [List.length_take]; omega),
          rootF_fuel f g (l.drop _) (by rw [List.length_drop]; omega) (by rw [List.length_drop]; omega) (by rw [List.length_drop]; omega)]
theorem root_node (l : List H32) (h2 : 2 ≤ l.length) (h : l.length ≤ 1073741824) : root l = nodeH (root (l.take (splitN l.length))) (root (l.drop (splitN l.length))) := by
  obtain ⟨_, _, h3, h4, _⟩ := splitN_bounds l.length h2 (by omega)
  obtain ⟨f, hf⟩ : ∃ f, l.length = f + 1 := ⟨l.length - 1, by omega⟩
  unfold root
  conv => lhs; rw [hf, rootF, if_neg (by omega), if_neg (by omega)]
  rw [rootF_fuel f _ (l.take _) (by rw [List.length_take]; omega) (Nat.le_refl _) (by rw [List.length_take]; omega),
    rootF_fuel f _ (l.drop _) (by rw [List.length_drop]; omega) (Nat.le_refl _) (by rw [List.length_drop]; omega)]
theorem rootF_length : ∀ (f : Nat) (l : List H32), (∀ x ∈ l, x.l.length = 32) → (rootF f l).length = 32
  | 0, _, _ => sha_length _
  | f + 1, l, h => by
    rw [rootF]
    split
    · exact sha_length _
    · split
      · obtain ⟨x, hx⟩ : ∃ x, l = [x] := List.length_eq_one_iff.1 (by assumption)
        subst hx
        exact h x (by simp)
      · exact sha_length _
theorem h32_len {w : World} {S : Nat → Prop} {A : Option Addr} {c : Nat} {l : List H32} (h : Sl w S A c l) : ∀ x ∈ l, x.l.length = 32 := by
  intro x hx
  obtain ⟨i, hi, rfl⟩ := List.getElem_of_mem hx
  obtain ⟨_, _, _, _, _, _, ⟨_, hl⟩, _⟩ := h.at_ hi
  exact hl
set_option maxRecDepth 100000 in
set_option maxHeartbeats 4000000 in
theorem root0_any (A : Option Addr) (c : Nat) (w : World) (hK : KLaid w) :
    Calls Tryd.prog 31 #[.slice A 0 c] w fun e w' => e = .returned (hashV (sha [])) ∧ Below w.heap.size w w' := by
  have HS := Lib.hid (sum_any [] none 0 0 (w.alloc (.cells (zer32.map encB).toArray 29)) (Sl.nil _ _ _ _ (by decide)) rfl (by simp) (hK.to ((Below.refl _ _).alloc (Nat.le_refl _) _)))
  have HR0 : Hid (ABox (w.alloc (.cells (zer32.map encB).toArray 29)) w.heap.size 29 (zer32.map encB)) := Lib.hid (heap_alloc_new w _)
  have HB0 : Hid (Below w.heap.size w (w.alloc (.cells (zer32.map encB).toArray 29))) := Lib.hid ((Below.refl _ _).alloc (Nat.le_refl _) _)
  go_enter Tryd.func31, Tryd.ntmps31
  go_upto_region 3 with (fail)
  generalize hw1 : World.alloc w _ = w1
  have hw2 : w.alloc (.cells (zer32.map encB).toArray 29) = w1 := hw1
  rw [hw2] at HS HR0 HB0
  clear hw1 hw2
  go_wp2_with fail

  refine HS.out.mono ?_
  rintro e w4 ⟨rfl, hb4⟩
  have HB4 := Lib.hid (below_setRow (HB0.out.trans (hb4.mono HB0.out.size)) (R := w.heap.size) (Nat.le_refl _) ((sha []).map encB).toArray)
  have hr4 : w4.heap[w.heap.size]? = some (.cells (zer32.map encB).toArray 29 (0, 0)) := HR0.out.to hb4
  have HX := Lib.hid (setRow_heap w4 w.heap.size _ ((sha []).map encB).toArray _ _ hr4)
  have HSZ := Lib.hid (hash_size (sha_length []))
  have HC1 := Lib.hid (hash_all (sha []))
  have HRZ : Hid ((zer32.map encB).toArray.size = 32) := Lib.hid rfl
  clear hb4 HR0 HB0 HS
  have HRE : Hid (hashV (sha []) = .agg ((sha []).map encB).toArray) := Lib.hid rfl
  unfold hashV
  generalize ((sha []).map encB).toArray = cs at *
  generalize (zer32.map encB).toArray = zs at *
  go_wp2_with (first
    | (refine wpList_store_row rfl 29 (.tmp 2) (.tmp 8) rfl w.heap.size cs rfl rfl 29 zs hr4 (by rw [HSZ.out]; kernel_rfl) (by rw [HRZ.out, HSZ.out]) HC1.out ?_)
    | fail)
  exact bodyPost_ret (v := .agg cs) (results_cell_row Tryd.results31 _ _ w.heap.size _ cs (0, 0) _ rfl HX.out Tryd.underlying29 rfl (by rw [HSZ.out]; kernel_rfl)) rfl ⟨by rw [HRE.out], HB4.out⟩
set_option maxRecDepth 100000 in
set_option maxHeartbeats 4000000 in
theorem root1_any (x : H32) (A : Option Addr) (c : Nat) (w : World) (hl : Sl w (fun b => b < w.heap.size) A c [x]) :
    Calls Tryd.prog 31 #[.slice A 1 c] w fun e w' => e = .returned (hashV x.l) ∧ Below w.heap.size w w' := by
  have hl1 := hl.to ((Below.refl w.heap.size w).alloc (Nat.le_refl _) (.cells (zer32.map encB).toArray 29))
  obtain ⟨b, o, rfl, _, hlt, hr, hxl⟩ := h32_at hl1 (k := 0) (by simp)
  simp only [Nat.zero_mul, Nat.add_zero, List.getElem_cons_zero] at hr hxl
  have hc1 := hl.2.1
  have hc2 := hl.1
  simp only [List.length_cons, List.length_nil, Nat.zero_add] at hc2
  unfold maxLen at hc1
  have HR0 : Hid (ABox (w.alloc (.cells (zer32.map encB).toArray 29)) w.heap.size 29 (zer32.map encB)) := Lib.hid (heap_alloc_new w _)
  have HB0 : Hid (Below w.heap.size w (w.alloc (.cells (zer32.map encB).toArray 29))) := Lib.hid ((Below.refl _ _).alloc (Nat.le_refl _) _)
  have HE := Lib.hid hr
  have HSZ := Lib.hid (hash_size hxl)
  have HSE : Hid ((x.l.map encB).length = 32) := Lib.hid (by rw [List.length_map, hxl])
  have HC1 := Lib.hid (hash_all x.l)
  have HRZ : Hid ((zer32.map encB).toArray.size = 32) := Lib.hid rfl
  have HRE : Hid (hashV x.l = .agg (x.l.map encB).toArray) := Lib.hid rfl
  clear hl hl1 hr hlt
  go_enter Tryd.func31, Tryd.ntmps31
  go_upto_region 1 with (fail)
  generalize hw1 : World.alloc w _ = w1
  have hw2 : w.alloc (.cells (zer32.map encB).toArray 29) = w1 := hw1
  rw [hw2] at HR0 HB0 HE
  clear hw1 hw2
  have HB4 := Lib.hid (below_setRow HB0.out (R := w.heap.size) (Nat.le_refl _) (x.l.map encB).toArray)
  have HX := Lib.hid (setRow_heap w1 w.heap.size _ (x.l.map encB).toArray _ _ HR0.out)
  have hr4 : w1.heap[w.heap.size]? = some (.cells (zer32.map encB).toArray 29 (0, 0)) := HR0.out
  clear HR0
  generalize hcs : (x.l.map encB) = cl at *
  generalize hcs2 : cl.toArray = cs at *
  generalize (zer32.map encB).toArray = zs at *
  go_wp2_with (first
    | (refine wpList_load_mid rfl 29 (.tmp 12) rfl b o ?_ cl _ ?_ Tryd.underlying29 ?_ ?_ ?_; rfl; exact HE.out; rfl; (rw [HSE.out]; kernel_rfl))
    | (refine wpList_store_row rfl 29 (.tmp 2) (.tmp 13) rfl w.heap.size cs ?_ ?_ 29 zs hr4 (by rw [HSZ.out]; kernel_rfl) (by rw [HRZ.out, HSZ.out]) HC1.out ?_; rfl; (show Value.agg cl.toArray = Value.agg cs; rw [hcs2]))
    | fail)
  exact bodyPost_ret (v := .agg cs) (results_cell_row Tryd.results31 _ _ w.heap.size _ cs (0, 0) _ rfl HX.out Tryd.underlying29 rfl (by rw [HSZ.out]; kernel_rfl)) rfl ⟨by rw [HRE.out], HB4.out⟩
theorem sl_drop32 {w : World} {S : Nat → Prop} {b o c : Nat} {l : List H32} (h : Sl w S (some ⟨b, o, none⟩) c l) (k : Nat) (hk : k < l.length) : Sl w S (some ⟨b, o + k * 32, none⟩) (c - k) (l.drop k) := by
  have hd := h.drop k (by omega)
  have hc : ¬ c = k := by have := h.1; omega
  have e : Option.map (fun x => x.add (k * Rep.size H32)) (some (⟨b, o, none⟩ : Addr)) = some ⟨b, o + k * 32, none⟩ := by rw [Option.map_some, addr_add]; rfl
  rw [if_neg hc, e] at hd
  exact hd
set_option maxRecDepth 100000 in
set_option maxHeartbeats 4000000 in
theorem root2_any (f : Nat) (ih : ∀ (l : List H32) (A : Option Addr) (n c : Nat) (w : World), l.length ≤ f → Sl w (fun b => b < w.heap.size) A c l → l.length = n → n ≤ 1073741824 → KLaid w →
      Calls Tryd.prog 31 #[.slice A n c] w fun e w' => e = .returned (hashV (rootF f l)) ∧ Below w.heap.size w w')
    (l : List H32) (A : Option Addr) (n c : Nat) (w : World) (hf : l.length ≤ f + 1) (hl : Sl w (fun b => b < w.heap.size) A c l) (hn : l.length = n) (h2 : 2 ≤ n) (hs : n ≤ 1073741824) (hK : KLaid w) :
    Calls Tryd.prog 31 #[.slice A n c] w fun e w' => e = .returned (hashV (rootF (f + 1) l)) ∧ Below w.heap.size w w' := by
  obtain ⟨_, _, h3, h4, _⟩ := splitN_bounds n h2 (by omega)
  have HSP := Lib.hid (split_any n h2 hs)
  have HLen := Lib.hid (h32_len hl)
  have HRQ : Hid (rootF (f + 1) l = nodeH (rootF f (l.take (splitN n))) (rootF f (l.drop (splitN n)))) := Lib.hid (by rw [rootF, if_neg (by omega), if_neg (by omega), hn])
  obtain ⟨b, o, rfl, _⟩ := hl.2.2 (by omega)
  have hnc : n ≤ c := by have := hl.1; omega
  have hcm : c ≤ 9223372036854775807 := by have := hl.2.1; unfold maxLen at this; omega
  have HR0 : Hid (ABox (w.alloc (.cells (zer32.map encB).toArray 29)) w.heap.size 29 (zer32.map encB)) := Lib.hid (heap_alloc_new w _)
  have HB0 : Hid (Below w.heap.size w (w.alloc (.cells (zer32.map encB).toArray 29))) := Lib.hid ((Below.refl _ _).alloc (Nat.le_refl _) _)
  have HL0 := Lib.hid (hl.to ((Below.refl w.heap.size w).alloc (Nat.le_refl _) (.cells (zer32.map encB).toArray 29)))
  have HK0 := Lib.hid (hK.to ((Below.refl w.heap.size w).alloc (Nat.le_refl _) (.cells (zer32.map encB).toArray 29)))
  have HI := Lib.hid ih
  have HF := Lib.hid hf
  have HN := Lib.hid hn
  clear ih hl hK hf hn
  generalize splitN n = k at *
  go_enter Tryd.func31, Tryd.ntmps31
  go_upto_region 1 with (fail)
  generalize hw1 : World.alloc w _ = w1
  have hw2 : w.alloc (.cells (zer32.map encB).toArray 29) = w1 := hw1
  rw [hw2] at HR0 HB0 HL0 HK0
  clear hw1 hw2
  go_upto_region 7 with (first
    | (go_at_call 62; refine (HSP.out _).mono ?_; rintro e w' ⟨rfl, rfl⟩)
    | fail)
  refine wp_region_tail rfl (by kernel_rfl) (by kernel_rfl) ?_
  intro T hT g hgb hgm
  obtain ⟨r1, hr1⟩ : ∃ r, r = rootF f (l.take k) := ⟨_, rfl⟩
  obtain ⟨r2, hr2⟩ : ∃ r, r = rootF f (l.drop k) := ⟨_, rfl⟩
  obtain ⟨r3, hr3⟩ : ∃ r, r = rootF (f + 1) l := ⟨_, rfl⟩
  have HR1 := Lib.hid hr1
  have HR2 := Lib.hid hr2
  have HR3 := Lib.hid hr3
  clear hr1 hr2 hr3
  have HT1 : Hid (∀ d, Calls Tryd.prog 31 #[.slice (some ⟨b, o, none⟩) k c] (g d) fun e w' => e = .returned (hashV r1) ∧ ∃ m, w' = g m) := Lib.hid (fun d => by
    refine (HI.out (l.take k) (some ⟨b, o, none⟩) k c (g d) (by have := HF.out; have := HN.out; rw [List.length_take]; omega) ((HL0.out.to (hgb d)).take k (by have := HN.out; omega)) (by have := HN.out; rw [List.length_take]; omega) (by omega) (HK0.out.to (hgb d))).mono ?_
    rintro e w' ⟨rfl, hb⟩
    exact ⟨by rw [HR1.out], hgm d w' hb⟩)
  have HT2 : Hid (∀ d, Calls Tryd.prog 31 #[.slice (some ⟨b, o + k * 32, none⟩) (n - k) (c - k)] (g d) fun e w' => e = .returned (hashV r2) ∧ ∃ m, w' = g m) := Lib.hid (fun d => by
    have hd := sl_drop32 (HL0.out.to (hgb d)) k (by have := HN.out; omega)
    refine (HI.out (l.drop k) (some ⟨b, o + k * 32, none⟩) (n - k) (c - k) (g d) (by have := HF.out; have := HN.out; rw [List.length_drop]; omega) hd (by have := HN.out; rw [List.length_drop]; omega) (by omega) (HK0.out.to (hgb d))).mono ?_
    rintro e w' ⟨rfl, hb⟩
    exact ⟨by rw [HR2.out], hgm d w' hb⟩)
  have HT3 : Hid (∀ d, Calls Tryd.prog 45 #[hashV r1, hashV r2] (g d) fun e w' => e = .returned (hashV r3) ∧ ∃ m, w' = g m) := Lib.hid (fun d => by
    rw [HR3.out, HRQ.out, HR1.out, HR2.out]
    refine (node_any _ _ (rootF_length _ _ fun x hx => HLen.out x (List.mem_of_mem_take hx)) (rootF_length _ _ fun x hx => HLen.out x (List.mem_of_mem_drop hx)) (g d) (HK0.out.to (hgb d))).mono ?_
    rintro e w' ⟨rfl, hb⟩
    exact ⟨rfl, hgm d w' hb⟩)
  have HRL := Lib.hid (rootF_length (f + 1) l HLen.out)
  have HGB := Lib.hid hgb
  clear hgb hgm HI HL0 HK0 HRQ
  have HRL2 : Hid (r3.length = 32) := Lib.hid (by rw [HR3.out]; exact HRL.out)
  clear HRL HR1 HR2
  dsimp only [List.dropLast]
  repeat (go_big_quiet_step (first
    | (go_at_call 31; with_reducible refine Calls.mono (HT1.out _) ?_; rintro e w6 ⟨rfl, hm⟩; exact ⟨rfl, hm⟩)
    | (go_at_call 31; with_reducible refine Calls.mono (HT2.out _) ?_; rintro e w6 ⟨rfl, hm⟩; exact ⟨rfl, hm⟩)
    | (go_at_call 45; with_reducible refine Calls.mono (HT3.out _) ?_; rintro e w6 ⟨rfl, hm⟩; exact ⟨rfl, hm⟩)))
  refine wpQuiet_nil ?_
  rintro _ ⟨d, rfl⟩
  refine ⟨rfl, ?_⟩
  have hr4 : (g d).heap[w.heap.size]? = some (.cells (zer32.map encB).toArray 29 (0, 0)) := HR0.out.to (HGB.out d)
  have HB4 := Lib.hid (below_setRow (HB0.out.trans ((HGB.out d).mono HB0.out.size)) (R := w.heap.size) (Nat.le_refl _) (r3.map encB).toArray)
  have HX := Lib.hid (setRow_heap (g d) w.heap.size _ (r3.map encB).toArray _ _ hr4)
  have HSZ := Lib.hid (hash_size HRL2.out)
  have HC1 := Lib.hid (hash_all r3)
  have HRZ : Hid ((zer32.map encB).toArray.size = 32) := Lib.hid rfl
  have HRE : Hid (hashV r3 = .agg (r3.map encB).toArray) := Lib.hid rfl
  have hrv : hashV r3 = .agg (r3.map encB).toArray := rfl
  rw [hrv]
  clear HT1 HT2 HT3 HGB hrv
  generalize (r3.map encB).toArray = cs at *
  generalize (zer32.map encB).toArray = zs at *
  refine wp_store_row 29 (.tmp 2) (.tmp 25) rfl w.heap.size cs ?_ ?_ 29 zs hr4 (by rw [HSZ.out]; kernel_rfl) (by rw [HRZ.out, HSZ.out]) HC1.out ?_
  · rfl
  · rfl
  unfold Exit.then
  go_wp2_with fail
  exact bodyPost_ret (v := .agg cs) (results_cell_row Tryd.results31 _ _ w.heap.size _ cs (0, 0) _ rfl HX.out Tryd.underlying29 rfl (by rw [HSZ.out]; kernel_rfl)) rfl ⟨by rw [← HR3.out, HRE.out], HB4.out⟩
theorem rootF_any (f : Nat) : ∀ (l : List H32) (A : Option Addr) (n c : Nat) (w : World), l.length ≤ f → Sl w (fun b => b < w.heap.size) A c l → l.length = n → n ≤ 1073741824 → KLaid w →
    Calls Tryd.prog 31 #[.slice A n c] w fun e w' => e = .returned (hashV (rootF f l)) ∧ Below w.heap.size w w' := by
  induction f with
  | zero =>
    intro l A n c w hf hl hn hs hK
    obtain rfl : n = 0 := by omega
    exact root0_any A c w hK
  | succ f ih =>
    intro l A n c w hf hl hn hs hK
    by_cases h0 : n = 0
    · subst h0
      have e : rootF (f + 1) l = sha [] := by rw [rootF, if_pos hn]
      rw [e]
      exact root0_any A c w hK
    · by_cases h1 : n = 1
      · subst h1
        obtain ⟨x, rfl⟩ : ∃ x, l = [x] := List.length_eq_one_iff.1 hn
        have e : rootF (f + 1) [x] = x.l := by rw [rootF, if_neg (by simp), if_pos (by simp)]; rfl
        rw [e]
        exact root1_any x A c w hl
      · exact root2_any f ih l A n c w hf hl hn (by omega) hs hK
theorem root_any (l : List H32) (A : Option Addr) (n c : Nat) (w : World) (hl : Sl w (fun b => b < w.heap.size) A c l) (hn : l.length = n) (hs : n ≤ 1073741824) (hK : KLaid w) :
    Calls Tryd.prog 31 #[.slice A n c] w fun e w' => e = .returned (hashV (root l)) ∧ Below w.heap.size w w' := rootF_any l.length l A n c w (Nat.le_refl _) hl hn hs hK
theorem root_length (l : List H32) (h : ∀ x ∈ l, x.l.length = 32) : (root l).length = 32 := rootF_length _ l h
theorem root_one (x : H32) : root [x] = x.l := by unfold root; rw [List.length_singleton, rootF, if_neg (by simp), if_pos (by simp)]; rfl
end Go.Proofs.YthcklfelofpffaaDoor
namespace Go.Proofs.YthcklfelofpffaaDoor
open Go.RowKit
section
variable {P : Program} {ops : Array Oper} {Q : Exit → Act → World → Prop} {md : Region.Mode} {S : World → Prop} {hd hd' : Nat → Bool}
theorem wpAnyD_weaken : ∀ (fuel : Nat) (listed : Array Bool) (a : Act) (w : World), wpAnyD P md ops Q S hd fuel listed a w → wpAnyD P md ops Q (fun _ => True) hd' fuel listed a w
  | 0, _, _, _, h => h
  | fuel + 1, _, _, _, h => ⟨h.1, fun i hi => wpOp_mono (fun a' w' h' => ⟨fun _ => trivial, wpAnyD_weaken fuel _ a' w' h'.2⟩) (h.2 i hi)⟩
end
def hAt (L : List H32) (i : Nat) : List UInt8 := ((L[i]?).map (·.l)).getD []
theorem hAt_eq (L : List H32) (i : Nat) (h : i < L.length) : hAt L i = L[i].l := by unfold hAt; rw [List.getElem?_eq_getElem h]; rfl
/-- Element i behind k rounds. -/
def rv (L : List H32) (n k i : Nat) : List UInt8 := if i < k ∨ n ≤ i + k then hAt L (n - 1 - i) else hAt L i
structure RV (w0 wr : World) (g base : Nat) (L : List H32) (n k : Nat) : Prop where
  c : ∀ i, i < n → wr.rangeAt g (i * 32) ((rv L n k i).map encB)
  t : ∀ i, i < n → wr.there g (i * 32) 32
  b : Below base w0 wr
theorem below_cells {base : Nat} {w0 : World} {g : Nat} (hg : base ≤ g) : ∀ (vs : List Value) (o : Nat) (wr : World), Below base w0 wr → Below base w0 (wr.setCells g o vs)
  | [], _, _, h => h
  | v :: vs, o, _, h => below_cells hg vs (o + 1) _ (h.setCell (p := ⟨g, o, none⟩) hg v)
theorem RV.swap {w0 wr : World} {g base n k j : Nat} {L : List H32} (h : RV w0 wr g base L n k) (hl : ∀ i, i < n → (hAt L i).length = 32) (hj : j + k + 1 = n) (hk : k < j) (hg : base ≤ g) :
    RV w0 ((wr.setCells g (k * 32) ((hAt L j).map encB)).setCells g (j * 32) ((hAt L k).map encB)) g base L n (k + 1) := by
  have lj : ((hAt L j).map encB).length = 32 := by rw [List.length_map]; exact hl j (by omega)
  have lk : ((hAt L k).map encB).length = 32 := by rw [List.length_map]; exact hl k (by omega)
  have lr : ∀ i, i < n → ((rv L n k i).map encB).length = 32 := fun i hi => by
    rw [List.length_map]; unfold rv; split
    · exact hl _ (by omega)
    · exact hl _ hi
  refine ⟨fun i hi => ?_, fun i hi => World.there_setCells (World.there_setCells (h.t i hi) _ _ _) _ _ _, below_cells hg _ _ _ (below_cells hg _ _ _ h.b)⟩
  by_cases hik : i = k
  · subst hik
    have e : rv L n (i + 1) i = hAt L j := by unfold rv; rw [if_pos (by omega)]; congr 1; omega
    rw [e]
    refine World.rangeAt_setCells_apart (World.rangeAt_setCells_same _ _ _ _ (by rw [lj]; exact h.t i hi)) _ _ _ (.inr (.inl (by rw [lj]; omega)))
  · by_cases hij : i = j
    · subst hij
      have e : rv L n (k + 1) i = hAt L k := by unfold rv; rw [if_pos (by omega)]; congr 1; omega
      rw [e]
      exact World.rangeAt_setCells_same _ _ _ _ (by rw [lk]; exact World.there_setCells (h.t i hi) _ _ _)
    · have e : rv L n (k + 1) i = rv L n k i := by
        unfold rv
        by_cases hc : i < k ∨ n ≤ i + k
        · rw [if_pos hc, if_pos (by omega)]
        · rw [if_neg hc, if_neg (by omega)]
      rw [e]
      have hr := h.c i hi
      have l1 := lr i hi
      refine World.rangeAt_setCells_apart (World.rangeAt_setCells_apart hr _ _ _ (.inr ?_)) _ _ _ (.inr ?_)
      · rw [l1, lj]; omega
      · rw [l1, lk]; omega
set_option maxRecDepth 100000 in
set_option maxHeartbeats 4000000 in
theorem rev0_any (A : Option Addr) (c : Nat) (w : World) : Calls Tryd.prog 78 #[.slice A 0 c] w fun e w' => e = .returned (.tuple #[]) ∧ w = w' := by
  go_enter Tryd.func78, Tryd.ntmps78
  go_wp2_with fail
  refine wp_loop_rounds 1 ?_
  rw [rounds_succ]
  go_wp2_with fail
  go_end0
  exact ⟨rfl, rfl⟩
set_option maxRecDepth 100000 in
set_option maxHeartbeats 4000000 in
theorem rev_any (g base n c : Nat) (L : List H32) (w : World) (hg : base ≤ g) (h : RV w w g base L n 0) (hl : ∀ i, i < n → (hAt L i).length = 32) (hn : n ≤ c) (hc : c ≤ 9223372036854775807) :
    Calls Tryd.prog 78 #[.slice (some ⟨g, 0, none⟩) n c] w fun e w' => e = .returned (.tuple #[]) ∧ (∀ i, i < n → w'.rangeAt g (i * 32) ((hAt L (n - 1 - i)).map encB)) ∧ Below base w w' := by
  have HH := Lib.hid h
  have HL := Lib.hid hl
  have HG := Lib.hid hg
  clear h hl hg
  have hn63 : (n : Int) ≤ 9223372036854775807 := by omega
  go_enter Tryd.func78, Tryd.ntmps78
  go_wp2_with fail
  go_loopw [2, 3] (fun i j wr => ∃ k : Nat, 2 * k ≤ n ∧ i = .int .i64 (k : Int) ∧ j = .int .i64 ((n : Int) - 1 - (k : Int)) ∧ Hid (RV w wr g base L n k)) (fun i _ _ => n - (intOf i).toNat)
  case atStart => exact ⟨0, by omega, rfl, by simp, HH⟩
  case round =>
    obtain ⟨k, hk, rfl, rfl, HR⟩ := hrel
    by_cases hkj : (k : Int) < (n : Int) - 1 - (k : Int)
    · obtain ⟨j, hj⟩ : ∃ j : Nat, (j : Int) = (n : Int) - 1 - (k : Int) := ⟨((n : Int) - 1 - (k : Int)).toNat, by omega⟩
      have hkn : (k : Int) < (n : Int) := by omega
      have hjn : (j : Int) < (n : Int) := by omega
      have hk0 : (0 : Int) ≤ (k : Int) := by omega
      have hj0 : (0 : Int) ≤ (j : Int) := by omega
      have HJ : Hid (j + k + 1 = n ∧ k < j ∧ (j : Int) = (n : Int) - 1 - (k : Int)) := Lib.hid (by omega)
      rw [← hj] at hkj ⊢
      clear hj
      obtain ⟨cx, hcx⟩ : ∃ c, c = (hAt L k).map encB := ⟨_, rfl⟩
      obtain ⟨cy, hcy⟩ : ∃ c, c = (hAt L j).map encB := ⟨_, rfl⟩
      have HCX : Hid (cx.length = 32) := Lib.hid (by rw [hcx, List.length_map]; exact HL.out k (by omega))
      have HCY : Hid (cy.length = 32) := Lib.hid (by rw [hcy, List.length_map]; exact HL.out j (by omega))
      have HX : Hid (cx = (hAt L k).map encB) := Lib.hid hcx
      have HY : Hid (cy = (hAt L j).map encB) := Lib.hid hcy
      have HC1 : Hid (cx.toArray.all (·.oneCell') = true) := Lib.hid (by rw [hcx]; exact hash_all (hAt L k))
      have HC2 : Hid (cy.toArray.all (·.oneCell') = true) := Lib.hid (by rw [hcy]; exact hash_all (hAt L j))
      have HT1 : Hid (wr.drew.there g (k * 32) cy.toArray.size) := Lib.hid (by have := HCY.out; have := HR.out.t k (by omega); simp only [List.size_toArray]; rw [HCY.out, World.there_drew]; exact this)
      have HT2 : Hid (∀ vs, (wr.drew.setCells g (k * 32) vs).there g (j * 32) cx.toArray.size) := Lib.hid (fun vs => by have := HR.out.t j (by omega); simp only [List.size_toArray]; rw [HCX.out]; exact World.there_setCells ((World.there_drew _ _ _ _).2 this) _ _ _)
      have hHeld : wr.drew.rangeAt g (k * 32) cx ∧ wr.drew.rangeAt g (j * 32) cy := by
        have h1 := HR.out.c k (by omega)
        have h2 := HR.out.c j (by omega)
        have e1 : rv L n k k = hAt L k := by unfold rv; rw [if_neg (by have := HJ.out; omega)]
        have e2 : rv L n k j = hAt L j := by unfold rv; rw [if_neg (by have := HJ.out; omega)]
        rw [e1, ← hcx] at h1
        rw [e2, ← hcy] at h2
        exact ⟨(World.rangeAt_drew _ _ _ _).2 h1, (World.rangeAt_drew _ _ _ _).2 h2⟩
      have HN2 : Hid (RV w ((wr.drew.setCells g (k * 32) cy.toArray.toList).setCells g (j * 32) cx.toArray.toList) g base L n (k + 1)) := Lib.hid (by
        have h := HR.out
        have h' : RV w wr.drew g base L n k := ⟨fun i hi => (World.rangeAt_drew _ _ _ _).2 (h.c i hi), fun i hi => (World.there_drew _ _ _ _).2 (h.t i hi), h.b.drew⟩
        have h2 := h'.swap HL.out HJ.out.1 HJ.out.2.1 HG.out
        rw [← hcx, ← hcy] at h2
        exact h2)
      clear hcx hcy HR
      go_wp2_with fail
      refine wp_region_D (fun _ => True) (fun _ => true) (by kernel_rfl) ?_
      refine wpAnyE_take (i := 2) (oi := ⟨some 16, Op.move (Operand.tmp 0), 34, _, _, _⟩) (v := ?_) rfl (by kernel_rfl) (by kernel_rfl) (by kernel_rfl) (by kernel_rfl) (by kernel_rfl) (fun _ _ _ h => h) (by rfl) ?hyk1 trivial ?hrk1
      case hyk1 => (intro wS hSw; (try dsimp only at hSw); go_simp; (try with_reducible rfl))
      all_goals try simp only [Act.put, List.setIfInBounds_toArray, List.set_cons_zero, List.set_cons_succ]
      refine wpAnyE_take (i := 3) (oi := ⟨some 17, Op.move (Operand.tmp 3), 3, _, _, _⟩) (v := ?_) rfl (by kernel_rfl) (by kernel_rfl) (by kernel_rfl) (by kernel_rfl) (by kernel_rfl) (fun _ _ _ h => h) (by rfl) ?hyk2 trivial ?hrk2
      case hyk2 => (intro wS hSw; (try dsimp only at hSw); go_simp; (try with_reducible rfl))
      all_goals try simp only [Act.put, List.setIfInBounds_toArray, List.set_cons_zero, List.set_cons_succ]
      refine wpAnyD_weaken (S := fun w' => w'.rangeAt g (k * 32) cx ∧ w'.rangeAt g (j * 32) cy) (hd := fun i => decide (i < 13)) _ _ _ _ ?_
      refine wpAnyE_take (i := 0) (oi := ⟨some 14, Op.move (Operand.tmp 0), 34, _, _, _⟩) (v := ?_) rfl (by kernel_rfl) (by kernel_rfl) (by kernel_rfl) (by kernel_rfl) (by kernel_rfl) (fun _ _ _ h => h) (by rfl) ?hyk3 hHeld ?hrk3
      case hyk3 => (intro wS hSw; (try dsimp only at hSw); go_simp; (try with_reducible rfl))
      all_goals try simp only [Act.put, List.setIfInBounds_toArray, List.set_cons_zero, List.set_cons_succ]
      refine wpAnyE_take (i := 1) (oi := ⟨some 15, Op.move (Operand.tmp 2), 3, _, _, _⟩) (v := ?_) rfl (by kernel_rfl) (by kernel_rfl) (by kernel_rfl) (by kernel_rfl) (by kernel_rfl) (fun _ _ _ h => h) (by rfl) ?hyk4 hHeld ?hrk4
      case hyk4 => (intro wS hSw; (try dsimp only at hSw); go_simp; (try with_reducible rfl))
      all_goals try simp only [Act.put, List.setIfInBounds_toArray, List.set_cons_zero, List.set_cons_succ]
      refine wpAnyE_take (i := 4) (oi := ⟨some 18, Op.move (Operand.tmp 0), 34, _, _, _⟩) (v := ?_) rfl (by kernel_rfl) (by kernel_rfl) (by kernel_rfl) (by kernel_rfl) (by kernel_rfl) (fun _ _ _ h => h) (by rfl) ?hyk5 hHeld ?hrk5
      case hyk5 => (intro wS hSw; (try dsimp only at hSw); go_simp; (try with_reducible rfl))
      all_goals try simp only [Act.put, List.setIfInBounds_toArray, List.set_cons_zero, List.set_cons_succ]
      refine wpAnyE_take (i := 5) (oi := ⟨some 19, Op.move (Operand.tmp 3), 3, _, _, _⟩) (v := ?_) rfl (by kernel_rfl) (by kernel_rfl) (by kernel_rfl) (by kernel_rfl) (by kernel_rfl) (fun _ _ _ h => h) (by rfl) ?hyk6 hHeld ?hrk6
      case hyk6 => (intro wS hSw; (try dsimp only at hSw); go_simp; (try with_reducible rfl))
      all_goals try simp only [Act.put, List.setIfInBounds_toArray, List.set_cons_zero, List.set_cons_succ]
      refine wpAnyE_take (i := 6) (oi := ⟨some 20, Op.indexAddr 34 (Operand.tmp 18) (Operand.tmp 19), 0, _, _, _⟩) (v := ?_) rfl (by kernel_rfl) (by kernel_rfl) (by kernel_rfl) (by kernel_rfl) (by kernel_rfl) (fun _ _ _ h => h) (by rfl) ?hyk7 hHeld ?hrk7
      case hyk7 => (intro wS hSw; (try dsimp only at hSw); go_simp; (try with_reducible rfl))
      all_goals try simp only [Act.put, List.setIfInBounds_toArray, List.set_cons_zero, List.set_cons_succ]
      refine wpAnyE_take (i := 7) (oi := ⟨some 21, Op.load 29 (Operand.tmp 20), 29, _, _, _⟩) (v := ?_) rfl (by kernel_rfl) (by kernel_rfl) (by kernel_rfl) (by kernel_rfl) (by kernel_rfl) (fun _ _ _ h => h) (by rfl) ?hyk8 hHeld ?hrk8
      case hyk8 => (intro wS hSw; refine exec_load_mid 29 (.tmp 20) ?_ g (j * 32) ?_ cy _ ?_ Tryd.underlying29 ?_ ?_; rfl; rfl; (first | exact hSw.1 | exact hSw.2); rfl; (first | (rw [HCX.out]; kernel_rfl) | (rw [HCY.out]; kernel_rfl)))
      all_goals try simp only [Act.put, List.setIfInBounds_toArray, List.set_cons_zero, List.set_cons_succ]
      refine wpAnyE_take (i := 8) (oi := ⟨some 22, Op.move (Operand.tmp 0), 34, _, _, _⟩) (v := ?_) rfl (by kernel_rfl) (by kernel_rfl) (by kernel_rfl) (by kernel_rfl) (by kernel_rfl) (fun _ _ _ h => h) (by rfl) ?hyk9 hHeld ?hrk9
      case hyk9 => (intro wS hSw; (try dsimp only at hSw); go_simp; (try with_reducible rfl))
      all_goals try simp only [Act.put, List.setIfInBounds_toArray, List.set_cons_zero, List.set_cons_succ]
      refine wpAnyE_take (i := 9) (oi := ⟨some 23, Op.move (Operand.tmp 2), 3, _, _, _⟩) (v := ?_) rfl (by kernel_rfl) (by kernel_rfl) (by kernel_rfl) (by kernel_rfl) (by kernel_rfl) (fun _ _ _ h => h) (by rfl) ?hyk10 hHeld ?hrk10
      case hyk10 => (intro wS hSw; (try dsimp only at hSw); go_simp; (try with_reducible rfl))
      all_goals try simp only [Act.put, List.setIfInBounds_toArray, List.set_cons_zero, List.set_cons_succ]
      refine wpAnyE_take (i := 10) (oi := ⟨some 24, Op.indexAddr 34 (Operand.tmp 22) (Operand.tmp 23), 0, _, _, _⟩) (v := ?_) rfl (by kernel_rfl) (by kernel_rfl) (by kernel_rfl) (by kernel_rfl) (by kernel_rfl) (fun _ _ _ h => h) (by rfl) ?hyk11 hHeld ?hrk11
      case hyk11 => (intro wS hSw; (try dsimp only at hSw); go_simp; (try with_reducible rfl))
      all_goals try simp only [Act.put, List.setIfInBounds_toArray, List.set_cons_zero, List.set_cons_succ]
      refine wpAnyE_take (i := 11) (oi := ⟨some 25, Op.load 29 (Operand.tmp 24), 29, _, _, _⟩) (v := ?_) rfl (by kernel_rfl) (by kernel_rfl) (by kernel_rfl) (by kernel_rfl) (by kernel_rfl) (fun _ _ _ h => h) (by rfl) ?hyk12 hHeld ?hrk12
      case hyk12 => (intro wS hSw; refine exec_load_mid 29 (.tmp 24) ?_ g (k * 32) ?_ cx _ ?_ Tryd.underlying29 ?_ ?_; rfl; rfl; (first | exact hSw.1 | exact hSw.2); rfl; (first | (rw [HCX.out]; kernel_rfl) | (rw [HCY.out]; kernel_rfl)))
      all_goals try simp only [Act.put, List.setIfInBounds_toArray, List.set_cons_zero, List.set_cons_succ]
      refine wpAnyE_take (i := 12) (oi := ⟨some 26, Op.indexAddr 34 (Operand.tmp 14) (Operand.tmp 15), 0, _, _, _⟩) (v := ?_) rfl (by kernel_rfl) (by kernel_rfl) (by kernel_rfl) (by kernel_rfl) (by kernel_rfl) (fun _ _ _ h => h) (by rfl) ?hyk13 hHeld ?hrk13
      case hyk13 => (intro wS hSw; (try dsimp only at hSw); go_simp; (try with_reducible rfl))
      all_goals try simp only [Act.put, List.setIfInBounds_toArray, List.set_cons_zero, List.set_cons_succ]
      refine wpAnyD_one (i := 13) (oi := ⟨none, Op.store 29 (Operand.tmp 26) (Operand.tmp 21), 0, _, _, _⟩) rfl (by kernel_rfl) (by rfl) (fun K hK => ?_)
      refine wp_store_mid 29 (.tmp 26) (.tmp 21) rfl g (k * 32) cy.toArray ?_ ?_ HT1.out ?_ HC2.out ?_
      · rfl
      · rfl
      · show _ = some cy.length; rw [HCY.out]; kernel_rfl
      refine hK _ _ (fun h => absurd h (by decide)) ?_
      clear hK K
      try simp only [Act.put]
      refine wpAnyD_one (i := 14) (oi := ⟨some 27, Op.indexAddr 34 (Operand.tmp 16) (Operand.tmp 17), 0, _, _, _⟩) rfl (by kernel_rfl) (by rfl) (fun K hK => ?_)
      go_simp
      refine hK _ _ (fun h => absurd h (by decide)) ?_
      clear hK K
      try simp only [Act.put, List.setIfInBounds_toArray, List.set_cons_zero, List.set_cons_succ]
      refine wpAnyD_one (i := 15) (oi := ⟨none, Op.store 29 (Operand.tmp 27) (Operand.tmp 25), 0, _, _, _⟩) rfl (by kernel_rfl) (by rfl) (fun K hK => ?_)
      refine wp_store_mid 29 (.tmp 27) (.tmp 25) rfl g (j * 32) cx.toArray ?_ ?_ (HT2.out _) ?_ HC1.out ?_
      · rfl
      · rfl
      · show _ = some cx.length; rw [HCX.out]; kernel_rfl
      refine hK _ _ (fun h => absurd h (by decide)) ?_
      clear hK K
      try simp only [Act.put]
      refine wpAnyD_done (by kernel_rfl) ?_ _
      unfold Exit.then
      go_wp2_with fail
      go_roundw
      case rel => exact ⟨k + 1, by have := HJ.out; omega, by go_num, by have := HJ.out; first | (congr 1; omega) | go_num, HN2⟩
      case measure => simp [intOf]; omega
    · go_wp2_with fail
      go_end0
      refine ⟨rfl, fun i hi => ?_, HR.out.b⟩
      have h := HR.out.c i hi
      unfold rv at h
      split at h
      · exact h
      · have e : n - 1 - i = i := by omega
        rw [e]; exact h
end Go.Proofs.YthcklfelofpffaaDoor
namespace Go.Proofs.YthcklfelofpffaaDoor
open Go.RowKit
/-- The hash values beside the way down to a leaf, from the root on. -/
def downF : Nat → List H32 → Nat → List H32
  | 0, _, _ => []
  | f + 1, l, i => if l.length ≤ 1 then [] else if i < splitN l.length then ⟨root (l.drop (splitN l.length))⟩ :: downF f (l.take (splitN l.length)) i else ⟨root (l.take (splitN l.length))⟩ :: downF f (l.drop (splitN l.length)) (i - splitN l.length)
def down (l : List H32) (i : Nat) : List H32 := downF l.length l i
/-- The path of a leaf. -/
def pathH (l : List H32) (i : Nat) : List H32 := (down l i).reverse
theorem downF_fuel : ∀ (f g : Nat) (l : List H32) (i : Nat), l.length ≤ f → l.length ≤ g → l.length ≤ 1073741824 → downF f l i = downF g l i
  | 0, 0, _, _, _, _, _ => rfl
  | 0, g + 1, l, i, h, _, _ => by rw [downF, downF, if_pos (by omega)]
  | f + 1, 0, l, i, _, h, _ => by rw [downF, downF, if_pos (by omega)]
  | f + 1, g + 1, l, i, hf, hg, hl => by
    rw [downF, downF]
    split
    · rfl
    · obtain ⟨_, _, h1, h2, _⟩ := splitN_bounds l.length (by omega) (by omega)
      rw [downF_fuel f g _ _ (by rw [List.length_take]; omega) (by rw [List.length_take]; omega) (by rw [List.length_take]; omega),
        downF_fuel f g (l.drop _) _ (by rw [List.length_drop]; omega) (by rw [List.length_drop]; omega) (by rw [List.length_drop]; omega)]
theorem down_one (l : List H32) (i : Nat) (h : l.length ≤ 1) : down l i = [] := by
  unfold down
  cases hl : l.length with
  | zero => rfl
  | succ f => rw [downF, if_pos (by omega)]
theorem down_left (l : List H32) (i : Nat) (h2 : 2 ≤ l.length) (h : l.length ≤ 1073741824) (hi : i < splitN l.length) : down l i = ⟨root (l.drop (splitN l.length))⟩ :: down (l.take (splitN l.length)) i := by
  obtain ⟨_, _, h3, h4, _⟩ := splitN_bounds l.length h2 (by omega)
  obtain ⟨f, hf⟩ : ∃ f, l.length = f + 1 := ⟨l.length - 1, by omega⟩
  unfold down
  conv => lhs; rw [hf, downF, if_neg (by omega), if_pos hi]
  rw [downF_fuel f _ (l.take _) i (by rw [List.length_take]; omega) (Nat.le_refl _) (by rw [List.length_take]; omega)]
theorem down_right (l : List H32) (i : Nat) (h2 : 2 ≤ l.length) (h : l.length ≤ 1073741824) (hi : ¬ i < splitN l.length) : down l i = ⟨root (l.take (splitN l.length))⟩ :: down (l.drop (splitN l.length)) (i - splitN l.length) := by
  obtain ⟨_, _, h3, h4, _⟩ := splitN_bounds l.length h2 (by omega)
  obtain ⟨f, hf⟩ : ∃ f, l.length = f + 1 := ⟨l.length - 1, by omega⟩
  unfold down
  conv => lhs; rw [hf, downF, if_neg (by omega), if_neg hi]
  rw [downF_fuel f _ (l.drop _) _ (by rw [List.length_drop]; omega) (Nat.le_refl _) (by rw [List.length_drop]; omega)]
theorem downF_32 : ∀ (f : Nat) (l : List H32) (i : Nat), (∀ x ∈ l, x.l.length = 32) → ∀ x ∈ downF f l i, x.l.length = 32
  | 0, _, _, _ => by simp [downF]
  | f + 1, l, i, h => by
    rw [downF]
    split
    · simp
    · split
      · intro x hx
        rcases List.mem_cons.1 hx with rfl | hx
        · exact root_length _ fun x hx => h x (List.mem_of_mem_drop hx)
        · exact downF_32 f _ i (fun x hx => h x (List.mem_of_mem_take hx)) x hx
      · intro x hx
        rcases List.mem_cons.1 hx with rfl | hx
        · exact root_length _ fun x hx => h x (List.mem_of_mem_take hx)
        · exact downF_32 f _ _ (fun x hx => h x (List.mem_of_mem_drop hx)) x hx
theorem downF_length : ∀ (f : Nat) (l : List H32) (i : Nat), (downF f l i).length ≤ f
  | 0, _, _ => by simp [downF]
  | f + 1, l, i => by
    rw [downF]
    split
    · simp
    · split
      · have := downF_length f (l.take (splitN l.length)) i
        rw [List.length_cons]; omega
      · have := downF_length f (l.drop (splitN l.length)) (i - splitN l.length)
        rw [List.length_cons]; omega
theorem pathH_32 {l : List H32} {i : Nat} (h : ∀ x ∈ l, x.l.length = 32) : ∀ x ∈ pathH l i, x.l.length = 32 := fun x hx => downF_32 _ _ _ h x (by simpa [pathH, down] using hx)
theorem pathH_length (l : List H32) (i : Nat) : (pathH l i).length ≤ l.length := by unfold pathH; rw [List.length_reverse]; exact downF_length _ _ _
theorem wpList_build1 {ops : Array Oper} {rest : List Oper} {o : Oper} {a : Act} {Q : Exit → Act → World → Prop} {w : World} (hgd : o.guard = none) (x : Operand) (ho : o.op = .buildSlice 34 1 #[(0, x)]) (cs : Array Value) (hx : a.eval x = .agg cs) (hs : cs.size = 32)
    (h : wpList Tryd.prog ops Q rest (a.put o.dst (.slice (some ⟨w.heap.size, 0, none⟩) 1 1)) (w.alloc (.cells cs 29))) : wpList Tryd.prog ops Q (o :: rest) a w :=
  wpList_plain hgd fun _ hK => wp_build1 x ho cs hx hs (hK _ _ h)
/-- The length of a slice value. -/
def vlen : Value → Nat
  | .slice _ n _ => n
  | _ => 0
/-- An own row, ready to be turned round. -/
theorem own_rv {w : World} {base g n c : Nat} {e : TypeId} {l : List H32} (h : Own w base e (.slice (some ⟨g, 0, none⟩) n c) l) (hn : l.length = n) : RV w w g base l n 0 ∧ (∀ i, i < n → (hAt l i).length = 32) := by
  subst hn
  refine ⟨⟨fun i hi => ?_, fun i hi => ?_, Below.refl _ _⟩, fun i hi => ?_⟩
  · obtain ⟨g', cap, es, e1, _, _, _, ⟨rfl, hl⟩, hc, _⟩ := h.at_ hi
    cases e1
    have e2 : rv l l.length 0 i = l[i].l := by unfold rv; rw [if_neg (by omega), hAt_eq _ _ hi]
    rw [e2]
    exact fun j v hv => hc j v hv
  · obtain ⟨g', cap, es, e1, _, _, _, ⟨rfl, hl⟩, hc, hf⟩ := h.at_ hi
    cases e1
    intro j hj
    refine ⟨?_, hf _⟩
    have hj2 : j < (l[i].l.map encB).length := by rw [List.length_map, hl]; exact hj
    have := hc j _ (List.getElem?_eq_getElem hj2)
    rw [show i * Rep.size H32 = i * 32 from rfl] at this
    rw [this]; rfl
  · obtain ⟨g', cap, es, e1, _, _, _, ⟨rfl, hl⟩, hc, _⟩ := h.at_ hi
    rw [hAt_eq _ _ hi]; exact hl
/-- A row of hash values as a slice. -/
theorem sl_rows {w : World} {S : Nat → Prop} {g c : Nat} {l : List H32} (hS : S g) (hg : g < w.heap.size) (hc : l.length ≤ c) (hm : c ≤ maxLen) (hl : ∀ i, (h : i < l.length) → l[i].l.length = 32)
    (h : ∀ i, (h : i < l.length) → w.rangeAt g (i * 32) (l[i].l.map encB)) : Sl w S (some ⟨g, 0, none⟩) c l :=
  ⟨hc, hm, fun _ => ⟨g, 0, rfl, hS, hg, fun i hi => ⟨_, ⟨rfl, hl i hi⟩, fun j u hu => by rw [Nat.zero_add]; exact h i hi j u hu⟩⟩⟩
set_option maxRecDepth 100000 in
set_option maxHeartbeats 4000000 in
theorem path_any (l : List H32) (A : Option Addr) (n c i : Nat) (w : World) (hl : Sl w (fun b => b < w.heap.size) A c l) (hn : l.length = n) (hs : n ≤ 1048576) (hi : i < n) (hK : KLaid w) :
    Calls Tryd.prog 53 #[.slice A n c, .int .i64 (i : Int)] w fun e w' => ∃ A' c', e = .returned (.tuple #[.slice A' (pathH l i).length c', .int .i64 0]) ∧ Sl w' (fun b => b < w'.heap.size) A' c' (pathH l i) ∧ Below w.heap.size w w' := by
  have HL := Lib.hid hl
  have HN := Lib.hid hn
  have HK := Lib.hid hK
  have HLen := Lib.hid (h32_len hl)
  have hin : ¬ n ≤ i := by omega
  clear hl hn hK
  go_enter Tryd.func53, Tryd.ntmps53
  go_wp2_with fail
  go_loopw [0, 1, 6] (fun s x v wr => ∃ (l' : List H32) (A' : Option Addr) (n' c' i' : Nat) (acc : List H32), s = .slice A' n' c' ∧ x = .int .i64 (i' : Int) ∧ i' < n' ∧ Hid (l'.length = n') ∧ acc.length + n' ≤ 1048577 ∧ Hid (Sl w (fun b => b < w.heap.size) A' c' l') ∧ Hid (Own wr w.heap.size 29 v acc) ∧ Hid (acc ++ down l' i' = down l i) ∧ Hid (Below w.heap.size w wr)) (fun s _ _ _ => vlen s)
  case atStart => exact ⟨l, A, n, c, i, [], rfl, rfl, hi, HN, by simp; omega, HL, Lib.hid (Own.nil _ _ _), Lib.hid rfl, Lib.hid (Below.refl _ _)⟩
  case round =>
    obtain ⟨l', A', n', c', i', acc, rfl, rfl, hi', HN', hac, HL', HO, HD, HB⟩ := hrel
    by_cases h1 : 1 < n'
    · obtain ⟨_, _, h3, h4, _⟩ := splitN_bounds n' (by omega) (by omega)
      have HSP := Lib.hid (split_any n' (by omega) (by omega))
      obtain ⟨b, o, rfl, _⟩ := HL'.out.2.2 (by have := HN'.out; omega)
      have hnc : n' ≤ c' := by have := HL'.out.1; have := HN'.out; omega
      have hcm : c' ≤ 9223372036854775807 := by have := HL'.out.2.1; unfold maxLen at this; omega
      have h1' : (1 : Int) < (n' : Int) := by omega
      have HDL : Hid (i' < splitN n' → down l' i' = ⟨root (l'.drop (splitN n'))⟩ :: down (l'.take (splitN n')) i') := Lib.hid (fun h => by rw [← HN'.out] at h ⊢; exact down_left l' i' (by have := HN'.out; omega) (by have := HN'.out; omega) h)
      have HDR : Hid (¬ i' < splitN n' → down l' i' = ⟨root (l'.take (splitN n'))⟩ :: down (l'.drop (splitN n')) (i' - splitN n')) := Lib.hid (fun h => by rw [← HN'.out] at h ⊢; exact down_right l' i' (by have := HN'.out; omega) (by have := HN'.out; omega) h)
      generalize splitN n' = k at *
      by_cases hik : i' < k
      · have hik' : (i' : Int) < (k : Int) := by omega
        have HRT : Hid (Calls Tryd.prog 31 #[.slice (some ⟨b, o + k * 32, none⟩) (n' - k) (c' - k)] wr fun e w' => e = .returned (hashV (root (l'.drop k))) ∧ Below wr.heap.size wr w') := Lib.hid (root_any (l'.drop k) _ _ _ wr (sl_drop32 (HL'.out.to HB.out) k (by have := HN'.out; omega)) (by have := HN'.out; rw [List.length_drop]; omega) (by omega) (HK.out.to HB.out))
        have HRL : Hid ((root (l'.drop k)).length = 32) := Lib.hid (root_length _ fun x hx => h32_len HL'.out x (List.mem_of_mem_drop hx))
        have hlf : hashV (root (l'.drop k)) = .agg ((root (l'.drop k)).map encB).toArray := rfl
        rw [hlf] at HRT
        clear hlf
        have HSZ := Lib.hid (hash_size HRL.out)
        generalize hcs : ((root (l'.drop k)).map encB).toArray = cs at *
        have HCS := Lib.hid hcs
        clear hcs
        go_wp2_with (first
          | (go_at_call 62; refine (HSP.out _).mono ?_; rintro e w' ⟨rfl, rfl⟩)
          | fail)
        refine HRT.out.mono ?_
        rintro e w2 ⟨rfl, hb2⟩
        have HO2' := Lib.hid (HO.out.below hb2)
        have HO2 := Lib.hid ((HO.out.below hb2).alloc (.cells cs 29))
        have HB2 := Lib.hid (HB.out.trans (hb2.mono HB.out.size))
        have HR : Hid (∀ S, Rep.R (w2.alloc (.cells cs 29)) S cs.toList (⟨root (l'.drop k)⟩ : H32)) := Lib.hid (fun S => ⟨by rw [← HCS.out], HRL.out⟩)
        clear hb2 HO HRT
        go_wp2_with (first
          | (refine wpList_build1 rfl (.tmp 29) rfl cs rfl HSZ.out ?_)
          | (at_builtin; (refine wpList_push (α := H32) _ rfl (.tmp 25) (.tmp 30) 34 rfl w.heap.size 29 (.agg (zer32.map encB).toArray) 32 Tryd.underlying34 h_info rfl (by decide) u6 acc rfl HO2.out w2.heap.size cs ⟨root (l'.drop k)⟩ (0, 0) 29 rfl (heap_alloc_new w2 _) (HR.out _) (by omega) (by omega) (by have := HB2.out.size; simp; omega) _ rfl ?_; intro g3 p3 w3 hown3 hg3 hat3 hlt3))
          | fail)
        go_roundw
        case rel =>
          have hD := HD.out
          rw [HDL.out hik, List.append_cons] at hD
          exact ⟨l'.take k, (some ⟨b, o, none⟩), k, c', i', _, rfl, rfl, by omega, Lib.hid (by have := HN'.out; rw [List.length_take]; omega), by simp; omega, Lib.hid ((HL'.out).take k (by have := HN'.out; omega)), Lib.hid hown3, Lib.hid hD, Lib.hid (below_push HB2.out HO2'.out HB2.out.size hg3)⟩
        case measure => (show (_ : Nat) < _; simp only [vlen]; omega)
      · have hik' : ¬ (i' : Int) < (k : Int) := by omega
        have HRT : Hid (Calls Tryd.prog 31 #[.slice (some ⟨b, o, none⟩) k c'] wr fun e w' => e = .returned (hashV (root (l'.take k))) ∧ Below wr.heap.size wr w') := Lib.hid (root_any (l'.take k) _ _ _ wr ((HL'.out.to HB.out).take k (by have := HN'.out; omega)) (by have := HN'.out; rw [List.length_take]; omega) (by omega) (HK.out.to HB.out))
        have HRL : Hid ((root (l'.take k)).length = 32) := Lib.hid (root_length _ fun x hx => h32_len HL'.out x (List.mem_of_mem_take hx))
        have hlf : hashV (root (l'.take k)) = .agg ((root (l'.take k)).map encB).toArray := rfl
        rw [hlf] at HRT
        clear hlf
        have HSZ := Lib.hid (hash_size HRL.out)
        generalize hcs : ((root (l'.take k)).map encB).toArray = cs at *
        have HCS := Lib.hid hcs
        clear hcs
        go_wp2_with (first
          | (go_at_call 62; refine (HSP.out _).mono ?_; rintro e w' ⟨rfl, rfl⟩)
          | fail)
        refine HRT.out.mono ?_
        rintro e w2 ⟨rfl, hb2⟩
        have HO2' := Lib.hid (HO.out.below hb2)
        have HO2 := Lib.hid ((HO.out.below hb2).alloc (.cells cs 29))
        have HB2 := Lib.hid (HB.out.trans (hb2.mono HB.out.size))
        have HR : Hid (∀ S, Rep.R (w2.alloc (.cells cs 29)) S cs.toList (⟨root (l'.take k)⟩ : H32)) := Lib.hid (fun S => ⟨by rw [← HCS.out], HRL.out⟩)
        clear hb2 HO HRT
        go_wp2_with (first
          | (refine wpList_build1 rfl (.tmp 39) rfl cs rfl HSZ.out ?_)
          | (at_builtin; (refine wpList_push (α := H32) _ rfl (.tmp 35) (.tmp 40) 34 rfl w.heap.size 29 (.agg (zer32.map encB).toArray) 32 Tryd.underlying34 h_info rfl (by decide) u6 acc rfl HO2.out w2.heap.size cs ⟨root (l'.take k)⟩ (0, 0) 29 rfl (heap_alloc_new w2 _) (HR.out _) (by omega) (by omega) (by have := HB2.out.size; simp; omega) _ rfl ?_; intro g3 p3 w3 hown3 hg3 hat3 hlt3))
          | fail)
        go_roundw
        case rel =>
          have hD := HD.out
          rw [HDR.out hik, List.append_cons] at hD
          exact ⟨l'.drop k, (some ⟨b, o + k * 32, none⟩), (n' - k), (c' - k), (i' - k), _, rfl, (by go_num), by omega, Lib.hid (by have := HN'.out; rw [List.length_drop]; omega), by simp; omega, Lib.hid (sl_drop32 HL'.out k (by have := HN'.out; omega)), Lib.hid hown3, Lib.hid hD, Lib.hid (below_push HB2.out HO2'.out HB2.out.size hg3)⟩
        case measure => (show (_ : Nat) < _; simp only [vlen]; omega)
    · have h1' : ¬ (1 : Int) < (n' : Int) := by omega
      have hD := HD.out
      rw [down_one l' i' (by have := HN'.out; omega), List.append_nil] at hD
      obtain ⟨A6, c6, e6, _, hc1, hc2⟩ := HO.out.form
      unfold maxLen at hc2
      have HP : Hid (acc.reverse = pathH l i) := Lib.hid (by rw [hD]; rfl)
      have HP2 : Hid ((pathH l i).length = acc.length) := Lib.hid (by rw [← HP.out, List.length_reverse])
      clear hD HD
      subst e6
      by_cases h0 : acc.length = 0
      · have HRV := Lib.hid (rev0_any A6 c6 wr)
        rw [h0] at HO ⊢
        go_wp2_with (first
          | (go_at_call 78; refine HRV.out.mono ?_; rintro e w6 ⟨rfl, rfl⟩)
          | fail)
        go_ret2
        have hnil : pathH l i = [] := List.eq_nil_of_length_eq_zero (by rw [HP2.out, h0])
        rw [hnil]
        exact ⟨A6, c6, rfl, Sl.nil _ _ _ _ (by unfold maxLen; omega), HB.out⟩
      · obtain ⟨g, cap, es, e1, hg1, hg2, _, _, _, _⟩ := HO.out.at_ (k := 0) (by omega)
        cases e1
        have hrv := own_rv HO.out rfl
        have HRL : Hid (∀ i, i < acc.length → (hAt acc i).length = 32) := Lib.hid hrv.2
        have HRV := Lib.hid (rev_any g w.heap.size acc.length c6 acc wr hg1 hrv.1 hrv.2 hc1 hc2)
        clear hrv HO
        go_wp2_with fail
        refine HRV.out.mono ?_
        rintro e w6 ⟨rfl, hr6, hb6⟩
        have HR6 := Lib.hid hr6
        clear hr6
        go_wp2_with fail
        go_ret2
        refine ⟨some ⟨g, 0, none⟩, c6, (by rw [HP2.out]; rfl), ?_, HB.out.trans hb6⟩
        rw [← HP.out]
        have hra : ∀ j (h : j < acc.reverse.length), acc.reverse[j].l = hAt acc (acc.length - 1 - j) := fun j hj => by
          rw [List.length_reverse] at hj
          rw [List.getElem_reverse, hAt_eq _ _ (by omega)]
        refine sl_rows (by have := hb6.size; omega) (by have := hb6.size; omega) (by rw [List.length_reverse]; exact hc1) (by unfold maxLen; omega) (fun j hj => ?_) (fun j hj => ?_)
        · rw [hra]; rw [List.length_reverse] at hj; exact HRL.out _ (by omega)
        · rw [hra]; rw [List.length_reverse] at hj; exact HR6.out j hj
end Go.Proofs.YthcklfelofpffaaDoor
