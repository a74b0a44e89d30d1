/- One sheet more in a ledger: the function inside of Add. No condition but sizes and what the table holds. -/
import Derived.Test.YthcklfelofpffaaDoorCerEq
import Derived.ChangeKeysEq
import Derived.Laws.NewFold
import Derived.Deep.MidRow
import Derived.Deep.CutRange
import Derived.Test.YthcklfelofpffaaDoorRegE
namespace Go.Proofs.YthcklfelofpffaaDoor
open Go.RowKit
theorem foldl_set : ∀ (l : List Value) (k : Nat) (z : List Value), k + l.length = z.length → (l.zipIdx k).foldl (fun (c : Array Value) x => c.setIfInBounds (0 + x.2) x.1) z.toArray = (z.take k ++ l).toArray
  | [], k, z, h => by
    simp only [List.zipIdx_nil, List.foldl_nil, List.append_nil]
    rw [List.take_of_length_le (by simp at h; omega)]
  | x :: l, k, z, h => by
    rw [List.zipIdx_cons, List.foldl_cons]
    have e : z.toArray.setIfInBounds (0 + k) x = (z.set k x).toArray := by simp
    simp only [e]
    rw [foldl_set l (k + 1) (z.set k x) (by simp at h ⊢; omega)]
    congr 1
    have hk : k < (z.set k x).length := by simp at h ⊢; omega
    rw [List.take_succ_eq_append_getElem hk, List.getElem_set_self, List.take_set_of_le (Nat.le_refl k), List.append_assoc]; rfl
theorem fill_one (n : Nat) (z cs : Array Value) (hz : z.size = n) (hs : cs.size = n) : Instr.fill (fun i => some (i * n, n)) z [(0, .agg cs)] = some cs := by
  have hc : (Value.agg cs).cells = cs := rfl
  rw [Instr.fill]
  simp only [hc, hs, hz, ne_eq, not_true_eq_false, decide_false, Nat.zero_mul, Nat.zero_add, gt_iff_lt, Nat.lt_irrefl, Bool.or_self, Bool.false_eq_true, if_false]
  rw [Instr.fill]
  have h := foldl_set cs.toList 0 z.toList (by simp; omega)
  simp only [List.take_zero, List.nil_append, Array.toArray_toList, Nat.zero_add] at h
  refine congrArg some (Eq.trans ?_ h)
  rw [← Array.foldl_toList, Array.toList_zipIdx]
theorem run_build1 (cs : Array Value) (hs : cs.size = 32) (w : World) : (Instr.buildSlice 34 1 #[(0, .agg cs)]).run Tryd.prog w = .ok (.slice (some ⟨w.heap.size, 0, none⟩) 1 1) (w.alloc (.cells cs 29)) := by
  have hu := Tryd.underlying34
  obtain ⟨i, hi, hz0, hz1, hz2⟩ := info_parts h_info
  have hz1' : i.size = 32 := hz1
  have hf : ∀ z : Array Value, z.size = 32 → Instr.fill (fun i => some (i * 32, 32)) z [(0, .agg cs)] = some cs := fun z hz => fill_one 32 z cs hz hs
  have hsz : ∀ w, (sizeOf 29).run Tryd.prog w = .ok 32 w := fun w => by rw [run_sizeOf w hi, show Tryd.prog.cellsOf 29 = 32 by kernel_rfl]
  have hzv : ∀ w, (zeroValue 29).run Tryd.prog w = .ok (.agg (zer32.map encB).toArray) w := fun w => by simp [zeroValue, typeInfo, hi, hz0, go_sem]
  have hzc : (Value.agg (zer32.map encB).toArray).cells = (zer32.map encB).toArray := rfl
  have hr : ((Array.range (1 * 32)).map (fun x => (zer32.map encB).toArray[x % (zer32.map encB).toArray.size]!)).size = 32 := by simp
  have hff := hf _ hr
  have hle : ¬ (1 * 32 > 2 ^ 24) := by decide
  have hne : ¬ (1 * 32 = 0) := by decide
  simp only [Instr.buildSlice, Sem.run_bind, run_underlying hu, hsz, Result.andThen_ok, if_neg hle, if_neg hne, hzv, hzc, hff, Sem.run_pure, newRow]
  rw [run_newObj_alloc]; rfl
theorem wp_build1 {o : Oper} {a : Act} {K : Act → World → Prop} {Q : Exit → Act → World → Prop} {w : World} (x : Operand) (ho : o.op = .buildSlice 34 1 #[(0, x)]) (cs : Array Value) (hx : a.eval x = .agg cs) (hs : cs.size = 32)
    (h : K (a.put o.dst (.slice (some ⟨w.heap.size, 0, none⟩) 1 1)) (w.alloc (.cells cs 29))) : o.wp Tryd.prog a w K Q := by
  unfold Oper.wp execOp
  have hm : (#[(0, x)] : Array (Nat × Operand)).map (fun p => (p.1, a.eval p.2)) = #[(0, .agg cs)] := by simp [hx]
  simp only [ho, hm, Sem.run_bind, run_build1 cs hs w, Result.andThen_ok, Sem.run_pure]
  exact h
theorem exec_load_mid {P : Program} {w : World} {o : Oper} {a : Act} (ty : TypeId) (x : Operand) (ho : o.op = .load ty x) (b off : Nat) (hx : a.eval x = .pointer (some ⟨b, off, none⟩)) (cs : List Value) (d : TypeDesc) (hc : w.rangeAt b off cs)
    (hu : P.underlying ty = some d) (hd : d.isRow = true) (hi : (P.info? ty).map (·.size) = some cs.length) : (execOp a.eval o).run P w = .ok (.value (.agg cs.toArray)) w := by
  unfold execOp
  simp only [ho, hx, Instr.loadAt, Instr.sureAddr, Sem.run_bind, Sem.run_pure, Result.andThen_ok, run_loadVar_mid w b off ty cs d hc hu hd hi]
theorem exec_load_row {P : Program} {w : World} {o : Oper} {a : Act} (ty : TypeId) (x : Operand) (ho : o.op = .load ty x) (g : Nat) (hx : a.eval x = .pointer (some ⟨g, 0, none⟩)) (t : TypeId) (cs : Array Value) (fr : Nat × Nat) (d : TypeDesc) (hg : w.heap[g]? = some (.cells cs t fr))
    (hu : P.underlying ty = some d) (hd : (match d with | .struct _ | .array _ _ => true | _ => false) = true) (hi : (P.info? ty).map (·.size) = some cs.size) : (execOp a.eval o).run P w = .ok (.value (.agg cs)) w := by
  unfold execOp
  simp only [ho, hx, Instr.loadAt, Instr.sureAddr, Sem.run_bind, Sem.run_pure, Result.andThen_ok, run_loadVar_row w g t ty cs fr d hg hu hd hi]
theorem exec_neq {P : Program} {w : World} {o : Oper} {a : Act} (ty ty2 : TypeId) (x y : Operand) (ho : o.op = .binOp .neq ty x y ty2) (xs ys : Array Value) (hx : a.eval x = .agg xs) (hy : a.eval y = .agg ys) (hm : P.eqGuardType P.depth ty = false) (c : Bool) (h : (binOp .neq ty (.agg xs) (.agg ys)).run P w = .ok (.bool c) w) : (execOp a.eval o).run P w = .ok (.value (.bool c)) w := by
  unfold execOp
  simp only [ho, hx, hy, Sem.run_bind, run_eqGuard_agg w .neq ty x y xs ys hm, h, Result.andThen_ok, Sem.run_pure]
theorem lastTo_cases (l : List ByteArray) (x : ByteArray) : ∀ k, lastTo l x k = -1 ∨ ∃ j, j < k ∧ lastTo l x k = (j : Int)
  | 0 => .inl rfl
  | k + 1 => by
    rw [lastTo]
    split
    · exact .inr ⟨k, by omega, rfl⟩
    · rcases lastTo_cases l x k with h | ⟨j, hj, h⟩
      · exact .inl h
      · exact .inr ⟨j, by omega, h⟩
theorem lastIx_cases (l : List ByteArray) (x : ByteArray) : lastIx l x = -1 ∨ ∃ j, j < l.length ∧ lastIx l x = (j : Int) := lastTo_cases l x l.length
theorem h32_at {w : World} {S : Nat → Prop} {A : Option Addr} {c : Nat} {l : List H32} (h : Sl w S A c l) {k : Nat} (hk : k < l.length) :
    ∃ b o, A = some ⟨b, o, none⟩ ∧ S b ∧ b < w.heap.size ∧ w.rangeAt b (o + k * 32) (l[k].l.map encB) ∧ l[k].l.length = 32 := by
  obtain ⟨b, o, es, rfl, hb, hlt, ⟨he, hl⟩, hc⟩ := h.at_ hk
  subst he
  exact ⟨b, o, rfl, hb, hlt, fun j v hv => hc j v hv, hl⟩
/-- A ledger's variable, and its two rows. -/
structure LG (w : World) (O base : Nat) (v1 v2 : Value) (L : List H32) (N : List ByteArray) : Prop where
  o : ABox w O 36 [v1, v2]
  l : Own w base 29 v1 L
  n : Own w base 9 v2 N
  ob : base ≤ O
  o1 : some O ≠ v1.ownBlock
  o2 : some O ≠ v2.ownBlock
  dj : ∀ g, v1.ownBlock = some g → v2.ownBlock ≠ some g
  bs : base ≤ w.heap.size
theorem LG.to {w w' : World} {O base : Nat} {v1 v2 : Value} {L : List H32} {N : List ByteArray} (h : LG w O base v1 v2 L N) (hb : Below w.heap.size w w') : LG w' O base v1 v2 L N :=
  ⟨h.o.to hb, h.l.below hb, h.n.below hb, h.ob, h.o1, h.o2, h.dj, Nat.le_trans h.bs hb.size⟩
theorem Sl.at_base {α : Type} [Rep α] {w w' : World} {base : Nat} {A : Option Addr} {c : Nat} {l : List α} (h : Sl w (fun b => b < base) A c l) (hb : Below base w w') : Sl w' (fun b => b < w'.heap.size) A c l :=
  (h.keep (Kept.below hb (fun _ h => h)) hb.size).mono (fun _ _ hlt => hlt)
theorem own_keepH {w w' : World} {base : Nat} {e : TypeId} {v : Value} {l : List H32} (h : Own w base e v l) (hk : ∀ g, v.ownBlock = some g → w'.heap[g]? = w.heap[g]?) : Own w' base e v l := by
  obtain ⟨xs, hx, ho, hr⟩ := h
  refine ⟨xs, ⟨hx.1, ?_⟩, ho, fun i hi => hr i hi⟩
  rcases hx.2 with hn | ⟨g, cap, cur, rfl, hb, hg, rest⟩
  · exact .inl hn
  · exact .inr ⟨g, cap, cur, rfl, hb, (hk g rfl).trans hg, rest⟩
theorem own_keepS {w w' : World} {base : Nat} {e : TypeId} {v : Value} {l : List ByteArray} (h : Own w base e v l) (hk : ∀ g, v.ownBlock = some g → w'.heap[g]? = w.heap[g]?) : Own w' base e v l := by
  obtain ⟨xs, hx, ho, hr⟩ := h
  refine ⟨xs, ⟨hx.1, ?_⟩, ho, fun i hi => hr i hi⟩
  rcases hx.2 with hn | ⟨g, cap, cur, rfl, hb, hg, rest⟩
  · exact .inl hn
  · exact .inr ⟨g, cap, cur, rfl, hb, (hk g rfl).trans hg, rest⟩
/-- Between the two appends. -/
structure PL (wc w : World) (base : Nat) (v1 v2 u1 u2 : Value) (L : List H32) (N : List ByteArray) : Prop where
  os : w.os = wc.os
  tape : w.tape = wc.tape
  output : w.output = wc.output
  size : wc.heap.size ≤ w.heap.size
  block : ∀ i, i < wc.heap.size → some i ≠ v1.ownBlock → some i ≠ v2.ownBlock → w.heap[i]? = wc.heap[i]?
  l : Own w base 29 u1 L
  n : Own w base 9 u2 N
  r1 : u1.ownBlock = v1.ownBlock ∨ ∀ g, u1.ownBlock = some g → wc.heap.size ≤ g
  r2 : u2.ownBlock = v2.ownBlock ∨ ∀ g, u2.ownBlock = some g → wc.heap.size ≤ g
  dj : ∀ g, u1.ownBlock = some g → u2.ownBlock ≠ some g
  bs : base ≤ w.heap.size
/-- A literal's block, apart from both rows. -/
structure LT (w : World) (B : Nat) (es : Array Value) (te : TypeId) (u1 u2 : Value) : Prop where
  b : w.heap[B]? = some (.cells es te (0, 0))
  n1 : some B ≠ u1.ownBlock
  n2 : some B ≠ u2.ownBlock
section
variable {wc w w5 : World} {base : Nat} {v1 v2 u1 u2 : Value} {L : List H32} {N : List ByteArray}
theorem PL.start {O : Nat} (h : LG wc O base v1 v2 L N) : PL wc wc.drew base v1 v2 v1 v2 L N :=
  ⟨rfl, rfl, rfl, Nat.le_refl _, fun _ _ _ _ => rfl, h.l.drew, h.n.drew, .inl rfl, .inl rfl, h.dj, h.bs⟩
theorem PL.alloc (h : PL wc w base v1 v2 u1 u2 L N) (o : Obj) : PL wc (w.alloc o) base v1 v2 u1 u2 L N := by
  have hz := h.size
  exact ⟨h.os, h.tape, h.output, by simp; omega, fun i hi h1 h2 => (Below.heap_alloc w o i (by omega)).trans (h.block i hi h1 h2), h.l.alloc o, h.n.alloc o, h.r1, h.r2, h.dj, by have := h.bs; simp; omega⟩
theorem PL.lit (h : PL wc w base v1 v2 u1 u2 L N) (es : Array Value) (te : TypeId) : LT (w.alloc (.cells es te)) w.heap.size es te u1 u2 :=
  ⟨heap_alloc_new w _, fun e => by have := (h.l.lt _ e.symm).2; omega, fun e => by have := (h.n.lt _ e.symm).2; omega⟩
theorem LT.alloc {B : Nat} {es : Array Value} {te : TypeId} (h : LT w B es te u1 u2) (o : Obj) : LT (w.alloc o) B es te u1 u2 :=
  ⟨(Below.heap_alloc w o B (Array.getElem?_eq_some_iff.1 h.b).1).trans h.b, h.n1, h.n2⟩
theorem PL.push1 {g cap m : Nat} {L' : List H32} (h : PL wc w base v1 v2 u1 u2 L N) (hown : Own w5 base 29 (.slice (some ⟨g, 0, none⟩) m cap) L') (hg : w.grownBy w5 u1.ownBlock) (hat : u1.ownBlock = some g ∨ g = w.heap.size) :
    PL wc w5 base v1 v2 (.slice (some ⟨g, 0, none⟩) m cap) u2 L' N := by
  have hz := h.size
  refine ⟨hg.os.trans h.os, hg.tape.trans h.tape, hg.output.trans h.output, Nat.le_trans hz hg.size, fun i hi h1 h2 => (hg.block i (by omega) (fun e => ?_)).trans (h.block i hi h1 h2), hown, own_keepS h.n (fun k hk => hg.block k (h.n.lt k hk).2 (fun e => h.dj k e.symm hk)), ?_, h.r2, fun k hk hk2 => ?_, Nat.le_trans h.bs hg.size⟩
  · rcases h.r1 with e2 | e2
    · rw [e2] at e; exact h1 e
    · have := e2 i e.symm; omega
  · rcases hat with e | e
    · rcases h.r1 with e2 | e2
      · exact .inl (by rw [← e2, e]; rfl)
      · exact .inr (fun k hk => by have hk' : some g = some k := hk; cases hk'; exact e2 g e)
    · exact .inr (fun k hk => by have hk' : some g = some k := hk; cases hk'; omega)
  · have hk' : some g = some k := hk
    cases hk'
    rcases hat with e | e
    · exact h.dj g e hk2
    · have := (h.n.lt g hk2).2; omega
theorem PL.push2 {g cap m : Nat} {N' : List ByteArray} (h : PL wc w base v1 v2 u1 u2 L N) (hown : Own w5 base 9 (.slice (some ⟨g, 0, none⟩) m cap) N') (hg : w.grownBy w5 u2.ownBlock) (hat : u2.ownBlock = some g ∨ g = w.heap.size) :
    PL wc w5 base v1 v2 u1 (.slice (some ⟨g, 0, none⟩) m cap) L N' := by
  have hz := h.size
  refine ⟨hg.os.trans h.os, hg.tape.trans h.tape, hg.output.trans h.output, Nat.le_trans hz hg.size, fun i hi h1 h2 => (hg.block i (by omega) (fun e => ?_)).trans (h.block i hi h1 h2), own_keepH h.l (fun k hk => hg.block k (h.l.lt k hk).2 (fun e => h.dj k hk e.symm)), hown, h.r1, ?_, fun k hk hk2 => ?_, Nat.le_trans h.bs hg.size⟩
  · rcases h.r2 with e2 | e2
    · rw [e2] at e; exact h2 e
    · have := e2 i e.symm; omega
  · rcases hat with e | e
    · rcases h.r2 with e2 | e2
      · exact .inl (by rw [← e2, e]; rfl)
      · exact .inr (fun k hk => by have hk' : some g = some k := hk; cases hk'; exact e2 g e)
    · exact .inr (fun k hk => by have hk' : some g = some k := hk; cases hk'; omega)
  · have hk' : some g = some k := hk2
    cases hk'
    rcases hat with e | e
    · exact h.dj g hk e
    · have := (h.l.lt g hk).2; omega
theorem PL.box {O : Nat} (h : PL wc w base v1 v2 u1 u2 L N) {L0 : List H32} {N0 : List ByteArray} (hg : LG wc O base v1 v2 L0 N0) : ABox w O 36 [v1, v2] :=
  (h.block O hg.o.lt hg.o1 hg.o2).trans hg.o
theorem PL.finish {O : Nat} (h : PL wc w base v1 v2 u1 u2 L N) {L0 : List H32} {N0 : List ByteArray} (hg : LG wc O base v1 v2 L0 N0) :
    LG ((w.setCell ⟨O, 0, none⟩ u1).setCell ⟨O, 1, none⟩ u2) O base u1 u2 L N ∧ Below base wc ((w.setCell ⟨O, 0, none⟩ u1).setCell ⟨O, 1, none⟩ u2) := by
  have hO := hg.o.lt
  have n1 : some O ≠ u1.ownBlock := fun e => by
    rcases h.r1 with e2 | e2
    · rw [e2] at e; exact hg.o1 e
    · have := e2 O e.symm; omega
  have n2 : some O ≠ u2.ownBlock := fun e => by
    rcases h.r2 with e2 | e2
    · rw [e2] at e; exact hg.o2 e
    · have := e2 O e.symm; omega
  have hk : ∀ g, g ≠ O → ((w.setCell ⟨O, 0, none⟩ u1).setCell ⟨O, 1, none⟩ u2).heap[g]? = w.heap[g]? := fun g hne => (heap_set _ _ _ _ hne).trans (heap_set _ _ _ _ hne)
  refine ⟨⟨((h.box hg).set 0 u1).set 1 u2, own_keepH h.l (fun g e => hk g (fun e2 => n1 (by rw [e, e2]))), own_keepS h.n (fun g e => hk g (fun e2 => n2 (by rw [e, e2]))), hg.ob, n1, n2, h.dj, by have := h.bs; simp; omega⟩, ?_⟩
  have hb : Below base wc w := ⟨h.os, h.tape, h.output, h.size, fun i hi => h.block i (by have := hg.bs; omega) (fun e => by have := (hg.l.lt i e.symm).1; omega) (fun e => by have := (hg.n.lt i e.symm).1; omega)⟩
  exact (hb.setCell (p := ⟨O, 0, none⟩) hg.ob u1).setCell (p := ⟨O, 1, none⟩) hg.ob u2
theorem LT.push1 {B g cap m : Nat} {es : Array Value} {te : TypeId} (h : LT w B es te u1 u2) (hg : w.grownBy w5 u1.ownBlock) (hat : u1.ownBlock = some g ∨ g = w.heap.size) : LT w5 B es te (.slice (some ⟨g, 0, none⟩) m cap) u2 := by
  have hlt := (Array.getElem?_eq_some_iff.1 h.b).1
  refine ⟨(hg.block B hlt h.n1).trans h.b, fun e => ?_, h.n2⟩
  have e' : some B = some g := e
  cases e'
  rcases hat with e | e
  · exact h.n1 e.symm
  · omega
end
/-- What a sheet makes of a ledger. -/
def addOne (branch : Int) (p : List H32 × List ByteArray) (s : Sheet) : List H32 × List ByteArray :=
  if lastIx p.2 s.label < 0 ∨ (p.1[(lastIx p.2 s.label).toNat]?).map (·.l) ≠ some (leafOf branch s) then (p.1 ++ [⟨leafOf branch s⟩], p.2 ++ [s.label]) else p
set_option maxRecDepth 100000 in
set_option maxHeartbeats 4000000 in
theorem add1_any (branch : Int) (s : Sheet) (A B : Option Addr) (c d Bb O base : Nat) (v1 v2 : Value) (L : List H32) (N : List ByteArray) (w : World) (hbr : I64 branch) (hbb : w.cell? ⟨Bb, 0, none⟩ = some (.int .i64 branch)) (hbl : Bb < base)
    (ha : Sl w (fun b => b < base) A c s.body) (hb : Sl w (fun b => b < base) B d s.notes) (hsz : (sheetB branch s).length ≤ 1073740000) (hK : KLaid w)
    (hg : LG w O base v1 v2 L N) (hln : L.length = N.length) (hlm : L.length ≤ 1048576) :
    Calls Tryd.prog 49 #[.agg #[.string s.label, .slice A s.body.length c, .slice B s.notes.length d], .pointer (some ⟨Bb, 0, none⟩), .pointer (some ⟨O, 0, none⟩)] w fun e w' => e = .returned (.tuple #[]) ∧
      ∃ v1' v2', LG w' O base v1' v2' (addOne branch (L, N) s).1 (addOne branch (L, N) s).2 ∧ Below base w w' := by
  have HA := Lib.hid ha
  have HB := Lib.hid hb
  have HK := Lib.hid hK
  have HBR := Lib.hid hbr
  have HSZ := Lib.hid hsz
  have HG := Lib.hid hg
  have HBB := Lib.hid hbb
  have HBL := Lib.hid hbl
  have HLN := Lib.hid hln
  have HLM := Lib.hid hlm
  clear ha hb hK hbr hsz hg hbb hbl hln hlm
  go_enter Tryd.func49, Tryd.ntmps49
  go_upto_region 1 with (fail)
  have hba : Below w.heap.size w (w.alloc (.cells #[.string s.label, .slice A s.body.length c, .slice B s.notes.length d] 24)) := (Below.refl _ _).alloc (Nat.le_refl _) _
  have HBa : Hid (Below base w (w.alloc (.cells #[.string s.label, .slice A s.body.length c, .slice B s.notes.length d] 24))) := Lib.hid (hba.mono HG.out.bs)
  have HD : Hid (ABox (w.alloc (.cells #[.string s.label, .slice A s.body.length c, .slice B s.notes.length d] 24)) w.heap.size 24 [.string s.label, .slice A s.body.length c, .slice B s.notes.length d]) := Lib.hid (heap_alloc_new w _)
  have HG1 := Lib.hid (HG.out.to hba)
  have HDB : Hid (base ≤ w.heap.size) := Lib.hid HG.out.bs
  have HRD : Hid (∀ g, v1.ownBlock = some g ∨ v2.ownBlock = some g → g < w.heap.size) := Lib.hid (fun g hg => hg.elim (fun h => (HG.out.l.lt g h).2) (fun h => (HG.out.n.lt g h).2))
  have HLF := Lib.hid (leafS_any branch s A B c d _ HBR.out (HA.out.at_base HBa.out) (HB.out.at_base HBa.out) HSZ.out (HK.out.to hba))
  have k0 := (HBa.out.cell (p := ⟨Bb, 0, none⟩) HBL.out).trans HBB.out
  have k1 := HD.out.cell 0 rfl
  have k2 := HD.out.cell 1 rfl
  have k3 := HD.out.cell 2 rfl
  clear hba HG HA HB HK
  generalize (w.alloc (.cells #[.string s.label, .slice A s.body.length c, .slice B s.notes.length d] 24)) = w1 at *
  generalize w.heap.size = D at *
  have hlf : hashV (leafOf branch s) = .agg ((leafOf branch s).map encB).toArray := rfl
  rw [hlf] at HLF
  have HSZ2 := Lib.hid (hash_size (show (leafOf branch s).length = 32 from sha_length _))
  have HC1 := Lib.hid (hash_all (leafOf branch s))
  clear hlf
  generalize hcs : ((leafOf branch s).map encB).toArray = cs at *
  have HCS := Lib.hid hcs
  clear hcs
  go_wp2_with fail
  refine HLF.out.mono ?_
  rintro e w3 ⟨rfl, hb3⟩
  have HG3 := Lib.hid (HG1.out.to hb3)
  have HD3 := Lib.hid (HD.out.to hb3)
  have HB3 := Lib.hid (HBa.out.trans (hb3.mono HG1.out.bs))
  clear k0 k1 k2 k3 hb3 HG1 HD HBa HLF
  go_upto_region 2 with (first
    | (refine wpList_store_row rfl 29 (.tmp 4) (.tmp 8) rfl w3.heap.size cs rfl rfl 29 _ (heap_alloc_new w3 _) (by rw [HSZ2.out]; kernel_rfl) (by rw [HSZ2.out]; rfl) HC1.out ?_)
    | fail)
  generalize hw4 : (World.setRow (World.alloc w3 _) _ _) = w4
  have hb4 : Below w3.heap.size w3 w4 := by rw [← hw4]; exact below_setRow ((Below.refl _ _).alloc (Nat.le_refl _) _) (Nat.le_refl _) _
  have HH4 : Hid (w4.heap[w3.heap.size]? = some (.cells cs 29 (0, 0))) := by rw [← hw4]; exact Lib.hid (setRow_heap _ _ _ cs _ _ (heap_alloc_new w3 _))
  have HG4 := Lib.hid (HG3.out.to hb4)
  have HD4 := Lib.hid (HD3.out.to hb4)
  have HB4 := Lib.hid (HB3.out.trans (hb4.mono HG3.out.bs))
  have HHL : Hid (O < w3.heap.size ∧ D < w3.heap.size ∧ base ≤ w3.heap.size) := Lib.hid ⟨HG3.out.o.lt, HD3.out.lt, HG3.out.bs⟩
  have HHN : Hid (∀ g, v1.ownBlock = some g ∨ v2.ownBlock = some g → g < w3.heap.size) := Lib.hid (fun g hg => hg.elim (fun h => (HG3.out.l.lt g h).2) (fun h => (HG3.out.n.lt g h).2))
  clear hw4 hb4 HG3 HD3 HB3
  generalize w3.heap.size = Hb at *
  obtain ⟨A2, c2, rfl, hsl2⟩ := HG4.out.n.sl
  obtain ⟨A1, c1, rfl, hsl1⟩ := HG4.out.l.sl
  have HS1 := Lib.hid hsl1
  have HLA := Lib.hid (last_any A1 A2 L.length c1 c2 _ N s.label w4 hsl2 rfl (by have := HLN.out; have := HLM.out; omega))
  have k0 := HG4.out.o.cell 0 rfl
  have k1 := HG4.out.o.cell 1 rfl
  have k2 := HD4.out.cell 0 rfl
  clear hsl2 hsl1
  go_wp2_with fail
  refine HLA.out.mono ?_
  rintro e w5 ⟨rfl, hb5⟩
  have HG5 := Lib.hid (HG4.out.to hb5)
  have HD5 := Lib.hid (HD4.out.to hb5)
  have HH5 : Hid (w5.heap[Hb]? = some (.cells cs 29 (0, 0))) := Lib.hid ((hb5.block Hb (Array.getElem?_eq_some_iff.1 HH4.out).1).trans HH4.out)
  have HB5 := Lib.hid (HB4.out.trans (hb5.mono HG4.out.bs))
  have HS5 := Lib.hid (HS1.out.to hb5)
  clear hb5 HG4 HD4 HH4 HB4 HS1 HLA k0 k1 k2
  go_upto_region 3 with (fail)
  go_upto_region 3 with (fail)
  have HCOND : Hid (∃ cond : Bool, cond = decide (lastIx N s.label < 0 ∨ (L[(lastIx N s.label).toNat]?).map (·.l) ≠ some (leafOf branch s))) := Lib.hid ⟨_, rfl⟩
  obtain ⟨cond, hcond⟩ := HCOND.out
  have HCD := Lib.hid hcond
  clear hcond HCOND
  have hKX := lastIx_cases N s.label
  generalize hkx : lastIx N s.label = kx at *
  have HKX := Lib.hid hkx
  clear hkx
  go_cut [23] from 13 to 23 (fun v wx => v = .bool cond ∧ Hid (Below w5.heap.size w5 wx))
  case first =>
    rcases hKX with rfl | ⟨j, hj, rfl⟩
    · have hct : cond = true := by rw [HCD.out]; simp
      subst hct
      go_wp2_with fail
      go_quiet (fail)
      unfold Exit.then
      go_wp2_with fail
      go_meet
      exact ⟨rfl, Lib.hid (Below.dn (Below.refl _ _) nq)⟩
    · have hj0 : ¬ (j : Int) < 0 := by omega
      have hjL : j < L.length := by rw [HLN.out]; exact hj
      have hjL2 : (j : Int) < (L.length : Int) := by omega
      have hj1 : (0 : Int) ≤ (j : Int) := by omega
      obtain ⟨bL, oL, rfl, _, hbl, hrg, hel⟩ := h32_at HS5.out hjL
      have HCN : Hid (cond = !decide (L[j].l = leafOf branch s)) := Lib.hid (by
        rw [HCD.out, List.getElem?_eq_getElem (show ((j : Int)).toNat < L.length by omega)]
        simp only [Int.toNat_natCast, Option.map_some, Option.some.injEq, ne_eq]
        by_cases e : L[j].l = leafOf branch s <;> simp [e, hj0])
      have HNQ : Hid (∀ W, (binOp .neq 29 (.agg (L[j].l.map encB).toArray) (.agg cs)).run Tryd.prog W = .ok (.bool cond) W) := Lib.hid (fun W => by rw [← HCS.out, HCN.out]; exact run_hash_neq _ _ hel (sha_length _) W)
      have HEL : Hid ((L[j].l.map encB).length = 32) := Lib.hid (by rw [List.length_map]; exact hel)
      generalize L[j].l = el at *
      have SK : ∀ w', Below w5.heap.size w5 w' → w'.cell? ⟨O, 0, none⟩ = some (.slice (some ⟨bL, oL, none⟩) L.length c1) ∧ w'.rangeAt bL (oL + j * 32) (el.map encB) ∧ w'.heap[Hb]? = some (.cells cs 29 (0, 0)) := fun w' hb =>
        ⟨(hb.cell (p := ⟨O, 0, none⟩) HG5.out.o.lt).trans (HG5.out.o.cell 0 rfl), fun i v hv => (hb.cell (p := ⟨bL, _, none⟩) hbl).trans (hrg i v hv), (hb.block Hb (Array.getElem?_eq_some_iff.1 HH5.out).1).trans HH5.out⟩
      go_wp2_with fail
      refine wp_region_D (fun w' => w'.cell? ⟨O, 0, none⟩ = some (.slice (some ⟨bL, oL, none⟩) L.length c1) ∧ w'.rangeAt bL (oL + j * 32) (el.map encB) ∧ w'.heap[Hb]? = some (.cells cs 29 (0, 0))) (fun _ => true) (by kernel_rfl) ?_
      have hHeld := SK _ (Below.refl w5.heap.size w5).drew
      refine wpAnyE_take (i := 0) (oi := ⟨some 13, Op.move (Operand.tmp 5), 3, _, _, _⟩) (v := ?_) rfl (by kernel_rfl) (by kernel_rfl) (by kernel_rfl) (by kernel_rfl) (by kernel_rfl) (fun _ _ _ h => h) (by rfl) ?hyg30 hHeld ?hrg30
      case hyg30 => (intro wS hSw; (try dsimp only at hSw); go_simp; (try with_reducible rfl))
      all_goals try (simp only [Act.put, List.setIfInBounds_toArray, List.set_cons_zero, List.set_cons_succ])
      refine wpAnyE_take (i := 1) (oi := ⟨some 14, Op.binOp BinOp.lss 3 (Operand.tmp 13) (Operand.const (Value.int IntKind.i64 0)) 3, 4, _, _, _⟩) (v := ?_) rfl (by kernel_rfl) (by kernel_rfl) (by kernel_rfl) (by kernel_rfl) (by kernel_rfl) (fun _ _ _ h => h) (by rfl) ?hyg31 hHeld ?hrg31
      case hyg31 => (intro wS hSw; (try dsimp only at hSw); go_simp; (try with_reducible rfl))
      all_goals try (simp only [Act.put, List.setIfInBounds_toArray, List.set_cons_zero, List.set_cons_succ])
      refine wpAnyE_take (i := 2) (oi := ⟨some 15, Op.move (Operand.tmp 14), 4, _, _, _⟩) (v := ?_) rfl (by kernel_rfl) (by kernel_rfl) (by kernel_rfl) (by kernel_rfl) (by kernel_rfl) (fun _ _ _ h => h) (by rfl) ?hyg32 hHeld ?hrg32
      case hyg32 => (intro wS hSw; (try dsimp only at hSw); go_simp; (try with_reducible rfl))
      all_goals try (simp only [Act.put, List.setIfInBounds_toArray, List.set_cons_zero, List.set_cons_succ])
      refine wpAnyE_take (i := 3) (oi := ⟨some 16, Op.fieldAddr 36 (Operand.tmp 2) 0, 0, _, _, _⟩) (v := ?_) rfl (by kernel_rfl) (by kernel_rfl) (by kernel_rfl) (by kernel_rfl) (by kernel_rfl) (fun _ _ _ h => h) (by rfl) ?hyg33 hHeld ?hrg33
      case hyg33 => (intro wS hSw; (try dsimp only at hSw); go_simp; (try with_reducible rfl))
      all_goals try (simp only [Act.put, List.setIfInBounds_toArray, List.set_cons_zero, List.set_cons_succ])
      refine wpAnyE_take (i := 4) (oi := ⟨some 17, Op.load 34 (Operand.tmp 16), 34, _, _, _⟩) (v := ?_) rfl (by kernel_rfl) (by kernel_rfl) (by kernel_rfl) (by kernel_rfl) (by kernel_rfl) (fun _ _ _ h => h) (by rfl) ?hyg34 hHeld ?hrg34
      case hyg34 => (intro wS hSw; (try dsimp only at hSw); go_simp; (try with_reducible rfl))
      all_goals try (simp only [Act.put, List.setIfInBounds_toArray, List.set_cons_zero, List.set_cons_succ])
      refine wpAnyE_take (i := 5) (oi := ⟨some 18, Op.move (Operand.tmp 5), 3, _, _, _⟩) (v := ?_) rfl (by kernel_rfl) (by kernel_rfl) (by kernel_rfl) (by kernel_rfl) (by kernel_rfl) (fun _ _ _ h => h) (by rfl) ?hyg35 hHeld ?hrg35
      case hyg35 => (intro wS hSw; (try dsimp only at hSw); go_simp; (try with_reducible rfl))
      all_goals try (simp only [Act.put, List.setIfInBounds_toArray, List.set_cons_zero, List.set_cons_succ])
      refine wpAnyE_take (i := 6) (oi := ⟨some 19, Op.indexAddr 34 (Operand.tmp 17) (Operand.tmp 18), 0, _, _, _⟩) (v := ?_) rfl (by kernel_rfl) (by kernel_rfl) (by kernel_rfl) (by kernel_rfl) (by kernel_rfl) (fun _ _ _ h => h) (by rfl) ?hyg36 hHeld ?hrg36
      case hyg36 => (intro wS hSw; (try dsimp only at hSw); go_simp; (try with_reducible rfl))
      all_goals try (simp only [Act.put, List.setIfInBounds_toArray, List.set_cons_zero, List.set_cons_succ])
      refine wpAnyE_take (i := 7) (oi := ⟨some 20, Op.load 29 (Operand.tmp 19), 29, _, _, _⟩) (v := ?_) rfl (by kernel_rfl) (by kernel_rfl) (by kernel_rfl) (by kernel_rfl) (by kernel_rfl) (fun _ _ _ h => h) (by rfl) ?hyg37 hHeld ?hrg37
      case hyg37 => (intro wS hSw; refine exec_load_mid 29 (.tmp 19) ?_ bL (oL + j * 32) ?_ (el.map encB) _ hSw.2.1 Tryd.underlying29 ?_ ?_; rfl; rfl; rfl; (rw [HEL.out]; kernel_rfl))
      all_goals try (simp only [Act.put, List.setIfInBounds_toArray, List.set_cons_zero, List.set_cons_succ])
      refine wpAnyE_take (i := 8) (oi := ⟨some 21, Op.load 29 (Operand.tmp 4), 29, _, _, _⟩) (v := ?_) rfl (by kernel_rfl) (by kernel_rfl) (by kernel_rfl) (by kernel_rfl) (by kernel_rfl) (fun _ _ _ h => h) (by rfl) ?hyg38 hHeld ?hrg38
      case hyg38 => (intro wS hSw; refine exec_load_row 29 (.tmp 4) ?_ Hb ?_ 29 cs (0, 0) _ hSw.2.2 Tryd.underlying29 ?_ ?_; rfl; rfl; rfl; (rw [HSZ2.out]; kernel_rfl))
      all_goals try (simp only [Act.put, List.setIfInBounds_toArray, List.set_cons_zero, List.set_cons_succ])
      refine wpAnyE_take (i := 9) (oi := ⟨some 22, Op.binOp BinOp.neq 29 (Operand.tmp 20) (Operand.tmp 21) 29, 4, _, _, _⟩) (v := ?_) rfl (by kernel_rfl) (by kernel_rfl) (by kernel_rfl) (by kernel_rfl) (by kernel_rfl) (fun _ _ _ h => h) (by rfl) ?hyg39 hHeld ?hrg39
      case hyg39 => (intro wS hSw; refine exec_neq 29 29 (.tmp 20) (.tmp 21) ?_ (el.map encB).toArray cs ?_ ?_ guard_h cond (HNQ.out wS); rfl; rfl; rfl)
      all_goals try (simp only [Act.put, List.setIfInBounds_toArray, List.set_cons_zero, List.set_cons_succ])
      refine wpAnyE_take (i := 10) (oi := ⟨some 23, Op.pick (Operand.tmp 15) (Operand.const (Value.bool true)) (Operand.tmp 22), 4, _, _, _⟩) (v := ?_) rfl (by kernel_rfl) (by kernel_rfl) (by kernel_rfl) (by kernel_rfl) (by kernel_rfl) (fun _ _ _ h => h) (by rfl) ?hyg310 hHeld ?hrg310
      case hyg310 => (intro wS hSw; (try dsimp only at hSw); go_simp; (try with_reducible rfl))
      all_goals try (simp only [Act.put, List.setIfInBounds_toArray, List.set_cons_zero, List.set_cons_succ])
      refine wpAnyD_done (by kernel_rfl) ?_ _
      unfold Exit.then
      go_wp2_with fail
      go_meet
      have hjf : decide ((j : Int) < 0) = false := decide_eq_false (by omega)
      exact ⟨by rw [hjf, Bool.false_or], Lib.hid (Below.refl _ _).drew⟩
  case rest =>
    obtain ⟨rfl, hbc⟩ := hcut
    have HG6 := Lib.hid (HG5.out.to hbc.out)
    have HD6 := Lib.hid (HD5.out.to hbc.out)
    have HH6 : Hid (wc.heap[Hb]? = some (.cells cs 29 (0, 0))) := Lib.hid ((hbc.out.block Hb (Array.getElem?_eq_some_iff.1 HH5.out).1).trans HH5.out)
    have HB6 := Lib.hid (HB5.out.trans (hbc.out.mono HG5.out.bs))
    clear hbc HG5 HD5 HH5 HB5 HS5
    cases cond with
    | false =>
      have HAO : Hid (addOne branch (L, N) s = (L, N)) := Lib.hid (by
        unfold addOne
        simp only [HKX.out]
        rw [if_neg (by simpa using HCD.out.symm)])
      go_wp2_with fail
      go_end0
      exact ⟨rfl, _, _, by rw [HAO.out]; exact HG6.out, HB6.out⟩
    | true =>
      have HAO : Hid (addOne branch (L, N) s = (L ++ [⟨leafOf branch s⟩], N ++ [s.label])) := Lib.hid (by
        unfold addOne
        simp only [HKX.out]
        rw [if_pos (by simpa using HCD.out.symm)])
      have SP : ∀ (w' : World) (u1 u2 : Value) (L' : List H32) (N' : List ByteArray), PL wc w' base (.slice A1 L.length c1) (.slice A2 N.length c2) u1 u2 L' N' → w'.cell? ⟨O, 0, none⟩ = some (.slice A1 L.length c1) ∧ w'.cell? ⟨O, 1, none⟩ = some (.slice A2 N.length c2) ∧ w'.heap[Hb]? = some (.cells cs 29 (0, 0)) ∧ w'.cell? ⟨D, 0, none⟩ = some (.string s.label) := fun w' u1 u2 L' N' h => by
        have hb := h.box HG6.out
        have hd : ABox w' D 24 [.string s.label, .slice A s.body.length c, .slice B s.notes.length d] := (h.block D HD6.out.lt (fun e => by have := HRD.out D (.inl e.symm); omega) (fun e => by have := HRD.out D (.inr e.symm); omega)).trans HD6.out
        exact ⟨hb.cell 0 rfl, hb.cell 1 rfl, (h.block Hb (Array.getElem?_eq_some_iff.1 HH6.out).1 (fun e => by have := HHN.out Hb (.inl e.symm); omega) (fun e => by have := HHN.out Hb (.inr e.symm); omega)).trans HH6.out, hd.cell 0 rfl⟩
      go_wp2_with fail
      refine wp_region_D (fun w' => w'.cell? ⟨O, 0, none⟩ = some (.slice A1 L.length c1) ∧ w'.cell? ⟨O, 1, none⟩ = some (.slice A2 N.length c2) ∧ w'.heap[Hb]? = some (.cells cs 29 (0, 0)) ∧ w'.cell? ⟨D, 0, none⟩ = some (.string s.label)) (fun i => decide (i < 12)) (by kernel_rfl) ?_
      have hp0 := Lib.hid (PL.start HG6.out)
      have hHeld := SP _ _ _ _ _ hp0.out
      generalize wc.drew = W0 at *
      refine wpAnyE_take (i := 0) (oi := ⟨some 24, Op.fieldAddr 36 (Operand.tmp 2) 0, 0, _, _, _⟩) (v := ?_) rfl (by kernel_rfl) (by kernel_rfl) (by kernel_rfl) (by kernel_rfl) (by kernel_rfl) (fun _ _ _ h => h) (by rfl) ?hyp40 hHeld ?hrp40
      case hyp40 => (intro wS hSw; (try dsimp only at hSw); go_simp; (try with_reducible rfl))
      all_goals try (simp only [Act.put, List.setIfInBounds_toArray, List.set_cons_zero, List.set_cons_succ])
      refine wpAnyE_take (i := 1) (oi := ⟨some 25, Op.load 34 (Operand.tmp 24), 34, _, _, _⟩) (v := ?_) rfl (by kernel_rfl) (by kernel_rfl) (by kernel_rfl) (by kernel_rfl) (by kernel_rfl) (fun _ _ _ h => h) (by rfl) ?hyp41 hHeld ?hrp41
      case hyp41 => (intro wS hSw; (try dsimp only at hSw); go_simp; (try with_reducible rfl))
      all_goals try (simp only [Act.put, List.setIfInBounds_toArray, List.set_cons_zero, List.set_cons_succ])
      refine wpAnyE_take (i := 2) (oi := ⟨some 26, Op.load 29 (Operand.tmp 4), 29, _, _, _⟩) (v := ?_) rfl (by kernel_rfl) (by kernel_rfl) (by kernel_rfl) (by kernel_rfl) (by kernel_rfl) (fun _ _ _ h => h) (by rfl) ?hyp42 hHeld ?hrp42
      case hyp42 => (intro wS hSw; refine exec_load_row 29 (.tmp 4) ?_ Hb ?_ 29 cs (0, 0) _ hSw.2.2.1 Tryd.underlying29 ?_ ?_; rfl; rfl; rfl; (rw [HSZ2.out]; kernel_rfl))
      all_goals try (simp only [Act.put, List.setIfInBounds_toArray, List.set_cons_zero, List.set_cons_succ])
      refine wpAnyE_take (i := 5) (oi := ⟨some 29, Op.fieldAddr 36 (Operand.tmp 2) 1, 0, _, _, _⟩) (v := ?_) rfl (by kernel_rfl) (by kernel_rfl) (by kernel_rfl) (by kernel_rfl) (by kernel_rfl) (fun _ _ _ h => h) (by rfl) ?hyp45 hHeld ?hrp45
      case hyp45 => (intro wS hSw; (try dsimp only at hSw); go_simp; (try with_reducible rfl))
      all_goals try (simp only [Act.put, List.setIfInBounds_toArray, List.set_cons_zero, List.set_cons_succ])
      refine wpAnyE_take (i := 6) (oi := ⟨some 30, Op.load 22 (Operand.tmp 29), 22, _, _, _⟩) (v := ?_) rfl (by kernel_rfl) (by kernel_rfl) (by kernel_rfl) (by kernel_rfl) (by kernel_rfl) (fun _ _ _ h => h) (by rfl) ?hyp46 hHeld ?hrp46
      case hyp46 => (intro wS hSw; (try dsimp only at hSw); go_simp; (try with_reducible rfl))
      all_goals try (simp only [Act.put, List.setIfInBounds_toArray, List.set_cons_zero, List.set_cons_succ])
      refine wpAnyE_take (i := 7) (oi := ⟨some 31, Op.fieldAddr 24 (Operand.tmp 3) 0, 0, _, _, _⟩) (v := ?_) rfl (by kernel_rfl) (by kernel_rfl) (by kernel_rfl) (by kernel_rfl) (by kernel_rfl) (fun _ _ _ h => h) (by rfl) ?hyp47 hHeld ?hrp47
      case hyp47 => (intro wS hSw; (try dsimp only at hSw); go_simp; (try with_reducible rfl))
      all_goals try (simp only [Act.put, List.setIfInBounds_toArray, List.set_cons_zero, List.set_cons_succ])
      refine wpAnyE_take (i := 8) (oi := ⟨some 32, Op.load 9 (Operand.tmp 31), 9, _, _, _⟩) (v := ?_) rfl (by kernel_rfl) (by kernel_rfl) (by kernel_rfl) (by kernel_rfl) (by kernel_rfl) (fun _ _ _ h => h) (by rfl) ?hyp48 hHeld ?hrp48
      case hyp48 => (intro wS hSw; (try dsimp only at hSw); go_simp; (try with_reducible rfl))
      all_goals try (simp only [Act.put, List.setIfInBounds_toArray, List.set_cons_zero, List.set_cons_succ])
      refine wpAnyD_two (i := 3) (j := 9) (oi := ⟨some 27, Op.buildSlice 34 1 #[(0, Operand.tmp 26)], 34, _, _, _⟩) (oj := ⟨some 33, Op.buildSlice 22 1 #[(0, Operand.tmp 32)], 22, _, _, _⟩) (by kernel_rfl) rfl rfl (by rfl) (by rfl) (fun K hK => ?_) (fun K hK => ?_)
      · refine wp_build1 (.tmp 26) rfl cs rfl HSZ2.out ?_
        refine hK _ _ (fun _ => ?_) ?_
        · exact SP _ _ _ _ _ ((hp0.out).alloc (.cells cs 29))
        clear hK K hHeld
        have hp1 := Lib.hid (hp0.out.alloc (.cells cs 29))
        have hl1 := Lib.hid (hp0.out.lit cs 29)
        generalize W0.heap.size = B1 at *
        generalize W0.alloc (.cells cs 29) = W1 at *
        have hHeld := SP _ _ _ _ _ hp1.out
        try simp only [Act.put, List.setIfInBounds_toArray, List.set_cons_zero, List.set_cons_succ]
        refine wpAnyD_two (i := 4) (j := 9) (oi := ⟨some 28, Op.call { callee := Callee.builtin Builtin.append, args := #[Operand.tmp 25, Operand.tmp 27], argTypes := #[34, 34] }, 34, _, _, _⟩) (oj := ⟨some 33, Op.buildSlice 22 1 #[(0, Operand.tmp 32)], 22, _, _, _⟩) (by kernel_rfl) rfl rfl (by rfl) (by rfl) (fun K hK => ?_) (fun K hK => ?_)
        · refine wp_push (α := H32) _ (.tmp 25) (.tmp 27) 34 rfl base 29 (.agg (zer32.map encB).toArray) 32 Tryd.underlying34 h_info rfl (by decide) (.slice A1 L.length c1) L rfl hp1.out.l B1 cs ⟨leafOf branch s⟩ (0, 0) 29 rfl hl1.out.b ⟨by rw [← HCS.out], sha_length _⟩ (by have := HLM.out; omega) (by have := HLM.out; omega) hp1.out.bs _ rfl ?_
          intro g2 p2 W2 hown2 hg2 hat2 hlt2
          have hp2 := Lib.hid (hp1.out.push1 hown2 hg2 hat2)
          refine hK _ _ (fun _ => ?_) ?_
          · exact SP _ _ _ _ _ hp2.out
          clear hK K hHeld
          have hHeld := SP _ _ _ _ _ hp2.out
          try simp only [Act.put, List.setIfInBounds_toArray, List.set_cons_zero, List.set_cons_succ]
          refine wpAnyE_take (i := 11) (oi := ⟨some 35, Op.fieldAddr 36 (Operand.tmp 2) 0, 0, _, _, _⟩) (v := ?_) rfl (by kernel_rfl) (by kernel_rfl) (by kernel_rfl) (by kernel_rfl) (by kernel_rfl) (fun _ _ _ h => h) (by rfl) ?hyqA111 hHeld ?hrqA111
          case hyqA111 => (intro wS hSw; (try dsimp only at hSw); go_simp; (try with_reducible rfl))
          all_goals try (simp only [Act.put, List.setIfInBounds_toArray, List.set_cons_zero, List.set_cons_succ])
          refine wpAnyD_one (i := 9) (oi := ⟨some 33, Op.buildSlice 22 1 #[(0, Operand.tmp 32)], 22, _, _, _⟩) rfl (by kernel_rfl) (by rfl) (fun K hK => ?_)
          go_simp
          refine hK _ _ (fun _ => ?_) ?_
          · exact SP _ _ _ _ _ ((hp2.out).alloc (.cells #[.string s.label] 9))
          clear hK K hHeld
          have hp3 := Lib.hid (hp2.out.alloc (.cells #[.string s.label] 9))
          have hl3 := Lib.hid (hp2.out.lit #[.string s.label] 9)
          generalize W2.heap.size = B3 at *
          generalize W2.alloc (.cells #[.string s.label] 9) = W3 at *
          have hHeld := SP _ _ _ _ _ hp3.out
          try simp only [Act.put, List.setIfInBounds_toArray, List.set_cons_zero, List.set_cons_succ]
          refine wpAnyD_one (i := 10) (oi := ⟨some 34, Op.call { callee := Callee.builtin Builtin.append, args := #[Operand.tmp 30, Operand.tmp 33], argTypes := #[22, 22] }, 22, _, _, _⟩) rfl (by kernel_rfl) (by rfl) (fun K hK => ?_)
          refine wp_push (α := ByteArray) _ (.tmp 30) (.tmp 33) 22 rfl base 9 (.string ⟨#[]⟩) 16 Tryd.underlying22 s_info rfl (by decide) (.slice A2 N.length c2) N rfl hp3.out.n B3 #[.string s.label] s.label (0, 0) 9 rfl hl3.out.b rfl (by have := HLM.out; have := HLN.out; omega) (by have := HLM.out; have := HLN.out; omega) hp3.out.bs _ rfl ?_
          intro g4 p4 W4 hown4 hg4 hat4 hlt4
          have hp4 := Lib.hid (hp3.out.push2 hown4 hg4 hat4)
          refine hK _ _ (fun _ => ?_) ?_
          · exact SP _ _ _ _ _ hp4.out
          clear hK K hHeld
          try simp only [Act.put, List.setIfInBounds_toArray, List.set_cons_zero, List.set_cons_succ]
          obtain ⟨hlg, hbl9⟩ := hp4.out.finish HG6.out
          have hko := (hp4.out.box HG6.out)
          have k90 := hko.cell 0 rfl
          have f90 := hko.fz
          have k91 := (hko.set 0 (.slice (some ⟨g2, 0, none⟩) (L.length + 1) p2)).cell 1 rfl
          have f91 := (hko.set 0 (.slice (some ⟨g2, 0, none⟩) (L.length + 1) p2)).fz
          refine wpAnyD_one (i := 12) (oi := ⟨none, Op.store 34 (Operand.tmp 35) (Operand.tmp 28), 0, _, _, _⟩) rfl (by kernel_rfl) (by rfl) (fun K hK => ?_)
          go_simp
          refine hK _ _ (fun h => absurd h (by decide)) ?_
          clear hK K
          try simp only [Act.put, List.setIfInBounds_toArray, List.set_cons_zero, List.set_cons_succ]
          refine wpAnyD_one (i := 13) (oi := ⟨some 36, Op.fieldAddr 36 (Operand.tmp 2) 1, 0, _, _, _⟩) rfl (by kernel_rfl) (by rfl) (fun K hK => ?_)
          go_simp
          refine hK _ _ (fun h => absurd h (by decide)) ?_
          clear hK K
          try simp only [Act.put, List.setIfInBounds_toArray, List.set_cons_zero, List.set_cons_succ]
          refine wpAnyD_one (i := 14) (oi := ⟨none, Op.store 22 (Operand.tmp 36) (Operand.tmp 34), 0, _, _, _⟩) rfl (by kernel_rfl) (by rfl) (fun K hK => ?_)
          go_simp
          refine hK _ _ (fun h => absurd h (by decide)) ?_
          clear hK K
          try simp only [Act.put, List.setIfInBounds_toArray, List.set_cons_zero, List.set_cons_succ]
          refine wpAnyD_done (by kernel_rfl) ?_ _
          go_end0
          exact ⟨rfl, _, _, by rw [HAO.out]; exact hlg, HB6.out.trans hbl9⟩
        · go_simp
          refine hK _ _ (fun _ => ?_) ?_
          · exact SP _ _ _ _ _ ((hp1.out).alloc (.cells #[.string s.label] 9))
          clear hK K hHeld
          have hp2 := Lib.hid (hp1.out.alloc (.cells #[.string s.label] 9))
          have hl2 := Lib.hid (hp1.out.lit #[.string s.label] 9)
          have hl12 := Lib.hid (hl1.out.alloc (.cells #[.string s.label] 9))
          generalize W1.heap.size = B2 at *
          generalize W1.alloc (.cells #[.string s.label] 9) = W2 at *
          have hHeld := SP _ _ _ _ _ hp2.out
          try simp only [Act.put, List.setIfInBounds_toArray, List.set_cons_zero, List.set_cons_succ]
          refine wpAnyD_one (i := 4) (oi := ⟨some 28, Op.call { callee := Callee.builtin Builtin.append, args := #[Operand.tmp 25, Operand.tmp 27], argTypes := #[34, 34] }, 34, _, _, _⟩) rfl (by kernel_rfl) (by rfl) (fun K hK => ?_)
          refine wp_push (α := H32) _ (.tmp 25) (.tmp 27) 34 rfl base 29 (.agg (zer32.map encB).toArray) 32 Tryd.underlying34 h_info rfl (by decide) (.slice A1 L.length c1) L rfl hp2.out.l B1 cs ⟨leafOf branch s⟩ (0, 0) 29 rfl hl12.out.b ⟨by rw [← HCS.out], sha_length _⟩ (by have := HLM.out; omega) (by have := HLM.out; omega) hp2.out.bs _ rfl ?_
          intro g3 p3 W3 hown3 hg3 hat3 hlt3
          have hp3 := Lib.hid (hp2.out.push1 hown3 hg3 hat3)
          have hl23 := Lib.hid (LT.push1 (m := L.length + 1) (cap := p3) hl2.out hg3 hat3)
          refine hK _ _ (fun _ => ?_) ?_
          · exact SP _ _ _ _ _ hp3.out
          clear hK K hHeld
          have hHeld := SP _ _ _ _ _ hp3.out
          try simp only [Act.put, List.setIfInBounds_toArray, List.set_cons_zero, List.set_cons_succ]
          refine wpAnyE_take (i := 11) (oi := ⟨some 35, Op.fieldAddr 36 (Operand.tmp 2) 0, 0, _, _, _⟩) (v := ?_) rfl (by kernel_rfl) (by kernel_rfl) (by kernel_rfl) (by kernel_rfl) (by kernel_rfl) (fun _ _ _ h => h) (by rfl) ?hyqA211 hHeld ?hrqA211
          case hyqA211 => (intro wS hSw; (try dsimp only at hSw); go_simp; (try with_reducible rfl))
          all_goals try (simp only [Act.put, List.setIfInBounds_toArray, List.set_cons_zero, List.set_cons_succ])
          refine wpAnyD_one (i := 10) (oi := ⟨some 34, Op.call { callee := Callee.builtin Builtin.append, args := #[Operand.tmp 30, Operand.tmp 33], argTypes := #[22, 22] }, 22, _, _, _⟩) rfl (by kernel_rfl) (by rfl) (fun K hK => ?_)
          refine wp_push (α := ByteArray) _ (.tmp 30) (.tmp 33) 22 rfl base 9 (.string ⟨#[]⟩) 16 Tryd.underlying22 s_info rfl (by decide) (.slice A2 N.length c2) N rfl hp3.out.n B2 #[.string s.label] s.label (0, 0) 9 rfl hl23.out.b rfl (by have := HLM.out; have := HLN.out; omega) (by have := HLM.out; have := HLN.out; omega) hp3.out.bs _ rfl ?_
          intro g4 p4 W4 hown4 hg4 hat4 hlt4
          have hp4 := Lib.hid (hp3.out.push2 hown4 hg4 hat4)
          refine hK _ _ (fun _ => ?_) ?_
          · exact SP _ _ _ _ _ hp4.out
          clear hK K hHeld
          try simp only [Act.put, List.setIfInBounds_toArray, List.set_cons_zero, List.set_cons_succ]
          obtain ⟨hlg, hbl9⟩ := hp4.out.finish HG6.out
          have hko := (hp4.out.box HG6.out)
          have k90 := hko.cell 0 rfl
          have f90 := hko.fz
          have k91 := (hko.set 0 (.slice (some ⟨g3, 0, none⟩) (L.length + 1) p3)).cell 1 rfl
          have f91 := (hko.set 0 (.slice (some ⟨g3, 0, none⟩) (L.length + 1) p3)).fz
          refine wpAnyD_one (i := 12) (oi := ⟨none, Op.store 34 (Operand.tmp 35) (Operand.tmp 28), 0, _, _, _⟩) rfl (by kernel_rfl) (by rfl) (fun K hK => ?_)
          go_simp
          refine hK _ _ (fun h => absurd h (by decide)) ?_
          clear hK K
          try simp only [Act.put, List.setIfInBounds_toArray, List.set_cons_zero, List.set_cons_succ]
          refine wpAnyD_one (i := 13) (oi := ⟨some 36, Op.fieldAddr 36 (Operand.tmp 2) 1, 0, _, _, _⟩) rfl (by kernel_rfl) (by rfl) (fun K hK => ?_)
          go_simp
          refine hK _ _ (fun h => absurd h (by decide)) ?_
          clear hK K
          try simp only [Act.put, List.setIfInBounds_toArray, List.set_cons_zero, List.set_cons_succ]
          refine wpAnyD_one (i := 14) (oi := ⟨none, Op.store 22 (Operand.tmp 36) (Operand.tmp 34), 0, _, _, _⟩) rfl (by kernel_rfl) (by rfl) (fun K hK => ?_)
          go_simp
          refine hK _ _ (fun h => absurd h (by decide)) ?_
          clear hK K
          try simp only [Act.put, List.setIfInBounds_toArray, List.set_cons_zero, List.set_cons_succ]
          refine wpAnyD_done (by kernel_rfl) ?_ _
          go_end0
          exact ⟨rfl, _, _, by rw [HAO.out]; exact hlg, HB6.out.trans hbl9⟩
      · go_simp
        refine hK _ _ (fun _ => ?_) ?_
        · exact SP _ _ _ _ _ ((hp0.out).alloc (.cells #[.string s.label] 9))
        clear hK K hHeld
        have hp1 := Lib.hid (hp0.out.alloc (.cells #[.string s.label] 9))
        have hl1 := Lib.hid (hp0.out.lit #[.string s.label] 9)
        generalize W0.heap.size = B1 at *
        generalize W0.alloc (.cells #[.string s.label] 9) = W1 at *
        have hHeld := SP _ _ _ _ _ hp1.out
        try simp only [Act.put, List.setIfInBounds_toArray, List.set_cons_zero, List.set_cons_succ]
        refine wpAnyD_one (i := 3) (oi := ⟨some 27, Op.buildSlice 34 1 #[(0, Operand.tmp 26)], 34, _, _, _⟩) rfl (by kernel_rfl) (by rfl) (fun K hK => ?_)
        refine wp_build1 (.tmp 26) rfl cs rfl HSZ2.out ?_
        refine hK _ _ (fun _ => ?_) ?_
        · exact SP _ _ _ _ _ ((hp1.out).alloc (.cells cs 29))
        clear hK K hHeld
        have hp2 := Lib.hid (hp1.out.alloc (.cells cs 29))
        have hl2 := Lib.hid (hp1.out.lit cs 29)
        have hl12 := Lib.hid (hl1.out.alloc (.cells cs 29))
        generalize W1.heap.size = B2 at *
        generalize W1.alloc (.cells cs 29) = W2 at *
        have hHeld := SP _ _ _ _ _ hp2.out
        try simp only [Act.put, List.setIfInBounds_toArray, List.set_cons_zero, List.set_cons_succ]
        refine wpAnyD_one (i := 4) (oi := ⟨some 28, Op.call { callee := Callee.builtin Builtin.append, args := #[Operand.tmp 25, Operand.tmp 27], argTypes := #[34, 34] }, 34, _, _, _⟩) rfl (by kernel_rfl) (by rfl) (fun K hK => ?_)
        refine wp_push (α := H32) _ (.tmp 25) (.tmp 27) 34 rfl base 29 (.agg (zer32.map encB).toArray) 32 Tryd.underlying34 h_info rfl (by decide) (.slice A1 L.length c1) L rfl hp2.out.l B2 cs ⟨leafOf branch s⟩ (0, 0) 29 rfl hl2.out.b ⟨by rw [← HCS.out], sha_length _⟩ (by have := HLM.out; omega) (by have := HLM.out; omega) hp2.out.bs _ rfl ?_
        intro g3 p3 W3 hown3 hg3 hat3 hlt3
        have hp3 := Lib.hid (hp2.out.push1 hown3 hg3 hat3)
        have hl123 := Lib.hid (LT.push1 (m := L.length + 1) (cap := p3) hl12.out hg3 hat3)
        refine hK _ _ (fun _ => ?_) ?_
        · exact SP _ _ _ _ _ hp3.out
        clear hK K hHeld
        have hHeld := SP _ _ _ _ _ hp3.out
        try simp only [Act.put, List.setIfInBounds_toArray, List.set_cons_zero, List.set_cons_succ]
        refine wpAnyE_take (i := 11) (oi := ⟨some 35, Op.fieldAddr 36 (Operand.tmp 2) 0, 0, _, _, _⟩) (v := ?_) rfl (by kernel_rfl) (by kernel_rfl) (by kernel_rfl) (by kernel_rfl) (by kernel_rfl) (fun _ _ _ h => h) (by rfl) ?hyqB11 hHeld ?hrqB11
        case hyqB11 => (intro wS hSw; (try dsimp only at hSw); go_simp; (try with_reducible rfl))
        all_goals try (simp only [Act.put, List.setIfInBounds_toArray, List.set_cons_zero, List.set_cons_succ])
        refine wpAnyD_one (i := 10) (oi := ⟨some 34, Op.call { callee := Callee.builtin Builtin.append, args := #[Operand.tmp 30, Operand.tmp 33], argTypes := #[22, 22] }, 22, _, _, _⟩) rfl (by kernel_rfl) (by rfl) (fun K hK => ?_)
        refine wp_push (α := ByteArray) _ (.tmp 30) (.tmp 33) 22 rfl base 9 (.string ⟨#[]⟩) 16 Tryd.underlying22 s_info rfl (by decide) (.slice A2 N.length c2) N rfl hp3.out.n B1 #[.string s.label] s.label (0, 0) 9 rfl hl123.out.b rfl (by have := HLM.out; have := HLN.out; omega) (by have := HLM.out; have := HLN.out; omega) hp3.out.bs _ rfl ?_
        intro g4 p4 W4 hown4 hg4 hat4 hlt4
        have hp4 := Lib.hid (hp3.out.push2 hown4 hg4 hat4)
        refine hK _ _ (fun _ => ?_) ?_
        · exact SP _ _ _ _ _ hp4.out
        clear hK K hHeld
        try simp only [Act.put, List.setIfInBounds_toArray, List.set_cons_zero, List.set_cons_succ]
        obtain ⟨hlg, hbl9⟩ := hp4.out.finish HG6.out
        have hko := (hp4.out.box HG6.out)
        have k90 := hko.cell 0 rfl
        have f90 := hko.fz
        have k91 := (hko.set 0 (.slice (some ⟨g3, 0, none⟩) (L.length + 1) p3)).cell 1 rfl
        have f91 := (hko.set 0 (.slice (some ⟨g3, 0, none⟩) (L.length + 1) p3)).fz
        refine wpAnyD_one (i := 12) (oi := ⟨none, Op.store 34 (Operand.tmp 35) (Operand.tmp 28), 0, _, _, _⟩) rfl (by kernel_rfl) (by rfl) (fun K hK => ?_)
        go_simp
        refine hK _ _ (fun h => absurd h (by decide)) ?_
        clear hK K
        try simp only [Act.put, List.setIfInBounds_toArray, List.set_cons_zero, List.set_cons_succ]
        refine wpAnyD_one (i := 13) (oi := ⟨some 36, Op.fieldAddr 36 (Operand.tmp 2) 1, 0, _, _, _⟩) rfl (by kernel_rfl) (by rfl) (fun K hK => ?_)
        go_simp
        refine hK _ _ (fun h => absurd h (by decide)) ?_
        clear hK K
        try simp only [Act.put, List.setIfInBounds_toArray, List.set_cons_zero, List.set_cons_succ]
        refine wpAnyD_one (i := 14) (oi := ⟨none, Op.store 22 (Operand.tmp 36) (Operand.tmp 34), 0, _, _, _⟩) rfl (by kernel_rfl) (by rfl) (fun K hK => ?_)
        go_simp
        refine hK _ _ (fun h => absurd h (by decide)) ?_
        clear hK K
        try simp only [Act.put, List.setIfInBounds_toArray, List.set_cons_zero, List.set_cons_succ]
        refine wpAnyD_done (by kernel_rfl) ?_ _
        go_end0
        exact ⟨rfl, _, _, by rw [HAO.out]; exact hlg, HB6.out.trans hbl9⟩
end Go.Proofs.YthcklfelofpffaaDoor
