/- The reference of SHA-256: the bits, the constants, the schedule of a block. No condition. -/
import Derived.Test.YthcklfelofpffaaDoorCerW30
import Derived.Laws.Tables
namespace Go.Proofs.YthcklfelofpffaaDoor
open Go.RowKit
def cb (c : UInt8) : W32 := BitVec.ofNat 32 c.toNat
theorem u_cb (c : UInt8) : u (cb c) = (c.toNat : Int) := by
  unfold u cb; rw [BitVec.toNat_ofNat, Nat.mod_eq_of_lt (Nat.lt_of_lt_of_le c.toNat_lt (by decide))]
theorem ch_eq (e f g : W32) : (e &&& f) ^^^ (~~~e &&& g) = chW e f g := by
  unfold chW
  ext i hi
  simp only [BitVec.getElem_xor, BitVec.getElem_and, BitVec.getElem_not]
  cases e[i] <;> cases f[i] <;> cases g[i] <;> rfl
theorem maj_eq (a b c : W32) : ((a &&& b) ^^^ (a &&& c)) ^^^ (b &&& c) = majW a b c := by
  unfold majW
  ext i hi
  simp only [BitVec.getElem_xor, BitVec.getElem_and, BitVec.getElem_or]
  cases a[i] <;> cases b[i] <;> cases c[i] <;> rfl
theorem word_eq (b : List UInt8) (k : Nat) : (((cb (b.getD (4 * k) 0) <<< 24) ||| (cb (b.getD (4 * k + 1) 0) <<< 16)) ||| (cb (b.getD (4 * k + 2) 0) <<< 8)) ||| cb (b.getD (4 * k + 3) 0) = word16 b k := by
  unfold word16 put8 cb
  have h0 : ∀ n : Nat, (0 : W32) <<< n = 0 := fun n => by simp
  have h1 : ∀ x : W32, 0 ||| x = x := fun x => by simp
  simp only [h0, h1, BitVec.shiftLeft_or_distrib, ← BitVec.shiftLeft_add]
theorem rotr_or (x : W32) (n : Nat) : (x >>> n) ||| (x <<< (32 - n)) = rotr x n := by
  unfold rotr; exact BitVec.or_comm _ _
theorem u_not (a : W32) : IntKind.u32.wrap (-(u a) - 1) = u (~~~a) := by
  rw [wrap_u32]; unfold u; rw [BitVec.toNat_not]; have := a.isLt; omega
set_option maxHeartbeats 400000 in
theorem rrot_any (x : W32) (n : Nat) (h1 : 1 ≤ n) (hn : n ≤ 31) (w : World) :
    Calls Tryd.prog 106 #[.int .u32 (u x), .int .i64 (n : Int)] w fun e w' => e = .returned (.int .u32 (u (rotr x n))) ∧ Below w.heap.size w w' := by
  have hb := u_bd x
  have q1 := u_shr x n
  have q2 := u_shl x (32 - n)
  have q3 := u_or (x >>> n) (x <<< (32 - n))
  rw [rotr_or] at q3
  obtain ⟨m, hm⟩ : ∃ m : Nat, (m : Int) = 32 - (n : Int) := ⟨32 - n, by omega⟩
  have hmn : 32 - n = m := by omega
  rw [hmn] at q2 q3
  have hm1 : (m : Int) ≤ 31 := by omega
  have hm0 : (0 : Int) ≤ (m : Int) := by omega
  have hn1 : (n : Int) ≤ 31 := by omega
  have hw : IntKind.i64.wrap (32 - (n : Int)) = (m : Int) := by rw [IntWalk.i64_in _ (by omega)]; omega
  have hw2 : (32 : Int) - (n : Int) = (m : Int) := by omega
  clear hm hmn
  go_enter Tryd.func106, Tryd.ntmps106
  go_wp2_with fail
  refine wp_region_calm (by kernel_rfl) (by kernel_rfl) ?_
  intro T5 hT5 f hf hg
  have HF := Lib.hid hf
  clear hf hg
  repeat (go_big_quiet_step (fail))
  refine wpQuiet_nil ?_
  rintro _ ⟨nq, rfl⟩
  unfold Exit.then
  go_wp2_with fail
  go_ret
  exact ⟨rfl, HF.out nq⟩
/-- An array of words as a value. -/
def wordsV (l : List W32) : Value := .agg (l.map enc32).toArray
theorem words_one (l : List W32) : (l.map enc32).toArray.all (·.oneCell') = true := by
  rw [List.all_toArray, List.all_map]; exact List.all_eq_true.2 fun _ _ => rfl
theorem words_size (l : List W32) : (l.map enc32).toArray.size = l.length := by simp
set_option maxRecDepth 100000 in
theorem first_any (w : World) : Calls Tryd.prog 101 #[] w fun e w' => e = .returned (wordsV H0) ∧ Below w.heap.size w w' := by
  have HR0 : w.alloc (.cells ((List.replicate 8 (0 : W32)).map enc32).toArray 96) = w.alloc (.cells ((List.replicate 8 (0 : W32)).map enc32).toArray 96) := rfl
  have hal := heap_alloc_new w (.cells ((List.replicate 8 (0 : W32)).map enc32).toArray 96)
  have HB := Lib.hid (below_setRow ((Below.refl w.heap.size w).alloc (Nat.le_refl _) (.cells ((List.replicate 8 (0 : W32)).map enc32).toArray 96)) (R := w.heap.size) (Nat.le_refl _) (H0.map enc32).toArray)
  have HX := Lib.hid (setRow_heap _ w.heap.size _ (H0.map enc32).toArray _ _ hal)
  have HONE := Lib.hid (words_one H0)
  clear HR0
  go_enter Tryd.func101, Tryd.ntmps101
  go_wp2_with (first
    | (refine wpList_store_row rfl 96 (.tmp 0) (.tmp 1) rfl w.heap.size (H0.map enc32).toArray rfl rfl 96 _ hal (by kernel_rfl) rfl HONE.out ?_)
    | fail)
  exact bodyPost_ret (v := .agg (H0.map enc32).toArray) (results_cell_row Tryd.results101 _ _ w.heap.size _ _ (0, 0) _ rfl HX.out Tryd.underlying96 rfl (by kernel_rfl)) rfl ⟨rfl, HB.out⟩
theorem wpList_built {P : Program} {ops : Array Oper} {rest : List Oper} {o : Oper} {a : Act} {w : World} {Q : Exit → Act → World → Prop} (hg : o.guard = none) (t : TypeId) (parts : List (Nat × Operand)) (ho : o.op = .build t parts.toArray) (l : List (Nat × Value)) (hl : parts.map (fun x => (x.1, a.eval x.2)) = l) (cs : Array Value) (hb : P.built t l = some cs)
    (h : wpList P ops Q rest (a.put o.dst (.agg cs)) w) : wpList P ops Q (o :: rest) a w :=
  wpList_plain hg fun _ hK => wp_built t parts ho l hl cs hb (hK _ _ h)
def KW : List W32 := KS.map fun k => BitVec.ofNat 32 k
set_option maxRecDepth 100000 in
set_option maxHeartbeats 4000000 in
theorem round_any (w : World) : Calls Tryd.prog 105 #[] w fun e w' => e = .returned (wordsV KW) ∧ Below w.heap.size w w' := by
  have hal := heap_alloc_new w (.cells ((List.replicate 64 (0 : W32)).map enc32).toArray 139)
  have HB := Lib.hid (below_setRow ((Below.refl w.heap.size w).alloc (Nat.le_refl _) (.cells ((List.replicate 64 (0 : W32)).map enc32).toArray 139)) (R := w.heap.size) (Nat.le_refl _) (KW.map enc32).toArray)
  have HX := Lib.hid (setRow_heap _ w.heap.size _ (KW.map enc32).toArray _ _ hal)
  have HONE := Lib.hid (words_one KW)
  go_enter Tryd.func105, Tryd.ntmps105
  go_wp2_with (first
    | (refine wpList_built rfl 139 _ rfl _ rfl (KW.map enc32).toArray (by kernel_rfl) ?_)
    | (refine wpList_store_row rfl 139 (.tmp 0) (.tmp 1) rfl w.heap.size (KW.map enc32).toArray rfl rfl 139 _ hal (by kernel_rfl) rfl HONE.out ?_)
    | fail)
  exact bodyPost_ret (v := .agg (KW.map enc32).toArray) (results_cell_row Tryd.results105 _ _ w.heap.size _ _ (0, 0) _ rfl HX.out Tryd.underlying139 rfl (by kernel_rfl)) rfl ⟨rfl, HB.out⟩
end Go.Proofs.YthcklfelofpffaaDoor
