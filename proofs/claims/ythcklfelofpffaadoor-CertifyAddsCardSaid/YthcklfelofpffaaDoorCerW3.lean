/- Bytes: what a slice of them holds as cells; appending a string, appending zeros; copies. No condition but sizes. -/
import Derived.Test.YthcklfelofpffaaDoorCerW2
import Derived.Lib.AppendStr
import Derived.Lib.AppendZerosOnto
import Derived.Lib.SliceRun
import Derived.Lib.LazyBuf
namespace Go.Proofs.YthcklfelofpffaaDoor
open Go.RowKit
def encB (b : UInt8) : Value := .int .u8 (b.toNat : Int)
section
variable {P : Program} {w w' : World} {base : Nat} {e : TypeId} {v : Value} {l : List UInt8}
theorem own_of_row (h : w.ownsRow base e 1 v l.length (l.map encB)) : Own w base e v l := by
  refine ⟨l.map encB, h, fun u hu => ?_, fun i hi => ?_⟩
  · obtain ⟨b, _, rfl⟩ := List.mem_map.1 hu; rfl
  · show ((l.map encB).drop (i * 1)).take 1 = [.int .u8 (l[i].toNat : Int)]
    rw [Nat.mul_one, List.drop_eq_getElem_cons (by rw [List.length_map]; exact hi), List.take_succ_cons, List.take_zero, List.getElem_map]; rfl
theorem Own.rowB (h : Own w base e v l) : w.ownsRow base e 1 v l.length (l.map encB) := by
  obtain ⟨xs, h1, _, h3⟩ := h
  have hx : xs.length = l.length * 1 := h1.1
  have : xs = l.map encB := by
    apply List.ext_getElem
    · rw [hx, List.length_map, Nat.mul_one]
    · intro i hi hi2
      have hil : i < l.length := by rw [List.length_map] at hi2; exact hi2
      have h4 : (xs.drop (i * 1)).take 1 = [.int .u8 (l[i].toNat : Int)] := h3 i hil
      rw [Nat.mul_one, List.drop_eq_getElem_cons hi, List.take_succ_cons, List.take_zero] at h4
      rw [List.getElem_map]
      exact (List.cons.inj h4).1
  rw [← this]; exact h1
theorem strCells_eq (s : ByteArray) : Lib.strCells s = s.data.toList.map encB := rfl
theorem wp_catS {o : Oper} {a : Act} {K : Act → World → Prop} {Q : Exit → Act → World → Prop} (s x : Operand) (t ts : TypeId)
    (ho : o.op = .call { callee := .builtin .append, args := #[s, x], argTypes := #[t, ts] })
    (base : Nat) (e : TypeId) (ht : P.underlying t = some (.slice e)) (hts : P.underlying ts = some .string) (hinfo : (P.info? e).map (fun i => (i.zero, i.size, i.bytes)) = some (some (.int .u8 0), 1, 1))
    (v : Value) (l : List UInt8) (hs : a.eval s = v) (hown : Own w base e v l) (b : ByteArray) (hx : a.eval x = .string b)
    (hbytes : l.length + b.size ≤ 140737488355328) (hbase : base ≤ w.heap.size)
    (h : ∀ v' w', Own w' base e v' (l ++ b.data.toList) → w.grownBy w' v.ownBlock → K (a.put o.dst v') w') : o.wp P a w K Q := by
  obtain ⟨i, hi, hz, hz1, hz2⟩ := info_parts hinfo
  have hbl : b.data.toList.length = b.size := by rw [Array.length_toList]; rfl
  obtain ⟨v', w', hrun, h2, h3, _⟩ := Lib.run_append_own_string (P := P) w base t ts o.type e i ht hts hi hz hz1 hz2 v l.length (l.map encB) hown.rowB b (by simp only [maxLen]; omega) hbytes hbase
  unfold Oper.wp execOp
  simp only [ho, resolve, invoke, builtin, Sem.run_bind, Sem.run_pure, Result.andThen_ok, List.map_toArray, List.map_cons, List.map_nil, hs, hx, hrun]
  refine h v' w' (own_of_row ?_) h3
  rw [List.length_append, hbl, List.map_append, ← strCells_eq]; exact h2
theorem wpList_catS {ops : Array Oper} {rest : List Oper} {o : Oper} {a : Act} {Q : Exit → Act → World → Prop} (hgd : o.guard = none) (s x : Operand) (t ts : TypeId)
    (ho : o.op = .call { callee := .builtin .append, args := #[s, x], argTypes := #[t, ts] })
    (base : Nat) (e : TypeId) (ht : P.underlying t = some (.slice e)) (hts : P.underlying ts = some .string) (hinfo : (P.info? e).map (fun i => (i.zero, i.size, i.bytes)) = some (some (.int .u8 0), 1, 1))
    (v : Value) (l : List UInt8) (hs : a.eval s = v) (hown : Own w base e v l) (b : ByteArray) (hx : a.eval x = .string b)
    (hbytes : l.length + b.size ≤ 140737488355328) (hbase : base ≤ w.heap.size)
    (h : ∀ v' w', Own w' base e v' (l ++ b.data.toList) → w.grownBy w' v.ownBlock → wpList P ops Q rest (a.put o.dst v') w') : wpList P ops Q (o :: rest) a w :=
  wpList_plain hgd fun _ hK => wp_catS s x t ts ho base e ht hts hinfo v l hs hown b hx hbytes hbase fun v' w' h2 h3 => hK _ _ (h v' w' h2 h3)
theorem zeroCells_u8 (k : Nat) : Builtin.zeroCells (Value.int .u8 0).cells k = (List.replicate k (encB 0)).toArray := by
  apply Array.ext
  · simp [Builtin.zeroCells, Value.cells]
  · intro i h1 h2
    have hz : (Value.int .u8 0).cells = #[.int .u8 0] := rfl
    simp [Builtin.zeroCells, hz, encB, Nat.mod_one]
theorem wp_catZ {o : Oper} {a : Act} {K : Act → World → Prop} {Q : Exit → Act → World → Prop} (s x : Operand) (t ts : TypeId)
    (ho : o.op = .call { callee := .builtin .append, args := #[s, x], argTypes := #[t, ts] })
    (base : Nat) (e : TypeId) (kq kn : IntKind) (ht : P.underlying t = some (.slice e)) (hts : P.underlying ts = some (.int kn)) (hinfo : (P.info? e).map (fun i => (i.zero, i.size, i.bytes)) = some (some (.int .u8 0), 1, 1))
    (g : Nat) (l : List UInt8) (hs : a.eval s = .slice (some ⟨g, 0, none⟩) l.length l.length) (hown : Own w base e (.slice (some ⟨g, 0, none⟩) l.length l.length) l) (k : Nat) (hx : a.eval x = .int kq (k : Int))
    (hbytes : l.length + k ≤ 1048576) (hbase : base ≤ w.heap.size)
    (h : ∀ v' w', Own w' base e v' (l ++ List.replicate k 0) → w.grownBy w' (some g) → (v'.ownBlock = some g ∨ v'.ownBlock = some w.heap.size) → K (a.put o.dst v') w') : o.wp P a w K Q := by
  obtain ⟨i, hi, hz, hz1, hz2⟩ := info_parts hinfo
  unfold Oper.wp execOp
  by_cases h0 : k = 0
  · subst h0
    have hrun : (Builtin.append_ #[t, ts] o.type #[.slice (some ⟨g, 0, none⟩) l.length l.length, .int kq ((0 : Nat) : Int)]).run P w = .ok (.slice (some ⟨g, 0, none⟩) l.length l.length) w := by
      have hw0 : IntKind.i64.wrap 0 = 0 := by decide
      simp [Builtin.append_, run_underlying ht, run_underlying hts, sizeOf, typeInfo, hi, asInt, asIntOf, storeCells, go_sem, hw0]
    simp only [ho, resolve, invoke, builtin, Sem.run_bind, Sem.run_pure, Result.andThen_ok, List.map_toArray, List.map_cons, List.map_nil, hs, hx, hrun]
    exact h _ _ (by simpa using hown) (World.grownBy.refl _ _) (.inl rfl)
  · have hcells : (Builtin.firstCells i.size l.length (.slice (some ⟨g, 0, none⟩) l.length l.length)).run P w.drew = .ok (l.map encB).toArray w.drew := by
      rw [hz1]
      have := run_loadCells_list (P := P) w.drew ⟨g, 0, none⟩ (l.map encB) (fun j u hu => hown.rowB.cells (g := g) rfl j u hu)
      rw [List.length_map] at this
      simp only [Builtin.firstCells, Nat.mul_one]
      exact this
    have hrun := Lib.run_append_grow_zeros (P := P) w t ts o.type e i (.int .u8 0) kq kn ht hts hi hz (some ⟨g, 0, none⟩) l.length l.length (l.map encB) hcells k (by omega) (by omega) (by omega) (by omega) (by rw [hz2]; omega) (by rw [hz2]; exact growslice_fits (by omega) (by omega))
    simp only [ho, resolve, invoke, builtin, Sem.run_bind, Sem.run_pure, Result.andThen_ok, List.map_toArray, List.map_cons, List.map_nil, hs, hx, hrun]
    have hge := grownCap_ge w (l.length + k) l.length e
    have hcm : grownCap w (l.length + k) l.length e ≤ maxLen := grownCap_le_maxLen w (l.length + k) l.length e (by simp only [maxLen]; omega)
    refine h _ _ (own_of_row ⟨by simp, .inr ⟨w.heap.size, _, _, by simp, hbase, heap_alloc_new w.drew _, by simpa using hge, hcm, ?_, ?_⟩⟩) ⟨rfl, rfl, rfl, by simp, fun b hb _ => heap_alloc_old w.drew _ hb⟩ (.inr rfl)
    · have hz3 : (Value.int IntKind.u8 0).cells.size = 1 := rfl
      simp only [Array.size_append, List.size_toArray, size_zeroCells, hz3, List.length_map]
      omega
    · rw [zeroCells_u8, zeroCells_u8]
      simp only [Array.toList_append, List.map_append, List.map_replicate, Nat.mul_one, List.length_append, List.length_replicate]
      rw [List.take_left' (by simp)]
theorem wpList_catZ {ops : Array Oper} {rest : List Oper} {o : Oper} {a : Act} {Q : Exit → Act → World → Prop} (hgd : o.guard = none) (s x : Operand) (t ts : TypeId)
    (ho : o.op = .call { callee := .builtin .append, args := #[s, x], argTypes := #[t, ts] })
    (base : Nat) (e : TypeId) (kq kn : IntKind) (ht : P.underlying t = some (.slice e)) (hts : P.underlying ts = some (.int kn)) (hinfo : (P.info? e).map (fun i => (i.zero, i.size, i.bytes)) = some (some (.int .u8 0), 1, 1))
    (g : Nat) (l : List UInt8) (hs : a.eval s = .slice (some ⟨g, 0, none⟩) l.length l.length) (hown : Own w base e (.slice (some ⟨g, 0, none⟩) l.length l.length) l) (k : Nat) (hx : a.eval x = .int kq (k : Int))
    (hbytes : l.length + k ≤ 1048576) (hbase : base ≤ w.heap.size)
    (h : ∀ v' w', Own w' base e v' (l ++ List.replicate k 0) → w.grownBy w' (some g) → (v'.ownBlock = some g ∨ v'.ownBlock = some w.heap.size) → wpList P ops Q rest (a.put o.dst v') w') : wpList P ops Q (o :: rest) a w :=
  wpList_plain hgd fun _ hK => wp_catZ s x t ts ho base e kq kn ht hts hinfo g l hs hown k hx hbytes hbase fun v' w' h2 h3 h4 => hK _ _ (h v' w' h2 h3 h4)
end
theorem b_info : (Tryd.prog.info? 5).map (fun i => (i.zero, i.size, i.bytes)) = some (some (.int .u8 0), Rep.size UInt8, 1) := by kernel_rfl
theorem clone_any (A : Option Addr) (c n : Nat) (l : List UInt8) (w : World) (hl : Sl w (fun b => b < w.heap.size) A c l) (hn : l.length = n) (hsz : n ≤ 68719476736) :
    Calls Tryd.prog 88 #[.slice A n c] w fun e w' => ∃ v, e = .returned v ∧ Own w' w.heap.size 5 v l ∧ Below w.heap.size w w' := by
  have hq := fun w' => Lib.run_eql_slice_nil (P := Tryd.prog) w' 59 5 A n c 0 0 Tryd.underlying59
  cases A with
  | none =>
    have hl0 : l = [] := by
      by_cases h0 : 0 < l.length
      · obtain ⟨b, o, e, _⟩ := hl.2.2 h0; cases e
      · exact List.eq_nil_of_length_eq_zero (by omega)
    subst hl0
    simp only [Option.isNone_none] at hq
    go_enter Tryd.func88, Tryd.ntmps88
    go_wp2_with fail
    go_ret
    exact ⟨_, rfl, Own.nil _ _ _, Below.refl _ _⟩
  | some a =>
    simp only [Option.isNone_some] at hq
    go_enter Tryd.func88, Tryd.ntmps88
    go_wp2_with (at_builtin; refine wpList_cat (α := UInt8) _ rfl (.tmp 5) (.tmp 6) 59 rfl w.heap.size 5 (.int .u8 0) 1 Tryd.underlying59 b_info rfl (by decide) (.slice (some ⟨w.heap.size, 0, none⟩) 0 0) [] rfl (Own.made w _ _ (Nat.le_refl _)) (some a) c n l rfl hn (fun b => b < w.heap.size) (hl.keep (Kept.all ((Below.refl _ _).alloc (Nat.le_refl _) _)) (by simp)) (by intro i (hi : i < w.heap.size) _ e; simp [Value.ownBlock] at e; omega) (by simp; omega) (by simp; omega) (by simp) ?_; intro v2 w2 hown2 hg2 _)
    go_ret
    exact ⟨_, rfl, hown2, below_cat ((Below.refl _ _).alloc (Nat.le_refl _) _) (Own.made (α := UInt8) w _ _ (Nat.le_refl _)) (by simp) hg2⟩
end Go.Proofs.YthcklfelofpffaaDoor
