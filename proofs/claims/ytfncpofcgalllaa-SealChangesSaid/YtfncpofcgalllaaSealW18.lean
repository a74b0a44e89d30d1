/- Check of the program, with a map of seals. No condition. -/
import Derived.Test.YtfncpofcgalllaaSealW17
namespace Go.Proofs.Ytfncpofcgalllaa
open Go.RowKit
attribute [local go_sem ↓] Go.wp_at_zero Go.wp_at_succ
/-- A seal as a value. -/
def sv (s : Seal) : Value := .agg #[.int .i64 s.e, .int .i64 s.v, .int .i64 s.f, .int .i64 s.u, .int .i64 s.g]
/-- Block b is a map whose keys are the seals of l, each with true. -/
def MapIs (w : World) (b : Nat) (l : List Seal) : Prop := ∃ es clock, w.heap[b]? = some (.map es clock) ∧ es.toList.map (fun x => (x.key, x.val)) = l.map (fun s => (sv s, Value.bool true))
theorem run_equal_seal (a b : Seal) (w : World) : (Op.equal 41 (sv a) (sv b)).run Try.prog w = .ok (decide (a = b)) w := by
  obtain ⟨a1, a2, a3, a4, a5⟩ := a
  obtain ⟨b1, b2, b3, b4, b5⟩ := b
  simp only [Seal.mk.injEq, sv, Op.equal, Op.maxDepth]
  go_simp
  repeat' split
  all_goals simp [*]
theorem run_findAsking (s : Seal) (w : World) : ∀ (es : List MapEntry) (l : List Seal) (i : Nat), es.map (fun x => (x.key, x.val)) = l.map (fun s => (sv s, Value.bool true)) →
    ∃ r, (Instr.findAsking 41 (sv s) es i).run Try.prog w = .ok r w ∧ (s ∈ l → ∃ j, r = some (j, .bool true)) ∧ (s ∉ l → r = none)
  | [], l, i, h => by
    cases l with
    | nil => exact ⟨none, rfl, by simp, fun _ => rfl⟩
    | cons y r => simp at h
  | x :: es, l, i, h => by
    cases l with
    | nil => simp at h
    | cons y r =>
      simp only [List.map_cons, List.cons.injEq, Prod.mk.injEq] at h
      obtain ⟨⟨h1, h2⟩, h3⟩ := h
      unfold Instr.findAsking
      rw [Sem.run_bind, h1, run_equal_seal]
      by_cases e : s = y
      · rw [decide_eq_true e]
        exact ⟨some (i, x.val), rfl, fun _ => ⟨i, by rw [h2]⟩, fun hn => absurd (by rw [e]; exact List.mem_cons_self) hn⟩
      · rw [decide_eq_false e]
        obtain ⟨q, k1, k2, k3⟩ := run_findAsking s w es r (i + 1) h3
        exact ⟨q, k1, fun hm => k2 ((List.mem_cons.1 hm).resolve_left e), fun hn => k3 (fun hm => hn (List.mem_cons_of_mem _ hm))⟩
theorem run_checkKey_seal (c : Bool) (s : Seal) (w : World) : (Instr.checkKey c 10000 41 (sv s)).run Try.prog w = .ok () w := by
  unfold sv
  kernel_rfl
theorem run_findKey_seal (s : Seal) (w : World) (es : List MapEntry) (l : List Seal) (h : es.map (fun x => (x.key, x.val)) = l.map (fun s => (sv s, Value.bool true))) :
    ∃ r, (Instr.findKey 41 (sv s) es).run Try.prog w = .ok r w ∧ (s ∈ l → ∃ j, r = some (j, .bool true)) ∧ (s ∉ l → r = none) := by
  unfold Instr.findKey
  rw [Sem.run_bind, run_underlying Try.underlying41, Result.andThen_ok]
  cases es with
  | nil =>
    cases l with
    | nil => exact ⟨none, rfl, by simp, fun _ => rfl⟩
    | cons y r => simp at h
  | cons x es =>
    simp only [Instr.findNow, Instr.sameNow]
    exact run_findAsking s w (x :: es) l 0 h
theorem lookup_seal {w : World} {b : Nat} {l : List Seal} (h : MapIs w b l) (s : Seal) : (Instr.lookup 54 (.map (some b)) (sv s) false).run Try.prog w = .ok (.bool (decide (s ∈ l))) w := by
  obtain ⟨es, clock, hb, hes⟩ := h
  obtain ⟨r, h1, h2, h3⟩ := run_findKey_seal s w es.toList l hes
  have hz : (zeroValue 4).run Try.prog w = .ok (.bool false) w := by kernel_rfl
  have hg : (getObj b).run Try.prog w = .ok (.map es clock) w := MapKept.run_getObj_map hb
  unfold Instr.lookup
  simp only [Sem.run_bind, run_underlying Try.underlying54, Result.andThen_ok, hg, Sem.run_pure, run_checkKey_seal, h1]
  by_cases hin : s ∈ l
  · obtain ⟨j, rfl⟩ := h2 hin
    simp [hin]
  · rw [h3 hin]
    simp [hin, hz]
/-- The world behind a new entry. -/
def putSeal (w : World) (b : Nat) (es : Array MapEntry) (clock : Nat) (s : Seal) : World := { w with heap := w.heap.setIfInBounds b (.map (es.push { key := sv s, val := .bool true, born := clock }) (clock + 1)) }
theorem update_seal {w : World} {b : Nat} {l : List Seal} (h : MapIs w b l) (s : Seal) (hs : s ∉ l) : ∃ w', (Instr.mapUpdate 54 (.map (some b)) (sv s) (.bool true)).run Try.prog w = .ok () w' ∧ MapIs w' b (l ++ [s]) ∧ w.grownBy w' (some b) := by
  obtain ⟨es, clock, hb, hes⟩ := h
  obtain ⟨r, h1, h2, h3⟩ := run_findKey_seal s w es.toList l hes
  have hg : (getObj b).run Try.prog w = .ok (.map es clock) w := MapKept.run_getObj_map hb
  have hlt : b < w.heap.size := (Array.getElem?_eq_some_iff.1 hb).1
  refine ⟨putSeal w b es clock s, ?_, ?_, ?_⟩
  · unfold Instr.mapUpdate
    simp only [Sem.run_bind, run_underlying Try.underlying54, Result.andThen_ok, hg, run_checkKey_seal, h1, h3 hs]
    simp [setObj, Sem.run, hb, putSeal]
  · exact ⟨es.push { key := sv s, val := .bool true, born := clock }, clock + 1, by simp [putSeal, hlt], by simp [hes]⟩
  · refine ⟨rfl, rfl, rfl, by simp [putSeal], fun k _ hk => ?_⟩
    have hkb : k ≠ b := fun e => hk (by rw [e])
    simp [putSeal, Ne.symm hkb]
theorem MapIs.kept {w w' : World} {b : Nat} {l : List Seal} (h : MapIs w b l) (hk : w'.heap[b]? = w.heap[b]?) : MapIs w' b l := by
  obtain ⟨es, clock, hb, hes⟩ := h
  exact ⟨es, clock, hk.trans hb, hes⟩
theorem MapIs.lt {w : World} {b : Nat} {l : List Seal} (h : MapIs w b l) : b < w.heap.size := by
  obtain ⟨es, clock, hb, hes⟩ := h
  exact (Array.getElem?_eq_some_iff.1 hb).1
set_option maxHeartbeats 1000000 in
theorem scheck_any (A : Option Addr) (c n : Nat) (l : List Seal) (w : World) (hl : Sl w (fun b => b < w.heap.size) A c l) (hn : l.length = n) :
    Calls Try.prog 15 #[.slice A n c] w fun e w' => e = .returned (.int .i64 (chk l)) ∧ Below w.heap.size w w' := by
  subst hn
  have hlen : l.length ≤ 9223372036854775807 := by have := hl.1; have := hl.2.1; unfold maxLen at this; omega
  by_cases hbig : 1000 < l.length
  · have hfin : chk l = 2 := by unfold chk; rw [if_pos hbig]
    have Hfin := Lib.hid hfin
    clear hfin
    go_enter Try.func15, Try.ntmps15
    go_wp2_with fail
    go_ret
    exact ⟨ret_int Hfin.out.symm, Below.refl _ _⟩
  · have hfin : chk l = chkTo [] l := by unfold chk; rw [if_neg hbig]
    have Hfin := Lib.hid hfin
    clear hfin
    have hmm := @run_makeMap Try.prog
    go_enter Try.func15, Try.ntmps15
    go_wp2_with fail
    clear hmm
    go_loopw [12] (fun i wr => ∃ k : Nat, k ≤ l.length ∧ i = .int .i64 k ∧ Hid (chk l = chkTo (l.take k) (l.drop k)) ∧ Below w.heap.size w wr ∧ MapIs wr w.heap.size (l.take k)) (fun i _ => l.length - (intOf i).toNat)
    case atStart => exact ⟨0, Nat.zero_le _, rfl, Hfin.out, (Below.refl _ _).alloc (Nat.le_refl _) _, ⟨#[], 0, heap_alloc_new w _, rfl⟩⟩
    case round =>
      obtain ⟨k, hk, rfl, hi, hb, hmap⟩ := hrel
      have Hmap := Lib.hid hmap
      have hml := hmap.lt
      clear hmap
      by_cases hlt : k < l.length
      · obtain ⟨_, _, rfl, _, _, hok, c0, c1, c2, c3, c4⟩ := seal_at (hl.to hb) hlt
        have hkl : (k : Int) < (l.length : Int) := by omega
        have hat := Lib.hid (chkTo_at l k hlt)
        have hts := Lib.hid (List.take_succ_eq_append_getElem hlt)
        have hbx : (wr.alloc (.cells l[k].cells.toArray 41)).heap[wr.heap.size]? = some (.cells l[k].cells.toArray 41 (0, 0)) := heap_alloc_new wr _
        have Hbx := Lib.hid hbx
        clear hbx
        have hwz := hb.size
        go_wp2_with fail
        refine (valid_any l[k] _).mono ?_
        rintro e w1 ⟨rfl, hb1⟩
        have hB1 := (hb1.block wr.heap.size (by simp)).trans Hbx.out
        obtain ⟨e0, e1, e2, e3, e4⟩ := seal_box hB1
        have hbb1 : Below wr.heap.size wr w1 := ((Below.refl _ _).alloc (Nat.le_refl _) _).trans (hb1.mono (by simp))
        have hbw1 : Below w.heap.size w w1 := hb.trans (hbb1.mono hb.size)
        have hmap1 : MapIs w1 w.heap.size (l.take k) := Hmap.out.kept (hbb1.block _ hml)
        have hlk : (Instr.lookup 54 (.map (some w.heap.size)) (.agg #[.int .i64 l[k].e, .int .i64 l[k].v, .int .i64 l[k].f, .int .i64 l[k].u, .int .i64 l[k].g]) false).run Try.prog w1 = .ok (.bool (decide (l[k] ∈ l.take k))) w1 := lookup_seal hmap1 l[k]
        have Hmap1 := Lib.hid hmap1
        clear hB1 c0 c1 c2 c3 c4 hmap1
        cases hv : vld l[k]
        · rw [hv] at hat
          have Hv := Lib.hid hv
          clear hv
          go_wp2_with fail
          go_ret
          exact ⟨ret_int (by rw [hi.out, hat.out]; rfl), hbw1⟩
        · rw [hv] at hat
          have Hv := Lib.hid hv
          clear hv
          by_cases hin : l[k] ∈ l.take k
          · rw [if_neg (by simp), if_pos hin] at hat
            rw [decide_eq_true hin] at hlk
            clear hin
            go_wp2_with fail
            go_ret
            exact ⟨ret_int (by rw [hi.out, hat.out]), hbw1⟩
          · rw [if_neg (by simp), if_neg hin] at hat
            rw [decide_eq_false hin] at hlk
            obtain ⟨w2, hup, hmap2, hg2⟩ := update_seal Hmap1.out l[k] hin
            unfold sv at hup
            have hbw2 : Below w.heap.size w w2 := hbw1.grown hg2 hbw1.size (by rintro g e; cases e; omega)
            have Hin := Lib.hid hin
            clear hin
            go_wp2_with fail
            go_roundw
            case rel => exact ⟨k + 1, by omega, by go_num, by rw [hi.out, hat.out]; rfl, hbw2, by rw [hts.out]; exact hmap2⟩
            case measure => simp [intOf]; omega
      · go_wp2_with fail
        go_ret
        exact ⟨ret_int (by rw [hi.out, List.drop_of_length_le (by omega)]; rfl), hb⟩
end Go.Proofs.Ytfncpofcgalllaa
