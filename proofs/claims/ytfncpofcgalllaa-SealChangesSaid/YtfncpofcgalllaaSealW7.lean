/- Add of the reference returns the specified list and error. No condition. -/
import Derived.Test.YtfncpofcgalllaaSealW6
namespace Go.Proofs.Ytfncpofcgalllaa
open Go.RowKit
attribute [local go_sem ↓] Go.wp_at_zero Go.wp_at_succ
set_option maxHeartbeats 1000000 in
theorem selected_3 (A : Option Addr) (c n : Nat) (l : List Seal) (f : FuncId) (c1 c2 c3 : Value) (p : Seal → Bool) (w : World) (hl : Sl w (fun b => b < w.heap.size) A c l) (hn : l.length = n) (hsz : n ≤ 1048576)
    (hcf : ∀ (w' : World) (args : Array Value), (callFunc f args).run Try.prog w' = .ok (.enter f args) w')
    (hf : ∀ (s : Seal) (w' : World), Below w.heap.size w w' → Calls Try.prog f #[.agg #[.int .i64 s.e, .int .i64 s.v, .int .i64 s.f, .int .i64 s.u, .int .i64 s.g], c1, c2, c3] w' fun e w'' => e = .returned (.bool (p s)) ∧ Below w'.heap.size w' w'') :
    Calls Try.prog 35 #[.slice A n c, .func (.func f) #[] #[c1, c2, c3]] w fun e w' => ∃ v, e = .returned v ∧ Own w' w.heap.size 41 v (l.filter p) ∧ Below w.heap.size w w' := by
  subst hn
  have Hf := Lib.hid hf
  clear hf
  go_enter Try.func35, Try.ntmps35
  go_wp2_with fail
  go_loopw [5, 10] (fun v i wr => ∃ k : Nat, k ≤ l.length ∧ i = .int .i64 k ∧ Own wr w.heap.size 41 v ((l.take k).filter p) ∧ Below w.heap.size w wr) (fun _ i _ => l.length - (intOf i).toNat)
  case atStart => exact ⟨0, Nat.zero_le _, rfl, Own.nil _ _ _, Below.refl _ _⟩
  case round =>
    obtain ⟨k, hk, rfl, hown, hb⟩ := hrel
    have hwz := hb.size
    by_cases hlt : k < l.length
    · obtain ⟨b, o, rfl, hbS, hbl, hok, d0, d1, d2, d3, d4⟩ := seal_at (hl.to hb) hlt
      have hkl : (k : Int) < (l.length : Int) := by omega
      have hfl : ((l.take k).filter p).length ≤ 1048576 := by have := List.length_filter_le p (l.take k); rw [List.length_take] at this; omega
      have hbx : (wr.alloc (.cells l[k].cells.toArray 41)).heap[wr.heap.size]? = some (.cells l[k].cells.toArray 41 (0, 0)) := heap_alloc_new wr _
      have hstep : (l.take (k + 1)).filter p = if p l[k] then (l.take k).filter p ++ [l[k]] else (l.take k).filter p := by
        rw [List.take_succ_eq_append_getElem hlt, List.filter_append]
        cases hp : p l[k] <;> simp [hp]
      have HS := Lib.hid hstep
      clear hstep
      have Hbx := Lib.hid hbx
      clear hbx
      obtain ⟨A1, c1', rfl, hs⟩ := hown.sl
      go_wp2_with fail
      refine (Hf.out l[k] _ (hb.alloc (by omega) _)).mono ?_
      rintro e w1 ⟨rfl, hb1⟩
      have hB1 := (hb1.block wr.heap.size (by simp)).trans Hbx.out
      obtain ⟨e0, e1, e2, e3, e4⟩ := seal_box hB1
      clear hB1 d0 d1 d2 d3 d4
      have hbb1 : Below wr.heap.size wr w1 := ((Below.refl _ _).alloc (Nat.le_refl _) _).trans (hb1.mono (by simp))
      have hz := hbb1.size
      have hown1 := hown.below hbb1
      have hbw1 : Below w.heap.size w w1 := hb.trans (hbb1.mono hb.size)
      clear hb1 hs
      cases hp : p l[k]
      · rw [hp] at HS
        have Hp := Lib.hid hp
        clear hp
        go_wp2_with fail
        go_roundw
        case rel => exact ⟨k + 1, by omega, by go_num, by rw [HS.out]; exact hown1, hbw1⟩
        case measure => simp [intOf]; omega
      · rw [hp] at HS
        have Hp := Lib.hid hp
        clear hp
        go_wp2_with (at_builtin; refine wpList_push (α := Seal) _ rfl (.tmp 17) (.tmp 19) 23 rfl w.heap.size 41 (.agg #[.int .i64 0, .int .i64 0, .int .i64 0, .int .i64 0, .int .i64 0]) 40 Try.underlying23 seal_info rfl (by decide) _ _ rfl (hown1.alloc _) w1.heap.size _ l[k] (0, 0) 41 rfl (heap_alloc_new w1 _) ⟨rfl, hok⟩ (by omega) (by omega) (by simp; omega) _ rfl ?_; intro g cap w2 hown2 hg2 hat2 hlt2)
        go_roundw
        case rel => exact ⟨k + 1, by omega, by go_num, by rw [HS.out]; exact hown2, below_push hbw1 hown1 (by omega) hg2⟩
        case measure => simp [intOf]; omega
    · go_wp2_with fail
      go_ret
      exact ⟨_, rfl, by rw [List.take_of_length_le (by omega)] at hown; exact hown, hb⟩
set_option maxHeartbeats 1000000 in
theorem selected_1 (A : Option Addr) (c n : Nat) (l : List Seal) (f : FuncId) (c1 : Value) (p : Seal → Bool) (w : World) (hl : Sl w (fun b => b < w.heap.size) A c l) (hn : l.length = n) (hsz : n ≤ 1048576)
    (hcf : ∀ (w' : World) (args : Array Value), (callFunc f args).run Try.prog w' = .ok (.enter f args) w')
    (hf : ∀ (s : Seal) (w' : World), Below w.heap.size w w' → Calls Try.prog f #[.agg #[.int .i64 s.e, .int .i64 s.v, .int .i64 s.f, .int .i64 s.u, .int .i64 s.g], c1] w' fun e w'' => e = .returned (.bool (p s)) ∧ Below w'.heap.size w' w'') :
    Calls Try.prog 35 #[.slice A n c, .func (.func f) #[] #[c1]] w fun e w' => ∃ v, e = .returned v ∧ Own w' w.heap.size 41 v (l.filter p) ∧ Below w.heap.size w w' := by
  subst hn
  have Hf := Lib.hid hf
  clear hf
  go_enter Try.func35, Try.ntmps35
  go_wp2_with fail
  go_loopw [5, 10] (fun v i wr => ∃ k : Nat, k ≤ l.length ∧ i = .int .i64 k ∧ Own wr w.heap.size 41 v ((l.take k).filter p) ∧ Below w.heap.size w wr) (fun _ i _ => l.length - (intOf i).toNat)
  case atStart => exact ⟨0, Nat.zero_le _, rfl, Own.nil _ _ _, Below.refl _ _⟩
  case round =>
    obtain ⟨k, hk, rfl, hown, hb⟩ := hrel
    have hwz := hb.size
    by_cases hlt : k < l.length
    · obtain ⟨b, o, rfl, hbS, hbl, hok, d0, d1, d2, d3, d4⟩ := seal_at (hl.to hb) hlt
      have hkl : (k : Int) < (l.length : Int) := by omega
      have hfl : ((l.take k).filter p).length ≤ 1048576 := by have := List.length_filter_le p (l.take k); rw [List.length_take] at this; omega
      have hbx : (wr.alloc (.cells l[k].cells.toArray 41)).heap[wr.heap.size]? = some (.cells l[k].cells.toArray 41 (0, 0)) := heap_alloc_new wr _
      have hstep : (l.take (k + 1)).filter p = if p l[k] then (l.take k).filter p ++ [l[k]] else (l.take k).filter p := by
        rw [List.take_succ_eq_append_getElem hlt, List.filter_append]
        cases hp : p l[k] <;> simp [hp]
      have HS := Lib.hid hstep
      clear hstep
      have Hbx := Lib.hid hbx
      clear hbx
      obtain ⟨A1, c1', rfl, hs⟩ := hown.sl
      go_wp2_with fail
      refine (Hf.out l[k] _ (hb.alloc (by omega) _)).mono ?_
      rintro e w1 ⟨rfl, hb1⟩
      have hB1 := (hb1.block wr.heap.size (by simp)).trans Hbx.out
      obtain ⟨e0, e1, e2, e3, e4⟩ := seal_box hB1
      clear hB1 d0 d1 d2 d3 d4
      have hbb1 : Below wr.heap.size wr w1 := ((Below.refl _ _).alloc (Nat.le_refl _) _).trans (hb1.mono (by simp))
      have hz := hbb1.size
      have hown1 := hown.below hbb1
      have hbw1 : Below w.heap.size w w1 := hb.trans (hbb1.mono hb.size)
      clear hb1 hs
      cases hp : p l[k]
      · rw [hp] at HS
        have Hp := Lib.hid hp
        clear hp
        go_wp2_with fail
        go_roundw
        case rel => exact ⟨k + 1, by omega, by go_num, by rw [HS.out]; exact hown1, hbw1⟩
        case measure => simp [intOf]; omega
      · rw [hp] at HS
        have Hp := Lib.hid hp
        clear hp
        go_wp2_with (at_builtin; refine wpList_push (α := Seal) _ rfl (.tmp 17) (.tmp 19) 23 rfl w.heap.size 41 (.agg #[.int .i64 0, .int .i64 0, .int .i64 0, .int .i64 0, .int .i64 0]) 40 Try.underlying23 seal_info rfl (by decide) _ _ rfl (hown1.alloc _) w1.heap.size _ l[k] (0, 0) 41 rfl (heap_alloc_new w1 _) ⟨rfl, hok⟩ (by omega) (by omega) (by simp; omega) _ rfl ?_; intro g cap w2 hown2 hg2 hat2 hlt2)
        go_roundw
        case rel => exact ⟨k + 1, by omega, by go_num, by rw [HS.out]; exact hown2, below_push hbw1 hown1 (by omega) hg2⟩
        case measure => simp [intOf]; omega
    · go_wp2_with fail
      go_ret
      exact ⟨_, rfl, by rw [List.take_of_length_le (by omega)] at hown; exact hown, hb⟩

/-- What a place's seals are: Groups' closure. -/
def onP (e v x : Int) (s : Seal) : Bool := decide (s.e = e ∧ s.v = v ∧ s.f ≤ x ∧ x < s.u)
def onH (e v n : Int) (s : Seal) : Bool := decide (s.e = e ∧ s.v = v ∧ s.f < n)
theorem onP_t {e v x : Int} {s : Seal} (h : s.e = e ∧ s.v = v ∧ s.f ≤ x ∧ x < s.u) : onP e v x s = true := decide_eq_true h
theorem onP_f {e v x : Int} {s : Seal} (h : ¬ (s.e = e ∧ s.v = v ∧ s.f ≤ x ∧ x < s.u)) : onP e v x s = false := decide_eq_false h
theorem onH_t {e v x : Int} {s : Seal} (h : s.e = e ∧ s.v = v ∧ s.f < x) : onH e v x s = true := decide_eq_true h
theorem onH_f {e v x : Int} {s : Seal} (h : ¬ (s.e = e ∧ s.v = v ∧ s.f < x)) : onH e v x s = false := decide_eq_false h
set_option maxHeartbeats 400000 in
theorem onP_any (s : Seal) (p1 p2 p3 : Addr) (e v x : Int) (w : World) (h1 : w.cell? p1 = some (.int .i64 e)) (h2 : w.cell? p2 = some (.int .i64 v)) (h3 : w.cell? p3 = some (.int .i64 x)) :
    Calls Try.prog 36 #[.agg #[.int .i64 s.e, .int .i64 s.v, .int .i64 s.f, .int .i64 s.u, .int .i64 s.g], .pointer (some p1), .pointer (some p2), .pointer (some p3)] w fun r w' => r = .returned (.bool (onP e v x s)) ∧ Below w.heap.size w w' := by
  have g1 := World.block_lt_of_cell? w p1 h1
  have g2 := World.block_lt_of_cell? w p2 h2
  have g3 := World.block_lt_of_cell? w p3 h3
  have k1 : ∀ o, (w.alloc o).cell? p1 = some (.int .i64 e) := fun o => (World.cell?_alloc_lt w o p1 g1).trans h1
  have k2 : ∀ o, (w.alloc o).cell? p2 = some (.int .i64 v) := fun o => (World.cell?_alloc_lt w o p2 g2).trans h2
  have k3 : ∀ o, (w.alloc o).cell? p3 = some (.int .i64 x) := fun o => (World.cell?_alloc_lt w o p3 g3).trans h3
  clear h1 h2 h3
  go_enter Try.func36, Try.ntmps36
  go_wp2
  all_goals go_ret
  all_goals refine ⟨ret_bool ?_, (Below.refl _ _).alloc (Nat.le_refl _) _⟩
  all_goals clear k1 k2 k3
  all_goals first | (symm; apply onP_t; omega) | (symm; apply onP_f; omega) | (unfold onP; apply decide_eq_decide.2; omega)
set_option maxHeartbeats 400000 in
theorem onH_any (s : Seal) (p1 p2 p3 : Addr) (e v x : Int) (w : World) (h1 : w.cell? p1 = some (.int .i64 e)) (h2 : w.cell? p2 = some (.int .i64 v)) (h3 : w.cell? p3 = some (.int .i64 x)) :
    Calls Try.prog 38 #[.agg #[.int .i64 s.e, .int .i64 s.v, .int .i64 s.f, .int .i64 s.u, .int .i64 s.g], .pointer (some p1), .pointer (some p2), .pointer (some p3)] w fun r w' => r = .returned (.bool (onH e v x s)) ∧ Below w.heap.size w w' := by
  have g1 := World.block_lt_of_cell? w p1 h1
  have g2 := World.block_lt_of_cell? w p2 h2
  have g3 := World.block_lt_of_cell? w p3 h3
  have k1 : ∀ o, (w.alloc o).cell? p1 = some (.int .i64 e) := fun o => (World.cell?_alloc_lt w o p1 g1).trans h1
  have k2 : ∀ o, (w.alloc o).cell? p2 = some (.int .i64 v) := fun o => (World.cell?_alloc_lt w o p2 g2).trans h2
  have k3 : ∀ o, (w.alloc o).cell? p3 = some (.int .i64 x) := fun o => (World.cell?_alloc_lt w o p3 g3).trans h3
  clear h1 h2 h3
  go_enter Try.func38, Try.ntmps38
  go_wp2
  all_goals go_ret
  all_goals refine ⟨ret_bool ?_, (Below.refl _ _).alloc (Nat.le_refl _) _⟩
  all_goals clear k1 k2 k3
  all_goals first | (symm; apply onH_t; omega) | (symm; apply onH_f; omega) | (unfold onH; apply decide_eq_decide.2; omega)
set_option maxHeartbeats 400000 in
theorem liftc_any (s x : Seal) (B : Nat) (w : World) (fr : Nat × Nat) (t : TypeId) (hB : w.heap[B]? = some (.cells x.cells.toArray t fr)) :
    Calls Try.prog 44 #[.agg #[.int .i64 s.e, .int .i64 s.v, .int .i64 s.f, .int .i64 s.u, .int .i64 s.g], .pointer (some ⟨B, 0, none⟩)] w fun r w' => r = .returned (.bool (!decide (s = x))) ∧ Below w.heap.size w w' := by
  have hlt : B < w.heap.size := (Array.getElem?_eq_some_iff.1 hB).1
  have hB2 : ∀ o, (w.alloc o).heap[B]? = some (.cells x.cells.toArray t fr) := fun o => (Below.heap_alloc w o B hlt).trans hB
  have e0 := fun o => (seal_box (hB2 o)).1
  have e1 := fun o => (seal_box (hB2 o)).2.1
  have e2 := fun o => (seal_box (hB2 o)).2.2.1
  have e3 := fun o => (seal_box (hB2 o)).2.2.2.1
  have e4 := fun o => (seal_box (hB2 o)).2.2.2.2
  clear hB hB2
  have hq : ∀ w', (binOp .neq 41 (.agg #[.int .i64 s.e, .int .i64 s.v, .int .i64 s.f, .int .i64 s.u, .int .i64 s.g]) (.agg #[.int .i64 x.e, .int .i64 x.v, .int .i64 x.f, .int .i64 x.u, .int .i64 x.g])).run Try.prog w' = .ok (.bool (!decide (s = x))) w' := fun w' => neq_seal _ _ _
  go_enter Try.func44, Try.ntmps44
  go_wp2
  go_ret
  exact ⟨rfl, (Below.refl _ _).alloc (Nat.le_refl _) _⟩
end Go.Proofs.Ytfncpofcgalllaa
