/- The index of the last label: slices.Backward, and the range over it. No condition. -/
import Derived.RangeFuncNested
import Derived.RangeFuncBound
import Derived.RangeFuncCalls
import Derived.RangeFuncLeaves
import Derived.RangeFuncBox
import Derived.Shelf.Abstract
import Derived.Shelf.RegionOpen
import Derived.WalkKit
import Derived.OwnWalkIn
import Derived.TacticsInMore
import Derived.LoopNIn
import Derived.LoopIn
import Derived.Test.YthcklfelofpffaaDoorCerW10
namespace Go.Proofs.YthcklfelofpffaaDoor
open Go.RowKit Go.Shelf
attribute [local go_sem] Oper.semAt_some
/-- What has come when k rounds are over. -/
def upto {α : Type} (f : Nat → α) (k : Nat) : List α := (List.range k).map f
theorem upto_succ {α : Type} (f : Nat → α) (k : Nat) : upto f (k + 1) = upto f k ++ [f k] := by simp [upto, List.range_succ]
theorem upto_length {α : Type} (f : Nat → α) (k : Nat) : (upto f k).length = k := by simp [upto]
/-- The k-th pair from behind. -/
def bk (l : List ByteArray) (k : Nat) : Nat × ByteArray := (l.length - 1 - k, l[l.length - 1 - k]?.getD ⟨#[]⟩)
set_option maxRecDepth 100000 in
set_option maxHeartbeats 2000000 in
theorem back1_in (F : Fence) (n : Nat) (h8 : F.fn 94) (hro : F.round = none) (hn : 1 ≤ n) (lp Bs n₀ b off cap : Nat) (l : List ByteArray) (hreach : l.length ≤ 4611686018427387904) (hb : b < n₀) (J Jx : List (Nat × ByteArray) → World → Prop)
    (hY : ∀ pre x W, J pre W → pre.length < l.length → YieldAt F (n - 1) Tryd.prog lp #[.int .i64 (x.1 : Int), .string x.2] W fun e W' =>
      (e = .returned (.bool true) ∧ J (pre ++ [x]) W' ∧ Below n₀ W W') ∨ (e = .returned (.bool false) ∧ Jx (pre ++ [x]) W'))
    (hBs0 : Bs < n₀)
    (W : World) (hBs : W.cell? ⟨Bs, 0, none⟩ = some (.slice (some ⟨b, off, none⟩) l.length cap)) (hc : ∀ j, j < l.length → W.cell? ⟨b, off + j, none⟩ = some (.string (l[j]?.getD ⟨#[]⟩))) (h0 : J [] W) :
    CallsIn F n Tryd.prog 94 #[.func (.yield lp) #[] #[], .pointer (some ⟨Bs, 0, none⟩)] W fun e W' => (∃ v, e = .returned v) ∧
      ((∃ ys, ys = upto (bk l) l.length ∧ J ys W') ∨ (∃ pre, (∃ k, k ≤ l.length ∧ pre = upto (bk l) k) ∧ Jx pre W')) := by
  refine callsIn_of_wp Tryd.func94 rfl h8 ?_ hro
  simp only [Tryd.ntmps94, List.size_toArray, List.length_cons, List.length_nil, Nat.reduceAdd, Nat.reduceSub, Array.replicate_succ, Array.replicate_zero, List.push_toArray, List.append_toArray, List.nil_append, List.cons_append]
  have hl63 : (l.length : Int) ≤ 4611686018427387904 := by omega
  gi_wp2
  gi_loopw [3] (fun i wr => ∃ k : Nat, k ≤ l.length ∧ i = .int .i64 ((l.length : Int) - 1 - (k : Int)) ∧ J (upto (bk l) k) wr ∧ Below n₀ W wr)
    (fun i _ => (intOf i + 1).toNat)
  case atStart => exact ⟨0, Nat.zero_le _, by simp, h0, Below.refl _ _⟩
  case round =>
    obtain ⟨k, hk, rfl, hJs, hnx⟩ := hrel
    by_cases hlt : k < l.length
    · obtain ⟨j, hj⟩ : ∃ j, j = l.length - 1 - k := ⟨_, rfl⟩
      have e1 : (l.length : Int) - 1 - (k : Int) = (j : Int) := by omega
      have hj0 : (0 : Int) ≤ (j : Int) := by omega
      have hjl : (j : Int) < (l.length : Int) := by omega
      have hjl2 : j < l.length := by omega
      obtain ⟨fn, tmps, assign, body, hy, hR⟩ := hY _ (bk l k) wr hJs (by rw [upto_length]; exact hlt)
      have hbk : bk l k = (j, l[j]?.getD ⟨#[]⟩) := by unfold bk; rw [← hj]
      have HKJ : Hid ((j : Int) - 1 = (l.length : Int) - 1 - ((k + 1 : Nat) : Int)) := Lib.hid (by omega)
      rw [hbk] at hy hR
      have HBK := Lib.hid hbk
      dsimp only at hy
      have hcx' : wr.cell? ⟨b, off + j, none⟩ = some (.string (l[j]?.getD ⟨#[]⟩)) := (hnx.cell (p := ⟨b, off + j, none⟩) hb).trans (hc j hjl2)
      have hbs' : wr.cell? ⟨Bs, 0, none⟩ = some (.slice (some ⟨b, off, none⟩) l.length cap) := (hnx.cell (p := ⟨Bs, 0, none⟩) hBs0).trans hBs
      generalize l[j]?.getD ⟨#[]⟩ = x at *
      rw [e1]
      clear hj hbk e1
      gi_wp2
      refine hR.mono ?_
      rintro e W3 (⟨rfl, hJ3, hk3⟩ | ⟨rfl, hJx3⟩)
      · gi_wp2
        go_roundw
        case rel => exact ⟨k + 1, by omega, by rw [HKJ.out], by rw [upto_succ, HBK.out]; exact hJ3, hnx.trans hk3⟩
        case measure => simp [intOf]
      · gi_wp2
        refine bodyPost_ret (results_none rfl _ _ _) rfl ?_
        exact ⟨⟨_, rfl⟩, .inr ⟨_, ⟨k + 1, by omega, by rw [upto_succ, HBK.out]⟩, hJx3⟩⟩
    · obtain rfl : k = l.length := by omega
      have e1 : (l.length : Int) - 1 - (l.length : Int) = -1 := by omega
      rw [e1]
      gi_wp2
      go_end0
      exact ⟨⟨_, rfl⟩, .inl ⟨_, rfl, hJs⟩⟩
set_option maxRecDepth 100000 in
set_option maxHeartbeats 1000000 in
theorem back1_nil_in (F : Fence) (n : Nat) (h8 : F.fn 94) (hro : F.round = none) (lp Bs cap : Nat) (A : Option Addr) (J : List (Nat × ByteArray) → World → Prop) (W : World) (hBs : W.cell? ⟨Bs, 0, none⟩ = some (.slice A 0 cap)) (h0 : J [] W) :
    CallsIn F n Tryd.prog 94 #[.func (.yield lp) #[] #[], .pointer (some ⟨Bs, 0, none⟩)] W fun e W' => (∃ v, e = .returned v) ∧ J [] W' := by
  refine callsIn_of_wp Tryd.func94 rfl h8 ?_ hro
  simp only [Tryd.ntmps94, List.size_toArray, List.length_cons, List.length_nil, Nat.reduceAdd, Nat.reduceSub, Array.replicate_succ, Array.replicate_zero, List.push_toArray, List.append_toArray, List.nil_append, List.cons_append]
  gi_wp2
  gi_loopw [3] (fun i wr => i = .int .i64 (-1) ∧ J [] wr) (fun _ _ => 0)
  case atStart => exact ⟨rfl, h0⟩
  case round =>
    obtain ⟨rfl, hJs⟩ := hrel
    gi_wp2
    go_end0
    exact ⟨⟨_, rfl⟩, hJs⟩
set_option maxHeartbeats 1000000 in
/-- slices.Backward(s): the slice is boxed, the function captures the box. -/
theorem back_in (F : Fence) (n : Nat) (h6 : F.fn 75) (hro : F.round = none) (a : Option Addr) (len cap : Nat) (w : World) :
    CallsIn F n Tryd.prog 75 #[.slice a len cap] w fun e w' => e = .returned (.func (.func 94) #[] #[.pointer (some ⟨w.heap.size, 0, none⟩)]) ∧ w' = w.alloc (.cells #[.slice a len cap] 22) := by
  refine callsIn_of_wp Tryd.func75 rfl h6 ?_ hro
  simp only [Tryd.ntmps75, List.size_toArray, List.length_cons, List.length_nil, Nat.reduceAdd, Nat.reduceSub, Array.replicate_succ, Array.replicate_zero, List.push_toArray, List.append_toArray, List.nil_append, List.cons_append]
  gi_wp2
  go_ret
  exact ⟨rfl, rfl⟩
theorem back_stops (F : Fence) (n : Nat) (h8 : F.fn 94) (hro : F.round = none) (hn : 1 ≤ n) (Bs n₀ : Nat) (A : Option Addr) (cap : Nat) (l : List ByteArray) (hreach : l.length ≤ 4611686018427387904) (w : World) (hBs : Bs < n₀) (hn₀ : n₀ ≤ w.heap.size)
    (hc : w.cell? ⟨Bs, 0, none⟩ = some (.slice A l.length cap)) (hI : Sl w (fun g => g < n₀) A cap l) :
    SeqStopsK F n Tryd.prog 94 #[.pointer (some ⟨Bs, 0, none⟩)] (fun x : Nat × ByteArray => #[Value.int .i64 (x.1 : Int), Value.string x.2]) (Below n₀) (fun ys => ys = upto (bk l) l.length)
      (fun pre => ∃ k, k ≤ l.length ∧ pre = upto (bk l) k) l.length w := fun lp J Jx W hW _ _ hY h0 => by
  have hc' := (hW.cell (p := ⟨Bs, 0, none⟩) (by show Bs < w.heap.size; omega)).trans hc
  by_cases hl : l.length = 0
  · have hl2 : l = [] := List.eq_nil_of_length_eq_zero hl
    subst hl2
    exact (back1_nil_in F n h8 hro lp Bs cap A J W hc' h0).mono fun e W' ⟨he, hj⟩ => ⟨he, .inl ⟨_, rfl, hj⟩⟩
  · obtain ⟨b, o, rfl, hb, hlt, _⟩ := hI.2.2 (by omega)
    refine back1_in F n h8 hro hn lp Bs n₀ b o cap l hreach hb J Jx hY hBs W hc' (fun j hj => ?_) h0
    obtain ⟨b2, o2, e, hb2, hlt2, hx⟩ := str_at hI hj
    cases e
    refine (hW.cell (p := ⟨b, o + j, none⟩) hlt2).trans (hx.trans ?_)
    rw [List.getElem?_eq_getElem hj]; rfl
/-- The index of the last one, or -1. -/
def lastTo (l : List ByteArray) (x : ByteArray) : Nat → Int
  | 0 => -1
  | k + 1 => if l[k]?.getD ⟨#[]⟩ = x then (k : Int) else lastTo l x k
def lastIx (l : List ByteArray) (x : ByteArray) : Int := lastTo l x l.length
theorem lastTo_none {l : List ByteArray} {x : ByteArray} : ∀ k, (∀ j, j < k → l[j]?.getD ⟨#[]⟩ ≠ x) → lastTo l x k = -1
  | 0, _ => rfl
  | k + 1, h => by rw [lastTo, if_neg (h k (by omega)), lastTo_none k fun j hj => h j (by omega)]
theorem lastTo_some {l : List ByteArray} {x : ByteArray} {j : Nat} : ∀ k, j < k → l[j]?.getD ⟨#[]⟩ = x → (∀ i, j < i → i < k → l[i]?.getD ⟨#[]⟩ ≠ x) → lastTo l x k = (j : Int)
  | 0, h, _, _ => by omega
  | k + 1, h, hx, hn => by
    rw [lastTo]
    by_cases e : j = k
    · subst e; rw [if_pos hx]
    · rw [if_neg (hn k (by omega) (by omega)), lastTo_some k (by omega) hx fun i h1 h2 => hn i h1 (by omega)]
theorem tl_loop (s : ByteArray) : ∀ n i r, s.size - i = n → ByteArray.toList.loop s i r = r.reverse ++ s.data.toList.drop i := by
  intro n
  induction n with
  | zero => intro i r h; rw [ByteArray.toList.loop, if_neg (by omega), List.drop_of_length_le (by simp; omega)]; simp
  | succ n ih =>
    intro i r h
    have hi : i < s.size := by omega
    rw [ByteArray.toList.loop, if_pos hi, ih (i + 1) _ (by omega)]
    have hd : s.data.toList.drop i = s.get! i :: s.data.toList.drop (i + 1) := by
      rw [List.drop_eq_getElem_cons (by simpa using hi)]
      congr 1
      simp [ByteArray.get!, hi]
    rw [hd]; simp
theorem tl_data (s : ByteArray) : s.toList = s.data.toList := by
  unfold ByteArray.toList; rw [tl_loop s s.size 0 [] (by omega)]; simp
theorem tl_ne {a b : ByteArray} (h : a ≠ b) : (a.toList == b.toList) = false := by
  rw [beq_eq_false_iff_ne, tl_data, tl_data]
  intro e
  apply h
  apply ByteArray.ext
  exact Array.toList_inj.1 e
theorem tl_eq {a b : ByteArray} (h : a = b) : (a.toList == b.toList) = true := by rw [h]; simp
theorem tl_iff {a b : ByteArray} (h : (a.toList == b.toList) = true) : a = b := by
  by_cases e : a = b
  · exact e
  · rw [tl_ne e] at h; cases h
theorem tl_nif {a b : ByteArray} (h : (a.toList == b.toList) = false) : a ≠ b := by
  intro e; rw [tl_eq e] at h; cases h
set_option maxRecDepth 100000 in
set_option maxHeartbeats 4000000 in
theorem last_in (F : Fence) (n : Nat) (h4 : F.fn 50) (h6 : F.fn 75) (h8 : F.fn 94) (hro : F.round = none) (hn : 3 ≤ n) (AL A : Option Addr) (nL cL cap : Nat) (l : List ByteArray) (x : ByteArray) (w : World)
    (hs : Sl w (fun b => b < w.heap.size) A cap l) (hreach : l.length ≤ 4611686018427387904) :
    CallsIn F n Tryd.prog 50 #[.agg #[.slice AL nL cL, .slice A l.length cap], .string x] w fun e W' => e = .returned (.int .i64 (lastIx l x)) ∧ Below w.heap.size w W' := by
  have h1 : 1 ≤ n := by omega
  refine callsIn_of_wp_marks Tryd.func50 rfl h4 ?_ hro
  simp only [Tryd.ntmps50, List.size_toArray, List.length_cons, List.length_nil, Nat.reduceAdd, Nat.reduceSub, Array.replicate_succ, Array.replicate_zero, List.push_toArray, List.append_toArray, List.nil_append, List.cons_append]
  gi_wp2_with (gi_at_call 75; refine (back_in F (n - 1) h6 hro _ _ _ _).mono ?_; rintro e w' ⟨rfl, rfl⟩)
  have hB0 : Below w.heap.size w ((((w.alloc (.cells #[.slice AL nL cL, .slice A l.length cap] 36)).alloc (.cells #[.string x] 9)).alloc (.cells #[.int .i64 0] 3)).alloc (.cells #[.slice A l.length cap] 22)) := ((((Below.refl _ w).alloc (Nat.le_refl _) _).alloc (by simp) _).alloc (by first | (simp; done) | (simp; omega)) _).alloc (by first | (simp; done) | (simp; omega)) _
  have hsz0 : ((((w.alloc (.cells #[.slice AL nL cL, .slice A l.length cap] 36)).alloc (.cells #[.string x] 9)).alloc (.cells #[.int .i64 0] 3)).alloc (.cells #[.slice A l.length cap] 22)).heap.size = w.heap.size + 4 := by simp
  have b1 : ABox ((((w.alloc (.cells #[.slice AL nL cL, .slice A l.length cap] 36)).alloc (.cells #[.string x] 9)).alloc (.cells #[.int .i64 0] 3)).alloc (.cells #[.slice A l.length cap] 22)) (w.heap.size + 1) 9 [.string x] := (Below.heap_alloc _ _ _ (by first | (simp; done) | (simp; omega))).trans ((Below.heap_alloc _ _ _ (by first | (simp; done) | (simp; omega))).trans (heap_at (by simp)))
  have b2 : ABox ((((w.alloc (.cells #[.slice AL nL cL, .slice A l.length cap] 36)).alloc (.cells #[.string x] 9)).alloc (.cells #[.int .i64 0] 3)).alloc (.cells #[.slice A l.length cap] 22)) (w.heap.size + 1 + 1) 3 [.int .i64 0] := (Below.heap_alloc _ _ _ (by first | (simp; done) | (simp; omega))).trans (heap_at (by simp))
  have b3 : ABox ((((w.alloc (.cells #[.slice AL nL cL, .slice A l.length cap] 36)).alloc (.cells #[.string x] 9)).alloc (.cells #[.int .i64 0] 3)).alloc (.cells #[.slice A l.length cap] 22)) (w.heap.size + 1 + 1 + 1) 22 [.slice A l.length cap] := heap_at (by simp)
  have hs0 := hs.to hB0
  generalize ((((w.alloc (.cells #[.slice AL nL cL, .slice A l.length cap] 36)).alloc (.cells #[.string x] 9)).alloc (.cells #[.int .i64 0] 3)).alloc (.cells #[.slice A l.length cap] 22)) = W0 at *
  refine wpIn_rangeFunc_ownG hro h1 (gf := 94) (lb := #[.pointer (some ⟨w.heap.size + 1 + 1 + 1, 0, none⟩)]) rfl h8 (enters_of Tryd.func94 (by kernel_rfl) rfl)
    (back_stops F (n - 1) h8 hro (by omega) (w.heap.size + 1 + 1 + 1) (w.heap.size + 4) A cap l hreach W0 (by omega) (by omega) (b3.cell 0 rfl) (hs0.mono (fun i hi _ => by omega))) belowK_t (belowK_b (by omega)) (Below.refl _ _) (fun _ => rfl)
    (fun pre W => ((∀ p ∈ pre, p.2 ≠ x) ∧ W.cell? ⟨w.heap.size + 1, 0, none⟩ = some (.string x) ∧ W.cell? ⟨w.heap.size + 1 + 1, 0, none⟩ = some (.int .i64 0) ∧ W.frozen? ⟨w.heap.size + 1 + 1, 0, none⟩ = false) ∧ Below w.heap.size w W)
    (fun c pre W => (c = .ret ∧ ∃ ini last, pre = ini ++ [last] ∧ (∀ p ∈ ini, p.2 ≠ x) ∧ last.2 = x ∧ W.cell? ⟨w.heap.size + 1 + 1, 0, none⟩ = some (.int .i64 (last.1 : Int))) ∧ Below w.heap.size w W)
    (OwnFrom.and (Own.from (fun s A B row hs hg hr => ⟨hs.1, cell_kept hs.2.1 hg hr, cell_kept hs.2.2.1 hg hr, (frozen_kept hs.2.2.1 hg hr).trans hs.2.2.2⟩) _) (ownFrom_below (Nat.le_refl _) (by omega)))
    (fun c => OwnFrom.and (Own.from (fun s A B row hs hg hr => by obtain ⟨hc, ini, last, e1, e2, e3, e4⟩ := hs; exact ⟨hc, ini, last, e1, e2, e3, cell_kept e4 hg hr⟩) _) (ownFrom_below (Nat.le_refl _) (by omega)))
    ⟨⟨by simp, b1.cell 0 rfl, b2.cell 0 rfl, b2.fz 0⟩, hB0⟩
    (fun y => { tmps := #[.agg #[.slice AL nL cL, .slice A l.length cap], .string x, .pointer (some ⟨w.heap.size, 0, none⟩), .pointer (some ⟨w.heap.size + 1, 0, none⟩), .pointer (some ⟨w.heap.size + 1 + 1, 0, none⟩), .int .i64 (y.1 : Int), .string y.2, .pointer (some ⟨w.heap.size, 1, none⟩), .slice A l.length cap, .func (.func 94) #[] #[.pointer (some ⟨w.heap.size + 1 + 1 + 1, 0, none⟩)], .int .i64 (y.1 : Int), .string y.2, undef, undef, undef, undef], defers := [] }) ?assign ?body ?done ?stop
  case assign =>
    intro lp y W K hK
    gi_wp2
    exact hK
  case body =>
    rintro lp pre y W ⟨⟨hp, hcx, hcr, hfr⟩, hB⟩ _
    gi_wp2
    · have hx : y.2 = x := tl_iff (by assumption)
      exact ⟨(KeepsOthers.setCell _ _ _).from _, ⟨rfl, pre, y, rfl, hp, hx, World.cell?_setCell_same' _ _ _ (by rw [hcr]; rfl)⟩, hB.setCell (p := ⟨w.heap.size + 1 + 1, 0, none⟩) (by show w.heap.size ≤ w.heap.size + 1 + 1; omega) _⟩
    · have hx : y.2 ≠ x := tl_nif (by assumption)
      exact ⟨KeepsFrom.refl _ _, Below.refl _ _, ⟨fun p hp' => (List.mem_append.1 hp').elim (hp p) (fun e => by simp at e; subst e; exact hx), hcx, hcr, hfr⟩, hB⟩
  case done =>
    rintro D ys W hD rfl ⟨⟨hne, _, hcr, hfr⟩, hB⟩ hK
    gi_wp2
    have hK' := (KeepsOthers.setCell W ⟨w.heap.size + 1 + 1, 0, none⟩ (.int .i64 (-1))).same D _ hK rfl
    refine ⟨by simp, .inl ⟨_, _, rfl, run_takeDeferred hK', ?_⟩⟩
    have hc5 := cell_kept (World.cell?_setCell_same' W ⟨w.heap.size + 1 + 1, 0, none⟩ (.int .i64 (-1)) (by rw [hcr]; rfl)) (grownBy_putObj' _ D (.deferred none)) (fun r e => by cases e; exact ⟨_, hK', rfl⟩)
    refine ⟨.int .i64 (-1), ?_, ?_, (hB.setCell (p := ⟨w.heap.size + 1 + 1, 0, none⟩) (by show w.heap.size ≤ w.heap.size + 1 + 1; omega) _).trans (belowK_b (w := w) (Nat.le_refl _) _ D _ _ (by omega) hK' rfl rfl)⟩
    · simp [results, Tryd.f50, go_sem, hc5]
    · rw [lastIx, lastTo_none]
      intro j hj
      refine hne (j, l[j]?.getD ⟨#[]⟩) ?_
      simp only [upto, List.mem_map, List.mem_range]
      exact ⟨l.length - 1 - j, by omega, by unfold bk; rw [show l.length - 1 - (l.length - 1 - j) = j by omega]⟩
  case stop =>
    rintro D c pre W hD ⟨k, hk, rfl⟩ ⟨⟨rfl, ini, last, e1, e2, e3, hcr⟩, hB⟩ hK
    gi_wp2
    refine ⟨by simp, .inl ⟨_, _, rfl, run_takeDeferred hK, ?_⟩⟩
    have hc5 := cell_kept hcr (grownBy_putObj' _ D (.deferred none)) (fun r e => by cases e; exact ⟨_, hK, rfl⟩)
    obtain ⟨k', rfl⟩ : ∃ k', k = k' + 1 := by
      cases k with
      | zero => simp [upto] at e1
      | succ k' => exact ⟨k', rfl⟩
    rw [upto_succ] at e1
    obtain ⟨rfl, e5⟩ := List.append_inj' e1 rfl
    obtain rfl : bk l k' = last := by simpa using e5
    refine ⟨.int .i64 ((bk l k').1 : Int), ?_, ?_, hB.trans (belowK_b (w := w) (Nat.le_refl _) W D _ _ (by omega) hK rfl rfl)⟩
    · simp [results, Tryd.f50, go_sem, hc5]
    · rw [lastIx, lastTo_some (j := l.length - 1 - k') l.length (by omega) e3 (fun i h1 h2 => ?_)]
      · rfl
      · refine e2 (i, l[i]?.getD ⟨#[]⟩) ?_
        simp only [upto, List.mem_map, List.mem_range]
        exact ⟨l.length - 1 - i, by omega, by unfold bk; rw [show l.length - 1 - (l.length - 1 - i) = i by omega]⟩
theorem last_any (AL A : Option Addr) (nL cL cap n : Nat) (l : List ByteArray) (x : ByteArray) (w : World) (hs : Sl w (fun b => b < w.heap.size) A cap l) (hn : l.length = n) (hreach : l.length ≤ 4611686018427387904) :
    Calls Tryd.prog 50 #[.agg #[.slice AL nL cL, .slice A n cap], .string x] w fun e W' => e = .returned (.int .i64 (lastIx l x)) ∧ Below w.heap.size w W' := by
  subst hn
  exact (callsIn_wide (n := 3)).1 (last_in .wide 3 trivial trivial trivial rfl (Nat.le_refl _) AL A nL cL cap l x w hs hreach)
end Go.Proofs.YthcklfelofpffaaDoor
