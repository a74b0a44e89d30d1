/- A number of a list that a function takes; the check of widths; the slack of a line. No condition but that the numbers are regular.
An element of a row of one's own is written anew. No condition.
Making a slice of so many zero values. No condition but sizes.
The ends of the lines of a paragraph. No condition but that the arguments are regular.
Repeating one number. No condition but that the count is small.
The gaps of a line. No condition but that the arguments are regular.
Elements whose own memory lies above a bound; rows of so many zero elements. No condition. -/
import Derived.Test.YtakaielemicpkaaGreatDoorBZb2
import Derived.Deep.MidRow
import Derived.Laws.MakeOwn
import Derived.Deep.CutRange
import Derived.WalkMore
import Derived.Deep.CutBlock
import Derived.Laws.CopyOwn
namespace Go.Proofs.YtakaielemicpkaaGreatDoor
open Go.RowKit
def anyI (p : Int → Bool) (l : List Int) : Bool := l.any p
theorem anyI_take (p : Int → Bool) (l : List Int) (k : Nat) (h : k < l.length) : anyI p (l.take (k + 1)) = (anyI p (l.take k) || p l[k]) := by
  unfold anyI
  rw [List.take_succ_eq_append_getElem h, List.any_append]; simp
theorem anyI_hit (p : Int → Bool) (l : List Int) (k : Nat) (h : k < l.length) (hp : p l[k] = true) : anyI p l = true := List.any_eq_true.2 ⟨_, List.getElem_mem h, hp⟩
def IsIdxI (p : Int → Bool) (l : List Int) (w : World) (e : Ending) (w' : World) : Prop := ∃ r : Int, e = .returned (.int .i64 r) ∧ decide (0 ≤ r) = anyI p l ∧ w = w'
set_option maxHeartbeats 1000000 in
theorem indexFuncI_any (A : Option Addr) (c n : Nat) (l : List Int) (f : FuncId) (p : Int → Bool) (w : World) (hl : Sl w (fun b => b < w.heap.size) A c l) (hn : l.length = n)
    (hcf : ∀ (w' : World) (args : Array Value), (callFunc f args).run Tryz.prog w' = .ok (.enter f args) w')
    (hf : ∀ (x : Int) (w' : World), I64 x → Calls Tryz.prog f #[.int .i64 x] w' fun e w'' => e = .returned (.bool (p x)) ∧ w' = w'') :
    Calls Tryz.prog 160 #[.slice A n c, .func (.func f) #[] #[]] w (IsIdxI p l w) := by
  subst hn
  have hlen : l.length ≤ 9223372036854775807 := by have := hl.1; have := hl.2.1; unfold maxLen at this; omega
  have Hf := Lib.hid hf
  have Hl := Lib.hid hl
  clear hf hl
  go_enter Tryz.func160, Tryz.ntmps160
  go_wp2_with fail
  go_loopw [5, 8] (fun _ i wr => ∃ k : Nat, k ≤ l.length ∧ i = .int .i64 k ∧ Hid (anyI p (l.take k) = false) ∧ wr = w) (fun _ i _ => l.length - (intOf i).toNat)
  case atStart => exact ⟨0, Nat.zero_le _, rfl, Lib.hid (by simp [anyI]), rfl⟩
  case round =>
    obtain ⟨k, hk, rfl, hno, rfl⟩ := hrel
    by_cases hlt : k < l.length
    · obtain ⟨b, o, rfl, _, hbl, hok, hc⟩ := int_at Hl.out hlt
      have hkl : (k : Int) < (l.length : Int) := by omega
      have hk0 : (0 : Int) ≤ (k : Int) := by omega
      have HT := Lib.hid (anyI_take p l k hlt)
      have HH := Lib.hid (anyI_hit p l k hlt)
      have HOK := Lib.hid hok
      generalize l[k] = q at *
      clear hok
      go_wp2_with fail
      refine (Hf.out q _ HOK.out).mono ?_
      rintro e w' ⟨rfl, rfl⟩
      cases hp : p q
      · have E := Lib.hid (show anyI p (l.take (k + 1)) = false by rw [HT.out, hno.out, hp]; rfl)
        clear hp
        go_wp2_with fail
        go_roundw
        case rel => exact ⟨k + 1, by omega, by go_num, E, by first | trivial | rfl⟩
        case measure => simp [intOf]; omega
      · have E := Lib.hid (HH.out hp)
        clear hp
        go_wp2_with fail
        go_ret
        exact ⟨k, rfl, by rw [E.out]; exact decide_eq_true hk0, rfl⟩
    · have E := Lib.hid (show anyI p l = false by have := hno.out; rwa [List.take_of_length_le (by omega)] at this)
      go_wp2_with fail
      go_ret
      exact ⟨-1, rfl, by rw [E.out]; rfl, rfl⟩
set_option maxHeartbeats 400000 in
theorem containsFuncI_any (A : Option Addr) (c n : Nat) (l : List Int) (f : FuncId) (p : Int → Bool) (w : World) (hl : Sl w (fun b => b < w.heap.size) A c l) (hn : l.length = n)
    (hcf : ∀ (w' : World) (args : Array Value), (callFunc f args).run Tryz.prog w' = .ok (.enter f args) w')
    (hf : ∀ (x : Int) (w' : World), I64 x → Calls Tryz.prog f #[.int .i64 x] w' fun e w'' => e = .returned (.bool (p x)) ∧ w' = w'') :
    Calls Tryz.prog 153 #[.slice A n c, .func (.func f) #[] #[]] w fun e w' => e = .returned (.bool (anyI p l)) ∧ w = w' := by
  have Hi := Lib.hid (indexFuncI_any A c n l f p w hl hn hcf hf)
  clear hl hf hcf
  go_enter Tryz.func153, Tryz.ntmps153
  go_wp2_with fail
  refine Hi.out.mono ?_
  rintro e w' ⟨r, rfl, hr, rfl⟩
  have Hr := Lib.hid hr
  clear hr
  go_wp2_with fail
  go_ret
  exact ⟨ret_bool Hr.out, rfl⟩
def oddW (x : Int) : Bool := decide (x < 1) || decide (480 < x)
theorem oddW_any (x : Int) (w : World) (_hx : I64 x) : Calls Tryz.prog 154 #[.int .i64 x] w fun e w' => e = .returned (.bool (oddW x)) ∧ w = w' := by
  unfold oddW
  by_cases h1 : x < 1
  · rw [decide_eq_true h1, Bool.true_or]
    go_enter Tryz.func154, Tryz.ntmps154
    go_wp2_with fail
    go_ret
    exact ⟨rfl, rfl⟩
  · rw [decide_eq_false h1, Bool.false_or]
    by_cases h2 : 480 < x
    · rw [decide_eq_true h2]
      go_enter Tryz.func154, Tryz.ntmps154
      go_wp2_with fail
      go_ret
      exact ⟨rfl, rfl⟩
    · rw [decide_eq_false h2]
      go_enter Tryz.func154, Tryz.ntmps154
      go_wp2_with fail
      go_ret
      exact ⟨rfl, rfl⟩
set_option maxRecDepth 100000 in
theorem reg_odd {ws : List Int} {m : Int} (h : Reg ws m) : anyI oddW ws = false := by
  unfold anyI
  rw [List.any_eq_false]
  intro x hx
  obtain ⟨h1, h2⟩ := h.w x hx
  unfold oddW
  simp; omega
set_option maxRecDepth 100000 in
theorem pcheck_any (A : Option Addr) (c : Nat) (ws : List Int) (m : Int) (w : World) (hs : Sl w (fun b => b < w.heap.size) A c ws) (hr : Reg ws m) :
    Calls Tryz.prog 145 #[.slice A ws.length c, .int .i64 m] w fun e w' => e = .returned (.int .i64 0) ∧ w = w' := by
  have HC := Lib.hid (containsFuncI_any A c ws.length ws 154 oddW w hs rfl (fun _ _ => rfl) (fun x w' hx => oddW_any x w' hx))
  rw [reg_odd hr] at HC
  have h1 : ¬ (500 : Int) < (ws.length : Int) := by have := hr.n; omega
  have h2 : ¬ m < 500 := by have := hr.lo; omega
  have h3 : ¬ 2000 < m := by have := hr.hi; omega
  clear hs hr
  go_enter Tryz.func145, Tryz.ntmps145
  go_wp2_with fail
  refine HC.out.mono ?_
  rintro e w' ⟨rfl, rfl⟩
  go_wp2_with fail
  go_ret
  exact ⟨rfl, rfl⟩
theorem slackP_bound (ws : List Int) (hw : ∀ x ∈ ws, 1 ≤ x ∧ x ≤ 480) : ∀ (s : Int), ws.foldl (fun s w => s - (w + 6)) s ≤ s ∧ s - 486 * (ws.length : Int) ≤ ws.foldl (fun s w => s - (w + 6)) s := by
  induction ws with
  | nil => intro s; simp
  | cons x ws ih =>
    intro s
    have h1 := hw x (by simp)
    have h2 := ih (fun y hy => hw y (by simp [hy])) (s - (x + 6))
    simp only [List.foldl_cons, List.length_cons]
    omega
theorem slack_any (A : Option Addr) (c : Nat) (ws : List Int) (m : Int) (w : World) (hs : Sl w (fun b => b < w.heap.size) A c ws) (hr : Reg ws m) :
    Calls Tryz.prog 147 #[.slice A ws.length c, .int .i64 m] w fun e w' => e = .returned (.int .i64 (slackP ws m)) ∧ w = w' := by
  have HS := Lib.hid hs
  have HR := Lib.hid hr
  have h1 : m ≤ 2000 := hr.hi
  have h2 : 500 ≤ m := hr.lo
  have h3 : ws.length ≤ 500 := hr.n
  clear hs hr
  go_enter Tryz.func147, Tryz.ntmps147
  go_wp2_with fail
  go_loopw [5, 12] (fun s i wr => ∃ (k : Nat), k ≤ ws.length ∧ i = .int .i64 k ∧ s = .int .i64 (slackP (ws.take k) m) ∧ wr = w) (fun _ i _ => ws.length - (intOf i).toNat)
  case atStart => exact ⟨0, Nat.zero_le _, rfl, rfl, rfl⟩
  case round =>
    obtain ⟨k, hk, rfl, rfl, rfl⟩ := hrel
    by_cases hlt : k < ws.length
    · obtain ⟨b, o, rfl, _, hbl, hok, hc⟩ := int_at HS.out hlt
      have hkl : (k : Int) < (ws.length : Int) := by omega
      have hk0 : (0 : Int) ≤ (k : Int) := by omega
      have hx := HR.out.w ws[k] (List.getElem_mem hlt)
      have HN : Hid (slackP (ws.take (k + 1)) m = slackP (ws.take k) m - (ws[k] + 6)) := Lib.hid (by unfold slackP; rw [List.take_succ_eq_append_getElem hlt, List.foldl_append]; rfl)
      have hb := slackP_bound (ws.take k) (fun x hx => HR.out.w x (List.mem_of_mem_take hx)) (m + 6)
      have hlen : (ws.take k).length = k := by rw [List.length_take]; omega
      rw [hlen] at hb
      have hb1 : slackP (ws.take k) m ≤ 2006 := by unfold slackP; omega
      have hb2 : -300000 ≤ slackP (ws.take k) m := by unfold slackP; omega
      generalize slackP (ws.take k) m = s at *
      generalize ws[k] = x at *
      obtain ⟨hx1, hx2⟩ := hx
      clear hb hlen
      go_wp2_with fail
      go_roundw
      case rel => exact ⟨k + 1, by omega, by go_num, by rw [HN.out], by first | trivial | rfl⟩
      case measure => (simp [intOf]; omega)
    · have HE : Hid (slackP (ws.take k) m = slackP ws m) := Lib.hid (by rw [List.take_of_length_le (by omega)])
      go_wp2_with fail
      go_ret
      exact ⟨by rw [← HE.out]; rfl, rfl⟩
end Go.Proofs.YtakaielemicpkaaGreatDoor
namespace Go.Proofs.YtakaielemicpkaaGreatDoor
open Go.RowKit
def setL (cur : Array Value) : Nat → List Value → Array Value
  | _, [] => cur
  | o, v :: vs => setL (cur.setIfInBounds o v) (o + 1) vs
theorem setL_size : ∀ (vs : List Value) (cur : Array Value) (o : Nat), (setL cur o vs).size = cur.size
  | [], _, _ => rfl
  | v :: vs, cur, o => by rw [setL, setL_size vs]; simp
theorem setL_get : ∀ (vs : List Value) (cur : Array Value) (o k : Nat), o + vs.length ≤ cur.size → (setL cur o vs)[k]? = if o ≤ k ∧ k < o + vs.length then vs[k - o]? else cur[k]?
  | [], cur, o, k, _ => by rw [setL, if_neg (by simp only [List.length_nil]; omega)]
  | v :: vs, cur, o, k, h => by
    rw [List.length_cons] at h
    rw [setL, setL_get vs _ (o + 1) k (by simp; omega), List.length_cons]
    by_cases h1 : o = k
    · subst h1
      rw [if_neg (by omega), if_pos ⟨Nat.le_refl _, by omega⟩, Nat.sub_self, List.getElem?_cons_zero, Array.getElem?_setIfInBounds]
      simp; omega
    · by_cases h2 : o + 1 ≤ k ∧ k < o + 1 + vs.length
      · rw [if_pos h2, if_pos (by omega)]
        obtain ⟨d, hd⟩ : ∃ d, k - o = d + 1 := ⟨k - o - 1, by omega⟩
        rw [hd, List.getElem?_cons_succ]
        congr 1; omega
      · rw [if_neg h2, if_neg (by omega), Array.getElem?_setIfInBounds_ne h1]
theorem heap_setCells_at (b : Nat) : ∀ (vs : List Value) (o : Nat) (w : World) {cur : Array Value} {t : TypeId} {fr : Nat × Nat}, w.heap[b]? = some (.cells cur t fr) → (w.setCells b o vs).heap[b]? = some (.cells (setL cur o vs) t fr)
  | [], _, _, _, _, _, h => h
  | v :: vs, o, w, cur, t, fr, h => by
    refine heap_setCells_at b vs (o + 1) (w.setCell ⟨b, o, none⟩ v) ?_
    simp only [World.setCell, Array.getElem?_modify, if_true, h, Option.map_some, Option.isSome_none, Bool.false_eq_true, if_false]
theorem heap_setCells_ne (b : Nat) {i : Nat} (hi : i ≠ b) : ∀ (vs : List Value) (o : Nat) (w : World), (w.setCells b o vs).heap[i]? = w.heap[i]?
  | [], _, _ => rfl
  | v :: vs, o, w => by
    refine (heap_setCells_ne b hi vs (o + 1) (w.setCell ⟨b, o, none⟩ v)).trans ?_
    simp only [World.setCell, Array.getElem?_modify]
    rw [if_neg (fun e => hi e.symm)]
theorem size_setCells (b : Nat) : ∀ (vs : List Value) (o : Nat) (w : World), (w.setCells b o vs).heap.size = w.heap.size
  | [], _, _ => rfl
  | v :: vs, o, w => (size_setCells b vs (o + 1) (w.setCell ⟨b, o, none⟩ v)).trans (by simp [World.setCell])
theorem below_setCells {B b : Nat} (hb : B ≤ b) : ∀ (vs : List Value) (o : Nat) {w0 w : World}, Below B w0 w → Below B w0 (w.setCells b o vs)
  | [], _, _, _, h => h
  | v :: vs, o, _, _, h => below_setCells hb vs (o + 1) (h.setCell (p := ⟨b, o, none⟩) hb v)
section
variable {α : Type} [Rep α] {w : World} {base g c : Nat} {e : TypeId} {l : List α}
theorem Own.there (h : Own w base e (.slice (some ⟨g, 0, none⟩) l.length c) l) {i : Nat} (hi : i < l.length) : w.there g (i * Rep.size α) (Rep.size α) := by
  obtain ⟨xs, hx, ho, hr⟩ := h
  rcases hx.2 with ⟨h1, _⟩ | ⟨g', cap, cur, h1, hb, hg, hnc, hcm, hcs, htake⟩
  · cases h1
  · cases h1
    intro j hj
    have h2 : (i + 1) * Rep.size α ≤ l.length * Rep.size α := Nat.mul_le_mul_right _ hi
    have h3 : l.length * Rep.size α ≤ c * Rep.size α := Nat.mul_le_mul_right _ hnc
    rw [Nat.add_mul, Nat.one_mul] at h2
    refine ⟨?_, by simp [World.frozen?, hg]⟩
    rw [cell_of_row _ _ _ _ _ _ hg, Array.getElem?_eq_getElem (by omega)]; rfl
theorem Own.setMid (h : Own w base e (.slice (some ⟨g, 0, none⟩) l.length c) l) {i : Nat} (hi : i < l.length) {cs : List Value} {x : α} (hr : Rep.R w (fun b => b ≠ g) cs x) :
    Own (w.setCells g (i * Rep.size α) cs) base e (.slice (some ⟨g, 0, none⟩) l.length c) (l.set i x) := by
  obtain ⟨xs, hx, ho, hq⟩ := h
  rcases hx.2 with ⟨h1, _⟩ | ⟨g', cap, cur, h1, hb, hg, hnc, hcm, hcs, htake⟩
  · cases h1
  · cases h1
    have hlen := Rep.len hr
    have h2 : (i + 1) * Rep.size α ≤ l.length * Rep.size α := Nat.mul_le_mul_right _ hi
    have h3 : l.length * Rep.size α ≤ c * Rep.size α := Nat.mul_le_mul_right _ hnc
    rw [Nat.add_mul, Nat.one_mul] at h2
    have hfit : i * Rep.size α + cs.length ≤ cur.size := by omega
    have hkept : Kept (fun b => b ≠ g) w (w.setCells g (i * Rep.size α) cs) := fun k hk _ => heap_setCells_ne g hk _ _ _
    have hl2 : (setL cur (i * Rep.size α) cs).toList.length = cur.size := (Array.length_toList).trans (setL_size _ _ _)
    have hxl : ((setL cur (i * Rep.size α) cs).toList.take (l.length * Rep.size α)).length = l.length * Rep.size α := by
      rw [List.length_take, hl2]; omega
    have hget : ∀ k, ((setL cur (i * Rep.size α) cs).toList.take (l.length * Rep.size α))[k]? = if i * Rep.size α ≤ k ∧ k < i * Rep.size α + cs.length then cs[k - i * Rep.size α]? else xs[k]? := by
      intro k
      have e1 : (setL cur (i * Rep.size α) cs).toList[k]? = (setL cur (i * Rep.size α) cs)[k]? := by simp
      have e2 : cur.toList[k]? = cur[k]? := by simp
      rw [← htake, List.getElem?_take, List.getElem?_take, e1, e2, setL_get _ _ _ _ hfit]
      by_cases hk : k < l.length * Rep.size α
      · rw [if_pos hk, if_pos hk]
      · rw [if_neg hk, if_neg hk, if_neg (by omega)]
    refine ⟨(setL cur (i * Rep.size α) cs).toList.take (l.length * Rep.size α), ⟨by rw [List.length_set]; exact hxl, .inr ⟨g, c, setL cur (i * Rep.size α) cs, by rw [List.length_set], hb, heap_setCells_at g _ _ _ hg, by rw [List.length_set]; exact hnc, hcm, by rw [setL_size]; exact hcs, by rw [List.length_set]⟩⟩, ?_, ?_⟩
    · intro u hu
      obtain ⟨k, hk⟩ := List.getElem?_of_mem hu
      rw [hget] at hk
      split at hk
      · exact Rep.one hr u (List.mem_of_getElem? hk)
      · exact ho u (List.mem_of_getElem? hk)
    · intro j hj
      have hj' : j < l.length := by rw [List.length_set] at hj; exact hj
      by_cases hij : i = j
      · subst hij
        have ht : ((((setL cur (i * Rep.size α) cs).toList.take (l.length * Rep.size α)).drop (i * Rep.size α)).take (Rep.size α)) = cs := by
          apply List.ext_getElem?
          intro k
          rw [List.getElem?_take, List.getElem?_drop, hget]
          by_cases hk : k < Rep.size α
          · rw [if_pos hk, if_pos (by omega)]
            congr 1; omega
          · rw [if_neg hk, List.getElem?_eq_none (by omega)]
        rw [List.getElem_set_self, ht]
        exact Rep.mono (Rep.keep hr hkept) (fun b hb _ => by simpa [Value.ownBlock] using fun e => hb e)
      · have ht : ((((setL cur (i * Rep.size α) cs).toList.take (l.length * Rep.size α)).drop (j * Rep.size α)).take (Rep.size α)) = (xs.drop (j * Rep.size α)).take (Rep.size α) := by
          apply List.ext_getElem?
          intro k
          rw [List.getElem?_take, List.getElem?_drop, hget, List.getElem?_take, List.getElem?_drop]
          by_cases hk : k < Rep.size α
          · rw [if_pos hk, if_pos hk, if_neg]
            rcases Nat.lt_or_gt_of_ne hij with h4 | h4
            · have h5 : (i + 1) * Rep.size α ≤ j * Rep.size α := Nat.mul_le_mul_right _ h4
              rw [Nat.add_mul, Nat.one_mul] at h5
              omega
            · have h5 : (j + 1) * Rep.size α ≤ i * Rep.size α := Nat.mul_le_mul_right _ h4
              rw [Nat.add_mul, Nat.one_mul] at h5
              omega
          · rw [if_neg hk, if_neg hk]
        rw [List.getElem_set_ne hij, ht]
        exact Rep.keep (hq j hj') (fun k hk _ => heap_setCells_ne g (fun e => hk (by rw [e]; rfl)) _ _ _)
end
end Go.Proofs.YtakaielemicpkaaGreatDoor
namespace Go.Proofs.YtakaielemicpkaaGreatDoor
open Go.RowKit
theorem wp_make {P : Program} {o : Oper} {a : Act} {w : World} {K : Act → World → Prop} {Q : Exit → Act → World → Prop} (t : TypeId) (x y : Operand) (ho : o.op = .makeSlice t x y) (e : TypeId) (z : Value) (size bytes : Nat)
    (ht : P.underlying t = some (.slice e)) (hinfo : (P.info? e).map (fun i => (i.zero, i.size, i.bytes)) = some (some z, size, bytes)) (n : Nat) (hx : a.eval x = .int .i64 (n : Int)) (hy : a.eval y = .int .i64 (n : Int)) (hb : n * bytes ≤ 140737488355328) (h63 : n ≤ 9223372036854775807)
    (h : K (a.put o.dst (.slice (some ⟨w.heap.size, 0, none⟩) n n)) (w.alloc (.cells (madeCells z.cells (n * size)) e))) : o.wp P a w K Q := by
  obtain ⟨i, hi, hz, hsz, hbz⟩ := info_parts hinfo
  have hb' : (i.bytes : Int) * (n : Int) ≤ 281474976710656 := by
    rw [hbz]
    have h : ((bytes * n : Nat) : Int) ≤ 281474976710656 := by rw [Nat.mul_comm]; omega
    rwa [Int.natCast_mul] at h
  have hr := run_make (P := P) w t e i z ht hi hz .i64 .i64 n n (by omega) (Int.le_refl _) hb' (by omega)
  simp only [Int.toNat_natCast, hsz] at hr
  unfold Oper.wp execOp
  simp only [ho, hx, hy, Sem.run_bind, hr, Result.andThen_ok, Sem.run_pure]
  exact h
theorem wpList_make {P : Program} {ops : Array Oper} {rest : List Oper} {o : Oper} {a : Act} {w : World} {Q : Exit → Act → World → Prop} (hgd : o.guard = none) (t : TypeId) (x y : Operand) (ho : o.op = .makeSlice t x y) (e : TypeId) (z : Value) (size bytes : Nat)
    (ht : P.underlying t = some (.slice e)) (hinfo : (P.info? e).map (fun i => (i.zero, i.size, i.bytes)) = some (some z, size, bytes)) (n : Nat) (hx : a.eval x = .int .i64 (n : Int)) (hy : a.eval y = .int .i64 (n : Int)) (hb : n * bytes ≤ 140737488355328) (h63 : n ≤ 9223372036854775807)
    (h : wpList P ops Q rest (a.put o.dst (.slice (some ⟨w.heap.size, 0, none⟩) n n)) (w.alloc (.cells (madeCells z.cells (n * size)) e))) : wpList P ops Q (o :: rest) a w :=
  wpList_plain hgd fun _ hK => wp_make t x y ho e z size bytes ht hinfo n hx hy hb h63 (hK _ _ h)
theorem made_ints (n : Nat) : madeCells (Value.int .i64 0).cells (n * 1) = ((List.replicate n (0 : Int)).map (Value.int .i64)).toArray := by
  apply Array.ext'
  unfold madeCells
  rw [Nat.mul_one]
  apply List.ext_getElem?
  intro i
  simp only [Value.cells, List.getElem?_map, List.getElem?_replicate, Array.toList_map, Array.toList_range]
  by_cases h : i < n
  · rw [List.getElem?_range h, if_pos h]
    simp [Nat.mod_one]
  · rw [List.getElem?_eq_none (by simpa using h), if_neg h]; rfl
theorem irow_made (w : World) (n : Nat) (t : TypeId) : IRow (w.alloc (.cells (madeCells (Value.int .i64 0).cells (n * 1)) t)) w.heap.size t (List.replicate n 0) := by
  rw [made_ints]; exact heap_alloc_new w _
theorem int_info : (Tryz.prog.info? 3).map (fun i => (i.zero, i.size, i.bytes)) = some (some (.int .i64 0), 1, 8) := by kernel_rfl
end Go.Proofs.YtakaielemicpkaaGreatDoor
namespace Go.Proofs.YtakaielemicpkaaGreatDoor
open Go.RowKit
def rowC (ws : List Int) (m : Int) (k i : Nat) (cur : Int) : List Int := List.replicate i 0 ++ cur :: (bestL ws m k).map (·.1)
def rowE (ws : List Int) (m : Int) (k i : Nat) (cur : Int) : List Int := List.replicate i 0 ++ cur :: (bestL ws m k).map (fun x => (x.2 : Int))
theorem rowC_start (ws : List Int) (m : Int) : List.replicate (ws.length + 1) (0 : Int) = List.replicate ws.length 0 ++ (bestL ws m 0).map (·.1) := by rw [List.replicate_succ']; rfl
theorem rowE_start (ws : List Int) (m : Int) : List.replicate (ws.length + 1) (0 : Int) = List.replicate ws.length 0 ++ (bestL ws m 0).map (fun x => (x.2 : Int)) := by rw [List.replicate_succ']; rfl
theorem row_open (i : Nat) (l : List Int) : List.replicate (i + 1) (0 : Int) ++ l = List.replicate i 0 ++ 0 :: l := by rw [List.replicate_succ', List.append_assoc]; rfl
theorem row_set (i : Nat) (l : List Int) (x y : Int) : (List.replicate i 0 ++ x :: l).set i y = List.replicate i 0 ++ y :: l := by
  rw [List.set_append_right _ _ (by simp)]
  simp
theorem row_at (i : Nat) (l : List Int) (x : Int) : (List.replicate i 0 ++ x :: l)[i]? = some x := by
  rw [List.getElem?_append_right (by simp)]; simp
theorem best_next (ws : List Int) (m : Int) {i k : Nat} (h : i + 1 + k = ws.length) : bestL ws m (k + 1) = scanE ws.length (ws.drop i) (bestL ws m k) (m + 6) (i + 1) true (0, 0) :: bestL ws m k := by
  have e : ws.length - (k + 1) = i := by omega
  rw [bestL, e]
theorem rowC_next {ws : List Int} {m : Int} {i k : Nat} {cur : Int × Nat} (h : i + 1 + k = ws.length) (hc : scanE ws.length (ws.drop i) (bestL ws m k) (m + 6) (i + 1) true (0, 0) = cur) : rowC ws m k i cur.1 = List.replicate i 0 ++ (bestL ws m (k + 1)).map (·.1) := by
  rw [best_next ws m h, hc]; rfl
theorem rowE_next {ws : List Int} {m : Int} {i k : Nat} {cur : Int × Nat} (h : i + 1 + k = ws.length) (hc : scanE ws.length (ws.drop i) (bestL ws m k) (m + 6) (i + 1) true (0, 0) = cur) : rowE ws m k i (cur.2 : Int) = List.replicate i 0 ++ (bestL ws m (k + 1)).map (fun x => (x.2 : Int)) := by
  rw [best_next ws m h, hc]; rfl
theorem head_drop (l : List (Int × Nat)) (d : Nat) (x : Int × Nat) (h : l[d]? = some x) : (l.drop d).headD (0, 0) = x := by
  rw [List.headD_eq_head?_getD, List.head?_drop, h]; rfl
theorem ends_at (ws : List Int) (m : Int) (a : Nat) (h : a < ws.length) : ((bestL ws m ws.length).map (fun x => (x.2 : Int)))[a]? = some ((bestAt ws m a).2 : Int) := by
  unfold bestAt
  rw [List.getElem?_map, List.getD_eq_getElem?_getD, List.getElem?_eq_getElem (by rw [bestL_length]; omega)]; rfl
theorem chain_at (ws : List Int) (m : Int) (a f : Nat) (h : a < ws.length) : chainE ((bestL ws m ws.length).map (·.2)) ws.length (f + 1) a = (bestAt ws m a).2 :: chainE ((bestL ws m ws.length).map (·.2)) ws.length f (bestAt ws m a).2 := by
  have e : ((bestL ws m ws.length).map (·.2)).getD a 0 = (bestAt ws m a).2 := by
    unfold bestAt
    rw [List.getD_eq_getElem?_getD, List.getD_eq_getElem?_getD, List.getElem?_map, List.getElem?_eq_getElem (by rw [bestL_length]; omega)]; rfl
  rw [chainE, if_pos h, e]
theorem row_behind (i d : Nat) (l : List Int) (x : Int) : (List.replicate i 0 ++ x :: l)[i + d + 1]? = l[d]? := by
  rw [List.getElem?_append_right (by simp; omega)]
  have : i + d + 1 - (List.replicate i (0 : Int)).length = d + 1 := by simp; omega
  rw [this, List.getElem?_cons_succ]
theorem irow_made1 (w : World) (n : Nat) (t : TypeId) : IRow (w.alloc (.cells (madeCells #[Value.int .i64 0] n) t)) w.heap.size t (List.replicate n 0) := by
  have := irow_made w n t
  rwa [Nat.mul_one] at this
set_option maxRecDepth 100000 in
set_option maxHeartbeats 8000000 in
theorem ends_any (A : Option Addr) (c : Nat) (ws : List Int) (m : Int) (w : World) (hs : Sl w (fun b => b < w.heap.size) A c ws) (hr : Reg ws m) :
    Calls Tryz.prog 135 #[.slice A ws.length c, .int .i64 m] w fun e w' => ∃ v, e = .returned (.tuple #[v, .int .i64 0]) ∧ Own w' w.heap.size 3 v ((endsP ws m).map (fun (n : Nat) => (n : Int))) ∧ Below w.heap.size w w' := by
  have HC := Lib.hid (pcheck_any A c ws m w hs hr)
  have HS := Lib.hid hs
  have HR := Lib.hid hr
  have h1 : m ≤ 2000 := hr.hi
  have h2 : 500 ≤ m := hr.lo
  have h3 : ws.length ≤ 500 := hr.n
  have hn1 : Value.int .i64 (IntKind.i64.wrap ((ws.length : Int) + 1)) = Value.int .i64 ((ws.length + 1 : Nat) : Int) := by rw [IntWalk.i64_in _ (by omega), Int.natCast_add]; rfl
  have HN1 := Lib.hid hn1
  clear hs hr hn1
  go_enter Tryz.func135, Tryz.ntmps135
  go_wp2_with fail
  refine HC.out.mono ?_
  rintro e w' ⟨rfl, rfl⟩
  go_upto_region 5 with (fail)
  go_cut [8, 9] from 23 to 29 (fun a8 a9 wx => ∃ (Cb Eb : Nat), a8 = .slice (some ⟨Cb, 0, none⟩) (ws.length + 1) (ws.length + 1) ∧ a9 = .slice (some ⟨Eb, 0, none⟩) (ws.length + 1) (ws.length + 1) ∧ Hid (Cb ≠ Eb ∧ w.heap.size ≤ Cb ∧ w.heap.size ≤ Eb) ∧ Hid (IRow wx Cb 3 (List.replicate (ws.length + 1) 0)) ∧ Hid (IRow wx Eb 3 (List.replicate (ws.length + 1) 0)) ∧ Hid (Below w.heap.size w wx))
  case first =>
    refine wp_region_D (fun _ => True) (fun _ => true) (by kernel_rfl) ?_
    have HB0 : Hid (Below w.heap.size w w.drew) := Lib.hid (Below.refl _ _).drew
    generalize w.drew = wq at *
    refine wpAnyE_take (i := 0) (oi := ⟨some 23, Op.move (Operand.tmp 7), 3, _, _, _⟩) (v := ?_) rfl (by kernel_rfl) (by kernel_rfl) (by kernel_rfl) (by kernel_rfl) (by kernel_rfl) (fun _ _ _ h => h) (by rfl) ?hya trivial ?hra
    case hya => (intro wS hSw; clear hSw; go_simp; (try with_reducible rfl))
    all_goals try simp only [Act.put, List.setIfInBounds_toArray, List.set_cons_zero, List.set_cons_succ]
    refine wpAnyE_take (i := 1) (oi := ⟨some 24, Op.binOp BinOp.add 3 (Operand.tmp 23) (Operand.const (Value.int IntKind.i64 1)) 3, 3, _, _, _⟩) (v := ?_) rfl (by kernel_rfl) (by kernel_rfl) (by kernel_rfl) (by kernel_rfl) (by kernel_rfl) (fun _ _ _ h => h) (by rfl) ?hyb trivial ?hrb
    case hyb => (intro wS hSw; clear hSw; go_simp; (try with_reducible rfl))
    all_goals try simp only [Act.put, List.setIfInBounds_toArray, List.set_cons_zero, List.set_cons_succ]
    refine wpAnyE_take (i := 3) (oi := ⟨some 26, Op.move (Operand.tmp 7), 3, _, _, _⟩) (v := ?_) rfl (by kernel_rfl) (by kernel_rfl) (by kernel_rfl) (by kernel_rfl) (by kernel_rfl) (fun _ _ _ h => h) (by rfl) ?hyc trivial ?hrc
    case hyc => (intro wS hSw; clear hSw; go_simp; (try with_reducible rfl))
    all_goals try simp only [Act.put, List.setIfInBounds_toArray, List.set_cons_zero, List.set_cons_succ]
    refine wpAnyE_take (i := 4) (oi := ⟨some 27, Op.binOp BinOp.add 3 (Operand.tmp 26) (Operand.const (Value.int IntKind.i64 1)) 3, 3, _, _, _⟩) (v := ?_) rfl (by kernel_rfl) (by kernel_rfl) (by kernel_rfl) (by kernel_rfl) (by kernel_rfl) (fun _ _ _ h => h) (by rfl) ?hyd trivial ?hrd
    case hyd => (intro wS hSw; clear hSw; go_simp; (try with_reducible rfl))
    all_goals try simp only [Act.put, List.setIfInBounds_toArray, List.set_cons_zero, List.set_cons_succ]
    have hn1 := HN1.out
    refine wpAnyD_two (i := 2) (j := 5) (oi := ⟨some 25, Op.makeSlice 22 (Operand.tmp 24) (Operand.tmp 24), 22, _, _, _⟩) (oj := ⟨some 28, Op.makeSlice 22 (Operand.tmp 27) (Operand.tmp 27), 22, _, _, _⟩) (by kernel_rfl) rfl rfl (by rfl) (by rfl) (fun K hK => ?_) (fun K hK => ?_)
    · refine wp_make 22 (.tmp 24) (.tmp 24) rfl 3 (.int .i64 0) 1 8 Tryz.underlying22 int_info (ws.length + 1) hn1 hn1 (by omega) (by omega) ?_
      refine hK _ _ (fun _ => trivial) ?_
      clear hK K
      try simp only [Act.put, List.setIfInBounds_toArray, List.set_cons_zero, List.set_cons_succ]
      refine wpAnyE_take (i := 6) (oi := ⟨some 8, Op.assign (Operand.tmp 25), 22, _, _, _⟩) (v := ?_) rfl (by kernel_rfl) (by kernel_rfl) (by kernel_rfl) (by kernel_rfl) (by kernel_rfl) (fun _ _ _ h => h) (by rfl) ?hye2 trivial ?hre2
      case hye2 => (intro wS hSw; clear hSw; go_simp; (try with_reducible rfl))
      all_goals try simp only [Act.put, List.setIfInBounds_toArray, List.set_cons_zero, List.set_cons_succ]
      refine wpAnyD_one (i := 5) (oi := ⟨some 28, Op.makeSlice 22 (Operand.tmp 27) (Operand.tmp 27), 22, _, _, _⟩) rfl (by kernel_rfl) (by rfl) (fun K hK => ?_)
      refine wp_make 22 (.tmp 27) (.tmp 27) rfl 3 (.int .i64 0) 1 8 Tryz.underlying22 int_info (ws.length + 1) hn1 hn1 (by omega) (by omega) ?_
      refine hK _ _ (fun _ => trivial) ?_
      clear hK K
      try simp only [Act.put, List.setIfInBounds_toArray, List.set_cons_zero, List.set_cons_succ]
      refine wpAnyD_one (i := 7) (oi := ⟨some 9, Op.assign (Operand.tmp 28), 22, _, _, _⟩) rfl (by kernel_rfl) (by rfl) (fun K hK => ?_)
      go_simp
      refine hK _ _ (fun _ => trivial) ?_
      clear hK K
      try simp only [Act.put, List.setIfInBounds_toArray, List.set_cons_zero, List.set_cons_succ]
      have hr0 := irow_made1 wq (ws.length + 1) 3
      have hr1 := irow_made1 (wq.alloc (.cells (madeCells #[Value.int .i64 0] (ws.length + 1)) 3)) (ws.length + 1) 3
      rw [World.size_alloc] at hr1
      have hb1 : Below wq.heap.size wq (wq.alloc (.cells (madeCells #[Value.int .i64 0] (ws.length + 1)) 3)) := (Below.refl _ _).alloc (Nat.le_refl _) _
      have hb2 : Below (wq.alloc (.cells (madeCells #[Value.int .i64 0] (ws.length + 1)) 3)).heap.size (wq.alloc (.cells (madeCells #[Value.int .i64 0] (ws.length + 1)) 3)) _ := (Below.refl _ _).alloc (Nat.le_refl _) (.cells (madeCells #[Value.int .i64 0] (ws.length + 1)) 3)
      refine wpAnyD_done (by kernel_rfl) ?_ _
      unfold Exit.then
      go_wp2_with fail
      go_meet
      exact ⟨wq.heap.size, wq.heap.size + 1, rfl, rfl, Lib.hid ⟨by omega, (by have := HB0.out.size; omega), (by have := HB0.out.size; omega)⟩, Lib.hid (hr0.to hb2), Lib.hid hr1, Lib.hid (HB0.out.trans ((hb1.trans (hb2.mono (by simp))).mono HB0.out.size))⟩
    · refine wp_make 22 (.tmp 27) (.tmp 27) rfl 3 (.int .i64 0) 1 8 Tryz.underlying22 int_info (ws.length + 1) hn1 hn1 (by omega) (by omega) ?_
      refine hK _ _ (fun _ => trivial) ?_
      clear hK K
      try simp only [Act.put, List.setIfInBounds_toArray, List.set_cons_zero, List.set_cons_succ]
      refine wpAnyD_one (i := 2) (oi := ⟨some 25, Op.makeSlice 22 (Operand.tmp 24) (Operand.tmp 24), 22, _, _, _⟩) rfl (by kernel_rfl) (by rfl) (fun K hK => ?_)
      refine wp_make 22 (.tmp 24) (.tmp 24) rfl 3 (.int .i64 0) 1 8 Tryz.underlying22 int_info (ws.length + 1) hn1 hn1 (by omega) (by omega) ?_
      refine hK _ _ (fun _ => trivial) ?_
      clear hK K
      try simp only [Act.put, List.setIfInBounds_toArray, List.set_cons_zero, List.set_cons_succ]
      refine wpAnyD_one (i := 6) (oi := ⟨some 8, Op.assign (Operand.tmp 25), 22, _, _, _⟩) rfl (by kernel_rfl) (by rfl) (fun K hK => ?_)
      go_simp
      refine hK _ _ (fun _ => trivial) ?_
      clear hK K
      try simp only [Act.put, List.setIfInBounds_toArray, List.set_cons_zero, List.set_cons_succ]
      refine wpAnyD_one (i := 7) (oi := ⟨some 9, Op.assign (Operand.tmp 28), 22, _, _, _⟩) rfl (by kernel_rfl) (by rfl) (fun K hK => ?_)
      go_simp
      refine hK _ _ (fun _ => trivial) ?_
      clear hK K
      try simp only [Act.put, List.setIfInBounds_toArray, List.set_cons_zero, List.set_cons_succ]
      have hr0 := irow_made1 wq (ws.length + 1) 3
      have hr1 := irow_made1 (wq.alloc (.cells (madeCells #[Value.int .i64 0] (ws.length + 1)) 3)) (ws.length + 1) 3
      rw [World.size_alloc] at hr1
      have hb1 : Below wq.heap.size wq (wq.alloc (.cells (madeCells #[Value.int .i64 0] (ws.length + 1)) 3)) := (Below.refl _ _).alloc (Nat.le_refl _) _
      have hb2 : Below (wq.alloc (.cells (madeCells #[Value.int .i64 0] (ws.length + 1)) 3)).heap.size (wq.alloc (.cells (madeCells #[Value.int .i64 0] (ws.length + 1)) 3)) _ := (Below.refl _ _).alloc (Nat.le_refl _) (.cells (madeCells #[Value.int .i64 0] (ws.length + 1)) 3)
      refine wpAnyD_done (by kernel_rfl) ?_ _
      unfold Exit.then
      go_wp2_with fail
      go_meet
      exact ⟨wq.heap.size + 1, wq.heap.size, rfl, rfl, Lib.hid ⟨by omega, (by have := HB0.out.size; omega), (by have := HB0.out.size; omega)⟩, Lib.hid hr1, Lib.hid (hr0.to hb2), Lib.hid (HB0.out.trans ((hb1.trans (hb2.mono (by simp))).mono HB0.out.size))⟩
  case rest =>
    obtain ⟨Cb, Eb, rfl, rfl, HNE, HCR, HER, HBc⟩ := hcut
    clear HC HN1
    go_wp2_with fail
    go_loopw [10] (fun z wr => ∃ (k : Nat) (i1 : Nat), z = .int .i64 ((i1 : Int) - 1) ∧ Hid (i1 + k = ws.length) ∧ Hid (IRow wr Cb 3 (List.replicate i1 0 ++ (bestL ws m k).map (·.1))) ∧ Hid (IRow wr Eb 3 (List.replicate i1 0 ++ (bestL ws m k).map (fun x => (x.2 : Int)))) ∧ Hid (Below w.heap.size w wr)) (fun z _ => (intOf z + 1).toNat)
    case atStart => exact ⟨0, ws.length, rfl, Lib.hid (by omega), Lib.hid (by rw [← rowC_start]; exact HCR.out), Lib.hid (by rw [← rowE_start]; exact HER.out), HBc⟩
    case round =>
      clear HCR HER HBc
      obtain ⟨k, i1, rfl, HIK, HCR, HER, HBw⟩ := hrel
      by_cases hz : i1 = 0
      · subst hz
        have HKN : Hid (k = ws.length) := Lib.hid (by have := HIK.out; omega)
        have HE0 : Hid (IRow wr Eb 3 ((bestL ws m ws.length).map (fun x => (x.2 : Int)))) := Lib.hid (by have := HER.out; rw [HKN.out] at this; exact this)
        clear HER HCR HKN HIK
        rw [show ((0 : Nat) : Int) - 1 = -1 from rfl]
        go_wp2_with fail
        obtain ⟨wo, rfl⟩ : ∃ wo : World, wo = wr := ⟨_, rfl⟩
        go_loopw [13, 14] (fun v vi wq => ∃ (f a : Nat) (dn : List Nat), vi = .int .i64 (a : Int) ∧ a ≤ ws.length ∧ Hid (ws.length - a ≤ f) ∧ Hid (endsP ws m = dn ++ chainE ((bestL ws m ws.length).map (·.2)) ws.length f a) ∧ Hid (dn.length ≤ a) ∧ Hid (Own wq wo.heap.size 3 v (dn.map (fun (n : Nat) => (n : Int)))) ∧ Hid (Below wo.heap.size wo wq)) (fun _ vi _ => ws.length - (intOf vi).toNat)
        case atStart => exact ⟨ws.length, 0, [], rfl, Nat.zero_le _, Lib.hid (by omega), Lib.hid rfl, Lib.hid (Nat.zero_le _), Lib.hid (Own.nil _ _ _), Lib.hid (Below.refl _ _)⟩
        case round =>
          obtain ⟨f, a, dn, rfl, han, HF, HEN, HDL, HO, HBq⟩ := hrel
          by_cases hlt : a < ws.length
          · have hai : (a : Int) < (ws.length : Int) := by omega
            have ha0 : (0 : Int) ≤ (a : Int) := by omega
            obtain ⟨f', rfl⟩ : ∃ f', f = f' + 1 := ⟨f - 1, by have := HF.out; omega⟩
            have HEA := Lib.hid (bestAt_end HR.out a hlt)
            have HNX : Hid (endsP ws m = (dn ++ [(bestAt ws m a).2]) ++ chainE ((bestL ws m ws.length).map (·.2)) ws.length f' (bestAt ws m a).2) := Lib.hid (by rw [HEN.out, chain_at ws m a f' hlt]; simp)
            have HE1 := Lib.hid (HE0.out.to HBq.out)
            have c0 : wr.cell? ⟨Eb, a, none⟩ = some (.int .i64 ((bestAt ws m a).2 : Int)) := HE1.out.cell a (ends_at ws m a hlt)
            generalize (bestAt ws m a).2 = en at *
            have hba : Below wr.heap.size wr (wr.alloc (.cells #[.int .i64 (en : Int)] 3)) := (Below.refl _ _).alloc (Nat.le_refl _) _
            have HO2 := Lib.hid (HO.out.below hba)
            have HBA := Lib.hid hba
            have HI : Hid (I64 (en : Int)) := Lib.hid (by have := HEA.out; unfold I64; omega)
            have HLD : Hid (dn.length ≤ 500) := Lib.hid (by have := HDL.out; omega)
            have HCE : Hid (∀ W, Below wo.heap.size wo W → W.cell? ⟨Eb, a, none⟩ = some (.int .i64 (en : Int))) := Lib.hid (fun W hW => by
              have h1 := c0
              have h2 := HE0.out.lt
              exact ((hW.cell (p := ⟨Eb, a, none⟩) h2).trans ((HBq.out.cell (p := ⟨Eb, a, none⟩) h2).symm)).trans h1)
            clear hba
            go_upto_region 21 with (first
              | (at_builtin; refine wpList_push (α := Int) _ rfl (.tmp 105) (.tmp 110) 22 rfl wo.heap.size 3 (.int .i64 0) 8 Tryz.underlying22 int_info rfl (by decide) u13 (dn.map (fun (n : Nat) => (n : Int))) rfl HO2.out wr.heap.size #[.int .i64 (en : Int)] (en : Int) (0, 0) 3 rfl (heap_alloc_new wr _) ⟨rfl, HI.out⟩ (by have := HLD.out; rw [List.length_map]; omega) (by have := HLD.out; rw [List.length_map]; omega) (by have := HBq.out.size; simp; omega) _ rfl ?_; intro g5 p5 w5 hown5 hg5 hat5 hlt5)
              | fail)
            have hb5 : Below wo.heap.size wo w5 := below_push HBq.out HO.out HBq.out.size hg5
            have HO5 := Lib.hid hown5
            have HB5 := Lib.hid hb5
            have c5 := HCE.out w5 hb5
            clear hb5 hown5 hg5 hat5 hlt5 c0 HCE
            go_wp2_with fail
            go_roundw
            case rel => exact ⟨f', en, dn ++ [en], rfl, by have := HEA.out; omega, Lib.hid (by have := HEA.out; have := HF.out; omega), HNX, Lib.hid (by have := HEA.out; have := HDL.out; simp; omega), Lib.hid (by have := HO5.out; rw [List.length_map] at this; rw [List.map_append]; exact this), HB5⟩
            case measure => (have hx1 := HEA.out; simp [intOf]; omega)
          · have hai : ¬ (a : Int) < (ws.length : Int) := by omega
            have HFN : Hid (endsP ws m = dn) := Lib.hid (by
              have e : chainE ((bestL ws m ws.length).map (·.2)) ws.length f a = [] := by
                cases f with
                | zero => rfl
                | succ f => rw [chainE, if_neg hlt]
              rw [HEN.out, e, List.append_nil])
            have HBz := Lib.hid (HBw.out.trans (HBq.out.mono HBw.out.size))
            have HOz := Lib.hid (HO.out.re HBw.out.size)
            go_wp2_with fail
            go_ret2
            exact ⟨_, rfl, by rw [HFN.out]; exact HOz.out, HBz.out⟩
      · obtain ⟨i, rfl⟩ : ∃ i, i1 = i + 1 := ⟨i1 - 1, by omega⟩
        have hi0 : (0 : Int) ≤ (i : Int) := by omega
        have hi5 : (i : Int) < 500 := by have := HIK.out; omega
        have hi6 : (i : Int) < (ws.length : Int) := by have := HIK.out; omega
        have hii : ((i + 1 : Nat) : Int) - 1 = (i : Int) := by omega
        rw [hii]
        clear hii hz
        have HIN : Hid (i + 1 + k = ws.length) := HIK
        have HC0 : Hid (IRow wr Cb 3 (rowC ws m k i 0)) := Lib.hid (by unfold rowC; rw [← row_open]; exact HCR.out)
        have HE0 : Hid (IRow wr Eb 3 (rowE ws m k i 0)) := Lib.hid (by unfold rowE; rw [← row_open]; exact HER.out)
        clear HIK HCR HER
        obtain ⟨wo, rfl⟩ : ∃ wo : World, wo = wr := ⟨_, rfl⟩
        go_wp2_with fail
        go_step3
        go_wp2_with fail
        go_step3
        go_wp2_with fail
        go_loopw [11, 12] (fun vs vj ww => ∃ (d p : Nat) (s : Int) (cur : Int × Nat), vs = .int .i64 s ∧ vj = .int .i64 ((p : Int) + 1) ∧ Hid (p = i + d ∧ p < ws.length) ∧ s ≤ 2006 ∧ 0 ≤ s ∧ Hid (scanE ws.length (ws.drop i) (bestL ws m k) (m + 6) (i + 1) true (0, 0) = scanE ws.length (ws.drop p) ((bestL ws m k).drop d) s (p + 1) (decide (d = 0)) cur) ∧ Hid (0 ≤ cur.1 ∧ cur.1 ≤ 4100000 * ((k : Int) + 1)) ∧ Hid (IRow ww Cb 3 (rowC ws m k i cur.1)) ∧ Hid (IRow ww Eb 3 (rowE ws m k i (cur.2 : Int))) ∧ Hid (Below w.heap.size w ww)) (fun _ vj _ => (ws.length + 1 - (intOf vj).toNat))
        case atStart => exact ⟨0, i, m + 6, (0, 0), rfl, rfl, Lib.hid (by have := HIN.out; omega), by omega, by omega, Lib.hid rfl, Lib.hid (by simp; omega), HC0, HE0, HBw⟩
        case round =>
          clear HC0 HE0 HBw
          obtain ⟨d, p, s, cur, rfl, rfl, HP, hs1, hs2, HSC, HCB, HCR, HER, HBw⟩ := hrel
          have hpl : p < ws.length := HP.out.2
          have hp0 : (0 : Int) ≤ (p : Int) := by omega
          have hpn : (p : Int) < (ws.length : Int) := by omega
          obtain ⟨b, o, rfl, _, hbl, hok, hc⟩ := int_at (HS.out.to HBw.out) hpl
          have hx := HR.out.w ws[p] (List.getElem_mem hpl)
          have HDR : Hid (ws.drop p = ws[p] :: ws.drop (p + 1)) := Lib.hid (List.drop_eq_getElem_cons hpl)
          obtain ⟨x, hxe⟩ : ∃ x, ws[p] = x := ⟨_, rfl⟩
          rw [hxe] at hc hx HDR
          obtain ⟨hx1, hx2⟩ := hx
          clear hxe hok hbl
          obtain ⟨s2, hs2e⟩ : ∃ s2, s - (x + 6) = s2 := ⟨_, rfl⟩
          have hsa : s2 ≤ 2006 := by omega
          have hsb : -500 ≤ s2 := by omega
          have HSE := Lib.hid hs2e
          go_upto_block 4 with (fail)
          try rw [hs2e]
          clear hs2e hc
          by_cases hneg : s2 < 0
          · have HRES : Hid (scanE ws.length (ws.drop i) (bestL ws m k) (m + 6) (i + 1) true (0, 0) = cur) := Lib.hid (by rw [HSC.out, HDR.out]; exact scanE_neg _ _ _ _ _ _ _ _ (by rw [HSE.out]; exact hneg))
            go_wp2_with fail
            apply_assumption
            go_wp2_with fail
            go_roundw
            case rel => exact ⟨k + 1, i, by go_num, Lib.hid (by have := HIN.out; omega), Lib.hid (by rw [← rowC_next HIN.out HRES.out]; exact HCR.out), Lib.hid (by rw [← rowE_next HIN.out HRES.out]; exact HER.out), HBw⟩
            case measure => (first | (simp [intOf]; done) | (simp [intOf]; omega))
          · have hnn : 0 ≤ s2 := by omega
            have HNN : Hid (¬ s - (x + 6) < 0) := Lib.hid (by rw [HSE.out]; exact hneg)
            have c0 : wr.cell? ⟨Cb, i, none⟩ = some (.int .i64 cur.1) := HCR.out.cell i (row_at _ _ _)
            have f0 := HCR.out.fz i
            by_cases hlast : p + 1 = ws.length
            · have HRES : Hid (scanE ws.length (ws.drop i) (bestL ws m k) (m + 6) (i + 1) true (0, 0) = (0, ws.length)) := Lib.hid (by rw [HSC.out, HDR.out, hlast]; exact scanE_last _ _ _ _ _ _ _ HNN.out)
              have hl1 : (p : Int) + 1 = (ws.length : Int) := by omega
              have HE1 : Hid (IRow (wr.setCell ⟨Cb, i, none⟩ (.int .i64 0)) Eb 3 (rowE ws m k i (cur.2 : Int))) := Lib.hid (HER.out.other (Ne.symm HNE.out.1) i (.int .i64 0))
              have c1 := HE1.out.cell i (row_at _ _ _)
              have f1 := HE1.out.fz i
              have HC2 := Lib.hid ((HCR.out.set i 0).other HNE.out.1 i (.int .i64 (ws.length : Int)))
              have HE2 := Lib.hid (HE1.out.set i (ws.length : Int))
              have HB2 : Hid (Below w.heap.size w ((wr.setCell ⟨Cb, i, none⟩ (.int .i64 0)).setCell ⟨Eb, i, none⟩ (.int .i64 (ws.length : Int)))) := Lib.hid ((HBw.out.setCell (p := ⟨Cb, i, none⟩) HNE.out.2.1 _).setCell (p := ⟨Eb, i, none⟩) HNE.out.2.2 _)
              rw [show rowC ws m k i cur.1 = List.replicate i 0 ++ cur.1 :: (bestL ws m k).map (·.1) from rfl, row_set] at HC2
              rw [show rowE ws m k i (cur.2 : Int) = List.replicate i 0 ++ (cur.2 : Int) :: (bestL ws m k).map (fun x => (x.2 : Int)) from rfl, row_set] at HE2
              have HRC := Lib.hid (rowC_next HIN.out HRES.out)
              have HRE := Lib.hid (rowE_next HIN.out HRES.out)
              clear HE1 hlast
              go_wp2_with fail
              go_roundw
              case rel => exact ⟨k + 1, i, by go_num, Lib.hid (by have := HIN.out; omega), Lib.hid (by rw [← HRC.out]; exact HC2.out), Lib.hid (by rw [← HRE.out]; exact HE2.out), HB2⟩
              case measure => (first | (simp [intOf]; done) | (simp [intOf]; omega))
            · have hl1 : ¬ (p : Int) + 1 = (ws.length : Int) := by omega
              have hl2 : ((p : Int) + 1 == (ws.length : Int)) = false := by rw [beq_eq_false_iff_ne]; omega
              obtain ⟨bd, hbd⟩ : ∃ bd, (bestL ws m k)[d]? = some bd := by
                have h := bestL_length ws m k
                exact ⟨_, List.getElem?_eq_getElem (by have := HP.out; have := HIN.out; omega)⟩
              have hbb := bestL_cost HR.out k bd (List.mem_of_getElem? hbd)
              have HHD := Lib.hid (head_drop _ _ _ hbd)
              have c2 : wr.cell? ⟨Cb, p + 1, none⟩ = some (.int .i64 bd.1) := HCR.out.cell (p + 1) (by
                have e : p + 1 = i + d + 1 := by have := HP.out.1; omega
                rw [e, show rowC ws m k i cur.1 = List.replicate i 0 ++ cur.1 :: (bestL ws m k).map (·.1) from rfl, row_behind, List.getElem?_map, hbd]; rfl)
              have HBD := Lib.hid hbd
              have hk5 : (k : Int) ≤ 500 := by have := HIN.out; omega
              have hb0 : 0 ≤ bd.1 := hbb.1
              have hb1 : bd.1 ≤ 2050000000 := by have := hbb.2; omega
              have hbk : bd.1 ≤ 4100000 * (k : Int) := hbb.2
              obtain ⟨cb, hcb⟩ : ∃ x, bd.1 = x := ⟨_, rfl⟩
              rw [hcb] at c2 hb0 hb1 hbk
              have HCBE := Lib.hid hcb
              clear hcb hbd hbb
              obtain ⟨q, hq⟩ : ∃ q, s2 * s2 = q := ⟨_, rfl⟩
              have hq0 : 0 ≤ q := by rw [← hq]; exact Int.mul_nonneg hnn hnn
              have hq1 : q ≤ 4024036 := by rw [← hq]; exact Int.mul_le_mul hsa hsa hnn (by omega)
              have HQ := Lib.hid hq
              have hw1 : IntKind.i64.wrap (s2 * s2) = q := by rw [hq]; exact IntWalk.i64_in _ (by omega)
              have hw2 : IntKind.i64.wrap (q + cb) = q + cb := IntWalk.i64_in _ (by omega)
              have HW1 := Lib.hid hw1
              clear hq
              have HST : Hid (scanE ws.length (ws.drop i) (bestL ws m k) (m + 6) (i + 1) true (0, 0) = scanE ws.length (ws.drop (p + 1)) ((bestL ws m k).drop (d + 1)) s2 (p + 1 + 1) false (if decide (d = 0) = true ∨ q + cb ≤ cur.1 then (q + cb, p + 1) else cur)) := Lib.hid (by
                rw [HSC.out, HDR.out, scanE_step _ _ _ _ _ _ _ _ HNN.out (by omega), HSE.out, HHD.out, HQ.out, HCBE.out, List.tail_drop])
              by_cases hd0 : d = 0
              · subst hd0
                obtain rfl : p = i := by have := HP.out.1; omega
                go_upto_region 16 with (fail)
                go_quiet (fail)
                have hdn : Below wr.heap.size wr (wr.drewN nq) := Below.dn (Below.refl _ _) nq
                have HCRn := Lib.hid (HCR.out.to hdn)
                have HERn := Lib.hid (HER.out.to hdn)
                have HBn := Lib.hid (HBw.out.trans (hdn.mono HBw.out.size))
                have c2n : (wr.drewN nq).cell? ⟨Cb, p + 1, none⟩ = some (.int .i64 cb) := c2
                clear hdn c0 f0 c2
                generalize World.drewN wr nq = wn at *
                have c0 : wn.cell? ⟨Cb, p, none⟩ = some (.int .i64 cur.1) := HCRn.out.cell p (row_at _ _ _)
                have f0 := HCRn.out.fz p
                have HE1 : Hid (IRow (wn.setCell ⟨Cb, p, none⟩ (.int .i64 (q + cb))) Eb 3 (rowE ws m k p (cur.2 : Int))) := Lib.hid (HERn.out.other (Ne.symm HNE.out.1) p (.int .i64 (q + cb)))
                have c1 := HE1.out.cell p (row_at _ _ _)
                have f1 := HE1.out.fz p
                have HC2 : Hid (IRow ((wn.setCell ⟨Cb, p, none⟩ (.int .i64 (q + cb))).setCell ⟨Eb, p, none⟩ (.int .i64 ((p : Int) + 1))) Cb 3 (rowC ws m k p (q + cb))) := Lib.hid (by have := (HCRn.out.set p (q + cb)).other HNE.out.1 p (.int .i64 ((p : Int) + 1)); rwa [show rowC ws m k p cur.1 = List.replicate p 0 ++ cur.1 :: (bestL ws m k).map (·.1) from rfl, row_set] at this)
                have HE2 : Hid (IRow ((wn.setCell ⟨Cb, p, none⟩ (.int .i64 (q + cb))).setCell ⟨Eb, p, none⟩ (.int .i64 ((p : Int) + 1))) Eb 3 (rowE ws m k p ((p + 1 : Nat) : Int))) := Lib.hid (by have := HE1.out.set p ((p : Int) + 1); rwa [show rowE ws m k p (cur.2 : Int) = List.replicate p 0 ++ (cur.2 : Int) :: (bestL ws m k).map (fun x => (x.2 : Int)) from rfl, row_set] at this)
                have HB2 : Hid (Below w.heap.size w ((wn.setCell ⟨Cb, p, none⟩ (.int .i64 (q + cb))).setCell ⟨Eb, p, none⟩ (.int .i64 ((p : Int) + 1)))) := Lib.hid ((HBn.out.setCell (p := ⟨Cb, p, none⟩) HNE.out.2.1 _).setCell (p := ⟨Eb, p, none⟩) HNE.out.2.2 _)
                clear HE1
                go_wp2_with fail
                go_roundw
                case rel => exact ⟨0 + 1, p + 1, s2, (q + cb, p + 1), rfl, by go_num, Lib.hid (by have := HP.out; omega), hsa, hnn, Lib.hid (by rw [HST.out, if_pos (by simp_all)]; rfl), Lib.hid (by simp only; omega), HC2, HE2, HB2⟩
                case measure => (first | (simp [intOf]; done) | (simp [intOf]; omega))
              · have hpi : ¬ (p : Int) = (i : Int) := by have := HP.out.1; omega
                have hpi2 : ((p : Int) == (i : Int)) = false := by rw [beq_eq_false_iff_ne]; exact hpi
                have hpi3 : ((p : Int) + 1 == (i : Int) + 1) = false := by rw [beq_eq_false_iff_ne]; omega
                by_cases hle : q + cb ≤ cur.1
                · go_upto_region 16 with (fail)
                  go_quiet (fail)
                  have hdn : Below wr.heap.size wr (wr.drewN nq) := Below.dn (Below.refl _ _) nq
                  have HCRn := Lib.hid (HCR.out.to hdn)
                  have HERn := Lib.hid (HER.out.to hdn)
                  have HBn := Lib.hid (HBw.out.trans (hdn.mono HBw.out.size))
                  have c2n : (wr.drewN nq).cell? ⟨Cb, p + 1, none⟩ = some (.int .i64 cb) := c2
                  clear hdn c0 f0 c2
                  generalize World.drewN wr nq = wn at *
                  have c0 : wn.cell? ⟨Cb, i, none⟩ = some (.int .i64 cur.1) := HCRn.out.cell i (row_at _ _ _)
                  have f0 := HCRn.out.fz i
                  have HE1 : Hid (IRow (wn.setCell ⟨Cb, i, none⟩ (.int .i64 (q + cb))) Eb 3 (rowE ws m k i (cur.2 : Int))) := Lib.hid (HERn.out.other (Ne.symm HNE.out.1) i (.int .i64 (q + cb)))
                  have c1 := HE1.out.cell i (row_at _ _ _)
                  have f1 := HE1.out.fz i
                  have HC2 : Hid (IRow ((wn.setCell ⟨Cb, i, none⟩ (.int .i64 (q + cb))).setCell ⟨Eb, i, none⟩ (.int .i64 ((p : Int) + 1))) Cb 3 (rowC ws m k i (q + cb))) := Lib.hid (by have := (HCRn.out.set i (q + cb)).other HNE.out.1 i (.int .i64 ((p : Int) + 1)); rwa [show rowC ws m k i cur.1 = List.replicate i 0 ++ cur.1 :: (bestL ws m k).map (·.1) from rfl, row_set] at this)
                  have HE2 : Hid (IRow ((wn.setCell ⟨Cb, i, none⟩ (.int .i64 (q + cb))).setCell ⟨Eb, i, none⟩ (.int .i64 ((p : Int) + 1))) Eb 3 (rowE ws m k i ((p + 1 : Nat) : Int))) := Lib.hid (by have := HE1.out.set i ((p : Int) + 1); rwa [show rowE ws m k i (cur.2 : Int) = List.replicate i 0 ++ (cur.2 : Int) :: (bestL ws m k).map (fun x => (x.2 : Int)) from rfl, row_set] at this)
                  have HB2 : Hid (Below w.heap.size w ((wn.setCell ⟨Cb, i, none⟩ (.int .i64 (q + cb))).setCell ⟨Eb, i, none⟩ (.int .i64 ((p : Int) + 1)))) := Lib.hid ((HBn.out.setCell (p := ⟨Cb, i, none⟩) HNE.out.2.1 _).setCell (p := ⟨Eb, i, none⟩) HNE.out.2.2 _)
                  clear HE1
                  go_wp2_with fail
                  go_roundw
                  case rel => exact ⟨d + 1, p + 1, s2, (q + cb, p + 1), rfl, by go_num, Lib.hid (by have := HP.out; omega), hsa, hnn, Lib.hid (by rw [HST.out, if_pos (by simp_all)]; rfl), Lib.hid (by simp only; omega), HC2, HE2, HB2⟩
                  case measure => (first | (simp [intOf]; done) | (simp [intOf]; omega))
                · go_upto_region 16 with (fail)
                  go_quiet (fail)
                  have hdn : Below wr.heap.size wr (wr.drewN nq) := Below.dn (Below.refl _ _) nq
                  have HCRn := Lib.hid (HCR.out.to hdn)
                  have HERn := Lib.hid (HER.out.to hdn)
                  have HBn := Lib.hid (HBw.out.trans (hdn.mono HBw.out.size))
                  have c2n : (wr.drewN nq).cell? ⟨Cb, p + 1, none⟩ = some (.int .i64 cb) := c2
                  clear hdn c0 f0 c2
                  generalize World.drewN wr nq = wn at *
                  go_wp2_with fail
                  go_roundw
                  case rel => exact ⟨d + 1, p + 1, s2, cur, rfl, by go_num, Lib.hid (by have := HP.out; omega), hsa, hnn, Lib.hid (by rw [HST.out, if_neg (by simp_all)]; rfl), Lib.hid (by have := HCB.out; omega), HCRn, HERn, HBn⟩
                  case measure => (first | (simp [intOf]; done) | (simp [intOf]; omega))
end Go.Proofs.YtakaielemicpkaaGreatDoor
namespace Go.Proofs.YtakaielemicpkaaGreatDoor
open Go.RowKit
theorem mul1_any (k : Nat) (hk : k ≤ 500) (w : World) : Calls Tryz.prog 100 #[.int .u64 1, .int .u64 (k : Int)] w fun e w' => e = .returned (.tuple #[.int .u64 0, .int .u64 (k : Int)]) ∧ w = w' := by
  have h := Tryz.bits_Mul 1 k (by decide) (by omega) w
  have e1 : 1 * k / 18446744073709551616 = 0 := Nat.div_eq_of_lt (by omega)
  have e2 : 1 * k % 18446744073709551616 = k := by rw [Nat.one_mul]; exact Nat.mod_eq_of_lt (by omega)
  rw [e1, e2] at h
  refine h.mono ?_
  rintro e w' ⟨rfl, rfl⟩
  exact ⟨rfl, rfl⟩
theorem wp_copy_own {P : Program} {w : World} {o : Oper} {a : Act} {K : Act → World → Prop} {Q : Exit → Act → World → Prop} (d s : Operand) (dT sT : TypeId)
    (ho : o.op = .call { callee := .builtin .copy, args := #[d, s], argTypes := #[dT, sT] }) (elem : TypeId) (hu : P.underlying dT = some (.slice elem)) (hsz : (P.info? elem).map (·.size) = some 1)
    (g off dLen dCap : Nat) (ad : Addr) (sLen sCap : Nat) (hd : a.eval d = .slice (some ⟨g, off, none⟩) dLen dCap) (hs : a.eval s = .slice (some ad) sLen sCap)
    (cur : Array Value) (t : TypeId) (hg : w.heap[g]? = some (.cells cur t (0, 0))) (cs : List Value) (hn : cs.length = Nat.min sLen dLen)
    (hsrc : ∀ j v, cs[j]? = some v → w.cell? (ad.add j) = some v) (hfit : off + cs.length ≤ cur.size) (h1 : ∀ v ∈ cs, v.oneCell' = true)
    (h : K (a.put o.dst (goInt cs.length)) (w.setRow g (cur.toList.take off ++ (cs ++ cur.toList.drop (off + cs.length))).toArray)) : o.wp P a w K Q := by
  have hrun := run_copy_row (P := P) w dT sT o.type elem g off dLen dCap ad sLen sCap cur t cs hu hsz hg hn hsrc hfit h1
  unfold Oper.wp
  simp [execOp, ho, resolve, invoke, builtin, hd, hs, hrun, Result.andThen]
  exact h
theorem rep_copy (x : Int) (n k c : Nat) (hn : n + c ≤ k) : ((((List.replicate n x ++ List.replicate (k - n) 0).map (Value.int .i64)).toArray.toList.take n) ++ (List.replicate c (Value.int .i64 x) ++ (((List.replicate n x ++ List.replicate (k - n) 0).map (Value.int .i64)).toArray.toList.drop (n + c)))).toArray = ((List.replicate (n + c) x ++ List.replicate (k - (n + c)) 0).map (Value.int .i64)).toArray := by
  congr 1
  simp only [List.map_append, List.map_replicate]
  rw [List.take_append_of_le_length (by simp), List.take_of_length_le (by simp), List.drop_append, List.drop_of_length_le (by simp), List.nil_append, List.drop_replicate, List.length_replicate, ← List.append_assoc, List.replicate_append_replicate]
  congr 2
  omega
set_option maxRecDepth 100000 in
set_option maxHeartbeats 8000000 in
theorem repeat_any (b o c : Nat) (x : Int) (k : Nat) (hk1 : 1 ≤ k) (hk : k ≤ 500) (_hx : I64 x) (w : World) (hc : w.cell? ⟨b, o, none⟩ = some (.int .i64 x)) :
    Calls Tryz.prog 146 #[.slice (some ⟨b, o, none⟩) 1 c, .int .i64 (k : Int)] w fun e w' => ∃ g, e = .returned (.slice (some ⟨g, 0, none⟩) k k) ∧ w.heap.size ≤ g ∧ IRow w' g 3 (List.replicate k x) ∧ Below w.heap.size w w' := by
  have HM := Lib.hid (fun W => mul1_any k hk W)
  have hk0 : (0 : Int) ≤ (k : Int) := by omega
  have hk5 : (k : Int) ≤ 500 := by omega
  have HC := Lib.hid hc
  clear hc
  go_enter Tryz.func146, Tryz.ntmps146
  have HR0 : Hid (IRow (w.alloc (.cells (madeCells #[Value.int .i64 0] k) 3)) w.heap.size 3 (List.replicate k 0)) := Lib.hid (irow_made1 w k _)
  have HSR : Hid (IRow ((w.alloc (.cells (madeCells #[Value.int .i64 0] k) 3)).setRow w.heap.size (Value.int .i64 x :: List.replicate (k - 1) (Value.int .i64 0)).toArray) w.heap.size 3 (List.replicate 1 x ++ List.replicate (k - 1) 0)) := Lib.hid (by
    unfold IRow ABox
    rw [setRow_heap _ _ _ _ _ _ HR0.out]
    simp [List.replicate])
  have HB1 : Hid (Below w.heap.size w ((w.alloc (.cells (madeCells #[Value.int .i64 0] k) 3)).setRow w.heap.size (Value.int .i64 x :: List.replicate (k - 1) (Value.int .i64 0)).toArray)) := Lib.hid (below_setRow ((Below.refl _ _).alloc (Nat.le_refl _) _) (Nat.le_refl _) _)
  go_wp2_with (first
    | (go_at_call 100; refine (HM.out _).mono ?_; rintro e w' ⟨rfl, rfl⟩)
    | (refine wpList_make rfl 22 (.tmp 29) (.tmp 29) rfl 3 (.int .i64 0) 1 8 Tryz.underlying22 int_info k rfl rfl (by omega) (by omega) ?_)
    | (refine wpList_copy_own rfl (.tmp 31) (.tmp 32) 22 22 rfl 3 Tryz.underlying22 (by kernel_rfl) w.heap.size 0 k k ⟨b, o, none⟩ 1 c rfl rfl _ 3 HR0.out [.int .i64 x] (by show 1 = Nat.min 1 k; exact (Nat.min_eq_left hk1).symm) (fun j v hv => by
        have hj : j = 0 := by
          rcases j with _ | j
          · rfl
          · simp at hv
        subst hj
        simp at hv
        subst hv
        exact ((Below.refl w.heap.size w).alloc (Nat.le_refl _) _).cell (p := ⟨b, o, none⟩) (World.block_lt_of_cell? w _ HC.out) |>.trans HC.out) (by simpa using hk1) (fun v hv => by simp at hv; subst hv; rfl) ?_)
    | fail)
  go_loopw [8] (fun v wr => ∃ n : Nat, 1 ≤ n ∧ n ≤ k ∧ v = .int .i64 (n : Int) ∧ Hid (IRow wr w.heap.size 3 (List.replicate n x ++ List.replicate (k - n) 0)) ∧ Hid (Below w.heap.size w wr)) (fun v _ => k - (intOf v).toNat)
  case atStart => exact ⟨1, Nat.le_refl _, hk1, rfl, HSR, HB1⟩
  case round =>
    clear HSR HB1 HR0
    obtain ⟨n, hn1, hn2, rfl, HR, HB⟩ := hrel
    by_cases hlt : n < k
    · have hnk : (n : Int) < (k : Int) := by omega
      have hn0 : (0 : Int) ≤ (n : Int) := by omega
      go_upto_region 9 with (fail)
      refine wp_region_D (fun _ => True) (fun _ => true) (by kernel_rfl) ?_
      have HRd : Hid (IRow wr.drew w.heap.size 3 (List.replicate n x ++ List.replicate (k - n) 0)) := Lib.hid (HR.out.to (Below.refl _ _).drew)
      have HBd : Hid (Below w.heap.size w wr.drew) := Lib.hid (HB.out.trans (Below.refl _ _).drew)
      clear HR HB
      generalize wr.drew = wq at *
      have hnk2 : (n : Int) ≤ (k : Int) := by omega
      have hnk3 : n ≤ k := by omega
      have hkn : ¬ k = n := by omega
      refine wpAnyE_take (i := 0) (oi := ⟨some 38, Op.move (Operand.tmp 8), 3, _, _, _⟩) (v := ?_) rfl (by kernel_rfl) (by kernel_rfl) (by kernel_rfl) (by kernel_rfl) (by kernel_rfl) (fun _ _ _ h => h) (by rfl) ?hyt0 trivial ?hrt0
      case hyt0 => (intro wS hSw; clear hSw; go_simp; (try with_reducible rfl))
      all_goals try simp only [Act.put, List.setIfInBounds_toArray, List.set_cons_zero, List.set_cons_succ]
      refine wpAnyE_take (i := 1) (oi := ⟨some 39, Op.move (Operand.tmp 7), 22, _, _, _⟩) (v := ?_) rfl (by kernel_rfl) (by kernel_rfl) (by kernel_rfl) (by kernel_rfl) (by kernel_rfl) (fun _ _ _ h => h) (by rfl) ?hyt1 trivial ?hrt1
      case hyt1 => (intro wS hSw; clear hSw; go_simp; (try with_reducible rfl))
      all_goals try simp only [Act.put, List.setIfInBounds_toArray, List.set_cons_zero, List.set_cons_succ]
      refine wpAnyE_take (i := 2) (oi := ⟨some 40, Op.move (Operand.tmp 8), 3, _, _, _⟩) (v := ?_) rfl (by kernel_rfl) (by kernel_rfl) (by kernel_rfl) (by kernel_rfl) (by kernel_rfl) (fun _ _ _ h => h) (by rfl) ?hyt2 trivial ?hrt2
      case hyt2 => (intro wS hSw; clear hSw; go_simp; (try with_reducible rfl))
      all_goals try simp only [Act.put, List.setIfInBounds_toArray, List.set_cons_zero, List.set_cons_succ]
      refine wpAnyE_take (i := 3) (oi := ⟨some 41, Op.slice 22 (Operand.tmp 39) (some (Operand.tmp 40)) none none, 22, _, _, _⟩) (v := ?_) rfl (by kernel_rfl) (by kernel_rfl) (by kernel_rfl) (by kernel_rfl) (by kernel_rfl) (fun _ _ _ h => h) (by rfl) ?hyt3 trivial ?hrt3
      case hyt3 => (intro wS hSw; clear hSw; go_simp; (try with_reducible rfl))
      all_goals try simp only [Act.put, List.setIfInBounds_toArray, List.set_cons_zero, List.set_cons_succ]
      refine wpAnyE_take (i := 4) (oi := ⟨some 42, Op.move (Operand.tmp 7), 22, _, _, _⟩) (v := ?_) rfl (by kernel_rfl) (by kernel_rfl) (by kernel_rfl) (by kernel_rfl) (by kernel_rfl) (fun _ _ _ h => h) (by rfl) ?hyt4 trivial ?hrt4
      case hyt4 => (intro wS hSw; clear hSw; go_simp; (try with_reducible rfl))
      all_goals try simp only [Act.put, List.setIfInBounds_toArray, List.set_cons_zero, List.set_cons_succ]
      refine wpAnyE_take (i := 5) (oi := ⟨some 43, Op.move (Operand.tmp 8), 3, _, _, _⟩) (v := ?_) rfl (by kernel_rfl) (by kernel_rfl) (by kernel_rfl) (by kernel_rfl) (by kernel_rfl) (fun _ _ _ h => h) (by rfl) ?hyt5 trivial ?hrt5
      case hyt5 => (intro wS hSw; clear hSw; go_simp; (try with_reducible rfl))
      all_goals try simp only [Act.put, List.setIfInBounds_toArray, List.set_cons_zero, List.set_cons_succ]
      refine wpAnyE_take (i := 6) (oi := ⟨some 44, Op.slice 22 (Operand.tmp 42) none (some (Operand.tmp 43)) none, 22, _, _, _⟩) (v := ?_) rfl (by kernel_rfl) (by kernel_rfl) (by kernel_rfl) (by kernel_rfl) (by kernel_rfl) (fun _ _ _ h => h) (by rfl) ?hyt6 trivial ?hrt6
      case hyt6 => (intro wS hSw; clear hSw; go_simp; (try with_reducible rfl))
      all_goals try simp only [Act.put, List.setIfInBounds_toArray, List.set_cons_zero, List.set_cons_succ]
      obtain ⟨cn, hcn⟩ : ∃ cn, cn = min n (k - n) := ⟨_, rfl⟩
      have hcn1 : n + cn ≤ k := by omega
      have hcn2 : 1 ≤ cn := by omega
      have hcn3 : cn ≤ n := by omega
      have HCN := Lib.hid hcn
      clear hcn
      have hw1 : IntKind.i64.wrap ((n : Int) + (cn : Int)) = (n : Int) + (cn : Int) := IntWalk.i64_in _ (by omega)
      refine wpAnyD_one (i := 7) (oi := ⟨some 45, Op.call { callee := Callee.builtin Builtin.copy, args := #[Operand.tmp 41, Operand.tmp 44], argTypes := #[22, 22] }, 3, _, _, _⟩) rfl (by kernel_rfl) (by rfl) (fun K hK => ?_)
      refine wp_copy_own (.tmp 41) (.tmp 44) 22 22 rfl 3 Tryz.underlying22 (by kernel_rfl) w.heap.size n (k - n) (k - n) ⟨w.heap.size, 0, none⟩ n k ?_ ?_ _ 3 HRd.out (List.replicate cn (.int .i64 x)) (by rw [List.length_replicate, HCN.out]) (fun j v hv => ?_) (by first | (simp; done) | (simp; omega)) (fun v hv => by rw [List.eq_of_mem_replicate hv]; rfl) ?_
      · rfl
      · rfl
      · obtain ⟨hj, hv2⟩ := List.getElem?_eq_some_iff.1 hv
        rw [List.length_replicate] at hj
        have e : v = .int .i64 x := by rw [← hv2]; simp
        rw [e, Addr.add_mid, Nat.zero_add]
        exact HRd.out.cell j (by rw [List.getElem?_append_left (by simp; omega), List.getElem?_replicate, if_pos (by omega)])
      rw [List.length_replicate, rep_copy x n k cn hcn1]
      have hq7 : goInt cn = .int .i64 (cn : Int) := rfl
      rw [hq7]
      refine hK _ _ (fun _ => trivial) ?_
      clear hK K hq7
      try simp only [Act.put, List.setIfInBounds_toArray, List.set_cons_zero, List.set_cons_succ]
      have HRN : Hid (IRow (wq.setRow w.heap.size ((List.replicate (n + cn) x ++ List.replicate (k - (n + cn)) 0).map (Value.int .i64)).toArray) w.heap.size 3 (List.replicate (n + cn) x ++ List.replicate (k - (n + cn)) 0)) := Lib.hid (setRow_heap _ _ _ _ _ _ HRd.out)
      have HBN : Hid (Below w.heap.size w (wq.setRow w.heap.size ((List.replicate (n + cn) x ++ List.replicate (k - (n + cn)) 0).map (Value.int .i64)).toArray)) := Lib.hid (below_setRow HBd.out (Nat.le_refl _) _)
      generalize wq.setRow w.heap.size ((List.replicate (n + cn) x ++ List.replicate (k - (n + cn)) 0).map (Value.int .i64)).toArray = wn at *
      refine wpAnyD_one (i := 8) (oi := ⟨some 46, Op.binOp BinOp.add 3 (Operand.tmp 38) (Operand.tmp 45) 3, 3, _, _, _⟩) rfl (by kernel_rfl) (by rfl) (fun K hK => ?_)
      go_simp
      refine hK _ _ (fun _ => trivial) ?_
      clear hK K
      try simp only [Act.put, List.setIfInBounds_toArray, List.set_cons_zero, List.set_cons_succ]
      refine wpAnyD_one (i := 9) (oi := ⟨some 8, Op.assign (Operand.tmp 46), 3, _, _, _⟩) rfl (by kernel_rfl) (by rfl) (fun K hK => ?_)
      go_simp
      refine hK _ _ (fun _ => trivial) ?_
      clear hK K
      try simp only [Act.put, List.setIfInBounds_toArray, List.set_cons_zero, List.set_cons_succ]
      refine wpAnyD_done (by kernel_rfl) ?_ _
      try unfold Exit.then
      go_wp2_with fail
      go_roundw
      case rel => exact ⟨n + cn, by omega, hcn1, by go_num, HRN, HBN⟩
      case measure => (first | (simp [intOf]; done) | (simp [intOf]; omega))
    · obtain rfl : n = k := by omega
      go_wp2_with fail
      go_ret
      exact ⟨w.heap.size, rfl, Nat.le_refl _, by have := HR.out; rwa [Nat.sub_self, List.replicate_zero, List.append_nil] at this, HB.out⟩
end Go.Proofs.YtakaielemicpkaaGreatDoor
namespace Go.Proofs.YtakaielemicpkaaGreatDoor
open Go.RowKit
def gapF (s k : Int) (i : Nat) : Int := 6 + s.tdiv k + if (i : Int) < s.tmod k then 1 else 0
theorem gapsP_eq {ws : List Int} {m : Int} {k : Nat} (h : ws.length = k + 1) (hk : 1 ≤ k) : gapsP ws m false = (List.range k).map (gapF (slackP ws m) (k : Int)) := by
  unfold gapsP
  rw [if_neg (by omega), if_neg (by simp)]
  have e : ws.length - 1 = k := by omega
  rw [e]; rfl
theorem gap_row (f : Nat → Int) (k j : Nat) (h : j < k) : (((List.range j).map f) ++ List.replicate (k - j) 6).set j (f j) = ((List.range (j + 1)).map f) ++ List.replicate (k - (j + 1)) 6 := by
  have e : k - j = (k - (j + 1)) + 1 := by omega
  rw [List.set_append_right _ _ (by simp), e, List.replicate_succ, List.range_succ, List.map_append, List.append_assoc]
  simp
theorem gap_at (f : Nat → Int) (k j : Nat) (h : j < k) : (((List.range j).map f) ++ List.replicate (k - j) 6)[j]? = some 6 := by
  have e : j - ((List.range j).map f).length = 0 := by simp
  rw [List.getElem?_append_right (by simp), e, List.getElem?_replicate, if_pos (by omega)]
set_option maxRecDepth 100000 in
set_option maxHeartbeats 8000000 in
theorem gaps_any (A : Option Addr) (c : Nat) (ws : List Int) (m : Int) (last : Bool) (w : World) (hs : Sl w (fun b => b < w.heap.size) A c ws) (hr : Reg ws m) :
    Calls Tryz.prog 136 #[.slice A ws.length c, .int .i64 m, .bool last] w fun e w' => ∃ v, e = .returned v ∧ Own w' w.heap.size 3 v (gapsP ws m last) ∧ Below w.heap.size w w' := by
  have h3 : ws.length ≤ 500 := hr.n
  by_cases hk : ws.length ≤ 1
  · have HG : Hid (gapsP ws m last = []) := Lib.hid (by unfold gapsP; rw [if_pos hk])
    have hk2 : (ws.length : Int) - 1 < 1 := by omega
    have hk3 : (0 : Int) ≤ (ws.length : Int) := by omega
    clear hs hr hk
    go_enter Tryz.func136, Tryz.ntmps136
    go_wp2_with fail
    go_ret
    exact ⟨_, rfl, by rw [HG.out]; exact Own.nil _ _ _, Below.refl _ _⟩
  · obtain ⟨k, hkk⟩ : ∃ k, ws.length = k + 1 := ⟨ws.length - 1, by omega⟩
    have hk1 : 1 ≤ k := by omega
    have hk5 : k ≤ 500 := by omega
    have hki : (ws.length : Int) - 1 = (k : Int) := by omega
    have hki1 : ¬ (k : Int) < 1 := by omega
    have HKK := Lib.hid hkk
    have HR := Lib.hid hr
    have HS := Lib.hid hs
    have HSLK := Lib.hid (fun (W : World) (hW : Below w.heap.size w W) => slack_any A c ws m W (hs.to hW) hr)
    have hsb := slackP_bound ws hr.w (m + 6)
    have hs1 : slackP ws m ≤ 2006 := by have := hr.hi; unfold slackP; omega
    have hs2 : -300000 ≤ slackP ws m := by have := hr.lo; unfold slackP; omega
    have HGE := Lib.hid (gapsP_eq (m := m) hkk hk1)
    have HW1 : Hid (Below w.heap.size w (w.alloc (.cells #[.int .i64 6] 3))) := Lib.hid ((Below.refl _ _).alloc (Nat.le_refl _) _)
    have HRP : Hid (Calls Tryz.prog 146 #[.slice (some ⟨w.heap.size, 0, none⟩) 1 1, .int .i64 (k : Int)] (w.alloc (.cells #[.int .i64 6] 3)) fun e w' => ∃ g, e = .returned (.slice (some ⟨g, 0, none⟩) k k) ∧ (w.alloc (.cells #[.int .i64 6] 3)).heap.size ≤ g ∧ IRow w' g 3 (List.replicate k 6) ∧ Below (w.alloc (.cells #[.int .i64 6] 3)).heap.size (w.alloc (.cells #[.int .i64 6] 3)) w') := Lib.hid (repeat_any w.heap.size 0 1 6 k hk1 hk5 (by unfold I64; omega) _ (cell_of_row _ _ 0 _ _ _ (heap_alloc_new w (.cells #[.int .i64 6] 3))))
    clear hs hr hk hkk hsb
    generalize slackP ws m = s at *
    go_enter Tryz.func136, Tryz.ntmps136
    go_wp2_with fail
    refine HRP.out.mono ?_
    rintro e w1 ⟨g, rfl, hg1, hg2, hb1⟩
    have HGB : Hid (w.heap.size ≤ g) := Lib.hid (by have := HW1.out.size; omega)
    have HB1 := Lib.hid (HW1.out.trans (hb1.mono HW1.out.size))
    have HI1 := Lib.hid hg2
    clear hg1 hg2 hb1 HRP HW1
    cases last
    · go_wp2_with fail
      refine (HSLK.out w1 HB1.out).mono ?_
      rintro e w2 ⟨rfl, rfl⟩
      go_wp2_with fail
      have HGE2 := Lib.hid HGE.out
      obtain ⟨q, hq⟩ : ∃ q, s.tdiv (k : Int) = q := ⟨_, rfl⟩
      obtain ⟨r, hr⟩ : ∃ r, s.tmod (k : Int) = r := ⟨_, rfl⟩
      have hqb : -300000 ≤ q ∧ q ≤ 300000 := by
        have h1 : (s.tdiv (k : Int)).natAbs = s.natAbs / (k : Int).natAbs := Int.natAbs_tdiv s k
        have h2 := Nat.div_le_self s.natAbs (k : Int).natAbs
        rw [hq] at h1
        omega
      obtain ⟨hq1, hq2⟩ := hqb
      have HF : Hid (∀ j : Nat, gapF s (k : Int) j = 6 + q + if (j : Int) < r then 1 else 0) := Lib.hid (fun j => by unfold gapF; rw [hq, hr])
      have hk0 : ¬ (k : Int) = 0 := by omega
      have hk00 : ((k : Int) == 0) = false := by rw [beq_eq_false_iff_ne]; exact hk0
      have hwq : IntKind.i64.wrap (s.tdiv (k : Int)) = q := by rw [hq]; exact IntWalk.i64_in _ (by omega)
      have hw6 : IntKind.i64.wrap (6 + q) = 6 + q := IntWalk.i64_in _ (by omega)
      have HI2 : Hid (IRow w1 g 3 ((List.range 0).map (gapF s (k : Int)) ++ List.replicate (k - 0) 6)) := Lib.hid (by simpa using HI1.out)
      clear HGE HI1 HSLK
      go_loopw [26] (fun v wr => ∃ j : Nat, j ≤ k ∧ v = .int .i64 (j : Int) ∧ Hid (IRow wr g 3 ((List.range j).map (gapF s (k : Int)) ++ List.replicate (k - j) 6)) ∧ Hid (Below w.heap.size w wr)) (fun v _ => k - (intOf v).toNat)
      case atStart => exact ⟨0, Nat.zero_le _, rfl, HI2, HB1⟩
      case round =>
        clear HI2 HB1
        obtain ⟨j, hj, rfl, HI, HB⟩ := hrel
        by_cases hlt : j < k
        · have hjk : (j : Int) < (k : Int) := by omega
          have hj0 : (0 : Int) ≤ (j : Int) := by omega
          have HAT := Lib.hid (gap_at (gapF s (k : Int)) k j hlt)
          have HST := Lib.hid (gap_row (gapF s (k : Int)) k j hlt)
          go_upto_region 11 with (fail)
          refine wp_region_rely [] (fun i => SP.any) 9 (by kernel_rfl) (by kernel_rfl) ?_
          intro T _ g1 hg hgm
          have c0 : ∀ d, (g1 d).cell? ⟨g, j, none⟩ = some (.int .i64 6) := fun d => (HI.out.to (hg d)).cell j HAT.out
          repeat (refine wpR_pure (by rfl) fun Kq hq => ?_; go_big_quiet_step (fail); refine wpQuiet_nil (hq _ ?_); clear hq Kq)
          refine wpR_tail 1 (by rfl) (by rfl) (fun d hG => ?_)
          have HId := Lib.hid (HI.out.to (hg d))
          have HBd : Hid (Below w.heap.size w (g1 d)) := Lib.hid (HB.out.trans ((hg d).mono HB.out.size))
          have c1 := c0 d
          have f1 := HId.out.fz j
          clear c0 hG hg hgm HI HB
          generalize g1 d = wx at *
          clear g1
          refine wpAny_one (i := 9) (oi := _) rfl (by kernel_rfl) (by rfl) (fun K hK => ?_)
          go_simp
          refine hK _ _ ?_
          clear hK K
          try simp only [Act.put, List.setIfInBounds_toArray, List.set_cons_zero, List.set_cons_succ]
          refine wpAny_done (by kernel_rfl) ?_ _
          try unfold Exit.then
          have HI3 : Hid (IRow (wx.setCell ⟨g, j, none⟩ (.int .i64 (6 + q))) g 3 ((((List.range j).map (gapF s (k : Int))) ++ List.replicate (k - j) 6).set j (6 + q))) := Lib.hid (HId.out.set j (6 + q))
          have HB3 : Hid (Below w.heap.size w (wx.setCell ⟨g, j, none⟩ (.int .i64 (6 + q)))) := Lib.hid (HBd.out.setCell (p := ⟨g, j, none⟩) HGB.out _)
          clear c1 f1 HId HBd
          generalize wx.setCell ⟨g, j, none⟩ (.int .i64 (6 + q)) = wy at *
          by_cases hjr : (j : Int) < r
          · have HN : Hid (((((List.range j).map (gapF s (k : Int))) ++ List.replicate (k - j) 6).set j (6 + q)).set j (6 + q + 1) = ((List.range (j + 1)).map (gapF s (k : Int))) ++ List.replicate (k - (j + 1)) 6) := Lib.hid (by
              rw [List.set_set, ← HST.out, HF.out, if_pos hjr])
            have c2 : wy.cell? ⟨g, j, none⟩ = some (.int .i64 (6 + q)) := HI3.out.cell j (by rw [List.getElem?_set_self]; simp; omega)
            have f2 := HI3.out.fz j
            have HI4 := Lib.hid (HI3.out.set j (6 + q + 1))
            have HB4 : Hid (Below w.heap.size w (wy.setCell ⟨g, j, none⟩ (.int .i64 (6 + q + 1)))) := Lib.hid (HB3.out.setCell (p := ⟨g, j, none⟩) HGB.out _)
            go_wp2_with fail
            go_roundw
            case rel => exact ⟨j + 1, by omega, by go_num, Lib.hid (by rw [← HN.out]; exact HI4.out), HB4⟩
            case measure => (first | (simp [intOf]; done) | (simp [intOf]; omega))
          · have HN : Hid ((((List.range j).map (gapF s (k : Int))) ++ List.replicate (k - j) 6).set j (6 + q) = ((List.range (j + 1)).map (gapF s (k : Int))) ++ List.replicate (k - (j + 1)) 6) := Lib.hid (by
              rw [← HST.out, HF.out, if_neg hjr, Int.add_zero])
            go_wp2_with fail
            go_roundw
            case rel => exact ⟨j + 1, by omega, by go_num, Lib.hid (by rw [← HN.out]; exact HI3.out), HB3⟩
            case measure => (first | (simp [intOf]; done) | (simp [intOf]; omega))
        · obtain rfl : j = k := by omega
          go_wp2_with fail
          go_ret
          have hrow : IRow wr g 3 ((List.range j).map (gapF s (j : Int))) := by have := HI.out; rwa [Nat.sub_self, List.replicate_zero, List.append_nil] at this
          have hown := hrow.own HGB.out (fun y hy => by
            obtain ⟨i, _, rfl⟩ := List.mem_map.1 hy
            rw [HF.out]; unfold I64; split <;> omega) (by simp; unfold maxLen; omega)
          rw [List.length_map, List.length_range] at hown
          exact ⟨_, rfl, by rw [HGE2.out]; exact hown, HB.out⟩
    · have HGT : Hid (gapsP ws m true = List.replicate k 6) := Lib.hid (by
        have h := HKK.out
        unfold gapsP; rw [if_neg (by omega), if_pos rfl]; congr 1; omega)
      go_wp2_with fail
      go_ret
      have hown := HI1.out.own HGB.out (fun y hy => by rw [List.eq_of_mem_replicate hy]; unfold I64; omega) (by rw [List.length_replicate]; unfold maxLen; omega)
      rw [List.length_replicate] at hown
      exact ⟨_, rfl, by rw [HGT.out]; exact hown, HB1.out⟩
end Go.Proofs.YtakaielemicpkaaGreatDoor
namespace Go.Proofs.YtakaielemicpkaaGreatDoor
open Go.RowKit
structure Bd (α : Type) (B : Nat) where
  x : α
instance instRepBd (α : Type) [Rep α] (B : Nat) : Rep (Bd α B) where
  size := Rep.size α
  R w S cs y := Rep.R w (fun b => S b ∧ B ≤ b) cs y.x
  len h := Rep.len (α := α) h
  one h := Rep.one (α := α) h
  keep h hk := Rep.keep (α := α) h (fun i hi hlt => hk i hi.1 hlt)
  mono h hS := Rep.mono (α := α) h (fun i hi hlt => ⟨hS i hi.1 hlt, hi.2⟩)
section
variable {α : Type} [Rep α] {w : World} {base B n c : Nat} {e : TypeId} {v : Value} {A : Option Addr}
theorem bd_sl {l : List (Bd α B)} (h : Own w base e v l) (hB : B ≤ base) : ∃ A c, v = .slice A (l.map Bd.x).length c ∧ Sl w (fun b => b < w.heap.size ∧ B ≤ b) A c (l.map Bd.x) := by
  obtain ⟨A, c, rfl, hs⟩ := h.sl
  refine ⟨A, c, by rw [List.length_map], by rw [List.length_map]; exact hs.1, hs.2.1, fun h0 => ?_⟩
  rw [List.length_map] at h0
  obtain ⟨b, o, rfl, hb, hlt, hx⟩ := hs.2.2 h0
  refine ⟨b, o, rfl, ⟨hb, Nat.le_trans hB (h.lt b rfl).1⟩, hlt, fun i hi => ?_⟩
  rw [List.length_map] at hi
  obtain ⟨es, hr, hc⟩ := hx i hi
  rw [List.getElem_map]
  exact ⟨es, hr, hc⟩
end
section
variable {α : Type} [Rep α]
theorem madeCells_get (z : Array Value) (n k : Nat) : (madeCells z n).toList[k]? = if k < n then some (z[k % z.size]!) else none := by
  unfold madeCells
  by_cases h : k < n
  · simp [h]
  · simp [h]
theorem own_made (w : World) {base n : Nat} {e : TypeId} {z : Array Value} {x : α} (hB : base ≤ w.heap.size) (hn : n ≤ maxLen) (hz : z.size = Rep.size α) (h0 : 0 < Rep.size α) (h1 : ∀ u ∈ z.toList, u.oneCell' = true)
    (hr : ∀ (W : World) (S : Nat → Prop), Rep.R W S z.toList x) : Own (w.alloc (.cells (madeCells z (n * Rep.size α)) e)) base e (.slice (some ⟨w.heap.size, 0, none⟩) n n) (List.replicate n x) := by
  have hsz : (madeCells z (n * Rep.size α)).size = n * Rep.size α := size_madeCells _ _
  have hlen : (madeCells z (n * Rep.size α)).toList.length = n * Rep.size α := by rw [Array.length_toList, hsz]
  refine ⟨(madeCells z (n * Rep.size α)).toList, ⟨by rw [List.length_replicate]; exact hlen, .inr ⟨w.heap.size, n, madeCells z (n * Rep.size α), by rw [List.length_replicate], hB, heap_alloc_new w _, by rw [List.length_replicate]; exact Nat.le_refl _, hn, hsz, by rw [List.length_replicate]; exact List.take_of_length_le (by omega)⟩⟩, ?_, fun i hi => ?_⟩
  · intro u hu
    obtain ⟨k, hk⟩ := List.getElem?_of_mem hu
    rw [madeCells_get z _ k] at hk
    split at hk
    · have hm : k % z.size < z.size := Nat.mod_lt _ (by omega)
      have : u = z[k % z.size] := by
        rw [getElem!_pos z _ hm] at hk
        exact (Option.some.inj hk).symm
      rw [this]
      exact h1 _ (by simp)
    · cases hk
  · rw [List.length_replicate] at hi
    rw [List.getElem_replicate]
    have ht : (((madeCells z (n * Rep.size α)).toList.drop (i * Rep.size α)).take (Rep.size α)) = z.toList := by
      apply List.ext_getElem?
      intro k
      rw [List.getElem?_take, List.getElem?_drop, madeCells_get z _ _]
      by_cases hk : k < Rep.size α
      · have h2 : (i + 1) * Rep.size α ≤ n * Rep.size α := Nat.mul_le_mul_right _ hi
        rw [Nat.add_mul, Nat.one_mul] at h2
        have hmod : (i * Rep.size α + k) % z.size = k := by
          rw [hz, Nat.add_comm, Nat.add_mul_mod_self_right]; exact Nat.mod_eq_of_lt hk
        rw [if_pos hk, if_pos (by omega), hmod, getElem!_pos z k (by omega)]
        first | (simp; done) | (simp; omega)
      · rw [if_neg hk, List.getElem?_eq_none (by rw [Array.length_toList]; omega)]
    rw [ht]
    exact hr _ _
end
end Go.Proofs.YtakaielemicpkaaGreatDoor
