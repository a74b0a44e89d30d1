/- Count and Word of the program. No condition but that the sizes fit. -/
import Derived.Test.YtgnblofjjondpaaDoorGlyW6
namespace Go.Proofs.YtgnblofjjondpaaDoor
open Go.RowKit
/-- How many words a list of paragraphs has. -/
def tot (l : List (List Word)) : Nat := l.flatten.length
theorem tot_take (l : List (List Word)) (k : Nat) (h : k < l.length) : tot (l.take (k + 1)) = tot (l.take k) + l[k].length := by
  unfold tot; rw [List.take_succ_eq_append_getElem h, List.flatten_append, List.length_append, List.flatten_singleton]
theorem tot_le (l : List (List Word)) (k : Nat) : tot (l.take k) ≤ tot l := by
  have h : tot l = tot (l.take k) + tot (l.drop k) := by
    unfold tot; rw [← List.length_append, ← List.flatten_append, List.take_append_drop]
  omega
/-- The first cells of a text. -/
theorem text_box {w : World} {X : Nat} {A B : Option Addr} {n c m d : Nat} {t : TypeId} {fr : Nat × Nat} (hB : w.heap[X]? = some (.cells #[.slice A n c, .slice B m d] t fr)) :
    w.cell? ⟨X, 0, none⟩ = some (.slice A n c) ∧ w.cell? ⟨X, 1, none⟩ = some (.slice B m d) := ⟨cell_of_row w _ 0 _ _ _ hB, cell_of_row w _ 1 _ _ _ hB⟩
set_option maxHeartbeats 1000000 in
theorem count_any (A B : Option Addr) (c d : Nat) (a b : List (List Word)) (w : World) (ha : Sl w (fun b => b < w.heap.size) A c a) (hb : Sl w (fun b => b < w.heap.size) B d b) (hla : a.length ≤ 1048576) (hlb : b.length ≤ 1048576) (ht : tot (a ++ b) ≤ 9223372036854775807) :
    Calls Tryd.prog 27 #[.agg #[.slice A a.length c, .slice B b.length d]] w fun e w' => e = .returned (.int .i64 (tot (a ++ b) : Int)) ∧ Below w.heap.size w w' := by
  have hb0 := ((Below.refl w.heap.size w).alloc (Nat.le_refl _) (.cells #[.slice A a.length c, .slice B b.length d] 41))
  have hb1 := hb0.alloc (by simp) (.cells #[.slice A a.length c, .slice B b.length d] 39)
  have Hb1 := Lib.hid hb1
  have Ha := Lib.hid (ha.to hb1)
  have Hb := Lib.hid (hb.to hb1)
  have q0 : ((w.alloc (.cells #[.slice A a.length c, .slice B b.length d] 41)).alloc (.cells #[.slice A a.length c, .slice B b.length d] 39)).cell? ⟨w.heap.size + 1, 0, none⟩ = some (.slice A a.length c) := by go_simp
  have q1 : ((w.alloc (.cells #[.slice A a.length c, .slice B b.length d] 41)).alloc (.cells #[.slice A a.length c, .slice B b.length d] 39)).cell? ⟨w.heap.size + 1, 1, none⟩ = some (.slice B b.length d) := by go_simp
  have Q0 := Lib.hid q0
  have Q1 := Lib.hid q1
  clear ha hb hb0 hb1 q0 q1
  go_enter Tryd.func27, Tryd.ntmps27
  go_wp2_with fail
  refine (concat_any _ A B c d a b _ Q0.out Q1.out Ha.out Hb.out hla hlb).mono ?_
  rintro e w1 ⟨v, rfl, hown, hbb⟩
  obtain ⟨A1, c1, rfl, hs⟩ := hown.sl
  have hll : (a ++ b).length ≤ 2097152 := by simp; omega
  generalize hl : a ++ b = l at *
  have HL := Lib.hid hl
  clear hl
  have Hs := Lib.hid hs
  have Hbb := Lib.hid (Hb1.out.trans (hbb.mono Hb1.out.size))
  clear hs hown hbb Ha Hb Q0 Q1 Hb1
  go_wp2_with fail
  go_loop [3, 5, 13] (fun n _ i => ∃ k : Nat, k ≤ l.length ∧ i = .int .i64 k ∧ n = .int .i64 (tot (l.take k) : Int)) (fun _ _ i => l.length - (intOf i).toNat)
  case atStart => exact ⟨0, Nat.zero_le _, rfl, rfl⟩
  case round =>
    obtain ⟨k, hk, rfl, rfl⟩ := hrel
    by_cases hlt : k < l.length
    · obtain ⟨b, o, Ap, cp, rfl, _, hbl, hc, hp⟩ := part_at Hs.out hlt
      have hkl : (k : Int) < (l.length : Int) := by omega
      have hk0 : (0 : Int) ≤ (k : Int) := by omega
      have HT := Lib.hid (tot_take l k hlt)
      have h1 := tot_le l (k + 1)
      have h2 : tot (l.take k) + l[k].length ≤ 9223372036854775807 := by have := HT.out; omega
      generalize tot (l.take k) = T at *
      clear hp h1
      go_wp2_with fail
      go_round
      case rel => exact ⟨k + 1, by omega, by go_num, by rw [HT.out]; go_num⟩
      case measure => simp [intOf]; omega
    · have E := Lib.hid (show tot (l.take k) = tot l by rw [List.take_of_length_le (by omega)])
      go_wp2_with fail
      go_ret
      exact ⟨ret_int (by rw [E.out, HL.out]), Hbb.out⟩
/-- The word with a number, and whether there is one. -/
def noWord : Word := ⟨⟨#[]⟩, ⟨#[]⟩, 0, 0⟩
def wordOf (l : List (List Word)) (n : Int) : Word := if n < 0 then noWord else l.flatten.getD n.toNat noWord
def hasWord (l : List (List Word)) (n : Int) : Bool := decide (0 ≤ n ∧ n < (tot l : Int))
theorem flat_at (l : List (List Word)) (k m : Nat) (hk : k < l.length) (hm : m < l[k].length) : tot (l.take k) + m < tot l ∧ l.flatten.getD (tot (l.take k) + m) noWord = l[k][m] := by
  have e : l = l.take k ++ (l[k] :: l.drop (k + 1)) := by rw [← List.drop_eq_getElem_cons hk, List.take_append_drop]
  have e2 : l.flatten = (l.take k).flatten ++ (l[k] ++ (l.drop (k + 1)).flatten) := by
    conv => lhs; rw [e]
    rw [List.flatten_append, List.flatten_cons]
  unfold tot
  rw [e2]
  refine ⟨by simp only [List.length_append]; omega, ?_⟩
  rw [List.getD_eq_getElem?_getD, List.getElem?_append_right (by omega), Nat.add_sub_cancel_left, List.getElem?_append_left hm, List.getElem?_eq_getElem hm]
  rfl
def Word.val (x : Word) : Value := .agg #[.string x.s, .string x.key, .int .i64 x.t, .int .i64 x.n]
set_option maxHeartbeats 1000000 in
theorem gword_any (A B : Option Addr) (c d : Nat) (a b : List (List Word)) (n : Int) (w : World) (hn : I64 n) (ha : Sl w (fun b => b < w.heap.size) A c a) (hb : Sl w (fun b => b < w.heap.size) B d b) (hla : a.length ≤ 1048576) (hlb : b.length ≤ 1048576) (ht : tot (a ++ b) ≤ 9223372036854775807) :
    Calls Tryd.prog 29 #[.agg #[.slice A a.length c, .slice B b.length d], .int .i64 n] w fun e w' => e = .returned (.tuple #[(wordOf (a ++ b) n).val, .bool (hasWord (a ++ b) n)]) ∧ Below w.heap.size w w' := by
  by_cases hneg : n < 0
  · have E := Lib.hid (show wordOf (a ++ b) n = noWord by unfold wordOf; rw [if_pos hneg])
    have F := Lib.hid (show hasWord (a ++ b) n = false by unfold hasWord; rw [decide_eq_false (by omega)])
    go_enter Tryd.func29, Tryd.ntmps29
    go_wp2_with fail
    refine bodyPost_ret (v := .tuple #[.agg #[.string ⟨#[]⟩, .string ⟨#[]⟩, .int .i64 0, .int .i64 0], .bool false]) (by simp [results, Tryd.results29, go_sem]) rfl ⟨?_, ((Below.refl _ _).alloc (Nat.le_refl _) _).alloc (by simp) _⟩
    rw [E.out, F.out]; rfl
  · obtain ⟨m, rfl⟩ := Int.eq_ofNat_of_zero_le (show 0 ≤ n by omega)
    clear hneg
    have hm2 : (m : Int) ≤ 9223372036854775807 := hn.2
    have hb1 : Below w.heap.size w (((w.alloc (.cells #[.slice A a.length c, .slice B b.length d] 41)).alloc (.cells #[.string ⟨#[]⟩, .string ⟨#[]⟩, .int .i64 0, .int .i64 0] 36)).alloc (.cells #[.slice A a.length c, .slice B b.length d] 39)) := (((Below.refl _ _).alloc (Nat.le_refl _) _).alloc (by simp) _).alloc (by simp; omega) _
    have Hb1 := Lib.hid hb1
    have Ha := Lib.hid (ha.to hb1)
    have Hb := Lib.hid (hb.to hb1)
    have Q0 := Lib.hid (show (((w.alloc (.cells #[.slice A a.length c, .slice B b.length d] 41)).alloc (.cells #[.string ⟨#[]⟩, .string ⟨#[]⟩, .int .i64 0, .int .i64 0] 36)).alloc (.cells #[.slice A a.length c, .slice B b.length d] 39)).cell? ⟨w.heap.size + 1 + 1, 0, none⟩ = some (.slice A a.length c) by go_simp)
    have Q1 := Lib.hid (show (((w.alloc (.cells #[.slice A a.length c, .slice B b.length d] 41)).alloc (.cells #[.string ⟨#[]⟩, .string ⟨#[]⟩, .int .i64 0, .int .i64 0] 36)).alloc (.cells #[.slice A a.length c, .slice B b.length d] 39)).cell? ⟨w.heap.size + 1 + 1, 1, none⟩ = some (.slice B b.length d) by go_simp)
    have R0 := Lib.hid (show (((w.alloc (.cells #[.slice A a.length c, .slice B b.length d] 41)).alloc (.cells #[.string ⟨#[]⟩, .string ⟨#[]⟩, .int .i64 0, .int .i64 0] 36)).alloc (.cells #[.slice A a.length c, .slice B b.length d] 39)).heap[w.heap.size + 1]? = some (.cells #[.string ⟨#[]⟩, .string ⟨#[]⟩, .int .i64 0, .int .i64 0] 36) from (Below.heap_alloc _ _ _ (by simp)).trans (heap_at (by simp)))
    have hz : w.heap.size + 1 < (((w.alloc (.cells #[.slice A a.length c, .slice B b.length d] 41)).alloc (.cells #[.string ⟨#[]⟩, .string ⟨#[]⟩, .int .i64 0, .int .i64 0] 36)).alloc (.cells #[.slice A a.length c, .slice B b.length d] 39)).heap.size := by simp
    clear ha hb hb1
    go_enter Tryd.func29, Tryd.ntmps29
    go_wp2_with fail
    refine (concat_any _ A B c d a b _ Q0.out Q1.out Ha.out Hb.out hla hlb).mono ?_
    rintro e w1 ⟨v, rfl, hown, hbb⟩
    obtain ⟨A1, c1, rfl, hs⟩ := hown.sl
    have hll : (a ++ b).length ≤ 2097152 := by simp; omega
    generalize hl : a ++ b = l at *
    have HL := Lib.hid hl
    have Hs := Lib.hid hs
    have Hbb := Lib.hid (Hb1.out.trans (hbb.mono Hb1.out.size))
    have R1 := (hbb.block _ hz).trans R0.out
    have c0 := cell_of_row w1 _ 0 _ _ _ R1
    have c1' := cell_of_row w1 _ 1 _ _ _ R1
    have c2 := cell_of_row w1 _ 2 _ _ _ R1
    have c3 := cell_of_row w1 _ 3 _ _ _ R1
    have hfz : ∀ o, w1.frozen? ⟨w.heap.size + 1, o, none⟩ = false := fun o => by simp [World.frozen?, R1]
    simp only [List.getElem?_toArray, List.getElem?_cons_succ, List.getElem?_cons_zero] at c0 c1' c2 c3
    have hzz := Hbb.out.size
    clear hs hown hbb Ha Hb Q0 Q1 Hb1 hl R0 R1 hz
    go_wp2_with fail
    go_loopw [1, 7, 18] (fun n _ i wr => ∃ k : Nat, k ≤ l.length ∧ i = .int .i64 k ∧ (∃ q : Nat, n = .int .i64 (q : Int) ∧ q ≤ m ∧ Hid (m = tot (l.take k) + q)) ∧ wr = w1) (fun _ _ i _ => l.length - (intOf i).toNat)
    case atStart => exact ⟨0, Nat.zero_le _, rfl, ⟨m, rfl, Nat.le_refl _, by show m = 0 + m; omega⟩, rfl⟩
    case round =>
      obtain ⟨k, hk, rfl, ⟨q, rfl, hqm, hq⟩, rfl⟩ := hrel
      by_cases hlt : k < l.length
      · obtain ⟨b, o, Ap, cp, rfl, _, hbl, hc, hp⟩ := part_at Hs.out hlt
        have hkl : (k : Int) < (l.length : Int) := by omega
        have hk0 : (0 : Int) ≤ (k : Int) := by omega
        have HT := Lib.hid (tot_take l k hlt)
        have h1 := tot_le l (k + 1)
        have h2 : l[k].length ≤ 9223372036854775807 := by have := HT.out; omega
        have HF := Lib.hid (fun m hm => flat_at l k m hlt hm)
        generalize l[k] = p at *
        clear h1
        by_cases hqp : q < p.length
        · obtain ⟨b2, o2, rfl, _, hbl2, hok, d0, d1, d2, d3⟩ := word_at hp hqp
          have hq1 : (q : Int) < (p.length : Int) := by omega
          have hq0 : (0 : Int) ≤ (q : Int) := by omega
          have E := Lib.hid (show wordOf l (m : Int) = p[q] by unfold wordOf; rw [if_neg (by omega), Int.toNat_natCast, hq.out]; exact (HF.out q hqp).2)
          have F := Lib.hid (show hasWord l (m : Int) = true by unfold hasWord; rw [decide_eq_true]; have := (HF.out q hqp).1; have := hq.out; omega)
          generalize p[q] = x at *
          clear hp hok
          go_wp2_with fail
          refine bodyPost_ret (v := .tuple #[.agg #[.string x.s, .string x.key, .int .i64 x.t, .int .i64 x.n], .bool true]) (by simp [results, Tryd.results29, go_sem, c0, c1', c2, c3]) rfl ⟨?_, (((Hbb.out.setCell (p := ⟨w.heap.size + 1, 0, none⟩) (by show w.heap.size ≤ w.heap.size + 1; omega) _).setCell (p := ⟨w.heap.size + 1, 1, none⟩) (by show w.heap.size ≤ w.heap.size + 1; omega) _).setCell (p := ⟨w.heap.size + 1, 2, none⟩) (by show w.heap.size ≤ w.heap.size + 1; omega) _).setCell (p := ⟨w.heap.size + 1, 3, none⟩) (by show w.heap.size ≤ w.heap.size + 1; omega) _⟩
          rw [HL.out, E.out, F.out]; rfl
        · have hq1 : ¬ (q : Int) < (p.length : Int) := by omega
          have hq2 : (p.length : Int) ≤ (q : Int) := by omega
          clear hp
          go_wp2_with fail
          go_roundw
          case rel => exact ⟨k + 1, by omega, by go_num, ⟨q - p.length, by go_num, by omega, by show m = _; rw [HT.out]; have := hq.out; omega⟩, by first | trivial | rfl⟩
          case measure => simp [intOf]; omega
      · have hq' : m = tot l + q := by have := hq.out; rwa [List.take_of_length_le (by omega)] at this
        have E := Lib.hid (show wordOf l (m : Int) = noWord by unfold wordOf; rw [if_neg (by omega), List.getD_eq_getElem?_getD, List.getElem?_eq_none (by unfold tot at hq'; omega)]; rfl)
        have F := Lib.hid (show hasWord l (m : Int) = false by unfold hasWord; rw [decide_eq_false (by omega)])
        clear hq'
        go_wp2_with fail
        refine bodyPost_ret (v := .tuple #[.agg #[.string ⟨#[]⟩, .string ⟨#[]⟩, .int .i64 0, .int .i64 0], .bool false]) (by simp [results, Tryd.results29, go_sem, c0, c1', c2, c3]) rfl ⟨?_, (((Hbb.out.setCell (p := ⟨w.heap.size + 1, 0, none⟩) (by show w.heap.size ≤ w.heap.size + 1; omega) _).setCell (p := ⟨w.heap.size + 1, 1, none⟩) (by show w.heap.size ≤ w.heap.size + 1; omega) _).setCell (p := ⟨w.heap.size + 1, 2, none⟩) (by show w.heap.size ≤ w.heap.size + 1; omega) _).setCell (p := ⟨w.heap.size + 1, 3, none⟩) (by show w.heap.size ≤ w.heap.size + 1; omega) _⟩
        rw [HL.out, E.out, F.out]; rfl
end Go.Proofs.YtgnblofjjondpaaDoor
