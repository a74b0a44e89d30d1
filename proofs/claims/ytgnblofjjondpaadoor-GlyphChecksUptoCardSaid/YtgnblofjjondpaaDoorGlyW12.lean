/- The words of a text, their number and one of them, by the reference. No condition but that the sizes fit. -/
import Derived.Test.YtgnblofjjondpaaDoorGlyG1
namespace Go.Proofs.YtgnblofjjondpaaDoor
open Go.RowKit
theorem flat_take (l : List (List Word)) (k : Nat) (h : k < l.length) : (l.take (k + 1)).flatten = (l.take k).flatten ++ l[k] := by
  rw [List.take_succ_eq_append_getElem h, List.flatten_append, List.flatten_singleton]
theorem tot_ab (a b : List (List Word)) : tot (a ++ b) = tot a + tot b := by unfold tot; rw [List.flatten_append, List.length_append]
set_option maxHeartbeats 2000000 in
theorem rwords_any (A B : Option Addr) (c d : Nat) (a b : List (List Word)) (w : World) (ha : Sl w (fun b => b < w.heap.size) A c a) (hb : Sl w (fun b => b < w.heap.size) B d b) (ht : tot (a ++ b) ≤ 2097152) :
    Calls Tryd.prog 50 #[.agg #[.slice A a.length c, .slice B b.length d]] w fun e w' => ∃ v, e = .returned v ∧ Own w' w.heap.size 36 v (a ++ b).flatten ∧ Below w.heap.size w w' := by
  have hla : a.length ≤ 9223372036854775807 := by have := ha.1; have := ha.2.1; unfold maxLen at this; omega
  have hlb : b.length ≤ 9223372036854775807 := by have := hb.1; have := hb.2.1; unfold maxLen at this; omega
  have hb0 := ((Below.refl w.heap.size w).alloc (Nat.le_refl _) (.cells #[.slice A a.length c, .slice B b.length d] 41))
  have hy : TBox (w.alloc (.cells #[.slice A a.length c, .slice B b.length d] 41)) w.heap.size (.slice A a.length c) (.slice B b.length d) := ⟨heap_alloc_new w _⟩
  have HA := Lib.hid (ha.keep (Kept.all hb0) hb0.size)
  have HB := Lib.hid (hb.keep (Kept.all hb0) hb0.size)
  have Hb0 := Lib.hid hb0
  have HY := Lib.hid hy
  have HT := Lib.hid (tot_ab a b)
  clear ha hb hb0 hy
  go_enter Tryd.func50, Tryd.ntmps50
  go_wp2_with fail
  have hz1 : w.heap.size < (w.alloc (.cells #[.slice A a.length c, .slice B b.length d] 41)).heap.size := by simp
  generalize (w.alloc (.cells #[.slice A a.length c, .slice B b.length d] 41)) = w1 at *
  go_loopw [3, 4] (fun v i wr => ∃ k : Nat, k ≤ a.length ∧ i = .int .i64 k ∧ Own wr w1.heap.size 36 v (a.take k).flatten ∧ Below w1.heap.size w1 wr) (fun _ i _ => a.length - (intOf i).toNat)
  case atStart => exact ⟨0, Nat.zero_le _, rfl, Own.nil _ _ _, Below.refl _ _⟩
  case round =>
    obtain ⟨k, hk, rfl, hown, hb⟩ := hrel
    have Hb := Lib.hid hb
    have hz := hb.size
    obtain ⟨Av, cv, rfl, hvb, _⟩ := hown.form
    have t0 := (HY.out.below hb).c0
    have t1 := (HY.out.below hb).c1
    clear hb
    by_cases hlt : k < a.length
    · obtain ⟨bb, o, Ap, cp, rfl, hbS, hbl, hc, hp⟩ := part_at (HA.out.keep (Kept.all Hb.out) Hb.out.size) hlt
      have hkl : (k : Int) < (a.length : Int) := by omega
      have hk0 : (0 : Int) ≤ (k : Int) := by omega
      have HF := Lib.hid (flat_take a k hlt)
      have h1 := tot_le a (k + 1)
      have h2 := tot_take a k hlt
      have h3 := HT.out
      have hfl : (a.take k).flatten.length = tot (a.take k) := rfl
      generalize a[k] = p at *
      generalize (a.take k).flatten = fl at *
      have HS : Hid (∀ i, i < w.heap.size → i < wr.heap.size → some i ≠ (Value.slice Av fl.length cv).ownBlock) := fun i hi _ e => by
        have := hown.lt i e.symm
        omega
      have hpl : p.length ≤ 2097152 := by omega
      have hfl2 : fl.length + p.length ≤ 2097152 := by omega
      have HP := Lib.hid hp
      clear hp h1 h2 h3 hfl hvb
      go_wp2_with (at_builtin; refine wpList_cat (α := Word) _ rfl (.tmp 13) (.tmp 18) 61 rfl w1.heap.size 36 (.agg #[.string ⟨#[]⟩, .string ⟨#[]⟩, .int .i64 0, .int .i64 0]) 48 Tryd.underlying61 word_info rfl (by decide) _ fl rfl hown Ap cp p.length p rfl rfl (fun b => b < w.heap.size) HP.out HS.out (by omega) (by omega) hz ?_; intro v' w5 hown5 hg5 hat5)
      go_roundw
      case rel => exact ⟨k + 1, by omega, by go_num, by rw [HF.out]; exact hown5, below_cat Hb.out hown hz hg5⟩
      case measure => simp [intOf]; omega
    · obtain rfl : k = a.length := by omega
      have E := Lib.hid (show (a.take a.length).flatten = a.flatten by rw [List.take_length])
      rw [E.out] at hown
      have hfa : a.flatten.length = tot a := rfl
      have HFA := Lib.hid hfa
      rw [E.out]
      generalize hfa' : a.flatten = fa at *
      have HFA2 := Lib.hid hfa'
      clear hfa' hfa hvb E
      go_wp2_with fail
      go_loopw [3, 5] (fun v i wr => ∃ k : Nat, k ≤ b.length ∧ i = .int .i64 k ∧ Own wr w1.heap.size 36 v (fa ++ (b.take k).flatten) ∧ Below w1.heap.size w1 wr) (fun _ i _ => b.length - (intOf i).toNat)
      case atStart => exact ⟨0, Nat.zero_le _, rfl, by simpa using hown, Hb.out⟩
      case round =>
        clear hown Hb hz t0 t1
        obtain ⟨k, hk, rfl, hown, hb⟩ := hrel
        have Hb := Lib.hid hb
        have hz := hb.size
        obtain ⟨Av, cv, rfl, hvb, _⟩ := hown.form
        have t0 := (HY.out.below hb).c0
        have t1 := (HY.out.below hb).c1
        clear hb
        by_cases hlt : k < b.length
        · obtain ⟨bb, o, Ap, cp, rfl, hbS, hbl, hc, hp⟩ := part_at (HB.out.keep (Kept.all Hb.out) Hb.out.size) hlt
          have hkl : (k : Int) < (b.length : Int) := by omega
          have hk0 : (0 : Int) ≤ (k : Int) := by omega
          have HF := Lib.hid (show fa ++ (b.take (k + 1)).flatten = (fa ++ (b.take k).flatten) ++ b[k] by rw [flat_take b k hlt, List.append_assoc])
          have h1 := tot_le b (k + 1)
          have h2 := tot_take b k hlt
          have h3 := HT.out
          have hfl : (fa ++ (b.take k).flatten).length = tot a + tot (b.take k) := by rw [List.length_append, HFA.out]; rfl
          generalize b[k] = p at *
          generalize (fa ++ (b.take k).flatten) = fl at *
          have HS : Hid (∀ i, i < w.heap.size → i < wr.heap.size → some i ≠ (Value.slice Av fl.length cv).ownBlock) := fun i hi _ e => by
            have := hown.lt i e.symm
            omega
          have hpl : p.length ≤ 2097152 := by omega
          have hfl2 : fl.length + p.length ≤ 2097152 := by omega
          have HP := Lib.hid hp
          clear hp h1 h2 h3 hfl hvb
          go_wp2_with (at_builtin; refine wpList_cat (α := Word) _ rfl (.tmp 27) (.tmp 32) 61 rfl w1.heap.size 36 (.agg #[.string ⟨#[]⟩, .string ⟨#[]⟩, .int .i64 0, .int .i64 0]) 48 Tryd.underlying61 word_info rfl (by decide) _ fl rfl hown Ap cp p.length p rfl rfl (fun b => b < w.heap.size) HP.out HS.out (by omega) (by omega) hz ?_; intro v' w5 hown5 hg5 hat5)
          go_roundw
          case rel => exact ⟨k + 1, by omega, by go_num, by rw [HF.out]; exact hown5, below_cat Hb.out hown hz hg5⟩
          case measure => simp [intOf]; omega
        · obtain rfl : k = b.length := by omega
          have hab : fa ++ (b.take b.length).flatten = (a ++ b).flatten := by rw [List.take_length, List.flatten_append, HFA2.out]
          have HAB := Lib.hid hab
          clear hab hvb
          go_wp2_with fail
          go_ret
          exact ⟨_, rfl, by rw [← HAB.out]; exact hown.re (by omega), Hb0.out.trans (Hb.out.mono Hb0.out.size)⟩
/-- The length that a slice of words has is one of Go's ints. -/
theorem rcount_any (A B : Option Addr) (c d : Nat) (a b : List (List Word)) (w : World) (ha : Sl w (fun b => b < w.heap.size) A c a) (hb : Sl w (fun b => b < w.heap.size) B d b) (ht : tot (a ++ b) ≤ 2097152) :
    Calls Tryd.prog 28 #[.agg #[.slice A a.length c, .slice B b.length d]] w fun e w' => e = .returned (.int .i64 (tot (a ++ b) : Int)) ∧ Below w.heap.size w w' := by
  have hb0 := ((Below.refl w.heap.size w).alloc (Nat.le_refl _) (.cells #[.slice A a.length c, .slice B b.length d] 41))
  have HA := Lib.hid (ha.to hb0)
  have HB := Lib.hid (hb.to hb0)
  have Hb0 := Lib.hid hb0
  clear ha hb hb0
  go_enter Tryd.func28, Tryd.ntmps28
  go_wp2_with fail
  refine (rwords_any A B c d a b _ HA.out HB.out ht).mono ?_
  rintro e w2 ⟨v, rfl, hown, hb2⟩
  have Hb2 := Lib.hid (Hb0.out.trans (hb2.mono Hb0.out.size))
  have hfl : (a ++ b).flatten.length = tot (a ++ b) := rfl
  have HFL := Lib.hid hfl
  generalize (a ++ b).flatten = fl at *
  obtain ⟨A2, c2, rfl, _⟩ := hown.form
  clear hb2 hown hfl
  go_wp2_with fail
  go_ret
  exact ⟨ret_int (by rw [HFL.out]), Hb2.out⟩
set_option maxHeartbeats 1000000 in
theorem rword_any (A B : Option Addr) (c d : Nat) (a b : List (List Word)) (n : Int) (w : World) (hn : I64 n) (ha : Sl w (fun b => b < w.heap.size) A c a) (hb : Sl w (fun b => b < w.heap.size) B d b) (ht : tot (a ++ b) ≤ 2097152) :
    Calls Tryd.prog 30 #[.agg #[.slice A a.length c, .slice B b.length d], .int .i64 n] w fun e w' => e = .returned (.tuple #[(wordOf (a ++ b) n).val, .bool (hasWord (a ++ b) n)]) ∧ Below w.heap.size w w' := by
  have hb0 := (((Below.refl w.heap.size w).alloc (Nat.le_refl _) (.cells #[.slice A a.length c, .slice B b.length d] 41)).alloc (by simp) (.cells #[.string ⟨#[]⟩, .string ⟨#[]⟩, .int .i64 0, .int .i64 0] 36))
  have HA := Lib.hid (ha.to hb0)
  have HB := Lib.hid (hb.to hb0)
  have Hb0 := Lib.hid hb0
  have R0 := Lib.hid (show ((w.alloc (.cells #[.slice A a.length c, .slice B b.length d] 41)).alloc (.cells #[.string ⟨#[]⟩, .string ⟨#[]⟩, .int .i64 0, .int .i64 0] 36)).heap[w.heap.size + 1]? = some (.cells #[.string ⟨#[]⟩, .string ⟨#[]⟩, .int .i64 0, .int .i64 0] 36) from heap_at (by simp))
  have hz : w.heap.size + 1 < ((w.alloc (.cells #[.slice A a.length c, .slice B b.length d] 41)).alloc (.cells #[.string ⟨#[]⟩, .string ⟨#[]⟩, .int .i64 0, .int .i64 0] 36)).heap.size := by simp
  have hn1 := hn.1
  have hn2 := hn.2
  clear ha hb hb0
  go_enter Tryd.func30, Tryd.ntmps30
  go_wp2_with fail
  refine (rwords_any A B c d a b _ HA.out HB.out ht).mono ?_
  rintro e w1 ⟨v, rfl, hown, hb2⟩
  have Hb2 := Lib.hid (Hb0.out.trans (hb2.mono Hb0.out.size))
  have hfl : (a ++ b).flatten.length = tot (a ++ b) := rfl
  have HFL := Lib.hid hfl
  obtain ⟨A2, c2, rfl, hs⟩ := hown.sl
  have Hs := Lib.hid hs
  have R1 := (hb2.block _ hz).trans R0.out
  have c0 := cell_of_row w1 _ 0 _ _ _ R1
  have c1' := cell_of_row w1 _ 1 _ _ _ R1
  have d2 := cell_of_row w1 _ 2 _ _ _ R1
  have c3 := cell_of_row w1 _ 3 _ _ _ R1
  have hfz : ∀ o, w1.frozen? ⟨w.heap.size + 1, o, none⟩ = false := fun o => by simp [World.frozen?, R1]
  simp only [List.getElem?_toArray, List.getElem?_cons_succ, List.getElem?_cons_zero] at c0 c1' d2 c3
  have hzz := Hb2.out.size
  have HW1 := Lib.hid (fun (h : n < 0) => (by unfold wordOf; rw [if_pos h] : wordOf (a ++ b) n = noWord))
  have HW2 := Lib.hid (fun (h : ¬ n < 0) => (by unfold wordOf; rw [if_neg h] : wordOf (a ++ b) n = (a ++ b).flatten.getD n.toNat noWord))
  have HH : Hid (hasWord (a ++ b) n = decide (0 ≤ n ∧ n < ((a ++ b).flatten.length : Int))) := rfl
  generalize (a ++ b).flatten = fl at *
  clear hb2 hown hfl R1 hs hz
  by_cases hneg : n < 0
  · have E := Lib.hid (HW1.out hneg)
    have F := Lib.hid (show hasWord (a ++ b) n = false by rw [HH.out, decide_eq_false (by omega)])
    go_wp2_with fail
    refine bodyPost_ret (v := .tuple #[.agg #[.string ⟨#[]⟩, .string ⟨#[]⟩, .int .i64 0, .int .i64 0], .bool false]) (by simp [results, Tryd.results30, go_sem, c0, c1', d2, c3]) rfl ⟨?_, (((Hb2.out.setCell (p := ⟨w.heap.size + 1, 0, none⟩) (by show w.heap.size ≤ w.heap.size + 1; omega) _).setCell (p := ⟨w.heap.size + 1, 1, none⟩) (by show w.heap.size ≤ w.heap.size + 1; omega) _).setCell (p := ⟨w.heap.size + 1, 2, none⟩) (by show w.heap.size ≤ w.heap.size + 1; omega) _).setCell (p := ⟨w.heap.size + 1, 3, none⟩) (by show w.heap.size ≤ w.heap.size + 1; omega) _⟩
    rw [E.out, F.out]; rfl
  · obtain ⟨m, rfl⟩ := Int.eq_ofNat_of_zero_le (show 0 ≤ n by omega)
    have hm0 : 0 ≤ (m : Int) := by omega
    by_cases hin : m < fl.length
    · have hin1 : (m : Int) < (fl.length : Int) := by omega
      have hin2 : ¬ (fl.length : Int) ≤ (m : Int) := by omega
      obtain ⟨b2, o2, rfl, _, hbl2, hok, q0, q1, q2, q3⟩ := word_at Hs.out hin
      have E := Lib.hid (show wordOf (a ++ b) (m : Int) = fl[m] by rw [HW2.out hneg, Int.toNat_natCast, List.getD_eq_getElem?_getD, List.getElem?_eq_getElem hin]; rfl)
      have F := Lib.hid (show hasWord (a ++ b) (m : Int) = true by rw [HH.out, decide_eq_true (by omega)])
      generalize fl[m] = x at *
      clear hok hneg
      go_wp2_with fail
      refine bodyPost_ret (v := .tuple #[.agg #[.string x.s, .string x.key, .int .i64 x.t, .int .i64 x.n], .bool true]) (by simp [results, Tryd.results30, go_sem, c0, c1', d2, c3]) rfl ⟨?_, (((Hb2.out.setCell (p := ⟨w.heap.size + 1, 0, none⟩) (by show w.heap.size ≤ w.heap.size + 1; omega) _).setCell (p := ⟨w.heap.size + 1, 1, none⟩) (by show w.heap.size ≤ w.heap.size + 1; omega) _).setCell (p := ⟨w.heap.size + 1, 2, none⟩) (by show w.heap.size ≤ w.heap.size + 1; omega) _).setCell (p := ⟨w.heap.size + 1, 3, none⟩) (by show w.heap.size ≤ w.heap.size + 1; omega) _⟩
      rw [E.out, F.out]; rfl
    · have hin1 : (fl.length : Int) ≤ (m : Int) := by omega
      have E := Lib.hid (show wordOf (a ++ b) (m : Int) = noWord by rw [HW2.out hneg, Int.toNat_natCast, List.getD_eq_getElem?_getD, List.getElem?_eq_none (by omega)]; rfl)
      have F := Lib.hid (show hasWord (a ++ b) (m : Int) = false by rw [HH.out, decide_eq_false (by omega)])
      clear hneg
      go_wp2_with fail
      refine bodyPost_ret (v := .tuple #[.agg #[.string ⟨#[]⟩, .string ⟨#[]⟩, .int .i64 0, .int .i64 0], .bool false]) (by simp [results, Tryd.results30, go_sem, c0, c1', d2, c3]) rfl ⟨?_, (((Hb2.out.setCell (p := ⟨w.heap.size + 1, 0, none⟩) (by show w.heap.size ≤ w.heap.size + 1; omega) _).setCell (p := ⟨w.heap.size + 1, 1, none⟩) (by show w.heap.size ≤ w.heap.size + 1; omega) _).setCell (p := ⟨w.heap.size + 1, 2, none⟩) (by show w.heap.size ≤ w.heap.size + 1; omega) _).setCell (p := ⟨w.heap.size + 1, 3, none⟩) (by show w.heap.size ≤ w.heap.size + 1; omega) _⟩
      rw [E.out, F.out]; rfl
end Go.Proofs.YtgnblofjjondpaaDoor
