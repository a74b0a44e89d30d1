/- Split of the program. No condition but that the string fits. -/
import Derived.Test.YtgnblofjjondpaaDoorGlyW3
import Derived.Test.YtgnblofjjondpaaDoorShelf0
import Derived.Deep.RegionHeld3
import Derived.Deep.DrawnRows
namespace Go.Proofs.YtgnblofjjondpaaDoor
open Go.RowKit
instance : Rep ByteArray where
  size := 1
  R _ _ cs s := cs = [.string s] ∧ s.size ≤ maxLen
  len := by rintro w S cs s ⟨rfl, _⟩; rfl
  one := by rintro w S cs s ⟨rfl, _⟩ u hu; simp at hu; rcases hu with rfl; rfl
  keep := by rintro w w' S cs s h _; exact h
  mono := by rintro w S S' cs s h _; exact h
theorem str_at {w : World} {S : Nat → Prop} {A : Option Addr} {c : Nat} {l : List ByteArray} (h : Sl w S A c l) {k : Nat} (hk : k < l.length) :
    ∃ b o, A = some ⟨b, o, none⟩ ∧ S b ∧ b < w.heap.size ∧ l[k].size ≤ maxLen ∧ w.cell? ⟨b, o + k, none⟩ = some (.string l[k]) := by
  obtain ⟨b, o, es, rfl, hb, hlt, ⟨rfl, hok⟩, hc⟩ := h.at_ hk
  have := hc 0 _ rfl
  exact ⟨b, o, rfl, hb, hlt, hok, by simpa [Rep.size] using this⟩
theorem str_info : (Tryd.prog.info? 9).map (fun i => (i.zero, i.size, i.bytes)) = some (some (.string ⟨#[]⟩), Rep.size ByteArray, 16) := by kernel_rfl
/-- White space. -/
def isSp (c : Nat) : Bool := c == 32 || c == 9 || c == 10 || c == 13
set_option maxHeartbeats 400000 in
theorem sp_any (c : Nat) (hc : c ≤ 1114111) (w : World) : Calls Tryd.prog 52 #[.int .i32 (c : Int)] w fun e w' => e = .returned (.bool (isSp c)) ∧ w = w' := by
  have E := Lib.hid (show isSp c = (c == 32 || c == 9 || c == 10 || c == 13) from rfl)
  have h1 : ((c : Int) == 32) = (c == 32) := by rw [Bool.eq_iff_iff]; simp; omega
  have h2 : ((c : Int) == 9) = (c == 9) := by rw [Bool.eq_iff_iff]; simp; omega
  have h3 : ((c : Int) == 10) = (c == 10) := by rw [Bool.eq_iff_iff]; simp; omega
  have h4 : ((c : Int) == 13) = (c == 13) := by rw [Bool.eq_iff_iff]; simp; omega
  generalize (c == 32) = b1 at *
  generalize (c == 9) = b2 at *
  generalize (c == 10) = b3 at *
  generalize (c == 13) = b4 at *
  generalize isSp c = r at *
  go_enter Tryd.func52, Tryd.ntmps52
  cases b1 <;> cases b2 <;> cases b3 <;> cases b4 <;> (go_wp2_with fail; go_ret; exact ⟨ret_bool E.out.symm, rfl⟩)
theorem clone_any (s : ByteArray) (w : World) (hs : s.size ≤ 281474976710656) : Calls Tryd.prog 53 #[.string s] w fun e w' => e = .returned (.string s) ∧ Below w.heap.size w w' := by
  go_enter Tryd.func53, Tryd.ntmps53
  go_wp2_with fail
  refine (Tryd.stringslite_Clone s _ hs).mono ?_
  rintro e w' ⟨rfl, hb⟩
  have Hb := Lib.hid hb
  clear hb
  go_wp2_with fail
  go_ret
  exact ⟨rfl, Hb.out⟩
theorem own_strs {w : World} {base : Nat} {v : Value} {l : List ByteArray} (h : w.ownsRow base 9 1 v l.length (l.map Value.string)) (hl : ∀ s ∈ l, s.size ≤ maxLen) : Own w base 9 v l := by
  refine ⟨l.map Value.string, h, ?_, fun i hi => ⟨?_, hl _ (List.getElem_mem hi)⟩⟩
  · intro u hu
    obtain ⟨s, _, rfl⟩ := List.mem_map.1 hu
    rfl
  · show ((l.map Value.string).drop (i * 1)).take 1 = _
    rw [Nat.mul_one, List.drop_eq_getElem_cons (by simpa using hi), List.getElem_map]; rfl
def pieces (s : ByteArray) : List ByteArray := Lib.goFieldsP isSp s
theorem pieces_size (s : ByteArray) : ∀ x ∈ pieces s, x.size ≤ s.size := by
  intro x hx
  unfold pieces Lib.goFieldsP at hx
  obtain ⟨y, _, rfl⟩ := List.mem_map.1 hx
  rw [ByteArray.size_extract]; omega
theorem spans_len (p : Nat → Bool) (s : ByteArray) : ∀ f pos st acc, (Lib.spansFromP p s f pos st acc).1.length ≤ acc.length + f := by
  intro f
  induction f with
  | zero => intro pos st acc; simp [Lib.spansFromP]
  | succ f ih =>
    intro pos st acc
    unfold Lib.spansFromP
    split
    · split
      · cases st with
        | some a => have := ih (pos + (Utf8.decode s pos).2) none (acc ++ [(a, pos)]); simp at this ⊢; omega
        | none => have := ih (pos + (Utf8.decode s pos).2) none acc; simp at this ⊢; omega
      · cases st with
        | some a => have := ih (pos + (Utf8.decode s pos).2) (some a) acc; simp at this ⊢; omega
        | none => have := ih (pos + (Utf8.decode s pos).2) (some pos) acc; simp at this ⊢; omega
    · simp
theorem pieces_len (s : ByteArray) : (pieces s).length ≤ s.size + 1 := by
  unfold pieces Lib.goFieldsP Lib.spansOfP
  rw [List.length_map]
  have := spans_len isSp s s.size 0 none []
  unfold Lib.closeSpans
  split <;> simp at this ⊢ <;> omega
/-- The words of a string, or an error. -/
def splitE (s : ByteArray) : List ByteArray × Int := if (pieces s).all valid then (pieces s, 0) else ([], 7)
set_option maxHeartbeats 1000000 in
theorem gsplit_any (s : ByteArray) (w : World) (hs : s.size ≤ 4194304) (hT : Laid w) :
    Calls Tryd.prog 31 #[.string s] w fun e w' => ∃ v, e = .returned (.tuple #[v, .int .i64 (splitE s).2]) ∧ Own w' w.heap.size 9 v (splitE s).1 ∧ Below w.heap.size w w' := by
  obtain ⟨out, er, hse⟩ : ∃ out er, splitE s = (out, er) := ⟨_, _, rfl⟩
  rw [hse]
  have HSE := Lib.hid hse
  have HT := Lib.hid hT
  have hps := Lib.hid (pieces_size s)
  have hpl := pieces_len s
  clear hse hT
  unfold splitE at HSE
  go_enter Tryd.func31, Tryd.ntmps31
  go_wp2_with fail
  refine (Tryd.strings_FieldsFunc_grows 52 #[] (fun _ _ => by kernel_rfl) isSp s _ (by omega) (fun W x hx _ => (sp_any x hx W).mono fun _ _ h => ⟨h.1, by rw [← h.2]; exact Below.refl _ _⟩)).mono ?_
  rintro e w1 ⟨AA, rfl, hAA, hrow, hb⟩
  have hown : Own w1 w.heap.size 9 _ (pieces s) := own_strs hrow (fun x hx => by have := hps.out x hx; unfold maxLen; omega)
  obtain ⟨A1, c1, he1, hs1⟩ := hown.sl
  obtain ⟨rfl, hdrop, rfl⟩ := Value.slice.inj he1
  have HE1 := Lib.hid (show Lib.goFieldsP isSp s = pieces s from rfl)
  rw [HE1.out]
  have Hs := Lib.hid hs1
  have Hb := Lib.hid hb
  generalize pieces s = l at *
  clear he1 hdrop hs1 hb hrow hown HE1
  generalize (some (⟨AA, 0, none⟩ : Addr)) = A0 at *
  go_wp2_with fail
  go_loopw [4, 6, 10] (fun v _ i wr => ∃ k : Nat, k ≤ l.length ∧ i = .int .i64 k ∧ Own wr w1.heap.size 9 v (l.take k) ∧ Hid ((l.take k).all valid = true) ∧ Below w1.heap.size w1 wr) (fun _ _ i _ => l.length - (intOf i).toNat)
  case atStart => exact ⟨0, Nat.zero_le _, rfl, Own.nil _ _ _, rfl, Below.refl _ _⟩
  case round =>
    obtain ⟨k, hk, rfl, hown2, hav, hb2⟩ := hrel
    have Hb2 := Lib.hid hb2
    have hz2 := hb2.size
    have hz1 := Hb.out.size
    clear hb2
    by_cases hlt : k < l.length
    · obtain ⟨b, o, rfl, _, hbl, hsz, hc⟩ := str_at (Hs.out.to Hb2.out) hlt
      have hkl : (k : Int) < (l.length : Int) := by omega
      have hk0 : (0 : Int) ≤ (k : Int) := by omega
      have hszk := hps.out l[k] (List.getElem_mem hlt)
      have hmem := Lib.hid (List.getElem_mem hlt)
      have HT2 := Lib.hid (List.take_succ_eq_append_getElem hlt)
      have HL2 := Lib.hid ((HT.out.to Hb.out).to (Hb2.out.mono (Nat.le_refl _)))
      have hll : (l.take k).length ≤ 4194305 := by rw [List.length_take]; omega
      have hlk : (l.take k).length ≤ k := List.length_take_le _ _
      generalize l.take k = tk at *
      obtain ⟨A2, c2, rfl, _⟩ := hown2.sl
      go_wp2_with fail
      refine (gvalid_any l[k] _ HL2.out).mono ?_
      rintro e w' ⟨rfl, rfl⟩
      cases hv : valid l[k]
      · have E := Lib.hid (show l.all valid = false from List.all_eq_false.2 ⟨_, hmem.out, by rw [hv]; simp⟩)
        have E2 := Lib.hid (show (([], 7) : List ByteArray × Int) = (out, er) by rw [← HSE.out, if_neg (by rw [E.out]; simp)])
        clear hv
        go_wp2_with fail
        go_ret2
        obtain ⟨rfl, rfl⟩ := Prod.mk.inj E2.out
        exact ⟨_, rfl, Own.nil _ _ _, Hb.out.trans (Hb2.out.mono hz1)⟩
      · have E := Lib.hid (show (l.take (k + 1)).all valid = true by rw [HT2.out, List.all_append, hav.out]; simp [hv])
        clear hv
        go_wp2_with fail
        refine (clone_any l[k] _ (by omega)).mono ?_
        rintro e w4 ⟨rfl, hb4⟩
        have hown4 := hown2.below hb4
        have Hb4 := Lib.hid (Hb2.out.trans (hb4.mono hz2))
        have hz4 := hb4.size
        clear hb4 hc
        go_wp2_with (at_builtin; refine wpList_push (α := ByteArray) _ rfl (.tmp 17) (.tmp 20) 24 rfl w1.heap.size 9 (.string ⟨#[]⟩) 16 Tryd.underlying24 str_info rfl (by decide) _ tk rfl (hown4.alloc _) w4.heap.size _ l[k] (0, 0) 9 rfl (heap_alloc_new w4 _) ⟨rfl, hsz⟩ (by first | omega | (simp; done) | (simp; omega)) (by first | omega | (simp; done) | (simp; omega)) (by first | omega | (simp; done) | (simp; omega)) _ rfl ?_; intro g cap w5 hown5 hg5 hat5 hlt5)
        go_roundw
        case rel => exact ⟨k + 1, by omega, by go_num, by rw [HT2.out]; exact hown5, E.out, below_push Hb4.out hown4 (by omega) hg5⟩
        case measure => simp [intOf]; omega
    · have E := Lib.hid (show l.take k = l from List.take_of_length_le (by omega))
      rw [E.out] at hown2 hav
      have E2 := Lib.hid (show ((l, 0) : List ByteArray × Int) = (out, er) by rw [← HSE.out, if_pos hav.out])
      obtain ⟨A2, c2, rfl, _⟩ := hown2.sl
      go_wp2_with fail
      go_ret2
      obtain ⟨rfl, rfl⟩ := Prod.mk.inj E2.out
      exact ⟨_, rfl, hown2.re hz1, Hb.out.trans (Hb2.out.mono hz1)⟩
end Go.Proofs.YtgnblofjjondpaaDoor
