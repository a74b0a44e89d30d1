/- Hash values in memory; copies of rows of hash values and of strings. No condition but sizes. -/
import Derived.Test.YthcklfelofpffaaDoorCerW11
namespace Go.Proofs.YthcklfelofpffaaDoor
open Go.RowKit
structure H32 where
  l : List UInt8
instance : Rep H32 where
  size := 32
  R _ _ cs h := cs = h.l.map encB ∧ h.l.length = 32
  len h := by rw [h.1, List.length_map, h.2]
  one h := by
    rw [h.1]; intro u hu
    obtain ⟨b, _, rfl⟩ := List.mem_map.1 hu
    rfl
  keep h _ := h
  mono h _ := h
theorem h_info : (Tryd.prog.info? 29).map (fun i => (i.zero, i.size, i.bytes)) = some (some (.agg (zer32.map encB).toArray), Rep.size H32, 32) := by kernel_rfl
theorem s_info : (Tryd.prog.info? 9).map (fun i => (i.zero, i.size, i.bytes)) = some (some (.string ⟨#[]⟩), Rep.size ByteArray, 16) := by kernel_rfl
theorem hclone_any (A : Option Addr) (c n : Nat) (l : List H32) (w : World) (hl : Sl w (fun b => b < w.heap.size) A c l) (hn : l.length = n) (hsz : n ≤ 1073741824) :
    Calls Tryd.prog 47 #[.slice A n c] w fun e w' => ∃ v, e = .returned v ∧ Own w' w.heap.size 29 v l ∧ Below w.heap.size w w' := by
  have hq := fun w' => Lib.run_eql_slice_nil (P := Tryd.prog) w' 34 29 A n c 0 0 Tryd.underlying34
  cases A with
  | none =>
    have hl0 : l = [] := by
      by_cases h0 : 0 < l.length
      · obtain ⟨b, o, e, _⟩ := hl.2.2 h0; cases e
      · exact List.eq_nil_of_length_eq_zero (by omega)
    subst hl0
    simp only [Option.isNone_none] at hq
    go_enter Tryd.func47, Tryd.ntmps47
    go_wp2_with fail
    go_ret
    exact ⟨_, rfl, Own.nil _ _ _, Below.refl _ _⟩
  | some a =>
    simp only [Option.isNone_some] at hq
    go_enter Tryd.func47, Tryd.ntmps47
    go_wp2_with (at_builtin; refine wpList_cat (α := H32) _ rfl (.tmp 5) (.tmp 6) 34 rfl w.heap.size 29 (.agg (zer32.map encB).toArray) 32 Tryd.underlying34 h_info rfl (by decide) (.slice (some ⟨w.heap.size, 0, none⟩) 0 0) [] rfl (Own.made w _ _ (Nat.le_refl _)) (some a) c n l rfl hn (fun b => b < w.heap.size) (hl.keep (Kept.all ((Below.refl _ _).alloc (Nat.le_refl _) _)) (by simp)) (by intro i (hi : i < w.heap.size) _ e; simp [Value.ownBlock] at e; omega) (by simp; omega) (by simp; omega) (by simp) ?_; intro v2 w2 hown2 hg2 _)
    go_ret
    exact ⟨_, rfl, hown2, below_cat ((Below.refl _ _).alloc (Nat.le_refl _) _) (Own.made (α := H32) w _ _ (Nat.le_refl _)) (by simp) hg2⟩
theorem sclone_any (A : Option Addr) (c n : Nat) (l : List ByteArray) (w : World) (hl : Sl w (fun b => b < w.heap.size) A c l) (hn : l.length = n) (hsz : n ≤ 1073741824) :
    Calls Tryd.prog 48 #[.slice A n c] w fun e w' => ∃ v, e = .returned v ∧ Own w' w.heap.size 9 v l ∧ Below w.heap.size w w' := by
  have hq := fun w' => Lib.run_eql_slice_nil (P := Tryd.prog) w' 22 9 A n c 0 0 Tryd.underlying22
  cases A with
  | none =>
    have hl0 : l = [] := by
      by_cases h0 : 0 < l.length
      · obtain ⟨b, o, e, _⟩ := hl.2.2 h0; cases e
      · exact List.eq_nil_of_length_eq_zero (by omega)
    subst hl0
    simp only [Option.isNone_none] at hq
    go_enter Tryd.func48, Tryd.ntmps48
    go_wp2_with fail
    go_ret
    exact ⟨_, rfl, Own.nil _ _ _, Below.refl _ _⟩
  | some a =>
    simp only [Option.isNone_some] at hq
    go_enter Tryd.func48, Tryd.ntmps48
    go_wp2_with (at_builtin; refine wpList_cat (α := ByteArray) _ rfl (.tmp 5) (.tmp 6) 22 rfl w.heap.size 9 (.string ⟨#[]⟩) 16 Tryd.underlying22 s_info rfl (by decide) (.slice (some ⟨w.heap.size, 0, none⟩) 0 0) [] rfl (Own.made w _ _ (Nat.le_refl _)) (some a) c n l rfl hn (fun b => b < w.heap.size) (hl.keep (Kept.all ((Below.refl _ _).alloc (Nat.le_refl _) _)) (by simp)) (by intro i (hi : i < w.heap.size) _ e; simp [Value.ownBlock] at e; omega) (by simp; omega) (by simp; omega) (by simp) ?_; intro v2 w2 hown2 hg2 _)
    go_ret
    exact ⟨_, rfl, hown2, below_cat ((Below.refl _ _).alloc (Nat.le_refl _) _) (Own.made (α := ByteArray) w _ _ (Nat.le_refl _)) (by simp) hg2⟩
end Go.Proofs.YthcklfelofpffaaDoor
