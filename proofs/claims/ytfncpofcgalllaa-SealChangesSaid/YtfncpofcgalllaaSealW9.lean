/- The closures of Groups, Hidden and Lift, and selected. No condition. -/
import Derived.Test.YtfncpofcgalllaaSealW8
namespace Go.Proofs.Ytfncpofcgalllaa
open Go.RowKit
attribute [local go_sem ↓] Go.wp_at_zero Go.wp_at_succ
set_option maxHeartbeats 1000000 in
set_option maxRecDepth 100000 in
theorem rlift_any (A : Option Addr) (c n : Nat) (l : List Seal) (s : Seal) (w : World) (hl : Sl w (fun b => b < w.heap.size) A c l) (hn : l.length = n) (hsz : n ≤ 1048576) (hs : s.ok) :
    Calls Try.prog 30 #[.slice A n c, .agg #[.int .i64 s.e, .int .i64 s.v, .int .i64 s.f, .int .i64 s.u, .int .i64 s.g]] w fun e w' => ∃ v, e = .returned (.tuple #[v, .int .i64 (liftE l s).2]) ∧ Own w' w.heap.size 41 v (liftE l s).1 ∧ Below w.heap.size w w' := by
  subst hn
  obtain ⟨out, er, hae⟩ : ∃ out er, liftE l s = (out, er) := ⟨_, _, rfl⟩
  rw [hae]
  unfold liftE at hae
  have Hae := Lib.hid hae
  clear hae
  have hlc : (l.length : Int) ≤ (c : Int) := by have := hl.1; omega
  have hcm : c ≤ 9223372036854775807 := by have := hl.2.1; unfold maxLen at this; exact this
  have Hb0 := Lib.hid ((Below.refl w.heap.size w).alloc (Nat.le_refl _) (.cells s.cells.toArray 41))
  go_enter Try.func30, Try.ntmps30
  go_wp2_with fail
  refine (index_n A c l.length l s _ (hl.alloc _) rfl hs).mono ?_
  rintro e w1 ⟨rfl, hb1⟩
  have hbw1 : Below w.heap.size w w1 := Hb0.out.trans (hb1.mono (by simp))
  have hz1 : w.heap.size + 1 ≤ w1.heap.size := by have := hb1.size; simpa using this
  have hlt := idx_lt s l 0
  by_cases hin : s ∈ l
  · rw [if_pos hin] at Hae
    have hq : 0 ≤ idx s l 0 := (idx_mem _ _).2 hin
    generalize idx s l 0 = q at *
    obtain ⟨k, rfl⟩ := Int.eq_ofNat_of_zero_le hq
    rw [Int.toNat_natCast] at Hae
    obtain ⟨rfl, rfl⟩ := Prod.mk.inj Hae.out
    clear hin hq Hae
    have hkl : k < l.length := by omega
    have hki : (k : Int) ≤ (c : Int) := by omega
    have hki2 : (k : Int) + 1 ≤ (l.length : Int) := by omega
    clear hlt
    obtain ⟨b, o, _, rfl, _⟩ := hl.at_ hkl
    have hl1 := hl.keep (Kept.all hbw1) hbw1.size
    have hlk : (l.take k).length = k := by rw [List.length_take]; omega
    have Hlk := Lib.hid hlk
    clear hlk
    have hld : (l.drop (k + 1)).length = l.length - (k + 1) := List.length_drop
    have Hld := Lib.hid hld
    clear hld
    have hktl : (l.take k).length ≤ 1048576 := by rw [List.length_take]; omega
    by_cases hck : c = k + 1
    · have hdr : Sl w (fun b => b < w.heap.size) (some ⟨b, o, none⟩) 0 (l.drop (k + 1)) := by have h := hl.drop (k + 1) (by omega); rwa [if_pos hck, show c - (k + 1) = 0 from by omega] at h
      have hck1 : c ≤ k + 1 := by omega
      have hck2 : k + 1 ≤ c := by omega
      clear hck
      have Hdr := Lib.hid (hdr.keep (Kept.all hbw1) hbw1.size)
      clear hdr
      go_wp2_with (first
        | (at_builtin; refine wpList_cat (α := Seal) _ rfl (.tmp 13) (.tmp 16) 23 rfl w.heap.size 41 (.agg #[.int .i64 0, .int .i64 0, .int .i64 0, .int .i64 0, .int .i64 0]) 40 Try.underlying23 seal_info rfl (by decide) (.slice none 0 0) [] rfl (Own.nil w1 _ _) (some ⟨b, o, none⟩) c k (l.take k) rfl Hlk.out (fun b => b < w.heap.size) (hl1.take k (by omega)) (by intro i _ _ e; simp [Value.ownBlock] at e) (by first | omega | (simp; omega)) (by first | omega | (simp; omega)) (by first | omega | (simp; omega)) ?_; intro v3 w3 hown3 hg3 hat3; rw [List.nil_append] at hown3; have hbb3 : Below w1.heap.size w1 w3 := (Below.refl _ _).grown hg3 (Nat.le_refl _) (by simp [Value.ownBlock]); have hz3 : w.heap.size + 1 ≤ w3.heap.size := (by have := hbb3.size; omega); have HS3 := Lib.hid (show ∀ i, i < w.heap.size → i < w3.heap.size → some i ≠ v3.ownBlock from fun i hi _ e => by have := (hown3.lt i e.symm).1; omega))
        | (at_builtin; refine wpList_cat (α := Seal) _ rfl (.tmp 18) (.tmp 22) 23 rfl w.heap.size 41 (.agg #[.int .i64 0, .int .i64 0, .int .i64 0, .int .i64 0, .int .i64 0]) 40 Try.underlying23 seal_info rfl (by decide) _ (l.take k) rfl hown3 (some ⟨b, o, none⟩) 0 (l.length - (k + 1)) (l.drop (k + 1)) rfl Hld.out (fun b => b < w.heap.size) (Hdr.out.keep (Kept.all hbb3) hbb3.size) HS3.out (by first | omega | (simp; omega)) (by first | omega | (simp; omega)) (by first | omega | (simp; omega)) ?_; intro v4 w4 hown4 hg4 hat4))
      go_ret2
      exact ⟨_, rfl, hown4, below_cat (hbw1.trans (hbb3.mono hbw1.size)) hown3 (by omega) hg4⟩
    · have hdr : Sl w (fun b => b < w.heap.size) (some ⟨b, o + (k + 1) * 5, none⟩) (c - (k + 1)) (l.drop (k + 1)) := by have h := hl.drop (k + 1) (by omega); rw [if_neg hck, Option.map_some, addr_add] at h; exact h
      have Hdr := Lib.hid (hdr.keep (Kept.all hbw1) hbw1.size)
      clear hdr
      go_wp2_with (first
        | (at_builtin; refine wpList_cat (α := Seal) _ rfl (.tmp 13) (.tmp 16) 23 rfl w.heap.size 41 (.agg #[.int .i64 0, .int .i64 0, .int .i64 0, .int .i64 0, .int .i64 0]) 40 Try.underlying23 seal_info rfl (by decide) (.slice none 0 0) [] rfl (Own.nil w1 _ _) (some ⟨b, o, none⟩) c k (l.take k) rfl Hlk.out (fun b => b < w.heap.size) (hl1.take k (by omega)) (by intro i _ _ e; simp [Value.ownBlock] at e) (by first | omega | (simp; omega)) (by first | omega | (simp; omega)) (by first | omega | (simp; omega)) ?_; intro v3 w3 hown3 hg3 hat3; rw [List.nil_append] at hown3; have hbb3 : Below w1.heap.size w1 w3 := (Below.refl _ _).grown hg3 (Nat.le_refl _) (by simp [Value.ownBlock]); have hz3 : w.heap.size + 1 ≤ w3.heap.size := (by have := hbb3.size; omega); have HS3 := Lib.hid (show ∀ i, i < w.heap.size → i < w3.heap.size → some i ≠ v3.ownBlock from fun i hi _ e => by have := (hown3.lt i e.symm).1; omega))
        | (at_builtin; refine wpList_cat (α := Seal) _ rfl (.tmp 18) (.tmp 22) 23 rfl w.heap.size 41 (.agg #[.int .i64 0, .int .i64 0, .int .i64 0, .int .i64 0, .int .i64 0]) 40 Try.underlying23 seal_info rfl (by decide) _ (l.take k) rfl hown3 (some ⟨b, o + (k + 1) * 5, none⟩) (c - (k + 1)) (l.length - (k + 1)) (l.drop (k + 1)) rfl Hld.out (fun b => b < w.heap.size) (Hdr.out.keep (Kept.all hbb3) hbb3.size) HS3.out (by first | omega | (simp; omega)) (by first | omega | (simp; omega)) (by first | omega | (simp; omega)) ?_; intro v4 w4 hown4 hg4 hat4))
      go_ret2
      exact ⟨_, rfl, hown4, below_cat (hbw1.trans (hbb3.mono hbw1.size)) hown3 (by omega) hg4⟩
  · rw [if_neg hin] at Hae
    obtain ⟨rfl, rfl⟩ := Prod.mk.inj Hae.out
    have hq : idx s l 0 < 0 := by have := mt (idx_mem s l).1 hin; omega
    generalize idx s l 0 = q at *
    clear hin
    go_wp2_with fail
    go_ret2
    exact ⟨_, rfl, Own.nil _ _ _, hbw1⟩
end Go.Proofs.Ytfncpofcgalllaa
