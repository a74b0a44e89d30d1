/- The reference's generator of texts: its words and its paragraphs. No condition but that the numbers fit. -/
import Derived.Test.YtgnblofjjondpaaDoorGlyNest
import Derived.Test.YtgnblofjjondpaaDoorGlyW7
namespace Go.Proofs.YtgnblofjjondpaaDoor
open Go.RowKit
def vocab : List ByteArray := [⟨#[97]⟩, ⟨#[116, 104, 101]⟩, ⟨#[99, 111, 117, 114, 116]⟩, ⟨#[119, 105, 108, 108]⟩, ⟨#[104, 101, 97, 114]⟩, ⟨#[109, 111, 116, 105, 111, 110]⟩, ⟨#[111, 102]⟩, ⟨#[112, 108, 97, 105, 110, 116, 105, 102, 102]⟩, ⟨#[77, 46, 73, 46, 84, 46]⟩, ⟨#[82, 117, 108, 101]⟩, ⟨#[49, 50, 40, 98, 41]⟩, ⟨#[100, 105, 115, 109, 105, 115, 115, 101, 100]⟩, ⟨#[119, 105, 116, 104]⟩, ⟨#[112, 114, 101, 106, 117, 100, 105, 99, 101]⟩, ⟨#[97, 110, 100]⟩, ⟨#[99, 111, 115, 116, 115]⟩, ⟨#[87, 87, 87, 64, 87]⟩, ⟨#[105, 116]⟩, ⟨#[105, 115]⟩, ⟨#[115, 111]⟩, ⟨#[111, 114, 100, 101, 114, 101, 100, 46]⟩, ⟨#[97, 98, 99, 100, 101, 102, 103, 104, 105, 106, 107, 108, 109, 110, 111, 112, 113, 114, 115, 116, 117, 118, 119, 120, 121, 122, 97, 98, 99, 100, 101, 102, 103, 104, 105, 106, 107, 108, 109, 110]⟩]
def keysV : List ByteArray := [⟨#[99, 111, 115, 116, 115]⟩, ⟨#[109, 111, 116, 105, 111, 110]⟩, ⟨#[82, 117, 108, 101]⟩, ⟨#[115, 109, 105, 116, 104]⟩]
/-- A word as the reference's generator makes it. -/
def Good (x : Word) : Prop := valid x.s = true ∧ (x.key = ⟨#[]⟩ ∨ valid x.key = true) ∧ (x.t = 0 ∨ x.t = 1)
theorem vocab_good : vocab.all valid = true := by decide +kernel
theorem keysV_good : keysV.all valid = true := by decide +kernel
/-- A literal row of strings. -/
theorem row_at {w : World} {B : Nat} {t : TypeId} {fr : Nat × Nat} {l : List ByteArray} {cs : Array Value} (hB : w.heap[B]? = some (.cells cs t fr)) (hcs : cs = (l.map Value.string).toArray) (hl : l.all valid = true) (j : Nat) (hj : j < l.length) :
    ∃ s, w.cell? ⟨B, j, none⟩ = some (.string s) ∧ valid s = true := by
  refine ⟨l[j], ?_, (List.all_eq_true.1 hl) _ (List.getElem_mem hj)⟩
  rw [cell_of_row w B _ cs t fr hB, hcs]
  simp [hj]
theorem lits_at {l : List ByteArray} (hl : l.all valid = true) (j : Nat) (hj : j < l.length) : ∃ s, (l.map Value.string)[j]? = some (.string s) ∧ valid s = true :=
  ⟨l[j], by simp [hj], (List.all_eq_true.1 hl) _ (List.getElem_mem hj)⟩
set_option maxRecDepth 100000 in
set_option maxHeartbeats 2000000 in
theorem one_any (n : Nat) (hn : n ≤ 16777216) (w : World) :
    Calls Tryd.prog 62 #[.int .i64 (n : Int)] w fun e w' => ∃ x : Word, e = .returned x.val ∧ Good x ∧ x.n = 0 ∧ Below w.heap.size w w' := by
  have hb : (n : Int) ≤ 16777216 := by omega
  have h0 : 0 ≤ (n : Int) := by omega
  obtain ⟨s, c0, hs⟩ := lits_at vocab_good (n % 22) (Nat.mod_lt _ (by decide))
  simp only [vocab, List.map_cons, List.map_nil] at c0
  have HS := Lib.hid hs
  clear hs
  go_enter Tryd.func62, Tryd.ntmps62
  by_cases hk : n / 22 % 6 = 0
  · obtain ⟨key, k0, hkey⟩ := lits_at keysV_good (n / 132 % 4) (Nat.mod_lt _ (by decide))
    simp only [keysV, List.map_cons, List.map_nil] at k0
    have hk' : (n : Int) / 22 % 6 = 0 := by omega
    have HK := Lib.hid hkey
    clear hk hkey
    go_wp2_with fail
    refine bodyPost_ret (v := .agg #[.string s, .string key, .int .i64 (↑n / 528 % 2), .int .i64 0]) (by simp [results, Tryd.results62, go_sem]) rfl ⟨⟨s, key, (n : Int) / 528 % 2, 0⟩, rfl, ⟨HS.out, .inr HK.out, ?_⟩, rfl, ?_⟩
    · show (n : Int) / 528 % 2 = 0 ∨ (n : Int) / 528 % 2 = 1
      omega
    · exact (((((Below.refl _ _).alloc (Nat.le_refl _) _).alloc (by simp) _).alloc (by simp; omega) _).alloc (by simp; omega) _)
  · have hk' : ¬ (n : Int) / 22 % 6 = 0 := by omega
    clear hk
    go_wp2_with fail
    refine bodyPost_ret (v := .agg #[.string s, .string ⟨#[]⟩, .int .i64 0, .int .i64 0]) (by simp [results, Tryd.results62, go_sem]) rfl ⟨⟨s, ⟨#[]⟩, 0, 0⟩, rfl, ⟨HS.out, .inl rfl, .inl rfl⟩, rfl, ?_⟩
    exact ((((Below.refl _ _).alloc (Nat.le_refl _) _).alloc (by simp) _).alloc (by simp; omega) _)
theorem valid_size {s : ByteArray} (h : valid s = true) : s.size ≤ 40 := by
  unfold valid at h
  rw [Bool.and_eq_true, decide_eq_true_iff] at h
  exact h.1.2
theorem good_ok {x : Word} (h : Good x) (h0 : x.n = 0) : x.ok := by
  have h1 := valid_size h.1
  refine ⟨by unfold maxLen; omega, ?_, ?_, by rw [h0]; exact ⟨by decide, by decide⟩⟩
  · rcases h.2.1 with e | e
    · rw [e]; decide
    · have := valid_size e; unfold maxLen; omega
  · rcases h.2.2 with e | e <;> rw [e] <;> exact ⟨by decide, by decide⟩
theorem word_info : (Tryd.prog.info? 36).map (fun i => (i.zero, i.size, i.bytes)) = some (some (.agg #[.string ⟨#[]⟩, .string ⟨#[]⟩, .int .i64 0, .int .i64 0]), Rep.size Word, 48) := by kernel_rfl
set_option maxHeartbeats 1000000 in
theorem part_any (n most : Nat) (hn : n ≤ 1000000) (hm : 1 ≤ most) (hm2 : most ≤ 1000) (w : World) :
    Calls Tryd.prog 41 #[.int .i64 (n : Int), .int .i64 (most : Int)] w fun e w' => ∃ v, e = .returned v ∧ ∃ l : List Word, Own w' w.heap.size 36 v l ∧ l.length = 1 + n % most ∧ (∀ x ∈ l, Good x ∧ x.n = 0) ∧ Below w.heap.size w w' := by
  have h1 : (n : Int) ≤ 1000000 := by omega
  have h0 : 0 ≤ (n : Int) := by omega
  have h2 : (most : Int) ≤ 1000 := by omega
  have h3 : 1 ≤ (most : Int) := by omega
  have h4 : (most : Int) ≠ 0 := by omega
  go_enter Tryd.func41, Tryd.ntmps41
  go_wp2_with fail
  obtain ⟨z0, hz0⟩ : ∃ z, z = bits BinOp.or IntKind.u32 (↑n) 1 := ⟨_, rfl⟩
  have hz1 : 0 ≤ z0 := by rw [hz0]; exact bits_lo_u32 ..
  have hz2 : z0 ≤ 4294967295 := by rw [hz0]; exact bits_hi_u32 ..
  rw [← hz0]
  clear hz0
  have hq : (n : Int) % (most : Int) = ((n % most : Nat) : Int) := by omega
  have hql : n % most < most := Nat.mod_lt _ hm
  obtain ⟨q, hqe⟩ : ∃ q, q = n % most := ⟨_, rfl⟩
  rw [← hqe] at hq hql
  have HQ2 := Lib.hid hqe
  clear hqe
  have HQ := Lib.hid hq
  have hq2 : ((n : Int) % (most : Int)) < 1000 := by omega
  have hq3 : 0 ≤ ((n : Int) % (most : Int)) := by omega
  clear hq
  go_loopw [5, 6, 7] (fun x v i wr => ∃ k : Nat, k ≤ 1 + q ∧ i = .int .i64 k ∧ (∃ z : Int, x = .int .u32 z ∧ 0 ≤ z ∧ z ≤ 4294967295) ∧ (∃ l : List Word, Own wr w.heap.size 36 v l ∧ l.length = k ∧ (∀ x ∈ l, Good x ∧ x.n = 0)) ∧ Below w.heap.size w wr) (fun _ _ i _ => 1 + q - (intOf i).toNat)
  case atStart => exact ⟨0, Nat.zero_le _, rfl, ⟨z0, rfl, hz1, hz2⟩, ⟨[], Own.nil _ _ _, rfl, fun _ h => (by cases h)⟩, Below.refl _ _⟩
  case round =>
    obtain ⟨k, hk, rfl, ⟨z, rfl, hz3, hz4⟩, ⟨l, hown, hlen, hgood⟩, hb⟩ := hrel
    have Hb := Lib.hid hb
    have hzw := hb.size
    have HL := Lib.hid hlen
    have HG := Lib.hid hgood
    clear hb hlen hgood
    obtain ⟨A2, c2, rfl, _⟩ := hown.sl
    by_cases hlt : k < 1 + q
    · have hkl : (k : Int) < 1 + ((n : Int) % (most : Int)) := by rw [HQ.out]; omega
      have hk0 : (0 : Int) ≤ (k : Int) := by omega
      have hk1 : (k : Int) ≤ 1000 := by omega
      go_wp2_with fail
      obtain ⟨y, hy, hy2⟩ : ∃ y : Nat, (z * 1664525 + 1013904223) % 4294967296 / 256 = (y : Int) ∧ y ≤ 16777216 := ⟨((z * 1664525 + 1013904223) % 4294967296 / 256).toNat, by omega, by omega⟩
      rw [hy]
      clear hy
      refine (one_any y hy2 _).mono ?_
      rintro e w4 ⟨x, rfl, hgx, hx0, hb4⟩
      have hown4 := hown.below hb4
      have Hb4 := Lib.hid (Hb.out.trans (hb4.mono hzw))
      have hz4 := hb4.size
      have HX := Lib.hid hgx
      have HX0 := Lib.hid hx0
      have HOK := Lib.hid (good_ok hgx hx0)
      have hll : l.length ≤ 1000 := by have := HL.out; omega
      clear hb4 hgx hx0
      unfold Word.val
      go_wp2_with (at_builtin; refine wpList_push (α := Word) _ rfl (.tmp 22) (.tmp 27) 61 rfl w.heap.size 36 (.agg #[.string ⟨#[]⟩, .string ⟨#[]⟩, .int .i64 0, .int .i64 0]) 48 Tryd.underlying61 word_info rfl (by decide) _ l rfl (hown4.alloc _) w4.heap.size _ x (0, 0) 36 rfl (heap_alloc_new w4 _) ⟨rfl, HOK.out⟩ (by omega) (by omega) (by first | omega | (simp; done) | (simp; omega)) _ rfl ?_; intro g cap w5 hown5 hg5 hat5 hlt5)
      go_roundw
      case rel => exact ⟨k + 1, by omega, by go_num, ⟨_, rfl, by omega, by omega⟩, ⟨_, hown5, by simp [HL.out], fun y hy => (by rcases List.mem_append.1 hy with h | h; exact HG.out y h; rw [List.mem_singleton] at h; subst h; exact ⟨HX.out, HX0.out⟩)⟩, below_push Hb4.out hown4 (by omega) hg5⟩
      case measure => simp [intOf]; omega
    · have hkl : ¬ (k : Int) < 1 + ((n : Int) % (most : Int)) := by rw [HQ.out]; omega
      go_wp2_with fail
      go_ret
      exact ⟨_, rfl, l, hown, by rw [HL.out, ← HQ2.out]; omega, HG.out, Hb.out⟩
end Go.Proofs.YtgnblofjjondpaaDoor
