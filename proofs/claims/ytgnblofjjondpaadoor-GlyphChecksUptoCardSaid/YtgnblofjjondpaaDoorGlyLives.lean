/- The examples of chapter 25 hold. No condition but what the tables hold. -/
import Derived.Test.YtgnblofjjondpaaDoorGlyW11
namespace Go.Proofs.YtgnblofjjondpaaDoor
open Go.RowKit
def allocs : World → List Obj → World
  | w, [] => w
  | w, o :: r => allocs (w.alloc o) r
theorem allocs_below : ∀ (os : List Obj) (w : World) (B : Nat), B ≤ w.heap.size → Below B w (allocs w os)
  | [], w, B, _ => Below.refl B w
  | o :: r, w, B, h => ((Below.refl B w).alloc h o).trans (allocs_below r (w.alloc o) B (by simp; omega))
theorem allocs_size : ∀ (os : List Obj) (w : World), (allocs w os).heap.size = w.heap.size + os.length
  | [], w => rfl
  | o :: r, w => by rw [allocs, allocs_size r]; simp; omega
theorem allocs_at : ∀ (os : List Obj) (w : World) (i : Nat) (o : Obj), os[i]? = some o → (allocs w os).heap[w.heap.size + i]? = some o
  | [], w, i, o, h => by simp at h
  | p :: r, w, 0, o, h => by
    simp at h; subst h
    rw [allocs, Nat.add_zero]
    exact ((allocs_below r (w.alloc p) (w.alloc p).heap.size (Nat.le_refl _)).block _ (by simp)).trans (heap_alloc_new w p)
  | p :: r, w, i + 1, o, h => by
    have := allocs_at r (w.alloc p) i o (by simpa using h)
    rw [allocs]
    have e : (w.alloc p).heap.size + i = w.heap.size + (i + 1) := by simp; omega
    rwa [e] at this
def xsee : Word := ⟨⟨#[115, 101, 101]⟩, ⟨#[]⟩, 0, 0⟩
def xnote (n : Int) : Word := ⟨⟨#[110, 111, 116, 101]⟩, ⟨#[]⟩, 0, n⟩
def xhere : Word := ⟨⟨#[104, 101, 114, 101]⟩, ⟨#[]⟩, 0, 0⟩
def pT : List (List Word) := [[xsee, xnote 1]]
def nT : List (List Word) := [[xhere]]
def pF : List (List Word) := [[xsee, xnote 2]]
def pN : List (List Word) := [[xsee]]
theorem word_ok_small {x : Word} (h1 : x.s.size ≤ 1000) (h2 : x.key.size ≤ 1000) (h3 : I64 x.t) (h4 : I64 x.n) : x.ok := ⟨by unfold maxLen; omega, by unfold maxLen; omega, h3, h4⟩
theorem ok_see : xsee.ok := word_ok_small (by decide) (by decide) ⟨by decide, by decide⟩ ⟨by decide, by decide⟩
theorem ok_n1 : (xnote 1).ok := word_ok_small (by decide) (by decide) ⟨by decide, by decide⟩ ⟨by decide, by decide⟩
theorem ok_n2 : (xnote 2).ok := word_ok_small (by decide) (by decide) ⟨by decide, by decide⟩ ⟨by decide, by decide⟩
theorem ok_here : xhere.ok := word_ok_small (by decide) (by decide) ⟨by decide, by decide⟩ ⟨by decide, by decide⟩
theorem sl_two {w : World} {B : Nat} {t : TypeId} {fr : Nat × Nat} {a b : Word} (hB : w.heap[B]? = some (.cells (a.cells ++ b.cells).toArray t fr)) (ha : a.ok) (hb : b.ok) : Sl w (fun b => b < w.heap.size) (some ⟨B, 0, none⟩) 2 [a, b] :=
  Sl.block hB (Array.getElem?_eq_some_iff.1 hB).1 (by simp [maxLen]) (fun i hi => by
    have : i = 0 ∨ i = 1 := by simp at hi; omega
    rcases this with rfl | rfl
    · exact ⟨rfl, ha⟩
    · exact ⟨rfl, hb⟩)
theorem sl_one {w : World} {B : Nat} {t : TypeId} {fr : Nat × Nat} {a : Word} (hB : w.heap[B]? = some (.cells a.cells.toArray t fr)) (ha : a.ok) : Sl w (fun b => b < w.heap.size) (some ⟨B, 0, none⟩) 1 [a] :=
  Sl.block hB (Array.getElem?_eq_some_iff.1 hB).1 (by simp [maxLen]) (fun i hi => by
    obtain rfl : i = 0 := by simp at hi; omega
    exact ⟨rfl, ha⟩)
theorem sl_part {w : World} {B b n : Nat} {t : TypeId} {fr : Nat × Nat} {p : List Word} (hB : w.heap[B]? = some (.cells #[.slice (some ⟨b, 0, none⟩) n n] t fr)) (hp : Sl w (fun b => b < w.heap.size) (some ⟨b, 0, none⟩) n p) (hn : p.length = n) (hn2 : n ≤ 1000) : Sl w (fun b => b < w.heap.size) (some ⟨B, 0, none⟩) 1 [p] :=
  Sl.block hB (Array.getElem?_eq_some_iff.1 hB).1 (by simp [maxLen]) (fun i hi => by
    obtain rfl : i = 0 := by simp at hi; omega
    exact ⟨_, n, by subst hn; rfl, hp, by show p.length < _; omega⟩)
theorem sl_strs2 {w : World} {B : Nat} {t : TypeId} {fr : Nat × Nat} {a b : ByteArray} (hB : w.heap[B]? = some (.cells #[.string a, .string b] t fr)) (ha : a.size ≤ 1000) (hb : b.size ≤ 1000) : Sl w (fun b => b < w.heap.size) (some ⟨B, 0, none⟩) 2 [a, b] :=
  Sl.block hB (Array.getElem?_eq_some_iff.1 hB).1 (by simp [maxLen]) (fun i hi => by
    have : i = 0 ∨ i = 1 := by simp at hi; omega
    rcases this with rfl | rfl
    · exact ⟨rfl, by show a.size ≤ maxLen; unfold maxLen; omega⟩
    · exact ⟨rfl, by show b.size ≤ maxLen; unfold maxLen; omega⟩)
def strS : ByteArray := ⟨#[32, 97, 32, 32, 98, 99, 32]⟩
theorem k_split : splitE strS = ([⟨#[97]⟩, ⟨#[98, 99]⟩], 0) := by kernel_rfl
theorem k_w1 : width ⟨#[119, 105, 108, 108]⟩ = 24 := by decide +kernel
theorem k_w2 : width ⟨#[77, 46, 73, 46, 84, 46]⟩ = 40 := by decide +kernel
theorem k_w3 : width ⟨#[97, 32, 98]⟩ = 0 := by decide +kernel
theorem k_box : box 24 = ⟨#[91, 50, 52, 93]⟩ := by kernel_rfl
theorem k_f24 : fillS 24 = ⟨#[109, 109]⟩ ∧ fillOk 24 = true := ⟨by kernel_rfl, by kernel_rfl⟩
theorem k_f26 : fillS 26 = ⟨#[109, 69, 105]⟩ ∧ fillOk 26 = true := ⟨by kernel_rfl, by kernel_rfl⟩
theorem k_f4 : fillS 4 = ⟨#[105]⟩ ∧ fillOk 4 = true := ⟨by kernel_rfl, by kernel_rfl⟩
theorem k_f2 : fillS 2 = ⟨#[]⟩ ∧ fillOk 2 = false := ⟨by kernel_rfl, by kernel_rfl⟩
theorem k_f25 : fillS 25 = ⟨#[]⟩ ∧ fillOk 25 = false := ⟨by kernel_rfl, by kernel_rfl⟩
theorem k_c1 : chkOf pT nT = 0 := by kernel_rfl
theorem k_c2 : chkOf pF nT = 5 := by kernel_rfl
theorem k_c3 : chkOf pN nT = 3 := by kernel_rfl
theorem k_word : (wordOf (pT ++ nT) 2).val = .agg #[.string ⟨#[104, 101, 114, 101]⟩, .string ⟨#[]⟩, .int .i64 0, .int .i64 0] ∧ hasWord (pT ++ nT) 2 = true := ⟨rfl, by kernel_rfl⟩
theorem k_tot : tot (pT ++ nT) = 3 := rfl
/-- What lies in memory behind the three texts. -/
def livesObjs (X : Nat) : List Obj := [.cells #[.string ⟨#[115, 101, 101]⟩, .string ⟨#[]⟩, .int .i64 0, .int .i64 0, .string ⟨#[110, 111, 116, 101]⟩, .string ⟨#[]⟩, .int .i64 0, .int .i64 1] 36, .cells #[.slice (some ⟨X, 0, none⟩) 2 2] 61, .cells #[.string ⟨#[104, 101, 114, 101]⟩, .string ⟨#[]⟩, .int .i64 0, .int .i64 0] 36, .cells #[.slice (some ⟨X + 1 + 1, 0, none⟩) 1 1] 61, .cells #[.slice (some ⟨X + 1, 0, none⟩) 1 1, .slice (some ⟨X + 1 + 1 + 1, 0, none⟩) 1 1] 41, .cells #[.string ⟨#[115, 101, 101]⟩, .string ⟨#[]⟩, .int .i64 0, .int .i64 0, .string ⟨#[110, 111, 116, 101]⟩, .string ⟨#[]⟩, .int .i64 0, .int .i64 2] 36, .cells #[.slice (some ⟨X + 1 + 1 + 1 + 1 + 1, 0, none⟩) 2 2] 61, .cells #[.slice (some ⟨X + 1 + 1 + 1 + 1 + 1 + 1, 0, none⟩) 1 1, .slice (some ⟨X + 1 + 1 + 1, 0, none⟩) 1 1] 41, .cells #[.string ⟨#[115, 101, 101]⟩, .string ⟨#[]⟩, .int .i64 0, .int .i64 0] 36, .cells #[.slice (some ⟨X + 1 + 1 + 1 + 1 + 1 + 1 + 1 + 1, 0, none⟩) 1 1] 61, .cells #[.slice (some ⟨X + 1 + 1 + 1 + 1 + 1 + 1 + 1 + 1 + 1, 0, none⟩) 1 1, .slice (some ⟨X + 1 + 1 + 1, 0, none⟩) 1 1] 41]
theorem lives_mem (w : World) : ∃ w1, w1 = (((((((((((w.alloc (.cells #[.string ⟨#[115, 101, 101]⟩, .string ⟨#[]⟩, .int .i64 0, .int .i64 0, .string ⟨#[110, 111, 116, 101]⟩, .string ⟨#[]⟩, .int .i64 0, .int .i64 1] 36)).alloc (.cells #[.slice (some ⟨w.heap.size, 0, none⟩) 2 2] 61)).alloc (.cells #[.string ⟨#[104, 101, 114, 101]⟩, .string ⟨#[]⟩, .int .i64 0, .int .i64 0] 36)).alloc (.cells #[.slice (some ⟨w.heap.size + 1 + 1, 0, none⟩) 1 1] 61)).alloc (.cells #[.slice (some ⟨w.heap.size + 1, 0, none⟩) 1 1, .slice (some ⟨w.heap.size + 1 + 1 + 1, 0, none⟩) 1 1] 41)).alloc (.cells #[.string ⟨#[115, 101, 101]⟩, .string ⟨#[]⟩, .int .i64 0, .int .i64 0, .string ⟨#[110, 111, 116, 101]⟩, .string ⟨#[]⟩, .int .i64 0, .int .i64 2] 36)).alloc (.cells #[.slice (some ⟨w.heap.size + 1 + 1 + 1 + 1 + 1, 0, none⟩) 2 2] 61)).alloc (.cells #[.slice (some ⟨w.heap.size + 1 + 1 + 1 + 1 + 1 + 1, 0, none⟩) 1 1, .slice (some ⟨w.heap.size + 1 + 1 + 1, 0, none⟩) 1 1] 41)).alloc (.cells #[.string ⟨#[115, 101, 101]⟩, .string ⟨#[]⟩, .int .i64 0, .int .i64 0] 36)).alloc (.cells #[.slice (some ⟨w.heap.size + 1 + 1 + 1 + 1 + 1 + 1 + 1 + 1, 0, none⟩) 1 1] 61)).alloc (.cells #[.slice (some ⟨w.heap.size + 1 + 1 + 1 + 1 + 1 + 1 + 1 + 1 + 1, 0, none⟩) 1 1, .slice (some ⟨w.heap.size + 1 + 1 + 1, 0, none⟩) 1 1] 41)) ∧ Below w.heap.size w w1 ∧ w.heap.size + 11 ≤ w1.heap.size ∧
    Sl w1 (fun b => b < w1.heap.size) (some ⟨w.heap.size + 1, 0, none⟩) 1 pT ∧ Sl w1 (fun b => b < w1.heap.size) (some ⟨w.heap.size + 1 + 1 + 1, 0, none⟩) 1 nT ∧ Sl w1 (fun b => b < w1.heap.size) (some ⟨w.heap.size + 1 + 1 + 1 + 1 + 1 + 1, 0, none⟩) 1 pF ∧ Sl w1 (fun b => b < w1.heap.size) (some ⟨w.heap.size + 1 + 1 + 1 + 1 + 1 + 1 + 1 + 1 + 1, 0, none⟩) 1 pN ∧
    w1.heap[w.heap.size + 1 + 1 + 1 + 1]? = some (.cells #[.slice (some ⟨w.heap.size + 1, 0, none⟩) 1 1, .slice (some ⟨w.heap.size + 1 + 1 + 1, 0, none⟩) 1 1] 41 (0, 0)) ∧ w1.heap[w.heap.size + 1 + 1 + 1 + 1 + 1 + 1 + 1]? = some (.cells #[.slice (some ⟨w.heap.size + 1 + 1 + 1 + 1 + 1 + 1, 0, none⟩) 1 1, .slice (some ⟨w.heap.size + 1 + 1 + 1, 0, none⟩) 1 1] 41 (0, 0)) ∧ w1.heap[w.heap.size + 1 + 1 + 1 + 1 + 1 + 1 + 1 + 1 + 1 + 1]? = some (.cells #[.slice (some ⟨w.heap.size + 1 + 1 + 1 + 1 + 1 + 1 + 1 + 1 + 1, 0, none⟩) 1 1, .slice (some ⟨w.heap.size + 1 + 1 + 1, 0, none⟩) 1 1] 41 (0, 0)) := by
  refine ⟨_, rfl, ?_⟩
  have hb : Below w.heap.size w (allocs w (livesObjs w.heap.size)) := allocs_below _ _ _ (Nat.le_refl _)
  have hz := allocs_size (livesObjs w.heap.size) w
  have hat := fun i o h => allocs_at (livesObjs w.heap.size) w i o h
  have h0 := hat 0 _ rfl
  have h1 := hat 1 _ rfl
  have h2 := hat 2 _ rfl
  have h3 := hat 3 _ rfl
  have h4 := hat 4 _ rfl
  have h5 := hat 5 _ rfl
  have h6 := hat 6 _ rfl
  have h7 := hat 7 _ rfl
  have h8 := hat 8 _ rfl
  have h9 := hat 9 _ rfl
  have h10 := hat 10 _ rfl
  have hl : (livesObjs w.heap.size).length = 11 := rfl
  rw [hl] at hz
  show Below w.heap.size w (allocs w (livesObjs w.heap.size)) ∧ _
  refine ⟨hb, by show w.heap.size + 11 ≤ (allocs w (livesObjs w.heap.size)).heap.size; omega, ?_, ?_, ?_, ?_, h4, h7, h10⟩
  · exact sl_part h1 (sl_two (a := xsee) (b := xnote 1) h0 ok_see ok_n1) rfl (by omega)
  · exact sl_part h3 (sl_one (a := xhere) h2 ok_here) rfl (by omega)
  · exact sl_part h6 (sl_two (a := xsee) (b := xnote 2) h5 ok_see ok_n2) rfl (by omega)
  · exact sl_part h9 (sl_one (a := xsee) h8 ok_see) rfl (by omega)
set_option maxRecDepth 100000 in
set_option maxHeartbeats 8000000 in
theorem lives_any (w : World) (hT : Tabs w) : Calls Tryd.prog 17 #[] w fun e w' => e = .returned (.bool true) ∧ Below w.heap.size w w' := by
  obtain ⟨w1, hw1, hb1, hz1, sp, sn, sf, so, t4, t7, t10⟩ := lives_mem w
  have HW := Lib.hid hw1
  have HT := Lib.hid (hT.to hb1)
  have HB := Lib.hid hb1
  have Sp := Lib.hid sp
  have Sn := Lib.hid sn
  have Sf := Lib.hid sf
  have So := Lib.hid so
  have T4 := Lib.hid t4
  have T7 := Lib.hid t7
  have T10 := Lib.hid t10
  have HC := Lib.hid (Below.refl w1.heap.size w1)
  have i64s : ∀ k : Int, 0 ≤ k → k ≤ 1000 → I64 k := fun k h1 h2 => ⟨by omega, by omega⟩
  have HI := Lib.hid i64s
  clear hw1 hT hb1 sp sn sf so t4 t7 t10 i64s
  go_enter Tryd.func17, Tryd.ntmps17
  go_wp2_with fail
  rw [← HW.out]
  refine (gword_any (some ⟨w.heap.size + 1, 0, none⟩) (some ⟨w.heap.size + 1 + 1 + 1, 0, none⟩) 1 1 pT nT 2 _ (HI.out 2 (by omega) (by omega)) (Sp.out.to HC.out) (Sn.out.to HC.out) (by decide) (by decide) (by decide)).mono ?_
  rintro e w2 ⟨rfl, hb⟩
  replace HC := Lib.hid (HC.out.trans (hb.mono HC.out.size))
  clear hb
  rw [k_word.1, k_word.2]
  have HX := Lib.hid (heap_alloc_new w2 (.cells #[.string ⟨#[104, 101, 114, 101]⟩, .string ⟨#[]⟩, .int .i64 0, .int .i64 0] 36))
  replace HC := Lib.hid (HC.out.alloc HC.out.size (.cells #[.string ⟨#[104, 101, 114, 101]⟩, .string ⟨#[]⟩, .int .i64 0, .int .i64 0] 36))
  have HD := Lib.hid (Below.refl (w2.alloc (.cells #[.string ⟨#[104, 101, 114, 101]⟩, .string ⟨#[]⟩, .int .i64 0, .int .i64 0] 36)).heap.size (w2.alloc (.cells #[.string ⟨#[104, 101, 114, 101]⟩, .string ⟨#[]⟩, .int .i64 0, .int .i64 0] 36)))
  have hxz : w2.heap.size < (w2.alloc (.cells #[.string ⟨#[104, 101, 114, 101]⟩, .string ⟨#[]⟩, .int .i64 0, .int .i64 0] 36)).heap.size := by simp
  go_wp2_with fail
  refine (gfill_any 24 (HI.out 24 (by omega) (by omega)) _).mono ?_
  rintro e w3 ⟨rfl, hb⟩
  replace HC := Lib.hid (HC.out.trans (hb.mono HC.out.size))
  replace HD := Lib.hid (HD.out.trans (hb.mono HD.out.size))
  clear hb
  rw [k_f24.1, k_f24.2]
  go_wp2_with fail
  refine (gfill_any 26 (HI.out 26 (by omega) (by omega)) _).mono ?_
  rintro e w4 ⟨rfl, hb⟩
  replace HC := Lib.hid (HC.out.trans (hb.mono HC.out.size))
  replace HD := Lib.hid (HD.out.trans (hb.mono HD.out.size))
  clear hb
  rw [k_f26.1, k_f26.2]
  go_wp2_with fail
  refine (gfill_any 4 (HI.out 4 (by omega) (by omega)) _).mono ?_
  rintro e w5 ⟨rfl, hb⟩
  replace HC := Lib.hid (HC.out.trans (hb.mono HC.out.size))
  replace HD := Lib.hid (HD.out.trans (hb.mono HD.out.size))
  clear hb
  rw [k_f4.1, k_f4.2]
  go_wp2_with fail
  refine (gfill_any 2 (HI.out 2 (by omega) (by omega)) _).mono ?_
  rintro e w6 ⟨rfl, hb⟩
  replace HC := Lib.hid (HC.out.trans (hb.mono HC.out.size))
  replace HD := Lib.hid (HD.out.trans (hb.mono HD.out.size))
  clear hb
  rw [k_f2.1, k_f2.2]
  go_wp2_with fail
  refine (gfill_any 25 (HI.out 25 (by omega) (by omega)) _).mono ?_
  rintro e w7 ⟨rfl, hb⟩
  replace HC := Lib.hid (HC.out.trans (hb.mono HC.out.size))
  replace HD := Lib.hid (HD.out.trans (hb.mono HD.out.size))
  clear hb
  rw [k_f25.1, k_f25.2]
  go_wp2_with fail
  refine (gsplit_any strS _ (by decide) (HT.out.to HC.out).1).mono ?_
  rintro e w8 ⟨vS, rfl, hown, hb⟩
  replace HC := Lib.hid (HC.out.trans (hb.mono HC.out.size))
  replace HD := Lib.hid (HD.out.trans (hb.mono HD.out.size))
  clear hb
  rw [k_split] at hown ⊢
  dsimp only at hown ⊢
  obtain ⟨AS, cS, rfl, hsS⟩ := hown.sl
  have HS := Lib.hid hsS
  have HE := Lib.hid (Below.refl w8.heap.size w8)
  clear hown hsS
  go_wp2_with fail
  refine (width_any ⟨#[119, 105, 108, 108]⟩ _ (HT.out.to HC.out).1).mono ?_
  rintro e w' ⟨rfl, rfl⟩
  rw [k_w1]
  go_wp2_with fail
  refine (width_any ⟨#[77, 46, 73, 46, 84, 46]⟩ _ (HT.out.to HC.out).1).mono ?_
  rintro e w' ⟨rfl, rfl⟩
  rw [k_w2]
  go_wp2_with fail
  refine (width_any ⟨#[97, 32, 98]⟩ _ (HT.out.to HC.out).1).mono ?_
  rintro e w' ⟨rfl, rfl⟩
  rw [k_w3]
  go_wp2_with fail
  refine (gbox_any 24 (HI.out 24 (by omega) (by omega)) _ (HT.out.to HC.out)).mono ?_
  rintro e w12 ⟨rfl, hb⟩
  replace HC := Lib.hid (HC.out.trans (hb.mono HC.out.size))
  replace HD := Lib.hid (HD.out.trans (hb.mono HD.out.size))
  replace HE := Lib.hid (HE.out.trans (hb.mono HE.out.size))
  clear hb
  rw [k_box]
  have hx := text_box ((HC.out.block (w.heap.size + 1 + 1 + 1 + 1) (by show _ < w1.heap.size; omega)).trans T4.out)
  obtain ⟨x0, x1⟩ := hx
  go_wp2_with fail
  refine (gcheck_any (some ⟨w.heap.size + 1, 0, none⟩) (some ⟨w.heap.size + 1 + 1 + 1, 0, none⟩) 1 1 pT nT _ (HT.out.to HC.out).1 (Sp.out.to HC.out) (Sn.out.to HC.out) (by decide) (by decide)).mono ?_
  rintro e w13 ⟨rfl, hb⟩
  replace HC := Lib.hid (HC.out.trans (hb.mono HC.out.size))
  replace HD := Lib.hid (HD.out.trans (hb.mono HD.out.size))
  replace HE := Lib.hid (HE.out.trans (hb.mono HE.out.size))
  clear hb
  rw [k_c1]
  clear x0 x1
  have hx := text_box ((HC.out.block (w.heap.size + 1 + 1 + 1 + 1 + 1 + 1 + 1) (by show _ < w1.heap.size; omega)).trans T7.out)
  obtain ⟨x0, x1⟩ := hx
  go_wp2_with fail
  refine (gcheck_any (some ⟨w.heap.size + 1 + 1 + 1 + 1 + 1 + 1, 0, none⟩) (some ⟨w.heap.size + 1 + 1 + 1, 0, none⟩) 1 1 pF nT _ (HT.out.to HC.out).1 (Sf.out.to HC.out) (Sn.out.to HC.out) (by decide) (by decide)).mono ?_
  rintro e w14 ⟨rfl, hb⟩
  replace HC := Lib.hid (HC.out.trans (hb.mono HC.out.size))
  replace HD := Lib.hid (HD.out.trans (hb.mono HD.out.size))
  replace HE := Lib.hid (HE.out.trans (hb.mono HE.out.size))
  clear hb
  rw [k_c2]
  clear x0 x1
  have hx := text_box ((HC.out.block (w.heap.size + 1 + 1 + 1 + 1 + 1 + 1 + 1 + 1 + 1 + 1) (by show _ < w1.heap.size; omega)).trans T10.out)
  obtain ⟨x0, x1⟩ := hx
  go_wp2_with fail
  refine (gcheck_any (some ⟨w.heap.size + 1 + 1 + 1 + 1 + 1 + 1 + 1 + 1 + 1, 0, none⟩) (some ⟨w.heap.size + 1 + 1 + 1, 0, none⟩) 1 1 pN nT _ (HT.out.to HC.out).1 (So.out.to HC.out) (Sn.out.to HC.out) (by decide) (by decide)).mono ?_
  rintro e w15 ⟨rfl, hb⟩
  replace HC := Lib.hid (HC.out.trans (hb.mono HC.out.size))
  replace HD := Lib.hid (HD.out.trans (hb.mono HD.out.size))
  replace HE := Lib.hid (HE.out.trans (hb.mono HE.out.size))
  clear hb
  rw [k_c3]
  clear x0 x1
  have hx := text_box ((HC.out.block (w.heap.size + 1 + 1 + 1 + 1) (by show _ < w1.heap.size; omega)).trans T4.out)
  obtain ⟨x0, x1⟩ := hx
  go_wp2_with fail
  refine (count_any (some ⟨w.heap.size + 1, 0, none⟩) (some ⟨w.heap.size + 1 + 1 + 1, 0, none⟩) 1 1 pT nT _ (Sp.out.to HC.out) (Sn.out.to HC.out) (by decide) (by decide) (by decide)).mono ?_
  rintro e w16 ⟨rfl, hb⟩
  replace HC := Lib.hid (HC.out.trans (hb.mono HC.out.size))
  replace HD := Lib.hid (HD.out.trans (hb.mono HD.out.size))
  replace HE := Lib.hid (HE.out.trans (hb.mono HE.out.size))
  clear hb
  rw [k_tot]
  clear x0 x1
  have y0 := cell_of_row w16 _ 0 _ _ _ ((HD.out.block w2.heap.size hxz).trans HX.out)
  simp only [List.getElem?_toArray, List.getElem?_cons_zero] at y0
  go_wp2_with fail
  refine (same_strings AS (some ⟨w16.heap.size, 0, none⟩) cS 2 [⟨#[97]⟩, ⟨#[98, 99]⟩] [⟨#[97]⟩, ⟨#[98, 99]⟩] _ ((HS.out.to HE.out).alloc _) (sl_strs2 (heap_alloc_new w16 _) (by decide) (by decide))).mono ?_
  rintro e w99 ⟨rfl, hb⟩
  rw [decide_eq_true rfl]
  have HF := Lib.hid (HB.out.trans ((HC.out.trans ((((Below.refl _ _).alloc (Nat.le_refl _) _).trans (hb.mono (by simp))).mono HC.out.size)).mono HB.out.size))
  clear hb
  go_wp2_with fail
  go_ret
  exact ⟨rfl, HF.out⟩
end Go.Proofs.YtgnblofjjondpaaDoor
