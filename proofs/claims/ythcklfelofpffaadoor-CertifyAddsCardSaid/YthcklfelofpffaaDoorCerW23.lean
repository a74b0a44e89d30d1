/- What the examples of the chapter need: sheets and ledgers in variables, two sheets certified, and what comes out of them. No condition but sizes and what the table holds. -/
import Derived.Test.YthcklfelofpffaaDoorCerW22
import Derived.Test.YthcklfelofpffaaDoorCerW14
import Derived.BigQuiet
namespace Go.Proofs.YthcklfelofpffaaDoor
open Go.RowKit
/-- A sheet in a variable. -/
structure SB (W : World) (O : Nat) (s : Sheet) (A1 : Option Addr) (c1 : Nat) (A2 : Option Addr) (c2 : Nat) : Prop where
  box : ABox W O 24 [.string s.label, .slice A1 s.body.length c1, .slice A2 s.notes.length c2]
  b : Sl W (fun b => b < W.heap.size) A1 c1 s.body
  n : Sl W (fun b => b < W.heap.size) A2 c2 s.notes
theorem SB.to {W W' : World} {O : Nat} {s : Sheet} {A1 : Option Addr} {c1 : Nat} {A2 : Option Addr} {c2 : Nat} (h : SB W O s A1 c1 A2 c2) (hb : Below W.heap.size W W') : SB W' O s A1 c1 A2 c2 := ⟨h.box.to hb, h.b.to hb, h.n.to hb⟩
/-- A ledger in a variable. -/
structure LB (W : World) (O : Nat) (L : List H32) (N : List ByteArray) (A1 : Option Addr) (c1 : Nat) (A2 : Option Addr) (c2 : Nat) : Prop where
  box : ABox W O 36 [.slice A1 L.length c1, .slice A2 N.length c2]
  l : Sl W (fun b => b < W.heap.size) A1 c1 L
  n : Sl W (fun b => b < W.heap.size) A2 c2 N
theorem LB.to {W W' : World} {O : Nat} {L : List H32} {N : List ByteArray} {A1 : Option Addr} {c1 : Nat} {A2 : Option Addr} {c2 : Nat} (h : LB W O L N A1 c1 A2 c2) (hb : Below W.heap.size W W') : LB W' O L N A1 c1 A2 c2 := ⟨h.box.to hb, h.l.to hb, h.n.to hb⟩
/-- Two sheets in a row. -/
theorem sl_pair {W : World} {B : Nat} {te : TypeId} {fr : Nat × Nat} {s1 s2 : Sheet} {A1 A2 A3 A4 : Option Addr} {c1 c2 c3 c4 : Nat}
    (hB : W.heap[B]? = some (.cells #[.string s1.label, .slice A1 s1.body.length c1, .slice A2 s1.notes.length c2, .string s2.label, .slice A3 s2.body.length c3, .slice A4 s2.notes.length c4] te fr))
    (h1 : Sl W (fun b => b < W.heap.size) A1 c1 s1.body) (h2 : Sl W (fun b => b < W.heap.size) A2 c2 s1.notes) (h3 : Sl W (fun b => b < W.heap.size) A3 c3 s2.body) (h4 : Sl W (fun b => b < W.heap.size) A4 c4 s2.notes)
    (l1 : s1.body.length < 9223372036854775808) (l2 : s1.notes.length < 9223372036854775808) (l3 : s2.body.length < 9223372036854775808) (l4 : s2.notes.length < 9223372036854775808) :
    Sl W (fun b => b < W.heap.size) (some ⟨B, 0, none⟩) 2 [s1, s2] := by
  refine Sl.block (l := [s1, s2]) hB (Array.getElem?_eq_some_iff.1 hB).1 (by simp [maxLen]) (fun i hi => ?_)
  have : i = 0 ∨ i = 1 := by simp at hi; omega
  rcases this with rfl | rfl
  · exact ⟨_, _, rfl, ⟨A1, c1, rfl, h1, l1⟩, ⟨A2, c2, rfl, h2, l2⟩⟩
  · exact ⟨_, _, rfl, ⟨A3, c3, rfl, h3, l3⟩, ⟨A4, c4, rfl, h4, l4⟩⟩
theorem addTwo (W : World) (L : List H32) (N : List ByteArray) (A B : Option Addr) (ca cb : Nat) (s1 s2 : Sheet) (A1 A2 A3 A4 : Option Addr) (c1 c2 c3 c4 : Nat) (hl : Sl W (fun b => b < W.heap.size) A ca L) (hn : Sl W (fun b => b < W.heap.size) B cb N)
    (h1 : Sl W (fun b => b < W.heap.size) A1 c1 s1.body) (h2 : Sl W (fun b => b < W.heap.size) A2 c2 s1.notes) (h3 : Sl W (fun b => b < W.heap.size) A3 c3 s2.body) (h4 : Sl W (fun b => b < W.heap.size) A4 c4 s2.notes)
    (hln : L.length = N.length) (hlm : L.length ≤ 1000) (z1 : (sheetB 0 s1).length ≤ 1000000) (z2 : (sheetB 0 s2).length ≤ 1000000) (l1 : s1.body.length ≤ 100) (l2 : s1.notes.length ≤ 100) (l3 : s2.body.length ≤ 100) (l4 : s2.notes.length ≤ 100) (hK : KLaid W) :
    Calls Tryd.prog 15 #[.agg #[.slice A L.length ca, .slice B N.length cb], .int .i64 0, .slice (some ⟨W.heap.size, 0, none⟩) 2 2]
      (W.alloc (.cells #[.string s1.label, .slice A1 s1.body.length c1, .slice A2 s1.notes.length c2, .string s2.label, .slice A3 s2.body.length c3, .slice A4 s2.notes.length c4] 24)) fun e w' =>
      ∃ A' B' ca' cb', e = .returned (.agg #[.slice A' (addAll 0 (L, N) [s1, s2]).1.length ca', .slice B' (addAll 0 (L, N) [s1, s2]).2.length cb']) ∧
        Sl w' (fun b => b < w'.heap.size) A' ca' (addAll 0 (L, N) [s1, s2]).1 ∧ Sl w' (fun b => b < w'.heap.size) B' cb' (addAll 0 (L, N) [s1, s2]).2 ∧ Below W.heap.size W w' := by
  have hb : Below W.heap.size W (W.alloc (.cells #[.string s1.label, .slice A1 s1.body.length c1, .slice A2 s1.notes.length c2, .string s2.label, .slice A3 s2.body.length c3, .slice A4 s2.notes.length c4] 24)) := (Below.refl _ _).alloc (Nat.le_refl _) _
  refine (add_any 0 A B (some ⟨W.heap.size, 0, none⟩) ca cb 2 L N [s1, s2] _ (by unfold I64; omega) (hl.to hb) (hn.to hb) (sl_pair (heap_alloc_new W _) (h1.to hb) (h2.to hb) (h3.to hb) (h4.to hb) (by omega) (by omega) (by omega) (by omega)) hln (by simp; omega) (fun s hs => ?_) (hK.to hb)).mono ?_
  · rcases List.mem_cons.1 hs with rfl | hs
    · omega
    · obtain rfl := List.mem_singleton.1 hs
      omega
  · rintro e w' ⟨v1, v2, rfl, ho1, ho2, hb2⟩
    obtain ⟨A', ca', rfl, hs1⟩ := ho1.sl
    obtain ⟨B', cb', rfl, hs2⟩ := ho2.sl
    exact ⟨A', B', ca', cb', rfl, hs1, hs2, hb.trans (hb2.mono hb.size)⟩
/-- The sheets of the examples. -/
def sOne : Sheet := ⟨⟨#[49]⟩, [⟨#[97, 98]⟩], []⟩
def sTwo : Sheet := ⟨⟨#[50]⟩, [], [⟨#[120]⟩]⟩
def sOther : Sheet := ⟨⟨#[49]⟩, [⟨#[97, 99]⟩], []⟩
def lvA : List H32 × List ByteArray := addAll 0 ([], []) [sOne, sTwo]
def lvM : List H32 × List ByteArray := addAll 0 lvA [sOther, sTwo]
theorem lv_again : addAll 0 lvA [sOne, sTwo] = lvA := by decide +kernel
theorem lv_len : lvA.1.length = 2 ∧ lvA.2.length = 2 ∧ lvM.1.length = 3 ∧ lvM.2.length = 3 := by decide +kernel
theorem lv_leaf : decide (leafOf 0 sOne = leafH [0, 1, 49, 1, 2, 97, 98, 0]) = true := by decide +kernel
theorem lv_root : decide (root lvA.1 = nodeH (leafOf 0 sOne) (leafOf 0 sTwo)) = true := by decide +kernel
theorem lv_proof : proofI lvM.2 ⟨#[49]⟩ = 2 ∧ proofB lvM.2 ⟨#[49]⟩ = true ∧ proofI lvM.2 ⟨#[50]⟩ = 1 ∧ proofB lvM.2 ⟨#[50]⟩ = true := by decide +kernel
theorem lv_check : checkP 3 (root lvM.1) 0 sOther 2 (proofP lvM.1 lvM.2 ⟨#[49]⟩) = true ∧ checkP 3 (root lvM.1) 0 sOne 2 (proofP lvM.1 lvM.2 ⟨#[49]⟩) = false := by decide +kernel
theorem lv_sizes : (sheetB 0 sOne).length ≤ 1000000 ∧ (sheetB 0 sTwo).length ≤ 1000000 ∧ (sheetB 0 sOther).length ≤ 1000000 := by decide +kernel
end Go.Proofs.YthcklfelofpffaaDoor
