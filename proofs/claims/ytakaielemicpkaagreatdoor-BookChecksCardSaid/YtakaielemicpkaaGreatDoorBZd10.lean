/- The example of the chapter, as plain data. No program is in sight.
The calls of the chapter's example, each by itself. No condition but sizes.
The reference's generator of texts: its words and its paragraphs. No condition but that the numbers fit.
Around, SameStrings. No condition.
The reference's generator of texts: Pick, last, refer. No condition but that the numbers fit.
The reference's generator of texts: refer. No condition but that the numbers fit.
The reference's generator of texts. No condition.
The reference's generator of texts: the walk. No condition.
What the generator of texts hands back, as such: a text of good words, whose notes are numbered in order, has no error. No condition.
A text of the generator can be set on pages. No program is in sight.
A text made from the numbers of a list from an index on. No condition. -/
import Derived.Test.YtakaielemicpkaaGreatDoorBZd9
import Derived.Deep.RegionLaw
import Derived.Deep.RegionHeld3
namespace Go.Proofs.YtakaielemicpkaaGreatDoor
open Go.RowKit
def wideT (n : Nat) : TextP := ⟨[List.replicate n wideW], []⟩
def exA : List SectP := [⟨0, false, [3], [wideT 5]⟩]
def exB : List SectP := exA ++ [⟨1, false, [4], [wideT 4]⟩]
def exF : List SectP := exB.map frz
def exC : List SectP := exF.set 0 (corrS (frz ⟨0, false, [3], [wideT 5]⟩) 7 (wideT 9))
def exD : List SectP := exC ++ [⟨2, false, [8], [wideT 1]⟩]
def exI : List SectP := exD.set 2 (corrS ⟨2, false, [8], [wideT 1]⟩ 9 (wideT 5))
def exK : List SectP := strikeL exI 2
def exM : List SectP := strikeL exK 0
theorem ex_wrong : (wrongE 500 4 [List.replicate 5 wideW] [] = 0 ∧ wrongE 500 4 [List.replicate 4 wideW] [] = 0) ∧ wrongE 500 4 [List.replicate 9 wideW] [] = 0 ∧ wrongE 500 4 [List.replicate 1 wideW] [] = 0 := by decide +kernel
theorem ex_labA : labsT (pagesB 500 4 exB) = ⟨#[49, 32, 50, 32, 51, 32]⟩ := by decide +kernel
theorem ex_labC : labsT (pagesB 500 4 exC) = ⟨#[49, 32, 50, 32, 50, 97, 32, 50, 98, 32, 50, 99, 32, 51, 32]⟩ := by decide +kernel
theorem ex_labD : labsT (pagesB 500 4 exD) = ⟨#[49, 32, 50, 32, 50, 97, 32, 50, 98, 32, 50, 99, 32, 51, 32, 52, 32]⟩ := by decide +kernel
theorem ex_labI : labsT (pagesB 500 4 exI) = ⟨#[49, 32, 50, 32, 50, 97, 32, 50, 98, 32, 50, 99, 32, 51, 32, 52, 32, 53, 32]⟩ := by decide +kernel
theorem ex_labK : labsT (pagesB 500 4 exK) = labsT (pagesB 500 4 exC) := by decide +kernel
theorem ex_labM : labsT (pagesB 500 4 exM) = labsT (pagesB 500 4 exC) := by decide +kernel
theorem ex_where1 : whereP 0 7 4 (pagesB 500 4 exC) = some (2, 2, 1) := by decide +kernel
theorem ex_where2 : whereP 0 3 4 (pagesB 500 4 exC) = some (2, 0, 1) := by decide +kernel
instance (l : List PageP) : Decidable (LabOk l) := by unfold LabOk; infer_instance
theorem ex_ok : (LabOk (pagesB 500 4 exA) ∧ LabOk (pagesB 500 4 exB)) ∧ (LabOk (pagesB 500 4 exC) ∧ LabOk (pagesB 500 4 exD)) ∧ (LabOk (pagesB 500 4 exI) ∧ LabOk (pagesB 500 4 exK)) ∧ LabOk (pagesB 500 4 exM) := by decide +kernel
theorem ex_find : (findP [] 0 = -1 ∧ findP exA 1 = -1 ∧ findP exF 0 = 0 ∧ findP exC 2 = -1) ∧ findP exD 2 = 2 ∧ findP exI 2 = 2 ∧ findP exK 0 = 0 := by decide +kernel
end Go.Proofs.YtakaielemicpkaaGreatDoor
namespace Go.Proofs.YtakaielemicpkaaGreatDoor
open Go.RowKit
structure SM (w : World) (A : Option Addr) (c : Nat) (l : List SectP) : Prop where
 t : Tabs w
 s : Sl w (fun b => b < w.heap.size) A c l
theorem SM.to {w w' : World} {A : Option Addr} {c : Nat} {l : List SectP} (h : SM w A c l) (hb : Below w.heap.size w w') : SM w' A c l := ⟨h.t.to hb, h.s.to hb⟩
def ExOk (l : List SectP) : Prop := ShortS l ∧ WfS l ∧ (pagesB 500 4 l).length ≤ 100
instance (l : List (List Word)) : Decidable (ShortT l) := by unfold ShortT; infer_instance
instance (s : SectP) : Decidable (ShortX s) := by unfold ShortX; infer_instance
instance (l : List SectP) : Decidable (ShortS l) := by unfold ShortS; infer_instance
instance (l : List SectP) : Decidable (WfS l) := by unfold WfS; infer_instance
instance (l : List SectP) : Decidable (ExOk l) := by unfold ExOk; infer_instance
theorem SM.book {w : World} {A : Option Addr} {c : Nat} {l : List SectP} (h : SM w A c l) (hl : ExOk l) : BookOk w 500 4 A c l := ⟨h.t.1, h.s, hl.1, hl.2.1, ⟨by decide, by decide⟩, by have := hl.2.2; omega⟩
theorem fits_ok {m h : Int} {v : Value} {n : Nat} (hn : n ≤ 16384) : fitsV m h v n = .tuple #[.agg #[.int .i64 m, .int .i64 h, v], .int .i64 0] := by unfold fitsV; rw [if_neg (by omega)]
theorem OwnP.sm {w w' : World} {B : Nat} {v : Value} {l : List SectP} {P : Nat → Prop} (h : OwnP w' B 45 v l P) (hT : Tabs w) (hb : Below w.heap.size w w') : ∃ A c, v = .slice A l.length c ∧ SM w' A c l ∧ Sl w' P A c l := by
 obtain ⟨A, c, e, hs⟩ := h.sl
 exact ⟨A, c, e, ⟨hT.to hb, hs.mono fun _ _ h => h⟩, hs⟩
theorem wide_short (n : Nat) (hn : n ≤ 1000) : ShortT [List.replicate n wideW] := ⟨by simp, fun p hp => by rw [List.mem_singleton] at hp; subst hp; simp; omega⟩
def Gives (w : World) (l : List SectP) (e : Ending) (w' : World) : Prop := ∃ A c, e = .returned (.tuple #[.agg #[.int .i64 500, .int .i64 4, .slice A l.length c], .int .i64 0]) ∧ SM w' A c l ∧ Sl w' (Up w.heap.size) A c l ∧ Below w.heap.size w w'
theorem ex_add {w : World} {A A1 : Option Addr} {c c1 : Nat} {l l2 : List SectP} (n : Nat) (hn : n ≤ 1000) (e v : Int) (hl : ExOk l) (hl2 : ExOk l2) (h2 : l ++ [(⟨e, false, [v], [wideT n]⟩ : SectP)] = l2) (hm : SM w A c l) (ht : Sl w (fun b => b < w.heap.size) A1 c1 [List.replicate n wideW]) (hf : findP l e = -1) (he : 0 ≤ e ∧ e ≤ 65535) (hv : 0 ≤ v ∧ v ≤ 2147483647) (hE : wrongE 500 4 [List.replicate n wideW] [] = 0) (hln : l.length < 100) :
  Calls Tryz.prog 36 #[.agg #[.int .i64 500, .int .i64 4, .slice A l.length c], .int .i64 e, .int .i64 v, .agg #[.slice A1 1 c1, .slice none 0 0]] w (Gives w l2) := by
 refine (add_ok A c l 500 4 e v A1 none c1 0 [List.replicate n wideW] [] w hm.t.1 hm.s hl.1 hl.2.1 ⟨by decide, by decide⟩ ht (Sl.nil _ _ _ _ (by simp [maxLen])) (wide_short n hn) ⟨by simp, by simp⟩ hf he hv hE (by omega) (by rw [show (⟨[List.replicate n wideW], []⟩ : TextP) = wideT n from rfl, h2]; have := hl2.2.2; omega)).mono ?_
 rintro x W' ⟨u, rfl, ho, hb⟩
 rw [show (⟨[List.replicate n wideW], []⟩ : TextP) = wideT n from rfl, h2] at *
 obtain ⟨A5, c5, rfl, hs, hs2⟩ := ho.sm hm.t hb
 exact ⟨A5, c5, by rw [fits_ok (by have := hl2.2.2; omega)], hs, hs2, hb⟩
theorem ex_correct {w : World} {A A1 : Option Addr} {c c1 : Nat} {l l2 : List SectP} (n : Nat) (hn : n ≤ 1000) (e v : Int) (k : Nat) (s : SectP) (hl : ExOk l) (hl2 : ExOk l2) (h2 : l.set k (corrS s v (wideT n)) = l2) (hm : SM w A c l) (ht : Sl w (fun b => b < w.heap.size) A1 c1 [List.replicate n wideW]) (hf : findP l e = (k : Int)) (hk : k < l.length) (hks : l[k]? = some s) (hv : 0 ≤ v ∧ v ≤ 2147483647) (hnv : v ∉ s.vers) (hE : wrongE 500 4 [List.replicate n wideW] [] = 0) (hlim : (corrS s v (wideT n)).vers.length ≤ 100) :
  Calls Tryz.prog 38 #[.agg #[.int .i64 500, .int .i64 4, .slice A l.length c], .int .i64 e, .int .i64 v, .agg #[.slice A1 1 c1, .slice none 0 0]] w (Gives w l2) := by
 cases hfr : s.frozen with
 | true =>
  refine (correct_frozen A c l 500 4 e v A1 none c1 0 [List.replicate n wideW] [] w hm.t.1 hm.s hl.1 hl.2.1 ⟨by decide, by decide⟩ ht (Sl.nil _ _ _ _ (by simp [maxLen])) (wide_short n hn) ⟨by simp, by simp⟩ k hk hf s hks hfr hv hnv hE hlim (by rw [show (⟨[List.replicate n wideW], []⟩ : TextP) = wideT n from rfl, h2]; have := hl2.2.2; omega)).mono ?_
  rintro x W' ⟨u, rfl, ho, hb⟩
  rw [show (⟨[List.replicate n wideW], []⟩ : TextP) = wideT n from rfl, h2] at *
  obtain ⟨A5, c5, rfl, hs, hs2⟩ := ho.sm hm.t hb
  exact ⟨A5, c5, by rw [fits_ok (by have := hl2.2.2; omega)], hs, hs2, hb⟩
 | false =>
  refine (correct_open A c l 500 4 e v A1 none c1 0 [List.replicate n wideW] [] w hm.t.1 hm.s hl.1 hl.2.1 ⟨by decide, by decide⟩ ht (Sl.nil _ _ _ _ (by simp [maxLen])) (wide_short n hn) ⟨by simp, by simp⟩ k hk hf s hks hfr hv hnv hE hlim (by rw [show (⟨[List.replicate n wideW], []⟩ : TextP) = wideT n from rfl, h2]; have := hl2.2.2; omega)).mono ?_
  rintro x W' ⟨u, rfl, ho, hb⟩
  rw [show (⟨[List.replicate n wideW], []⟩ : TextP) = wideT n from rfl, h2] at *
  obtain ⟨A5, c5, rfl, hs, hs2⟩ := ho.sm hm.t hb
  exact ⟨A5, c5, by rw [fits_ok (by have := hl2.2.2; omega)], hs, hs2, hb⟩
theorem ex_strike {w : World} {A : Option Addr} {c : Nat} {l l2 : List SectP} (e : Int) (k : Nat) (hl : ExOk l) (h2 : strikeL l k = l2) (hm : SM w A c l) (hf : findP l e = (k : Int)) (hk : k < l.length) :
  Calls Tryz.prog 39 #[.agg #[.int .i64 500, .int .i64 4, .slice A l.length c], .int .i64 e] w (Gives w l2) := by
 refine (strike_hit A c l 500 4 e w hm.s hl.1 k hk hf).mono ?_
 rintro x W' ⟨u, rfl, ho, hb⟩
 rw [h2] at ho
 obtain ⟨A5, c5, rfl, hs, hs2⟩ := ho.sm hm.t hb
 exact ⟨A5, c5, rfl, hs, hs2, hb⟩
theorem ex_freeze {w : World} {A : Option Addr} {c : Nat} {l l2 : List SectP} (hl : ExOk l) (h2 : l.map frz = l2) (hm : SM w A c l) :
  Calls Tryz.prog 28 #[.agg #[.int .i64 500, .int .i64 4, .slice A l.length c]] w fun e w' => ∃ A c, e = .returned (.agg #[.int .i64 500, .int .i64 4, .slice A l2.length c]) ∧ SM w' A c l2 ∧ Sl w' (Up w.heap.size) A c l2 ∧ Below w.heap.size w w' := by
 refine (freeze_any A c l 500 4 w hm.s hl.1).mono ?_
 rintro x W' ⟨u, rfl, ho, hb⟩
 rw [h2] at ho
 obtain ⟨A5, c5, rfl, hs, hs2⟩ := ho.sm hm.t hb
 exact ⟨A5, c5, rfl, hs, hs2, hb⟩
theorem ex_labels {w : World} {A : Option Addr} {c : Nat} {l : List SectP} {s : ByteArray} (hl : ExOk l) (hm : SM w A c l) (hL : LabOk (pagesB 500 4 l)) (hs : labsT (pagesB 500 4 l) = s) :
  Calls Tryz.prog 40 #[.agg #[.int .i64 500, .int .i64 4, .slice A l.length c]] w fun e w' => e = .returned (.string s) ∧ Below w.heap.size w w' := by
 rw [← hs]
 exact labels_any (hm.book hl) hm.t hL
theorem ex_where {w : World} {A : Option Addr} {c : Nat} {l : List SectP} {e v wd n s : Int} {i : Nat} (hl : ExOk l) (hm : SM w A c l) (h : whereP e v wd (pagesB 500 4 l) = some (n, s, i)) :
  Calls Tryz.prog 18 #[.agg #[.int .i64 500, .int .i64 4, .slice A l.length c], .int .i64 e, .int .i64 v, .int .i64 wd] w fun x w' => x = .returned (.tuple #[.agg #[.int .i64 n, .int .i64 s], .int .i64 (i : Int), .bool true]) ∧ Below w.heap.size w w' := by
 refine (where_any (hm.book hl) e v wd).mono ?_
 rintro x w' ⟨rfl, hb⟩
 exact ⟨by rw [h]; rfl, hb⟩
theorem ex_oks : (ExOk [] ∧ ExOk exA ∧ ExOk exB ∧ ExOk exF) ∧ (ExOk exC ∧ ExOk exD) ∧ (ExOk exI ∧ ExOk exK) ∧ ExOk exM := by decide +kernel
end Go.Proofs.YtakaielemicpkaaGreatDoor
namespace Go.Proofs.YtakaielemicpkaaGreatDoor
open Go.RowKit
def vocab : List ByteArray := [⟨#[97]⟩, ⟨#[116, 104, 101]⟩, ⟨#[99, 111, 117, 114, 116]⟩, ⟨#[119, 105, 108, 108]⟩, ⟨#[104, 101, 97, 114]⟩, ⟨#[109, 111, 116, 105, 111, 110]⟩, ⟨#[111, 102]⟩, ⟨#[112, 108, 97, 105, 110, 116, 105, 102, 102]⟩, ⟨#[77, 46, 73, 46, 84, 46]⟩, ⟨#[82, 117, 108, 101]⟩, ⟨#[49, 50, 40, 98, 41]⟩, ⟨#[100, 105, 115, 109, 105, 115, 115, 101, 100]⟩, ⟨#[119, 105, 116, 104]⟩, ⟨#[112, 114, 101, 106, 117, 100, 105, 99, 101]⟩, ⟨#[97, 110, 100]⟩, ⟨#[99, 111, 115, 116, 115]⟩, ⟨#[87, 87, 87, 64, 87]⟩, ⟨#[105, 116]⟩, ⟨#[105, 115]⟩, ⟨#[115, 111]⟩, ⟨#[111, 114, 100, 101, 114, 101, 100, 46]⟩, ⟨#[97, 98, 99, 100, 101, 102, 103, 104, 105, 106, 107, 108, 109, 110, 111, 112, 113, 114, 115, 116, 117, 118, 119, 120, 121, 122, 97, 98, 99, 100, 101, 102, 103, 104, 105, 106, 107, 108, 109, 110]⟩]
def keysV : List ByteArray := [⟨#[99, 111, 115, 116, 115]⟩, ⟨#[109, 111, 116, 105, 111, 110]⟩, ⟨#[82, 117, 108, 101]⟩, ⟨#[115, 109, 105, 116, 104]⟩]
def Good (x : Word) : Prop := valid x.s = true ∧ (x.key = ⟨#[]⟩ ∨ valid x.key = true) ∧ (x.t = 0 ∨ x.t = 1)
theorem vocab_good : vocab.all valid = true := by decide +kernel
theorem keysV_good : keysV.all valid = true := by decide +kernel
theorem lits_at {l : List ByteArray} (hl : l.all valid = true) (j : Nat) (hj : j < l.length) : ∃ s, (l.map Value.string)[j]? = some (.string s) ∧ valid s = true :=
 ⟨l[j], by simp [hj], (List.all_eq_true.1 hl) _ (List.getElem_mem hj)⟩
set_option maxRecDepth 100000 in
set_option maxHeartbeats 2000000 in
theorem one_any (n : Nat) (hn : n ≤ 16777216) (w : World) :
  Calls Tryz.prog 106 #[.int .i64 (n : Int)] w fun e w' => ∃ x : Word, e = .returned x.val ∧ Good x ∧ x.n = 0 ∧ Below w.heap.size w w' := by
 have hb : (n : Int) ≤ 16777216 := by omega
 have h0 : 0 ≤ (n : Int) := by omega
 obtain ⟨s, c0, hs⟩ := lits_at vocab_good (n % 22) (Nat.mod_lt _ (by decide))
 simp only [vocab, List.map_cons, List.map_nil] at c0
 have HS := Lh hs
 clear hs
 go_enter Tryz.func106, Tryz.ntmps106
 by_cases hk : n / 22 % 6 = 0
 ·obtain ⟨key, k0, hkey⟩ := lits_at keysV_good (n / 132 % 4) (Nat.mod_lt _ (by decide))
  simp only [keysV, List.map_cons, List.map_nil] at k0
  have hk' : (n : Int) / 22 % 6 = 0 := by omega
  have HK := Lh hkey
  clear hk hkey
  go_wp2_with fail
  refine bodyPost_ret (v := .agg #[.string s, .string key, .int .i64 (↑n / 528 % 2), .int .i64 0]) (by simp [results, Tryz.results106, go_sem]) rfl ⟨⟨s, key, (n : Int) / 528 % 2, 0⟩, rfl, ⟨HS.out, .inr HK.out, ?_⟩, rfl, ?_⟩
  ·show (n : Int) / 528 % 2 = 0 ∨ (n : Int) / 528 % 2 = 1
   omega
  ·exact (((((Below.refl _ _).alloc (Nat.le_refl _) _).alloc (by simp) _).alloc (by simp; omega) _).alloc (by simp; omega) _)
 ·have hk' : ¬ (n : Int) / 22 % 6 = 0 := by omega
  clear hk
  go_wp2_with fail
  refine bodyPost_ret (v := .agg #[.string s, .string ⟨#[]⟩, .int .i64 0, .int .i64 0]) (by simp [results, Tryz.results106, go_sem]) rfl ⟨⟨s, ⟨#[]⟩, 0, 0⟩, rfl, ⟨HS.out, .inl rfl, .inl rfl⟩, rfl, ?_⟩
  exact ((((Below.refl _ _).alloc (Nat.le_refl _) _).alloc (by simp) _).alloc (by simp; omega) _)
theorem valid_size {s : ByteArray} (h : valid s = true) : s.size ≤ 40 := by
 unfold valid at h
 rw [Bool.and_eq_true, decide_eq_true_iff] at h
 exact h.1.2
theorem good_ok {x : Word} (h : Good x) (h0 : x.n = 0) : x.ok := by
 have h1 := valid_size h.1
 refine ⟨by unfold maxLen; omega, ?_, ?_, by rw [h0]; exact ⟨by decide, by decide⟩⟩
 ·rcases h.2.1 with e | e
  ·rw [e]; decide
  ·have := valid_size e; unfold maxLen; omega
 ·rcases h.2.2 with e | e <;> rw [e] <;> exact ⟨by decide, by decide⟩
theorem word_info : (Tryz.prog.info? 104).map (fun i => (i.zero, i.size, i.bytes)) = some (some (.agg #[.string ⟨#[]⟩, .string ⟨#[]⟩, .int .i64 0, .int .i64 0]), Rep.size Word, 48) := by kernel_rfl
set_option maxHeartbeats 1000000 in
theorem part_any (n most : Nat) (hn : n ≤ 1000000) (hm : 1 ≤ most) (hm2 : most ≤ 1000) (w : World) :
  Calls Tryz.prog 84 #[.int .i64 (n : Int), .int .i64 (most : Int)] w fun e w' => ∃ v, e = .returned v ∧ ∃ l : List Word, Own w' w.heap.size 104 v l ∧ l.length = 1 + n % most ∧ (∀ x ∈ l, Good x ∧ x.n = 0) ∧ Below w.heap.size w w' := by
 have h1 : (n : Int) ≤ 1000000 := by omega
 have h0 : 0 ≤ (n : Int) := by omega
 have h2 : (most : Int) ≤ 1000 := by omega
 have h3 : 1 ≤ (most : Int) := by omega
 have h4 : (most : Int) ≠ 0 := by omega
 go_enter Tryz.func84, Tryz.ntmps84
 go_wp2_with fail
 obtain ⟨z0, hz0⟩ : ∃ z, z = bits BinOp.or IntKind.u32 (↑n) 1 := ⟨_, rfl⟩
 have hz1 : 0 ≤ z0 := by rw [hz0]; exact bits_lo_u32 ..
 have hz2 : z0 ≤ 4294967295 := by rw [hz0]; exact bits_hi_u32 ..
 rw [← hz0]
 clear hz0
 have hq : (n : Int) % (most : Int) = ((n % most : Nat) : Int) := by omega
 have hql : n % most < most := Nat.mod_lt _ hm
 obtain ⟨q, hqe⟩ : ∃ q, q = n % most := ⟨_, rfl⟩
 rw [← hqe] at hq hql
 have HQ2 := Lh hqe
 clear hqe
 have HQ := Lh hq
 have hq2 : ((n : Int) % (most : Int)) < 1000 := by omega
 have hq3 : 0 ≤ ((n : Int) % (most : Int)) := by omega
 clear hq
 go_loopw [5, 6, 7] (fun x v i wr => ∃ k : Nat, k ≤ 1 + q ∧ i = .int .i64 k ∧ (∃ z : Int, x = .int .u32 z ∧ 0 ≤ z ∧ z ≤ 4294967295) ∧ (∃ l : List Word, Own wr w.heap.size 104 v l ∧ l.length = k ∧ (∀ x ∈ l, Good x ∧ x.n = 0)) ∧ Below w.heap.size w wr) (fun _ _ i _ => 1 + q - (intOf i).toNat)
 case atStart => exact ⟨0, Nat.zero_le _, rfl, ⟨z0, rfl, hz1, hz2⟩, ⟨[], Own.nil _ _ _, rfl, fun _ h => (by cases h)⟩, Below.refl _ _⟩
 case round =>
  obtain ⟨k, hk, rfl, ⟨z, rfl, hz3, hz4⟩, ⟨l, hown, hlen, hgood⟩, hb⟩ := hrel
  have Hb := Lh hb
  have hzw := hb.size
  have HL := Lh hlen
  have HG := Lh hgood
  clear hb hlen hgood
  obtain ⟨A2, c2, rfl, _⟩ := hown.sl
  by_cases hlt : k < 1 + q
  ·have hkl : (k : Int) < 1 + ((n : Int) % (most : Int)) := by rw [HQ.out]; omega
   have hk0 : (0 : Int) ≤ (k : Int) := by omega
   have hk1 : (k : Int) ≤ 1000 := by omega
   go_wp2_with fail
   obtain ⟨y, hy, hy2⟩ : ∃ y : Nat, (z * 1664525 + 1013904223) % 4294967296 / 256 = (y : Int) ∧ y ≤ 16777216 := ⟨((z * 1664525 + 1013904223) % 4294967296 / 256).toNat, by omega, by omega⟩
   rw [hy]
   clear hy
   refine (one_any y hy2 _).mono ?_
   rintro e w4 ⟨x, rfl, hgx, hx0, hb4⟩
   have hown4 := hown.below hb4
   have Hb4 := Lh (Hb.out.trans (hb4.mono hzw))
   have hz4 := hb4.size
   have HX := Lh hgx
   have HX0 := Lh hx0
   have HOK := Lh (good_ok hgx hx0)
   have hll : l.length ≤ 1000 := by have := HL.out; omega
   clear hb4 hgx hx0
   unfold Word.val
   go_wp2_with (at_builtin; refine wpList_push (α := Word) _ rfl (.tmp 22) (.tmp 27) 99 rfl w.heap.size 104 (.agg #[.string ⟨#[]⟩, .string ⟨#[]⟩, .int .i64 0, .int .i64 0]) 48 Tryz.underlying99 word_info rfl (by decide) _ l rfl (hown4.alloc _) w4.heap.size _ x (0, 0) 104 rfl (heap_alloc_new w4 _) ⟨rfl, HOK.out⟩ (by omega) (by omega) (by first | omega | (simp; done) | (simp; omega)) _ rfl ?_; intro g cap w5 hown5 hg5 hat5 hlt5)
   go_roundw
   case rel => exact ⟨k + 1, by omega, by go_num, ⟨_, rfl, by omega, by omega⟩, ⟨_, hown5, by simp [HL.out], fun y hy => (by rcases List.mem_append.1 hy with h | h; exact HG.out y h; rw [List.mem_singleton] at h; subst h; exact ⟨HX.out, HX0.out⟩)⟩, below_push Hb4.out hown4 (by omega) hg5⟩
   case measure => simp [intOf]; omega
  ·have hkl : ¬ (k : Int) < 1 + ((n : Int) % (most : Int)) := by rw [HQ.out]; omega
   go_wp2_with fail
   go_ret
   exact ⟨_, rfl, l, hown, by rw [HL.out, ← HQ2.out]; omega, HG.out, Hb.out⟩
end Go.Proofs.YtakaielemicpkaaGreatDoor
namespace Go.Proofs.YtakaielemicpkaaGreatDoor
open Go.RowKit
def aro (n m : Int) : Int := (if n < 0 then -(n + 1) else n) % m
theorem aro_lt (n m : Int) (h : 1 ≤ m) : 0 ≤ aro n m ∧ aro n m < m := ⟨Int.emod_nonneg _ (by omega), Int.emod_lt_of_pos _ (by omega)⟩
set_option maxHeartbeats 400000 in
theorem around_any (n m : Int) (w : World) (hn : I64 n) (hm : 1 ≤ m) (hm2 : m ≤ 9223372036854775807) :
  Calls Tryz.prog 13 #[.int .i64 n, .int .i64 m] w fun e w' => e = .returned (.int .i64 (aro n m)) ∧ w = w' := by
 obtain ⟨h0, h1⟩ := hn
 go_enter Tryz.func13, Tryz.ntmps13
 by_cases h : n < 0
 ·have e : aro n m = (-(n + 1)) % m := by unfold aro; rw [if_pos h]
  have E := Lh e
  clear e
  have hp : 0 ≤ -(n + 1) := by omega
  go_wp2
  go_ret
  refine ⟨ret_int ?_, rfl⟩
  rw [E.out]
  rw [← Int.neg_tmod, Int.tmod_eq_emod_of_nonneg hp]
 ·have e : aro n m = n % m := by unfold aro; rw [if_neg h]
  have E := Lh e
  clear e
  go_wp2
  go_ret
  exact ⟨ret_int (by rw [E.out]), rfl⟩
end Go.Proofs.YtakaielemicpkaaGreatDoor
namespace Go.Proofs.YtakaielemicpkaaGreatDoor
open Go.RowKit
set_option maxHeartbeats 1000000 in
theorem pick_any (A : Option Addr) (c : Nat) (l : List Int) (i : Int) (m : Int) (w : World) (hl : Sl w (fun b => b < w.heap.size) A c l) (hm : 1 ≤ m) (hm2 : m ≤ 1000000) (hi0 : 0 ≤ i) :
  Calls Tryz.prog 30 #[.slice A l.length c, .int .i64 i, .int .i64 m] w fun e w' => ∃ r : Nat, e = .returned (.int .i64 (r : Int)) ∧ (r : Int) < m ∧ w = w' := by
 obtain ⟨i, rfl⟩ := Int.eq_ofNat_of_zero_le hi0
 clear hi0
 have hlen : l.length ≤ 9223372036854775807 := by have := hl.1; have := hl.2.1; unfold maxLen at this; omega
 have h0 : ¬ (i : Int) < 0 := by omega
 by_cases hi : i < l.length
 ·obtain ⟨b, o, rfl, _, hbl, hx, hc⟩ := int_at hl hi
  obtain ⟨a0, a1⟩ := aro_lt l[i] m hm
  generalize l[i] = x at *
  have Hx := Lh hx
  have hi1 : ¬ (l.length : Int) ≤ (i : Int) := by omega
  have hi2 : (i : Int) < (l.length : Int) := by omega
  have hi0 : 0 ≤ (i : Int) := by omega
  clear hx hl hi
  go_enter Tryz.func30, Tryz.ntmps30
  go_wp2_with fail
  refine (around_any x m _ Hx.out hm (by omega)).mono ?_
  rintro e w' ⟨rfl, rfl⟩
  generalize aro x m = r at *
  go_wp2_with fail
  go_ret
  exact ⟨r.toNat, ret_int (by omega), by omega, rfl⟩
 ·have hi1 : (l.length : Int) ≤ (i : Int) := by omega
  clear hl hi
  go_enter Tryz.func30, Tryz.ntmps30
  go_wp2_with fail
  go_ret
  exact ⟨0, rfl, by omega, rfl⟩
def noNote (l : List Word) : Prop := ∀ x ∈ l, x.n = 0
set_option maxHeartbeats 1000000 in
theorem last_any (A : Option Addr) (c : Nat) (l : List (List Word)) (n : Nat) (w : World) (hl : Sl w (fun b => b < w.heap.size) A c l) (hn : n ≤ 1000000) :
  Calls Tryz.prog 86 #[.slice A l.length c, .int .i64 (n : Int)] w fun e w' => ∃ b : Bool, e = .returned (.bool b) ∧ (b = false → ∀ p ∈ l.drop (n + 1), noNote p) ∧ w = w' := by
 have hlen : l.length ≤ 9223372036854775807 := by have := hl.1; have := hl.2.1; unfold maxLen at this; omega
 have h1 : (n : Int) ≤ 1000000 := by omega
 have h0 : 0 ≤ (n : Int) := by omega
 have Hl := Lh hl
 clear hl
 go_enter Tryz.func86, Tryz.ntmps86
 go_wp2_with fail
 go_loopw [5, 6] (fun i _ wr => ∃ k : Nat, n + 1 ≤ k ∧ (k ≤ l.length ∨ k = n + 1) ∧ i = .int .i64 k ∧ Hid (∀ j (hj : j < l.length), n + 1 ≤ j → j < k → noNote l[j]) ∧ wr = w) (fun i _ _ => l.length - (intOf i).toNat)
 case atStart => exact ⟨n + 1, Nat.le_refl _, .inr rfl, by go_num, (fun j hj h1 h2 => absurd h1 (by omega)), rfl⟩
 case round =>
  obtain ⟨k, hk, hk2, rfl, hno, rfl⟩ := hrel
  by_cases hlt : k < l.length
  ·obtain ⟨b, o, Ap, cp, rfl, _, hbl, hc, hp⟩ := part_at Hl.out hlt
   have hkl : (k : Int) < (l.length : Int) := by omega
   have hk0 : (0 : Int) ≤ (k : Int) := by omega
   have HT := Lh (fun (h : noNote l[k]) j (hj : j < l.length) (h1 : n + 1 ≤ j) (h2 : j < k + 1) => (by by_cases e : j = k; subst e; exact h; exact hno.out j hj h1 (by omega) : noNote l[j]))
   have h2 : l[k].length ≤ 9223372036854775807 := by have := hp.1; have := hp.2.1; unfold maxLen at this; omega
   generalize l[k] = p at *
   have Hp := Lh hp
   have hk3 : (k : Int) ≤ 9223372036854775806 := by omega
   clear hp hk2 hno
   go_wp2_with fail
   obtain ⟨wo, rfl⟩ : ∃ wo : World, wo = wr := ⟨_, rfl⟩
   go_loopw [6] (fun i wr => ∃ j : Nat, j ≤ p.length ∧ i = .int .i64 j ∧ Hid (∀ i (hi : i < p.length), i < j → p[i].n = 0) ∧ wr = wo) (fun i _ => p.length - (intOf i).toNat)
   case atStart => exact ⟨0, Nat.zero_le _, rfl, (fun i hi h => absurd h (by omega)), rfl⟩
   case round =>
    obtain ⟨j, hj, rfl, hno2, rfl⟩ := hrel
    by_cases hjl : j < p.length
    ·obtain ⟨b3, o3, rfl, _, hbl3, hok, d0, d1, d2, d3⟩ := word_at Hp.out hjl
     have hj1 : (j : Int) < (p.length : Int) := by omega
     have hj0 : (0 : Int) ≤ (j : Int) := by omega
     have HT2 := Lh (fun (h : p[j].n = 0) i (hi : i < p.length) (h2 : i < j + 1) => (by by_cases e : i = j; subst e; exact h; exact hno2.out i hi (by omega) : p[i].n = 0))
     have hr := hok.2.2.2
     generalize p[j] = x at *
     clear hok d0 d1 d2
     by_cases hx : x.n = 0
     ·have E := Lh (HT2.out hx)
      rw [hx] at d3
      clear hx HT2 hno2
      go_wp2_with fail
      go_roundw
      case rel => exact ⟨j + 1, by omega, by go_num, E.out, by first | trivial | rfl⟩
      case measure => simp [intOf]; omega
     ·have hB : (x.n == 0) = false := beq_eq_false_iff_ne.2 hx
      clear hx HT2 hno2
      go_wp2_with fail
      go_ret
      exact ⟨true, rfl, fun h => (by cases h), rfl⟩
    ·have E := Lh (HT.out (fun x hx => by obtain ⟨i, hi, rfl⟩ := List.getElem_of_mem hx; exact hno2.out i hi (by omega)))
     clear HT hno2
     go_wp2_with fail
     go_roundw
     case rel => exact ⟨k + 1, by omega, by omega, by go_num, E.out, by first | trivial | rfl⟩
     case measure => simp [intOf]; omega
  ·have E := Lh (fun p (hp : p ∈ l.drop (n + 1)) => (by
    obtain ⟨i, hi, rfl⟩ := List.getElem_of_mem hp
    rw [List.length_drop] at hi
    rw [List.getElem_drop]
    exact hno.out (n + 1 + i) (by omega) (by omega) (by omega) : noNote p))
   clear hno
   go_wp2_with fail
   go_ret
   exact ⟨false, rfl, fun _ => E.out, rfl⟩
end Go.Proofs.YtakaielemicpkaaGreatDoor
namespace Go.Proofs.YtakaielemicpkaaGreatDoor
open Go.RowKit
def withNote (x : Word) (m : Int) : Word := ⟨x.s, x.key, x.t, m⟩
def Referred (p : List Word) (m : Int) (b : Bool) (q : List Word) : Prop :=
 (b = false ∧ q = p) ∨ (b = true ∧ ∃ i, ∃ h : i < p.length, (∀ j (hj : j < p.length), i ≤ j → p[j].n = 0) ∧ q = p.set i (withNote p[i] m))
def RefP (g cap : Nat) (l : List Word) (m : Int) (later : Bool) (w : World) (e : Ending) (w' : World) : Prop :=
 ∃ b : Bool, e = .returned (.bool b) ∧ ∃ q, Referred l m b q ∧ (b = true → later = false) ∧ q.length = l.length ∧ Own w' 0 104 (.slice (some ⟨g, 0, none⟩) l.length cap) q ∧ w.grownBy w' (some g)
set_option maxHeartbeats 1000000 in
theorem refer_any (g cap : Nat) (l : List Word) (n : Nat) (m : Int) (later : Bool) (w : World) (hown : Own w 0 104 (.slice (some ⟨g, 0, none⟩) l.length cap) l) (hn : n ≤ 1000000) (hm0 : 0 ≤ m) (hm : m ≤ 1000) (hlen : l.length ≤ 1000) :
  Calls Tryz.prog 85 #[.slice (some ⟨g, 0, none⟩) l.length cap, .int .i64 (n : Int), .int .i64 m, .bool later] w (RefP g cap l m later w) := by
 have h1 : (n : Int) ≤ 1000000 := by omega
 have h0 : 0 ≤ (n : Int) := by omega
 have h2 : (l.length : Int) ≤ 1000 := by omega
 obtain ⟨A, c, e1, hs⟩ := hown.sl
 obtain ⟨rfl, _, rfl⟩ := Value.slice.inj e1
 have Hs := Lh hs
 have HO := Lh hown
 clear e1 hs hown
 go_enter Tryz.func85, Tryz.ntmps85
 go_wp2_with fail
 go_loopw [9, 10] (fun f i wr => ∃ k : Nat, k ≤ l.length ∧ i = .int .i64 k ∧ (∃ q : Nat, f = .int .i64 (q : Int) ∧ q ≤ k ∧ Hid (∀ j (hj : j < l.length), q ≤ j → j < k → l[j].n = 0)) ∧ wr = w) (fun _ i _ => l.length - (intOf i).toNat)
 case atStart => exact ⟨0, Nat.zero_le _, rfl, ⟨0, rfl, Nat.le_refl _, (fun j hj h1 h2 => absurd h2 (by omega))⟩, rfl⟩
 case round =>
  obtain ⟨k, hk, rfl, ⟨q, rfl, hqk, hno⟩, rfl⟩ := hrel
  by_cases hlt : k < l.length
  ·obtain ⟨b3, o3, e3, _, hbl3, hok, d0, d1, d2, d3⟩ := word_at Hs.out hlt
   obtain ⟨rfl, rfl⟩ : b3 = g ∧ o3 = 0 := by simpa using e3.symm
   simp only [Nat.zero_add] at d3
   have hkl : (k : Int) < (l.length : Int) := by omega
   have hk0 : (0 : Int) ≤ (k : Int) := by omega
   have HT := Lh (fun (h : l[k].n = 0) j (hj : j < l.length) (h1 : q ≤ j) (h2 : j < k + 1) => (by by_cases e : j = k; subst e; exact h; exact hno.out j hj h1 (by omega) : l[j].n = 0))
   have hr := hok.2.2.2
   generalize l[k] = x at *
   clear hok d0 d1 d2 e3
   by_cases hx : x.n = 0
   ·have E := Lh (HT.out hx)
    rw [hx] at d3
    clear hx HT hno
    go_wp2_with fail
    go_roundw
    case rel => exact ⟨k + 1, by omega, by go_num, ⟨q, rfl, by omega, E.out⟩, by first | trivial | rfl⟩
    case measure => simp [intOf]; omega
   ·have hB : (x.n == 0) = false := beq_eq_false_iff_ne.2 hx
    clear hx HT hno
    go_wp2_with fail
    go_roundw
    case rel => exact ⟨k + 1, by omega, by go_num, ⟨k + 1, by go_num, by omega, (fun j hj h1 h2 => absurd h2 (by omega))⟩, by first | trivial | rfl⟩
    case measure => simp [intOf]; omega
  ·obtain rfl : k = l.length := by omega
   have hno2 := Lh (fun j (hj : j < l.length) (h1 : q ≤ j) => hno.out j hj h1 hj)
   clear hno
   cases later with
   | true =>
    go_wp2_with fail
    go_ret
    exact ⟨false, rfl, l, .inl ⟨rfl, rfl⟩, fun h => (by cases h), rfl, HO.out, World.grownBy.refl _ _⟩
   | false =>
    by_cases hq : q < l.length
    ·have hq1 : (q : Int) < (l.length : Int) := by omega
     have hq0 : (0 : Int) ≤ (q : Int) := by omega
     have hmod : n % (l.length - q) < l.length - q := Nat.mod_lt _ (by omega)
     have hmi : (n : Int) % ((l.length : Int) - (q : Int)) = ((n % (l.length - q) : Nat) : Int) := by
      rw [Int.natCast_emod]; congr 1; omega
     generalize n % (l.length - q) = r at *
     obtain ⟨g', cap', es, e4, _, hg, _, hr4, hcell, hfz⟩ := HO.out.at_ (show q + r < l.length by omega)
     obtain ⟨re, hok⟩ := hr4
     subst re
     have c3 := hcell 3 _ rfl
     rw [show Rep.size Word = 4 from rfl] at c3
     obtain ⟨rfl, _⟩ : g' = g ∧ cap' = cap := by
      have := Value.slice.inj e4
      simp at this
      exact ⟨this.1.symm, this.2.symm⟩
     have HH := Lh (HO.out.setf (q + r) 3 (show q + r < l.length by omega) (by decide) (.int .i64 m) rfl (withNote l[q + r] m) (fun S es h => by
      obtain ⟨h1, h2⟩ := h
      subst h1
      exact ⟨rfl, h2.1, h2.2.1, h2.2.2.1, ⟨by show -9223372036854775808 ≤ m; omega, by show m ≤ 9223372036854775807; omega⟩⟩) (o := (q + r) * 4 + 3) rfl)
     have HR : Hid (Referred l m true (l.set (q + r) (withNote l[q + r] m))) := .inr ⟨rfl, q + r, by omega, fun j hj h => hno2.out j hj (by omega), rfl⟩
     have hk1 : (q : Int) + (r : Int) < (l.length : Int) := by omega
     have hk0 : 0 ≤ (q : Int) + (r : Int) := by omega
     generalize l[q + r].n = old at *
     have HL : Hid ((l.set (q + r) (withNote l[q + r] m)).length = l.length) := Lh (by simp)
     generalize l.set (q + r) _ = l' at *
     clear hok hcell e4
     go_wp2_with fail
     go_ret
     exact ⟨true, rfl, _, HR.out, fun _ => rfl, HL.out, HH.out.1, HH.out.2⟩
    ·have hq1 : ¬ (q : Int) < (l.length : Int) := by omega
     go_wp2_with fail
     go_ret
     exact ⟨false, rfl, l, .inl ⟨rfl, rfl⟩, fun h => (by cases h), rfl, HO.out, World.grownBy.refl _ _⟩
end Go.Proofs.YtakaielemicpkaaGreatDoor
namespace Go.Proofs.YtakaielemicpkaaGreatDoor
open Go.RowKit
theorem raw_info : (Tryz.prog.info? 99).map (fun i => (i.zero, i.size, i.bytes)) = some (some (.slice none 0 0), Rep.size Raw, 24) := by kernel_rfl
def Fresh (m : Nat) (p : List Word) : Prop := 1 ≤ p.length ∧ p.length ≤ m ∧ ∀ x ∈ p, Good x ∧ x.n = 0
theorem Own.fit {α : Type} [Rep α] {w w' : World} {base : Nat} {e : TypeId} {v : Value} {l : List α} (h : Own w' base e v l) (hb : base = w.heap.size) : ∀ g, v.ownBlock = some g → w.heap.size ≤ g := fun g hg => hb ▸ (h.lt g hg).1
structure St1 (w wr : World) (Y : Nat) (k : Nat) (v : Value) (us : List Raw) (ls : List (List Word)) : Prop where
 y : TBox wr Y v (.slice none 0 0)
 x : TBox wr w.heap.size (.slice none 0 0) (.slice none 0 0)
 n : Nest wr (fun g => Y < g) 99 104 v us ls
 l : ls.length = k
 f : ∀ p ∈ ls, Fresh 40 p
 b : Below w.heap.size w wr
theorem St1.push {w wr w4 w5 : World} {Y k : Nat} {v v' : Value} {us : List Raw} {ls : List (List Word)} {u : Raw} {p : List Word} {o : Obj} (h : St1 w wr Y k v us ls) (hY : w.heap.size < Y) (hb4 : Below wr.heap.size wr w4) (hu : Own w4 wr.heap.size 104 u.v p) (hp : Fresh 40 p)
  (hown : Own w5 0 99 v' (us ++ [u])) (hg : (w4.alloc o).grownBy w5 v.ownBlock) (hat : v'.ownBlock = v.ownBlock ∨ v'.ownBlock = some (w4.alloc o).heap.size) :
  St1 w (w5.setCell ⟨Y, 0, none⟩ v') Y (k + 1) v' (us ++ [u]) (ls ++ [p]) := by
 have hylt := h.y.lt
 have hz := hb4.size
 have hvB : ∀ g, v.ownBlock = some g → Y < g := h.n.mv
 have keep : ∀ b, b < w4.heap.size → some b ≠ v.ownBlock → w5.heap[b]? = w4.heap[b]? := fun b hb hne => (hg.block b (by simp; omega) hne).trans (Below.heap_alloc w4 o b hb)
 have y5 : TBox w5 Y v (.slice none 0 0) := (h.y.below hb4).kept (keep Y (by omega) (fun e => by have := hvB Y e.symm; omega))
 have x5 : TBox w5 w.heap.size (.slice none 0 0) (.slice none 0 0) := (h.x.below hb4).kept (keep _ (by omega) (fun e => by have := hvB _ e.symm; omega))
 have n5 : Nest w5 (fun g => Y < g) _ _ v' (us ++ [u]) (ls ++ [p]) :=
  (Nest.push (B := fun g => Y < g ∧ g < wr.heap.size) (B' := fun g => Y < g) (H := (w4.alloc o).heap.size) ((h.n.mono fun g hg' hB => ⟨hB, hg'⟩).below hb4) (hu.re (Nat.zero_le _)) (fun g hg' => by have := hu.fit rfl g hg'; exact ⟨fun hh => by have := hh.2; omega, by omega⟩) keep hown hat (by simp) (fun g hh => hh.1) (by simp; omega))
 refine ⟨y5.set0 v', x5.other (by omega) v', n5.kept fun g hg' hB => heap_set w5 Y 0 v' (by omega), by simp [h.l], fun q hq => ?_, ?_⟩
 ·rcases List.mem_append.1 hq with hq | hq
  ·exact h.f q hq
  ·rw [List.mem_singleton] at hq; subst hq; exact hp
 ·have b4 : Below w.heap.size w w4 := h.b.trans (hb4.mono h.b.size)
  have b5 : Below w.heap.size w w5 := (b4.alloc b4.size o).grown hg (by have := b4.size; simp; omega) (fun g hg' => by have := hvB g hg'; omega)
  exact b5.setCell (p := ⟨Y, 0, none⟩) (by show w.heap.size ≤ Y; omega) v'
theorem St1.cell {w wr w4 w5 : World} {Y k : Nat} {v : Value} {us : List Raw} {ls : List (List Word)} {o : Obj} (h : St1 w wr Y k v us ls) (_hY : w.heap.size < Y) (hb4 : Below wr.heap.size wr w4) (hg : (w4.alloc o).grownBy w5 v.ownBlock) : w5.cell? ⟨Y, 0, none⟩ = some v ∧ ∀ o, w5.frozen? ⟨Y, o, none⟩ = false := by
 have y5 : TBox w5 Y v (.slice none 0 0) := (h.y.below hb4).kept ((hg.block Y (by have := h.y.lt; have := hb4.size; simp; omega) (fun e => by have := h.n.mv Y e.symm; omega)).trans (Below.heap_alloc w4 o Y (by have := h.y.lt; have := hb4.size; omega)))
 exact ⟨y5.c0, y5.fz⟩
def seqOf (l : List Word) : List Int := (l.map (·.n)).filter (fun x => x != 0)
theorem seqOf_append (a b : List Word) : seqOf (a ++ b) = seqOf a ++ seqOf b := by unfold seqOf; rw [List.map_append, List.filter_append]
theorem seqOf_nil {l : List Word} (h : ∀ x ∈ l, x.n = 0) : seqOf l = [] := by
 unfold seqOf
 rw [List.filter_eq_nil_iff]
 intro y hy
 obtain ⟨x, hx, rfl⟩ := List.mem_map.1 hy
 rw [h x hx]; simp
theorem seqOf_none {ls : List (List Word)} (h : ∀ p ∈ ls, noNote p) : seqOf ls.flatten = [] := seqOf_nil fun x hx => by
 obtain ⟨p, hp, hxp⟩ := List.mem_flatten.1 hx
 exact h p hp x hxp
theorem seq_set (ls : List (List Word)) (k i : Nat) (hk : k < ls.length) (hi : i < ls[k].length) (m : Int) (hm : m ≠ 0) (hl : ∀ p ∈ ls.drop (k + 1), noNote p) (h0 : ∀ j (hj : j < ls[k].length), i ≤ j → ls[k][j].n = 0) :
  seqOf (ls.set k (ls[k].set i (withNote ls[k][i] m))).flatten = seqOf ls.flatten ++ [m] := by
 have e1 : ls.set k (ls[k].set i (withNote ls[k][i] m)) = ls.take k ++ (ls[k].set i (withNote ls[k][i] m) :: ls.drop (k + 1)) := by rw [List.set_eq_take_append_cons_drop, if_pos hk]
 have e2 : ls = ls.take k ++ (ls[k] :: ls.drop (k + 1)) := by rw [← List.drop_eq_getElem_cons hk, List.take_append_drop]
 have e3 : ls[k].set i (withNote ls[k][i] m) = ls[k].take i ++ (withNote ls[k][i] m :: ls[k].drop (i + 1)) := by rw [List.set_eq_take_append_cons_drop, if_pos hi]
 have e4 : ls[k] = ls[k].take i ++ ls[k].drop i := (List.take_append_drop i _).symm
 have d1 : seqOf (ls[k].drop i) = [] := seqOf_nil fun x hx => by
  obtain ⟨j, hj, rfl⟩ := List.getElem_of_mem hx
  rw [List.length_drop] at hj
  rw [List.getElem_drop]; exact h0 (i + j) (by omega) (by omega)
 have d2 : seqOf (ls[k].drop (i + 1)) = [] := seqOf_nil fun x hx => by
  obtain ⟨j, hj, rfl⟩ := List.getElem_of_mem hx
  rw [List.length_drop] at hj
  rw [List.getElem_drop]; exact h0 (i + 1 + j) (by omega) (by omega)
 have d3 := seqOf_none hl
 have d4 : seqOf [withNote ls[k][i] m] = [m] := by simp [seqOf, withNote, hm]
 have l1 : seqOf (ls.set k (ls[k].set i (withNote ls[k][i] m))).flatten = seqOf (ls.take k).flatten ++ (seqOf (ls[k].take i) ++ [m]) := by
  rw [e1, List.flatten_append, List.flatten_cons, seqOf_append, seqOf_append, d3, List.append_nil, e3, seqOf_append, ← List.singleton_append, seqOf_append, d4, d2, List.append_nil]
 have l2 : seqOf ls.flatten = seqOf (ls.take k).flatten ++ seqOf (ls[k].take i) := by
  conv => lhs; rw [e2, List.flatten_append, List.flatten_cons, seqOf_append, seqOf_append, d3, List.append_nil, e4, seqOf_append, d1, List.append_nil]
 rw [l1, l2, List.append_assoc]
structure GText (ls ns : List (List Word)) : Prop where
 l1 : 1 ≤ ls.length
 l4 : ls.length ≤ 4
 n3 : ns.length ≤ 3
 p : ∀ p ∈ ls, 1 ≤ p.length ∧ p.length ≤ 40 ∧ ∀ x ∈ p, Good x
 q : ∀ p ∈ ns, Fresh 12 p
 s : seqOf ls.flatten = (List.range ns.length).map (fun i : Nat => (i : Int) + 1)
structure St2 (w wr : World) (Y H : Nat) (v vn : Value) (us un : List Raw) (ls ns : List (List Word)) : Prop where
 y : TBox wr Y v vn
 x : TBox wr w.heap.size (.slice none 0 0) (.slice none 0 0)
 n : Nest wr (fun g => Y < g ∧ g < H) 99 104 v us ls
 m : Nest wr (fun g => H ≤ g) 99 104 vn un ns
 b : Below w.heap.size w wr
 hz : H ≤ wr.heap.size
 yh : Y < H
theorem St1.next {w wr : World} {Y k : Nat} {v : Value} {us : List Raw} {ls : List (List Word)} (h : St1 w wr Y k v us ls) : St2 w wr Y wr.heap.size v (.slice none 0 0) us [] ls [] :=
 ⟨h.y, h.x, h.n.mono fun _ hg hB => ⟨hB, hg⟩, Nest.nil _ _ _ _, h.b, Nat.le_refl _, h.y.lt⟩
theorem St2.inner {w wr w' : World} {Y H : Nat} {v vn : Value} {us un : List Raw} {ls ns : List (List Word)} (h : St2 w wr Y H v vn us un ls ns) (hY : w.heap.size < Y) (i : Nat) (hi : i < us.length) {q : List Word} {g : Nat} (hg : us[i].v.ownBlock = some g)
  (hown : Own w' 0 104 us[i].v q) (hgr : wr.grownBy w' (some g)) : St2 w w' Y H v vn us un (ls.set i q) ns := by
 have hgB := h.n.mi i hi g hg
 have kp : ∀ b, b < wr.heap.size → b ≠ g → w'.heap[b]? = wr.heap[b]? := fun b hb hne => hgr.block b hb (fun e => hne (by injection e))
 exact ⟨h.y.kept (kp _ h.y.lt (by omega)), h.x.kept (kp _ h.x.lt (by omega)), h.n.inner i hi (fun b hb hne => kp b hb (fun e => hne (by rw [e, hg]))) hown, h.m.kept (fun b hb hB => kp b hb (by omega)),
  h.b.grown hgr h.b.size (fun g' hg' => by injection hg' with e; omega), Nat.le_trans h.hz hgr.size, h.yh⟩
theorem St2.cells {w wr w4 w5 : World} {Y H : Nat} {v vn : Value} {us un : List Raw} {ls ns : List (List Word)} {o : Obj} (h : St2 w wr Y H v vn us un ls ns) (hb4 : Below wr.heap.size wr w4) (hg : (w4.alloc o).grownBy w5 vn.ownBlock) : w5.cell? ⟨Y, 1, none⟩ = some vn ∧ ∀ o, w5.frozen? ⟨Y, o, none⟩ = false := by
 have y5 : TBox w5 Y v vn := (h.y.below hb4).kept ((hg.block Y (by have := h.y.lt; have := hb4.size; simp; omega) (fun e => by have := h.m.mv Y e.symm; have := h.yh; omega)).trans (Below.heap_alloc w4 o Y (by have := h.y.lt; have := hb4.size; omega)))
 exact ⟨y5.c1, y5.fz⟩
theorem St2.push {w wr w4 w5 : World} {Y H : Nat} {v vn v' : Value} {us un : List Raw} {ls ns : List (List Word)} {u : Raw} {p : List Word} {o : Obj} (h : St2 w wr Y H v vn us un ls ns) (hY : w.heap.size < Y) (hb4 : Below wr.heap.size wr w4) (hu : Own w4 wr.heap.size 104 u.v p)
  (hown : Own w5 0 99 v' (un ++ [u])) (hg : (w4.alloc o).grownBy w5 vn.ownBlock) (hat : v'.ownBlock = vn.ownBlock ∨ v'.ownBlock = some (w4.alloc o).heap.size) :
  St2 w (w5.setCell ⟨Y, 1, none⟩ v') Y H v v' us (un ++ [u]) ls (ns ++ [p]) := by
 have hylt := h.y.lt
 have hz := hb4.size
 have hzH := h.hz
 have hyH := h.yh
 have hvB : ∀ g, vn.ownBlock = some g → H ≤ g := h.m.mv
 have keep : ∀ b, b < w4.heap.size → some b ≠ vn.ownBlock → w5.heap[b]? = w4.heap[b]? := fun b hb hne => (hg.block b (by simp; omega) hne).trans (Below.heap_alloc w4 o b hb)
 have y5 : TBox w5 Y v vn := (h.y.below hb4).kept (keep Y (by omega) (fun e => by have := hvB Y e.symm; omega))
 have x5 : TBox w5 w.heap.size (.slice none 0 0) (.slice none 0 0) := (h.x.below hb4).kept (keep _ (by omega) (fun e => by have := hvB _ e.symm; omega))
 have n5 : Nest w5 (fun g => Y < g ∧ g < H) _ _ v us ls := (h.n.below hb4).kept fun g hg' hB => keep g hg' (fun e => by have := hvB _ e.symm; omega)
 have m5 : Nest w5 (fun g => H ≤ g) _ _ v' (un ++ [u]) (ns ++ [p]) :=
  (Nest.push (B := fun g => H ≤ g ∧ g < wr.heap.size) (B' := fun g => H ≤ g) (H := (w4.alloc o).heap.size) ((h.m.mono fun g hg' hB => ⟨hB, hg'⟩).below hb4) (hu.re (Nat.zero_le _)) (fun g hg' => by have := hu.fit rfl g hg'; exact ⟨fun hh => by have := hh.2; omega, by omega⟩) keep hown hat (by simp) (fun g hh => hh.1) (by simp; omega))
 have b4 : Below w.heap.size w w4 := h.b.trans (hb4.mono h.b.size)
 have b5 : Below w.heap.size w w5 := (b4.alloc b4.size o).grown hg (by have := b4.size; simp; omega) (fun g hg' => by have := hvB g hg'; omega)
 have hz5 := hg.size
 refine ⟨y5.set1 v', x5.other (by omega) v', n5.kept fun g hg' hB => heap_set w5 Y 1 v' (by omega), m5.kept fun g hg' hB => heap_set w5 Y 1 v' (by omega), b5.setCell (p := ⟨Y, 1, none⟩) (by show w.heap.size ≤ Y; omega) v', ?_, h.yh⟩
 have : (w4.alloc o).heap.size = w4.heap.size + 1 := by simp
 simp only [World.size_setCell]; omega
theorem St2.below {w wr w' : World} {Y H : Nat} {v vn : Value} {us un : List Raw} {ls ns : List (List Word)} (h : St2 w wr Y H v vn us un ls ns) (hb : Below wr.heap.size wr w') : St2 w w' Y H v vn us un ls ns :=
 ⟨h.y.below hb, h.x.below hb, h.n.below hb, h.m.below hb, h.b.trans (hb.mono h.b.size), Nat.le_trans h.hz hb.size, h.yh⟩
theorem GText.next {ls ns : List (List Word)} (h : GText ls ns) (k : Nat) (hk : k < ls.length) {q p : List Word} (hq : Referred ls[k] ((ns.length : Int) + 1) true q) (hl : ∀ p ∈ ls.drop (k + 1), noNote p) (hp : Fresh 12 p) (h3 : ns.length + 1 ≤ 3) : GText (ls.set k q) (ns ++ [p]) := by
 rcases hq with ⟨h0, _⟩ | ⟨_, i, hi, h0, rfl⟩
 ·cases h0
 ·have hpk := h.p ls[k] (List.getElem_mem hk)
  refine ⟨by rw [List.length_set]; exact h.l1, by rw [List.length_set]; exact h.l4, by simp; omega, fun r hr => ?_, fun r hr => ?_, ?_⟩
  ·rcases List.mem_or_eq_of_mem_set hr with hr | rfl
   ·exact h.p r hr
   ·rw [List.length_set]
    refine ⟨hpk.1, hpk.2.1, fun x hx => ?_⟩
    rcases List.mem_or_eq_of_mem_set hx with hx | rfl
    ·exact hpk.2.2 x hx
    ·exact (show Good ls[k][i] from hpk.2.2 _ (List.getElem_mem hi))
  ·rcases List.mem_append.1 hr with hr | hr
   ·exact h.q r hr
   ·rw [List.mem_singleton] at hr; subst hr; exact hp
  ·rw [seq_set ls k i hk hi _ (by omega) hl h0, h.s, List.length_append, List.length_singleton, List.range_succ, List.map_append]; rfl
theorem St2.stay {w wr w' : World} {Y H : Nat} {v vn : Value} {us un : List Raw} {ls ns : List (List Word)} (h : St2 w wr Y H v vn us un ls ns) (hY : w.heap.size < Y) (i : Nat) (hi : i < us.length) (hi' : i < ls.length) {q : List Word} {g : Nat} {m : Int} (hg : us[i].v.ownBlock = some g)
  (hq : Referred ls[i] m false q) (hown : Own w' 0 104 us[i].v q) (hgr : wr.grownBy w' (some g)) : St2 w w' Y H v vn us un ls ns := by
 rcases hq with ⟨_, rfl⟩ | ⟨h0, _⟩
 ·have := h.inner hY i hi hg hown hgr
  rwa [List.set_getElem_self] at this
 ·cases h0
end Go.Proofs.YtakaielemicpkaaGreatDoor
namespace Go.Proofs.YtakaielemicpkaaGreatDoor
open Go.RowKit
def IsText (w : World) (e : Ending) (w' : World) : Prop :=
 ∃ v vn ls ns, e = .returned (.agg #[v, vn]) ∧ GText ls ns ∧ (∃ B us un, Nest w' (fun g => w.heap.size ≤ g ∧ g < B) 99 104 v us ls ∧ Nest w' (fun g => B ≤ g) 99 104 vn un ns) ∧ Below w.heap.size w w'
set_option maxRecDepth 100000 in
set_option maxHeartbeats 4000000 in
theorem text_any (A : Option Addr) (c : Nat) (l : List Int) (w : World) (hl : Sl w (fun b => b < w.heap.size) A c l) :
  Calls Tryz.prog 61 #[.slice A l.length c] w (IsText w) := by
 have hb0 := ((Below.refl w.heap.size w).alloc (Nat.le_refl _) (.cells #[.slice none 0 0, .slice none 0 0] 50))
 have hb1 := hb0.alloc (by simp) (.cells #[.slice none 0 0, .slice none 0 0] 50)
 have HB := Lh hb1
 have HL := Lh hl
 clear hl hb0 hb1
 go_enter Tryz.func61, Tryz.ntmps61
 go_wp2_with fail
 have hx : TBox ((w.alloc (.cells #[.slice none 0 0, .slice none 0 0] 50)).alloc (.cells #[.slice none 0 0, .slice none 0 0] 50)) w.heap.size (.slice none 0 0) (.slice none 0 0) := ⟨(Below.heap_alloc _ _ _ (by simp)).trans (heap_at rfl)⟩
 have hy : TBox ((w.alloc (.cells #[.slice none 0 0, .slice none 0 0] 50)).alloc (.cells #[.slice none 0 0, .slice none 0 0] 50)) (w.heap.size + 1) (.slice none 0 0) (.slice none 0 0) := ⟨heap_at (by simp)⟩
 generalize ((w.alloc (.cells #[.slice none 0 0, .slice none 0 0] 50)).alloc (.cells #[.slice none 0 0, .slice none 0 0] 50)) = w1 at *
 have S0 : St1 w w1 (w.heap.size + 1) 0 (.slice none 0 0) [] [] := ⟨hy, hx, Nest.nil _ _ _ _, rfl, fun _ h => (by cases h), HB.out⟩
 have HS0 := Lh S0
 clear hx hy S0
 have hYX : w.heap.size < w.heap.size + 1 := by omega
 generalize w.heap.size + 1 = Y at *
 refine (pick_any A c l 1 4 _ (HL.out.to HB.out) (by decide) (by decide) (by decide)).mono ?_
 rintro e w' ⟨r0, rfl, hr0, rfl⟩
 clear HB
 go_wp2_with fail
 go_loopw [5] (fun i wr => ∃ k : Nat, k ≤ 4 ∧ i = .int .i64 k ∧ ∃ v us ls, Hid (St1 w wr Y k v us ls)) (fun i _ => 5 - (intOf i).toNat)
 case atStart => exact ⟨0, by omega, rfl, _, _, _, HS0⟩
 case round =>
  obtain ⟨k, hk, rfl, v, us, ls, hst⟩ := hrel
  have hk0 : 0 ≤ (k : Int) := by omega
  go_wp2_with fail
  refine (pick_any A c l 0 4 _ (HL.out.to hst.out.b) (by decide) (by decide) (by decide)).mono ?_
  rintro e w' ⟨r, rfl, hr, rfl⟩
  by_cases hkr : k ≤ r
  ·have hkr' : (k : Int) ≤ (r : Int) := by omega
   have hk3 : (k : Int) ≤ 3 := by omega
   have hle : us.length ≤ 4 := by have := hst.out.n.len; have := hst.out.l; omega
   obtain ⟨A1, c1, rfl, _, _⟩ := hst.out.n.own.form
   have t0 := hst.out.y.c0
   have hsz := hst.out.b.size
   have hw2 : IntKind.i64.wrap (2 + (k : Int)) = 2 + (k : Int) := by rw [IntWalk.i64_in _ (by omega)]
   have hw3 : 0 ≤ 2 + (k : Int) := by omega
   go_wp2_with fail
   go_region_law (first
    |(rw [if_pos (by rfl)]; go_simp; go_at_call 30; refine (pick_any A c l (2 + (k : Int)) 1000000 _ (HL.out.to hst.out.b.drew) (by decide) (by decide) hw3).mono ?_; rintro e w' ⟨r2, rfl, hr2, rfl⟩)
    |(rw [if_pos (by rfl)]; go_simp; go_at_call 84; refine (part_any r2 40 (by omega) (by decide) (by decide) _).mono ?_; rintro e w4 ⟨vp, rfl, p, hown4, hplen, hpg, hb4'⟩; have hb4 := (Below.refl wr.heap.size wr).drew.trans hb4'; clear hb4'; have t4 := (hb4.cell (p := ⟨Y, 0, none⟩) hst.out.y.lt).trans t0; obtain ⟨Ap, cp, rfl, _, _⟩ := hown4.form; have HPL := Lh hplen; have HPG := Lh hpg; clear hplen hpg; have n4 := fun ob => ((hst.out.y.below hb4).below ((Below.refl _ _).alloc (Nat.le_refl _) ob)).c0)
    |((refine step_push (α := Raw) _ (by rfl) (.tmp 18) (.tmp 24) 48 (by rfl) 0 99 (.slice none 0 0) 24 Tryz.underlying48 raw_info rfl (by decide) _ us (by rfl) ((hst.out.n.own.below hb4).alloc _) w4.heap.size _ ⟨.slice Ap p.length cp, rfl⟩ (0, 0) 99 (by rfl) (heap_alloc_new w4 _) rfl (by omega) (by omega) (by simp) _ rfl ?_); intro g cap w5 hown5 hg5 hat5 hlt5; obtain ⟨t5, z5⟩ := St1.cell hst.out hYX hb4 hg5)
    | fail)
   all_goals go_wp2_with fail
   all_goals go_roundw
   all_goals first
    | exact ⟨k + 1, by omega, by go_num, _, _, _, St1.push (u := ⟨.slice Ap p.length cp, rfl⟩) hst.out hYX hb4 (hown4.re (Nat.le_refl _)) ⟨by rw [HPL.out]; omega, by rw [HPL.out]; omega, HPG.out⟩ hown5 hg5 (by rcases hat5 with e | e; exact .inl e.symm; exact .inr (by rw [e]; rfl))⟩
    |(simp [intOf]; omega)
  ·have hkr' : ¬ (k : Int) ≤ (r : Int) := by omega
   have hk1 : 1 ≤ k := by omega
   have hst2 := Lh hst.out.next
   have hl4 := hst.out.l
   have hf := Lh hst.out.f
   have HT : Hid (GText ls []) := Lh ⟨by omega, by omega, by simp, fun p hp => ⟨(hf.out p hp).1, (hf.out p hp).2.1, fun x hx => ((hf.out p hp).2.2 x hx).1⟩, fun p hp => (by cases hp), seqOf_none fun p hp x hx => ((hf.out p hp).2.2 x hx).2⟩
   clear hst hf
   generalize wr.heap.size = H at *
   go_wp2_with fail
   go_loopw [6, 7, 8] (fun i _ _ wr => ∃ k : Nat, k ≤ r0 ∧ i = .int .i64 k ∧ ∃ ls ns vn un, Hid (St2 w wr Y H v vn us un ls ns) ∧ Hid (GText ls ns) ∧ ns.length ≤ k) (fun i _ _ _ => r0 - (intOf i).toNat)
   case atStart => exact ⟨0, by omega, rfl, ls, [], _, [], hst2, HT, by simp⟩
   case round =>
    clear hst2 HT hl4
    obtain ⟨k2, hk2, rfl, ls, ns, vn, un, hst, hgt, hnk⟩ := hrel
    have hk20 : 0 ≤ (k2 : Int) := by omega
    by_cases hlt : k2 < r0
    ·have hlt' : (k2 : Int) < (r0 : Int) := by omega
     have hw6 : IntKind.i64.wrap (6 + (k2 : Int)) = 6 + (k2 : Int) := by rw [IntWalk.i64_in _ (by omega)]
     have hw60 : 0 ≤ 6 + (k2 : Int) := by omega
     go_wp2_with fail
     refine (pick_any A c l (6 + (k2 : Int)) 1000000 _ (HL.out.to hst.out.b) (by decide) (by decide) (by omega)).mono ?_
     rintro e w' ⟨r2, rfl, hr2, rfl⟩
     have hlens : ∀ p ∈ ls, p.length < 9223372036854775808 := fun p hp => by have := (hgt.out.p p hp).2.1; omega
     have hlensn : ∀ p ∈ ns, p.length < 9223372036854775808 := fun p hp => by have := (hgt.out.q p hp).2.1; omega
     obtain ⟨A1, c1, rfl, _⟩ := hst.out.n.sl hlens
     obtain ⟨A2, c2, rfl, _⟩ := hst.out.m.sl hlensn
     have HLS := Lh hlens
     have hn3 : ns.length ≤ 3 := by omega
     have hl4 := hgt.out.l4
     have hwn : IntKind.i64.wrap ((ns.length : Int) + 1) = (ns.length : Int) + 1 := by rw [IntWalk.i64_in _ (by omega)]
     clear hlens hlensn
     go_wp2_with fail
     go_loopw [8] (fun i wr3 => ∃ j : Nat, j ≤ ls.length ∧ i = .int .i64 j ∧ Hid (St2 w wr3 Y H (.slice A1 ls.length c1) (.slice A2 ns.length c2) us un ls ns)) (fun i _ => ls.length - (intOf i).toNat)
     case atStart => exact ⟨0, by omega, rfl, hst⟩
     case round =>
      clear hst
      obtain ⟨j, hj, rfl, hst⟩ := hrel
      have t0 := hst.out.y.c0
      have t1 := hst.out.y.c1
      have hj0 : 0 ≤ (j : Int) := by omega
      have hj4 : (j : Int) ≤ 4 := by omega
      by_cases hjl : j < ls.length
      ·have hjl' : (j : Int) < (ls.length : Int) := by omega
       obtain ⟨gv, cap, hu, ev, hgl, hB, _, hcell, hfz⟩ := hst.out.n.at_ hjl
       obtain ⟨rfl, rfl⟩ : A1 = some ⟨gv, 0, none⟩ ∧ c1 = cap := by have := Value.slice.inj ev; exact ⟨this.1, this.2.2⟩
       have hpj := hgt.out.p ls[j] (List.getElem_mem hjl)
       obtain ⟨gk, capk, es, ek, _, hgk, hrest⟩ := (hst.out.n.inn j hu hjl).at_ (k := 0) (by omega)
       clear hrest
       have hrow := hst.out.n.inn j hu hjl
       have EK := Lh (show us[j].v.ownBlock = some gk by rw [ek]; rfl)
       rw [ek] at hcell
       have HEK := Lh ek
       rw [ek] at hrow
       have HROW := Lh hrow
       have hlj : ls[j].length ≤ 40 := hpj.2.1
       obtain ⟨As, cs, es2, hsl⟩ := hst.out.n.sl HLS.out
       obtain ⟨rfl, rfl⟩ : As = some ⟨gv, 0, none⟩ ∧ cs = c1 := by have := Value.slice.inj es2; exact ⟨this.1.symm, this.2.2.symm⟩
       have HSL := Lh hsl
       have hYg : some Y ≠ some gk := fun e => by have := (hst.out.n.mi j hu gk EK.out).1; injection e with e; omega
       have hvg : some gv ≠ some gk := hst.out.n.ne j hu gk EK.out
       clear ev es2 hsl hrow ek hfz
       go_wp2_with fail
       go_region_held3 (fun w' => w'.cell? ⟨Y, 0, none⟩ = some (.slice (some ⟨gv, 0, none⟩) ls.length cs) ∧ w'.cell? ⟨Y, 1, none⟩ = some (.slice A2 ns.length c2) ∧ w'.cell? ⟨gv, j, none⟩ = some (.slice (some ⟨gk, 0, none⟩) ls[j].length capk)) (go_keep)
        (first
         |(go_at_call 86; refine (last_any _ _ ls j _ HSL.out.drew (by omega)).mono ?_; rintro e w5 ⟨b5, rfl, hb5, rfl⟩)
         |(go_at_call 85; refine (refer_any gk capk ls[j] r2 ((ns.length : Int) + 1) b5 _ HROW.out.drew (by omega) (by omega) (by omega) (by omega)).mono ?_; rintro e w6 ⟨b6, rfl, q6, hq6, hl6, hlq6, hown6, hg6⟩; have hg6' := (grown_drew (World.grownBy.refl wr (some gk))).trans hg6; have f0 := hg6'.cell t0 hYg; have f1 := hg6'.cell t1 hYg; have f2 := hg6'.cell hcell hvg)
         | fail)
       clear hcell f2 hYg hvg
       cases b6 with
       | false =>
        have hst2 := Lh (hst.out.stay hYX j hu hjl EK.out hq6 (by rw [HEK.out]; exact hown6) hg6')
        clear hq6 hb5 hl6 hlq6 hown6 hg6 hg6' t0 t1 hwn
        unfold Exit.then
        go_wp2_with fail
        go_roundw
        case rel => exact ⟨j + 1, by omega, by go_num, hst2⟩
        case measure => simp [intOf]; omega
       | true =>
        have hst2 := Lh (hst.out.inner hYX j hu EK.out (by rw [HEK.out]; exact hown6) hg6')
        have HLF := Lh (hb5 (hl6 rfl))
        have HQ6 := Lh hq6
        clear hq6 hb5 hl6 hlq6 hown6 hg6 hg6' t0 t1 hwn
        unfold Exit.then
        go_wp2_with fail
        go_region_law (first
         |(rw [if_pos (by rfl)]; go_simp; go_at_call 84; refine (part_any r2 12 (by omega) (by decide) (by decide) _).mono ?_; rintro e w7 ⟨vp, rfl, p, hown7, hplen, hpg, hb7'⟩; have hb7 := (Below.refl w6.heap.size w6).drew.trans hb7'; clear hb7'; have t7 := (hb7.cell (p := ⟨Y, 1, none⟩) hst2.out.y.lt).trans f1; obtain ⟨Ap, cp, rfl, _, _⟩ := hown7.form; have HPL := Lh hplen; have HPG := Lh hpg; clear hplen hpg; have n7 := fun ob => ((hst2.out.y.below hb7).below ((Below.refl _ _).alloc (Nat.le_refl _) ob)).c1)
         |((refine step_push (α := Raw) _ (by rfl) (.tmp 67) (.tmp 70) 48 (by rfl) 0 99 (.slice none 0 0) 24 Tryz.underlying48 raw_info rfl (by decide) _ un (by rfl) ((hst2.out.m.own.below hb7).alloc _) w7.heap.size _ ⟨.slice Ap p.length cp, rfl⟩ (0, 0) 99 (by rfl) (heap_alloc_new w7 _) rfl (by have := hst2.out.m.len; omega) (by have := hst2.out.m.len; omega) (by simp) _ rfl ?_); intro g cap8 w8 hown8 hg8 hat8 hlt8; obtain ⟨t8, z8⟩ := St2.cells hst2.out hb7 hg8)
         | fail)
        all_goals go_wp2_with fail
        all_goals go_roundw
        all_goals first
         | exact ⟨k2 + 1, by omega, by go_num, _, _, _, _, St2.push (u := ⟨.slice Ap p.length cp, rfl⟩) hst2.out hYX hb7 (hown7.re (Nat.le_refl _)) hown8 hg8 (by rcases hat8 with e | e; exact .inl e.symm; exact .inr (by rw [e]; rfl)), hgt.out.next j hjl HQ6.out HLF.out ⟨by rw [HPL.out]; omega, by rw [HPL.out]; omega, HPG.out⟩ (by omega), by simp; omega⟩
         |(simp [intOf]; omega)
      ·have hjl' : ¬ (j : Int) < (ls.length : Int) := by omega
       go_wp2_with fail
       go_quiet (fail)
       have hst2 := Lh (hst.out.below (Below.dn (Below.refl _ _) nq))
       go_wp2_with fail
       go_roundw
       case rel => exact ⟨k2 + 1, by omega, by go_num, ls, ns, _, un, hst2, hgt, by omega⟩
       case measure => simp [intOf]; omega
    ·have hlt' : ¬ (k2 : Int) < (r0 : Int) := by omega
     have hlens : ∀ p ∈ ls, p.length < 9223372036854775808 := fun p hp => by have := (hgt.out.p p hp).2.1; omega
     have hlensn : ∀ p ∈ ns, p.length < 9223372036854775808 := fun p hp => by have := (hgt.out.q p hp).2.1; omega
     obtain ⟨A1, c1, rfl, _⟩ := hst.out.n.sl hlens
     obtain ⟨A2, c2, rfl, _⟩ := hst.out.m.sl hlensn
     have t0 := hst.out.y.c0
     have t1 := hst.out.y.c1
     have x0 := hst.out.x.c0
     have x1 := hst.out.x.c1
     have hfz := hst.out.x.fz
     have hz := hst.out.b.size
     have hyx := hst.out.y.lt
     go_wp2_with fail
     refine bodyPost_ret (v := .agg #[.slice A1 ls.length c1, .slice A2 ns.length c2]) (by simp [results, Tryz.results61, go_sem, x0, x1]) rfl ⟨_, _, ls, ns, rfl, hgt.out, ⟨H, us, un, ?_, ?_⟩, ?_⟩
     ·exact (hst.out.n.kept fun g hg hB => ((heap_set _ _ 1 _ (by omega)).trans (heap_set _ _ 0 _ (by omega)))).mono fun g _ hB => ⟨by omega, hB.2⟩
     ·exact hst.out.m.kept fun g hg hB => by have := hst.out.yh; exact ((heap_set _ _ 1 _ (by omega)).trans (heap_set _ _ 0 _ (by omega)))
     ·exact (hst.out.b.setCell (p := ⟨w.heap.size, 0, none⟩) (Nat.le_refl _) _).setCell (p := ⟨w.heap.size, 1, none⟩) (Nat.le_refl _) _
end Go.Proofs.YtakaielemicpkaaGreatDoor
namespace Go.Proofs.YtakaielemicpkaaGreatDoor
open Go.RowKit
theorem tot_bd (m : Nat) : ∀ (l : List (List Word)), (∀ p ∈ l, p.length ≤ m) → tot l ≤ l.length * m
 | [], _ => by simp [tot]
 | p :: l, h => by
  have h1 := h p (List.mem_cons_self ..)
  have h2 := tot_bd m l (fun q hq => h q (List.mem_cons_of_mem _ hq))
  have e : tot (p :: l) = p.length + tot l := by unfold tot; rw [List.flatten_cons, List.length_append]
  rw [e, List.length_cons, Nat.add_mul, Nat.one_mul]; omega
theorem GText.tot {ls ns : List (List Word)} (h : GText ls ns) : tot (ls ++ ns) ≤ 196 := by
 rw [tot_append]
 have h1 := tot_bd 40 ls (fun p hp => (h.p p hp).2.1)
 have h2 := tot_bd 12 ns (fun p hp => (h.q p hp).2.1)
 have h3 : ls.length * 40 ≤ 4 * 40 := Nat.mul_le_mul_right _ h.l4
 have h4 : ns.length * 12 ≤ 3 * 12 := Nat.mul_le_mul_right _ h.n3
 omega
structure TX (w : World) (A : Option Addr) (c : Nat) (B : Option Addr) (d : Nat) (a b : List (List Word)) : Prop where
 sa : Sl w (fun b => b < w.heap.size) A c a
 sb : Sl w (fun b => b < w.heap.size) B d b
 la : a.length ≤ 1048576
 lb : b.length ≤ 1048576
 t : tot (a ++ b) ≤ 1048576
theorem GText.lens {ls ns : List (List Word)} (h : GText ls ns) : (∀ p ∈ ls, p.length < 9223372036854775808) ∧ (∀ p ∈ ns, p.length < 9223372036854775808) :=
 ⟨fun p hp => by have := (h.p p hp).2.1; omega, fun p hp => by have := (h.q p hp).2.1; omega⟩
def up : Int → Nat → List Int
 | _, 0 => []
 | a, m + 1 => (a + 1) :: up (a + 1) m
theorem up_range : ∀ (n : Nat) (a : Int), (List.range n).map (fun i : Nat => a + ((i : Int) + 1)) = up a n
 | 0, _ => rfl
 | n + 1, a => by
  rw [List.range_succ_eq_map, List.map_cons, List.map_map, up, ← up_range n (a + 1)]
  congr 1
  apply List.map_congr_left
  intro i _
  simp only [Function.comp]; omega
theorem up_split : ∀ (l1 l2 : List Int) (a : Int) (m : Nat), l1 ++ l2 = up a m → l1 = up a l1.length ∧ l2 = up (a + l1.length) l2.length ∧ m = l1.length + l2.length
 | [], l2, a, m, h => by
  have hl : l2.length = m := by
   have : ∀ (m : Nat) (a : Int), (up a m).length = m := by
    intro m
    induction m with
    | zero => intro a; rfl
    | succ m ih => intro a; rw [up, List.length_cons, ih]
   have h' := congrArg List.length h
   rw [this] at h'
   simpa using h'
  subst hl
  refine ⟨rfl, ?_, by simp⟩
  simpa using h
 | x :: l1, l2, a, 0, h => by simp [up] at h
 | x :: l1, l2, a, m + 1, h => by
  rw [List.cons_append, up] at h
  obtain ⟨h1, h2⟩ := List.cons.inj h
  obtain ⟨e1, e2, e3⟩ := up_split l1 l2 (a + 1) m h2
  refine ⟨by rw [List.length_cons, up, ← e1, h1], ?_, by rw [List.length_cons]; omega⟩
  rw [List.length_cons, show a + ((l1.length + 1 : Nat) : Int) = a + 1 + l1.length by omega]
  exact e2
theorem seqOf_cons (x : Word) (r : List Word) : seqOf (x :: r) = if x.n = 0 then seqOf r else x.n :: seqOf r := by
 unfold seqOf
 rw [List.map_cons]
 by_cases h : x.n = 0
 ·rw [if_pos h, List.filter_cons_of_neg (by simp [h])]
 ·rw [if_neg h, List.filter_cons_of_pos (by simp [h])]
def Fine (x : Word) : Prop := badW x = false ∧ (x.t = 0 ∨ x.t = 1)
theorem scanW_fine {np nn i : Nat} (hi : i < np) : ∀ (p : List Word) (notes : Int) (m : Nat), (∀ x ∈ p, Fine x) → seqOf p = up notes m → notes + m ≤ nn → scanW np nn i notes p = (0, notes + m)
 | [], notes, m, _, hs, _ => by
  have : m = 0 := by
   cases m with
   | zero => rfl
   | succ m => simp [seqOf, up] at hs
  subst this; simp [scanW]
 | x :: r, notes, m, hf, hs, hn => by
  have hx := hf x (List.mem_cons_self ..)
  have hr : ∀ y ∈ r, Fine y := fun y hy => hf y (List.mem_cons_of_mem _ hy)
  rw [seqOf_cons] at hs
  by_cases h0 : x.n = 0
  ·rw [if_pos h0] at hs
   rw [scanW, step_plain hx.1 hx.2 h0, if_pos rfl]
   exact scanW_fine hi r notes m hr hs hn
  ·rw [if_neg h0] at hs
   cases m with
   | zero => simp [up] at hs
   | succ m =>
    rw [up] at hs
    obtain ⟨h1, h2⟩ := List.cons.inj hs
    rw [scanW, step_note hx.1 hx.2 h0 (by rintro (h | h | h) <;> omega), if_pos rfl]
    rw [scanW_fine hi r (notes + 1) m hr h2 (by omega)]
    simp only [Prod.mk.injEq, true_and]; omega
theorem scanW_none {np nn i : Nat} : ∀ (p : List Word) (notes : Int), (∀ x ∈ p, Fine x ∧ x.n = 0) → scanW np nn i notes p = (0, notes)
 | [], notes, _ => rfl
 | x :: r, notes, hf => by
  have hx := hf x (List.mem_cons_self ..)
  rw [scanW, step_plain hx.1.1 hx.1.2 hx.2, if_pos rfl]
  exact scanW_none r notes (fun y hy => hf y (List.mem_cons_of_mem _ hy))
theorem scanP_none {np nn : Nat} : ∀ (l : List (List Word)) (i : Nat) (notes : Int), (∀ p ∈ l, ∀ x ∈ p, Fine x ∧ x.n = 0) → scanP np nn i notes l = (0, notes)
 | [], _, _, _ => rfl
 | p :: r, i, notes, hf => by
  rw [scanP, scanW_none p notes (hf p (List.mem_cons_self ..)), if_pos rfl]
  exact scanP_none r (i + 1) notes (fun q hq => hf q (List.mem_cons_of_mem _ hq))
theorem scanP_fine {np nn : Nat} (R : List (List Word)) : ∀ (l : List (List Word)) (i : Nat) (notes : Int) (m : Nat), i + l.length ≤ np → (∀ p ∈ l, ∀ x ∈ p, Fine x) → seqOf l.flatten = up notes m → notes + m ≤ nn → scanP np nn i notes (l ++ R) = scanP np nn (i + l.length) (notes + m) R
 | [], i, notes, m, _, _, hs, _ => by
  have : m = 0 := by
   cases m with
   | zero => rfl
   | succ m => simp [seqOf, up] at hs
  subst this; simp
 | p :: r, i, notes, m, hi, hf, hs, hn => by
  rw [List.length_cons] at hi
  rw [List.flatten_cons, seqOf_append] at hs
  obtain ⟨e1, e2, e3⟩ := up_split _ _ _ _ hs
  have h1 := scanW_fine (np := np) (nn := nn) (i := i) (by omega) p notes _ (hf p (List.mem_cons_self ..)) e1 (by omega)
  rw [List.cons_append, scanP, h1, if_pos rfl]
  rw [scanP_fine R r (i + 1) _ _ (by omega) (fun q hq => hf q (List.mem_cons_of_mem _ hq)) e2 (by omega)]
  rw [List.length_cons]
  congr 1
  ·omega
  ·omega
theorem chk_fine (ls ns : List (List Word)) (h1 : ls.length ≤ 100) (h2 : ns.length ≤ 100) (hl : ∀ p ∈ ls ++ ns, 1 ≤ p.length ∧ p.length ≤ 500) (hf : ∀ p ∈ ls, ∀ x ∈ p, Fine x) (hn : ∀ p ∈ ns, ∀ x ∈ p, Fine x ∧ x.n = 0) (hs : seqOf ls.flatten = up 0 ns.length) : chkOf ls ns = 0 := by
 have a1 : anyLen longP (ls ++ ns) = false := by
  unfold anyLen
  rw [List.any_eq_false]
  intro p hp
  have := (hl p hp).2
  simp [longP]; omega
 have a2 : anyLen emptyP (ls ++ ns) = false := by
  unfold anyLen
  rw [List.any_eq_false]
  intro p hp
  have := (hl p hp).1
  simp [emptyP]
  intro e; rw [e] at this; simp at this
 unfold chkOf
 rw [if_neg (by rw [a1]; simp; omega), if_neg (by rw [a2]; simp)]
 rw [scanP_fine ns ls 0 0 ns.length (by omega) hf hs (by omega), scanP_none ns _ _ hn]
 unfold endP
 rw [if_neg (by simp), if_neg (by simp)]
theorem Good.fine {x : Word} (h : Good x) : Fine x := by
 refine ⟨?_, h.2.2⟩
 by_cases hk : x.key = ⟨#[]⟩
 ·exact good_nokey h.1 hk
 ·exact good_key h.1 (h.2.1.resolve_left hk)
theorem GText.seq {ls ns : List (List Word)} (h : GText ls ns) : seqOf ls.flatten = up 0 ns.length := by
 rw [h.s, ← up_range]
 apply List.map_congr_left
 intro i _; omega
theorem GText.chk {ls ns : List (List Word)} (h : GText ls ns) : chkOf ls ns = 0 :=
 chk_fine ls ns (by have := h.l4; omega) (by have := h.n3; omega)
  (fun p hp => by
   rcases List.mem_append.1 hp with hp | hp
   ·have := h.p p hp; exact ⟨this.1, by have := this.2.1; omega⟩
   ·have := h.q p hp; exact ⟨this.1, by have := this.2.1; omega⟩)
  (fun p hp x hx => ((h.p p hp).2.2 x hx).fine) (fun p hp x hx => ⟨((h.q p hp).2.2 x hx).1.fine, ((h.q p hp).2.2 x hx).2⟩) h.seq
end Go.Proofs.YtakaielemicpkaaGreatDoor
namespace Go.Proofs.YtakaielemicpkaaGreatDoor
open Go.RowKit
theorem notesP_append (a b : List Word) : notesP (a ++ b) = notesP a ++ notesP b := by unfold notesP; rw [List.filter_append, List.map_append]
theorem cut_drop {α : Type} (l : List α) {i e : Nat} (h : i ≤ e) (he : e ≤ l.length) : cutL l i e ++ l.drop e = l.drop i := by
 unfold cutL
 have h1 : l.drop i = (l.take e ++ l.drop e).drop i := by rw [List.take_append_drop]
 rw [h1, List.drop_append_of_le_length (by rw [List.length_take]; omega)]
def endsF : Nat → Nat → List Nat → Prop
 | i, n, [] => i = n
 | i, n, e :: es => i < e ∧ e ≤ n ∧ endsF e n es
theorem chainE_full (es : List Nat) (n : Nat) (he : ∀ i, i < n → i < es.getD i 0 ∧ es.getD i 0 ≤ n) : ∀ f i, n - i ≤ f → i ≤ n → endsF i n (chainE es n f i)
 | 0, i, hf, hi => by
  show i = n
  omega
 | f + 1, i, hf, hi => by
  rw [chainE]
  split
  ·rename_i h
   obtain ⟨h1, h2⟩ := he i h
   exact ⟨h1, h2, chainE_full es n he f _ (by omega) h2⟩
  ·show i = n
   omega
theorem endsP_full {ws : List Word} {m : Int} (hr : Reg (widthsP ws) m) : endsF 0 ws.length (endsP (widthsP ws) m) := by
 have hl : (widthsP ws).length = ws.length := by unfold widthsP; simp
 have h := chainE_full _ _ (endsP_he hr) (widthsP ws).length 0 (by omega) (Nat.zero_le _)
 rw [← hl]
 exact h
theorem linesFrom_notes (ws : List Word) (wd : List Int) (m first : Int) : ∀ (es : List Nat) (i : Nat), endsF i ws.length es → (linesFrom ws wd m first i es).flatMap (·.notes) = notesP (ws.drop i)
 | [], i, h => by
  have : i = ws.length := h
  subst this
  simp [linesFrom, notesP]
 | e :: es, i, h => by
  obtain ⟨h1, h2, h3⟩ := h
  rw [linesFrom, List.flatMap_cons, linesFrom_notes ws wd m first es e h3]
  show notesP (cutL ws i e) ++ notesP (ws.drop e) = _
  rw [← notesP_append, cut_drop ws (Nat.le_of_lt h1) h2]
theorem setP_notes {ws : List Word} {m : Int} (first : Int) (hr : Reg (widthsP ws) m) : (setP ws first m).flatMap (·.notes) = notesP ws := by
 unfold setP
 have h := endsP_full hr
 rw [linesFrom_notes ws _ m first _ 0 h, List.drop_zero]
theorem parts_notes {m : Int} : ∀ (a : List (List Word)) (first : Int), (∀ p ∈ a, Reg (widthsP p) m) → (partsP m first a).flatten.flatMap (·.notes) = notesP a.flatten
 | [], _, _ => rfl
 | p :: a, first, h => by
  rw [partsP, List.flatten_cons, List.flatMap_append, setP_notes first (h p (by simp)), parts_notes a _ (fun q hq => h q (by simp [hq])), List.flatten_cons, notesP_append]
theorem notesP_seq (l : List Word) : notesP l = (seqOf l).map (· - 1) := by
 induction l with
 | nil => rfl
 | cons x l ih =>
  rw [seqOf_cons]
  by_cases hx : x.n = 0
  ·rw [if_pos hx, ← ih]
   unfold notesP
   rw [List.filter_cons_of_neg (by simp [hx])]
  ·rw [if_neg hx, List.map_cons, ← ih]
   unfold notesP
   rw [List.filter_cons_of_pos (by simp [hx]), List.map_cons]
theorem nextN_up (n : Nat) : ∀ (j : Nat) (a : Int), 0 ≤ a → a + j ≤ n → nextN n a ((up a j).map (· - 1)) = some (a + j)
 | 0, a, _, _ => by simp [up, nextN]
 | j + 1, a, h0, h => by
  rw [up, List.map_cons, nextN, if_neg (by omega)]
  rw [nextN_up n j (a + 1) (by omega) (by omega)]
  congr 1; omega
theorem setP_ne {ws : List Word} {m : Int} (first : Int) (hr : Reg (widthsP ws) m) (hw : 1 ≤ ws.length) : setP ws first m ≠ [] := by
 have h := endsP_full hr
 intro e
 have h2 := linesFrom_length ws (widthsP ws) m first (endsP (widthsP ws) m) 0
 have h3 : (setP ws first m).length = 0 := by rw [e]; rfl
 unfold setP at h3
 rw [h3] at h2
 rw [List.eq_nil_of_length_eq_zero h2.symm] at h
 have : 0 = ws.length := h
 omega
theorem parts_ne {m : Int} : ∀ (a : List (List Word)) (first : Int), (∀ p ∈ a, Reg (widthsP p) m ∧ 1 ≤ p.length) → (partsP m first a).any (fun l => decide (l = [])) = false
 | [], _, _ => rfl
 | p :: a, first, h => by
  have hp := h p (by simp)
  rw [partsP, List.any_cons, parts_ne a _ (fun q hq => h q (by simp [hq])), decide_eq_false (setP_ne first hp.1 hp.2)]; rfl
theorem GText.fine {a b : List (List Word)} (hg : GText a b) : FineT a b := chk_zero hg.chk
theorem GText.textE {a b : List (List Word)} (hg : GText a b) {m h : Int} (hm : 500 ≤ m ∧ m ≤ 2000) (hh : 4 ≤ h ∧ h ≤ 100) : textE a b m h = 0 := by
 have hf := hg.fine
 have hl : linesE a b m = 0 := by unfold linesE; rw [if_neg (by rw [hg.chk]; simp), if_pos hm]
 unfold Go.Proofs.YtakaielemicpkaaGreatDoor.textE
 rw [if_neg (by rw [hl]; simp)]
 unfold pageE
 have hr : ∀ p ∈ a ++ b, Reg (widthsP p) m ∧ 1 ≤ p.length := fun p hp => ⟨hf.reg hm.1 hm.2 hp, (hf.p p hp).1⟩
 rw [if_neg (by omega)]
 have h1 : (notesLP a b m).any (fun l => decide (l = [])) = false := parts_ne b _ (fun p hp => hr p (by simp [hp]))
 rw [h1, if_neg (by simp)]
 have h2 : (bodyP a m).flatMap (·.notes) = (up 0 b.length).map (· - 1) := by
  unfold bodyP
  rw [parts_notes a 0 (fun p hp => (hr p (by simp [hp])).1), notesP_seq, hg.seq]
 have h3 : (notesLP a b m).length = b.length := partsP_length m b _
 rw [h2, h3, nextN_up b.length b.length 0 (by omega) (by omega)]
 simp
theorem GText.wrong {a b : List (List Word)} (hg : GText a b) {m h : Int} (hm : 500 ≤ m ∧ m ≤ 2000) (hh : 4 ≤ h ∧ h ≤ 100) : wrongE m h a b = 0 := by
 unfold wrongE
 rw [if_neg (by rw [hg.textE hm hh]; simp), if_neg]
 have h1 := hg.l1
 rw [tot_append]
 intro e
 have h2 : Go.Proofs.YtakaielemicpkaaGreatDoor.tot a = 0 := by omega
 obtain ⟨p, ps, rfl⟩ : ∃ p ps, a = p :: ps := by
  cases a with
  | nil => simp at h1
  | cons p ps => exact ⟨p, ps, rfl⟩
 have h3 := (hg.p p (by simp)).1
 unfold Go.Proofs.YtakaielemicpkaaGreatDoor.tot at h2
 rw [List.flatten_cons, List.length_append] at h2
 omega
theorem GText.pages {a b : List (List Word)} (hg : GText a b) {m h : Int} (hm : 500 ≤ m ∧ m ≤ 2000) (hh : 4 ≤ h ∧ h ≤ 100) : okPages a b m h = pagesOfText a b m h.toNat ∧ (okPages a b m h).length ≤ 196 := by
 have hE := hg.textE hm hh
 have he : okPages a b m h = pagesOfText a b m h.toNat := by unfold okPages; rw [if_pos hE]
 refine ⟨he, ?_⟩
 obtain ⟨hf, -, hp⟩ := textE_fine hE
 rw [he]
 have e1 := setPages_le (notesLP a b m) h.toNat (allLines (bodyP a m) (notesLP a b m)) (bodyP a m) []
 have e2 := pageE_all hp
 have e3 := parts_flat m a 0 (fun p hp => hf.reg hm.1 hm.2 (by simp [hp]))
 have e4 := parts_flat m b (Go.Proofs.YtakaielemicpkaaGreatDoor.tot a : Nat) (fun p hp => hf.reg hm.1 hm.2 (by simp [hp]))
 have e5 := hg.tot
 rw [tot_append] at e5
 unfold bodyP notesLP at *
 unfold pagesOfText bodyP notesLP
 omega
theorem GText.short {a b : List (List Word)} (hg : GText a b) : ShortT a ∧ ShortT b :=
 ⟨⟨by have := hg.l4; omega, fun p hp => by have := (hg.p p hp).2.1; omega⟩, ⟨by have := hg.n3; omega, fun p hp => by have := (hg.q p hp).2.1; omega⟩⟩
end Go.Proofs.YtakaielemicpkaaGreatDoor
namespace Go.Proofs.YtakaielemicpkaaGreatDoor
open Go.RowKit
theorem Own.slB {α : Type} [Rep α] [Flat α] {w : World} {base : Nat} {e : TypeId} {v : Value} {l : List α} (h : Own w base e v l) : ∃ A c, v = .slice A l.length c ∧ Sl w (fun b => v.ownBlock = some b) A c l := by
 obtain ⟨A, c, rfl, hs⟩ := h.sl
 refine ⟨A, c, rfl, hs.1, hs.2.1, fun hn => ?_⟩
 obtain ⟨b, o, rfl, hb, hlt, hx⟩ := hs.2.2 hn
 refine ⟨b, o, rfl, rfl, hlt, fun i hi => ?_⟩
 obtain ⟨es, hr, hc⟩ := hx i hi
 exact ⟨es, Flat.flat hr, hc⟩
theorem Nest.slB {w : World} {B : Nat → Prop} {te ti : TypeId} {v : Value} {us : List Raw} {ls : List (List Word)} (h : Nest w B te ti v us ls) (hlen : ∀ l ∈ ls, l.length < 9223372036854775808) : ∃ A c, v = .slice A ls.length c ∧ Sl w B A c ls := by
 obtain ⟨A, c, e0, hs⟩ := h.own.sl
 refine ⟨A, c, by rw [e0, h.len], by rw [← h.len]; exact hs.1, hs.2.1, fun hn => ?_⟩
 obtain ⟨b, o, rfl, hb, hlt, hx⟩ := hs.2.2 (by rw [h.len]; exact hn)
 refine ⟨b, o, rfl, h.mv b (by rw [e0]; rfl), hlt, fun i hi => ?_⟩
 have hi' : i < us.length := by rw [h.len]; exact hi
 obtain ⟨es, hr, hc⟩ := hx i hi'
 obtain ⟨A1, c1, e1, hs1⟩ := (h.inn i hi' hi).slB
 have hr' : es = [us[i].v] := hr
 exact ⟨es, ⟨A1, c1, by rw [hr', e1], hs1.mono fun g hg _ => h.mi i hi' g hg, hlen _ (List.getElem_mem hi)⟩, hc⟩
def IsT (w : World) (e : Ending) (w' : World) : Prop :=
 ∃ A c B d ls ns, e = .returned (.agg #[.slice A ls.length c, .slice B ns.length d]) ∧ GText ls ns ∧ Rep.R w' (fun b => w.heap.size ≤ b) [.slice A ls.length c, .slice B ns.length d] (⟨ls, ns⟩ : TextP) ∧ Below w.heap.size w w'
theorem IsText.own {w w' : World} {e : Ending} (h : IsText w e w') : IsT w e w' := by
 obtain ⟨v, vn, ls, ns, rfl, hg, ⟨B, us, un, h1, h2⟩, hb⟩ := h
 have hle := h1.own.lt
 have hl4 := hg.l4
 have hn3 := hg.n3
 obtain ⟨g0, _, _, _, _, hg0, _⟩ := h1.at_ (k := 0) (by have := hg.l1; omega)
 obtain ⟨A, c, rfl, hs⟩ := h1.slB hg.lens.1
 obtain ⟨A', c', rfl, hs'⟩ := h2.slB hg.lens.2
 refine ⟨A, c, A', c', ls, ns, rfl, hg, ⟨_, _, rfl, ⟨A, c, rfl, hs.mono fun i hi _ => hi.1, by dsimp only; omega⟩, ⟨A', c', rfl, hs'.mono fun i hi _ => by have : B ≤ i := hi; have := hg0.1; have := hg0.2; omega, by dsimp only; omega⟩⟩, hb⟩
set_option maxHeartbeats 1000000 in
theorem rtext_any (A : Option Addr) (c : Nat) (l : List Int) (k : Nat) (_ : k ≤ 1000) (w : World) (hl : Sl w (fun b => b < w.heap.size) A c l) :
  Calls Tryz.prog 31 #[.slice A l.length c, .int .i64 (k : Int)] w (IsT w) := by
 have hl1 := hl.1
 have hl2 : c ≤ 9223372036854775807 := hl.2.1
 obtain ⟨j, hj⟩ : ∃ j, min k l.length = j := ⟨_, rfl⟩
 have hjl : j ≤ l.length := by omega
 have hd := hl.drop j hjl
 have hm : min (k : Int) (l.length : Int) = (j : Int) := by omega
 have hlen : (l.drop j).length = l.length - j := List.length_drop
 obtain ⟨A2, hA2⟩ : ∃ A2, (if c = j then A else A.map (·.add (j * Rep.size Int))) = A2 := ⟨_, rfl⟩
 rw [hA2] at hd
 have hb0 := (Below.refl w.heap.size w).alloc (Nat.le_refl _) (.cells #[.slice none 0 0, .slice none 0 0] 50)
 have hx0 : ABox (w.alloc (.cells #[.slice none 0 0, .slice none 0 0] 50)) w.heap.size 50 [.slice none 0 0, .slice none 0 0] := heap_alloc_new w _
 have hz : (w.alloc (.cells #[.slice none 0 0, .slice none 0 0] 50)).heap.size = w.heap.size + 1 := by simp
 have HT := Lh (text_any A2 (c - j) (l.drop j) _ (hd.to hb0))
 rw [hlen] at HT
 have HJ := Lh hj
 have fin : ∀ (a b : Int), a = b → b = a := fun _ _ h => h.symm
 clear hd hlen hl hj fin
 have hjI : (j : Int) ≤ (l.length : Int) := by omega
 have hA3 : (if c = j then (.slice A (l.length - j) (c - j) : Value) else .slice (A.map (·.add j)) (l.length - j) (c - j)) = .slice A2 (l.length - j) (c - j) := by
  rw [← hA2]
  split <;> simp [Rep.size]
 have HA3 := Lh hA3
 clear hA2 hA3
 go_enter Tryz.func31, Tryz.ntmps31
 go_upto_region 1 with (fail)
 generalize w.alloc (.cells #[.slice none 0 0, .slice none 0 0] 50) = w0 at *
 have HB0 := Lh hb0
 have HX0 := Lh hx0
 have HZ := Lh hz
 clear hb0 hx0 hz
 by_cases hc : c = j
 ·have h3 : A2 = A := by
   have h := HA3.out
   rw [if_pos hc] at h
   injection h with h
   exact h.symm
  rw [h3] at HT
  have hlj : l.length = j := by omega
  subst hc
  rw [hlj, Nat.sub_self] at HT
  clear HA3
  rw [hlj] at hm ⊢
  clear hlj hl1 hjl hjI HJ
  clear h3
  go_wp2_with (first
   |(go_at_call 61; refine HT.out.mono ?_; intro e w1 hT1; obtain ⟨A5, c5, B5, d5, ls, ns, rfl, hg, hN, hb⟩ := hT1.own; have HG := Lh hg; have HN := Lh hN; have HB := Lh hb; have x0 := (HX0.out.to hb).cell 0 rfl; have x1 := (HX0.out.to hb).cell 1 rfl; have f0 := (HX0.out.to hb).fz 0; have f1 := (HX0.out.to hb).fz 1; clear hg hN hb hT1)
   | fail)
  refine bodyPost_ret (v := .agg #[.slice A5 ls.length c5, .slice B5 ns.length d5]) (results_box1 Tryz.results31 _ _ w.heap.size _ [.slice A5 ls.length c5, .slice B5 ns.length d5] _ rfl (by simpa using ((HX0.out.to HB.out).set 0 (.slice A5 ls.length c5)).set 1 (.slice B5 ns.length d5)) Tryz.underlying50 rfl (by kernel_rfl)) rfl ⟨A5, c5, B5, d5, ls, ns, rfl, HG.out, ?_, ?_⟩
  ·have e1 : ∀ g, w.heap.size < g → ((w1.setCell ⟨w.heap.size, 0, none⟩ (.slice A5 ls.length c5)).setCell ⟨w.heap.size, 1, none⟩ (.slice B5 ns.length d5)).heap[g]? = w1.heap[g]? := fun g hg => (heap_set _ _ 1 _ (by omega)).trans (heap_set _ _ 0 _ (by omega))
   exact Rep.mono (Rep.keep HN.out (fun g (hg : w0.heap.size ≤ g) _ => e1 g (by have := HZ.out; omega))) (fun g (hg : w0.heap.size ≤ g) _ => by have := HZ.out; omega)
  ·exact ((HB0.out.trans (HB.out.mono HB0.out.size)).setCell (p := ⟨w.heap.size, 0, none⟩) (Nat.le_refl _) _).setCell (p := ⟨w.heap.size, 1, none⟩) (Nat.le_refl _) _
 ·have h3 : A2 = A.map (·.add j) := by
   have h := HA3.out
   rw [if_neg hc] at h
   injection h with h
   exact h.symm
  rw [h3] at HT
  clear h3
  go_wp2_with (first
   |(go_at_call 61; refine HT.out.mono ?_; intro e w1 hT1; obtain ⟨A5, c5, B5, d5, ls, ns, rfl, hg, hN, hb⟩ := hT1.own; have HG := Lh hg; have HN := Lh hN; have HB := Lh hb; have x0 := (HX0.out.to hb).cell 0 rfl; have x1 := (HX0.out.to hb).cell 1 rfl; have f0 := (HX0.out.to hb).fz 0; have f1 := (HX0.out.to hb).fz 1; clear hg hN hb hT1)
   | fail)
  refine bodyPost_ret (v := .agg #[.slice A5 ls.length c5, .slice B5 ns.length d5]) (results_box1 Tryz.results31 _ _ w.heap.size _ [.slice A5 ls.length c5, .slice B5 ns.length d5] _ rfl (by simpa using ((HX0.out.to HB.out).set 0 (.slice A5 ls.length c5)).set 1 (.slice B5 ns.length d5)) Tryz.underlying50 rfl (by kernel_rfl)) rfl ⟨A5, c5, B5, d5, ls, ns, rfl, HG.out, ?_, ?_⟩
  ·have e1 : ∀ g, w.heap.size < g → ((w1.setCell ⟨w.heap.size, 0, none⟩ (.slice A5 ls.length c5)).setCell ⟨w.heap.size, 1, none⟩ (.slice B5 ns.length d5)).heap[g]? = w1.heap[g]? := fun g hg => (heap_set _ _ 1 _ (by omega)).trans (heap_set _ _ 0 _ (by omega))
   exact Rep.mono (Rep.keep HN.out (fun g (hg : w0.heap.size ≤ g) _ => e1 g (by have := HZ.out; omega))) (fun g (hg : w0.heap.size ≤ g) _ => by have := HZ.out; omega)
  ·exact ((HB0.out.trans (HB.out.mono HB0.out.size)).setCell (p := ⟨w.heap.size, 0, none⟩) (Nat.le_refl _) _).setCell (p := ⟨w.heap.size, 1, none⟩) (Nat.le_refl _) _
end Go.Proofs.YtakaielemicpkaaGreatDoor
