/- A book whose pages were all shown. No condition but sizes.
An element is cut out of a row of one's own, in place. No condition.
A section is deleted from a slice of one's own. No condition.
An entry is struck. No condition but sizes.
A section is added to a book. No condition but sizes.
Numbers looked for in a list. No condition but sizes.
The sections of a copied book while one of them is corrected. No condition. -/
import Derived.Test.YtakaielemicpkaaGreatDoorBZd7
import Derived.Deep.RegionLaw
import Derived.Shelf.RegionOpenPlain
import Derived.Lib.SliceRun
namespace Go.Proofs.YtakaielemicpkaaGreatDoor
open Go.RowKit
def frz (s : SectP) : SectP := { s with frozen := true }
theorem frz_step (l : List SectP) (P : Nat → Prop) {k : Nat} (hk : k < l.length) : (((l.take k).map frz ++ l.drop k).map (Av.mk : SectP → Av SectP P)).set k ⟨frz l[k]⟩ = (((l.take (k + 1)).map frz ++ l.drop (k + 1)).map (Av.mk : SectP → Av SectP P)) := by
 have hl : ((l.take k).map frz).length = k := by rw [List.length_map, List.length_take]; omega
 rw [← List.map_set, List.set_append_right _ _ (by omega), hl, Nat.sub_self, List.drop_eq_getElem_cons hk, sZ0, List.take_succ_eq_append_getElem hk]
 simp only [List.map_append, List.map_cons, List.map_nil, List.append_assoc, List.cons_append, List.nil_append]
theorem frz_at (l : List SectP) (P : Nat → Prop) {k : Nat} (hk : k < l.length) (h : k < (((l.take k).map frz ++ l.drop k).map (Av.mk : SectP → Av SectP P)).length) : (((l.take k).map frz ++ l.drop k).map (Av.mk : SectP → Av SectP P))[k] = ⟨l[k]⟩ := by
 have hl : ((l.take k).map frz).length = k := by rw [List.length_map, List.length_take]; omega
 rw [List.getElem_map, List.getElem_append_right (by omega)]
 simp only [hl, Nat.sub_self]
 simp
set_option maxRecDepth 100000 in
set_option maxHeartbeats 4000000 in
theorem freeze_any (A : Option Addr) (c : Nat) (l : List SectP) (m h : Int) (w : World) (hs : Sl w (fun b => b < w.heap.size) A c l) (hsh : ShortS l) :
  Calls Tryz.prog 28 #[.agg #[.int .i64 m, .int .i64 h, .slice A l.length c]] w fun e W' => ∃ v, e = .returned (.agg #[.int .i64 m, .int .i64 h, v]) ∧ OwnP W' w.heap.size 45 v (l.map frz) (Up w.heap.size) ∧ Below w.heap.size w W' := by
 obtain ⟨wb, hwb⟩ : ∃ wb, (w.alloc (.cells #[.int .i64 m, .int .i64 h, .slice A l.length c] 27)).alloc (.cells #[.int .i64 0, .int .i64 0, .slice none 0 0] 27) = wb := ⟨_, rfl⟩
 have hba : Below w.heap.size w wb := by rw [← hwb]; exact ((Below.refl _ _).alloc (Nat.le_refl _) _).alloc (by simp) _
 have hz : wb.heap.size = w.heap.size + 2 := by rw [← hwb]; simp
 have hx0 : ABox wb w.heap.size 27 [.int .i64 m, .int .i64 h, .slice A l.length c] := by rw [← hwb]; exact (Below.heap_alloc _ _ _ (by simp)).trans (heap_alloc_new w _)
 have HX1 : Hid (ABox wb (w.heap.size + 1) 27 [.int .i64 0, .int .i64 0, .slice none 0 0]) := Lh (by rw [← hwb]; exact heap_at (by simp))
 have HC := Lh (cloned_any A c l m h wb (hs.to hba) hsh)
 have c0 := hx0.cell 0 rfl
 have c1 := hx0.cell 1 rfl
 have c2 := hx0.cell 2 rfl
 have HB := Lh hba
 have HZ := Lh hz
 have HWB := Lh hwb
 have hl63 : l.length ≤ 1048576 := hsh.1
 clear hs hsh hba hx0 hwb hz
 go_enter Tryz.func28, Tryz.ntmps28
 go_upto_region 1 with (fail)
 rw [HWB.out]
 go_upto_region 2 with (first
  |(go_at_call 58; refine HC.out.mono ?_; rintro e w2 ⟨v, rfl, ho, hb2⟩; have HO := Lh ho; have HB2 := Lh hb2; obtain ⟨A5, c5, rfl, -, -⟩ := ho.len; clear ho hb2)
  | fail)
 obtain ⟨w3, hw3⟩ : ∃ w3, w2.alloc (.cells #[.int .i64 m, .int .i64 h, .slice A5 l.length c5] 27) = w3 := ⟨_, rfl⟩
 have hb3 : Below w2.heap.size w2 w3 := by rw [← hw3]; exact (Below.refl _ _).alloc (Nat.le_refl _) _
 have hx3 : ABox w3 w2.heap.size 27 [.int .i64 m, .int .i64 h, .slice A5 l.length c5] := by rw [← hw3]; exact heap_alloc_new w2 _
 have HX13 := Lh ((HX1.out.to HB2.out).to hb3)
 have HO3 := Lh (HO.out.below hb3)
 have HB3 : Hid (Below w.heap.size w w3) := Lh ((HB.out.trans (HB2.out.mono HB.out.size)).trans (hb3.mono (by have := HB.out.size; have := HB2.out.size; omega)))
 have HLT : Hid (∀ k, (Value.slice A5 l.length c5).ownBlock = some k → wb.heap.size ≤ k ∧ k < w2.heap.size) := Lh HO.out.lt
 have HZ2 : Hid (w.heap.size + 2 ≤ w2.heap.size) := Lh (by have := HB2.out.size; have := HZ.out; omega)
 have HX3 := Lh hx3
 have d2 := hx3.cell 2 rfl
 rw [hw3]
 clear hw3 hb3 hx3 HX1 HO HB2 c0 c1 c2 HC HB
 have hlc5 : l.length ≤ c5 := by obtain ⟨A9, c9, e9, -, h9, -⟩ := HO3.out.len; cases e9; exact h9
 go_wp2_with fail
 clear d2
 obtain ⟨O3, hO3⟩ : ∃ O3, w2.heap.size = O3 := ⟨_, rfl⟩
 rw [hO3] at HX3 HLT HZ2 ⊢
 clear hO3
 go_loopw [10] (fun v10 wr => ∃ k : Nat, k ≤ l.length ∧ v10 = .int .i64 (k : Int) ∧ Hid (Own wr wb.heap.size 45 (.slice A5 l.length c5) (((l.take k).map frz ++ l.drop k).map (Av.mk : SectP → Av SectP (Up wb.heap.size)))) ∧ Hid (ABox wr O3 27 [.int .i64 m, .int .i64 h, .slice A5 l.length c5]) ∧
  Hid (ABox wr (w.heap.size + 1) 27 [.int .i64 0, .int .i64 0, .slice none 0 0]) ∧ Hid (Below w.heap.size w wr)) (fun v10 _ => l.length - (intOf v10).toNat)
 case atStart => exact ⟨0, Nat.zero_le _, rfl, Lh HO3.out.own, HX3, HX13, HB3⟩
 case round =>
  clear HO3 HX3 HX13 HB3
  clear w3 w2
  obtain ⟨k, hk, rfl, HO, HX3, HX1, HB⟩ := hrel
  by_cases hlt : k < l.length
  ·have hkl : (k : Int) < (l.length : Int) := by omega
   have hk0 : (0 : Int) ≤ (k : Int) := by omega
   have hkL : k < (((l.take k).map frz ++ l.drop k).map (Av.mk : SectP → Av SectP (Up wb.heap.size))).length := by simp; omega
   obtain ⟨g, cap, es, e1, -, -, -, hr, hc, hf⟩ := HO.out.at_ hkL
   rw [frz_at l _ hlt hkL] at hr
   injection e1 with e1 e1b e1c
   subst e1
   clear e1b e1c
   obtain ⟨va, vb, rfl, -, -, -⟩ := hr
   have q1 : wr.cell? ⟨g, k * 4 + 1, none⟩ = some (.bool l[k].frozen) := hc 1 _ rfl
   have f1 := hf (k * 4 + 1)
   have HS := Lh (HO.out.setg k 1 hkL (show 1 < 4 by omega) (.bool true) rfl ⟨frz l[k]⟩ (fun es he => by
    rw [frz_at l _ hlt hkL] at he
    obtain ⟨va, vb, rfl, h1, h2, h3⟩ := he
    exact ⟨va, vb, rfl, h1, h2, h3⟩) (o := k * 4 + 1) rfl)
   have HST := Lh (frz_step l (Up wb.heap.size) hlt)
   have x2 := HX3.out.cell 2 rfl
   obtain ⟨fb, hfb⟩ : ∃ fb, l[k].frozen = fb := ⟨_, rfl⟩
   rw [hfb] at q1
   clear hc hf hkL hfb
   go_wp2_with fail
   go_roundw
   have hg := HLT.out g rfl
   case rel => exact ⟨k + 1, by omega, by go_num, Lh (by rw [← HST.out]; exact HS.out.1), Lh (HX3.out.other (by omega) _ _), Lh (HX1.out.other (by have := HZ.out; omega) _ _), Lh (HB.out.setCell (p := ⟨g, k * 4 + 1, none⟩) (by have := HZ.out; show w.heap.size ≤ g; omega) _)⟩
   case measure => (first | (simp [intOf]; done) | (simp [intOf]; omega))
  ·have HL : Hid (((l.take k).map frz ++ l.drop k) = l.map frz) := Lh (by rw [show k = l.length by omega]; simp)
   rw [HL.out] at HO
   have y0 := HX3.out.cell 0 rfl
   have y1 := HX3.out.cell 1 rfl
   have y2 := HX3.out.cell 2 rfl
   have z0 := HX1.out.cell 0 rfl
   have z1 := HX1.out.cell 1 rfl
   have z2 := HX1.out.cell 2 rfl
   have f0 := HX1.out.fz 0
   have f1 := HX1.out.fz 1
   have f2 := HX1.out.fz 2
   have HOP : Hid (OwnP wr wb.heap.size 45 (.slice A5 l.length c5) (l.map frz) (Up wb.heap.size)) := Lh ⟨HO.out, fun q hq => (HLT.out q hq).1⟩
   have hn1 : ∀ i, Up wb.heap.size i → i ≠ w.heap.size + 1 := fun i (hi : wb.heap.size ≤ i) => by have := HZ.out; omega
   have HOF := Lh (up_own (((HOP.out.set (w.heap.size + 1) 0 (.int .i64 m) hn1).set (w.heap.size + 1) 1 (.int .i64 h) hn1).set (w.heap.size + 1) 2 (.slice A5 l.length c5) hn1) (show w.heap.size ≤ wb.heap.size by have := HZ.out; omega))
   clear hn1
   go_wp2_with fail
   exact bodyPost_ret (v := .agg #[.int .i64 m, .int .i64 h, .slice A5 l.length c5]) (results_row1 Tryz.results28 _ _ (w.heap.size + 1) _ #[.int .i64 m, .int .i64 h, .slice A5 l.length c5] (0, 0) _ rfl (abox3 HX1.out _ _ _) Tryz.underlying27 rfl (by kernel_rfl)) rfl
    ⟨_, rfl, HOF.out, below3 HB.out (by omega) _ _ _⟩
end Go.Proofs.YtakaielemicpkaaGreatDoor
namespace Go.Proofs.YtakaielemicpkaaGreatDoor
open Go.RowKit
theorem grown_setCells (b : Nat) : ∀ (vs : List Value) (o : Nat) (w : World), w.grownBy (w.setCells b o vs) (some b)
 | [], _, w => ⟨rfl, rfl, rfl, Nat.le_refl _, fun _ _ _ => rfl⟩
 | v :: vs, o, w => grown_trans2 (b := w.setCell ⟨b, o, none⟩ v) ⟨rfl, rfl, rfl, by simp [World.setCell], fun i _ hi => heap_set w b o v (fun e => hi (by rw [e]))⟩ (grown_setCells b vs (o + 1) (w.setCell ⟨b, o, none⟩ v))
theorem Own.cutMid {α : Type} [Rep α] {w : World} {base g c : Nat} {e : TypeId} {l : List α} (h : Own w base e (.slice (some ⟨g, 0, none⟩) l.length c) l) {k : Nat} (hk : k < l.length) :
  ∃ news : List Value, news.length = (l.length - (k + 1)) * Rep.size α ∧ (∀ u ∈ news, u.oneCell' = true) ∧ (∀ t u, news[t]? = some u → w.cell? ⟨g, (k + 1) * Rep.size α + t, none⟩ = some u) ∧ l.length ≤ c ∧ c ≤ maxLen ∧
   (∀ j, j < l.length * Rep.size α → (w.cell? ⟨g, j, none⟩).isSome = true) ∧ (∀ j, j < l.length * Rep.size α → ((w.setCells g (k * Rep.size α) news).cell? ⟨g, j, none⟩).isSome = true) ∧ (∀ j, w.frozen? ⟨g, j, none⟩ = false) ∧ (∀ j, (w.setCells g (k * Rep.size α) news).frozen? ⟨g, j, none⟩ = false) ∧
   ∀ zs : List Value, zs.length = Rep.size α → Own ((w.setCells g (k * Rep.size α) news).setCells g ((l.length - 1) * Rep.size α) zs) base e (.slice (some ⟨g, 0, none⟩) (l.length - 1) c) (l.eraseIdx k) := by
 obtain ⟨xs, hx, ho, hq⟩ := h
 rcases hx.2 with ⟨h1, _⟩ | ⟨g', cap, cur, h1, hb, hg, hnc, hcm, hcs, htake⟩
 ·cases h1
 ·cases h1
  obtain ⟨n, hn⟩ : ∃ n, l.length = n := ⟨_, rfl⟩
  obtain ⟨S, hS⟩ : ∃ S, Rep.size α = S := ⟨_, rfl⟩
  have hxl := hx.1
  rw [hn] at hk hnc htake hxl ⊢
  rw [hS] at hcs htake hxl ⊢
  simp only [hn, hS] at hq
  have h2 : (k + 1) * S ≤ n * S := Nat.mul_le_mul_right _ hk
  have h3 : n * S ≤ c * S := Nat.mul_le_mul_right _ hnc
  have h2' : (k + 1) * S = k * S + S := by rw [Nat.add_mul, Nat.one_mul]
  have h4 : (n - 1) * S + S = n * S := by rw [← Nat.succ_mul]; congr 1; omega
  have h5 : (n - (k + 1)) * S = n * S - (k + 1) * S := Nat.sub_mul _ _ _
  have hxc : ∀ j, j < n * S → xs[j]? = cur[j]? := fun j hj => by
   rw [← htake, List.getElem?_take, if_pos hj]; simp
  have hnl : (xs.drop ((k + 1) * S)).length = (n - (k + 1)) * S := by rw [List.length_drop, hxl, h5]
  have hg1 := heap_setCells_at g (xs.drop ((k + 1) * S)) (k * S) w hg
  have hcell : ∀ j, j < n * S → (w.cell? ⟨g, j, none⟩).isSome = true := fun j hj => by
   rw [cell_of_row _ _ _ _ _ _ hg, Array.getElem?_eq_getElem (by omega)]; rfl
  have hcell1 : ∀ j, j < n * S → ((w.setCells g (k * S) (xs.drop ((k + 1) * S))).cell? ⟨g, j, none⟩).isSome = true := fun j hj => by
   rw [cell_of_row _ _ _ _ _ _ hg1, Array.getElem?_eq_getElem (by rw [setL_size]; omega)]; rfl
  refine ⟨xs.drop ((k + 1) * S), hnl, fun u hu => ho u (List.mem_of_mem_drop hu), fun t u hu => ?_, hnc, hcm, hcell, hcell1, fun j => by simp [World.frozen?, hg], fun j => by simp [World.frozen?, hg1], fun zs hz => ?_⟩
  ·rw [List.getElem?_drop] at hu
   have ht := (List.getElem?_eq_some_iff.1 hu).1
   rw [cell_of_row _ _ _ _ _ _ hg, ← hxc _ (by omega)]
   exact hu
  ·have hle : (l.eraseIdx k).length = n - 1 := by rw [List.length_eraseIdx, hn, if_pos hk]
   have hg2 := heap_setCells_at g zs ((n - 1) * S) _ hg1
   have hlen2 : (setL (setL cur (k * S) (xs.drop ((k + 1) * S))) ((n - 1) * S) zs).size = cur.size := by rw [setL_size, setL_size]
   have hget : ∀ j, j < (n - 1) * S → (setL (setL cur (k * S) (xs.drop ((k + 1) * S))) ((n - 1) * S) zs)[j]? = if k * S ≤ j then xs[j + S]? else xs[j]? := fun j hj => by
    rw [setL_get _ _ _ _ (by rw [setL_size]; omega), if_neg (by omega), setL_get _ _ _ _ (by rw [hnl]; omega), hnl]
    by_cases hj2 : k * S ≤ j
    ·rw [if_pos ⟨hj2, by omega⟩, if_pos hj2, List.getElem?_drop]
     congr 1; omega
    ·rw [if_neg (by omega), if_neg hj2, hxc j (by omega)]
   have hys : ∀ j, (((setL (setL cur (k * S) (xs.drop ((k + 1) * S))) ((n - 1) * S) zs).toList.take ((n - 1) * S)))[j]? = if j < (n - 1) * S then (if k * S ≤ j then xs[j + S]? else xs[j]?) else none := fun j => by
    rw [List.getElem?_take]
    by_cases hj : j < (n - 1) * S
    ·rw [if_pos hj, if_pos hj, ← hget j hj]; simp
    ·rw [if_neg hj, if_neg hj]
   refine ⟨(setL (setL cur (k * S) (xs.drop ((k + 1) * S))) ((n - 1) * S) zs).toList.take ((n - 1) * S), ⟨?_, .inr ⟨g, c, _, by rw [hle], hb, hg2, by omega, hcm, by rw [hlen2, hS]; exact hcs, by rw [hle, hS]⟩⟩, ?_, ?_⟩
   ·rw [List.length_take, Array.length_toList, hlen2, hle, hS]; omega
   ·intro u hu
    obtain ⟨j, hj⟩ := List.getElem?_of_mem hu
    rw [hys] at hj
    split at hj
    ·split at hj
     ·exact ho u (List.mem_of_getElem? hj)
     ·exact ho u (List.mem_of_getElem? hj)
    ·cases hj
   ·intro i hi
    rw [hle] at hi
    simp only [hS]
    have hi2 : (i + 1) * S ≤ (n - 1) * S := Nat.mul_le_mul_right _ (by omega)
    have hi3 : (i + 1) * S = i * S + S := by rw [Nat.add_mul, Nat.one_mul]
    have keep : Kept (fun b => some b ≠ (Value.slice (some ⟨g, 0, none⟩) n c).ownBlock) w ((w.setCells g (k * S) (xs.drop ((k + 1) * S))).setCells g ((n - 1) * S) zs) := fun b hb _ => by
     have hbg : b ≠ g := fun e => hb (by rw [e]; rfl)
     rw [heap_setCells_ne g hbg, heap_setCells_ne g hbg]
    rw [List.getElem_eraseIdx]
    by_cases hik : i < k
    ·rw [dif_pos hik]
     have hi4 : (i + 1) * S ≤ k * S := Nat.mul_le_mul_right _ hik
     have ht : (((setL (setL cur (k * S) (xs.drop ((k + 1) * S))) ((n - 1) * S) zs).toList.take ((n - 1) * S)).drop (i * S)).take S = (xs.drop (i * S)).take S := by
      apply List.ext_getElem?
      intro j
      rw [List.getElem?_take, List.getElem?_drop, hys, List.getElem?_take, List.getElem?_drop]
      by_cases hj : j < S
      ·rw [if_pos hj, if_pos hj, if_pos (by omega), if_neg (by omega)]
      ·rw [if_neg hj, if_neg hj]
     rw [ht]
     exact Rep.keep (hq i (by omega)) keep
    ·rw [dif_neg hik]
     have hi4 : k * S ≤ i * S := Nat.mul_le_mul_right _ (by omega)
     have ht : (((setL (setL cur (k * S) (xs.drop ((k + 1) * S))) ((n - 1) * S) zs).toList.take ((n - 1) * S)).drop (i * S)).take S = (xs.drop ((i + 1) * S)).take S := by
      apply List.ext_getElem?
      intro j
      rw [List.getElem?_take, List.getElem?_drop, hys, List.getElem?_take, List.getElem?_drop]
      by_cases hj : j < S
      ·rw [if_pos hj, if_pos hj, if_pos (by omega), if_pos (by omega)]
       congr 1; omega
      ·rw [if_neg hj, if_neg hj]
     rw [ht]
     exact Rep.keep (hq (i + 1) (by omega)) keep
end Go.Proofs.YtakaielemicpkaaGreatDoor
namespace Go.Proofs.YtakaielemicpkaaGreatDoor
open Go.RowKit
theorem run_clear_sect {P : Program} (w : World) (t e ty : TypeId) (z : Value) (ht : P.underlying t = some (.slice e)) (hv : ∀ w, (zeroValue e).run P w = .ok z w) (b o c : Nat) (zs : List Value) (hz : (Builtin.zeroCells z.cells 1).toList = zs) (h1 : ∀ u ∈ zs, u.oneCell' = true)
  (hc : ∀ j, j < zs.length → (w.cell? ⟨b, o + j, none⟩).isSome = true) (hf : ∀ j, j < zs.length → w.frozen? ⟨b, o + j, none⟩ = false) :
  (Builtin.clear_ #[t] ty #[.slice (some ⟨b, o, none⟩) 1 c]).run P w = .ok (.tuple #[]) (w.setCells b o zs) := by
 have hst := run_storeCells_cells (P := P) b o zs 0 w (by simpa using hc) (by simpa using hf) h1
 simp only [Nat.add_zero] at hst
 simp [Builtin.clear_, run_underlying ht, hv, hz, hst]
theorem eraseIdx_map' {α β : Type} (f : α → β) : ∀ (l : List α) (k : Nat), (l.map f).eraseIdx k = (l.eraseIdx k).map f
 | [], _ => rfl
 | _ :: _, 0 => rfl
 | a :: l, k + 1 => by simp [eraseIdx_map' f l k]
def sectZ : List Value := [.int .i64 0, .bool false, .slice none 0 0, .slice none 0 0]
set_option maxRecDepth 1000000 in
set_option maxHeartbeats 4000000 in
theorem delete_any {w : World} {base g c : Nat} {l : List SectP} {P : Nat → Prop} (H : OwnP w base 45 (.slice (some ⟨g, 0, none⟩) l.length c) l P) {k j n : Nat} (hk : k < l.length) (hn : l.length = n) (hj : j = k + 1) :
  Calls Tryz.prog 71 #[.slice (some ⟨g, 0, none⟩) n c, .int .i64 (k : Int), .int .i64 (j : Int)] w fun e w' => e = .returned (.slice (some ⟨g, 0, none⟩) (n - 1) c) ∧ OwnP w' base 45 (.slice (some ⟨g, 0, none⟩) (l.eraseIdx k).length c) (l.eraseIdx k) P ∧ w.grownBy w' (some g) := by
 have hgrw : w.grownBy w.drew (some g) := ⟨rfl, rfl, rfl, Nat.le_refl _, fun _ _ _ => rfl⟩
 have H1 : Own w.drew base 45 (.slice (some ⟨g, 0, none⟩) (l.map (Av.mk : SectP → Av SectP P)).length c) (l.map (Av.mk : SectP → Av SectP P)) := by rw [List.length_map]; exact H.own.kept (fun _ _ => rfl)
 have hPg : P g := H.at_ g rfl
 have hkL : k < (l.map (Av.mk : SectP → Av SectP P)).length := by rw [List.length_map]; exact hk
 obtain ⟨news, h1, h2, h3, h4, h5, h6, h7, h8, h9, h10⟩ := H1.cutMid hkL
 rw [List.length_map] at h1 h4 h6 h7 h10
 rw [eraseIdx_map'] at h10
 have hs4 : Rep.size (Av SectP P) = 4 := rfl
 rw [hs4] at h1 h3 h6 h7 h9 h10
 rw [hn] at hk h1 h4 h6 h7 h10
 have hel : (l.eraseIdx k).length = n - 1 := by rw [List.length_eraseIdx, hn, if_pos hk]
 obtain ⟨i0, hi0, hz0, hz1, hz2⟩ := info_parts sect_info
 have hzv : ∀ w, (zeroValue 45).run Tryz.prog w = .ok (.agg #[.int .i64 0, .bool false, .slice none 0 0, .slice none 0 0]) w := fun w => by simp [zeroValue, typeInfo, hi0, hz0]
 obtain ⟨Ad, hA, hsrc⟩ : ∃ A : Addr, (if c = j then some (⟨g, 0, none⟩ : Addr) else some ⟨g, j * 4, none⟩) = some A ∧ Hid (∀ t u, news[t]? = some u → w.drew.cell? (A.add t) = some u) := by
  by_cases h : c = j
  ·refine ⟨⟨g, 0, none⟩, by simp [h], fun t u hu => ?_⟩
   have h0 : news.length = 0 := by rw [h1]; have : n - (k + 1) = 0 := by omega
                                   rw [this, Nat.zero_mul]
   rw [List.length_eq_zero_iff.1 h0] at hu
   simp at hu
  ·refine ⟨⟨g, j * 4, none⟩, by simp [h], fun t u hu => ?_⟩
   rw [Addr.add_lit, hj]
   exact h3 t u hu
 obtain ⟨W1, hW1⟩ : ∃ W1, w.drew.setCells g (k * 4) news = W1 := ⟨_, rfl⟩
 rw [hW1] at h7 h9 h10
 have hW1g : w.drew.grownBy W1 (some g) := by rw [← hW1]; exact grown_setCells g _ _ _
 have hcl : ∀ ty, (Builtin.clear_ #[25] ty #[.slice (some ⟨g, (n - 1) * 4, none⟩) 1 (c - (n - 1))]).run Tryz.prog W1 = .ok (.tuple #[]) (W1.setCells g ((n - 1) * 4) sectZ) :=
  fun ty => run_clear_sect W1 _ _ ty _ Tryz.underlying25 hzv g ((n - 1) * 4) _ sectZ (by kernel_rfl) (by decide) (fun i hi => h7 _ (by have : i < 4 := hi; omega)) (fun i _ => h9 _)
 have HFIN := Lh (h10 sectZ rfl)
 have HGR := Lh (grown_trans2 (grown_trans2 hgrw hW1g) (grown_setCells g sectZ ((n - 1) * 4) W1))
 have HNEWS := Lh h1
 have HONE := Lh h2
 have HSPARE : Hid (∀ t, t < news.length → (w.drew.cell? ⟨g, 0 + k * 4 + t, none⟩).isSome = true ∧ w.drew.frozen? ⟨g, 0 + k * 4 + t, none⟩ = false) := Lh fun t ht => by
  rw [Nat.zero_add]
  exact ⟨h6 _ (by rw [h1] at ht; omega), h8 _⟩
 have HW1 := Lh hW1
 have HPG := Lh hPg
 have HEL := Lh hel
 have hkc : k ≤ c := by omega
 have hjc : j ≤ c := by omega
 have hkj : ¬ k = j := by omega
 have hjn : j ≤ n := by omega
 have mixed : Tryz.prog.follows Departure.mixedOrders = true := by kernel_rfl
 have hcm : c ≤ 9223372036854775807 := by simpa [maxLen] using h5
 have hkn : k + (n - j) = n - 1 := by omega
 have hnn : n - (n - 1) = 1 := by omega
 have hn1c : n - 1 ≤ c := by omega
 have hnc1 : ¬ c = n - 1 := by omega
 have hn1n : n - 1 ≤ n := by omega
 clear hgrw H1 H hPg hkL h1 h2 h3 h5 h6 h7 h8 h9 h10 hW1 hW1g hel hn hj
 go_enter Tryz.func71, Tryz.ntmps71
 go_wp2_with fail
 go_region_law_o (refine step_append_room rfl (.tmp 22) (.tmp 25) 25 rfl 45 i0 4 Tryz.underlying25 hi0 hz1 g 0 k c (by simp [Act.eval, Act.put]) Ad (n - j) (c - j) news (by simp [Act.eval, Act.put]) (by rw [HNEWS.out]; congr 1; omega) hsrc.out HONE.out (by omega) HSPARE.out ?_; rw [Nat.zero_add, HW1.out, hkn])
 go_wp2
 go_ret
 exact ⟨rfl, ⟨by rw [HEL.out]; exact HFIN.out, fun q hq => by cases hq; exact HPG.out⟩, HGR.out⟩
end Go.Proofs.YtakaielemicpkaaGreatDoor
namespace Go.Proofs.YtakaielemicpkaaGreatDoor
open Go.RowKit
def strikeL (l : List SectP) (k : Nat) : List SectP := if (l[k]?.map (·.frozen)).getD false then l else l.eraseIdx k
set_option maxRecDepth 100000 in
set_option maxHeartbeats 4000000 in
theorem strike_hit (A : Option Addr) (c : Nat) (l : List SectP) (m h e : Int) (w : World) (hs : Sl w (fun b => b < w.heap.size) A c l) (hsh : ShortS l) (k : Nat) (hk : k < l.length) (hf : findP l e = (k : Int)) :
  Calls Tryz.prog 39 #[.agg #[.int .i64 m, .int .i64 h, .slice A l.length c], .int .i64 e] w fun x W' => ∃ v, x = .returned (.tuple #[.agg #[.int .i64 m, .int .i64 h, v], .int .i64 0]) ∧ OwnP W' w.heap.size 45 v (strikeL l k) (Up w.heap.size) ∧ Below w.heap.size w W' := by
 obtain ⟨wb, hwb⟩ : ∃ wb, (w.alloc (.cells #[.int .i64 m, .int .i64 h, .slice A l.length c] 27)).alloc (.cells #[.int .i64 0, .int .i64 0, .slice none 0 0] 27) = wb := ⟨_, rfl⟩
 have hba : Below w.heap.size w wb := by rw [← hwb]; exact ((Below.refl _ _).alloc (Nat.le_refl _) _).alloc (by simp) _
 have hz : wb.heap.size = w.heap.size + 2 := by rw [← hwb]; simp
 have hx0 : ABox wb w.heap.size 27 [.int .i64 m, .int .i64 h, .slice A l.length c] := by rw [← hwb]; exact (Below.heap_alloc _ _ _ (by simp)).trans (heap_alloc_new w _)
 have hx1 : ABox wb (w.heap.size + 1) 27 [.int .i64 0, .int .i64 0, .slice none 0 0] := by rw [← hwb]; exact heap_at (by simp)
 have hl63 : l.length ≤ 1048576 := hsh.1
 have HF := Lh (find_any A c l m h e wb (hs.to hba) (by omega))
 have HCL : Hid (∀ W, Below wb.heap.size wb W → Calls Tryz.prog 58 #[.agg #[.int .i64 m, .int .i64 h, .slice A l.length c]] W fun e w' => ∃ v, e = .returned (.agg #[.int .i64 m, .int .i64 h, v]) ∧ OwnP w' W.heap.size 45 v l (Up W.heap.size) ∧ Below W.heap.size W w') :=
  Lh fun W hW => cloned_any A c l m h W ((hs.to hba).to hW) hsh
 have HX0 := Lh hx0
 have HX1 := Lh hx1
 have c0 := hx0.cell 0 rfl
 have c1 := hx0.cell 1 rfl
 have c2 := hx0.cell 2 rfl
 have HB := Lh hba
 have HZ := Lh hz
 have HWB := Lh hwb
 have hk0 : ¬ ((k : Int) < 0) := by omega
 clear hs hsh hba hx0 hx1 hwb hz
 rw [hf] at HF
 clear hf
 go_enter Tryz.func39, Tryz.ntmps39
 go_upto_region 1 with (fail)
 rw [HWB.out]
 go_upto_region 5 with (first
  |(go_at_call 43; refine HF.out.mono ?_; rintro e w1 ⟨rfl, hb1⟩; have HB1 := Lh hb1; have HX01 := Lh (HX0.out.to hb1); have HX11 := Lh (HX1.out.to hb1); clear hb1 c0 c1 c2;
    have d0 := HX01.out.cell 0 rfl; have d1 := HX01.out.cell 1 rfl; have d2 := HX01.out.cell 2 rfl)
  |(go_at_call 58; refine (HCL.out _ HB1.out).mono ?_; rintro e w2 ⟨v, rfl, ho, hb2⟩; have HO := Lh ho; have HB2 := Lh hb2; obtain ⟨A5, c5, rfl, -, -⟩ := ho.len; clear ho hb2 d0 d1 d2)
  | fail)
 obtain ⟨w3, hw3⟩ : ∃ w3, w2.alloc (.cells #[.int .i64 m, .int .i64 h, .slice A5 l.length c5] 27) = w3 := ⟨_, rfl⟩
 have hb3 : Below w2.heap.size w2 w3 := by rw [← hw3]; exact (Below.refl _ _).alloc (Nat.le_refl _) _
 have hx3 : ABox w3 w2.heap.size 27 [.int .i64 m, .int .i64 h, .slice A5 l.length c5] := by rw [← hw3]; exact heap_alloc_new w2 _
 have hz3 : w3.heap.size = w2.heap.size + 1 := by rw [← hw3]; simp
 have hx13 := (HX11.out.to HB2.out).to hb3
 have hz1 : wb.heap.size ≤ w1.heap.size := HB1.out.size
 have hz2 : w1.heap.size ≤ w2.heap.size := HB2.out.size
 have HO3 : Hid (OwnP w3 w1.heap.size 45 (.slice A5 l.length c5) l (fun i => w1.heap.size ≤ i ∧ i < w2.heap.size)) := Lh ((HO.out.mono (fun i hi hl => ⟨hi, hl⟩)).below hb3)
 have HB3 : Hid (Below w.heap.size w w3) := Lh (((HB.out.trans (HB1.out.mono HB.out.size)).trans (HB2.out.mono (by have := HB.out.size; omega))).trans (hb3.mono (by have := HB.out.size; omega)))
 obtain ⟨g, cap, es, e1, hg1, hg2, -, hr, hc, -⟩ := HO3.out.own.at_ (k := k) (by rw [List.length_map]; exact hk)
 rw [List.getElem_map] at hr
 rw [List.length_map] at e1
 injection e1 with e1 e1b e1c
 subst e1
 clear e1b e1c
 obtain ⟨va, vb, rfl, -, -, -⟩ := hr
 have q1 : w3.cell? ⟨g, k * 4 + 1, none⟩ = some (.bool l[k].frozen) := hc 1 _ rfl
 have hg4 : w1.heap.size ≤ g ∧ g < w2.heap.size := HO3.out.at_ g rfl
 have d0 := hx3.cell 0 rfl
 have d1 := hx3.cell 1 rfl
 have d2 := hx3.cell 2 rfl
 have r0 := hx13.cell 0 rfl
 have r1 := hx13.cell 1 rfl
 have r2 := hx13.cell 2 rfl
 have f0 := hx13.fz 0
 have f1 := hx13.fz 1
 have f2 := hx13.fz 2
 have HX13 := Lh hx13
 have HX3 := Lh hx3
 have hlc5 : l.length ≤ c5 := by obtain ⟨A9, c9, e9, -, h9, -⟩ := HO3.out.len; cases e9; exact h9
 rw [hw3]
 have HZ12 := Lh hz1
 have HZ22 := Lh hz2
 have HZ3 := Lh hz3
 have HG4 := Lh hg4
 clear hw3 hb3 hx3 HX11 HX01 HX0 HX1 HO HB2 HB1 HF HCL HWB HB hc hx13 hg1 hg2 hz1 hz2 hz3 hg4
 cases hfb : l[k].frozen with
 | true =>
  rw [hfb] at q1
  have hst : strikeL l k = l := by unfold strikeL; rw [List.getElem?_eq_getElem hk]; simp [hfb]
  have HST := Lh hst
  clear hst hfb
  go_wp2_with fail
  have hwz : w.heap.size + 2 ≤ w1.heap.size := by have := HZ.out; have := HZ12.out; omega
  have hn1 : ∀ i, (w1.heap.size ≤ i ∧ i < w2.heap.size) → i ≠ w.heap.size + 1 := fun i hi => by omega
  have HOF := ((HO3.out.set (w.heap.size + 1) 0 (.int .i64 m) hn1).set (w.heap.size + 1) 1 (.int .i64 h) hn1).set (w.heap.size + 1) 2 (.slice (some ⟨g, 0, none⟩) l.length c5) hn1
  exact bodyPost_ret (v := .tuple #[.agg #[.int .i64 m, .int .i64 h, .slice (some ⟨g, 0, none⟩) l.length c5], .int .i64 0]) (results_row_tmp Tryz.results39 _ _ (w.heap.size + 1) _ #[.int .i64 m, .int .i64 h, .slice (some ⟨g, 0, none⟩) l.length c5] (0, 0) _ rfl (abox3 HX13.out _ _ _) Tryz.underlying27 rfl (by kernel_rfl)) rfl
   ⟨_, rfl, by rw [HST.out]; exact up_own (HOF.mono (Q := Up w1.heap.size) (fun i hi _ => hi.1)) (by omega), below3 HB3.out (by omega) _ _ _⟩
 | false =>
  rw [hfb] at q1
  have hst : strikeL l k = l.eraseIdx k := by unfold strikeL; rw [List.getElem?_eq_getElem hk]; simp [hfb]
  have HST := Lh hst
  have hdel := delete_any (j := k + 1) (n := l.length) HO3.out hk rfl rfl
  rw [Int.natCast_succ] at hdel
  have HDEL := Lh hdel
  clear hst hfb hdel
  have hlc : (l.length - 1) ≤ c5 := by omega
  go_wp2_with (first
   |(go_at_call 71; refine HDEL.out.mono ?_; rintro e w4 ⟨rfl, ho, hgr⟩;
     have HO4 := Lh ho; have HGR := Lh hgr;
     have HX34 : Hid (ABox w4 w2.heap.size 27 [.int .i64 m, .int .i64 h, .slice (some ⟨g, 0, none⟩) l.length c5]) := Lh ((hgr.block _ HX3.out.lt (fun e => by cases e; have := HG4.out; omega)).trans HX3.out);
     have HX14 : Hid (ABox w4 (w.heap.size + 1) 27 [.int .i64 0, .int .i64 0, .slice none 0 0]) := Lh ((hgr.block _ HX13.out.lt (fun e => by cases e; have := HG4.out; have := HZ.out; have := HZ12.out; omega)).trans HX13.out);
     have HX35 := Lh (HX34.out.set 2 (.slice (some ⟨g, 0, none⟩) (l.length - 1) c5));
     have HX15 := Lh (HX14.out.other (Q := w2.heap.size) (by have := HG4.out; have := HZ.out; have := HZ12.out; omega) 2 (.slice (some ⟨g, 0, none⟩) (l.length - 1) c5));
     clear d0 d1 d2 r0 r1 r2 f0 f1 f2 ho hgr q1;
     have y0 := HX34.out.cell 2 rfl; have y1 := HX34.out.fz 2;
     have d0 := HX35.out.cell 0 rfl; have d1 := HX35.out.cell 1 rfl; have d2 := HX35.out.cell 2 rfl;
     have r0 := HX15.out.cell 0 rfl; have r1 := HX15.out.cell 1 rfl; have r2 := HX15.out.cell 2 rfl; have f0 := HX15.out.fz 0; have f1 := HX15.out.fz 1; have f2 := HX15.out.fz 2)
   | fail)
  have hel : (l.eraseIdx k).length = l.length - 1 := by rw [List.length_eraseIdx, if_pos hk]
  have hwz : w.heap.size + 2 ≤ w1.heap.size := by have := HZ.out; have := HZ12.out; omega
  have hz22 := HZ22.out
  have ho4 := HO4.out
  rw [hel] at ho4
  have hn1 : ∀ i, (w1.heap.size ≤ i ∧ i < w2.heap.size) → i ≠ w.heap.size + 1 := fun i hi => by omega
  have hn2 : ∀ i, (w1.heap.size ≤ i ∧ i < w2.heap.size) → i ≠ w2.heap.size := fun i hi => by omega
  have HOF := (((ho4.set w2.heap.size 2 (.slice (some ⟨g, 0, none⟩) (l.length - 1) c5) hn2).set (w.heap.size + 1) 0 (.int .i64 m) hn1).set (w.heap.size + 1) 1 (.int .i64 h) hn1).set (w.heap.size + 1) 2 (.slice (some ⟨g, 0, none⟩) (l.length - 1) c5) hn1
  have hb4 : Below w.heap.size w w4 := HB3.out.grown HGR.out HB3.out.size (fun q hq => by cases hq; have := HG4.out; omega)
  exact bodyPost_ret (v := .tuple #[.agg #[.int .i64 m, .int .i64 h, .slice (some ⟨g, 0, none⟩) (l.length - 1) c5], .int .i64 0]) (results_row_tmp Tryz.results39 _ _ (w.heap.size + 1) _ #[.int .i64 m, .int .i64 h, .slice (some ⟨g, 0, none⟩) (l.length - 1) c5] (0, 0) _ rfl (abox3 HX15.out _ _ _) Tryz.underlying27 rfl (by kernel_rfl)) rfl
   ⟨_, rfl, by rw [HST.out]; exact up_own (HOF.mono (Q := Up w1.heap.size) (fun i hi _ => hi.1)) (by omega), below3 (hb4.setCell (p := ⟨w2.heap.size, 2, none⟩) (by show w.heap.size ≤ w2.heap.size; omega) _) (by omega) _ _ _⟩
end Go.Proofs.YtakaielemicpkaaGreatDoor
namespace Go.Proofs.YtakaielemicpkaaGreatDoor
open Go.RowKit
def SP.txt (B : Nat) (a b : List (List Word)) : SP := ⟨fun v w => ∃ A c A' c', v = .agg #[.slice A a.length c, .slice A' b.length c'] ∧ Rep.R w (Up B) [.slice A a.length c, .slice A' b.length c'] (⟨a, b⟩ : TextP), fun _ _ _ h hb => by
 obtain ⟨A, c, A', c', h1, h2⟩ := h
 exact ⟨A, c, A', c', h1, Rep.keep h2 (Kept.all hb)⟩⟩
theorem SP.txt_of {B : Nat} {a b : List (List Word)} {va vb : Value} {w : World} (h : Rep.R w (Up B) [va, vb] (⟨a, b⟩ : TextP)) : (SP.txt B a b).p (.agg #[va, vb]) w := by
 obtain ⟨x, y, e, h1, h2⟩ := id h
 cases e
 obtain ⟨A, c, e1, -⟩ := h1
 obtain ⟨A', c', e2, -⟩ := h2
 cases e1
 cases e2
 exact ⟨A, c, A', c', rfl, h⟩
def SP.ownP {α : Type} [Rep α] (B : Nat) (e : TypeId) (l : List α) (P : Nat → Prop) : SP := ⟨fun v w => OwnP w B e v l P, fun _ _ _ h hb => h.below hb⟩
theorem rp_lit {α : Type} [Rep α] {w : World} {B : Nat} {cs : List Value} {t : TypeId} {x : α} (hB : B ≤ w.heap.size) (h : Rep.R w (Up B) cs x) : (SP.rp B [x]).p (.slice (some ⟨w.heap.size, 0, none⟩) 1 1) (w.alloc (.cells cs.toArray t)) := by
 refine ⟨⟨_, _, rfl⟩, ⟨_, _, rfl, Sl.block (l := [x]) (heap_alloc_new w _) hB (by simp [maxLen]) (fun i hi => ?_), by simp⟩⟩
 obtain rfl : i = 0 := by simpa using hi
 have hl := Rep.len h
 have e : (cs.toArray.toList.drop (0 * Rep.size α)).take (Rep.size α) = cs := by
  rw [Nat.zero_mul, List.drop_zero, ← hl]
  simp
 rw [e]
 exact Rep.keep h (Kept.all ((Below.refl _ _).alloc (Nat.le_refl _) _))
theorem rp_int {w : World} {B : Nat} {v : Int} {t : TypeId} (hB : B ≤ w.heap.size) (h : I64 v) : (SP.rp B [v]).p (.slice (some ⟨w.heap.size, 0, none⟩) 1 1) (w.alloc (.cells #[.int .i64 v] t)) := rp_lit (cs := [.int .i64 v]) hB ⟨rfl, h⟩
set_option maxRecDepth 100000 in
set_option maxHeartbeats 16000000 in
theorem add_ok (A : Option Addr) (c : Nat) (l : List SectP) (m h entry version : Int) (A1 B1 : Option Addr) (c1 d1 : Nat) (a b : List (List Word)) (w : World) (hT : Laid w) (hs : Sl w (fun b => b < w.heap.size) A c l) (hsh : ShortS l) (hwf : WfS l) (hI : I64 h)
  (ha : Sl w (fun b => b < w.heap.size) A1 c1 a) (hb : Sl w (fun b => b < w.heap.size) B1 d1 b) (hsa : ShortT a) (hsb : ShortT b) (hf : findP l entry = -1) (he : 0 ≤ entry ∧ entry ≤ 65535) (hv : 0 ≤ version ∧ version ≤ 2147483647) (hE : wrongE m h a b = 0)
  (hln : l.length < 1048576) (hpn : (pagesB m h (l ++ [(⟨entry, false, [version], [⟨a, b⟩]⟩ : SectP)])).length ≤ 1000000000) :
  Calls Tryz.prog 36 #[.agg #[.int .i64 m, .int .i64 h, .slice A l.length c], .int .i64 entry, .int .i64 version, .agg #[.slice A1 a.length c1, .slice B1 b.length d1]] w fun x W' => ∃ v, x = .returned (fitsV m h v (pagesB m h (l ++ [(⟨entry, false, [version], [⟨a, b⟩]⟩ : SectP)])).length) ∧ OwnP W' w.heap.size 45 v (l ++ [(⟨entry, false, [version], [⟨a, b⟩]⟩ : SectP)]) (Up w.heap.size) ∧ Below w.heap.size w W' := by
 obtain ⟨wb, hwb⟩ : ∃ wb, ((w.alloc (.cells #[.int .i64 m, .int .i64 h, .slice A l.length c] 27)).alloc (.cells #[.slice A1 a.length c1, .slice B1 b.length d1] 50)).alloc (.cells #[.int .i64 0, .int .i64 0, .slice none 0 0] 27) = wb := ⟨_, rfl⟩
 have hba : Below w.heap.size w wb := by rw [← hwb]; exact (((Below.refl _ _).alloc (Nat.le_refl _) _).alloc (by simp) _).alloc (by simp; omega) _
 have hz : wb.heap.size = w.heap.size + 3 := by rw [← hwb]; simp
 have hx0 : ABox wb w.heap.size 27 [.int .i64 m, .int .i64 h, .slice A l.length c] := by rw [← hwb]; exact (Below.heap_alloc _ _ _ (by simp; omega)).trans ((Below.heap_alloc _ _ _ (by simp)).trans (heap_alloc_new w _))
 have hx1 : ABox wb (w.heap.size + 1) 50 [.slice A1 a.length c1, .slice B1 b.length d1] := by rw [← hwb]; exact (Below.heap_alloc _ _ _ (by simp)).trans (heap_at (by simp))
 have hx2 : ABox wb (w.heap.size + 2) 27 [.int .i64 0, .int .i64 0, .slice none 0 0] := by rw [← hwb]; exact heap_at (by simp)
 have hl63 : l.length ≤ 1048576 := hsh.1
 have HF := Lh (find_any A c l m h entry wb (hs.to hba) (by omega))
 have HCL : Hid (∀ W, Below wb.heap.size wb W → Calls Tryz.prog 58 #[.agg #[.int .i64 m, .int .i64 h, .slice A l.length c]] W fun e w' => ∃ A5, e = .returned (.agg #[.int .i64 m, .int .i64 h, .slice A5 l.length l.length]) ∧ OwnP w' W.heap.size 45 (.slice A5 l.length l.length) l (Up W.heap.size) ∧ Below W.heap.size W w') :=
  Lh fun W hW => cloned_fit A c l m h W ((hs.to hba).to hW) hsh
 have HWR : Hid (∀ W, Below wb.heap.size wb W → Calls Tryz.prog 68 #[.agg #[.int .i64 m, .int .i64 h, .slice A l.length c], .agg #[.slice A1 a.length c1, .slice B1 b.length d1]] W fun e w' => e = .returned (.int .i64 0) ∧ Below W.heap.size W w') :=
  Lh fun W hW => by
   have := wrong_any A1 B1 c1 d1 a b m h (.slice A l.length c) rfl W ((hT.to hba).to hW) ((ha.to hba).to hW) ((hb.to hba).to hW) hI hsa.1 hsb.1
   rwa [hE] at this
 have HTX : Hid (∀ W, Below wb.heap.size wb W → Calls Tryz.prog 45 #[.agg #[.slice A1 a.length c1, .slice B1 b.length d1]] W fun e w' => ∃ va vb, e = .returned (.agg #[va, vb]) ∧ Rep.R w' (Up W.heap.size) [va, vb] (⟨a, b⟩ : TextP) ∧ Below W.heap.size W w') :=
  Lh fun W hW => btext_any A1 B1 c1 d1 a b W ((ha.to hba).to hW) ((hb.to hba).to hW) hsa hsb
 have HW : Hid (∀ n lo hi W, lo ≤ n ∧ n ≤ hi → Calls Tryz.prog 48 #[.int .i64 n, .int .i64 lo, .int .i64 hi] W fun e w' => e = .returned (.bool true) ∧ W = w') := Lh fun n lo hi W hn => by
  have := within_any n lo hi W
  rwa [decide_eq_true hn] at this
 have HE1 := Lh he
 have HV1 := Lh hv
 have HSH : Hid (ShortS (l ++ [(⟨entry, false, [version], [⟨a, b⟩]⟩ : SectP)])) := Lh ⟨by rw [List.length_append, List.length_singleton]; omega, fun s hs => by
  rcases List.mem_append.1 hs with h | h
  ·exact hsh.2 s h
  ·rw [List.mem_singleton] at h
   subst h
   exact ⟨by simp, by simp, fun t ht => by rw [List.mem_singleton] at ht; subst ht; exact ⟨hsa, hsb⟩⟩⟩
 have HWF : Hid (WfS (l ++ [(⟨entry, false, [version], [⟨a, b⟩]⟩ : SectP)])) := Lh (fun s hs => by
  rcases List.mem_append.1 hs with h | h
  ·exact hwf s h
  ·rw [List.mem_singleton] at h
   subst h
   simp)
 have HLA := Lh (hT.to hba)
 have HI := Lh hI
 have HIV : Hid (I64 version) := Lh (by unfold I64; omega)
 have HIE : Hid (I64 entry) := Lh (by unfold I64; omega)
 have HPN := Lh hpn
 have HX0 := Lh hx0
 have HX1 := Lh hx1
 have HX2 := Lh hx2
 have HB := Lh hba
 have HZ := Lh hz
 have HWB := Lh hwb
 have k0 := hx0.cell 0 rfl
 have k1 := hx0.cell 1 rfl
 have k2 := hx0.cell 2 rfl
 clear hs hsh hwf hI ha hb hsa hsb he hv hE hpn hT hba hx0 hx1 hx2 hwb hz
 rw [hf] at HF
 clear hf
 go_enter Tryz.func36, Tryz.ntmps36
 go_upto_region 1 with (fail)
 rw [HWB.out]
 go_upto_region 9 with (first
  |(go_at_call 43; refine HF.out.mono ?_; rintro e w1 ⟨rfl, hb1⟩; have HB1 := Lh hb1; have HX01 := Lh (HX0.out.to hb1); have HX11 := Lh (HX1.out.to hb1); clear hb1 k0 k1 k2;
    have k0 := HX01.out.cell 0 rfl; have k1 := HX01.out.cell 1 rfl; have k2 := HX01.out.cell 2 rfl; have e0 := HX11.out.cell 0 rfl; have e1 := HX11.out.cell 1 rfl)
  |(go_at_call 48; refine (HW.out _ _ _ _ (by first | exact HE1.out | exact HV1.out)).mono ?_; rintro e w9 ⟨rfl, rfl⟩)
  |(go_at_call 68; refine (HWR.out _ HB1.out).mono ?_; rintro e w2 ⟨rfl, hb2⟩; have HB2 := Lh hb2; have HX02 := Lh (HX01.out.to hb2); clear hb2 k0 k1 k2 e0 e1;
    have k0 := HX02.out.cell 0 rfl; have k1 := HX02.out.cell 1 rfl; have k2 := HX02.out.cell 2 rfl)
  |(go_at_call 58; refine (HCL.out _ (HB1.out.trans (HB2.out.mono HB1.out.size))).mono ?_; rintro e w3 ⟨A5, rfl, ho, hb3⟩; have HO := Lh ho; have HB3 := Lh hb3; clear ho hb3 k0 k1 k2)
  | fail)
 obtain ⟨w4, hw4⟩ : ∃ w4, w3.alloc (.cells #[.int .i64 m, .int .i64 h, .slice A5 l.length l.length] 27) = w4 := ⟨_, rfl⟩
 have hb4 : Below w3.heap.size w3 w4 := by rw [← hw4]; exact (Below.refl _ _).alloc (Nat.le_refl _) _
 have hx4 : ABox w4 w3.heap.size 27 [.int .i64 m, .int .i64 h, .slice A5 l.length l.length] := by rw [← hw4]; exact heap_alloc_new w3 _
 have hz4 : w4.heap.size = w3.heap.size + 1 := by rw [← hw4]; simp
 rw [hw4]
 clear hw4
 have HS : Hid (w.heap.size + 3 ≤ w2.heap.size ∧ w2.heap.size ≤ w3.heap.size ∧ w4.heap.size = w3.heap.size + 1) := Lh ⟨by have := HZ.out; have := HB1.out.size; have := HB2.out.size; omega, HB3.out.size, hz4⟩
 have HBW4 : Hid (Below wb.heap.size wb w4) := Lh (((HB1.out.trans (HB2.out.mono HB1.out.size)).trans (HB3.out.mono (by have := HB1.out.size; have := HB2.out.size; omega))).trans (hb4.mono (by have := HB1.out.size; have := HB2.out.size; have := HB3.out.size; omega)))
 have HX4 := Lh hx4
 have HX14 := Lh (HX1.out.to HBW4.out)
 have HX24 := Lh (HX2.out.to HBW4.out)
 obtain ⟨PB, hPB⟩ : ∃ PB : Nat → Prop, PB = fun i => w2.heap.size ≤ i ∧ i ≠ w3.heap.size := ⟨_, rfl⟩
 have HPB := Lh hPB
 have HO4 : Hid (OwnP w4 w2.heap.size 45 (.slice A5 l.length l.length) l PB) := Lh ((HO.out.mono (fun i hi hl => by rw [hPB]; exact ⟨hi, by omega⟩)).below hb4)
 obtain ⟨base, hbase⟩ : ∃ base, w2.heap.size = base := ⟨_, rfl⟩
 obtain ⟨ob, hob⟩ : ∃ ob, w3.heap.size = ob := ⟨_, rfl⟩
 rw [hbase] at HPB HO4 HS
 rw [hob] at HPB HS HX4 ⊢
 clear hb4 hx4 hz4 hPB HO HB3 HB2 HB1 HX01 HX11 HX02 HX0 HX1 HX2 HF HCL HWR HW HE1 HV1 HWB hbase hob
 refine wp_region_rely [4, 6, 7, 9, 10] (fun i => if i = 4 then SP.rp w4.heap.size [version] else if i = 6 then SP.txt w4.heap.size a b else if i = 7 then SP.rp w4.heap.size [(⟨a, b⟩ : TextP)] else if i = 9 then SP.rp w4.heap.size [(⟨entry, false, [version], [⟨a, b⟩]⟩ : SectP)] else if i = 10 then SP.ownP base 45 (l ++ [(⟨entry, false, [version], [⟨a, b⟩]⟩ : SectP)]) PB else SP.any) 12 (by kernel_rfl) (by kernel_rfl) ?_
 intro T _ g hg hgm
 have q0 : ∀ d, (g d).cell? ⟨ob, 2, none⟩ = some (.slice A5 l.length l.length) := fun d => (HX4.out.to (hg d)).cell 2 rfl
 have q1 : ∀ d, (g d).cell? ⟨w.heap.size + 1, 0, none⟩ = some (.slice A1 a.length c1) := fun d => (HX14.out.to (hg d)).cell 0 rfl
 have q2 : ∀ d, (g d).cell? ⟨w.heap.size + 1, 1, none⟩ = some (.slice B1 b.length d1) := fun d => (HX14.out.to (hg d)).cell 1 rfl
 repeat (refine wpR_pure (by rfl) fun Kq hq => ?_; go_big_quiet_step (fail); refine wpQuiet_nil (hq _ ?_); clear hq Kq)
 refine wpR_busy (by rfl) (by rfl) (fun d hG K Q hK => ?_) (fun v4 d hG hp Kr hr => ?_)
 ·go_simp
  exact hK _ _ ((Below.refl _ _).alloc (Nat.le_refl _) _) (rp_int (hg d).size HIV.out)
 obtain ⟨⟨A4, c4, rfl⟩, -⟩ := (show (∃ A c, v4 = .slice A [version].length c) ∧ Rep.R (g d) (Up w4.heap.size) [v4] [version] from hp)
 (try clear hp); clear hG
 simp only [Act.put, sA0, sZ0, sS0]
 refine hr _ ?_
 clear hr Kr
 repeat (refine wpR_pure (by rfl) fun Kq hq => ?_; go_big_quiet_step (fail); refine wpQuiet_nil (hq _ ?_); clear hq Kq)
 refine wpR_busy (by rfl) (by rfl) (fun d hG K Q hK => ?_) (fun v6 d hG hp Kr hr => ?_)
 ·go_simp
  go_at_call 45
  refine (HTX.out (g d) (HBW4.out.trans ((hg d).mono HBW4.out.size))).mono ?_
  rintro e W1 ⟨va, vb, rfl, hr1, hb1⟩
  go_simp
  exact hK _ _ hb1 (SP.txt_of (Rep.mono hr1 (fun i hi _ => Nat.le_trans (hg d).size hi)))
 obtain ⟨A6, c6, B6, d6, rfl, -⟩ := (show ∃ A c A' c', v6 = .agg #[.slice A a.length c, .slice A' b.length c'] ∧ _ from hp)
 (try clear hp); clear hG
 simp only [Act.put, sA0, sZ0, sS0]
 refine hr _ ?_
 clear hr Kr
 refine wpR_busy (by rfl) (by rfl) (fun d hG K Q hK => ?_) (fun v7 d hG hp Kr hr => ?_)
 ·have H6 : Hid (Rep.R (g d) (Up w4.heap.size) [.slice A6 a.length c6, .slice B6 b.length d6] (⟨a, b⟩ : TextP)) := Lh (by
   obtain ⟨A, c, A', c', e, hr⟩ := (show ∃ A c A' c', Value.agg #[.slice A6 a.length c6, .slice B6 b.length d6] = .agg #[.slice A a.length c, .slice A' b.length c'] ∧ Rep.R (g d) (Up w4.heap.size) [.slice A a.length c, .slice A' b.length c'] (⟨a, b⟩ : TextP) from hG 6 (by kernel_rfl))
   cases e
   exact hr)
  go_simp
  exact hK _ _ ((Below.refl _ _).alloc (Nat.le_refl _) _) (rp_lit (hg d).size H6.out)
 obtain ⟨⟨A7, c7, rfl⟩, -⟩ := (show (∃ A c, v7 = .slice A [(⟨a, b⟩ : TextP)].length c) ∧ _ from hp)
 (try clear hp); clear hG
 simp only [Act.put, sA0, sZ0, sS0]
 refine hr _ ?_
 clear hr Kr
 repeat (refine wpR_pure (by rfl) fun Kq hq => ?_; go_big_quiet_step (fail); refine wpQuiet_nil (hq _ ?_); clear hq Kq)
 refine wpR_busy (by rfl) (by rfl) (fun d hG K Q hK => ?_) (fun v9 d hG hp Kr hr => ?_)
 ·have H4 : Hid (Rep.R (g d) (Up w4.heap.size) [.slice A4 [version].length c4] [version]) := Lh (show (∃ A c, _ = Value.slice A [version].length c) ∧ Rep.R (g d) (Up w4.heap.size) [.slice A4 [version].length c4] [version] from hG 4 (by kernel_rfl)).2
  have H7 : Hid (Rep.R (g d) (Up w4.heap.size) [.slice A7 [(⟨a, b⟩ : TextP)].length c7] [(⟨a, b⟩ : TextP)]) := Lh (show (∃ A c, _ = Value.slice A [(⟨a, b⟩ : TextP)].length c) ∧ Rep.R (g d) (Up w4.heap.size) [.slice A7 [(⟨a, b⟩ : TextP)].length c7] [(⟨a, b⟩ : TextP)] from hG 7 (by kernel_rfl)).2
  go_simp
  exact hK _ _ ((Below.refl _ _).alloc (Nat.le_refl _) _) (rp_lit (x := (⟨entry, false, [version], [⟨a, b⟩]⟩ : SectP)) (hg d).size ⟨_, _, rfl, HIE.out, H4.out, H7.out⟩)
 obtain ⟨⟨A9, c9, rfl⟩, -⟩ := (show (∃ A c, v9 = .slice A [(⟨entry, false, [version], [⟨a, b⟩]⟩ : SectP)].length c) ∧ _ from hp)
 (try clear hp); clear hG
 simp only [Act.put, sA0, sZ0, sS0]
 refine hr _ ?_
 clear hr Kr
 repeat (refine wpR_pure (by rfl) fun Kq hq => ?_; go_big_quiet_step (fail); refine wpQuiet_nil (hq _ ?_); clear hq Kq)
 refine wpR_busy (by rfl) (by rfl) (fun d hG K Q hK => ?_) (fun v10 d hG hp Kr hr => ?_)
 ·have H9 : Hid (Rep.R (g d) (Up w4.heap.size) [.slice A9 [(⟨entry, false, [version], [⟨a, b⟩]⟩ : SectP)].length c9] [(⟨entry, false, [version], [⟨a, b⟩]⟩ : SectP)]) := Lh (show (∃ A c, _ = Value.slice A [(⟨entry, false, [version], [⟨a, b⟩]⟩ : SectP)].length c) ∧ Rep.R (g d) (Up w4.heap.size) [.slice A9 [(⟨entry, false, [version], [⟨a, b⟩]⟩ : SectP)].length c9] [(⟨entry, false, [version], [⟨a, b⟩]⟩ : SectP)] from hG 9 (by kernel_rfl)).2
  have HOd := Lh (HO4.out.below (hg d))
  have HSd : Hid (Sl (g d) (fun b => b < (g d).heap.size) A5 l.length (l.map (Av.mk : SectP → Av SectP PB))) := Lh (by
   obtain ⟨A, c, e, hs⟩ := HOd.out.sl
   cases e
   exact (hs.av (fun i hi _ => hi)).mono (fun i hi hl => hl))
  have HNd : Hid (Sl (g d) (fun b => b < (g d).heap.size) A9 c9 [(⟨(⟨entry, false, [version], [⟨a, b⟩]⟩ : SectP)⟩ : Av SectP PB)]) := Lh (by
   obtain ⟨A, c, e, hs, -⟩ := H9.out
   cases e
   refine Sl.mono (Sl.av (α := SectP) (P := PB) hs (fun i hi _ => ?_)) (fun i hi hl => hl)
   have hi : w4.heap.size ≤ i := hi
   have := HS.out
   rw [HPB.out]
   exact ⟨by omega, by omega⟩)
  clear H9
  refine wp_fresh (α := Av SectP PB) (.tmp 36) (.tmp 44) 25 rfl 45 (.agg #[.int .i64 0, .bool false, .slice none 0 0, .slice none 0 0]) 64 Tryz.underlying25 sect_info rfl (show 0 < 4 by decide) A5 l.length (l.map Av.mk) rfl (by rw [List.length_map]) HSd.out A9 c9 1 [⟨(⟨entry, false, [version], [⟨a, b⟩]⟩ : SectP)⟩] rfl rfl HNd.out (by omega) (by omega) (by omega) ?_
  intro v' w' ho' hb'
  refine hK _ _ hb' (show OwnP w' base 45 v' (l ++ [(⟨entry, false, [version], [⟨a, b⟩]⟩ : SectP)]) PB from ⟨?_, fun q hq => ?_⟩)
  ·rw [List.map_append]
   exact ho'.re (by have := HS.out; have := (hg d).size; omega)
  ·have h1 := (ho'.lt q hq).1
   have := HS.out
   have := (hg d).size
   rw [HPB.out]
   exact ⟨by omega, by omega⟩
 obtain ⟨A10, c10, rfl, -, -⟩ := (show OwnP (g d) base 45 v10 (l ++ [(⟨entry, false, [version], [⟨a, b⟩]⟩ : SectP)]) PB from hp).len
 (try clear hp); clear hG
 simp only [Act.put, sA0, sZ0, sS0]
 refine hr _ ?_
 clear hr Kr
 repeat (refine wpR_pure (by rfl) fun Kq hq => ?_; go_big_quiet_step (fail); refine wpQuiet_nil (hq _ ?_); clear hq Kq)
 refine wpR_tail 1 (by rfl) (by rfl) (fun d hG => ?_)
 have HOd : Hid (OwnP (g d) base 45 (.slice A10 (l ++ [(⟨entry, false, [version], [⟨a, b⟩]⟩ : SectP)]).length c10) (l ++ [(⟨entry, false, [version], [⟨a, b⟩]⟩ : SectP)]) PB) := Lh (hG 10)
 have HXd := Lh (HX4.out.to (hg d))
 have HX2d := Lh (HX24.out.to (hg d))
 have HBd : Hid (Below wb.heap.size wb (g d)) := Lh (HBW4.out.trans ((hg d).mono HBW4.out.size))
 have HSd : Hid (w4.heap.size ≤ (g d).heap.size) := Lh (hg d).size
 clear q0 q1 q2 hG hg hgm HX4 HX14 HX24 HBW4 HO4
 generalize g d = wx at *
 clear g
 have y0 := HXd.out.cell 2 rfl
 have y1 := HXd.out.fz 2
 refine wpAny_one (i := 12) (oi := _) rfl (by kernel_rfl) (by rfl) (fun K hK => ?_)
 go_simp
 refine hK _ _ ?_
 clear hK K
 try simp only [Act.put, sA0, sZ0, sS0]
 refine wpAny_done (by kernel_rfl) ?_ _
 unfold Exit.then
 obtain ⟨L, hL⟩ : ∃ L, l ++ [(⟨entry, false, [version], [⟨a, b⟩]⟩ : SectP)] = L := ⟨_, rfl⟩
 have hLn : l.length + 1 = L.length := by rw [← hL]; simp
 rw [hLn]
 rw [hL] at HOd HSH HWF HPN
 have HL := Lh hL
 clear hL hLn y0 y1
 have HSx := HS.out
 obtain ⟨wy, hwy⟩ : ∃ wy, wx.setCell ⟨ob, 2, none⟩ (.slice A10 L.length c10) = wy := ⟨_, rfl⟩
 have HOy : Hid (OwnP wy base 45 (.slice A10 L.length c10) L PB) := Lh (by rw [← hwy]; exact HOd.out.set ob 2 _ (fun i hi => by rw [HPB.out] at hi; exact hi.2))
 have HXy : Hid (ABox wy ob 27 [.int .i64 m, .int .i64 h, .slice A10 L.length c10]) := Lh (by rw [← hwy]; exact HXd.out.set 2 _)
 have HX2y : Hid (ABox wy (w.heap.size + 2) 27 [.int .i64 0, .int .i64 0, .slice none 0 0]) := Lh (by rw [← hwy]; exact HX2d.out.other (by omega) _ _)
 have HBy : Hid (Below wb.heap.size wb wy) := Lh (by rw [← hwy]; exact HBd.out.setCell (p := ⟨ob, 2, none⟩) (by show wb.heap.size ≤ ob; have := HZ.out; omega) _)
 have HOK : Hid (BookOk wy m h A10 c10 L) := Lh ⟨HLA.out.to HBy.out, by
   obtain ⟨A, c, e, hs⟩ := HOy.out.sl
   cases e
   exact hs.mono (fun i _ hl => hl), HSH.out, HWF.out, HI.out, HPN.out⟩
 have HFI := Lh (bfits_any HOK.out)
 have k0 := HXy.out.cell 0 rfl
 have k1 := HXy.out.cell 1 rfl
 have k2 := HXy.out.cell 2 rfl
 rw [hwy]
 clear hwy HOd HXd HX2d HBd HSH HWF HOK
 obtain ⟨np, hnp⟩ : ∃ np, (pagesB m h L).length = np := ⟨_, rfl⟩
 rw [hnp] at HFI
 have HNP := Lh hnp
 clear hnp HPN
 by_cases hn : 16384 < np
 ·have hfv : ∀ v, fitsV m h v np = .tuple #[.agg #[.int .i64 0, .int .i64 0, .slice none 0 0], .int .i64 2] := fun v => by unfold fitsV; rw [if_pos hn]
  have HFV := Lh hfv
  rw [hfv] at HFI
  clear hfv hn
  go_wp2_with (first
   |(go_at_call 69; refine HFI.out.mono ?_; rintro e w7 ⟨rfl, hb7⟩; have HB7 := Lh hb7; have HX27 := Lh (HX2y.out.to hb7); clear hb7 k0 k1 k2;
     have k0 := HX27.out.cell 0 rfl; have k1 := HX27.out.cell 1 rfl; have k2 := HX27.out.cell 2 rfl; have f0 := HX27.out.fz 0; have f1 := HX27.out.fz 1; have f2 := HX27.out.fz 2)
   | fail)
  have hn1 : ∀ i, PB i → i ≠ w.heap.size + 2 := fun i hi => by rw [HPB.out] at hi; omega
  exact bodyPost_ret (v := .tuple #[.agg #[.int .i64 0, .int .i64 0, .slice none 0 0], .int .i64 2]) (results_row_tmp Tryz.results36 _ _ (w.heap.size + 2) _ #[.int .i64 0, .int .i64 0, .slice none 0 0] (0, 0) _ rfl (abox3 HX27.out _ _ _) Tryz.underlying27 rfl (by kernel_rfl)) rfl
   ⟨.slice A10 L.length c10, by rw [HL.out, HNP.out, HFV.out], by rw [HL.out]; exact up_own ((((HOy.out.below HB7.out).set (w.heap.size + 2) 0 _ hn1).set (w.heap.size + 2) 1 _ hn1).set (w.heap.size + 2) 2 _ hn1 |>.mono (Q := Up base) (fun i hi _ => by rw [HPB.out] at hi; exact hi.1)) (by omega), below3 ((HB.out.trans (HBy.out.mono HB.out.size)).trans (HB7.out.mono (by have := HB.out.size; have := HBy.out.size; omega))) (by omega) _ _ _⟩
 ·have hfv : ∀ v, fitsV m h v np = .tuple #[.agg #[.int .i64 m, .int .i64 h, v], .int .i64 0] := fun v => by unfold fitsV; rw [if_neg hn]
  have HFV := Lh hfv
  rw [hfv] at HFI
  clear hfv hn
  go_wp2_with (first
   |(go_at_call 69; refine HFI.out.mono ?_; rintro e w7 ⟨rfl, hb7⟩; have HB7 := Lh hb7; have HX27 := Lh (HX2y.out.to hb7); clear hb7 k0 k1 k2;
     have k0 := HX27.out.cell 0 rfl; have k1 := HX27.out.cell 1 rfl; have k2 := HX27.out.cell 2 rfl; have f0 := HX27.out.fz 0; have f1 := HX27.out.fz 1; have f2 := HX27.out.fz 2)
   | fail)
  have hn1 : ∀ i, PB i → i ≠ w.heap.size + 2 := fun i hi => by rw [HPB.out] at hi; omega
  exact bodyPost_ret (v := .tuple #[.agg #[.int .i64 m, .int .i64 h, .slice A10 L.length c10], .int .i64 0]) (results_row_tmp Tryz.results36 _ _ (w.heap.size + 2) _ #[.int .i64 m, .int .i64 h, .slice A10 L.length c10] (0, 0) _ rfl (abox3 HX27.out _ _ _) Tryz.underlying27 rfl (by kernel_rfl)) rfl
   ⟨.slice A10 L.length c10, by rw [HL.out, HNP.out, HFV.out], by rw [HL.out]; exact up_own ((((HOy.out.below HB7.out).set (w.heap.size + 2) 0 _ hn1).set (w.heap.size + 2) 1 _ hn1).set (w.heap.size + 2) 2 _ hn1 |>.mono (Q := Up base) (fun i hi _ => by rw [HPB.out] at hi; exact hi.1)) (by omega), below3 ((HB.out.trans (HBy.out.mono HB.out.size)).trans (HB7.out.mono (by have := HB.out.size; have := HBy.out.size; omega))) (by omega) _ _ _⟩
end Go.Proofs.YtakaielemicpkaaGreatDoor
namespace Go.Proofs.YtakaielemicpkaaGreatDoor
open Go.RowKit
def idxP (l : List Int) (v : Int) : Int := if l.findIdx (fun x => decide (x = v)) < l.length then (l.findIdx (fun x => decide (x = v)) : Int) else -1
theorem idxP_hit {l : List Int} {v : Int} {k : Nat} (hk : k < l.length) (h : l[k] = v) (hn : ∀ i (hi : i < k), (l[i]'(by omega)) ≠ v) : idxP l v = (k : Int) := by
 have : l.findIdx (fun x => decide (x = v)) = k := (List.findIdx_eq hk).2 ⟨by simp [h], fun i hi => by simpa using hn i hi⟩
 unfold idxP
 rw [this, if_pos hk]
theorem idxP_none {l : List Int} {v : Int} (hn : ∀ i (hi : i < l.length), l[i] ≠ v) : idxP l v = -1 := by
 have : l.findIdx (fun x => decide (x = v)) = l.length := by
  rw [List.findIdx_eq_length]
  intro x hx
  obtain ⟨i, hi, rfl⟩ := List.mem_iff_getElem.1 hx
  simpa using hn i hi
 unfold idxP
 rw [this, if_neg (by omega)]
theorem idxP_mem (l : List Int) (v : Int) : decide (idxP l v ≥ 0) = decide (v ∈ l) := by
 by_cases h : v ∈ l
 ·have : l.findIdx (fun x => decide (x = v)) < l.length := List.findIdx_lt_length_of_exists ⟨v, h, by simp⟩
  rw [decide_eq_true h, idxP, if_pos this]
  exact decide_eq_true (by omega)
 ·rw [decide_eq_false h, idxP_none (fun i hi e => h (by rw [← e]; exact List.getElem_mem hi))]
  rfl
set_option maxRecDepth 100000 in
set_option maxHeartbeats 2000000 in
theorem indexI_any (A : Option Addr) (c : Nat) (l : List Int) (v : Int) (w : World) (hs : Sl w (fun b => b < w.heap.size) A c l) (h63 : l.length ≤ 1073741824) :
  Calls Tryz.prog 44 #[.slice A l.length c, .int .i64 v] w fun x w' => x = .returned (.int .i64 (idxP l v)) ∧ w = w' := by
 have HS := Lh hs
 clear hs
 go_enter Tryz.func44, Tryz.ntmps44
 go_wp2_with fail
 go_loopw [5, 8] (fun _ i wr => wr = w ∧ ∃ k : Nat, k ≤ l.length ∧ i = .int .i64 k ∧ Hid (∀ i (hi : i < l.length), i < k → l[i] ≠ v)) (fun _ i _ => l.length - (intOf i).toNat)
 case atStart => exact ⟨rfl, 0, Nat.zero_le _, rfl, Lh (fun i hi h => absurd h (Nat.not_lt_zero _))⟩
 case round =>
  obtain ⟨hw9, k, hk, rfl, HN⟩ := hrel
  subst hw9
  by_cases hlt : k < l.length
  ·obtain ⟨b, o, rfl, -, -, -, k0⟩ := int_at HS.out hlt
   have hkl : (k : Int) < (l.length : Int) := by omega
   have hk0 : (0 : Int) ≤ (k : Int) := by omega
   have hlc : l.length ≤ c := HS.out.1
   have HX : Hid (∃ x, l[k] = x) := Lh ⟨_, rfl⟩
   obtain ⟨x, hx⟩ := HX.out
   have HXE := Lh hx
   rw [hx] at k0
   clear hx HX
   by_cases hq : v = x
   ·subst hq
    have HF : Hid (idxP l v = (k : Int)) := Lh (idxP_hit hlt HXE.out (fun i hi => HN.out i (by omega) hi))
    go_wp2_with fail
    go_ret
    exact ⟨by rw [HF.out]; rfl, by first | rfl | trivial⟩
   ·have hqb : (v == x) = false := by rw [beq_eq_false_iff_ne]; exact hq
    have HN2 : Hid (∀ i (hi : i < l.length), i < k + 1 → l[i] ≠ v) := Lh (fun i hi h => by
     by_cases hik : i = k
     ·subst hik; rw [HXE.out]; exact fun e => hq e.symm
     ·exact HN.out i hi (by omega))
    clear hq
    go_wp2_with fail
    go_roundw
    case rel => exact ⟨trivial, k + 1, by omega, by go_num, HN2⟩
    case measure => simp [intOf]; omega
  ·have HF : Hid (idxP l v = -1) := Lh (idxP_none fun i hi => HN.out i hi (by omega))
   go_wp2_with fail
   go_ret
   exact ⟨by rw [HF.out]; rfl, by first | rfl | trivial⟩
set_option maxRecDepth 100000 in
theorem containsI_any (A : Option Addr) (c : Nat) (l : List Int) (v : Int) (w : World) (hs : Sl w (fun b => b < w.heap.size) A c l) (h63 : l.length ≤ 1073741824) :
  Calls Tryz.prog 70 #[.slice A l.length c, .int .i64 v] w fun x w' => x = .returned (.bool (decide (v ∈ l))) ∧ w = w' := by
 have HI := Lh (indexI_any A c l v w hs h63)
 have HM := Lh (idxP_mem l v)
 clear hs
 go_enter Tryz.func70, Tryz.ntmps70
 go_wp2_with (first
  |(go_at_call 44; refine HI.out.mono ?_; rintro e w1 ⟨rfl, rfl⟩)
  | fail)
 go_ret
 exact ⟨by rw [← HM.out]; rfl, by first | rfl | trivial⟩
end Go.Proofs.YtakaielemicpkaaGreatDoor
namespace Go.Proofs.YtakaielemicpkaaGreatDoor
open Go.RowKit
structure CK (W : World) (g : Nat) (rows : List SC) (l : List SectP) (k : Nat) (s : SectP) (v1 v2 : Value) : Prop where
 own : Own W g 45 (.slice (some ⟨g, 0, none⟩) l.length l.length) rows
 len : rows.length = l.length
 row : rows[k]? = some ⟨s.entry, s.frozen, v1, v2⟩
 sec : l[k]? = some s
 f : ∀ i (h1 : i < rows.length) (h2 : i < l.length), rows[i].e = l[i].entry ∧ rows[i].f = l[i].frozen ∧ I64 l[i].entry
 o : ∀ i (h1 : i < rows.length) (h2 : i < l.length), i ≠ k → Rep.R W (Off g v1) [rows[i].v1] l[i].vers ∧ Rep.R W (Off g v1) [rows[i].v2] l[i].texts
 ko : Own W (g + 1) 3 v1 s.vers
 kt : Rep.R W (Off g v1) [v2] s.texts
 kc : ∃ A, v2 = .slice A s.texts.length s.texts.length
section
variable {W W' : World} {g k : Nat} {rows : List SC} {l : List SectP} {s : SectP} {v1 v2 : Value}
theorem CX.ck (h : CX W g rows l l.length) (hk : k < l.length) : ∃ v1 v2, CK W g rows l k l[k] v1 v2 := by
 have hkr : k < rows.length := by rw [h.cs.len]; exact hk
 obtain ⟨a1, a2, a3, -, -⟩ := h.cs.f k hkr hk
 have e : rows[k] = ⟨l[k].entry, l[k].frozen, rows[k].v1, rows[k].v2⟩ := by rw [← a1, ← a2]
 exact ⟨rows[k].v1, rows[k].v2, h.cs.own, h.cs.len, by rw [List.getElem?_eq_getElem hkr, e], List.getElem?_eq_getElem hk, fun i h1 h2 => ⟨(h.cs.f i h1 h2).1, (h.cs.f i h1 h2).2.1, (h.cs.f i h1 h2).2.2.1⟩,
  fun i h1 h2 hik => ⟨(h.ap k hkr hk hk i h1 h2 h2).1 (Ne.symm hik), (h.ap k hkr hk hk i h1 h2 h2).2⟩, (h.vo k hkr hk hk).1, (h.ap k hkr hk hk k hkr hk hk).2, (h.vo k hkr hk hk).2⟩
theorem CK.lt (h : CK W g rows l k s v1 v2) : k < l.length := (List.getElem?_eq_some_iff.1 h.sec).1
theorem CK.glt (h : CK W g rows l k s v1 v2) : g < W.heap.size := (h.own.lt g rfl).2
theorem CK.off (h : CK W g rows l k s v1 v2) : some g ≠ v1.ownBlock := fun e => by have := (h.ko.lt g e.symm).1; omega
theorem CK.to (h : CK W g rows l k s v1 v2) (hb : Below W.heap.size W W') : CK W' g rows l k s v1 v2 :=
 ⟨h.own.below hb, h.len, h.row, h.sec, h.f, fun i h1 h2 hik => ⟨Rep.keep (h.o i h1 h2 hik).1 (Kept.all hb), Rep.keep (h.o i h1 h2 hik).2 (Kept.all hb)⟩, h.ko.below hb, Rep.keep h.kt (Kept.all hb), h.kc⟩
theorem CK.cells (h : CK W g rows l k s v1 v2) :
  W.cell? ⟨g, k * 4, none⟩ = some (.int .i64 s.entry) ∧ W.cell? ⟨g, k * 4 + 1, none⟩ = some (.bool s.frozen) ∧ W.cell? ⟨g, k * 4 + 2, none⟩ = some v1 ∧ W.cell? ⟨g, k * 4 + 3, none⟩ = some v2 ∧ ∀ o, W.frozen? ⟨g, o, none⟩ = false := by
 have hkr : k < rows.length := (List.getElem?_eq_some_iff.1 h.row).1
 have e := (List.getElem?_eq_some_iff.1 h.row).2
 obtain ⟨g', cap, es, e1, -, -, -, hr, hc, hf⟩ := h.own.at_ (k := k) hkr
 injection e1 with q1 _ _
 injection q1 with q1
 injection q1 with q1 _ _
 subst q1
 rw [e] at hr
 obtain ⟨rfl, -, -⟩ := hr
 exact ⟨hc 0 _ rfl, hc 1 _ rfl, hc 2 _ rfl, hc 3 _ rfl, hf⟩
theorem CK.reset (h : CK W g rows l k s v1 v2) : ∃ rows', CK ((W.setCell ⟨g, k * 4 + 2, none⟩ (.slice none 0 0)).setCell ⟨g, k * 4 + 3, none⟩ (.slice none 0 0)) g rows' (l.set k { s with vers := [], texts := [] }) k { s with vers := [], texts := [] } (.slice none 0 0) (.slice none 0 0) := by
 have hkr : k < rows.length := (List.getElem?_eq_some_iff.1 h.row).1
 have e := (List.getElem?_eq_some_iff.1 h.row).2
 have hk := h.lt
 have es := (List.getElem?_eq_some_iff.1 h.sec).2
 obtain ⟨a2, b3⟩ := rows_set h.own hkr (v1 := .slice none 0 0) (v2 := .slice none 0 0) rfl rfl
 have kp : Kept (fun b => g < b) W ((W.setCell ⟨g, k * 4 + 2, none⟩ (.slice none 0 0)).setCell ⟨g, k * 4 + 3, none⟩ (.slice none 0 0)) := Kept.grown b3 (fun i hi e => by have h : g < i := hi; injection e with e; omega)
 have far : ∀ b, Off g v1 b → Off g (.slice none 0 0) b := fun b hb => ⟨hb.1, by simp [Value.ownBlock]⟩
 refine ⟨_, by rw [List.length_set]; exact a2, by rw [List.length_set, List.length_set]; exact h.len, by rw [List.getElem?_set_self hkr, e], by rw [List.getElem?_set_self hk], fun i h1 h2 => ?_, fun i h1 h2 hik => ?_, Own.nil _ _ _, ⟨none, 0, rfl, Sl.nil _ _ _ _ (by simp [maxLen]), by simp⟩, ⟨none, rfl⟩⟩
 ·rw [List.length_set] at h1 h2
  have hf := h.f i h1 h2
  by_cases hik : k = i
  ·subst hik
   rw [List.getElem_set_self, List.getElem_set_self]
   rw [es] at hf
   exact hf
  ·rw [List.getElem_set_ne hik, List.getElem_set_ne hik]
   exact hf
 ·rw [List.length_set] at h1 h2
  have ho := h.o i h1 h2 hik
  rw [List.getElem_set_ne (Ne.symm hik), List.getElem_set_ne (Ne.symm hik)]
  exact ⟨Rep.keep (Rep.mono ho.1 (fun b hb _ => far b hb)) (kp.mono fun b hb => hb.1), Rep.keep (Rep.mono ho.2 (fun b hb _ => far b hb)) (kp.mono fun b hb => hb.1)⟩
theorem CK.fin (h : CK W g rows l k s v1 v2) (hk : Kept (fun b => g ≤ b ∧ some b ≠ v1.ownBlock) W W') {u1 u2 : Value} {vs : List Int} {ts : List TextP} (h1 : Own W' (g + 1) 3 u1 vs) (h2 : Rep.R W' (fun b => g < b) [u2] ts) :
  OwnP ((W'.setCell ⟨g, k * 4 + 2, none⟩ u1).setCell ⟨g, k * 4 + 3, none⟩ u2) g 45 (.slice (some ⟨g, 0, none⟩) l.length l.length) (l.set k ⟨s.entry, s.frozen, vs, ts⟩) (Up g) ∧ W'.grownBy ((W'.setCell ⟨g, k * 4 + 2, none⟩ u1).setCell ⟨g, k * 4 + 3, none⟩ u2) (some g) := by
 have hkr : k < rows.length := (List.getElem?_eq_some_iff.1 h.row).1
 have e := (List.getElem?_eq_some_iff.1 h.row).2
 have hkl := h.lt
 have es := (List.getElem?_eq_some_iff.1 h.sec).2
 have hv1 : Rep.R W' (fun b => g < b) [u1] vs := by
  obtain ⟨A, c, e, -⟩ := h1.form
  subst e
  exact rep_ints h1 rfl (fun b hb => hb)
 have o1 := Rep.one hv1 u1 (by simp)
 have o2 := Rep.one h2 u2 (by simp)
 have own' : Own W' g 45 (.slice (some ⟨g, 0, none⟩) l.length l.length) rows := h.own.at_blocks (fun q hq eq => by cases eq; exact hk g ⟨Nat.le_refl _, h.off⟩ hq)
 obtain ⟨a2, b3⟩ := rows_set own' hkr (v1 := u1) (v2 := u2) o1 o2
 refine ⟨?_, b3⟩
 have kp : Kept (fun b => g < b) W' ((W'.setCell ⟨g, k * 4 + 2, none⟩ u1).setCell ⟨g, k * 4 + 3, none⟩ u2) := Kept.grown b3 (fun i hi e => by have h : g < i := hi; injection e with e; omega)
 have hcs : CS ((W'.setCell ⟨g, k * 4 + 2, none⟩ u1).setCell ⟨g, k * 4 + 3, none⟩ u2) g (rows.set k ⟨rows[k].e, rows[k].f, u1, u2⟩) (l.set k ⟨s.entry, s.frozen, vs, ts⟩) (l.set k ⟨s.entry, s.frozen, vs, ts⟩).length := by
  refine ⟨by rw [List.length_set]; exact a2, by rw [List.length_set, List.length_set]; exact h.len, fun i h3 h4 => ?_⟩
  rw [List.length_set] at h3 h4 ⊢
  have hf := h.f i h3 h4
  by_cases hik : k = i
  ·subst hik
   rw [List.getElem_set_self, List.getElem_set_self]
   rw [es] at hf
   exact ⟨hf.1, hf.2.1, hf.2.2, fun _ => ⟨Rep.keep hv1 kp, Rep.keep h2 kp⟩, fun h => absurd h (by omega)⟩
  ·rw [List.getElem_set_ne hik, List.getElem_set_ne hik]
   have ho := h.o i h3 h4 (Ne.symm hik)
   have kp2 : Kept (Off g v1) W W' := hk.mono (fun b hb => ⟨Nat.le_of_lt hb.1, hb.2⟩)
   exact ⟨hf.1, hf.2.1, hf.2.2, fun _ => ⟨Rep.keep (Rep.mono (Rep.keep ho.1 kp2) (fun b hb _ => hb.1)) kp, Rep.keep (Rep.mono (Rep.keep ho.2 kp2) (fun b hb _ => hb.1)) kp⟩, fun h => absurd h (by omega)⟩
 have := hcs.done
 rw [List.length_set] at this
 exact this
end
end Go.Proofs.YtakaielemicpkaaGreatDoor
