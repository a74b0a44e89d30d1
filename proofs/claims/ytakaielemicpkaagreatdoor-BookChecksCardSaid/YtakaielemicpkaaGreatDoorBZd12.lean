/- What the reference reckons for lines, as plain data. No program is in sight.
The reference's slack, gaps and regularity. No condition but that the widths are regular.
The reference's ends of lines are those of package para. No condition but that the widths are regular.
The width of a glyph by the reference, and Valid and Width of it. No condition.
Valid and Width of the reference; Short; equal lists of strings. No condition.
The reference's lines of a paragraph are those of package para. No condition but that the widths are regular.
The error of a word, and of the sizes of a text, by the reference. No condition but that the sizes fit.
The error of the sizes of a text, by the reference. No condition but that the sizes fit. -/
import Derived.Test.YtakaielemicpkaaGreatDoorBZd11
namespace Go.Proofs.YtakaielemicpkaaGreatDoor
open Go.RowKit
theorem slack_shift (ws : List Int) (a d : Int) : ws.foldl (fun s w => s - (w + 6)) (a + d) = ws.foldl (fun s w => s - (w + 6)) a + d := by
 induction ws generalizing a with
 | nil => rfl
 | cons x ws ih => rw [List.foldl_cons, List.foldl_cons, show a + d - (x + 6) = a - (x + 6) + d by omega, ih]
theorem slackP_add (ws : List Int) (m d : Int) : slackP ws (m + d) = slackP ws m + d := by
 unfold slackP; rw [show m + d + 6 = m + 6 + d by omega, slack_shift]
theorem slackP_snoc (ws : List Int) (x m : Int) : slackP (ws ++ [x]) m = slackP ws m - (x + 6) := by unfold slackP; rw [List.foldl_append]; rfl
def slackR (ws : List Int) (m : Int) (k : Nat) : Int := slackP (ws.take k) (m - 6 * ((ws.length : Int) - (k : Int)))
theorem slackR_zero (ws : List Int) (m : Int) : slackR ws m 0 = m - 6 * ((ws.length : Int) - 1) := by
 unfold slackR slackP
 rw [List.take_zero, List.foldl_nil]
 omega
theorem slackR_step (ws : List Int) (m : Int) {k : Nat} (h : k < ws.length) : slackR ws m (k + 1) = slackR ws m k - ws[k] := by
 unfold slackR
 rw [List.take_succ_eq_append_getElem h, slackP_snoc, show m - 6 * ((ws.length : Int) - ((k + 1 : Nat) : Int)) = m - 6 * ((ws.length : Int) - (k : Int)) + 6 by omega, slackP_add]
 omega
theorem slackR_all (ws : List Int) (m : Int) : slackR ws m ws.length = slackP ws m := by
 unfold slackR
 rw [List.take_length, show m - 6 * ((ws.length : Int) - (ws.length : Int)) = m by omega]
theorem slackR_bound {ws : List Int} {m : Int} (hr : Reg ws m) {k : Nat} (hk : k ≤ ws.length) : -1000000 ≤ slackR ws m k ∧ slackR ws m k ≤ 1000000 := by
 have hn := hr.n
 have h1 := hr.lo
 have h2 := hr.hi
 have h3 := slackP_bound (ws.take k) (fun x hx => hr.w x (List.mem_of_mem_take hx)) (m - 6 * ((ws.length : Int) - (k : Int)) + 6)
 rw [List.length_take, Nat.min_eq_left hk] at h3
 unfold slackR slackP
 omega
def gapR (last : Bool) (s k : Int) (i : Nat) : Int := if last = true then 6 else gapF s k i
theorem gapsR_eq (ws : List Int) (m : Int) (last : Bool) : gapsP ws m last = (List.range (ws.length - 1)).map (gapR last (slackP ws m) ((ws.length - 1 : Nat) : Int)) := by
 unfold gapsP
 by_cases h : ws.length ≤ 1
 ·rw [if_pos h, show ws.length - 1 = 0 by omega]; rfl
 ·rw [if_neg h]
  cases last with
  | true =>
   rw [if_pos rfl]
   refine List.ext_getElem (by simp) (fun i h1 h2 => ?_)
   simp [gapR]
  | false =>
   rw [if_neg (by simp)]
   rfl
end Go.Proofs.YtakaielemicpkaaGreatDoor
namespace Go.Proofs.YtakaielemicpkaaGreatDoor
open Go.RowKit
set_option maxHeartbeats 1000000 in
theorem rslack_any (A : Option Addr) (c : Nat) (ws : List Int) (m : Int) (w : World) (hs : Sl w (fun b => b < w.heap.size) A c ws) (hr : Reg ws m) :
  Calls Tryz.prog 130 #[.slice A ws.length c, .int .i64 m] w fun e w' => e = .returned (.int .i64 (slackP ws m)) ∧ w = w' := by
 have HS := Lh hs
 have HR := Lh hr
 have h1 : m ≤ 2000 := hr.hi
 have h2 : 500 ≤ m := hr.lo
 have h3 : ws.length ≤ 500 := hr.n
 have hc : ws.length ≤ c := hs.1
 have HZ := Lh (slackR_zero ws m)
 obtain ⟨n, hn⟩ : ∃ n, ws.length = n := ⟨_, rfl⟩
 have HN := Lh hn
 rw [hn] at h3 hc HZ ⊢
 clear hs hr hn
 go_enter Tryz.func130, Tryz.ntmps130
 go_wp2_with fail
 go_loopw [5, 6] (fun s i wr => ∃ k : Nat, k ≤ n ∧ i = .int .i64 k ∧ s = .int .i64 (slackR ws m k) ∧ w = wr) (fun _ i _ => n - (intOf i).toNat)
 case atStart => exact ⟨0, by omega, rfl, by rw [HZ.out], by first | rfl | trivial⟩
 case round =>
  obtain ⟨k, hk, rfl, rfl, rfl⟩ := hrel
  by_cases hlt : k < n
  ·have hkl : k < ws.length := by rw [HN.out]; exact hlt
   obtain ⟨b, o, rfl, -, -, -, e1⟩ := int_at HS.out hkl
   have hst := slackR_step ws m hkl
   have hb := slackR_bound HR.out (k := k) (by omega)
   have hx := HR.out.w ws[k] (List.getElem_mem hkl)
   obtain ⟨y, hy⟩ : ∃ y, ws[k] = y := ⟨_, rfl⟩
   obtain ⟨s, hsk⟩ : ∃ s, slackR ws m k = s := ⟨_, rfl⟩
   rw [hy] at e1 hst hx
   rw [hsk] at hst hb ⊢
   have HST := Lh hst
   have hkI : (k : Int) < (n : Int) := by omega
   obtain ⟨hb1, hb2⟩ := hb
   obtain ⟨hx1, hx2⟩ := hx
   clear hy hst hkl hsk
   go_wp2_with fail
   go_roundw
   case rel => exact ⟨k + 1, by omega, by go_num, by rw [HST.out], by first | rfl | trivial⟩
   case measure => simp [intOf]; omega
  ·obtain rfl : k = n := by omega
   have hall : slackR ws m k = slackP ws m := by rw [← HN.out]; exact slackR_all ws m
   rw [hall]
   have HA := Lh hall
   clear hall
   go_wp2_with fail
   go_ret
   first | exact ⟨rfl, rfl⟩ | exact ⟨rfl, trivial⟩
set_option maxHeartbeats 1000000 in
theorem regular_any (A : Option Addr) (c : Nat) (ws : List Int) (m : Int) (w : World) (hs : Sl w (fun b => b < w.heap.size) A c ws) (hr : Reg ws m) :
  Calls Tryz.prog 129 #[.slice A ws.length c, .int .i64 m] w fun e w' => e = .returned (.int .i64 0) ∧ Below w.heap.size w w' := by
 have HS := Lh hs
 have HR := Lh hr
 have h1 : m ≤ 2000 := hr.hi
 have h2 : 500 ≤ m := hr.lo
 have h3 : ws.length ≤ 500 := hr.n
 have hc : ws.length ≤ c := hs.1
 obtain ⟨n, hn⟩ : ∃ n, ws.length = n := ⟨_, rfl⟩
 have HN := Lh hn
 rw [hn] at h3 hc ⊢
 clear hs hr hn
 go_enter Tryz.func129, Tryz.ntmps129
 go_wp2_with fail
 go_loopw [5] (fun i wr => ∃ k : Nat, k ≤ n ∧ i = .int .i64 k ∧ Below w.heap.size w wr) (fun i _ => n - (intOf i).toNat)
 case atStart => exact ⟨0, by omega, rfl, Below.refl _ _⟩
 case round =>
  obtain ⟨k, hk, rfl, hbl⟩ := hrel
  by_cases hlt : k < n
  ·have hkl : k < ws.length := by rw [HN.out]; exact hlt
   obtain ⟨b, o, rfl, -, -, -, e1⟩ := int_at (HS.out.to hbl) hkl
   have hx := HR.out.w ws[k] (List.getElem_mem hkl)
   obtain ⟨y, hy⟩ : ∃ y, ws[k] = y := ⟨_, rfl⟩
   rw [hy] at e1 hx
   have hkI : (k : Int) < (n : Int) := by omega
   obtain ⟨hx1, hx2⟩ := hx
   have HBL := Lh hbl
   clear hy hkl hbl
   go_wp2_with fail
   go_roundw
   case rel => exact ⟨k + 1, by omega, by go_num, HBL.out⟩
   case measure => simp [intOf]; omega
  ·obtain rfl : k = n := by omega
   have HBL := Lh hbl
   clear hbl
   go_wp2_with fail
   go_ret
   exact ⟨rfl, HBL.out⟩
set_option maxRecDepth 100000 in
set_option maxHeartbeats 4000000 in
theorem rgaps_any (A : Option Addr) (c : Nat) (ws : List Int) (m : Int) (last : Bool) (w : World) (hs : Sl w (fun b => b < w.heap.size) A c ws) (hr : Reg ws m) :
  Calls Tryz.prog 111 #[.slice A ws.length c, .int .i64 m, .bool last] w fun e w' => ∃ v, e = .returned v ∧ Own w' w.heap.size 3 v (gapsP ws m last) ∧ Below w.heap.size w w' := by
 have h3 : ws.length ≤ 500 := hr.n
 have HSL := Lh (rslack_any A c ws m w hs hr)
 have hsb := slackP_bound ws hr.w (m + 6)
 have HG := Lh (gapsR_eq ws m last)
 have h1 := hr.lo
 have h2 := hr.hi
 obtain ⟨sl, hsl⟩ : ∃ sl, slackP ws m = sl := ⟨_, rfl⟩
 rw [hsl] at HSL HG
 have hb1 : -300000 ≤ sl := by rw [← hsl]; unfold slackP; omega
 have hb2 : sl ≤ 3000 := by rw [← hsl]; unfold slackP; omega
 obtain ⟨n, hn⟩ : ∃ n, ws.length = n := ⟨_, rfl⟩
 have HN := Lh hn
 rw [hn] at h3 HSL HG ⊢
 obtain ⟨kI, hki⟩ : ∃ kI : Int, (n : Int) - 1 = kI := ⟨_, rfl⟩
 have hk1 : -1 ≤ kI := by omega
 have hk2 : kI ≤ 499 := by omega
 have HK : Hid ((n : Int) - 1 = kI) := Lh hki
 obtain ⟨q, hq⟩ : ∃ q, sl.tdiv kI = q := ⟨_, rfl⟩
 obtain ⟨r, hr2⟩ : ∃ r, sl.tmod kI = r := ⟨_, rfl⟩
 have hqb : -300000 ≤ q ∧ q ≤ 300000 := by
  have h1 : (sl.tdiv kI).natAbs = sl.natAbs / kI.natAbs := Int.natAbs_tdiv sl kI
  have h2 := Nat.div_le_self sl.natAbs kI.natAbs
  rw [hq] at h1
  omega
 obtain ⟨hq1, hq2⟩ := hqb
 have HF : Hid (∀ j : Nat, gapF sl kI j = 6 + q + if (j : Int) < r then 1 else 0) := Lh (fun j => by unfold gapF; rw [hq, hr2])
 have hwq : IntKind.i64.wrap (sl.tdiv kI) = q := by rw [hq]; exact IntWalk.i64_in _ (by omega)
 have HWQ := Lh hwq
 have HQ := Lh hq
 have HR2 := Lh hr2
 clear hs hr hn hsl hsb hwq hq hr2
 go_enter Tryz.func111, Tryz.ntmps111
 go_wp2_with (first | (go_at_call 130; refine HSL.out.mono ?_; rintro e w' ⟨rfl, rfl⟩) | fail)
 go_loopw [7, 10] (fun v i wr => ∃ j : Nat, i = .int .i64 j ∧ j ≤ n - 1 ∧ Hid (Own wr w.heap.size 3 v ((List.range j).map (gapR last sl kI))) ∧ Hid (Below w.heap.size w wr)) (fun _ i _ => n - 1 - (intOf i).toNat)
 case atStart => exact ⟨0, rfl, by omega, Lh (Own.nil _ _ _), Lh (Below.refl _ _)⟩
 case round =>
  obtain ⟨j, rfl, hj, HO, HB⟩ := hrel
  by_cases hlt : (j : Int) < kI
  ·obtain ⟨A2, c2, hv2, -⟩ := HO.out.form
   subst hv2
   obtain ⟨x, hx⟩ : ∃ x, gapR last sl kI j = x := ⟨_, rfl⟩
   have HX : Hid ((List.range (j + 1)).map (gapR last sl kI) = (List.range j).map (gapR last sl kI) ++ [x]) := Lh (by rw [List.range_succ, List.map_append, ← hx]; rfl)
   obtain ⟨L, hL⟩ : ∃ L, (List.range j).map (gapR last sl kI) = L := ⟨_, rfl⟩
   have hLl : L.length = j := by rw [← hL, List.length_map, List.length_range]
   rw [hL] at HO HX ⊢
   have HO2 := HO
   have HLL := Lh hLl
   have hk0 : ¬ kI = 0 := by omega
   have hk00 : (kI == 0) = false := by rw [beq_eq_false_iff_ne]; exact hk0
   have hwq := HWQ.out
   have hj4 : j ≤ 499 := by omega
   clear HO hL hLl
   cases last with
   | true =>
    obtain rfl : x = 6 := by rw [← hx]; rfl
    clear hx
    have HI : Hid (I64 (6)) := Lh (by unfold I64; omega)
    have HO3 := Lh (HO2.out.alloc (.cells #[.int .i64 (6)] 3))
    have HS3 : Hid (w.heap.size ≤ wr.heap.size) := Lh HB.out.size
    go_wp2_with (first
     |(at_builtin; refine wpList_push (α := Int) _ rfl (.tmp 37) (.tmp 39) 22 rfl w.heap.size 3 (.int .i64 0) 8 Tryz.underlying22 int_info rfl (by decide) _ L rfl HO3.out wr.heap.size #[.int .i64 (6)] (6) (0, 0) 3 rfl (heap_alloc_new wr _) ⟨rfl, HI.out⟩ (by have := HLL.out; omega) (by have := HLL.out; omega) (by have := HS3.out; simp; omega) _ rfl ?_; intro g5 p5 w5 hown5 hg5 hat5 hlt5; have HON := Lh hown5; have HBN := Lh (below_push HB.out HO2.out HS3.out hg5); clear hown5 hg5 hat5 hlt5)
     | fail)
    go_roundw
    case rel => exact ⟨j + 1, by go_num, by omega, Lh (by rw [HX.out]; exact HON.out), HBN⟩
    case measure => simp [intOf]; omega
   | false =>
    by_cases hjr : (j : Int) < r
    ·have hxe : x = 6 + q + 1 := by rw [← hx]; show gapF sl kI j = _; rw [HF.out, if_pos hjr]
     subst hxe
     have hr3 := HR2.out
     clear hx
     have HI : Hid (I64 (6 + q + 1)) := Lh (by unfold I64; omega)
     have HO3 := Lh (HO2.out.alloc (.cells #[.int .i64 (6 + q + 1)] 3))
     have HS3 : Hid (w.heap.size ≤ wr.heap.size) := Lh HB.out.size
     go_wp2_with (first
      |(at_builtin; refine wpList_push (α := Int) _ rfl (.tmp 37) (.tmp 39) 22 rfl w.heap.size 3 (.int .i64 0) 8 Tryz.underlying22 int_info rfl (by decide) _ L rfl HO3.out wr.heap.size #[.int .i64 (6 + q + 1)] (6 + q + 1) (0, 0) 3 rfl (heap_alloc_new wr _) ⟨rfl, HI.out⟩ (by have := HLL.out; omega) (by have := HLL.out; omega) (by have := HS3.out; simp; omega) _ rfl ?_; intro g5 p5 w5 hown5 hg5 hat5 hlt5; have HON := Lh hown5; have HBN := Lh (below_push HB.out HO2.out HS3.out hg5); clear hown5 hg5 hat5 hlt5)
      | fail)
     go_roundw
     case rel => exact ⟨j + 1, by go_num, by omega, Lh (by rw [HX.out]; exact HON.out), HBN⟩
     case measure => simp [intOf]; omega
    ·have hxe : x = 6 + q := by rw [← hx]; show gapF sl kI j = _; rw [HF.out, if_neg hjr]; omega
     subst hxe
     have hr3 := HR2.out
     clear hx
     have HI : Hid (I64 (6 + q)) := Lh (by unfold I64; omega)
     have HO3 := Lh (HO2.out.alloc (.cells #[.int .i64 (6 + q)] 3))
     have HS3 : Hid (w.heap.size ≤ wr.heap.size) := Lh HB.out.size
     go_wp2_with (first
      |(at_builtin; refine wpList_push (α := Int) _ rfl (.tmp 37) (.tmp 39) 22 rfl w.heap.size 3 (.int .i64 0) 8 Tryz.underlying22 int_info rfl (by decide) _ L rfl HO3.out wr.heap.size #[.int .i64 (6 + q)] (6 + q) (0, 0) 3 rfl (heap_alloc_new wr _) ⟨rfl, HI.out⟩ (by have := HLL.out; omega) (by have := HLL.out; omega) (by have := HS3.out; simp; omega) _ rfl ?_; intro g5 p5 w5 hown5 hg5 hat5 hlt5; have HON := Lh hown5; have HBN := Lh (below_push HB.out HO2.out HS3.out hg5); clear hown5 hg5 hat5 hlt5)
      | fail)
     go_roundw
     case rel => exact ⟨j + 1, by go_num, by omega, Lh (by rw [HX.out]; exact HON.out), HBN⟩
     case measure => simp [intOf]; omega
  ·have hje : j = n - 1 := by omega
   have HFN : Hid (gapsP ws m last = (List.range j).map (gapR last sl kI)) := Lh (by
    rw [HG.out, hje]
    by_cases h0 : n = 0
    ·subst h0; rfl
    ·rw [show ((n - 1 : Nat) : Int) = kI by omega])
   clear hje
   go_wp2_with fail
   go_ret
   exact ⟨_, rfl, by rw [HFN.out]; exact HO.out, HB.out⟩
end Go.Proofs.YtakaielemicpkaaGreatDoor
namespace Go.Proofs.YtakaielemicpkaaGreatDoor
open Go.RowKit
def curR (d : Nat) (cur : Int × Nat) : Int := if d = 0 then -1 else cur.1
set_option maxRecDepth 100000 in
set_option maxHeartbeats 8000000 in
theorem rends_any (A : Option Addr) (c : Nat) (ws : List Int) (m : Int) (w : World) (hs : Sl w (fun b => b < w.heap.size) A c ws) (hr : Reg ws m) :
  Calls Tryz.prog 110 #[.slice A ws.length c, .int .i64 m] w fun e w' => ∃ v, e = .returned (.tuple #[v, .int .i64 0]) ∧ Own w' w.heap.size 3 v ((endsP ws m).map (fun (n : Nat) => (n : Int))) ∧ Below w.heap.size w w' := by
 have HC := Lh (regular_any A c ws m w hs hr)
 have HS := Lh hs
 have HR := Lh hr
 have h1 : m ≤ 2000 := hr.hi
 have h2 : 500 ≤ m := hr.lo
 have h3 : ws.length ≤ 500 := hr.n
 have hn1 : Value.int .i64 ((ws.length : Int) + 1) = Value.int .i64 ((ws.length + 1 : Nat) : Int) := by rw [Int.natCast_add]; rfl
 have HN1 := Lh hn1
 clear hs hr hn1
 go_enter Tryz.func110, Tryz.ntmps110
 go_wp2_with fail
 refine HC.out.mono ?_
 rintro e w1 ⟨rfl, hb1⟩
 have HB1 := Lh hb1
 clear HC hb1
 go_wp2_with (first
  |(refine wpList_make rfl 22 (.tmp 25) (.tmp 25) rfl 3 (.int .i64 0) 1 8 Tryz.underlying22 int_info (ws.length + 1) HN1.out HN1.out (by omega) (by omega) ?_)
  |(refine wpList_make rfl 22 (.tmp 28) (.tmp 28) rfl 3 (.int .i64 0) 1 8 Tryz.underlying22 int_info (ws.length + 1) HN1.out HN1.out (by omega) (by omega) ?_)
  | fail)
 have hr0 := irow_made1 w1 (ws.length + 1) 3
 have hr1 := irow_made1 (w1.alloc (.cells (madeCells #[Value.int .i64 0] (ws.length + 1)) 3)) (ws.length + 1) 3
 rw [World.size_alloc] at hr1
 have hb1 : Below w1.heap.size w1 (w1.alloc (.cells (madeCells #[Value.int .i64 0] (ws.length + 1)) 3)) := (Below.refl _ _).alloc (Nat.le_refl _) _
 have hb2 : Below (w1.alloc (.cells (madeCells #[Value.int .i64 0] (ws.length + 1)) 3)).heap.size (w1.alloc (.cells (madeCells #[Value.int .i64 0] (ws.length + 1)) 3)) _ := (Below.refl _ _).alloc (Nat.le_refl _) (.cells (madeCells #[Value.int .i64 0] (ws.length + 1)) 3)
 have HCR := Lh (hr0.to hb2)
 have HER := Lh hr1
 have HBc := Lh (HB1.out.trans ((hb1.trans (hb2.mono (by simp))).mono HB1.out.size))
 obtain ⟨Cb, hCb⟩ : ∃ Cb, w1.heap.size = Cb := ⟨_, rfl⟩
 have HNE : Hid (Cb ≠ Cb + 1 ∧ w.heap.size ≤ Cb ∧ w.heap.size ≤ Cb + 1) := Lh ⟨by omega, by have := HB1.out.size; omega, by have := HB1.out.size; omega⟩
 obtain ⟨Eb, hEb⟩ : ∃ Eb, Cb + 1 = Eb := ⟨_, rfl⟩
 obtain ⟨wA, hwA⟩ : ∃ wA, (w1.alloc (.cells (madeCells #[Value.int .i64 0] (ws.length + 1)) 3)).alloc (.cells (madeCells #[Value.int .i64 0] (ws.length + 1)) 3) = wA := ⟨_, rfl⟩
 rw [hwA] at HCR HER HBc ⊢
 rw [hCb] at HCR HER ⊢
 rw [hEb] at HER HNE ⊢
 clear hr0 hr1 hb1 hb2 hwA hCb hEb HB1 HN1
 go_loopw [10] (fun z wr => ∃ (k : Nat) (i1 : Nat), z = .int .i64 ((i1 : Int) - 1) ∧ Hid (i1 + k = ws.length) ∧ Hid (IRow wr Cb 3 (List.replicate i1 0 ++ (bestL ws m k).map (·.1))) ∧ Hid (IRow wr Eb 3 (List.replicate i1 0 ++ (bestL ws m k).map (fun x => (x.2 : Int)))) ∧ Hid (Below w.heap.size w wr)) (fun z _ => (intOf z + 1).toNat)
 case atStart => exact ⟨0, ws.length, rfl, Lh (by omega), Lh (by rw [← rowC_start]; exact HCR.out), Lh (by rw [← rowE_start]; exact HER.out), HBc⟩
 case round =>
  clear HCR HER HBc
  obtain ⟨k, i1, rfl, HIK, HCR, HER, HBw⟩ := hrel
  by_cases hz : i1 = 0
  ·subst hz
   have HKN : Hid (k = ws.length) := Lh (by have := HIK.out; omega)
   have HE0 : Hid (IRow wr Eb 3 ((bestL ws m ws.length).map (fun x => (x.2 : Int)))) := Lh (by have := HER.out; rw [HKN.out] at this; exact this)
   clear HER HCR HKN HIK
   rw [show ((0 : Nat) : Int) - 1 = -1 from rfl]
   go_wp2_with fail
   obtain ⟨wo, rfl⟩ : ∃ wo : World, wo = wr := ⟨_, rfl⟩
   go_loopw [14, 15] (fun v vi wq => ∃ (f a : Nat) (dn : List Nat), vi = .int .i64 (a : Int) ∧ a ≤ ws.length ∧ Hid (ws.length - a ≤ f) ∧ Hid (endsP ws m = dn ++ chainE ((bestL ws m ws.length).map (·.2)) ws.length f a) ∧ Hid (dn.length ≤ a) ∧ Hid (Own wq wo.heap.size 3 v (dn.map (fun (n : Nat) => (n : Int)))) ∧ Hid (Below wo.heap.size wo wq)) (fun _ vi _ => ws.length - (intOf vi).toNat)
   case atStart => exact ⟨ws.length, 0, [], rfl, Nat.zero_le _, Lh (by omega), Lh rfl, Lh (Nat.zero_le _), Lh (Own.nil _ _ _), Lh (Below.refl _ _)⟩
   case round =>
    obtain ⟨f, a, dn, rfl, han, HF, HEN, HDL, HO, HBq⟩ := hrel
    by_cases hlt : a < ws.length
    ·have hai : (a : Int) < (ws.length : Int) := by omega
     have ha0 : (0 : Int) ≤ (a : Int) := by omega
     obtain ⟨f', rfl⟩ : ∃ f', f = f' + 1 := ⟨f - 1, by have := HF.out; omega⟩
     have HEA := Lh (bestAt_end HR.out a hlt)
     have HNX : Hid (endsP ws m = (dn ++ [(bestAt ws m a).2]) ++ chainE ((bestL ws m ws.length).map (·.2)) ws.length f' (bestAt ws m a).2) := Lh (by rw [HEN.out, chain_at ws m a f' hlt]; simp)
     have HE1 := Lh (HE0.out.to HBq.out)
     have c0 : wr.cell? ⟨Eb, a, none⟩ = some (.int .i64 ((bestAt ws m a).2 : Int)) := HE1.out.cell a (ends_at ws m a hlt)
     generalize (bestAt ws m a).2 = en at *
     have hba : Below wr.heap.size wr (wr.alloc (.cells #[.int .i64 (en : Int)] 3)) := (Below.refl _ _).alloc (Nat.le_refl _) _
     have HO2 := Lh (HO.out.below hba)
     have HI : Hid (I64 (en : Int)) := Lh (by have := HEA.out; unfold I64; omega)
     have HLD : Hid (dn.length ≤ 500) := Lh (by have := HDL.out; omega)
     have HCE : Hid (∀ W, Below wo.heap.size wo W → W.cell? ⟨Eb, a, none⟩ = some (.int .i64 (en : Int))) := Lh (fun W hW => by
      have h1 := c0
      have h2 := HE0.out.lt
      exact ((hW.cell (p := ⟨Eb, a, none⟩) h2).trans ((HBq.out.cell (p := ⟨Eb, a, none⟩) h2).symm)).trans h1)
     clear hba
     go_upto_region 26 with (first
      |(at_builtin; refine wpList_push (α := Int) _ rfl (.tmp 97) (.tmp 102) 22 rfl wo.heap.size 3 (.int .i64 0) 8 Tryz.underlying22 int_info rfl (by decide) _ (dn.map (fun (n : Nat) => (n : Int))) rfl HO2.out wr.heap.size #[.int .i64 (en : Int)] (en : Int) (0, 0) 3 rfl (heap_alloc_new wr _) ⟨rfl, HI.out⟩ (by have := HLD.out; rw [List.length_map]; omega) (by have := HLD.out; rw [List.length_map]; omega) (by have := HBq.out.size; simp; omega) _ rfl ?_; intro g5 p5 w5 hown5 hg5 hat5 hlt5)
      | fail)
     have hb5 : Below wo.heap.size wo w5 := below_push HBq.out HO.out HBq.out.size hg5
     have HO5 := Lh hown5
     have HB5 := Lh hb5
     have c5 := HCE.out w5 hb5
     clear hb5 hown5 hg5 hat5 hlt5 c0 HCE
     go_wp2_with fail
     go_roundw
     case rel => exact ⟨f', en, dn ++ [en], rfl, by have := HEA.out; omega, Lh (by have := HEA.out; have := HF.out; omega), HNX, Lh (by have := HEA.out; have := HDL.out; simp; omega), Lh (by have := HO5.out; rw [List.length_map] at this; rw [List.map_append]; exact this), HB5⟩
     case measure => (have hx1 := HEA.out; simp [intOf]; omega)
    ·have hai : ¬ (a : Int) < (ws.length : Int) := by omega
     have HFN : Hid (endsP ws m = dn) := Lh (by
      have e : chainE ((bestL ws m ws.length).map (·.2)) ws.length f a = [] := by
       cases f with
       | zero => rfl
       | succ f => rw [chainE, if_neg hlt]
      rw [HEN.out, e, List.append_nil])
     have HBz := Lh (HBw.out.trans (HBq.out.mono HBw.out.size))
     have HOz := Lh (HO.out.re HBw.out.size)
     go_wp2_with fail
     go_ret2
     exact ⟨_, rfl, by rw [HFN.out]; exact HOz.out, HBz.out⟩
  ·obtain ⟨i, rfl⟩ : ∃ i, i1 = i + 1 := ⟨i1 - 1, by omega⟩
   have hi0 : (0 : Int) ≤ (i : Int) := by omega
   have hi5 : (i : Int) < 500 := by have := HIK.out; omega
   have hi6 : (i : Int) < (ws.length : Int) := by have := HIK.out; omega
   have hii : ((i + 1 : Nat) : Int) - 1 = (i : Int) := by omega
   rw [hii]
   clear hii hz
   have HIN : Hid (i + 1 + k = ws.length) := HIK
   have HC0 : Hid (IRow wr Cb 3 (rowC ws m k i 0)) := Lh (by unfold rowC; rw [← row_open]; exact HCR.out)
   have HE0 : Hid (IRow wr Eb 3 (rowE ws m k i 0)) := Lh (by unfold rowE; rw [← row_open]; exact HER.out)
   clear HIK HCR HER
   have c0 : wr.cell? ⟨Cb, i, none⟩ = some (.int .i64 0) := HC0.out.cell i (row_at _ _ _)
   have f0 := HC0.out.fz i
   have HC1 : Hid (IRow (wr.setCell ⟨Cb, i, none⟩ (.int .i64 (-1))) Cb 3 (rowC ws m k i (curR 0 (0, 0)))) := Lh (by have := HC0.out.set i (-1); rwa [show rowC ws m k i 0 = List.replicate i 0 ++ 0 :: (bestL ws m k).map (·.1) from rfl, row_set] at this)
   have HE1 : Hid (IRow (wr.setCell ⟨Cb, i, none⟩ (.int .i64 (-1))) Eb 3 (rowE ws m k i 0)) := Lh (HE0.out.other (Ne.symm HNE.out.1) i (.int .i64 (-1)))
   have HB1 : Hid (Below w.heap.size w (wr.setCell ⟨Cb, i, none⟩ (.int .i64 (-1)))) := Lh (HBw.out.setCell (p := ⟨Cb, i, none⟩) HNE.out.2.1 _)
   clear HC0 HE0 HBw
   go_wp2_with fail
   clear c0 f0
   generalize wr.setCell ⟨Cb, i, none⟩ (.int .i64 (-1)) = wB at *
   go_loopw [11, 12] (fun vs vj ww => ∃ (d p : Nat) (s : Int) (cur : Int × Nat), vs = .int .i64 s ∧ vj = .int .i64 ((p : Int) + 1) ∧ Hid (p = i + d ∧ p ≤ ws.length) ∧ s ≤ 2006 ∧ 0 ≤ s ∧ Hid (d = 0 → s = m + 6) ∧ Hid (scanE ws.length (ws.drop i) (bestL ws m k) (m + 6) (i + 1) true (0, 0) = scanE ws.length (ws.drop p) ((bestL ws m k).drop d) s (p + 1) (decide (d = 0)) cur) ∧ Hid (0 ≤ cur.1 ∧ cur.1 ≤ 4100000 * ((k : Int) + 1)) ∧ Hid (IRow ww Cb 3 (rowC ws m k i (curR d cur))) ∧ Hid (IRow ww Eb 3 (rowE ws m k i (cur.2 : Int))) ∧ Hid (Below w.heap.size w ww)) (fun _ vj _ => (ws.length + 1 - (intOf vj).toNat))
   case atStart => exact ⟨0, i, m + 6, (0, 0), rfl, rfl, Lh (by have := HIN.out; omega), by omega, by omega, Lh (fun _ => rfl), Lh rfl, Lh (by simp; omega), HC1, HE1, HB1⟩
   case round =>
    clear HC1 HE1 HB1
    obtain ⟨d, p, s, cur, rfl, rfl, HP, hs1, hs2, HD0, HSC, HCB, HCR, HER, HBw⟩ := hrel
    by_cases hpl : p < ws.length
    ·have hp0 : (0 : Int) ≤ (p : Int) := by omega
     have hpn : (p : Int) < (ws.length : Int) := by omega
     have hpn1 : (p : Int) + 1 ≤ (ws.length : Int) := by omega
     obtain ⟨b, o, rfl, _, hbl, hok, hc⟩ := int_at (HS.out.to HBw.out) hpl
     have hx := HR.out.w ws[p] (List.getElem_mem hpl)
     have HDR : Hid (ws.drop p = ws[p] :: ws.drop (p + 1)) := Lh (List.drop_eq_getElem_cons hpl)
     obtain ⟨x, hxe⟩ : ∃ x, ws[p] = x := ⟨_, rfl⟩
     rw [hxe] at hc hx HDR
     obtain ⟨hx1, hx2⟩ := hx
     clear hxe hok hbl
     obtain ⟨s2, hs2e⟩ : ∃ s2, s - 6 - x = s2 := ⟨_, rfl⟩
     have hsa : s2 ≤ 2006 := by omega
     have hsb : -500 ≤ s2 := by omega
     have HSE : Hid (s - (x + 6) = s2) := Lh (by omega)
     have HD1 : Hid (d = 0 → 0 ≤ s2) := Lh (fun h => by have := HD0.out h; omega)
     go_upto_region 16 with (fail)
     try rw [hs2e]
     clear hs2e hc
     by_cases hneg : s2 < 0
     ·have hd1 : d ≠ 0 := fun h => by have := HD1.out h; omega
      have HRES : Hid (scanE ws.length (ws.drop i) (bestL ws m k) (m + 6) (i + 1) true (0, 0) = cur) := Lh (by rw [HSC.out, HDR.out]; exact scanE_neg _ _ _ _ _ _ _ _ (by rw [HSE.out]; exact hneg))
      have HCR2 : Hid (IRow wr Cb 3 (rowC ws m k i cur.1)) := Lh (by have := HCR.out; unfold curR at this; rwa [if_neg hd1] at this)
      clear HCR
      go_wp2_with fail
      go_roundw
      case rel => exact ⟨k + 1, i, by go_num, Lh (by have := HIN.out; omega), Lh (by rw [← rowC_next HIN.out HRES.out]; exact HCR2.out), Lh (by rw [← rowE_next HIN.out HRES.out]; exact HER.out), HBw⟩
      case measure => (first | (simp [intOf]; done) | (simp [intOf]; omega))
     ·have hnn : 0 ≤ s2 := by omega
      have HNN : Hid (¬ s - (x + 6) < 0) := Lh (by rw [HSE.out]; exact hneg)
      obtain ⟨bd, hbd⟩ : ∃ bd, (bestL ws m k)[d]? = some bd := by
       have h := bestL_length ws m k
       exact ⟨_, List.getElem?_eq_getElem (by have := HP.out; have := HIN.out; omega)⟩
      have hbb := bestL_cost HR.out k bd (List.mem_of_getElem? hbd)
      have HHD := Lh (head_drop _ _ _ hbd)
      have c2 : wr.cell? ⟨Cb, p + 1, none⟩ = some (.int .i64 bd.1) := HCR.out.cell (p + 1) (by
       have e : p + 1 = i + d + 1 := by have := HP.out.1; omega
       rw [e, show rowC ws m k i (curR d cur) = List.replicate i 0 ++ curR d cur :: (bestL ws m k).map (·.1) from rfl, row_behind, List.getElem?_map, hbd]; rfl)
      have hk5 : (k : Int) ≤ 500 := by have := HIN.out; omega
      have hb0 : 0 ≤ bd.1 := hbb.1
      have hb1 : bd.1 ≤ 2050000000 := by have := hbb.2; omega
      have hbk : bd.1 ≤ 4100000 * (k : Int) := hbb.2
      obtain ⟨cb, hcb⟩ : ∃ x, bd.1 = x := ⟨_, rfl⟩
      rw [hcb] at c2 hb0 hb1 hbk
      have HCBE := Lh hcb
      clear hcb hbd hbb
      obtain ⟨q, hq⟩ : ∃ q, s2 * s2 = q := ⟨_, rfl⟩
      have hq0 : 0 ≤ q := by rw [← hq]; exact Int.mul_nonneg hnn hnn
      have hq1 : q ≤ 4024036 := by rw [← hq]; exact Int.mul_le_mul hsa hsa hnn (by omega)
      have HQ := Lh hq
      have hw1 : IntKind.i64.wrap (s2 * s2) = q := by rw [hq]; exact IntWalk.i64_in _ (by omega)
      have hw2 : IntKind.i64.wrap (q + cb) = q + cb := IntWalk.i64_in _ (by omega)
      clear hq
      by_cases hlast : p + 1 = ws.length
      ·have HRES : Hid (scanE ws.length (ws.drop i) (bestL ws m k) (m + 6) (i + 1) true (0, 0) = (0, ws.length)) := Lh (by rw [HSC.out, HDR.out, hlast]; exact scanE_last _ _ _ _ _ _ _ HNN.out)
       have HRS2 : Hid (scanE ws.length (ws.drop i) (bestL ws m k) (m + 6) (i + 1) true (0, 0) = scanE ws.length (ws.drop ws.length) ((bestL ws m k).drop (d + 1)) s2 (ws.length + 1) (decide (d + 1 = 0)) (0, ws.length)) := Lh (by rw [HRES.out, List.drop_length]; rfl)
       have c3 : wr.cell? ⟨Cb, ws.length, none⟩ = some (.int .i64 cb) := hlast ▸ c2
       have hl1 : (p : Int) + 1 = (ws.length : Int) := by omega
       by_cases hd0 : d = 0
       ·subst hd0
        have hcc : curR 0 cur = -1 := rfl
        rw [hcc] at HCR
        clear hcc
        have c0 : wr.cell? ⟨Cb, i, none⟩ = some (.int .i64 (-1)) := HCR.out.cell i (row_at _ _ _)
        have f0 := HCR.out.fz i
        have HE1 : Hid (IRow (wr.setCell ⟨Cb, i, none⟩ (.int .i64 (0))) Eb 3 (rowE ws m k i (cur.2 : Int))) := Lh (HER.out.other (Ne.symm HNE.out.1) i (.int .i64 (0)))
        have c1 := HE1.out.cell i (row_at _ _ _)
        have f1 := HE1.out.fz i
        have HC2 : Hid (IRow ((wr.setCell ⟨Cb, i, none⟩ (.int .i64 (0))).setCell ⟨Eb, i, none⟩ (.int .i64 (ws.length : Int))) Cb 3 (rowC ws m k i (0))) := Lh (by have := (HCR.out.set i (0)).other HNE.out.1 i (.int .i64 (ws.length : Int)); rwa [show rowC ws m k i (-1) = List.replicate i 0 ++ (-1) :: (bestL ws m k).map (·.1) from rfl, row_set] at this)
        have HE2 : Hid (IRow ((wr.setCell ⟨Cb, i, none⟩ (.int .i64 (0))).setCell ⟨Eb, i, none⟩ (.int .i64 (ws.length : Int))) Eb 3 (rowE ws m k i (ws.length : Int))) := Lh (by have := HE1.out.set i (ws.length : Int); rwa [show rowE ws m k i (cur.2 : Int) = List.replicate i 0 ++ (cur.2 : Int) :: (bestL ws m k).map (fun x => (x.2 : Int)) from rfl, row_set] at this)
        have HB2 : Hid (Below w.heap.size w ((wr.setCell ⟨Cb, i, none⟩ (.int .i64 (0))).setCell ⟨Eb, i, none⟩ (.int .i64 (ws.length : Int)))) := Lh ((HBw.out.setCell (p := ⟨Cb, i, none⟩) HNE.out.2.1 _).setCell (p := ⟨Eb, i, none⟩) HNE.out.2.2 _)
        clear HE1
        go_wp2_with fail
        go_roundw
        case rel => exact ⟨0 + 1, ws.length, s2, (0, ws.length), rfl, by go_num, Lh (by have := HP.out; omega), hsa, hnn, Lh (fun h => absurd h (by omega)), Lh (HRS2.out), Lh (by simp only; omega), HC2, HE2, HB2⟩
        case measure => (first | (simp [intOf]; done) | (simp [intOf]; omega))
       ·have hcc : curR d cur = cur.1 := by unfold curR; rw [if_neg hd0]
        rw [hcc] at HCR
        have hc0 : ¬ cur.1 < 0 := by have := HCB.out.1; omega
        have hc1 : 0 ≤ cur.1 := HCB.out.1
        clear hcc
        have c0 : wr.cell? ⟨Cb, i, none⟩ = some (.int .i64 (cur.1)) := HCR.out.cell i (row_at _ _ _)
        have f0 := HCR.out.fz i
        have HE1 : Hid (IRow (wr.setCell ⟨Cb, i, none⟩ (.int .i64 (0))) Eb 3 (rowE ws m k i (cur.2 : Int))) := Lh (HER.out.other (Ne.symm HNE.out.1) i (.int .i64 (0)))
        have c1 := HE1.out.cell i (row_at _ _ _)
        have f1 := HE1.out.fz i
        have HC2 : Hid (IRow ((wr.setCell ⟨Cb, i, none⟩ (.int .i64 (0))).setCell ⟨Eb, i, none⟩ (.int .i64 (ws.length : Int))) Cb 3 (rowC ws m k i (0))) := Lh (by have := (HCR.out.set i (0)).other HNE.out.1 i (.int .i64 (ws.length : Int)); rwa [show rowC ws m k i (cur.1) = List.replicate i 0 ++ (cur.1) :: (bestL ws m k).map (·.1) from rfl, row_set] at this)
        have HE2 : Hid (IRow ((wr.setCell ⟨Cb, i, none⟩ (.int .i64 (0))).setCell ⟨Eb, i, none⟩ (.int .i64 (ws.length : Int))) Eb 3 (rowE ws m k i (ws.length : Int))) := Lh (by have := HE1.out.set i (ws.length : Int); rwa [show rowE ws m k i (cur.2 : Int) = List.replicate i 0 ++ (cur.2 : Int) :: (bestL ws m k).map (fun x => (x.2 : Int)) from rfl, row_set] at this)
        have HB2 : Hid (Below w.heap.size w ((wr.setCell ⟨Cb, i, none⟩ (.int .i64 (0))).setCell ⟨Eb, i, none⟩ (.int .i64 (ws.length : Int)))) := Lh ((HBw.out.setCell (p := ⟨Cb, i, none⟩) HNE.out.2.1 _).setCell (p := ⟨Eb, i, none⟩) HNE.out.2.2 _)
        clear HE1
        go_wp2_with fail
        go_roundw
        case rel => exact ⟨d + 1, ws.length, s2, (0, ws.length), rfl, by go_num, Lh (by have := HP.out; omega), hsa, hnn, Lh (fun h => absurd h (by omega)), Lh (HRS2.out), Lh (by simp only; omega), HC2, HE2, HB2⟩
        case measure => (first | (simp [intOf]; done) | (simp [intOf]; omega))
      ·have hl1 : ¬ (p : Int) + 1 = (ws.length : Int) := by omega
       have hl2 : ((p : Int) + 1 == (ws.length : Int)) = false := by rw [beq_eq_false_iff_ne]; omega
       have HST : Hid (scanE ws.length (ws.drop i) (bestL ws m k) (m + 6) (i + 1) true (0, 0) = scanE ws.length (ws.drop (p + 1)) ((bestL ws m k).drop (d + 1)) s2 (p + 1 + 1) false (if decide (d = 0) = true ∨ q + cb ≤ cur.1 then (q + cb, p + 1) else cur)) := Lh (by
        rw [HSC.out, HDR.out, scanE_step _ _ _ _ _ _ _ _ HNN.out (by omega), HSE.out, HHD.out, HQ.out, HCBE.out, List.tail_drop])
       by_cases hd0 : d = 0
       ·subst hd0
        have hcc : curR 0 cur = -1 := rfl
        rw [hcc] at HCR
        clear hcc
        have c0 : wr.cell? ⟨Cb, i, none⟩ = some (.int .i64 (-1)) := HCR.out.cell i (row_at _ _ _)
        have f0 := HCR.out.fz i
        have HE1 : Hid (IRow (wr.setCell ⟨Cb, i, none⟩ (.int .i64 (q + cb))) Eb 3 (rowE ws m k i (cur.2 : Int))) := Lh (HER.out.other (Ne.symm HNE.out.1) i (.int .i64 (q + cb)))
        have c1 := HE1.out.cell i (row_at _ _ _)
        have f1 := HE1.out.fz i
        have HC2 : Hid (IRow ((wr.setCell ⟨Cb, i, none⟩ (.int .i64 (q + cb))).setCell ⟨Eb, i, none⟩ (.int .i64 ((p : Int) + 1))) Cb 3 (rowC ws m k i (q + cb))) := Lh (by have := (HCR.out.set i (q + cb)).other HNE.out.1 i (.int .i64 ((p : Int) + 1)); rwa [show rowC ws m k i (-1) = List.replicate i 0 ++ (-1) :: (bestL ws m k).map (·.1) from rfl, row_set] at this)
        have HE2 : Hid (IRow ((wr.setCell ⟨Cb, i, none⟩ (.int .i64 (q + cb))).setCell ⟨Eb, i, none⟩ (.int .i64 ((p : Int) + 1))) Eb 3 (rowE ws m k i ((p + 1 : Nat) : Int))) := Lh (by have := HE1.out.set i ((p : Int) + 1); rwa [show rowE ws m k i (cur.2 : Int) = List.replicate i 0 ++ (cur.2 : Int) :: (bestL ws m k).map (fun x => (x.2 : Int)) from rfl, row_set] at this)
        have HB2 : Hid (Below w.heap.size w ((wr.setCell ⟨Cb, i, none⟩ (.int .i64 (q + cb))).setCell ⟨Eb, i, none⟩ (.int .i64 ((p : Int) + 1)))) := Lh ((HBw.out.setCell (p := ⟨Cb, i, none⟩) HNE.out.2.1 _).setCell (p := ⟨Eb, i, none⟩) HNE.out.2.2 _)
        clear HE1
        go_wp2_with fail
        go_roundw
        case rel => exact ⟨0 + 1, p + 1, s2, (q + cb, p + 1), rfl, by go_num, Lh (by have := HP.out; omega), hsa, hnn, Lh (fun h => absurd h (by omega)), Lh (by rw [HST.out, if_pos (by simp)]; rfl), Lh (by simp only; omega), HC2, HE2, HB2⟩
        case measure => (first | (simp [intOf]; done) | (simp [intOf]; omega))
       ·have hcc : curR d cur = cur.1 := by unfold curR; rw [if_neg hd0]
        rw [hcc] at HCR
        have hc0 : ¬ cur.1 < 0 := by have := HCB.out.1; omega
        clear hcc
        by_cases hle : q + cb ≤ cur.1
        ·skip
         have c0 : wr.cell? ⟨Cb, i, none⟩ = some (.int .i64 (cur.1)) := HCR.out.cell i (row_at _ _ _)
         have f0 := HCR.out.fz i
         have HE1 : Hid (IRow (wr.setCell ⟨Cb, i, none⟩ (.int .i64 (q + cb))) Eb 3 (rowE ws m k i (cur.2 : Int))) := Lh (HER.out.other (Ne.symm HNE.out.1) i (.int .i64 (q + cb)))
         have c1 := HE1.out.cell i (row_at _ _ _)
         have f1 := HE1.out.fz i
         have HC2 : Hid (IRow ((wr.setCell ⟨Cb, i, none⟩ (.int .i64 (q + cb))).setCell ⟨Eb, i, none⟩ (.int .i64 ((p : Int) + 1))) Cb 3 (rowC ws m k i (q + cb))) := Lh (by have := (HCR.out.set i (q + cb)).other HNE.out.1 i (.int .i64 ((p : Int) + 1)); rwa [show rowC ws m k i (cur.1) = List.replicate i 0 ++ (cur.1) :: (bestL ws m k).map (·.1) from rfl, row_set] at this)
         have HE2 : Hid (IRow ((wr.setCell ⟨Cb, i, none⟩ (.int .i64 (q + cb))).setCell ⟨Eb, i, none⟩ (.int .i64 ((p : Int) + 1))) Eb 3 (rowE ws m k i ((p + 1 : Nat) : Int))) := Lh (by have := HE1.out.set i ((p : Int) + 1); rwa [show rowE ws m k i (cur.2 : Int) = List.replicate i 0 ++ (cur.2 : Int) :: (bestL ws m k).map (fun x => (x.2 : Int)) from rfl, row_set] at this)
         have HB2 : Hid (Below w.heap.size w ((wr.setCell ⟨Cb, i, none⟩ (.int .i64 (q + cb))).setCell ⟨Eb, i, none⟩ (.int .i64 ((p : Int) + 1)))) := Lh ((HBw.out.setCell (p := ⟨Cb, i, none⟩) HNE.out.2.1 _).setCell (p := ⟨Eb, i, none⟩) HNE.out.2.2 _)
         clear HE1
         go_wp2_with fail
         go_roundw
         case rel => exact ⟨d + 1, p + 1, s2, (q + cb, p + 1), rfl, by go_num, Lh (by have := HP.out; omega), hsa, hnn, Lh (fun h => absurd h (by omega)), Lh (by rw [HST.out, if_pos (.inr hle)]; rfl), Lh (by simp only; omega), HC2, HE2, HB2⟩
         case measure => (first | (simp [intOf]; done) | (simp [intOf]; omega))
        ·have c0 : wr.cell? ⟨Cb, i, none⟩ = some (.int .i64 cur.1) := HCR.out.cell i (row_at _ _ _)
         have HCR2 : Hid (IRow wr Cb 3 (rowC ws m k i (curR (d + 1) cur))) := HCR
         have HST2 : Hid (scanE ws.length (ws.drop i) (bestL ws m k) (m + 6) (i + 1) true (0, 0) = scanE ws.length (ws.drop (p + 1)) ((bestL ws m k).drop (d + 1)) s2 (p + 1 + 1) (decide (d + 1 = 0)) cur) := Lh (by rw [HST.out, if_neg (by simp [hd0]; omega)]; rfl)
         go_wp2_with fail
         go_roundw
         case rel => exact ⟨d + 1, p + 1, s2, cur, rfl, by go_num, Lh (by have := HP.out; omega), hsa, hnn, Lh (fun h => absurd h (by omega)), HST2, HCB, HCR2, HER, HBw⟩
         case measure => (first | (simp [intOf]; done) | (simp [intOf]; omega))
    ·obtain rfl : p = ws.length := by have := HP.out; omega
     have hd1 : d ≠ 0 := by have := HP.out; have := HIN.out; omega
     have HRES : Hid (scanE ws.length (ws.drop i) (bestL ws m k) (m + 6) (i + 1) true (0, 0) = cur) := Lh (by rw [HSC.out, List.drop_length]; rfl)
     have HCR2 : Hid (IRow wr Cb 3 (rowC ws m k i cur.1)) := Lh (by have := HCR.out; unfold curR at this; rwa [if_neg hd1] at this)
     have hpn1 : ¬ (ws.length : Int) + 1 ≤ (ws.length : Int) := by omega
     clear HCR hpl
     go_wp2_with fail
     go_roundw
     case rel => exact ⟨k + 1, i, by go_num, Lh (by have := HIN.out; omega), Lh (by rw [← rowC_next HIN.out HRES.out]; exact HCR2.out), Lh (by rw [← rowE_next HIN.out HRES.out]; exact HER.out), HBw⟩
     case measure => (first | (simp [intOf]; done) | (simp [intOf]; omega))
end Go.Proofs.YtakaielemicpkaaGreatDoor
namespace Go.Proofs.YtakaielemicpkaaGreatDoor
open Go.RowKit
def inB (c : Nat) (l : List UInt8) : Bool := l.any fun x => x.toNat == c
theorem inB_take (s : ByteArray) (c k : Nat) (h : k < s.size) : inB c (s.data.toList.take (k + 1)) = (inB c (s.data.toList.take k) || (s[k].toNat == c)) := by
 have e : s.data.toList.take (k + 1) = s.data.toList.take k ++ [s[k]] := by
  rw [List.take_succ_eq_append_getElem (by simpa using h)]; rfl
 unfold inB; rw [e, List.any_append]; simp
theorem inB_hit (s : ByteArray) (c k : Nat) (h : k < s.size) (hc : s[k].toNat = c) : inB c s.data.toList = true := by
 unfold inB
 rw [List.any_eq_true]
 exact ⟨s[k], by simp [ByteArray.getElem_eq_getElem_data], by simp [hc]⟩
set_option maxHeartbeats 400000 in
theorem in_any (c : Nat) (_hc : c < 256) (s : ByteArray) (hs : s.size ≤ 1000) (w : World) :
  Calls Tryz.prog 143 #[.int .u8 (c : Int), .string s] w fun e w' => e = .returned (.bool (inB c s.data.toList)) ∧ w = w' := by
 go_enter Tryz.func143, Tryz.ntmps143
 go_wp2_with fail
 go_loop [5] (fun i => ∃ k : Nat, k ≤ s.size ∧ i = .int .i64 k ∧ Hid (inB c (s.data.toList.take k) = false)) (fun i => s.size - (intOf i).toNat)
 case atStart => exact ⟨0, Nat.zero_le _, rfl, rfl⟩
 case round =>
  obtain ⟨k, hk, rfl, hno⟩ := hrel
  by_cases hlt : k < s.size
  ·have hkl : (k : Int) < (s.size : Int) := by omega
   have hk0 : (0 : Int) ≤ (k : Int) := by omega
   have HI := Lh (inB_take s c k hlt)
   have HH := Lh (inB_hit s c k hlt)
   by_cases h0 : s[k].toNat = c
   ·have E := Lh (HH.out h0)
    have hB : ((s[k].toNat : Int) == (c : Int)) = true := by rw [h0]; simp
    clear h0
    go_wp2_with fail
    go_ret
    exact ⟨ret_bool E.out.symm, rfl⟩
   ·have E := Lh (show inB c (s.data.toList.take (k + 1)) = false by rw [HI.out, hno.out]; simp [h0])
    have hB : ((s[k].toNat : Int) == (c : Int)) = false := by rw [beq_eq_false_iff_ne]; omega
    clear h0
    go_wp2_with fail
    go_round
    case rel => exact ⟨k + 1, by omega, by go_num, E.out⟩
    case measure => simp [intOf]; omega
  ·have E := Lh (show inB c s.data.toList = false by rw [← takeAll s k (by omega)]; exact hno.out)
   go_wp2_with fail
   go_ret
   exact ⟨ret_bool E.out.symm, rfl⟩
def s4 : ByteArray := ⟨#[105, 106, 108, 46, 44, 59, 58, 33, 124, 39]⟩
def s6 : ByteArray := ⟨#[102, 114, 116, 73, 45, 47, 92, 40, 41, 123, 125]⟩
def s12 : ByteArray := ⟨#[109, 119, 77, 87, 64, 37]⟩
def in4 (c : Nat) : Bool := inB c s4.data.toList
def in6 (c : Nat) : Bool := inB c s6.data.toList
def in12 (c : Nat) : Bool := inB c s12.data.toList
theorem in4_any (c : Nat) (hc : c < 256) (w : World) : Calls Tryz.prog 143 #[.int .u8 (c : Int), .string ⟨#[105, 106, 108, 46, 44, 59, 58, 33, 124, 39]⟩] w fun e w' => e = .returned (.bool (in4 c)) ∧ w = w' := in_any c hc s4 (by decide) w
theorem in6_any (c : Nat) (hc : c < 256) (w : World) : Calls Tryz.prog 143 #[.int .u8 (c : Int), .string ⟨#[102, 114, 116, 73, 45, 47, 92, 40, 41, 123, 125]⟩] w fun e w' => e = .returned (.bool (in6 c)) ∧ w = w' := in_any c hc s6 (by decide) w
theorem in12_any (c : Nat) (hc : c < 256) (w : World) : Calls Tryz.prog 143 #[.int .u8 (c : Int), .string ⟨#[109, 119, 77, 87, 64, 37]⟩] w fun e w' => e = .returned (.bool (in12 c)) ∧ w = w' := in_any c hc s12 (by decide) w
def gwQ (c : Nat) (a b d : Bool) : Int :=
 if c < 33 ∨ 126 < c ∨ c = 91 ∨ c = 93 then 0
 else if a = true ∨ c = 96 then 4
 else if b = true ∨ c = 34 then 6
 else if d = true then 12
 else if (65 ≤ c ∧ c ≤ 90) ∨ c = 38 then 10
 else 8
theorem gwQ_eq : ∀ c, c < 256 → gwQ c (in4 c) (in6 c) (in12 c) = gw c := by decide +kernel
theorem beq_f {c d : Nat} (h : ¬ c = d) : ((c : Int) == (d : Int)) = false := by rw [beq_eq_false_iff_ne]; omega
set_option maxRecDepth 100000 in
set_option maxHeartbeats 1000000 in
theorem glyph_any (c : Nat) (hc : c < 256) (w : World) :
  Calls Tryz.prog 128 #[.int .u8 (c : Int)] w fun e w' => e = .returned (.int .i64 (gw c)) ∧ w = w' := by
 have HE := Lh (gwQ_eq c hc)
 have h4 := Lh (in4_any c hc)
 have h6 := Lh (in6_any c hc)
 have h12 := Lh (in12_any c hc)
 generalize in4 c = a at *
 generalize in6 c = b at *
 generalize in12 c = d at *
 generalize hg : gw c = g at *
 clear hg
 have hc2 : (c : Int) < 256 := by omega
 have hc0 : (0 : Int) ≤ (c : Int) := by omega
 by_cases hr : c < 33 ∨ 126 < c ∨ c = 91 ∨ c = 93
 ·have E := Lh (show 0 = g by rw [← HE.out]; unfold gwQ; rw [if_pos hr])
  clear h4 h6 h12 HE
  by_cases h1 : c < 33
  ·have h1' : (c : Int) < 33 := by omega
   go_enter Tryz.func128, Tryz.ntmps128
   go_wp2_with fail
   go_ret
   exact ⟨ret_int E.out, rfl⟩
  ·have h1' : ¬ (c : Int) < 33 := by omega
   by_cases h2 : 126 < c
   ·have h2' : (126 : Int) < (c : Int) := by omega
    go_enter Tryz.func128, Tryz.ntmps128
    go_wp2_with fail
    go_ret
    exact ⟨ret_int E.out, rfl⟩
   ·have h2' : ¬ (126 : Int) < (c : Int) := by omega
    by_cases h3 : c = 91
    ·subst h3
     go_enter Tryz.func128, Tryz.ntmps128
     go_wp2_with fail
     go_ret
     exact ⟨ret_int E.out, rfl⟩
    ·obtain rfl : c = 93 := by omega
     go_enter Tryz.func128, Tryz.ntmps128
     go_wp2_with fail
     go_ret
     exact ⟨ret_int E.out, rfl⟩
 ·have E := Lh (show (if a = true ∨ c = 96 then 4 else if b = true ∨ c = 34 then 6 else if d = true then 12 else if (65 ≤ c ∧ c ≤ 90) ∨ c = 38 then 10 else 8) = g by rw [← HE.out]; unfold gwQ; rw [if_neg hr])
  have h1' : ¬ (c : Int) < 33 := by omega
  have h2' : ¬ (126 : Int) < (c : Int) := by omega
  have h3' : ((c : Int) == 91) = false := beq_f (c := c) (d := 91) (by omega)
  have h4' : ((c : Int) == 93) = false := beq_f (c := c) (d := 93) (by omega)
  clear hr HE
  go_enter Tryz.func128, Tryz.ntmps128
  go_wp2_with fail
  refine (h4.out _).mono ?_
  rintro e w' ⟨rfl, rfl⟩
  clear h3' h4' h4
  by_cases hA : a = true ∨ c = 96
  ·have E2 := Lh (show 4 = g by rw [← E.out, if_pos hA])
   cases a
   ·obtain rfl : c = 96 := by simpa using hA
    clear hA
    go_wp2_with fail
    go_ret
    exact ⟨ret_int E2.out, rfl⟩
   ·clear hA
    go_wp2_with fail
    go_ret
    exact ⟨ret_int E2.out, rfl⟩
  ·have E2 := Lh (show (if b = true ∨ c = 34 then 6 else if d = true then 12 else if (65 ≤ c ∧ c ≤ 90) ∨ c = 38 then 10 else 8) = g by rw [← E.out, if_neg hA])
   obtain rfl : a = false := by cases a <;> simp at hA ⊢
   have h5' : ((c : Int) == 96) = false := beq_f (c := c) (d := 96) (by simpa using hA)
   clear hA E
   go_wp2_with fail
   refine (h6.out _).mono ?_
   rintro e w' ⟨rfl, rfl⟩
   clear h5' h6
   by_cases hB : b = true ∨ c = 34
   ·have E3 := Lh (show 6 = g by rw [← E2.out, if_pos hB])
    cases b
    ·obtain rfl : c = 34 := by simpa using hB
     clear hB
     go_wp2_with fail
     go_ret
     exact ⟨ret_int E3.out, rfl⟩
    ·clear hB
     go_wp2_with fail
     go_ret
     exact ⟨ret_int E3.out, rfl⟩
   ·have E3 := Lh (show (if d = true then 12 else if (65 ≤ c ∧ c ≤ 90) ∨ c = 38 then 10 else 8) = g by rw [← E2.out, if_neg hB])
    obtain rfl : b = false := by cases b <;> simp at hB ⊢
    have h5' : ((c : Int) == 34) = false := beq_f (c := c) (d := 34) (by simpa using hB)
    clear hB E2
    go_wp2_with fail
    refine (h12.out _).mono ?_
    rintro e w' ⟨rfl, rfl⟩
    clear h5' h12
    cases d
    ·have E4 := Lh (show (if (65 ≤ c ∧ c ≤ 90) ∨ c = 38 then 10 else 8) = g by rw [← E3.out]; simp)
     clear E3
     by_cases hD : 65 ≤ c ∧ c ≤ 90
     ·have E5 := Lh (show 10 = g by rw [← E4.out, if_pos (.inl hD)])
      have x1 : (65 : Int) ≤ (c : Int) := by omega
      have x2 : (c : Int) ≤ 90 := by omega
      clear hD
      go_wp2_with fail
      go_ret
      exact ⟨ret_int E5.out, rfl⟩
     ·by_cases hF : c = 38
      ·have E5 := Lh (show 10 = g by rw [← E4.out, if_pos (.inr hF)])
       subst hF
       go_wp2_with fail
       go_ret
       exact ⟨ret_int E5.out, rfl⟩
      ·have E5 := Lh (show 8 = g by rw [← E4.out, if_neg (by omega)])
       have h5' : ((c : Int) == 38) = false := beq_f (c := c) (d := 38) hF
       have hD' : ¬ ((65 : Int) ≤ (c : Int) ∧ (c : Int) ≤ 90) := by omega
       clear hF E4 hD
       by_cases x1 : (65 : Int) ≤ (c : Int)
       ·have x2 : ¬ (c : Int) ≤ 90 := by omega
        clear hD'
        go_wp2_with fail
        go_ret
        exact ⟨ret_int E5.out, rfl⟩
       ·clear hD'
        go_wp2_with fail
        go_ret
        exact ⟨ret_int E5.out, rfl⟩
    ·have E4 := Lh (show 12 = g by rw [← E3.out]; simp)
     go_wp2_with fail
     go_ret
     exact ⟨ret_int E4.out, rfl⟩
end Go.Proofs.YtakaielemicpkaaGreatDoor
namespace Go.Proofs.YtakaielemicpkaaGreatDoor
open Go.RowKit
theorem valid_lo (s : ByteArray) (h : s.size < 1) : valid s = false := by
 unfold valid; rw [decide_eq_false (by omega)]; rfl
theorem valid_hi (s : ByteArray) (h : 40 < s.size) : valid s = false := by
 unfold valid; rw [decide_eq_false (by omega)]; rfl
theorem valid_mid (s : ByteArray) (h : 1 ≤ s.size) (h2 : s.size ≤ 40) : valid s = okW s.data.toList := by
 unfold valid; rw [decide_eq_true ⟨h, h2⟩]; rfl
theorem width_of (s : ByteArray) : width s = if valid s then sumW s.data.toList else 0 := by
 by_cases h1 : s.size < 1
 ·rw [valid_lo s h1]
  have hl : s.data.toList.length = s.size := by simp
  have : s.data.toList = [] := List.eq_nil_of_length_eq_zero (by rw [hl]; omega)
  unfold width
  rw [this]; simp [sumW]
 ·by_cases h2 : 40 < s.size
  ·rw [valid_hi s h2]; unfold width; rw [if_pos h2]; rfl
  ·rw [valid_mid s (by omega) (by omega)]; unfold width; rw [if_neg h2]
set_option maxHeartbeats 400000 in
theorem rvalid_any (s : ByteArray) (w : World) (hmax : s.size ≤ 9223372036854775807) :
  Calls Tryz.prog 127 #[.string s] w fun e w' => e = .returned (.bool (valid s)) ∧ w = w' := by
 by_cases h1 : s.size < 1
 ·have E := Lh (valid_lo s h1)
  have h1' : (s.size : Int) < 1 := by omega
  go_enter Tryz.func127, Tryz.ntmps127
  go_wp2_with fail
  go_ret
  exact ⟨ret_bool E.out.symm, rfl⟩
 ·by_cases h2 : 40 < s.size
  ·have E := Lh (valid_hi s h2)
   have h1' : ¬ (s.size : Int) < 1 := by omega
   have h2' : (40 : Int) < (s.size : Int) := by omega
   go_enter Tryz.func127, Tryz.ntmps127
   go_wp2_with fail
   go_ret
   exact ⟨ret_bool E.out.symm, rfl⟩
  ·have E := Lh (valid_mid s (by omega) (by omega))
   have h1' : ¬ (s.size : Int) < 1 := by omega
   have h2' : ¬ (40 : Int) < (s.size : Int) := by omega
   have hs : s.size ≤ 40 := by omega
   go_enter Tryz.func127, Tryz.ntmps127
   go_wp2_with fail
   go_loop [3] (fun i => ∃ k : Nat, k ≤ s.size ∧ i = .int .i64 k ∧ Hid (okW (s.data.toList.take k) = true)) (fun i => s.size - (intOf i).toNat)
   case atStart => exact ⟨0, Nat.zero_le _, rfl, rfl⟩
   case round =>
    obtain ⟨k, hk, rfl, hok⟩ := hrel
    by_cases hlt : k < s.size
    ·have hkl : (k : Int) < (s.size : Int) := by omega
     have hk0 : (0 : Int) ≤ (k : Int) := by omega
     have HO := Lh (okW_take s k hlt)
     have HN := Lh (okW_not s k hlt)
     have HG := Lh (glyph_any s[k].toNat s[k].toNat_lt)
     go_wp2_with fail
     refine (HG.out _).mono ?_
     rintro e w' ⟨rfl, rfl⟩
     by_cases h0 : gw s[k].toNat = 0
     ·have E2 := Lh (show valid s = false by rw [E.out, HN.out h0])
      rw [h0]
      clear h0
      go_wp2_with fail
      go_ret
      exact ⟨ret_bool E2.out.symm, rfl⟩
     ·have E2 := Lh (show okW (s.data.toList.take (k + 1)) = true by rw [HO.out, hok.out]; simp [h0])
      generalize gw s[k].toNat = g at *
      have hB : (g == 0) = false := beq_eq_false_iff_ne.2 h0
      clear h0
      go_wp2_with fail
      go_round
      case rel => exact ⟨k + 1, by omega, by go_num, E2.out⟩
      case measure => simp [intOf]; omega
    ·have E2 := Lh (show valid s = true by rw [E.out, ← takeAll s k (by omega)]; exact hok.out)
     go_wp2_with fail
     go_ret
     exact ⟨ret_bool E2.out.symm, rfl⟩
set_option maxHeartbeats 400000 in
theorem rwidth_any (s : ByteArray) (w : World) (hmax : s.size ≤ 9223372036854775807) :
  Calls Tryz.prog 109 #[.string s] w fun e w' => e = .returned (.int .i64 (width s)) ∧ w = w' := by
 have HW := Lh (width_of s)
 go_enter Tryz.func109, Tryz.ntmps109
 go_wp2_with fail
 refine (rvalid_any s _ hmax).mono ?_
 rintro e w' ⟨rfl, rfl⟩
 cases hv : valid s
 ·have E := Lh (show width s = 0 by rw [HW.out, hv]; rfl)
  clear hv
  go_wp2_with fail
  go_ret
  exact ⟨ret_int E.out.symm, rfl⟩
 ·have E := Lh (show width s = sumW s.data.toList by rw [HW.out, hv]; rfl)
  have hs : s.size ≤ 40 := by
   by_cases h2 : 40 < s.size
   ·rw [valid_hi s h2] at hv; cases hv
   ·omega
  clear hv
  go_wp2_with fail
  go_loop [3, 4] (fun n i => ∃ k : Nat, k ≤ s.size ∧ i = .int .i64 k ∧ n = .int .i64 (sumW (s.data.toList.take k))) (fun _ i => s.size - (intOf i).toNat)
  case atStart => exact ⟨0, Nat.zero_le _, rfl, rfl⟩
  case round =>
   obtain ⟨k, hk, rfl, rfl⟩ := hrel
   have hbd := sumW_bd (s.data.toList.take k)
   have hl : (s.data.toList.take k).length ≤ k := List.length_take_le _ _
   by_cases hlt : k < s.size
   ·have hkl : (k : Int) < (s.size : Int) := by omega
    have hk0 : (0 : Int) ≤ (k : Int) := by omega
    have HS := Lh (sumW_take s k hlt)
    have hg := gw_bd s[k].toNat s[k].toNat_lt
    have HG := Lh (glyph_any s[k].toNat s[k].toNat_lt)
    generalize sumW (s.data.toList.take k) = S at *
    go_wp2_with fail
    refine (HG.out _).mono ?_
    rintro e w' ⟨rfl, rfl⟩
    generalize gw s[k].toNat = g at *
    go_wp2_with fail
    go_round
    case rel => exact ⟨k + 1, by omega, by go_num, by rw [HS.out]⟩
    case measure => simp [intOf]; omega
   ·have E2 := Lh (show width s = sumW (s.data.toList.take k) by rw [E.out, takeAll s k (by omega)])
    go_wp2_with fail
    go_ret
    exact ⟨ret_int E2.out.symm, rfl⟩
def short (s : ByteArray) (m : Nat) : ByteArray := s.extract 0 (min s.size m)
end Go.Proofs.YtakaielemicpkaaGreatDoor
namespace Go.Proofs.YtakaielemicpkaaGreatDoor
open Go.RowKit
set_option maxRecDepth 100000 in
set_option maxHeartbeats 16000000 in
theorem rlines_any (A : Option Addr) (c : Nat) (l : List Word) (first m : Int) (w : World) (hs : Sl w (fun b => b < w.heap.size) A c l) (hr : Reg (widthsP l) m) (hf0 : 0 ≤ first) (hf1 : first ≤ 1000000) (hno : ∀ x ∈ l, 0 ≤ x.n ∧ x.n ≤ 1000000) :
  Calls Tryz.prog 88 #[.slice A l.length c, .int .i64 first, .int .i64 m] w fun e w' => ∃ v, e = .returned v ∧ Own w' w.heap.size 88 v ((setP l first m).map (Bd.mk : LineP → Bd LineP w.heap.size)) ∧ Below w.heap.size w w' := by
 have hwl : (widthsP l).length = l.length := by unfold widthsP; rw [List.length_map]
 have h3 : l.length ≤ 500 := by have := hr.n; omega
 have hlc : l.length ≤ c := hs.1
 have HS := Lh hs
 have HR := Lh hr
 have HNO := Lh hno
 have HWL := Lh hwl
 clear hs hr hno hwl
 go_enter Tryz.func88, Tryz.ntmps88
 go_wp2_with fail
 go_loopw [7, 8] (fun v i wr => ∃ j : Nat, j ≤ l.length ∧ i = .int .i64 (j : Int) ∧ Hid (Own wr w.heap.size 3 v ((widthsP l).take j)) ∧ Hid (Below w.heap.size w wr)) (fun _ i _ => l.length - (intOf i).toNat)
 case atStart => exact ⟨0, Nat.zero_le _, rfl, Lh (Own.nil _ _ _), Lh (Below.refl _ _)⟩
 case round =>
  obtain ⟨j, hj, rfl, HO, HB⟩ := hrel
  obtain ⟨A2, c2, hv2, -⟩ := HO.out.form
  subst hv2
  by_cases hlt : j < l.length
  ·have hjk : (j : Int) < (l.length : Int) := by omega
   obtain ⟨b, o, rfl, -, hbl, hok, e0, -, -, -⟩ := word_at (HS.out.to HB.out) hlt
   have hws : (widthsP l).take (j + 1) = (widthsP l).take j ++ [width l[j].s] := by
    unfold widthsP
    rw [List.take_succ_eq_append_getElem (by simpa using hlt), List.getElem_map]
   have hxw := HR.out.w (width l[j].s) (List.mem_map.2 ⟨l[j], List.getElem_mem hlt, rfl⟩)
   obtain ⟨x, hx⟩ : ∃ x, l[j] = x := ⟨_, rfl⟩
   rw [hx] at e0 hws hxw hok
   obtain ⟨L, hL⟩ : ∃ L, (widthsP l).take j = L := ⟨_, rfl⟩
   have hLl : L.length = j := by rw [← hL, List.length_take, HWL.out]; omega
   rw [hL] at HO hws ⊢
   have HWS := Lh hws
   have HWW := Lh (rwidth_any x.s wr hok.1)
   have HI : Hid (I64 (width x.s)) := Lh (by unfold I64; omega)
   have HLL := Lh hLl
   have HO3 := Lh (HO.out.alloc (.cells #[.int .i64 (width x.s)] 3))
   have HS3 : Hid (w.heap.size ≤ wr.heap.size) := Lh HB.out.size
   clear hx hbl hok hws hxw hL hLl
   go_wp2_with (first
    |(go_at_call 109; refine HWW.out.mono ?_; rintro e w' ⟨rfl, rfl⟩)
    |(at_builtin; refine wpList_push (α := Int) _ rfl (.tmp 22) (.tmp 29) 22 rfl w.heap.size 3 (.int .i64 0) 8 Tryz.underlying22 int_info rfl (by decide) _ L rfl HO3.out wr.heap.size #[.int .i64 (width x.s)] (width x.s) (0, 0) 3 rfl (heap_alloc_new wr _) ⟨rfl, HI.out⟩ (by have := HLL.out; omega) (by have := HLL.out; omega) (by have := HS3.out; simp; omega) _ rfl ?_; intro g5 p5 w5 hown5 hg5 hat5 hlt5; have HON := Lh hown5; have HBN := Lh (below_push HB.out HO.out HS3.out hg5); clear hown5 hg5 hat5 hlt5)
    | fail)
   go_roundw
   case rel => exact ⟨j + 1, by omega, by go_num, Lh (by rw [HWS.out]; exact HON.out), HBN⟩
   case measure => simp [intOf]; omega
  ·have hjl : j = l.length := by omega
   have htk : (widthsP l).take j = widthsP l := List.take_of_length_le (by rw [HWL.out]; omega)
   rw [htk, HWL.out] at HO
   rw [htk, HWL.out]
   have hjk : ¬ (j : Int) < (l.length : Int) := by omega
   have HSW : Hid (Sl wr (fun b => b < wr.heap.size) A2 c2 (widthsP l)) := Lh (HO.out.slv HWL.out.symm)
   have HEN := Lh (rends_any A2 c2 (widthsP l) m wr HSW.out HR.out)
   rw [HWL.out] at HEN
   clear htk hjl
   go_wp2_with fail
   refine HEN.out.mono ?_
   rintro e w1 ⟨v1, rfl, ho1, hb1⟩
   obtain ⟨es, hes⟩ : ∃ es, endsP (widthsP l) m = es := ⟨_, rfl⟩
   have hok := endsP_ok HR.out
   have hel := endsP_len HR.out
   rw [hes] at hok hel ho1
   rw [HWL.out] at hok hel
   have HES := Lh hes
   have HOK := Lh hok
   have hel5 : es.length ≤ 500 := by omega
   have HB1 := Lh (HB.out.trans (hb1.mono HB.out.size))
   have HSW1 : Hid (Sl w1 (fun b => b < w1.heap.size) A2 c2 (widthsP l)) := Lh (HSW.out.to hb1)
   have hg1 : w.heap.size ≤ w1.heap.size := HB1.out.size
   obtain ⟨A1, c1, rfl, hs1⟩ := ho1.sl
   rw [List.length_map]
   have hec : es.length ≤ c1 := by have := hs1.1; rw [List.length_map] at this; exact this
   have HS1 := Lh hs1
   have HP0 : Hid (setP l first m = [] ++ linesFrom l (widthsP l) m first 0 es) := Lh (by unfold setP; rw [HES.out]; rfl)
   have HG1 := Lh hg1
   have hwc : l.length ≤ c2 := by have := HSW1.out.1; rwa [HWL.out] at this
   clear hes hok hel ho1 hb1 hs1 HSW HEN HO hg1
   clear HB
   go_wp2_with fail
   go_loopw [11, 12, 13] (fun v vf vi wr2 => ∃ (dn rest : List Nat) (done : List LineP) (fr : Nat), vf = .int .i64 (fr : Int) ∧ vi = .int .i64 (dn.length : Int) ∧ Hid (es = dn ++ rest) ∧ Hid (done.length = dn.length) ∧ Hid (setP l first m = done ++ linesFrom l (widthsP l) m first fr rest) ∧ fr ≤ l.length ∧ Hid (endsOk fr l.length rest) ∧
    Hid (Own wr2 w1.heap.size 88 v (done.map (Bd.mk : LineP → Bd LineP w1.heap.size))) ∧ Hid (Below w1.heap.size w1 wr2)) (fun _ _ vi _ => es.length - (intOf vi).toNat)
   case atStart => exact ⟨[], es, [], 0, rfl, rfl, Lh rfl, Lh rfl, HP0, Nat.zero_le _, HOK, Lh (Own.nil _ _ _), Lh (Below.refl _ _)⟩
   case round =>
    clear HP0 HOK
    obtain ⟨dn, rest, done, fr, rfl, rfl, HE2, HDL, HP, hfr, HOK, HO, HBw⟩ := hrel
    have HLN : Hid (es.length = dn.length + rest.length) := Lh (by rw [HE2.out, List.length_append])
    cases rest with
    | nil =>
     have hge : ¬ (dn.length : Int) < (es.length : Int) := by have := HLN.out; rw [List.length_nil] at this; omega
     go_wp2_with fail
     go_ret
     refine ⟨_, rfl, ?_, HB1.out.trans (HBw.out.mono HB1.out.size)⟩
     have h1 := HO.out
     have h2 := HP.out
     rw [linesFrom, List.append_nil] at h2
     rw [← h2] at h1
     exact (h1.up HG1.out).bd
    | cons e rest =>
     have hlt : (dn.length : Int) < (es.length : Int) := by have := HLN.out; rw [List.length_cons] at this; omega
     have hn0 : (0 : Int) ≤ (dn.length : Int) := by omega
     obtain ⟨h1, h2, hok2⟩ := HOK.out
     have HOK2 := Lh hok2
     obtain ⟨b1, o1, hA1, hb1w, -, -, ce⟩ := int_at HS1.out (k := dn.length) (by have := HLN.out; simp at this ⊢; omega)
     have hce : (es.map (fun (n : Nat) => (n : Int)))[dn.length]'(by have := HLN.out; simp at this ⊢; omega) = (e : Int) := by
      simp [HE2.out]
     rw [hce] at ce
     subst hA1
     have HCE : Hid (∀ W, Below w1.heap.size w1 W → W.cell? ⟨b1, o1 + dn.length, none⟩ = some (.int .i64 (e : Int))) := Lh (fun W hW => (hW.cell (p := ⟨b1, o1 + dn.length, none⟩) hb1w).trans ce)
     have hfe : (fr : Int) < (e : Int) := by omega
     have hfe2 : (fr : Int) ≤ (e : Int) := by omega
     have hel : (e : Int) ≤ (l.length : Int) := by omega
     have hf0' : (0 : Int) ≤ (fr : Int) := by omega
     have hec2 : (e : Int) ≤ (c2 : Int) := by omega
     obtain ⟨last, hlast⟩ : ∃ last : Bool, decide (rest = []) = last := ⟨_, rfl⟩
     have hlq : (((dn.length : Int)) == (es.length : Int) - 1) = last := by
      rw [← hlast, Bool.eq_iff_iff, beq_iff_eq, decide_eq_true_iff, HLN.out, List.length_cons, ← List.length_eq_zero_iff]
      omega
     have HLA := Lh hlast
     obtain ⟨bw, ow, hA2, -⟩ := HSW1.out.2.2 (by rw [HWL.out]; omega)
     subst hA2
     have HCL : Hid ((cutL (widthsP l) fr e).length = e - fr) := Lh (cutL_len _ (by omega) (by rw [HWL.out]; omega))
     have HSW2 : Hid (Sl w1 (fun b => b < w1.heap.size) (some ⟨bw, ow + fr, none⟩) (c2 - fr) (cutL (widthsP l) fr e)) := Lh (by
      have hs3 := (HSW1.out.take e (by rw [HWL.out]; omega)).drop fr (by rw [List.length_take, HWL.out]; omega)
      rw [if_neg (by omega)] at hs3
      unfold cutL; simpa [addr_add, Rep.size] using hs3)
     have HRC := Lh (HR.out.cut fr e)
     obtain ⟨gp, hgp⟩ : ∃ gp, gapsP (cutL (widthsP l) fr e) m last = gp := ⟨_, rfl⟩
     have HGP := Lh hgp
     have hwf : IntKind.i64.wrap (first + (fr : Int)) = first + (fr : Int) := IntWalk.i64_in _ (by omega)
     have hwe : IntKind.i64.wrap (first + (e : Int)) = first + (e : Int) := IntWalk.i64_in _ (by omega)
     have HX : Hid (w1.heap.size ≤ wr.heap.size) := Lh HBw.out.size
     have HWF := Lh hwf
     have HWE := Lh hwe
     have hcf : ¬ c2 = fr := by omega
     clear hgp hb1w ce hce hok2 h1 h2 hlast hwf hwe
     go_upto_region 12 with (fail)
     refine wp_region_rely [22, 24] (fun i => if i = 22 then SP.own wr.heap.size 3 gp else if i = 24 then SP.box wr.heap.size #[.int .i64 0, .int .i64 0, .slice none 0 0, .slice none 0 0] 88 else SP.any) 25 (by kernel_rfl) (by kernel_rfl) ?_
     intro T _ g hg hgm
     have ce : ∀ d, (g d).cell? ⟨b1, o1 + dn.length, none⟩ = some (.int .i64 (e : Int)) := fun d => HCE.out _ (HBw.out.trans ((hg d).mono HX.out))
     have hwf := HWF.out
     have hwe := HWE.out
     repeat (refine wpR_pure (by rfl) fun Kq hq => ?_; go_big_quiet_step (fail); refine wpQuiet_nil (hq _ ?_); clear hq Kq)
     refine wpR_busy (by rfl) (by rfl) (fun d hG K Q hK => ?_) (fun v d hG hp Kr hr => ?_)
     ·have hc := rgaps_any (some ⟨bw, ow + fr, none⟩) (c2 - fr) (cutL (widthsP l) fr e) m last (g d) ((HSW2.out.to HBw.out).to (hg d)) HRC.out
      rw [HCL.out] at hc
      go_simp
      go_at_call 111
      refine (hc).mono ?_
      rintro e W1 ⟨v3, rfl, ho3, hb1⟩
      go_simp
      exact hK _ _ hb1 (show Own _ _ _ _ gp by rw [← HGP.out]; exact ho3.re (hg d).size)
     obtain ⟨A3, c3, rfl, -⟩ := (show Own (g d) wr.heap.size 3 v gp from hp).form
     (try clear hp); clear hG
     simp only [Act.put, sA0, sZ0, sS0]
     refine hr _ ?_
     clear hr Kr
     repeat (refine wpR_pure (by rfl) fun Kq hq => ?_; go_big_quiet_step (fail); refine wpQuiet_nil (hq _ ?_); clear hq Kq)
     refine wpR_busy (by rfl) (by rfl) (fun d hG K Q hK => ?_) (fun v d hG hp Kr hr => ?_)
     ·go_simp
      exact hK _ _ ((Below.refl _ _).alloc (Nat.le_refl _) _) ⟨_, rfl, (hg d).size, by simp, heap_alloc_new _ _⟩
     obtain ⟨O, rfl, hO, -⟩ := (show ∃ b, v = .pointer (some ⟨b, 0, none⟩) ∧ wr.heap.size ≤ b ∧ _ from hp)
     have HOW := Lh hO
     clear hO
     (try clear hp); clear hG
     simp only [Act.put, sA0, sZ0, sS0]
     refine hr _ ?_
     clear hr Kr
     refine wpR_tail 1 (by rfl) (by rfl) (fun d hG => ?_)
     have ho3 : Own (g d) wr.heap.size 3 (.slice A3 gp.length c3) gp := hG 22
     obtain ⟨b', hb', -, hbl, hbh⟩ := (show ∃ b, Value.pointer (some ⟨O, 0, none⟩) = .pointer (some ⟨b, 0, none⟩) ∧ wr.heap.size ≤ b ∧ b < (g d).heap.size ∧ (g d).heap[b]? = some (.cells #[.int .i64 0, .int .i64 0, .slice none 0 0, .slice none 0 0] 88 (0, 0)) from hG 24)
     cases hb'
     have HXB : Hid (ABox (g d) O 88 [.int .i64 0, .int .i64 0, .slice none 0 0, .slice none 0 0]) := Lh hbh
     have HO3 := Lh ho3
     have HNE := Lh (own_ne ho3 hbh (by decide))
     have HGD := Lh (hg d)
     have HOL := Lh hbl
     clear hG hg hgm ce ho3 hbl hbh hwf hwe
     generalize g d = w3 at *
     clear g
     have x0 := HXB.out.cell 0 rfl
     have x1 := (HXB.out.set 0 (.int .i64 (first + (fr : Int)))).cell 1 rfl
     have x2 := ((HXB.out.set 0 (.int .i64 (first + (fr : Int)))).set 1 (.int .i64 (first + (e : Int)))).cell 2 rfl
     have x3 := (((HXB.out.set 0 (.int .i64 (first + (fr : Int)))).set 1 (.int .i64 (first + (e : Int)))).set 2 (.slice A3 gp.length c3)).cell 3 rfl
     have y0 := HXB.out.fz 0
     have y1 := (HXB.out.set 0 (.int .i64 (first + (fr : Int)))).fz 1
     have y2 := ((HXB.out.set 0 (.int .i64 (first + (fr : Int)))).set 1 (.int .i64 (first + (e : Int)))).fz 2
     have y3 := (((HXB.out.set 0 (.int .i64 (first + (fr : Int)))).set 1 (.int .i64 (first + (e : Int)))).set 2 (.slice A3 gp.length c3)).fz 3
     refine wpAny_one (i := 25) (oi := _) rfl (by kernel_rfl) (by rfl) (fun K hK => ?_)
     go_simp
     refine hK _ _ ?_
     clear hK K
     try simp only [Act.put, sA0, sZ0, sS0]
     clear x0 x1 x2 x3 y0 y1 y2 y3
     refine wpAny_done (by kernel_rfl) ?_ _
     unfold Exit.then
     have HXC : Hid (ABox ((((w3.setCell ⟨O, 0, none⟩ (.int .i64 (first + (fr : Int)))).setCell ⟨O, 1, none⟩ (.int .i64 (first + (e : Int)))).setCell ⟨O, 2, none⟩ (.slice A3 gp.length c3)).setCell ⟨O, 3, none⟩ (.slice none 0 0)) O 88 [.int .i64 (first + (fr : Int)), .int .i64 (first + (e : Int)), .slice A3 gp.length c3, .slice none 0 0]) := Lh ((((HXB.out.set 0 (.int .i64 (first + (fr : Int)))).set 1 (.int .i64 (first + (e : Int)))).set 2 (.slice A3 gp.length c3)).set 3 (.slice none 0 0))
     have hkk : ∀ i, i ≠ O → ((((w3.setCell ⟨O, 0, none⟩ (.int .i64 (first + (fr : Int)))).setCell ⟨O, 1, none⟩ (.int .i64 (first + (e : Int)))).setCell ⟨O, 2, none⟩ (.slice A3 gp.length c3)).setCell ⟨O, 3, none⟩ (.slice none 0 0)).heap[i]? = w3.heap[i]? := fun i hi => (heap_set _ _ _ _ hi).trans ((heap_set _ _ _ _ hi).trans ((heap_set _ _ _ _ hi).trans (heap_set _ _ _ _ hi)))
     have HO4 : Hid (Own ((((w3.setCell ⟨O, 0, none⟩ (.int .i64 (first + (fr : Int)))).setCell ⟨O, 1, none⟩ (.int .i64 (first + (e : Int)))).setCell ⟨O, 2, none⟩ (.slice A3 gp.length c3)).setCell ⟨O, 3, none⟩ (.slice none 0 0)) wr.heap.size 3 (.slice A3 gp.length c3) gp) := Lh (own_keepI HO3.out (fun i hi => hkk i (fun e => HNE.out (e ▸ hi))))
     have HB4 : Hid (Below wr.heap.size wr ((((w3.setCell ⟨O, 0, none⟩ (.int .i64 (first + (fr : Int)))).setCell ⟨O, 1, none⟩ (.int .i64 (first + (e : Int)))).setCell ⟨O, 2, none⟩ (.slice A3 gp.length c3)).setCell ⟨O, 3, none⟩ (.slice none 0 0))) := Lh ((((HGD.out.setCell (p := ⟨O, 0, none⟩) HOW.out _).setCell (p := ⟨O, 1, none⟩) HOW.out _).setCell (p := ⟨O, 2, none⟩) HOW.out _).setCell (p := ⟨O, 3, none⟩) HOW.out _)
     have hsz : ((((w3.setCell ⟨O, 0, none⟩ (.int .i64 (first + (fr : Int)))).setCell ⟨O, 1, none⟩ (.int .i64 (first + (e : Int)))).setCell ⟨O, 2, none⟩ (.slice A3 gp.length c3)).setCell ⟨O, 3, none⟩ (.slice none 0 0)).heap.size = w3.heap.size := by simp
     have HBS : Hid (O < w3.heap.size) := HOL
     obtain ⟨W4, hW4⟩ : ∃ W4, ((((w3.setCell ⟨O, 0, none⟩ (.int .i64 (first + (fr : Int)))).setCell ⟨O, 1, none⟩ (.int .i64 (first + (e : Int)))).setCell ⟨O, 2, none⟩ (.slice A3 gp.length c3)).setCell ⟨O, 3, none⟩ (.slice none 0 0)) = W4 := ⟨_, rfl⟩
     rw [hW4] at HXC HO4 HB4 hsz ⊢
     obtain ⟨N0, hN0⟩ : ∃ N0, w3.heap.size = N0 := ⟨_, rfl⟩
     rw [hN0] at hsz HBS
     have HSZ := Lh hsz
     clear hkk hW4 hN0 hsz HXB HO3 HGD HOL
     have HL0 : Hid (LBx W4 O N0 88 (.int .i64 (first + (fr : Int))) (.int .i64 (first + (e : Int))) (.slice A3 gp.length c3) (.slice none 0 0) []) := Lh ⟨HXC.out, Own.nil _ _ _, HBS.out, by rw [HSZ.out]; exact Nat.le_refl _⟩
     have HA0 : Hid (Ap N0 O W4 W4) := Lh (Ap.refl _ _ _)
     clear w3
     go_wp2_with fail
     obtain ⟨wo, rfl⟩ : ∃ wo : World, wo = wr := ⟨_, rfl⟩
     go_loopw [15] (fun vi wx => ∃ (k : Nat) (v : Value) (N : List Int), vi = .int .i64 (k : Int) ∧ fr ≤ k ∧ k ≤ e ∧ Hid (LBx wx O N0 88 (.int .i64 (first + (fr : Int))) (.int .i64 (first + (e : Int))) (.slice A3 gp.length c3) v N) ∧ Hid (N = notesP (cutL l fr k)) ∧ Hid (Ap N0 O W4 wx)) (fun vi _ => e - (intOf vi).toNat)
     case atStart => exact ⟨fr, _, [], rfl, Nat.le_refl _, by omega, HL0, Lh (by rw [cutL_nil]; rfl), HA0⟩
     case round =>
      clear HL0 HA0
      obtain ⟨k, v, N, rfl, hk0, hk, HL, HNK, HA⟩ := hrel
      obtain ⟨A4, c4, rfl, -⟩ := HL.out.n.form
      have HB5 : Hid (Below wo.heap.size wo wr) := Lh (HB4.out.trans (HA.out.below HOW.out (Nat.le_of_lt HBS.out)))
      have HB6 : Hid (Below w1.heap.size w1 wr) := Lh (HBw.out.trans (HB5.out.mono HX.out))
      have ce := HCE.out _ HB6.out
      by_cases hlt2 : k < e
      ·have hki : (k : Int) < (e : Int) := by omega
       have hkl : k < l.length := by omega
       have hklI : (k : Int) < (l.length : Int) := by omega
       have hkc : (k : Int) < (c : Int) := by omega
       obtain ⟨b, o, hbo, -, hbl, -, -, -, -, e3⟩ := word_at (HS.out.to (HB1.out.trans (HB6.out.mono HB1.out.size))) hkl
       subst hbo
       have hcs := cutL_snoc l hk0 hkl
       have hxn := HNO.out _ (List.getElem_mem hkl)
       obtain ⟨x, hx⟩ : ∃ x, l[k] = x := ⟨_, rfl⟩
       rw [hx] at e3 hcs hxn
       obtain ⟨hx0, hx1⟩ := hxn
       have HNN : Hid (N.length ≤ 500) := Lh (by
        rw [HNK.out]
        refine Nat.le_trans (notesP_len _) ?_
        unfold cutL
        rw [List.length_drop, List.length_take]
        omega)
       have hst : notesP (cutL l fr (k + 1)) = N ++ (if x.n ≠ 0 then [x.n - 1] else []) := by rw [hcs, notesP_append, notesP_one, ← HNK.out]
       have HST := Lh hst
       clear hx hcs hst
       by_cases h0 : x.n = 0
       ·have HSN : Hid (notesP (cutL l fr (k + 1)) = N) := Lh (by rw [HST.out, if_neg (by simpa using h0), List.append_nil])
        rw [h0] at e3
        go_wp2_with fail
        go_roundw
        case rel => exact ⟨k + 1, _, N, by go_num, by omega, by omega, HL, Lh HSN.out.symm, HA⟩
        case measure => (first | (simp [intOf]; done) | (simp [intOf]; omega))
       ·have HSN : Hid (notesP (cutL l fr (k + 1)) = N ++ [x.n - 1]) := Lh (by rw [HST.out, if_pos h0])
        have h00 : (x.n == 0) = false := by rw [beq_eq_false_iff_ne]; exact h0
        have HE3 : Hid (∀ W, Below wr.heap.size wr W → W.cell? ⟨b, o + k * 4 + 3, none⟩ = some (.int .i64 x.n)) := Lh (fun W hW => (hW.cell (p := ⟨b, o + k * 4 + 3, none⟩) hbl).trans e3)
        have HI : Hid (I64 (x.n - 1)) := Lh (by unfold I64; omega)
        go_upto_region 17 with (fail)
        rw [show (x.n != 0) = true from bne_iff_ne.2 h0]
        clear e3 ce h0 h00
        refine wp_region_rely [8] (fun i => if i = 8 then SP.lit wr.heap.size 1 #[.int .i64 (x.n - 1)] 3 else SP.any) 9 (by kernel_rfl) (by kernel_rfl) ?_
        intro T _ g hg hgm
        have q3 : ∀ d, (g d).cell? ⟨O, 3, none⟩ = some (.slice A4 N.length c4) := fun d => (HL.out.o.to (hg d)).cell 3 rfl
        have e3 : ∀ d, (g d).cell? ⟨b, o + k * 4 + 3, none⟩ = some (.int .i64 x.n) := fun d => HE3.out _ (hg d)
        repeat (refine wpR_pure (by rfl) fun Kq hq => ?_; go_big_quiet_step (fail); refine wpQuiet_nil (hq _ ?_); clear hq Kq)
        refine wpR_busy (by rfl) (by rfl) (fun d hG K Q hK => ?_) (fun v d hG hp Kr hr => ?_)
        ·go_simp
         exact hK _ _ ((Below.refl _ _).alloc (Nat.le_refl _) _) ⟨_, rfl, (hg d).size, by simp, heap_alloc_new _ _⟩
        obtain ⟨bl, rfl, hbl2, -⟩ := (show ∃ b, v = .slice (some ⟨b, 0, none⟩) 1 1 ∧ wr.heap.size ≤ b ∧ _ from hp)
        have HBL2 := Lh hbl2
        clear hbl2
        (try clear hp); clear hG
        simp only [Act.put, sA0, sZ0, sS0]
        refine hr _ ?_
        clear hr Kr
        refine wpR_tail 3 (by rfl) (by rfl) (fun d hG => ?_)
        obtain ⟨b', hb', -, hbl3, hbh⟩ := (show ∃ b, Value.slice (some ⟨bl, 0, none⟩) 1 1 = .slice (some ⟨b, 0, none⟩) 1 1 ∧ wr.heap.size ≤ b ∧ b < (g d).heap.size ∧ (g d).heap[b]? = some (.cells #[.int .i64 (x.n - 1)] 3 (0, 0)) from hG 8)
        cases hb'
        have HLd := Lh (HL.out.below (hg d))
        have HAd : Hid (Ap N0 O W4 (g d)) := Lh (HA.out.trans (Ap.of ((hg d).mono HL.out.sz)))
        have HSLt : Hid (Sl (g d) (fun b => wr.heap.size ≤ b) (some ⟨bl, 0, none⟩) 1 [x.n - 1]) := Lh (lit_int hbh HI.out HBL2.out)
        have HLT := Lh HL.out.n.lt
        have HSD : Hid (N0 ≤ (g d).heap.size) := Lh (Nat.le_trans HL.out.sz (hg d).size)
        clear hG hg hgm q3 e3 hbl3 hbh
        generalize g d = w6 at *
        clear g
        refine wpAny_one (i := 9) (oi := _) rfl (by kernel_rfl) (by rfl) (fun K hK => ?_)
        refine wp_cat (α := Int) _ (.tmp 83) (.tmp 90) 22 rfl N0 3 (.int .i64 0) 8 Tryz.underlying22 int_info rfl (by decide) (.slice A4 N.length c4) N rfl HLd.out.n (some ⟨bl, 0, none⟩) 1 1 [x.n - 1] rfl rfl (fun b => wr.heap.size ≤ b) HSLt.out (fun i hi _ e => by have := (HLT.out i e.symm).2; omega) (by have := HNN.out; omega) (by have := HNN.out; omega) HSD.out ?_
        intro v5 w5 hown5 hg5 hat5
        obtain ⟨A5, c5, e5, -⟩ := hown5.form
        rw [show (N ++ [x.n - 1]).length = N.length + 1 by simp] at e5
        subst e5
        obtain ⟨hbx, hl5, ha5⟩ := HLd.out.push hown5 hg5
        have q5 := hbx.cell 3 rfl
        have qf := hbx.fz 3
        have HL5 := Lh hl5
        have HA5 := Lh (HAd.out.trans ha5)
        refine hK _ _ ?_
        clear hK K hown5 hg5 hat5 hbx hl5 ha5
        try simp only [Act.put, sA0]
        refine wpAny_one (i := 10) (oi := _) rfl (by kernel_rfl) (by rfl) (fun K hK => ?_)
        go_simp
        refine hK _ _ ?_
        clear hK K
        try simp only [Act.put, sA0, sZ0, sS0]
        refine wpAny_one (i := 11) (oi := _) rfl (by kernel_rfl) (by rfl) (fun K hK => ?_)
        go_simp
        refine hK _ _ ?_
        clear hK K
        try simp only [Act.put, sA0, sZ0, sS0]
        refine wpAny_done (by kernel_rfl) ?_ _
        unfold Exit.then
        clear q5 qf
        go_wp2_with fail
        go_roundw
        case rel => exact ⟨k + 1, _, N ++ [x.n - 1], by go_num, by omega, by omega, HL5, Lh HSN.out.symm, HA5⟩
        case measure => (first | (simp [intOf]; done) | (simp [intOf]; omega))
      ·obtain rfl : k = e := by omega
       have hki : ¬ (k : Int) < (k : Int) := by omega
       have HNE2 : Hid (N = notesP (cutL l fr k)) := HNK
       have HOD := Lh (HO.out.below HB5.out)
       obtain ⟨A9, c9, hv9, -⟩ := HO.out.form
       subst hv9
       have hGO : Own wr wo.heap.size 3 (.slice A3 gp.length c3) gp := own_keepI HO4.out (fun i hi => HA.out.block i (by have := (HO4.out.lt i hi).2; rw [HSZ.out] at this; exact this) (fun e => own_ne HO4.out HXC.out (by decide) (e ▸ hi)))
       have hba : Below wr.heap.size wr (wr.alloc (.cells #[.int .i64 (first + (fr : Int)), .int .i64 (first + (k : Int)), .slice A3 gp.length c3, .slice A4 N.length c4] 88)) := (Below.refl _ _).alloc (Nat.le_refl _) _
       have HWW : Hid (wo.heap.size ≤ wr.heap.size) := Lh HB5.out.size
       have HOA := Lh (HOD.out.alloc (.cells #[.int .i64 (first + (fr : Int)), .int .i64 (first + (k : Int)), .slice A3 gp.length c3, .slice A4 N.length c4] 88))
       have HLT : Hid (∀ q, (Value.slice A9 (done.map (Bd.mk : LineP → Bd LineP w1.heap.size)).length c9).ownBlock = some q → w1.heap.size ≤ q ∧ q < wo.heap.size) := Lh HO.out.lt
       have HON : Hid (O < N0) := HBS
       have hre : Rep.R (wr.alloc (.cells #[.int .i64 (first + (fr : Int)), .int .i64 (first + (k : Int)), .slice A3 gp.length c3, .slice A4 N.length c4] 88)) (fun b => some b ≠ (Value.slice A9 (done.map (Bd.mk : LineP → Bd LineP w1.heap.size)).length c9).ownBlock) [.int .i64 (first + (fr : Int)), .int .i64 (first + (k : Int)), .slice A3 gp.length c3, .slice A4 N.length c4] (Bd.mk (B := w1.heap.size) (⟨first + (fr : Int), first + (k : Int), gp, N⟩ : LineP)) :=
        ⟨_, _, rfl, rep_ints (hGO.below hba) rfl (fun b hb => ⟨fun e => by have := (HLT.out b e.symm).2; omega, by have := HX.out; omega⟩), rep_ints (HL.out.n.below hba) rfl (fun b hb => ⟨fun e => by have := (HLT.out b e.symm).2; have := HOW.out; have := HON.out; omega, by have := HX.out; have := HOW.out; have := HON.out; omega⟩)⟩
       have HRE := Lh hre
       have r0 := HL.out.o.cell 0 rfl
       have r1 := HL.out.o.cell 1 rfl
       have r2 := HL.out.o.cell 2 rfl
       have r3 := HL.out.o.cell 3 rfl
       have hdl : (done.map (Bd.mk : LineP → Bd LineP w1.heap.size)).length ≤ 500 := by rw [List.length_map, HDL.out]; omega
       have HDB := Lh hdl
       have HX6 : Hid (w1.heap.size ≤ wr.heap.size) := Lh HB6.out.size
       have HCE2 : Hid (∀ W, Below w1.heap.size w1 W → W.cell? ⟨b1, o1 + dn.length, none⟩ = some (.int .i64 (k : Int))) := HCE
       have HPX : Hid (setP l first m = (done ++ [(⟨first + (fr : Int), first + (k : Int), gp, N⟩ : LineP)]) ++ linesFrom l (widthsP l) m first k rest) := Lh (by
        rw [HP.out, linesFrom, HLA.out, HGP.out, ← HNE2.out, List.append_assoc]; rfl)
       clear hba hre hdl hGO
       go_upto_region 19 with (first
        |(at_builtin; refine wpList_push (α := Bd LineP w1.heap.size) _ rfl (.tmp 93) (.tmp 95) 34 rfl w1.heap.size 88 (.agg #[.int .i64 0, .int .i64 0, .slice none 0 0, .slice none 0 0]) 64 Tryz.underlying34 line_info rfl (show 0 < 4 by decide) _ (done.map (Bd.mk : LineP → Bd LineP w1.heap.size)) rfl HOA.out wr.heap.size _ ⟨⟨first + (fr : Int), first + (k : Int), gp, N⟩⟩ (0, 0) 88 rfl (heap_alloc_new wr _) HRE.out (by have := HDB.out; omega) (by have := HDB.out; omega) (by have := HX6.out; simp; omega) _ rfl ?_; intro g5 p5 w5 hown5 hg5 hat5 hlt5; have HON5 := Lh hown5; have HBN := Lh (below_push HB6.out HOD.out HX6.out hg5); clear hown5 hg5 hat5 hlt5)
        | fail)
       clear r0 r1 r2 r3 ce
       have ce := HCE2.out _ HBN.out
       go_wp2_with fail
       go_roundw
       case rel => exact ⟨dn ++ [k], rest, done ++ [⟨first + (fr : Int), first + (k : Int), gp, N⟩], k, rfl, by rw [List.length_append]; go_num, Lh (by rw [HE2.out]; simp), Lh (by simp [HDL.out]), HPX, by omega, HOK2, Lh (by have h := HON5.out; rw [List.length_map] at h; rw [List.map_append]; exact h), HBN⟩
       case measure => (have h := HLN.out; rw [List.length_cons] at h; first | (simp [intOf]; done) | (simp [intOf]; omega))
     end Go.Proofs.YtakaielemicpkaaGreatDoor
namespace Go.Proofs.YtakaielemicpkaaGreatDoor
open Go.RowKit
def wordE (x : Word) (next notes : Int) : Int :=
 if badW x = true then 7 else if x.t ≠ 0 ∧ x.t ≠ 1 then 5 else if x.n ≠ 0 ∧ (x.n ≠ next ∨ notes < x.n) then 5 else 0
theorem wordE_bad {x : Word} {a b : Int} (h : badW x = true) : wordE x a b = 7 := by unfold wordE; rw [if_pos h]
theorem wordE_tab {x : Word} {a b : Int} (h : badW x = false) (ht : x.t ≠ 0 ∧ x.t ≠ 1) : wordE x a b = 5 := by unfold wordE; rw [if_neg (by rw [h]; simp), if_pos ht]
theorem wordE_far {x : Word} {a b : Int} (h : badW x = false) (ht : x.t = 0 ∨ x.t = 1) (hn : x.n ≠ 0 ∧ (x.n ≠ a ∨ b < x.n)) : wordE x a b = 5 := by unfold wordE; rw [if_neg (by rw [h]; simp), if_neg (by omega), if_pos hn]
theorem wordE_ok {x : Word} {a b : Int} (h : badW x = false) (ht : x.t = 0 ∨ x.t = 1) (hn : ¬ (x.n ≠ 0 ∧ (x.n ≠ a ∨ b < x.n))) : wordE x a b = 0 := by unfold wordE; rw [if_neg (by rw [h]; simp), if_neg (by omega), if_neg hn]
set_option maxHeartbeats 2000000 in
theorem vword_any (x : Word) (a b : Int) (w : World) (hx : x.ok) :
  Calls Tryz.prog 108 #[.agg #[.string x.s, .string x.key, .int .i64 x.t, .int .i64 x.n], .int .i64 a, .int .i64 b] w fun e w' => e = .returned (.int .i64 (wordE x a b)) ∧ Below w.heap.size w w' := by
 have HB := Lh ((Below.refl w.heap.size w).alloc (Nat.le_refl _) (.cells #[.string x.s, .string x.key, .int .i64 x.t, .int .i64 x.n] 104))
 have H1 : Hid (x.s.size ≤ 9223372036854775807) := Lh (Nat.le_trans hx.1 (by decide))
 have H2 : Hid (x.key.size ≤ 9223372036854775807) := Lh (Nat.le_trans hx.2.1 (by decide))
 have hx2 := hx.2.2.1
 have hx3 := hx.2.2.2
 clear hx
 go_enter Tryz.func108, Tryz.ntmps108
 go_wp2_with fail
 refine (rvalid_any x.s _ H1.out).mono ?_
 rintro e w' ⟨rfl, rfl⟩
 cases hvs : valid x.s
 ·have E := Lh (wordE_bad (a := a) (b := b) (bad_s hvs))
  clear hvs
  go_wp2_with fail
  go_ret
  exact ⟨ret_int E.out.symm, HB.out⟩
 ·have Hvs := Lh hvs
  clear hvs
  by_cases hke : x.key = ⟨#[]⟩
  ·obtain ⟨k1, k2⟩ := key_nil hke
   have hgood := Lh (good_nokey Hvs.out hke)
   clear hke
   by_cases ht0 : x.t = 0
   ·have ht : Hid (x.t = 0 ∨ x.t = 1) := Lh (.inl ht0)
    have hB0 : (x.t != 0) = false := by rw [ht0]; rfl
    clear ht0
    by_cases hn0 : x.n = 0
    ·have E := Lh (wordE_ok (a := a) (b := b) hgood.out ht.out (by omega))
     have hB : (x.n != 0) = false := by rw [hn0]; rfl
     clear hn0
     go_wp2_with fail
     go_ret
     exact ⟨ret_int E.out.symm, HB.out⟩
    ·have hB : (x.n != 0) = true := bne_iff_ne.2 hn0
     by_cases hna : x.n = a
     ·have hC : (x.n != a) = false := by rw [hna]; simp
      by_cases hnb : b < x.n
      ·have E := Lh (wordE_far (a := a) (b := b) hgood.out ht.out ⟨hn0, .inr hnb⟩)
       clear hn0 hna
       go_wp2_with fail
       go_ret
       exact ⟨ret_int E.out.symm, HB.out⟩
      ·have E := Lh (wordE_ok (a := a) (b := b) hgood.out ht.out (by omega))
       clear hn0 hna
       go_wp2_with fail
       go_ret
       exact ⟨ret_int E.out.symm, HB.out⟩
     ·have hC : (x.n != a) = true := bne_iff_ne.2 hna
      have E := Lh (wordE_far (a := a) (b := b) hgood.out ht.out ⟨hn0, .inl hna⟩)
      clear hn0 hna
      go_wp2_with fail
      go_ret
      exact ⟨ret_int E.out.symm, HB.out⟩
   ·by_cases ht1 : x.t = 1
    ·have ht : Hid (x.t = 0 ∨ x.t = 1) := Lh (.inr ht1)
     have hB0 : (x.t != 0) = true := bne_iff_ne.2 ht0
     have hB1 : (x.t != 1) = false := by rw [ht1]; rfl
     clear ht0 ht1
     by_cases hn0 : x.n = 0
     ·have E := Lh (wordE_ok (a := a) (b := b) hgood.out ht.out (by omega))
      have hB : (x.n != 0) = false := by rw [hn0]; rfl
      clear hn0
      go_wp2_with fail
      go_ret
      exact ⟨ret_int E.out.symm, HB.out⟩
     ·have hB : (x.n != 0) = true := bne_iff_ne.2 hn0
      by_cases hna : x.n = a
      ·have hC : (x.n != a) = false := by rw [hna]; simp
       by_cases hnb : b < x.n
       ·have E := Lh (wordE_far (a := a) (b := b) hgood.out ht.out ⟨hn0, .inr hnb⟩)
        clear hn0 hna
        go_wp2_with fail
        go_ret
        exact ⟨ret_int E.out.symm, HB.out⟩
       ·have E := Lh (wordE_ok (a := a) (b := b) hgood.out ht.out (by omega))
        clear hn0 hna
        go_wp2_with fail
        go_ret
        exact ⟨ret_int E.out.symm, HB.out⟩
      ·have hC : (x.n != a) = true := bne_iff_ne.2 hna
       have E := Lh (wordE_far (a := a) (b := b) hgood.out ht.out ⟨hn0, .inl hna⟩)
       clear hn0 hna
       go_wp2_with fail
       go_ret
       exact ⟨ret_int E.out.symm, HB.out⟩
    ·have E := Lh (wordE_tab (a := a) (b := b) hgood.out ⟨ht0, ht1⟩)
     have hB0 : (x.t != 0) = true := bne_iff_ne.2 ht0
     have hB1 : (x.t != 1) = true := bne_iff_ne.2 ht1
     clear ht0 ht1
     go_wp2_with fail
     go_ret
     exact ⟨ret_int E.out.symm, HB.out⟩
  ·obtain ⟨k1, k2⟩ := key_some hke
   have Hke := Lh hke
   clear hke
   go_wp2_with fail
   refine (rvalid_any x.key _ H2.out).mono ?_
   rintro e w' ⟨rfl, rfl⟩
   cases hvk : valid x.key
   ·have E := Lh (wordE_bad (a := a) (b := b) (bad_key Hke.out hvk))
    clear hvk
    go_wp2_with fail
    go_ret
    exact ⟨ret_int E.out.symm, HB.out⟩
   ·have hgood := Lh (good_key Hvs.out hvk)
    clear hvk
    by_cases ht0 : x.t = 0
    ·have ht : Hid (x.t = 0 ∨ x.t = 1) := Lh (.inl ht0)
     have hB0 : (x.t != 0) = false := by rw [ht0]; rfl
     clear ht0
     by_cases hn0 : x.n = 0
     ·have E := Lh (wordE_ok (a := a) (b := b) hgood.out ht.out (by omega))
      have hB : (x.n != 0) = false := by rw [hn0]; rfl
      clear hn0
      go_wp2_with fail
      go_ret
      exact ⟨ret_int E.out.symm, HB.out⟩
     ·have hB : (x.n != 0) = true := bne_iff_ne.2 hn0
      by_cases hna : x.n = a
      ·have hC : (x.n != a) = false := by rw [hna]; simp
       by_cases hnb : b < x.n
       ·have E := Lh (wordE_far (a := a) (b := b) hgood.out ht.out ⟨hn0, .inr hnb⟩)
        clear hn0 hna
        go_wp2_with fail
        go_ret
        exact ⟨ret_int E.out.symm, HB.out⟩
       ·have E := Lh (wordE_ok (a := a) (b := b) hgood.out ht.out (by omega))
        clear hn0 hna
        go_wp2_with fail
        go_ret
        exact ⟨ret_int E.out.symm, HB.out⟩
      ·have hC : (x.n != a) = true := bne_iff_ne.2 hna
       have E := Lh (wordE_far (a := a) (b := b) hgood.out ht.out ⟨hn0, .inl hna⟩)
       clear hn0 hna
       go_wp2_with fail
       go_ret
       exact ⟨ret_int E.out.symm, HB.out⟩
    ·by_cases ht1 : x.t = 1
     ·have ht : Hid (x.t = 0 ∨ x.t = 1) := Lh (.inr ht1)
      have hB0 : (x.t != 0) = true := bne_iff_ne.2 ht0
      have hB1 : (x.t != 1) = false := by rw [ht1]; rfl
      clear ht0 ht1
      by_cases hn0 : x.n = 0
      ·have E := Lh (wordE_ok (a := a) (b := b) hgood.out ht.out (by omega))
       have hB : (x.n != 0) = false := by rw [hn0]; rfl
       clear hn0
       go_wp2_with fail
       go_ret
       exact ⟨ret_int E.out.symm, HB.out⟩
      ·have hB : (x.n != 0) = true := bne_iff_ne.2 hn0
       by_cases hna : x.n = a
       ·have hC : (x.n != a) = false := by rw [hna]; simp
        by_cases hnb : b < x.n
        ·have E := Lh (wordE_far (a := a) (b := b) hgood.out ht.out ⟨hn0, .inr hnb⟩)
         clear hn0 hna
         go_wp2_with fail
         go_ret
         exact ⟨ret_int E.out.symm, HB.out⟩
        ·have E := Lh (wordE_ok (a := a) (b := b) hgood.out ht.out (by omega))
         clear hn0 hna
         go_wp2_with fail
         go_ret
         exact ⟨ret_int E.out.symm, HB.out⟩
       ·have hC : (x.n != a) = true := bne_iff_ne.2 hna
        have E := Lh (wordE_far (a := a) (b := b) hgood.out ht.out ⟨hn0, .inl hna⟩)
        clear hn0 hna
        go_wp2_with fail
        go_ret
        exact ⟨ret_int E.out.symm, HB.out⟩
     ·have E := Lh (wordE_tab (a := a) (b := b) hgood.out ⟨ht0, ht1⟩)
      have hB0 : (x.t != 0) = true := bne_iff_ne.2 ht0
      have hB1 : (x.t != 1) = true := bne_iff_ne.2 ht1
      clear ht0 ht1
      go_wp2_with fail
      go_ret
      exact ⟨ret_int E.out.symm, HB.out⟩
end Go.Proofs.YtakaielemicpkaaGreatDoor
namespace Go.Proofs.YtakaielemicpkaaGreatDoor
open Go.RowKit
def szE (a b : List (List Word)) : Int := if 100 < a.length ∨ 100 < b.length ∨ anyLen longP (a ++ b) = true then 2 else if anyLen emptyP (a ++ b) = true then 1 else 0
set_option maxHeartbeats 2000000 in
theorem sizes_any (A B : Option Addr) (c d : Nat) (a b : List (List Word)) (w : World) (ha : Sl w (fun b => b < w.heap.size) A c a) (hb : Sl w (fun b => b < w.heap.size) B d b) :
  Calls Tryz.prog 107 #[.agg #[.slice A a.length c, .slice B b.length d]] w fun e w' => e = .returned (.int .i64 (szE a b)) ∧ Below w.heap.size w w' := by
 have hla : a.length ≤ 9223372036854775807 := by have := ha.1; have := ha.2.1; unfold maxLen at this; omega
 have hlb : b.length ≤ 9223372036854775807 := by have := hb.1; have := hb.2.1; unfold maxLen at this; omega
 have hb0 := ((Below.refl w.heap.size w).alloc (Nat.le_refl _) (.cells #[.slice A a.length c, .slice B b.length d] 50))
 have HA := Lh (ha.keep (Kept.all hb0) hb0.size)
 have HBs := Lh (hb.keep (Kept.all hb0) hb0.size)
 have Hb0 := Lh hb0
 have HY : Hid (TBox (w.alloc (.cells #[.slice A a.length c, .slice B b.length d] 50)) w.heap.size (.slice A a.length c) (.slice B b.length d)) := Lh ⟨heap_alloc_new w _⟩
 have HS : Hid (szE a b = if 100 < a.length ∨ 100 < b.length ∨ anyLen longP (a ++ b) = true then 2 else if anyLen emptyP (a ++ b) = true then 1 else 0) := rfl
 generalize szE a b = res at *
 clear ha hb hb0
 by_cases h1 : 100 < a.length
 ·have E := Lh (show res = 2 by rw [HS.out, if_pos (.inl h1)])
  have h1' : (100 : Int) < (a.length : Int) := by omega
  go_enter Tryz.func107, Tryz.ntmps107
  go_wp2_with fail
  go_ret
  exact ⟨ret_int E.out.symm, Hb0.out⟩
 ·have h1' : ¬ (100 : Int) < (a.length : Int) := by omega
  by_cases h2 : 100 < b.length
  ·have E := Lh (show res = 2 by rw [HS.out, if_pos (.inr (.inl h2))])
   have h2' : (100 : Int) < (b.length : Int) := by omega
   go_enter Tryz.func107, Tryz.ntmps107
   go_wp2_with fail
   go_ret
   exact ⟨ret_int E.out.symm, Hb0.out⟩
  ·have h2' : ¬ (100 : Int) < (b.length : Int) := by omega
   have hz1 : w.heap.size < (w.alloc (.cells #[.slice A a.length c, .slice B b.length d] 50)).heap.size := by simp
   go_enter Tryz.func107, Tryz.ntmps107
   have ha100 : a.length ≤ 100 := by omega
   have hb100 : b.length ≤ 100 := by omega
   go_wp2_with (first
    |(at_builtin; refine wpList_cat (α := List Word) _ rfl (.tmp 16) (.tmp 18) 48 rfl (w.heap.size + 1) 99 (.slice none 0 0) 24 Tryz.underlying48 part_info rfl (by decide) (.slice none 0 0) [] rfl (Own.nil _ _ _) A c a.length a rfl rfl (fun b => b < w.heap.size) HA.out (by intro i _ _ e; simp [Value.ownBlock] at e) (by first | omega | (simp; done) | (simp; omega)) (by first | omega | (simp; done) | (simp; omega)) (by simp) ?_; intro v5 w5 hown5' hg5 hat5; have hown5 : Own w5 (w.heap.size + 1) 99 v5 a := hown5'; have hb5 : Below (w.heap.size + 1) (w.alloc (.cells #[.slice A a.length c, .slice B b.length d] 50)) w5 := (Below.refl _ _).grown hg5 (by simp) (fun g hg => by simp [Value.ownBlock] at hg); obtain ⟨A5, c5, hv5, hv5b, _⟩ := hown5.form; subst hv5; have u0 := (HY.out.kept (hb5.block w.heap.size (by omega))).c0; have u1 := (HY.out.kept (hb5.block w.heap.size (by omega))).c1; have hlt5 := hown5.lt; have hz5 := hb5.size; clear hown5' hg5 hat5)
    |(at_builtin; refine wpList_cat (α := List Word) _ rfl (.tmp 20) (.tmp 22) 48 rfl (w.heap.size + 1) 99 (.slice none 0 0) 24 Tryz.underlying48 part_info rfl (by decide) (.slice A5 a.length c5) a rfl hown5 B d b.length b rfl rfl (fun b => b < w.heap.size) (HBs.out.keep (Kept.below hb5 (fun i hi => Nat.lt_succ_of_lt hi)) hb5.size) (by intro i hi _ e; have := hlt5 i e.symm; omega) (by omega) (by omega) (by simp at hz5; omega) ?_; intro v6 w6 hown6 hg6 hat6; have hb6 : Below (w.heap.size + 1) (w.alloc (.cells #[.slice A a.length c, .slice B b.length d] 50)) w6 := hb5.grown hg6 (by simp at hz5; omega) (fun g hg => (hlt5 g hg).1); obtain ⟨A6, c6, hv6, hs6⟩ := hown6.sl; subst hv6; have Hs6 := Lh hs6; have Hb6 := Lh (Hb0.out.trans (hb6.mono (by omega))); have hll : (a ++ b).length ≤ 200 := (by simp; omega); clear hs6 hg6 hat6 hown6 hb6 hown5 hb5 hlt5; generalize a ++ b = l at *)
    | fail)
   clear HA HBs HY
   have hcond : Hid (¬ (100 < a.length ∨ 100 < b.length)) := Lh (by omega)
   go_loopw [4] (fun i wr => ∃ k : Nat, k ≤ l.length ∧ i = .int .i64 k ∧ Hid (anyLen longP (l.take k) = false) ∧ wr = w6) (fun i _ => l.length - (intOf i).toNat)
   case atStart => exact ⟨0, Nat.zero_le _, rfl, rfl, rfl⟩
   case round =>
    obtain ⟨k, hk, rfl, hno, rfl⟩ := hrel
    by_cases hlt : k < l.length
    ·obtain ⟨b1, o1, Ap, cp, rfl, _, hbl, hc, hp⟩ := part_at Hs6.out hlt
     have hkl : (k : Int) < (l.length : Int) := by omega
     have hk0 : (0 : Int) ≤ (k : Int) := by omega
     have HT := Lh (anyLen_take longP l k hlt)
     have HH := Lh (anyLen_hit longP l k hlt)
     have h2 : l[k].length ≤ 9223372036854775807 := by have := hp.1; have := hp.2.1; unfold maxLen at this; omega
     generalize l[k].length = q at *
     clear hp
     by_cases hq : 500 < q
     ·have hq' : (500 : Int) < (q : Int) := by omega
      have E := Lh (show res = 2 by rw [HS.out, if_pos (.inr (.inr (HH.out (by unfold longP; exact decide_eq_true hq))))])
      go_wp2_with fail
      go_ret
      exact ⟨ret_int E.out.symm, Hb6.out⟩
     ·have hq' : ¬ (500 : Int) < (q : Int) := by omega
      have E := Lh (show anyLen longP (l.take (k + 1)) = false by rw [HT.out, hno.out]; unfold longP; rw [decide_eq_false hq]; rfl)
      go_wp2_with fail
      go_roundw
      case rel => exact ⟨k + 1, by omega, by go_num, E.out, by first | trivial | rfl⟩
      case measure => simp [intOf]; omega
    ·have hkl : ¬ (k : Int) < (l.length : Int) := by omega
     have E1 := Lh (show anyLen longP l = false by have := hno.out; rwa [List.take_of_length_le (by omega)] at this)
     go_wp2_with fail
     obtain ⟨wo, rfl⟩ : ∃ wo : World, wo = wr := ⟨_, rfl⟩
     go_loopw [5] (fun i wr => ∃ k : Nat, k ≤ l.length ∧ i = .int .i64 k ∧ Hid (anyLen emptyP (l.take k) = false) ∧ wr = wo) (fun i _ => l.length - (intOf i).toNat)
     case atStart => exact ⟨0, Nat.zero_le _, rfl, rfl, rfl⟩
     case round =>
      clear hk hlt hkl hno
      obtain ⟨k, hk, rfl, hno, rfl⟩ := hrel
      by_cases hlt : k < l.length
      ·obtain ⟨b1, o1, Ap, cp, rfl, _, hbl, hc, hp⟩ := part_at Hs6.out hlt
       have hkl : (k : Int) < (l.length : Int) := by omega
       have hk0 : (0 : Int) ≤ (k : Int) := by omega
       have HT := Lh (anyLen_take emptyP l k hlt)
       have HH := Lh (anyLen_hit emptyP l k hlt)
       have h2 : l[k].length ≤ 9223372036854775807 := by have := hp.1; have := hp.2.1; unfold maxLen at this; omega
       generalize l[k].length = q at *
       clear hp
       by_cases hq : q = 0
       ·have E := Lh (show res = 1 by rw [HS.out, if_neg (by rintro (h | h | h); exact hcond.out (.inl h); exact hcond.out (.inr h); rw [E1.out] at h; cases h), if_pos (HH.out (by unfold emptyP; exact decide_eq_true hq))])
        subst hq
        go_wp2_with fail
        go_ret
        exact ⟨ret_int E.out.symm, Hb6.out⟩
       ·have hq' : ((q : Int) == 0) = false := beq_eq_false_iff_ne.2 (by omega)
        have hq2 : (q == 0) = false := beq_eq_false_iff_ne.2 hq
        have E := Lh (show anyLen emptyP (l.take (k + 1)) = false by rw [HT.out, hno.out]; unfold emptyP; rw [decide_eq_false hq]; rfl)
        have hqn := Lh hq
        clear hq
        go_wp2_with fail
        go_roundw
        case rel => exact ⟨k + 1, by omega, by go_num, E.out, by first | trivial | rfl⟩
        case measure => simp [intOf]; omega
      ·have hkl : ¬ (k : Int) < (l.length : Int) := by omega
       have E2 := Lh (show anyLen emptyP l = false by have := hno.out; rwa [List.take_of_length_le (by omega)] at this)
       have E := Lh (show res = 0 by rw [HS.out, if_neg (by rintro (h | h | h); exact hcond.out (.inl h); exact hcond.out (.inr h); rw [E1.out] at h; cases h), if_neg (by rw [E2.out]; simp)])
       go_wp2_with fail
       go_ret
       exact ⟨ret_int E.out.symm, Hb6.out⟩
end Go.Proofs.YtakaielemicpkaaGreatDoor
