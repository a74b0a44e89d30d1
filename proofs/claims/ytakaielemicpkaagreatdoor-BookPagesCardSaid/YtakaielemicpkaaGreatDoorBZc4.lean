/- The reference's ends of lines are those of package para. No condition but that the widths are regular.
What a text whose Check gives 0 is like. No program is in sight.
Check of the program returns the specified error. No condition but that the sizes fit.
The lines of a text. No condition.
The check of lines and their notes. No condition.
A copy onto a new row; rows whose elements are read in another way. No condition. -/
import Derived.Test.YtakaielemicpkaaGreatDoorBZc3
import Derived.OwnWalk
import Derived.Laws.CopyOwn
namespace Go.Proofs.YtakaielemicpkaaGreatDoor
open Go.RowKit
def curR (d : Nat) (cur : Int × Nat) : Int := if d = 0 then -1 else cur.1
set_option maxRecDepth 100000 in
set_option maxHeartbeats 8000000 in
theorem rends_any (A : Option Addr) (c : Nat) (ws : List Int) (m : Int) (w : World) (hs : Sl w (fun b => b < w.heap.size) A c ws) (hr : Reg ws m) :
  Calls Tryz.prog 110 #[.slice A ws.length c, .int .i64 m] w fun e w' => ∃ v, e = .returned (.tuple #[v, .int .i64 0]) ∧ Own w' w.heap.size 3 v ((endsP ws m).map (fun (n : Nat) => (n : Int))) ∧ Below w.heap.size w w' := by
 have HC := Lib.hid (regular_any A c ws m w hs hr)
 have HS := Lib.hid hs
 have HR := Lib.hid hr
 have h1 : m ≤ 2000 := hr.hi
 have h2 : 500 ≤ m := hr.lo
 have h3 : ws.length ≤ 500 := hr.n
 have hn1 : Value.int .i64 ((ws.length : Int) + 1) = Value.int .i64 ((ws.length + 1 : Nat) : Int) := by rw [Int.natCast_add]; rfl
 have HN1 := Lib.hid hn1
 clear hs hr hn1
 go_enter Tryz.func110, Tryz.ntmps110
 go_wp2_with fail
 refine HC.out.mono ?_
 rintro e w1 ⟨rfl, hb1⟩
 have HB1 := Lib.hid hb1
 clear HC hb1
 go_wp2_with (first
  |(refine wpList_make rfl 22 (.tmp 25) (.tmp 25) rfl 3 (.int .i64 0) 1 8 Tryz.underlying22 int_info (ws.length + 1) HN1.out HN1.out (by omega) (by omega) ?_)
  |(refine wpList_make rfl 22 (.tmp 28) (.tmp 28) rfl 3 (.int .i64 0) 1 8 Tryz.underlying22 int_info (ws.length + 1) HN1.out HN1.out (by omega) (by omega) ?_)
  | fail)
 have hr0 := irow_made1 w1 (ws.length + 1) 3
 have hr1 := irow_made1 (w1.alloc (.cells (madeCells #[Value.int .i64 0] (ws.length + 1)) 3)) (ws.length + 1) 3
 rw [World.size_alloc] at hr1
 have hb1 : Below w1.heap.size w1 (w1.alloc (.cells (madeCells #[Value.int .i64 0] (ws.length + 1)) 3)) := (Below.refl _ _).alloc (Nat.le_refl _) _
 have hb2 : Below (w1.alloc (.cells (madeCells #[Value.int .i64 0] (ws.length + 1)) 3)).heap.size (w1.alloc (.cells (madeCells #[Value.int .i64 0] (ws.length + 1)) 3)) _ := (Below.refl _ _).alloc (Nat.le_refl _) (.cells (madeCells #[Value.int .i64 0] (ws.length + 1)) 3)
 have HCR := Lib.hid (hr0.to hb2)
 have HER := Lib.hid hr1
 have HBc := Lib.hid (HB1.out.trans ((hb1.trans (hb2.mono (by simp))).mono HB1.out.size))
 obtain ⟨Cb, hCb⟩ : ∃ Cb, w1.heap.size = Cb := ⟨_, rfl⟩
 have HNE : Hid (Cb ≠ Cb + 1 ∧ w.heap.size ≤ Cb ∧ w.heap.size ≤ Cb + 1) := Lib.hid ⟨by omega, by have := HB1.out.size; omega, by have := HB1.out.size; omega⟩
 obtain ⟨Eb, hEb⟩ : ∃ Eb, Cb + 1 = Eb := ⟨_, rfl⟩
 obtain ⟨wA, hwA⟩ : ∃ wA, (w1.alloc (.cells (madeCells #[Value.int .i64 0] (ws.length + 1)) 3)).alloc (.cells (madeCells #[Value.int .i64 0] (ws.length + 1)) 3) = wA := ⟨_, rfl⟩
 rw [hwA] at HCR HER HBc ⊢
 rw [hCb] at HCR HER ⊢
 rw [hEb] at HER HNE ⊢
 clear hr0 hr1 hb1 hb2 hwA hCb hEb HB1 HN1
 go_loopw [10] (fun z wr => ∃ (k : Nat) (i1 : Nat), z = .int .i64 ((i1 : Int) - 1) ∧ Hid (i1 + k = ws.length) ∧ Hid (IRow wr Cb 3 (List.replicate i1 0 ++ (bestL ws m k).map (·.1))) ∧ Hid (IRow wr Eb 3 (List.replicate i1 0 ++ (bestL ws m k).map (fun x => (x.2 : Int)))) ∧ Hid (Below w.heap.size w wr)) (fun z _ => (intOf z + 1).toNat)
 case atStart => exact ⟨0, ws.length, rfl, Lib.hid (by omega), Lib.hid (by rw [← rowC_start]; exact HCR.out), Lib.hid (by rw [← rowE_start]; exact HER.out), HBc⟩
 case round =>
  clear HCR HER HBc
  obtain ⟨k, i1, rfl, HIK, HCR, HER, HBw⟩ := hrel
  by_cases hz : i1 = 0
  ·subst hz
   have HKN : Hid (k = ws.length) := Lib.hid (by have := HIK.out; omega)
   have HE0 : Hid (IRow wr Eb 3 ((bestL ws m ws.length).map (fun x => (x.2 : Int)))) := Lib.hid (by have := HER.out; rw [HKN.out] at this; exact this)
   clear HER HCR HKN HIK
   rw [show ((0 : Nat) : Int) - 1 = -1 from rfl]
   go_wp2_with fail
   obtain ⟨wo, rfl⟩ : ∃ wo : World, wo = wr := ⟨_, rfl⟩
   go_loopw [14, 15] (fun v vi wq => ∃ (f a : Nat) (dn : List Nat), vi = .int .i64 (a : Int) ∧ a ≤ ws.length ∧ Hid (ws.length - a ≤ f) ∧ Hid (endsP ws m = dn ++ chainE ((bestL ws m ws.length).map (·.2)) ws.length f a) ∧ Hid (dn.length ≤ a) ∧ Hid (Own wq wo.heap.size 3 v (dn.map (fun (n : Nat) => (n : Int)))) ∧ Hid (Below wo.heap.size wo wq)) (fun _ vi _ => ws.length - (intOf vi).toNat)
   case atStart => exact ⟨ws.length, 0, [], rfl, Nat.zero_le _, Lib.hid (by omega), Lib.hid rfl, Lib.hid (Nat.zero_le _), Lib.hid (Own.nil _ _ _), Lib.hid (Below.refl _ _)⟩
   case round =>
    obtain ⟨f, a, dn, rfl, han, HF, HEN, HDL, HO, HBq⟩ := hrel
    by_cases hlt : a < ws.length
    ·have hai : (a : Int) < (ws.length : Int) := by omega
     have ha0 : (0 : Int) ≤ (a : Int) := by omega
     obtain ⟨f', rfl⟩ : ∃ f', f = f' + 1 := ⟨f - 1, by have := HF.out; omega⟩
     have HEA := Lib.hid (bestAt_end HR.out a hlt)
     have HNX : Hid (endsP ws m = (dn ++ [(bestAt ws m a).2]) ++ chainE ((bestL ws m ws.length).map (·.2)) ws.length f' (bestAt ws m a).2) := Lib.hid (by rw [HEN.out, chain_at ws m a f' hlt]; simp)
     have HE1 := Lib.hid (HE0.out.to HBq.out)
     have c0 : wr.cell? ⟨Eb, a, none⟩ = some (.int .i64 ((bestAt ws m a).2 : Int)) := HE1.out.cell a (ends_at ws m a hlt)
     generalize (bestAt ws m a).2 = en at *
     have hba : Below wr.heap.size wr (wr.alloc (.cells #[.int .i64 (en : Int)] 3)) := (Below.refl _ _).alloc (Nat.le_refl _) _
     have HO2 := Lib.hid (HO.out.below hba)
     have HI : Hid (I64 (en : Int)) := Lib.hid (by have := HEA.out; unfold I64; omega)
     have HLD : Hid (dn.length ≤ 500) := Lib.hid (by have := HDL.out; omega)
     have HCE : Hid (∀ W, Below wo.heap.size wo W → W.cell? ⟨Eb, a, none⟩ = some (.int .i64 (en : Int))) := Lib.hid (fun W hW => by
      have h1 := c0
      have h2 := HE0.out.lt
      exact ((hW.cell (p := ⟨Eb, a, none⟩) h2).trans ((HBq.out.cell (p := ⟨Eb, a, none⟩) h2).symm)).trans h1)
     clear hba
     go_upto_region 26 with (first
      |(at_builtin; refine wpList_push (α := Int) _ rfl (.tmp 97) (.tmp 102) 22 rfl wo.heap.size 3 (.int .i64 0) 8 Tryz.underlying22 int_info rfl (by decide) _ (dn.map (fun (n : Nat) => (n : Int))) rfl HO2.out wr.heap.size #[.int .i64 (en : Int)] (en : Int) (0, 0) 3 rfl (heap_alloc_new wr _) ⟨rfl, HI.out⟩ (by have := HLD.out; rw [List.length_map]; omega) (by have := HLD.out; rw [List.length_map]; omega) (by have := HBq.out.size; simp; omega) _ rfl ?_; intro g5 p5 w5 hown5 hg5 hat5 hlt5)
      | fail)
     have hb5 : Below wo.heap.size wo w5 := below_push HBq.out HO.out HBq.out.size hg5
     have HO5 := Lib.hid hown5
     have HB5 := Lib.hid hb5
     have c5 := HCE.out w5 hb5
     clear hb5 hown5 hg5 hat5 hlt5 c0 HCE
     go_wp2_with fail
     go_roundw
     case rel => exact ⟨f', en, dn ++ [en], rfl, by have := HEA.out; omega, Lib.hid (by have := HEA.out; have := HF.out; omega), HNX, Lib.hid (by have := HEA.out; have := HDL.out; simp; omega), Lib.hid (by have := HO5.out; rw [List.length_map] at this; rw [List.map_append]; exact this), HB5⟩
     case measure => (have hx1 := HEA.out; simp [intOf]; omega)
    ·have hai : ¬ (a : Int) < (ws.length : Int) := by omega
     have HFN : Hid (endsP ws m = dn) := Lib.hid (by
      have e : chainE ((bestL ws m ws.length).map (·.2)) ws.length f a = [] := by
       cases f with
       | zero => rfl
       | succ f => rw [chainE, if_neg hlt]
      rw [HEN.out, e, List.append_nil])
     have HBz := Lib.hid (HBw.out.trans (HBq.out.mono HBw.out.size))
     have HOz := Lib.hid (HO.out.re HBw.out.size)
     go_wp2_with fail
     go_ret2
     exact ⟨_, rfl, by rw [HFN.out]; exact HOz.out, HBz.out⟩
  ·obtain ⟨i, rfl⟩ : ∃ i, i1 = i + 1 := ⟨i1 - 1, by omega⟩
   have hi0 : (0 : Int) ≤ (i : Int) := by omega
   have hi5 : (i : Int) < 500 := by have := HIK.out; omega
   have hi6 : (i : Int) < (ws.length : Int) := by have := HIK.out; omega
   have hii : ((i + 1 : Nat) : Int) - 1 = (i : Int) := by omega
   rw [hii]
   clear hii hz
   have HIN : Hid (i + 1 + k = ws.length) := HIK
   have HC0 : Hid (IRow wr Cb 3 (rowC ws m k i 0)) := Lib.hid (by unfold rowC; rw [← row_open]; exact HCR.out)
   have HE0 : Hid (IRow wr Eb 3 (rowE ws m k i 0)) := Lib.hid (by unfold rowE; rw [← row_open]; exact HER.out)
   clear HIK HCR HER
   have c0 : wr.cell? ⟨Cb, i, none⟩ = some (.int .i64 0) := HC0.out.cell i (row_at _ _ _)
   have f0 := HC0.out.fz i
   have HC1 : Hid (IRow (wr.setCell ⟨Cb, i, none⟩ (.int .i64 (-1))) Cb 3 (rowC ws m k i (curR 0 (0, 0)))) := Lib.hid (by have := HC0.out.set i (-1); rwa [show rowC ws m k i 0 = List.replicate i 0 ++ 0 :: (bestL ws m k).map (·.1) from rfl, row_set] at this)
   have HE1 : Hid (IRow (wr.setCell ⟨Cb, i, none⟩ (.int .i64 (-1))) Eb 3 (rowE ws m k i 0)) := Lib.hid (HE0.out.other (Ne.symm HNE.out.1) i (.int .i64 (-1)))
   have HB1 : Hid (Below w.heap.size w (wr.setCell ⟨Cb, i, none⟩ (.int .i64 (-1)))) := Lib.hid (HBw.out.setCell (p := ⟨Cb, i, none⟩) HNE.out.2.1 _)
   clear HC0 HE0 HBw
   go_wp2_with fail
   clear c0 f0
   generalize wr.setCell ⟨Cb, i, none⟩ (.int .i64 (-1)) = wB at *
   go_loopw [11, 12] (fun vs vj ww => ∃ (d p : Nat) (s : Int) (cur : Int × Nat), vs = .int .i64 s ∧ vj = .int .i64 ((p : Int) + 1) ∧ Hid (p = i + d ∧ p ≤ ws.length) ∧ s ≤ 2006 ∧ 0 ≤ s ∧ Hid (d = 0 → s = m + 6) ∧ Hid (scanE ws.length (ws.drop i) (bestL ws m k) (m + 6) (i + 1) true (0, 0) = scanE ws.length (ws.drop p) ((bestL ws m k).drop d) s (p + 1) (decide (d = 0)) cur) ∧ Hid (0 ≤ cur.1 ∧ cur.1 ≤ 4100000 * ((k : Int) + 1)) ∧ Hid (IRow ww Cb 3 (rowC ws m k i (curR d cur))) ∧ Hid (IRow ww Eb 3 (rowE ws m k i (cur.2 : Int))) ∧ Hid (Below w.heap.size w ww)) (fun _ vj _ => (ws.length + 1 - (intOf vj).toNat))
   case atStart => exact ⟨0, i, m + 6, (0, 0), rfl, rfl, Lib.hid (by have := HIN.out; omega), by omega, by omega, Lib.hid (fun _ => rfl), Lib.hid rfl, Lib.hid (by simp; omega), HC1, HE1, HB1⟩
   case round =>
    clear HC1 HE1 HB1
    obtain ⟨d, p, s, cur, rfl, rfl, HP, hs1, hs2, HD0, HSC, HCB, HCR, HER, HBw⟩ := hrel
    by_cases hpl : p < ws.length
    ·have hp0 : (0 : Int) ≤ (p : Int) := by omega
     have hpn : (p : Int) < (ws.length : Int) := by omega
     have hpn1 : (p : Int) + 1 ≤ (ws.length : Int) := by omega
     obtain ⟨b, o, rfl, _, hbl, hok, hc⟩ := int_at (HS.out.to HBw.out) hpl
     have hx := HR.out.w ws[p] (List.getElem_mem hpl)
     have HDR : Hid (ws.drop p = ws[p] :: ws.drop (p + 1)) := Lib.hid (List.drop_eq_getElem_cons hpl)
     obtain ⟨x, hxe⟩ : ∃ x, ws[p] = x := ⟨_, rfl⟩
     rw [hxe] at hc hx HDR
     obtain ⟨hx1, hx2⟩ := hx
     clear hxe hok hbl
     obtain ⟨s2, hs2e⟩ : ∃ s2, s - 6 - x = s2 := ⟨_, rfl⟩
     have hsa : s2 ≤ 2006 := by omega
     have hsb : -500 ≤ s2 := by omega
     have HSE : Hid (s - (x + 6) = s2) := Lib.hid (by omega)
     have HD1 : Hid (d = 0 → 0 ≤ s2) := Lib.hid (fun h => by have := HD0.out h; omega)
     go_upto_region 16 with (fail)
     try rw [hs2e]
     clear hs2e hc
     by_cases hneg : s2 < 0
     ·have hd1 : d ≠ 0 := fun h => by have := HD1.out h; omega
      have HRES : Hid (scanE ws.length (ws.drop i) (bestL ws m k) (m + 6) (i + 1) true (0, 0) = cur) := Lib.hid (by rw [HSC.out, HDR.out]; exact scanE_neg _ _ _ _ _ _ _ _ (by rw [HSE.out]; exact hneg))
      have HCR2 : Hid (IRow wr Cb 3 (rowC ws m k i cur.1)) := Lib.hid (by have := HCR.out; unfold curR at this; rwa [if_neg hd1] at this)
      clear HCR
      go_wp2_with fail
      go_roundw
      case rel => exact ⟨k + 1, i, by go_num, Lib.hid (by have := HIN.out; omega), Lib.hid (by rw [← rowC_next HIN.out HRES.out]; exact HCR2.out), Lib.hid (by rw [← rowE_next HIN.out HRES.out]; exact HER.out), HBw⟩
      case measure => (first | (simp [intOf]; done) | (simp [intOf]; omega))
     ·have hnn : 0 ≤ s2 := by omega
      have HNN : Hid (¬ s - (x + 6) < 0) := Lib.hid (by rw [HSE.out]; exact hneg)
      obtain ⟨bd, hbd⟩ : ∃ bd, (bestL ws m k)[d]? = some bd := by
       have h := bestL_length ws m k
       exact ⟨_, List.getElem?_eq_getElem (by have := HP.out; have := HIN.out; omega)⟩
      have hbb := bestL_cost HR.out k bd (List.mem_of_getElem? hbd)
      have HHD := Lib.hid (head_drop _ _ _ hbd)
      have c2 : wr.cell? ⟨Cb, p + 1, none⟩ = some (.int .i64 bd.1) := HCR.out.cell (p + 1) (by
       have e : p + 1 = i + d + 1 := by have := HP.out.1; omega
       rw [e, show rowC ws m k i (curR d cur) = List.replicate i 0 ++ curR d cur :: (bestL ws m k).map (·.1) from rfl, row_behind, List.getElem?_map, hbd]; rfl)
      have hk5 : (k : Int) ≤ 500 := by have := HIN.out; omega
      have hb0 : 0 ≤ bd.1 := hbb.1
      have hb1 : bd.1 ≤ 2050000000 := by have := hbb.2; omega
      have hbk : bd.1 ≤ 4100000 * (k : Int) := hbb.2
      obtain ⟨cb, hcb⟩ : ∃ x, bd.1 = x := ⟨_, rfl⟩
      rw [hcb] at c2 hb0 hb1 hbk
      have HCBE := Lib.hid hcb
      clear hcb hbd hbb
      obtain ⟨q, hq⟩ : ∃ q, s2 * s2 = q := ⟨_, rfl⟩
      have hq0 : 0 ≤ q := by rw [← hq]; exact Int.mul_nonneg hnn hnn
      have hq1 : q ≤ 4024036 := by rw [← hq]; exact Int.mul_le_mul hsa hsa hnn (by omega)
      have HQ := Lib.hid hq
      have hw1 : IntKind.i64.wrap (s2 * s2) = q := by rw [hq]; exact IntWalk.i64_in _ (by omega)
      have hw2 : IntKind.i64.wrap (q + cb) = q + cb := IntWalk.i64_in _ (by omega)
      clear hq
      by_cases hlast : p + 1 = ws.length
      ·have HRES : Hid (scanE ws.length (ws.drop i) (bestL ws m k) (m + 6) (i + 1) true (0, 0) = (0, ws.length)) := Lib.hid (by rw [HSC.out, HDR.out, hlast]; exact scanE_last _ _ _ _ _ _ _ HNN.out)
       have HRS2 : Hid (scanE ws.length (ws.drop i) (bestL ws m k) (m + 6) (i + 1) true (0, 0) = scanE ws.length (ws.drop ws.length) ((bestL ws m k).drop (d + 1)) s2 (ws.length + 1) (decide (d + 1 = 0)) (0, ws.length)) := Lib.hid (by rw [HRES.out, List.drop_length]; rfl)
       have c3 : wr.cell? ⟨Cb, ws.length, none⟩ = some (.int .i64 cb) := hlast ▸ c2
       have hl1 : (p : Int) + 1 = (ws.length : Int) := by omega
       by_cases hd0 : d = 0
       ·subst hd0
        have hcc : curR 0 cur = -1 := rfl
        rw [hcc] at HCR
        clear hcc
        have c0 : wr.cell? ⟨Cb, i, none⟩ = some (.int .i64 (-1)) := HCR.out.cell i (row_at _ _ _)
        have f0 := HCR.out.fz i
        have HE1 : Hid (IRow (wr.setCell ⟨Cb, i, none⟩ (.int .i64 (0))) Eb 3 (rowE ws m k i (cur.2 : Int))) := Lib.hid (HER.out.other (Ne.symm HNE.out.1) i (.int .i64 (0)))
        have c1 := HE1.out.cell i (row_at _ _ _)
        have f1 := HE1.out.fz i
        have HC2 : Hid (IRow ((wr.setCell ⟨Cb, i, none⟩ (.int .i64 (0))).setCell ⟨Eb, i, none⟩ (.int .i64 (ws.length : Int))) Cb 3 (rowC ws m k i (0))) := Lib.hid (by have := (HCR.out.set i (0)).other HNE.out.1 i (.int .i64 (ws.length : Int)); rwa [show rowC ws m k i (-1) = List.replicate i 0 ++ (-1) :: (bestL ws m k).map (·.1) from rfl, row_set] at this)
        have HE2 : Hid (IRow ((wr.setCell ⟨Cb, i, none⟩ (.int .i64 (0))).setCell ⟨Eb, i, none⟩ (.int .i64 (ws.length : Int))) Eb 3 (rowE ws m k i (ws.length : Int))) := Lib.hid (by have := HE1.out.set i (ws.length : Int); rwa [show rowE ws m k i (cur.2 : Int) = List.replicate i 0 ++ (cur.2 : Int) :: (bestL ws m k).map (fun x => (x.2 : Int)) from rfl, row_set] at this)
        have HB2 : Hid (Below w.heap.size w ((wr.setCell ⟨Cb, i, none⟩ (.int .i64 (0))).setCell ⟨Eb, i, none⟩ (.int .i64 (ws.length : Int)))) := Lib.hid ((HBw.out.setCell (p := ⟨Cb, i, none⟩) HNE.out.2.1 _).setCell (p := ⟨Eb, i, none⟩) HNE.out.2.2 _)
        clear HE1
        go_wp2_with fail
        go_roundw
        case rel => exact ⟨0 + 1, ws.length, s2, (0, ws.length), rfl, by go_num, Lib.hid (by have := HP.out; omega), hsa, hnn, Lib.hid (fun h => absurd h (by omega)), Lib.hid (HRS2.out), Lib.hid (by simp only; omega), HC2, HE2, HB2⟩
        case measure => (first | (simp [intOf]; done) | (simp [intOf]; omega))
       ·have hcc : curR d cur = cur.1 := by unfold curR; rw [if_neg hd0]
        rw [hcc] at HCR
        have hc0 : ¬ cur.1 < 0 := by have := HCB.out.1; omega
        have hc1 : 0 ≤ cur.1 := HCB.out.1
        clear hcc
        have c0 : wr.cell? ⟨Cb, i, none⟩ = some (.int .i64 (cur.1)) := HCR.out.cell i (row_at _ _ _)
        have f0 := HCR.out.fz i
        have HE1 : Hid (IRow (wr.setCell ⟨Cb, i, none⟩ (.int .i64 (0))) Eb 3 (rowE ws m k i (cur.2 : Int))) := Lib.hid (HER.out.other (Ne.symm HNE.out.1) i (.int .i64 (0)))
        have c1 := HE1.out.cell i (row_at _ _ _)
        have f1 := HE1.out.fz i
        have HC2 : Hid (IRow ((wr.setCell ⟨Cb, i, none⟩ (.int .i64 (0))).setCell ⟨Eb, i, none⟩ (.int .i64 (ws.length : Int))) Cb 3 (rowC ws m k i (0))) := Lib.hid (by have := (HCR.out.set i (0)).other HNE.out.1 i (.int .i64 (ws.length : Int)); rwa [show rowC ws m k i (cur.1) = List.replicate i 0 ++ (cur.1) :: (bestL ws m k).map (·.1) from rfl, row_set] at this)
        have HE2 : Hid (IRow ((wr.setCell ⟨Cb, i, none⟩ (.int .i64 (0))).setCell ⟨Eb, i, none⟩ (.int .i64 (ws.length : Int))) Eb 3 (rowE ws m k i (ws.length : Int))) := Lib.hid (by have := HE1.out.set i (ws.length : Int); rwa [show rowE ws m k i (cur.2 : Int) = List.replicate i 0 ++ (cur.2 : Int) :: (bestL ws m k).map (fun x => (x.2 : Int)) from rfl, row_set] at this)
        have HB2 : Hid (Below w.heap.size w ((wr.setCell ⟨Cb, i, none⟩ (.int .i64 (0))).setCell ⟨Eb, i, none⟩ (.int .i64 (ws.length : Int)))) := Lib.hid ((HBw.out.setCell (p := ⟨Cb, i, none⟩) HNE.out.2.1 _).setCell (p := ⟨Eb, i, none⟩) HNE.out.2.2 _)
        clear HE1
        go_wp2_with fail
        go_roundw
        case rel => exact ⟨d + 1, ws.length, s2, (0, ws.length), rfl, by go_num, Lib.hid (by have := HP.out; omega), hsa, hnn, Lib.hid (fun h => absurd h (by omega)), Lib.hid (HRS2.out), Lib.hid (by simp only; omega), HC2, HE2, HB2⟩
        case measure => (first | (simp [intOf]; done) | (simp [intOf]; omega))
      ·have hl1 : ¬ (p : Int) + 1 = (ws.length : Int) := by omega
       have hl2 : ((p : Int) + 1 == (ws.length : Int)) = false := by rw [beq_eq_false_iff_ne]; omega
       have HST : Hid (scanE ws.length (ws.drop i) (bestL ws m k) (m + 6) (i + 1) true (0, 0) = scanE ws.length (ws.drop (p + 1)) ((bestL ws m k).drop (d + 1)) s2 (p + 1 + 1) false (if decide (d = 0) = true ∨ q + cb ≤ cur.1 then (q + cb, p + 1) else cur)) := Lib.hid (by
        rw [HSC.out, HDR.out, scanE_step _ _ _ _ _ _ _ _ HNN.out (by omega), HSE.out, HHD.out, HQ.out, HCBE.out, List.tail_drop])
       by_cases hd0 : d = 0
       ·subst hd0
        have hcc : curR 0 cur = -1 := rfl
        rw [hcc] at HCR
        clear hcc
        have c0 : wr.cell? ⟨Cb, i, none⟩ = some (.int .i64 (-1)) := HCR.out.cell i (row_at _ _ _)
        have f0 := HCR.out.fz i
        have HE1 : Hid (IRow (wr.setCell ⟨Cb, i, none⟩ (.int .i64 (q + cb))) Eb 3 (rowE ws m k i (cur.2 : Int))) := Lib.hid (HER.out.other (Ne.symm HNE.out.1) i (.int .i64 (q + cb)))
        have c1 := HE1.out.cell i (row_at _ _ _)
        have f1 := HE1.out.fz i
        have HC2 : Hid (IRow ((wr.setCell ⟨Cb, i, none⟩ (.int .i64 (q + cb))).setCell ⟨Eb, i, none⟩ (.int .i64 ((p : Int) + 1))) Cb 3 (rowC ws m k i (q + cb))) := Lib.hid (by have := (HCR.out.set i (q + cb)).other HNE.out.1 i (.int .i64 ((p : Int) + 1)); rwa [show rowC ws m k i (-1) = List.replicate i 0 ++ (-1) :: (bestL ws m k).map (·.1) from rfl, row_set] at this)
        have HE2 : Hid (IRow ((wr.setCell ⟨Cb, i, none⟩ (.int .i64 (q + cb))).setCell ⟨Eb, i, none⟩ (.int .i64 ((p : Int) + 1))) Eb 3 (rowE ws m k i ((p + 1 : Nat) : Int))) := Lib.hid (by have := HE1.out.set i ((p : Int) + 1); rwa [show rowE ws m k i (cur.2 : Int) = List.replicate i 0 ++ (cur.2 : Int) :: (bestL ws m k).map (fun x => (x.2 : Int)) from rfl, row_set] at this)
        have HB2 : Hid (Below w.heap.size w ((wr.setCell ⟨Cb, i, none⟩ (.int .i64 (q + cb))).setCell ⟨Eb, i, none⟩ (.int .i64 ((p : Int) + 1)))) := Lib.hid ((HBw.out.setCell (p := ⟨Cb, i, none⟩) HNE.out.2.1 _).setCell (p := ⟨Eb, i, none⟩) HNE.out.2.2 _)
        clear HE1
        go_wp2_with fail
        go_roundw
        case rel => exact ⟨0 + 1, p + 1, s2, (q + cb, p + 1), rfl, by go_num, Lib.hid (by have := HP.out; omega), hsa, hnn, Lib.hid (fun h => absurd h (by omega)), Lib.hid (by rw [HST.out, if_pos (by simp)]; rfl), Lib.hid (by simp only; omega), HC2, HE2, HB2⟩
        case measure => (first | (simp [intOf]; done) | (simp [intOf]; omega))
       ·have hcc : curR d cur = cur.1 := by unfold curR; rw [if_neg hd0]
        rw [hcc] at HCR
        have hc0 : ¬ cur.1 < 0 := by have := HCB.out.1; omega
        clear hcc
        by_cases hle : q + cb ≤ cur.1
        ·skip
         have c0 : wr.cell? ⟨Cb, i, none⟩ = some (.int .i64 (cur.1)) := HCR.out.cell i (row_at _ _ _)
         have f0 := HCR.out.fz i
         have HE1 : Hid (IRow (wr.setCell ⟨Cb, i, none⟩ (.int .i64 (q + cb))) Eb 3 (rowE ws m k i (cur.2 : Int))) := Lib.hid (HER.out.other (Ne.symm HNE.out.1) i (.int .i64 (q + cb)))
         have c1 := HE1.out.cell i (row_at _ _ _)
         have f1 := HE1.out.fz i
         have HC2 : Hid (IRow ((wr.setCell ⟨Cb, i, none⟩ (.int .i64 (q + cb))).setCell ⟨Eb, i, none⟩ (.int .i64 ((p : Int) + 1))) Cb 3 (rowC ws m k i (q + cb))) := Lib.hid (by have := (HCR.out.set i (q + cb)).other HNE.out.1 i (.int .i64 ((p : Int) + 1)); rwa [show rowC ws m k i (cur.1) = List.replicate i 0 ++ (cur.1) :: (bestL ws m k).map (·.1) from rfl, row_set] at this)
         have HE2 : Hid (IRow ((wr.setCell ⟨Cb, i, none⟩ (.int .i64 (q + cb))).setCell ⟨Eb, i, none⟩ (.int .i64 ((p : Int) + 1))) Eb 3 (rowE ws m k i ((p + 1 : Nat) : Int))) := Lib.hid (by have := HE1.out.set i ((p : Int) + 1); rwa [show rowE ws m k i (cur.2 : Int) = List.replicate i 0 ++ (cur.2 : Int) :: (bestL ws m k).map (fun x => (x.2 : Int)) from rfl, row_set] at this)
         have HB2 : Hid (Below w.heap.size w ((wr.setCell ⟨Cb, i, none⟩ (.int .i64 (q + cb))).setCell ⟨Eb, i, none⟩ (.int .i64 ((p : Int) + 1)))) := Lib.hid ((HBw.out.setCell (p := ⟨Cb, i, none⟩) HNE.out.2.1 _).setCell (p := ⟨Eb, i, none⟩) HNE.out.2.2 _)
         clear HE1
         go_wp2_with fail
         go_roundw
         case rel => exact ⟨d + 1, p + 1, s2, (q + cb, p + 1), rfl, by go_num, Lib.hid (by have := HP.out; omega), hsa, hnn, Lib.hid (fun h => absurd h (by omega)), Lib.hid (by rw [HST.out, if_pos (.inr hle)]; rfl), Lib.hid (by simp only; omega), HC2, HE2, HB2⟩
         case measure => (first | (simp [intOf]; done) | (simp [intOf]; omega))
        ·have c0 : wr.cell? ⟨Cb, i, none⟩ = some (.int .i64 cur.1) := HCR.out.cell i (row_at _ _ _)
         have HCR2 : Hid (IRow wr Cb 3 (rowC ws m k i (curR (d + 1) cur))) := HCR
         have HST2 : Hid (scanE ws.length (ws.drop i) (bestL ws m k) (m + 6) (i + 1) true (0, 0) = scanE ws.length (ws.drop (p + 1)) ((bestL ws m k).drop (d + 1)) s2 (p + 1 + 1) (decide (d + 1 = 0)) cur) := Lib.hid (by rw [HST.out, if_neg (by simp [hd0]; omega)]; rfl)
         go_wp2_with fail
         go_roundw
         case rel => exact ⟨d + 1, p + 1, s2, cur, rfl, by go_num, Lib.hid (by have := HP.out; omega), hsa, hnn, Lib.hid (fun h => absurd h (by omega)), HST2, HCB, HCR2, HER, HBw⟩
         case measure => (first | (simp [intOf]; done) | (simp [intOf]; omega))
    ·obtain rfl : p = ws.length := by have := HP.out; omega
     have hd1 : d ≠ 0 := by have := HP.out; have := HIN.out; omega
     have HRES : Hid (scanE ws.length (ws.drop i) (bestL ws m k) (m + 6) (i + 1) true (0, 0) = cur) := Lib.hid (by rw [HSC.out, List.drop_length]; rfl)
     have HCR2 : Hid (IRow wr Cb 3 (rowC ws m k i cur.1)) := Lib.hid (by have := HCR.out; unfold curR at this; rwa [if_neg hd1] at this)
     have hpn1 : ¬ (ws.length : Int) + 1 ≤ (ws.length : Int) := by omega
     clear HCR hpl
     go_wp2_with fail
     go_roundw
     case rel => exact ⟨k + 1, i, by go_num, Lib.hid (by have := HIN.out; omega), Lib.hid (by rw [← rowC_next HIN.out HRES.out]; exact HCR2.out), Lib.hid (by rw [← rowE_next HIN.out HRES.out]; exact HER.out), HBw⟩
     case measure => (first | (simp [intOf]; done) | (simp [intOf]; omega))
end Go.Proofs.YtakaielemicpkaaGreatDoor
namespace Go.Proofs.YtakaielemicpkaaGreatDoor
theorem stepW_zero {np nn i : Nat} {notes n' : Int} {x : Word} (h0 : 0 ≤ notes) (h1 : notes ≤ nn) (h : stepW np nn i notes x = (0, n')) : (1 ≤ width x.s ∧ width x.s ≤ 480) ∧ 0 ≤ x.n ∧ x.n ≤ nn ∧ 0 ≤ n' ∧ n' ≤ nn := by
 unfold stepW at h
 split at h
 ·exact absurd (congrArg Prod.fst h) (by simp)
 ·rename_i hb
  have hv : valid x.s = true := by
   cases hv : valid x.s with
   | true => rfl
   | false => exact absurd (bad_s hv) hb
  have hw : 1 ≤ width x.s ∧ width x.s ≤ 480 := by
   have h1 := hv
   rw [valid_iff] at h1
   have h2 : 0 < width x.s := of_decide_eq_true h1
   refine ⟨h2, ?_⟩
   have h3 := sumW_bd x.s.data.toList
   have h4 : x.s.data.toList.length = x.s.size := rfl
   unfold width at h2 ⊢
   split
   ·omega
   ·split
    ·omega
    ·omega
  split at h
  ·exact absurd (congrArg Prod.fst h) (by simp)
  ·split at h
   ·rename_i hn
    have := congrArg Prod.snd h
    simp at this
    exact ⟨hw, by omega, by omega, by omega, by omega⟩
   ·split at h
    ·exact absurd (congrArg Prod.fst h) (by simp)
    ·rename_i hn hh
     have := congrArg Prod.snd h
     simp at this
     exact ⟨hw, by omega, by omega, by omega, by omega⟩
theorem scanW_zero {np nn i : Nat} : ∀ (p : List Word) (notes n' : Int), 0 ≤ notes → notes ≤ nn → scanW np nn i notes p = (0, n') → (∀ x ∈ p, (1 ≤ width x.s ∧ width x.s ≤ 480) ∧ 0 ≤ x.n ∧ x.n ≤ nn) ∧ 0 ≤ n' ∧ n' ≤ nn
 | [], notes, n', h0, h1, h => by
  have := congrArg Prod.snd h
  simp [scanW] at this
  exact ⟨by simp, by omega, by omega⟩
 | x :: p, notes, n', h0, h1, h => by
  rw [scanW] at h
  split at h
  ·rename_i hs
   have hx := stepW_zero (x := x) (np := np) (nn := nn) (i := i) (n' := (stepW np nn i notes x).2) h0 h1 (by rw [← hs])
   have ih := scanW_zero p _ n' hx.2.2.2.1 hx.2.2.2.2 h
   exact ⟨fun y hy => (List.mem_cons.1 hy).elim (fun e => e ▸ ⟨hx.1, hx.2.1, hx.2.2.1⟩) (ih.1 y), ih.2⟩
  ·rename_i hs
   exact absurd (congrArg Prod.fst h) hs
theorem scanP_zero {np nn : Nat} : ∀ (l : List (List Word)) (i : Nat) (notes n' : Int), 0 ≤ notes → notes ≤ nn → scanP np nn i notes l = (0, n') → ∀ p ∈ l, ∀ x ∈ p, (1 ≤ width x.s ∧ width x.s ≤ 480) ∧ 0 ≤ x.n ∧ x.n ≤ nn
 | [], _, _, _, _, _, _ => by simp
 | p :: l, i, notes, n', h0, h1, h => by
  rw [scanP] at h
  split at h
  ·rename_i hs
   have hx := scanW_zero p notes (scanW np nn i notes p).2 h0 h1 (by rw [← hs])
   have ih := scanP_zero l (i + 1) _ n' hx.2.1 hx.2.2 h
   exact fun q hq => (List.mem_cons.1 hq).elim (fun e => e ▸ hx.1) (ih q)
  ·rename_i hs
   exact absurd (congrArg Prod.fst h) hs
structure FineT (a b : List (List Word)) : Prop where
 la : a.length ≤ 100
 lb : b.length ≤ 100
 p : ∀ p ∈ a ++ b, 1 ≤ p.length ∧ p.length ≤ 500
 w : ∀ p ∈ a ++ b, ∀ x ∈ p, (1 ≤ width x.s ∧ width x.s ≤ 480) ∧ 0 ≤ x.n ∧ x.n ≤ 100
theorem chk_zero {a b : List (List Word)} (h : chkOf a b = 0) : FineT a b := by
 unfold chkOf at h
 split at h
 ·exact absurd h (by decide)
 ·rename_i h1
  split at h
  ·exact absurd h (by decide)
  ·rename_i h2
   have hp : ∀ p ∈ a ++ b, 1 ≤ p.length ∧ p.length ≤ 500 := fun p hp => by
    have a1 : ¬ anyLen longP (a ++ b) = true := fun e => h1 (.inr (.inr e))
    unfold anyLen at a1 h2
    rw [List.any_eq_true] at a1 h2
    have b1 : ¬ longP p.length = true := fun e => a1 ⟨p, hp, e⟩
    have b2 : ¬ emptyP p.length = true := fun e => h2 ⟨p, hp, e⟩
    unfold longP at b1
    unfold emptyP at b2
    rw [decide_eq_true_iff] at b1 b2
    omega
   have hb : b.length ≤ 100 := by omega
   refine ⟨by omega, hb, hp, ?_⟩
   unfold endP at h
   split at h
   ·exact absurd h (by assumption)
   ·rename_i h3
    have hz : (scanP a.length b.length 0 0 (a ++ b)).1 = 0 := by
     rcases Classical.em ((scanP a.length b.length 0 0 (a ++ b)).1 = 0) with h4 | h4
     ·exact h4
     ·exact absurd h4 h3
    have := scanP_zero (a ++ b) 0 0 (scanP a.length b.length 0 0 (a ++ b)).2 (Int.le_refl _) (by omega) (Prod.ext hz rfl)
    intro p hp x hx
    have h5 := this p hp x hx
    exact ⟨h5.1, h5.2.1, by omega⟩
theorem FineT.reg {a b : List (List Word)} (h : FineT a b) {m : Int} (h1 : 500 ≤ m) (h2 : m ≤ 2000) {p : List Word} (hp : p ∈ a ++ b) : Reg (widthsP p) m :=
 ⟨by unfold widthsP; rw [List.length_map]; exact (h.p p hp).2, h1, h2, fun x hx => by
  unfold widthsP at hx
  obtain ⟨y, hy, rfl⟩ := List.mem_map.1 hx
  exact (h.w p hp y hy).1⟩
theorem tot_bound : ∀ l : List (List Word), (∀ p ∈ l, p.length ≤ 500) → tot l ≤ 500 * l.length
 | [], _ => by simp [tot]
 | p :: l, h => by
  have h1 := h p (by simp)
  have h2 := tot_bound l (fun q hq => h q (by simp [hq]))
  unfold tot at *
  rw [List.flatten_cons, List.length_append, List.length_cons]
  omega
theorem FineT.tot {a b : List (List Word)} (h : FineT a b) : tot (a ++ b) ≤ 100000 := by
 have h1 := tot_bound (a ++ b) (fun p hp => (h.p p hp).2)
 have h2 := h.la
 have h3 := h.lb
 rw [List.length_append] at h1
 omega
theorem tot_append (a b : List (List Word)) : tot (a ++ b) = tot a + tot b := by unfold tot; simp
theorem partsP_append (m : Int) : ∀ (a b : List (List Word)) (first : Int), partsP m first (a ++ b) = partsP m first a ++ partsP m (first + (tot a : Nat)) b
 | [], b, first => by simp [partsP, tot]
 | p :: a, b, first => by
  have e : first + (p.length : Int) + (tot a : Nat) = first + (tot (p :: a) : Nat) := by unfold tot; simp; omega
  rw [List.cons_append, partsP, partsP_append m a b, partsP, e]; rfl
theorem partsP_length (m : Int) : ∀ (a : List (List Word)) (first : Int), (partsP m first a).length = a.length
 | [], _ => rfl
 | p :: a, first => by rw [partsP, List.length_cons, List.length_cons, partsP_length]
theorem linesFrom_length (ws : List Word) (wd : List Int) (m first : Int) : ∀ (es : List Nat) (i : Nat), (linesFrom ws wd m first i es).length = es.length
 | [], _ => rfl
 | e :: es, i => by rw [linesFrom, List.length_cons, List.length_cons, linesFrom_length]
end Go.Proofs.YtakaielemicpkaaGreatDoor
namespace Go.Proofs.YtakaielemicpkaaGreatDoor
open Go.RowKit
theorem tl_len (s : ByteArray) : ∀ n i r, s.size - i = n → (ByteArray.toList.loop s i r).length = r.length + n := by
 intro n
 induction n with
 | zero => intro i r h; rw [ByteArray.toList.loop, if_neg (by omega)]; simp
 | succ n ih => intro i r h; rw [ByteArray.toList.loop, if_pos (by omega), ih (i + 1) _ (by omega)]; simp; omega
theorem tl_size (s : ByteArray) : s.toList.length = s.size := by
 unfold ByteArray.toList; rw [tl_len s s.size 0 [] (by omega)]; simp
theorem key_nil {s : ByteArray} (h : s = ⟨#[]⟩) : s.toList = [] ∧ (!s.toList.isEmpty) = false := by
 have : s.toList = [] := List.eq_nil_of_length_eq_zero (by rw [tl_size, h]; rfl)
 rw [this]; simp
theorem key_some {s : ByteArray} (h : s ≠ ⟨#[]⟩) : ¬ s.toList = [] ∧ (!s.toList.isEmpty) = true := by
 have : ¬ s.toList = [] := by
  intro e
  apply h
  have h2 := tl_size s
  rw [e] at h2
  apply ByteArray.ext
  exact Array.eq_empty_of_size_eq_zero h2.symm
 exact ⟨this, by cases hl : s.toList with | nil => exact absurd hl this | cons a r => rfl⟩
set_option maxRecDepth 100000 in
set_option maxHeartbeats 4000000 in
theorem gcheck_any (A B : Option Addr) (c d : Nat) (a b : List (List Word)) (w : World) (hT : Laid w) (ha : Sl w (fun b => b < w.heap.size) A c a) (hb : Sl w (fun b => b < w.heap.size) B d b) (hla : a.length ≤ 1048576) (hlb : b.length ≤ 1048576) :
  Calls Tryz.prog 113 #[.agg #[.slice A a.length c, .slice B b.length d]] w fun e w' => e = .returned (.int .i64 (chkOf a b)) ∧ Below w.heap.size w w' := by
 have hb0 := ((Below.refl w.heap.size w).alloc (Nat.le_refl _) (.cells #[.slice A a.length c, .slice B b.length d] 50))
 have hb1 := hb0.alloc (by simp) (.cells #[.slice A a.length c, .slice B b.length d] 48)
 have Hb1 := Lib.hid hb1
 have Ha := Lib.hid (ha.to hb1)
 have Hb := Lib.hid (hb.to hb1)
 have HT := Lib.hid hT
 have q0 : ((w.alloc (.cells #[.slice A a.length c, .slice B b.length d] 50)).alloc (.cells #[.slice A a.length c, .slice B b.length d] 48)).cell? ⟨w.heap.size + 1, 0, none⟩ = some (.slice A a.length c) := by go_simp
 have q1 : ((w.alloc (.cells #[.slice A a.length c, .slice B b.length d] 50)).alloc (.cells #[.slice A a.length c, .slice B b.length d] 48)).cell? ⟨w.heap.size + 1, 1, none⟩ = some (.slice B b.length d) := by go_simp
 have Q0 := Lib.hid q0
 have Q1 := Lib.hid q1
 have TB0 := Lib.hid ((Below.heap_alloc (w.alloc (.cells #[.slice A a.length c, .slice B b.length d] 50)) (.cells #[.slice A a.length c, .slice B b.length d] 48) w.heap.size (by simp)).trans (heap_alloc_new w (.cells #[.slice A a.length c, .slice B b.length d] 50)))
 have hz0 : w.heap.size < ((w.alloc (.cells #[.slice A a.length c, .slice B b.length d] 50)).alloc (.cells #[.slice A a.length c, .slice B b.length d] 48)).heap.size := by simp; omega
 clear ha hb hb0 hb1 q0 q1 hT
 have HC := Lib.hid (show chkOf a b = if 100 < a.length ∨ 100 < b.length ∨ anyLen longP (a ++ b) = true then 2 else if anyLen emptyP (a ++ b) = true then 1 else endP b.length (scanP a.length b.length 0 0 (a ++ b)) from rfl)
 generalize chkOf a b = res at *
 go_enter Tryz.func113, Tryz.ntmps113
 go_wp2_with fail
 refine (concat_any _ A B c d a b _ Q0.out Q1.out Ha.out Hb.out hla hlb).mono ?_
 rintro e w1 ⟨v, rfl, hown, hbb⟩
 obtain ⟨A1, c1, rfl, hs⟩ := hown.sl
 have hll : (a ++ b).length ≤ 2097152 := by simp; omega
 generalize a ++ b = l at *
 have Hs := Lib.hid hs
 have Hbb := Lib.hid (Hb1.out.trans (hbb.mono Hb1.out.size))
 have TB := Lib.hid ((hbb.block _ hz0).trans TB0.out)
 have hz1 : w.heap.size < w1.heap.size := Nat.lt_of_lt_of_le hz0 hbb.size
 obtain ⟨t0, t1⟩ := text_box TB.out
 clear hs hown hbb Ha Hb Q0 Q1 Hb1 TB0 hz0
 by_cases h1 : 100 < a.length
 ·have E := Lib.hid (show res = 2 by rw [HC.out, if_pos (.inl h1)])
  have h1' : (100 : Int) < (a.length : Int) := by omega
  go_wp2_with fail
  go_ret
  exact ⟨ret_int E.out.symm, Hbb.out⟩
 ·have h1' : ¬ (100 : Int) < (a.length : Int) := by omega
  by_cases h2 : 100 < b.length
  ·have E := Lib.hid (show res = 2 by rw [HC.out, if_pos (.inr (.inl h2))])
   have h2' : (100 : Int) < (b.length : Int) := by omega
   go_wp2_with fail
   go_ret
   exact ⟨ret_int E.out.symm, Hbb.out⟩
  ·have h2' : ¬ (100 : Int) < (b.length : Int) := by omega
   go_wp2_with fail
   refine (containsFunc_any A1 c1 _ l 132 longP w1 Hs.out rfl (fun _ _ => by kernel_rfl) long_any).mono ?_
   rintro e w2 ⟨rfl, rfl⟩
   cases h3 : anyLen longP l
   ·have h3' := Lib.hid h3
    clear h3
    go_wp2_with fail
    refine (containsFunc_any A1 c1 _ l 133 emptyP w1 Hs.out rfl (fun _ _ => by kernel_rfl) empty_any).mono ?_
    rintro e w2 ⟨rfl, rfl⟩
    cases h4 : anyLen emptyP l
    ·have E := Lib.hid (show res = endP b.length (scanP a.length b.length 0 0 l) by rw [HC.out, if_neg (by rw [h3'.out]; simp; omega), if_neg (by rw [h4]; simp)])
     clear h4 h3' HC
     go_wp2_with fail
     have hnn : b.length ≤ 100 := by omega
     clear h1 h2 t0 t1
     go_loopw [4, 5, 6, 8, 33] (fun n _ _ _ i wr => ∃ k : Nat, k ≤ l.length ∧ i = .int .i64 k ∧ (∃ q : Nat, q ≤ b.length ∧ n = .int .i64 (q : Int) ∧ Hid (scanP a.length b.length 0 0 l = scanP a.length b.length k q (l.drop k))) ∧ Below w1.heap.size w1 wr) (fun _ _ _ _ i _ => l.length - (intOf i).toNat)
     case atStart => exact ⟨0, Nat.zero_le _, rfl, ⟨0, Nat.zero_le _, rfl, rfl⟩, Below.refl _ _⟩
     case round =>
      obtain ⟨k, hk, rfl, ⟨q, hq, rfl, hsc⟩, hb2⟩ := hrel
      have Hb2 := Lib.hid hb2
      clear hb2
      by_cases hlt : k < l.length
      ·obtain ⟨bb, o, Ap, cp, rfl, _, hbl, hc, hp⟩ := part_at (Hs.out.to Hb2.out) hlt
       have hkl : (k : Int) < (l.length : Int) := by omega
       have hk0 : (0 : Int) ≤ (k : Int) := by omega
       have HPo := Lib.hid (fun n' h => scanP_ok (np := a.length) (nn := b.length) (notes := (q : Int)) (n' := n') hlt h)
       have HPe := Lib.hid (fun n' e h he => scanP_err (np := a.length) (nn := b.length) (notes := (q : Int)) (n' := n') (e := e) hlt h he)
       have h2 : l[k].length ≤ 9223372036854775807 := by have := hp.1; have := hp.2.1; unfold maxLen at this; omega
       generalize l[k] = p at *
       have Hp := Lib.hid hp
       clear hp
       go_wp2_with fail
       obtain ⟨wo, rfl⟩ : ∃ wo : World, wo = wr := ⟨_, rfl⟩
       go_loopw [4, 8, 40] (fun n _ i wr => ∃ j : Nat, j ≤ p.length ∧ i = .int .i64 j ∧ (∃ r : Nat, r ≤ b.length ∧ n = .int .i64 (r : Int) ∧ Hid (scanW a.length b.length k q p = scanW a.length b.length k r (p.drop j))) ∧ Below wo.heap.size wo wr) (fun _ _ i _ => p.length - (intOf i).toNat)
       case atStart => exact ⟨0, Nat.zero_le _, rfl, ⟨q, hq, rfl, rfl⟩, Below.refl _ _⟩
       case round =>
        obtain ⟨j, hj, rfl, ⟨r, hr, rfl, hsw⟩, hb3⟩ := hrel
        have Hb3 := Lib.hid hb3
        have hz3 := hb3.size
        clear hb3
        by_cases hjl : j < p.length
        ·obtain ⟨b3, o3, rfl, _, hbl3, hok, d0, d1, d2, d3⟩ := word_at (Hp.out.to Hb3.out) hjl
         have hj1 : (j : Int) < (p.length : Int) := by omega
         have hj0 : (0 : Int) ≤ (j : Int) := by omega
         have HWo := Lib.hid (fun n' h => scanW_ok (np := a.length) (nn := b.length) (i := k) (notes := (r : Int)) (n' := n') hjl h)
         have HWe := Lib.hid (fun n' e h he => scanW_err (np := a.length) (nn := b.length) (i := k) (notes := (r : Int)) (n' := n') (e := e) hjl h he)
         generalize p[j] = x at *
         have hx2 := hok.2.2.1
         have hx3 := hok.2.2.2
         have Hb4 := Lib.hid (Hb3.out.alloc hz3 (.cells #[.string x.s, .string x.key, .int .i64 x.t, .int .i64 x.n] 104))
         have Hb24 := Lib.hid (Hb2.out.trans (Hb4.out.mono Hb2.out.size))
         have HL4 := Lib.hid ((HT.out.to Hbb.out).to Hb24.out)
         have TB4 := Lib.hid ((Hb24.out.block _ hz1).trans TB.out)
         go_wp2_with fail
         refine (gvalid_any x.s _ HL4.out).mono ?_
         rintro e w' ⟨rfl, rfl⟩
         have HErr := Lib.hid (fun n' e h he => (show res = e by rw [E.out, hsc.out, HPe.out n' e (by rw [hsw.out]; exact HWe.out n' e h he) he]; unfold endP; rw [if_pos he]))
         cases hvs : valid x.s
         ·have E2 := Lib.hid (HErr.out _ _ (step_bad (bad_s hvs)) (by decide))
          clear hvs
          go_wp2_with fail
          go_ret
          exact ⟨ret_int E2.out.symm, Hbb.out.trans (Hb24.out.mono Hbb.out.size)⟩
         ·have Hvs := Lib.hid hvs
          clear hvs
          by_cases hke : x.key = ⟨#[]⟩
          ·obtain ⟨k1, k2⟩ := key_nil hke
           have Hke := Lib.hid hke
           clear hke
           have hgood := Lib.hid (good_nokey Hvs.out Hke.out)
           by_cases ht : x.t = 0 ∨ x.t = 1
           ·have ht' := Lib.hid ht
            obtain ⟨t0, t1⟩ := text_box TB4.out
            by_cases hn0 : x.n = 0
            ·have hB : (x.n != 0) = false := by rw [hn0]; rfl
             have hst := Lib.hid (step_plain (np := a.length) (nn := b.length) (i := k) (notes := (r : Int)) hgood.out ht hn0)
             clear hn0
             rcases ht with ht0 | ht0
             ·have hB0 : (x.t != 0) = false := by rw [ht0]; rfl
              clear ht0
              have E2 := Lib.hid (show scanW a.length b.length k q p = scanW a.length b.length k (r : Int) (p.drop (j + 1)) by rw [hsw.out]; exact HWo.out _ (hst.out))
              clear HErr
              go_wp2_with fail
              go_roundw
              case rel => exact ⟨j + 1, by omega, by go_num, ⟨r, by omega, by go_num, E2.out⟩, Hb4.out⟩
              case measure => simp [intOf]; omega
             ·have hB0 : (x.t != 1) = false := by rw [ht0]; rfl
              have hB1 : (x.t != 0) = true := by rw [ht0]; rfl
              clear ht0
              have E2 := Lib.hid (show scanW a.length b.length k q p = scanW a.length b.length k (r : Int) (p.drop (j + 1)) by rw [hsw.out]; exact HWo.out _ (hst.out))
              clear HErr
              go_wp2_with fail
              go_roundw
              case rel => exact ⟨j + 1, by omega, by go_num, ⟨r, by omega, by go_num, E2.out⟩, Hb4.out⟩
              case measure => simp [intOf]; omega
            ·have hB : (x.n != 0) = true := bne_iff_ne.2 hn0
             by_cases hh : a.length ≤ k ∨ x.n ≠ (r : Int) + 1 ∨ (b.length : Int) < (r : Int) + 1
             ·have hst := Lib.hid (step_far (np := a.length) (nn := b.length) (i := k) (notes := (r : Int)) hgood.out ht hn0 hh)
              clear hn0
              rcases ht with ht0 | ht0
              ·have hB0 : (x.t != 0) = false := by rw [ht0]; rfl
               clear ht0
               have E2 := Lib.hid (HErr.out _ _ hst.out (by decide))
               by_cases hk1 : (a.length : Int) ≤ (k : Int)
               ·clear hh
                go_wp2_with fail
                go_ret
                exact ⟨ret_int E2.out.symm, Hbb.out.trans (Hb24.out.mono Hbb.out.size)⟩
               ·by_cases hk2 : x.n = (r : Int) + 1
                ·have hB2 : (x.n != (r : Int) + 1) = false := by rw [hk2]; simp
                 have hk3 : (b.length : Int) < (r : Int) + 1 := by omega
                 clear hh hk2
                 go_wp2_with fail
                 go_ret
                 exact ⟨ret_int E2.out.symm, Hbb.out.trans (Hb24.out.mono Hbb.out.size)⟩
                ·have hB2 : (x.n != (r : Int) + 1) = true := bne_iff_ne.2 hk2
                 clear hh hk2
                 go_wp2_with fail
                 go_ret
                 exact ⟨ret_int E2.out.symm, Hbb.out.trans (Hb24.out.mono Hbb.out.size)⟩
              ·have hB0 : (x.t != 1) = false := by rw [ht0]; rfl
               have hB1 : (x.t != 0) = true := by rw [ht0]; rfl
               clear ht0
               have E2 := Lib.hid (HErr.out _ _ hst.out (by decide))
               by_cases hk1 : (a.length : Int) ≤ (k : Int)
               ·clear hh
                go_wp2_with fail
                go_ret
                exact ⟨ret_int E2.out.symm, Hbb.out.trans (Hb24.out.mono Hbb.out.size)⟩
               ·by_cases hk2 : x.n = (r : Int) + 1
                ·have hB2 : (x.n != (r : Int) + 1) = false := by rw [hk2]; simp
                 have hk3 : (b.length : Int) < (r : Int) + 1 := by omega
                 clear hh hk2
                 go_wp2_with fail
                 go_ret
                 exact ⟨ret_int E2.out.symm, Hbb.out.trans (Hb24.out.mono Hbb.out.size)⟩
                ·have hB2 : (x.n != (r : Int) + 1) = true := bne_iff_ne.2 hk2
                 clear hh hk2
                 go_wp2_with fail
                 go_ret
                 exact ⟨ret_int E2.out.symm, Hbb.out.trans (Hb24.out.mono Hbb.out.size)⟩
             ·have hst := Lib.hid (step_note (np := a.length) (nn := b.length) (i := k) (notes := (r : Int)) hgood.out ht hn0 hh)
              have hk1 : ¬ (a.length : Int) ≤ (k : Int) := by omega
              have hB2 : (x.n != (r : Int) + 1) = false := by rw [show x.n = (r : Int) + 1 by omega]; simp
              have hk3 : ¬ (b.length : Int) < (r : Int) + 1 := by omega
              clear hn0 hh
              rcases ht with ht0 | ht0
              ·have hB0 : (x.t != 0) = false := by rw [ht0]; rfl
               clear ht0
               have E2 := Lib.hid (show scanW a.length b.length k q p = scanW a.length b.length k ((r + 1 : Nat) : Int) (p.drop (j + 1)) by rw [hsw.out]; exact HWo.out _ (hst.out))
               clear HErr
               go_wp2_with fail
               go_roundw
               case rel => exact ⟨j + 1, by omega, by go_num, ⟨r + 1, by omega, by go_num, E2.out⟩, Hb4.out⟩
               case measure => simp [intOf]; omega
              ·have hB0 : (x.t != 1) = false := by rw [ht0]; rfl
               have hB1 : (x.t != 0) = true := by rw [ht0]; rfl
               clear ht0
               have E2 := Lib.hid (show scanW a.length b.length k q p = scanW a.length b.length k ((r + 1 : Nat) : Int) (p.drop (j + 1)) by rw [hsw.out]; exact HWo.out _ (hst.out))
               clear HErr
               go_wp2_with fail
               go_roundw
               case rel => exact ⟨j + 1, by omega, by go_num, ⟨r + 1, by omega, by go_num, E2.out⟩, Hb4.out⟩
               case measure => simp [intOf]; omega
           ·have hst := Lib.hid (step_tab (np := a.length) (nn := b.length) (i := k) (notes := (r : Int)) hgood.out (by omega))
            have hB0 : (x.t != 0) = true := bne_iff_ne.2 (by omega)
            have hB1 : (x.t != 1) = true := bne_iff_ne.2 (by omega)
            clear ht
            have E2 := Lib.hid (HErr.out _ _ (hst.out) (by decide))
            go_wp2_with fail
            go_ret
            exact ⟨ret_int E2.out.symm, Hbb.out.trans (Hb24.out.mono Hbb.out.size)⟩
          ·obtain ⟨k1, k2⟩ := key_some hke
           have Hke := Lib.hid hke
           clear hke
           go_wp2_with fail
           refine (gvalid_any x.key _ HL4.out).mono ?_
           rintro e w' ⟨rfl, rfl⟩
           cases hvk : valid x.key
           ·have hst := Lib.hid (step_bad (np := a.length) (nn := b.length) (i := k) (notes := (r : Int)) (bad_key Hke.out hvk))
            clear hvk
            have E2 := Lib.hid (HErr.out _ _ (hst.out) (by decide))
            go_wp2_with fail
            go_ret
            exact ⟨ret_int E2.out.symm, Hbb.out.trans (Hb24.out.mono Hbb.out.size)⟩
           ·have Hvk := Lib.hid hvk
            clear hvk
            have hgood := Lib.hid (good_key Hvs.out Hvk.out)
            by_cases ht : x.t = 0 ∨ x.t = 1
            ·have ht' := Lib.hid ht
             obtain ⟨t0, t1⟩ := text_box TB4.out
             by_cases hn0 : x.n = 0
             ·have hB : (x.n != 0) = false := by rw [hn0]; rfl
              have hst := Lib.hid (step_plain (np := a.length) (nn := b.length) (i := k) (notes := (r : Int)) hgood.out ht hn0)
              clear hn0
              rcases ht with ht0 | ht0
              ·have hB0 : (x.t != 0) = false := by rw [ht0]; rfl
               clear ht0
               have E2 := Lib.hid (show scanW a.length b.length k q p = scanW a.length b.length k (r : Int) (p.drop (j + 1)) by rw [hsw.out]; exact HWo.out _ (hst.out))
               clear HErr
               go_wp2_with fail
               go_roundw
               case rel => exact ⟨j + 1, by omega, by go_num, ⟨r, by omega, by go_num, E2.out⟩, Hb4.out⟩
               case measure => simp [intOf]; omega
              ·have hB0 : (x.t != 1) = false := by rw [ht0]; rfl
               have hB1 : (x.t != 0) = true := by rw [ht0]; rfl
               clear ht0
               have E2 := Lib.hid (show scanW a.length b.length k q p = scanW a.length b.length k (r : Int) (p.drop (j + 1)) by rw [hsw.out]; exact HWo.out _ (hst.out))
               clear HErr
               go_wp2_with fail
               go_roundw
               case rel => exact ⟨j + 1, by omega, by go_num, ⟨r, by omega, by go_num, E2.out⟩, Hb4.out⟩
               case measure => simp [intOf]; omega
             ·have hB : (x.n != 0) = true := bne_iff_ne.2 hn0
              by_cases hh : a.length ≤ k ∨ x.n ≠ (r : Int) + 1 ∨ (b.length : Int) < (r : Int) + 1
              ·have hst := Lib.hid (step_far (np := a.length) (nn := b.length) (i := k) (notes := (r : Int)) hgood.out ht hn0 hh)
               clear hn0
               rcases ht with ht0 | ht0
               ·have hB0 : (x.t != 0) = false := by rw [ht0]; rfl
                clear ht0
                have E2 := Lib.hid (HErr.out _ _ hst.out (by decide))
                by_cases hk1 : (a.length : Int) ≤ (k : Int)
                ·clear hh
                 go_wp2_with fail
                 go_ret
                 exact ⟨ret_int E2.out.symm, Hbb.out.trans (Hb24.out.mono Hbb.out.size)⟩
                ·by_cases hk2 : x.n = (r : Int) + 1
                 ·have hB2 : (x.n != (r : Int) + 1) = false := by rw [hk2]; simp
                  have hk3 : (b.length : Int) < (r : Int) + 1 := by omega
                  clear hh hk2
                  go_wp2_with fail
                  go_ret
                  exact ⟨ret_int E2.out.symm, Hbb.out.trans (Hb24.out.mono Hbb.out.size)⟩
                 ·have hB2 : (x.n != (r : Int) + 1) = true := bne_iff_ne.2 hk2
                  clear hh hk2
                  go_wp2_with fail
                  go_ret
                  exact ⟨ret_int E2.out.symm, Hbb.out.trans (Hb24.out.mono Hbb.out.size)⟩
               ·have hB0 : (x.t != 1) = false := by rw [ht0]; rfl
                have hB1 : (x.t != 0) = true := by rw [ht0]; rfl
                clear ht0
                have E2 := Lib.hid (HErr.out _ _ hst.out (by decide))
                by_cases hk1 : (a.length : Int) ≤ (k : Int)
                ·clear hh
                 go_wp2_with fail
                 go_ret
                 exact ⟨ret_int E2.out.symm, Hbb.out.trans (Hb24.out.mono Hbb.out.size)⟩
                ·by_cases hk2 : x.n = (r : Int) + 1
                 ·have hB2 : (x.n != (r : Int) + 1) = false := by rw [hk2]; simp
                  have hk3 : (b.length : Int) < (r : Int) + 1 := by omega
                  clear hh hk2
                  go_wp2_with fail
                  go_ret
                  exact ⟨ret_int E2.out.symm, Hbb.out.trans (Hb24.out.mono Hbb.out.size)⟩
                 ·have hB2 : (x.n != (r : Int) + 1) = true := bne_iff_ne.2 hk2
                  clear hh hk2
                  go_wp2_with fail
                  go_ret
                  exact ⟨ret_int E2.out.symm, Hbb.out.trans (Hb24.out.mono Hbb.out.size)⟩
              ·have hst := Lib.hid (step_note (np := a.length) (nn := b.length) (i := k) (notes := (r : Int)) hgood.out ht hn0 hh)
               have hk1 : ¬ (a.length : Int) ≤ (k : Int) := by omega
               have hB2 : (x.n != (r : Int) + 1) = false := by rw [show x.n = (r : Int) + 1 by omega]; simp
               have hk3 : ¬ (b.length : Int) < (r : Int) + 1 := by omega
               clear hn0 hh
               rcases ht with ht0 | ht0
               ·have hB0 : (x.t != 0) = false := by rw [ht0]; rfl
                clear ht0
                have E2 := Lib.hid (show scanW a.length b.length k q p = scanW a.length b.length k ((r + 1 : Nat) : Int) (p.drop (j + 1)) by rw [hsw.out]; exact HWo.out _ (hst.out))
                clear HErr
                go_wp2_with fail
                go_roundw
                case rel => exact ⟨j + 1, by omega, by go_num, ⟨r + 1, by omega, by go_num, E2.out⟩, Hb4.out⟩
                case measure => simp [intOf]; omega
               ·have hB0 : (x.t != 1) = false := by rw [ht0]; rfl
                have hB1 : (x.t != 0) = true := by rw [ht0]; rfl
                clear ht0
                have E2 := Lib.hid (show scanW a.length b.length k q p = scanW a.length b.length k ((r + 1 : Nat) : Int) (p.drop (j + 1)) by rw [hsw.out]; exact HWo.out _ (hst.out))
                clear HErr
                go_wp2_with fail
                go_roundw
                case rel => exact ⟨j + 1, by omega, by go_num, ⟨r + 1, by omega, by go_num, E2.out⟩, Hb4.out⟩
                case measure => simp [intOf]; omega
            ·have hst := Lib.hid (step_tab (np := a.length) (nn := b.length) (i := k) (notes := (r : Int)) hgood.out (by omega))
             have hB0 : (x.t != 0) = true := bne_iff_ne.2 (by omega)
             have hB1 : (x.t != 1) = true := bne_iff_ne.2 (by omega)
             clear ht
             have E2 := Lib.hid (HErr.out _ _ (hst.out) (by decide))
             go_wp2_with fail
             go_ret
             exact ⟨ret_int E2.out.symm, Hbb.out.trans (Hb24.out.mono Hbb.out.size)⟩
        ·obtain rfl : j = p.length := by omega
         have hsw' : scanW a.length b.length k q p = (0, (r : Int)) := by rw [hsw.out, List.drop_of_length_le (Nat.le_refl _)]; rfl
         have E2 := Lib.hid (hsc.out.trans (HPo.out _ hsw'))
         clear hsw'
         go_wp2_with fail
         go_roundw
         case rel => exact ⟨k + 1, by omega, by go_num, ⟨r, by omega, rfl, E2.out⟩, Hb2.out.trans (Hb3.out.mono Hb2.out.size)⟩
         case measure => simp [intOf]; omega
      ·have hsc' := Lib.hid (show scanP a.length b.length 0 0 l = (0, (q : Int)) by rw [hsc.out, List.drop_of_length_le (by omega)]; rfl)
       obtain ⟨t0, t1⟩ := text_box ((Hb2.out.block _ hz1).trans TB.out)
       by_cases hqn : q = b.length
       ·have E2 := Lib.hid (show res = 0 by rw [E.out, hsc'.out, hqn]; unfold endP; simp)
        have hB : ((q : Int) != (b.length : Int)) = false := by rw [hqn]; simp
        clear hqn
        go_wp2_with fail
        go_ret
        exact ⟨ret_int E2.out.symm, Hbb.out.trans (Hb2.out.mono Hbb.out.size)⟩
       ·have E2 := Lib.hid (show res = 3 by rw [E.out, hsc'.out]; unfold endP; rw [if_neg (by simp), if_pos (by simp; omega)])
        have hB : ((q : Int) != (b.length : Int)) = true := by rw [bne_iff_ne]; omega
        clear hqn
        go_wp2_with fail
        go_ret
        exact ⟨ret_int E2.out.symm, Hbb.out.trans (Hb2.out.mono Hbb.out.size)⟩
    ·have E := Lib.hid (show res = 1 by rw [HC.out, if_neg (by rw [h3'.out]; simp; omega), if_pos h4])
     clear h4
     go_wp2_with fail
     go_ret
     exact ⟨ret_int E.out.symm, Hbb.out⟩
   ·have E := Lib.hid (show res = 2 by rw [HC.out, if_pos (.inr (.inr h3))])
    clear h3
    go_wp2_with fail
    go_ret
    exact ⟨ret_int E.out.symm, Hbb.out⟩
end Go.Proofs.YtakaielemicpkaaGreatDoor
namespace Go.Proofs.YtakaielemicpkaaGreatDoor
open Go.RowKit
theorem sl_bdS {α : Type} [Rep α] {w : World} {A : Option Addr} {c B : Nat} {l : List α} {S : Nat → Prop} (h : Sl w S A c l) (hS : ∀ i, S i → B ≤ i) : Sl w S A c (l.map (Bd.mk : α → Bd α B)) := by
 refine ⟨by rw [List.length_map]; exact h.1, h.2.1, fun h0 => ?_⟩
 rw [List.length_map] at h0
 obtain ⟨b, o, rfl, hb, hlt, hx⟩ := h.2.2 h0
 refine ⟨b, o, rfl, hb, hlt, fun i hi => ?_⟩
 rw [List.length_map] at hi
 obtain ⟨es, hr, hc⟩ := hx i hi
 rw [List.getElem_map]
 exact ⟨es, Rep.mono (α := α) hr (fun i hi _ => ⟨hi, hS i hi⟩), hc⟩
theorem own_bd_sl {α : Type} [Rep α] {w : World} {base B : Nat} {e : TypeId} {v : Value} {l : List α} (h : Own w base e v (l.map (Bd.mk : α → Bd α B))) (hB : B ≤ base) : ∃ A c, v = .slice A l.length c ∧ Sl w (fun b => b < w.heap.size ∧ B ≤ b) A c l := by
 obtain ⟨A, c, h1, h2⟩ := bd_sl h hB
 have e : (l.map (Bd.mk : α → Bd α B)).map Bd.x = l := by
  rw [List.map_map]
  exact (List.map_congr_left (fun _ _ => rfl)).trans (List.map_id l)
 rw [e] at h1 h2
 exact ⟨A, c, h1, h2⟩
theorem line_infoB (B : Nat) : (Tryz.prog.info? 88).map (fun i => (i.zero, i.size, i.bytes)) = some (some (.agg #[.int .i64 0, .int .i64 0, .slice none 0 0, .slice none 0 0]), Rep.size (Bd LineP B), 64) := line_info
theorem lns_info (B : Nat) : (Tryz.prog.info? 34).map (fun i => (i.zero, i.size, i.bytes)) = some (some (.slice none 0 0), Rep.size (Bd (List LineP) B), 24) := by kernel_rfl
theorem partsP_step (m : Int) (a : List (List Word)) (k : Nat) (h : k < a.length) : partsP m 0 (a.take (k + 1)) = partsP m 0 (a.take k) ++ [setP a[k] (tot (a.take k) : Nat) m] := by
 rw [List.take_succ_eq_append_getElem h, partsP_append, Int.zero_add]; rfl
theorem partsP_stepF (m : Int) (b : List (List Word)) (k : Nat) (h : k < b.length) (f : Int) : partsP m f (b.take (k + 1)) = partsP m f (b.take k) ++ [setP b[k] (f + (tot (b.take k) : Nat)) m] := by
 rw [List.take_succ_eq_append_getElem h, partsP_append]; rfl
theorem setP_length {p : List Word} {first m : Int} (hr : Reg (widthsP p) m) : (setP p first m).length ≤ p.length := by
 have h := endsP_len hr
 unfold setP
 rw [linesFrom_length]
 unfold widthsP at h
 rwa [List.length_map] at h
theorem parts_flat (m : Int) : ∀ (a : List (List Word)) (first : Int), (∀ p ∈ a, Reg (widthsP p) m) → (partsP m first a).flatten.length ≤ tot a
 | [], _, _ => by simp [partsP, tot]
 | p :: a, first, h => by
  have h1 := setP_length (first := first) (h p (by simp))
  have h2 := parts_flat m a (first + p.length) (fun q hq => h q (by simp [hq]))
  rw [partsP, List.flatten_cons, List.length_append]
  unfold tot at *
  rw [List.flatten_cons, List.length_append]
  omega
set_option maxRecDepth 100000 in
set_option maxHeartbeats 16000000 in
theorem lines_any (A B : Option Addr) (c d : Nat) (a b : List (List Word)) (m : Int) (w : World) (hT : Laid w) (ha : Sl w (fun b => b < w.heap.size) A c a) (hb : Sl w (fun b => b < w.heap.size) B d b) (hla : a.length ≤ 1048576) (hlb : b.length ≤ 1048576) :
  Calls Tryz.prog 93 #[.agg #[.slice A a.length c, .slice B b.length d], .int .i64 m] w fun e w' => ∃ v u, e = .returned (.tuple #[v, u, .int .i64 (linesE a b m)]) ∧
   (linesE a b m = 0 → Own w' w.heap.size 88 v ((bodyP a m).map (Bd.mk : LineP → Bd LineP w.heap.size)) ∧ Own w' w.heap.size 34 u ((notesLP a b m).map (Bd.mk : List LineP → Bd (List LineP) w.heap.size))) ∧ (linesE a b m ≠ 0 → v = .slice none 0 0 ∧ u = .slice none 0 0) ∧ Below w.heap.size w w' := by
 have HX : Hid (ABox (w.alloc (.cells #[.slice A a.length c, .slice B b.length d] 50)) w.heap.size 50 [.slice A a.length c, .slice B b.length d]) := Lib.hid (heap_alloc_new w _)
 have hba : Below w.heap.size w (w.alloc (.cells #[.slice A a.length c, .slice B b.length d] 50)) := (Below.refl _ _).alloc (Nat.le_refl _) _
 have HB0 := Lib.hid hba
 have HSA := Lib.hid (ha.to hba)
 have HSB := Lib.hid (hb.to hba)
 have HT := Lib.hid (hT.to hba)
 have HSZ : Hid ((w.alloc (.cells #[.slice A a.length c, .slice B b.length d] 50)).heap.size = w.heap.size + 1) := Lib.hid (by simp)
 clear hT ha hb hba
 go_enter Tryz.func93, Tryz.ntmps93
 go_upto_region 1 with (fail)
 generalize hw1 : World.alloc w _ = w1
 have hw2 : (w.alloc (.cells #[.slice A a.length c, .slice B b.length d] 50)) = w1 := hw1
 rw [hw2] at HX HB0 HSA HSB HT HSZ
 clear hw1 hw2
 have HC := Lib.hid (gcheck_any A B c d a b w1 HT.out HSA.out HSB.out hla hlb)
 have q0 := HX.out.cell 0 rfl
 have q1 := HX.out.cell 1 rfl
 obtain ⟨ck, hck⟩ : ∃ ck, chkOf a b = ck := ⟨_, rfl⟩
 rw [hck] at HC
 have HCK := Lib.hid hck
 clear hck
 go_upto_region 2 with (first
  |(go_at_call 113; refine HC.out.mono ?_; rintro e w2 ⟨rfl, hb2⟩)
  | fail)
 have HX2 := Lib.hid (HX.out.to hb2)
 have HB2 := Lib.hid (HB0.out.trans (hb2.mono HB0.out.size))
 have HSA2 := Lib.hid (HSA.out.to hb2)
 have HSB2 := Lib.hid (HSB.out.to hb2)
 have HT2 := Lib.hid (HT.out.to hb2)
 have HZ2 : Hid (w.heap.size + 1 ≤ w2.heap.size) := Lib.hid (by have := HSZ.out; have := hb2.size; omega)
 clear HC q0 q1 hb2 HX HB0 HSA HSB HT HSZ
 clear w1
 by_cases h0 : ck = 0
 ·subst h0
  by_cases hm : 500 ≤ m ∧ m ≤ 2000
  ·obtain ⟨hm1, hm2⟩ := hm
   have HLE : Hid (linesE a b m = 0) := Lib.hid (by unfold linesE; rw [HCK.out, if_neg (by simp), if_pos ⟨hm1, hm2⟩])
   have HFT := Lib.hid (chk_zero HCK.out)
   have hla1 : a.length ≤ 100 := HFT.out.la
   have hlb1 : b.length ≤ 100 := HFT.out.lb
   have q0 := HX2.out.cell 0 rfl
   have htb := HFT.out.tot
   rw [tot_append] at htb
   have HTB := Lib.hid htb
   have HRG : Hid (∀ p ∈ a ++ b, Reg (widthsP p) m) := Lib.hid (fun p hp => HFT.out.reg hm1 hm2 hp)
   clear htb
   go_wp2_with fail
   go_loopw [8, 10, 29] (fun vb vf vi wr => ∃ k : Nat, k ≤ a.length ∧ vi = .int .i64 (k : Int) ∧ vf = .int .i64 ((tot (a.take k) : Nat) : Int) ∧ Hid (Own wr w2.heap.size 88 vb ((partsP m 0 (a.take k)).flatten.map (Bd.mk : LineP → Bd LineP w.heap.size))) ∧ Hid (Below w2.heap.size w2 wr)) (fun _ _ vi _ => a.length - (intOf vi).toNat)
   case atStart => exact ⟨0, Nat.zero_le _, rfl, by simp [tot], Lib.hid (Own.nil _ _ _), Lib.hid (Below.refl _ _)⟩
   case round =>
    obtain ⟨k, hk, rfl, rfl, HO, HBw⟩ := hrel
    obtain ⟨A8, c8, rfl, -⟩ := HO.out.form
    have HSAw := Lib.hid (HSA2.out.to HBw.out)
    have HTw := Lib.hid (HT2.out.to HBw.out)
    have HWL : Hid (w.heap.size ≤ wr.heap.size) := Lib.hid (by have := HZ2.out; have := HBw.out.size; omega)
    have HBW : Hid (Below w.heap.size w wr) := Lib.hid (HB2.out.trans (HBw.out.mono (by have := HZ2.out; omega)))
    by_cases hlt : k < a.length
    ·have hki : (k : Int) < (a.length : Int) := by omega
     have hk0 : (0 : Int) ≤ (k : Int) := by omega
     obtain ⟨b1, o1, A1, c1, hA1, -, -, ce, hsp⟩ := part_at HSAw.out hlt
     subst hA1
     have hmem : a[k] ∈ a ++ b := List.mem_append_left _ (List.getElem_mem hlt)
     have HRP := Lib.hid (HRG.out _ hmem)
     have HWP := Lib.hid (HFT.out.w _ hmem)
     have htk := tot_take a k hlt
     have htl := tot_le a (k + 1)
     have HST := Lib.hid (partsP_step m a k hlt)
     have hpf := parts_flat m (a.take k) 0 (fun p hp => HRG.out p (List.mem_append_left _ (List.mem_of_mem_take hp)))
     have hset := setP_length (first := ((tot (a.take k) : Nat) : Int)) HRP.out
     obtain ⟨p, hp⟩ : ∃ p, a[k] = p := ⟨_, rfl⟩
     rw [hp] at ce hsp HRP HWP htk HST hset
     have hpl : p.length ≤ 500 := by rw [← hp]; exact (HFT.out.p _ hmem).2
     obtain ⟨t, ht⟩ : ∃ t, tot (a.take k) = t := ⟨_, rfl⟩
     rw [ht] at htk HST hpf hset ⊢
     have ht9 : t ≤ 100000 := by have := HTB.out; omega
     have HSET := Lib.hid (set_any A1 c1 p (t : Int) m wr hsp HTw.out HRP.out (by omega) (by omega) (fun x hx => by have := HWP.out x hx; omega))
     have HTK := Lib.hid htk
     have HPF := Lib.hid hpf
     have HSL := Lib.hid hset
     obtain ⟨pl, hpl'⟩ : ∃ pl, setP p (t : Int) m = pl := ⟨_, rfl⟩
     rw [hpl'] at HSET HST HSL
     obtain ⟨fl, hfl⟩ : ∃ fl, (partsP m 0 (a.take k)).flatten = fl := ⟨_, rfl⟩
     have HST2 : Hid ((partsP m 0 (a.take (k + 1))).flatten = fl ++ pl) := Lib.hid (by rw [HST.out, List.flatten_append, hfl]; simp)
     rw [hfl] at HO HPF ⊢
     rw [List.length_map] at HO
     have HLK := Lib.hid HO.out.lt
     have HFL : Hid (fl.length ≤ 100000) := Lib.hid (Nat.le_trans HPF.out (by omega))
     have HPL : Hid (pl.length ≤ 500) := Lib.hid (Nat.le_trans HSL.out hpl)
     clear hsp hmem hp htk htl hpf hset ht hpl' hfl HST HRP HWP HSAw HTw
     go_upto_region 13 with (first
      |(go_at_call 114; refine HSET.out.mono ?_; rintro e w3 ⟨v3, rfl, ho3, hb3⟩; obtain ⟨A3, c3, hv3, hs3⟩ := own_bd_sl ho3 (Nat.le_refl _); subst hv3; have HS3 := Lib.hid (sl_bdS (B := w.heap.size) hs3 (fun i hi => Nat.le_trans HWL.out hi.2)); have HO3 := Lib.hid (HO.out.below hb3); have HB3 := Lib.hid (HBw.out.trans (hb3.mono HBw.out.size)); clear ho3 hb3 hs3)
      |(at_builtin; refine wpList_cat (α := Bd LineP w.heap.size) _ rfl (.tmp 33) (.tmp 37) 34 rfl w2.heap.size 88 (.agg #[.int .i64 0, .int .i64 0, .slice none 0 0, .slice none 0 0]) 64 Tryz.underlying34 (line_infoB _) rfl (show 0 < 4 by omega) (.slice A8 fl.length c8) (fl.map (Bd.mk : LineP → Bd LineP w.heap.size)) rfl HO3.out A3 c3 pl.length (pl.map (Bd.mk : LineP → Bd LineP w.heap.size)) rfl (by rw [List.length_map]) (fun b => b < w3.heap.size ∧ wr.heap.size ≤ b) HS3.out (fun i hi _ e => by have := (HLK.out i e.symm).2; omega) (by have := HFL.out; have := HPL.out; rw [List.length_map]; omega) (by have := HFL.out; have := HPL.out; rw [List.length_map]; omega) HB3.out.size ?_; intro v4 w4 hown4 hg4 hat4; have HB4 := Lib.hid (below_cat HB3.out HO3.out HB3.out.size hg4); have HO4 := Lib.hid hown4; clear hown4 hg4 hat4)
      | fail)
     rw [← List.map_append] at HO4
     have hw13 : IntKind.i64.wrap ((t : Int) + (p.length : Int)) = ((tot (a.take (k + 1)) : Nat) : Int) := by rw [IntWalk.i64_in _ (by omega), HTK.out]; omega
     go_wp2_with fail
     go_roundw
     case rel => exact ⟨k + 1, by omega, by go_num, rfl, Lib.hid (by rw [HST2.out]; exact HO4.out), HB4⟩
     case measure => (first | (simp [intOf]; done) | (simp [intOf]; omega))
    ·obtain rfl : k = a.length := by omega
     have HBO : Hid (Own wr w2.heap.size 88 (.slice A8 ((partsP m 0 (a.take a.length)).flatten.map (Bd.mk : LineP → Bd LineP w.heap.size)).length c8) ((bodyP a m).map (Bd.mk : LineP → Bd LineP w.heap.size))) := Lib.hid (by have h := HO.out; rw [List.take_length] at h ⊢; exact h)
     have hta : tot (a.take a.length) = tot a := by rw [List.take_length]
     generalize ((partsP m 0 (a.take a.length)).flatten.map (Bd.mk : LineP → Bd LineP w.heap.size)).length = bl at *
     rw [hta]
     have hX1 := (HX2.out.to HBw.out).cell 1 rfl
     clear HO hta HSAw
     have hbw2 := HBw.out
     obtain ⟨wo, rfl⟩ : ∃ wo : World, wo = wr := ⟨_, rfl⟩
     have HSBo : Hid (Sl wo (fun b => b < wo.heap.size) B d b) := Lib.hid (HSB2.out.to HBw.out)
     have HTo : Hid (Laid wo) := HTw
     clear hbw2 HBw HTw
     go_wp2_with fail
     go_loopw [9, 10, 47] (fun vn vf vi wr => ∃ k : Nat, k ≤ b.length ∧ vi = .int .i64 (k : Int) ∧ vf = .int .i64 (((tot a : Nat) : Int) + ((tot (b.take k) : Nat) : Int)) ∧ Hid (Own wr wo.heap.size 34 vn ((partsP m ((tot a : Nat) : Int) (b.take k)).map (Bd.mk : List LineP → Bd (List LineP) w.heap.size))) ∧ Hid (Below wo.heap.size wo wr)) (fun _ _ vi _ => b.length - (intOf vi).toNat)
     case atStart => exact ⟨0, Nat.zero_le _, rfl, by simp [tot], Lib.hid (Own.nil _ _ _), Lib.hid (Below.refl _ _)⟩
     case round =>
      obtain ⟨k, hk, rfl, rfl, HO, HBv⟩ := hrel
      obtain ⟨A9, c9, rfl, -⟩ := HO.out.form
      have HWL : Hid (w.heap.size ≤ wr.heap.size) := Lib.hid (by have := HBW.out.size; have := HBv.out.size; omega)
      by_cases hlt : k < b.length
      ·have hki : (k : Int) < (b.length : Int) := by omega
       have hk0 : (0 : Int) ≤ (k : Int) := by omega
       obtain ⟨b1, o1, A1, c1, hA1, -, -, ce, hsp⟩ := part_at (HSBo.out.to HBv.out) hlt
       subst hA1
       have hmem : b[k] ∈ a ++ b := List.mem_append_right _ (List.getElem_mem hlt)
       have HRP := Lib.hid (HRG.out _ hmem)
       have HWP := Lib.hid (HFT.out.w _ hmem)
       have htk := tot_take b k hlt
       have htl := tot_le b (k + 1)
       have HST := Lib.hid (partsP_stepF m b k hlt ((tot a : Nat) : Int))
       have hset := setP_length (first := ((tot a : Nat) : Int) + ((tot (b.take k) : Nat) : Int)) HRP.out
       have HNL := Lib.hid (partsP_length m (b.take k) ((tot a : Nat) : Int))
       obtain ⟨p, hp⟩ : ∃ p, b[k] = p := ⟨_, rfl⟩
       rw [hp] at ce hsp HRP HWP htk HST hset
       have hpl : p.length ≤ 500 := by rw [← hp]; exact (HFT.out.p _ hmem).2
       obtain ⟨t, ht⟩ : ∃ t : Nat, ((tot a : Nat) : Int) + ((tot (b.take k) : Nat) : Int) = (t : Int) := ⟨tot a + tot (b.take k), by omega⟩
       rw [ht] at HST hset ⊢
       have ht9 : t ≤ 100000 := by have := HTB.out; omega
       have HSET := Lib.hid (set_any A1 c1 p (t : Int) m wr hsp (HTo.out.to HBv.out) HRP.out (by omega) (by omega) (fun x hx => by have := HWP.out x hx; omega))
       have HSL := Lib.hid hset
       have HPB : Hid ((t : Int) + (p.length : Int) = ((tot a : Nat) : Int) + ((tot (b.take (k + 1)) : Nat) : Int)) := Lib.hid (by omega)
       obtain ⟨pl, hpl'⟩ : ∃ pl, setP p (t : Int) m = pl := ⟨_, rfl⟩
       rw [hpl'] at HSET HST HSL
       have HPL : Hid (pl.length ≤ 500) := Lib.hid (Nat.le_trans HSL.out hpl)
       obtain ⟨fl, hfl⟩ : ∃ fl, partsP m ((tot a : Nat) : Int) (b.take k) = fl := ⟨_, rfl⟩
       rw [hfl] at HO HNL HST ⊢
       rw [List.length_map] at HO
       have HFL : Hid (fl.length ≤ 100) := Lib.hid (by have := HNL.out; rw [List.length_take] at this; omega)
       have HLK := Lib.hid HO.out.lt
       clear hsp hmem hp htk htl hset hpl' hfl HRP HWP ht
       go_upto_region 19 with (first
        |(go_at_call 114; refine HSET.out.mono ?_; rintro e w3 ⟨v3, rfl, ho3, hb3⟩; obtain ⟨A3, c3, hv3, hs3⟩ := own_bd_sl ho3 (Nat.le_refl _); subst hv3; have hbb := (Below.refl w3.heap.size w3).alloc (Nat.le_refl _) (.cells #[.slice A3 pl.length c3] 34); have HS3 := Lib.hid (hs3.keep (Kept.all hbb) hbb.size); have HO3 := Lib.hid ((HO.out.below hb3).below hbb); have HB3 := Lib.hid (HBv.out.trans ((hb3.trans (hbb.mono hb3.size)).mono HBv.out.size)); have HZ3 := Lib.hid hb3.size; clear ho3 hb3 hs3 hbb)
        |(at_builtin; refine wpList_push (α := Bd (List LineP) w.heap.size) _ rfl (.tmp 51) (.tmp 56) 106 rfl wo.heap.size 34 (.slice none 0 0) 24 Tryz.underlying106 (lns_info _) rfl (show 0 < 1 by omega) (.slice A9 fl.length c9) (fl.map (Bd.mk : List LineP → Bd (List LineP) w.heap.size)) rfl HO3.out w3.heap.size #[.slice A3 pl.length c3] ⟨pl⟩ (0, 0) 34 rfl (heap_alloc_new w3 _) ⟨A3, c3, rfl, HS3.out.mono (fun i hi hl => ⟨fun e => by have := (HLK.out i e.symm).2; have := HZ3.out; omega, by have := HWL.out; omega⟩), by have := HPL.out; show pl.length < _; omega⟩ (by have := HFL.out; rw [List.length_map]; omega) (by have := HFL.out; rw [List.length_map]; omega) HB3.out.size _ rfl ?_; intro g5 p5 w5 hown5 hg5 hat5 hlt5; have HB4 := Lib.hid (below_cat HB3.out HO3.out HB3.out.size hg5); have HO4 := Lib.hid hown5; clear hown5 hg5 hat5 hlt5)
        | fail)
       have hw19 : IntKind.i64.wrap ((t : Int) + (p.length : Int)) = ((tot a : Nat) : Int) + ((tot (b.take (k + 1)) : Nat) : Int) := by rw [IntWalk.i64_in _ (by omega), HPB.out]
       rw [List.length_map] at HO4
       go_wp2_with fail
       go_roundw
       case rel => exact ⟨k + 1, by omega, by go_num, rfl, Lib.hid (by rw [HST.out, List.map_append]; exact HO4.out), HB4⟩
       case measure => (first | (simp [intOf]; done) | (simp [intOf]; omega))
      ·obtain rfl : k = b.length := by omega
       have HNO : Hid (Own wr wo.heap.size 34 (.slice A9 ((partsP m ((tot a : Nat) : Int) (b.take b.length)).map (Bd.mk : List LineP → Bd (List LineP) w.heap.size)).length c9) ((notesLP a b m).map (Bd.mk : List LineP → Bd (List LineP) w.heap.size))) := Lib.hid (by have h := HO.out; rw [List.take_length] at h ⊢; exact h)
       have HBO2 := Lib.hid (HBO.out.below HBv.out)
       have HBF := Lib.hid (HBW.out.trans (HBv.out.mono HBW.out.size))
       have HW2 : Hid (w.heap.size ≤ w2.heap.size) := Lib.hid (by have := HZ2.out; omega)
       have HW3 := Lib.hid HBW.out.size
       generalize ((partsP m ((tot a : Nat) : Int) (b.take b.length)).map (Bd.mk : List LineP → Bd (List LineP) w.heap.size)).length = nl at *
       clear HO
       go_wp2_with fail
       go_ret3
       exact ⟨_, _, by rw [HLE.out]; rfl, fun _ => ⟨HBO2.out.re HW2.out, HNO.out.re HW3.out⟩, fun h => absurd HLE.out h, HBF.out⟩
  ·have HLE : Hid (linesE a b m = 5) := Lib.hid (by unfold linesE; rw [HCK.out, if_neg (by simp), if_neg hm])
   by_cases h5 : m < 500
   ·go_wp2_with fail
    go_ret3
    exact ⟨.slice none 0 0, .slice none 0 0, by rw [HLE.out]; rfl, by rw [HLE.out]; exact fun h => absurd h (by decide), fun _ => ⟨rfl, rfl⟩, HB2.out⟩
   ·have h6 : 2000 < m := by omega
    go_wp2_with fail
    go_ret3
    exact ⟨.slice none 0 0, .slice none 0 0, by rw [HLE.out]; rfl, by rw [HLE.out]; exact fun h => absurd h (by decide), fun _ => ⟨rfl, rfl⟩, HB2.out⟩
 ·have HLE : Hid (linesE a b m = ck) := Lib.hid (by unfold linesE; rw [HCK.out, if_pos h0])
  have h00 : (ck == 0) = false := by rw [beq_eq_false_iff_ne]; exact h0
  go_wp2_with fail
  go_ret3
  exact ⟨.slice none 0 0, .slice none 0 0, by rw [HLE.out]; rfl, by rw [HLE.out]; exact fun h => absurd h h0, fun _ => ⟨rfl, rfl⟩, HB2.out⟩
end Go.Proofs.YtakaielemicpkaaGreatDoor
namespace Go.Proofs.YtakaielemicpkaaGreatDoor
open Go.RowKit
def anyLn (p : Nat → Bool) (l : List (List LineP)) : Bool := l.any fun x => p x.length
theorem anyLn_take (p : Nat → Bool) (l : List (List LineP)) (k : Nat) (h : k < l.length) : anyLn p (l.take (k + 1)) = (anyLn p (l.take k) || p l[k].length) := by
 unfold anyLn
 rw [List.take_succ_eq_append_getElem h, List.any_append]; simp
theorem anyLn_hit (p : Nat → Bool) (l : List (List LineP)) (k : Nat) (h : k < l.length) (hp : p l[k].length = true) : anyLn p l = true := List.any_eq_true.2 ⟨_, List.getElem_mem h, hp⟩
def IsIdxL (p : Nat → Bool) (l : List (List LineP)) (w : World) (e : Ending) (w' : World) : Prop := ∃ r : Int, e = .returned (.int .i64 r) ∧ decide (0 ≤ r) = anyLn p l ∧ w = w'
set_option maxHeartbeats 1000000 in
theorem indexFuncL_any (A : Option Addr) (c n : Nat) (l : List (List LineP)) (f : FuncId) (p : Nat → Bool) (w : World) (hl : Sl w (fun b => b < w.heap.size) A c l) (hn : l.length = n)
  (hcf : ∀ (w' : World) (args : Array Value), (callFunc f args).run Tryz.prog w' = .ok (.enter f args) w')
  (hf : ∀ (A : Option Addr) (n c : Nat) (w' : World), Calls Tryz.prog f #[.slice A n c] w' fun e w'' => e = .returned (.bool (p n)) ∧ w' = w'') :
  Calls Tryz.prog 148 #[.slice A n c, .func (.func f) #[] #[]] w (IsIdxL p l w) := by
 subst hn
 have hlen : l.length ≤ 9223372036854775807 := by have := hl.1; have := hl.2.1; unfold maxLen at this; omega
 have Hf := Lib.hid hf
 have Hl := Lib.hid hl
 clear hf hl
 go_enter Tryz.func148, Tryz.ntmps148
 go_wp2_with fail
 go_loopw [5, 8] (fun _ i wr => ∃ k : Nat, k ≤ l.length ∧ i = .int .i64 k ∧ Hid (anyLn p (l.take k) = false) ∧ wr = w) (fun _ i _ => l.length - (intOf i).toNat)
 case atStart => exact ⟨0, Nat.zero_le _, rfl, Lib.hid (by simp [anyLn]), rfl⟩
 case round =>
  obtain ⟨k, hk, rfl, hno, rfl⟩ := hrel
  by_cases hlt : k < l.length
  ·obtain ⟨b, o, A1, c1, rfl, _, hbl, hc, -⟩ := part_at Hl.out hlt
   have hkl : (k : Int) < (l.length : Int) := by omega
   have hk0 : (0 : Int) ≤ (k : Int) := by omega
   have HT := Lib.hid (anyLn_take p l k hlt)
   have HH := Lib.hid (anyLn_hit p l k hlt)
   generalize l[k] = q at *
   go_wp2_with fail
   refine (Hf.out _ _ _ _).mono ?_
   rintro e w' ⟨rfl, rfl⟩
   cases hp : p q.length
   ·have E := Lib.hid (show anyLn p (l.take (k + 1)) = false by rw [HT.out, hno.out, hp]; rfl)
    clear hp
    go_wp2_with fail
    go_roundw
    case rel => exact ⟨k + 1, by omega, by go_num, E, by first | trivial | rfl⟩
    case measure => simp [intOf]; omega
   ·have E := Lib.hid (HH.out hp)
    clear hp
    go_wp2_with fail
    go_ret
    exact ⟨k, rfl, by rw [E.out]; exact decide_eq_true hk0, rfl⟩
  ·have E := Lib.hid (show anyLn p l = false by have := hno.out; rwa [List.take_of_length_le (by omega)] at this)
   go_wp2_with fail
   go_ret
   exact ⟨-1, rfl, by rw [E.out]; rfl, rfl⟩
set_option maxHeartbeats 400000 in
theorem containsFuncL_any (A : Option Addr) (c n : Nat) (l : List (List LineP)) (f : FuncId) (p : Nat → Bool) (w : World) (hl : Sl w (fun b => b < w.heap.size) A c l) (hn : l.length = n)
  (hcf : ∀ (w' : World) (args : Array Value), (callFunc f args).run Tryz.prog w' = .ok (.enter f args) w')
  (hf : ∀ (A : Option Addr) (n c : Nat) (w' : World), Calls Tryz.prog f #[.slice A n c] w' fun e w'' => e = .returned (.bool (p n)) ∧ w' = w'') :
  Calls Tryz.prog 137 #[.slice A n c, .func (.func f) #[] #[]] w fun e w' => e = .returned (.bool (anyLn p l)) ∧ w = w' := by
 have Hi := Lib.hid (indexFuncL_any A c n l f p w hl hn hcf hf)
 clear hl hf hcf
 go_enter Tryz.func137, Tryz.ntmps137
 go_wp2_with fail
 refine Hi.out.mono ?_
 rintro e w' ⟨r, rfl, hr, rfl⟩
 have Hr := Lib.hid hr
 clear hr
 go_wp2_with fail
 go_ret
 exact ⟨ret_bool Hr.out, rfl⟩
def noneP (n : Nat) : Bool := decide (n = 0)
theorem none_any (A : Option Addr) (n c : Nat) (w : World) : Calls Tryz.prog 138 #[.slice A n c] w fun e w' => e = .returned (.bool (noneP n)) ∧ w = w' := by
 go_enter Tryz.func138, Tryz.ntmps138
 go_wp2_with fail
 go_ret
 refine ⟨ret_bool ?_, rfl⟩
 unfold noneP
 rw [Bool.eq_iff_iff, beq_iff_eq, decide_eq_true_iff]
 omega
theorem line_at {w : World} {S : Nat → Prop} {A : Option Addr} {c : Nat} {l : List LineP} (h : Sl w S A c l) {k : Nat} (hk : k < l.length) :
  ∃ b o Ag cg An cn, A = some ⟨b, o, none⟩ ∧ S b ∧ b < w.heap.size ∧ w.cell? ⟨b, o + k * 4, none⟩ = some (.int .i64 l[k].fr) ∧ w.cell? ⟨b, o + k * 4 + 1, none⟩ = some (.int .i64 l[k].un) ∧
   w.cell? ⟨b, o + k * 4 + 2, none⟩ = some (.slice Ag l[k].gaps.length cg) ∧ w.cell? ⟨b, o + k * 4 + 3, none⟩ = some (.slice An l[k].notes.length cn) ∧ Sl w S Ag cg l[k].gaps ∧ Sl w S An cn l[k].notes := by
 obtain ⟨b, o, es, rfl, hb, hlt, ⟨va, vb, rfl, ⟨Ag, cg, e1, hg, _⟩, ⟨An, cn, e2, hn, _⟩⟩, hc⟩ := h.at_ hk
 cases e1
 cases e2
 exact ⟨b, o, Ag, cg, An, cn, rfl, hb, hlt, hc 0 _ rfl, hc 1 _ rfl, hc 2 _ rfl, hc 3 _ rfl, hg, hn⟩
theorem nextN_app (n : Nat) : ∀ (l l' : List Int) (next : Int), nextN n next (l ++ l') = (nextN n next l).bind fun k => nextN n k l'
 | [], _, _ => rfl
 | k :: ks, l', next => by
  rw [List.cons_append, nextN, nextN]
  split
  ·rfl
  ·exact nextN_app n ks l' _
theorem nextN_step (n : Nat) (l : List Int) (j : Nat) (h : j < l.length) (next : Int) : nextN n next (l.take (j + 1)) = (nextN n next (l.take j)).bind fun k => if l[j] ≠ k ∨ (n : Int) ≤ l[j] then none else some (k + 1) := by
 rw [List.take_succ_eq_append_getElem h, nextN_app]
 rfl
theorem refs_step (body : List LineP) (k : Nat) (h : k < body.length) : (body.take (k + 1)).flatMap (·.notes) = (body.take k).flatMap (·.notes) ++ body[k].notes := by
 rw [List.take_succ_eq_append_getElem h, List.flatMap_append]; simp
set_option maxRecDepth 100000 in
set_option maxHeartbeats 4000000 in
theorem pagecheck_any (A B : Option Addr) (c d : Nat) (body : List LineP) (notes : List (List LineP)) (h : Int) (w : World) (ha : Sl w (fun b => b < w.heap.size) A c body) (hb : Sl w (fun b => b < w.heap.size) B d notes) (hln : notes.length ≤ 1048576) :
  Calls Tryz.prog 115 #[.slice A body.length c, .slice B notes.length d, .int .i64 h] w fun e w' => e = .returned (.int .i64 (pageE body notes h)) ∧ Below w.heap.size w w' := by
 have HC := Lib.hid (containsFuncL_any B d notes.length notes 138 noneP w hb rfl (fun _ _ => rfl) (fun A n c w' => none_any A n c w'))
 have HN : Hid (anyLn noneP notes = notes.any (fun l => decide (l = []))) := Lib.hid (by
  unfold anyLn noneP
  congr 1
  funext l
  simp [List.length_eq_zero_iff])
 have HA := Lib.hid ha
 have hbl : body.length ≤ 9223372036854775807 := by have := ha.1; have := ha.2.1; unfold maxLen at this; omega
 clear ha hb
 by_cases h4 : h < 4
 ·have HE : Hid (pageE body notes h = 5) := Lib.hid (by unfold pageE; rw [if_pos (.inl h4)])
  go_enter Tryz.func115, Tryz.ntmps115
  go_wp2_with fail
  go_ret
  exact ⟨by rw [HE.out]; rfl, Below.refl _ _⟩
 by_cases h5 : 100 < h
 ·have HE : Hid (pageE body notes h = 5) := Lib.hid (by unfold pageE; rw [if_pos (.inr h5)])
  go_enter Tryz.func115, Tryz.ntmps115
  go_wp2_with fail
  go_ret
  exact ⟨by rw [HE.out]; rfl, Below.refl _ _⟩
 cases hany : anyLn noneP notes
 ·have HE : Hid (pageE body notes h = match nextN notes.length 0 (body.flatMap (·.notes)) with | none => 12 | some k => if k < notes.length then 3 else 0) := Lib.hid (by
   unfold pageE
   rw [if_neg (by omega), ← HN.out, hany, if_neg (by decide)]; rfl)
  rw [hany] at HC
  clear hany HN
  go_enter Tryz.func115, Tryz.ntmps115
  go_wp2_with fail
  refine HC.out.mono ?_
  rintro e w' ⟨rfl, rfl⟩
  clear HC
  obtain ⟨wo, rfl⟩ : ∃ wo : World, wo = w := ⟨_, rfl⟩
  go_wp2_with fail
  go_loopw [7, 22] (fun vn vi wr => ∃ (k : Nat) (nx : Int), k ≤ body.length ∧ vi = .int .i64 (k : Int) ∧ vn = .int .i64 nx ∧ Hid (nextN notes.length 0 ((body.take k).flatMap (·.notes)) = some nx) ∧ 0 ≤ nx ∧ nx ≤ notes.length ∧ Hid (Below wo.heap.size wo wr)) (fun _ vi _ => body.length - (intOf vi).toNat)
  case atStart => exact ⟨0, 0, Nat.zero_le _, rfl, rfl, Lib.hid rfl, Int.le_refl _, by omega, Lib.hid (Below.refl _ _)⟩
  case round =>
   obtain ⟨k, nx, hk, rfl, rfl, HX, hn0, hn1, HB⟩ := hrel
   by_cases hlt : k < body.length
   ·have hkl : (k : Int) < (body.length : Int) := by omega
    have hk0 : (0 : Int) ≤ (k : Int) := by omega
    obtain ⟨b, o, Ag, cg, An, cn, rfl, -, hbl2, e0, e1, e2, e3, hgS, hnS⟩ := line_at (HA.out.to HB.out) hlt
    have HRS := Lib.hid (refs_step body k hlt)
    have HNO : Hid (∀ j, nextN notes.length 0 ((body.take k).flatMap (·.notes) ++ (body[k].notes).take j) = none → nextN notes.length 0 (body.flatMap (·.notes)) = none) := Lib.hid (fun j hj => by
     have h1 : (body.flatMap (·.notes)) = ((body.take k).flatMap (·.notes) ++ (body[k].notes).take j) ++ ((body[k].notes).drop j ++ (body.drop (k + 1)).flatMap (·.notes)) := by
      conv => lhs; rw [← List.take_append_drop (k + 1) body, List.flatMap_append, HRS.out]
      rw [List.append_assoc, List.append_assoc]
      congr 1
      rw [← List.append_assoc, List.take_append_drop]
     rw [h1, nextN_app, hj]; rfl)
    have hba : Below wr.heap.size wr (wr.alloc (.cells #[.int .i64 body[k].fr, .int .i64 body[k].un, .slice Ag body[k].gaps.length cg, .slice An body[k].notes.length cn] 88)) := (Below.refl _ _).alloc (Nat.le_refl _) _
    have HB2 := Lib.hid (HB.out.trans (hba.mono HB.out.size))
    have HNS := Lib.hid (hnS.to hba)
    have hnl9 : body[k].notes.length ≤ 9223372036854775807 := by have := hnS.1; have := hnS.2.1; unfold maxLen at this; omega
    generalize body[k] = x at *
    clear hba hgS hnS
    go_wp2_with fail
    generalize World.alloc wr _ = w2 at *
    go_loopw [7, 29] (fun vn vj wr => ∃ (j : Nat) (nx : Int), j ≤ x.notes.length ∧ vj = .int .i64 (j : Int) ∧ vn = .int .i64 nx ∧ Hid (nextN notes.length 0 ((body.take k).flatMap (·.notes) ++ x.notes.take j) = some nx) ∧ 0 ≤ nx ∧ nx ≤ notes.length ∧ wr = w2) (fun _ vj _ => x.notes.length - (intOf vj).toNat)
    case atStart => exact ⟨0, nx, Nat.zero_le _, rfl, rfl, Lib.hid (by rw [List.take_zero, List.append_nil]; exact HX.out), hn0, hn1, rfl⟩
    case round =>
     clear HX hn0 hn1
     obtain ⟨j, nx, hj, rfl, rfl, HX, hn0, hn1, rfl⟩ := hrel
     by_cases hjl : j < x.notes.length
     ·have hjl' : (j : Int) < (x.notes.length : Int) := by omega
      have hj0 : (0 : Int) ≤ (j : Int) := by omega
      obtain ⟨b1, o1, hA1, -, -, hok, ce⟩ := int_at HNS.out hjl
      subst hA1
      have HTS := Lib.hid (nextN_step notes.length ((body.take k).flatMap (·.notes) ++ x.notes) (((body.take k).flatMap (·.notes)).length + j) (by rw [List.length_append]; omega) 0)
      have HT2 : Hid (nextN notes.length 0 ((body.take k).flatMap (·.notes) ++ x.notes.take (j + 1)) = if x.notes[j] ≠ nx ∨ (notes.length : Int) ≤ x.notes[j] then none else some (nx + 1)) := Lib.hid (by
       have e1 : ((body.take k).flatMap (·.notes)) ++ x.notes.take (j + 1) = ((body.take k).flatMap (·.notes) ++ x.notes.take j) ++ [x.notes[j]] := by
        rw [List.take_succ_eq_append_getElem hjl, List.append_assoc]
       rw [e1, nextN_app, HX.out]
       rfl)
      have HNJ := Lib.hid (HNO.out (j + 1))
      have HOK := Lib.hid hok
      generalize x.notes[j] = q at *
      clear hok HTS
      by_cases hq : q = nx
      ·subst hq
       by_cases hq2 : (notes.length : Int) ≤ q
       ·have HE2 : Hid (pageE body notes h = 12) := Lib.hid (by rw [HE.out, HNJ.out (by rw [HT2.out, if_pos (.inr hq2)])])
        go_wp2_with fail
        go_ret
        exact ⟨by rw [HE2.out]; rfl, HB2.out⟩
       ·have HX2 : Hid (nextN notes.length 0 ((body.take k).flatMap (·.notes) ++ x.notes.take (j + 1)) = some (q + 1)) := Lib.hid (by rw [HT2.out, if_neg (by omega)])
        have hq3 : q < (notes.length : Int) := by omega
        clear HT2 HNJ
        go_wp2_with fail
        go_roundw
        case rel => exact ⟨j + 1, q + 1, by omega, by go_num, by go_num, HX2, by omega, by omega, by first | trivial | rfl⟩
        case measure => (first | (simp [intOf]; done) | (simp [intOf]; omega))
      ·have HE2 : Hid (pageE body notes h = 12) := Lib.hid (by rw [HE.out, HNJ.out (by rw [HT2.out, if_pos (.inl hq)])])
       have hqb : (q == nx) = false := by rw [beq_eq_false_iff_ne]; exact hq
       go_wp2_with fail
       go_ret
       exact ⟨by rw [HE2.out]; rfl, HB2.out⟩
     ·have HX2 : Hid (nextN notes.length 0 ((body.take (k + 1)).flatMap (·.notes)) = some nx) := Lib.hid (by rw [HRS.out]; have := HX.out; rwa [List.take_of_length_le (show x.notes.length ≤ j by omega)] at this)
      go_wp2_with fail
      go_roundw
      case rel => exact ⟨k + 1, nx, by omega, by go_num, rfl, HX2, hn0, hn1, HB2⟩
      case measure => (first | (simp [intOf]; done) | (simp [intOf]; omega))
   ·have HX2 : Hid (nextN notes.length 0 (body.flatMap (·.notes)) = some nx) := Lib.hid (by have := HX.out; rwa [List.take_of_length_le (by omega)] at this)
    clear HX
    by_cases hnx : nx < (notes.length : Int)
    ·have HE2 : Hid (pageE body notes h = 3) := Lib.hid (by rw [HE.out, HX2.out]; exact if_pos hnx)
     go_wp2_with fail
     go_ret
     exact ⟨by rw [HE2.out]; rfl, HB.out⟩
    ·have HE2 : Hid (pageE body notes h = 0) := Lib.hid (by rw [HE.out, HX2.out]; exact if_neg hnx)
     go_wp2_with fail
     go_ret
     exact ⟨by rw [HE2.out]; rfl, HB.out⟩
 ·have HE : Hid (pageE body notes h = 1) := Lib.hid (by unfold pageE; rw [if_neg (by omega), ← HN.out, hany, if_pos rfl])
  rw [hany] at HC
  clear hany HN
  go_enter Tryz.func115, Tryz.ntmps115
  go_wp2_with fail
  refine HC.out.mono ?_
  rintro e w' ⟨rfl, rfl⟩
  go_wp2_with fail
  go_ret
  exact ⟨by rw [HE.out]; rfl, Below.refl _ _⟩
end Go.Proofs.YtakaielemicpkaaGreatDoor
namespace Go.Proofs.YtakaielemicpkaaGreatDoor
open Go.RowKit
section
variable {P : Program} {α β : Type} [Rep α] [Rep β]
theorem run_copy_rep (w : World) (dT sT ty e : TypeId) (hu : P.underlying dT = some (.slice e)) (hs : (P.info? e).map (·.size) = some (Rep.size α)) (g : Nat) (cur : Array Value) (A : Option Addr) (c : Nat) (l : List α)
  (hl : Sl w (fun b => b ≠ g) A c l) (h0 : 0 < l.length) (hg : w.heap[g]? = some (.cells cur e (0, 0))) (hcs : cur.size = l.length * Rep.size α) {base : Nat} (hb : base ≤ g) (hm : l.length ≤ maxLen) :
  ∃ w', (Builtin.copy_ #[dT, sT] ty #[.slice (some ⟨g, 0, none⟩) l.length l.length, .slice A l.length c]).run P w = .ok (goInt l.length) w' ∧ Own w' base e (.slice (some ⟨g, 0, none⟩) l.length l.length) l ∧ w.grownBy w' (some g) := by
 obtain ⟨b, o, news, rfl, hSb, hlt, hnl, hn1, hnc, hnr⟩ := hl.flat h0
 have hfit : 0 + 0 + news.length ≤ cur.size := by omega
 have hst := run_storeCells_at P g 0 e news 0 cur w hg (by omega) hn1
 have e1 : (cur.toList.take (0 + 0) ++ news ++ cur.toList.drop (0 + 0 + news.length)).toArray = news.toArray := by
  rw [List.drop_of_length_le (by rw [Array.length_toList]; omega)]; simp
 rw [e1] at hst
 have hgr : w.grownBy (w.setRow g news.toArray) (some g) := ⟨rfl, rfl, rfl, by simp, fun k _ hk => setRow_other w g k _ (fun e => hk (by simp [e]))⟩
 refine ⟨w.setRow g news.toArray, ?_, ?_, hgr⟩
 ·cases hq : P.info? e with
  | none => simp [hq] at hs
  | some i =>
   have hi : i.size = Rep.size α := by simpa [hq] using hs
   have hf := run_firstCells_some (P := P) w i.size l.length ⟨b, o, none⟩ l.length c news (by rw [hi]; exact hnl) (fun j u hu => by rw [addr_add]; exact hnc j u hu)
   simp [Builtin.copy_, run_underlying hu, Builtin.lenOf, sizeOf, typeInfo, hq, hf, hst]
 ·refine ⟨news, ⟨hnl, .inr ⟨g, l.length, news.toArray, rfl, hb, setRow_heap w g cur _ e _ hg, Nat.le_refl _, hm, by simpa using hnl, by simp only [List.take_of_length_le (show (news.toArray.toList).length ≤ l.length * Rep.size α by simp [hnl])]⟩⟩, hn1, fun i hi => ?_⟩
  refine Rep.mono (Rep.keep (hnr i hi) (Kept.grown hgr (fun i hi => by simpa using hi))) (fun i hi _ => by simpa [Value.ownBlock] using hi)
theorem wpList_copy_rep {w : World} {ops : Array Oper} {rest : List Oper} {o : Oper} {a : Act} {Q : Exit → Act → World → Prop} (hgd : o.guard = none) (d s : Operand) (dT sT : TypeId)
  (ho : o.op = .call { callee := .builtin .copy, args := #[d, s], argTypes := #[dT, sT] }) (e : TypeId) (hu : P.underlying dT = some (.slice e)) (hs : (P.info? e).map (·.size) = some (Rep.size α)) (g n : Nat) (cur : Array Value) (A : Option Addr) (c : Nat) (l : List α) (hn : l.length = n)
  (hd : a.eval d = .slice (some ⟨g, 0, none⟩) n n) (hs2 : a.eval s = .slice A n c)
  (hl : Sl w (fun b => b ≠ g) A c l) (h0 : 0 < n) (hg : w.heap[g]? = some (.cells cur e (0, 0))) (hcs : cur.size = n * Rep.size α) (base : Nat) (hb : base ≤ g) (hm : n ≤ maxLen)
  (h : ∀ w', Own w' base e (.slice (some ⟨g, 0, none⟩) n n) l → w.grownBy w' (some g) → wpList P ops Q rest (a.put o.dst (goInt n)) w') : wpList P ops Q (o :: rest) a w :=
 wpList_plain hgd fun _ hK => by
  subst hn
  obtain ⟨w', hrun, h2, h3⟩ := run_copy_rep (P := P) w dT sT o.type e hu hs g cur A c l hl h0 hg hcs hb hm
  unfold Oper.wp execOp
  simp only [ho, resolve, invoke, builtin, Sem.run_bind, Sem.run_pure, Result.andThen_ok, List.map_toArray, List.map_cons, List.map_nil, hd, hs2, hrun]
  exact hK _ _ (h w' h2 h3)
theorem Own.setg {w : World} {base : Nat} {e : TypeId} {g n cap : Nat} {l : List α} (h : Own w base e (.slice (some ⟨g, 0, none⟩) n cap) l) (k j : Nat) (hk : k < l.length) (hj : j < Rep.size α) (u : Value) (hu : u.oneCell' = true) (d' : α)
  (hd : ∀ es, Rep.R w (fun b => b ≠ g) es l[k] → Rep.R w (fun b => b ≠ g) (es.set j u) d') {o : Nat} (ho : o = k * Rep.size α + j) :
  Own (w.setCell ⟨g, o, none⟩ u) base e (.slice (some ⟨g, 0, none⟩) n cap) (l.set k d') ∧ w.grownBy (w.setCell ⟨g, o, none⟩ u) (some g) := by
 subst ho
 obtain ⟨xs, hx, ho1, hr⟩ := h
 obtain rfl : n = l.length := by
  rcases hx.2 with ⟨h1, _⟩ | ⟨g', cap', cur, h1, _⟩
  ·cases h1
  ·cases h1; rfl
 have hst := hx.stored (k * Rep.size α + j) u
 have hxl := hx.1
 have hkk : (k + 1) * Rep.size α ≤ xs.length := by rw [hxl]; exact Nat.mul_le_mul_right _ hk
 rw [Nat.add_mul, Nat.one_mul] at hkk
 have eS : (fun b => some b ≠ (Value.slice (some ⟨g, 0, none⟩) l.length cap).ownBlock) = (fun b => b ≠ g) := by
  funext b; simp [Value.ownBlock]
 rw [eS] at hr
 have kp : Kept (fun b => b ≠ g) w (w.setCell ⟨g, k * Rep.size α + j, none⟩ u) := Kept.grown hst.2 (fun i hi => by simpa using hi)
 refine ⟨⟨xs.set (k * Rep.size α + j) u, by rw [List.length_set]; exact hst.1, ?_, fun i hi => ?_⟩, hst.2⟩
 ·intro y hy
  rcases List.mem_or_eq_of_mem_set hy with h | h
  ·exact ho1 y h
  ·rw [h]; exact hu
 ·rw [eS]
  rw [List.length_set] at hi
  rw [List.drop_set, List.getElem_set]
  by_cases hik : k = i
  ·subst hik
   rw [if_neg (by omega), if_pos rfl, Nat.add_sub_cancel_left, List.take_set]
   exact Rep.keep (hd _ (hr k hi)) kp
  ·rw [if_neg hik]
   by_cases hlt : k < i
   ·have : (k + 1) * Rep.size α ≤ i * Rep.size α := Nat.mul_le_mul_right _ hlt
    rw [Nat.add_mul, Nat.one_mul] at this
    rw [if_pos (by omega)]
    exact Rep.keep (hr i hi) kp
   ·have : (i + 1) * Rep.size α ≤ k * Rep.size α := Nat.mul_le_mul_right _ (by omega : i + 1 ≤ k)
    rw [Nat.add_mul, Nat.one_mul] at this
    rw [if_neg (by omega), List.take_set, List.set_eq_of_length_le (by rw [List.length_take]; omega)]
    exact Rep.keep (hr i hi) kp
theorem Own.conv {w : World} {base : Nat} {e : TypeId} {v : Value} {l : List β} (h : Own w base e v l) (l' : List α) (hl : l'.length = l.length) (hsz : Rep.size α = Rep.size β)
  (hr : ∀ i (h1 : i < l.length) (h2 : i < l'.length) es, Rep.R w (fun b => some b ≠ v.ownBlock) es l[i] → Rep.R w (fun b => some b ≠ v.ownBlock) es l'[i]) : Own w base e v l' := by
 obtain ⟨xs, hx, ho, hq⟩ := h
 refine ⟨xs, by rw [hl, hsz]; exact hx, ho, fun i hi => ?_⟩
 rw [hsz]
 exact hr i (by omega) hi _ (hq i (by omega))
end
structure LC where
 fr : Int
 un : Int
 gv : Value
 nv : Value
instance : Rep LC where
 size := 4
 R _ _ cs x := cs = [.int .i64 x.fr, .int .i64 x.un, x.gv, x.nv] ∧ x.gv.oneCell' = true ∧ x.nv.oneCell' = true
 len := by rintro w S cs s ⟨rfl, _⟩; rfl
 one := by
  rintro w S cs s ⟨rfl, h1, h2⟩ u hu
  simp at hu
  rcases hu with rfl | rfl | rfl | rfl
  ·rfl
  ·rfl
  ·exact h1
  ·exact h2
 keep := by rintro w w' S cs s h _; exact h
 mono := by rintro w S S' cs s h _; exact h
end Go.Proofs.YtakaielemicpkaaGreatDoor
