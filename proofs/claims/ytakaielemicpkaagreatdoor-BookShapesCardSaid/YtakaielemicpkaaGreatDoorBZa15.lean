/- BookShapes, walked: it answers true. No condition but what the tables hold.
A slice as an argument, read as plain data, whatever its elements are; its length against the bulk of what is read. No condition.
Lists of numbers as arguments, read as plain data. No condition.
BookShapes: the card holds, for every argument. No condition. -/
import Derived.Test.YtakaielemicpkaaGreatDoorBZa14
import Derived.Deep.Slices
import Derived.Deep.Fields
import Derived.ChangeSame
import Derived.ChangeMaps5
import Derived.OpenShut
namespace Go.Proofs.YtakaielemicpkaaGreatDoor
open Go.RowKit
theorem fillS_take (l : List SectP) (k : Nat) (h : k < l.length) : (l.take (k + 1)).map fillSec = (l.take k).map fillSec ++ [fillSec l[k]] := by
  rw [List.take_succ_eq_append_getElem h, List.map_append]; rfl
theorem SB.book {Wa W W1 W' : World} {X : Nat} {m h : Int} {v : Value} {l : List SectP} (H : SB Wa X m h v l W) (h1 : Below W.heap.size W W1) (hg : W1.grownBy W' v.ownBlock) : ABox W' X 27 [.int .i64 m, .int .i64 h, v] :=
  (hg.block _ (by have := h1.size; have := H.b.lt; omega) (fun e => H.o.at_ _ e.symm rfl)).trans (H.b.to h1)
theorem fillX_take (l : List TextP) (k : Nat) (h : k < l.length) : (l.take (k + 1)).map fillX = (l.take k).map fillX ++ [fillX l[k]] := by
  rw [List.take_succ_eq_append_getElem h, List.map_append]; rfl
set_option maxRecDepth 100000 in
set_option maxHeartbeats 16000000 in
theorem shapes_any (A0 : Option Addr) (c0 : Nat) (l0 : List Int) (W1 : World) (hs0 : Sl W1 (fun b => b < W1.heap.size) A0 c0 l0) (hT : Tabs W1) :
    Calls Tryz.prog 8 #[.slice A0 l0.length c0] W1 fun e w' => e = .returned (.bool true) ∧ Below W1.heap.size W1 w' := by
  have HT := Lib.hid hT
  have HI0 := Lib.hid hs0
  clear hT hs0
  go_enter Tryz.func8, Tryz.ntmps8
  go_upto_region 2 with (first
    | (go_at_call 9; refine (gbook_any A0 c0 l0 W1 HI0.out).mono ?_; rintro e V1 ⟨m, h, Ab1, cb1, ss, rfl, hg, hs, hb⟩; have HG := Lib.hid hg; have HV1 := Lib.hid hb; have hl := LM.fresh (m := m) (h := h) (⟨HT.out.to hb, hs.mono fun i hi _ => hi.2⟩ : SM V1 Ab1 cb1 ss); clear hg hs hb)
    | fail)
  obtain ⟨W2, hW⟩ : ∃ W2, V1.alloc (.cells #[.int .i64 m, .int .i64 h, .slice Ab1 ss.length cb1] 27) = W2 := ⟨_, rfl⟩
  obtain ⟨b1, hbk⟩ : ∃ b1, V1.heap.size = b1 := ⟨_, rfl⟩
  rw [hW] at hl
  rw [hW, hbk]
  have hb : Below W1.heap.size W1 W2 := HV1.out.trans (hl.2.mono HV1.out.size)
  have H1v := Lib.hid hl.1
  rw [hbk] at H1v
  have HB := Lib.hid hb
  clear hl hb hW hbk
  have HZ := Lib.hid HG.out.siz
  have HTM := Lib.hid HG.out.tame
  obtain ⟨n, hn⟩ : ∃ n, ss.length = n := ⟨_, rfl⟩
  have HN := Lib.hid hn
  have hn5 : n ≤ 5 := by rw [← hn]; exact HTM.out.n
  have hnc : n ≤ cb1 := by rw [← hn]; exact H1v.out.sm.s.1
  have H1x : Hid (ABox W2 b1 27 [.int .i64 m, .int .i64 h, .slice Ab1 n cb1]) := Lib.hid (by rw [← hn]; exact H1v.out.bx)
  have HSS := Lib.hid H1v.out.sm.s
  rw [hn]
  clear hn
  have q0 := H1x.out.cell 0 rfl
  have q1 := H1x.out.cell 1 rfl
  go_upto_region 3 with (fail)
  obtain ⟨W3, hW⟩ : ∃ W3, W2.alloc (.cells #[.int .i64 m, .int .i64 h, .slice none 0 0] 27) = W3 := ⟨_, rfl⟩
  obtain ⟨X, hX⟩ : ∃ X, W2.heap.size = X := ⟨_, rfl⟩
  have hsb : SB W2 X m h (.slice none 0 0) [] W3 := ⟨by rw [← hW, ← hX]; exact heap_alloc_new W2 _, OwnP.nil _ _ _ _, by rw [← hW, ← hX]; exact (Below.refl _ _).alloc (Nat.le_refl _) _⟩
  rw [hW, hX]
  have HX := Lib.hid hX
  have HSB := Lib.hid hsb
  clear hW hX hsb q0 q1
  go_wp2_with fail
  go_loopw [5] (fun i wr => ∃ (k : Nat) (v : Value), k ≤ n ∧ i = .int .i64 k ∧ Hid (SB W2 X m h v ((ss.take k).map fillSec) wr)) (fun i _ => n - (intOf i).toNat)
  case atStart => exact ⟨0, _, by omega, rfl, HSB⟩
  case round =>
    obtain ⟨k, v, hk, rfl, HK⟩ := hrel
    have HBL : Hid (Below W2.heap.size W2 wr) := Lib.hid (by rw [HX.out]; exact HK.out.bl)
    by_cases hlt : k < n
    · have hkl : k < ss.length := by rw [HN.out]; exact hlt
      obtain ⟨A9, c9, hv9, -, -⟩ := HK.out.o.len
      rw [List.length_map, List.length_take, Nat.min_eq_left (by omega)] at hv9
      subst hv9
      have y2 := (H1x.out.to HBL.out).cell 2 rfl
      obtain ⟨b, o, Ag, cg, An, cn, rfl, -, -, e0, e1, e2, e3, hg1, hn1, hI⟩ := sect_at (HSS.out.keep (Kept.below HBL.out fun _ h => h) HBL.out.size) hkl
      have htv := HTM.out.v _ (List.getElem_mem hkl)
      have hft := fillS_take ss k hkl
      obtain ⟨x, hx⟩ : ∃ x, ss[k] = x := ⟨_, rfl⟩
      rw [hx] at e0 e1 e2 e3 hg1 hn1 hI htv hft
      have HFT := Lib.hid hft
      have HTV := Lib.hid htv
      have HI := Lib.hid hI
      obtain ⟨Xs, hXs⟩ : ∃ Xs, wr.heap.size = Xs := ⟨_, rfl⟩
      obtain ⟨w2, hw2⟩ : ∃ w2, wr.alloc (.cells #[.int .i64 x.entry, .bool x.frozen, .slice Ag x.vers.length cg, .slice An x.texts.length cn] 45) = w2 := ⟨_, rfl⟩
      have hb2 : Below wr.heap.size wr w2 := by rw [← hw2]; exact (Below.refl _ _).alloc (Nat.le_refl _) _
      have hxx : ABox w2 Xs 45 [.int .i64 x.entry, .bool x.frozen, .slice Ag x.vers.length cg, .slice An x.texts.length cn] := by rw [← hw2, ← hXs]; exact heap_alloc_new wr _
      have HV := Lib.hid (hg1.keep (Kept.all hb2) hb2.size)
      have HXt := Lib.hid ((hn1.keep (Kept.all hb2) hb2.size).mono (S' := fun b => b < w2.heap.size) (fun i hi hl => hl))
      have HXX := Lib.hid hxx
      have HK2 := Lib.hid (HK.out.to hb2)
      have hkI : (k : Int) < (n : Int) := by omega
      have hvl : x.vers.length ≤ 4 := htv.1
      have htl : x.texts.length ≤ x.vers.length := htv.2.1
      have htc : x.texts.length ≤ cn := hn1.1
      have HXs : Hid (X < w2.heap.size) := Lib.hid (by have := HK2.out.b.lt; omega)
      go_upto_region 7 with (fail)
      try rw [hXs]
      try rw [hw2]
      clear hXs hw2 hxx hb2 hg1 hn1 e0 e1 e2 e3 hx hkl hI htv hft y2
      go_wp2_with fail
      obtain ⟨wo, rfl⟩ : ∃ wo : World, wo = wr := ⟨_, rfl⟩
      go_loopw [7, 8] (fun vt i wx => ∃ q : Nat, q ≤ x.texts.length ∧ i = .int .i64 q ∧ Hid (OwnP wx w2.heap.size 50 vt ((x.texts.take q).map fillX) (Up w2.heap.size)) ∧ Hid (Below w2.heap.size w2 wx)) (fun _ i _ => x.texts.length - (intOf i).toNat)
      case atStart => exact ⟨0, by omega, rfl, Lib.hid (OwnP.nil _ _ _ _), Lib.hid (Below.refl _ _)⟩
      case round =>
        obtain ⟨q, hq, rfl, HO, HBq⟩ := hrel
        obtain ⟨A7, c7, hv7, -, -⟩ := HO.out.len
        rw [List.length_map, List.length_take, Nat.min_eq_left hq] at hv7
        subst hv7
        have HXq := Lib.hid (HXX.out.to HBq.out)
        have p3 := HXq.out.cell 3 rfl
        by_cases hqt : q < x.texts.length
        · obtain ⟨bt, ot, Aa, ca, Ab, cb, rfl, -, hbt, e0, e1, ht1, ht2⟩ := text_at (HXt.out.to HBq.out) hqt
          have hgt := HTV.out.2.2 _ (List.getElem_mem hqt)
          have hft := fillX_take x.texts q hqt
          obtain ⟨y, hy⟩ : ∃ y, x.texts[q] = y := ⟨_, rfl⟩
          rw [hy] at e0 e1 ht1 ht2 hgt hft
          have HGT := Lib.hid hgt
          have HFX := Lib.hid hft
          have HT1 := Lib.hid ht1
          have HT2 := Lib.hid ht2
          have hqI : (q : Int) < (x.texts.length : Int) := by omega
          have HLr : Hid (Laid wr) := Lib.hid (((HT.out.to HB.out).1.to (show Below W2.heap.size W2 w2 by rw [HX.out]; exact HK2.out.bl)).to HBq.out)
          clear hy hgt hft ht1 ht2
          go_upto_region 11 with (fail)
          clear p3
          refine wp_region_rely [7, 14, 16] (fun i => if i = 7 then SP.up wr.heap.size 99 (fillT y.a) else if i = 14 then SP.up wr.heap.size 99 (fillT y.b) else if i = 16 then SP.rp wr.heap.size [fillX y] else SP.any) 17 (by kernel_rfl) (by kernel_rfl) ?_
          intro T _ g hg hgm
          have p3 : ∀ d, (g d).cell? ⟨Xs, 3, none⟩ = some (.slice (some ⟨bt, ot, none⟩) x.texts.length cn) := fun d => (HXq.out.to (hg d)).cell 3 rfl
          have a0 : ∀ d, (g d).cell? ⟨bt, ot + q * 2, none⟩ = some (.slice Aa y.a.length ca) := fun d => ((hg d).cell (p := ⟨bt, ot + q * 2, none⟩) hbt).trans e0
          have a1 : ∀ d, (g d).cell? ⟨bt, ot + q * 2 + 1, none⟩ = some (.slice Ab y.b.length cb) := fun d => ((hg d).cell (p := ⟨bt, ot + q * 2 + 1, none⟩) hbt).trans e1
          repeat (refine wpR_pure (by rfl) fun Kq hq => ?_; go_big_quiet_step (fail); refine wpQuiet_nil (hq _ ?_); clear hq Kq)
          refine wpR_busy (by rfl) (by rfl) (fun d hG K Q hK => ?_) (fun v d hG hp Kr hr => ?_)
          · go_simp
            go_at_call 29
            refine (fillers_any Aa ca y.a (g d) (HT1.out.to (hg d)) HGT.out.short.1 (HLr.out.to (hg d))).mono ?_
            rintro e V1 ⟨va, rfl, ho, hb1⟩
            go_simp
            exact hK _ _ hb1 (up_own ho (hg d).size)
          obtain ⟨Au, cu, rfl, -, -⟩ := OwnP.len (show OwnP (g d) wr.heap.size 99 v (fillT y.a) _ from hp)
          (try clear hp); clear hG
          simp only [Act.put, List.setIfInBounds_toArray, List.set_cons_zero, List.set_cons_succ]
          refine hr _ ?_
          clear hr Kr
          repeat (refine wpR_pure (by rfl) fun Kq hq => ?_; go_big_quiet_step (fail); refine wpQuiet_nil (hq _ ?_); clear hq Kq)
          refine wpR_busy (by rfl) (by rfl) (fun d hG K Q hK => ?_) (fun v d hG hp Kr hr => ?_)
          · go_simp
            go_at_call 29
            refine (fillers_any Ab cb y.b (g d) (HT2.out.to (hg d)) HGT.out.short.2 (HLr.out.to (hg d))).mono ?_
            rintro e V1 ⟨va, rfl, ho, hb1⟩
            go_simp
            exact hK _ _ hb1 (up_own ho (hg d).size)
          obtain ⟨Aw, cw, rfl, -, -⟩ := OwnP.len (show OwnP (g d) wr.heap.size 99 v (fillT y.b) _ from hp)
          (try clear hp); clear hG
          simp only [Act.put, List.setIfInBounds_toArray, List.set_cons_zero, List.set_cons_succ]
          refine hr _ ?_
          clear hr Kr
          repeat (refine wpR_pure (by rfl) fun Kq hq => ?_; go_big_quiet_step (fail); refine wpQuiet_nil (hq _ ?_); clear hq Kq)
          refine wpR_busy (by rfl) (by rfl) (fun d hG K Q hK => ?_) (fun v d hG hp Kr hr => ?_)
          · have H7 : Hid (OwnP (g d) wr.heap.size 99 (.slice Au (fillT y.a).length cu) (fillT y.a) (Up wr.heap.size)) := Lib.hid (hG 7 (by kernel_rfl))
            have H14 : Hid (OwnP (g d) wr.heap.size 99 (.slice Aw (fillT y.b).length cw) (fillT y.b) (Up wr.heap.size)) := Lib.hid (hG 14 (by kernel_rfl))
            have HR : Hid (Rep.R (g d) (Up wr.heap.size) [.slice Au (fillT y.a).length cu, .slice Aw (fillT y.b).length cw] (fillX y)) := Lib.hid (Rep.mono (text_rep (v := .slice none 0 0) (t := fillX y) (B := wr.heap.size) H7.out H14.out (Nat.le_refl _) (by simp [Value.ownBlock]) (by have := HGT.out.fill.l4; show (fillT y.a).length ≤ 100; omega) (by have := HGT.out.fill.n3; show (fillT y.b).length ≤ 100; omega)) (fun i hi _ => hi.2))
            go_simp
            exact hK _ _ ((Below.refl _ _).alloc (Nat.le_refl _) _) (rp_lit (hg d).size HR.out)
          obtain ⟨⟨Az, cz, rfl⟩, -⟩ := (show (∃ A c, v = .slice A [fillX y].length c) ∧ _ from hp)
          (try clear hp); clear hG
          simp only [Act.put, List.setIfInBounds_toArray, List.set_cons_zero, List.set_cons_succ]
          refine hr _ ?_
          clear hr Kr
          repeat (refine wpR_pure (by rfl) fun Kq hq => ?_; go_big_quiet_step (fail); refine wpQuiet_nil (hq _ ?_); clear hq Kq)
          refine wpR_tail 2 (by rfl) (by rfl) (fun d hG => ?_)
          have H16 : Hid (Rep.R (g d) (Up wr.heap.size) [.slice Az [fillX y].length cz] [fillX y]) := Lib.hid (show (∃ A c, _ = Value.slice A [fillX y].length c) ∧ Rep.R (g d) (Up wr.heap.size) [.slice Az [fillX y].length cz] [fillX y] from hG 16).2
          have HOd := Lib.hid (HO.out.below (hg d))
          have HBd := Lib.hid (HBq.out.trans ((hg d).mono HBq.out.size))
          have HSZ : Hid (wr.heap.size ≤ (g d).heap.size) := Lib.hid (hg d).size
          have HLT := Lib.hid HO.out.lt
          clear hG hg hgm p3 a0 a1 e0 e1
          generalize g d = wx at *
          clear g
          have HSl : Hid (Sl wx (Up wr.heap.size) Az cz ([fillX y].map (Av.mk : TextP → Av TextP (Up w2.heap.size)))) := Lib.hid (by
            obtain ⟨A, c, e, hs, -⟩ := H16.out
            cases e
            exact Sl.av (α := TextP) (P := Up w2.heap.size) hs (fun i hi _ => Nat.le_trans HBq.out.size hi))
          have hlm : (((x.texts.take q).map fillX).map (Av.mk : TextP → Av TextP (Up w2.heap.size))).length = q := by rw [List.length_map, List.length_map, List.length_take, Nat.min_eq_left hq]
          have HLM := Lib.hid hlm
          clear hlm
          refine wpAny_one (i := 17) (oi := _) rfl (by kernel_rfl) (by rfl) (fun K hK => ?_)
          refine wp_cat (α := Av TextP (Up w2.heap.size)) _ (.tmp 35) (.tmp 51) 43 rfl w2.heap.size 50 (.agg #[.slice none 0 0, .slice none 0 0]) 48 Tryz.underlying43 text_info rfl (show 0 < 2 by decide) _ (((x.texts.take q).map fillX).map Av.mk) rfl HOd.out.own Az cz 1 ([fillX y].map Av.mk) rfl rfl (Up wr.heap.size) HSl.out (fun i (hi : wr.heap.size ≤ i) _ e => by have := (HLT.out i e.symm).2; omega) (by rw [HLM.out]; omega) (by rw [HLM.out]; omega) HBd.out.size ?_
          intro v' w' ho' hg' hv'
          have HON : Hid (OwnP w' w2.heap.size 50 v' ((x.texts.take (q + 1)).map fillX) (Up w2.heap.size)) := Lib.hid (by
            rw [HFX.out]
            refine OwnP.ofBd ?_ (fun j hj => (ho'.lt j hj).1)
            rw [List.map_append]; exact ho')
          have HBn : Hid (Below w2.heap.size w2 w') := Lib.hid (HBd.out.grown hg' HBd.out.size (fun j hj => (HLT.out j hj).1))
          refine hK _ _ ?_
          clear hK K ho' hg' hv' HOd HSl H16
          try simp only [Act.put, List.setIfInBounds_toArray]
          refine wpAny_one (i := 18) (oi := _) rfl (by kernel_rfl) (by rfl) (fun K hK => ?_)
          go_simp
          refine hK _ _ ?_
          clear hK K
          try simp only [Act.put, List.setIfInBounds_toArray, List.set_cons_zero, List.set_cons_succ]
          refine wpAny_done (by kernel_rfl) ?_ _
          unfold Exit.then
          go_wp2_with fail
          go_roundw
          case rel => exact ⟨q + 1, by omega, by go_num, HON, HBn⟩
          case measure => simp [intOf]; omega
        · obtain rfl : q = x.texts.length := by omega
          have HO2 : Hid (OwnP wr w2.heap.size 50 (.slice A7 x.texts.length c7) (x.texts.map fillX) (Up w2.heap.size)) := Lib.hid (by
            have := HO.out
            rwa [List.take_of_length_le (Nat.le_refl _)] at this)
          have HKq := Lib.hid (HK2.out.to HBq.out)
          have hba : Below wr.heap.size wr (wr.alloc (.cells #[.int .i64 x.entry, .bool x.frozen, .slice Ag x.vers.length cg, .slice A7 x.texts.length c7] 45)) := (Below.refl _ _).alloc (Nat.le_refl _) _
          have HBA := Lib.hid hba
          have HRE : Hid (Rep.R (wr.alloc (.cells #[.int .i64 x.entry, .bool x.frozen, .slice Ag x.vers.length cg, .slice A7 x.texts.length c7] 45)) (fun b => some b ≠ (Value.slice A9 k c9).ownBlock) [.int .i64 x.entry, .bool x.frozen, .slice Ag x.vers.length cg, .slice A7 x.texts.length c7] (⟨fillSec x⟩ : Av SectP (fun i => i ≠ X))) := Lib.hid (sec_rep (B := w2.heap.size) (M := W2.heap.size) HI.out ((HV.out.keep (Kept.all HBq.out) HBq.out.size).keep (Kept.all hba) hba.size) (by rw [HX.out]; exact Nat.le_refl _) (HO2.out.below hba) HXs.out (fun j hj => ⟨by have := (HK2.out.o.lt j hj).1; omega, (HK2.out.o.lt j hj).2⟩) (by omega) (by rw [List.length_map]; omega))
          have hlm : (((ss.take k).map fillSec).map (Av.mk : SectP → Av SectP (fun i => i ≠ X))).length = k := by rw [List.length_map, List.length_map, List.length_take, Nat.min_eq_left (by rw [HN.out]; omega)]
          have HLM := Lib.hid hlm
          have p0 := HXq.out.cell 0 rfl
          have p1 := HXq.out.cell 1 rfl
          have p2 := HXq.out.cell 2 rfl
          have z2 := HKq.out.b.cell 2 rfl
          have HXw : Hid (X + 1 ≤ wr.heap.size) := Lib.hid (by have := HKq.out.b.lt; omega)
          clear hba hlm
          go_upto_region 5 with (first
            | (at_builtin; refine wpList_push (α := Av SectP (fun i => i ≠ X)) _ rfl (.tmp 54) (.tmp 63) 25 rfl (X + 1) 45 (.agg #[.int .i64 0, .bool false, .slice none 0 0, .slice none 0 0]) 64 Tryz.underlying25 sect_info rfl (show 0 < 4 by decide) _ (((ss.take k).map fillSec).map Av.mk) rfl (HKq.out.o.own.alloc _) wr.heap.size _ ⟨fillSec x⟩ (0, 0) 45 rfl (heap_alloc_new wr _) HRE.out (by rw [HLM.out]; omega) (by rw [HLM.out]; omega) (by have := HXw.out; simp; omega) _ rfl ?_; rw [HLM.out]; intro g cap w5 hown5 hg5 hat5 hlt5; have hs5 := HKq.out.book HBA.out hg5; have x2 := hs5.cell 2 rfl; have f2 := hs5.fz 2; have HK5 := Lib.hid (HKq.out.push (v' := .slice (some ⟨g, 0, none⟩) (k + 1) cap) HBA.out (by rw [List.map_append]; exact hown5) hg5 hat5 rfl); clear hs5 hown5 hg5 hat5 hlt5)
            | fail)
          clear x2 f2 p0 p1 p2 p3 z2
          go_wp2_with fail
          go_roundw
          case rel => exact ⟨k + 1, _, by omega, by go_num, Lib.hid (by rw [HFT.out]; exact HK5.out)⟩
          case measure => simp [intOf]; omega
    · obtain rfl : k = n := by omega
      have hfs : (ss.take k).map fillSec = ss.map fillSec := by rw [List.take_of_length_le (Nat.le_of_eq HN.out)]
      have HK2 : Hid (SB W2 X m h v (ss.map fillSec) wr) := Lib.hid (by rw [← hfs]; exact HK.out)
      have hfl : (ss.map fillSec).length = k := by rw [List.length_map]; exact HN.out
      obtain ⟨A9, c9, rfl, hsl⟩ := HK2.out.o.sl
      rw [hfl] at HK2
      have HFL := Lib.hid hfl
      have hbe : Below W1.heap.size W1 wr := HB.out.trans (HBL.out.mono HB.out.size)
      have HSM : Hid (SM wr A9 c9 (ss.map fillSec)) := Lib.hid ⟨HT.out.to hbe, hsl.mono fun i hi hl => hl⟩
      have HGF := Lib.hid HG.out.fill
      have HOb := Lib.hid ((H1v.out.to HBL.out).sm.bookT HTM.out HZ.out)
      have HOc := Lib.hid (HSM.out.bookT HGF.out.tame HGF.out.siz)
      have HBE := Lib.hid hbe
      clear hfs hfl hsl hbe
      obtain ⟨np, hnp⟩ : ∃ np, (pagesB m h ss).length = np := ⟨_, rfl⟩
      have HNP := Lib.hid hnp
      have hnp2 : np ≤ 3920 := by rw [← hnp]; exact HTM.out.pages HZ.out
      have HB1x := Lib.hid (H1x.out.to HBL.out)
      clear hnp
      have y2 := HB1x.out.cell 2 rfl
      go_upto_region 13 with (fail)
      clear y2
      refine wp_region_rely [1, 5, 7, 8, 11] (fun i => if i = 1 then SP.val (.int .i64 0) else if i = 5 then SP.up wr.heap.size 36 (pagesB m h ss) else if i = 7 then SP.up wr.heap.size 36 (pagesB m h ss) else if i = 8 then SP.val (.bool true) else if i = 11 then SP.val (.bool true) else SP.any) 14 (by kernel_rfl) (by kernel_rfl) ?_
      intro T _ g hg hgm
      have a0 : ∀ d, (g d).cell? ⟨X, 0, none⟩ = some (.int .i64 m) := fun d => (HK2.out.b.to (hg d)).cell 0 rfl
      have a1 : ∀ d, (g d).cell? ⟨X, 1, none⟩ = some (.int .i64 h) := fun d => (HK2.out.b.to (hg d)).cell 1 rfl
      have a2 : ∀ d, (g d).cell? ⟨X, 2, none⟩ = some (.slice A9 k c9) := fun d => (HK2.out.b.to (hg d)).cell 2 rfl
      have s0 : ∀ d, (g d).cell? ⟨b1, 0, none⟩ = some (.int .i64 m) := fun d => (HB1x.out.to (hg d)).cell 0 rfl
      have s1 : ∀ d, (g d).cell? ⟨b1, 1, none⟩ = some (.int .i64 h) := fun d => (HB1x.out.to (hg d)).cell 1 rfl
      have s2 : ∀ d, (g d).cell? ⟨b1, 2, none⟩ = some (.slice Ab1 k cb1) := fun d => (HB1x.out.to (hg d)).cell 2 rfl
      repeat (refine wpR_pure (by rfl) fun Kq hq => ?_; go_big_quiet_step (fail); refine wpQuiet_nil (hq _ ?_); clear hq Kq)
      refine wpR_busy (by rfl) (by rfl) (fun d hG K Q hK => ?_) (fun v d hG hp Kr hr => ?_)
      · have hc := check_any HGF.out A9 c9 (g d) ((HT.out.to HBE.out).1.to (hg d)) (HSM.out.s.to (hg d)) (HOc.out.to (hg d))
        rw [HFL.out] at hc
        go_simp
        go_at_call 24
        refine (hc).mono ?_
        rintro e V1 ⟨rfl, hb1⟩
        go_simp
        exact hK _ _ hb1 (rfl)
      have hp : v = .int .i64 0 := hp
      subst hp
      (try clear hp); clear hG
      simp only [Act.put, List.setIfInBounds_toArray, List.set_cons_zero, List.set_cons_succ]
      refine hr _ ?_
      clear hr Kr
      repeat (refine wpR_pure (by rfl) fun Kq hq => ?_; go_big_quiet_step (fail); refine wpQuiet_nil (hq _ ?_); clear hq Kq)
      refine wpR_busy (by rfl) (by rfl) (fun d hG K Q hK => ?_) (fun v d hG hp Kr hr => ?_)
      · have hc := pages_any (HOb.out.to (hg d))
        rw [HN.out] at hc
        go_simp
        go_at_call 12
        refine (hc).mono ?_
        rintro e V1 ⟨v1, R, rfl, ho, hR, hb1⟩
        go_simp
        exact hK _ _ hb1 (up_own (ho.mono (Q := Up (g d).heap.size) (fun i hi _ => hR i hi)) (hg d).size)
      obtain ⟨PA, Pc, rfl, -, -⟩ := OwnP.len (show OwnP (g d) wr.heap.size 36 v (pagesB m h ss) _ from hp)
      (try clear hp); clear hG
      simp only [Act.put, List.setIfInBounds_toArray, List.set_cons_zero, List.set_cons_succ]
      refine hr _ ?_
      clear hr Kr
      repeat (refine wpR_pure (by rfl) fun Kq hq => ?_; go_big_quiet_step (fail); refine wpQuiet_nil (hq _ ?_); clear hq Kq)
      refine wpR_busy (by rfl) (by rfl) (fun d hG K Q hK => ?_) (fun v d hG hp Kr hr => ?_)
      · have hc := pages_any (HOc.out.to (hg d))
        rw [HFL.out, HG.out.pages_fill] at hc
        go_simp
        go_at_call 12
        refine (hc).mono ?_
        rintro e V1 ⟨v1, R, rfl, ho, hR, hb1⟩
        go_simp
        exact hK _ _ hb1 (up_own (ho.mono (Q := Up (g d).heap.size) (fun i hi _ => hR i hi)) (hg d).size)
      obtain ⟨PB, Pd, rfl, -, -⟩ := OwnP.len (show OwnP (g d) wr.heap.size 36 v (pagesB m h ss) _ from hp)
      (try clear hp); clear hG
      simp only [Act.put, List.setIfInBounds_toArray, List.set_cons_zero, List.set_cons_succ]
      refine hr _ ?_
      clear hr Kr
      repeat (refine wpR_pure (by rfl) fun Kq hq => ?_; go_big_quiet_step (fail); refine wpQuiet_nil (hq _ ?_); clear hq Kq)
      refine wpR_busy (by rfl) (by rfl) (fun d hG K Q hK => ?_) (fun v d hG hp Kr hr => ?_)
      · have h5 : Hid (Sl (g d) (Up wr.heap.size) PA Pc (pagesB m h ss)) := Lib.hid (by
          obtain ⟨A, c, e, hs⟩ := OwnP.sl (show OwnP (g d) wr.heap.size 36 _ (pagesB m h ss) (Up wr.heap.size) from hG 5 (by kernel_rfl))
          cases e
          exact hs)
        have h7 : Hid (Sl (g d) (Up wr.heap.size) PB Pd (pagesB m h ss)) := Lib.hid (by
          obtain ⟨A, c, e, hs⟩ := OwnP.sl (show OwnP (g d) wr.heap.size 36 _ (pagesB m h ss) (Up wr.heap.size) from hG 7 (by kernel_rfl))
          cases e
          exact hs)
        go_simp
        go_at_call 11
        refine (samePages_any PA PB Pc Pd _ (pagesB m h ss) (g d) (h5.out.mono fun i hi hl => hl) (h7.out.mono fun i hi hl => hl) rfl (by rw [HNP.out]; omega) (pages_smallB m h ss) (pages_linesB m h ss)).mono ?_
        rintro e V1 ⟨rfl, hb1⟩
        go_simp
        exact hK _ _ hb1 (rfl)
      have hp : v = .bool true := hp
      subst hp
      (try clear hp); clear hG
      simp only [Act.put, List.setIfInBounds_toArray, List.set_cons_zero, List.set_cons_succ]
      refine hr _ ?_
      clear hr Kr
      repeat (refine wpR_pure (by rfl) fun Kq hq => ?_; go_big_quiet_step (fail); refine wpQuiet_nil (hq _ ?_); clear hq Kq)
      refine wpR_busy (by rfl) (by rfl) (fun d hG K Q hK => ?_) (fun v d hG hp Kr hr => ?_)
      · have HTd := (HT.out.to HBE.out).to (hg d)
        go_simp
        go_at_call 17
        refine (lives_any (g d) HTd).mono ?_
        rintro e V1 ⟨rfl, hb1⟩
        go_simp
        exact hK _ _ hb1 (rfl)
      have hp : v = .bool true := hp
      subst hp
      (try clear hp); clear hG
      simp only [Act.put, List.setIfInBounds_toArray, List.set_cons_zero, List.set_cons_succ]
      refine hr _ ?_
      clear hr Kr
      repeat (refine wpR_pure (by rfl) fun Kq hq => ?_; go_big_quiet_step (fail); refine wpQuiet_nil (hq _ ?_); clear hq Kq)
      refine wpR_end (by kernel_rfl) (fun d hG => ?_) _
      clear a0 a1 a2 s0 s1 s2
      have HB9 := Lib.hid (HBE.out.trans ((hg d).mono HBE.out.size))
      clear hG hg hgm
      unfold Exit.then
      generalize g d = w9 at *
      clear g
      go_wp2_with fail
      go_ret
      exact ⟨rfl, HB9.out⟩
end Go.Proofs.YtakaielemicpkaaGreatDoor
namespace Go.Proofs.YtakaielemicpkaaGreatDoor
open Go.ChangeShapes Go.WideShapes Go.ChangeAt Go.RowKit Go.Deep
theorem exists_list {α : Type} {Q : Nat → α → Prop} (n : Nat) (h : ∀ i, i < n → ∃ a, Q i a) : ∃ l : List α, l.length = n ∧ ∀ i, (hi : i < l.length) → Q i l[i] := by
  induction n with
  | zero => exact ⟨[], rfl, fun i hi => by simp at hi⟩
  | succ n ih =>
    obtain ⟨l, hl, hq⟩ := ih fun i hi => h i (by omega)
    obtain ⟨a, ha⟩ := h n (by omega)
    refine ⟨l ++ [a], by simp [hl], fun i hi => ?_⟩
    by_cases hin : i < l.length
    · rw [List.getElem_append_left hin]; exact hq i hin
    · have : i = n := by simp at hi; omega
      subst this
      rw [List.getElem_append_right (by omega)]
      simpa using ha
theorem addr_plain {w : World} {a : Addr} {v : Value} (h : w.cell? (a.add 0) = some v) : ∃ b o, a = ⟨b, o, none⟩ := by
  obtain ⟨b, o, spot⟩ := a
  have hspot : spot = none := by simpa [Addr.add] using World.cell?_spot h
  subst hspot
  exact ⟨b, o, rfl⟩
theorem bulk_one {H : Type} (d : DataW H) : 1 ≤ Rows.uptoBulk d := by
  cases d with
  | lit l => cases l <;> simp [Rows.uptoBulk]
  | nil => simp [Rows.uptoBulk]
  | ptr d => simp [Rows.uptoBulk]
  | slice elems spare => simp [Rows.uptoBulk]
  | agg parts => simp [Rows.uptoBulk]
  | iface t d => simp [Rows.uptoBulk]
  | map entries => simp [Rows.uptoBulk]
  | held h => simp [Rows.uptoBulk]
theorem bulk_part {H : Type} {d : DataW H} {l : List (DataW H)} (h : d ∈ l) : Rows.uptoBulk d ≤ Rows.uptoBulkAll l := by
  induction l with
  | nil => cases h
  | cons x r ih =>
    simp only [Rows.uptoBulkAll]
    cases List.mem_cons.1 h with
    | inl e => subst e; omega
    | inr e => have := ih e; omega
theorem bulk_length {H : Type} (l : List (DataW H)) : l.length ≤ Rows.uptoBulkAll l := by
  induction l with
  | nil => simp [Rows.uptoBulkAll]
  | cons x r ih => have := bulk_one x; simp only [Rows.uptoBulkAll, List.length_cons]; omega
theorem bulk_slice {H : Type} (elems spare : List (DataW H)) : elems.length + spare.length + 1 ≤ Rows.uptoBulk (.slice elems spare) := by
  have h1 := bulk_length elems
  have h2 := bulk_length spare
  simp only [Rows.uptoBulk]
  omega
/-- THE BOUND. -/
theorem bulk_bound {H : Type} {l : List (DataW H)} (hk : Rows.uptoSmall H l = true) : Rows.uptoBulkAll l ≤ 1048576 := by
  have h := of_decide_eq_true hk
  exact h
variable {H : Type} {enc : TypeId × Value → H} {P : Program}
/-- A slice whose elements are of a kind that is known. -/
theorem open_sl {α : Type} [Rep α] {t e : TypeId} {W : World} {base : Nat} {v : Value} {d : DataW H} {ps : List MemPlace} (ht : P.underlying t = some (.slice e)) (hC : P.cellsOf e = Rep.size α)
    (hel : ∀ fuel cs x, DataW.trod enc P W 0 (fun _ => true) true fuel e cs = some x → ∃ a : α, Rep.R W (fun b => b < W.heap.size) cs a) (hsz : 0 < Rep.size α)
    (hval : Value.okWide P W .any base t v) (h : DataW.Trod enc P W 0 (fun _ => true) true t v d ps) :
    ∃ A c, ∃ l : List α, v = .slice A l.length c ∧ Sl W (fun b => b < W.heap.size) A c l ∧ l.length ≤ Rows.uptoBulk d := by
  obtain ⟨a, len, cap, rfl⟩ := okWide_slice ht hval
  obtain ⟨fuel, hf⟩ := h
  rcases open_slice ht hf with ⟨hcs, _⟩ | ⟨a', len', cap', m, n, D, Pl, hcs, _, hl, hm, hmm, hx, hi⟩
  · simp [Value.cells] at hcs
    obtain ⟨rfl, rfl, rfl⟩ := hcs
    exact ⟨none, 0, [], rfl, Sl.nil _ _ _ _ (by simp [maxLen]), by simp⟩
  · simp [Value.cells] at hcs
    obtain ⟨rfl, rfl, rfl⟩ := hcs
    simp only [if_true] at hmm
    subst hmm
    rw [hC] at hi
    have hQ : ∀ i, i < len → ∃ x : α, ∃ es, Rep.R W (fun b => b < W.heap.size) es x ∧ ∀ j u, es[j]? = some u → W.cell? (a'.add (i * Rep.size α + j)) = some u := by
      intro i hil
      obtain ⟨cs', hc, ht'⟩ := hi i (by omega)
      obtain ⟨x, hr⟩ := hel _ _ _ ht'
      obtain ⟨_, hlen, hat⟩ := World.cells?_some hc
      refine ⟨x, cs', hr, fun j u hu => ?_⟩
      have hj : j < Rep.size α := by rw [← hlen]; exact (List.getElem?_eq_some_iff.1 hu).1
      rw [← Go.Deep.add_add]
      exact (hat j hj).trans hu
    obtain ⟨l, hll, hq⟩ := exists_list len hQ
    refine ⟨some a', m, l, by rw [hll], ⟨by omega, hm, fun h0 => ?_⟩, ?_⟩
    · obtain ⟨es, hr, hc⟩ := hq 0 h0
      have hel0 := Rep.len hr
      obtain ⟨b, o, rfl⟩ := addr_plain (by simpa using hc 0 _ (List.getElem?_eq_getElem (by omega)))
      have hlt := World.block_lt_of_cell? W _ (hc 0 _ (List.getElem?_eq_getElem (by omega)))
      rw [addr_add] at hlt
      refine ⟨b, o, rfl, hlt, hlt, fun i hil => ?_⟩
      obtain ⟨es, hr, hc⟩ := hq i hil
      refine ⟨es, hr, fun j u hu => ?_⟩
      have := hc j u hu
      rwa [addr_add, ← Nat.add_assoc] at this
    · simp only [Prod.mk.injEq] at hx
      rw [hx.1, hll]
      have := bulk_slice ((List.range len).map D) ((List.range (m - len)).map fun j => D (len + j))
      simp only [List.length_map, List.length_range] at this
      omega
end Go.Proofs.YtakaielemicpkaaGreatDoor
namespace Go.Proofs.YtakaielemicpkaaGreatDoor
open Go.ChangeShapes Go.WideShapes Go.ChangeAt Go.RowKit Go.Deep
variable {H : Type} {enc : TypeId × Value → H} {P : Program}
theorem open_ints_sl {t e : TypeId} {W : World} {base : Nat} {v : Value} {d : DataW H} {ps : List MemPlace} (ht : P.underlying t = some (.slice e)) (he : P.underlying e = some (.int .i64)) (hc : P.cellsOf e = 1)
    (hval : Value.okWide P W .any base t v) (h : DataW.Trod enc P W 0 (fun _ => true) true t v d ps) : ∃ A c, ∃ l : List Int, v = .slice A l.length c ∧ Sl W (fun b => b < W.heap.size) A c l := by
  obtain ⟨a, len, cap, rfl⟩ := okWide_slice ht hval
  obtain ⟨fuel, hf⟩ := h
  rcases open_ints ht he hc hf with ⟨hcs, _⟩ | ⟨a', len', cap', zs, hcs, _, hl, hm, hz, _, hcell, hwf⟩
  · simp [Value.cells] at hcs
    obtain ⟨rfl, rfl, rfl⟩ := hcs
    exact ⟨none, 0, [], rfl, Sl.nil _ _ _ _ (by simp [maxLen])⟩
  · simp [Value.cells] at hcs
    obtain ⟨rfl, rfl, rfl⟩ := hcs
    have hz' : zs.length = cap := by simpa using hz
    have hlt : (zs.take len).length = len := by rw [List.length_take]; omega
    refine ⟨some a', cap, zs.take len, by rw [hlt], by rw [hlt]; exact hl, hm, fun h0 => ?_⟩
    obtain ⟨b, o, rfl, hat⟩ := Go.ints_at hcell (by omega)
    refine ⟨b, o, rfl, World.block_lt_of_cell? W _ (hat 0 (by omega)), World.block_lt_of_cell? W _ (hat 0 (by omega)), fun i hi => ?_⟩
    rw [hlt] at hi
    have e : zs.getD i 0 = (zs.take len)[i]'(by omega) := by
      rw [List.getElem_take, List.getD_eq_getElem?_getD, List.getElem?_eq_getElem (by omega)]; rfl
    refine ⟨[.int .i64 (zs.getD i 0)], ⟨by rw [e], ?_⟩, fun j u hu => ?_⟩
    · exact i64_wf (hwf _ (List.mem_of_mem_take (List.getElem_mem (by omega))))
    · have hj : j = 0 := by
        rcases j with _ | j
        · rfl
        · simp at hu
      subst hj
      simp only [List.getElem?_cons_zero, Option.some.injEq] at hu
      subst hu
      have := hat i (by omega)
      show W.cell? ⟨b, o + i * 1 + 0, none⟩ = _
      rw [Nat.mul_one, Nat.add_zero]; exact this
end Go.Proofs.YtakaielemicpkaaGreatDoor
namespace Go.Proofs.YtakaielemicpkaaGreatDoor.rowBookShapes
open Go.ChangeShapes Go.WideShapes Go.ChangeAt Go.RowKit
set_option maxRecDepth 100000 in
theorem contract (H : Type) (enc : TypeId × Value → H) (W : World) (base : Nat) (args : Array Value) (ds gs : List (DataW H)) (before : List MemPlace)
    (hval : ∀ (j : Nat) t v, Tryz.f8.params[j]? = some t → args[j]? = some v → Value.okWide Tryz.prog W .any base t v)
    (hW : DataW.Whole enc Tryz.prog Tryz.f8.params.toList Rows.bookShapesSpec.vars false W args.toList ds gs before) (hL : laidMetH Tryz.prog laidL W) :
    Calls Tryz.prog 8 args W fun e W' => ∃ v, e = .returned v ∧ Rows.bookShapesSpec.post enc Tryz.prog Tryz.f8 false true false false W args v W' := by
  have hW' := hW
  obtain ⟨p, q, hA0, hV, rfl, hfz, hnd⟩ := hW
  have hA : DataW.TrodAll enc Tryz.prog W 0 (fun _ => true) true Tryz.f8.params.toList args.toList ds p := hA0
  rw [Tryz.params8] at hA hval
  obtain ⟨v0, vs0, d0, ds0, p0, q0, hargs, rfl, rfl, h0, r0⟩ := trodAll_cons hA
  obtain ⟨rfl, rfl, rfl⟩ := trodAll_nil r0
  obtain rfl : args = #[v0] := by cases args; simp_all
  obtain ⟨rfl, rfl⟩ := trodVars_none hV
  obtain ⟨A0, c0, l0, rfl, hl0⟩ := open_ints_sl Tryz.underlying22 Tryz.underlying3 cells_int (hval 0 22 v0 rfl rfl) h0
  refine (shapes_any A0 c0 l0 W hl0 (tabs_of hL)).mono fun e W' ⟨he, hb⟩ => ?_
  subst he
  exact ⟨_, rfl, row_close laidOut Tryz.underlying4 (by kernel_rfl) (by kernel_rfl) rfl hW' rfl hb⟩

theorem laid_met (os : Os) : laidMet Tryz.prog Rows.bookShapesRow.laid ((laidWorld os).forCall (fun _ _ => 0) ⟨#[], #[.slice none 0 0], []⟩).memory :=
  laidMet_of_run' 8 (by kernel_rfl) (by kernel_rfl)
theorem reads (os : Os) {H : Type} (enc : TypeId × Value → H) : ∃ places, DataW.whole enc Tryz.prog ((laidWorld os).forCall (fun _ _ => 0) ⟨#[], #[.slice none 0 0], []⟩).memory Tryz.f8.params.toList Rows.bookShapesSpec.vars false (#[.slice none 0 0] : Array Value).toList 8 = some ([.nil], [], places) :=
  ⟨[], by kernel_rfl⟩
set_option maxRecDepth 100000 in
theorem lifted (os : Os) (started : os.Started) (H : Type) (enc : TypeId × Value → H) (F : Stop.Interp) :
    ReturnsInHanded {} Tryz.checked os 8 .any ((OpenSpec.ofChange Rows.bookShapesSpec).preRow enc Tryz.prog Tryz.f8 Rows.bookShapesRow.domain false Rows.bookShapesRow.laid) (((OpenSpec.ofChange Rows.bookShapesSpec).at F).post enc Tryz.prog Tryz.f8 false true false false) := by
  obtain ⟨places, hx⟩ := reads os enc
  refine returnsInHanded_of_row (C := Tryz.checked) (s := (OpenSpec.ofChange Rows.bookShapesSpec)) own started (by kernel_rfl) Tryz.func8
    (witness_row_at (enc := enc) (C := Tryz.checked) false (laidWorld os) #[.slice none 0 0] rfl (by kernel_rfl) (by kernel_rfl) (by kernel_rfl)
      (OpenSpec.preRow_of_cond 8 hx (by kernel_rfl) (fun k hk => by cases hk) (by kernel_rfl) (laid_met os))) ?_
  intro W base args ds gs before hval hW _ _ _ hL _ _
  exact contract H enc W base args ds gs before hval hW hL
theorem said : Rows.BookShapesSaid :=
  OpenClaim.holds_of_cond 8 Tryz.f8 rfl rfl rfl rfl rfl rfl rfl ⟨rfl, rfl, rfl, rfl, rfl⟩ rfl rfl rfl rfl rfl (by kernel_rfl) Tryz.func8 (by kernel_rfl)
    (of_decide_eq_true (by kernel_rfl)) (by unfold Func.isWrapper; first | (rw [if_pos (by decide +kernel)]; kernel_rfl) | (rw [if_neg (by decide +kernel)]; exact ⟨rfl, rfl⟩))
    (fun os started H enc _ F => by rw [OpenClaim.pre_eq_preRow]; exact lifted os started H enc F)
theorem wants : Tryz.f8.params.all (fun t => !Tryz.prog.wantsStandIn t) = true := by kernel_rfl
theorem plain (f : FuncId) (fn : Func) (hf : Tryz.pinned.checked.prog.funcNamed "rollbook/rollbooklaw28.BookShapes" = some f) (hfn : Tryz.pinned.checked.prog.funcs[f]? = some fn) :
    false = Tryz.pinned.checked.prog.looks [] ∧ ∀ (j : Nat) t, fn.params[j]? = some t → Tryz.pinned.checked.prog.wantsStandIn t = false := by
  obtain rfl : f = 8 := Option.some.inj ((show Tryz.prog.funcNamed "rollbook/rollbooklaw28.BookShapes" = some 8 by kernel_rfl).symm.trans hf) |>.symm
  obtain rfl : fn = Tryz.f8 := (Option.some.inj (Tryz.func8.symm.trans hfn)).symm
  refine ⟨by kernel_rfl, fun j t ht => ?_⟩
  have := Array.all_eq_true_iff_forall_mem.1 wants t (Array.mem_of_getElem? ht)
  exact (by simpa using this : Tryz.prog.wantsStandIn t = false)
theorem card : Rows.BookShapesCardSaid :=
  Claim7.holds_tied_plain_at .later [] _ _ _ _ said (fun _ h => by cases h) (by kernel_rfl) (fun _ h => by cases h) bookShapes_row_tie rfl ⟨rfl, rfl⟩ (by kernel_rfl) rfl plain (by kernel_rfl)
#print axioms card
end Go.Proofs.YtakaielemicpkaaGreatDoor.rowBookShapes
