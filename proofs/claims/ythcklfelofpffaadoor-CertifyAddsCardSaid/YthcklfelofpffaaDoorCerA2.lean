/- The reference's ledger after sheets. No condition but sizes. -/
import Derived.Test.YthcklfelofpffaaDoorCerA1
namespace Go.Proofs.YthcklfelofpffaaDoor
open Go.RowKit
section
variable {w w5 : World} {O base : Nat} {v1 v2 v' : Value} {L L' : List H32} {N N' : List ByteArray}
theorem LG.set1 (h : LG w O base v1 v2 L N) (hown : Own w5 base 29 v' L') (hg : w.grownBy w5 v1.ownBlock) (hat : v'.ownBlock = v1.ownBlock ∨ v'.ownBlock = some w.heap.size) :
    LG (w5.setCell ⟨O, 0, none⟩ v') O base v' v2 L' N ∧ Below base w (w5.setCell ⟨O, 0, none⟩ v') := by
  have hO := h.o.lt
  have hb : Below base w w5 := (Below.refl base w).grown hg h.bs (fun k hk => (h.l.lt k hk).1)
  have n1 : some O ≠ v'.ownBlock := fun e => by
    rcases hat with e2 | e2
    · exact h.o1 (e.trans e2)
    · rw [e2] at e; cases e; omega
  have hbx : ABox w5 O 36 [v1, v2] := (hg.block O hO h.o1).trans h.o
  have hk : ∀ g, g ≠ O → (w5.setCell ⟨O, 0, none⟩ v').heap[g]? = w5.heap[g]? := fun g hne => heap_set _ _ _ _ hne
  refine ⟨⟨hbx.set 0 v', own_keepH hown (fun g e => hk g (fun e2 => n1 (by rw [e, e2]))), own_keepS h.n (fun g e => (hk g (fun e2 => h.o2 (by rw [e, e2]))).trans (hg.block g (h.n.lt g e).2 (fun e2 => h.dj g e2.symm e))), h.ob, n1, h.o2, fun g e1 e2 => ?_, by have := h.bs; have := hg.size; simp; omega⟩, hb.setCell (p := ⟨O, 0, none⟩) h.ob v'⟩
  rcases hat with e | e
  · exact h.dj g (e ▸ e1) e2
  · rw [e] at e1; cases e1; have := (h.n.lt _ e2).2; omega
theorem LG.set2 (h : LG w O base v1 v2 L N) (hown : Own w5 base 9 v' N') (hg : w.grownBy w5 v2.ownBlock) (hat : v'.ownBlock = v2.ownBlock ∨ v'.ownBlock = some w.heap.size) :
    LG (w5.setCell ⟨O, 1, none⟩ v') O base v1 v' L N' ∧ Below base w (w5.setCell ⟨O, 1, none⟩ v') := by
  have hO := h.o.lt
  have hb : Below base w w5 := (Below.refl base w).grown hg h.bs (fun k hk => (h.n.lt k hk).1)
  have n2 : some O ≠ v'.ownBlock := fun e => by
    rcases hat with e2 | e2
    · exact h.o2 (e.trans e2)
    · rw [e2] at e; cases e; omega
  have hbx : ABox w5 O 36 [v1, v2] := (hg.block O hO h.o2).trans h.o
  have hk : ∀ g, g ≠ O → (w5.setCell ⟨O, 1, none⟩ v').heap[g]? = w5.heap[g]? := fun g hne => heap_set _ _ _ _ hne
  refine ⟨⟨hbx.set 1 v', own_keepH h.l (fun g e => (hk g (fun e2 => h.o1 (by rw [e, e2]))).trans (hg.block g (h.l.lt g e).2 (fun e2 => h.dj g e e2.symm))), own_keepS hown (fun g e => hk g (fun e2 => n2 (by rw [e, e2]))), h.ob, h.o1, n2, fun g e1 e2 => ?_, by have := h.bs; have := hg.size; simp; omega⟩, hb.setCell (p := ⟨O, 1, none⟩) h.ob v'⟩
  rcases hat with e | e
  · exact h.dj g e1 (e ▸ e2)
  · rw [e] at e2; cases e2; have := (h.l.lt _ e1).2; omega
theorem LG.box1 (h : LG w O base v1 v2 L N) (hg : w.grownBy w5 v1.ownBlock) : ABox w5 O 36 [v1, v2] := (hg.block O h.o.lt h.o1).trans h.o
theorem LG.box2 (h : LG w O base v1 v2 L N) (hg : w.grownBy w5 v2.ownBlock) : ABox w5 O 36 [v1, v2] := (hg.block O h.o.lt h.o2).trans h.o
end
set_option maxRecDepth 100000 in
set_option maxHeartbeats 4000000 in
theorem radd_any (branch : Int) (A B C : Option Addr) (ca cb cc : Nat) (L : List H32) (N : List ByteArray) (l : List Sheet) (w : World) (hbr : I64 branch)
    (hl : Sl w (fun b => b < w.heap.size) A ca L) (hn : Sl w (fun b => b < w.heap.size) B cb N) (hs : Sl w (fun b => b < w.heap.size) C cc l) (hln : L.length = N.length) (hlm : L.length + l.length ≤ 1048576)
    (hsz : ∀ s ∈ l, (sheetB branch s).length ≤ 1073740000) :
    Calls Tryd.prog 14 #[.agg #[.slice A L.length ca, .slice B N.length cb], .int .i64 branch, .slice C l.length cc] w fun e w' => ∃ v1 v2, e = .returned (.agg #[v1, v2]) ∧
      Own w' w.heap.size 29 v1 (addAll branch (L, N) l).1 ∧ Own w' w.heap.size 9 v2 (addAll branch (L, N) l).2 ∧ Below w.heap.size w w' := by
  have hb0 : Below w.heap.size w ((w.alloc (.cells #[.slice A L.length ca, .slice B N.length cb] 36)).alloc (.cells #[.slice none 0 0, .slice none 0 0] 36)) := ((Below.refl _ _).alloc (Nat.le_refl _) _).alloc (by simp) _
  have HB0 := Lib.hid hb0
  have HX0 : Hid (ABox ((w.alloc (.cells #[.slice A L.length ca, .slice B N.length cb] 36)).alloc (.cells #[.slice none 0 0, .slice none 0 0] 36)) w.heap.size 36 [.slice A L.length ca, .slice B N.length cb]) := Lib.hid (by
    unfold ABox; rw [Below.heap_alloc _ _ _ (by simp)]; exact heap_alloc_new w _)
  have HX2 : Hid (ABox ((w.alloc (.cells #[.slice A L.length ca, .slice B N.length cb] 36)).alloc (.cells #[.slice none 0 0, .slice none 0 0] 36)) (w.heap.size + 1) 36 [.slice none 0 0, .slice none 0 0]) := Lib.hid (heap_at (by simp))
  have HZ0 : Hid (((w.alloc (.cells #[.slice A L.length ca, .slice B N.length cb] 36)).alloc (.cells #[.slice none 0 0, .slice none 0 0] 36)).heap.size = w.heap.size + 2) := Lib.hid (by simp)
  have HL := Lib.hid hl
  have HN := Lib.hid hn
  have HS := Lib.hid hs
  have HBR := Lib.hid hbr
  have HSZ := Lib.hid hsz
  have HLN := Lib.hid hln
  have HLM := Lib.hid hlm
  clear hb0 hl hn hs hbr hsz hln hlm
  go_enter Tryd.func14, Tryd.ntmps14
  go_upto_region 1 with (fail)
  generalize hw0 : World.alloc (World.alloc w _) _ = w0
  have hw2 : ((w.alloc (.cells #[.slice A L.length ca, .slice B N.length cb] 36)).alloc (.cells #[.slice none 0 0, .slice none 0 0] 36)) = w0 := hw0
  rw [hw2] at HB0 HX0 HX2 HZ0
  clear hw0 hw2
  go_upto_region 2 with (fail)
  have hbg : Below w0.heap.size w0 (w0.alloc (.cells #[.slice none 0 0, .slice none 0 0] 36)) := (Below.refl _ _).alloc (Nat.le_refl _) _
  have HG1 : Hid (LG (w0.alloc (.cells #[.slice none 0 0, .slice none 0 0] 36)) w0.heap.size w0.heap.size (.slice none 0 0) (.slice none 0 0) [] []) := Lib.hid
    ⟨heap_alloc_new w0 _, Own.nil _ _ _, Own.nil _ _ _, Nat.le_refl _, (fun e => by cases e), (fun e => by cases e), (fun g e => by cases e), hbg.size⟩
  have HB1 := Lib.hid hbg
  generalize (w0.alloc (.cells #[.slice none 0 0, .slice none 0 0] 36)) = w1 at *
  obtain ⟨O, hO⟩ : ∃ O, O = w0.heap.size := ⟨_, rfl⟩
  rw [← hO] at HG1
  have hO2 : w0.heap.size = O := hO.symm
  rw [hO2]
  have SL : ∀ {α : Type} [Rep α] {A : Option Addr} {c : Nat} {m : List α} {W : World}, Sl w (fun b => b < w.heap.size) A c m → Below O w0 W → Sl W (fun b => b < O) A c m := fun h hb => by
    have hz := HZ0.out
    have hbb := HB0.out.trans (hb.mono (by omega))
    exact (h.keep (Kept.below hbb (fun _ h => h)) hbb.size).mono (fun _ _ h => by omega)
  clear hbg
  have kx0 := (HB1.out.cell (p := ⟨w.heap.size, 0, none⟩) (by have := HZ0.out; show w.heap.size < _; omega)).trans (HX0.out.cell 0 rfl)
  have kx1 := (HB1.out.cell (p := ⟨w.heap.size, 1, none⟩) (by have := HZ0.out; show w.heap.size < _; omega)).trans (HX0.out.cell 1 rfl)
  have ko0 := HG1.out.o.cell 0 rfl
  have HS1 := Lib.hid (SL HL.out (hO2 ▸ HB1.out))
  have HBO : Hid (O ≤ w1.heap.size) := Lib.hid (HG1.out.bs)
  have HBX : Hid (Below O w0 w1) := Lib.hid (hO2 ▸ HB1.out)
  have HOE := Lib.hid hO2
  clear hO hO2 HB1
  have hll : (L.length : Int) ≤ 1048576 := by have := HLM.out; omega
  have hlnn : (N.length : Int) ≤ 1048576 := by have := HLM.out; have := HLN.out; omega
  go_upto_region 3 with (first
    | (at_builtin; refine wpList_cat (α := H32) _ rfl (.tmp 12) (.tmp 14) 34 rfl O 29 (.agg (zer32.map encB).toArray) 32 Tryd.underlying34 h_info rfl (by decide) (.slice none 0 0) [] rfl HG1.out.l A ca L.length L rfl rfl (fun g => g < O) HS1.out (fun i hi _ e => by cases e) (by simp; omega) (by simp; omega) HBO.out ?_; intro v3 w3 hown3 hg3 hat3; have kb := HG1.out.box1 hg3; have kb0 := kb.cell 0 rfl; have kbf := kb.fz; have HQ3 := Lib.hid (HG1.out.set1 (v' := v3) (L' := L) hown3 hg3 hat3); obtain ⟨A3, c3, rfl, -⟩ := (show Own w3 O 29 v3 L from hown3).form; clear hown3 hg3 hat3 kb)
    | fail)
  obtain ⟨hlg3, hbq3⟩ := HQ3.out
  have HG3 := Lib.hid hlg3
  have HB3 : Hid (Below O w0 (w3.setCell ⟨O, 0, none⟩ (.slice A3 L.length c3))) := Lib.hid (HBX.out.trans hbq3)
  clear hlg3 hbq3 HQ3 kb0 kbf kx0 ko0 HG1 HBX HS1
  generalize w3.setCell ⟨O, 0, none⟩ (.slice A3 L.length c3) = w4 at *
  have kx2 := (HB3.out.cell (p := ⟨w.heap.size, 1, none⟩) (by have := HZ0.out; have := HOE.out; show w.heap.size < _; omega)).trans (HX0.out.cell 1 rfl)
  have ko1 := HG3.out.o.cell 1 rfl
  have HS3 := Lib.hid (SL HN.out HB3.out)
  have HBO3 : Hid (O ≤ w4.heap.size) := Lib.hid (HG3.out.bs)
  go_upto_region 4 with (first
    | (at_builtin; refine wpList_cat (α := ByteArray) _ rfl (.tmp 18) (.tmp 20) 22 rfl O 9 (.string ⟨#[]⟩) 16 Tryd.underlying22 s_info rfl (by decide) (.slice none 0 0) [] rfl HG3.out.n B cb N.length N rfl rfl (fun g => g < O) HS3.out (fun i hi _ e => by cases e) (by simp; omega) (by simp; omega) HBO3.out ?_; intro v5 w5 hown5 hg5 hat5; have kb := HG3.out.box2 hg5; have kb0 := kb.cell 1 rfl; have kbf := kb.fz; have HQ5 := Lib.hid (HG3.out.set2 (v' := v5) (N' := N) hown5 hg5 hat5); obtain ⟨A5, c5, rfl, -⟩ := (show Own w5 O 9 v5 N from hown5).form; clear hown5 hg5 hat5 kb)
    | fail)
  obtain ⟨hlg5, hbq5⟩ := HQ5.out
  have HG5 := Lib.hid hlg5
  have HB5 : Hid (Below O w0 (w5.setCell ⟨O, 1, none⟩ (.slice A5 N.length c5))) := Lib.hid (HB3.out.trans hbq5)
  clear hlg5 hbq5 HQ5 kb0 kbf kx2 ko1 HG3 HB3 HS3 HBO HBO3 kx1
  generalize w5.setCell ⟨O, 1, none⟩ (.slice A5 N.length c5) = w6 at *
  have HLL : Hid (l.length ≤ 1048576) := Lib.hid (by have := HLM.out; omega)
  have hlcc : (l.length : Int) ≤ 1048576 := by have := HLM.out; omega
  go_upto_region 5 with (fail)
  go_loopw [8] (fun i wr => ∃ (k : Nat) (v1 v2 : Value), k ≤ l.length ∧ i = .int .i64 (k : Int) ∧ Hid (LG wr O O v1 v2 (addAll branch (L, N) (l.take k)).1 (addAll branch (L, N) (l.take k)).2) ∧ Hid (Below O w0 wr))
      (fun i _ => l.length - (intOf i).toNat)
  case atStart => exact ⟨0, _, _, Nat.zero_le _, rfl, HG5, HB5⟩
  case round =>
    obtain ⟨k, v1, v2, hk, rfl, HGr, HBr⟩ := hrel
    clear HG5 HB5
    by_cases hkl : k < l.length
    · obtain ⟨b, o, A7, c7, A8, c8, rfl, hb, hblt, d0, d1, d2, s1, s2⟩ := sheet_at HS.out hkl
      have HBw : Hid (Below w.heap.size w wr) := Lib.hid (HB0.out.trans (HBr.out.mono (by have := HZ0.out; have := HOE.out; omega)))
      have e0 := (HBw.out.cell (p := ⟨b, o + k * 3, none⟩) hb).trans d0
      have e1 := (HBw.out.cell (p := ⟨b, o + k * 3 + 1, none⟩) hb).trans d1
      have e2 := (HBw.out.cell (p := ⟨b, o + k * 3 + 2, none⟩) hb).trans d2
      have HE0 := Lib.hid e0
      have HBL : Hid (b < wr.heap.size) := Lib.hid (Nat.lt_of_lt_of_le hb HBw.out.size)
      have HEW : Hid (w0.cell? ⟨b, o + k * 3, none⟩ = some (.string l[k].label)) := Lib.hid ((HB0.out.cell (p := ⟨b, o + k * 3, none⟩) hb).trans d0)
      have HBB : Hid (b < O) := Lib.hid (by have := HZ0.out; have := HOE.out; omega)
      clear d0 d1 d2
      generalize hx : l[k] = x at *
      have HAT := Lib.hid (addAll_take branch (L, N) l k hkl)
      obtain ⟨hl1, hl2⟩ := addAll_len branch (l.take k) (L, N) HLN.out
      have HL1 := Lib.hid hl1
      have HL2 : Hid ((addAll branch (L, N) (l.take k)).1.length ≤ 1048575) := Lib.hid (by have := HLM.out; rw [List.length_take] at hl2; simp only at hl2; omega)
      have HXS : Hid ((sheetB branch x).length ≤ 1073740000) := Lib.hid (HSZ.out x (by rw [← hx]; exact List.getElem_mem _))
      rw [hx] at HAT
      clear hl1 hl2 hx
      obtain ⟨q1, hq1⟩ : ∃ q1, q1 = addAll branch (L, N) (l.take (k + 1)) := ⟨_, rfl⟩
      have HQ1 := Lib.hid hq1
      rw [← hq1] at HAT
      clear hq1
      generalize addAll branch (L, N) (l.take k) = q at *
      obtain ⟨L1, N1⟩ := q
      simp only at HL1 HL2 HGr
      have HLF := Lib.hid (rleaf_any branch x A7 A8 c7 c8 wr HBR.out (s1.to HBw.out) (s2.to HBw.out) HXS.out)
      clear s1 s2 HBw
      have hlf : hashV (leafOf branch x) = .agg ((leafOf branch x).map encB).toArray := rfl
      rw [hlf] at HLF
      have HSZ2 := Lib.hid (hash_size (show (leafOf branch x).length = 32 from sha_length _))
      have HC1 := Lib.hid (hash_all (leafOf branch x))
      clear hlf
      generalize hcs : ((leafOf branch x).map encB).toArray = cs at *
      have HCS := Lib.hid hcs
      clear hcs
      have hk0 : (0 : Int) ≤ (k : Int) := by omega
      have hkl2 : (k : Int) < (l.length : Int) := by omega
      go_wp2_with fail
      refine HLF.out.mono ?_
      rintro e w3 ⟨rfl, hb3⟩
      have HG3 := Lib.hid (HGr.out.to hb3)
      have HB3 : Hid (Below O w0 w3) := Lib.hid (HBr.out.trans (hb3.mono HGr.out.bs))
      have HE3 : Hid (w3.cell? ⟨b, o + k * 3, none⟩ = some (.string x.label)) := Lib.hid ((hb3.cell (p := ⟨b, o + k * 3, none⟩) HBL.out).trans HE0.out)
      have HBL3 : Hid (b < w3.heap.size) := Lib.hid (Nat.lt_of_lt_of_le HBL.out hb3.size)
      clear e0 e1 e2 hb3 HLF HGr HBr HE0 HBL
      go_upto_region 8 with (first
        | (refine wpList_store_row rfl 29 (.tmp 9) (.tmp 34) rfl w3.heap.size cs rfl rfl 29 _ (heap_alloc_new w3 _) (by rw [HSZ2.out]; kernel_rfl) (by rw [HSZ2.out]; rfl) HC1.out ?_)
        | fail)
      generalize hw4 : (World.setRow (World.alloc w3 _) _ _) = w4
      have hb4 : Below w3.heap.size w3 w4 := by rw [← hw4]; exact below_setRow ((Below.refl _ _).alloc (Nat.le_refl _) _) (Nat.le_refl _) _
      have HH4 : Hid (w4.heap[w3.heap.size]? = some (.cells cs 29 (0, 0))) := by rw [← hw4]; exact Lib.hid (setRow_heap _ _ _ cs _ _ (heap_alloc_new w3 _))
      have HG4 := Lib.hid (HG3.out.to hb4)
      have HB4 : Hid (Below O w0 w4) := Lib.hid (HB3.out.trans (hb4.mono HG3.out.bs))
      have HE4 : Hid (w4.cell? ⟨b, o + k * 3, none⟩ = some (.string x.label)) := Lib.hid ((hb4.cell (p := ⟨b, o + k * 3, none⟩) HBL3.out).trans HE3.out)
      have HBL4 : Hid (b < w4.heap.size) := Lib.hid (Nat.lt_of_lt_of_le HBL3.out hb4.size)
      have HHN : Hid (∀ g, v1.ownBlock = some g ∨ v2.ownBlock = some g → g < w3.heap.size) := Lib.hid (fun g hg => hg.elim (fun h => (HG3.out.l.lt g h).2) (fun h => (HG3.out.n.lt g h).2))
      have HHO : Hid (O < w3.heap.size) := Lib.hid HG3.out.o.lt
      clear hw4 hb4 HG3 HB3 HE3 HBL3
      generalize w3.heap.size = Hb at *
      obtain ⟨A2, c2, rfl, hsl2⟩ := HG4.out.n.sl
      obtain ⟨A1, c1, rfl, hsl1⟩ := HG4.out.l.sl
      have HS1 := Lib.hid hsl1
      have HS2 := Lib.hid hsl2
      clear hsl2 hsl1
      try simp only [Act.put, List.setIfInBounds_toArray, List.set_cons_zero, List.set_cons_succ]
      refine wp_region_calm (by kernel_rfl) (by kernel_rfl) ?_
      intro TT hTT g hgb hgm
      have c0 : ∀ d, (g d).cell? ⟨O, 0, none⟩ = some (.slice A1 L1.length c1) := fun d => ((hgb d).cell (p := ⟨O, 0, none⟩) HG4.out.o.lt).trans (HG4.out.o.cell 0 rfl)
      have c1x : ∀ d, (g d).cell? ⟨O, 1, none⟩ = some (.slice A2 N1.length c2) := fun d => ((hgb d).cell (p := ⟨O, 1, none⟩) HG4.out.o.lt).trans (HG4.out.o.cell 1 rfl)
      have c2x : ∀ d, (g d).cell? ⟨b, o + k * 3, none⟩ = some (.string x.label) := fun d => ((hgb d).cell (p := ⟨b, o + k * 3, none⟩) HBL4.out).trans HE4.out
      have HCT : Hid (∀ d, Calls Tryd.prog 46 #[.agg #[.slice A1 L1.length c1, .slice A2 N1.length c2], .string x.label] (g d) fun e w' => e = .returned (.int .i64 (lastIx N1 x.label)) ∧ ∃ m, w' = g m) := Lib.hid (fun d => by
        refine (rlast_any A1 A2 c1 L1.length c2 N1 x.label (g d) (HS2.out.to (hgb d))).mono ?_
        rintro e w' ⟨rfl, hb⟩
        exact ⟨rfl, hgm d w' hb⟩)
      have HGB := Lib.hid hgb
      clear hgb hgm
      go_big_quiet_step (fail)
      go_big_quiet_step (fail)
      go_big_quiet_step (fail)
      go_big_quiet_step (fail)
      go_big_quiet_step (fail)
      go_big_quiet_step (fail)
      go_big_quiet_step ((go_at_call 46; with_reducible refine Calls.mono (HCT.out _) ?_; rintro e w6 ⟨rfl, hm⟩; exact ⟨rfl, hm⟩))
      go_big_quiet_step (fail)
      refine wpQuiet_nil ?_
      rintro _ ⟨nq, rfl⟩
      unfold Exit.then
      have hb5 := HGB.out nq
      clear c0 c1x c2x HCT
      generalize g nq = w5 at *
      clear HGB
      have HG5 := Lib.hid (HG4.out.to hb5)
      have HH5 : Hid (w5.heap[Hb]? = some (.cells cs 29 (0, 0))) := Lib.hid ((hb5.block Hb (Array.getElem?_eq_some_iff.1 HH4.out).1).trans HH4.out)
      have HB5 : Hid (Below O w0 w5) := Lib.hid (HB4.out.trans (hb5.mono HG4.out.bs))
      have HS5 := Lib.hid (HS1.out.to hb5)
      have HE5 : Hid (w5.cell? ⟨b, o + k * 3, none⟩ = some (.string x.label)) := Lib.hid ((hb5.cell (p := ⟨b, o + k * 3, none⟩) HBL4.out).trans HE4.out)
      have HBL5 : Hid (b < w5.heap.size) := Lib.hid (Nat.lt_of_lt_of_le HBL4.out hb5.size)
      clear hb5 HG4 HH4 HB4 HS1 HS2 HE4 HBL4
      go_upto_region 9 with (fail)
      have HCOND : Hid (∃ cond : Bool, cond = decide (lastIx N1 x.label < 0 ∨ (L1[(lastIx N1 x.label).toNat]?).map (·.l) ≠ some (leafOf branch x))) := Lib.hid ⟨_, rfl⟩
      obtain ⟨cond, hcond⟩ := HCOND.out
      have HCD := Lib.hid hcond
      clear hcond HCOND
      have hKX := lastIx_cases N1 x.label
      generalize hkx : lastIx N1 x.label = kx at *
      have HKX := Lib.hid hkx
      clear hkx
      go_cut [52] from 42 to 52 (fun v wx => v = .bool cond ∧ Hid (Below w5.heap.size w5 wx))
      case first =>
        rcases hKX with rfl | ⟨j, hj, rfl⟩
        · have hct : cond = true := by rw [HCD.out]; simp
          subst hct
          go_wp2_with fail
          go_quiet (fail)
          unfold Exit.then
          go_wp2_with fail
          go_meet
          exact ⟨rfl, Lib.hid (Below.dn (Below.refl _ _) nq)⟩
        · have hj0 : ¬ (j : Int) < 0 := by omega
          have hjL : j < L1.length := by rw [HL1.out]; exact hj
          have hjL2 : (j : Int) < (L1.length : Int) := by omega
          have hj1 : (0 : Int) ≤ (j : Int) := by omega
          obtain ⟨bL, oL, rfl, _, hbl, hrg, hel⟩ := h32_at HS5.out hjL
          have HCN : Hid (cond = !decide (L1[j].l = leafOf branch x)) := Lib.hid (by
            rw [HCD.out, List.getElem?_eq_getElem (show ((j : Int)).toNat < L1.length by omega)]
            simp only [Int.toNat_natCast, Option.map_some, Option.some.injEq, ne_eq]
            by_cases e : L1[j].l = leafOf branch x <;> simp [e, hj0])
          have HNQ : Hid (∀ W, (binOp .neq 29 (.agg (L1[j].l.map encB).toArray) (.agg cs)).run Tryd.prog W = .ok (.bool cond) W) := Lib.hid (fun W => by rw [← HCS.out, HCN.out]; exact run_hash_neq _ _ hel (sha_length _) W)
          have HEL : Hid ((L1[j].l.map encB).length = 32) := Lib.hid (by rw [List.length_map]; exact hel)
          generalize L1[j].l = el at *
          have SK : ∀ w', Below w5.heap.size w5 w' → w'.cell? ⟨O, 0, none⟩ = some (.slice (some ⟨bL, oL, none⟩) L1.length c1) ∧ w'.rangeAt bL (oL + j * 32) (el.map encB) ∧ w'.heap[Hb]? = some (.cells cs 29 (0, 0)) := fun w' hb =>
            ⟨(hb.cell (p := ⟨O, 0, none⟩) HG5.out.o.lt).trans (HG5.out.o.cell 0 rfl), fun i v hv => (hb.cell (p := ⟨bL, _, none⟩) hbl).trans (hrg i v hv), (hb.block Hb (Array.getElem?_eq_some_iff.1 HH5.out).1).trans HH5.out⟩
          go_wp2_with fail
          refine wp_region_D (fun w' => w'.cell? ⟨O, 0, none⟩ = some (.slice (some ⟨bL, oL, none⟩) L1.length c1) ∧ w'.rangeAt bL (oL + j * 32) (el.map encB) ∧ w'.heap[Hb]? = some (.cells cs 29 (0, 0))) (fun _ => true) (by kernel_rfl) ?_
          have hHeld := SK _ (Below.refl w5.heap.size w5).drew
          refine wpAnyE_take (i := 0) (oi := ⟨some 42, Op.move (Operand.tmp 10), 3, _, _, _⟩) (v := ?_) rfl (by kernel_rfl) (by kernel_rfl) (by kernel_rfl) (by kernel_rfl) (by kernel_rfl) (fun _ _ _ h => h) (by rfl) ?hyg30 hHeld ?hrg30
          case hyg30 => (intro wS hSw; (try dsimp only at hSw); go_simp; (try with_reducible rfl))
          all_goals try (simp only [Act.put, List.setIfInBounds_toArray, List.set_cons_zero, List.set_cons_succ])
          refine wpAnyE_take (i := 1) (oi := ⟨some 43, Op.binOp BinOp.lss 3 (Operand.tmp 42) (Operand.const (Value.int IntKind.i64 0)) 3, 4, _, _, _⟩) (v := ?_) rfl (by kernel_rfl) (by kernel_rfl) (by kernel_rfl) (by kernel_rfl) (by kernel_rfl) (fun _ _ _ h => h) (by rfl) ?hyg31 hHeld ?hrg31
          case hyg31 => (intro wS hSw; (try dsimp only at hSw); go_simp; (try with_reducible rfl))
          all_goals try (simp only [Act.put, List.setIfInBounds_toArray, List.set_cons_zero, List.set_cons_succ])
          refine wpAnyE_take (i := 2) (oi := ⟨some 44, Op.move (Operand.tmp 43), 4, _, _, _⟩) (v := ?_) rfl (by kernel_rfl) (by kernel_rfl) (by kernel_rfl) (by kernel_rfl) (by kernel_rfl) (fun _ _ _ h => h) (by rfl) ?hyg32 hHeld ?hrg32
          case hyg32 => (intro wS hSw; (try dsimp only at hSw); go_simp; (try with_reducible rfl))
          all_goals try (simp only [Act.put, List.setIfInBounds_toArray, List.set_cons_zero, List.set_cons_succ])
          refine wpAnyE_take (i := 3) (oi := ⟨some 45, Op.fieldAddr 36 (Operand.tmp 7) 0, 0, _, _, _⟩) (v := ?_) rfl (by kernel_rfl) (by kernel_rfl) (by kernel_rfl) (by kernel_rfl) (by kernel_rfl) (fun _ _ _ h => h) (by rfl) ?hyg33 hHeld ?hrg33
          case hyg33 => (intro wS hSw; (try dsimp only at hSw); go_simp; (try with_reducible rfl))
          all_goals try (simp only [Act.put, List.setIfInBounds_toArray, List.set_cons_zero, List.set_cons_succ])
          refine wpAnyE_take (i := 4) (oi := ⟨some 46, Op.load 34 (Operand.tmp 45), 34, _, _, _⟩) (v := ?_) rfl (by kernel_rfl) (by kernel_rfl) (by kernel_rfl) (by kernel_rfl) (by kernel_rfl) (fun _ _ _ h => h) (by rfl) ?hyg34 hHeld ?hrg34
          case hyg34 => (intro wS hSw; (try dsimp only at hSw); go_simp; (try with_reducible rfl))
          all_goals try (simp only [Act.put, List.setIfInBounds_toArray, List.set_cons_zero, List.set_cons_succ])
          refine wpAnyE_take (i := 5) (oi := ⟨some 47, Op.move (Operand.tmp 10), 3, _, _, _⟩) (v := ?_) rfl (by kernel_rfl) (by kernel_rfl) (by kernel_rfl) (by kernel_rfl) (by kernel_rfl) (fun _ _ _ h => h) (by rfl) ?hyg35 hHeld ?hrg35
          case hyg35 => (intro wS hSw; (try dsimp only at hSw); go_simp; (try with_reducible rfl))
          all_goals try (simp only [Act.put, List.setIfInBounds_toArray, List.set_cons_zero, List.set_cons_succ])
          refine wpAnyE_take (i := 6) (oi := ⟨some 48, Op.indexAddr 34 (Operand.tmp 46) (Operand.tmp 47), 0, _, _, _⟩) (v := ?_) rfl (by kernel_rfl) (by kernel_rfl) (by kernel_rfl) (by kernel_rfl) (by kernel_rfl) (fun _ _ _ h => h) (by rfl) ?hyg36 hHeld ?hrg36
          case hyg36 => (intro wS hSw; (try dsimp only at hSw); go_simp; (try with_reducible rfl))
          all_goals try (simp only [Act.put, List.setIfInBounds_toArray, List.set_cons_zero, List.set_cons_succ])
          refine wpAnyE_take (i := 7) (oi := ⟨some 49, Op.load 29 (Operand.tmp 48), 29, _, _, _⟩) (v := ?_) rfl (by kernel_rfl) (by kernel_rfl) (by kernel_rfl) (by kernel_rfl) (by kernel_rfl) (fun _ _ _ h => h) (by rfl) ?hyg37 hHeld ?hrg37
          case hyg37 => (intro wS hSw; refine exec_load_mid 29 (.tmp 48) ?_ bL (oL + j * 32) ?_ (el.map encB) _ hSw.2.1 Tryd.underlying29 ?_ ?_; rfl; rfl; rfl; (rw [HEL.out]; kernel_rfl))
          all_goals try (simp only [Act.put, List.setIfInBounds_toArray, List.set_cons_zero, List.set_cons_succ])
          refine wpAnyE_take (i := 8) (oi := ⟨some 50, Op.load 29 (Operand.tmp 9), 29, _, _, _⟩) (v := ?_) rfl (by kernel_rfl) (by kernel_rfl) (by kernel_rfl) (by kernel_rfl) (by kernel_rfl) (fun _ _ _ h => h) (by rfl) ?hyg38 hHeld ?hrg38
          case hyg38 => (intro wS hSw; refine exec_load_row 29 (.tmp 9) ?_ Hb ?_ 29 cs (0, 0) _ hSw.2.2 Tryd.underlying29 ?_ ?_; rfl; rfl; rfl; (rw [HSZ2.out]; kernel_rfl))
          all_goals try (simp only [Act.put, List.setIfInBounds_toArray, List.set_cons_zero, List.set_cons_succ])
          refine wpAnyE_take (i := 9) (oi := ⟨some 51, Op.binOp BinOp.neq 29 (Operand.tmp 49) (Operand.tmp 50) 29, 4, _, _, _⟩) (v := ?_) rfl (by kernel_rfl) (by kernel_rfl) (by kernel_rfl) (by kernel_rfl) (by kernel_rfl) (fun _ _ _ h => h) (by rfl) ?hyg39 hHeld ?hrg39
          case hyg39 => (intro wS hSw; refine exec_neq 29 29 (.tmp 49) (.tmp 50) ?_ (el.map encB).toArray cs ?_ ?_ guard_h cond (HNQ.out wS); rfl; rfl; rfl)
          all_goals try (simp only [Act.put, List.setIfInBounds_toArray, List.set_cons_zero, List.set_cons_succ])
          refine wpAnyE_take (i := 10) (oi := ⟨some 52, Op.pick (Operand.tmp 44) (Operand.const (Value.bool true)) (Operand.tmp 51), 4, _, _, _⟩) (v := ?_) rfl (by kernel_rfl) (by kernel_rfl) (by kernel_rfl) (by kernel_rfl) (by kernel_rfl) (fun _ _ _ h => h) (by rfl) ?hyg310 hHeld ?hrg310
          case hyg310 => (intro wS hSw; (try dsimp only at hSw); go_simp; (try with_reducible rfl))
          all_goals try (simp only [Act.put, List.setIfInBounds_toArray, List.set_cons_zero, List.set_cons_succ])
          refine wpAnyD_done (by kernel_rfl) ?_ _
          unfold Exit.then
          go_wp2_with fail
          go_meet
          have hjf : decide ((j : Int) < 0) = false := decide_eq_false (by omega)
          exact ⟨by rw [hjf, Bool.false_or], Lib.hid (Below.refl _ _).drew⟩
      case rest =>
        obtain ⟨rfl, hbc⟩ := hcut
        have HG6 := Lib.hid (HG5.out.to hbc.out)
        have HH6 : Hid (wc.heap[Hb]? = some (.cells cs 29 (0, 0))) := Lib.hid ((hbc.out.block Hb (Array.getElem?_eq_some_iff.1 HH5.out).1).trans HH5.out)
        have HB6 : Hid (Below O w0 wc) := Lib.hid (HB5.out.trans (hbc.out.mono HG5.out.bs))
        clear hbc HG5 HH5 HB5 HS5 HE5 HBL5
        cases cond with
        | false =>
          have HAO : Hid (addOne branch (L1, N1) x = (L1, N1)) := Lib.hid (by
            unfold addOne
            simp only [HKX.out]
            rw [if_neg (by simpa using HCD.out.symm)])
          go_wp2_with fail
          go_roundw
          case rel => exact ⟨k + 1, _, _, by omega, by go_num, Lib.hid (by rw [← HQ1.out, HAT.out, HAO.out]; exact HG6.out), HB6⟩
          case measure => simp [intOf]; omega
        | true =>
          have HAO : Hid (addOne branch (L1, N1) x = (L1 ++ [⟨leafOf branch x⟩], N1 ++ [x.label])) := Lib.hid (by
            unfold addOne
            simp only [HKX.out]
            rw [if_pos (by simpa using HCD.out.symm)])
          have hbL : Below wc.heap.size wc (wc.alloc (.cells cs 29)) := (Below.refl _ _).alloc (Nat.le_refl _) _
          have HGa := Lib.hid (HG6.out.to hbL)
          have HBa : Hid (Below O w0 (wc.alloc (.cells cs 29))) := Lib.hid (HB6.out.trans (hbL.mono HG6.out.bs))
          have k0 := HG6.out.o.cell 0 rfl
          clear hbL
          go_upto_region 11 with (first
            | (refine wpList_load_row rfl 29 (.tmp 9) rfl Hb ?_ 29 cs (0, 0) _ HH6.out Tryd.underlying29 ?_ ?_ ?_; rfl; rfl; (rw [HSZ2.out]; kernel_rfl))
            | (refine wpList_build1 rfl (.tmp 55) rfl cs rfl HSZ2.out ?_)
            | (at_builtin; refine wpList_push (α := H32) _ rfl (.tmp 54) (.tmp 56) 34 rfl O 29 (.agg (zer32.map encB).toArray) 32 Tryd.underlying34 h_info rfl (by decide) (.slice A1 L1.length c1) L1 rfl HGa.out.l wc.heap.size cs ⟨leafOf branch x⟩ (0, 0) 29 rfl (heap_alloc_new wc _) ⟨by rw [← HCS.out], sha_length _⟩ (by have := HL2.out; omega) (by have := HL2.out; omega) HGa.out.bs _ rfl ?_; intro g3 p3 w7 hown3 hg3 hat3 hlt3; have kb := HGa.out.box1 hg3; have kb0 := kb.cell 0 rfl; have kbf := kb.fz; have HQ3 := Lib.hid (HGa.out.set1 hown3 hg3 (hat3.elim (fun e => .inl e.symm) (fun e => .inr (congrArg some e)))); clear hown3 hg3 hat3 hlt3 kb)
            | fail)
          obtain ⟨hlg3, hbq3⟩ := HQ3.out
          have HG8 := Lib.hid hlg3
          have HB8 : Hid (Below O w0 (w7.setCell ⟨O, 0, none⟩ (.slice (some ⟨g3, 0, none⟩) (L1.length + 1) p3))) := Lib.hid (HBa.out.trans hbq3)
          clear hlg3 hbq3 HQ3 kb0 kbf k0 HGa HBa HG6 HH6 HB6
          generalize w7.setCell ⟨O, 0, none⟩ (.slice (some ⟨g3, 0, none⟩) (L1.length + 1) p3) = w8 at *
          have SP : ∀ (w' : World) (v1' v2' : Value) (L' : List H32) (N' : List ByteArray), LG w' O O v1' (.slice A2 N1.length c2) L' N' → Below O w0 w' → w'.cell? ⟨O, 1, none⟩ = some (.slice A2 N1.length c2) ∧ w'.cell? ⟨b, o + k * 3, none⟩ = some (.string x.label) := fun w' v1' v2' L' N' h hb =>
            ⟨h.o.cell 1 rfl, (hb.cell (p := ⟨b, o + k * 3, none⟩) HBB.out).trans HEW.out⟩
          go_upto_region 11 with (fail)
          try simp only [Act.put, List.setIfInBounds_toArray, List.set_cons_zero, List.set_cons_succ]
          refine wp_region_D (fun w' => w'.cell? ⟨O, 1, none⟩ = some (.slice A2 N1.length c2) ∧ w'.cell? ⟨b, o + k * 3, none⟩ = some (.string x.label)) (fun i => decide (i < 10)) (by kernel_rfl) ?_
          have HG9 := Lib.hid (HG8.out.to (Below.refl w8.heap.size w8).drew)
          have HB9 : Hid (Below O w0 w8.drew) := Lib.hid HB8.out.drew
          generalize w8.drew = W0 at *
          have hHeld := SP _ _ (.slice none 0 0) _ _ HG9.out HB9.out
          refine wpAnyE_take (i := 0) (oi := ⟨some 59, Op.fieldAddr 36 (Operand.tmp 7) 1, 0, _, _, _⟩) (v := ?_) rfl (by kernel_rfl) (by kernel_rfl) (by kernel_rfl) (by kernel_rfl) (by kernel_rfl) (fun _ _ _ h => h) (by rfl) ?hya0 hHeld ?hra0
          case hya0 => (intro wS hSw; (try dsimp only at hSw); go_simp; (try with_reducible rfl))
          all_goals try (simp only [Act.put, List.setIfInBounds_toArray, List.set_cons_zero, List.set_cons_succ])
          refine wpAnyE_take (i := 1) (oi := ⟨some 60, Op.load 22 (Operand.tmp 59), 22, _, _, _⟩) (v := ?_) rfl (by kernel_rfl) (by kernel_rfl) (by kernel_rfl) (by kernel_rfl) (by kernel_rfl) (fun _ _ _ h => h) (by rfl) ?hya1 hHeld ?hra1
          case hya1 => (intro wS hSw; (try dsimp only at hSw); go_simp; (try with_reducible rfl))
          all_goals try (simp only [Act.put, List.setIfInBounds_toArray, List.set_cons_zero, List.set_cons_succ])
          refine wpAnyE_take (i := 2) (oi := ⟨some 61, Op.move (Operand.tmp 2), 26, _, _, _⟩) (v := ?_) rfl (by kernel_rfl) (by kernel_rfl) (by kernel_rfl) (by kernel_rfl) (by kernel_rfl) (fun _ _ _ h => h) (by rfl) ?hya2 hHeld ?hra2
          case hya2 => (intro wS hSw; (try dsimp only at hSw); go_simp; (try with_reducible rfl))
          all_goals try (simp only [Act.put, List.setIfInBounds_toArray, List.set_cons_zero, List.set_cons_succ])
          refine wpAnyE_take (i := 3) (oi := ⟨some 62, Op.move (Operand.tmp 8), 3, _, _, _⟩) (v := ?_) rfl (by kernel_rfl) (by kernel_rfl) (by kernel_rfl) (by kernel_rfl) (by kernel_rfl) (fun _ _ _ h => h) (by rfl) ?hya3 hHeld ?hra3
          case hya3 => (intro wS hSw; (try dsimp only at hSw); go_simp; (try with_reducible rfl))
          all_goals try (simp only [Act.put, List.setIfInBounds_toArray, List.set_cons_zero, List.set_cons_succ])
          refine wpAnyE_take (i := 4) (oi := ⟨some 63, Op.indexAddr 26 (Operand.tmp 61) (Operand.tmp 62), 0, _, _, _⟩) (v := ?_) rfl (by kernel_rfl) (by kernel_rfl) (by kernel_rfl) (by kernel_rfl) (by kernel_rfl) (fun _ _ _ h => h) (by rfl) ?hya4 hHeld ?hra4
          case hya4 => (intro wS hSw; (try dsimp only at hSw); go_simp; (try with_reducible rfl))
          all_goals try (simp only [Act.put, List.setIfInBounds_toArray, List.set_cons_zero, List.set_cons_succ])
          refine wpAnyE_take (i := 5) (oi := ⟨some 64, Op.fieldAddr 24 (Operand.tmp 63) 0, 0, _, _, _⟩) (v := ?_) rfl (by kernel_rfl) (by kernel_rfl) (by kernel_rfl) (by kernel_rfl) (by kernel_rfl) (fun _ _ _ h => h) (by rfl) ?hya5 hHeld ?hra5
          case hya5 => (intro wS hSw; (try dsimp only at hSw); go_simp; (try with_reducible rfl))
          all_goals try (simp only [Act.put, List.setIfInBounds_toArray, List.set_cons_zero, List.set_cons_succ])
          refine wpAnyE_take (i := 6) (oi := ⟨some 65, Op.load 9 (Operand.tmp 64), 9, _, _, _⟩) (v := ?_) rfl (by kernel_rfl) (by kernel_rfl) (by kernel_rfl) (by kernel_rfl) (by kernel_rfl) (fun _ _ _ h => h) (by rfl) ?hya6 hHeld ?hra6
          case hya6 => (intro wS hSw; (try dsimp only at hSw); go_simp; (try with_reducible rfl))
          all_goals try (simp only [Act.put, List.setIfInBounds_toArray, List.set_cons_zero, List.set_cons_succ])
          refine wpAnyD_one (i := 7) (oi := ⟨some 66, Op.buildSlice 22 1 #[(0, Operand.tmp 65)], 22, _, _, _⟩) rfl (by kernel_rfl) (by rfl) (fun K hK => ?_)
          go_simp
          have hbM : Below W0.heap.size W0 (W0.alloc (.cells #[.string x.label] 9)) := (Below.refl _ _).alloc (Nat.le_refl _) _
          have HG10 := Lib.hid (HG9.out.to hbM)
          have HB10 : Hid (Below O w0 (W0.alloc (.cells #[.string x.label] 9))) := Lib.hid (HB9.out.trans (hbM.mono HG9.out.bs))
          have HLT : Hid ((W0.alloc (.cells #[.string x.label] 9)).heap[W0.heap.size]? = some (.cells #[.string x.label] 9 (0, 0))) := Lib.hid (heap_alloc_new W0 _)
          refine hK _ _ (fun _ => ?_) ?_
          · exact SP _ _ (.slice none 0 0) _ _ HG10.out HB10.out
          clear hK K hHeld hbM HG9 HB9
          generalize W0.heap.size = B1 at *
          generalize W0.alloc (.cells #[.string x.label] 9) = W1 at *
          have hHeld := SP _ _ (.slice none 0 0) _ _ HG10.out HB10.out
          try simp only [Act.put, List.setIfInBounds_toArray, List.set_cons_zero, List.set_cons_succ]
          refine wpAnyD_one (i := 8) (oi := ⟨some 67, Op.call { callee := Callee.builtin Builtin.append, args := #[Operand.tmp 60, Operand.tmp 66], argTypes := #[22, 22] }, 22, _, _, _⟩) rfl (by kernel_rfl) (by rfl) (fun K hK => ?_)
          refine wp_push (α := ByteArray) _ (.tmp 60) (.tmp 66) 22 rfl O 9 (.string ⟨#[]⟩) 16 Tryd.underlying22 s_info rfl (by decide) (.slice A2 N1.length c2) N1 rfl HG10.out.n B1 #[.string x.label] x.label (0, 0) 9 rfl HLT.out rfl (by have := HL2.out; have := HL1.out; omega) (by have := HL2.out; have := HL1.out; omega) HG10.out.bs _ rfl ?_
          intro g4 p4 W4 hown4 hg4 hat4 hlt4
          have hko := HG10.out.box2 hg4
          have HQ4 := Lib.hid (HG10.out.set2 hown4 hg4 (hat4.elim (fun e => .inl e.symm) (fun e => .inr (congrArg some e))))
          have HBg : Hid (Below O w0 W4) := Lib.hid (HB10.out.grown hg4 HG10.out.bs (fun k hk => (HG10.out.n.lt k hk).1))
          have hH4 : W4.cell? ⟨O, 1, none⟩ = some (.slice A2 N1.length c2) ∧ W4.cell? ⟨b, o + k * 3, none⟩ = some (.string x.label) := ⟨hko.cell 1 rfl, (HBg.out.cell (p := ⟨b, o + k * 3, none⟩) HBB.out).trans HEW.out⟩
          refine hK _ _ (fun _ => ?_) ?_
          · exact hH4
          clear hK K hHeld hown4 hg4 hat4 hlt4
          have hHeld := hH4
          try simp only [Act.put, List.setIfInBounds_toArray, List.set_cons_zero, List.set_cons_succ]
          refine wpAnyE_take (i := 9) (oi := ⟨some 68, Op.fieldAddr 36 (Operand.tmp 7) 1, 0, _, _, _⟩) (v := ?_) rfl (by kernel_rfl) (by kernel_rfl) (by kernel_rfl) (by kernel_rfl) (by kernel_rfl) (fun _ _ _ h => h) (by rfl) ?hya9 hHeld ?hra9
          case hya9 => (intro wS hSw; (try dsimp only at hSw); go_simp; (try with_reducible rfl))
          all_goals try (simp only [Act.put, List.setIfInBounds_toArray, List.set_cons_zero, List.set_cons_succ])
          refine wpAnyD_one (i := 10) (oi := ⟨none, Op.store 22 (Operand.tmp 68) (Operand.tmp 67), 0, _, _, _⟩) rfl (by kernel_rfl) (by rfl) (fun K hK => ?_)
          have k91 := hko.cell 1 rfl
          have f91 := hko.fz
          go_simp
          refine hK _ _ (fun h => absurd h (by decide)) ?_
          clear hK K
          try simp only [Act.put, List.setIfInBounds_toArray, List.set_cons_zero, List.set_cons_succ]
          refine wpAnyD_done (by kernel_rfl) ?_ _
          unfold Exit.then
          clear hH4 hHeld k91 f91 hko
          obtain ⟨hlg, hbl⟩ := HQ4.out
          have HG11 := Lib.hid hlg
          have HB11 : Hid (Below O w0 (W4.setCell ⟨O, 1, none⟩ (.slice (some ⟨g4, 0, none⟩) (N1.length + 1) p4))) := Lib.hid (HB10.out.trans hbl)
          clear hlg hbl HQ4 HG10 HB10 HLT HBg
          generalize W4.setCell ⟨O, 1, none⟩ (.slice (some ⟨g4, 0, none⟩) (N1.length + 1) p4) = W5 at *
          go_wp2_with fail
          go_roundw
          case rel => exact ⟨k + 1, _, _, by omega, by go_num, Lib.hid (by rw [← HQ1.out, HAT.out, HAO.out]; exact HG11.out), HB11⟩
          case measure => simp [intOf]; omega
    · obtain rfl : k = l.length := by omega
      have HGe : Hid (LG wr O O v1 v2 (addAll branch (L, N) l).1 (addAll branch (L, N) l).2) := Lib.hid (by have := HGr.out; rwa [List.take_length] at this)
      have hz := HZ0.out
      have hoe := HOE.out
      have HR : Hid (ABox wr (w.heap.size + 1) 36 [.slice none 0 0, .slice none 0 0]) := Lib.hid ((HBr.out.block _ (by omega)).trans HX2.out)
      have k0 := HGe.out.o.cell 0 rfl
      have k1 := HGe.out.o.cell 1 rfl
      have r0 := HR.out.cell 0 rfl
      have r1 := (HR.out.set 0 v1).cell 1 rfl
      have rf := HR.out.fz
      have rf2 := (HR.out.set 0 v1).fz
      have HRR := Lib.hid ((HR.out.set 0 v1).set 1 v2)
      obtain ⟨A5, c5, e5, -⟩ := HGe.out.l.form
      obtain ⟨A6, c6, e6, -⟩ := HGe.out.n.form
      clear HGr HR
      obtain ⟨q, hqe⟩ : ∃ q, q = addAll branch (L, N) l := ⟨_, rfl⟩
      have HQE := Lib.hid hqe.symm
      rw [← hqe] at HGe e5 e6
      clear hqe
      clear hoe hz
      subst e5 e6
      go_wp2_with fail
      have hz := HZ0.out
      have hoe := HOE.out
      have hkk : ∀ g, O ≤ g → ((wr.setCell ⟨w.heap.size + 1, 0, none⟩ (.slice A5 q.1.length c5)).setCell ⟨w.heap.size + 1, 1, none⟩ (.slice A6 q.2.length c6)).heap[g]? = wr.heap[g]? := fun g hg => (heap_set _ _ _ _ (by omega)).trans (heap_set _ _ _ _ (by omega))
      refine bodyPost_ret (v := .agg #[.slice A5 q.1.length c5, .slice A6 q.2.length c6]) (results_cell_row Tryd.results14 _ _ (w.heap.size + 1) _ _ (0, 0) _ rfl HRR.out Tryd.underlying36 rfl (by kernel_rfl)) rfl ⟨_, _, rfl, ?_, ?_, ?_⟩
      · rw [HQE.out]; exact (own_keepH HGe.out.l (fun g hg => hkk g (HGe.out.l.lt g hg).1)).re (by omega)
      · rw [HQE.out]; exact (own_keepS HGe.out.n (fun g hg => hkk g (HGe.out.n.lt g hg).1)).re (by omega)
      · exact ((HB0.out.trans (HBr.out.mono (by omega))).setCell (p := ⟨_, 0, none⟩) (by show _ ≤ w.heap.size + 1; omega) _).setCell (p := ⟨_, 1, none⟩) (by show _ ≤ w.heap.size + 1; omega) _
end Go.Proofs.YthcklfelofpffaaDoor
