/- The leaf of a sheet. No condition but sizes and what the table holds. -/
import Derived.Test.YthcklfelofpffaaDoorCerW9
namespace Go.Proofs.YthcklfelofpffaaDoor
open Go.RowKit
instance : Rep ByteArray where
  size := 1
  R _ _ cs s := cs = [.string s]
  len h := by subst h; rfl
  one h := by subst h; intro u hu; simp at hu; subst hu; rfl
  keep h _ := h
  mono h _ := h
structure Sheet where
  label : ByteArray
  body : List ByteArray
  notes : List ByteArray
/-- The encoding of a sheet of a branch. -/
def sheetB (branch : Int) (s : Sheet) : List UInt8 := intB branch ++ textB s.label ++ textsB s.body ++ textsB s.notes
def leafOf (branch : Int) (s : Sheet) : List UInt8 := leafH (sheetB branch s)
/-- The walk's state. -/
structure LS (w wr : World) (P R : Nat) (v : Value) (l : List UInt8) : Prop where
  eR : R = w.heap.size + 1
  eP : P = w.heap.size + 2
  ws : WS wr P (P + 1) v l
  r : ABox wr R 29 (zer32.map encB)
  b : Below w.heap.size w wr
theorem LS.mov {w wr w' : World} {P R : Nat} {v v' : Value} {l l' : List UInt8} (h : LS w wr P R v l) (hw : WS w' P (P + 1) v' l') (hm : Mov wr P v w' v') : LS w w' P R v' l' := by
  have h1 := h.eR; have h2 := h.eP
  exact ⟨h1, h2, hw, (hm.block R h.r.lt (by omega) (fun e => by have := (h.ws.own.lt R e.symm).1; omega)).trans h.r, hm.below h.b h.b.size (by omega) (fun g hg => by have := (h.ws.own.lt g hg).1; omega)⟩
theorem LS.to {w wr w' : World} {P R : Nat} {v : Value} {l : List UInt8} (h : LS w wr P R v l) (hb : Below wr.heap.size wr w') : LS w w' P R v l :=
  ⟨h.eR, h.eP, ⟨h.ws.p.to hb, h.ws.own.below hb, h.ws.lt, Nat.le_trans h.ws.bs hb.size⟩, h.r.to hb, h.b.trans (hb.mono h.b.size)⟩
/-- A block that is neither the writer nor its row. -/
structure QS (wr : World) (P Q : Nat) (v : Value) (t : TypeId) (cs : List Value) : Prop where
  q : ABox wr Q t cs
  np : Q ≠ P
  nr : some Q ≠ v.ownBlock
theorem QS.mov {wr w' : World} {P Q : Nat} {v v' : Value} {t : TypeId} {cs : List Value} (h : QS wr P Q v t cs) (hm : Mov wr P v w' v') : QS w' P Q v' t cs := by
  refine ⟨(hm.block Q h.q.lt h.np h.nr).trans h.q, h.np, ?_⟩
  rcases hm.row with e | e
  · rw [e]; exact h.nr
  · intro he; have := e Q he.symm; have := h.q.lt; omega
def partsB (s : Sheet) : Nat → List UInt8
  | 0 => []
  | 1 => textsB s.body
  | _ => textsB s.body ++ textsB s.notes
theorem flat_take (L : List ByteArray) (j : Nat) (h : j < L.length) : (L.take (j + 1)).flatMap textB = (L.take j).flatMap textB ++ textB L[j] := by
  rw [List.take_succ_eq_append_getElem h, List.flatMap_append]; simp
theorem flat_le (L : List ByteArray) (j : Nat) : ((L.take j).flatMap textB).length ≤ (L.flatMap textB).length := by
  conv => rhs; rw [← List.take_append_drop j L]
  rw [List.flatMap_append, List.length_append]; omega
theorem uintB_pos (n : Nat) : 1 ≤ (uintB n).length := by
  unfold uintB uintF; split <;> simp
theorem flat_ge : ∀ (L : List ByteArray), L.length ≤ (L.flatMap textB).length
  | [] => by simp
  | s :: L => by
    rw [List.flatMap_cons, List.length_append, List.length_cons]
    have h1 := flat_ge L
    have h2 : 1 ≤ (textB s).length := by unfold textB; rw [List.length_append]; have := uintB_pos s.size; omega
    omega
theorem textB_size (s : ByteArray) : s.size ≤ (textB s).length := by
  have : s.data.toList.length = s.size := by rw [Array.length_toList]; rfl
  unfold textB; rw [List.length_append, this]; omega
theorem str_at {w : World} {S : Nat → Prop} {A : Option Addr} {c : Nat} {l : List ByteArray} (h : Sl w S A c l) {k : Nat} (hk : k < l.length) :
    ∃ b o, A = some ⟨b, o, none⟩ ∧ S b ∧ b < w.heap.size ∧ w.cell? ⟨b, o + k, none⟩ = some (.string l[k]) := by
  obtain ⟨b, o, es, rfl, hb, hlt, he, hc⟩ := h.at_ hk
  have he' : es = [.string l[k]] := he
  subst he'
  have := hc 0 _ rfl
  exact ⟨b, o, rfl, hb, hlt, by simpa [Rep.size] using this⟩
theorem sheetB_parts (branch : Int) (s : Sheet) : sheetB branch s = intB branch ++ textB s.label ++ partsB s 2 := by
  unfold sheetB partsB; simp [List.append_assoc]
/-- The list of part k. -/
theorem part_of {wr w : World} {Q P : Nat} {v : Value} {s : Sheet} {A B : Option Addr} {c d : Nat} (hq : QS wr P Q v 22 [.slice A s.body.length c, .slice B s.notes.length d]) (ha : Sl w (fun b => b < w.heap.size) A c s.body) (hb : Sl w (fun b => b < w.heap.size) B d s.notes) (k : Nat) (hk : k < 2) :
    ∃ (L : List ByteArray) (AL : Option Addr) (cL : Nat), wr.cell? ⟨Q, k, none⟩ = some (.slice AL L.length cL) ∧ Sl w (fun b => b < w.heap.size) AL cL L ∧ partsB s (k + 1) = partsB s k ++ textsB L ∧ (partsB s (k + 1)).length ≤ (partsB s 2).length := by
  have : k = 0 ∨ k = 1 := by omega
  rcases this with rfl | rfl
  · exact ⟨s.body, A, c, hq.q.cell 0 rfl, ha, rfl, by unfold partsB; simp⟩
  · exact ⟨s.notes, B, d, hq.q.cell 1 rfl, hb, rfl, Nat.le_refl _⟩
set_option maxRecDepth 100000 in
set_option maxHeartbeats 4000000 in
theorem leafS_any (branch : Int) (s : Sheet) (A B : Option Addr) (c d : Nat) (w : World) (hbr : I64 branch) (ha : Sl w (fun b => b < w.heap.size) A c s.body) (hb : Sl w (fun b => b < w.heap.size) B d s.notes) (hsz : (sheetB branch s).length ≤ 1073740000) (hK : KLaid w) :
    Calls Tryd.prog 11 #[.int .i64 branch, .agg #[.string s.label, .slice A s.body.length c, .slice B s.notes.length d]] w fun e w' => e = .returned (hashV (leafOf branch s)) ∧ Below w.heap.size w w' := by
  have HA := Lib.hid ha
  have HB := Lib.hid hb
  have HK := Lib.hid hK
  have HBR := Lib.hid hbr
  have HSZ := Lib.hid hsz
  clear ha hb hK hbr hsz
  go_enter Tryd.func11, Tryd.ntmps11
  go_upto_region 2 with (fail)
  generalize hw1 : (World.alloc (World.alloc (World.alloc w _) _) _) = w1
  have HLS : Hid (LS w w1 (w.heap.size + 2) (w.heap.size + 1) (.slice none 0 0) []) := by
    subst hw1
    exact Lib.hid ⟨rfl, rfl, ⟨heap_at (by simp), Own.nil _ _ _, by omega, by simp⟩, (Below.heap_alloc _ _ _ (by simp)).trans (heap_at (by simp)), (((Below.refl _ _).alloc (Nat.le_refl _) _).alloc (by simp) _).alloc (by first | (simp; done) | (simp; omega)) _⟩
  have HD : Hid (ABox w1 w.heap.size 24 [.string s.label, .slice A s.body.length c, .slice B s.notes.length d]) := by
    subst hw1
    exact Lib.hid ((Below.heap_alloc _ _ _ (by first | (simp; done) | (simp; omega))).trans ((Below.heap_alloc _ _ _ (by simp)).trans (heap_at rfl)))
  clear hw1
  have eP : w.heap.size + 1 + 1 = w.heap.size + 2 := by omega
  rw [eP]
  clear eP
  generalize w.heap.size + 1 = R at *
  generalize w.heap.size + 2 = P at *
  have HQD : Hid (QS w1 P w.heap.size (.slice none 0 0) 24 [.string s.label, .slice A s.body.length c, .slice B s.notes.length d]) := Lib.hid ⟨HD.out, by have := HLS.out.eP; omega, by simp [Value.ownBlock]⟩
  have HTOT : Hid ((intB branch).length + (textB s.label).length + (partsB s 2).length ≤ 1073740000) := Lib.hid (by have := HSZ.out; rw [sheetB_parts] at this; simpa [List.length_append, Nat.add_assoc] using this)
  have HI := Lib.hid (int_any P (P + 1) _ [] branch w1 HLS.out.ws HBR.out (by simp))
  rw [List.nil_append] at HI
  clear HD
  go_wp2_with fail
  refine HI.out.mono ?_
  rintro e w2 ⟨rfl, v2, hws2, hmv2⟩
  have HLS2 := Lib.hid (HLS.out.mov hws2 hmv2)
  have HQD2 := Lib.hid (HQD.out.mov hmv2)
  clear hws2 hmv2 HLS HQD HI
  have HT := Lib.hid (text_any P (P + 1) v2 (intB branch) s.label w2 HLS2.out.ws (by have := HTOT.out; omega) (by have := HTOT.out; have := textB_size s.label; omega))
  have k0 := HQD2.out.q.cell 0 rfl
  go_wp2_with fail
  refine HT.out.mono ?_
  rintro e w3 ⟨rfl, v3, hws3, hmv3⟩
  have HLS3 := Lib.hid (HLS2.out.mov hws3 hmv3)
  have HQD3 := Lib.hid (HQD2.out.mov hmv3)
  clear hws3 hmv3 HLS2 HQD2 HT k0
  have k1 := HQD3.out.q.cell 1 rfl
  have k2 := HQD3.out.q.cell 2 rfl
  go_wp2_with fail
  have hba : Below w3.heap.size w3 (w3.alloc (.cells #[.slice A s.body.length c, .slice B s.notes.length d] 22)) := (Below.refl _ _).alloc (Nat.le_refl _) _
  have HQ : Hid (QS (w3.alloc (.cells #[.slice A s.body.length c, .slice B s.notes.length d] 22)) P w3.heap.size v3 22 [.slice A s.body.length c, .slice B s.notes.length d]) := Lib.hid ⟨heap_alloc_new w3 _, by have := HLS3.out.ws.p.lt; omega, fun e => by have := (HLS3.out.ws.own.lt _ e.symm).2; omega⟩
  have HLSa := Lib.hid (HLS3.out.to hba)
  clear hba HLS3 HQD3 k1 k2
  generalize (w3.alloc (.cells #[.slice A s.body.length c, .slice B s.notes.length d] 22)) = w4 at *
  generalize w3.heap.size = Q at *
  obtain ⟨pre, hpre⟩ : ∃ pre, pre = intB branch ++ textB s.label := ⟨_, rfl⟩
  have HPL : Hid (pre.length + (partsB s 2).length ≤ 1073740000) := Lib.hid (by have := HTOT.out; rw [hpre, List.length_append]; omega)
  have HE : Hid (leafOf branch s = leafH (pre ++ partsB s 2)) := Lib.hid (by rw [leafOf, sheetB_parts, hpre])
  have HLSb : Hid (LS w w4 P R v3 (pre ++ partsB s 0)) := Lib.hid (by rw [hpre, partsB, List.append_nil]; exact HLSa.out)
  clear HLSa hpre HTOT HSZ
  go_loopw [7, 9, 21] (fun _ _ i wr => ∃ (k : Nat) (v1 : Value), k ≤ 2 ∧ i = .int .i64 k ∧ Hid (LS w wr P R v1 (pre ++ partsB s k)) ∧ Hid (QS wr P Q v1 22 [.slice A s.body.length c, .slice B s.notes.length d])) (fun _ _ i _ => 2 - (intOf i).toNat)
  case atStart => exact ⟨0, v3, by omega, rfl, HLSb, HQ⟩
  case round =>
    obtain ⟨k, v1, hk, rfl, hls, hqs⟩ := hrel
    by_cases hlt : k < 2
    · have hlt2 : (k : Int) < 2 := by omega
      have hk0 : (0 : Int) ≤ (k : Int) := by omega
      obtain ⟨L, AL, cL, hcell, hsl, hpk, hple⟩ := part_of hqs.out HA.out HB.out k hlt
      have HSL := Lib.hid hsl
      have HPK := Lib.hid hpk
      have HLE : Hid ((pre ++ partsB s k).length + (textsB L).length ≤ 1073740000) := Lib.hid (by have h1 := HPL.out; have h2 := congrArg List.length hpk; rw [List.length_append] at h2 ⊢; omega)
      have hLL : L.length ≤ maxLen := by have h1 := hsl.1; have h2 := hsl.2.1; omega
      have hLL2 : L.length < 18446744073709551616 := by unfold maxLen at hLL; omega
      have HLL2 := Lib.hid hLL2
      clear hsl hpk hple hLL hLL2
      generalize hpk1 : partsB s (k + 1) = pk1 at *
      have HPK1 := Lib.hid hpk1
      clear hpk1
      obtain ⟨l0, hl0⟩ : ∃ l0, l0 = pre ++ partsB s k := ⟨_, rfl⟩
      have HL0 := Lib.hid hl0
      rw [← hl0] at hls HLE
      clear hl0
      have HU := Lib.hid (uint_any P (P + 1) v1 l0 L.length wr hls.out.ws HLL2.out (by have := HLE.out; omega))
      have hwl : IntKind.u64.wrap (L.length : Int) = (L.length : Int) := IntWalk.u64_in _ (by have := HLL2.out; omega)
      go_wp2_with fail
      refine HU.out.mono ?_
      rintro e w5 ⟨rfl, v5, hws5, hmv5⟩
      have HLS5 := Lib.hid (hls.out.mov hws5 hmv5)
      have HQ5 := Lib.hid (hqs.out.mov hmv5)
      clear hws5 hmv5 hls hqs HU hwl hcell
      go_wp2_with fail
      have hLb : (L.length : Int) ≤ 1073740000 := by
        have h1 := HLE.out; have h2 := flat_ge L
        have h3 : (textsB L).length = (uintB L.length).length + (L.flatMap textB).length := by unfold textsB; rw [List.length_append]
        omega
      obtain ⟨wo, rfl⟩ : ∃ wo : World, wo = wr := ⟨_, rfl⟩
      go_loopw [9, 31] (fun _ i wr => ∃ (j : Nat) (v1 : Value), j ≤ L.length ∧ i = .int .i64 j ∧ Hid (LS w wr P R v1 (l0 ++ uintB L.length ++ (L.take j).flatMap textB)) ∧ Hid (QS wr P Q v1 22 [.slice A s.body.length c, .slice B s.notes.length d])) (fun _ i _ => L.length - (intOf i).toNat)
      case atStart => exact ⟨0, v5, by omega, rfl, by rw [List.take_zero, List.flatMap_nil, List.append_nil]; exact HLS5, HQ5⟩
      case round =>
        obtain ⟨j, v6, hj, rfl, hls6, hqs6⟩ := hrel
        by_cases hjl : j < L.length
        · have hjl2 : (j : Int) < (L.length : Int) := by omega
          have hj0 : (0 : Int) ≤ (j : Int) := by omega
          obtain ⟨bL, oL, rfl, _, _, hx⟩ := str_at (HSL.out.to hls6.out.b) hjl
          have HFT := Lib.hid (flat_take L j hjl)
          have HFL := Lib.hid (flat_le L (j + 1))
          have HTB : Hid ((textsB L).length = (uintB L.length).length + (L.flatMap textB).length) := Lib.hid (by unfold textsB; rw [List.length_append])
          generalize L[j] = x at *
          have HXB := Lib.hid (textB_size x)
          obtain ⟨l6, hl6⟩ : ∃ l6, l6 = l0 ++ uintB L.length ++ (L.take j).flatMap textB := ⟨_, rfl⟩
          have HB6 : Hid (l6.length + (textB x).length ≤ 1073740000) := Lib.hid (by
            have h1 := HLE.out; have h2 := congrArg List.length HFT.out; have h3 := HFL.out; have h4 := HTB.out
            rw [List.length_append] at h2
            rw [hl6, List.length_append, List.length_append]; omega)
          have HL6 : Hid (l0 ++ uintB L.length ++ (L.take (j + 1)).flatMap textB = l6 ++ textB x) := Lib.hid (by rw [HFT.out, hl6, List.append_assoc, List.append_assoc, List.append_assoc])
          rw [← hl6] at hls6
          have HTX := Lib.hid (text_any P (P + 1) v6 l6 x wr hls6.out.ws (by have := HB6.out; omega) (by have := HB6.out; have := HXB.out; omega))
          clear hl6
          go_wp2_with fail
          refine HTX.out.mono ?_
          rintro e w7 ⟨rfl, v7, hws7, hmv7⟩
          have HLS7 := Lib.hid (hls6.out.mov hws7 hmv7)
          have HQ7 := Lib.hid (hqs6.out.mov hmv7)
          clear hws7 hmv7 hls6 hqs6 HTX hx
          go_wp2_with fail
          first
            | exact ⟨⟨j + 1, v7, by omega, by simp, by rw [HL6.out]; exact HLS7, HQ7⟩, by simp [intOf]; omega⟩
            | fail
        · obtain rfl : j = L.length := by omega
          have HLS8 : Hid (LS w wr P R v6 (pre ++ partsB s (k + 1))) := Lib.hid (by
            have h := hls6.out
            rw [List.take_length, HL0.out, List.append_assoc] at h
            rw [HPK1.out, HPK.out, ← List.append_assoc]; exact h)
          have HQ8 := Lib.hid hqs6.out
          clear hls6 hqs6
          go_wp2_with fail
          first
            | exact ⟨⟨k + 1, v6, by omega, by simp, HLS8, HQ8⟩, by simp [intOf]; omega⟩
            | fail
    · obtain rfl : k = 2 := by omega
      have HDN := Lib.hid (done_any P (P + 1) v1 _ wr hls.out.ws (by have := HPL.out; rw [List.length_append]; omega))
      have HLS9 := Lib.hid hls.out
      clear hls hqs
      go_wp2_with fail
      refine HDN.out.mono ?_
      rintro e w7 ⟨v7, rfl, hown7, hb7⟩
      obtain ⟨A7, c7, rfl, hs7⟩ := hown7.sl
      have HR7 := Lib.hid (HLS9.out.r.to hb7)
      have HB7 := Lib.hid (HLS9.out.b.trans (hb7.mono HLS9.out.b.size))
      have HRL : Hid (w.heap.size ≤ R) := Lib.hid (by have := HLS9.out.eR; omega)
      have HLF := Lib.hid (leaf_any _ A7 _ c7 w7 hs7 rfl (by have := HPL.out; rw [List.length_append]; omega) (HK.out.to HB7.out))
      have HE2 := Lib.hid HE.out
      generalize pre ++ partsB s 2 = enc at *
      clear hown7 hs7 hb7 HLS9 HDN HE HPL HLSb
      go_wp2_with fail
      refine HLF.out.mono ?_
      rintro e w8 ⟨rfl, hb8⟩
      have HB8 := Lib.hid (below_setRow (HB7.out.trans (hb8.mono HB7.out.size)) (R := R) HRL.out ((leafH enc).map encB).toArray)
      have hr8 : w8.heap[R]? = some (.cells (zer32.map encB).toArray 29 (0, 0)) := HR7.out.to hb8
      have HX := Lib.hid (setRow_heap w8 R _ ((leafH enc).map encB).toArray _ _ hr8)
      have HSZ := Lib.hid (hash_size (sha_length (0 :: enc)))
      have HC1 := Lib.hid (hash_all (leafH enc))
      have HRZ : Hid ((zer32.map encB).toArray.size = 32) := Lib.hid rfl
      have HRE : Hid (hashV (leafOf branch s) = .agg ((leafH enc).map encB).toArray) := Lib.hid (by rw [HE2.out]; rfl)
      have hlf : hashV (leafH enc) = .agg ((leafH enc).map encB).toArray := rfl
      rw [hlf]
      have HSZ2 : Hid (((leafH enc).map encB).toArray.size = 32) := HSZ
      clear hb8 HR7 HB7 HLF hlf HSZ HE2
      generalize ((leafH enc).map encB).toArray = cs at *
      generalize (zer32.map encB).toArray = zs at *
      go_wp2_with (first
        | (refine wpList_store_row rfl 29 (.tmp 4) (.tmp 41) rfl R cs rfl rfl 29 zs hr8 (by rw [HSZ2.out]; kernel_rfl) (by rw [HRZ.out, HSZ2.out]) HC1.out ?_)
        | fail)
      exact bodyPost_ret (v := .agg cs) (results_cell_row Tryd.results11 _ _ R _ cs (0, 0) _ rfl HX.out Tryd.underlying29 rfl (by rw [HSZ2.out]; kernel_rfl)) rfl ⟨by rw [HRE.out], HB8.out⟩
end Go.Proofs.YthcklfelofpffaaDoor
