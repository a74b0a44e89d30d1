/- The Reader of package wire: a new one; strings in a row. No condition but sizes.
CertifyEncodes, walked. No condition but what the table holds.
CertifyEncodes, walked: the parts. No condition but what the table holds.
CertifyEncodes, walked. No condition but what the table holds.
A slice as an argument, read as plain data, whatever its elements are; its length against the bulk of what is read. No condition.
Numbers, lists of numbers and lists of these as arguments, read as plain data. No condition.
CertifyEncodes: the card holds, for every argument. No condition. -/
import Derived.Test.YthcklfelofpffaaDoorCPc11
import Derived.Deep.Slices
import Derived.Deep.Fields
import Derived.ChangeSame
import Derived.ChangeMaps5
import Derived.OpenShut
namespace Go.Proofs.YthcklfelofpffaaDoor
open Go.RowKit

set_option maxRecDepth 100000 in
set_option maxHeartbeats 4000000 in
theorem newreader_any (A : Option Addr) (c n : Nat) (l : List UInt8) (w : World) (hl : Sl w (fun b => b < w.heap.size) A c l) (hn : l.length = n) (hsz : n ≤ 1073741824) :
    Calls Tryd.prog 37 #[.slice A n c] w fun e w' => ∃ P A' c', e = .returned (.pointer (some ⟨P, 0, none⟩)) ∧ RS w' P A' c' l ∧ Below w.heap.size w w' ∧ w.heap.size ≤ P := by
  have HC := Lib.hid (bclone_any A c n l w hl hn (by omega))
  have HN := Lib.hid hn
  clear hl hn
  go_enter Tryd.func37, Tryd.ntmps37
  go_wp2_with fail
  refine HC.out.mono ?_
  rintro e w2 ⟨v2, rfl, ho2, hb2⟩
  obtain ⟨A2, c2, rfl, hs2⟩ := ho2.sl
  have HS2 := Lib.hid hs2
  have HB2 := Lib.hid hb2
  clear ho2 hs2 hb2
  go_wp2_with fail
  go_ret
  have hba : Below w2.heap.size w2 (w2.alloc (.cells #[.slice A2 l.length c2, .int .i64 0] 104)) := (Below.refl _ _).alloc (Nat.le_refl _) _
  exact ⟨w2.heap.size, A2, c2, rfl, ⟨heap_alloc_new w2 _, HS2.out.keep (Kept.all hba) hba.size⟩, HB2.out.trans (hba.mono HB2.out.size), HB2.out.size⟩
theorem RS.frame {W W' : World} {P : Nat} {A : Option Addr} {c : Nat} {l : List UInt8} (h : RS W P A c l) (hk : ∀ g, g ≤ P → W'.heap[g]? = W.heap[g]?) (hsz : W.heap.size ≤ W'.heap.size) : RS W' P A c l := by
  refine ⟨(hk P (Nat.le_refl _)).trans h.box, h.sl.keep (fun i hi _ => hk i (Nat.le_of_lt hi)) hsz⟩
set_option maxRecDepth 100000 in
set_option maxHeartbeats 4000000 in
theorem rdtexts_any (P : Nat) (A : Option Addr) (c : Nat) (L : List ByteArray) (rest l : List UInt8) (w : World) (hL : L.length ≤ 100) (hL2 : ∀ x ∈ L, x.size ≤ 1000) (hl : l = textsB L ++ rest) (hs : l.length ≤ 1073741824) (h : RS w P A c l) :
    Calls Tryd.prog 40 #[.pointer (some ⟨P, 0, none⟩)] w fun e w' => ∃ v, e = .returned v ∧ Own w' w.heap.size 9 v L ∧ (∃ A' c', RS w' P A' c' rest) ∧ Out (OP P) w w' := by
  have HU := Lib.hid (rduint_any P A c L.length (L.flatMap textB ++ rest) l w (by omega) (by rw [hl]; unfold textsB; rw [List.append_assoc]) hs h)
  have HL2 := Lib.hid hL2
  have HPL : Hid (P < w.heap.size) := Lib.hid h.box.lt
  have HLS : Hid ((L.flatMap textB ++ rest).length ≤ 1073741824) := Lib.hid (by
    have := congrArg List.length hl
    unfold textsB at this
    simp only [List.length_append] at this ⊢; omega)
  clear hl hs h hL2
  go_enter Tryd.func40, Tryd.ntmps40
  go_wp2_with fail
  refine HU.out.mono ?_
  rintro e w2 ⟨rfl, A', c', hr, ho⟩
  have HR := Lib.hid hr
  have HO := Lib.hid ho
  clear hr ho HU
  go_wp2_with fail
  go_loopw [3, 5] (fun v i wr => ∃ (k : Nat) (A1 : Option Addr) (c1 : Nat), k ≤ L.length ∧ i = .int .u64 k ∧ Hid (Own wr w.heap.size 9 v (L.take k)) ∧ Hid (RS wr P A1 c1 ((L.drop k).flatMap textB ++ rest)) ∧ Hid (Out (OP P) w wr)) (fun v i _ => L.length - (intOf i).toNat)
  case atStart => exact ⟨0, A', c', Nat.zero_le _, rfl, Lib.hid (by rw [List.take_zero]; exact Own.nil _ _ _), Lib.hid (by rw [List.drop_zero]; exact HR.out), HO⟩
  case round =>
    obtain ⟨k, A1, c1, hk, rfl, HV, HRk, HOk⟩ := hrel
    by_cases hlt : k < L.length
    · have hkl : (k : Int) < (L.length : Int) := by omega
      have hk1 : (k : Int) < 100 := by omega
      have hk0 : (0 : Int) ≤ (k : Int) := by omega
      have HT := Lib.hid (rdtext_any P A1 c1 L[k] 1000 ((L.drop (k + 1)).flatMap textB ++ rest) _ wr (HL2.out _ (List.getElem_mem hlt)) (by decide) (by rw [List.drop_eq_getElem_cons hlt, List.flatMap_cons, List.append_assoc]) (by
        have h1 := HLS.out
        have h2 : ((L.drop k).flatMap textB).length ≤ (L.flatMap textB).length := by
          conv => rhs; rw [← List.take_append_drop k L]
          rw [List.flatMap_append, List.length_append]; omega
        rw [List.length_append] at h1 ⊢; omega) HRk.out)
      obtain ⟨x, hx⟩ : ∃ x, x = L[k] := ⟨_, rfl⟩
      rw [← hx] at HT
      have HX := Lib.hid hx
      obtain ⟨A3, c3, rfl, -⟩ := HV.out.form
      clear hx
      go_wp2_with fail
      refine HT.out.mono ?_
      rintro e w3 ⟨rfl, A4, c4, hr3, ho3⟩
      have HV3 : Hid (Own w3 w.heap.size 9 (.slice A3 (L.take k).length c3) (L.take k)) := Lib.hid (own_keepS HV.out (fun g hg => by
        have := HV.out.lt g hg
        exact ho3.block g this.2 (by have := HPL.out; intro e; have : g = P := e; omega)))
      have HO3 := Lib.hid (HOk.out.trans ho3)
      have HR3 := Lib.hid hr3
      clear ho3 hr3 HT
      have hal : Below w3.heap.size w3 (w3.alloc (.cells #[.string x] 9)) := (Below.refl _ _).alloc (Nat.le_refl _) _
      have HVA := Lib.hid (HV3.out.alloc (.cells #[.string x] 9))
      have HHA : Hid ((w3.alloc (.cells #[.string x] 9)).heap[w3.heap.size]? = some (.cells #[.string x] 9 (0, 0))) := Lib.hid (heap_alloc_new w3 _)
      have HTL : Hid ((L.take k).length = k) := Lib.hid (by rw [List.length_take]; omega)
      have HXE : Hid (L.take k ++ [x] = L.take (k + 1)) := Lib.hid (by rw [HX.out, List.take_succ_eq_append_getElem hlt])
      obtain ⟨lk, hlk⟩ : ∃ lk, lk = L.take k := ⟨_, rfl⟩
      rw [← hlk] at HV3 HVA HTL HXE
      rw [show (L.take k).length = lk.length by rw [hlk]]
      clear hlk hal
      go_wp2_with (first
        | (at_builtin; refine wpList_push (α := ByteArray) _ rfl (.tmp 17) (.tmp 20) 22 rfl w.heap.size 9 (.string ⟨#[]⟩) 16 Tryd.underlying22 s_info rfl (by decide) (.slice A3 lk.length c3) lk rfl HVA.out w3.heap.size #[.string x] x (0, 0) 9 rfl HHA.out rfl (by have := HTL.out; omega) (by have := HTL.out; omega) (by have := HO3.out.size; simp; omega) _ rfl ?_; intro g5 p5 w5 hown5 hg5 hat5 hlt5)
        | fail)
      have hge : ∀ g, g < w.heap.size → w5.heap[g]? = w3.heap[g]? := fun g hg => by
        have h1 : g < w3.heap.size := by have := HO3.out.size; omega
        rw [hg5.block g (by simp; omega) (fun e => by have := (HV3.out.lt g e.symm).1; omega)]
        exact Below.heap_alloc w3 _ g h1
      have hsz5 : w3.heap.size ≤ w5.heap.size := by have := hg5.size; simp at this; omega
      rw [HXE.out] at hown5
      go_roundw
      case rel => exact ⟨k + 1, A4, c4, by omega, by go_num, Lib.hid hown5, Lib.hid (HR3.out.frame (fun g hg => hge g (by have := HPL.out; omega)) hsz5), Lib.hid ⟨hg5.os.trans HO3.out.os, hg5.tape.trans HO3.out.tape, hg5.output.trans HO3.out.output, Nat.le_trans HO3.out.size hsz5, fun g hg hf => (hge g hg).trans (HO3.out.block g hg hf)⟩⟩
      case measure => (simp [intOf]; omega)
    · have hkl : ¬ (k : Int) < (L.length : Int) := by omega
      obtain rfl : k = L.length := by omega
      have HV2 := Lib.hid HV.out
      rw [List.take_length] at HV2
      have HR2 := Lib.hid HRk.out
      rw [List.drop_length, List.flatMap_nil, List.nil_append] at HR2
      clear HV HRk
      go_wp2_with fail
      go_ret
      exact ⟨_, rfl, HV2.out, ⟨A1, c1, HR2.out⟩, HOk.out⟩
end Go.Proofs.YthcklfelofpffaaDoor
namespace Go.Proofs.YthcklfelofpffaaDoor
open Go.RowKit
set_option maxRecDepth 100000 in
set_option maxHeartbeats 4000000 in
theorem samesheet_any (lab : ByteArray) (L N : List ByteArray) (A1 B1 A2 B2 : Option Addr) (c1 d1 c2 d2 : Nat) (w : World) (h1 : Sl w (fun b => b < w.heap.size) A1 c1 L) (h2 : Sl w (fun b => b < w.heap.size) B1 d1 N) (h3 : Sl w (fun b => b < w.heap.size) A2 c2 L) (h4 : Sl w (fun b => b < w.heap.size) B2 d2 N) :
    Calls Tryd.prog 42 #[.agg #[.string lab, .slice A1 L.length c1, .slice B1 N.length d1], .agg #[.string lab, .slice A2 L.length c2, .slice B2 N.length d2]] w fun e w' => e = .returned (.bool true) ∧ Below w.heap.size w w' := by
  have hba : Below w.heap.size w ((w.alloc (.cells #[.string lab, .slice A1 L.length c1, .slice B1 N.length d1] 24)).alloc (.cells #[.string lab, .slice A2 L.length c2, .slice B2 N.length d2] 24)) := ((Below.refl _ _).alloc (Nat.le_refl _) _).alloc (by simp) _
  have HX1 : Hid (ABox ((w.alloc (.cells #[.string lab, .slice A1 L.length c1, .slice B1 N.length d1] 24)).alloc (.cells #[.string lab, .slice A2 L.length c2, .slice B2 N.length d2] 24)) w.heap.size 24 [.string lab, .slice A1 L.length c1, .slice B1 N.length d1]) := Lib.hid (by unfold ABox; rw [Below.heap_alloc _ _ _ (by simp)]; exact heap_alloc_new w _)
  have HX2 : Hid (ABox ((w.alloc (.cells #[.string lab, .slice A1 L.length c1, .slice B1 N.length d1] 24)).alloc (.cells #[.string lab, .slice A2 L.length c2, .slice B2 N.length d2] 24)) (w.heap.size + 1) 24 [.string lab, .slice A2 L.length c2, .slice B2 N.length d2]) := Lib.hid (heap_at (by simp))
  have HS : Hid (∀ W, Below ((w.alloc (.cells #[.string lab, .slice A1 L.length c1, .slice B1 N.length d1] 24)).alloc (.cells #[.string lab, .slice A2 L.length c2, .slice B2 N.length d2] 24)).heap.size ((w.alloc (.cells #[.string lab, .slice A1 L.length c1, .slice B1 N.length d1] 24)).alloc (.cells #[.string lab, .slice A2 L.length c2, .slice B2 N.length d2] 24)) W →
      (Calls Tryd.prog 51 #[.slice A1 L.length c1, .slice A2 L.length c2] W fun e w' => e = .returned (.bool true) ∧ Below W.heap.size W w') ∧ (Calls Tryd.prog 51 #[.slice B1 N.length d1, .slice B2 N.length d2] W fun e w' => e = .returned (.bool true) ∧ Below W.heap.size W w')) := Lib.hid (fun W hW => by
    have a := same_strings A1 A2 c1 c2 L L W ((h1.to hba).to hW) ((h3.to hba).to hW)
    have b := same_strings B1 B2 d1 d2 N N W ((h2.to hba).to hW) ((h4.to hba).to hW)
    rw [decide_eq_true rfl] at a b
    exact ⟨a, b⟩)
  have HB := Lib.hid hba
  have hq : (lab.toList == lab.toList) = true := by simp
  clear hba h1 h2 h3 h4
  go_enter Tryd.func42, Tryd.ntmps42
  go_upto_region 1 with (fail)
  generalize hw1 : World.alloc (World.alloc w _) _ = w1
  have hw2 : ((w.alloc (.cells #[.string lab, .slice A1 L.length c1, .slice B1 N.length d1] 24)).alloc (.cells #[.string lab, .slice A2 L.length c2, .slice B2 N.length d2] 24)) = w1 := hw1
  rw [hw2] at HX1 HX2 HB HS
  clear hw1 hw2
  generalize w.heap.size + 1 = R2 at *
  obtain ⟨R1, hR1⟩ : ∃ R, R = w.heap.size := ⟨_, rfl⟩
  rw [← hR1] at HX1 ⊢
  have HR1 := Lib.hid hR1
  clear hR1
  have a0 := HX1.out.cell 0 rfl
  have a1 := HX1.out.cell 1 rfl
  have b0 := HX2.out.cell 0 rfl
  have b1 := HX2.out.cell 1 rfl
  go_wp2_with fail
  refine (HS.out w1 (Below.refl _ _)).1.mono ?_
  rintro e w2 ⟨rfl, hb2⟩
  have a2 := (HX1.out.to hb2).cell 2 rfl
  have b2 := (HX2.out.to hb2).cell 2 rfl
  have HB2 := Lib.hid hb2
  clear hb2 a0 a1 b0 b1
  go_wp2_with fail
  refine (HS.out w2 HB2.out).2.mono ?_
  rintro e w3 ⟨rfl, hb3⟩
  have HB3 := Lib.hid (HB.out.trans ((HB2.out.trans (hb3.mono HB2.out.size)).mono HB.out.size))
  clear hb3 a2 b2
  go_wp2_with fail
  go_ret
  exact ⟨rfl, HB3.out⟩
end Go.Proofs.YthcklfelofpffaaDoor
namespace Go.Proofs.YthcklfelofpffaaDoor
open Go.RowKit
/-- The walk's state: the sheet's box, and a writer above it. -/
structure ES (w wr : World) (P R : Nat) (cs : List Value) (v : Value) (l : List UInt8) : Prop where
  eP : P = R + 1
  hR : w.heap.size ≤ R
  ws : WS wr P (P + 1) v l
  r : ABox wr R 24 cs
  b : Below w.heap.size w wr
theorem ES.mov {w wr w' : World} {P R : Nat} {cs : List Value} {v v' : Value} {l l' : List UInt8} (h : ES w wr P R cs v l) (hw : WS w' P (P + 1) v' l') (hm : Mov wr P v w' v') : ES w w' P R cs v' l' := by
  have h1 := h.eP; have h2 := h.hR
  exact ⟨h1, h2, hw, (hm.block R h.r.lt (by omega) (fun e => by have := (h.ws.own.lt R e.symm).1; omega)).trans h.r, hm.below h.b h.b.size (by omega) (fun g hg => by have := (h.ws.own.lt g hg).1; omega)⟩
theorem ES.to {w wr w' : World} {P R : Nat} {cs : List Value} {v : Value} {l : List UInt8} (h : ES w wr P R cs v l) (hb : Below wr.heap.size wr w') : ES w w' P R cs v l :=
  ⟨h.eP, h.hR, ⟨h.ws.p.to hb, h.ws.own.below hb, h.ws.lt, Nat.le_trans h.ws.bs hb.size⟩, h.r.to hb, h.b.trans (hb.mono h.b.size)⟩
theorem part_cs {w : World} {s : Sheet} {A B : Option Addr} {c d : Nat} (ha : Sl w (fun b => b < w.heap.size) A c s.body) (hb : Sl w (fun b => b < w.heap.size) B d s.notes) (k : Nat) (hk : k < 2) :
    ∃ (L : List ByteArray) (AL : Option Addr) (cL : Nat), ([.slice A s.body.length c, .slice B s.notes.length d] : List Value)[k]? = some (.slice AL L.length cL) ∧ Sl w (fun b => b < w.heap.size) AL cL L ∧ partsB s (k + 1) = partsB s k ++ textsB L ∧ (partsB s (k + 1)).length ≤ (partsB s 2).length := by
  have : k = 0 ∨ k = 1 := by omega
  rcases this with rfl | rfl
  · exact ⟨s.body, A, c, rfl, ha, rfl, by unfold partsB; simp⟩
  · exact ⟨s.notes, B, d, rfl, hb, rfl, Nat.le_refl _⟩
theorem wp_neqH {o : Oper} {a : Act} {K : Act → World → Prop} {Q : Exit → Act → World → Prop} {w : World} (x y : Operand) (ho : o.op = .binOp .neq 29 x y 29) (l m : List UInt8) (hx : a.eval x = hashV l) (hy : a.eval y = hashV m) (hl : l.length = 32) (hm : m.length = 32)
    (h : K (a.put o.dst (.bool (!decide (l = m)))) w) : o.wp Tryd.prog a w K Q := by
  have hq := exec_neq (P := Tryd.prog) (w := w) 29 29 x y ho (l.map encB).toArray (m.map encB).toArray hx hy guard_h _ (run_hash_neq l m hl hm w)
  unfold Oper.wp
  rw [hq]
  exact h
theorem wpList_neqH {ops : Array Oper} {rest : List Oper} {o : Oper} {a : Act} {Q : Exit → Act → World → Prop} {w : World} (hgd : o.guard = none) (x y : Operand) (ho : o.op = .binOp .neq 29 x y 29) (l m : List UInt8) (hx : a.eval x = hashV l) (hy : a.eval y = hashV m) (hl : l.length = 32) (hm : m.length = 32)
    (h : wpList Tryd.prog ops Q rest (a.put o.dst (.bool (!decide (l = m)))) w) : wpList Tryd.prog ops Q (o :: rest) a w :=
  wpList_plain hgd fun _ hK => wp_neqH x y ho l m hx hy hl hm (hK _ _ h)
/-- A box is written: a list that lies above it stays. -/
theorem own_set {w : World} {base : Nat} {e : TypeId} {v : Value} {l : List ByteArray} (h : Own w base e v l) {g : Nat} (hg : g < base) (o : Nat) (u : Value) : Own (w.setCell ⟨g, o, none⟩ u) base e v l :=
  own_keepS h (fun k hk => heap_set _ _ _ _ (by have := (h.lt k hk).1; omega))
theorem own_out {w w' : World} {base P : Nat} {e : TypeId} {v : Value} {l : List ByteArray} (h : Own w base e v l) (ho : Out (OP P) w w') (hg : P < base) : Own w' base e v l :=
  own_keepS h (fun k hk => ho.block k (h.lt k hk).2 (fun hp => by have := (h.lt k hk).1; have : k = P := hp; omega))
theorem below_set {w w' : World} {B g : Nat} (h : Below B w w') (hg : B ≤ g) (o : Nat) (u : Value) : Below B w (w'.setCell ⟨g, o, none⟩ u) :=
  ⟨h.os, h.tape, h.output, by simpa using h.size, fun i hi => (heap_set _ _ _ _ (by omega)).trans (h.block i hi)⟩
end Go.Proofs.YthcklfelofpffaaDoor
namespace Go.Proofs.YthcklfelofpffaaDoor
open Go.RowKit
set_option maxRecDepth 100000 in
set_option maxHeartbeats 8000000 in
theorem encodesLaw_any (branch : Int) (A : Option Addr) (c : Nat) (l : List Int) (w : World) (hbr : I64 branch) (hl : Sl w (fun b => b < w.heap.size) A c l) (hK : KLaid w) :
    Calls Tryd.prog 9 #[.int .i64 branch, .slice A l.length c] w fun e w' => e = .returned (.bool true) ∧ Below w.heap.size w w' := by
  have HBR := Lib.hid hbr
  have HK := Lib.hid hK
  have HSO := Lib.hid (some_any A c l w hl)
  clear hbr hl hK
  go_enter Tryd.func9, Tryd.ntmps9
  go_wp2_with fail
  refine HSO.out.mono ?_
  rintro e w1 ⟨v1, rfl, sh, ho1, hlen, hsm, hb1⟩
  obtain ⟨A1, c1, rfl, hs1⟩ := ho1.sl
  have HS := Lib.hid hs1
  have HSM := Lib.hid hsm
  have HB1 := Lib.hid hb1
  have HK1 := Lib.hid (HK.out.to hb1)
  clear ho1 hs1 hsm hb1 HSO HK
  go_wp2_with fail
  go_loopw [6] (fun i wr => ∃ k : Nat, k ≤ sh.length ∧ i = .int .i64 k ∧ Hid (Below w1.heap.size w1 wr)) (fun i _ => sh.length - (intOf i).toNat)
  case atStart => exact ⟨0, Nat.zero_le _, rfl, Lib.hid (Below.refl _ _)⟩
  case round =>
    obtain ⟨k, hk, rfl, HBw⟩ := hrel
    by_cases hlt : k < sh.length
    · obtain ⟨b, o, A7, c7, A8, c8, rfl, hbS, hbl, e0, e1, e2, s1, s2⟩ := sheet_at (HS.out.to HBw.out) hlt
      have hkl : (k : Int) < (sh.length : Int) := by omega
      have hk0 : (0 : Int) ≤ (k : Int) := by omega
      have HSX := Lib.hid (HSM.out _ (List.getElem_mem hlt))
      generalize sh[k] = x at *
      have HZ := Lib.hid (smallS_size branch HSX.out)
      have HA := Lib.hid s1
      have HB := Lib.hid s2
      have HKw := Lib.hid (HK1.out.to HBw.out)
      clear s1 s2 hbS
      have HBA : Hid (Below wr.heap.size wr ((wr.alloc (.cells #[.string x.label, .slice A7 x.body.length c7, .slice A8 x.notes.length c8] 24)).alloc (.cells #[.slice none 0 0] 63))) := Lib.hid (((Below.refl _ _).alloc (Nat.le_refl _) _).alloc (by simp) _)
      have HX1 : Hid (ABox ((wr.alloc (.cells #[.string x.label, .slice A7 x.body.length c7, .slice A8 x.notes.length c8] 24)).alloc (.cells #[.slice none 0 0] 63)) wr.heap.size 24 [.string x.label, .slice A7 x.body.length c7, .slice A8 x.notes.length c8]) := Lib.hid (by unfold ABox; rw [Below.heap_alloc _ _ _ (by simp)]; exact heap_alloc_new wr _)
      have HX2 : Hid (ABox ((wr.alloc (.cells #[.string x.label, .slice A7 x.body.length c7, .slice A8 x.notes.length c8] 24)).alloc (.cells #[.slice none 0 0] 63)) (wr.heap.size + 1) 63 [.slice none 0 0]) := Lib.hid (heap_at (by simp))
      have HBL : Hid (wr.heap.size + 1 + 1 ≤ (((wr.alloc (.cells #[.string x.label, .slice A7 x.body.length c7, .slice A8 x.notes.length c8] 24)).alloc (.cells #[.slice none 0 0] 63))).heap.size) := Lib.hid (by simp)
      go_upto_region 7 with (fail)
      clear e0 e1 e2 hbl
      generalize hw1 : World.alloc (World.alloc wr _) _ = w2
      have hw2 : ((wr.alloc (.cells #[.string x.label, .slice A7 x.body.length c7, .slice A8 x.notes.length c8] 24)).alloc (.cells #[.slice none 0 0] 63)) = w2 := hw1
      rw [hw2] at HBA HX1 HX2 HBL
      clear hw1 hw2
      have HES : Hid (ES wr w2 (wr.heap.size + 1) wr.heap.size [.string x.label, .slice A7 x.body.length c7, .slice A8 x.notes.length c8] (.slice none 0 0) []) := Lib.hid ⟨rfl, Nat.le_refl _, ⟨HX2.out, Own.nil _ _ _, by omega, HBL.out⟩, HX1.out, HBA.out⟩
      clear HBA HX1 HX2 HBL
      generalize wr.heap.size + 1 = P at *
      obtain ⟨R, hR⟩ : ∃ R, R = wr.heap.size := ⟨_, rfl⟩
      rw [← hR] at HES ⊢
      clear hR
      have HTOT : Hid ((intB branch).length + (textB x.label).length + (partsB x 2).length ≤ 1000) := Lib.hid (by have := HZ.out; rw [sheetB_parts] at this; simpa [List.length_append, Nat.add_assoc] using this)
      have HI := Lib.hid (int_any P (P + 1) _ [] branch w2 HES.out.ws HBR.out (by simp))
      rw [List.nil_append] at HI
      go_wp2_with fail
      refine HI.out.mono ?_
      rintro e w3 ⟨rfl, v3, hws3, hmv3⟩
      have HES3 := Lib.hid (HES.out.mov hws3 hmv3)
      clear hws3 hmv3 HES HI
      have HT := Lib.hid (text_any P (P + 1) v3 (intB branch) x.label w3 HES3.out.ws (by have := HTOT.out; omega) (by have := HTOT.out; have := textB_size x.label; omega))
      have k0 := HES3.out.r.cell 0 rfl
      go_wp2_with fail
      refine HT.out.mono ?_
      rintro e w4 ⟨rfl, v4, hws4, hmv4⟩
      have HES4 := Lib.hid (HES3.out.mov hws4 hmv4)
      clear hws4 hmv4 HES3 HT k0
      have k1 := HES4.out.r.cell 1 rfl
      have k2 := HES4.out.r.cell 2 rfl
      go_wp2_with fail
      have hba : Below w4.heap.size w4 (w4.alloc (.cells #[.slice A7 x.body.length c7, .slice A8 x.notes.length c8] 22)) := (Below.refl _ _).alloc (Nat.le_refl _) _
      have HQ : Hid (QS (w4.alloc (.cells #[.slice A7 x.body.length c7, .slice A8 x.notes.length c8] 22)) P w4.heap.size v4 22 [.slice A7 x.body.length c7, .slice A8 x.notes.length c8]) := Lib.hid ⟨heap_alloc_new w4 _, by have := HES4.out.ws.p.lt; omega, fun e => by have := (HES4.out.ws.own.lt _ e.symm).2; omega⟩
      have HESa := Lib.hid (HES4.out.to hba)
      clear hba HES4 k1 k2
      generalize (w4.alloc (.cells #[.slice A7 x.body.length c7, .slice A8 x.notes.length c8] 22)) = w5 at *
      generalize w4.heap.size = Q at *
      obtain ⟨pre, hpre⟩ : ∃ pre, pre = intB branch ++ textB x.label := ⟨_, rfl⟩
      have HPL : Hid (pre.length + (partsB x 2).length ≤ 1000) := Lib.hid (by have := HTOT.out; rw [hpre, List.length_append]; omega)
      have HE : Hid (pre ++ partsB x 2 = sheetB branch x) := Lib.hid (by rw [sheetB_parts, hpre])
      have HESb : Hid (ES wr w5 P R [.string x.label, .slice A7 x.body.length c7, .slice A8 x.notes.length c8] v4 (pre ++ partsB x 0)) := Lib.hid (by rw [hpre, partsB, List.append_nil]; exact HESa.out)
      clear HESa hpre HTOT
      obtain ⟨wo, hwo⟩ : ∃ wo : World, wo = wr := ⟨_, rfl⟩
      subst hwo
      go_loopw [10] (fun i wr => ∃ (k : Nat) (v1 : Value), k ≤ 2 ∧ i = .int .i64 k ∧ Hid (ES wo wr P R [.string x.label, .slice A7 x.body.length c7, .slice A8 x.notes.length c8] v1 (pre ++ partsB x k)) ∧ Hid (QS wr P Q v1 22 [.slice A7 x.body.length c7, .slice A8 x.notes.length c8])) (fun i _ => 2 - (intOf i).toNat)
      case atStart => exact ⟨0, v4, by omega, rfl, HESb, HQ⟩
      case round =>
        obtain ⟨kk, v1, hkk, rfl, hls, hqs⟩ := hrel
        by_cases hlt : kk < 2
        · have hlt2 : (kk : Int) < 2 := by omega
          have hkk0 : (0 : Int) ≤ (kk : Int) := by omega
          obtain ⟨L, AL, cL, hcl, hsl, hpk, hple⟩ := part_cs HA.out HB.out kk hlt
          have hcell := hqs.out.q.cell kk hcl
          have HCL := Lib.hid hcl
          clear hcl
          have HSL := Lib.hid hsl
          have HPK := Lib.hid hpk
          have HLE : Hid ((pre ++ partsB x kk).length + (textsB L).length ≤ 1000) := Lib.hid (by have h1 := HPL.out; have h2 := congrArg List.length hpk; rw [List.length_append] at h2 ⊢; omega)
          have hLL : L.length ≤ maxLen := by have h1 := hsl.1; have h2 := hsl.2.1; omega
          have hLL2 : L.length < 18446744073709551616 := by unfold maxLen at hLL; omega
          have HLL2 := Lib.hid hLL2
          clear hsl hpk hple hLL hLL2
          generalize hpk1 : partsB x (kk + 1) = pk1 at *
          have HPK1 := Lib.hid hpk1
          clear hpk1
          obtain ⟨l0, hl0⟩ : ∃ l0, l0 = pre ++ partsB x kk := ⟨_, rfl⟩
          have HL0 := Lib.hid hl0
          rw [← hl0] at hls HLE
          clear hl0
          have HU := Lib.hid (uint_any P (P + 1) v1 l0 L.length wr hls.out.ws HLL2.out (by have := HLE.out; omega))
          have hwl : IntKind.u64.wrap (L.length : Int) = (L.length : Int) := IntWalk.u64_in _ (by have := HLL2.out; omega)
          go_wp2_with fail
          refine HU.out.mono ?_
          rintro e w6 ⟨rfl, v6, hws6, hmv6⟩
          have HES6 := Lib.hid (hls.out.mov hws6 hmv6)
          have HQ6 := Lib.hid (hqs.out.mov hmv6)
          clear hws6 hmv6 hls hqs HU hwl hcell
          go_wp2_with fail
          have hLb : (L.length : Int) ≤ 1000 := by
            have h1 := HLE.out; have h2 := flat_ge L
            have h3 : (textsB L).length = (uintB L.length).length + (L.flatMap textB).length := by unfold textsB; rw [List.length_append]
            omega
          obtain ⟨wq, hwq⟩ : ∃ wq : World, wq = wr := ⟨_, rfl⟩
          subst hwq
          go_loopw [11] (fun i wr => ∃ (j : Nat) (v1 : Value), j ≤ L.length ∧ i = .int .i64 j ∧ Hid (ES wo wr P R [.string x.label, .slice A7 x.body.length c7, .slice A8 x.notes.length c8] v1 (l0 ++ uintB L.length ++ (L.take j).flatMap textB)) ∧ Hid (QS wr P Q v1 22 [.slice A7 x.body.length c7, .slice A8 x.notes.length c8])) (fun i _ => L.length - (intOf i).toNat)
          case atStart => exact ⟨0, v6, by omega, rfl, by rw [List.take_zero, List.flatMap_nil, List.append_nil]; exact HES6, HQ6⟩
          case round =>
            obtain ⟨j, v7, hj, rfl, hls6, hqs6⟩ := hrel
            have hq2 := hqs6.out.q.cell kk HCL.out
            by_cases hjl : j < L.length
            · have hjl2 : (j : Int) < (L.length : Int) := by omega
              have hj0 : (0 : Int) ≤ (j : Int) := by omega
              obtain ⟨bL, oL, rfl, _, _, hx⟩ := str_at (HSL.out.to hls6.out.b) hjl
              have HFT := Lib.hid (flat_take L j hjl)
              have HFL := Lib.hid (flat_le L (j + 1))
              have HTB : Hid ((textsB L).length = (uintB L.length).length + (L.flatMap textB).length) := Lib.hid (by unfold textsB; rw [List.length_append])
              generalize L[j] = y at *
              have HXB := Lib.hid (textB_size y)
              obtain ⟨l6, hl6⟩ : ∃ l6, l6 = l0 ++ uintB L.length ++ (L.take j).flatMap textB := ⟨_, rfl⟩
              have HB6 : Hid (l6.length + (textB y).length ≤ 1000) := Lib.hid (by
                have h1 := HLE.out; have h2 := congrArg List.length HFT.out; have h3 := HFL.out; have h4 := HTB.out
                rw [List.length_append] at h2
                rw [hl6, List.length_append, List.length_append]; omega)
              have HL6 : Hid (l0 ++ uintB L.length ++ (L.take (j + 1)).flatMap textB = l6 ++ textB y) := Lib.hid (by rw [HFT.out, hl6, List.append_assoc, List.append_assoc, List.append_assoc])
              rw [← hl6] at hls6
              have HTX := Lib.hid (text_any P (P + 1) v7 l6 y wr hls6.out.ws (by have := HB6.out; omega) (by have := HB6.out; have := HXB.out; omega))
              clear hl6
              go_wp2_with fail
              refine HTX.out.mono ?_
              rintro e w7 ⟨rfl, v8, hws7, hmv7⟩
              have HES7 := Lib.hid (hls6.out.mov hws7 hmv7)
              have HQ7 := Lib.hid (hqs6.out.mov hmv7)
              clear hws7 hmv7 hls6 hqs6 HTX hx hq2
              go_wp2_with fail
              go_roundw
              case rel => exact ⟨j + 1, v8, by omega, by go_num, by rw [HL6.out]; exact HES7, HQ7⟩
              case measure => (simp [intOf]; omega)
            · have hjl2 : ¬ (j : Int) < (L.length : Int) := by omega
              obtain rfl : j = L.length := by omega
              have HES8 : Hid (ES wo wr P R [.string x.label, .slice A7 x.body.length c7, .slice A8 x.notes.length c8] v7 (pre ++ partsB x (kk + 1))) := Lib.hid (by
                have h := hls6.out
                rw [List.take_length, HL0.out, List.append_assoc] at h
                rw [HPK1.out, HPK.out, ← List.append_assoc]; exact h)
              have HQ8 := Lib.hid hqs6.out
              clear hls6 hqs6
              go_wp2_with fail
              go_roundw
              case rel => exact ⟨kk + 1, v7, by omega, by go_num, HES8, HQ8⟩
              case measure => (simp [intOf]; omega)
        · have hlt2 : ¬ (kk : Int) < 2 := by omega
          obtain rfl : kk = 2 := by omega
          have HES9 : Hid (ES wo wr P R [.string x.label, .slice A7 x.body.length c7, .slice A8 x.notes.length c8] v1 (sheetB branch x)) := Lib.hid (by rw [← HE.out]; exact hls.out)
          have HDN := Lib.hid (done_any P (P + 1) v1 _ wr HES9.out.ws (by have := HZ.out; omega))
          clear hls hqs HE HPL HESb HQ
          go_wp2_with fail
          refine HDN.out.mono ?_
          rintro e w7 ⟨v7, rfl, hown7, hb7⟩
          obtain ⟨A9, c9, rfl, hs9⟩ := hown7.sl
          have HS9 := Lib.hid hs9
          have HR7 := Lib.hid (HES9.out.r.to hb7)
          have HB7 := Lib.hid (HES9.out.b.trans (hb7.mono HES9.out.b.size))
          have HL1 := Lib.hid (leafS_any branch x A7 A8 c7 c8 w7 HBR.out (HA.out.to HB7.out) (HB.out.to HB7.out) (by have := HZ.out; omega) (HKw.out.to HB7.out))
          clear hown7 hs9 hb7 HES9 HDN
          have r0 := HR7.out.cell 0 rfl
          have r1 := HR7.out.cell 1 rfl
          have r2 := HR7.out.cell 2 rfl
          go_wp2_with fail
          refine HL1.out.mono ?_
          rintro e w8 ⟨rfl, hb8⟩
          have HR8 := Lib.hid (HR7.out.to hb8)
          have HS8 := Lib.hid (HS9.out.to hb8)
          have HB8 := Lib.hid (HB7.out.trans (hb8.mono HB7.out.size))
          have HL2 : Hid (Calls Tryd.prog 36 #[.slice A9 (sheetB branch x).length c9] w8 fun e w' => e = .returned (hashV (leafOf branch x)) ∧ Below w8.heap.size w8 w') := Lib.hid (leaf_any _ A9 _ c9 w8 HS8.out rfl (by have := HZ.out; omega) (HKw.out.to HB8.out))
          have HLL : Hid ((leafOf branch x).length = 32) := Lib.hid (sha_length _)
          clear hb8 HR7 HS9 HB7 HL1 r0 r1 r2
          generalize leafOf branch x = lf at *
          have HEN : Hid (sheetB branch x = intB branch ++ (textB x.label ++ (textsB x.body ++ (textsB x.notes ++ [])))) := Lib.hid (by unfold sheetB; simp only [List.append_assoc, List.append_nil])
          generalize sheetB branch x = enc at *
          go_wp2_with fail
          refine HL2.out.mono ?_
          rintro e w9 ⟨rfl, hb9⟩
          have HR9 := Lib.hid (HR8.out.to hb9)
          have HS9 := Lib.hid (HS8.out.to hb9)
          have HB9 := Lib.hid (HB8.out.trans (hb9.mono HB8.out.size))
          have HNR := Lib.hid (newreader_any A9 c9 enc.length enc w9 HS9.out rfl (by have := HZ.out; omega))
          clear hb9 HR8 HS8 HB8 HL2
          go_wp2_with (first | (refine wpList_neqH rfl (.tmp 70) (.tmp 72) rfl lf lf rfl rfl HLL.out HLL.out ?_; rw [decide_eq_true (rfl : lf = lf)]) | fail)
          refine HNR.out.mono ?_
          rintro e wa ⟨P2, A2, c2, rfl, hr, hbn, hP2⟩
          have HP2 := Lib.hid hP2
          have HW := Lib.hid hbn
          have HIN := Lib.hid (rdint_any P2 A2 c2 branch _ enc wa HBR.out HEN.out (by have := HZ.out; omega) hr)
          have HLT := Lib.hid (congrArg List.length HEN.out)
          clear hr hbn hP2 HNR HS9 HLL
          go_wp2_with fail
          refine HIN.out.mono ?_
          rintro e wb ⟨rfl, A3, c3, hr3, ho3⟩
          have HWb : Hid (Below w9.heap.size w9 wb) := Lib.hid (HW.out.trans (ho3.below (fun g hg => by have := HP2.out; have : g = P2 := hg; omega) HW.out.size))
          have HTT := Lib.hid (rdtext_any P2 A3 c3 x.label 100 _ _ wb (by have := HSX.out.1; omega) (by decide) rfl (by have := HZ.out; have := HLT.out; simp only [List.length_append] at this ⊢; omega) hr3)
          clear hr3 ho3 HIN HW
          go_wp2_with fail
          refine HTT.out.mono ?_
          rintro e wc ⟨rfl, A4, c4, hr4, ho4⟩
          have HWc : Hid (Below w9.heap.size w9 wc) := Lib.hid (HWb.out.trans (ho4.below (fun g hg => by have := HP2.out; have : g = P2 := hg; omega) HWb.out.size))
          have HR4 := Lib.hid hr4
          clear hr4 ho4 HTT HWb
          go_wp2_with fail
          have hba : Below wc.heap.size wc (wc.alloc (.cells #[.string x.label, .slice none 0 0, .slice none 0 0] 24)) := (Below.refl _ _).alloc (Nat.le_refl _) _
          have HWd := Lib.hid (HWc.out.trans (hba.mono HWc.out.size))
          have HRd := Lib.hid (HR4.out.out hba)
          have HTd : Hid (ABox (wc.alloc (.cells #[.string x.label, .slice none 0 0, .slice none 0 0] 24)) wc.heap.size 24 [.string x.label, .slice none 0 0, .slice none 0 0]) := Lib.hid (heap_alloc_new wc _)
          have HPT : Hid (P2 < wc.heap.size ∧ w9.heap.size ≤ wc.heap.size) := Lib.hid ⟨HR4.out.box.lt, HWc.out.size⟩
          clear hba HWc HR4
          generalize (wc.alloc (.cells #[.string x.label, .slice none 0 0, .slice none 0 0] 24)) = wd at *
          generalize wc.heap.size = T at *
          have HTL : Hid (T < wd.heap.size) := Lib.hid HTd.out.lt
          refine (rdtexts_any P2 A4 c4 x.body _ _ wd (by have := HSX.out.2.1; omega) (fun y hy => by have := HSX.out.2.2.2.1 y hy; omega) rfl (by have := HZ.out; have := HLT.out; simp only [List.length_append] at this ⊢; omega) HRd.out).mono ?_
          rintro e we ⟨v5, rfl, hown5, ⟨A5, c5, hr5⟩, ho5⟩
          obtain ⟨B1, d1, rfl, -⟩ := hown5.form
          have HWe : Hid (Below w9.heap.size w9 we) := Lib.hid (HWd.out.trans (ho5.below (fun g hg => by have := HP2.out; have : g = P2 := hg; omega) HWd.out.size))
          have HTe : Hid (ABox we T 24 [.string x.label, .slice none 0 0, .slice none 0 0]) := Lib.hid (ho5.box HTd.out (fun h => by have := HPT.out.1; have : T = P2 := h; omega))
          have HRe := Lib.hid hr5
          have ho5sz := ho5.size
          have HO5 := Lib.hid hown5
          have t1 := HTe.out.cell 1 rfl
          have tf := HTe.out.fz
          clear hown5 hr5 ho5 HWd HRd HTd
          go_wp2_with fail
          have HWf := Lib.hid (below_set HWe.out HPT.out.2 1 (.slice B1 x.body.length d1))
          have HTf : Hid (ABox (we.setCell ⟨T, 1, none⟩ (.slice B1 x.body.length d1)) T 24 [.string x.label, .slice B1 x.body.length d1, .slice none 0 0]) := Lib.hid (HTe.out.set 1 _)
          have HRf := Lib.hid (RS.frame (W' := we.setCell ⟨T, 1, none⟩ (.slice B1 x.body.length d1)) HRe.out (fun g hg => heap_set _ _ _ _ (by have := HPT.out.1; omega)) (by simp))
          have HOf := Lib.hid (own_set HO5.out HTL.out 1 (.slice B1 x.body.length d1))
          have HSZf : Hid (wd.heap.size ≤ (we.setCell ⟨T, 1, none⟩ (.slice B1 x.body.length d1)).heap.size) := Lib.hid (by have := ho5sz; simpa using this)
          clear HWe HTe HRe HO5 t1 tf
          generalize (we.setCell ⟨T, 1, none⟩ (.slice B1 x.body.length d1)) = wf at *
          refine (rdtexts_any P2 A5 c5 x.notes [] _ wf (by have := HSX.out.2.2.1; omega) (fun y hy => by have := HSX.out.2.2.2.2 y hy; omega) rfl (by have := HZ.out; have := HLT.out; simp only [List.length_append] at this ⊢; omega) HRf.out).mono ?_
          rintro e wg ⟨v6, rfl, hown6, ⟨A6, c6, hr6⟩, ho6⟩
          obtain ⟨B2, d2, rfl, -⟩ := hown6.form
          have HWg : Hid (Below w9.heap.size w9 wg) := Lib.hid (HWf.out.trans (ho6.below (fun g hg => by have := HP2.out; have : g = P2 := hg; omega) HWf.out.size))
          have HTg : Hid (ABox wg T 24 [.string x.label, .slice B1 x.body.length d1, .slice none 0 0]) := Lib.hid (ho6.box HTf.out (fun h => by have := HPT.out.1; have : T = P2 := h; omega))
          have HRg := Lib.hid hr6
          have HOg := Lib.hid (own_out HOf.out ho6 (by have := HPT.out.1; have := HTL.out; omega))
          have HOn := Lib.hid hown6
          have t2 := HTg.out.cell 2 rfl
          have tf := HTg.out.fz
          clear hown6 hr6 ho6 HWf HRf HTf HOf
          go_wp2_with fail
          have HWh := Lib.hid (below_set HWg.out HPT.out.2 2 (.slice B2 x.notes.length d2))
          have HTh : Hid (ABox (wg.setCell ⟨T, 2, none⟩ (.slice B2 x.notes.length d2)) T 24 [.string x.label, .slice B1 x.body.length d1, .slice B2 x.notes.length d2]) := Lib.hid (HTg.out.set 2 _)
          have HRh := Lib.hid (RS.frame (W' := wg.setCell ⟨T, 2, none⟩ (.slice B2 x.notes.length d2)) HRg.out (fun g hg => heap_set _ _ _ _ (by have := HPT.out.1; omega)) (by simp))
          have HOb := Lib.hid ((own_set HOg.out HTL.out 2 (.slice B2 x.notes.length d2)).slv rfl)
          have HOc := Lib.hid ((own_set (g := T) HOn.out (by have := HSZf.out; have := HTL.out; omega) 2 (.slice B2 x.notes.length d2)).slv rfl)
          clear HWg HTg HRg HOg HOn t2 tf
          generalize (wg.setCell ⟨T, 2, none⟩ (.slice B2 x.notes.length d2)) = wh at *
          have HBh := Lib.hid (HB9.out.trans (HWh.out.mono HB9.out.size))
          have HRb := Lib.hid (HR9.out.to HWh.out)
          have t0 := HTh.out.cell 0 rfl
          have t1 := HTh.out.cell 1 rfl
          have t2 := HTh.out.cell 2 rfl
          have r0 := HRb.out.cell 0 rfl
          have r1 := HRb.out.cell 1 rfl
          have r2 := HRb.out.cell 2 rfl
          refine (rdend_any P2 A6 c6 wh HRh.out).mono ?_
          rintro e wi ⟨rfl, rfl⟩
          have HSS := Lib.hid (samesheet_any x.label x.body x.notes B1 B2 A7 A8 d1 d2 c7 c8 wh HOb.out HOc.out (HA.out.to HBh.out) (HB.out.to HBh.out))
          go_wp2_with fail
          refine HSS.out.mono ?_
          rintro e wj ⟨rfl, hbj⟩
          have HBj := Lib.hid (HBh.out.trans (hbj.mono HBh.out.size))
          clear hbj HSS HBh HRb HTh HRh t0 t1 t2 r0 r1 r2
          go_wp2_with fail
          go_roundw
          case rel => exact ⟨k + 1, by omega, by go_num, Lib.hid (HBw.out.trans (HBj.out.mono HBw.out.size))⟩
          case measure => (simp [intOf]; omega)
    · have hkl : ¬ (k : Int) < (sh.length : Int) := by omega
      have HBz := Lib.hid (HB1.out.trans (HBw.out.mono HB1.out.size))
      have HLV := Lib.hid (lives_any wr (HK1.out.to HBw.out))
      go_wp2_with fail
      refine HLV.out.mono ?_
      rintro e w8 ⟨rfl, hb8⟩
      have HB8 := Lib.hid (HBz.out.trans (hb8.mono HBz.out.size))
      clear hb8 HLV HBz
      go_wp2_with fail
      go_ret
      exact ⟨rfl, HB8.out⟩
end Go.Proofs.YthcklfelofpffaaDoor
namespace Go.Proofs.YthcklfelofpffaaDoor
open Go.ChangeShapes Go.WideShapes Go.ChangeAt Go.RowKit Go.Deep
theorem exists_list {α : Type} {Q : Nat → α → Prop} (n : Nat) (h : ∀ i, i < n → ∃ a, Q i a) : ∃ l : List α, l.length = n ∧ ∀ i, (hi : i < l.length) → Q i l[i] := by
  induction n with
  | zero => exact ⟨[], rfl, fun i hi => by simp at hi⟩
  | succ n ih =>
    obtain ⟨l, hl, hq⟩ := ih fun i hi => h i (by omega)
    obtain ⟨a, ha⟩ := h n (by omega)
    refine ⟨l ++ [a], by simp [hl], fun i hi => ?_⟩
    by_cases hin : i < l.length
    · rw [List.getElem_append_left hin]; exact hq i hin
    · have : i = n := by simp at hi; omega
      subst this
      rw [List.getElem_append_right (by omega)]
      simpa using ha
theorem addr_plain {w : World} {a : Addr} {v : Value} (h : w.cell? (a.add 0) = some v) : ∃ b o, a = ⟨b, o, none⟩ := by
  obtain ⟨b, o, spot⟩ := a
  have hspot : spot = none := by simpa [Addr.add] using World.cell?_spot h
  subst hspot
  exact ⟨b, o, rfl⟩
theorem bulk_one {H : Type} (d : DataW H) : 1 ≤ Rows.uptoBulk d := by
  cases d with
  | lit l => cases l <;> simp [Rows.uptoBulk]
  | nil => simp [Rows.uptoBulk]
  | ptr d => simp [Rows.uptoBulk]
  | slice elems spare => simp [Rows.uptoBulk]
  | agg parts => simp [Rows.uptoBulk]
  | iface t d => simp [Rows.uptoBulk]
  | map entries => simp [Rows.uptoBulk]
  | held h => simp [Rows.uptoBulk]
theorem bulk_part {H : Type} {d : DataW H} {l : List (DataW H)} (h : d ∈ l) : Rows.uptoBulk d ≤ Rows.uptoBulkAll l := by
  induction l with
  | nil => cases h
  | cons x r ih =>
    simp only [Rows.uptoBulkAll]
    cases List.mem_cons.1 h with
    | inl e => subst e; omega
    | inr e => have := ih e; omega
theorem bulk_length {H : Type} (l : List (DataW H)) : l.length ≤ Rows.uptoBulkAll l := by
  induction l with
  | nil => simp [Rows.uptoBulkAll]
  | cons x r ih => have := bulk_one x; simp only [Rows.uptoBulkAll, List.length_cons]; omega
theorem bulk_slice {H : Type} (elems spare : List (DataW H)) : elems.length + spare.length + 1 ≤ Rows.uptoBulk (.slice elems spare) := by
  have h1 := bulk_length elems
  have h2 := bulk_length spare
  simp only [Rows.uptoBulk]
  omega
/-- THE BOUND. -/
theorem bulk_bound {H : Type} {l : List (DataW H)} (hk : Rows.uptoSmall H l = true) : Rows.uptoBulkAll l ≤ 1048576 := by
  have h := of_decide_eq_true hk
  exact h
variable {H : Type} {enc : TypeId × Value → H} {P : Program}
/-- A slice whose elements are of a kind that is known. -/
theorem open_sl {α : Type} [Rep α] {t e : TypeId} {W : World} {base : Nat} {v : Value} {d : DataW H} {ps : List MemPlace} (ht : P.underlying t = some (.slice e)) (hC : P.cellsOf e = Rep.size α)
    (hel : ∀ fuel cs x, DataW.trod enc P W 0 (fun _ => true) true fuel e cs = some x → ∃ a : α, Rep.R W (fun b => b < W.heap.size) cs a) (hsz : 0 < Rep.size α)
    (hval : Value.okWide P W .any base t v) (h : DataW.Trod enc P W 0 (fun _ => true) true t v d ps) :
    ∃ A c, ∃ l : List α, v = .slice A l.length c ∧ Sl W (fun b => b < W.heap.size) A c l ∧ l.length ≤ Rows.uptoBulk d := by
  obtain ⟨a, len, cap, rfl⟩ := okWide_slice ht hval
  obtain ⟨fuel, hf⟩ := h
  rcases open_slice ht hf with ⟨hcs, _⟩ | ⟨a', len', cap', m, n, D, Pl, hcs, _, hl, hm, hmm, hx, hi⟩
  · simp [Value.cells] at hcs
    obtain ⟨rfl, rfl, rfl⟩ := hcs
    exact ⟨none, 0, [], rfl, Sl.nil _ _ _ _ (by simp [maxLen]), by simp⟩
  · simp [Value.cells] at hcs
    obtain ⟨rfl, rfl, rfl⟩ := hcs
    simp only [if_true] at hmm
    subst hmm
    rw [hC] at hi
    have hQ : ∀ i, i < len → ∃ x : α, ∃ es, Rep.R W (fun b => b < W.heap.size) es x ∧ ∀ j u, es[j]? = some u → W.cell? (a'.add (i * Rep.size α + j)) = some u := by
      intro i hil
      obtain ⟨cs', hc, ht'⟩ := hi i (by omega)
      obtain ⟨x, hr⟩ := hel _ _ _ ht'
      obtain ⟨_, hlen, hat⟩ := World.cells?_some hc
      refine ⟨x, cs', hr, fun j u hu => ?_⟩
      have hj : j < Rep.size α := by rw [← hlen]; exact (List.getElem?_eq_some_iff.1 hu).1
      rw [← Go.Deep.add_add]
      exact (hat j hj).trans hu
    obtain ⟨l, hll, hq⟩ := exists_list len hQ
    refine ⟨some a', m, l, by rw [hll], ⟨by omega, hm, fun h0 => ?_⟩, ?_⟩
    · obtain ⟨es, hr, hc⟩ := hq 0 h0
      have hel0 := Rep.len hr
      obtain ⟨b, o, rfl⟩ := addr_plain (by simpa using hc 0 _ (List.getElem?_eq_getElem (by omega)))
      have hlt := World.block_lt_of_cell? W _ (hc 0 _ (List.getElem?_eq_getElem (by omega)))
      rw [addr_add] at hlt
      refine ⟨b, o, rfl, hlt, hlt, fun i hil => ?_⟩
      obtain ⟨es, hr, hc⟩ := hq i hil
      refine ⟨es, hr, fun j u hu => ?_⟩
      have := hc j u hu
      rwa [addr_add, ← Nat.add_assoc] at this
    · simp only [Prod.mk.injEq] at hx
      rw [hx.1, hll]
      have := bulk_slice ((List.range len).map D) ((List.range (m - len)).map fun j => D (len + j))
      simp only [List.length_map, List.length_range] at this
      omega
end Go.Proofs.YthcklfelofpffaaDoor
namespace Go.Proofs.YthcklfelofpffaaDoor
open Go.ChangeShapes Go.WideShapes Go.ChangeAt Go.RowKit Go.Deep
variable {H : Type} {enc : TypeId × Value → H} {P : Program}
theorem open_ints_sl {t e : TypeId} {W : World} {base : Nat} {v : Value} {d : DataW H} {ps : List MemPlace} (ht : P.underlying t = some (.slice e)) (he : P.underlying e = some (.int .i64)) (hc : P.cellsOf e = 1)
    (hval : Value.okWide P W .any base t v) (h : DataW.Trod enc P W 0 (fun _ => true) true t v d ps) : ∃ A c, ∃ l : List Int, v = .slice A l.length c ∧ Sl W (fun b => b < W.heap.size) A c l := by
  obtain ⟨a, len, cap, rfl⟩ := okWide_slice ht hval
  obtain ⟨fuel, hf⟩ := h
  rcases open_ints ht he hc hf with ⟨hcs, _⟩ | ⟨a', len', cap', zs, hcs, _, hl, hm, hz, _, hcell, hwf⟩
  · simp [Value.cells] at hcs
    obtain ⟨rfl, rfl, rfl⟩ := hcs
    exact ⟨none, 0, [], rfl, Sl.nil _ _ _ _ (by simp [maxLen])⟩
  · simp [Value.cells] at hcs
    obtain ⟨rfl, rfl, rfl⟩ := hcs
    have hz' : zs.length = cap := by simpa using hz
    have hlt : (zs.take len).length = len := by rw [List.length_take]; omega
    refine ⟨some a', cap, zs.take len, by rw [hlt], by rw [hlt]; exact hl, hm, fun h0 => ?_⟩
    obtain ⟨b, o, rfl, hat⟩ := Go.ints_at hcell (by omega)
    refine ⟨b, o, rfl, World.block_lt_of_cell? W _ (hat 0 (by omega)), World.block_lt_of_cell? W _ (hat 0 (by omega)), fun i hi => ?_⟩
    rw [hlt] at hi
    have e : zs.getD i 0 = (zs.take len)[i]'(by omega) := by
      rw [List.getElem_take, List.getD_eq_getElem?_getD, List.getElem?_eq_getElem (by omega)]; rfl
    refine ⟨[.int .i64 (zs.getD i 0)], ⟨by rw [e], ?_⟩, fun j u hu => ?_⟩
    · exact i64_wf (hwf _ (List.mem_of_mem_take (List.getElem_mem (by omega))))
    · have hj : j = 0 := by
        rcases j with _ | j
        · rfl
        · simp at hu
      subst hj
      simp only [List.getElem?_cons_zero, Option.some.injEq] at hu
      subst hu
      have := hat i (by omega)
      show W.cell? ⟨b, o + i * 1 + 0, none⟩ = _
      rw [Nat.mul_one, Nat.add_zero]; exact this
theorem rep_ints {t e : TypeId} {W : World} (ht : P.underlying t = some (.slice e)) (he : P.underlying e = some (.int .i64)) (hc : P.cellsOf e = 1) (fuel : Nat) (cs : List Value) (x : DataW H × List MemPlace) (hf : DataW.trod enc P W 0 (fun _ => true) true fuel t cs = some x) : ∃ l : List Int, Rep.R W (fun b => b < W.heap.size) cs l := by
  rcases open_ints ht he hc hf with ⟨hcs, _⟩ | ⟨a', len, cap, zs, hcs, _, hl, hm, hz, _, hcell, hwf⟩
  · exact ⟨[], none, 0, hcs, Sl.nil _ _ _ _ (by simp [maxLen]), by simp⟩
  · have hz' : zs.length = cap := by simpa using hz
    have hlt : (zs.take len).length = len := by rw [List.length_take]; omega
    have hm' := hm
    unfold maxLen at hm'
    refine ⟨zs.take len, some a', cap, by rw [hlt]; exact hcs, ⟨by rw [hlt]; exact hl, hm, fun h0 => ?_⟩, by rw [hlt]; omega⟩
    obtain ⟨b, o, rfl, hat⟩ := Go.ints_at hcell (by omega)
    refine ⟨b, o, rfl, World.block_lt_of_cell? W _ (hat 0 (by omega)), World.block_lt_of_cell? W _ (hat 0 (by omega)), fun i hi => ?_⟩
    rw [hlt] at hi
    have e : zs.getD i 0 = (zs.take len)[i]'(by omega) := by
      rw [List.getElem_take, List.getD_eq_getElem?_getD, List.getElem?_eq_getElem (by omega)]; rfl
    refine ⟨[.int .i64 (zs.getD i 0)], ⟨by rw [e], i64_wf (hwf _ (List.mem_of_mem_take (List.getElem_mem (by omega))))⟩, fun j u hu => ?_⟩
    have hj : j = 0 := by
      rcases j with _ | j
      · rfl
      · simp at hu
    subst hj
    simp only [List.getElem?_cons_zero, Option.some.injEq] at hu
    subst hu
    have := hat i (by omega)
    show W.cell? ⟨b, o + i * 1 + 0, none⟩ = _
    rw [Nat.mul_one, Nat.add_zero]; exact this
theorem open_intss {t e ei : TypeId} {W : World} {base : Nat} {v : Value} {d : DataW H} {ps : List MemPlace} (ht : P.underlying t = some (.slice e)) (he : P.underlying e = some (.slice ei)) (hei : P.underlying ei = some (.int .i64)) (hce : P.cellsOf e = 1) (hc : P.cellsOf ei = 1)
    (hval : Value.okWide P W .any base t v) (h : DataW.Trod enc P W 0 (fun _ => true) true t v d ps) : ∃ A c, ∃ l : List (List Int), v = .slice A l.length c ∧ Sl W (fun b => b < W.heap.size) A c l := by
  obtain ⟨A, c, l, h1, h2, _⟩ := open_sl (α := List Int) ht hce (fun fuel cs x hx => rep_ints he hei hc fuel cs x hx) (by decide) hval h
  exact ⟨A, c, l, h1, h2⟩
end Go.Proofs.YthcklfelofpffaaDoor
namespace Go.Proofs.YthcklfelofpffaaDoor.rowCertifyEncodes
open Go.ChangeShapes Go.WideShapes Go.ChangeAt Go.RowKit
set_option maxRecDepth 100000 in
theorem contract (H : Type) (enc : TypeId × Value → H) (W : World) (base : Nat) (args : Array Value) (ds gs : List (DataW H)) (before : List MemPlace)
    (hval : ∀ (j : Nat) t v, Tryd.f9.params[j]? = some t → args[j]? = some v → Value.okWide Tryd.prog W .any base t v)
    (hW : DataW.Whole enc Tryd.prog Tryd.f9.params.toList Rows.certifyEncodesSpec.vars false W args.toList ds gs before) (hL : laidMetH Tryd.prog laidL W) :
    Calls Tryd.prog 9 args W fun e W' => ∃ v, e = .returned v ∧ Rows.certifyEncodesSpec.post enc Tryd.prog Tryd.f9 false true false false W args v W' := by
  have hW' := hW
  obtain ⟨p, q, hA0, hV, rfl, hfz, hnd⟩ := hW
  have hA : DataW.TrodAll enc Tryd.prog W 0 (fun _ => true) true Tryd.f9.params.toList args.toList ds p := hA0
  rw [Tryd.params9] at hA hval
  obtain ⟨v0, vs0, d0, ds0, p0, q0, hargs, rfl, rfl, h0, r0⟩ := trodAll_cons hA
  obtain ⟨v1, vs1, d1, ds1, p1, q1, rfl, rfl, rfl, h1, r1⟩ := trodAll_cons r0
  obtain ⟨rfl, rfl, rfl⟩ := trodAll_nil r1
  obtain rfl : args = #[v0, v1] := by cases args; simp_all
  obtain ⟨rfl, rfl⟩ := trodVars_none hV
  obtain ⟨n0, rfl, rfl, rfl, wn0⟩ := open_int Tryd.underlying3 (hval 0 3 v0 rfl rfl) h0
  obtain ⟨A1, c1, l1, rfl, hl1⟩ := open_ints_sl Tryd.underlying25 Tryd.underlying3 cells_int (hval 1 25 v1 rfl rfl) h1
  refine (encodesLaw_any n0 A1 c1 l1 W (i64_wf wn0) hl1 (tabs_of hL)).mono fun e W' ⟨he, hb⟩ => ?_
  subst he
  exact ⟨_, rfl, row_close laidOut Tryd.underlying4 (by kernel_rfl) (by kernel_rfl) rfl hW' rfl hb⟩

theorem laid_met (os : Os) : laidMet Tryd.prog Rows.certifyEncodesRow.laid ((laidWorld os).forCall (fun _ _ => 0) ⟨#[], #[.int .i64 0, .slice none 0 0], []⟩).memory :=
  laidMet_of_run' 8 (by kernel_rfl) (by kernel_rfl)
theorem reads (os : Os) {H : Type} (enc : TypeId × Value → H) : ∃ places, DataW.whole enc Tryd.prog ((laidWorld os).forCall (fun _ _ => 0) ⟨#[], #[.int .i64 0, .slice none 0 0], []⟩).memory Tryd.f9.params.toList Rows.certifyEncodesSpec.vars false (#[.int .i64 0, .slice none 0 0] : Array Value).toList 8 = some ([.lit (.int .i64 0), .nil], [], places) :=
  ⟨[], by kernel_rfl⟩
set_option maxRecDepth 100000 in
theorem lifted (os : Os) (started : os.Started) (H : Type) (enc : TypeId × Value → H) (F : Stop.Interp) :
    ReturnsInHanded {} Tryd.checked os 9 .any ((OpenSpec.ofChange Rows.certifyEncodesSpec).preRow enc Tryd.prog Tryd.f9 Rows.certifyEncodesRow.domain false Rows.certifyEncodesRow.laid) (((OpenSpec.ofChange Rows.certifyEncodesSpec).at F).post enc Tryd.prog Tryd.f9 false true false false) := by
  obtain ⟨places, hx⟩ := reads os enc
  refine returnsInHanded_of_row (C := Tryd.checked) (s := (OpenSpec.ofChange Rows.certifyEncodesSpec)) own started (by kernel_rfl) Tryd.func9
    (witness_row_at (enc := enc) (C := Tryd.checked) false (laidWorld os) #[.int .i64 0, .slice none 0 0] rfl (by kernel_rfl) (by kernel_rfl) (by kernel_rfl)
      (OpenSpec.preRow_of_cond 8 hx (by kernel_rfl) (fun k hk => by cases hk) (by kernel_rfl) (laid_met os))) ?_
  intro W base args ds gs before hval hW _ _ _ hL _ _
  exact contract H enc W base args ds gs before hval hW hL
theorem said : Rows.CertifyEncodesSaid :=
  OpenClaim.holds_of_cond 9 Tryd.f9 rfl rfl rfl rfl rfl rfl rfl ⟨rfl, rfl, rfl, rfl, rfl⟩ rfl rfl rfl rfl rfl (by kernel_rfl) Tryd.func9 (by kernel_rfl)
    (of_decide_eq_true (by kernel_rfl)) (by unfold Func.isWrapper; first | (rw [if_pos (by decide +kernel)]; kernel_rfl) | (rw [if_neg (by decide +kernel)]; exact ⟨rfl, rfl⟩))
    (fun os started H enc _ F => by rw [OpenClaim.pre_eq_preRow]; exact lifted os started H enc F)
theorem wants : Tryd.f9.params.all (fun t => !Tryd.prog.wantsStandIn t) = true := by kernel_rfl
theorem plain (f : FuncId) (fn : Func) (hf : Tryd.pinned.checked.prog.funcNamed "rollbook/rollbooklaw34.CertifyEncodes" = some f) (hfn : Tryd.pinned.checked.prog.funcs[f]? = some fn) :
    false = Tryd.pinned.checked.prog.looks [] ∧ ∀ (j : Nat) t, fn.params[j]? = some t → Tryd.pinned.checked.prog.wantsStandIn t = false := by
  obtain rfl : f = 9 := Option.some.inj ((show Tryd.prog.funcNamed "rollbook/rollbooklaw34.CertifyEncodes" = some 9 by kernel_rfl).symm.trans hf) |>.symm
  obtain rfl : fn = Tryd.f9 := (Option.some.inj (Tryd.func9.symm.trans hfn)).symm
  refine ⟨by kernel_rfl, fun j t ht => ?_⟩
  have := Array.all_eq_true_iff_forall_mem.1 wants t (Array.mem_of_getElem? ht)
  exact (by simpa using this : Tryd.prog.wantsStandIn t = false)
theorem card : Rows.CertifyEncodesCardSaid :=
  Claim7.holds_tied_plain_at .later [] _ _ _ _ said (fun _ h => by cases h) (by kernel_rfl) (fun _ h => by cases h) certifyEncodes_row_tie rfl ⟨rfl, rfl⟩ (by kernel_rfl) rfl plain (by kernel_rfl)
#print axioms card
end Go.Proofs.YthcklfelofpffaaDoor.rowCertifyEncodes
