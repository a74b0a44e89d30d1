/- The lines of a paragraph. No condition but that the arguments are regular.
What the reference reckons for lines, as plain data. No program is in sight.
The reference's slack, gaps and regularity. No condition but that the widths are regular.
The reference's ends of lines are those of package para. No condition but that the widths are regular.
What a text whose Check gives 0 is like. No program is in sight.
Check of the program returns the specified error. No condition but that the sizes fit. -/
import Derived.Test.YtakaielemicpkaaGreatDoorBZb3
namespace Go.Proofs.YtakaielemicpkaaGreatDoor
open Go.RowKit
theorem Own.slv {α : Type} [Rep α] {w : World} {base n : Nat} {e : TypeId} {A : Option Addr} {c : Nat} {l : List α} (h : Own w base e (.slice A n c) l) (hn : n = l.length) : Sl w (fun b => b < w.heap.size) A c l := by
  subst hn
  obtain ⟨A', c', e', hs⟩ := h.sl
  cases e'
  exact hs
def endsOk : Nat → Nat → List Nat → Prop
  | _, _, [] => True
  | fr, n, e :: es => fr < e ∧ e ≤ n ∧ endsOk e n es
theorem chainE_ok (es : List Nat) (n : Nat) (he : ∀ i, i < n → i < es.getD i 0 ∧ es.getD i 0 ≤ n) : ∀ f i, i ≤ n → endsOk i n (chainE es n f i)
  | 0, _, _ => trivial
  | f + 1, i, hi => by
    rw [chainE]
    split
    · obtain ⟨h1, h2⟩ := he i (by assumption)
      exact ⟨h1, h2, chainE_ok es n he f _ h2⟩
    · trivial
theorem endsP_he {ws : List Int} {m : Int} (hr : Reg ws m) : ∀ i, i < ws.length → i < ((bestL ws m ws.length).map (·.2)).getD i 0 ∧ ((bestL ws m ws.length).map (·.2)).getD i 0 ≤ ws.length := fun i hi => by
  have e : ((bestL ws m ws.length).map (·.2)).getD i 0 = (bestAt ws m i).2 := by
    unfold bestAt
    rw [List.getD_eq_getElem?_getD, List.getD_eq_getElem?_getD, List.getElem?_map, List.getElem?_eq_getElem (by rw [bestL_length]; omega)]; rfl
  rw [e]
  exact bestAt_end hr i hi
theorem endsP_ok {ws : List Int} {m : Int} (hr : Reg ws m) : endsOk 0 ws.length (endsP ws m) := chainE_ok _ _ (endsP_he hr) _ _ (Nat.zero_le _)
theorem endsP_len {ws : List Int} {m : Int} (hr : Reg ws m) : (endsP ws m).length ≤ ws.length := (chainE_sorted _ _ (endsP_he hr) ws.length 0 (by omega) (Nat.zero_le _)).2.2.2.2
theorem Reg.cut {ws : List Int} {m : Int} (hr : Reg ws m) (i j : Nat) : Reg (cutL ws i j) m :=
  ⟨by have := hr.n; unfold cutL; simp; omega, hr.lo, hr.hi, fun x hx => hr.w x (by unfold cutL at hx; exact List.mem_of_mem_take (List.mem_of_mem_drop hx))⟩
instance : Flat Int := ⟨fun h => h⟩
structure Ap (base O : Nat) (w w' : World) : Prop where
  os : w'.os = w.os
  tape : w'.tape = w.tape
  output : w'.output = w.output
  size : w.heap.size ≤ w'.heap.size
  block : ∀ k, k < base → k ≠ O → w'.heap[k]? = w.heap[k]?
theorem Ap.refl (base O : Nat) (w : World) : Ap base O w w := ⟨rfl, rfl, rfl, Nat.le_refl _, fun _ _ _ => rfl⟩
theorem Ap.trans {base O : Nat} {a b c : World} (h : Ap base O a b) (k : Ap base O b c) : Ap base O a c := ⟨k.os.trans h.os, k.tape.trans h.tape, k.output.trans h.output, Nat.le_trans h.size k.size, fun i hi ho => (k.block i hi ho).trans (h.block i hi ho)⟩
theorem Ap.of {base O : Nat} {a b : World} (h : Below base a b) : Ap base O a b := ⟨h.os, h.tape, h.output, h.size, fun i hi _ => h.block i hi⟩
theorem Ap.below {base O B : Nat} {a b : World} (h : Ap base O a b) (hB : B ≤ O) (hb : O ≤ base) : Below B a b := ⟨h.os, h.tape, h.output, h.size, fun i hi => h.block i (by omega) (by omega)⟩
structure LBx (w : World) (O base : Nat) (t : TypeId) (c0 c1 c2 v : Value) (N : List Int) : Prop where
  o : ABox w O t [c0, c1, c2, v]
  n : Own w base 3 v N
  ob : O < base
  sz : base ≤ w.heap.size
theorem LBx.below {w w' : World} {O base : Nat} {t : TypeId} {c0 c1 c2 v : Value} {N : List Int} (h : LBx w O base t c0 c1 c2 v N) (hb : Below w.heap.size w w') : LBx w' O base t c0 c1 c2 v N :=
  ⟨h.o.to hb, h.n.below hb, h.ob, Nat.le_trans h.sz hb.size⟩
theorem LBx.push {w w5 : World} {O base : Nat} {t : TypeId} {c0 c1 c2 v v5 : Value} {N N5 : List Int} (h : LBx w O base t c0 c1 c2 v N) (hown : Own w5 base 3 v5 N5) (hg : w.grownBy w5 v.ownBlock) :
    ABox w5 O t [c0, c1, c2, v] ∧ LBx (w5.setCell ⟨O, 3, none⟩ v5) O base t c0 c1 c2 v5 N5 ∧ Ap base O w (w5.setCell ⟨O, 3, none⟩ v5) := by
  have hO := h.ob
  have hb : Below base w w5 := (Below.refl base w).grown hg h.sz (fun k hk => (h.n.lt k hk).1)
  have hbx : ABox w5 O t [c0, c1, c2, v] := (hb.block O hO).trans h.o
  refine ⟨hbx, ⟨hbx.set 3 v5, hown.at_blocks (fun g _ e => heap_set _ _ _ _ (fun e2 => ?_)), h.ob, ?_⟩, ?_⟩
  · have := (hown.lt g e).1; omega
  · have := h.sz; have := hb.size; simp; omega
  · exact ⟨hb.os, hb.tape, hb.output, by have := hb.size; simpa using this, fun k hk hne => (heap_set _ _ _ _ hne).trans (hb.block k hk)⟩
theorem notesP_step (l : List Word) (k : Nat) (x : Word) (h : l[k]? = some x) : notesP (l.take (k + 1)) = if x.n ≠ 0 then notesP (l.take k) ++ [x.n - 1] else notesP (l.take k) := by
  have hk := (List.getElem?_eq_some_iff.1 h).1
  have e : l[k] = x := (List.getElem?_eq_some_iff.1 h).2
  unfold notesP
  rw [List.take_succ_eq_append_getElem hk, e, List.filter_append, List.map_append]
  by_cases hx : x.n = 0
  · simp [hx]
  · simp [hx]
theorem cutL_len {α : Type} (l : List α) {i j : Nat} (h : i ≤ j) (hj : j ≤ l.length) : (cutL l i j).length = j - i := by unfold cutL; simp; omega
theorem notesP_len (l : List Word) : (notesP l).length ≤ l.length := by unfold notesP; rw [List.length_map]; exact List.length_filter_le _ _
theorem Own.sl_at {α : Type} [Rep α] [Flat α] {w : World} {base n : Nat} {e : TypeId} {A : Option Addr} {c : Nat} {l : List α} (h : Own w base e (.slice A n c) l) (hn : n = l.length) : Sl w (fun b => base ≤ b ∧ b < w.heap.size) A c l := by
  have hs := h.slv hn
  refine ⟨hs.1, hs.2.1, fun h0 => ?_⟩
  obtain ⟨b, o, rfl, hb, hlt, hx⟩ := hs.2.2 h0
  refine ⟨b, o, rfl, ⟨(h.lt b rfl).1, hlt⟩, hlt, fun i hi => ?_⟩
  obtain ⟨es, hr, hc⟩ := hx i hi
  exact ⟨es, Flat.flat hr, hc⟩
theorem rep_ints {w : World} {base n c : Nat} {A : Option Addr} {e : TypeId} {l : List Int} {S : Nat → Prop} (h : Own w base e (.slice A n c) l) (hn : n = l.length) (hS : ∀ b, base ≤ b → S b) : Rep.R w S [.slice A n c] l := by
  subst hn
  exact ⟨A, c, rfl, (h.sl_at rfl).mono (fun i hi _ => hS i hi.1), by have h1 := h.form; obtain ⟨_, _, _, _, h2, h3⟩ := h1; unfold maxLen at h3; omega⟩
theorem lines_set (done : List LineP) (r : Nat) (x : LineP) {B k : Nat} (hk : done.length = k) : ((done ++ List.replicate (r + 1) (⟨0, 0, [], []⟩ : LineP)).map (Bd.mk : LineP → Bd LineP B)).set k ⟨x⟩ = (((done ++ [x]) ++ List.replicate r (⟨0, 0, [], []⟩ : LineP)).map (Bd.mk : LineP → Bd LineP B)) := by
  subst hk
  rw [← List.map_set, List.set_append_right _ _ (Nat.le_refl _), Nat.sub_self, List.replicate_succ, List.append_assoc]
  rfl
theorem line_info : (Tryz.prog.info? 88).map (fun i => (i.zero, i.size, i.bytes)) = some (some (.agg #[.int .i64 0, .int .i64 0, .slice none 0 0, .slice none 0 0]), 4, 64) := by kernel_rfl
theorem wid_row (l : List Word) (j : Nat) (h : j < l.length) : (((widthsP l).take j) ++ List.replicate (l.length - j) 0).set j (width l[j].s) = ((widthsP l).take (j + 1)) ++ List.replicate (l.length - (j + 1)) 0 := by
  have hl : ((widthsP l).take j).length = j := by unfold widthsP; simp; omega
  have e : l.length - j = (l.length - (j + 1)) + 1 := by omega
  have hw : (widthsP l).take (j + 1) = (widthsP l).take j ++ [width l[j].s] := by
    unfold widthsP
    rw [List.take_succ_eq_append_getElem (by simpa using h), List.getElem_map]
  rw [List.set_append_right _ _ (by omega), hl, Nat.sub_self, e, List.replicate_succ, hw, List.append_assoc]
  rfl
theorem wid_at (l : List Word) (j : Nat) (h : j < l.length) : (((widthsP l).take j) ++ List.replicate (l.length - j) 0)[j]? = some 0 := by
  have hl : ((widthsP l).take j).length = j := by unfold widthsP; simp; omega
  rw [List.getElem?_append_right (by omega), hl, Nat.sub_self, List.getElem?_replicate, if_pos (by omega)]
set_option maxRecDepth 100000 in
set_option maxHeartbeats 16000000 in
theorem set_any (A : Option Addr) (c : Nat) (l : List Word) (first m : Int) (w : World) (hs : Sl w (fun b => b < w.heap.size) A c l) (hT : Laid w) (hr : Reg (widthsP l) m) (hf0 : 0 ≤ first) (hf1 : first ≤ 1000000) (hno : ∀ x ∈ l, 0 ≤ x.n ∧ x.n ≤ 1000000) :
    Calls Tryz.prog 114 #[.slice A l.length c, .int .i64 first, .int .i64 m] w fun e w' => ∃ v, e = .returned v ∧ Own w' w.heap.size 88 v ((setP l first m).map (Bd.mk : LineP → Bd LineP w.heap.size)) ∧ Below w.heap.size w w' := by
  have hwl : (widthsP l).length = l.length := by unfold widthsP; rw [List.length_map]
  have h3 : l.length ≤ 500 := by have := hr.n; omega
  have HS := Lib.hid hs
  have HT := Lib.hid hT
  have HR := Lib.hid hr
  have HNO := Lib.hid hno
  have HWL := Lib.hid hwl
  clear hs hT hr hno hwl
  go_enter Tryz.func114, Tryz.ntmps114
  have HR0 : Hid (IRow (w.alloc (.cells (madeCells #[Value.int .i64 0] l.length) 3)) w.heap.size 3 (((widthsP l).take 0) ++ List.replicate (l.length - 0) 0)) := Lib.hid (irow_made1 w l.length _)
  have HB0 : Hid (Below w.heap.size w (w.alloc (.cells (madeCells #[Value.int .i64 0] l.length) 3))) := Lib.hid ((Below.refl _ _).alloc (Nat.le_refl _) _)
  go_wp2_with (first
    | (refine wpList_make rfl 22 (.tmp 20) (.tmp 20) rfl 3 (.int .i64 0) 1 8 Tryz.underlying22 int_info l.length rfl rfl (by omega) (by omega) ?_)
    | fail)
  go_loopw [24] (fun v wr => ∃ j : Nat, j ≤ l.length ∧ v = .int .i64 (j : Int) ∧ Hid (IRow wr w.heap.size 3 (((widthsP l).take j) ++ List.replicate (l.length - j) 0)) ∧ Hid (Below w.heap.size w wr)) (fun v _ => l.length - (intOf v).toNat)
  case atStart => exact ⟨0, Nat.zero_le _, rfl, HR0, HB0⟩
  case round =>
    clear HR0 HB0
    obtain ⟨j, hj, rfl, HI, HB⟩ := hrel
    by_cases hlt : j < l.length
    · have hjk : (j : Int) < (l.length : Int) := by omega
      have hj0 : (0 : Int) ≤ (j : Int) := by omega
      obtain ⟨b, o, rfl, -, hbl, -, e0, e1, e2, e3⟩ := word_at (HS.out.to HB.out) hlt
      have HWA := Lib.hid (wid_at l j hlt)
      have HWR := Lib.hid (wid_row l j hlt)
      obtain ⟨x, hx⟩ : ∃ x, l[j] = x := ⟨_, rfl⟩
      rw [hx] at e0 e1 e2 e3 HWR
      clear hx hbl
      have hba : Below wr.heap.size wr (wr.alloc (.cells #[.string x.s, .string x.key, .int .i64 x.t, .int .i64 x.n] 104)) := (Below.refl _ _).alloc (Nat.le_refl _) _
      have HI1 := Lib.hid (HI.out.to hba)
      have HB1 := Lib.hid (HB.out.trans (hba.mono HB.out.size))
      have HWW := Lib.hid (width_any x.s _ (HT.out.to HB1.out))
      have c1 := HI1.out.cell j HWA.out
      have f1 := HI1.out.fz j
      have HI2 := Lib.hid (HI1.out.set j (width x.s))
      have HB2 : Hid (Below w.heap.size w ((wr.alloc (.cells #[.string x.s, .string x.key, .int .i64 x.t, .int .i64 x.n] 104)).setCell ⟨w.heap.size, j, none⟩ (.int .i64 (width x.s)))) := Lib.hid (HB1.out.setCell (p := ⟨w.heap.size, j, none⟩) (Nat.le_refl _) _)
      rw [HWR.out] at HI2
      clear hba HI HB HI1 HB1 HWA HWR
      go_wp2_with (first | (go_at_call 60; refine HWW.out.mono ?_; rintro e w' ⟨rfl, rfl⟩) | fail)
      go_roundw
      case rel => exact ⟨j + 1, by omega, by go_num, HI2, HB2⟩
      case measure => (first | (simp [intOf]; done) | (simp [intOf]; omega))
    · have HIW : Hid (IRow wr w.heap.size 3 (widthsP l)) := Lib.hid (by
        have h := HI.out
        have hj2 : j = l.length := by omega
        rw [hj2, Nat.sub_self, List.replicate_zero, List.append_nil, List.take_of_length_le (by have := HWL.out; omega)] at h; exact h)
      have HOW : Hid (Own wr w.heap.size 3 (.slice (some ⟨w.heap.size, 0, none⟩) l.length l.length) (widthsP l)) := Lib.hid (by
        have h := HIW.out.own (Nat.le_refl _) (fun y hy => by have := HR.out.w y hy; unfold I64; omega) (by have := HWL.out; unfold maxLen; omega)
        rwa [HWL.out] at h)
      have HSW : Hid (Sl wr (fun b => b < wr.heap.size) (some ⟨w.heap.size, 0, none⟩) l.length (widthsP l)) := Lib.hid (HOW.out.slv HWL.out.symm)
      have HEN := Lib.hid (ends_any (some ⟨w.heap.size, 0, none⟩) l.length (widthsP l) m wr HSW.out HR.out)
      rw [HWL.out] at HEN
      clear HI HOW
      go_wp2_with fail
      refine HEN.out.mono ?_
      rintro e w1 ⟨v1, rfl, ho1, hb1⟩
      obtain ⟨es, hes⟩ : ∃ es, endsP (widthsP l) m = es := ⟨_, rfl⟩
      have hok := endsP_ok HR.out
      have hel := endsP_len HR.out
      rw [hes] at hok hel ho1
      rw [HWL.out] at hok hel
      have HES := Lib.hid hes
      have HOK := Lib.hid hok
      have hel5 : es.length ≤ 500 := by omega
      have HB1 := Lib.hid (HB.out.trans (hb1.mono HB.out.size))
      have HIW1 := Lib.hid (HIW.out.to hb1)
      have HG1 : Hid (w.heap.size ≤ w1.heap.size) := Lib.hid HB1.out.size
      obtain ⟨A1, c1, rfl, hs1⟩ := ho1.sl
      rw [List.length_map]
      have HS1 := Lib.hid hs1
      have hmk := own_made (α := Bd LineP w.heap.size) w1 (base := w.heap.size) (n := es.length) (e := 88) (z := #[.int .i64 0, .int .i64 0, .slice none 0 0, .slice none 0 0]) (x := ⟨⟨0, 0, [], []⟩⟩) HG1.out (by unfold maxLen; omega) rfl (show 0 < 4 by omega) (by simp [Value.oneCell']) (fun W S => ⟨_, _, rfl, ⟨none, 0, rfl, Sl.nil _ _ _ _ (Nat.zero_le _), by show 0 < 9223372036854775808; omega⟩, ⟨none, 0, rfl, Sl.nil _ _ _ _ (Nat.zero_le _), by show 0 < 9223372036854775808; omega⟩⟩)
      have HO1 := Lib.hid hmk
      have hba : Below w1.heap.size w1 (w1.alloc (.cells (madeCells #[.int .i64 0, .int .i64 0, .slice none 0 0, .slice none 0 0] (es.length * Rep.size (Bd LineP w.heap.size))) 88)) := (Below.refl _ _).alloc (Nat.le_refl _) _
      have HS2 := Lib.hid (HS1.out.to hba)
      have HIW2 := Lib.hid (HIW1.out.to hba)
      have HB2 := Lib.hid (HB1.out.trans (hba.mono HB1.out.size))
      clear hes hok hel ho1 hb1 hs1 hmk hba HSW HEN HIW HB
      go_wp2_with (first
        | (refine wpList_make rfl 34 (.tmp 43) (.tmp 43) rfl 88 (.agg #[.int .i64 0, .int .i64 0, .slice none 0 0, .slice none 0 0]) 4 64 Tryz.underlying34 line_info es.length rfl rfl (by omega) (by omega) ?_)
        | fail)
      have HP0 : Hid (setP l first m = [] ++ linesFrom l (widthsP l) m first 0 es) := Lib.hid (by unfold setP; rw [HES.out]; rfl)
      have HO2 : Hid (Own (w1.alloc (.cells (madeCells #[.int .i64 0, .int .i64 0, .slice none 0 0, .slice none 0 0] (es.length * 4)) 88)) w.heap.size 88 (.slice (some ⟨w1.heap.size, 0, none⟩) es.length es.length) ((([] : List LineP) ++ List.replicate es.length (⟨0, 0, [], []⟩ : LineP)).map (Bd.mk : LineP → Bd LineP w.heap.size))) := Lib.hid (by rw [List.nil_append, List.map_replicate]; exact HO1.out)
      have hba : Below w1.heap.size w1 (w1.alloc (.cells (madeCells #[.int .i64 0, .int .i64 0, .slice none 0 0, .slice none 0 0] (es.length * 4)) 88)) := (Below.refl _ _).alloc (Nat.le_refl _) _
      have HBA := Lib.hid hba
      have HG2 : Hid (w1.heap.size < (w1.alloc (.cells (madeCells #[.int .i64 0, .int .i64 0, .slice none 0 0, .slice none 0 0] (es.length * 4)) 88)).heap.size) := Lib.hid (by simp)
      clear hba HO1 HB2 HS2 HIW2
      generalize w1.alloc (.cells (madeCells #[.int .i64 0, .int .i64 0, .slice none 0 0, .slice none 0 0] (es.length * 4)) 88) = w2 at *
      go_loopw [13, 47] (fun vf vi wr2 => ∃ (dn rest : List Nat) (done : List LineP) (fr : Nat), vf = .int .i64 (fr : Int) ∧ vi = .int .i64 (dn.length : Int) ∧ Hid (es = dn ++ rest) ∧ Hid (done.length = dn.length) ∧ Hid (setP l first m = done ++ linesFrom l (widthsP l) m first fr rest) ∧ fr ≤ l.length ∧ Hid (endsOk fr l.length rest) ∧
        Hid (Own wr2 w.heap.size 88 (.slice (some ⟨w1.heap.size, 0, none⟩) es.length es.length) ((done ++ List.replicate rest.length (⟨0, 0, [], []⟩ : LineP)).map (Bd.mk : LineP → Bd LineP w.heap.size))) ∧ Hid (Below w1.heap.size w1 wr2 ∧ w1.heap.size < wr2.heap.size)) (fun _ vi _ => es.length - (intOf vi).toNat)
      case atStart => exact ⟨[], es, [], 0, rfl, rfl, Lib.hid rfl, Lib.hid rfl, HP0, Nat.zero_le _, HOK, HO2, Lib.hid ⟨HBA.out, HG2.out⟩⟩
      case round =>
        clear HP0 HO2 HOK HBA HG2
        clear w2
        obtain ⟨dn, rest, done, fr, rfl, rfl, HE2, HDL, HP, hfr, HOK, HO, HBw⟩ := hrel
        have HLN : Hid (es.length = dn.length + rest.length) := Lib.hid (by rw [HE2.out, List.length_append])
        cases rest with
        | nil =>
          have hge : ¬ (dn.length : Int) < (es.length : Int) := by have := HLN.out; rw [List.length_nil] at this; omega
          go_wp2_with fail
          go_ret
          refine ⟨_, rfl, ?_, HB1.out.trans (HBw.out.1.mono HB1.out.size)⟩
          have h1 := HO.out
          have h2 := HP.out
          rw [linesFrom, List.append_nil] at h2
          rw [List.length_nil, List.replicate_zero, List.append_nil, ← h2] at h1
          have h3 : es.length = ((setP l first m).map (Bd.mk : LineP → Bd LineP w.heap.size)).length := by
            obtain ⟨A', c', e', _⟩ := h1.form
            injection e'
          exact h1
        | cons e rest =>
          have hlt : (dn.length : Int) < (es.length : Int) := by have := HLN.out; rw [List.length_cons] at this; omega
          have hn0 : (0 : Int) ≤ (dn.length : Int) := by omega
          obtain ⟨h1, h2, hok2⟩ := HOK.out
          have HOK2 := Lib.hid hok2
          have HSE : Hid (Sl ‹World› (fun b => b < w1.heap.size) A1 c1 (es.map (fun (n : Nat) => (n : Int)))) := Lib.hid (HS1.out.keep (Kept.below HBw.out.1 (fun i hi => hi)) HBw.out.1.size)
          have HI2 : Hid (IRow wr w.heap.size 3 (widthsP l)) := Lib.hid ((HBw.out.1.block w.heap.size HIW1.out.lt).trans HIW1.out)
          obtain ⟨b1, o1, hA1, -, -, -, ce⟩ := int_at HSE.out (k := dn.length) (by have := HLN.out; simp at this ⊢; omega)
          have hce : (es.map (fun (n : Nat) => (n : Int)))[dn.length]'(by have := HLN.out; simp at this ⊢; omega) = (e : Int) := by
            simp [HE2.out]
          rw [hce] at ce
          have HFI : Hid ((0 : Int) ≤ fr ∧ (fr : Int) < e ∧ (e : Int) ≤ l.length) := Lib.hid ⟨by omega, by omega, by omega⟩
          have hwf : IntKind.i64.wrap (first + (fr : Int)) = first + (fr : Int) := IntWalk.i64_in _ (by omega)
          have hwe : IntKind.i64.wrap (first + (e : Int)) = first + (e : Int) := IntWalk.i64_in _ (by omega)
          have hfe : (fr : Int) ≤ (e : Int) := by omega
          have hel : (e : Int) ≤ (l.length : Int) := by omega
          have hf0' : (0 : Int) ≤ (fr : Int) := by omega
          obtain ⟨last, hlast⟩ : ∃ last : Bool, decide (rest = []) = last := ⟨_, rfl⟩
          have hlq : (((dn.length : Int)) == (es.length : Int) - 1) = last := by
            rw [← hlast, Bool.eq_iff_iff, beq_iff_eq, decide_eq_true_iff, HLN.out, List.length_cons, ← List.length_eq_zero_iff]
            clear hwf hwe
            omega
          have HLA := Lib.hid hlast
          clear hlast hce hok2 h1 h2 HS1 HLN HOK
          subst hA1
          have hne : ¬ e = fr := by have := HFI.out; intro h; omega
          have HSW2 : Hid (Sl wr (fun b => b < wr.heap.size) (some ⟨w.heap.size, fr, none⟩) (e - fr) (cutL (widthsP l) fr e)) := Lib.hid (by
            have hown := HI2.out.own (B := 0) (Nat.zero_le _) (fun y hy => by have := HR.out.w y hy; unfold I64; omega) (by have := HWL.out; unfold maxLen; omega)
            have hs := (hown.slv rfl).take e (by have := HWL.out; omega)
            have hs2 : Sl wr (fun b => b < wr.heap.size) (some ⟨w.heap.size, 0, none⟩) e ((widthsP l).take e) := ⟨by rw [List.length_take]; omega, by unfold maxLen; omega, hs.2.2⟩
            have hs3 := hs2.drop fr (by rw [List.length_take]; have := HWL.out; omega)
            rw [if_neg hne] at hs3
            unfold cutL; simpa [addr_add, Rep.size] using hs3)
          have HGA := Lib.hid (gaps_any (some ⟨w.heap.size, fr, none⟩) (e - fr) (cutL (widthsP l) fr e) m last wr HSW2.out (HR.out.cut fr e))
          have hcl : (cutL (widthsP l) fr e).length = e - fr := cutL_len _ (by omega) (by have := HWL.out; omega)
          rw [hcl] at HGA
          clear hcl HSW2
          obtain ⟨gp, hgp⟩ : ∃ gp, gapsP (cutL (widthsP l) fr e) m last = gp := ⟨_, rfl⟩
          rw [hgp] at HGA
          have HGP := Lib.hid hgp
          clear hgp
          go_upto_region 14 with (first
            | (go_at_call 136; refine HGA.out.mono ?_; rintro e' w3 ⟨v3, rfl, ho3, hb3⟩; obtain ⟨A3, c3, rfl, -⟩ := ho3.form)
            | fail)
          have hba : Below w3.heap.size w3 (w3.alloc (.cells #[.int .i64 (first + (fr : Int)), .int .i64 (first + (e : Int)), .slice A3 gp.length c3, .slice none 0 0] 88)) := (Below.refl _ _).alloc (Nat.le_refl _) _
          have HL0 : Hid (LBx (w3.alloc (.cells #[.int .i64 (first + (fr : Int)), .int .i64 (first + (e : Int)), .slice A3 gp.length c3, .slice none 0 0] 88)) w3.heap.size (w3.heap.size + 1) 88 (.int .i64 (first + (fr : Int))) (.int .i64 (first + (e : Int))) (.slice A3 gp.length c3) (.slice none 0 0) []) := Lib.hid ⟨heap_alloc_new _ _, Own.nil _ _ _, Nat.lt_succ_self _, by simp⟩
          have HBA := Lib.hid hba
          have HO3 := Lib.hid ho3
          have HB3 := Lib.hid hb3
          have HB13 : Hid (Below w.heap.size w w3) := Lib.hid (HB1.out.trans ((HBw.out.1.trans (hb3.mono (Nat.le_of_lt HBw.out.2))).mono HB1.out.size))
          obtain ⟨ba, oa, rfl, -⟩ := HS.out.2.2 (by have := HFI.out; omega)
          have hcl : l.length ≤ c := HS.out.1
          have hec : (e : Int) ≤ (c : Int) := by omega
          have hcf : ¬ c = fr := by have := HFI.out; omega
          have HWC : Hid (Sl w (fun b => b < w.heap.size) (some ⟨ba, oa + fr * 4, none⟩) (c - fr) (cutL l fr e)) := Lib.hid (by
            have hs3 := (HS.out.take e (by omega)).drop fr (by rw [List.length_take]; have := HFI.out; omega)
            rw [if_neg hcf] at hs3
            unfold cutL; simpa [addr_add, Rep.size] using hs3)
          have HCL : Hid ((cutL l fr e).length = e - fr) := Lib.hid (cutL_len _ (by have := HFI.out; omega) (by omega))
          have HCN : Hid (∀ x ∈ cutL l fr e, 0 ≤ x.n ∧ x.n ≤ 1000000) := Lib.hid (fun x hx => HNO.out x (by unfold cutL at hx; exact List.mem_of_mem_take (List.mem_of_mem_drop hx)))
          have HCI : Hid (((e - fr : Nat) : Int) = (e : Int) - (fr : Int)) := Lib.hid (by have := HFI.out; omega)
          have hw75 : IntKind.i64.wrap ((e : Int) - (fr : Int)) = ((e - fr : Nat) : Int) := by rw [IntWalk.i64_in _ (by omega)]; exact HCI.out.symm
          generalize w3.alloc (.cells #[.int .i64 (first + (fr : Int)), .int .i64 (first + (e : Int)), .slice A3 gp.length c3, .slice none 0 0] 88) = w4 at *
          clear hba ho3 hb3 hwf hwe hlq ce HSE HGA HI2
          generalize hec0 : cutL l fr e = cw at *
          have HEC := Lib.hid hec0
          clear hec0
          go_upto_region 15 with (fail)
          have HA0 : Hid (Ap (w3.heap.size + 1) w3.heap.size w4 w4) := Lib.hid (Ap.refl _ _ _)
          generalize hO : w3.heap.size = O at *
          have HOE := Lib.hid hO
          clear hO
          have HOW : Hid (w.heap.size ≤ O) := Lib.hid (by have := HB13.out.size; have := HOE.out; omega)
          generalize hn : e - fr = n at *
          have HN := Lib.hid hn
          clear hn
          obtain ⟨wo, rfl⟩ : ∃ wo : World, wo = wr := ⟨_, rfl⟩
          go_loopw [76] (fun vi wx => ∃ (k : Nat) (v : Value) (N : List Int), vi = .int .i64 (k : Int) ∧ k ≤ n ∧ Hid (LBx wx O (O + 1) 88 (.int .i64 (first + (fr : Int))) (.int .i64 (first + (e : Int))) (.slice A3 gp.length c3) v N) ∧ Hid (N = notesP (cw.take k)) ∧ Hid (Ap (O + 1) O w4 wx)) (fun vi _ => n - (intOf vi).toNat)
          case atStart => exact ⟨0, _, [], rfl, Nat.zero_le _, HL0, Lib.hid rfl, HA0⟩
          case round =>
            clear HL0 HA0
            obtain ⟨k, v, N, rfl, hk, HL, HNK, HA⟩ := hrel
            obtain ⟨A4, c4, rfl, -⟩ := HL.out.n.form
            have HB4 : Hid (Below w.heap.size w wr) := Lib.hid (HB13.out.trans ((HBA.out.mono HOW.out).trans (HA.out.below HOW.out (Nat.le_succ O))))
            by_cases hlt2 : k < n
            · have hki : (k : Int) < (n : Int) := by omega
              have hk0 : (0 : Int) ≤ (k : Int) := by omega
              have hn5 : n ≤ 500 := by have := HN.out; omega
              obtain ⟨b, o, hbo, -, hbl, -, e0, e1, e2, e3⟩ := word_at (HWC.out.to HB4.out) (k := k) (by rw [HCL.out]; exact hlt2)
              cases hbo
              obtain ⟨x, hx⟩ : ∃ x, cw[k]'(by rw [HCL.out]; exact hlt2) = x := ⟨_, rfl⟩
              rw [hx] at e0 e1 e2 e3
              have HX : Hid (cw[k]? = some x) := Lib.hid (by rw [List.getElem?_eq_getElem (by rw [HCL.out]; exact hlt2), hx])
              have hxn := HCN.out x (List.mem_of_getElem? HX.out)
              obtain ⟨hx0, hx1⟩ := hxn
              have HNN : Hid (N.length ≤ k) := Lib.hid (by rw [HNK.out]; exact Nat.le_trans (notesP_len _) (by rw [List.length_take]; omega))
              have HST := Lib.hid (notesP_step cw k x HX.out)
              rw [← HNK.out] at HST
              have hba : Below wr.heap.size wr (wr.alloc (.cells #[.string x.s, .string x.key, .int .i64 x.t, .int .i64 x.n] 104)) := (Below.refl _ _).alloc (Nat.le_refl _) _
              have HLA := Lib.hid (HL.out.below hba)
              have HAA : Hid (Ap (O + 1) O w4 (wr.alloc (.cells #[.string x.s, .string x.key, .int .i64 x.t, .int .i64 x.n] 104))) := Lib.hid (HA.out.trans (Ap.of (hba.mono HL.out.sz)))
              have m3 := (heap_at (W := wr) (o := .cells #[.string x.s, .string x.key, .int .i64 x.t, .int .i64 x.n] 104) rfl)
              have n3 : (wr.alloc (.cells #[.string x.s, .string x.key, .int .i64 x.t, .int .i64 x.n] 104)).cell? ⟨wr.heap.size, 3, none⟩ = some (.int .i64 x.n) := by rw [cell_of_row _ _ _ _ _ _ m3]; rfl
              have HSZ : Hid ((wr.alloc (.cells #[.string x.s, .string x.key, .int .i64 x.t, .int .i64 x.n] 104)).heap.size = wr.heap.size + 1) := Lib.hid (by simp)
              have HOO : Hid (O + 1 ≤ wr.heap.size) := Lib.hid HL.out.sz
              clear hx hbl hba HL HA m3
              go_upto_region 17 with (fail)
              generalize hwa : World.alloc wr _ = wa
              have hwb : wr.alloc (.cells #[.string x.s, .string x.key, .int .i64 x.t, .int .i64 x.n] 104) = wa := hwa
              rw [hwb] at HLA HAA n3 HSZ
              clear hwa hwb e0 e1 e2 e3
              by_cases h0 : x.n = 0
              · have HSN : Hid (notesP (cw.take (k + 1)) = N) := Lib.hid (by rw [HST.out, if_neg (by simpa using h0)])
                rw [h0] at n3
                go_wp2_with fail
                go_roundw
                case rel => exact ⟨k + 1, _, N, by go_num, by omega, HLA, Lib.hid HSN.out.symm, HAA⟩
                case measure => (first | (simp [intOf]; done) | (simp [intOf]; omega))
              · have HSN : Hid (notesP (cw.take (k + 1)) = N ++ [x.n - 1]) := Lib.hid (by rw [HST.out, if_pos h0])
                have h00 : (x.n == 0) = false := by rw [beq_eq_false_iff_ne]; exact h0
                have q3 := HLA.out.o.cell 3 rfl
                have hbb : Below wa.heap.size wa (wa.alloc (.cells #[.int .i64 (x.n - 1)] 3)) := (Below.refl _ _).alloc (Nat.le_refl _) _
                have HLB := Lib.hid (HLA.out.below hbb)
                have HAB : Hid (Ap (O + 1) O w4 (wa.alloc (.cells #[.int .i64 (x.n - 1)] 3))) := Lib.hid (HAA.out.trans (Ap.of (hbb.mono HLA.out.sz)))
                have HI : Hid (I64 (x.n - 1)) := Lib.hid (by unfold I64; omega)
                have HN5 : Hid (n ≤ 500) := Lib.hid (by have := HN.out; omega)
                clear hbb
                go_wp2_with (first
                  | (at_builtin; refine wpList_push (α := Int) _ rfl (.tmp 84) (.tmp 88) 22 rfl (O + 1) 3 (.int .i64 0) 8 Tryz.underlying22 int_info rfl (by decide) (.slice A4 N.length c4) N rfl HLB.out.n wa.heap.size #[.int .i64 (x.n - 1)] (x.n - 1) (0, 0) 3 rfl (heap_alloc_new wa _) ⟨rfl, HI.out⟩ (by have := HNN.out; have := HN5.out; omega) (by have := HNN.out; have := HN5.out; omega) (by have := HLB.out.sz; simpa using this) _ rfl ?_; intro g5 p5 w5 hown5 hg5 hat5 hlt5; obtain ⟨hbx, hl5, ha5⟩ := HLB.out.push hown5 hg5; have q5 := hbx.cell 3 rfl; have qf := hbx.fz 3; have HL5 := Lib.hid hl5; have HA5 := Lib.hid (HAB.out.trans ha5); clear hown5 hg5 hat5 hlt5 hbx hl5 ha5)
                  | fail)
                go_roundw
                case rel => exact ⟨k + 1, .slice (some ⟨g5, 0, none⟩) (N.length + 1) p5, N ++ [x.n - 1], by go_num, by omega, HL5, Lib.hid HSN.out.symm, HA5⟩
                case measure => (first | (simp [intOf]; done) | (simp [intOf]; omega))
            · obtain rfl : k = n := by omega
              have HNE : Hid (N = notesP cw) := Lib.hid (by rw [HNK.out, List.take_of_length_le (by rw [HCL.out]; exact Nat.le_refl _)])
              have HBO : Hid (Below O w3 wr) := Lib.hid (HBA.out.trans (HA.out.below (Nat.le_refl O) (Nat.le_succ O)))
              have HLG := Lib.hid HL.out
              have HOK3 : Hid (Own wr w.heap.size 88 (.slice (some ⟨w1.heap.size, 0, none⟩) es.length es.length) ((done ++ List.replicate (rest.length + 1) (⟨0, 0, [], []⟩ : LineP)).map (Bd.mk : LineP → Bd LineP w.heap.size))) := Lib.hid (HO.out.kept (fun i hi => ((HBO.out.block i (by have := HB3.out.size; have := HOE.out; omega)).trans (HB3.out.block i hi))))
              have HGO : Hid (Own wr wo.heap.size 3 (.slice A3 gp.length c3) gp) := Lib.hid (HO3.out.kept (fun i hi => HBO.out.block i (by have := HOE.out; omega)))
              have r0 := HL.out.o.cell 0 rfl
              have r1 := HL.out.o.cell 1 rfl
              have r2 := HL.out.o.cell 2 rfl
              have r3 := HL.out.o.cell 3 rfl
              obtain ⟨L, hL⟩ : ∃ L : List (Bd LineP w.heap.size), ((done ++ List.replicate (rest.length + 1) (⟨0, 0, [], []⟩ : LineP)).map (Bd.mk : LineP → Bd LineP w.heap.size)) = L := ⟨_, rfl⟩
              have hLL : es.length = L.length := by rw [← hL, HE2.out]; simp [HDL.out]
              have HLE := Lib.hid hL
              have HLLE := Lib.hid hLL
              rw [hL] at HOK3
              have HOK4 : Hid (Own wr w.heap.size 88 (.slice (some ⟨w1.heap.size, 0, none⟩) L.length es.length) L) := Lib.hid (by have h := HOK3.out; rwa [show Value.slice (some ⟨w1.heap.size, 0, none⟩) es.length es.length = Value.slice (some ⟨w1.heap.size, 0, none⟩) L.length es.length by rw [hLL]] at h)
              have HDI : Hid (dn.length < L.length) := Lib.hid (by rw [← hLL, HE2.out]; simp)
              have HTH := Lib.hid (HOK4.out.there HDI.out)
              have hrp : Rep.R wr (fun b => b ≠ w1.heap.size) [.int .i64 (first + (fr : Int)), .int .i64 (first + (e : Int)), .slice A3 gp.length c3, .slice A4 N.length c4] (Bd.mk (B := w.heap.size) (⟨first + (fr : Int), first + (e : Int), gp, N⟩ : LineP)) := ⟨_, _, rfl, rep_ints HGO.out rfl (fun b hb => ⟨by have := HBw.out.2; omega, by have := HBw.out.2; have := HG1.out; omega⟩), rep_ints HL.out.n rfl (fun b hb => ⟨by have := HBw.out.2; have := HB3.out.size; have := HOE.out; omega, by have := HOW.out; omega⟩)⟩
              have HSM := Lib.hid (HOK4.out.setMid HDI.out hrp)
              have HB5 : Hid (Below w1.heap.size w1 (wr.setCells w1.heap.size (dn.length * 4) [.int .i64 (first + (fr : Int)), .int .i64 (first + (e : Int)), .slice A3 gp.length c3, .slice A4 N.length c4]) ∧ w1.heap.size < (wr.setCells w1.heap.size (dn.length * 4) [.int .i64 (first + (fr : Int)), .int .i64 (first + (e : Int)), .slice A3 gp.length c3, .slice A4 N.length c4]).heap.size) := Lib.hid (by
                have hb : Below w1.heap.size w1 wr := HBw.out.1.trans ((HB3.out.trans (HBO.out.mono (by have := HB3.out.size; have := HOE.out; omega))).mono (Nat.le_of_lt HBw.out.2))
                exact ⟨below_setCells (Nat.le_refl _) _ _ hb, by rw [size_setCells]; have := hb.size; have := HBw.out.2; have := HB3.out.size; have := HBO.out.size; omega⟩)
              have HPX : Hid (setP l first m = (done ++ [(⟨first + (fr : Int), first + (e : Int), gp, N⟩ : LineP)]) ++ linesFrom l (widthsP l) m first e rest) := Lib.hid (by
                rw [HP.out, linesFrom, HLA.out, HGP.out, HEC.out, ← HNE.out, List.append_assoc]; rfl)
              have HON : Hid ((#[.int .i64 (first + (fr : Int)), .int .i64 (first + (e : Int)), .slice A3 gp.length c3, .slice A4 N.length c4] : Array Value).all (·.oneCell') = true) := Lib.hid (by simp [Value.oneCell'])
              clear hrp hL hLL
              go_wp2_with (first
                | (refine wpList_store_mid rfl 88 (.tmp 96) (.tmp 94) rfl w1.heap.size (dn.length * 4) #[.int .i64 (first + (fr : Int)), .int .i64 (first + (e : Int)), .slice A3 gp.length c3, .slice A4 N.length c4] rfl rfl HTH.out (by kernel_rfl) HON.out ?_)
                | fail)
              go_roundw
              case rel => exact ⟨dn ++ [e], rest, done ++ [⟨first + (fr : Int), first + (e : Int), gp, N⟩], e, rfl, by rw [List.length_append]; go_num, Lib.hid (by rw [HE2.out]; simp), Lib.hid (by simp [HDL.out]), HPX, by have := HFI.out; omega, HOK2, Lib.hid (by
                have h := HSM.out
                rw [← HLE.out, lines_set _ _ _ HDL.out, HLE.out, ← HLLE.out] at h
                exact h), HB5⟩
              case measure => (have h := HLLE.out; have h2 := HDI.out; first | (simp [intOf]; done) | (simp [intOf]; omega))
end Go.Proofs.YtakaielemicpkaaGreatDoor
namespace Go.Proofs.YtakaielemicpkaaGreatDoor
open Go.RowKit
theorem slack_shift (ws : List Int) (a d : Int) : ws.foldl (fun s w => s - (w + 6)) (a + d) = ws.foldl (fun s w => s - (w + 6)) a + d := by
  induction ws generalizing a with
  | nil => rfl
  | cons x ws ih => rw [List.foldl_cons, List.foldl_cons, show a + d - (x + 6) = a - (x + 6) + d by omega, ih]
theorem slackP_add (ws : List Int) (m d : Int) : slackP ws (m + d) = slackP ws m + d := by
  unfold slackP; rw [show m + d + 6 = m + 6 + d by omega, slack_shift]
theorem slackP_snoc (ws : List Int) (x m : Int) : slackP (ws ++ [x]) m = slackP ws m - (x + 6) := by unfold slackP; rw [List.foldl_append]; rfl
def slackR (ws : List Int) (m : Int) (k : Nat) : Int := slackP (ws.take k) (m - 6 * ((ws.length : Int) - (k : Int)))
theorem slackR_zero (ws : List Int) (m : Int) : slackR ws m 0 = m - 6 * ((ws.length : Int) - 1) := by
  unfold slackR slackP
  rw [List.take_zero, List.foldl_nil]
  omega
theorem slackR_step (ws : List Int) (m : Int) {k : Nat} (h : k < ws.length) : slackR ws m (k + 1) = slackR ws m k - ws[k] := by
  unfold slackR
  rw [List.take_succ_eq_append_getElem h, slackP_snoc, show m - 6 * ((ws.length : Int) - ((k + 1 : Nat) : Int)) = m - 6 * ((ws.length : Int) - (k : Int)) + 6 by omega, slackP_add]
  omega
theorem slackR_all (ws : List Int) (m : Int) : slackR ws m ws.length = slackP ws m := by
  unfold slackR
  rw [List.take_length, show m - 6 * ((ws.length : Int) - (ws.length : Int)) = m by omega]
theorem slackR_bound {ws : List Int} {m : Int} (hr : Reg ws m) {k : Nat} (hk : k ≤ ws.length) : -1000000 ≤ slackR ws m k ∧ slackR ws m k ≤ 1000000 := by
  have hn := hr.n
  have h1 := hr.lo
  have h2 := hr.hi
  have h3 := slackP_bound (ws.take k) (fun x hx => hr.w x (List.mem_of_mem_take hx)) (m - 6 * ((ws.length : Int) - (k : Int)) + 6)
  rw [List.length_take, Nat.min_eq_left hk] at h3
  unfold slackR slackP
  omega
def gapR (last : Bool) (s k : Int) (i : Nat) : Int := if last = true then 6 else gapF s k i
theorem gapsR_eq (ws : List Int) (m : Int) (last : Bool) : gapsP ws m last = (List.range (ws.length - 1)).map (gapR last (slackP ws m) ((ws.length - 1 : Nat) : Int)) := by
  unfold gapsP
  by_cases h : ws.length ≤ 1
  · rw [if_pos h, show ws.length - 1 = 0 by omega]; rfl
  · rw [if_neg h]
    cases last with
    | true =>
      rw [if_pos rfl]
      refine List.ext_getElem (by simp) (fun i h1 h2 => ?_)
      simp [gapR]
    | false =>
      rw [if_neg (by simp)]
      rfl
end Go.Proofs.YtakaielemicpkaaGreatDoor
namespace Go.Proofs.YtakaielemicpkaaGreatDoor
open Go.RowKit
set_option maxHeartbeats 1000000 in
theorem rslack_any (A : Option Addr) (c : Nat) (ws : List Int) (m : Int) (w : World) (hs : Sl w (fun b => b < w.heap.size) A c ws) (hr : Reg ws m) :
    Calls Tryz.prog 130 #[.slice A ws.length c, .int .i64 m] w fun e w' => e = .returned (.int .i64 (slackP ws m)) ∧ w = w' := by
  have HS := Lib.hid hs
  have HR := Lib.hid hr
  have h1 : m ≤ 2000 := hr.hi
  have h2 : 500 ≤ m := hr.lo
  have h3 : ws.length ≤ 500 := hr.n
  have hc : ws.length ≤ c := hs.1
  have HZ := Lib.hid (slackR_zero ws m)
  obtain ⟨n, hn⟩ : ∃ n, ws.length = n := ⟨_, rfl⟩
  have HN := Lib.hid hn
  rw [hn] at h3 hc HZ ⊢
  clear hs hr hn
  go_enter Tryz.func130, Tryz.ntmps130
  go_wp2_with fail
  go_loopw [5, 6] (fun s i wr => ∃ k : Nat, k ≤ n ∧ i = .int .i64 k ∧ s = .int .i64 (slackR ws m k) ∧ w = wr) (fun _ i _ => n - (intOf i).toNat)
  case atStart => exact ⟨0, by omega, rfl, by rw [HZ.out], by first | rfl | trivial⟩
  case round =>
    obtain ⟨k, hk, rfl, rfl, rfl⟩ := hrel
    by_cases hlt : k < n
    · have hkl : k < ws.length := by rw [HN.out]; exact hlt
      obtain ⟨b, o, rfl, -, -, -, e1⟩ := int_at HS.out hkl
      have hst := slackR_step ws m hkl
      have hb := slackR_bound HR.out (k := k) (by omega)
      have hx := HR.out.w ws[k] (List.getElem_mem hkl)
      obtain ⟨y, hy⟩ : ∃ y, ws[k] = y := ⟨_, rfl⟩
      obtain ⟨s, hsk⟩ : ∃ s, slackR ws m k = s := ⟨_, rfl⟩
      rw [hy] at e1 hst hx
      rw [hsk] at hst hb ⊢
      have HST := Lib.hid hst
      have hkI : (k : Int) < (n : Int) := by omega
      obtain ⟨hb1, hb2⟩ := hb
      obtain ⟨hx1, hx2⟩ := hx
      clear hy hst hkl hsk
      go_wp2_with fail
      go_roundw
      case rel => exact ⟨k + 1, by omega, by go_num, by rw [HST.out], by first | rfl | trivial⟩
      case measure => simp [intOf]; omega
    · obtain rfl : k = n := by omega
      have hall : slackR ws m k = slackP ws m := by rw [← HN.out]; exact slackR_all ws m
      rw [hall]
      have HA := Lib.hid hall
      clear hall
      go_wp2_with fail
      go_ret
      first | exact ⟨rfl, rfl⟩ | exact ⟨rfl, trivial⟩
set_option maxHeartbeats 1000000 in
theorem regular_any (A : Option Addr) (c : Nat) (ws : List Int) (m : Int) (w : World) (hs : Sl w (fun b => b < w.heap.size) A c ws) (hr : Reg ws m) :
    Calls Tryz.prog 129 #[.slice A ws.length c, .int .i64 m] w fun e w' => e = .returned (.int .i64 0) ∧ Below w.heap.size w w' := by
  have HS := Lib.hid hs
  have HR := Lib.hid hr
  have h1 : m ≤ 2000 := hr.hi
  have h2 : 500 ≤ m := hr.lo
  have h3 : ws.length ≤ 500 := hr.n
  have hc : ws.length ≤ c := hs.1
  obtain ⟨n, hn⟩ : ∃ n, ws.length = n := ⟨_, rfl⟩
  have HN := Lib.hid hn
  rw [hn] at h3 hc ⊢
  clear hs hr hn
  go_enter Tryz.func129, Tryz.ntmps129
  go_wp2_with fail
  go_loopw [5] (fun i wr => ∃ k : Nat, k ≤ n ∧ i = .int .i64 k ∧ Below w.heap.size w wr) (fun i _ => n - (intOf i).toNat)
  case atStart => exact ⟨0, by omega, rfl, Below.refl _ _⟩
  case round =>
    obtain ⟨k, hk, rfl, hbl⟩ := hrel
    by_cases hlt : k < n
    · have hkl : k < ws.length := by rw [HN.out]; exact hlt
      obtain ⟨b, o, rfl, -, -, -, e1⟩ := int_at (HS.out.to hbl) hkl
      have hx := HR.out.w ws[k] (List.getElem_mem hkl)
      obtain ⟨y, hy⟩ : ∃ y, ws[k] = y := ⟨_, rfl⟩
      rw [hy] at e1 hx
      have hkI : (k : Int) < (n : Int) := by omega
      obtain ⟨hx1, hx2⟩ := hx
      have HBL := Lib.hid hbl
      clear hy hkl hbl
      go_wp2_with fail
      go_roundw
      case rel => exact ⟨k + 1, by omega, by go_num, HBL.out⟩
      case measure => simp [intOf]; omega
    · obtain rfl : k = n := by omega
      have HBL := Lib.hid hbl
      clear hbl
      go_wp2_with fail
      go_ret
      exact ⟨rfl, HBL.out⟩
set_option maxRecDepth 100000 in
set_option maxHeartbeats 4000000 in
theorem rgaps_any (A : Option Addr) (c : Nat) (ws : List Int) (m : Int) (last : Bool) (w : World) (hs : Sl w (fun b => b < w.heap.size) A c ws) (hr : Reg ws m) :
    Calls Tryz.prog 111 #[.slice A ws.length c, .int .i64 m, .bool last] w fun e w' => ∃ v, e = .returned v ∧ Own w' w.heap.size 3 v (gapsP ws m last) ∧ Below w.heap.size w w' := by
  have h3 : ws.length ≤ 500 := hr.n
  have HSL := Lib.hid (rslack_any A c ws m w hs hr)
  have hsb := slackP_bound ws hr.w (m + 6)
  have HG := Lib.hid (gapsR_eq ws m last)
  have h1 := hr.lo
  have h2 := hr.hi
  obtain ⟨sl, hsl⟩ : ∃ sl, slackP ws m = sl := ⟨_, rfl⟩
  rw [hsl] at HSL HG
  have hb1 : -300000 ≤ sl := by rw [← hsl]; unfold slackP; omega
  have hb2 : sl ≤ 3000 := by rw [← hsl]; unfold slackP; omega
  obtain ⟨n, hn⟩ : ∃ n, ws.length = n := ⟨_, rfl⟩
  have HN := Lib.hid hn
  rw [hn] at h3 HSL HG ⊢
  obtain ⟨kI, hki⟩ : ∃ kI : Int, (n : Int) - 1 = kI := ⟨_, rfl⟩
  have hk1 : -1 ≤ kI := by omega
  have hk2 : kI ≤ 499 := by omega
  have HK : Hid ((n : Int) - 1 = kI) := Lib.hid hki
  obtain ⟨q, hq⟩ : ∃ q, sl.tdiv kI = q := ⟨_, rfl⟩
  obtain ⟨r, hr2⟩ : ∃ r, sl.tmod kI = r := ⟨_, rfl⟩
  have hqb : -300000 ≤ q ∧ q ≤ 300000 := by
    have h1 : (sl.tdiv kI).natAbs = sl.natAbs / kI.natAbs := Int.natAbs_tdiv sl kI
    have h2 := Nat.div_le_self sl.natAbs kI.natAbs
    rw [hq] at h1
    omega
  obtain ⟨hq1, hq2⟩ := hqb
  have HF : Hid (∀ j : Nat, gapF sl kI j = 6 + q + if (j : Int) < r then 1 else 0) := Lib.hid (fun j => by unfold gapF; rw [hq, hr2])
  have hwq : IntKind.i64.wrap (sl.tdiv kI) = q := by rw [hq]; exact IntWalk.i64_in _ (by omega)
  have HWQ := Lib.hid hwq
  have HQ := Lib.hid hq
  have HR2 := Lib.hid hr2
  clear hs hr hn hsl hsb hwq hq hr2
  go_enter Tryz.func111, Tryz.ntmps111
  go_wp2_with (first | (go_at_call 130; refine HSL.out.mono ?_; rintro e w' ⟨rfl, rfl⟩) | fail)
  go_loopw [7, 10] (fun v i wr => ∃ j : Nat, i = .int .i64 j ∧ j ≤ n - 1 ∧ Hid (Own wr w.heap.size 3 v ((List.range j).map (gapR last sl kI))) ∧ Hid (Below w.heap.size w wr)) (fun _ i _ => n - 1 - (intOf i).toNat)
  case atStart => exact ⟨0, rfl, by omega, Lib.hid (Own.nil _ _ _), Lib.hid (Below.refl _ _)⟩
  case round =>
    obtain ⟨j, rfl, hj, HO, HB⟩ := hrel
    by_cases hlt : (j : Int) < kI
    · obtain ⟨A2, c2, hv2, -⟩ := HO.out.form
      subst hv2
      obtain ⟨x, hx⟩ : ∃ x, gapR last sl kI j = x := ⟨_, rfl⟩
      have HX : Hid ((List.range (j + 1)).map (gapR last sl kI) = (List.range j).map (gapR last sl kI) ++ [x]) := Lib.hid (by rw [List.range_succ, List.map_append, ← hx]; rfl)
      obtain ⟨L, hL⟩ : ∃ L, (List.range j).map (gapR last sl kI) = L := ⟨_, rfl⟩
      have hLl : L.length = j := by rw [← hL, List.length_map, List.length_range]
      rw [hL] at HO HX ⊢
      have HO2 := HO
      have HLL := Lib.hid hLl
      have hk0 : ¬ kI = 0 := by omega
      have hk00 : (kI == 0) = false := by rw [beq_eq_false_iff_ne]; exact hk0
      have hwq := HWQ.out
      have hj4 : j ≤ 499 := by omega
      clear HO hL hLl
      cases last with
      | true =>
        obtain rfl : x = 6 := by rw [← hx]; rfl
        clear hx
        have HI : Hid (I64 (6)) := Lib.hid (by unfold I64; omega)
        have HO3 := Lib.hid (HO2.out.alloc (.cells #[.int .i64 (6)] 3))
        have HS3 : Hid (w.heap.size ≤ wr.heap.size) := Lib.hid HB.out.size
        go_wp2_with (first
          | (at_builtin; refine wpList_push (α := Int) _ rfl (.tmp 37) (.tmp 39) 22 rfl w.heap.size 3 (.int .i64 0) 8 Tryz.underlying22 int_info rfl (by decide) _ L rfl HO3.out wr.heap.size #[.int .i64 (6)] (6) (0, 0) 3 rfl (heap_alloc_new wr _) ⟨rfl, HI.out⟩ (by have := HLL.out; omega) (by have := HLL.out; omega) (by have := HS3.out; simp; omega) _ rfl ?_; intro g5 p5 w5 hown5 hg5 hat5 hlt5; have HON := Lib.hid hown5; have HBN := Lib.hid (below_push HB.out HO2.out HS3.out hg5); clear hown5 hg5 hat5 hlt5)
          | fail)
        go_roundw
        case rel => exact ⟨j + 1, by go_num, by omega, Lib.hid (by rw [HX.out]; exact HON.out), HBN⟩
        case measure => simp [intOf]; omega
      | false =>
        by_cases hjr : (j : Int) < r
        · have hxe : x = 6 + q + 1 := by rw [← hx]; show gapF sl kI j = _; rw [HF.out, if_pos hjr]
          subst hxe
          have hr3 := HR2.out
          clear hx
          have HI : Hid (I64 (6 + q + 1)) := Lib.hid (by unfold I64; omega)
          have HO3 := Lib.hid (HO2.out.alloc (.cells #[.int .i64 (6 + q + 1)] 3))
          have HS3 : Hid (w.heap.size ≤ wr.heap.size) := Lib.hid HB.out.size
          go_wp2_with (first
            | (at_builtin; refine wpList_push (α := Int) _ rfl (.tmp 37) (.tmp 39) 22 rfl w.heap.size 3 (.int .i64 0) 8 Tryz.underlying22 int_info rfl (by decide) _ L rfl HO3.out wr.heap.size #[.int .i64 (6 + q + 1)] (6 + q + 1) (0, 0) 3 rfl (heap_alloc_new wr _) ⟨rfl, HI.out⟩ (by have := HLL.out; omega) (by have := HLL.out; omega) (by have := HS3.out; simp; omega) _ rfl ?_; intro g5 p5 w5 hown5 hg5 hat5 hlt5; have HON := Lib.hid hown5; have HBN := Lib.hid (below_push HB.out HO2.out HS3.out hg5); clear hown5 hg5 hat5 hlt5)
            | fail)
          go_roundw
          case rel => exact ⟨j + 1, by go_num, by omega, Lib.hid (by rw [HX.out]; exact HON.out), HBN⟩
          case measure => simp [intOf]; omega
        · have hxe : x = 6 + q := by rw [← hx]; show gapF sl kI j = _; rw [HF.out, if_neg hjr]; omega
          subst hxe
          have hr3 := HR2.out
          clear hx
          have HI : Hid (I64 (6 + q)) := Lib.hid (by unfold I64; omega)
          have HO3 := Lib.hid (HO2.out.alloc (.cells #[.int .i64 (6 + q)] 3))
          have HS3 : Hid (w.heap.size ≤ wr.heap.size) := Lib.hid HB.out.size
          go_wp2_with (first
            | (at_builtin; refine wpList_push (α := Int) _ rfl (.tmp 37) (.tmp 39) 22 rfl w.heap.size 3 (.int .i64 0) 8 Tryz.underlying22 int_info rfl (by decide) _ L rfl HO3.out wr.heap.size #[.int .i64 (6 + q)] (6 + q) (0, 0) 3 rfl (heap_alloc_new wr _) ⟨rfl, HI.out⟩ (by have := HLL.out; omega) (by have := HLL.out; omega) (by have := HS3.out; simp; omega) _ rfl ?_; intro g5 p5 w5 hown5 hg5 hat5 hlt5; have HON := Lib.hid hown5; have HBN := Lib.hid (below_push HB.out HO2.out HS3.out hg5); clear hown5 hg5 hat5 hlt5)
            | fail)
          go_roundw
          case rel => exact ⟨j + 1, by go_num, by omega, Lib.hid (by rw [HX.out]; exact HON.out), HBN⟩
          case measure => simp [intOf]; omega
    · have hje : j = n - 1 := by omega
      have HFN : Hid (gapsP ws m last = (List.range j).map (gapR last sl kI)) := Lib.hid (by
        rw [HG.out, hje]
        by_cases h0 : n = 0
        · subst h0; rfl
        · rw [show ((n - 1 : Nat) : Int) = kI by omega])
      clear hje
      go_wp2_with fail
      go_ret
      exact ⟨_, rfl, by rw [HFN.out]; exact HO.out, HB.out⟩
end Go.Proofs.YtakaielemicpkaaGreatDoor
namespace Go.Proofs.YtakaielemicpkaaGreatDoor
open Go.RowKit
def curR (d : Nat) (cur : Int × Nat) : Int := if d = 0 then -1 else cur.1
set_option maxRecDepth 100000 in
set_option maxHeartbeats 8000000 in
theorem rends_any (A : Option Addr) (c : Nat) (ws : List Int) (m : Int) (w : World) (hs : Sl w (fun b => b < w.heap.size) A c ws) (hr : Reg ws m) :
    Calls Tryz.prog 110 #[.slice A ws.length c, .int .i64 m] w fun e w' => ∃ v, e = .returned (.tuple #[v, .int .i64 0]) ∧ Own w' w.heap.size 3 v ((endsP ws m).map (fun (n : Nat) => (n : Int))) ∧ Below w.heap.size w w' := by
  have HC := Lib.hid (regular_any A c ws m w hs hr)
  have HS := Lib.hid hs
  have HR := Lib.hid hr
  have h1 : m ≤ 2000 := hr.hi
  have h2 : 500 ≤ m := hr.lo
  have h3 : ws.length ≤ 500 := hr.n
  have hn1 : Value.int .i64 ((ws.length : Int) + 1) = Value.int .i64 ((ws.length + 1 : Nat) : Int) := by rw [Int.natCast_add]; rfl
  have HN1 := Lib.hid hn1
  clear hs hr hn1
  go_enter Tryz.func110, Tryz.ntmps110
  go_wp2_with fail
  refine HC.out.mono ?_
  rintro e w1 ⟨rfl, hb1⟩
  have HB1 := Lib.hid hb1
  clear HC hb1
  go_wp2_with (first
    | (refine wpList_make rfl 22 (.tmp 25) (.tmp 25) rfl 3 (.int .i64 0) 1 8 Tryz.underlying22 int_info (ws.length + 1) HN1.out HN1.out (by omega) (by omega) ?_)
    | (refine wpList_make rfl 22 (.tmp 28) (.tmp 28) rfl 3 (.int .i64 0) 1 8 Tryz.underlying22 int_info (ws.length + 1) HN1.out HN1.out (by omega) (by omega) ?_)
    | fail)
  have hr0 := irow_made1 w1 (ws.length + 1) 3
  have hr1 := irow_made1 (w1.alloc (.cells (madeCells #[Value.int .i64 0] (ws.length + 1)) 3)) (ws.length + 1) 3
  rw [World.size_alloc] at hr1
  have hb1 : Below w1.heap.size w1 (w1.alloc (.cells (madeCells #[Value.int .i64 0] (ws.length + 1)) 3)) := (Below.refl _ _).alloc (Nat.le_refl _) _
  have hb2 : Below (w1.alloc (.cells (madeCells #[Value.int .i64 0] (ws.length + 1)) 3)).heap.size (w1.alloc (.cells (madeCells #[Value.int .i64 0] (ws.length + 1)) 3)) _ := (Below.refl _ _).alloc (Nat.le_refl _) (.cells (madeCells #[Value.int .i64 0] (ws.length + 1)) 3)
  have HCR := Lib.hid (hr0.to hb2)
  have HER := Lib.hid hr1
  have HBc := Lib.hid (HB1.out.trans ((hb1.trans (hb2.mono (by simp))).mono HB1.out.size))
  obtain ⟨Cb, hCb⟩ : ∃ Cb, w1.heap.size = Cb := ⟨_, rfl⟩
  have HNE : Hid (Cb ≠ Cb + 1 ∧ w.heap.size ≤ Cb ∧ w.heap.size ≤ Cb + 1) := Lib.hid ⟨by omega, by have := HB1.out.size; omega, by have := HB1.out.size; omega⟩
  obtain ⟨Eb, hEb⟩ : ∃ Eb, Cb + 1 = Eb := ⟨_, rfl⟩
  obtain ⟨wA, hwA⟩ : ∃ wA, (w1.alloc (.cells (madeCells #[Value.int .i64 0] (ws.length + 1)) 3)).alloc (.cells (madeCells #[Value.int .i64 0] (ws.length + 1)) 3) = wA := ⟨_, rfl⟩
  rw [hwA] at HCR HER HBc ⊢
  rw [hCb] at HCR HER ⊢
  rw [hEb] at HER HNE ⊢
  clear hr0 hr1 hb1 hb2 hwA hCb hEb HB1 HN1
  go_loopw [10] (fun z wr => ∃ (k : Nat) (i1 : Nat), z = .int .i64 ((i1 : Int) - 1) ∧ Hid (i1 + k = ws.length) ∧ Hid (IRow wr Cb 3 (List.replicate i1 0 ++ (bestL ws m k).map (·.1))) ∧ Hid (IRow wr Eb 3 (List.replicate i1 0 ++ (bestL ws m k).map (fun x => (x.2 : Int)))) ∧ Hid (Below w.heap.size w wr)) (fun z _ => (intOf z + 1).toNat)
  case atStart => exact ⟨0, ws.length, rfl, Lib.hid (by omega), Lib.hid (by rw [← rowC_start]; exact HCR.out), Lib.hid (by rw [← rowE_start]; exact HER.out), HBc⟩
  case round =>
    clear HCR HER HBc
    obtain ⟨k, i1, rfl, HIK, HCR, HER, HBw⟩ := hrel
    by_cases hz : i1 = 0
    · subst hz
      have HKN : Hid (k = ws.length) := Lib.hid (by have := HIK.out; omega)
      have HE0 : Hid (IRow wr Eb 3 ((bestL ws m ws.length).map (fun x => (x.2 : Int)))) := Lib.hid (by have := HER.out; rw [HKN.out] at this; exact this)
      clear HER HCR HKN HIK
      rw [show ((0 : Nat) : Int) - 1 = -1 from rfl]
      go_wp2_with fail
      obtain ⟨wo, rfl⟩ : ∃ wo : World, wo = wr := ⟨_, rfl⟩
      go_loopw [14, 15] (fun v vi wq => ∃ (f a : Nat) (dn : List Nat), vi = .int .i64 (a : Int) ∧ a ≤ ws.length ∧ Hid (ws.length - a ≤ f) ∧ Hid (endsP ws m = dn ++ chainE ((bestL ws m ws.length).map (·.2)) ws.length f a) ∧ Hid (dn.length ≤ a) ∧ Hid (Own wq wo.heap.size 3 v (dn.map (fun (n : Nat) => (n : Int)))) ∧ Hid (Below wo.heap.size wo wq)) (fun _ vi _ => ws.length - (intOf vi).toNat)
      case atStart => exact ⟨ws.length, 0, [], rfl, Nat.zero_le _, Lib.hid (by omega), Lib.hid rfl, Lib.hid (Nat.zero_le _), Lib.hid (Own.nil _ _ _), Lib.hid (Below.refl _ _)⟩
      case round =>
        obtain ⟨f, a, dn, rfl, han, HF, HEN, HDL, HO, HBq⟩ := hrel
        by_cases hlt : a < ws.length
        · have hai : (a : Int) < (ws.length : Int) := by omega
          have ha0 : (0 : Int) ≤ (a : Int) := by omega
          obtain ⟨f', rfl⟩ : ∃ f', f = f' + 1 := ⟨f - 1, by have := HF.out; omega⟩
          have HEA := Lib.hid (bestAt_end HR.out a hlt)
          have HNX : Hid (endsP ws m = (dn ++ [(bestAt ws m a).2]) ++ chainE ((bestL ws m ws.length).map (·.2)) ws.length f' (bestAt ws m a).2) := Lib.hid (by rw [HEN.out, chain_at ws m a f' hlt]; simp)
          have HE1 := Lib.hid (HE0.out.to HBq.out)
          have c0 : wr.cell? ⟨Eb, a, none⟩ = some (.int .i64 ((bestAt ws m a).2 : Int)) := HE1.out.cell a (ends_at ws m a hlt)
          generalize (bestAt ws m a).2 = en at *
          have hba : Below wr.heap.size wr (wr.alloc (.cells #[.int .i64 (en : Int)] 3)) := (Below.refl _ _).alloc (Nat.le_refl _) _
          have HO2 := Lib.hid (HO.out.below hba)
          have HI : Hid (I64 (en : Int)) := Lib.hid (by have := HEA.out; unfold I64; omega)
          have HLD : Hid (dn.length ≤ 500) := Lib.hid (by have := HDL.out; omega)
          have HCE : Hid (∀ W, Below wo.heap.size wo W → W.cell? ⟨Eb, a, none⟩ = some (.int .i64 (en : Int))) := Lib.hid (fun W hW => by
            have h1 := c0
            have h2 := HE0.out.lt
            exact ((hW.cell (p := ⟨Eb, a, none⟩) h2).trans ((HBq.out.cell (p := ⟨Eb, a, none⟩) h2).symm)).trans h1)
          clear hba
          go_upto_region 26 with (first
            | (at_builtin; refine wpList_push (α := Int) _ rfl (.tmp 97) (.tmp 102) 22 rfl wo.heap.size 3 (.int .i64 0) 8 Tryz.underlying22 int_info rfl (by decide) _ (dn.map (fun (n : Nat) => (n : Int))) rfl HO2.out wr.heap.size #[.int .i64 (en : Int)] (en : Int) (0, 0) 3 rfl (heap_alloc_new wr _) ⟨rfl, HI.out⟩ (by have := HLD.out; rw [List.length_map]; omega) (by have := HLD.out; rw [List.length_map]; omega) (by have := HBq.out.size; simp; omega) _ rfl ?_; intro g5 p5 w5 hown5 hg5 hat5 hlt5)
            | fail)
          have hb5 : Below wo.heap.size wo w5 := below_push HBq.out HO.out HBq.out.size hg5
          have HO5 := Lib.hid hown5
          have HB5 := Lib.hid hb5
          have c5 := HCE.out w5 hb5
          clear hb5 hown5 hg5 hat5 hlt5 c0 HCE
          go_wp2_with fail
          go_roundw
          case rel => exact ⟨f', en, dn ++ [en], rfl, by have := HEA.out; omega, Lib.hid (by have := HEA.out; have := HF.out; omega), HNX, Lib.hid (by have := HEA.out; have := HDL.out; simp; omega), Lib.hid (by have := HO5.out; rw [List.length_map] at this; rw [List.map_append]; exact this), HB5⟩
          case measure => (have hx1 := HEA.out; simp [intOf]; omega)
        · have hai : ¬ (a : Int) < (ws.length : Int) := by omega
          have HFN : Hid (endsP ws m = dn) := Lib.hid (by
            have e : chainE ((bestL ws m ws.length).map (·.2)) ws.length f a = [] := by
              cases f with
              | zero => rfl
              | succ f => rw [chainE, if_neg hlt]
            rw [HEN.out, e, List.append_nil])
          have HBz := Lib.hid (HBw.out.trans (HBq.out.mono HBw.out.size))
          have HOz := Lib.hid (HO.out.re HBw.out.size)
          go_wp2_with fail
          go_ret2
          exact ⟨_, rfl, by rw [HFN.out]; exact HOz.out, HBz.out⟩
    · obtain ⟨i, rfl⟩ : ∃ i, i1 = i + 1 := ⟨i1 - 1, by omega⟩
      have hi0 : (0 : Int) ≤ (i : Int) := by omega
      have hi5 : (i : Int) < 500 := by have := HIK.out; omega
      have hi6 : (i : Int) < (ws.length : Int) := by have := HIK.out; omega
      have hii : ((i + 1 : Nat) : Int) - 1 = (i : Int) := by omega
      rw [hii]
      clear hii hz
      have HIN : Hid (i + 1 + k = ws.length) := HIK
      have HC0 : Hid (IRow wr Cb 3 (rowC ws m k i 0)) := Lib.hid (by unfold rowC; rw [← row_open]; exact HCR.out)
      have HE0 : Hid (IRow wr Eb 3 (rowE ws m k i 0)) := Lib.hid (by unfold rowE; rw [← row_open]; exact HER.out)
      clear HIK HCR HER
      have c0 : wr.cell? ⟨Cb, i, none⟩ = some (.int .i64 0) := HC0.out.cell i (row_at _ _ _)
      have f0 := HC0.out.fz i
      have HC1 : Hid (IRow (wr.setCell ⟨Cb, i, none⟩ (.int .i64 (-1))) Cb 3 (rowC ws m k i (curR 0 (0, 0)))) := Lib.hid (by have := HC0.out.set i (-1); rwa [show rowC ws m k i 0 = List.replicate i 0 ++ 0 :: (bestL ws m k).map (·.1) from rfl, row_set] at this)
      have HE1 : Hid (IRow (wr.setCell ⟨Cb, i, none⟩ (.int .i64 (-1))) Eb 3 (rowE ws m k i 0)) := Lib.hid (HE0.out.other (Ne.symm HNE.out.1) i (.int .i64 (-1)))
      have HB1 : Hid (Below w.heap.size w (wr.setCell ⟨Cb, i, none⟩ (.int .i64 (-1)))) := Lib.hid (HBw.out.setCell (p := ⟨Cb, i, none⟩) HNE.out.2.1 _)
      clear HC0 HE0 HBw
      go_wp2_with fail
      clear c0 f0
      generalize wr.setCell ⟨Cb, i, none⟩ (.int .i64 (-1)) = wB at *
      go_loopw [11, 12] (fun vs vj ww => ∃ (d p : Nat) (s : Int) (cur : Int × Nat), vs = .int .i64 s ∧ vj = .int .i64 ((p : Int) + 1) ∧ Hid (p = i + d ∧ p ≤ ws.length) ∧ s ≤ 2006 ∧ 0 ≤ s ∧ Hid (d = 0 → s = m + 6) ∧ Hid (scanE ws.length (ws.drop i) (bestL ws m k) (m + 6) (i + 1) true (0, 0) = scanE ws.length (ws.drop p) ((bestL ws m k).drop d) s (p + 1) (decide (d = 0)) cur) ∧ Hid (0 ≤ cur.1 ∧ cur.1 ≤ 4100000 * ((k : Int) + 1)) ∧ Hid (IRow ww Cb 3 (rowC ws m k i (curR d cur))) ∧ Hid (IRow ww Eb 3 (rowE ws m k i (cur.2 : Int))) ∧ Hid (Below w.heap.size w ww)) (fun _ vj _ => (ws.length + 1 - (intOf vj).toNat))
      case atStart => exact ⟨0, i, m + 6, (0, 0), rfl, rfl, Lib.hid (by have := HIN.out; omega), by omega, by omega, Lib.hid (fun _ => rfl), Lib.hid rfl, Lib.hid (by simp; omega), HC1, HE1, HB1⟩
      case round =>
        clear HC1 HE1 HB1
        obtain ⟨d, p, s, cur, rfl, rfl, HP, hs1, hs2, HD0, HSC, HCB, HCR, HER, HBw⟩ := hrel
        by_cases hpl : p < ws.length
        · have hp0 : (0 : Int) ≤ (p : Int) := by omega
          have hpn : (p : Int) < (ws.length : Int) := by omega
          have hpn1 : (p : Int) + 1 ≤ (ws.length : Int) := by omega
          obtain ⟨b, o, rfl, _, hbl, hok, hc⟩ := int_at (HS.out.to HBw.out) hpl
          have hx := HR.out.w ws[p] (List.getElem_mem hpl)
          have HDR : Hid (ws.drop p = ws[p] :: ws.drop (p + 1)) := Lib.hid (List.drop_eq_getElem_cons hpl)
          obtain ⟨x, hxe⟩ : ∃ x, ws[p] = x := ⟨_, rfl⟩
          rw [hxe] at hc hx HDR
          obtain ⟨hx1, hx2⟩ := hx
          clear hxe hok hbl
          obtain ⟨s2, hs2e⟩ : ∃ s2, s - 6 - x = s2 := ⟨_, rfl⟩
          have hsa : s2 ≤ 2006 := by omega
          have hsb : -500 ≤ s2 := by omega
          have HSE : Hid (s - (x + 6) = s2) := Lib.hid (by omega)
          have HD1 : Hid (d = 0 → 0 ≤ s2) := Lib.hid (fun h => by have := HD0.out h; omega)
          go_upto_region 16 with (fail)
          try rw [hs2e]
          clear hs2e hc
          by_cases hneg : s2 < 0
          · have hd1 : d ≠ 0 := fun h => by have := HD1.out h; omega
            have HRES : Hid (scanE ws.length (ws.drop i) (bestL ws m k) (m + 6) (i + 1) true (0, 0) = cur) := Lib.hid (by rw [HSC.out, HDR.out]; exact scanE_neg _ _ _ _ _ _ _ _ (by rw [HSE.out]; exact hneg))
            have HCR2 : Hid (IRow wr Cb 3 (rowC ws m k i cur.1)) := Lib.hid (by have := HCR.out; unfold curR at this; rwa [if_neg hd1] at this)
            clear HCR
            go_wp2_with fail
            go_roundw
            case rel => exact ⟨k + 1, i, by go_num, Lib.hid (by have := HIN.out; omega), Lib.hid (by rw [← rowC_next HIN.out HRES.out]; exact HCR2.out), Lib.hid (by rw [← rowE_next HIN.out HRES.out]; exact HER.out), HBw⟩
            case measure => (first | (simp [intOf]; done) | (simp [intOf]; omega))
          · have hnn : 0 ≤ s2 := by omega
            have HNN : Hid (¬ s - (x + 6) < 0) := Lib.hid (by rw [HSE.out]; exact hneg)
            obtain ⟨bd, hbd⟩ : ∃ bd, (bestL ws m k)[d]? = some bd := by
              have h := bestL_length ws m k
              exact ⟨_, List.getElem?_eq_getElem (by have := HP.out; have := HIN.out; omega)⟩
            have hbb := bestL_cost HR.out k bd (List.mem_of_getElem? hbd)
            have HHD := Lib.hid (head_drop _ _ _ hbd)
            have c2 : wr.cell? ⟨Cb, p + 1, none⟩ = some (.int .i64 bd.1) := HCR.out.cell (p + 1) (by
              have e : p + 1 = i + d + 1 := by have := HP.out.1; omega
              rw [e, show rowC ws m k i (curR d cur) = List.replicate i 0 ++ curR d cur :: (bestL ws m k).map (·.1) from rfl, row_behind, List.getElem?_map, hbd]; rfl)
            have hk5 : (k : Int) ≤ 500 := by have := HIN.out; omega
            have hb0 : 0 ≤ bd.1 := hbb.1
            have hb1 : bd.1 ≤ 2050000000 := by have := hbb.2; omega
            have hbk : bd.1 ≤ 4100000 * (k : Int) := hbb.2
            obtain ⟨cb, hcb⟩ : ∃ x, bd.1 = x := ⟨_, rfl⟩
            rw [hcb] at c2 hb0 hb1 hbk
            have HCBE := Lib.hid hcb
            clear hcb hbd hbb
            obtain ⟨q, hq⟩ : ∃ q, s2 * s2 = q := ⟨_, rfl⟩
            have hq0 : 0 ≤ q := by rw [← hq]; exact Int.mul_nonneg hnn hnn
            have hq1 : q ≤ 4024036 := by rw [← hq]; exact Int.mul_le_mul hsa hsa hnn (by omega)
            have HQ := Lib.hid hq
            have hw1 : IntKind.i64.wrap (s2 * s2) = q := by rw [hq]; exact IntWalk.i64_in _ (by omega)
            have hw2 : IntKind.i64.wrap (q + cb) = q + cb := IntWalk.i64_in _ (by omega)
            clear hq
            by_cases hlast : p + 1 = ws.length
            · have HRES : Hid (scanE ws.length (ws.drop i) (bestL ws m k) (m + 6) (i + 1) true (0, 0) = (0, ws.length)) := Lib.hid (by rw [HSC.out, HDR.out, hlast]; exact scanE_last _ _ _ _ _ _ _ HNN.out)
              have HRS2 : Hid (scanE ws.length (ws.drop i) (bestL ws m k) (m + 6) (i + 1) true (0, 0) = scanE ws.length (ws.drop ws.length) ((bestL ws m k).drop (d + 1)) s2 (ws.length + 1) (decide (d + 1 = 0)) (0, ws.length)) := Lib.hid (by rw [HRES.out, List.drop_length]; rfl)
              have c3 : wr.cell? ⟨Cb, ws.length, none⟩ = some (.int .i64 cb) := hlast ▸ c2
              have hl1 : (p : Int) + 1 = (ws.length : Int) := by omega
              by_cases hd0 : d = 0
              · subst hd0
                have hcc : curR 0 cur = -1 := rfl
                rw [hcc] at HCR
                clear hcc
                have c0 : wr.cell? ⟨Cb, i, none⟩ = some (.int .i64 (-1)) := HCR.out.cell i (row_at _ _ _)
                have f0 := HCR.out.fz i
                have HE1 : Hid (IRow (wr.setCell ⟨Cb, i, none⟩ (.int .i64 (0))) Eb 3 (rowE ws m k i (cur.2 : Int))) := Lib.hid (HER.out.other (Ne.symm HNE.out.1) i (.int .i64 (0)))
                have c1 := HE1.out.cell i (row_at _ _ _)
                have f1 := HE1.out.fz i
                have HC2 : Hid (IRow ((wr.setCell ⟨Cb, i, none⟩ (.int .i64 (0))).setCell ⟨Eb, i, none⟩ (.int .i64 (ws.length : Int))) Cb 3 (rowC ws m k i (0))) := Lib.hid (by have := (HCR.out.set i (0)).other HNE.out.1 i (.int .i64 (ws.length : Int)); rwa [show rowC ws m k i (-1) = List.replicate i 0 ++ (-1) :: (bestL ws m k).map (·.1) from rfl, row_set] at this)
                have HE2 : Hid (IRow ((wr.setCell ⟨Cb, i, none⟩ (.int .i64 (0))).setCell ⟨Eb, i, none⟩ (.int .i64 (ws.length : Int))) Eb 3 (rowE ws m k i (ws.length : Int))) := Lib.hid (by have := HE1.out.set i (ws.length : Int); rwa [show rowE ws m k i (cur.2 : Int) = List.replicate i 0 ++ (cur.2 : Int) :: (bestL ws m k).map (fun x => (x.2 : Int)) from rfl, row_set] at this)
                have HB2 : Hid (Below w.heap.size w ((wr.setCell ⟨Cb, i, none⟩ (.int .i64 (0))).setCell ⟨Eb, i, none⟩ (.int .i64 (ws.length : Int)))) := Lib.hid ((HBw.out.setCell (p := ⟨Cb, i, none⟩) HNE.out.2.1 _).setCell (p := ⟨Eb, i, none⟩) HNE.out.2.2 _)
                clear HE1
                go_wp2_with fail
                go_roundw
                case rel => exact ⟨0 + 1, ws.length, s2, (0, ws.length), rfl, by go_num, Lib.hid (by have := HP.out; omega), hsa, hnn, Lib.hid (fun h => absurd h (by omega)), Lib.hid (HRS2.out), Lib.hid (by simp only; omega), HC2, HE2, HB2⟩
                case measure => (first | (simp [intOf]; done) | (simp [intOf]; omega))
              · have hcc : curR d cur = cur.1 := by unfold curR; rw [if_neg hd0]
                rw [hcc] at HCR
                have hc0 : ¬ cur.1 < 0 := by have := HCB.out.1; omega
                have hc1 : 0 ≤ cur.1 := HCB.out.1
                clear hcc
                have c0 : wr.cell? ⟨Cb, i, none⟩ = some (.int .i64 (cur.1)) := HCR.out.cell i (row_at _ _ _)
                have f0 := HCR.out.fz i
                have HE1 : Hid (IRow (wr.setCell ⟨Cb, i, none⟩ (.int .i64 (0))) Eb 3 (rowE ws m k i (cur.2 : Int))) := Lib.hid (HER.out.other (Ne.symm HNE.out.1) i (.int .i64 (0)))
                have c1 := HE1.out.cell i (row_at _ _ _)
                have f1 := HE1.out.fz i
                have HC2 : Hid (IRow ((wr.setCell ⟨Cb, i, none⟩ (.int .i64 (0))).setCell ⟨Eb, i, none⟩ (.int .i64 (ws.length : Int))) Cb 3 (rowC ws m k i (0))) := Lib.hid (by have := (HCR.out.set i (0)).other HNE.out.1 i (.int .i64 (ws.length : Int)); rwa [show rowC ws m k i (cur.1) = List.replicate i 0 ++ (cur.1) :: (bestL ws m k).map (·.1) from rfl, row_set] at this)
                have HE2 : Hid (IRow ((wr.setCell ⟨Cb, i, none⟩ (.int .i64 (0))).setCell ⟨Eb, i, none⟩ (.int .i64 (ws.length : Int))) Eb 3 (rowE ws m k i (ws.length : Int))) := Lib.hid (by have := HE1.out.set i (ws.length : Int); rwa [show rowE ws m k i (cur.2 : Int) = List.replicate i 0 ++ (cur.2 : Int) :: (bestL ws m k).map (fun x => (x.2 : Int)) from rfl, row_set] at this)
                have HB2 : Hid (Below w.heap.size w ((wr.setCell ⟨Cb, i, none⟩ (.int .i64 (0))).setCell ⟨Eb, i, none⟩ (.int .i64 (ws.length : Int)))) := Lib.hid ((HBw.out.setCell (p := ⟨Cb, i, none⟩) HNE.out.2.1 _).setCell (p := ⟨Eb, i, none⟩) HNE.out.2.2 _)
                clear HE1
                go_wp2_with fail
                go_roundw
                case rel => exact ⟨d + 1, ws.length, s2, (0, ws.length), rfl, by go_num, Lib.hid (by have := HP.out; omega), hsa, hnn, Lib.hid (fun h => absurd h (by omega)), Lib.hid (HRS2.out), Lib.hid (by simp only; omega), HC2, HE2, HB2⟩
                case measure => (first | (simp [intOf]; done) | (simp [intOf]; omega))
            · have hl1 : ¬ (p : Int) + 1 = (ws.length : Int) := by omega
              have hl2 : ((p : Int) + 1 == (ws.length : Int)) = false := by rw [beq_eq_false_iff_ne]; omega
              have HST : Hid (scanE ws.length (ws.drop i) (bestL ws m k) (m + 6) (i + 1) true (0, 0) = scanE ws.length (ws.drop (p + 1)) ((bestL ws m k).drop (d + 1)) s2 (p + 1 + 1) false (if decide (d = 0) = true ∨ q + cb ≤ cur.1 then (q + cb, p + 1) else cur)) := Lib.hid (by
                rw [HSC.out, HDR.out, scanE_step _ _ _ _ _ _ _ _ HNN.out (by omega), HSE.out, HHD.out, HQ.out, HCBE.out, List.tail_drop])
              by_cases hd0 : d = 0
              · subst hd0
                have hcc : curR 0 cur = -1 := rfl
                rw [hcc] at HCR
                clear hcc
                have c0 : wr.cell? ⟨Cb, i, none⟩ = some (.int .i64 (-1)) := HCR.out.cell i (row_at _ _ _)
                have f0 := HCR.out.fz i
                have HE1 : Hid (IRow (wr.setCell ⟨Cb, i, none⟩ (.int .i64 (q + cb))) Eb 3 (rowE ws m k i (cur.2 : Int))) := Lib.hid (HER.out.other (Ne.symm HNE.out.1) i (.int .i64 (q + cb)))
                have c1 := HE1.out.cell i (row_at _ _ _)
                have f1 := HE1.out.fz i
                have HC2 : Hid (IRow ((wr.setCell ⟨Cb, i, none⟩ (.int .i64 (q + cb))).setCell ⟨Eb, i, none⟩ (.int .i64 ((p : Int) + 1))) Cb 3 (rowC ws m k i (q + cb))) := Lib.hid (by have := (HCR.out.set i (q + cb)).other HNE.out.1 i (.int .i64 ((p : Int) + 1)); rwa [show rowC ws m k i (-1) = List.replicate i 0 ++ (-1) :: (bestL ws m k).map (·.1) from rfl, row_set] at this)
                have HE2 : Hid (IRow ((wr.setCell ⟨Cb, i, none⟩ (.int .i64 (q + cb))).setCell ⟨Eb, i, none⟩ (.int .i64 ((p : Int) + 1))) Eb 3 (rowE ws m k i ((p + 1 : Nat) : Int))) := Lib.hid (by have := HE1.out.set i ((p : Int) + 1); rwa [show rowE ws m k i (cur.2 : Int) = List.replicate i 0 ++ (cur.2 : Int) :: (bestL ws m k).map (fun x => (x.2 : Int)) from rfl, row_set] at this)
                have HB2 : Hid (Below w.heap.size w ((wr.setCell ⟨Cb, i, none⟩ (.int .i64 (q + cb))).setCell ⟨Eb, i, none⟩ (.int .i64 ((p : Int) + 1)))) := Lib.hid ((HBw.out.setCell (p := ⟨Cb, i, none⟩) HNE.out.2.1 _).setCell (p := ⟨Eb, i, none⟩) HNE.out.2.2 _)
                clear HE1
                go_wp2_with fail
                go_roundw
                case rel => exact ⟨0 + 1, p + 1, s2, (q + cb, p + 1), rfl, by go_num, Lib.hid (by have := HP.out; omega), hsa, hnn, Lib.hid (fun h => absurd h (by omega)), Lib.hid (by rw [HST.out, if_pos (by simp)]; rfl), Lib.hid (by simp only; omega), HC2, HE2, HB2⟩
                case measure => (first | (simp [intOf]; done) | (simp [intOf]; omega))
              · have hcc : curR d cur = cur.1 := by unfold curR; rw [if_neg hd0]
                rw [hcc] at HCR
                have hc0 : ¬ cur.1 < 0 := by have := HCB.out.1; omega
                clear hcc
                by_cases hle : q + cb ≤ cur.1
                · skip
                  have c0 : wr.cell? ⟨Cb, i, none⟩ = some (.int .i64 (cur.1)) := HCR.out.cell i (row_at _ _ _)
                  have f0 := HCR.out.fz i
                  have HE1 : Hid (IRow (wr.setCell ⟨Cb, i, none⟩ (.int .i64 (q + cb))) Eb 3 (rowE ws m k i (cur.2 : Int))) := Lib.hid (HER.out.other (Ne.symm HNE.out.1) i (.int .i64 (q + cb)))
                  have c1 := HE1.out.cell i (row_at _ _ _)
                  have f1 := HE1.out.fz i
                  have HC2 : Hid (IRow ((wr.setCell ⟨Cb, i, none⟩ (.int .i64 (q + cb))).setCell ⟨Eb, i, none⟩ (.int .i64 ((p : Int) + 1))) Cb 3 (rowC ws m k i (q + cb))) := Lib.hid (by have := (HCR.out.set i (q + cb)).other HNE.out.1 i (.int .i64 ((p : Int) + 1)); rwa [show rowC ws m k i (cur.1) = List.replicate i 0 ++ (cur.1) :: (bestL ws m k).map (·.1) from rfl, row_set] at this)
                  have HE2 : Hid (IRow ((wr.setCell ⟨Cb, i, none⟩ (.int .i64 (q + cb))).setCell ⟨Eb, i, none⟩ (.int .i64 ((p : Int) + 1))) Eb 3 (rowE ws m k i ((p + 1 : Nat) : Int))) := Lib.hid (by have := HE1.out.set i ((p : Int) + 1); rwa [show rowE ws m k i (cur.2 : Int) = List.replicate i 0 ++ (cur.2 : Int) :: (bestL ws m k).map (fun x => (x.2 : Int)) from rfl, row_set] at this)
                  have HB2 : Hid (Below w.heap.size w ((wr.setCell ⟨Cb, i, none⟩ (.int .i64 (q + cb))).setCell ⟨Eb, i, none⟩ (.int .i64 ((p : Int) + 1)))) := Lib.hid ((HBw.out.setCell (p := ⟨Cb, i, none⟩) HNE.out.2.1 _).setCell (p := ⟨Eb, i, none⟩) HNE.out.2.2 _)
                  clear HE1
                  go_wp2_with fail
                  go_roundw
                  case rel => exact ⟨d + 1, p + 1, s2, (q + cb, p + 1), rfl, by go_num, Lib.hid (by have := HP.out; omega), hsa, hnn, Lib.hid (fun h => absurd h (by omega)), Lib.hid (by rw [HST.out, if_pos (.inr hle)]; rfl), Lib.hid (by simp only; omega), HC2, HE2, HB2⟩
                  case measure => (first | (simp [intOf]; done) | (simp [intOf]; omega))
                · have c0 : wr.cell? ⟨Cb, i, none⟩ = some (.int .i64 cur.1) := HCR.out.cell i (row_at _ _ _)
                  have HCR2 : Hid (IRow wr Cb 3 (rowC ws m k i (curR (d + 1) cur))) := HCR
                  have HST2 : Hid (scanE ws.length (ws.drop i) (bestL ws m k) (m + 6) (i + 1) true (0, 0) = scanE ws.length (ws.drop (p + 1)) ((bestL ws m k).drop (d + 1)) s2 (p + 1 + 1) (decide (d + 1 = 0)) cur) := Lib.hid (by rw [HST.out, if_neg (by simp [hd0]; omega)]; rfl)
                  go_wp2_with fail
                  go_roundw
                  case rel => exact ⟨d + 1, p + 1, s2, cur, rfl, by go_num, Lib.hid (by have := HP.out; omega), hsa, hnn, Lib.hid (fun h => absurd h (by omega)), HST2, HCB, HCR2, HER, HBw⟩
                  case measure => (first | (simp [intOf]; done) | (simp [intOf]; omega))
        · obtain rfl : p = ws.length := by have := HP.out; omega
          have hd1 : d ≠ 0 := by have := HP.out; have := HIN.out; omega
          have HRES : Hid (scanE ws.length (ws.drop i) (bestL ws m k) (m + 6) (i + 1) true (0, 0) = cur) := Lib.hid (by rw [HSC.out, List.drop_length]; rfl)
          have HCR2 : Hid (IRow wr Cb 3 (rowC ws m k i cur.1)) := Lib.hid (by have := HCR.out; unfold curR at this; rwa [if_neg hd1] at this)
          have hpn1 : ¬ (ws.length : Int) + 1 ≤ (ws.length : Int) := by omega
          clear HCR hpl
          go_wp2_with fail
          go_roundw
          case rel => exact ⟨k + 1, i, by go_num, Lib.hid (by have := HIN.out; omega), Lib.hid (by rw [← rowC_next HIN.out HRES.out]; exact HCR2.out), Lib.hid (by rw [← rowE_next HIN.out HRES.out]; exact HER.out), HBw⟩
          case measure => (first | (simp [intOf]; done) | (simp [intOf]; omega))
end Go.Proofs.YtakaielemicpkaaGreatDoor
namespace Go.Proofs.YtakaielemicpkaaGreatDoor
theorem stepW_zero {np nn i : Nat} {notes n' : Int} {x : Word} (h0 : 0 ≤ notes) (h1 : notes ≤ nn) (h : stepW np nn i notes x = (0, n')) : (1 ≤ width x.s ∧ width x.s ≤ 480) ∧ 0 ≤ x.n ∧ x.n ≤ nn ∧ 0 ≤ n' ∧ n' ≤ nn := by
  unfold stepW at h
  split at h
  · exact absurd (congrArg Prod.fst h) (by simp)
  · rename_i hb
    have hv : valid x.s = true := by
      cases hv : valid x.s with
      | true => rfl
      | false => exact absurd (bad_s hv) hb
    have hw : 1 ≤ width x.s ∧ width x.s ≤ 480 := by
      have h1 := hv
      rw [valid_iff] at h1
      have h2 : 0 < width x.s := of_decide_eq_true h1
      refine ⟨h2, ?_⟩
      have h3 := sumW_bd x.s.data.toList
      have h4 : x.s.data.toList.length = x.s.size := rfl
      unfold width at h2 ⊢
      split
      · omega
      · split
        · omega
        · omega
    split at h
    · exact absurd (congrArg Prod.fst h) (by simp)
    · split at h
      · rename_i hn
        have := congrArg Prod.snd h
        simp at this
        exact ⟨hw, by omega, by omega, by omega, by omega⟩
      · split at h
        · exact absurd (congrArg Prod.fst h) (by simp)
        · rename_i hn hh
          have := congrArg Prod.snd h
          simp at this
          exact ⟨hw, by omega, by omega, by omega, by omega⟩
theorem scanW_zero {np nn i : Nat} : ∀ (p : List Word) (notes n' : Int), 0 ≤ notes → notes ≤ nn → scanW np nn i notes p = (0, n') → (∀ x ∈ p, (1 ≤ width x.s ∧ width x.s ≤ 480) ∧ 0 ≤ x.n ∧ x.n ≤ nn) ∧ 0 ≤ n' ∧ n' ≤ nn
  | [], notes, n', h0, h1, h => by
    have := congrArg Prod.snd h
    simp [scanW] at this
    exact ⟨by simp, by omega, by omega⟩
  | x :: p, notes, n', h0, h1, h => by
    rw [scanW] at h
    split at h
    · rename_i hs
      have hx := stepW_zero (x := x) (np := np) (nn := nn) (i := i) (n' := (stepW np nn i notes x).2) h0 h1 (by rw [← hs])
      have ih := scanW_zero p _ n' hx.2.2.2.1 hx.2.2.2.2 h
      exact ⟨fun y hy => (List.mem_cons.1 hy).elim (fun e => e ▸ ⟨hx.1, hx.2.1, hx.2.2.1⟩) (ih.1 y), ih.2⟩
    · rename_i hs
      exact absurd (congrArg Prod.fst h) hs
theorem scanP_zero {np nn : Nat} : ∀ (l : List (List Word)) (i : Nat) (notes n' : Int), 0 ≤ notes → notes ≤ nn → scanP np nn i notes l = (0, n') → ∀ p ∈ l, ∀ x ∈ p, (1 ≤ width x.s ∧ width x.s ≤ 480) ∧ 0 ≤ x.n ∧ x.n ≤ nn
  | [], _, _, _, _, _, _ => by simp
  | p :: l, i, notes, n', h0, h1, h => by
    rw [scanP] at h
    split at h
    · rename_i hs
      have hx := scanW_zero p notes (scanW np nn i notes p).2 h0 h1 (by rw [← hs])
      have ih := scanP_zero l (i + 1) _ n' hx.2.1 hx.2.2 h
      exact fun q hq => (List.mem_cons.1 hq).elim (fun e => e ▸ hx.1) (ih q)
    · rename_i hs
      exact absurd (congrArg Prod.fst h) hs
structure FineT (a b : List (List Word)) : Prop where
  la : a.length ≤ 100
  lb : b.length ≤ 100
  p : ∀ p ∈ a ++ b, 1 ≤ p.length ∧ p.length ≤ 500
  w : ∀ p ∈ a ++ b, ∀ x ∈ p, (1 ≤ width x.s ∧ width x.s ≤ 480) ∧ 0 ≤ x.n ∧ x.n ≤ 100
theorem chk_zero {a b : List (List Word)} (h : chkOf a b = 0) : FineT a b := by
  unfold chkOf at h
  split at h
  · exact absurd h (by decide)
  · rename_i h1
    split at h
    · exact absurd h (by decide)
    · rename_i h2
      have hp : ∀ p ∈ a ++ b, 1 ≤ p.length ∧ p.length ≤ 500 := fun p hp => by
        have a1 : ¬ anyLen longP (a ++ b) = true := fun e => h1 (.inr (.inr e))
        unfold anyLen at a1 h2
        rw [List.any_eq_true] at a1 h2
        have b1 : ¬ longP p.length = true := fun e => a1 ⟨p, hp, e⟩
        have b2 : ¬ emptyP p.length = true := fun e => h2 ⟨p, hp, e⟩
        unfold longP at b1
        unfold emptyP at b2
        rw [decide_eq_true_iff] at b1 b2
        omega
      have hb : b.length ≤ 100 := by omega
      refine ⟨by omega, hb, hp, ?_⟩
      unfold endP at h
      split at h
      · exact absurd h (by assumption)
      · rename_i h3
        have hz : (scanP a.length b.length 0 0 (a ++ b)).1 = 0 := by
          rcases Classical.em ((scanP a.length b.length 0 0 (a ++ b)).1 = 0) with h4 | h4
          · exact h4
          · exact absurd h4 h3
        have := scanP_zero (a ++ b) 0 0 (scanP a.length b.length 0 0 (a ++ b)).2 (Int.le_refl _) (by omega) (Prod.ext hz rfl)
        intro p hp x hx
        have h5 := this p hp x hx
        exact ⟨h5.1, h5.2.1, by omega⟩
theorem FineT.reg {a b : List (List Word)} (h : FineT a b) {m : Int} (h1 : 500 ≤ m) (h2 : m ≤ 2000) {p : List Word} (hp : p ∈ a ++ b) : Reg (widthsP p) m :=
  ⟨by unfold widthsP; rw [List.length_map]; exact (h.p p hp).2, h1, h2, fun x hx => by
    unfold widthsP at hx
    obtain ⟨y, hy, rfl⟩ := List.mem_map.1 hx
    exact (h.w p hp y hy).1⟩
theorem tot_bound : ∀ l : List (List Word), (∀ p ∈ l, p.length ≤ 500) → tot l ≤ 500 * l.length
  | [], _ => by simp [tot]
  | p :: l, h => by
    have h1 := h p (by simp)
    have h2 := tot_bound l (fun q hq => h q (by simp [hq]))
    unfold tot at *
    rw [List.flatten_cons, List.length_append, List.length_cons]
    omega
theorem FineT.tot {a b : List (List Word)} (h : FineT a b) : tot (a ++ b) ≤ 100000 := by
  have h1 := tot_bound (a ++ b) (fun p hp => (h.p p hp).2)
  have h2 := h.la
  have h3 := h.lb
  rw [List.length_append] at h1
  omega
theorem tot_append (a b : List (List Word)) : tot (a ++ b) = tot a + tot b := by unfold tot; simp
theorem partsP_append (m : Int) : ∀ (a b : List (List Word)) (first : Int), partsP m first (a ++ b) = partsP m first a ++ partsP m (first + (tot a : Nat)) b
  | [], b, first => by simp [partsP, tot]
  | p :: a, b, first => by
    have e : first + (p.length : Int) + (tot a : Nat) = first + (tot (p :: a) : Nat) := by unfold tot; simp; omega
    rw [List.cons_append, partsP, partsP_append m a b, partsP, e]; rfl
theorem partsP_length (m : Int) : ∀ (a : List (List Word)) (first : Int), (partsP m first a).length = a.length
  | [], _ => rfl
  | p :: a, first => by rw [partsP, List.length_cons, List.length_cons, partsP_length]
theorem linesFrom_length (ws : List Word) (wd : List Int) (m first : Int) : ∀ (es : List Nat) (i : Nat), (linesFrom ws wd m first i es).length = es.length
  | [], _ => rfl
  | e :: es, i => by rw [linesFrom, List.length_cons, List.length_cons, linesFrom_length]
end Go.Proofs.YtakaielemicpkaaGreatDoor
namespace Go.Proofs.YtakaielemicpkaaGreatDoor
open Go.RowKit
theorem tl_len (s : ByteArray) : ∀ n i r, s.size - i = n → (ByteArray.toList.loop s i r).length = r.length + n := by
  intro n
  induction n with
  | zero => intro i r h; rw [ByteArray.toList.loop, if_neg (by omega)]; simp
  | succ n ih => intro i r h; rw [ByteArray.toList.loop, if_pos (by omega), ih (i + 1) _ (by omega)]; simp; omega
theorem tl_size (s : ByteArray) : s.toList.length = s.size := by
  unfold ByteArray.toList; rw [tl_len s s.size 0 [] (by omega)]; simp
theorem key_nil {s : ByteArray} (h : s = ⟨#[]⟩) : s.toList = [] ∧ (!s.toList.isEmpty) = false := by
  have : s.toList = [] := List.eq_nil_of_length_eq_zero (by rw [tl_size, h]; rfl)
  rw [this]; simp
theorem key_some {s : ByteArray} (h : s ≠ ⟨#[]⟩) : ¬ s.toList = [] ∧ (!s.toList.isEmpty) = true := by
  have : ¬ s.toList = [] := by
    intro e
    apply h
    have h2 := tl_size s
    rw [e] at h2
    apply ByteArray.ext
    exact Array.eq_empty_of_size_eq_zero h2.symm
  exact ⟨this, by cases hl : s.toList with | nil => exact absurd hl this | cons a r => rfl⟩
set_option maxRecDepth 100000 in
set_option maxHeartbeats 4000000 in
theorem gcheck_any (A B : Option Addr) (c d : Nat) (a b : List (List Word)) (w : World) (hT : Laid w) (ha : Sl w (fun b => b < w.heap.size) A c a) (hb : Sl w (fun b => b < w.heap.size) B d b) (hla : a.length ≤ 1048576) (hlb : b.length ≤ 1048576) :
    Calls Tryz.prog 113 #[.agg #[.slice A a.length c, .slice B b.length d]] w fun e w' => e = .returned (.int .i64 (chkOf a b)) ∧ Below w.heap.size w w' := by
  have hb0 := ((Below.refl w.heap.size w).alloc (Nat.le_refl _) (.cells #[.slice A a.length c, .slice B b.length d] 50))
  have hb1 := hb0.alloc (by simp) (.cells #[.slice A a.length c, .slice B b.length d] 48)
  have Hb1 := Lib.hid hb1
  have Ha := Lib.hid (ha.to hb1)
  have Hb := Lib.hid (hb.to hb1)
  have HT := Lib.hid hT
  have q0 : ((w.alloc (.cells #[.slice A a.length c, .slice B b.length d] 50)).alloc (.cells #[.slice A a.length c, .slice B b.length d] 48)).cell? ⟨w.heap.size + 1, 0, none⟩ = some (.slice A a.length c) := by go_simp
  have q1 : ((w.alloc (.cells #[.slice A a.length c, .slice B b.length d] 50)).alloc (.cells #[.slice A a.length c, .slice B b.length d] 48)).cell? ⟨w.heap.size + 1, 1, none⟩ = some (.slice B b.length d) := by go_simp
  have Q0 := Lib.hid q0
  have Q1 := Lib.hid q1
  have TB0 := Lib.hid ((Below.heap_alloc (w.alloc (.cells #[.slice A a.length c, .slice B b.length d] 50)) (.cells #[.slice A a.length c, .slice B b.length d] 48) w.heap.size (by simp)).trans (heap_alloc_new w (.cells #[.slice A a.length c, .slice B b.length d] 50)))
  have hz0 : w.heap.size < ((w.alloc (.cells #[.slice A a.length c, .slice B b.length d] 50)).alloc (.cells #[.slice A a.length c, .slice B b.length d] 48)).heap.size := by simp; omega
  clear ha hb hb0 hb1 q0 q1 hT
  have HC := Lib.hid (show chkOf a b = if 100 < a.length ∨ 100 < b.length ∨ anyLen longP (a ++ b) = true then 2 else if anyLen emptyP (a ++ b) = true then 1 else endP b.length (scanP a.length b.length 0 0 (a ++ b)) from rfl)
  generalize chkOf a b = res at *
  go_enter Tryz.func113, Tryz.ntmps113
  go_wp2_with fail
  refine (concat_any _ A B c d a b _ Q0.out Q1.out Ha.out Hb.out hla hlb).mono ?_
  rintro e w1 ⟨v, rfl, hown, hbb⟩
  obtain ⟨A1, c1, rfl, hs⟩ := hown.sl
  have hll : (a ++ b).length ≤ 2097152 := by simp; omega
  generalize a ++ b = l at *
  have Hs := Lib.hid hs
  have Hbb := Lib.hid (Hb1.out.trans (hbb.mono Hb1.out.size))
  have TB := Lib.hid ((hbb.block _ hz0).trans TB0.out)
  have hz1 : w.heap.size < w1.heap.size := Nat.lt_of_lt_of_le hz0 hbb.size
  obtain ⟨t0, t1⟩ := text_box TB.out
  clear hs hown hbb Ha Hb Q0 Q1 Hb1 TB0 hz0
  by_cases h1 : 100 < a.length
  · have E := Lib.hid (show res = 2 by rw [HC.out, if_pos (.inl h1)])
    have h1' : (100 : Int) < (a.length : Int) := by omega
    go_wp2_with fail
    go_ret
    exact ⟨ret_int E.out.symm, Hbb.out⟩
  · have h1' : ¬ (100 : Int) < (a.length : Int) := by omega
    by_cases h2 : 100 < b.length
    · have E := Lib.hid (show res = 2 by rw [HC.out, if_pos (.inr (.inl h2))])
      have h2' : (100 : Int) < (b.length : Int) := by omega
      go_wp2_with fail
      go_ret
      exact ⟨ret_int E.out.symm, Hbb.out⟩
    · have h2' : ¬ (100 : Int) < (b.length : Int) := by omega
      go_wp2_with fail
      refine (containsFunc_any A1 c1 _ l 132 longP w1 Hs.out rfl (fun _ _ => by kernel_rfl) long_any).mono ?_
      rintro e w2 ⟨rfl, rfl⟩
      cases h3 : anyLen longP l
      · have h3' := Lib.hid h3
        clear h3
        go_wp2_with fail
        refine (containsFunc_any A1 c1 _ l 133 emptyP w1 Hs.out rfl (fun _ _ => by kernel_rfl) empty_any).mono ?_
        rintro e w2 ⟨rfl, rfl⟩
        cases h4 : anyLen emptyP l
        · have E := Lib.hid (show res = endP b.length (scanP a.length b.length 0 0 l) by rw [HC.out, if_neg (by rw [h3'.out]; simp; omega), if_neg (by rw [h4]; simp)])
          clear h4 h3' HC
          go_wp2_with fail
          have hnn : b.length ≤ 100 := by omega
          clear h1 h2 t0 t1
          go_loopw [4, 5, 6, 8, 33] (fun n _ _ _ i wr => ∃ k : Nat, k ≤ l.length ∧ i = .int .i64 k ∧ (∃ q : Nat, q ≤ b.length ∧ n = .int .i64 (q : Int) ∧ Hid (scanP a.length b.length 0 0 l = scanP a.length b.length k q (l.drop k))) ∧ Below w1.heap.size w1 wr) (fun _ _ _ _ i _ => l.length - (intOf i).toNat)
          case atStart => exact ⟨0, Nat.zero_le _, rfl, ⟨0, Nat.zero_le _, rfl, rfl⟩, Below.refl _ _⟩
          case round =>
            obtain ⟨k, hk, rfl, ⟨q, hq, rfl, hsc⟩, hb2⟩ := hrel
            have Hb2 := Lib.hid hb2
            clear hb2
            by_cases hlt : k < l.length
            · obtain ⟨bb, o, Ap, cp, rfl, _, hbl, hc, hp⟩ := part_at (Hs.out.to Hb2.out) hlt
              have hkl : (k : Int) < (l.length : Int) := by omega
              have hk0 : (0 : Int) ≤ (k : Int) := by omega
              have HPo := Lib.hid (fun n' h => scanP_ok (np := a.length) (nn := b.length) (notes := (q : Int)) (n' := n') hlt h)
              have HPe := Lib.hid (fun n' e h he => scanP_err (np := a.length) (nn := b.length) (notes := (q : Int)) (n' := n') (e := e) hlt h he)
              have h2 : l[k].length ≤ 9223372036854775807 := by have := hp.1; have := hp.2.1; unfold maxLen at this; omega
              generalize l[k] = p at *
              have Hp := Lib.hid hp
              clear hp
              go_wp2_with fail
              obtain ⟨wo, rfl⟩ : ∃ wo : World, wo = wr := ⟨_, rfl⟩
              go_loopw [4, 8, 40] (fun n _ i wr => ∃ j : Nat, j ≤ p.length ∧ i = .int .i64 j ∧ (∃ r : Nat, r ≤ b.length ∧ n = .int .i64 (r : Int) ∧ Hid (scanW a.length b.length k q p = scanW a.length b.length k r (p.drop j))) ∧ Below wo.heap.size wo wr) (fun _ _ i _ => p.length - (intOf i).toNat)
              case atStart => exact ⟨0, Nat.zero_le _, rfl, ⟨q, hq, rfl, rfl⟩, Below.refl _ _⟩
              case round =>
                obtain ⟨j, hj, rfl, ⟨r, hr, rfl, hsw⟩, hb3⟩ := hrel
                have Hb3 := Lib.hid hb3
                have hz3 := hb3.size
                clear hb3
                by_cases hjl : j < p.length
                · obtain ⟨b3, o3, rfl, _, hbl3, hok, d0, d1, d2, d3⟩ := word_at (Hp.out.to Hb3.out) hjl
                  have hj1 : (j : Int) < (p.length : Int) := by omega
                  have hj0 : (0 : Int) ≤ (j : Int) := by omega
                  have HWo := Lib.hid (fun n' h => scanW_ok (np := a.length) (nn := b.length) (i := k) (notes := (r : Int)) (n' := n') hjl h)
                  have HWe := Lib.hid (fun n' e h he => scanW_err (np := a.length) (nn := b.length) (i := k) (notes := (r : Int)) (n' := n') (e := e) hjl h he)
                  generalize p[j] = x at *
                  have hx2 := hok.2.2.1
                  have hx3 := hok.2.2.2
                  have Hb4 := Lib.hid (Hb3.out.alloc hz3 (.cells #[.string x.s, .string x.key, .int .i64 x.t, .int .i64 x.n] 104))
                  have Hb24 := Lib.hid (Hb2.out.trans (Hb4.out.mono Hb2.out.size))
                  have HL4 := Lib.hid ((HT.out.to Hbb.out).to Hb24.out)
                  have TB4 := Lib.hid ((Hb24.out.block _ hz1).trans TB.out)
                  go_wp2_with fail
                  refine (gvalid_any x.s _ HL4.out).mono ?_
                  rintro e w' ⟨rfl, rfl⟩
                  have HErr := Lib.hid (fun n' e h he => (show res = e by rw [E.out, hsc.out, HPe.out n' e (by rw [hsw.out]; exact HWe.out n' e h he) he]; unfold endP; rw [if_pos he]))
                  cases hvs : valid x.s
                  · have E2 := Lib.hid (HErr.out _ _ (step_bad (bad_s hvs)) (by decide))
                    clear hvs
                    go_wp2_with fail
                    go_ret
                    exact ⟨ret_int E2.out.symm, Hbb.out.trans (Hb24.out.mono Hbb.out.size)⟩
                  · have Hvs := Lib.hid hvs
                    clear hvs
                    by_cases hke : x.key = ⟨#[]⟩
                    · obtain ⟨k1, k2⟩ := key_nil hke
                      have Hke := Lib.hid hke
                      clear hke
                      have hgood := Lib.hid (good_nokey Hvs.out Hke.out)
                      by_cases ht : x.t = 0 ∨ x.t = 1
                      · have ht' := Lib.hid ht
                        obtain ⟨t0, t1⟩ := text_box TB4.out
                        by_cases hn0 : x.n = 0
                        · have hB : (x.n != 0) = false := by rw [hn0]; rfl
                          have hst := Lib.hid (step_plain (np := a.length) (nn := b.length) (i := k) (notes := (r : Int)) hgood.out ht hn0)
                          clear hn0
                          rcases ht with ht0 | ht0
                          · have hB0 : (x.t != 0) = false := by rw [ht0]; rfl
                            clear ht0
                            have E2 := Lib.hid (show scanW a.length b.length k q p = scanW a.length b.length k (r : Int) (p.drop (j + 1)) by rw [hsw.out]; exact HWo.out _ (hst.out))
                            clear HErr
                            go_wp2_with fail
                            go_roundw
                            case rel => exact ⟨j + 1, by omega, by go_num, ⟨r, by omega, by go_num, E2.out⟩, Hb4.out⟩
                            case measure => simp [intOf]; omega
                          · have hB0 : (x.t != 1) = false := by rw [ht0]; rfl
                            have hB1 : (x.t != 0) = true := by rw [ht0]; rfl
                            clear ht0
                            have E2 := Lib.hid (show scanW a.length b.length k q p = scanW a.length b.length k (r : Int) (p.drop (j + 1)) by rw [hsw.out]; exact HWo.out _ (hst.out))
                            clear HErr
                            go_wp2_with fail
                            go_roundw
                            case rel => exact ⟨j + 1, by omega, by go_num, ⟨r, by omega, by go_num, E2.out⟩, Hb4.out⟩
                            case measure => simp [intOf]; omega
                        · have hB : (x.n != 0) = true := bne_iff_ne.2 hn0
                          by_cases hh : a.length ≤ k ∨ x.n ≠ (r : Int) + 1 ∨ (b.length : Int) < (r : Int) + 1
                          · have hst := Lib.hid (step_far (np := a.length) (nn := b.length) (i := k) (notes := (r : Int)) hgood.out ht hn0 hh)
                            clear hn0
                            rcases ht with ht0 | ht0
                            · have hB0 : (x.t != 0) = false := by rw [ht0]; rfl
                              clear ht0
                              have E2 := Lib.hid (HErr.out _ _ hst.out (by decide))
                              by_cases hk1 : (a.length : Int) ≤ (k : Int)
                              · clear hh
                                go_wp2_with fail
                                go_ret
                                exact ⟨ret_int E2.out.symm, Hbb.out.trans (Hb24.out.mono Hbb.out.size)⟩
                              · by_cases hk2 : x.n = (r : Int) + 1
                                · have hB2 : (x.n != (r : Int) + 1) = false := by rw [hk2]; simp
                                  have hk3 : (b.length : Int) < (r : Int) + 1 := by omega
                                  clear hh hk2
                                  go_wp2_with fail
                                  go_ret
                                  exact ⟨ret_int E2.out.symm, Hbb.out.trans (Hb24.out.mono Hbb.out.size)⟩
                                · have hB2 : (x.n != (r : Int) + 1) = true := bne_iff_ne.2 hk2
                                  clear hh hk2
                                  go_wp2_with fail
                                  go_ret
                                  exact ⟨ret_int E2.out.symm, Hbb.out.trans (Hb24.out.mono Hbb.out.size)⟩
                            · have hB0 : (x.t != 1) = false := by rw [ht0]; rfl
                              have hB1 : (x.t != 0) = true := by rw [ht0]; rfl
                              clear ht0
                              have E2 := Lib.hid (HErr.out _ _ hst.out (by decide))
                              by_cases hk1 : (a.length : Int) ≤ (k : Int)
                              · clear hh
                                go_wp2_with fail
                                go_ret
                                exact ⟨ret_int E2.out.symm, Hbb.out.trans (Hb24.out.mono Hbb.out.size)⟩
                              · by_cases hk2 : x.n = (r : Int) + 1
                                · have hB2 : (x.n != (r : Int) + 1) = false := by rw [hk2]; simp
                                  have hk3 : (b.length : Int) < (r : Int) + 1 := by omega
                                  clear hh hk2
                                  go_wp2_with fail
                                  go_ret
                                  exact ⟨ret_int E2.out.symm, Hbb.out.trans (Hb24.out.mono Hbb.out.size)⟩
                                · have hB2 : (x.n != (r : Int) + 1) = true := bne_iff_ne.2 hk2
                                  clear hh hk2
                                  go_wp2_with fail
                                  go_ret
                                  exact ⟨ret_int E2.out.symm, Hbb.out.trans (Hb24.out.mono Hbb.out.size)⟩
                          · have hst := Lib.hid (step_note (np := a.length) (nn := b.length) (i := k) (notes := (r : Int)) hgood.out ht hn0 hh)
                            have hk1 : ¬ (a.length : Int) ≤ (k : Int) := by omega
                            have hB2 : (x.n != (r : Int) + 1) = false := by rw [show x.n = (r : Int) + 1 by omega]; simp
                            have hk3 : ¬ (b.length : Int) < (r : Int) + 1 := by omega
                            clear hn0 hh
                            rcases ht with ht0 | ht0
                            · have hB0 : (x.t != 0) = false := by rw [ht0]; rfl
                              clear ht0
                              have E2 := Lib.hid (show scanW a.length b.length k q p = scanW a.length b.length k ((r + 1 : Nat) : Int) (p.drop (j + 1)) by rw [hsw.out]; exact HWo.out _ (hst.out))
                              clear HErr
                              go_wp2_with fail
                              go_roundw
                              case rel => exact ⟨j + 1, by omega, by go_num, ⟨r + 1, by omega, by go_num, E2.out⟩, Hb4.out⟩
                              case measure => simp [intOf]; omega
                            · have hB0 : (x.t != 1) = false := by rw [ht0]; rfl
                              have hB1 : (x.t != 0) = true := by rw [ht0]; rfl
                              clear ht0
                              have E2 := Lib.hid (show scanW a.length b.length k q p = scanW a.length b.length k ((r + 1 : Nat) : Int) (p.drop (j + 1)) by rw [hsw.out]; exact HWo.out _ (hst.out))
                              clear HErr
                              go_wp2_with fail
                              go_roundw
                              case rel => exact ⟨j + 1, by omega, by go_num, ⟨r + 1, by omega, by go_num, E2.out⟩, Hb4.out⟩
                              case measure => simp [intOf]; omega
                      · have hst := Lib.hid (step_tab (np := a.length) (nn := b.length) (i := k) (notes := (r : Int)) hgood.out (by omega))
                        have hB0 : (x.t != 0) = true := bne_iff_ne.2 (by omega)
                        have hB1 : (x.t != 1) = true := bne_iff_ne.2 (by omega)
                        clear ht
                        have E2 := Lib.hid (HErr.out _ _ (hst.out) (by decide))
                        go_wp2_with fail
                        go_ret
                        exact ⟨ret_int E2.out.symm, Hbb.out.trans (Hb24.out.mono Hbb.out.size)⟩
                    · obtain ⟨k1, k2⟩ := key_some hke
                      have Hke := Lib.hid hke
                      clear hke
                      go_wp2_with fail
                      refine (gvalid_any x.key _ HL4.out).mono ?_
                      rintro e w' ⟨rfl, rfl⟩
                      cases hvk : valid x.key
                      · have hst := Lib.hid (step_bad (np := a.length) (nn := b.length) (i := k) (notes := (r : Int)) (bad_key Hke.out hvk))
                        clear hvk
                        have E2 := Lib.hid (HErr.out _ _ (hst.out) (by decide))
                        go_wp2_with fail
                        go_ret
                        exact ⟨ret_int E2.out.symm, Hbb.out.trans (Hb24.out.mono Hbb.out.size)⟩
                      · have Hvk := Lib.hid hvk
                        clear hvk
                        have hgood := Lib.hid (good_key Hvs.out Hvk.out)
                        by_cases ht : x.t = 0 ∨ x.t = 1
                        · have ht' := Lib.hid ht
                          obtain ⟨t0, t1⟩ := text_box TB4.out
                          by_cases hn0 : x.n = 0
                          · have hB : (x.n != 0) = false := by rw [hn0]; rfl
                            have hst := Lib.hid (step_plain (np := a.length) (nn := b.length) (i := k) (notes := (r : Int)) hgood.out ht hn0)
                            clear hn0
                            rcases ht with ht0 | ht0
                            · have hB0 : (x.t != 0) = false := by rw [ht0]; rfl
                              clear ht0
                              have E2 := Lib.hid (show scanW a.length b.length k q p = scanW a.length b.length k (r : Int) (p.drop (j + 1)) by rw [hsw.out]; exact HWo.out _ (hst.out))
                              clear HErr
                              go_wp2_with fail
                              go_roundw
                              case rel => exact ⟨j + 1, by omega, by go_num, ⟨r, by omega, by go_num, E2.out⟩, Hb4.out⟩
                              case measure => simp [intOf]; omega
                            · have hB0 : (x.t != 1) = false := by rw [ht0]; rfl
                              have hB1 : (x.t != 0) = true := by rw [ht0]; rfl
                              clear ht0
                              have E2 := Lib.hid (show scanW a.length b.length k q p = scanW a.length b.length k (r : Int) (p.drop (j + 1)) by rw [hsw.out]; exact HWo.out _ (hst.out))
                              clear HErr
                              go_wp2_with fail
                              go_roundw
                              case rel => exact ⟨j + 1, by omega, by go_num, ⟨r, by omega, by go_num, E2.out⟩, Hb4.out⟩
                              case measure => simp [intOf]; omega
                          · have hB : (x.n != 0) = true := bne_iff_ne.2 hn0
                            by_cases hh : a.length ≤ k ∨ x.n ≠ (r : Int) + 1 ∨ (b.length : Int) < (r : Int) + 1
                            · have hst := Lib.hid (step_far (np := a.length) (nn := b.length) (i := k) (notes := (r : Int)) hgood.out ht hn0 hh)
                              clear hn0
                              rcases ht with ht0 | ht0
                              · have hB0 : (x.t != 0) = false := by rw [ht0]; rfl
                                clear ht0
                                have E2 := Lib.hid (HErr.out _ _ hst.out (by decide))
                                by_cases hk1 : (a.length : Int) ≤ (k : Int)
                                · clear hh
                                  go_wp2_with fail
                                  go_ret
                                  exact ⟨ret_int E2.out.symm, Hbb.out.trans (Hb24.out.mono Hbb.out.size)⟩
                                · by_cases hk2 : x.n = (r : Int) + 1
                                  · have hB2 : (x.n != (r : Int) + 1) = false := by rw [hk2]; simp
                                    have hk3 : (b.length : Int) < (r : Int) + 1 := by omega
                                    clear hh hk2
                                    go_wp2_with fail
                                    go_ret
                                    exact ⟨ret_int E2.out.symm, Hbb.out.trans (Hb24.out.mono Hbb.out.size)⟩
                                  · have hB2 : (x.n != (r : Int) + 1) = true := bne_iff_ne.2 hk2
                                    clear hh hk2
                                    go_wp2_with fail
                                    go_ret
                                    exact ⟨ret_int E2.out.symm, Hbb.out.trans (Hb24.out.mono Hbb.out.size)⟩
                              · have hB0 : (x.t != 1) = false := by rw [ht0]; rfl
                                have hB1 : (x.t != 0) = true := by rw [ht0]; rfl
                                clear ht0
                                have E2 := Lib.hid (HErr.out _ _ hst.out (by decide))
                                by_cases hk1 : (a.length : Int) ≤ (k : Int)
                                · clear hh
                                  go_wp2_with fail
                                  go_ret
                                  exact ⟨ret_int E2.out.symm, Hbb.out.trans (Hb24.out.mono Hbb.out.size)⟩
                                · by_cases hk2 : x.n = (r : Int) + 1
                                  · have hB2 : (x.n != (r : Int) + 1) = false := by rw [hk2]; simp
                                    have hk3 : (b.length : Int) < (r : Int) + 1 := by omega
                                    clear hh hk2
                                    go_wp2_with fail
                                    go_ret
                                    exact ⟨ret_int E2.out.symm, Hbb.out.trans (Hb24.out.mono Hbb.out.size)⟩
                                  · have hB2 : (x.n != (r : Int) + 1) = true := bne_iff_ne.2 hk2
                                    clear hh hk2
                                    go_wp2_with fail
                                    go_ret
                                    exact ⟨ret_int E2.out.symm, Hbb.out.trans (Hb24.out.mono Hbb.out.size)⟩
                            · have hst := Lib.hid (step_note (np := a.length) (nn := b.length) (i := k) (notes := (r : Int)) hgood.out ht hn0 hh)
                              have hk1 : ¬ (a.length : Int) ≤ (k : Int) := by omega
                              have hB2 : (x.n != (r : Int) + 1) = false := by rw [show x.n = (r : Int) + 1 by omega]; simp
                              have hk3 : ¬ (b.length : Int) < (r : Int) + 1 := by omega
                              clear hn0 hh
                              rcases ht with ht0 | ht0
                              · have hB0 : (x.t != 0) = false := by rw [ht0]; rfl
                                clear ht0
                                have E2 := Lib.hid (show scanW a.length b.length k q p = scanW a.length b.length k ((r + 1 : Nat) : Int) (p.drop (j + 1)) by rw [hsw.out]; exact HWo.out _ (hst.out))
                                clear HErr
                                go_wp2_with fail
                                go_roundw
                                case rel => exact ⟨j + 1, by omega, by go_num, ⟨r + 1, by omega, by go_num, E2.out⟩, Hb4.out⟩
                                case measure => simp [intOf]; omega
                              · have hB0 : (x.t != 1) = false := by rw [ht0]; rfl
                                have hB1 : (x.t != 0) = true := by rw [ht0]; rfl
                                clear ht0
                                have E2 := Lib.hid (show scanW a.length b.length k q p = scanW a.length b.length k ((r + 1 : Nat) : Int) (p.drop (j + 1)) by rw [hsw.out]; exact HWo.out _ (hst.out))
                                clear HErr
                                go_wp2_with fail
                                go_roundw
                                case rel => exact ⟨j + 1, by omega, by go_num, ⟨r + 1, by omega, by go_num, E2.out⟩, Hb4.out⟩
                                case measure => simp [intOf]; omega
                        · have hst := Lib.hid (step_tab (np := a.length) (nn := b.length) (i := k) (notes := (r : Int)) hgood.out (by omega))
                          have hB0 : (x.t != 0) = true := bne_iff_ne.2 (by omega)
                          have hB1 : (x.t != 1) = true := bne_iff_ne.2 (by omega)
                          clear ht
                          have E2 := Lib.hid (HErr.out _ _ (hst.out) (by decide))
                          go_wp2_with fail
                          go_ret
                          exact ⟨ret_int E2.out.symm, Hbb.out.trans (Hb24.out.mono Hbb.out.size)⟩
                · obtain rfl : j = p.length := by omega
                  have hsw' : scanW a.length b.length k q p = (0, (r : Int)) := by rw [hsw.out, List.drop_of_length_le (Nat.le_refl _)]; rfl
                  have E2 := Lib.hid (hsc.out.trans (HPo.out _ hsw'))
                  clear hsw'
                  go_wp2_with fail
                  go_roundw
                  case rel => exact ⟨k + 1, by omega, by go_num, ⟨r, by omega, rfl, E2.out⟩, Hb2.out.trans (Hb3.out.mono Hb2.out.size)⟩
                  case measure => simp [intOf]; omega
            · have hsc' := Lib.hid (show scanP a.length b.length 0 0 l = (0, (q : Int)) by rw [hsc.out, List.drop_of_length_le (by omega)]; rfl)
              obtain ⟨t0, t1⟩ := text_box ((Hb2.out.block _ hz1).trans TB.out)
              by_cases hqn : q = b.length
              · have E2 := Lib.hid (show res = 0 by rw [E.out, hsc'.out, hqn]; unfold endP; simp)
                have hB : ((q : Int) != (b.length : Int)) = false := by rw [hqn]; simp
                clear hqn
                go_wp2_with fail
                go_ret
                exact ⟨ret_int E2.out.symm, Hbb.out.trans (Hb2.out.mono Hbb.out.size)⟩
              · have E2 := Lib.hid (show res = 3 by rw [E.out, hsc'.out]; unfold endP; rw [if_neg (by simp), if_pos (by simp; omega)])
                have hB : ((q : Int) != (b.length : Int)) = true := by rw [bne_iff_ne]; omega
                clear hqn
                go_wp2_with fail
                go_ret
                exact ⟨ret_int E2.out.symm, Hbb.out.trans (Hb2.out.mono Hbb.out.size)⟩
        · have E := Lib.hid (show res = 1 by rw [HC.out, if_neg (by rw [h3'.out]; simp; omega), if_pos h4])
          clear h4
          go_wp2_with fail
          go_ret
          exact ⟨ret_int E.out.symm, Hbb.out⟩
      · have E := Lib.hid (show res = 2 by rw [HC.out, if_pos (.inr (.inr h3))])
        clear h3
        go_wp2_with fail
        go_ret
        exact ⟨ret_int E.out.symm, Hbb.out⟩
end Go.Proofs.YtakaielemicpkaaGreatDoor
