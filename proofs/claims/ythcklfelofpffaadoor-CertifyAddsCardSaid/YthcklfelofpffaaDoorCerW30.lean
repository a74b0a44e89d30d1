/- The reference of the wire format: numbers and strings as bytes. No condition but sizes. -/
import Derived.Test.YthcklfelofpffaaDoorCerW28
namespace Go.Proofs.YthcklfelofpffaaDoor
open Go.RowKit
theorem byte128 (m : Nat) : (128 + (m : Int) % 128) % 256 = ((UInt8.ofNat (m % 128 + 128)).toNat : Int) := by
  rw [UInt8.toNat_ofNat']; omega
theorem byteLow (m : Nat) (h : m < 128) : (m : Int) = ((UInt8.ofNat m).toNat : Int) := by rw [UInt8.toNat_ofNat']; omega
theorem own_lenB {w : World} {base : Nat} {e : TypeId} {v : Value} {l : List UInt8} (h : Own w base e v l) : ∃ A c, v = .slice A l.length c := by
  obtain ⟨A, c, e, _⟩ := h.form
  exact ⟨A, c, e⟩
set_option maxRecDepth 100000 in
set_option maxHeartbeats 4000000 in
theorem ruint_any (n : Nat) (hn : n < 18446744073709551616) (w : World) :
    Calls Tryd.prog 91 #[.int .u64 (n : Int)] w fun e w' => ∃ v, e = .returned v ∧ Own w' w.heap.size 5 v (uintB n) ∧ Below w.heap.size w w' := by
  have HNN := Lib.hid hn
  clear hn
  go_enter Tryd.func91, Tryd.ntmps91
  go_wp2_with fail
  go_loopw [0, 3] (fun x v wr => ∃ (m : Nat) (acc : List UInt8), x = .int .u64 (m : Int) ∧ m ≤ n ∧ Hid (uintB n = acc ++ uintB m) ∧ Hid (Own wr w.heap.size 5 v acc) ∧ Hid (Below w.heap.size w wr)) (fun x _ _ => (intOf x).toNat)
  case atStart => exact ⟨n, [], rfl, Nat.le_refl _, Lib.hid rfl, Lib.hid (Own.nil _ _ _), Lib.hid (Below.refl _ _)⟩
  case round =>
    obtain ⟨m, acc, rfl, hm, hu, HO, HB⟩ := hrel
    have HLN : Hid (acc.length ≤ 11) := Lib.hid (by
      have h1 := uintB_length n
      have h2 := congrArg List.length hu.out
      rw [List.length_append] at h2; omega)
    by_cases hge : 128 ≤ m
    · have hge' : (128 : Int) ≤ (m : Int) := by omega
      have HUB := Lib.hid (uintB_ge hge (by have := HNN.out; omega))
      have HBY : Hid (128 + (m : Int) % 128 = ((UInt8.ofNat (m % 128 + 128)).toNat : Int)) := Lib.hid (by rw [UInt8.toNat_ofNat']; omega)
      have q2 : (m : Int) / 128 = ((m / 128 : Nat) : Int) := by omega
      have hm2b : m / 128 ≤ 144115188075855871 := by have := HNN.out; omega
      have HM2 : Hid (m / 128 ≤ n ∧ m / 128 < m) := Lib.hid ⟨by omega, by omega⟩
      have hm0 : (0 : Int) ≤ (m : Int) := by omega
      generalize UInt8.ofNat (m % 128 + 128) = by8 at *
      generalize m / 128 = m2 at *
      have HOA := Lib.hid (HO.out.alloc (.cells #[.int .u8 (128 + (m : Int) % 128)] 5))
      go_wp2_with (first
        | (at_builtin; refine wpList_push (α := UInt8) _ rfl (.tmp 6) (.tmp 11) 59 rfl w.heap.size 5 (.int .u8 0) 1 Tryd.underlying59 b_info rfl (by decide) u3 acc rfl HOA.out wr.heap.size #[.int .u8 (128 + (m : Int) % 128)] by8 (0, 0) 5 rfl (heap_alloc_new wr _) (by show [Value.int .u8 (128 + (m : Int) % 128)] = [Value.int .u8 (by8.toNat : Int)]; rw [HBY.out]) (by have := HLN.out; omega) (by have := HLN.out; omega) (by have := HB.out.size; simp; omega) _ rfl ?_; intro g5 cap5 w5 hown5 hg5 ho5 hlt5)
        | fail)
      exact ⟨⟨m2, acc ++ [by8], rfl, HM2.out.1, Lib.hid (by rw [hu.out, HUB.out, List.append_assoc]; rfl), Lib.hid hown5, Lib.hid (below_push HB.out HO.out HB.out.size hg5)⟩, by have := HM2.out.2; simp [intOf]; omega⟩
    · have hge' : ¬ (128 : Int) ≤ (m : Int) := by omega
      have HUB := Lib.hid (uintB_lt (n := m) (by omega))
      have HBM := Lib.hid (byteLow m (by omega))
      have hm0 : (0 : Int) ≤ (m : Int) := by omega
      generalize UInt8.ofNat m = by8 at *
      have HOA := Lib.hid (HO.out.alloc (.cells #[.int .u8 (m : Int)] 5))
      go_wp2_with (first
        | (at_builtin; refine wpList_push (α := UInt8) _ rfl (.tmp 15) (.tmp 18) 59 rfl w.heap.size 5 (.int .u8 0) 1 Tryd.underlying59 b_info rfl (by decide) u3 acc rfl HOA.out wr.heap.size #[.int .u8 (m : Int)] by8 (0, 0) 5 rfl (heap_alloc_new wr _) (by show [Value.int .u8 (m : Int)] = [Value.int .u8 (by8.toNat : Int)]; rw [HBM.out]) (by have := HLN.out; omega) (by have := HLN.out; omega) (by have := HB.out.size; simp; omega) _ rfl ?_; intro g5 cap5 w5 hown5 hg5 ho5 hlt5)
        | fail)
      go_ret
      exact ⟨_, rfl, by rw [hu.out, HUB.out]; exact hown5, below_push HB.out HO.out HB.out.size hg5⟩
theorem zig_any (n : Int) (hn : I64 n) (w : World) : Calls Tryd.prog 92 #[.int .i64 n] w fun e w' => e = .returned (.int .u64 (zig n : Int)) ∧ w = w' := by
  obtain ⟨h1, h2⟩ := hn
  have hw : ∀ z : Int, IntKind.u64.wrap z = z % 18446744073709551616 := fun z => rfl
  by_cases h : n < 0
  · have e : ((zig n : Nat) : Int) = 2 * (-(n + 1)) + 1 := by unfold zig; rw [if_pos h]; omega
    have E := Lib.hid e
    clear e
    go_enter Tryd.func92, Tryd.ntmps92
    go_wp2
    go_ret
    refine ⟨ret_int ?_, rfl⟩
    rw [E.out]
    omega
  · have e : ((zig n : Nat) : Int) = 2 * n := by unfold zig; rw [if_neg h]; omega
    have E := Lib.hid e
    clear e
    go_enter Tryd.func92, Tryd.ntmps92
    go_wp2
    go_ret
    refine ⟨ret_int ?_, rfl⟩
    rw [E.out]
    omega
theorem rint_any (n : Int) (hn : I64 n) (w : World) : Calls Tryd.prog 71 #[.int .i64 n] w fun e w' => ∃ v, e = .returned v ∧ Own w' w.heap.size 5 v (intB n) ∧ Below w.heap.size w w' := by
  have HZ := Lib.hid (zig_any n hn)
  have HU := Lib.hid (ruint_any (zig n) (zig_lt hn))
  unfold intB
  generalize zig n = z at *
  clear hn
  go_enter Tryd.func71, Tryd.ntmps71
  go_wp2_with (first | (go_at_call 92; refine (HZ.out _).mono ?_; rintro e w' ⟨rfl, rfl⟩) | fail)
  refine (HU.out _).mono ?_
  rintro e w2 ⟨v, rfl, ho, hb⟩
  go_wp2_with fail
  go_ret
  exact ⟨_, rfl, ho, hb⟩
set_option maxRecDepth 100000 in
set_option maxHeartbeats 4000000 in
theorem rtext_any (s : ByteArray) (hs : s.size ≤ 1073741824) (w : World) : Calls Tryd.prog 72 #[.string s] w fun e w' => ∃ v, e = .returned v ∧ Own w' w.heap.size 5 v (textB s) ∧ Below w.heap.size w w' := by
  have HU := Lib.hid (ruint_any s.size (by omega))
  have HUL := Lib.hid (uintB_length s.size)
  have HTB : Hid (textB s = uintB s.size ++ s.data.toList) := Lib.hid rfl
  have hs63 : (s.size : Int) ≤ 1073741824 := by omega
  have HSZ := Lib.hid hs
  go_enter Tryd.func72, Tryd.ntmps72
  go_wp2_with fail
  refine (HU.out _).mono ?_
  rintro e w2 ⟨v, rfl, ho, hb⟩
  have HO := Lib.hid ho
  have HB := Lib.hid hb
  clear ho hb HU hs hs63
  go_wp2_with (at_builtin; refine wpList_catT rfl (.tmp 6) (.tmp 7) 59 9 rfl w.heap.size 5 Tryd.underlying59 Tryd.underlying9 b_info v (uintB s.size) rfl HO.out s rfl (by have := HUL.out; have := HSZ.out; omega) HB.out.size ?_; intro v5 w5 hown5 hg5 hat5)
  go_ret
  exact ⟨_, rfl, by rw [HTB.out]; exact hown5, below_cat HB.out HO.out HB.out.size hg5⟩
theorem textsB_take (l : List ByteArray) (k : Nat) (h : k < l.length) : uintB l.length ++ (l.take (k + 1)).flatMap textB = (uintB l.length ++ (l.take k).flatMap textB) ++ textB l[k] := by
  rw [List.take_succ_eq_append_getElem h, List.flatMap_append, List.append_assoc]; simp
theorem flat_take_le (l : List ByteArray) (k : Nat) : ((l.take k).flatMap textB).length ≤ (l.flatMap textB).length := by
  conv => rhs; rw [← List.take_append_drop k l, List.flatMap_append, List.length_append]
  omega
set_option maxRecDepth 100000 in
set_option maxHeartbeats 4000000 in
theorem rtexts_any (A : Option Addr) (c : Nat) (l : List ByteArray) (w : World) (hl : Sl w (fun b => b < w.heap.size) A c l) (hsz : (textsB l).length ≤ 1073741824) :
    Calls Tryd.prog 73 #[.slice A l.length c] w fun e w' => ∃ v, e = .returned v ∧ Own w' w.heap.size 5 v (textsB l) ∧ Below w.heap.size w w' := by
  have hlen : l.length ≤ 9223372036854775807 := by have := hl.1; have := hl.2.1; unfold maxLen at this; omega
  have HL := Lib.hid hl
  have HSZ := Lib.hid hsz
  have HU := Lib.hid (ruint_any l.length (by omega))
  clear hl hsz
  go_enter Tryd.func73, Tryd.ntmps73
  go_wp2_with fail
  refine (HU.out _).mono ?_
  rintro e w2 ⟨v2, rfl, ho2, hb2⟩
  have HO2 := Lib.hid ho2
  have HB2 := Lib.hid hb2
  clear ho2 hb2 HU
  go_wp2_with fail
  go_loopw [3, 4] (fun v i wr => ∃ k : Nat, k ≤ l.length ∧ i = .int .i64 k ∧ Hid (Own wr w.heap.size 5 v (uintB l.length ++ (l.take k).flatMap textB)) ∧ Hid (Below w.heap.size w wr)) (fun _ i _ => l.length - (intOf i).toNat)
  case atStart => exact ⟨0, Nat.zero_le _, rfl, Lib.hid (by simpa using HO2.out), HB2⟩
  case round =>
    obtain ⟨k, hk, rfl, HO, HB⟩ := hrel
    by_cases hlt : k < l.length
    · obtain ⟨b, o, rfl, hbS, hbl, c0⟩ := str_at (HL.out.to HB.out) hlt
      have hkl : (k : Int) < (l.length : Int) := by omega
      have hk0 : (0 : Int) ≤ (k : Int) := by omega
      have HT := Lib.hid (textsB_take l k hlt)
      have HTL : Hid ((uintB l.length ++ (l.take k).flatMap textB).length + (textB l[k]).length ≤ 1073741824) := Lib.hid (by
        have h1 := congrArg List.length HT.out
        have h2 := flat_take_le l (k + 1)
        have h3 := HSZ.out
        unfold textsB at h3
        rw [List.length_append] at h1 h3
        rw [List.length_append] at h1
        omega)
      have HX := Lib.hid (fun W => rtext_any l[k] (by have := textB_size l[k]; have := HTL.out; omega) W)
      obtain ⟨acc, hacc⟩ : ∃ a, a = uintB l.length ++ (l.take k).flatMap textB := ⟨_, rfl⟩
      rw [← hacc] at HO HT HTL
      clear hacc
      generalize l[k] = x at *
      go_wp2_with fail
      refine (HX.out _).mono ?_
      rintro e w3 ⟨v3, rfl, ho3, hb3⟩
      obtain ⟨A3, c3, rfl, hs3⟩ := own_slB ho3
      have HS3 := Lib.hid hs3
      have HO3 := Lib.hid (HO.out.below hb3)
      have HB3 := Lib.hid (HB.out.trans (hb3.mono HB.out.size))
      have HLT : Hid (∀ g, u3.ownBlock = some g → g < wr.heap.size) := Lib.hid (fun g hg => (HO.out.lt g hg).2)
      clear ho3 hs3 hb3 HX c0
      go_wp2_with (at_builtin; refine wpList_cat (α := UInt8) _ rfl (.tmp 15) (.tmp 20) 59 rfl w.heap.size 5 (.int .u8 0) 1 Tryd.underlying59 b_info rfl (by decide) u3 acc rfl HO3.out A3 c3 (textB x).length (textB x) rfl rfl (fun g => wr.heap.size ≤ g) HS3.out (fun i hi _ e => by have := HLT.out i e.symm; omega) (by have := HTL.out; omega) (by have := HTL.out; omega) HB3.out.size ?_; intro v5 w5 hown5 hg5 hat5)
      go_roundw
      case rel => exact ⟨k + 1, by omega, by go_num, Lib.hid (by rw [HT.out]; exact hown5), Lib.hid (below_cat HB3.out HO3.out HB3.out.size hg5)⟩
      case measure => simp [intOf]; omega
    · obtain rfl : k = l.length := by omega
      go_wp2_with fail
      go_ret
      exact ⟨_, rfl, by have := HO.out; rw [List.take_length] at this; exact this, HB.out⟩
set_option maxRecDepth 100000 in
set_option maxHeartbeats 4000000 in
theorem encoding_any (branch : Int) (s : Sheet) (A B : Option Addr) (c d : Nat) (w : World) (hbr : I64 branch) (ha : Sl w (fun b => b < w.heap.size) A c s.body) (hb : Sl w (fun b => b < w.heap.size) B d s.notes) (hsz : (sheetB branch s).length ≤ 1073740000) :
    Calls Tryd.prog 44 #[.int .i64 branch, .agg #[.string s.label, .slice A s.body.length c, .slice B s.notes.length d]] w fun e w' => ∃ v, e = .returned v ∧ Own w' w.heap.size 5 v (sheetB branch s) ∧ Below w.heap.size w w' := by
  have hba : Below w.heap.size w (w.alloc (.cells #[.string s.label, .slice A s.body.length c, .slice B s.notes.length d] 24)) := (Below.refl _ _).alloc (Nat.le_refl _) _
  have HBX : Hid (ABox (w.alloc (.cells #[.string s.label, .slice A s.body.length c, .slice B s.notes.length d] 24)) w.heap.size 24 [.string s.label, .slice A s.body.length c, .slice B s.notes.length d]) := Lib.hid (heap_alloc_new w _)
  have HA := Lib.hid (ha.to hba)
  have HBn := Lib.hid (hb.to hba)
  have HB0 := Lib.hid hba
  have HSZ : Hid ((intB branch).length + (textB s.label).length + (textsB s.body).length + (textsB s.notes).length ≤ 1073740000) := Lib.hid (by unfold sheetB at hsz; simpa [List.length_append, Nat.add_assoc] using hsz)
  have HE : Hid (sheetB branch s = intB branch ++ textB s.label ++ textsB s.body ++ textsB s.notes) := Lib.hid rfl
  have HI := Lib.hid (rint_any branch hbr)
  have HT := Lib.hid (rtext_any s.label (by have := textB_size s.label; have := HSZ.out; omega))
  clear hba ha hb hsz hbr
  generalize intB branch = ib at *
  generalize hlb : textB s.label = lb at *
  generalize hbb : textsB s.body = bb at *
  generalize hnb : textsB s.notes = nb at *
  have HBB := Lib.hid hbb
  have HNB := Lib.hid hnb
  clear hlb hbb hnb
  go_enter Tryd.func44, Tryd.ntmps44
  go_upto_region 1 with (fail)
  generalize (w.alloc (.cells #[.string s.label, .slice A s.body.length c, .slice B s.notes.length d] 24)) = w1 at *
  go_wp2_with fail
  refine (HI.out _).mono ?_
  rintro e w2 ⟨v2, rfl, ho2, hb2⟩
  have HO := Lib.hid ho2
  have HBw := Lib.hid hb2
  clear ho2 hb2 HI
  have k0 := (HBX.out.to HBw.out).cell 0 rfl
  have HQ := Lib.hid (HT.out w2)
  go_wp2_with fail
  refine HQ.out.mono ?_
  rintro e w3 ⟨v3, rfl, ho3, hb3⟩
  obtain ⟨A3, c3, rfl, hs3⟩ := own_slB ho3
  have HS3 := Lib.hid hs3
  have HO3 := Lib.hid (HO.out.below hb3)
  have HB3 := Lib.hid (HBw.out.trans (hb3.mono HBw.out.size))
  have HLT : Hid (∀ g, v2.ownBlock = some g → g < w2.heap.size) := Lib.hid (fun g hg => (HO.out.lt g hg).2)
  clear ho3 hs3 hb3 HQ k0 HO HBw
  go_upto_region 3 with (first | (at_builtin; refine wpList_cat (α := UInt8) _ rfl (.tmp 8) (.tmp 11) 59 rfl w1.heap.size 5 (.int .u8 0) 1 Tryd.underlying59 b_info rfl (by decide) v2 (ib) rfl HO3.out A3 c3 lb.length lb rfl rfl (fun g => w2.heap.size ≤ g) HS3.out (fun i hi _ e => by have := HLT.out i e.symm; omega) (by have := HSZ.out; (try simp only [List.length_append]); omega) (by have := HSZ.out; (try simp only [List.length_append]); omega) HB3.out.size ?_; intro v4 w4 hown5 hg5 hat5) | fail)
  have HO := Lib.hid hown5
  have HBw := Lib.hid (below_cat HB3.out HO3.out HB3.out.size hg5)
  clear hown5 hg5 hat5 HO3 HB3 HS3 HLT
  have k0 := (HBX.out.to HBw.out).cell 1 rfl
  have HQ := Lib.hid (rtexts_any A c s.body w4 (HA.out.to HBw.out) (by rw [HBB.out]; have := HSZ.out; omega))
  rw [HBB.out] at HQ
  go_wp2_with fail
  refine HQ.out.mono ?_
  rintro e w5 ⟨v5, rfl, ho3, hb3⟩
  obtain ⟨A5, c5, rfl, hs3⟩ := own_slB ho3
  have HS3 := Lib.hid hs3
  have HO3 := Lib.hid (HO.out.below hb3)
  have HB3 := Lib.hid (HBw.out.trans (hb3.mono HBw.out.size))
  have HLT : Hid (∀ g, v4.ownBlock = some g → g < w4.heap.size) := Lib.hid (fun g hg => (HO.out.lt g hg).2)
  clear ho3 hs3 hb3 HQ k0 HO HBw
  go_upto_region 4 with (first | (at_builtin; refine wpList_cat (α := UInt8) _ rfl (.tmp 13) (.tmp 16) 59 rfl w1.heap.size 5 (.int .u8 0) 1 Tryd.underlying59 b_info rfl (by decide) v4 (ib ++ lb) rfl HO3.out A5 c5 bb.length bb rfl rfl (fun g => w4.heap.size ≤ g) HS3.out (fun i hi _ e => by have := HLT.out i e.symm; omega) (by have := HSZ.out; (try simp only [List.length_append]); omega) (by have := HSZ.out; (try simp only [List.length_append]); omega) HB3.out.size ?_; intro v6 w6 hown5 hg5 hat5) | fail)
  have HO := Lib.hid hown5
  have HBw := Lib.hid (below_cat HB3.out HO3.out HB3.out.size hg5)
  clear hown5 hg5 hat5 HO3 HB3 HS3 HLT
  have k0 := (HBX.out.to HBw.out).cell 2 rfl
  have HQ := Lib.hid (rtexts_any B d s.notes w6 (HBn.out.to HBw.out) (by rw [HNB.out]; have := HSZ.out; omega))
  rw [HNB.out] at HQ
  go_wp2_with fail
  refine HQ.out.mono ?_
  rintro e w7 ⟨v7, rfl, ho3, hb3⟩
  obtain ⟨A7, c7, rfl, hs3⟩ := own_slB ho3
  have HS3 := Lib.hid hs3
  have HO3 := Lib.hid (HO.out.below hb3)
  have HB3 := Lib.hid (HBw.out.trans (hb3.mono HBw.out.size))
  have HLT : Hid (∀ g, v6.ownBlock = some g → g < w6.heap.size) := Lib.hid (fun g hg => (HO.out.lt g hg).2)
  clear ho3 hs3 hb3 HQ k0 HO HBw
  go_wp2_with (first | (at_builtin; refine wpList_cat (α := UInt8) _ rfl (.tmp 18) (.tmp 21) 59 rfl w1.heap.size 5 (.int .u8 0) 1 Tryd.underlying59 b_info rfl (by decide) v6 (ib ++ lb ++ bb) rfl HO3.out A7 c7 nb.length nb rfl rfl (fun g => w6.heap.size ≤ g) HS3.out (fun i hi _ e => by have := HLT.out i e.symm; omega) (by have := HSZ.out; (try simp only [List.length_append]); omega) (by have := HSZ.out; (try simp only [List.length_append]); omega) HB3.out.size ?_; intro v8 w8 hown5 hg5 hat5) | fail)
  have HO := Lib.hid hown5
  have HBw := Lib.hid (below_cat HB3.out HO3.out HB3.out.size hg5)
  clear hown5 hg5 hat5 HO3 HB3 HS3 HLT
  go_ret
  exact ⟨_, rfl, by rw [HE.out]; exact HO.out.re HB0.out.size, HB0.out.trans (HBw.out.mono HB0.out.size)⟩
end Go.Proofs.YthcklfelofpffaaDoor
