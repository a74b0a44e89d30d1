/- The growth within a tree: slices.Clip, with, grow, Growth of merkle, and Growth of certify and of the reference. No condition but what the table holds, and sizes.
Growth of merkle, of certify and of the reference. No condition but what the table holds, and sizes.
CertifyProofs, walked. No condition but what the table holds.
A slice as an argument, read as plain data, whatever its elements are; its length against the bulk of what is read. No condition.
Numbers, lists of numbers and lists of these as arguments, read as plain data. No condition.
CertifyProofs: the card holds, for every argument. No condition. -/
import Derived.Test.YthcklfelofpffaaDoorCPa9
import Derived.Deep.Slices
import Derived.Deep.Fields
import Derived.ChangeSame
import Derived.ChangeMaps5
import Derived.OpenShut
namespace Go.Proofs.YthcklfelofpffaaDoor
open Go.RowKit
set_option maxRecDepth 100000 in
theorem clip_any (A : Option Addr) (n c : Nat) (w : World) (hc : n ≤ c) (_hm : c ≤ 9223372036854775807) : Calls Tryd.prog 103 #[.slice A n c] w fun e w' => e = .returned (.slice A n n) ∧ w = w' := by
  go_enter Tryd.func103, Tryd.ntmps103
  go_wp2_with fail
  go_ret
  exact ⟨rfl, rfl⟩
set_option maxRecDepth 100000 in
theorem with_any (A A' : Option Addr) (n c n' c' : Nat) (l l' : List H32) (w : World) (hn : l.length = n) (hl : Sl w (fun b => b < w.heap.size) A c l) (hn' : l'.length = n') (hl' : Sl w (fun b => b < w.heap.size) A' c' l') (h0 : 0 < n') (hs : n ≤ 1073741824) (hs' : n' ≤ 1073741824) :
    Calls Tryd.prog 97 #[.slice A n c, .slice A' n' c'] w fun e w' => ∃ v, e = .returned v ∧ Own w' w.heap.size 29 v (l ++ l') ∧ Below w.heap.size w w' := by
  have hnc : n ≤ c := by have := hl.1; omega
  have hcm : c ≤ 9223372036854775807 := by have := hl.2.1; unfold maxLen at this; omega
  have HC := Lib.hid (clip_any A n c w hnc hcm)
  have HL : Hid (Sl w (fun b => b < w.heap.size) A n l) := Lib.hid ⟨by omega, by unfold maxLen; omega, hl.2.2⟩
  have HL' := Lib.hid hl'
  have HN := Lib.hid hn
  have HN' := Lib.hid hn'
  clear hl hl' hn hn' hnc hcm
  go_enter Tryd.func97, Tryd.ntmps97
  go_wp2_with fail
  refine HC.out.mono ?_
  rintro e w' ⟨rfl, rfl⟩
  go_wp2_with (first
    | (refine wpList_fresh (α := H32) rfl (.tmp 6) (.tmp 7) 34 rfl 29 (.agg (zer32.map encB).toArray) 32 Tryd.underlying34 h_info rfl (by decide) A n l rfl HN.out HL.out A' c' n' l' rfl HN'.out HL'.out h0 (by omega) (by omega) ?_
       intro v w2 ho hb
       obtain ⟨A2, c2, rfl, -⟩ := ho.form
       rw [List.length_append] at ho ⊢
       have HO := Lib.hid ho
       have HB := Lib.hid hb
       clear ho hb)
    | fail)
  go_ret
  exact ⟨_, rfl, HO.out, HB.out⟩

set_option maxRecDepth 100000 in
set_option maxHeartbeats 4000000 in
theorem grow2_any (f : Nat) (hfs : f ≤ 1048576) (ih : ∀ (m : Nat) (l : List H32) (whole : Bool) (A : Option Addr) (n c : Nat) (w : World), l.length ≤ f → Sl w (fun b => b < w.heap.size) A c l → l.length = n → 1 ≤ m → m ≤ n → KLaid w →
      Calls Tryd.prog 82 #[.int .i64 (m : Int), .slice A n c, .bool whole] w fun e w' => ∃ v, e = .returned v ∧ Own w' w.heap.size 29 v (growF f m l whole) ∧ Below w.heap.size w w')
    (m : Nat) (l : List H32) (whole : Bool) (A : Option Addr) (n c : Nat) (w : World) (hf : l.length ≤ f + 1) (hl : Sl w (fun b => b < w.heap.size) A c l) (hn : l.length = n) (hm1 : 1 ≤ m) (hmn : m < n) (hK : KLaid w) :
    Calls Tryd.prog 82 #[.int .i64 (m : Int), .slice A n c, .bool whole] w fun e w' => ∃ v, e = .returned v ∧ Own w' w.heap.size 29 v (growF (f + 1) m l whole) ∧ Below w.heap.size w w' := by
  have hs : n ≤ 1048577 := by omega
  have h2 : 2 ≤ n := by omega
  obtain ⟨_, _, h3, h4, _⟩ := splitN_bounds n h2 (by omega)
  have HSP := Lib.hid (split_any n h2 (by omega))
  have HLen := Lib.hid (h32_len hl)
  have HDL : Hid (m ≤ splitN n → growF (f + 1) m l whole = growF f m (l.take (splitN n)) whole ++ [⟨root (l.drop (splitN n))⟩]) := Lib.hid (fun h => by
    subst hn
    rw [growF, if_neg (by omega), if_pos h])
  have HDR : Hid (¬ m ≤ splitN n → growF (f + 1) m l whole = growF f (m - splitN n) (l.drop (splitN n)) false ++ [⟨root (l.take (splitN n))⟩]) := Lib.hid (fun h => by
    subst hn
    rw [growF, if_neg (by omega), if_neg h])
  obtain ⟨b, o, rfl, _⟩ := hl.2.2 (by omega)
  have hnc : n ≤ c := by have := hl.1; omega
  have hcm : c ≤ 9223372036854775807 := by have := hl.2.1; unfold maxLen at this; omega
  have hmn2 : ¬ m = n := by omega
  have HI := Lib.hid ih
  have HF := Lib.hid hf
  have HN := Lib.hid hn
  have HL := Lib.hid hl
  have HK := Lib.hid hK
  clear ih hl hf hn hK
  generalize splitN n = k at *
  have hkc : k ≤ c := by omega
  have hkn : k ≤ n := by omega
  have hcke : ¬ c = k := by omega
  have hmnI : ¬ (m : Int) = (n : Int) := by omega
  go_enter Tryd.func82, Tryd.ntmps82
  go_upto_region 6 with (first
    | (go_at_call 62; refine (HSP.out _).mono ?_; rintro e w' ⟨rfl, rfl⟩)
    | fail)
  have fin : ∀ (x : List H32) (r : List UInt8) (g : World) (v v10 : Value) (B : Nat) (_ : Below w.heap.size w g) (_ : Own g B 29 v x) (_ : w.heap.size ≤ B) (_ : (SP.lit w.heap.size 1 (r.map encB).toArray 29).p v10 g) (_ : r.length = 32) (_ : x.length ≤ 1048576), ∃ A1 c1, v = .slice A1 x.length c1 ∧
      Calls Tryd.prog 97 #[v, v10] g fun e w' => ∃ v, e = .returned v ∧ Own w' g.heap.size 29 v (x ++ [⟨r⟩]) ∧ Below g.heap.size g w' := by
    intro x r g v v10 B hg ho hB hv hr hx
    obtain ⟨A1, c1, rfl, hs1⟩ := ho.sl
    refine ⟨A1, c1, rfl, ?_⟩
    obtain ⟨b1, rfl, hb1, hb2, hb3⟩ := hv
    exact with_any A1 (some ⟨b1, 0, none⟩) x.length c1 1 1 x [⟨r⟩] g rfl hs1 rfl (Sl.block hb3 hb2 (by simp [maxLen]) (fun i hi => by
      obtain rfl : i = 0 := by simp at hi; omega
      exact ⟨by rw [Nat.zero_mul, List.drop_zero]; exact List.take_of_length_le (by simp [hr]; exact Nat.le_refl _), hr⟩)) (by decide) (by omega) (by decide)
  have HFIN := Lib.hid fin
  clear fin
  by_cases hmk : m ≤ k
  · have hiI : (m : Int) ≤ (k : Int) := by omega
    have HPE := Lib.hid (HDL.out hmk)
    have HPL : Hid ((growF f m (l.take k) whole).length ≤ 1048576) := Lib.hid (Nat.le_trans (growF_length _ _ _ _) hfs)
    have HRL : Hid ((root (l.drop k)).length = 32) := Lib.hid (root_length _ (fun x hx => HLen.out x (List.mem_of_mem_drop hx)))
    clear HDL HDR
    go_upto_region 7 with (fail)
    refine wp_region_rely [5, 9, 10, 11] (fun i => if i = 5 then SP.own w.heap.size 29 (growF f m (l.take k) whole) else if i = 9 then SP.val (hashV (root (l.drop k))) else if i = 10 then SP.lit w.heap.size 1 ((root (l.drop k)).map encB).toArray 29 else if i = 11 then SP.own w.heap.size 29 (growF (f + 1) m l whole) else SP.any) 13 (by kernel_rfl) (by kernel_rfl) ?_
    intro T _ g hg hgm
    repeat (refine wpR_pure (by rfl) fun Kq hq => ?_; go_big_quiet_step (fail); refine wpQuiet_nil (hq _ ?_); clear hq Kq)
    refine wpR_busy (by rfl) (by rfl) (fun d hG K Q hK => ?_) (fun v1 d hG hp Kr hr => ?_)
    · go_simp
      go_at_call 82
      refine (HI.out m (l.take k) whole (some ⟨b, o, none⟩) k c (g d) (by have := HF.out; have := HN.out; rw [List.length_take]; omega) ((HL.out.to (hg d)).take k (by have := HN.out; omega)) (by have := HN.out; rw [List.length_take]; omega) hm1 hmk (HK.out.to (hg d))).mono ?_
      rintro e W1 ⟨v1, rfl, ho1, hb1⟩
      go_simp
      exact hK _ _ hb1 (ho1.re (hg d).size)
    (try clear hp); clear hG
    simp only [Act.put, List.setIfInBounds_toArray, List.set_cons_zero, List.set_cons_succ]
    refine hr _ ?_
    clear hr Kr
    repeat (refine wpR_pure (by rfl) fun Kq hq => ?_; go_big_quiet_step (fail); refine wpQuiet_nil (hq _ ?_); clear hq Kq)
    refine wpR_busy (by rfl) (by rfl) (fun d hG K Q hK => ?_) (fun v2 d hG hp Kr hr => ?_)
    · go_simp
      go_at_call 31
      refine (root_any (l.drop k) (some ⟨b, o + k * 32, none⟩) (n - k) (c - k) (g d) (sl_drop32 (HL.out.to (hg d)) k (by have := HN.out; omega)) (by have := HN.out; rw [List.length_drop]; omega) (by omega) (HK.out.to (hg d))).mono ?_
      rintro e W1 ⟨rfl, hb1⟩
      go_simp
      exact hK _ _ hb1 (rfl)
    obtain rfl : v2 = hashV (root (l.drop k)) := hp
    (try clear hp); clear hG
    simp only [Act.put, List.setIfInBounds_toArray, List.set_cons_zero, List.set_cons_succ]
    refine hr _ ?_
    clear hr Kr
    refine wpR_busy (by rfl) (by rfl) (fun d hG K Q hK => ?_) (fun v3 d hG hp Kr hr => ?_)
    · refine wp_build1 (.tmp 32) rfl ((root (l.drop k)).map encB).toArray rfl (hash_size HRL.out) ?_
      exact hK _ _ ((Below.refl _ _).alloc (Nat.le_refl _) _) ⟨_, rfl, (hg d).size, by simp, heap_alloc_new _ _⟩
    (try clear hp); clear hG
    simp only [Act.put, List.setIfInBounds_toArray, List.set_cons_zero, List.set_cons_succ]
    refine hr _ ?_
    clear hr Kr
    refine wpR_busy (by rfl) (by rfl) (fun d hG K Q hK => ?_) (fun v4 d hG hp Kr hr => ?_)
    · obtain ⟨A1, c1, rfl, hc⟩ := HFIN.out (growF f m (l.take k) whole) (root (l.drop k)) (g d) v1 v3 w.heap.size (hg d) (hG 5 (by kernel_rfl)) (Nat.le_refl _) (hG 10 (by kernel_rfl)) HRL.out HPL.out
      go_simp
      go_at_call 97
      refine (hc).mono ?_
      rintro e W1 ⟨v1, rfl, ho1, hb1⟩
      go_simp
      exact hK _ _ hb1 (by
            show Own W1 w.heap.size 29 v1 (growF (f + 1) m l whole)
            rw [HPE.out]; exact ho1.re (hg d).size)
    obtain ⟨A4, c4, rfl, -⟩ := Own.form (l := growF (f + 1) m l whole) hp
    (try clear hp); clear hG
    simp only [Act.put, List.setIfInBounds_toArray, List.set_cons_zero, List.set_cons_succ]
    refine hr _ ?_
    clear hr Kr
    repeat (refine wpR_pure (by rfl) fun Kq hq => ?_; go_big_quiet_step (fail); refine wpQuiet_nil (hq _ ?_); clear hq Kq)
    refine wpR_end (by kernel_rfl) (fun d hG => ?_) _
    have HO : Hid (Own (g d) w.heap.size 29 (.slice A4 (growF (f + 1) m l whole).length c4) (growF (f + 1) m l whole)) := Lib.hid (hG 11)
    have HBd := Lib.hid (hg d)
    clear hG hg hgm
    unfold Exit.then
    go_wp2_with fail
    go_ret
    exact ⟨_, rfl, HO.out, HBd.out⟩
  · have hiI : ¬ (m : Int) ≤ (k : Int) := by omega
    have HPE := Lib.hid (HDR.out hmk)
    have HPL : Hid ((growF f (m - k) (l.drop k) false).length ≤ 1048576) := Lib.hid (Nat.le_trans (growF_length _ _ _ _) hfs)
    have HRL : Hid ((root (l.take k)).length = 32) := Lib.hid (root_length _ (fun x hx => HLen.out x (List.mem_of_mem_take hx)))
    have hij : IntKind.i64.wrap ((m : Int) - (k : Int)) = ((m - k : Nat) : Int) := by
      rw [IntWalk.i64_in _ (by omega)]; omega
    clear HDL HDR
    go_upto_region 8 with (fail)
    refine wp_region_rely [6, 10, 11, 12] (fun i => if i = 6 then SP.own w.heap.size 29 (growF f (m - k) (l.drop k) false) else if i = 10 then SP.val (hashV (root (l.take k))) else if i = 11 then SP.lit w.heap.size 1 ((root (l.take k)).map encB).toArray 29 else if i = 12 then SP.own w.heap.size 29 (growF (f + 1) m l whole) else SP.any) 14 (by kernel_rfl) (by kernel_rfl) ?_
    intro T _ g hg hgm
    repeat (refine wpR_pure (by rfl) fun Kq hq => ?_; go_big_quiet_step (fail); refine wpQuiet_nil (hq _ ?_); clear hq Kq)
    refine wpR_busy (by rfl) (by rfl) (fun d hG K Q hK => ?_) (fun v1 d hG hp Kr hr => ?_)
    · go_simp
      go_at_call 82
      refine (HI.out (m - k) (l.drop k) false (some ⟨b, o + k * 32, none⟩) (n - k) (c - k) (g d) (by have := HF.out; have := HN.out; rw [List.length_drop]; omega) (sl_drop32 (HL.out.to (hg d)) k (by have := HN.out; omega)) (by have := HN.out; rw [List.length_drop]; omega) (by omega) (by omega) (HK.out.to (hg d))).mono ?_
      rintro e W1 ⟨v1, rfl, ho1, hb1⟩
      go_simp
      exact hK _ _ hb1 (ho1.re (hg d).size)
    (try clear hp); clear hG
    simp only [Act.put, List.setIfInBounds_toArray, List.set_cons_zero, List.set_cons_succ]
    refine hr _ ?_
    clear hr Kr
    repeat (refine wpR_pure (by rfl) fun Kq hq => ?_; go_big_quiet_step (fail); refine wpQuiet_nil (hq _ ?_); clear hq Kq)
    refine wpR_busy (by rfl) (by rfl) (fun d hG K Q hK => ?_) (fun v2 d hG hp Kr hr => ?_)
    · go_simp
      go_at_call 31
      refine (root_any (l.take k) (some ⟨b, o, none⟩) k c (g d) ((HL.out.to (hg d)).take k (by have := HN.out; omega)) (by have := HN.out; rw [List.length_take]; omega) (by omega) (HK.out.to (hg d))).mono ?_
      rintro e W1 ⟨rfl, hb1⟩
      go_simp
      exact hK _ _ hb1 (rfl)
    obtain rfl : v2 = hashV (root (l.take k)) := hp
    (try clear hp); clear hG
    simp only [Act.put, List.setIfInBounds_toArray, List.set_cons_zero, List.set_cons_succ]
    refine hr _ ?_
    clear hr Kr
    refine wpR_busy (by rfl) (by rfl) (fun d hG K Q hK => ?_) (fun v3 d hG hp Kr hr => ?_)
    · refine wp_build1 (.tmp 45) rfl ((root (l.take k)).map encB).toArray rfl (hash_size HRL.out) ?_
      exact hK _ _ ((Below.refl _ _).alloc (Nat.le_refl _) _) ⟨_, rfl, (hg d).size, by simp, heap_alloc_new _ _⟩
    (try clear hp); clear hG
    simp only [Act.put, List.setIfInBounds_toArray, List.set_cons_zero, List.set_cons_succ]
    refine hr _ ?_
    clear hr Kr
    refine wpR_busy (by rfl) (by rfl) (fun d hG K Q hK => ?_) (fun v4 d hG hp Kr hr => ?_)
    · obtain ⟨A1, c1, rfl, hc⟩ := HFIN.out (growF f (m - k) (l.drop k) false) (root (l.take k)) (g d) v1 v3 w.heap.size (hg d) (hG 6 (by kernel_rfl)) (Nat.le_refl _) (hG 11 (by kernel_rfl)) HRL.out HPL.out
      go_simp
      go_at_call 97
      refine (hc).mono ?_
      rintro e W1 ⟨v1, rfl, ho1, hb1⟩
      go_simp
      exact hK _ _ hb1 (by
            show Own W1 w.heap.size 29 v1 (growF (f + 1) m l whole)
            rw [HPE.out]; exact ho1.re (hg d).size)
    obtain ⟨A4, c4, rfl, -⟩ := Own.form (l := growF (f + 1) m l whole) hp
    (try clear hp); clear hG
    simp only [Act.put, List.setIfInBounds_toArray, List.set_cons_zero, List.set_cons_succ]
    refine hr _ ?_
    clear hr Kr
    repeat (refine wpR_pure (by rfl) fun Kq hq => ?_; go_big_quiet_step (fail); refine wpQuiet_nil (hq _ ?_); clear hq Kq)
    refine wpR_end (by kernel_rfl) (fun d hG => ?_) _
    have HO : Hid (Own (g d) w.heap.size 29 (.slice A4 (growF (f + 1) m l whole).length c4) (growF (f + 1) m l whole)) := Lib.hid (hG 12)
    have HBd := Lib.hid (hg d)
    clear hG hg hgm
    unfold Exit.then
    go_wp2_with fail
    go_ret
    exact ⟨_, rfl, HO.out, HBd.out⟩
set_option maxRecDepth 100000 in
set_option maxHeartbeats 4000000 in
theorem grow1_any (f m : Nat) (l : List H32) (whole : Bool) (A : Option Addr) (c : Nat) (w : World) (hl : Sl w (fun b => b < w.heap.size) A c l) (hn : l.length = m) (hs : m ≤ 1073741824) (hK : KLaid w) :
    Calls Tryd.prog 82 #[.int .i64 (m : Int), .slice A m c, .bool whole] w fun e w' => ∃ v, e = .returned v ∧ Own w' w.heap.size 29 v (growF (f + 1) m l whole) ∧ Below w.heap.size w w' := by
  have HRT := Lib.hid (root_any l A m c w hl hn hs hK)
  have HRL : Hid ((root l).length = 32) := Lib.hid (root_length _ (h32_len hl))
  have HGT : Hid (whole = true → growF (f + 1) m l whole = []) := Lib.hid (fun h => by rw [growF, if_pos hn.symm, if_pos h])
  have HGF : Hid (whole = false → growF (f + 1) m l whole = [⟨root l⟩]) := Lib.hid (fun h => by rw [growF, if_pos hn.symm, if_neg (by rw [h]; decide)])
  clear hl hn hK
  cases whole with
  | true =>
    go_enter Tryd.func82, Tryd.ntmps82
    go_wp2_with fail
    go_ret
    exact ⟨_, rfl, by rw [HGT.out (by trivial)]; exact Own.nil _ _ _, Below.refl _ _⟩
  | false =>
    obtain ⟨r, hr⟩ : ∃ r, r = root l := ⟨_, rfl⟩
    have HR := Lib.hid hr
    have hrv : hashV (root l) = .agg (r.map encB).toArray := by rw [← hr]; rfl
    rw [← hr] at HRL
    rw [hrv] at HRT
    have HSZ := Lib.hid (hash_size HRL.out)
    clear hr hrv
    generalize hcs : (r.map encB).toArray = cs at *
    have HCS := Lib.hid hcs
    clear hcs
    go_enter Tryd.func82, Tryd.ntmps82
    go_wp2_with fail
    refine HRT.out.mono ?_
    rintro e w2 ⟨rfl, hb2⟩
    have HB2 := Lib.hid hb2
    clear hb2
    go_wp2_with (first
      | (refine wpList_build1 rfl (.tmp 14) rfl cs rfl HSZ.out ?_
         have hw3 := with_any none (some ⟨w2.heap.size, 0, none⟩) 0 0 1 1 [] [⟨r⟩] (w2.alloc (.cells cs 29)) rfl (Sl.nil _ _ _ _ (by decide)) rfl (Sl.block (heap_alloc_new w2 _) (by simp) (by simp [maxLen]) (fun i hi => by
           obtain rfl : i = 0 := by simp at hi; omega
           exact ⟨by rw [Nat.zero_mul, List.drop_zero, ← HCS.out]; exact List.take_of_length_le (by simp [HRL.out]; exact Nat.le_refl _), HRL.out⟩)) (by decide) (by decide) (by decide)
         have HW3 := Lib.hid hw3
         have HB3 : Hid (Below w.heap.size w (w2.alloc (.cells cs 29))) := Lib.hid (HB2.out.alloc HB2.out.size _)
         clear hw3
         generalize w2.alloc (.cells cs 29) = w3 at *
         generalize w2.heap.size = B3 at *)
      | fail)
    refine HW3.out.mono ?_
    rintro e w4 ⟨v4, rfl, ho4, hb4⟩
    obtain ⟨A4, c4, rfl, -⟩ := ho4.form
    have HO4 : Hid (Own w4 w.heap.size 29 (.slice A4 1 c4) [(⟨r⟩ : H32)]) := Lib.hid (ho4.re HB3.out.size)
    have HB4 := Lib.hid (HB3.out.trans (hb4.mono HB3.out.size))
    clear ho4 hb4
    go_wp2_with fail
    go_ret
    exact ⟨_, rfl, by rw [HGF.out (by trivial), ← HR.out]; exact HO4.out, HB4.out⟩
theorem growF_any (f : Nat) (hfs : f ≤ 1048577) : ∀ (m : Nat) (l : List H32) (whole : Bool) (A : Option Addr) (n c : Nat) (w : World), l.length ≤ f → Sl w (fun b => b < w.heap.size) A c l → l.length = n → 1 ≤ m → m ≤ n → KLaid w →
      Calls Tryd.prog 82 #[.int .i64 (m : Int), .slice A n c, .bool whole] w fun e w' => ∃ v, e = .returned v ∧ Own w' w.heap.size 29 v (growF f m l whole) ∧ Below w.heap.size w w' := by
  induction f with
  | zero => intro m l whole A n c w hf hl hn h1 h2; omega
  | succ f ih =>
    intro m l whole A n c w hf hl hn h1 h2 hK
    by_cases hm : m = n
    · subst hm
      exact grow1_any f m l whole A c w hl hn (by omega) hK
    · exact grow2_any f (by omega) (ih (by omega)) m l whole A n c w hf hl hn h1 (by omega) hK
end Go.Proofs.YthcklfelofpffaaDoor
namespace Go.Proofs.YthcklfelofpffaaDoor
open Go.RowKit
set_option maxRecDepth 100000 in
set_option maxHeartbeats 4000000 in
theorem growth_any (m : Int) (l : List H32) (A : Option Addr) (n c : Nat) (w : World) (hl : Sl w (fun b => b < w.heap.size) A c l) (hn : l.length = n) (hs : n ≤ 1048576) (hK : KLaid w) :
    Calls Tryd.prog 56 #[.slice A n c, .int .i64 m] w fun e w' => ∃ v, e = .returned (.tuple #[v, .int .i64 (growthE l m)]) ∧ Own w' w.heap.size 29 v (growthP l m) ∧ Below w.heap.size w w' := by
  by_cases h0 : m < 0
  · have HP : Hid (growthP l m = [] ∧ growthE l m = 5) := Lib.hid ⟨if_pos (.inl h0), if_pos (.inl h0)⟩
    clear hl hn hK
    have hmI : m ≤ (n : Int) := by omega
    have hd : decide (m < 0) = true := decide_eq_true h0
    go_enter Tryd.func56, Tryd.ntmps56
    go_wp2_with fail
    go_ret2
    exact ⟨_, by rw [HP.out.2]; rfl, by rw [HP.out.1]; exact Own.nil _ _ _, Below.refl _ _⟩
  · by_cases h1 : (n : Int) < m
    · have HP : Hid (growthP l m = [] ∧ growthE l m = 5) := Lib.hid ⟨if_pos (.inr (.inl (by rw [hn]; exact h1))), if_pos (.inr (by rw [hn]; exact h1))⟩
      clear hl hn hK
      go_enter Tryd.func56, Tryd.ntmps56
      go_wp2_with fail
      go_ret2
      exact ⟨_, by rw [HP.out.2]; rfl, by rw [HP.out.1]; exact Own.nil _ _ _, Below.refl _ _⟩
    · by_cases h2 : m = 0
      · subst h2
        have HP : Hid (growthP l 0 = [] ∧ growthE l 0 = 0) := Lib.hid ⟨if_pos (.inr (.inr rfl)), if_neg (by omega)⟩
        clear hl hn hK
        go_enter Tryd.func56, Tryd.ntmps56
        go_wp2_with fail
        go_ret2
        exact ⟨_, by rw [HP.out.2]; rfl, by rw [HP.out.1]; exact Own.nil _ _ _, Below.refl _ _⟩
      · obtain ⟨k, rfl⟩ : ∃ k : Nat, m = (k : Int) := ⟨m.toNat, by omega⟩
        have HP : Hid (growthP l k = growF l.length k l true ∧ growthE l k = 0) := Lib.hid ⟨if_neg (by omega), if_neg (by omega)⟩
        have HG := Lib.hid (growF_any l.length (by omega) k l true A n c w (Nat.le_refl _) hl hn (by omega) (by omega) hK)
        clear hl hn hK
        go_enter Tryd.func56, Tryd.ntmps56
        go_wp2_with fail
        refine HG.out.mono ?_
        rintro e w2 ⟨v2, rfl, ho2, hb2⟩
        obtain ⟨A2, c2, rfl, -⟩ := ho2.form
        have HO := Lib.hid ho2
        have HB := Lib.hid hb2
        clear ho2 hb2
        go_wp2_with fail
        go_ret2
        exact ⟨_, by rw [HP.out.2]; rfl, by rw [HP.out.1]; exact HO.out, HB.out⟩

set_option maxRecDepth 100000 in
set_option maxHeartbeats 4000000 in
theorem cgrowth_any (m : Int) (L : List H32) (A B : Option Addr) (nb ca cb : Nat) (w : World) (hl : Sl w (fun b => b < w.heap.size) A ca L) (hs : L.length ≤ 1048576) (hK : KLaid w) :
    Calls Tryd.prog 26 #[.agg #[.slice A L.length ca, .slice B nb cb], .int .i64 m] w fun e w' => ∃ v, e = .returned (.tuple #[v, .int .i64 (growthE L m)]) ∧ Own w' w.heap.size 29 v (growthP L m) ∧ Below w.heap.size w w' := by
  have hba : Below w.heap.size w (w.alloc (.cells #[.slice A L.length ca, .slice B nb cb] 36)) := (Below.refl _ _).alloc (Nat.le_refl _) _
  have HX1 : Hid (ABox (w.alloc (.cells #[.slice A L.length ca, .slice B nb cb] 36)) w.heap.size 36 [.slice A L.length ca, .slice B nb cb]) := Lib.hid (heap_alloc_new w _)
  have HB := Lib.hid hba
  have HG := Lib.hid (growth_any m L A L.length ca _ (hl.to hba) rfl hs (hK.to hba))
  have HZ : Hid (w.heap.size ≤ (w.alloc (.cells #[.slice A L.length ca, .slice B nb cb] 36)).heap.size) := Lib.hid (by simp)
  clear hba hl hK
  go_enter Tryd.func26, Tryd.ntmps26
  go_upto_region 1 with (fail)
  generalize (w.alloc (.cells #[.slice A L.length ca, .slice B nb cb] 36)) = w1 at *
  have k0 := HX1.out.cell 0 rfl
  generalize hLn : L.length = Ln at *
  go_wp2_with fail
  refine HG.out.mono ?_
  rintro e w2 ⟨v2, rfl, ho2, hb2⟩
  have HO : Hid (Own w2 w.heap.size 29 v2 (growthP L m)) := Lib.hid (ho2.re HZ.out)
  have HB2 := Lib.hid (HB.out.trans (hb2.mono HZ.out))
  obtain ⟨A2, c2, rfl, -⟩ := ho2.form
  clear ho2 hb2 k0
  go_wp2_with fail
  go_ret2
  exact ⟨_, rfl, HO.out, HB2.out⟩

set_option maxRecDepth 100000 in
set_option maxHeartbeats 4000000 in
theorem r34growth_any (m : Int) (L : List H32) (A B : Option Addr) (nb ca cb : Nat) (w : World) (hl : Sl w (fun b => b < w.heap.size) A ca L) (hs : L.length ≤ 1048576) :
    Calls Tryd.prog 27 #[.agg #[.slice A L.length ca, .slice B nb cb], .int .i64 m] w fun e w' => ∃ v, e = .returned (.tuple #[v, .int .i64 (growthE L m)]) ∧ Own w' w.heap.size 29 v (growthP L m) ∧ Below w.heap.size w w' := by
  have hba : Below w.heap.size w (w.alloc (.cells #[.slice A L.length ca, .slice B nb cb] 36)) := (Below.refl _ _).alloc (Nat.le_refl _) _
  have HX1 : Hid (ABox (w.alloc (.cells #[.slice A L.length ca, .slice B nb cb] 36)) w.heap.size 36 [.slice A L.length ca, .slice B nb cb]) := Lib.hid (heap_alloc_new w _)
  have HB := Lib.hid hba
  have HG := Lib.hid (rgrowth_any m L A L.length ca _ (hl.to hba) rfl hs)
  have HZ : Hid (w.heap.size ≤ (w.alloc (.cells #[.slice A L.length ca, .slice B nb cb] 36)).heap.size) := Lib.hid (by simp)
  clear hba hl
  go_enter Tryd.func27, Tryd.ntmps27
  go_upto_region 1 with (fail)
  generalize (w.alloc (.cells #[.slice A L.length ca, .slice B nb cb] 36)) = w1 at *
  have k0 := HX1.out.cell 0 rfl
  generalize hLn : L.length = Ln at *
  go_wp2_with fail
  refine HG.out.mono ?_
  rintro e w2 ⟨v2, rfl, ho2, hb2⟩
  have HO : Hid (Own w2 w.heap.size 29 v2 (growthP L m)) := Lib.hid (ho2.re HZ.out)
  have HB2 := Lib.hid (HB.out.trans (hb2.mono HZ.out))
  obtain ⟨A2, c2, rfl, -⟩ := ho2.form
  clear ho2 hb2 k0
  go_wp2_with fail
  go_ret2
  exact ⟨_, rfl, HO.out, HB2.out⟩
end Go.Proofs.YthcklfelofpffaaDoor
namespace Go.Proofs.YthcklfelofpffaaDoor
open Go.RowKit
/-- A list in a value. -/
def SP.sl {α : Type} [Rep α] (f : Value → Value) (l : List α) : SP := ⟨fun v w => ∃ A c, v = f (.slice A l.length c) ∧ Sl w (fun b => b < w.heap.size) A c l, fun _ _ _ h hb => by
  obtain ⟨A, c, h1, h2⟩ := h
  exact ⟨A, c, h1, h2.to hb⟩⟩
theorem growthP_nil {l : List H32} {m : Int} (h : growthE l m ≠ 0) : growthP l m = [] := by
  unfold growthE at h
  unfold growthP
  split at h
  · rename_i hh; rw [if_pos (by omega)]
  · exact absurd rfl h
theorem growthP_length (l : List H32) (m : Int) : (growthP l m).length ≤ l.length := by
  unfold growthP; split
  · simp
  · exact growF_length _ _ _ _
set_option maxRecDepth 100000 in
set_option maxHeartbeats 8000000 in
theorem proofsLaw_any (A : Option Addr) (c : Nat) (ll : List (List Int)) (x : ByteArray) (size : Int) (w : World) (hll : Sl w (fun b => b < w.heap.size) A c ll) (hsz : I64 size) (hK : KLaid w) :
    Calls Tryd.prog 6 #[.slice A ll.length c, .string x, .int .i64 size] w fun e w' => e = .returned (.bool true) ∧ Below w.heap.size w w' := by
  have HLG := Lib.hid (ledger_any 0 A c ll w (by unfold I64; omega) hll hK)
  have HSZ := Lib.hid hsz
  have HK := Lib.hid hK
  clear hll hsz hK
  go_enter Tryd.func6, Tryd.ntmps6
  go_wp2_with fail
  refine HLG.out.mono ?_
  rintro e w3 ⟨v3, v4, rfl, L, N, A1, A2, c1, c2, rfl, rfl, hs3, hs4, hln0, hlm0, hb3⟩
  have hb5 : Below w3.heap.size w3 (w3.alloc (.cells #[.slice A1 L.length c1, .slice A2 N.length c2] 36)) := (Below.refl _ _).alloc (Nat.le_refl _) _
  have HLD0 : Hid (LB (w3.alloc (.cells #[.slice A1 L.length c1, .slice A2 N.length c2] 36)) w3.heap.size L N A1 c1 A2 c2) := Lib.hid ⟨heap_alloc_new w3 _, hs3.to hb5, hs4.to hb5⟩
  have HB5 := Lib.hid (hb3.trans (hb5.mono hb3.size))
  have HLN := Lib.hid hln0
  have HLM := Lib.hid hlm0
  clear hb5 hs3 hs4 hln0 hlm0 hb3 HLG
  go_upto_region 2 with (fail)
  generalize hw : World.alloc w3 _ = w5
  have hv : w3.alloc (.cells #[.slice A1 L.length c1, .slice A2 N.length c2] 36) = w5 := hw
  rw [hv] at HLD0 HB5
  clear hw hv
  generalize w3.heap.size = Ob at *
  obtain ⟨labs, hlabs⟩ : ∃ labs : List ByteArray, labs = [x, ⟨#[49]⟩, ⟨#[50, 97]⟩, ⟨#[52, 98]⟩, ⟨#[57]⟩] := ⟨_, rfl⟩
  have HBL : Hid (Below w5.heap.size w5 (w5.alloc (.cells (labs.map Value.string).toArray 9))) := Lib.hid ((Below.refl _ _).alloc (Nat.le_refl _) _)
  have HLA : Hid ((w5.alloc (.cells (labs.map Value.string).toArray 9)).heap[w5.heap.size]? = some (.cells (labs.map Value.string).toArray 9 (0, 0))) := Lib.hid (heap_alloc_new w5 _)
  have HL5 : Hid (labs.length = 5) := Lib.hid (by rw [hlabs]; rfl)
  have hle : (labs.map Value.string).toArray = #[.string x, .string ⟨#[49]⟩, .string ⟨#[50, 97]⟩, .string ⟨#[52, 98]⟩, .string ⟨#[57]⟩] := by rw [hlabs]; rfl
  have HLE := Lib.hid hle
  rw [hle] at HBL HLA
  clear hlabs hle
  go_upto_region 3 with (fail)
  generalize hw : World.alloc w5 _ = w6
  have hv : w5.alloc (.cells #[.string x, .string ⟨#[49]⟩, .string ⟨#[50, 97]⟩, .string ⟨#[52, 98]⟩, .string ⟨#[57]⟩] 9) = w6 := hw
  rw [hv] at HBL HLA
  clear hw hv
  have HLD6 := Lib.hid (HLD0.out.to HBL.out)
  have HB6 := Lib.hid (HB5.out.trans (HBL.out.mono HB5.out.size))
  have HLt : Hid (w5.heap.size < w6.heap.size) := Lib.hid (Array.getElem?_eq_some_iff.1 HLA.out).1
  have HLC : Hid (∀ k, (h : k < labs.length) → w6.cell? ⟨w5.heap.size, k, none⟩ = some (.string labs[k])) := Lib.hid (fun k h => by
    rw [cell_of_row _ _ _ _ _ _ HLA.out, ← HLE.out]
    simp [h])
  generalize w5.heap.size = Lb at *
  clear HLD0 HB5 HBL HLA HLE
  go_wp2_with fail
  go_loopw [9] (fun i wr => ∃ k : Nat, k ≤ 5 ∧ i = .int .i64 k ∧ Hid (Below w6.heap.size w6 wr)) (fun i _ => 5 - (intOf i).toNat)
  case atStart => exact ⟨0, Nat.zero_le _, rfl, Lib.hid (Below.refl _ _)⟩
  case round =>
    obtain ⟨k, hk, rfl, HBw⟩ := hrel
    by_cases hlt : k < 5
    · have hkl : (k : Int) < 5 := by omega
      have hk0 : (0 : Int) ≤ (k : Int) := by omega
      have HLD1 := Lib.hid (HLD6.out.to HBw.out)
      have hk5 : k < labs.length := by rw [HL5.out]; exact hlt
      obtain ⟨y, hy⟩ : ∃ y, y = labs[k] := ⟨_, rfl⟩
      have HY1 : Hid (Lb < wr.heap.size ∧ wr.cell? ⟨Lb, k, none⟩ = some (.string y)) := Lib.hid ⟨by have := HLt.out; have := HBw.out.size; omega, by rw [hy]; exact (HBw.out.cell (p := ⟨Lb, k, none⟩) HLt.out).trans (HLC.out k hk5)⟩
      have HK1 : Hid (KLaid wr) := Lib.hid (HK.out.to (HB6.out.trans (HBw.out.mono HB6.out.size)))
      obtain ⟨pi, pb, pp, HPI⟩ : ∃ pi pb pp, Hid (proofI N y = pi ∧ proofP L N y = pp ∧ proofB N y = pb) := ⟨_, _, _, Lib.hid ⟨rfl, rfl, rfl⟩⟩
      clear hy hk5
      go_upto_region 6 with (fail)
      refine wp_region_rely [5] (fun i => if i = 5 then (SP.sl (fun s => .tuple #[.int .i64 pi, s, .bool pb]) pp) else SP.any) 13 (by kernel_rfl) (by kernel_rfl) ?_
      intro T _ g hg hgm
      have q0 : ∀ d, (g d).cell? ⟨Ob, 0, none⟩ = some (.slice A1 L.length c1) := fun d => (HLD1.out.box.to (hg d)).cell 0 rfl
      have q1 : ∀ d, (g d).cell? ⟨Ob, 1, none⟩ = some (.slice A2 N.length c2) := fun d => (HLD1.out.box.to (hg d)).cell 1 rfl
      have q2 : ∀ d, (g d).cell? ⟨Lb, k, none⟩ = some (.string y) := fun d => ((hg d).cell (p := ⟨Lb, k, none⟩) HY1.out.1).trans HY1.out.2
      repeat (refine wpR_pure (by rfl) fun Kq hq => ?_; go_big_quiet_step (fail); refine wpQuiet_nil (hq _ ?_); clear hq Kq)
      refine wpR_busy (by rfl) (by rfl) (fun d hG K Q hK => ?_) (fun v1 d hG hp Kr hr => ?_)
      · go_simp
        go_at_call 21
        refine (proof_any A1 A2 c1 c2 L N y (g d) (HLD1.out.l.to (hg d)) (HLD1.out.n.to (hg d)) HLN.out (by have := HLM.out; omega) (HK1.out.to (hg d))).mono ?_
        rintro e W1 ⟨A', c', rfl, hs1, hb1⟩
        go_simp
        exact hK _ _ hb1 (by
              rw [HPI.out.1, HPI.out.2.1, HPI.out.2.2] at *; exact ⟨_, _, rfl, hs1⟩)
      obtain ⟨B1, d1, rfl, -⟩ := (show ∃ A c, v1 = (fun s : Value => Value.tuple #[.int .i64 pi, s, .bool pb]) (.slice A pp.length c) ∧ _ from hp)
      dsimp only at hr ⊢
      (try clear hp); clear hG
      simp only [Act.put, List.setIfInBounds_toArray, List.set_cons_zero, List.set_cons_succ]
      refine hr _ ?_
      clear hr Kr
      repeat (refine wpR_pure (by rfl) fun Kq hq => ?_; go_big_quiet_step (fail); refine wpQuiet_nil (hq _ ?_); clear hq Kq)
      refine wpR_end (by kernel_rfl) (fun d hG => ?_) _
      have HS1 : Hid (Sl (g d) (fun b => b < (g d).heap.size) B1 d1 pp) := Lib.hid (by obtain ⟨A, c, he, hs⟩ := (show ∃ A c, _ ∧ Sl (g d) (fun b => b < (g d).heap.size) A c pp from hG 5); cases he; exact hs)
      have HLD2 := Lib.hid (HLD1.out.to (hg d))
      have HY2 : Hid (Lb < (g d).heap.size ∧ (g d).cell? ⟨Lb, k, none⟩ = some (.string y)) := Lib.hid ⟨by have := HY1.out.1; have := (hg d).size; omega, ((hg d).cell (p := ⟨Lb, k, none⟩) HY1.out.1).trans HY1.out.2⟩
      have HK2 := Lib.hid (HK1.out.to (hg d))
      have HBa : Hid (Below w6.heap.size w6 (g d)) := Lib.hid (HBw.out.trans ((hg d).mono HBw.out.size))
      clear hG hg hgm q0 q1 q2 HLD1 HY1 HK1 HBw
      generalize g d = wa at *
      clear g
      unfold Exit.then
      go_upto_region 7 with (fail)
      refine wp_region_rely [5] (fun i => if i = 5 then (SP.sl (fun s => .tuple #[.int .i64 pi, s, .bool pb]) pp) else SP.any) 13 (by kernel_rfl) (by kernel_rfl) ?_
      intro T _ g hg hgm
      have q0 : ∀ d, (g d).cell? ⟨Ob, 0, none⟩ = some (.slice A1 L.length c1) := fun d => (HLD2.out.box.to (hg d)).cell 0 rfl
      have q1 : ∀ d, (g d).cell? ⟨Ob, 1, none⟩ = some (.slice A2 N.length c2) := fun d => (HLD2.out.box.to (hg d)).cell 1 rfl
      have q2 : ∀ d, (g d).cell? ⟨Lb, k, none⟩ = some (.string y) := fun d => ((hg d).cell (p := ⟨Lb, k, none⟩) HY2.out.1).trans HY2.out.2
      repeat (refine wpR_pure (by rfl) fun Kq hq => ?_; go_big_quiet_step (fail); refine wpQuiet_nil (hq _ ?_); clear hq Kq)
      refine wpR_busy (by rfl) (by rfl) (fun d hG K Q hK => ?_) (fun v1 d hG hp Kr hr => ?_)
      · go_simp
        go_at_call 23
        refine (rproof_any A1 A2 c1 c2 L N y (g d) (HLD2.out.l.to (hg d)) (HLD2.out.n.to (hg d)) HLN.out (by have := HLM.out; omega)).mono ?_
        rintro e W1 ⟨A', c', rfl, hs1, hb1⟩
        go_simp
        exact hK _ _ hb1 (by
              rw [HPI.out.1, HPI.out.2.1, HPI.out.2.2] at *; exact ⟨_, _, rfl, hs1⟩)
      obtain ⟨B2, d2, rfl, -⟩ := (show ∃ A c, v1 = (fun s : Value => Value.tuple #[.int .i64 pi, s, .bool pb]) (.slice A pp.length c) ∧ _ from hp)
      dsimp only at hr ⊢
      (try clear hp); clear hG
      simp only [Act.put, List.setIfInBounds_toArray, List.set_cons_zero, List.set_cons_succ]
      refine hr _ ?_
      clear hr Kr
      repeat (refine wpR_pure (by rfl) fun Kq hq => ?_; go_big_quiet_step (fail); refine wpQuiet_nil (hq _ ?_); clear hq Kq)
      refine wpR_end (by kernel_rfl) (fun d hG => ?_) _
      have HSH : Hid (∀ W, Below (g d).heap.size (g d) W → Calls Tryd.prog 24 #[.slice B1 pp.length d1, .slice B2 pp.length d2] W fun e w' => e = .returned (.bool true) ∧ Below W.heap.size W w') := Lib.hid (by
        obtain ⟨A, c, he, hs⟩ := (show ∃ A c, _ ∧ Sl (g d) (fun b => b < (g d).heap.size) A c pp from hG 5)
        cases he
        intro W hW
        have := same_hashes B1 B2 d1 d2 pp.length pp.length pp pp W ((HS1.out.to (hg d)).to hW) (hs.to hW) rfl rfl
        rwa [decide_eq_true rfl] at this)
      have HBb : Hid (Below w6.heap.size w6 (g d)) := Lib.hid (HBa.out.trans ((hg d).mono HBa.out.size))
      clear hG hg hgm q0 q1 q2 HLD2 HY2 HK2 HBa HS1 HPI
      generalize g d = wb at *
      clear g
      unfold Exit.then
      go_wp2_with fail
      refine (HSH.out _ (Below.refl _ _)).mono ?_
      rintro e w8 ⟨rfl, hb8⟩
      have HB8 := Lib.hid (HBb.out.trans (hb8.mono HBb.out.size))
      clear hb8 HSH HBb
      go_wp2_with fail
      go_roundw
      case rel => exact ⟨k + 1, by omega, by go_num, HB8⟩
      case measure => (simp [intOf]; omega)
    · have hkl : ¬ (k : Int) < 5 := by omega
      have HLD7 := Lib.hid (HLD6.out.to HBw.out)
      have HB7 := Lib.hid (HB6.out.trans (HBw.out.mono HB6.out.size))
      have hL60 : (L.length : Int) ≤ 60 := by have := HLM.out; omega
      have hL0 : (0 : Int) ≤ (L.length : Int) := by omega
      have k0 := HLD7.out.box.cell 0 rfl
      obtain ⟨sz2, hsz2⟩ : ∃ z, z = aro size ((L.length : Int) + 1) := ⟨_, rfl⟩
      have HS2 : Hid (I64 sz2) := Lib.hid (by have := aro_lt size ((L.length : Int) + 1) (by omega); unfold I64; omega)
      have HAR : Hid (∀ W, Calls Tryd.prog 25 #[.int .i64 size, .int .i64 ((L.length : Int) + 1)] W fun e w' => e = .returned (.int .i64 sz2) ∧ W = w') := Lib.hid (fun W => by rw [hsz2]; exact around_any size _ W HSZ.out (by omega) (by omega))
      clear hsz2 HLD6 HB6 HBw HLC HLt HL5
      go_wp2_with fail
      refine (HAR.out _).mono ?_
      rintro e w8 ⟨rfl, rfl⟩
      obtain ⟨szs, hszs⟩ : ∃ szs : List Int, szs = [size, sz2] := ⟨_, rfl⟩
      have HBL : Hid (Below wr.heap.size wr (wr.alloc (.cells (szs.map (Value.int .i64)).toArray 3))) := Lib.hid ((Below.refl _ _).alloc (Nat.le_refl _) _)
      have HLA : Hid ((wr.alloc (.cells (szs.map (Value.int .i64)).toArray 3)).heap[wr.heap.size]? = some (.cells (szs.map (Value.int .i64)).toArray 3 (0, 0))) := Lib.hid (heap_alloc_new wr _)
      have HL2 : Hid (szs.length = 2) := Lib.hid (by rw [hszs]; rfl)
      have HI2 : Hid (∀ y ∈ szs, I64 y) := Lib.hid (by intro y hy; rw [hszs] at hy; simp at hy; rcases hy with rfl | rfl; exact HSZ.out; exact HS2.out)
      have hle : (szs.map (Value.int .i64)).toArray = #[.int .i64 size, .int .i64 sz2] := by rw [hszs]; rfl
      have HLE := Lib.hid hle
      rw [hle] at HBL HLA
      clear hszs hle k0 HAR
      go_upto_region 11 with (fail)
      generalize hw : World.alloc wr _ = w9
      have hv : wr.alloc (.cells #[.int .i64 size, .int .i64 sz2] 3) = w9 := hw
      rw [hv] at HBL HLA
      clear hw hv
      have HLD9 := Lib.hid (HLD7.out.to HBL.out)
      have HB9 := Lib.hid (HB7.out.trans (HBL.out.mono HB7.out.size))
      have HLt : Hid (wr.heap.size < w9.heap.size) := Lib.hid (Array.getElem?_eq_some_iff.1 HLA.out).1
      have HLC : Hid (∀ k, (h : k < szs.length) → w9.cell? ⟨wr.heap.size, k, none⟩ = some (.int .i64 szs[k])) := Lib.hid (fun k h => by
        rw [cell_of_row _ _ _ _ _ _ HLA.out, ← HLE.out]
        simp [h])
      generalize wr.heap.size = Lb at *
      clear HLD7 HB7 HBL HLA HLE
      go_wp2_with fail
      go_loopw [17] (fun i wr => ∃ k : Nat, k ≤ 2 ∧ i = .int .i64 k ∧ Hid (Below w9.heap.size w9 wr)) (fun i _ => 2 - (intOf i).toNat)
      case atStart => exact ⟨0, Nat.zero_le _, rfl, Lib.hid (Below.refl _ _)⟩
      case round =>
        obtain ⟨k2, hk2, rfl, HBw⟩ := hrel
        by_cases hlt2 : k2 < 2
        · have hkl2 : (k2 : Int) < 2 := by omega
          have hk02 : (0 : Int) ≤ (k2 : Int) := by omega
          have HLD1 := Lib.hid (HLD9.out.to HBw.out)
          have hk5 : k2 < szs.length := by rw [HL2.out]; exact hlt2
          obtain ⟨y, hy⟩ : ∃ y, y = szs[k2] := ⟨_, rfl⟩
          have HY1 : Hid (Lb < wr.heap.size ∧ wr.cell? ⟨Lb, k2, none⟩ = some (.int .i64 y)) := Lib.hid ⟨by have := HLt.out; have := HBw.out.size; omega, by rw [hy]; exact (HBw.out.cell (p := ⟨Lb, k2, none⟩) HLt.out).trans (HLC.out k2 hk5)⟩
          have HK1 : Hid (KLaid wr) := Lib.hid (HK.out.to (HB9.out.trans (HBw.out.mono HB9.out.size)))
          obtain ⟨pe, pp, HPI⟩ : ∃ pe pp, Hid (growthE L y = pe ∧ growthP L y = pp) := ⟨_, _, Lib.hid ⟨rfl, rfl⟩⟩
          clear hy hk5
          go_upto_region 14 with (fail)
          refine wp_region_rely [5] (fun i => if i = 5 then (SP.sl (fun s => .tuple #[s, .int .i64 pe]) pp) else SP.any) 11 (by kernel_rfl) (by kernel_rfl) ?_
          intro T _ g hg hgm
          have q0 : ∀ d, (g d).cell? ⟨Ob, 0, none⟩ = some (.slice A1 L.length c1) := fun d => (HLD1.out.box.to (hg d)).cell 0 rfl
          have q1 : ∀ d, (g d).cell? ⟨Ob, 1, none⟩ = some (.slice A2 N.length c2) := fun d => (HLD1.out.box.to (hg d)).cell 1 rfl
          have q2 : ∀ d, (g d).cell? ⟨Lb, k2, none⟩ = some (.int .i64 y) := fun d => ((hg d).cell (p := ⟨Lb, k2, none⟩) HY1.out.1).trans HY1.out.2
          repeat (refine wpR_pure (by rfl) fun Kq hq => ?_; go_big_quiet_step (fail); refine wpQuiet_nil (hq _ ?_); clear hq Kq)
          refine wpR_busy (by rfl) (by rfl) (fun d hG K Q hK => ?_) (fun v1 d hG hp Kr hr => ?_)
          · go_simp
            go_at_call 26
            refine (cgrowth_any y L A1 A2 N.length c1 c2 (g d) (HLD1.out.l.to (hg d)) (by have := HLM.out; omega) (HK1.out.to (hg d))).mono ?_
            rintro e W1 ⟨v, rfl, ho1, hb1⟩
            go_simp
            exact hK _ _ hb1 (by
                  obtain ⟨A, c, rfl, hs⟩ := ho1.sl
                  rw [HPI.out.1, HPI.out.2] at *; exact ⟨_, _, rfl, hs⟩)
          obtain ⟨B1, d1, rfl, -⟩ := (show ∃ A c, v1 = (fun s : Value => Value.tuple #[s, .int .i64 pe]) (.slice A pp.length c) ∧ _ from hp)
          dsimp only at hr ⊢
          (try clear hp); clear hG
          simp only [Act.put, List.setIfInBounds_toArray, List.set_cons_zero, List.set_cons_succ]
          refine hr _ ?_
          clear hr Kr
          repeat (refine wpR_pure (by rfl) fun Kq hq => ?_; go_big_quiet_step (fail); refine wpQuiet_nil (hq _ ?_); clear hq Kq)
          refine wpR_end (by kernel_rfl) (fun d hG => ?_) _
          have HS1 : Hid (Sl (g d) (fun b => b < (g d).heap.size) B1 d1 pp) := Lib.hid (by obtain ⟨A, c, he, hs⟩ := (show ∃ A c, _ ∧ Sl (g d) (fun b => b < (g d).heap.size) A c pp from hG 5); cases he; exact hs)
          have HLD2 := Lib.hid (HLD1.out.to (hg d))
          have HY2 : Hid (Lb < (g d).heap.size ∧ (g d).cell? ⟨Lb, k2, none⟩ = some (.int .i64 y)) := Lib.hid ⟨by have := HY1.out.1; have := (hg d).size; omega, ((hg d).cell (p := ⟨Lb, k2, none⟩) HY1.out.1).trans HY1.out.2⟩
          have HBa : Hid (Below w9.heap.size w9 (g d)) := Lib.hid (HBw.out.trans ((hg d).mono HBw.out.size))
          clear hG hg hgm q0 q1 q2 HLD1 HY1 HK1 HBw
          generalize g d = wa at *
          clear g
          unfold Exit.then
          go_upto_region 15 with (fail)
          refine wp_region_rely [5] (fun i => if i = 5 then (SP.sl (fun s => .tuple #[s, .int .i64 pe]) pp) else SP.any) 11 (by kernel_rfl) (by kernel_rfl) ?_
          intro T _ g hg hgm
          have q0 : ∀ d, (g d).cell? ⟨Ob, 0, none⟩ = some (.slice A1 L.length c1) := fun d => (HLD2.out.box.to (hg d)).cell 0 rfl
          have q1 : ∀ d, (g d).cell? ⟨Ob, 1, none⟩ = some (.slice A2 N.length c2) := fun d => (HLD2.out.box.to (hg d)).cell 1 rfl
          have q2 : ∀ d, (g d).cell? ⟨Lb, k2, none⟩ = some (.int .i64 y) := fun d => ((hg d).cell (p := ⟨Lb, k2, none⟩) HY2.out.1).trans HY2.out.2
          repeat (refine wpR_pure (by rfl) fun Kq hq => ?_; go_big_quiet_step (fail); refine wpQuiet_nil (hq _ ?_); clear hq Kq)
          refine wpR_busy (by rfl) (by rfl) (fun d hG K Q hK => ?_) (fun v1 d hG hp Kr hr => ?_)
          · go_simp
            go_at_call 27
            refine (r34growth_any y L A1 A2 N.length c1 c2 (g d) (HLD2.out.l.to (hg d)) (by have := HLM.out; omega)).mono ?_
            rintro e W1 ⟨v, rfl, ho1, hb1⟩
            go_simp
            exact hK _ _ hb1 (by
                  obtain ⟨A, c, rfl, hs⟩ := ho1.sl
                  rw [HPI.out.1, HPI.out.2] at *; exact ⟨_, _, rfl, hs⟩)
          obtain ⟨B2, d2, rfl, -⟩ := (show ∃ A c, v1 = (fun s : Value => Value.tuple #[s, .int .i64 pe]) (.slice A pp.length c) ∧ _ from hp)
          dsimp only at hr ⊢
          (try clear hp); clear hG
          simp only [Act.put, List.setIfInBounds_toArray, List.set_cons_zero, List.set_cons_succ]
          refine hr _ ?_
          clear hr Kr
          repeat (refine wpR_pure (by rfl) fun Kq hq => ?_; go_big_quiet_step (fail); refine wpQuiet_nil (hq _ ?_); clear hq Kq)
          refine wpR_end (by kernel_rfl) (fun d hG => ?_) _
          have HSH : Hid (∀ W, Below (g d).heap.size (g d) W → Calls Tryd.prog 24 #[.slice B1 pp.length d1, .slice B2 pp.length d2] W fun e w' => e = .returned (.bool true) ∧ Below W.heap.size W w') := Lib.hid (by
            obtain ⟨A, c, he, hs⟩ := (show ∃ A c, _ ∧ Sl (g d) (fun b => b < (g d).heap.size) A c pp from hG 5)
            cases he
            intro W hW
            have := same_hashes B1 B2 d1 d2 pp.length pp.length pp pp W ((HS1.out.to (hg d)).to hW) (hs.to hW) rfl rfl
            rwa [decide_eq_true rfl] at this)
          have HBb : Hid (Below w9.heap.size w9 (g d)) := Lib.hid (HBa.out.trans ((hg d).mono HBa.out.size))
          clear hG hg hgm q0 q1 q2 HLD2 HY2 HBa HS1 HPI
          generalize g d = wb at *
          clear g
          unfold Exit.then
          go_wp2_with fail
          refine (HSH.out _ (Below.refl _ _)).mono ?_
          rintro e w8 ⟨rfl, hb8⟩
          have HB8 := Lib.hid (HBb.out.trans (hb8.mono HBb.out.size))
          clear hb8 HSH HBb
          go_wp2_with fail
          go_roundw
          case rel => exact ⟨k2 + 1, by omega, by go_num, HB8⟩
          case measure => (simp [intOf]; omega)
        · have hkl2 : ¬ (k2 : Int) < 2 := by omega
          have HBz := Lib.hid (HB9.out.trans (HBw.out.mono HB9.out.size))
          have HLV := Lib.hid (lives_any wr (HK.out.to HBz.out))
          go_wp2_with fail
          refine HLV.out.mono ?_
          rintro e w8 ⟨rfl, hb8⟩
          have HB8 := Lib.hid (HBz.out.trans (hb8.mono HBz.out.size))
          clear hb8 HLV HBz
          go_wp2_with fail
          go_ret
          exact ⟨rfl, HB8.out⟩
end Go.Proofs.YthcklfelofpffaaDoor
namespace Go.Proofs.YthcklfelofpffaaDoor
open Go.ChangeShapes Go.WideShapes Go.ChangeAt Go.RowKit Go.Deep
theorem exists_list {α : Type} {Q : Nat → α → Prop} (n : Nat) (h : ∀ i, i < n → ∃ a, Q i a) : ∃ l : List α, l.length = n ∧ ∀ i, (hi : i < l.length) → Q i l[i] := by
  induction n with
  | zero => exact ⟨[], rfl, fun i hi => by simp at hi⟩
  | succ n ih =>
    obtain ⟨l, hl, hq⟩ := ih fun i hi => h i (by omega)
    obtain ⟨a, ha⟩ := h n (by omega)
    refine ⟨l ++ [a], by simp [hl], fun i hi => ?_⟩
    by_cases hin : i < l.length
    · rw [List.getElem_append_left hin]; exact hq i hin
    · have : i = n := by simp at hi; omega
      subst this
      rw [List.getElem_append_right (by omega)]
      simpa using ha
theorem addr_plain {w : World} {a : Addr} {v : Value} (h : w.cell? (a.add 0) = some v) : ∃ b o, a = ⟨b, o, none⟩ := by
  obtain ⟨b, o, spot⟩ := a
  have hspot : spot = none := by simpa [Addr.add] using World.cell?_spot h
  subst hspot
  exact ⟨b, o, rfl⟩
theorem bulk_one {H : Type} (d : DataW H) : 1 ≤ Rows.uptoBulk d := by
  cases d with
  | lit l => cases l <;> simp [Rows.uptoBulk]
  | nil => simp [Rows.uptoBulk]
  | ptr d => simp [Rows.uptoBulk]
  | slice elems spare => simp [Rows.uptoBulk]
  | agg parts => simp [Rows.uptoBulk]
  | iface t d => simp [Rows.uptoBulk]
  | map entries => simp [Rows.uptoBulk]
  | held h => simp [Rows.uptoBulk]
theorem bulk_part {H : Type} {d : DataW H} {l : List (DataW H)} (h : d ∈ l) : Rows.uptoBulk d ≤ Rows.uptoBulkAll l := by
  induction l with
  | nil => cases h
  | cons x r ih =>
    simp only [Rows.uptoBulkAll]
    cases List.mem_cons.1 h with
    | inl e => subst e; omega
    | inr e => have := ih e; omega
theorem bulk_length {H : Type} (l : List (DataW H)) : l.length ≤ Rows.uptoBulkAll l := by
  induction l with
  | nil => simp [Rows.uptoBulkAll]
  | cons x r ih => have := bulk_one x; simp only [Rows.uptoBulkAll, List.length_cons]; omega
theorem bulk_slice {H : Type} (elems spare : List (DataW H)) : elems.length + spare.length + 1 ≤ Rows.uptoBulk (.slice elems spare) := by
  have h1 := bulk_length elems
  have h2 := bulk_length spare
  simp only [Rows.uptoBulk]
  omega
/-- THE BOUND. -/
theorem bulk_bound {H : Type} {l : List (DataW H)} (hk : Rows.uptoSmall H l = true) : Rows.uptoBulkAll l ≤ 1048576 := by
  have h := of_decide_eq_true hk
  exact h
variable {H : Type} {enc : TypeId × Value → H} {P : Program}
/-- A slice whose elements are of a kind that is known. -/
theorem open_sl {α : Type} [Rep α] {t e : TypeId} {W : World} {base : Nat} {v : Value} {d : DataW H} {ps : List MemPlace} (ht : P.underlying t = some (.slice e)) (hC : P.cellsOf e = Rep.size α)
    (hel : ∀ fuel cs x, DataW.trod enc P W 0 (fun _ => true) true fuel e cs = some x → ∃ a : α, Rep.R W (fun b => b < W.heap.size) cs a) (hsz : 0 < Rep.size α)
    (hval : Value.okWide P W .any base t v) (h : DataW.Trod enc P W 0 (fun _ => true) true t v d ps) :
    ∃ A c, ∃ l : List α, v = .slice A l.length c ∧ Sl W (fun b => b < W.heap.size) A c l ∧ l.length ≤ Rows.uptoBulk d := by
  obtain ⟨a, len, cap, rfl⟩ := okWide_slice ht hval
  obtain ⟨fuel, hf⟩ := h
  rcases open_slice ht hf with ⟨hcs, _⟩ | ⟨a', len', cap', m, n, D, Pl, hcs, _, hl, hm, hmm, hx, hi⟩
  · simp [Value.cells] at hcs
    obtain ⟨rfl, rfl, rfl⟩ := hcs
    exact ⟨none, 0, [], rfl, Sl.nil _ _ _ _ (by simp [maxLen]), by simp⟩
  · simp [Value.cells] at hcs
    obtain ⟨rfl, rfl, rfl⟩ := hcs
    simp only [if_true] at hmm
    subst hmm
    rw [hC] at hi
    have hQ : ∀ i, i < len → ∃ x : α, ∃ es, Rep.R W (fun b => b < W.heap.size) es x ∧ ∀ j u, es[j]? = some u → W.cell? (a'.add (i * Rep.size α + j)) = some u := by
      intro i hil
      obtain ⟨cs', hc, ht'⟩ := hi i (by omega)
      obtain ⟨x, hr⟩ := hel _ _ _ ht'
      obtain ⟨_, hlen, hat⟩ := World.cells?_some hc
      refine ⟨x, cs', hr, fun j u hu => ?_⟩
      have hj : j < Rep.size α := by rw [← hlen]; exact (List.getElem?_eq_some_iff.1 hu).1
      rw [← Go.Deep.add_add]
      exact (hat j hj).trans hu
    obtain ⟨l, hll, hq⟩ := exists_list len hQ
    refine ⟨some a', m, l, by rw [hll], ⟨by omega, hm, fun h0 => ?_⟩, ?_⟩
    · obtain ⟨es, hr, hc⟩ := hq 0 h0
      have hel0 := Rep.len hr
      obtain ⟨b, o, rfl⟩ := addr_plain (by simpa using hc 0 _ (List.getElem?_eq_getElem (by omega)))
      have hlt := World.block_lt_of_cell? W _ (hc 0 _ (List.getElem?_eq_getElem (by omega)))
      rw [addr_add] at hlt
      refine ⟨b, o, rfl, hlt, hlt, fun i hil => ?_⟩
      obtain ⟨es, hr, hc⟩ := hq i hil
      refine ⟨es, hr, fun j u hu => ?_⟩
      have := hc j u hu
      rwa [addr_add, ← Nat.add_assoc] at this
    · simp only [Prod.mk.injEq] at hx
      rw [hx.1, hll]
      have := bulk_slice ((List.range len).map D) ((List.range (m - len)).map fun j => D (len + j))
      simp only [List.length_map, List.length_range] at this
      omega
end Go.Proofs.YthcklfelofpffaaDoor
namespace Go.Proofs.YthcklfelofpffaaDoor
open Go.ChangeShapes Go.WideShapes Go.ChangeAt Go.RowKit Go.Deep
variable {H : Type} {enc : TypeId × Value → H} {P : Program}
theorem open_ints_sl {t e : TypeId} {W : World} {base : Nat} {v : Value} {d : DataW H} {ps : List MemPlace} (ht : P.underlying t = some (.slice e)) (he : P.underlying e = some (.int .i64)) (hc : P.cellsOf e = 1)
    (hval : Value.okWide P W .any base t v) (h : DataW.Trod enc P W 0 (fun _ => true) true t v d ps) : ∃ A c, ∃ l : List Int, v = .slice A l.length c ∧ Sl W (fun b => b < W.heap.size) A c l := by
  obtain ⟨a, len, cap, rfl⟩ := okWide_slice ht hval
  obtain ⟨fuel, hf⟩ := h
  rcases open_ints ht he hc hf with ⟨hcs, _⟩ | ⟨a', len', cap', zs, hcs, _, hl, hm, hz, _, hcell, hwf⟩
  · simp [Value.cells] at hcs
    obtain ⟨rfl, rfl, rfl⟩ := hcs
    exact ⟨none, 0, [], rfl, Sl.nil _ _ _ _ (by simp [maxLen])⟩
  · simp [Value.cells] at hcs
    obtain ⟨rfl, rfl, rfl⟩ := hcs
    have hz' : zs.length = cap := by simpa using hz
    have hlt : (zs.take len).length = len := by rw [List.length_take]; omega
    refine ⟨some a', cap, zs.take len, by rw [hlt], by rw [hlt]; exact hl, hm, fun h0 => ?_⟩
    obtain ⟨b, o, rfl, hat⟩ := Go.ints_at hcell (by omega)
    refine ⟨b, o, rfl, World.block_lt_of_cell? W _ (hat 0 (by omega)), World.block_lt_of_cell? W _ (hat 0 (by omega)), fun i hi => ?_⟩
    rw [hlt] at hi
    have e : zs.getD i 0 = (zs.take len)[i]'(by omega) := by
      rw [List.getElem_take, List.getD_eq_getElem?_getD, List.getElem?_eq_getElem (by omega)]; rfl
    refine ⟨[.int .i64 (zs.getD i 0)], ⟨by rw [e], ?_⟩, fun j u hu => ?_⟩
    · exact i64_wf (hwf _ (List.mem_of_mem_take (List.getElem_mem (by omega))))
    · have hj : j = 0 := by
        rcases j with _ | j
        · rfl
        · simp at hu
      subst hj
      simp only [List.getElem?_cons_zero, Option.some.injEq] at hu
      subst hu
      have := hat i (by omega)
      show W.cell? ⟨b, o + i * 1 + 0, none⟩ = _
      rw [Nat.mul_one, Nat.add_zero]; exact this
theorem rep_ints {t e : TypeId} {W : World} (ht : P.underlying t = some (.slice e)) (he : P.underlying e = some (.int .i64)) (hc : P.cellsOf e = 1) (fuel : Nat) (cs : List Value) (x : DataW H × List MemPlace) (hf : DataW.trod enc P W 0 (fun _ => true) true fuel t cs = some x) : ∃ l : List Int, Rep.R W (fun b => b < W.heap.size) cs l := by
  rcases open_ints ht he hc hf with ⟨hcs, _⟩ | ⟨a', len, cap, zs, hcs, _, hl, hm, hz, _, hcell, hwf⟩
  · exact ⟨[], none, 0, hcs, Sl.nil _ _ _ _ (by simp [maxLen]), by simp⟩
  · have hz' : zs.length = cap := by simpa using hz
    have hlt : (zs.take len).length = len := by rw [List.length_take]; omega
    have hm' := hm
    unfold maxLen at hm'
    refine ⟨zs.take len, some a', cap, by rw [hlt]; exact hcs, ⟨by rw [hlt]; exact hl, hm, fun h0 => ?_⟩, by rw [hlt]; omega⟩
    obtain ⟨b, o, rfl, hat⟩ := Go.ints_at hcell (by omega)
    refine ⟨b, o, rfl, World.block_lt_of_cell? W _ (hat 0 (by omega)), World.block_lt_of_cell? W _ (hat 0 (by omega)), fun i hi => ?_⟩
    rw [hlt] at hi
    have e : zs.getD i 0 = (zs.take len)[i]'(by omega) := by
      rw [List.getElem_take, List.getD_eq_getElem?_getD, List.getElem?_eq_getElem (by omega)]; rfl
    refine ⟨[.int .i64 (zs.getD i 0)], ⟨by rw [e], i64_wf (hwf _ (List.mem_of_mem_take (List.getElem_mem (by omega))))⟩, fun j u hu => ?_⟩
    have hj : j = 0 := by
      rcases j with _ | j
      · rfl
      · simp at hu
    subst hj
    simp only [List.getElem?_cons_zero, Option.some.injEq] at hu
    subst hu
    have := hat i (by omega)
    show W.cell? ⟨b, o + i * 1 + 0, none⟩ = _
    rw [Nat.mul_one, Nat.add_zero]; exact this
theorem open_intss {t e ei : TypeId} {W : World} {base : Nat} {v : Value} {d : DataW H} {ps : List MemPlace} (ht : P.underlying t = some (.slice e)) (he : P.underlying e = some (.slice ei)) (hei : P.underlying ei = some (.int .i64)) (hce : P.cellsOf e = 1) (hc : P.cellsOf ei = 1)
    (hval : Value.okWide P W .any base t v) (h : DataW.Trod enc P W 0 (fun _ => true) true t v d ps) : ∃ A c, ∃ l : List (List Int), v = .slice A l.length c ∧ Sl W (fun b => b < W.heap.size) A c l := by
  obtain ⟨A, c, l, h1, h2, _⟩ := open_sl (α := List Int) ht hce (fun fuel cs x hx => rep_ints he hei hc fuel cs x hx) (by decide) hval h
  exact ⟨A, c, l, h1, h2⟩
end Go.Proofs.YthcklfelofpffaaDoor
namespace Go.Proofs.YthcklfelofpffaaDoor.rowCertifyProofs
open Go.ChangeShapes Go.WideShapes Go.ChangeAt Go.RowKit
set_option maxRecDepth 100000 in
theorem contract (H : Type) (enc : TypeId × Value → H) (W : World) (base : Nat) (args : Array Value) (ds gs : List (DataW H)) (before : List MemPlace)
    (hval : ∀ (j : Nat) t v, Tryd.f6.params[j]? = some t → args[j]? = some v → Value.okWide Tryd.prog W .any base t v)
    (hW : DataW.Whole enc Tryd.prog Tryd.f6.params.toList Rows.certifyProofsSpec.vars false W args.toList ds gs before) (hL : laidMetH Tryd.prog laidL W) :
    Calls Tryd.prog 6 args W fun e W' => ∃ v, e = .returned v ∧ Rows.certifyProofsSpec.post enc Tryd.prog Tryd.f6 false true false false W args v W' := by
  have hW' := hW
  obtain ⟨p, q, hA0, hV, rfl, hfz, hnd⟩ := hW
  have hA : DataW.TrodAll enc Tryd.prog W 0 (fun _ => true) true Tryd.f6.params.toList args.toList ds p := hA0
  rw [Tryd.params6] at hA hval
  obtain ⟨v0, vs0, d0, ds0, p0, q0, hargs, rfl, rfl, h0, r0⟩ := trodAll_cons hA
  obtain ⟨v1, vs1, d1, ds1, p1, q1, rfl, rfl, rfl, h1, r1⟩ := trodAll_cons r0
  obtain ⟨v2, vs2, d2, ds2, p2, q2, rfl, rfl, rfl, h2, r2⟩ := trodAll_cons r1
  obtain ⟨rfl, rfl, rfl⟩ := trodAll_nil r2
  obtain rfl : args = #[v0, v1, v2] := by cases args; simp_all
  obtain ⟨rfl, rfl⟩ := trodVars_none hV
  obtain ⟨A0, c0, l0, rfl, hl0⟩ := open_intss Tryd.underlying33 Tryd.underlying25 Tryd.underlying3 cells_ints cells_int (hval 0 33 v0 rfl rfl) h0
  obtain ⟨s1, rfl, rfl, rfl, hs1⟩ := Go.ChangeMaps.open_string Tryd.underlying9 (hval 1 9 v1 rfl rfl) h1
  obtain ⟨n2, rfl, rfl, rfl, wn2⟩ := open_int Tryd.underlying3 (hval 2 3 v2 rfl rfl) h2
  refine (proofsLaw_any A0 c0 l0 s1 n2 W hl0 (i64_wf wn2) (tabs_of hL)).mono fun e W' ⟨he, hb⟩ => ?_
  subst he
  exact ⟨_, rfl, row_close laidOut Tryd.underlying4 (by kernel_rfl) (by kernel_rfl) rfl hW' rfl hb⟩

theorem laid_met (os : Os) : laidMet Tryd.prog Rows.certifyProofsRow.laid ((laidWorld os).forCall (fun _ _ => 0) ⟨#[], #[.slice none 0 0, .string ⟨#[]⟩, .int .i64 0], []⟩).memory :=
  laidMet_of_run' 8 (by kernel_rfl) (by kernel_rfl)
theorem reads (os : Os) {H : Type} (enc : TypeId × Value → H) : ∃ places, DataW.whole enc Tryd.prog ((laidWorld os).forCall (fun _ _ => 0) ⟨#[], #[.slice none 0 0, .string ⟨#[]⟩, .int .i64 0], []⟩).memory Tryd.f6.params.toList Rows.certifyProofsSpec.vars false (#[.slice none 0 0, .string ⟨#[]⟩, .int .i64 0] : Array Value).toList 8 = some ([.nil, .lit (.string []), .lit (.int .i64 0)], [], places) :=
  ⟨[], by kernel_rfl⟩
set_option maxRecDepth 100000 in
theorem lifted (os : Os) (started : os.Started) (H : Type) (enc : TypeId × Value → H) (F : Stop.Interp) :
    ReturnsInHanded {} Tryd.checked os 6 .any ((OpenSpec.ofChange Rows.certifyProofsSpec).preRow enc Tryd.prog Tryd.f6 Rows.certifyProofsRow.domain false Rows.certifyProofsRow.laid) (((OpenSpec.ofChange Rows.certifyProofsSpec).at F).post enc Tryd.prog Tryd.f6 false true false false) := by
  obtain ⟨places, hx⟩ := reads os enc
  refine returnsInHanded_of_row (C := Tryd.checked) (s := (OpenSpec.ofChange Rows.certifyProofsSpec)) own started (by kernel_rfl) Tryd.func6
    (witness_row_at (enc := enc) (C := Tryd.checked) false (laidWorld os) #[.slice none 0 0, .string ⟨#[]⟩, .int .i64 0] rfl (by kernel_rfl) (by kernel_rfl) (by kernel_rfl)
      (OpenSpec.preRow_of_cond 8 hx (by kernel_rfl) (fun k hk => by cases hk) (by kernel_rfl) (laid_met os))) ?_
  intro W base args ds gs before hval hW _ _ _ hL _ _
  exact contract H enc W base args ds gs before hval hW hL
theorem said : Rows.CertifyProofsSaid :=
  OpenClaim.holds_of_cond 6 Tryd.f6 rfl rfl rfl rfl rfl rfl rfl ⟨rfl, rfl, rfl, rfl, rfl⟩ rfl rfl rfl rfl rfl (by kernel_rfl) Tryd.func6 (by kernel_rfl)
    (of_decide_eq_true (by kernel_rfl)) (by unfold Func.isWrapper; first | (rw [if_pos (by decide +kernel)]; kernel_rfl) | (rw [if_neg (by decide +kernel)]; exact ⟨rfl, rfl⟩))
    (fun os started H enc _ F => by rw [OpenClaim.pre_eq_preRow]; exact lifted os started H enc F)
theorem wants : Tryd.f6.params.all (fun t => !Tryd.prog.wantsStandIn t) = true := by kernel_rfl
theorem plain (f : FuncId) (fn : Func) (hf : Tryd.pinned.checked.prog.funcNamed "rollbook/rollbooklaw34.CertifyProofs" = some f) (hfn : Tryd.pinned.checked.prog.funcs[f]? = some fn) :
    false = Tryd.pinned.checked.prog.looks [] ∧ ∀ (j : Nat) t, fn.params[j]? = some t → Tryd.pinned.checked.prog.wantsStandIn t = false := by
  obtain rfl : f = 6 := Option.some.inj ((show Tryd.prog.funcNamed "rollbook/rollbooklaw34.CertifyProofs" = some 6 by kernel_rfl).symm.trans hf) |>.symm
  obtain rfl : fn = Tryd.f6 := (Option.some.inj (Tryd.func6.symm.trans hfn)).symm
  refine ⟨by kernel_rfl, fun j t ht => ?_⟩
  have := Array.all_eq_true_iff_forall_mem.1 wants t (Array.mem_of_getElem? ht)
  exact (by simpa using this : Tryd.prog.wantsStandIn t = false)
theorem card : Rows.CertifyProofsCardSaid :=
  Claim7.holds_tied_plain_at .later [] _ _ _ _ said (fun _ h => by cases h) (by kernel_rfl) (fun _ h => by cases h) certifyProofs_row_tie rfl ⟨rfl, rfl⟩ (by kernel_rfl) rfl plain (by kernel_rfl)
#print axioms card
end Go.Proofs.YthcklfelofpffaaDoor.rowCertifyProofs
