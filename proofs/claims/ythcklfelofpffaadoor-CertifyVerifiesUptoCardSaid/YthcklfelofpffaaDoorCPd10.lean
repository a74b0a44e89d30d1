/- The growth within a tree: slices.Clip, with, grow, Growth of merkle, and Growth of certify and of the reference. No condition but what the table holds, and sizes.
Growth of merkle, of certify and of the reference. No condition but what the table holds, and sizes.
CertifyProofs, walked. No condition but what the table holds.
What a growth makes of an old root: the inner function of merkle.Extends. No condition but sizes and what the table holds. -/
import Derived.Test.YthcklfelofpffaaDoorCPd9
namespace Go.Proofs.YthcklfelofpffaaDoor
open Go.RowKit
set_option maxRecDepth 100000 in
theorem clip_any (A : Option Addr) (n c : Nat) (w : World) (hc : n ≤ c) (_hm : c ≤ 9223372036854775807) : Calls Tryd.prog 103 #[.slice A n c] w fun e w' => e = .returned (.slice A n n) ∧ w = w' := by
  go_enter Tryd.func103, Tryd.ntmps103
  go_wp2_with fail
  go_ret
  exact ⟨rfl, rfl⟩
set_option maxRecDepth 100000 in
theorem with_any (A A' : Option Addr) (n c n' c' : Nat) (l l' : List H32) (w : World) (hn : l.length = n) (hl : Sl w (fun b => b < w.heap.size) A c l) (hn' : l'.length = n') (hl' : Sl w (fun b => b < w.heap.size) A' c' l') (h0 : 0 < n') (hs : n ≤ 1073741824) (hs' : n' ≤ 1073741824) :
    Calls Tryd.prog 97 #[.slice A n c, .slice A' n' c'] w fun e w' => ∃ v, e = .returned v ∧ Own w' w.heap.size 29 v (l ++ l') ∧ Below w.heap.size w w' := by
  have hnc : n ≤ c := by have := hl.1; omega
  have hcm : c ≤ 9223372036854775807 := by have := hl.2.1; unfold maxLen at this; omega
  have HC := Lib.hid (clip_any A n c w hnc hcm)
  have HL : Hid (Sl w (fun b => b < w.heap.size) A n l) := Lib.hid ⟨by omega, by unfold maxLen; omega, hl.2.2⟩
  have HL' := Lib.hid hl'
  have HN := Lib.hid hn
  have HN' := Lib.hid hn'
  clear hl hl' hn hn' hnc hcm
  go_enter Tryd.func97, Tryd.ntmps97
  go_wp2_with fail
  refine HC.out.mono ?_
  rintro e w' ⟨rfl, rfl⟩
  go_wp2_with (first
    | (refine wpList_fresh (α := H32) rfl (.tmp 6) (.tmp 7) 34 rfl 29 (.agg (zer32.map encB).toArray) 32 Tryd.underlying34 h_info rfl (by decide) A n l rfl HN.out HL.out A' c' n' l' rfl HN'.out HL'.out h0 (by omega) (by omega) ?_
       intro v w2 ho hb
       obtain ⟨A2, c2, rfl, -⟩ := ho.form
       rw [List.length_append] at ho ⊢
       have HO := Lib.hid ho
       have HB := Lib.hid hb
       clear ho hb)
    | fail)
  go_ret
  exact ⟨_, rfl, HO.out, HB.out⟩

set_option maxRecDepth 100000 in
set_option maxHeartbeats 4000000 in
theorem grow2_any (f : Nat) (hfs : f ≤ 1048576) (ih : ∀ (m : Nat) (l : List H32) (whole : Bool) (A : Option Addr) (n c : Nat) (w : World), l.length ≤ f → Sl w (fun b => b < w.heap.size) A c l → l.length = n → 1 ≤ m → m ≤ n → KLaid w →
      Calls Tryd.prog 82 #[.int .i64 (m : Int), .slice A n c, .bool whole] w fun e w' => ∃ v, e = .returned v ∧ Own w' w.heap.size 29 v (growF f m l whole) ∧ Below w.heap.size w w')
    (m : Nat) (l : List H32) (whole : Bool) (A : Option Addr) (n c : Nat) (w : World) (hf : l.length ≤ f + 1) (hl : Sl w (fun b => b < w.heap.size) A c l) (hn : l.length = n) (hm1 : 1 ≤ m) (hmn : m < n) (hK : KLaid w) :
    Calls Tryd.prog 82 #[.int .i64 (m : Int), .slice A n c, .bool whole] w fun e w' => ∃ v, e = .returned v ∧ Own w' w.heap.size 29 v (growF (f + 1) m l whole) ∧ Below w.heap.size w w' := by
  have hs : n ≤ 1048577 := by omega
  have h2 : 2 ≤ n := by omega
  obtain ⟨_, _, h3, h4, _⟩ := splitN_bounds n h2 (by omega)
  have HSP := Lib.hid (split_any n h2 (by omega))
  have HLen := Lib.hid (h32_len hl)
  have HDL : Hid (m ≤ splitN n → growF (f + 1) m l whole = growF f m (l.take (splitN n)) whole ++ [⟨root (l.drop (splitN n))⟩]) := Lib.hid (fun h => by
    subst hn
    rw [growF, if_neg (by omega), if_pos h])
  have HDR : Hid (¬ m ≤ splitN n → growF (f + 1) m l whole = growF f (m - splitN n) (l.drop (splitN n)) false ++ [⟨root (l.take (splitN n))⟩]) := Lib.hid (fun h => by
    subst hn
    rw [growF, if_neg (by omega), if_neg h])
  obtain ⟨b, o, rfl, _⟩ := hl.2.2 (by omega)
  have hnc : n ≤ c := by have := hl.1; omega
  have hcm : c ≤ 9223372036854775807 := by have := hl.2.1; unfold maxLen at this; omega
  have hmn2 : ¬ m = n := by omega
  have HI := Lib.hid ih
  have HF := Lib.hid hf
  have HN := Lib.hid hn
  have HL := Lib.hid hl
  have HK := Lib.hid hK
  clear ih hl hf hn hK
  generalize splitN n = k at *
  have hkc : k ≤ c := by omega
  have hkn : k ≤ n := by omega
  have hcke : ¬ c = k := by omega
  have hmnI : ¬ (m : Int) = (n : Int) := by omega
  go_enter Tryd.func82, Tryd.ntmps82
  go_upto_region 6 with (first
    | (go_at_call 62; refine (HSP.out _).mono ?_; rintro e w' ⟨rfl, rfl⟩)
    | fail)
  have fin : ∀ (x : List H32) (r : List UInt8) (g : World) (v v10 : Value) (B : Nat) (_ : Below w.heap.size w g) (_ : Own g B 29 v x) (_ : w.heap.size ≤ B) (_ : (SP.lit w.heap.size 1 (r.map encB).toArray 29).p v10 g) (_ : r.length = 32) (_ : x.length ≤ 1048576), ∃ A1 c1, v = .slice A1 x.length c1 ∧
      Calls Tryd.prog 97 #[v, v10] g fun e w' => ∃ v, e = .returned v ∧ Own w' g.heap.size 29 v (x ++ [⟨r⟩]) ∧ Below g.heap.size g w' := by
    intro x r g v v10 B hg ho hB hv hr hx
    obtain ⟨A1, c1, rfl, hs1⟩ := ho.sl
    refine ⟨A1, c1, rfl, ?_⟩
    obtain ⟨b1, rfl, hb1, hb2, hb3⟩ := hv
    exact with_any A1 (some ⟨b1, 0, none⟩) x.length c1 1 1 x [⟨r⟩] g rfl hs1 rfl (Sl.block hb3 hb2 (by simp [maxLen]) (fun i hi => by
      obtain rfl : i = 0 := by simp at hi; omega
      exact ⟨by rw [Nat.zero_mul, List.drop_zero]; exact List.take_of_length_le (by simp [hr]; exact Nat.le_refl _), hr⟩)) (by decide) (by omega) (by decide)
  have HFIN := Lib.hid fin
  clear fin
  by_cases hmk : m ≤ k
  · have hiI : (m : Int) ≤ (k : Int) := by omega
    have HPE := Lib.hid (HDL.out hmk)
    have HPL : Hid ((growF f m (l.take k) whole).length ≤ 1048576) := Lib.hid (Nat.le_trans (growF_length _ _ _ _) hfs)
    have HRL : Hid ((root (l.drop k)).length = 32) := Lib.hid (root_length _ (fun x hx => HLen.out x (List.mem_of_mem_drop hx)))
    clear HDL HDR
    go_upto_region 7 with (fail)
    refine wp_region_rely [5, 9, 10, 11] (fun i => if i = 5 then SP.own w.heap.size 29 (growF f m (l.take k) whole) else if i = 9 then SP.val (hashV (root (l.drop k))) else if i = 10 then SP.lit w.heap.size 1 ((root (l.drop k)).map encB).toArray 29 else if i = 11 then SP.own w.heap.size 29 (growF (f + 1) m l whole) else SP.any) 13 (by kernel_rfl) (by kernel_rfl) ?_
    intro T _ g hg hgm
    repeat (refine wpR_pure (by rfl) fun Kq hq => ?_; go_big_quiet_step (fail); refine wpQuiet_nil (hq _ ?_); clear hq Kq)
    refine wpR_busy (by rfl) (by rfl) (fun d hG K Q hK => ?_) (fun v1 d hG hp Kr hr => ?_)
    · go_simp
      go_at_call 82
      refine (HI.out m (l.take k) whole (some ⟨b, o, none⟩) k c (g d) (by have := HF.out; have := HN.out; rw [List.length_take]; omega) ((HL.out.to (hg d)).take k (by have := HN.out; omega)) (by have := HN.out; rw [List.length_take]; omega) hm1 hmk (HK.out.to (hg d))).mono ?_
      rintro e W1 ⟨v1, rfl, ho1, hb1⟩
      go_simp
      exact hK _ _ hb1 (ho1.re (hg d).size)
    (try clear hp); clear hG
    simp only [Act.put, List.setIfInBounds_toArray, List.set_cons_zero, List.set_cons_succ]
    refine hr _ ?_
    clear hr Kr
    repeat (refine wpR_pure (by rfl) fun Kq hq => ?_; go_big_quiet_step (fail); refine wpQuiet_nil (hq _ ?_); clear hq Kq)
    refine wpR_busy (by rfl) (by rfl) (fun d hG K Q hK => ?_) (fun v2 d hG hp Kr hr => ?_)
    · go_simp
      go_at_call 31
      refine (root_any (l.drop k) (some ⟨b, o + k * 32, none⟩) (n - k) (c - k) (g d) (sl_drop32 (HL.out.to (hg d)) k (by have := HN.out; omega)) (by have := HN.out; rw [List.length_drop]; omega) (by omega) (HK.out.to (hg d))).mono ?_
      rintro e W1 ⟨rfl, hb1⟩
      go_simp
      exact hK _ _ hb1 (rfl)
    obtain rfl : v2 = hashV (root (l.drop k)) := hp
    (try clear hp); clear hG
    simp only [Act.put, List.setIfInBounds_toArray, List.set_cons_zero, List.set_cons_succ]
    refine hr _ ?_
    clear hr Kr
    refine wpR_busy (by rfl) (by rfl) (fun d hG K Q hK => ?_) (fun v3 d hG hp Kr hr => ?_)
    · refine wp_build1 (.tmp 32) rfl ((root (l.drop k)).map encB).toArray rfl (hash_size HRL.out) ?_
      exact hK _ _ ((Below.refl _ _).alloc (Nat.le_refl _) _) ⟨_, rfl, (hg d).size, by simp, heap_alloc_new _ _⟩
    (try clear hp); clear hG
    simp only [Act.put, List.setIfInBounds_toArray, List.set_cons_zero, List.set_cons_succ]
    refine hr _ ?_
    clear hr Kr
    refine wpR_busy (by rfl) (by rfl) (fun d hG K Q hK => ?_) (fun v4 d hG hp Kr hr => ?_)
    · obtain ⟨A1, c1, rfl, hc⟩ := HFIN.out (growF f m (l.take k) whole) (root (l.drop k)) (g d) v1 v3 w.heap.size (hg d) (hG 5 (by kernel_rfl)) (Nat.le_refl _) (hG 10 (by kernel_rfl)) HRL.out HPL.out
      go_simp
      go_at_call 97
      refine (hc).mono ?_
      rintro e W1 ⟨v1, rfl, ho1, hb1⟩
      go_simp
      exact hK _ _ hb1 (by
            show Own W1 w.heap.size 29 v1 (growF (f + 1) m l whole)
            rw [HPE.out]; exact ho1.re (hg d).size)
    obtain ⟨A4, c4, rfl, -⟩ := Own.form (l := growF (f + 1) m l whole) hp
    (try clear hp); clear hG
    simp only [Act.put, List.setIfInBounds_toArray, List.set_cons_zero, List.set_cons_succ]
    refine hr _ ?_
    clear hr Kr
    repeat (refine wpR_pure (by rfl) fun Kq hq => ?_; go_big_quiet_step (fail); refine wpQuiet_nil (hq _ ?_); clear hq Kq)
    refine wpR_end (by kernel_rfl) (fun d hG => ?_) _
    have HO : Hid (Own (g d) w.heap.size 29 (.slice A4 (growF (f + 1) m l whole).length c4) (growF (f + 1) m l whole)) := Lib.hid (hG 11)
    have HBd := Lib.hid (hg d)
    clear hG hg hgm
    unfold Exit.then
    go_wp2_with fail
    go_ret
    exact ⟨_, rfl, HO.out, HBd.out⟩
  · have hiI : ¬ (m : Int) ≤ (k : Int) := by omega
    have HPE := Lib.hid (HDR.out hmk)
    have HPL : Hid ((growF f (m - k) (l.drop k) false).length ≤ 1048576) := Lib.hid (Nat.le_trans (growF_length _ _ _ _) hfs)
    have HRL : Hid ((root (l.take k)).length = 32) := Lib.hid (root_length _ (fun x hx => HLen.out x (List.mem_of_mem_take hx)))
    have hij : IntKind.i64.wrap ((m : Int) - (k : Int)) = ((m - k : Nat) : Int) := by
      rw [IntWalk.i64_in _ (by omega)]; omega
    clear HDL HDR
    go_upto_region 8 with (fail)
    refine wp_region_rely [6, 10, 11, 12] (fun i => if i = 6 then SP.own w.heap.size 29 (growF f (m - k) (l.drop k) false) else if i = 10 then SP.val (hashV (root (l.take k))) else if i = 11 then SP.lit w.heap.size 1 ((root (l.take k)).map encB).toArray 29 else if i = 12 then SP.own w.heap.size 29 (growF (f + 1) m l whole) else SP.any) 14 (by kernel_rfl) (by kernel_rfl) ?_
    intro T _ g hg hgm
    repeat (refine wpR_pure (by rfl) fun Kq hq => ?_; go_big_quiet_step (fail); refine wpQuiet_nil (hq _ ?_); clear hq Kq)
    refine wpR_busy (by rfl) (by rfl) (fun d hG K Q hK => ?_) (fun v1 d hG hp Kr hr => ?_)
    · go_simp
      go_at_call 82
      refine (HI.out (m - k) (l.drop k) false (some ⟨b, o + k * 32, none⟩) (n - k) (c - k) (g d) (by have := HF.out; have := HN.out; rw [List.length_drop]; omega) (sl_drop32 (HL.out.to (hg d)) k (by have := HN.out; omega)) (by have := HN.out; rw [List.length_drop]; omega) (by omega) (by omega) (HK.out.to (hg d))).mono ?_
      rintro e W1 ⟨v1, rfl, ho1, hb1⟩
      go_simp
      exact hK _ _ hb1 (ho1.re (hg d).size)
    (try clear hp); clear hG
    simp only [Act.put, List.setIfInBounds_toArray, List.set_cons_zero, List.set_cons_succ]
    refine hr _ ?_
    clear hr Kr
    repeat (refine wpR_pure (by rfl) fun Kq hq => ?_; go_big_quiet_step (fail); refine wpQuiet_nil (hq _ ?_); clear hq Kq)
    refine wpR_busy (by rfl) (by rfl) (fun d hG K Q hK => ?_) (fun v2 d hG hp Kr hr => ?_)
    · go_simp
      go_at_call 31
      refine (root_any (l.take k) (some ⟨b, o, none⟩) k c (g d) ((HL.out.to (hg d)).take k (by have := HN.out; omega)) (by have := HN.out; rw [List.length_take]; omega) (by omega) (HK.out.to (hg d))).mono ?_
      rintro e W1 ⟨rfl, hb1⟩
      go_simp
      exact hK _ _ hb1 (rfl)
    obtain rfl : v2 = hashV (root (l.take k)) := hp
    (try clear hp); clear hG
    simp only [Act.put, List.setIfInBounds_toArray, List.set_cons_zero, List.set_cons_succ]
    refine hr _ ?_
    clear hr Kr
    refine wpR_busy (by rfl) (by rfl) (fun d hG K Q hK => ?_) (fun v3 d hG hp Kr hr => ?_)
    · refine wp_build1 (.tmp 45) rfl ((root (l.take k)).map encB).toArray rfl (hash_size HRL.out) ?_
      exact hK _ _ ((Below.refl _ _).alloc (Nat.le_refl _) _) ⟨_, rfl, (hg d).size, by simp, heap_alloc_new _ _⟩
    (try clear hp); clear hG
    simp only [Act.put, List.setIfInBounds_toArray, List.set_cons_zero, List.set_cons_succ]
    refine hr _ ?_
    clear hr Kr
    refine wpR_busy (by rfl) (by rfl) (fun d hG K Q hK => ?_) (fun v4 d hG hp Kr hr => ?_)
    · obtain ⟨A1, c1, rfl, hc⟩ := HFIN.out (growF f (m - k) (l.drop k) false) (root (l.take k)) (g d) v1 v3 w.heap.size (hg d) (hG 6 (by kernel_rfl)) (Nat.le_refl _) (hG 11 (by kernel_rfl)) HRL.out HPL.out
      go_simp
      go_at_call 97
      refine (hc).mono ?_
      rintro e W1 ⟨v1, rfl, ho1, hb1⟩
      go_simp
      exact hK _ _ hb1 (by
            show Own W1 w.heap.size 29 v1 (growF (f + 1) m l whole)
            rw [HPE.out]; exact ho1.re (hg d).size)
    obtain ⟨A4, c4, rfl, -⟩ := Own.form (l := growF (f + 1) m l whole) hp
    (try clear hp); clear hG
    simp only [Act.put, List.setIfInBounds_toArray, List.set_cons_zero, List.set_cons_succ]
    refine hr _ ?_
    clear hr Kr
    repeat (refine wpR_pure (by rfl) fun Kq hq => ?_; go_big_quiet_step (fail); refine wpQuiet_nil (hq _ ?_); clear hq Kq)
    refine wpR_end (by kernel_rfl) (fun d hG => ?_) _
    have HO : Hid (Own (g d) w.heap.size 29 (.slice A4 (growF (f + 1) m l whole).length c4) (growF (f + 1) m l whole)) := Lib.hid (hG 12)
    have HBd := Lib.hid (hg d)
    clear hG hg hgm
    unfold Exit.then
    go_wp2_with fail
    go_ret
    exact ⟨_, rfl, HO.out, HBd.out⟩
set_option maxRecDepth 100000 in
set_option maxHeartbeats 4000000 in
theorem grow1_any (f m : Nat) (l : List H32) (whole : Bool) (A : Option Addr) (c : Nat) (w : World) (hl : Sl w (fun b => b < w.heap.size) A c l) (hn : l.length = m) (hs : m ≤ 1073741824) (hK : KLaid w) :
    Calls Tryd.prog 82 #[.int .i64 (m : Int), .slice A m c, .bool whole] w fun e w' => ∃ v, e = .returned v ∧ Own w' w.heap.size 29 v (growF (f + 1) m l whole) ∧ Below w.heap.size w w' := by
  have HRT := Lib.hid (root_any l A m c w hl hn hs hK)
  have HRL : Hid ((root l).length = 32) := Lib.hid (root_length _ (h32_len hl))
  have HGT : Hid (whole = true → growF (f + 1) m l whole = []) := Lib.hid (fun h => by rw [growF, if_pos hn.symm, if_pos h])
  have HGF : Hid (whole = false → growF (f + 1) m l whole = [⟨root l⟩]) := Lib.hid (fun h => by rw [growF, if_pos hn.symm, if_neg (by rw [h]; decide)])
  clear hl hn hK
  cases whole with
  | true =>
    go_enter Tryd.func82, Tryd.ntmps82
    go_wp2_with fail
    go_ret
    exact ⟨_, rfl, by rw [HGT.out (by trivial)]; exact Own.nil _ _ _, Below.refl _ _⟩
  | false =>
    obtain ⟨r, hr⟩ : ∃ r, r = root l := ⟨_, rfl⟩
    have HR := Lib.hid hr
    have hrv : hashV (root l) = .agg (r.map encB).toArray := by rw [← hr]; rfl
    rw [← hr] at HRL
    rw [hrv] at HRT
    have HSZ := Lib.hid (hash_size HRL.out)
    clear hr hrv
    generalize hcs : (r.map encB).toArray = cs at *
    have HCS := Lib.hid hcs
    clear hcs
    go_enter Tryd.func82, Tryd.ntmps82
    go_wp2_with fail
    refine HRT.out.mono ?_
    rintro e w2 ⟨rfl, hb2⟩
    have HB2 := Lib.hid hb2
    clear hb2
    go_wp2_with (first
      | (refine wpList_build1 rfl (.tmp 14) rfl cs rfl HSZ.out ?_
         have hw3 := with_any none (some ⟨w2.heap.size, 0, none⟩) 0 0 1 1 [] [⟨r⟩] (w2.alloc (.cells cs 29)) rfl (Sl.nil _ _ _ _ (by decide)) rfl (Sl.block (heap_alloc_new w2 _) (by simp) (by simp [maxLen]) (fun i hi => by
           obtain rfl : i = 0 := by simp at hi; omega
           exact ⟨by rw [Nat.zero_mul, List.drop_zero, ← HCS.out]; exact List.take_of_length_le (by simp [HRL.out]; exact Nat.le_refl _), HRL.out⟩)) (by decide) (by decide) (by decide)
         have HW3 := Lib.hid hw3
         have HB3 : Hid (Below w.heap.size w (w2.alloc (.cells cs 29))) := Lib.hid (HB2.out.alloc HB2.out.size _)
         clear hw3
         generalize w2.alloc (.cells cs 29) = w3 at *
         generalize w2.heap.size = B3 at *)
      | fail)
    refine HW3.out.mono ?_
    rintro e w4 ⟨v4, rfl, ho4, hb4⟩
    obtain ⟨A4, c4, rfl, -⟩ := ho4.form
    have HO4 : Hid (Own w4 w.heap.size 29 (.slice A4 1 c4) [(⟨r⟩ : H32)]) := Lib.hid (ho4.re HB3.out.size)
    have HB4 := Lib.hid (HB3.out.trans (hb4.mono HB3.out.size))
    clear ho4 hb4
    go_wp2_with fail
    go_ret
    exact ⟨_, rfl, by rw [HGF.out (by trivial), ← HR.out]; exact HO4.out, HB4.out⟩
theorem growF_any (f : Nat) (hfs : f ≤ 1048577) : ∀ (m : Nat) (l : List H32) (whole : Bool) (A : Option Addr) (n c : Nat) (w : World), l.length ≤ f → Sl w (fun b => b < w.heap.size) A c l → l.length = n → 1 ≤ m → m ≤ n → KLaid w →
      Calls Tryd.prog 82 #[.int .i64 (m : Int), .slice A n c, .bool whole] w fun e w' => ∃ v, e = .returned v ∧ Own w' w.heap.size 29 v (growF f m l whole) ∧ Below w.heap.size w w' := by
  induction f with
  | zero => intro m l whole A n c w hf hl hn h1 h2; omega
  | succ f ih =>
    intro m l whole A n c w hf hl hn h1 h2 hK
    by_cases hm : m = n
    · subst hm
      exact grow1_any f m l whole A c w hl hn (by omega) hK
    · exact grow2_any f (by omega) (ih (by omega)) m l whole A n c w hf hl hn h1 (by omega) hK
end Go.Proofs.YthcklfelofpffaaDoor
namespace Go.Proofs.YthcklfelofpffaaDoor
open Go.RowKit
set_option maxRecDepth 100000 in
set_option maxHeartbeats 4000000 in
theorem growth_any (m : Int) (l : List H32) (A : Option Addr) (n c : Nat) (w : World) (hl : Sl w (fun b => b < w.heap.size) A c l) (hn : l.length = n) (hs : n ≤ 1048576) (hK : KLaid w) :
    Calls Tryd.prog 56 #[.slice A n c, .int .i64 m] w fun e w' => ∃ v, e = .returned (.tuple #[v, .int .i64 (growthE l m)]) ∧ Own w' w.heap.size 29 v (growthP l m) ∧ Below w.heap.size w w' := by
  by_cases h0 : m < 0
  · have HP : Hid (growthP l m = [] ∧ growthE l m = 5) := Lib.hid ⟨if_pos (.inl h0), if_pos (.inl h0)⟩
    clear hl hn hK
    have hmI : m ≤ (n : Int) := by omega
    have hd : decide (m < 0) = true := decide_eq_true h0
    go_enter Tryd.func56, Tryd.ntmps56
    go_wp2_with fail
    go_ret2
    exact ⟨_, by rw [HP.out.2]; rfl, by rw [HP.out.1]; exact Own.nil _ _ _, Below.refl _ _⟩
  · by_cases h1 : (n : Int) < m
    · have HP : Hid (growthP l m = [] ∧ growthE l m = 5) := Lib.hid ⟨if_pos (.inr (.inl (by rw [hn]; exact h1))), if_pos (.inr (by rw [hn]; exact h1))⟩
      clear hl hn hK
      go_enter Tryd.func56, Tryd.ntmps56
      go_wp2_with fail
      go_ret2
      exact ⟨_, by rw [HP.out.2]; rfl, by rw [HP.out.1]; exact Own.nil _ _ _, Below.refl _ _⟩
    · by_cases h2 : m = 0
      · subst h2
        have HP : Hid (growthP l 0 = [] ∧ growthE l 0 = 0) := Lib.hid ⟨if_pos (.inr (.inr rfl)), if_neg (by omega)⟩
        clear hl hn hK
        go_enter Tryd.func56, Tryd.ntmps56
        go_wp2_with fail
        go_ret2
        exact ⟨_, by rw [HP.out.2]; rfl, by rw [HP.out.1]; exact Own.nil _ _ _, Below.refl _ _⟩
      · obtain ⟨k, rfl⟩ : ∃ k : Nat, m = (k : Int) := ⟨m.toNat, by omega⟩
        have HP : Hid (growthP l k = growF l.length k l true ∧ growthE l k = 0) := Lib.hid ⟨if_neg (by omega), if_neg (by omega)⟩
        have HG := Lib.hid (growF_any l.length (by omega) k l true A n c w (Nat.le_refl _) hl hn (by omega) (by omega) hK)
        clear hl hn hK
        go_enter Tryd.func56, Tryd.ntmps56
        go_wp2_with fail
        refine HG.out.mono ?_
        rintro e w2 ⟨v2, rfl, ho2, hb2⟩
        obtain ⟨A2, c2, rfl, -⟩ := ho2.form
        have HO := Lib.hid ho2
        have HB := Lib.hid hb2
        clear ho2 hb2
        go_wp2_with fail
        go_ret2
        exact ⟨_, by rw [HP.out.2]; rfl, by rw [HP.out.1]; exact HO.out, HB.out⟩

set_option maxRecDepth 100000 in
set_option maxHeartbeats 4000000 in
theorem cgrowth_any (m : Int) (L : List H32) (A B : Option Addr) (nb ca cb : Nat) (w : World) (hl : Sl w (fun b => b < w.heap.size) A ca L) (hs : L.length ≤ 1048576) (hK : KLaid w) :
    Calls Tryd.prog 26 #[.agg #[.slice A L.length ca, .slice B nb cb], .int .i64 m] w fun e w' => ∃ v, e = .returned (.tuple #[v, .int .i64 (growthE L m)]) ∧ Own w' w.heap.size 29 v (growthP L m) ∧ Below w.heap.size w w' := by
  have hba : Below w.heap.size w (w.alloc (.cells #[.slice A L.length ca, .slice B nb cb] 36)) := (Below.refl _ _).alloc (Nat.le_refl _) _
  have HX1 : Hid (ABox (w.alloc (.cells #[.slice A L.length ca, .slice B nb cb] 36)) w.heap.size 36 [.slice A L.length ca, .slice B nb cb]) := Lib.hid (heap_alloc_new w _)
  have HB := Lib.hid hba
  have HG := Lib.hid (growth_any m L A L.length ca _ (hl.to hba) rfl hs (hK.to hba))
  have HZ : Hid (w.heap.size ≤ (w.alloc (.cells #[.slice A L.length ca, .slice B nb cb] 36)).heap.size) := Lib.hid (by simp)
  clear hba hl hK
  go_enter Tryd.func26, Tryd.ntmps26
  go_upto_region 1 with (fail)
  generalize (w.alloc (.cells #[.slice A L.length ca, .slice B nb cb] 36)) = w1 at *
  have k0 := HX1.out.cell 0 rfl
  generalize hLn : L.length = Ln at *
  go_wp2_with fail
  refine HG.out.mono ?_
  rintro e w2 ⟨v2, rfl, ho2, hb2⟩
  have HO : Hid (Own w2 w.heap.size 29 v2 (growthP L m)) := Lib.hid (ho2.re HZ.out)
  have HB2 := Lib.hid (HB.out.trans (hb2.mono HZ.out))
  obtain ⟨A2, c2, rfl, -⟩ := ho2.form
  clear ho2 hb2 k0
  go_wp2_with fail
  go_ret2
  exact ⟨_, rfl, HO.out, HB2.out⟩

set_option maxRecDepth 100000 in
set_option maxHeartbeats 4000000 in
theorem r34growth_any (m : Int) (L : List H32) (A B : Option Addr) (nb ca cb : Nat) (w : World) (hl : Sl w (fun b => b < w.heap.size) A ca L) (hs : L.length ≤ 1048576) :
    Calls Tryd.prog 27 #[.agg #[.slice A L.length ca, .slice B nb cb], .int .i64 m] w fun e w' => ∃ v, e = .returned (.tuple #[v, .int .i64 (growthE L m)]) ∧ Own w' w.heap.size 29 v (growthP L m) ∧ Below w.heap.size w w' := by
  have hba : Below w.heap.size w (w.alloc (.cells #[.slice A L.length ca, .slice B nb cb] 36)) := (Below.refl _ _).alloc (Nat.le_refl _) _
  have HX1 : Hid (ABox (w.alloc (.cells #[.slice A L.length ca, .slice B nb cb] 36)) w.heap.size 36 [.slice A L.length ca, .slice B nb cb]) := Lib.hid (heap_alloc_new w _)
  have HB := Lib.hid hba
  have HG := Lib.hid (rgrowth_any m L A L.length ca _ (hl.to hba) rfl hs)
  have HZ : Hid (w.heap.size ≤ (w.alloc (.cells #[.slice A L.length ca, .slice B nb cb] 36)).heap.size) := Lib.hid (by simp)
  clear hba hl
  go_enter Tryd.func27, Tryd.ntmps27
  go_upto_region 1 with (fail)
  generalize (w.alloc (.cells #[.slice A L.length ca, .slice B nb cb] 36)) = w1 at *
  have k0 := HX1.out.cell 0 rfl
  generalize hLn : L.length = Ln at *
  go_wp2_with fail
  refine HG.out.mono ?_
  rintro e w2 ⟨v2, rfl, ho2, hb2⟩
  have HO : Hid (Own w2 w.heap.size 29 v2 (growthP L m)) := Lib.hid (ho2.re HZ.out)
  have HB2 := Lib.hid (HB.out.trans (hb2.mono HZ.out))
  obtain ⟨A2, c2, rfl, -⟩ := ho2.form
  clear ho2 hb2 k0
  go_wp2_with fail
  go_ret2
  exact ⟨_, rfl, HO.out, HB2.out⟩
end Go.Proofs.YthcklfelofpffaaDoor
namespace Go.Proofs.YthcklfelofpffaaDoor
open Go.RowKit
/-- A list in a value. -/
def SP.sl {α : Type} [Rep α] (f : Value → Value) (l : List α) : SP := ⟨fun v w => ∃ A c, v = f (.slice A l.length c) ∧ Sl w (fun b => b < w.heap.size) A c l, fun _ _ _ h hb => by
  obtain ⟨A, c, h1, h2⟩ := h
  exact ⟨A, c, h1, h2.to hb⟩⟩
theorem growthP_nil {l : List H32} {m : Int} (h : growthE l m ≠ 0) : growthP l m = [] := by
  unfold growthE at h
  unfold growthP
  split at h
  · rename_i hh; rw [if_pos (by omega)]
  · exact absurd rfl h
theorem growthP_length (l : List H32) (m : Int) : (growthP l m).length ≤ l.length := by
  unfold growthP; split
  · simp
  · exact growF_length _ _ _ _
set_option maxRecDepth 100000 in
set_option maxHeartbeats 8000000 in
theorem proofsLaw_any (A : Option Addr) (c : Nat) (ll : List (List Int)) (x : ByteArray) (size : Int) (w : World) (hll : Sl w (fun b => b < w.heap.size) A c ll) (hsz : I64 size) (hK : KLaid w) :
    Calls Tryd.prog 6 #[.slice A ll.length c, .string x, .int .i64 size] w fun e w' => e = .returned (.bool true) ∧ Below w.heap.size w w' := by
  have HLG := Lib.hid (ledger_any 0 A c ll w (by unfold I64; omega) hll hK)
  have HSZ := Lib.hid hsz
  have HK := Lib.hid hK
  clear hll hsz hK
  go_enter Tryd.func6, Tryd.ntmps6
  go_wp2_with fail
  refine HLG.out.mono ?_
  rintro e w3 ⟨v3, v4, rfl, L, N, A1, A2, c1, c2, rfl, rfl, hs3, hs4, hln0, hlm0, hb3⟩
  have hb5 : Below w3.heap.size w3 (w3.alloc (.cells #[.slice A1 L.length c1, .slice A2 N.length c2] 36)) := (Below.refl _ _).alloc (Nat.le_refl _) _
  have HLD0 : Hid (LB (w3.alloc (.cells #[.slice A1 L.length c1, .slice A2 N.length c2] 36)) w3.heap.size L N A1 c1 A2 c2) := Lib.hid ⟨heap_alloc_new w3 _, hs3.to hb5, hs4.to hb5⟩
  have HB5 := Lib.hid (hb3.trans (hb5.mono hb3.size))
  have HLN := Lib.hid hln0
  have HLM := Lib.hid hlm0
  clear hb5 hs3 hs4 hln0 hlm0 hb3 HLG
  go_upto_region 2 with (fail)
  generalize hw : World.alloc w3 _ = w5
  have hv : w3.alloc (.cells #[.slice A1 L.length c1, .slice A2 N.length c2] 36) = w5 := hw
  rw [hv] at HLD0 HB5
  clear hw hv
  generalize w3.heap.size = Ob at *
  obtain ⟨labs, hlabs⟩ : ∃ labs : List ByteArray, labs = [x, ⟨#[49]⟩, ⟨#[50, 97]⟩, ⟨#[52, 98]⟩, ⟨#[57]⟩] := ⟨_, rfl⟩
  have HBL : Hid (Below w5.heap.size w5 (w5.alloc (.cells (labs.map Value.string).toArray 9))) := Lib.hid ((Below.refl _ _).alloc (Nat.le_refl _) _)
  have HLA : Hid ((w5.alloc (.cells (labs.map Value.string).toArray 9)).heap[w5.heap.size]? = some (.cells (labs.map Value.string).toArray 9 (0, 0))) := Lib.hid (heap_alloc_new w5 _)
  have HL5 : Hid (labs.length = 5) := Lib.hid (by rw [hlabs]; rfl)
  have hle : (labs.map Value.string).toArray = #[.string x, .string ⟨#[49]⟩, .string ⟨#[50, 97]⟩, .string ⟨#[52, 98]⟩, .string ⟨#[57]⟩] := by rw [hlabs]; rfl
  have HLE := Lib.hid hle
  rw [hle] at HBL HLA
  clear hlabs hle
  go_upto_region 3 with (fail)
  generalize hw : World.alloc w5 _ = w6
  have hv : w5.alloc (.cells #[.string x, .string ⟨#[49]⟩, .string ⟨#[50, 97]⟩, .string ⟨#[52, 98]⟩, .string ⟨#[57]⟩] 9) = w6 := hw
  rw [hv] at HBL HLA
  clear hw hv
  have HLD6 := Lib.hid (HLD0.out.to HBL.out)
  have HB6 := Lib.hid (HB5.out.trans (HBL.out.mono HB5.out.size))
  have HLt : Hid (w5.heap.size < w6.heap.size) := Lib.hid (Array.getElem?_eq_some_iff.1 HLA.out).1
  have HLC : Hid (∀ k, (h : k < labs.length) → w6.cell? ⟨w5.heap.size, k, none⟩ = some (.string labs[k])) := Lib.hid (fun k h => by
    rw [cell_of_row _ _ _ _ _ _ HLA.out, ← HLE.out]
    simp [h])
  generalize w5.heap.size = Lb at *
  clear HLD0 HB5 HBL HLA HLE
  go_wp2_with fail
  go_loopw [9] (fun i wr => ∃ k : Nat, k ≤ 5 ∧ i = .int .i64 k ∧ Hid (Below w6.heap.size w6 wr)) (fun i _ => 5 - (intOf i).toNat)
  case atStart => exact ⟨0, Nat.zero_le _, rfl, Lib.hid (Below.refl _ _)⟩
  case round =>
    obtain ⟨k, hk, rfl, HBw⟩ := hrel
    by_cases hlt : k < 5
    · have hkl : (k : Int) < 5 := by omega
      have hk0 : (0 : Int) ≤ (k : Int) := by omega
      have HLD1 := Lib.hid (HLD6.out.to HBw.out)
      have hk5 : k < labs.length := by rw [HL5.out]; exact hlt
      obtain ⟨y, hy⟩ : ∃ y, y = labs[k] := ⟨_, rfl⟩
      have HY1 : Hid (Lb < wr.heap.size ∧ wr.cell? ⟨Lb, k, none⟩ = some (.string y)) := Lib.hid ⟨by have := HLt.out; have := HBw.out.size; omega, by rw [hy]; exact (HBw.out.cell (p := ⟨Lb, k, none⟩) HLt.out).trans (HLC.out k hk5)⟩
      have HK1 : Hid (KLaid wr) := Lib.hid (HK.out.to (HB6.out.trans (HBw.out.mono HB6.out.size)))
      obtain ⟨pi, pb, pp, HPI⟩ : ∃ pi pb pp, Hid (proofI N y = pi ∧ proofP L N y = pp ∧ proofB N y = pb) := ⟨_, _, _, Lib.hid ⟨rfl, rfl, rfl⟩⟩
      clear hy hk5
      go_upto_region 6 with (fail)
      refine wp_region_rely [5] (fun i => if i = 5 then (SP.sl (fun s => .tuple #[.int .i64 pi, s, .bool pb]) pp) else SP.any) 13 (by kernel_rfl) (by kernel_rfl) ?_
      intro T _ g hg hgm
      have q0 : ∀ d, (g d).cell? ⟨Ob, 0, none⟩ = some (.slice A1 L.length c1) := fun d => (HLD1.out.box.to (hg d)).cell 0 rfl
      have q1 : ∀ d, (g d).cell? ⟨Ob, 1, none⟩ = some (.slice A2 N.length c2) := fun d => (HLD1.out.box.to (hg d)).cell 1 rfl
      have q2 : ∀ d, (g d).cell? ⟨Lb, k, none⟩ = some (.string y) := fun d => ((hg d).cell (p := ⟨Lb, k, none⟩) HY1.out.1).trans HY1.out.2
      repeat (refine wpR_pure (by rfl) fun Kq hq => ?_; go_big_quiet_step (fail); refine wpQuiet_nil (hq _ ?_); clear hq Kq)
      refine wpR_busy (by rfl) (by rfl) (fun d hG K Q hK => ?_) (fun v1 d hG hp Kr hr => ?_)
      · go_simp
        go_at_call 21
        refine (proof_any A1 A2 c1 c2 L N y (g d) (HLD1.out.l.to (hg d)) (HLD1.out.n.to (hg d)) HLN.out (by have := HLM.out; omega) (HK1.out.to (hg d))).mono ?_
        rintro e W1 ⟨A', c', rfl, hs1, hb1⟩
        go_simp
        exact hK _ _ hb1 (by
              rw [HPI.out.1, HPI.out.2.1, HPI.out.2.2] at *; exact ⟨_, _, rfl, hs1⟩)
      obtain ⟨B1, d1, rfl, -⟩ := (show ∃ A c, v1 = (fun s : Value => Value.tuple #[.int .i64 pi, s, .bool pb]) (.slice A pp.length c) ∧ _ from hp)
      dsimp only at hr ⊢
      (try clear hp); clear hG
      simp only [Act.put, List.setIfInBounds_toArray, List.set_cons_zero, List.set_cons_succ]
      refine hr _ ?_
      clear hr Kr
      repeat (refine wpR_pure (by rfl) fun Kq hq => ?_; go_big_quiet_step (fail); refine wpQuiet_nil (hq _ ?_); clear hq Kq)
      refine wpR_end (by kernel_rfl) (fun d hG => ?_) _
      have HS1 : Hid (Sl (g d) (fun b => b < (g d).heap.size) B1 d1 pp) := Lib.hid (by obtain ⟨A, c, he, hs⟩ := (show ∃ A c, _ ∧ Sl (g d) (fun b => b < (g d).heap.size) A c pp from hG 5); cases he; exact hs)
      have HLD2 := Lib.hid (HLD1.out.to (hg d))
      have HY2 : Hid (Lb < (g d).heap.size ∧ (g d).cell? ⟨Lb, k, none⟩ = some (.string y)) := Lib.hid ⟨by have := HY1.out.1; have := (hg d).size; omega, ((hg d).cell (p := ⟨Lb, k, none⟩) HY1.out.1).trans HY1.out.2⟩
      have HK2 := Lib.hid (HK1.out.to (hg d))
      have HBa : Hid (Below w6.heap.size w6 (g d)) := Lib.hid (HBw.out.trans ((hg d).mono HBw.out.size))
      clear hG hg hgm q0 q1 q2 HLD1 HY1 HK1 HBw
      generalize g d = wa at *
      clear g
      unfold Exit.then
      go_upto_region 7 with (fail)
      refine wp_region_rely [5] (fun i => if i = 5 then (SP.sl (fun s => .tuple #[.int .i64 pi, s, .bool pb]) pp) else SP.any) 13 (by kernel_rfl) (by kernel_rfl) ?_
      intro T _ g hg hgm
      have q0 : ∀ d, (g d).cell? ⟨Ob, 0, none⟩ = some (.slice A1 L.length c1) := fun d => (HLD2.out.box.to (hg d)).cell 0 rfl
      have q1 : ∀ d, (g d).cell? ⟨Ob, 1, none⟩ = some (.slice A2 N.length c2) := fun d => (HLD2.out.box.to (hg d)).cell 1 rfl
      have q2 : ∀ d, (g d).cell? ⟨Lb, k, none⟩ = some (.string y) := fun d => ((hg d).cell (p := ⟨Lb, k, none⟩) HY2.out.1).trans HY2.out.2
      repeat (refine wpR_pure (by rfl) fun Kq hq => ?_; go_big_quiet_step (fail); refine wpQuiet_nil (hq _ ?_); clear hq Kq)
      refine wpR_busy (by rfl) (by rfl) (fun d hG K Q hK => ?_) (fun v1 d hG hp Kr hr => ?_)
      · go_simp
        go_at_call 23
        refine (rproof_any A1 A2 c1 c2 L N y (g d) (HLD2.out.l.to (hg d)) (HLD2.out.n.to (hg d)) HLN.out (by have := HLM.out; omega)).mono ?_
        rintro e W1 ⟨A', c', rfl, hs1, hb1⟩
        go_simp
        exact hK _ _ hb1 (by
              rw [HPI.out.1, HPI.out.2.1, HPI.out.2.2] at *; exact ⟨_, _, rfl, hs1⟩)
      obtain ⟨B2, d2, rfl, -⟩ := (show ∃ A c, v1 = (fun s : Value => Value.tuple #[.int .i64 pi, s, .bool pb]) (.slice A pp.length c) ∧ _ from hp)
      dsimp only at hr ⊢
      (try clear hp); clear hG
      simp only [Act.put, List.setIfInBounds_toArray, List.set_cons_zero, List.set_cons_succ]
      refine hr _ ?_
      clear hr Kr
      repeat (refine wpR_pure (by rfl) fun Kq hq => ?_; go_big_quiet_step (fail); refine wpQuiet_nil (hq _ ?_); clear hq Kq)
      refine wpR_end (by kernel_rfl) (fun d hG => ?_) _
      have HSH : Hid (∀ W, Below (g d).heap.size (g d) W → Calls Tryd.prog 24 #[.slice B1 pp.length d1, .slice B2 pp.length d2] W fun e w' => e = .returned (.bool true) ∧ Below W.heap.size W w') := Lib.hid (by
        obtain ⟨A, c, he, hs⟩ := (show ∃ A c, _ ∧ Sl (g d) (fun b => b < (g d).heap.size) A c pp from hG 5)
        cases he
        intro W hW
        have := same_hashes B1 B2 d1 d2 pp.length pp.length pp pp W ((HS1.out.to (hg d)).to hW) (hs.to hW) rfl rfl
        rwa [decide_eq_true rfl] at this)
      have HBb : Hid (Below w6.heap.size w6 (g d)) := Lib.hid (HBa.out.trans ((hg d).mono HBa.out.size))
      clear hG hg hgm q0 q1 q2 HLD2 HY2 HK2 HBa HS1 HPI
      generalize g d = wb at *
      clear g
      unfold Exit.then
      go_wp2_with fail
      refine (HSH.out _ (Below.refl _ _)).mono ?_
      rintro e w8 ⟨rfl, hb8⟩
      have HB8 := Lib.hid (HBb.out.trans (hb8.mono HBb.out.size))
      clear hb8 HSH HBb
      go_wp2_with fail
      go_roundw
      case rel => exact ⟨k + 1, by omega, by go_num, HB8⟩
      case measure => (simp [intOf]; omega)
    · have hkl : ¬ (k : Int) < 5 := by omega
      have HLD7 := Lib.hid (HLD6.out.to HBw.out)
      have HB7 := Lib.hid (HB6.out.trans (HBw.out.mono HB6.out.size))
      have hL60 : (L.length : Int) ≤ 60 := by have := HLM.out; omega
      have hL0 : (0 : Int) ≤ (L.length : Int) := by omega
      have k0 := HLD7.out.box.cell 0 rfl
      obtain ⟨sz2, hsz2⟩ : ∃ z, z = aro size ((L.length : Int) + 1) := ⟨_, rfl⟩
      have HS2 : Hid (I64 sz2) := Lib.hid (by have := aro_lt size ((L.length : Int) + 1) (by omega); unfold I64; omega)
      have HAR : Hid (∀ W, Calls Tryd.prog 25 #[.int .i64 size, .int .i64 ((L.length : Int) + 1)] W fun e w' => e = .returned (.int .i64 sz2) ∧ W = w') := Lib.hid (fun W => by rw [hsz2]; exact around_any size _ W HSZ.out (by omega) (by omega))
      clear hsz2 HLD6 HB6 HBw HLC HLt HL5
      go_wp2_with fail
      refine (HAR.out _).mono ?_
      rintro e w8 ⟨rfl, rfl⟩
      obtain ⟨szs, hszs⟩ : ∃ szs : List Int, szs = [size, sz2] := ⟨_, rfl⟩
      have HBL : Hid (Below wr.heap.size wr (wr.alloc (.cells (szs.map (Value.int .i64)).toArray 3))) := Lib.hid ((Below.refl _ _).alloc (Nat.le_refl _) _)
      have HLA : Hid ((wr.alloc (.cells (szs.map (Value.int .i64)).toArray 3)).heap[wr.heap.size]? = some (.cells (szs.map (Value.int .i64)).toArray 3 (0, 0))) := Lib.hid (heap_alloc_new wr _)
      have HL2 : Hid (szs.length = 2) := Lib.hid (by rw [hszs]; rfl)
      have HI2 : Hid (∀ y ∈ szs, I64 y) := Lib.hid (by intro y hy; rw [hszs] at hy; simp at hy; rcases hy with rfl | rfl; exact HSZ.out; exact HS2.out)
      have hle : (szs.map (Value.int .i64)).toArray = #[.int .i64 size, .int .i64 sz2] := by rw [hszs]; rfl
      have HLE := Lib.hid hle
      rw [hle] at HBL HLA
      clear hszs hle k0 HAR
      go_upto_region 11 with (fail)
      generalize hw : World.alloc wr _ = w9
      have hv : wr.alloc (.cells #[.int .i64 size, .int .i64 sz2] 3) = w9 := hw
      rw [hv] at HBL HLA
      clear hw hv
      have HLD9 := Lib.hid (HLD7.out.to HBL.out)
      have HB9 := Lib.hid (HB7.out.trans (HBL.out.mono HB7.out.size))
      have HLt : Hid (wr.heap.size < w9.heap.size) := Lib.hid (Array.getElem?_eq_some_iff.1 HLA.out).1
      have HLC : Hid (∀ k, (h : k < szs.length) → w9.cell? ⟨wr.heap.size, k, none⟩ = some (.int .i64 szs[k])) := Lib.hid (fun k h => by
        rw [cell_of_row _ _ _ _ _ _ HLA.out, ← HLE.out]
        simp [h])
      generalize wr.heap.size = Lb at *
      clear HLD7 HB7 HBL HLA HLE
      go_wp2_with fail
      go_loopw [17] (fun i wr => ∃ k : Nat, k ≤ 2 ∧ i = .int .i64 k ∧ Hid (Below w9.heap.size w9 wr)) (fun i _ => 2 - (intOf i).toNat)
      case atStart => exact ⟨0, Nat.zero_le _, rfl, Lib.hid (Below.refl _ _)⟩
      case round =>
        obtain ⟨k2, hk2, rfl, HBw⟩ := hrel
        by_cases hlt2 : k2 < 2
        · have hkl2 : (k2 : Int) < 2 := by omega
          have hk02 : (0 : Int) ≤ (k2 : Int) := by omega
          have HLD1 := Lib.hid (HLD9.out.to HBw.out)
          have hk5 : k2 < szs.length := by rw [HL2.out]; exact hlt2
          obtain ⟨y, hy⟩ : ∃ y, y = szs[k2] := ⟨_, rfl⟩
          have HY1 : Hid (Lb < wr.heap.size ∧ wr.cell? ⟨Lb, k2, none⟩ = some (.int .i64 y)) := Lib.hid ⟨by have := HLt.out; have := HBw.out.size; omega, by rw [hy]; exact (HBw.out.cell (p := ⟨Lb, k2, none⟩) HLt.out).trans (HLC.out k2 hk5)⟩
          have HK1 : Hid (KLaid wr) := Lib.hid (HK.out.to (HB9.out.trans (HBw.out.mono HB9.out.size)))
          obtain ⟨pe, pp, HPI⟩ : ∃ pe pp, Hid (growthE L y = pe ∧ growthP L y = pp) := ⟨_, _, Lib.hid ⟨rfl, rfl⟩⟩
          clear hy hk5
          go_upto_region 14 with (fail)
          refine wp_region_rely [5] (fun i => if i = 5 then (SP.sl (fun s => .tuple #[s, .int .i64 pe]) pp) else SP.any) 11 (by kernel_rfl) (by kernel_rfl) ?_
          intro T _ g hg hgm
          have q0 : ∀ d, (g d).cell? ⟨Ob, 0, none⟩ = some (.slice A1 L.length c1) := fun d => (HLD1.out.box.to (hg d)).cell 0 rfl
          have q1 : ∀ d, (g d).cell? ⟨Ob, 1, none⟩ = some (.slice A2 N.length c2) := fun d => (HLD1.out.box.to (hg d)).cell 1 rfl
          have q2 : ∀ d, (g d).cell? ⟨Lb, k2, none⟩ = some (.int .i64 y) := fun d => ((hg d).cell (p := ⟨Lb, k2, none⟩) HY1.out.1).trans HY1.out.2
          repeat (refine wpR_pure (by rfl) fun Kq hq => ?_; go_big_quiet_step (fail); refine wpQuiet_nil (hq _ ?_); clear hq Kq)
          refine wpR_busy (by rfl) (by rfl) (fun d hG K Q hK => ?_) (fun v1 d hG hp Kr hr => ?_)
          · go_simp
            go_at_call 26
            refine (cgrowth_any y L A1 A2 N.length c1 c2 (g d) (HLD1.out.l.to (hg d)) (by have := HLM.out; omega) (HK1.out.to (hg d))).mono ?_
            rintro e W1 ⟨v, rfl, ho1, hb1⟩
            go_simp
            exact hK _ _ hb1 (by
                  obtain ⟨A, c, rfl, hs⟩ := ho1.sl
                  rw [HPI.out.1, HPI.out.2] at *; exact ⟨_, _, rfl, hs⟩)
          obtain ⟨B1, d1, rfl, -⟩ := (show ∃ A c, v1 = (fun s : Value => Value.tuple #[s, .int .i64 pe]) (.slice A pp.length c) ∧ _ from hp)
          dsimp only at hr ⊢
          (try clear hp); clear hG
          simp only [Act.put, List.setIfInBounds_toArray, List.set_cons_zero, List.set_cons_succ]
          refine hr _ ?_
          clear hr Kr
          repeat (refine wpR_pure (by rfl) fun Kq hq => ?_; go_big_quiet_step (fail); refine wpQuiet_nil (hq _ ?_); clear hq Kq)
          refine wpR_end (by kernel_rfl) (fun d hG => ?_) _
          have HS1 : Hid (Sl (g d) (fun b => b < (g d).heap.size) B1 d1 pp) := Lib.hid (by obtain ⟨A, c, he, hs⟩ := (show ∃ A c, _ ∧ Sl (g d) (fun b => b < (g d).heap.size) A c pp from hG 5); cases he; exact hs)
          have HLD2 := Lib.hid (HLD1.out.to (hg d))
          have HY2 : Hid (Lb < (g d).heap.size ∧ (g d).cell? ⟨Lb, k2, none⟩ = some (.int .i64 y)) := Lib.hid ⟨by have := HY1.out.1; have := (hg d).size; omega, ((hg d).cell (p := ⟨Lb, k2, none⟩) HY1.out.1).trans HY1.out.2⟩
          have HBa : Hid (Below w9.heap.size w9 (g d)) := Lib.hid (HBw.out.trans ((hg d).mono HBw.out.size))
          clear hG hg hgm q0 q1 q2 HLD1 HY1 HK1 HBw
          generalize g d = wa at *
          clear g
          unfold Exit.then
          go_upto_region 15 with (fail)
          refine wp_region_rely [5] (fun i => if i = 5 then (SP.sl (fun s => .tuple #[s, .int .i64 pe]) pp) else SP.any) 11 (by kernel_rfl) (by kernel_rfl) ?_
          intro T _ g hg hgm
          have q0 : ∀ d, (g d).cell? ⟨Ob, 0, none⟩ = some (.slice A1 L.length c1) := fun d => (HLD2.out.box.to (hg d)).cell 0 rfl
          have q1 : ∀ d, (g d).cell? ⟨Ob, 1, none⟩ = some (.slice A2 N.length c2) := fun d => (HLD2.out.box.to (hg d)).cell 1 rfl
          have q2 : ∀ d, (g d).cell? ⟨Lb, k2, none⟩ = some (.int .i64 y) := fun d => ((hg d).cell (p := ⟨Lb, k2, none⟩) HY2.out.1).trans HY2.out.2
          repeat (refine wpR_pure (by rfl) fun Kq hq => ?_; go_big_quiet_step (fail); refine wpQuiet_nil (hq _ ?_); clear hq Kq)
          refine wpR_busy (by rfl) (by rfl) (fun d hG K Q hK => ?_) (fun v1 d hG hp Kr hr => ?_)
          · go_simp
            go_at_call 27
            refine (r34growth_any y L A1 A2 N.length c1 c2 (g d) (HLD2.out.l.to (hg d)) (by have := HLM.out; omega)).mono ?_
            rintro e W1 ⟨v, rfl, ho1, hb1⟩
            go_simp
            exact hK _ _ hb1 (by
                  obtain ⟨A, c, rfl, hs⟩ := ho1.sl
                  rw [HPI.out.1, HPI.out.2] at *; exact ⟨_, _, rfl, hs⟩)
          obtain ⟨B2, d2, rfl, -⟩ := (show ∃ A c, v1 = (fun s : Value => Value.tuple #[s, .int .i64 pe]) (.slice A pp.length c) ∧ _ from hp)
          dsimp only at hr ⊢
          (try clear hp); clear hG
          simp only [Act.put, List.setIfInBounds_toArray, List.set_cons_zero, List.set_cons_succ]
          refine hr _ ?_
          clear hr Kr
          repeat (refine wpR_pure (by rfl) fun Kq hq => ?_; go_big_quiet_step (fail); refine wpQuiet_nil (hq _ ?_); clear hq Kq)
          refine wpR_end (by kernel_rfl) (fun d hG => ?_) _
          have HSH : Hid (∀ W, Below (g d).heap.size (g d) W → Calls Tryd.prog 24 #[.slice B1 pp.length d1, .slice B2 pp.length d2] W fun e w' => e = .returned (.bool true) ∧ Below W.heap.size W w') := Lib.hid (by
            obtain ⟨A, c, he, hs⟩ := (show ∃ A c, _ ∧ Sl (g d) (fun b => b < (g d).heap.size) A c pp from hG 5)
            cases he
            intro W hW
            have := same_hashes B1 B2 d1 d2 pp.length pp.length pp pp W ((HS1.out.to (hg d)).to hW) (hs.to hW) rfl rfl
            rwa [decide_eq_true rfl] at this)
          have HBb : Hid (Below w9.heap.size w9 (g d)) := Lib.hid (HBa.out.trans ((hg d).mono HBa.out.size))
          clear hG hg hgm q0 q1 q2 HLD2 HY2 HBa HS1 HPI
          generalize g d = wb at *
          clear g
          unfold Exit.then
          go_wp2_with fail
          refine (HSH.out _ (Below.refl _ _)).mono ?_
          rintro e w8 ⟨rfl, hb8⟩
          have HB8 := Lib.hid (HBb.out.trans (hb8.mono HBb.out.size))
          clear hb8 HSH HBb
          go_wp2_with fail
          go_roundw
          case rel => exact ⟨k2 + 1, by omega, by go_num, HB8⟩
          case measure => (simp [intOf]; omega)
        · have hkl2 : ¬ (k2 : Int) < 2 := by omega
          have HBz := Lib.hid (HB9.out.trans (HBw.out.mono HB9.out.size))
          have HLV := Lib.hid (lives_any wr (HK.out.to HBz.out))
          go_wp2_with fail
          refine HLV.out.mono ?_
          rintro e w8 ⟨rfl, hb8⟩
          have HB8 := Lib.hid (HBz.out.trans (hb8.mono HBz.out.size))
          clear hb8 HLV HBz
          go_wp2_with fail
          go_ret
          exact ⟨rfl, HB8.out⟩
end Go.Proofs.YthcklfelofpffaaDoor
namespace Go.Proofs.YthcklfelofpffaaDoor
open Go.RowKit
theorem results_two {P : Program} {fn : Func} {p q : Tmp} {ty : TypeId} (h : fn.results = #[.cell p ty, .cell q ty]) (tmps : Array Value) (w : World) (g g' : Nat) (t t' : TypeId) (cs cs' : Array Value) (fr fr' : Nat × Nat) (d : TypeDesc)
    (hp : tmps.getD p undef = .pointer (some ⟨g, 0, none⟩)) (hg : w.heap[g]? = some (.cells cs t fr)) (hq : tmps.getD q undef = .pointer (some ⟨g', 0, none⟩)) (hg' : w.heap[g']? = some (.cells cs' t' fr'))
    (hu : P.underlying ty = some d) (hd : (match d with | .struct _ | .array _ _ => true | _ => false) = true) (hi : (P.info? ty).map (·.size) = some cs.size) (hi' : cs'.size = cs.size) :
    (results fn tmps).run P w = .ok (.tuple #[.agg cs, .agg cs']) w := by
  have hp' : tmps[p]?.getD undef = .pointer (some ⟨g, 0, none⟩) := by simpa using hp
  have hq' : tmps[q]?.getD undef = .pointer (some ⟨g', 0, none⟩) := by simpa using hq
  simp [results, h, hp', hq', asAddr, run_loadVar_row w g t ty cs fr d hg hu hd hi, run_loadVar_row w g' t' ty cs' fr' d hg' hu hd (by rw [hi, hi'])]
/-- What a growth makes of an old root. -/
def extP : Nat → List H32 → List UInt8 → Nat → Nat → Bool → Nat × Bool → (List UInt8 × List UInt8) × (Nat × Bool)
  | 0, _, old, _, _, _, s => ((old, old), s)
  | f + 1, p, old, m, n, whole, s => if m = n ∧ whole = true then ((old, old), s) else
    if m = n then (((takeP p s).1, (takeP p s).1), (takeP p s).2)
    else if m ≤ splitN n then (((extP f p old m (splitN n) whole (takeP p s).2).1.1, nodeH (extP f p old m (splitN n) whole (takeP p s).2).1.2 (takeP p s).1), (extP f p old m (splitN n) whole (takeP p s).2).2)
    else ((nodeH (takeP p s).1 (extP f p old (m - splitN n) (n - splitN n) false (takeP p s).2).1.1, nodeH (takeP p s).1 (extP f p old (m - splitN n) (n - splitN n) false (takeP p s).2).1.2), (extP f p old (m - splitN n) (n - splitN n) false (takeP p s).2).2)
theorem extP_32 {p : List H32} (h : ∀ x ∈ p, x.l.length = 32) {old : List UInt8} (hl : old.length = 32) : ∀ (f m n : Nat) (whole : Bool) (s : Nat × Bool), s.1 ≤ p.length → (extP f p old m n whole s).1.1.length = 32 ∧ (extP f p old m n whole s).1.2.length = 32 ∧ (extP f p old m n whole s).2.1 ≤ p.length
  | 0, _, _, _, _, hs => ⟨hl, hl, hs⟩
  | f + 1, m, n, whole, s, hs => by
    have ht := takeP_32 h s hs
    rw [extP]
    split
    · exact ⟨hl, hl, hs⟩
    · split
      · exact ⟨ht.1, ht.1, ht.2⟩
      · split
        · have := extP_32 h hl f m (splitN n) whole _ ht.2
          exact ⟨this.1, sha_length _, this.2.2⟩
        · have := extP_32 h hl f (m - splitN n) (n - splitN n) false _ ht.2
          exact ⟨sha_length _, sha_length _, this.2.2⟩
def extV (Ob Tb Cb : Nat) : Value := .func (.func 85) #[] #[.pointer (some ⟨Ob, 0, none⟩), .pointer (some ⟨Tb, 0, none⟩), .pointer (some ⟨Cb, 0, none⟩)]
structure EK (w0 w : World) (Lb Mb Pb Lf Tb Cb : Nat) (v : Value) (old : List UInt8) (s : Nat × Bool) : Prop where
  t : TK w0 w Lb Mb Pb v s
  lf : ABox w Lf 29 (old.map encB)
  tb : ABox w Tb 115 [takeV Lb Mb Pb]
  cb : ABox w Cb 123 [extV Lf Tb Cb]
  nf : ¬ TF Lb Mb Lf
  nt : ¬ TF Lb Mb Tb
  nc : ¬ TF Lb Mb Cb
section
variable {w0 w w' : World} {Lb Mb Pb Lf Tb Cb : Nat} {v : Value} {old : List UInt8} {s s' : Nat × Bool}
theorem EK.out (h : EK w0 w Lb Mb Pb Lf Tb Cb v old s) (ht : TK w0 w' Lb Mb Pb v s') (ho : Out (TF Lb Mb) w w') : EK w0 w' Lb Mb Pb Lf Tb Cb v old s' :=
  ⟨ht, ho.box h.lf h.nf, ho.box h.tb h.nt, ho.box h.cb h.nc, h.nf, h.nt, h.nc⟩
theorem EK.to (h : EK w0 w Lb Mb Pb Lf Tb Cb v old s) (hb : Below w.heap.size w w') : EK w0 w' Lb Mb Pb Lf Tb Cb v old s := h.out (h.t.to hb) (Out.of_below hb)
theorem EK.setRow (h : EK w0 w Lb Mb Pb Lf Tb Cb v old s) {R : Nat} (h1 : ¬ TF Lb Mb R) (h2 : R ≠ Pb ∧ R ≠ Lf ∧ R ≠ Tb ∧ R ≠ Cb) (h4 : w0.heap.size ≤ R) (cs : Array Value) : EK w0 (w.setRow R cs) Lb Mb Pb Lf Tb Cb v old s :=
  ⟨h.t.setRow (fun e => h1 (.inl e.symm)) (fun e => h1 (.inr e.symm)) (Ne.symm h2.1) h4 cs, abox_setRow h.lf (Ne.symm h2.2.1), abox_setRow h.tb (Ne.symm h2.2.2.1), abox_setRow h.cb (Ne.symm h2.2.2.2), h.nf, h.nt, h.nc⟩
/-- A block that none of the boxes is. -/
def EK.Far (w0 : World) (Lb Mb Pb Lf Tb Cb R : Nat) : Prop := ¬ TF Lb Mb R ∧ (R ≠ Pb ∧ R ≠ Lf ∧ R ≠ Tb ∧ R ≠ Cb) ∧ w0.heap.size ≤ R
theorem EK.far (h : EK w0 w Lb Mb Pb Lf Tb Cb v old s) {R : Nat} (hR : w.heap.size ≤ R) : EK.Far w0 Lb Mb Pb Lf Tb Cb R := by
  have := h.t.l.lt; have := h.t.m.lt; have := h.t.p.lt; have := h.lf.lt; have := h.tb.lt; have := h.cb.lt; have := h.t.bs
  refine ⟨by rintro (h | h) <;> omega, ⟨by omega, by omega, by omega, by omega⟩, by omega⟩
end
set_option maxRecDepth 100000 in
set_option maxHeartbeats 4000000 in
theorem ext1_any (w0 w : World) (Lb Mb Pb Lf Tb Cb m : Nat) (v : Value) (old : List UInt8) (s : Nat × Bool) (hl : old.length = 32) (h : EK w0 w Lb Mb Pb Lf Tb Cb v old s) :
    Calls Tryd.prog 85 #[.int .i64 (m : Int), .int .i64 (m : Int), .bool true, .pointer (some ⟨Lf, 0, none⟩), .pointer (some ⟨Tb, 0, none⟩), .pointer (some ⟨Cb, 0, none⟩)] w fun e w' => e = .returned (.tuple #[hashV old, hashV old]) ∧ TK w0 w' Lb Mb Pb v s ∧ Out (TF Lb Mb) w w' := by
  have HSZ := Lib.hid (hash_size hl)
  have hba : Below w.heap.size w ((w.alloc (.cells (zer32.map encB).toArray 29)).alloc (.cells (zer32.map encB).toArray 29)) := ((Below.refl _ _).alloc (Nat.le_refl _) _).alloc (by simp) _
  have HE := Lib.hid (h.to hba)
  have HO : Hid (Out (TF Lb Mb) w ((w.alloc (.cells (zer32.map encB).toArray 29)).alloc (.cells (zer32.map encB).toArray 29))) := Lib.hid (Out.of_below hba)
  have H9 : Hid (ABox ((w.alloc (.cells (zer32.map encB).toArray 29)).alloc (.cells (zer32.map encB).toArray 29)) w.heap.size 29 (zer32.map encB)) := Lib.hid (by unfold ABox; rw [Below.heap_alloc _ _ _ (by simp)]; exact heap_alloc_new w _)
  have H10 : Hid (ABox ((w.alloc (.cells (zer32.map encB).toArray 29)).alloc (.cells (zer32.map encB).toArray 29)) (w.heap.size + 1) 29 (zer32.map encB)) := Lib.hid (heap_at (by simp))
  have HF9 := Lib.hid (h.far (Nat.le_refl _))
  have HF10 := Lib.hid (h.far (R := w.heap.size + 1) (by omega))
  have HRW : Hid (w.heap.size ≤ w.heap.size ∧ w.heap.size ≤ w.heap.size + 1 ∧ w.heap.size ≠ w.heap.size + 1) := Lib.hid ⟨Nat.le_refl _, by omega, by omega⟩
  have HZ : Hid ((zer32.map encB).toArray.size = 32) := Lib.hid rfl
  clear h hba
  go_enter Tryd.func85, Tryd.ntmps85
  go_upto_region 2 with (fail)
  generalize hw1 : World.alloc (World.alloc w _) _ = w2
  have hw2 : ((w.alloc (.cells (zer32.map encB).toArray 29)).alloc (.cells (zer32.map encB).toArray 29)) = w2 := hw1
  rw [hw2] at HE HO H9 H10
  clear hw1 hw2
  obtain ⟨R10, hR10⟩ : ∃ R, R = w.heap.size + 1 := ⟨_, rfl⟩
  rw [← hR10] at H10 HF10 HRW ⊢
  obtain ⟨R9, hR9⟩ : ∃ R, R = w.heap.size := ⟨_, rfl⟩
  have HRW2 : Hid (w.heap.size ≤ R9 ∧ w.heap.size ≤ R10 ∧ R9 ≠ R10) := Lib.hid (by rw [hR9]; exact HRW.out)
  rw [← hR9] at H9 HF9 ⊢
  clear hR9 hR10 HRW
  have HLD : Hid (w2.heap[Lf]? = some (.cells (old.map encB).toArray 29 (0, 0))) := Lib.hid HE.out.lf
  have HNE : Hid (Lf ≠ R9) := Lib.hid (Ne.symm HF9.out.2.1.2.1)
  have HNE2 : Hid (Lf ≠ R10) := Lib.hid (Ne.symm HF10.out.2.1.2.1)
  refine wp_region_D (fun w' => w'.heap[Lf]? = some (.cells (old.map encB).toArray 29 (0, 0))) (fun i => decide (i ≤ 2)) (by kernel_rfl) ?_
  have hbd : Below w2.heap.size w2 w2.drew := (Below.refl _ _).drew
  have HE1 := Lib.hid (HE.out.to hbd)
  have HO1 := Lib.hid (HO.out.trans (Out.of_below (F := TF Lb Mb) hbd))
  have H91 := Lib.hid (H9.out.to hbd)
  have H101 := Lib.hid (H10.out.to hbd)
  have HL1 : Hid (w2.drew.heap[Lf]? = some (.cells (old.map encB).toArray 29 (0, 0))) := Lib.hid HLD.out
  clear hbd
  generalize w2.drew = w3 at *
  refine wpAnyE_take (i := 0) (oi := _) (v := ?_) rfl (by kernel_rfl) (by kernel_rfl) (by kernel_rfl) (by kernel_rfl) (by kernel_rfl) (fun _ _ _ h => h) (by rfl) ?hya HL1.out ?hra
  case hya => (intro wS hSw; refine exec_load_row 29 (.tmp 3) ?_ Lf ?_ 29 (old.map encB).toArray (0, 0) _ hSw Tryd.underlying29 ?_ ?_; rfl; rfl; rfl; (rw [HSZ.out]; kernel_rfl))
  all_goals try simp only [Act.put, List.setIfInBounds_toArray, List.set_cons_zero, List.set_cons_succ]
  refine wpAnyE_take (i := 1) (oi := _) (v := ?_) rfl (by kernel_rfl) (by kernel_rfl) (by kernel_rfl) (by kernel_rfl) (by kernel_rfl) (fun _ _ _ h => h) (by rfl) ?hyb HL1.out ?hrb
  case hyb => (intro wS hSw; refine exec_load_row 29 (.tmp 3) ?_ Lf ?_ 29 (old.map encB).toArray (0, 0) _ hSw Tryd.underlying29 ?_ ?_; rfl; rfl; rfl; (rw [HSZ.out]; kernel_rfl))
  all_goals try simp only [Act.put, List.setIfInBounds_toArray, List.set_cons_zero, List.set_cons_succ]
  have hq9 : w3.heap[R9]? = some (.cells (zer32.map encB).toArray 29 (0, 0)) := H91.out
  have hq10 : (w3.setRow R9 (old.map encB).toArray).heap[R10]? = some (.cells (zer32.map encB).toArray 29 (0, 0)) := (setRow_other _ R9 R10 _ (Ne.symm HRW2.out.2.2)).trans H101.out
  refine wpAnyD_one (i := 2) (oi := _) rfl (by kernel_rfl) (by rfl) (fun K hK => ?_)
  refine wp_store_row 29 (.tmp 9) (.tmp 23) rfl R9 (old.map encB).toArray ?_ ?_ 29 (zer32.map encB).toArray hq9 (by rw [HSZ.out]; kernel_rfl) (by rw [HSZ.out]; rfl) (hash_all _) ?_
  · rfl
  · rfl
  refine hK _ _ (fun _ => (setRow_other _ R9 Lf _ HNE.out).trans HL1.out) ?_
  clear hK K
  try simp only [Act.put]
  refine wpAnyD_one (i := 3) (oi := _) rfl (by kernel_rfl) (by rfl) (fun K hK => ?_)
  refine wp_store_row 29 (.tmp 10) (.tmp 24) rfl R10 (old.map encB).toArray ?_ ?_ 29 (zer32.map encB).toArray hq10 (by rw [HSZ.out]; kernel_rfl) (by rw [HSZ.out]; rfl) (hash_all _) ?_
  · rfl
  · rfl
  refine hK _ _ (fun _ => (setRow_other _ R10 Lf _ HNE2.out).trans ((setRow_other _ R9 Lf _ HNE.out).trans HL1.out)) ?_
  clear hK K
  try simp only [Act.put]
  refine wpAnyD_done (by kernel_rfl) ?_ _
  unfold Exit.then
  go_wp2_with fail
  have HX10 := Lib.hid (setRow_heap (w3.setRow R9 (old.map encB).toArray) R10 _ (old.map encB).toArray _ _ hq10)
  have HX9 : Hid (((w3.setRow R9 (old.map encB).toArray).setRow R10 (old.map encB).toArray).heap[R9]? = some (.cells (old.map encB).toArray 29 (0, 0))) := Lib.hid ((setRow_other _ R10 R9 _ HRW2.out.2.2).trans (setRow_heap w3 R9 _ (old.map encB).toArray _ _ hq9))
  have HTE := Lib.hid ((HE1.out.setRow HF9.out.1 HF9.out.2.1 HF9.out.2.2 (old.map encB).toArray).setRow HF10.out.1 HF10.out.2.1 HF10.out.2.2 (old.map encB).toArray).t
  have HOE := Lib.hid ((HO1.out.setRow HRW2.out.1 (old.map encB).toArray).setRow HRW2.out.2.1 (old.map encB).toArray)
  exact bodyPost_ret (v := .tuple #[.agg (old.map encB).toArray, .agg (old.map encB).toArray]) (results_two Tryd.results85 _ _ R9 R10 _ _ (old.map encB).toArray (old.map encB).toArray (0, 0) (0, 0) _ rfl HX9.out rfl HX10.out Tryd.underlying29 rfl (by rw [HSZ.out]; kernel_rfl) (HSZ.out.trans HSZ.out.symm)) rfl ⟨rfl, HTE.out, HOE.out⟩
set_option maxRecDepth 100000 in
set_option maxHeartbeats 4000000 in
theorem ext2_any (w0 w : World) (Lb Mb Pb Lf Tb Cb m : Nat) (A : Option Addr) (c0 N : Nat) (p : List H32) (old tv : List UInt8) (s s1 : Nat × Bool) (hs : Sl w0 (fun b => b < w0.heap.size) A c0 p) (hN : p.length = N) (hN2 : N ≤ 9223372036854775807) (hs1 : s.1 ≤ N) (hts : takeP p s = (tv, s1)) (h : EK w0 w Lb Mb Pb Lf Tb Cb (.slice A N c0) old s) :
    Calls Tryd.prog 85 #[.int .i64 (m : Int), .int .i64 (m : Int), .bool false, .pointer (some ⟨Lf, 0, none⟩), .pointer (some ⟨Tb, 0, none⟩), .pointer (some ⟨Cb, 0, none⟩)] w fun e w' => e = .returned (.tuple #[hashV tv, hashV tv]) ∧ TK w0 w' Lb Mb Pb (.slice A N c0) s1 ∧ Out (TF Lb Mb) w w' := by
  have HTV : Hid (tv.length = 32 ∧ s1.1 ≤ N) := Lib.hid (by have := takeP_32 (h32_len hs) s (by omega); rw [hts] at this; exact ⟨this.1, by have := this.2; simp only at this; omega⟩)
  have HZ3 : Hid (∀ W : World, (W.alloc (.cells (zer32.map encB).toArray 29)).heap[W.heap.size]? = some (.cells (zer32.map encB).toArray 29 (0, 0))) := Lib.hid (fun W => heap_alloc_new W _)
  have HTK : Hid (∀ W, TK w0 W Lb Mb Pb (.slice A N c0) s → Calls Tryd.prog 95 #[.pointer (some ⟨Lb, 0, none⟩), .pointer (some ⟨Mb, 0, none⟩), .pointer (some ⟨Pb, 0, none⟩)] W fun e w' => e = .returned (hashV tv) ∧ TK w0 w' Lb Mb Pb (.slice A N c0) s1 ∧ Out (TF Lb Mb) W w') := Lib.hid (fun W hW => by
    have := take_any w0 W Lb Mb Pb A c0 N p s hs hN hN2 hs1 hW
    rw [hts] at this; exact this)
  have HTS := Lib.hid (hash_size HTV.out.1)
  clear hs hN hts
  have hba : Below w.heap.size w ((w.alloc (.cells (zer32.map encB).toArray 29)).alloc (.cells (zer32.map encB).toArray 29)) := ((Below.refl _ _).alloc (Nat.le_refl _) _).alloc (by simp) _
  have HE := Lib.hid (h.to hba)
  have HO : Hid (Out (TF Lb Mb) w ((w.alloc (.cells (zer32.map encB).toArray 29)).alloc (.cells (zer32.map encB).toArray 29))) := Lib.hid (Out.of_below hba)
  have H9 : Hid (ABox ((w.alloc (.cells (zer32.map encB).toArray 29)).alloc (.cells (zer32.map encB).toArray 29)) w.heap.size 29 (zer32.map encB)) := Lib.hid (by unfold ABox; rw [Below.heap_alloc _ _ _ (by simp)]; exact heap_alloc_new w _)
  have H10 : Hid (ABox ((w.alloc (.cells (zer32.map encB).toArray 29)).alloc (.cells (zer32.map encB).toArray 29)) (w.heap.size + 1) 29 (zer32.map encB)) := Lib.hid (heap_at (by simp))
  have HF9 := Lib.hid (h.far (Nat.le_refl _))
  have HF10 := Lib.hid (h.far (R := w.heap.size + 1) (by omega))
  have HRW : Hid (w.heap.size ≤ w.heap.size ∧ w.heap.size ≤ w.heap.size + 1 ∧ w.heap.size ≠ w.heap.size + 1) := Lib.hid ⟨Nat.le_refl _, by omega, by omega⟩
  have HZ : Hid ((zer32.map encB).toArray.size = 32) := Lib.hid rfl
  clear h hba
  go_enter Tryd.func85, Tryd.ntmps85
  go_upto_region 3 with (fail)
  generalize hw1 : World.alloc (World.alloc w _) _ = w2
  have hw2 : ((w.alloc (.cells (zer32.map encB).toArray 29)).alloc (.cells (zer32.map encB).toArray 29)) = w2 := hw1
  rw [hw2] at HE HO H9 H10
  clear hw1 hw2
  obtain ⟨R10, hR10⟩ : ∃ R, R = w.heap.size + 1 := ⟨_, rfl⟩
  rw [← hR10] at H10 HF10 HRW ⊢
  obtain ⟨R9, hR9⟩ : ∃ R, R = w.heap.size := ⟨_, rfl⟩
  have HRW2 : Hid (w.heap.size ≤ R9 ∧ w.heap.size ≤ R10 ∧ R9 ≠ R10) := Lib.hid (by rw [hR9]; exact HRW.out)
  rw [← hR9] at H9 HF9 ⊢
  clear hR9 hR10 HRW
  have k0 : w2.cell? ⟨Tb, 0, none⟩ = some (.func (.func 95) #[] #[.pointer (some ⟨Lb, 0, none⟩), .pointer (some ⟨Mb, 0, none⟩), .pointer (some ⟨Pb, 0, none⟩)]) := HE.out.tb.cell 0 rfl
  go_wp2_with fail
  refine (HTK.out w2 HE.out.t).mono ?_
  rintro e w3 ⟨rfl, ht3, ho3⟩
  have HE3 := Lib.hid (HE.out.out ht3 ho3)
  have HO3 := Lib.hid (HO.out.trans ho3)
  have H93 := Lib.hid (ho3.box H9.out HF9.out.1)
  have H103 := Lib.hid (ho3.box H10.out HF10.out.1)
  have HL93 : Hid (R9 < w3.heap.size ∧ R10 < w3.heap.size) := Lib.hid ⟨H93.out.lt, H103.out.lt⟩
  clear ht3 ho3 k0 HE HO H9 H10
  have hz3 := HZ3.out w3
  have hbz : Below w3.heap.size w3 (w3.alloc (.cells (zer32.map encB).toArray 29)) := (Below.refl _ _).alloc (Nat.le_refl _) _
  have HF11 := Lib.hid (HE3.out.far (Nat.le_refl _))
  have HE4 := Lib.hid ((HE3.out.to hbz).setRow HF11.out.1 HF11.out.2.1 HF11.out.2.2 (tv.map encB).toArray)
  have HO4 : Hid (Out (TF Lb Mb) w ((w3.alloc (.cells (zer32.map encB).toArray 29)).setRow w3.heap.size (tv.map encB).toArray)) := Lib.hid ((HO3.out.trans (Out.of_below hbz)).setRow HO3.out.size _)
  have H94 := Lib.hid (abox_setRow (vs := (tv.map encB).toArray) (H93.out.to hbz) (Nat.ne_of_lt HL93.out.1))
  have H104 := Lib.hid (abox_setRow (vs := (tv.map encB).toArray) (H103.out.to hbz) (Nat.ne_of_lt HL93.out.2))
  have HLD : Hid (((w3.alloc (.cells (zer32.map encB).toArray 29)).setRow w3.heap.size (tv.map encB).toArray).heap[w3.heap.size]? = some (.cells (tv.map encB).toArray 29 (0, 0))) := Lib.hid (setRow_heap _ _ _ _ _ _ hz3)
  have HNE : Hid (w3.heap.size ≠ R9) := Lib.hid (by have := HL93.out; omega)
  have HNE2 : Hid (w3.heap.size ≠ R10) := Lib.hid (by have := HL93.out; omega)
  clear hbz HE3 HO3 H93 H103
  go_upto_region 5 with (first
    | (refine wpList_store_row rfl 29 (.tmp 11) (.tmp 26) rfl w3.heap.size (tv.map encB).toArray ?_ ?_ 29 (zer32.map encB).toArray hz3 (by rw [HTS.out]; kernel_rfl) (by rw [HZ.out, HTS.out]) (hash_all _) ?_; rfl; rfl)
    | fail)
  clear hz3
  generalize hw4 : World.setRow (World.alloc w3 _) _ _ = w4
  have hw5 : ((w3.alloc (.cells (zer32.map encB).toArray 29)).setRow w3.heap.size (tv.map encB).toArray) = w4 := hw4
  rw [hw5] at HE4 HO4 H94 H104 HLD
  clear hw4 hw5
  generalize w3.heap.size = R11 at *
  refine wp_region_D (fun w' => w'.heap[R11]? = some (.cells (tv.map encB).toArray 29 (0, 0))) (fun i => decide (i ≤ 2)) (by kernel_rfl) ?_
  have hbd : Below w4.heap.size w4 w4.drew := (Below.refl _ _).drew
  have HE1 := Lib.hid (HE4.out.to hbd)
  have HO1 := Lib.hid (HO4.out.trans (Out.of_below (F := TF Lb Mb) hbd))
  have H91 := Lib.hid (H94.out.to hbd)
  have H101 := Lib.hid (H104.out.to hbd)
  have HL1 : Hid (w4.drew.heap[R11]? = some (.cells (tv.map encB).toArray 29 (0, 0))) := Lib.hid HLD.out
  clear hbd
  generalize w4.drew = w3 at *
  refine wpAnyE_take (i := 0) (oi := _) (v := ?_) rfl (by kernel_rfl) (by kernel_rfl) (by kernel_rfl) (by kernel_rfl) (by kernel_rfl) (fun _ _ _ h => h) (by rfl) ?hya HL1.out ?hra
  case hya => (intro wS hSw; refine exec_load_row 29 (.tmp 11) ?_ R11 ?_ 29 (tv.map encB).toArray (0, 0) _ hSw Tryd.underlying29 ?_ ?_; rfl; rfl; rfl; (rw [HTS.out]; kernel_rfl))
  all_goals try simp only [Act.put, List.setIfInBounds_toArray, List.set_cons_zero, List.set_cons_succ]
  refine wpAnyE_take (i := 1) (oi := _) (v := ?_) rfl (by kernel_rfl) (by kernel_rfl) (by kernel_rfl) (by kernel_rfl) (by kernel_rfl) (fun _ _ _ h => h) (by rfl) ?hyb HL1.out ?hrb
  case hyb => (intro wS hSw; refine exec_load_row 29 (.tmp 11) ?_ R11 ?_ 29 (tv.map encB).toArray (0, 0) _ hSw Tryd.underlying29 ?_ ?_; rfl; rfl; rfl; (rw [HTS.out]; kernel_rfl))
  all_goals try simp only [Act.put, List.setIfInBounds_toArray, List.set_cons_zero, List.set_cons_succ]
  have hq9 : w3.heap[R9]? = some (.cells (zer32.map encB).toArray 29 (0, 0)) := H91.out
  have hq10 : (w3.setRow R9 (tv.map encB).toArray).heap[R10]? = some (.cells (zer32.map encB).toArray 29 (0, 0)) := (setRow_other _ R9 R10 _ (Ne.symm HRW2.out.2.2)).trans H101.out
  refine wpAnyD_one (i := 2) (oi := _) rfl (by kernel_rfl) (by rfl) (fun K hK => ?_)
  refine wp_store_row 29 (.tmp 9) (.tmp 30) rfl R9 (tv.map encB).toArray ?_ ?_ 29 (zer32.map encB).toArray hq9 (by rw [HTS.out]; kernel_rfl) (by rw [HTS.out]; rfl) (hash_all _) ?_
  · rfl
  · rfl
  refine hK _ _ (fun _ => (setRow_other _ R9 R11 _ HNE.out).trans HL1.out) ?_
  clear hK K
  try simp only [Act.put]
  refine wpAnyD_one (i := 3) (oi := _) rfl (by kernel_rfl) (by rfl) (fun K hK => ?_)
  refine wp_store_row 29 (.tmp 10) (.tmp 31) rfl R10 (tv.map encB).toArray ?_ ?_ 29 (zer32.map encB).toArray hq10 (by rw [HTS.out]; kernel_rfl) (by rw [HTS.out]; rfl) (hash_all _) ?_
  · rfl
  · rfl
  refine hK _ _ (fun _ => (setRow_other _ R10 R11 _ HNE2.out).trans ((setRow_other _ R9 R11 _ HNE.out).trans HL1.out)) ?_
  clear hK K
  try simp only [Act.put]
  refine wpAnyD_done (by kernel_rfl) ?_ _
  unfold Exit.then
  go_wp2_with fail
  have HX10 := Lib.hid (setRow_heap (w3.setRow R9 (tv.map encB).toArray) R10 _ (tv.map encB).toArray _ _ hq10)
  have HX9 : Hid (((w3.setRow R9 (tv.map encB).toArray).setRow R10 (tv.map encB).toArray).heap[R9]? = some (.cells (tv.map encB).toArray 29 (0, 0))) := Lib.hid ((setRow_other _ R10 R9 _ HRW2.out.2.2).trans (setRow_heap w3 R9 _ (tv.map encB).toArray _ _ hq9))
  have HTE := Lib.hid ((HE1.out.setRow HF9.out.1 HF9.out.2.1 HF9.out.2.2 (tv.map encB).toArray).setRow HF10.out.1 HF10.out.2.1 HF10.out.2.2 (tv.map encB).toArray).t
  have HOE := Lib.hid ((HO1.out.setRow HRW2.out.1 (tv.map encB).toArray).setRow HRW2.out.2.1 (tv.map encB).toArray)
  exact bodyPost_ret (v := .tuple #[.agg (tv.map encB).toArray, .agg (tv.map encB).toArray]) (results_two Tryd.results85 _ _ R9 R10 _ _ (tv.map encB).toArray (tv.map encB).toArray (0, 0) (0, 0) _ rfl HX9.out rfl HX10.out Tryd.underlying29 rfl (by rw [HTS.out]; kernel_rfl) (HTS.out.trans HTS.out.symm)) rfl ⟨rfl, HTE.out, HOE.out⟩
set_option maxRecDepth 100000 in
set_option maxHeartbeats 8000000 in
theorem ext3_any (f : Nat) (w0 w : World) (Lb Mb Pb Lf Tb Cb : Nat) (A : Option Addr) (c0 N : Nat) (p : List H32) (old : List UInt8) (hl : old.length = 32) (hK : KLaid w0) (hs : Sl w0 (fun b => b < w0.heap.size) A c0 p) (hN : p.length = N) (hN2 : N ≤ 9223372036854775807)
    (ih : ∀ (m n : Nat) (whole : Bool) (s : Nat × Bool) (w : World), 1 ≤ m → m ≤ n → n ≤ f → n ≤ 65536 → s.1 ≤ N → EK w0 w Lb Mb Pb Lf Tb Cb (.slice A N c0) old s →
      Calls Tryd.prog 85 #[.int .i64 (m : Int), .int .i64 (n : Int), .bool whole, .pointer (some ⟨Lf, 0, none⟩), .pointer (some ⟨Tb, 0, none⟩), .pointer (some ⟨Cb, 0, none⟩)] w fun e w' => e = .returned (.tuple #[hashV (extP f p old m n whole s).1.1, hashV (extP f p old m n whole s).1.2]) ∧ TK w0 w' Lb Mb Pb (.slice A N c0) (extP f p old m n whole s).2 ∧ Out (TF Lb Mb) w w')
    (m n : Nat) (whole : Bool) (s : Nat × Bool) (h1 : 1 ≤ m) (hmn : m < n) (hf : n ≤ f + 1) (hn : n ≤ 65536) (hs1 : s.1 ≤ N) (h : EK w0 w Lb Mb Pb Lf Tb Cb (.slice A N c0) old s) :
    Calls Tryd.prog 85 #[.int .i64 (m : Int), .int .i64 (n : Int), .bool whole, .pointer (some ⟨Lf, 0, none⟩), .pointer (some ⟨Tb, 0, none⟩), .pointer (some ⟨Cb, 0, none⟩)] w fun e w' => e = .returned (.tuple #[hashV (extP (f + 1) p old m n whole s).1.1, hashV (extP (f + 1) p old m n whole s).1.2]) ∧ TK w0 w' Lb Mb Pb (.slice A N c0) (extP (f + 1) p old m n whole s).2 ∧ Out (TF Lb Mb) w w' := by
  obtain ⟨_, _, h3, h4, _⟩ := splitN_bounds n (by omega) (by omega)
  have HSP := Lib.hid (split_any n (by omega) (by omega))
  have HP32 := Lib.hid (h32_len hs)
  have HI := Lib.hid ih
  have HK := Lib.hid hK
  have HF := Lib.hid hf
  obtain ⟨tv, s1, hts⟩ : ∃ tv s1, takeP p s = (tv, s1) := ⟨_, _, rfl⟩
  have HTV : Hid (tv.length = 32 ∧ s1.1 ≤ N) := Lib.hid (by have := takeP_32 (h32_len hs) s (by omega); rw [hts] at this; exact ⟨this.1, by have := this.2; simp only at this; omega⟩)
  have HCL : Hid (m ≤ splitN n → extP (f + 1) p old m n whole s = (((extP f p old m (splitN n) whole s1).1.1, nodeH (extP f p old m (splitN n) whole s1).1.2 tv), (extP f p old m (splitN n) whole s1).2)) := Lib.hid (fun hik => by rw [extP, if_neg (by omega), if_neg (by omega), if_pos hik, hts])
  have HCR : Hid (¬ m ≤ splitN n → extP (f + 1) p old m n whole s = ((nodeH tv (extP f p old (m - splitN n) (n - splitN n) false s1).1.1, nodeH tv (extP f p old (m - splitN n) (n - splitN n) false s1).1.2), (extP f p old (m - splitN n) (n - splitN n) false s1).2)) := Lib.hid (fun hik => by rw [extP, if_neg (by omega), if_neg (by omega), if_neg hik, hts])
  have HC32 : Hid (∀ m n whole, (extP f p old m n whole s1).1.1.length = 32 ∧ (extP f p old m n whole s1).1.2.length = 32) := Lib.hid (fun m n whole => by have := extP_32 (h32_len hs) hl f m n whole s1 (by have := HTV.out.2; omega); exact ⟨this.1, this.2.1⟩)
  have HZ3 : Hid (∀ W : World, (W.alloc (.cells (zer32.map encB).toArray 29)).heap[W.heap.size]? = some (.cells (zer32.map encB).toArray 29 (0, 0))) := Lib.hid (fun W => heap_alloc_new W _)
  have HTK : Hid (∀ W, TK w0 W Lb Mb Pb (.slice A N c0) s → Calls Tryd.prog 95 #[.pointer (some ⟨Lb, 0, none⟩), .pointer (some ⟨Mb, 0, none⟩), .pointer (some ⟨Pb, 0, none⟩)] W fun e w' => e = .returned (hashV tv) ∧ TK w0 w' Lb Mb Pb (.slice A N c0) s1 ∧ Out (TF Lb Mb) W w') := Lib.hid (fun W hW => by
    have := take_any w0 W Lb Mb Pb A c0 N p s hs hN hN2 hs1 hW
    rw [hts] at this; exact this)
  have HTS := Lib.hid (hash_size HTV.out.1)
  clear hs hN hts ih hK hf hl
  have hmnI : ((m : Int) == (n : Int)) = false := by rw [beq_eq_false_iff_ne]; omega
  generalize splitN n = k at *
  have hba : Below w.heap.size w ((w.alloc (.cells (zer32.map encB).toArray 29)).alloc (.cells (zer32.map encB).toArray 29)) := ((Below.refl _ _).alloc (Nat.le_refl _) _).alloc (by simp) _
  have HE := Lib.hid (h.to hba)
  have HO : Hid (Out (TF Lb Mb) w ((w.alloc (.cells (zer32.map encB).toArray 29)).alloc (.cells (zer32.map encB).toArray 29))) := Lib.hid (Out.of_below hba)
  have H9 : Hid (ABox ((w.alloc (.cells (zer32.map encB).toArray 29)).alloc (.cells (zer32.map encB).toArray 29)) w.heap.size 29 (zer32.map encB)) := Lib.hid (by unfold ABox; rw [Below.heap_alloc _ _ _ (by simp)]; exact heap_alloc_new w _)
  have H10 : Hid (ABox ((w.alloc (.cells (zer32.map encB).toArray 29)).alloc (.cells (zer32.map encB).toArray 29)) (w.heap.size + 1) 29 (zer32.map encB)) := Lib.hid (heap_at (by simp))
  have HF9 := Lib.hid (h.far (Nat.le_refl _))
  have HF10 := Lib.hid (h.far (R := w.heap.size + 1) (by omega))
  have HRW : Hid (w.heap.size ≤ w.heap.size ∧ w.heap.size ≤ w.heap.size + 1 ∧ w.heap.size ≠ w.heap.size + 1) := Lib.hid ⟨Nat.le_refl _, by omega, by omega⟩
  have HZ : Hid ((zer32.map encB).toArray.size = 32) := Lib.hid rfl
  clear h hba
  go_enter Tryd.func85, Tryd.ntmps85
  go_upto_region 3 with (fail)
  generalize hw1 : World.alloc (World.alloc w _) _ = w2
  have hw2 : ((w.alloc (.cells (zer32.map encB).toArray 29)).alloc (.cells (zer32.map encB).toArray 29)) = w2 := hw1
  rw [hw2] at HE HO H9 H10
  clear hw1 hw2
  obtain ⟨R10, hR10⟩ : ∃ R, R = w.heap.size + 1 := ⟨_, rfl⟩
  rw [← hR10] at H10 HF10 HRW ⊢
  obtain ⟨R9, hR9⟩ : ∃ R, R = w.heap.size := ⟨_, rfl⟩
  have HRW2 : Hid (w.heap.size ≤ R9 ∧ w.heap.size ≤ R10 ∧ R9 ≠ R10) := Lib.hid (by rw [hR9]; exact HRW.out)
  rw [← hR9] at H9 HF9 ⊢
  clear hR9 hR10 HRW
  have k0 : w2.cell? ⟨Tb, 0, none⟩ = some (.func (.func 95) #[] #[.pointer (some ⟨Lb, 0, none⟩), .pointer (some ⟨Mb, 0, none⟩), .pointer (some ⟨Pb, 0, none⟩)]) := HE.out.tb.cell 0 rfl
  go_wp2_with fail
  refine (HTK.out w2 HE.out.t).mono ?_
  rintro e w3 ⟨rfl, ht3, ho3⟩
  have HE3 := Lib.hid (HE.out.out ht3 ho3)
  have HO3 := Lib.hid (HO.out.trans ho3)
  have H93 := Lib.hid (ho3.box H9.out HF9.out.1)
  have H103 := Lib.hid (ho3.box H10.out HF10.out.1)
  have HL93 : Hid (R9 < w3.heap.size ∧ R10 < w3.heap.size) := Lib.hid ⟨H93.out.lt, H103.out.lt⟩
  clear ht3 ho3 k0 HE HO H9 H10
  have hz3 := HZ3.out w3
  have hbz : Below w3.heap.size w3 (w3.alloc (.cells (zer32.map encB).toArray 29)) := (Below.refl _ _).alloc (Nat.le_refl _) _
  have HF11 := Lib.hid (HE3.out.far (Nat.le_refl _))
  have HE4 := Lib.hid ((HE3.out.to hbz).setRow HF11.out.1 HF11.out.2.1 HF11.out.2.2 (tv.map encB).toArray)
  have HO4 : Hid (Out (TF Lb Mb) w ((w3.alloc (.cells (zer32.map encB).toArray 29)).setRow w3.heap.size (tv.map encB).toArray)) := Lib.hid ((HO3.out.trans (Out.of_below hbz)).setRow HO3.out.size _)
  have H94 := Lib.hid (abox_setRow (vs := (tv.map encB).toArray) (H93.out.to hbz) (Nat.ne_of_lt HL93.out.1))
  have H104 := Lib.hid (abox_setRow (vs := (tv.map encB).toArray) (H103.out.to hbz) (Nat.ne_of_lt HL93.out.2))
  have HLD : Hid (((w3.alloc (.cells (zer32.map encB).toArray 29)).setRow w3.heap.size (tv.map encB).toArray).heap[w3.heap.size]? = some (.cells (tv.map encB).toArray 29 (0, 0))) := Lib.hid (setRow_heap _ _ _ _ _ _ hz3)
  have HNE : Hid (w3.heap.size ≠ R9) := Lib.hid (by have := HL93.out; omega)
  have HNE2 : Hid (w3.heap.size ≠ R10) := Lib.hid (by have := HL93.out; omega)
  clear hbz HE3 HO3 H93 H103
  go_upto_region 7 with (first
    | (refine wpList_store_row rfl 29 (.tmp 11) (.tmp 26) rfl w3.heap.size (tv.map encB).toArray ?_ ?_ 29 (zer32.map encB).toArray hz3 (by rw [HTS.out]; kernel_rfl) (by rw [HZ.out, HTS.out]) (hash_all _) ?_; rfl; rfl)
    | (go_at_call 62; refine (HSP.out _).mono ?_; rintro e w' ⟨rfl, rfl⟩)
    | fail)
  clear hz3
  generalize hw4 : World.setRow (World.alloc w3 _) _ _ = w4
  have hw5 : ((w3.alloc (.cells (zer32.map encB).toArray 29)).setRow w3.heap.size (tv.map encB).toArray) = w4 := hw4
  rw [hw5] at HE4 HO4 H94 H104 HLD
  clear hw4 hw5
  generalize w3.heap.size = R11 at *
  by_cases hik : m ≤ k
  · have hikI : (m : Int) ≤ (k : Int) := by omega
    obtain ⟨va, vb, s2, hcs⟩ : ∃ va vb s2, extP f p old m k whole s1 = ((va, vb), s2) := ⟨_, _, _, rfl⟩
    have HCE : Hid (extP (f + 1) p old m n whole s = ((va, nodeH vb tv), s2)) := Lib.hid (by rw [HCL.out hik, hcs])
    have HAB : Hid (va.length = 32 ∧ vb.length = 32) := Lib.hid (by have := HC32.out m k whole; rw [hcs] at this; exact this)
    have HCA : Hid (∀ W, EK w0 W Lb Mb Pb Lf Tb Cb (.slice A N c0) old s1 → Calls Tryd.prog 85 #[.int .i64 (m : Int), .int .i64 (k : Int), .bool whole, .pointer (some ⟨Lf, 0, none⟩), .pointer (some ⟨Tb, 0, none⟩), .pointer (some ⟨Cb, 0, none⟩)] W fun e w' => e = .returned (.tuple #[hashV va, hashV vb]) ∧ TK w0 w' Lb Mb Pb (.slice A N c0) s2 ∧ Out (TF Lb Mb) W w') := Lib.hid (fun W hW => by
      have := HI.out m k whole s1 W h1 hik (by have := HF.out; omega) (by omega) HTV.out.2 hW
      rw [hcs] at this; exact this)
    have HSA := Lib.hid (hash_size HAB.out.1)
    have HSB := Lib.hid (hash_size HAB.out.2)
    have HSRA := HSA
    have HSRB := Lib.hid (hash_size (show (nodeH vb tv).length = 32 from sha_length _))
    clear hcs HI HCL HCR HC32 HSP
    have k1 : w4.cell? ⟨Cb, 0, none⟩ = some (.func (.func 85) #[] #[.pointer (some ⟨Lf, 0, none⟩), .pointer (some ⟨Tb, 0, none⟩), .pointer (some ⟨Cb, 0, none⟩)]) := HE4.out.cb.cell 0 rfl
    go_wp2_with fail
    refine (HCA.out w4 HE4.out).mono ?_
    rintro e w5 ⟨rfl, ht5, ho5⟩
    have HE5 := Lib.hid (HE4.out.out ht5 ho5)
    have HO5 := Lib.hid (HO4.out.trans ho5)
    have H95 := Lib.hid (ho5.box H94.out HF9.out.1)
    have H105 := Lib.hid (ho5.box H104.out HF10.out.1)
    have H115 := Lib.hid (ho5.box HLD.out HF11.out.1)
    have HL5 : Hid (R9 < w5.heap.size ∧ R10 < w5.heap.size ∧ R11 < w5.heap.size) := Lib.hid ⟨H95.out.lt, H105.out.lt, H115.out.lt⟩
    clear ht5 ho5 k1 HE4 HO4 H94 H104 HLD HCA
    have hbz : Below w5.heap.size w5 ((w5.alloc (.cells (zer32.map encB).toArray 29)).alloc (.cells (zer32.map encB).toArray 29)) := ((Below.refl _ _).alloc (Nat.le_refl _) _).alloc (by simp) _
    have hza : ((w5.alloc (.cells (zer32.map encB).toArray 29)).alloc (.cells (zer32.map encB).toArray 29)).heap[w5.heap.size]? = some (.cells (zer32.map encB).toArray 29 (0, 0)) := by rw [Below.heap_alloc _ _ _ (by simp)]; exact heap_alloc_new w5 _
    have hzb : (((w5.alloc (.cells (zer32.map encB).toArray 29)).alloc (.cells (zer32.map encB).toArray 29)).setRow w5.heap.size (va.map encB).toArray).heap[w5.heap.size + 1]? = some (.cells (zer32.map encB).toArray 29 (0, 0)) := (setRow_other _ _ _ _ (by omega)).trans (heap_at (by simp))
    have HFA := Lib.hid (HE5.out.far (Nat.le_refl _))
    have HFB := Lib.hid (HE5.out.far (R := w5.heap.size + 1) (by omega))
    have HE6 := Lib.hid (((HE5.out.to hbz).setRow HFA.out.1 HFA.out.2.1 HFA.out.2.2 (va.map encB).toArray).setRow HFB.out.1 HFB.out.2.1 HFB.out.2.2 (vb.map encB).toArray)
    have HO6 : Hid (Out (TF Lb Mb) w ((((w5.alloc (.cells (zer32.map encB).toArray 29)).alloc (.cells (zer32.map encB).toArray 29)).setRow w5.heap.size (va.map encB).toArray).setRow (w5.heap.size + 1) (vb.map encB).toArray)) := Lib.hid (((HO5.out.trans (Out.of_below hbz)).setRow HO5.out.size _).setRow (by have := HO5.out.size; omega) _)
    have H96 := Lib.hid (abox_setRow (vs := (vb.map encB).toArray) (abox_setRow (vs := (va.map encB).toArray) (H95.out.to hbz) (Nat.ne_of_lt HL5.out.1)) (show R9 ≠ w5.heap.size + 1 by have := HL5.out; omega))
    have H106 := Lib.hid (abox_setRow (vs := (vb.map encB).toArray) (abox_setRow (vs := (va.map encB).toArray) (H105.out.to hbz) (Nat.ne_of_lt HL5.out.2.1)) (show R10 ≠ w5.heap.size + 1 by have := HL5.out; omega))
    have H116 := Lib.hid (abox_setRow (vs := (vb.map encB).toArray) (abox_setRow (vs := (va.map encB).toArray) (H115.out.to hbz) (Nat.ne_of_lt HL5.out.2.2)) (show R11 ≠ w5.heap.size + 1 by have := HL5.out; omega))
    have HA6 : Hid (ABox ((((w5.alloc (.cells (zer32.map encB).toArray 29)).alloc (.cells (zer32.map encB).toArray 29)).setRow w5.heap.size (va.map encB).toArray).setRow (w5.heap.size + 1) (vb.map encB).toArray) w5.heap.size 29 (va.map encB)) := Lib.hid (abox_setRow (setRow_heap _ _ _ _ _ _ hza) (by omega))
    have HB6 : Hid (ABox ((((w5.alloc (.cells (zer32.map encB).toArray 29)).alloc (.cells (zer32.map encB).toArray 29)).setRow w5.heap.size (va.map encB).toArray).setRow (w5.heap.size + 1) (vb.map encB).toArray) (w5.heap.size + 1) 29 (vb.map encB)) := Lib.hid (setRow_heap _ _ _ _ _ _ hzb)
    clear hbz HE5 HO5 H95 H105 H115 HFA HFB HL5
    go_upto_region 9 with (first
      | (refine wpList_store_row rfl 29 (.tmp 13) (.tmp 43) rfl w5.heap.size (va.map encB).toArray ?_ ?_ 29 (zer32.map encB).toArray hza (by rw [HSA.out]; kernel_rfl) (by rw [HZ.out, HSA.out]) (hash_all _) ?_; rfl; rfl)
      | (refine wpList_store_row rfl 29 (.tmp 14) (.tmp 44) rfl (w5.heap.size + 1) (vb.map encB).toArray ?_ ?_ 29 (zer32.map encB).toArray hzb (by rw [HSB.out]; kernel_rfl) (by rw [HZ.out, HSB.out]) (hash_all _) ?_; rfl; rfl)
      | fail)
    clear hza hzb
    generalize hw4 : World.setRow (World.setRow (World.alloc (World.alloc w5 _) _) _ _) _ _ = w6
    have hw5 : ((((w5.alloc (.cells (zer32.map encB).toArray 29)).alloc (.cells (zer32.map encB).toArray 29)).setRow w5.heap.size (va.map encB).toArray).setRow (w5.heap.size + 1) (vb.map encB).toArray) = w6 := hw4
    rw [hw5] at HE6 HO6 H96 H106 H116 HA6 HB6
    clear hw4 hw5
    generalize w5.heap.size + 1 = RB at *
    generalize w5.heap.size = RA at *
    refine wp_region_rely [3] (fun i => if i = 3 then SP.val (hashV (nodeH vb tv)) else SP.any) 4 (by kernel_rfl) (by kernel_rfl) ?_
    intro T _ g hg hgm
    refine wpR_pure (by rfl) fun Kq hq => ?_
    refine wpQuiet_run (by rfl) (.agg (va.map encB).toArray) ?_ (wpQuiet_nil ?_)
    · rintro _ ⟨d, rfl⟩
      exact exec_load_row 29 (.tmp 13) rfl RA rfl 29 (va.map encB).toArray (0, 0) _ (HA6.out.to (hg d)) Tryd.underlying29 rfl (by rw [HSA.out]; kernel_rfl)
    simp only [Act.put, List.setIfInBounds_toArray, List.set_cons_zero, List.set_cons_succ]
    refine hq _ ?_
    clear hq Kq
    refine wpR_pure (by rfl) fun Kq hq => ?_
    refine wpQuiet_run (by rfl) (.agg (vb.map encB).toArray) ?_ (wpQuiet_nil ?_)
    · rintro _ ⟨d, rfl⟩
      exact exec_load_row 29 (.tmp 14) rfl RB rfl 29 (vb.map encB).toArray (0, 0) _ (HB6.out.to (hg d)) Tryd.underlying29 rfl (by rw [HSB.out]; kernel_rfl)
    simp only [Act.put, List.setIfInBounds_toArray, List.set_cons_zero, List.set_cons_succ]
    refine hq _ ?_
    clear hq Kq
    refine wpR_pure (by rfl) fun Kq hq => ?_
    refine wpQuiet_run (by rfl) (.agg (tv.map encB).toArray) ?_ (wpQuiet_nil ?_)
    · rintro _ ⟨d, rfl⟩
      exact exec_load_row 29 (.tmp 11) rfl R11 rfl 29 (tv.map encB).toArray (0, 0) _ (H116.out.to (hg d)) Tryd.underlying29 rfl (by rw [HTS.out]; kernel_rfl)
    simp only [Act.put, List.setIfInBounds_toArray, List.set_cons_zero, List.set_cons_succ]
    refine hq _ ?_
    clear hq Kq
    refine wpR_busy (by rfl) (by rfl) (fun d hG K Q hK => ?_) (fun v1 d hG hp Kr hr => ?_)
    · go_simp
      go_at_call 45
      refine (node_any vb tv HAB.out.2 HTV.out.1 (g d) (HK.out.to (HE6.out.to (hg d)).t.b)).mono ?_
      rintro e W1 ⟨rfl, hb1⟩
      go_simp
      exact hK _ _ hb1 (rfl)
    obtain rfl : v1 = hashV (nodeH vb tv) := hp
    (try clear hp); clear hG
    simp only [Act.put, List.setIfInBounds_toArray, List.set_cons_zero, List.set_cons_succ]
    refine hr _ ?_
    clear hr Kr
    refine wpR_tail 2 (by rfl) (by rfl) (fun d hG => ?_)
    have HE7 := Lib.hid (HE6.out.to (hg d))
    have HO7 := Lib.hid (HO6.out.trans (Out.of_below (F := TF Lb Mb) (hg d)))
    have hq9 : (g d).heap[R9]? = some (.cells (zer32.map encB).toArray 29 (0, 0)) := H96.out.to (hg d)
    have hq10 : ((g d).setRow R9 (va.map encB).toArray).heap[R10]? = some (.cells (zer32.map encB).toArray 29 (0, 0)) := (setRow_other _ R9 R10 _ (Ne.symm HRW2.out.2.2)).trans (H106.out.to (hg d))
    clear hG hg hgm
    generalize g d = w7 at *
    clear g
    refine wpAny_one (i := 4) (oi := _) rfl (by kernel_rfl) (by rfl) (fun K hK => ?_)
    refine wp_store_row 29 (.tmp 9) (.tmp 45) rfl R9 (va.map encB).toArray ?_ ?_ 29 (zer32.map encB).toArray hq9 (by rw [HSRA.out]; kernel_rfl) (by rw [HSRA.out]; rfl) (hash_all _) ?_
    · rfl
    · rfl
    refine hK _ _ ?_
    clear hK K
    try simp only [Act.put, List.setIfInBounds_toArray, List.set_cons_zero, List.set_cons_succ]
    refine wpAny_one (i := 5) (oi := _) rfl (by kernel_rfl) (by rfl) (fun K hK => ?_)
    refine wp_store_row 29 (.tmp 10) (.tmp 48) rfl R10 ((nodeH vb tv).map encB).toArray ?_ ?_ 29 (zer32.map encB).toArray hq10 (by rw [HSRB.out]; kernel_rfl) (by rw [HSRB.out]; rfl) (hash_all _) ?_
    · rfl
    · rfl
    refine hK _ _ ?_
    clear hK K
    try simp only [Act.put, List.setIfInBounds_toArray, List.set_cons_zero, List.set_cons_succ]
    refine wpAny_done (by kernel_rfl) ?_ _
    unfold Exit.then
    go_wp2_with fail
    have HX10 := Lib.hid (setRow_heap (w7.setRow R9 (va.map encB).toArray) R10 _ ((nodeH vb tv).map encB).toArray _ _ hq10)
    have HX9 : Hid (((w7.setRow R9 (va.map encB).toArray).setRow R10 ((nodeH vb tv).map encB).toArray).heap[R9]? = some (.cells (va.map encB).toArray 29 (0, 0))) := Lib.hid ((setRow_other _ R10 R9 _ HRW2.out.2.2).trans (setRow_heap w7 R9 _ (va.map encB).toArray _ _ hq9))
    have HTE := Lib.hid ((HE7.out.setRow HF9.out.1 HF9.out.2.1 HF9.out.2.2 (va.map encB).toArray).setRow HF10.out.1 HF10.out.2.1 HF10.out.2.2 ((nodeH vb tv).map encB).toArray).t
    have HOE := Lib.hid ((HO7.out.setRow HRW2.out.1 (va.map encB).toArray).setRow HRW2.out.2.1 ((nodeH vb tv).map encB).toArray)
    exact bodyPost_ret (v := .tuple #[.agg (va.map encB).toArray, .agg ((nodeH vb tv).map encB).toArray]) (results_two Tryd.results85 _ _ R9 R10 _ _ (va.map encB).toArray ((nodeH vb tv).map encB).toArray (0, 0) (0, 0) _ rfl HX9.out rfl HX10.out Tryd.underlying29 rfl (by rw [HSRA.out]; kernel_rfl) (HSRB.out.trans HSRA.out.symm)) rfl ⟨by rw [HCE.out]; rfl, by rw [HCE.out]; exact HTE.out, HOE.out⟩
  · have hikI : ¬ (m : Int) ≤ (k : Int) := by omega
    obtain ⟨va, vb, s2, hcs⟩ : ∃ va vb s2, extP f p old (m - k) (n - k) false s1 = ((va, vb), s2) := ⟨_, _, _, rfl⟩
    have HCE : Hid (extP (f + 1) p old m n whole s = ((nodeH tv va, nodeH tv vb), s2)) := Lib.hid (by rw [HCR.out hik, hcs])
    have HAB : Hid (va.length = 32 ∧ vb.length = 32) := Lib.hid (by have := HC32.out (m - k) (n - k) false; rw [hcs] at this; exact this)
    have HCA : Hid (∀ W, EK w0 W Lb Mb Pb Lf Tb Cb (.slice A N c0) old s1 → Calls Tryd.prog 85 #[.int .i64 ((m : Int) - (k : Int)), .int .i64 ((n : Int) - (k : Int)), .bool false, .pointer (some ⟨Lf, 0, none⟩), .pointer (some ⟨Tb, 0, none⟩), .pointer (some ⟨Cb, 0, none⟩)] W fun e w' => e = .returned (.tuple #[hashV va, hashV vb]) ∧ TK w0 w' Lb Mb Pb (.slice A N c0) s2 ∧ Out (TF Lb Mb) W w') := Lib.hid (fun W hW => by
      have := HI.out (m - k) (n - k) false s1 W (by omega) (by omega) (by have := HF.out; omega) (by omega) HTV.out.2 hW
      rw [hcs, show ((n - k : Nat) : Int) = (n : Int) - (k : Int) by omega, show ((m - k : Nat) : Int) = (m : Int) - (k : Int) by omega] at this; exact this)
    have hwa : IntKind.i64.wrap ((n : Int) - (k : Int)) = (n : Int) - (k : Int) := by rw [IntWalk.i64_in _ (by omega)]
    have hwb : IntKind.i64.wrap ((m : Int) - (k : Int)) = (m : Int) - (k : Int) := by rw [IntWalk.i64_in _ (by omega)]
    have HSA := Lib.hid (hash_size HAB.out.1)
    have HSB := Lib.hid (hash_size HAB.out.2)
    have HSRA := Lib.hid (hash_size (show (nodeH tv va).length = 32 from sha_length _))
    have HSRB := Lib.hid (hash_size (show (nodeH tv vb).length = 32 from sha_length _))
    clear hcs HI HCL HCR HC32 HSP
    have k1 : w4.cell? ⟨Cb, 0, none⟩ = some (.func (.func 85) #[] #[.pointer (some ⟨Lf, 0, none⟩), .pointer (some ⟨Tb, 0, none⟩), .pointer (some ⟨Cb, 0, none⟩)]) := HE4.out.cb.cell 0 rfl
    go_wp2_with fail
    refine (HCA.out w4 HE4.out).mono ?_
    rintro e w5 ⟨rfl, ht5, ho5⟩
    have HE5 := Lib.hid (HE4.out.out ht5 ho5)
    have HO5 := Lib.hid (HO4.out.trans ho5)
    have H95 := Lib.hid (ho5.box H94.out HF9.out.1)
    have H105 := Lib.hid (ho5.box H104.out HF10.out.1)
    have H115 := Lib.hid (ho5.box HLD.out HF11.out.1)
    have HL5 : Hid (R9 < w5.heap.size ∧ R10 < w5.heap.size ∧ R11 < w5.heap.size) := Lib.hid ⟨H95.out.lt, H105.out.lt, H115.out.lt⟩
    clear ht5 ho5 k1 HE4 HO4 H94 H104 HLD HCA
    have hbz : Below w5.heap.size w5 ((w5.alloc (.cells (zer32.map encB).toArray 29)).alloc (.cells (zer32.map encB).toArray 29)) := ((Below.refl _ _).alloc (Nat.le_refl _) _).alloc (by simp) _
    have hza : ((w5.alloc (.cells (zer32.map encB).toArray 29)).alloc (.cells (zer32.map encB).toArray 29)).heap[w5.heap.size]? = some (.cells (zer32.map encB).toArray 29 (0, 0)) := by rw [Below.heap_alloc _ _ _ (by simp)]; exact heap_alloc_new w5 _
    have hzb : (((w5.alloc (.cells (zer32.map encB).toArray 29)).alloc (.cells (zer32.map encB).toArray 29)).setRow w5.heap.size (va.map encB).toArray).heap[w5.heap.size + 1]? = some (.cells (zer32.map encB).toArray 29 (0, 0)) := (setRow_other _ _ _ _ (by omega)).trans (heap_at (by simp))
    have HFA := Lib.hid (HE5.out.far (Nat.le_refl _))
    have HFB := Lib.hid (HE5.out.far (R := w5.heap.size + 1) (by omega))
    have HE6 := Lib.hid (((HE5.out.to hbz).setRow HFA.out.1 HFA.out.2.1 HFA.out.2.2 (va.map encB).toArray).setRow HFB.out.1 HFB.out.2.1 HFB.out.2.2 (vb.map encB).toArray)
    have HO6 : Hid (Out (TF Lb Mb) w ((((w5.alloc (.cells (zer32.map encB).toArray 29)).alloc (.cells (zer32.map encB).toArray 29)).setRow w5.heap.size (va.map encB).toArray).setRow (w5.heap.size + 1) (vb.map encB).toArray)) := Lib.hid (((HO5.out.trans (Out.of_below hbz)).setRow HO5.out.size _).setRow (by have := HO5.out.size; omega) _)
    have H96 := Lib.hid (abox_setRow (vs := (vb.map encB).toArray) (abox_setRow (vs := (va.map encB).toArray) (H95.out.to hbz) (Nat.ne_of_lt HL5.out.1)) (show R9 ≠ w5.heap.size + 1 by have := HL5.out; omega))
    have H106 := Lib.hid (abox_setRow (vs := (vb.map encB).toArray) (abox_setRow (vs := (va.map encB).toArray) (H105.out.to hbz) (Nat.ne_of_lt HL5.out.2.1)) (show R10 ≠ w5.heap.size + 1 by have := HL5.out; omega))
    have H116 := Lib.hid (abox_setRow (vs := (vb.map encB).toArray) (abox_setRow (vs := (va.map encB).toArray) (H115.out.to hbz) (Nat.ne_of_lt HL5.out.2.2)) (show R11 ≠ w5.heap.size + 1 by have := HL5.out; omega))
    have HA6 : Hid (ABox ((((w5.alloc (.cells (zer32.map encB).toArray 29)).alloc (.cells (zer32.map encB).toArray 29)).setRow w5.heap.size (va.map encB).toArray).setRow (w5.heap.size + 1) (vb.map encB).toArray) w5.heap.size 29 (va.map encB)) := Lib.hid (abox_setRow (setRow_heap _ _ _ _ _ _ hza) (by omega))
    have HB6 : Hid (ABox ((((w5.alloc (.cells (zer32.map encB).toArray 29)).alloc (.cells (zer32.map encB).toArray 29)).setRow w5.heap.size (va.map encB).toArray).setRow (w5.heap.size + 1) (vb.map encB).toArray) (w5.heap.size + 1) 29 (vb.map encB)) := Lib.hid (setRow_heap _ _ _ _ _ _ hzb)
    clear hbz HE5 HO5 H95 H105 H115 HFA HFB HL5
    go_upto_region 11 with (first
      | (refine wpList_store_row rfl 29 (.tmp 15) (.tmp 58) rfl w5.heap.size (va.map encB).toArray ?_ ?_ 29 (zer32.map encB).toArray hza (by rw [HSA.out]; kernel_rfl) (by rw [HZ.out, HSA.out]) (hash_all _) ?_; rfl; rfl)
      | (refine wpList_store_row rfl 29 (.tmp 16) (.tmp 59) rfl (w5.heap.size + 1) (vb.map encB).toArray ?_ ?_ 29 (zer32.map encB).toArray hzb (by rw [HSB.out]; kernel_rfl) (by rw [HZ.out, HSB.out]) (hash_all _) ?_; rfl; rfl)
      | fail)
    clear hza hzb
    generalize hw4 : World.setRow (World.setRow (World.alloc (World.alloc w5 _) _) _ _) _ _ = w6
    have hw5 : ((((w5.alloc (.cells (zer32.map encB).toArray 29)).alloc (.cells (zer32.map encB).toArray 29)).setRow w5.heap.size (va.map encB).toArray).setRow (w5.heap.size + 1) (vb.map encB).toArray) = w6 := hw4
    rw [hw5] at HE6 HO6 H96 H106 H116 HA6 HB6
    clear hw4 hw5
    generalize w5.heap.size + 1 = RB at *
    generalize w5.heap.size = RA at *
    refine wp_region_rely [2, 5] (fun i => if i = 2 then SP.val (hashV (nodeH tv va)) else if i = 5 then SP.val (hashV (nodeH tv vb)) else SP.any) 6 (by kernel_rfl) (by kernel_rfl) ?_
    intro T _ g hg hgm
    refine wpR_pure (by rfl) fun Kq hq => ?_
    refine wpQuiet_run (by rfl) (.agg (tv.map encB).toArray) ?_ (wpQuiet_nil ?_)
    · rintro _ ⟨d, rfl⟩
      exact exec_load_row 29 (.tmp 11) rfl R11 rfl 29 (tv.map encB).toArray (0, 0) _ (H116.out.to (hg d)) Tryd.underlying29 rfl (by rw [HTS.out]; kernel_rfl)
    simp only [Act.put, List.setIfInBounds_toArray, List.set_cons_zero, List.set_cons_succ]
    refine hq _ ?_
    clear hq Kq
    refine wpR_pure (by rfl) fun Kq hq => ?_
    refine wpQuiet_run (by rfl) (.agg (va.map encB).toArray) ?_ (wpQuiet_nil ?_)
    · rintro _ ⟨d, rfl⟩
      exact exec_load_row 29 (.tmp 15) rfl RA rfl 29 (va.map encB).toArray (0, 0) _ (HA6.out.to (hg d)) Tryd.underlying29 rfl (by rw [HSA.out]; kernel_rfl)
    simp only [Act.put, List.setIfInBounds_toArray, List.set_cons_zero, List.set_cons_succ]
    refine hq _ ?_
    clear hq Kq
    refine wpR_busy (by rfl) (by rfl) (fun d hG K Q hK => ?_) (fun v1 d hG hp Kr hr => ?_)
    · go_simp
      go_at_call 45
      refine (node_any tv va HTV.out.1 HAB.out.1 (g d) (HK.out.to (HE6.out.to (hg d)).t.b)).mono ?_
      rintro e W1 ⟨rfl, hb1⟩
      go_simp
      exact hK _ _ hb1 (rfl)
    obtain rfl : v1 = hashV (nodeH tv va) := hp
    (try clear hp); clear hG
    simp only [Act.put, List.setIfInBounds_toArray, List.set_cons_zero, List.set_cons_succ]
    refine hr _ ?_
    clear hr Kr
    refine wpR_pure (by rfl) fun Kq hq => ?_
    refine wpQuiet_run (by rfl) (.agg (tv.map encB).toArray) ?_ (wpQuiet_nil ?_)
    · rintro _ ⟨d, rfl⟩
      exact exec_load_row 29 (.tmp 11) rfl R11 rfl 29 (tv.map encB).toArray (0, 0) _ (H116.out.to (hg d)) Tryd.underlying29 rfl (by rw [HTS.out]; kernel_rfl)
    simp only [Act.put, List.setIfInBounds_toArray, List.set_cons_zero, List.set_cons_succ]
    refine hq _ ?_
    clear hq Kq
    refine wpR_pure (by rfl) fun Kq hq => ?_
    refine wpQuiet_run (by rfl) (.agg (vb.map encB).toArray) ?_ (wpQuiet_nil ?_)
    · rintro _ ⟨d, rfl⟩
      exact exec_load_row 29 (.tmp 16) rfl RB rfl 29 (vb.map encB).toArray (0, 0) _ (HB6.out.to (hg d)) Tryd.underlying29 rfl (by rw [HSB.out]; kernel_rfl)
    simp only [Act.put, List.setIfInBounds_toArray, List.set_cons_zero, List.set_cons_succ]
    refine hq _ ?_
    clear hq Kq
    refine wpR_busy (by rfl) (by rfl) (fun d hG K Q hK => ?_) (fun v2 d hG hp Kr hr => ?_)
    · go_simp
      go_at_call 45
      refine (node_any tv vb HTV.out.1 HAB.out.2 (g d) (HK.out.to (HE6.out.to (hg d)).t.b)).mono ?_
      rintro e W1 ⟨rfl, hb1⟩
      go_simp
      exact hK _ _ hb1 (rfl)
    obtain rfl : v2 = hashV (nodeH tv vb) := hp
    (try clear hp); clear hG
    simp only [Act.put, List.setIfInBounds_toArray, List.set_cons_zero, List.set_cons_succ]
    refine hr _ ?_
    clear hr Kr
    refine wpR_tail 2 (by rfl) (by rfl) (fun d hG => ?_)
    have HE7 := Lib.hid (HE6.out.to (hg d))
    have HO7 := Lib.hid (HO6.out.trans (Out.of_below (F := TF Lb Mb) (hg d)))
    have hq9 : (g d).heap[R9]? = some (.cells (zer32.map encB).toArray 29 (0, 0)) := H96.out.to (hg d)
    have hq10 : ((g d).setRow R9 ((nodeH tv va).map encB).toArray).heap[R10]? = some (.cells (zer32.map encB).toArray 29 (0, 0)) := (setRow_other _ R9 R10 _ (Ne.symm HRW2.out.2.2)).trans (H106.out.to (hg d))
    clear hG hg hgm
    generalize g d = w7 at *
    clear g
    refine wpAny_one (i := 6) (oi := _) rfl (by kernel_rfl) (by rfl) (fun K hK => ?_)
    refine wp_store_row 29 (.tmp 9) (.tmp 62) rfl R9 ((nodeH tv va).map encB).toArray ?_ ?_ 29 (zer32.map encB).toArray hq9 (by rw [HSRA.out]; kernel_rfl) (by rw [HSRA.out]; rfl) (hash_all _) ?_
    · rfl
    · rfl
    refine hK _ _ ?_
    clear hK K
    try simp only [Act.put, List.setIfInBounds_toArray, List.set_cons_zero, List.set_cons_succ]
    refine wpAny_one (i := 7) (oi := _) rfl (by kernel_rfl) (by rfl) (fun K hK => ?_)
    refine wp_store_row 29 (.tmp 10) (.tmp 65) rfl R10 ((nodeH tv vb).map encB).toArray ?_ ?_ 29 (zer32.map encB).toArray hq10 (by rw [HSRB.out]; kernel_rfl) (by rw [HSRB.out]; rfl) (hash_all _) ?_
    · rfl
    · rfl
    refine hK _ _ ?_
    clear hK K
    try simp only [Act.put, List.setIfInBounds_toArray, List.set_cons_zero, List.set_cons_succ]
    refine wpAny_done (by kernel_rfl) ?_ _
    unfold Exit.then
    go_wp2_with fail
    have HX10 := Lib.hid (setRow_heap (w7.setRow R9 ((nodeH tv va).map encB).toArray) R10 _ ((nodeH tv vb).map encB).toArray _ _ hq10)
    have HX9 : Hid (((w7.setRow R9 ((nodeH tv va).map encB).toArray).setRow R10 ((nodeH tv vb).map encB).toArray).heap[R9]? = some (.cells ((nodeH tv va).map encB).toArray 29 (0, 0))) := Lib.hid ((setRow_other _ R10 R9 _ HRW2.out.2.2).trans (setRow_heap w7 R9 _ ((nodeH tv va).map encB).toArray _ _ hq9))
    have HTE := Lib.hid ((HE7.out.setRow HF9.out.1 HF9.out.2.1 HF9.out.2.2 ((nodeH tv va).map encB).toArray).setRow HF10.out.1 HF10.out.2.1 HF10.out.2.2 ((nodeH tv vb).map encB).toArray).t
    have HOE := Lib.hid ((HO7.out.setRow HRW2.out.1 ((nodeH tv va).map encB).toArray).setRow HRW2.out.2.1 ((nodeH tv vb).map encB).toArray)
    exact bodyPost_ret (v := .tuple #[.agg ((nodeH tv va).map encB).toArray, .agg ((nodeH tv vb).map encB).toArray]) (results_two Tryd.results85 _ _ R9 R10 _ _ ((nodeH tv va).map encB).toArray ((nodeH tv vb).map encB).toArray (0, 0) (0, 0) _ rfl HX9.out rfl HX10.out Tryd.underlying29 rfl (by rw [HSRA.out]; kernel_rfl) (HSRB.out.trans HSRA.out.symm)) rfl ⟨by rw [HCE.out]; rfl, by rw [HCE.out]; exact HTE.out, HOE.out⟩
theorem ext_any (w0 : World) (Lb Mb Pb Lf Tb Cb : Nat) (A : Option Addr) (c0 N : Nat) (p : List H32) (old : List UInt8) (hl : old.length = 32) (hK : KLaid w0) (hs : Sl w0 (fun b => b < w0.heap.size) A c0 p) (hN : p.length = N) (hN2 : N ≤ 9223372036854775807) : ∀ (f m n : Nat) (whole : Bool) (s : Nat × Bool) (w : World), 1 ≤ m → m ≤ n → n ≤ f → n ≤ 65536 → s.1 ≤ N → EK w0 w Lb Mb Pb Lf Tb Cb (.slice A N c0) old s →
      Calls Tryd.prog 85 #[.int .i64 (m : Int), .int .i64 (n : Int), .bool whole, .pointer (some ⟨Lf, 0, none⟩), .pointer (some ⟨Tb, 0, none⟩), .pointer (some ⟨Cb, 0, none⟩)] w fun e w' => e = .returned (.tuple #[hashV (extP f p old m n whole s).1.1, hashV (extP f p old m n whole s).1.2]) ∧ TK w0 w' Lb Mb Pb (.slice A N c0) (extP f p old m n whole s).2 ∧ Out (TF Lb Mb) w w'
  | 0, m, n, _, _, _, h1, h2, h3, _, _, _ => by omega
  | f + 1, m, n, whole, s, w, h1, h2, h3, h4, h5, h => by
    by_cases hm : m = n
    · subst hm
      cases whole with
      | true =>
        rw [extP, if_pos ⟨rfl, rfl⟩]
        exact ext1_any w0 w Lb Mb Pb Lf Tb Cb m _ old s hl h
      | false =>
        rw [extP, if_neg (by simp), if_pos rfl]
        exact ext2_any w0 w Lb Mb Pb Lf Tb Cb m A c0 N p old _ s _ hs hN hN2 h5 rfl h
    · exact ext3_any f w0 w Lb Mb Pb Lf Tb Cb A c0 N p old hl hK hs hN hN2 (ext_any w0 Lb Mb Pb Lf Tb Cb A c0 N p old hl hK hs hN hN2 f) m n whole s h1 (by omega) h3 h4 h5 h
end Go.Proofs.YthcklfelofpffaaDoor
