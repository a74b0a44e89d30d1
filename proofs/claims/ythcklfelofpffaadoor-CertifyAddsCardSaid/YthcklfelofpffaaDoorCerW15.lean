/- The root of a tree of hash values. No condition but sizes and what the table holds. -/
import Derived.Test.YthcklfelofpffaaDoorCerW13
import Derived.Test.YthcklfelofpffaaDoorShelf
import Derived.Test.YthcklfelofpffaaDoorRegT
import Derived.Lib.ItoaNum
import Derived.Deep.MidRow
namespace Go.Proofs.YthcklfelofpffaaDoor
open Go.RowKit
/-- The greatest power of two that is less than n. -/
def splitN (n : Nat) : Nat := 2 ^ (Lib.bitLen (n - 1) - 1)
theorem splitN_bounds (n : Nat) (h2 : 2 ≤ n) (h : n ≤ 4611686018427387904) : 1 ≤ Lib.bitLen (n - 1) ∧ Lib.bitLen (n - 1) ≤ 62 ∧ 1 ≤ splitN n ∧ splitN n < n ∧ n ≤ 2 * splitN n := by
  obtain ⟨h1, h3, h4⟩ := Lib.bitLenAux_bounds 64 (n - 1) (by omega) (by omega)
  change 1 ≤ Lib.bitLen (n - 1) at h1
  change 2 ^ (Lib.bitLen (n - 1) - 1) ≤ n - 1 at h3
  change n - 1 < 2 ^ Lib.bitLen (n - 1) at h4
  have h5 := Lib.bitLen_le (n - 1) 62 (by omega) (by omega)
  have h6 : 2 ^ Lib.bitLen (n - 1) = 2 * 2 ^ (Lib.bitLen (n - 1) - 1) := by
    obtain ⟨j, hj⟩ : ∃ j, Lib.bitLen (n - 1) = j + 1 := ⟨Lib.bitLen (n - 1) - 1, by omega⟩
    rw [hj, Nat.pow_succ]; simp [Nat.mul_comm]
  unfold splitN
  refine ⟨h1, h5, Nat.one_le_two_pow, by omega, by omega⟩
theorem split_any (n : Nat) (h2 : 2 ≤ n) (h : n ≤ 1073741824) (w : World) : Calls Tryd.prog 62 #[.int .i64 (n : Int)] w fun e w' => e = .returned (.int .i64 (splitN n : Int)) ∧ w = w' := by
  obtain ⟨h1, h3, h4, h5, h6⟩ := splitN_bounds n h2 (by omega)
  have HL := bits_Len ((n : Int) - 1) w (by omega) (by omega)
  have e1 : ((n : Int) - 1).toNat = n - 1 := by omega
  rw [e1] at HL
  unfold splitN at h4 h5 h6 ⊢
  generalize Lib.bitLen (n - 1) = j at *
  have hn0 : (0 : Int) ≤ (n : Int) - 1 := by omega
  go_enter Tryd.func62, Tryd.ntmps62
  go_wp2_with (first | (go_at_call 87; refine HL.mono ?_; rintro e w' ⟨rfl, rfl⟩) | fail)
  have e2 : ((2 ^ (j - 1) : Nat) : Int) = (2 : Int) ^ (j - 1) := by push_cast; rfl
  go_ret
  refine ⟨ret_int ?_, rfl⟩
  rw [← e2]
  generalize 2 ^ (j - 1) = p at *
  unfold wrap64
  omega
def rootF : Nat → List H32 → List UInt8
  | 0, _ => sha []
  | f + 1, l => if l.length = 0 then sha [] else if l.length = 1 then ((l[0]?).map (·.l)).getD [] else nodeH (rootF f (l.take (splitN l.length))) (rootF f (l.drop (splitN l.length)))
/-- The root of the tree of some leaves. -/
def root (l : List H32) : List UInt8 := rootF l.length l
theorem rootF_fuel : ∀ (f g : Nat) (l : List H32), l.length ≤ f → l.length ≤ g → l.length ≤ 1073741824 → rootF f l = rootF g l
  | 0, 0, _, _, _, _ => rfl
  | 0, g + 1, l, h, _, _ => by rw [rootF, rootF, if_pos (by omega)]
  | f + 1, 0, l, _, h, _ => by rw [rootF, rootF, if_pos (by omega)]
  | f + 1, g + 1, l, hf, hg, hl => by
    rw [rootF, rootF]
    split
    · rfl
    · split
      · rfl
      · obtain ⟨_, _, h1, h2, _⟩ := splitN_bounds l.length (by omega) (by omega)
        rw [rootF_fuel f g _ (by rw [List.length_take]; omega) (by rw [List.length_take]; omega) (by rw [List.length_take]; omega),
          rootF_fuel f g (l.drop _) (by rw [List.length_drop]; omega) (by rw [List.length_drop]; omega) (by rw [List.length_drop]; omega)]
theorem root_node (l : List H32) (h2 : 2 ≤ l.length) (h : l.length ≤ 1073741824) : root l = nodeH (root (l.take (splitN l.length))) (root (l.drop (splitN l.length))) := by
  obtain ⟨_, _, h3, h4, _⟩ := splitN_bounds l.length h2 (by omega)
  obtain ⟨f, hf⟩ : ∃ f, l.length = f + 1 := ⟨l.length - 1, by omega⟩
  unfold root
  conv => lhs; rw [hf, rootF, if_neg (by omega), if_neg (by omega)]
  rw [rootF_fuel f _ (l.take _) (by rw [List.length_take]; omega) (Nat.le_refl _) (by rw [List.length_take]; omega),
    rootF_fuel f _ (l.drop _) (by rw [List.length_drop]; omega) (Nat.le_refl _) (by rw [List.length_drop]; omega)]
theorem rootF_length : ∀ (f : Nat) (l : List H32), (∀ x ∈ l, x.l.length = 32) → (rootF f l).length = 32
  | 0, _, _ => sha_length _
  | f + 1, l, h => by
    rw [rootF]
    split
    · exact sha_length _
    · split
      · obtain ⟨x, hx⟩ : ∃ x, l = [x] := List.length_eq_one_iff.1 (by assumption)
        subst hx
        exact h x (by simp)
      · exact sha_length _
theorem h32_len {w : World} {S : Nat → Prop} {A : Option Addr} {c : Nat} {l : List H32} (h : Sl w S A c l) : ∀ x ∈ l, x.l.length = 32 := by
  intro x hx
  obtain ⟨i, hi, rfl⟩ := List.getElem_of_mem hx
  obtain ⟨_, _, _, _, _, _, ⟨_, hl⟩, _⟩ := h.at_ hi
  exact hl
set_option maxRecDepth 100000 in
set_option maxHeartbeats 4000000 in
theorem root0_any (A : Option Addr) (c : Nat) (w : World) (hK : KLaid w) :
    Calls Tryd.prog 31 #[.slice A 0 c] w fun e w' => e = .returned (hashV (sha [])) ∧ Below w.heap.size w w' := by
  have HS := Lib.hid (sum_any [] none 0 0 (w.alloc (.cells (zer32.map encB).toArray 29)) (Sl.nil _ _ _ _ (by decide)) rfl (by simp) (hK.to ((Below.refl _ _).alloc (Nat.le_refl _) _)))
  have HR0 : Hid (ABox (w.alloc (.cells (zer32.map encB).toArray 29)) w.heap.size 29 (zer32.map encB)) := Lib.hid (heap_alloc_new w _)
  have HB0 : Hid (Below w.heap.size w (w.alloc (.cells (zer32.map encB).toArray 29))) := Lib.hid ((Below.refl _ _).alloc (Nat.le_refl _) _)
  go_enter Tryd.func31, Tryd.ntmps31
  go_upto_region 3 with (fail)
  generalize hw1 : World.alloc w _ = w1
  have hw2 : w.alloc (.cells (zer32.map encB).toArray 29) = w1 := hw1
  rw [hw2] at HS HR0 HB0
  clear hw1 hw2
  go_wp2_with fail

  refine HS.out.mono ?_
  rintro e w4 ⟨rfl, hb4⟩
  have HB4 := Lib.hid (below_setRow (HB0.out.trans (hb4.mono HB0.out.size)) (R := w.heap.size) (Nat.le_refl _) ((sha []).map encB).toArray)
  have hr4 : w4.heap[w.heap.size]? = some (.cells (zer32.map encB).toArray 29 (0, 0)) := HR0.out.to hb4
  have HX := Lib.hid (setRow_heap w4 w.heap.size _ ((sha []).map encB).toArray _ _ hr4)
  have HSZ := Lib.hid (hash_size (sha_length []))
  have HC1 := Lib.hid (hash_all (sha []))
  have HRZ : Hid ((zer32.map encB).toArray.size = 32) := Lib.hid rfl
  clear hb4 HR0 HB0 HS
  have HRE : Hid (hashV (sha []) = .agg ((sha []).map encB).toArray) := Lib.hid rfl
  unfold hashV
  generalize ((sha []).map encB).toArray = cs at *
  generalize (zer32.map encB).toArray = zs at *
  go_wp2_with (first
    | (refine wpList_store_row rfl 29 (.tmp 2) (.tmp 8) rfl w.heap.size cs rfl rfl 29 zs hr4 (by rw [HSZ.out]; kernel_rfl) (by rw [HRZ.out, HSZ.out]) HC1.out ?_)
    | fail)
  exact bodyPost_ret (v := .agg cs) (results_cell_row Tryd.results31 _ _ w.heap.size _ cs (0, 0) _ rfl HX.out Tryd.underlying29 rfl (by rw [HSZ.out]; kernel_rfl)) rfl ⟨by rw [HRE.out], HB4.out⟩
set_option maxRecDepth 100000 in
set_option maxHeartbeats 4000000 in
theorem root1_any (x : H32) (A : Option Addr) (c : Nat) (w : World) (hl : Sl w (fun b => b < w.heap.size) A c [x]) :
    Calls Tryd.prog 31 #[.slice A 1 c] w fun e w' => e = .returned (hashV x.l) ∧ Below w.heap.size w w' := by
  have hl1 := hl.to ((Below.refl w.heap.size w).alloc (Nat.le_refl _) (.cells (zer32.map encB).toArray 29))
  obtain ⟨b, o, rfl, _, hlt, hr, hxl⟩ := h32_at hl1 (k := 0) (by simp)
  simp only [Nat.zero_mul, Nat.add_zero, List.getElem_cons_zero] at hr hxl
  have hc1 := hl.2.1
  have hc2 := hl.1
  simp only [List.length_cons, List.length_nil, Nat.zero_add] at hc2
  unfold maxLen at hc1
  have HR0 : Hid (ABox (w.alloc (.cells (zer32.map encB).toArray 29)) w.heap.size 29 (zer32.map encB)) := Lib.hid (heap_alloc_new w _)
  have HB0 : Hid (Below w.heap.size w (w.alloc (.cells (zer32.map encB).toArray 29))) := Lib.hid ((Below.refl _ _).alloc (Nat.le_refl _) _)
  have HE := Lib.hid hr
  have HSZ := Lib.hid (hash_size hxl)
  have HSE : Hid ((x.l.map encB).length = 32) := Lib.hid (by rw [List.length_map, hxl])
  have HC1 := Lib.hid (hash_all x.l)
  have HRZ : Hid ((zer32.map encB).toArray.size = 32) := Lib.hid rfl
  have HRE : Hid (hashV x.l = .agg (x.l.map encB).toArray) := Lib.hid rfl
  clear hl hl1 hr hlt
  go_enter Tryd.func31, Tryd.ntmps31
  go_upto_region 1 with (fail)
  generalize hw1 : World.alloc w _ = w1
  have hw2 : w.alloc (.cells (zer32.map encB).toArray 29) = w1 := hw1
  rw [hw2] at HR0 HB0 HE
  clear hw1 hw2
  have HB4 := Lib.hid (below_setRow HB0.out (R := w.heap.size) (Nat.le_refl _) (x.l.map encB).toArray)
  have HX := Lib.hid (setRow_heap w1 w.heap.size _ (x.l.map encB).toArray _ _ HR0.out)
  have hr4 : w1.heap[w.heap.size]? = some (.cells (zer32.map encB).toArray 29 (0, 0)) := HR0.out
  clear HR0
  generalize hcs : (x.l.map encB) = cl at *
  generalize hcs2 : cl.toArray = cs at *
  generalize (zer32.map encB).toArray = zs at *
  go_wp2_with (first
    | (refine wpList_load_mid rfl 29 (.tmp 12) rfl b o ?_ cl _ ?_ Tryd.underlying29 ?_ ?_ ?_; rfl; exact HE.out; rfl; (rw [HSE.out]; kernel_rfl))
    | (refine wpList_store_row rfl 29 (.tmp 2) (.tmp 13) rfl w.heap.size cs ?_ ?_ 29 zs hr4 (by rw [HSZ.out]; kernel_rfl) (by rw [HRZ.out, HSZ.out]) HC1.out ?_; rfl; (show Value.agg cl.toArray = Value.agg cs; rw [hcs2]))
    | fail)
  exact bodyPost_ret (v := .agg cs) (results_cell_row Tryd.results31 _ _ w.heap.size _ cs (0, 0) _ rfl HX.out Tryd.underlying29 rfl (by rw [HSZ.out]; kernel_rfl)) rfl ⟨by rw [HRE.out], HB4.out⟩
theorem sl_drop32 {w : World} {S : Nat → Prop} {b o c : Nat} {l : List H32} (h : Sl w S (some ⟨b, o, none⟩) c l) (k : Nat) (hk : k < l.length) : Sl w S (some ⟨b, o + k * 32, none⟩) (c - k) (l.drop k) := by
  have hd := h.drop k (by omega)
  have hc : ¬ c = k := by have := h.1; omega
  have e : Option.map (fun x => x.add (k * Rep.size H32)) (some (⟨b, o, none⟩ : Addr)) = some ⟨b, o + k * 32, none⟩ := by rw [Option.map_some, addr_add]; rfl
  rw [if_neg hc, e] at hd
  exact hd
set_option maxRecDepth 100000 in
set_option maxHeartbeats 4000000 in
theorem root2_any (f : Nat) (ih : ∀ (l : List H32) (A : Option Addr) (n c : Nat) (w : World), l.length ≤ f → Sl w (fun b => b < w.heap.size) A c l → l.length = n → n ≤ 1073741824 → KLaid w →
      Calls Tryd.prog 31 #[.slice A n c] w fun e w' => e = .returned (hashV (rootF f l)) ∧ Below w.heap.size w w')
    (l : List H32) (A : Option Addr) (n c : Nat) (w : World) (hf : l.length ≤ f + 1) (hl : Sl w (fun b => b < w.heap.size) A c l) (hn : l.length = n) (h2 : 2 ≤ n) (hs : n ≤ 1073741824) (hK : KLaid w) :
    Calls Tryd.prog 31 #[.slice A n c] w fun e w' => e = .returned (hashV (rootF (f + 1) l)) ∧ Below w.heap.size w w' := by
  obtain ⟨_, _, h3, h4, _⟩ := splitN_bounds n h2 (by omega)
  have HSP := Lib.hid (split_any n h2 hs)
  have HLen := Lib.hid (h32_len hl)
  have HRQ : Hid (rootF (f + 1) l = nodeH (rootF f (l.take (splitN n))) (rootF f (l.drop (splitN n)))) := Lib.hid (by rw [rootF, if_neg (by omega), if_neg (by omega), hn])
  obtain ⟨b, o, rfl, _⟩ := hl.2.2 (by omega)
  have hnc : n ≤ c := by have := hl.1; omega
  have hcm : c ≤ 9223372036854775807 := by have := hl.2.1; unfold maxLen at this; omega
  have HR0 : Hid (ABox (w.alloc (.cells (zer32.map encB).toArray 29)) w.heap.size 29 (zer32.map encB)) := Lib.hid (heap_alloc_new w _)
  have HB0 : Hid (Below w.heap.size w (w.alloc (.cells (zer32.map encB).toArray 29))) := Lib.hid ((Below.refl _ _).alloc (Nat.le_refl _) _)
  have HL0 := Lib.hid (hl.to ((Below.refl w.heap.size w).alloc (Nat.le_refl _) (.cells (zer32.map encB).toArray 29)))
  have HK0 := Lib.hid (hK.to ((Below.refl w.heap.size w).alloc (Nat.le_refl _) (.cells (zer32.map encB).toArray 29)))
  have HI := Lib.hid ih
  have HF := Lib.hid hf
  have HN := Lib.hid hn
  clear ih hl hK hf hn
  generalize splitN n = k at *
  go_enter Tryd.func31, Tryd.ntmps31
  go_upto_region 1 with (fail)
  generalize hw1 : World.alloc w _ = w1
  have hw2 : w.alloc (.cells (zer32.map encB).toArray 29) = w1 := hw1
  rw [hw2] at HR0 HB0 HL0 HK0
  clear hw1 hw2
  go_upto_region 7 with (first
    | (go_at_call 62; refine (HSP.out _).mono ?_; rintro e w' ⟨rfl, rfl⟩)
    | fail)
  refine wp_region_tail rfl (by kernel_rfl) (by kernel_rfl) ?_
  intro T hT g hgb hgm
  obtain ⟨r1, hr1⟩ : ∃ r, r = rootF f (l.take k) := ⟨_, rfl⟩
  obtain ⟨r2, hr2⟩ : ∃ r, r = rootF f (l.drop k) := ⟨_, rfl⟩
  obtain ⟨r3, hr3⟩ : ∃ r, r = rootF (f + 1) l := ⟨_, rfl⟩
  have HR1 := Lib.hid hr1
  have HR2 := Lib.hid hr2
  have HR3 := Lib.hid hr3
  clear hr1 hr2 hr3
  have HT1 : Hid (∀ d, Calls Tryd.prog 31 #[.slice (some ⟨b, o, none⟩) k c] (g d) fun e w' => e = .returned (hashV r1) ∧ ∃ m, w' = g m) := Lib.hid (fun d => by
    refine (HI.out (l.take k) (some ⟨b, o, none⟩) k c (g d) (by have := HF.out; have := HN.out; rw [List.length_take]; omega) ((HL0.out.to (hgb d)).take k (by have := HN.out; omega)) (by have := HN.out; rw [List.length_take]; omega) (by omega) (HK0.out.to (hgb d))).mono ?_
    rintro e w' ⟨rfl, hb⟩
    exact ⟨by rw [HR1.out], hgm d w' hb⟩)
  have HT2 : Hid (∀ d, Calls Tryd.prog 31 #[.slice (some ⟨b, o + k * 32, none⟩) (n - k) (c - k)] (g d) fun e w' => e = .returned (hashV r2) ∧ ∃ m, w' = g m) := Lib.hid (fun d => by
    have hd := sl_drop32 (HL0.out.to (hgb d)) k (by have := HN.out; omega)
    refine (HI.out (l.drop k) (some ⟨b, o + k * 32, none⟩) (n - k) (c - k) (g d) (by have := HF.out; have := HN.out; rw [List.length_drop]; omega) hd (by have := HN.out; rw [List.length_drop]; omega) (by omega) (HK0.out.to (hgb d))).mono ?_
    rintro e w' ⟨rfl, hb⟩
    exact ⟨by rw [HR2.out], hgm d w' hb⟩)
  have HT3 : Hid (∀ d, Calls Tryd.prog 45 #[hashV r1, hashV r2] (g d) fun e w' => e = .returned (hashV r3) ∧ ∃ m, w' = g m) := Lib.hid (fun d => by
    rw [HR3.out, HRQ.out, HR1.out, HR2.out]
    refine (node_any _ _ (rootF_length _ _ fun x hx => HLen.out x (List.mem_of_mem_take hx)) (rootF_length _ _ fun x hx => HLen.out x (List.mem_of_mem_drop hx)) (g d) (HK0.out.to (hgb d))).mono ?_
    rintro e w' ⟨rfl, hb⟩
    exact ⟨rfl, hgm d w' hb⟩)
  have HRL := Lib.hid (rootF_length (f + 1) l HLen.out)
  have HGB := Lib.hid hgb
  clear hgb hgm HI HL0 HK0 HRQ
  have HRL2 : Hid (r3.length = 32) := Lib.hid (by rw [HR3.out]; exact HRL.out)
  clear HRL HR1 HR2
  dsimp only [List.dropLast]
  repeat (go_big_quiet_step (first
    | (go_at_call 31; with_reducible refine Calls.mono (HT1.out _) ?_; rintro e w6 ⟨rfl, hm⟩; exact ⟨rfl, hm⟩)
    | (go_at_call 31; with_reducible refine Calls.mono (HT2.out _) ?_; rintro e w6 ⟨rfl, hm⟩; exact ⟨rfl, hm⟩)
    | (go_at_call 45; with_reducible refine Calls.mono (HT3.out _) ?_; rintro e w6 ⟨rfl, hm⟩; exact ⟨rfl, hm⟩)))
  refine wpQuiet_nil ?_
  rintro _ ⟨d, rfl⟩
  refine ⟨rfl, ?_⟩
  have hr4 : (g d).heap[w.heap.size]? = some (.cells (zer32.map encB).toArray 29 (0, 0)) := HR0.out.to (HGB.out d)
  have HB4 := Lib.hid (below_setRow (HB0.out.trans ((HGB.out d).mono HB0.out.size)) (R := w.heap.size) (Nat.le_refl _) (r3.map encB).toArray)
  have HX := Lib.hid (setRow_heap (g d) w.heap.size _ (r3.map encB).toArray _ _ hr4)
  have HSZ := Lib.hid (hash_size HRL2.out)
  have HC1 := Lib.hid (hash_all r3)
  have HRZ : Hid ((zer32.map encB).toArray.size = 32) := Lib.hid rfl
  have HRE : Hid (hashV r3 = .agg (r3.map encB).toArray) := Lib.hid rfl
  have hrv : hashV r3 = .agg (r3.map encB).toArray := rfl
  rw [hrv]
  clear HT1 HT2 HT3 HGB hrv
  generalize (r3.map encB).toArray = cs at *
  generalize (zer32.map encB).toArray = zs at *
  refine wp_store_row 29 (.tmp 2) (.tmp 25) rfl w.heap.size cs ?_ ?_ 29 zs hr4 (by rw [HSZ.out]; kernel_rfl) (by rw [HRZ.out, HSZ.out]) HC1.out ?_
  · rfl
  · rfl
  unfold Exit.then
  go_wp2_with fail
  exact bodyPost_ret (v := .agg cs) (results_cell_row Tryd.results31 _ _ w.heap.size _ cs (0, 0) _ rfl HX.out Tryd.underlying29 rfl (by rw [HSZ.out]; kernel_rfl)) rfl ⟨by rw [← HR3.out, HRE.out], HB4.out⟩
theorem rootF_any (f : Nat) : ∀ (l : List H32) (A : Option Addr) (n c : Nat) (w : World), l.length ≤ f → Sl w (fun b => b < w.heap.size) A c l → l.length = n → n ≤ 1073741824 → KLaid w →
    Calls Tryd.prog 31 #[.slice A n c] w fun e w' => e = .returned (hashV (rootF f l)) ∧ Below w.heap.size w w' := by
  induction f with
  | zero =>
    intro l A n c w hf hl hn hs hK
    obtain rfl : n = 0 := by omega
    exact root0_any A c w hK
  | succ f ih =>
    intro l A n c w hf hl hn hs hK
    by_cases h0 : n = 0
    · subst h0
      have e : rootF (f + 1) l = sha [] := by rw [rootF, if_pos hn]
      rw [e]
      exact root0_any A c w hK
    · by_cases h1 : n = 1
      · subst h1
        obtain ⟨x, rfl⟩ : ∃ x, l = [x] := List.length_eq_one_iff.1 hn
        have e : rootF (f + 1) [x] = x.l := by rw [rootF, if_neg (by simp), if_pos (by simp)]; rfl
        rw [e]
        exact root1_any x A c w hl
      · exact root2_any f ih l A n c w hf hl hn (by omega) hs hK
theorem root_any (l : List H32) (A : Option Addr) (n c : Nat) (w : World) (hl : Sl w (fun b => b < w.heap.size) A c l) (hn : l.length = n) (hs : n ≤ 1073741824) (hK : KLaid w) :
    Calls Tryd.prog 31 #[.slice A n c] w fun e w' => e = .returned (hashV (root l)) ∧ Below w.heap.size w w' := rootF_any l.length l A n c w (Nat.le_refl _) hl hn hs hK
theorem root_length (l : List H32) (h : ∀ x ∈ l, x.l.length = 32) : (root l).length = 32 := rootF_length _ l h
theorem root_one (x : H32) : root [x] = x.l := by unfold root; rw [List.length_singleton, rootF, if_neg (by simp), if_pos (by simp)]; rfl
end Go.Proofs.YthcklfelofpffaaDoor
