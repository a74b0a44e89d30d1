/- A proof that a tree extends another one is verified: merkle.Extends, and Grown of certify. No condition but sizes and what the table holds.
What a growth makes of the root of the first leaves: the plain law of merkle.Extends. No condition but sizes.
What a path makes of a leaf, and a growth of a root: the program's taker and the reference's list are one. No condition but sizes.
The reference's climb of a path. No condition but sizes.
The reference's climb of a path: the step, and all of it. No condition but sizes.
The reference's Includes. No condition but sizes.
The reference's Check. No condition but sizes.
Two boxes of one's own that are each written once, in any order with operations that leave older memory alone: a relation between worlds, for wp_region_relyR. No condition. -/
import Derived.Test.YthcklfelofpffaaDoorCPd10
import Derived.Laws.EntriesVeiled
namespace Go.Proofs.YthcklfelofpffaaDoor
open Go.RowKit
/-- Whether a growth proves that a tree of n leaves extends one of m leaves. -/
def extendsP (old : List UInt8) (m : Int) (rt : List UInt8) (n : Int) (p : List H32) : Bool :=
  if m < 0 ∨ n < m ∨ 65536 < n then false
  else if m = 0 then decide (old = root []) && decide (p.length = 0) && (decide (0 < n) || decide (rt = old))
  else decide ((extP n.toNat p old m.toNat n.toNat true (p.length, false)).1.1 = old) && decide ((extP n.toNat p old m.toNat n.toNat true (p.length, false)).1.2 = rt) && decide ((extP n.toNat p old m.toNat n.toNat true (p.length, false)).2 = (0, false))
theorem hashE {l : List UInt8} {cs : Array Value} (h : (l.map encB).toArray = cs) : Value.agg cs = hashV l := by rw [← h]; rfl
theorem wpList_load_rowG {P : Program} {ops : Array Oper} {rest : List Oper} {o : Oper} {a : Act} {w : World} {Q : Exit → Act → World → Prop} (hw : Region.wanted o (yielded ops a.tmps) = true) (ty : TypeId) (x : Operand) (ho : o.op = .load ty x)
    (g : Nat) (hx : a.eval x = .pointer (some ⟨g, 0, none⟩)) (t : TypeId) (cs : Array Value) (fr : Nat × Nat) (d : TypeDesc) (hg : w.heap[g]? = some (.cells cs t fr))
    (hu : P.underlying ty = some d) (hd : (match d with | .struct _ | .array _ _ => true | _ => false) = true) (hi : (P.info? ty).map (·.size) = some cs.size)
    (h : wpList P ops Q rest (a.put o.dst (.agg cs)) w) : wpList P ops Q (o :: rest) a w :=
  BigFrame.wpList_want hw fun _ hK => wp_load_row ty x ho g hx t cs fr d hg hu hd hi (hK _ _ h)
theorem wpList_eqlHG {ops : Array Oper} {rest : List Oper} {o : Oper} {a : Act} {w : World} {Q : Exit → Act → World → Prop} (hw : Region.wanted o (yielded ops a.tmps) = true) (x y : Operand) (ho : o.op = .binOp .eql 29 x y 29) (l m : List UInt8) (hx : a.eval x = hashV l) (hy : a.eval y = hashV m) (hl : l.length = 32) (hm : m.length = 32)
    (h : wpList Tryd.prog ops Q rest (a.put o.dst (.bool (decide (l = m)))) w) : wpList Tryd.prog ops Q (o :: rest) a w :=
  BigFrame.wpList_want hw fun _ hK => wp_eqlH x y ho l m hx hy hl hm (hK _ _ h)
set_option maxRecDepth 100000 in
set_option maxHeartbeats 4000000 in
theorem extends_no (old rt : List UInt8) (m n : Int) (A : Option Addr) (c N : Nat) (p : List H32) (w : World) (h : m < 0 ∨ n < m ∨ 65536 < n) :
    Calls Tryd.prog 59 #[hashV old, .int .i64 m, hashV rt, .int .i64 n, .slice A N c] w fun e w' => e = .returned (.bool (extendsP old m rt n p)) ∧ Below w.heap.size w w' := by
  have HE : Hid (extendsP old m rt n p = false) := Lib.hid (if_pos h)
  have HB : Hid (Below w.heap.size w ((w.alloc (.cells (old.map encB).toArray 29)).alloc (.cells (rt.map encB).toArray 29))) := Lib.hid (((Below.refl _ _).alloc (Nat.le_refl _) _).alloc (by simp) _)
  unfold hashV
  generalize (old.map encB).toArray = rs at *
  generalize (rt.map encB).toArray = ls at *
  by_cases h1 : m < 0
  · go_enter Tryd.func59, Tryd.ntmps59
    go_wp2_with fail
    go_ret
    exact ⟨ret_bool HE.out.symm, HB.out⟩
  · by_cases h2 : n < m
    · go_enter Tryd.func59, Tryd.ntmps59
      go_wp2_with fail
      go_ret
      exact ⟨ret_bool HE.out.symm, HB.out⟩
    · have h3 : 65536 < n := by omega
      go_enter Tryd.func59, Tryd.ntmps59
      go_wp2_with fail
      go_ret
      exact ⟨ret_bool HE.out.symm, HB.out⟩
set_option maxRecDepth 100000 in
set_option maxHeartbeats 8000000 in
theorem extends_nil (old rt : List UInt8) (ho : old.length = 32) (hr : rt.length = 32) (n : Int) (A : Option Addr) (c N : Nat) (p : List H32) (w : World) (hn0 : 0 ≤ n) (hn : n ≤ 65536) (hN : p.length = N) (hN2 : N ≤ 9223372036854775807) (hK : KLaid w) :
    Calls Tryd.prog 59 #[hashV old, .int .i64 0, hashV rt, .int .i64 n, .slice A N c] w fun e w' => e = .returned (.bool (extendsP old 0 rt n p)) ∧ Below w.heap.size w w' := by
  obtain ⟨q1, hq1⟩ : ∃ q, decide (old = root []) = q := ⟨_, rfl⟩
  obtain ⟨q2, hq2⟩ : ∃ q, decide (N = 0) = q := ⟨_, rfl⟩
  obtain ⟨q3, hq3⟩ : ∃ q, decide (0 < n) = q := ⟨_, rfl⟩
  obtain ⟨q4, hq4⟩ : ∃ q, decide (rt = old) = q := ⟨_, rfl⟩
  have HE : Hid (extendsP old 0 rt n p = (q1 && q2 && (q3 || q4))) := Lib.hid (by unfold extendsP; rw [if_neg (by omega), if_pos rfl, hN, hq1, hq2, hq3, hq4])
  have HQ1 := Lib.hid hq1
  have HQ4 := Lib.hid hq4
  have HOL := Lib.hid ho
  have HRL := Lib.hid hr
  have HSO := Lib.hid (hash_size ho)
  have HSR := Lib.hid (hash_size hr)
  have HRN : Hid ((root []).length = 32) := Lib.hid (root_length _ (by simp))
  have HK := Lib.hid hK
  have hi3 : decide (0 < n) = q3 := hq3
  have hi2 : ((N : Int) == 0) = q2 := by
    rw [← hq2]
    by_cases h : N = 0
    · subst h; rfl
    · rw [decide_eq_false h, beq_eq_false_iff_ne]; omega
  have h1 : ¬ n < 0 := by omega
  have h2 : ¬ 65536 < n := by omega
  have HRT : Hid (∀ W, Below w.heap.size w W → Calls Tryd.prog 31 #[.slice none 0 0] W fun e w' => e = .returned (hashV (root [])) ∧ Below W.heap.size W w') := Lib.hid (fun W hW => root_any [] none 0 0 W (Sl.nil _ _ _ _ (by decide)) rfl (by decide) (hK.to hW))
  clear hq1 hq2 hq3 hq4 hK ho hr hN
  have HB0 : Hid (Below w.heap.size w ((w.alloc (.cells (old.map encB).toArray 29)).alloc (.cells (rt.map encB).toArray 29))) := Lib.hid (((Below.refl _ _).alloc (Nat.le_refl _) _).alloc (by simp) _)
  have HOB : Hid (ABox ((w.alloc (.cells (old.map encB).toArray 29)).alloc (.cells (rt.map encB).toArray 29)) w.heap.size 29 (old.map encB)) := Lib.hid (by unfold ABox; rw [Below.heap_alloc _ _ _ (by simp)]; exact heap_alloc_new w _)
  have HRB : Hid (ABox ((w.alloc (.cells (old.map encB).toArray 29)).alloc (.cells (rt.map encB).toArray 29)) (w.heap.size + 1) 29 (rt.map encB)) := Lib.hid (heap_at (by simp))
  unfold hashV
  go_enter Tryd.func59, Tryd.ntmps59
  go_upto_region 4 with (fail)
  generalize hw1 : World.alloc (World.alloc w _) _ = w1
  have hw2 : ((w.alloc (.cells (old.map encB).toArray 29)).alloc (.cells (rt.map encB).toArray 29)) = w1 := hw1
  rw [hw2] at HB0 HOB HRB
  clear hw1 hw2
  generalize w.heap.size + 1 = Rb at *
  obtain ⟨Ob, hOb⟩ : ∃ R, R = w.heap.size := ⟨_, rfl⟩
  rw [← hOb] at HOB ⊢
  have HOE := Lib.hid hOb
  clear hOb
  obtain ⟨csO, hcO⟩ : ∃ c, (old.map encB).toArray = c := ⟨_, rfl⟩
  have HOB2 : Hid (w1.heap[Ob]? = some (.cells csO 29 (0, 0))) := Lib.hid (hcO ▸ HOB.out)
  rw [hcO] at HSO ⊢
  have HCO := Lib.hid hcO
  clear hcO
  obtain ⟨csR, hcR⟩ : ∃ c, (rt.map encB).toArray = c := ⟨_, rfl⟩
  have HRB2 : Hid (w1.heap[Rb]? = some (.cells csR 29 (0, 0))) := Lib.hid (hcR ▸ HRB.out)
  rw [hcR] at HSR ⊢
  have HCR := Lib.hid hcR
  clear hcR
  have HLE : Hid (∀ d, Below w1.heap.size w1 d → d.heap[Ob]? = some (.cells csO 29 (0, 0)) ∧ d.heap[Rb]? = some (.cells csR 29 (0, 0))) := Lib.hid (fun d h => ⟨(h.block _ (Array.getElem?_eq_some_iff.1 HOB2.out).1).trans HOB2.out, (h.block _ (Array.getElem?_eq_some_iff.1 HRB2.out).1).trans HRB2.out⟩)
  obtain ⟨csN, hcN⟩ : ∃ c, ((root []).map encB).toArray = c := ⟨_, rfl⟩
  have HCN := Lib.hid hcN
  have hRN : hashV (root []) = .agg csN := (hashE hcN).symm
  rw [hRN] at HRT
  clear hRN hcN HOB HRB HOB2 HRB2
  rcases (show q1 = false ∨ (q1 = true ∧ q2 = false) ∨ (q1 = true ∧ q2 = true ∧ q3 = true) ∨ (q1 = true ∧ q2 = true ∧ q3 = false ∧ q4 = true) ∨ (q1 = true ∧ q2 = true ∧ q3 = false ∧ q4 = false) by cases q1 <;> cases q2 <;> cases q3 <;> cases q4 <;> simp) with rfl | ⟨rfl, rfl⟩ | ⟨rfl, rfl, rfl⟩ | ⟨rfl, rfl, rfl, rfl⟩ | ⟨rfl, rfl, rfl, rfl⟩
  all_goals
    refine wp_region_rely [1] (fun i => if i = 1 then SP.val (.agg csN) else SP.any) 18 (by kernel_rfl) (by kernel_rfl) ?_
    intro T _ g hg hgm
    repeat (refine wpR_pure (by rfl) fun Kq hq => ?_; first | (go_big_quiet_skip; refine wpQuiet_nil (hq _ ?_); clear hq Kq) | (refine wpQuiet_run (by rfl) (.agg csO) ?_ (wpQuiet_nil ?_); (rintro _ ⟨d, rfl⟩; exact exec_load_row 29 (.tmp 5) rfl Ob rfl 29 csO (0, 0) _ (HLE.out _ (hg d)).1 Tryd.underlying29 rfl (by rw [HSO.out]; kernel_rfl)); simp only [Act.put, List.setIfInBounds_toArray, List.set_cons_zero, List.set_cons_succ]; refine hq _ ?_; clear hq Kq) | (refine wpQuiet_run (by rfl) (.agg csR) ?_ (wpQuiet_nil ?_); (rintro _ ⟨d, rfl⟩; exact exec_load_row 29 (.tmp 7) rfl Rb rfl 29 csR (0, 0) _ (HLE.out _ (hg d)).2 Tryd.underlying29 rfl (by rw [HSR.out]; kernel_rfl)); simp only [Act.put, List.setIfInBounds_toArray, List.set_cons_zero, List.set_cons_succ]; refine hq _ ?_; clear hq Kq) | (refine wpQuiet_run (by rfl) (.bool true) ?_ (wpQuiet_nil ?_); (rintro _ ⟨d, rfl⟩; (refine exec_eqlH (.tmp 29) (.tmp 30) rfl old (root []) ?_ ?_ HOL.out HRN.out true HQ1.out; exact hashE HCO.out; exact hashE HCN.out)); simp only [Act.put, List.setIfInBounds_toArray, List.set_cons_zero, List.set_cons_succ]; refine hq _ ?_; clear hq Kq) | (refine wpQuiet_run (by rfl) (.bool true) ?_ (wpQuiet_nil ?_); (rintro _ ⟨d, rfl⟩; (refine exec_eqlH (.tmp 41) (.tmp 42) rfl rt old ?_ ?_ HRL.out HOL.out true HQ4.out; exact hashE HCR.out; exact hashE HCO.out)); simp only [Act.put, List.setIfInBounds_toArray, List.set_cons_zero, List.set_cons_succ]; refine hq _ ?_; clear hq Kq) | (refine wpQuiet_run (by rfl) (.bool false) ?_ (wpQuiet_nil ?_); (rintro _ ⟨d, rfl⟩; (refine exec_eqlH (.tmp 29) (.tmp 30) rfl old (root []) ?_ ?_ HOL.out HRN.out false HQ1.out; exact hashE HCO.out; exact hashE HCN.out)); simp only [Act.put, List.setIfInBounds_toArray, List.set_cons_zero, List.set_cons_succ]; refine hq _ ?_; clear hq Kq) | (refine wpQuiet_run (by rfl) (.bool false) ?_ (wpQuiet_nil ?_); (rintro _ ⟨d, rfl⟩; (refine exec_eqlH (.tmp 41) (.tmp 42) rfl rt old ?_ ?_ HRL.out HOL.out false HQ4.out; exact hashE HCR.out; exact hashE HCO.out)); simp only [Act.put, List.setIfInBounds_toArray, List.set_cons_zero, List.set_cons_succ]; refine hq _ ?_; clear hq Kq) | (go_big_quiet_step (fail); refine wpQuiet_nil (hq _ ?_); clear hq Kq))
    refine wpR_busy (by rfl) (by rfl) (fun d hG K Q hK => ?_) (fun v1 d hG hp Kr hr => ?_)
    · go_simp
      go_at_call 31
      refine (HRT.out _ ((HB0.out.trans ((hg d).mono HB0.out.size)))).mono ?_
      rintro e W1 ⟨rfl, hb1⟩
      go_simp
      exact hK _ _ hb1 (rfl)
    obtain rfl : v1 = .agg csN := hp
    (try clear hp); clear hG
    simp only [Act.put, List.setIfInBounds_toArray, List.set_cons_zero, List.set_cons_succ]
    refine hr _ ?_
    clear hr Kr
    repeat (refine wpR_pure (by rfl) fun Kq hq => ?_; first | (go_big_quiet_skip; refine wpQuiet_nil (hq _ ?_); clear hq Kq) | (refine wpQuiet_run (by rfl) (.agg csO) ?_ (wpQuiet_nil ?_); (rintro _ ⟨d, rfl⟩; exact exec_load_row 29 (.tmp 5) rfl Ob rfl 29 csO (0, 0) _ (HLE.out _ (hg d)).1 Tryd.underlying29 rfl (by rw [HSO.out]; kernel_rfl)); simp only [Act.put, List.setIfInBounds_toArray, List.set_cons_zero, List.set_cons_succ]; refine hq _ ?_; clear hq Kq) | (refine wpQuiet_run (by rfl) (.agg csR) ?_ (wpQuiet_nil ?_); (rintro _ ⟨d, rfl⟩; exact exec_load_row 29 (.tmp 7) rfl Rb rfl 29 csR (0, 0) _ (HLE.out _ (hg d)).2 Tryd.underlying29 rfl (by rw [HSR.out]; kernel_rfl)); simp only [Act.put, List.setIfInBounds_toArray, List.set_cons_zero, List.set_cons_succ]; refine hq _ ?_; clear hq Kq) | (refine wpQuiet_run (by rfl) (.bool true) ?_ (wpQuiet_nil ?_); (rintro _ ⟨d, rfl⟩; (refine exec_eqlH (.tmp 29) (.tmp 30) rfl old (root []) ?_ ?_ HOL.out HRN.out true HQ1.out; exact hashE HCO.out; exact hashE HCN.out)); simp only [Act.put, List.setIfInBounds_toArray, List.set_cons_zero, List.set_cons_succ]; refine hq _ ?_; clear hq Kq) | (refine wpQuiet_run (by rfl) (.bool true) ?_ (wpQuiet_nil ?_); (rintro _ ⟨d, rfl⟩; (refine exec_eqlH (.tmp 41) (.tmp 42) rfl rt old ?_ ?_ HRL.out HOL.out true HQ4.out; exact hashE HCR.out; exact hashE HCO.out)); simp only [Act.put, List.setIfInBounds_toArray, List.set_cons_zero, List.set_cons_succ]; refine hq _ ?_; clear hq Kq) | (refine wpQuiet_run (by rfl) (.bool false) ?_ (wpQuiet_nil ?_); (rintro _ ⟨d, rfl⟩; (refine exec_eqlH (.tmp 29) (.tmp 30) rfl old (root []) ?_ ?_ HOL.out HRN.out false HQ1.out; exact hashE HCO.out; exact hashE HCN.out)); simp only [Act.put, List.setIfInBounds_toArray, List.set_cons_zero, List.set_cons_succ]; refine hq _ ?_; clear hq Kq) | (refine wpQuiet_run (by rfl) (.bool false) ?_ (wpQuiet_nil ?_); (rintro _ ⟨d, rfl⟩; (refine exec_eqlH (.tmp 41) (.tmp 42) rfl rt old ?_ ?_ HRL.out HOL.out false HQ4.out; exact hashE HCR.out; exact hashE HCO.out)); simp only [Act.put, List.setIfInBounds_toArray, List.set_cons_zero, List.set_cons_succ]; refine hq _ ?_; clear hq Kq) | (go_big_quiet_step (fail); refine wpQuiet_nil (hq _ ?_); clear hq Kq))
    refine wpR_end (by kernel_rfl) (fun d hG => ?_) _
    have HBz := Lib.hid (HB0.out.trans ((hg d).mono HB0.out.size))
    have HBd := Lib.hid (hg d)
    clear hG hg hgm
    unfold Exit.then
    go_wp2_with fail
    go_ret
    exact ⟨ret_bool (by rw [HE.out]; simp), HOE.out ▸ HBz.out⟩
set_option maxRecDepth 100000 in
set_option maxHeartbeats 8000000 in
theorem extends_yes (old rt : List UInt8) (ho : old.length = 32) (hr : rt.length = 32) (m n : Nat) (A : Option Addr) (c N : Nat) (p : List H32) (w : World) (h1 : 1 ≤ m) (hmn : m ≤ n) (hn : n ≤ 65536) (hs : Sl w (fun b => b < w.heap.size) A c p) (hN : p.length = N) (hN2 : N ≤ 9223372036854775807) (hK : KLaid w) :
    Calls Tryd.prog 59 #[hashV old, .int .i64 (m : Int), hashV rt, .int .i64 (n : Int), .slice A N c] w fun e w' => e = .returned (.bool (extendsP old m rt n p)) ∧ Below w.heap.size w w' := by
  obtain ⟨va, vb, s2, hcs⟩ : ∃ va vb s2, extP n p old m n true (N, false) = ((va, vb), s2) := ⟨_, _, _, rfl⟩
  have HAB : Hid (va.length = 32 ∧ vb.length = 32) := Lib.hid (by have := extP_32 (h32_len hs) ho n m n true (N, false) (by simp only; omega); rw [hcs] at this; exact ⟨this.1, this.2.1⟩)
  obtain ⟨q1, hq1⟩ : ∃ q, decide (va = old) = q := ⟨_, rfl⟩
  obtain ⟨q2, hq2⟩ : ∃ q, decide (vb = rt) = q := ⟨_, rfl⟩
  have HE : Hid (extendsP old m rt n p = (q1 && q2 && decide (s2 = (0, false)))) := Lib.hid (by
    unfold extendsP
    rw [if_neg (by omega), if_neg (by omega), Int.toNat_natCast, Int.toNat_natCast, hN, hcs, hq1, hq2])
  have HQ1 := Lib.hid hq1
  have HQ2 := Lib.hid hq2
  have HCC := Lib.hid hcs
  have HOL := Lib.hid ho
  have HRL := Lib.hid hr
  have HSO := Lib.hid (hash_size ho)
  have HSR := Lib.hid (hash_size hr)
  have HSA := Lib.hid (hash_size HAB.out.1)
  have HSB := Lib.hid (hash_size HAB.out.2)
  have HZ : Hid ((zer32.map encB).toArray.size = 32) := Lib.hid rfl
  have HS := Lib.hid hs
  have HN := Lib.hid hN
  have HK := Lib.hid hK
  have HMN : Hid (1 ≤ m ∧ m ≤ n) := Lib.hid ⟨h1, hmn⟩
  have h1a : ¬ (m : Int) < 0 := by omega
  have h1b : ¬ (n : Int) < (m : Int) := by omega
  have h1c : ¬ (65536 : Int) < (n : Int) := by omega
  have h1d : ((m : Int) == 0) = false := by rw [beq_eq_false_iff_ne]; omega
  clear hq1 hq2 hcs ho hr hs hN hK hmn
  have HB0 : Hid (Below w.heap.size w ((w.alloc (.cells (old.map encB).toArray 29)).alloc (.cells (rt.map encB).toArray 29))) := Lib.hid (((Below.refl _ _).alloc (Nat.le_refl _) _).alloc (by simp) _)
  have HOB : Hid (ABox ((w.alloc (.cells (old.map encB).toArray 29)).alloc (.cells (rt.map encB).toArray 29)) w.heap.size 29 (old.map encB)) := Lib.hid (by unfold ABox; rw [Below.heap_alloc _ _ _ (by simp)]; exact heap_alloc_new w _)
  have HRB : Hid (ABox ((w.alloc (.cells (old.map encB).toArray 29)).alloc (.cells (rt.map encB).toArray 29)) (w.heap.size + 1) 29 (rt.map encB)) := Lib.hid (heap_at (by simp))
  unfold hashV
  go_enter Tryd.func59, Tryd.ntmps59
  go_upto_region 5 with (fail)
  generalize hw1 : World.alloc (World.alloc w _) _ = w1
  have hw2 : ((w.alloc (.cells (old.map encB).toArray 29)).alloc (.cells (rt.map encB).toArray 29)) = w1 := hw1
  rw [hw2] at HB0 HOB HRB
  clear hw1 hw2
  have HTA := Lib.hid (taker_any w1 A c N)
  have HS1 := Lib.hid (HS.out.to HB0.out)
  have HK1 := Lib.hid (HK.out.to HB0.out)
  have HSZ1 : Hid (w.heap.size + 1 < w1.heap.size) := Lib.hid HRB.out.lt
  go_wp2_with fail
  refine HTA.out.mono ?_
  rintro e w2 ⟨Lb, Mb, Pb, rfl, ht2⟩
  have hba : Below w2.heap.size w2 ((w2.alloc (.cells #[takeV Lb Mb Pb] 115)).alloc (.cells #[extV w.heap.size w2.heap.size (w2.heap.size + 1)] 123)) := ((Below.refl _ _).alloc (Nat.le_refl _) _).alloc (by simp) _
  have HB2 := Lib.hid (HB0.out.trans (ht2.b.mono HB0.out.size))
  have HBB := Lib.hid (HB2.out.trans (hba.mono HB2.out.size))
  have HRB2 := Lib.hid ((HRB.out.to ht2.b).to hba)
  have HTF : Hid (w1.heap.size ≤ Lb ∧ w1.heap.size ≤ Mb) := Lib.hid ⟨ht2.bl, ht2.bm⟩
  have HLM : Hid (Lb < w2.heap.size ∧ Mb < w2.heap.size ∧ w1.heap.size ≤ w2.heap.size) := Lib.hid ⟨ht2.l.lt, ht2.m.lt, ht2.bs⟩
  have HEK : Hid (EK w1 ((w2.alloc (.cells #[takeV Lb Mb Pb] 115)).alloc (.cells #[extV w.heap.size w2.heap.size (w2.heap.size + 1)] 123)) Lb Mb Pb w.heap.size w2.heap.size (w2.heap.size + 1) (.slice A N c) old (N, false)) := Lib.hid ⟨ht2.to hba, (HOB.out.to ht2.b).to hba, (by unfold ABox; rw [Below.heap_alloc _ _ _ (by simp)]; exact heap_alloc_new w2 _), heap_at (by simp),
    by have := HTF.out; have := HSZ1.out; rintro (h | h) <;> omega, by have := HLM.out; rintro (h | h) <;> omega, by have := HLM.out; rintro (h | h) <;> omega⟩
  have hTF : Hid (∀ g, TF Lb Mb g → w.heap.size ≤ g) := Lib.hid (by have := HTF.out; have := HSZ1.out; rintro g (h | h) <;> omega)
  have hRF : Hid (¬ TF Lb Mb (w.heap.size + 1)) := Lib.hid (by have := HTF.out; have := HSZ1.out; rintro (h | h) <;> omega)
  have HCA : Hid (∀ W, EK w1 W Lb Mb Pb w.heap.size w2.heap.size (w2.heap.size + 1) (.slice A N c) old (N, false) → Calls Tryd.prog 85 #[.int .i64 (m : Int), .int .i64 (n : Int), .bool true, .pointer (some ⟨w.heap.size, 0, none⟩), .pointer (some ⟨w2.heap.size, 0, none⟩), .pointer (some ⟨w2.heap.size + 1, 0, none⟩)] W fun e w' => e = .returned (.tuple #[hashV va, hashV vb]) ∧ TK w1 w' Lb Mb Pb (.slice A N c) s2 ∧ Out (TF Lb Mb) W w') := Lib.hid (fun W hW => by
    have := ext_any w1 Lb Mb Pb w.heap.size w2.heap.size (w2.heap.size + 1) A c N p old HOL.out HK1.out HS1.out HN.out hN2 n m n true (N, false) W HMN.out.1 HMN.out.2 (Nat.le_refl _) hn (Nat.le_refl _) hW
    rw [HCC.out] at this; exact this)
  clear ht2 hba
  unfold takeV doneV
  go_upto_region 8 with (fail)
  generalize hw5 : World.alloc (World.alloc w2 _) _ = w6
  have hw6 : ((w2.alloc (.cells #[takeV Lb Mb Pb] 115)).alloc (.cells #[extV w.heap.size w2.heap.size (w2.heap.size + 1)] 123)) = w6 := hw5
  rw [hw6] at HBB HRB2 HEK
  clear hw5 hw6 HTA HS1 HSZ1 HB2 HTF HLM HB0 HRB HOB
  generalize w2.heap.size + 1 = Cb at *
  generalize w2.heap.size = Tb at *
  generalize w.heap.size + 1 = Rb at *
  obtain ⟨Ob, hOb⟩ : ∃ R, R = w.heap.size := ⟨_, rfl⟩
  rw [← hOb] at HEK HCA ⊢
  have HOE := Lib.hid hOb
  clear hOb
  have k1 : w6.cell? ⟨Cb, 0, none⟩ = some (.func (.func 85) #[] #[.pointer (some ⟨Ob, 0, none⟩), .pointer (some ⟨Tb, 0, none⟩), .pointer (some ⟨Cb, 0, none⟩)]) := HEK.out.cb.cell 0 rfl
  go_wp2_with fail
  refine (HCA.out w6 HEK.out).mono ?_
  rintro e w5 ⟨rfl, ht5, ho5⟩
  have HE5 := Lib.hid (HEK.out.out ht5 ho5)
  have HB5 := Lib.hid (HBB.out.trans (ho5.below hTF.out HBB.out.size))
  have HR5 := Lib.hid (ho5.box HRB2.out hRF.out)
  have hbz : Below w5.heap.size w5 ((w5.alloc (.cells (zer32.map encB).toArray 29)).alloc (.cells (zer32.map encB).toArray 29)) := ((Below.refl _ _).alloc (Nat.le_refl _) _).alloc (by simp) _
  have hza : ((w5.alloc (.cells (zer32.map encB).toArray 29)).alloc (.cells (zer32.map encB).toArray 29)).heap[w5.heap.size]? = some (.cells (zer32.map encB).toArray 29 (0, 0)) := by rw [Below.heap_alloc _ _ _ (by simp)]; exact heap_alloc_new w5 _
  have hzb : (((w5.alloc (.cells (zer32.map encB).toArray 29)).alloc (.cells (zer32.map encB).toArray 29)).setRow w5.heap.size (va.map encB).toArray).heap[w5.heap.size + 1]? = some (.cells (zer32.map encB).toArray 29 (0, 0)) := (setRow_other _ _ _ _ (by omega)).trans (heap_at (by simp))
  have HFA := Lib.hid (HE5.out.far (Nat.le_refl _))
  have HFB := Lib.hid (HE5.out.far (R := w5.heap.size + 1) (by omega))
  have HE6 := Lib.hid (((HE5.out.to hbz).setRow HFA.out.1 HFA.out.2.1 HFA.out.2.2 (va.map encB).toArray).setRow HFB.out.1 HFB.out.2.1 HFB.out.2.2 (vb.map encB).toArray)
  have hb6 : Below w5.heap.size w5 ((((w5.alloc (.cells (zer32.map encB).toArray 29)).alloc (.cells (zer32.map encB).toArray 29)).setRow w5.heap.size (va.map encB).toArray).setRow (w5.heap.size + 1) (vb.map encB).toArray) := below_setRow (below_setRow hbz (Nat.le_refl _) _) (by omega) _
  have HB6 := Lib.hid (HB5.out.trans (hb6.mono HB5.out.size))
  have HR6 := Lib.hid (HR5.out.to hb6)
  have HA6 : Hid (ABox ((((w5.alloc (.cells (zer32.map encB).toArray 29)).alloc (.cells (zer32.map encB).toArray 29)).setRow w5.heap.size (va.map encB).toArray).setRow (w5.heap.size + 1) (vb.map encB).toArray) w5.heap.size 29 (va.map encB)) := Lib.hid (abox_setRow (setRow_heap _ _ _ _ _ _ hza) (by omega))
  have HC6 : Hid (ABox ((((w5.alloc (.cells (zer32.map encB).toArray 29)).alloc (.cells (zer32.map encB).toArray 29)).setRow w5.heap.size (va.map encB).toArray).setRow (w5.heap.size + 1) (vb.map encB).toArray) (w5.heap.size + 1) 29 (vb.map encB)) := Lib.hid (setRow_heap _ _ _ _ _ _ hzb)
  clear ht5 ho5 hbz hb6 k1 HEK HBB HRB2 HCA HE5 HB5 HR5 HFA HFB
  go_upto_region 9 with (first
    | (refine wpList_store_row rfl 29 (.tmp 14) (.tmp 57) rfl w5.heap.size (va.map encB).toArray ?_ ?_ 29 (zer32.map encB).toArray hza (by rw [HSA.out]; kernel_rfl) (by rw [HZ.out, HSA.out]) (hash_all _) ?_; rfl; rfl)
    | (refine wpList_store_row rfl 29 (.tmp 15) (.tmp 58) rfl (w5.heap.size + 1) (vb.map encB).toArray ?_ ?_ 29 (zer32.map encB).toArray hzb (by rw [HSB.out]; kernel_rfl) (by rw [HZ.out, HSB.out]) (hash_all _) ?_; rfl; rfl)
    | fail)
  clear hza hzb
  generalize hw4 : World.setRow (World.setRow (World.alloc (World.alloc w5 _) _) _ _) _ _ = w7
  have hw5 : ((((w5.alloc (.cells (zer32.map encB).toArray 29)).alloc (.cells (zer32.map encB).toArray 29)).setRow w5.heap.size (va.map encB).toArray).setRow (w5.heap.size + 1) (vb.map encB).toArray) = w7 := hw4
  rw [hw5] at HE6 HB6 HR6 HA6 HC6
  clear hw4 hw5
  generalize w5.heap.size + 1 = RB at *
  generalize w5.heap.size = RA at *
  have HTD := Lib.hid (tdone_any w1 w7 Lb Mb Pb _ s2 HE6.out.t)
  have l1 := HA6.out
  have l2 := HE6.out.lf
  have l3 := HC6.out
  have l4 := HR6.out
  unfold ABox at l1 l2 l3 l4
  obtain ⟨csA, hcA⟩ : ∃ c, (va.map encB).toArray = c := ⟨_, rfl⟩
  rw [hcA] at l1 HSA
  try rw [hcA]
  try rw [show hashV va = .agg csA from (hashE hcA).symm]
  have HCA := Lib.hid hcA
  clear hcA
  obtain ⟨csB, hcB⟩ : ∃ c, (vb.map encB).toArray = c := ⟨_, rfl⟩
  rw [hcB] at l3 HSB
  try rw [hcB]
  try rw [show hashV vb = .agg csB from (hashE hcB).symm]
  have HCB := Lib.hid hcB
  clear hcB
  obtain ⟨csO, hcO⟩ : ∃ c, (old.map encB).toArray = c := ⟨_, rfl⟩
  rw [hcO] at l2 HSO
  try rw [hcO]
  try rw [show hashV old = .agg csO from (hashE hcO).symm]
  have HCO := Lib.hid hcO
  clear hcO
  obtain ⟨csR, hcR⟩ : ∃ c, (rt.map encB).toArray = c := ⟨_, rfl⟩
  rw [hcR] at l4 HSR
  try rw [hcR]
  try rw [show hashV rt = .agg csR from (hashE hcR).symm]
  have HCR := Lib.hid hcR
  clear hcR
  rcases (show q1 = false ∨ (q1 = true ∧ q2 = false) ∨ (q1 = true ∧ q2 = true) by cases q1 <;> cases q2 <;> simp) with rfl | ⟨rfl, rfl⟩ | ⟨rfl, rfl⟩
  · go_wp2_with (first
      | (refine wpList_load_row rfl 29 (.tmp 14) rfl RA ?_ 29 csA (0, 0) _ l1 Tryd.underlying29 ?_ ?_ ?_; rfl; rfl; (rw [HSA.out]; kernel_rfl))
      | (refine wpList_load_row rfl 29 (.tmp 5) rfl Ob ?_ 29 csO (0, 0) _ l2 Tryd.underlying29 ?_ ?_ ?_; rfl; rfl; (rw [HSO.out]; kernel_rfl))
      | (refine wpList_eqlH rfl (.tmp 59) (.tmp 60) rfl va old ?_ ?_ HAB.out.1 HOL.out ?_; exact hashE HCA.out; exact hashE HCO.out; rw [HQ1.out])
      | fail)
    go_ret
    exact ⟨ret_bool (by rw [HE.out]; simp), HOE.out ▸ HB6.out⟩
  · go_wp2_with (first
      | (refine wpList_load_row rfl 29 (.tmp 14) rfl RA ?_ 29 csA (0, 0) _ l1 Tryd.underlying29 ?_ ?_ ?_; rfl; rfl; (rw [HSA.out]; kernel_rfl))
      | (refine wpList_load_row rfl 29 (.tmp 5) rfl Ob ?_ 29 csO (0, 0) _ l2 Tryd.underlying29 ?_ ?_ ?_; rfl; rfl; (rw [HSO.out]; kernel_rfl))
      | (refine wpList_eqlH rfl (.tmp 59) (.tmp 60) rfl va old ?_ ?_ HAB.out.1 HOL.out ?_; exact hashE HCA.out; exact hashE HCO.out; rw [HQ1.out])
      | (refine wpList_load_rowG (by kernel_rfl) 29 (.tmp 15) rfl RB ?_ 29 csB (0, 0) _ l3 Tryd.underlying29 ?_ ?_ ?_; rfl; rfl; (rw [HSB.out]; kernel_rfl))
      | (refine wpList_load_rowG (by kernel_rfl) 29 (.tmp 7) rfl Rb ?_ 29 csR (0, 0) _ l4 Tryd.underlying29 ?_ ?_ ?_; rfl; rfl; (rw [HSR.out]; kernel_rfl))
      | (refine wpList_eqlHG (by kernel_rfl) (.tmp 63) (.tmp 64) rfl vb rt ?_ ?_ HAB.out.2 HRL.out ?_; exact hashE HCB.out; exact hashE HCR.out; rw [HQ2.out])
      | fail)
    go_ret
    exact ⟨ret_bool (by rw [HE.out]; simp), HOE.out ▸ HB6.out⟩
  · go_wp2_with (first
      | (refine wpList_load_row rfl 29 (.tmp 14) rfl RA ?_ 29 csA (0, 0) _ l1 Tryd.underlying29 ?_ ?_ ?_; rfl; rfl; (rw [HSA.out]; kernel_rfl))
      | (refine wpList_load_row rfl 29 (.tmp 5) rfl Ob ?_ 29 csO (0, 0) _ l2 Tryd.underlying29 ?_ ?_ ?_; rfl; rfl; (rw [HSO.out]; kernel_rfl))
      | (refine wpList_eqlH rfl (.tmp 59) (.tmp 60) rfl va old ?_ ?_ HAB.out.1 HOL.out ?_; exact hashE HCA.out; exact hashE HCO.out; rw [HQ1.out])
      | (refine wpList_load_rowG (by kernel_rfl) 29 (.tmp 15) rfl RB ?_ 29 csB (0, 0) _ l3 Tryd.underlying29 ?_ ?_ ?_; rfl; rfl; (rw [HSB.out]; kernel_rfl))
      | (refine wpList_load_rowG (by kernel_rfl) 29 (.tmp 7) rfl Rb ?_ 29 csR (0, 0) _ l4 Tryd.underlying29 ?_ ?_ ?_; rfl; rfl; (rw [HSR.out]; kernel_rfl))
      | (refine wpList_eqlHG (by kernel_rfl) (.tmp 63) (.tmp 64) rfl vb rt ?_ ?_ HAB.out.2 HRL.out ?_; exact hashE HCB.out; exact hashE HCR.out; rw [HQ2.out])
      | fail)
    refine HTD.out.mono ?_
    rintro e w8 ⟨rfl, rfl⟩
    go_wp2_with fail
    go_ret
    exact ⟨ret_bool (by rw [HE.out]; simp), HOE.out ▸ HB6.out⟩
theorem extends_any (old rt : List UInt8) (ho : old.length = 32) (hr : rt.length = 32) (m n : Int) (A : Option Addr) (c N : Nat) (p : List H32) (w : World) (hs : Sl w (fun b => b < w.heap.size) A c p) (hN : p.length = N) (hN2 : N ≤ 9223372036854775807) (hK : KLaid w) :
    Calls Tryd.prog 59 #[hashV old, .int .i64 m, hashV rt, .int .i64 n, .slice A N c] w fun e w' => e = .returned (.bool (extendsP old m rt n p)) ∧ Below w.heap.size w w' := by
  by_cases h : m < 0 ∨ n < m ∨ 65536 < n
  · exact extends_no old rt m n A c N p w h
  · by_cases h0 : m = 0
    · subst h0
      exact extends_nil old rt ho hr n A c N p w (by omega) (by omega) hN hN2 hK
    · obtain ⟨m', rfl⟩ : ∃ k : Nat, m = (k : Int) := ⟨m.toNat, by omega⟩
      obtain ⟨n', rfl⟩ : ∃ k : Nat, n = (k : Int) := ⟨n.toNat, by omega⟩
      exact extends_yes old rt ho hr m' n' A c N p w (by omega) (by omega) (by omega) hs hN hN2 hK
set_option maxRecDepth 100000 in
set_option maxHeartbeats 4000000 in
theorem grown_any (m n : Int) (ro rt : List UInt8) (ho : ro.length = 32) (hr : rt.length = 32) (A : Option Addr) (c N : Nat) (p : List H32) (w : World) (hs : Sl w (fun b => b < w.heap.size) A c p) (hN : p.length = N) (hN2 : N ≤ 9223372036854775807) (hK : KLaid w) :
    Calls Tryd.prog 29 #[headV m ro, headV n rt, .slice A N c] w fun e w' => e = .returned (.bool (extendsP ro m rt n p)) ∧ Below w.heap.size w w' := by
  have hba : Below w.heap.size w ((w.alloc (.cells (headL m ro).toArray 40)).alloc (.cells (headL n rt).toArray 40)) := ((Below.refl _ _).alloc (Nat.le_refl _) _).alloc (by simp) _
  have HX1 : Hid (ABox ((w.alloc (.cells (headL m ro).toArray 40)).alloc (.cells (headL n rt).toArray 40)) w.heap.size 40 (headL m ro)) := Lib.hid (by unfold ABox; rw [Below.heap_alloc _ _ _ (by simp)]; exact heap_alloc_new w _)
  have HX2 : Hid (ABox ((w.alloc (.cells (headL m ro).toArray 40)).alloc (.cells (headL n rt).toArray 40)) (w.heap.size + 1) 40 (headL n rt)) := Lib.hid (heap_at (by simp))
  have HEX := Lib.hid (extends_any ro rt ho hr m n A c N p _ (hs.to hba) hN hN2 (hK.to hba))
  have HB := Lib.hid hba
  clear hba hs hK hN
  have HRM : Hid ((ro.map encB).length = 32) := Lib.hid (by rw [List.length_map, ho])
  have HRN : Hid ((rt.map encB).length = 32) := Lib.hid (by rw [List.length_map, hr])
  have HR1 : Hid (((w.alloc (.cells (headL m ro).toArray 40)).alloc (.cells (headL n rt).toArray 40)).rangeAt w.heap.size 1 (ro.map encB)) := Lib.hid (fun j v hv => by
    rw [Nat.add_comm]
    exact HX1.out.cell (j + 1) (by unfold headL; rw [List.getElem?_cons_succ]; exact hv))
  have HR2 : Hid (((w.alloc (.cells (headL m ro).toArray 40)).alloc (.cells (headL n rt).toArray 40)).rangeAt (w.heap.size + 1) 1 (rt.map encB)) := Lib.hid (fun j v hv => by
    rw [Nat.add_comm 1 j]
    exact HX2.out.cell (j + 1) (by unfold headL; rw [List.getElem?_cons_succ]; exact hv))
  clear ho hr
  unfold headV
  go_enter Tryd.func29, Tryd.ntmps29
  go_upto_region 1 with (fail)
  generalize hw1 : World.alloc (World.alloc w _) _ = w1
  have hw2 : ((w.alloc (.cells (headL m ro).toArray 40)).alloc (.cells (headL n rt).toArray 40)) = w1 := hw1
  rw [hw2] at HX1 HX2 HB HEX HR1 HR2
  clear hw1 hw2
  have k0 := HX1.out.cell 0 rfl
  have k1 := HX2.out.cell 0 rfl
  go_wp2_with (first
    | (refine wpList_load_mid rfl 29 (.tmp 7) rfl w.heap.size 1 ?_ (ro.map encB) _ HR1.out Tryd.underlying29 ?_ ?_ ?_; rfl; rfl; (rw [HRM.out]; kernel_rfl))
    | (refine wpList_load_mid rfl 29 (.tmp 11) rfl (w.heap.size + 1) 1 ?_ (rt.map encB) _ HR2.out Tryd.underlying29 ?_ ?_ ?_; rfl; rfl; (rw [HRN.out]; kernel_rfl))
    | fail)
  refine HEX.out.mono ?_
  rintro e w2 ⟨rfl, hb2⟩
  have HB2 := Lib.hid (HB.out.trans (hb2.mono HB.out.size))
  clear hb2
  go_wp2_with fail
  go_ret
  exact ⟨rfl, HB2.out⟩
end Go.Proofs.YthcklfelofpffaaDoor
namespace Go.Proofs.YthcklfelofpffaaDoor
theorem splitN_pow (n : Nat) : ∃ j, splitN n = 2 ^ j := ⟨_, rfl⟩
theorem splitN_part (n m : Nat) (h2 : 2 ≤ n) (h : n ≤ 1073741824) (h1 : splitN n < m) (h3 : m ≤ n) : splitN m = splitN n := by
  obtain ⟨_, _, h4, h5, h6⟩ := splitN_bounds n h2 (by omega)
  obtain ⟨j, hj⟩ := splitN_pow n
  rw [hj] at h4 h5 h6 h1 ⊢
  exact splitN_eq m j (by omega) (by omega) h1 (by omega)
theorem extP_grow (P : List H32) : ∀ (f m : Nat) (l : List H32) (whole : Bool) (old : List UInt8) (j : Nat) (pre : List H32), l.length ≤ f → l.length ≤ 1073741824 → 1 ≤ m → m ≤ l.length → (whole = true → old = root (l.take m)) →
    j = pre.length → P.take (j + (growF f m l whole).length) = pre ++ growF f m l whole → extP f P old m l.length whole (j + (growF f m l whole).length, false) = ((root (l.take m), root l), (j, false))
  | 0, m, l, _, _, _, _, h1, _, h2, h3, _, _, _ => by omega
  | f + 1, m, l, whole, old, j, pre, hf, hs, h1, h2, ho, hj, hp => by
    have take1 : ∀ (X : List H32) (x : List UInt8) (s : Nat × Bool), s = (j + (X ++ [(⟨x⟩ : H32)]).length, false) → P.take (j + (X ++ [(⟨x⟩ : H32)]).length) = pre ++ (X ++ [⟨x⟩]) → takeP P s = (x, (j + X.length, false)) ∧ P.take (j + X.length) = pre ++ X := by
      intro X x s hs' hX
      subst hs'
      rw [List.length_append, List.length_singleton] at hX ⊢
      have hlen : j + X.length < P.length := by
        have := congrArg List.length hX
        rw [List.length_take, List.length_append, List.length_append, List.length_singleton] at this
        omega
      have h3 : P[j + X.length] = ⟨x⟩ := by
        have h4 : (P.take (j + (X.length + 1)))[j + X.length]? = (pre ++ (X ++ [(⟨x⟩ : H32)]))[j + X.length]? := by rw [hX]
        rw [List.getElem?_take, if_pos (by omega), List.getElem?_eq_getElem hlen, List.getElem?_append_right (by omega), List.getElem?_append_right (by omega), show j + X.length - pre.length - X.length = 0 by omega] at h4
        simpa using h4
      refine ⟨?_, ?_⟩
      · unfold takeP
        rw [if_neg (by simp only; omega)]
        simp only
        rw [show j + (X.length + 1) - 1 = j + X.length by omega, hAt_eq P _ hlen, h3]
      · have h5 : (P.take (j + (X.length + 1))).take (j + X.length) = (pre ++ (X ++ [(⟨x⟩ : H32)])).take (j + X.length) := by rw [hX]
        rw [List.take_take, Nat.min_eq_left (by omega), hj, List.take_length_add_append, List.take_append_of_le_length (by omega), List.take_length] at h5
        rw [hj]; exact h5
    rw [extP]
    rw [growF] at hp ⊢
    by_cases hm : m = l.length
    · rw [if_pos hm] at hp ⊢
      have htk : l.take m = l := by rw [hm, List.take_length]
      cases whole with
      | true =>
        rw [if_pos rfl] at hp ⊢
        rw [if_pos ⟨hm, rfl⟩, ho rfl, htk]
        rfl
      | false =>
        have e0 : (if false = true then [] else [(⟨root l⟩ : H32)]) = [⟨root l⟩] := if_neg (by decide)
        rw [e0] at hp ⊢
        obtain ⟨t1, _⟩ := take1 [] (root l) _ rfl (by rw [List.nil_append]; exact hp)
        rw [if_neg (show ¬ (m = l.length ∧ false = true) by simp), if_pos hm]
        rw [List.nil_append] at t1
        rw [t1, htk]
        rfl
    · rw [if_neg hm] at hp ⊢
      rw [if_neg (by omega), if_neg hm]
      obtain ⟨_, _, k1, k2, k3⟩ := splitN_bounds l.length (by omega) (by omega)
      by_cases hk : m ≤ splitN l.length
      · rw [if_pos hk] at hp ⊢
        rw [if_pos hk]
        obtain ⟨t1, t2⟩ := take1 _ _ _ rfl hp
        have hlen : (l.take (splitN l.length)).length = splitN l.length := by rw [List.length_take]; omega
        have htt : (l.take (splitN l.length)).take m = l.take m := by rw [List.take_take, Nat.min_eq_left hk]
        have ih := extP_grow P f m (l.take (splitN l.length)) whole old j pre (by omega) (by omega) h1 (by omega) (by rw [htt]; exact ho) hj t2
        rw [hlen, htt] at ih
        rw [t1]
        dsimp only
        rw [ih, root_node l (by omega) hs]
      · rw [if_neg hk] at hp ⊢
        rw [if_neg hk]
        obtain ⟨t1, t2⟩ := take1 _ _ _ rfl hp
        have hlen : (l.drop (splitN l.length)).length = l.length - splitN l.length := by rw [List.length_drop]
        have ih := extP_grow P f (m - splitN l.length) (l.drop (splitN l.length)) false old j pre (by omega) (by omega) (by omega) (by omega) (by simp) hj t2
        rw [hlen] at ih
        have hsm := splitN_part l.length m (by omega) hs (by omega) h2
        have hlm : (l.take m).length = m := by rw [List.length_take]; omega
        have hr : root (l.take m) = nodeH (root (l.take (splitN l.length))) (root ((l.drop (splitN l.length)).take (m - splitN l.length))) := by
          rw [root_node (l.take m) (by omega) (by omega), hlm, hsm, List.take_take, Nat.min_eq_left (by omega), List.drop_take]
        rw [t1]
        dsimp only
        rw [ih, root_node l (by omega) hs, hr]
/-- A ledger extends its first leaves, by its growth. -/
theorem extends_growth (l : List H32) (m : Nat) (h : m ≤ l.length) (hs : l.length ≤ 65536) : extendsP (root (l.take m)) m (root l) l.length (growthP l m) = true := by
  unfold extendsP
  rw [if_neg (by omega)]
  by_cases h0 : m = 0
  · subst h0
    have hg : growthP l ((0 : Nat) : Int) = [] := if_pos (.inr (.inr rfl))
    rw [if_pos (show ((0 : Nat) : Int) = 0 from rfl), hg, List.take_zero]
    cases l with
    | nil => simp
    | cons x l => simp
  · rw [if_neg (by omega), Int.toNat_natCast, Int.toNat_natCast]
    have hg : growthP l (m : Int) = growF l.length m l true := by
      unfold growthP; rw [if_neg (by omega), Int.toNat_natCast]
    rw [hg]
    have := extP_grow (growF l.length m l true) l.length m l true (root (l.take m)) 0 [] (Nat.le_refl _) (by omega) (by omega) h (fun _ => rfl) rfl (by rw [Nat.zero_add, List.take_length, List.nil_append])
    rw [Nat.zero_add] at this
    rw [this]
    simp
theorem growthE_ok (l : List H32) (m : Nat) (h : m ≤ l.length) : growthE l m = 0 := if_neg (by omega)
end Go.Proofs.YthcklfelofpffaaDoor
namespace Go.Proofs.YthcklfelofpffaaDoor
/-- The last hash of a path, and the ones before it. -/
def lastH (p : List H32) : List UInt8 := hAt p (p.length - 1)
def initH (p : List H32) : List H32 := p.take (p.length - 1)
def rclimb : Nat → Nat → Nat → List UInt8 → List H32 → List UInt8 × Bool
  | 0, _, _, leaf, p => (leaf, decide (p.length = 0))
  | f + 1, n, i, leaf, p => if n = 1 then (leaf, decide (p.length = 0)) else if p.length = 0 then (zer32, false)
    else if i < splitN n then (nodeH (rclimb f (splitN n) i leaf (initH p)).1 (lastH p), (rclimb f (splitN n) i leaf (initH p)).2)
    else (nodeH (lastH p) (rclimb f (n - splitN n) (i - splitN n) leaf (initH p)).1, (rclimb f (n - splitN n) (i - splitN n) leaf (initH p)).2)
def rvals : Nat → Nat → Nat → Bool → List UInt8 → List H32 → (List UInt8 × List UInt8) × Bool
  | 0, _, _, _, old, p => ((old, old), decide (p.length = 0))
  | f + 1, m, n, whole, old, p => if m = n ∧ whole = true then ((old, old), decide (p.length = 0)) else if p.length = 0 then ((zer32, zer32), false)
    else if m = n then ((lastH p, lastH p), decide ((initH p).length = 0))
    else if m ≤ splitN n then (((rvals f m (splitN n) whole old (initH p)).1.1, nodeH (rvals f m (splitN n) whole old (initH p)).1.2 (lastH p)), (rvals f m (splitN n) whole old (initH p)).2)
    else ((nodeH (lastH p) (rvals f (m - splitN n) (n - splitN n) false old (initH p)).1.1, nodeH (lastH p) (rvals f (m - splitN n) (n - splitN n) false old (initH p)).1.2), (rvals f (m - splitN n) (n - splitN n) false old (initH p)).2)
theorem takeP_miss (p : List H32) (j : Nat) : (takeP p (j, true)).2.2 = true := by
  unfold takeP; split <;> rfl
theorem climbP_miss (p : List H32) (leaf : List UInt8) : ∀ (f n i : Nat) (s : Nat × Bool), s.2 = true → (climbP f p leaf n i s).2.2 = true
  | 0, _, _, _, h => h
  | f + 1, n, i, s, h => by
    have ht : (takeP p s).2.2 = true := by obtain ⟨j, b⟩ := s; obtain rfl : b = true := h; exact takeP_miss p j
    rw [climbP]
    split
    · exact h
    · split
      · exact climbP_miss p leaf f _ _ _ ht
      · exact climbP_miss p leaf f _ _ _ ht
theorem extP_miss (p : List H32) (old : List UInt8) : ∀ (f m n : Nat) (whole : Bool) (s : Nat × Bool), s.2 = true → (extP f p old m n whole s).2.2 = true
  | 0, _, _, _, _, h => h
  | f + 1, m, n, whole, s, h => by
    have ht : (takeP p s).2.2 = true := by obtain ⟨j, b⟩ := s; obtain rfl : b = true := h; exact takeP_miss p j
    rw [extP]
    split
    · exact h
    · split
      · exact ht
      · split
        · exact extP_miss p old f _ _ _ _ ht
        · exact extP_miss p old f _ _ _ _ ht
theorem takeP_zero (p : List H32) : takeP p (0, false) = (zer32, (0, true)) := rfl
theorem takeP_pos (p : List H32) (j : Nat) (h : j ≠ 0) (hj : j ≤ p.length) : takeP p (j, false) = (lastH (p.take j), (j - 1, false)) ∧ initH (p.take j) = p.take (j - 1) := by
  have hl : (p.take j).length = j := by rw [List.length_take]; omega
  refine ⟨?_, ?_⟩
  · unfold takeP lastH
    rw [if_neg h, hl]
    have h1 : j - 1 < p.length := by omega
    have h2 : j - 1 < (p.take j).length := by omega
    rw [hAt_eq p _ h1, hAt_eq (p.take j) _ h2, List.getElem_take]
  · unfold initH
    rw [hl, List.take_take, Nat.min_eq_left (by omega)]
theorem climb_ref (p : List H32) (leaf : List UInt8) : ∀ (f n i j : Nat), j ≤ p.length →
    (rclimb f n i leaf (p.take j)).2 = decide ((climbP f p leaf n i (j, false)).2 = (0, false)) ∧ ((rclimb f n i leaf (p.take j)).2 = true → (rclimb f n i leaf (p.take j)).1 = (climbP f p leaf n i (j, false)).1)
  | 0, _, _, j, hj => by
    have hl : (p.take j).length = j := by rw [List.length_take]; omega
    rw [rclimb, climbP, hl]
    exact ⟨by simp, fun _ => rfl⟩
  | f + 1, n, i, j, hj => by
    have hl : (p.take j).length = j := by rw [List.length_take]; omega
    rw [rclimb, climbP, hl]
    by_cases h1 : n = 1
    · rw [if_pos h1, if_pos h1]
      exact ⟨by simp, fun _ => rfl⟩
    rw [if_neg h1, if_neg h1]
    by_cases h0 : j = 0
    · rw [if_pos h0, h0, takeP_zero]
      refine ⟨?_, fun h => absurd h (by simp)⟩
      symm
      split
      · exact decide_eq_false (fun he => by have := climbP_miss p leaf f (splitN n) i (0, true) rfl; rw [he] at this; exact absurd this (by decide))
      · exact decide_eq_false (fun he => by have := climbP_miss p leaf f (n - splitN n) (i - splitN n) (0, true) rfl; rw [he] at this; exact absurd this (by decide))
    rw [if_neg h0]
    obtain ⟨t1, t2⟩ := takeP_pos p j h0 hj
    rw [t1, t2]
    split
    · obtain ⟨ih1, ih2⟩ := climb_ref p leaf f (splitN n) i (j - 1) (by omega)
      exact ⟨ih1, fun h => by show nodeH _ _ = nodeH _ _; rw [ih2 h]⟩
    · obtain ⟨ih1, ih2⟩ := climb_ref p leaf f (n - splitN n) (i - splitN n) (j - 1) (by omega)
      exact ⟨ih1, fun h => by show nodeH _ _ = nodeH _ _; rw [ih2 h]⟩
theorem ext_ref (p : List H32) (old : List UInt8) : ∀ (f m n : Nat) (whole : Bool) (j : Nat), j ≤ p.length →
    (rvals f m n whole old (p.take j)).2 = decide ((extP f p old m n whole (j, false)).2 = (0, false)) ∧ ((rvals f m n whole old (p.take j)).2 = true → (rvals f m n whole old (p.take j)).1 = (extP f p old m n whole (j, false)).1)
  | 0, _, _, _, j, hj => by
    have hl : (p.take j).length = j := by rw [List.length_take]; omega
    rw [rvals, extP, hl]
    exact ⟨by simp, fun _ => rfl⟩
  | f + 1, m, n, whole, j, hj => by
    have hl : (p.take j).length = j := by rw [List.length_take]; omega
    rw [rvals, extP, hl]
    by_cases h1 : m = n ∧ whole = true
    · rw [if_pos h1, if_pos h1]
      exact ⟨by simp, fun _ => rfl⟩
    rw [if_neg h1, if_neg h1]
    by_cases h0 : j = 0
    · rw [if_pos h0, h0, takeP_zero]
      refine ⟨?_, fun h => absurd h (by simp)⟩
      symm
      split
      · exact decide_eq_false (by decide)
      · split
        · exact decide_eq_false (fun he => by have := extP_miss p old f m (splitN n) whole (0, true) rfl; rw [he] at this; exact absurd this (by decide))
        · exact decide_eq_false (fun he => by have := extP_miss p old f (m - splitN n) (n - splitN n) false (0, true) rfl; rw [he] at this; exact absurd this (by decide))
    rw [if_neg h0]
    obtain ⟨t1, t2⟩ := takeP_pos p j h0 hj
    rw [t1, t2]
    have hl2 : (p.take (j - 1)).length = j - 1 := by rw [List.length_take]; omega
    split
    · rw [hl2]; exact ⟨by simp, fun _ => rfl⟩
    · split
      · obtain ⟨ih1, ih2⟩ := ext_ref p old f m (splitN n) whole (j - 1) (by omega)
        exact ⟨ih1, fun h => by show ((_, nodeH _ _) : List UInt8 × List UInt8) = (_, nodeH _ _); rw [ih2 h]⟩
      · obtain ⟨ih1, ih2⟩ := ext_ref p old f (m - splitN n) (n - splitN n) false (j - 1) (by omega)
        exact ⟨ih1, fun h => by show ((nodeH _ _, nodeH _ _) : List UInt8 × List UInt8) = (nodeH _ _, nodeH _ _); rw [ih2 h]⟩
/-- What the reference's Includes says is what the program's says. -/
theorem includes_ref (rt : List UInt8) (n i : Int) (leaf : List UInt8) (p : List H32) (h : 0 ≤ i ∧ i < n ∧ n ≤ 65536) :
    includesP rt n i leaf p = ((rclimb n.toNat n.toNat i.toNat leaf p).2 && decide ((rclimb n.toNat n.toNat i.toNat leaf p).1 = rt)) := by
  unfold includesP incRes
  obtain ⟨h1, h2⟩ := climb_ref p leaf n.toNat n.toNat i.toNat p.length (Nat.le_refl _)
  rw [List.take_length] at h1 h2
  rw [decide_eq_true h, Bool.true_and]
  by_cases hb : (rclimb n.toNat n.toNat i.toNat leaf p).2 = true
  · rw [h2 hb, ← h1, hb, Bool.and_true, Bool.true_and]
  · rw [← h1, Bool.eq_false_iff.2 hb, Bool.and_false, Bool.false_and]
theorem extends_ref (old : List UInt8) (m : Int) (rt : List UInt8) (n : Int) (p : List H32) (h : 1 ≤ m ∧ m ≤ n ∧ n ≤ 65536) :
    extendsP old m rt n p = ((rvals n.toNat m.toNat n.toNat true old p).2 && decide ((rvals n.toNat m.toNat n.toNat true old p).1.1 = old) && decide ((rvals n.toNat m.toNat n.toNat true old p).1.2 = rt)) := by
  unfold extendsP
  rw [if_neg (by omega), if_neg (by omega)]
  obtain ⟨h1, h2⟩ := ext_ref p old n.toNat m.toNat n.toNat true p.length (Nat.le_refl _)
  rw [List.take_length] at h1 h2
  by_cases hb : (rvals n.toNat m.toNat n.toNat true old p).2 = true
  · rw [h2 hb, ← h1, hb, Bool.and_true, Bool.true_and]
  · rw [← h1, Bool.eq_false_iff.2 hb, Bool.and_false, Bool.false_and, Bool.false_and]
end Go.Proofs.YthcklfelofpffaaDoor
namespace Go.Proofs.YthcklfelofpffaaDoor
open Go.RowKit
theorem results_row_tmp {P : Program} {fn : Func} {p q : Tmp} {ty : TypeId} (h : fn.results = #[.cell p ty, .tmp q]) (tmps : Array Value) (w : World) (g : Nat) (t : TypeId) (cs : Array Value) (fr : Nat × Nat) (d : TypeDesc)
    (hp : tmps.getD p undef = .pointer (some ⟨g, 0, none⟩)) (hg : w.heap[g]? = some (.cells cs t fr))
    (hu : P.underlying ty = some d) (hd : (match d with | .struct _ | .array _ _ => true | _ => false) = true) (hi : (P.info? ty).map (·.size) = some cs.size) :
    (results fn tmps).run P w = .ok (.tuple #[.agg cs, tmps.getD q undef]) w := by
  have hp' : tmps[p]?.getD undef = .pointer (some ⟨g, 0, none⟩) := by simpa using hp
  simp [results, h, hp', asAddr, run_loadVar_row w g t ty cs fr d hg hu hd hi]
set_option maxRecDepth 100000 in
set_option maxHeartbeats 4000000 in
theorem rclimb1_any (leaf : List UInt8) (hlf : leaf.length = 32) (i : Int) (A : Option Addr) (c N : Nat) (w : World) (hN : N ≤ 1073741824) :
    Calls Tryd.prog 84 #[.int .i64 1, .int .i64 i, hashV leaf, .slice A N c] w fun e w' => e = .returned (.tuple #[hashV leaf, .bool (decide (N = 0))]) ∧ Below w.heap.size w w' := by
  have HB0 : Hid (Below w.heap.size w ((w.alloc (.cells (leaf.map encB).toArray 29)).alloc (.cells (zer32.map encB).toArray 29))) := Lib.hid (((Below.refl _ _).alloc (Nat.le_refl _) _).alloc (by simp) _)
  have H6 : Hid (ABox ((w.alloc (.cells (leaf.map encB).toArray 29)).alloc (.cells (zer32.map encB).toArray 29)) w.heap.size 29 (leaf.map encB)) := Lib.hid (by unfold ABox; rw [Below.heap_alloc _ _ _ (by simp)]; exact heap_alloc_new w _)
  have H8 : Hid (ABox ((w.alloc (.cells (leaf.map encB).toArray 29)).alloc (.cells (zer32.map encB).toArray 29)) (w.heap.size + 1) 29 (zer32.map encB)) := Lib.hid (heap_at (by simp))
  have HSL := Lib.hid (hash_size hlf)
  have HLF := Lib.hid hlf
  have HZ : Hid ((zer32.map encB).toArray.size = 32) := Lib.hid rfl
  have HAL := Lib.hid (hash_all leaf)
  have HRW : Hid (w.heap.size ≤ w.heap.size ∧ w.heap.size ≤ w.heap.size + 1 ∧ w.heap.size ≠ w.heap.size + 1) := Lib.hid ⟨Nat.le_refl _, by omega, by omega⟩
  have HQ : Hid (((N : Int) == 0) = decide (N = 0)) := Lib.hid (by rw [Bool.eq_iff_iff]; simp)
  have HRE : Hid (hashV leaf = .agg (leaf.map encB).toArray) := Lib.hid rfl
  clear hlf
  show Calls Tryd.prog 84 #[.int .i64 1, .int .i64 i, .agg (leaf.map encB).toArray, .slice A N c] w fun e w' => e = .returned (.tuple #[hashV leaf, .bool (decide (N = 0))]) ∧ Below w.heap.size w w'
  go_enter Tryd.func84, Tryd.ntmps84
  go_upto_region 1 with (fail)
  generalize hw1 : World.alloc (World.alloc w _) _ = w2
  have hw2 : ((w.alloc (.cells (leaf.map encB).toArray 29)).alloc (.cells (zer32.map encB).toArray 29)) = w2 := hw1
  rw [hw2] at HB0 H6 H8
  clear hw1 hw2
  obtain ⟨R8, hR8⟩ : ∃ R, R = w.heap.size + 1 := ⟨_, rfl⟩
  rw [← hR8] at H8 HRW ⊢
  obtain ⟨R6, hR6⟩ : ∃ R, R = w.heap.size := ⟨_, rfl⟩
  have HRR : Hid (w.heap.size ≤ R6 ∧ w.heap.size ≤ R8 ∧ R6 ≠ R8) := Lib.hid (by rw [hR6]; exact HRW.out)
  rw [← hR6] at H6 ⊢
  clear hR6 hR8 HRW
  have hl6 : w2.heap[R6]? = some (.cells (leaf.map encB).toArray 29 (0, 0)) := H6.out
  have hq8 : w2.heap[R8]? = some (.cells (zer32.map encB).toArray 29 (0, 0)) := H8.out
  have HBE := Lib.hid (below_setRow HB0.out (R := R8) HRR.out.2.1 (leaf.map encB).toArray)
  have HX := Lib.hid (setRow_heap w2 R8 _ (leaf.map encB).toArray _ _ hq8)
  generalize (leaf.map encB).toArray = cs at *
  generalize (zer32.map encB).toArray = zs at *
  go_wp2_with (first
    | (refine wpList_load_row rfl 29 (.tmp 6) rfl R6 ?_ 29 cs (0, 0) _ hl6 Tryd.underlying29 ?_ ?_ ?_; rfl; rfl; (rw [HSL.out]; kernel_rfl))
    | (refine wpList_store_row rfl 29 (.tmp 8) (.tmp 19) rfl R8 cs ?_ ?_ 29 zs hq8 (by rw [HSL.out]; kernel_rfl) (by rw [HZ.out, HSL.out]) HAL.out ?_; rfl; rfl)
    | fail)
  exact bodyPost_ret (v := .tuple #[.agg cs, .bool ((N : Int) == 0)]) (results_row_tmp Tryd.results84 _ _ R8 _ cs (0, 0) _ rfl HX.out Tryd.underlying29 rfl (by rw [HSL.out]; kernel_rfl)) rfl ⟨by rw [HRE.out, HQ.out], HBE.out⟩
set_option maxRecDepth 100000 in
set_option maxHeartbeats 4000000 in
theorem rclimb0_any (leaf : List UInt8) (hlf : leaf.length = 32) (n i : Int) (hn : n ≠ 1) (A : Option Addr) (c : Nat) (w : World) :
    Calls Tryd.prog 84 #[.int .i64 n, .int .i64 i, hashV leaf, .slice A 0 c] w fun e w' => e = .returned (.tuple #[hashV zer32, .bool false]) ∧ Below w.heap.size w w' := by
  have HB0 : Hid (Below w.heap.size w ((w.alloc (.cells (leaf.map encB).toArray 29)).alloc (.cells (zer32.map encB).toArray 29))) := Lib.hid (((Below.refl _ _).alloc (Nat.le_refl _) _).alloc (by simp) _)
  have H6 : Hid (ABox ((w.alloc (.cells (leaf.map encB).toArray 29)).alloc (.cells (zer32.map encB).toArray 29)) w.heap.size 29 (leaf.map encB)) := Lib.hid (by unfold ABox; rw [Below.heap_alloc _ _ _ (by simp)]; exact heap_alloc_new w _)
  have H8 : Hid (ABox ((w.alloc (.cells (leaf.map encB).toArray 29)).alloc (.cells (zer32.map encB).toArray 29)) (w.heap.size + 1) 29 (zer32.map encB)) := Lib.hid (heap_at (by simp))
  have HSL := Lib.hid (hash_size hlf)
  have HLF := Lib.hid hlf
  have HZ : Hid ((zer32.map encB).toArray.size = 32) := Lib.hid rfl
  have HAL := Lib.hid (hash_all leaf)
  have HRW : Hid (w.heap.size ≤ w.heap.size ∧ w.heap.size ≤ w.heap.size + 1 ∧ w.heap.size ≠ w.heap.size + 1) := Lib.hid ⟨Nat.le_refl _, by omega, by omega⟩
  have hn1 : (n == 1) = false := by rw [beq_eq_false_iff_ne]; exact hn
  have HRE : Hid (hashV zer32 = .agg (zer32.map encB).toArray) := Lib.hid rfl
  have HZA := Lib.hid (hash_all zer32)
  clear hlf
  show Calls Tryd.prog 84 #[.int .i64 n, .int .i64 i, .agg (leaf.map encB).toArray, .slice A 0 c] w fun e w' => e = .returned (.tuple #[hashV zer32, .bool false]) ∧ Below w.heap.size w w'
  go_enter Tryd.func84, Tryd.ntmps84
  go_upto_region 1 with (fail)
  generalize hw1 : World.alloc (World.alloc w _) _ = w2
  have hw2 : ((w.alloc (.cells (leaf.map encB).toArray 29)).alloc (.cells (zer32.map encB).toArray 29)) = w2 := hw1
  rw [hw2] at HB0 H6 H8
  clear hw1 hw2
  obtain ⟨R8, hR8⟩ : ∃ R, R = w.heap.size + 1 := ⟨_, rfl⟩
  rw [← hR8] at H8 HRW ⊢
  obtain ⟨R6, hR6⟩ : ∃ R, R = w.heap.size := ⟨_, rfl⟩
  have HRR : Hid (w.heap.size ≤ R6 ∧ w.heap.size ≤ R8 ∧ R6 ≠ R8) := Lib.hid (by rw [hR6]; exact HRW.out)
  rw [← hR6] at H6 ⊢
  clear hR6 hR8 HRW
  have hq8 : w2.heap[R8]? = some (.cells (zer32.map encB).toArray 29 (0, 0)) := H8.out
  have HBE := Lib.hid (below_setRow HB0.out (R := R8) HRR.out.2.1 (zer32.map encB).toArray)
  have HX := Lib.hid (setRow_heap w2 R8 _ (zer32.map encB).toArray _ _ hq8)
  go_wp2_with (first
    | (refine wpList_store_row rfl 29 (.tmp 8) (.tmp 26) rfl R8 (zer32.map encB).toArray ?_ ?_ 29 (zer32.map encB).toArray hq8 (by rw [HZ.out]; kernel_rfl) rfl HZA.out ?_; rfl; rfl)
    | fail)
  exact bodyPost_ret (v := .tuple #[.agg (zer32.map encB).toArray, .bool false]) (results_row_tmp Tryd.results84 _ _ R8 _ (zer32.map encB).toArray (0, 0) _ rfl HX.out Tryd.underlying29 rfl (by rw [HZ.out]; kernel_rfl)) rfl ⟨rfl, HBE.out⟩
end Go.Proofs.YthcklfelofpffaaDoor
namespace Go.Proofs.YthcklfelofpffaaDoor
open Go.RowKit
theorem rclimb_32 {leaf : List UInt8} (hl : leaf.length = 32) : ∀ (f n i : Nat) (p : List H32), (rclimb f n i leaf p).1.length = 32
  | 0, _, _, _ => hl
  | f + 1, n, i, p => by
    rw [rclimb]
    split
    · exact hl
    · split
      · rfl
      · split
        · exact sha_length _
        · exact sha_length _
set_option maxRecDepth 100000 in
set_option maxHeartbeats 8000000 in
theorem rclimb2_any (f : Nat) (leaf : List UInt8) (hlf : leaf.length = 32)
    (ih : ∀ (n i : Nat) (A : Option Addr) (c N : Nat) (p : List H32) (w : World), 1 ≤ n → n ≤ f + 1 → n ≤ 65536 → i < n → Sl w (fun b => b < w.heap.size) A c p → p.length = N → N ≤ 1073741824 →
      Calls Tryd.prog 84 #[.int .i64 (n : Int), .int .i64 (i : Int), hashV leaf, .slice A N c] w fun e w' => e = .returned (.tuple #[hashV (rclimb f n i leaf p).1, .bool (rclimb f n i leaf p).2]) ∧ Below w.heap.size w w')
    (n i : Nat) (h2 : 2 ≤ n) (hnf : n ≤ f + 2) (hn : n ≤ 65536) (hi : i < n) (A : Option Addr) (c M : Nat) (p : List H32) (w : World) (hs : Sl w (fun b => b < w.heap.size) A c p) (hp : p.length = M + 1) (hM : M + 1 ≤ 1073741824) :
    Calls Tryd.prog 84 #[.int .i64 (n : Int), .int .i64 (i : Int), hashV leaf, .slice A (M + 1) c] w fun e w' => e = .returned (.tuple #[hashV (rclimb (f + 1) n i leaf p).1, .bool (rclimb (f + 1) n i leaf p).2]) ∧ Below w.heap.size w w' := by
  obtain ⟨_, _, h3, h4, _⟩ := splitN_bounds n h2 (by omega)
  have HSP := Lib.hid (rsplit_any n h2 (by omega))
  have HP32 := Lib.hid (h32_len hs)
  have hba : Below w.heap.size w ((w.alloc (.cells (leaf.map encB).toArray 29)).alloc (.cells (zer32.map encB).toArray 29)) := ((Below.refl _ _).alloc (Nat.le_refl _) _).alloc (by simp) _
  obtain ⟨b, o, rfl, _, hbl, hrg, hx32⟩ := h32_at (hs.to hba) (k := M) (by omega)
  have hcc : M + 1 ≤ c := by have := hs.1; omega
  have hcm : c ≤ 9223372036854775807 := by have := hs.2.1; unfold maxLen at this; omega
  obtain ⟨sv, hsv⟩ : ∃ s, s = lastH p := ⟨_, rfl⟩
  have hla : lastH p = hAt p M := by unfold lastH; rw [hp]; rfl
  have hse : p[M].l = sv := by rw [hsv, hla]; exact (hAt_eq p _ (by omega)).symm
  rw [hse] at hrg hx32
  have HSV := Lib.hid hx32
  have HRG := Lib.hid hrg
  have HB0 := Lib.hid hba
  have HS0 := Lib.hid (hs.to hba)
  have HPL := Lib.hid hp
  have HCL : Hid (i < splitN n → rclimb (f + 1) n i leaf p = (nodeH (rclimb f (splitN n) i leaf (p.take M)).1 sv, (rclimb f (splitN n) i leaf (p.take M)).2)) := Lib.hid (fun hik => by rw [rclimb, if_neg (by omega), if_neg (by omega), if_pos hik, ← hsv, show initH p = p.take M by unfold initH; rw [hp]; rfl])
  have HCR : Hid (¬ i < splitN n → rclimb (f + 1) n i leaf p = (nodeH sv (rclimb f (n - splitN n) (i - splitN n) leaf (p.take M)).1, (rclimb f (n - splitN n) (i - splitN n) leaf (p.take M)).2)) := Lib.hid (fun hik => by rw [rclimb, if_neg (by omega), if_neg (by omega), if_neg hik, ← hsv, show initH p = p.take M by unfold initH; rw [hp]; rfl])
  have H6 : Hid (ABox ((w.alloc (.cells (leaf.map encB).toArray 29)).alloc (.cells (zer32.map encB).toArray 29)) w.heap.size 29 (leaf.map encB)) := Lib.hid (by unfold ABox; rw [Below.heap_alloc _ _ _ (by simp)]; exact heap_alloc_new w _)
  have H8 : Hid (ABox ((w.alloc (.cells (leaf.map encB).toArray 29)).alloc (.cells (zer32.map encB).toArray 29)) (w.heap.size + 1) 29 (zer32.map encB)) := Lib.hid (heap_at (by simp))
  have HSL := Lib.hid (hash_size hlf)
  have HSS := Lib.hid (hash_size hx32)
  have HSE : Hid ((sv.map encB).length = 32) := Lib.hid (by rw [List.length_map, hx32])
  have HLF := Lib.hid hlf
  have HZ : Hid ((zer32.map encB).toArray.size = 32) := Lib.hid rfl
  have HAS := Lib.hid (hash_all sv)
  have HRW : Hid (w.heap.size ≤ w.heap.size ∧ w.heap.size ≤ w.heap.size + 1 ∧ w.heap.size ≠ w.heap.size + 1) := Lib.hid ⟨Nat.le_refl _, by omega, by omega⟩
  have HI : Hid (∀ (n i : Nat) (w : World), 1 ≤ n → n ≤ f + 1 → n ≤ 65536 → i < n → Sl w (fun b => b < w.heap.size) (some ⟨b, o, none⟩) c p →
      Calls Tryd.prog 84 #[.int .i64 (n : Int), .int .i64 (i : Int), .agg (leaf.map encB).toArray, .slice (some ⟨b, o, none⟩) M c] w fun e w' => e = .returned (.tuple #[hashV (rclimb f n i leaf (p.take M)).1, .bool (rclimb f n i leaf (p.take M)).2]) ∧ Below w.heap.size w w') := Lib.hid (fun n i w a1 a2 a3 a4 a5 => ih n i _ c M (p.take M) w a1 a2 a3 a4 (a5.take M (by omega)) (by rw [List.length_take]; omega) (by omega))
  have hn1 : ((n : Int) == 1) = false := by rw [beq_eq_false_iff_ne]; omega
  have hm1 : ((M : Int) + 1 == 0) = false := by rw [beq_eq_false_iff_ne]; omega
  have hnfI := Lib.hid hnf
  clear ih hs hp hba hrg hx32 hse hla hsv hlf hnf hbl
  generalize splitN n = k at *
  show Calls Tryd.prog 84 #[.int .i64 (n : Int), .int .i64 (i : Int), .agg (leaf.map encB).toArray, .slice (some ⟨b, o, none⟩) (M + 1) c] w fun e w' => e = .returned (.tuple #[hashV (rclimb (f + 1) n i leaf p).1, .bool (rclimb (f + 1) n i leaf p).2]) ∧ Below w.heap.size w w'
  go_enter Tryd.func84, Tryd.ntmps84
  go_upto_region 1 with (fail)
  generalize hw1 : World.alloc (World.alloc w _) _ = w2
  have hw2 : ((w.alloc (.cells (leaf.map encB).toArray 29)).alloc (.cells (zer32.map encB).toArray 29)) = w2 := hw1
  rw [hw2] at HB0 H6 H8 HS0 HRG
  clear hw1 hw2
  obtain ⟨R8, hR8⟩ : ∃ R, R = w.heap.size + 1 := ⟨_, rfl⟩
  rw [← hR8] at H8 HRW ⊢
  obtain ⟨R6, hR6⟩ : ∃ R, R = w.heap.size := ⟨_, rfl⟩
  have HRR : Hid (w.heap.size ≤ R6 ∧ w.heap.size ≤ R8 ∧ R6 ≠ R8) := Lib.hid (by rw [hR6]; exact HRW.out)
  rw [← hR6] at H6 ⊢
  clear hR6 hR8 HRW
  have hz3 : (w2.alloc (.cells (zer32.map encB).toArray 29)).heap[w2.heap.size]? = some (.cells (zer32.map encB).toArray 29 (0, 0)) := heap_alloc_new w2 _
  have hbz : Below w2.heap.size w2 (w2.alloc (.cells (zer32.map encB).toArray 29)) := (Below.refl _ _).alloc (Nat.le_refl _) _
  have HL2 : Hid (R6 < w2.heap.size ∧ R8 < w2.heap.size ∧ w.heap.size ≤ w2.heap.size) := Lib.hid ⟨H6.out.lt, H8.out.lt, HB0.out.size⟩
  have H63 := Lib.hid (abox_setRow (vs := (sv.map encB).toArray) (H6.out.to hbz) (Nat.ne_of_lt HL2.out.1))
  have H83 := Lib.hid (abox_setRow (vs := (sv.map encB).toArray) (H8.out.to hbz) (Nat.ne_of_lt HL2.out.2.1))
  have H113 : Hid (((w2.alloc (.cells (zer32.map encB).toArray 29)).setRow w2.heap.size (sv.map encB).toArray).heap[w2.heap.size]? = some (.cells (sv.map encB).toArray 29 (0, 0))) := Lib.hid (setRow_heap _ _ _ _ _ _ hz3)
  have HB3 := Lib.hid (below_setRow (HB0.out.trans (hbz.mono HB0.out.size)) HL2.out.2.2 (sv.map encB).toArray)
  have HBX := Lib.hid (below_setRow hbz (Nat.le_refl _) (sv.map encB).toArray)
  have HS3 := Lib.hid (HS0.out.to HBX.out)
  clear hbz H6 H8 HB0 HS0 HBX
  go_upto_region 8 with (first
    | (go_at_call 76; refine (HSP.out _).mono ?_; rintro e w' ⟨rfl, rfl⟩)
    | (refine wpList_load_mid rfl 29 (.tmp 33) rfl b (o + M * 32) ?_ (sv.map encB) _ ?_ Tryd.underlying29 ?_ ?_ ?_; rfl; exact HRG.out; rfl; (rw [HSE.out]; kernel_rfl))
    | (refine wpList_store_row rfl 29 (.tmp 11) (.tmp 34) rfl w2.heap.size (sv.map encB).toArray ?_ ?_ 29 (zer32.map encB).toArray hz3 (by rw [HSS.out]; kernel_rfl) (by rw [HZ.out, HSS.out]) HAS.out ?_; rfl; rfl)
    | fail)
  clear hz3
  generalize hw4 : World.setRow (World.alloc w2 _) _ _ = w3
  have hw5 : ((w2.alloc (.cells (zer32.map encB).toArray 29)).setRow w2.heap.size (sv.map encB).toArray) = w3 := hw4
  rw [hw5] at H63 H83 H113 HB3 HS3
  clear hw4 hw5
  generalize w2.heap.size = R11 at *
  by_cases hik : i < k
  · have hikI : (i : Int) < (k : Int) := by omega
    obtain ⟨cv, ok, hcv⟩ : ∃ cv ok, rclimb f k i leaf (p.take M) = (cv, ok) := ⟨_, _, rfl⟩
    have HCE : Hid (rclimb (f + 1) n i leaf p = (nodeH cv sv, ok)) := Lib.hid (by rw [HCL.out hik, hcv])
    have HC32 : Hid (cv.length = 32) := Lib.hid (by have := rclimb_32 HLF.out f k i (p.take M); rw [hcv] at this; exact this)
    have HCA : Hid (Calls Tryd.prog 84 #[.int .i64 (k : Int), .int .i64 (i : Int), .agg (leaf.map encB).toArray, .slice (some ⟨b, o, none⟩) M c] w3 fun e w' => e = .returned (.tuple #[hashV cv, .bool ok]) ∧ Below w3.heap.size w3 w') := Lib.hid (by
      have := HI.out k i w3 (by omega) (by have := hnfI.out; omega) (by omega) (by omega) HS3.out
      rw [hcv] at this; exact this)
    have HN : Hid (∀ W, Calls Tryd.prog 77 #[.agg (cv.map encB).toArray, .agg (sv.map encB).toArray] W fun e w' => e = .returned (hashV (nodeH cv sv)) ∧ Below W.heap.size W w') := Lib.hid (fun W => rnode_any _ _ HC32.out HSV.out W)
    have HR32 : Hid ((nodeH cv sv).length = 32) := Lib.hid (sha_length _)
    have HSC := Lib.hid (hash_size HC32.out)
    have HSR := Lib.hid (hash_size HR32.out)
    have HAC := Lib.hid (hash_all cv)
    have HAR := Lib.hid (hash_all (nodeH cv sv))
    clear hcv HI HCL HCR HSP
    have hl6 : w3.heap[R6]? = some (.cells (leaf.map encB).toArray 29 (0, 0)) := H63.out
    go_wp2_with (first | (refine wpList_load_row rfl 29 (.tmp 6) rfl R6 ?_ 29 (leaf.map encB).toArray (0, 0) _ hl6 Tryd.underlying29 ?_ ?_ ?_; rfl; rfl; (rw [HSL.out]; kernel_rfl)) | fail)
    refine HCA.out.mono ?_
    rintro e w4 ⟨rfl, hb4⟩
    have H84 := Lib.hid (H83.out.to hb4)
    have H114 : Hid (ABox w4 R11 29 (sv.map encB)) := Lib.hid ((show ABox w3 R11 29 (sv.map encB) from H113.out).to hb4)
    have HB4 := Lib.hid (HB3.out.trans (hb4.mono HB3.out.size))
    clear hb4 H63 H83 H113 HB3 HS3 HCA hl6
    have hz5 : (w4.alloc (.cells (zer32.map encB).toArray 29)).heap[w4.heap.size]? = some (.cells (zer32.map encB).toArray 29 (0, 0)) := heap_alloc_new w4 _
    have hbz : Below w4.heap.size w4 (w4.alloc (.cells (zer32.map encB).toArray 29)) := (Below.refl _ _).alloc (Nat.le_refl _) _
    have HL4 : Hid (R8 < w4.heap.size ∧ R11 < w4.heap.size ∧ w.heap.size ≤ w4.heap.size) := Lib.hid ⟨H84.out.lt, H114.out.lt, HB4.out.size⟩
    have H85 := Lib.hid (abox_setRow (vs := (cv.map encB).toArray) (H84.out.to hbz) (Nat.ne_of_lt HL4.out.1))
    have H115 := Lib.hid (abox_setRow (vs := (cv.map encB).toArray) (H114.out.to hbz) (Nat.ne_of_lt HL4.out.2.1))
    have HC5 : Hid (((w4.alloc (.cells (zer32.map encB).toArray 29)).setRow w4.heap.size (cv.map encB).toArray).heap[w4.heap.size]? = some (.cells (cv.map encB).toArray 29 (0, 0))) := Lib.hid (setRow_heap _ _ _ _ _ _ hz5)
    have HB5 := Lib.hid (below_setRow (HB4.out.trans (hbz.mono HB4.out.size)) HL4.out.2.2 (cv.map encB).toArray)
    clear hbz H84 H114 HB4
    go_upto_region 10 with (first
      | (refine wpList_store_row rfl 29 (.tmp 13) (.tmp 49) rfl w4.heap.size (cv.map encB).toArray ?_ ?_ 29 (zer32.map encB).toArray hz5 (by rw [HSC.out]; kernel_rfl) (by rw [HZ.out, HSC.out]) HAC.out ?_; rfl; rfl)
      | fail)
    clear hz5
    generalize hw4 : World.setRow (World.alloc w4 _) _ _ = w5
    have hw5 : ((w4.alloc (.cells (zer32.map encB).toArray 29)).setRow w4.heap.size (cv.map encB).toArray) = w5 := hw4
    rw [hw5] at H85 H115 HC5 HB5
    clear hw4 hw5
    generalize w4.heap.size = R13 at *
    have hc5 := HC5.out
    have hs5 : w5.heap[R11]? = some (.cells (sv.map encB).toArray 29 (0, 0)) := H115.out
    go_wp2_with (first
      | (refine wpList_load_row rfl 29 (.tmp 13) rfl R13 ?_ 29 (cv.map encB).toArray (0, 0) _ hc5 Tryd.underlying29 ?_ ?_ ?_; rfl; rfl; (rw [HSC.out]; kernel_rfl))
      | (refine wpList_load_row rfl 29 (.tmp 11) rfl R11 ?_ 29 (sv.map encB).toArray (0, 0) _ hs5 Tryd.underlying29 ?_ ?_ ?_; rfl; rfl; (rw [HSS.out]; kernel_rfl))
      | fail)
    refine (HN.out w5).mono ?_
    rintro e w6 ⟨rfl, hb6⟩
    have hq8 : w6.heap[R8]? = some (.cells (zer32.map encB).toArray 29 (0, 0)) := (H85.out.to hb6)
    have HBE := Lib.hid (below_setRow (HB5.out.trans (hb6.mono HB5.out.size)) (R := R8) HRR.out.2.1 ((nodeH cv sv).map encB).toArray)
    have HX := Lib.hid (setRow_heap w6 R8 _ ((nodeH cv sv).map encB).toArray _ _ hq8)
    clear hb6 H85 H115 HC5 HB5 hc5 hs5
    have hrv : hashV (nodeH cv sv) = .agg ((nodeH cv sv).map encB).toArray := rfl
    rw [hrv]
    go_wp2_with (first
      | (refine wpList_store_row rfl 29 (.tmp 8) (.tmp 53) rfl R8 ((nodeH cv sv).map encB).toArray ?_ ?_ 29 (zer32.map encB).toArray hq8 (by rw [HSR.out]; kernel_rfl) (by rw [HZ.out, HSR.out]) HAR.out ?_; rfl; rfl)
      | fail)
    exact bodyPost_ret (v := .tuple #[.agg ((nodeH cv sv).map encB).toArray, .bool ok]) (results_row_tmp Tryd.results84 _ _ R8 _ ((nodeH cv sv).map encB).toArray (0, 0) _ rfl HX.out Tryd.underlying29 rfl (by rw [HSR.out]; kernel_rfl)) rfl ⟨by rw [HCE.out]; rfl, HBE.out⟩
  · have hikI : ¬ (i : Int) < (k : Int) := by omega
    have hnk : (n : Int) - (k : Int) = ((n - k : Nat) : Int) := by omega
    have hink : (i : Int) - (k : Int) = ((i - k : Nat) : Int) := by omega
    obtain ⟨cv, ok, hcv⟩ : ∃ cv ok, rclimb f (n - k) (i - k) leaf (p.take M) = (cv, ok) := ⟨_, _, rfl⟩
    have HCE : Hid (rclimb (f + 1) n i leaf p = (nodeH sv cv, ok)) := Lib.hid (by rw [HCR.out hik, hcv])
    have HC32 : Hid (cv.length = 32) := Lib.hid (by have := rclimb_32 HLF.out f (n - k) (i - k) (p.take M); rw [hcv] at this; exact this)
    have HCA : Hid (Calls Tryd.prog 84 #[.int .i64 ((n - k : Nat) : Int), .int .i64 ((i - k : Nat) : Int), .agg (leaf.map encB).toArray, .slice (some ⟨b, o, none⟩) M c] w3 fun e w' => e = .returned (.tuple #[hashV cv, .bool ok]) ∧ Below w3.heap.size w3 w') := Lib.hid (by
      have := HI.out (n - k) (i - k) w3 (by omega) (by have := hnfI.out; omega) (by omega) (by omega) HS3.out
      rw [hcv] at this; exact this)
    have HN : Hid (∀ W, Calls Tryd.prog 77 #[.agg (sv.map encB).toArray, .agg (cv.map encB).toArray] W fun e w' => e = .returned (hashV (nodeH sv cv)) ∧ Below W.heap.size W w') := Lib.hid (fun W => rnode_any _ _ HSV.out HC32.out W)
    have HR32 : Hid ((nodeH sv cv).length = 32) := Lib.hid (sha_length _)
    have HSC := Lib.hid (hash_size HC32.out)
    have HSR := Lib.hid (hash_size HR32.out)
    have HAC := Lib.hid (hash_all cv)
    have HAR := Lib.hid (hash_all (nodeH sv cv))
    clear hcv HI HCL HCR HSP
    have hl6 : w3.heap[R6]? = some (.cells (leaf.map encB).toArray 29 (0, 0)) := H63.out
    go_wp2_with (first | (refine wpList_load_row rfl 29 (.tmp 6) rfl R6 ?_ 29 (leaf.map encB).toArray (0, 0) _ hl6 Tryd.underlying29 ?_ ?_ ?_; rfl; rfl; (rw [HSL.out]; kernel_rfl)) | fail)
    refine HCA.out.mono ?_
    rintro e w4 ⟨rfl, hb4⟩
    have H84 := Lib.hid (H83.out.to hb4)
    have H114 : Hid (ABox w4 R11 29 (sv.map encB)) := Lib.hid ((show ABox w3 R11 29 (sv.map encB) from H113.out).to hb4)
    have HB4 := Lib.hid (HB3.out.trans (hb4.mono HB3.out.size))
    clear hb4 H63 H83 H113 HB3 HS3 HCA hl6
    have hz5 : (w4.alloc (.cells (zer32.map encB).toArray 29)).heap[w4.heap.size]? = some (.cells (zer32.map encB).toArray 29 (0, 0)) := heap_alloc_new w4 _
    have hbz : Below w4.heap.size w4 (w4.alloc (.cells (zer32.map encB).toArray 29)) := (Below.refl _ _).alloc (Nat.le_refl _) _
    have HL4 : Hid (R8 < w4.heap.size ∧ R11 < w4.heap.size ∧ w.heap.size ≤ w4.heap.size) := Lib.hid ⟨H84.out.lt, H114.out.lt, HB4.out.size⟩
    have H85 := Lib.hid (abox_setRow (vs := (cv.map encB).toArray) (H84.out.to hbz) (Nat.ne_of_lt HL4.out.1))
    have H115 := Lib.hid (abox_setRow (vs := (cv.map encB).toArray) (H114.out.to hbz) (Nat.ne_of_lt HL4.out.2.1))
    have HC5 : Hid (((w4.alloc (.cells (zer32.map encB).toArray 29)).setRow w4.heap.size (cv.map encB).toArray).heap[w4.heap.size]? = some (.cells (cv.map encB).toArray 29 (0, 0))) := Lib.hid (setRow_heap _ _ _ _ _ _ hz5)
    have HB5 := Lib.hid (below_setRow (HB4.out.trans (hbz.mono HB4.out.size)) HL4.out.2.2 (cv.map encB).toArray)
    clear hbz H84 H114 HB4
    go_upto_region 12 with (first
      | (refine wpList_store_row rfl 29 (.tmp 15) (.tmp 65) rfl w4.heap.size (cv.map encB).toArray ?_ ?_ 29 (zer32.map encB).toArray hz5 (by rw [HSC.out]; kernel_rfl) (by rw [HZ.out, HSC.out]) HAC.out ?_; rfl; rfl)
      | fail)
    clear hz5
    generalize hw4 : World.setRow (World.alloc w4 _) _ _ = w5
    have hw5 : ((w4.alloc (.cells (zer32.map encB).toArray 29)).setRow w4.heap.size (cv.map encB).toArray) = w5 := hw4
    rw [hw5] at H85 H115 HC5 HB5
    clear hw4 hw5
    generalize w4.heap.size = R13 at *
    have hc5 := HC5.out
    have hs5 : w5.heap[R11]? = some (.cells (sv.map encB).toArray 29 (0, 0)) := H115.out
    go_wp2_with (first
      | (refine wpList_load_row rfl 29 (.tmp 15) rfl R13 ?_ 29 (cv.map encB).toArray (0, 0) _ hc5 Tryd.underlying29 ?_ ?_ ?_; rfl; rfl; (rw [HSC.out]; kernel_rfl))
      | (refine wpList_load_row rfl 29 (.tmp 11) rfl R11 ?_ 29 (sv.map encB).toArray (0, 0) _ hs5 Tryd.underlying29 ?_ ?_ ?_; rfl; rfl; (rw [HSS.out]; kernel_rfl))
      | fail)
    refine (HN.out w5).mono ?_
    rintro e w6 ⟨rfl, hb6⟩
    have hq8 : w6.heap[R8]? = some (.cells (zer32.map encB).toArray 29 (0, 0)) := (H85.out.to hb6)
    have HBE := Lib.hid (below_setRow (HB5.out.trans (hb6.mono HB5.out.size)) (R := R8) HRR.out.2.1 ((nodeH sv cv).map encB).toArray)
    have HX := Lib.hid (setRow_heap w6 R8 _ ((nodeH sv cv).map encB).toArray _ _ hq8)
    clear hb6 H85 H115 HC5 HB5 hc5 hs5
    have hrv : hashV (nodeH sv cv) = .agg ((nodeH sv cv).map encB).toArray := rfl
    rw [hrv]
    go_wp2_with (first
      | (refine wpList_store_row rfl 29 (.tmp 8) (.tmp 69) rfl R8 ((nodeH sv cv).map encB).toArray ?_ ?_ 29 (zer32.map encB).toArray hq8 (by rw [HSR.out]; kernel_rfl) (by rw [HZ.out, HSR.out]) HAR.out ?_; rfl; rfl)
      | fail)
    exact bodyPost_ret (v := .tuple #[.agg ((nodeH sv cv).map encB).toArray, .bool ok]) (results_row_tmp Tryd.results84 _ _ R8 _ ((nodeH sv cv).map encB).toArray (0, 0) _ rfl HX.out Tryd.underlying29 rfl (by rw [HSR.out]; kernel_rfl)) rfl ⟨by rw [HCE.out]; rfl, HBE.out⟩
theorem rclimb_any (leaf : List UInt8) (hlf : leaf.length = 32) : ∀ (f n i : Nat) (A : Option Addr) (c N : Nat) (p : List H32) (w : World), 1 ≤ n → n ≤ f + 1 → n ≤ 65536 → i < n → Sl w (fun b => b < w.heap.size) A c p → p.length = N → N ≤ 1073741824 →
      Calls Tryd.prog 84 #[.int .i64 (n : Int), .int .i64 (i : Int), hashV leaf, .slice A N c] w fun e w' => e = .returned (.tuple #[hashV (rclimb f n i leaf p).1, .bool (rclimb f n i leaf p).2]) ∧ Below w.heap.size w w' := by
  intro f
  induction f with
  | zero =>
    intro n i A c N p w h1 h2 _ _ hs hN hM
    obtain rfl : n = 1 := by omega
    rw [rclimb, hN]
    exact rclimb1_any leaf hlf i A c N w hM
  | succ f ih =>
    intro n i A c N p w h1 h2 h3 h4 hs hN hM
    by_cases hn : n = 1
    · subst hn
      rw [rclimb, if_pos rfl, hN]
      exact rclimb1_any leaf hlf i A c N w hM
    · by_cases h0 : N = 0
      · subst h0
        rw [rclimb, if_neg hn, if_pos hN]
        exact rclimb0_any leaf hlf n i (by omega) A c w
      · obtain ⟨M, rfl⟩ : ∃ M, N = M + 1 := ⟨N - 1, by omega⟩
        exact rclimb2_any f leaf hlf ih n i (by omega) h2 h3 h4 A c M p w hs hN hM
end Go.Proofs.YthcklfelofpffaaDoor
namespace Go.Proofs.YthcklfelofpffaaDoor
open Go.RowKit
set_option maxRecDepth 100000 in
set_option maxHeartbeats 4000000 in
theorem rincludes_no (root leaf : List UInt8) (n i : Int) (A : Option Addr) (c N : Nat) (p : List H32) (w : World) (h : ¬ (0 ≤ i ∧ i < n ∧ n ≤ 65536)) :
    Calls Tryd.prog 58 #[hashV root, .int .i64 n, .int .i64 i, hashV leaf, .slice A N c] w fun e w' => e = .returned (.bool (includesP root n i leaf p)) ∧ Below w.heap.size w w' := by
  have HE : Hid (includesP root n i leaf p = false) := Lib.hid (by unfold includesP; rw [decide_eq_false h]; rfl)
  have HB : Hid (Below w.heap.size w ((w.alloc (.cells (root.map encB).toArray 29)).alloc (.cells (leaf.map encB).toArray 29))) := Lib.hid (((Below.refl _ _).alloc (Nat.le_refl _) _).alloc (by simp) _)
  unfold hashV
  generalize (root.map encB).toArray = rs at *
  generalize (leaf.map encB).toArray = ls at *
  by_cases h1 : i < 0
  · go_enter Tryd.func58, Tryd.ntmps58
    go_wp2_with fail
    go_ret
    exact ⟨ret_bool HE.out.symm, HB.out⟩
  · by_cases h2 : n ≤ i
    · go_enter Tryd.func58, Tryd.ntmps58
      go_wp2_with fail
      go_ret
      exact ⟨ret_bool HE.out.symm, HB.out⟩
    · have h3 : 65536 < n := by omega
      go_enter Tryd.func58, Tryd.ntmps58
      go_wp2_with fail
      go_ret
      exact ⟨ret_bool HE.out.symm, HB.out⟩
set_option maxRecDepth 100000 in
set_option maxHeartbeats 4000000 in
theorem rincludes_yes (root leaf : List UInt8) (hr : root.length = 32) (hl : leaf.length = 32) (n i : Nat) (A : Option Addr) (c N : Nat) (p : List H32) (w : World) (hi : i < n) (hn : n ≤ 65536) (hs : Sl w (fun b => b < w.heap.size) A c p) (hN : p.length = N) (hN2 : N ≤ 1073741824) :
    Calls Tryd.prog 58 #[hashV root, .int .i64 (n : Int), .int .i64 (i : Int), hashV leaf, .slice A N c] w fun e w' => e = .returned (.bool (includesP root n i leaf p)) ∧ Below w.heap.size w w' := by
  obtain ⟨cv, ok, hcv⟩ : ∃ cv ok, rclimb n n i leaf p = (cv, ok) := ⟨_, _, rfl⟩
  obtain ⟨q, hq⟩ : ∃ q, decide (cv = root) = q := ⟨_, rfl⟩
  have HE : Hid (includesP root n i leaf p = (ok && q)) := Lib.hid (by
    rw [includes_ref root n i leaf p ⟨by omega, by omega, by omega⟩, Int.toNat_natCast, Int.toNat_natCast, hcv, hq])
  have HC32 : Hid (cv.length = 32) := Lib.hid (by have := rclimb_32 hl n n i p; rw [hcv] at this; exact this)
  have HQ := Lib.hid hq
  have HRL := Lib.hid hr
  have HSR := Lib.hid (hash_size hr)
  have HSL := Lib.hid (hash_size hl)
  have HSC := Lib.hid (hash_size HC32.out)
  have HZ : Hid ((zer32.map encB).toArray.size = 32) := Lib.hid rfl
  have h1 : ¬ (i : Int) < 0 := by omega
  have h2 : ¬ (n : Int) ≤ (i : Int) := by omega
  have h3 : ¬ (65536 : Int) < (n : Int) := by omega
  have hba : Below w.heap.size w ((w.alloc (.cells (root.map encB).toArray 29)).alloc (.cells (leaf.map encB).toArray 29)) := ((Below.refl _ _).alloc (Nat.le_refl _) _).alloc (by simp) _
  have HB0 := Lib.hid hba
  have H5 : Hid (ABox ((w.alloc (.cells (root.map encB).toArray 29)).alloc (.cells (leaf.map encB).toArray 29)) w.heap.size 29 (root.map encB)) := Lib.hid (by unfold ABox; rw [Below.heap_alloc _ _ _ (by simp)]; exact heap_alloc_new w _)
  have H8 : Hid (ABox ((w.alloc (.cells (root.map encB).toArray 29)).alloc (.cells (leaf.map encB).toArray 29)) (w.heap.size + 1) 29 (leaf.map encB)) := Lib.hid (heap_at (by simp))
  have HCA : Hid (Calls Tryd.prog 84 #[.int .i64 (n : Int), .int .i64 (i : Int), .agg (leaf.map encB).toArray, .slice A N c] ((w.alloc (.cells (root.map encB).toArray 29)).alloc (.cells (leaf.map encB).toArray 29)) fun e w' => e = .returned (.tuple #[hashV cv, .bool ok]) ∧ Below (((w.alloc (.cells (root.map encB).toArray 29)).alloc (.cells (leaf.map encB).toArray 29))).heap.size ((w.alloc (.cells (root.map encB).toArray 29)).alloc (.cells (leaf.map encB).toArray 29)) w') := Lib.hid (by
    have := rclimb_any leaf hl n n i A c N p ((w.alloc (.cells (root.map encB).toArray 29)).alloc (.cells (leaf.map encB).toArray 29)) (by omega) (by omega) hn hi (hs.to hba) hN hN2
    rw [hcv] at this; exact this)
  clear hcv hq hr hl hs hN hba
  unfold hashV
  go_enter Tryd.func58, Tryd.ntmps58
  go_upto_region 3 with (fail)
  generalize hw1 : World.alloc (World.alloc w _) _ = w2
  have hw2 : ((w.alloc (.cells (root.map encB).toArray 29)).alloc (.cells (leaf.map encB).toArray 29)) = w2 := hw1
  rw [hw2] at HB0 H5 H8 HCA
  clear hw1 hw2
  generalize w.heap.size + 1 = R8 at *
  obtain ⟨R5, hR5⟩ : ∃ R, R = w.heap.size := ⟨_, rfl⟩
  rw [← hR5] at H5 ⊢
  have HRE := Lib.hid hR5
  clear hR5
  have hl8 : w2.heap[R8]? = some (.cells (leaf.map encB).toArray 29 (0, 0)) := H8.out
  go_wp2_with (first | (refine wpList_load_row rfl 29 (.tmp 8) rfl R8 ?_ 29 (leaf.map encB).toArray (0, 0) _ hl8 Tryd.underlying29 ?_ ?_ ?_; rfl; rfl; (rw [HSL.out]; kernel_rfl)) | fail)
  refine HCA.out.mono ?_
  rintro e w4 ⟨rfl, hb4⟩
  have H54 := Lib.hid (H5.out.to hb4)
  have HB4 := Lib.hid (HB0.out.trans (hb4.mono HB0.out.size))
  clear hb4 H5 H8 HB0 HCA hl8
  have hz5 : (w4.alloc (.cells (zer32.map encB).toArray 29)).heap[w4.heap.size]? = some (.cells (zer32.map encB).toArray 29 (0, 0)) := heap_alloc_new w4 _
  have hbz : Below w4.heap.size w4 (w4.alloc (.cells (zer32.map encB).toArray 29)) := (Below.refl _ _).alloc (Nat.le_refl _) _
  have H55 := Lib.hid (abox_setRow (vs := (cv.map encB).toArray) (H54.out.to hbz) (Nat.ne_of_lt H54.out.lt))
  have HC5 : Hid (((w4.alloc (.cells (zer32.map encB).toArray 29)).setRow w4.heap.size (cv.map encB).toArray).heap[w4.heap.size]? = some (.cells (cv.map encB).toArray 29 (0, 0))) := Lib.hid (setRow_heap _ _ _ _ _ _ hz5)
  have HB5 := Lib.hid (below_setRow (HB4.out.trans (hbz.mono HB4.out.size)) HB4.out.size (cv.map encB).toArray)
  clear hbz H54 HB4
  go_upto_region 4 with (first
    | (refine wpList_store_row rfl 29 (.tmp 11) (.tmp 30) rfl w4.heap.size (cv.map encB).toArray ?_ ?_ 29 (zer32.map encB).toArray hz5 (by rw [HSC.out]; kernel_rfl) (by rw [HZ.out, HSC.out]) (hash_all _) ?_; rfl; rfl)
    | fail)
  clear hz5
  generalize hw4 : World.setRow (World.alloc w4 _) _ _ = w5
  have hw5 : ((w4.alloc (.cells (zer32.map encB).toArray 29)).setRow w4.heap.size (cv.map encB).toArray) = w5 := hw4
  rw [hw5] at H55 HC5 HB5
  clear hw4 hw5
  generalize w4.heap.size = R11 at *
  have l1 := HC5.out
  have l2 := H55.out
  unfold ABox at l2
  obtain ⟨csC, hcC⟩ : ∃ c, (cv.map encB).toArray = c := ⟨_, rfl⟩
  rw [hcC] at l1 HSC
  try rw [hcC]
  try rw [show hashV cv = .agg csC from (hashE hcC).symm]
  have HCC := Lib.hid hcC
  clear hcC
  obtain ⟨csR, hcR⟩ : ∃ c, (root.map encB).toArray = c := ⟨_, rfl⟩
  rw [hcR] at l2 HSR
  try rw [hcR]
  have HCR := Lib.hid hcR
  clear hcR
  cases ok
  · go_wp2_with fail
    go_ret
    exact ⟨ret_bool (by rw [HE.out]; simp), HRE.out ▸ HB5.out⟩
  · go_wp2_with (first
      | (refine wpList_load_rowG (by kernel_rfl) 29 (.tmp 11) rfl R11 ?_ 29 csC (0, 0) _ l1 Tryd.underlying29 ?_ ?_ ?_; rfl; rfl; (rw [HSC.out]; kernel_rfl))
      | (refine wpList_load_rowG (by kernel_rfl) 29 (.tmp 5) rfl R5 ?_ 29 csR (0, 0) _ l2 Tryd.underlying29 ?_ ?_ ?_; rfl; rfl; (rw [HSR.out]; kernel_rfl))
      | (refine wpList_eqlHG (by kernel_rfl) (.tmp 34) (.tmp 35) rfl cv root ?_ ?_ HC32.out HRL.out ?_; exact hashE HCC.out; exact hashE HCR.out; rw [HQ.out])
      | fail)
    go_ret
    exact ⟨ret_bool (by rw [HE.out]; simp), HRE.out ▸ HB5.out⟩
theorem rincludes_any (root leaf : List UInt8) (hr : root.length = 32) (hl : leaf.length = 32) (n i : Int) (A : Option Addr) (c N : Nat) (p : List H32) (w : World) (hs : Sl w (fun b => b < w.heap.size) A c p) (hN : p.length = N) (hN2 : N ≤ 1073741824) :
    Calls Tryd.prog 58 #[hashV root, .int .i64 n, .int .i64 i, hashV leaf, .slice A N c] w fun e w' => e = .returned (.bool (includesP root n i leaf p)) ∧ Below w.heap.size w w' := by
  by_cases h : 0 ≤ i ∧ i < n ∧ n ≤ 65536
  · obtain ⟨i', rfl⟩ : ∃ k : Nat, i = (k : Int) := ⟨i.toNat, by omega⟩
    obtain ⟨n', rfl⟩ : ∃ k : Nat, n = (k : Int) := ⟨n.toNat, by omega⟩
    exact rincludes_yes root leaf hr hl n' i' A c N p w (by omega) (by omega) hs hN hN2
  · exact rincludes_no root leaf n i A c N p w h
end Go.Proofs.YthcklfelofpffaaDoor
namespace Go.Proofs.YthcklfelofpffaaDoor
open Go.RowKit
set_option maxRecDepth 100000 in
set_option maxHeartbeats 4000000 in
theorem rcheck_any (n branch i : Int) (r : List UInt8) (s : Sheet) (A B C : Option Addr) (c d cp N : Nat) (p : List H32) (w : World) (hr : r.length = 32) (hbr : I64 branch) (ha : Sl w (fun b => b < w.heap.size) A c s.body) (hb : Sl w (fun b => b < w.heap.size) B d s.notes) (hsz : (sheetB branch s).length ≤ 1073740000)
    (hp : Sl w (fun b => b < w.heap.size) C cp p) (hN : p.length = N) (hN2 : N ≤ 1073741824) :
    Calls Tryd.prog 28 #[headV n r, .int .i64 branch, .agg #[.string s.label, .slice A s.body.length c, .slice B s.notes.length d], .int .i64 i, .slice C N cp] w fun e w' => e = .returned (.bool (checkP n r branch s i p)) ∧ Below w.heap.size w w' := by
  have hba : Below w.heap.size w ((w.alloc (.cells (headL n r).toArray 40)).alloc (.cells #[.string s.label, .slice A s.body.length c, .slice B s.notes.length d] 24)) := ((Below.refl _ _).alloc (Nat.le_refl _) _).alloc (by simp) _
  have HX1 : Hid (ABox ((w.alloc (.cells (headL n r).toArray 40)).alloc (.cells #[.string s.label, .slice A s.body.length c, .slice B s.notes.length d] 24)) w.heap.size 40 (headL n r)) := Lib.hid (by
    unfold ABox; rw [Below.heap_alloc _ _ _ (by simp)]; exact heap_alloc_new w _)
  have HX2 : Hid (ABox ((w.alloc (.cells (headL n r).toArray 40)).alloc (.cells #[.string s.label, .slice A s.body.length c, .slice B s.notes.length d] 24)) (w.heap.size + 1) 24 [.string s.label, .slice A s.body.length c, .slice B s.notes.length d]) := Lib.hid (heap_at (by simp))
  have HB := Lib.hid hba
  have HLF := Lib.hid (fun W (h : Below _ _ W) => rleaf_any branch s A B c d W hbr ((ha.to hba).to h) ((hb.to hba).to h) hsz)
  have HIN := Lib.hid (fun W (h : Below _ _ W) => rincludes_any r (leafOf branch s) hr (sha_length _) n i C cp N p W ((hp.to hba).to h) hN hN2)
  have HRM : Hid ((r.map encB).length = 32) := Lib.hid (by rw [List.length_map, hr])
  have HCE : Hid (checkP n r branch s i p = includesP r n i (leafOf branch s) p) := Lib.hid rfl
  clear hba ha hb hp hN hsz hbr hr
  unfold headV
  rw [HCE.out]
  generalize leafOf branch s = lf at *
  clear HCE
  have SP : ∀ W, Below ((w.alloc (.cells (headL n r).toArray 40)).alloc (.cells #[.string s.label, .slice A s.body.length c, .slice B s.notes.length d] 24)).heap.size ((w.alloc (.cells (headL n r).toArray 40)).alloc (.cells #[.string s.label, .slice A s.body.length c, .slice B s.notes.length d] 24)) W →
      W.cell? ⟨w.heap.size, 0, none⟩ = some (.int .i64 n) ∧ W.rangeAt w.heap.size 1 (r.map encB) ∧ W.heap[w.heap.size + 1]? = some (.cells #[.string s.label, .slice A s.body.length c, .slice B s.notes.length d] 24 (0, 0)) := fun W h => by
    refine ⟨(HX1.out.to h).cell 0 rfl, fun j v hv => ?_, HX2.out.to h⟩
    rw [Nat.add_comm]
    exact (HX1.out.to h).cell (j + 1) (by unfold headL; rw [List.getElem?_cons_succ]; exact hv)
  go_enter Tryd.func28, Tryd.ntmps28
  go_upto_region 1 with (fail)
  generalize hw1 : World.alloc (World.alloc w _) _ = w1
  have hw2 : ((w.alloc (.cells (headL n r).toArray 40)).alloc (.cells #[.string s.label, .slice A s.body.length c, .slice B s.notes.length d] 24)) = w1 := hw1
  rw [hw2] at HX1 HX2 HB HLF HIN SP
  clear hw1 hw2
  refine wp_region_D (fun w' => w'.cell? ⟨w.heap.size, 0, none⟩ = some (.int .i64 n) ∧ w'.rangeAt w.heap.size 1 (r.map encB) ∧ w'.heap[w.heap.size + 1]? = some (.cells #[.string s.label, .slice A s.body.length c, .slice B s.notes.length d] 24 (0, 0))) (fun i => decide (i < 9)) (by kernel_rfl) ?_
  have hb0 : Hid (Below w1.heap.size w1 w1.drew) := Lib.hid (Below.refl _ _).drew
  generalize w1.drew = W0 at *
  refine wpAnyE_take (i := 0) (oi := ⟨some 11, Op.fieldAddr 40 (Operand.tmp 5) 1, 0, _, _, _⟩) (v := ?_) rfl (by kernel_rfl) (by kernel_rfl) (by kernel_rfl) (by kernel_rfl) (by kernel_rfl) (fun _ _ _ h => h) (by rfl) ?hykr1_1 (SP _ hb0.out) ?hrkr1_1
  case hykr1_1 => (intro wS hSw; clear hSw; go_simp; (try with_reducible rfl))
  all_goals try simp only [Act.put, List.setIfInBounds_toArray, List.set_cons_zero, List.set_cons_succ]
  refine wpAnyE_take (i := 1) (oi := ⟨some 12, Op.load 29 (Operand.tmp 11), 29, _, _, _⟩) (v := ?_) rfl (by kernel_rfl) (by kernel_rfl) (by kernel_rfl) (by kernel_rfl) (by kernel_rfl) (fun _ _ _ h => h) (by rfl) ?hykr1_2 (SP _ hb0.out) ?hrkr1_2
  case hykr1_2 => (intro wS hSw; refine exec_load_mid 29 (.tmp 11) ?_ w.heap.size 1 ?_ (r.map encB) _ hSw.2.1 Tryd.underlying29 ?_ ?_; rfl; rfl; rfl; (rw [HRM.out]; kernel_rfl))
  all_goals try simp only [Act.put, List.setIfInBounds_toArray, List.set_cons_zero, List.set_cons_succ]
  refine wpAnyE_take (i := 2) (oi := ⟨some 13, Op.fieldAddr 40 (Operand.tmp 5) 0, 0, _, _, _⟩) (v := ?_) rfl (by kernel_rfl) (by kernel_rfl) (by kernel_rfl) (by kernel_rfl) (by kernel_rfl) (fun _ _ _ h => h) (by rfl) ?hykr1_3 (SP _ hb0.out) ?hrkr1_3
  case hykr1_3 => (intro wS hSw; clear hSw; go_simp; (try with_reducible rfl))
  all_goals try simp only [Act.put, List.setIfInBounds_toArray, List.set_cons_zero, List.set_cons_succ]
  refine wpAnyE_take (i := 3) (oi := ⟨some 14, Op.load 3 (Operand.tmp 13), 3, _, _, _⟩) (v := ?_) rfl (by kernel_rfl) (by kernel_rfl) (by kernel_rfl) (by kernel_rfl) (by kernel_rfl) (fun _ _ _ h => h) (by rfl) ?hykr1_4 (SP _ hb0.out) ?hrkr1_4
  case hykr1_4 => (intro wS hSw; (have hq := hSw.1); clear hSw; go_simp; (try with_reducible rfl))
  all_goals try simp only [Act.put, List.setIfInBounds_toArray, List.set_cons_zero, List.set_cons_succ]
  refine wpAnyE_take (i := 4) (oi := ⟨some 15, Op.move (Operand.tmp 3), 3, _, _, _⟩) (v := ?_) rfl (by kernel_rfl) (by kernel_rfl) (by kernel_rfl) (by kernel_rfl) (by kernel_rfl) (fun _ _ _ h => h) (by rfl) ?hykr1_5 (SP _ hb0.out) ?hrkr1_5
  case hykr1_5 => (intro wS hSw; clear hSw; go_simp; (try with_reducible rfl))
  all_goals try simp only [Act.put, List.setIfInBounds_toArray, List.set_cons_zero, List.set_cons_succ]
  refine wpAnyE_take (i := 5) (oi := ⟨some 16, Op.move (Operand.tmp 1), 3, _, _, _⟩) (v := ?_) rfl (by kernel_rfl) (by kernel_rfl) (by kernel_rfl) (by kernel_rfl) (by kernel_rfl) (fun _ _ _ h => h) (by rfl) ?hykr1_6 (SP _ hb0.out) ?hrkr1_6
  case hykr1_6 => (intro wS hSw; clear hSw; go_simp; (try with_reducible rfl))
  all_goals try simp only [Act.put, List.setIfInBounds_toArray, List.set_cons_zero, List.set_cons_succ]
  refine wpAnyE_take (i := 6) (oi := ⟨some 17, Op.load 24 (Operand.tmp 7), 24, _, _, _⟩) (v := ?_) rfl (by kernel_rfl) (by kernel_rfl) (by kernel_rfl) (by kernel_rfl) (by kernel_rfl) (fun _ _ _ h => h) (by rfl) ?hykr1_7 (SP _ hb0.out) ?hrkr1_7
  case hykr1_7 => (intro wS hSw; refine exec_load_row 24 (.tmp 7) ?_ (w.heap.size + 1) ?_ 24 #[.string s.label, .slice A s.body.length c, .slice B s.notes.length d] (0, 0) _ hSw.2.2 Tryd.underlying24 ?_ ?_; rfl; rfl; rfl; kernel_rfl)
  all_goals try simp only [Act.put, List.setIfInBounds_toArray, List.set_cons_zero, List.set_cons_succ]
  refine wpAnyE_take (i := 8) (oi := ⟨some 19, Op.move (Operand.tmp 4), 34, _, _, _⟩) (v := ?_) rfl (by kernel_rfl) (by kernel_rfl) (by kernel_rfl) (by kernel_rfl) (by kernel_rfl) (fun _ _ _ h => h) (by rfl) ?hykr1_8 (SP _ hb0.out) ?hrkr1_8
  case hykr1_8 => (intro wS hSw; clear hSw; go_simp; (try with_reducible rfl))
  all_goals try simp only [Act.put, List.setIfInBounds_toArray, List.set_cons_zero, List.set_cons_succ]
  refine wpAnyD_one (i := 7) (oi := ⟨some 18, Op.call { callee := Callee.value (Operand.func 12), args := #[Operand.tmp 16, Operand.tmp 17], argTypes := #[3, 24] }, 29, _, _, _⟩) rfl (by kernel_rfl) (by rfl) (fun K hK => ?_)
  go_simp
  go_at_call 12
  refine (HLF.out W0 hb0.out).mono ?_
  rintro e W2 ⟨rfl, hb2⟩
  have hbb := Lib.hid (hb0.out.trans (hb2.mono hb0.out.size))
  go_simp
  refine hK _ _ (fun _ => ?_) ?_
  · exact SP _ hbb.out
  clear hK K
  try simp only [Act.put, List.setIfInBounds_toArray, List.set_cons_zero, List.set_cons_succ]
  refine wpAnyD_one (i := 9) (oi := ⟨some 20, Op.call { callee := Callee.value (Operand.func 58), args := #[Operand.tmp 12, Operand.tmp 14, Operand.tmp 15, Operand.tmp 18, Operand.tmp 19], argTypes := #[29, 3, 3, 29, 34] }, 4, _, _, _⟩) rfl (by kernel_rfl) (by rfl) (fun K hK => ?_)
  go_simp
  go_at_call 58
  refine (HIN.out W2 hbb.out).mono ?_
  rintro e W3 ⟨rfl, hb3⟩
  have hbz := Lib.hid (hbb.out.trans (hb3.mono hbb.out.size))
  go_simp
  refine hK _ _ (fun h => absurd h (by decide)) ?_
  clear hK K
  try simp only [Act.put, List.setIfInBounds_toArray, List.set_cons_zero, List.set_cons_succ]
  refine wpAnyD_one (i := 10) (oi := ⟨some 10, Op.assign (Operand.tmp 20), 4, _, _, _⟩) rfl (by kernel_rfl) (by rfl) (fun K hK => ?_)
  go_simp
  refine hK _ _ (fun h => absurd h (by decide)) ?_
  clear hK K
  try simp only [Act.put, List.setIfInBounds_toArray, List.set_cons_zero, List.set_cons_succ]
  refine wpAnyD_done (by kernel_rfl) ?_ _
  unfold Exit.then
  go_wp2_with fail
  go_ret
  exact ⟨rfl, HB.out.trans (hbz.out.mono HB.out.size)⟩
end Go.Proofs.YthcklfelofpffaaDoor
namespace Go.Proofs.YthcklfelofpffaaDoor
open Go.RowKit
/-- From x to y: all older memory as it was, but the boxes R and S, which stay or get A and B. -/
structure Two (R S : Nat) (A B : Array Value) (t : TypeId) (x y : World) : Prop where
  os : y.os = x.os
  tape : y.tape = x.tape
  output : y.output = x.output
  size : x.heap.size ≤ y.heap.size
  block : ∀ k, k < x.heap.size → k ≠ R → k ≠ S → y.heap[k]? = x.heap[k]?
  r : y.heap[R]? = x.heap[R]? ∨ y.heap[R]? = some (.cells A t (0, 0))
  s : y.heap[S]? = x.heap[S]? ∨ y.heap[S]? = some (.cells B t (0, 0))
section
variable {R S : Nat} {A B : Array Value} {t : TypeId} {x y z : World}
theorem Two.refl (x : World) : Two R S A B t x x := ⟨rfl, rfl, rfl, Nat.le_refl _, fun _ _ _ _ => rfl, .inl rfl, .inl rfl⟩
theorem Two.trans (h : Two R S A B t x y) (k : Two R S A B t y z) : Two R S A B t x z :=
  ⟨k.os.trans h.os, k.tape.trans h.tape, k.output.trans h.output, Nat.le_trans h.size k.size, fun i hi h1 h2 => (k.block i (Nat.lt_of_lt_of_le hi h.size) h1 h2).trans (h.block i hi h1 h2),
   k.r.elim (fun e => h.r.imp (fun f => e.trans f) (fun f => e.trans f)) .inr, k.s.elim (fun e => h.s.imp (fun f => e.trans f) (fun f => e.trans f)) .inr⟩
theorem Two.of_below (hR : R < x.heap.size) (hS : S < x.heap.size) (h : Below x.heap.size x y) : Two R S A B t x y :=
  ⟨h.os, h.tape, h.output, h.size, fun k hk _ _ => h.block k hk, .inl (h.block R hR), .inl (h.block S hS)⟩
theorem Two.drew (x : World) : Two R S A B t x x.drew := ⟨rfl, rfl, rfl, Nat.le_refl _, fun _ _ _ _ => rfl, .inl rfl, .inl rfl⟩
theorem Two.old (h : Two R S A B t x y) {k : Nat} {b : Obj} (hk : x.heap[k]? = some b) (h1 : k ≠ R) (h2 : k ≠ S) : y.heap[k]? = some b := by
  rw [h.block k (Array.getElem?_eq_some_iff.1 hk).1 h1 h2, hk]
/-- What box R holds: what it held, or A. -/
theorem Two.cellR (h : Two R S A B t x y) {Z : Array Value} (hz : x.heap[R]? = some (.cells Z t (0, 0))) : ∃ c, y.heap[R]? = some (.cells c t (0, 0)) ∧ (c = Z ∨ c = A) :=
  h.r.elim (fun e => ⟨Z, e.trans hz, .inl rfl⟩) (fun e => ⟨A, e, .inr rfl⟩)
theorem Two.cellS (h : Two R S A B t x y) {Z : Array Value} (hz : x.heap[S]? = some (.cells Z t (0, 0))) : ∃ c, y.heap[S]? = some (.cells c t (0, 0)) ∧ (c = Z ∨ c = B) :=
  h.s.elim (fun e => ⟨Z, e.trans hz, .inl rfl⟩) (fun e => ⟨B, e, .inr rfl⟩)
theorem Two.setR (hRS : R ≠ S) {c : Array Value} (h : x.heap[R]? = some (.cells c t (0, 0))) : Two R S A B t x (x.setRow R A) ∧ (x.setRow R A).heap[R]? = some (.cells A t (0, 0)) := by
  have e := setRow_heap x R c A t (0, 0) h
  exact ⟨⟨rfl, rfl, rfl, by simp, fun k _ h1 _ => setRow_other x R k A h1, .inr e, .inl (setRow_other x R S A (Ne.symm hRS))⟩, e⟩
theorem Two.setS (hRS : R ≠ S) {c : Array Value} (h : x.heap[S]? = some (.cells c t (0, 0))) : Two R S A B t x (x.setRow S B) ∧ (x.setRow S B).heap[S]? = some (.cells B t (0, 0)) := by
  have e := setRow_heap x S c B t (0, 0) h
  exact ⟨⟨rfl, rfl, rfl, by simp, fun k _ _ h1 => setRow_other x S k B h1, .inl (setRow_other x S R B hRS), .inr e⟩, e⟩
theorem Two.below (h : Two R S A B t x y) {b : Nat} {w : World} (hb : Below b w x) (hR : b ≤ R) (hS : b ≤ S) (hw : b ≤ w.heap.size) : Below b w y :=
  ⟨h.os.trans hb.os, h.tape.trans hb.tape, h.output.trans hb.output, Nat.le_trans hb.size h.size, fun k hk => (h.block k (Nat.lt_of_lt_of_le hk (Nat.le_trans hw hb.size)) (by omega) (by omega)).trans (hb.block k hk)⟩
/-- R has been written. -/
def SPR.wR : SPR (Two R S A B t) := ⟨fun _ w => w.heap[R]? = some (.cells A t (0, 0)), fun _ _ _ h k => k.r.elim (fun e => e.trans h) id⟩
def SPR.wS : SPR (Two R S A B t) := ⟨fun _ w => w.heap[S]? = some (.cells B t (0, 0)), fun _ _ _ h k => k.s.elim (fun e => e.trans h) id⟩
def SPR.is (u : Value) : SPR (Two R S A B t) := ⟨fun v _ => v = u, fun _ _ _ h _ => h⟩
def SPR.any2 : SPR (Two R S A B t) := ⟨fun _ _ => True, fun _ _ _ h _ => h⟩
end
end Go.Proofs.YthcklfelofpffaaDoor
