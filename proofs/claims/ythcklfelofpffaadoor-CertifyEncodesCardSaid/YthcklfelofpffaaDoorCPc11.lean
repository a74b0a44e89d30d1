/- A proof that a tree extends another one is verified: merkle.Extends, and Grown of certify. No condition but sizes and what the table holds.
What a growth makes of the root of the first leaves: the plain law of merkle.Extends. No condition but sizes.
Two heads compared. No condition.
CertifyGrows, walked. No condition but what the table holds.
The Reader of package wire, at an encoding that is right. No condition but sizes.
The Reader of package wire: numbers, lengths, strings, the end. No condition but sizes.
The Reader of package wire: lengths, strings, the end. No condition but sizes. -/
import Derived.Test.YthcklfelofpffaaDoorCPc10
import Derived.Laws.EntriesVeiled
import Derived.Laws.IdiomStrings
namespace Go.Proofs.YthcklfelofpffaaDoor
open Go.RowKit
/-- Whether a growth proves that a tree of n leaves extends one of m leaves. -/
def extendsP (old : List UInt8) (m : Int) (rt : List UInt8) (n : Int) (p : List H32) : Bool :=
  if m < 0 ∨ n < m ∨ 65536 < n then false
  else if m = 0 then decide (old = root []) && decide (p.length = 0) && (decide (0 < n) || decide (rt = old))
  else decide ((extP n.toNat p old m.toNat n.toNat true (p.length, false)).1.1 = old) && decide ((extP n.toNat p old m.toNat n.toNat true (p.length, false)).1.2 = rt) && decide ((extP n.toNat p old m.toNat n.toNat true (p.length, false)).2 = (0, false))
theorem hashE {l : List UInt8} {cs : Array Value} (h : (l.map encB).toArray = cs) : Value.agg cs = hashV l := by rw [← h]; rfl
theorem wpList_load_rowG {P : Program} {ops : Array Oper} {rest : List Oper} {o : Oper} {a : Act} {w : World} {Q : Exit → Act → World → Prop} (hw : Region.wanted o (yielded ops a.tmps) = true) (ty : TypeId) (x : Operand) (ho : o.op = .load ty x)
    (g : Nat) (hx : a.eval x = .pointer (some ⟨g, 0, none⟩)) (t : TypeId) (cs : Array Value) (fr : Nat × Nat) (d : TypeDesc) (hg : w.heap[g]? = some (.cells cs t fr))
    (hu : P.underlying ty = some d) (hd : (match d with | .struct _ | .array _ _ => true | _ => false) = true) (hi : (P.info? ty).map (·.size) = some cs.size)
    (h : wpList P ops Q rest (a.put o.dst (.agg cs)) w) : wpList P ops Q (o :: rest) a w :=
  BigFrame.wpList_want hw fun _ hK => wp_load_row ty x ho g hx t cs fr d hg hu hd hi (hK _ _ h)
theorem wpList_eqlHG {ops : Array Oper} {rest : List Oper} {o : Oper} {a : Act} {w : World} {Q : Exit → Act → World → Prop} (hw : Region.wanted o (yielded ops a.tmps) = true) (x y : Operand) (ho : o.op = .binOp .eql 29 x y 29) (l m : List UInt8) (hx : a.eval x = hashV l) (hy : a.eval y = hashV m) (hl : l.length = 32) (hm : m.length = 32)
    (h : wpList Tryd.prog ops Q rest (a.put o.dst (.bool (decide (l = m)))) w) : wpList Tryd.prog ops Q (o :: rest) a w :=
  BigFrame.wpList_want hw fun _ hK => wp_eqlH x y ho l m hx hy hl hm (hK _ _ h)
set_option maxRecDepth 100000 in
set_option maxHeartbeats 4000000 in
theorem extends_no (old rt : List UInt8) (m n : Int) (A : Option Addr) (c N : Nat) (p : List H32) (w : World) (h : m < 0 ∨ n < m ∨ 65536 < n) :
    Calls Tryd.prog 59 #[hashV old, .int .i64 m, hashV rt, .int .i64 n, .slice A N c] w fun e w' => e = .returned (.bool (extendsP old m rt n p)) ∧ Below w.heap.size w w' := by
  have HE : Hid (extendsP old m rt n p = false) := Lib.hid (if_pos h)
  have HB : Hid (Below w.heap.size w ((w.alloc (.cells (old.map encB).toArray 29)).alloc (.cells (rt.map encB).toArray 29))) := Lib.hid (((Below.refl _ _).alloc (Nat.le_refl _) _).alloc (by simp) _)
  unfold hashV
  generalize (old.map encB).toArray = rs at *
  generalize (rt.map encB).toArray = ls at *
  by_cases h1 : m < 0
  · go_enter Tryd.func59, Tryd.ntmps59
    go_wp2_with fail
    go_ret
    exact ⟨ret_bool HE.out.symm, HB.out⟩
  · by_cases h2 : n < m
    · go_enter Tryd.func59, Tryd.ntmps59
      go_wp2_with fail
      go_ret
      exact ⟨ret_bool HE.out.symm, HB.out⟩
    · have h3 : 65536 < n := by omega
      go_enter Tryd.func59, Tryd.ntmps59
      go_wp2_with fail
      go_ret
      exact ⟨ret_bool HE.out.symm, HB.out⟩
set_option maxRecDepth 100000 in
set_option maxHeartbeats 8000000 in
theorem extends_nil (old rt : List UInt8) (ho : old.length = 32) (hr : rt.length = 32) (n : Int) (A : Option Addr) (c N : Nat) (p : List H32) (w : World) (hn0 : 0 ≤ n) (hn : n ≤ 65536) (hN : p.length = N) (hN2 : N ≤ 9223372036854775807) (hK : KLaid w) :
    Calls Tryd.prog 59 #[hashV old, .int .i64 0, hashV rt, .int .i64 n, .slice A N c] w fun e w' => e = .returned (.bool (extendsP old 0 rt n p)) ∧ Below w.heap.size w w' := by
  obtain ⟨q1, hq1⟩ : ∃ q, decide (old = root []) = q := ⟨_, rfl⟩
  obtain ⟨q2, hq2⟩ : ∃ q, decide (N = 0) = q := ⟨_, rfl⟩
  obtain ⟨q3, hq3⟩ : ∃ q, decide (0 < n) = q := ⟨_, rfl⟩
  obtain ⟨q4, hq4⟩ : ∃ q, decide (rt = old) = q := ⟨_, rfl⟩
  have HE : Hid (extendsP old 0 rt n p = (q1 && q2 && (q3 || q4))) := Lib.hid (by unfold extendsP; rw [if_neg (by omega), if_pos rfl, hN, hq1, hq2, hq3, hq4])
  have HQ1 := Lib.hid hq1
  have HQ4 := Lib.hid hq4
  have HOL := Lib.hid ho
  have HRL := Lib.hid hr
  have HSO := Lib.hid (hash_size ho)
  have HSR := Lib.hid (hash_size hr)
  have HRN : Hid ((root []).length = 32) := Lib.hid (root_length _ (by simp))
  have HK := Lib.hid hK
  have hi3 : decide (0 < n) = q3 := hq3
  have hi2 : ((N : Int) == 0) = q2 := by
    rw [← hq2]
    by_cases h : N = 0
    · subst h; rfl
    · rw [decide_eq_false h, beq_eq_false_iff_ne]; omega
  have h1 : ¬ n < 0 := by omega
  have h2 : ¬ 65536 < n := by omega
  have HRT : Hid (∀ W, Below w.heap.size w W → Calls Tryd.prog 31 #[.slice none 0 0] W fun e w' => e = .returned (hashV (root [])) ∧ Below W.heap.size W w') := Lib.hid (fun W hW => root_any [] none 0 0 W (Sl.nil _ _ _ _ (by decide)) rfl (by decide) (hK.to hW))
  clear hq1 hq2 hq3 hq4 hK ho hr hN
  have HB0 : Hid (Below w.heap.size w ((w.alloc (.cells (old.map encB).toArray 29)).alloc (.cells (rt.map encB).toArray 29))) := Lib.hid (((Below.refl _ _).alloc (Nat.le_refl _) _).alloc (by simp) _)
  have HOB : Hid (ABox ((w.alloc (.cells (old.map encB).toArray 29)).alloc (.cells (rt.map encB).toArray 29)) w.heap.size 29 (old.map encB)) := Lib.hid (by unfold ABox; rw [Below.heap_alloc _ _ _ (by simp)]; exact heap_alloc_new w _)
  have HRB : Hid (ABox ((w.alloc (.cells (old.map encB).toArray 29)).alloc (.cells (rt.map encB).toArray 29)) (w.heap.size + 1) 29 (rt.map encB)) := Lib.hid (heap_at (by simp))
  unfold hashV
  go_enter Tryd.func59, Tryd.ntmps59
  go_upto_region 4 with (fail)
  generalize hw1 : World.alloc (World.alloc w _) _ = w1
  have hw2 : ((w.alloc (.cells (old.map encB).toArray 29)).alloc (.cells (rt.map encB).toArray 29)) = w1 := hw1
  rw [hw2] at HB0 HOB HRB
  clear hw1 hw2
  generalize w.heap.size + 1 = Rb at *
  obtain ⟨Ob, hOb⟩ : ∃ R, R = w.heap.size := ⟨_, rfl⟩
  rw [← hOb] at HOB ⊢
  have HOE := Lib.hid hOb
  clear hOb
  obtain ⟨csO, hcO⟩ : ∃ c, (old.map encB).toArray = c := ⟨_, rfl⟩
  have HOB2 : Hid (w1.heap[Ob]? = some (.cells csO 29 (0, 0))) := Lib.hid (hcO ▸ HOB.out)
  rw [hcO] at HSO ⊢
  have HCO := Lib.hid hcO
  clear hcO
  obtain ⟨csR, hcR⟩ : ∃ c, (rt.map encB).toArray = c := ⟨_, rfl⟩
  have HRB2 : Hid (w1.heap[Rb]? = some (.cells csR 29 (0, 0))) := Lib.hid (hcR ▸ HRB.out)
  rw [hcR] at HSR ⊢
  have HCR := Lib.hid hcR
  clear hcR
  have HLE : Hid (∀ d, Below w1.heap.size w1 d → d.heap[Ob]? = some (.cells csO 29 (0, 0)) ∧ d.heap[Rb]? = some (.cells csR 29 (0, 0))) := Lib.hid (fun d h => ⟨(h.block _ (Array.getElem?_eq_some_iff.1 HOB2.out).1).trans HOB2.out, (h.block _ (Array.getElem?_eq_some_iff.1 HRB2.out).1).trans HRB2.out⟩)
  obtain ⟨csN, hcN⟩ : ∃ c, ((root []).map encB).toArray = c := ⟨_, rfl⟩
  have HCN := Lib.hid hcN
  have hRN : hashV (root []) = .agg csN := (hashE hcN).symm
  rw [hRN] at HRT
  clear hRN hcN HOB HRB HOB2 HRB2
  rcases (show q1 = false ∨ (q1 = true ∧ q2 = false) ∨ (q1 = true ∧ q2 = true ∧ q3 = true) ∨ (q1 = true ∧ q2 = true ∧ q3 = false ∧ q4 = true) ∨ (q1 = true ∧ q2 = true ∧ q3 = false ∧ q4 = false) by cases q1 <;> cases q2 <;> cases q3 <;> cases q4 <;> simp) with rfl | ⟨rfl, rfl⟩ | ⟨rfl, rfl, rfl⟩ | ⟨rfl, rfl, rfl, rfl⟩ | ⟨rfl, rfl, rfl, rfl⟩
  all_goals
    refine wp_region_rely [1] (fun i => if i = 1 then SP.val (.agg csN) else SP.any) 18 (by kernel_rfl) (by kernel_rfl) ?_
    intro T _ g hg hgm
    repeat (refine wpR_pure (by rfl) fun Kq hq => ?_; first | (go_big_quiet_skip; refine wpQuiet_nil (hq _ ?_); clear hq Kq) | (refine wpQuiet_run (by rfl) (.agg csO) ?_ (wpQuiet_nil ?_); (rintro _ ⟨d, rfl⟩; exact exec_load_row 29 (.tmp 5) rfl Ob rfl 29 csO (0, 0) _ (HLE.out _ (hg d)).1 Tryd.underlying29 rfl (by rw [HSO.out]; kernel_rfl)); simp only [Act.put, List.setIfInBounds_toArray, List.set_cons_zero, List.set_cons_succ]; refine hq _ ?_; clear hq Kq) | (refine wpQuiet_run (by rfl) (.agg csR) ?_ (wpQuiet_nil ?_); (rintro _ ⟨d, rfl⟩; exact exec_load_row 29 (.tmp 7) rfl Rb rfl 29 csR (0, 0) _ (HLE.out _ (hg d)).2 Tryd.underlying29 rfl (by rw [HSR.out]; kernel_rfl)); simp only [Act.put, List.setIfInBounds_toArray, List.set_cons_zero, List.set_cons_succ]; refine hq _ ?_; clear hq Kq) | (refine wpQuiet_run (by rfl) (.bool true) ?_ (wpQuiet_nil ?_); (rintro _ ⟨d, rfl⟩; (refine exec_eqlH (.tmp 29) (.tmp 30) rfl old (root []) ?_ ?_ HOL.out HRN.out true HQ1.out; exact hashE HCO.out; exact hashE HCN.out)); simp only [Act.put, List.setIfInBounds_toArray, List.set_cons_zero, List.set_cons_succ]; refine hq _ ?_; clear hq Kq) | (refine wpQuiet_run (by rfl) (.bool true) ?_ (wpQuiet_nil ?_); (rintro _ ⟨d, rfl⟩; (refine exec_eqlH (.tmp 41) (.tmp 42) rfl rt old ?_ ?_ HRL.out HOL.out true HQ4.out; exact hashE HCR.out; exact hashE HCO.out)); simp only [Act.put, List.setIfInBounds_toArray, List.set_cons_zero, List.set_cons_succ]; refine hq _ ?_; clear hq Kq) | (refine wpQuiet_run (by rfl) (.bool false) ?_ (wpQuiet_nil ?_); (rintro _ ⟨d, rfl⟩; (refine exec_eqlH (.tmp 29) (.tmp 30) rfl old (root []) ?_ ?_ HOL.out HRN.out false HQ1.out; exact hashE HCO.out; exact hashE HCN.out)); simp only [Act.put, List.setIfInBounds_toArray, List.set_cons_zero, List.set_cons_succ]; refine hq _ ?_; clear hq Kq) | (refine wpQuiet_run (by rfl) (.bool false) ?_ (wpQuiet_nil ?_); (rintro _ ⟨d, rfl⟩; (refine exec_eqlH (.tmp 41) (.tmp 42) rfl rt old ?_ ?_ HRL.out HOL.out false HQ4.out; exact hashE HCR.out; exact hashE HCO.out)); simp only [Act.put, List.setIfInBounds_toArray, List.set_cons_zero, List.set_cons_succ]; refine hq _ ?_; clear hq Kq) | (go_big_quiet_step (fail); refine wpQuiet_nil (hq _ ?_); clear hq Kq))
    refine wpR_busy (by rfl) (by rfl) (fun d hG K Q hK => ?_) (fun v1 d hG hp Kr hr => ?_)
    · go_simp
      go_at_call 31
      refine (HRT.out _ ((HB0.out.trans ((hg d).mono HB0.out.size)))).mono ?_
      rintro e W1 ⟨rfl, hb1⟩
      go_simp
      exact hK _ _ hb1 (rfl)
    obtain rfl : v1 = .agg csN := hp
    (try clear hp); clear hG
    simp only [Act.put, List.setIfInBounds_toArray, List.set_cons_zero, List.set_cons_succ]
    refine hr _ ?_
    clear hr Kr
    repeat (refine wpR_pure (by rfl) fun Kq hq => ?_; first | (go_big_quiet_skip; refine wpQuiet_nil (hq _ ?_); clear hq Kq) | (refine wpQuiet_run (by rfl) (.agg csO) ?_ (wpQuiet_nil ?_); (rintro _ ⟨d, rfl⟩; exact exec_load_row 29 (.tmp 5) rfl Ob rfl 29 csO (0, 0) _ (HLE.out _ (hg d)).1 Tryd.underlying29 rfl (by rw [HSO.out]; kernel_rfl)); simp only [Act.put, List.setIfInBounds_toArray, List.set_cons_zero, List.set_cons_succ]; refine hq _ ?_; clear hq Kq) | (refine wpQuiet_run (by rfl) (.agg csR) ?_ (wpQuiet_nil ?_); (rintro _ ⟨d, rfl⟩; exact exec_load_row 29 (.tmp 7) rfl Rb rfl 29 csR (0, 0) _ (HLE.out _ (hg d)).2 Tryd.underlying29 rfl (by rw [HSR.out]; kernel_rfl)); simp only [Act.put, List.setIfInBounds_toArray, List.set_cons_zero, List.set_cons_succ]; refine hq _ ?_; clear hq Kq) | (refine wpQuiet_run (by rfl) (.bool true) ?_ (wpQuiet_nil ?_); (rintro _ ⟨d, rfl⟩; (refine exec_eqlH (.tmp 29) (.tmp 30) rfl old (root []) ?_ ?_ HOL.out HRN.out true HQ1.out; exact hashE HCO.out; exact hashE HCN.out)); simp only [Act.put, List.setIfInBounds_toArray, List.set_cons_zero, List.set_cons_succ]; refine hq _ ?_; clear hq Kq) | (refine wpQuiet_run (by rfl) (.bool true) ?_ (wpQuiet_nil ?_); (rintro _ ⟨d, rfl⟩; (refine exec_eqlH (.tmp 41) (.tmp 42) rfl rt old ?_ ?_ HRL.out HOL.out true HQ4.out; exact hashE HCR.out; exact hashE HCO.out)); simp only [Act.put, List.setIfInBounds_toArray, List.set_cons_zero, List.set_cons_succ]; refine hq _ ?_; clear hq Kq) | (refine wpQuiet_run (by rfl) (.bool false) ?_ (wpQuiet_nil ?_); (rintro _ ⟨d, rfl⟩; (refine exec_eqlH (.tmp 29) (.tmp 30) rfl old (root []) ?_ ?_ HOL.out HRN.out false HQ1.out; exact hashE HCO.out; exact hashE HCN.out)); simp only [Act.put, List.setIfInBounds_toArray, List.set_cons_zero, List.set_cons_succ]; refine hq _ ?_; clear hq Kq) | (refine wpQuiet_run (by rfl) (.bool false) ?_ (wpQuiet_nil ?_); (rintro _ ⟨d, rfl⟩; (refine exec_eqlH (.tmp 41) (.tmp 42) rfl rt old ?_ ?_ HRL.out HOL.out false HQ4.out; exact hashE HCR.out; exact hashE HCO.out)); simp only [Act.put, List.setIfInBounds_toArray, List.set_cons_zero, List.set_cons_succ]; refine hq _ ?_; clear hq Kq) | (go_big_quiet_step (fail); refine wpQuiet_nil (hq _ ?_); clear hq Kq))
    refine wpR_end (by kernel_rfl) (fun d hG => ?_) _
    have HBz := Lib.hid (HB0.out.trans ((hg d).mono HB0.out.size))
    have HBd := Lib.hid (hg d)
    clear hG hg hgm
    unfold Exit.then
    go_wp2_with fail
    go_ret
    exact ⟨ret_bool (by rw [HE.out]; simp), HOE.out ▸ HBz.out⟩
set_option maxRecDepth 100000 in
set_option maxHeartbeats 8000000 in
theorem extends_yes (old rt : List UInt8) (ho : old.length = 32) (hr : rt.length = 32) (m n : Nat) (A : Option Addr) (c N : Nat) (p : List H32) (w : World) (h1 : 1 ≤ m) (hmn : m ≤ n) (hn : n ≤ 65536) (hs : Sl w (fun b => b < w.heap.size) A c p) (hN : p.length = N) (hN2 : N ≤ 9223372036854775807) (hK : KLaid w) :
    Calls Tryd.prog 59 #[hashV old, .int .i64 (m : Int), hashV rt, .int .i64 (n : Int), .slice A N c] w fun e w' => e = .returned (.bool (extendsP old m rt n p)) ∧ Below w.heap.size w w' := by
  obtain ⟨va, vb, s2, hcs⟩ : ∃ va vb s2, extP n p old m n true (N, false) = ((va, vb), s2) := ⟨_, _, _, rfl⟩
  have HAB : Hid (va.length = 32 ∧ vb.length = 32) := Lib.hid (by have := extP_32 (h32_len hs) ho n m n true (N, false) (by simp only; omega); rw [hcs] at this; exact ⟨this.1, this.2.1⟩)
  obtain ⟨q1, hq1⟩ : ∃ q, decide (va = old) = q := ⟨_, rfl⟩
  obtain ⟨q2, hq2⟩ : ∃ q, decide (vb = rt) = q := ⟨_, rfl⟩
  have HE : Hid (extendsP old m rt n p = (q1 && q2 && decide (s2 = (0, false)))) := Lib.hid (by
    unfold extendsP
    rw [if_neg (by omega), if_neg (by omega), Int.toNat_natCast, Int.toNat_natCast, hN, hcs, hq1, hq2])
  have HQ1 := Lib.hid hq1
  have HQ2 := Lib.hid hq2
  have HCC := Lib.hid hcs
  have HOL := Lib.hid ho
  have HRL := Lib.hid hr
  have HSO := Lib.hid (hash_size ho)
  have HSR := Lib.hid (hash_size hr)
  have HSA := Lib.hid (hash_size HAB.out.1)
  have HSB := Lib.hid (hash_size HAB.out.2)
  have HZ : Hid ((zer32.map encB).toArray.size = 32) := Lib.hid rfl
  have HS := Lib.hid hs
  have HN := Lib.hid hN
  have HK := Lib.hid hK
  have HMN : Hid (1 ≤ m ∧ m ≤ n) := Lib.hid ⟨h1, hmn⟩
  have h1a : ¬ (m : Int) < 0 := by omega
  have h1b : ¬ (n : Int) < (m : Int) := by omega
  have h1c : ¬ (65536 : Int) < (n : Int) := by omega
  have h1d : ((m : Int) == 0) = false := by rw [beq_eq_false_iff_ne]; omega
  clear hq1 hq2 hcs ho hr hs hN hK hmn
  have HB0 : Hid (Below w.heap.size w ((w.alloc (.cells (old.map encB).toArray 29)).alloc (.cells (rt.map encB).toArray 29))) := Lib.hid (((Below.refl _ _).alloc (Nat.le_refl _) _).alloc (by simp) _)
  have HOB : Hid (ABox ((w.alloc (.cells (old.map encB).toArray 29)).alloc (.cells (rt.map encB).toArray 29)) w.heap.size 29 (old.map encB)) := Lib.hid (by unfold ABox; rw [Below.heap_alloc _ _ _ (by simp)]; exact heap_alloc_new w _)
  have HRB : Hid (ABox ((w.alloc (.cells (old.map encB).toArray 29)).alloc (.cells (rt.map encB).toArray 29)) (w.heap.size + 1) 29 (rt.map encB)) := Lib.hid (heap_at (by simp))
  unfold hashV
  go_enter Tryd.func59, Tryd.ntmps59
  go_upto_region 5 with (fail)
  generalize hw1 : World.alloc (World.alloc w _) _ = w1
  have hw2 : ((w.alloc (.cells (old.map encB).toArray 29)).alloc (.cells (rt.map encB).toArray 29)) = w1 := hw1
  rw [hw2] at HB0 HOB HRB
  clear hw1 hw2
  have HTA := Lib.hid (taker_any w1 A c N)
  have HS1 := Lib.hid (HS.out.to HB0.out)
  have HK1 := Lib.hid (HK.out.to HB0.out)
  have HSZ1 : Hid (w.heap.size + 1 < w1.heap.size) := Lib.hid HRB.out.lt
  go_wp2_with fail
  refine HTA.out.mono ?_
  rintro e w2 ⟨Lb, Mb, Pb, rfl, ht2⟩
  have hba : Below w2.heap.size w2 ((w2.alloc (.cells #[takeV Lb Mb Pb] 115)).alloc (.cells #[extV w.heap.size w2.heap.size (w2.heap.size + 1)] 123)) := ((Below.refl _ _).alloc (Nat.le_refl _) _).alloc (by simp) _
  have HB2 := Lib.hid (HB0.out.trans (ht2.b.mono HB0.out.size))
  have HBB := Lib.hid (HB2.out.trans (hba.mono HB2.out.size))
  have HRB2 := Lib.hid ((HRB.out.to ht2.b).to hba)
  have HTF : Hid (w1.heap.size ≤ Lb ∧ w1.heap.size ≤ Mb) := Lib.hid ⟨ht2.bl, ht2.bm⟩
  have HLM : Hid (Lb < w2.heap.size ∧ Mb < w2.heap.size ∧ w1.heap.size ≤ w2.heap.size) := Lib.hid ⟨ht2.l.lt, ht2.m.lt, ht2.bs⟩
  have HEK : Hid (EK w1 ((w2.alloc (.cells #[takeV Lb Mb Pb] 115)).alloc (.cells #[extV w.heap.size w2.heap.size (w2.heap.size + 1)] 123)) Lb Mb Pb w.heap.size w2.heap.size (w2.heap.size + 1) (.slice A N c) old (N, false)) := Lib.hid ⟨ht2.to hba, (HOB.out.to ht2.b).to hba, (by unfold ABox; rw [Below.heap_alloc _ _ _ (by simp)]; exact heap_alloc_new w2 _), heap_at (by simp),
    by have := HTF.out; have := HSZ1.out; rintro (h | h) <;> omega, by have := HLM.out; rintro (h | h) <;> omega, by have := HLM.out; rintro (h | h) <;> omega⟩
  have hTF : Hid (∀ g, TF Lb Mb g → w.heap.size ≤ g) := Lib.hid (by have := HTF.out; have := HSZ1.out; rintro g (h | h) <;> omega)
  have hRF : Hid (¬ TF Lb Mb (w.heap.size + 1)) := Lib.hid (by have := HTF.out; have := HSZ1.out; rintro (h | h) <;> omega)
  have HCA : Hid (∀ W, EK w1 W Lb Mb Pb w.heap.size w2.heap.size (w2.heap.size + 1) (.slice A N c) old (N, false) → Calls Tryd.prog 85 #[.int .i64 (m : Int), .int .i64 (n : Int), .bool true, .pointer (some ⟨w.heap.size, 0, none⟩), .pointer (some ⟨w2.heap.size, 0, none⟩), .pointer (some ⟨w2.heap.size + 1, 0, none⟩)] W fun e w' => e = .returned (.tuple #[hashV va, hashV vb]) ∧ TK w1 w' Lb Mb Pb (.slice A N c) s2 ∧ Out (TF Lb Mb) W w') := Lib.hid (fun W hW => by
    have := ext_any w1 Lb Mb Pb w.heap.size w2.heap.size (w2.heap.size + 1) A c N p old HOL.out HK1.out HS1.out HN.out hN2 n m n true (N, false) W HMN.out.1 HMN.out.2 (Nat.le_refl _) hn (Nat.le_refl _) hW
    rw [HCC.out] at this; exact this)
  clear ht2 hba
  unfold takeV doneV
  go_upto_region 8 with (fail)
  generalize hw5 : World.alloc (World.alloc w2 _) _ = w6
  have hw6 : ((w2.alloc (.cells #[takeV Lb Mb Pb] 115)).alloc (.cells #[extV w.heap.size w2.heap.size (w2.heap.size + 1)] 123)) = w6 := hw5
  rw [hw6] at HBB HRB2 HEK
  clear hw5 hw6 HTA HS1 HSZ1 HB2 HTF HLM HB0 HRB HOB
  generalize w2.heap.size + 1 = Cb at *
  generalize w2.heap.size = Tb at *
  generalize w.heap.size + 1 = Rb at *
  obtain ⟨Ob, hOb⟩ : ∃ R, R = w.heap.size := ⟨_, rfl⟩
  rw [← hOb] at HEK HCA ⊢
  have HOE := Lib.hid hOb
  clear hOb
  have k1 : w6.cell? ⟨Cb, 0, none⟩ = some (.func (.func 85) #[] #[.pointer (some ⟨Ob, 0, none⟩), .pointer (some ⟨Tb, 0, none⟩), .pointer (some ⟨Cb, 0, none⟩)]) := HEK.out.cb.cell 0 rfl
  go_wp2_with fail
  refine (HCA.out w6 HEK.out).mono ?_
  rintro e w5 ⟨rfl, ht5, ho5⟩
  have HE5 := Lib.hid (HEK.out.out ht5 ho5)
  have HB5 := Lib.hid (HBB.out.trans (ho5.below hTF.out HBB.out.size))
  have HR5 := Lib.hid (ho5.box HRB2.out hRF.out)
  have hbz : Below w5.heap.size w5 ((w5.alloc (.cells (zer32.map encB).toArray 29)).alloc (.cells (zer32.map encB).toArray 29)) := ((Below.refl _ _).alloc (Nat.le_refl _) _).alloc (by simp) _
  have hza : ((w5.alloc (.cells (zer32.map encB).toArray 29)).alloc (.cells (zer32.map encB).toArray 29)).heap[w5.heap.size]? = some (.cells (zer32.map encB).toArray 29 (0, 0)) := by rw [Below.heap_alloc _ _ _ (by simp)]; exact heap_alloc_new w5 _
  have hzb : (((w5.alloc (.cells (zer32.map encB).toArray 29)).alloc (.cells (zer32.map encB).toArray 29)).setRow w5.heap.size (va.map encB).toArray).heap[w5.heap.size + 1]? = some (.cells (zer32.map encB).toArray 29 (0, 0)) := (setRow_other _ _ _ _ (by omega)).trans (heap_at (by simp))
  have HFA := Lib.hid (HE5.out.far (Nat.le_refl _))
  have HFB := Lib.hid (HE5.out.far (R := w5.heap.size + 1) (by omega))
  have HE6 := Lib.hid (((HE5.out.to hbz).setRow HFA.out.1 HFA.out.2.1 HFA.out.2.2 (va.map encB).toArray).setRow HFB.out.1 HFB.out.2.1 HFB.out.2.2 (vb.map encB).toArray)
  have hb6 : Below w5.heap.size w5 ((((w5.alloc (.cells (zer32.map encB).toArray 29)).alloc (.cells (zer32.map encB).toArray 29)).setRow w5.heap.size (va.map encB).toArray).setRow (w5.heap.size + 1) (vb.map encB).toArray) := below_setRow (below_setRow hbz (Nat.le_refl _) _) (by omega) _
  have HB6 := Lib.hid (HB5.out.trans (hb6.mono HB5.out.size))
  have HR6 := Lib.hid (HR5.out.to hb6)
  have HA6 : Hid (ABox ((((w5.alloc (.cells (zer32.map encB).toArray 29)).alloc (.cells (zer32.map encB).toArray 29)).setRow w5.heap.size (va.map encB).toArray).setRow (w5.heap.size + 1) (vb.map encB).toArray) w5.heap.size 29 (va.map encB)) := Lib.hid (abox_setRow (setRow_heap _ _ _ _ _ _ hza) (by omega))
  have HC6 : Hid (ABox ((((w5.alloc (.cells (zer32.map encB).toArray 29)).alloc (.cells (zer32.map encB).toArray 29)).setRow w5.heap.size (va.map encB).toArray).setRow (w5.heap.size + 1) (vb.map encB).toArray) (w5.heap.size + 1) 29 (vb.map encB)) := Lib.hid (setRow_heap _ _ _ _ _ _ hzb)
  clear ht5 ho5 hbz hb6 k1 HEK HBB HRB2 HCA HE5 HB5 HR5 HFA HFB
  go_upto_region 9 with (first
    | (refine wpList_store_row rfl 29 (.tmp 14) (.tmp 57) rfl w5.heap.size (va.map encB).toArray ?_ ?_ 29 (zer32.map encB).toArray hza (by rw [HSA.out]; kernel_rfl) (by rw [HZ.out, HSA.out]) (hash_all _) ?_; rfl; rfl)
    | (refine wpList_store_row rfl 29 (.tmp 15) (.tmp 58) rfl (w5.heap.size + 1) (vb.map encB).toArray ?_ ?_ 29 (zer32.map encB).toArray hzb (by rw [HSB.out]; kernel_rfl) (by rw [HZ.out, HSB.out]) (hash_all _) ?_; rfl; rfl)
    | fail)
  clear hza hzb
  generalize hw4 : World.setRow (World.setRow (World.alloc (World.alloc w5 _) _) _ _) _ _ = w7
  have hw5 : ((((w5.alloc (.cells (zer32.map encB).toArray 29)).alloc (.cells (zer32.map encB).toArray 29)).setRow w5.heap.size (va.map encB).toArray).setRow (w5.heap.size + 1) (vb.map encB).toArray) = w7 := hw4
  rw [hw5] at HE6 HB6 HR6 HA6 HC6
  clear hw4 hw5
  generalize w5.heap.size + 1 = RB at *
  generalize w5.heap.size = RA at *
  have HTD := Lib.hid (tdone_any w1 w7 Lb Mb Pb _ s2 HE6.out.t)
  have l1 := HA6.out
  have l2 := HE6.out.lf
  have l3 := HC6.out
  have l4 := HR6.out
  unfold ABox at l1 l2 l3 l4
  obtain ⟨csA, hcA⟩ : ∃ c, (va.map encB).toArray = c := ⟨_, rfl⟩
  rw [hcA] at l1 HSA
  try rw [hcA]
  try rw [show hashV va = .agg csA from (hashE hcA).symm]
  have HCA := Lib.hid hcA
  clear hcA
  obtain ⟨csB, hcB⟩ : ∃ c, (vb.map encB).toArray = c := ⟨_, rfl⟩
  rw [hcB] at l3 HSB
  try rw [hcB]
  try rw [show hashV vb = .agg csB from (hashE hcB).symm]
  have HCB := Lib.hid hcB
  clear hcB
  obtain ⟨csO, hcO⟩ : ∃ c, (old.map encB).toArray = c := ⟨_, rfl⟩
  rw [hcO] at l2 HSO
  try rw [hcO]
  try rw [show hashV old = .agg csO from (hashE hcO).symm]
  have HCO := Lib.hid hcO
  clear hcO
  obtain ⟨csR, hcR⟩ : ∃ c, (rt.map encB).toArray = c := ⟨_, rfl⟩
  rw [hcR] at l4 HSR
  try rw [hcR]
  try rw [show hashV rt = .agg csR from (hashE hcR).symm]
  have HCR := Lib.hid hcR
  clear hcR
  rcases (show q1 = false ∨ (q1 = true ∧ q2 = false) ∨ (q1 = true ∧ q2 = true) by cases q1 <;> cases q2 <;> simp) with rfl | ⟨rfl, rfl⟩ | ⟨rfl, rfl⟩
  · go_wp2_with (first
      | (refine wpList_load_row rfl 29 (.tmp 14) rfl RA ?_ 29 csA (0, 0) _ l1 Tryd.underlying29 ?_ ?_ ?_; rfl; rfl; (rw [HSA.out]; kernel_rfl))
      | (refine wpList_load_row rfl 29 (.tmp 5) rfl Ob ?_ 29 csO (0, 0) _ l2 Tryd.underlying29 ?_ ?_ ?_; rfl; rfl; (rw [HSO.out]; kernel_rfl))
      | (refine wpList_eqlH rfl (.tmp 59) (.tmp 60) rfl va old ?_ ?_ HAB.out.1 HOL.out ?_; exact hashE HCA.out; exact hashE HCO.out; rw [HQ1.out])
      | fail)
    go_ret
    exact ⟨ret_bool (by rw [HE.out]; simp), HOE.out ▸ HB6.out⟩
  · go_wp2_with (first
      | (refine wpList_load_row rfl 29 (.tmp 14) rfl RA ?_ 29 csA (0, 0) _ l1 Tryd.underlying29 ?_ ?_ ?_; rfl; rfl; (rw [HSA.out]; kernel_rfl))
      | (refine wpList_load_row rfl 29 (.tmp 5) rfl Ob ?_ 29 csO (0, 0) _ l2 Tryd.underlying29 ?_ ?_ ?_; rfl; rfl; (rw [HSO.out]; kernel_rfl))
      | (refine wpList_eqlH rfl (.tmp 59) (.tmp 60) rfl va old ?_ ?_ HAB.out.1 HOL.out ?_; exact hashE HCA.out; exact hashE HCO.out; rw [HQ1.out])
      | (refine wpList_load_rowG (by kernel_rfl) 29 (.tmp 15) rfl RB ?_ 29 csB (0, 0) _ l3 Tryd.underlying29 ?_ ?_ ?_; rfl; rfl; (rw [HSB.out]; kernel_rfl))
      | (refine wpList_load_rowG (by kernel_rfl) 29 (.tmp 7) rfl Rb ?_ 29 csR (0, 0) _ l4 Tryd.underlying29 ?_ ?_ ?_; rfl; rfl; (rw [HSR.out]; kernel_rfl))
      | (refine wpList_eqlHG (by kernel_rfl) (.tmp 63) (.tmp 64) rfl vb rt ?_ ?_ HAB.out.2 HRL.out ?_; exact hashE HCB.out; exact hashE HCR.out; rw [HQ2.out])
      | fail)
    go_ret
    exact ⟨ret_bool (by rw [HE.out]; simp), HOE.out ▸ HB6.out⟩
  · go_wp2_with (first
      | (refine wpList_load_row rfl 29 (.tmp 14) rfl RA ?_ 29 csA (0, 0) _ l1 Tryd.underlying29 ?_ ?_ ?_; rfl; rfl; (rw [HSA.out]; kernel_rfl))
      | (refine wpList_load_row rfl 29 (.tmp 5) rfl Ob ?_ 29 csO (0, 0) _ l2 Tryd.underlying29 ?_ ?_ ?_; rfl; rfl; (rw [HSO.out]; kernel_rfl))
      | (refine wpList_eqlH rfl (.tmp 59) (.tmp 60) rfl va old ?_ ?_ HAB.out.1 HOL.out ?_; exact hashE HCA.out; exact hashE HCO.out; rw [HQ1.out])
      | (refine wpList_load_rowG (by kernel_rfl) 29 (.tmp 15) rfl RB ?_ 29 csB (0, 0) _ l3 Tryd.underlying29 ?_ ?_ ?_; rfl; rfl; (rw [HSB.out]; kernel_rfl))
      | (refine wpList_load_rowG (by kernel_rfl) 29 (.tmp 7) rfl Rb ?_ 29 csR (0, 0) _ l4 Tryd.underlying29 ?_ ?_ ?_; rfl; rfl; (rw [HSR.out]; kernel_rfl))
      | (refine wpList_eqlHG (by kernel_rfl) (.tmp 63) (.tmp 64) rfl vb rt ?_ ?_ HAB.out.2 HRL.out ?_; exact hashE HCB.out; exact hashE HCR.out; rw [HQ2.out])
      | fail)
    refine HTD.out.mono ?_
    rintro e w8 ⟨rfl, rfl⟩
    go_wp2_with fail
    go_ret
    exact ⟨ret_bool (by rw [HE.out]; simp), HOE.out ▸ HB6.out⟩
theorem extends_any (old rt : List UInt8) (ho : old.length = 32) (hr : rt.length = 32) (m n : Int) (A : Option Addr) (c N : Nat) (p : List H32) (w : World) (hs : Sl w (fun b => b < w.heap.size) A c p) (hN : p.length = N) (hN2 : N ≤ 9223372036854775807) (hK : KLaid w) :
    Calls Tryd.prog 59 #[hashV old, .int .i64 m, hashV rt, .int .i64 n, .slice A N c] w fun e w' => e = .returned (.bool (extendsP old m rt n p)) ∧ Below w.heap.size w w' := by
  by_cases h : m < 0 ∨ n < m ∨ 65536 < n
  · exact extends_no old rt m n A c N p w h
  · by_cases h0 : m = 0
    · subst h0
      exact extends_nil old rt ho hr n A c N p w (by omega) (by omega) hN hN2 hK
    · obtain ⟨m', rfl⟩ : ∃ k : Nat, m = (k : Int) := ⟨m.toNat, by omega⟩
      obtain ⟨n', rfl⟩ : ∃ k : Nat, n = (k : Int) := ⟨n.toNat, by omega⟩
      exact extends_yes old rt ho hr m' n' A c N p w (by omega) (by omega) (by omega) hs hN hN2 hK
set_option maxRecDepth 100000 in
set_option maxHeartbeats 4000000 in
theorem grown_any (m n : Int) (ro rt : List UInt8) (ho : ro.length = 32) (hr : rt.length = 32) (A : Option Addr) (c N : Nat) (p : List H32) (w : World) (hs : Sl w (fun b => b < w.heap.size) A c p) (hN : p.length = N) (hN2 : N ≤ 9223372036854775807) (hK : KLaid w) :
    Calls Tryd.prog 29 #[headV m ro, headV n rt, .slice A N c] w fun e w' => e = .returned (.bool (extendsP ro m rt n p)) ∧ Below w.heap.size w w' := by
  have hba : Below w.heap.size w ((w.alloc (.cells (headL m ro).toArray 40)).alloc (.cells (headL n rt).toArray 40)) := ((Below.refl _ _).alloc (Nat.le_refl _) _).alloc (by simp) _
  have HX1 : Hid (ABox ((w.alloc (.cells (headL m ro).toArray 40)).alloc (.cells (headL n rt).toArray 40)) w.heap.size 40 (headL m ro)) := Lib.hid (by unfold ABox; rw [Below.heap_alloc _ _ _ (by simp)]; exact heap_alloc_new w _)
  have HX2 : Hid (ABox ((w.alloc (.cells (headL m ro).toArray 40)).alloc (.cells (headL n rt).toArray 40)) (w.heap.size + 1) 40 (headL n rt)) := Lib.hid (heap_at (by simp))
  have HEX := Lib.hid (extends_any ro rt ho hr m n A c N p _ (hs.to hba) hN hN2 (hK.to hba))
  have HB := Lib.hid hba
  clear hba hs hK hN
  have HRM : Hid ((ro.map encB).length = 32) := Lib.hid (by rw [List.length_map, ho])
  have HRN : Hid ((rt.map encB).length = 32) := Lib.hid (by rw [List.length_map, hr])
  have HR1 : Hid (((w.alloc (.cells (headL m ro).toArray 40)).alloc (.cells (headL n rt).toArray 40)).rangeAt w.heap.size 1 (ro.map encB)) := Lib.hid (fun j v hv => by
    rw [Nat.add_comm]
    exact HX1.out.cell (j + 1) (by unfold headL; rw [List.getElem?_cons_succ]; exact hv))
  have HR2 : Hid (((w.alloc (.cells (headL m ro).toArray 40)).alloc (.cells (headL n rt).toArray 40)).rangeAt (w.heap.size + 1) 1 (rt.map encB)) := Lib.hid (fun j v hv => by
    rw [Nat.add_comm 1 j]
    exact HX2.out.cell (j + 1) (by unfold headL; rw [List.getElem?_cons_succ]; exact hv))
  clear ho hr
  unfold headV
  go_enter Tryd.func29, Tryd.ntmps29
  go_upto_region 1 with (fail)
  generalize hw1 : World.alloc (World.alloc w _) _ = w1
  have hw2 : ((w.alloc (.cells (headL m ro).toArray 40)).alloc (.cells (headL n rt).toArray 40)) = w1 := hw1
  rw [hw2] at HX1 HX2 HB HEX HR1 HR2
  clear hw1 hw2
  have k0 := HX1.out.cell 0 rfl
  have k1 := HX2.out.cell 0 rfl
  go_wp2_with (first
    | (refine wpList_load_mid rfl 29 (.tmp 7) rfl w.heap.size 1 ?_ (ro.map encB) _ HR1.out Tryd.underlying29 ?_ ?_ ?_; rfl; rfl; (rw [HRM.out]; kernel_rfl))
    | (refine wpList_load_mid rfl 29 (.tmp 11) rfl (w.heap.size + 1) 1 ?_ (rt.map encB) _ HR2.out Tryd.underlying29 ?_ ?_ ?_; rfl; rfl; (rw [HRN.out]; kernel_rfl))
    | fail)
  refine HEX.out.mono ?_
  rintro e w2 ⟨rfl, hb2⟩
  have HB2 := Lib.hid (HB.out.trans (hb2.mono HB.out.size))
  clear hb2
  go_wp2_with fail
  go_ret
  exact ⟨rfl, HB2.out⟩
end Go.Proofs.YthcklfelofpffaaDoor
namespace Go.Proofs.YthcklfelofpffaaDoor
theorem splitN_pow (n : Nat) : ∃ j, splitN n = 2 ^ j := ⟨_, rfl⟩
theorem splitN_part (n m : Nat) (h2 : 2 ≤ n) (h : n ≤ 1073741824) (h1 : splitN n < m) (h3 : m ≤ n) : splitN m = splitN n := by
  obtain ⟨_, _, h4, h5, h6⟩ := splitN_bounds n h2 (by omega)
  obtain ⟨j, hj⟩ := splitN_pow n
  rw [hj] at h4 h5 h6 h1 ⊢
  exact splitN_eq m j (by omega) (by omega) h1 (by omega)
theorem extP_grow (P : List H32) : ∀ (f m : Nat) (l : List H32) (whole : Bool) (old : List UInt8) (j : Nat) (pre : List H32), l.length ≤ f → l.length ≤ 1073741824 → 1 ≤ m → m ≤ l.length → (whole = true → old = root (l.take m)) →
    j = pre.length → P.take (j + (growF f m l whole).length) = pre ++ growF f m l whole → extP f P old m l.length whole (j + (growF f m l whole).length, false) = ((root (l.take m), root l), (j, false))
  | 0, m, l, _, _, _, _, h1, _, h2, h3, _, _, _ => by omega
  | f + 1, m, l, whole, old, j, pre, hf, hs, h1, h2, ho, hj, hp => by
    have take1 : ∀ (X : List H32) (x : List UInt8) (s : Nat × Bool), s = (j + (X ++ [(⟨x⟩ : H32)]).length, false) → P.take (j + (X ++ [(⟨x⟩ : H32)]).length) = pre ++ (X ++ [⟨x⟩]) → takeP P s = (x, (j + X.length, false)) ∧ P.take (j + X.length) = pre ++ X := by
      intro X x s hs' hX
      subst hs'
      rw [List.length_append, List.length_singleton] at hX ⊢
      have hlen : j + X.length < P.length := by
        have := congrArg List.length hX
        rw [List.length_take, List.length_append, List.length_append, List.length_singleton] at this
        omega
      have h3 : P[j + X.length] = ⟨x⟩ := by
        have h4 : (P.take (j + (X.length + 1)))[j + X.length]? = (pre ++ (X ++ [(⟨x⟩ : H32)]))[j + X.length]? := by rw [hX]
        rw [List.getElem?_take, if_pos (by omega), List.getElem?_eq_getElem hlen, List.getElem?_append_right (by omega), List.getElem?_append_right (by omega), show j + X.length - pre.length - X.length = 0 by omega] at h4
        simpa using h4
      refine ⟨?_, ?_⟩
      · unfold takeP
        rw [if_neg (by simp only; omega)]
        simp only
        rw [show j + (X.length + 1) - 1 = j + X.length by omega, hAt_eq P _ hlen, h3]
      · have h5 : (P.take (j + (X.length + 1))).take (j + X.length) = (pre ++ (X ++ [(⟨x⟩ : H32)])).take (j + X.length) := by rw [hX]
        rw [List.take_take, Nat.min_eq_left (by omega), hj, List.take_length_add_append, List.take_append_of_le_length (by omega), List.take_length] at h5
        rw [hj]; exact h5
    rw [extP]
    rw [growF] at hp ⊢
    by_cases hm : m = l.length
    · rw [if_pos hm] at hp ⊢
      have htk : l.take m = l := by rw [hm, List.take_length]
      cases whole with
      | true =>
        rw [if_pos rfl] at hp ⊢
        rw [if_pos ⟨hm, rfl⟩, ho rfl, htk]
        rfl
      | false =>
        have e0 : (if false = true then [] else [(⟨root l⟩ : H32)]) = [⟨root l⟩] := if_neg (by decide)
        rw [e0] at hp ⊢
        obtain ⟨t1, _⟩ := take1 [] (root l) _ rfl (by rw [List.nil_append]; exact hp)
        rw [if_neg (show ¬ (m = l.length ∧ false = true) by simp), if_pos hm]
        rw [List.nil_append] at t1
        rw [t1, htk]
        rfl
    · rw [if_neg hm] at hp ⊢
      rw [if_neg (by omega), if_neg hm]
      obtain ⟨_, _, k1, k2, k3⟩ := splitN_bounds l.length (by omega) (by omega)
      by_cases hk : m ≤ splitN l.length
      · rw [if_pos hk] at hp ⊢
        rw [if_pos hk]
        obtain ⟨t1, t2⟩ := take1 _ _ _ rfl hp
        have hlen : (l.take (splitN l.length)).length = splitN l.length := by rw [List.length_take]; omega
        have htt : (l.take (splitN l.length)).take m = l.take m := by rw [List.take_take, Nat.min_eq_left hk]
        have ih := extP_grow P f m (l.take (splitN l.length)) whole old j pre (by omega) (by omega) h1 (by omega) (by rw [htt]; exact ho) hj t2
        rw [hlen, htt] at ih
        rw [t1]
        dsimp only
        rw [ih, root_node l (by omega) hs]
      · rw [if_neg hk] at hp ⊢
        rw [if_neg hk]
        obtain ⟨t1, t2⟩ := take1 _ _ _ rfl hp
        have hlen : (l.drop (splitN l.length)).length = l.length - splitN l.length := by rw [List.length_drop]
        have ih := extP_grow P f (m - splitN l.length) (l.drop (splitN l.length)) false old j pre (by omega) (by omega) (by omega) (by omega) (by simp) hj t2
        rw [hlen] at ih
        have hsm := splitN_part l.length m (by omega) hs (by omega) h2
        have hlm : (l.take m).length = m := by rw [List.length_take]; omega
        have hr : root (l.take m) = nodeH (root (l.take (splitN l.length))) (root ((l.drop (splitN l.length)).take (m - splitN l.length))) := by
          rw [root_node (l.take m) (by omega) (by omega), hlm, hsm, List.take_take, Nat.min_eq_left (by omega), List.drop_take]
        rw [t1]
        dsimp only
        rw [ih, root_node l (by omega) hs, hr]
/-- A ledger extends its first leaves, by its growth. -/
theorem extends_growth (l : List H32) (m : Nat) (h : m ≤ l.length) (hs : l.length ≤ 65536) : extendsP (root (l.take m)) m (root l) l.length (growthP l m) = true := by
  unfold extendsP
  rw [if_neg (by omega)]
  by_cases h0 : m = 0
  · subst h0
    have hg : growthP l ((0 : Nat) : Int) = [] := if_pos (.inr (.inr rfl))
    rw [if_pos (show ((0 : Nat) : Int) = 0 from rfl), hg, List.take_zero]
    cases l with
    | nil => simp
    | cons x l => simp
  · rw [if_neg (by omega), Int.toNat_natCast, Int.toNat_natCast]
    have hg : growthP l (m : Int) = growF l.length m l true := by
      unfold growthP; rw [if_neg (by omega), Int.toNat_natCast]
    rw [hg]
    have := extP_grow (growF l.length m l true) l.length m l true (root (l.take m)) 0 [] (Nat.le_refl _) (by omega) (by omega) h (fun _ => rfl) rfl (by rw [Nat.zero_add, List.take_length, List.nil_append])
    rw [Nat.zero_add] at this
    rw [this]
    simp
theorem growthE_ok (l : List H32) (m : Nat) (h : m ≤ l.length) : growthE l m = 0 := if_neg (by omega)
end Go.Proofs.YthcklfelofpffaaDoor
namespace Go.Proofs.YthcklfelofpffaaDoor
open Go.RowKit
theorem fields_of {P : Program} {t : TypeId} {fs : Array Field} (h : P.underlying t = some (.struct fs)) : P.underlying t = some (.struct (P.fieldsOf t)) := by
  have e : P.fieldsOf t = fs := by unfold Program.fieldsOf; rw [h]
  rw [e, h]
theorem eqFields_two {P : Program} {w : World} {d : Nat} {xs ys : Array Value} {f g : Field} {a b a' b' : Value} (f1 : f.name ≠ "_") (g1 : g.name ≠ "_") (p1 : (Go.part f.type xs f.offset).run P w = .ok a w) (p2 : (Go.part f.type ys f.offset).run P w = .ok a' w) (p3 : (Op.equalIn d f.type a a').run P w = .ok true w)
    (q1 : (Go.part g.type xs g.offset).run P w = .ok b w) (q2 : (Go.part g.type ys g.offset).run P w = .ok b' w) (q3 : (Op.equalIn d g.type b b').run P w = .ok true w) : (Op.eqFields d xs ys [f, g]).run P w = .ok true w := by
  simp only [Op.eqFields, f1, g1, ne_eq, not_false_eq_true, if_true, Sem.run_bind, p1, p2, p3, q1, q2, q3, Result.andThen_ok, Bool.not_true, Bool.false_eq_true, if_false, Sem.run_pure]
theorem run_part_root (n : Int) (r : List UInt8) (h : r.length = 32) (w : World) : (Go.part 29 (headL n r).toArray 1).run Tryd.prog w = .ok (hashV r) w := by
  have hc : Tryd.prog.cellsOf 29 = 32 := by kernel_rfl
  have hs : ∀ w, (sizeOf 29).run Tryd.prog w = .ok 32 w := fun w => by
    obtain ⟨i, hi, _⟩ := info_parts h_info
    rw [run_sizeOf w hi, hc]
  simp [Go.part, isAgg, run_underlying Tryd.underlying29, go_sem, hs]
  rw [show (headL n r).tail = r.map encB from rfl, List.take_of_length_le (by simp [h])]
  rfl
theorem run_part_size (n : Int) (r : List UInt8) (w : World) : (Go.part 3 (headL n r).toArray 0).run Tryd.prog w = .ok (.int .i64 n) w := by
  simp [Go.part, isAgg, run_underlying Tryd.underlying3, go_sem, headL]
theorem head_fields : (Tryd.prog.fieldsOf 40).toList.map (fun f => (f.name == "_", f.type, f.offset)) = [(false, 3, 0), (false, 29, 1)] := by kernel_rfl
theorem guard_head : Tryd.prog.eqGuardType Tryd.prog.depth 40 = false := by kernel_rfl
theorem run_head_neq (n : Int) (r : List UInt8) (h : r.length = 32) (w : World) : (binOp .neq 40 (.agg (headL n r).toArray) (.agg (headL n r).toArray)).run Tryd.prog w = .ok (.bool false) w := by
  have hu := fields_of Tryd.underlying40
  have e1 := run_part_size n r w
  have e2 := run_part_root n r h w
  have e3 : (Op.equalIn 9999 3 (.int .i64 n) (.int .i64 n)).run Tryd.prog w = .ok true w := by
    rw [run_equalIn_int w 9998 3 .i64 .i64 _ _ Tryd.underlying3]; simp
  have e4 : (Op.equalIn 9999 29 (hashV r) (hashV r)).run Tryd.prog w = .ok true w := by
    have := run_hash_eq 9997 r r h h w
    rw [decide_eq_true rfl] at this
    exact this
  rw [run_neq_struct, show (10000 : Nat) = 9999 + 1 from rfl, run_equalIn_struct w 9999 40 _ _ hu (by kernel_rfl)]
  have hq := head_fields
  generalize (Tryd.prog.fieldsOf 40).toList = fl at *
  have hlen : fl.length = 2 := by have := congrArg List.length hq; simpa using this
  obtain ⟨f, g, rfl⟩ := (show ∃ f g, fl = [f, g] from (by rcases fl with _ | ⟨f, _ | ⟨g, _ | ⟨h, t⟩⟩⟩ <;> simp at hlen; exact ⟨f, g, rfl⟩))
  simp only [List.map_cons, List.map_nil, List.cons.injEq, Prod.mk.injEq, beq_eq_false_iff_ne, ne_eq, and_true] at hq
  obtain ⟨⟨f1, f2, f3⟩, g1, g2, g3⟩ := hq
  rw [eqFields_two (a := .int .i64 n) (a' := .int .i64 n) (b := hashV r) (b' := hashV r) f1 g1 (by rw [f2, f3]; exact e1) (by rw [f2, f3]; exact e1) (by rw [f2]; exact e3) (by rw [g2, g3]; exact e2) (by rw [g2, g3]; exact e2) (by rw [g2]; exact e4)]
  rw [Result.andThen_ok]
  rfl
end Go.Proofs.YthcklfelofpffaaDoor
namespace Go.Proofs.YthcklfelofpffaaDoor
open Go.RowKit
structure Led where
  l : List H32
  n : List ByteArray
instance : Rep Led where
  size := 2
  R w S cs s := ∃ va vb, cs = [va, vb] ∧ Rep.R w S [va] s.l ∧ Rep.R w S [vb] s.n
  len := by rintro w S cs s ⟨va, vb, rfl, _⟩; rfl
  one := by
    rintro w S cs s ⟨va, vb, rfl, ha, hb⟩ u hu
    have h1 := Rep.one ha va (by simp)
    have h2 := Rep.one hb vb (by simp)
    simp at hu
    rcases hu with rfl | rfl
    · exact h1
    · exact h2
  keep := by rintro w w' S cs s ⟨va, vb, rfl, ha, hb⟩ hk; exact ⟨va, vb, rfl, Rep.keep ha hk, Rep.keep hb hk⟩
  mono := by rintro w S S' cs s ⟨va, vb, rfl, ha, hb⟩ hk; exact ⟨va, vb, rfl, Rep.mono ha hk, Rep.mono hb hk⟩
theorem led_at {w : World} {S : Nat → Prop} {A : Option Addr} {c : Nat} {l : List Led} (h : Sl w S A c l) {k : Nat} (hk : k < l.length) :
    ∃ b o A1 c1 A2 c2, A = some ⟨b, o, none⟩ ∧ S b ∧ b < w.heap.size ∧ w.cell? ⟨b, o + k * 2, none⟩ = some (.slice A1 l[k].l.length c1) ∧ w.cell? ⟨b, o + k * 2 + 1, none⟩ = some (.slice A2 l[k].n.length c2) ∧ Sl w S A1 c1 l[k].l ∧ Sl w S A2 c2 l[k].n := by
  obtain ⟨b, o, es, rfl, hb, hlt, ⟨_, _, rfl, ⟨A1, c1, e1, h1, _⟩, ⟨A2, c2, e2, h2, _⟩⟩, hc⟩ := h.at_ hk
  cases e1; cases e2
  exact ⟨b, o, A1, c1, A2, c2, rfl, hb, hlt, hc 0 _ rfl, hc 1 _ rfl, h1, h2⟩
theorem addAll_prefix (branch : Int) : ∀ (l : List Sheet) (p : List H32 × List ByteArray), ∃ t, (addAll branch p l).1 = p.1 ++ t
  | [], p => ⟨[], by simp [addAll]⟩
  | s :: l, p => by
    obtain ⟨t, h⟩ := addAll_prefix branch l (addOne branch p s)
    have h2 : ∃ t', (addOne branch p s).1 = p.1 ++ t' := by
      unfold addOne; split
      · exact ⟨_, rfl⟩
      · exact ⟨[], by simp⟩
    obtain ⟨t', h2⟩ := h2
    exact ⟨t' ++ t, by show (addAll branch (addOne branch p s) l).1 = _; rw [h, h2, List.append_assoc]⟩
/-- Each ledger is a beginning of the last one. -/
def LChain (all : List Led) (k : Nat) : Prop := ∀ x ∈ all, x.l.length = x.n.length ∧ x.l.length ≤ 12 * k ∧ ∀ y, all.getLast? = some y → x.l.length ≤ y.l.length ∧ x.l = y.l.take x.l.length
theorem LChain.next {all : List Led} {k : Nat} (h : LChain all k) {z y : Led} (hl : all.getLast? = some y) (h1 : z.l.length = z.n.length) (h2 : z.l.length ≤ 12 * (k + 1)) (h3 : ∃ t, z.l = y.l ++ t) : LChain (all ++ [z]) (k + 1) := by
  obtain ⟨t, h3⟩ := h3
  have hz : ∀ y', (all ++ [z]).getLast? = some y' → y' = z := fun y' hy => by simpa using hy.symm
  intro x hx
  rcases List.mem_append.1 hx with hx | hx
  · obtain ⟨a, b, c⟩ := h x hx
    obtain ⟨c1, c2⟩ := c y hl
    refine ⟨a, by omega, fun y' hy => ?_⟩
    rw [hz y' hy, h3]
    refine ⟨by rw [List.length_append]; omega, ?_⟩
    rw [List.take_append_of_le_length c1]; exact c2
  · obtain rfl := List.mem_singleton.1 hx
    refine ⟨h1, h2, fun y' hy => ?_⟩
    rw [hz y' hy]
    exact ⟨Nat.le_refl _, by rw [List.take_length]⟩
theorem own_ne {α : Type} [Rep α] {w : World} {B b : Nat} {e e' : TypeId} {v : Value} {l : List α} {cs : Array Value} {fr : Nat × Nat} (h : Own w B e v l) (hb : w.heap[b]? = some (.cells cs e' fr)) (hne : e ≠ e') : v.ownBlock ≠ some b := by
  obtain ⟨xs, hx, _⟩ := h
  rcases hx.2 with ⟨rfl, _⟩ | ⟨g, cap, cur, rfl, _, hg, _⟩
  · simp [Value.ownBlock]
  · intro he
    have : g = b := by simpa [Value.ownBlock] using he
    subst this
    rw [hg] at hb
    cases hb
    exact hne rfl
theorem exec_built {P : Program} {o : Oper} {a : Act} {w : World} (t : TypeId) (parts : List (Nat × Operand)) (ho : o.op = .build t parts.toArray) (l : List (Nat × Value)) (hl : parts.map (fun x => (x.1, a.eval x.2)) = l) (cs : Array Value) (hb : P.built t l = some cs) :
    (execOp a.eval o).run P w = .ok (.value (.agg cs)) w := by
  have e : (parts.toArray.map fun (i, x) => (i, a.eval x)).toList = l := by rw [List.map_toArray]; exact hl
  unfold execOp
  simp only [ho]
  rw [Sem.run_bind, run_build w t _ cs (by rw [e]; exact hb)]
  rfl
theorem led_info : (Tryd.prog.info? 36).map (fun i => (i.zero, i.size, i.bytes)) = some (some (.agg #[.slice none 0 0, .slice none 0 0]), Rep.size Led, 48) := by kernel_rfl
set_option maxRecDepth 100000 in
set_option maxHeartbeats 8000000 in
theorem growsLaw_any (branch : Int) (A : Option Addr) (c : Nat) (ll : List (List Int)) (w : World) (hbr : I64 branch) (hl : Sl w (fun b => b < w.heap.size) A c ll) (hK : KLaid w) :
    Calls Tryd.prog 8 #[.int .i64 branch, .slice A ll.length c] w fun e w' => e = .returned (.bool true) ∧ Below w.heap.size w w' := by
  have HL := Lib.hid hl
  have HBR := Lib.hid hbr
  have HK := Lib.hid hK
  clear hl hbr hK
  have hba : Below w.heap.size w (w.alloc (.cells #[.slice none 0 0, .slice none 0 0] 36)) := (Below.refl _ _).alloc (Nat.le_refl _) _
  have HR0 : Hid (Rep.R (w.alloc (.cells #[.slice none 0 0, .slice none 0 0] 36)) (fun b => some b ≠ (Value.slice none 0 0).ownBlock) [.slice none 0 0, .slice none 0 0] (⟨[], []⟩ : Led)) := Lib.hid ⟨_, _, rfl, ⟨none, 0, rfl, Sl.nil _ _ _ _ (by decide), by decide⟩, ⟨none, 0, rfl, Sl.nil _ _ _ _ (by decide), by decide⟩⟩
  have HH0 : Hid ((w.alloc (.cells #[.slice none 0 0, .slice none 0 0] 36)).heap[w.heap.size]? = some (.cells #[.slice none 0 0, .slice none 0 0] 36 (0, 0))) := Lib.hid (heap_alloc_new w _)
  have HB0 := Lib.hid hba
  clear hba
  go_enter Tryd.func8, Tryd.ntmps8
  go_wp2_with (first
    | (at_builtin; refine wpList_push (α := Led) _ rfl (.tmp 12) (.tmp 14) 58 rfl w.heap.size 36 (.agg #[.slice none 0 0, .slice none 0 0]) 48 Tryd.underlying58 led_info rfl (by decide) (.slice none 0 0) [] rfl (Own.nil _ _ _) w.heap.size #[.slice none 0 0, .slice none 0 0] ⟨[], []⟩ (0, 0) 36 rfl HH0.out HR0.out (by decide) (by decide) (by simp) _ rfl ?_; intro g5 p5 w5 hown5 hg5 hat5 hlt5)
    | fail)
  have hbz : Below w.heap.size w w5 := below_push (Below.refl _ _) (Own.nil (α := Led) w w.heap.size 36) (Nat.le_refl _) hg5
  have HO5 := Lib.hid hown5
  have HB5 := Lib.hid hbz
  clear hbz hown5 hg5 hat5 hlt5 HR0 HH0 HB0
  go_loopw [5, 6] (fun v i wr => ∃ (k : Nat) (all : List Led), k ≤ ll.length ∧ i = .int .i64 k ∧ k ≤ 5 ∧ Hid (all.length = k + 1) ∧ Hid (LChain all k) ∧ Hid (Own wr w.heap.size 36 v all) ∧ Hid (Below w.heap.size w wr)) (fun v i _ => ll.length - (intOf i).toNat)
  case atStart => exact ⟨0, [⟨[], []⟩], Nat.zero_le _, rfl, by omega, Lib.hid rfl, Lib.hid (fun x hx => by
    obtain rfl := List.mem_singleton.1 hx
    exact ⟨rfl, by simp, fun y hy => by simp⟩), HO5, HB5⟩
  case round =>
    obtain ⟨k, all, hk, rfl, hk5, HAL, HCH, HO, HB⟩ := hrel
    by_cases hlt : k < ll.length
    · by_cases h5 : k < 5
      · have hkl : (k : Int) < (ll.length : Int) := by omega
        have hk0 : (0 : Int) ≤ (k : Int) := by omega
        have hk5' : (k : Int) < 5 := by omega
        obtain ⟨A3, c3, rfl, hsl⟩ := HO.out.sl
        have hka : k < all.length := by rw [HAL.out]; omega
        obtain ⟨y, hy⟩ : ∃ y, y = all[k] := ⟨_, rfl⟩
        have HYL : Hid (all.getLast? = some y ∧ y ∈ all) := Lib.hid ⟨by rw [List.getLast?_eq_getElem?, HAL.out, Nat.add_sub_cancel, List.getElem?_eq_getElem hka, hy], by rw [hy]; exact List.getElem_mem _⟩
        obtain ⟨ba, oa, A1, c1, A2, c2, rfl, -, hba, e0, e1, s1, s2⟩ := led_at hsl hka
        rw [← hy] at e0 e1 s1 s2
        obtain ⟨bx, ox, AX, cX, rfl, _, hbx, ex, sx⟩ := ints_at (HL.out.to HB.out) hlt
        obtain ⟨x, hx⟩ : ∃ x, x = ll[k] := ⟨_, rfl⟩
        rw [← hx] at ex sx
        have HSX := Lib.hid sx
        have HS1 := Lib.hid s1
        have HS2 := Lib.hid s2
        have HE := Lib.hid (And.intro hba (And.intro e0 (And.intro e1 (And.intro hbx ex))))
        have HLM : Hid (y.l.length = y.n.length ∧ y.l.length ≤ 60) := Lib.hid (by have := HCH.out y HYL.out.2; exact ⟨this.1, by have := this.2.1; omega⟩)
        have HALI : Hid ((all.length : Int) = (k : Int) + 1) := Lib.hid (by have := HAL.out; omega)
        clear e0 e1 ex s1 s2 sx hy hx hsl hba hbx
        generalize hAl : all.length = na at *
        have hna : (k : Int) < (na : Int) := by have := HALI.out; omega
        have HAl := Lib.hid hAl
        clear hAl
        go_upto_region 6 with (fail)
        refine wp_region_rely [9, 10, 11] (fun i => if i = 9 then (⟨fun v w' => ∃ sh : List Sheet, Own w' wr.heap.size 24 v sh ∧ sh.length ≤ 12 ∧ ∀ s ∈ sh, SmallS s, fun v w' w'' h hb => by obtain ⟨sh, a, b, c⟩ := h; exact ⟨sh, a.below hb, b, c⟩⟩ : SP) else if i = 10 then (⟨fun v w' => ∃ (sh : List Sheet) (v1 v2 : Value), sh.length ≤ 12 ∧ v = .agg #[v1, v2] ∧ Own w' wr.heap.size 29 v1 (addAll branch (y.l, y.n) sh).1 ∧ Own w' wr.heap.size 9 v2 (addAll branch (y.l, y.n) sh).2, fun v w' w'' h hb => by obtain ⟨sh, v1, v2, a, b, c, d⟩ := h; exact ⟨sh, v1, v2, a, b, c.below hb, d.below hb⟩⟩ : SP) else if i = 11 then SP.box wr.heap.size #[.slice none 0 0, .slice none 0 0] 36 else SP.any) 12 (by kernel_rfl) (by kernel_rfl) ?_
        intro T _ g hg hgm
        have q0 : ∀ d, (g d).cell? ⟨ba, oa + k * 2, none⟩ = some (.slice A1 y.l.length c1) := fun d => ((hg d).cell (p := ⟨ba, oa + k * 2, none⟩) HE.out.1).trans HE.out.2.1
        have q1 : ∀ d, (g d).cell? ⟨ba, oa + k * 2 + 1, none⟩ = some (.slice A2 y.n.length c2) := fun d => ((hg d).cell (p := ⟨ba, oa + k * 2 + 1, none⟩) HE.out.1).trans HE.out.2.2.1
        have q2 : ∀ d, (g d).cell? ⟨bx, ox + k, none⟩ = some (.slice AX x.length cX) := fun d => ((hg d).cell (p := ⟨bx, ox + k, none⟩) HE.out.2.2.2.1).trans HE.out.2.2.2.2
        repeat (refine wpR_pure (by rfl) fun Kq hq => ?_; go_big_quiet_step (fail); refine wpQuiet_nil (hq _ ?_); clear hq Kq)
        refine wpR_busy (by rfl) (by rfl) (fun d hG K Q hK => ?_) (fun v1 d hG hp Kr hr => ?_)
        · go_simp
          go_at_call 10
          refine (some_any AX cX x (g d) (HSX.out.to (hg d))).mono ?_
          rintro e W1 ⟨v1, rfl, sh, ho1, hl1, hm1, hb1⟩
          go_simp
          exact hK _ _ hb1 (⟨sh, ho1.re (hg d).size, hl1, hm1⟩)
        obtain ⟨sh, ho, -⟩ := (show ∃ sh : List Sheet, Own (g d) wr.heap.size 24 v1 sh ∧ _ from hp)
        obtain ⟨A5, c5, rfl, -⟩ := ho.form
        clear ho
        generalize sh.length = n5 at *
        clear sh
        (try clear hp); clear hG
        simp only [Act.put, List.setIfInBounds_toArray, List.set_cons_zero, List.set_cons_succ]
        refine hr _ ?_
        clear hr Kr
        refine wpR_busy (by rfl) (by rfl) (fun d hG K Q hK => ?_) (fun v2 d hG hp Kr hr => ?_)
        · obtain ⟨sh2, ho2, hl2, hm2⟩ := (show ∃ sh2 : List Sheet, Own (g d) wr.heap.size 24 (.slice A5 n5 c5) sh2 ∧ _ from hG 9 (by kernel_rfl))
          obtain ⟨A5', c5', e5, hs5⟩ := ho2.sl
          obtain ⟨rfl, rfl, rfl⟩ : A5 = A5' ∧ n5 = sh2.length ∧ c5 = c5' := by injection e5 with a b c; exact ⟨a, b, c⟩
          go_simp
          go_at_call 15
          refine (add_any branch A1 A2 A5 c1 c2 c5 y.l y.n sh2 (g d) HBR.out (HS1.out.to (hg d)) (HS2.out.to (hg d)) hs5 HLM.out.1 (by have := HLM.out; omega) (fun s hs => by have := smallS_size branch (hm2 s hs); omega) (HK.out.to (HB.out.trans ((hg d).mono HB.out.size)))).mono ?_
          rintro e W1 ⟨v1, v2, rfl, ho1, ho2, hb1⟩
          go_simp
          exact hK _ _ hb1 (⟨sh2, v1, v2, hl2, rfl, ho1.re (hg d).size, ho2.re (hg d).size⟩)
        obtain ⟨sh2, u1, u2, -, rfl, ho1, ho2⟩ := (show ∃ (sh : List Sheet) (u1 u2 : Value), sh.length ≤ 12 ∧ v2 = .agg #[u1, u2] ∧ _ from hp)
        obtain ⟨A6, c6, rfl, -⟩ := ho1.form
        obtain ⟨A7, c7, rfl, -⟩ := ho2.form
        clear ho1 ho2
        generalize (addAll branch (y.l, y.n) sh2).1.length = n6 at *
        generalize (addAll branch (y.l, y.n) sh2).2.length = n7 at *
        clear sh2
        (try clear hp); clear hG
        simp only [Act.put, List.setIfInBounds_toArray, List.set_cons_zero, List.set_cons_succ]
        refine hr _ ?_
        clear hr Kr
        refine wpR_busy (by rfl) (by rfl) (fun d hG K Q hK => ?_) (fun v3 d hG hp Kr hr => ?_)
        · go_simp
          exact hK _ _ ((Below.refl _ _).alloc (Nat.le_refl _) _) ⟨_, rfl, (hg d).size, by simp, heap_alloc_new _ _⟩
        obtain ⟨Lb, rfl, hLb, -⟩ := (show ∃ b, v3 = .pointer (some ⟨b, 0, none⟩) ∧ wr.heap.size ≤ b ∧ _ from hp)
        have HLb := Lib.hid hLb
        clear hLb
        (try clear hp); clear hG
        simp only [Act.put, List.setIfInBounds_toArray, List.set_cons_zero, List.set_cons_succ]
        refine hr _ ?_
        clear hr Kr
        refine wpR_tail 1 (by rfl) (by rfl) (fun d hG => ?_)
        obtain ⟨sh, u1, u2, hl3, he, ho1, ho2⟩ := (show ∃ (sh : List Sheet) (u1 u2 : Value), sh.length ≤ 12 ∧ Value.agg #[.slice A6 n6 c6, .slice A7 n7 c7] = .agg #[u1, u2] ∧ Own (g d) wr.heap.size 29 u1 (addAll branch (y.l, y.n) sh).1 ∧ Own (g d) wr.heap.size 9 u2 (addAll branch (y.l, y.n) sh).2 from hG 10)
        obtain ⟨b', hb', -, hbl, hbh⟩ := (show ∃ b, Value.pointer (some ⟨Lb, 0, none⟩) = .pointer (some ⟨b, 0, none⟩) ∧ wr.heap.size ≤ b ∧ b < (g d).heap.size ∧ (g d).heap[b]? = some (.cells #[.slice none 0 0, .slice none 0 0] 36 (0, 0)) from hG 11)
        cases hb'
        obtain ⟨rfl, rfl⟩ : u1 = .slice A6 n6 c6 ∧ u2 = .slice A7 n7 c7 := by
          have := congrArg (fun v : Value => match v with | .agg cs => cs.toList | _ => []) he
          simp at this
          exact ⟨this.1.symm, this.2.symm⟩
        have HQL := Lib.hid (addAll_len branch sh (y.l, y.n) HLM.out.1)
        have HQP := Lib.hid (addAll_prefix branch sh (y.l, y.n))
        have HSH := Lib.hid hl3
        generalize addAll branch (y.l, y.n) sh = q at *
        obtain ⟨A6', c6', e6, hs6⟩ := ho1.sl
        obtain ⟨A7', c7', e7, hs7⟩ := ho2.sl
        obtain ⟨rfl, rfl, rfl⟩ : A6 = A6' ∧ n6 = q.1.length ∧ c6 = c6' := by injection e6 with a b c; exact ⟨a, b, c⟩
        obtain ⟨rfl, rfl, rfl⟩ : A7 = A7' ∧ n7 = q.2.length ∧ c7 = c7' := by injection e7 with a b c; exact ⟨a, b, c⟩
        have HX : Hid (ABox (g d) Lb 36 [.slice none 0 0, .slice none 0 0]) := Lib.hid hbh
        have b0 := HX.out.cell 0 rfl
        have bf := HX.out.fz
        have b1 := (HX.out.set 0 (.slice A6 q.1.length c6)).cell 1 rfl
        have bf1 := (HX.out.set 0 (.slice A6 q.1.length c6)).fz
        have HB7 := Lib.hid (hg d)
        have HO1 := Lib.hid ho1
        have HO2 := Lib.hid ho2
        have HS6 := Lib.hid hs6
        have HS7 := Lib.hid hs7
        clear hG hg hgm q0 q1 q2 he ho1 ho2 e6 e7 hs6 hs7 hbl hbh hl3
        generalize g d = w6 at *
        clear g
        refine wpAny_one (i := 12) (oi := _) rfl (by kernel_rfl) (by rfl) (fun K hK => ?_)
        go_simp
        refine hK _ _ ?_
        clear hK K
        try simp only [Act.put, List.setIfInBounds_toArray, List.set_cons_zero, List.set_cons_succ]
        refine wpAny_done (by kernel_rfl) ?_ _
        have hkk : ∀ g, g ≠ Lb → ((w6.setCell ⟨Lb, 0, none⟩ (.slice A6 q.1.length c6)).setCell ⟨Lb, 1, none⟩ (.slice A7 q.2.length c7)).heap[g]? = w6.heap[g]? := fun g hg => (heap_set _ _ _ _ hg).trans (heap_set _ _ _ _ hg)
        have n6 := own_ne HO1.out HX.out (by decide)
        have n7 := own_ne HO2.out HX.out (by decide)
        have ho1 : Own ((w6.setCell ⟨Lb, 0, none⟩ (.slice A6 q.1.length c6)).setCell ⟨Lb, 1, none⟩ (.slice A7 q.2.length c7)) wr.heap.size 29 (.slice A6 q.1.length c6) q.1 := own_keepH HO1.out (fun g hg => hkk g (fun e => n6 (by rw [hg, e])))
        have ho2 : Own ((w6.setCell ⟨Lb, 0, none⟩ (.slice A6 q.1.length c6)).setCell ⟨Lb, 1, none⟩ (.slice A7 q.2.length c7)) wr.heap.size 9 (.slice A7 q.2.length c7) q.2 := own_keepS HO2.out (fun g hg => hkk g (fun e => n7 (by rw [hg, e])))
        have HLD : Hid (LB ((w6.setCell ⟨Lb, 0, none⟩ (.slice A6 q.1.length c6)).setCell ⟨Lb, 1, none⟩ (.slice A7 q.2.length c7)) Lb q.1 q.2 A6 c6 A7 c7) := Lib.hid ⟨(HX.out.set 0 _).set 1 _, ho1.slv rfl, ho2.slv rfl⟩
        have hbe : Below wr.heap.size wr ((w6.setCell ⟨Lb, 0, none⟩ (.slice A6 q.1.length c6)).setCell ⟨Lb, 1, none⟩ (.slice A7 q.2.length c7)) := (HB7.out.setCell (p := ⟨Lb, 0, none⟩) HLb.out _).setCell (p := ⟨Lb, 1, none⟩) HLb.out _
        have HO7 := Lib.hid (HO.out.below hbe)
        have HOA := Lib.hid ho1
        have HOB := Lib.hid ho2
        have HBE := Lib.hid (HB.out.trans (hbe.mono HB.out.size))
        have HBA : Hid (ba < wr.heap.size) := Lib.hid HE.out.1
        clear hkk n6 n7 ho1 ho2 hbe HO1 HO2 HS6 HS7 HB7 HX b0 bf b1 bf1 HE HS1 HS2 HSX HO
        unfold Exit.then
        generalize hw7 : World.setCell (World.setCell w6 _ _) _ _ = w7
        have hw8 : ((w6.setCell ⟨Lb, 0, none⟩ (.slice A6 q.1.length c6)).setCell ⟨Lb, 1, none⟩ (.slice A7 q.2.length c7)) = w7 := hw7
        rw [hw8] at HLD HO7 HOA HOB HBE
        clear hw7 hw8
        obtain ⟨wo, rfl⟩ : ∃ wo : World, wo = wr := ⟨_, rfl⟩
        have HQ60 : Hid (q.1.length ≤ 60 ∧ q.1.length ≤ 12 * (k + 1)) := Lib.hid (by
          have h1 : q.1.length ≤ y.l.length + sh.length := HQL.out.2
          have h2 := HSH.out
          have h3 := HCH.out y HYL.out.2
          omega)
        have hq60 : (q.1.length : Int) ≤ 60 := by have := HQ60.out; omega
        go_wp2_with fail
        go_loopw [8] (fun i wx => ∃ j : Nat, j ≤ k + 1 ∧ i = .int .i64 j ∧ Hid (Below w7.heap.size w7 wx)) (fun i _ => k + 1 - (intOf i).toNat)
        case atStart => exact ⟨0, Nat.zero_le _, rfl, Lib.hid (Below.refl _ _)⟩
        case round =>
          obtain ⟨j, hj, rfl, HBw⟩ := hrel
          have HLw := Lib.hid (HLD.out.to HBw.out)
          have HOw := Lib.hid (HO7.out.below HBw.out)
          have HKw : Hid (KLaid wr) := Lib.hid (HK.out.to (HBE.out.trans (HBw.out.mono HBE.out.size)))
          by_cases hjk : j < k + 1
          · have hjk' : (j : Int) ≤ (k : Int) := by omega
            have hj0 : (0 : Int) ≤ (j : Int) := by omega
            have hjna : (j : Int) < (na : Int) := by have := HALI.out; omega
            have hja : j < all.length := by rw [HAl.out, HAL.out]; exact hjk
            obtain ⟨z, hz⟩ : ∃ z, z = all[j] := ⟨_, rfl⟩
            obtain ⟨b', o', B1, d1, B2, d2, eb, -, hbl, e0, e1, s1, s2⟩ := led_at (HOw.out.slv HAl.out.symm) hja
            cases eb
            rw [← hz] at e0 e1 s1 s2
            have HZ : Hid (z.l.length = z.n.length ∧ z.l.length ≤ q.1.length ∧ z.l = q.1.take z.l.length) := Lib.hid (by
              obtain ⟨h1, _, h3⟩ := HCH.out z (by rw [hz]; exact List.getElem_mem _)
              obtain ⟨h4, h5⟩ := h3 y HYL.out.1
              obtain ⟨tt, h6⟩ := HQP.out
              have h7 : q.1 = y.l ++ tt := h6
              refine ⟨h1, by rw [h7, List.length_append]; omega, ?_⟩
              rw [h7, List.take_append_of_le_length h4]; exact h5)
            have HS1 := Lib.hid s1
            have HS2 := Lib.hid s2
            have HE := Lib.hid (And.intro hbl (And.intro e0 e1))
            clear hz e0 e1 s1 s2 hbl
            have hzq : (z.l.length : Int) ≤ (q.1.length : Int) := by have := HZ.out; omega
            have hnq : decide ((q.1.length : Int) < (z.l.length : Int)) = false := decide_eq_false (by omega)
            have hnq2 : ¬ q.1.length < z.l.length := by omega
            have HG := Lib.hid (cgrowth_any (z.l.length : Int) q.1 A6 A7 q.2.length c6 c7 wr HLw.out.l (by have := HQ60.out; omega) HKw.out)
            have HGE : Hid (growthE q.1 (z.l.length : Int) = 0) := Lib.hid (growthE_ok q.1 z.l.length HZ.out.2.1)
            rw [HGE.out] at HG
            have a0 := HE.out.2.1
            have a1 := HLw.out.box.cell 0 rfl
            have a2 := HLw.out.box.cell 1 rfl
            go_wp2_with fail
            refine HG.out.mono ?_
            rintro e w8 ⟨v8, rfl, ho8, hb8⟩
            obtain ⟨A8, c8, rfl, hs8⟩ := ho8.sl
            have HB8 := Lib.hid (HBw.out.trans (hb8.mono HBw.out.size))
            have HL8 := Lib.hid (HLw.out.to hb8)
            have HK8 := Lib.hid (HKw.out.to hb8)
            have HSZ8 := Lib.hid (HS1.out.to hb8)
            have HE8 : Hid (ba < w8.heap.size ∧ w8.cell? ⟨ba, oa + j * 2, none⟩ = some (.slice B1 z.l.length d1) ∧ w8.cell? ⟨ba, oa + j * 2 + 1, none⟩ = some (.slice B2 z.n.length d2)) := Lib.hid ⟨by have := HE.out.1; have := hb8.size; omega, (hb8.cell (p := ⟨ba, oa + j * 2, none⟩) HE.out.1).trans HE.out.2.1, (hb8.cell (p := ⟨ba, oa + j * 2 + 1, none⟩) HE.out.1).trans HE.out.2.2⟩
            have HZ60 : Hid (z.l.length ≤ 1073741824 ∧ q.1.length ≤ 1073741824) := Lib.hid (by have := HQ60.out; have := HZ.out; omega)
            have h32z : (root z.l).length = 32 := root_length _ (h32_len HSZ8.out)
            have h32q : (root q.1).length = 32 := root_length _ (h32_len HL8.out.l)
            obtain ⟨np, hnp⟩ : ∃ np, np = (growthP q.1 (z.l.length : Int)).length := ⟨_, rfl⟩
            rw [← hnp]
            obtain ⟨hvz, hvq, hrq, hdq, HTZ, HTQ, HGR, HRT, HBU, HNE, HVQ⟩ : ∃ (hvz hvq hrq : Value) (hdq : Array Value),
                Hid (∀ W, Below w8.heap.size w8 W → Calls Tryd.prog 17 #[.agg #[.slice B1 z.l.length d1, .slice B2 z.n.length d2]] W fun e w' => e = .returned hvz ∧ Below W.heap.size W w') ∧
                Hid (∀ W, Below w8.heap.size w8 W → Calls Tryd.prog 17 #[.agg #[.slice A6 q.1.length c6, .slice A7 q.2.length c7]] W fun e w' => e = .returned hvq ∧ Below W.heap.size W w') ∧
                Hid (∀ W, Below w8.heap.size w8 W → Calls Tryd.prog 29 #[hvz, hvq, .slice A8 np c8] W fun e w' => e = .returned (.bool true) ∧ Below W.heap.size W w') ∧
                Hid (∀ W, Below w8.heap.size w8 W → Calls Tryd.prog 31 #[.slice A6 q.1.length c6] W fun e w' => e = .returned hrq ∧ Below W.heap.size W w') ∧
                Hid (Tryd.prog.built 40 [(0, .int .i64 (q.1.length : Int)), (1, hrq)] = some hdq) ∧ Hid (∀ W, (binOp .neq 40 (.agg hdq) (.agg hdq)).run Tryd.prog W = .ok (.bool false) W) ∧ hvq = .agg hdq :=
              ⟨headV z.l.length (root z.l), headV q.1.length (root q.1), hashV (root q.1), (headL q.1.length (root q.1)).toArray,
                Lib.hid (fun W hW => top_any B1 B2 d1 z.l.length z.l W d2 z.n.length (HSZ8.out.to hW) rfl HZ60.out.1 (HK8.out.to hW)),
                Lib.hid (fun W hW => top_any A6 A7 c6 q.1.length q.1 W c7 q.2.length (HL8.out.to hW).l rfl HZ60.out.2 (HK8.out.to hW)),
                Lib.hid (fun W hW => by
                  have h1 := grown_any (z.l.length : Int) (q.1.length : Int) (root z.l) (root q.1) h32z h32q A8 c8 np _ W (hs8.to hW) hnp.symm (by have := growthP_length q.1 (z.l.length : Int); have := HQ60.out; omega) (HK8.out.to hW)
                  have h2 := extends_growth q.1 z.l.length HZ.out.2.1 (by have := HQ60.out; omega)
                  rw [← HZ.out.2.2] at h2
                  rwa [h2] at h1),
                Lib.hid (fun W hW => root_any q.1 A6 q.1.length c6 W (HL8.out.to hW).l rfl HZ60.out.2 (HK8.out.to hW)),
                Lib.hid (head_built _ _ h32q), Lib.hid (fun W => run_head_neq _ _ h32q W), rfl⟩
            subst HVQ
            have HZ := HZ
            clear hb8 ho8 hs8 hnp h32z h32q HLw HKw HS1 HS2 HE HG HBw HOw a0 a1 a2
            go_upto_region 12 with (fail)
            refine wp_region_rely [14, 16, 18] (fun i => if i = 14 then SP.val hvz else if i = 16 then SP.val (.agg hdq) else if i = 18 then SP.val (.bool true) else SP.any) 21 (by kernel_rfl) (by kernel_rfl) ?_
            intro T _ g hg hgm
            have q0 : ∀ d, (g d).cell? ⟨ba, oa + j * 2, none⟩ = some (.slice B1 z.l.length d1) := fun d => ((hg d).cell (p := ⟨ba, oa + j * 2, none⟩) HE8.out.1).trans HE8.out.2.1
            have q1 : ∀ d, (g d).cell? ⟨ba, oa + j * 2 + 1, none⟩ = some (.slice B2 z.n.length d2) := fun d => ((hg d).cell (p := ⟨ba, oa + j * 2 + 1, none⟩) HE8.out.1).trans HE8.out.2.2
            have q2 : ∀ d, (g d).cell? ⟨Lb, 0, none⟩ = some (.slice A6 q.1.length c6) := fun d => (HL8.out.box.to (hg d)).cell 0 rfl
            have q3 : ∀ d, (g d).cell? ⟨Lb, 1, none⟩ = some (.slice A7 q.2.length c7) := fun d => (HL8.out.box.to (hg d)).cell 1 rfl
            repeat (refine wpR_pure (by rfl) fun Kq hq => ?_; go_big_quiet_step (fail); refine wpQuiet_nil (hq _ ?_); clear hq Kq)
            refine wpR_busy (by rfl) (by rfl) (fun d hG K Q hK => ?_) (fun v1 d hG hp Kr hr => ?_)
            · go_simp
              go_at_call 17
              refine (HTZ.out (g d) (hg d)).mono ?_
              rintro e W1 ⟨rfl, hb1⟩
              go_simp
              exact hK _ _ hb1 (rfl)
            obtain rfl : v1 = hvz := hp
            (try clear hp); clear hG
            simp only [Act.put, List.setIfInBounds_toArray, List.set_cons_zero, List.set_cons_succ]
            refine hr _ ?_
            clear hr Kr
            repeat (refine wpR_pure (by rfl) fun Kq hq => ?_; go_big_quiet_step (fail); refine wpQuiet_nil (hq _ ?_); clear hq Kq)
            refine wpR_busy (by rfl) (by rfl) (fun d hG K Q hK => ?_) (fun v1 d hG hp Kr hr => ?_)
            · go_simp
              go_at_call 17
              refine (HTQ.out (g d) (hg d)).mono ?_
              rintro e W1 ⟨rfl, hb1⟩
              go_simp
              exact hK _ _ hb1 (rfl)
            obtain rfl : v1 = .agg hdq := hp
            (try clear hp); clear hG
            simp only [Act.put, List.setIfInBounds_toArray, List.set_cons_zero, List.set_cons_succ]
            refine hr _ ?_
            clear hr Kr
            repeat (refine wpR_pure (by rfl) fun Kq hq => ?_; go_big_quiet_step (fail); refine wpQuiet_nil (hq _ ?_); clear hq Kq)
            refine wpR_busy (by rfl) (by rfl) (fun d hG K Q hK => ?_) (fun v1 d hG hp Kr hr => ?_)
            · go_simp
              go_at_call 29
              refine (HGR.out (g d) (hg d)).mono ?_
              rintro e W1 ⟨rfl, hb1⟩
              go_simp
              exact hK _ _ hb1 (rfl)
            obtain rfl : v1 = .bool true := hp
            (try clear hp); clear hG
            simp only [Act.put, List.setIfInBounds_toArray, List.set_cons_zero, List.set_cons_succ]
            refine hr _ ?_
            clear hr Kr
            repeat (refine wpR_pure (by rfl) fun Kq hq => ?_; go_big_quiet_step (fail); refine wpQuiet_nil (hq _ ?_); clear hq Kq)
            refine wpR_end (by kernel_rfl) (fun d hG => ?_) _
            have HB99 := Lib.hid (HB8.out.trans ((hg d).mono HB8.out.size))
            have HBd := Lib.hid (hg d)
            clear hG hg hgm
            unfold Exit.then
            skip
            have HL9 := Lib.hid (HL8.out.to HBd.out)
            have HK9 := Lib.hid (HK8.out.to HBd.out)
            have HE9 : Hid (ba < (g d).heap.size ∧ (g d).cell? ⟨ba, oa + j * 2, none⟩ = some (.slice B1 z.l.length d1)) := Lib.hid ⟨by have := HE8.out.1; have := HBd.out.size; omega, (HBd.out.cell (p := ⟨ba, oa + j * 2, none⟩) HE8.out.1).trans HE8.out.2.1⟩
            have HSH9 : Hid (∀ W, Below (g d).heap.size (g d) W → Calls Tryd.prog 24 #[.slice A6 z.l.length c6, .slice B1 z.l.length d1] W fun e w' => e = .returned (.bool true) ∧ Below W.heap.size W w') := Lib.hid (fun W hW => by
              have h1 := same_hashes A6 B1 c6 d1 z.l.length z.l.length (q.1.take z.l.length) z.l W ((HL9.out.to hW).l.take _ HZ.out.2.1) ((HSZ8.out.to HBd.out).to hW) (by rw [List.length_take]; have := HZ.out; omega) rfl
              rwa [decide_eq_true HZ.out.2.2.symm] at h1)
            have hc6 : z.l.length ≤ c6 := by have := HL9.out.l.1; have := HZ.out; omega
            have hc6b : c6 ≤ 9223372036854775807 := by have := HL9.out.l.2.1; unfold maxLen at this; omega
            have HTQ9 : Hid (∀ W, Below (g d).heap.size (g d) W → Calls Tryd.prog 17 #[.agg #[.slice A6 q.1.length c6, .slice A7 q.2.length c7]] W fun e w' => e = .returned (.agg hdq) ∧ Below W.heap.size W w') := Lib.hid (fun W hW => HTQ.out W (HBd.out.trans (hW.mono HBd.out.size)))
            have HRT9 : Hid (∀ W, Below (g d).heap.size (g d) W → Calls Tryd.prog 31 #[.slice A6 q.1.length c6] W fun e w' => e = .returned hrq ∧ Below W.heap.size W w') := Lib.hid (fun W hW => HRT.out W (HBd.out.trans (hW.mono HBd.out.size)))
            clear q0 q1 q2 q3 HL8 HK8 HE8 HSZ8 HTZ HTQ HGR HRT HBd HB8
            generalize g d = w9 at *
            clear g
            go_upto_region 14 with (fail)
            refine wp_region_rely [9, 13, 19] (fun i => if i = 9 then SP.val (.bool true) else if i = 13 then SP.val (.agg hdq) else if i = 19 then SP.val hrq else SP.any) 23 (by kernel_rfl) (by kernel_rfl) ?_
            intro T _ g hg hgm
            have q0 : ∀ d, (g d).cell? ⟨ba, oa + j * 2, none⟩ = some (.slice B1 z.l.length d1) := fun d => ((hg d).cell (p := ⟨ba, oa + j * 2, none⟩) HE9.out.1).trans HE9.out.2
            have q2 : ∀ d, (g d).cell? ⟨Lb, 0, none⟩ = some (.slice A6 q.1.length c6) := fun d => (HL9.out.box.to (hg d)).cell 0 rfl
            have q3 : ∀ d, (g d).cell? ⟨Lb, 1, none⟩ = some (.slice A7 q.2.length c7) := fun d => (HL9.out.box.to (hg d)).cell 1 rfl
            repeat (refine wpR_pure (by rfl) fun Kq hq => ?_; go_big_quiet_step (fail); refine wpQuiet_nil (hq _ ?_); clear hq Kq)
            refine wpR_busy (by rfl) (by rfl) (fun d hG K Q hK => ?_) (fun v1 d hG hp Kr hr => ?_)
            · go_simp
              go_at_call 24
              refine (HSH9.out (g d) (hg d)).mono ?_
              rintro e W1 ⟨rfl, hb1⟩
              go_simp
              exact hK _ _ hb1 (rfl)
            obtain rfl : v1 = .bool true := hp
            (try clear hp); clear hG
            simp only [Act.put, List.setIfInBounds_toArray, List.set_cons_zero, List.set_cons_succ]
            refine hr _ ?_
            clear hr Kr
            repeat (refine wpR_pure (by rfl) fun Kq hq => ?_; go_big_quiet_step (fail); refine wpQuiet_nil (hq _ ?_); clear hq Kq)
            refine wpR_busy (by rfl) (by rfl) (fun d hG K Q hK => ?_) (fun v1 d hG hp Kr hr => ?_)
            · go_simp
              go_at_call 17
              refine (HTQ9.out (g d) (hg d)).mono ?_
              rintro e W1 ⟨rfl, hb1⟩
              go_simp
              exact hK _ _ hb1 (rfl)
            obtain rfl : v1 = .agg hdq := hp
            (try clear hp); clear hG
            simp only [Act.put, List.setIfInBounds_toArray, List.set_cons_zero, List.set_cons_succ]
            refine hr _ ?_
            clear hr Kr
            repeat (refine wpR_pure (by rfl) fun Kq hq => ?_; go_big_quiet_step (fail); refine wpQuiet_nil (hq _ ?_); clear hq Kq)
            refine wpR_busy (by rfl) (by rfl) (fun d hG K Q hK => ?_) (fun v1 d hG hp Kr hr => ?_)
            · go_simp
              go_at_call 31
              refine (HRT9.out (g d) (hg d)).mono ?_
              rintro e W1 ⟨rfl, hb1⟩
              go_simp
              exact hK _ _ hb1 (rfl)
            obtain rfl : hrq = v1 := Eq.symm hp
            (try clear hp); clear hG
            simp only [Act.put, List.setIfInBounds_toArray, List.set_cons_zero, List.set_cons_succ]
            refine hr _ ?_
            clear hr Kr
            refine wpR_pure (by rfl) fun Kq hq => ?_
            refine wpQuiet_run (by rfl) (.agg hdq) ?_ (wpQuiet_nil ?_)
            · rintro _ ⟨d, rfl⟩
              exact exec_built 40 [(0, .tmp 91), (1, .tmp 94)] rfl [(0, .int .i64 (q.1.length : Int)), (1, hrq)] rfl _ HBU.out
            simp only [Act.put, List.setIfInBounds_toArray, List.set_cons_zero, List.set_cons_succ]
            refine hq _ ?_
            clear hq Kq
            refine wpR_pure (by rfl) fun Kq hq => ?_
            refine wpQuiet_run (by rfl) (.bool false) ?_ (wpQuiet_nil ?_)
            · rintro _ ⟨d, rfl⟩
              exact exec_neq 40 40 (.tmp 88) (.tmp 95) rfl hdq hdq rfl rfl guard_head false (HNE.out _)
            simp only [Act.put, List.setIfInBounds_toArray, List.set_cons_zero, List.set_cons_succ]
            refine hq _ ?_
            clear hq Kq
            repeat (refine wpR_pure (by rfl) fun Kq hq => ?_; go_big_quiet_step (fail); refine wpQuiet_nil (hq _ ?_); clear hq Kq)
            refine wpR_end (by kernel_rfl) (fun d hG => ?_) _
            have HB9 : Hid (Below w7.heap.size w7 (g d)) := Lib.hid (HB99.out.trans ((hg d).mono HB99.out.size))
            have HBd := Lib.hid (hg d)
            clear hG hg hgm
            unfold Exit.then
            clear q0 q2 q3 HL9 HK9 HE9 HSH9 HTQ9 HRT9 HBd
            generalize g d = w10 at *
            clear g
            go_wp2_with fail
            go_roundw
            case rel => exact ⟨j + 1, by omega, by go_num, HB9⟩
            case measure => (simp [intOf]; omega)
          · have hjk' : ¬ (j : Int) ≤ (k : Int) := by omega
            have a1 := HLw.out.box.cell 0 rfl
            have a2 := HLw.out.box.cell 1 rfl
            have hal : Below wr.heap.size wr (wr.alloc (.cells #[.slice A6 q.1.length c6, .slice A7 q.2.length c7] 36)) := (Below.refl _ _).alloc (Nat.le_refl _) _
            have HOw2 : Hid (Own (wr.alloc (.cells #[.slice A6 q.1.length c6, .slice A7 q.2.length c7] 36)) w.heap.size 36 (.slice (some ⟨ba, oa, none⟩) na c3) all) := Lib.hid (HOw.out.below hal)
            have HRR : Hid (Rep.R (wr.alloc (.cells #[.slice A6 q.1.length c6, .slice A7 q.2.length c7] 36)) (fun b => some b ≠ (Value.slice (some ⟨ba, oa, none⟩) na c3).ownBlock) [.slice A6 q.1.length c6, .slice A7 q.2.length c7] (⟨q.1, q.2⟩ : Led)) := Lib.hid (by
              have hx1 := ((HOA.out.below HBw.out).below hal).sl_far rfl (fun _ _ _ _ h => h) HBA.out
              have hx2 := ((HOB.out.below HBw.out).below hal).sl_far rfl (fun _ _ _ _ h => h) HBA.out
              have hne : ∀ b, b ≠ ba → some b ≠ (Value.slice (some ⟨ba, oa, none⟩) na c3).ownBlock := fun b hb he => hb (by simpa [Value.ownBlock] using he)
              have h1 := HQL.out.1
              have h2 := HQ60.out
              exact ⟨_, _, rfl, ⟨A6, c6, rfl, hx1.mono (fun b hb _ => hne b hb), show q.1.length < 9223372036854775808 by omega⟩, ⟨A7, c7, rfl, hx2.mono (fun b hb _ => hne b hb), show q.2.length < 9223372036854775808 by omega⟩⟩)
            have HHw : Hid ((wr.alloc (.cells #[.slice A6 q.1.length c6, .slice A7 q.2.length c7] 36)).heap[wr.heap.size]? = some (.cells #[.slice A6 q.1.length c6, .slice A7 q.2.length c7] 36 (0, 0))) := Lib.hid (heap_alloc_new wr _)
            have HBz := Lib.hid (HBE.out.trans (HBw.out.mono HBE.out.size))
            have HSB : Hid ((all.length + 1) * 48 ≤ 140737488355328 ∧ all.length + 1 ≤ 9223372036854775807) := Lib.hid (by have h1 := HAl.out; have h2 := HAL.out; omega)
            clear hal
            rw [← HAl.out] at HOw2 HOw HRR ⊢
            go_wp2_with (first
              | (at_builtin; refine wpList_push (α := Led) _ rfl (.tmp 98) (.tmp 100) 58 rfl w.heap.size 36 (.agg #[.slice none 0 0, .slice none 0 0]) 48 Tryd.underlying58 led_info rfl (by decide) (.slice (some ⟨ba, oa, none⟩) all.length c3) all rfl HOw2.out wr.heap.size #[.slice A6 q.1.length c6, .slice A7 q.2.length c7] ⟨q.1, q.2⟩ (0, 0) 36 rfl HHw.out HRR.out HSB.out.1 HSB.out.2 (by have := HBz.out.size; simp; omega) _ rfl ?_; intro g5 p5 w5 hown5 hg5 hat5 hlt5)
              | fail)
            go_roundw
            case rel => exact ⟨k + 1, all ++ [⟨q.1, q.2⟩], by omega, by go_num, by omega, Lib.hid (by rw [List.length_append, List.length_singleton, HAl.out, HAL.out]), Lib.hid (HCH.out.next HYL.out.1 HQL.out.1 HQ60.out.2 HQP.out), Lib.hid hown5, Lib.hid (below_push HBz.out HOw.out HBz.out.size hg5)⟩
            case measure => (simp [intOf]; omega)
      · have h5' : ¬ (k : Int) < 5 := by omega
        have hkl : (k : Int) < (ll.length : Int) := by omega
        have HLV := Lib.hid (lives_any wr (HK.out.to HB.out))
        go_wp2_with fail
        refine HLV.out.mono ?_
        rintro e w9 ⟨rfl, hb9⟩
        have HB9 : Hid (Below w.heap.size w w9) := Lib.hid (HB.out.trans (hb9.mono HB.out.size))
        clear hb9 HLV
        go_wp2_with fail
        go_ret
        exact ⟨rfl, HB9.out⟩
    · have hkl : ¬ (k : Int) < (ll.length : Int) := by omega
      have HLV := Lib.hid (lives_any wr (HK.out.to HB.out))
      go_wp2_with fail
      refine HLV.out.mono ?_
      rintro e w9 ⟨rfl, hb9⟩
      have HB9 : Hid (Below w.heap.size w w9) := Lib.hid (HB.out.trans (hb9.mono HB.out.size))
      clear hb9 HLV
      go_wp2_with fail
      go_ret
      exact ⟨rfl, HB9.out⟩
end Go.Proofs.YthcklfelofpffaaDoor
namespace Go.Proofs.YthcklfelofpffaaDoor
open Go.RowKit
/-- A reader and the bytes that are left. -/
structure RS (W : World) (P : Nat) (A : Option Addr) (c : Nat) (l : List UInt8) : Prop where
  box : ABox W P 104 [.slice A l.length c, .int .i64 0]
  sl : Sl W (fun b => b < P) A c l
abbrev OP (P : Nat) : Nat → Prop := fun g => g = P
theorem RS.out {W W' : World} {P : Nat} {A : Option Addr} {c : Nat} {l : List UInt8} (h : RS W P A c l) (hb : Below W.heap.size W W') : RS W' P A c l :=
  ⟨h.box.to hb, (h.sl.keep (Kept.all hb) hb.size)⟩
theorem RS.set {W : World} {P : Nat} {A A' : Option Addr} {c c' : Nat} {l l' : List UInt8} (h : RS W P A c l) (hs : Sl W (fun b => b < P) A' c' l') : RS (W.setCell ⟨P, 0, none⟩ (.slice A' l'.length c')) P A' c' l' := by
  refine ⟨h.box.set 0 _, hs.keep (fun i hi _ => heap_set _ _ _ _ (by omega)) (by simp)⟩
theorem rbyte_at {W : World} {S : Nat → Prop} {A : Option Addr} {c : Nat} {l : List UInt8} (h : Sl W S A c l) {k : Nat} (hk : k < l.length) : ∃ b o, A = some ⟨b, o, none⟩ ∧ S b ∧ b < W.heap.size ∧ W.cell? ⟨b, o + k, none⟩ = some (.int .u8 (l[k].toNat : Int)) := by
  obtain ⟨b, o, es, rfl, hb, hlt, he, hc⟩ := h.at_ hk
  have he' : es = [.int .u8 (l[k].toNat : Int)] := he
  subst he'
  exact ⟨b, o, rfl, hb, hlt, by simpa [Rep.size] using hc 0 _ rfl⟩
theorem and127 (x : UInt8) : bits .and .u8 (x.toNat : Int) 127 = ((x.toNat % 128 : Nat) : Int) := by
  have h : ∀ r : Nat, r < 256 → bits .and .u8 (r : Int) 127 = ((r % 128 : Nat) : Int) := by decide +kernel
  exact h _ x.toNat_lt
theorem or_apart (a d i : Nat) (ha : a < 2 ^ i) (hd : a + d * 2 ^ i < 18446744073709551616) : bits .or .u64 (a : Int) ((d * 2 ^ i : Nat) : Int) = ((a + d * 2 ^ i : Nat) : Int) := by
  have hb : ∀ (a b : BitVec 64), bits .or .u64 (a.toNat : Int) (b.toNat : Int) = ((a ||| b).toNat : Int) := fun a b => by
    have e : bits .or .u64 (a.toNat : Int) (b.toNat : Int) = IntKind.u64.wrap ((BitVec.ofInt 64 (a.toNat : Int) ||| BitVec.ofInt 64 (b.toNat : Int)).toNat : Int) := rfl
    have f : ∀ x : BitVec 64, BitVec.ofInt 64 (x.toNat : Int) = x := fun x => by apply BitVec.eq_of_toNat_eq; rw [BitVec.toNat_ofInt]; have := x.isLt; omega
    have hw : ∀ z : Int, IntKind.u64.wrap z = z % 18446744073709551616 := fun z => rfl
    rw [e, f, f, hw]; have := (a ||| b).isLt; omega
  have h1 : (BitVec.ofNat 64 a).toNat = a := by rw [BitVec.toNat_ofNat]; omega
  have h2 : (BitVec.ofNat 64 (d * 2 ^ i)).toNat = d * 2 ^ i := by rw [BitVec.toNat_ofNat]; omega
  have h3 := hb (BitVec.ofNat 64 a) (BitVec.ofNat 64 (d * 2 ^ i))
  rw [h1, h2, BitVec.toNat_or, h1, h2] at h3
  rw [h3, Nat.or_comm, ← Nat.shiftLeft_eq, ← Nat.shiftLeft_add_eq_or_of_lt ha, Nat.shiftLeft_eq, Nat.add_comm]
theorem sl_drop8 {W : World} {S : Nat → Prop} {b o c : Nat} {l : List UInt8} (h : Sl W S (some ⟨b, o, none⟩) c l) (k : Nat) (hk : k ≤ l.length) : Sl W S (if c = k then some ⟨b, o, none⟩ else some ⟨b, o + k, none⟩) (c - k) (l.drop k) := by
  have hd := h.drop k hk
  have e : (if c = k then some (⟨b, o, none⟩ : Addr) else Option.map (fun x : Addr => x.add (k * Rep.size UInt8)) (some (⟨b, o, none⟩ : Addr))) = (if c = k then some ⟨b, o, none⟩ else some ⟨b, o + k, none⟩) := by
    rw [Option.map_some, addr_add]; simp [Rep.size]
  rwa [e] at hd
theorem pow7 (j : Nat) : 2 ^ (7 * (j + 1)) = 128 * 2 ^ (7 * j) := by rw [Nat.mul_add, Nat.pow_add]; omega
set_option maxRecDepth 100000 in
set_option maxHeartbeats 4000000 in
theorem rduint_any (P : Nat) (A : Option Addr) (c : Nat) (N : Nat) (rest l : List UInt8) (w : World) (hN : N < 18446744073709551616) (hl : l = uintB N ++ rest) (hs : l.length ≤ 1073741824) (h : RS w P A c l) :
    Calls Tryd.prog 67 #[.pointer (some ⟨P, 0, none⟩)] w fun e w' => e = .returned (.int .u64 (N : Int)) ∧ ∃ A' c', RS w' P A' c' rest ∧ Out (OP P) w w' := by
  have HR := Lib.hid h
  have HL := Lib.hid hl
  have HNN := Lib.hid hN
  have HS := Lib.hid hs
  clear h hl hN hs
  go_enter Tryd.func67, Tryd.ntmps67
  have k0 := HR.out.box.cell 1 rfl
  go_wp2_with fail
  go_step3
  go_wp2_with fail
  go_step3
  go_wp2_with fail
  go_loopw [3, 4] (fun x i wr => ∃ j acc m : Nat, j ≤ 9 ∧ i = .int .i64 j ∧ x = .int .u64 (acc : Int) ∧ Hid (N = acc + m * 2 ^ (7 * j) ∧ acc < 2 ^ (7 * j) ∧ (1 ≤ j → 1 ≤ m)) ∧ Hid (∃ pre : List UInt8, pre.length = j ∧ l = pre ++ uintB m ++ rest) ∧ Hid (w = wr)) (fun x i _ => 10 - (intOf i).toNat)
  case atStart => exact ⟨0, 0, N, by omega, rfl, rfl, Lib.hid ⟨by simp, by simp, by omega⟩, Lib.hid ⟨[], rfl, by rw [List.nil_append]; exact HL.out⟩, Lib.hid rfl⟩
  case round =>
    obtain ⟨j, acc, m, hj, rfl, rfl, HI, HP, HW⟩ := hrel
    obtain rfl := HW.out
    clear HW
    obtain ⟨pre, hpl, hpe⟩ := HP.out
    obtain ⟨by8, tl, hub⟩ : ∃ by8 tl, uintB m = by8 :: tl := by
      cases h : uintB m with
      | nil => have := uintB_pos m; rw [h] at this; simp at this
      | cons a b => exact ⟨a, b, rfl⟩
    have hjl : j < l.length := by rw [hpe, List.length_append, List.length_append, hub]; simp; omega
    have hle : l[j] = by8 := by
      have h1 : l[j]? = some by8 := by rw [hpe, hub, List.append_assoc, List.getElem?_append_right (by omega), hpl, Nat.sub_self]; rfl
      rw [List.getElem?_eq_getElem hjl] at h1
      exact Option.some.inj h1
    obtain ⟨b, o, rfl, hbP, hbl, hcell⟩ := rbyte_at HR.out.sl hjl
    rw [hle] at hcell
    have hs0 := HS.out
    have hjn : ¬ (j : Int) = 10 := by omega
    have hjl2 : ¬ (j : Int) = (l.length : Int) := by omega
    have hjl3 : (j : Int) < (l.length : Int) := by omega
    have hjl4 : (l.length : Int) ≤ 1073741824 := by omega
    have hj0 : (0 : Int) ≤ (j : Int) := by omega
    have k1 := HR.out.box.cell 0 rfl
    have HUB := Lib.hid hub
    have HPE := Lib.hid (And.intro hpl hpe)
    have hNL : l.length = l.length := rfl
    clear hub hpl hpe hle hs0
    obtain ⟨nl, hnl⟩ : ∃ n, n = l.length := ⟨_, rfl⟩
    rw [← hnl] at hjl hjl2 hjl3 hjl4 k1
    have HNL := Lib.hid hnl
    clear hnl hNL
    obtain ⟨i1, i2, i3⟩ := HI.out
    have kf := HR.out.box.fz
    have hnc : nl ≤ c := by have := HR.out.sl.1; have := HNL.out; omega
    have hcm : c ≤ 9223372036854775807 := by have := HR.out.sl.2.1; unfold maxLen at this; omega
    have hpp : 0 < 2 ^ (7 * j) := Nat.pow_pos (by decide)
    have hmp : m * 2 ^ (7 * j) < 18446744073709551616 := by have := HNN.out; omega
    have hdm : m % 128 * 2 ^ (7 * j) ≤ m * 2 ^ (7 * j) := Nat.mul_le_mul_right _ (Nat.mod_le _ _)
    have q1 := and127 by8
    have q4 := or_apart acc (m % 128) (7 * j) i2 (by have := HNN.out; omega)
    have q3 : IntKind.u64.wrap (((m % 128 : Nat) : Int) * 2 ^ (7 * j)) = ((m % 128 * 2 ^ (7 * j) : Nat) : Int) := by
      have e : (((m % 128 : Nat) : Int) * 2 ^ (7 * j)) = ((m % 128 * 2 ^ (7 * j) : Nat) : Int) := by push_cast; rfl
      rw [e, show IntKind.u64.wrap ((m % 128 * 2 ^ (7 * j) : Nat) : Int) = ((m % 128 * 2 ^ (7 * j) : Nat) : Int) % 18446744073709551616 from rfl]
      omega
    have q2 : IntKind.u64.wrap ((m % 128 : Nat) : Int) = ((m % 128 : Nat) : Int) := by
      rw [show IntKind.u64.wrap ((m % 128 : Nat) : Int) = ((m % 128 : Nat) : Int) % 18446744073709551616 from rfl]; omega
    have h8 : by8.toNat % 128 = m % 128 ∧ (m < 128 → by8.toNat = m ∧ tl = []) ∧ (128 ≤ m → 128 ≤ by8.toNat ∧ tl = uintB (m / 128)) := by
      have hu := HUB.out
      by_cases hm : m < 128
      · rw [uintB_lt hm] at hu
        obtain ⟨rfl, rfl⟩ := List.cons.inj hu
        have e : (UInt8.ofNat m).toNat = m := by rw [UInt8.toNat_ofNat']; omega
        exact ⟨by rw [e], fun _ => ⟨e, rfl⟩, fun h => by omega⟩
      · rw [uintB_ge (by omega) (by have := Nat.le_mul_of_pos_right m hpp; omega)] at hu
        obtain ⟨rfl, rfl⟩ := List.cons.inj hu
        have e : (UInt8.ofNat (m % 128 + 128)).toNat = m % 128 + 128 := by rw [UInt8.toNat_ofNat']; omega
        exact ⟨by rw [e]; omega, fun h => by omega, fun _ => ⟨by rw [e]; omega, rfl⟩⟩
    rw [h8.1] at q1
    obtain ⟨dm, hdm2⟩ : ∃ d, d = m % 128 := ⟨_, rfl⟩
    rw [← hdm2] at q1 q2 q3 q4 hdm
    have HDM := Lib.hid hdm2
    clear hdm2
    obtain ⟨acc2, ha2⟩ : ∃ x, x = acc + dm * 2 ^ (7 * j) := ⟨_, rfl⟩
    rw [← ha2] at q4
    have HA2 := Lib.hid ha2
    have H8 := Lib.hid h8
    have HMP := Lib.hid (And.intro hpp hmp)
    have HN2 : Hid (N = acc2 + m / 128 * 2 ^ (7 * (j + 1)) ∧ acc2 < 2 ^ (7 * (j + 1))) := Lib.hid (by
      have hq := HDM.out
      rw [hq] at ha2
      have hd : m % 128 < 128 := Nat.mod_lt _ (by decide)
      have h1 : m % 128 * 2 ^ (7 * j) ≤ 127 * 2 ^ (7 * j) := Nat.mul_le_mul_right _ (by omega)
      have h2 : m * 2 ^ (7 * j) = m % 128 * 2 ^ (7 * j) + m / 128 * (128 * 2 ^ (7 * j)) := by
        rw [← Nat.mul_assoc, ← Nat.add_mul]; congr 1; omega
      rw [pow7]
      constructor <;> omega)
    have HM1 : Hid ((j = 9 → m ≤ 1) ∧ (128 ≤ m → j + 1 ≤ 9) ∧ (1 ≤ j → 1 ≤ m)) := Lib.hid (by
      refine ⟨fun h => ?_, fun h => ?_, i3⟩
      · subst h; simp at hmp; omega
      · rcases Nat.lt_or_ge j 9 with h9 | h9
        · omega
        · obtain rfl : j = 9 := by omega
          simp at hmp; omega)
    clear ha2 h8 hpp hmp hdm i1 i2 i3
    generalize dm * 2 ^ (7 * j) = dd at *
    by_cases hm : m < 128
    · have h128 : (by8.toNat : Int) < 128 := by have := (H8.out.2.1 hm).1; omega
      have HD := Lib.hid (sl_drop8 HR.out.sl (j + 1) (by have := HNL.out; omega))
      have HDR : Hid (l.drop (j + 1) = rest) := Lib.hid (by
        obtain ⟨h1, h2⟩ := HPE.out
        rw [h2, HUB.out, (H8.out.2.1 hm).2, ← h1, List.append_assoc, List.drop_length_add_append]; rfl)
      have HNE : Hid (N = acc2) := Lib.hid (by have h1 := HN2.out.1; rw [Nat.div_eq_of_lt hm] at h1; omega)
      have HRL : Hid (rest.length = nl - (j + 1)) := Lib.hid (by rw [← HDR.out, List.length_drop, ← HNL.out])
      have HOU : Hid (∀ v, Out (OP P) w (w.setCell ⟨P, 0, none⟩ v)) := Lib.hid (fun v => (Out.refl (OP P) w).set (.inl (show P = P from rfl)) 0 v)
      have HRS : Hid (RS (w.setCell ⟨P, 0, none⟩ (.slice (if c = j + 1 then some ⟨b, o, none⟩ else some ⟨b, o + (j + 1), none⟩) (nl - (j + 1)) (c - (j + 1)))) P (if c = j + 1 then some ⟨b, o, none⟩ else some ⟨b, o + (j + 1), none⟩) (c - (j + 1)) rest) := Lib.hid (by
        have h := HR.out.set HD.out
        rw [HDR.out, HRL.out] at h
        exact h)
      have hnl1 : j + 1 ≤ nl := by omega
      have hc1 : j + 1 ≤ c := by omega
      by_cases hj9 : j = 9
      · have h10 : (((j : Int) + 1) == 10) = true := by rw [beq_iff_eq]; omega
        have hle1 : (by8.toNat : Int) ≤ 1 := by have := (H8.out.2.1 hm).1; have := HM1.out.1 hj9; omega
        have h0 : ((by8.toNat : Int) == 0) = false := by rw [beq_eq_false_iff_ne]; have := (H8.out.2.1 hm).1; have := HM1.out.2.2 (by omega); omega
        have hj2 : (1 : Int) < (j : Int) + 1 := by omega
        clear hj9
        by_cases hcc : c = j + 1
        · rw [if_pos hcc] at HRS
          subst hcc
          rw [show nl - (j + 1) = 0 by omega, Nat.sub_self] at HRS
          go_wp2_with fail
          try rw [Exit.noGoto_ret]
          go_ret
          exact ⟨by rw [HNE.out]; rfl, _, _, HRS.out, HOU.out _⟩
        · rw [if_neg hcc] at HRS
          go_wp2_with fail
          try rw [Exit.noGoto_ret]
          go_ret
          exact ⟨by rw [HNE.out]; rfl, _, _, HRS.out, HOU.out _⟩
      · have h10 : ¬ (j : Int) + 1 = 10 := by omega
        by_cases hj1 : 1 ≤ j
        · have h0 : ((by8.toNat : Int) == 0) = false := by rw [beq_eq_false_iff_ne]; have := (H8.out.2.1 hm).1; have := HM1.out.2.2 (by omega); omega
          have hj2 : (1 : Int) < (j : Int) + 1 := by omega
          by_cases hcc : c = j + 1
          · rw [if_pos hcc] at HRS
            subst hcc
            rw [show nl - (j + 1) = 0 by omega, Nat.sub_self] at HRS
            go_wp2_with fail
            try rw [Exit.noGoto_ret]
            go_ret
            exact ⟨by rw [HNE.out]; rfl, _, _, HRS.out, HOU.out _⟩
          · rw [if_neg hcc] at HRS
            go_wp2_with fail
            try rw [Exit.noGoto_ret]
            go_ret
            exact ⟨by rw [HNE.out]; rfl, _, _, HRS.out, HOU.out _⟩
        · have hj2 : ¬ (1 : Int) < (j : Int) + 1 := by omega
          by_cases hcc : c = j + 1
          · rw [if_pos hcc] at HRS
            subst hcc
            rw [show nl - (j + 1) = 0 by omega, Nat.sub_self] at HRS
            go_wp2_with fail
            try rw [Exit.noGoto_ret]
            go_ret
            exact ⟨by rw [HNE.out]; rfl, _, _, HRS.out, HOU.out _⟩
          · rw [if_neg hcc] at HRS
            go_wp2_with fail
            try rw [Exit.noGoto_ret]
            go_ret
            exact ⟨by rw [HNE.out]; rfl, _, _, HRS.out, HOU.out _⟩
    · have h128 : ¬ (by8.toNat : Int) < 128 := by have := (H8.out.2.2 (by omega)).1; omega
      have hj8 : j + 1 ≤ 9 := HM1.out.2.1 (by omega)
      have HTL := Lib.hid (H8.out.2.2 (by omega)).2
      go_wp2_with fail
      go_roundw
      case rel => exact ⟨j + 1, acc2, m / 128, by omega, by go_num, rfl, Lib.hid ⟨HN2.out.1, HN2.out.2, fun _ => by omega⟩, Lib.hid ⟨pre ++ [by8], by rw [List.length_append, HPE.out.1]; rfl, by rw [HPE.out.2, HUB.out, HTL.out]; simp⟩, Lib.hid (by trivial)⟩
      case measure => (simp [intOf]; omega)
end Go.Proofs.YthcklfelofpffaaDoor
namespace Go.Proofs.YthcklfelofpffaaDoor
open Go.RowKit
theorem and_one (z : Nat) (hz : z < 18446744073709551616) : bits .and .u64 (z : Int) 1 = ((z % 2 : Nat) : Int) := by
  have e : bits .and .u64 (z : Int) 1 = IntKind.u64.wrap ((BitVec.ofInt 64 (z : Int) &&& BitVec.ofInt 64 1).toNat : Int) := rfl
  have f : BitVec.ofInt 64 (z : Int) = BitVec.ofNat 64 z := by simp
  have g : BitVec.ofInt 64 1 = BitVec.ofNat 64 1 := rfl
  have hw : ∀ z : Int, IntKind.u64.wrap z = z % 18446744073709551616 := fun z => rfl
  rw [e, f, g, hw, BitVec.toNat_and, BitVec.toNat_ofNat, BitVec.toNat_ofNat, Nat.mod_eq_of_lt hz, show (1 % 2 ^ 64) = 1 from rfl, Nat.and_one_is_mod]
  omega
theorem xor_i64 (a : Int) (h : 0 ≤ a ∧ a ≤ 9223372036854775807) : bits .xor .i64 a 0 = a ∧ bits .xor .i64 a (-1) = -a - 1 := by
  have e : ∀ b : Int, bits .xor .i64 a b = IntKind.i64.wrap ((BitVec.ofInt 64 a ^^^ BitVec.ofInt 64 b).toNat : Int) := fun _ => rfl
  obtain ⟨n, rfl⟩ : ∃ n : Nat, a = (n : Int) := ⟨a.toNat, by omega⟩
  have f : BitVec.ofInt 64 (n : Int) = BitVec.ofNat 64 n := by simp
  refine ⟨?_, ?_⟩
  · rw [e, show BitVec.ofInt 64 0 = 0#64 from rfl, BitVec.xor_zero, f, BitVec.toNat_ofNat, Nat.mod_eq_of_lt (by omega), IntWalk.i64_in _ (by omega)]
  · rw [e, show BitVec.ofInt 64 (-1) = BitVec.allOnes 64 from by decide, BitVec.xor_allOnes, f, BitVec.toNat_not, BitVec.toNat_ofNat, Nat.mod_eq_of_lt (by omega)]
    have h1 : ((2 ^ 64 - 1 - n : Nat) : Int) = 18446744073709551615 - (n : Int) := by omega
    rw [h1]
    simp [IntKind.wrap, IntKind.bits, IntKind.signed]
    omega
theorem zag_bits (n : Int) (h : I64 n) : bits .xor .i64 (wrap64 ((zig n : Int) / 2)) (wrap64 (-wrap64 (bits .and .u64 (zig n : Int) 1))) = n := by
  obtain ⟨h1, h2⟩ := h
  rw [and_one _ (zig_lt ⟨h1, h2⟩)]
  have hw : ∀ z : Int, -9223372036854775808 ≤ z → z ≤ 9223372036854775807 → wrap64 z = z := fun z a b => by unfold wrap64; omega
  by_cases hn : n < 0
  · have e1 : (zig n : Int) / 2 = -(n + 1) := by unfold zig; rw [if_pos hn]; omega
    have e2 : ((zig n % 2 : Nat) : Int) = 1 := by unfold zig; rw [if_pos hn]; omega
    rw [e1, e2, hw 1 (by omega) (by omega), hw (-1) (by omega) (by omega), hw _ (by omega) (by omega), (xor_i64 _ (by omega)).2]
    omega
  · have e1 : (zig n : Int) / 2 = n := by unfold zig; rw [if_neg hn]; omega
    have e2 : ((zig n % 2 : Nat) : Int) = 0 := by unfold zig; rw [if_neg hn]; omega
    rw [e1, e2, hw 0 (by omega) (by omega), hw (-0) (by omega) (by omega), hw _ (by omega) (by omega)]
    exact (xor_i64 _ (by omega)).1
set_option maxRecDepth 100000 in
set_option maxHeartbeats 4000000 in
theorem rdint_any (P : Nat) (A : Option Addr) (c : Nat) (n : Int) (rest l : List UInt8) (w : World) (hn : I64 n) (hl : l = intB n ++ rest) (hs : l.length ≤ 1073741824) (h : RS w P A c l) :
    Calls Tryd.prog 38 #[.pointer (some ⟨P, 0, none⟩)] w fun e w' => e = .returned (.int .i64 n) ∧ ∃ A' c', RS w' P A' c' rest ∧ Out (OP P) w w' := by
  have HU := Lib.hid (rduint_any P A c (zig n) rest l w (zig_lt hn) hl hs h)
  have HZ := Lib.hid (zag_bits n hn)
  clear hn hl hs h
  generalize hz : (zig n : Int) = z at *
  go_enter Tryd.func38, Tryd.ntmps38
  go_wp2_with fail
  refine HU.out.mono ?_
  rintro e w2 ⟨rfl, A', c', hr, ho⟩
  have HR := Lib.hid hr
  have HO := Lib.hid ho
  clear hr ho
  go_wp2_with fail
  go_ret
  exact ⟨by rw [← HZ.out]; rfl, A', c', HR.out, HO.out⟩
end Go.Proofs.YthcklfelofpffaaDoor
namespace Go.Proofs.YthcklfelofpffaaDoor
open Go.RowKit
set_option maxRecDepth 100000 in
set_option maxHeartbeats 4000000 in
theorem rdlength_any (P : Nat) (A : Option Addr) (c : Nat) (n most : Nat) (rest l : List UInt8) (w : World) (hn : n ≤ most) (hm : most ≤ 1073741824) (hl : l = uintB n ++ rest) (hs : l.length ≤ 1073741824) (h : RS w P A c l) :
    Calls Tryd.prog 68 #[.pointer (some ⟨P, 0, none⟩), .int .i64 (most : Int)] w fun e w' => e = .returned (.int .i64 (n : Int)) ∧ ∃ A' c', RS w' P A' c' rest ∧ Out (OP P) w w' := by
  have HU := Lib.hid (rduint_any P A c n rest l w (by omega) hl hs h)
  clear hl hs h
  have h1 : ¬ (most : Int) < 0 := by omega
  have h2 : ¬ (most : Int) < (n : Int) := by omega
  have h3 : IntKind.u64.wrap (most : Int) = (most : Int) := by
    rw [show IntKind.u64.wrap (most : Int) = (most : Int) % 18446744073709551616 from rfl]; omega
  have h4 : wrap64 (n : Int) = (n : Int) := by unfold wrap64; omega
  go_enter Tryd.func68, Tryd.ntmps68
  go_wp2_with fail
  refine HU.out.mono ?_
  rintro e w2 ⟨rfl, A', c', hr, ho⟩
  have HR := Lib.hid hr
  have HO := Lib.hid ho
  have k1 := hr.box.cell 1 rfl
  clear hr ho
  go_wp2_with fail
  go_ret
  exact ⟨by first | rfl | (rw [h4]), A', c', HR.out, HO.out⟩
set_option maxRecDepth 100000 in
set_option maxHeartbeats 4000000 in
theorem rdend_any (P : Nat) (A : Option Addr) (c : Nat) (w : World) (h : RS w P A c []) :
    Calls Tryd.prog 41 #[.pointer (some ⟨P, 0, none⟩)] w fun e w' => e = .returned (.int .i64 0) ∧ w = w' := by
  have k0 := h.box.cell 0 rfl
  have k1 := h.box.cell 1 rfl
  rw [List.length_nil] at k0
  clear h
  go_enter Tryd.func41, Tryd.ntmps41
  go_wp2_with fail
  go_ret
  exact ⟨rfl, rfl⟩
theorem toBA (s : ByteArray) : (⟨s.data.toList.toArray⟩ : ByteArray) = s := by cases s; simp
theorem run_str (w : World) (S : Nat → Prop) (A : Option Addr) (c : Nat) (l rest : List UInt8) (h : Sl w S A c (l ++ rest)) :
    (convert 59 9 (.slice A l.length c)).run Tryd.prog w = .ok (.string ⟨l.toArray⟩) w := by
  rcases A with _ | a
  · have hl : l = [] := by
      cases l with
      | nil => rfl
      | cons x l => obtain ⟨b, o, e, _⟩ := h.2.2 (by simp); cases e
    subst hl
    rw [run_convert_bytes_string w 59 9 5 none _ c Tryd.underlying59 Tryd.underlying5 Tryd.underlying9]
    rfl
  · refine run_convert_bytes_back w 59 9 5 a c l Tryd.underlying59 Tryd.underlying5 Tryd.underlying9 (fun j hj => ?_)
    obtain ⟨b, o, e, _, _, hc⟩ := rbyte_at h (k := j) (by rw [List.length_append]; omega)
    cases e
    rw [addr_add, hc, List.getElem_append_left hj]
theorem wpList_str {ops : Array Oper} {rest : List Oper} {o : Oper} {a : Act} {w : World} {Q : Exit → Act → World → Prop} (hg : o.guard = none) (x : Operand) (ho : o.op = .convert 59 9 x) (S : Nat → Prop) (A : Option Addr) (c n : Nat) (l more : List UInt8) (s : ByteArray) (hse : (⟨l.toArray⟩ : ByteArray) = s) (hx : a.eval x = .slice A n c) (hn : n = l.length) (hs : Sl w S A c (l ++ more))
    (h : wpList Tryd.prog ops Q rest (a.put o.dst (.string s)) w) : wpList Tryd.prog ops Q (o :: rest) a w := by
  refine wpList_plain hg fun K hK => ?_
  unfold Oper.wp execOp
  subst hn
  subst hse
  simp only [ho, hx, Sem.run_bind, Sem.run_pure, Result.andThen_ok, run_str w S A c l more hs]
  exact hK _ _ h
set_option maxRecDepth 100000 in
set_option maxHeartbeats 4000000 in
theorem rdtext_any (P : Nat) (A : Option Addr) (c : Nat) (s : ByteArray) (most : Nat) (rest l : List UInt8) (w : World) (hn : s.size ≤ most) (hm : most ≤ 1073741824) (hl : l = textB s ++ rest) (hs : l.length ≤ 1073741824) (h : RS w P A c l) :
    Calls Tryd.prog 39 #[.pointer (some ⟨P, 0, none⟩), .int .i64 (most : Int)] w fun e w' => e = .returned (.string s) ∧ ∃ A' c', RS w' P A' c' rest ∧ Out (OP P) w w' := by
  have HU := Lib.hid (rdlength_any P A c s.size most (s.data.toList ++ rest) l w hn hm (by rw [hl]; unfold textB; rw [List.append_assoc]) hs h)
  have HSZ : Hid (s.size ≤ 1073741824) := Lib.hid (by omega)
  clear hl hs h
  go_enter Tryd.func39, Tryd.ntmps39
  go_wp2_with fail
  refine HU.out.mono ?_
  rintro e w2 ⟨rfl, A', c', hr, ho⟩
  have HR := Lib.hid hr
  have HO := Lib.hid ho
  have k0 := hr.box.cell 0 rfl
  have k1 := hr.box.cell 1 rfl
  have kf := hr.box.fz
  have HLN : Hid ((s.data.toList ++ rest).length = s.size + rest.length) := Lib.hid (by rw [List.length_append, Array.length_toList]; rfl)
  have hnc : s.size + rest.length ≤ c' := by have := hr.sl.1; have := HLN.out; omega
  have hcm : c' ≤ 9223372036854775807 := by have := hr.sl.2.1; unfold maxLen at this; omega
  rw [HLN.out] at k0
  clear hr ho
  obtain ⟨ns, hns⟩ : ∃ n, n = s.size := ⟨_, rfl⟩
  rw [← hns] at k0 hnc ⊢
  have HNS := Lib.hid hns
  have h1 : ¬ (ns : Int) + (rest.length : Int) < (ns : Int) := by omega
  have h2 : ¬ ns + rest.length < ns := by omega
  have HSL := Lib.hid HR.out.sl
  have HNL : Hid (ns = s.data.toList.length) := Lib.hid (by rw [hns, Array.length_toList]; rfl)
  have HOU : Hid (∀ v, Out (OP P) w (w2.setCell ⟨P, 0, none⟩ v)) := Lib.hid (fun v => HO.out.set (.inl (show P = P from rfl)) 0 v)
  have HDR : Hid (Sl w2 (fun b => b < P) (if c' = ns then A' else A'.map (fun x : Addr => x.add ns)) (c' - ns) rest) := Lib.hid (by
    have hd := HR.out.sl.drop ns (by have := HLN.out; omega)
    have e : (s.data.toList ++ rest).drop ns = rest := by rw [HNL.out, List.drop_left]
    rw [e] at hd
    simpa [Rep.size] using hd)
  clear hns
  by_cases hcc : c' = ns
  · subst hcc
    go_wp2_with (first
      | (refine wpList_str rfl (.tmp 42) rfl (fun b => b < P) A' c' c' s.data.toList rest s (toBA s) rfl HNL.out HSL.out ?_)
      | fail)
    go_ret
    have hd := HDR.out
    have hr0 : rest.length = 0 := by omega
    rw [if_pos trivial, Nat.sub_self] at hd
    have h := HR.out.set hd
    rw [hr0] at h
    exact ⟨rfl, _, _, h, HOU.out _⟩
  · go_wp2_with (first
      | (refine wpList_str rfl (.tmp 42) rfl (fun b => b < P) A' c' ns s.data.toList rest s (toBA s) rfl HNL.out HSL.out ?_)
      | fail)
    go_ret
    have hd := HDR.out
    rw [if_neg hcc] at hd
    exact ⟨rfl, _, _, HR.out.set hd, HOU.out _⟩
end Go.Proofs.YthcklfelofpffaaDoor
