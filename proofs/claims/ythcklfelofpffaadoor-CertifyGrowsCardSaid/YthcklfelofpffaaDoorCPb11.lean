/- A proof that a tree extends another one is verified: merkle.Extends, and Grown of certify. No condition but sizes and what the table holds.
What a growth makes of the root of the first leaves: the plain law of merkle.Extends. No condition but sizes.
Two heads compared. No condition.
CertifyGrows, walked. No condition but what the table holds.
A slice as an argument, read as plain data, whatever its elements are; its length against the bulk of what is read. No condition.
Numbers, lists of numbers and lists of these as arguments, read as plain data. No condition.
CertifyGrows: the card holds, for every argument. No condition. -/
import Derived.Test.YthcklfelofpffaaDoorCPb10
import Derived.Laws.EntriesVeiled
import Derived.Deep.Slices
import Derived.Deep.Fields
import Derived.ChangeSame
import Derived.ChangeMaps5
import Derived.OpenShut
namespace Go.Proofs.YthcklfelofpffaaDoor
open Go.RowKit
/-- Whether a growth proves that a tree of n leaves extends one of m leaves. -/
def extendsP (old : List UInt8) (m : Int) (rt : List UInt8) (n : Int) (p : List H32) : Bool :=
  if m < 0 ∨ n < m ∨ 65536 < n then false
  else if m = 0 then decide (old = root []) && decide (p.length = 0) && (decide (0 < n) || decide (rt = old))
  else decide ((extP n.toNat p old m.toNat n.toNat true (p.length, false)).1.1 = old) && decide ((extP n.toNat p old m.toNat n.toNat true (p.length, false)).1.2 = rt) && decide ((extP n.toNat p old m.toNat n.toNat true (p.length, false)).2 = (0, false))
theorem hashE {l : List UInt8} {cs : Array Value} (h : (l.map encB).toArray = cs) : Value.agg cs = hashV l := by rw [← h]; rfl
theorem wpList_load_rowG {P : Program} {ops : Array Oper} {rest : List Oper} {o : Oper} {a : Act} {w : World} {Q : Exit → Act → World → Prop} (hw : Region.wanted o (yielded ops a.tmps) = true) (ty : TypeId) (x : Operand) (ho : o.op = .load ty x)
    (g : Nat) (hx : a.eval x = .pointer (some ⟨g, 0, none⟩)) (t : TypeId) (cs : Array Value) (fr : Nat × Nat) (d : TypeDesc) (hg : w.heap[g]? = some (.cells cs t fr))
    (hu : P.underlying ty = some d) (hd : (match d with | .struct _ | .array _ _ => true | _ => false) = true) (hi : (P.info? ty).map (·.size) = some cs.size)
    (h : wpList P ops Q rest (a.put o.dst (.agg cs)) w) : wpList P ops Q (o :: rest) a w :=
  BigFrame.wpList_want hw fun _ hK => wp_load_row ty x ho g hx t cs fr d hg hu hd hi (hK _ _ h)
theorem wpList_eqlHG {ops : Array Oper} {rest : List Oper} {o : Oper} {a : Act} {w : World} {Q : Exit → Act → World → Prop} (hw : Region.wanted o (yielded ops a.tmps) = true) (x y : Operand) (ho : o.op = .binOp .eql 29 x y 29) (l m : List UInt8) (hx : a.eval x = hashV l) (hy : a.eval y = hashV m) (hl : l.length = 32) (hm : m.length = 32)
    (h : wpList Tryd.prog ops Q rest (a.put o.dst (.bool (decide (l = m)))) w) : wpList Tryd.prog ops Q (o :: rest) a w :=
  BigFrame.wpList_want hw fun _ hK => wp_eqlH x y ho l m hx hy hl hm (hK _ _ h)
set_option maxRecDepth 100000 in
set_option maxHeartbeats 4000000 in
theorem extends_no (old rt : List UInt8) (m n : Int) (A : Option Addr) (c N : Nat) (p : List H32) (w : World) (h : m < 0 ∨ n < m ∨ 65536 < n) :
    Calls Tryd.prog 59 #[hashV old, .int .i64 m, hashV rt, .int .i64 n, .slice A N c] w fun e w' => e = .returned (.bool (extendsP old m rt n p)) ∧ Below w.heap.size w w' := by
  have HE : Hid (extendsP old m rt n p = false) := Lib.hid (if_pos h)
  have HB : Hid (Below w.heap.size w ((w.alloc (.cells (old.map encB).toArray 29)).alloc (.cells (rt.map encB).toArray 29))) := Lib.hid (((Below.refl _ _).alloc (Nat.le_refl _) _).alloc (by simp) _)
  unfold hashV
  generalize (old.map encB).toArray = rs at *
  generalize (rt.map encB).toArray = ls at *
  by_cases h1 : m < 0
  · go_enter Tryd.func59, Tryd.ntmps59
    go_wp2_with fail
    go_ret
    exact ⟨ret_bool HE.out.symm, HB.out⟩
  · by_cases h2 : n < m
    · go_enter Tryd.func59, Tryd.ntmps59
      go_wp2_with fail
      go_ret
      exact ⟨ret_bool HE.out.symm, HB.out⟩
    · have h3 : 65536 < n := by omega
      go_enter Tryd.func59, Tryd.ntmps59
      go_wp2_with fail
      go_ret
      exact ⟨ret_bool HE.out.symm, HB.out⟩
set_option maxRecDepth 100000 in
set_option maxHeartbeats 8000000 in
theorem extends_nil (old rt : List UInt8) (ho : old.length = 32) (hr : rt.length = 32) (n : Int) (A : Option Addr) (c N : Nat) (p : List H32) (w : World) (hn0 : 0 ≤ n) (hn : n ≤ 65536) (hN : p.length = N) (hN2 : N ≤ 9223372036854775807) (hK : KLaid w) :
    Calls Tryd.prog 59 #[hashV old, .int .i64 0, hashV rt, .int .i64 n, .slice A N c] w fun e w' => e = .returned (.bool (extendsP old 0 rt n p)) ∧ Below w.heap.size w w' := by
  obtain ⟨q1, hq1⟩ : ∃ q, decide (old = root []) = q := ⟨_, rfl⟩
  obtain ⟨q2, hq2⟩ : ∃ q, decide (N = 0) = q := ⟨_, rfl⟩
  obtain ⟨q3, hq3⟩ : ∃ q, decide (0 < n) = q := ⟨_, rfl⟩
  obtain ⟨q4, hq4⟩ : ∃ q, decide (rt = old) = q := ⟨_, rfl⟩
  have HE : Hid (extendsP old 0 rt n p = (q1 && q2 && (q3 || q4))) := Lib.hid (by unfold extendsP; rw [if_neg (by omega), if_pos rfl, hN, hq1, hq2, hq3, hq4])
  have HQ1 := Lib.hid hq1
  have HQ4 := Lib.hid hq4
  have HOL := Lib.hid ho
  have HRL := Lib.hid hr
  have HSO := Lib.hid (hash_size ho)
  have HSR := Lib.hid (hash_size hr)
  have HRN : Hid ((root []).length = 32) := Lib.hid (root_length _ (by simp))
  have HK := Lib.hid hK
  have hi3 : decide (0 < n) = q3 := hq3
  have hi2 : ((N : Int) == 0) = q2 := by
    rw [← hq2]
    by_cases h : N = 0
    · subst h; rfl
    · rw [decide_eq_false h, beq_eq_false_iff_ne]; omega
  have h1 : ¬ n < 0 := by omega
  have h2 : ¬ 65536 < n := by omega
  have HRT : Hid (∀ W, Below w.heap.size w W → Calls Tryd.prog 31 #[.slice none 0 0] W fun e w' => e = .returned (hashV (root [])) ∧ Below W.heap.size W w') := Lib.hid (fun W hW => root_any [] none 0 0 W (Sl.nil _ _ _ _ (by decide)) rfl (by decide) (hK.to hW))
  clear hq1 hq2 hq3 hq4 hK ho hr hN
  have HB0 : Hid (Below w.heap.size w ((w.alloc (.cells (old.map encB).toArray 29)).alloc (.cells (rt.map encB).toArray 29))) := Lib.hid (((Below.refl _ _).alloc (Nat.le_refl _) _).alloc (by simp) _)
  have HOB : Hid (ABox ((w.alloc (.cells (old.map encB).toArray 29)).alloc (.cells (rt.map encB).toArray 29)) w.heap.size 29 (old.map encB)) := Lib.hid (by unfold ABox; rw [Below.heap_alloc _ _ _ (by simp)]; exact heap_alloc_new w _)
  have HRB : Hid (ABox ((w.alloc (.cells (old.map encB).toArray 29)).alloc (.cells (rt.map encB).toArray 29)) (w.heap.size + 1) 29 (rt.map encB)) := Lib.hid (heap_at (by simp))
  unfold hashV
  go_enter Tryd.func59, Tryd.ntmps59
  go_upto_region 4 with (fail)
  generalize hw1 : World.alloc (World.alloc w _) _ = w1
  have hw2 : ((w.alloc (.cells (old.map encB).toArray 29)).alloc (.cells (rt.map encB).toArray 29)) = w1 := hw1
  rw [hw2] at HB0 HOB HRB
  clear hw1 hw2
  generalize w.heap.size + 1 = Rb at *
  obtain ⟨Ob, hOb⟩ : ∃ R, R = w.heap.size := ⟨_, rfl⟩
  rw [← hOb] at HOB ⊢
  have HOE := Lib.hid hOb
  clear hOb
  obtain ⟨csO, hcO⟩ : ∃ c, (old.map encB).toArray = c := ⟨_, rfl⟩
  have HOB2 : Hid (w1.heap[Ob]? = some (.cells csO 29 (0, 0))) := Lib.hid (hcO ▸ HOB.out)
  rw [hcO] at HSO ⊢
  have HCO := Lib.hid hcO
  clear hcO
  obtain ⟨csR, hcR⟩ : ∃ c, (rt.map encB).toArray = c := ⟨_, rfl⟩
  have HRB2 : Hid (w1.heap[Rb]? = some (.cells csR 29 (0, 0))) := Lib.hid (hcR ▸ HRB.out)
  rw [hcR] at HSR ⊢
  have HCR := Lib.hid hcR
  clear hcR
  have HLE : Hid (∀ d, Below w1.heap.size w1 d → d.heap[Ob]? = some (.cells csO 29 (0, 0)) ∧ d.heap[Rb]? = some (.cells csR 29 (0, 0))) := Lib.hid (fun d h => ⟨(h.block _ (Array.getElem?_eq_some_iff.1 HOB2.out).1).trans HOB2.out, (h.block _ (Array.getElem?_eq_some_iff.1 HRB2.out).1).trans HRB2.out⟩)
  obtain ⟨csN, hcN⟩ : ∃ c, ((root []).map encB).toArray = c := ⟨_, rfl⟩
  have HCN := Lib.hid hcN
  have hRN : hashV (root []) = .agg csN := (hashE hcN).symm
  rw [hRN] at HRT
  clear hRN hcN HOB HRB HOB2 HRB2
  rcases (show q1 = false ∨ (q1 = true ∧ q2 = false) ∨ (q1 = true ∧ q2 = true ∧ q3 = true) ∨ (q1 = true ∧ q2 = true ∧ q3 = false ∧ q4 = true) ∨ (q1 = true ∧ q2 = true ∧ q3 = false ∧ q4 = false) by cases q1 <;> cases q2 <;> cases q3 <;> cases q4 <;> simp) with rfl | ⟨rfl, rfl⟩ | ⟨rfl, rfl, rfl⟩ | ⟨rfl, rfl, rfl, rfl⟩ | ⟨rfl, rfl, rfl, rfl⟩
  all_goals
    refine wp_region_rely [1] (fun i => if i = 1 then SP.val (.agg csN) else SP.any) 18 (by kernel_rfl) (by kernel_rfl) ?_
    intro T _ g hg hgm
    repeat (refine wpR_pure (by rfl) fun Kq hq => ?_; first | (go_big_quiet_skip; refine wpQuiet_nil (hq _ ?_); clear hq Kq) | (refine wpQuiet_run (by rfl) (.agg csO) ?_ (wpQuiet_nil ?_); (rintro _ ⟨d, rfl⟩; exact exec_load_row 29 (.tmp 5) rfl Ob rfl 29 csO (0, 0) _ (HLE.out _ (hg d)).1 Tryd.underlying29 rfl (by rw [HSO.out]; kernel_rfl)); simp only [Act.put, List.setIfInBounds_toArray, List.set_cons_zero, List.set_cons_succ]; refine hq _ ?_; clear hq Kq) | (refine wpQuiet_run (by rfl) (.agg csR) ?_ (wpQuiet_nil ?_); (rintro _ ⟨d, rfl⟩; exact exec_load_row 29 (.tmp 7) rfl Rb rfl 29 csR (0, 0) _ (HLE.out _ (hg d)).2 Tryd.underlying29 rfl (by rw [HSR.out]; kernel_rfl)); simp only [Act.put, List.setIfInBounds_toArray, List.set_cons_zero, List.set_cons_succ]; refine hq _ ?_; clear hq Kq) | (refine wpQuiet_run (by rfl) (.bool true) ?_ (wpQuiet_nil ?_); (rintro _ ⟨d, rfl⟩; (refine exec_eqlH (.tmp 29) (.tmp 30) rfl old (root []) ?_ ?_ HOL.out HRN.out true HQ1.out; exact hashE HCO.out; exact hashE HCN.out)); simp only [Act.put, List.setIfInBounds_toArray, List.set_cons_zero, List.set_cons_succ]; refine hq _ ?_; clear hq Kq) | (refine wpQuiet_run (by rfl) (.bool true) ?_ (wpQuiet_nil ?_); (rintro _ ⟨d, rfl⟩; (refine exec_eqlH (.tmp 41) (.tmp 42) rfl rt old ?_ ?_ HRL.out HOL.out true HQ4.out; exact hashE HCR.out; exact hashE HCO.out)); simp only [Act.put, List.setIfInBounds_toArray, List.set_cons_zero, List.set_cons_succ]; refine hq _ ?_; clear hq Kq) | (refine wpQuiet_run (by rfl) (.bool false) ?_ (wpQuiet_nil ?_); (rintro _ ⟨d, rfl⟩; (refine exec_eqlH (.tmp 29) (.tmp 30) rfl old (root []) ?_ ?_ HOL.out HRN.out false HQ1.out; exact hashE HCO.out; exact hashE HCN.out)); simp only [Act.put, List.setIfInBounds_toArray, List.set_cons_zero, List.set_cons_succ]; refine hq _ ?_; clear hq Kq) | (refine wpQuiet_run (by rfl) (.bool false) ?_ (wpQuiet_nil ?_); (rintro _ ⟨d, rfl⟩; (refine exec_eqlH (.tmp 41) (.tmp 42) rfl rt old ?_ ?_ HRL.out HOL.out false HQ4.out; exact hashE HCR.out; exact hashE HCO.out)); simp only [Act.put, List.setIfInBounds_toArray, List.set_cons_zero, List.set_cons_succ]; refine hq _ ?_; clear hq Kq) | (go_big_quiet_step (fail); refine wpQuiet_nil (hq _ ?_); clear hq Kq))
    refine wpR_busy (by rfl) (by rfl) (fun d hG K Q hK => ?_) (fun v1 d hG hp Kr hr => ?_)
    · go_simp
      go_at_call 31
      refine (HRT.out _ ((HB0.out.trans ((hg d).mono HB0.out.size)))).mono ?_
      rintro e W1 ⟨rfl, hb1⟩
      go_simp
      exact hK _ _ hb1 (rfl)
    obtain rfl : v1 = .agg csN := hp
    (try clear hp); clear hG
    simp only [Act.put, List.setIfInBounds_toArray, List.set_cons_zero, List.set_cons_succ]
    refine hr _ ?_
    clear hr Kr
    repeat (refine wpR_pure (by rfl) fun Kq hq => ?_; first | (go_big_quiet_skip; refine wpQuiet_nil (hq _ ?_); clear hq Kq) | (refine wpQuiet_run (by rfl) (.agg csO) ?_ (wpQuiet_nil ?_); (rintro _ ⟨d, rfl⟩; exact exec_load_row 29 (.tmp 5) rfl Ob rfl 29 csO (0, 0) _ (HLE.out _ (hg d)).1 Tryd.underlying29 rfl (by rw [HSO.out]; kernel_rfl)); simp only [Act.put, List.setIfInBounds_toArray, List.set_cons_zero, List.set_cons_succ]; refine hq _ ?_; clear hq Kq) | (refine wpQuiet_run (by rfl) (.agg csR) ?_ (wpQuiet_nil ?_); (rintro _ ⟨d, rfl⟩; exact exec_load_row 29 (.tmp 7) rfl Rb rfl 29 csR (0, 0) _ (HLE.out _ (hg d)).2 Tryd.underlying29 rfl (by rw [HSR.out]; kernel_rfl)); simp only [Act.put, List.setIfInBounds_toArray, List.set_cons_zero, List.set_cons_succ]; refine hq _ ?_; clear hq Kq) | (refine wpQuiet_run (by rfl) (.bool true) ?_ (wpQuiet_nil ?_); (rintro _ ⟨d, rfl⟩; (refine exec_eqlH (.tmp 29) (.tmp 30) rfl old (root []) ?_ ?_ HOL.out HRN.out true HQ1.out; exact hashE HCO.out; exact hashE HCN.out)); simp only [Act.put, List.setIfInBounds_toArray, List.set_cons_zero, List.set_cons_succ]; refine hq _ ?_; clear hq Kq) | (refine wpQuiet_run (by rfl) (.bool true) ?_ (wpQuiet_nil ?_); (rintro _ ⟨d, rfl⟩; (refine exec_eqlH (.tmp 41) (.tmp 42) rfl rt old ?_ ?_ HRL.out HOL.out true HQ4.out; exact hashE HCR.out; exact hashE HCO.out)); simp only [Act.put, List.setIfInBounds_toArray, List.set_cons_zero, List.set_cons_succ]; refine hq _ ?_; clear hq Kq) | (refine wpQuiet_run (by rfl) (.bool false) ?_ (wpQuiet_nil ?_); (rintro _ ⟨d, rfl⟩; (refine exec_eqlH (.tmp 29) (.tmp 30) rfl old (root []) ?_ ?_ HOL.out HRN.out false HQ1.out; exact hashE HCO.out; exact hashE HCN.out)); simp only [Act.put, List.setIfInBounds_toArray, List.set_cons_zero, List.set_cons_succ]; refine hq _ ?_; clear hq Kq) | (refine wpQuiet_run (by rfl) (.bool false) ?_ (wpQuiet_nil ?_); (rintro _ ⟨d, rfl⟩; (refine exec_eqlH (.tmp 41) (.tmp 42) rfl rt old ?_ ?_ HRL.out HOL.out false HQ4.out; exact hashE HCR.out; exact hashE HCO.out)); simp only [Act.put, List.setIfInBounds_toArray, List.set_cons_zero, List.set_cons_succ]; refine hq _ ?_; clear hq Kq) | (go_big_quiet_step (fail); refine wpQuiet_nil (hq _ ?_); clear hq Kq))
    refine wpR_end (by kernel_rfl) (fun d hG => ?_) _
    have HBz := Lib.hid (HB0.out.trans ((hg d).mono HB0.out.size))
    have HBd := Lib.hid (hg d)
    clear hG hg hgm
    unfold Exit.then
    go_wp2_with fail
    go_ret
    exact ⟨ret_bool (by rw [HE.out]; simp), HOE.out ▸ HBz.out⟩
set_option maxRecDepth 100000 in
set_option maxHeartbeats 8000000 in
theorem extends_yes (old rt : List UInt8) (ho : old.length = 32) (hr : rt.length = 32) (m n : Nat) (A : Option Addr) (c N : Nat) (p : List H32) (w : World) (h1 : 1 ≤ m) (hmn : m ≤ n) (hn : n ≤ 65536) (hs : Sl w (fun b => b < w.heap.size) A c p) (hN : p.length = N) (hN2 : N ≤ 9223372036854775807) (hK : KLaid w) :
    Calls Tryd.prog 59 #[hashV old, .int .i64 (m : Int), hashV rt, .int .i64 (n : Int), .slice A N c] w fun e w' => e = .returned (.bool (extendsP old m rt n p)) ∧ Below w.heap.size w w' := by
  obtain ⟨va, vb, s2, hcs⟩ : ∃ va vb s2, extP n p old m n true (N, false) = ((va, vb), s2) := ⟨_, _, _, rfl⟩
  have HAB : Hid (va.length = 32 ∧ vb.length = 32) := Lib.hid (by have := extP_32 (h32_len hs) ho n m n true (N, false) (by simp only; omega); rw [hcs] at this; exact ⟨this.1, this.2.1⟩)
  obtain ⟨q1, hq1⟩ : ∃ q, decide (va = old) = q := ⟨_, rfl⟩
  obtain ⟨q2, hq2⟩ : ∃ q, decide (vb = rt) = q := ⟨_, rfl⟩
  have HE : Hid (extendsP old m rt n p = (q1 && q2 && decide (s2 = (0, false)))) := Lib.hid (by
    unfold extendsP
    rw [if_neg (by omega), if_neg (by omega), Int.toNat_natCast, Int.toNat_natCast, hN, hcs, hq1, hq2])
  have HQ1 := Lib.hid hq1
  have HQ2 := Lib.hid hq2
  have HCC := Lib.hid hcs
  have HOL := Lib.hid ho
  have HRL := Lib.hid hr
  have HSO := Lib.hid (hash_size ho)
  have HSR := Lib.hid (hash_size hr)
  have HSA := Lib.hid (hash_size HAB.out.1)
  have HSB := Lib.hid (hash_size HAB.out.2)
  have HZ : Hid ((zer32.map encB).toArray.size = 32) := Lib.hid rfl
  have HS := Lib.hid hs
  have HN := Lib.hid hN
  have HK := Lib.hid hK
  have HMN : Hid (1 ≤ m ∧ m ≤ n) := Lib.hid ⟨h1, hmn⟩
  have h1a : ¬ (m : Int) < 0 := by omega
  have h1b : ¬ (n : Int) < (m : Int) := by omega
  have h1c : ¬ (65536 : Int) < (n : Int) := by omega
  have h1d : ((m : Int) == 0) = false := by rw [beq_eq_false_iff_ne]; omega
  clear hq1 hq2 hcs ho hr hs hN hK hmn
  have HB0 : Hid (Below w.heap.size w ((w.alloc (.cells (old.map encB).toArray 29)).alloc (.cells (rt.map encB).toArray 29))) := Lib.hid (((Below.refl _ _).alloc (Nat.le_refl _) _).alloc (by simp) _)
  have HOB : Hid (ABox ((w.alloc (.cells (old.map encB).toArray 29)).alloc (.cells (rt.map encB).toArray 29)) w.heap.size 29 (old.map encB)) := Lib.hid (by unfold ABox; rw [Below.heap_alloc _ _ _ (by simp)]; exact heap_alloc_new w _)
  have HRB : Hid (ABox ((w.alloc (.cells (old.map encB).toArray 29)).alloc (.cells (rt.map encB).toArray 29)) (w.heap.size + 1) 29 (rt.map encB)) := Lib.hid (heap_at (by simp))
  unfold hashV
  go_enter Tryd.func59, Tryd.ntmps59
  go_upto_region 5 with (fail)
  generalize hw1 : World.alloc (World.alloc w _) _ = w1
  have hw2 : ((w.alloc (.cells (old.map encB).toArray 29)).alloc (.cells (rt.map encB).toArray 29)) = w1 := hw1
  rw [hw2] at HB0 HOB HRB
  clear hw1 hw2
  have HTA := Lib.hid (taker_any w1 A c N)
  have HS1 := Lib.hid (HS.out.to HB0.out)
  have HK1 := Lib.hid (HK.out.to HB0.out)
  have HSZ1 : Hid (w.heap.size + 1 < w1.heap.size) := Lib.hid HRB.out.lt
  go_wp2_with fail
  refine HTA.out.mono ?_
  rintro e w2 ⟨Lb, Mb, Pb, rfl, ht2⟩
  have hba : Below w2.heap.size w2 ((w2.alloc (.cells #[takeV Lb Mb Pb] 115)).alloc (.cells #[extV w.heap.size w2.heap.size (w2.heap.size + 1)] 123)) := ((Below.refl _ _).alloc (Nat.le_refl _) _).alloc (by simp) _
  have HB2 := Lib.hid (HB0.out.trans (ht2.b.mono HB0.out.size))
  have HBB := Lib.hid (HB2.out.trans (hba.mono HB2.out.size))
  have HRB2 := Lib.hid ((HRB.out.to ht2.b).to hba)
  have HTF : Hid (w1.heap.size ≤ Lb ∧ w1.heap.size ≤ Mb) := Lib.hid ⟨ht2.bl, ht2.bm⟩
  have HLM : Hid (Lb < w2.heap.size ∧ Mb < w2.heap.size ∧ w1.heap.size ≤ w2.heap.size) := Lib.hid ⟨ht2.l.lt, ht2.m.lt, ht2.bs⟩
  have HEK : Hid (EK w1 ((w2.alloc (.cells #[takeV Lb Mb Pb] 115)).alloc (.cells #[extV w.heap.size w2.heap.size (w2.heap.size + 1)] 123)) Lb Mb Pb w.heap.size w2.heap.size (w2.heap.size + 1) (.slice A N c) old (N, false)) := Lib.hid ⟨ht2.to hba, (HOB.out.to ht2.b).to hba, (by unfold ABox; rw [Below.heap_alloc _ _ _ (by simp)]; exact heap_alloc_new w2 _), heap_at (by simp),
    by have := HTF.out; have := HSZ1.out; rintro (h | h) <;> omega, by have := HLM.out; rintro (h | h) <;> omega, by have := HLM.out; rintro (h | h) <;> omega⟩
  have hTF : Hid (∀ g, TF Lb Mb g → w.heap.size ≤ g) := Lib.hid (by have := HTF.out; have := HSZ1.out; rintro g (h | h) <;> omega)
  have hRF : Hid (¬ TF Lb Mb (w.heap.size + 1)) := Lib.hid (by have := HTF.out; have := HSZ1.out; rintro (h | h) <;> omega)
  have HCA : Hid (∀ W, EK w1 W Lb Mb Pb w.heap.size w2.heap.size (w2.heap.size + 1) (.slice A N c) old (N, false) → Calls Tryd.prog 85 #[.int .i64 (m : Int), .int .i64 (n : Int), .bool true, .pointer (some ⟨w.heap.size, 0, none⟩), .pointer (some ⟨w2.heap.size, 0, none⟩), .pointer (some ⟨w2.heap.size + 1, 0, none⟩)] W fun e w' => e = .returned (.tuple #[hashV va, hashV vb]) ∧ TK w1 w' Lb Mb Pb (.slice A N c) s2 ∧ Out (TF Lb Mb) W w') := Lib.hid (fun W hW => by
    have := ext_any w1 Lb Mb Pb w.heap.size w2.heap.size (w2.heap.size + 1) A c N p old HOL.out HK1.out HS1.out HN.out hN2 n m n true (N, false) W HMN.out.1 HMN.out.2 (Nat.le_refl _) hn (Nat.le_refl _) hW
    rw [HCC.out] at this; exact this)
  clear ht2 hba
  unfold takeV doneV
  go_upto_region 8 with (fail)
  generalize hw5 : World.alloc (World.alloc w2 _) _ = w6
  have hw6 : ((w2.alloc (.cells #[takeV Lb Mb Pb] 115)).alloc (.cells #[extV w.heap.size w2.heap.size (w2.heap.size + 1)] 123)) = w6 := hw5
  rw [hw6] at HBB HRB2 HEK
  clear hw5 hw6 HTA HS1 HSZ1 HB2 HTF HLM HB0 HRB HOB
  generalize w2.heap.size + 1 = Cb at *
  generalize w2.heap.size = Tb at *
  generalize w.heap.size + 1 = Rb at *
  obtain ⟨Ob, hOb⟩ : ∃ R, R = w.heap.size := ⟨_, rfl⟩
  rw [← hOb] at HEK HCA ⊢
  have HOE := Lib.hid hOb
  clear hOb
  have k1 : w6.cell? ⟨Cb, 0, none⟩ = some (.func (.func 85) #[] #[.pointer (some ⟨Ob, 0, none⟩), .pointer (some ⟨Tb, 0, none⟩), .pointer (some ⟨Cb, 0, none⟩)]) := HEK.out.cb.cell 0 rfl
  go_wp2_with fail
  refine (HCA.out w6 HEK.out).mono ?_
  rintro e w5 ⟨rfl, ht5, ho5⟩
  have HE5 := Lib.hid (HEK.out.out ht5 ho5)
  have HB5 := Lib.hid (HBB.out.trans (ho5.below hTF.out HBB.out.size))
  have HR5 := Lib.hid (ho5.box HRB2.out hRF.out)
  have hbz : Below w5.heap.size w5 ((w5.alloc (.cells (zer32.map encB).toArray 29)).alloc (.cells (zer32.map encB).toArray 29)) := ((Below.refl _ _).alloc (Nat.le_refl _) _).alloc (by simp) _
  have hza : ((w5.alloc (.cells (zer32.map encB).toArray 29)).alloc (.cells (zer32.map encB).toArray 29)).heap[w5.heap.size]? = some (.cells (zer32.map encB).toArray 29 (0, 0)) := by rw [Below.heap_alloc _ _ _ (by simp)]; exact heap_alloc_new w5 _
  have hzb : (((w5.alloc (.cells (zer32.map encB).toArray 29)).alloc (.cells (zer32.map encB).toArray 29)).setRow w5.heap.size (va.map encB).toArray).heap[w5.heap.size + 1]? = some (.cells (zer32.map encB).toArray 29 (0, 0)) := (setRow_other _ _ _ _ (by omega)).trans (heap_at (by simp))
  have HFA := Lib.hid (HE5.out.far (Nat.le_refl _))
  have HFB := Lib.hid (HE5.out.far (R := w5.heap.size + 1) (by omega))
  have HE6 := Lib.hid (((HE5.out.to hbz).setRow HFA.out.1 HFA.out.2.1 HFA.out.2.2 (va.map encB).toArray).setRow HFB.out.1 HFB.out.2.1 HFB.out.2.2 (vb.map encB).toArray)
  have hb6 : Below w5.heap.size w5 ((((w5.alloc (.cells (zer32.map encB).toArray 29)).alloc (.cells (zer32.map encB).toArray 29)).setRow w5.heap.size (va.map encB).toArray).setRow (w5.heap.size + 1) (vb.map encB).toArray) := below_setRow (below_setRow hbz (Nat.le_refl _) _) (by omega) _
  have HB6 := Lib.hid (HB5.out.trans (hb6.mono HB5.out.size))
  have HR6 := Lib.hid (HR5.out.to hb6)
  have HA6 : Hid (ABox ((((w5.alloc (.cells (zer32.map encB).toArray 29)).alloc (.cells (zer32.map encB).toArray 29)).setRow w5.heap.size (va.map encB).toArray).setRow (w5.heap.size + 1) (vb.map encB).toArray) w5.heap.size 29 (va.map encB)) := Lib.hid (abox_setRow (setRow_heap _ _ _ _ _ _ hza) (by omega))
  have HC6 : Hid (ABox ((((w5.alloc (.cells (zer32.map encB).toArray 29)).alloc (.cells (zer32.map encB).toArray 29)).setRow w5.heap.size (va.map encB).toArray).setRow (w5.heap.size + 1) (vb.map encB).toArray) (w5.heap.size + 1) 29 (vb.map encB)) := Lib.hid (setRow_heap _ _ _ _ _ _ hzb)
  clear ht5 ho5 hbz hb6 k1 HEK HBB HRB2 HCA HE5 HB5 HR5 HFA HFB
  go_upto_region 9 with (first
    | (refine wpList_store_row rfl 29 (.tmp 14) (.tmp 57) rfl w5.heap.size (va.map encB).toArray ?_ ?_ 29 (zer32.map encB).toArray hza (by rw [HSA.out]; kernel_rfl) (by rw [HZ.out, HSA.out]) (hash_all _) ?_; rfl; rfl)
    | (refine wpList_store_row rfl 29 (.tmp 15) (.tmp 58) rfl (w5.heap.size + 1) (vb.map encB).toArray ?_ ?_ 29 (zer32.map encB).toArray hzb (by rw [HSB.out]; kernel_rfl) (by rw [HZ.out, HSB.out]) (hash_all _) ?_; rfl; rfl)
    | fail)
  clear hza hzb
  generalize hw4 : World.setRow (World.setRow (World.alloc (World.alloc w5 _) _) _ _) _ _ = w7
  have hw5 : ((((w5.alloc (.cells (zer32.map encB).toArray 29)).alloc (.cells (zer32.map encB).toArray 29)).setRow w5.heap.size (va.map encB).toArray).setRow (w5.heap.size + 1) (vb.map encB).toArray) = w7 := hw4
  rw [hw5] at HE6 HB6 HR6 HA6 HC6
  clear hw4 hw5
  generalize w5.heap.size + 1 = RB at *
  generalize w5.heap.size = RA at *
  have HTD := Lib.hid (tdone_any w1 w7 Lb Mb Pb _ s2 HE6.out.t)
  have l1 := HA6.out
  have l2 := HE6.out.lf
  have l3 := HC6.out
  have l4 := HR6.out
  unfold ABox at l1 l2 l3 l4
  obtain ⟨csA, hcA⟩ : ∃ c, (va.map encB).toArray = c := ⟨_, rfl⟩
  rw [hcA] at l1 HSA
  try rw [hcA]
  try rw [show hashV va = .agg csA from (hashE hcA).symm]
  have HCA := Lib.hid hcA
  clear hcA
  obtain ⟨csB, hcB⟩ : ∃ c, (vb.map encB).toArray = c := ⟨_, rfl⟩
  rw [hcB] at l3 HSB
  try rw [hcB]
  try rw [show hashV vb = .agg csB from (hashE hcB).symm]
  have HCB := Lib.hid hcB
  clear hcB
  obtain ⟨csO, hcO⟩ : ∃ c, (old.map encB).toArray = c := ⟨_, rfl⟩
  rw [hcO] at l2 HSO
  try rw [hcO]
  try rw [show hashV old = .agg csO from (hashE hcO).symm]
  have HCO := Lib.hid hcO
  clear hcO
  obtain ⟨csR, hcR⟩ : ∃ c, (rt.map encB).toArray = c := ⟨_, rfl⟩
  rw [hcR] at l4 HSR
  try rw [hcR]
  try rw [show hashV rt = .agg csR from (hashE hcR).symm]
  have HCR := Lib.hid hcR
  clear hcR
  rcases (show q1 = false ∨ (q1 = true ∧ q2 = false) ∨ (q1 = true ∧ q2 = true) by cases q1 <;> cases q2 <;> simp) with rfl | ⟨rfl, rfl⟩ | ⟨rfl, rfl⟩
  · go_wp2_with (first
      | (refine wpList_load_row rfl 29 (.tmp 14) rfl RA ?_ 29 csA (0, 0) _ l1 Tryd.underlying29 ?_ ?_ ?_; rfl; rfl; (rw [HSA.out]; kernel_rfl))
      | (refine wpList_load_row rfl 29 (.tmp 5) rfl Ob ?_ 29 csO (0, 0) _ l2 Tryd.underlying29 ?_ ?_ ?_; rfl; rfl; (rw [HSO.out]; kernel_rfl))
      | (refine wpList_eqlH rfl (.tmp 59) (.tmp 60) rfl va old ?_ ?_ HAB.out.1 HOL.out ?_; exact hashE HCA.out; exact hashE HCO.out; rw [HQ1.out])
      | fail)
    go_ret
    exact ⟨ret_bool (by rw [HE.out]; simp), HOE.out ▸ HB6.out⟩
  · go_wp2_with (first
      | (refine wpList_load_row rfl 29 (.tmp 14) rfl RA ?_ 29 csA (0, 0) _ l1 Tryd.underlying29 ?_ ?_ ?_; rfl; rfl; (rw [HSA.out]; kernel_rfl))
      | (refine wpList_load_row rfl 29 (.tmp 5) rfl Ob ?_ 29 csO (0, 0) _ l2 Tryd.underlying29 ?_ ?_ ?_; rfl; rfl; (rw [HSO.out]; kernel_rfl))
      | (refine wpList_eqlH rfl (.tmp 59) (.tmp 60) rfl va old ?_ ?_ HAB.out.1 HOL.out ?_; exact hashE HCA.out; exact hashE HCO.out; rw [HQ1.out])
      | (refine wpList_load_rowG (by kernel_rfl) 29 (.tmp 15) rfl RB ?_ 29 csB (0, 0) _ l3 Tryd.underlying29 ?_ ?_ ?_; rfl; rfl; (rw [HSB.out]; kernel_rfl))
      | (refine wpList_load_rowG (by kernel_rfl) 29 (.tmp 7) rfl Rb ?_ 29 csR (0, 0) _ l4 Tryd.underlying29 ?_ ?_ ?_; rfl; rfl; (rw [HSR.out]; kernel_rfl))
      | (refine wpList_eqlHG (by kernel_rfl) (.tmp 63) (.tmp 64) rfl vb rt ?_ ?_ HAB.out.2 HRL.out ?_; exact hashE HCB.out; exact hashE HCR.out; rw [HQ2.out])
      | fail)
    go_ret
    exact ⟨ret_bool (by rw [HE.out]; simp), HOE.out ▸ HB6.out⟩
  · go_wp2_with (first
      | (refine wpList_load_row rfl 29 (.tmp 14) rfl RA ?_ 29 csA (0, 0) _ l1 Tryd.underlying29 ?_ ?_ ?_; rfl; rfl; (rw [HSA.out]; kernel_rfl))
      | (refine wpList_load_row rfl 29 (.tmp 5) rfl Ob ?_ 29 csO (0, 0) _ l2 Tryd.underlying29 ?_ ?_ ?_; rfl; rfl; (rw [HSO.out]; kernel_rfl))
      | (refine wpList_eqlH rfl (.tmp 59) (.tmp 60) rfl va old ?_ ?_ HAB.out.1 HOL.out ?_; exact hashE HCA.out; exact hashE HCO.out; rw [HQ1.out])
      | (refine wpList_load_rowG (by kernel_rfl) 29 (.tmp 15) rfl RB ?_ 29 csB (0, 0) _ l3 Tryd.underlying29 ?_ ?_ ?_; rfl; rfl; (rw [HSB.out]; kernel_rfl))
      | (refine wpList_load_rowG (by kernel_rfl) 29 (.tmp 7) rfl Rb ?_ 29 csR (0, 0) _ l4 Tryd.underlying29 ?_ ?_ ?_; rfl; rfl; (rw [HSR.out]; kernel_rfl))
      | (refine wpList_eqlHG (by kernel_rfl) (.tmp 63) (.tmp 64) rfl vb rt ?_ ?_ HAB.out.2 HRL.out ?_; exact hashE HCB.out; exact hashE HCR.out; rw [HQ2.out])
      | fail)
    refine HTD.out.mono ?_
    rintro e w8 ⟨rfl, rfl⟩
    go_wp2_with fail
    go_ret
    exact ⟨ret_bool (by rw [HE.out]; simp), HOE.out ▸ HB6.out⟩
theorem extends_any (old rt : List UInt8) (ho : old.length = 32) (hr : rt.length = 32) (m n : Int) (A : Option Addr) (c N : Nat) (p : List H32) (w : World) (hs : Sl w (fun b => b < w.heap.size) A c p) (hN : p.length = N) (hN2 : N ≤ 9223372036854775807) (hK : KLaid w) :
    Calls Tryd.prog 59 #[hashV old, .int .i64 m, hashV rt, .int .i64 n, .slice A N c] w fun e w' => e = .returned (.bool (extendsP old m rt n p)) ∧ Below w.heap.size w w' := by
  by_cases h : m < 0 ∨ n < m ∨ 65536 < n
  · exact extends_no old rt m n A c N p w h
  · by_cases h0 : m = 0
    · subst h0
      exact extends_nil old rt ho hr n A c N p w (by omega) (by omega) hN hN2 hK
    · obtain ⟨m', rfl⟩ : ∃ k : Nat, m = (k : Int) := ⟨m.toNat, by omega⟩
      obtain ⟨n', rfl⟩ : ∃ k : Nat, n = (k : Int) := ⟨n.toNat, by omega⟩
      exact extends_yes old rt ho hr m' n' A c N p w (by omega) (by omega) (by omega) hs hN hN2 hK
set_option maxRecDepth 100000 in
set_option maxHeartbeats 4000000 in
theorem grown_any (m n : Int) (ro rt : List UInt8) (ho : ro.length = 32) (hr : rt.length = 32) (A : Option Addr) (c N : Nat) (p : List H32) (w : World) (hs : Sl w (fun b => b < w.heap.size) A c p) (hN : p.length = N) (hN2 : N ≤ 9223372036854775807) (hK : KLaid w) :
    Calls Tryd.prog 29 #[headV m ro, headV n rt, .slice A N c] w fun e w' => e = .returned (.bool (extendsP ro m rt n p)) ∧ Below w.heap.size w w' := by
  have hba : Below w.heap.size w ((w.alloc (.cells (headL m ro).toArray 40)).alloc (.cells (headL n rt).toArray 40)) := ((Below.refl _ _).alloc (Nat.le_refl _) _).alloc (by simp) _
  have HX1 : Hid (ABox ((w.alloc (.cells (headL m ro).toArray 40)).alloc (.cells (headL n rt).toArray 40)) w.heap.size 40 (headL m ro)) := Lib.hid (by unfold ABox; rw [Below.heap_alloc _ _ _ (by simp)]; exact heap_alloc_new w _)
  have HX2 : Hid (ABox ((w.alloc (.cells (headL m ro).toArray 40)).alloc (.cells (headL n rt).toArray 40)) (w.heap.size + 1) 40 (headL n rt)) := Lib.hid (heap_at (by simp))
  have HEX := Lib.hid (extends_any ro rt ho hr m n A c N p _ (hs.to hba) hN hN2 (hK.to hba))
  have HB := Lib.hid hba
  clear hba hs hK hN
  have HRM : Hid ((ro.map encB).length = 32) := Lib.hid (by rw [List.length_map, ho])
  have HRN : Hid ((rt.map encB).length = 32) := Lib.hid (by rw [List.length_map, hr])
  have HR1 : Hid (((w.alloc (.cells (headL m ro).toArray 40)).alloc (.cells (headL n rt).toArray 40)).rangeAt w.heap.size 1 (ro.map encB)) := Lib.hid (fun j v hv => by
    rw [Nat.add_comm]
    exact HX1.out.cell (j + 1) (by unfold headL; rw [List.getElem?_cons_succ]; exact hv))
  have HR2 : Hid (((w.alloc (.cells (headL m ro).toArray 40)).alloc (.cells (headL n rt).toArray 40)).rangeAt (w.heap.size + 1) 1 (rt.map encB)) := Lib.hid (fun j v hv => by
    rw [Nat.add_comm 1 j]
    exact HX2.out.cell (j + 1) (by unfold headL; rw [List.getElem?_cons_succ]; exact hv))
  clear ho hr
  unfold headV
  go_enter Tryd.func29, Tryd.ntmps29
  go_upto_region 1 with (fail)
  generalize hw1 : World.alloc (World.alloc w _) _ = w1
  have hw2 : ((w.alloc (.cells (headL m ro).toArray 40)).alloc (.cells (headL n rt).toArray 40)) = w1 := hw1
  rw [hw2] at HX1 HX2 HB HEX HR1 HR2
  clear hw1 hw2
  have k0 := HX1.out.cell 0 rfl
  have k1 := HX2.out.cell 0 rfl
  go_wp2_with (first
    | (refine wpList_load_mid rfl 29 (.tmp 7) rfl w.heap.size 1 ?_ (ro.map encB) _ HR1.out Tryd.underlying29 ?_ ?_ ?_; rfl; rfl; (rw [HRM.out]; kernel_rfl))
    | (refine wpList_load_mid rfl 29 (.tmp 11) rfl (w.heap.size + 1) 1 ?_ (rt.map encB) _ HR2.out Tryd.underlying29 ?_ ?_ ?_; rfl; rfl; (rw [HRN.out]; kernel_rfl))
    | fail)
  refine HEX.out.mono ?_
  rintro e w2 ⟨rfl, hb2⟩
  have HB2 := Lib.hid (HB.out.trans (hb2.mono HB.out.size))
  clear hb2
  go_wp2_with fail
  go_ret
  exact ⟨rfl, HB2.out⟩
end Go.Proofs.YthcklfelofpffaaDoor
namespace Go.Proofs.YthcklfelofpffaaDoor
theorem splitN_pow (n : Nat) : ∃ j, splitN n = 2 ^ j := ⟨_, rfl⟩
theorem splitN_part (n m : Nat) (h2 : 2 ≤ n) (h : n ≤ 1073741824) (h1 : splitN n < m) (h3 : m ≤ n) : splitN m = splitN n := by
  obtain ⟨_, _, h4, h5, h6⟩ := splitN_bounds n h2 (by omega)
  obtain ⟨j, hj⟩ := splitN_pow n
  rw [hj] at h4 h5 h6 h1 ⊢
  exact splitN_eq m j (by omega) (by omega) h1 (by omega)
theorem extP_grow (P : List H32) : ∀ (f m : Nat) (l : List H32) (whole : Bool) (old : List UInt8) (j : Nat) (pre : List H32), l.length ≤ f → l.length ≤ 1073741824 → 1 ≤ m → m ≤ l.length → (whole = true → old = root (l.take m)) →
    j = pre.length → P.take (j + (growF f m l whole).length) = pre ++ growF f m l whole → extP f P old m l.length whole (j + (growF f m l whole).length, false) = ((root (l.take m), root l), (j, false))
  | 0, m, l, _, _, _, _, h1, _, h2, h3, _, _, _ => by omega
  | f + 1, m, l, whole, old, j, pre, hf, hs, h1, h2, ho, hj, hp => by
    have take1 : ∀ (X : List H32) (x : List UInt8) (s : Nat × Bool), s = (j + (X ++ [(⟨x⟩ : H32)]).length, false) → P.take (j + (X ++ [(⟨x⟩ : H32)]).length) = pre ++ (X ++ [⟨x⟩]) → takeP P s = (x, (j + X.length, false)) ∧ P.take (j + X.length) = pre ++ X := by
      intro X x s hs' hX
      subst hs'
      rw [List.length_append, List.length_singleton] at hX ⊢
      have hlen : j + X.length < P.length := by
        have := congrArg List.length hX
        rw [List.length_take, List.length_append, List.length_append, List.length_singleton] at this
        omega
      have h3 : P[j + X.length] = ⟨x⟩ := by
        have h4 : (P.take (j + (X.length + 1)))[j + X.length]? = (pre ++ (X ++ [(⟨x⟩ : H32)]))[j + X.length]? := by rw [hX]
        rw [List.getElem?_take, if_pos (by omega), List.getElem?_eq_getElem hlen, List.getElem?_append_right (by omega), List.getElem?_append_right (by omega), show j + X.length - pre.length - X.length = 0 by omega] at h4
        simpa using h4
      refine ⟨?_, ?_⟩
      · unfold takeP
        rw [if_neg (by simp only; omega)]
        simp only
        rw [show j + (X.length + 1) - 1 = j + X.length by omega, hAt_eq P _ hlen, h3]
      · have h5 : (P.take (j + (X.length + 1))).take (j + X.length) = (pre ++ (X ++ [(⟨x⟩ : H32)])).take (j + X.length) := by rw [hX]
        rw [List.take_take, Nat.min_eq_left (by omega), hj, List.take_length_add_append, List.take_append_of_le_length (by omega), List.take_length] at h5
        rw [hj]; exact h5
    rw [extP]
    rw [growF] at hp ⊢
    by_cases hm : m = l.length
    · rw [if_pos hm] at hp ⊢
      have htk : l.take m = l := by rw [hm, List.take_length]
      cases whole with
      | true =>
        rw [if_pos rfl] at hp ⊢
        rw [if_pos ⟨hm, rfl⟩, ho rfl, htk]
        rfl
      | false =>
        have e0 : (if false = true then [] else [(⟨root l⟩ : H32)]) = [⟨root l⟩] := if_neg (by decide)
        rw [e0] at hp ⊢
        obtain ⟨t1, _⟩ := take1 [] (root l) _ rfl (by rw [List.nil_append]; exact hp)
        rw [if_neg (show ¬ (m = l.length ∧ false = true) by simp), if_pos hm]
        rw [List.nil_append] at t1
        rw [t1, htk]
        rfl
    · rw [if_neg hm] at hp ⊢
      rw [if_neg (by omega), if_neg hm]
      obtain ⟨_, _, k1, k2, k3⟩ := splitN_bounds l.length (by omega) (by omega)
      by_cases hk : m ≤ splitN l.length
      · rw [if_pos hk] at hp ⊢
        rw [if_pos hk]
        obtain ⟨t1, t2⟩ := take1 _ _ _ rfl hp
        have hlen : (l.take (splitN l.length)).length = splitN l.length := by rw [List.length_take]; omega
        have htt : (l.take (splitN l.length)).take m = l.take m := by rw [List.take_take, Nat.min_eq_left hk]
        have ih := extP_grow P f m (l.take (splitN l.length)) whole old j pre (by omega) (by omega) h1 (by omega) (by rw [htt]; exact ho) hj t2
        rw [hlen, htt] at ih
        rw [t1]
        dsimp only
        rw [ih, root_node l (by omega) hs]
      · rw [if_neg hk] at hp ⊢
        rw [if_neg hk]
        obtain ⟨t1, t2⟩ := take1 _ _ _ rfl hp
        have hlen : (l.drop (splitN l.length)).length = l.length - splitN l.length := by rw [List.length_drop]
        have ih := extP_grow P f (m - splitN l.length) (l.drop (splitN l.length)) false old j pre (by omega) (by omega) (by omega) (by omega) (by simp) hj t2
        rw [hlen] at ih
        have hsm := splitN_part l.length m (by omega) hs (by omega) h2
        have hlm : (l.take m).length = m := by rw [List.length_take]; omega
        have hr : root (l.take m) = nodeH (root (l.take (splitN l.length))) (root ((l.drop (splitN l.length)).take (m - splitN l.length))) := by
          rw [root_node (l.take m) (by omega) (by omega), hlm, hsm, List.take_take, Nat.min_eq_left (by omega), List.drop_take]
        rw [t1]
        dsimp only
        rw [ih, root_node l (by omega) hs, hr]
/-- A ledger extends its first leaves, by its growth. -/
theorem extends_growth (l : List H32) (m : Nat) (h : m ≤ l.length) (hs : l.length ≤ 65536) : extendsP (root (l.take m)) m (root l) l.length (growthP l m) = true := by
  unfold extendsP
  rw [if_neg (by omega)]
  by_cases h0 : m = 0
  · subst h0
    have hg : growthP l ((0 : Nat) : Int) = [] := if_pos (.inr (.inr rfl))
    rw [if_pos (show ((0 : Nat) : Int) = 0 from rfl), hg, List.take_zero]
    cases l with
    | nil => simp
    | cons x l => simp
  · rw [if_neg (by omega), Int.toNat_natCast, Int.toNat_natCast]
    have hg : growthP l (m : Int) = growF l.length m l true := by
      unfold growthP; rw [if_neg (by omega), Int.toNat_natCast]
    rw [hg]
    have := extP_grow (growF l.length m l true) l.length m l true (root (l.take m)) 0 [] (Nat.le_refl _) (by omega) (by omega) h (fun _ => rfl) rfl (by rw [Nat.zero_add, List.take_length, List.nil_append])
    rw [Nat.zero_add] at this
    rw [this]
    simp
theorem growthE_ok (l : List H32) (m : Nat) (h : m ≤ l.length) : growthE l m = 0 := if_neg (by omega)
end Go.Proofs.YthcklfelofpffaaDoor
namespace Go.Proofs.YthcklfelofpffaaDoor
open Go.RowKit
theorem fields_of {P : Program} {t : TypeId} {fs : Array Field} (h : P.underlying t = some (.struct fs)) : P.underlying t = some (.struct (P.fieldsOf t)) := by
  have e : P.fieldsOf t = fs := by unfold Program.fieldsOf; rw [h]
  rw [e, h]
theorem eqFields_two {P : Program} {w : World} {d : Nat} {xs ys : Array Value} {f g : Field} {a b a' b' : Value} (f1 : f.name ≠ "_") (g1 : g.name ≠ "_") (p1 : (Go.part f.type xs f.offset).run P w = .ok a w) (p2 : (Go.part f.type ys f.offset).run P w = .ok a' w) (p3 : (Op.equalIn d f.type a a').run P w = .ok true w)
    (q1 : (Go.part g.type xs g.offset).run P w = .ok b w) (q2 : (Go.part g.type ys g.offset).run P w = .ok b' w) (q3 : (Op.equalIn d g.type b b').run P w = .ok true w) : (Op.eqFields d xs ys [f, g]).run P w = .ok true w := by
  simp only [Op.eqFields, f1, g1, ne_eq, not_false_eq_true, if_true, Sem.run_bind, p1, p2, p3, q1, q2, q3, Result.andThen_ok, Bool.not_true, Bool.false_eq_true, if_false, Sem.run_pure]
theorem run_part_root (n : Int) (r : List UInt8) (h : r.length = 32) (w : World) : (Go.part 29 (headL n r).toArray 1).run Tryd.prog w = .ok (hashV r) w := by
  have hc : Tryd.prog.cellsOf 29 = 32 := by kernel_rfl
  have hs : ∀ w, (sizeOf 29).run Tryd.prog w = .ok 32 w := fun w => by
    obtain ⟨i, hi, _⟩ := info_parts h_info
    rw [run_sizeOf w hi, hc]
  simp [Go.part, isAgg, run_underlying Tryd.underlying29, go_sem, hs]
  rw [show (headL n r).tail = r.map encB from rfl, List.take_of_length_le (by simp [h])]
  rfl
theorem run_part_size (n : Int) (r : List UInt8) (w : World) : (Go.part 3 (headL n r).toArray 0).run Tryd.prog w = .ok (.int .i64 n) w := by
  simp [Go.part, isAgg, run_underlying Tryd.underlying3, go_sem, headL]
theorem head_fields : (Tryd.prog.fieldsOf 40).toList.map (fun f => (f.name == "_", f.type, f.offset)) = [(false, 3, 0), (false, 29, 1)] := by kernel_rfl
theorem guard_head : Tryd.prog.eqGuardType Tryd.prog.depth 40 = false := by kernel_rfl
theorem run_head_neq (n : Int) (r : List UInt8) (h : r.length = 32) (w : World) : (binOp .neq 40 (.agg (headL n r).toArray) (.agg (headL n r).toArray)).run Tryd.prog w = .ok (.bool false) w := by
  have hu := fields_of Tryd.underlying40
  have e1 := run_part_size n r w
  have e2 := run_part_root n r h w
  have e3 : (Op.equalIn 9999 3 (.int .i64 n) (.int .i64 n)).run Tryd.prog w = .ok true w := by
    rw [run_equalIn_int w 9998 3 .i64 .i64 _ _ Tryd.underlying3]; simp
  have e4 : (Op.equalIn 9999 29 (hashV r) (hashV r)).run Tryd.prog w = .ok true w := by
    have := run_hash_eq 9997 r r h h w
    rw [decide_eq_true rfl] at this
    exact this
  rw [run_neq_struct, show (10000 : Nat) = 9999 + 1 from rfl, run_equalIn_struct w 9999 40 _ _ hu (by kernel_rfl)]
  have hq := head_fields
  generalize (Tryd.prog.fieldsOf 40).toList = fl at *
  have hlen : fl.length = 2 := by have := congrArg List.length hq; simpa using this
  obtain ⟨f, g, rfl⟩ := (show ∃ f g, fl = [f, g] from (by rcases fl with _ | ⟨f, _ | ⟨g, _ | ⟨h, t⟩⟩⟩ <;> simp at hlen; exact ⟨f, g, rfl⟩))
  simp only [List.map_cons, List.map_nil, List.cons.injEq, Prod.mk.injEq, beq_eq_false_iff_ne, ne_eq, and_true] at hq
  obtain ⟨⟨f1, f2, f3⟩, g1, g2, g3⟩ := hq
  rw [eqFields_two (a := .int .i64 n) (a' := .int .i64 n) (b := hashV r) (b' := hashV r) f1 g1 (by rw [f2, f3]; exact e1) (by rw [f2, f3]; exact e1) (by rw [f2]; exact e3) (by rw [g2, g3]; exact e2) (by rw [g2, g3]; exact e2) (by rw [g2]; exact e4)]
  rw [Result.andThen_ok]
  rfl
end Go.Proofs.YthcklfelofpffaaDoor
namespace Go.Proofs.YthcklfelofpffaaDoor
open Go.RowKit
structure Led where
  l : List H32
  n : List ByteArray
instance : Rep Led where
  size := 2
  R w S cs s := ∃ va vb, cs = [va, vb] ∧ Rep.R w S [va] s.l ∧ Rep.R w S [vb] s.n
  len := by rintro w S cs s ⟨va, vb, rfl, _⟩; rfl
  one := by
    rintro w S cs s ⟨va, vb, rfl, ha, hb⟩ u hu
    have h1 := Rep.one ha va (by simp)
    have h2 := Rep.one hb vb (by simp)
    simp at hu
    rcases hu with rfl | rfl
    · exact h1
    · exact h2
  keep := by rintro w w' S cs s ⟨va, vb, rfl, ha, hb⟩ hk; exact ⟨va, vb, rfl, Rep.keep ha hk, Rep.keep hb hk⟩
  mono := by rintro w S S' cs s ⟨va, vb, rfl, ha, hb⟩ hk; exact ⟨va, vb, rfl, Rep.mono ha hk, Rep.mono hb hk⟩
theorem led_at {w : World} {S : Nat → Prop} {A : Option Addr} {c : Nat} {l : List Led} (h : Sl w S A c l) {k : Nat} (hk : k < l.length) :
    ∃ b o A1 c1 A2 c2, A = some ⟨b, o, none⟩ ∧ S b ∧ b < w.heap.size ∧ w.cell? ⟨b, o + k * 2, none⟩ = some (.slice A1 l[k].l.length c1) ∧ w.cell? ⟨b, o + k * 2 + 1, none⟩ = some (.slice A2 l[k].n.length c2) ∧ Sl w S A1 c1 l[k].l ∧ Sl w S A2 c2 l[k].n := by
  obtain ⟨b, o, es, rfl, hb, hlt, ⟨_, _, rfl, ⟨A1, c1, e1, h1, _⟩, ⟨A2, c2, e2, h2, _⟩⟩, hc⟩ := h.at_ hk
  cases e1; cases e2
  exact ⟨b, o, A1, c1, A2, c2, rfl, hb, hlt, hc 0 _ rfl, hc 1 _ rfl, h1, h2⟩
theorem addAll_prefix (branch : Int) : ∀ (l : List Sheet) (p : List H32 × List ByteArray), ∃ t, (addAll branch p l).1 = p.1 ++ t
  | [], p => ⟨[], by simp [addAll]⟩
  | s :: l, p => by
    obtain ⟨t, h⟩ := addAll_prefix branch l (addOne branch p s)
    have h2 : ∃ t', (addOne branch p s).1 = p.1 ++ t' := by
      unfold addOne; split
      · exact ⟨_, rfl⟩
      · exact ⟨[], by simp⟩
    obtain ⟨t', h2⟩ := h2
    exact ⟨t' ++ t, by show (addAll branch (addOne branch p s) l).1 = _; rw [h, h2, List.append_assoc]⟩
/-- Each ledger is a beginning of the last one. -/
def LChain (all : List Led) (k : Nat) : Prop := ∀ x ∈ all, x.l.length = x.n.length ∧ x.l.length ≤ 12 * k ∧ ∀ y, all.getLast? = some y → x.l.length ≤ y.l.length ∧ x.l = y.l.take x.l.length
theorem LChain.next {all : List Led} {k : Nat} (h : LChain all k) {z y : Led} (hl : all.getLast? = some y) (h1 : z.l.length = z.n.length) (h2 : z.l.length ≤ 12 * (k + 1)) (h3 : ∃ t, z.l = y.l ++ t) : LChain (all ++ [z]) (k + 1) := by
  obtain ⟨t, h3⟩ := h3
  have hz : ∀ y', (all ++ [z]).getLast? = some y' → y' = z := fun y' hy => by simpa using hy.symm
  intro x hx
  rcases List.mem_append.1 hx with hx | hx
  · obtain ⟨a, b, c⟩ := h x hx
    obtain ⟨c1, c2⟩ := c y hl
    refine ⟨a, by omega, fun y' hy => ?_⟩
    rw [hz y' hy, h3]
    refine ⟨by rw [List.length_append]; omega, ?_⟩
    rw [List.take_append_of_le_length c1]; exact c2
  · obtain rfl := List.mem_singleton.1 hx
    refine ⟨h1, h2, fun y' hy => ?_⟩
    rw [hz y' hy]
    exact ⟨Nat.le_refl _, by rw [List.take_length]⟩
theorem own_ne {α : Type} [Rep α] {w : World} {B b : Nat} {e e' : TypeId} {v : Value} {l : List α} {cs : Array Value} {fr : Nat × Nat} (h : Own w B e v l) (hb : w.heap[b]? = some (.cells cs e' fr)) (hne : e ≠ e') : v.ownBlock ≠ some b := by
  obtain ⟨xs, hx, _⟩ := h
  rcases hx.2 with ⟨rfl, _⟩ | ⟨g, cap, cur, rfl, _, hg, _⟩
  · simp [Value.ownBlock]
  · intro he
    have : g = b := by simpa [Value.ownBlock] using he
    subst this
    rw [hg] at hb
    cases hb
    exact hne rfl
theorem exec_built {P : Program} {o : Oper} {a : Act} {w : World} (t : TypeId) (parts : List (Nat × Operand)) (ho : o.op = .build t parts.toArray) (l : List (Nat × Value)) (hl : parts.map (fun x => (x.1, a.eval x.2)) = l) (cs : Array Value) (hb : P.built t l = some cs) :
    (execOp a.eval o).run P w = .ok (.value (.agg cs)) w := by
  have e : (parts.toArray.map fun (i, x) => (i, a.eval x)).toList = l := by rw [List.map_toArray]; exact hl
  unfold execOp
  simp only [ho]
  rw [Sem.run_bind, run_build w t _ cs (by rw [e]; exact hb)]
  rfl
theorem led_info : (Tryd.prog.info? 36).map (fun i => (i.zero, i.size, i.bytes)) = some (some (.agg #[.slice none 0 0, .slice none 0 0]), Rep.size Led, 48) := by kernel_rfl
set_option maxRecDepth 100000 in
set_option maxHeartbeats 8000000 in
theorem growsLaw_any (branch : Int) (A : Option Addr) (c : Nat) (ll : List (List Int)) (w : World) (hbr : I64 branch) (hl : Sl w (fun b => b < w.heap.size) A c ll) (hK : KLaid w) :
    Calls Tryd.prog 8 #[.int .i64 branch, .slice A ll.length c] w fun e w' => e = .returned (.bool true) ∧ Below w.heap.size w w' := by
  have HL := Lib.hid hl
  have HBR := Lib.hid hbr
  have HK := Lib.hid hK
  clear hl hbr hK
  have hba : Below w.heap.size w (w.alloc (.cells #[.slice none 0 0, .slice none 0 0] 36)) := (Below.refl _ _).alloc (Nat.le_refl _) _
  have HR0 : Hid (Rep.R (w.alloc (.cells #[.slice none 0 0, .slice none 0 0] 36)) (fun b => some b ≠ (Value.slice none 0 0).ownBlock) [.slice none 0 0, .slice none 0 0] (⟨[], []⟩ : Led)) := Lib.hid ⟨_, _, rfl, ⟨none, 0, rfl, Sl.nil _ _ _ _ (by decide), by decide⟩, ⟨none, 0, rfl, Sl.nil _ _ _ _ (by decide), by decide⟩⟩
  have HH0 : Hid ((w.alloc (.cells #[.slice none 0 0, .slice none 0 0] 36)).heap[w.heap.size]? = some (.cells #[.slice none 0 0, .slice none 0 0] 36 (0, 0))) := Lib.hid (heap_alloc_new w _)
  have HB0 := Lib.hid hba
  clear hba
  go_enter Tryd.func8, Tryd.ntmps8
  go_wp2_with (first
    | (at_builtin; refine wpList_push (α := Led) _ rfl (.tmp 12) (.tmp 14) 58 rfl w.heap.size 36 (.agg #[.slice none 0 0, .slice none 0 0]) 48 Tryd.underlying58 led_info rfl (by decide) (.slice none 0 0) [] rfl (Own.nil _ _ _) w.heap.size #[.slice none 0 0, .slice none 0 0] ⟨[], []⟩ (0, 0) 36 rfl HH0.out HR0.out (by decide) (by decide) (by simp) _ rfl ?_; intro g5 p5 w5 hown5 hg5 hat5 hlt5)
    | fail)
  have hbz : Below w.heap.size w w5 := below_push (Below.refl _ _) (Own.nil (α := Led) w w.heap.size 36) (Nat.le_refl _) hg5
  have HO5 := Lib.hid hown5
  have HB5 := Lib.hid hbz
  clear hbz hown5 hg5 hat5 hlt5 HR0 HH0 HB0
  go_loopw [5, 6] (fun v i wr => ∃ (k : Nat) (all : List Led), k ≤ ll.length ∧ i = .int .i64 k ∧ k ≤ 5 ∧ Hid (all.length = k + 1) ∧ Hid (LChain all k) ∧ Hid (Own wr w.heap.size 36 v all) ∧ Hid (Below w.heap.size w wr)) (fun v i _ => ll.length - (intOf i).toNat)
  case atStart => exact ⟨0, [⟨[], []⟩], Nat.zero_le _, rfl, by omega, Lib.hid rfl, Lib.hid (fun x hx => by
    obtain rfl := List.mem_singleton.1 hx
    exact ⟨rfl, by simp, fun y hy => by simp⟩), HO5, HB5⟩
  case round =>
    obtain ⟨k, all, hk, rfl, hk5, HAL, HCH, HO, HB⟩ := hrel
    by_cases hlt : k < ll.length
    · by_cases h5 : k < 5
      · have hkl : (k : Int) < (ll.length : Int) := by omega
        have hk0 : (0 : Int) ≤ (k : Int) := by omega
        have hk5' : (k : Int) < 5 := by omega
        obtain ⟨A3, c3, rfl, hsl⟩ := HO.out.sl
        have hka : k < all.length := by rw [HAL.out]; omega
        obtain ⟨y, hy⟩ : ∃ y, y = all[k] := ⟨_, rfl⟩
        have HYL : Hid (all.getLast? = some y ∧ y ∈ all) := Lib.hid ⟨by rw [List.getLast?_eq_getElem?, HAL.out, Nat.add_sub_cancel, List.getElem?_eq_getElem hka, hy], by rw [hy]; exact List.getElem_mem _⟩
        obtain ⟨ba, oa, A1, c1, A2, c2, rfl, -, hba, e0, e1, s1, s2⟩ := led_at hsl hka
        rw [← hy] at e0 e1 s1 s2
        obtain ⟨bx, ox, AX, cX, rfl, _, hbx, ex, sx⟩ := ints_at (HL.out.to HB.out) hlt
        obtain ⟨x, hx⟩ : ∃ x, x = ll[k] := ⟨_, rfl⟩
        rw [← hx] at ex sx
        have HSX := Lib.hid sx
        have HS1 := Lib.hid s1
        have HS2 := Lib.hid s2
        have HE := Lib.hid (And.intro hba (And.intro e0 (And.intro e1 (And.intro hbx ex))))
        have HLM : Hid (y.l.length = y.n.length ∧ y.l.length ≤ 60) := Lib.hid (by have := HCH.out y HYL.out.2; exact ⟨this.1, by have := this.2.1; omega⟩)
        have HALI : Hid ((all.length : Int) = (k : Int) + 1) := Lib.hid (by have := HAL.out; omega)
        clear e0 e1 ex s1 s2 sx hy hx hsl hba hbx
        generalize hAl : all.length = na at *
        have hna : (k : Int) < (na : Int) := by have := HALI.out; omega
        have HAl := Lib.hid hAl
        clear hAl
        go_upto_region 6 with (fail)
        refine wp_region_rely [9, 10, 11] (fun i => if i = 9 then (⟨fun v w' => ∃ sh : List Sheet, Own w' wr.heap.size 24 v sh ∧ sh.length ≤ 12 ∧ ∀ s ∈ sh, SmallS s, fun v w' w'' h hb => by obtain ⟨sh, a, b, c⟩ := h; exact ⟨sh, a.below hb, b, c⟩⟩ : SP) else if i = 10 then (⟨fun v w' => ∃ (sh : List Sheet) (v1 v2 : Value), sh.length ≤ 12 ∧ v = .agg #[v1, v2] ∧ Own w' wr.heap.size 29 v1 (addAll branch (y.l, y.n) sh).1 ∧ Own w' wr.heap.size 9 v2 (addAll branch (y.l, y.n) sh).2, fun v w' w'' h hb => by obtain ⟨sh, v1, v2, a, b, c, d⟩ := h; exact ⟨sh, v1, v2, a, b, c.below hb, d.below hb⟩⟩ : SP) else if i = 11 then SP.box wr.heap.size #[.slice none 0 0, .slice none 0 0] 36 else SP.any) 12 (by kernel_rfl) (by kernel_rfl) ?_
        intro T _ g hg hgm
        have q0 : ∀ d, (g d).cell? ⟨ba, oa + k * 2, none⟩ = some (.slice A1 y.l.length c1) := fun d => ((hg d).cell (p := ⟨ba, oa + k * 2, none⟩) HE.out.1).trans HE.out.2.1
        have q1 : ∀ d, (g d).cell? ⟨ba, oa + k * 2 + 1, none⟩ = some (.slice A2 y.n.length c2) := fun d => ((hg d).cell (p := ⟨ba, oa + k * 2 + 1, none⟩) HE.out.1).trans HE.out.2.2.1
        have q2 : ∀ d, (g d).cell? ⟨bx, ox + k, none⟩ = some (.slice AX x.length cX) := fun d => ((hg d).cell (p := ⟨bx, ox + k, none⟩) HE.out.2.2.2.1).trans HE.out.2.2.2.2
        repeat (refine wpR_pure (by rfl) fun Kq hq => ?_; go_big_quiet_step (fail); refine wpQuiet_nil (hq _ ?_); clear hq Kq)
        refine wpR_busy (by rfl) (by rfl) (fun d hG K Q hK => ?_) (fun v1 d hG hp Kr hr => ?_)
        · go_simp
          go_at_call 10
          refine (some_any AX cX x (g d) (HSX.out.to (hg d))).mono ?_
          rintro e W1 ⟨v1, rfl, sh, ho1, hl1, hm1, hb1⟩
          go_simp
          exact hK _ _ hb1 (⟨sh, ho1.re (hg d).size, hl1, hm1⟩)
        obtain ⟨sh, ho, -⟩ := (show ∃ sh : List Sheet, Own (g d) wr.heap.size 24 v1 sh ∧ _ from hp)
        obtain ⟨A5, c5, rfl, -⟩ := ho.form
        clear ho
        generalize sh.length = n5 at *
        clear sh
        (try clear hp); clear hG
        simp only [Act.put, List.setIfInBounds_toArray, List.set_cons_zero, List.set_cons_succ]
        refine hr _ ?_
        clear hr Kr
        refine wpR_busy (by rfl) (by rfl) (fun d hG K Q hK => ?_) (fun v2 d hG hp Kr hr => ?_)
        · obtain ⟨sh2, ho2, hl2, hm2⟩ := (show ∃ sh2 : List Sheet, Own (g d) wr.heap.size 24 (.slice A5 n5 c5) sh2 ∧ _ from hG 9 (by kernel_rfl))
          obtain ⟨A5', c5', e5, hs5⟩ := ho2.sl
          obtain ⟨rfl, rfl, rfl⟩ : A5 = A5' ∧ n5 = sh2.length ∧ c5 = c5' := by injection e5 with a b c; exact ⟨a, b, c⟩
          go_simp
          go_at_call 15
          refine (add_any branch A1 A2 A5 c1 c2 c5 y.l y.n sh2 (g d) HBR.out (HS1.out.to (hg d)) (HS2.out.to (hg d)) hs5 HLM.out.1 (by have := HLM.out; omega) (fun s hs => by have := smallS_size branch (hm2 s hs); omega) (HK.out.to (HB.out.trans ((hg d).mono HB.out.size)))).mono ?_
          rintro e W1 ⟨v1, v2, rfl, ho1, ho2, hb1⟩
          go_simp
          exact hK _ _ hb1 (⟨sh2, v1, v2, hl2, rfl, ho1.re (hg d).size, ho2.re (hg d).size⟩)
        obtain ⟨sh2, u1, u2, -, rfl, ho1, ho2⟩ := (show ∃ (sh : List Sheet) (u1 u2 : Value), sh.length ≤ 12 ∧ v2 = .agg #[u1, u2] ∧ _ from hp)
        obtain ⟨A6, c6, rfl, -⟩ := ho1.form
        obtain ⟨A7, c7, rfl, -⟩ := ho2.form
        clear ho1 ho2
        generalize (addAll branch (y.l, y.n) sh2).1.length = n6 at *
        generalize (addAll branch (y.l, y.n) sh2).2.length = n7 at *
        clear sh2
        (try clear hp); clear hG
        simp only [Act.put, List.setIfInBounds_toArray, List.set_cons_zero, List.set_cons_succ]
        refine hr _ ?_
        clear hr Kr
        refine wpR_busy (by rfl) (by rfl) (fun d hG K Q hK => ?_) (fun v3 d hG hp Kr hr => ?_)
        · go_simp
          exact hK _ _ ((Below.refl _ _).alloc (Nat.le_refl _) _) ⟨_, rfl, (hg d).size, by simp, heap_alloc_new _ _⟩
        obtain ⟨Lb, rfl, hLb, -⟩ := (show ∃ b, v3 = .pointer (some ⟨b, 0, none⟩) ∧ wr.heap.size ≤ b ∧ _ from hp)
        have HLb := Lib.hid hLb
        clear hLb
        (try clear hp); clear hG
        simp only [Act.put, List.setIfInBounds_toArray, List.set_cons_zero, List.set_cons_succ]
        refine hr _ ?_
        clear hr Kr
        refine wpR_tail 1 (by rfl) (by rfl) (fun d hG => ?_)
        obtain ⟨sh, u1, u2, hl3, he, ho1, ho2⟩ := (show ∃ (sh : List Sheet) (u1 u2 : Value), sh.length ≤ 12 ∧ Value.agg #[.slice A6 n6 c6, .slice A7 n7 c7] = .agg #[u1, u2] ∧ Own (g d) wr.heap.size 29 u1 (addAll branch (y.l, y.n) sh).1 ∧ Own (g d) wr.heap.size 9 u2 (addAll branch (y.l, y.n) sh).2 from hG 10)
        obtain ⟨b', hb', -, hbl, hbh⟩ := (show ∃ b, Value.pointer (some ⟨Lb, 0, none⟩) = .pointer (some ⟨b, 0, none⟩) ∧ wr.heap.size ≤ b ∧ b < (g d).heap.size ∧ (g d).heap[b]? = some (.cells #[.slice none 0 0, .slice none 0 0] 36 (0, 0)) from hG 11)
        cases hb'
        obtain ⟨rfl, rfl⟩ : u1 = .slice A6 n6 c6 ∧ u2 = .slice A7 n7 c7 := by
          have := congrArg (fun v : Value => match v with | .agg cs => cs.toList | _ => []) he
          simp at this
          exact ⟨this.1.symm, this.2.symm⟩
        have HQL := Lib.hid (addAll_len branch sh (y.l, y.n) HLM.out.1)
        have HQP := Lib.hid (addAll_prefix branch sh (y.l, y.n))
        have HSH := Lib.hid hl3
        generalize addAll branch (y.l, y.n) sh = q at *
        obtain ⟨A6', c6', e6, hs6⟩ := ho1.sl
        obtain ⟨A7', c7', e7, hs7⟩ := ho2.sl
        obtain ⟨rfl, rfl, rfl⟩ : A6 = A6' ∧ n6 = q.1.length ∧ c6 = c6' := by injection e6 with a b c; exact ⟨a, b, c⟩
        obtain ⟨rfl, rfl, rfl⟩ : A7 = A7' ∧ n7 = q.2.length ∧ c7 = c7' := by injection e7 with a b c; exact ⟨a, b, c⟩
        have HX : Hid (ABox (g d) Lb 36 [.slice none 0 0, .slice none 0 0]) := Lib.hid hbh
        have b0 := HX.out.cell 0 rfl
        have bf := HX.out.fz
        have b1 := (HX.out.set 0 (.slice A6 q.1.length c6)).cell 1 rfl
        have bf1 := (HX.out.set 0 (.slice A6 q.1.length c6)).fz
        have HB7 := Lib.hid (hg d)
        have HO1 := Lib.hid ho1
        have HO2 := Lib.hid ho2
        have HS6 := Lib.hid hs6
        have HS7 := Lib.hid hs7
        clear hG hg hgm q0 q1 q2 he ho1 ho2 e6 e7 hs6 hs7 hbl hbh hl3
        generalize g d = w6 at *
        clear g
        refine wpAny_one (i := 12) (oi := _) rfl (by kernel_rfl) (by rfl) (fun K hK => ?_)
        go_simp
        refine hK _ _ ?_
        clear hK K
        try simp only [Act.put, List.setIfInBounds_toArray, List.set_cons_zero, List.set_cons_succ]
        refine wpAny_done (by kernel_rfl) ?_ _
        have hkk : ∀ g, g ≠ Lb → ((w6.setCell ⟨Lb, 0, none⟩ (.slice A6 q.1.length c6)).setCell ⟨Lb, 1, none⟩ (.slice A7 q.2.length c7)).heap[g]? = w6.heap[g]? := fun g hg => (heap_set _ _ _ _ hg).trans (heap_set _ _ _ _ hg)
        have n6 := own_ne HO1.out HX.out (by decide)
        have n7 := own_ne HO2.out HX.out (by decide)
        have ho1 : Own ((w6.setCell ⟨Lb, 0, none⟩ (.slice A6 q.1.length c6)).setCell ⟨Lb, 1, none⟩ (.slice A7 q.2.length c7)) wr.heap.size 29 (.slice A6 q.1.length c6) q.1 := own_keepH HO1.out (fun g hg => hkk g (fun e => n6 (by rw [hg, e])))
        have ho2 : Own ((w6.setCell ⟨Lb, 0, none⟩ (.slice A6 q.1.length c6)).setCell ⟨Lb, 1, none⟩ (.slice A7 q.2.length c7)) wr.heap.size 9 (.slice A7 q.2.length c7) q.2 := own_keepS HO2.out (fun g hg => hkk g (fun e => n7 (by rw [hg, e])))
        have HLD : Hid (LB ((w6.setCell ⟨Lb, 0, none⟩ (.slice A6 q.1.length c6)).setCell ⟨Lb, 1, none⟩ (.slice A7 q.2.length c7)) Lb q.1 q.2 A6 c6 A7 c7) := Lib.hid ⟨(HX.out.set 0 _).set 1 _, ho1.slv rfl, ho2.slv rfl⟩
        have hbe : Below wr.heap.size wr ((w6.setCell ⟨Lb, 0, none⟩ (.slice A6 q.1.length c6)).setCell ⟨Lb, 1, none⟩ (.slice A7 q.2.length c7)) := (HB7.out.setCell (p := ⟨Lb, 0, none⟩) HLb.out _).setCell (p := ⟨Lb, 1, none⟩) HLb.out _
        have HO7 := Lib.hid (HO.out.below hbe)
        have HOA := Lib.hid ho1
        have HOB := Lib.hid ho2
        have HBE := Lib.hid (HB.out.trans (hbe.mono HB.out.size))
        have HBA : Hid (ba < wr.heap.size) := Lib.hid HE.out.1
        clear hkk n6 n7 ho1 ho2 hbe HO1 HO2 HS6 HS7 HB7 HX b0 bf b1 bf1 HE HS1 HS2 HSX HO
        unfold Exit.then
        generalize hw7 : World.setCell (World.setCell w6 _ _) _ _ = w7
        have hw8 : ((w6.setCell ⟨Lb, 0, none⟩ (.slice A6 q.1.length c6)).setCell ⟨Lb, 1, none⟩ (.slice A7 q.2.length c7)) = w7 := hw7
        rw [hw8] at HLD HO7 HOA HOB HBE
        clear hw7 hw8
        obtain ⟨wo, rfl⟩ : ∃ wo : World, wo = wr := ⟨_, rfl⟩
        have HQ60 : Hid (q.1.length ≤ 60 ∧ q.1.length ≤ 12 * (k + 1)) := Lib.hid (by
          have h1 : q.1.length ≤ y.l.length + sh.length := HQL.out.2
          have h2 := HSH.out
          have h3 := HCH.out y HYL.out.2
          omega)
        have hq60 : (q.1.length : Int) ≤ 60 := by have := HQ60.out; omega
        go_wp2_with fail
        go_loopw [8] (fun i wx => ∃ j : Nat, j ≤ k + 1 ∧ i = .int .i64 j ∧ Hid (Below w7.heap.size w7 wx)) (fun i _ => k + 1 - (intOf i).toNat)
        case atStart => exact ⟨0, Nat.zero_le _, rfl, Lib.hid (Below.refl _ _)⟩
        case round =>
          obtain ⟨j, hj, rfl, HBw⟩ := hrel
          have HLw := Lib.hid (HLD.out.to HBw.out)
          have HOw := Lib.hid (HO7.out.below HBw.out)
          have HKw : Hid (KLaid wr) := Lib.hid (HK.out.to (HBE.out.trans (HBw.out.mono HBE.out.size)))
          by_cases hjk : j < k + 1
          · have hjk' : (j : Int) ≤ (k : Int) := by omega
            have hj0 : (0 : Int) ≤ (j : Int) := by omega
            have hjna : (j : Int) < (na : Int) := by have := HALI.out; omega
            have hja : j < all.length := by rw [HAl.out, HAL.out]; exact hjk
            obtain ⟨z, hz⟩ : ∃ z, z = all[j] := ⟨_, rfl⟩
            obtain ⟨b', o', B1, d1, B2, d2, eb, -, hbl, e0, e1, s1, s2⟩ := led_at (HOw.out.slv HAl.out.symm) hja
            cases eb
            rw [← hz] at e0 e1 s1 s2
            have HZ : Hid (z.l.length = z.n.length ∧ z.l.length ≤ q.1.length ∧ z.l = q.1.take z.l.length) := Lib.hid (by
              obtain ⟨h1, _, h3⟩ := HCH.out z (by rw [hz]; exact List.getElem_mem _)
              obtain ⟨h4, h5⟩ := h3 y HYL.out.1
              obtain ⟨tt, h6⟩ := HQP.out
              have h7 : q.1 = y.l ++ tt := h6
              refine ⟨h1, by rw [h7, List.length_append]; omega, ?_⟩
              rw [h7, List.take_append_of_le_length h4]; exact h5)
            have HS1 := Lib.hid s1
            have HS2 := Lib.hid s2
            have HE := Lib.hid (And.intro hbl (And.intro e0 e1))
            clear hz e0 e1 s1 s2 hbl
            have hzq : (z.l.length : Int) ≤ (q.1.length : Int) := by have := HZ.out; omega
            have hnq : decide ((q.1.length : Int) < (z.l.length : Int)) = false := decide_eq_false (by omega)
            have hnq2 : ¬ q.1.length < z.l.length := by omega
            have HG := Lib.hid (cgrowth_any (z.l.length : Int) q.1 A6 A7 q.2.length c6 c7 wr HLw.out.l (by have := HQ60.out; omega) HKw.out)
            have HGE : Hid (growthE q.1 (z.l.length : Int) = 0) := Lib.hid (growthE_ok q.1 z.l.length HZ.out.2.1)
            rw [HGE.out] at HG
            have a0 := HE.out.2.1
            have a1 := HLw.out.box.cell 0 rfl
            have a2 := HLw.out.box.cell 1 rfl
            go_wp2_with fail
            refine HG.out.mono ?_
            rintro e w8 ⟨v8, rfl, ho8, hb8⟩
            obtain ⟨A8, c8, rfl, hs8⟩ := ho8.sl
            have HB8 := Lib.hid (HBw.out.trans (hb8.mono HBw.out.size))
            have HL8 := Lib.hid (HLw.out.to hb8)
            have HK8 := Lib.hid (HKw.out.to hb8)
            have HSZ8 := Lib.hid (HS1.out.to hb8)
            have HE8 : Hid (ba < w8.heap.size ∧ w8.cell? ⟨ba, oa + j * 2, none⟩ = some (.slice B1 z.l.length d1) ∧ w8.cell? ⟨ba, oa + j * 2 + 1, none⟩ = some (.slice B2 z.n.length d2)) := Lib.hid ⟨by have := HE.out.1; have := hb8.size; omega, (hb8.cell (p := ⟨ba, oa + j * 2, none⟩) HE.out.1).trans HE.out.2.1, (hb8.cell (p := ⟨ba, oa + j * 2 + 1, none⟩) HE.out.1).trans HE.out.2.2⟩
            have HZ60 : Hid (z.l.length ≤ 1073741824 ∧ q.1.length ≤ 1073741824) := Lib.hid (by have := HQ60.out; have := HZ.out; omega)
            have h32z : (root z.l).length = 32 := root_length _ (h32_len HSZ8.out)
            have h32q : (root q.1).length = 32 := root_length _ (h32_len HL8.out.l)
            obtain ⟨np, hnp⟩ : ∃ np, np = (growthP q.1 (z.l.length : Int)).length := ⟨_, rfl⟩
            rw [← hnp]
            obtain ⟨hvz, hvq, hrq, hdq, HTZ, HTQ, HGR, HRT, HBU, HNE, HVQ⟩ : ∃ (hvz hvq hrq : Value) (hdq : Array Value),
                Hid (∀ W, Below w8.heap.size w8 W → Calls Tryd.prog 17 #[.agg #[.slice B1 z.l.length d1, .slice B2 z.n.length d2]] W fun e w' => e = .returned hvz ∧ Below W.heap.size W w') ∧
                Hid (∀ W, Below w8.heap.size w8 W → Calls Tryd.prog 17 #[.agg #[.slice A6 q.1.length c6, .slice A7 q.2.length c7]] W fun e w' => e = .returned hvq ∧ Below W.heap.size W w') ∧
                Hid (∀ W, Below w8.heap.size w8 W → Calls Tryd.prog 29 #[hvz, hvq, .slice A8 np c8] W fun e w' => e = .returned (.bool true) ∧ Below W.heap.size W w') ∧
                Hid (∀ W, Below w8.heap.size w8 W → Calls Tryd.prog 31 #[.slice A6 q.1.length c6] W fun e w' => e = .returned hrq ∧ Below W.heap.size W w') ∧
                Hid (Tryd.prog.built 40 [(0, .int .i64 (q.1.length : Int)), (1, hrq)] = some hdq) ∧ Hid (∀ W, (binOp .neq 40 (.agg hdq) (.agg hdq)).run Tryd.prog W = .ok (.bool false) W) ∧ hvq = .agg hdq :=
              ⟨headV z.l.length (root z.l), headV q.1.length (root q.1), hashV (root q.1), (headL q.1.length (root q.1)).toArray,
                Lib.hid (fun W hW => top_any B1 B2 d1 z.l.length z.l W d2 z.n.length (HSZ8.out.to hW) rfl HZ60.out.1 (HK8.out.to hW)),
                Lib.hid (fun W hW => top_any A6 A7 c6 q.1.length q.1 W c7 q.2.length (HL8.out.to hW).l rfl HZ60.out.2 (HK8.out.to hW)),
                Lib.hid (fun W hW => by
                  have h1 := grown_any (z.l.length : Int) (q.1.length : Int) (root z.l) (root q.1) h32z h32q A8 c8 np _ W (hs8.to hW) hnp.symm (by have := growthP_length q.1 (z.l.length : Int); have := HQ60.out; omega) (HK8.out.to hW)
                  have h2 := extends_growth q.1 z.l.length HZ.out.2.1 (by have := HQ60.out; omega)
                  rw [← HZ.out.2.2] at h2
                  rwa [h2] at h1),
                Lib.hid (fun W hW => root_any q.1 A6 q.1.length c6 W (HL8.out.to hW).l rfl HZ60.out.2 (HK8.out.to hW)),
                Lib.hid (head_built _ _ h32q), Lib.hid (fun W => run_head_neq _ _ h32q W), rfl⟩
            subst HVQ
            have HZ := HZ
            clear hb8 ho8 hs8 hnp h32z h32q HLw HKw HS1 HS2 HE HG HBw HOw a0 a1 a2
            go_upto_region 12 with (fail)
            refine wp_region_rely [14, 16, 18] (fun i => if i = 14 then SP.val hvz else if i = 16 then SP.val (.agg hdq) else if i = 18 then SP.val (.bool true) else SP.any) 21 (by kernel_rfl) (by kernel_rfl) ?_
            intro T _ g hg hgm
            have q0 : ∀ d, (g d).cell? ⟨ba, oa + j * 2, none⟩ = some (.slice B1 z.l.length d1) := fun d => ((hg d).cell (p := ⟨ba, oa + j * 2, none⟩) HE8.out.1).trans HE8.out.2.1
            have q1 : ∀ d, (g d).cell? ⟨ba, oa + j * 2 + 1, none⟩ = some (.slice B2 z.n.length d2) := fun d => ((hg d).cell (p := ⟨ba, oa + j * 2 + 1, none⟩) HE8.out.1).trans HE8.out.2.2
            have q2 : ∀ d, (g d).cell? ⟨Lb, 0, none⟩ = some (.slice A6 q.1.length c6) := fun d => (HL8.out.box.to (hg d)).cell 0 rfl
            have q3 : ∀ d, (g d).cell? ⟨Lb, 1, none⟩ = some (.slice A7 q.2.length c7) := fun d => (HL8.out.box.to (hg d)).cell 1 rfl
            repeat (refine wpR_pure (by rfl) fun Kq hq => ?_; go_big_quiet_step (fail); refine wpQuiet_nil (hq _ ?_); clear hq Kq)
            refine wpR_busy (by rfl) (by rfl) (fun d hG K Q hK => ?_) (fun v1 d hG hp Kr hr => ?_)
            · go_simp
              go_at_call 17
              refine (HTZ.out (g d) (hg d)).mono ?_
              rintro e W1 ⟨rfl, hb1⟩
              go_simp
              exact hK _ _ hb1 (rfl)
            obtain rfl : v1 = hvz := hp
            (try clear hp); clear hG
            simp only [Act.put, List.setIfInBounds_toArray, List.set_cons_zero, List.set_cons_succ]
            refine hr _ ?_
            clear hr Kr
            repeat (refine wpR_pure (by rfl) fun Kq hq => ?_; go_big_quiet_step (fail); refine wpQuiet_nil (hq _ ?_); clear hq Kq)
            refine wpR_busy (by rfl) (by rfl) (fun d hG K Q hK => ?_) (fun v1 d hG hp Kr hr => ?_)
            · go_simp
              go_at_call 17
              refine (HTQ.out (g d) (hg d)).mono ?_
              rintro e W1 ⟨rfl, hb1⟩
              go_simp
              exact hK _ _ hb1 (rfl)
            obtain rfl : v1 = .agg hdq := hp
            (try clear hp); clear hG
            simp only [Act.put, List.setIfInBounds_toArray, List.set_cons_zero, List.set_cons_succ]
            refine hr _ ?_
            clear hr Kr
            repeat (refine wpR_pure (by rfl) fun Kq hq => ?_; go_big_quiet_step (fail); refine wpQuiet_nil (hq _ ?_); clear hq Kq)
            refine wpR_busy (by rfl) (by rfl) (fun d hG K Q hK => ?_) (fun v1 d hG hp Kr hr => ?_)
            · go_simp
              go_at_call 29
              refine (HGR.out (g d) (hg d)).mono ?_
              rintro e W1 ⟨rfl, hb1⟩
              go_simp
              exact hK _ _ hb1 (rfl)
            obtain rfl : v1 = .bool true := hp
            (try clear hp); clear hG
            simp only [Act.put, List.setIfInBounds_toArray, List.set_cons_zero, List.set_cons_succ]
            refine hr _ ?_
            clear hr Kr
            repeat (refine wpR_pure (by rfl) fun Kq hq => ?_; go_big_quiet_step (fail); refine wpQuiet_nil (hq _ ?_); clear hq Kq)
            refine wpR_end (by kernel_rfl) (fun d hG => ?_) _
            have HB99 := Lib.hid (HB8.out.trans ((hg d).mono HB8.out.size))
            have HBd := Lib.hid (hg d)
            clear hG hg hgm
            unfold Exit.then
            skip
            have HL9 := Lib.hid (HL8.out.to HBd.out)
            have HK9 := Lib.hid (HK8.out.to HBd.out)
            have HE9 : Hid (ba < (g d).heap.size ∧ (g d).cell? ⟨ba, oa + j * 2, none⟩ = some (.slice B1 z.l.length d1)) := Lib.hid ⟨by have := HE8.out.1; have := HBd.out.size; omega, (HBd.out.cell (p := ⟨ba, oa + j * 2, none⟩) HE8.out.1).trans HE8.out.2.1⟩
            have HSH9 : Hid (∀ W, Below (g d).heap.size (g d) W → Calls Tryd.prog 24 #[.slice A6 z.l.length c6, .slice B1 z.l.length d1] W fun e w' => e = .returned (.bool true) ∧ Below W.heap.size W w') := Lib.hid (fun W hW => by
              have h1 := same_hashes A6 B1 c6 d1 z.l.length z.l.length (q.1.take z.l.length) z.l W ((HL9.out.to hW).l.take _ HZ.out.2.1) ((HSZ8.out.to HBd.out).to hW) (by rw [List.length_take]; have := HZ.out; omega) rfl
              rwa [decide_eq_true HZ.out.2.2.symm] at h1)
            have hc6 : z.l.length ≤ c6 := by have := HL9.out.l.1; have := HZ.out; omega
            have hc6b : c6 ≤ 9223372036854775807 := by have := HL9.out.l.2.1; unfold maxLen at this; omega
            have HTQ9 : Hid (∀ W, Below (g d).heap.size (g d) W → Calls Tryd.prog 17 #[.agg #[.slice A6 q.1.length c6, .slice A7 q.2.length c7]] W fun e w' => e = .returned (.agg hdq) ∧ Below W.heap.size W w') := Lib.hid (fun W hW => HTQ.out W (HBd.out.trans (hW.mono HBd.out.size)))
            have HRT9 : Hid (∀ W, Below (g d).heap.size (g d) W → Calls Tryd.prog 31 #[.slice A6 q.1.length c6] W fun e w' => e = .returned hrq ∧ Below W.heap.size W w') := Lib.hid (fun W hW => HRT.out W (HBd.out.trans (hW.mono HBd.out.size)))
            clear q0 q1 q2 q3 HL8 HK8 HE8 HSZ8 HTZ HTQ HGR HRT HBd HB8
            generalize g d = w9 at *
            clear g
            go_upto_region 14 with (fail)
            refine wp_region_rely [9, 13, 19] (fun i => if i = 9 then SP.val (.bool true) else if i = 13 then SP.val (.agg hdq) else if i = 19 then SP.val hrq else SP.any) 23 (by kernel_rfl) (by kernel_rfl) ?_
            intro T _ g hg hgm
            have q0 : ∀ d, (g d).cell? ⟨ba, oa + j * 2, none⟩ = some (.slice B1 z.l.length d1) := fun d => ((hg d).cell (p := ⟨ba, oa + j * 2, none⟩) HE9.out.1).trans HE9.out.2
            have q2 : ∀ d, (g d).cell? ⟨Lb, 0, none⟩ = some (.slice A6 q.1.length c6) := fun d => (HL9.out.box.to (hg d)).cell 0 rfl
            have q3 : ∀ d, (g d).cell? ⟨Lb, 1, none⟩ = some (.slice A7 q.2.length c7) := fun d => (HL9.out.box.to (hg d)).cell 1 rfl
            repeat (refine wpR_pure (by rfl) fun Kq hq => ?_; go_big_quiet_step (fail); refine wpQuiet_nil (hq _ ?_); clear hq Kq)
            refine wpR_busy (by rfl) (by rfl) (fun d hG K Q hK => ?_) (fun v1 d hG hp Kr hr => ?_)
            · go_simp
              go_at_call 24
              refine (HSH9.out (g d) (hg d)).mono ?_
              rintro e W1 ⟨rfl, hb1⟩
              go_simp
              exact hK _ _ hb1 (rfl)
            obtain rfl : v1 = .bool true := hp
            (try clear hp); clear hG
            simp only [Act.put, List.setIfInBounds_toArray, List.set_cons_zero, List.set_cons_succ]
            refine hr _ ?_
            clear hr Kr
            repeat (refine wpR_pure (by rfl) fun Kq hq => ?_; go_big_quiet_step (fail); refine wpQuiet_nil (hq _ ?_); clear hq Kq)
            refine wpR_busy (by rfl) (by rfl) (fun d hG K Q hK => ?_) (fun v1 d hG hp Kr hr => ?_)
            · go_simp
              go_at_call 17
              refine (HTQ9.out (g d) (hg d)).mono ?_
              rintro e W1 ⟨rfl, hb1⟩
              go_simp
              exact hK _ _ hb1 (rfl)
            obtain rfl : v1 = .agg hdq := hp
            (try clear hp); clear hG
            simp only [Act.put, List.setIfInBounds_toArray, List.set_cons_zero, List.set_cons_succ]
            refine hr _ ?_
            clear hr Kr
            repeat (refine wpR_pure (by rfl) fun Kq hq => ?_; go_big_quiet_step (fail); refine wpQuiet_nil (hq _ ?_); clear hq Kq)
            refine wpR_busy (by rfl) (by rfl) (fun d hG K Q hK => ?_) (fun v1 d hG hp Kr hr => ?_)
            · go_simp
              go_at_call 31
              refine (HRT9.out (g d) (hg d)).mono ?_
              rintro e W1 ⟨rfl, hb1⟩
              go_simp
              exact hK _ _ hb1 (rfl)
            obtain rfl : hrq = v1 := Eq.symm hp
            (try clear hp); clear hG
            simp only [Act.put, List.setIfInBounds_toArray, List.set_cons_zero, List.set_cons_succ]
            refine hr _ ?_
            clear hr Kr
            refine wpR_pure (by rfl) fun Kq hq => ?_
            refine wpQuiet_run (by rfl) (.agg hdq) ?_ (wpQuiet_nil ?_)
            · rintro _ ⟨d, rfl⟩
              exact exec_built 40 [(0, .tmp 91), (1, .tmp 94)] rfl [(0, .int .i64 (q.1.length : Int)), (1, hrq)] rfl _ HBU.out
            simp only [Act.put, List.setIfInBounds_toArray, List.set_cons_zero, List.set_cons_succ]
            refine hq _ ?_
            clear hq Kq
            refine wpR_pure (by rfl) fun Kq hq => ?_
            refine wpQuiet_run (by rfl) (.bool false) ?_ (wpQuiet_nil ?_)
            · rintro _ ⟨d, rfl⟩
              exact exec_neq 40 40 (.tmp 88) (.tmp 95) rfl hdq hdq rfl rfl guard_head false (HNE.out _)
            simp only [Act.put, List.setIfInBounds_toArray, List.set_cons_zero, List.set_cons_succ]
            refine hq _ ?_
            clear hq Kq
            repeat (refine wpR_pure (by rfl) fun Kq hq => ?_; go_big_quiet_step (fail); refine wpQuiet_nil (hq _ ?_); clear hq Kq)
            refine wpR_end (by kernel_rfl) (fun d hG => ?_) _
            have HB9 : Hid (Below w7.heap.size w7 (g d)) := Lib.hid (HB99.out.trans ((hg d).mono HB99.out.size))
            have HBd := Lib.hid (hg d)
            clear hG hg hgm
            unfold Exit.then
            clear q0 q2 q3 HL9 HK9 HE9 HSH9 HTQ9 HRT9 HBd
            generalize g d = w10 at *
            clear g
            go_wp2_with fail
            go_roundw
            case rel => exact ⟨j + 1, by omega, by go_num, HB9⟩
            case measure => (simp [intOf]; omega)
          · have hjk' : ¬ (j : Int) ≤ (k : Int) := by omega
            have a1 := HLw.out.box.cell 0 rfl
            have a2 := HLw.out.box.cell 1 rfl
            have hal : Below wr.heap.size wr (wr.alloc (.cells #[.slice A6 q.1.length c6, .slice A7 q.2.length c7] 36)) := (Below.refl _ _).alloc (Nat.le_refl _) _
            have HOw2 : Hid (Own (wr.alloc (.cells #[.slice A6 q.1.length c6, .slice A7 q.2.length c7] 36)) w.heap.size 36 (.slice (some ⟨ba, oa, none⟩) na c3) all) := Lib.hid (HOw.out.below hal)
            have HRR : Hid (Rep.R (wr.alloc (.cells #[.slice A6 q.1.length c6, .slice A7 q.2.length c7] 36)) (fun b => some b ≠ (Value.slice (some ⟨ba, oa, none⟩) na c3).ownBlock) [.slice A6 q.1.length c6, .slice A7 q.2.length c7] (⟨q.1, q.2⟩ : Led)) := Lib.hid (by
              have hx1 := ((HOA.out.below HBw.out).below hal).sl_far rfl (fun _ _ _ _ h => h) HBA.out
              have hx2 := ((HOB.out.below HBw.out).below hal).sl_far rfl (fun _ _ _ _ h => h) HBA.out
              have hne : ∀ b, b ≠ ba → some b ≠ (Value.slice (some ⟨ba, oa, none⟩) na c3).ownBlock := fun b hb he => hb (by simpa [Value.ownBlock] using he)
              have h1 := HQL.out.1
              have h2 := HQ60.out
              exact ⟨_, _, rfl, ⟨A6, c6, rfl, hx1.mono (fun b hb _ => hne b hb), show q.1.length < 9223372036854775808 by omega⟩, ⟨A7, c7, rfl, hx2.mono (fun b hb _ => hne b hb), show q.2.length < 9223372036854775808 by omega⟩⟩)
            have HHw : Hid ((wr.alloc (.cells #[.slice A6 q.1.length c6, .slice A7 q.2.length c7] 36)).heap[wr.heap.size]? = some (.cells #[.slice A6 q.1.length c6, .slice A7 q.2.length c7] 36 (0, 0))) := Lib.hid (heap_alloc_new wr _)
            have HBz := Lib.hid (HBE.out.trans (HBw.out.mono HBE.out.size))
            have HSB : Hid ((all.length + 1) * 48 ≤ 140737488355328 ∧ all.length + 1 ≤ 9223372036854775807) := Lib.hid (by have h1 := HAl.out; have h2 := HAL.out; omega)
            clear hal
            rw [← HAl.out] at HOw2 HOw HRR ⊢
            go_wp2_with (first
              | (at_builtin; refine wpList_push (α := Led) _ rfl (.tmp 98) (.tmp 100) 58 rfl w.heap.size 36 (.agg #[.slice none 0 0, .slice none 0 0]) 48 Tryd.underlying58 led_info rfl (by decide) (.slice (some ⟨ba, oa, none⟩) all.length c3) all rfl HOw2.out wr.heap.size #[.slice A6 q.1.length c6, .slice A7 q.2.length c7] ⟨q.1, q.2⟩ (0, 0) 36 rfl HHw.out HRR.out HSB.out.1 HSB.out.2 (by have := HBz.out.size; simp; omega) _ rfl ?_; intro g5 p5 w5 hown5 hg5 hat5 hlt5)
              | fail)
            go_roundw
            case rel => exact ⟨k + 1, all ++ [⟨q.1, q.2⟩], by omega, by go_num, by omega, Lib.hid (by rw [List.length_append, List.length_singleton, HAl.out, HAL.out]), Lib.hid (HCH.out.next HYL.out.1 HQL.out.1 HQ60.out.2 HQP.out), Lib.hid hown5, Lib.hid (below_push HBz.out HOw.out HBz.out.size hg5)⟩
            case measure => (simp [intOf]; omega)
      · have h5' : ¬ (k : Int) < 5 := by omega
        have hkl : (k : Int) < (ll.length : Int) := by omega
        have HLV := Lib.hid (lives_any wr (HK.out.to HB.out))
        go_wp2_with fail
        refine HLV.out.mono ?_
        rintro e w9 ⟨rfl, hb9⟩
        have HB9 : Hid (Below w.heap.size w w9) := Lib.hid (HB.out.trans (hb9.mono HB.out.size))
        clear hb9 HLV
        go_wp2_with fail
        go_ret
        exact ⟨rfl, HB9.out⟩
    · have hkl : ¬ (k : Int) < (ll.length : Int) := by omega
      have HLV := Lib.hid (lives_any wr (HK.out.to HB.out))
      go_wp2_with fail
      refine HLV.out.mono ?_
      rintro e w9 ⟨rfl, hb9⟩
      have HB9 : Hid (Below w.heap.size w w9) := Lib.hid (HB.out.trans (hb9.mono HB.out.size))
      clear hb9 HLV
      go_wp2_with fail
      go_ret
      exact ⟨rfl, HB9.out⟩
end Go.Proofs.YthcklfelofpffaaDoor
namespace Go.Proofs.YthcklfelofpffaaDoor
open Go.ChangeShapes Go.WideShapes Go.ChangeAt Go.RowKit Go.Deep
theorem exists_list {α : Type} {Q : Nat → α → Prop} (n : Nat) (h : ∀ i, i < n → ∃ a, Q i a) : ∃ l : List α, l.length = n ∧ ∀ i, (hi : i < l.length) → Q i l[i] := by
  induction n with
  | zero => exact ⟨[], rfl, fun i hi => by simp at hi⟩
  | succ n ih =>
    obtain ⟨l, hl, hq⟩ := ih fun i hi => h i (by omega)
    obtain ⟨a, ha⟩ := h n (by omega)
    refine ⟨l ++ [a], by simp [hl], fun i hi => ?_⟩
    by_cases hin : i < l.length
    · rw [List.getElem_append_left hin]; exact hq i hin
    · have : i = n := by simp at hi; omega
      subst this
      rw [List.getElem_append_right (by omega)]
      simpa using ha
theorem addr_plain {w : World} {a : Addr} {v : Value} (h : w.cell? (a.add 0) = some v) : ∃ b o, a = ⟨b, o, none⟩ := by
  obtain ⟨b, o, spot⟩ := a
  have hspot : spot = none := by simpa [Addr.add] using World.cell?_spot h
  subst hspot
  exact ⟨b, o, rfl⟩
theorem bulk_one {H : Type} (d : DataW H) : 1 ≤ Rows.uptoBulk d := by
  cases d with
  | lit l => cases l <;> simp [Rows.uptoBulk]
  | nil => simp [Rows.uptoBulk]
  | ptr d => simp [Rows.uptoBulk]
  | slice elems spare => simp [Rows.uptoBulk]
  | agg parts => simp [Rows.uptoBulk]
  | iface t d => simp [Rows.uptoBulk]
  | map entries => simp [Rows.uptoBulk]
  | held h => simp [Rows.uptoBulk]
theorem bulk_part {H : Type} {d : DataW H} {l : List (DataW H)} (h : d ∈ l) : Rows.uptoBulk d ≤ Rows.uptoBulkAll l := by
  induction l with
  | nil => cases h
  | cons x r ih =>
    simp only [Rows.uptoBulkAll]
    cases List.mem_cons.1 h with
    | inl e => subst e; omega
    | inr e => have := ih e; omega
theorem bulk_length {H : Type} (l : List (DataW H)) : l.length ≤ Rows.uptoBulkAll l := by
  induction l with
  | nil => simp [Rows.uptoBulkAll]
  | cons x r ih => have := bulk_one x; simp only [Rows.uptoBulkAll, List.length_cons]; omega
theorem bulk_slice {H : Type} (elems spare : List (DataW H)) : elems.length + spare.length + 1 ≤ Rows.uptoBulk (.slice elems spare) := by
  have h1 := bulk_length elems
  have h2 := bulk_length spare
  simp only [Rows.uptoBulk]
  omega
/-- THE BOUND. -/
theorem bulk_bound {H : Type} {l : List (DataW H)} (hk : Rows.uptoSmall H l = true) : Rows.uptoBulkAll l ≤ 1048576 := by
  have h := of_decide_eq_true hk
  exact h
variable {H : Type} {enc : TypeId × Value → H} {P : Program}
/-- A slice whose elements are of a kind that is known. -/
theorem open_sl {α : Type} [Rep α] {t e : TypeId} {W : World} {base : Nat} {v : Value} {d : DataW H} {ps : List MemPlace} (ht : P.underlying t = some (.slice e)) (hC : P.cellsOf e = Rep.size α)
    (hel : ∀ fuel cs x, DataW.trod enc P W 0 (fun _ => true) true fuel e cs = some x → ∃ a : α, Rep.R W (fun b => b < W.heap.size) cs a) (hsz : 0 < Rep.size α)
    (hval : Value.okWide P W .any base t v) (h : DataW.Trod enc P W 0 (fun _ => true) true t v d ps) :
    ∃ A c, ∃ l : List α, v = .slice A l.length c ∧ Sl W (fun b => b < W.heap.size) A c l ∧ l.length ≤ Rows.uptoBulk d := by
  obtain ⟨a, len, cap, rfl⟩ := okWide_slice ht hval
  obtain ⟨fuel, hf⟩ := h
  rcases open_slice ht hf with ⟨hcs, _⟩ | ⟨a', len', cap', m, n, D, Pl, hcs, _, hl, hm, hmm, hx, hi⟩
  · simp [Value.cells] at hcs
    obtain ⟨rfl, rfl, rfl⟩ := hcs
    exact ⟨none, 0, [], rfl, Sl.nil _ _ _ _ (by simp [maxLen]), by simp⟩
  · simp [Value.cells] at hcs
    obtain ⟨rfl, rfl, rfl⟩ := hcs
    simp only [if_true] at hmm
    subst hmm
    rw [hC] at hi
    have hQ : ∀ i, i < len → ∃ x : α, ∃ es, Rep.R W (fun b => b < W.heap.size) es x ∧ ∀ j u, es[j]? = some u → W.cell? (a'.add (i * Rep.size α + j)) = some u := by
      intro i hil
      obtain ⟨cs', hc, ht'⟩ := hi i (by omega)
      obtain ⟨x, hr⟩ := hel _ _ _ ht'
      obtain ⟨_, hlen, hat⟩ := World.cells?_some hc
      refine ⟨x, cs', hr, fun j u hu => ?_⟩
      have hj : j < Rep.size α := by rw [← hlen]; exact (List.getElem?_eq_some_iff.1 hu).1
      rw [← Go.Deep.add_add]
      exact (hat j hj).trans hu
    obtain ⟨l, hll, hq⟩ := exists_list len hQ
    refine ⟨some a', m, l, by rw [hll], ⟨by omega, hm, fun h0 => ?_⟩, ?_⟩
    · obtain ⟨es, hr, hc⟩ := hq 0 h0
      have hel0 := Rep.len hr
      obtain ⟨b, o, rfl⟩ := addr_plain (by simpa using hc 0 _ (List.getElem?_eq_getElem (by omega)))
      have hlt := World.block_lt_of_cell? W _ (hc 0 _ (List.getElem?_eq_getElem (by omega)))
      rw [addr_add] at hlt
      refine ⟨b, o, rfl, hlt, hlt, fun i hil => ?_⟩
      obtain ⟨es, hr, hc⟩ := hq i hil
      refine ⟨es, hr, fun j u hu => ?_⟩
      have := hc j u hu
      rwa [addr_add, ← Nat.add_assoc] at this
    · simp only [Prod.mk.injEq] at hx
      rw [hx.1, hll]
      have := bulk_slice ((List.range len).map D) ((List.range (m - len)).map fun j => D (len + j))
      simp only [List.length_map, List.length_range] at this
      omega
end Go.Proofs.YthcklfelofpffaaDoor
namespace Go.Proofs.YthcklfelofpffaaDoor
open Go.ChangeShapes Go.WideShapes Go.ChangeAt Go.RowKit Go.Deep
variable {H : Type} {enc : TypeId × Value → H} {P : Program}
theorem open_ints_sl {t e : TypeId} {W : World} {base : Nat} {v : Value} {d : DataW H} {ps : List MemPlace} (ht : P.underlying t = some (.slice e)) (he : P.underlying e = some (.int .i64)) (hc : P.cellsOf e = 1)
    (hval : Value.okWide P W .any base t v) (h : DataW.Trod enc P W 0 (fun _ => true) true t v d ps) : ∃ A c, ∃ l : List Int, v = .slice A l.length c ∧ Sl W (fun b => b < W.heap.size) A c l := by
  obtain ⟨a, len, cap, rfl⟩ := okWide_slice ht hval
  obtain ⟨fuel, hf⟩ := h
  rcases open_ints ht he hc hf with ⟨hcs, _⟩ | ⟨a', len', cap', zs, hcs, _, hl, hm, hz, _, hcell, hwf⟩
  · simp [Value.cells] at hcs
    obtain ⟨rfl, rfl, rfl⟩ := hcs
    exact ⟨none, 0, [], rfl, Sl.nil _ _ _ _ (by simp [maxLen])⟩
  · simp [Value.cells] at hcs
    obtain ⟨rfl, rfl, rfl⟩ := hcs
    have hz' : zs.length = cap := by simpa using hz
    have hlt : (zs.take len).length = len := by rw [List.length_take]; omega
    refine ⟨some a', cap, zs.take len, by rw [hlt], by rw [hlt]; exact hl, hm, fun h0 => ?_⟩
    obtain ⟨b, o, rfl, hat⟩ := Go.ints_at hcell (by omega)
    refine ⟨b, o, rfl, World.block_lt_of_cell? W _ (hat 0 (by omega)), World.block_lt_of_cell? W _ (hat 0 (by omega)), fun i hi => ?_⟩
    rw [hlt] at hi
    have e : zs.getD i 0 = (zs.take len)[i]'(by omega) := by
      rw [List.getElem_take, List.getD_eq_getElem?_getD, List.getElem?_eq_getElem (by omega)]; rfl
    refine ⟨[.int .i64 (zs.getD i 0)], ⟨by rw [e], ?_⟩, fun j u hu => ?_⟩
    · exact i64_wf (hwf _ (List.mem_of_mem_take (List.getElem_mem (by omega))))
    · have hj : j = 0 := by
        rcases j with _ | j
        · rfl
        · simp at hu
      subst hj
      simp only [List.getElem?_cons_zero, Option.some.injEq] at hu
      subst hu
      have := hat i (by omega)
      show W.cell? ⟨b, o + i * 1 + 0, none⟩ = _
      rw [Nat.mul_one, Nat.add_zero]; exact this
theorem rep_ints {t e : TypeId} {W : World} (ht : P.underlying t = some (.slice e)) (he : P.underlying e = some (.int .i64)) (hc : P.cellsOf e = 1) (fuel : Nat) (cs : List Value) (x : DataW H × List MemPlace) (hf : DataW.trod enc P W 0 (fun _ => true) true fuel t cs = some x) : ∃ l : List Int, Rep.R W (fun b => b < W.heap.size) cs l := by
  rcases open_ints ht he hc hf with ⟨hcs, _⟩ | ⟨a', len, cap, zs, hcs, _, hl, hm, hz, _, hcell, hwf⟩
  · exact ⟨[], none, 0, hcs, Sl.nil _ _ _ _ (by simp [maxLen]), by simp⟩
  · have hz' : zs.length = cap := by simpa using hz
    have hlt : (zs.take len).length = len := by rw [List.length_take]; omega
    have hm' := hm
    unfold maxLen at hm'
    refine ⟨zs.take len, some a', cap, by rw [hlt]; exact hcs, ⟨by rw [hlt]; exact hl, hm, fun h0 => ?_⟩, by rw [hlt]; omega⟩
    obtain ⟨b, o, rfl, hat⟩ := Go.ints_at hcell (by omega)
    refine ⟨b, o, rfl, World.block_lt_of_cell? W _ (hat 0 (by omega)), World.block_lt_of_cell? W _ (hat 0 (by omega)), fun i hi => ?_⟩
    rw [hlt] at hi
    have e : zs.getD i 0 = (zs.take len)[i]'(by omega) := by
      rw [List.getElem_take, List.getD_eq_getElem?_getD, List.getElem?_eq_getElem (by omega)]; rfl
    refine ⟨[.int .i64 (zs.getD i 0)], ⟨by rw [e], i64_wf (hwf _ (List.mem_of_mem_take (List.getElem_mem (by omega))))⟩, fun j u hu => ?_⟩
    have hj : j = 0 := by
      rcases j with _ | j
      · rfl
      · simp at hu
    subst hj
    simp only [List.getElem?_cons_zero, Option.some.injEq] at hu
    subst hu
    have := hat i (by omega)
    show W.cell? ⟨b, o + i * 1 + 0, none⟩ = _
    rw [Nat.mul_one, Nat.add_zero]; exact this
theorem open_intss {t e ei : TypeId} {W : World} {base : Nat} {v : Value} {d : DataW H} {ps : List MemPlace} (ht : P.underlying t = some (.slice e)) (he : P.underlying e = some (.slice ei)) (hei : P.underlying ei = some (.int .i64)) (hce : P.cellsOf e = 1) (hc : P.cellsOf ei = 1)
    (hval : Value.okWide P W .any base t v) (h : DataW.Trod enc P W 0 (fun _ => true) true t v d ps) : ∃ A c, ∃ l : List (List Int), v = .slice A l.length c ∧ Sl W (fun b => b < W.heap.size) A c l := by
  obtain ⟨A, c, l, h1, h2, _⟩ := open_sl (α := List Int) ht hce (fun fuel cs x hx => rep_ints he hei hc fuel cs x hx) (by decide) hval h
  exact ⟨A, c, l, h1, h2⟩
end Go.Proofs.YthcklfelofpffaaDoor
namespace Go.Proofs.YthcklfelofpffaaDoor.rowCertifyGrows
open Go.ChangeShapes Go.WideShapes Go.ChangeAt Go.RowKit
set_option maxRecDepth 100000 in
theorem contract (H : Type) (enc : TypeId × Value → H) (W : World) (base : Nat) (args : Array Value) (ds gs : List (DataW H)) (before : List MemPlace)
    (hval : ∀ (j : Nat) t v, Tryd.f8.params[j]? = some t → args[j]? = some v → Value.okWide Tryd.prog W .any base t v)
    (hW : DataW.Whole enc Tryd.prog Tryd.f8.params.toList Rows.certifyGrowsSpec.vars false W args.toList ds gs before) (hL : laidMetH Tryd.prog laidL W) :
    Calls Tryd.prog 8 args W fun e W' => ∃ v, e = .returned v ∧ Rows.certifyGrowsSpec.post enc Tryd.prog Tryd.f8 false true false false W args v W' := by
  have hW' := hW
  obtain ⟨p, q, hA0, hV, rfl, hfz, hnd⟩ := hW
  have hA : DataW.TrodAll enc Tryd.prog W 0 (fun _ => true) true Tryd.f8.params.toList args.toList ds p := hA0
  rw [Tryd.params8] at hA hval
  obtain ⟨v0, vs0, d0, ds0, p0, q0, hargs, rfl, rfl, h0, r0⟩ := trodAll_cons hA
  obtain ⟨v1, vs1, d1, ds1, p1, q1, rfl, rfl, rfl, h1, r1⟩ := trodAll_cons r0
  obtain ⟨rfl, rfl, rfl⟩ := trodAll_nil r1
  obtain rfl : args = #[v0, v1] := by cases args; simp_all
  obtain ⟨rfl, rfl⟩ := trodVars_none hV
  obtain ⟨n0, rfl, rfl, rfl, wn0⟩ := open_int Tryd.underlying3 (hval 0 3 v0 rfl rfl) h0
  obtain ⟨A1, c1, l1, rfl, hl1⟩ := open_intss Tryd.underlying33 Tryd.underlying25 Tryd.underlying3 cells_ints cells_int (hval 1 33 v1 rfl rfl) h1
  refine (growsLaw_any n0 A1 c1 l1 W (i64_wf wn0) hl1 (tabs_of hL)).mono fun e W' ⟨he, hb⟩ => ?_
  subst he
  exact ⟨_, rfl, row_close laidOut Tryd.underlying4 (by kernel_rfl) (by kernel_rfl) rfl hW' rfl hb⟩

theorem laid_met (os : Os) : laidMet Tryd.prog Rows.certifyGrowsRow.laid ((laidWorld os).forCall (fun _ _ => 0) ⟨#[], #[.int .i64 0, .slice none 0 0], []⟩).memory :=
  laidMet_of_run' 8 (by kernel_rfl) (by kernel_rfl)
theorem reads (os : Os) {H : Type} (enc : TypeId × Value → H) : ∃ places, DataW.whole enc Tryd.prog ((laidWorld os).forCall (fun _ _ => 0) ⟨#[], #[.int .i64 0, .slice none 0 0], []⟩).memory Tryd.f8.params.toList Rows.certifyGrowsSpec.vars false (#[.int .i64 0, .slice none 0 0] : Array Value).toList 8 = some ([.lit (.int .i64 0), .nil], [], places) :=
  ⟨[], by kernel_rfl⟩
set_option maxRecDepth 100000 in
theorem lifted (os : Os) (started : os.Started) (H : Type) (enc : TypeId × Value → H) (F : Stop.Interp) :
    ReturnsInHanded {} Tryd.checked os 8 .any ((OpenSpec.ofChange Rows.certifyGrowsSpec).preRow enc Tryd.prog Tryd.f8 Rows.certifyGrowsRow.domain false Rows.certifyGrowsRow.laid) (((OpenSpec.ofChange Rows.certifyGrowsSpec).at F).post enc Tryd.prog Tryd.f8 false true false false) := by
  obtain ⟨places, hx⟩ := reads os enc
  refine returnsInHanded_of_row (C := Tryd.checked) (s := (OpenSpec.ofChange Rows.certifyGrowsSpec)) own started (by kernel_rfl) Tryd.func8
    (witness_row_at (enc := enc) (C := Tryd.checked) false (laidWorld os) #[.int .i64 0, .slice none 0 0] rfl (by kernel_rfl) (by kernel_rfl) (by kernel_rfl)
      (OpenSpec.preRow_of_cond 8 hx (by kernel_rfl) (fun k hk => by cases hk) (by kernel_rfl) (laid_met os))) ?_
  intro W base args ds gs before hval hW _ _ _ hL _ _
  exact contract H enc W base args ds gs before hval hW hL
theorem said : Rows.CertifyGrowsSaid :=
  OpenClaim.holds_of_cond 8 Tryd.f8 rfl rfl rfl rfl rfl rfl rfl ⟨rfl, rfl, rfl, rfl, rfl⟩ rfl rfl rfl rfl rfl (by kernel_rfl) Tryd.func8 (by kernel_rfl)
    (of_decide_eq_true (by kernel_rfl)) (by unfold Func.isWrapper; first | (rw [if_pos (by decide +kernel)]; kernel_rfl) | (rw [if_neg (by decide +kernel)]; exact ⟨rfl, rfl⟩))
    (fun os started H enc _ F => by rw [OpenClaim.pre_eq_preRow]; exact lifted os started H enc F)
theorem wants : Tryd.f8.params.all (fun t => !Tryd.prog.wantsStandIn t) = true := by kernel_rfl
theorem plain (f : FuncId) (fn : Func) (hf : Tryd.pinned.checked.prog.funcNamed "rollbook/rollbooklaw34.CertifyGrows" = some f) (hfn : Tryd.pinned.checked.prog.funcs[f]? = some fn) :
    false = Tryd.pinned.checked.prog.looks [] ∧ ∀ (j : Nat) t, fn.params[j]? = some t → Tryd.pinned.checked.prog.wantsStandIn t = false := by
  obtain rfl : f = 8 := Option.some.inj ((show Tryd.prog.funcNamed "rollbook/rollbooklaw34.CertifyGrows" = some 8 by kernel_rfl).symm.trans hf) |>.symm
  obtain rfl : fn = Tryd.f8 := (Option.some.inj (Tryd.func8.symm.trans hfn)).symm
  refine ⟨by kernel_rfl, fun j t ht => ?_⟩
  have := Array.all_eq_true_iff_forall_mem.1 wants t (Array.mem_of_getElem? ht)
  exact (by simpa using this : Tryd.prog.wantsStandIn t = false)
theorem card : Rows.CertifyGrowsCardSaid :=
  Claim7.holds_tied_plain_at .later [] _ _ _ _ said (fun _ h => by cases h) (by kernel_rfl) (fun _ h => by cases h) certifyGrows_row_tie rfl ⟨rfl, rfl⟩ (by kernel_rfl) rfl plain (by kernel_rfl)
#print axioms card
end Go.Proofs.YthcklfelofpffaaDoor.rowCertifyGrows
