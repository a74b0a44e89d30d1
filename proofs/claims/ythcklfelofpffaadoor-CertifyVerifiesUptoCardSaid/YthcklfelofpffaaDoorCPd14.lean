/- CertifyVerifies, walked. No condition but what the table holds, and the sizes of the sheet and the path.
A slice as an argument, read as plain data, whatever its elements are; its length against the bulk of what is read. No condition.
Numbers, lists of numbers and lists of these as arguments, read as plain data. No condition.
Sheets as arguments, read as plain data; their sizes against the bulk of what is read. No condition.
Hashes, lists of hashes and heads as arguments, read as plain data. No condition.
CertifyVerifies: the card holds, for every argument, within the bulk that the second form names. -/
import Derived.Test.YthcklfelofpffaaDoorCPd13
import Derived.Deep.CutBlock
import Derived.Deep.Slices
import Derived.Deep.Fields
import Derived.ChangeSame
import Derived.ChangeMaps5
import Derived.OpenShut
namespace Go.Proofs.YthcklfelofpffaaDoor
open Go.RowKit
/-- The arguments, where they lie. -/
structure VB (W : World) (Hb Ob Sb : Nat) (cH cO : Array Value) (s : Sheet) (SA SB C : Option Addr) (sc sd cp : Nat) (p : List H32) : Prop where
  hd : W.heap[Hb]? = some (.cells cH 40 (0, 0))
  od : W.heap[Ob]? = some (.cells cO 40 (0, 0))
  sh : ABox W Sb 24 [.string s.label, .slice SA s.body.length sc, .slice SB s.notes.length sd]
  a : Sl W (fun b => b < W.heap.size) SA sc s.body
  b : Sl W (fun b => b < W.heap.size) SB sd s.notes
  p : Sl W (fun b => b < W.heap.size) C cp p
  k : KLaid W
theorem VB.to {W W' : World} {Hb Ob Sb : Nat} {cH cO : Array Value} {s : Sheet} {SA SB C : Option Addr} {sc sd cp : Nat} {p : List H32} (h : VB W Hb Ob Sb cH cO s SA SB C sc sd cp p) (hb : Below W.heap.size W W') : VB W' Hb Ob Sb cH cO s SA SB C sc sd cp p :=
  ⟨cell_to h.hd hb, cell_to h.od hb, h.sh.to hb, h.a.to hb, h.b.to hb, h.p.to hb, h.k.to hb⟩
set_option maxRecDepth 100000 in
set_option maxHeartbeats 16000000 in
theorem verifiesLaw_any (A : Option Addr) (c : Nat) (ll : List (List Int)) (hn : Int) (hr : List UInt8) (on : Int) (or_ : List UInt8) (s : Sheet) (SA SB : Option Addr) (sc sd : Nat) (i : Int) (C : Option Addr) (cp : Nat) (p : List H32) (what : Int) (w : World)
    (hll : Sl w (fun b => b < w.heap.size) A c ll) (hh : hr.length = 32) (hhi : I64 hn) (ho : or_.length = 32) (hoi : I64 on) (ha : Sl w (fun b => b < w.heap.size) SA sc s.body) (hb : Sl w (fun b => b < w.heap.size) SB sd s.notes) (hz : ∀ branch, (sheetB branch s).length ≤ 1073740000)
    (hi : I64 i) (hp : Sl w (fun b => b < w.heap.size) C cp p) (hpk : p.length ≤ 1048576) (hwh : I64 what) (hK : KLaid w) :
    Calls Tryd.prog 7 #[.slice A ll.length c, headV hn hr, headV on or_, .agg #[.string s.label, .slice SA s.body.length sc, .slice SB s.notes.length sd], .int .i64 i, .slice C p.length cp, .int .i64 what] w fun e w' => e = .returned (.bool true) ∧ Below w.heap.size w w' := by
  obtain ⟨cH, hcH⟩ : ∃ c, (headL hn hr).toArray = c := ⟨_, rfl⟩
  obtain ⟨cO, hcO⟩ : ∃ c, (headL on or_).toArray = c := ⟨_, rfl⟩
  have HSH : Hid (cH.size = 33) := Lib.hid (by rw [← hcH]; simp [headL, hh])
  have HSO : Hid (cO.size = 33) := Lib.hid (by rw [← hcO]; simp [headL, ho])
  have HI := Lib.hid hi
  have HWH := Lib.hid hwh
  have HPK := Lib.hid hpk
  have HHL := Lib.hid hh
  have HOL := Lib.hid ho
  have HZB := Lib.hid hz
  have HCH := Lib.hid hcH
  have HCO := Lib.hid hcO
  obtain ⟨q1, hq1⟩ : ∃ q, checkP hn hr 0 s i p = q := ⟨_, rfl⟩
  obtain ⟨q2, hq2⟩ : ∃ q, extendsP or_ on hr hn p = q := ⟨_, rfl⟩
  have HB0 : Hid (Below w.heap.size w (((w.alloc (.cells cH 40)).alloc (.cells cO 40)).alloc (.cells #[.string s.label, .slice SA s.body.length sc, .slice SB s.notes.length sd] 24))) := Lib.hid ((((Below.refl _ _).alloc (Nat.le_refl _) _).alloc (by simp) _).alloc (by first | (simp; done) | (simp; omega)) _)
  have HVB : Hid (VB (((w.alloc (.cells cH 40)).alloc (.cells cO 40)).alloc (.cells #[.string s.label, .slice SA s.body.length sc, .slice SB s.notes.length sd] 24)) w.heap.size (w.heap.size + 1) (w.heap.size + 2) cH cO s SA SB C sc sd cp p) := Lib.hid ⟨(Below.heap_alloc _ _ _ (by first | (simp; done) | (simp; omega))).trans ((Below.heap_alloc _ _ _ (by simp)).trans (heap_alloc_new w _)), (Below.heap_alloc _ _ _ (by first | (simp; done) | (simp; omega))).trans (heap_at (by simp)), heap_at (by simp), ha.to HB0.out, hb.to HB0.out, hp.to HB0.out, hK.to HB0.out⟩
  have HLL := Lib.hid (hll.to HB0.out)
  have HC1 : Hid (∀ (W : World) (a : Sl W (fun b => b < W.heap.size) SA sc s.body) (b : Sl W (fun b => b < W.heap.size) SB sd s.notes) (p' : Sl W (fun b => b < W.heap.size) C cp p) (k : KLaid W), Calls Tryd.prog 22 #[.agg cH, .int .i64 0, .agg #[.string s.label, .slice SA s.body.length sc, .slice SB s.notes.length sd], .int .i64 i, .slice C p.length cp] W fun e w' => e = .returned (.bool q1) ∧ Below W.heap.size W w') := Lib.hid (fun W a b p' k => by
    have := check_any hn 0 i hr s SA SB C sc sd cp p.length p W hh (by unfold I64; omega) a b (hz 0) p' rfl k
    rw [hq1] at this; rw [← hcH]; exact this)
  have HC2 : Hid (∀ (W : World) (a : Sl W (fun b => b < W.heap.size) SA sc s.body) (b : Sl W (fun b => b < W.heap.size) SB sd s.notes) (p' : Sl W (fun b => b < W.heap.size) C cp p), Calls Tryd.prog 28 #[.agg cH, .int .i64 0, .agg #[.string s.label, .slice SA s.body.length sc, .slice SB s.notes.length sd], .int .i64 i, .slice C p.length cp] W fun e w' => e = .returned (.bool q1) ∧ Below W.heap.size W w') := Lib.hid (fun W a b p' => by
    have := rcheck_any hn 0 i hr s SA SB C sc sd cp p.length p W hh (by unfold I64; omega) a b (hz 0) p' rfl (by omega)
    rw [hq1] at this; rw [← hcH]; exact this)
  have HG1 : Hid (∀ (W : World) (p' : Sl W (fun b => b < W.heap.size) C cp p) (k : KLaid W), Calls Tryd.prog 29 #[.agg cO, .agg cH, .slice C p.length cp] W fun e w' => e = .returned (.bool q2) ∧ Below W.heap.size W w') := Lib.hid (fun W p' k => by
    have := grown_any on hn or_ hr ho hh C cp p.length p W p' rfl (by omega) k
    rw [hq2] at this; rw [← hcH, ← hcO]; exact this)
  have HG2 : Hid (∀ (W : World) (p' : Sl W (fun b => b < W.heap.size) C cp p), Calls Tryd.prog 30 #[.agg cO, .agg cH, .slice C p.length cp] W fun e w' => e = .returned (.bool q2) ∧ Below W.heap.size W w') := Lib.hid (fun W p' => by
    have := rgrown_any on hn or_ hr ho hh C cp p.length p W p' rfl (by omega)
    rw [hq2] at this; rw [← hcH, ← hcO]; exact this)
  show Calls Tryd.prog 7 #[.slice A ll.length c, .agg (headL hn hr).toArray, .agg (headL on or_).toArray, .agg #[.string s.label, .slice SA s.body.length sc, .slice SB s.notes.length sd], .int .i64 i, .slice C p.length cp, .int .i64 what] w fun e w' => e = .returned (.bool true) ∧ Below w.heap.size w w'
  rw [hcH, hcO]
  clear hll hh hhi ho hoi ha hb hz hi hp hpk hwh hK hq1 hq2 hcH hcO
  go_enter Tryd.func7, Tryd.ntmps7
  go_upto_region 1 with (fail)
  generalize hw1 : World.alloc (World.alloc (World.alloc w _) _) _ = w2
  have hw2 : (((w.alloc (.cells cH 40)).alloc (.cells cO 40)).alloc (.cells #[.string s.label, .slice SA s.body.length sc, .slice SB s.notes.length sd] 24)) = w2 := hw1
  rw [hw2] at HB0 HVB HLL
  clear hw1 hw2
  have e11 : w.heap.size + 1 + 1 = w.heap.size + 2 := by omega
  rw [e11]
  clear e11
  generalize w.heap.size + 2 = Sb at *
  generalize w.heap.size + 1 = Ob at *
  obtain ⟨Hb, hHb⟩ : ∃ R, w.heap.size = R := ⟨_, rfl⟩
  rw [hHb] at HVB ⊢
  clear hHb
  refine wp_region_rely [4, 9, 15, 19] (fun i => if i = 4 then SP.val (.bool q1) else if i = 9 then SP.val (.bool q1) else if i = 15 then SP.val (.bool q2) else if i = 19 then SP.val (.bool q2) else SP.any) 22 (by kernel_rfl) (by kernel_rfl) ?_
  intro T _ g hg hgm
  have q0 : ∀ d, (g d).cell? ⟨Sb, 0, none⟩ = some (.string s.label) := fun d => (HVB.out.to (hg d)).sh.cell 0 rfl
  have q3 : ∀ d, (g d).cell? ⟨Sb, 1, none⟩ = some (.slice SA s.body.length sc) := fun d => (HVB.out.to (hg d)).sh.cell 1 rfl
  have q4 : ∀ d, (g d).cell? ⟨Sb, 2, none⟩ = some (.slice SB s.notes.length sd) := fun d => (HVB.out.to (hg d)).sh.cell 2 rfl
  refine wpR_pure (by rfl) fun Kq hq => ?_
  refine wpQuiet_run (by rfl) (.agg cH) ?_ (wpQuiet_nil ?_)
  · rintro _ ⟨d, rfl⟩
    exact exec_load_row 40 (.tmp 8) rfl Hb rfl 40 cH (0, 0) _ ((HVB.out.to (hg d)).hd) Tryd.underlying40 rfl (by rw [HSH.out]; kernel_rfl)
  simp only [Act.put, List.setIfInBounds_toArray, List.set_cons_zero, List.set_cons_succ]
  refine hq _ ?_
  clear hq Kq
  repeat (refine wpR_pure (by rfl) fun Kq hq => ?_; go_big_quiet_step (fail); refine wpQuiet_nil (hq _ ?_); clear hq Kq)
  refine wpR_busy (by rfl) (by rfl) (fun d hG K Q hK => ?_) (fun v4 d hG hp Kr hr => ?_)
  · go_simp
    go_at_call 22
    refine (HC1.out (g d) (HVB.out.to (hg d)).a (HVB.out.to (hg d)).b (HVB.out.to (hg d)).p (HVB.out.to (hg d)).k).mono ?_
    rintro e W1 ⟨rfl, hb1⟩
    go_simp
    exact hK _ _ hb1 (rfl)
  obtain rfl : v4 = Value.bool q1 := hp
  (try clear hp); clear hG
  simp only [Act.put, List.setIfInBounds_toArray, List.set_cons_zero, List.set_cons_succ]
  refine hr _ ?_
  clear hr Kr
  refine wpR_pure (by rfl) fun Kq hq => ?_
  refine wpQuiet_run (by rfl) (.agg cH) ?_ (wpQuiet_nil ?_)
  · rintro _ ⟨d, rfl⟩
    exact exec_load_row 40 (.tmp 8) rfl Hb rfl 40 cH (0, 0) _ ((HVB.out.to (hg d)).hd) Tryd.underlying40 rfl (by rw [HSH.out]; kernel_rfl)
  simp only [Act.put, List.setIfInBounds_toArray, List.set_cons_zero, List.set_cons_succ]
  refine hq _ ?_
  clear hq Kq
  repeat (refine wpR_pure (by rfl) fun Kq hq => ?_; go_big_quiet_step (fail); refine wpQuiet_nil (hq _ ?_); clear hq Kq)
  refine wpR_busy (by rfl) (by rfl) (fun d hG K Q hK => ?_) (fun v9 d hG hp Kr hr => ?_)
  · go_simp
    go_at_call 28
    refine (HC2.out (g d) (HVB.out.to (hg d)).a (HVB.out.to (hg d)).b (HVB.out.to (hg d)).p).mono ?_
    rintro e W1 ⟨rfl, hb1⟩
    go_simp
    exact hK _ _ hb1 (rfl)
  obtain rfl : v9 = Value.bool q1 := hp
  (try clear hp); clear hG
  simp only [Act.put, List.setIfInBounds_toArray, List.set_cons_zero, List.set_cons_succ]
  refine hr _ ?_
  clear hr Kr
  repeat (refine wpR_pure (by rfl) fun Kq hq => ?_; go_big_quiet_step (fail); refine wpQuiet_nil (hq _ ?_); clear hq Kq)
  refine wpR_pure (by rfl) fun Kq hq => ?_
  refine wpQuiet_run (by rfl) (.agg cO) ?_ (wpQuiet_nil ?_)
  · rintro _ ⟨d, rfl⟩
    exact exec_load_row 40 (.tmp 9) rfl Ob rfl 40 cO (0, 0) _ ((HVB.out.to (hg d)).od) Tryd.underlying40 rfl (by rw [HSO.out]; kernel_rfl)
  simp only [Act.put, List.setIfInBounds_toArray, List.set_cons_zero, List.set_cons_succ]
  refine hq _ ?_
  clear hq Kq
  refine wpR_pure (by rfl) fun Kq hq => ?_
  refine wpQuiet_run (by rfl) (.agg cH) ?_ (wpQuiet_nil ?_)
  · rintro _ ⟨d, rfl⟩
    exact exec_load_row 40 (.tmp 8) rfl Hb rfl 40 cH (0, 0) _ ((HVB.out.to (hg d)).hd) Tryd.underlying40 rfl (by rw [HSH.out]; kernel_rfl)
  simp only [Act.put, List.setIfInBounds_toArray, List.set_cons_zero, List.set_cons_succ]
  refine hq _ ?_
  clear hq Kq
  repeat (refine wpR_pure (by rfl) fun Kq hq => ?_; go_big_quiet_step (fail); refine wpQuiet_nil (hq _ ?_); clear hq Kq)
  refine wpR_busy (by rfl) (by rfl) (fun d hG K Q hK => ?_) (fun v15 d hG hp Kr hr => ?_)
  · go_simp
    go_at_call 29
    refine (HG1.out (g d) (HVB.out.to (hg d)).p (HVB.out.to (hg d)).k).mono ?_
    rintro e W1 ⟨rfl, hb1⟩
    go_simp
    exact hK _ _ hb1 (rfl)
  obtain rfl : v15 = Value.bool q2 := hp
  (try clear hp); clear hG
  simp only [Act.put, List.setIfInBounds_toArray, List.set_cons_zero, List.set_cons_succ]
  refine hr _ ?_
  clear hr Kr
  refine wpR_pure (by rfl) fun Kq hq => ?_
  refine wpQuiet_run (by rfl) (.agg cO) ?_ (wpQuiet_nil ?_)
  · rintro _ ⟨d, rfl⟩
    exact exec_load_row 40 (.tmp 9) rfl Ob rfl 40 cO (0, 0) _ ((HVB.out.to (hg d)).od) Tryd.underlying40 rfl (by rw [HSO.out]; kernel_rfl)
  simp only [Act.put, List.setIfInBounds_toArray, List.set_cons_zero, List.set_cons_succ]
  refine hq _ ?_
  clear hq Kq
  refine wpR_pure (by rfl) fun Kq hq => ?_
  refine wpQuiet_run (by rfl) (.agg cH) ?_ (wpQuiet_nil ?_)
  · rintro _ ⟨d, rfl⟩
    exact exec_load_row 40 (.tmp 8) rfl Hb rfl 40 cH (0, 0) _ ((HVB.out.to (hg d)).hd) Tryd.underlying40 rfl (by rw [HSH.out]; kernel_rfl)
  simp only [Act.put, List.setIfInBounds_toArray, List.set_cons_zero, List.set_cons_succ]
  refine hq _ ?_
  clear hq Kq
  repeat (refine wpR_pure (by rfl) fun Kq hq => ?_; go_big_quiet_step (fail); refine wpQuiet_nil (hq _ ?_); clear hq Kq)
  refine wpR_busy (by rfl) (by rfl) (fun d hG K Q hK => ?_) (fun v19 d hG hp Kr hr => ?_)
  · go_simp
    go_at_call 30
    refine (HG2.out (g d) (HVB.out.to (hg d)).p).mono ?_
    rintro e W1 ⟨rfl, hb1⟩
    go_simp
    exact hK _ _ hb1 (rfl)
  obtain rfl : v19 = Value.bool q2 := hp
  (try clear hp); clear hG
  simp only [Act.put, List.setIfInBounds_toArray, List.set_cons_zero, List.set_cons_succ]
  refine hr _ ?_
  clear hr Kr
  repeat (refine wpR_pure (by rfl) fun Kq hq => ?_; go_big_quiet_step (fail); refine wpQuiet_nil (hq _ ?_); clear hq Kq)
  refine wpR_end (by kernel_rfl) (fun d hG => ?_) _
  have HVB2 := Lib.hid (HVB.out.to (hg d))
  have HLL2 := Lib.hid (HLL.out.to (hg d))
  have HB2 := Lib.hid (HB0.out.trans ((hg d).mono HB0.out.size))
  clear hG hg hgm q0 q3 q4 HVB HLL HB0 HC1 HC2 HG1 HG2
  generalize g d = w3 at *
  clear g
  unfold Exit.then
  have HLG := Lib.hid (ledger_any 0 A c ll w3 (by unfold I64; omega) HLL2.out HVB2.out.k)
  go_wp2_with fail
  refine HLG.out.mono ?_
  rintro e w4 ⟨v3, v4, rfl, L, N, A1, A2, c1, c2, rfl, rfl, hs3, hs4, hln0, hlm0, hb3⟩
  have hb5 : Below w4.heap.size w4 (w4.alloc (.cells #[.slice A1 L.length c1, .slice A2 N.length c2] 36)) := (Below.refl _ _).alloc (Nat.le_refl _) _
  have HLD5 : Hid (LB (w4.alloc (.cells #[.slice A1 L.length c1, .slice A2 N.length c2] 36)) w4.heap.size L N A1 c1 A2 c2) := Lib.hid ⟨heap_alloc_new w4 _, hs3.to hb5, hs4.to hb5⟩
  have HVB5 := Lib.hid ((HVB2.out.to hb3).to hb5)
  have HLL5 := Lib.hid ((HLL2.out.to hb3).to hb5)
  have HB5 := Lib.hid ((HB2.out.trans (hb3.mono HB2.out.size)).trans (hb5.mono (HB2.out.trans (hb3.mono HB2.out.size)).size))
  have HLN := Lib.hid hln0
  have HLM := Lib.hid hlm0
  clear hb5 hs3 hs4 hln0 hlm0 hb3 HLG HVB2 HLL2 HB2
  go_upto_region 4 with (fail)
  generalize hw : World.alloc w4 _ = w5
  have hv : w4.alloc (.cells #[.slice A1 L.length c1, .slice A2 N.length c2] 36) = w5 := hw
  rw [hv] at HLD5 HVB5 HLL5 HB5
  clear hw hv
  generalize w4.heap.size = Lb at *
  have HTP := Lib.hid (top_any A1 A2 c1 L.length L w5 c2 N.length HLD5.out.l rfl (by have := HLM.out; omega) HVB5.out.k)
  have HRL : Hid ((root L).length = 32) := Lib.hid (root_length _ (h32_len HLD5.out.l))
  have k0 := HLD5.out.box.cell 0 rfl
  have k1 := HLD5.out.box.cell 1 rfl
  go_wp2_with fail
  refine HTP.out.mono ?_
  rintro e w6 ⟨rfl, hb6⟩
  have HVB6 := Lib.hid (HVB5.out.to hb6)
  have HLL6 := Lib.hid (HLL5.out.to hb6)
  have HLD6 := Lib.hid (HLD5.out.to hb6)
  have HB6 := Lib.hid (HB5.out.trans (hb6.mono HB5.out.size))
  clear hb6 HTP HVB5 HLL5 HLD5 HB5 k0 k1
  obtain ⟨tr, htr⟩ : ∃ r, root L = r := ⟨_, rfl⟩
  obtain ⟨tn, htn⟩ : ∃ n : Int, (L.length : Int) = n := ⟨_, rfl⟩
  obtain ⟨cT, hcT⟩ : ∃ c, (headL tn tr).toArray = c := ⟨_, rfl⟩
  have hve : headV (L.length : Int) (root L) = .agg cT := by rw [← hcT, ← htr, ← htn]; rfl
  rw [htr] at HRL
  rw [hve]
  have HTS : Hid (cT.size = 33) := Lib.hid (by rw [← hcT]; simp [headL, HRL.out])
  have HTA : Hid (cT.all (·.oneCell') = true) := Lib.hid (by rw [← hcT]; exact headL_one _ _)
  have hzh : (w6.alloc (.cells zhead.toArray 40)).heap[w6.heap.size]? = some (.cells zhead.toArray 40 (0, 0)) := heap_alloc_new w6 _
  have HT7 : Hid (((w6.alloc (.cells zhead.toArray 40)).setRow w6.heap.size cT).heap[w6.heap.size]? = some (.cells cT 40 (0, 0))) := Lib.hid (setRow_heap _ _ _ _ _ _ hzh)
  have HB7 : Hid (Below w6.heap.size w6 ((w6.alloc (.cells zhead.toArray 40)).setRow w6.heap.size cT)) := Lib.hid (below_setRow ((Below.refl _ _).alloc (Nat.le_refl _) _) (Nat.le_refl _) cT)
  have HCT := Lib.hid hcT
  clear hve hcT htr htn
  go_upto_region 5 with (first
    | (refine wpList_store_row rfl 40 (.tmp 16) (.tmp 54) rfl w6.heap.size cT ?_ ?_ 40 zhead.toArray hzh (by rw [HTS.out]; kernel_rfl) (by rw [HTS.out]; rfl) HTA.out ?_; rfl; rfl)
    | fail)
  clear hzh
  generalize hw : World.setRow (World.alloc w6 _) _ _ = w7
  have hv : ((w6.alloc (.cells zhead.toArray 40)).setRow w6.heap.size cT) = w7 := hw
  rw [hv] at HT7 HB7
  clear hw hv
  have HTb : Hid (w6.heap.size < w7.heap.size) := Lib.hid (cell_lt HT7.out)
  obtain ⟨Tb, hTb⟩ : ∃ T, w6.heap.size = T := ⟨_, rfl⟩
  rw [hTb] at HT7 HTb ⊢
  have HTE := Lib.hid hTb
  clear hTb
  go_upto_block 0 with (fail)
  go_cut [17, 18] from 56 to 73 (fun a17 a18 wx => ∃ (sh : List Sheet), Hid (Own wx w7.heap.size 24 a17 sh) ∧ Hid (∀ x ∈ sh, SmallS x) ∧ Hid (sh.length ≤ 60) ∧ Hid (Below w7.heap.size w7 wx))
  case first =>
    go_wp2_with fail
    go_loopw [17, 18] (fun v i wr => ∃ (k : Nat) (sh : List Sheet), k ≤ ll.length ∧ i = .int .i64 k ∧ k ≤ 5 ∧ Hid (Own wr w7.heap.size 24 v sh) ∧ Hid (∀ x ∈ sh, SmallS x) ∧ Hid (sh.length ≤ 12 * k) ∧ Hid (Below w7.heap.size w7 wr)) (fun v i _ => ll.length - (intOf i).toNat)
    case atStart => exact ⟨0, [], Nat.zero_le _, rfl, by omega, Lib.hid ⟨[], ⟨rfl, .inr ⟨w7.heap.size, 0, #[], rfl, Nat.le_refl _, heap_alloc_new w7 _, Nat.le_refl _, by decide, rfl, rfl⟩⟩, by simp, fun i h => absurd h (by simp)⟩, Lib.hid (by simp), Lib.hid (by simp), Lib.hid ((Below.refl _ _).alloc (Nat.le_refl _) _)⟩
    case round =>
      obtain ⟨k, sh, hk, rfl, hk5, HO, HSM, HSN, HB⟩ := hrel
      have h60 : sh.length ≤ 60 := by have := HSN.out; omega
      by_cases hlt : k < ll.length
      · by_cases h5 : k < 5
        · have hkl : (k : Int) < (ll.length : Int) := by omega
          have hk0 : (0 : Int) ≤ (k : Int) := by omega
          have hk5' : (k : Int) < 5 := by omega
          obtain ⟨bx, ox, AX, cX, rfl, _, hbx, ex, sx⟩ := ints_at ((HLL6.out.to HB7.out).to HB.out) hlt
          obtain ⟨A3, c3, rfl, -⟩ := HO.out.form
          have HSO := Lib.hid (someB_any AX cX ll[k] wr sx)
          obtain ⟨x, hx⟩ : ∃ x, ll[k] = x := ⟨_, rfl⟩
          rw [hx] at ex HSO
          clear hx sx hbx
          have HLV := Lib.hid HO.out.lt
          go_wp2_with fail
          refine HSO.out.mono ?_
          rintro e W1 ⟨v1, rfl, sh1, ho1, hl1, hm1, hb1⟩
          obtain ⟨A5, c5, rfl, hs5⟩ := shB_sl ho1 (Nat.le_refl _)
          have HO1 := Lib.hid (HO.out.below hb1)
          have HM1 : Hid (∀ x ∈ sh1.map ShB.s, SmallS x) := Lib.hid (by intro x hx; obtain ⟨y, hy, rfl⟩ := List.mem_map.1 hx; exact hm1 y hy)
          have hl1' : (sh1.map ShB.s).length ≤ 12 := by rw [List.length_map]; exact hl1
          have HB1 := Lib.hid (HB.out.trans (hb1.mono HB.out.size))
          have HS5 := Lib.hid hs5
          generalize sh1.map ShB.s = sh2 at *
          clear hs5 ho1 hl1 hm1 HSO ex hb1
          go_wp2_with (first
            | (at_builtin; refine wpList_cat (α := Sheet) _ rfl (.tmp 66) (.tmp 71) 26 rfl w7.heap.size 24 (.agg #[.string ⟨#[]⟩, .slice none 0 0, .slice none 0 0]) 64 Tryd.underlying26 sheet_info rfl (by decide) (.slice A3 sh.length c3) sh rfl HO1.out A5 c5 sh2.length sh2 rfl rfl (fun b => b < W1.heap.size ∧ wr.heap.size ≤ b) HS5.out (fun i hi _ e => by have := (HLV.out i e.symm).2; omega) (by omega) (by omega) HB1.out.size ?_; intro v3 w9 hown3 hg3 hat3)
            | fail)
          go_roundw
          case rel => exact ⟨k + 1, sh ++ sh2, by omega, by go_num, by omega, Lib.hid hown3, Lib.hid (fun y hy => (List.mem_append.1 hy).elim (HSM.out y) (HM1.out y)), Lib.hid (by have := HSN.out; rw [List.length_append]; omega), Lib.hid (below_cat HB1.out HO1.out HB1.out.size hg3)⟩
          case measure => (simp [intOf]; omega)
        · have hkl : (k : Int) < (ll.length : Int) := by omega
          have hk5' : ¬ (k : Int) < 5 := by omega
          go_wp2_with fail
          go_meet
          exact ⟨sh, HO, HSM, Lib.hid h60, HB⟩
      · have hkl : ¬ (k : Int) < (ll.length : Int) := by omega
        go_wp2_with fail
        go_meet
        exact ⟨sh, HO, HSM, Lib.hid h60, HB⟩
  case rest =>
    obtain ⟨sh, HO, HSM, HS60, HBc⟩ := hcut
    obtain ⟨A5, c5, e5, hs5⟩ := HO.out.sl
    subst e5
    have HTc : Hid (wc.heap[Tb]? = some (.cells cT 40 (0, 0))) := Lib.hid (cell_to HT7.out HBc.out)
    have HOF0 : Hid (Off Tb wc A5 c5 sh) := Lib.hid (sheets_off hs5 HTc.out (by rw [← HCT.out]; exact head_nostr _ _))
    have HBc6 := Lib.hid (HB7.out.trans (HBc.out.mono HB7.out.size))
    clear hs5 HO HBc HT7 HB7 HLL6 HTb
    go_wp2_with fail
    go_loopw [19] (fun i wr => ∃ (k : Nat) (un : Int) (ur : List UInt8), k ≤ sh.length ∧ i = .int .i64 k ∧ Hid (ur.length = 32) ∧ Hid (wr.heap[Tb]? = some (.cells (headL un ur).toArray 40 (0, 0))) ∧ Hid (Off Tb wr A5 c5 sh) ∧ Hid (Below w6.heap.size w6 wr)) (fun i _ => sh.length - (intOf i).toNat)
    case atStart => exact ⟨0, tn, tr, Nat.zero_le _, rfl, HRL, Lib.hid (by rw [HCT.out]; exact HTc.out), HOF0, HBc6⟩
    case round =>
      clear HOF0 HTc HBc6 HTS HTA HCT HRL
      obtain ⟨k, un, ur, hk, rfl, HUL, HUT, HOF, HBw⟩ := hrel
      have hs60 : sh.length ≤ 60 := HS60.out
      have HVB := Lib.hid (HVB6.out.to HBw.out)
      have HLD := Lib.hid (HLD6.out.to HBw.out)
      by_cases hlt : k < sh.length
      · obtain ⟨bs, os, A7, c7, A8, c8, rfl, -, hbl, e0, e1, e2, s1, s2⟩ := sheet_at HOF.out hlt
        have hkl : (k : Int) < (sh.length : Int) := by omega
        have hk0 : (0 : Int) ≤ (k : Int) := by omega
        have HSX := Lib.hid (HSM.out _ (List.getElem_mem hlt))
        obtain ⟨x, hx⟩ : ∃ x, sh[k] = x := ⟨_, rfl⟩
        rw [hx] at e0 e1 e2 s1 s2 HSX
        clear hx
        have HE := Lib.hid (And.intro hbl (And.intro e0 (And.intro e1 e2)))
        have HS1 : Hid (Off Tb wr A7 c7 x.body) := Lib.hid s1
        have HS2 : Hid (Off Tb wr A8 c8 x.notes) := Lib.hid s2
        clear e0 e1 e2 s1 s2 hbl
        obtain ⟨pi, pb, pp, HPI⟩ : ∃ pi pb pp, Hid (proofI N x.label = pi ∧ proofP L N x.label = pp ∧ proofB N x.label = pb) := ⟨_, _, _, Lib.hid ⟨rfl, rfl, rfl⟩⟩
        have HPPL : Hid (pp.length ≤ 1048576) := Lib.hid (by
          have h1 : (proofP L N x.label).length ≤ L.length := by
            unfold proofP; split
            · simp
            · exact pathH_length _ _
          have := HLM.out; rw [HPI.out.2.1] at h1; omega)
        go_upto_region 13 with (fail)
        refine wp_region_rely [6] (fun i => if i = 6 then (⟨fun u w' => ∃ v, u = .tuple #[.int .i64 pi, v, .bool pb] ∧ Own w' wr.heap.size 29 v pp, fun v w' w'' h hb => by obtain ⟨u, a, b⟩ := h; exact ⟨u, a, b.below hb⟩⟩ : SP) else SP.any) 14 (by kernel_rfl) (by kernel_rfl) ?_
        intro T _ g hg hgm
        have q0 : ∀ d, (g d).cell? ⟨Lb, 0, none⟩ = some (.slice A1 L.length c1) := fun d => (HLD.out.box.to (hg d)).cell 0 rfl
        have q1 : ∀ d, (g d).cell? ⟨Lb, 1, none⟩ = some (.slice A2 N.length c2) := fun d => (HLD.out.box.to (hg d)).cell 1 rfl
        have q2 : ∀ d, (g d).cell? ⟨bs, os + k * 3, none⟩ = some (.string x.label) := fun d => ((hg d).cell (p := ⟨bs, os + k * 3, none⟩) HE.out.1).trans HE.out.2.1
        repeat (refine wpR_pure (by rfl) fun Kq hq => ?_; go_big_quiet_step (fail); refine wpQuiet_nil (hq _ ?_); clear hq Kq)
        refine wpR_busy (by rfl) (by rfl) (fun d hG K Q hK => ?_) (fun v6 d hG hp Kr hr => ?_)
        · go_simp
          go_at_call 23
          refine (rproofO_any A1 A2 c1 c2 L N x.label (g d) (HLD.out.l.to (hg d)) (HLD.out.n.to (hg d)) HLN.out (by have := HLM.out; omega)).mono ?_
          rintro e W1 ⟨v, rfl, ho1, hb1⟩
          go_simp
          exact hK _ _ hb1 (by
                rw [HPI.out.1, HPI.out.2.1, HPI.out.2.2] at *; exact ⟨v, rfl, ho1.re (hg d).size⟩)
        obtain ⟨u6, rfl, hu6⟩ := (show ∃ v, v6 = .tuple #[.int .i64 pi, v, .bool pb] ∧ Own (g d) wr.heap.size 29 v pp from hp)
        obtain ⟨A9, c9, rfl, -⟩ := hu6.form
        clear hu6
        (try clear hp); clear hG
        simp only [Act.put, List.setIfInBounds_toArray, List.set_cons_zero, List.set_cons_succ]
        refine hr _ ?_
        clear hr Kr
        repeat (refine wpR_pure (by rfl) fun Kq hq => ?_; go_big_quiet_step (fail); refine wpQuiet_nil (hq _ ?_); clear hq Kq)
        refine wpR_end (by kernel_rfl) (fun d hG => ?_) _
        have HPO : Hid (Off Tb (g d) A9 c9 pp) := Lib.hid (by
          obtain ⟨v, he, ho⟩ := (show ∃ v, Value.tuple #[.int .i64 pi, .slice A9 pp.length c9, .bool pb] = .tuple #[.int .i64 pi, v, .bool pb] ∧ Own (g d) wr.heap.size 29 v pp from hG 6)
          have he2 : Value.slice A9 pp.length c9 = v := by
            have := congrArg (fun v : Value => match v with | .tuple cs => cs[1]? | _ => none) he
            simpa using this
          subst he2
          exact own_off ho rfl (cell_lt HUT.out))
        have HBa : Hid (Below w6.heap.size w6 (g d)) := Lib.hid (HBw.out.trans ((hg d).mono HBw.out.size))
        have HUTa : Hid ((g d).heap[Tb]? = some (.cells (headL un ur).toArray 40 (0, 0))) := Lib.hid (cell_to HUT.out (hg d))
        have HOFa := Lib.hid (HOF.out.to (hg d))
        have HS1a := Lib.hid (HS1.out.to (hg d))
        have HS2a := Lib.hid (HS2.out.to (hg d))
        have g0 : (g d).cell? ⟨bs, os + k * 3, none⟩ = some (.string x.label) := ((hg d).cell (p := ⟨bs, os + k * 3, none⟩) HE.out.1).trans HE.out.2.1
        have g1 : (g d).cell? ⟨bs, os + k * 3 + 1, none⟩ = some (.slice A7 x.body.length c7) := ((hg d).cell (p := ⟨bs, os + k * 3 + 1, none⟩) HE.out.1).trans HE.out.2.2.1
        have g2 : (g d).cell? ⟨bs, os + k * 3 + 2, none⟩ = some (.slice A8 x.notes.length c8) := ((hg d).cell (p := ⟨bs, os + k * 3 + 2, none⟩) HE.out.1).trans HE.out.2.2.2
        clear hG hg hgm q0 q1 q2 HLD HVB HOF HS1 HS2 HE HUT HBw HPI
        generalize g d = wa at *
        clear g
        unfold Exit.then
        go_upto_region 15 with (fail)
        have hb8 : Below wa.heap.size wa (wa.alloc (.cells #[.string x.label, .slice A7 x.body.length c7, .slice A8 x.notes.length c8] 24)) := (Below.refl _ _).alloc (Nat.le_refl _) _
        have HX8 : Hid (ABox (wa.alloc (.cells #[.string x.label, .slice A7 x.body.length c7, .slice A8 x.notes.length c8] 24)) wa.heap.size 24 [.string x.label, .slice A7 x.body.length c7, .slice A8 x.notes.length c8]) := Lib.hid (heap_alloc_new wa _)
        have HPO8 := Lib.hid (HPO.out.to hb8)
        have HB8 := Lib.hid (HBa.out.trans (hb8.mono HBa.out.size))
        have HUT8 := Lib.hid (cell_to HUTa.out hb8)
        have HOF8 := Lib.hid (HOFa.out.to hb8)
        have HS18 := Lib.hid (HS1a.out.to hb8)
        have HS28 := Lib.hid (HS2a.out.to hb8)
        have HBX := Lib.hid hb8
        clear hb8 g0 g1 g2
        generalize hw : World.alloc wa _ = w8
        have hv : (wa.alloc (.cells #[.string x.label, .slice A7 x.body.length c7, .slice A8 x.notes.length c8] 24)) = w8 := hw
        rw [hv] at HX8 HPO8 HB8 HUT8 HOF8 HS18 HS28 HBX
        clear hw hv
        obtain ⟨Xb, hXb⟩ : ∃ X, wa.heap.size = X := ⟨_, rfl⟩
        have HXE := Lib.hid hXb
        rw [hXb] at HX8 ⊢
        have HXT : Hid (Xb ≠ Tb ∧ w6.heap.size ≤ Xb) := Lib.hid (by have := cell_lt HUTa.out; have := HBa.out.size; omega)
        clear hXb
        obtain ⟨z, hz⟩ : ∃ z, aro what 6 = z := ⟨_, rfl⟩
        have HZ6 : Hid (0 ≤ z ∧ z < 6) := Lib.hid (by rw [← hz]; exact aro_lt what 6 (by decide))
        have HAR : Hid (∀ W, Calls Tryd.prog 25 #[.int .i64 what, .int .i64 6] W fun e w' => e = .returned (.int .i64 z) ∧ W = w') := Lib.hid (fun W => by rw [← hz]; exact around_any what 6 W HWH.out (by decide) (by decide))
        clear hz
        go_upto_block 4 with (first | (go_at_call 25; refine (HAR.out _).mono ?_; rintro e w' ⟨rfl, rfl⟩) | fail)
        go_cut [20, 21, 24] from 96 to 111 (fun a20 a21 a24 wx => ∃ (at9 : Int) (ps : List H32) (B9 : Option Addr) (d9 : Nat) (br : Int) (y : Sheet) (YA YB : Option Addr) (yc yd : Nat) (vn : Int) (vr : List UInt8), a20 = .int .i64 at9 ∧ a21 = .slice B9 ps.length d9 ∧ a24 = .int .i64 br ∧ Hid (I64 br) ∧ Hid (ps.length ≤ 1048576) ∧ Hid (Sl wx (fun b => b < wx.heap.size) B9 d9 ps) ∧ Hid (ABox wx Xb 24 [.string y.label, .slice YA y.body.length yc, .slice YB y.notes.length yd]) ∧ Hid (Sl wx (fun b => b < wx.heap.size) YA yc y.body) ∧ Hid (Sl wx (fun b => b < wx.heap.size) YB yd y.notes) ∧ Hid ((sheetB br y).length ≤ 1073740000) ∧ Hid (vr.length = 32) ∧ Hid (wx.heap[Tb]? = some (.cells (headL vn vr).toArray 40 (0, 0))) ∧ Hid (Off Tb wx (some ⟨bs, os, none⟩) c5 sh) ∧ Hid (Below w6.heap.size w6 wx))
        case first =>
          have HVB8 := Lib.hid (HVB6.out.to HB8.out)
          have hz6 := HZ6.out
          rcases (show z = 0 ∨ z = 1 ∨ z = 2 ∨ z = 3 ∨ z = 4 ∨ z = 5 by omega) with rfl | rfl | rfl | rfl | rfl | rfl
          · have s0 := HVB8.out.sh.cell 0 rfl
            have s1 := HVB8.out.sh.cell 1 rfl
            have s2 := HVB8.out.sh.cell 2 rfl
            have b0 := HX8.out.cell 0 rfl
            have f0 := HX8.out.fz
            have b1 := (HX8.out.set 0 (.string s.label)).cell 1 rfl
            have f1 := (HX8.out.set 0 (.string s.label)).fz
            have b2 := ((HX8.out.set 0 (.string s.label)).set 1 (.slice SA s.body.length sc)).cell 2 rfl
            have f2 := ((HX8.out.set 0 (.string s.label)).set 1 (.slice SA s.body.length sc)).fz
            have HXN := Lib.hid (((HX8.out.set 0 (.string s.label)).set 1 (.slice SA s.body.length sc)).set 2 (.slice SB s.notes.length sd))
            have HBN : Hid (Below wa.heap.size wa (((w8.setCell ⟨Xb, 0, none⟩ (.string s.label)).setCell ⟨Xb, 1, none⟩ (.slice SA s.body.length sc)).setCell ⟨Xb, 2, none⟩ (.slice SB s.notes.length sd))) := Lib.hid (((HBX.out.setCell (p := ⟨Xb, 0, none⟩) (by have := HXE.out; show _ ≤ Xb; omega) _).setCell (p := ⟨Xb, 1, none⟩) (by have := HXE.out; show _ ≤ Xb; omega) _).setCell (p := ⟨Xb, 2, none⟩) (by have := HXE.out; show _ ≤ Xb; omega) _)
            go_wp2_with fail
            go_meet
            have HB6N := HBa.out.trans (HBN.out.mono HBa.out.size)
            have HVN := HVB6.out.to HB6N
            exact ⟨pi, pp, A9, c9, 0, s, SA, SB, sc, sd, un, ur, rfl, rfl, rfl, Lib.hid (by unfold I64; omega), HPPL, Lib.hid (HPO.out.to HBN.out).sl, HXN, Lib.hid HVN.a, Lib.hid HVN.b, Lib.hid (HZB.out 0), HUL, Lib.hid (cell_to HUTa.out HBN.out), Lib.hid (HOFa.out.to HBN.out), Lib.hid HB6N⟩
          · go_wp2_with fail
            go_meet
            exact ⟨i, pp, A9, c9, 0, x, A7, A8, c7, c8, un, ur, rfl, rfl, rfl, Lib.hid (by unfold I64; omega), HPPL, Lib.hid HPO8.out.sl, HX8, Lib.hid HS18.out.sl, Lib.hid HS28.out.sl, Lib.hid (smallB _ HSX.out), HUL, HUT8, HOF8, HB8⟩
          · go_wp2_with fail
            go_meet
            exact ⟨pi, p, C, cp, 0, x, A7, A8, c7, c8, un, ur, rfl, rfl, rfl, Lib.hid (by unfold I64; omega), HPK, Lib.hid HVB8.out.p, HX8, Lib.hid HS18.out.sl, Lib.hid HS28.out.sl, Lib.hid (smallB _ HSX.out), HUL, HUT8, HOF8, HB8⟩
          · go_wp2_with fail
            go_meet
            exact ⟨pi, pp, A9, c9, i, x, A7, A8, c7, c8, un, ur, rfl, rfl, rfl, Lib.hid HI.out, HPPL, Lib.hid HPO8.out.sl, HX8, Lib.hid HS18.out.sl, Lib.hid HS28.out.sl, Lib.hid (smallB _ HSX.out), HUL, HUT8, HOF8, HB8⟩
          · have hh8 := HVB8.out.hd
            have ht8 := HUT8.out
            have HSU : Hid ((headL un ur).toArray.size = 33) := Lib.hid (by simp [headL, HUL.out])
            have HAH : Hid (cH.all (·.oneCell') = true) := Lib.hid (by rw [← HCH.out]; exact headL_one _ _)
            go_wp2_with (first
              | (refine wpList_load_row rfl 40 (.tmp 8) rfl Hb ?_ 40 cH (0, 0) _ hh8 Tryd.underlying40 ?_ ?_ ?_; rfl; rfl; (rw [HSH.out]; kernel_rfl))
              | (refine wpList_store_row rfl 40 (.tmp 16) (.tmp 110) rfl Tb cH ?_ ?_ 40 (headL un ur).toArray ht8 (by rw [HSH.out]; kernel_rfl) (by rw [HSU.out, HSH.out]) HAH.out ?_; rfl; rfl)
              | fail)
            go_meet
            have HXN : ABox (w8.setRow Tb cH) Xb 24 [.string x.label, .slice A7 x.body.length c7, .slice A8 x.notes.length c8] := (setRow_other _ Tb Xb _ HXT.out.1).trans HX8.out
            exact ⟨pi, pp, A9, c9, 0, x, A7, A8, c7, c8, hn, hr, rfl, rfl, rfl, Lib.hid (by unfold I64; omega), HPPL, Lib.hid (HPO8.out.set cH).sl, Lib.hid HXN, Lib.hid (HS18.out.set cH).sl, Lib.hid (HS28.out.set cH).sl, Lib.hid (smallB _ HSX.out), HHL, Lib.hid (by rw [HCH.out]; exact setRow_heap _ _ _ _ _ _ ht8), Lib.hid (HOF8.out.set cH), Lib.hid (below_setRow HB8.out (R := Tb) (by have := HTE.out; omega) cH)⟩
          · go_wp2_with fail
            go_meet
            exact ⟨pi, pp, A9, c9, 0, x, A7, A8, c7, c8, un, ur, rfl, rfl, rfl, Lib.hid (by unfold I64; omega), HPPL, Lib.hid HPO8.out.sl, HX8, Lib.hid HS18.out.sl, Lib.hid HS28.out.sl, Lib.hid (smallB _ HSX.out), HUL, HUT8, HOF8, HB8⟩
        case rest =>
          obtain ⟨at9, ps, B9, d9, br, y, YA, YB, yc, yd, vn, vr, rfl, rfl, rfl, HBR, HPL, HPS, HXC, HYA, HYB, HYZ, HVR, HVT, HOFc, HBC⟩ := hcut
          clear HPO HBa HUTa HOFa HS1a HS2a HX8 HPO8 HB8 HUT8 HOF8 HS18 HS28 HBX HUL HPPL HSX HXE HAR HZ6
          have HKC : Hid (KLaid wc) := Lib.hid (HVB6.out.to HBC.out).k
          obtain ⟨cV, hcV⟩ : ∃ c, (headL vn vr).toArray = c := ⟨_, rfl⟩
          have HCV := Lib.hid hcV
          have HSV : Hid (cV.size = 33) := Lib.hid (by rw [← hcV]; simp [headL, HVR.out])
          have HVC : Hid (wc.heap[Tb]? = some (.cells cV 40 (0, 0))) := Lib.hid (by rw [← hcV]; exact HVT.out)
          obtain ⟨q3, hq3⟩ : ∃ q, checkP vn vr br y at9 ps = q := ⟨_, rfl⟩
          have HC1 : Hid (∀ (W : World) (a : Sl W (fun b => b < W.heap.size) YA yc y.body) (b : Sl W (fun b => b < W.heap.size) YB yd y.notes) (p' : Sl W (fun b => b < W.heap.size) B9 d9 ps) (k : KLaid W), Calls Tryd.prog 22 #[.agg cV, .int .i64 br, .agg #[.string y.label, .slice YA y.body.length yc, .slice YB y.notes.length yd], .int .i64 at9, .slice B9 ps.length d9] W fun e w' => e = .returned (.bool q3) ∧ Below W.heap.size W w') := Lib.hid (fun W a b p' k => by
            have := check_any vn br at9 vr y YA YB B9 yc yd d9 ps.length ps W HVR.out HBR.out a b HYZ.out p' rfl k
            rw [hq3] at this; rw [← hcV]; exact this)
          have HC2 : Hid (∀ (W : World) (a : Sl W (fun b => b < W.heap.size) YA yc y.body) (b : Sl W (fun b => b < W.heap.size) YB yd y.notes) (p' : Sl W (fun b => b < W.heap.size) B9 d9 ps), Calls Tryd.prog 28 #[.agg cV, .int .i64 br, .agg #[.string y.label, .slice YA y.body.length yc, .slice YB y.notes.length yd], .int .i64 at9, .slice B9 ps.length d9] W fun e w' => e = .returned (.bool q3) ∧ Below W.heap.size W w') := Lib.hid (fun W a b p' => by
            have := rcheck_any vn br at9 vr y YA YB B9 yc yd d9 ps.length ps W HVR.out HBR.out a b HYZ.out p' rfl (by have := HPL.out; omega)
            rw [hq3] at this; rw [← hcV]; exact this)
          clear hcV hq3
          go_upto_region 27 with (fail)
          refine wp_region_rely [5, 11] (fun i => if i = 5 then SP.val (.bool q3) else if i = 11 then SP.val (.bool q3) else SP.any) 13 (by kernel_rfl) (by kernel_rfl) ?_
          intro T _ g hg hgm
          have q0 : ∀ d, (g d).cell? ⟨Xb, 0, none⟩ = some (.string y.label) := fun d => (HXC.out.to (hg d)).cell 0 rfl
          have q1 : ∀ d, (g d).cell? ⟨Xb, 1, none⟩ = some (.slice YA y.body.length yc) := fun d => (HXC.out.to (hg d)).cell 1 rfl
          have q2 : ∀ d, (g d).cell? ⟨Xb, 2, none⟩ = some (.slice YB y.notes.length yd) := fun d => (HXC.out.to (hg d)).cell 2 rfl
          refine wpR_pure (by rfl) fun Kq hq => ?_
          refine wpQuiet_run (by rfl) (.agg cV) ?_ (wpQuiet_nil ?_)
          · rintro _ ⟨d, rfl⟩
            exact exec_load_row 40 (.tmp 16) rfl Tb rfl 40 cV (0, 0) _ (cell_to HVC.out (hg d)) Tryd.underlying40 rfl (by rw [HSV.out]; kernel_rfl)
          simp only [Act.put, List.setIfInBounds_toArray, List.set_cons_zero, List.set_cons_succ]
          refine hq _ ?_
          clear hq Kq
          repeat (refine wpR_pure (by rfl) fun Kq hq => ?_; go_big_quiet_step (fail); refine wpQuiet_nil (hq _ ?_); clear hq Kq)
          refine wpR_busy (by rfl) (by rfl) (fun d hG K Q hK => ?_) (fun v5 d hG hp Kr hr => ?_)
          · go_simp
            go_at_call 22
            refine (HC1.out (g d) (HYA.out.to (hg d)) (HYB.out.to (hg d)) (HPS.out.to (hg d)) (HKC.out.to (hg d))).mono ?_
            rintro e W1 ⟨rfl, hb1⟩
            go_simp
            exact hK _ _ hb1 (rfl)
          obtain rfl : v5 = Value.bool q3 := hp
          (try clear hp); clear hG
          simp only [Act.put, List.setIfInBounds_toArray, List.set_cons_zero, List.set_cons_succ]
          refine hr _ ?_
          clear hr Kr
          refine wpR_pure (by rfl) fun Kq hq => ?_
          refine wpQuiet_run (by rfl) (.agg cV) ?_ (wpQuiet_nil ?_)
          · rintro _ ⟨d, rfl⟩
            exact exec_load_row 40 (.tmp 16) rfl Tb rfl 40 cV (0, 0) _ (cell_to HVC.out (hg d)) Tryd.underlying40 rfl (by rw [HSV.out]; kernel_rfl)
          simp only [Act.put, List.setIfInBounds_toArray, List.set_cons_zero, List.set_cons_succ]
          refine hq _ ?_
          clear hq Kq
          repeat (refine wpR_pure (by rfl) fun Kq hq => ?_; go_big_quiet_step (fail); refine wpQuiet_nil (hq _ ?_); clear hq Kq)
          refine wpR_busy (by rfl) (by rfl) (fun d hG K Q hK => ?_) (fun v11 d hG hp Kr hr => ?_)
          · go_simp
            go_at_call 28
            refine (HC2.out (g d) (HYA.out.to (hg d)) (HYB.out.to (hg d)) (HPS.out.to (hg d))).mono ?_
            rintro e W1 ⟨rfl, hb1⟩
            go_simp
            exact hK _ _ hb1 (rfl)
          obtain rfl : v11 = Value.bool q3 := hp
          (try clear hp); clear hG
          simp only [Act.put, List.setIfInBounds_toArray, List.set_cons_zero, List.set_cons_succ]
          refine hr _ ?_
          clear hr Kr
          repeat (refine wpR_pure (by rfl) fun Kq hq => ?_; go_big_quiet_step (fail); refine wpQuiet_nil (hq _ ?_); clear hq Kq)
          refine wpR_end (by kernel_rfl) (fun d hG => ?_) _
          have HVCd : Hid ((g d).heap[Tb]? = some (.cells (headL vn vr).toArray 40 (0, 0))) := Lib.hid (cell_to HVT.out (hg d))
          have HOFd := Lib.hid (HOFc.out.to (hg d))
          have HBd : Hid (Below w6.heap.size w6 (g d)) := Lib.hid (HBC.out.trans ((hg d).mono HBC.out.size))
          clear hG hg hgm q0 q1 q2 HXC HYA HYB HYZ HPS HVC HVT HOFc HBC HKC
          generalize g d = wd at *
          clear g
          unfold Exit.then
          go_wp2_with fail
          go_roundw
          case rel => exact ⟨k + 1, vn, vr, by omega, by go_num, HVR, HVCd, HOFd, HBd⟩
          case measure => (simp [intOf]; omega)
      · have hkl : ¬ (k : Int) < (sh.length : Int) := by omega
        have hL60 : (L.length : Int) ≤ 60 := by have := HLM.out; omega
        have hL0 : (0 : Int) ≤ (L.length : Int) := by omega
        have k0 := HLD.out.box.cell 0 rfl
        obtain ⟨sN, hsN⟩ : ∃ n : Nat, aro i ((L.length : Int) + 1) = (n : Int) := ⟨(aro i ((L.length : Int) + 1)).toNat, by have := aro_lt i ((L.length : Int) + 1) (by omega); omega⟩
        have hsL : sN ≤ L.length := by have := aro_lt i ((L.length : Int) + 1) (by omega); omega
        have HAR : Hid (∀ W, Calls Tryd.prog 25 #[.int .i64 i, .int .i64 ((L.length : Int) + 1)] W fun e w' => e = .returned (.int .i64 (sN : Int)) ∧ W = w') := Lib.hid (fun W => by rw [← hsN]; exact around_any i _ W HI.out (by omega) (by omega))
        clear hsN hs60 HOF
        go_wp2_with fail
        refine (HAR.out _).mono ?_
        rintro e w8 ⟨rfl, rfl⟩
        have HRT := Lib.hid (root_any (L.take sN) A1 sN c1 wr (HLD.out.l.take sN hsL) (by rw [List.length_take]; omega) (by omega) HVB.out.k)
        have HFL : Hid ((root (L.take sN)).length = 32) := Lib.hid (root_length _ (fun x hx => h32_len HLD.out.l x (List.mem_of_mem_take hx)))
        obtain ⟨fr, hfr⟩ : ∃ r, root (L.take sN) = r := ⟨_, rfl⟩
        rw [hfr] at HRT HFL
        have hc1 : L.length ≤ c1 := HLD.out.l.1
        have hc2 : c1 ≤ 9223372036854775807 := by have := HLD.out.l.2.1; unfold maxLen at this; omega
        have hs0 : (0 : Int) ≤ (sN : Int) := by omega
        have hsc : (sN : Int) ≤ (c1 : Int) := by omega
        clear hfr HAR
        go_wp2_with fail
        refine HRT.out.mono ?_
        rintro e w8 ⟨rfl, hb8⟩
        have HLD8 := Lib.hid (HLD.out.to hb8)
        have HUT8 := Lib.hid (cell_to HUT.out hb8)
        have HB8 := Lib.hid (HBw.out.trans (hb8.mono HBw.out.size))
        clear hb8 HRT HLD HUT HBw HVB k0
        obtain ⟨cF, hcF⟩ : ∃ c, (headL (sN : Int) fr).toArray = c := ⟨_, rfl⟩
        have HBU : Hid (Tryd.prog.built 40 [(0, .int .i64 (sN : Int)), (1, hashV fr)] = some cF) := Lib.hid (by rw [← hcF]; exact head_built _ _ HFL.out)
        have HSF : Hid (cF.size = 33) := Lib.hid (by rw [← hcF]; simp [headL, HFL.out])
        have HAF : Hid (cF.all (·.oneCell') = true) := Lib.hid (by rw [← hcF]; exact headL_one _ _)
        have HCF := Lib.hid hcF
        clear hcF
        have hzf : (w8.alloc (.cells zhead.toArray 40)).heap[w8.heap.size]? = some (.cells zhead.toArray 40 (0, 0)) := heap_alloc_new w8 _
        have HF9 : Hid (((w8.alloc (.cells zhead.toArray 40)).setRow w8.heap.size cF).heap[w8.heap.size]? = some (.cells cF 40 (0, 0))) := Lib.hid (setRow_heap _ _ _ _ _ _ hzf)
        have HBX : Hid (Below w8.heap.size w8 ((w8.alloc (.cells zhead.toArray 40)).setRow w8.heap.size cF)) := Lib.hid (below_setRow ((Below.refl _ _).alloc (Nat.le_refl _) _) (Nat.le_refl _) cF)
        have HLD9 := Lib.hid (HLD8.out.to HBX.out)
        have HUT9 := Lib.hid (cell_to HUT8.out HBX.out)
        have HB9 := Lib.hid (HB8.out.trans (HBX.out.mono HB8.out.size))
        clear HLD8 HUT8 HB8 HBX
        go_upto_region 31 with (first
          | (refine wpList_built rfl 40 [(0, .tmp 130), (1, .tmp 135)] rfl [(0, .int .i64 (sN : Int)), (1, hashV fr)] rfl cF HBU.out ?_)
          | (refine wpList_store_row rfl 40 (.tmp 26) (.tmp 136) rfl w8.heap.size cF ?_ ?_ 40 zhead.toArray hzf (by rw [HSF.out]; kernel_rfl) (by rw [HSF.out]; rfl) HAF.out ?_; rfl; rfl)
          | fail)
        clear hzf HBU HAF
        generalize hw : World.setRow (World.alloc w8 _) _ _ = w9
        have hv : ((w8.alloc (.cells zhead.toArray 40)).setRow w8.heap.size cF) = w9 := hw
        rw [hv] at HF9 HLD9 HUT9 HB9
        clear hw hv
        generalize w8.heap.size = Fb at *
        have HGR := Lib.hid (r34growth_any (sN : Int) L A1 A2 N.length c1 c2 w9 HLD9.out.l (by have := HLM.out; omega))
        have k0 := HLD9.out.box.cell 0 rfl
        have k1 := HLD9.out.box.cell 1 rfl
        obtain ⟨pe, pg, hpe, hpg⟩ : ∃ pe pg, growthE L (sN : Int) = pe ∧ growthP L (sN : Int) = pg := ⟨_, _, rfl, rfl⟩
        have HPG : Hid (pg.length ≤ 60) := Lib.hid (by have := growthP_length L (sN : Int); rw [hpg] at this; have := HLM.out; omega)
        rw [hpe, hpg] at HGR
        clear hpe hpg
        go_wp2_with fail
        refine HGR.out.mono ?_
        rintro e wa ⟨v9, rfl, ho9, hb9⟩
        obtain ⟨A9, c9, rfl, hs9⟩ := ho9.sl
        have HPS := Lib.hid hs9
        have HFa := Lib.hid (cell_to HF9.out hb9)
        have HUa := Lib.hid (cell_to HUT9.out hb9)
        have HBa := Lib.hid (HB9.out.trans (hb9.mono HB9.out.size))
        clear hb9 ho9 hs9 k0 k1 HGR HF9 HLD9 HUT9 HB9
        have HVBa := Lib.hid (HVB6.out.to HBa.out)
        obtain ⟨cV, hcV⟩ : ∃ c, (headL un ur).toArray = c := ⟨_, rfl⟩
        have HSV : Hid (cV.size = 33) := Lib.hid (by rw [← hcV]; simp [headL, HUL.out])
        have HVC : Hid (wa.heap[Tb]? = some (.cells cV 40 (0, 0))) := Lib.hid (by rw [← hcV]; exact HUa.out)
        obtain ⟨q3, hq3⟩ : ∃ q, extendsP fr (sN : Int) ur un pg = q := ⟨_, rfl⟩
        obtain ⟨q4, hq4⟩ : ∃ q, extendsP or_ on ur un pg = q := ⟨_, rfl⟩
        have HG1 : Hid (∀ (W : World) (p' : Sl W (fun b => b < W.heap.size) A9 c9 pg) (k : KLaid W), Calls Tryd.prog 29 #[.agg cF, .agg cV, .slice A9 pg.length c9] W fun e w' => e = .returned (.bool q3) ∧ Below W.heap.size W w') := Lib.hid (fun W p' k => by
          have := grown_any (sN : Int) un fr ur HFL.out HUL.out A9 c9 pg.length pg W p' rfl (by have := HPG.out; omega) k
          rw [hq3] at this; rw [← hcV, ← HCF.out]; exact this)
        have HG2 : Hid (∀ (W : World) (p' : Sl W (fun b => b < W.heap.size) A9 c9 pg), Calls Tryd.prog 30 #[.agg cF, .agg cV, .slice A9 pg.length c9] W fun e w' => e = .returned (.bool q3) ∧ Below W.heap.size W w') := Lib.hid (fun W p' => by
          have := rgrown_any (sN : Int) un fr ur HFL.out HUL.out A9 c9 pg.length pg W p' rfl (by have := HPG.out; omega)
          rw [hq3] at this; rw [← hcV, ← HCF.out]; exact this)
        have HG3 : Hid (∀ (W : World) (p' : Sl W (fun b => b < W.heap.size) A9 c9 pg) (k : KLaid W), Calls Tryd.prog 29 #[.agg cO, .agg cV, .slice A9 pg.length c9] W fun e w' => e = .returned (.bool q4) ∧ Below W.heap.size W w') := Lib.hid (fun W p' k => by
          have := grown_any on un or_ ur HOL.out HUL.out A9 c9 pg.length pg W p' rfl (by have := HPG.out; omega) k
          rw [hq4] at this; rw [← hcV, ← HCO.out]; exact this)
        have HG4 : Hid (∀ (W : World) (p' : Sl W (fun b => b < W.heap.size) A9 c9 pg), Calls Tryd.prog 30 #[.agg cO, .agg cV, .slice A9 pg.length c9] W fun e w' => e = .returned (.bool q4) ∧ Below W.heap.size W w') := Lib.hid (fun W p' => by
          have := rgrown_any on un or_ ur HOL.out HUL.out A9 c9 pg.length pg W p' rfl (by have := HPG.out; omega)
          rw [hq4] at this; rw [← hcV, ← HCO.out]; exact this)
        clear hcV hq3 hq4
        go_upto_region 32 with (fail)
        refine wp_region_rely [3, 7, 13, 17, 21] (fun i => if i = 3 then SP.val (.bool q3) else if i = 7 then SP.val (.bool q3) else if i = 13 then SP.val (.bool q4) else if i = 17 then SP.val (.bool q4) else if i = 21 then SP.val (.bool true) else SP.any) 24 (by kernel_rfl) (by kernel_rfl) ?_
        intro T _ g hg hgm
        refine wpR_pure (by rfl) fun Kq hq => ?_
        refine wpQuiet_run (by rfl) (.agg cF) ?_ (wpQuiet_nil ?_)
        · rintro _ ⟨d, rfl⟩
          exact exec_load_row 40 (.tmp 26) rfl Fb rfl 40 cF (0, 0) _ (cell_to HFa.out (hg d)) Tryd.underlying40 rfl (by rw [HSF.out]; kernel_rfl)
        simp only [Act.put, List.setIfInBounds_toArray, List.set_cons_zero, List.set_cons_succ]
        refine hq _ ?_
        clear hq Kq
        refine wpR_pure (by rfl) fun Kq hq => ?_
        refine wpQuiet_run (by rfl) (.agg cV) ?_ (wpQuiet_nil ?_)
        · rintro _ ⟨d, rfl⟩
          exact exec_load_row 40 (.tmp 16) rfl Tb rfl 40 cV (0, 0) _ (cell_to HVC.out (hg d)) Tryd.underlying40 rfl (by rw [HSV.out]; kernel_rfl)
        simp only [Act.put, List.setIfInBounds_toArray, List.set_cons_zero, List.set_cons_succ]
        refine hq _ ?_
        clear hq Kq
        repeat (refine wpR_pure (by rfl) fun Kq hq => ?_; go_big_quiet_step (fail); refine wpQuiet_nil (hq _ ?_); clear hq Kq)
        refine wpR_busy (by rfl) (by rfl) (fun d hG K Q hK => ?_) (fun v3 d hG hp Kr hr => ?_)
        · go_simp
          go_at_call 29
          refine (HG1.out (g d) (HPS.out.to (hg d)) (HVBa.out.k.to (hg d))).mono ?_
          rintro e W1 ⟨rfl, hb1⟩
          go_simp
          exact hK _ _ hb1 (rfl)
        obtain rfl : v3 = Value.bool q3 := hp
        (try clear hp); clear hG
        simp only [Act.put, List.setIfInBounds_toArray, List.set_cons_zero, List.set_cons_succ]
        refine hr _ ?_
        clear hr Kr
        refine wpR_pure (by rfl) fun Kq hq => ?_
        refine wpQuiet_run (by rfl) (.agg cF) ?_ (wpQuiet_nil ?_)
        · rintro _ ⟨d, rfl⟩
          exact exec_load_row 40 (.tmp 26) rfl Fb rfl 40 cF (0, 0) _ (cell_to HFa.out (hg d)) Tryd.underlying40 rfl (by rw [HSF.out]; kernel_rfl)
        simp only [Act.put, List.setIfInBounds_toArray, List.set_cons_zero, List.set_cons_succ]
        refine hq _ ?_
        clear hq Kq
        refine wpR_pure (by rfl) fun Kq hq => ?_
        refine wpQuiet_run (by rfl) (.agg cV) ?_ (wpQuiet_nil ?_)
        · rintro _ ⟨d, rfl⟩
          exact exec_load_row 40 (.tmp 16) rfl Tb rfl 40 cV (0, 0) _ (cell_to HVC.out (hg d)) Tryd.underlying40 rfl (by rw [HSV.out]; kernel_rfl)
        simp only [Act.put, List.setIfInBounds_toArray, List.set_cons_zero, List.set_cons_succ]
        refine hq _ ?_
        clear hq Kq
        repeat (refine wpR_pure (by rfl) fun Kq hq => ?_; go_big_quiet_step (fail); refine wpQuiet_nil (hq _ ?_); clear hq Kq)
        refine wpR_busy (by rfl) (by rfl) (fun d hG K Q hK => ?_) (fun v7 d hG hp Kr hr => ?_)
        · go_simp
          go_at_call 30
          refine (HG2.out (g d) (HPS.out.to (hg d))).mono ?_
          rintro e W1 ⟨rfl, hb1⟩
          go_simp
          exact hK _ _ hb1 (rfl)
        obtain rfl : v7 = Value.bool q3 := hp
        (try clear hp); clear hG
        simp only [Act.put, List.setIfInBounds_toArray, List.set_cons_zero, List.set_cons_succ]
        refine hr _ ?_
        clear hr Kr
        repeat (refine wpR_pure (by rfl) fun Kq hq => ?_; go_big_quiet_step (fail); refine wpQuiet_nil (hq _ ?_); clear hq Kq)
        refine wpR_pure (by rfl) fun Kq hq => ?_
        refine wpQuiet_run (by rfl) (.agg cO) ?_ (wpQuiet_nil ?_)
        · rintro _ ⟨d, rfl⟩
          exact exec_load_row 40 (.tmp 9) rfl Ob rfl 40 cO (0, 0) _ (cell_to HVBa.out.od (hg d)) Tryd.underlying40 rfl (by rw [HSO.out]; kernel_rfl)
        simp only [Act.put, List.setIfInBounds_toArray, List.set_cons_zero, List.set_cons_succ]
        refine hq _ ?_
        clear hq Kq
        refine wpR_pure (by rfl) fun Kq hq => ?_
        refine wpQuiet_run (by rfl) (.agg cV) ?_ (wpQuiet_nil ?_)
        · rintro _ ⟨d, rfl⟩
          exact exec_load_row 40 (.tmp 16) rfl Tb rfl 40 cV (0, 0) _ (cell_to HVC.out (hg d)) Tryd.underlying40 rfl (by rw [HSV.out]; kernel_rfl)
        simp only [Act.put, List.setIfInBounds_toArray, List.set_cons_zero, List.set_cons_succ]
        refine hq _ ?_
        clear hq Kq
        repeat (refine wpR_pure (by rfl) fun Kq hq => ?_; go_big_quiet_step (fail); refine wpQuiet_nil (hq _ ?_); clear hq Kq)
        refine wpR_busy (by rfl) (by rfl) (fun d hG K Q hK => ?_) (fun v13 d hG hp Kr hr => ?_)
        · go_simp
          go_at_call 29
          refine (HG3.out (g d) (HPS.out.to (hg d)) (HVBa.out.k.to (hg d))).mono ?_
          rintro e W1 ⟨rfl, hb1⟩
          go_simp
          exact hK _ _ hb1 (rfl)
        obtain rfl : v13 = Value.bool q4 := hp
        (try clear hp); clear hG
        simp only [Act.put, List.setIfInBounds_toArray, List.set_cons_zero, List.set_cons_succ]
        refine hr _ ?_
        clear hr Kr
        refine wpR_pure (by rfl) fun Kq hq => ?_
        refine wpQuiet_run (by rfl) (.agg cO) ?_ (wpQuiet_nil ?_)
        · rintro _ ⟨d, rfl⟩
          exact exec_load_row 40 (.tmp 9) rfl Ob rfl 40 cO (0, 0) _ (cell_to HVBa.out.od (hg d)) Tryd.underlying40 rfl (by rw [HSO.out]; kernel_rfl)
        simp only [Act.put, List.setIfInBounds_toArray, List.set_cons_zero, List.set_cons_succ]
        refine hq _ ?_
        clear hq Kq
        refine wpR_pure (by rfl) fun Kq hq => ?_
        refine wpQuiet_run (by rfl) (.agg cV) ?_ (wpQuiet_nil ?_)
        · rintro _ ⟨d, rfl⟩
          exact exec_load_row 40 (.tmp 16) rfl Tb rfl 40 cV (0, 0) _ (cell_to HVC.out (hg d)) Tryd.underlying40 rfl (by rw [HSV.out]; kernel_rfl)
        simp only [Act.put, List.setIfInBounds_toArray, List.set_cons_zero, List.set_cons_succ]
        refine hq _ ?_
        clear hq Kq
        repeat (refine wpR_pure (by rfl) fun Kq hq => ?_; go_big_quiet_step (fail); refine wpQuiet_nil (hq _ ?_); clear hq Kq)
        refine wpR_busy (by rfl) (by rfl) (fun d hG K Q hK => ?_) (fun v17 d hG hp Kr hr => ?_)
        · go_simp
          go_at_call 30
          refine (HG4.out (g d) (HPS.out.to (hg d))).mono ?_
          rintro e W1 ⟨rfl, hb1⟩
          go_simp
          exact hK _ _ hb1 (rfl)
        obtain rfl : v17 = Value.bool q4 := hp
        (try clear hp); clear hG
        simp only [Act.put, List.setIfInBounds_toArray, List.set_cons_zero, List.set_cons_succ]
        refine hr _ ?_
        clear hr Kr
        repeat (refine wpR_pure (by rfl) fun Kq hq => ?_; go_big_quiet_step (fail); refine wpQuiet_nil (hq _ ?_); clear hq Kq)
        refine wpR_busy (by rfl) (by rfl) (fun d hG K Q hK => ?_) (fun v21 d hG hp Kr hr => ?_)
        · go_simp
          go_at_call 13
          refine (lives_any (g d) (HVBa.out.k.to (hg d))).mono ?_
          rintro e W1 ⟨rfl, hb1⟩
          go_simp
          exact hK _ _ hb1 (rfl)
        obtain rfl : v21 = Value.bool true := hp
        (try clear hp); clear hG
        simp only [Act.put, List.setIfInBounds_toArray, List.set_cons_zero, List.set_cons_succ]
        refine hr _ ?_
        clear hr Kr
        repeat (refine wpR_pure (by rfl) fun Kq hq => ?_; go_big_quiet_step (fail); refine wpQuiet_nil (hq _ ?_); clear hq Kq)
        refine wpR_end (by kernel_rfl) (fun d hG => ?_) _
        have HBz : Hid (Below w.heap.size w (g d)) := Lib.hid (HB6.out.trans ((HBa.out.trans ((hg d).mono HBa.out.size)).mono HB6.out.size))
        clear hG hg hgm
        generalize g d = wz at *
        clear g
        unfold Exit.then
        go_wp2_with fail
        go_ret
        exact ⟨rfl, HBz.out⟩
end Go.Proofs.YthcklfelofpffaaDoor
namespace Go.Proofs.YthcklfelofpffaaDoor
open Go.ChangeShapes Go.WideShapes Go.ChangeAt Go.RowKit Go.Deep
theorem exists_list {α : Type} {Q : Nat → α → Prop} (n : Nat) (h : ∀ i, i < n → ∃ a, Q i a) : ∃ l : List α, l.length = n ∧ ∀ i, (hi : i < l.length) → Q i l[i] := by
  induction n with
  | zero => exact ⟨[], rfl, fun i hi => by simp at hi⟩
  | succ n ih =>
    obtain ⟨l, hl, hq⟩ := ih fun i hi => h i (by omega)
    obtain ⟨a, ha⟩ := h n (by omega)
    refine ⟨l ++ [a], by simp [hl], fun i hi => ?_⟩
    by_cases hin : i < l.length
    · rw [List.getElem_append_left hin]; exact hq i hin
    · have : i = n := by simp at hi; omega
      subst this
      rw [List.getElem_append_right (by omega)]
      simpa using ha
theorem addr_plain {w : World} {a : Addr} {v : Value} (h : w.cell? (a.add 0) = some v) : ∃ b o, a = ⟨b, o, none⟩ := by
  obtain ⟨b, o, spot⟩ := a
  have hspot : spot = none := by simpa [Addr.add] using World.cell?_spot h
  subst hspot
  exact ⟨b, o, rfl⟩
theorem bulk_one {H : Type} (d : DataW H) : 1 ≤ Rows.uptoBulk d := by
  cases d with
  | lit l => cases l <;> simp [Rows.uptoBulk]
  | nil => simp [Rows.uptoBulk]
  | ptr d => simp [Rows.uptoBulk]
  | slice elems spare => simp [Rows.uptoBulk]
  | agg parts => simp [Rows.uptoBulk]
  | iface t d => simp [Rows.uptoBulk]
  | map entries => simp [Rows.uptoBulk]
  | held h => simp [Rows.uptoBulk]
theorem bulk_part {H : Type} {d : DataW H} {l : List (DataW H)} (h : d ∈ l) : Rows.uptoBulk d ≤ Rows.uptoBulkAll l := by
  induction l with
  | nil => cases h
  | cons x r ih =>
    simp only [Rows.uptoBulkAll]
    cases List.mem_cons.1 h with
    | inl e => subst e; omega
    | inr e => have := ih e; omega
theorem bulk_length {H : Type} (l : List (DataW H)) : l.length ≤ Rows.uptoBulkAll l := by
  induction l with
  | nil => simp [Rows.uptoBulkAll]
  | cons x r ih => have := bulk_one x; simp only [Rows.uptoBulkAll, List.length_cons]; omega
theorem bulk_slice {H : Type} (elems spare : List (DataW H)) : elems.length + spare.length + 1 ≤ Rows.uptoBulk (.slice elems spare) := by
  have h1 := bulk_length elems
  have h2 := bulk_length spare
  simp only [Rows.uptoBulk]
  omega
/-- THE BOUND. -/
theorem bulk_bound {H : Type} {l : List (DataW H)} (hk : Rows.uptoSmall H l = true) : Rows.uptoBulkAll l ≤ 1048576 := by
  have h := of_decide_eq_true hk
  exact h
variable {H : Type} {enc : TypeId × Value → H} {P : Program}
/-- A slice whose elements are of a kind that is known. -/
theorem open_sl {α : Type} [Rep α] {t e : TypeId} {W : World} {base : Nat} {v : Value} {d : DataW H} {ps : List MemPlace} (ht : P.underlying t = some (.slice e)) (hC : P.cellsOf e = Rep.size α)
    (hel : ∀ fuel cs x, DataW.trod enc P W 0 (fun _ => true) true fuel e cs = some x → ∃ a : α, Rep.R W (fun b => b < W.heap.size) cs a) (hsz : 0 < Rep.size α)
    (hval : Value.okWide P W .any base t v) (h : DataW.Trod enc P W 0 (fun _ => true) true t v d ps) :
    ∃ A c, ∃ l : List α, v = .slice A l.length c ∧ Sl W (fun b => b < W.heap.size) A c l ∧ l.length ≤ Rows.uptoBulk d := by
  obtain ⟨a, len, cap, rfl⟩ := okWide_slice ht hval
  obtain ⟨fuel, hf⟩ := h
  rcases open_slice ht hf with ⟨hcs, _⟩ | ⟨a', len', cap', m, n, D, Pl, hcs, _, hl, hm, hmm, hx, hi⟩
  · simp [Value.cells] at hcs
    obtain ⟨rfl, rfl, rfl⟩ := hcs
    exact ⟨none, 0, [], rfl, Sl.nil _ _ _ _ (by simp [maxLen]), by simp⟩
  · simp [Value.cells] at hcs
    obtain ⟨rfl, rfl, rfl⟩ := hcs
    simp only [if_true] at hmm
    subst hmm
    rw [hC] at hi
    have hQ : ∀ i, i < len → ∃ x : α, ∃ es, Rep.R W (fun b => b < W.heap.size) es x ∧ ∀ j u, es[j]? = some u → W.cell? (a'.add (i * Rep.size α + j)) = some u := by
      intro i hil
      obtain ⟨cs', hc, ht'⟩ := hi i (by omega)
      obtain ⟨x, hr⟩ := hel _ _ _ ht'
      obtain ⟨_, hlen, hat⟩ := World.cells?_some hc
      refine ⟨x, cs', hr, fun j u hu => ?_⟩
      have hj : j < Rep.size α := by rw [← hlen]; exact (List.getElem?_eq_some_iff.1 hu).1
      rw [← Go.Deep.add_add]
      exact (hat j hj).trans hu
    obtain ⟨l, hll, hq⟩ := exists_list len hQ
    refine ⟨some a', m, l, by rw [hll], ⟨by omega, hm, fun h0 => ?_⟩, ?_⟩
    · obtain ⟨es, hr, hc⟩ := hq 0 h0
      have hel0 := Rep.len hr
      obtain ⟨b, o, rfl⟩ := addr_plain (by simpa using hc 0 _ (List.getElem?_eq_getElem (by omega)))
      have hlt := World.block_lt_of_cell? W _ (hc 0 _ (List.getElem?_eq_getElem (by omega)))
      rw [addr_add] at hlt
      refine ⟨b, o, rfl, hlt, hlt, fun i hil => ?_⟩
      obtain ⟨es, hr, hc⟩ := hq i hil
      refine ⟨es, hr, fun j u hu => ?_⟩
      have := hc j u hu
      rwa [addr_add, ← Nat.add_assoc] at this
    · simp only [Prod.mk.injEq] at hx
      rw [hx.1, hll]
      have := bulk_slice ((List.range len).map D) ((List.range (m - len)).map fun j => D (len + j))
      simp only [List.length_map, List.length_range] at this
      omega
end Go.Proofs.YthcklfelofpffaaDoor
namespace Go.Proofs.YthcklfelofpffaaDoor
open Go.ChangeShapes Go.WideShapes Go.ChangeAt Go.RowKit Go.Deep
variable {H : Type} {enc : TypeId × Value → H} {P : Program}
theorem open_ints_sl {t e : TypeId} {W : World} {base : Nat} {v : Value} {d : DataW H} {ps : List MemPlace} (ht : P.underlying t = some (.slice e)) (he : P.underlying e = some (.int .i64)) (hc : P.cellsOf e = 1)
    (hval : Value.okWide P W .any base t v) (h : DataW.Trod enc P W 0 (fun _ => true) true t v d ps) : ∃ A c, ∃ l : List Int, v = .slice A l.length c ∧ Sl W (fun b => b < W.heap.size) A c l := by
  obtain ⟨a, len, cap, rfl⟩ := okWide_slice ht hval
  obtain ⟨fuel, hf⟩ := h
  rcases open_ints ht he hc hf with ⟨hcs, _⟩ | ⟨a', len', cap', zs, hcs, _, hl, hm, hz, _, hcell, hwf⟩
  · simp [Value.cells] at hcs
    obtain ⟨rfl, rfl, rfl⟩ := hcs
    exact ⟨none, 0, [], rfl, Sl.nil _ _ _ _ (by simp [maxLen])⟩
  · simp [Value.cells] at hcs
    obtain ⟨rfl, rfl, rfl⟩ := hcs
    have hz' : zs.length = cap := by simpa using hz
    have hlt : (zs.take len).length = len := by rw [List.length_take]; omega
    refine ⟨some a', cap, zs.take len, by rw [hlt], by rw [hlt]; exact hl, hm, fun h0 => ?_⟩
    obtain ⟨b, o, rfl, hat⟩ := Go.ints_at hcell (by omega)
    refine ⟨b, o, rfl, World.block_lt_of_cell? W _ (hat 0 (by omega)), World.block_lt_of_cell? W _ (hat 0 (by omega)), fun i hi => ?_⟩
    rw [hlt] at hi
    have e : zs.getD i 0 = (zs.take len)[i]'(by omega) := by
      rw [List.getElem_take, List.getD_eq_getElem?_getD, List.getElem?_eq_getElem (by omega)]; rfl
    refine ⟨[.int .i64 (zs.getD i 0)], ⟨by rw [e], ?_⟩, fun j u hu => ?_⟩
    · exact i64_wf (hwf _ (List.mem_of_mem_take (List.getElem_mem (by omega))))
    · have hj : j = 0 := by
        rcases j with _ | j
        · rfl
        · simp at hu
      subst hj
      simp only [List.getElem?_cons_zero, Option.some.injEq] at hu
      subst hu
      have := hat i (by omega)
      show W.cell? ⟨b, o + i * 1 + 0, none⟩ = _
      rw [Nat.mul_one, Nat.add_zero]; exact this
theorem rep_ints {t e : TypeId} {W : World} (ht : P.underlying t = some (.slice e)) (he : P.underlying e = some (.int .i64)) (hc : P.cellsOf e = 1) (fuel : Nat) (cs : List Value) (x : DataW H × List MemPlace) (hf : DataW.trod enc P W 0 (fun _ => true) true fuel t cs = some x) : ∃ l : List Int, Rep.R W (fun b => b < W.heap.size) cs l := by
  rcases open_ints ht he hc hf with ⟨hcs, _⟩ | ⟨a', len, cap, zs, hcs, _, hl, hm, hz, _, hcell, hwf⟩
  · exact ⟨[], none, 0, hcs, Sl.nil _ _ _ _ (by simp [maxLen]), by simp⟩
  · have hz' : zs.length = cap := by simpa using hz
    have hlt : (zs.take len).length = len := by rw [List.length_take]; omega
    have hm' := hm
    unfold maxLen at hm'
    refine ⟨zs.take len, some a', cap, by rw [hlt]; exact hcs, ⟨by rw [hlt]; exact hl, hm, fun h0 => ?_⟩, by rw [hlt]; omega⟩
    obtain ⟨b, o, rfl, hat⟩ := Go.ints_at hcell (by omega)
    refine ⟨b, o, rfl, World.block_lt_of_cell? W _ (hat 0 (by omega)), World.block_lt_of_cell? W _ (hat 0 (by omega)), fun i hi => ?_⟩
    rw [hlt] at hi
    have e : zs.getD i 0 = (zs.take len)[i]'(by omega) := by
      rw [List.getElem_take, List.getD_eq_getElem?_getD, List.getElem?_eq_getElem (by omega)]; rfl
    refine ⟨[.int .i64 (zs.getD i 0)], ⟨by rw [e], i64_wf (hwf _ (List.mem_of_mem_take (List.getElem_mem (by omega))))⟩, fun j u hu => ?_⟩
    have hj : j = 0 := by
      rcases j with _ | j
      · rfl
      · simp at hu
    subst hj
    simp only [List.getElem?_cons_zero, Option.some.injEq] at hu
    subst hu
    have := hat i (by omega)
    show W.cell? ⟨b, o + i * 1 + 0, none⟩ = _
    rw [Nat.mul_one, Nat.add_zero]; exact this
theorem open_intss {t e ei : TypeId} {W : World} {base : Nat} {v : Value} {d : DataW H} {ps : List MemPlace} (ht : P.underlying t = some (.slice e)) (he : P.underlying e = some (.slice ei)) (hei : P.underlying ei = some (.int .i64)) (hce : P.cellsOf e = 1) (hc : P.cellsOf ei = 1)
    (hval : Value.okWide P W .any base t v) (h : DataW.Trod enc P W 0 (fun _ => true) true t v d ps) : ∃ A c, ∃ l : List (List Int), v = .slice A l.length c ∧ Sl W (fun b => b < W.heap.size) A c l := by
  obtain ⟨A, c, l, h1, h2, _⟩ := open_sl (α := List Int) ht hce (fun fuel cs x hx => rep_ints he hei hc fuel cs x hx) (by decide) hval h
  exact ⟨A, c, l, h1, h2⟩
end Go.Proofs.YthcklfelofpffaaDoor
namespace Go.Proofs.YthcklfelofpffaaDoor
open Go.ChangeShapes Go.WideShapes Go.ChangeAt Go.RowKit Go.Deep
section
variable {H : Type} {enc : TypeId × Value → H} {P : Program}
/-- The same, the elements' own sizes counted. -/
theorem bulk_sum {H : Type} {α : Type} (m : α → Nat) (D : Nat → DataW H) : ∀ (l : List α) (s : Nat), (∀ i (h : i < l.length), m l[i] ≤ Rows.uptoBulk (D (s + i))) → (l.map m).sum ≤ Rows.uptoBulkAll ((List.range' s l.length).map D)
  | [], _, _ => by simp
  | a :: l, s, h => by
    have h0 := h 0 (by simp)
    have ih := bulk_sum m D l (s + 1) (fun i hi => by have := h (i + 1) (by simpa using hi); simp only [List.getElem_cons_succ] at this; rwa [show s + (i + 1) = s + 1 + i by omega] at this)
    rw [List.map_cons, List.sum_cons, List.length_cons, List.range'_succ, List.map_cons]
    simp only [Rows.uptoBulkAll]
    simp only [List.getElem_cons_zero, Nat.add_zero] at h0
    omega
theorem open_slm {α : Type} [Rep α] (m : α → Nat) {t e : TypeId} {W : World} {d : DataW H} {ps : List MemPlace} {a : Option Addr} {len cap : Nat} (ht : P.underlying t = some (.slice e)) (hC : P.cellsOf e = Rep.size α)
    (hel : ∀ fuel cs x, DataW.trod enc P W 0 (fun _ => true) true fuel e cs = some x → ∃ a : α, Rep.R W (fun b => b < W.heap.size) cs a ∧ m a ≤ Rows.uptoBulk x.1) (hsz : 0 < Rep.size α)
    {fuel : Nat} (hf : DataW.trod enc P W 0 (fun _ => true) true fuel t [.slice a len cap] = some (d, ps)) :
    ∃ l : List α, l.length = len ∧ Sl W (fun b => b < W.heap.size) a cap l ∧ l.length + 1 ≤ Rows.uptoBulk d ∧ (l.map m).sum ≤ Rows.uptoBulk d := by
  rcases open_slice ht hf with ⟨hcs, _⟩ | ⟨a', len', cap', m', n, D, Pl, hcs, _, hl, hm, hmm, hx, hi⟩
  · simp at hcs
    obtain ⟨rfl, rfl, rfl⟩ := hcs
    have := bulk_one d
    exact ⟨[], rfl, Sl.nil _ _ _ _ (by simp [maxLen]), by simp; omega, by simp⟩
  · simp at hcs
    obtain ⟨rfl, rfl, rfl⟩ := hcs
    simp only [if_true] at hmm
    subst hmm
    rw [hC] at hi
    have hQ : ∀ i, i < len → ∃ x : α, m x ≤ Rows.uptoBulk (D i) ∧ ∃ es, Rep.R W (fun b => b < W.heap.size) es x ∧ ∀ j u, es[j]? = some u → W.cell? (a'.add (i * Rep.size α + j)) = some u := by
      intro i hil
      obtain ⟨cs', hc, ht'⟩ := hi i (by omega)
      obtain ⟨x, hr, hmx⟩ := hel _ _ _ ht'
      obtain ⟨_, hlen, hat⟩ := World.cells?_some hc
      refine ⟨x, hmx, cs', hr, fun j u hu => ?_⟩
      have hj : j < Rep.size α := by rw [← hlen]; exact (List.getElem?_eq_some_iff.1 hu).1
      rw [← Go.Deep.add_add]
      exact (hat j hj).trans hu
    obtain ⟨l, hll, hq⟩ := exists_list len hQ
    refine ⟨l, hll, ⟨by omega, hm, fun h0 => ?_⟩, ?_, ?_⟩
    · obtain ⟨_, es, hr, hc⟩ := hq 0 h0
      have hel0 := Rep.len hr
      obtain ⟨b, o, rfl⟩ := addr_plain (by simpa using hc 0 _ (List.getElem?_eq_getElem (by omega)))
      have hlt := World.block_lt_of_cell? W _ (hc 0 _ (List.getElem?_eq_getElem (by omega)))
      rw [addr_add] at hlt
      refine ⟨b, o, rfl, hlt, hlt, fun i hil => ?_⟩
      obtain ⟨_, es, hr, hc⟩ := hq i hil
      refine ⟨es, hr, fun j u hu => ?_⟩
      have := hc j u hu
      rwa [addr_add, ← Nat.add_assoc] at this
    · simp only [Prod.mk.injEq] at hx
      rw [hx.1, hll]
      have := bulk_slice ((List.range len).map D) ((List.range (m' - len)).map fun j => D (len + j))
      simp only [List.length_map, List.length_range] at this
      omega
    · simp only [Prod.mk.injEq] at hx
      rw [hx.1]
      have h1 := bulk_sum m D l 0 (fun i hi => by rw [Nat.zero_add]; exact (hq i hi).1)
      rw [hll, ← List.range_eq_range'] at h1
      simp only [Rows.uptoBulk]
      omega
theorem bulk_str {H : Type} {s : ByteArray} {n : Nat} (h : Rows.uptoBulk (.lit (.string s.data.toList) : DataW H) ≤ n) : s.size ≤ n := by
  simp only [Rows.uptoBulk] at h
  have : s.data.toList.length = s.size := by simp
  omega
/-- A struct's fields, each of one cell. -/
theorem el_fields {W : World} {t : TypeId} {fs : Array Field} {fuel : Nat} {cs : List Value} {x : DataW H × List MemPlace} (he : P.underlying t = some (.struct fs)) (hone : oneCellFields P fs = true) (hC : P.cellsOf t = fs.size)
    (h : DataW.trod enc P W 0 (fun _ => true) true fuel t cs = some x) :
    ∃ (ys : List (DataW H × List MemPlace)) (n : Nat), x.1 = .agg (ys.map (·.1)) ∧ cs.length = fs.size ∧ ys.length = fs.size ∧ ∀ (i : Nat) (f : Field), fs[i]? = some f → ∃ u y, cs[i]? = some u ∧ ys[i]? = some y ∧ DataW.trod enc P W 0 (fun _ => true) true n f.type [u] = some y := by
  obtain ⟨ys, n, _, hx, hlen, hyl, hf⟩ := DataW.trod_struct he h
  rw [hC] at hlen
  refine ⟨ys, n, by rw [hx], hlen, hyl, fun i f hi => ?_⟩
  have hlt : i < fs.size := (Array.getElem?_eq_some_iff.1 hi).1
  obtain ⟨ho, hk⟩ := hone_of hone i f hi
  have h1 := hf i f hi
  rw [ho, hk] at h1
  have hone' : (cs.drop i).take 1 = [cs[i]'(by omega)] := by
    rw [List.drop_eq_getElem_cons (by omega)]; rfl
  rw [hone'] at h1
  exact ⟨_, ys[i]'(by omega), List.getElem?_eq_getElem (by omega), List.getElem?_eq_getElem (by omega), by rw [h1, List.getElem?_eq_getElem (by omega)]⟩
theorem cells_strs : Tryd.prog.cellsOf 22 = 1 := by kernel_rfl
theorem str_lit {W : World} {fuel : Nat} {cs : List Value} {x : DataW H × List MemPlace} (h : DataW.trod enc Tryd.prog W 0 (fun _ => true) true fuel 9 cs = some x) : ∃ s : ByteArray, cs = [.string s] ∧ s.size ≤ Rows.uptoBulk x.1 := by
  obtain ⟨s, e, hx, _⟩ := DataW.trod_string Tryd.underlying9 h
  exact ⟨s, e, by rw [hx]; exact bulk_str (Nat.le_refl _)⟩
theorem el_strs {W : World} {fuel : Nat} {cs : List Value} {x : DataW H × List MemPlace} (h : DataW.trod enc Tryd.prog W 0 (fun _ => true) true fuel 22 cs = some x) : ∃ A c, ∃ l : List ByteArray, cs = [.slice A l.length c] ∧ Sl W (fun b => b < W.heap.size) A c l ∧ l.length + 1 ≤ Rows.uptoBulk x.1 ∧ (l.map ByteArray.size).sum ≤ Rows.uptoBulk x.1 := by
  have hs : ∃ a len cap, cs = [.slice a len cap] := by
    rcases open_slice Tryd.underlying22 h with ⟨hc, _⟩ | ⟨a, len, cap, m, n, D, Pl, hc, _⟩
    · exact ⟨_, _, _, hc⟩
    · exact ⟨_, _, _, hc⟩
  obtain ⟨a, len, cap, rfl⟩ := hs
  obtain ⟨d, ps⟩ := x
  obtain ⟨l, rfl, hsl, hb, hsum⟩ := open_slm ByteArray.size Tryd.underlying22 (by kernel_rfl) (fun _ _ _ h => (by obtain ⟨s, h1, h2⟩ := str_lit h; exact ⟨s, h1, h2⟩)) (by decide) h
  exact ⟨a, cap, l, rfl, hsl, hb, hsum⟩
theorem texts_bound : ∀ (l : List ByteArray), (l.flatMap textB).length ≤ (l.map ByteArray.size).sum + 11 * l.length
  | [] => by simp
  | x :: l => by
    have h1 := textB_len x
    have h2 := texts_bound l
    rw [List.flatMap_cons, List.length_append, List.map_cons, List.sum_cons, List.length_cons]; omega
set_option maxRecDepth 100000 in
/-- A sheet by value. -/
theorem open_sheet {W : World} {base : Nat} {v : Value} {d : DataW H} {ps : List MemPlace} (hval : Value.okWide Tryd.prog W .any base 24 v) (h : DataW.Trod enc Tryd.prog W 0 (fun _ => true) true 24 v d ps) (hb : Rows.uptoBulk d ≤ 1048576) :
    ∃ (s : Sheet) (A B : Option Addr) (c e : Nat), v = .agg #[.string s.label, .slice A s.body.length c, .slice B s.notes.length e] ∧ Sl W (fun b => b < W.heap.size) A c s.body ∧ Sl W (fun b => b < W.heap.size) B e s.notes ∧ ∀ branch, (sheetB branch s).length ≤ 1073740000 := by
  obtain ⟨cs, rfl, hsz⟩ := okWide_struct Tryd.underlying24 hval
  obtain ⟨fuel, hf⟩ := h
  obtain ⟨ys, n, hd, hlen, hyl, hfs⟩ := el_fields Tryd.underlying24 (by kernel_rfl) (by kernel_rfl) hf
  obtain ⟨u0, y0, c0, g0, h0⟩ := hfs 0 _ rfl
  obtain ⟨u1, y1, c1, g1, h1⟩ := hfs 1 _ rfl
  obtain ⟨u2, y2, c2, g2, h2⟩ := hfs 2 _ rfl
  obtain ⟨lab, e0, z0⟩ := str_lit h0
  obtain ⟨A, c, a, e1, s1, b1, t1⟩ := el_strs h1
  obtain ⟨B, e, b, e2, s2, b2, t2⟩ := el_strs h2
  simp only [List.cons.injEq, and_true] at e0 e1 e2
  subst e0 e1 e2
  have hbb : Rows.uptoBulk y0.1 + Rows.uptoBulk y1.1 + Rows.uptoBulk y2.1 ≤ Rows.uptoBulk d := by
    have hd' : d = .agg (ys.map (·.1)) := hd
    rw [hd']
    have hyy : ys = [y0, y1, y2] := by
      have hyl2 : ys.length = 3 := hyl
      match ys, hyl2, g0, g1, g2 with
      | [p, q, r], _, g0, g1, g2 =>
        simp only [List.getElem?_cons_zero, List.getElem?_cons_succ, Option.some.injEq] at g0 g1 g2
        rw [g0, g1, g2]
    rw [hyy]
    simp only [List.map_cons, List.map_nil, Rows.uptoBulk, Rows.uptoBulkAll]; omega
  refine ⟨⟨lab, a, b⟩, A, B, c, e, ?_, s1, s2, fun branch => ?_⟩
  · congr 1
    apply Array.toList_inj.1
    have hcl : cs.toList.length = 3 := hlen
    have c0' : cs.toList[0]? = _ := c0
    have c1' : cs.toList[1]? = _ := c1
    have c2' : cs.toList[2]? = _ := c2
    match cs.toList, hcl, c0', c1', c2' with
    | [p, q, r], _, c0, c1, c2 =>
      simp only [List.getElem?_cons_zero, List.getElem?_cons_succ, Option.some.injEq] at c0 c1 c2
      rw [c0, c1, c2]
  · have q0 := textB_len lab
    have q1 := texts_bound a
    have q2 := texts_bound b
    have q3 := uintB_length a.length
    have q4 := uintB_length b.length
    have q5 := uintB_length (zig branch)
    unfold sheetB textsB intB
    simp only [List.length_append]
    omega
end
end Go.Proofs.YthcklfelofpffaaDoor
namespace Go.Proofs.YthcklfelofpffaaDoor
open Go.ChangeShapes Go.WideShapes Go.ChangeAt Go.RowKit Go.Deep
section
variable {H : Type} {enc : TypeId × Value → H}
theorem u8_enc {n : Int} (h : (Lit.int .u8 n).wf = true) : ∃ b : UInt8, Value.int .u8 n = encB b := by
  obtain ⟨h0, h1⟩ := bounds_u8 h
  refine ⟨UInt8.ofNat n.toNat, ?_⟩
  unfold encB
  have : (UInt8.ofNat n.toNat).toNat = n.toNat := by
    rw [UInt8.toNat_ofNat']; omega
  rw [this, Int.toNat_of_nonneg h0]
theorem cells_i64 : Tryd.prog.cellsOf 3 = 1 := by kernel_rfl
theorem cells_hash : Tryd.prog.cellsOf 29 = 32 := by kernel_rfl
theorem cells_u8 : Tryd.prog.cellsOf 5 = 1 := by kernel_rfl
/-- 32 cells of bytes. -/
theorem el_hash {W : World} {fuel : Nat} {cs : List Value} {x : DataW H × List MemPlace} (h : DataW.trod enc Tryd.prog W 0 (fun _ => true) true fuel 29 cs = some x) : ∃ l : List UInt8, cs = l.map encB ∧ l.length = 32 := by
  obtain ⟨xs, m, _, _, hl, hxl, hi⟩ := DataW.trod_array Tryd.underlying29 h
  rw [cells_hash] at hl
  rw [cells_u8] at hi
  have hb : ∀ i, i < 32 → ∃ b : UInt8, cs[i]? = some (encB b) := fun i hi32 => by
    have h1 := hi i hi32
    rw [Nat.mul_one, List.getElem?_eq_getElem (by omega)] at h1
    obtain ⟨n, e, _, hw⟩ := DataW.trod_int Tryd.underlying5 h1
    obtain ⟨b, hb⟩ := u8_enc hw
    refine ⟨b, ?_⟩
    have h2 := congrArg (fun l : List Value => l[0]?) e
    simp only [List.getElem?_take, List.getElem?_drop, List.getElem?_cons_zero] at h2
    simpa [hb] using h2
  obtain ⟨l, hll, hq⟩ := exists_list (Q := fun i b => cs[i]? = some (encB b)) 32 hb
  refine ⟨l, ?_, hll⟩
  apply List.ext_getElem?
  intro i
  by_cases h32 : i < 32
  · rw [hq i (by omega), List.getElem?_map, List.getElem?_eq_getElem (by omega)]; rfl
  · rw [List.getElem?_eq_none (by omega), List.getElem?_eq_none (by rw [List.length_map]; omega)]
set_option maxRecDepth 100000 in
theorem open_hashes {W : World} {base : Nat} {v : Value} {d : DataW H} {ps : List MemPlace} (hval : Value.okWide Tryd.prog W .any base 34 v) (h : DataW.Trod enc Tryd.prog W 0 (fun _ => true) true 34 v d ps) (hb : Rows.uptoBulk d ≤ 1048576) :
    ∃ A c, ∃ l : List H32, v = .slice A l.length c ∧ Sl W (fun b => b < W.heap.size) A c l ∧ l.length ≤ 1048576 := by
  obtain ⟨A, c, l, h1, h2, h3⟩ := open_sl (α := H32) Tryd.underlying34 cells_hash (fun fuel cs x hx => by
    obtain ⟨l, h1, h2⟩ := el_hash hx
    exact ⟨⟨l⟩, h1, h2⟩) (by decide) hval h
  exact ⟨A, c, l, h1, h2, by omega⟩
set_option maxRecDepth 100000 in
theorem open_head {W : World} {base : Nat} {v : Value} {d : DataW H} {ps : List MemPlace} (hval : Value.okWide Tryd.prog W .any base 40 v) (h : DataW.Trod enc Tryd.prog W 0 (fun _ => true) true 40 v d ps) :
    ∃ (n : Int) (r : List UInt8), v = headV n r ∧ r.length = 32 ∧ I64 n := by
  obtain ⟨cs, rfl, hsz⟩ := okWide_struct Tryd.underlying40 hval
  obtain ⟨fuel, hf⟩ := h
  obtain ⟨y0, y1, n, _, hl, h0, h1⟩ := trod_struct2 Tryd.underlying40 hf
  dsimp only at h0 h1
  obtain ⟨z, e0, _, hw⟩ := DataW.trod_int Tryd.underlying3 h0
  obtain ⟨r, e1, hr⟩ := el_hash h1
  refine ⟨z, r, ?_, hr, i64_wf hw⟩
  unfold headV headL
  congr 1
  apply Array.toList_inj.1
  rw [cells_i64] at e0
  rw [cells_hash] at e1
  have hl' : cs.toList.length = 33 := hl
  simp only [Value.cells] at e0 e1
  generalize cs.toList = l at *
  match l, hl' with
  | u :: t, hl' =>
    simp only [List.drop_zero, List.take_succ_cons, List.take_zero, List.cons.injEq, and_true] at e0
    simp only [List.drop_succ_cons, List.drop_zero] at e1
    rw [List.take_of_length_le (by simp at hl'; omega)] at e1
    rw [e0, e1]
end
end Go.Proofs.YthcklfelofpffaaDoor
namespace Go.Proofs.YthcklfelofpffaaDoor.rowCertifyVerifies
open Go.ChangeShapes Go.WideShapes Go.ChangeAt Go.RowKit
set_option maxRecDepth 100000 in
theorem contract (H : Type) (enc : TypeId × Value → H) (W : World) (base : Nat) (args : Array Value) (ds gs : List (DataW H)) (before : List MemPlace)
    (hval : ∀ (j : Nat) t v, Tryd.f7.params[j]? = some t → args[j]? = some v → Value.okWide Tryd.prog W .any base t v)
    (hW : DataW.Whole enc Tryd.prog Tryd.f7.params.toList Rows.certifyVerifiesSpec.vars false W args.toList ds gs before) (hk : Rows.uptoSmall H (ds ++ gs) = true) (hL : laidMetH Tryd.prog laidL W) :
    Calls Tryd.prog 7 args W fun e W' => ∃ v, e = .returned v ∧ Rows.certifyVerifiesSpec.post enc Tryd.prog Tryd.f7 false true false false W args v W' := by
  have hW' := hW
  obtain ⟨p, q, hA0, hV, rfl, hfz, hnd⟩ := hW
  have hA : DataW.TrodAll enc Tryd.prog W 0 (fun _ => true) true Tryd.f7.params.toList args.toList ds p := hA0
  rw [Tryd.params7] at hA hval
  obtain ⟨v0, vs0, d0, ds0, p0, q0, hargs, rfl, rfl, h0, r0⟩ := trodAll_cons hA
  obtain ⟨v1, vs1, d1, ds1, p1, q1, rfl, rfl, rfl, h1, r1⟩ := trodAll_cons r0
  obtain ⟨v2, vs2, d2, ds2, p2, q2, rfl, rfl, rfl, h2, r2⟩ := trodAll_cons r1
  obtain ⟨v3, vs3, d3, ds3, p3, q3, rfl, rfl, rfl, h3, r3⟩ := trodAll_cons r2
  obtain ⟨v4, vs4, d4, ds4, p4, q4, rfl, rfl, rfl, h4, r4⟩ := trodAll_cons r3
  obtain ⟨v5, vs5, d5, ds5, p5, q5, rfl, rfl, rfl, h5, r5⟩ := trodAll_cons r4
  obtain ⟨v6, vs6, d6, ds6, p6, q6, rfl, rfl, rfl, h6, r6⟩ := trodAll_cons r5
  obtain ⟨rfl, rfl, rfl⟩ := trodAll_nil r6
  obtain rfl : args = #[v0, v1, v2, v3, v4, v5, v6] := by cases args; simp_all
  obtain ⟨rfl, rfl⟩ := trodVars_none hV
  have hy0 : Rows.uptoBulk d0 ≤ 1048576 := Nat.le_trans (bulk_part (by simp)) (bulk_bound hk)
  have hy1 : Rows.uptoBulk d1 ≤ 1048576 := Nat.le_trans (bulk_part (by simp)) (bulk_bound hk)
  have hy2 : Rows.uptoBulk d2 ≤ 1048576 := Nat.le_trans (bulk_part (by simp)) (bulk_bound hk)
  have hy3 : Rows.uptoBulk d3 ≤ 1048576 := Nat.le_trans (bulk_part (by simp)) (bulk_bound hk)
  have hy4 : Rows.uptoBulk d4 ≤ 1048576 := Nat.le_trans (bulk_part (by simp)) (bulk_bound hk)
  have hy5 : Rows.uptoBulk d5 ≤ 1048576 := Nat.le_trans (bulk_part (by simp)) (bulk_bound hk)
  have hy6 : Rows.uptoBulk d6 ≤ 1048576 := Nat.le_trans (bulk_part (by simp)) (bulk_bound hk)
  obtain ⟨A0, c0, l0, rfl, hl0⟩ := open_intss Tryd.underlying33 Tryd.underlying25 Tryd.underlying3 cells_ints cells_int (hval 0 33 v0 rfl rfl) h0
  obtain ⟨hn1, hr1, rfl, hh1, hi1⟩ := open_head (hval 1 40 v1 rfl rfl) h1
  obtain ⟨hn2, hr2, rfl, hh2, hi2⟩ := open_head (hval 2 40 v2 rfl rfl) h2
  obtain ⟨s3, A3, B3, c3, e3, rfl, ha3, hb3, hz3⟩ := open_sheet (hval 3 24 v3 rfl rfl) h3 hy3
  obtain ⟨n4, rfl, rfl, rfl, wn4⟩ := open_int Tryd.underlying3 (hval 4 3 v4 rfl rfl) h4
  obtain ⟨A5, c5, l5, rfl, hl5, hk5⟩ := open_hashes (hval 5 34 v5 rfl rfl) h5 hy5
  obtain ⟨n6, rfl, rfl, rfl, wn6⟩ := open_int Tryd.underlying3 (hval 6 3 v6 rfl rfl) h6
  refine (verifiesLaw_any A0 c0 l0 hn1 hr1 hn2 hr2 s3 A3 B3 c3 e3 n4 A5 c5 l5 n6 W hl0 hh1 hi1 hh2 hi2 ha3 hb3 hz3 (i64_wf wn4) hl5 hk5 (i64_wf wn6) (tabs_of hL)).mono fun e W' ⟨he, hb⟩ => ?_
  subst he
  exact ⟨_, rfl, row_close laidOut Tryd.underlying4 (by kernel_rfl) (by kernel_rfl) rfl hW' rfl hb⟩

theorem laid_met (os : Os) : laidMet Tryd.prog Rows.certifyVerifiesUptoRow.laid ((laidWorld os).forCall (fun _ _ => 0) ⟨#[], #[.slice none 0 0, headV 0 zer32, headV 0 zer32, .agg #[.string ⟨#[]⟩, .slice none 0 0, .slice none 0 0], .int .i64 0, .slice none 0 0, .int .i64 0], []⟩).memory :=
  laidMet_of_run' 8 (by kernel_rfl) (by kernel_rfl)
theorem reads (os : Os) {H : Type} (enc : TypeId × Value → H) : ∃ places, DataW.whole enc Tryd.prog ((laidWorld os).forCall (fun _ _ => 0) ⟨#[], #[.slice none 0 0, headV 0 zer32, headV 0 zer32, .agg #[.string ⟨#[]⟩, .slice none 0 0, .slice none 0 0], .int .i64 0, .slice none 0 0, .int .i64 0], []⟩).memory Tryd.f7.params.toList Rows.certifyVerifiesSpec.vars false (#[.slice none 0 0, headV 0 zer32, headV 0 zer32, .agg #[.string ⟨#[]⟩, .slice none 0 0, .slice none 0 0], .int .i64 0, .slice none 0 0, .int .i64 0] : Array Value).toList 8 = some ([.nil, .agg [.lit (.int .i64 0), .agg (List.replicate 32 (.lit (.int .u8 0)))], .agg [.lit (.int .i64 0), .agg (List.replicate 32 (.lit (.int .u8 0)))], .agg [.lit (.string []), .nil, .nil], .lit (.int .i64 0), .nil, .lit (.int .i64 0)], [], places) :=
  ⟨[], by kernel_rfl⟩
set_option maxRecDepth 100000 in
theorem lifted (os : Os) (started : os.Started) (H : Type) (enc : TypeId × Value → H) (F : Stop.Interp) :
    ReturnsInHanded {} Tryd.checked os 7 .any ((Rows.OpenSpec.upto Rows.certifyVerifiesSpec).preRow enc Tryd.prog Tryd.f7 Rows.certifyVerifiesUptoRow.domain false Rows.certifyVerifiesUptoRow.laid) (((Rows.OpenSpec.upto Rows.certifyVerifiesSpec).at F).post enc Tryd.prog Tryd.f7 false true false false) := by
  obtain ⟨places, hx⟩ := reads os enc
  refine returnsInHanded_of_row (C := Tryd.checked) (s := (Rows.OpenSpec.upto Rows.certifyVerifiesSpec)) own started (by kernel_rfl) Tryd.func7
    (witness_row_at (enc := enc) (C := Tryd.checked) false (laidWorld os) #[.slice none 0 0, headV 0 zer32, headV 0 zer32, .agg #[.string ⟨#[]⟩, .slice none 0 0, .slice none 0 0], .int .i64 0, .slice none 0 0, .int .i64 0] rfl (by kernel_rfl) (by kernel_rfl) (by kernel_rfl)
      (OpenSpec.preRow_of_cond 8 hx (by kernel_rfl) (fun k hk => by cases hk; kernel_rfl) (by kernel_rfl) (laid_met os))) ?_
  intro W base args ds gs before hval hW _ hcond _ hL _ _
  exact contract H enc W base args ds gs before hval hW (hcond _ rfl) hL
theorem said : Rows.CertifyVerifiesUptoSaid :=
  OpenClaim.holds_of_cond 7 Tryd.f7 rfl rfl rfl rfl rfl rfl rfl ⟨rfl, rfl, rfl, rfl, rfl⟩ rfl rfl rfl rfl rfl (by kernel_rfl) Tryd.func7 (by kernel_rfl)
    (of_decide_eq_true (by kernel_rfl)) (by unfold Func.isWrapper; first | (rw [if_pos (by decide +kernel)]; kernel_rfl) | (rw [if_neg (by decide +kernel)]; exact ⟨rfl, rfl⟩))
    (fun os started H enc _ F => by rw [OpenClaim.pre_eq_preRow]; exact lifted os started H enc F)
theorem wants : Tryd.f7.params.all (fun t => !Tryd.prog.wantsStandIn t) = true := by kernel_rfl
theorem plain (f : FuncId) (fn : Func) (hf : Tryd.pinned.checked.prog.funcNamed "rollbook/rollbooklaw34.CertifyVerifies" = some f) (hfn : Tryd.pinned.checked.prog.funcs[f]? = some fn) :
    false = Tryd.pinned.checked.prog.looks [] ∧ ∀ (j : Nat) t, fn.params[j]? = some t → Tryd.pinned.checked.prog.wantsStandIn t = false := by
  obtain rfl : f = 7 := Option.some.inj ((show Tryd.prog.funcNamed "rollbook/rollbooklaw34.CertifyVerifies" = some 7 by kernel_rfl).symm.trans hf) |>.symm
  obtain rfl : fn = Tryd.f7 := (Option.some.inj (Tryd.func7.symm.trans hfn)).symm
  refine ⟨by kernel_rfl, fun j t ht => ?_⟩
  have := Array.all_eq_true_iff_forall_mem.1 wants t (Array.mem_of_getElem? ht)
  exact (by simpa using this : Tryd.prog.wantsStandIn t = false)
theorem card : Rows.CertifyVerifiesUptoCardSaid :=
  Claim7.holds_tied_plain_at .later [] _ _ _ _ said (fun _ h => by cases h) (by kernel_rfl) (fun _ h => by cases h) certifyVerifiesUpto_row_tie rfl ⟨rfl, rfl⟩ (by kernel_rfl) rfl plain (by kernel_rfl)
#print axioms card
end Go.Proofs.YthcklfelofpffaaDoor.rowCertifyVerifies
