/- CertifyAdds, walked. No condition but sizes. -/
import Derived.Test.YthcklfelofpffaaDoorCerA2
namespace Go.Proofs.YthcklfelofpffaaDoor
open Go.RowKit
theorem fields_of {P : Program} {t : TypeId} {fs : Array Field} (h : P.underlying t = some (.struct fs)) : P.underlying t = some (.struct (P.fieldsOf t)) := by
  have e : P.fieldsOf t = fs := by unfold Program.fieldsOf; rw [h]
  rw [e, h]
theorem eqFields_two {P : Program} {w : World} {d : Nat} {xs ys : Array Value} {f g : Field} {a b a' b' : Value} (f1 : f.name ≠ "_") (g1 : g.name ≠ "_") (p1 : (Go.part f.type xs f.offset).run P w = .ok a w) (p2 : (Go.part f.type ys f.offset).run P w = .ok a' w) (p3 : (Op.equalIn d f.type a a').run P w = .ok true w)
    (q1 : (Go.part g.type xs g.offset).run P w = .ok b w) (q2 : (Go.part g.type ys g.offset).run P w = .ok b' w) (q3 : (Op.equalIn d g.type b b').run P w = .ok true w) : (Op.eqFields d xs ys [f, g]).run P w = .ok true w := by
  simp only [Op.eqFields, f1, g1, ne_eq, not_false_eq_true, if_true, Sem.run_bind, p1, p2, p3, q1, q2, q3, Result.andThen_ok, Bool.not_true, Bool.false_eq_true, if_false, Sem.run_pure]
theorem run_part_root (n : Int) (r : List UInt8) (h : r.length = 32) (w : World) : (Go.part 29 (headL n r).toArray 1).run Tryd.prog w = .ok (hashV r) w := by
  have hc : Tryd.prog.cellsOf 29 = 32 := by kernel_rfl
  have hs : ∀ w, (sizeOf 29).run Tryd.prog w = .ok 32 w := fun w => by
    obtain ⟨i, hi, _⟩ := info_parts h_info
    rw [run_sizeOf w hi, hc]
  simp [Go.part, isAgg, run_underlying Tryd.underlying29, go_sem, hs]
  rw [show (headL n r).tail = r.map encB from rfl, List.take_of_length_le (by simp [h])]
  rfl
theorem run_part_size (n : Int) (r : List UInt8) (w : World) : (Go.part 3 (headL n r).toArray 0).run Tryd.prog w = .ok (.int .i64 n) w := by
  simp [Go.part, isAgg, run_underlying Tryd.underlying3, go_sem, headL]
theorem head_fields : (Tryd.prog.fieldsOf 40).toList.map (fun f => (f.name == "_", f.type, f.offset)) = [(false, 3, 0), (false, 29, 1)] := by kernel_rfl
theorem guard_head : Tryd.prog.eqGuardType Tryd.prog.depth 40 = false := by kernel_rfl
theorem run_head_neq (n : Int) (r : List UInt8) (h : r.length = 32) (w : World) : (binOp .neq 40 (.agg (headL n r).toArray) (.agg (headL n r).toArray)).run Tryd.prog w = .ok (.bool false) w := by
  have hu := fields_of Tryd.underlying40
  have e1 := run_part_size n r w
  have e2 := run_part_root n r h w
  have e3 : (Op.equalIn 9999 3 (.int .i64 n) (.int .i64 n)).run Tryd.prog w = .ok true w := by
    rw [run_equalIn_int w 9998 3 .i64 .i64 _ _ Tryd.underlying3]; simp
  have e4 : (Op.equalIn 9999 29 (hashV r) (hashV r)).run Tryd.prog w = .ok true w := by
    have := run_hash_eq 9997 r r h h w
    rw [decide_eq_true rfl] at this
    exact this
  rw [run_neq_struct, show (10000 : Nat) = 9999 + 1 from rfl, run_equalIn_struct w 9999 40 _ _ hu (by kernel_rfl)]
  have hq := head_fields
  generalize (Tryd.prog.fieldsOf 40).toList = fl at *
  have hlen : fl.length = 2 := by have := congrArg List.length hq; simpa using this
  obtain ⟨f, g, rfl⟩ := (show ∃ f g, fl = [f, g] from (by rcases fl with _ | ⟨f, _ | ⟨g, _ | ⟨h, t⟩⟩⟩ <;> simp at hlen; exact ⟨f, g, rfl⟩))
  simp only [List.map_cons, List.map_nil, List.cons.injEq, Prod.mk.injEq, beq_eq_false_iff_ne, ne_eq, and_true] at hq
  obtain ⟨⟨f1, f2, f3⟩, g1, g2, g3⟩ := hq
  rw [eqFields_two (a := .int .i64 n) (a' := .int .i64 n) (b := hashV r) (b' := hashV r) f1 g1 (by rw [f2, f3]; exact e1) (by rw [f2, f3]; exact e1) (by rw [f2]; exact e3) (by rw [g2, g3]; exact e2) (by rw [g2, g3]; exact e2) (by rw [g2]; exact e4)]
  rw [Result.andThen_ok]
  rfl
set_option maxRecDepth 100000 in
set_option maxHeartbeats 4000000 in
theorem addsLaw_any (branch : Int) (A : Option Addr) (c : Nat) (ll : List (List Int)) (w : World) (hbr : I64 branch) (hl : Sl w (fun b => b < w.heap.size) A c ll) (hK : KLaid w) :
    Calls Tryd.prog 4 #[.int .i64 branch, .slice A ll.length c] w fun e w' => e = .returned (.bool true) ∧ Below w.heap.size w w' := by
  have HL := Lib.hid hl
  have HBR := Lib.hid hbr
  have HK := Lib.hid hK
  clear hl hbr hK
  have hba : Below w.heap.size w (w.alloc (.cells #[.slice none 0 0, .slice none 0 0] 36)) := (Below.refl _ _).alloc (Nat.le_refl _) _
  have HB0 := Lib.hid hba
  have HLD0 : Hid (LB (w.alloc (.cells #[.slice none 0 0, .slice none 0 0] 36)) w.heap.size [] [] none 0 none 0) := Lib.hid ⟨heap_alloc_new w _, Sl.nil _ _ _ _ (by decide), Sl.nil _ _ _ _ (by decide)⟩
  clear hba
  go_enter Tryd.func4, Tryd.ntmps4
  go_upto_region 2 with (fail)
  generalize hw : World.alloc w _ = w1
  have hv : (w.alloc (.cells #[.slice none 0 0, .slice none 0 0] 36)) = w1 := hw
  rw [hv] at HB0 HLD0
  clear hw hv
  have HOb : Hid (w.heap.size ≤ w.heap.size) := Lib.hid (Nat.le_refl _)
  obtain ⟨Ob, hOb⟩ : ∃ Ob, Ob = w.heap.size := ⟨_, rfl⟩
  have HOE := Lib.hid hOb
  rw [← hOb] at HLD0 HB0 ⊢
  clear hOb HOb
  go_wp2_with fail
  go_loopw [6] (fun i wr => ∃ (k : Nat) (L : List H32) (N : List ByteArray) (A1 : Option Addr) (c1 : Nat) (A2 : Option Addr) (c2 : Nat), k ≤ ll.length ∧ i = .int .i64 k ∧ k ≤ 5 ∧ Hid (L.length = N.length) ∧ Hid (L.length ≤ 12 * k) ∧ Hid (LB wr Ob L N A1 c1 A2 c2) ∧ Hid (Below Ob w wr)) (fun i _ => ll.length - (intOf i).toNat)
  case atStart => exact ⟨0, [], [], none, 0, none, 0, Nat.zero_le _, rfl, by omega, Lib.hid rfl, Lib.hid (by simp), HLD0, HB0⟩
  case round =>
    obtain ⟨k, L, N, A1, c1, A2, c2, hk, rfl, hk5, HLN, HLM', HLD, HBo⟩ := hrel
    have HBW : Hid (Below w.heap.size w wr) := Lib.hid (HOE.out ▸ HBo.out)
    by_cases hlt : k < ll.length
    · by_cases h5 : k < 5
      · obtain ⟨b, o, AX, cX, rfl, _, hbl, e0, sx⟩ := ints_at (HL.out.to HBW.out) hlt
        have hkl : (k : Int) < (ll.length : Int) := by omega
        have hk0 : (0 : Int) ≤ (k : Int) := by omega
        have hk5' : (k : Int) < 5 := by omega
        have HSX := Lib.hid sx
        have HLM : Hid (L.length ≤ 60 ∧ L.length ≤ 12 * k) := Lib.hid ⟨by have := HLM'.out; omega, HLM'.out⟩
        generalize ll[k] = x at *
        have HSO := Lib.hid (some_any AX cX x wr HSX.out)
        clear sx hbl HLM'
        go_wp2_with fail
        refine HSO.out.mono ?_
        rintro e w2 ⟨v2, rfl, sh, hown2, hlen2, hsm2, hb2⟩
        obtain ⟨A5, c5, rfl, hs5⟩ := hown2.sl
        have HS5 := Lib.hid hs5
        have HSM := Lib.hid (fun s hs => smallS_size branch (hsm2 s hs))
        have HLE := Lib.hid hlen2
        have HL2 := Lib.hid (HLD.out.to hb2)
        have HB2 : Hid (Below Ob w w2) := Lib.hid (HBo.out.trans (hb2.mono (Nat.le_of_lt HLD.out.box.lt)))
        have HBW2 : Hid (Below w.heap.size w w2) := Lib.hid (HOE.out ▸ HB2.out)
        have HRA := Lib.hid (radd_any branch A1 A2 A5 c1 c2 c5 L N sh w2 HBR.out HL2.out.l HL2.out.n HS5.out HLN.out (by have := HLE.out; have := HLM.out; omega) (fun s hs => by have := HSM.out s hs; omega))
        clear hs5 hsm2 hlen2 hown2 hb2 HLD HBo HBW HSO HSX e0
        have k0 := HL2.out.box.cell 0 rfl
        have k1 := HL2.out.box.cell 1 rfl
        go_wp2_with fail
        refine HRA.out.mono ?_
        rintro e w3 ⟨v6, v7, rfl, ho6, ho7, hb3⟩
        obtain ⟨A6, c6, rfl, hs6⟩ := ho6.sl
        obtain ⟨A7, c7, rfl, hs7⟩ := ho7.sl
        have HLQ := Lib.hid (addAll_len branch sh (L, N) HLN.out)
        have HO6 := Lib.hid ho6
        have HO7 := Lib.hid ho7
        have HOL : Hid (Ob < w2.heap.size) := Lib.hid HL2.out.box.lt
        have hba : Below w3.heap.size w3 (w3.alloc (.cells #[.slice A6 (addAll branch (L, N) sh).1.length c6, .slice A7 (addAll branch (L, N) sh).2.length c7] 36)) := (Below.refl _ _).alloc (Nat.le_refl _) _
        have HL4 := Lib.hid ((HL2.out.to hb3).to hba)
        have HS4 := Lib.hid ((HS5.out.to hb3).to hba)
        have hbz : Below w2.heap.size w2 (w3.alloc (.cells #[.slice A6 (addAll branch (L, N) sh).1.length c6, .slice A7 (addAll branch (L, N) sh).2.length c7] 36)) := hb3.trans (hba.mono hb3.size)
        have HB4 : Hid (Below Ob w (w3.alloc (.cells #[.slice A6 (addAll branch (L, N) sh).1.length c6, .slice A7 (addAll branch (L, N) sh).2.length c7] 36))) := Lib.hid (HB2.out.trans (hbz.mono (Nat.le_of_lt HOL.out)))
        have HW4 : Hid (LB (w3.alloc (.cells #[.slice A6 (addAll branch (L, N) sh).1.length c6, .slice A7 (addAll branch (L, N) sh).2.length c7] 36)) w3.heap.size (addAll branch (L, N) sh).1 (addAll branch (L, N) sh).2 A6 c6 A7 c7) := Lib.hid ⟨heap_alloc_new w3 _, hs6.to hba, hs7.to hba⟩
        have HX4 := Lib.hid hba
        have HAD := Lib.hid (add_any branch A1 A2 A5 c1 c2 c5 L N sh _ HBR.out HL4.out.l HL4.out.n HS4.out HLN.out (by have := HLE.out; have := HLM.out; omega) (fun s hs => by have := HSM.out s hs; omega) (HK.out.to (HOE.out ▸ HB4.out)))
        obtain ⟨q, hq⟩ : ∃ q, q = addAll branch (L, N) sh := ⟨_, rfl⟩
        rw [← hq] at HLQ HO6 HO7 HL4 HS4 HB4 HW4 HX4 HAD ⊢
        clear hq ho6 ho7 hs6 hs7 hb3 hba hbz HL2 HB2 HBW2 HS5 HRA k0 k1
        go_upto_region 7 with (fail)
        generalize hw : World.alloc w3 _ = w4
        have hv : (w3.alloc (.cells #[.slice A6 q.1.length c6, .slice A7 q.2.length c7] 36)) = w4 := hw
        rw [hv] at HL4 HS4 HB4 HW4 HX4 HAD
        clear hw hv
        have k0 := HL4.out.box.cell 0 rfl
        have k1 := HL4.out.box.cell 1 rfl
        obtain ⟨Pw, hPw⟩ : ∃ P, P = w3.heap.size := ⟨_, rfl⟩
        have HPW := Lib.hid hPw
        rw [← hPw] at HW4 ⊢
        clear hPw
        go_wp2_with fail
        refine HAD.out.mono ?_
        rintro e w5 ⟨v8, v9, rfl, ho8, ho9, hb5⟩
        obtain ⟨A8, c8, rfl, hs8⟩ := ho8.sl
        obtain ⟨A9, c9, rfl, hs9⟩ := ho9.sl
        have hba : Below w5.heap.size w5 (w5.alloc (.cells #[.slice A8 q.1.length c8, .slice A9 q.2.length c9] 36)) := (Below.refl _ _).alloc (Nat.le_refl _) _
        have hbz : Below w4.heap.size w4 (w5.alloc (.cells #[.slice A8 q.1.length c8, .slice A9 q.2.length c9] 36)) := hb5.trans (hba.mono hb5.size)
        have HG6 : Hid (LB (w5.alloc (.cells #[.slice A8 q.1.length c8, .slice A9 q.2.length c9] 36)) w5.heap.size q.1 q.2 A8 c8 A9 c9) := Lib.hid ⟨heap_alloc_new w5 _, hs8.to hba, hs9.to hba⟩
        have HL6 := Lib.hid ((HL4.out.to hb5).to hba)
        have HW6 := Lib.hid ((HW4.out.to hb5).to hba)
        have HX6 := Lib.hid (HX4.out.trans (hbz.mono HX4.out.size))
        have HB6 : Hid (Below Ob w (w5.alloc (.cells #[.slice A8 q.1.length c8, .slice A9 q.2.length c9] 36))) := Lib.hid (HB4.out.trans (hbz.mono (Nat.le_of_lt HL4.out.box.lt)))
        clear ho8 ho9 hs8 hs9 hb5 hba hbz HL4 HS4 HB4 HW4 HX4 HAD k0 k1
        go_upto_region 8 with (fail)
        generalize hw : World.alloc w5 _ = w6
        have hv : (w5.alloc (.cells #[.slice A8 q.1.length c8, .slice A9 q.2.length c9] 36)) = w6 := hw
        rw [hv] at HG6 HL6 HW6 HX6 HB6
        clear hw hv
        generalize w5.heap.size = Pg at *
        have HRL : Hid ((root q.1).length = 32) := Lib.hid (root_length _ (h32_len HG6.out.l))
        obtain ⟨rr, hrr⟩ : ∃ r, r = root q.1 := ⟨_, rfl⟩
        have HRR := Lib.hid hrr
        rw [← hrr] at HRL
        clear hrr
        obtain ⟨hd, hhd⟩ : ∃ v, v = (headL q.1.length rr).toArray := ⟨_, rfl⟩
        have HHD := Lib.hid hhd
        have HNE : Hid (∀ W, (binOp .neq 40 (.agg hd) (.agg hd)).run Tryd.prog W = .ok (.bool false) W) := Lib.hid (fun W => by rw [hhd]; exact run_head_neq _ rr HRL.out W)
        have HTV : Hid (headV q.1.length (root q.1) = .agg hd) := Lib.hid (by rw [hhd, ← HRR.out]; rfl)
        have HQL : Hid (q.1.length ≤ 1073741824) := Lib.hid (by have h1 : q.1.length ≤ L.length + sh.length := HLQ.out.2; have := HLE.out; have := HLM.out; omega)
        clear hhd
        go_cut [44] from 34 to 44 (fun a44 wx => a44 = .bool false ∧ Hid (Below w6.heap.size w6 wx))
        case first =>
          refine wp_region_calm (by kernel_rfl) (by kernel_rfl) ?_
          intro TT hTT g hgb hgm
          have c0 := fun d => (HG6.out.to (hgb d)).box.cell 0 rfl
          have c1x := fun d => (HG6.out.to (hgb d)).box.cell 1 rfl
          have c2x := fun d => (HW6.out.to (hgb d)).box.cell 0 rfl
          have c3x := fun d => (HW6.out.to (hgb d)).box.cell 1 rfl
          have HCS : Hid (∀ d, Calls Tryd.prog 16 #[.agg #[.slice A8 q.1.length c8, .slice A9 q.2.length c9], .agg #[.slice A6 q.1.length c6, .slice A7 q.2.length c7]] (g d) fun e w' => e = .returned (.bool true) ∧ ∃ m, w' = g m) := Lib.hid (fun d => by
            refine (same_any A8 A9 A6 A7 c8 c9 c6 c7 q.1 q.1 q.2 q.2 (g d) (HG6.out.to (hgb d)).l (HG6.out.to (hgb d)).n (HW6.out.to (hgb d)).l (HW6.out.to (hgb d)).n).mono ?_
            rintro e w' ⟨rfl, hb⟩
            exact ⟨by simp, hgm d w' hb⟩)
          have HCT : Hid (∀ d, Calls Tryd.prog 17 #[.agg #[.slice A8 q.1.length c8, .slice A9 q.2.length c9]] (g d) fun e w' => e = .returned (.agg hd) ∧ ∃ m, w' = g m) := Lib.hid (fun d => by
            refine (top_any A8 A9 c8 q.1.length q.1 (g d) c9 q.2.length (HG6.out.to (hgb d)).l rfl HQL.out ((HK.out.to (HOE.out ▸ HB6.out)).to (hgb d))).mono ?_
            rintro e w' ⟨rfl, hb⟩
            exact ⟨by rw [HTV.out], hgm d w' hb⟩)
          have HCU : Hid (∀ d, Calls Tryd.prog 18 #[.agg #[.slice A6 q.1.length c6, .slice A7 q.2.length c7]] (g d) fun e w' => e = .returned (.agg hd) ∧ ∃ m, w' = g m) := Lib.hid (fun d => by
            refine (rtop_any A6 A7 c6 q.1.length q.1 (g d) c7 q.2.length (HW6.out.to (hgb d)).l rfl HQL.out).mono ?_
            rintro e w' ⟨rfl, hb⟩
            exact ⟨by rw [HTV.out], hgm d w' hb⟩)
          have HGB := Lib.hid hgb
          clear hgb hgm
          go_big_quiet_step (fail)
          go_big_quiet_step (fail)
          go_big_quiet_step ((go_at_call 16; with_reducible refine Calls.mono (HCS.out _) ?_; rintro e w6 ⟨rfl, hm⟩; exact ⟨rfl, hm⟩))
          go_big_quiet_step (fail)
          go_big_quiet_step (fail)
          go_big_quiet_step (fail)
          go_big_quiet_step ((go_at_call 17; with_reducible refine Calls.mono (HCT.out _) ?_; rintro e w6 ⟨rfl, hm⟩; exact ⟨rfl, hm⟩))
          go_big_quiet_step (fail)
          go_big_quiet_step ((go_at_call 18; with_reducible refine Calls.mono (HCU.out _) ?_; rintro e w6 ⟨rfl, hm⟩; exact ⟨rfl, hm⟩))
          refine wpQuiet_run (by rfl) (.bool false) ?_ ?_
          · rintro _ ⟨d, rfl⟩
            exact exec_neq 40 40 (.tmp 40) (.tmp 42) rfl hd hd rfl rfl guard_head false (HNE.out _)
          try simp only [Act.put, List.setIfInBounds_toArray, List.set_cons_zero, List.set_cons_succ]
          go_big_quiet_step (fail)
          refine wpQuiet_nil ?_
          rintro _ ⟨nq, rfl⟩
          unfold Exit.then
          try go_wp2_with fail
          go_meet
          exact ⟨rfl, Lib.hid (HGB.out nq)⟩
        case rest =>
          obtain ⟨rfl, hbd⟩ := hcut
          have HLc := Lib.hid (HL6.out.to hbd.out)
          have HWc := Lib.hid (HW6.out.to hbd.out)
          have HXc := Lib.hid (HX6.out.trans (hbd.out.mono HX6.out.size))
          have HBc : Hid (Below Ob w wc) := Lib.hid (HB6.out.trans (hbd.out.mono (Nat.le_of_lt HL6.out.box.lt)))
          clear hbd HL6 HW6 HX6 HB6 HG6
          have k0 := HWc.out.box.cell 0 rfl
          have k1 := HWc.out.box.cell 1 rfl
          have b0 := HLc.out.box.cell 0 rfl
          have bf := HLc.out.box.fz
          have b1 := (HLc.out.box.set 0 (.slice A6 q.1.length c6)).cell 1 rfl
          have bf1 := (HLc.out.box.set 0 (.slice A6 q.1.length c6)).fz
          go_wp2_with fail
          have HEND := Lib.hid ((HLc.out.box.set 0 (.slice A6 q.1.length c6)).set 1 (.slice A7 q.2.length c7))
          have hkk : ∀ g, g ≠ Ob → ((wc.setCell ⟨Ob, 0, none⟩ (.slice A6 q.1.length c6)).setCell ⟨Ob, 1, none⟩ (.slice A7 q.2.length c7)).heap[g]? = wc.heap[g]? := fun g hg => (heap_set _ _ _ _ hg).trans (heap_set _ _ _ _ hg)
          go_roundw
          case rel => exact ⟨k + 1, q.1, q.2, A6, c6, A7, c7, by omega, by go_num, by omega, Lib.hid HLQ.out.1, Lib.hid (by have h1 : q.1.length ≤ L.length + sh.length := HLQ.out.2; have := HLE.out; have := HLM.out; omega), Lib.hid ⟨HEND.out, (own_keepH (HO6.out.below HXc.out) (fun g hg => hkk g (by have := (HO6.out.lt g hg).1; have := HOL.out; omega))).slv rfl, (own_keepS (HO7.out.below HXc.out) (fun g hg => hkk g (by have := (HO7.out.lt g hg).1; have := HOL.out; omega))).slv rfl⟩, Lib.hid ((HBc.out.setCell (p := ⟨Ob, 0, none⟩) (Nat.le_refl _) _).setCell (p := ⟨Ob, 1, none⟩) (Nat.le_refl _) _)⟩
          case measure => (simp [intOf]; omega)
      · have h5' : ¬ (k : Int) < 5 := by omega
        have hkl : (k : Int) < (ll.length : Int) := by omega
        have HLV := Lib.hid (lives_any wr (HK.out.to HBW.out))
        go_wp2_with fail
        refine HLV.out.mono ?_
        rintro e w9 ⟨rfl, hb9⟩
        have HB9 : Hid (Below w.heap.size w w9) := Lib.hid (HBW.out.trans (hb9.mono HBW.out.size))
        clear hb9 HLV
        go_wp2_with fail
        go_ret
        exact ⟨rfl, HB9.out⟩
    · have hkl : ¬ (k : Int) < (ll.length : Int) := by omega
      have HLV := Lib.hid (lives_any wr (HK.out.to HBW.out))
      go_wp2_with fail
      refine HLV.out.mono ?_
      rintro e w9 ⟨rfl, hb9⟩
      have HB9 : Hid (Below w.heap.size w w9) := Lib.hid (HBW.out.trans (hb9.mono HBW.out.size))
      clear hb9 HLV
      go_wp2_with fail
      go_ret
      exact ⟨rfl, HB9.out⟩
end Go.Proofs.YthcklfelofpffaaDoor
