/- BookSets, walked: it answers true. No condition but what the tables hold.
A slice as an argument, read as plain data, whatever its elements are; its length against the bulk of what is read. No condition.
Lists of numbers as arguments, read as plain data. No condition.
BookSets: the card holds, for every argument. No condition. -/
import Derived.Test.YtakaielemicpkaaDoorBFa13
import Derived.Deep.Slices
import Derived.Deep.Fields
import Derived.ChangeSame
import Derived.ChangeMaps5
import Derived.OpenShut
namespace Go.Proofs.YtakaielemicpkaaDoor
open Go.RowKit
/-- The pages of a text of the generator. -/
theorem ptextG_any (A B : Option Addr) (c d : Nat) (a b : List (List Word)) (m h : Int) (w : World) (hT : Laid w) (ht : TM w A c B d a b) (hg : GText a b) (hz : Siz m h) :
    Calls Tryd.prog 13 #[.agg #[.slice A a.length c, .slice B b.length d], .int .i64 m, .int .i64 h] w fun e w' => ∃ A' c', e = .returned (.tuple #[.slice A' (okPages a b m h).length c', .int .i64 0]) ∧ Sl w' (fun b => b < w'.heap.size) A' c' (okPages a b m h) ∧ Below w.heap.size w w' := by
  refine (ptext_any A B c d a b m h w hT ht.ta ht.tb ⟨by have := hz.h1; omega, by have := hz.h2; omega⟩ ht.sa.1 ht.sb.1).mono ?_
  rintro e w' ⟨v, rfl, h1, -, hb⟩
  have hE := hg.textE ⟨hz.m1, hz.m2⟩ ⟨hz.h1, hz.h2⟩
  obtain ⟨A', c', rfl, hs⟩ := bd_sl (h1 hE) (Nat.le_refl _)
  have e1 : ((pagesOfText a b m h.toNat).map (Bd.mk : PageP → Bd PageP w.heap.size)).map Bd.x = okPages a b m h := by
    rw [(hg.pages ⟨hz.m1, hz.m2⟩ ⟨hz.h1, hz.h2⟩).1, List.map_map]
    exact List.map_id _
  rw [e1] at hs ⊢
  exact ⟨A', c', by rw [hE], hs.mono fun _ _ h => h, hb⟩
def SP.pgs (l : List PageP) : SP := ⟨fun v w => ∃ A c, v = .tuple #[.slice A l.length c, .int .i64 0] ∧ Sl w (fun b => b < w.heap.size) A c l, fun _ _ _ h hb => by
  obtain ⟨A, c, h1, h2⟩ := h
  exact ⟨A, c, h1, h2.to hb⟩⟩
/-- A page's slices. -/
theorem pageS_at {w : World} {S : Nat → Prop} {A : Option Addr} {c : Nat} {l : List PageP} (h : Sl w S A c l) {k : Nat} (hk : k < l.length) :
    ∃ b o A1 c1 A2 c2, A = some ⟨b, o, none⟩ ∧ S b ∧ b < w.heap.size ∧ w.cell? ⟨b, o + k * 6, none⟩ = some (.int .i64 l[k].num) ∧ w.cell? ⟨b, o + k * 6 + 1, none⟩ = some (.int .i64 l[k].suf) ∧ w.cell? ⟨b, o + k * 6 + 2, none⟩ = some (.int .i64 l[k].entry) ∧
      w.cell? ⟨b, o + k * 6 + 3, none⟩ = some (.int .i64 l[k].ver) ∧ w.cell? ⟨b, o + k * 6 + 4, none⟩ = some (.slice A1 l[k].body.length c1) ∧ w.cell? ⟨b, o + k * 6 + 5, none⟩ = some (.slice A2 l[k].notes.length c2) ∧ Sl w S A1 c1 l[k].body ∧ Sl w S A2 c2 l[k].notes := by
  obtain ⟨b, o, va, vb, rfl, hb, hlt, h0, h1, h2, h3, h4, h5, ⟨A1, c1, e1, r1, -⟩, ⟨A2, c2, e2, r2, -⟩⟩ := page_at h hk
  cases e1; cases e2
  exact ⟨b, o, A1, c1, A2, c2, rfl, hb, hlt, h0, h1, h2, h3, h4, h5, r1, r2⟩
set_option maxRecDepth 100000 in
set_option maxHeartbeats 16000000 in
theorem sets_any (A0 : Option Addr) (c0 : Nat) (l0 : List Int) (W1 : World) (hs0 : Sl W1 (fun b => b < W1.heap.size) A0 c0 l0) (hT : Tabs W1) :
    Calls Tryd.prog 4 #[.slice A0 l0.length c0] W1 fun e w' => e = .returned (.bool true) ∧ Below W1.heap.size W1 w' := by
  have HT := Lib.hid hT
  have HI0 := Lib.hid hs0
  clear hT hs0
  go_enter Tryd.func4, Tryd.ntmps4
  go_upto_region 2 with (first
    | (go_at_call 7; refine (gbook_any A0 c0 l0 W1 HI0.out).mono ?_; rintro e V1 ⟨m, h, Ab1, cb1, ss, rfl, hg, hs, hb⟩; have HG := Lib.hid hg; have HV1 := Lib.hid hb; have hl := LM.fresh (m := m) (h := h) (⟨HT.out.to hb, hs.mono fun i hi _ => hi.2⟩ : SM V1 Ab1 cb1 ss); clear hg hs hb)
    | fail)
  obtain ⟨W2, hW⟩ : ∃ W2, V1.alloc (.cells #[.int .i64 m, .int .i64 h, .slice Ab1 ss.length cb1] 25) = W2 := ⟨_, rfl⟩
  obtain ⟨b1, hbk⟩ : ∃ b1, V1.heap.size = b1 := ⟨_, rfl⟩
  rw [hW] at hl
  rw [hW, hbk]
  have hb : Below W1.heap.size W1 W2 := HV1.out.trans (hl.2.mono HV1.out.size)
  have H1v := Lib.hid hl.1
  rw [hbk] at H1v
  have HB := Lib.hid hb
  clear hl hb hW hbk
  have HZ := Lib.hid HG.out.siz
  have HTM := Lib.hid HG.out.tame
  have HP := Lib.hid (pages_any (H1v.out.sm.bookT HTM.out HZ.out))
  have q0 := H1v.out.bx.cell 0 rfl
  have q1 := H1v.out.bx.cell 1 rfl
  have q2 := H1v.out.bx.cell 2 rfl
  go_upto_region 3 with (first
    | (go_at_call 8; refine HP.out.mono ?_; rintro e W3 ⟨v, R, rfl, ho, -, hb⟩; have HO := Lib.hid ho; have H1w := Lib.hid (H1v.out.to hb); have HB3 := Lib.hid (HB.out.trans (hb.mono HB.out.size)); clear hb ho q0 q1 q2)
    | fail)
  obtain ⟨Ap, cp, rfl, hps⟩ := HO.out.plain.sl
  obtain ⟨ps, hpp⟩ : ∃ ps, pagesB m h ss = ps := ⟨_, rfl⟩
  have hcore : ps.map PageP.core = coreS m h ss := by rw [← hpp]; exact pagesB_core m h ss
  have hpl : ps.length ≤ 3920 := by rw [← hpp]; exact HTM.out.pages HZ.out
  rw [hpp] at hps ⊢
  have HPS := Lib.hid hps
  have HCO := Lib.hid hcore
  obtain ⟨np, hnp⟩ : ∃ np, ps.length = np := ⟨_, rfl⟩
  have HNP := Lib.hid hnp
  have hpc : np ≤ cp := by rw [← hnp]; exact hps.1
  rw [hnp] at hpl ⊢
  obtain ⟨n, hn⟩ : ∃ n, ss.length = n := ⟨_, rfl⟩
  have HN := Lib.hid hn
  have hn5 : n ≤ 5 := by rw [← hn]; exact HTM.out.n
  have hnc : n ≤ cb1 := by rw [← hn]; exact H1w.out.sm.s.1
  have H1x : Hid (ABox W3 b1 25 [.int .i64 m, .int .i64 h, .slice Ab1 n cb1]) := Lib.hid (by rw [← hn]; exact H1w.out.bx)
  have HSS := Lib.hid H1w.out.sm.s
  clear hps hcore hpp hnp hn HO HP H1v
  go_wp2_with fail
  go_loopw [5, 6] (fun at_ i wr => ∃ k a : Nat, k ≤ n ∧ i = .int .i64 k ∧ at_ = .int .i64 a ∧ a ≤ np ∧ (ps.map PageP.core).drop a = coreS m h (ss.drop k) ∧ Below W3.heap.size W3 wr) (fun _ i _ => n - (intOf i).toNat)
  case atStart => exact ⟨0, 0, by omega, rfl, rfl, by omega, HCO.out, Below.refl _ _⟩
  case round =>
    obtain ⟨k, a, hk, rfl, rfl, ha, hd, hbl⟩ := hrel
    have HD := Lib.hid hd
    have HBL := Lib.hid hbl
    have x2 := (H1x.out.to hbl).cell 2 rfl
    clear hd
    by_cases hlt : k < n
    · have hkl : k < ss.length := by rw [HN.out]; exact hlt
      have HDD := Lib.hid (HD.out.trans (coreS_drop m h ss hkl))
      obtain ⟨b, o, Ag, cg, An, cn, rfl, -, -, e0, e1, e2, e3, hg1, hn1, -⟩ := sect_at (HSS.out.to hbl) hkl
      have htv := HTM.out.v _ (List.getElem_mem hkl)
      obtain ⟨x, hx⟩ : ∃ x, ss[k] = x := ⟨_, rfl⟩
      rw [hx] at e0 e1 e2 e3 hg1 hn1 htv HDD
      have HTV := Lib.hid htv
      obtain ⟨X, hX⟩ : ∃ X, wr.heap.size = X := ⟨_, rfl⟩
      obtain ⟨w2, hw2⟩ : ∃ w2, wr.alloc (.cells #[.int .i64 x.entry, .bool x.frozen, .slice Ag x.vers.length cg, .slice An x.texts.length cn] 31) = w2 := ⟨_, rfl⟩
      have hb2 : Below wr.heap.size wr w2 := by rw [← hw2]; exact (Below.refl _ _).alloc (Nat.le_refl _) _
      have hxx : ABox w2 X 31 [.int .i64 x.entry, .bool x.frozen, .slice Ag x.vers.length cg, .slice An x.texts.length cn] := by rw [← hw2, ← hX]; exact heap_alloc_new wr _
      have HV := Lib.hid (hg1.to hb2)
      have HX := Lib.hid (hn1.to hb2)
      have HXX := Lib.hid hxx
      have hkI : (k : Int) < (n : Int) := by omega
      have HB2 := Lib.hid (hbl.trans (hb2.mono hbl.size))
      have hvl : x.vers.length ≤ 4 := htv.1
      have htl : x.texts.length ≤ x.vers.length := htv.2.1
      have htc : x.texts.length ≤ cn := hn1.1
      have hvc : x.vers.length ≤ cg := hg1.1
      go_upto_region 8 with (fail)
      try rw [hX]
      try rw [hw2]
      clear hX hw2 hxx hb2 hg1 hn1 e0 e1 e2 e3 hx hkl hbl x2 htv HBL HD
      go_wp2_with fail
      go_loopw [5, 8] (fun at_ i wx => ∃ q a : Nat, q ≤ x.texts.length ∧ i = .int .i64 q ∧ at_ = .int .i64 a ∧ a ≤ np ∧ (ps.map PageP.core).drop a = coreV m h x.entry (x.vers.drop q) (x.texts.drop q) ++ coreS m h (ss.drop (k + 1)) ∧ Below w2.heap.size w2 wx) (fun _ i _ => x.texts.length - (intOf i).toNat)
      case atStart => exact ⟨0, a, by omega, rfl, rfl, ha, HDD.out, Below.refl _ _⟩
      case round =>
        clear ha
        obtain ⟨q, a, hq, rfl, rfl, ha, hd, hbl⟩ := hrel
        have HD := Lib.hid hd
        have HBL := Lib.hid hbl
        have HXr := Lib.hid (HXX.out.to hbl)
        have y3 := HXr.out.cell 3 rfl
        clear hd
        by_cases hqt : q < x.texts.length
        · have HDD2 := Lib.hid (HD.out.trans ((congrArg (· ++ coreS m h (ss.drop (k + 1))) (coreV_drop m h x.entry x.vers x.texts hqt (by omega))).trans (List.append_assoc _ _ _)))
          obtain ⟨bt, ot, Aa, ca, Ab, cb, rfl, -, hbt, e0, e1, ht1, ht2⟩ := text_at (HX.out.to hbl) hqt
          obtain ⟨bv, ov, rfl, -, hbv, -, e9⟩ := int_at (HV.out.to hbl) (show q < x.vers.length by omega)
          have hgt := HTV.out.2.2 _ (List.getElem_mem hqt)
          have HVL : Hid (q < x.vers.length) := Lib.hid (by omega)
          obtain ⟨y, hy⟩ : ∃ y, x.texts[q] = y := ⟨_, rfl⟩
          obtain ⟨vq, hvq⟩ : ∃ vq, x.vers[q]'(by omega) = vq := ⟨_, rfl⟩
          rw [hvq] at e9 HDD2
          rw [hy] at e0 e1 ht1 ht2 hgt HDD2
          have HGT := Lib.hid hgt
          have HTMy : Hid (TM wr Aa ca Ab cb y.a y.b) := Lib.hid ⟨ht1, ht2, hgt.short.1, hgt.short.2⟩
          have HBK := Lib.hid ((H1x.out.to (HB2.out.trans (hbl.mono HB2.out.size))))
          have HLr : Hid (Laid wr) := Lib.hid ((HT.out.to ((HB3.out.trans (HB2.out.mono HB3.out.size)).trans (hbl.mono (Nat.le_trans HB3.out.size HB2.out.size)))).1)
          have HE9 := Lib.hid e9
          have hsml := okPages_lines y.a y.b m h
          have hsmp := okPages_small y.a y.b m h
          have hqI : (q : Int) < (x.texts.length : Int) := by omega
          clear hy ht1 ht2 hgt hbl hvq e9
          go_upto_region 11 with (fail)
          clear y3
          refine wp_region_rely [9] (fun i => if i = 9 then SP.pgs (okPages y.a y.b m h) else SP.any) 15 (by kernel_rfl) (by kernel_rfl) ?_
          intro T _ g hg hgm
          have qx : ∀ d, (g d).cell? ⟨X, 3, none⟩ = some (.slice (some ⟨bt, ot, none⟩) x.texts.length cn) := fun d => (HXr.out.to (hg d)).cell 3 rfl
          have q0 : ∀ d, (g d).cell? ⟨bt, ot + q * 2, none⟩ = some (.slice Aa y.a.length ca) := fun d => ((hg d).cell (p := ⟨bt, ot + q * 2, none⟩) hbt).trans e0
          have q1 : ∀ d, (g d).cell? ⟨bt, ot + q * 2 + 1, none⟩ = some (.slice Ab y.b.length cb) := fun d => ((hg d).cell (p := ⟨bt, ot + q * 2 + 1, none⟩) hbt).trans e1
          have r0 : ∀ d, (g d).cell? ⟨b1, 0, none⟩ = some (.int .i64 m) := fun d => (HBK.out.to (hg d)).cell 0 rfl
          have r1 : ∀ d, (g d).cell? ⟨b1, 1, none⟩ = some (.int .i64 h) := fun d => (HBK.out.to (hg d)).cell 1 rfl
          repeat (refine wpR_pure (by rfl) fun Kq hq => ?_; go_big_quiet_step (fail); refine wpQuiet_nil (hq _ ?_); clear hq Kq)
          refine wpR_busy (by rfl) (by rfl) (fun d hG K Q hK => ?_) (fun v d hG hp Kr hr => ?_)
          · go_simp
            go_at_call 13
            refine (ptextG_any Aa Ab ca cb y.a y.b m h (g d) (HLr.out.to (hg d)) (HTMy.out.to (hg d)) HGT.out HZ.out).mono ?_
            rintro e V1 ⟨Aw, cw, rfl, hs, hb1⟩
            go_simp
            exact hK _ _ hb1 ⟨Aw, cw, rfl, hs⟩
          obtain ⟨Aw, cw, hv, -⟩ := hp
          subst hv
          clear hG
          simp only [Act.put, List.setIfInBounds_toArray, List.set_cons_zero, List.set_cons_succ]
          refine hr _ ?_
          clear hr Kr
          repeat (refine wpR_pure (by rfl) fun Kq hq => ?_; go_big_quiet_step (fail); refine wpQuiet_nil (hq _ ?_); clear hq Kq)
          refine wpR_end (by kernel_rfl) (fun d hG => ?_) _
          clear qx q0 q1 r0 r1
          have hG9 : (SP.pgs (okPages y.a y.b m h)).p (.tuple #[.slice Aw (okPages y.a y.b m h).length cw, .int .i64 0]) (g d) := hG 9
          obtain ⟨A5, c5, e5, hws⟩ := hG9
          cases e5
          have HBd := Lib.hid (hg d)
          clear hG hg hgm
          unfold Exit.then
          generalize g d = w4 at *
          clear g
          obtain ⟨ws, hwe⟩ : ∃ ws, okPages y.a y.b m h = ws := ⟨_, rfl⟩
          rw [hwe] at hws HDD2 hsml hsmp ⊢
          have HWS := Lib.hid hws
          have HSML := Lib.hid hsml
          have HSMP := Lib.hid hsmp
          obtain ⟨nw, hnw⟩ : ∃ nw, ws.length = nw := ⟨_, rfl⟩
          have HNW := Lib.hid hnw
          have hwc : nw ≤ cw := by rw [← hnw]; exact hws.1
          have hlen := core_len HDD2.out (by rw [List.length_map, HNP.out]; exact ha)
          rw [List.length_map, List.length_map, HNP.out, hnw] at hlen
          rw [hnw]
          have HBd4 := Lib.hid (HBL.out.trans (HBd.out.mono HBL.out.size))
          have HBd4x := HBd
          have hlenI : ((a : Int) + (nw : Int)) ≤ (np : Int) := by omega
          have hnwp : nw ≤ 3920 := by omega
          clear hwe hnw hws hsml hsmp e0 e1
          go_wp2_with fail
          obtain ⟨wo, rfl⟩ : ∃ wo : World, wo = wr := ⟨_, rfl⟩
          go_loopw [11] (fun j wx => ∃ z : Nat, z ≤ nw ∧ j = .int .i64 z ∧ Below w4.heap.size w4 wx) (fun j _ => nw - (intOf j).toNat)
          case atStart => exact ⟨0, by omega, rfl, Below.refl _ _⟩
          case round =>
            obtain ⟨z, hz, rfl, hbz⟩ := hrel
            have HBZ := Lib.hid hbz
            by_cases hzn : z < nw
            · have hzl : z < ws.length := by rw [HNW.out]; exact hzn
              have hat := core_at HDD2.out (j := z) (by rw [List.length_map]; exact hzl)
              have hazl : a + z < ps.length := by rw [HNP.out]; omega
              rw [List.getElem?_map, List.getElem?_eq_getElem hazl, List.getElem_map] at hat
              have hat2 : ps[a + z].core = coreT x.entry vq ws[z] := Option.some.inj hat
              obtain ⟨bp, op, P1, d1, P2, d2, rfl, -, hbp, f0, f1, f2, f3, f4, f5, hp1, hp2⟩ := pageS_at (HPS.out.to (HB2.out.trans ((HBd4.out.trans (hbz.mono HBd4.out.size)).mono HB2.out.size))) hazl
              obtain ⟨bw, ow, Q1, g1, Q2, g2, rfl, -, hbw, -, -, -, -, k4, k5, hq1, hq2⟩ := pageS_at (HWS.out.to hbz) hzl
              have hs1 := HSML.out _ (List.getElem_mem hzl)
              have hs2 := HSMP.out _ (List.getElem_mem hzl)
              obtain ⟨pg, hpg⟩ : ∃ pg, ps[a + z] = pg := ⟨_, rfl⟩
              obtain ⟨wp', hwp⟩ : ∃ wp', ws[z] = wp' := ⟨_, rfl⟩
              rw [hpg] at f0 f1 f2 f3 f4 f5 hp1 hp2 hat2
              rw [hwp] at k4 k5 hq1 hq2 hs1 hs2 hat2
              obtain ⟨en, vn, sn, un, bo, no⟩ := pg
              have h1 := congrArg CoreP.entry hat2
              have h2 := congrArg CoreP.ver hat2
              have h3 := congrArg CoreP.body hat2
              have h4 := congrArg CoreP.notes hat2
              simp only [PageP.core, coreT] at h1 h2 h3 h4
              subst h1 h2 h3 h4
              have HS1 := Lib.hid hs1
              have HS2 := Lib.hid hs2
              have HPB := Lib.hid hp1
              have HPN := Lib.hid hp2
              have HQB := Lib.hid hq1
              have HQN := Lib.hid hq2
              have HAZ : Hid ((a : Int) + (z : Int) = ((a + z : Nat) : Int)) := Lib.hid (by omega)
              have hzI : (z : Int) < (nw : Int) := by omega
              have hazI : ((a + z : Nat) : Int) < (np : Int) := by omega
              have haz2 : a + z < np := by omega
              obtain ⟨Y, hY⟩ : ∃ Y, wr.heap.size = Y := ⟨_, rfl⟩
              obtain ⟨w5, hw5⟩ : ∃ w5, wr.alloc (.cells #[.int .i64 en, .int .i64 vn, .int .i64 x.entry, .int .i64 un, .slice P1 wp'.body.length d1, .slice P2 wp'.notes.length d2] 42) = w5 := ⟨_, rfl⟩
              have hb5 : Below wr.heap.size wr w5 := by rw [← hw5]; exact (Below.refl _ _).alloc (Nat.le_refl _) _
              have hyy : ABox w5 Y 42 [.int .i64 en, .int .i64 vn, .int .i64 x.entry, .int .i64 un, .slice P1 wp'.body.length d1, .slice P2 wp'.notes.length d2] := by rw [← hw5, ← hY]; exact heap_alloc_new wr _
              have HYY := Lib.hid hyy
              have HB5 := Lib.hid (hbz.trans (hb5.mono hbz.size))
              have HW5 := Lib.hid hb5
              have HXw := Lib.hid ((HXr.out.to HBd4x.out).to HB5.out)
              have he9 := ((HBd4x.out.trans (HB5.out.mono HBd4x.out.size)).cell (p := ⟨bv, ov + q, none⟩) hbv).trans HE9.out
              have HLV : Hid (bv < w5.heap.size) := Lib.hid (by have := HBd4x.out.size; have := HB5.out.size; omega)
              have HLW : Hid (bw < w5.heap.size) := Lib.hid (by have := hb5.size; omega)
              have HB54 := HW5
              have hk4 := (hb5.cell (p := ⟨bw, ow + z * 6 + 4, none⟩) hbw).trans k4
              have hk5 := (hb5.cell (p := ⟨bw, ow + z * 6 + 5, none⟩) hbw).trans k5
              clear hat hat2 hazl hzl hs1 hs2 hp1 hp2 hq1 hq2 hpg hwp hbz hb5 hyy k4 k5
              go_upto_region 17 with (fail)
              go_upto_region 18 with (fail)
              try rw [hw5]
              try rw [hY]
              clear hw5 hY f0 f1 f2 f3 f4 f5
              have hqvI : (q : Int) < (x.vers.length : Int) := by omega
              refine wp_region_rely [23, 34] (fun i => if i = 23 then SP.val (.bool true) else if i = 34 then SP.val (.bool true) else SP.any) 37 (by kernel_rfl) (by kernel_rfl) ?_
              intro T _ g hg hgm
              have yy2 : ∀ d, (g d).cell? ⟨Y, 2, none⟩ = some (.int .i64 x.entry) := fun d => (HYY.out.to (hg d)).cell 2 rfl
              have yy3 : ∀ d, (g d).cell? ⟨Y, 3, none⟩ = some (.int .i64 un) := fun d => (HYY.out.to (hg d)).cell 3 rfl
              have yy4 : ∀ d, (g d).cell? ⟨Y, 4, none⟩ = some (.slice P1 wp'.body.length d1) := fun d => (HYY.out.to (hg d)).cell 4 rfl
              have yy5 : ∀ d, (g d).cell? ⟨Y, 5, none⟩ = some (.slice P2 wp'.notes.length d2) := fun d => (HYY.out.to (hg d)).cell 5 rfl
              have xx0 : ∀ d, (g d).cell? ⟨X, 0, none⟩ = some (.int .i64 x.entry) := fun d => (HXw.out.to (hg d)).cell 0 rfl
              have xx2 : ∀ d, (g d).cell? ⟨X, 2, none⟩ = some (.slice (some ⟨bv, ov, none⟩) x.vers.length cg) := fun d => (HXw.out.to (hg d)).cell 2 rfl
              have vv0 : ∀ d, (g d).cell? ⟨bv, ov + q, none⟩ = some (.int .i64 un) := fun d => ((hg d).cell (p := ⟨bv, ov + q, none⟩) HLV.out).trans he9
              have kk4 : ∀ d, (g d).cell? ⟨bw, ow + z * 6 + 4, none⟩ = some (.slice Q1 wp'.body.length g1) := fun d => ((hg d).cell (p := ⟨bw, ow + z * 6 + 4, none⟩) HLW.out).trans hk4
              have kk5 : ∀ d, (g d).cell? ⟨bw, ow + z * 6 + 5, none⟩ = some (.slice Q2 wp'.notes.length g2) := fun d => ((hg d).cell (p := ⟨bw, ow + z * 6 + 5, none⟩) HLW.out).trans hk5
              repeat (refine wpR_pure (by rfl) fun Kq hq => ?_; go_big_quiet_step (fail); refine wpQuiet_nil (hq _ ?_); clear hq Kq)
              refine wpR_busy (by rfl) (by rfl) (fun d hG K Q hK => ?_) (fun v d hG hp Kr hr => ?_)
              · go_simp
                go_at_call 14
                refine (sameLines_any P1 Q1 d1 g1 wp'.body.length wp'.body (g d) (((HPB.out.to (HB54.out)).to (hg d))) (((HQB.out.to (HW5.out)).to (hg d))) rfl HS2.out.1 HS1.out.1).mono ?_
                rintro e W1 ⟨rfl, hb1⟩
                go_simp
                exact hK _ _ hb1 (rfl)
              have hp : v = .bool true := hp
              subst hp
              (try clear hp); clear hG
              simp only [Act.put, List.setIfInBounds_toArray, List.set_cons_zero, List.set_cons_succ]
              refine hr _ ?_
              clear hr Kr
              repeat (refine wpR_pure (by rfl) fun Kq hq => ?_; go_big_quiet_step (fail); refine wpQuiet_nil (hq _ ?_); clear hq Kq)
              refine wpR_busy (by rfl) (by rfl) (fun d hG K Q hK => ?_) (fun v d hG hp Kr hr => ?_)
              · go_simp
                go_at_call 14
                refine (sameLines_any P2 Q2 d2 g2 wp'.notes.length wp'.notes (g d) (((HPN.out.to (HB54.out)).to (hg d))) (((HQN.out.to (HW5.out)).to (hg d))) rfl HS2.out.2 HS1.out.2).mono ?_
                rintro e W1 ⟨rfl, hb1⟩
                go_simp
                exact hK _ _ hb1 (rfl)
              have hp : v = .bool true := hp
              subst hp
              (try clear hp); clear hG
              simp only [Act.put, List.setIfInBounds_toArray, List.set_cons_zero, List.set_cons_succ]
              refine hr _ ?_
              clear hr Kr
              repeat (refine wpR_pure (by rfl) fun Kq hq => ?_; go_big_quiet_step (fail); refine wpQuiet_nil (hq _ ?_); clear hq Kq)
              refine wpR_end (by kernel_rfl) (fun d hG => ?_) _
              clear yy2 yy3 yy4 yy5 xx0 xx2 vv0 kk4 kk5
              have HBd := Lib.hid (hg d)
              clear hG hg hgm
              unfold Exit.then
              have HBZ2 := Lib.hid (HB5.out.trans (HBd.out.mono HB5.out.size))
              generalize g d = w6 at *
              clear g
              go_wp2_with fail
              go_roundw
              case rel => exact ⟨z + 1, by omega, by go_num, HBZ2.out⟩
              case measure => simp [intOf]; omega
            · obtain rfl : z = nw := by omega
              have HB6 := Lib.hid (HBd4.out.trans (hbz.mono HBd4.out.size))
              have hnx := core_next HDD2.out
              rw [List.length_map, HNW.out] at hnx
              have HNX := Lib.hid hnx
              clear hbz hnx
              go_wp2_with fail
              go_roundw
              case rel => exact ⟨q + 1, a + z, by omega, by go_num, by go_num, by omega, HNX.out, HB6.out⟩
              case measure => simp [intOf]; omega
        · obtain rfl : q = x.texts.length := by omega
          have hnx := HD.out
          rw [List.drop_of_length_le (Nat.le_refl x.texts.length)] at hnx
          have HNX : Hid ((ps.map PageP.core).drop a = coreS m h (ss.drop (k + 1))) := Lib.hid (by
            rw [hnx]
            cases x.vers.drop x.texts.length <;> rfl)
          have HB6 := Lib.hid (HB2.out.trans (hbl.mono HB2.out.size))
          clear hbl hnx
          go_wp2_with fail
          go_roundw
          case rel => exact ⟨k + 1, a, by omega, by go_num, rfl, ha, HNX.out, HB6.out⟩
          case measure => simp [intOf]; omega
    · obtain rfl : k = n := by omega
      have haeq : a = np := by
        have h1 := congrArg List.length HD.out
        have h0 : ss.drop k = [] := List.drop_of_length_le (by rw [HN.out]; exact Nat.le_refl _)
        rw [h0, List.length_drop, List.length_map, HNP.out] at h1
        have h2 : (coreS m h []).length = 0 := rfl
        omega
      subst haeq
      have HBE := Lib.hid (HB3.out.trans (hbl.mono HB3.out.size))
      clear hbl
      go_wp2_with fail
      refine (lives_any wr (HT.out.to HBE.out)).mono ?_
      rintro e W9 ⟨rfl, hb⟩
      have HB9 := Lib.hid (HBE.out.trans (hb.mono HBE.out.size))
      clear hb
      go_wp2_with fail
      go_ret
      exact ⟨rfl, HB9.out⟩
end Go.Proofs.YtakaielemicpkaaDoor
namespace Go.Proofs.YtakaielemicpkaaDoor
open Go.ChangeShapes Go.WideShapes Go.ChangeAt Go.RowKit Go.Deep
theorem exists_list {α : Type} {Q : Nat → α → Prop} (n : Nat) (h : ∀ i, i < n → ∃ a, Q i a) : ∃ l : List α, l.length = n ∧ ∀ i, (hi : i < l.length) → Q i l[i] := by
  induction n with
  | zero => exact ⟨[], rfl, fun i hi => by simp at hi⟩
  | succ n ih =>
    obtain ⟨l, hl, hq⟩ := ih fun i hi => h i (by omega)
    obtain ⟨a, ha⟩ := h n (by omega)
    refine ⟨l ++ [a], by simp [hl], fun i hi => ?_⟩
    by_cases hin : i < l.length
    · rw [List.getElem_append_left hin]; exact hq i hin
    · have : i = n := by simp at hi; omega
      subst this
      rw [List.getElem_append_right (by omega)]
      simpa using ha
theorem addr_plain {w : World} {a : Addr} {v : Value} (h : w.cell? (a.add 0) = some v) : ∃ b o, a = ⟨b, o, none⟩ := by
  obtain ⟨b, o, spot⟩ := a
  have hspot : spot = none := by simpa [Addr.add] using World.cell?_spot h
  subst hspot
  exact ⟨b, o, rfl⟩
theorem bulk_one {H : Type} (d : DataW H) : 1 ≤ Rows.uptoBulk d := by
  cases d with
  | lit l => cases l <;> simp [Rows.uptoBulk]
  | nil => simp [Rows.uptoBulk]
  | ptr d => simp [Rows.uptoBulk]
  | slice elems spare => simp [Rows.uptoBulk]
  | agg parts => simp [Rows.uptoBulk]
  | iface t d => simp [Rows.uptoBulk]
  | map entries => simp [Rows.uptoBulk]
  | held h => simp [Rows.uptoBulk]
theorem bulk_part {H : Type} {d : DataW H} {l : List (DataW H)} (h : d ∈ l) : Rows.uptoBulk d ≤ Rows.uptoBulkAll l := by
  induction l with
  | nil => cases h
  | cons x r ih =>
    simp only [Rows.uptoBulkAll]
    cases List.mem_cons.1 h with
    | inl e => subst e; omega
    | inr e => have := ih e; omega
theorem bulk_length {H : Type} (l : List (DataW H)) : l.length ≤ Rows.uptoBulkAll l := by
  induction l with
  | nil => simp [Rows.uptoBulkAll]
  | cons x r ih => have := bulk_one x; simp only [Rows.uptoBulkAll, List.length_cons]; omega
theorem bulk_slice {H : Type} (elems spare : List (DataW H)) : elems.length + spare.length + 1 ≤ Rows.uptoBulk (.slice elems spare) := by
  have h1 := bulk_length elems
  have h2 := bulk_length spare
  simp only [Rows.uptoBulk]
  omega
/-- THE BOUND. -/
theorem bulk_bound {H : Type} {l : List (DataW H)} (hk : Rows.uptoSmall H l = true) : Rows.uptoBulkAll l ≤ 1048576 := by
  have h := of_decide_eq_true hk
  exact h
variable {H : Type} {enc : TypeId × Value → H} {P : Program}
/-- A slice whose elements are of a kind that is known. -/
theorem open_sl {α : Type} [Rep α] {t e : TypeId} {W : World} {base : Nat} {v : Value} {d : DataW H} {ps : List MemPlace} (ht : P.underlying t = some (.slice e)) (hC : P.cellsOf e = Rep.size α)
    (hel : ∀ fuel cs x, DataW.trod enc P W 0 (fun _ => true) true fuel e cs = some x → ∃ a : α, Rep.R W (fun b => b < W.heap.size) cs a) (hsz : 0 < Rep.size α)
    (hval : Value.okWide P W .any base t v) (h : DataW.Trod enc P W 0 (fun _ => true) true t v d ps) :
    ∃ A c, ∃ l : List α, v = .slice A l.length c ∧ Sl W (fun b => b < W.heap.size) A c l ∧ l.length ≤ Rows.uptoBulk d := by
  obtain ⟨a, len, cap, rfl⟩ := okWide_slice ht hval
  obtain ⟨fuel, hf⟩ := h
  rcases open_slice ht hf with ⟨hcs, _⟩ | ⟨a', len', cap', m, n, D, Pl, hcs, _, hl, hm, hmm, hx, hi⟩
  · simp [Value.cells] at hcs
    obtain ⟨rfl, rfl, rfl⟩ := hcs
    exact ⟨none, 0, [], rfl, Sl.nil _ _ _ _ (by simp [maxLen]), by simp⟩
  · simp [Value.cells] at hcs
    obtain ⟨rfl, rfl, rfl⟩ := hcs
    simp only [if_true] at hmm
    subst hmm
    rw [hC] at hi
    have hQ : ∀ i, i < len → ∃ x : α, ∃ es, Rep.R W (fun b => b < W.heap.size) es x ∧ ∀ j u, es[j]? = some u → W.cell? (a'.add (i * Rep.size α + j)) = some u := by
      intro i hil
      obtain ⟨cs', hc, ht'⟩ := hi i (by omega)
      obtain ⟨x, hr⟩ := hel _ _ _ ht'
      obtain ⟨_, hlen, hat⟩ := World.cells?_some hc
      refine ⟨x, cs', hr, fun j u hu => ?_⟩
      have hj : j < Rep.size α := by rw [← hlen]; exact (List.getElem?_eq_some_iff.1 hu).1
      rw [← Go.Deep.add_add]
      exact (hat j hj).trans hu
    obtain ⟨l, hll, hq⟩ := exists_list len hQ
    refine ⟨some a', m, l, by rw [hll], ⟨by omega, hm, fun h0 => ?_⟩, ?_⟩
    · obtain ⟨es, hr, hc⟩ := hq 0 h0
      have hel0 := Rep.len hr
      obtain ⟨b, o, rfl⟩ := addr_plain (by simpa using hc 0 _ (List.getElem?_eq_getElem (by omega)))
      have hlt := World.block_lt_of_cell? W _ (hc 0 _ (List.getElem?_eq_getElem (by omega)))
      rw [addr_add] at hlt
      refine ⟨b, o, rfl, hlt, hlt, fun i hil => ?_⟩
      obtain ⟨es, hr, hc⟩ := hq i hil
      refine ⟨es, hr, fun j u hu => ?_⟩
      have := hc j u hu
      rwa [addr_add, ← Nat.add_assoc] at this
    · simp only [Prod.mk.injEq] at hx
      rw [hx.1, hll]
      have := bulk_slice ((List.range len).map D) ((List.range (m - len)).map fun j => D (len + j))
      simp only [List.length_map, List.length_range] at this
      omega
end Go.Proofs.YtakaielemicpkaaDoor
namespace Go.Proofs.YtakaielemicpkaaDoor
open Go.ChangeShapes Go.WideShapes Go.ChangeAt Go.RowKit Go.Deep
variable {H : Type} {enc : TypeId × Value → H} {P : Program}
theorem open_ints_sl {t e : TypeId} {W : World} {base : Nat} {v : Value} {d : DataW H} {ps : List MemPlace} (ht : P.underlying t = some (.slice e)) (he : P.underlying e = some (.int .i64)) (hc : P.cellsOf e = 1)
    (hval : Value.okWide P W .any base t v) (h : DataW.Trod enc P W 0 (fun _ => true) true t v d ps) : ∃ A c, ∃ l : List Int, v = .slice A l.length c ∧ Sl W (fun b => b < W.heap.size) A c l := by
  obtain ⟨a, len, cap, rfl⟩ := okWide_slice ht hval
  obtain ⟨fuel, hf⟩ := h
  rcases open_ints ht he hc hf with ⟨hcs, _⟩ | ⟨a', len', cap', zs, hcs, _, hl, hm, hz, _, hcell, hwf⟩
  · simp [Value.cells] at hcs
    obtain ⟨rfl, rfl, rfl⟩ := hcs
    exact ⟨none, 0, [], rfl, Sl.nil _ _ _ _ (by simp [maxLen])⟩
  · simp [Value.cells] at hcs
    obtain ⟨rfl, rfl, rfl⟩ := hcs
    have hz' : zs.length = cap := by simpa using hz
    have hlt : (zs.take len).length = len := by rw [List.length_take]; omega
    refine ⟨some a', cap, zs.take len, by rw [hlt], by rw [hlt]; exact hl, hm, fun h0 => ?_⟩
    obtain ⟨b, o, rfl, hat⟩ := Go.ints_at hcell (by omega)
    refine ⟨b, o, rfl, World.block_lt_of_cell? W _ (hat 0 (by omega)), World.block_lt_of_cell? W _ (hat 0 (by omega)), fun i hi => ?_⟩
    rw [hlt] at hi
    have e : zs.getD i 0 = (zs.take len)[i]'(by omega) := by
      rw [List.getElem_take, List.getD_eq_getElem?_getD, List.getElem?_eq_getElem (by omega)]; rfl
    refine ⟨[.int .i64 (zs.getD i 0)], ⟨by rw [e], ?_⟩, fun j u hu => ?_⟩
    · exact i64_wf (hwf _ (List.mem_of_mem_take (List.getElem_mem (by omega))))
    · have hj : j = 0 := by
        rcases j with _ | j
        · rfl
        · simp at hu
      subst hj
      simp only [List.getElem?_cons_zero, Option.some.injEq] at hu
      subst hu
      have := hat i (by omega)
      show W.cell? ⟨b, o + i * 1 + 0, none⟩ = _
      rw [Nat.mul_one, Nat.add_zero]; exact this
end Go.Proofs.YtakaielemicpkaaDoor
namespace Go.Proofs.YtakaielemicpkaaDoor.rowBookSets
open Go.ChangeShapes Go.WideShapes Go.ChangeAt Go.RowKit
set_option maxRecDepth 100000 in
theorem contract (H : Type) (enc : TypeId × Value → H) (W : World) (base : Nat) (args : Array Value) (ds gs : List (DataW H)) (before : List MemPlace)
    (hval : ∀ (j : Nat) t v, Tryd.f4.params[j]? = some t → args[j]? = some v → Value.okWide Tryd.prog W .any base t v)
    (hW : DataW.Whole enc Tryd.prog Tryd.f4.params.toList Rows.bookSetsSpec.vars false W args.toList ds gs before) (hL : laidMetH Tryd.prog laidL W) :
    Calls Tryd.prog 4 args W fun e W' => ∃ v, e = .returned v ∧ Rows.bookSetsSpec.post enc Tryd.prog Tryd.f4 false true false false W args v W' := by
  have hW' := hW
  obtain ⟨p, q, hA0, hV, rfl, hfz, hnd⟩ := hW
  have hA : DataW.TrodAll enc Tryd.prog W 0 (fun _ => true) true Tryd.f4.params.toList args.toList ds p := hA0
  rw [Tryd.params4] at hA hval
  obtain ⟨v0, vs0, d0, ds0, p0, q0, hargs, rfl, rfl, h0, r0⟩ := trodAll_cons hA
  obtain ⟨rfl, rfl, rfl⟩ := trodAll_nil r0
  obtain rfl : args = #[v0] := by cases args; simp_all
  obtain ⟨rfl, rfl⟩ := trodVars_none hV
  obtain ⟨A0, c0, l0, rfl, hl0⟩ := open_ints_sl Tryd.underlying22 Tryd.underlying3 cells_int (hval 0 22 v0 rfl rfl) h0
  refine (sets_any A0 c0 l0 W hl0 (tabs_of hL)).mono fun e W' ⟨he, hb⟩ => ?_
  subst he
  exact ⟨_, rfl, row_close laidOut Tryd.underlying4 (by kernel_rfl) (by kernel_rfl) rfl hW' rfl hb⟩

theorem laid_met (os : Os) : laidMet Tryd.prog Rows.bookSetsRow.laid ((laidWorld os).forCall (fun _ _ => 0) ⟨#[], #[.slice none 0 0], []⟩).memory :=
  laidMet_of_run' 8 (by kernel_rfl) (by kernel_rfl)
theorem reads (os : Os) {H : Type} (enc : TypeId × Value → H) : ∃ places, DataW.whole enc Tryd.prog ((laidWorld os).forCall (fun _ _ => 0) ⟨#[], #[.slice none 0 0], []⟩).memory Tryd.f4.params.toList Rows.bookSetsSpec.vars false (#[.slice none 0 0] : Array Value).toList 8 = some ([.nil], [], places) :=
  ⟨[], by kernel_rfl⟩
set_option maxRecDepth 100000 in
theorem lifted (os : Os) (started : os.Started) (H : Type) (enc : TypeId × Value → H) (F : Stop.Interp) :
    ReturnsInHanded {} Tryd.checked os 4 .any ((OpenSpec.ofChange Rows.bookSetsSpec).preRow enc Tryd.prog Tryd.f4 Rows.bookSetsRow.domain false Rows.bookSetsRow.laid) (((OpenSpec.ofChange Rows.bookSetsSpec).at F).post enc Tryd.prog Tryd.f4 false true false false) := by
  obtain ⟨places, hx⟩ := reads os enc
  refine returnsInHanded_of_row (C := Tryd.checked) (s := (OpenSpec.ofChange Rows.bookSetsSpec)) own started (by kernel_rfl) Tryd.func4
    (witness_row_at (enc := enc) (C := Tryd.checked) false (laidWorld os) #[.slice none 0 0] rfl (by kernel_rfl) (by kernel_rfl) (by kernel_rfl)
      (OpenSpec.preRow_of_cond 8 hx (by kernel_rfl) (fun k hk => by cases hk) (by kernel_rfl) (laid_met os))) ?_
  intro W base args ds gs before hval hW _ _ _ hL _ _
  exact contract H enc W base args ds gs before hval hW hL
theorem said : Rows.BookSetsSaid :=
  OpenClaim.holds_of_cond 4 Tryd.f4 rfl rfl rfl rfl rfl rfl rfl ⟨rfl, rfl, rfl, rfl, rfl⟩ rfl rfl rfl rfl rfl (by kernel_rfl) Tryd.func4 (by kernel_rfl)
    (of_decide_eq_true (by kernel_rfl)) (by unfold Func.isWrapper; first | (rw [if_pos (by decide +kernel)]; kernel_rfl) | (rw [if_neg (by decide +kernel)]; exact ⟨rfl, rfl⟩))
    (fun os started H enc _ F => by rw [OpenClaim.pre_eq_preRow]; exact lifted os started H enc F)
theorem wants : Tryd.f4.params.all (fun t => !Tryd.prog.wantsStandIn t) = true := by kernel_rfl
theorem plain (f : FuncId) (fn : Func) (hf : Tryd.pinned.checked.prog.funcNamed "rollbook/rollbooklaw28.BookSets" = some f) (hfn : Tryd.pinned.checked.prog.funcs[f]? = some fn) :
    false = Tryd.pinned.checked.prog.looks [] ∧ ∀ (j : Nat) t, fn.params[j]? = some t → Tryd.pinned.checked.prog.wantsStandIn t = false := by
  obtain rfl : f = 4 := Option.some.inj ((show Tryd.prog.funcNamed "rollbook/rollbooklaw28.BookSets" = some 4 by kernel_rfl).symm.trans hf) |>.symm
  obtain rfl : fn = Tryd.f4 := (Option.some.inj (Tryd.func4.symm.trans hfn)).symm
  refine ⟨by kernel_rfl, fun j t ht => ?_⟩
  have := Array.all_eq_true_iff_forall_mem.1 wants t (Array.mem_of_getElem? ht)
  exact (by simpa using this : Tryd.prog.wantsStandIn t = false)
theorem card : Rows.BookSetsCardSaid :=
  Claim7.holds_tied_plain_at .later [] _ _ _ _ said (fun _ h => by cases h) (by kernel_rfl) (fun _ h => by cases h) bookSets_row_tie rfl ⟨rfl, rfl⟩ (by kernel_rfl) rfl plain (by kernel_rfl)
#print axioms card
end Go.Proofs.YtakaielemicpkaaDoor.rowBookSets
