/- BookSets, walked: it answers true. No condition but what the tables hold.
Every word of a version stands on one line of the pages of this version. No program is in sight.
Where a word stands, if it stands on one line only. No program is in sight.
How many lines of a page have a word, and the number of the last one. No condition but sizes.
BookWords, walked: it answers true. No condition but what the tables hold.
A slice as an argument, read as plain data, whatever its elements are; its length against the bulk of what is read. No condition.
Lists of numbers as arguments, read as plain data. No condition.
BookWords: the card holds, for every argument. No condition. -/
import Derived.Test.YtakaielemicpkaaDoorBFa13
import Derived.Deep.Slices
import Derived.Deep.Fields
import Derived.ChangeSame
import Derived.ChangeMaps5
import Derived.OpenShut
namespace Go.Proofs.YtakaielemicpkaaDoor
open Go.RowKit
/-- The pages of a text of the generator. -/
theorem ptextG_any (A B : Option Addr) (c d : Nat) (a b : List (List Word)) (m h : Int) (w : World) (hT : Laid w) (ht : TM w A c B d a b) (hg : GText a b) (hz : Siz m h) :
    Calls Tryd.prog 13 #[.agg #[.slice A a.length c, .slice B b.length d], .int .i64 m, .int .i64 h] w fun e w' => ∃ A' c', e = .returned (.tuple #[.slice A' (okPages a b m h).length c', .int .i64 0]) ∧ Sl w' (fun b => b < w'.heap.size) A' c' (okPages a b m h) ∧ Below w.heap.size w w' := by
  refine (ptext_any A B c d a b m h w hT ht.ta ht.tb ⟨by have := hz.h1; omega, by have := hz.h2; omega⟩ ht.sa.1 ht.sb.1).mono ?_
  rintro e w' ⟨v, rfl, h1, -, hb⟩
  have hE := hg.textE ⟨hz.m1, hz.m2⟩ ⟨hz.h1, hz.h2⟩
  obtain ⟨A', c', rfl, hs⟩ := bd_sl (h1 hE) (Nat.le_refl _)
  have e1 : ((pagesOfText a b m h.toNat).map (Bd.mk : PageP → Bd PageP w.heap.size)).map Bd.x = okPages a b m h := by
    rw [(hg.pages ⟨hz.m1, hz.m2⟩ ⟨hz.h1, hz.h2⟩).1, List.map_map]
    exact List.map_id _
  rw [e1] at hs ⊢
  exact ⟨A', c', by rw [hE], hs.mono fun _ _ h => h, hb⟩
def SP.pgs (l : List PageP) : SP := ⟨fun v w => ∃ A c, v = .tuple #[.slice A l.length c, .int .i64 0] ∧ Sl w (fun b => b < w.heap.size) A c l, fun _ _ _ h hb => by
  obtain ⟨A, c, h1, h2⟩ := h
  exact ⟨A, c, h1, h2.to hb⟩⟩
/-- A page's slices. -/
theorem pageS_at {w : World} {S : Nat → Prop} {A : Option Addr} {c : Nat} {l : List PageP} (h : Sl w S A c l) {k : Nat} (hk : k < l.length) :
    ∃ b o A1 c1 A2 c2, A = some ⟨b, o, none⟩ ∧ S b ∧ b < w.heap.size ∧ w.cell? ⟨b, o + k * 6, none⟩ = some (.int .i64 l[k].num) ∧ w.cell? ⟨b, o + k * 6 + 1, none⟩ = some (.int .i64 l[k].suf) ∧ w.cell? ⟨b, o + k * 6 + 2, none⟩ = some (.int .i64 l[k].entry) ∧
      w.cell? ⟨b, o + k * 6 + 3, none⟩ = some (.int .i64 l[k].ver) ∧ w.cell? ⟨b, o + k * 6 + 4, none⟩ = some (.slice A1 l[k].body.length c1) ∧ w.cell? ⟨b, o + k * 6 + 5, none⟩ = some (.slice A2 l[k].notes.length c2) ∧ Sl w S A1 c1 l[k].body ∧ Sl w S A2 c2 l[k].notes := by
  obtain ⟨b, o, va, vb, rfl, hb, hlt, h0, h1, h2, h3, h4, h5, ⟨A1, c1, e1, r1, -⟩, ⟨A2, c2, e2, r2, -⟩⟩ := page_at h hk
  cases e1; cases e2
  exact ⟨b, o, A1, c1, A2, c2, rfl, hb, hlt, h0, h1, h2, h3, h4, h5, r1, r2⟩
set_option maxRecDepth 100000 in
set_option maxHeartbeats 16000000 in
theorem sets_any (A0 : Option Addr) (c0 : Nat) (l0 : List Int) (W1 : World) (hs0 : Sl W1 (fun b => b < W1.heap.size) A0 c0 l0) (hT : Tabs W1) :
    Calls Tryd.prog 4 #[.slice A0 l0.length c0] W1 fun e w' => e = .returned (.bool true) ∧ Below W1.heap.size W1 w' := by
  have HT := Lib.hid hT
  have HI0 := Lib.hid hs0
  clear hT hs0
  go_enter Tryd.func4, Tryd.ntmps4
  go_upto_region 2 with (first
    | (go_at_call 7; refine (gbook_any A0 c0 l0 W1 HI0.out).mono ?_; rintro e V1 ⟨m, h, Ab1, cb1, ss, rfl, hg, hs, hb⟩; have HG := Lib.hid hg; have HV1 := Lib.hid hb; have hl := LM.fresh (m := m) (h := h) (⟨HT.out.to hb, hs.mono fun i hi _ => hi.2⟩ : SM V1 Ab1 cb1 ss); clear hg hs hb)
    | fail)
  obtain ⟨W2, hW⟩ : ∃ W2, V1.alloc (.cells #[.int .i64 m, .int .i64 h, .slice Ab1 ss.length cb1] 25) = W2 := ⟨_, rfl⟩
  obtain ⟨b1, hbk⟩ : ∃ b1, V1.heap.size = b1 := ⟨_, rfl⟩
  rw [hW] at hl
  rw [hW, hbk]
  have hb : Below W1.heap.size W1 W2 := HV1.out.trans (hl.2.mono HV1.out.size)
  have H1v := Lib.hid hl.1
  rw [hbk] at H1v
  have HB := Lib.hid hb
  clear hl hb hW hbk
  have HZ := Lib.hid HG.out.siz
  have HTM := Lib.hid HG.out.tame
  have HP := Lib.hid (pages_any (H1v.out.sm.bookT HTM.out HZ.out))
  have q0 := H1v.out.bx.cell 0 rfl
  have q1 := H1v.out.bx.cell 1 rfl
  have q2 := H1v.out.bx.cell 2 rfl
  go_upto_region 3 with (first
    | (go_at_call 8; refine HP.out.mono ?_; rintro e W3 ⟨v, R, rfl, ho, -, hb⟩; have HO := Lib.hid ho; have H1w := Lib.hid (H1v.out.to hb); have HB3 := Lib.hid (HB.out.trans (hb.mono HB.out.size)); clear hb ho q0 q1 q2)
    | fail)
  obtain ⟨Ap, cp, rfl, hps⟩ := HO.out.plain.sl
  obtain ⟨ps, hpp⟩ : ∃ ps, pagesB m h ss = ps := ⟨_, rfl⟩
  have hcore : ps.map PageP.core = coreS m h ss := by rw [← hpp]; exact pagesB_core m h ss
  have hpl : ps.length ≤ 3920 := by rw [← hpp]; exact HTM.out.pages HZ.out
  rw [hpp] at hps ⊢
  have HPS := Lib.hid hps
  have HCO := Lib.hid hcore
  obtain ⟨np, hnp⟩ : ∃ np, ps.length = np := ⟨_, rfl⟩
  have HNP := Lib.hid hnp
  have hpc : np ≤ cp := by rw [← hnp]; exact hps.1
  rw [hnp] at hpl ⊢
  obtain ⟨n, hn⟩ : ∃ n, ss.length = n := ⟨_, rfl⟩
  have HN := Lib.hid hn
  have hn5 : n ≤ 5 := by rw [← hn]; exact HTM.out.n
  have hnc : n ≤ cb1 := by rw [← hn]; exact H1w.out.sm.s.1
  have H1x : Hid (ABox W3 b1 25 [.int .i64 m, .int .i64 h, .slice Ab1 n cb1]) := Lib.hid (by rw [← hn]; exact H1w.out.bx)
  have HSS := Lib.hid H1w.out.sm.s
  clear hps hcore hpp hnp hn HO HP H1v
  go_wp2_with fail
  go_loopw [5, 6] (fun at_ i wr => ∃ k a : Nat, k ≤ n ∧ i = .int .i64 k ∧ at_ = .int .i64 a ∧ a ≤ np ∧ (ps.map PageP.core).drop a = coreS m h (ss.drop k) ∧ Below W3.heap.size W3 wr) (fun _ i _ => n - (intOf i).toNat)
  case atStart => exact ⟨0, 0, by omega, rfl, rfl, by omega, HCO.out, Below.refl _ _⟩
  case round =>
    obtain ⟨k, a, hk, rfl, rfl, ha, hd, hbl⟩ := hrel
    have HD := Lib.hid hd
    have HBL := Lib.hid hbl
    have x2 := (H1x.out.to hbl).cell 2 rfl
    clear hd
    by_cases hlt : k < n
    · have hkl : k < ss.length := by rw [HN.out]; exact hlt
      have HDD := Lib.hid (HD.out.trans (coreS_drop m h ss hkl))
      obtain ⟨b, o, Ag, cg, An, cn, rfl, -, -, e0, e1, e2, e3, hg1, hn1, -⟩ := sect_at (HSS.out.to hbl) hkl
      have htv := HTM.out.v _ (List.getElem_mem hkl)
      obtain ⟨x, hx⟩ : ∃ x, ss[k] = x := ⟨_, rfl⟩
      rw [hx] at e0 e1 e2 e3 hg1 hn1 htv HDD
      have HTV := Lib.hid htv
      obtain ⟨X, hX⟩ : ∃ X, wr.heap.size = X := ⟨_, rfl⟩
      obtain ⟨w2, hw2⟩ : ∃ w2, wr.alloc (.cells #[.int .i64 x.entry, .bool x.frozen, .slice Ag x.vers.length cg, .slice An x.texts.length cn] 31) = w2 := ⟨_, rfl⟩
      have hb2 : Below wr.heap.size wr w2 := by rw [← hw2]; exact (Below.refl _ _).alloc (Nat.le_refl _) _
      have hxx : ABox w2 X 31 [.int .i64 x.entry, .bool x.frozen, .slice Ag x.vers.length cg, .slice An x.texts.length cn] := by rw [← hw2, ← hX]; exact heap_alloc_new wr _
      have HV := Lib.hid (hg1.to hb2)
      have HX := Lib.hid (hn1.to hb2)
      have HXX := Lib.hid hxx
      have hkI : (k : Int) < (n : Int) := by omega
      have HB2 := Lib.hid (hbl.trans (hb2.mono hbl.size))
      have hvl : x.vers.length ≤ 4 := htv.1
      have htl : x.texts.length ≤ x.vers.length := htv.2.1
      have htc : x.texts.length ≤ cn := hn1.1
      have hvc : x.vers.length ≤ cg := hg1.1
      go_upto_region 8 with (fail)
      try rw [hX]
      try rw [hw2]
      clear hX hw2 hxx hb2 hg1 hn1 e0 e1 e2 e3 hx hkl hbl x2 htv HBL HD
      go_wp2_with fail
      go_loopw [5, 8] (fun at_ i wx => ∃ q a : Nat, q ≤ x.texts.length ∧ i = .int .i64 q ∧ at_ = .int .i64 a ∧ a ≤ np ∧ (ps.map PageP.core).drop a = coreV m h x.entry (x.vers.drop q) (x.texts.drop q) ++ coreS m h (ss.drop (k + 1)) ∧ Below w2.heap.size w2 wx) (fun _ i _ => x.texts.length - (intOf i).toNat)
      case atStart => exact ⟨0, a, by omega, rfl, rfl, ha, HDD.out, Below.refl _ _⟩
      case round =>
        clear ha
        obtain ⟨q, a, hq, rfl, rfl, ha, hd, hbl⟩ := hrel
        have HD := Lib.hid hd
        have HBL := Lib.hid hbl
        have HXr := Lib.hid (HXX.out.to hbl)
        have y3 := HXr.out.cell 3 rfl
        clear hd
        by_cases hqt : q < x.texts.length
        · have HDD2 := Lib.hid (HD.out.trans ((congrArg (· ++ coreS m h (ss.drop (k + 1))) (coreV_drop m h x.entry x.vers x.texts hqt (by omega))).trans (List.append_assoc _ _ _)))
          obtain ⟨bt, ot, Aa, ca, Ab, cb, rfl, -, hbt, e0, e1, ht1, ht2⟩ := text_at (HX.out.to hbl) hqt
          obtain ⟨bv, ov, rfl, -, hbv, -, e9⟩ := int_at (HV.out.to hbl) (show q < x.vers.length by omega)
          have hgt := HTV.out.2.2 _ (List.getElem_mem hqt)
          have HVL : Hid (q < x.vers.length) := Lib.hid (by omega)
          obtain ⟨y, hy⟩ : ∃ y, x.texts[q] = y := ⟨_, rfl⟩
          obtain ⟨vq, hvq⟩ : ∃ vq, x.vers[q]'(by omega) = vq := ⟨_, rfl⟩
          rw [hvq] at e9 HDD2
          rw [hy] at e0 e1 ht1 ht2 hgt HDD2
          have HGT := Lib.hid hgt
          have HTMy : Hid (TM wr Aa ca Ab cb y.a y.b) := Lib.hid ⟨ht1, ht2, hgt.short.1, hgt.short.2⟩
          have HBK := Lib.hid ((H1x.out.to (HB2.out.trans (hbl.mono HB2.out.size))))
          have HLr : Hid (Laid wr) := Lib.hid ((HT.out.to ((HB3.out.trans (HB2.out.mono HB3.out.size)).trans (hbl.mono (Nat.le_trans HB3.out.size HB2.out.size)))).1)
          have HE9 := Lib.hid e9
          have hsml := okPages_lines y.a y.b m h
          have hsmp := okPages_small y.a y.b m h
          have hqI : (q : Int) < (x.texts.length : Int) := by omega
          clear hy ht1 ht2 hgt hbl hvq e9
          go_upto_region 11 with (fail)
          clear y3
          refine wp_region_rely [9] (fun i => if i = 9 then SP.pgs (okPages y.a y.b m h) else SP.any) 15 (by kernel_rfl) (by kernel_rfl) ?_
          intro T _ g hg hgm
          have qx : ∀ d, (g d).cell? ⟨X, 3, none⟩ = some (.slice (some ⟨bt, ot, none⟩) x.texts.length cn) := fun d => (HXr.out.to (hg d)).cell 3 rfl
          have q0 : ∀ d, (g d).cell? ⟨bt, ot + q * 2, none⟩ = some (.slice Aa y.a.length ca) := fun d => ((hg d).cell (p := ⟨bt, ot + q * 2, none⟩) hbt).trans e0
          have q1 : ∀ d, (g d).cell? ⟨bt, ot + q * 2 + 1, none⟩ = some (.slice Ab y.b.length cb) := fun d => ((hg d).cell (p := ⟨bt, ot + q * 2 + 1, none⟩) hbt).trans e1
          have r0 : ∀ d, (g d).cell? ⟨b1, 0, none⟩ = some (.int .i64 m) := fun d => (HBK.out.to (hg d)).cell 0 rfl
          have r1 : ∀ d, (g d).cell? ⟨b1, 1, none⟩ = some (.int .i64 h) := fun d => (HBK.out.to (hg d)).cell 1 rfl
          repeat (refine wpR_pure (by rfl) fun Kq hq => ?_; go_big_quiet_step (fail); refine wpQuiet_nil (hq _ ?_); clear hq Kq)
          refine wpR_busy (by rfl) (by rfl) (fun d hG K Q hK => ?_) (fun v d hG hp Kr hr => ?_)
          · go_simp
            go_at_call 13
            refine (ptextG_any Aa Ab ca cb y.a y.b m h (g d) (HLr.out.to (hg d)) (HTMy.out.to (hg d)) HGT.out HZ.out).mono ?_
            rintro e V1 ⟨Aw, cw, rfl, hs, hb1⟩
            go_simp
            exact hK _ _ hb1 ⟨Aw, cw, rfl, hs⟩
          obtain ⟨Aw, cw, hv, -⟩ := hp
          subst hv
          clear hG
          simp only [Act.put, List.setIfInBounds_toArray, List.set_cons_zero, List.set_cons_succ]
          refine hr _ ?_
          clear hr Kr
          repeat (refine wpR_pure (by rfl) fun Kq hq => ?_; go_big_quiet_step (fail); refine wpQuiet_nil (hq _ ?_); clear hq Kq)
          refine wpR_end (by kernel_rfl) (fun d hG => ?_) _
          clear qx q0 q1 r0 r1
          have hG9 : (SP.pgs (okPages y.a y.b m h)).p (.tuple #[.slice Aw (okPages y.a y.b m h).length cw, .int .i64 0]) (g d) := hG 9
          obtain ⟨A5, c5, e5, hws⟩ := hG9
          cases e5
          have HBd := Lib.hid (hg d)
          clear hG hg hgm
          unfold Exit.then
          generalize g d = w4 at *
          clear g
          obtain ⟨ws, hwe⟩ : ∃ ws, okPages y.a y.b m h = ws := ⟨_, rfl⟩
          rw [hwe] at hws HDD2 hsml hsmp ⊢
          have HWS := Lib.hid hws
          have HSML := Lib.hid hsml
          have HSMP := Lib.hid hsmp
          obtain ⟨nw, hnw⟩ : ∃ nw, ws.length = nw := ⟨_, rfl⟩
          have HNW := Lib.hid hnw
          have hwc : nw ≤ cw := by rw [← hnw]; exact hws.1
          have hlen := core_len HDD2.out (by rw [List.length_map, HNP.out]; exact ha)
          rw [List.length_map, List.length_map, HNP.out, hnw] at hlen
          rw [hnw]
          have HBd4 := Lib.hid (HBL.out.trans (HBd.out.mono HBL.out.size))
          have HBd4x := HBd
          have hlenI : ((a : Int) + (nw : Int)) ≤ (np : Int) := by omega
          have hnwp : nw ≤ 3920 := by omega
          clear hwe hnw hws hsml hsmp e0 e1
          go_wp2_with fail
          obtain ⟨wo, rfl⟩ : ∃ wo : World, wo = wr := ⟨_, rfl⟩
          go_loopw [11] (fun j wx => ∃ z : Nat, z ≤ nw ∧ j = .int .i64 z ∧ Below w4.heap.size w4 wx) (fun j _ => nw - (intOf j).toNat)
          case atStart => exact ⟨0, by omega, rfl, Below.refl _ _⟩
          case round =>
            obtain ⟨z, hz, rfl, hbz⟩ := hrel
            have HBZ := Lib.hid hbz
            by_cases hzn : z < nw
            · have hzl : z < ws.length := by rw [HNW.out]; exact hzn
              have hat := core_at HDD2.out (j := z) (by rw [List.length_map]; exact hzl)
              have hazl : a + z < ps.length := by rw [HNP.out]; omega
              rw [List.getElem?_map, List.getElem?_eq_getElem hazl, List.getElem_map] at hat
              have hat2 : ps[a + z].core = coreT x.entry vq ws[z] := Option.some.inj hat
              obtain ⟨bp, op, P1, d1, P2, d2, rfl, -, hbp, f0, f1, f2, f3, f4, f5, hp1, hp2⟩ := pageS_at (HPS.out.to (HB2.out.trans ((HBd4.out.trans (hbz.mono HBd4.out.size)).mono HB2.out.size))) hazl
              obtain ⟨bw, ow, Q1, g1, Q2, g2, rfl, -, hbw, -, -, -, -, k4, k5, hq1, hq2⟩ := pageS_at (HWS.out.to hbz) hzl
              have hs1 := HSML.out _ (List.getElem_mem hzl)
              have hs2 := HSMP.out _ (List.getElem_mem hzl)
              obtain ⟨pg, hpg⟩ : ∃ pg, ps[a + z] = pg := ⟨_, rfl⟩
              obtain ⟨wp', hwp⟩ : ∃ wp', ws[z] = wp' := ⟨_, rfl⟩
              rw [hpg] at f0 f1 f2 f3 f4 f5 hp1 hp2 hat2
              rw [hwp] at k4 k5 hq1 hq2 hs1 hs2 hat2
              obtain ⟨en, vn, sn, un, bo, no⟩ := pg
              have h1 := congrArg CoreP.entry hat2
              have h2 := congrArg CoreP.ver hat2
              have h3 := congrArg CoreP.body hat2
              have h4 := congrArg CoreP.notes hat2
              simp only [PageP.core, coreT] at h1 h2 h3 h4
              subst h1 h2 h3 h4
              have HS1 := Lib.hid hs1
              have HS2 := Lib.hid hs2
              have HPB := Lib.hid hp1
              have HPN := Lib.hid hp2
              have HQB := Lib.hid hq1
              have HQN := Lib.hid hq2
              have HAZ : Hid ((a : Int) + (z : Int) = ((a + z : Nat) : Int)) := Lib.hid (by omega)
              have hzI : (z : Int) < (nw : Int) := by omega
              have hazI : ((a + z : Nat) : Int) < (np : Int) := by omega
              have haz2 : a + z < np := by omega
              obtain ⟨Y, hY⟩ : ∃ Y, wr.heap.size = Y := ⟨_, rfl⟩
              obtain ⟨w5, hw5⟩ : ∃ w5, wr.alloc (.cells #[.int .i64 en, .int .i64 vn, .int .i64 x.entry, .int .i64 un, .slice P1 wp'.body.length d1, .slice P2 wp'.notes.length d2] 42) = w5 := ⟨_, rfl⟩
              have hb5 : Below wr.heap.size wr w5 := by rw [← hw5]; exact (Below.refl _ _).alloc (Nat.le_refl _) _
              have hyy : ABox w5 Y 42 [.int .i64 en, .int .i64 vn, .int .i64 x.entry, .int .i64 un, .slice P1 wp'.body.length d1, .slice P2 wp'.notes.length d2] := by rw [← hw5, ← hY]; exact heap_alloc_new wr _
              have HYY := Lib.hid hyy
              have HB5 := Lib.hid (hbz.trans (hb5.mono hbz.size))
              have HW5 := Lib.hid hb5
              have HXw := Lib.hid ((HXr.out.to HBd4x.out).to HB5.out)
              have he9 := ((HBd4x.out.trans (HB5.out.mono HBd4x.out.size)).cell (p := ⟨bv, ov + q, none⟩) hbv).trans HE9.out
              have HLV : Hid (bv < w5.heap.size) := Lib.hid (by have := HBd4x.out.size; have := HB5.out.size; omega)
              have HLW : Hid (bw < w5.heap.size) := Lib.hid (by have := hb5.size; omega)
              have HB54 := HW5
              have hk4 := (hb5.cell (p := ⟨bw, ow + z * 6 + 4, none⟩) hbw).trans k4
              have hk5 := (hb5.cell (p := ⟨bw, ow + z * 6 + 5, none⟩) hbw).trans k5
              clear hat hat2 hazl hzl hs1 hs2 hp1 hp2 hq1 hq2 hpg hwp hbz hb5 hyy k4 k5
              go_upto_region 17 with (fail)
              go_upto_region 18 with (fail)
              try rw [hw5]
              try rw [hY]
              clear hw5 hY f0 f1 f2 f3 f4 f5
              have hqvI : (q : Int) < (x.vers.length : Int) := by omega
              refine wp_region_rely [23, 34] (fun i => if i = 23 then SP.val (.bool true) else if i = 34 then SP.val (.bool true) else SP.any) 37 (by kernel_rfl) (by kernel_rfl) ?_
              intro T _ g hg hgm
              have yy2 : ∀ d, (g d).cell? ⟨Y, 2, none⟩ = some (.int .i64 x.entry) := fun d => (HYY.out.to (hg d)).cell 2 rfl
              have yy3 : ∀ d, (g d).cell? ⟨Y, 3, none⟩ = some (.int .i64 un) := fun d => (HYY.out.to (hg d)).cell 3 rfl
              have yy4 : ∀ d, (g d).cell? ⟨Y, 4, none⟩ = some (.slice P1 wp'.body.length d1) := fun d => (HYY.out.to (hg d)).cell 4 rfl
              have yy5 : ∀ d, (g d).cell? ⟨Y, 5, none⟩ = some (.slice P2 wp'.notes.length d2) := fun d => (HYY.out.to (hg d)).cell 5 rfl
              have xx0 : ∀ d, (g d).cell? ⟨X, 0, none⟩ = some (.int .i64 x.entry) := fun d => (HXw.out.to (hg d)).cell 0 rfl
              have xx2 : ∀ d, (g d).cell? ⟨X, 2, none⟩ = some (.slice (some ⟨bv, ov, none⟩) x.vers.length cg) := fun d => (HXw.out.to (hg d)).cell 2 rfl
              have vv0 : ∀ d, (g d).cell? ⟨bv, ov + q, none⟩ = some (.int .i64 un) := fun d => ((hg d).cell (p := ⟨bv, ov + q, none⟩) HLV.out).trans he9
              have kk4 : ∀ d, (g d).cell? ⟨bw, ow + z * 6 + 4, none⟩ = some (.slice Q1 wp'.body.length g1) := fun d => ((hg d).cell (p := ⟨bw, ow + z * 6 + 4, none⟩) HLW.out).trans hk4
              have kk5 : ∀ d, (g d).cell? ⟨bw, ow + z * 6 + 5, none⟩ = some (.slice Q2 wp'.notes.length g2) := fun d => ((hg d).cell (p := ⟨bw, ow + z * 6 + 5, none⟩) HLW.out).trans hk5
              repeat (refine wpR_pure (by rfl) fun Kq hq => ?_; go_big_quiet_step (fail); refine wpQuiet_nil (hq _ ?_); clear hq Kq)
              refine wpR_busy (by rfl) (by rfl) (fun d hG K Q hK => ?_) (fun v d hG hp Kr hr => ?_)
              · go_simp
                go_at_call 14
                refine (sameLines_any P1 Q1 d1 g1 wp'.body.length wp'.body (g d) (((HPB.out.to (HB54.out)).to (hg d))) (((HQB.out.to (HW5.out)).to (hg d))) rfl HS2.out.1 HS1.out.1).mono ?_
                rintro e W1 ⟨rfl, hb1⟩
                go_simp
                exact hK _ _ hb1 (rfl)
              have hp : v = .bool true := hp
              subst hp
              (try clear hp); clear hG
              simp only [Act.put, List.setIfInBounds_toArray, List.set_cons_zero, List.set_cons_succ]
              refine hr _ ?_
              clear hr Kr
              repeat (refine wpR_pure (by rfl) fun Kq hq => ?_; go_big_quiet_step (fail); refine wpQuiet_nil (hq _ ?_); clear hq Kq)
              refine wpR_busy (by rfl) (by rfl) (fun d hG K Q hK => ?_) (fun v d hG hp Kr hr => ?_)
              · go_simp
                go_at_call 14
                refine (sameLines_any P2 Q2 d2 g2 wp'.notes.length wp'.notes (g d) (((HPN.out.to (HB54.out)).to (hg d))) (((HQN.out.to (HW5.out)).to (hg d))) rfl HS2.out.2 HS1.out.2).mono ?_
                rintro e W1 ⟨rfl, hb1⟩
                go_simp
                exact hK _ _ hb1 (rfl)
              have hp : v = .bool true := hp
              subst hp
              (try clear hp); clear hG
              simp only [Act.put, List.setIfInBounds_toArray, List.set_cons_zero, List.set_cons_succ]
              refine hr _ ?_
              clear hr Kr
              repeat (refine wpR_pure (by rfl) fun Kq hq => ?_; go_big_quiet_step (fail); refine wpQuiet_nil (hq _ ?_); clear hq Kq)
              refine wpR_end (by kernel_rfl) (fun d hG => ?_) _
              clear yy2 yy3 yy4 yy5 xx0 xx2 vv0 kk4 kk5
              have HBd := Lib.hid (hg d)
              clear hG hg hgm
              unfold Exit.then
              have HBZ2 := Lib.hid (HB5.out.trans (HBd.out.mono HB5.out.size))
              generalize g d = w6 at *
              clear g
              go_wp2_with fail
              go_roundw
              case rel => exact ⟨z + 1, by omega, by go_num, HBZ2.out⟩
              case measure => simp [intOf]; omega
            · obtain rfl : z = nw := by omega
              have HB6 := Lib.hid (HBd4.out.trans (hbz.mono HBd4.out.size))
              have hnx := core_next HDD2.out
              rw [List.length_map, HNW.out] at hnx
              have HNX := Lib.hid hnx
              clear hbz hnx
              go_wp2_with fail
              go_roundw
              case rel => exact ⟨q + 1, a + z, by omega, by go_num, by go_num, by omega, HNX.out, HB6.out⟩
              case measure => simp [intOf]; omega
        · obtain rfl : q = x.texts.length := by omega
          have hnx := HD.out
          rw [List.drop_of_length_le (Nat.le_refl x.texts.length)] at hnx
          have HNX : Hid ((ps.map PageP.core).drop a = coreS m h (ss.drop (k + 1))) := Lib.hid (by
            rw [hnx]
            cases x.vers.drop x.texts.length <;> rfl)
          have HB6 := Lib.hid (HB2.out.trans (hbl.mono HB2.out.size))
          clear hbl hnx
          go_wp2_with fail
          go_roundw
          case rel => exact ⟨k + 1, a, by omega, by go_num, rfl, ha, HNX.out, HB6.out⟩
          case measure => simp [intOf]; omega
    · obtain rfl : k = n := by omega
      have haeq : a = np := by
        have h1 := congrArg List.length HD.out
        have h0 : ss.drop k = [] := List.drop_of_length_le (by rw [HN.out]; exact Nat.le_refl _)
        rw [h0, List.length_drop, List.length_map, HNP.out] at h1
        have h2 : (coreS m h []).length = 0 := rfl
        omega
      subst haeq
      have HBE := Lib.hid (HB3.out.trans (hbl.mono HB3.out.size))
      clear hbl
      go_wp2_with fail
      refine (lives_any wr (HT.out.to HBE.out)).mono ?_
      rintro e W9 ⟨rfl, hb⟩
      have HB9 := Lib.hid (HBE.out.trans (hb.mono HBE.out.size))
      clear hb
      go_wp2_with fail
      go_ret
      exact ⟨rfl, HB9.out⟩
end Go.Proofs.YtakaielemicpkaaDoor
namespace Go.Proofs.YtakaielemicpkaaDoor
open Go.RowKit
def hitL (wd : Int) (x : LineP) : Bool := decide (x.fr ≤ wd ∧ wd < x.un)
/-- How many lines have a word. -/
def cntL (wd : Int) (l : List LineP) : Nat := l.countP (hitL wd)
theorem cntL_append (wd : Int) (a b : List LineP) : cntL wd (a ++ b) = cntL wd a + cntL wd b := List.countP_append
/-- The number of the last line that has it, of a list turned about. -/
def lastR (wd : Int) : List LineP → Nat
  | [] => 0
  | x :: r => if hitL wd x = true then r.length + 1 else lastR wd r
theorem lines_one (wd m first : Int) (ws : List Word) (wl : List Int) : ∀ (es : List Nat) (i : Nat), endsF i ws.length es → cntL wd (linesFrom ws wl m first i es) = if first + i ≤ wd ∧ wd < first + ws.length then 1 else 0
  | [], i, h => by
    have : i = ws.length := h
    subst this
    rw [if_neg (by omega)]; rfl
  | e :: es, i, h => by
    obtain ⟨h1, h2, h3⟩ := h
    rw [linesFrom]
    have ih := lines_one wd m first ws wl es e h3
    unfold cntL at ih ⊢
    rw [List.countP_cons, ih]
    unfold hitL
    simp only [decide_eq_true_eq]
    split <;> split <;> (try split) <;> omega
theorem parts_one (wd m : Int) : ∀ (l : List (List Word)) (first : Int), (∀ p ∈ l, Reg (widthsP p) m) → cntL wd (partsP m first l).flatten = if first ≤ wd ∧ wd < first + (tot l : Nat) then 1 else 0
  | [], first, _ => by
    rw [if_neg (by have : tot ([] : List (List Word)) = 0 := rfl; omega)]; rfl
  | p :: l, first, h => by
    rw [partsP, List.flatten_cons, cntL_append, parts_one wd m l _ (fun q hq => h q (by simp [hq]))]
    unfold setP
    rw [lines_one wd m first p _ _ 0 (endsP_full (h p (by simp)))]
    have e : tot (p :: l) = p.length + tot l := by unfold tot; simp
    rw [e]
    split <;> split <;> (try split) <;> omega
theorem pages_sum (wd : Int) (notes : List (List LineP)) (h : Nat) (h4 : 4 ≤ h) : ∀ (f : Nat) (body queue : List LineP), allLines body notes + queue.length ≤ f → ((setPages notes h f body queue).map fun p => cntL wd (p.body ++ p.notes)).sum = cntL wd body + cntL wd (queue ++ body.flatMap (noteLines notes))
  | 0, body, queue, hf => by
    have hb : body = [] := by
      cases body with
      | nil => rfl
      | cons x xs => rw [allLines, List.map_cons, List.sum_cons] at hf; omega
    have hq : queue = [] := List.eq_nil_of_length_eq_zero (by omega)
    subst hb hq
    simp [setPages, cntL]
  | f + 1, body, queue, hf => by
    rw [setPages]
    split
    · rename_i hn
      obtain ⟨rfl, rfl⟩ := hn
      simp [cntL]
    · rename_i hn
      have hl := page_less notes h h4 body queue hn
      obtain ⟨k, a, b, c, d, e⟩ := fillP_spec notes h body 0 (min queue.length (h - 1)) queue (Nat.min_le_left _ _)
      dsimp only at hl ⊢
      rw [List.map_cons, List.sum_cons, pages_sum wd notes h h4 f _ _ (by omega)]
      generalize fillP notes h body 0 (min queue.length (h - 1)) queue = F at *
      have h1 : cntL wd body = cntL wd (body.take F.1) + cntL wd (body.drop F.1) := by rw [← cntL_append, List.take_append_drop]
      have h2 : cntL wd F.2.2 = cntL wd (F.2.2.take F.2.1) + cntL wd (F.2.2.drop F.2.1) := by rw [← cntL_append, List.take_append_drop]
      have h3 : cntL wd (body.flatMap (noteLines notes)) = cntL wd ((body.take F.1).flatMap (noteLines notes)) + cntL wd ((body.drop F.1).flatMap (noteLines notes)) := by rw [← cntL_append, ← List.flatMap_append, List.take_append_drop]
      have h4' : cntL wd F.2.2 = cntL wd queue + cntL wd ((body.take F.1).flatMap (noteLines notes)) := by rw [d, b, Nat.zero_add, cntL_append]
      simp only [cntL_append]
      omega
theorem up_refs (notes : List (List LineP)) : ∀ (j a : Nat), a + j = notes.length → ((up (a : Int) j).map (· - 1)).flatMap (fun n => notes.getD n.toNat []) = (notes.drop a).flatten
  | 0, a, h => by
    rw [up, List.drop_of_length_le (by omega)]; rfl
  | j + 1, a, h => by
    have hl : a < notes.length := by omega
    rw [up, List.map_cons, List.flatMap_cons, show ((a : Int) + 1) = ((a + 1 : Nat) : Int) by omega, up_refs notes j (a + 1) (by omega), List.drop_eq_getElem_cons hl, List.flatten_cons]
    have e : (((a + 1 : Nat) : Int) - 1).toNat = a := by omega
    rw [e, List.getD_eq_getElem?_getD, List.getElem?_eq_getElem hl]; rfl
theorem GText.refs {a b : List (List Word)} (hg : GText a b) {m : Int} (hm : 500 ≤ m ∧ m ≤ 2000) : (bodyP a m).flatMap (noteLines (notesLP a b m)) = (notesLP a b m).flatten := by
  have hf := hg.fine
  have h2 : (bodyP a m).flatMap (·.notes) = (up 0 b.length).map (· - 1) := by
    unfold bodyP
    rw [parts_notes a 0 (fun p hp => hf.reg hm.1 hm.2 (by simp [hp])), notesP_seq, hg.seq]
  have h3 : (bodyP a m).flatMap (noteLines (notesLP a b m)) = ((bodyP a m).flatMap (·.notes)).flatMap (fun n => (notesLP a b m).getD n.toNat []) := by
    rw [List.flatMap_assoc]; rfl
  rw [h3, h2]
  have := up_refs (notesLP a b m) b.length 0 (by rw [Nat.zero_add]; exact (partsP_length m b _).symm)
  rw [List.drop_zero] at this
  exact this
/-- All pages of a text have a word of it on one line. -/
theorem GText.once {a b : List (List Word)} (hg : GText a b) {m h : Int} (hz : Siz m h) (wd : Int) (h0 : 0 ≤ wd) (h1 : wd < (Go.Proofs.YtakaielemicpkaaDoor.tot (a ++ b) : Nat)) : ((okPages a b m h).map fun p => cntL wd (p.body ++ p.notes)).sum = 1 := by
  have hm : 500 ≤ m ∧ m ≤ 2000 := ⟨hz.m1, hz.m2⟩
  rw [(hg.pages hm ⟨hz.h1, hz.h2⟩).1]
  unfold pagesOfText
  rw [pages_sum wd _ _ (by have := hz.h1; omega) _ _ _ (by simp), List.nil_append, hg.refs hm, ← cntL_append]
  have hf := hg.fine
  have e : bodyP a m ++ (notesLP a b m).flatten = (partsP m 0 (a ++ b)).flatten := by
    rw [partsP_append, List.flatten_append, Int.zero_add]; rfl
  rw [e, parts_one wd m (a ++ b) 0 (fun p hp => hf.reg hm.1 hm.2 hp), if_pos (by omega)]
/-- The same over all pages of a book. -/
def sumC (e v wd : Int) (l : List CoreP) : Nat := (l.map fun c => if c.entry = e ∧ c.ver = v then cntL wd (c.body ++ c.notes) else 0).sum
theorem sumC_append (e v wd : Int) (a b : List CoreP) : sumC e v wd (a ++ b) = sumC e v wd a + sumC e v wd b := by unfold sumC; rw [List.map_append, List.sum_append]
theorem sumC_yes (e v wd : Int) (ps : List PageP) : sumC e v wd (ps.map (coreT e v)) = (ps.map fun p => cntL wd (p.body ++ p.notes)).sum := by
  unfold sumC
  rw [List.map_map]
  congr 1
  apply List.map_congr_left
  intro p _
  show (if e = e ∧ v = v then _ else _) = _
  rw [if_pos ⟨rfl, rfl⟩]; rfl
theorem sumC_no (e v wd e' v' : Int) (hne : ¬ (e' = e ∧ v' = v)) : ∀ (ps : List PageP), sumC e v wd (ps.map (coreT e' v')) = 0
  | [] => rfl
  | p :: ps => by
    have ih := sumC_no e v wd e' v' hne ps
    unfold sumC at ih ⊢
    rw [List.map_cons, List.map_cons, List.sum_cons, ih]
    show (if e' = e ∧ v' = v then _ else 0) + 0 = 0
    rw [if_neg hne]
theorem sumV_entry (m h e v wd e' : Int) (hne : e' ≠ e) : ∀ (ts : List TextP) (vs : List Int), sumC e v wd (coreV m h e' vs ts) = 0
  | [], _ => by simp [coreV, sumC]
  | t :: ts, vs => by rw [coreV, sumC_append, sumC_no e v wd e' _ (fun hh => hne hh.1), sumV_entry m h e v wd e' hne ts]
theorem sumV_ver (m h e v wd : Int) : ∀ (ts : List TextP) (vs : List Int), ts.length ≤ vs.length → v ∉ vs → sumC e v wd (coreV m h e vs ts) = 0
  | [], _, _, _ => by simp [coreV, sumC]
  | t :: ts, [], hl, _ => by simp at hl
  | t :: ts, x :: vs, hl, hv => by
    rw [coreV, sumC_append, sumC_no e v wd e _ (fun hh => hv (by have := hh.2; simp at this; simp [this])), List.tail_cons, sumV_ver m h e v wd ts vs (by simpa using hl) (fun hh => hv (by simp [hh]))]
theorem sumV_at (m h e wd : Int) : ∀ (ts : List TextP) (vs : List Int) (k : Nat) (hk : k < ts.length) (hv : k < vs.length), ts.length ≤ vs.length → vs.Nodup → sumC e vs[k] wd (coreV m h e vs ts) = ((okPages ts[k].a ts[k].b m h).map fun p => cntL wd (p.body ++ p.notes)).sum
  | t :: ts, x :: vs, 0, hk, hv, hl, hn => by
    rw [coreV, sumC_append]
    show sumC e x wd ((okPages t.a t.b m h).map (coreT e x)) + sumC e x wd (coreV m h e vs ts) = _
    rw [sumC_yes, sumV_ver m h e x wd ts vs (by simpa using hl) (List.nodup_cons.1 hn).1]; rfl
  | t :: ts, x :: vs, k + 1, hk, hv, hl, hn => by
    have hk' : k < ts.length := by simpa using hk
    have hv' : k < vs.length := by simpa using hv
    rw [coreV, sumC_append]
    show sumC e vs[k] wd ((okPages t.a t.b m h).map (coreT e x)) + sumC e vs[k] wd (coreV m h e vs ts) = _
    rw [sumC_no e _ wd e x (fun hh => (List.nodup_cons.1 hn).1 (by rw [hh.2]; exact List.getElem_mem hv')), Nat.zero_add, sumV_at m h e wd ts vs k hk' hv' (by simpa using hl) (List.nodup_cons.1 hn).2]; rfl
theorem sumS_entry (m h e v wd : Int) : ∀ (l : List SectP), (∀ s ∈ l, s.entry ≠ e) → sumC e v wd (coreS m h l) = 0
  | [], _ => rfl
  | s :: l, hs => by
    show sumC e v wd (coreV m h s.entry s.vers s.texts ++ coreS m h l) = 0
    rw [sumC_append, sumV_entry m h e v wd _ (hs s (by simp)), sumS_entry m h e v wd l (fun x hx => hs x (by simp [hx]))]
theorem versG_nodup (i j : Nat) (hi : i ≤ 3) (hj : j ≤ 2) : (versG i j).Nodup := by
  unfold versG
  refine List.nodup_cons.2 ⟨fun hm => ?_, ?_⟩
  · obtain ⟨k, hk, e⟩ := List.mem_map.1 hm
    have := List.mem_range.1 hk
    omega
  · rw [List.nodup_iff_pairwise_ne, List.pairwise_map]
    refine List.Pairwise.imp_of_mem (R := (· < ·)) (fun {a b} _ _ hab => ?_) List.pairwise_lt_range
    omega
theorem GBk.once {m h : Int} {l : List SectP} (H : GBk m h l) {i k : Nat} (hi : i < l.length) (hk : k < l[i].texts.length) (hv : k < l[i].vers.length) (wd : Int) (h0 : 0 ≤ wd) (h1 : wd < (tot (l[i].texts[k].a ++ l[i].texts[k].b) : Nat)) : sumC l[i].entry (l[i].vers[k]) wd ((pagesB m h l).map PageP.core) = 1 := by
  obtain ⟨f, hf⟩ := H.s
  have hn := H.n
  have hent : ∀ (a : Nat) (ha : a < l.length), ∃ d : Nat, d ≤ 1 ∧ l[a].entry = 2 * (a : Int) + d := fun a ha => (hf a ha).1
  have hsp : l = l.take i ++ l[i] :: l.drop (i + 1) := by rw [← List.drop_eq_getElem_cons hi, List.take_append_drop]
  rw [pagesB_core]
  have hc : coreS m h l = coreS m h (l.take i) ++ (coreV m h l[i].entry l[i].vers l[i].texts ++ coreS m h (l.drop (i + 1))) := by
    conv => lhs; rw [hsp]
    unfold coreS
    rw [List.flatMap_append, List.flatMap_cons]
  rw [hc, sumC_append, sumC_append]
  obtain ⟨d, hd, he⟩ := hent i hi
  rw [sumS_entry m h _ _ wd (l.take i) (fun s hs => by
      obtain ⟨a, ha, rfl⟩ := List.getElem_of_mem hs
      rw [List.length_take] at ha
      rw [List.getElem_take]
      obtain ⟨d', hd', he'⟩ := hent a (by omega)
      omega),
    sumS_entry m h _ _ wd (l.drop (i + 1)) (fun s hs => by
      obtain ⟨a, ha, rfl⟩ := List.getElem_of_mem hs
      rw [List.length_drop] at ha
      rw [List.getElem_drop]
      obtain ⟨d', hd', he'⟩ := hent (i + 1 + a) (by omega)
      omega)]
  obtain ⟨-, -, j, hj, -, hvs, htl, hg⟩ := hf i hi
  rw [sumV_at m h _ wd _ _ k hk hv (by rw [hvs, versG_len, htl]; omega) (by rw [hvs]; exact versG_nodup i j (by omega) hj)]
  rw [(hg _ (List.getElem_mem hk)).once H.siz wd h0 h1]
end Go.Proofs.YtakaielemicpkaaDoor
namespace Go.Proofs.YtakaielemicpkaaDoor
open Go.RowKit
theorem lastR_snoc (wd : Int) : ∀ (r : List LineP) (x : LineP), lastR wd (r ++ [x]) = if lastR wd r = 0 then (if hitL wd x = true then 1 else 0) else lastR wd r + 1
  | [], x => by simp [lastR]
  | y :: r, x => by
    rw [List.cons_append, lastR, lastR, lastR_snoc wd r x]
    by_cases hy : hitL wd y = true
    · rw [if_pos hy, if_pos hy, if_neg (by omega), List.length_append, List.length_singleton]
    · rw [if_neg hy, if_neg hy]
theorem last_none (wd : Int) : ∀ (l : List LineP), cntL wd l = 0 → lastR wd l.reverse = 0 ∧ lineP l wd = none
  | [], _ => ⟨rfl, rfl⟩
  | x :: xs, h => by
    unfold cntL at h
    rw [List.countP_cons] at h
    have hx : ¬ hitL wd x = true := fun e => by rw [if_pos e] at h; omega
    obtain ⟨h1, h2⟩ := last_none wd xs (by unfold cntL; omega)
    refine ⟨by rw [List.reverse_cons, lastR_snoc, h1, if_pos rfl, if_neg hx], ?_⟩
    unfold lineP at h2 ⊢
    rw [List.findIdx?_cons, if_neg (show ¬ (decide (x.fr ≤ wd ∧ wd < x.un)) = true from hx), h2]; rfl
theorem last_one (wd : Int) : ∀ (l : List LineP), cntL wd l = 1 → ∃ i, lineP l wd = some i ∧ lastR wd l.reverse = i + 1
  | [], h => by simp [cntL] at h
  | x :: xs, h => by
    unfold cntL at h
    rw [List.countP_cons] at h
    by_cases hx : hitL wd x = true
    · rw [if_pos hx] at h
      obtain ⟨h1, -⟩ := last_none wd xs (by unfold cntL; omega)
      refine ⟨0, ?_, by rw [List.reverse_cons, lastR_snoc, h1, if_pos rfl, if_pos hx]⟩
      unfold lineP
      rw [List.findIdx?_cons, if_pos (show (decide (x.fr ≤ wd ∧ wd < x.un)) = true from hx)]
    · rw [if_neg hx] at h
      obtain ⟨i, h1, h2⟩ := last_one wd xs (by unfold cntL; omega)
      refine ⟨i + 1, ?_, by rw [List.reverse_cons, lastR_snoc, h2, if_neg (by omega)]⟩
      unfold lineP at h1 ⊢
      rw [List.findIdx?_cons, if_neg (show ¬ (decide (x.fr ≤ wd ∧ wd < x.un)) = true from hx), h1]; rfl
/-- The lines of the pages of a version that have a word. -/
def sumP (e v wd : Int) (ps : List PageP) : Nat := sumC e v wd (ps.map PageP.core)
theorem sumP_cons (e v wd : Int) (p : PageP) (ps : List PageP) : sumP e v wd (p :: ps) = (if p.entry = e ∧ p.ver = v then cntL wd (p.body ++ p.notes) else 0) + sumP e v wd ps := rfl
theorem sumP_append (e v wd : Int) (a b : List PageP) : sumP e v wd (a ++ b) = sumP e v wd a + sumP e v wd b := by unfold sumP; rw [List.map_append, sumC_append]
theorem sumP_take (e v wd : Int) (ps : List PageP) {j : Nat} (hj : j < ps.length) : sumP e v wd (ps.take (j + 1)) = sumP e v wd (ps.take j) + (if ps[j].entry = e ∧ ps[j].ver = v then cntL wd (ps[j].body ++ ps[j].notes) else 0) := by
  rw [List.take_succ_eq_append_getElem hj, sumP_append, sumP_cons]; rfl
theorem where_zero (e v wd : Int) : ∀ (ps : List PageP), sumP e v wd ps = 0 → whereP e v wd ps = none
  | [], _ => rfl
  | p :: ps, h => by
    rw [sumP_cons] at h
    rw [whereP]
    by_cases hm : p.entry = e ∧ p.ver = v
    · rw [if_pos hm] at h ⊢
      rw [(last_none wd _ (show cntL wd (p.body ++ p.notes) = 0 by omega)).2]
      exact where_zero e v wd ps (by omega)
    · rw [if_neg hm] at h ⊢
      exact where_zero e v wd ps (by omega)
theorem where_one {e v wd : Int} {ps : List PageP} (h : sumP e v wd ps = 1) {j : Nat} (hj : j < ps.length) (hm : ps[j].entry = e ∧ ps[j].ver = v) (hc : 0 < cntL wd (ps[j].body ++ ps[j].notes)) :
    whereP e v wd ps = some (ps[j].num, ps[j].suf, lastR wd (ps[j].body ++ ps[j].notes).reverse) := by
  have hs : ps = ps.take j ++ ps[j] :: ps.drop (j + 1) := by rw [← List.drop_eq_getElem_cons hj, List.take_append_drop]
  have h1 : sumP e v wd ps = sumP e v wd (ps.take j) + ((if ps[j].entry = e ∧ ps[j].ver = v then cntL wd (ps[j].body ++ ps[j].notes) else 0) + sumP e v wd (ps.drop (j + 1))) := by
    conv => lhs; rw [hs]
    rw [sumP_append, sumP_cons]
  rw [if_pos hm] at h1
  obtain ⟨i, h2, h3⟩ := last_one wd (ps[j].body ++ ps[j].notes) (by omega)
  conv => lhs; rw [hs]
  rw [whereP_append, where_zero e v wd (ps.take j) (by omega), Option.none_or, whereP, if_pos hm, h2, h3]
end Go.Proofs.YtakaielemicpkaaDoor
namespace Go.Proofs.YtakaielemicpkaaDoor
open Go.RowKit
set_option maxHeartbeats 1000000 in
theorem lines28_any (nu su en ve : Int) (A B : Option Addr) (c d : Nat) (a b : List LineP) (w : World) (ha : Sl w (fun b => b < w.heap.size) A c a) (hb : Sl w (fun b => b < w.heap.size) B d b) (hla : a.length ≤ 1048576) (hlb : b.length ≤ 1048576) :
    Calls Tryd.prog 31 #[.agg #[.int .i64 nu, .int .i64 su, .int .i64 en, .int .i64 ve, .slice A a.length c, .slice B b.length d]] w fun e w' => ∃ v, e = .returned v ∧ Own w' w.heap.size 73 v (a ++ b) ∧ Below w.heap.size w w' := by
  have hb0 := (Below.refl w.heap.size w).alloc (Nat.le_refl _) (.cells #[.int .i64 nu, .int .i64 su, .int .i64 en, .int .i64 ve, .slice A a.length c, .slice B b.length d] 42)
  have hx0 : ABox (w.alloc (.cells #[.int .i64 nu, .int .i64 su, .int .i64 en, .int .i64 ve, .slice A a.length c, .slice B b.length d] 42)) w.heap.size 42 [.int .i64 nu, .int .i64 su, .int .i64 en, .int .i64 ve, .slice A a.length c, .slice B b.length d] := heap_alloc_new w _
  have ha0 := ha.to hb0
  have hbb0 := hb.to hb0
  have hz0 : (w.alloc (.cells #[.int .i64 nu, .int .i64 su, .int .i64 en, .int .i64 ve, .slice A a.length c, .slice B b.length d] 42)).heap.size = w.heap.size + 1 := by simp
  go_enter Tryd.func31, Tryd.ntmps31
  go_upto_region 1 with (fail)
  generalize w.alloc (.cells #[.int .i64 nu, .int .i64 su, .int .i64 en, .int .i64 ve, .slice A a.length c, .slice B b.length d] 42) = w0 at *
  have HB0 := Lib.hid hb0
  have HX0 := Lib.hid hx0
  have HA := Lib.hid ha0
  have HBB := Lib.hid hbb0
  have HZ := Lib.hid hz0
  have x4 := hx0.cell 4 rfl
  have hzl : w.heap.size ≤ w0.heap.size := by omega
  clear hb0 hx0 ha0 hbb0 hz0 ha hb
  go_upto_region 3 with (first
    | (at_builtin; refine wpList_cat (α := LineP) _ rfl (.tmp 4) (.tmp 6) 40 rfl w0.heap.size 73 (.agg #[.int .i64 0, .int .i64 0, .slice none 0 0, .slice none 0 0]) 64 Tryd.underlying40 line_infoW rfl (by decide) (.slice none 0 0) [] rfl (Own.nil _ _ _) A c a.length a rfl rfl (fun b => b < w0.heap.size) HA.out (by intro i _ _ e; cases e) (by first | omega | (simp; done) | (simp; omega)) (by first | omega | (simp; done) | (simp; omega)) (by first | omega | (simp; done) | (simp; omega)) ?_; intro v2 w2 hown2 hg2 hat2; rw [List.nil_append] at hown2; have HO2 := Lib.hid hown2; have HG2 := Lib.hid (show Below w0.heap.size w0 w2 from ⟨hg2.os, hg2.tape, hg2.output, hg2.size, fun i hi => hg2.block i hi (by simp [Value.ownBlock])⟩); clear hown2 hg2 hat2 x4)
    | fail)
  have x5 := (HX0.out.to HG2.out).cell 5 rfl
  obtain ⟨A2, c2, rfl, _⟩ := HO2.out.form
  go_wp2_with (first
    | (at_builtin; refine wpList_cat (α := LineP) _ rfl (.tmp 8) (.tmp 10) 40 rfl w0.heap.size 73 (.agg #[.int .i64 0, .int .i64 0, .slice none 0 0, .slice none 0 0]) 64 Tryd.underlying40 line_infoW rfl (by decide) _ a rfl HO2.out B d b.length b rfl rfl (fun b => b < w0.heap.size) (HBB.out.keep (Kept.all HG2.out) HG2.out.size) (by intro i (hi : i < w0.heap.size) _ e; have := (HO2.out.lt i e.symm).1; omega) (by first | omega | (simp; done) | (simp; omega)) (by first | omega | (simp; done) | (simp; omega)) HG2.out.size ?_; intro v3 w3 hown3 hg3 hat3; have HO3 := Lib.hid hown3; have HB3 := Lib.hid (HB0.out.trans ((below_cat HG2.out HO2.out HG2.out.size hg3).mono hzl)); clear hown3 hg3 hat3 x5)
    | fail)
  go_ret
  exact ⟨_, rfl, HO3.out.re hzl, HB3.out⟩
theorem cnt_step (wd : Int) (l : List LineP) {k : Nat} (hk : k < l.length) : cntL wd (l.take (k + 1)) = cntL wd (l.take k) + (if hitL wd l[k] = true then 1 else 0) := by
  rw [List.take_succ_eq_append_getElem hk, cntL_append]
  congr 1
  unfold cntL
  rw [List.countP_cons]; simp
theorem last_step (wd : Int) (l : List LineP) {k : Nat} (hk : k < l.length) : lastR wd (l.take (k + 1)).reverse = if hitL wd l[k] = true then k + 1 else lastR wd (l.take k).reverse := by
  rw [List.take_succ_eq_append_getElem hk, List.reverse_append]
  show lastR wd (l[k] :: (l.take k).reverse) = _
  rw [lastR, List.length_reverse, List.length_take]
  split
  · omega
  · rfl
theorem cnt_le (wd : Int) (l : List LineP) : cntL wd l ≤ l.length := List.countP_le_length
set_option maxHeartbeats 1000000 in
theorem stands_any (nu su en ve wd : Int) (A B : Option Addr) (c d : Nat) (a b : List LineP) (w : World) (ha : Sl w (fun b => b < w.heap.size) A c a) (hb : Sl w (fun b => b < w.heap.size) B d b) (hla : a.length ≤ 1048576) (hlb : b.length ≤ 1048576) :
    Calls Tryd.prog 11 #[.agg #[.int .i64 nu, .int .i64 su, .int .i64 en, .int .i64 ve, .slice A a.length c, .slice B b.length d], .int .i64 wd] w fun e w' => e = .returned (.tuple #[.int .i64 (cntL wd (a ++ b) : Nat), .int .i64 (lastR wd (a ++ b).reverse : Nat)]) ∧ Below w.heap.size w w' := by
  have hb0 := (Below.refl w.heap.size w).alloc (Nat.le_refl _) (.cells #[.int .i64 nu, .int .i64 su, .int .i64 en, .int .i64 ve, .slice A a.length c, .slice B b.length d] 42)
  have hx0 : ABox (w.alloc (.cells #[.int .i64 nu, .int .i64 su, .int .i64 en, .int .i64 ve, .slice A a.length c, .slice B b.length d] 42)) w.heap.size 42 [.int .i64 nu, .int .i64 su, .int .i64 en, .int .i64 ve, .slice A a.length c, .slice B b.length d] := heap_alloc_new w _
  have HLC := Lib.hid (lines28_any nu su en ve A B c d a b _ (ha.to hb0) (hb.to hb0) hla hlb)
  go_enter Tryd.func11, Tryd.ntmps11
  go_upto_region 1 with (fail)
  generalize w.alloc (.cells #[.int .i64 nu, .int .i64 su, .int .i64 en, .int .i64 ve, .slice A a.length c, .slice B b.length d] 42) = w0 at *
  have HB0 := Lib.hid hb0
  have x0 := hx0.cell 0 rfl
  have x1 := hx0.cell 1 rfl
  have x2 := hx0.cell 2 rfl
  have x3 := hx0.cell 3 rfl
  have x4 := hx0.cell 4 rfl
  have x5 := hx0.cell 5 rfl
  clear hb0 hx0 ha hb
  go_wp2_with fail
  refine HLC.out.mono ?_
  rintro e w1 ⟨v, rfl, ho, hb1⟩
  have HB1 := Lib.hid (HB0.out.trans (hb1.mono HB0.out.size))
  obtain ⟨A1, c1, rfl, hs⟩ := ho.sl
  obtain ⟨ls, hls⟩ : ∃ ls, a ++ b = ls := ⟨_, rfl⟩
  have HLS := Lib.hid hls
  have hn2 : ls.length ≤ 2097152 := by rw [← hls, List.length_append]; omega
  rw [hls] at hs ⊢
  obtain ⟨n, hn⟩ : ∃ n, ls.length = n := ⟨_, rfl⟩
  have HN := Lib.hid hn
  have hnc : n ≤ c1 := by rw [← hn]; exact hs.1
  rw [hn] at hn2 ⊢
  have HSL := Lib.hid hs
  clear x0 x1 x2 x3 x4 x5 ho hb1 hls hs hn HLC
  go_wp2_with fail
  go_loop [7, 8, 9] (fun vn va i => ∃ k : Nat, k ≤ n ∧ i = .int .i64 k ∧ vn = .int .i64 (cntL wd (ls.take k) : Nat) ∧ va = .int .i64 (lastR wd (ls.take k).reverse : Nat)) (fun _ _ i => n - (intOf i).toNat)
  case atStart => exact ⟨0, by omega, rfl, rfl, rfl⟩
  case round =>
    obtain ⟨k, hk, rfl, rfl, rfl⟩ := hrel
    by_cases hlt : k < n
    · have hkl : k < ls.length := by rw [HN.out]; exact hlt
      have hcs := cnt_step wd ls hkl
      have hls := last_step wd ls hkl
      have hcl := cnt_le wd (ls.take k)
      rw [List.length_take] at hcl
      obtain ⟨bb, o, Ag, cg, An, cn, rfl, -, -, e0, e1, -⟩ := line_at HSL.out hkl
      obtain ⟨y, hy⟩ : ∃ y, ls[k] = y := ⟨_, rfl⟩
      rw [hy] at e0 e1 hcs hls
      have HCS := Lib.hid hcs
      have HLR := Lib.hid hls
      obtain ⟨q, hq⟩ : ∃ q, cntL wd (ls.take k) = q := ⟨_, rfl⟩
      have HQ := Lib.hid hq
      rw [hq] at hcl ⊢
      have hkI : (k : Int) < (n : Int) := by omega
      have hqI : (q : Int) ≤ 2097152 := by omega
      clear hcs hls hy hq hkl
      by_cases h1 : y.fr ≤ wd
      · by_cases h2 : wd < y.un
        · have hh : hitL wd y = true := decide_eq_true ⟨h1, h2⟩
          have HH := Lib.hid hh
          clear hh
          go_wp2_with fail
          go_round
          case rel => exact ⟨k + 1, by omega, by go_num, by rw [HCS.out, HH.out, HQ.out]; go_num, by rw [HLR.out, HH.out]; go_num⟩
          case measure => simp [intOf]; omega
        · have HH : Hid (hitL wd y = false) := Lib.hid (decide_eq_false (fun hh => h2 hh.2))
          go_wp2_with fail
          go_round
          case rel => exact ⟨k + 1, by omega, by go_num, by rw [HCS.out, HH.out, HQ.out]; rfl, by rw [HLR.out, HH.out]; rfl⟩
          case measure => simp [intOf]; omega
      · have HH : Hid (hitL wd y = false) := Lib.hid (decide_eq_false (fun hh => h1 hh.1))
        go_wp2_with fail
        go_round
        case rel => exact ⟨k + 1, by omega, by go_num, by rw [HCS.out, HH.out, HQ.out]; rfl, by rw [HLR.out, HH.out]; rfl⟩
        case measure => simp [intOf]; omega
    · obtain rfl : k = n := by omega
      have HTK : Hid (ls.take k = ls) := Lib.hid (List.take_of_length_le (by rw [HN.out]; omega))
      rw [HTK.out]
      go_wp2_with fail
      go_ret2
      exact ⟨by rw [← List.reverse_append, HLS.out]; rfl, HB1.out⟩
end Go.Proofs.YtakaielemicpkaaDoor
namespace Go.Proofs.YtakaielemicpkaaDoor
open Go.RowKit
theorem coreV_small (m h e : Int) : ∀ (ts : List TextP) (vs : List Int) (c : CoreP), c ∈ coreV m h e vs ts → c.body.length ≤ 1048576 ∧ c.notes.length ≤ 1048576
  | [], vs, c, hc => by simp [coreV] at hc
  | t :: ts, vs, c, hc => by
    rw [coreV] at hc
    rcases List.mem_append.1 hc with h1 | h1
    · obtain ⟨p, hp, rfl⟩ := List.mem_map.1 h1
      exact okPages_small t.a t.b m h p hp
    · exact coreV_small m h e ts vs.tail c h1
theorem pages_smallB (m h : Int) (l : List SectP) : ∀ p ∈ pagesB m h l, SmallP p := by
  intro p hp
  have hc : p.core ∈ coreS m h l := by rw [← pagesB_core]; exact List.mem_map_of_mem hp
  have hs : ∀ c ∈ coreS m h l, c.body.length ≤ 1048576 ∧ c.notes.length ≤ 1048576 := by
    intro c hc
    obtain ⟨s, -, hs⟩ := List.mem_flatMap.1 hc
    exact coreV_small m h s.entry s.texts s.vers c hs
  exact hs _ hc
theorem where_some {e v wd : Int} : ∀ {ps : List PageP}, sumP e v wd ps = 1 → ∃ r, whereP e v wd ps = some r
  | [], h => by simp [sumP, sumC] at h
  | p :: ps, h => by
    rw [sumP_cons] at h
    rw [whereP]
    by_cases hm : p.entry = e ∧ p.ver = v
    · rw [if_pos hm] at h ⊢
      rcases Nat.eq_zero_or_pos (cntL wd (p.body ++ p.notes)) with h0 | h0
      · rw [(last_none wd _ h0).2]
        exact where_some (by omega)
      · obtain ⟨i, h1, -⟩ := last_one wd (p.body ++ p.notes) (by omega)
        rw [h1]
        exact ⟨_, rfl⟩
    · rw [if_neg hm] at h ⊢
      exact where_some (by omega)
set_option maxRecDepth 100000 in
set_option maxHeartbeats 16000000 in
theorem words_any (A0 : Option Addr) (c0 : Nat) (l0 : List Int) (W1 : World) (hs0 : Sl W1 (fun b => b < W1.heap.size) A0 c0 l0) (hT : Tabs W1) :
    Calls Tryd.prog 3 #[.slice A0 l0.length c0] W1 fun e w' => e = .returned (.bool true) ∧ Below W1.heap.size W1 w' := by
  have HT := Lib.hid hT
  have HI0 := Lib.hid hs0
  clear hT hs0
  go_enter Tryd.func3, Tryd.ntmps3
  go_upto_region 2 with (first
    | (go_at_call 7; refine (gbook_any A0 c0 l0 W1 HI0.out).mono ?_; rintro e V1 ⟨m, h, Ab1, cb1, ss, rfl, hg, hs, hb⟩; have HG := Lib.hid hg; have HV1 := Lib.hid hb; have hl := LM.fresh (m := m) (h := h) (⟨HT.out.to hb, hs.mono fun i hi _ => hi.2⟩ : SM V1 Ab1 cb1 ss); clear hg hs hb)
    | fail)
  obtain ⟨W2, hW⟩ : ∃ W2, V1.alloc (.cells #[.int .i64 m, .int .i64 h, .slice Ab1 ss.length cb1] 25) = W2 := ⟨_, rfl⟩
  obtain ⟨b1, hbk⟩ : ∃ b1, V1.heap.size = b1 := ⟨_, rfl⟩
  rw [hW] at hl
  rw [hW, hbk]
  have hb : Below W1.heap.size W1 W2 := HV1.out.trans (hl.2.mono HV1.out.size)
  have H1v := Lib.hid hl.1
  rw [hbk] at H1v
  have HB := Lib.hid hb
  clear hl hb hW hbk
  have HZ := Lib.hid HG.out.siz
  have HTM := Lib.hid HG.out.tame
  have HP := Lib.hid (pages_any (H1v.out.sm.bookT HTM.out HZ.out))
  have q0 := H1v.out.bx.cell 0 rfl
  have q1 := H1v.out.bx.cell 1 rfl
  have q2 := H1v.out.bx.cell 2 rfl
  go_upto_region 3 with (first
    | (go_at_call 8; refine HP.out.mono ?_; rintro e W3 ⟨v, R, rfl, ho, -, hb⟩; have HO := Lib.hid ho; have H1w := Lib.hid (H1v.out.to hb); have HB3 := Lib.hid (HB.out.trans (hb.mono HB.out.size)); clear hb ho q0 q1 q2)
    | fail)
  obtain ⟨Ap, cp, rfl, hps⟩ := HO.out.plain.sl
  obtain ⟨ps, hpp⟩ : ∃ ps, pagesB m h ss = ps := ⟨_, rfl⟩
  have HON : Hid (∀ i k (hi : i < ss.length) (hk : k < ss[i].texts.length) (hv : k < ss[i].vers.length) (wd : Int), 0 ≤ wd → wd < (tot (ss[i].texts[k].a ++ ss[i].texts[k].b) : Nat) → sumP ss[i].entry (ss[i].vers[k]) wd ps = 1) := Lib.hid (fun i k hi hk hv wd h0 h1 => by rw [← hpp]; exact HG.out.once hi hk hv wd h0 h1)
  have HBO := Lib.hid (H1w.out.sm.bookT HTM.out HZ.out)
  have HPP := Lib.hid hpp
  have hpl : ps.length ≤ 3920 := by rw [← hpp]; exact HTM.out.pages HZ.out
  rw [hpp] at hps ⊢
  have HPS := Lib.hid hps
  obtain ⟨np, hnp⟩ : ∃ np, ps.length = np := ⟨_, rfl⟩
  have HNP := Lib.hid hnp
  have hpc : np ≤ cp := by rw [← hnp]; exact hps.1
  rw [hnp] at hpl ⊢
  obtain ⟨n, hn⟩ : ∃ n, ss.length = n := ⟨_, rfl⟩
  have HN := Lib.hid hn
  have hn5 : n ≤ 5 := by rw [← hn]; exact HTM.out.n
  have hnc : n ≤ cb1 := by rw [← hn]; exact H1w.out.sm.s.1
  have H1x : Hid (ABox W3 b1 25 [.int .i64 m, .int .i64 h, .slice Ab1 n cb1]) := Lib.hid (by rw [← hn]; exact H1w.out.bx)
  have HSS := Lib.hid H1w.out.sm.s
  clear hps hpp hnp hn HO HP H1v
  go_wp2_with fail
  go_loopw [5] (fun i wr => ∃ k : Nat, k ≤ n ∧ i = .int .i64 k ∧ Below W3.heap.size W3 wr) (fun i _ => n - (intOf i).toNat)
  case atStart => exact ⟨0, by omega, rfl, Below.refl _ _⟩
  case round =>
    obtain ⟨k, hk, rfl, hbl⟩ := hrel
    have HBL := Lib.hid hbl
    have x2 := (H1x.out.to hbl).cell 2 rfl
    by_cases hlt : k < n
    · have hkl : k < ss.length := by rw [HN.out]; exact hlt
      obtain ⟨b, o, Ag, cg, An, cn, rfl, -, -, e0, e1, e2, e3, hg1, hn1, -⟩ := sect_at (HSS.out.to hbl) hkl
      have htv := HTM.out.v _ (List.getElem_mem hkl)
      obtain ⟨x, hx⟩ : ∃ x, ss[k] = x := ⟨_, rfl⟩
      have hon : ∀ q (hk : q < x.texts.length) (hv : q < x.vers.length) (wd : Int), 0 ≤ wd → wd < (tot (x.texts[q].a ++ x.texts[q].b) : Nat) → sumP x.entry x.vers[q] wd ps = 1 := by subst hx; exact fun q hk hv => HON.out k q hkl hk hv
      rw [hx] at e0 e1 e2 e3 hg1 hn1 htv
      have HTV := Lib.hid htv
      have HONx := Lib.hid hon
      obtain ⟨X, hX⟩ : ∃ X, wr.heap.size = X := ⟨_, rfl⟩
      obtain ⟨w2, hw2⟩ : ∃ w2, wr.alloc (.cells #[.int .i64 x.entry, .bool x.frozen, .slice Ag x.vers.length cg, .slice An x.texts.length cn] 31) = w2 := ⟨_, rfl⟩
      have hb2 : Below wr.heap.size wr w2 := by rw [← hw2]; exact (Below.refl _ _).alloc (Nat.le_refl _) _
      have hxx : ABox w2 X 31 [.int .i64 x.entry, .bool x.frozen, .slice Ag x.vers.length cg, .slice An x.texts.length cn] := by rw [← hw2, ← hX]; exact heap_alloc_new wr _
      have HV := Lib.hid (hg1.to hb2)
      have HX := Lib.hid (hn1.to hb2)
      have HXX := Lib.hid hxx
      have hkI : (k : Int) < (n : Int) := by omega
      have HB2 := Lib.hid (hbl.trans (hb2.mono hbl.size))
      have hvl : x.vers.length ≤ 4 := htv.1
      have htl : x.texts.length ≤ x.vers.length := htv.2.1
      have htc : x.texts.length ≤ cn := hn1.1
      have hvc : x.vers.length ≤ cg := hg1.1
      go_upto_region 7 with (fail)
      try rw [hX]
      try rw [hw2]
      clear hX hw2 hxx hb2 hg1 hn1 e0 e1 e2 e3 hx hkl hbl x2 htv HBL hon
      go_wp2_with fail
      obtain ⟨wo, rfl⟩ : ∃ wo : World, wo = wr := ⟨_, rfl⟩
      go_loopw [7] (fun i wx => ∃ q : Nat, q ≤ x.texts.length ∧ i = .int .i64 q ∧ Below w2.heap.size w2 wx) (fun i _ => x.texts.length - (intOf i).toNat)
      case atStart => exact ⟨0, by omega, rfl, Below.refl _ _⟩
      case round =>
        obtain ⟨q, hq, rfl, hbl⟩ := hrel
        have HBL := Lib.hid hbl
        have HXr := Lib.hid (HXX.out.to hbl)
        have y3 := HXr.out.cell 3 rfl
        by_cases hqt : q < x.texts.length
        · have hqv : q < x.vers.length := by omega
          obtain ⟨bt, ot, Aa, ca, Ab, cb, rfl, -, hbt, e0, e1, ht1, ht2⟩ := text_at (HX.out.to hbl) hqt
          obtain ⟨bv, ov, rfl, -, hbv, -, e9⟩ := int_at (HV.out.to hbl) hqv
          have hgt := HTV.out.2.2 _ (List.getElem_mem hqt)
          have hon := HONx.out q hqt hqv
          obtain ⟨y, hy⟩ : ∃ y, x.texts[q] = y := ⟨_, rfl⟩
          obtain ⟨vq, hvq⟩ : ∃ vq, x.vers[q] = vq := ⟨_, rfl⟩
          rw [hvq] at e9 hon
          rw [hy] at e0 e1 ht1 ht2 hgt hon
          have HGT := Lib.hid hgt
          have HONy := Lib.hid hon
          obtain ⟨N, hNt⟩ : ∃ N, tot (y.a ++ y.b) = N := ⟨_, rfl⟩
          have hN196 : N ≤ 196 := by rw [← hNt]; exact hgt.tot
          have HNt := Lib.hid hNt
          have HT1 : Hid (TM wr Aa ca Ab cb y.a y.b) := Lib.hid ⟨ht1, ht2, hgt.short.1, hgt.short.2⟩
          have HE : Hid (∀ w', Below wr.heap.size wr w' → (w'.cell? ⟨bt, ot + q * 2, none⟩ = some (.slice Aa y.a.length ca) ∧ w'.cell? ⟨bt, ot + q * 2 + 1, none⟩ = some (.slice Ab y.b.length cb)) ∧ w'.cell? ⟨bv, ov + q, none⟩ = some (.int .i64 vq)) := Lib.hid (fun w' hb => ⟨⟨(hb.cell (p := ⟨bt, ot + q * 2, none⟩) hbt).trans e0, (hb.cell (p := ⟨bt, ot + q * 2 + 1, none⟩) hbt).trans e1⟩, (hb.cell (p := ⟨bv, ov + q, none⟩) hbv).trans e9⟩)
          have hqI : (q : Int) < (x.texts.length : Int) := by omega
          have hqvI : (q : Int) < (x.vers.length : Int) := by omega
          have HBg : Hid (Below W3.heap.size W3 wr) := Lib.hid (HB2.out.trans (hbl.mono HB2.out.size))
          clear hy ht1 ht2 hgt hbl hvq e9 e0 e1 hon hNt hbt hbv
          go_upto_region 10 with (fail)
          clear y3
          go_wp2_with fail
          obtain ⟨wp, rfl⟩ : ∃ wp : World, wp = wr := ⟨_, rfl⟩
          go_loopw [8] (fun i wx => ∃ u : Nat, u ≤ N ∧ i = .int .i64 u ∧ Below wp.heap.size wp wx) (fun i _ => N - (intOf i).toNat)
          case atStart => exact ⟨0, by omega, rfl, Below.refl _ _⟩
          case round =>
            obtain ⟨u, hu, rfl, hbl⟩ := hrel
            have HBW := Lib.hid hbl
            have HXu := Lib.hid (HXr.out.to hbl)
            have y3 := HXu.out.cell 3 rfl
            obtain ⟨⟨e0, e1⟩, e9⟩ := HE.out _ hbl
            have HCT := Lib.hid (count_any Aa Ab ca cb y.a y.b wr ((HT1.out.to hbl).ta) ((HT1.out.to hbl).tb) HT1.out.sa.1 HT1.out.sb.1 (by rw [HNt.out]; omega))
            rw [HNt.out] at HCT
            clear hbl
            go_wp2_with fail
            refine HCT.out.mono ?_
            rintro e wc ⟨rfl, hbc⟩
            have HBC := Lib.hid (HBW.out.trans (hbc.mono HBW.out.size))
            have HXc := Lib.hid (HXu.out.to hbc)
            clear y3 e0 e1 e9 hbc HCT
            by_cases huN : u < N
            · have huI : (u : Int) < (N : Int) := by omega
              go_upto_region 13 with (fail)
              obtain ⟨⟨n0, s0, i0⟩, hr0⟩ := where_some (HONy.out (u : Int) (by omega) (by rw [HNt.out]; omega))
              have HR0 := Lib.hid hr0
              have HWC : Hid (∀ V, Below wc.heap.size wc V → Calls Tryd.prog 10 #[.agg #[.int .i64 m, .int .i64 h, .slice (some ⟨b, o, none⟩) n cb1], .int .i64 x.entry, .int .i64 vq, .int .i64 (u : Int)] V fun e W' => e = .returned (.tuple #[.agg #[.int .i64 n0, .int .i64 s0], .int .i64 (i0 : Nat), .bool true]) ∧ Below V.heap.size V W') := Lib.hid (fun V hV => by
                have hbo := HBO.out.to ((HBg.out.trans (HBC.out.mono HBg.out.size)).trans (hV.mono (Nat.le_trans HBg.out.size HBC.out.size)))
                have hc := where_any hbo x.entry vq (u : Int)
                rw [HPP.out, hr0, HN.out] at hc
                exact hc)
              clear hr0
              refine wp_region_D (fun w' => ((w'.cell? ⟨b1, 0, none⟩ = some (.int .i64 m) ∧ w'.cell? ⟨b1, 1, none⟩ = some (.int .i64 h)) ∧ w'.cell? ⟨b1, 2, none⟩ = some (.slice (some ⟨b, o, none⟩) n cb1)) ∧ (w'.cell? ⟨X, 0, none⟩ = some (.int .i64 x.entry) ∧ w'.cell? ⟨X, 2, none⟩ = some (.slice (some ⟨bv, ov, none⟩) x.vers.length cg)) ∧ w'.cell? ⟨bv, ov + q, none⟩ = some (.int .i64 vq)) (fun i => decide (i < 11) || decide (i = 14)) (by kernel_rfl) ?_
              obtain ⟨V0, hV0⟩ : ∃ V0, wc.drew = V0 := ⟨_, rfl⟩
              have hbd : Below wc.heap.size wc V0 := by rw [← hV0]; exact (Below.refl _ _).drew
              have HB0 := Lib.hid hbd
              rw [hV0]
              clear hV0 hbd
              have HSS13 : Hid (∀ V, Below wc.heap.size wc V → ((V.cell? ⟨b1, 0, none⟩ = some (.int .i64 m) ∧ V.cell? ⟨b1, 1, none⟩ = some (.int .i64 h)) ∧ V.cell? ⟨b1, 2, none⟩ = some (.slice (some ⟨b, o, none⟩) n cb1)) ∧ (V.cell? ⟨X, 0, none⟩ = some (.int .i64 x.entry) ∧ V.cell? ⟨X, 2, none⟩ = some (.slice (some ⟨bv, ov, none⟩) x.vers.length cg)) ∧ V.cell? ⟨bv, ov + q, none⟩ = some (.int .i64 vq)) := Lib.hid (fun V hV => by
                have hbk := H1x.out.to ((HBg.out.trans (HBC.out.mono HBg.out.size)).trans (hV.mono (Nat.le_trans HBg.out.size HBC.out.size)))
                have hxx := HXc.out.to hV
                exact ⟨⟨⟨hbk.cell 0 rfl, hbk.cell 1 rfl⟩, hbk.cell 2 rfl⟩, ⟨hxx.cell 0 rfl, hxx.cell 2 rfl⟩, (HE.out _ (HBC.out.trans (hV.mono HBC.out.size))).2⟩)
              have hS0 := HSS13.out V0 HB0.out
              refine wpAnyE_take (i := 0) (oi := ⟨some 50, Op.load 25 (Operand.tmp 3), 25, _, _, _⟩) (v := ?_) rfl (by kernel_rfl) (by kernel_rfl) (by kernel_rfl) (by kernel_rfl) (by kernel_rfl) (fun _ _ _ h => h) (by rfl) ?hykr13_1 (hS0) ?hrkr13_1
              case hykr13_1 => (intro wS hSw; (have hq0 := hSw.1.1.1); (have hq1 := hSw.1.1.2); (have hq2 := hSw.1.2); clear hSw; go_simp; (try with_reducible rfl))
              all_goals try simp only [Act.put, List.setIfInBounds_toArray, List.set_cons_zero, List.set_cons_succ]
              refine wpAnyE_take (i := 1) (oi := ⟨some 51, Op.fieldAddr 31 (Operand.tmp 6) 0, 0, _, _, _⟩) (v := ?_) rfl (by kernel_rfl) (by kernel_rfl) (by kernel_rfl) (by kernel_rfl) (by kernel_rfl) (fun _ _ _ h => h) (by rfl) ?hykr13_2 (hS0) ?hrkr13_2
              case hykr13_2 => (intro wS hSw; clear hSw; go_simp; (try with_reducible rfl))
              all_goals try simp only [Act.put, List.setIfInBounds_toArray, List.set_cons_zero, List.set_cons_succ]
              refine wpAnyE_take (i := 2) (oi := ⟨some 52, Op.load 3 (Operand.tmp 51), 3, _, _, _⟩) (v := ?_) rfl (by kernel_rfl) (by kernel_rfl) (by kernel_rfl) (by kernel_rfl) (by kernel_rfl) (fun _ _ _ h => h) (by rfl) ?hykr13_3 (hS0) ?hrkr13_3
              case hykr13_3 => (intro wS hSw; (have hq0 := hSw.2.1.1); clear hSw; go_simp; (try with_reducible rfl))
              all_goals try simp only [Act.put, List.setIfInBounds_toArray, List.set_cons_zero, List.set_cons_succ]
              refine wpAnyE_take (i := 3) (oi := ⟨some 53, Op.fieldAddr 31 (Operand.tmp 6) 2, 0, _, _, _⟩) (v := ?_) rfl (by kernel_rfl) (by kernel_rfl) (by kernel_rfl) (by kernel_rfl) (by kernel_rfl) (fun _ _ _ h => h) (by rfl) ?hykr13_4 (hS0) ?hrkr13_4
              case hykr13_4 => (intro wS hSw; clear hSw; go_simp; (try with_reducible rfl))
              all_goals try simp only [Act.put, List.setIfInBounds_toArray, List.set_cons_zero, List.set_cons_succ]
              refine wpAnyE_take (i := 4) (oi := ⟨some 54, Op.load 22 (Operand.tmp 53), 22, _, _, _⟩) (v := ?_) rfl (by kernel_rfl) (by kernel_rfl) (by kernel_rfl) (by kernel_rfl) (by kernel_rfl) (fun _ _ _ h => h) (by rfl) ?hykr13_5 (hS0) ?hrkr13_5
              case hykr13_5 => (intro wS hSw; (have hq0 := hSw.2.1.2); clear hSw; go_simp; (try with_reducible rfl))
              all_goals try simp only [Act.put, List.setIfInBounds_toArray, List.set_cons_zero, List.set_cons_succ]
              refine wpAnyE_take (i := 5) (oi := ⟨some 55, Op.move (Operand.tmp 7), 3, _, _, _⟩) (v := ?_) rfl (by kernel_rfl) (by kernel_rfl) (by kernel_rfl) (by kernel_rfl) (by kernel_rfl) (fun _ _ _ h => h) (by rfl) ?hykr13_6 (hS0) ?hrkr13_6
              case hykr13_6 => (intro wS hSw; clear hSw; go_simp; (try with_reducible rfl))
              all_goals try simp only [Act.put, List.setIfInBounds_toArray, List.set_cons_zero, List.set_cons_succ]
              refine wpAnyE_take (i := 6) (oi := ⟨some 56, Op.indexAddr 22 (Operand.tmp 54) (Operand.tmp 55), 0, _, _, _⟩) (v := ?_) rfl (by kernel_rfl) (by kernel_rfl) (by kernel_rfl) (by kernel_rfl) (by kernel_rfl) (fun _ _ _ h => h) (by rfl) ?hykr13_7 (hS0) ?hrkr13_7
              case hykr13_7 => (intro wS hSw; clear hSw; go_simp; (try with_reducible rfl))
              all_goals try simp only [Act.put, List.setIfInBounds_toArray, List.set_cons_zero, List.set_cons_succ]
              refine wpAnyE_take (i := 7) (oi := ⟨some 57, Op.load 3 (Operand.tmp 56), 3, _, _, _⟩) (v := ?_) rfl (by kernel_rfl) (by kernel_rfl) (by kernel_rfl) (by kernel_rfl) (by kernel_rfl) (fun _ _ _ h => h) (by rfl) ?hykr13_8 (hS0) ?hrkr13_8
              case hykr13_8 => (intro wS hSw; (have hq0 := hSw.2.2); clear hSw; go_simp; (try with_reducible rfl))
              all_goals try simp only [Act.put, List.setIfInBounds_toArray, List.set_cons_zero, List.set_cons_succ]
              refine wpAnyE_take (i := 8) (oi := ⟨some 58, Op.move (Operand.tmp 8), 3, _, _, _⟩) (v := ?_) rfl (by kernel_rfl) (by kernel_rfl) (by kernel_rfl) (by kernel_rfl) (by kernel_rfl) (fun _ _ _ h => h) (by rfl) ?hykr13_9 (hS0) ?hrkr13_9
              case hykr13_9 => (intro wS hSw; clear hSw; go_simp; (try with_reducible rfl))
              all_goals try simp only [Act.put, List.setIfInBounds_toArray, List.set_cons_zero, List.set_cons_succ]
              refine wpAnyD_two (i := 9) (j := 14) (oi := ⟨some 59, Op.call { callee := Callee.value (Operand.func 10), args := #[Operand.tmp 50, Operand.tmp 52, Operand.tmp 57, Operand.tmp 58], argTypes := #[25, 3, 3, 3] }, 38, _, _, _⟩) (oj := ⟨some 9, Op.alloc 37, 0, _, _, _⟩) (by kernel_rfl) rfl rfl (by rfl) (by rfl) (fun K hK => ?_) (fun K hK => ?_)
              · go_simp
                go_at_call 10
                refine (HWC.out V0 HB0.out).mono ?_
                rintro e V1 ⟨rfl, hb⟩
                go_simp
                have HB1 := Lib.hid (HB0.out.trans (hb.mono HB0.out.size))
                have hS1 := HSS13.out V1 HB1.out
                clear hb
                refine hK _ _ (fun _ => ?_) ?_
                · exact hS1
                clear hK K
                try simp only [Act.put, List.setIfInBounds_toArray, List.set_cons_zero, List.set_cons_succ]
                refine wpAnyE_take (i := 10) (oi := ⟨some 49, Op.move (Operand.tmp 59), 38, _, _, _⟩) (v := ?_) rfl (by kernel_rfl) (by kernel_rfl) (by kernel_rfl) (by kernel_rfl) (by kernel_rfl) (fun _ _ _ h => h) (by rfl) ?hykr13_10 (hS1) ?hrkr13_10
                case hykr13_10 => (intro wS hSw; clear hSw; go_simp; (try with_reducible rfl))
                all_goals try simp only [Act.put, List.setIfInBounds_toArray, List.set_cons_zero, List.set_cons_succ]
                refine wpAnyF_take (i := 11) (oi := ⟨some 60, Op.extract (Operand.tmp 49) 0, 37, _, _, _⟩) (v := ?_) rfl (by rfl) (by kernel_rfl) (by kernel_rfl) (by kernel_rfl) (fun _ _ _ h => h) (by rfl) ?hykr13_11 ?hrkr13_11
                case hykr13_11 => (intro wS; go_simp; (try with_reducible rfl))
                all_goals try simp only [Act.put, List.setIfInBounds_toArray, List.set_cons_zero, List.set_cons_succ]
                refine wpAnyF_take (i := 12) (oi := ⟨some 61, Op.extract (Operand.tmp 49) 1, 3, _, _, _⟩) (v := ?_) rfl (by rfl) (by kernel_rfl) (by kernel_rfl) (by kernel_rfl) (fun _ _ _ h => h) (by rfl) ?hykr13_12 ?hrkr13_12
                case hykr13_12 => (intro wS; go_simp; (try with_reducible rfl))
                all_goals try simp only [Act.put, List.setIfInBounds_toArray, List.set_cons_zero, List.set_cons_succ]
                refine wpAnyF_take (i := 13) (oi := ⟨some 62, Op.extract (Operand.tmp 49) 2, 4, _, _, _⟩) (v := ?_) rfl (by rfl) (by kernel_rfl) (by kernel_rfl) (by kernel_rfl) (fun _ _ _ h => h) (by rfl) ?hykr13_13 ?hrkr13_13
                case hykr13_13 => (intro wS; go_simp; (try with_reducible rfl))
                all_goals try simp only [Act.put, List.setIfInBounds_toArray, List.set_cons_zero, List.set_cons_succ]
                refine wpAnyD_one (i := 14) (oi := ⟨some 9, Op.alloc 37, 0, _, _, _⟩) rfl (by kernel_rfl) (by rfl) (fun K hK => ?_)
                go_simp
                obtain ⟨V2, hV⟩ : ∃ V2, V1.alloc (.cells #[.int .i64 0, .int .i64 0] 37) = V2 := ⟨_, rfl⟩
                have hb : Below V1.heap.size V1 V2 := by rw [← hV]; exact (Below.refl _ _).alloc (Nat.le_refl _) _
                have hx : ABox V2 V1.heap.size 37 [.int .i64 0, .int .i64 0] := by rw [← hV]; exact heap_alloc_new V1 _
                obtain ⟨bn, hbn⟩ : ∃ bn, V1.heap.size = bn := ⟨_, rfl⟩
                have HBN : Hid (wc.heap.size ≤ bn) := Lib.hid (by rw [← hbn]; exact HB1.out.size)
                rw [hV, hbn]
                rw [hbn] at hx
                have HB2 := Lib.hid (HB1.out.trans (hb.mono HB1.out.size))
                have hS2 := HSS13.out V2 HB2.out
                have HZ2 := Lib.hid hx
                clear hx hb hV hbn
                refine hK _ _ (fun _ => ?_) ?_
                · exact hS2
                clear hK K
                try simp only [Act.put, List.setIfInBounds_toArray, List.set_cons_zero, List.set_cons_succ]
                refine wpAnyD_one (i := 15) (oi := ⟨none, Op.store 37 (Operand.tmp 9) (Operand.tmp 60), 0, _, _, _⟩) rfl (by kernel_rfl) (by rfl) (fun K hK => ?_)
                have z0 := HZ2.out.cell 0 rfl
                have z1 := HZ2.out.cell 1 rfl
                have k0 := HZ2.out.fz 0
                have k1 := HZ2.out.fz 1
                go_simp
                clear z0 z1 k0 k1
                refine hK _ _ (fun h => absurd h (by decide)) ?_
                clear hK K
                try simp only [Act.put]
                refine wpAnyD_one (i := 16) (oi := ⟨some 10, Op.assign (Operand.tmp 61), 3, _, _, _⟩) rfl (by kernel_rfl) (by rfl) (fun K hK => ?_)
                go_simp
                refine hK _ _ (fun h => absurd h (by decide)) ?_
                clear hK K
                try simp only [Act.put, List.setIfInBounds_toArray, List.set_cons_zero, List.set_cons_succ]
                refine wpAnyD_one (i := 17) (oi := ⟨some 11, Op.assign (Operand.tmp 62), 4, _, _, _⟩) rfl (by kernel_rfl) (by rfl) (fun K hK => ?_)
                go_simp
                refine hK _ _ (fun h => absurd h (by decide)) ?_
                clear hK K
                try simp only [Act.put, List.setIfInBounds_toArray, List.set_cons_zero, List.set_cons_succ]
                refine wpAnyD_done (by kernel_rfl) ?_ _
                unfold Exit.then
                have HZF : Hid (ABox ((V2.setCell ⟨bn, 0, none⟩ (.int .i64 n0)).setCell ⟨bn, 1, none⟩ (.int .i64 s0)) bn 37 [.int .i64 n0, .int .i64 s0]) := Lib.hid (by simpa using (HZ2.out.set 0 (.int .i64 n0)).set 1 (.int .i64 s0))
                have HBF : Hid (Below wc.heap.size wc ((V2.setCell ⟨bn, 0, none⟩ (.int .i64 n0)).setCell ⟨bn, 1, none⟩ (.int .i64 s0))) := Lib.hid ((HB2.out.setCell (p := ⟨bn, 0, none⟩) HBN.out _).setCell (p := ⟨bn, 1, none⟩) HBN.out _)
                clear HB2 HZ2 hS2
                generalize (V2.setCell ⟨bn, 0, none⟩ (.int .i64 n0)).setCell ⟨bn, 1, none⟩ (.int .i64 s0) = wf at *
                have HBP : Hid (Below W3.heap.size W3 wf) := Lib.hid ((HBg.out.trans (HBC.out.mono HBg.out.size)).trans (HBF.out.mono (Nat.le_trans HBg.out.size HBC.out.size)))
                have HPf := Lib.hid (HPS.out.to HBP.out)
                have HXf := Lib.hid (HXc.out.to HBF.out)
                have HVF : Hid (wf.cell? ⟨bv, ov + q, none⟩ = some (.int .i64 vq) ∧ bv < wf.heap.size) := Lib.hid ⟨(HSS13.out wf HBF.out).2.2, World.block_lt_of_cell? wf ⟨bv, ov + q, none⟩ (HSS13.out wf HBF.out).2.2⟩
                have HUW : Hid (sumP x.entry vq (u : Int) ps = 1) := Lib.hid (HONy.out (u : Int) (by omega) (by rw [HNt.out]; omega))
                have HWP : Hid (Below wp.heap.size wp wf) := Lib.hid (HBC.out.trans (HBF.out.mono HBC.out.size))
                clear HWC HSS13 HBN HBF HBC HXc
                go_upto_region 15 with (fail)
                go_wp2_with fail
                obtain ⟨wq, rfl⟩ : ∃ wq : World, wq = wf := ⟨_, rfl⟩
                go_loopw [12, 13] (fun f i wz => ∃ t : Nat, t ≤ np ∧ i = .int .i64 t ∧ f = .int .i64 (sumP x.entry vq (u : Int) (ps.take t) : Nat) ∧ Below wq.heap.size wq wz) (fun _ i _ => np - (intOf i).toNat)
                case atStart => exact ⟨0, by omega, rfl, rfl, Below.refl _ _⟩
                case round =>
                  obtain ⟨t, ht, rfl, rfl, hbl⟩ := hrel
                  by_cases htn : t < np
                  · have htl : t < ps.length := by rw [HNP.out]; exact htn
                    obtain ⟨bp, op, P1, d1, P2, d2, rfl, -, hbp, f0, f1, f2, f3, f4, f5, hp1, hp2⟩ := pageS_at (HPf.out.to hbl) htl
                    have hsm := pages_smallB m h ss ps[t] (by rw [HPP.out]; exact List.getElem_mem htl)
                    have htk := sumP_take x.entry vq (u : Int) ps htl
                    have hwo := where_one HUW.out htl
                    have hle : sumP x.entry vq (u : Int) (ps.take t) ≤ 1 := by
                      have e1 := HUW.out
                      rw [← List.take_append_drop t ps, sumP_append] at e1
                      omega
                    have hle2 : sumP x.entry vq (u : Int) (ps.take (t + 1)) ≤ 1 := by
                      have e1 := HUW.out
                      rw [← List.take_append_drop (t + 1) ps, sumP_append] at e1
                      omega
                    obtain ⟨pg, hpg⟩ : ∃ pg, ps[t] = pg := ⟨_, rfl⟩
                    rw [hpg] at f0 f1 f2 f3 f4 f5 hp1 hp2 hsm htk hwo
                    obtain ⟨en, vn, sn, un, bo, no⟩ := pg
                    dsimp only at f0 f1 f2 f3 f4 f5 hp1 hp2 hsm htk hwo
                    obtain ⟨S0, hS0⟩ : ∃ S0, sumP x.entry vq (u : Int) (ps.take t) = S0 := ⟨_, rfl⟩
                    obtain ⟨S1, hS1⟩ : ∃ S1, sumP x.entry vq (u : Int) (ps.take (t + 1)) = S1 := ⟨_, rfl⟩
                    rw [hS0, hS1] at htk
                    rw [hS0] at hle ⊢
                    rw [hS1] at hle2
                    have HS1 := Lib.hid hS1
                    have HTK := Lib.hid htk
                    have HWO := Lib.hid hwo
                    have HSM2 := Lib.hid hsm
                    have HP1 := Lib.hid hp1
                    have HP2 := Lib.hid hp2
                    have HXz := Lib.hid (HXf.out.to hbl)
                    have x0 := HXz.out.cell 0 rfl
                    have x2 := HXz.out.cell 2 rfl
                    have v0 := (hbl.cell (p := ⟨bv, ov + q, none⟩) HVF.out.2).trans HVF.out.1
                    have HBZ := Lib.hid hbl
                    have htI : (t : Int) < (np : Int) := by omega
                    clear hpg htl hsm htk hwo hp1 hp2 hbl hS0 hS1
                    by_cases hm : sn = x.entry ∧ un = vq
                    · obtain ⟨hm1, hm2⟩ := hm
                      have HTK2 : Hid (S1 = S0 + cntL (u : Int) (bo ++ no)) := Lib.hid (by rw [HTK.out, if_pos ⟨hm1, hm2⟩])
                      have HWO2 := Lib.hid (HWO.out ⟨hm1, hm2⟩)
                      clear HTK HWO
                      subst hm1
                      subst hm2
                      have hst := fun nq => stands_any en vn x.entry un (u : Int) P1 P2 d1 d2 bo no (wr.drewN nq) (HP1.out.dn nq) (HP2.out.dn nq) HSM2.out.1 HSM2.out.2
                      obtain ⟨C, hC⟩ : ∃ C, cntL (u : Int) (bo ++ no) = C := ⟨_, rfl⟩
                      obtain ⟨LR, hLR⟩ : ∃ LR, lastR (u : Int) (bo ++ no).reverse = LR := ⟨_, rfl⟩
                      have htk2 := HTK2.out
                      have hwo2 := HWO2.out
                      rw [hC] at htk2 hwo2
                      simp only [hC, hLR] at hst
                      rw [hLR] at hwo2
                      have HST := Lib.hid hst
                      have HW2 := Lib.hid hwo2
                      have HTK3 := Lib.hid htk2
                      have HADD : Hid ((S0 : Int) + (C : Int) = (S1 : Int)) := Lib.hid (by omega)
                      have HF0 := Lib.hid f0
                      have HF1 := Lib.hid f1
                      have HLP := Lib.hid hbp
                      clear HTK2 HWO2 hst hwo2 htk2 hC hLR
                      go_wp2_with (first | go_quiet (fail) | fail)
                      refine (HST.out nq).mono ?_
                      rintro e wy ⟨rfl, hby⟩
                      have HBY := Lib.hid ((Below.dn HBZ.out nq).trans (hby.mono (Below.dn HBZ.out nq).size))
                      have g0 := (hby.cell (p := ⟨bp, op + t * 6, none⟩) HLP.out).trans HF0.out
                      have g1 := (hby.cell (p := ⟨bp, op + t * 6 + 1, none⟩) HLP.out).trans HF1.out
                      have z0 := (HZF.out.to HBY.out).cell 0 rfl
                      have z1 := (HZF.out.to HBY.out).cell 1 rfl
                      clear hby HST f0 f1 f2 f3 f4 f5 x0 x2 v0 HF0 HF1
                      by_cases hc0 : 0 < C
                      · have hcI : (0 : Int) < (C : Int) := by omega
                        have hw := Option.some.inj ((HW2.out hc0).symm.trans HR0.out)
                        have e1 : en = n0 := congrArg Prod.fst hw
                        have e2 : vn = s0 := congrArg (fun r => r.2.1) hw
                        have e3 : LR = i0 := congrArg (fun r => r.2.2) hw
                        subst e1 e2 e3
                        clear hw
                        go_wp2_with (first | go_quiet (fail) | fail)
                        go_roundw
                        case rel => exact ⟨t + 1, by omega, by go_num, by rw [HS1.out]; first | (rw [HADD.out]; done) | (congr 1; have := HADD.out; unfold wrap64; omega), Below.dn HBY.out _⟩
                        case measure => simp [intOf]; omega
                      · have hcI : ¬ (0 : Int) < (C : Int) := by omega
                        go_wp2_with (first | go_quiet (fail) | fail)
                        go_roundw
                        case rel => exact ⟨t + 1, by omega, by go_num, by rw [HS1.out]; first | (rw [HADD.out]; done) | (congr 1; have := HADD.out; unfold wrap64; omega), Below.dn HBY.out _⟩
                        case measure => simp [intOf]; omega
                    · have HTK2 : Hid (S1 = S0) := Lib.hid (by rw [HTK.out, if_neg hm]; rfl)
                      clear HTK HWO HXz HP1 HP2
                      by_cases hm1 : sn = x.entry
                      · subst hm1
                        have hm2 : ¬ un = vq := fun e => hm ⟨rfl, e⟩
                        go_wp2_with (first | go_quiet (fail) | fail)
                        go_roundw
                        case rel => exact ⟨t + 1, by omega, by go_num, by rw [HS1.out, HTK2.out], Below.dn HBZ.out _⟩
                        case measure => simp [intOf]; omega
                      · go_wp2_with (first | go_quiet (fail) | fail)
                        go_roundw
                        case rel => exact ⟨t + 1, by omega, by go_num, by rw [HS1.out, HTK2.out], Below.dn HBZ.out _⟩
                        case measure => simp [intOf]; omega
                  · obtain rfl : t = np := by omega
                    have h1 : sumP x.entry vq (u : Int) (ps.take t) = 1 := by
                      rw [List.take_of_length_le (Nat.le_of_eq HNP.out)]; exact HUW.out
                    rw [h1]
                    have HBE := Lib.hid (HWP.out.trans (hbl.mono HWP.out.size))
                    clear h1 hbl
                    go_wp2_with fail
                    go_roundw
                    case rel => exact ⟨u + 1, by omega, by go_num, HBE.out⟩
                    case measure => simp [intOf]; omega
              · go_simp
                obtain ⟨V1, hV⟩ : ∃ V1, V0.alloc (.cells #[.int .i64 0, .int .i64 0] 37) = V1 := ⟨_, rfl⟩
                have hb : Below V0.heap.size V0 V1 := by rw [← hV]; exact (Below.refl _ _).alloc (Nat.le_refl _) _
                have hx : ABox V1 V0.heap.size 37 [.int .i64 0, .int .i64 0] := by rw [← hV]; exact heap_alloc_new V0 _
                obtain ⟨bn, hbn⟩ : ∃ bn, V0.heap.size = bn := ⟨_, rfl⟩
                have HBN : Hid (wc.heap.size ≤ bn) := Lib.hid (by rw [← hbn]; exact HB0.out.size)
                rw [hV, hbn]
                rw [hbn] at hx
                have HB1 := Lib.hid (HB0.out.trans (hb.mono HB0.out.size))
                have hS1 := HSS13.out V1 HB1.out
                have HZ1 := Lib.hid hx
                clear hx hb hV hbn
                refine hK _ _ (fun _ => ?_) ?_
                · exact hS1
                clear hK K
                try simp only [Act.put, List.setIfInBounds_toArray, List.set_cons_zero, List.set_cons_succ]
                refine wpAnyD_one (i := 9) (oi := ⟨some 59, Op.call { callee := Callee.value (Operand.func 10), args := #[Operand.tmp 50, Operand.tmp 52, Operand.tmp 57, Operand.tmp 58], argTypes := #[25, 3, 3, 3] }, 38, _, _, _⟩) rfl (by kernel_rfl) (by rfl) (fun K hK => ?_)
                go_simp
                go_at_call 10
                refine (HWC.out V1 HB1.out).mono ?_
                rintro e V2 ⟨rfl, hb⟩
                go_simp
                have HB2 := Lib.hid (HB1.out.trans (hb.mono HB1.out.size))
                have hS2 := HSS13.out V2 HB2.out
                have HZ2 := Lib.hid (HZ1.out.to hb)
                clear hb
                refine hK _ _ (fun _ => ?_) ?_
                · exact hS2
                clear hK K
                try simp only [Act.put, List.setIfInBounds_toArray, List.set_cons_zero, List.set_cons_succ]
                refine wpAnyE_take (i := 10) (oi := ⟨some 49, Op.move (Operand.tmp 59), 38, _, _, _⟩) (v := ?_) rfl (by kernel_rfl) (by kernel_rfl) (by kernel_rfl) (by kernel_rfl) (by kernel_rfl) (fun _ _ _ h => h) (by rfl) ?hykr13_14 (hS2) ?hrkr13_14
                case hykr13_14 => (intro wS hSw; clear hSw; go_simp; (try with_reducible rfl))
                all_goals try simp only [Act.put, List.setIfInBounds_toArray, List.set_cons_zero, List.set_cons_succ]
                refine wpAnyF_take (i := 11) (oi := ⟨some 60, Op.extract (Operand.tmp 49) 0, 37, _, _, _⟩) (v := ?_) rfl (by rfl) (by kernel_rfl) (by kernel_rfl) (by kernel_rfl) (fun _ _ _ h => h) (by rfl) ?hykr13_15 ?hrkr13_15
                case hykr13_15 => (intro wS; go_simp; (try with_reducible rfl))
                all_goals try simp only [Act.put, List.setIfInBounds_toArray, List.set_cons_zero, List.set_cons_succ]
                refine wpAnyF_take (i := 12) (oi := ⟨some 61, Op.extract (Operand.tmp 49) 1, 3, _, _, _⟩) (v := ?_) rfl (by rfl) (by kernel_rfl) (by kernel_rfl) (by kernel_rfl) (fun _ _ _ h => h) (by rfl) ?hykr13_16 ?hrkr13_16
                case hykr13_16 => (intro wS; go_simp; (try with_reducible rfl))
                all_goals try simp only [Act.put, List.setIfInBounds_toArray, List.set_cons_zero, List.set_cons_succ]
                refine wpAnyF_take (i := 13) (oi := ⟨some 62, Op.extract (Operand.tmp 49) 2, 4, _, _, _⟩) (v := ?_) rfl (by rfl) (by kernel_rfl) (by kernel_rfl) (by kernel_rfl) (fun _ _ _ h => h) (by rfl) ?hykr13_17 ?hrkr13_17
                case hykr13_17 => (intro wS; go_simp; (try with_reducible rfl))
                all_goals try simp only [Act.put, List.setIfInBounds_toArray, List.set_cons_zero, List.set_cons_succ]
                refine wpAnyD_one (i := 15) (oi := ⟨none, Op.store 37 (Operand.tmp 9) (Operand.tmp 60), 0, _, _, _⟩) rfl (by kernel_rfl) (by rfl) (fun K hK => ?_)
                have z0 := HZ2.out.cell 0 rfl
                have z1 := HZ2.out.cell 1 rfl
                have k0 := HZ2.out.fz 0
                have k1 := HZ2.out.fz 1
                go_simp
                clear z0 z1 k0 k1
                refine hK _ _ (fun h => absurd h (by decide)) ?_
                clear hK K
                try simp only [Act.put]
                refine wpAnyD_one (i := 16) (oi := ⟨some 10, Op.assign (Operand.tmp 61), 3, _, _, _⟩) rfl (by kernel_rfl) (by rfl) (fun K hK => ?_)
                go_simp
                refine hK _ _ (fun h => absurd h (by decide)) ?_
                clear hK K
                try simp only [Act.put, List.setIfInBounds_toArray, List.set_cons_zero, List.set_cons_succ]
                refine wpAnyD_one (i := 17) (oi := ⟨some 11, Op.assign (Operand.tmp 62), 4, _, _, _⟩) rfl (by kernel_rfl) (by rfl) (fun K hK => ?_)
                go_simp
                refine hK _ _ (fun h => absurd h (by decide)) ?_
                clear hK K
                try simp only [Act.put, List.setIfInBounds_toArray, List.set_cons_zero, List.set_cons_succ]
                refine wpAnyD_done (by kernel_rfl) ?_ _
                unfold Exit.then
                have HZF : Hid (ABox ((V2.setCell ⟨bn, 0, none⟩ (.int .i64 n0)).setCell ⟨bn, 1, none⟩ (.int .i64 s0)) bn 37 [.int .i64 n0, .int .i64 s0]) := Lib.hid (by simpa using (HZ2.out.set 0 (.int .i64 n0)).set 1 (.int .i64 s0))
                have HBF : Hid (Below wc.heap.size wc ((V2.setCell ⟨bn, 0, none⟩ (.int .i64 n0)).setCell ⟨bn, 1, none⟩ (.int .i64 s0))) := Lib.hid ((HB2.out.setCell (p := ⟨bn, 0, none⟩) HBN.out _).setCell (p := ⟨bn, 1, none⟩) HBN.out _)
                clear HB2 HZ2 hS2
                generalize (V2.setCell ⟨bn, 0, none⟩ (.int .i64 n0)).setCell ⟨bn, 1, none⟩ (.int .i64 s0) = wf at *
                have HBP : Hid (Below W3.heap.size W3 wf) := Lib.hid ((HBg.out.trans (HBC.out.mono HBg.out.size)).trans (HBF.out.mono (Nat.le_trans HBg.out.size HBC.out.size)))
                have HPf := Lib.hid (HPS.out.to HBP.out)
                have HXf := Lib.hid (HXc.out.to HBF.out)
                have HVF : Hid (wf.cell? ⟨bv, ov + q, none⟩ = some (.int .i64 vq) ∧ bv < wf.heap.size) := Lib.hid ⟨(HSS13.out wf HBF.out).2.2, World.block_lt_of_cell? wf ⟨bv, ov + q, none⟩ (HSS13.out wf HBF.out).2.2⟩
                have HUW : Hid (sumP x.entry vq (u : Int) ps = 1) := Lib.hid (HONy.out (u : Int) (by omega) (by rw [HNt.out]; omega))
                have HWP : Hid (Below wp.heap.size wp wf) := Lib.hid (HBC.out.trans (HBF.out.mono HBC.out.size))
                clear HWC HSS13 HBN HBF HBC HXc
                go_upto_region 15 with (fail)
                go_wp2_with fail
                obtain ⟨wq, rfl⟩ : ∃ wq : World, wq = wf := ⟨_, rfl⟩
                go_loopw [12, 13] (fun f i wz => ∃ t : Nat, t ≤ np ∧ i = .int .i64 t ∧ f = .int .i64 (sumP x.entry vq (u : Int) (ps.take t) : Nat) ∧ Below wq.heap.size wq wz) (fun _ i _ => np - (intOf i).toNat)
                case atStart => exact ⟨0, by omega, rfl, rfl, Below.refl _ _⟩
                case round =>
                  obtain ⟨t, ht, rfl, rfl, hbl⟩ := hrel
                  by_cases htn : t < np
                  · have htl : t < ps.length := by rw [HNP.out]; exact htn
                    obtain ⟨bp, op, P1, d1, P2, d2, rfl, -, hbp, f0, f1, f2, f3, f4, f5, hp1, hp2⟩ := pageS_at (HPf.out.to hbl) htl
                    have hsm := pages_smallB m h ss ps[t] (by rw [HPP.out]; exact List.getElem_mem htl)
                    have htk := sumP_take x.entry vq (u : Int) ps htl
                    have hwo := where_one HUW.out htl
                    have hle : sumP x.entry vq (u : Int) (ps.take t) ≤ 1 := by
                      have e1 := HUW.out
                      rw [← List.take_append_drop t ps, sumP_append] at e1
                      omega
                    have hle2 : sumP x.entry vq (u : Int) (ps.take (t + 1)) ≤ 1 := by
                      have e1 := HUW.out
                      rw [← List.take_append_drop (t + 1) ps, sumP_append] at e1
                      omega
                    obtain ⟨pg, hpg⟩ : ∃ pg, ps[t] = pg := ⟨_, rfl⟩
                    rw [hpg] at f0 f1 f2 f3 f4 f5 hp1 hp2 hsm htk hwo
                    obtain ⟨en, vn, sn, un, bo, no⟩ := pg
                    dsimp only at f0 f1 f2 f3 f4 f5 hp1 hp2 hsm htk hwo
                    obtain ⟨S0, hS0⟩ : ∃ S0, sumP x.entry vq (u : Int) (ps.take t) = S0 := ⟨_, rfl⟩
                    obtain ⟨S1, hS1⟩ : ∃ S1, sumP x.entry vq (u : Int) (ps.take (t + 1)) = S1 := ⟨_, rfl⟩
                    rw [hS0, hS1] at htk
                    rw [hS0] at hle ⊢
                    rw [hS1] at hle2
                    have HS1 := Lib.hid hS1
                    have HTK := Lib.hid htk
                    have HWO := Lib.hid hwo
                    have HSM2 := Lib.hid hsm
                    have HP1 := Lib.hid hp1
                    have HP2 := Lib.hid hp2
                    have HXz := Lib.hid (HXf.out.to hbl)
                    have x0 := HXz.out.cell 0 rfl
                    have x2 := HXz.out.cell 2 rfl
                    have v0 := (hbl.cell (p := ⟨bv, ov + q, none⟩) HVF.out.2).trans HVF.out.1
                    have HBZ := Lib.hid hbl
                    have htI : (t : Int) < (np : Int) := by omega
                    clear hpg htl hsm htk hwo hp1 hp2 hbl hS0 hS1
                    by_cases hm : sn = x.entry ∧ un = vq
                    · obtain ⟨hm1, hm2⟩ := hm
                      have HTK2 : Hid (S1 = S0 + cntL (u : Int) (bo ++ no)) := Lib.hid (by rw [HTK.out, if_pos ⟨hm1, hm2⟩])
                      have HWO2 := Lib.hid (HWO.out ⟨hm1, hm2⟩)
                      clear HTK HWO
                      subst hm1
                      subst hm2
                      have hst := fun nq => stands_any en vn x.entry un (u : Int) P1 P2 d1 d2 bo no (wr.drewN nq) (HP1.out.dn nq) (HP2.out.dn nq) HSM2.out.1 HSM2.out.2
                      obtain ⟨C, hC⟩ : ∃ C, cntL (u : Int) (bo ++ no) = C := ⟨_, rfl⟩
                      obtain ⟨LR, hLR⟩ : ∃ LR, lastR (u : Int) (bo ++ no).reverse = LR := ⟨_, rfl⟩
                      have htk2 := HTK2.out
                      have hwo2 := HWO2.out
                      rw [hC] at htk2 hwo2
                      simp only [hC, hLR] at hst
                      rw [hLR] at hwo2
                      have HST := Lib.hid hst
                      have HW2 := Lib.hid hwo2
                      have HTK3 := Lib.hid htk2
                      have HADD : Hid ((S0 : Int) + (C : Int) = (S1 : Int)) := Lib.hid (by omega)
                      have HF0 := Lib.hid f0
                      have HF1 := Lib.hid f1
                      have HLP := Lib.hid hbp
                      clear HTK2 HWO2 hst hwo2 htk2 hC hLR
                      go_wp2_with (first | go_quiet (fail) | fail)
                      refine (HST.out nq).mono ?_
                      rintro e wy ⟨rfl, hby⟩
                      have HBY := Lib.hid ((Below.dn HBZ.out nq).trans (hby.mono (Below.dn HBZ.out nq).size))
                      have g0 := (hby.cell (p := ⟨bp, op + t * 6, none⟩) HLP.out).trans HF0.out
                      have g1 := (hby.cell (p := ⟨bp, op + t * 6 + 1, none⟩) HLP.out).trans HF1.out
                      have z0 := (HZF.out.to HBY.out).cell 0 rfl
                      have z1 := (HZF.out.to HBY.out).cell 1 rfl
                      clear hby HST f0 f1 f2 f3 f4 f5 x0 x2 v0 HF0 HF1
                      by_cases hc0 : 0 < C
                      · have hcI : (0 : Int) < (C : Int) := by omega
                        have hw := Option.some.inj ((HW2.out hc0).symm.trans HR0.out)
                        have e1 : en = n0 := congrArg Prod.fst hw
                        have e2 : vn = s0 := congrArg (fun r => r.2.1) hw
                        have e3 : LR = i0 := congrArg (fun r => r.2.2) hw
                        subst e1 e2 e3
                        clear hw
                        go_wp2_with (first | go_quiet (fail) | fail)
                        go_roundw
                        case rel => exact ⟨t + 1, by omega, by go_num, by rw [HS1.out]; first | (rw [HADD.out]; done) | (congr 1; have := HADD.out; unfold wrap64; omega), Below.dn HBY.out _⟩
                        case measure => simp [intOf]; omega
                      · have hcI : ¬ (0 : Int) < (C : Int) := by omega
                        go_wp2_with (first | go_quiet (fail) | fail)
                        go_roundw
                        case rel => exact ⟨t + 1, by omega, by go_num, by rw [HS1.out]; first | (rw [HADD.out]; done) | (congr 1; have := HADD.out; unfold wrap64; omega), Below.dn HBY.out _⟩
                        case measure => simp [intOf]; omega
                    · have HTK2 : Hid (S1 = S0) := Lib.hid (by rw [HTK.out, if_neg hm]; rfl)
                      clear HTK HWO HXz HP1 HP2
                      by_cases hm1 : sn = x.entry
                      · subst hm1
                        have hm2 : ¬ un = vq := fun e => hm ⟨rfl, e⟩
                        go_wp2_with (first | go_quiet (fail) | fail)
                        go_roundw
                        case rel => exact ⟨t + 1, by omega, by go_num, by rw [HS1.out, HTK2.out], Below.dn HBZ.out _⟩
                        case measure => simp [intOf]; omega
                      · go_wp2_with (first | go_quiet (fail) | fail)
                        go_roundw
                        case rel => exact ⟨t + 1, by omega, by go_num, by rw [HS1.out, HTK2.out], Below.dn HBZ.out _⟩
                        case measure => simp [intOf]; omega
                  · obtain rfl : t = np := by omega
                    have h1 : sumP x.entry vq (u : Int) (ps.take t) = 1 := by
                      rw [List.take_of_length_le (Nat.le_of_eq HNP.out)]; exact HUW.out
                    rw [h1]
                    have HBE := Lib.hid (HWP.out.trans (hbl.mono HWP.out.size))
                    clear h1 hbl
                    go_wp2_with fail
                    go_roundw
                    case rel => exact ⟨u + 1, by omega, by go_num, HBE.out⟩
                    case measure => simp [intOf]; omega
            · have huI : ¬ (u : Int) < (N : Int) := by omega
              have HBE := Lib.hid (HBL.out.trans (HBC.out.mono HBL.out.size))
              go_wp2_with fail
              go_roundw
              case rel => exact ⟨q + 1, by omega, by go_num, HBE.out⟩
              case measure => simp [intOf]; omega
        · obtain rfl : q = x.texts.length := by omega
          have HB6 := Lib.hid (HB2.out.trans (hbl.mono HB2.out.size))
          clear hbl
          go_wp2_with fail
          go_roundw
          case rel => exact ⟨k + 1, by omega, by go_num, HB6.out⟩
          case measure => simp [intOf]; omega
    · obtain rfl : k = n := by omega
      have HBE := Lib.hid (HB3.out.trans (hbl.mono HB3.out.size))
      clear hbl
      go_wp2_with fail
      refine (lives_any wr (HT.out.to HBE.out)).mono ?_
      rintro e W9 ⟨rfl, hb⟩
      have HB9 := Lib.hid (HBE.out.trans (hb.mono HBE.out.size))
      clear hb
      go_wp2_with fail
      go_ret
      exact ⟨rfl, HB9.out⟩
end Go.Proofs.YtakaielemicpkaaDoor
namespace Go.Proofs.YtakaielemicpkaaDoor
open Go.ChangeShapes Go.WideShapes Go.ChangeAt Go.RowKit Go.Deep
theorem exists_list {α : Type} {Q : Nat → α → Prop} (n : Nat) (h : ∀ i, i < n → ∃ a, Q i a) : ∃ l : List α, l.length = n ∧ ∀ i, (hi : i < l.length) → Q i l[i] := by
  induction n with
  | zero => exact ⟨[], rfl, fun i hi => by simp at hi⟩
  | succ n ih =>
    obtain ⟨l, hl, hq⟩ := ih fun i hi => h i (by omega)
    obtain ⟨a, ha⟩ := h n (by omega)
    refine ⟨l ++ [a], by simp [hl], fun i hi => ?_⟩
    by_cases hin : i < l.length
    · rw [List.getElem_append_left hin]; exact hq i hin
    · have : i = n := by simp at hi; omega
      subst this
      rw [List.getElem_append_right (by omega)]
      simpa using ha
theorem addr_plain {w : World} {a : Addr} {v : Value} (h : w.cell? (a.add 0) = some v) : ∃ b o, a = ⟨b, o, none⟩ := by
  obtain ⟨b, o, spot⟩ := a
  have hspot : spot = none := by simpa [Addr.add] using World.cell?_spot h
  subst hspot
  exact ⟨b, o, rfl⟩
theorem bulk_one {H : Type} (d : DataW H) : 1 ≤ Rows.uptoBulk d := by
  cases d with
  | lit l => cases l <;> simp [Rows.uptoBulk]
  | nil => simp [Rows.uptoBulk]
  | ptr d => simp [Rows.uptoBulk]
  | slice elems spare => simp [Rows.uptoBulk]
  | agg parts => simp [Rows.uptoBulk]
  | iface t d => simp [Rows.uptoBulk]
  | map entries => simp [Rows.uptoBulk]
  | held h => simp [Rows.uptoBulk]
theorem bulk_part {H : Type} {d : DataW H} {l : List (DataW H)} (h : d ∈ l) : Rows.uptoBulk d ≤ Rows.uptoBulkAll l := by
  induction l with
  | nil => cases h
  | cons x r ih =>
    simp only [Rows.uptoBulkAll]
    cases List.mem_cons.1 h with
    | inl e => subst e; omega
    | inr e => have := ih e; omega
theorem bulk_length {H : Type} (l : List (DataW H)) : l.length ≤ Rows.uptoBulkAll l := by
  induction l with
  | nil => simp [Rows.uptoBulkAll]
  | cons x r ih => have := bulk_one x; simp only [Rows.uptoBulkAll, List.length_cons]; omega
theorem bulk_slice {H : Type} (elems spare : List (DataW H)) : elems.length + spare.length + 1 ≤ Rows.uptoBulk (.slice elems spare) := by
  have h1 := bulk_length elems
  have h2 := bulk_length spare
  simp only [Rows.uptoBulk]
  omega
/-- THE BOUND. -/
theorem bulk_bound {H : Type} {l : List (DataW H)} (hk : Rows.uptoSmall H l = true) : Rows.uptoBulkAll l ≤ 1048576 := by
  have h := of_decide_eq_true hk
  exact h
variable {H : Type} {enc : TypeId × Value → H} {P : Program}
/-- A slice whose elements are of a kind that is known. -/
theorem open_sl {α : Type} [Rep α] {t e : TypeId} {W : World} {base : Nat} {v : Value} {d : DataW H} {ps : List MemPlace} (ht : P.underlying t = some (.slice e)) (hC : P.cellsOf e = Rep.size α)
    (hel : ∀ fuel cs x, DataW.trod enc P W 0 (fun _ => true) true fuel e cs = some x → ∃ a : α, Rep.R W (fun b => b < W.heap.size) cs a) (hsz : 0 < Rep.size α)
    (hval : Value.okWide P W .any base t v) (h : DataW.Trod enc P W 0 (fun _ => true) true t v d ps) :
    ∃ A c, ∃ l : List α, v = .slice A l.length c ∧ Sl W (fun b => b < W.heap.size) A c l ∧ l.length ≤ Rows.uptoBulk d := by
  obtain ⟨a, len, cap, rfl⟩ := okWide_slice ht hval
  obtain ⟨fuel, hf⟩ := h
  rcases open_slice ht hf with ⟨hcs, _⟩ | ⟨a', len', cap', m, n, D, Pl, hcs, _, hl, hm, hmm, hx, hi⟩
  · simp [Value.cells] at hcs
    obtain ⟨rfl, rfl, rfl⟩ := hcs
    exact ⟨none, 0, [], rfl, Sl.nil _ _ _ _ (by simp [maxLen]), by simp⟩
  · simp [Value.cells] at hcs
    obtain ⟨rfl, rfl, rfl⟩ := hcs
    simp only [if_true] at hmm
    subst hmm
    rw [hC] at hi
    have hQ : ∀ i, i < len → ∃ x : α, ∃ es, Rep.R W (fun b => b < W.heap.size) es x ∧ ∀ j u, es[j]? = some u → W.cell? (a'.add (i * Rep.size α + j)) = some u := by
      intro i hil
      obtain ⟨cs', hc, ht'⟩ := hi i (by omega)
      obtain ⟨x, hr⟩ := hel _ _ _ ht'
      obtain ⟨_, hlen, hat⟩ := World.cells?_some hc
      refine ⟨x, cs', hr, fun j u hu => ?_⟩
      have hj : j < Rep.size α := by rw [← hlen]; exact (List.getElem?_eq_some_iff.1 hu).1
      rw [← Go.Deep.add_add]
      exact (hat j hj).trans hu
    obtain ⟨l, hll, hq⟩ := exists_list len hQ
    refine ⟨some a', m, l, by rw [hll], ⟨by omega, hm, fun h0 => ?_⟩, ?_⟩
    · obtain ⟨es, hr, hc⟩ := hq 0 h0
      have hel0 := Rep.len hr
      obtain ⟨b, o, rfl⟩ := addr_plain (by simpa using hc 0 _ (List.getElem?_eq_getElem (by omega)))
      have hlt := World.block_lt_of_cell? W _ (hc 0 _ (List.getElem?_eq_getElem (by omega)))
      rw [addr_add] at hlt
      refine ⟨b, o, rfl, hlt, hlt, fun i hil => ?_⟩
      obtain ⟨es, hr, hc⟩ := hq i hil
      refine ⟨es, hr, fun j u hu => ?_⟩
      have := hc j u hu
      rwa [addr_add, ← Nat.add_assoc] at this
    · simp only [Prod.mk.injEq] at hx
      rw [hx.1, hll]
      have := bulk_slice ((List.range len).map D) ((List.range (m - len)).map fun j => D (len + j))
      simp only [List.length_map, List.length_range] at this
      omega
end Go.Proofs.YtakaielemicpkaaDoor
namespace Go.Proofs.YtakaielemicpkaaDoor
open Go.ChangeShapes Go.WideShapes Go.ChangeAt Go.RowKit Go.Deep
variable {H : Type} {enc : TypeId × Value → H} {P : Program}
theorem open_ints_sl {t e : TypeId} {W : World} {base : Nat} {v : Value} {d : DataW H} {ps : List MemPlace} (ht : P.underlying t = some (.slice e)) (he : P.underlying e = some (.int .i64)) (hc : P.cellsOf e = 1)
    (hval : Value.okWide P W .any base t v) (h : DataW.Trod enc P W 0 (fun _ => true) true t v d ps) : ∃ A c, ∃ l : List Int, v = .slice A l.length c ∧ Sl W (fun b => b < W.heap.size) A c l := by
  obtain ⟨a, len, cap, rfl⟩ := okWide_slice ht hval
  obtain ⟨fuel, hf⟩ := h
  rcases open_ints ht he hc hf with ⟨hcs, _⟩ | ⟨a', len', cap', zs, hcs, _, hl, hm, hz, _, hcell, hwf⟩
  · simp [Value.cells] at hcs
    obtain ⟨rfl, rfl, rfl⟩ := hcs
    exact ⟨none, 0, [], rfl, Sl.nil _ _ _ _ (by simp [maxLen])⟩
  · simp [Value.cells] at hcs
    obtain ⟨rfl, rfl, rfl⟩ := hcs
    have hz' : zs.length = cap := by simpa using hz
    have hlt : (zs.take len).length = len := by rw [List.length_take]; omega
    refine ⟨some a', cap, zs.take len, by rw [hlt], by rw [hlt]; exact hl, hm, fun h0 => ?_⟩
    obtain ⟨b, o, rfl, hat⟩ := Go.ints_at hcell (by omega)
    refine ⟨b, o, rfl, World.block_lt_of_cell? W _ (hat 0 (by omega)), World.block_lt_of_cell? W _ (hat 0 (by omega)), fun i hi => ?_⟩
    rw [hlt] at hi
    have e : zs.getD i 0 = (zs.take len)[i]'(by omega) := by
      rw [List.getElem_take, List.getD_eq_getElem?_getD, List.getElem?_eq_getElem (by omega)]; rfl
    refine ⟨[.int .i64 (zs.getD i 0)], ⟨by rw [e], ?_⟩, fun j u hu => ?_⟩
    · exact i64_wf (hwf _ (List.mem_of_mem_take (List.getElem_mem (by omega))))
    · have hj : j = 0 := by
        rcases j with _ | j
        · rfl
        · simp at hu
      subst hj
      simp only [List.getElem?_cons_zero, Option.some.injEq] at hu
      subst hu
      have := hat i (by omega)
      show W.cell? ⟨b, o + i * 1 + 0, none⟩ = _
      rw [Nat.mul_one, Nat.add_zero]; exact this
end Go.Proofs.YtakaielemicpkaaDoor
namespace Go.Proofs.YtakaielemicpkaaDoor.rowBookWords
open Go.ChangeShapes Go.WideShapes Go.ChangeAt Go.RowKit
set_option maxRecDepth 100000 in
theorem contract (H : Type) (enc : TypeId × Value → H) (W : World) (base : Nat) (args : Array Value) (ds gs : List (DataW H)) (before : List MemPlace)
    (hval : ∀ (j : Nat) t v, Tryd.f3.params[j]? = some t → args[j]? = some v → Value.okWide Tryd.prog W .any base t v)
    (hW : DataW.Whole enc Tryd.prog Tryd.f3.params.toList Rows.bookWordsSpec.vars false W args.toList ds gs before) (hL : laidMetH Tryd.prog laidL W) :
    Calls Tryd.prog 3 args W fun e W' => ∃ v, e = .returned v ∧ Rows.bookWordsSpec.post enc Tryd.prog Tryd.f3 false true false false W args v W' := by
  have hW' := hW
  obtain ⟨p, q, hA0, hV, rfl, hfz, hnd⟩ := hW
  have hA : DataW.TrodAll enc Tryd.prog W 0 (fun _ => true) true Tryd.f3.params.toList args.toList ds p := hA0
  rw [Tryd.params3] at hA hval
  obtain ⟨v0, vs0, d0, ds0, p0, q0, hargs, rfl, rfl, h0, r0⟩ := trodAll_cons hA
  obtain ⟨rfl, rfl, rfl⟩ := trodAll_nil r0
  obtain rfl : args = #[v0] := by cases args; simp_all
  obtain ⟨rfl, rfl⟩ := trodVars_none hV
  obtain ⟨A0, c0, l0, rfl, hl0⟩ := open_ints_sl Tryd.underlying22 Tryd.underlying3 cells_int (hval 0 22 v0 rfl rfl) h0
  refine (words_any A0 c0 l0 W hl0 (tabs_of hL)).mono fun e W' ⟨he, hb⟩ => ?_
  subst he
  exact ⟨_, rfl, row_close laidOut Tryd.underlying4 (by kernel_rfl) (by kernel_rfl) rfl hW' rfl hb⟩

theorem laid_met (os : Os) : laidMet Tryd.prog Rows.bookWordsRow.laid ((laidWorld os).forCall (fun _ _ => 0) ⟨#[], #[.slice none 0 0], []⟩).memory :=
  laidMet_of_run' 8 (by kernel_rfl) (by kernel_rfl)
theorem reads (os : Os) {H : Type} (enc : TypeId × Value → H) : ∃ places, DataW.whole enc Tryd.prog ((laidWorld os).forCall (fun _ _ => 0) ⟨#[], #[.slice none 0 0], []⟩).memory Tryd.f3.params.toList Rows.bookWordsSpec.vars false (#[.slice none 0 0] : Array Value).toList 8 = some ([.nil], [], places) :=
  ⟨[], by kernel_rfl⟩
set_option maxRecDepth 100000 in
theorem lifted (os : Os) (started : os.Started) (H : Type) (enc : TypeId × Value → H) (F : Stop.Interp) :
    ReturnsInHanded {} Tryd.checked os 3 .any ((OpenSpec.ofChange Rows.bookWordsSpec).preRow enc Tryd.prog Tryd.f3 Rows.bookWordsRow.domain false Rows.bookWordsRow.laid) (((OpenSpec.ofChange Rows.bookWordsSpec).at F).post enc Tryd.prog Tryd.f3 false true false false) := by
  obtain ⟨places, hx⟩ := reads os enc
  refine returnsInHanded_of_row (C := Tryd.checked) (s := (OpenSpec.ofChange Rows.bookWordsSpec)) own started (by kernel_rfl) Tryd.func3
    (witness_row_at (enc := enc) (C := Tryd.checked) false (laidWorld os) #[.slice none 0 0] rfl (by kernel_rfl) (by kernel_rfl) (by kernel_rfl)
      (OpenSpec.preRow_of_cond 8 hx (by kernel_rfl) (fun k hk => by cases hk) (by kernel_rfl) (laid_met os))) ?_
  intro W base args ds gs before hval hW _ _ _ hL _ _
  exact contract H enc W base args ds gs before hval hW hL
theorem said : Rows.BookWordsSaid :=
  OpenClaim.holds_of_cond 3 Tryd.f3 rfl rfl rfl rfl rfl rfl rfl ⟨rfl, rfl, rfl, rfl, rfl⟩ rfl rfl rfl rfl rfl (by kernel_rfl) Tryd.func3 (by kernel_rfl)
    (of_decide_eq_true (by kernel_rfl)) (by unfold Func.isWrapper; first | (rw [if_pos (by decide +kernel)]; kernel_rfl) | (rw [if_neg (by decide +kernel)]; exact ⟨rfl, rfl⟩))
    (fun os started H enc _ F => by rw [OpenClaim.pre_eq_preRow]; exact lifted os started H enc F)
theorem wants : Tryd.f3.params.all (fun t => !Tryd.prog.wantsStandIn t) = true := by kernel_rfl
theorem plain (f : FuncId) (fn : Func) (hf : Tryd.pinned.checked.prog.funcNamed "rollbook/rollbooklaw28.BookWords" = some f) (hfn : Tryd.pinned.checked.prog.funcs[f]? = some fn) :
    false = Tryd.pinned.checked.prog.looks [] ∧ ∀ (j : Nat) t, fn.params[j]? = some t → Tryd.pinned.checked.prog.wantsStandIn t = false := by
  obtain rfl : f = 3 := Option.some.inj ((show Tryd.prog.funcNamed "rollbook/rollbooklaw28.BookWords" = some 3 by kernel_rfl).symm.trans hf) |>.symm
  obtain rfl : fn = Tryd.f3 := (Option.some.inj (Tryd.func3.symm.trans hfn)).symm
  refine ⟨by kernel_rfl, fun j t ht => ?_⟩
  have := Array.all_eq_true_iff_forall_mem.1 wants t (Array.mem_of_getElem? ht)
  exact (by simpa using this : Tryd.prog.wantsStandIn t = false)
theorem card : Rows.BookWordsCardSaid :=
  Claim7.holds_tied_plain_at .later [] _ _ _ _ said (fun _ h => by cases h) (by kernel_rfl) (fun _ h => by cases h) bookWords_row_tie rfl ⟨rfl, rfl⟩ (by kernel_rfl) rfl plain (by kernel_rfl)
#print axioms card
end Go.Proofs.YtakaielemicpkaaDoor.rowBookWords
