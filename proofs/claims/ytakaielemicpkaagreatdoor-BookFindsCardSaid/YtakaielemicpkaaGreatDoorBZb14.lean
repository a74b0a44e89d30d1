/- The reference's pages of lines and their notes are those of package page. No condition but sizes.
The reference's pages of a text are those of package page. No condition but sizes.
The labels of a book's pages in one string. No condition but sizes.
The example of the chapter, as plain data. No program is in sight.
The calls of the chapter's example, each by itself. No condition but sizes.
A text made from the numbers of a list from an index on. No condition. -/
import Derived.Test.YtakaielemicpkaaGreatDoorBZb13
namespace Go.Proofs.YtakaielemicpkaaGreatDoor
open Go.RowKit
def SP.copy (B : Nat) (x : LineP) : SP := ⟨fun v w => ∃ A c A' c', v = .agg #[.int .i64 x.fr, .int .i64 x.un, .slice A x.gaps.length c, .slice A' x.notes.length c'] ∧ Own w B 3 (.slice A x.gaps.length c) x.gaps ∧ Own w B 3 (.slice A' x.notes.length c') x.notes, fun _ _ _ h hb => by
  obtain ⟨A, c, A', c', h1, h2, h3⟩ := h
  exact ⟨A, c, A', c', h1, h2.below hb, h3.below hb⟩⟩
set_option maxRecDepth 100000 in
set_option maxHeartbeats 32000000 in
theorem rset_any (A B : Option Addr) (c d : Nat) (body : List LineP) (notes : List (List LineP)) (h : Int) (w : World) (ha : Sl w (fun b => b < w.heap.size) A c body) (hb : Sl w (fun b => b < w.heap.size) B d notes) (hln : notes.length ≤ 1048576)
    (hall : body.length + notes.flatten.length ≤ 1048576) (hsm : SmallL body) (hsn : ∀ n ∈ notes, SmallL n) :
    Calls Tryz.prog 63 #[.slice A body.length c, .slice B notes.length d, .int .i64 h] w fun e w' => ∃ v, e = .returned (.tuple #[v, .int .i64 (pageE body notes h)]) ∧
      (pageE body notes h = 0 → Own w' w.heap.size 36 v ((setPages notes h.toNat (allLines body notes) body []).map (Bd.mk : PageP → Bd PageP w.heap.size))) ∧ (pageE body notes h ≠ 0 → v = .slice none 0 0) ∧ Below w.heap.size w w' := by
  have HC := Lib.hid (rwrong_any A B c d body notes h w ha hb hln (by omega) (fun x hx => by have := (hsm x hx).2; omega))
  have HA := Lib.hid ha
  have HBn := Lib.hid hb
  have HSM := Lib.hid hsm
  have HSN := Lib.hid hsn
  have hbc : body.length ≤ c := ha.1
  have hnd : notes.length ≤ d := hb.1
  clear ha hb hsm hsn
  by_cases hE : pageE body notes h = 0
  · obtain ⟨hn, rfl⟩ : ∃ hn : Nat, h = (hn : Int) := ⟨h.toNat, by have := pageE_h hE; omega⟩
    have hh := pageE_h hE
    have h4 : 4 ≤ hn := by omega
    have h100 : hn ≤ 100 := by omega
    have HREF := Lib.hid (pageE_refs hE)
    have hbl : body.length ≤ 1048576 := by omega
    have HALL : Hid (allLines body notes ≤ 1048576) := Lib.hid (Nat.le_trans (pageE_all hE) hall)
    have HE := Lib.hid hE
    simp only [hE] at HC ⊢
    rw [Int.toNat_natCast]
    clear hE hh hall
    go_enter Tryz.func63, Tryz.ntmps63
    go_wp2_with (first | (go_at_call 89; refine HC.out.mono ?_; rintro e w2 ⟨rfl, hb2⟩) | fail)
    have HP0 : Hid (PS w w2 none (.slice none 0 0) [] (.slice none 0 0) []) := Lib.hid ⟨hb2, Que.nil _ _ _, OwnP.nil _ _ _ _⟩
    obtain ⟨N, hN⟩ : ∃ N, (setPages notes hn (allLines body notes) body []).length = N := ⟨_, rfl⟩
    have HNE := Lib.hid hN
    clear hb2 HC hN
    go_loopw [9, 10, 11] (fun v9 v10 v11 wr => ∃ (at_ : Nat) (ob : Option Nat) (qu : List LineP) (pgs : List PageP) (f : Nat), v11 = .int .i64 (at_ : Int) ∧ at_ ≤ body.length ∧ Hid (PS w wr ob v10 qu v9 pgs) ∧ Hid (allLines (body.drop at_) notes + qu.length ≤ f ∧ f ≤ 1048576) ∧
      Hid (pgs ++ setPages notes hn f (body.drop at_) qu = setPages notes hn (allLines body notes) body []) ∧ Hid (SmallL qu)) (fun v9 _ _ _ => N - vlen v9)
    case atStart => exact ⟨0, none, [], [], _, rfl, Nat.zero_le _, HP0, Lib.hid ⟨Nat.le_refl _, HALL.out⟩, Lib.hid rfl, Lib.hid (fun x hx => absurd hx (by simp))⟩
    case round =>
      clear HP0 w2
      obtain ⟨at_, ob, qu, pgs, f, rfl, hat, HP, HF, HT, HS⟩ := hrel
      obtain ⟨Aq, cq, hqv, -, -⟩ := HP.out.q.len
      rw [List.length_map] at hqv
      subst hqv
      obtain ⟨A9, c9, hv9, -, -⟩ := HP.out.pg.len
      subst hv9
      go_upto_region 7 with (fail)
      go_cut [29] from 21 to 29 (fun v29 wx => v29 = .bool (decide (at_ < body.length) || decide (0 < qu.length)) ∧ wx = wr)
      case first =>
        by_cases h1 : at_ < body.length
        · have h2 : (at_ : Int) < (body.length : Int) := by omega
          have H1 := Lib.hid h1
          clear h1
          go_wp2_with fail
          go_meet
          exact ⟨by rw [decide_eq_true H1.out]; rfl, rfl⟩
        · have h2 : ¬ (at_ : Int) < (body.length : Int) := by omega
          have H1 := Lib.hid h1
          clear h1
          by_cases h3 : 0 < qu.length
          · have h5 : (0 : Int) < (qu.length : Int) := by omega
            have H3 := Lib.hid h3
            clear h3
            go_wp2_with fail
            go_meet
            exact ⟨by rw [decide_eq_false H1.out, decide_eq_true H3.out]; rfl, rfl⟩
          · have h5 : ¬ (0 : Int) < (qu.length : Int) := by omega
            have H3 := Lib.hid h3
            clear h3
            go_wp2_with fail
            go_meet
            exact ⟨by rw [decide_eq_false H1.out, decide_eq_false H3.out]; rfl, rfl⟩
      case rest =>
        obtain ⟨rfl, rfl⟩ := hcut
        by_cases hfin : at_ < body.length ∨ 0 < qu.length
        · have HFIN := Lib.hid hfin
          rw [show (decide (at_ < body.length) || decide (0 < qu.length)) = true by rw [Bool.or_eq_true, decide_eq_true_iff, decide_eq_true_iff]; exact hfin]
          clear hfin
          go_upto_region 9 with (fail)
          obtain ⟨O, hO⟩ : ∃ O, wc.heap.size = O := ⟨_, rfl⟩
          obtain ⟨wP, hwP⟩ : ∃ wP, wc.alloc (.cells #[.int .i64 0, .int .i64 0, .int .i64 0, .int .i64 0, .slice none 0 0, .slice none 0 0] 36) = wP := ⟨_, rfl⟩
          have hpg0 : PG w wP O ob (.slice Aq qu.length cq) qu (.slice A9 pgs.length c9) pgs (.slice none 0 0) [] (.slice none 0 0) [] := by
            rw [← hO, ← hwP]
            exact HP.out.start ((Below.refl _ _).alloc (Nat.le_refl _) _) (heap_alloc_new wc _)
          rw [hwP, hO]
          have HG0 := Lib.hid hpg0
          have HQB : Hid (qu.length ≤ 1048576) := Lib.hid (by have := HF.out; omega)
          clear hpg0 hwP hO HP
          clear wc
          go_loopw [10] (fun v10 wx => ∃ (s : Nat) (ob1 : Option Nat) (nv : Value), s ≤ qu.length ∧ s ≤ hn - 1 ∧ Hid (PG w wx O ob1 v10 (qu.drop s) (.slice A9 pgs.length c9) pgs (.slice none 0 0) [] nv (qu.take s))) (fun v10 _ => vlen v10)
          case atStart => exact ⟨0, ob, _, Nat.zero_le _, Nat.zero_le _, HG0⟩
          case round =>
            clear HG0 wP
            obtain ⟨s, ob1, nv, hs1, hs2, HG⟩ := hrel
            obtain ⟨A1, c1, hqv, -, -⟩ := HG.out.q.len
            rw [List.length_map, List.length_drop] at hqv
            subst hqv
            obtain ⟨An, cn, hnv, -, -⟩ := HG.out.n.len
            rw [List.length_take, Nat.min_eq_left hs1] at hnv
            subst hnv
            have x5 := HG.out.o.cell 5 rfl
            have hsq : s ≤ 1048576 := by have := HQB.out; omega
            go_upto_region 9 with (fail)
            go_cut [41] from 31 to 41 (fun v41 wx => v41 = .bool (decide (s < qu.length) && decide (s < hn - 1)) ∧ wx = wr)
            case first =>
              by_cases h1 : s < qu.length
              · have h2 : (0 : Int) < ((qu.length - s : Nat) : Int) := by omega
                have H1 := Lib.hid h1
                by_cases h3 : s < hn - 1
                · have h5 : (s : Int) < (hn : Int) - 1 := by omega
                  have H3 := Lib.hid h3
                  clear h1 h3
                  go_wp2_with fail
                  go_meet
                  exact ⟨by rw [decide_eq_true H1.out, decide_eq_true H3.out]; rfl, rfl⟩
                · have h5 : ¬ (s : Int) < (hn : Int) - 1 := by omega
                  have H3 := Lib.hid h3
                  clear h1 h3
                  go_wp2_with fail
                  go_meet
                  exact ⟨by rw [decide_eq_true H1.out, decide_eq_false H3.out]; rfl, rfl⟩
              · have h2 : ¬ (0 : Int) < ((qu.length - s : Nat) : Int) := by omega
                have H1 := Lib.hid h1
                clear h1
                go_wp2_with fail
                go_meet
                exact ⟨by rw [decide_eq_false H1.out]; rfl, rfl⟩
            case rest =>
              obtain ⟨rfl, rfl⟩ := hcut
              obtain ⟨wr, rfl⟩ : ∃ wr : World, wr = wc := ⟨_, rfl⟩
              clear x5
              by_cases hgo : s < qu.length ∧ s < hn - 1
              · obtain ⟨hgo1, hgo2⟩ := hgo
                rw [decide_eq_true hgo1, decide_eq_true hgo2]
                obtain ⟨A1', c1', e1', hsq1, -⟩ := HG.out.q.len
                obtain ⟨rfl, rfl⟩ : A1 = A1' ∧ c1 = c1' := by injection e1' with a b c; exact ⟨a, c⟩
                obtain ⟨b, o, Ag, cg, Am, cm, hA1, -, hbl1, e0, e1, e2, e3, hgS, hnS⟩ := line_at hsq1.unav (k := 0) (by rw [List.length_drop]; omega)
                subst hA1
                simp only [Nat.zero_mul, Nat.add_zero] at e0 e1 e2 e3
                obtain ⟨x, hx⟩ : ∃ x, (qu.drop s)[0]'(by rw [List.length_drop]; omega) = x := ⟨_, rfl⟩
                rw [hx] at e0 e1 e2 e3 hgS hnS
                have HXQ : Hid (qu[s]? = some x) := Lib.hid (by rw [List.getElem_drop] at hx; rw [List.getElem?_eq_getElem hgo1]; simpa using congrArg some hx)
                have HSX : Hid (x.gaps.length ≤ 100000 ∧ x.notes.length ≤ 100000) := Lib.hid (HS.out x (List.mem_of_getElem? HXQ.out))
                have HGS := Lib.hid hgS
                have HNS := Lib.hid hnS
                have HB1 : Hid (b < wr.heap.size) := Lib.hid hbl1
                have HC1 : Hid (qu.length - s ≤ c1) := Lib.hid (by have := hsq1.1; rwa [List.length_map, List.length_drop] at this)
                have hi0 : (0 : Int) < ((qu.length - s : Nat) : Int) := by omega
                clear hgS hnS hbl1 hx hsq1 e1'
                go_upto_region 10 with (fail)
                refine wp_region_rely [5, 6] (fun i => if i = 5 then SP.copy wr.heap.size x else if i = 6 then SP.rp wr.heap.size [x] else SP.any) 7 (by kernel_rfl) (by kernel_rfl) ?_
                intro T _ g hg hgm
                have q5 : ∀ d, (g d).cell? ⟨O, 5, none⟩ = some (.slice An s cn) := fun d => (HG.out.o.to (hg d)).cell 5 rfl
                have l0 : ∀ d, (g d).cell? ⟨b, o, none⟩ = some (.int .i64 x.fr) := fun d => ((hg d).cell (p := ⟨b, o, none⟩) HB1.out).trans e0
                have l1 : ∀ d, (g d).cell? ⟨b, o + 1, none⟩ = some (.int .i64 x.un) := fun d => ((hg d).cell (p := ⟨b, o + 1, none⟩) HB1.out).trans e1
                have l2 : ∀ d, (g d).cell? ⟨b, o + 2, none⟩ = some (.slice Ag x.gaps.length cg) := fun d => ((hg d).cell (p := ⟨b, o + 2, none⟩) HB1.out).trans e2
                have l3 : ∀ d, (g d).cell? ⟨b, o + 3, none⟩ = some (.slice Am x.notes.length cm) := fun d => ((hg d).cell (p := ⟨b, o + 3, none⟩) HB1.out).trans e3
                repeat (refine wpR_pure (by rfl) fun Kq hq => ?_; go_big_quiet_step (fail); refine wpQuiet_nil (hq _ ?_); clear hq Kq)
                refine wpR_busy (by rfl) (by rfl) (fun d hG K Q hK => ?_) (fun v d hG hp Kr hr => ?_)
                · go_simp
                  go_at_call 90
                  refine (rcopy_any Ag Am cg cm x (g d) (HGS.out.to (hg d)) (HNS.out.to (hg d)) (by have := HSX.out; omega) (by have := HSX.out; omega)).mono ?_
                  rintro e W1 ⟨A3, c3, A4, c4, rfl, ho3, ho4, hb1⟩
                  go_simp
                  exact hK _ _ hb1 (⟨A3, c3, A4, c4, rfl, ho3.re (hg d).size, ho4.re (hg d).size⟩)
                obtain ⟨A3, c3, A4, c4, rfl, -⟩ := (show ∃ A c A' c', v = .agg #[.int .i64 x.fr, .int .i64 x.un, .slice A x.gaps.length c, .slice A' x.notes.length c'] ∧ _ from hp)
                (try clear hp); clear hG
                simp only [Act.put, List.setIfInBounds_toArray, List.set_cons_zero, List.set_cons_succ]
                refine hr _ ?_
                clear hr Kr
                repeat (refine wpR_pure (by rfl) fun Kq hq => ?_; go_big_quiet_step (fail); refine wpQuiet_nil (hq _ ?_); clear hq Kq)
                refine wpR_busy (by rfl) (by rfl) (fun d hG K Q hK => ?_) (fun v d hG hp Kr hr => ?_)
                · obtain ⟨A3', c3', A4', c4', he, ho3, ho4⟩ := (show ∃ A c A' c', Value.agg #[.int .i64 x.fr, .int .i64 x.un, .slice A3 x.gaps.length c3, .slice A4 x.notes.length c4] = .agg #[.int .i64 x.fr, .int .i64 x.un, .slice A x.gaps.length c, .slice A' x.notes.length c'] ∧ Own (g d) wr.heap.size 3 (.slice A x.gaps.length c) x.gaps ∧ Own (g d) wr.heap.size 3 (.slice A' x.notes.length c') x.notes from hG 5 (by kernel_rfl))
                  obtain ⟨rfl, rfl, rfl, rfl⟩ : A3 = A3' ∧ c3 = c3' ∧ A4 = A4' ∧ c4 = c4' := by
                    have := congrArg (fun v : Value => match v with | .agg cs => cs.toList | _ => []) he
                    simp at this
                    exact ⟨this.1.1, this.1.2, this.2.1, this.2.2⟩
                  have HR : Hid (Rep.R (g d) (Up wr.heap.size) [.int .i64 x.fr, .int .i64 x.un, .slice A3 x.gaps.length c3, .slice A4 x.notes.length c4] x) := Lib.hid ⟨_, _, rfl, rep_ints ho3 rfl (fun b hb => hb), rep_ints ho4 rfl (fun b hb => hb)⟩
                  clear ho3 ho4 he
                  go_simp
                  exact hK _ _ ((Below.refl _ _).alloc (Nat.le_refl _) _) (rp_lit (hg d).size HR.out)
                obtain ⟨⟨Az, cz, rfl⟩, -⟩ := (show (∃ A c, v = .slice A [x].length c) ∧ _ from hp)
                (try clear hp); clear hG
                simp only [Act.put, List.setIfInBounds_toArray, List.set_cons_zero, List.set_cons_succ]
                refine hr _ ?_
                clear hr Kr
                refine wpR_tail 3 (by rfl) (by rfl) (fun d hG => ?_)
                have H6 : Hid (Rep.R (g d) (Up wr.heap.size) [.slice Az [x].length cz] [x]) := Lib.hid (show (∃ A c, Value.slice Az [x].length cz = Value.slice A [x].length c) ∧ Rep.R (g d) (Up wr.heap.size) [.slice Az [x].length cz] [x] from hG 6).2
                have HGd := Lib.hid (HG.out.to (hg d))
                have HLT := Lib.hid HG.out.n.lt
                have HQL := Lib.hid HG.out.q.lt
                have HOT := Lib.hid HG.out.b.lt
                have HOL : Hid (O < wr.heap.size) := Lib.hid HG.out.o.lt
                have HSZ : Hid (wr.heap.size ≤ (g d).heap.size) := Lib.hid (hg d).size
                clear hG hg hgm q5 l0 l1 l2 l3 e0 e1 e2 e3
                generalize g d = w6 at *
                clear g
                have HSl : Hid (Sl w6 (Up wr.heap.size) Az cz ([x].map (Av.mk : LineP → Av LineP (PE O ob1 (Value.slice none 0 0).ownBlock)))) := Lib.hid (by
                  obtain ⟨A', c', e, hs, -⟩ := H6.out
                  cases e
                  exact hs.av (fun i hi _ => ⟨Nat.lt_of_lt_of_le HOL.out hi, fun e => by have := (HQL.out i e.symm).2; have : wr.heap.size ≤ i := hi; omega, fun e => by have := (HOT.out i e.symm).2; have : wr.heap.size ≤ i := hi; omega⟩))
                have HLM : Hid (((qu.take s).map (Av.mk : LineP → Av LineP (PE O ob1 (Value.slice none 0 0).ownBlock))).length = s) := Lib.hid (by rw [List.length_map]; rw [List.length_take]; omega)
                refine wpAny_one (i := 7) (oi := _) rfl (by kernel_rfl) (by rfl) (fun K hK => ?_)
                refine wp_cat (α := Av LineP (PE O ob1 (Value.slice none 0 0).ownBlock)) _ (.tmp 43) (.tmp 48) 34 rfl (O + 1) 88 (.agg #[.int .i64 0, .int .i64 0, .slice none 0 0, .slice none 0 0]) 64 Tryz.underlying34 line_info rfl (show 0 < 4 by decide) (.slice An s cn) ((qu.take s).map Av.mk) rfl HGd.out.n.own Az cz 1 ([x].map Av.mk) rfl rfl (Up wr.heap.size) HSl.out (fun i (hi : wr.heap.size ≤ i) _ e => by have := (HLT.out i e.symm).2; omega) (by rw [HLM.out]; have := HQB.out; omega) (by rw [HLM.out]; have := HQB.out; omega) (by have := HOL.out; have := HSZ.out; omega) ?_
                intro v5 w5 hown5 hg5 hat5
                obtain ⟨A5, c5, e5, -⟩ := hown5.form
                rw [List.length_append, HLM.out] at e5
                simp only [List.length_map, List.length_cons, List.length_nil, Nat.zero_add] at e5
                subst e5
                obtain ⟨q5, f5, hpg5⟩ := HGd.out.note hown5 hg5 hat5
                have r5 := f5 5
                have HG5 := Lib.hid hpg5
                refine hK _ _ ?_
                clear hK K hown5 hg5 hat5 hpg5 f5 HSl H6 HGd
                try simp only [Act.put, List.setIfInBounds_toArray]
                refine wpAny_one (i := 8) (oi := _) rfl (by kernel_rfl) (by rfl) (fun K hK => ?_)
                go_simp
                refine hK _ _ ?_
                clear hK K
                try simp only [Act.put, List.setIfInBounds_toArray, List.set_cons_zero, List.set_cons_succ]
                refine wpAny_one (i := 9) (oi := _) rfl (by kernel_rfl) (by rfl) (fun K hK => ?_)
                go_simp
                refine hK _ _ ?_
                clear hK K
                try simp only [Act.put, List.setIfInBounds_toArray, List.set_cons_zero, List.set_cons_succ]
                clear q5 r5
                refine wpAny_done (by kernel_rfl) ?_ _
                unfold Exit.then
                have HTS : Hid (qu.take (s + 1) = qu.take s ++ [x]) := Lib.hid (by rw [List.take_add_one, HXQ.out]; rfl)
                have hcb := HC1.out
                have hcI : (1 : Int) ≤ (c1 : Int) := by omega
                have hlI : (1 : Int) ≤ ((qu.length - s : Nat) : Int) := by omega
                obtain ⟨ob3, hob3, hq3⟩ := HG5.out.q.cut (k := 1) (by rw [List.length_map, List.length_drop]; omega)
                rw [← List.map_drop, List.drop_drop] at hq3
                by_cases hc1 : c1 = 1
                · rw [if_pos hc1, hc1] at hq3
                  have HGC := Lib.hid (HG5.out.cut hq3 hob3)
                  clear hq3
                  go_wp2_with fail
                  go_roundw
                  case rel => exact ⟨s + 1, ob3, _, by omega, by omega, Lib.hid (by rw [HTS.out]; exact HGC.out)⟩
                  case measure => (simp only [vlen]; omega)
                · rw [if_neg hc1, show (some (⟨b, o, none⟩ : Addr)).map (·.add (1 * Rep.size (OldL w.heap.size))) = some ⟨b, o + 4, none⟩ from rfl] at hq3
                  have HGC := Lib.hid (HG5.out.cut hq3 hob3)
                  clear hq3
                  go_wp2_with fail
                  go_roundw
                  case rel => exact ⟨s + 1, ob3, _, by omega, by omega, Lib.hid (by rw [HTS.out]; exact HGC.out)⟩
                  case measure => (simp only [vlen]; omega)
              · have hse : s = min qu.length (hn - 1) := by omega
                rw [show (decide (s < qu.length) && decide (s < hn - 1)) = false by rw [Bool.and_eq_false_iff, decide_eq_false_iff_not, decide_eq_false_iff_not]; omega]
                obtain ⟨bd, hbd⟩ : ∃ bd, body.drop at_ = bd := ⟨_, rfl⟩
                have hbdl : at_ + bd.length = body.length := by rw [← hbd, List.length_drop]; omega
                have HBD := Lib.hid hbd
                rw [hbd] at HF HT
                have HBS : Hid (SmallL bd) := Lib.hid (fun x hx => HSM.out x (by rw [← hbd] at hx; exact List.mem_of_mem_drop hx))
                have HBR : Hid (Refs bd notes) := Lib.hid (fun x hx => HREF.out x (by rw [← hbd] at hx; exact List.mem_of_mem_drop hx))
                have HFI0 : Hid (fillP notes hn (bd.drop 0) 0 s qu = fillP notes hn bd 0 (min qu.length (hn - 1)) qu) := Lib.hid (by rw [List.drop_zero, hse])
                have HF0 : Hid (allLines (bd.drop 0) notes + qu.length ≤ f) := Lib.hid (by rw [List.drop_zero]; exact HF.out.1)
                have hf1 : f ≤ 1048576 := HF.out.2
                have HEX : Hid (∀ i (hi : i < bd.length) (hi2 : at_ + i < body.length), body[at_ + i] = bd[i]) := Lib.hid (fun i hi hi2 => by simp only [← hbd, List.getElem_drop])
                clear hbd hse hgo
                obtain ⟨wq, rfl⟩ : ∃ wq : World, wq = wr := ⟨_, rfl⟩
                go_upto_region 12 with (fail)
                go_loopw [10, 11] (fun v10 v11 wx => ∃ (ln sh : Nat) (ob1 : Option Nat) (bv nv : Value) (qu1 : List LineP), v11 = .int .i64 ((at_ + ln : Nat) : Int) ∧ ln ≤ bd.length ∧ sh ≤ qu1.length ∧ Hid (PG w wx O ob1 v10 (qu1.drop sh) (.slice A9 pgs.length c9) pgs bv (bd.take ln) nv (qu1.take sh)) ∧ Hid (fillP notes hn (bd.drop ln) ln sh qu1 = fillP notes hn bd 0 (min qu.length (hn - 1)) qu) ∧ Hid (allLines (bd.drop ln) notes + qu1.length ≤ f) ∧ Hid (SmallL qu1)) (fun _ v11 _ => body.length - (intOf v11).toNat)
                case atStart => exact ⟨0, s, ob1, _, _, qu, by rw [Nat.add_zero], Nat.zero_le _, hs1, HG, HFI0, HF0, HS⟩
                case round =>
                  clear HG HFI0 HF0 HS
                  clear wq
                  obtain ⟨ln, sh, ob1, bv, nv, qu1, rfl, hln1, hsh, HG, HFI, HF1, HS⟩ := hrel
                  obtain ⟨A1, c1, hqv, -, -⟩ := HG.out.q.len
                  rw [List.length_map, List.length_drop] at hqv
                  subst hqv
                  obtain ⟨An, cn, hnv, -, -⟩ := HG.out.n.len
                  rw [List.length_take, Nat.min_eq_left hsh] at hnv
                  subst hnv
                  obtain ⟨Ab, cb, hbv, -, -⟩ := HG.out.b.len
                  rw [List.length_take, Nat.min_eq_left hln1] at hbv
                  subst hbv
                  have hq1f : qu1.length ≤ 1048576 := by have := HF1.out; omega
                  have hln2 : ln ≤ 1048576 := by omega
                  have hsh2 : sh ≤ 1048576 := by omega
                  have HQB1 : Hid (qu1.length ≤ 1048576) := Lib.hid hq1f
                  go_upto_region 12 with (fail)
                  go_cut [67] from 53 to 67 (fun v67 wx => v67 = .bool (fitsAt hn ln sh qu1.length bd) ∧ Hid (Below wr.heap.size wr wx))
                  case first =>
                    by_cases hl : ln < bd.length
                    · have hlI : ((at_ + ln : Nat) : Int) < (body.length : Int) := by omega
                      have hlI2 : (at_ : Int) + (ln : Int) < (body.length : Int) := by omega
                      obtain ⟨b, o, Ag, cg, Am, cm, rfl, -, hbl1, e0, e1, e2, e3, hgS, hnS⟩ := line_at (HA.out.to HG.out.bw) (k := at_ + ln) (by omega)
                      have hsx := HBS.out _ (List.getElem_mem hl)
                      rw [HEX.out ln hl (by omega)] at e0 e1 e2 e3 hgS hnS
                      have HFA : Hid (fitsAt hn ln sh qu1.length bd = fitsR hn ln sh (qu1.length - sh) bd[ln]) := Lib.hid (by
                        unfold fitsAt fitsR
                        rw [List.getElem?_eq_getElem hl, show sh + (qu1.length - sh) = qu1.length by omega])
                      obtain ⟨x, hx⟩ : ∃ x, bd[ln] = x := ⟨_, rfl⟩
                      rw [hx] at e0 e1 e2 e3 hgS hnS HFA hsx
                      have HSX := Lib.hid hsx
                      have HB1 : Hid (b < wr.heap.size) := Lib.hid hbl1
                      clear hx hgS hnS hbl1 hl hsx
                      refine wp_region_rely [13] (fun i => if i = 13 then SP.val (.bool (fitsR hn ln sh (qu1.length - sh) x)) else SP.any) 15 (by kernel_rfl) (by kernel_rfl) ?_
                      intro T _ g hg hgm
                      have x0 : ∀ d, (g d).cell? ⟨O, 0, none⟩ = some (.int .i64 0) := fun d => (HG.out.o.to (hg d)).cell 0 rfl
                      have x1 : ∀ d, (g d).cell? ⟨O, 1, none⟩ = some (.int .i64 0) := fun d => (HG.out.o.to (hg d)).cell 1 rfl
                      have x2 : ∀ d, (g d).cell? ⟨O, 2, none⟩ = some (.int .i64 0) := fun d => (HG.out.o.to (hg d)).cell 2 rfl
                      have x3 : ∀ d, (g d).cell? ⟨O, 3, none⟩ = some (.int .i64 0) := fun d => (HG.out.o.to (hg d)).cell 3 rfl
                      have x4 : ∀ d, (g d).cell? ⟨O, 4, none⟩ = some (.slice Ab ln cb) := fun d => (HG.out.o.to (hg d)).cell 4 rfl
                      have x5 : ∀ d, (g d).cell? ⟨O, 5, none⟩ = some (.slice An sh cn) := fun d => (HG.out.o.to (hg d)).cell 5 rfl
                      have l0 : ∀ d, (g d).cell? ⟨b, o + (at_ + ln) * 4, none⟩ = some (.int .i64 x.fr) := fun d => ((hg d).cell (p := ⟨b, o + (at_ + ln) * 4, none⟩) HB1.out).trans e0
                      have l1 : ∀ d, (g d).cell? ⟨b, o + (at_ + ln) * 4 + 1, none⟩ = some (.int .i64 x.un) := fun d => ((hg d).cell (p := ⟨b, o + (at_ + ln) * 4 + 1, none⟩) HB1.out).trans e1
                      have l2 : ∀ d, (g d).cell? ⟨b, o + (at_ + ln) * 4 + 2, none⟩ = some (.slice Ag x.gaps.length cg) := fun d => ((hg d).cell (p := ⟨b, o + (at_ + ln) * 4 + 2, none⟩) HB1.out).trans e2
                      have l3 : ∀ d, (g d).cell? ⟨b, o + (at_ + ln) * 4 + 3, none⟩ = some (.slice Am x.notes.length cm) := fun d => ((hg d).cell (p := ⟨b, o + (at_ + ln) * 4 + 3, none⟩) HB1.out).trans e3
                      repeat (refine wpR_pure (by rfl) fun Kq hq => ?_; go_big_quiet_step (fail); refine wpQuiet_nil (hq _ ?_); clear hq Kq)
                      refine wpR_busy (by rfl) (by rfl) (fun d hG K Q hK => ?_) (fun v d hG hp Kr hr => ?_)
                      · go_simp
                        go_at_call 91
                        refine (rfits_any Ab An Ag Am cb cn cg cm ln sh (qu1.length - sh) hn x (g d) hln2 hsh2 (by omega) h100 (by have := HSX.out.2; omega)).mono ?_
                        rintro e W1 ⟨rfl, hb1⟩
                        go_simp
                        exact hK _ _ hb1 (rfl)
                      have hp : v = .bool (fitsR hn ln sh (qu1.length - sh) x) := hp
                      subst hp
                      (try clear hp); clear hG
                      simp only [Act.put, List.setIfInBounds_toArray, List.set_cons_zero, List.set_cons_succ]
                      refine hr _ ?_
                      clear hr Kr
                      repeat (refine wpR_pure (by rfl) fun Kq hq => ?_; go_big_quiet_step (fail); refine wpQuiet_nil (hq _ ?_); clear hq Kq)
                      refine wpR_end (by kernel_rfl) (fun d hG => ?_) _
                      clear x0 x1 x2 x3 x4 x5 l0 l1 l2 l3
                      have HBd := Lib.hid (hg d)
                      clear hG hg hgm
                      unfold Exit.then
                      generalize g d = w6 at *
                      clear g
                      go_wp2_with fail
                      go_meet
                      exact ⟨by rw [HFA.out], HBd⟩
                    · have hlI : ¬ ((at_ + ln : Nat) : Int) < (body.length : Int) := by omega
                      have hlI2 : ¬ (at_ : Int) + (ln : Int) < (body.length : Int) := by omega
                      have HFA : Hid (fitsAt hn ln sh qu1.length bd = false) := Lib.hid (by
                        unfold fitsAt
                        rw [List.getElem?_eq_none (by omega)])
                      clear hl
                      refine wp_region_rely [13] (fun i => if i = 13 then SP.any else SP.any) 15 (by kernel_rfl) (by kernel_rfl) ?_
                      intro T _ g hg hgm
                      repeat (refine wpR_pure (by rfl) fun Kq hq => ?_; go_big_quiet_step (fail); refine wpQuiet_nil (hq _ ?_); clear hq Kq)
                      refine wpR_pass (by rfl) (by rfl) ?_
                      simp only [Act.put, List.setIfInBounds_toArray, List.set_cons_zero, List.set_cons_succ]
                      repeat (refine wpR_pure (by rfl) fun Kq hq => ?_; go_big_quiet_step (fail); refine wpQuiet_nil (hq _ ?_); clear hq Kq)
                      refine wpR_end (by kernel_rfl) (fun d hG => ?_) _
                      skip
                      have HBd := Lib.hid (hg d)
                      clear hG hg hgm
                      unfold Exit.then
                      generalize g d = w6 at *
                      clear g
                      go_wp2_with fail
                      go_meet
                      exact ⟨by rw [HFA.out], HBd⟩
                  case rest =>
                    obtain ⟨rfl, HBw⟩ := hcut
                    have HGw := Lib.hid (HG.out.to HBw.out)
                    clear HG HBw
                    clear wr
                    obtain ⟨wr, rfl⟩ : ∃ wr : World, wr = wc := ⟨_, rfl⟩
                    by_cases hfit : fitsAt hn ln sh qu1.length bd = true
                    · rw [hfit]
                      obtain ⟨hl, hf⟩ := fits_get hfit
                      have hlI : ((at_ + ln : Nat) : Int) < (body.length : Int) := by omega
                      have hlI2 : (at_ : Int) + (ln : Int) < (body.length : Int) := by omega
                      obtain ⟨b, o, Ag, cg, Am, cm, rfl, -, hbl1, e0, e1, e2, e3, hgS, hnS⟩ := line_at HA.out (k := at_ + ln) (by omega)
                      have hsx := HBS.out _ (List.getElem_mem hl)
                      have hrx := HBR.out _ (List.getElem_mem hl)
                      have hgo := fillP_go (notes := notes) hl hf
                      have hal : allLines (bd.drop ln) notes = 1 + (noteLines notes bd[ln]).length + allLines (bd.drop (ln + 1)) notes := by
                        rw [List.drop_eq_getElem_cons hl]
                        unfold allLines
                        rw [List.map_cons, List.sum_cons]
                      have htk : bd.take (ln + 1) = bd.take ln ++ [bd[ln]] := List.take_succ_eq_append_getElem hl
                      have hex := HEX.out ln hl (by omega)
                      rw [hex] at e0 e1 e2 e3 hgS hnS
                      obtain ⟨x, hx⟩ : ∃ x, bd[ln] = x := ⟨_, rfl⟩
                      rw [hx] at e0 e1 e2 e3 hgS hnS hsx hrx hgo hal htk
                      have HSX := Lib.hid hsx
                      have HRX := Lib.hid hrx
                      have HGO := Lib.hid hgo
                      have HAL := Lib.hid hal
                      have HTK := Lib.hid htk
                      have HBW : Hid (b < w.heap.size) := Lib.hid hbl1
                      have HNSw := Lib.hid hnS
                      have HGS : Hid (Sl wr (fun b => b < wr.heap.size) Ag cg x.gaps) := Lib.hid (hgS.to HGw.out.bw)
                      have HNS : Hid (Sl wr (fun b => b < wr.heap.size) Am cm x.notes) := Lib.hid (hnS.to HGw.out.bw)
                      have HW0 : Hid (∀ W, Below w.heap.size w W → W.cell? ⟨b, o + (at_ + ln) * 4, none⟩ = some (.int .i64 x.fr)) := Lib.hid (fun W hW => (hW.cell (p := ⟨b, o + (at_ + ln) * 4, none⟩) HBW.out).trans e0)
                      have HW1 : Hid (∀ W, Below w.heap.size w W → W.cell? ⟨b, o + (at_ + ln) * 4 + 1, none⟩ = some (.int .i64 x.un)) := Lib.hid (fun W hW => (hW.cell (p := ⟨b, o + (at_ + ln) * 4 + 1, none⟩) HBW.out).trans e1)
                      have HW2 : Hid (∀ W, Below w.heap.size w W → W.cell? ⟨b, o + (at_ + ln) * 4 + 2, none⟩ = some (.slice Ag x.gaps.length cg)) := Lib.hid (fun W hW => (hW.cell (p := ⟨b, o + (at_ + ln) * 4 + 2, none⟩) HBW.out).trans e2)
                      have HW3 : Hid (∀ W, Below w.heap.size w W → W.cell? ⟨b, o + (at_ + ln) * 4 + 3, none⟩ = some (.slice Am x.notes.length cm)) := Lib.hid (fun W hW => (hW.cell (p := ⟨b, o + (at_ + ln) * 4 + 3, none⟩) HBW.out).trans e3)
                      have HLN : Hid (ln < bd.length) := Lib.hid hl
                      have HNL : Hid (qu1.length + (noteLines notes x).length ≤ 1048576) := Lib.hid (by have := HF1.out; have := HAL.out; omega)
                      have HBX : Hid (Below w.heap.size w wr) := Lib.hid HGw.out.bw
                      have hnx : x.notes.length ≤ 1048576 := by have := HSX.out.2; omega
                      have hncm : x.notes.length ≤ cm := hnS.1
                      have hlnB : ln ≤ 1048576 := hln2
                      have HLB : Hid (ln ≤ 1048576) := Lib.hid hln2
                      clear hf hgo hal htk hex hx hsx hrx hgS hnS e0 e1 e2 e3 hbl1 hl hfit
                      go_upto_region 13 with (fail)
                      refine wp_region_rely [6, 7] (fun i => if i = 6 then SP.copy wr.heap.size x else if i = 7 then SP.rp wr.heap.size [x] else SP.any) 8 (by kernel_rfl) (by kernel_rfl) ?_
                      intro T _ g hg hgm
                      have q5 : ∀ d, (g d).cell? ⟨O, 4, none⟩ = some (.slice Ab ln cb) := fun d => (HGw.out.o.to (hg d)).cell 4 rfl
                      have l0 : ∀ d, (g d).cell? ⟨b, o + (at_ + ln) * 4, none⟩ = some (.int .i64 x.fr) := fun d => HW0.out _ (HBX.out.trans ((hg d).mono HBX.out.size))
                      have l1 : ∀ d, (g d).cell? ⟨b, o + (at_ + ln) * 4 + 1, none⟩ = some (.int .i64 x.un) := fun d => HW1.out _ (HBX.out.trans ((hg d).mono HBX.out.size))
                      have l2 : ∀ d, (g d).cell? ⟨b, o + (at_ + ln) * 4 + 2, none⟩ = some (.slice Ag x.gaps.length cg) := fun d => HW2.out _ (HBX.out.trans ((hg d).mono HBX.out.size))
                      have l3 : ∀ d, (g d).cell? ⟨b, o + (at_ + ln) * 4 + 3, none⟩ = some (.slice Am x.notes.length cm) := fun d => HW3.out _ (HBX.out.trans ((hg d).mono HBX.out.size))
                      repeat (refine wpR_pure (by rfl) fun Kq hq => ?_; go_big_quiet_step (fail); refine wpQuiet_nil (hq _ ?_); clear hq Kq)
                      refine wpR_busy (by rfl) (by rfl) (fun d hG K Q hK => ?_) (fun v d hG hp Kr hr => ?_)
                      · go_simp
                        go_at_call 90
                        refine (rcopy_any Ag Am cg cm x (g d) (HGS.out.to (hg d)) (HNS.out.to (hg d)) (by have := HSX.out; omega) (by have := HSX.out; omega)).mono ?_
                        rintro e W1 ⟨A3, c3, A4, c4, rfl, ho3, ho4, hb1⟩
                        go_simp
                        exact hK _ _ hb1 (⟨A3, c3, A4, c4, rfl, ho3.re (hg d).size, ho4.re (hg d).size⟩)
                      obtain ⟨A3, c3, A4, c4, rfl, -⟩ := (show ∃ A c A' c', v = .agg #[.int .i64 x.fr, .int .i64 x.un, .slice A x.gaps.length c, .slice A' x.notes.length c'] ∧ _ from hp)
                      (try clear hp); clear hG
                      simp only [Act.put, List.setIfInBounds_toArray, List.set_cons_zero, List.set_cons_succ]
                      refine hr _ ?_
                      clear hr Kr
                      repeat (refine wpR_pure (by rfl) fun Kq hq => ?_; go_big_quiet_step (fail); refine wpQuiet_nil (hq _ ?_); clear hq Kq)
                      refine wpR_busy (by rfl) (by rfl) (fun d hG K Q hK => ?_) (fun v d hG hp Kr hr => ?_)
                      · obtain ⟨A3', c3', A4', c4', he, ho3, ho4⟩ := (show ∃ A c A' c', Value.agg #[.int .i64 x.fr, .int .i64 x.un, .slice A3 x.gaps.length c3, .slice A4 x.notes.length c4] = .agg #[.int .i64 x.fr, .int .i64 x.un, .slice A x.gaps.length c, .slice A' x.notes.length c'] ∧ Own (g d) wr.heap.size 3 (.slice A x.gaps.length c) x.gaps ∧ Own (g d) wr.heap.size 3 (.slice A' x.notes.length c') x.notes from hG 6 (by kernel_rfl))
                        obtain ⟨rfl, rfl, rfl, rfl⟩ : A3 = A3' ∧ c3 = c3' ∧ A4 = A4' ∧ c4 = c4' := by
                          have := congrArg (fun v : Value => match v with | .agg cs => cs.toList | _ => []) he
                          simp at this
                          exact ⟨this.1.1, this.1.2, this.2.1, this.2.2⟩
                        have HR : Hid (Rep.R (g d) (Up wr.heap.size) [.int .i64 x.fr, .int .i64 x.un, .slice A3 x.gaps.length c3, .slice A4 x.notes.length c4] x) := Lib.hid ⟨_, _, rfl, rep_ints ho3 rfl (fun b hb => hb), rep_ints ho4 rfl (fun b hb => hb)⟩
                        clear ho3 ho4 he
                        go_simp
                        exact hK _ _ ((Below.refl _ _).alloc (Nat.le_refl _) _) (rp_lit (hg d).size HR.out)
                      obtain ⟨⟨Az, cz, rfl⟩, -⟩ := (show (∃ A c, v = .slice A [x].length c) ∧ _ from hp)
                      (try clear hp); clear hG
                      simp only [Act.put, List.setIfInBounds_toArray, List.set_cons_zero, List.set_cons_succ]
                      refine hr _ ?_
                      clear hr Kr
                      refine wpR_tail 3 (by rfl) (by rfl) (fun d hG => ?_)
                      have H6 : Hid (Rep.R (g d) (Up wr.heap.size) [.slice Az [x].length cz] [x]) := Lib.hid (show (∃ A c, Value.slice Az [x].length cz = Value.slice A [x].length c) ∧ Rep.R (g d) (Up wr.heap.size) [.slice Az [x].length cz] [x] from hG 7).2
                      have HGd := Lib.hid (HGw.out.to (hg d))
                      have HLT := Lib.hid HGw.out.b.lt
                      have HQL := Lib.hid HGw.out.q.lt
                      have HOT := Lib.hid HGw.out.n.lt
                      have HOL : Hid (O < wr.heap.size) := Lib.hid HGw.out.o.lt
                      have HSZ : Hid (wr.heap.size ≤ (g d).heap.size) := Lib.hid (hg d).size
                      clear hG hg hgm q5 l0 l1 l2 l3
                      generalize g d = w6 at *
                      clear g
                      have HSl : Hid (Sl w6 (Up wr.heap.size) Az cz ([x].map (Av.mk : LineP → Av LineP (PE O ob1 (Value.slice An sh cn).ownBlock)))) := Lib.hid (by
                        obtain ⟨A', c', e, hs, -⟩ := H6.out
                        cases e
                        exact hs.av (fun i hi _ => ⟨Nat.lt_of_lt_of_le HOL.out hi, fun e => by have := (HQL.out i e.symm).2; have : wr.heap.size ≤ i := hi; omega, fun e => by have := (HOT.out i e.symm).2; have : wr.heap.size ≤ i := hi; omega⟩))
                      have HLM : Hid (((bd.take ln).map (Av.mk : LineP → Av LineP (PE O ob1 (Value.slice An sh cn).ownBlock))).length = ln) := Lib.hid (by rw [List.length_map]; rw [List.length_take]; omega)
                      refine wpAny_one (i := 8) (oi := _) rfl (by kernel_rfl) (by rfl) (fun K hK => ?_)
                      refine wp_cat (α := Av LineP (PE O ob1 (Value.slice An sh cn).ownBlock)) _ (.tmp 69) (.tmp 75) 34 rfl (O + 1) 88 (.agg #[.int .i64 0, .int .i64 0, .slice none 0 0, .slice none 0 0]) 64 Tryz.underlying34 line_info rfl (show 0 < 4 by decide) (.slice Ab ln cb) ((bd.take ln).map Av.mk) rfl HGd.out.b.own Az cz 1 ([x].map Av.mk) rfl rfl (Up wr.heap.size) HSl.out (fun i (hi : wr.heap.size ≤ i) _ e => by have := (HLT.out i e.symm).2; omega) (by rw [HLM.out]; have := HLB.out; omega) (by rw [HLM.out]; have := HLB.out; omega) (by have := HOL.out; have := HSZ.out; omega) ?_
                      intro v5 w5 hown5 hg5 hat5
                      obtain ⟨A5, c5, e5, -⟩ := hown5.form
                      rw [List.length_append, HLM.out] at e5
                      simp only [List.length_map, List.length_cons, List.length_nil, Nat.zero_add] at e5
                      subst e5
                      obtain ⟨q5, f5, hpg5⟩ := HGd.out.body hown5 hg5 hat5
                      have r5 := f5 4
                      have HG5 := Lib.hid hpg5
                      refine hK _ _ ?_
                      clear hK K hown5 hg5 hat5 hpg5 f5 HSl H6 HGd
                      try simp only [Act.put, List.setIfInBounds_toArray]
                      refine wpAny_one (i := 9) (oi := _) rfl (by kernel_rfl) (by rfl) (fun K hK => ?_)
                      go_simp
                      refine hK _ _ ?_
                      clear hK K
                      try simp only [Act.put, List.setIfInBounds_toArray, List.set_cons_zero, List.set_cons_succ]
                      refine wpAny_one (i := 10) (oi := _) rfl (by kernel_rfl) (by rfl) (fun K hK => ?_)
                      go_simp
                      refine hK _ _ ?_
                      clear hK K
                      try simp only [Act.put, List.setIfInBounds_toArray, List.set_cons_zero, List.set_cons_succ]
                      clear q5 r5
                      refine wpAny_done (by kernel_rfl) ?_ _
                      unfold Exit.then
                      rw [← HTK.out] at HG5
                      generalize w5.setCell _ _ = wB at *
                      clear w6 HGS HNS HGw HSZ HLT HQL HOT HOL HBX
                      clear wr
                      go_upto_region 15 with (fail)
                      go_loopw [10, 13] (fun v10 v13 wx => ∃ (j : Nat) (ob2 : Option Nat), v13 = .int .i64 (j : Int) ∧ j ≤ x.notes.length ∧ Hid (PG w wx O ob2 v10 (qu1.drop sh ++ noteTo notes x j) (.slice A9 pgs.length c9) pgs (.slice A5 (ln + 1) c5) (bd.take (ln + 1)) (.slice An sh cn) (qu1.take sh))) (fun _ v13 _ => x.notes.length - (intOf v13).toNat)
                      case atStart => exact ⟨0, ob1, rfl, Nat.zero_le _, Lib.hid (by rw [show noteTo notes x 0 = [] from rfl, List.append_nil]; exact HG5.out)⟩
                      case round =>
                        clear HG5 wB
                        obtain ⟨j, ob2, rfl, hj, HG6⟩ := hrel
                        have m3 := HW3.out _ HG6.out.bw
                        by_cases hjl : j < x.notes.length
                        · have hjI : (j : Int) < (x.notes.length : Int) := by omega
                          obtain ⟨b1, o1, hA1, hb1, -, -, ce⟩ := int_at HNSw.out hjl
                          subst hA1
                          have hq := HRX.out _ (List.getElem_mem hjl)
                          obtain ⟨kn, hkn⟩ : ∃ kn : Nat, x.notes[j] = (kn : Int) := ⟨(x.notes[j]).toNat, by omega⟩
                          have hns := noteTo_step hjl (notes := notes) (by omega)
                          rw [hkn] at ce hq
                          have hkl : kn < notes.length := by omega
                          obtain ⟨b2, o2, Ap, cp, rfl, hb2, -, ce2, hyS⟩ := lrows_at HBn.out hkl
                          have hnq : noteTo notes x (j + 1) = noteTo notes x j ++ notes[kn] := by
                            rw [hns]; congr 1; simp only [hkn, Int.toNat_natCast]
                          obtain ⟨y, hy⟩ : ∃ y, notes[kn] = y := ⟨_, rfl⟩
                          rw [hy] at ce2 hyS hnq
                          have HNQ := Lib.hid hnq
                          have HYL : Hid ((qu1.drop sh ++ noteTo notes x j).length + y.length ≤ 1048576) := Lib.hid (by
                            have h1 := noteTo_le notes x (j + 1)
                            have h2 := HNL.out
                            rw [HNQ.out, List.length_append] at h1
                            rw [List.length_append, List.length_drop]
                            omega)
                          have HY : Hid (Sl wr (fun b => b < w.heap.size) Ap cp y) := Lib.hid (hyS.old (Kept.below HG6.out.bw (fun _ h => h)) HG6.out.bw.size)
                          have c1 := (HG6.out.bw.cell (p := ⟨b1, o1 + j, none⟩) hb1).trans ce
                          have c2 := (HG6.out.bw.cell (p := ⟨b2, o2 + kn, none⟩) hb2).trans ce2
                          have hknI : (kn : Int) < (notes.length : Int) := by omega
                          have HWS : Hid (w.heap.size ≤ wr.heap.size) := Lib.hid HG6.out.bw.size
                          have HQ6 := Lib.hid HG6.out.q
                          clear hns hnq hkn hq hy hyS ce ce2 hb1 hb2
                          go_wp2_with (first
                            | (at_builtin; refine wpList_que (α := OldL w.heap.size) rfl (.tmp 88) (.tmp 99) 34 rfl w.heap.size 88 (.agg #[.int .i64 0, .int .i64 0, .slice none 0 0, .slice none 0 0]) 64 Tryz.underlying34 line_info rfl (show 0 < 4 by decide) ob2 _ ((qu1.drop sh ++ noteTo notes x j).map Av.mk) rfl HQ6.out Ap cp y.length (y.map Av.mk) rfl (by rw [List.length_map]) (fun b => b < w.heap.size) (HY.out.av (fun i h _ => h)) (fun i hi _ e => by have := (HQ6.out.lt i e.symm).1; omega) (fun i hi => Nat.lt_of_lt_of_le hi HWS.out) (by rw [List.length_map]; have := HYL.out; omega) (by rw [List.length_map]; have := HYL.out; omega) HWS.out ?_; intro v' w' ob' hq' hg' hob'; have HG7 := Lib.hid (HG6.out.que (queue' := qu1.drop sh ++ noteTo notes x (j + 1)) hg' (by rw [HNQ.out, ← List.append_assoc, List.map_append]; exact hq') hob'); clear hq' hg' hob')
                            | fail)
                          go_roundw
                          case rel => exact ⟨j + 1, ob', by go_num, by omega, HG7⟩
                          case measure => (first | (simp [intOf]; done) | (simp [intOf]; omega))
                        · obtain rfl : j = x.notes.length := by omega
                          have hjI : ¬ (x.notes.length : Int) < (x.notes.length : Int) := by omega
                          obtain ⟨qu2, hq2⟩ : ∃ qu2, qu1 ++ noteLines notes x = qu2 := ⟨_, rfl⟩
                          have HG7 : Hid (PG w wr O ob2 u10 (qu2.drop sh) (.slice A9 pgs.length c9) pgs (.slice A5 (ln + 1) c5) (bd.take (ln + 1)) (.slice An sh cn) (qu2.take sh)) := Lib.hid (by
                            rw [← hq2, List.drop_append_of_le_length hsh, List.take_append_of_le_length hsh, ← noteTo_all]
                            exact HG6.out)
                          have HQ2 := Lib.hid hq2
                          have hqq : qu2.length ≤ 1048576 := by rw [← hq2, List.length_append]; exact HNL.out
                          have HQB2 : Hid (qu2.length ≤ 1048576) := Lib.hid hqq
                          have hsh3 : sh ≤ qu2.length := by rw [← hq2, List.length_append]; omega
                          have HS3 : Hid (SmallL qu2) := Lib.hid (fun y hy => by
                            rw [← hq2, List.mem_append] at hy
                            exact hy.elim (HS.out y) (notes_small HSN.out x y))
                          have HF3 : Hid (allLines (bd.drop (ln + 1)) notes + qu2.length ≤ f) := Lib.hid (by have h1 := HF1.out; have h2 := HAL.out; rw [← hq2, List.length_append]; omega)
                          have HFI2 : Hid (fillP notes hn (bd.drop (ln + 1)) (ln + 1) (shownP hn ln sh qu2.length) qu2 = fillP notes hn bd 0 (min qu.length (hn - 1)) qu) := Lib.hid (by rw [← HFI.out, HGO.out, hq2])
                          clear hq2 HG6
                          obtain ⟨wq, rfl⟩ : ∃ wq : World, wq = wr := ⟨_, rfl⟩
                          go_upto_region 18 with (fail)
                          go_loopw [10] (fun v10 wx => ∃ (s : Nat) (ob3 : Option Nat) (nv : Value), sh ≤ s ∧ s ≤ qu2.length ∧ (s = sh ∨ ln + 1 + s + 1 ≤ hn) ∧ Hid (PG w wx O ob3 v10 (qu2.drop s) (.slice A9 pgs.length c9) pgs (.slice A5 (ln + 1) c5) (bd.take (ln + 1)) nv (qu2.take s))) (fun v10 _ => vlen v10)
                          case atStart => exact ⟨sh, ob2, _, Nat.le_refl _, hsh3, .inl rfl, HG7⟩
                          case round =>
                            clear HG7 m3
                            clear wq
                            obtain ⟨s, ob3, nv, hs3, hs4, hs5, HG⟩ := hrel
                            obtain ⟨A1, c1, hqv, -, -⟩ := HG.out.q.len
                            rw [List.length_map, List.length_drop] at hqv
                            subst hqv
                            obtain ⟨An, cn, hnv, -, -⟩ := HG.out.n.len
                            rw [List.length_take, Nat.min_eq_left hs4] at hnv
                            subst hnv
                            have hs6 : s ≤ 1048576 := by have := HQB2.out; omega
                            have hln5 : ln + 1 ≤ 1048576 := by have := HLN.out; omega
                            go_upto_region 18 with (fail)
                            go_cut [115] from 101 to 115 (fun v115 wx => v115 = .bool (decide (s < qu2.length) && decide (ln + 1 + s + 2 ≤ hn)) ∧ Hid (Below wr.heap.size wr wx))
                            case first =>
                              by_cases h1 : s < qu2.length
                              · have h2 : (0 : Int) < ((qu2.length - s : Nat) : Int) := by omega
                                have H1 := Lib.hid h1
                                have hu : usedN (ln + 1) s ≤ 2097153 := by unfold usedN; omega
                                have h1b : 0 < qu2.length - s := by omega
                                refine wp_region_rely [5] (fun i => if i = 5 then SP.val (.int .i64 (usedN (ln + 1) s : Nat)) else SP.any) 15 (by kernel_rfl) (by kernel_rfl) ?_
                                intro T _ g hg hgm
                                have x0 : ∀ d, (g d).cell? ⟨O, 0, none⟩ = some (.int .i64 0) := fun d => (HG.out.o.to (hg d)).cell 0 rfl
                                have x1 : ∀ d, (g d).cell? ⟨O, 1, none⟩ = some (.int .i64 0) := fun d => (HG.out.o.to (hg d)).cell 1 rfl
                                have x2 : ∀ d, (g d).cell? ⟨O, 2, none⟩ = some (.int .i64 0) := fun d => (HG.out.o.to (hg d)).cell 2 rfl
                                have x3 : ∀ d, (g d).cell? ⟨O, 3, none⟩ = some (.int .i64 0) := fun d => (HG.out.o.to (hg d)).cell 3 rfl
                                have x4 : ∀ d, (g d).cell? ⟨O, 4, none⟩ = some (.slice A5 (ln + 1) c5) := fun d => (HG.out.o.to (hg d)).cell 4 rfl
                                have x5 : ∀ d, (g d).cell? ⟨O, 5, none⟩ = some (.slice An s cn) := fun d => (HG.out.o.to (hg d)).cell 5 rfl
                                repeat (refine wpR_pure (by rfl) fun Kq hq => ?_; go_big_quiet_step (fail); refine wpQuiet_nil (hq _ ?_); clear hq Kq)
                                refine wpR_busy (by rfl) (by rfl) (fun d hG K Q hK => ?_) (fun v d hG hp Kr hr => ?_)
                                · go_simp
                                  go_at_call 92
                                  refine (rused_any A5 An c5 cn (ln + 1) s (g d) hln5 hs6).mono ?_
                                  rintro e W1 ⟨rfl, hb1⟩
                                  go_simp
                                  exact hK _ _ hb1 (rfl)
                                have hp : v = .int .i64 (usedN (ln + 1) s : Nat) := hp
                                subst hp
                                (try clear hp); clear hG
                                simp only [Act.put, List.setIfInBounds_toArray, List.set_cons_zero, List.set_cons_succ]
                                refine hr _ ?_
                                clear hr Kr
                                repeat (refine wpR_pure (by rfl) fun Kq hq => ?_; go_big_quiet_step (fail); refine wpQuiet_nil (hq _ ?_); clear hq Kq)
                                refine wpR_end (by kernel_rfl) (fun d hG => ?_) _
                                clear x0 x1 x2 x3 x4 x5
                                have HBd := Lib.hid (hg d)
                                clear hG hg hgm
                                unfold Exit.then
                                generalize g d = w6 at *
                                clear g
                                go_wp2_with fail
                                go_meet
                                exact ⟨congrArg Value.bool (show decide ((usedN (ln + 1) s : Int) + 2 - min (s : Int) 1 ≤ (hn : Int)) = (decide (s < qu2.length) && decide (ln + 1 + s + 2 ≤ hn)) by
                                  rw [decide_eq_true H1.out, Bool.true_and, Bool.eq_iff_iff, decide_eq_true_iff, decide_eq_true_iff]
                                  unfold usedN
                                  omega), HBd⟩
                              · have h2 : ¬ (0 : Int) < ((qu2.length - s : Nat) : Int) := by omega
                                have H1 := Lib.hid h1
                                have h1b : ¬ 0 < qu2.length - s := by omega
                                refine wp_region_rely [5] (fun i => if i = 5 then SP.any else SP.any) 15 (by kernel_rfl) (by kernel_rfl) ?_
                                intro T _ g hg hgm
                                have x5 : ∀ d, (g d).cell? ⟨O, 5, none⟩ = some (.slice An s cn) := fun d => (HG.out.o.to (hg d)).cell 5 rfl
                                repeat (refine wpR_pure (by rfl) fun Kq hq => ?_; go_big_quiet_step (fail); refine wpQuiet_nil (hq _ ?_); clear hq Kq)
                                refine wpR_pass (by rfl) (by rfl) ?_
                                simp only [Act.put, List.setIfInBounds_toArray, List.set_cons_zero, List.set_cons_succ]
                                repeat (refine wpR_pure (by rfl) fun Kq hq => ?_; go_big_quiet_step (fail); refine wpQuiet_nil (hq _ ?_); clear hq Kq)
                                refine wpR_end (by kernel_rfl) (fun d hG => ?_) _
                                clear x5
                                have HBd := Lib.hid (hg d)
                                clear hG hg hgm
                                unfold Exit.then
                                generalize g d = w6 at *
                                clear g
                                go_wp2_with fail
                                go_meet
                                exact ⟨by rw [decide_eq_false H1.out]; rfl, HBd⟩
                            case rest =>
                              obtain ⟨rfl, HBw⟩ := hcut
                              have HGw := Lib.hid (HG.out.to HBw.out)
                              clear HG HBw
                              clear wr
                              obtain ⟨wr, rfl⟩ : ∃ wr : World, wr = wc := ⟨_, rfl⟩
                              by_cases hgo : s < qu2.length ∧ ln + 1 + s + 2 ≤ hn
                              · obtain ⟨hgo1, hgo2⟩ := hgo
                                rw [decide_eq_true hgo1, decide_eq_true hgo2]
                                obtain ⟨A1', c1', e1', hsq1, -⟩ := HGw.out.q.len
                                obtain ⟨rfl, rfl⟩ : A1 = A1' ∧ c1 = c1' := by injection e1' with a b c; exact ⟨a, c⟩
                                obtain ⟨b, o, Ag, cg, Am, cm, hA1, -, hbl1, e0, e1, e2, e3, hgS, hnS⟩ := line_at hsq1.unav (k := 0) (by rw [List.length_drop]; omega)
                                subst hA1
                                simp only [Nat.zero_mul, Nat.add_zero] at e0 e1 e2 e3
                                obtain ⟨z, hx⟩ : ∃ z, (qu2.drop s)[0]'(by rw [List.length_drop]; omega) = z := ⟨_, rfl⟩
                                rw [hx] at e0 e1 e2 e3 hgS hnS
                                have HXQ : Hid (qu2[s]? = some z) := Lib.hid (by rw [List.getElem_drop] at hx; rw [List.getElem?_eq_getElem hgo1]; simpa using congrArg some hx)
                                have HSZ2 : Hid (z.gaps.length ≤ 100000 ∧ z.notes.length ≤ 100000) := Lib.hid (HS3.out z (List.mem_of_getElem? HXQ.out))
                                have HGS := Lib.hid hgS
                                have HNS := Lib.hid hnS
                                have HB1 : Hid (b < wr.heap.size) := Lib.hid hbl1
                                have HC1 : Hid (qu2.length - s ≤ c1) := Lib.hid (by have := hsq1.1; rwa [List.length_map, List.length_drop] at this)
                                have hi0 : (0 : Int) < ((qu2.length - s : Nat) : Int) := by omega
                                have HTS : Hid (qu2.take (s + 1) = qu2.take s ++ [z]) := Lib.hid (by rw [List.take_add_one, HXQ.out]; rfl)
                                clear hgS hnS hbl1 hx hsq1 e1'
                                go_upto_region 19 with (fail)
                                refine wp_region_rely [5, 6] (fun i => if i = 5 then SP.copy wr.heap.size z else if i = 6 then SP.rp wr.heap.size [z] else SP.any) 7 (by kernel_rfl) (by kernel_rfl) ?_
                                intro T _ g hg hgm
                                have q5 : ∀ d, (g d).cell? ⟨O, 5, none⟩ = some (.slice An s cn) := fun d => (HGw.out.o.to (hg d)).cell 5 rfl
                                have l0 : ∀ d, (g d).cell? ⟨b, o, none⟩ = some (.int .i64 z.fr) := fun d => ((hg d).cell (p := ⟨b, o, none⟩) HB1.out).trans e0
                                have l1 : ∀ d, (g d).cell? ⟨b, o + 1, none⟩ = some (.int .i64 z.un) := fun d => ((hg d).cell (p := ⟨b, o + 1, none⟩) HB1.out).trans e1
                                have l2 : ∀ d, (g d).cell? ⟨b, o + 2, none⟩ = some (.slice Ag z.gaps.length cg) := fun d => ((hg d).cell (p := ⟨b, o + 2, none⟩) HB1.out).trans e2
                                have l3 : ∀ d, (g d).cell? ⟨b, o + 3, none⟩ = some (.slice Am z.notes.length cm) := fun d => ((hg d).cell (p := ⟨b, o + 3, none⟩) HB1.out).trans e3
                                repeat (refine wpR_pure (by rfl) fun Kq hq => ?_; go_big_quiet_step (fail); refine wpQuiet_nil (hq _ ?_); clear hq Kq)
                                refine wpR_busy (by rfl) (by rfl) (fun d hG K Q hK => ?_) (fun v d hG hp Kr hr => ?_)
                                · go_simp
                                  go_at_call 90
                                  refine (rcopy_any Ag Am cg cm z (g d) (HGS.out.to (hg d)) (HNS.out.to (hg d)) (by have := HSZ2.out; omega) (by have := HSZ2.out; omega)).mono ?_
                                  rintro e W1 ⟨A3, c3, A4, c4, rfl, ho3, ho4, hb1⟩
                                  go_simp
                                  exact hK _ _ hb1 (⟨A3, c3, A4, c4, rfl, ho3.re (hg d).size, ho4.re (hg d).size⟩)
                                obtain ⟨A3, c3, A4, c4, rfl, -⟩ := (show ∃ A c A' c', v = .agg #[.int .i64 z.fr, .int .i64 z.un, .slice A z.gaps.length c, .slice A' z.notes.length c'] ∧ _ from hp)
                                (try clear hp); clear hG
                                simp only [Act.put, List.setIfInBounds_toArray, List.set_cons_zero, List.set_cons_succ]
                                refine hr _ ?_
                                clear hr Kr
                                repeat (refine wpR_pure (by rfl) fun Kq hq => ?_; go_big_quiet_step (fail); refine wpQuiet_nil (hq _ ?_); clear hq Kq)
                                refine wpR_busy (by rfl) (by rfl) (fun d hG K Q hK => ?_) (fun v d hG hp Kr hr => ?_)
                                · obtain ⟨A3', c3', A4', c4', he, ho3, ho4⟩ := (show ∃ A c A' c', Value.agg #[.int .i64 z.fr, .int .i64 z.un, .slice A3 z.gaps.length c3, .slice A4 z.notes.length c4] = .agg #[.int .i64 z.fr, .int .i64 z.un, .slice A z.gaps.length c, .slice A' z.notes.length c'] ∧ Own (g d) wr.heap.size 3 (.slice A z.gaps.length c) z.gaps ∧ Own (g d) wr.heap.size 3 (.slice A' z.notes.length c') z.notes from hG 5 (by kernel_rfl))
                                  obtain ⟨rfl, rfl, rfl, rfl⟩ : A3 = A3' ∧ c3 = c3' ∧ A4 = A4' ∧ c4 = c4' := by
                                    have := congrArg (fun v : Value => match v with | .agg cs => cs.toList | _ => []) he
                                    simp at this
                                    exact ⟨this.1.1, this.1.2, this.2.1, this.2.2⟩
                                  have HR : Hid (Rep.R (g d) (Up wr.heap.size) [.int .i64 z.fr, .int .i64 z.un, .slice A3 z.gaps.length c3, .slice A4 z.notes.length c4] z) := Lib.hid ⟨_, _, rfl, rep_ints ho3 rfl (fun b hb => hb), rep_ints ho4 rfl (fun b hb => hb)⟩
                                  clear ho3 ho4 he
                                  go_simp
                                  exact hK _ _ ((Below.refl _ _).alloc (Nat.le_refl _) _) (rp_lit (hg d).size HR.out)
                                obtain ⟨⟨Az, cz, rfl⟩, -⟩ := (show (∃ A c, v = .slice A [z].length c) ∧ _ from hp)
                                (try clear hp); clear hG
                                simp only [Act.put, List.setIfInBounds_toArray, List.set_cons_zero, List.set_cons_succ]
                                refine hr _ ?_
                                clear hr Kr
                                refine wpR_tail 3 (by rfl) (by rfl) (fun d hG => ?_)
                                have H6 : Hid (Rep.R (g d) (Up wr.heap.size) [.slice Az [z].length cz] [z]) := Lib.hid (show (∃ A c, Value.slice Az [z].length cz = Value.slice A [z].length c) ∧ Rep.R (g d) (Up wr.heap.size) [.slice Az [z].length cz] [z] from hG 6).2
                                have HGd := Lib.hid (HGw.out.to (hg d))
                                have HLT := Lib.hid HGw.out.n.lt
                                have HQL := Lib.hid HGw.out.q.lt
                                have HOT := Lib.hid HGw.out.b.lt
                                have HOL : Hid (O < wr.heap.size) := Lib.hid HGw.out.o.lt
                                have HSZ : Hid (wr.heap.size ≤ (g d).heap.size) := Lib.hid (hg d).size
                                clear hG hg hgm q5 l0 l1 l2 l3 e0 e1 e2 e3
                                generalize g d = w6 at *
                                clear g
                                have HSl : Hid (Sl w6 (Up wr.heap.size) Az cz ([z].map (Av.mk : LineP → Av LineP (PE O ob3 (Value.slice A5 (ln + 1) c5).ownBlock)))) := Lib.hid (by
                                  obtain ⟨A', c', e, hs, -⟩ := H6.out
                                  cases e
                                  exact hs.av (fun i hi _ => ⟨Nat.lt_of_lt_of_le HOL.out hi, fun e => by have := (HQL.out i e.symm).2; have : wr.heap.size ≤ i := hi; omega, fun e => by have := (HOT.out i e.symm).2; have : wr.heap.size ≤ i := hi; omega⟩))
                                have HLM : Hid (((qu2.take s).map (Av.mk : LineP → Av LineP (PE O ob3 (Value.slice A5 (ln + 1) c5).ownBlock))).length = s) := Lib.hid (by rw [List.length_map]; rw [List.length_take]; omega)
                                refine wpAny_one (i := 7) (oi := _) rfl (by kernel_rfl) (by rfl) (fun K hK => ?_)
                                refine wp_cat (α := Av LineP (PE O ob3 (Value.slice A5 (ln + 1) c5).ownBlock)) _ (.tmp 117) (.tmp 122) 34 rfl (O + 1) 88 (.agg #[.int .i64 0, .int .i64 0, .slice none 0 0, .slice none 0 0]) 64 Tryz.underlying34 line_info rfl (show 0 < 4 by decide) (.slice An s cn) ((qu2.take s).map Av.mk) rfl HGd.out.n.own Az cz 1 ([z].map Av.mk) rfl rfl (Up wr.heap.size) HSl.out (fun i (hi : wr.heap.size ≤ i) _ e => by have := (HLT.out i e.symm).2; omega) (by rw [HLM.out]; have := HQB2.out; omega) (by rw [HLM.out]; have := HQB2.out; omega) (by have := HOL.out; have := HSZ.out; omega) ?_
                                intro v5 w5 hown5 hg5 hat5
                                obtain ⟨A6, c6, e5, -⟩ := hown5.form
                                rw [List.length_append, HLM.out] at e5
                                simp only [List.length_map, List.length_cons, List.length_nil, Nat.zero_add] at e5
                                subst e5
                                obtain ⟨q5, f5, hpg5⟩ := HGd.out.note hown5 hg5 hat5
                                have r5 := f5 5
                                have HG8 := Lib.hid hpg5
                                refine hK _ _ ?_
                                clear hK K hown5 hg5 hat5 hpg5 f5 HSl H6 HGd
                                try simp only [Act.put, List.setIfInBounds_toArray]
                                refine wpAny_one (i := 8) (oi := _) rfl (by kernel_rfl) (by rfl) (fun K hK => ?_)
                                go_simp
                                refine hK _ _ ?_
                                clear hK K
                                try simp only [Act.put, List.setIfInBounds_toArray, List.set_cons_zero, List.set_cons_succ]
                                refine wpAny_one (i := 9) (oi := _) rfl (by kernel_rfl) (by rfl) (fun K hK => ?_)
                                go_simp
                                refine hK _ _ ?_
                                clear hK K
                                try simp only [Act.put, List.setIfInBounds_toArray, List.set_cons_zero, List.set_cons_succ]
                                clear q5 r5
                                refine wpAny_done (by kernel_rfl) ?_ _
                                unfold Exit.then
                                have hcb := HC1.out
                                have hcI : (1 : Int) ≤ (c1 : Int) := by omega
                                have hlI : (1 : Int) ≤ ((qu2.length - s : Nat) : Int) := by omega
                                obtain ⟨ob4, hob3, hq3⟩ := HG8.out.q.cut (k := 1) (by rw [List.length_map, List.length_drop]; omega)
                                rw [← List.map_drop, List.drop_drop] at hq3
                                by_cases hc1 : c1 = 1
                                · rw [if_pos hc1, hc1] at hq3
                                  have HGC := Lib.hid (HG8.out.cut hq3 hob3)
                                  clear hq3
                                  go_wp2_with fail
                                  go_roundw
                                  case rel => exact ⟨s + 1, ob4, _, by omega, by omega, .inr (by omega), Lib.hid (by rw [HTS.out]; exact HGC.out)⟩
                                  case measure => (simp only [vlen]; omega)
                                · rw [if_neg hc1, show (some (⟨b, o, none⟩ : Addr)).map (·.add (1 * Rep.size (OldL w.heap.size))) = some ⟨b, o + 4, none⟩ from rfl] at hq3
                                  have HGC := Lib.hid (HG8.out.cut hq3 hob3)
                                  clear hq3
                                  go_wp2_with fail
                                  go_roundw
                                  case rel => exact ⟨s + 1, ob4, _, by omega, by omega, .inr (by omega), Lib.hid (by rw [HTS.out]; exact HGC.out)⟩
                                  case measure => (simp only [vlen]; omega)
                              · have hse : s = shownP hn ln sh qu2.length := moved hs3 hs4 hs5 (by omega)
                                rw [show (decide (s < qu2.length) && decide (ln + 1 + s + 2 ≤ hn)) = false by rw [Bool.and_eq_false_iff, decide_eq_false_iff_not, decide_eq_false_iff_not]; omega]
                                have HFI3 : Hid (fillP notes hn (bd.drop (ln + 1)) (ln + 1) s qu2 = fillP notes hn bd 0 (min qu.length (hn - 1)) qu) := Lib.hid (by rw [hse]; exact HFI2.out)
                                have hln6 : ln + 1 ≤ bd.length := HLN.out
                                clear hse hgo HFI2
                                go_wp2_with fail
                                go_roundw
                                case rel => exact ⟨ln + 1, s, ob3, _, _, qu2, by go_num, hln6, hs4, HGw, HFI3, HF3, HS3⟩
                                case measure => (first | (simp [intOf]; done) | (simp [intOf]; omega))
                    · rw [Bool.not_eq_true] at hfit
                      rw [hfit]
                      have hd := HFI.out.symm.trans (fillP_stop (notes := notes) hfit)
                      have hnn : ¬ (bd.length = 0 ∧ qu.length = 0) := by have := HFIN.out; omega
                      obtain ⟨hP1, hP2⟩ := pages_step h4 HF.out.1 hnn hd
                      have hdd : body.drop (at_ + ln) = bd.drop ln := by rw [← List.drop_drop, HBD.out]
                      obtain ⟨p, hp⟩ : ∃ p : PageP, ⟨0, 0, 0, 0, bd.take ln, qu1.take sh⟩ = p := ⟨_, rfl⟩
                      have HT2 : Hid ((pgs ++ [p]) ++ setPages notes hn (f - 1) (body.drop (at_ + ln)) (qu1.drop sh) = setPages notes hn (allLines body notes) body []) := Lib.hid (by
                        rw [hdd, ← HT.out, hP2, hp, List.append_assoc]; rfl)
                      have HF2 : Hid (allLines (body.drop (at_ + ln)) notes + (qu1.drop sh).length ≤ f - 1 ∧ f - 1 ≤ 1048576) := Lib.hid (by rw [hdd]; exact ⟨hP1, by omega⟩)
                      have HS2 : Hid (SmallL (qu1.drop sh)) := Lib.hid (fun x hx => HS.out x (List.mem_of_mem_drop hx))
                      have HPN : Hid (pgs.length + 1 ≤ N) := Lib.hid (by
                        have h1 := congrArg List.length HT2.out
                        rw [List.length_append, List.length_append, HNE.out] at h1
                        simp at h1
                        omega)
                      have hNB : N ≤ 1048576 := by rw [← HNE.out]; exact Nat.le_trans (setPages_le _ _ _ _ _) HALL.out
                      have hpb : pgs.length ≤ 1048576 := by have := HPN.out; omega
                      have HPB := Lib.hid hpb
                      have hbt : (bd.take ln).length ≤ 1048576 := by rw [List.length_take]; omega
                      have hqt : (qu1.take sh).length ≤ 1048576 := by rw [List.length_take]; omega
                      have hba : Below wr.heap.size wr (wr.alloc (.cells #[.int .i64 0, .int .i64 0, .int .i64 0, .int .i64 0, .slice Ab ln cb, .slice An sh cn] 36)) := (Below.refl _ _).alloc (Nat.le_refl _) _
                      have HGa := Lib.hid (HGw.out.to hba)
                      have hrp := HGa.out.rep (by omega) (by omega)
                      rw [hp] at hrp
                      have HPO : Hid (∀ q, (Value.slice A9 pgs.length c9).ownBlock = some q → q < O) := Lib.hid (fun q hq => (HGw.out.pg.at_ q hq).1.2)
                      have HOG : Hid (w.heap.size ≤ O) := Lib.hid HGw.out.og
                      have HRE : Hid (Rep.R (wr.alloc (.cells #[.int .i64 0, .int .i64 0, .int .i64 0, .int .i64 0, .slice Ab ln cb, .slice An sh cn] 36)) (fun b => some b ≠ (Value.slice A9 pgs.length c9).ownBlock) [.int .i64 0, .int .i64 0, .int .i64 0, .int .i64 0, .slice Ab ln cb, .slice An sh cn] (⟨p⟩ : Av PageP (fun i => w.heap.size ≤ i ∧ some i ≠ ob1))) :=
                        Lib.hid (Rep.mono (α := PageP) hrp (fun i hi _ => ⟨fun e => by have := HPO.out i e.symm; have := hi.1; omega, by have := HOG.out; have := hi.1; omega, hi.2⟩))
                      have HOP : Hid (Own (wr.alloc (.cells #[.int .i64 0, .int .i64 0, .int .i64 0, .int .i64 0, .slice Ab ln cb, .slice An sh cn] 36)) w.heap.size 36 (.slice A9 (pgs.map (Av.mk : PageP → Av PageP (fun i => w.heap.size ≤ i ∧ some i ≠ ob1))).length c9) (pgs.map (Av.mk : PageP → Av PageP (fun i => w.heap.size ≤ i ∧ some i ≠ ob1)))) :=
                        Lib.hid (by rw [List.length_map]; exact (HGa.out.pg.mono (Q := fun i => w.heap.size ≤ i ∧ some i ≠ ob1) (fun i hi _ => ⟨hi.1.1, hi.2⟩)).own)
                      have hml : (pgs.map (Av.mk : PageP → Av PageP (fun i => w.heap.size ≤ i ∧ some i ≠ ob1))).length = pgs.length := List.length_map _
                      rw [hml] at HOP
                      have HML := Lib.hid hml
                      have x0 := HGw.out.o.cell 0 rfl
                      have x1 := HGw.out.o.cell 1 rfl
                      have x2 := HGw.out.o.cell 2 rfl
                      have x3 := HGw.out.o.cell 3 rfl
                      have x4 := HGw.out.o.cell 4 rfl
                      have x5 := HGw.out.o.cell 5 rfl
                      have HWZ : Hid (w.heap.size ≤ wr.heap.size) := Lib.hid HGw.out.bw.size
                      have hatl : at_ + ln ≤ body.length := by omega
                      clear hd hnn hP1 hP2 hdd hp hrp hba hml hbt hqt HGw hfit
                      go_wp2_with (first
                        | (at_builtin; refine wpList_push (α := Av PageP (fun i => w.heap.size ≤ i ∧ some i ≠ ob1)) _ rfl (.tmp 129) (.tmp 131) 29 rfl w.heap.size 36 (.agg #[.int .i64 0, .int .i64 0, .int .i64 0, .int .i64 0, .slice none 0 0, .slice none 0 0]) 80 Tryz.underlying29 page_info rfl (show 0 < 6 by decide) (.slice A9 pgs.length c9) (pgs.map Av.mk) rfl HOP.out wr.heap.size _ ⟨p⟩ (0, 0) 36 rfl (heap_alloc_new wr _) HRE.out (by rw [HML.out]; have := HPB.out; omega) (by rw [HML.out]; have := HPB.out; omega) (by have := HWZ.out; simp; omega) _ rfl ?_; intro g5 p5 w5 hown5 hg5 hat5 hlt5; rw [HML.out] at hown5 ⊢; have HPS := Lib.hid (HGa.out.page hg5 hown5 (fun k hk => by cases hk; exact hat5)); clear hown5 hg5 hat5 hlt5)
                        | fail)
                      clear x0 x1 x2 x3 x4 x5
                      go_roundw
                      case rel => exact ⟨at_ + ln, ob1, qu1.drop sh, pgs ++ [p], f - 1, by go_num, hatl, by first | exact HPS | (rw [List.length_drop] at *; exact HPS), HF2, HT2, HS2⟩
                      case measure => (have := HPN.out; simp only [vlen]; omega)
        · rw [show (decide (at_ < body.length) || decide (0 < qu.length)) = false by rw [Bool.or_eq_false_iff, decide_eq_false_iff_not, decide_eq_false_iff_not]; omega]
          have hat2 : at_ = body.length := by omega
          obtain rfl : qu = [] := List.eq_nil_of_length_eq_zero (by omega)
          have HFI : Hid (pgs = setPages notes hn (allLines body notes) body []) := Lib.hid (by
            have h1 := HT.out
            rwa [hat2, List.drop_length, setPages_nil, List.append_nil] at h1)
          go_wp2_with fail
          go_ret2
          exact ⟨_, rfl, fun _ => by rw [← HFI.out]; exact (HP.out.pg.mono (fun i hi _ => hi.1)).bd, fun h => absurd rfl h, HP.out.bw⟩
  · have HE := Lib.hid hE
    have hE0 : ¬ pageE body notes h = 0 := hE
    obtain ⟨pe, hpe⟩ : ∃ pe, pageE body notes h = pe := ⟨_, rfl⟩
    rw [hpe] at HC HE hE0 ⊢
    clear hE
    go_enter Tryz.func63, Tryz.ntmps63
    go_wp2_with (first | (go_at_call 89; refine HC.out.mono ?_; rintro e w2 ⟨rfl, hb2⟩; have HB2 := Lib.hid hb2; clear hb2) | fail)
    go_ret2
    exact ⟨_, rfl, fun h => absurd h HE.out, fun _ => rfl, HB2.out⟩
end Go.Proofs.YtakaielemicpkaaGreatDoor
namespace Go.Proofs.YtakaielemicpkaaGreatDoor
open Go.RowKit
set_option maxRecDepth 100000 in
set_option maxHeartbeats 4000000 in
theorem rText_any (A B : Option Addr) (c d : Nat) (a b : List (List Word)) (m h : Int) (w : World) (ha : Sl w (fun b => b < w.heap.size) A c a) (hb : Sl w (fun b => b < w.heap.size) B d b) (hla : a.length ≤ 1048576) (hlb : b.length ≤ 1048576) :
    Calls Tryz.prog 32 #[.agg #[.slice A a.length c, .slice B b.length d], .int .i64 m, .int .i64 h] w fun e w' => ∃ v, e = .returned (.tuple #[v, .int .i64 (textE a b m h)]) ∧
      (textE a b m h = 0 → Own w' w.heap.size 36 v ((pagesOfText a b m h.toNat).map (Bd.mk : PageP → Bd PageP w.heap.size))) ∧ (textE a b m h ≠ 0 → v = .slice none 0 0) ∧ Below w.heap.size w w' := by
  have hba : Below w.heap.size w (w.alloc (.cells #[.slice A a.length c, .slice B b.length d] 50)) := (Below.refl _ _).alloc (Nat.le_refl _) _
  have HL := Lib.hid (rLines_any A B c d a b m (w.alloc (.cells #[.slice A a.length c, .slice B b.length d] 50)) (ha.to hba) (hb.to hba) hla hlb)
  have HBA := Lib.hid hba
  have c0 : (w.alloc (.cells #[.slice A a.length c, .slice B b.length d] 50)).cell? ⟨w.heap.size, 0, none⟩ = some (.slice A a.length c) := cell_of_row _ _ 0 _ _ _ (heap_alloc_new w _)
  have c1 : (w.alloc (.cells #[.slice A a.length c, .slice B b.length d] 50)).cell? ⟨w.heap.size, 1, none⟩ = some (.slice B b.length d) := cell_of_row _ _ 1 _ _ _ (heap_alloc_new w _)
  obtain ⟨q, hq⟩ : ∃ q, linesE a b m = q := ⟨_, rfl⟩
  rw [hq] at HL
  have HQ := Lib.hid hq
  clear ha hb hba hq
  by_cases hq0 : q = 0
  · subst hq0
    go_enter Tryz.func32, Tryz.ntmps32
    go_wp2_with (first | (go_at_call 62; refine HL.out.mono ?_; rintro e w2 ⟨v, u, rfl, h1, -, hb2⟩; have h1 := h1 trivial) | fail)
    obtain ⟨A1, c1, rfl, hs1⟩ := own_bd_sl h1.1 (Nat.le_refl _)
    obtain ⟨A2, c2, rfl, hs2⟩ := own_bd_sl h1.2 (Nat.le_refl _)
    obtain ⟨hfn, hm1, hm2⟩ := linesE_fine HQ.out
    have hlen := fineT_lines hfn hm1 hm2
    have hsm := hfn.small m
    have hnl : (notesLP a b m).length ≤ 1048576 := by unfold notesLP; rw [partsP_length]; exact hlb
    have HB2 := Lib.hid (HBA.out.trans (hb2.mono HBA.out.size))
    have HSB : Hid (w.heap.size ≤ w2.heap.size) := Lib.hid HB2.out.size
    refine (rset_any A1 A2 c1 c2 (bodyP a m) (notesLP a b m) h w2 (hs1.mono fun i h _ => h.1) (hs2.mono fun i h _ => h.1) hnl (by omega) hsm.1 hsm.2).mono ?_
    rintro e w3 ⟨v, rfl, h2, h3, hb3⟩
    have HE : Hid (textE a b m h = pageE (bodyP a m) (notesLP a b m) h) := Lib.hid (by unfold textE; rw [HQ.out, if_neg (by simp)])
    have H2 := Lib.hid h2
    have H3 := Lib.hid h3
    have HB3 := Lib.hid (HB2.out.trans (hb3.mono HB2.out.size))
    clear h1 hs1 hs2 hfn hm1 hm2 hlen hsm hnl h2 h3 hb3 hb2 HL
    go_wp2_with fail
    go_ret2
    rw [HE.out]
    refine ⟨_, rfl, fun h0 => ?_, H3.out, HB3.out⟩
    have h4 := (H2.out h0).re HSB.out
    refine h4.conv _ (by rw [List.length_map, List.length_map]; rfl) rfl (fun i h1 h2 es he => ?_)
    rw [List.getElem_map] at he ⊢
    exact Rep.mono (α := PageP) he (fun b hb _ => ⟨hb.1, Nat.le_trans HSB.out hb.2⟩)
  · have hqb : (q != 0) = true := by simpa using hq0
    have HQ0 := Lib.hid hq0
    clear hq0
    go_enter Tryz.func32, Tryz.ntmps32
    go_wp2_with (first | (go_at_call 62; refine HL.out.mono ?_; rintro e w2 ⟨v, u, rfl, -, h1, hb2⟩; have HB2 := Lib.hid (HBA.out.trans (hb2.mono HBA.out.size)); clear h1 hb2) | fail)
    go_ret2
    have HE : textE a b m h = q := by unfold textE; rw [HQ.out, if_pos HQ0.out]
    exact ⟨_, by rw [HE]; rfl, fun h0 => absurd (HE ▸ h0) HQ0.out, fun _ => rfl, HB2.out⟩
end Go.Proofs.YtakaielemicpkaaGreatDoor
namespace Go.Proofs.YtakaielemicpkaaGreatDoor
open Go.RowKit
def labsL : List PageP → List UInt8
  | [] => []
  | p :: ps => labsL ps ++ (Lib.itoa p.num ++ sufF 4 p.suf.toNat []) ++ [32]
def labsT (l : List PageP) : ByteArray := ⟨(labsL l.reverse).toArray⟩
theorem labs_step (l : List PageP) {k : Nat} (hk : k < l.length) : labsL (l.take (k + 1)).reverse = labsL (l.take k).reverse ++ (Lib.itoa l[k].num ++ sufF 4 l[k].suf.toNat []) ++ [32] := by
  rw [List.take_succ_eq_append_getElem hk, List.reverse_append]
  rfl
def LabOk (l : List PageP) : Prop := l.length ≤ 100000 ∧ ∀ p ∈ l, (1 ≤ p.num ∧ p.num ≤ 16384) ∧ 0 ≤ p.suf ∧ p.suf ≤ 16384
theorem labs_len : ∀ (l : List PageP), (∀ p ∈ l, (1 ≤ p.num ∧ p.num ≤ 16384) ∧ 0 ≤ p.suf ∧ p.suf ≤ 16384) → (labsL l).length ≤ 26 * l.length
  | [], _ => by simp [labsL]
  | p :: ps, h => by
    have h1 := labs_len ps (fun q hq => h q (by simp [hq]))
    have h2 := Lib.itoa_length_le p.num (by have := (h p (by simp)).1; omega) (by have := (h p (by simp)).1; omega)
    have h3 := sufF_len 4 p.suf.toNat []
    rw [labsL, List.length_append, List.length_append, List.length_append, List.length_cons]
    simp only [List.length_nil, List.length_cons] at h3 ⊢
    omega
set_option maxHeartbeats 1000000 in
theorem labels_any {m h : Int} {A : Option Addr} {c : Nat} {l : List SectP} {w : World} (H : BookOk w m h A c l) (hT : Tabs w) (hL : LabOk (pagesB m h l)) :
    Calls Tryz.prog 40 #[.agg #[.int .i64 m, .int .i64 h, .slice A l.length c]] w fun e w' => e = .returned (.string (labsT (pagesB m h l))) ∧ Below w.heap.size w w' := by
  have hb0 := (Below.refl w.heap.size w).alloc (Nat.le_refl _) (.cells #[.int .i64 m, .int .i64 h, .slice A l.length c] 27)
  have hx0 : ABox (w.alloc (.cells #[.int .i64 m, .int .i64 h, .slice A l.length c] 27)) w.heap.size 27 [.int .i64 m, .int .i64 h, .slice A l.length c] := heap_alloc_new w _
  have hP := pages_any (H.to hb0)
  go_enter Tryz.func40, Tryz.ntmps40
  go_upto_region 1 with (fail)
  generalize w.alloc (.cells #[.int .i64 m, .int .i64 h, .slice A l.length c] 27) = w0 at *
  have x0 := hx0.cell 0 rfl
  have x1 := hx0.cell 1 rfl
  have x2 := hx0.cell 2 rfl
  have HB0 := Lib.hid hb0
  have HP := Lib.hid hP
  have HT := Lib.hid hT
  have HL := Lib.hid hL
  clear hb0 hx0 hP hT hL H
  go_upto_region 3 with (first
    | (go_at_call 12; refine HP.out.mono ?_; rintro e w1 ⟨v, R, rfl, ho, hR, hb1⟩; have HO := Lib.hid ho; have HB1 := Lib.hid (HB0.out.trans (hb1.mono HB0.out.size)); clear hb1 x0 x1 x2 hR ho)
    | fail)
  obtain ⟨A2, c2, rfl, hs⟩ := HO.out.plain.sl
  obtain ⟨ps, hps⟩ : ∃ ps, pagesB m h l = ps := ⟨_, rfl⟩
  have HPS := Lib.hid hps
  rw [hps] at HL hs ⊢
  clear HO HP
  have HS := Lib.hid hs
  obtain ⟨n, hn⟩ : ∃ n, ps.length = n := ⟨_, rfl⟩
  have HN := Lib.hid hn
  have hn2 : n ≤ 100000 := by rw [← hn]; exact HL.out.1
  rw [hn]
  clear hs hn hps
  go_wp2_with fail
  go_loopw [3, 5] (fun v i wr => ∃ k : Nat, k ≤ n ∧ i = .int .i64 k ∧ v = .string ⟨(labsL (ps.take k).reverse).toArray⟩ ∧ Below w1.heap.size w1 wr) (fun _ i _ => n - (intOf i).toNat)
  case atStart => exact ⟨0, by omega, rfl, rfl, Below.refl _ _⟩
  case round =>
    obtain ⟨k, hk, rfl, rfl, hb⟩ := hrel
    have HB := Lib.hid hb
    by_cases hlt : k < n
    · have hkl : k < ps.length := by rw [HN.out]; exact hlt
      have hst := labs_step ps hkl
      obtain ⟨b, o, va, vb, rfl, -, -, p0, p1, -⟩ := page_at (HS.out.keep (Kept.all hb) hb.size) hkl
      have hy := HL.out.2 _ (List.getElem_mem hkl)
      obtain ⟨a, ha⟩ := Int.eq_ofNat_of_zero_le (show 0 ≤ ps[k].num by omega)
      obtain ⟨z, hz⟩ := Int.eq_ofNat_of_zero_le hy.2.1
      rw [ha, hz] at hst
      rw [ha] at p0
      rw [hz] at p1
      have HTX := Lib.hid (ltext_any a z (by omega) (by omega) wr (HT.out.to (HB1.out.trans (hb.mono HB1.out.size))))
      have hll := labs_len (ps.take k).reverse (fun p hp => HL.out.2 p (List.mem_of_mem_take (List.mem_reverse.1 hp)))
      rw [List.length_reverse, List.length_take] at hll
      have hl2 := Lib.itoa_length_le (a : Int) (by omega) (by omega)
      have hl3 := sufF_len 4 z []
      simp only [List.length_nil, Nat.add_zero] at hl3
      rw [Int.toNat_natCast] at hst
      have HST : Hid (labsL (ps.take (k + 1)).reverse = labsL (ps.take k).reverse ++ (Lib.itoa (a : Int) ++ sufF 4 z []) ++ [32]) := Lib.hid hst
      have hlt2 : (labT a z).size ≤ 30 := by
        show (Lib.itoa (a : Int) ++ sufF 4 z []).toArray.size ≤ 30
        rw [List.size_toArray, List.length_append]; omega
      have HLT : Hid (labT a z = ⟨(Lib.itoa (a : Int) ++ sufF 4 z []).toArray⟩) := Lib.hid rfl
      clear hb hst ha hz hl2 hl3 hy
      generalize labT a z = tx at *
      generalize Lib.itoa (a : Int) ++ sufF 4 z [] = tl at *
      generalize hq : labsL (ps.take k).reverse = q at *
      have hql : q.length ≤ 2600000 := by omega
      clear hll hq
      go_wp2_with (first
        | (go_at_call 72; refine HTX.out.mono ?_; rintro e w2 ⟨rfl, hb2⟩; have HB2 := Lib.hid (HB.out.trans (hb2.mono HB.out.size)); clear hb2)
        | fail)
      go_roundw
      case rel => exact ⟨k + 1, by omega, by go_num, val_str (by rw [HST.out, HLT.out]; apply ByteArray.ext; simp), HB2.out⟩
      case measure => simp [intOf]; omega
    · obtain rfl : k = n := by omega
      have HTK : Hid (ps.take k = ps) := Lib.hid (List.take_of_length_le (by rw [HN.out]; omega))
      rw [HTK.out]
      clear hb
      go_wp2_with fail
      go_ret
      exact ⟨by rw [HPS.out]; rfl, HB1.out.trans (HB.out.mono HB1.out.size)⟩
end Go.Proofs.YtakaielemicpkaaGreatDoor
namespace Go.Proofs.YtakaielemicpkaaGreatDoor
open Go.RowKit
def wideT (n : Nat) : TextP := ⟨[List.replicate n wideW], []⟩
def exA : List SectP := [⟨0, false, [3], [wideT 5]⟩]
def exB : List SectP := exA ++ [⟨1, false, [4], [wideT 4]⟩]
def exF : List SectP := exB.map frz
def exC : List SectP := exF.set 0 (corrS (frz ⟨0, false, [3], [wideT 5]⟩) 7 (wideT 9))
def exD : List SectP := exC ++ [⟨2, false, [8], [wideT 1]⟩]
def exI : List SectP := exD.set 2 (corrS ⟨2, false, [8], [wideT 1]⟩ 9 (wideT 5))
def exK : List SectP := strikeL exI 2
def exM : List SectP := strikeL exK 0
theorem ex_wrong : (wrongE 500 4 [List.replicate 5 wideW] [] = 0 ∧ wrongE 500 4 [List.replicate 4 wideW] [] = 0) ∧ wrongE 500 4 [List.replicate 9 wideW] [] = 0 ∧ wrongE 500 4 [List.replicate 1 wideW] [] = 0 := by decide +kernel
theorem ex_labA : labsT (pagesB 500 4 exB) = ⟨#[49, 32, 50, 32, 51, 32]⟩ := by decide +kernel
theorem ex_labC : labsT (pagesB 500 4 exC) = ⟨#[49, 32, 50, 32, 50, 97, 32, 50, 98, 32, 50, 99, 32, 51, 32]⟩ := by decide +kernel
theorem ex_labD : labsT (pagesB 500 4 exD) = ⟨#[49, 32, 50, 32, 50, 97, 32, 50, 98, 32, 50, 99, 32, 51, 32, 52, 32]⟩ := by decide +kernel
theorem ex_labI : labsT (pagesB 500 4 exI) = ⟨#[49, 32, 50, 32, 50, 97, 32, 50, 98, 32, 50, 99, 32, 51, 32, 52, 32, 53, 32]⟩ := by decide +kernel
theorem ex_labK : labsT (pagesB 500 4 exK) = labsT (pagesB 500 4 exC) := by decide +kernel
theorem ex_labM : labsT (pagesB 500 4 exM) = labsT (pagesB 500 4 exC) := by decide +kernel
theorem ex_where1 : whereP 0 7 4 (pagesB 500 4 exC) = some (2, 2, 1) := by decide +kernel
theorem ex_where2 : whereP 0 3 4 (pagesB 500 4 exC) = some (2, 0, 1) := by decide +kernel
instance (l : List PageP) : Decidable (LabOk l) := by unfold LabOk; infer_instance
theorem ex_ok : (LabOk (pagesB 500 4 exA) ∧ LabOk (pagesB 500 4 exB)) ∧ (LabOk (pagesB 500 4 exC) ∧ LabOk (pagesB 500 4 exD)) ∧ (LabOk (pagesB 500 4 exI) ∧ LabOk (pagesB 500 4 exK)) ∧ LabOk (pagesB 500 4 exM) := by decide +kernel
theorem ex_find : (findP [] 0 = -1 ∧ findP exA 1 = -1 ∧ findP exF 0 = 0 ∧ findP exC 2 = -1) ∧ findP exD 2 = 2 ∧ findP exI 2 = 2 ∧ findP exK 0 = 0 := by decide +kernel
end Go.Proofs.YtakaielemicpkaaGreatDoor
namespace Go.Proofs.YtakaielemicpkaaGreatDoor
open Go.RowKit
structure SM (w : World) (A : Option Addr) (c : Nat) (l : List SectP) : Prop where
  t : Tabs w
  s : Sl w (fun b => b < w.heap.size) A c l
theorem SM.to {w w' : World} {A : Option Addr} {c : Nat} {l : List SectP} (h : SM w A c l) (hb : Below w.heap.size w w') : SM w' A c l := ⟨h.t.to hb, h.s.to hb⟩
def ExOk (l : List SectP) : Prop := ShortS l ∧ WfS l ∧ (pagesB 500 4 l).length ≤ 100
instance (l : List (List Word)) : Decidable (ShortT l) := by unfold ShortT; infer_instance
instance (s : SectP) : Decidable (ShortX s) := by unfold ShortX; infer_instance
instance (l : List SectP) : Decidable (ShortS l) := by unfold ShortS; infer_instance
instance (l : List SectP) : Decidable (WfS l) := by unfold WfS; infer_instance
instance (l : List SectP) : Decidable (ExOk l) := by unfold ExOk; infer_instance
theorem SM.book {w : World} {A : Option Addr} {c : Nat} {l : List SectP} (h : SM w A c l) (hl : ExOk l) : BookOk w 500 4 A c l := ⟨h.t.1, h.s, hl.1, hl.2.1, ⟨by decide, by decide⟩, by have := hl.2.2; omega⟩
theorem fits_ok {m h : Int} {v : Value} {n : Nat} (hn : n ≤ 16384) : fitsV m h v n = .tuple #[.agg #[.int .i64 m, .int .i64 h, v], .int .i64 0] := by unfold fitsV; rw [if_neg (by omega)]
theorem OwnP.sm {w w' : World} {B : Nat} {v : Value} {l : List SectP} {P : Nat → Prop} (h : OwnP w' B 45 v l P) (hT : Tabs w) (hb : Below w.heap.size w w') : ∃ A c, v = .slice A l.length c ∧ SM w' A c l ∧ Sl w' P A c l := by
  obtain ⟨A, c, e, hs⟩ := h.sl
  exact ⟨A, c, e, ⟨hT.to hb, hs.mono fun _ _ h => h⟩, hs⟩
theorem wide_short (n : Nat) (hn : n ≤ 1000) : ShortT [List.replicate n wideW] := ⟨by simp, fun p hp => by rw [List.mem_singleton] at hp; subst hp; simp; omega⟩
def Gives (w : World) (l : List SectP) (e : Ending) (w' : World) : Prop := ∃ A c, e = .returned (.tuple #[.agg #[.int .i64 500, .int .i64 4, .slice A l.length c], .int .i64 0]) ∧ SM w' A c l ∧ Sl w' (Up w.heap.size) A c l ∧ Below w.heap.size w w'
theorem ex_add {w : World} {A A1 : Option Addr} {c c1 : Nat} {l l2 : List SectP} (n : Nat) (hn : n ≤ 1000) (e v : Int) (hl : ExOk l) (hl2 : ExOk l2) (h2 : l ++ [(⟨e, false, [v], [wideT n]⟩ : SectP)] = l2) (hm : SM w A c l) (ht : Sl w (fun b => b < w.heap.size) A1 c1 [List.replicate n wideW]) (hf : findP l e = -1) (he : 0 ≤ e ∧ e ≤ 65535) (hv : 0 ≤ v ∧ v ≤ 2147483647) (hE : wrongE 500 4 [List.replicate n wideW] [] = 0) (hln : l.length < 100) :
    Calls Tryz.prog 36 #[.agg #[.int .i64 500, .int .i64 4, .slice A l.length c], .int .i64 e, .int .i64 v, .agg #[.slice A1 1 c1, .slice none 0 0]] w (Gives w l2) := by
  refine (add_ok A c l 500 4 e v A1 none c1 0 [List.replicate n wideW] [] w hm.t.1 hm.s hl.1 hl.2.1 ⟨by decide, by decide⟩ ht (Sl.nil _ _ _ _ (by simp [maxLen])) (wide_short n hn) ⟨by simp, by simp⟩ hf he hv hE (by omega) (by rw [show (⟨[List.replicate n wideW], []⟩ : TextP) = wideT n from rfl, h2]; have := hl2.2.2; omega)).mono ?_
  rintro x W' ⟨u, rfl, ho, hb⟩
  rw [show (⟨[List.replicate n wideW], []⟩ : TextP) = wideT n from rfl, h2] at *
  obtain ⟨A5, c5, rfl, hs, hs2⟩ := ho.sm hm.t hb
  exact ⟨A5, c5, by rw [fits_ok (by have := hl2.2.2; omega)], hs, hs2, hb⟩
theorem ex_correct {w : World} {A A1 : Option Addr} {c c1 : Nat} {l l2 : List SectP} (n : Nat) (hn : n ≤ 1000) (e v : Int) (k : Nat) (s : SectP) (hl : ExOk l) (hl2 : ExOk l2) (h2 : l.set k (corrS s v (wideT n)) = l2) (hm : SM w A c l) (ht : Sl w (fun b => b < w.heap.size) A1 c1 [List.replicate n wideW]) (hf : findP l e = (k : Int)) (hk : k < l.length) (hks : l[k]? = some s) (hv : 0 ≤ v ∧ v ≤ 2147483647) (hnv : v ∉ s.vers) (hE : wrongE 500 4 [List.replicate n wideW] [] = 0) (hlim : (corrS s v (wideT n)).vers.length ≤ 100) :
    Calls Tryz.prog 38 #[.agg #[.int .i64 500, .int .i64 4, .slice A l.length c], .int .i64 e, .int .i64 v, .agg #[.slice A1 1 c1, .slice none 0 0]] w (Gives w l2) := by
  cases hfr : s.frozen with
  | true =>
    refine (correct_frozen A c l 500 4 e v A1 none c1 0 [List.replicate n wideW] [] w hm.t.1 hm.s hl.1 hl.2.1 ⟨by decide, by decide⟩ ht (Sl.nil _ _ _ _ (by simp [maxLen])) (wide_short n hn) ⟨by simp, by simp⟩ k hk hf s hks hfr hv hnv hE hlim (by rw [show (⟨[List.replicate n wideW], []⟩ : TextP) = wideT n from rfl, h2]; have := hl2.2.2; omega)).mono ?_
    rintro x W' ⟨u, rfl, ho, hb⟩
    rw [show (⟨[List.replicate n wideW], []⟩ : TextP) = wideT n from rfl, h2] at *
    obtain ⟨A5, c5, rfl, hs, hs2⟩ := ho.sm hm.t hb
    exact ⟨A5, c5, by rw [fits_ok (by have := hl2.2.2; omega)], hs, hs2, hb⟩
  | false =>
    refine (correct_open A c l 500 4 e v A1 none c1 0 [List.replicate n wideW] [] w hm.t.1 hm.s hl.1 hl.2.1 ⟨by decide, by decide⟩ ht (Sl.nil _ _ _ _ (by simp [maxLen])) (wide_short n hn) ⟨by simp, by simp⟩ k hk hf s hks hfr hv hnv hE hlim (by rw [show (⟨[List.replicate n wideW], []⟩ : TextP) = wideT n from rfl, h2]; have := hl2.2.2; omega)).mono ?_
    rintro x W' ⟨u, rfl, ho, hb⟩
    rw [show (⟨[List.replicate n wideW], []⟩ : TextP) = wideT n from rfl, h2] at *
    obtain ⟨A5, c5, rfl, hs, hs2⟩ := ho.sm hm.t hb
    exact ⟨A5, c5, by rw [fits_ok (by have := hl2.2.2; omega)], hs, hs2, hb⟩
theorem ex_strike {w : World} {A : Option Addr} {c : Nat} {l l2 : List SectP} (e : Int) (k : Nat) (hl : ExOk l) (h2 : strikeL l k = l2) (hm : SM w A c l) (hf : findP l e = (k : Int)) (hk : k < l.length) :
    Calls Tryz.prog 39 #[.agg #[.int .i64 500, .int .i64 4, .slice A l.length c], .int .i64 e] w (Gives w l2) := by
  refine (strike_hit A c l 500 4 e w hm.s hl.1 k hk hf).mono ?_
  rintro x W' ⟨u, rfl, ho, hb⟩
  rw [h2] at ho
  obtain ⟨A5, c5, rfl, hs, hs2⟩ := ho.sm hm.t hb
  exact ⟨A5, c5, rfl, hs, hs2, hb⟩
theorem ex_freeze {w : World} {A : Option Addr} {c : Nat} {l l2 : List SectP} (hl : ExOk l) (h2 : l.map frz = l2) (hm : SM w A c l) :
    Calls Tryz.prog 28 #[.agg #[.int .i64 500, .int .i64 4, .slice A l.length c]] w fun e w' => ∃ A c, e = .returned (.agg #[.int .i64 500, .int .i64 4, .slice A l2.length c]) ∧ SM w' A c l2 ∧ Sl w' (Up w.heap.size) A c l2 ∧ Below w.heap.size w w' := by
  refine (freeze_any A c l 500 4 w hm.s hl.1).mono ?_
  rintro x W' ⟨u, rfl, ho, hb⟩
  rw [h2] at ho
  obtain ⟨A5, c5, rfl, hs, hs2⟩ := ho.sm hm.t hb
  exact ⟨A5, c5, rfl, hs, hs2, hb⟩
theorem ex_labels {w : World} {A : Option Addr} {c : Nat} {l : List SectP} {s : ByteArray} (hl : ExOk l) (hm : SM w A c l) (hL : LabOk (pagesB 500 4 l)) (hs : labsT (pagesB 500 4 l) = s) :
    Calls Tryz.prog 40 #[.agg #[.int .i64 500, .int .i64 4, .slice A l.length c]] w fun e w' => e = .returned (.string s) ∧ Below w.heap.size w w' := by
  rw [← hs]
  exact labels_any (hm.book hl) hm.t hL
theorem ex_where {w : World} {A : Option Addr} {c : Nat} {l : List SectP} {e v wd n s : Int} {i : Nat} (hl : ExOk l) (hm : SM w A c l) (h : whereP e v wd (pagesB 500 4 l) = some (n, s, i)) :
    Calls Tryz.prog 18 #[.agg #[.int .i64 500, .int .i64 4, .slice A l.length c], .int .i64 e, .int .i64 v, .int .i64 wd] w fun x w' => x = .returned (.tuple #[.agg #[.int .i64 n, .int .i64 s], .int .i64 (i : Int), .bool true]) ∧ Below w.heap.size w w' := by
  refine (where_any (hm.book hl) e v wd).mono ?_
  rintro x w' ⟨rfl, hb⟩
  exact ⟨by rw [h]; rfl, hb⟩
theorem ex_oks : (ExOk [] ∧ ExOk exA ∧ ExOk exB ∧ ExOk exF) ∧ (ExOk exC ∧ ExOk exD) ∧ (ExOk exI ∧ ExOk exK) ∧ ExOk exM := by decide +kernel
end Go.Proofs.YtakaielemicpkaaGreatDoor
namespace Go.Proofs.YtakaielemicpkaaGreatDoor
open Go.RowKit
theorem Own.slB {α : Type} [Rep α] [Flat α] {w : World} {base : Nat} {e : TypeId} {v : Value} {l : List α} (h : Own w base e v l) : ∃ A c, v = .slice A l.length c ∧ Sl w (fun b => v.ownBlock = some b) A c l := by
  obtain ⟨A, c, rfl, hs⟩ := h.sl
  refine ⟨A, c, rfl, hs.1, hs.2.1, fun hn => ?_⟩
  obtain ⟨b, o, rfl, hb, hlt, hx⟩ := hs.2.2 hn
  refine ⟨b, o, rfl, rfl, hlt, fun i hi => ?_⟩
  obtain ⟨es, hr, hc⟩ := hx i hi
  exact ⟨es, Flat.flat hr, hc⟩
theorem Nest.slB {w : World} {B : Nat → Prop} {te ti : TypeId} {v : Value} {us : List Raw} {ls : List (List Word)} (h : Nest w B te ti v us ls) (hlen : ∀ l ∈ ls, l.length < 9223372036854775808) : ∃ A c, v = .slice A ls.length c ∧ Sl w B A c ls := by
  obtain ⟨A, c, e0, hs⟩ := h.own.sl
  refine ⟨A, c, by rw [e0, h.len], by rw [← h.len]; exact hs.1, hs.2.1, fun hn => ?_⟩
  obtain ⟨b, o, rfl, hb, hlt, hx⟩ := hs.2.2 (by rw [h.len]; exact hn)
  refine ⟨b, o, rfl, h.mv b (by rw [e0]; rfl), hlt, fun i hi => ?_⟩
  have hi' : i < us.length := by rw [h.len]; exact hi
  obtain ⟨es, hr, hc⟩ := hx i hi'
  obtain ⟨A1, c1, e1, hs1⟩ := (h.inn i hi' hi).slB
  have hr' : es = [us[i].v] := hr
  exact ⟨es, ⟨A1, c1, by rw [hr', e1], hs1.mono fun g hg _ => h.mi i hi' g hg, hlen _ (List.getElem_mem hi)⟩, hc⟩
def IsT (w : World) (e : Ending) (w' : World) : Prop :=
  ∃ A c B d ls ns, e = .returned (.agg #[.slice A ls.length c, .slice B ns.length d]) ∧ GText ls ns ∧ Rep.R w' (fun b => w.heap.size ≤ b) [.slice A ls.length c, .slice B ns.length d] (⟨ls, ns⟩ : TextP) ∧ Below w.heap.size w w'
theorem IsText.own {w w' : World} {e : Ending} (h : IsText w e w') : IsT w e w' := by
  obtain ⟨v, vn, ls, ns, rfl, hg, ⟨B, us, un, h1, h2⟩, hb⟩ := h
  have hle := h1.own.lt
  have hl4 := hg.l4
  have hn3 := hg.n3
  obtain ⟨g0, _, _, _, _, hg0, _⟩ := h1.at_ (k := 0) (by have := hg.l1; omega)
  obtain ⟨A, c, rfl, hs⟩ := h1.slB hg.lens.1
  obtain ⟨A', c', rfl, hs'⟩ := h2.slB hg.lens.2
  refine ⟨A, c, A', c', ls, ns, rfl, hg, ⟨_, _, rfl, ⟨A, c, rfl, hs.mono fun i hi _ => hi.1, by dsimp only; omega⟩, ⟨A', c', rfl, hs'.mono fun i hi _ => by have : B ≤ i := hi; have := hg0.1; have := hg0.2; omega, by dsimp only; omega⟩⟩, hb⟩
set_option maxHeartbeats 1000000 in
theorem rtext_any (A : Option Addr) (c : Nat) (l : List Int) (k : Nat) (_ : k ≤ 1000) (w : World) (hl : Sl w (fun b => b < w.heap.size) A c l) :
    Calls Tryz.prog 31 #[.slice A l.length c, .int .i64 (k : Int)] w (IsT w) := by
  have hl1 := hl.1
  have hl2 : c ≤ 9223372036854775807 := hl.2.1
  obtain ⟨j, hj⟩ : ∃ j, min k l.length = j := ⟨_, rfl⟩
  have hjl : j ≤ l.length := by omega
  have hd := hl.drop j hjl
  have hm : min (k : Int) (l.length : Int) = (j : Int) := by omega
  have hlen : (l.drop j).length = l.length - j := List.length_drop
  obtain ⟨A2, hA2⟩ : ∃ A2, (if c = j then A else A.map (·.add (j * Rep.size Int))) = A2 := ⟨_, rfl⟩
  rw [hA2] at hd
  have hb0 := (Below.refl w.heap.size w).alloc (Nat.le_refl _) (.cells #[.slice none 0 0, .slice none 0 0] 50)
  have hx0 : ABox (w.alloc (.cells #[.slice none 0 0, .slice none 0 0] 50)) w.heap.size 50 [.slice none 0 0, .slice none 0 0] := heap_alloc_new w _
  have hz : (w.alloc (.cells #[.slice none 0 0, .slice none 0 0] 50)).heap.size = w.heap.size + 1 := by simp
  have HT := Lib.hid (text_any A2 (c - j) (l.drop j) _ (hd.to hb0))
  rw [hlen] at HT
  have HJ := Lib.hid hj
  have fin : ∀ (a b : Int), a = b → b = a := fun _ _ h => h.symm
  clear hd hlen hl hj fin
  have hjI : (j : Int) ≤ (l.length : Int) := by omega
  have hA3 : (if c = j then (.slice A (l.length - j) (c - j) : Value) else .slice (A.map (·.add j)) (l.length - j) (c - j)) = .slice A2 (l.length - j) (c - j) := by
    rw [← hA2]
    split <;> simp [Rep.size]
  have HA3 := Lib.hid hA3
  clear hA2 hA3
  go_enter Tryz.func31, Tryz.ntmps31
  go_upto_region 1 with (fail)
  generalize w.alloc (.cells #[.slice none 0 0, .slice none 0 0] 50) = w0 at *
  have HB0 := Lib.hid hb0
  have HX0 := Lib.hid hx0
  have HZ := Lib.hid hz
  clear hb0 hx0 hz
  by_cases hc : c = j
  · have h3 : A2 = A := by
      have h := HA3.out
      rw [if_pos hc] at h
      injection h with h
      exact h.symm
    rw [h3] at HT
    have hlj : l.length = j := by omega
    subst hc
    rw [hlj, Nat.sub_self] at HT
    clear HA3
    rw [hlj] at hm ⊢
    clear hlj hl1 hjl hjI HJ
    clear h3
    go_wp2_with (first
      | (go_at_call 61; refine HT.out.mono ?_; intro e w1 hT1; obtain ⟨A5, c5, B5, d5, ls, ns, rfl, hg, hN, hb⟩ := hT1.own; have HG := Lib.hid hg; have HN := Lib.hid hN; have HB := Lib.hid hb; have x0 := (HX0.out.to hb).cell 0 rfl; have x1 := (HX0.out.to hb).cell 1 rfl; have f0 := (HX0.out.to hb).fz 0; have f1 := (HX0.out.to hb).fz 1; clear hg hN hb hT1)
      | fail)
    refine bodyPost_ret (v := .agg #[.slice A5 ls.length c5, .slice B5 ns.length d5]) (results_box1 Tryz.results31 _ _ w.heap.size _ [.slice A5 ls.length c5, .slice B5 ns.length d5] _ rfl (by simpa using ((HX0.out.to HB.out).set 0 (.slice A5 ls.length c5)).set 1 (.slice B5 ns.length d5)) Tryz.underlying50 rfl (by kernel_rfl)) rfl ⟨A5, c5, B5, d5, ls, ns, rfl, HG.out, ?_, ?_⟩
    · have e1 : ∀ g, w.heap.size < g → ((w1.setCell ⟨w.heap.size, 0, none⟩ (.slice A5 ls.length c5)).setCell ⟨w.heap.size, 1, none⟩ (.slice B5 ns.length d5)).heap[g]? = w1.heap[g]? := fun g hg => (heap_set _ _ 1 _ (by omega)).trans (heap_set _ _ 0 _ (by omega))
      exact Rep.mono (Rep.keep HN.out (fun g (hg : w0.heap.size ≤ g) _ => e1 g (by have := HZ.out; omega))) (fun g (hg : w0.heap.size ≤ g) _ => by have := HZ.out; omega)
    · exact ((HB0.out.trans (HB.out.mono HB0.out.size)).setCell (p := ⟨w.heap.size, 0, none⟩) (Nat.le_refl _) _).setCell (p := ⟨w.heap.size, 1, none⟩) (Nat.le_refl _) _
  · have h3 : A2 = A.map (·.add j) := by
      have h := HA3.out
      rw [if_neg hc] at h
      injection h with h
      exact h.symm
    rw [h3] at HT
    clear h3
    go_wp2_with (first
      | (go_at_call 61; refine HT.out.mono ?_; intro e w1 hT1; obtain ⟨A5, c5, B5, d5, ls, ns, rfl, hg, hN, hb⟩ := hT1.own; have HG := Lib.hid hg; have HN := Lib.hid hN; have HB := Lib.hid hb; have x0 := (HX0.out.to hb).cell 0 rfl; have x1 := (HX0.out.to hb).cell 1 rfl; have f0 := (HX0.out.to hb).fz 0; have f1 := (HX0.out.to hb).fz 1; clear hg hN hb hT1)
      | fail)
    refine bodyPost_ret (v := .agg #[.slice A5 ls.length c5, .slice B5 ns.length d5]) (results_box1 Tryz.results31 _ _ w.heap.size _ [.slice A5 ls.length c5, .slice B5 ns.length d5] _ rfl (by simpa using ((HX0.out.to HB.out).set 0 (.slice A5 ls.length c5)).set 1 (.slice B5 ns.length d5)) Tryz.underlying50 rfl (by kernel_rfl)) rfl ⟨A5, c5, B5, d5, ls, ns, rfl, HG.out, ?_, ?_⟩
    · have e1 : ∀ g, w.heap.size < g → ((w1.setCell ⟨w.heap.size, 0, none⟩ (.slice A5 ls.length c5)).setCell ⟨w.heap.size, 1, none⟩ (.slice B5 ns.length d5)).heap[g]? = w1.heap[g]? := fun g hg => (heap_set _ _ 1 _ (by omega)).trans (heap_set _ _ 0 _ (by omega))
      exact Rep.mono (Rep.keep HN.out (fun g (hg : w0.heap.size ≤ g) _ => e1 g (by have := HZ.out; omega))) (fun g (hg : w0.heap.size ≤ g) _ => by have := HZ.out; omega)
    · exact ((HB0.out.trans (HB.out.mono HB0.out.size)).setCell (p := ⟨w.heap.size, 0, none⟩) (Nat.le_refl _) _).setCell (p := ⟨w.heap.size, 1, none⟩) (Nat.le_refl _) _
end Go.Proofs.YtakaielemicpkaaGreatDoor
