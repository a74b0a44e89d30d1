/- The reference's pages of lines and their notes are those of package page. No condition but sizes.
The reference's pages of a text are those of package page. No condition but sizes.
The words of a text, their number and one of them, by the reference. No condition but that the sizes fit.
The reference's within, Has and wrong. No condition but sizes.
The reference's error of a section is that of package book. No condition but sizes. -/
import Derived.Test.YtakaielemicpkaaGreatDoorBZd13
namespace Go.Proofs.YtakaielemicpkaaGreatDoor
open Go.RowKit
def SP.copy (B : Nat) (x : LineP) : SP := ⟨fun v w => ∃ A c A' c', v = .agg #[.int .i64 x.fr, .int .i64 x.un, .slice A x.gaps.length c, .slice A' x.notes.length c'] ∧ Own w B 3 (.slice A x.gaps.length c) x.gaps ∧ Own w B 3 (.slice A' x.notes.length c') x.notes, fun _ _ _ h hb => by
 obtain ⟨A, c, A', c', h1, h2, h3⟩ := h
 exact ⟨A, c, A', c', h1, h2.below hb, h3.below hb⟩⟩
set_option maxRecDepth 100000 in
set_option maxHeartbeats 32000000 in
theorem rset_any (A B : Option Addr) (c d : Nat) (body : List LineP) (notes : List (List LineP)) (h : Int) (w : World) (ha : Sl w (fun b => b < w.heap.size) A c body) (hb : Sl w (fun b => b < w.heap.size) B d notes) (hln : notes.length ≤ 1048576)
  (hall : body.length + notes.flatten.length ≤ 1048576) (hsm : SmallL body) (hsn : ∀ n ∈ notes, SmallL n) :
  Calls Tryz.prog 63 #[.slice A body.length c, .slice B notes.length d, .int .i64 h] w fun e w' => ∃ v, e = .returned (.tuple #[v, .int .i64 (pageE body notes h)]) ∧
   (pageE body notes h = 0 → Own w' w.heap.size 36 v ((setPages notes h.toNat (allLines body notes) body []).map (Bd.mk : PageP → Bd PageP w.heap.size))) ∧ (pageE body notes h ≠ 0 → v = .slice none 0 0) ∧ Below w.heap.size w w' := by
 have HC := Lh (rwrong_any A B c d body notes h w ha hb hln (by omega) (fun x hx => by have := (hsm x hx).2; omega))
 have HA := Lh ha
 have HBn := Lh hb
 have HSM := Lh hsm
 have HSN := Lh hsn
 have hbc : body.length ≤ c := ha.1
 have hnd : notes.length ≤ d := hb.1
 clear ha hb hsm hsn
 by_cases hE : pageE body notes h = 0
 ·obtain ⟨hn, rfl⟩ : ∃ hn : Nat, h = (hn : Int) := ⟨h.toNat, by have := pageE_h hE; omega⟩
  have hh := pageE_h hE
  have h4 : 4 ≤ hn := by omega
  have h100 : hn ≤ 100 := by omega
  have HREF := Lh (pageE_refs hE)
  have hbl : body.length ≤ 1048576 := by omega
  have HALL : Hid (allLines body notes ≤ 1048576) := Lh (Nat.le_trans (pageE_all hE) hall)
  have HE := Lh hE
  simp only [hE] at HC ⊢
  rw [Int.toNat_natCast]
  clear hE hh hall
  go_enter Tryz.func63, Tryz.ntmps63
  go_wp2_with (first | (go_at_call 89; refine HC.out.mono ?_; rintro e w2 ⟨rfl, hb2⟩) | fail)
  have HP0 : Hid (PS w w2 none (.slice none 0 0) [] (.slice none 0 0) []) := Lh ⟨hb2, Que.nil _ _ _, OwnP.nil _ _ _ _⟩
  obtain ⟨N, hN⟩ : ∃ N, (setPages notes hn (allLines body notes) body []).length = N := ⟨_, rfl⟩
  have HNE := Lh hN
  clear hb2 HC hN
  go_loopw [9, 10, 11] (fun v9 v10 v11 wr => ∃ (at_ : Nat) (ob : Option Nat) (qu : List LineP) (pgs : List PageP) (f : Nat), v11 = .int .i64 (at_ : Int) ∧ at_ ≤ body.length ∧ Hid (PS w wr ob v10 qu v9 pgs) ∧ Hid (allLines (body.drop at_) notes + qu.length ≤ f ∧ f ≤ 1048576) ∧
   Hid (pgs ++ setPages notes hn f (body.drop at_) qu = setPages notes hn (allLines body notes) body []) ∧ Hid (SmallL qu)) (fun v9 _ _ _ => N - vlen v9)
  case atStart => exact ⟨0, none, [], [], _, rfl, Nat.zero_le _, HP0, Lh ⟨Nat.le_refl _, HALL.out⟩, Lh rfl, Lh (fun x hx => absurd hx (by simp))⟩
  case round =>
   clear HP0 w2
   obtain ⟨at_, ob, qu, pgs, f, rfl, hat, HP, HF, HT, HS⟩ := hrel
   obtain ⟨Aq, cq, hqv, -, -⟩ := HP.out.q.len
   rw [List.length_map] at hqv
   subst hqv
   obtain ⟨A9, c9, hv9, -, -⟩ := HP.out.pg.len
   subst hv9
   go_upto_region 7 with (fail)
   go_cut [29] from 21 to 29 (fun v29 wx => v29 = .bool (decide (at_ < body.length) || decide (0 < qu.length)) ∧ wx = wr)
   case first =>
    by_cases h1 : at_ < body.length
    ·have h2 : (at_ : Int) < (body.length : Int) := by omega
     have H1 := Lh h1
     clear h1
     go_wp2_with fail
     go_meet
     exact ⟨by rw [decide_eq_true H1.out]; rfl, rfl⟩
    ·have h2 : ¬ (at_ : Int) < (body.length : Int) := by omega
     have H1 := Lh h1
     clear h1
     by_cases h3 : 0 < qu.length
     ·have h5 : (0 : Int) < (qu.length : Int) := by omega
      have H3 := Lh h3
      clear h3
      go_wp2_with fail
      go_meet
      exact ⟨by rw [decide_eq_false H1.out, decide_eq_true H3.out]; rfl, rfl⟩
     ·have h5 : ¬ (0 : Int) < (qu.length : Int) := by omega
      have H3 := Lh h3
      clear h3
      go_wp2_with fail
      go_meet
      exact ⟨by rw [decide_eq_false H1.out, decide_eq_false H3.out]; rfl, rfl⟩
   case rest =>
    obtain ⟨rfl, rfl⟩ := hcut
    by_cases hfin : at_ < body.length ∨ 0 < qu.length
    ·have HFIN := Lh hfin
     rw [show (decide (at_ < body.length) || decide (0 < qu.length)) = true by rw [Bool.or_eq_true, decide_eq_true_iff, decide_eq_true_iff]; exact hfin]
     clear hfin
     go_upto_region 9 with (fail)
     obtain ⟨O, hO⟩ : ∃ O, wc.heap.size = O := ⟨_, rfl⟩
     obtain ⟨wP, hwP⟩ : ∃ wP, wc.alloc (.cells #[.int .i64 0, .int .i64 0, .int .i64 0, .int .i64 0, .slice none 0 0, .slice none 0 0] 36) = wP := ⟨_, rfl⟩
     have hpg0 : PG w wP O ob (.slice Aq qu.length cq) qu (.slice A9 pgs.length c9) pgs (.slice none 0 0) [] (.slice none 0 0) [] := by
      rw [← hO, ← hwP]
      exact HP.out.start ((Below.refl _ _).alloc (Nat.le_refl _) _) (heap_alloc_new wc _)
     rw [hwP, hO]
     have HG0 := Lh hpg0
     have HQB : Hid (qu.length ≤ 1048576) := Lh (by have := HF.out; omega)
     clear hpg0 hwP hO HP
     clear wc
     go_loopw [10] (fun v10 wx => ∃ (s : Nat) (ob1 : Option Nat) (nv : Value), s ≤ qu.length ∧ s ≤ hn - 1 ∧ Hid (PG w wx O ob1 v10 (qu.drop s) (.slice A9 pgs.length c9) pgs (.slice none 0 0) [] nv (qu.take s))) (fun v10 _ => vlen v10)
     case atStart => exact ⟨0, ob, _, Nat.zero_le _, Nat.zero_le _, HG0⟩
     case round =>
      clear HG0 wP
      obtain ⟨s, ob1, nv, hs1, hs2, HG⟩ := hrel
      obtain ⟨A1, c1, hqv, -, -⟩ := HG.out.q.len
      rw [List.length_map, List.length_drop] at hqv
      subst hqv
      obtain ⟨An, cn, hnv, -, -⟩ := HG.out.n.len
      rw [List.length_take, Nat.min_eq_left hs1] at hnv
      subst hnv
      have x5 := HG.out.o.cell 5 rfl
      have hsq : s ≤ 1048576 := by have := HQB.out; omega
      go_upto_region 9 with (fail)
      go_cut [41] from 31 to 41 (fun v41 wx => v41 = .bool (decide (s < qu.length) && decide (s < hn - 1)) ∧ wx = wr)
      case first =>
       by_cases h1 : s < qu.length
       ·have h2 : (0 : Int) < ((qu.length - s : Nat) : Int) := by omega
        have H1 := Lh h1
        by_cases h3 : s < hn - 1
        ·have h5 : (s : Int) < (hn : Int) - 1 := by omega
         have H3 := Lh h3
         clear h1 h3
         go_wp2_with fail
         go_meet
         exact ⟨by rw [decide_eq_true H1.out, decide_eq_true H3.out]; rfl, rfl⟩
        ·have h5 : ¬ (s : Int) < (hn : Int) - 1 := by omega
         have H3 := Lh h3
         clear h1 h3
         go_wp2_with fail
         go_meet
         exact ⟨by rw [decide_eq_true H1.out, decide_eq_false H3.out]; rfl, rfl⟩
       ·have h2 : ¬ (0 : Int) < ((qu.length - s : Nat) : Int) := by omega
        have H1 := Lh h1
        clear h1
        go_wp2_with fail
        go_meet
        exact ⟨by rw [decide_eq_false H1.out]; rfl, rfl⟩
      case rest =>
       obtain ⟨rfl, rfl⟩ := hcut
       obtain ⟨wr, rfl⟩ : ∃ wr : World, wr = wc := ⟨_, rfl⟩
       clear x5
       by_cases hgo : s < qu.length ∧ s < hn - 1
       ·obtain ⟨hgo1, hgo2⟩ := hgo
        rw [decide_eq_true hgo1, decide_eq_true hgo2]
        obtain ⟨A1', c1', e1', hsq1, -⟩ := HG.out.q.len
        obtain ⟨rfl, rfl⟩ : A1 = A1' ∧ c1 = c1' := by injection e1' with a b c; exact ⟨a, c⟩
        obtain ⟨b, o, Ag, cg, Am, cm, hA1, -, hbl1, e0, e1, e2, e3, hgS, hnS⟩ := line_at hsq1.unav (k := 0) (by rw [List.length_drop]; omega)
        subst hA1
        simp only [Nat.zero_mul, Nat.add_zero] at e0 e1 e2 e3
        obtain ⟨x, hx⟩ : ∃ x, (qu.drop s)[0]'(by rw [List.length_drop]; omega) = x := ⟨_, rfl⟩
        rw [hx] at e0 e1 e2 e3 hgS hnS
        have HXQ : Hid (qu[s]? = some x) := Lh (by rw [List.getElem_drop] at hx; rw [List.getElem?_eq_getElem hgo1]; simpa using congrArg some hx)
        have HSX : Hid (x.gaps.length ≤ 100000 ∧ x.notes.length ≤ 100000) := Lh (HS.out x (List.mem_of_getElem? HXQ.out))
        have HGS := Lh hgS
        have HNS := Lh hnS
        have HB1 : Hid (b < wr.heap.size) := Lh hbl1
        have HC1 : Hid (qu.length - s ≤ c1) := Lh (by have := hsq1.1; rwa [List.length_map, List.length_drop] at this)
        have hi0 : (0 : Int) < ((qu.length - s : Nat) : Int) := by omega
        clear hgS hnS hbl1 hx hsq1 e1'
        go_upto_region 10 with (fail)
        refine wp_region_rely [5, 6] (fun i => if i = 5 then SP.copy wr.heap.size x else if i = 6 then SP.rp wr.heap.size [x] else SP.any) 7 (by kernel_rfl) (by kernel_rfl) ?_
        intro T _ g hg hgm
        have q5 : ∀ d, (g d).cell? ⟨O, 5, none⟩ = some (.slice An s cn) := fun d => (HG.out.o.to (hg d)).cell 5 rfl
        have l0 : ∀ d, (g d).cell? ⟨b, o, none⟩ = some (.int .i64 x.fr) := fun d => ((hg d).cell (p := ⟨b, o, none⟩) HB1.out).trans e0
        have l1 : ∀ d, (g d).cell? ⟨b, o + 1, none⟩ = some (.int .i64 x.un) := fun d => ((hg d).cell (p := ⟨b, o + 1, none⟩) HB1.out).trans e1
        have l2 : ∀ d, (g d).cell? ⟨b, o + 2, none⟩ = some (.slice Ag x.gaps.length cg) := fun d => ((hg d).cell (p := ⟨b, o + 2, none⟩) HB1.out).trans e2
        have l3 : ∀ d, (g d).cell? ⟨b, o + 3, none⟩ = some (.slice Am x.notes.length cm) := fun d => ((hg d).cell (p := ⟨b, o + 3, none⟩) HB1.out).trans e3
        repeat (refine wpR_pure (by rfl) fun Kq hq => ?_; go_big_quiet_step (fail); refine wpQuiet_nil (hq _ ?_); clear hq Kq)
        refine wpR_busy (by rfl) (by rfl) (fun d hG K Q hK => ?_) (fun v d hG hp Kr hr => ?_)
        ·go_simp
         go_at_call 90
         refine (rcopy_any Ag Am cg cm x (g d) (HGS.out.to (hg d)) (HNS.out.to (hg d)) (by have := HSX.out; omega) (by have := HSX.out; omega)).mono ?_
         rintro e W1 ⟨A3, c3, A4, c4, rfl, ho3, ho4, hb1⟩
         go_simp
         exact hK _ _ hb1 (⟨A3, c3, A4, c4, rfl, ho3.re (hg d).size, ho4.re (hg d).size⟩)
        obtain ⟨A3, c3, A4, c4, rfl, -⟩ := (show ∃ A c A' c', v = .agg #[.int .i64 x.fr, .int .i64 x.un, .slice A x.gaps.length c, .slice A' x.notes.length c'] ∧ _ from hp)
        (try clear hp); clear hG
        simp only [Act.put, sA0, sZ0, sS0]
        refine hr _ ?_
        clear hr Kr
        repeat (refine wpR_pure (by rfl) fun Kq hq => ?_; go_big_quiet_step (fail); refine wpQuiet_nil (hq _ ?_); clear hq Kq)
        refine wpR_busy (by rfl) (by rfl) (fun d hG K Q hK => ?_) (fun v d hG hp Kr hr => ?_)
        ·obtain ⟨A3', c3', A4', c4', he, ho3, ho4⟩ := (show ∃ A c A' c', Value.agg #[.int .i64 x.fr, .int .i64 x.un, .slice A3 x.gaps.length c3, .slice A4 x.notes.length c4] = .agg #[.int .i64 x.fr, .int .i64 x.un, .slice A x.gaps.length c, .slice A' x.notes.length c'] ∧ Own (g d) wr.heap.size 3 (.slice A x.gaps.length c) x.gaps ∧ Own (g d) wr.heap.size 3 (.slice A' x.notes.length c') x.notes from hG 5 (by kernel_rfl))
         obtain ⟨rfl, rfl, rfl, rfl⟩ : A3 = A3' ∧ c3 = c3' ∧ A4 = A4' ∧ c4 = c4' := by
          have := congrArg (fun v : Value => match v with | .agg cs => cs.toList | _ => []) he
          simp at this
          exact ⟨this.1.1, this.1.2, this.2.1, this.2.2⟩
         have HR : Hid (Rep.R (g d) (Up wr.heap.size) [.int .i64 x.fr, .int .i64 x.un, .slice A3 x.gaps.length c3, .slice A4 x.notes.length c4] x) := Lh ⟨_, _, rfl, rep_ints ho3 rfl (fun b hb => hb), rep_ints ho4 rfl (fun b hb => hb)⟩
         clear ho3 ho4 he
         go_simp
         exact hK _ _ ((Below.refl _ _).alloc (Nat.le_refl _) _) (rp_lit (hg d).size HR.out)
        obtain ⟨⟨Az, cz, rfl⟩, -⟩ := (show (∃ A c, v = .slice A [x].length c) ∧ _ from hp)
        (try clear hp); clear hG
        simp only [Act.put, sA0, sZ0, sS0]
        refine hr _ ?_
        clear hr Kr
        refine wpR_tail 3 (by rfl) (by rfl) (fun d hG => ?_)
        have H6 : Hid (Rep.R (g d) (Up wr.heap.size) [.slice Az [x].length cz] [x]) := Lh (show (∃ A c, Value.slice Az [x].length cz = Value.slice A [x].length c) ∧ Rep.R (g d) (Up wr.heap.size) [.slice Az [x].length cz] [x] from hG 6).2
        have HGd := Lh (HG.out.to (hg d))
        have HLT := Lh HG.out.n.lt
        have HQL := Lh HG.out.q.lt
        have HOT := Lh HG.out.b.lt
        have HOL : Hid (O < wr.heap.size) := Lh HG.out.o.lt
        have HSZ : Hid (wr.heap.size ≤ (g d).heap.size) := Lh (hg d).size
        clear hG hg hgm q5 l0 l1 l2 l3 e0 e1 e2 e3
        generalize g d = w6 at *
        clear g
        have HSl : Hid (Sl w6 (Up wr.heap.size) Az cz ([x].map (Av.mk : LineP → Av LineP (PE O ob1 (Value.slice none 0 0).ownBlock)))) := Lh (by
         obtain ⟨A', c', e, hs, -⟩ := H6.out
         cases e
         exact hs.av (fun i hi _ => ⟨Nat.lt_of_lt_of_le HOL.out hi, fun e => by have := (HQL.out i e.symm).2; have : wr.heap.size ≤ i := hi; omega, fun e => by have := (HOT.out i e.symm).2; have : wr.heap.size ≤ i := hi; omega⟩))
        have HLM : Hid (((qu.take s).map (Av.mk : LineP → Av LineP (PE O ob1 (Value.slice none 0 0).ownBlock))).length = s) := Lh (by rw [List.length_map]; rw [List.length_take]; omega)
        refine wpAny_one (i := 7) (oi := _) rfl (by kernel_rfl) (by rfl) (fun K hK => ?_)
        refine wp_cat (α := Av LineP (PE O ob1 (Value.slice none 0 0).ownBlock)) _ (.tmp 43) (.tmp 48) 34 rfl (O + 1) 88 (.agg #[.int .i64 0, .int .i64 0, .slice none 0 0, .slice none 0 0]) 64 Tryz.underlying34 line_info rfl (show 0 < 4 by decide) (.slice An s cn) ((qu.take s).map Av.mk) rfl HGd.out.n.own Az cz 1 ([x].map Av.mk) rfl rfl (Up wr.heap.size) HSl.out (fun i (hi : wr.heap.size ≤ i) _ e => by have := (HLT.out i e.symm).2; omega) (by rw [HLM.out]; have := HQB.out; omega) (by rw [HLM.out]; have := HQB.out; omega) (by have := HOL.out; have := HSZ.out; omega) ?_
        intro v5 w5 hown5 hg5 hat5
        obtain ⟨A5, c5, e5, -⟩ := hown5.form
        rw [List.length_append, HLM.out] at e5
        simp only [List.length_map, List.length_cons, List.length_nil, Nat.zero_add] at e5
        subst e5
        obtain ⟨q5, f5, hpg5⟩ := HGd.out.note hown5 hg5 hat5
        have r5 := f5 5
        have HG5 := Lh hpg5
        refine hK _ _ ?_
        clear hK K hown5 hg5 hat5 hpg5 f5 HSl H6 HGd
        try simp only [Act.put, sA0]
        refine wpAny_one (i := 8) (oi := _) rfl (by kernel_rfl) (by rfl) (fun K hK => ?_)
        go_simp
        refine hK _ _ ?_
        clear hK K
        try simp only [Act.put, sA0, sZ0, sS0]
        refine wpAny_one (i := 9) (oi := _) rfl (by kernel_rfl) (by rfl) (fun K hK => ?_)
        go_simp
        refine hK _ _ ?_
        clear hK K
        try simp only [Act.put, sA0, sZ0, sS0]
        clear q5 r5
        refine wpAny_done (by kernel_rfl) ?_ _
        unfold Exit.then
        have HTS : Hid (qu.take (s + 1) = qu.take s ++ [x]) := Lh (by rw [List.take_add_one, HXQ.out]; rfl)
        have hcb := HC1.out
        have hcI : (1 : Int) ≤ (c1 : Int) := by omega
        have hlI : (1 : Int) ≤ ((qu.length - s : Nat) : Int) := by omega
        obtain ⟨ob3, hob3, hq3⟩ := HG5.out.q.cut (k := 1) (by rw [List.length_map, List.length_drop]; omega)
        rw [← List.map_drop, List.drop_drop] at hq3
        by_cases hc1 : c1 = 1
        ·rw [if_pos hc1, hc1] at hq3
         have HGC := Lh (HG5.out.cut hq3 hob3)
         clear hq3
         go_wp2_with fail
         go_roundw
         case rel => exact ⟨s + 1, ob3, _, by omega, by omega, Lh (by rw [HTS.out]; exact HGC.out)⟩
         case measure => (simp only [vlen]; omega)
        ·rw [if_neg hc1, show (some (⟨b, o, none⟩ : Addr)).map (·.add (1 * Rep.size (OldL w.heap.size))) = some ⟨b, o + 4, none⟩ from rfl] at hq3
         have HGC := Lh (HG5.out.cut hq3 hob3)
         clear hq3
         go_wp2_with fail
         go_roundw
         case rel => exact ⟨s + 1, ob3, _, by omega, by omega, Lh (by rw [HTS.out]; exact HGC.out)⟩
         case measure => (simp only [vlen]; omega)
       ·have hse : s = min qu.length (hn - 1) := by omega
        rw [show (decide (s < qu.length) && decide (s < hn - 1)) = false by rw [Bool.and_eq_false_iff, decide_eq_false_iff_not, decide_eq_false_iff_not]; omega]
        obtain ⟨bd, hbd⟩ : ∃ bd, body.drop at_ = bd := ⟨_, rfl⟩
        have hbdl : at_ + bd.length = body.length := by rw [← hbd, List.length_drop]; omega
        have HBD := Lh hbd
        rw [hbd] at HF HT
        have HBS : Hid (SmallL bd) := Lh (fun x hx => HSM.out x (by rw [← hbd] at hx; exact List.mem_of_mem_drop hx))
        have HBR : Hid (Refs bd notes) := Lh (fun x hx => HREF.out x (by rw [← hbd] at hx; exact List.mem_of_mem_drop hx))
        have HFI0 : Hid (fillP notes hn (bd.drop 0) 0 s qu = fillP notes hn bd 0 (min qu.length (hn - 1)) qu) := Lh (by rw [List.drop_zero, hse])
        have HF0 : Hid (allLines (bd.drop 0) notes + qu.length ≤ f) := Lh (by rw [List.drop_zero]; exact HF.out.1)
        have hf1 : f ≤ 1048576 := HF.out.2
        have HEX : Hid (∀ i (hi : i < bd.length) (hi2 : at_ + i < body.length), body[at_ + i] = bd[i]) := Lh (fun i hi hi2 => by simp only [← hbd, List.getElem_drop])
        clear hbd hse hgo
        obtain ⟨wq, rfl⟩ : ∃ wq : World, wq = wr := ⟨_, rfl⟩
        go_upto_region 12 with (fail)
        go_loopw [10, 11] (fun v10 v11 wx => ∃ (ln sh : Nat) (ob1 : Option Nat) (bv nv : Value) (qu1 : List LineP), v11 = .int .i64 ((at_ + ln : Nat) : Int) ∧ ln ≤ bd.length ∧ sh ≤ qu1.length ∧ Hid (PG w wx O ob1 v10 (qu1.drop sh) (.slice A9 pgs.length c9) pgs bv (bd.take ln) nv (qu1.take sh)) ∧ Hid (fillP notes hn (bd.drop ln) ln sh qu1 = fillP notes hn bd 0 (min qu.length (hn - 1)) qu) ∧ Hid (allLines (bd.drop ln) notes + qu1.length ≤ f) ∧ Hid (SmallL qu1)) (fun _ v11 _ => body.length - (intOf v11).toNat)
        case atStart => exact ⟨0, s, ob1, _, _, qu, by rw [Nat.add_zero], Nat.zero_le _, hs1, HG, HFI0, HF0, HS⟩
        case round =>
         clear HG HFI0 HF0 HS
         clear wq
         obtain ⟨ln, sh, ob1, bv, nv, qu1, rfl, hln1, hsh, HG, HFI, HF1, HS⟩ := hrel
         obtain ⟨A1, c1, hqv, -, -⟩ := HG.out.q.len
         rw [List.length_map, List.length_drop] at hqv
         subst hqv
         obtain ⟨An, cn, hnv, -, -⟩ := HG.out.n.len
         rw [List.length_take, Nat.min_eq_left hsh] at hnv
         subst hnv
         obtain ⟨Ab, cb, hbv, -, -⟩ := HG.out.b.len
         rw [List.length_take, Nat.min_eq_left hln1] at hbv
         subst hbv
         have hq1f : qu1.length ≤ 1048576 := by have := HF1.out; omega
         have hln2 : ln ≤ 1048576 := by omega
         have hsh2 : sh ≤ 1048576 := by omega
         have HQB1 : Hid (qu1.length ≤ 1048576) := Lh hq1f
         go_upto_region 12 with (fail)
         go_cut [67] from 53 to 67 (fun v67 wx => v67 = .bool (fitsAt hn ln sh qu1.length bd) ∧ Hid (Below wr.heap.size wr wx))
         case first =>
          by_cases hl : ln < bd.length
          ·have hlI : ((at_ + ln : Nat) : Int) < (body.length : Int) := by omega
           have hlI2 : (at_ : Int) + (ln : Int) < (body.length : Int) := by omega
           obtain ⟨b, o, Ag, cg, Am, cm, rfl, -, hbl1, e0, e1, e2, e3, hgS, hnS⟩ := line_at (HA.out.to HG.out.bw) (k := at_ + ln) (by omega)
           have hsx := HBS.out _ (List.getElem_mem hl)
           rw [HEX.out ln hl (by omega)] at e0 e1 e2 e3 hgS hnS
           have HFA : Hid (fitsAt hn ln sh qu1.length bd = fitsR hn ln sh (qu1.length - sh) bd[ln]) := Lh (by
            unfold fitsAt fitsR
            rw [List.getElem?_eq_getElem hl, show sh + (qu1.length - sh) = qu1.length by omega])
           obtain ⟨x, hx⟩ : ∃ x, bd[ln] = x := ⟨_, rfl⟩
           rw [hx] at e0 e1 e2 e3 hgS hnS HFA hsx
           have HSX := Lh hsx
           have HB1 : Hid (b < wr.heap.size) := Lh hbl1
           clear hx hgS hnS hbl1 hl hsx
           refine wp_region_rely [13] (fun i => if i = 13 then SP.val (.bool (fitsR hn ln sh (qu1.length - sh) x)) else SP.any) 15 (by kernel_rfl) (by kernel_rfl) ?_
           intro T _ g hg hgm
           have x0 : ∀ d, (g d).cell? ⟨O, 0, none⟩ = some (.int .i64 0) := fun d => (HG.out.o.to (hg d)).cell 0 rfl
           have x1 : ∀ d, (g d).cell? ⟨O, 1, none⟩ = some (.int .i64 0) := fun d => (HG.out.o.to (hg d)).cell 1 rfl
           have x2 : ∀ d, (g d).cell? ⟨O, 2, none⟩ = some (.int .i64 0) := fun d => (HG.out.o.to (hg d)).cell 2 rfl
           have x3 : ∀ d, (g d).cell? ⟨O, 3, none⟩ = some (.int .i64 0) := fun d => (HG.out.o.to (hg d)).cell 3 rfl
           have x4 : ∀ d, (g d).cell? ⟨O, 4, none⟩ = some (.slice Ab ln cb) := fun d => (HG.out.o.to (hg d)).cell 4 rfl
           have x5 : ∀ d, (g d).cell? ⟨O, 5, none⟩ = some (.slice An sh cn) := fun d => (HG.out.o.to (hg d)).cell 5 rfl
           have l0 : ∀ d, (g d).cell? ⟨b, o + (at_ + ln) * 4, none⟩ = some (.int .i64 x.fr) := fun d => ((hg d).cell (p := ⟨b, o + (at_ + ln) * 4, none⟩) HB1.out).trans e0
           have l1 : ∀ d, (g d).cell? ⟨b, o + (at_ + ln) * 4 + 1, none⟩ = some (.int .i64 x.un) := fun d => ((hg d).cell (p := ⟨b, o + (at_ + ln) * 4 + 1, none⟩) HB1.out).trans e1
           have l2 : ∀ d, (g d).cell? ⟨b, o + (at_ + ln) * 4 + 2, none⟩ = some (.slice Ag x.gaps.length cg) := fun d => ((hg d).cell (p := ⟨b, o + (at_ + ln) * 4 + 2, none⟩) HB1.out).trans e2
           have l3 : ∀ d, (g d).cell? ⟨b, o + (at_ + ln) * 4 + 3, none⟩ = some (.slice Am x.notes.length cm) := fun d => ((hg d).cell (p := ⟨b, o + (at_ + ln) * 4 + 3, none⟩) HB1.out).trans e3
           repeat (refine wpR_pure (by rfl) fun Kq hq => ?_; go_big_quiet_step (fail); refine wpQuiet_nil (hq _ ?_); clear hq Kq)
           refine wpR_busy (by rfl) (by rfl) (fun d hG K Q hK => ?_) (fun v d hG hp Kr hr => ?_)
           ·go_simp
            go_at_call 91
            refine (rfits_any Ab An Ag Am cb cn cg cm ln sh (qu1.length - sh) hn x (g d) hln2 hsh2 (by omega) h100 (by have := HSX.out.2; omega)).mono ?_
            rintro e W1 ⟨rfl, hb1⟩
            go_simp
            exact hK _ _ hb1 (rfl)
           have hp : v = .bool (fitsR hn ln sh (qu1.length - sh) x) := hp
           subst hp
           (try clear hp); clear hG
           simp only [Act.put, sA0, sZ0, sS0]
           refine hr _ ?_
           clear hr Kr
           repeat (refine wpR_pure (by rfl) fun Kq hq => ?_; go_big_quiet_step (fail); refine wpQuiet_nil (hq _ ?_); clear hq Kq)
           refine wpR_end (by kernel_rfl) (fun d hG => ?_) _
           clear x0 x1 x2 x3 x4 x5 l0 l1 l2 l3
           have HBd := Lh (hg d)
           clear hG hg hgm
           unfold Exit.then
           generalize g d = w6 at *
           clear g
           go_wp2_with fail
           go_meet
           exact ⟨by rw [HFA.out], HBd⟩
          ·have hlI : ¬ ((at_ + ln : Nat) : Int) < (body.length : Int) := by omega
           have hlI2 : ¬ (at_ : Int) + (ln : Int) < (body.length : Int) := by omega
           have HFA : Hid (fitsAt hn ln sh qu1.length bd = false) := Lh (by
            unfold fitsAt
            rw [List.getElem?_eq_none (by omega)])
           clear hl
           refine wp_region_rely [13] (fun i => if i = 13 then SP.any else SP.any) 15 (by kernel_rfl) (by kernel_rfl) ?_
           intro T _ g hg hgm
           repeat (refine wpR_pure (by rfl) fun Kq hq => ?_; go_big_quiet_step (fail); refine wpQuiet_nil (hq _ ?_); clear hq Kq)
           refine wpR_pass (by rfl) (by rfl) ?_
           simp only [Act.put, sA0, sZ0, sS0]
           repeat (refine wpR_pure (by rfl) fun Kq hq => ?_; go_big_quiet_step (fail); refine wpQuiet_nil (hq _ ?_); clear hq Kq)
           refine wpR_end (by kernel_rfl) (fun d hG => ?_) _
           skip
           have HBd := Lh (hg d)
           clear hG hg hgm
           unfold Exit.then
           generalize g d = w6 at *
           clear g
           go_wp2_with fail
           go_meet
           exact ⟨by rw [HFA.out], HBd⟩
         case rest =>
          obtain ⟨rfl, HBw⟩ := hcut
          have HGw := Lh (HG.out.to HBw.out)
          clear HG HBw
          clear wr
          obtain ⟨wr, rfl⟩ : ∃ wr : World, wr = wc := ⟨_, rfl⟩
          by_cases hfit : fitsAt hn ln sh qu1.length bd = true
          ·rw [hfit]
           obtain ⟨hl, hf⟩ := fits_get hfit
           have hlI : ((at_ + ln : Nat) : Int) < (body.length : Int) := by omega
           have hlI2 : (at_ : Int) + (ln : Int) < (body.length : Int) := by omega
           obtain ⟨b, o, Ag, cg, Am, cm, rfl, -, hbl1, e0, e1, e2, e3, hgS, hnS⟩ := line_at HA.out (k := at_ + ln) (by omega)
           have hsx := HBS.out _ (List.getElem_mem hl)
           have hrx := HBR.out _ (List.getElem_mem hl)
           have hgo := fillP_go (notes := notes) hl hf
           have hal : allLines (bd.drop ln) notes = 1 + (noteLines notes bd[ln]).length + allLines (bd.drop (ln + 1)) notes := by
            rw [List.drop_eq_getElem_cons hl]
            unfold allLines
            rw [List.map_cons, List.sum_cons]
           have htk : bd.take (ln + 1) = bd.take ln ++ [bd[ln]] := List.take_succ_eq_append_getElem hl
           have hex := HEX.out ln hl (by omega)
           rw [hex] at e0 e1 e2 e3 hgS hnS
           obtain ⟨x, hx⟩ : ∃ x, bd[ln] = x := ⟨_, rfl⟩
           rw [hx] at e0 e1 e2 e3 hgS hnS hsx hrx hgo hal htk
           have HSX := Lh hsx
           have HRX := Lh hrx
           have HGO := Lh hgo
           have HAL := Lh hal
           have HTK := Lh htk
           have HBW : Hid (b < w.heap.size) := Lh hbl1
           have HNSw := Lh hnS
           have HGS : Hid (Sl wr (fun b => b < wr.heap.size) Ag cg x.gaps) := Lh (hgS.to HGw.out.bw)
           have HNS : Hid (Sl wr (fun b => b < wr.heap.size) Am cm x.notes) := Lh (hnS.to HGw.out.bw)
           have HW0 : Hid (∀ W, Below w.heap.size w W → W.cell? ⟨b, o + (at_ + ln) * 4, none⟩ = some (.int .i64 x.fr)) := Lh (fun W hW => (hW.cell (p := ⟨b, o + (at_ + ln) * 4, none⟩) HBW.out).trans e0)
           have HW1 : Hid (∀ W, Below w.heap.size w W → W.cell? ⟨b, o + (at_ + ln) * 4 + 1, none⟩ = some (.int .i64 x.un)) := Lh (fun W hW => (hW.cell (p := ⟨b, o + (at_ + ln) * 4 + 1, none⟩) HBW.out).trans e1)
           have HW2 : Hid (∀ W, Below w.heap.size w W → W.cell? ⟨b, o + (at_ + ln) * 4 + 2, none⟩ = some (.slice Ag x.gaps.length cg)) := Lh (fun W hW => (hW.cell (p := ⟨b, o + (at_ + ln) * 4 + 2, none⟩) HBW.out).trans e2)
           have HW3 : Hid (∀ W, Below w.heap.size w W → W.cell? ⟨b, o + (at_ + ln) * 4 + 3, none⟩ = some (.slice Am x.notes.length cm)) := Lh (fun W hW => (hW.cell (p := ⟨b, o + (at_ + ln) * 4 + 3, none⟩) HBW.out).trans e3)
           have HLN : Hid (ln < bd.length) := Lh hl
           have HNL : Hid (qu1.length + (noteLines notes x).length ≤ 1048576) := Lh (by have := HF1.out; have := HAL.out; omega)
           have HBX : Hid (Below w.heap.size w wr) := Lh HGw.out.bw
           have hnx : x.notes.length ≤ 1048576 := by have := HSX.out.2; omega
           have hncm : x.notes.length ≤ cm := hnS.1
           have hlnB : ln ≤ 1048576 := hln2
           have HLB : Hid (ln ≤ 1048576) := Lh hln2
           clear hf hgo hal htk hex hx hsx hrx hgS hnS e0 e1 e2 e3 hbl1 hl hfit
           go_upto_region 13 with (fail)
           refine wp_region_rely [6, 7] (fun i => if i = 6 then SP.copy wr.heap.size x else if i = 7 then SP.rp wr.heap.size [x] else SP.any) 8 (by kernel_rfl) (by kernel_rfl) ?_
           intro T _ g hg hgm
           have q5 : ∀ d, (g d).cell? ⟨O, 4, none⟩ = some (.slice Ab ln cb) := fun d => (HGw.out.o.to (hg d)).cell 4 rfl
           have l0 : ∀ d, (g d).cell? ⟨b, o + (at_ + ln) * 4, none⟩ = some (.int .i64 x.fr) := fun d => HW0.out _ (HBX.out.trans ((hg d).mono HBX.out.size))
           have l1 : ∀ d, (g d).cell? ⟨b, o + (at_ + ln) * 4 + 1, none⟩ = some (.int .i64 x.un) := fun d => HW1.out _ (HBX.out.trans ((hg d).mono HBX.out.size))
           have l2 : ∀ d, (g d).cell? ⟨b, o + (at_ + ln) * 4 + 2, none⟩ = some (.slice Ag x.gaps.length cg) := fun d => HW2.out _ (HBX.out.trans ((hg d).mono HBX.out.size))
           have l3 : ∀ d, (g d).cell? ⟨b, o + (at_ + ln) * 4 + 3, none⟩ = some (.slice Am x.notes.length cm) := fun d => HW3.out _ (HBX.out.trans ((hg d).mono HBX.out.size))
           repeat (refine wpR_pure (by rfl) fun Kq hq => ?_; go_big_quiet_step (fail); refine wpQuiet_nil (hq _ ?_); clear hq Kq)
           refine wpR_busy (by rfl) (by rfl) (fun d hG K Q hK => ?_) (fun v d hG hp Kr hr => ?_)
           ·go_simp
            go_at_call 90
            refine (rcopy_any Ag Am cg cm x (g d) (HGS.out.to (hg d)) (HNS.out.to (hg d)) (by have := HSX.out; omega) (by have := HSX.out; omega)).mono ?_
            rintro e W1 ⟨A3, c3, A4, c4, rfl, ho3, ho4, hb1⟩
            go_simp
            exact hK _ _ hb1 (⟨A3, c3, A4, c4, rfl, ho3.re (hg d).size, ho4.re (hg d).size⟩)
           obtain ⟨A3, c3, A4, c4, rfl, -⟩ := (show ∃ A c A' c', v = .agg #[.int .i64 x.fr, .int .i64 x.un, .slice A x.gaps.length c, .slice A' x.notes.length c'] ∧ _ from hp)
           (try clear hp); clear hG
           simp only [Act.put, sA0, sZ0, sS0]
           refine hr _ ?_
           clear hr Kr
           repeat (refine wpR_pure (by rfl) fun Kq hq => ?_; go_big_quiet_step (fail); refine wpQuiet_nil (hq _ ?_); clear hq Kq)
           refine wpR_busy (by rfl) (by rfl) (fun d hG K Q hK => ?_) (fun v d hG hp Kr hr => ?_)
           ·obtain ⟨A3', c3', A4', c4', he, ho3, ho4⟩ := (show ∃ A c A' c', Value.agg #[.int .i64 x.fr, .int .i64 x.un, .slice A3 x.gaps.length c3, .slice A4 x.notes.length c4] = .agg #[.int .i64 x.fr, .int .i64 x.un, .slice A x.gaps.length c, .slice A' x.notes.length c'] ∧ Own (g d) wr.heap.size 3 (.slice A x.gaps.length c) x.gaps ∧ Own (g d) wr.heap.size 3 (.slice A' x.notes.length c') x.notes from hG 6 (by kernel_rfl))
            obtain ⟨rfl, rfl, rfl, rfl⟩ : A3 = A3' ∧ c3 = c3' ∧ A4 = A4' ∧ c4 = c4' := by
             have := congrArg (fun v : Value => match v with | .agg cs => cs.toList | _ => []) he
             simp at this
             exact ⟨this.1.1, this.1.2, this.2.1, this.2.2⟩
            have HR : Hid (Rep.R (g d) (Up wr.heap.size) [.int .i64 x.fr, .int .i64 x.un, .slice A3 x.gaps.length c3, .slice A4 x.notes.length c4] x) := Lh ⟨_, _, rfl, rep_ints ho3 rfl (fun b hb => hb), rep_ints ho4 rfl (fun b hb => hb)⟩
            clear ho3 ho4 he
            go_simp
            exact hK _ _ ((Below.refl _ _).alloc (Nat.le_refl _) _) (rp_lit (hg d).size HR.out)
           obtain ⟨⟨Az, cz, rfl⟩, -⟩ := (show (∃ A c, v = .slice A [x].length c) ∧ _ from hp)
           (try clear hp); clear hG
           simp only [Act.put, sA0, sZ0, sS0]
           refine hr _ ?_
           clear hr Kr
           refine wpR_tail 3 (by rfl) (by rfl) (fun d hG => ?_)
           have H6 : Hid (Rep.R (g d) (Up wr.heap.size) [.slice Az [x].length cz] [x]) := Lh (show (∃ A c, Value.slice Az [x].length cz = Value.slice A [x].length c) ∧ Rep.R (g d) (Up wr.heap.size) [.slice Az [x].length cz] [x] from hG 7).2
           have HGd := Lh (HGw.out.to (hg d))
           have HLT := Lh HGw.out.b.lt
           have HQL := Lh HGw.out.q.lt
           have HOT := Lh HGw.out.n.lt
           have HOL : Hid (O < wr.heap.size) := Lh HGw.out.o.lt
           have HSZ : Hid (wr.heap.size ≤ (g d).heap.size) := Lh (hg d).size
           clear hG hg hgm q5 l0 l1 l2 l3
           generalize g d = w6 at *
           clear g
           have HSl : Hid (Sl w6 (Up wr.heap.size) Az cz ([x].map (Av.mk : LineP → Av LineP (PE O ob1 (Value.slice An sh cn).ownBlock)))) := Lh (by
            obtain ⟨A', c', e, hs, -⟩ := H6.out
            cases e
            exact hs.av (fun i hi _ => ⟨Nat.lt_of_lt_of_le HOL.out hi, fun e => by have := (HQL.out i e.symm).2; have : wr.heap.size ≤ i := hi; omega, fun e => by have := (HOT.out i e.symm).2; have : wr.heap.size ≤ i := hi; omega⟩))
           have HLM : Hid (((bd.take ln).map (Av.mk : LineP → Av LineP (PE O ob1 (Value.slice An sh cn).ownBlock))).length = ln) := Lh (by rw [List.length_map]; rw [List.length_take]; omega)
           refine wpAny_one (i := 8) (oi := _) rfl (by kernel_rfl) (by rfl) (fun K hK => ?_)
           refine wp_cat (α := Av LineP (PE O ob1 (Value.slice An sh cn).ownBlock)) _ (.tmp 69) (.tmp 75) 34 rfl (O + 1) 88 (.agg #[.int .i64 0, .int .i64 0, .slice none 0 0, .slice none 0 0]) 64 Tryz.underlying34 line_info rfl (show 0 < 4 by decide) (.slice Ab ln cb) ((bd.take ln).map Av.mk) rfl HGd.out.b.own Az cz 1 ([x].map Av.mk) rfl rfl (Up wr.heap.size) HSl.out (fun i (hi : wr.heap.size ≤ i) _ e => by have := (HLT.out i e.symm).2; omega) (by rw [HLM.out]; have := HLB.out; omega) (by rw [HLM.out]; have := HLB.out; omega) (by have := HOL.out; have := HSZ.out; omega) ?_
           intro v5 w5 hown5 hg5 hat5
           obtain ⟨A5, c5, e5, -⟩ := hown5.form
           rw [List.length_append, HLM.out] at e5
           simp only [List.length_map, List.length_cons, List.length_nil, Nat.zero_add] at e5
           subst e5
           obtain ⟨q5, f5, hpg5⟩ := HGd.out.body hown5 hg5 hat5
           have r5 := f5 4
           have HG5 := Lh hpg5
           refine hK _ _ ?_
           clear hK K hown5 hg5 hat5 hpg5 f5 HSl H6 HGd
           try simp only [Act.put, sA0]
           refine wpAny_one (i := 9) (oi := _) rfl (by kernel_rfl) (by rfl) (fun K hK => ?_)
           go_simp
           refine hK _ _ ?_
           clear hK K
           try simp only [Act.put, sA0, sZ0, sS0]
           refine wpAny_one (i := 10) (oi := _) rfl (by kernel_rfl) (by rfl) (fun K hK => ?_)
           go_simp
           refine hK _ _ ?_
           clear hK K
           try simp only [Act.put, sA0, sZ0, sS0]
           clear q5 r5
           refine wpAny_done (by kernel_rfl) ?_ _
           unfold Exit.then
           rw [← HTK.out] at HG5
           generalize w5.setCell _ _ = wB at *
           clear w6 HGS HNS HGw HSZ HLT HQL HOT HOL HBX
           clear wr
           go_upto_region 15 with (fail)
           go_loopw [10, 13] (fun v10 v13 wx => ∃ (j : Nat) (ob2 : Option Nat), v13 = .int .i64 (j : Int) ∧ j ≤ x.notes.length ∧ Hid (PG w wx O ob2 v10 (qu1.drop sh ++ noteTo notes x j) (.slice A9 pgs.length c9) pgs (.slice A5 (ln + 1) c5) (bd.take (ln + 1)) (.slice An sh cn) (qu1.take sh))) (fun _ v13 _ => x.notes.length - (intOf v13).toNat)
           case atStart => exact ⟨0, ob1, rfl, Nat.zero_le _, Lh (by rw [show noteTo notes x 0 = [] from rfl, List.append_nil]; exact HG5.out)⟩
           case round =>
            clear HG5 wB
            obtain ⟨j, ob2, rfl, hj, HG6⟩ := hrel
            have m3 := HW3.out _ HG6.out.bw
            by_cases hjl : j < x.notes.length
            ·have hjI : (j : Int) < (x.notes.length : Int) := by omega
             obtain ⟨b1, o1, hA1, hb1, -, -, ce⟩ := int_at HNSw.out hjl
             subst hA1
             have hq := HRX.out _ (List.getElem_mem hjl)
             obtain ⟨kn, hkn⟩ : ∃ kn : Nat, x.notes[j] = (kn : Int) := ⟨(x.notes[j]).toNat, by omega⟩
             have hns := noteTo_step hjl (notes := notes) (by omega)
             rw [hkn] at ce hq
             have hkl : kn < notes.length := by omega
             obtain ⟨b2, o2, Ap, cp, rfl, hb2, -, ce2, hyS⟩ := lrows_at HBn.out hkl
             have hnq : noteTo notes x (j + 1) = noteTo notes x j ++ notes[kn] := by
              rw [hns]; congr 1; simp only [hkn, Int.toNat_natCast]
             obtain ⟨y, hy⟩ : ∃ y, notes[kn] = y := ⟨_, rfl⟩
             rw [hy] at ce2 hyS hnq
             have HNQ := Lh hnq
             have HYL : Hid ((qu1.drop sh ++ noteTo notes x j).length + y.length ≤ 1048576) := Lh (by
              have h1 := noteTo_le notes x (j + 1)
              have h2 := HNL.out
              rw [HNQ.out, List.length_append] at h1
              rw [List.length_append, List.length_drop]
              omega)
             have HY : Hid (Sl wr (fun b => b < w.heap.size) Ap cp y) := Lh (hyS.old (Kept.below HG6.out.bw (fun _ h => h)) HG6.out.bw.size)
             have c1 := (HG6.out.bw.cell (p := ⟨b1, o1 + j, none⟩) hb1).trans ce
             have c2 := (HG6.out.bw.cell (p := ⟨b2, o2 + kn, none⟩) hb2).trans ce2
             have hknI : (kn : Int) < (notes.length : Int) := by omega
             have HWS : Hid (w.heap.size ≤ wr.heap.size) := Lh HG6.out.bw.size
             have HQ6 := Lh HG6.out.q
             clear hns hnq hkn hq hy hyS ce ce2 hb1 hb2
             go_wp2_with (first
              |(at_builtin; refine wpList_que (α := OldL w.heap.size) rfl (.tmp 88) (.tmp 99) 34 rfl w.heap.size 88 (.agg #[.int .i64 0, .int .i64 0, .slice none 0 0, .slice none 0 0]) 64 Tryz.underlying34 line_info rfl (show 0 < 4 by decide) ob2 _ ((qu1.drop sh ++ noteTo notes x j).map Av.mk) rfl HQ6.out Ap cp y.length (y.map Av.mk) rfl (by rw [List.length_map]) (fun b => b < w.heap.size) (HY.out.av (fun i h _ => h)) (fun i hi _ e => by have := (HQ6.out.lt i e.symm).1; omega) (fun i hi => Nat.lt_of_lt_of_le hi HWS.out) (by rw [List.length_map]; have := HYL.out; omega) (by rw [List.length_map]; have := HYL.out; omega) HWS.out ?_; intro v' w' ob' hq' hg' hob'; have HG7 := Lh (HG6.out.que (queue' := qu1.drop sh ++ noteTo notes x (j + 1)) hg' (by rw [HNQ.out, ← List.append_assoc, List.map_append]; exact hq') hob'); clear hq' hg' hob')
              | fail)
             go_roundw
             case rel => exact ⟨j + 1, ob', by go_num, by omega, HG7⟩
             case measure => (first | (simp [intOf]; done) | (simp [intOf]; omega))
            ·obtain rfl : j = x.notes.length := by omega
             have hjI : ¬ (x.notes.length : Int) < (x.notes.length : Int) := by omega
             obtain ⟨qu2, hq2⟩ : ∃ qu2, qu1 ++ noteLines notes x = qu2 := ⟨_, rfl⟩
             have HG7 : Hid (PG w wr O ob2 u10 (qu2.drop sh) (.slice A9 pgs.length c9) pgs (.slice A5 (ln + 1) c5) (bd.take (ln + 1)) (.slice An sh cn) (qu2.take sh)) := Lh (by
              rw [← hq2, List.drop_append_of_le_length hsh, List.take_append_of_le_length hsh, ← noteTo_all]
              exact HG6.out)
             have HQ2 := Lh hq2
             have hqq : qu2.length ≤ 1048576 := by rw [← hq2, List.length_append]; exact HNL.out
             have HQB2 : Hid (qu2.length ≤ 1048576) := Lh hqq
             have hsh3 : sh ≤ qu2.length := by rw [← hq2, List.length_append]; omega
             have HS3 : Hid (SmallL qu2) := Lh (fun y hy => by
              rw [← hq2, List.mem_append] at hy
              exact hy.elim (HS.out y) (notes_small HSN.out x y))
             have HF3 : Hid (allLines (bd.drop (ln + 1)) notes + qu2.length ≤ f) := Lh (by have h1 := HF1.out; have h2 := HAL.out; rw [← hq2, List.length_append]; omega)
             have HFI2 : Hid (fillP notes hn (bd.drop (ln + 1)) (ln + 1) (shownP hn ln sh qu2.length) qu2 = fillP notes hn bd 0 (min qu.length (hn - 1)) qu) := Lh (by rw [← HFI.out, HGO.out, hq2])
             clear hq2 HG6
             obtain ⟨wq, rfl⟩ : ∃ wq : World, wq = wr := ⟨_, rfl⟩
             go_upto_region 18 with (fail)
             go_loopw [10] (fun v10 wx => ∃ (s : Nat) (ob3 : Option Nat) (nv : Value), sh ≤ s ∧ s ≤ qu2.length ∧ (s = sh ∨ ln + 1 + s + 1 ≤ hn) ∧ Hid (PG w wx O ob3 v10 (qu2.drop s) (.slice A9 pgs.length c9) pgs (.slice A5 (ln + 1) c5) (bd.take (ln + 1)) nv (qu2.take s))) (fun v10 _ => vlen v10)
             case atStart => exact ⟨sh, ob2, _, Nat.le_refl _, hsh3, .inl rfl, HG7⟩
             case round =>
              clear HG7 m3
              clear wq
              obtain ⟨s, ob3, nv, hs3, hs4, hs5, HG⟩ := hrel
              obtain ⟨A1, c1, hqv, -, -⟩ := HG.out.q.len
              rw [List.length_map, List.length_drop] at hqv
              subst hqv
              obtain ⟨An, cn, hnv, -, -⟩ := HG.out.n.len
              rw [List.length_take, Nat.min_eq_left hs4] at hnv
              subst hnv
              have hs6 : s ≤ 1048576 := by have := HQB2.out; omega
              have hln5 : ln + 1 ≤ 1048576 := by have := HLN.out; omega
              go_upto_region 18 with (fail)
              go_cut [115] from 101 to 115 (fun v115 wx => v115 = .bool (decide (s < qu2.length) && decide (ln + 1 + s + 2 ≤ hn)) ∧ Hid (Below wr.heap.size wr wx))
              case first =>
               by_cases h1 : s < qu2.length
               ·have h2 : (0 : Int) < ((qu2.length - s : Nat) : Int) := by omega
                have H1 := Lh h1
                have hu : usedN (ln + 1) s ≤ 2097153 := by unfold usedN; omega
                have h1b : 0 < qu2.length - s := by omega
                refine wp_region_rely [5] (fun i => if i = 5 then SP.val (.int .i64 (usedN (ln + 1) s : Nat)) else SP.any) 15 (by kernel_rfl) (by kernel_rfl) ?_
                intro T _ g hg hgm
                have x0 : ∀ d, (g d).cell? ⟨O, 0, none⟩ = some (.int .i64 0) := fun d => (HG.out.o.to (hg d)).cell 0 rfl
                have x1 : ∀ d, (g d).cell? ⟨O, 1, none⟩ = some (.int .i64 0) := fun d => (HG.out.o.to (hg d)).cell 1 rfl
                have x2 : ∀ d, (g d).cell? ⟨O, 2, none⟩ = some (.int .i64 0) := fun d => (HG.out.o.to (hg d)).cell 2 rfl
                have x3 : ∀ d, (g d).cell? ⟨O, 3, none⟩ = some (.int .i64 0) := fun d => (HG.out.o.to (hg d)).cell 3 rfl
                have x4 : ∀ d, (g d).cell? ⟨O, 4, none⟩ = some (.slice A5 (ln + 1) c5) := fun d => (HG.out.o.to (hg d)).cell 4 rfl
                have x5 : ∀ d, (g d).cell? ⟨O, 5, none⟩ = some (.slice An s cn) := fun d => (HG.out.o.to (hg d)).cell 5 rfl
                repeat (refine wpR_pure (by rfl) fun Kq hq => ?_; go_big_quiet_step (fail); refine wpQuiet_nil (hq _ ?_); clear hq Kq)
                refine wpR_busy (by rfl) (by rfl) (fun d hG K Q hK => ?_) (fun v d hG hp Kr hr => ?_)
                ·go_simp
                 go_at_call 92
                 refine (rused_any A5 An c5 cn (ln + 1) s (g d) hln5 hs6).mono ?_
                 rintro e W1 ⟨rfl, hb1⟩
                 go_simp
                 exact hK _ _ hb1 (rfl)
                have hp : v = .int .i64 (usedN (ln + 1) s : Nat) := hp
                subst hp
                (try clear hp); clear hG
                simp only [Act.put, sA0, sZ0, sS0]
                refine hr _ ?_
                clear hr Kr
                repeat (refine wpR_pure (by rfl) fun Kq hq => ?_; go_big_quiet_step (fail); refine wpQuiet_nil (hq _ ?_); clear hq Kq)
                refine wpR_end (by kernel_rfl) (fun d hG => ?_) _
                clear x0 x1 x2 x3 x4 x5
                have HBd := Lh (hg d)
                clear hG hg hgm
                unfold Exit.then
                generalize g d = w6 at *
                clear g
                go_wp2_with fail
                go_meet
                exact ⟨congrArg Value.bool (show decide ((usedN (ln + 1) s : Int) + 2 - min (s : Int) 1 ≤ (hn : Int)) = (decide (s < qu2.length) && decide (ln + 1 + s + 2 ≤ hn)) by
                 rw [decide_eq_true H1.out, Bool.true_and, Bool.eq_iff_iff, decide_eq_true_iff, decide_eq_true_iff]
                 unfold usedN
                 omega), HBd⟩
               ·have h2 : ¬ (0 : Int) < ((qu2.length - s : Nat) : Int) := by omega
                have H1 := Lh h1
                have h1b : ¬ 0 < qu2.length - s := by omega
                refine wp_region_rely [5] (fun i => if i = 5 then SP.any else SP.any) 15 (by kernel_rfl) (by kernel_rfl) ?_
                intro T _ g hg hgm
                have x5 : ∀ d, (g d).cell? ⟨O, 5, none⟩ = some (.slice An s cn) := fun d => (HG.out.o.to (hg d)).cell 5 rfl
                repeat (refine wpR_pure (by rfl) fun Kq hq => ?_; go_big_quiet_step (fail); refine wpQuiet_nil (hq _ ?_); clear hq Kq)
                refine wpR_pass (by rfl) (by rfl) ?_
                simp only [Act.put, sA0, sZ0, sS0]
                repeat (refine wpR_pure (by rfl) fun Kq hq => ?_; go_big_quiet_step (fail); refine wpQuiet_nil (hq _ ?_); clear hq Kq)
                refine wpR_end (by kernel_rfl) (fun d hG => ?_) _
                clear x5
                have HBd := Lh (hg d)
                clear hG hg hgm
                unfold Exit.then
                generalize g d = w6 at *
                clear g
                go_wp2_with fail
                go_meet
                exact ⟨by rw [decide_eq_false H1.out]; rfl, HBd⟩
              case rest =>
               obtain ⟨rfl, HBw⟩ := hcut
               have HGw := Lh (HG.out.to HBw.out)
               clear HG HBw
               clear wr
               obtain ⟨wr, rfl⟩ : ∃ wr : World, wr = wc := ⟨_, rfl⟩
               by_cases hgo : s < qu2.length ∧ ln + 1 + s + 2 ≤ hn
               ·obtain ⟨hgo1, hgo2⟩ := hgo
                rw [decide_eq_true hgo1, decide_eq_true hgo2]
                obtain ⟨A1', c1', e1', hsq1, -⟩ := HGw.out.q.len
                obtain ⟨rfl, rfl⟩ : A1 = A1' ∧ c1 = c1' := by injection e1' with a b c; exact ⟨a, c⟩
                obtain ⟨b, o, Ag, cg, Am, cm, hA1, -, hbl1, e0, e1, e2, e3, hgS, hnS⟩ := line_at hsq1.unav (k := 0) (by rw [List.length_drop]; omega)
                subst hA1
                simp only [Nat.zero_mul, Nat.add_zero] at e0 e1 e2 e3
                obtain ⟨z, hx⟩ : ∃ z, (qu2.drop s)[0]'(by rw [List.length_drop]; omega) = z := ⟨_, rfl⟩
                rw [hx] at e0 e1 e2 e3 hgS hnS
                have HXQ : Hid (qu2[s]? = some z) := Lh (by rw [List.getElem_drop] at hx; rw [List.getElem?_eq_getElem hgo1]; simpa using congrArg some hx)
                have HSZ2 : Hid (z.gaps.length ≤ 100000 ∧ z.notes.length ≤ 100000) := Lh (HS3.out z (List.mem_of_getElem? HXQ.out))
                have HGS := Lh hgS
                have HNS := Lh hnS
                have HB1 : Hid (b < wr.heap.size) := Lh hbl1
                have HC1 : Hid (qu2.length - s ≤ c1) := Lh (by have := hsq1.1; rwa [List.length_map, List.length_drop] at this)
                have hi0 : (0 : Int) < ((qu2.length - s : Nat) : Int) := by omega
                have HTS : Hid (qu2.take (s + 1) = qu2.take s ++ [z]) := Lh (by rw [List.take_add_one, HXQ.out]; rfl)
                clear hgS hnS hbl1 hx hsq1 e1'
                go_upto_region 19 with (fail)
                refine wp_region_rely [5, 6] (fun i => if i = 5 then SP.copy wr.heap.size z else if i = 6 then SP.rp wr.heap.size [z] else SP.any) 7 (by kernel_rfl) (by kernel_rfl) ?_
                intro T _ g hg hgm
                have q5 : ∀ d, (g d).cell? ⟨O, 5, none⟩ = some (.slice An s cn) := fun d => (HGw.out.o.to (hg d)).cell 5 rfl
                have l0 : ∀ d, (g d).cell? ⟨b, o, none⟩ = some (.int .i64 z.fr) := fun d => ((hg d).cell (p := ⟨b, o, none⟩) HB1.out).trans e0
                have l1 : ∀ d, (g d).cell? ⟨b, o + 1, none⟩ = some (.int .i64 z.un) := fun d => ((hg d).cell (p := ⟨b, o + 1, none⟩) HB1.out).trans e1
                have l2 : ∀ d, (g d).cell? ⟨b, o + 2, none⟩ = some (.slice Ag z.gaps.length cg) := fun d => ((hg d).cell (p := ⟨b, o + 2, none⟩) HB1.out).trans e2
                have l3 : ∀ d, (g d).cell? ⟨b, o + 3, none⟩ = some (.slice Am z.notes.length cm) := fun d => ((hg d).cell (p := ⟨b, o + 3, none⟩) HB1.out).trans e3
                repeat (refine wpR_pure (by rfl) fun Kq hq => ?_; go_big_quiet_step (fail); refine wpQuiet_nil (hq _ ?_); clear hq Kq)
                refine wpR_busy (by rfl) (by rfl) (fun d hG K Q hK => ?_) (fun v d hG hp Kr hr => ?_)
                ·go_simp
                 go_at_call 90
                 refine (rcopy_any Ag Am cg cm z (g d) (HGS.out.to (hg d)) (HNS.out.to (hg d)) (by have := HSZ2.out; omega) (by have := HSZ2.out; omega)).mono ?_
                 rintro e W1 ⟨A3, c3, A4, c4, rfl, ho3, ho4, hb1⟩
                 go_simp
                 exact hK _ _ hb1 (⟨A3, c3, A4, c4, rfl, ho3.re (hg d).size, ho4.re (hg d).size⟩)
                obtain ⟨A3, c3, A4, c4, rfl, -⟩ := (show ∃ A c A' c', v = .agg #[.int .i64 z.fr, .int .i64 z.un, .slice A z.gaps.length c, .slice A' z.notes.length c'] ∧ _ from hp)
                (try clear hp); clear hG
                simp only [Act.put, sA0, sZ0, sS0]
                refine hr _ ?_
                clear hr Kr
                repeat (refine wpR_pure (by rfl) fun Kq hq => ?_; go_big_quiet_step (fail); refine wpQuiet_nil (hq _ ?_); clear hq Kq)
                refine wpR_busy (by rfl) (by rfl) (fun d hG K Q hK => ?_) (fun v d hG hp Kr hr => ?_)
                ·obtain ⟨A3', c3', A4', c4', he, ho3, ho4⟩ := (show ∃ A c A' c', Value.agg #[.int .i64 z.fr, .int .i64 z.un, .slice A3 z.gaps.length c3, .slice A4 z.notes.length c4] = .agg #[.int .i64 z.fr, .int .i64 z.un, .slice A z.gaps.length c, .slice A' z.notes.length c'] ∧ Own (g d) wr.heap.size 3 (.slice A z.gaps.length c) z.gaps ∧ Own (g d) wr.heap.size 3 (.slice A' z.notes.length c') z.notes from hG 5 (by kernel_rfl))
                 obtain ⟨rfl, rfl, rfl, rfl⟩ : A3 = A3' ∧ c3 = c3' ∧ A4 = A4' ∧ c4 = c4' := by
                  have := congrArg (fun v : Value => match v with | .agg cs => cs.toList | _ => []) he
                  simp at this
                  exact ⟨this.1.1, this.1.2, this.2.1, this.2.2⟩
                 have HR : Hid (Rep.R (g d) (Up wr.heap.size) [.int .i64 z.fr, .int .i64 z.un, .slice A3 z.gaps.length c3, .slice A4 z.notes.length c4] z) := Lh ⟨_, _, rfl, rep_ints ho3 rfl (fun b hb => hb), rep_ints ho4 rfl (fun b hb => hb)⟩
                 clear ho3 ho4 he
                 go_simp
                 exact hK _ _ ((Below.refl _ _).alloc (Nat.le_refl _) _) (rp_lit (hg d).size HR.out)
                obtain ⟨⟨Az, cz, rfl⟩, -⟩ := (show (∃ A c, v = .slice A [z].length c) ∧ _ from hp)
                (try clear hp); clear hG
                simp only [Act.put, sA0, sZ0, sS0]
                refine hr _ ?_
                clear hr Kr
                refine wpR_tail 3 (by rfl) (by rfl) (fun d hG => ?_)
                have H6 : Hid (Rep.R (g d) (Up wr.heap.size) [.slice Az [z].length cz] [z]) := Lh (show (∃ A c, Value.slice Az [z].length cz = Value.slice A [z].length c) ∧ Rep.R (g d) (Up wr.heap.size) [.slice Az [z].length cz] [z] from hG 6).2
                have HGd := Lh (HGw.out.to (hg d))
                have HLT := Lh HGw.out.n.lt
                have HQL := Lh HGw.out.q.lt
                have HOT := Lh HGw.out.b.lt
                have HOL : Hid (O < wr.heap.size) := Lh HGw.out.o.lt
                have HSZ : Hid (wr.heap.size ≤ (g d).heap.size) := Lh (hg d).size
                clear hG hg hgm q5 l0 l1 l2 l3 e0 e1 e2 e3
                generalize g d = w6 at *
                clear g
                have HSl : Hid (Sl w6 (Up wr.heap.size) Az cz ([z].map (Av.mk : LineP → Av LineP (PE O ob3 (Value.slice A5 (ln + 1) c5).ownBlock)))) := Lh (by
                 obtain ⟨A', c', e, hs, -⟩ := H6.out
                 cases e
                 exact hs.av (fun i hi _ => ⟨Nat.lt_of_lt_of_le HOL.out hi, fun e => by have := (HQL.out i e.symm).2; have : wr.heap.size ≤ i := hi; omega, fun e => by have := (HOT.out i e.symm).2; have : wr.heap.size ≤ i := hi; omega⟩))
                have HLM : Hid (((qu2.take s).map (Av.mk : LineP → Av LineP (PE O ob3 (Value.slice A5 (ln + 1) c5).ownBlock))).length = s) := Lh (by rw [List.length_map]; rw [List.length_take]; omega)
                refine wpAny_one (i := 7) (oi := _) rfl (by kernel_rfl) (by rfl) (fun K hK => ?_)
                refine wp_cat (α := Av LineP (PE O ob3 (Value.slice A5 (ln + 1) c5).ownBlock)) _ (.tmp 117) (.tmp 122) 34 rfl (O + 1) 88 (.agg #[.int .i64 0, .int .i64 0, .slice none 0 0, .slice none 0 0]) 64 Tryz.underlying34 line_info rfl (show 0 < 4 by decide) (.slice An s cn) ((qu2.take s).map Av.mk) rfl HGd.out.n.own Az cz 1 ([z].map Av.mk) rfl rfl (Up wr.heap.size) HSl.out (fun i (hi : wr.heap.size ≤ i) _ e => by have := (HLT.out i e.symm).2; omega) (by rw [HLM.out]; have := HQB2.out; omega) (by rw [HLM.out]; have := HQB2.out; omega) (by have := HOL.out; have := HSZ.out; omega) ?_
                intro v5 w5 hown5 hg5 hat5
                obtain ⟨A6, c6, e5, -⟩ := hown5.form
                rw [List.length_append, HLM.out] at e5
                simp only [List.length_map, List.length_cons, List.length_nil, Nat.zero_add] at e5
                subst e5
                obtain ⟨q5, f5, hpg5⟩ := HGd.out.note hown5 hg5 hat5
                have r5 := f5 5
                have HG8 := Lh hpg5
                refine hK _ _ ?_
                clear hK K hown5 hg5 hat5 hpg5 f5 HSl H6 HGd
                try simp only [Act.put, sA0]
                refine wpAny_one (i := 8) (oi := _) rfl (by kernel_rfl) (by rfl) (fun K hK => ?_)
                go_simp
                refine hK _ _ ?_
                clear hK K
                try simp only [Act.put, sA0, sZ0, sS0]
                refine wpAny_one (i := 9) (oi := _) rfl (by kernel_rfl) (by rfl) (fun K hK => ?_)
                go_simp
                refine hK _ _ ?_
                clear hK K
                try simp only [Act.put, sA0, sZ0, sS0]
                clear q5 r5
                refine wpAny_done (by kernel_rfl) ?_ _
                unfold Exit.then
                have hcb := HC1.out
                have hcI : (1 : Int) ≤ (c1 : Int) := by omega
                have hlI : (1 : Int) ≤ ((qu2.length - s : Nat) : Int) := by omega
                obtain ⟨ob4, hob3, hq3⟩ := HG8.out.q.cut (k := 1) (by rw [List.length_map, List.length_drop]; omega)
                rw [← List.map_drop, List.drop_drop] at hq3
                by_cases hc1 : c1 = 1
                ·rw [if_pos hc1, hc1] at hq3
                 have HGC := Lh (HG8.out.cut hq3 hob3)
                 clear hq3
                 go_wp2_with fail
                 go_roundw
                 case rel => exact ⟨s + 1, ob4, _, by omega, by omega, .inr (by omega), Lh (by rw [HTS.out]; exact HGC.out)⟩
                 case measure => (simp only [vlen]; omega)
                ·rw [if_neg hc1, show (some (⟨b, o, none⟩ : Addr)).map (·.add (1 * Rep.size (OldL w.heap.size))) = some ⟨b, o + 4, none⟩ from rfl] at hq3
                 have HGC := Lh (HG8.out.cut hq3 hob3)
                 clear hq3
                 go_wp2_with fail
                 go_roundw
                 case rel => exact ⟨s + 1, ob4, _, by omega, by omega, .inr (by omega), Lh (by rw [HTS.out]; exact HGC.out)⟩
                 case measure => (simp only [vlen]; omega)
               ·have hse : s = shownP hn ln sh qu2.length := moved hs3 hs4 hs5 (by omega)
                rw [show (decide (s < qu2.length) && decide (ln + 1 + s + 2 ≤ hn)) = false by rw [Bool.and_eq_false_iff, decide_eq_false_iff_not, decide_eq_false_iff_not]; omega]
                have HFI3 : Hid (fillP notes hn (bd.drop (ln + 1)) (ln + 1) s qu2 = fillP notes hn bd 0 (min qu.length (hn - 1)) qu) := Lh (by rw [hse]; exact HFI2.out)
                have hln6 : ln + 1 ≤ bd.length := HLN.out
                clear hse hgo HFI2
                go_wp2_with fail
                go_roundw
                case rel => exact ⟨ln + 1, s, ob3, _, _, qu2, by go_num, hln6, hs4, HGw, HFI3, HF3, HS3⟩
                case measure => (first | (simp [intOf]; done) | (simp [intOf]; omega))
          ·rw [Bool.not_eq_true] at hfit
           rw [hfit]
           have hd := HFI.out.symm.trans (fillP_stop (notes := notes) hfit)
           have hnn : ¬ (bd.length = 0 ∧ qu.length = 0) := by have := HFIN.out; omega
           obtain ⟨hP1, hP2⟩ := pages_step h4 HF.out.1 hnn hd
           have hdd : body.drop (at_ + ln) = bd.drop ln := by rw [← List.drop_drop, HBD.out]
           obtain ⟨p, hp⟩ : ∃ p : PageP, ⟨0, 0, 0, 0, bd.take ln, qu1.take sh⟩ = p := ⟨_, rfl⟩
           have HT2 : Hid ((pgs ++ [p]) ++ setPages notes hn (f - 1) (body.drop (at_ + ln)) (qu1.drop sh) = setPages notes hn (allLines body notes) body []) := Lh (by
            rw [hdd, ← HT.out, hP2, hp, List.append_assoc]; rfl)
           have HF2 : Hid (allLines (body.drop (at_ + ln)) notes + (qu1.drop sh).length ≤ f - 1 ∧ f - 1 ≤ 1048576) := Lh (by rw [hdd]; exact ⟨hP1, by omega⟩)
           have HS2 : Hid (SmallL (qu1.drop sh)) := Lh (fun x hx => HS.out x (List.mem_of_mem_drop hx))
           have HPN : Hid (pgs.length + 1 ≤ N) := Lh (by
            have h1 := congrArg List.length HT2.out
            rw [List.length_append, List.length_append, HNE.out] at h1
            simp at h1
            omega)
           have hNB : N ≤ 1048576 := by rw [← HNE.out]; exact Nat.le_trans (setPages_le _ _ _ _ _) HALL.out
           have hpb : pgs.length ≤ 1048576 := by have := HPN.out; omega
           have HPB := Lh hpb
           have hbt : (bd.take ln).length ≤ 1048576 := by rw [List.length_take]; omega
           have hqt : (qu1.take sh).length ≤ 1048576 := by rw [List.length_take]; omega
           have hba : Below wr.heap.size wr (wr.alloc (.cells #[.int .i64 0, .int .i64 0, .int .i64 0, .int .i64 0, .slice Ab ln cb, .slice An sh cn] 36)) := (Below.refl _ _).alloc (Nat.le_refl _) _
           have HGa := Lh (HGw.out.to hba)
           have hrp := HGa.out.rep (by omega) (by omega)
           rw [hp] at hrp
           have HPO : Hid (∀ q, (Value.slice A9 pgs.length c9).ownBlock = some q → q < O) := Lh (fun q hq => (HGw.out.pg.at_ q hq).1.2)
           have HOG : Hid (w.heap.size ≤ O) := Lh HGw.out.og
           have HRE : Hid (Rep.R (wr.alloc (.cells #[.int .i64 0, .int .i64 0, .int .i64 0, .int .i64 0, .slice Ab ln cb, .slice An sh cn] 36)) (fun b => some b ≠ (Value.slice A9 pgs.length c9).ownBlock) [.int .i64 0, .int .i64 0, .int .i64 0, .int .i64 0, .slice Ab ln cb, .slice An sh cn] (⟨p⟩ : Av PageP (fun i => w.heap.size ≤ i ∧ some i ≠ ob1))) :=
            Lh (Rep.mono (α := PageP) hrp (fun i hi _ => ⟨fun e => by have := HPO.out i e.symm; have := hi.1; omega, by have := HOG.out; have := hi.1; omega, hi.2⟩))
           have HOP : Hid (Own (wr.alloc (.cells #[.int .i64 0, .int .i64 0, .int .i64 0, .int .i64 0, .slice Ab ln cb, .slice An sh cn] 36)) w.heap.size 36 (.slice A9 (pgs.map (Av.mk : PageP → Av PageP (fun i => w.heap.size ≤ i ∧ some i ≠ ob1))).length c9) (pgs.map (Av.mk : PageP → Av PageP (fun i => w.heap.size ≤ i ∧ some i ≠ ob1)))) :=
            Lh (by rw [List.length_map]; exact (HGa.out.pg.mono (Q := fun i => w.heap.size ≤ i ∧ some i ≠ ob1) (fun i hi _ => ⟨hi.1.1, hi.2⟩)).own)
           have hml : (pgs.map (Av.mk : PageP → Av PageP (fun i => w.heap.size ≤ i ∧ some i ≠ ob1))).length = pgs.length := List.length_map _
           rw [hml] at HOP
           have HML := Lh hml
           have x0 := HGw.out.o.cell 0 rfl
           have x1 := HGw.out.o.cell 1 rfl
           have x2 := HGw.out.o.cell 2 rfl
           have x3 := HGw.out.o.cell 3 rfl
           have x4 := HGw.out.o.cell 4 rfl
           have x5 := HGw.out.o.cell 5 rfl
           have HWZ : Hid (w.heap.size ≤ wr.heap.size) := Lh HGw.out.bw.size
           have hatl : at_ + ln ≤ body.length := by omega
           clear hd hnn hP1 hP2 hdd hp hrp hba hml hbt hqt HGw hfit
           go_wp2_with (first
            |(at_builtin; refine wpList_push (α := Av PageP (fun i => w.heap.size ≤ i ∧ some i ≠ ob1)) _ rfl (.tmp 129) (.tmp 131) 29 rfl w.heap.size 36 (.agg #[.int .i64 0, .int .i64 0, .int .i64 0, .int .i64 0, .slice none 0 0, .slice none 0 0]) 80 Tryz.underlying29 page_info rfl (show 0 < 6 by decide) (.slice A9 pgs.length c9) (pgs.map Av.mk) rfl HOP.out wr.heap.size _ ⟨p⟩ (0, 0) 36 rfl (heap_alloc_new wr _) HRE.out (by rw [HML.out]; have := HPB.out; omega) (by rw [HML.out]; have := HPB.out; omega) (by have := HWZ.out; simp; omega) _ rfl ?_; intro g5 p5 w5 hown5 hg5 hat5 hlt5; rw [HML.out] at hown5 ⊢; have HPS := Lh (HGa.out.page hg5 hown5 (fun k hk => by cases hk; exact hat5)); clear hown5 hg5 hat5 hlt5)
            | fail)
           clear x0 x1 x2 x3 x4 x5
           go_roundw
           case rel => exact ⟨at_ + ln, ob1, qu1.drop sh, pgs ++ [p], f - 1, by go_num, hatl, by first | exact HPS | (rw [List.length_drop] at *; exact HPS), HF2, HT2, HS2⟩
           case measure => (have := HPN.out; simp only [vlen]; omega)
    ·rw [show (decide (at_ < body.length) || decide (0 < qu.length)) = false by rw [Bool.or_eq_false_iff, decide_eq_false_iff_not, decide_eq_false_iff_not]; omega]
     have hat2 : at_ = body.length := by omega
     obtain rfl : qu = [] := List.eq_nil_of_length_eq_zero (by omega)
     have HFI : Hid (pgs = setPages notes hn (allLines body notes) body []) := Lh (by
      have h1 := HT.out
      rwa [hat2, List.drop_length, setPages_nil, List.append_nil] at h1)
     go_wp2_with fail
     go_ret2
     exact ⟨_, rfl, fun _ => by rw [← HFI.out]; exact (HP.out.pg.mono (fun i hi _ => hi.1)).bd, fun h => absurd rfl h, HP.out.bw⟩
 ·have HE := Lh hE
  have hE0 : ¬ pageE body notes h = 0 := hE
  obtain ⟨pe, hpe⟩ : ∃ pe, pageE body notes h = pe := ⟨_, rfl⟩
  rw [hpe] at HC HE hE0 ⊢
  clear hE
  go_enter Tryz.func63, Tryz.ntmps63
  go_wp2_with (first | (go_at_call 89; refine HC.out.mono ?_; rintro e w2 ⟨rfl, hb2⟩; have HB2 := Lh hb2; clear hb2) | fail)
  go_ret2
  exact ⟨_, rfl, fun h => absurd h HE.out, fun _ => rfl, HB2.out⟩
end Go.Proofs.YtakaielemicpkaaGreatDoor
namespace Go.Proofs.YtakaielemicpkaaGreatDoor
open Go.RowKit
set_option maxRecDepth 100000 in
set_option maxHeartbeats 4000000 in
theorem rText_any (A B : Option Addr) (c d : Nat) (a b : List (List Word)) (m h : Int) (w : World) (ha : Sl w (fun b => b < w.heap.size) A c a) (hb : Sl w (fun b => b < w.heap.size) B d b) (hla : a.length ≤ 1048576) (hlb : b.length ≤ 1048576) :
  Calls Tryz.prog 32 #[.agg #[.slice A a.length c, .slice B b.length d], .int .i64 m, .int .i64 h] w fun e w' => ∃ v, e = .returned (.tuple #[v, .int .i64 (textE a b m h)]) ∧
   (textE a b m h = 0 → Own w' w.heap.size 36 v ((pagesOfText a b m h.toNat).map (Bd.mk : PageP → Bd PageP w.heap.size))) ∧ (textE a b m h ≠ 0 → v = .slice none 0 0) ∧ Below w.heap.size w w' := by
 have hba : Below w.heap.size w (w.alloc (.cells #[.slice A a.length c, .slice B b.length d] 50)) := (Below.refl _ _).alloc (Nat.le_refl _) _
 have HL := Lh (rLines_any A B c d a b m (w.alloc (.cells #[.slice A a.length c, .slice B b.length d] 50)) (ha.to hba) (hb.to hba) hla hlb)
 have HBA := Lh hba
 have c0 : (w.alloc (.cells #[.slice A a.length c, .slice B b.length d] 50)).cell? ⟨w.heap.size, 0, none⟩ = some (.slice A a.length c) := cell_of_row _ _ 0 _ _ _ (heap_alloc_new w _)
 have c1 : (w.alloc (.cells #[.slice A a.length c, .slice B b.length d] 50)).cell? ⟨w.heap.size, 1, none⟩ = some (.slice B b.length d) := cell_of_row _ _ 1 _ _ _ (heap_alloc_new w _)
 obtain ⟨q, hq⟩ : ∃ q, linesE a b m = q := ⟨_, rfl⟩
 rw [hq] at HL
 have HQ := Lh hq
 clear ha hb hba hq
 by_cases hq0 : q = 0
 ·subst hq0
  go_enter Tryz.func32, Tryz.ntmps32
  go_wp2_with (first | (go_at_call 62; refine HL.out.mono ?_; rintro e w2 ⟨v, u, rfl, h1, -, hb2⟩; have h1 := h1 trivial) | fail)
  obtain ⟨A1, c1, rfl, hs1⟩ := own_bd_sl h1.1 (Nat.le_refl _)
  obtain ⟨A2, c2, rfl, hs2⟩ := own_bd_sl h1.2 (Nat.le_refl _)
  obtain ⟨hfn, hm1, hm2⟩ := linesE_fine HQ.out
  have hlen := fineT_lines hfn hm1 hm2
  have hsm := hfn.small m
  have hnl : (notesLP a b m).length ≤ 1048576 := by unfold notesLP; rw [partsP_length]; exact hlb
  have HB2 := Lh (HBA.out.trans (hb2.mono HBA.out.size))
  have HSB : Hid (w.heap.size ≤ w2.heap.size) := Lh HB2.out.size
  refine (rset_any A1 A2 c1 c2 (bodyP a m) (notesLP a b m) h w2 (hs1.mono fun i h _ => h.1) (hs2.mono fun i h _ => h.1) hnl (by omega) hsm.1 hsm.2).mono ?_
  rintro e w3 ⟨v, rfl, h2, h3, hb3⟩
  have HE : Hid (textE a b m h = pageE (bodyP a m) (notesLP a b m) h) := Lh (by unfold textE; rw [HQ.out, if_neg (by simp)])
  have H2 := Lh h2
  have H3 := Lh h3
  have HB3 := Lh (HB2.out.trans (hb3.mono HB2.out.size))
  clear h1 hs1 hs2 hfn hm1 hm2 hlen hsm hnl h2 h3 hb3 hb2 HL
  go_wp2_with fail
  go_ret2
  rw [HE.out]
  refine ⟨_, rfl, fun h0 => ?_, H3.out, HB3.out⟩
  have h4 := (H2.out h0).re HSB.out
  refine h4.conv _ (by rw [List.length_map, List.length_map]; rfl) rfl (fun i h1 h2 es he => ?_)
  rw [List.getElem_map] at he ⊢
  exact Rep.mono (α := PageP) he (fun b hb _ => ⟨hb.1, Nat.le_trans HSB.out hb.2⟩)
 ·have hqb : (q != 0) = true := by simpa using hq0
  have HQ0 := Lh hq0
  clear hq0
  go_enter Tryz.func32, Tryz.ntmps32
  go_wp2_with (first | (go_at_call 62; refine HL.out.mono ?_; rintro e w2 ⟨v, u, rfl, -, h1, hb2⟩; have HB2 := Lh (HBA.out.trans (hb2.mono HBA.out.size)); clear h1 hb2) | fail)
  go_ret2
  have HE : textE a b m h = q := by unfold textE; rw [HQ.out, if_pos HQ0.out]
  exact ⟨_, by rw [HE]; rfl, fun h0 => absurd (HE ▸ h0) HQ0.out, fun _ => rfl, HB2.out⟩
end Go.Proofs.YtakaielemicpkaaGreatDoor
namespace Go.Proofs.YtakaielemicpkaaGreatDoor
open Go.RowKit
theorem flat_take (l : List (List Word)) (k : Nat) (h : k < l.length) : (l.take (k + 1)).flatten = (l.take k).flatten ++ l[k] := by
 rw [List.take_succ_eq_append_getElem h, List.flatten_append, List.flatten_singleton]
theorem tot_ab (a b : List (List Word)) : tot (a ++ b) = tot a + tot b := by unfold tot; rw [List.flatten_append, List.length_append]
set_option maxHeartbeats 2000000 in
theorem rwords_any (A B : Option Addr) (c d : Nat) (a b : List (List Word)) (w : World) (ha : Sl w (fun b => b < w.heap.size) A c a) (hb : Sl w (fun b => b < w.heap.size) B d b) (ht : tot (a ++ b) ≤ 2097152) :
  Calls Tryz.prog 121 #[.agg #[.slice A a.length c, .slice B b.length d]] w fun e w' => ∃ v, e = .returned v ∧ Own w' w.heap.size 104 v (a ++ b).flatten ∧ Below w.heap.size w w' := by
 have hla : a.length ≤ 9223372036854775807 := by have := ha.1; have := ha.2.1; unfold maxLen at this; omega
 have hlb : b.length ≤ 9223372036854775807 := by have := hb.1; have := hb.2.1; unfold maxLen at this; omega
 have hb0 := ((Below.refl w.heap.size w).alloc (Nat.le_refl _) (.cells #[.slice A a.length c, .slice B b.length d] 50))
 have hy : TBox (w.alloc (.cells #[.slice A a.length c, .slice B b.length d] 50)) w.heap.size (.slice A a.length c) (.slice B b.length d) := ⟨heap_alloc_new w _⟩
 have HA := Lh (ha.keep (Kept.all hb0) hb0.size)
 have HB := Lh (hb.keep (Kept.all hb0) hb0.size)
 have Hb0 := Lh hb0
 have HY := Lh hy
 have HT := Lh (tot_ab a b)
 clear ha hb hb0 hy
 go_enter Tryz.func121, Tryz.ntmps121
 go_wp2_with fail
 have hz1 : w.heap.size < (w.alloc (.cells #[.slice A a.length c, .slice B b.length d] 50)).heap.size := by simp
 generalize (w.alloc (.cells #[.slice A a.length c, .slice B b.length d] 50)) = w1 at *
 go_loopw [3, 4] (fun v i wr => ∃ k : Nat, k ≤ a.length ∧ i = .int .i64 k ∧ Own wr w1.heap.size 104 v (a.take k).flatten ∧ Below w1.heap.size w1 wr) (fun _ i _ => a.length - (intOf i).toNat)
 case atStart => exact ⟨0, Nat.zero_le _, rfl, Own.nil _ _ _, Below.refl _ _⟩
 case round =>
  obtain ⟨k, hk, rfl, hown, hb⟩ := hrel
  have Hb := Lh hb
  have hz := hb.size
  obtain ⟨Av, cv, rfl, hvb, _⟩ := hown.form
  have t0 := (HY.out.below hb).c0
  have t1 := (HY.out.below hb).c1
  clear hb
  by_cases hlt : k < a.length
  ·obtain ⟨bb, o, Ap, cp, rfl, hbS, hbl, hc, hp⟩ := part_at (HA.out.keep (Kept.all Hb.out) Hb.out.size) hlt
   have hkl : (k : Int) < (a.length : Int) := by omega
   have hk0 : (0 : Int) ≤ (k : Int) := by omega
   have HF := Lh (flat_take a k hlt)
   have h1 := tot_le a (k + 1)
   have h2 := tot_take a k hlt
   have h3 := HT.out
   have hfl : (a.take k).flatten.length = tot (a.take k) := rfl
   generalize a[k] = p at *
   generalize (a.take k).flatten = fl at *
   have HS : Hid (∀ i, i < w.heap.size → i < wr.heap.size → some i ≠ (Value.slice Av fl.length cv).ownBlock) := fun i hi _ e => by
    have := hown.lt i e.symm
    omega
   have hpl : p.length ≤ 2097152 := by omega
   have hfl2 : fl.length + p.length ≤ 2097152 := by omega
   have HP := Lh hp
   clear hp h1 h2 h3 hfl hvb
   go_wp2_with (at_builtin; refine wpList_cat (α := Word) _ rfl (.tmp 13) (.tmp 18) 99 rfl w1.heap.size 104 (.agg #[.string ⟨#[]⟩, .string ⟨#[]⟩, .int .i64 0, .int .i64 0]) 48 Tryz.underlying99 word_info rfl (by decide) _ fl rfl hown Ap cp p.length p rfl rfl (fun b => b < w.heap.size) HP.out HS.out (by omega) (by omega) hz ?_; intro v' w5 hown5 hg5 hat5)
   go_roundw
   case rel => exact ⟨k + 1, by omega, by go_num, by rw [HF.out]; exact hown5, below_cat Hb.out hown hz hg5⟩
   case measure => simp [intOf]; omega
  ·obtain rfl : k = a.length := by omega
   have E := Lh (show (a.take a.length).flatten = a.flatten by rw [List.take_length])
   rw [E.out] at hown
   have hfa : a.flatten.length = tot a := rfl
   have HFA := Lh hfa
   rw [E.out]
   generalize hfa' : a.flatten = fa at *
   have HFA2 := Lh hfa'
   clear hfa' hfa hvb E
   go_wp2_with fail
   go_loopw [3, 5] (fun v i wr => ∃ k : Nat, k ≤ b.length ∧ i = .int .i64 k ∧ Own wr w1.heap.size 104 v (fa ++ (b.take k).flatten) ∧ Below w1.heap.size w1 wr) (fun _ i _ => b.length - (intOf i).toNat)
   case atStart => exact ⟨0, Nat.zero_le _, rfl, by simpa using hown, Hb.out⟩
   case round =>
    clear hown Hb hz t0 t1
    obtain ⟨k, hk, rfl, hown, hb⟩ := hrel
    have Hb := Lh hb
    have hz := hb.size
    obtain ⟨Av, cv, rfl, hvb, _⟩ := hown.form
    have t0 := (HY.out.below hb).c0
    have t1 := (HY.out.below hb).c1
    clear hb
    by_cases hlt : k < b.length
    ·obtain ⟨bb, o, Ap, cp, rfl, hbS, hbl, hc, hp⟩ := part_at (HB.out.keep (Kept.all Hb.out) Hb.out.size) hlt
     have hkl : (k : Int) < (b.length : Int) := by omega
     have hk0 : (0 : Int) ≤ (k : Int) := by omega
     have HF := Lh (show fa ++ (b.take (k + 1)).flatten = (fa ++ (b.take k).flatten) ++ b[k] by rw [flat_take b k hlt, List.append_assoc])
     have h1 := tot_le b (k + 1)
     have h2 := tot_take b k hlt
     have h3 := HT.out
     have hfl : (fa ++ (b.take k).flatten).length = tot a + tot (b.take k) := by rw [List.length_append, HFA.out]; rfl
     generalize b[k] = p at *
     generalize (fa ++ (b.take k).flatten) = fl at *
     have HS : Hid (∀ i, i < w.heap.size → i < wr.heap.size → some i ≠ (Value.slice Av fl.length cv).ownBlock) := fun i hi _ e => by
      have := hown.lt i e.symm
      omega
     have hpl : p.length ≤ 2097152 := by omega
     have hfl2 : fl.length + p.length ≤ 2097152 := by omega
     have HP := Lh hp
     clear hp h1 h2 h3 hfl hvb
     go_wp2_with (at_builtin; refine wpList_cat (α := Word) _ rfl (.tmp 27) (.tmp 32) 99 rfl w1.heap.size 104 (.agg #[.string ⟨#[]⟩, .string ⟨#[]⟩, .int .i64 0, .int .i64 0]) 48 Tryz.underlying99 word_info rfl (by decide) _ fl rfl hown Ap cp p.length p rfl rfl (fun b => b < w.heap.size) HP.out HS.out (by omega) (by omega) hz ?_; intro v' w5 hown5 hg5 hat5)
     go_roundw
     case rel => exact ⟨k + 1, by omega, by go_num, by rw [HF.out]; exact hown5, below_cat Hb.out hown hz hg5⟩
     case measure => simp [intOf]; omega
    ·obtain rfl : k = b.length := by omega
     have hab : fa ++ (b.take b.length).flatten = (a ++ b).flatten := by rw [List.take_length, List.flatten_append, HFA2.out]
     have HAB := Lh hab
     clear hab hvb
     go_wp2_with fail
     go_ret
     exact ⟨_, rfl, by rw [← HAB.out]; exact hown.re (by omega), Hb0.out.trans (Hb.out.mono Hb0.out.size)⟩
theorem rcount_any (A B : Option Addr) (c d : Nat) (a b : List (List Word)) (w : World) (ha : Sl w (fun b => b < w.heap.size) A c a) (hb : Sl w (fun b => b < w.heap.size) B d b) (ht : tot (a ++ b) ≤ 2097152) :
  Calls Tryz.prog 99 #[.agg #[.slice A a.length c, .slice B b.length d]] w fun e w' => e = .returned (.int .i64 (tot (a ++ b) : Int)) ∧ Below w.heap.size w w' := by
 have hb0 := ((Below.refl w.heap.size w).alloc (Nat.le_refl _) (.cells #[.slice A a.length c, .slice B b.length d] 50))
 have HA := Lh (ha.to hb0)
 have HB := Lh (hb.to hb0)
 have Hb0 := Lh hb0
 clear ha hb hb0
 go_enter Tryz.func99, Tryz.ntmps99
 go_wp2_with fail
 refine (rwords_any A B c d a b _ HA.out HB.out ht).mono ?_
 rintro e w2 ⟨v, rfl, hown, hb2⟩
 have Hb2 := Lh (Hb0.out.trans (hb2.mono Hb0.out.size))
 have hfl : (a ++ b).flatten.length = tot (a ++ b) := rfl
 have HFL := Lh hfl
 generalize (a ++ b).flatten = fl at *
 obtain ⟨A2, c2, rfl, _⟩ := hown.form
 clear hb2 hown hfl
 go_wp2_with fail
 go_ret
 exact ⟨ret_int (by rw [HFL.out]), Hb2.out⟩
end Go.Proofs.YtakaielemicpkaaGreatDoor
namespace Go.Proofs.YtakaielemicpkaaGreatDoor
open Go.RowKit
set_option maxRecDepth 100000 in
theorem rwithin_any (n lo hi : Int) (w : World) : Calls Tryz.prog 50 #[.int .i64 n, .int .i64 lo, .int .i64 hi] w fun e w' => e = .returned (.bool (decide (lo ≤ n ∧ n ≤ hi))) ∧ w = w' := by
 by_cases h1 : lo ≤ n
 ·by_cases h2 : n ≤ hi
  ·rw [decide_eq_true ⟨h1, h2⟩]
   go_enter Tryz.func50, Tryz.ntmps50
   go_wp2_with fail
   go_ret
   exact ⟨rfl, rfl⟩
  ·rw [decide_eq_false (fun h => h2 h.2)]
   go_enter Tryz.func50, Tryz.ntmps50
   go_wp2_with fail
   go_ret
   exact ⟨rfl, rfl⟩
 ·rw [decide_eq_false (fun h => h1 h.1)]
  go_enter Tryz.func50, Tryz.ntmps50
  go_wp2_with fail
  go_ret
  exact ⟨rfl, rfl⟩
theorem idxP_in {l : List Int} {v : Int} {k : Nat} (hk : k < l.length) (h : l[k] = v) : v ∈ l := h ▸ List.getElem_mem hk
set_option maxRecDepth 100000 in
set_option maxHeartbeats 2000000 in
theorem rhas_any (A : Option Addr) (c : Nat) (l : List Int) (v : Int) (w : World) (hs : Sl w (fun b => b < w.heap.size) A c l) (h63 : l.length ≤ 1073741824) :
  Calls Tryz.prog 77 #[.slice A l.length c, .int .i64 v] w fun x w' => x = .returned (.bool (decide (v ∈ l))) ∧ w = w' := by
 have HS := Lh hs
 clear hs
 go_enter Tryz.func77, Tryz.ntmps77
 go_wp2_with fail
 go_loopw [5] (fun i wr => wr = w ∧ ∃ k : Nat, k ≤ l.length ∧ i = .int .i64 k ∧ Hid (∀ i (hi : i < l.length), i < k → l[i] ≠ v)) (fun i _ => l.length - (intOf i).toNat)
 case atStart => exact ⟨rfl, 0, Nat.zero_le _, rfl, Lh (fun i hi h => absurd h (Nat.not_lt_zero _))⟩
 case round =>
  obtain ⟨hw9, k, hk, rfl, HN⟩ := hrel
  subst hw9
  by_cases hlt : k < l.length
  ·obtain ⟨b, o, rfl, -, -, -, k0⟩ := int_at HS.out hlt
   have hkl : (k : Int) < (l.length : Int) := by omega
   have hk0 : (0 : Int) ≤ (k : Int) := by omega
   have hlc : l.length ≤ c := HS.out.1
   have HX : Hid (∃ x, l[k] = x) := Lh ⟨_, rfl⟩
   obtain ⟨x, hx⟩ := HX.out
   have HXE := Lh hx
   rw [hx] at k0
   clear hx HX
   by_cases hq : x = v
   ·have HF : Hid (decide (v ∈ l) = true) := Lh (decide_eq_true (idxP_in hlt (HXE.out.trans hq)))
    subst hq
    go_wp2_with fail
    go_ret
    exact ⟨by rw [HF.out]; rfl, by first | rfl | trivial⟩
   ·have hqb : (x == v) = false := by rw [beq_eq_false_iff_ne]; exact hq
    have HN2 : Hid (∀ i (hi : i < l.length), i < k + 1 → l[i] ≠ v) := Lh (fun i hi h => by
     by_cases hik : i = k
     ·subst hik; rw [HXE.out]; exact hq
     ·exact HN.out i hi (by omega))
    clear hq
    go_wp2_with fail
    go_roundw
    case rel => exact ⟨trivial, k + 1, by omega, by go_num, HN2⟩
    case measure => simp [intOf]; omega
  ·have HF : Hid (decide (v ∈ l) = false) := Lh (decide_eq_false (fun hm => by
    obtain ⟨i, hi, e⟩ := List.getElem_of_mem hm
    exact HN.out i hi (by omega) e))
   go_wp2_with fail
   go_ret
   exact ⟨by rw [HF.out]; rfl, by first | rfl | trivial⟩
set_option maxRecDepth 100000 in
set_option maxHeartbeats 4000000 in
theorem rwrong28_any (A B : Option Addr) (c d : Nat) (a b : List (List Word)) (m h : Int) (vs : Value) (_hv : vs.oneCell' = true) (w : World) (ha : Sl w (fun b => b < w.heap.size) A c a) (hb : Sl w (fun b => b < w.heap.size) B d b) (hla : a.length ≤ 1048576) (hlb : b.length ≤ 1048576) :
  Calls Tryz.prog 78 #[.agg #[.int .i64 m, .int .i64 h, vs], .agg #[.slice A a.length c, .slice B b.length d]] w fun e w' => e = .returned (.int .i64 (wrongE m h a b)) ∧ Below w.heap.size w w' := by
 obtain ⟨wb, hwb⟩ : ∃ wb, (w.alloc (.cells #[.int .i64 m, .int .i64 h, vs] 27)).alloc (.cells #[.slice A a.length c, .slice B b.length d] 50) = wb := ⟨_, rfl⟩
 have hba : Below w.heap.size w wb := by rw [← hwb]; exact ((Below.refl _ _).alloc (Nat.le_refl _) _).alloc (by simp) _
 have hx0 : ABox wb w.heap.size 27 [.int .i64 m, .int .i64 h, vs] := by rw [← hwb]; exact (Below.heap_alloc _ _ _ (by simp)).trans (heap_alloc_new w _)
 have hx1 : ABox wb (w.heap.size + 1) 50 [.slice A a.length c, .slice B b.length d] := by rw [← hwb]; exact heap_at (by simp)
 have HX1 := Lh hx1
 have HP := Lh (rText_any A B c d a b m h wb (ha.to hba) (hb.to hba) hla hlb)
 have HSA := Lh (ha.to hba)
 have HSB := Lh (hb.to hba)
 have HBA := Lh hba
 have c0 := hx0.cell 0 rfl
 have c1 := hx0.cell 1 rfl
 have d0 := hx1.cell 0 rfl
 have d1 := hx1.cell 1 rfl
 obtain ⟨q, hq⟩ : ∃ q, textE a b m h = q := ⟨_, rfl⟩
 rw [hq] at HP
 have HQ := Lh hq
 clear ha hb hba hq hx0 hx1
 by_cases hq0 : q = 0
 ·subst hq0
  obtain ⟨hfn, -, -⟩ := textE_fine HQ.out
  have htot := hfn.tot
  have HE : Hid (wrongE m h a b = if tot (a ++ b) = 0 then 1 else 0) := Lh (by unfold wrongE; rw [HQ.out, if_neg (by simp)])
  have HCT : Hid (∀ W, Below wb.heap.size wb W → Calls Tryz.prog 99 #[.agg #[.slice A a.length c, .slice B b.length d]] W fun e w' => e = .returned (.int .i64 (tot (a ++ b) : Int)) ∧ Below W.heap.size W w') := Lh (fun W hW =>
   rcount_any A B c d a b W (HSA.out.to hW) (HSB.out.to hW) (by omega))
  clear hfn HQ
  go_enter Tryz.func78, Tryz.ntmps78
  go_upto_region 1 with (fail)
  have HWB := Lh hwb
  clear hwb
  by_cases ht0 : tot (a ++ b) = 0
  ·rw [ht0] at HCT
   rw [if_pos ht0] at HE
   clear ht0 htot
   go_wp2_with (first
    |(go_at_call 32; refine HP.out.mono ?_; rintro e w2 ⟨v, rfl, -, -, hb2⟩; have e0 : w2.cell? ⟨w.heap.size + 1, 0, none⟩ = some (.slice A a.length c) := (HX1.out.to hb2).cell 0 rfl; have e1 : w2.cell? ⟨w.heap.size + 1, 1, none⟩ = some (.slice B b.length d) := (HX1.out.to hb2).cell 1 rfl; have HB2 := Lh hb2; clear hb2)
    |(go_at_call 99; refine (HCT.out _ HB2.out).mono ?_; rintro e w3 ⟨rfl, hb3⟩; have HB3 := Lh (HBA.out.trans ((HB2.out.trans (hb3.mono HB2.out.size)).mono HBA.out.size)); clear hb3)
    | fail)
   go_ret
   exact ⟨by rw [HE.out]; rfl, HB3.out⟩
  ·have hti : ((tot (a ++ b) : Int) == 0) = false := by rw [beq_eq_false_iff_ne]; omega
   rw [if_neg ht0] at HE
   clear ht0 htot
   generalize (tot (a ++ b) : Int) = tt at *
   go_wp2_with (first
    |(go_at_call 32; refine HP.out.mono ?_; rintro e w2 ⟨v, rfl, -, -, hb2⟩; have e0 : w2.cell? ⟨w.heap.size + 1, 0, none⟩ = some (.slice A a.length c) := (HX1.out.to hb2).cell 0 rfl; have e1 : w2.cell? ⟨w.heap.size + 1, 1, none⟩ = some (.slice B b.length d) := (HX1.out.to hb2).cell 1 rfl; have HB2 := Lh hb2; clear hb2)
    |(go_at_call 99; refine (HCT.out _ HB2.out).mono ?_; rintro e w3 ⟨rfl, hb3⟩; have HB3 := Lh (HBA.out.trans ((HB2.out.trans (hb3.mono HB2.out.size)).mono HBA.out.size)); clear hb3)
    | fail)
   go_ret
   exact ⟨by rw [HE.out]; rfl, HB3.out⟩
 ·have HE : Hid (wrongE m h a b = q) := Lh (by unfold wrongE; rw [HQ.out, if_pos hq0])
  have hqb : (q != 0) = true := by simpa using hq0
  clear hq0
  go_enter Tryz.func78, Tryz.ntmps78
  go_upto_region 1 with (fail)
  have HWB := Lh hwb
  clear hwb
  go_wp2_with (first | (go_at_call 32; refine HP.out.mono ?_; rintro e w2 ⟨v, rfl, -, -, hb2⟩; have HB2 := Lh (HBA.out.trans (hb2.mono HBA.out.size)); clear hb2) | fail)
  go_ret
  exact ⟨by rw [HE.out]; rfl, HB2.out⟩
end Go.Proofs.YtakaielemicpkaaGreatDoor
namespace Go.Proofs.YtakaielemicpkaaGreatDoor
open Go.RowKit
theorem findP_yes {l : List SectP} {k j : Nat} (hj : j < k) (hk : k ≤ l.length) {e : Int} (he : (l[j]'(by omega)).entry = e) : findP l e < (k : Int) := by
 rcases findP_cases l e with h | ⟨i, hi, h, -⟩
 ·rw [h]; omega
 ·have h2 : l.findIdx (fun s => decide (s.entry = e)) = i := by
   unfold findP at h
   split at h <;> omega
  by_cases hij : i ≤ j
  ·rw [h]; omega
  ·have h3 := List.not_of_lt_findIdx (p := fun s : SectP => decide (s.entry = e)) (xs := l) (i := j) (by omega)
   simp [he] at h3
theorem findP_no {l : List SectP} {k : Nat} (hk : k < l.length) {e : Int} (he : l[k].entry = e) (hn : ∀ j (hj : j < l.length), j < k → l[j].entry ≠ e) : ¬ findP l e < (k : Int) := by
 rw [findP_hit hk he fun i hi => hn i (by omega) hi]; omega
set_option maxRecDepth 100000 in
set_option maxHeartbeats 8000000 in
theorem rsec_any {m h : Int} {l : List SectP} (A : Option Addr) (c k : Nat) (w : World) (hs : Sl w (fun b => b < w.heap.size) A c l) (hsh : ShortS l) (hk : k < l.length) :
  Calls Tryz.prog 51 #[.agg #[.int .i64 m, .int .i64 h, .slice A l.length c], .int .i64 k] w fun e w' => e = .returned (.int .i64 (secX m h l k l[k])) ∧ Below w.heap.size w w' := by
 obtain ⟨n, hn⟩ : ∃ n, l.length = n := ⟨_, rfl⟩
 obtain ⟨wb, hwb⟩ : ∃ wb, w.alloc (.cells #[.int .i64 m, .int .i64 h, .slice A n c] 27) = wb := ⟨_, rfl⟩
 have hba : Below w.heap.size w wb := by rw [← hwb]; exact (Below.refl _ _).alloc (Nat.le_refl _) _
 have hx0 : ABox wb w.heap.size 27 [.int .i64 m, .int .i64 h, .slice A n c] := by rw [← hwb]; exact heap_alloc_new w _
 have hnc : n ≤ c := by rw [← hn]; exact hs.1
 have hn9 : n ≤ 1048576 := by rw [← hn]; exact hsh.1
 have hkn : k < n := by rw [← hn]; exact hk
 have hknI : (k : Int) < (n : Int) := by omega
 have HS := Lh (hs.to hba)
 have HN := Lh hn
 have HKL := Lh hk
 obtain ⟨b, o, Ag, cg, An, cn, rfl, -, hbb, e0, e1, e2, e3, hg1, hn1, -⟩ := sect_at HS.out hk
 have hshx := hsh.2 _ (List.getElem_mem hk)
 obtain ⟨x, hx⟩ : ∃ x, l[k]'hk = x := ⟨_, rfl⟩
 rw [hx] at e0 e1 e2 e3 hg1 hn1 hshx
 rw [hx, hn]
 have HX : Hid (l[k]'HKL.out = x) := Lh hx
 obtain ⟨nv, hnv⟩ : ∃ nv, x.vers.length = nv := ⟨_, rfl⟩
 obtain ⟨nt, hnt⟩ : ∃ nt, x.texts.length = nt := ⟨_, rfl⟩
 obtain ⟨fr, hfr⟩ : ∃ fr, x.frozen = fr := ⟨_, rfl⟩
 rw [hnv] at e2
 rw [hnt] at e3
 rw [hfr] at e1
 have hv9 : nv ≤ 1048576 := by rw [← hnv]; exact hshx.1
 have ht9 : nt ≤ 1048576 := by rw [← hnt]; exact hshx.2.1
 have hvc : nv ≤ cg := by rw [← hnv]; exact hg1.1
 have htc : nt ≤ cn := by rw [← hnt]; exact hn1.1
 have HSX := Lh hshx
 have HNV := Lh hnv
 have HNT := Lh hnt
 have HFR := Lh hfr
 obtain ⟨X, hX⟩ : ∃ X, wb.heap.size = X := ⟨_, rfl⟩
 obtain ⟨w2, hw2⟩ : ∃ w2, wb.alloc (.cells #[.int .i64 x.entry, .bool fr, .slice Ag nv cg, .slice An nt cn] 45) = w2 := ⟨_, rfl⟩
 have hb2 : Below wb.heap.size wb w2 := by rw [← hw2]; exact (Below.refl _ _).alloc (Nat.le_refl _) _
 have hxx : ABox w2 X 45 [.int .i64 x.entry, .bool fr, .slice Ag nv cg, .slice An nt cn] := by rw [← hw2, ← hX]; exact heap_alloc_new wb _
 have HBE2 := Lh (hba.trans (hb2.mono hba.size))
 have HX2 := Lh (hx0.to hb2)
 have HXX := Lh hxx
 have HV2 := Lh (hg1.to hb2)
 have HT2 := Lh (hn1.to hb2)
 have HS2 := Lh (HS.out.to hb2)
 have HX0 := Lh hx0
 have hwi := rwithin_any x.entry 0 65535 w2
 have x2 := HX0.out.cell 2 rfl
 clear hs hn hba hx0 hsh hx hnv hnt hfr hg1 hn1 hk hshx
 go_enter Tryz.func51, Tryz.ntmps51
 go_upto_region 1 with (fail)
 try rw [hwb]
 clear hwb
 go_upto_region 2 with (fail)
 try rw [hX]
 try rw [hw2]
 clear hX hw2 hb2 hxx e0 e1 e2 e3 x2 HS hbb
 have p0 := HXX.out.cell 0 rfl
 by_cases hr : 0 ≤ x.entry ∧ x.entry ≤ 65535
 case neg =>
  have HE : Hid (secX m h l k x = 5) := Lh (by unfold secX; rw [if_pos hr])
  rw [decide_eq_false hr] at hwi
  have HWI := Lh hwi
  clear hwi hr
  go_wp2_with fail
  refine HWI.out.mono ?_
  rintro e w3 ⟨rfl, rfl⟩
  go_wp2_with fail
  go_ret
  exact ⟨by rw [HE.out]; rfl, HBE2.out⟩
 rw [decide_eq_true hr] at hwi
 have HWI := Lh hwi
 have HR := Lh hr
 clear hwi hr
 go_wp2_with fail
 refine HWI.out.mono ?_
 rintro e w3 ⟨rfl, rfl⟩
 clear p0
 go_wp2_with fail
 go_loopw [6, 7] (fun o i wr => ∃ (j : Nat) (ob : Bool), j ≤ k ∧ i = .int .i64 j ∧ o = .bool ob ∧ Hid (openB l j = ob) ∧ Hid (∀ i (hi : i < l.length), i < j → l[i].entry ≠ x.entry) ∧ Hid (Below w2.heap.size w2 wr)) (fun _ i _ => k - (intOf i).toNat)
 case atStart => exact ⟨0, false, Nat.zero_le _, rfl, rfl, Lh rfl, Lh (fun i hi h => absurd h (Nat.not_lt_zero _)), Lh (Below.refl _ _)⟩
 case round =>
  obtain ⟨j, ob, hj, rfl, rfl, HOB, HNE, HBr⟩ := hrel
  have HBEr := Lh (HBE2.out.trans (HBr.out.mono HBE2.out.size))
  have HXXr := Lh (HXX.out.to HBr.out)
  have HX2r := Lh (HX2.out.to HBr.out)
  have x2 := HX2r.out.cell 2 rfl
  have p0 := HXXr.out.cell 0 rfl
  by_cases hjk : j < k
  ·have hjl : j < l.length := by rw [HN.out]; omega
   have hjI : (j : Int) < (k : Int) := by omega
   have hjn : (j : Int) < (n : Int) := by omega
   obtain ⟨b', o', Ag', cg', An', cn', hA, -, -, e0, e1, -, -, -, -, -⟩ := sect_at (HS2.out.to HBr.out) hjl
   cases hA
   have HON : Hid (openB l (j + 1) = (openB l j || !l[j].frozen)) := Lh (openB_next l hjl)
   obtain ⟨y, hy⟩ : ∃ y, l[j] = y := ⟨_, rfl⟩
   rw [hy] at e0 e1 HON
   have HY := Lh hy
   clear hy
   obtain ⟨fy, hfy⟩ : ∃ fy, y.frozen = fy := ⟨_, rfl⟩
   rw [hfy] at e1 HON
   clear hfy
   by_cases hq : y.entry = x.entry
   ·have HE : Hid (secX m h l k x = 4) := Lh (by
     unfold secX
     rw [if_neg (not_not_intro HR.out), if_pos (findP_yes hjk (by rw [HN.out]; omega) (by rw [HY.out]; exact hq))])
    have hqb : (y.entry == x.entry) = true := by rw [beq_iff_eq]; exact hq
    clear hq e1
    go_wp2_with (first | go_quiet (fail) | fail)
    go_ret
    exact ⟨by rw [HE.out]; rfl, Below.dn HBEr.out _⟩
   ·have hqb : (y.entry == x.entry) = false := by rw [beq_eq_false_iff_ne]; exact hq
    have HN2 : Hid (∀ i (hi : i < l.length), i < j + 1 → l[i].entry ≠ x.entry) := Lh (fun i hi h => by
     by_cases hij : i = j
     ·subst hij; rw [HY.out]; exact hq
     ·exact HNE.out i hi (by omega))
    have HO2 : Hid (openB l (j + 1) = (ob || !fy)) := Lh (by rw [HON.out, HOB.out])
    clear hq HON HOB HNE
    cases ob
    ·cases fy
     ·go_upto_region 10 with (first | go_quiet (fail) | fail)
      go_wp2_with fail
      go_roundw
      case rel => exact ⟨j + 1, _, by omega, by go_num, rfl, HO2, HN2, Lh (Below.dn HBr.out _)⟩
      case measure => simp [intOf]; omega
     ·go_upto_region 10 with (first | go_quiet (fail) | fail)
      go_wp2_with fail
      go_roundw
      case rel => exact ⟨j + 1, _, by omega, by go_num, rfl, HO2, HN2, Lh (Below.dn HBr.out _)⟩
      case measure => simp [intOf]; omega
    ·clear e1
     go_upto_region 10 with (first | go_quiet (fail) | fail)
     go_wp2_with fail
     go_roundw
     case rel => exact ⟨j + 1, _, by omega, by go_num, rfl, HO2, HN2, Lh (Below.dn HBr.out _)⟩
     case measure => simp [intOf]; omega
  ·obtain rfl : j = k := by omega
   have HD : Hid (¬ findP l x.entry < (j : Int)) := Lh (findP_no HKL.out (by rw [HX.out]) HNE.out)
   clear HNE x2
   go_upto_region 11 with (fail)
   have p1 := HXXr.out.cell 1 rfl
   have p2 := HXXr.out.cell 2 rfl
   have p3 := HXXr.out.cell 3 rfl
   obtain ⟨cb, hcb⟩ : ∃ cb, (fr && ob) = cb := ⟨_, rfl⟩
   have HCB := Lh hcb
   clear hcb
   go_cut [47] from 43 to 47 (fun v wx => v = .bool cb ∧ wx = wr)
   case first =>
    clear HOB HFR
    cases fr
    ·have HC : Hid (cb = false) := Lh (by rw [← HCB.out]; rfl)
     clear HCB
     go_wp2_with fail
     go_meet
     exact ⟨by rw [HC.out], by first | rfl | trivial⟩
    ·have HC : Hid (ob = cb) := Lh (by rw [← HCB.out]; cases ob <;> rfl)
     clear HCB
     go_wp2_with fail
     go_meet
     exact ⟨by rw [HC.out], by first | rfl | trivial⟩
   case rest =>
   obtain ⟨rfl, rfl⟩ := hcut
   by_cases ho : fr = true ∧ ob = true
   ·have HE : Hid (secX m h l j x = 12) := Lh (by unfold secX; rw [if_neg (not_not_intro HR.out), if_neg HD.out, if_pos ⟨HFR.out.trans ho.1, HOB.out.trans ho.2⟩])
    obtain rfl : cb = true := by rw [← HCB.out, ho.1, ho.2]; rfl
    clear ho
    go_wp2_with fail
    go_ret
    exact ⟨by rw [HE.out]; rfl, HBEr.out⟩
   have HO : Hid (¬ (x.frozen = true ∧ openB l j = true)) := Lh (by rw [HFR.out, HOB.out]; exact ho)
   obtain rfl : cb = false := by rw [← HCB.out]; cases fr <;> cases ob <;> simp_all
   clear ho HCB
   go_upto_region 13 with (fail)
   obtain ⟨ca, hca⟩ : ∃ ca, decide (nv = 0 ∨ nv ≠ nt ∨ (1 < nv ∧ fr = false)) = ca := ⟨_, rfl⟩
   have HCA := Lh hca
   clear hca
   go_cut [71] from 48 to 71 (fun v wx => v = .bool ca ∧ wx = wc)
   case first =>
    clear HOB HFR HO
    by_cases h0 : nv = 0
    ·have HC : Hid (ca = true) := Lh (by rw [← HCA.out]; exact decide_eq_true (.inl h0))
     clear HCA
     subst h0
     go_wp2_with fail
     go_meet
     exact ⟨by rw [HC.out], by first | rfl | trivial⟩
    have hI0 : ¬ (nv : Int) = 0 := by omega
    by_cases h1 : nv ≠ nt
    ·have HC : Hid (ca = true) := Lh (by rw [← HCA.out]; exact decide_eq_true (.inr (.inl h1)))
     have hI1 : ¬ (nv : Int) = (nt : Int) := by omega
     clear h1 h0 HCA
     go_wp2_with fail
     go_meet
     exact ⟨by rw [HC.out]; first | done | rfl | (rw [beq_eq_false_iff_ne.2 hI0]), by first | rfl | trivial⟩
    have h1' : nv = nt := Decidable.not_not.1 h1
    by_cases h2 : 1 < nv
    ·have hI1 : (1 : Int) < (nv : Int) := by omega
     cases fr
     ·have HC : Hid (ca = true) := Lh (by rw [← HCA.out]; exact decide_eq_true (.inr (.inr ⟨h2, rfl⟩)))
      clear h1 h0 h2 HCA
      subst h1'
      go_wp2_with fail
      go_meet
      exact ⟨by rw [HC.out]; first | done | rfl | (rw [beq_eq_false_iff_ne.2 hI0]), by first | rfl | trivial⟩
     ·have HC : Hid (ca = false) := Lh (by rw [← HCA.out]; exact decide_eq_false (fun h => h.elim h0 fun h => h.elim (fun h => h h1') fun h => by cases h.2))
      clear h1 h0 h2 HCA
      subst h1'
      go_wp2_with fail
      go_meet
      exact ⟨by rw [HC.out]; first | done | rfl | (rw [beq_eq_false_iff_ne.2 hI0]), by first | rfl | trivial⟩
    ·have hI1 : ¬ (1 : Int) < (nv : Int) := by omega
     have HC : Hid (ca = false) := Lh (by rw [← HCA.out]; exact decide_eq_false (fun h => h.elim h0 fun h => h.elim (fun h => h h1') fun h => h2 h.1))
     clear h1 h0 h2 HCA
     subst h1'
     go_wp2_with fail
     go_meet
     exact ⟨by rw [HC.out]; first | done | rfl | (rw [beq_eq_false_iff_ne.2 hI0]), by first | rfl | trivial⟩
   case rest =>
   obtain ⟨rfl, rfl⟩ := hcut
   by_cases ha : nv = 0 ∨ nv ≠ nt ∨ (1 < nv ∧ fr = false)
   ·have HE : Hid (secX m h l j x = 1) := Lh (by
     unfold secX
     rw [if_neg (not_not_intro HR.out), if_neg HD.out, if_neg HO.out, HNV.out, HNT.out, HFR.out, if_pos ha])
    obtain rfl : ca = true := by rw [← HCA.out]; exact decide_eq_true ha
    clear ha HCA
    go_wp2_with fail
    go_ret
    exact ⟨by rw [HE.out]; rfl, HBEr.out⟩
   obtain rfl : ca = false := by rw [← HCA.out]; exact decide_eq_false ha
   clear HCA
   have h1 : nv = nt := Decidable.not_not.1 fun e => ha (.inr (.inl e))
   have HA : Hid (¬ (x.vers.length = 0 ∨ x.vers.length ≠ x.texts.length ∨ (1 < x.vers.length ∧ x.frozen = false))) := Lh (by rw [HNV.out, HNT.out, HFR.out]; exact ha)
   clear ha
   subst h1
   by_cases h100 : 100 < nv
   ·have HE : Hid (secX m h l j x = 2) := Lh (by
     unfold secX
     rw [if_neg (not_not_intro HR.out), if_neg HD.out, if_neg HO.out, if_neg HA.out, if_pos (by rw [HNV.out]; exact h100)])
    have hI100 : (100 : Int) < (nv : Int) := by omega
    clear h100
    go_wp2_with fail
    go_ret
    exact ⟨by rw [HE.out]; rfl, HBEr.out⟩
   have hI100 : ¬ (100 : Int) < (nv : Int) := by omega
   have HSV : Hid (secX m h l j x = versE m h x) := Lh (by
    unfold secX
    rw [if_neg (not_not_intro HR.out), if_neg HD.out, if_neg HO.out, if_neg HA.out, if_neg (by rw [HNV.out]; exact h100)])
   clear h100 HOB HD HO HA HFR
   have HVr := Lh (HV2.out.to HBr.out)
   have HTr := Lh (HT2.out.to HBr.out)
   go_wp2_with fail
   clear p0 p1 p2 p3
   obtain ⟨wR, rfl⟩ : ∃ wR : World, wR = wc := ⟨_, rfl⟩
   go_loopw [8] (fun i wr => ∃ q : Nat, q ≤ nv ∧ i = .int .i64 q ∧ Hid (UptoV m h x q) ∧ Hid (Below wR.heap.size wR wr)) (fun i _ => nv - (intOf i).toNat)
   case atStart => exact ⟨0, by omega, rfl, Lh (fun j _ _ hj => absurd hj (Nat.not_lt_zero _)), Lh (Below.refl _ _)⟩
   case round =>
    obtain ⟨q, hq, rfl, HU, HBL⟩ := hrel
    have HBE := Lh (HBEr.out.trans (HBL.out.mono HBEr.out.size))
    have y2 := (HXXr.out.to HBL.out).cell 2 rfl
    by_cases hlt : q < nv
    ·have hqv : q < x.vers.length := by rw [HNV.out]; exact hlt
     have hqt : q < x.texts.length := by rw [HNT.out]; exact hlt
     obtain ⟨bt, ot, Aa, ca, Ab, cb, rfl, -, hbt, e0, e1, ht1, ht2⟩ := text_at (HTr.out.to HBL.out) hqt
     obtain ⟨bv, ov, rfl, -, hbv, -, e9⟩ := int_at (HVr.out.to HBL.out) hqv
     have HE0 := Lh e0
     have HE1 := Lh e1
     have hst := HSX.out.2.2 _ (List.getElem_mem hqt)
     have hct := fun W (hW : Below wr.heap.size wr W) => rhas_any (some ⟨bv, ov, none⟩) cg (x.vers.take q) x.vers[q] W (((HVr.out.to HBL.out).to hW).take q (by omega)) (by rw [List.length_take]; omega)
     rw [List.length_take_of_le (by omega)] at hct
     have HH : Hid (verX m h x.vers q x.vers[q] x.texts[q] ≠ 0 → versE m h x = verX m h x.vers q x.vers[q] x.texts[q]) := Lh (fun h0 => HU.out.hit (by rw [HNV.out, HNT.out]) hqv hqt h0)
     have HNx : Hid (verX m h x.vers q x.vers[q] x.texts[q] = 0 → UptoV m h x (q + 1)) := Lh (fun h0 => HU.out.next hqv hqt h0)
     obtain ⟨y, hy⟩ : ∃ y, x.texts[q] = y := ⟨_, rfl⟩
     obtain ⟨vq, hvq⟩ : ∃ vq, x.vers[q] = vq := ⟨_, rfl⟩
     rw [hvq] at e9 hct HH HNx
     rw [hy] at e0 e1 ht1 ht2 hst HH HNx HE0 HE1
     have hwi := rwithin_any vq 0 2147483647 wr
     have HST := Lh hst
     have HT1 := Lh ht1
     have HT2' := Lh ht2
     have hqI : (q : Int) < (nv : Int) := by omega
     have hqc : q ≤ cg := by omega
     clear hy hvq hst ht1 ht2 hqv hqt HU
     by_cases hrv : 0 ≤ vq ∧ vq ≤ 2147483647
     ·rw [decide_eq_true hrv] at hwi
      have HWI := Lh hwi
      have HRV := Lh hrv
      obtain ⟨dm, hdm⟩ : ∃ dm, decide (vq ∈ x.vers.take q) = dm := ⟨_, rfl⟩
      rw [hdm] at hct
      have HCT := Lh hct
      have HDM := Lh hdm
      have HE9 := Lh e9
      clear hwi hct hrv hdm
      go_wp2_with fail
      refine HWI.out.mono ?_
      rintro e w1 ⟨rfl, rfl⟩
      clear y2
      go_upto_region 22 with (fail)
      refine wp_region_rely [9] (fun i => if i = 9 then SP.val (.bool dm) else SP.any) 10 (by kernel_rfl) (by kernel_rfl) ?_
      intro T _ g hg hgm
      have a2 : ∀ d, (g d).cell? ⟨X, 2, none⟩ = some (.slice (some ⟨bv, ov, none⟩) nv cg) := fun d => ((HXXr.out.to HBL.out).to (hg d)).cell 2 rfl
      have a9 : ∀ d, (g d).cell? ⟨bv, ov + q, none⟩ = some (.int .i64 vq) := fun d => ((hg d).cell (p := ⟨bv, ov + q, none⟩) hbv).trans HE9.out
      repeat (refine wpR_pure (by rfl) fun Kq hq => ?_; go_big_quiet_step (fail); refine wpQuiet_nil (hq _ ?_); clear hq Kq)
      refine wpR_busy (by rfl) (by rfl) (fun d hG K Q hK => ?_) (fun v d hG hp Kr hr => ?_)
      ·go_simp
       go_at_call 77
       refine (HCT.out (g d) (hg d)).mono ?_
       rintro e V1 ⟨rfl, rfl⟩
       go_simp
       exact hK _ _ (Below.refl _ _) rfl
      have hp : v = .bool dm := hp
      subst hp
      (try clear hp); clear hG
      simp only [Act.put, sA0, sZ0, sS0]
      refine hr _ ?_
      clear hr Kr
      refine wpR_end (by kernel_rfl) (fun d hG => ?_) _
      clear a2 a9 e0 e1 e9
      have HBg := Lh (hg d)
      have HB2 := Lh (HBL.out.trans ((hg d).mono HBL.out.size))
      have HBE3 := Lh (HBEr.out.trans (HB2.out.mono HBEr.out.size))
      clear hG hgm hg
      unfold Exit.then
      generalize g d = w5 at *
      clear g
      cases dm
      case true =>
       have HE : Hid (versE m h x = 4) := Lh (by
        have e : verX m h x.vers q vq y = 4 := by unfold verX; rw [if_neg (not_not_intro HRV.out), if_pos (of_decide_eq_true HDM.out)]
        rw [HH.out (by rw [e]; decide), e])
       go_wp2_with fail
       go_ret
       exact ⟨by rw [HSV.out, HE.out]; rfl, HBE3.out⟩
      have HE : Hid (verX m h x.vers q vq y = wrongE m h y.a y.b) := Lh (by unfold verX; rw [if_neg (not_not_intro HRV.out), if_neg (of_decide_eq_false HDM.out)])
      obtain ⟨E, hE⟩ : ∃ E, wrongE m h y.a y.b = E := ⟨_, rfl⟩
      have HEE := Lh hE
      rw [hE] at HE
      clear hE
      go_upto_region 24 with (fail)
      refine wp_region_rely [6] (fun i => if i = 6 then SP.val (.int .i64 E) else SP.any) 8 (by kernel_rfl) (by kernel_rfl) ?_
      intro T _ g hg hgm
      have a0 : ∀ d, (g d).cell? ⟨w.heap.size, 0, none⟩ = some (.int .i64 m) := fun d => (((HX2r.out.to HBL.out).to HBg.out).to (hg d)).cell 0 rfl
      have a1 : ∀ d, (g d).cell? ⟨w.heap.size, 1, none⟩ = some (.int .i64 h) := fun d => (((HX2r.out.to HBL.out).to HBg.out).to (hg d)).cell 1 rfl
      have a2 : ∀ d, (g d).cell? ⟨w.heap.size, 2, none⟩ = some (.slice (some ⟨b, o, none⟩) n c) := fun d => (((HX2r.out.to HBL.out).to HBg.out).to (hg d)).cell 2 rfl
      have a3 : ∀ d, (g d).cell? ⟨X, 3, none⟩ = some (.slice (some ⟨bt, ot, none⟩) nv cn) := fun d => (((HXXr.out.to HBL.out).to HBg.out).to (hg d)).cell 3 rfl
      have a4 : ∀ d, (g d).cell? ⟨bt, ot + q * 2, none⟩ = some (.slice Aa y.a.length ca) := fun d => ((HBg.out.trans ((hg d).mono HBg.out.size)).cell (p := ⟨bt, ot + q * 2, none⟩) hbt).trans HE0.out
      have a5 : ∀ d, (g d).cell? ⟨bt, ot + q * 2 + 1, none⟩ = some (.slice Ab y.b.length cb) := fun d => ((HBg.out.trans ((hg d).mono HBg.out.size)).cell (p := ⟨bt, ot + q * 2 + 1, none⟩) hbt).trans HE1.out
      repeat (refine wpR_pure (by rfl) fun Kq hq => ?_; go_big_quiet_step (fail); refine wpQuiet_nil (hq _ ?_); clear hq Kq)
      refine wpR_busy (by rfl) (by rfl) (fun d hG K Q hK => ?_) (fun v d hG hp Kr hr => ?_)
      ·go_simp
       go_at_call 78
       refine (rwrong28_any Aa Ab ca cb y.a y.b m h (.slice (some ⟨b, o, none⟩) n c) rfl (g d) ((HT1.out.to HBg.out).to (hg d)) ((HT2'.out.to HBg.out).to (hg d)) HST.out.1.1 HST.out.2.1).mono ?_
       rintro e V1 ⟨rfl, hb1⟩
       rw [HEE.out]
       go_simp
       exact hK _ _ hb1 rfl
      have hp : v = .int .i64 E := hp
      subst hp
      (try clear hp); clear hG
      simp only [Act.put, sA0, sZ0, sS0]
      refine hr _ ?_
      clear hr Kr
      repeat (refine wpR_pure (by rfl) fun Kq hq => ?_; go_big_quiet_step (fail); refine wpQuiet_nil (hq _ ?_); clear hq Kq)
      refine wpR_end (by kernel_rfl) (fun d hG => ?_) _
      clear a0 a1 a2 a3 a4 a5
      have HB4 := Lh (HB2.out.trans ((hg d).mono HB2.out.size))
      have HBE4 := Lh (HBEr.out.trans (HB4.out.mono HBEr.out.size))
      clear hG hg hgm
      unfold Exit.then
      generalize g d = w6 at *
      clear g
      by_cases hE0 : E = 0
      ·subst hE0
       have HU2 : Hid (UptoV m h x (q + 1)) := Lh (HNx.out HE.out)
       clear HH HNx
       go_wp2_with fail
       go_roundw
       case rel => exact ⟨q + 1, by omega, by go_num, HU2, HB4⟩
       case measure => simp [intOf]; omega
      ·have HVE : Hid (versE m h x = E) := Lh (by rw [HH.out (by rw [HE.out]; exact hE0), HE.out])
       have hEb : (E != 0) = true := by simpa using hE0
       clear HH HNx
       go_wp2_with fail
       go_ret
       exact ⟨by rw [HSV.out, HVE.out]; rfl, HBE4.out⟩
     ·rw [decide_eq_false hrv] at hwi
      have HWI := Lh hwi
      have HE : Hid (versE m h x = 5) := Lh (by
       have e : verX m h x.vers q vq y = 5 := by unfold verX; rw [if_pos hrv]
       rw [HH.out (by rw [e]; decide), e])
      clear hwi hct hrv HH HNx e0 e1
      go_wp2_with fail
      refine HWI.out.mono ?_
      rintro e w1 ⟨rfl, rfl⟩
      go_wp2_with fail
      go_ret
      exact ⟨by rw [HSV.out, HE.out]; rfl, HBE.out⟩
    ·obtain rfl : q = nv := by omega
     have HE : Hid (versE m h x = 0) := Lh (UptoV.all (by rw [HNV.out, HNT.out]) (by rw [HNV.out]; exact HU.out))
     clear HU
     go_wp2_with fail
     go_ret
     exact ⟨by rw [HSV.out, HE.out]; rfl, HBE.out⟩
end Go.Proofs.YtakaielemicpkaaGreatDoor
