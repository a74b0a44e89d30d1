/- BookPages, walked: it answers true. No condition but what the tables hold.
A slice as an argument, read as plain data, whatever its elements are; its length against the bulk of what is read. No condition.
Lists of numbers as arguments, read as plain data. No condition.
A label as an argument, read as two numbers. No condition.
BookPages: the card holds, for every argument. No condition. -/
import Derived.Test.YtakaielemicpkaaGreatDoorBZc15
import Derived.Deep.Slices
import Derived.Deep.Fields
import Derived.ChangeSame
import Derived.ChangeMaps5
import Derived.OpenShut
namespace Go.Proofs.YtakaielemicpkaaGreatDoor
open Go.RowKit
structure LbP where
 n : Int
 s : Int
instance : Rep LbP where
 size := 2
 R _ _ cs x := cs = [.int .i64 x.n, .int .i64 x.s]
 len := by rintro w S cs s rfl; rfl
 one := by rintro w S cs s rfl u hu; simp at hu; rcases hu with rfl | rfl <;> rfl
 keep := by rintro w w' S cs s h _; exact h
 mono := by rintro w S S' cs s h _; exact h
theorem lb_info : (Tryz.prog.info? 24).map (fun i => (i.zero, i.size, i.bytes)) = some (some (.agg #[.int .i64 0, .int .i64 0]), 2, 16) := by kernel_rfl
def PageP.lb (p : PageP) : LbP := ⟨p.num, p.suf⟩
set_option maxRecDepth 100000 in
set_option maxHeartbeats 16000000 in
theorem bpages_any (A0 : Option Addr) (c0 : Nat) (l0 : List Int) (ln ls : Int) (W1 : World) (hs0 : Sl W1 (fun b => b < W1.heap.size) A0 c0 l0) (hn : I64 ln) (hs : I64 ls) (hT : Tabs W1) :
  Calls Tryz.prog 3 #[.slice A0 l0.length c0, .agg #[.int .i64 ln, .int .i64 ls]] W1 fun e w' => e = .returned (.bool true) ∧ Below W1.heap.size W1 w' := by
 have HT := Lib.hid hT
 have HIN := Lib.hid hn
 have HIS := Lib.hid hs
 obtain ⟨Wa, hWa⟩ : ∃ Wa, W1.alloc (.cells #[.int .i64 ln, .int .i64 ls] 24) = Wa := ⟨_, rfl⟩
 obtain ⟨B, hB⟩ : ∃ B, W1.heap.size = B := ⟨_, rfl⟩
 have hba : Below W1.heap.size W1 Wa := by rw [← hWa]; exact (Below.refl _ _).alloc (Nat.le_refl _) _
 have hxl : ABox Wa B 24 [.int .i64 ln, .int .i64 ls] := by rw [← hWa, ← hB]; exact heap_alloc_new W1 _
 have HI0 := Lib.hid (hs0.to hba)
 have HTa := Lib.hid (hT.to hba)
 have HBa := Lib.hid hba
 have HXL := Lib.hid hxl
 clear hT hs0 hn hs
 go_enter Tryz.func3, Tryz.ntmps3
 go_upto_region 1 with (fail)
 try rw [hWa]
 try rw [hB]
 clear hWa hB hba hxl
 go_upto_region 2 with (first
  |(go_at_call 9; refine (gbook_any A0 c0 l0 Wa HI0.out).mono ?_; rintro e V1 ⟨m, h, Ab1, cb1, ss, rfl, hg, hs, hb⟩; have HG := Lib.hid hg; have HV1 := Lib.hid hb; have hl := LM.fresh (m := m) (h := h) (⟨HTa.out.to hb, hs.mono fun i hi _ => hi.2⟩ : SM V1 Ab1 cb1 ss); clear hg hs hb)
  | fail)
 obtain ⟨W2, hW⟩ : ∃ W2, V1.alloc (.cells #[.int .i64 m, .int .i64 h, .slice Ab1 ss.length cb1] 27) = W2 := ⟨_, rfl⟩
 obtain ⟨b1, hbk⟩ : ∃ b1, V1.heap.size = b1 := ⟨_, rfl⟩
 rw [hW] at hl
 rw [hW, hbk]
 have hb : Below Wa.heap.size Wa W2 := HV1.out.trans (hl.2.mono HV1.out.size)
 have H1v := Lib.hid hl.1
 rw [hbk] at H1v
 have HXL2 := Lib.hid (HXL.out.to hb)
 have HB : Hid (Below W1.heap.size W1 W2) := Lib.hid (HBa.out.trans (hb.mono HBa.out.size))
 clear hl hb hW hbk HXL HI0 HBa
 have HZ := Lib.hid HG.out.siz
 have HTM := Lib.hid HG.out.tame
 have HOK : Hid (∀ W, Below W2.heap.size W2 W → BookOk W m h Ab1 cb1 ss) := Lib.hid fun W hW => (H1v.out.sm.to hW).bookT HTM.out HZ.out
 have H1x : Hid (ABox W2 b1 27 [.int .i64 m, .int .i64 h, .slice Ab1 ss.length cb1]) := Lib.hid H1v.out.bx
 have HPN : Hid ((pagesB m h ss).length ≤ 1000000) := Lib.hid (by have := HTM.out.pages HZ.out; omega)
 have HR := Lib.hid (rpages_any (HOK.out W2 (Below.refl _ _)))
 have q0 := H1x.out.cell 0 rfl
 have q1 := H1x.out.cell 1 rfl
 have q2 := H1x.out.cell 2 rfl
 go_upto_region 3 with (first
  |(go_at_call 10; refine HR.out.mono ?_; rintro e W3 ⟨v1, rfl, ho, hb⟩; have HO3 := Lib.hid ho; have HB3 := Lib.hid hb; clear ho hb q0 q1 q2)
  | fail)
 clear HR
 obtain ⟨Ap, cp, rfl, hsp⟩ := HO3.out.sl
 have HS3 := Lib.hid hsp
 have hpc : (pagesB m h ss).length ≤ cp := hsp.1
 clear hsp HO3
 have HPR := Lib.hid (pages_any (HOK.out W3 HB3.out))
 have q0 := (H1x.out.to HB3.out).cell 0 rfl
 have q1 := (H1x.out.to HB3.out).cell 1 rfl
 have q2 := (H1x.out.to HB3.out).cell 2 rfl
 go_upto_region 5 with (first
  |(go_at_call 12; refine HPR.out.mono ?_; rintro e W4 ⟨v2, R, rfl, ho, hR, hb⟩; obtain ⟨Aq, cq, rfl, hsq⟩ := ho.sl; have HSA := Lib.hid (samePages_any Aq Ap cq cp _ (pagesB m h ss) W4 (hsq.mono fun i hi hl => hl) ((HS3.out.keep (Kept.all hb) hb.size).mono fun i hi hl => hl) rfl (by have := HPN.out; omega) (pages_smallB m h ss) (pages_linesB m h ss)); have HB4 : Hid (Below W2.heap.size W2 W4) := Lib.hid (HB3.out.trans (hb.mono HB3.out.size)); have HS4 := Lib.hid (HS3.out.keep (Kept.all hb) hb.size); clear ho hR hb hsq q0 q1 q2)
  |(go_at_call 11; refine HSA.out.mono ?_; rintro e W5 ⟨rfl, hb⟩; have HB5 : Hid (Below W2.heap.size W2 W5) := Lib.hid (HB4.out.trans (hb.mono HB4.out.size)); have HS5 := Lib.hid (HS4.out.keep (Kept.all hb) hb.size); clear hb HSA)
  | fail)
 clear HPR HS3 HB3 HS4 HB4
 obtain ⟨a3, ha3⟩ : ∃ a3, aro ln 30 = a3 := ⟨_, rfl⟩
 obtain ⟨a12, ha12⟩ : ∃ a12, aro ls 12 = a12 := ⟨_, rfl⟩
 have HA3 := Lib.hid ha3
 have HA12 := Lib.hid ha12
 have HXL5 := Lib.hid (HXL2.out.to HB5.out)
 clear ha3 ha12 HXL2
 refine wp_region_rely [3, 6, 8] (fun i => if i = 3 then SP.val (.int .i64 a3) else if i = 6 then SP.val (.int .i64 a12) else if i = 8 then SP.own W5.heap.size 24 [(⟨ln, ls⟩ : LbP), ⟨a3, a12⟩] else SP.any) 10 (by kernel_rfl) (by kernel_rfl) ?_
 intro T _ g hg hgm
 have s0 : ∀ d, (g d).cell? ⟨B, 0, none⟩ = some (.int .i64 ln) := fun d => (HXL5.out.to (hg d)).cell 0 rfl
 have s1 : ∀ d, (g d).cell? ⟨B, 1, none⟩ = some (.int .i64 ls) := fun d => (HXL5.out.to (hg d)).cell 1 rfl
 repeat (refine wpR_pure (by rfl) fun Kq hq => ?_; go_big_quiet_step (fail); refine wpQuiet_nil (hq _ ?_); clear hq Kq)
 refine wpR_busy (by rfl) (by rfl) (fun d hG K Q hK => ?_) (fun v d hG hp Kr hr => ?_)
 ·go_simp
  go_at_call 13
  refine (around_any ln 30 (g d) HIN.out (by decide) (by decide)).mono ?_
  rintro e W1 ⟨rfl, rfl⟩
  go_simp
  exact hK _ _ (Below.refl _ _) (by show Value.int .i64 (aro ln 30) = _; rw [HA3.out])
 obtain rfl : v = _ := hp
 (try clear hp); clear hG
 simp only [Act.put, List.setIfInBounds_toArray, List.set_cons_zero, List.set_cons_succ]
 refine hr _ ?_
 clear hr Kr
 repeat (refine wpR_pure (by rfl) fun Kq hq => ?_; go_big_quiet_step (fail); refine wpQuiet_nil (hq _ ?_); clear hq Kq)
 refine wpR_busy (by rfl) (by rfl) (fun d hG K Q hK => ?_) (fun v d hG hp Kr hr => ?_)
 ·go_simp
  go_at_call 13
  refine (around_any ls 12 (g d) HIS.out (by decide) (by decide)).mono ?_
  rintro e W1 ⟨rfl, rfl⟩
  go_simp
  exact hK _ _ (Below.refl _ _) (by show Value.int .i64 (aro ls 12) = _; rw [HA12.out])
 obtain rfl : v = _ := hp
 (try clear hp); clear hG
 simp only [Act.put, List.setIfInBounds_toArray, List.set_cons_zero, List.set_cons_succ]
 refine hr _ ?_
 clear hr Kr
 repeat (refine wpR_pure (by rfl) fun Kq hq => ?_; go_big_quiet_step (fail); refine wpQuiet_nil (hq _ ?_); clear hq Kq)
 refine wpR_busy (by rfl) (by rfl) (fun d hG K Q hK => ?_) (fun v d hG hp Kr hr => ?_)
 ·go_simp
  refine hK _ _ ((Below.refl _ _).alloc (Nat.le_refl _) _) (show Own _ _ _ _ _ from ?_)
  refine Own.lit (α := LbP) (g d) W5.heap.size 24 #[.int .i64 ln, .int .i64 ls, .int .i64 a3, .int .i64 a12] [⟨ln, ls⟩, ⟨a3, a12⟩] (hg d).size (by simp [maxLen]) rfl (by intro u hu; simp at hu; rcases hu with rfl | rfl | rfl | rfl <;> rfl) (fun i hi => ?_)
  have hi2 : i = 0 ∨ i = 1 := by simp at hi; omega
  rcases hi2 with rfl | rfl <;> rfl
 obtain ⟨A7, c7, rfl, -⟩ := (show Own (g d) W5.heap.size 24 v [(⟨ln, ls⟩ : LbP), ⟨a3, a12⟩] from hp).form
 (try clear hp); clear hG
 simp only [Act.put, List.setIfInBounds_toArray, List.set_cons_zero, List.set_cons_succ]
 refine hr _ ?_
 clear hr Kr
 repeat (refine wpR_pure (by rfl) fun Kq hq => ?_; go_big_quiet_step (fail); refine wpQuiet_nil (hq _ ?_); clear hq Kq)
 refine wpR_end (by kernel_rfl) (fun d hG => ?_) _
 have HL0 : Hid (Own (g d) W5.heap.size 24 (.slice A7 2 c7) [(⟨ln, ls⟩ : LbP), ⟨a3, a12⟩]) := Lib.hid (hG 8)
 clear s0 s1
 have HBd := Lib.hid (hg d)
 clear hG hg hgm
 unfold Exit.then
 have HB6 : Hid (Below W2.heap.size W2 (g d)) := Lib.hid (HB5.out.trans (HBd.out.mono HB5.out.size))
 have HS6 := Lib.hid (HS5.out.keep (Kept.all HBd.out) HBd.out.size)
 have HZ5 : Hid (W5.heap.size ≤ (g d).heap.size) := Lib.hid HBd.out.size
 generalize g d = W6 at *
 clear g
 obtain ⟨ps, hps⟩ : ∃ ps, pagesB m h ss = ps := ⟨_, rfl⟩
 have HPS := Lib.hid hps
 have HSM := Lib.hid (pages_smallB m h ss)
 have HSL := Lib.hid (pages_linesB m h ss)
 have HSB : Hid (Sl W5 (fun b => b < W5.heap.size) Ap cp (pagesB m h ss)) := Lib.hid (HS5.out.mono fun i _ hl => hl)
 rw [hps] at HSB HPN hpc HSM HSL
 clear HS5 HS6
 rw [hps]
 clear hps
 obtain ⟨np, hnp⟩ : ∃ np, ps.length = np := ⟨_, rfl⟩
 have HNP := Lib.hid hnp
 rw [hnp] at HPN hpc ⊢
 have hpn := HPN.out
 have HK6 : Hid (KS (fun i => i < W5.heap.size) W5 W6) := Lib.hid (KS.of_below HBd.out _)
 clear hnp HBd
 go_wp2_with fail
 go_loopw [7, 8] (fun v7 v8 wr => ∃ k : Nat, v8 = .int .i64 (k : Int) ∧ k ≤ np ∧ Hid (Own wr W5.heap.size 24 v7 ([(⟨ln, ls⟩ : LbP), ⟨a3, a12⟩] ++ (ps.take k).map PageP.lb)) ∧ Hid (Below W2.heap.size W2 wr) ∧ Hid (KS (fun i => i < W5.heap.size) W5 wr)) (fun _ v8 _ => np - (intOf v8).toNat)
 case atStart => exact ⟨0, rfl, Nat.zero_le _, HL0, HB6, HK6⟩
 case round =>
  clear HL0 HB6 HK6
  obtain ⟨k, rfl, hk, HO, HBr, HKr⟩ := hrel
  have hlen : ([(⟨ln, ls⟩ : LbP), ⟨a3, a12⟩] ++ (ps.take k).map PageP.lb).length = k + 2 := by
   rw [List.length_append, List.length_map, List.length_take, HNP.out, Nat.min_eq_left hk]; simp; omega
  have HLEN := Lib.hid hlen
  obtain ⟨A7, c7, hv7, -, hc7, hc7m⟩ := HO.out.form
  rw [hlen] at hv7 hc7
  subst hv7
  clear hlen
  by_cases hlt : k < np
  ·have hkl : k < ps.length := by rw [HNP.out]; exact hlt
   obtain ⟨b, o, A1, c1, A2, c2, rfl, -, hbb, e0, e1, e2, e3, e4, e5, ha, hb⟩ := pageS_at (HSB.out.keep HKr.out.kept HKr.out.size) hkl
   have htk := List.take_succ_eq_append_getElem hkl
   obtain ⟨p, hp⟩ : ∃ p, ps[k] = p := ⟨_, rfl⟩
   rw [hp] at e0 e1 htk
   have HTK := Lib.hid htk
   have hkI : (k : Int) < (np : Int) := by omega
   clear e2 e3 e4 e5 ha hb hp hbb htk
   have HZr : Hid (W5.heap.size ≤ wr.heap.size) := Lib.hid HKr.out.size
   go_wp2_with (first
    |(at_builtin; refine wpList_push (α := LbP) _ rfl (.tmp 38) (.tmp 44) 33 rfl W5.heap.size 24 (.agg #[.int .i64 0, .int .i64 0]) 16 Tryz.underlying33 lb_info rfl (show 0 < 2 by decide) (.slice A7 (k + 2) c7) _ rfl (HO.out.below ((Below.refl _ _).alloc (Nat.le_refl _) (.cells #[.int .i64 p.num, .int .i64 p.suf] 24))) wr.heap.size _ p.lb (0, 0) 24 rfl (heap_alloc_new wr _) rfl (by rw [HLEN.out]; omega) (by rw [HLEN.out]; omega) (by have := HZr.out; simp; omega) _ rfl ?_; intro g5 p5 w5 hown5 hg5 hat5 hlt5; rw [HLEN.out] at hown5 ⊢; have HON : Hid (Own w5 W5.heap.size 24 (.slice (some ⟨g5, 0, none⟩) (k + 2 + 1) p5) ([(⟨ln, ls⟩ : LbP), ⟨a3, a12⟩] ++ (ps.take (k + 1)).map PageP.lb)) := Lib.hid (by rw [HTK.out, List.map_append, ← List.append_assoc]; exact hown5); have hrow : ∀ r, (Value.slice A7 (k + 2) c7).ownBlock = some r → W5.heap.size ≤ r := (fun r hr => (HO.out.lt r hr).1); have HBN : Hid (Below W2.heap.size W2 w5) := Lib.hid ((HBr.out.trans (((Below.refl _ _).alloc (Nat.le_refl _) _).mono HBr.out.size)).grown hg5 (by have := HBr.out.size; simp; omega) (fun r hr => by have := hrow r hr; have := HB5.out.size; omega)); have HKN : Hid (KS (fun i => i < W5.heap.size) W5 w5) := Lib.hid ((HKr.out.trans (KS.alloc _)).trans (KS.grown hg5 (fun r hr (hS : r < W5.heap.size) => by have := hrow r hr; omega))); clear hown5 hg5 hat5 hlt5 hrow)
    | fail)
   go_roundw
   case rel => exact ⟨k + 1, by go_num, by omega, HON, HBN, HKN⟩
   case measure => (first | (simp [intOf]; done) | (simp [intOf]; omega))
  ·obtain rfl : k = np := by omega
   obtain ⟨W7, rfl⟩ : ∃ W : World, W = wr := ⟨_, rfl⟩
   have HB7 := HBr
   have hlab := HO.out.sl
   obtain ⟨ls2, hls2⟩ : ∃ l : List LbP, [(⟨ln, ls⟩ : LbP), ⟨a3, a12⟩] ++ (ps.take k).map PageP.lb = l := ⟨_, rfl⟩
   rw [hls2] at hlab HLEN
   obtain ⟨A8, c8, e8, hs8⟩ := hlab
   rw [HLEN.out] at e8
   cases e8
   have HSL7 := Lib.hid hs8
   have HX7 : Hid (ABox W7 b1 27 [.int .i64 m, .int .i64 h, .slice Ab1 ss.length cb1]) := Lib.hid (H1x.out.to HB7.out)
   have hkI : ¬ (k : Int) < (k : Int) := by omega
   clear hls2 hs8 HBr HKr HO
   go_wp2_with fail
   go_loopw [9] (fun v9 wr => ∃ j : Nat, v9 = .int .i64 (j : Int) ∧ j ≤ k + 2 ∧ Hid (Below W7.heap.size W7 wr)) (fun v9 _ => k + 2 - (intOf v9).toNat)
   case atStart => exact ⟨0, rfl, Nat.zero_le _, Lib.hid (Below.refl _ _)⟩
   case round =>
    obtain ⟨j, rfl, hj, HBj⟩ := hrel
    by_cases hjl : j < k + 2
    ·have hjk : j < ls2.length := by rw [HLEN.out]; exact hjl
     obtain ⟨lb, lo, es, hA7, -, hlbl, hes, hce⟩ := (HSL7.out.keep (Kept.all HBj.out) HBj.out.size).at_ hjk
     obtain ⟨x, hx⟩ : ∃ x, ls2[j] = x := ⟨_, rfl⟩
     rw [hx] at hes
     obtain rfl : es = [.int .i64 x.n, .int .i64 x.s] := hes
     subst hA7
     have c0 : wr.cell? ⟨lb, lo + j * 2, none⟩ = some (.int .i64 x.n) := hce 0 _ rfl
     have c1 : wr.cell? ⟨lb, lo + j * 2 + 1, none⟩ = some (.int .i64 x.s) := hce 1 _ rfl
     have HC : Hid (lb < wr.heap.size ∧ wr.cell? ⟨lb, lo + j * 2, none⟩ = some (.int .i64 x.n) ∧ wr.cell? ⟨lb, lo + j * 2 + 1, none⟩ = some (.int .i64 x.s)) := Lib.hid ⟨hlbl, c0, c1⟩
     obtain ⟨o9, ho9⟩ : ∃ o, pageAt x.n x.s (pagesB m h ss) = o := ⟨_, rfl⟩
     have hsm9 : SmallP (o9.getD ⟨0, 0, 0, 0, [], []⟩) ∧ SmallL (o9.getD ⟨0, 0, 0, 0, [], []⟩).body ∧ SmallL (o9.getD ⟨0, 0, 0, 0, [], []⟩).notes := by
      cases o9 with
      | none => exact ⟨⟨Nat.zero_le _, Nat.zero_le _⟩, fun _ h => (nomatch h), fun _ h => (nomatch h)⟩
      | some z =>
       have hz : z ∈ ps := by rw [HPS.out] at ho9; exact List.mem_of_find?_eq_some ho9
       exact ⟨HSM.out z hz, HSL.out z hz⟩
     have HPA : Hid (∀ W, Below W2.heap.size W2 W → Calls Tryz.prog 14 #[.agg #[.int .i64 m, .int .i64 h, .slice Ab1 ss.length cb1], .agg #[.int .i64 x.n, .int .i64 x.s]] W fun e W' => PgP W.heap.size o9 e W' ∧ Below W.heap.size W W') := Lib.hid fun W hW => by
      have := page_any (HOK.out W hW) x.n x.s
      rwa [ho9] at this
     have HPB : Hid (∀ W, Below W2.heap.size W2 W → Calls Tryz.prog 15 #[.agg #[.int .i64 m, .int .i64 h, .slice Ab1 ss.length cb1], .agg #[.int .i64 x.n, .int .i64 x.s]] W fun e W' => PgP W.heap.size o9 e W' ∧ Below W.heap.size W W') := Lib.hid fun W hW => by
      have := rpage_any (HOK.out W hW) x.n x.s
      rwa [ho9] at this
     unfold PgP at HPA HPB
     obtain ⟨z, hz⟩ : ∃ z, o9.getD ⟨0, 0, 0, 0, [], []⟩ = z := ⟨_, rfl⟩
     obtain ⟨q, hq⟩ : ∃ q, o9.isSome = q := ⟨_, rfl⟩
     rw [hz] at hsm9 HPA HPB
     rw [hq] at HPA HPB
     have HSM9 := Lib.hid hsm9
     have HBw : Hid (Below W2.heap.size W2 wr) := Lib.hid (HB7.out.trans (HBj.out.mono HB7.out.size))
     have hjI : (j : Int) < ((k + 2 : Nat) : Int) := by omega
     clear hz hq hsm9 ho9 hx hce hlbl c0 c1
     go_upto_region 13 with (fail)
     have hjd : decide ((j : Int) < (k : Int) + 2) = true := decide_eq_true (by omega)
     rw [hjd]
     clear hjd
     have HSSa : Hid (∀ W, Below wr.heap.size wr W → W.cell? ⟨b1, 0, none⟩ = some (.int .i64 m) ∧ W.cell? ⟨b1, 1, none⟩ = some (.int .i64 h) ∧ W.cell? ⟨b1, 2, none⟩ = some (.slice Ab1 ss.length cb1) ∧ W.cell? ⟨lb, lo + j * 2, none⟩ = some (.int .i64 x.n) ∧ W.cell? ⟨lb, lo + j * 2 + 1, none⟩ = some (.int .i64 x.s)) := Lib.hid fun W hW =>
      ⟨((HX7.out.to HBj.out).to hW).cell 0 rfl, ((HX7.out.to HBj.out).to hW).cell 1 rfl, ((HX7.out.to HBj.out).to hW).cell 2 rfl, (hW.cell (p := ⟨lb, lo + j * 2, none⟩) HC.out.1).trans HC.out.2.1, (hW.cell (p := ⟨lb, lo + j * 2 + 1, none⟩) HC.out.1).trans HC.out.2.2⟩
     have HBwa := HBw
     refine region_cut (fun a a' w' => ∃ Aa ca Ab cb bn, a' = (((((((((((a.put (some 53) (.agg #[.int .i64 m, .int .i64 h, .slice Ab1 ss.length cb1])).put (some 54) (.slice (some ⟨lb, lo, none⟩) (k + 2) c7)).put (some 55) (.int .i64 (j : Int))).put (some 56) (.pointer (some ⟨lb, lo + j * 2, none⟩))).put (some 57) (.agg #[.int .i64 x.n, .int .i64 x.s])).put (some 58) (.tuple #[.agg #[.int .i64 z.num, .int .i64 z.suf, .int .i64 z.entry, .int .i64 z.ver, .slice Aa z.body.length ca, .slice Ab z.notes.length cb], .bool q])).put (some 52) (.tuple #[.agg #[.int .i64 z.num, .int .i64 z.suf, .int .i64 z.entry, .int .i64 z.ver, .slice Aa z.body.length ca, .slice Ab z.notes.length cb], .bool q])).put (some 59) (.agg #[.int .i64 z.num, .int .i64 z.suf, .int .i64 z.entry, .int .i64 z.ver, .slice Aa z.body.length ca, .slice Ab z.notes.length cb])).put (some 60) (.bool q)).put (some 10) (.pointer (some ⟨bn, 0, none⟩))).put (some 11) (.bool q)) ∧ ABox w' bn 36 [.int .i64 z.num, .int .i64 z.suf, .int .i64 z.entry, .int .i64 z.ver, .slice Aa z.body.length ca, .slice Ab z.notes.length cb] ∧ Sl w' (fun i => i < w'.heap.size) Aa ca z.body ∧ Sl w' (fun i => i < w'.heap.size) Ab cb z.notes ∧ Below wr.heap.size wr w') ?_ ?_
     ·refine wp_region_D (fun w' => w'.cell? ⟨b1, 0, none⟩ = some (.int .i64 m) ∧ w'.cell? ⟨b1, 1, none⟩ = some (.int .i64 h) ∧ w'.cell? ⟨b1, 2, none⟩ = some (.slice Ab1 ss.length cb1) ∧ w'.cell? ⟨lb, lo + j * 2, none⟩ = some (.int .i64 x.n) ∧ w'.cell? ⟨lb, lo + j * 2 + 1, none⟩ = some (.int .i64 x.s)) (fun i => decide (i < 7) || decide (i = 9)) (by kernel_rfl) ?_
      obtain ⟨V0, hV0⟩ : ∃ V0, wr.drew = V0 := ⟨_, rfl⟩
      have hbd : Below wr.heap.size wr V0 := by rw [← hV0]; exact (Below.refl _ _).drew
      have HB0 := Lib.hid hbd
      rw [hV0]
      clear hV0 hbd
      have hS0 : V0.cell? ⟨b1, 0, none⟩ = some (.int .i64 m) ∧ V0.cell? ⟨b1, 1, none⟩ = some (.int .i64 h) ∧ V0.cell? ⟨b1, 2, none⟩ = some (.slice Ab1 ss.length cb1) ∧ V0.cell? ⟨lb, lo + j * 2, none⟩ = some (.int .i64 x.n) ∧ V0.cell? ⟨lb, lo + j * 2 + 1, none⟩ = some (.int .i64 x.s) := HSSa.out V0 HB0.out
      have HS0 := Lib.hid hS0
      refine wpAnyE_take (i := 0) (oi := ⟨some 53, Op.load 27 (Operand.tmp 5), 27, _, _, _⟩) (v := ?_) rfl (by kernel_rfl) (by kernel_rfl) (by kernel_rfl) (by kernel_rfl) (by kernel_rfl) (fun _ _ _ h => nomatch h.1) (by rfl) ?hykr13_1 (hS0) ?hrkr13_1
      case hykr13_1 => (intro wS hSw; (have hq0 := hSw.1); (have hq1 := hSw.2.1); (have hq2 := hSw.2.2.1); clear hSw; go_simp; (try with_reducible rfl))
      all_goals try simp only [Act.put, List.setIfInBounds_toArray, List.set_cons_zero, List.set_cons_succ]
      refine wpAnyE_take (i := 1) (oi := ⟨some 54, Op.move (Operand.tmp 7), 33, _, _, _⟩) (v := ?_) rfl (by kernel_rfl) (by kernel_rfl) (by kernel_rfl) (by kernel_rfl) (by kernel_rfl) (fun _ _ _ h => nomatch h.1) (by rfl) ?hykr13_2 (hS0) ?hrkr13_2
      case hykr13_2 => (intro wS hSw; clear hSw; go_simp; (try with_reducible rfl))
      all_goals try simp only [Act.put, List.setIfInBounds_toArray, List.set_cons_zero, List.set_cons_succ]
      refine wpAnyE_take (i := 2) (oi := ⟨some 55, Op.move (Operand.tmp 9), 3, _, _, _⟩) (v := ?_) rfl (by kernel_rfl) (by kernel_rfl) (by kernel_rfl) (by kernel_rfl) (by kernel_rfl) (fun _ _ _ h => nomatch h.1) (by rfl) ?hykr13_3 (hS0) ?hrkr13_3
      case hykr13_3 => (intro wS hSw; clear hSw; go_simp; (try with_reducible rfl))
      all_goals try simp only [Act.put, List.setIfInBounds_toArray, List.set_cons_zero, List.set_cons_succ]
      refine wpAnyE_take (i := 3) (oi := ⟨some 56, Op.indexAddr 33 (Operand.tmp 54) (Operand.tmp 55), 0, _, _, _⟩) (v := ?_) rfl (by kernel_rfl) (by kernel_rfl) (by kernel_rfl) (by kernel_rfl) (by kernel_rfl) (fun _ _ _ h => nomatch h.1) (by rfl) ?hykr13_4 (hS0) ?hrkr13_4
      case hykr13_4 => (intro wS hSw; clear hSw; go_simp; (try with_reducible rfl))
      all_goals try simp only [Act.put, List.setIfInBounds_toArray, List.set_cons_zero, List.set_cons_succ]
      refine wpAnyE_take (i := 4) (oi := ⟨some 57, Op.load 24 (Operand.tmp 56), 24, _, _, _⟩) (v := ?_) rfl (by kernel_rfl) (by kernel_rfl) (by kernel_rfl) (by kernel_rfl) (by kernel_rfl) (fun _ _ _ h => nomatch h.1) (by rfl) ?hykr13_5 (hS0) ?hrkr13_5
      case hykr13_5 => (intro wS hSw; (have hq0 := hSw.2.2.2.1); (have hq1 := hSw.2.2.2.2); clear hSw; go_simp; (try with_reducible rfl))
      all_goals try simp only [Act.put, List.setIfInBounds_toArray, List.set_cons_zero, List.set_cons_succ]
      refine wpAnyD_two (i := 5) (j := 9) (oi := ⟨some 58, Op.call { callee := Callee.value (Operand.func 14), args := #[Operand.tmp 53, Operand.tmp 57], argTypes := #[27, 24] }, 37, _, _, _⟩) (oj := ⟨some 10, Op.alloc 36, 0, _, _, _⟩) (by kernel_rfl) rfl rfl (by rfl) (by rfl) (fun K hK => ?_) (fun K hK => ?_)
      ·go_simp
       go_at_call 14
       refine (HPA.out V0 (HBwa.out.trans (HB0.out.mono HBwa.out.size))).mono ?_
       rintro e V1 ⟨⟨Aa, ca, Ab, cb, rfl, h1, h2⟩, hb⟩
       go_simp
       have HB1 := Lib.hid (HB0.out.trans (hb.mono HB0.out.size))
       have hS1 : V1.cell? ⟨b1, 0, none⟩ = some (.int .i64 m) ∧ V1.cell? ⟨b1, 1, none⟩ = some (.int .i64 h) ∧ V1.cell? ⟨b1, 2, none⟩ = some (.slice Ab1 ss.length cb1) ∧ V1.cell? ⟨lb, lo + j * 2, none⟩ = some (.int .i64 x.n) ∧ V1.cell? ⟨lb, lo + j * 2 + 1, none⟩ = some (.int .i64 x.s) := HSSa.out V1 HB1.out
       have HR1 := Lib.hid (h1.mono (S' := fun i => i < V1.heap.size) fun i _ hl => hl)
       have HR2 := Lib.hid (h2.mono (S' := fun i => i < V1.heap.size) fun i _ hl => hl)
       clear h1 h2 hb
       refine hK _ _ (fun _ => ?_) ?_
       ·exact hS1
       clear hK K
       try simp only [Act.put, List.setIfInBounds_toArray, List.set_cons_zero, List.set_cons_succ]
       refine wpAnyE_take (i := 6) (oi := ⟨some 52, Op.move (Operand.tmp 58), 37, _, _, _⟩) (v := ?_) rfl (by kernel_rfl) (by kernel_rfl) (by kernel_rfl) (by kernel_rfl) (by kernel_rfl) (fun _ _ _ h => nomatch h.1) (by rfl) ?hykr13_6 (hS1) ?hrkr13_6
       case hykr13_6 => (intro wS hSw; clear hSw; go_simp; (try with_reducible rfl))
       all_goals try simp only [Act.put, List.setIfInBounds_toArray, List.set_cons_zero, List.set_cons_succ]
       refine wpAnyF_take (i := 7) (oi := ⟨some 59, Op.extract (Operand.tmp 52) 0, 36, _, _, _⟩) (v := ?_) rfl (by rfl) (by kernel_rfl) (by kernel_rfl) (by kernel_rfl) (fun _ _ _ h => nomatch h.1) (by rfl) ?hykr13_7 ?hrkr13_7
       case hykr13_7 => (intro wS; go_simp; (try with_reducible rfl))
       all_goals try simp only [Act.put, List.setIfInBounds_toArray, List.set_cons_zero, List.set_cons_succ]
       refine wpAnyF_take (i := 8) (oi := ⟨some 60, Op.extract (Operand.tmp 52) 1, 4, _, _, _⟩) (v := ?_) rfl (by rfl) (by kernel_rfl) (by kernel_rfl) (by kernel_rfl) (fun _ _ _ h => nomatch h.1) (by rfl) ?hykr13_8 ?hrkr13_8
       case hykr13_8 => (intro wS; go_simp; (try with_reducible rfl))
       all_goals try simp only [Act.put, List.setIfInBounds_toArray, List.set_cons_zero, List.set_cons_succ]
       refine wpAnyD_one (i := 9) (oi := ⟨some 10, Op.alloc 36, 0, _, _, _⟩) rfl (by kernel_rfl) (by rfl) (fun K hK => ?_)
       go_simp
       obtain ⟨V2, hV⟩ : ∃ V2, (V1.alloc (.cells #[.int .i64 0, .int .i64 0, .int .i64 0, .int .i64 0, .slice none 0 0, .slice none 0 0] 36)) = V2 := ⟨_, rfl⟩
       have hb : Below V1.heap.size V1 V2 := by rw [← hV]; exact (Below.refl _ _).alloc (Nat.le_refl _) _
       have hx : ABox V2 V1.heap.size 36 [.int .i64 0, .int .i64 0, .int .i64 0, .int .i64 0, .slice none 0 0, .slice none 0 0] := by rw [← hV]; exact heap_alloc_new V1 _
       obtain ⟨bn, hbn⟩ : ∃ bn, V1.heap.size = bn := ⟨_, rfl⟩
       have HBN : Hid (wr.heap.size ≤ bn) := Lib.hid (by rw [← hbn]; exact HB1.out.size)
       rw [hV, hbn]
       rw [hbn] at hx
       have HN1 := Lib.hid ((HR1.out.keep (Kept.all hb) hb.size).mono (S' := fun i => i ≠ bn) fun i (hi : i < V1.heap.size) _ => by omega)
       have HN2 := Lib.hid ((HR2.out.keep (Kept.all hb) hb.size).mono (S' := fun i => i ≠ bn) fun i (hi : i < V1.heap.size) _ => by omega)
       have HB2 := Lib.hid (HB1.out.trans (hb.mono HB1.out.size))
       have hS2 : V2.cell? ⟨b1, 0, none⟩ = some (.int .i64 m) ∧ V2.cell? ⟨b1, 1, none⟩ = some (.int .i64 h) ∧ V2.cell? ⟨b1, 2, none⟩ = some (.slice Ab1 ss.length cb1) ∧ V2.cell? ⟨lb, lo + j * 2, none⟩ = some (.int .i64 x.n) ∧ V2.cell? ⟨lb, lo + j * 2 + 1, none⟩ = some (.int .i64 x.s) := HSSa.out V2 HB2.out
       have HX2 := Lib.hid hx
       clear hx hb hV hbn
       refine hK _ _ (fun _ => ?_) ?_
       ·exact hS2
       clear hK K
       try simp only [Act.put, List.setIfInBounds_toArray, List.set_cons_zero, List.set_cons_succ]
       refine wpAnyD_one (i := 10) (oi := ⟨none, Op.store 36 (Operand.tmp 10) (Operand.tmp 59), 0, _, _, _⟩) rfl (by kernel_rfl) (by rfl) (fun K hK => ?_)
       have hy0 := HX2.out
       have z0 := hy0.cell 0 rfl
       have f0 := hy0.fz 0
       have hy1 := hy0.set 0 (.int .i64 z.num)
       have z1 := hy1.cell 1 rfl
       have f1 := hy1.fz 1
       have hy2 := hy1.set 1 (.int .i64 z.suf)
       have z2 := hy2.cell 2 rfl
       have f2 := hy2.fz 2
       have hy3 := hy2.set 2 (.int .i64 z.entry)
       have z3 := hy3.cell 3 rfl
       have f3 := hy3.fz 3
       have hy4 := hy3.set 3 (.int .i64 z.ver)
       have z4 := hy4.cell 4 rfl
       have f4 := hy4.fz 4
       have hy5 := hy4.set 4 (.slice Aa z.body.length ca)
       have z5 := hy5.cell 5 rfl
       have f5 := hy5.fz 5
       have hy6 := hy5.set 5 (.slice Ab z.notes.length cb)
       have HXF := Lib.hid hy6
       clear hy0 hy1 hy2 hy3 hy4 hy5 hy6
       go_simp
       clear z0 z1 z2 z3 z4 z5 f0 f1 f2 f3 f4 f5
       refine hK _ _ (fun h => absurd h (by decide)) ?_
       clear hK K
       try simp only [Act.put]
       refine wpAnyD_one (i := 11) (oi := ⟨some 11, Op.assign (Operand.tmp 60), 4, _, _, _⟩) rfl (by kernel_rfl) (by rfl) (fun K hK => ?_)
       go_simp
       refine hK _ _ (fun h => absurd h (by decide)) ?_
       clear hK K
       try simp only [Act.put, List.setIfInBounds_toArray, List.set_cons_zero, List.set_cons_succ]
       refine wpAnyD_done (by kernel_rfl) ?_ _
       refine ⟨rfl, Aa, ca, Ab, cb, bn, rfl, HXF.out, ?_, ?_, ?_⟩
       ·exact (HN1.out.keep (fun i hi _ => heap6 _ _ _ _ _ _ _ _ hi) (by simp)).mono fun i _ hl => hl
       ·exact (HN2.out.keep (fun i hi _ => heap6 _ _ _ _ _ _ _ _ hi) (by simp)).mono fun i _ hl => hl
       ·exact below6 HB2.out HBN.out _ _ _ _ _ _
      ·go_simp
       obtain ⟨V1, hV⟩ : ∃ V1, (V0.alloc (.cells #[.int .i64 0, .int .i64 0, .int .i64 0, .int .i64 0, .slice none 0 0, .slice none 0 0] 36)) = V1 := ⟨_, rfl⟩
       have hb : Below V0.heap.size V0 V1 := by rw [← hV]; exact (Below.refl _ _).alloc (Nat.le_refl _) _
       have hx : ABox V1 V0.heap.size 36 [.int .i64 0, .int .i64 0, .int .i64 0, .int .i64 0, .slice none 0 0, .slice none 0 0] := by rw [← hV]; exact heap_alloc_new V0 _
       obtain ⟨bn, hbn⟩ : ∃ bn, V0.heap.size = bn := ⟨_, rfl⟩
       have HBN : Hid (wr.heap.size ≤ bn) := Lib.hid (by rw [← hbn]; exact HB0.out.size)
       rw [hV, hbn]
       rw [hbn] at hx
       have HB1 := Lib.hid (HB0.out.trans (hb.mono HB0.out.size))
       have hS1 : V1.cell? ⟨b1, 0, none⟩ = some (.int .i64 m) ∧ V1.cell? ⟨b1, 1, none⟩ = some (.int .i64 h) ∧ V1.cell? ⟨b1, 2, none⟩ = some (.slice Ab1 ss.length cb1) ∧ V1.cell? ⟨lb, lo + j * 2, none⟩ = some (.int .i64 x.n) ∧ V1.cell? ⟨lb, lo + j * 2 + 1, none⟩ = some (.int .i64 x.s) := HSSa.out V1 HB1.out
       have HX1 := Lib.hid hx
       clear hx hb hV hbn
       refine hK _ _ (fun _ => ?_) ?_
       ·exact hS1
       clear hK K
       try simp only [Act.put, List.setIfInBounds_toArray, List.set_cons_zero, List.set_cons_succ]
       refine wpAnyD_one (i := 5) (oi := ⟨some 58, Op.call { callee := Callee.value (Operand.func 14), args := #[Operand.tmp 53, Operand.tmp 57], argTypes := #[27, 24] }, 37, _, _, _⟩) rfl (by kernel_rfl) (by rfl) (fun K hK => ?_)
       go_simp
       go_at_call 14
       refine (HPA.out V1 (HBwa.out.trans (HB1.out.mono HBwa.out.size))).mono ?_
       rintro e V2 ⟨⟨Aa, ca, Ab, cb, rfl, h1, h2⟩, hb⟩
       go_simp
       have HB2 := Lib.hid (HB1.out.trans (hb.mono HB1.out.size))
       have hS2 : V2.cell? ⟨b1, 0, none⟩ = some (.int .i64 m) ∧ V2.cell? ⟨b1, 1, none⟩ = some (.int .i64 h) ∧ V2.cell? ⟨b1, 2, none⟩ = some (.slice Ab1 ss.length cb1) ∧ V2.cell? ⟨lb, lo + j * 2, none⟩ = some (.int .i64 x.n) ∧ V2.cell? ⟨lb, lo + j * 2 + 1, none⟩ = some (.int .i64 x.s) := HSSa.out V2 HB2.out
       have HX2 := Lib.hid (HX1.out.to hb)
       have HN1 := Lib.hid (h1.mono (S' := fun i => i ≠ bn) fun i (hi : V1.heap.size ≤ i) _ => by have := HX1.out.lt; omega)
       have HN2 := Lib.hid (h2.mono (S' := fun i => i ≠ bn) fun i (hi : V1.heap.size ≤ i) _ => by have := HX1.out.lt; omega)
       clear h1 h2 hb
       refine hK _ _ (fun _ => ?_) ?_
       ·exact hS2
       clear hK K
       try simp only [Act.put, List.setIfInBounds_toArray, List.set_cons_zero, List.set_cons_succ]
       refine wpAnyE_take (i := 6) (oi := ⟨some 52, Op.move (Operand.tmp 58), 37, _, _, _⟩) (v := ?_) rfl (by kernel_rfl) (by kernel_rfl) (by kernel_rfl) (by kernel_rfl) (by kernel_rfl) (fun _ _ _ h => nomatch h.1) (by rfl) ?hykr13_9 (hS2) ?hrkr13_9
       case hykr13_9 => (intro wS hSw; clear hSw; go_simp; (try with_reducible rfl))
       all_goals try simp only [Act.put, List.setIfInBounds_toArray, List.set_cons_zero, List.set_cons_succ]
       refine wpAnyF_take (i := 7) (oi := ⟨some 59, Op.extract (Operand.tmp 52) 0, 36, _, _, _⟩) (v := ?_) rfl (by rfl) (by kernel_rfl) (by kernel_rfl) (by kernel_rfl) (fun _ _ _ h => nomatch h.1) (by rfl) ?hykr13_10 ?hrkr13_10
       case hykr13_10 => (intro wS; go_simp; (try with_reducible rfl))
       all_goals try simp only [Act.put, List.setIfInBounds_toArray, List.set_cons_zero, List.set_cons_succ]
       refine wpAnyF_take (i := 8) (oi := ⟨some 60, Op.extract (Operand.tmp 52) 1, 4, _, _, _⟩) (v := ?_) rfl (by rfl) (by kernel_rfl) (by kernel_rfl) (by kernel_rfl) (fun _ _ _ h => nomatch h.1) (by rfl) ?hykr13_11 ?hrkr13_11
       case hykr13_11 => (intro wS; go_simp; (try with_reducible rfl))
       all_goals try simp only [Act.put, List.setIfInBounds_toArray, List.set_cons_zero, List.set_cons_succ]
       refine wpAnyD_one (i := 10) (oi := ⟨none, Op.store 36 (Operand.tmp 10) (Operand.tmp 59), 0, _, _, _⟩) rfl (by kernel_rfl) (by rfl) (fun K hK => ?_)
       have hy0 := HX2.out
       have z0 := hy0.cell 0 rfl
       have f0 := hy0.fz 0
       have hy1 := hy0.set 0 (.int .i64 z.num)
       have z1 := hy1.cell 1 rfl
       have f1 := hy1.fz 1
       have hy2 := hy1.set 1 (.int .i64 z.suf)
       have z2 := hy2.cell 2 rfl
       have f2 := hy2.fz 2
       have hy3 := hy2.set 2 (.int .i64 z.entry)
       have z3 := hy3.cell 3 rfl
       have f3 := hy3.fz 3
       have hy4 := hy3.set 3 (.int .i64 z.ver)
       have z4 := hy4.cell 4 rfl
       have f4 := hy4.fz 4
       have hy5 := hy4.set 4 (.slice Aa z.body.length ca)
       have z5 := hy5.cell 5 rfl
       have f5 := hy5.fz 5
       have hy6 := hy5.set 5 (.slice Ab z.notes.length cb)
       have HXF := Lib.hid hy6
       clear hy0 hy1 hy2 hy3 hy4 hy5 hy6
       go_simp
       clear z0 z1 z2 z3 z4 z5 f0 f1 f2 f3 f4 f5
       refine hK _ _ (fun h => absurd h (by decide)) ?_
       clear hK K
       try simp only [Act.put]
       refine wpAnyD_one (i := 11) (oi := ⟨some 11, Op.assign (Operand.tmp 60), 4, _, _, _⟩) rfl (by kernel_rfl) (by rfl) (fun K hK => ?_)
       go_simp
       refine hK _ _ (fun h => absurd h (by decide)) ?_
       clear hK K
       try simp only [Act.put, List.setIfInBounds_toArray, List.set_cons_zero, List.set_cons_succ]
       refine wpAnyD_done (by kernel_rfl) ?_ _
       refine ⟨rfl, Aa, ca, Ab, cb, bn, rfl, HXF.out, ?_, ?_, ?_⟩
       ·exact (HN1.out.keep (fun i hi _ => heap6 _ _ _ _ _ _ _ _ hi) (by simp)).mono fun i _ hl => hl
       ·exact (HN2.out.keep (fun i hi _ => heap6 _ _ _ _ _ _ _ _ hi) (by simp)).mono fun i _ hl => hl
       ·exact below6 HB2.out HBN.out _ _ _ _ _ _
     rintro _ Wx ⟨Aa, ca, Ba, da, oa, rfl, hx, h1, h2, hb⟩
     have HXa := Lib.hid hx
     have HPa := Lib.hid h1
     have HQa := Lib.hid h2
     have HDa := Lib.hid hb
     clear hx h1 h2 hb
     simp only [Act.put, List.setIfInBounds_toArray, List.set_cons_zero, List.set_cons_succ]
     have HBwb : Hid (Below W2.heap.size W2 Wx) := Lib.hid (HBw.out.trans (HDa.out.mono HBw.out.size))
     have HSSb : Hid (∀ W, Below Wx.heap.size Wx W → W.cell? ⟨b1, 0, none⟩ = some (.int .i64 m) ∧ W.cell? ⟨b1, 1, none⟩ = some (.int .i64 h) ∧ W.cell? ⟨b1, 2, none⟩ = some (.slice Ab1 ss.length cb1) ∧ W.cell? ⟨lb, lo + j * 2, none⟩ = some (.int .i64 x.n) ∧ W.cell? ⟨lb, lo + j * 2 + 1, none⟩ = some (.int .i64 x.s)) := Lib.hid fun W hW => HSSa.out W (HDa.out.trans (hW.mono HDa.out.size))
     go_upto_region 14 with (fail)
     refine region_cut (fun a a' w' => ∃ Aa ca Ab cb bn, a' = (((((((((((a.put (some 62) (.agg #[.int .i64 m, .int .i64 h, .slice Ab1 ss.length cb1])).put (some 63) (.slice (some ⟨lb, lo, none⟩) (k + 2) c7)).put (some 64) (.int .i64 (j : Int))).put (some 65) (.pointer (some ⟨lb, lo + j * 2, none⟩))).put (some 66) (.agg #[.int .i64 x.n, .int .i64 x.s])).put (some 67) (.tuple #[.agg #[.int .i64 z.num, .int .i64 z.suf, .int .i64 z.entry, .int .i64 z.ver, .slice Aa z.body.length ca, .slice Ab z.notes.length cb], .bool q])).put (some 61) (.tuple #[.agg #[.int .i64 z.num, .int .i64 z.suf, .int .i64 z.entry, .int .i64 z.ver, .slice Aa z.body.length ca, .slice Ab z.notes.length cb], .bool q])).put (some 68) (.agg #[.int .i64 z.num, .int .i64 z.suf, .int .i64 z.entry, .int .i64 z.ver, .slice Aa z.body.length ca, .slice Ab z.notes.length cb])).put (some 69) (.bool q)).put (some 12) (.pointer (some ⟨bn, 0, none⟩))).put (some 13) (.bool q)) ∧ ABox w' bn 36 [.int .i64 z.num, .int .i64 z.suf, .int .i64 z.entry, .int .i64 z.ver, .slice Aa z.body.length ca, .slice Ab z.notes.length cb] ∧ Sl w' (fun i => i < w'.heap.size) Aa ca z.body ∧ Sl w' (fun i => i < w'.heap.size) Ab cb z.notes ∧ Below Wx.heap.size Wx w') ?_ ?_
     ·refine wp_region_D (fun w' => w'.cell? ⟨b1, 0, none⟩ = some (.int .i64 m) ∧ w'.cell? ⟨b1, 1, none⟩ = some (.int .i64 h) ∧ w'.cell? ⟨b1, 2, none⟩ = some (.slice Ab1 ss.length cb1) ∧ w'.cell? ⟨lb, lo + j * 2, none⟩ = some (.int .i64 x.n) ∧ w'.cell? ⟨lb, lo + j * 2 + 1, none⟩ = some (.int .i64 x.s)) (fun i => decide (i < 7) || decide (i = 9)) (by kernel_rfl) ?_
      obtain ⟨V0, hV0⟩ : ∃ V0, Wx.drew = V0 := ⟨_, rfl⟩
      have hbd : Below Wx.heap.size Wx V0 := by rw [← hV0]; exact (Below.refl _ _).drew
      have HB0 := Lib.hid hbd
      rw [hV0]
      clear hV0 hbd
      have hS0 : V0.cell? ⟨b1, 0, none⟩ = some (.int .i64 m) ∧ V0.cell? ⟨b1, 1, none⟩ = some (.int .i64 h) ∧ V0.cell? ⟨b1, 2, none⟩ = some (.slice Ab1 ss.length cb1) ∧ V0.cell? ⟨lb, lo + j * 2, none⟩ = some (.int .i64 x.n) ∧ V0.cell? ⟨lb, lo + j * 2 + 1, none⟩ = some (.int .i64 x.s) := HSSb.out V0 HB0.out
      have HS0 := Lib.hid hS0
      refine wpAnyE_take (i := 0) (oi := ⟨some 62, Op.load 27 (Operand.tmp 5), 27, _, _, _⟩) (v := ?_) rfl (by kernel_rfl) (by kernel_rfl) (by kernel_rfl) (by kernel_rfl) (by kernel_rfl) (fun _ _ _ h => nomatch h.1) (by rfl) ?hykr14_1 (hS0) ?hrkr14_1
      case hykr14_1 => (intro wS hSw; (have hq0 := hSw.1); (have hq1 := hSw.2.1); (have hq2 := hSw.2.2.1); clear hSw; go_simp; (try with_reducible rfl))
      all_goals try simp only [Act.put, List.setIfInBounds_toArray, List.set_cons_zero, List.set_cons_succ]
      refine wpAnyE_take (i := 1) (oi := ⟨some 63, Op.move (Operand.tmp 7), 33, _, _, _⟩) (v := ?_) rfl (by kernel_rfl) (by kernel_rfl) (by kernel_rfl) (by kernel_rfl) (by kernel_rfl) (fun _ _ _ h => nomatch h.1) (by rfl) ?hykr14_2 (hS0) ?hrkr14_2
      case hykr14_2 => (intro wS hSw; clear hSw; go_simp; (try with_reducible rfl))
      all_goals try simp only [Act.put, List.setIfInBounds_toArray, List.set_cons_zero, List.set_cons_succ]
      refine wpAnyE_take (i := 2) (oi := ⟨some 64, Op.move (Operand.tmp 9), 3, _, _, _⟩) (v := ?_) rfl (by kernel_rfl) (by kernel_rfl) (by kernel_rfl) (by kernel_rfl) (by kernel_rfl) (fun _ _ _ h => nomatch h.1) (by rfl) ?hykr14_3 (hS0) ?hrkr14_3
      case hykr14_3 => (intro wS hSw; clear hSw; go_simp; (try with_reducible rfl))
      all_goals try simp only [Act.put, List.setIfInBounds_toArray, List.set_cons_zero, List.set_cons_succ]
      refine wpAnyE_take (i := 3) (oi := ⟨some 65, Op.indexAddr 33 (Operand.tmp 63) (Operand.tmp 64), 0, _, _, _⟩) (v := ?_) rfl (by kernel_rfl) (by kernel_rfl) (by kernel_rfl) (by kernel_rfl) (by kernel_rfl) (fun _ _ _ h => nomatch h.1) (by rfl) ?hykr14_4 (hS0) ?hrkr14_4
      case hykr14_4 => (intro wS hSw; clear hSw; go_simp; (try with_reducible rfl))
      all_goals try simp only [Act.put, List.setIfInBounds_toArray, List.set_cons_zero, List.set_cons_succ]
      refine wpAnyE_take (i := 4) (oi := ⟨some 66, Op.load 24 (Operand.tmp 65), 24, _, _, _⟩) (v := ?_) rfl (by kernel_rfl) (by kernel_rfl) (by kernel_rfl) (by kernel_rfl) (by kernel_rfl) (fun _ _ _ h => nomatch h.1) (by rfl) ?hykr14_5 (hS0) ?hrkr14_5
      case hykr14_5 => (intro wS hSw; (have hq0 := hSw.2.2.2.1); (have hq1 := hSw.2.2.2.2); clear hSw; go_simp; (try with_reducible rfl))
      all_goals try simp only [Act.put, List.setIfInBounds_toArray, List.set_cons_zero, List.set_cons_succ]
      refine wpAnyD_two (i := 5) (j := 9) (oi := ⟨some 67, Op.call { callee := Callee.value (Operand.func 15), args := #[Operand.tmp 62, Operand.tmp 66], argTypes := #[27, 24] }, 37, _, _, _⟩) (oj := ⟨some 12, Op.alloc 36, 0, _, _, _⟩) (by kernel_rfl) rfl rfl (by rfl) (by rfl) (fun K hK => ?_) (fun K hK => ?_)
      ·go_simp
       go_at_call 15
       refine (HPB.out V0 (HBwb.out.trans (HB0.out.mono HBwb.out.size))).mono ?_
       rintro e V1 ⟨⟨Aa, ca, Ab, cb, rfl, h1, h2⟩, hb⟩
       go_simp
       have HB1 := Lib.hid (HB0.out.trans (hb.mono HB0.out.size))
       have hS1 : V1.cell? ⟨b1, 0, none⟩ = some (.int .i64 m) ∧ V1.cell? ⟨b1, 1, none⟩ = some (.int .i64 h) ∧ V1.cell? ⟨b1, 2, none⟩ = some (.slice Ab1 ss.length cb1) ∧ V1.cell? ⟨lb, lo + j * 2, none⟩ = some (.int .i64 x.n) ∧ V1.cell? ⟨lb, lo + j * 2 + 1, none⟩ = some (.int .i64 x.s) := HSSb.out V1 HB1.out
       have HR1 := Lib.hid (h1.mono (S' := fun i => i < V1.heap.size) fun i _ hl => hl)
       have HR2 := Lib.hid (h2.mono (S' := fun i => i < V1.heap.size) fun i _ hl => hl)
       clear h1 h2 hb
       refine hK _ _ (fun _ => ?_) ?_
       ·exact hS1
       clear hK K
       try simp only [Act.put, List.setIfInBounds_toArray, List.set_cons_zero, List.set_cons_succ]
       refine wpAnyE_take (i := 6) (oi := ⟨some 61, Op.move (Operand.tmp 67), 37, _, _, _⟩) (v := ?_) rfl (by kernel_rfl) (by kernel_rfl) (by kernel_rfl) (by kernel_rfl) (by kernel_rfl) (fun _ _ _ h => nomatch h.1) (by rfl) ?hykr14_6 (hS1) ?hrkr14_6
       case hykr14_6 => (intro wS hSw; clear hSw; go_simp; (try with_reducible rfl))
       all_goals try simp only [Act.put, List.setIfInBounds_toArray, List.set_cons_zero, List.set_cons_succ]
       refine wpAnyF_take (i := 7) (oi := ⟨some 68, Op.extract (Operand.tmp 61) 0, 36, _, _, _⟩) (v := ?_) rfl (by rfl) (by kernel_rfl) (by kernel_rfl) (by kernel_rfl) (fun _ _ _ h => nomatch h.1) (by rfl) ?hykr14_7 ?hrkr14_7
       case hykr14_7 => (intro wS; go_simp; (try with_reducible rfl))
       all_goals try simp only [Act.put, List.setIfInBounds_toArray, List.set_cons_zero, List.set_cons_succ]
       refine wpAnyF_take (i := 8) (oi := ⟨some 69, Op.extract (Operand.tmp 61) 1, 4, _, _, _⟩) (v := ?_) rfl (by rfl) (by kernel_rfl) (by kernel_rfl) (by kernel_rfl) (fun _ _ _ h => nomatch h.1) (by rfl) ?hykr14_8 ?hrkr14_8
       case hykr14_8 => (intro wS; go_simp; (try with_reducible rfl))
       all_goals try simp only [Act.put, List.setIfInBounds_toArray, List.set_cons_zero, List.set_cons_succ]
       refine wpAnyD_one (i := 9) (oi := ⟨some 12, Op.alloc 36, 0, _, _, _⟩) rfl (by kernel_rfl) (by rfl) (fun K hK => ?_)
       go_simp
       obtain ⟨V2, hV⟩ : ∃ V2, (V1.alloc (.cells #[.int .i64 0, .int .i64 0, .int .i64 0, .int .i64 0, .slice none 0 0, .slice none 0 0] 36)) = V2 := ⟨_, rfl⟩
       have hb : Below V1.heap.size V1 V2 := by rw [← hV]; exact (Below.refl _ _).alloc (Nat.le_refl _) _
       have hx : ABox V2 V1.heap.size 36 [.int .i64 0, .int .i64 0, .int .i64 0, .int .i64 0, .slice none 0 0, .slice none 0 0] := by rw [← hV]; exact heap_alloc_new V1 _
       obtain ⟨bn, hbn⟩ : ∃ bn, V1.heap.size = bn := ⟨_, rfl⟩
       have HBN : Hid (Wx.heap.size ≤ bn) := Lib.hid (by rw [← hbn]; exact HB1.out.size)
       rw [hV, hbn]
       rw [hbn] at hx
       have HN1 := Lib.hid ((HR1.out.keep (Kept.all hb) hb.size).mono (S' := fun i => i ≠ bn) fun i (hi : i < V1.heap.size) _ => by omega)
       have HN2 := Lib.hid ((HR2.out.keep (Kept.all hb) hb.size).mono (S' := fun i => i ≠ bn) fun i (hi : i < V1.heap.size) _ => by omega)
       have HB2 := Lib.hid (HB1.out.trans (hb.mono HB1.out.size))
       have hS2 : V2.cell? ⟨b1, 0, none⟩ = some (.int .i64 m) ∧ V2.cell? ⟨b1, 1, none⟩ = some (.int .i64 h) ∧ V2.cell? ⟨b1, 2, none⟩ = some (.slice Ab1 ss.length cb1) ∧ V2.cell? ⟨lb, lo + j * 2, none⟩ = some (.int .i64 x.n) ∧ V2.cell? ⟨lb, lo + j * 2 + 1, none⟩ = some (.int .i64 x.s) := HSSb.out V2 HB2.out
       have HX2 := Lib.hid hx
       clear hx hb hV hbn
       refine hK _ _ (fun _ => ?_) ?_
       ·exact hS2
       clear hK K
       try simp only [Act.put, List.setIfInBounds_toArray, List.set_cons_zero, List.set_cons_succ]
       refine wpAnyD_one (i := 10) (oi := ⟨none, Op.store 36 (Operand.tmp 12) (Operand.tmp 68), 0, _, _, _⟩) rfl (by kernel_rfl) (by rfl) (fun K hK => ?_)
       have hy0 := HX2.out
       have z0 := hy0.cell 0 rfl
       have f0 := hy0.fz 0
       have hy1 := hy0.set 0 (.int .i64 z.num)
       have z1 := hy1.cell 1 rfl
       have f1 := hy1.fz 1
       have hy2 := hy1.set 1 (.int .i64 z.suf)
       have z2 := hy2.cell 2 rfl
       have f2 := hy2.fz 2
       have hy3 := hy2.set 2 (.int .i64 z.entry)
       have z3 := hy3.cell 3 rfl
       have f3 := hy3.fz 3
       have hy4 := hy3.set 3 (.int .i64 z.ver)
       have z4 := hy4.cell 4 rfl
       have f4 := hy4.fz 4
       have hy5 := hy4.set 4 (.slice Aa z.body.length ca)
       have z5 := hy5.cell 5 rfl
       have f5 := hy5.fz 5
       have hy6 := hy5.set 5 (.slice Ab z.notes.length cb)
       have HXF := Lib.hid hy6
       clear hy0 hy1 hy2 hy3 hy4 hy5 hy6
       go_simp
       clear z0 z1 z2 z3 z4 z5 f0 f1 f2 f3 f4 f5
       refine hK _ _ (fun h => absurd h (by decide)) ?_
       clear hK K
       try simp only [Act.put]
       refine wpAnyD_one (i := 11) (oi := ⟨some 13, Op.assign (Operand.tmp 69), 4, _, _, _⟩) rfl (by kernel_rfl) (by rfl) (fun K hK => ?_)
       go_simp
       refine hK _ _ (fun h => absurd h (by decide)) ?_
       clear hK K
       try simp only [Act.put, List.setIfInBounds_toArray, List.set_cons_zero, List.set_cons_succ]
       refine wpAnyD_done (by kernel_rfl) ?_ _
       refine ⟨rfl, Aa, ca, Ab, cb, bn, rfl, HXF.out, ?_, ?_, ?_⟩
       ·exact (HN1.out.keep (fun i hi _ => heap6 _ _ _ _ _ _ _ _ hi) (by simp)).mono fun i _ hl => hl
       ·exact (HN2.out.keep (fun i hi _ => heap6 _ _ _ _ _ _ _ _ hi) (by simp)).mono fun i _ hl => hl
       ·exact below6 HB2.out HBN.out _ _ _ _ _ _
      ·go_simp
       obtain ⟨V1, hV⟩ : ∃ V1, (V0.alloc (.cells #[.int .i64 0, .int .i64 0, .int .i64 0, .int .i64 0, .slice none 0 0, .slice none 0 0] 36)) = V1 := ⟨_, rfl⟩
       have hb : Below V0.heap.size V0 V1 := by rw [← hV]; exact (Below.refl _ _).alloc (Nat.le_refl _) _
       have hx : ABox V1 V0.heap.size 36 [.int .i64 0, .int .i64 0, .int .i64 0, .int .i64 0, .slice none 0 0, .slice none 0 0] := by rw [← hV]; exact heap_alloc_new V0 _
       obtain ⟨bn, hbn⟩ : ∃ bn, V0.heap.size = bn := ⟨_, rfl⟩
       have HBN : Hid (Wx.heap.size ≤ bn) := Lib.hid (by rw [← hbn]; exact HB0.out.size)
       rw [hV, hbn]
       rw [hbn] at hx
       have HB1 := Lib.hid (HB0.out.trans (hb.mono HB0.out.size))
       have hS1 : V1.cell? ⟨b1, 0, none⟩ = some (.int .i64 m) ∧ V1.cell? ⟨b1, 1, none⟩ = some (.int .i64 h) ∧ V1.cell? ⟨b1, 2, none⟩ = some (.slice Ab1 ss.length cb1) ∧ V1.cell? ⟨lb, lo + j * 2, none⟩ = some (.int .i64 x.n) ∧ V1.cell? ⟨lb, lo + j * 2 + 1, none⟩ = some (.int .i64 x.s) := HSSb.out V1 HB1.out
       have HX1 := Lib.hid hx
       clear hx hb hV hbn
       refine hK _ _ (fun _ => ?_) ?_
       ·exact hS1
       clear hK K
       try simp only [Act.put, List.setIfInBounds_toArray, List.set_cons_zero, List.set_cons_succ]
       refine wpAnyD_one (i := 5) (oi := ⟨some 67, Op.call { callee := Callee.value (Operand.func 15), args := #[Operand.tmp 62, Operand.tmp 66], argTypes := #[27, 24] }, 37, _, _, _⟩) rfl (by kernel_rfl) (by rfl) (fun K hK => ?_)
       go_simp
       go_at_call 15
       refine (HPB.out V1 (HBwb.out.trans (HB1.out.mono HBwb.out.size))).mono ?_
       rintro e V2 ⟨⟨Aa, ca, Ab, cb, rfl, h1, h2⟩, hb⟩
       go_simp
       have HB2 := Lib.hid (HB1.out.trans (hb.mono HB1.out.size))
       have hS2 : V2.cell? ⟨b1, 0, none⟩ = some (.int .i64 m) ∧ V2.cell? ⟨b1, 1, none⟩ = some (.int .i64 h) ∧ V2.cell? ⟨b1, 2, none⟩ = some (.slice Ab1 ss.length cb1) ∧ V2.cell? ⟨lb, lo + j * 2, none⟩ = some (.int .i64 x.n) ∧ V2.cell? ⟨lb, lo + j * 2 + 1, none⟩ = some (.int .i64 x.s) := HSSb.out V2 HB2.out
       have HX2 := Lib.hid (HX1.out.to hb)
       have HN1 := Lib.hid (h1.mono (S' := fun i => i ≠ bn) fun i (hi : V1.heap.size ≤ i) _ => by have := HX1.out.lt; omega)
       have HN2 := Lib.hid (h2.mono (S' := fun i => i ≠ bn) fun i (hi : V1.heap.size ≤ i) _ => by have := HX1.out.lt; omega)
       clear h1 h2 hb
       refine hK _ _ (fun _ => ?_) ?_
       ·exact hS2
       clear hK K
       try simp only [Act.put, List.setIfInBounds_toArray, List.set_cons_zero, List.set_cons_succ]
       refine wpAnyE_take (i := 6) (oi := ⟨some 61, Op.move (Operand.tmp 67), 37, _, _, _⟩) (v := ?_) rfl (by kernel_rfl) (by kernel_rfl) (by kernel_rfl) (by kernel_rfl) (by kernel_rfl) (fun _ _ _ h => nomatch h.1) (by rfl) ?hykr14_9 (hS2) ?hrkr14_9
       case hykr14_9 => (intro wS hSw; clear hSw; go_simp; (try with_reducible rfl))
       all_goals try simp only [Act.put, List.setIfInBounds_toArray, List.set_cons_zero, List.set_cons_succ]
       refine wpAnyF_take (i := 7) (oi := ⟨some 68, Op.extract (Operand.tmp 61) 0, 36, _, _, _⟩) (v := ?_) rfl (by rfl) (by kernel_rfl) (by kernel_rfl) (by kernel_rfl) (fun _ _ _ h => nomatch h.1) (by rfl) ?hykr14_10 ?hrkr14_10
       case hykr14_10 => (intro wS; go_simp; (try with_reducible rfl))
       all_goals try simp only [Act.put, List.setIfInBounds_toArray, List.set_cons_zero, List.set_cons_succ]
       refine wpAnyF_take (i := 8) (oi := ⟨some 69, Op.extract (Operand.tmp 61) 1, 4, _, _, _⟩) (v := ?_) rfl (by rfl) (by kernel_rfl) (by kernel_rfl) (by kernel_rfl) (fun _ _ _ h => nomatch h.1) (by rfl) ?hykr14_11 ?hrkr14_11
       case hykr14_11 => (intro wS; go_simp; (try with_reducible rfl))
       all_goals try simp only [Act.put, List.setIfInBounds_toArray, List.set_cons_zero, List.set_cons_succ]
       refine wpAnyD_one (i := 10) (oi := ⟨none, Op.store 36 (Operand.tmp 12) (Operand.tmp 68), 0, _, _, _⟩) rfl (by kernel_rfl) (by rfl) (fun K hK => ?_)
       have hy0 := HX2.out
       have z0 := hy0.cell 0 rfl
       have f0 := hy0.fz 0
       have hy1 := hy0.set 0 (.int .i64 z.num)
       have z1 := hy1.cell 1 rfl
       have f1 := hy1.fz 1
       have hy2 := hy1.set 1 (.int .i64 z.suf)
       have z2 := hy2.cell 2 rfl
       have f2 := hy2.fz 2
       have hy3 := hy2.set 2 (.int .i64 z.entry)
       have z3 := hy3.cell 3 rfl
       have f3 := hy3.fz 3
       have hy4 := hy3.set 3 (.int .i64 z.ver)
       have z4 := hy4.cell 4 rfl
       have f4 := hy4.fz 4
       have hy5 := hy4.set 4 (.slice Aa z.body.length ca)
       have z5 := hy5.cell 5 rfl
       have f5 := hy5.fz 5
       have hy6 := hy5.set 5 (.slice Ab z.notes.length cb)
       have HXF := Lib.hid hy6
       clear hy0 hy1 hy2 hy3 hy4 hy5 hy6
       go_simp
       clear z0 z1 z2 z3 z4 z5 f0 f1 f2 f3 f4 f5
       refine hK _ _ (fun h => absurd h (by decide)) ?_
       clear hK K
       try simp only [Act.put]
       refine wpAnyD_one (i := 11) (oi := ⟨some 13, Op.assign (Operand.tmp 69), 4, _, _, _⟩) rfl (by kernel_rfl) (by rfl) (fun K hK => ?_)
       go_simp
       refine hK _ _ (fun h => absurd h (by decide)) ?_
       clear hK K
       try simp only [Act.put, List.setIfInBounds_toArray, List.set_cons_zero, List.set_cons_succ]
       refine wpAnyD_done (by kernel_rfl) ?_ _
       refine ⟨rfl, Aa, ca, Ab, cb, bn, rfl, HXF.out, ?_, ?_, ?_⟩
       ·exact (HN1.out.keep (fun i hi _ => heap6 _ _ _ _ _ _ _ _ hi) (by simp)).mono fun i _ hl => hl
       ·exact (HN2.out.keep (fun i hi _ => heap6 _ _ _ _ _ _ _ _ hi) (by simp)).mono fun i _ hl => hl
       ·exact below6 HB2.out HBN.out _ _ _ _ _ _
     rintro _ Wy ⟨Ab, cb, Bb, db, ob, rfl, hx, h1, h2, hb⟩
     have HXb := Lib.hid hx
     have HPb := Lib.hid h1
     have HQb := Lib.hid h2
     have HDb := Lib.hid hb
     clear hx h1 h2 hb
     simp only [Act.put, List.setIfInBounds_toArray, List.set_cons_zero, List.set_cons_succ]
     have HBy : Hid (Below W2.heap.size W2 Wy) := Lib.hid (HBwb.out.trans (HDb.out.mono HBwb.out.size))
     have HXa2 := Lib.hid (HXa.out.to HDb.out)
     have HPa2 := Lib.hid (HPa.out.to HDb.out)
     have HQa2 := Lib.hid (HQa.out.to HDb.out)
     have HBjy : Hid (Below W7.heap.size W7 Wy) := Lib.hid ((HBj.out.trans (HDa.out.mono HBj.out.size)).trans (HDb.out.mono (HBj.out.trans (HDa.out.mono HBj.out.size)).size))
     have HSA := Lib.hid (samePage_any z.num z.suf z.entry z.ver Aa Ba Ab Bb ca da cb db _ _ z.body z.notes Wy HPa2.out HQa2.out HPb.out HQb.out rfl rfl HSM9.out.1.1 HSM9.out.1.2 HSM9.out.2.1 HSM9.out.2.2)
     have p0 := HXa2.out.cell 0 rfl
     have p1 := HXa2.out.cell 1 rfl
     have p2 := HXa2.out.cell 2 rfl
     have p3 := HXa2.out.cell 3 rfl
     have p4 := HXa2.out.cell 4 rfl
     have p5 := HXa2.out.cell 5 rfl
     have r0 := HXb.out.cell 0 rfl
     have r1 := HXb.out.cell 1 rfl
     have r2 := HXb.out.cell 2 rfl
     have r3 := HXb.out.cell 3 rfl
     have r4 := HXb.out.cell 4 rfl
     have r5 := HXb.out.cell 5 rfl
     clear HXa HPa HQa HDa HDb HSSa HSSb
     go_wp2_with (first
      |(go_at_call 16; refine HSA.out.mono ?_; rintro e Wz ⟨rfl, hb⟩; have HBN : Hid (Below W7.heap.size W7 Wz) := Lib.hid (HBjy.out.trans (hb.mono HBjy.out.size)); clear hb p0 p1 p2 p3 p4 p5 r0 r1 r2 r3 r4 r5)
      | fail)
     go_roundw
     case rel => exact ⟨j + 1, by go_num, by omega, HBN⟩
     case measure => (first | (simp [intOf]; done) | (simp [intOf]; omega))
    ·obtain rfl : j = k + 2 := by omega
     have HL := Lib.hid (lives_any wr (HT.out.to (HB.out.trans ((HB7.out.trans (HBj.out.mono HB7.out.size)).mono HB.out.size))))
     have hjI : ¬ (((k + 2 : Nat) : Int)) < ((k + 2 : Nat) : Int) := by omega
     go_wp2_with (first
      |(go_at_call 17; refine HL.out.mono ?_; rintro e w2 ⟨rfl, hb2⟩; have HBE : Hid (Below W1.heap.size W1 w2) := Lib.hid ((HB.out.trans ((HB7.out.trans (HBj.out.mono HB7.out.size)).mono HB.out.size)).trans (hb2.mono (HB.out.trans ((HB7.out.trans (HBj.out.mono HB7.out.size)).mono HB.out.size)).size)); clear hb2)
      | fail)
     go_ret
     exact ⟨rfl, HBE.out⟩
end Go.Proofs.YtakaielemicpkaaGreatDoor
namespace Go.Proofs.YtakaielemicpkaaGreatDoor
open Go.ChangeShapes Go.WideShapes Go.ChangeAt Go.RowKit Go.Deep
variable {H : Type} {enc : TypeId × Value → H} {P : Program}
end Go.Proofs.YtakaielemicpkaaGreatDoor
namespace Go.Proofs.YtakaielemicpkaaGreatDoor
open Go.ChangeShapes Go.WideShapes Go.ChangeAt Go.RowKit Go.Deep
variable {H : Type} {enc : TypeId × Value → H} {P : Program}
theorem open_ints_sl {t e : TypeId} {W : World} {base : Nat} {v : Value} {d : DataW H} {ps : List MemPlace} (ht : P.underlying t = some (.slice e)) (he : P.underlying e = some (.int .i64)) (hc : P.cellsOf e = 1)
  (hval : Value.okWide P W .any base t v) (h : DataW.Trod enc P W 0 (fun _ => true) true t v d ps) : ∃ A c, ∃ l : List Int, v = .slice A l.length c ∧ Sl W (fun b => b < W.heap.size) A c l := by
 obtain ⟨a, len, cap, rfl⟩ := okWide_slice ht hval
 obtain ⟨fuel, hf⟩ := h
 rcases open_ints ht he hc hf with ⟨hcs, _⟩ | ⟨a', len', cap', zs, hcs, _, hl, hm, hz, _, hcell, hwf⟩
 ·simp [Value.cells] at hcs
  obtain ⟨rfl, rfl, rfl⟩ := hcs
  exact ⟨none, 0, [], rfl, Sl.nil _ _ _ _ (by simp [maxLen])⟩
 ·simp [Value.cells] at hcs
  obtain ⟨rfl, rfl, rfl⟩ := hcs
  have hz' : zs.length = cap := by simpa using hz
  have hlt : (zs.take len).length = len := by rw [List.length_take]; omega
  refine ⟨some a', cap, zs.take len, by rw [hlt], by rw [hlt]; exact hl, hm, fun h0 => ?_⟩
  obtain ⟨b, o, rfl, hat⟩ := Go.ints_at hcell (by omega)
  refine ⟨b, o, rfl, World.block_lt_of_cell? W _ (hat 0 (by omega)), World.block_lt_of_cell? W _ (hat 0 (by omega)), fun i hi => ?_⟩
  rw [hlt] at hi
  have e : zs.getD i 0 = (zs.take len)[i]'(by omega) := by
   rw [List.getElem_take, List.getD_eq_getElem?_getD, List.getElem?_eq_getElem (by omega)]; rfl
  refine ⟨[.int .i64 (zs.getD i 0)], ⟨by rw [e], ?_⟩, fun j u hu => ?_⟩
  ·exact i64_wf (hwf _ (List.mem_of_mem_take (List.getElem_mem (by omega))))
  ·have hj : j = 0 := by
    rcases j with _ | j
    ·rfl
    ·simp at hu
   subst hj
   simp only [List.getElem?_cons_zero, Option.some.injEq] at hu
   subst hu
   have := hat i (by omega)
   show W.cell? ⟨b, o + i * 1 + 0, none⟩ = _
   rw [Nat.mul_one, Nat.add_zero]; exact this
end Go.Proofs.YtakaielemicpkaaGreatDoor
namespace Go.Proofs.YtakaielemicpkaaGreatDoor
open Go.ChangeShapes Go.WideShapes Go.ChangeAt Go.RowKit Go.Deep
variable {H : Type} {enc : TypeId × Value → H}
set_option maxRecDepth 100000 in
theorem open_label {W : World} {base : Nat} {v : Value} {d : DataW H} {ps : List MemPlace} (hval : Value.okWide Tryz.prog W .any base 24 v) (h : DataW.Trod enc Tryz.prog W 0 (fun _ => true) true 24 v d ps) :
  ∃ n s : Int, v = .agg #[.int .i64 n, .int .i64 s] ∧ I64 n ∧ I64 s := by
 obtain ⟨cs, rfl, hsz⟩ := okWide_struct Tryz.underlying24 hval
 obtain ⟨fuel, hf⟩ := h
 obtain ⟨ys, n, _, hx, hlen, hyl, hfs⟩ := DataW.trod_struct Tryz.underlying24 hf
 have h0 : DataW.trod enc Tryz.prog W 0 (fun _ => true) true n 3 ((cs.toList.drop 0).take (Tryz.prog.cellsOf 3)) = some (ys[0]'(by have : ys.length = 2 := hyl; omega)) := (hfs 0 _ rfl).trans (List.getElem?_eq_getElem _)
 have h1 : DataW.trod enc Tryz.prog W 0 (fun _ => true) true n 3 ((cs.toList.drop 1).take (Tryz.prog.cellsOf 3)) = some (ys[1]'(by have : ys.length = 2 := hyl; omega)) := (hfs 1 _ rfl).trans (List.getElem?_eq_getElem _)
 have c1 : Tryz.prog.cellsOf 3 = 1 := by kernel_rfl
 have c7 : Tryz.prog.cellsOf 24 = 2 := by kernel_rfl
 have hcl : cs.toList.length = 2 := by have : (Value.agg cs).cells.toList.length = _ := hlen; rw [c7] at this; exact this
 rw [c1] at h0 h1
 obtain ⟨n0, e0, _, z0⟩ := DataW.trod_int Tryz.underlying3 h0
 obtain ⟨n1, e1, _, z1⟩ := DataW.trod_int Tryz.underlying3 h1
 refine ⟨n0, n1, ?_, i64_wf z0, i64_wf z1⟩
 congr 1
 apply Array.toList_inj.1
 match cs.toList, hcl, e0, e1 with
 | [a0, a1], _, e0, e1 =>
  simp at e0 e1
  simp [e0, e1]
end Go.Proofs.YtakaielemicpkaaGreatDoor
namespace Go.Proofs.YtakaielemicpkaaGreatDoor.rowBookPages
open Go.ChangeShapes Go.WideShapes Go.ChangeAt Go.RowKit
set_option maxRecDepth 100000 in
theorem contract (H : Type) (enc : TypeId × Value → H) (W : World) (base : Nat) (args : Array Value) (ds gs : List (DataW H)) (before : List MemPlace)
  (hval : ∀ (j : Nat) t v, Tryz.f3.params[j]? = some t → args[j]? = some v → Value.okWide Tryz.prog W .any base t v)
  (hW : DataW.Whole enc Tryz.prog Tryz.f3.params.toList Rows.bookPagesSpec.vars false W args.toList ds gs before) (hL : laidMetH Tryz.prog laidL W) :
  Calls Tryz.prog 3 args W fun e W' => ∃ v, e = .returned v ∧ Rows.bookPagesSpec.post enc Tryz.prog Tryz.f3 false true false false W args v W' := by
 have hW' := hW
 obtain ⟨p, q, hA0, hV, rfl, hfz, hnd⟩ := hW
 have hA : DataW.TrodAll enc Tryz.prog W 0 (fun _ => true) true Tryz.f3.params.toList args.toList ds p := hA0
 rw [Tryz.params3] at hA hval
 obtain ⟨v0, vs0, d0, ds0, p0, q0, hargs, rfl, rfl, h0, r0⟩ := trodAll_cons hA
 obtain ⟨v1, vs1, d1, ds1, p1, q1, rfl, rfl, rfl, h1, r1⟩ := trodAll_cons r0
 obtain ⟨rfl, rfl, rfl⟩ := trodAll_nil r1
 obtain rfl : args = #[v0, v1] := by cases args; simp_all
 obtain ⟨rfl, rfl⟩ := trodVars_none hV
 obtain ⟨A0, c0, l0, rfl, hl0⟩ := open_ints_sl Tryz.underlying22 Tryz.underlying3 cells_int (hval 0 22 v0 rfl rfl) h0
 obtain ⟨n1, s1, rfl, wn1, ws1⟩ := open_label (hval 1 24 v1 rfl rfl) h1
 refine (bpages_any A0 c0 l0 n1 s1 W hl0 wn1 ws1 (tabs_of hL)).mono fun e W' ⟨he, hb⟩ => ?_
 subst he
 exact ⟨_, rfl, row_close laidOut Tryz.underlying4 (by kernel_rfl) (by kernel_rfl) rfl hW' rfl hb⟩

theorem laid_met (os : Os) : laidMet Tryz.prog Rows.bookPagesRow.laid ((laidWorld os).forCall (fun _ _ => 0) ⟨#[], #[.slice none 0 0, .agg #[.int .i64 0, .int .i64 0]], []⟩).memory :=
 laidMet_of_run' 8 (by kernel_rfl) (by kernel_rfl)
theorem reads (os : Os) {H : Type} (enc : TypeId × Value → H) : ∃ places, DataW.whole enc Tryz.prog ((laidWorld os).forCall (fun _ _ => 0) ⟨#[], #[.slice none 0 0, .agg #[.int .i64 0, .int .i64 0]], []⟩).memory Tryz.f3.params.toList Rows.bookPagesSpec.vars false (#[.slice none 0 0, .agg #[.int .i64 0, .int .i64 0]] : Array Value).toList 8 = some ([.nil, .agg [.lit (.int .i64 0), .lit (.int .i64 0)]], [], places) :=
 ⟨[], by kernel_rfl⟩
set_option maxRecDepth 100000 in
theorem lifted (os : Os) (started : os.Started) (H : Type) (enc : TypeId × Value → H) (F : Stop.Interp) :
  ReturnsInHanded {} Tryz.checked os 3 .any ((OpenSpec.ofChange Rows.bookPagesSpec).preRow enc Tryz.prog Tryz.f3 Rows.bookPagesRow.domain false Rows.bookPagesRow.laid) (((OpenSpec.ofChange Rows.bookPagesSpec).at F).post enc Tryz.prog Tryz.f3 false true false false) := by
 obtain ⟨places, hx⟩ := reads os enc
 refine returnsInHanded_of_row (C := Tryz.checked) (s := (OpenSpec.ofChange Rows.bookPagesSpec)) own started (by kernel_rfl) Tryz.func3
  (witness_row_at (enc := enc) (C := Tryz.checked) false (laidWorld os) #[.slice none 0 0, .agg #[.int .i64 0, .int .i64 0]] rfl (by kernel_rfl) (by kernel_rfl) (by kernel_rfl)
   (OpenSpec.preRow_of_cond 8 hx (by kernel_rfl) (fun k hk => by cases hk) (by kernel_rfl) (laid_met os))) ?_
 intro W base args ds gs before hval hW _ _ _ hL _ _
 exact contract H enc W base args ds gs before hval hW hL
theorem said : Rows.BookPagesSaid :=
 OpenClaim.holds_of_cond 3 Tryz.f3 rfl rfl rfl rfl rfl rfl rfl ⟨rfl, rfl, rfl, rfl, rfl⟩ rfl rfl rfl rfl rfl (by kernel_rfl) Tryz.func3 (by kernel_rfl)
  (of_decide_eq_true (by kernel_rfl)) (by unfold Func.isWrapper; first | (rw [if_pos (by decide +kernel)]; kernel_rfl) | (rw [if_neg (by decide +kernel)]; exact ⟨rfl, rfl⟩))
  (fun os started H enc _ F => by rw [OpenClaim.pre_eq_preRow]; exact lifted os started H enc F)
theorem wants : Tryz.f3.params.all (fun t => !Tryz.prog.wantsStandIn t) = true := by kernel_rfl
theorem plain (f : FuncId) (fn : Func) (hf : Tryz.pinned.checked.prog.funcNamed "rollbook/rollbooklaw28.BookPages" = some f) (hfn : Tryz.pinned.checked.prog.funcs[f]? = some fn) :
  false = Tryz.pinned.checked.prog.looks [] ∧ ∀ (j : Nat) t, fn.params[j]? = some t → Tryz.pinned.checked.prog.wantsStandIn t = false := by
 obtain rfl : f = 3 := Option.some.inj ((show Tryz.prog.funcNamed "rollbook/rollbooklaw28.BookPages" = some 3 by kernel_rfl).symm.trans hf) |>.symm
 obtain rfl : fn = Tryz.f3 := (Option.some.inj (Tryz.func3.symm.trans hfn)).symm
 refine ⟨by kernel_rfl, fun j t ht => ?_⟩
 have := Array.all_eq_true_iff_forall_mem.1 wants t (Array.mem_of_getElem? ht)
 exact (by simpa using this : Tryz.prog.wantsStandIn t = false)
theorem card : Rows.BookPagesCardSaid :=
 Claim7.holds_tied_plain_at .later [] _ _ _ _ said (fun _ h => by cases h) (by kernel_rfl) (fun _ h => by cases h) bookPages_row_tie rfl ⟨rfl, rfl⟩ (by kernel_rfl) rfl plain (by kernel_rfl)
#print axioms card
end Go.Proofs.YtakaielemicpkaaGreatDoor.rowBookPages
