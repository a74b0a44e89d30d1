/- The reference's pages of a book are those of package book. No condition but sizes.
Every word of a version stands on one line of the pages of this version. No program is in sight.
Where a word stands, if it stands on one line only. No program is in sight.
How many lines of a page have a word, and the number of the last one. No condition but sizes.
BookWords, walked: it answers true. No condition but what the tables hold.
The reference's find and Where are those of package book. No condition but sizes.
The reference's Text and that of package book. No condition but sizes.
Blocks that hold cells: what is read as plain data lies in them.
The reference's Page, by its label. No condition but sizes.
Page of package book, by its label. No condition but sizes.
ref28.SamePage and SamePages: true where the pages are the same. No condition but the sizes. -/
import Derived.Test.YtakaielemicpkaaGreatDoorBZc14
namespace Go.Proofs.YtakaielemicpkaaGreatDoor
open Go.RowKit
def SP.pgE (B : Nat) (l : List PageP) (E : Int) : SP := ⟨fun v w => ∃ A c, v = .tuple #[.slice A l.length c, .int .i64 E] ∧ Sl w (Up B) A c l, fun _ _ _ h hb => by
 obtain ⟨A, c, h1, h2⟩ := h
 exact ⟨A, c, h1, h2.keep (Kept.all hb) hb.size⟩⟩
theorem plainB_first (m h : Int) (x : SectP) (h0 : 0 < x.texts.length) : plainB m h x = (okPages x.texts[0].a x.texts[0].b m h).length := by
 obtain ⟨e, f, v, ts⟩ := x
 cases ts with
 | nil => exact absurd h0 (Nat.lt_irrefl 0)
 | cons t ts => rfl
theorem rText_ok {A B : Option Addr} {c d : Nat} {a b : List (List Word)} {m h : Int} {w : World} (ha : Sl w (fun b => b < w.heap.size) A c a) (hb : Sl w (fun b => b < w.heap.size) B d b) (hla : a.length ≤ 1048576) (hlb : b.length ≤ 1048576) :
  Calls Tryz.prog 32 #[.agg #[.slice A a.length c, .slice B b.length d], .int .i64 m, .int .i64 h] w fun e w' => ∃ v, e = .returned v ∧ (SP.pgE w.heap.size (okPages a b m h) (textE a b m h)).p v w' ∧ Below w.heap.size w w' := by
 refine (rText_any A B c d a b m h w ha hb hla hlb).mono ?_
 rintro e w' ⟨v, rfl, h1, h2, h3⟩
 by_cases h0 : textE a b m h = 0
 ·obtain ⟨A', c', rfl, hs⟩ := ((h1 h0).up (Nat.le_refl _)).sl
  exact ⟨_, rfl, ⟨A', c', by unfold okPages; rw [if_pos h0], by unfold okPages; rw [if_pos h0]; exact hs⟩, h3⟩
 ·obtain rfl := h2 h0
  exact ⟨_, rfl, ⟨none, 0, by unfold okPages; rw [if_neg h0]; rfl, by unfold okPages; rw [if_neg h0]; exact Sl.nil _ _ _ _ (Nat.zero_le _)⟩, h3⟩
set_option maxRecDepth 100000 in
set_option maxHeartbeats 16000000 in
theorem rpages_any {m h : Int} {A : Option Addr} {c : Nat} {l : List SectP} {w : World} (H : BookOk w m h A c l) :
  Calls Tryz.prog 10 #[.agg #[.int .i64 m, .int .i64 h, .slice A l.length c]] w fun e W' => ∃ v, e = .returned v ∧ OwnP W' w.heap.size 36 v (pagesB m h l) (Up w.heap.size) ∧ Below w.heap.size w W' := by
 obtain ⟨n, hn⟩ : ∃ n, l.length = n := ⟨_, rfl⟩
 obtain ⟨wb, hwb⟩ : ∃ wb, w.alloc (.cells #[.int .i64 m, .int .i64 h, .slice A n c] 27) = wb := ⟨_, rfl⟩
 have hba : Below w.heap.size w wb := by rw [← hwb]; exact (Below.refl _ _).alloc (Nat.le_refl _) _
 have hx0 : ABox wb w.heap.size 27 [.int .i64 m, .int .i64 h, .slice A n c] := by rw [← hwb]; exact heap_alloc_new w _
 have HB := Lib.hid (H.to hba)
 have HBA := Lib.hid hba
 have HX0 := Lib.hid hx0
 have HN := Lib.hid hn
 have hnc : n ≤ c := by rw [← hn]; exact H.s.1
 have hn9 : n ≤ 1048576 := by rw [← hn]; exact H.sh.1
 rw [hn]
 clear hba hx0 hn H
 go_enter Tryz.func10, Tryz.ntmps10
 go_upto_region 1 with (fail)
 try rw [hwb]
 clear hwb
 go_wp2_with fail
 go_loopw [3, 4, 5] (fun v3 v4 v5 wr => ∃ (i : Nat) (num : Int) (done : List PageP), v5 = .int .i64 (i : Int) ∧ i ≤ n ∧ v4 = .int .i64 num ∧ 0 ≤ num ∧ num ≤ done.length ∧ Hid (OwnP wr wb.heap.size 36 v3 done (Up wb.heap.size)) ∧ Hid (done ++ sectsB m h num (l.drop i) = pagesB m h l) ∧ Hid (Below wb.heap.size wb wr)) (fun _ _ v5 _ => n - (intOf v5).toNat)
 case atStart => exact ⟨0, 0, [], rfl, Nat.zero_le _, rfl, Int.le_refl _, by simp, Lib.hid (OwnP.nil _ _ _ _), Lib.hid rfl, Lib.hid (Below.refl _ _)⟩
 case round =>
  obtain ⟨i, num, done, rfl, hi, rfl, hn0, hn1, HO, HD, HBl⟩ := hrel
  have y2 := (HX0.out.to HBl.out).cell 2 rfl
  obtain ⟨A3, c3, hv3, -, -⟩ := HO.out.len
  subst hv3
  by_cases hlt : i < n
  ·have hil : i < l.length := by rw [HN.out]; exact hlt
   obtain ⟨b, o, Ag, cg, An, cn, rfl, -, hbb, e0', e1', e2', e3', hg1, hn2, -⟩ := sect_at HB.out.s hil
   have e0 := (HBl.out.cell (p := ⟨b, o + i * 4, none⟩) hbb).trans e0'
   have e1 := (HBl.out.cell (p := ⟨b, o + i * 4 + 1, none⟩) hbb).trans e1'
   have e2 := (HBl.out.cell (p := ⟨b, o + i * 4 + 2, none⟩) hbb).trans e2'
   have e3 := (HBl.out.cell (p := ⟨b, o + i * 4 + 3, none⟩) hbb).trans e3'
   clear e0' e1' e2' e3' hbb
   have hsd : l.drop i = l[i] :: l.drop (i + 1) := List.drop_eq_getElem_cons hil
   have hwf := HB.out.wf _ (List.getElem_mem hil)
   have hsh := HB.out.sh.2 _ (List.getElem_mem hil)
   obtain ⟨x, hx⟩ : ∃ x, l[i] = x := ⟨_, rfl⟩
   rw [hx] at e0 e1 e2 e3 hg1 hn2 hsd hwf hsh
   have HSD := Lib.hid hsd
   have HSH := Lib.hid hsh
   have hiI : (i : Int) < (n : Int) := by omega
   obtain ⟨S, hS⟩ : ∃ S, wr.heap.size = S := ⟨_, rfl⟩
   obtain ⟨ws, hws⟩ : ∃ ws, wr.alloc (.cells #[.int .i64 x.entry, .bool x.frozen, .slice Ag x.vers.length cg, .slice An x.texts.length cn] 45) = ws := ⟨_, rfl⟩
   have hbs : Below wr.heap.size wr ws := by rw [← hws]; exact (Below.refl _ _).alloc (Nat.le_refl _) _
   have hxs : ABox ws S 45 [.int .i64 x.entry, .bool x.frozen, .slice Ag x.vers.length cg, .slice An x.texts.length cn] := by rw [← hws, ← hS]; exact heap_alloc_new wr _
   have HXS := Lib.hid hxs
   have HG1 := Lib.hid hg1
   have HN2 := Lib.hid hn2
   have HO1 := Lib.hid (HO.out.below hbs)
   have HOS1 : Hid (∀ g, (Value.slice A3 done.length c3).ownBlock = some g → g ≠ S) := Lib.hid (fun g hg => by have := (HO.out.lt g hg).2; omega)
   have HSL : Hid (S < ws.heap.size ∧ wb.heap.size ≤ S) := Lib.hid ⟨hxs.lt, by rw [← hS]; exact HBl.out.size⟩
   have HB1 := Lib.hid (HBl.out.trans (hbs.mono HBl.out.size))
   have htv : x.texts.length ≤ x.vers.length := hwf
   have htc : x.texts.length ≤ cn := hn2.1
   have hvc : x.vers.length ≤ cg := hg1.1
   have ht9 : x.texts.length ≤ 1048576 := hsh.2.1
   go_upto_region 7 with (fail)
   try rw [hS]
   try rw [hws]
   clear hS hws hbs hxs hg1 hn2 hx hsd hwf hsh hil e0 e1 e2 e3 y2 HO HBl
   go_wp2_with fail
   go_loopw [3, 4, 7, 8] (fun v3 v4 v7 v8 wx => ∃ (k : Nat) (nu su : Int) (dn : List PageP), v8 = .int .i64 (k : Int) ∧ k ≤ x.texts.length ∧ v4 = .int .i64 nu ∧ v7 = .int .i64 su ∧ (0 ≤ nu ∧ nu ≤ dn.length ∧ 0 ≤ su ∧ su ≤ dn.length) ∧ Hid (nu = if k = 0 then num else num + plainB m h x) ∧ Hid (OwnP wx wb.heap.size 36 v3 dn (Up wb.heap.size)) ∧
    Hid (dn ++ (versB m h x.entry k nu su (x.vers.drop k) (x.texts.drop k) ++ sectsB m h (num + plainB m h x) (l.drop (i + 1))) = pagesB m h l) ∧ Hid (KS (fun b => b < wb.heap.size ∨ b = S) ws wx) ∧ Hid (∀ g, v3.ownBlock = some g → g ≠ S)) (fun _ _ _ v8 _ => x.texts.length - (intOf v8).toNat)
   case atStart => exact ⟨0, num, 0, done, rfl, Nat.zero_le _, rfl, rfl, ⟨hn0, hn1, Int.le_refl _, by omega⟩, Lib.hid rfl, HO1, Lib.hid (by rw [List.drop_zero, List.drop_zero, ← HD.out, HSD.out]; rfl), Lib.hid (KS.refl _ _), HOS1⟩
   case round =>
    clear HO1 HOS1
    obtain ⟨k, nu, su, dn, rfl, hk, rfl, rfl, ⟨hu1, hu2, hu3, hu4⟩, HNU, HO, HD2, HBx, HOS⟩ := hrel
    obtain ⟨A3, c3, hv3, -, -⟩ := HO.out.len
    subst hv3
    have HXSx : Hid (ABox wr S 45 [.int .i64 x.entry, .bool x.frozen, .slice Ag x.vers.length cg, .slice An x.texts.length cn]) := Lib.hid ((HBx.out.block S (.inr rfl) HSL.out.1).trans HXS.out)
    have p3 := HXSx.out.cell 3 rfl
    have HBB : Hid (Below wb.heap.size wb wr) := Lib.hid (HB1.out.trans (HBx.out.below (fun i hi => .inl hi) HB1.out.size))
    by_cases hkl : k < x.texts.length
    ·obtain ⟨bt, ot, Aa, ca, Ab, cb, rfl, hbt, -, a0, a1, ht1, ht2⟩ := text_at (HN2.out.keep (Kept.below HBB.out (fun _ h => h)) HBB.out.size) hkl
     obtain ⟨bv, ov, rfl, hbv, -, -, ev⟩ := int_at (HG1.out.keep (Kept.below HBB.out (fun _ h => h)) HBB.out.size) (k := k) (by omega)
     have htd : x.texts.drop k = x.texts[k] :: x.texts.drop (k + 1) := List.drop_eq_getElem_cons hkl
     have hvd : x.vers.drop k = x.vers[k]'(by omega) :: x.vers.drop (k + 1) := List.drop_eq_getElem_cons (by omega)
     have hshy := HSH.out.2.2 _ (List.getElem_mem hkl)
     have hpz : k = 0 → plainB m h x = (okPages x.texts[k].a x.texts[k].b m h).length := fun h0 => by
      subst h0
      exact plainB_first m h x hkl
     obtain ⟨y, hy⟩ : ∃ y, x.texts[k] = y := ⟨_, rfl⟩
     obtain ⟨vk, hvk⟩ : ∃ vk, x.vers[k]'(by omega) = vk := ⟨_, rfl⟩
     rw [hy] at a0 a1 ht1 ht2 htd hshy hpz
     rw [hvk] at ev hvd
     obtain ⟨ps, hps⟩ : ∃ ps, okPages y.a y.b m h = ps := ⟨_, rfl⟩
     rw [hps] at hpz
     have HPS := Lib.hid hps
     have HPZ := Lib.hid hpz
     have HD3 : Hid (dn ++ (labelP x.entry vk nu su k ps ++ (versB m h x.entry (k + 1) (if k = 0 then nu + ps.length else nu) (if k = 0 then su else su + ps.length) (x.vers.drop (k + 1)) (x.texts.drop (k + 1)) ++ sectsB m h (num + plainB m h x) (l.drop (i + 1)))) = pagesB m h l) := Lib.hid (by
      rw [← HD2.out, htd, hvd, versB, hps, List.append_assoc]; rfl)
     have HT1 : Hid (Sl wr (fun b => b < wr.heap.size) Aa ca y.a) := Lib.hid (ht1.mono (fun i _ hl => hl))
     have HT2 : Hid (Sl wr (fun b => b < wr.heap.size) Ab cb y.b) := Lib.hid (ht2.mono (fun i _ hl => hl))
     have HSY := Lib.hid hshy
     have hkI : (k : Int) < (x.texts.length : Int) := by omega
     have hkv : (k : Int) < (x.vers.length : Int) := by omega
     have HBT : Hid (bt < wr.heap.size ∧ bv < wr.heap.size) := Lib.hid ⟨Nat.lt_of_lt_of_le hbt HBB.out.size, Nat.lt_of_lt_of_le hbv HBB.out.size⟩
     have HBVb : Hid (bv < wb.heap.size) := Lib.hid hbv
     have HA0 := Lib.hid a0
     have HA1 := Lib.hid a1
     have HEV := Lib.hid ev
     have HX0w := Lib.hid (HX0.out.to HBB.out)
     have HSw : Hid (S < wr.heap.size) := Lib.hid HXSx.out.lt
     clear hy hvk hps hpz htd hvd ht1 ht2 hshy hbt hbv HD2
     go_upto_region 11 with (fail)
     clear p3 a0 a1 ev
     refine wp_region_rely [9] (fun i => if i = 9 then SP.pgE wr.heap.size ps (textE y.a y.b m h) else SP.any) 15 (by kernel_rfl) (by kernel_rfl) ?_
     intro T _ g hg hgm
     have p3 : ∀ d, (g d).cell? ⟨S, 3, none⟩ = some (.slice (some ⟨bt, ot, none⟩) x.texts.length cn) := fun d => (HXSx.out.to (hg d)).cell 3 rfl
     have b0 : ∀ d, (g d).cell? ⟨w.heap.size, 0, none⟩ = some (.int .i64 m) := fun d => (HX0w.out.to (hg d)).cell 0 rfl
     have b1 : ∀ d, (g d).cell? ⟨w.heap.size, 1, none⟩ = some (.int .i64 h) := fun d => (HX0w.out.to (hg d)).cell 1 rfl
     have a0 : ∀ d, (g d).cell? ⟨bt, ot + k * 2, none⟩ = some (.slice Aa y.a.length ca) := fun d => ((hg d).cell (p := ⟨bt, ot + k * 2, none⟩) HBT.out.1).trans HA0.out
     have a1 : ∀ d, (g d).cell? ⟨bt, ot + k * 2 + 1, none⟩ = some (.slice Ab y.b.length cb) := fun d => ((hg d).cell (p := ⟨bt, ot + k * 2 + 1, none⟩) HBT.out.1).trans HA1.out
     repeat (refine wpR_pure (by rfl) fun Kq hq => ?_; go_big_quiet_step (fail); refine wpQuiet_nil (hq _ ?_); clear hq Kq)
     refine wpR_busy (by rfl) (by rfl) (fun d hG K Q hK => ?_) (fun v d hG hp Kr hr => ?_)
     ·have hc := rText_ok (m := m) (h := h) (HT1.out.to (hg d)) (HT2.out.to (hg d)) HSY.out.1.1 HSY.out.2.1
      go_simp
      go_at_call 32
      refine (hc).mono ?_
      rintro e W1 ⟨v3, rfl, hp1, hb1⟩
      go_simp
      exact hK _ _ hb1 ((by obtain ⟨A', c', e1, e2⟩ := hp1; exact ⟨A', c', by rw [e1, HPS.out], by rw [HPS.out] at e2; exact e2.mono (fun i hi _ => Nat.le_trans (hg d).size hi)⟩))
     obtain ⟨Ap, cp, rfl, -⟩ := (show ∃ A c, v = .tuple #[.slice A ps.length c, .int .i64 (textE y.a y.b m h)] ∧ _ from hp)
     (try clear hp); clear hG
     simp only [Act.put, List.setIfInBounds_toArray, List.set_cons_zero, List.set_cons_succ]
     refine hr _ ?_
     clear hr Kr
     repeat (refine wpR_pure (by rfl) fun Kq hq => ?_; go_big_quiet_step (fail); refine wpQuiet_nil (hq _ ?_); clear hq Kq)
     refine wpR_end (by kernel_rfl) (fun d hG => ?_) _
     have HSL6 : Hid (Sl (g d) (fun b => wr.heap.size ≤ b ∧ b < (g d).heap.size) Ap cp ps) := Lib.hid (by
      obtain ⟨A', c', e1, e2⟩ := (show ∃ A c, Value.tuple #[.slice Ap ps.length cp, .int .i64 (textE y.a y.b m h)] = .tuple #[.slice A ps.length c, .int .i64 (textE y.a y.b m h)] ∧ Sl (g d) (Up wr.heap.size) A c ps from hG 9)
      obtain ⟨rfl, rfl⟩ : Ap = A' ∧ cp = c' := by
       have := congrArg (fun v : Value => match v with | .tuple cs => cs.toList | _ => []) e1
       simp at this
       exact this
      exact e2.mono (fun i hi hl => ⟨hi, hl⟩))
     clear p3 b0 b1 a0 a1
     have HBd := Lib.hid (hg d)
     clear hG hg hgm
     unfold Exit.then
     generalize g d = w6 at *
     clear g
     obtain ⟨wk, rfl⟩ : ∃ wk : World, wk = wr := ⟨_, rfl⟩
     have HOD := Lib.hid (HO.out.below HBd.out)
     have HXS6 := Lib.hid (HXSx.out.to HBd.out)
     have HV6 : Hid (w6.cell? ⟨bv, ov + k, none⟩ = some (.int .i64 vk)) := Lib.hid ((HBd.out.cell (p := ⟨bv, ov + k, none⟩) HBT.out.2).trans HEV.out)
     have HBV : Hid (bv < w6.heap.size ∧ S < w6.heap.size) := Lib.hid ⟨Nat.lt_of_lt_of_le HBT.out.2 HBd.out.size, Nat.lt_of_lt_of_le HSw.out HBd.out.size⟩
     have HB6 : Hid (Below wb.heap.size wb w6) := Lib.hid (HBB.out.trans (HBd.out.mono HBB.out.size))
     have HOB0 : Hid (∀ g, (Value.slice A3 dn.length c3).ownBlock = some g → g ≠ S ∧ (g < wk.heap.size ∨ w6.heap.size ≤ g)) := Lib.hid (fun g hg => ⟨HOS.out g hg, .inl (HO.out.lt g hg).2⟩)
     have HWK6 : Hid (wk.heap.size ≤ w6.heap.size ∧ wb.heap.size ≤ wk.heap.size) := Lib.hid ⟨HBd.out.size, HBB.out.size⟩
     have hpsc : ps.length ≤ cp := HSL6.out.1
     have hps9 : ps.length ≤ 100000 := by rw [← HPS.out]; exact okPages_len _ _ _ _
     go_wp2_with fail
     obtain ⟨RS, hRS⟩ : ∃ RS, versB m h x.entry (k + 1) (if k = 0 then nu + ps.length else nu) (if k = 0 then su else su + ps.length) (x.vers.drop (k + 1)) (x.texts.drop (k + 1)) ++ sectsB m h (num + plainB m h x) (l.drop (i + 1)) = RS := ⟨_, rfl⟩
     have HRS := Lib.hid hRS
     rw [hRS] at HD3
     clear hRS
     go_loopw [3, 4, 7, 11] (fun v3 v4 v7 v11 wz => ∃ (j : Nat) (nv sv : Int) (dq : List PageP), v11 = .int .i64 (j : Int) ∧ j ≤ ps.length ∧ v4 = .int .i64 nv ∧ v7 = .int .i64 sv ∧ (0 ≤ nv ∧ nv ≤ dq.length ∧ 0 ≤ sv ∧ sv ≤ dq.length) ∧ Hid (nv = if k = 0 then nu + j else nu) ∧ Hid (sv = if k = 0 then su else su + j) ∧ Hid (OwnP wz wb.heap.size 36 v3 dq (Up wb.heap.size)) ∧
      Hid (dq ++ (labelP x.entry vk nv sv k (ps.drop j) ++ RS) = pagesB m h l) ∧ Hid (KS (fun b => b < wb.heap.size ∨ b = S ∨ (wk.heap.size ≤ b ∧ b < w6.heap.size)) w6 wz) ∧ Hid (∀ g, v3.ownBlock = some g → g ≠ S ∧ (g < wk.heap.size ∨ w6.heap.size ≤ g))) (fun _ _ _ v11 _ => ps.length - (intOf v11).toNat)
     case atStart => exact ⟨0, nu, su, dn, rfl, Nat.zero_le _, rfl, rfl, ⟨hu1, hu2, hu3, hu4⟩, Lib.hid (by split <;> omega), Lib.hid (by split <;> omega), HOD, HD3, Lib.hid (KS.refl _ _), HOB0⟩
     case round =>
      clear HOD HD3 HOB0
      obtain ⟨j, nv, sv, dq, rfl, hj, rfl, rfl, ⟨hv1, hv2, hv3, hv4⟩, HNV, HSV, HO, HD4, HBz, HOB⟩ := hrel
      obtain ⟨A3, c3, hv3', -, -⟩ := HO.out.len
      subst hv3'
      by_cases hjl : j < ps.length
      ·have hjI : (j : Int) < (ps.length : Int) := by omega
       obtain ⟨bp, op, A1, c1, A2, c2, rfl, hbp, -, e0, e1, e2, e3, e4, e5, r1, r2⟩ := pageS_at (HSL6.out.keep (HBz.out.kept.mono (fun _ h => .inr (.inr h))) HBz.out.size) hjl
       have hpd : ps.drop j = ps[j] :: ps.drop (j + 1) := List.drop_eq_getElem_cons hjl
       have hsm : SmallP ps[j] := okPages_small y.a y.b m h _ (by rw [HPS.out]; exact List.getElem_mem hjl)
       obtain ⟨p, hp⟩ : ∃ p, ps[j] = p := ⟨_, rfl⟩
       rw [hp] at e0 e1 e2 e3 e4 e5 r1 r2 hpd hsm
       obtain ⟨n2, hn2⟩ : ∃ n2, (if k = 0 then nv + 1 else nv) = n2 := ⟨_, rfl⟩
       obtain ⟨s2, hs2⟩ : ∃ s2, (if k = 0 then sv else sv + 1) = s2 := ⟨_, rfl⟩
       obtain ⟨q, hq⟩ : ∃ q : PageP, ⟨n2, s2, x.entry, vk, p.body, p.notes⟩ = q := ⟨_, rfl⟩
       have HD5 : Hid ((dq ++ [q]) ++ (labelP x.entry vk n2 s2 k (ps.drop (j + 1)) ++ RS) = pagesB m h l) := Lib.hid (by
        rw [← HD4.out, hpd, labelP_cons, hn2, hs2, hq, List.append_assoc]; rfl)
       have hdl : dq.length + 1 ≤ 1000000000 := by
        have h1 := congrArg List.length HD5.out
        have h2 := HB.out.pn
        rw [← h1, List.length_append, List.length_append] at h2
        simp at h2
        omega
       have HDL := Lib.hid hdl
       obtain ⟨O, hO⟩ : ∃ O, wr.heap.size = O := ⟨_, rfl⟩
       obtain ⟨wO, hwO⟩ : ∃ wO, wr.alloc (.cells #[.int .i64 p.num, .int .i64 p.suf, .int .i64 p.entry, .int .i64 p.ver, .slice A1 p.body.length c1, .slice A2 p.notes.length c2] 36) = wO := ⟨_, rfl⟩
       have hbO : Below wr.heap.size wr wO := by rw [← hwO]; exact (Below.refl _ _).alloc (Nat.le_refl _) _
       have hxO : ABox wO O 36 [.int .i64 p.num, .int .i64 p.suf, .int .i64 p.entry, .int .i64 p.ver, .slice A1 p.body.length c1, .slice A2 p.notes.length c2] := by rw [← hwO, ← hO]; exact heap_alloc_new wr _
       have h6O : w6.heap.size ≤ O := by rw [← hO]; exact HBz.out.size
       have HXO := Lib.hid hxO
       have HOO : Hid (OwnP wO wb.heap.size 36 (.slice A3 dq.length c3) dq (fun i => wb.heap.size ≤ i ∧ i ≠ O)) := Lib.hid ((HO.out.mono (fun i hi hl => ⟨hi, by omega⟩)).below hbO)
       have HBO : Hid (KS (fun b => b < wb.heap.size ∨ b = S ∨ (wk.heap.size ≤ b ∧ b < w6.heap.size)) w6 wO) := Lib.hid (HBz.out.trans (KS.of_below hbO _))
       have HNS : Hid (¬ (O < wb.heap.size ∨ O = S ∨ (wk.heap.size ≤ O ∧ O < w6.heap.size))) := Lib.hid (by have := HWK6.out; have := HBV.out.2; omega)
       have HR1 : Hid (Sl wO (fun b => wk.heap.size ≤ b ∧ b < w6.heap.size) A1 c1 p.body) := Lib.hid (r1.keep (Kept.all hbO) hbO.size)
       have HR2 : Hid (Sl wO (fun b => wk.heap.size ≤ b ∧ b < w6.heap.size) A2 c2 p.notes) := Lib.hid (r2.keep (Kept.all hbO) hbO.size)
       have H6O := Lib.hid h6O
       have HSM := Lib.hid hsm
       have HQ := Lib.hid hq
       have HN2e := Lib.hid hn2
       have HNB : Hid (0 ≤ n2 ∧ n2 ≤ dq.length + 1 ∧ 0 ≤ s2 ∧ s2 ≤ dq.length + 1) := Lib.hid (by rw [← hn2, ← hs2]; split <;> omega)
       have HNV2 : Hid (n2 = if k = 0 then nu + ((j + 1 : Nat) : Int) else nu) := Lib.hid (by
        have h1 := HNV.out
        rw [← hn2]
        split
        ·rename_i h; rw [if_pos h] at h1; omega
        ·rename_i h; rw [if_neg h] at h1; exact h1)
       have HSV2 : Hid (s2 = if k = 0 then su else su + ((j + 1 : Nat) : Int)) := Lib.hid (by
        have h1 := HSV.out
        rw [← hs2]
        split
        ·rename_i h; rw [if_pos h] at h1; exact h1
        ·rename_i h; rw [if_neg h] at h1; omega)
       have HS2e := Lib.hid hs2
       go_upto_if 56 with (fail)
       try rw [hO]
       try rw [hwO]
       clear e0 e1 e2 e3 e4 e5 r1 r2 hpd hp hq hxO hbO hwO hO hsm
       clear HO HBz HD4
       go_cut [4, 7] from 55 to 60 (fun v4 v7 wx => v4 = .int .i64 n2 ∧ v7 = .int .i64 s2 ∧ wx = wO)
       case first =>
        by_cases hk0 : k = 0
        ·have hn3 : nv + 1 = n2 := by rw [← HN2e.out, if_pos hk0]
         have hs3 : sv = s2 := by rw [← HS2e.out, if_pos hk0]
         have HN3 := Lib.hid hn3
         have HS3 := Lib.hid hs3
         have hkI0 : (k : Int) = 0 := by omega
         subst hk0
         clear hn3 hs3 hn2 hs2
         go_wp2_with fail
         go_meet
         exact ⟨by rw [HN3.out], by rw [HS3.out], rfl⟩
        ·have hn3 : nv = n2 := by rw [← HN2e.out, if_neg hk0]
         have hs3 : sv + 1 = s2 := by rw [← HS2e.out, if_neg hk0]
         have HN3 := Lib.hid hn3
         have HS3 := Lib.hid hs3
         have hkI0 : ¬ (k : Int) = 0 := by omega
         clear hn3 hs3 hn2 hs2
         go_wp2_with fail
         go_meet
         exact ⟨by rw [HN3.out], by rw [HS3.out], rfl⟩
       case rest =>
        obtain ⟨rfl, rfl, rfl⟩ := hcut
        obtain ⟨wO, rfl⟩ : ∃ wO : World, wO = wc := ⟨_, rfl⟩
        have hb2 : KS (fun b => b < wb.heap.size ∨ b = S ∨ (wk.heap.size ≤ b ∧ b < w6.heap.size)) w6 ((wO.setCell ⟨O, 0, none⟩ (.int .i64 n2)).setCell ⟨O, 1, none⟩ (.int .i64 s2)) := (HBO.out.trans (KS.setCell _ _ HNS.out)).trans (KS.setCell _ _ HNS.out)
        have hb3 : KS (fun b => b < wb.heap.size ∨ b = S ∨ (wk.heap.size ≤ b ∧ b < w6.heap.size)) w6 (((wO.setCell ⟨O, 0, none⟩ (.int .i64 n2)).setCell ⟨O, 1, none⟩ (.int .i64 s2)).setCell ⟨O, 2, none⟩ (.int .i64 x.entry)) := hb2.trans (KS.setCell _ _ HNS.out)
        have hb4 : KS (fun b => b < wb.heap.size ∨ b = S ∨ (wk.heap.size ≤ b ∧ b < w6.heap.size)) w6 ((((wO.setCell ⟨O, 0, none⟩ (.int .i64 n2)).setCell ⟨O, 1, none⟩ (.int .i64 s2)).setCell ⟨O, 2, none⟩ (.int .i64 x.entry)).setCell ⟨O, 3, none⟩ (.int .i64 vk)) := hb3.trans (KS.setCell _ _ HNS.out)
        have hx2 := (HXO.out.set 0 (.int .i64 n2)).set 1 (.int .i64 s2)
        have hx3 := hx2.set 2 (.int .i64 x.entry)
        have hx4 := hx3.set 3 (.int .i64 vk)
        have z0 := HXO.out.cell 0 rfl
        have f0 := HXO.out.fz 0
        have z1 := (HXO.out.set 0 (.int .i64 n2)).cell 1 rfl
        have f1 := (HXO.out.set 0 (.int .i64 n2)).fz 1
        have z2 := hx2.cell 2 rfl
        have f2 := hx2.fz 2
        have z3 := hx3.cell 3 rfl
        have f3 := hx3.fz 3
        have u0 := hx4.cell 0 rfl
        have u1 := hx4.cell 1 rfl
        have u2 := hx4.cell 2 rfl
        have u3 := hx4.cell 3 rfl
        have u4 := hx4.cell 4 rfl
        have u5 := hx4.cell 5 rfl
        have g2 := (show ABox _ S 45 _ from (hb2.block S (.inr (.inl rfl)) HBV.out.2).trans HXS6.out).cell 0 rfl
        have g3 := (show ABox _ S 45 _ from (hb3.block S (.inr (.inl rfl)) HBV.out.2).trans HXS6.out).cell 2 rfl
        have g4 := hb3.kept.cell (.inl HBVb.out) HV6.out
        obtain ⟨W4, hW4⟩ : ∃ W4, (((wO.setCell ⟨O, 0, none⟩ (.int .i64 n2)).setCell ⟨O, 1, none⟩ (.int .i64 s2)).setCell ⟨O, 2, none⟩ (.int .i64 x.entry)).setCell ⟨O, 3, none⟩ (.int .i64 vk) = W4 := ⟨_, rfl⟩
        have hkk : ∀ i, i ≠ O → W4.heap[i]? = wO.heap[i]? := fun i hi => by rw [← hW4]; exact (heap_set _ _ _ _ hi).trans ((heap_set _ _ _ _ hi).trans ((heap_set _ _ _ _ hi).trans (heap_set _ _ _ _ hi)))
        have hsz4 : W4.heap.size = wO.heap.size := by rw [← hW4]; simp
        have HO4 : Hid (OwnP W4 wb.heap.size 36 (.slice A3 dq.length c3) dq (Up wb.heap.size)) := Lib.hid ((HOO.out.kept (fun i hi _ => hkk i hi.2)).mono (fun i hi _ => hi.1))
        have HR14 : Hid (Sl W4 (fun b => wk.heap.size ≤ b ∧ b < w6.heap.size) A1 c1 p.body) := Lib.hid (HR1.out.keep (fun i hi _ => hkk i (by have := H6O.out; omega)) (Nat.le_of_eq hsz4.symm))
        have HR24 : Hid (Sl W4 (fun b => wk.heap.size ≤ b ∧ b < w6.heap.size) A2 c2 p.notes) := Lib.hid (HR2.out.keep (fun i hi _ => hkk i (by have := H6O.out; omega)) (Nat.le_of_eq hsz4.symm))
        rw [hW4] at u0 u1 u2 u3 u4 u5 hb4
        have HB4 := Lib.hid hb4
        clear hkk hsz4 hx2 hx3 hx4 hb2 hb3 hb4
        have hba : Below W4.heap.size W4 (W4.alloc (.cells #[.int .i64 n2, .int .i64 s2, .int .i64 x.entry, .int .i64 vk, .slice A1 p.body.length c1, .slice A2 p.notes.length c2] 36)) := (Below.refl _ _).alloc (Nat.le_refl _) _
        have HWZ : Hid (wb.heap.size ≤ W4.heap.size) := Lib.hid (by have := HB6.out.size; have := HB4.out.size; omega)
        have HW6 : Hid (w6.heap.size ≤ W4.heap.size) := Lib.hid HB4.out.size
        have HWK : Hid (wb.heap.size ≤ wk.heap.size) := Lib.hid HBB.out.size
        have HO5 := Lib.hid (HO4.out.below hba)
        have HRE : Hid (Rep.R (W4.alloc (.cells #[.int .i64 n2, .int .i64 s2, .int .i64 x.entry, .int .i64 vk, .slice A1 p.body.length c1, .slice A2 p.notes.length c2] 36)) (fun b => some b ≠ (Value.slice A3 dq.length c3).ownBlock) [.int .i64 n2, .int .i64 s2, .int .i64 x.entry, .int .i64 vk, .slice A1 p.body.length c1, .slice A2 p.notes.length c2] (⟨q⟩ : Av PageP (Up wb.heap.size))) := Lib.hid (by
         rw [← HQ.out]
         have hno : ∀ i, (wk.heap.size ≤ i ∧ i < w6.heap.size) → some i ≠ (Value.slice A3 dq.length c3).ownBlock ∧ wb.heap.size ≤ i := fun i hi => ⟨fun e => by have := HOB.out i e.symm; omega, by have := HWK.out; omega⟩
         exact ⟨_, _, rfl, ⟨A1, c1, rfl, (HR14.out.keep (Kept.all hba) hba.size).mono (fun i hi _ => hno i hi), (show p.body.length < 9223372036854775808 by have := HSM.out.1; omega)⟩, ⟨A2, c2, rfl, (HR24.out.keep (Kept.all hba) hba.size).mono (fun i hi _ => hno i hi), (show p.notes.length < 9223372036854775808 by have := HSM.out.2; omega)⟩⟩)
        have hml : (dq.map (Av.mk : PageP → Av PageP (Up wb.heap.size))).length = dq.length := List.length_map _
        have HML := Lib.hid hml
        clear hba hml
        go_wp2_with (first
         |(at_builtin; (try rw [hW4]); refine wpList_push (α := Av PageP (Up wb.heap.size)) _ rfl (.tmp 74) (.tmp 76) 29 rfl wb.heap.size 36 (.agg #[.int .i64 0, .int .i64 0, .int .i64 0, .int .i64 0, .slice none 0 0, .slice none 0 0]) 80 Tryz.underlying29 page_info rfl (show 0 < 6 by decide) (.slice A3 dq.length c3) (dq.map Av.mk) rfl HO5.out.own W4.heap.size _ ⟨q⟩ (0, 0) 36 rfl (heap_alloc_new W4 _) HRE.out (by rw [HML.out]; have := HDL.out; omega) (by rw [HML.out]; have := HDL.out; omega) (by have := HWZ.out; simp; omega) _ rfl ?_; intro g5 p5 w5 hown5 hg5 hat5 hlt5; rw [HML.out] at hown5 ⊢; have HPN := Lib.hid (HO5.out.pushed hown5 (fun k hk => by cases hk; exact hat5) (show wb.heap.size ≤ _ by have := HWZ.out; simp; omega)); have HBN : Hid (KS (fun b => b < wb.heap.size ∨ b = S ∨ (wk.heap.size ≤ b ∧ b < w6.heap.size)) w6 w5) := Lib.hid ((HB4.out.trans (KS.alloc _)).trans (KS.grown hg5 (fun k hk hS => by have h1 := HOB.out k hk; have h2 := HO4.out.lt k hk; omega))); have HOBN : Hid (∀ g, (Value.slice (some ⟨g5, 0, none⟩) (dq.length + 1) p5).ownBlock = some g → g ≠ S ∧ (g < wk.heap.size ∨ w6.heap.size ≤ g)) := Lib.hid (fun g hg => by have hg9 : g5 = g := (by simpa [Value.ownBlock] using hg); subst hg9; rcases hat5 with h | h; exact HOB.out _ h; have h1 := HW6.out; have h2 := HBV.out.2; simp at h; omega); clear hown5 hg5 hat5 hlt5)
         | fail)
        go_roundw
        case rel => exact ⟨j + 1, n2, s2, dq ++ [q], by go_num, by omega, rfl, rfl, by have := HNB.out; rw [List.length_append]; simp; omega, HNV2, HSV2, HPN, HD5, HBN, HOBN⟩
        case measure => (first | (simp [intOf]; done) | (simp [intOf]; omega))
      ·obtain rfl : j = ps.length := by omega
       have HDR : Hid (dq ++ (versB m h x.entry (k + 1) nv sv (x.vers.drop (k + 1)) (x.texts.drop (k + 1)) ++ sectsB m h (num + plainB m h x) (l.drop (i + 1))) = pagesB m h l) := Lib.hid (by
        have h1 := HD4.out
        rwa [List.drop_length, labelP, List.nil_append, ← HRS.out, ← HNV.out, ← HSV.out] at h1)
       have HNU2 : Hid (nv = if k + 1 = 0 then num else num + plainB m h x) := Lib.hid (by
        rw [if_neg (by omega), HNV.out]
        have h1 := HNU.out
        by_cases hk0 : k = 0
        ·rw [if_pos hk0] at h1 ⊢; rw [h1, HPZ.out hk0]
        ·rw [if_neg hk0] at h1 ⊢; exact h1)
       have HBX : Hid (KS (fun b => b < wb.heap.size ∨ b = S) ws wr) := Lib.hid (HBx.out.trans ((KS.of_below HBd.out _).trans (HBz.out.mono (fun i hi _ => hi.elim .inl (fun h => .inr (.inl h))))))
       have HOS2 : Hid (∀ g, (Value.slice A3 dq.length c3).ownBlock = some g → g ≠ S) := Lib.hid (fun g hg => (HOB.out g hg).1)
       have hjI : ¬ (ps.length : Int) < (ps.length : Int) := by omega
       go_wp2_with fail
       go_roundw
       case rel => exact ⟨k + 1, nv, sv, dq, by go_num, by omega, rfl, rfl, ⟨hv1, hv2, hv3, hv4⟩, HNU2, HO, HDR, HBX, HOS2⟩
       case measure => (first | (simp [intOf]; done) | (simp [intOf]; omega))
    ·obtain rfl : k = x.texts.length := by omega
     have HNX : Hid (nu = num + plainB m h x) := Lib.hid (by
      have h1 := HNU.out
      by_cases h0 : x.texts.length = 0
      ·rw [if_pos h0] at h1
       have h2 : plainB m h x = 0 := by unfold plainB; rw [List.eq_nil_of_length_eq_zero h0]
       rw [h1, h2]; simp
      ·rwa [if_neg h0] at h1)
     have HDR : Hid (dn ++ sectsB m h nu (l.drop (i + 1)) = pagesB m h l) := Lib.hid (by
      have h1 := HD2.out
      rwa [List.drop_length, versB, List.nil_append, ← HNX.out] at h1)
     have hkI : ¬ (x.texts.length : Int) < (x.texts.length : Int) := by omega
     go_wp2_with fail
     go_roundw
     case rel => exact ⟨i + 1, nu, dn, by go_num, by omega, rfl, hu1, hu2, HO, HDR, HBB⟩
     case measure => (first | (simp [intOf]; done) | (simp [intOf]; omega))
  ·obtain rfl : i = n := by omega
   have HFI : Hid (done = pagesB m h l) := Lib.hid (by
    have h1 := HD.out
    rwa [← HN.out, List.drop_length, sectsB, List.append_nil] at h1)
   have HBE := Lib.hid (HBA.out.trans (HBl.out.mono HBA.out.size))
   have HSZ := Lib.hid HBA.out.size
   go_wp2_with fail
   go_ret
   exact ⟨_, rfl, by rw [← HFI.out]; exact up_own HO.out HSZ.out, HBE.out⟩
end Go.Proofs.YtakaielemicpkaaGreatDoor
namespace Go.Proofs.YtakaielemicpkaaGreatDoor
open Go.RowKit
end Go.Proofs.YtakaielemicpkaaGreatDoor
namespace Go.Proofs.YtakaielemicpkaaGreatDoor
open Go.RowKit
end Go.Proofs.YtakaielemicpkaaGreatDoor
namespace Go.Proofs.YtakaielemicpkaaGreatDoor
open Go.RowKit
end Go.Proofs.YtakaielemicpkaaGreatDoor
namespace Go.Proofs.YtakaielemicpkaaGreatDoor
open Go.RowKit
theorem coreV_small (m h e : Int) : ∀ (ts : List TextP) (vs : List Int) (c : CoreP), c ∈ coreV m h e vs ts → c.body.length ≤ 1048576 ∧ c.notes.length ≤ 1048576
 | [], vs, c, hc => by simp [coreV] at hc
 | t :: ts, vs, c, hc => by
  rw [coreV] at hc
  rcases List.mem_append.1 hc with h1 | h1
  ·obtain ⟨p, hp, rfl⟩ := List.mem_map.1 h1
   exact okPages_small t.a t.b m h p hp
  ·exact coreV_small m h e ts vs.tail c h1
theorem pages_smallB (m h : Int) (l : List SectP) : ∀ p ∈ pagesB m h l, SmallP p := by
 intro p hp
 have hc : p.core ∈ coreS m h l := by rw [← pagesB_core]; exact List.mem_map_of_mem hp
 have hs : ∀ c ∈ coreS m h l, c.body.length ≤ 1048576 ∧ c.notes.length ≤ 1048576 := by
  intro c hc
  obtain ⟨s, -, hs⟩ := List.mem_flatMap.1 hc
  exact coreV_small m h s.entry s.texts s.vers c hs
 exact hs _ hc
end Go.Proofs.YtakaielemicpkaaGreatDoor
namespace Go.Proofs.YtakaielemicpkaaGreatDoor
open Go.RowKit
end Go.Proofs.YtakaielemicpkaaGreatDoor
namespace Go.Proofs.YtakaielemicpkaaGreatDoor
open Go.RowKit
end Go.Proofs.YtakaielemicpkaaGreatDoor
namespace Go.Proofs.YtakaielemicpkaaGreatDoor
open Go.RowKit
def pageAt (n s : Int) (ps : List PageP) : Option PageP := ps.find? (fun p => decide (p.num = n ∧ p.suf = s))
theorem pageAt_hit {n s : Int} {ps : List PageP} {k : Nat} (hk : k < ps.length) (h : ps[k].num = n ∧ ps[k].suf = s) (hn : ∀ i (hi : i < ps.length), i < k → ¬ (ps[i].num = n ∧ ps[i].suf = s)) : pageAt n s ps = some ps[k] := by
 unfold pageAt
 rw [List.find?_eq_some_iff_getElem]
 exact ⟨decide_eq_true h, k, hk, rfl, fun j hj => by rw [decide_eq_false (hn j (by omega) hj)]; rfl⟩
theorem pageAt_none {n s : Int} {ps : List PageP} (hn : ∀ i (hi : i < ps.length), ¬ (ps[i].num = n ∧ ps[i].suf = s)) : pageAt n s ps = none := by
 unfold pageAt
 rw [List.find?_eq_none]
 intro x hx
 obtain ⟨i, hi, rfl⟩ := List.getElem_of_mem hx
 rw [decide_eq_false (hn i hi)]; decide
def PgP (B : Nat) (o : Option PageP) (e : Ending) (W' : World) : Prop := ∃ Aa ca Ab cb, e = .returned (.tuple #[.agg #[.int .i64 (o.getD ⟨0, 0, 0, 0, [], []⟩).num, .int .i64 (o.getD ⟨0, 0, 0, 0, [], []⟩).suf, .int .i64 (o.getD ⟨0, 0, 0, 0, [], []⟩).entry, .int .i64 (o.getD ⟨0, 0, 0, 0, [], []⟩).ver, .slice Aa (o.getD ⟨0, 0, 0, 0, [], []⟩).body.length ca, .slice Ab (o.getD ⟨0, 0, 0, 0, [], []⟩).notes.length cb], .bool o.isSome]) ∧ Sl W' (Up B) Aa ca (o.getD ⟨0, 0, 0, 0, [], []⟩).body ∧ Sl W' (Up B) Ab cb (o.getD ⟨0, 0, 0, 0, [], []⟩).notes
theorem PgP.no {B : Nat} {o : Option PageP} (W' : World) (h : o = none) : PgP B o (.returned (.tuple #[.agg #[.int .i64 0, .int .i64 0, .int .i64 0, .int .i64 0, .slice none 0 0, .slice none 0 0], .bool false])) W' := by
 subst h
 exact ⟨none, 0, none, 0, rfl, Sl.nil _ _ _ _ (Nat.zero_le _), Sl.nil _ _ _ _ (Nat.zero_le _)⟩
theorem PgP.yes {B : Nat} {o : Option PageP} {p : PageP} {W' : World} {A1 A2 : Option Addr} {c1 c2 : Nat} (h : o = some p) (h1 : Sl W' (Up B) A1 c1 p.body) (h2 : Sl W' (Up B) A2 c2 p.notes) : PgP B o (.returned (.tuple #[.agg #[.int .i64 p.num, .int .i64 p.suf, .int .i64 p.entry, .int .i64 p.ver, .slice A1 p.body.length c1, .slice A2 p.notes.length c2], .bool true])) W' := by
 subst h
 exact ⟨A1, c1, A2, c2, rfl, h1, h2⟩
theorem below6 {n b : Nat} {w w' : World} (h : Below n w w') (hb : n ≤ b) (u0 u1 u2 u3 u4 u5 : Value) : Below n w ((((((w'.setCell ⟨b, 0, none⟩ (u0)).setCell ⟨b, 1, none⟩ (u1)).setCell ⟨b, 2, none⟩ (u2)).setCell ⟨b, 3, none⟩ (u3)).setCell ⟨b, 4, none⟩ (u4)).setCell ⟨b, 5, none⟩ (u5)) := (((((h.setCell (p := ⟨b, 0, none⟩) hb u0).setCell (p := ⟨b, 1, none⟩) hb u1).setCell (p := ⟨b, 2, none⟩) hb u2).setCell (p := ⟨b, 3, none⟩) hb u3).setCell (p := ⟨b, 4, none⟩) hb u4).setCell (p := ⟨b, 5, none⟩) hb u5
theorem heap6 (w : World) (b : Nat) (u0 u1 u2 u3 u4 u5 : Value) {i : Nat} (hi : i ≠ b) : ((((((w.setCell ⟨b, 0, none⟩ (u0)).setCell ⟨b, 1, none⟩ (u1)).setCell ⟨b, 2, none⟩ (u2)).setCell ⟨b, 3, none⟩ (u3)).setCell ⟨b, 4, none⟩ (u4)).setCell ⟨b, 5, none⟩ (u5)).heap[i]? = w.heap[i]? := by
 rw [heap_set _ _ _ _ hi, heap_set _ _ _ _ hi, heap_set _ _ _ _ hi, heap_set _ _ _ _ hi, heap_set _ _ _ _ hi, heap_set _ _ _ _ hi]
def IsC (w : World) (b : Nat) : Prop := ∃ cs t fr, w.heap[b]? = some (.cells cs t fr)
theorem IsC.of_cell {w : World} {p : Addr} {u : Value} (h : w.cell? p = some u) : IsC w p.block := by
 unfold World.cell? at h
 cases hb : w.heap[p.block]? with
 | none => rw [hb] at h; simp at h
 | some o =>
  rw [hb] at h
  cases o with
  | cells cs t fr => exact ⟨cs, t, fr, hb⟩
  | _ => simp at h
theorem Sl.isC {α : Type} [Rep α] {w : World} {S : Nat → Prop} {A : Option Addr} {c : Nat} {l : List α} (h : Sl w S A c l) (hz : 0 < Rep.size α) (hr : ∀ es (x : α), Rep.R w S es x → Rep.R w (fun i => IsC w i ∧ S i) es x) : Sl w (fun i => IsC w i ∧ S i) A c l := by
 refine ⟨h.1, h.2.1, fun hn => ?_⟩
 obtain ⟨b, o, e, hb, hlt, hx⟩ := h.2.2 hn
 refine ⟨b, o, e, ⟨?_, hb⟩, hlt, fun i hi => ?_⟩
 ·obtain ⟨es, hes, hc⟩ := hx 0 hn
  have hl := Rep.len hes
  have := hc 0 _ (List.getElem?_eq_getElem (by omega))
  exact IsC.of_cell this
 ·obtain ⟨es, hes, hc⟩ := hx i hi
  exact ⟨es, hr es _ hes, hc⟩
theorem repI_isC {w : World} {S : Nat → Prop} {es : List Value} {l : List Int} (h : Rep.R w S es l) : Rep.R w (fun i => IsC w i ∧ S i) es l := by
 obtain ⟨A, c, e, hs, hl⟩ := h
 exact ⟨A, c, e, hs.isC (show 0 < 1 by decide) (fun es x hx => hx), hl⟩
theorem repL_isC {w : World} {S : Nat → Prop} {es : List Value} {l : List LineP} (h : Rep.R w S es l) : Rep.R w (fun i => IsC w i ∧ S i) es l := by
 obtain ⟨A, c, e, hs, hl⟩ := h
 refine ⟨A, c, e, hs.isC (show 0 < 4 by decide) (fun es x hx => ?_), hl⟩
 obtain ⟨va, vb, h1, h2, h3⟩ := hx
 exact ⟨va, vb, h1, repI_isC h2, repI_isC h3⟩
theorem repL_own {X Y : World} {S : Nat → Prop} {row : Option Nat} {es : List Value} {l : List LineP} (h : Rep.R X (fun i => IsC X i ∧ S i) es l) (hg : X.grownBy Y row) (hr : ∀ i, IsC X i → some i ≠ row) : Rep.R Y (fun i => IsC Y i ∧ S i) es l :=
 Rep.mono (repL_isC (Rep.keep h (Kept.grown hg (fun i hi => hr i hi.1)))) (fun i hi _ => ⟨hi.1, hi.2.2⟩)
end Go.Proofs.YtakaielemicpkaaGreatDoor
namespace Go.Proofs.YtakaielemicpkaaGreatDoor
open Go.RowKit
set_option maxRecDepth 100000 in
set_option maxHeartbeats 8000000 in
theorem rpage_any {m h : Int} {A : Option Addr} {c : Nat} {l : List SectP} {w : World} (H : BookOk w m h A c l) (n s : Int) :
  Calls Tryz.prog 15 #[.agg #[.int .i64 m, .int .i64 h, .slice A l.length c], .agg #[.int .i64 n, .int .i64 s]] w fun e W' => PgP w.heap.size (pageAt n s (pagesB m h l)) e W' ∧ Below w.heap.size w W' := by
 obtain ⟨wb, hwb⟩ : ∃ wb, ((w.alloc (.cells #[.int .i64 m, .int .i64 h, .slice A l.length c] 27)).alloc (.cells #[.int .i64 n, .int .i64 s] 24)).alloc (.cells #[.int .i64 0, .int .i64 0, .int .i64 0, .int .i64 0, .slice none 0 0, .slice none 0 0] 36) = wb := ⟨_, rfl⟩
 have hba : Below w.heap.size w wb := by rw [← hwb]; exact (((Below.refl _ _).alloc (Nat.le_refl _) _).alloc (by simp) _).alloc (by simp; omega) _
 have hx0 : ABox wb w.heap.size 27 [.int .i64 m, .int .i64 h, .slice A l.length c] := by rw [← hwb]; repeat (first | exact heap_at (by simp; done) | refine (Below.heap_alloc _ _ _ (by simp; try omega)).trans ?_)
 have hx1 : ABox wb (w.heap.size + 1) 24 [.int .i64 n, .int .i64 s] := by rw [← hwb]; repeat (first | exact heap_at (by simp; done) | refine (Below.heap_alloc _ _ _ (by simp; try omega)).trans ?_)
 have hx2 : ABox wb (w.heap.size + 1 + 1) 36 [.int .i64 0, .int .i64 0, .int .i64 0, .int .i64 0, .slice none 0 0, .slice none 0 0] := by rw [← hwb]; repeat (first | exact heap_at (by simp; done) | refine (Below.heap_alloc _ _ _ (by simp; try omega)).trans ?_)
 have HP := Lib.hid (rpages_any (H.to hba))
 have hsz : wb.heap.size = w.heap.size + 3 := by rw [← hwb]; simp
 have HZ := Lib.hid hsz
 have HB := Lib.hid hba
 have HX1 := Lib.hid hx1
 have HX2 := Lib.hid hx2
 have x0 := hx0.cell 0 rfl
 have x1 := hx0.cell 1 rfl
 have x2 := hx0.cell 2 rfl
 clear hba hx0 hx1 hx2 hsz H
 go_enter Tryz.func15, Tryz.ntmps15
 go_upto_region 1 with (fail)
 try rw [hwb]
 clear hwb
 go_upto_region 2 with (first
  |(go_at_call 10; refine HP.out.mono ?_; rintro e w1 ⟨v1, rfl, ho1, hb1⟩; have HO1 := Lib.hid ho1; have HB1 := Lib.hid hb1; clear ho1 hb1 x0 x1 x2)
  | fail)
 obtain ⟨ps, hps⟩ : ∃ ps, pagesB m h l = ps := ⟨_, rfl⟩
 rw [hps] at HO1
 have HPS := Lib.hid hps
 clear hps HP
 obtain ⟨np, hnp⟩ : ∃ np, ps.length = np := ⟨_, rfl⟩
 obtain ⟨Ap, cp, rfl, hsp⟩ := HO1.out.sl
 have hpc : ps.length ≤ cp := hsp.1
 have hpm : cp ≤ 9223372036854775807 := hsp.2.1
 have HS := Lib.hid hsp
 have HNP := Lib.hid hnp
 have HBA : Hid (Below w.heap.size w w1) := Lib.hid (HB.out.trans (HB1.out.mono HB.out.size))
 have HX1' := Lib.hid (HX1.out.to HB1.out)
 have HX2' := Lib.hid (HX2.out.to HB1.out)
 have HZ1 : Hid (w.heap.size + 3 ≤ w1.heap.size) := Lib.hid (by have := HB1.out.size; have := HZ.out; omega)
 rw [hnp] at hpc ⊢
 clear hsp hnp HO1 HB1 HX1 HX2 HB
 go_wp2_with fail
 go_loopw [7] (fun i wr => ∃ k : Nat, k ≤ np ∧ i = .int .i64 k ∧ Hid (∀ i (hi : i < ps.length), i < k → ¬ (ps[i].num = n ∧ ps[i].suf = s)) ∧ Hid (Below w1.heap.size w1 wr)) (fun i _ => np - (intOf i).toNat)
 case atStart => exact ⟨0, Nat.zero_le _, rfl, Lib.hid (fun i _ h => absurd h (Nat.not_lt_zero _)), Lib.hid (Below.refl _ _)⟩
 case round =>
  obtain ⟨k, hk, rfl, HN, HBr⟩ := hrel
  have y0 := (HX1'.out.to HBr.out).cell 0 rfl
  have y1 := (HX1'.out.to HBr.out).cell 1 rfl
  by_cases hlt : k < np
  ·have hkl : k < ps.length := by rw [HNP.out]; exact hlt
   obtain ⟨b, o, A1, c1, A2, c2, rfl, hbu, hbb, e0, e1, e2, e3, e4, e5, ha, hb⟩ := pageS_at (HS.out.keep (Kept.all HBr.out) HBr.out.size) hkl
   obtain ⟨p, hp⟩ : ∃ p, ps[k] = p := ⟨_, rfl⟩
   rw [hp] at e0 e1 e2 e3 e4 e5 ha hb
   have HA := Lib.hid ha
   have HBb := Lib.hid hb
   have HP := Lib.hid hp
   have hkI : (k : Int) < (np : Int) := by omega
   clear ha hb hp hbu
   by_cases hq : p.num = n ∧ p.suf = s
   ·have HHIT := Lib.hid ((pageAt_hit hkl (by rw [HP.out]; exact hq) HN.out).trans (by rw [HP.out]))
    obtain ⟨hq1, hq2⟩ := hq
    rw [← hq1] at y0
    rw [← hq2] at y1
    clear hq1 hq2
    have HE : Hid (∀ W, Below wr.heap.size wr W → W.cell? ⟨b, o + k * 6, none⟩ = some (.int .i64 p.num) ∧ W.cell? ⟨b, o + k * 6 + 1, none⟩ = some (.int .i64 p.suf) ∧ W.cell? ⟨b, o + k * 6 + 2, none⟩ = some (.int .i64 p.entry) ∧ W.cell? ⟨b, o + k * 6 + 3, none⟩ = some (.int .i64 p.ver) ∧ W.cell? ⟨b, o + k * 6 + 4, none⟩ = some (.slice A1 p.body.length c1) ∧ W.cell? ⟨b, o + k * 6 + 5, none⟩ = some (.slice A2 p.notes.length c2)) := Lib.hid fun W hW =>
     ⟨(hW.cell (p := ⟨b, o + k * 6, none⟩) hbb).trans e0, (hW.cell (p := ⟨b, o + k * 6 + 1, none⟩) hbb).trans e1, (hW.cell (p := ⟨b, o + k * 6 + 2, none⟩) hbb).trans e2, (hW.cell (p := ⟨b, o + k * 6 + 3, none⟩) hbb).trans e3, (hW.cell (p := ⟨b, o + k * 6 + 4, none⟩) hbb).trans e4, (hW.cell (p := ⟨b, o + k * 6 + 5, none⟩) hbb).trans e5⟩
    clear e2 e3 e4 e5 hbb
    go_upto_region 6 with (first | go_quiet (fail) | fail)
    have hdn : Below wr.heap.size wr (wr.drewN nq) := Below.dn (Below.refl _ _) nq
    obtain ⟨wo, hwo⟩ : ∃ wo, wr.drewN nq = wo := ⟨_, rfl⟩
    rw [hwo] at hdn ⊢
    clear e0 e1 y0 y1 hwo
    obtain ⟨e0, e1, e2, e3, e4, e5⟩ := HE.out _ hdn
    have HAo := Lib.hid (HA.out.keep (Kept.all hdn) hdn.size)
    have HBo := Lib.hid (HBb.out.keep (Kept.all hdn) hdn.size)
    have HBW := Lib.hid (HBr.out.trans (hdn.mono HBr.out.size))
    clear hdn HE HA HBb HBr
    have HX2o := Lib.hid (HX2'.out.to HBW.out)
    have hy0 := HX2o.out
    have z0 := hy0.cell 0 rfl
    have f0 := hy0.fz 0
    have hy1 := hy0.set 0 (.int .i64 p.num)
    have z1 := hy1.cell 1 rfl
    have f1 := hy1.fz 1
    have hy2 := hy1.set 1 (.int .i64 p.suf)
    have z2 := hy2.cell 2 rfl
    have f2 := hy2.fz 2
    have hy3 := hy2.set 2 (.int .i64 p.entry)
    have z3 := hy3.cell 3 rfl
    have f3 := hy3.fz 3
    have hy4 := hy3.set 3 (.int .i64 p.ver)
    have z4 := hy4.cell 4 rfl
    have f4 := hy4.fz 4
    have hy5 := hy4.set 4 (.slice A1 p.body.length c1)
    have z5 := hy5.cell 5 rfl
    have f5 := hy5.fz 5
    have hy6 := hy5.set 5 (.slice A2 p.notes.length c2)
    have HXF := Lib.hid hy6
    have HBF := Lib.hid (below6 (HBA.out.trans (HBW.out.mono HBA.out.size)) (b := w.heap.size + 1 + 1) (by omega) (.int .i64 p.num) (.int .i64 p.suf) (.int .i64 p.entry) (.int .i64 p.ver) (.slice A1 p.body.length c1) (.slice A2 p.notes.length c2))
    have hkp : ∀ i, Up wb.heap.size i → ((((((wo.setCell ⟨w.heap.size + 1 + 1, 0, none⟩ (.int .i64 p.num)).setCell ⟨w.heap.size + 1 + 1, 1, none⟩ (.int .i64 p.suf)).setCell ⟨w.heap.size + 1 + 1, 2, none⟩ (.int .i64 p.entry)).setCell ⟨w.heap.size + 1 + 1, 3, none⟩ (.int .i64 p.ver)).setCell ⟨w.heap.size + 1 + 1, 4, none⟩ (.slice A1 p.body.length c1)).setCell ⟨w.heap.size + 1 + 1, 5, none⟩ (.slice A2 p.notes.length c2)).heap[i]? = wo.heap[i]? := fun i (hi : wb.heap.size ≤ i) => heap6 _ _ _ _ _ _ _ _ (by have := HZ.out; omega)
    have HKP := Lib.hid hkp
    clear hy0 hy1 hy2 hy3 hy4 hy5 hy6 hkp
    go_wp2_with fail
    exact bodyPost_ret (v := .tuple #[.agg #[.int .i64 p.num, .int .i64 p.suf, .int .i64 p.entry, .int .i64 p.ver, .slice A1 p.body.length c1, .slice A2 p.notes.length c2], .bool true]) (results_row_tmp Tryz.results15 _ _ (w.heap.size + 1 + 1) _ #[.int .i64 p.num, .int .i64 p.suf, .int .i64 p.entry, .int .i64 p.ver, .slice A1 p.body.length c1, .slice A2 p.notes.length c2] (0, 0) _ rfl HXF.out Tryz.underlying36 rfl (by kernel_rfl)) rfl
     ⟨by rw [HPS.out]; exact PgP.yes HHIT.out ((HAo.out.keep (fun i hi _ => HKP.out i hi) (by simp)).mono fun i (hi : wb.heap.size ≤ i) _ => (by have := HZ.out; show w.heap.size ≤ i; omega)) ((HBo.out.keep (fun i hi _ => HKP.out i hi) (by simp)).mono fun i (hi : wb.heap.size ≤ i) _ => (by have := HZ.out; show w.heap.size ≤ i; omega)), HBF.out⟩
   ·have HN2 : Hid (∀ i (hi : i < ps.length), i < k + 1 → ¬ (ps[i].num = n ∧ ps[i].suf = s)) := Lib.hid (fun i hi h => by
     by_cases hik : i = k
     ·subst hik; rw [HP.out]; exact hq
     ·exact HN.out i hi (by omega))
    by_cases hq1 : p.num = n
    ·have hq2 : ¬ p.suf = s := fun e => hq ⟨hq1, e⟩
     clear hq
     go_wp2_with (first | go_quiet (fail) | fail)
     go_roundw
     case rel => exact ⟨k + 1, by omega, by go_num, HN2, Lib.hid (Below.dn HBr.out _)⟩
     case measure => simp [intOf]; omega
    ·clear hq
     go_wp2_with (first | go_quiet (fail) | fail)
     go_roundw
     case rel => exact ⟨k + 1, by omega, by go_num, HN2, Lib.hid (Below.dn HBr.out _)⟩
     case measure => simp [intOf]; omega
  ·obtain rfl : k = np := by omega
   have HNN : Hid (pageAt n s (pagesB m h l) = none) := Lib.hid (by rw [HPS.out]; exact pageAt_none fun i hi => HN.out i hi (by have := HNP.out; omega))
   have hkI : ¬ (k : Int) < (k : Int) := by omega
   have HX2o := Lib.hid (HX2'.out.to HBr.out)
   have hy0 := HX2o.out
   have z0 := hy0.cell 0 rfl
   have f0 := hy0.fz 0
   have hy1 := hy0.set 0 (.int .i64 0)
   have z1 := hy1.cell 1 rfl
   have f1 := hy1.fz 1
   have hy2 := hy1.set 1 (.int .i64 0)
   have z2 := hy2.cell 2 rfl
   have f2 := hy2.fz 2
   have hy3 := hy2.set 2 (.int .i64 0)
   have z3 := hy3.cell 3 rfl
   have f3 := hy3.fz 3
   have hy4 := hy3.set 3 (.int .i64 0)
   have z4 := hy4.cell 4 rfl
   have f4 := hy4.fz 4
   have hy5 := hy4.set 4 (.slice none 0 0)
   have z5 := hy5.cell 5 rfl
   have f5 := hy5.fz 5
   have hy6 := hy5.set 5 (.slice none 0 0)
   have HXF := Lib.hid hy6
   have HBF := Lib.hid (below6 (HBA.out.trans (HBr.out.mono HBA.out.size)) (b := w.heap.size + 1 + 1) (by omega) (.int .i64 0) (.int .i64 0) (.int .i64 0) (.int .i64 0) (.slice none 0 0) (.slice none 0 0))
   clear hy0 hy1 hy2 hy3 hy4 hy5 hy6 y0 y1
   go_wp2_with fail
   exact bodyPost_ret (v := .tuple #[.agg #[.int .i64 0, .int .i64 0, .int .i64 0, .int .i64 0, .slice none 0 0, .slice none 0 0], .bool false]) (results_row_tmp Tryz.results15 _ _ (w.heap.size + 1 + 1) _ #[.int .i64 0, .int .i64 0, .int .i64 0, .int .i64 0, .slice none 0 0, .slice none 0 0] (0, 0) _ rfl HXF.out Tryz.underlying36 rfl (by kernel_rfl)) rfl
    ⟨PgP.no _ HNN.out, HBF.out⟩
end Go.Proofs.YtakaielemicpkaaGreatDoor
namespace Go.Proofs.YtakaielemicpkaaGreatDoor
open Go.RowKit
attribute [local go_sem] Oper.semAt_some
structure PI (n : Nat) (w : World) (ln ls : Int) (u0 u1 u2 u3 u4 u5 : Value) (rb : Bool) (W : World) : Prop where
 x1 : ABox W (n + 1) 24 [.int .i64 ln, .int .i64 ls]
 x2 : ABox W (n + 1 + 1) 36 [u0, u1, u2, u3, u4, u5]
 x3 : ABox W (n + 1 + 1 + 1) 4 [.bool rb]
 bl : Below n w W
section
variable {n : Nat} {w : World} {ln ls : Int} {u0 u1 u2 u3 u4 u5 : Value} {rb : Bool} {W W' : World}
theorem PI.keep (h : PI n w ln ls u0 u1 u2 u3 u4 u5 rb W) (hb : ∀ i, n ≤ i → i < n + 4 → W'.heap[i]? = W.heap[i]?) (hl : Below n w W') : PI n w ln ls u0 u1 u2 u3 u4 u5 rb W' :=
 ⟨(hb _ (by omega) (by omega)).trans h.x1, (hb _ (by omega) (by omega)).trans h.x2, (hb _ (by omega) (by omega)).trans h.x3, hl⟩
theorem PI.lt (h : PI n w ln ls u0 u1 u2 u3 u4 u5 rb W) : n + 4 ≤ W.heap.size := by have := h.x3.lt; omega
theorem PI.to (h : PI n w ln ls u0 u1 u2 u3 u4 u5 rb W) (hb : Below W.heap.size W W') : PI n w ln ls u0 u1 u2 u3 u4 u5 rb W' :=
 h.keep (fun i _ hi => hb.block i (by have := h.lt; omega)) (h.bl.trans (hb.mono (by have := h.lt; omega)))
theorem PI.ks (h : PI n w ln ls u0 u1 u2 u3 u4 u5 rb W) {N : Nat} {R : Nat → Prop} (hN : n + 4 ≤ N) (hk : KS (fun i => i < N ∨ R i) W W') : PI n w ln ls u0 u1 u2 u3 u4 u5 rb W' :=
 h.keep (fun i _ hi => hk.block i (.inl (by omega)) (by have := h.lt; omega)) (h.bl.trans (hk.below (fun i hi => .inl (by omega)) (by have := h.lt; omega)))
theorem PI.grown (h : PI n w ln ls u0 u1 u2 u3 u4 u5 rb W) {row : Option Nat} (hg : W.grownBy W' row) (hr : ∀ r, row = some r → n + 4 ≤ r) : PI n w ln ls u0 u1 u2 u3 u4 u5 rb W' :=
 h.keep (fun i _ hi => hg.block i (by have := h.lt; omega) (fun e => by have := hr _ e.symm; omega)) (h.bl.grown hg (by have := h.lt; omega) (fun k hk => by have := hr _ hk; omega))
theorem PI.found (h : PI n w ln ls u0 u1 u2 u3 u4 u5 rb W) (v0 v1 v2 v3 v4 v5 : Value) (d : Bool) : PI n w ln ls v0 v1 v2 v3 v4 v5 d (((((((W.setCell ⟨n + 1 + 1, 0, none⟩ (v0)).setCell ⟨n + 1 + 1, 1, none⟩ (v1)).setCell ⟨n + 1 + 1, 2, none⟩ (v2)).setCell ⟨n + 1 + 1, 3, none⟩ (v3)).setCell ⟨n + 1 + 1, 4, none⟩ (v4)).setCell ⟨n + 1 + 1, 5, none⟩ (v5)).setCell ⟨n + 1 + 1 + 1, 0, none⟩ (.bool d)) := by
 have hb := (below6 h.bl (b := n + 1 + 1) (by omega) v0 v1 v2 v3 v4 v5).setCell (p := ⟨n + 1 + 1 + 1, 0, none⟩) (by show n ≤ n + 1 + 1 + 1; omega) (.bool d)
 refine ⟨?_, ?_, ?_, hb⟩
 ·exact (heap_set _ _ _ _ (by omega)).trans ((heap6 _ _ _ _ _ _ _ _ (by omega)).trans h.x1)
 ·have := ((((((h.x2.set 0 (v0)).set 1 (v1)).set 2 (v2)).set 3 (v3)).set 4 (v4)).set 5 (v5)).other (Q := n + 1 + 1 + 1) (by omega) 0 (.bool d)
  simpa using this
 ·have h3 : ABox ((((((W.setCell ⟨n + 1 + 1, 0, none⟩ (v0)).setCell ⟨n + 1 + 1, 1, none⟩ (v1)).setCell ⟨n + 1 + 1, 2, none⟩ (v2)).setCell ⟨n + 1 + 1, 3, none⟩ (v3)).setCell ⟨n + 1 + 1, 4, none⟩ (v4)).setCell ⟨n + 1 + 1, 5, none⟩ (v5)) (n + 1 + 1 + 1) 4 [.bool rb] := (heap6 _ _ _ _ _ _ _ _ (by omega)).trans h.x3
  have := h3.set 0 (.bool d)
  simpa using this
end
theorem results_row_cell {P : Program} {fn : Func} {p q : Tmp} {ty t1 : TypeId} (h : fn.results = #[.cell p ty, .cell q t1]) (tmps : Array Value) (w : World) (g g1 : Nat) (t : TypeId) (cs : Array Value) (fr : Nat × Nat) (d : TypeDesc) (u1 : Value)
  (hp : tmps.getD p undef = .pointer (some ⟨g, 0, none⟩)) (hq : tmps.getD q undef = .pointer (some ⟨g1, 0, none⟩)) (hg : w.heap[g]? = some (.cells cs t fr)) (h1 : w.cell? ⟨g1, 0, none⟩ = some u1)
  (hu : P.underlying ty = some d) (hd : (match d with | .struct _ | .array _ _ => true | _ => false) = true) (hi : (P.info? ty).map (·.size) = some cs.size) (ha1 : ∀ w, (isAgg t1).run P w = .ok false w) :
  (results fn tmps).run P w = .ok (.tuple #[.agg cs, u1]) w := by
 have hp' : tmps[p]?.getD undef = .pointer (some ⟨g, 0, none⟩) := by simpa using hp
 have hq' : tmps[q]?.getD undef = .pointer (some ⟨g1, 0, none⟩) := by simpa using hq
 simp [results, h, hp', hq', asAddr, run_loadVar_row w g t ty cs fr d hg hu hd hi, run_loadVar_cell ha1 h1]
theorem pageAt_append {n s : Int} (l m : List PageP) : pageAt n s (l ++ m) = (pageAt n s l).or (pageAt n s m) := by
 unfold pageAt; exact List.find?_append
set_option maxRecDepth 100000 in
set_option maxHeartbeats 4000000 in
theorem page_any {m h : Int} {A : Option Addr} {c : Nat} {l : List SectP} {w : World} (H : BookOk w m h A c l) (ln ls : Int) :
  Calls Tryz.prog 14 #[.agg #[.int .i64 m, .int .i64 h, .slice A l.length c], .agg #[.int .i64 ln, .int .i64 ls]] w fun e W' => PgP w.heap.size (pageAt ln ls (pagesB m h l)) e W' ∧ Below w.heap.size w W' := by
 refine (callsIn_wide (n := 4)).1 ?_
 refine callsIn_of_wp_marks Tryz.func14 rfl trivial ?_ rfl
 simp only [Tryz.ntmps14, List.size_toArray, List.length_cons, List.length_nil, Nat.reduceAdd, Nat.reduceSub, Array.replicate_succ, Array.replicate_zero, List.push_toArray, List.append_toArray, List.nil_append, List.cons_append]
 obtain ⟨wb, hwb⟩ : ∃ wb, (((w.alloc (.cells #[.int .i64 m, .int .i64 h, .slice A l.length c] 27)).alloc (.cells #[.int .i64 ln, .int .i64 ls] 24)).alloc (.cells #[.int .i64 0, .int .i64 0, .int .i64 0, .int .i64 0, .slice none 0 0, .slice none 0 0] 36)).alloc (.cells #[.bool false] 4) = wb := ⟨_, rfl⟩
 have hba : Below w.heap.size w wb := by rw [← hwb]; exact (((((Below.refl _ _).alloc (Nat.le_refl _) _).alloc (by simp) _).alloc (by simp; omega) _).alloc (by simp; omega) _)
 have hz : wb.heap.size = w.heap.size + 4 := by rw [← hwb]; simp
 have hx0 : ABox wb w.heap.size 27 [.int .i64 m, .int .i64 h, .slice A l.length c] := by rw [← hwb]; repeat (first | exact heap_at (by simp; done) | refine (Below.heap_alloc _ _ _ (by simp; try omega)).trans ?_)
 have hx1 : ABox wb (w.heap.size + 1) 24 [.int .i64 ln, .int .i64 ls] := by rw [← hwb]; repeat (first | exact heap_at (by simp; done) | refine (Below.heap_alloc _ _ _ (by simp; try omega)).trans ?_)
 have hx2 : ABox wb (w.heap.size + 1 + 1) 36 [.int .i64 0, .int .i64 0, .int .i64 0, .int .i64 0, .slice none 0 0, .slice none 0 0] := by rw [← hwb]; repeat (first | exact heap_at (by simp; done) | refine (Below.heap_alloc _ _ _ (by simp; try omega)).trans ?_)
 have hx3 : ABox wb (w.heap.size + 1 + 1 + 1) 4 [.bool false] := by rw [← hwb]; repeat (first | exact heap_at (by simp; done) | refine (Below.heap_alloc _ _ _ (by simp; try omega)).trans ?_)
 have k0 := hx0.cell 0 rfl
 have k1 := hx0.cell 1 rfl
 have k2 := hx0.cell 2 rfl
 have HWB := Lib.hid hwb
 gi_upto_region 1 with (fail)
 try rw [HWB.out]
 have hbo := H.to hba
 have HX0w : Hid (PI w.heap.size w ln ls (.int .i64 0) (.int .i64 0) (.int .i64 0) (.int .i64 0) (.slice none 0 0) (.slice none 0 0) false wb) := Lib.hid ⟨hx1, hx2, hx3, hba⟩
 have HZ := Lib.hid hz
 clear hx0 hx1 hx2 hx3 hba hz hwb H
 gi_wp2
 refine ⟨trivial, CallsIn.mono (callsIn_wide.2 (ball_any m h (.slice A l.length c) wb)) ?_⟩
 rintro e w1 ⟨rfl, rfl⟩
 gi_wp2
 obtain ⟨wa, hwa⟩ : ∃ wa, wb.alloc (.cells #[.int .i64 m, .int .i64 h, .slice A l.length c] 27) = wa := ⟨_, rfl⟩
 have hbw : Below wb.heap.size wb wa := by rw [← hwa]; exact (Below.refl _ _).alloc (Nat.le_refl _) _
 have hza : wa.heap.size = w.heap.size + 5 := by rw [← hwa]; simp; exact HZ.out
 have hseq := all_seq (4 - 1) (by omega) hbo hwa.symm
 have HWI := Lib.hid (HX0w.out.to hbw)
 rw [hwa]
 clear hwa HX0w HWB hbo k0 k1 k2
 refine wpIn_rangeFunc_in rfl (by omega) (gf := 65) (lb := #[.pointer (some ⟨wb.heap.size, 0, none⟩)]) rfl trivial (enters_of Tryz.func65 (by kernel_rfl) rfl) hseq (Below.refl _ _) (Nat.le_refl _) (fun _ => rfl) PV.pr_keep PV.pr_mono
  (fun pre M R W => PI w.heap.size w ln ls (.int .i64 0) (.int .i64 0) (.int .i64 0) (.int .i64 0) (.slice none 0 0) (.slice none 0 0) false W ∧ pageAt ln ls (pre.map PV.plain) = none)
  (fun c pre W => c = .ret ∧ ∃ x : PV, pageAt ln ls (pre.map PV.plain) = some x.plain ∧ PI w.heap.size w ln ls (.int .i64 x.num) (.int .i64 x.suf) (.int .i64 x.entry) (.int .i64 x.ver) (.slice x.Aa x.body.length x.ca) (.slice x.Ab x.notes.length x.cb) true W ∧ Rep.R W (fun i => IsC W i ∧ Up w.heap.size i) [.slice x.Aa x.body.length x.ca] x.body ∧ Rep.R W (fun i => IsC W i ∧ Up w.heap.size i) [.slice x.Ab x.notes.length x.cb] x.notes)
  (fun pre M R X Y hc hk => ⟨hc.1.ks (by omega) hk, hc.2⟩) (fun c s X Y row hs hg hr => by
   obtain ⟨e, x, h1, h2, h3, h4⟩ := hs
   have hC : ∀ i, IsC X i → some i ≠ row := fun i hi he => by
    obtain ⟨_, o, ho, hc⟩ := hr i he.symm
    obtain ⟨cs, t, fr, hi⟩ := hi
    rw [hi] at ho; cases ho; cases hc
   exact ⟨e, x, h1, h2.grown hg (fun r e => by have := (hr r e).1; omega), repL_own h3 hg hC, repL_own h4 hg hC⟩)
  ⟨HWI.out, rfl⟩
  (fun k x a' W => ∃ Bx, k ≤ Bx ∧ ABox W Bx 36 [.int .i64 x.num, .int .i64 x.suf, .int .i64 x.entry, .int .i64 x.ver, .slice x.Aa x.body.length x.ca, .slice x.Ab x.notes.length x.cb] ∧ a' = { tmps := #[.agg #[.int .i64 m, .int .i64 h, .slice A l.length c], .agg #[.int .i64 ln, .int .i64 ls], .pointer (some ⟨w.heap.size, 0, none⟩), .pointer (some ⟨w.heap.size + 1, 0, none⟩), .pointer (some ⟨w.heap.size + 1 + 1, 0, none⟩), .pointer (some ⟨w.heap.size + 1 + 1 + 1, 0, none⟩), .pointer (some ⟨Bx, 0, none⟩), .agg #[.int .i64 m, .int .i64 h, .slice A l.length c], .func (.func 65) #[] #[.pointer (some ⟨wb.heap.size, 0, none⟩)], .agg #[.int .i64 x.num, .int .i64 x.suf, .int .i64 x.entry, .int .i64 x.ver, .slice x.Aa x.body.length x.ca, .slice x.Ab x.notes.length x.cb], undef, undef, undef, undef, undef, undef], defers := [] })
  (fun k x a' s X Y row ⟨Bx, h1, h2, h3⟩ hg hr => ⟨Bx, h1, (hg.block Bx h2.lt (fun e => by obtain ⟨_, o, ho, hc⟩ := hr Bx e.symm; rw [show X.heap[Bx]? = _ from h2] at ho; cases ho; cases hc)).trans h2, h3⟩)
  ?assign ?body ?done ?stop
 case assign =>
  intro lp x W K hK
  obtain ⟨n1, s1, e1, v1, bo, no, Aa, ca, Ab, cb⟩ := x
  unfold PV.enc
  gi_wp2
  exact hK _ _ ((Below.refl _ _).alloc (Nat.le_refl _) _) ⟨W.heap.size, Nat.le_refl _, heap_alloc_new W _, rfl⟩
 case body =>
  rintro lp pre M R PM x a' W Wp ⟨-, hw0⟩ hWp ⟨hwi, -⟩ hsz hM hR ⟨Bx, hBx, bX, rfl⟩ hlen hpr hpm
  obtain ⟨n1, s1, e1, v1, bo, no, Aa, ca, Ab, cb⟩ := x
  dsimp only at bX hpr ⊢
  have x0 := bX.cell 0 rfl
  have x1 := bX.cell 1 rfl
  have y0 := hwi.x1.cell 0 rfl
  have y1 := hwi.x1.cell 1 rfl
  have HW0 := Lib.hid hw0
  have HWI := Lib.hid hwi
  have HBX := Lib.hid bX
  have HPR := Lib.hid hpr
  have HPM := Lib.hid hpm
  clear hw0 hwi bX hpr hpm hM hR
  by_cases he : n1 = ln ∧ s1 = ls
  ·have HFIN : Hid (pageAt ln ls ((pre ++ [(⟨n1, s1, e1, v1, bo, no, Aa, ca, Ab, cb⟩ : PV)]).map PV.plain) = some ⟨n1, s1, e1, v1, bo, no⟩) := Lib.hid (by
    rw [List.map_append, pageAt_append, HW0.out, Option.none_or]
    show pageAt ln ls [(⟨n1, s1, e1, v1, bo, no⟩ : PageP)] = _
    unfold pageAt
    rw [List.find?_cons, decide_eq_true (show n1 = ln ∧ s1 = ls from he)])
   obtain ⟨he1, he2⟩ := he
   rw [← he1] at y0
   rw [← he2] at y1
   clear he1 he2
   gi_upto_region 4 with (fail)
   clear x0 x1 y0 y1
   have x0 := HBX.out.cell 0 rfl
   have x1 := HBX.out.cell 1 rfl
   have x2 := HBX.out.cell 2 rfl
   have x3 := HBX.out.cell 3 rfl
   have x4 := HBX.out.cell 4 rfl
   have x5 := HBX.out.cell 5 rfl
   have hy0 := HWI.out.x2
   have z0 := hy0.cell 0 rfl
   have f0 := hy0.fz 0
   have hy1 := hy0.set 0 (.int .i64 n1)
   have z1 := hy1.cell 1 rfl
   have f1 := hy1.fz 1
   have hy2 := hy1.set 1 (.int .i64 s1)
   have z2 := hy2.cell 2 rfl
   have f2 := hy2.fz 2
   have hy3 := hy2.set 2 (.int .i64 e1)
   have z3 := hy3.cell 3 rfl
   have f3 := hy3.fz 3
   have hy4 := hy3.set 3 (.int .i64 v1)
   have z4 := hy4.cell 4 rfl
   have f4 := hy4.fz 4
   have hy5 := hy4.set 4 (.slice Aa bo.length ca)
   have z5 := hy5.cell 5 rfl
   have f5 := hy5.fz 5
   have hy6 := hy5.set 5 (.slice Ab no.length cb)
   have hy3 : ABox ((((((W.setCell ⟨w.heap.size + 1 + 1, 0, none⟩ (.int .i64 n1)).setCell ⟨w.heap.size + 1 + 1, 1, none⟩ (.int .i64 s1)).setCell ⟨w.heap.size + 1 + 1, 2, none⟩ (.int .i64 e1)).setCell ⟨w.heap.size + 1 + 1, 3, none⟩ (.int .i64 v1)).setCell ⟨w.heap.size + 1 + 1, 4, none⟩ (.slice Aa bo.length ca)).setCell ⟨w.heap.size + 1 + 1, 5, none⟩ (.slice Ab no.length cb)) (w.heap.size + 1 + 1 + 1) 4 [.bool false] := (heap6 _ _ _ _ _ _ _ _ (by omega)).trans HWI.out.x3
   have q3 := hy3.cell 0 rfl
   have r3 := hy3.fz 0
   clear hy0 hy1 hy2 hy3 hy4 hy5 hy6
   have HFO := Lib.hid (HWI.out.found (.int .i64 n1) (.int .i64 s1) (.int .i64 e1) (.int .i64 v1) (.slice Aa bo.length ca) (.slice Ab no.length cb) true)
   have hksw : KS PM W (((((((W.setCell ⟨w.heap.size + 1 + 1, 0, none⟩ (.int .i64 n1)).setCell ⟨w.heap.size + 1 + 1, 1, none⟩ (.int .i64 s1)).setCell ⟨w.heap.size + 1 + 1, 2, none⟩ (.int .i64 e1)).setCell ⟨w.heap.size + 1 + 1, 3, none⟩ (.int .i64 v1)).setCell ⟨w.heap.size + 1 + 1, 4, none⟩ (.slice Aa bo.length ca)).setCell ⟨w.heap.size + 1 + 1, 5, none⟩ (.slice Ab no.length cb)).setCell ⟨w.heap.size + 1 + 1 + 1, 0, none⟩ (.bool true)) := by
    have hq : ¬ PM (w.heap.size + 1 + 1) ∧ ¬ PM (w.heap.size + 1 + 1 + 1) := ⟨fun h => by have := (HPM.out _ h).1; omega, fun h => by have := (HPM.out _ h).1; omega⟩
    exact ((((((KS.setCell _ _ hq.1).trans (KS.setCell _ _ hq.1)).trans (KS.setCell _ _ hq.1)).trans (KS.setCell _ _ hq.1)).trans (KS.setCell _ _ hq.1)).trans (KS.setCell _ _ hq.1)).trans (KS.setCell _ _ hq.2)
   have HPR2 := Lib.hid (PV.pr_keep _ _ _ _ HPR.out hksw)
   clear hksw
   gi_wp2
   have hup : ∀ i, PM i → Up w.heap.size i := fun i hi => by have := (HPM.out i hi).1; show w.heap.size ≤ i; omega
   refine ⟨⟨rfl, ⟨n1, s1, e1, v1, bo, no, Aa, ca, Ab, cb⟩, HFIN.out, HFO.out, Rep.mono (repL_isC HPR2.out.1) (fun i hi _ => ⟨hi.1, hup i hi.2⟩), Rep.mono (repL_isC HPR2.out.2.1) (fun i hi _ => ⟨hi.1, hup i hi.2⟩)⟩, ?_⟩
   have hq : ¬ (w.heap.size + 1 + 1 = wa.heap.size ∨ w.heap.size + 1 + 1 = wa.heap.size + 1) ∧ ¬ (w.heap.size + 1 + 1 + 1 = wa.heap.size ∨ w.heap.size + 1 + 1 + 1 = wa.heap.size + 1) := by omega
   exact ((((((KS.setCell _ _ hq.1).trans (KS.setCell _ _ hq.1)).trans (KS.setCell _ _ hq.1)).trans (KS.setCell _ _ hq.1)).trans (KS.setCell _ _ hq.1)).trans (KS.setCell _ _ hq.1)).trans (KS.setCell _ _ hq.2)
  ·have HFIN : Hid (pageAt ln ls ((pre ++ [(⟨n1, s1, e1, v1, bo, no, Aa, ca, Ab, cb⟩ : PV)]).map PV.plain) = none) := Lib.hid (by
    rw [List.map_append, pageAt_append, HW0.out]
    show pageAt ln ls [(⟨n1, s1, e1, v1, bo, no⟩ : PageP)] = none
    unfold pageAt
    rw [List.find?_cons, decide_eq_false (show ¬ (n1 = ln ∧ s1 = ls) from he)]; rfl)
   by_cases h1 : n1 = ln
   ·have h2 : ¬ s1 = ls := fun e => he ⟨h1, e⟩
    clear he
    gi_wp2
    exact ⟨M, R, ⟨HWI.out, HFIN.out⟩, KS.refl _ _, fun i h => .inl h, fun i h => .inl h⟩
   ·clear he
    gi_wp2
    exact ⟨M, R, ⟨HWI.out, HFIN.out⟩, KS.refl _ _, fun i h => .inl h, fun i h => .inl h⟩
 case done =>
  rintro D xs M R W hD hD2 hS ⟨hwi, hw0⟩ hK
  rw [hS] at hw0
  have HW0 := Lib.hid hw0
  have HK := Lib.hid hK
  have HWI := Lib.hid hwi
  clear hw0 hK hwi hS
  have hy0 := HWI.out.x2
  have z0 := hy0.cell 0 rfl
  have f0 := hy0.fz 0
  have hy1 := hy0.set 0 (.int .i64 0)
  have z1 := hy1.cell 1 rfl
  have f1 := hy1.fz 1
  have hy2 := hy1.set 1 (.int .i64 0)
  have z2 := hy2.cell 2 rfl
  have f2 := hy2.fz 2
  have hy3 := hy2.set 2 (.int .i64 0)
  have z3 := hy3.cell 3 rfl
  have f3 := hy3.fz 3
  have hy4 := hy3.set 3 (.int .i64 0)
  have z4 := hy4.cell 4 rfl
  have f4 := hy4.fz 4
  have hy5 := hy4.set 4 (.slice none 0 0)
  have z5 := hy5.cell 5 rfl
  have f5 := hy5.fz 5
  have hy6 := hy5.set 5 (.slice none 0 0)
  have hy3 : ABox ((((((W.setCell ⟨w.heap.size + 1 + 1, 0, none⟩ (.int .i64 0)).setCell ⟨w.heap.size + 1 + 1, 1, none⟩ (.int .i64 0)).setCell ⟨w.heap.size + 1 + 1, 2, none⟩ (.int .i64 0)).setCell ⟨w.heap.size + 1 + 1, 3, none⟩ (.int .i64 0)).setCell ⟨w.heap.size + 1 + 1, 4, none⟩ (.slice none 0 0)).setCell ⟨w.heap.size + 1 + 1, 5, none⟩ (.slice none 0 0)) (w.heap.size + 1 + 1 + 1) 4 [.bool false] := (heap6 _ _ _ _ _ _ _ _ (by omega)).trans HWI.out.x3
  have q3 := hy3.cell 0 rfl
  have r3 := hy3.fz 0
  have HF := Lib.hid (HWI.out.found (.int .i64 0) (.int .i64 0) (.int .i64 0) (.int .i64 0) (.slice none 0 0) (.slice none 0 0) false)
  have HKF : Hid ((((((((W.setCell ⟨w.heap.size + 1 + 1, 0, none⟩ (.int .i64 0)).setCell ⟨w.heap.size + 1 + 1, 1, none⟩ (.int .i64 0)).setCell ⟨w.heap.size + 1 + 1, 2, none⟩ (.int .i64 0)).setCell ⟨w.heap.size + 1 + 1, 3, none⟩ (.int .i64 0)).setCell ⟨w.heap.size + 1 + 1, 4, none⟩ (.slice none 0 0)).setCell ⟨w.heap.size + 1 + 1, 5, none⟩ (.slice none 0 0)).setCell ⟨w.heap.size + 1 + 1 + 1, 0, none⟩ (.bool false)).heap[D]? = some (.deferred (some []))) := Lib.hid ((heap_set _ _ _ _ (by omega)).trans ((heap6 _ _ _ _ _ _ _ _ (by omega)).trans HK.out))
  clear hy0 hy1 hy2 hy3 hy4 hy5 hy6
  gi_wp2
  clear z0 z1 z2 z3 z4 z5 f0 f1 f2 f3 f4 f5 q3 r3
  have hF := HF.out
  have hKf := HKF.out
  clear HF HKF
  generalize (((((((W.setCell ⟨w.heap.size + 1 + 1, 0, none⟩ (.int .i64 0)).setCell ⟨w.heap.size + 1 + 1, 1, none⟩ (.int .i64 0)).setCell ⟨w.heap.size + 1 + 1, 2, none⟩ (.int .i64 0)).setCell ⟨w.heap.size + 1 + 1, 3, none⟩ (.int .i64 0)).setCell ⟨w.heap.size + 1 + 1, 4, none⟩ (.slice none 0 0)).setCell ⟨w.heap.size + 1 + 1, 5, none⟩ (.slice none 0 0)).setCell ⟨w.heap.size + 1 + 1 + 1, 0, none⟩ (.bool false)) = Wf at *
  refine ⟨by simp, .inl ⟨_, _, rfl, run_takeDeferred hKf, ?_⟩⟩
  have hg := grownBy_putObj' Wf D (.deferred none)
  have HG := Lib.hid (hF.grown hg (fun k hk => by cases hk; omega))
  exact ⟨_, results_row_cell Tryz.results14 _ _ (w.heap.size + 1 + 1) (w.heap.size + 1 + 1 + 1) _ _ (0, 0) _ _ rfl rfl HG.out.x2 (HG.out.x3.cell 0 rfl) Tryz.underlying36 rfl (by kernel_rfl) Tryz.isAgg4, PgP.no _ HW0.out, HG.out.bl⟩
 case stop =>
  rintro D c pre W hD hD2 ⟨k, hk⟩ ⟨rfl, x, hwh, hwi, hr1, hr2⟩ hK
  have HW0 : Hid (pageAt ln ls (pagesB m h l) = some x.plain) := Lib.hid (by
   rw [← List.take_append_drop k (pagesB m h l), pageAt_append, ← hk, hwh]; rfl)
  have HK := Lib.hid hK
  have HWI := Lib.hid hwi
  have HR1 := Lib.hid hr1
  have HR2 := Lib.hid hr2
  clear hwh hK hwi hk hr1 hr2
  gi_wp2
  refine ⟨by simp, .inl ⟨_, _, rfl, run_takeDeferred HK.out, ?_⟩⟩
  have hg := grownBy_putObj' W D (.deferred none)
  have HG := Lib.hid (HWI.out.grown hg (fun k hk => by cases hk; omega))
  have hC : ∀ i, IsC W i → some i ≠ some D := fun i hi he => by
   obtain ⟨cs, t, fr, hi⟩ := hi
   cases he
   rw [HK.out] at hi; cases hi
  obtain ⟨A5, c5, e5, hs5, -⟩ := repL_own HR1.out hg hC
  obtain ⟨A6, c6, e6, hs6, -⟩ := repL_own HR2.out hg hC
  cases e5
  cases e6
  exact ⟨_, results_row_cell Tryz.results14 _ _ (w.heap.size + 1 + 1) (w.heap.size + 1 + 1 + 1) _ _ (0, 0) _ _ rfl rfl HG.out.x2 (HG.out.x3.cell 0 rfl) Tryz.underlying36 rfl (by kernel_rfl) Tryz.isAgg4, PgP.yes (p := x.plain) HW0.out (hs5.mono fun i hi _ => hi.2) (hs6.mono fun i hi _ => hi.2), HG.out.bl⟩
end Go.Proofs.YtakaielemicpkaaGreatDoor
namespace Go.Proofs.YtakaielemicpkaaGreatDoor
open Go.RowKit
set_option maxHeartbeats 2000000 in
theorem samePage_any (nu su en ve : Int) (A B A2 B2 : Option Addr) (c d c2 d2 nb nn : Nat) (bo no : List LineP) (w : World) (h1 : Sl w (fun b => b < w.heap.size) A c bo) (h2 : Sl w (fun b => b < w.heap.size) B d no) (h3 : Sl w (fun b => b < w.heap.size) A2 c2 bo) (h4 : Sl w (fun b => b < w.heap.size) B2 d2 no) (hnb : bo.length = nb) (hnn : no.length = nn) (hl1 : nb ≤ 1048576) (hl2 : nn ≤ 1048576) (hs1 : SmallL bo) (hs2 : SmallL no) :
  Calls Tryz.prog 16 #[.agg #[.int .i64 nu, .int .i64 su, .int .i64 en, .int .i64 ve, .slice A nb c, .slice B nn d], .agg #[.int .i64 nu, .int .i64 su, .int .i64 en, .int .i64 ve, .slice A2 nb c2, .slice B2 nn d2]] w fun e w' => e = .returned (.bool true) ∧ Below w.heap.size w w' := by
 obtain ⟨wb, hwb⟩ : ∃ wb, (w.alloc (.cells #[.int .i64 nu, .int .i64 su, .int .i64 en, .int .i64 ve, .slice A nb c, .slice B nn d] 36)).alloc (.cells #[.int .i64 nu, .int .i64 su, .int .i64 en, .int .i64 ve, .slice A2 nb c2, .slice B2 nn d2] 36) = wb := ⟨_, rfl⟩
 have hba : Below w.heap.size w wb := by rw [← hwb]; exact ((Below.refl _ _).alloc (Nat.le_refl _) _).alloc (by simp) _
 have hx0 : ABox wb w.heap.size 36 [.int .i64 nu, .int .i64 su, .int .i64 en, .int .i64 ve, .slice A nb c, .slice B nn d] := by rw [← hwb]; exact (Below.heap_alloc _ _ _ (by simp)).trans (heap_alloc_new w _)
 have hx1 : ABox wb (w.heap.size + 1) 36 [.int .i64 nu, .int .i64 su, .int .i64 en, .int .i64 ve, .slice A2 nb c2, .slice B2 nn d2] := by rw [← hwb]; exact heap_at (by simp)
 have H1 := Lib.hid (h1.to hba)
 have H2 := Lib.hid (h2.to hba)
 have H3 := Lib.hid (h3.to hba)
 have H4 := Lib.hid (h4.to hba)
 have HNB := Lib.hid hnb
 have HNN := Lib.hid hnn
 have HS1 := Lib.hid hs1
 have HS2 := Lib.hid hs2
 have HBA := Lib.hid hba
 have HX0 := Lib.hid hx0
 have HX1 := Lib.hid hx1
 clear h1 h2 h3 h4 hnb hnn hs1 hs2 hba hx0 hx1
 go_enter Tryz.func16, Tryz.ntmps16
 go_upto_region 1 with (fail)
 try rw [hwb]
 clear hwb
 have x0 := HX0.out.cell 0 rfl
 have x1 := HX0.out.cell 1 rfl
 have x2 := HX0.out.cell 2 rfl
 have x3 := HX0.out.cell 3 rfl
 have x4 := HX0.out.cell 4 rfl
 have y0 := HX1.out.cell 0 rfl
 have y1 := HX1.out.cell 1 rfl
 have y2 := HX1.out.cell 2 rfl
 have y3 := HX1.out.cell 3 rfl
 have y4 := HX1.out.cell 4 rfl
 go_wp2_with fail
 refine (sameLines_any A A2 c c2 nb bo wb H1.out H3.out HNB.out hl1 HS1.out).mono ?_
 rintro e w1 ⟨rfl, hb1⟩
 have x5 := (HX0.out.to hb1).cell 5 rfl
 have y5 := (HX1.out.to hb1).cell 5 rfl
 have H2w := Lib.hid (H2.out.to hb1)
 have H4w := Lib.hid (H4.out.to hb1)
 have HB1 := Lib.hid (HBA.out.trans (hb1.mono HBA.out.size))
 clear hb1 x0 x1 x2 x3 x4 y0 y1 y2 y3 y4
 go_wp2_with fail
 refine (sameLines_any B B2 d d2 nn no w1 H2w.out H4w.out HNN.out hl2 HS2.out).mono ?_
 rintro e w2 ⟨rfl, hb2⟩
 have HB2 := Lib.hid (HB1.out.trans (hb2.mono HB1.out.size))
 clear hb2 x5 y5
 go_wp2_with fail
 go_ret
 exact ⟨rfl, HB2.out⟩
set_option maxRecDepth 100000 in
set_option maxHeartbeats 2000000 in
theorem samePages_any (A B : Option Addr) (c d n : Nat) (l : List PageP) (w : World) (ha : Sl w (fun b => b < w.heap.size) A c l) (hb : Sl w (fun b => b < w.heap.size) B d l) (hn : l.length = n) (hn2 : n ≤ 1048576) (hs : ∀ p ∈ l, SmallP p) (hsl : ∀ p ∈ l, SmallL p.body ∧ SmallL p.notes) :
  Calls Tryz.prog 11 #[.slice A n c, .slice B n d] w fun e w' => e = .returned (.bool true) ∧ Below w.heap.size w w' := by
 have hc : n ≤ c := by rw [← hn]; exact ha.1
 have hd : n ≤ d := by rw [← hn]; exact hb.1
 have HA := Lib.hid ha
 have HB := Lib.hid hb
 have HN := Lib.hid hn
 have HS := Lib.hid hs
 have HSL := Lib.hid hsl
 clear ha hb hn hs hsl
 go_enter Tryz.func11, Tryz.ntmps11
 go_wp2_with fail
 go_loopw [5] (fun i wr => ∃ k : Nat, k ≤ n ∧ i = .int .i64 k ∧ Below w.heap.size w wr) (fun i _ => n - (intOf i).toNat)
 case atStart => exact ⟨0, by omega, rfl, Below.refl _ _⟩
 case round =>
  obtain ⟨k, hk, rfl, hbl⟩ := hrel
  by_cases hlt : k < n
  ·have hkl : k < l.length := by rw [HN.out]; exact hlt
   obtain ⟨bp, op, P1, d1, P2, d2, rfl, -, hbp, f0, f1, f2, f3, f4, f5, hp1, hp2⟩ := pageS_at (HA.out.to hbl) hkl
   obtain ⟨bw, ow, Q1, g1, Q2, g2, rfl, -, hbw, k0, k1, k2, k3, k4, k5, hq1, hq2⟩ := pageS_at (HB.out.to hbl) hkl
   have hs := HS.out _ (List.getElem_mem hkl)
   have hsl := HSL.out _ (List.getElem_mem hkl)
   obtain ⟨pg, hpg⟩ : ∃ pg, l[k] = pg := ⟨_, rfl⟩
   rw [hpg] at f0 f1 f2 f3 f4 f5 k0 k1 k2 k3 k4 k5 hp1 hp2 hq1 hq2 hs hsl
   obtain ⟨en, vn, sn, un, bo, no⟩ := pg
   dsimp only at f0 f1 f2 f3 f4 f5 k0 k1 k2 k3 k4 k5 hp1 hp2 hq1 hq2 hs hsl
   have HSS := Lib.hid hs
   have HLL := Lib.hid hsl
   have HP1 := Lib.hid hp1
   have HP2 := Lib.hid hp2
   have HQ1 := Lib.hid hq1
   have HQ2 := Lib.hid hq2
   have HBL := Lib.hid hbl
   have hkI : (k : Int) < (n : Int) := by omega
   clear hpg hs hsl hp1 hp2 hq1 hq2 hbl hkl
   go_upto_region 6 with (fail)
   refine wp_region_rely [8] (fun i => if i = 8 then SP.val (.bool true) else SP.any) 10 (by kernel_rfl) (by kernel_rfl) ?_
   intro T _ g hg hgm
   have a0 : ∀ x, (g x).cell? ⟨bp, op + k * 6, none⟩ = some (.int .i64 en) := fun x => ((hg x).cell (p := ⟨bp, op + k * 6, none⟩) hbp).trans f0
   have a1 : ∀ x, (g x).cell? ⟨bp, op + k * 6 + 1, none⟩ = some (.int .i64 vn) := fun x => ((hg x).cell (p := ⟨bp, op + k * 6 + 1, none⟩) hbp).trans f1
   have a2 : ∀ x, (g x).cell? ⟨bp, op + k * 6 + 2, none⟩ = some (.int .i64 sn) := fun x => ((hg x).cell (p := ⟨bp, op + k * 6 + 2, none⟩) hbp).trans f2
   have a3 : ∀ x, (g x).cell? ⟨bp, op + k * 6 + 3, none⟩ = some (.int .i64 un) := fun x => ((hg x).cell (p := ⟨bp, op + k * 6 + 3, none⟩) hbp).trans f3
   have a4 : ∀ x, (g x).cell? ⟨bp, op + k * 6 + 4, none⟩ = some (.slice P1 bo.length d1) := fun x => ((hg x).cell (p := ⟨bp, op + k * 6 + 4, none⟩) hbp).trans f4
   have a5 : ∀ x, (g x).cell? ⟨bp, op + k * 6 + 5, none⟩ = some (.slice P2 no.length d2) := fun x => ((hg x).cell (p := ⟨bp, op + k * 6 + 5, none⟩) hbp).trans f5
   have b0 : ∀ x, (g x).cell? ⟨bw, ow + k * 6, none⟩ = some (.int .i64 en) := fun x => ((hg x).cell (p := ⟨bw, ow + k * 6, none⟩) hbw).trans k0
   have b1 : ∀ x, (g x).cell? ⟨bw, ow + k * 6 + 1, none⟩ = some (.int .i64 vn) := fun x => ((hg x).cell (p := ⟨bw, ow + k * 6 + 1, none⟩) hbw).trans k1
   have b2 : ∀ x, (g x).cell? ⟨bw, ow + k * 6 + 2, none⟩ = some (.int .i64 sn) := fun x => ((hg x).cell (p := ⟨bw, ow + k * 6 + 2, none⟩) hbw).trans k2
   have b3 : ∀ x, (g x).cell? ⟨bw, ow + k * 6 + 3, none⟩ = some (.int .i64 un) := fun x => ((hg x).cell (p := ⟨bw, ow + k * 6 + 3, none⟩) hbw).trans k3
   have b4 : ∀ x, (g x).cell? ⟨bw, ow + k * 6 + 4, none⟩ = some (.slice Q1 bo.length g1) := fun x => ((hg x).cell (p := ⟨bw, ow + k * 6 + 4, none⟩) hbw).trans k4
   have b5 : ∀ x, (g x).cell? ⟨bw, ow + k * 6 + 5, none⟩ = some (.slice Q2 no.length g2) := fun x => ((hg x).cell (p := ⟨bw, ow + k * 6 + 5, none⟩) hbw).trans k5
   repeat (refine wpR_pure (by rfl) fun Kq hq => ?_; go_big_quiet_step (fail); refine wpQuiet_nil (hq _ ?_); clear hq Kq)
   refine wpR_busy (by rfl) (by rfl) (fun x hG K Q hK => ?_) (fun v x hG hp Kr hr => ?_)
   ·go_simp
    go_at_call 16
    refine (samePage_any en vn sn un P1 P2 Q1 Q2 d1 d2 g1 g2 bo.length no.length bo no (g x) (HP1.out.to (hg x)) (HP2.out.to (hg x)) (HQ1.out.to (hg x)) (HQ2.out.to (hg x)) rfl rfl HSS.out.1 HSS.out.2 HLL.out.1 HLL.out.2).mono ?_
    rintro e V1 ⟨rfl, hb1⟩
    go_simp
    exact hK _ _ hb1 rfl
   have hp : v = .bool true := hp
   subst hp
   (try clear hp); clear hG
   simp only [Act.put, List.setIfInBounds_toArray, List.set_cons_zero, List.set_cons_succ]
   refine hr _ ?_
   clear hr Kr
   repeat (refine wpR_pure (by rfl) fun Kq hq => ?_; go_big_quiet_step (fail); refine wpQuiet_nil (hq _ ?_); clear hq Kq)
   refine wpR_end (by kernel_rfl) (fun x hG => ?_) _
   clear a0 a1 a2 a3 a4 a5 b0 b1 b2 b3 b4 b5 f0 f1 f2 f3 f4 f5 k0 k1 k2 k3 k4 k5
   have HB2 := Lib.hid (HBL.out.trans ((hg x).mono HBL.out.size))
   clear hG hg hgm
   unfold Exit.then
   generalize g x = w6 at *
   clear g
   go_wp2_with fail
   go_roundw
   case rel => exact ⟨k + 1, by omega, by go_num, HB2.out⟩
   case measure => simp [intOf]; omega
  ·obtain rfl : k = n := by omega
   have HBL := Lib.hid hbl
   clear hbl
   go_wp2_with fail
   go_ret
   exact ⟨rfl, HBL.out⟩
theorem coreV_lines (m h e : Int) : ∀ (ts : List TextP) (vs : List Int) (c : CoreP), c ∈ coreV m h e vs ts → SmallL c.body ∧ SmallL c.notes
 | [], vs, c, hc => by simp [coreV] at hc
 | t :: ts, vs, c, hc => by
  rw [coreV] at hc
  rcases List.mem_append.1 hc with h1 | h1
  ·obtain ⟨p, hp, rfl⟩ := List.mem_map.1 h1
   exact okPages_lines t.a t.b m h p hp
  ·exact coreV_lines m h e ts vs.tail c h1
theorem pages_linesB (m h : Int) (l : List SectP) : ∀ p ∈ pagesB m h l, SmallL p.body ∧ SmallL p.notes := by
 intro p hp
 have hc : p.core ∈ coreS m h l := by rw [← pagesB_core]; exact List.mem_map_of_mem hp
 have hs : ∀ c ∈ coreS m h l, SmallL c.body ∧ SmallL c.notes := by
  intro c hc
  obtain ⟨s, -, hs⟩ := List.mem_flatMap.1 hc
  exact coreV_lines m h s.entry s.texts s.vers c hs
 exact hs _ hc
end Go.Proofs.YtakaielemicpkaaGreatDoor
