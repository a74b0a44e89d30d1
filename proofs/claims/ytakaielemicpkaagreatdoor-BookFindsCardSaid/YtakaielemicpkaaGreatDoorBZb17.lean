/- The reference's pages of a book are those of package book. No condition but sizes.
Every word of a version stands on one line of the pages of this version. No program is in sight.
Where a word stands, if it stands on one line only. No program is in sight.
How many lines of a page have a word, and the number of the last one. No condition but sizes.
BookWords, walked: it answers true. No condition but what the tables hold.
The reference's find and Where are those of package book. No condition but sizes.
The reference's Text and that of package book. No condition but sizes.
Text of package book. No condition but sizes.
Fillers: words of a given width. No program is in sight.
The text of fillers: it is a text of the generator too, and it has the same pages. No program is in sight.
The second book of BookShapes while it is built. No condition.
glyph.Fill. No condition.
The law's fillers. No condition but what the tables hold and that the sizes fit.
book.checkVersions: no error for a section of the generator. No condition but that.
book.Check: no error for a book of the generator. No condition but that.
ref28.SamePage and SamePages: true where the pages are the same. No condition but the sizes.
BookShapes, walked: it answers true. No condition but what the tables hold.
BookFinds, walked: it answers true. No condition but what the tables hold.
A slice as an argument, read as plain data, whatever its elements are; its length against the bulk of what is read. No condition.
Lists of numbers as arguments, read as plain data. No condition.
BookFinds: the card holds, for every argument. No condition. -/
import Derived.Test.YtakaielemicpkaaGreatDoorBZb16
import Derived.BigRegion
import Derived.Deep.Slices
import Derived.Deep.Fields
import Derived.ChangeSame
import Derived.ChangeMaps5
import Derived.OpenShut
namespace Go.Proofs.YtakaielemicpkaaGreatDoor
open Go.RowKit
def SP.pgE (B : Nat) (l : List PageP) (E : Int) : SP := ⟨fun v w => ∃ A c, v = .tuple #[.slice A l.length c, .int .i64 E] ∧ Sl w (Up B) A c l, fun _ _ _ h hb => by
  obtain ⟨A, c, h1, h2⟩ := h
  exact ⟨A, c, h1, h2.keep (Kept.all hb) hb.size⟩⟩
theorem plainB_first (m h : Int) (x : SectP) (h0 : 0 < x.texts.length) : plainB m h x = (okPages x.texts[0].a x.texts[0].b m h).length := by
  obtain ⟨e, f, v, ts⟩ := x
  cases ts with
  | nil => exact absurd h0 (Nat.lt_irrefl 0)
  | cons t ts => rfl
theorem rText_ok {A B : Option Addr} {c d : Nat} {a b : List (List Word)} {m h : Int} {w : World} (ha : Sl w (fun b => b < w.heap.size) A c a) (hb : Sl w (fun b => b < w.heap.size) B d b) (hla : a.length ≤ 1048576) (hlb : b.length ≤ 1048576) :
    Calls Tryz.prog 32 #[.agg #[.slice A a.length c, .slice B b.length d], .int .i64 m, .int .i64 h] w fun e w' => ∃ v, e = .returned v ∧ (SP.pgE w.heap.size (okPages a b m h) (textE a b m h)).p v w' ∧ Below w.heap.size w w' := by
  refine (rText_any A B c d a b m h w ha hb hla hlb).mono ?_
  rintro e w' ⟨v, rfl, h1, h2, h3⟩
  by_cases h0 : textE a b m h = 0
  · obtain ⟨A', c', rfl, hs⟩ := ((h1 h0).up (Nat.le_refl _)).sl
    exact ⟨_, rfl, ⟨A', c', by unfold okPages; rw [if_pos h0], by unfold okPages; rw [if_pos h0]; exact hs⟩, h3⟩
  · obtain rfl := h2 h0
    exact ⟨_, rfl, ⟨none, 0, by unfold okPages; rw [if_neg h0]; rfl, by unfold okPages; rw [if_neg h0]; exact Sl.nil _ _ _ _ (Nat.zero_le _)⟩, h3⟩
set_option maxRecDepth 100000 in
set_option maxHeartbeats 16000000 in
theorem rpages_any {m h : Int} {A : Option Addr} {c : Nat} {l : List SectP} {w : World} (H : BookOk w m h A c l) :
    Calls Tryz.prog 10 #[.agg #[.int .i64 m, .int .i64 h, .slice A l.length c]] w fun e W' => ∃ v, e = .returned v ∧ OwnP W' w.heap.size 36 v (pagesB m h l) (Up w.heap.size) ∧ Below w.heap.size w W' := by
  obtain ⟨n, hn⟩ : ∃ n, l.length = n := ⟨_, rfl⟩
  obtain ⟨wb, hwb⟩ : ∃ wb, w.alloc (.cells #[.int .i64 m, .int .i64 h, .slice A n c] 27) = wb := ⟨_, rfl⟩
  have hba : Below w.heap.size w wb := by rw [← hwb]; exact (Below.refl _ _).alloc (Nat.le_refl _) _
  have hx0 : ABox wb w.heap.size 27 [.int .i64 m, .int .i64 h, .slice A n c] := by rw [← hwb]; exact heap_alloc_new w _
  have HB := Lib.hid (H.to hba)
  have HBA := Lib.hid hba
  have HX0 := Lib.hid hx0
  have HN := Lib.hid hn
  have hnc : n ≤ c := by rw [← hn]; exact H.s.1
  have hn9 : n ≤ 1048576 := by rw [← hn]; exact H.sh.1
  rw [hn]
  clear hba hx0 hn H
  go_enter Tryz.func10, Tryz.ntmps10
  go_upto_region 1 with (fail)
  try rw [hwb]
  clear hwb
  go_wp2_with fail
  go_loopw [3, 4, 5] (fun v3 v4 v5 wr => ∃ (i : Nat) (num : Int) (done : List PageP), v5 = .int .i64 (i : Int) ∧ i ≤ n ∧ v4 = .int .i64 num ∧ 0 ≤ num ∧ num ≤ done.length ∧ Hid (OwnP wr wb.heap.size 36 v3 done (Up wb.heap.size)) ∧ Hid (done ++ sectsB m h num (l.drop i) = pagesB m h l) ∧ Hid (Below wb.heap.size wb wr)) (fun _ _ v5 _ => n - (intOf v5).toNat)
  case atStart => exact ⟨0, 0, [], rfl, Nat.zero_le _, rfl, Int.le_refl _, by simp, Lib.hid (OwnP.nil _ _ _ _), Lib.hid rfl, Lib.hid (Below.refl _ _)⟩
  case round =>
    obtain ⟨i, num, done, rfl, hi, rfl, hn0, hn1, HO, HD, HBl⟩ := hrel
    have y2 := (HX0.out.to HBl.out).cell 2 rfl
    obtain ⟨A3, c3, hv3, -, -⟩ := HO.out.len
    subst hv3
    by_cases hlt : i < n
    · have hil : i < l.length := by rw [HN.out]; exact hlt
      obtain ⟨b, o, Ag, cg, An, cn, rfl, -, hbb, e0', e1', e2', e3', hg1, hn2, -⟩ := sect_at HB.out.s hil
      have e0 := (HBl.out.cell (p := ⟨b, o + i * 4, none⟩) hbb).trans e0'
      have e1 := (HBl.out.cell (p := ⟨b, o + i * 4 + 1, none⟩) hbb).trans e1'
      have e2 := (HBl.out.cell (p := ⟨b, o + i * 4 + 2, none⟩) hbb).trans e2'
      have e3 := (HBl.out.cell (p := ⟨b, o + i * 4 + 3, none⟩) hbb).trans e3'
      clear e0' e1' e2' e3' hbb
      have hsd : l.drop i = l[i] :: l.drop (i + 1) := List.drop_eq_getElem_cons hil
      have hwf := HB.out.wf _ (List.getElem_mem hil)
      have hsh := HB.out.sh.2 _ (List.getElem_mem hil)
      obtain ⟨x, hx⟩ : ∃ x, l[i] = x := ⟨_, rfl⟩
      rw [hx] at e0 e1 e2 e3 hg1 hn2 hsd hwf hsh
      have HSD := Lib.hid hsd
      have HSH := Lib.hid hsh
      have hiI : (i : Int) < (n : Int) := by omega
      obtain ⟨S, hS⟩ : ∃ S, wr.heap.size = S := ⟨_, rfl⟩
      obtain ⟨ws, hws⟩ : ∃ ws, wr.alloc (.cells #[.int .i64 x.entry, .bool x.frozen, .slice Ag x.vers.length cg, .slice An x.texts.length cn] 45) = ws := ⟨_, rfl⟩
      have hbs : Below wr.heap.size wr ws := by rw [← hws]; exact (Below.refl _ _).alloc (Nat.le_refl _) _
      have hxs : ABox ws S 45 [.int .i64 x.entry, .bool x.frozen, .slice Ag x.vers.length cg, .slice An x.texts.length cn] := by rw [← hws, ← hS]; exact heap_alloc_new wr _
      have HXS := Lib.hid hxs
      have HG1 := Lib.hid hg1
      have HN2 := Lib.hid hn2
      have HO1 := Lib.hid (HO.out.below hbs)
      have HOS1 : Hid (∀ g, (Value.slice A3 done.length c3).ownBlock = some g → g ≠ S) := Lib.hid (fun g hg => by have := (HO.out.lt g hg).2; omega)
      have HSL : Hid (S < ws.heap.size ∧ wb.heap.size ≤ S) := Lib.hid ⟨hxs.lt, by rw [← hS]; exact HBl.out.size⟩
      have HB1 := Lib.hid (HBl.out.trans (hbs.mono HBl.out.size))
      have htv : x.texts.length ≤ x.vers.length := hwf
      have htc : x.texts.length ≤ cn := hn2.1
      have hvc : x.vers.length ≤ cg := hg1.1
      have ht9 : x.texts.length ≤ 1048576 := hsh.2.1
      go_upto_region 7 with (fail)
      try rw [hS]
      try rw [hws]
      clear hS hws hbs hxs hg1 hn2 hx hsd hwf hsh hil e0 e1 e2 e3 y2 HO HBl
      go_wp2_with fail
      go_loopw [3, 4, 7, 8] (fun v3 v4 v7 v8 wx => ∃ (k : Nat) (nu su : Int) (dn : List PageP), v8 = .int .i64 (k : Int) ∧ k ≤ x.texts.length ∧ v4 = .int .i64 nu ∧ v7 = .int .i64 su ∧ (0 ≤ nu ∧ nu ≤ dn.length ∧ 0 ≤ su ∧ su ≤ dn.length) ∧ Hid (nu = if k = 0 then num else num + plainB m h x) ∧ Hid (OwnP wx wb.heap.size 36 v3 dn (Up wb.heap.size)) ∧
        Hid (dn ++ (versB m h x.entry k nu su (x.vers.drop k) (x.texts.drop k) ++ sectsB m h (num + plainB m h x) (l.drop (i + 1))) = pagesB m h l) ∧ Hid (KS (fun b => b < wb.heap.size ∨ b = S) ws wx) ∧ Hid (∀ g, v3.ownBlock = some g → g ≠ S)) (fun _ _ _ v8 _ => x.texts.length - (intOf v8).toNat)
      case atStart => exact ⟨0, num, 0, done, rfl, Nat.zero_le _, rfl, rfl, ⟨hn0, hn1, Int.le_refl _, by omega⟩, Lib.hid rfl, HO1, Lib.hid (by rw [List.drop_zero, List.drop_zero, ← HD.out, HSD.out]; rfl), Lib.hid (KS.refl _ _), HOS1⟩
      case round =>
        clear HO1 HOS1
        obtain ⟨k, nu, su, dn, rfl, hk, rfl, rfl, ⟨hu1, hu2, hu3, hu4⟩, HNU, HO, HD2, HBx, HOS⟩ := hrel
        obtain ⟨A3, c3, hv3, -, -⟩ := HO.out.len
        subst hv3
        have HXSx : Hid (ABox wr S 45 [.int .i64 x.entry, .bool x.frozen, .slice Ag x.vers.length cg, .slice An x.texts.length cn]) := Lib.hid ((HBx.out.block S (.inr rfl) HSL.out.1).trans HXS.out)
        have p3 := HXSx.out.cell 3 rfl
        have HBB : Hid (Below wb.heap.size wb wr) := Lib.hid (HB1.out.trans (HBx.out.below (fun i hi => .inl hi) HB1.out.size))
        by_cases hkl : k < x.texts.length
        · obtain ⟨bt, ot, Aa, ca, Ab, cb, rfl, hbt, -, a0, a1, ht1, ht2⟩ := text_at (HN2.out.keep (Kept.below HBB.out (fun _ h => h)) HBB.out.size) hkl
          obtain ⟨bv, ov, rfl, hbv, -, -, ev⟩ := int_at (HG1.out.keep (Kept.below HBB.out (fun _ h => h)) HBB.out.size) (k := k) (by omega)
          have htd : x.texts.drop k = x.texts[k] :: x.texts.drop (k + 1) := List.drop_eq_getElem_cons hkl
          have hvd : x.vers.drop k = x.vers[k]'(by omega) :: x.vers.drop (k + 1) := List.drop_eq_getElem_cons (by omega)
          have hshy := HSH.out.2.2 _ (List.getElem_mem hkl)
          have hpz : k = 0 → plainB m h x = (okPages x.texts[k].a x.texts[k].b m h).length := fun h0 => by
            subst h0
            exact plainB_first m h x hkl
          obtain ⟨y, hy⟩ : ∃ y, x.texts[k] = y := ⟨_, rfl⟩
          obtain ⟨vk, hvk⟩ : ∃ vk, x.vers[k]'(by omega) = vk := ⟨_, rfl⟩
          rw [hy] at a0 a1 ht1 ht2 htd hshy hpz
          rw [hvk] at ev hvd
          obtain ⟨ps, hps⟩ : ∃ ps, okPages y.a y.b m h = ps := ⟨_, rfl⟩
          rw [hps] at hpz
          have HPS := Lib.hid hps
          have HPZ := Lib.hid hpz
          have HD3 : Hid (dn ++ (labelP x.entry vk nu su k ps ++ (versB m h x.entry (k + 1) (if k = 0 then nu + ps.length else nu) (if k = 0 then su else su + ps.length) (x.vers.drop (k + 1)) (x.texts.drop (k + 1)) ++ sectsB m h (num + plainB m h x) (l.drop (i + 1)))) = pagesB m h l) := Lib.hid (by
            rw [← HD2.out, htd, hvd, versB, hps, List.append_assoc]; rfl)
          have HT1 : Hid (Sl wr (fun b => b < wr.heap.size) Aa ca y.a) := Lib.hid (ht1.mono (fun i _ hl => hl))
          have HT2 : Hid (Sl wr (fun b => b < wr.heap.size) Ab cb y.b) := Lib.hid (ht2.mono (fun i _ hl => hl))
          have HSY := Lib.hid hshy
          have hkI : (k : Int) < (x.texts.length : Int) := by omega
          have hkv : (k : Int) < (x.vers.length : Int) := by omega
          have HBT : Hid (bt < wr.heap.size ∧ bv < wr.heap.size) := Lib.hid ⟨Nat.lt_of_lt_of_le hbt HBB.out.size, Nat.lt_of_lt_of_le hbv HBB.out.size⟩
          have HBVb : Hid (bv < wb.heap.size) := Lib.hid hbv
          have HA0 := Lib.hid a0
          have HA1 := Lib.hid a1
          have HEV := Lib.hid ev
          have HX0w := Lib.hid (HX0.out.to HBB.out)
          have HSw : Hid (S < wr.heap.size) := Lib.hid HXSx.out.lt
          clear hy hvk hps hpz htd hvd ht1 ht2 hshy hbt hbv HD2
          go_upto_region 11 with (fail)
          clear p3 a0 a1 ev
          refine wp_region_rely [9] (fun i => if i = 9 then SP.pgE wr.heap.size ps (textE y.a y.b m h) else SP.any) 15 (by kernel_rfl) (by kernel_rfl) ?_
          intro T _ g hg hgm
          have p3 : ∀ d, (g d).cell? ⟨S, 3, none⟩ = some (.slice (some ⟨bt, ot, none⟩) x.texts.length cn) := fun d => (HXSx.out.to (hg d)).cell 3 rfl
          have b0 : ∀ d, (g d).cell? ⟨w.heap.size, 0, none⟩ = some (.int .i64 m) := fun d => (HX0w.out.to (hg d)).cell 0 rfl
          have b1 : ∀ d, (g d).cell? ⟨w.heap.size, 1, none⟩ = some (.int .i64 h) := fun d => (HX0w.out.to (hg d)).cell 1 rfl
          have a0 : ∀ d, (g d).cell? ⟨bt, ot + k * 2, none⟩ = some (.slice Aa y.a.length ca) := fun d => ((hg d).cell (p := ⟨bt, ot + k * 2, none⟩) HBT.out.1).trans HA0.out
          have a1 : ∀ d, (g d).cell? ⟨bt, ot + k * 2 + 1, none⟩ = some (.slice Ab y.b.length cb) := fun d => ((hg d).cell (p := ⟨bt, ot + k * 2 + 1, none⟩) HBT.out.1).trans HA1.out
          repeat (refine wpR_pure (by rfl) fun Kq hq => ?_; go_big_quiet_step (fail); refine wpQuiet_nil (hq _ ?_); clear hq Kq)
          refine wpR_busy (by rfl) (by rfl) (fun d hG K Q hK => ?_) (fun v d hG hp Kr hr => ?_)
          · have hc := rText_ok (m := m) (h := h) (HT1.out.to (hg d)) (HT2.out.to (hg d)) HSY.out.1.1 HSY.out.2.1
            go_simp
            go_at_call 32
            refine (hc).mono ?_
            rintro e W1 ⟨v3, rfl, hp1, hb1⟩
            go_simp
            exact hK _ _ hb1 ((by obtain ⟨A', c', e1, e2⟩ := hp1; exact ⟨A', c', by rw [e1, HPS.out], by rw [HPS.out] at e2; exact e2.mono (fun i hi _ => Nat.le_trans (hg d).size hi)⟩))
          obtain ⟨Ap, cp, rfl, -⟩ := (show ∃ A c, v = .tuple #[.slice A ps.length c, .int .i64 (textE y.a y.b m h)] ∧ _ from hp)
          (try clear hp); clear hG
          simp only [Act.put, List.setIfInBounds_toArray, List.set_cons_zero, List.set_cons_succ]
          refine hr _ ?_
          clear hr Kr
          repeat (refine wpR_pure (by rfl) fun Kq hq => ?_; go_big_quiet_step (fail); refine wpQuiet_nil (hq _ ?_); clear hq Kq)
          refine wpR_end (by kernel_rfl) (fun d hG => ?_) _
          have HSL6 : Hid (Sl (g d) (fun b => wr.heap.size ≤ b ∧ b < (g d).heap.size) Ap cp ps) := Lib.hid (by
            obtain ⟨A', c', e1, e2⟩ := (show ∃ A c, Value.tuple #[.slice Ap ps.length cp, .int .i64 (textE y.a y.b m h)] = .tuple #[.slice A ps.length c, .int .i64 (textE y.a y.b m h)] ∧ Sl (g d) (Up wr.heap.size) A c ps from hG 9)
            obtain ⟨rfl, rfl⟩ : Ap = A' ∧ cp = c' := by
              have := congrArg (fun v : Value => match v with | .tuple cs => cs.toList | _ => []) e1
              simp at this
              exact this
            exact e2.mono (fun i hi hl => ⟨hi, hl⟩))
          clear p3 b0 b1 a0 a1
          have HBd := Lib.hid (hg d)
          clear hG hg hgm
          unfold Exit.then
          generalize g d = w6 at *
          clear g
          obtain ⟨wk, rfl⟩ : ∃ wk : World, wk = wr := ⟨_, rfl⟩
          have HOD := Lib.hid (HO.out.below HBd.out)
          have HXS6 := Lib.hid (HXSx.out.to HBd.out)
          have HV6 : Hid (w6.cell? ⟨bv, ov + k, none⟩ = some (.int .i64 vk)) := Lib.hid ((HBd.out.cell (p := ⟨bv, ov + k, none⟩) HBT.out.2).trans HEV.out)
          have HBV : Hid (bv < w6.heap.size ∧ S < w6.heap.size) := Lib.hid ⟨Nat.lt_of_lt_of_le HBT.out.2 HBd.out.size, Nat.lt_of_lt_of_le HSw.out HBd.out.size⟩
          have HB6 : Hid (Below wb.heap.size wb w6) := Lib.hid (HBB.out.trans (HBd.out.mono HBB.out.size))
          have HOB0 : Hid (∀ g, (Value.slice A3 dn.length c3).ownBlock = some g → g ≠ S ∧ (g < wk.heap.size ∨ w6.heap.size ≤ g)) := Lib.hid (fun g hg => ⟨HOS.out g hg, .inl (HO.out.lt g hg).2⟩)
          have HWK6 : Hid (wk.heap.size ≤ w6.heap.size ∧ wb.heap.size ≤ wk.heap.size) := Lib.hid ⟨HBd.out.size, HBB.out.size⟩
          have hpsc : ps.length ≤ cp := HSL6.out.1
          have hps9 : ps.length ≤ 100000 := by rw [← HPS.out]; exact okPages_len _ _ _ _
          go_wp2_with fail
          obtain ⟨RS, hRS⟩ : ∃ RS, versB m h x.entry (k + 1) (if k = 0 then nu + ps.length else nu) (if k = 0 then su else su + ps.length) (x.vers.drop (k + 1)) (x.texts.drop (k + 1)) ++ sectsB m h (num + plainB m h x) (l.drop (i + 1)) = RS := ⟨_, rfl⟩
          have HRS := Lib.hid hRS
          rw [hRS] at HD3
          clear hRS
          go_loopw [3, 4, 7, 11] (fun v3 v4 v7 v11 wz => ∃ (j : Nat) (nv sv : Int) (dq : List PageP), v11 = .int .i64 (j : Int) ∧ j ≤ ps.length ∧ v4 = .int .i64 nv ∧ v7 = .int .i64 sv ∧ (0 ≤ nv ∧ nv ≤ dq.length ∧ 0 ≤ sv ∧ sv ≤ dq.length) ∧ Hid (nv = if k = 0 then nu + j else nu) ∧ Hid (sv = if k = 0 then su else su + j) ∧ Hid (OwnP wz wb.heap.size 36 v3 dq (Up wb.heap.size)) ∧
            Hid (dq ++ (labelP x.entry vk nv sv k (ps.drop j) ++ RS) = pagesB m h l) ∧ Hid (KS (fun b => b < wb.heap.size ∨ b = S ∨ (wk.heap.size ≤ b ∧ b < w6.heap.size)) w6 wz) ∧ Hid (∀ g, v3.ownBlock = some g → g ≠ S ∧ (g < wk.heap.size ∨ w6.heap.size ≤ g))) (fun _ _ _ v11 _ => ps.length - (intOf v11).toNat)
          case atStart => exact ⟨0, nu, su, dn, rfl, Nat.zero_le _, rfl, rfl, ⟨hu1, hu2, hu3, hu4⟩, Lib.hid (by split <;> omega), Lib.hid (by split <;> omega), HOD, HD3, Lib.hid (KS.refl _ _), HOB0⟩
          case round =>
            clear HOD HD3 HOB0
            obtain ⟨j, nv, sv, dq, rfl, hj, rfl, rfl, ⟨hv1, hv2, hv3, hv4⟩, HNV, HSV, HO, HD4, HBz, HOB⟩ := hrel
            obtain ⟨A3, c3, hv3', -, -⟩ := HO.out.len
            subst hv3'
            by_cases hjl : j < ps.length
            · have hjI : (j : Int) < (ps.length : Int) := by omega
              obtain ⟨bp, op, A1, c1, A2, c2, rfl, hbp, -, e0, e1, e2, e3, e4, e5, r1, r2⟩ := pageS_at (HSL6.out.keep (HBz.out.kept.mono (fun _ h => .inr (.inr h))) HBz.out.size) hjl
              have hpd : ps.drop j = ps[j] :: ps.drop (j + 1) := List.drop_eq_getElem_cons hjl
              have hsm : SmallP ps[j] := okPages_small y.a y.b m h _ (by rw [HPS.out]; exact List.getElem_mem hjl)
              obtain ⟨p, hp⟩ : ∃ p, ps[j] = p := ⟨_, rfl⟩
              rw [hp] at e0 e1 e2 e3 e4 e5 r1 r2 hpd hsm
              obtain ⟨n2, hn2⟩ : ∃ n2, (if k = 0 then nv + 1 else nv) = n2 := ⟨_, rfl⟩
              obtain ⟨s2, hs2⟩ : ∃ s2, (if k = 0 then sv else sv + 1) = s2 := ⟨_, rfl⟩
              obtain ⟨q, hq⟩ : ∃ q : PageP, ⟨n2, s2, x.entry, vk, p.body, p.notes⟩ = q := ⟨_, rfl⟩
              have HD5 : Hid ((dq ++ [q]) ++ (labelP x.entry vk n2 s2 k (ps.drop (j + 1)) ++ RS) = pagesB m h l) := Lib.hid (by
                rw [← HD4.out, hpd, labelP_cons, hn2, hs2, hq, List.append_assoc]; rfl)
              have hdl : dq.length + 1 ≤ 1000000000 := by
                have h1 := congrArg List.length HD5.out
                have h2 := HB.out.pn
                rw [← h1, List.length_append, List.length_append] at h2
                simp at h2
                omega
              have HDL := Lib.hid hdl
              obtain ⟨O, hO⟩ : ∃ O, wr.heap.size = O := ⟨_, rfl⟩
              obtain ⟨wO, hwO⟩ : ∃ wO, wr.alloc (.cells #[.int .i64 p.num, .int .i64 p.suf, .int .i64 p.entry, .int .i64 p.ver, .slice A1 p.body.length c1, .slice A2 p.notes.length c2] 36) = wO := ⟨_, rfl⟩
              have hbO : Below wr.heap.size wr wO := by rw [← hwO]; exact (Below.refl _ _).alloc (Nat.le_refl _) _
              have hxO : ABox wO O 36 [.int .i64 p.num, .int .i64 p.suf, .int .i64 p.entry, .int .i64 p.ver, .slice A1 p.body.length c1, .slice A2 p.notes.length c2] := by rw [← hwO, ← hO]; exact heap_alloc_new wr _
              have h6O : w6.heap.size ≤ O := by rw [← hO]; exact HBz.out.size
              have HXO := Lib.hid hxO
              have HOO : Hid (OwnP wO wb.heap.size 36 (.slice A3 dq.length c3) dq (fun i => wb.heap.size ≤ i ∧ i ≠ O)) := Lib.hid ((HO.out.mono (fun i hi hl => ⟨hi, by omega⟩)).below hbO)
              have HBO : Hid (KS (fun b => b < wb.heap.size ∨ b = S ∨ (wk.heap.size ≤ b ∧ b < w6.heap.size)) w6 wO) := Lib.hid (HBz.out.trans (KS.of_below hbO _))
              have HNS : Hid (¬ (O < wb.heap.size ∨ O = S ∨ (wk.heap.size ≤ O ∧ O < w6.heap.size))) := Lib.hid (by have := HWK6.out; have := HBV.out.2; omega)
              have HR1 : Hid (Sl wO (fun b => wk.heap.size ≤ b ∧ b < w6.heap.size) A1 c1 p.body) := Lib.hid (r1.keep (Kept.all hbO) hbO.size)
              have HR2 : Hid (Sl wO (fun b => wk.heap.size ≤ b ∧ b < w6.heap.size) A2 c2 p.notes) := Lib.hid (r2.keep (Kept.all hbO) hbO.size)
              have H6O := Lib.hid h6O
              have HSM := Lib.hid hsm
              have HQ := Lib.hid hq
              have HN2e := Lib.hid hn2
              have HNB : Hid (0 ≤ n2 ∧ n2 ≤ dq.length + 1 ∧ 0 ≤ s2 ∧ s2 ≤ dq.length + 1) := Lib.hid (by rw [← hn2, ← hs2]; split <;> omega)
              have HNV2 : Hid (n2 = if k = 0 then nu + ((j + 1 : Nat) : Int) else nu) := Lib.hid (by
                have h1 := HNV.out
                rw [← hn2]
                split
                · rename_i h; rw [if_pos h] at h1; omega
                · rename_i h; rw [if_neg h] at h1; exact h1)
              have HSV2 : Hid (s2 = if k = 0 then su else su + ((j + 1 : Nat) : Int)) := Lib.hid (by
                have h1 := HSV.out
                rw [← hs2]
                split
                · rename_i h; rw [if_pos h] at h1; exact h1
                · rename_i h; rw [if_neg h] at h1; omega)
              have HS2e := Lib.hid hs2
              go_upto_if 56 with (fail)
              try rw [hO]
              try rw [hwO]
              clear e0 e1 e2 e3 e4 e5 r1 r2 hpd hp hq hxO hbO hwO hO hsm
              clear HO HBz HD4
              go_cut [4, 7] from 55 to 60 (fun v4 v7 wx => v4 = .int .i64 n2 ∧ v7 = .int .i64 s2 ∧ wx = wO)
              case first =>
                by_cases hk0 : k = 0
                · have hn3 : nv + 1 = n2 := by rw [← HN2e.out, if_pos hk0]
                  have hs3 : sv = s2 := by rw [← HS2e.out, if_pos hk0]
                  have HN3 := Lib.hid hn3
                  have HS3 := Lib.hid hs3
                  have hkI0 : (k : Int) = 0 := by omega
                  subst hk0
                  clear hn3 hs3 hn2 hs2
                  go_wp2_with fail
                  go_meet
                  exact ⟨by rw [HN3.out], by rw [HS3.out], rfl⟩
                · have hn3 : nv = n2 := by rw [← HN2e.out, if_neg hk0]
                  have hs3 : sv + 1 = s2 := by rw [← HS2e.out, if_neg hk0]
                  have HN3 := Lib.hid hn3
                  have HS3 := Lib.hid hs3
                  have hkI0 : ¬ (k : Int) = 0 := by omega
                  clear hn3 hs3 hn2 hs2
                  go_wp2_with fail
                  go_meet
                  exact ⟨by rw [HN3.out], by rw [HS3.out], rfl⟩
              case rest =>
                obtain ⟨rfl, rfl, rfl⟩ := hcut
                obtain ⟨wO, rfl⟩ : ∃ wO : World, wO = wc := ⟨_, rfl⟩
                have hb2 : KS (fun b => b < wb.heap.size ∨ b = S ∨ (wk.heap.size ≤ b ∧ b < w6.heap.size)) w6 ((wO.setCell ⟨O, 0, none⟩ (.int .i64 n2)).setCell ⟨O, 1, none⟩ (.int .i64 s2)) := (HBO.out.trans (KS.setCell _ _ HNS.out)).trans (KS.setCell _ _ HNS.out)
                have hb3 : KS (fun b => b < wb.heap.size ∨ b = S ∨ (wk.heap.size ≤ b ∧ b < w6.heap.size)) w6 (((wO.setCell ⟨O, 0, none⟩ (.int .i64 n2)).setCell ⟨O, 1, none⟩ (.int .i64 s2)).setCell ⟨O, 2, none⟩ (.int .i64 x.entry)) := hb2.trans (KS.setCell _ _ HNS.out)
                have hb4 : KS (fun b => b < wb.heap.size ∨ b = S ∨ (wk.heap.size ≤ b ∧ b < w6.heap.size)) w6 ((((wO.setCell ⟨O, 0, none⟩ (.int .i64 n2)).setCell ⟨O, 1, none⟩ (.int .i64 s2)).setCell ⟨O, 2, none⟩ (.int .i64 x.entry)).setCell ⟨O, 3, none⟩ (.int .i64 vk)) := hb3.trans (KS.setCell _ _ HNS.out)
                have hx2 := (HXO.out.set 0 (.int .i64 n2)).set 1 (.int .i64 s2)
                have hx3 := hx2.set 2 (.int .i64 x.entry)
                have hx4 := hx3.set 3 (.int .i64 vk)
                have z0 := HXO.out.cell 0 rfl
                have f0 := HXO.out.fz 0
                have z1 := (HXO.out.set 0 (.int .i64 n2)).cell 1 rfl
                have f1 := (HXO.out.set 0 (.int .i64 n2)).fz 1
                have z2 := hx2.cell 2 rfl
                have f2 := hx2.fz 2
                have z3 := hx3.cell 3 rfl
                have f3 := hx3.fz 3
                have u0 := hx4.cell 0 rfl
                have u1 := hx4.cell 1 rfl
                have u2 := hx4.cell 2 rfl
                have u3 := hx4.cell 3 rfl
                have u4 := hx4.cell 4 rfl
                have u5 := hx4.cell 5 rfl
                have g2 := (show ABox _ S 45 _ from (hb2.block S (.inr (.inl rfl)) HBV.out.2).trans HXS6.out).cell 0 rfl
                have g3 := (show ABox _ S 45 _ from (hb3.block S (.inr (.inl rfl)) HBV.out.2).trans HXS6.out).cell 2 rfl
                have g4 := hb3.kept.cell (.inl HBVb.out) HV6.out
                obtain ⟨W4, hW4⟩ : ∃ W4, (((wO.setCell ⟨O, 0, none⟩ (.int .i64 n2)).setCell ⟨O, 1, none⟩ (.int .i64 s2)).setCell ⟨O, 2, none⟩ (.int .i64 x.entry)).setCell ⟨O, 3, none⟩ (.int .i64 vk) = W4 := ⟨_, rfl⟩
                have hkk : ∀ i, i ≠ O → W4.heap[i]? = wO.heap[i]? := fun i hi => by rw [← hW4]; exact (heap_set _ _ _ _ hi).trans ((heap_set _ _ _ _ hi).trans ((heap_set _ _ _ _ hi).trans (heap_set _ _ _ _ hi)))
                have hsz4 : W4.heap.size = wO.heap.size := by rw [← hW4]; simp
                have HO4 : Hid (OwnP W4 wb.heap.size 36 (.slice A3 dq.length c3) dq (Up wb.heap.size)) := Lib.hid ((HOO.out.kept (fun i hi _ => hkk i hi.2)).mono (fun i hi _ => hi.1))
                have HR14 : Hid (Sl W4 (fun b => wk.heap.size ≤ b ∧ b < w6.heap.size) A1 c1 p.body) := Lib.hid (HR1.out.keep (fun i hi _ => hkk i (by have := H6O.out; omega)) (Nat.le_of_eq hsz4.symm))
                have HR24 : Hid (Sl W4 (fun b => wk.heap.size ≤ b ∧ b < w6.heap.size) A2 c2 p.notes) := Lib.hid (HR2.out.keep (fun i hi _ => hkk i (by have := H6O.out; omega)) (Nat.le_of_eq hsz4.symm))
                rw [hW4] at u0 u1 u2 u3 u4 u5 hb4
                have HB4 := Lib.hid hb4
                clear hkk hsz4 hx2 hx3 hx4 hb2 hb3 hb4
                have hba : Below W4.heap.size W4 (W4.alloc (.cells #[.int .i64 n2, .int .i64 s2, .int .i64 x.entry, .int .i64 vk, .slice A1 p.body.length c1, .slice A2 p.notes.length c2] 36)) := (Below.refl _ _).alloc (Nat.le_refl _) _
                have HWZ : Hid (wb.heap.size ≤ W4.heap.size) := Lib.hid (by have := HB6.out.size; have := HB4.out.size; omega)
                have HW6 : Hid (w6.heap.size ≤ W4.heap.size) := Lib.hid HB4.out.size
                have HWK : Hid (wb.heap.size ≤ wk.heap.size) := Lib.hid HBB.out.size
                have HO5 := Lib.hid (HO4.out.below hba)
                have HRE : Hid (Rep.R (W4.alloc (.cells #[.int .i64 n2, .int .i64 s2, .int .i64 x.entry, .int .i64 vk, .slice A1 p.body.length c1, .slice A2 p.notes.length c2] 36)) (fun b => some b ≠ (Value.slice A3 dq.length c3).ownBlock) [.int .i64 n2, .int .i64 s2, .int .i64 x.entry, .int .i64 vk, .slice A1 p.body.length c1, .slice A2 p.notes.length c2] (⟨q⟩ : Av PageP (Up wb.heap.size))) := Lib.hid (by
                  rw [← HQ.out]
                  have hno : ∀ i, (wk.heap.size ≤ i ∧ i < w6.heap.size) → some i ≠ (Value.slice A3 dq.length c3).ownBlock ∧ wb.heap.size ≤ i := fun i hi => ⟨fun e => by have := HOB.out i e.symm; omega, by have := HWK.out; omega⟩
                  exact ⟨_, _, rfl, ⟨A1, c1, rfl, (HR14.out.keep (Kept.all hba) hba.size).mono (fun i hi _ => hno i hi), (show p.body.length < 9223372036854775808 by have := HSM.out.1; omega)⟩, ⟨A2, c2, rfl, (HR24.out.keep (Kept.all hba) hba.size).mono (fun i hi _ => hno i hi), (show p.notes.length < 9223372036854775808 by have := HSM.out.2; omega)⟩⟩)
                have hml : (dq.map (Av.mk : PageP → Av PageP (Up wb.heap.size))).length = dq.length := List.length_map _
                have HML := Lib.hid hml
                clear hba hml
                go_wp2_with (first
                  | (at_builtin; (try rw [hW4]); refine wpList_push (α := Av PageP (Up wb.heap.size)) _ rfl (.tmp 74) (.tmp 76) 29 rfl wb.heap.size 36 (.agg #[.int .i64 0, .int .i64 0, .int .i64 0, .int .i64 0, .slice none 0 0, .slice none 0 0]) 80 Tryz.underlying29 page_info rfl (show 0 < 6 by decide) (.slice A3 dq.length c3) (dq.map Av.mk) rfl HO5.out.own W4.heap.size _ ⟨q⟩ (0, 0) 36 rfl (heap_alloc_new W4 _) HRE.out (by rw [HML.out]; have := HDL.out; omega) (by rw [HML.out]; have := HDL.out; omega) (by have := HWZ.out; simp; omega) _ rfl ?_; intro g5 p5 w5 hown5 hg5 hat5 hlt5; rw [HML.out] at hown5 ⊢; have HPN := Lib.hid (HO5.out.pushed hown5 (fun k hk => by cases hk; exact hat5) (show wb.heap.size ≤ _ by have := HWZ.out; simp; omega)); have HBN : Hid (KS (fun b => b < wb.heap.size ∨ b = S ∨ (wk.heap.size ≤ b ∧ b < w6.heap.size)) w6 w5) := Lib.hid ((HB4.out.trans (KS.alloc _)).trans (KS.grown hg5 (fun k hk hS => by have h1 := HOB.out k hk; have h2 := HO4.out.lt k hk; omega))); have HOBN : Hid (∀ g, (Value.slice (some ⟨g5, 0, none⟩) (dq.length + 1) p5).ownBlock = some g → g ≠ S ∧ (g < wk.heap.size ∨ w6.heap.size ≤ g)) := Lib.hid (fun g hg => by have hg9 : g5 = g := (by simpa [Value.ownBlock] using hg); subst hg9; rcases hat5 with h | h; exact HOB.out _ h; have h1 := HW6.out; have h2 := HBV.out.2; simp at h; omega); clear hown5 hg5 hat5 hlt5)
                  | fail)
                go_roundw
                case rel => exact ⟨j + 1, n2, s2, dq ++ [q], by go_num, by omega, rfl, rfl, by have := HNB.out; rw [List.length_append]; simp; omega, HNV2, HSV2, HPN, HD5, HBN, HOBN⟩
                case measure => (first | (simp [intOf]; done) | (simp [intOf]; omega))
            · obtain rfl : j = ps.length := by omega
              have HDR : Hid (dq ++ (versB m h x.entry (k + 1) nv sv (x.vers.drop (k + 1)) (x.texts.drop (k + 1)) ++ sectsB m h (num + plainB m h x) (l.drop (i + 1))) = pagesB m h l) := Lib.hid (by
                have h1 := HD4.out
                rwa [List.drop_length, labelP, List.nil_append, ← HRS.out, ← HNV.out, ← HSV.out] at h1)
              have HNU2 : Hid (nv = if k + 1 = 0 then num else num + plainB m h x) := Lib.hid (by
                rw [if_neg (by omega), HNV.out]
                have h1 := HNU.out
                by_cases hk0 : k = 0
                · rw [if_pos hk0] at h1 ⊢; rw [h1, HPZ.out hk0]
                · rw [if_neg hk0] at h1 ⊢; exact h1)
              have HBX : Hid (KS (fun b => b < wb.heap.size ∨ b = S) ws wr) := Lib.hid (HBx.out.trans ((KS.of_below HBd.out _).trans (HBz.out.mono (fun i hi _ => hi.elim .inl (fun h => .inr (.inl h))))))
              have HOS2 : Hid (∀ g, (Value.slice A3 dq.length c3).ownBlock = some g → g ≠ S) := Lib.hid (fun g hg => (HOB.out g hg).1)
              have hjI : ¬ (ps.length : Int) < (ps.length : Int) := by omega
              go_wp2_with fail
              go_roundw
              case rel => exact ⟨k + 1, nv, sv, dq, by go_num, by omega, rfl, rfl, ⟨hv1, hv2, hv3, hv4⟩, HNU2, HO, HDR, HBX, HOS2⟩
              case measure => (first | (simp [intOf]; done) | (simp [intOf]; omega))
        · obtain rfl : k = x.texts.length := by omega
          have HNX : Hid (nu = num + plainB m h x) := Lib.hid (by
            have h1 := HNU.out
            by_cases h0 : x.texts.length = 0
            · rw [if_pos h0] at h1
              have h2 : plainB m h x = 0 := by unfold plainB; rw [List.eq_nil_of_length_eq_zero h0]
              rw [h1, h2]; simp
            · rwa [if_neg h0] at h1)
          have HDR : Hid (dn ++ sectsB m h nu (l.drop (i + 1)) = pagesB m h l) := Lib.hid (by
            have h1 := HD2.out
            rwa [List.drop_length, versB, List.nil_append, ← HNX.out] at h1)
          have hkI : ¬ (x.texts.length : Int) < (x.texts.length : Int) := by omega
          go_wp2_with fail
          go_roundw
          case rel => exact ⟨i + 1, nu, dn, by go_num, by omega, rfl, hu1, hu2, HO, HDR, HBB⟩
          case measure => (first | (simp [intOf]; done) | (simp [intOf]; omega))
    · obtain rfl : i = n := by omega
      have HFI : Hid (done = pagesB m h l) := Lib.hid (by
        have h1 := HD.out
        rwa [← HN.out, List.drop_length, sectsB, List.append_nil] at h1)
      have HBE := Lib.hid (HBA.out.trans (HBl.out.mono HBA.out.size))
      have HSZ := Lib.hid HBA.out.size
      go_wp2_with fail
      go_ret
      exact ⟨_, rfl, by rw [← HFI.out]; exact up_own HO.out HSZ.out, HBE.out⟩
end Go.Proofs.YtakaielemicpkaaGreatDoor
namespace Go.Proofs.YtakaielemicpkaaGreatDoor
open Go.RowKit
end Go.Proofs.YtakaielemicpkaaGreatDoor
namespace Go.Proofs.YtakaielemicpkaaGreatDoor
open Go.RowKit
end Go.Proofs.YtakaielemicpkaaGreatDoor
namespace Go.Proofs.YtakaielemicpkaaGreatDoor
open Go.RowKit
set_option maxHeartbeats 1000000 in
theorem lines28_any (nu su en ve : Int) (A B : Option Addr) (c d : Nat) (a b : List LineP) (w : World) (ha : Sl w (fun b => b < w.heap.size) A c a) (hb : Sl w (fun b => b < w.heap.size) B d b) (hla : a.length ≤ 1048576) (hlb : b.length ≤ 1048576) :
    Calls Tryz.prog 42 #[.agg #[.int .i64 nu, .int .i64 su, .int .i64 en, .int .i64 ve, .slice A a.length c, .slice B b.length d]] w fun e w' => ∃ v, e = .returned v ∧ Own w' w.heap.size 88 v (a ++ b) ∧ Below w.heap.size w w' := by
  have hb0 := (Below.refl w.heap.size w).alloc (Nat.le_refl _) (.cells #[.int .i64 nu, .int .i64 su, .int .i64 en, .int .i64 ve, .slice A a.length c, .slice B b.length d] 36)
  have hx0 : ABox (w.alloc (.cells #[.int .i64 nu, .int .i64 su, .int .i64 en, .int .i64 ve, .slice A a.length c, .slice B b.length d] 36)) w.heap.size 36 [.int .i64 nu, .int .i64 su, .int .i64 en, .int .i64 ve, .slice A a.length c, .slice B b.length d] := heap_alloc_new w _
  have ha0 := ha.to hb0
  have hbb0 := hb.to hb0
  have hz0 : (w.alloc (.cells #[.int .i64 nu, .int .i64 su, .int .i64 en, .int .i64 ve, .slice A a.length c, .slice B b.length d] 36)).heap.size = w.heap.size + 1 := by simp
  go_enter Tryz.func42, Tryz.ntmps42
  go_upto_region 1 with (fail)
  generalize w.alloc (.cells #[.int .i64 nu, .int .i64 su, .int .i64 en, .int .i64 ve, .slice A a.length c, .slice B b.length d] 36) = w0 at *
  have HB0 := Lib.hid hb0
  have HX0 := Lib.hid hx0
  have HA := Lib.hid ha0
  have HBB := Lib.hid hbb0
  have HZ := Lib.hid hz0
  have x4 := hx0.cell 4 rfl
  have hzl : w.heap.size ≤ w0.heap.size := by omega
  clear hb0 hx0 ha0 hbb0 hz0 ha hb
  go_upto_region 3 with (first
    | (at_builtin; refine wpList_cat (α := LineP) _ rfl (.tmp 4) (.tmp 6) 34 rfl w0.heap.size 88 (.agg #[.int .i64 0, .int .i64 0, .slice none 0 0, .slice none 0 0]) 64 Tryz.underlying34 line_infoW rfl (by decide) (.slice none 0 0) [] rfl (Own.nil _ _ _) A c a.length a rfl rfl (fun b => b < w0.heap.size) HA.out (by intro i _ _ e; cases e) (by first | omega | (simp; done) | (simp; omega)) (by first | omega | (simp; done) | (simp; omega)) (by first | omega | (simp; done) | (simp; omega)) ?_; intro v2 w2 hown2 hg2 hat2; rw [List.nil_append] at hown2; have HO2 := Lib.hid hown2; have HG2 := Lib.hid (show Below w0.heap.size w0 w2 from ⟨hg2.os, hg2.tape, hg2.output, hg2.size, fun i hi => hg2.block i hi (by simp [Value.ownBlock])⟩); clear hown2 hg2 hat2 x4)
    | fail)
  have x5 := (HX0.out.to HG2.out).cell 5 rfl
  obtain ⟨A2, c2, rfl, _⟩ := HO2.out.form
  go_wp2_with (first
    | (at_builtin; refine wpList_cat (α := LineP) _ rfl (.tmp 8) (.tmp 10) 34 rfl w0.heap.size 88 (.agg #[.int .i64 0, .int .i64 0, .slice none 0 0, .slice none 0 0]) 64 Tryz.underlying34 line_infoW rfl (by decide) _ a rfl HO2.out B d b.length b rfl rfl (fun b => b < w0.heap.size) (HBB.out.keep (Kept.all HG2.out) HG2.out.size) (by intro i (hi : i < w0.heap.size) _ e; have := (HO2.out.lt i e.symm).1; omega) (by first | omega | (simp; done) | (simp; omega)) (by first | omega | (simp; done) | (simp; omega)) HG2.out.size ?_; intro v3 w3 hown3 hg3 hat3; have HO3 := Lib.hid hown3; have HB3 := Lib.hid (HB0.out.trans ((below_cat HG2.out HO2.out HG2.out.size hg3).mono hzl)); clear hown3 hg3 hat3 x5)
    | fail)
  go_ret
  exact ⟨_, rfl, HO3.out.re hzl, HB3.out⟩
end Go.Proofs.YtakaielemicpkaaGreatDoor
namespace Go.Proofs.YtakaielemicpkaaGreatDoor
open Go.RowKit
theorem coreV_small (m h e : Int) : ∀ (ts : List TextP) (vs : List Int) (c : CoreP), c ∈ coreV m h e vs ts → c.body.length ≤ 1048576 ∧ c.notes.length ≤ 1048576
  | [], vs, c, hc => by simp [coreV] at hc
  | t :: ts, vs, c, hc => by
    rw [coreV] at hc
    rcases List.mem_append.1 hc with h1 | h1
    · obtain ⟨p, hp, rfl⟩ := List.mem_map.1 h1
      exact okPages_small t.a t.b m h p hp
    · exact coreV_small m h e ts vs.tail c h1
theorem pages_smallB (m h : Int) (l : List SectP) : ∀ p ∈ pagesB m h l, SmallP p := by
  intro p hp
  have hc : p.core ∈ coreS m h l := by rw [← pagesB_core]; exact List.mem_map_of_mem hp
  have hs : ∀ c ∈ coreS m h l, c.body.length ≤ 1048576 ∧ c.notes.length ≤ 1048576 := by
    intro c hc
    obtain ⟨s, -, hs⟩ := List.mem_flatMap.1 hc
    exact coreV_small m h s.entry s.texts s.vers c hs
  exact hs _ hc
end Go.Proofs.YtakaielemicpkaaGreatDoor
namespace Go.Proofs.YtakaielemicpkaaGreatDoor
open Go.RowKit
theorem where_step {e v wd : Int} {ps : List PageP} {k : Nat} (hk : k < ps.length) (h0 : whereP e v wd (ps.take k) = none) : whereP e v wd (ps.take (k + 1)) = whereP e v wd [ps[k]] := by
  rw [List.take_succ_eq_append_getElem hk, whereP_append, h0, Option.none_or]
theorem where_end {e v wd : Int} {ps : List PageP} (k : Nat) {r : Int × Int × Nat} (h : whereP e v wd (ps.take k) = some r) : whereP e v wd ps = some r := by
  rw [← List.take_append_drop k ps, whereP_append, h]; rfl
theorem results_row_tmps {P : Program} {fn : Func} {p q r : Tmp} {ty : TypeId} (h : fn.results = #[.cell p ty, .tmp q, .tmp r]) (tmps : Array Value) (w : World) (g : Nat) (t : TypeId) (cs : Array Value) (fr : Nat × Nat) (d : TypeDesc)
    (hp : tmps.getD p undef = .pointer (some ⟨g, 0, none⟩)) (hg : w.heap[g]? = some (.cells cs t fr))
    (hu : P.underlying ty = some d) (hd : (match d with | .struct _ | .array _ _ => true | _ => false) = true) (hi : (P.info? ty).map (·.size) = some cs.size) :
    (results fn tmps).run P w = .ok (.tuple #[.agg cs, tmps.getD q undef, tmps.getD r undef]) w := by
  have hp' : tmps[p]?.getD undef = .pointer (some ⟨g, 0, none⟩) := by simpa using hp
  simp [results, h, hp', asAddr, run_loadVar_row w g t ty cs fr d hg hu hd hi]
set_option maxRecDepth 100000 in
set_option maxHeartbeats 2000000 in
theorem rfind_any (A : Option Addr) (c : Nat) (l : List SectP) (m h e : Int) (w : World) (hs : Sl w (fun b => b < w.heap.size) A c l) (h63 : l.length ≤ 1073741824) :
    Calls Tryz.prog 46 #[.agg #[.int .i64 m, .int .i64 h, .slice A l.length c], .int .i64 e] w fun x w' => x = .returned (.int .i64 (findP l e)) ∧ Below w.heap.size w w' := by
  obtain ⟨wb, hwb⟩ : ∃ wb, w.alloc (.cells #[.int .i64 m, .int .i64 h, .slice A l.length c] 27) = wb := ⟨_, rfl⟩
  have hba : Below w.heap.size w wb := by rw [← hwb]; exact (Below.refl _ _).alloc (Nat.le_refl _) _
  have hx0 : ABox wb w.heap.size 27 [.int .i64 m, .int .i64 h, .slice A l.length c] := by rw [← hwb]; exact heap_alloc_new w _
  have c2 := hx0.cell 2 rfl
  have HS := Lib.hid (hs.to hba)
  have HB := Lib.hid hba
  have hlc : l.length ≤ c := hs.1
  clear hs hba hx0
  go_enter Tryz.func46, Tryz.ntmps46
  go_upto_region 1 with (fail)
  try rw [hwb]
  clear hwb
  go_wp2_with fail
  go_loopw [5] (fun i wr => ∃ k : Nat, k ≤ l.length ∧ i = .int .i64 k ∧ Hid (∀ i (hi : i < l.length), i < k → l[i].entry ≠ e) ∧ wr = wb) (fun i _ => l.length - (intOf i).toNat)
  case atStart => exact ⟨0, Nat.zero_le _, rfl, Lib.hid (fun i hi h => absurd h (Nat.not_lt_zero _)), rfl⟩
  case round =>
    obtain ⟨k, hk, rfl, HN, rfl⟩ := hrel
    by_cases hlt : k < l.length
    · obtain ⟨b, o, Ag, cg, An, cn, rfl, _, hbl, k0, -, -, -, -, -, -⟩ := sect_at HS.out hlt
      have hkl : (k : Int) < (l.length : Int) := by omega
      have HX : Hid (∃ x, l[k] = x) := Lib.hid ⟨_, rfl⟩
      obtain ⟨x, hx⟩ := HX.out
      have HXE := Lib.hid hx
      rw [hx] at k0
      clear hx HX
      by_cases hq : x.entry = e
      · have HF : Hid (findP l e = (k : Int)) := Lib.hid (findP_hit hlt (by rw [HXE.out]; exact hq) (fun i hi => HN.out i (by omega) hi))
        go_wp2_with fail
        go_ret
        exact ⟨by rw [HF.out]; rfl, HB.out⟩
      · have HN2 : Hid (∀ i (hi : i < l.length), i < k + 1 → l[i].entry ≠ e) := Lib.hid (fun i hi h => by
          by_cases hik : i = k
          · subst hik; rw [HXE.out]; exact hq
          · exact HN.out i hi (by omega))
        go_wp2_with fail
        go_roundw
        case rel => exact ⟨k + 1, by omega, by go_num, HN2, trivial⟩
        case measure => simp [intOf]; omega
    · have HF : Hid (findP l e = -1) := Lib.hid (findP_none fun i hi => HN.out i hi (by omega))
      go_wp2_with fail
      go_ret
      exact ⟨by rw [HF.out]; rfl, HB.out⟩
set_option maxRecDepth 100000 in
set_option maxHeartbeats 8000000 in
theorem rwhere_any {m h : Int} {A : Option Addr} {c : Nat} {l : List SectP} {w : World} (H : BookOk w m h A c l) (entry ver wd : Int) :
    Calls Tryz.prog 19 #[.agg #[.int .i64 m, .int .i64 h, .slice A l.length c], .int .i64 entry, .int .i64 ver, .int .i64 wd] w fun e W' => e = .returned (whereV (whereP entry ver wd (pagesB m h l))) ∧ Below w.heap.size w W' := by
  obtain ⟨wb, hwb⟩ : ∃ wb, (w.alloc (.cells #[.int .i64 m, .int .i64 h, .slice A l.length c] 27)).alloc (.cells #[.int .i64 0, .int .i64 0] 24) = wb := ⟨_, rfl⟩
  have hba : Below w.heap.size w wb := by rw [← hwb]; exact ((Below.refl _ _).alloc (Nat.le_refl _) _).alloc (by simp) _
  have hx0 : ABox wb w.heap.size 27 [.int .i64 m, .int .i64 h, .slice A l.length c] := by rw [← hwb]; exact (Below.heap_alloc _ _ _ (by simp)).trans (heap_alloc_new w _)
  have hx1 : ABox wb (w.heap.size + 1) 24 [.int .i64 0, .int .i64 0] := by rw [← hwb]; exact heap_at (by simp)
  have HP := Lib.hid (rpages_any (H.to hba))
  have hsz : wb.heap.size = w.heap.size + 2 := by rw [← hwb]; simp
  have HZ := Lib.hid hsz
  have HB := Lib.hid hba
  have HX1 := Lib.hid hx1
  have x0 := hx0.cell 0 rfl
  have x1 := hx0.cell 1 rfl
  have x2 := hx0.cell 2 rfl
  have HSM := Lib.hid (pages_smallB m h l)
  clear hba hx0 hx1 hsz H
  go_enter Tryz.func19, Tryz.ntmps19
  go_upto_region 1 with (fail)
  try rw [hwb]
  clear hwb
  go_upto_region 2 with (first
    | (go_at_call 10; refine HP.out.mono ?_; rintro e w1 ⟨v1, rfl, ho1, hb1⟩; have HO1 := Lib.hid ho1; have HB1 := Lib.hid hb1; clear ho1 hb1 x0 x1 x2)
    | fail)
  obtain ⟨ps, hps⟩ : ∃ ps, pagesB m h l = ps := ⟨_, rfl⟩
  rw [hps] at HO1 HSM
  have HPS := Lib.hid hps
  clear hps HP
  obtain ⟨np, hnp⟩ : ∃ np, ps.length = np := ⟨_, rfl⟩
  obtain ⟨Ap, cp, rfl, hsp⟩ := HO1.out.sl
  have hpc : ps.length ≤ cp := hsp.1
  have hpm : cp ≤ 9223372036854775807 := hsp.2.1
  have HS := Lib.hid hsp
  have HNP := Lib.hid hnp
  have HBA : Hid (Below w.heap.size w w1) := Lib.hid (HB.out.trans (HB1.out.mono HB.out.size))
  have HX1' := Lib.hid (HX1.out.to HB1.out)
  rw [hnp] at hpc ⊢
  clear hsp hnp HO1 HB1 HX1 HB
  go_wp2_with fail
  go_loopw [12] (fun i wr => ∃ k : Nat, k ≤ np ∧ i = .int .i64 k ∧ Hid (whereP entry ver wd (ps.take k) = none) ∧ Hid (Below w1.heap.size w1 wr)) (fun i _ => np - (intOf i).toNat)
  case atStart => exact ⟨0, Nat.zero_le _, rfl, Lib.hid rfl, Lib.hid (Below.refl _ _)⟩
  case round =>
    obtain ⟨k, hk, rfl, HW, HBr⟩ := hrel
    by_cases hlt : k < np
    · have hkl : k < ps.length := by rw [HNP.out]; exact hlt
      obtain ⟨b, o, A1, c1, A2, c2, rfl, -, hbb, e0, e1, e2, e3, e4, e5, ha, hb⟩ := pageS_at (HS.out.keep (Kept.all HBr.out) HBr.out.size) hkl
      have hst := where_step (e := entry) (v := ver) (wd := wd) hkl HW.out
      have hsm := HSM.out _ (List.getElem_mem hkl)
      obtain ⟨p, hp⟩ : ∃ p, ps[k] = p := ⟨_, rfl⟩
      rw [hp] at e0 e1 e2 e3 e4 e5 ha hb hst hsm
      have HST := Lib.hid hst
      have HA := Lib.hid (ha.mono (fun i _ hl => hl) : Sl wr (fun b => b < wr.heap.size) A1 c1 p.body)
      have HBb := Lib.hid (hb.mono (fun i _ hl => hl) : Sl wr (fun b => b < wr.heap.size) A2 c2 p.notes)
      have HSMp := Lib.hid hsm
      have HE0 := Lib.hid e0
      have HE1 := Lib.hid e1
      have HBBl := Lib.hid hbb
      have hkI : (k : Int) < (np : Int) := by omega
      clear ha hb hst hsm hp hbb
      by_cases he : p.entry = entry
      · by_cases hv : p.ver = ver
        · have HHE : Hid (p.entry = entry ∧ p.ver = ver) := Lib.hid ⟨he, hv⟩
          rw [he] at e2
          rw [hv] at e3
          clear he hv
          go_upto_region 6 with (fail)
          have HLN := Lib.hid (lines28_any p.num p.suf entry ver A1 A2 c1 c2 p.body p.notes wr HA.out HBb.out HSMp.out.1 HSMp.out.2)
          go_upto_region 7 with (first
            | (go_at_call 42; refine HLN.out.mono ?_; rintro e w2 ⟨v2, rfl, ho2, hb2⟩; have HO2 := Lib.hid ho2; have HB2 := Lib.hid hb2; clear ho2 hb2 e0 e1 e2 e3 e4 e5)
            | fail)
          obtain ⟨A3, c3, rfl, hs3⟩ := HO2.out.sl
          have hn63 : (p.body ++ p.notes).length ≤ 2097152 := by rw [List.length_append]; have := HSMp.out.1; have := HSMp.out.2; omega
          obtain ⟨ls, hls⟩ : ∃ ls, p.body ++ p.notes = ls := ⟨_, rfl⟩
          have HLS := Lib.hid hls
          rw [hls] at hs3 hn63 ⊢
          obtain ⟨nl, hnl⟩ : ∃ nl, ls.length = nl := ⟨_, rfl⟩
          have hl3 : nl ≤ c3 := by rw [← hnl]; exact hs3.1
          rw [hnl] at hn63 ⊢
          have HNL := Lib.hid hnl
          have HS3 := Lib.hid hs3
          have HBr2 : Hid (Below w1.heap.size w1 w2) := Lib.hid (HBr.out.trans (HB2.out.mono HBr.out.size))
          have p0 := (HB2.out.cell (p := ⟨b, o + k * 6, none⟩) HBBl.out).trans HE0.out
          have p1 := (HB2.out.cell (p := ⟨b, o + k * 6 + 1, none⟩) HBBl.out).trans HE1.out
          have HX12 := Lib.hid (HX1'.out.to HBr2.out)
          clear hls hs3 hnl HO2 HB2 HLN
          go_wp2_with fail
          go_loopw [14] (fun j wx => ∃ q : Nat, q ≤ nl ∧ j = .int .i64 q ∧ Hid (∀ j (hj : j < ls.length), j < q → ¬ (ls[j].fr ≤ wd ∧ wd < ls[j].un)) ∧ wx = w2) (fun j _ => nl - (intOf j).toNat)
          case atStart => exact ⟨0, Nat.zero_le _, rfl, Lib.hid (fun j _ h => absurd h (Nat.not_lt_zero _)), rfl⟩
          case round =>
            obtain ⟨q, hq, rfl, HNO, rfl⟩ := hrel
            by_cases hlq : q < nl
            · have hql : q < ls.length := by rw [HNL.out]; exact hlq
              obtain ⟨b3, o3, Ag, cg, An, cn, rfl, -, -, l0, l1, -, -, -, -⟩ := line_at HS3.out hql
              obtain ⟨y, hy⟩ : ∃ y, ls[q] = y := ⟨_, rfl⟩
              rw [hy] at l0 l1
              have HY := Lib.hid hy
              have hqI : (q : Int) < (nl : Int) := by omega
              clear hy
              by_cases hf : y.fr ≤ wd ∧ wd < y.un
              · obtain ⟨hf1, hf2⟩ := hf
                have HFIN : Hid (whereP entry ver wd ps = some (p.num, p.suf, q + 1)) := Lib.hid (where_end (k + 1) (by
                  rw [HST.out, whereP, if_pos HHE.out, HLS.out, lineP_hit hql (by rw [HY.out]; exact ⟨hf1, hf2⟩) HNO.out]))
                have z0 := HX12.out.cell 0 rfl
                have f0 := HX12.out.fz 0
                have z1 := (HX12.out.set 0 (.int .i64 p.num)).cell 1 rfl
                have f1 := (HX12.out.set 0 (.int .i64 p.num)).fz 1
                have HXF := Lib.hid ((HX12.out.set 0 (.int .i64 p.num)).set 1 (.int .i64 p.suf))
                have HBF : Hid (Below w.heap.size w ((wr.setCell ⟨w.heap.size + 1, 0, none⟩ (.int .i64 p.num)).setCell ⟨w.heap.size + 1, 1, none⟩ (.int .i64 p.suf))) := Lib.hid (((HBA.out.trans (HBr2.out.mono HBA.out.size)).setCell (p := ⟨w.heap.size + 1, 0, none⟩) (by simp) _).setCell (p := ⟨w.heap.size + 1, 1, none⟩) (by simp) _)
                go_wp2_with fail
                exact bodyPost_ret (v := .tuple #[.agg #[.int .i64 p.num, .int .i64 p.suf], .int .i64 ((q : Int) + 1), .bool true]) (results_row_tmps Tryz.results19 _ _ (w.heap.size + 1) _ #[.int .i64 p.num, .int .i64 p.suf] (0, 0) _ rfl HXF.out Tryz.underlying24 rfl (by kernel_rfl)) rfl
                  ⟨by rw [HPS.out, HFIN.out]; rfl, HBF.out⟩
              · have HNO2 : Hid (∀ j (hj : j < ls.length), j < q + 1 → ¬ (ls[j].fr ≤ wd ∧ wd < ls[j].un)) := Lib.hid (fun j hj hjk => by
                  rcases Nat.lt_or_ge j q with h | h
                  · exact HNO.out j hj h
                  · obtain rfl : j = q := by omega
                    rw [HY.out]; exact hf)
                by_cases hf1 : y.fr ≤ wd
                · have hf2 : ¬ wd < y.un := fun e => hf ⟨hf1, e⟩
                  clear hf
                  go_wp2_with fail
                  go_roundw
                  case rel => exact ⟨q + 1, by omega, by go_num, HNO2, trivial⟩
                  case measure => simp [intOf]; omega
                · clear hf
                  go_wp2_with fail
                  go_roundw
                  case rel => exact ⟨q + 1, by omega, by go_num, HNO2, trivial⟩
                  case measure => simp [intOf]; omega
            · have HW2 : Hid (whereP entry ver wd (ps.take (k + 1)) = none) := Lib.hid (by
                rw [HST.out, whereP, if_pos HHE.out, HLS.out, lineP_none (fun j hj => HNO.out j hj (by have := HNL.out; omega))]; rfl)
              go_wp2_with fail
              go_roundw
              case rel => exact ⟨k + 1, by omega, by go_num, HW2, HBr2⟩
              case measure => simp [intOf]; omega
        · have HW2 : Hid (whereP entry ver wd (ps.take (k + 1)) = none) := Lib.hid (by
            rw [HST.out, whereP, if_neg (fun e => hv e.2)]; rfl)
          go_wp2_with fail
          go_roundw
          case rel => exact ⟨k + 1, by omega, by go_num, HW2, HBr⟩
          case measure => simp [intOf]; omega
      · have HW2 : Hid (whereP entry ver wd (ps.take (k + 1)) = none) := Lib.hid (by
          rw [HST.out, whereP, if_neg (fun e => he e.1)]; rfl)
        go_wp2_with fail
        go_roundw
        case rel => exact ⟨k + 1, by omega, by go_num, HW2, HBr⟩
        case measure => simp [intOf]; omega
    · obtain rfl : k = np := by omega
      have HFIN : Hid (whereP entry ver wd ps = none) := Lib.hid (by
        have h1 := HW.out
        rwa [← HNP.out, List.take_length] at h1)
      have HX12 := Lib.hid (HX1'.out.to HBr.out)
      have z0 := HX12.out.cell 0 rfl
      have f0 := HX12.out.fz 0
      have z1 := (HX12.out.set 0 (.int .i64 0)).cell 1 rfl
      have f1 := (HX12.out.set 0 (.int .i64 0)).fz 1
      have HXF := Lib.hid ((HX12.out.set 0 (.int .i64 0)).set 1 (.int .i64 0))
      have HBF : Hid (Below w.heap.size w ((wr.setCell ⟨w.heap.size + 1, 0, none⟩ (.int .i64 0)).setCell ⟨w.heap.size + 1, 1, none⟩ (.int .i64 0))) := Lib.hid (((HBA.out.trans (HBr.out.mono HBA.out.size)).setCell (p := ⟨w.heap.size + 1, 0, none⟩) (by simp) _).setCell (p := ⟨w.heap.size + 1, 1, none⟩) (by simp) _)
      have hkI : ¬ (k : Int) < (k : Int) := by omega
      go_wp2_with fail
      exact bodyPost_ret (v := .tuple #[.agg #[.int .i64 0, .int .i64 0], .int .i64 0, .bool false]) (results_row_tmps Tryz.results19 _ _ (w.heap.size + 1) _ #[.int .i64 0, .int .i64 0] (0, 0) _ rfl HXF.out Tryz.underlying24 rfl (by kernel_rfl)) rfl
        ⟨by rw [HPS.out, HFIN.out]; rfl, HBF.out⟩
end Go.Proofs.YtakaielemicpkaaGreatDoor
namespace Go.Proofs.YtakaielemicpkaaGreatDoor
open Go.RowKit
def hasT (l : List SectP) (e v : Int) : Option TextP := (l[l.findIdx (fun s => decide (s.entry = e))]?).bind fun s => s.texts[s.vers.findIdx (fun x => decide (x = v))]?
theorem hasT_none1 {l : List SectP} {e v : Int} (h : findP l e = -1) : hasT l e v = none := by
  unfold findP at h
  unfold hasT
  split at h
  · omega
  · rename_i h1
    rw [List.getElem?_eq_none (by omega)]; rfl
theorem findP_idx {l : List SectP} {e : Int} {k : Nat} (h : findP l e = (k : Int)) : l.findIdx (fun s => decide (s.entry = e)) = k := by
  unfold findP at h
  split at h <;> omega
theorem hasT_none2 {l : List SectP} {e v : Int} {k : Nat} {x : SectP} (h : findP l e = (k : Int)) (hk : k < l.length) (hx : l[k] = x) (ht : x.texts.length ≤ x.vers.length) (hn : idxP x.vers v = -1) : hasT l e v = none := by
  unfold hasT
  rw [findP_idx h, List.getElem?_eq_getElem hk, hx, Option.bind_some, List.getElem?_eq_none]
  unfold idxP at hn
  split at hn <;> omega
theorem hasT_some {l : List SectP} {e v : Int} {k j : Nat} {x : SectP} (h : findP l e = (k : Int)) (hk : k < l.length) (hx : l[k] = x) (hj : j < x.texts.length) (hn : idxP x.vers v = (j : Int)) : hasT l e v = some x.texts[j] := by
  have hj1 : x.vers.findIdx (fun x => decide (x = v)) = j := by
    unfold idxP at hn
    split at hn <;> omega
  unfold hasT
  rw [findP_idx h, List.getElem?_eq_getElem hk, hx, Option.bind_some, hj1, List.getElem?_eq_getElem hj]
def TxtP (o : Option TextP) (e : Ending) (W' : World) : Prop := ∃ Aa ca Ab cb, e = .returned (.tuple #[.agg #[.slice Aa (o.getD ⟨[], []⟩).a.length ca, .slice Ab (o.getD ⟨[], []⟩).b.length cb], .bool o.isSome]) ∧ Sl W' (fun b => b < W'.heap.size) Aa ca (o.getD ⟨[], []⟩).a ∧ Sl W' (fun b => b < W'.heap.size) Ab cb (o.getD ⟨[], []⟩).b
theorem TxtP.no {o : Option TextP} (W' : World) (h : o = none) : TxtP o (.returned (.tuple #[.agg #[.slice none 0 0, .slice none 0 0], .bool false])) W' := by
  subst h
  exact ⟨none, 0, none, 0, rfl, Sl.nil _ _ _ _ (Nat.zero_le _), Sl.nil _ _ _ _ (Nat.zero_le _)⟩
theorem TxtP.yes {o : Option TextP} {z : TextP} {W' : World} {Aa Ab : Option Addr} {ca cb : Nat} (h : o = some z) (h1 : Sl W' (fun b => b < W'.heap.size) Aa ca z.a) (h2 : Sl W' (fun b => b < W'.heap.size) Ab cb z.b) : TxtP o (.returned (.tuple #[.agg #[.slice Aa z.a.length ca, .slice Ab z.b.length cb], .bool true])) W' := by
  subst h
  exact ⟨Aa, ca, Ab, cb, rfl, h1, h2⟩
theorem abox2 {w : World} {b : Nat} {t : TypeId} {x y : Value} (h : ABox w b t [x, y]) (u v : Value) : ABox ((w.setCell ⟨b, 0, none⟩ u).setCell ⟨b, 1, none⟩ v) b t [u, v] := (h.set 0 u).set 1 v
theorem below2 {n b : Nat} {w w' : World} (h : Below n w w') (hb : n ≤ b) (u v : Value) : Below n w ((w'.setCell ⟨b, 0, none⟩ u).setCell ⟨b, 1, none⟩ v) := (h.setCell (p := ⟨b, 0, none⟩) hb u).setCell (p := ⟨b, 1, none⟩) hb v
set_option maxRecDepth 100000 in
set_option maxHeartbeats 8000000 in
theorem rtextAt_any {m h : Int} {A : Option Addr} {c : Nat} {l : List SectP} {w : World} (hs : Sl w (fun b => b < w.heap.size) A c l) (hsh : ShortS l) (heq : ∀ s ∈ l, s.texts.length = s.vers.length) (entry ver : Int) :
    Calls Tryz.prog 21 #[.agg #[.int .i64 m, .int .i64 h, .slice A l.length c], .int .i64 entry, .int .i64 ver] w fun e W' => TxtP (hasT l entry ver) e W' ∧ Below w.heap.size w W' := by
  obtain ⟨wb, hwb⟩ : ∃ wb, (w.alloc (.cells #[.int .i64 m, .int .i64 h, .slice A l.length c] 27)).alloc (.cells #[.slice none 0 0, .slice none 0 0] 50) = wb := ⟨_, rfl⟩
  have hba : Below w.heap.size w wb := by rw [← hwb]; exact ((Below.refl _ _).alloc (Nat.le_refl _) _).alloc (by simp) _
  have hx0 : ABox wb w.heap.size 27 [.int .i64 m, .int .i64 h, .slice A l.length c] := by rw [← hwb]; exact (Below.heap_alloc _ _ _ (by simp)).trans (heap_alloc_new w _)
  have hx1 : ABox wb (w.heap.size + 1) 50 [.slice none 0 0, .slice none 0 0] := by rw [← hwb]; exact heap_at (by simp)
  have HF := Lib.hid (rfind_any A c l m h entry wb (hs.to hba) (by have := hsh.1; omega))
  have hsz : wb.heap.size = w.heap.size + 2 := by rw [← hwb]; simp
  have HZ := Lib.hid hsz
  have HB := Lib.hid hba
  have HX0 := Lib.hid hx0
  have HX1 := Lib.hid hx1
  have HS := Lib.hid hs
  have HQ := Lib.hid heq
  have HSH := Lib.hid hsh
  have hlc : l.length ≤ c := hs.1
  have x0 := hx0.cell 0 rfl
  have x1 := hx0.cell 1 rfl
  have x2 := hx0.cell 2 rfl
  clear hba hx0 hx1 hsz hs heq hsh
  go_enter Tryz.func21, Tryz.ntmps21
  go_upto_region 1 with (fail)
  try rw [hwb]
  clear hwb
  go_upto_region 2 with (first
    | (go_at_call 46; refine HF.out.mono ?_; rintro e w1 ⟨rfl, hb1⟩; have HB1 := Lib.hid hb1; clear hb1 x0 x1 x2)
    | fail)
  have HX1w := Lib.hid (HX1.out.to HB1.out)
  have HX0w := Lib.hid (HX0.out.to HB1.out)
  have HBA : Hid (Below w.heap.size w w1) := Lib.hid (HB.out.trans (HB1.out.mono HB.out.size))
  have HZ1 : Hid (w.heap.size + 2 ≤ w1.heap.size) := Lib.hid (by have := HB1.out.size; have := HZ.out; omega)
  clear HF HB1 HX1 HX0 HB
  rcases findP_cases l entry with hf | ⟨k, hk, hf, hfe⟩
  · have HN := Lib.hid (hasT_none1 (v := ver) hf)
    rw [hf]
    have z0 := HX1w.out.cell 0 rfl
    have f0 := HX1w.out.fz 0
    have z1 := (HX1w.out.set 0 (.slice none 0 0)).cell 1 rfl
    have f1 := (HX1w.out.set 0 (.slice none 0 0)).fz 1
    clear hf
    go_wp2_with fail
    exact bodyPost_ret (v := .tuple #[.agg #[.slice none 0 0, .slice none 0 0], .bool false]) (results_row_tmp Tryz.results21 _ _ (w.heap.size + 1) _ #[.slice none 0 0, .slice none 0 0] (0, 0) _ rfl (abox2 HX1w.out _ _) Tryz.underlying50 rfl (by kernel_rfl)) rfl
      ⟨TxtP.no _ HN.out, below2 HBA.out (by omega) _ _⟩
  · obtain ⟨b, o, Ag, cg, An, cn, rfl, -, hbl, e0, e1, e2, e3, hg1, hn1, -⟩ := sect_at HS.out hk
    have hqe := HQ.out _ (List.getElem_mem hk)
    have hshx := HSH.out.2 _ (List.getElem_mem hk)
    obtain ⟨x, hx⟩ : ∃ x, l[k] = x := ⟨_, rfl⟩
    rw [hx] at e0 e1 e2 e3 hg1 hn1 hqe hshx
    have HNO : Hid (idxP x.vers ver = -1 → hasT l entry ver = none) := Lib.hid (fun h1 => hasT_none2 hf hk hx (by omega) h1)
    have HYES : Hid (∀ j (hj : j < x.texts.length), idxP x.vers ver = (j : Int) → hasT l entry ver = some x.texts[j]) := Lib.hid (fun j hj h1 => hasT_some hf hk hx hj h1)
    have k0 := (HBA.out.cell (p := ⟨b, o + k * 4, none⟩) hbl).trans e0
    have k1 := (HBA.out.cell (p := ⟨b, o + k * 4 + 1, none⟩) hbl).trans e1
    have k2 := (HBA.out.cell (p := ⟨b, o + k * 4 + 2, none⟩) hbl).trans e2
    have k3 := (HBA.out.cell (p := ⟨b, o + k * 4 + 3, none⟩) hbl).trans e3
    have x2 := HX0w.out.cell 2 rfl
    have HG1 := Lib.hid hg1
    have HN1 := Lib.hid hn1
    have HV : Hid (x.texts.length = x.vers.length ∧ x.vers.length ≤ 1048576) := Lib.hid ⟨hqe, hshx.1⟩
    obtain ⟨nv, hnv⟩ : ∃ nv, x.vers.length = nv := ⟨_, rfl⟩
    obtain ⟨nt, hnt⟩ : ∃ nt, x.texts.length = nt := ⟨_, rfl⟩
    have HNV := Lib.hid hnv
    have HNT := Lib.hid hnt
    have hgc : nv ≤ cg := by rw [← hnv]; exact hg1.1
    have hnc : nt ≤ cn := by rw [← hnt]; exact hn1.1
    have hn9 : nv ≤ 1048576 := by rw [← hnv]; exact hshx.1
    have HTV : Hid (nt = nv) := Lib.hid (by rw [← hnv, ← hnt]; exact hqe)
    rw [hnv] at k2
    rw [hnt] at k3
    rw [hf]
    have hkI : ¬ (k : Int) < 0 := by omega
    have hkL : (k : Int) < (l.length : Int) := by omega
    clear hf hfe e0 e1 e2 e3 hg1 hn1 hqe hshx hx hnv hnt
    obtain ⟨O, hO⟩ : ∃ O, w1.heap.size = O := ⟨_, rfl⟩
    obtain ⟨ws, hws⟩ : ∃ ws, w1.alloc (.cells #[.int .i64 x.entry, .bool x.frozen, .slice Ag nv cg, .slice An nt cn] 45) = ws := ⟨_, rfl⟩
    have hbs : Below w1.heap.size w1 ws := by rw [← hws]; exact (Below.refl _ _).alloc (Nat.le_refl _) _
    have hxs : ABox ws O 45 [.int .i64 x.entry, .bool x.frozen, .slice Ag nv cg, .slice An nt cn] := by rw [← hws, ← hO]; exact heap_alloc_new w1 _
    have HXS := Lib.hid hxs
    have HX1s := Lib.hid (HX1w.out.to hbs)
    have HBs : Hid (Below w.heap.size w ws) := Lib.hid (HBA.out.trans (hbs.mono HBA.out.size))
    go_upto_region 5 with (fail)
    try rw [hO]
    try rw [hws]
    clear hO hws hbs hxs k0 k1 k2 k3 x2
    go_wp2_with fail
    go_loopw [10] (fun i wr => ∃ q : Nat, q ≤ nv ∧ i = .int .i64 q ∧ Hid (∀ i (hi : i < x.vers.length), i < q → x.vers[i] ≠ ver) ∧ wr = ws) (fun i _ => nv - (intOf i).toNat)
    case atStart => exact ⟨0, Nat.zero_le _, rfl, Lib.hid (fun i hi h => absurd h (Nat.not_lt_zero _)), rfl⟩
    case round =>
      obtain ⟨q, hq, rfl, HN, rfl⟩ := hrel
      obtain ⟨ws, rfl⟩ : ∃ ws : World, ws = wr := ⟨_, rfl⟩
      have s2 := HXS.out.cell 2 rfl
      have s3 := HXS.out.cell 3 rfl
      by_cases hlt : q < nv
      · have hql : q < x.vers.length := by rw [HNV.out]; exact hlt
        have hqt : q < x.texts.length := by rw [HNT.out, HTV.out]; exact hlt
        obtain ⟨bv, ov, rfl, -, -, -, ev⟩ := int_at (HG1.out.to HBs.out) hql
        obtain ⟨y, hy⟩ : ∃ y, x.vers[q] = y := ⟨_, rfl⟩
        rw [hy] at ev
        have HY := Lib.hid hy
        have hqI : (q : Int) < (nv : Int) := by omega
        have hqT : (q : Int) < (nt : Int) := by rw [HTV.out]; exact hqI
        clear hy
        by_cases hyv : y = ver
        · have hyes := HYES.out q hqt (idxP_hit hql (by rw [HY.out]; exact hyv) (fun i hi => HN.out i (by omega) hi))
          obtain ⟨bt, ot, Aa, ca, Ab, cb, rfl, -, hbt, t0', t1', ht1, ht2⟩ := text_at HN1.out hqt
          obtain ⟨z, hz⟩ : ∃ z, x.texts[q] = z := ⟨_, rfl⟩
          rw [hz] at t0' t1' ht1 ht2 hyes
          have t0 := (HBs.out.cell (p := ⟨bt, ot + q * 2, none⟩) hbt).trans t0'
          have t1 := (HBs.out.cell (p := ⟨bt, ot + q * 2 + 1, none⟩) hbt).trans t1'
          have HBF := Lib.hid (below2 HBs.out (b := w.heap.size + 1) (by omega) (.slice Aa z.a.length ca) (.slice Ab z.b.length cb))
          have HYE := Lib.hid hyes
          have HT1 := Lib.hid ht1
          have HT2 := Lib.hid ht2
          have z0 := HX1s.out.cell 0 rfl
          have f0 := HX1s.out.fz 0
          have z1 := (HX1s.out.set 0 (.slice Aa z.a.length ca)).cell 1 rfl
          have f1 := (HX1s.out.set 0 (.slice Aa z.a.length ca)).fz 1
          clear hz hyes ht1 ht2 t0' t1' hbt
          go_wp2_with fail
          refine bodyPost_ret (v := .tuple #[.agg #[.slice Aa z.a.length ca, .slice Ab z.b.length cb], .bool true]) (results_row_tmp Tryz.results21 _ _ (w.heap.size + 1) _ #[.slice Aa z.a.length ca, .slice Ab z.b.length cb] (0, 0) _ rfl (abox2 HX1s.out _ _) Tryz.underlying50 rfl (by kernel_rfl)) rfl
            ⟨TxtP.yes HYE.out (HT1.out.to HBF.out) (HT2.out.to HBF.out), HBF.out⟩
        · have HN2 : Hid (∀ i (hi : i < x.vers.length), i < q + 1 → x.vers[i] ≠ ver) := Lib.hid (fun i hi h => by
            by_cases hik : i = q
            · subst hik; rw [HY.out]; exact hyv
            · exact HN.out i hi (by omega))
          go_wp2_with fail
          go_roundw
          case rel => exact ⟨q + 1, by omega, by go_num, HN2, trivial⟩
          case measure => simp [intOf]; omega
      · have HNN : Hid (hasT l entry ver = none) := Lib.hid (HNO.out (idxP_none fun i hi => HN.out i hi (by have := HNV.out; omega)))
        obtain rfl : q = nv := by omega
        have z0 := HX1s.out.cell 0 rfl
        have f0 := HX1s.out.fz 0
        have z1 := (HX1s.out.set 0 (.slice none 0 0)).cell 1 rfl
        have f1 := (HX1s.out.set 0 (.slice none 0 0)).fz 1
        have hqI : ¬ (q : Int) < (q : Int) := by omega
        go_wp2_with fail
        exact bodyPost_ret (v := .tuple #[.agg #[.slice none 0 0, .slice none 0 0], .bool false]) (results_row_tmp Tryz.results21 _ _ (w.heap.size + 1) _ #[.slice none 0 0, .slice none 0 0] (0, 0) _ rfl (abox2 HX1s.out _ _) Tryz.underlying50 rfl (by kernel_rfl)) rfl
          ⟨TxtP.no _ HNN.out, below2 HBs.out (by omega) _ _⟩
end Go.Proofs.YtakaielemicpkaaGreatDoor
namespace Go.Proofs.YtakaielemicpkaaGreatDoor
open Go.RowKit
set_option maxRecDepth 100000 in
set_option maxHeartbeats 8000000 in
theorem textAt_any {m h : Int} {A : Option Addr} {c : Nat} {l : List SectP} {w : World} (hs : Sl w (fun b => b < w.heap.size) A c l) (hsh : ShortS l) (heq : ∀ s ∈ l, s.texts.length = s.vers.length) (entry ver : Int) :
    Calls Tryz.prog 20 #[.agg #[.int .i64 m, .int .i64 h, .slice A l.length c], .int .i64 entry, .int .i64 ver] w fun e W' => TxtP (hasT l entry ver) e W' ∧ Below w.heap.size w W' := by
  obtain ⟨wb, hwb⟩ : ∃ wb, (w.alloc (.cells #[.int .i64 m, .int .i64 h, .slice A l.length c] 27)).alloc (.cells #[.slice none 0 0, .slice none 0 0] 50) = wb := ⟨_, rfl⟩
  have hba : Below w.heap.size w wb := by rw [← hwb]; exact ((Below.refl _ _).alloc (Nat.le_refl _) _).alloc (by simp) _
  have hx0 : ABox wb w.heap.size 27 [.int .i64 m, .int .i64 h, .slice A l.length c] := by rw [← hwb]; exact (Below.heap_alloc _ _ _ (by simp)).trans (heap_alloc_new w _)
  have hx1 : ABox wb (w.heap.size + 1) 50 [.slice none 0 0, .slice none 0 0] := by rw [← hwb]; exact heap_at (by simp)
  have HF := Lib.hid (find_any A c l m h entry wb (hs.to hba) (by have := hsh.1; omega))
  have hsz : wb.heap.size = w.heap.size + 2 := by rw [← hwb]; simp
  have HZ := Lib.hid hsz
  have HB := Lib.hid hba
  have HX0 := Lib.hid hx0
  have HX1 := Lib.hid hx1
  have HS := Lib.hid hs
  have HQ := Lib.hid heq
  have HSH := Lib.hid hsh
  have hlc : l.length ≤ c := hs.1
  have x0 := hx0.cell 0 rfl
  have x1 := hx0.cell 1 rfl
  have x2 := hx0.cell 2 rfl
  clear hba hx0 hx1 hsz hs heq hsh
  go_enter Tryz.func20, Tryz.ntmps20
  go_upto_region 1 with (fail)
  try rw [hwb]
  clear hwb
  go_upto_region 2 with (first
    | (go_at_call 43; refine HF.out.mono ?_; rintro e w1 ⟨rfl, hb1⟩; have HB1 := Lib.hid hb1; clear hb1 x0 x1 x2)
    | fail)
  have HX1w := Lib.hid (HX1.out.to HB1.out)
  have HX0w := Lib.hid (HX0.out.to HB1.out)
  have HBA : Hid (Below w.heap.size w w1) := Lib.hid (HB.out.trans (HB1.out.mono HB.out.size))
  have HZ1 : Hid (w.heap.size + 2 ≤ w1.heap.size) := Lib.hid (by have := HB1.out.size; have := HZ.out; omega)
  clear HF HB1 HX1 HX0 HB
  rcases findP_cases l entry with hf | ⟨k, hk, hf, hfe⟩
  · have HN := Lib.hid (hasT_none1 (v := ver) hf)
    rw [hf]
    have z0 := HX1w.out.cell 0 rfl
    have f0 := HX1w.out.fz 0
    have z1 := (HX1w.out.set 0 (.slice none 0 0)).cell 1 rfl
    have f1 := (HX1w.out.set 0 (.slice none 0 0)).fz 1
    clear hf
    go_wp2_with fail
    exact bodyPost_ret (v := .tuple #[.agg #[.slice none 0 0, .slice none 0 0], .bool false]) (results_row_tmp Tryz.results20 _ _ (w.heap.size + 1) _ #[.slice none 0 0, .slice none 0 0] (0, 0) _ rfl (abox2 HX1w.out _ _) Tryz.underlying50 rfl (by kernel_rfl)) rfl
      ⟨TxtP.no _ HN.out, below2 HBA.out (by omega) _ _⟩
  · obtain ⟨b, o, Ag, cg, An, cn, rfl, -, hbl, e0, e1, e2, e3, hg1, hn1, -⟩ := sect_at HS.out hk
    have hqe := HQ.out _ (List.getElem_mem hk)
    have hshx := HSH.out.2 _ (List.getElem_mem hk)
    obtain ⟨x, hx⟩ : ∃ x, l[k] = x := ⟨_, rfl⟩
    rw [hx] at e0 e1 e2 e3 hg1 hn1 hqe hshx
    have HNO : Hid (idxP x.vers ver = -1 → hasT l entry ver = none) := Lib.hid (fun h1 => hasT_none2 hf hk hx (by omega) h1)
    have HYES : Hid (∀ j (hj : j < x.texts.length), idxP x.vers ver = (j : Int) → hasT l entry ver = some x.texts[j]) := Lib.hid (fun j hj h1 => hasT_some hf hk hx hj h1)
    have k2 := (HBA.out.cell (p := ⟨b, o + k * 4 + 2, none⟩) hbl).trans e2
    have k3 := (HBA.out.cell (p := ⟨b, o + k * 4 + 3, none⟩) hbl).trans e3
    have x2 := HX0w.out.cell 2 rfl
    have HIX := Lib.hid (indexI_any Ag cg x.vers ver w1 (hg1.to HBA.out) (by have := hshx.1; omega))
    have HN1 := Lib.hid hn1
    have HSX := Lib.hid hshx
    have HV : Hid (x.texts.length = x.vers.length ∧ x.vers.length ≤ 1048576) := Lib.hid ⟨hqe, hshx.1⟩
    have hnc : x.texts.length ≤ cn := hn1.1
    rw [hf]
    have hkI : ¬ (k : Int) < 0 := by omega
    have hkL : (k : Int) < (l.length : Int) := by omega
    clear hf hfe e0 e1 e2 e3 hg1 hn1 hqe hshx hx
    go_upto_region 5 with (first
      | (go_at_call 44; refine HIX.out.mono ?_; rintro e w2 ⟨rfl, rfl⟩)
      | fail)
    by_cases hin : ver ∈ x.vers
    · have hj : x.vers.findIdx (fun x => decide (x = ver)) < x.vers.length := List.findIdx_lt_length_of_exists ⟨ver, hin, by simp⟩
      have hix : idxP x.vers ver = (x.vers.findIdx (fun x => decide (x = ver)) : Int) := by unfold idxP; rw [if_pos hj]
      obtain ⟨j, hje⟩ : ∃ j, x.vers.findIdx (fun x => decide (x = ver)) = j := ⟨_, rfl⟩
      rw [hje] at hj hix
      have hqt : j < x.texts.length := by rw [HV.out.1]; exact hj
      have hyes := HYES.out j hqt hix
      rw [hix]
      obtain ⟨bt, ot, Aa, ca, Ab, cb, rfl, -, hbt, t0', t1', ht1, ht2⟩ := text_at HN1.out hqt
      have hsx := HSX.out.2.2 _ (List.getElem_mem hqt)
      obtain ⟨z, hz⟩ : ∃ z, x.texts[j] = z := ⟨_, rfl⟩
      rw [hz] at t0' t1' ht1 ht2 hyes hsx
      have t0 := (HBA.out.cell (p := ⟨bt, ot + j * 2, none⟩) hbt).trans t0'
      have t1 := (HBA.out.cell (p := ⟨bt, ot + j * 2 + 1, none⟩) hbt).trans t1'
      have HYE := Lib.hid hyes
      have HBT := Lib.hid (btext_any Aa Ab ca cb z.a z.b _ (ht1.to HBA.out) (ht2.to HBA.out) hsx.1 hsx.2)
      have hjI : ¬ (j : Int) < 0 := by omega
      have hjT : (j : Int) < (x.texts.length : Int) := by omega
      clear hz hyes ht1 ht2 t0' t1' hbt hix hje hj hin hsx
      go_wp2_with (first
        | (go_at_call 45; refine HBT.out.mono ?_; rintro e w3 ⟨va, vb, rfl, hr, hb3⟩; obtain ⟨Ag1, Ag2, hvv, ⟨A5, c5, e5, hs5, -⟩, ⟨A6, c6, e6, hs6, -⟩⟩ := hr; cases hvv; cases e5; cases e6; have HS5 := Lib.hid hs5; have HS6 := Lib.hid hs6; have HB3 := Lib.hid hb3; clear hs5 hs6 hb3 k2 k3 x2 t0 t1;
            have z0 := (HX1w.out.to HB3.out).cell 0 rfl; have f0 := (HX1w.out.to HB3.out).fz 0; have z1 := ((HX1w.out.to HB3.out).set 0 (.slice A5 z.a.length c5)).cell 1 rfl; have f1 := ((HX1w.out.to HB3.out).set 0 (.slice A5 z.a.length c5)).fz 1)
        | fail)
      have HBF := Lib.hid (below2 (HBA.out.trans (HB3.out.mono HBA.out.size)) (b := w.heap.size + 1) (by omega) (.slice A5 z.a.length c5) (.slice A6 z.b.length c6))
      have hkp : ∀ i, Up w1.heap.size i → ((w3.setCell ⟨w.heap.size + 1, 0, none⟩ (.slice A5 z.a.length c5)).setCell ⟨w.heap.size + 1, 1, none⟩ (.slice A6 z.b.length c6)).heap[i]? = w3.heap[i]? := fun i (hi : w1.heap.size ≤ i) => by
        have := HZ1.out
        exact (heap_set _ _ _ _ (by omega)).trans (heap_set _ _ _ _ (by omega))
      refine bodyPost_ret (v := .tuple #[.agg #[.slice A5 z.a.length c5, .slice A6 z.b.length c6], .bool true]) (results_row_tmp Tryz.results20 _ _ (w.heap.size + 1) _ #[.slice A5 z.a.length c5, .slice A6 z.b.length c6] (0, 0) _ rfl (abox2 (HX1w.out.to HB3.out) _ _) Tryz.underlying50 rfl (by kernel_rfl)) rfl
        ⟨TxtP.yes HYE.out ((HS5.out.keep (fun i hi _ => hkp i hi) (by simp)).mono fun i _ hl => hl) ((HS6.out.keep (fun i hi _ => hkp i hi) (by simp)).mono fun i _ hl => hl), HBF.out⟩
    · have hix : idxP x.vers ver = -1 := idxP_none fun i hi e => hin (by rw [← e]; exact List.getElem_mem hi)
      have HNN : Hid (hasT l entry ver = none) := Lib.hid (HNO.out hix)
      rw [hix]
      have z0 := HX1w.out.cell 0 rfl
      have f0 := HX1w.out.fz 0
      have z1 := (HX1w.out.set 0 (.slice none 0 0)).cell 1 rfl
      have f1 := (HX1w.out.set 0 (.slice none 0 0)).fz 1
      clear hix hin k2 k3 x2
      go_wp2_with fail
      exact bodyPost_ret (v := .tuple #[.agg #[.slice none 0 0, .slice none 0 0], .bool false]) (results_row_tmp Tryz.results20 _ _ (w.heap.size + 1) _ #[.slice none 0 0, .slice none 0 0] (0, 0) _ rfl (abox2 HX1w.out _ _) Tryz.underlying50 rfl (by kernel_rfl)) rfl
        ⟨TxtP.no _ HNN.out, below2 HBA.out (by omega) _ _⟩
end Go.Proofs.YtakaielemicpkaaGreatDoor
namespace Go.Proofs.YtakaielemicpkaaGreatDoor
open Go.RowKit
end Go.Proofs.YtakaielemicpkaaGreatDoor
namespace Go.Proofs.YtakaielemicpkaaGreatDoor
open Go.RowKit
end Go.Proofs.YtakaielemicpkaaGreatDoor
namespace Go.Proofs.YtakaielemicpkaaGreatDoor
open Go.RowKit
structure SB (Wa : World) (X : Nat) (m h : Int) (v : Value) (l : List SectP) (W : World) : Prop where
  b : ABox W X 27 [.int .i64 m, .int .i64 h, v]
  o : OwnP W (X + 1) 45 v l (fun i => i ≠ X)
  bl : Below X Wa W
end Go.Proofs.YtakaielemicpkaaGreatDoor
namespace Go.Proofs.YtakaielemicpkaaGreatDoor
open Go.RowKit
end Go.Proofs.YtakaielemicpkaaGreatDoor
namespace Go.Proofs.YtakaielemicpkaaGreatDoor
open Go.RowKit
end Go.Proofs.YtakaielemicpkaaGreatDoor
namespace Go.Proofs.YtakaielemicpkaaGreatDoor
open Go.RowKit
end Go.Proofs.YtakaielemicpkaaGreatDoor
namespace Go.Proofs.YtakaielemicpkaaGreatDoor
open Go.RowKit
structure ChkS (f k : Nat) (l : List SectP) (s : SectP) : Prop where
  e0 : 0 ≤ s.entry
  e1 : s.entry ≤ 65535
  fd : findP l s.entry = (k : Int)
  fr : s.frozen = decide (k < f)
  n1 : 1 ≤ s.vers.length
  n3 : s.vers.length ≤ 3
  nt : s.texts.length = s.vers.length
  nf : s.frozen = false → s.vers.length = 1
  rg : ∀ v ∈ s.vers, 0 ≤ v ∧ v ≤ 2147483647
  nd : s.vers.Nodup
  g : ∀ t ∈ s.texts, GText t.a t.b
end Go.Proofs.YtakaielemicpkaaGreatDoor
namespace Go.Proofs.YtakaielemicpkaaGreatDoor
open Go.RowKit
end Go.Proofs.YtakaielemicpkaaGreatDoor
namespace Go.Proofs.YtakaielemicpkaaGreatDoor
open Go.RowKit
end Go.Proofs.YtakaielemicpkaaGreatDoor
namespace Go.Proofs.YtakaielemicpkaaGreatDoor
open Go.RowKit
theorem whereV_form (r : Option (Int × Int × Nat)) : ∃ (n s i : Int) (o : Bool), whereV r = .tuple #[.agg #[.int .i64 n, .int .i64 s], .int .i64 i, .bool o] := by
  rcases r with _ | ⟨n, s, i⟩
  · exact ⟨0, 0, 0, false, rfl⟩
  · exact ⟨n, s, i, true, rfl⟩
theorem GBk.eqs {m h : Int} {l : List SectP} (H : GBk m h l) : ∀ s ∈ l, s.texts.length = s.vers.length ∧ 1 ≤ s.vers.length := by
  intro s hs
  obtain ⟨f, hf⟩ := H.s
  obtain ⟨i, hi, rfl⟩ := List.getElem_of_mem hs
  obtain ⟨-, -, j, -, -, hv, ht, -⟩ := hf i hi
  rw [ht, hv, versG_len]
  omega
theorem abox3a {w : World} {b : Nat} {t : TypeId} {x y z : Value} (h : ABox w b t [x, y, z]) (u v s : Value) : ABox (((w.setCell ⟨b, 0, none⟩ u).setCell ⟨b, 1, none⟩ v).setCell ⟨b, 2, none⟩ s) b t [u, v, s] := ((h.set 0 u).set 1 v).set 2 s
set_option maxRecDepth 100000 in
set_option maxHeartbeats 16000000 in
theorem finds_any (A0 : Option Addr) (c0 : Nat) (l0 : List Int) (entry ver wd : Int) (W1 : World) (hs0 : Sl W1 (fun b => b < W1.heap.size) A0 c0 l0) (_ : I64 entry) (hv : I64 ver) (hw : I64 wd) (hT : Tabs W1) :
    Calls Tryz.prog 4 #[.slice A0 l0.length c0, .int .i64 entry, .int .i64 ver, .int .i64 wd] W1 fun e w' => e = .returned (.bool true) ∧ Below W1.heap.size W1 w' := by
  have HT := Lib.hid hT
  have HI0 := Lib.hid hs0
  have HIV := Lib.hid hv
  have HIW := Lib.hid hw
  clear hT hs0 hv hw
  go_enter Tryz.func4, Tryz.ntmps4
  go_upto_region 2 with (first
    | (go_at_call 9; refine (gbook_any A0 c0 l0 W1 HI0.out).mono ?_; rintro e V1 ⟨m, h, Ab1, cb1, ss, rfl, hg, hs, hb⟩; have HG := Lib.hid hg; have HV1 := Lib.hid hb; have hl := LM.fresh (m := m) (h := h) (⟨HT.out.to hb, hs.mono fun i hi _ => hi.2⟩ : SM V1 Ab1 cb1 ss); clear hg hs hb)
    | fail)
  obtain ⟨W2, hW⟩ : ∃ W2, V1.alloc (.cells #[.int .i64 m, .int .i64 h, .slice Ab1 ss.length cb1] 27) = W2 := ⟨_, rfl⟩
  obtain ⟨b1, hbk⟩ : ∃ b1, V1.heap.size = b1 := ⟨_, rfl⟩
  rw [hW] at hl
  rw [hW, hbk]
  have hb : Below W1.heap.size W1 W2 := HV1.out.trans (hl.2.mono HV1.out.size)
  have H1v := Lib.hid hl.1
  rw [hbk] at H1v
  have HB := Lib.hid hb
  clear hl hb hW hbk
  have HZ := Lib.hid HG.out.siz
  have HTM := Lib.hid HG.out.tame
  have HEQ := Lib.hid HG.out.eqs
  have hn5 : ss.length ≤ 5 := HTM.out.n
  have hnc : ss.length ≤ cb1 := H1v.out.sm.s.1
  have H1x : Hid (ABox W2 b1 27 [.int .i64 m, .int .i64 h, .slice Ab1 ss.length cb1]) := Lib.hid H1v.out.bx
  have HSS := Lib.hid H1v.out.sm.s
  go_wp2_with fail
  go_loopw [10] (fun i wr => ∃ k : Nat, k ≤ ss.length + 1 ∧ i = .int .i64 k ∧ Hid (Below W2.heap.size W2 wr)) (fun i _ => ss.length + 1 - (intOf i).toNat)
  case atStart => exact ⟨0, by omega, rfl, Lib.hid (Below.refl _ _)⟩
  case round =>
    obtain ⟨k, hk, rfl, HBr⟩ := hrel
    have y2 := (H1x.out.to HBr.out).cell 2 rfl
    by_cases hlt : k ≤ ss.length
    · have hkI : (k : Int) ≤ (ss.length : Int) := by omega
      obtain ⟨P, hP⟩ : ∃ P, wr.heap.size = P := ⟨_, rfl⟩
      obtain ⟨w5, hw5⟩ : ∃ w5, wr.alloc (.cells #[.int .i64 entry, .int .i64 ver, .int .i64 wd] 42) = w5 := ⟨_, rfl⟩
      have hb5 : Below wr.heap.size wr w5 := by rw [← hw5]; exact (Below.refl _ _).alloc (Nat.le_refl _) _
      have hx5 : ABox w5 P 42 [.int .i64 entry, .int .i64 ver, .int .i64 wd] := by rw [← hw5, ← hP]; exact heap_alloc_new wr _
      have HX5 := Lib.hid hx5
      have HB5 : Hid (Below W2.heap.size W2 w5) := Lib.hid (HBr.out.trans (hb5.mono HBr.out.size))
      have HPL : Hid (W2.heap.size ≤ P ∧ P < w5.heap.size) := Lib.hid ⟨by rw [← hP]; exact HBr.out.size, hx5.lt⟩
      go_upto_region 6 with (fail)
      try rw [hP]
      try rw [hw5]
      clear hP hw5 hb5 hx5 y2 HBr
      have y2 := (H1x.out.to HB5.out).cell 2 rfl
      go_upto_if 40 with (fail)
      clear y2
      obtain ⟨w5, rfl⟩ : ∃ w : World, w = w5 := ⟨_, rfl⟩
      go_cut [12] from 40 to 60 (fun _ wx => ∃ a b c : Int, Hid (ABox wx P 42 [.int .i64 a, .int .i64 b, .int .i64 c]) ∧ Hid (Below W2.heap.size W2 wx))
      case first =>
        have y2 := (H1x.out.to HB5.out).cell 2 rfl
        by_cases hkn : k < ss.length
        · obtain ⟨b, o, Ag, cg, An, cn, rfl, -, hbl, e0', e1', e2', e3', hg1, -, -⟩ := sect_at HSS.out hkn
          have hxv := (HTM.out.v _ (List.getElem_mem hkn)).1
          have hx1 := (HEQ.out _ (List.getElem_mem hkn)).2
          obtain ⟨x, hx⟩ : ∃ x, ss[k] = x := ⟨_, rfl⟩
          rw [hx] at e0' e1' e2' e3' hg1 hxv hx1
          have e0 := (HB5.out.cell (p := ⟨b, o + k * 4, none⟩) hbl).trans e0'
          have e1 := (HB5.out.cell (p := ⟨b, o + k * 4 + 1, none⟩) hbl).trans e1'
          have e2 := (HB5.out.cell (p := ⟨b, o + k * 4 + 2, none⟩) hbl).trans e2'
          have e3 := (HB5.out.cell (p := ⟨b, o + k * 4 + 3, none⟩) hbl).trans e3'
          have HG1 := Lib.hid hg1
          obtain ⟨w8, hw8⟩ : ∃ w8, w5.alloc (.cells #[.int .i64 x.entry, .bool x.frozen, .slice Ag x.vers.length cg, .slice An x.texts.length cn] 45) = w8 := ⟨_, rfl⟩
          obtain ⟨O, hO⟩ : ∃ O, w5.heap.size = O := ⟨_, rfl⟩
          have hb8 : Below w5.heap.size w5 w8 := by rw [← hw8]; exact (Below.refl _ _).alloc (Nat.le_refl _) _
          have hx8 : ABox w8 O 45 [.int .i64 x.entry, .bool x.frozen, .slice Ag x.vers.length cg, .slice An x.texts.length cn] := by rw [← hw8, ← hO]; exact heap_alloc_new w5 _
          have HX8 := Lib.hid hx8
          have HB8 : Hid (Below W2.heap.size W2 w8) := Lib.hid (HB5.out.trans (hb8.mono HB5.out.size))
          have HX58 := Lib.hid (HX5.out.to hb8)
          have hkI : (k : Int) < (ss.length : Int) := by omega
          have hkd : decide (k < ss.length) = true := decide_eq_true hkn
          rw [hkd]
          clear hkd
          have hvc : x.vers.length ≤ cg := hg1.1
          obtain ⟨j, hj⟩ : ∃ j, aro ver (x.vers.length : Int) = j := ⟨_, rfl⟩
          have hjb := aro_lt ver (x.vers.length : Int) (by omega)
          rw [hj] at hjb
          obtain ⟨jn, rfl⟩ : ∃ jn : Nat, j = (jn : Int) := ⟨j.toNat, by omega⟩
          have hjn : jn < x.vers.length := by omega
          obtain ⟨bv, ov, hAg, hbv, -, -, ev'⟩ := int_at hg1 hjn
          subst hAg
          have ev := (HB8.out.cell (p := ⟨bv, ov + jn, none⟩) hbv).trans ev'
          obtain ⟨y, hy⟩ : ∃ y, x.vers[jn] = y := ⟨_, rfl⟩
          rw [hy] at ev
          have HEV := Lib.hid ev
          have HBV : Hid (bv < w8.heap.size) := Lib.hid (Nat.lt_of_lt_of_le hbv HB8.out.size)
          have HJ := Lib.hid hj
          have hj0 := hjb.1
          have hj1 := hjb.2
          obtain ⟨a9, ha9⟩ : ∃ a9, aro wd 180 = a9 := ⟨_, rfl⟩
          have ha9b := aro_lt wd 180 (by decide)
          rw [ha9] at ha9b
          have HA9 := Lib.hid ha9
          have ha90 := ha9b.1
          have ha91 := ha9b.2
          have HPO : Hid (P ≠ O) := Lib.hid (by have := HPL.out.2; omega)
          have hv18 : Hid (1 ≤ (x.vers.length : Int) ∧ (x.vers.length : Int) ≤ 9223372036854775807) := Lib.hid ⟨by omega, by omega⟩
          clear hj hjb ha9 ha9b hy ev ev' hg1 hbl hx e0' e1' e2' e3'
          go_upto_region 8 with (fail)
          try rw [hO]
          try rw [hw8]
          clear hO hw8 hb8 hx8 e0 e1 e2 e3 y2
          refine wp_region_rely [8, 12] (fun i => if i = 8 then SP.val (.int .i64 (jn : Int)) else if i = 12 then SP.val (.int .i64 a9) else SP.any) 15 (by kernel_rfl) (by kernel_rfl) ?_
          intro T _ g hg hgm
          have s0 : ∀ d, (g d).cell? ⟨O, 0, none⟩ = some (.int .i64 x.entry) := fun d => (HX8.out.to (hg d)).cell 0 rfl
          have s2 : ∀ d, (g d).cell? ⟨O, 2, none⟩ = some (.slice (some ⟨bv, ov, none⟩) x.vers.length cg) := fun d => (HX8.out.to (hg d)).cell 2 rfl
          have sv : ∀ d, (g d).cell? ⟨bv, ov + jn, none⟩ = some (.int .i64 y) := fun d => ((hg d).cell (p := ⟨bv, ov + jn, none⟩) HBV.out).trans HEV.out
          repeat (refine wpR_pure (by rfl) fun Kq hq => ?_; go_big_quiet_step (fail); refine wpQuiet_nil (hq _ ?_); clear hq Kq)
          refine wpR_busy (by rfl) (by rfl) (fun d hG K Q hK => ?_) (fun v d hG hp Kr hr => ?_)
          · go_simp
            go_at_call 13
            refine (around_any ver (x.vers.length : Int) (g d) HIV.out hv18.out.1 hv18.out.2).mono ?_
            rintro e W1 ⟨rfl, rfl⟩
            go_simp
            exact hK _ _ (Below.refl _ _) ((by show Value.int .i64 (aro ver (x.vers.length : Int)) = _; rw [HJ.out]))
          obtain rfl : v = _ := hp
          (try clear hp); clear hG
          simp only [Act.put, List.setIfInBounds_toArray, List.set_cons_zero, List.set_cons_succ]
          refine hr _ ?_
          clear hr Kr
          repeat (refine wpR_pure (by rfl) fun Kq hq => ?_; go_big_quiet_step (fail); refine wpQuiet_nil (hq _ ?_); clear hq Kq)
          refine wpR_busy (by rfl) (by rfl) (fun d hG K Q hK => ?_) (fun v d hG hp Kr hr => ?_)
          · go_simp
            go_at_call 13
            refine (around_any wd 180 (g d) HIW.out (by decide) (by decide)).mono ?_
            rintro e W1 ⟨rfl, rfl⟩
            go_simp
            exact hK _ _ (Below.refl _ _) ((by show Value.int .i64 (aro wd 180) = _; rw [HA9.out]))
          obtain rfl : v = _ := hp
          (try clear hp); clear hG
          simp only [Act.put, List.setIfInBounds_toArray, List.set_cons_zero, List.set_cons_succ]
          refine hr _ ?_
          clear hr Kr
          repeat (refine wpR_pure (by rfl) fun Kq hq => ?_; go_big_quiet_step (fail); refine wpQuiet_nil (hq _ ?_); clear hq Kq)
          refine wpR_tail 1 (by rfl) (by rfl) (fun d hG => ?_)
          have HBd := Lib.hid (hg d)
          clear s0 s2 sv hG hg hgm
          generalize g d = wx at *
          clear g
          have hx5d := HX58.out.to HBd.out
          have z0 := hx5d.cell 0 rfl
          have f0 := hx5d.fz 0
          have z1 := (hx5d.set 0 (.int .i64 x.entry)).cell 1 rfl
          have f1 := (hx5d.set 0 (.int .i64 x.entry)).fz 1
          have z2 := ((hx5d.set 0 (.int .i64 x.entry)).set 1 (.int .i64 y)).cell 2 rfl
          have f2 := ((hx5d.set 0 (.int .i64 x.entry)).set 1 (.int .i64 y)).fz 2
          have HXF := Lib.hid (abox3a hx5d (.int .i64 x.entry) (.int .i64 y) (.int .i64 (a9 - 1)))
          have HBF := Lib.hid (below3 (HB8.out.trans (HBd.out.mono HB8.out.size)) HPL.out.1 (.int .i64 x.entry) (.int .i64 y) (.int .i64 (a9 - 1)))
          clear hx5d
          refine wpAny_one (i := 15) (oi := _) rfl (by kernel_rfl) (by rfl) (fun K hK => ?_)
          go_simp
          refine hK _ _ ?_
          clear hK K
          try simp only [Act.put, List.setIfInBounds_toArray, List.set_cons_zero, List.set_cons_succ]
          refine wpAny_done (by kernel_rfl) ?_ _
          unfold Exit.then
          go_wp2_with fail
          go_meet
          exact ⟨_, _, _, HXF, HBF⟩
        · have hkI : ¬ (k : Int) < (ss.length : Int) := by omega
          have hkd : decide (k < ss.length) = false := decide_eq_false hkn
          rw [hkd]
          clear hkd
          go_wp2_with fail
          go_meet
          exact ⟨_, _, _, HX5, HB5⟩
      case rest =>
        obtain ⟨a, b, c, HX9, HB9⟩ := hcut
        have HOK : Hid (∀ W, Below W2.heap.size W2 W → BookOk W m h Ab1 cb1 ss) := Lib.hid fun W hW => (H1v.out.sm.to hW).bookT HTM.out HZ.out
        obtain ⟨rn, rs, ri, ro, hWV⟩ := whereV_form (whereP a b c (pagesB m h ss))
        have HWP : Hid (∀ W, Below W2.heap.size W2 W → Calls Tryz.prog 18 #[.agg #[.int .i64 m, .int .i64 h, .slice Ab1 ss.length cb1], .int .i64 a, .int .i64 b, .int .i64 c] W fun e W' => e = .returned (.tuple #[.agg #[.int .i64 rn, .int .i64 rs], .int .i64 ri, .bool ro]) ∧ Below W.heap.size W W') := Lib.hid fun W hW => by
          have := where_any (HOK.out W hW) a b c
          rwa [hWV] at this
        have HWR : Hid (∀ W, Below W2.heap.size W2 W → Calls Tryz.prog 19 #[.agg #[.int .i64 m, .int .i64 h, .slice Ab1 ss.length cb1], .int .i64 a, .int .i64 b, .int .i64 c] W fun e W' => e = .returned (.tuple #[.agg #[.int .i64 rn, .int .i64 rs], .int .i64 ri, .bool ro]) ∧ Below W.heap.size W W') := Lib.hid fun W hW => by
          have := rwhere_any (HOK.out W hW) a b c
          rwa [hWV] at this
        clear hWV
        obtain ⟨t, ht⟩ : ∃ t, hasT ss a b = t := ⟨_, rfl⟩
        have HTS : Hid (∀ z, hasT ss a b = some z → ShortT z.a ∧ ShortT z.b) := Lib.hid (fun z hz => by
          unfold hasT at hz
          obtain ⟨s, hs1, hs2⟩ := Option.bind_eq_some_iff.1 hz
          exact (HTM.out.short.2 s (List.mem_of_getElem? hs1)).2.2 z (List.mem_of_getElem? hs2))
        have HTP : Hid (∀ W, Below W2.heap.size W2 W → Calls Tryz.prog 20 #[.agg #[.int .i64 m, .int .i64 h, .slice Ab1 ss.length cb1], .int .i64 a, .int .i64 b] W fun e W' => TxtP t e W' ∧ Below W.heap.size W W') := Lib.hid fun W hW => by
          have := textAt_any (m := m) (h := h) (HOK.out W hW).s (HOK.out W hW).sh (fun s hs => (HEQ.out s hs).1) a b
          rwa [ht] at this
        have HTR : Hid (∀ W, Below W2.heap.size W2 W → Calls Tryz.prog 21 #[.agg #[.int .i64 m, .int .i64 h, .slice Ab1 ss.length cb1], .int .i64 a, .int .i64 b] W fun e W' => TxtP t e W' ∧ Below W.heap.size W W') := Lib.hid fun W hW => by
          have := rtextAt_any (m := m) (h := h) (HOK.out W hW).s (HOK.out W hW).sh (fun s hs => (HEQ.out s hs).1) a b
          rwa [ht] at this
        rw [ht] at HTS
        clear ht
        have HST : Hid (ShortT (t.getD ⟨[], []⟩).a ∧ ShortT (t.getD ⟨[], []⟩).b) := Lib.hid (by
          cases t with
          | none => exact ⟨⟨by simp, by simp⟩, ⟨by simp, by simp⟩⟩
          | some z => exact HTS.out z rfl)
        unfold TxtP at HTP HTR
        obtain ⟨z, hz⟩ : ∃ z, t.getD ⟨[], []⟩ = z := ⟨_, rfl⟩
        obtain ⟨q, hq⟩ : ∃ q, t.isSome = q := ⟨_, rfl⟩
        rw [hz] at HST HTP HTR
        rw [hq] at HTP HTR
        clear hz hq HTS
        have x0 := (H1x.out.to HB9.out).cell 0 rfl
        have x1 := (H1x.out.to HB9.out).cell 1 rfl
        have x2 := (H1x.out.to HB9.out).cell 2 rfl
        have a0 := HX9.out.cell 0 rfl
        have a1 := HX9.out.cell 1 rfl
        have a2 := HX9.out.cell 2 rfl
        go_upto_region 10 with (first
          | (go_at_call 18; refine (HWP.out _ HB9.out).mono ?_; rintro e V ⟨rfl, hb⟩; have HV := Lib.hid (HB9.out.trans (hb.mono HB9.out.size)); have HV1 := Lib.hid hb; clear hb a0 a1 x0 x1 x2; try clear a2)
          | fail)
        obtain ⟨w9, hw⟩ : ∃ w9, V.alloc (.cells #[.int .i64 rn, .int .i64 rs] 24) = w9 := ⟨_, rfl⟩
        obtain ⟨L9, hL⟩ : ∃ L9, V.heap.size = L9 := ⟨_, rfl⟩
        have hba : Below V.heap.size V w9 := by rw [← hw]; exact (Below.refl _ _).alloc (Nat.le_refl _) _
        have hbx : ABox w9 L9 24 [.int .i64 rn, .int .i64 rs] := by rw [← hw, ← hL]; exact heap_alloc_new V _
        have HL9 := Lib.hid hbx
        have HX10 := Lib.hid ((HX9.out.to HV1.out).to hba)
        have HB10 : Hid (Below W2.heap.size W2 w9) := Lib.hid (HV.out.trans (hba.mono HV.out.size))
        try rw [hL]
        try rw [hw]
        clear hba hbx hL hw HV HV1 HX9 HB9
        have x0 := (H1x.out.to HB10.out).cell 0 rfl
        have x1 := (H1x.out.to HB10.out).cell 1 rfl
        have x2 := (H1x.out.to HB10.out).cell 2 rfl
        have a0 := HX10.out.cell 0 rfl
        have a1 := HX10.out.cell 1 rfl
        have a2 := HX10.out.cell 2 rfl
        go_upto_region 11 with (first
          | (go_at_call 19; refine (HWR.out _ HB10.out).mono ?_; rintro e V ⟨rfl, hb⟩; have HV := Lib.hid (HB10.out.trans (hb.mono HB10.out.size)); have HV1 := Lib.hid hb; clear hb a0 a1 x0 x1 x2; try clear a2)
          | fail)
        obtain ⟨w10, hw⟩ : ∃ w10, V.alloc (.cells #[.int .i64 rn, .int .i64 rs] 24) = w10 := ⟨_, rfl⟩
        obtain ⟨L10, hL⟩ : ∃ L10, V.heap.size = L10 := ⟨_, rfl⟩
        have hba : Below V.heap.size V w10 := by rw [← hw]; exact (Below.refl _ _).alloc (Nat.le_refl _) _
        have hbx : ABox w10 L10 24 [.int .i64 rn, .int .i64 rs] := by rw [← hw, ← hL]; exact heap_alloc_new V _
        have HL10 := Lib.hid hbx
        have HX11 := Lib.hid ((HX10.out.to HV1.out).to hba)
        have HB11 : Hid (Below W2.heap.size W2 w10) := Lib.hid (HV.out.trans (hba.mono HV.out.size))
        have HL9 := Lib.hid ((HL9.out.to HV1.out).to hba)
        try rw [hL]
        try rw [hw]
        clear hba hbx hL hw HV HV1 HX10 HB10
        have x0 := (H1x.out.to HB11.out).cell 0 rfl
        have x1 := (H1x.out.to HB11.out).cell 1 rfl
        have x2 := (H1x.out.to HB11.out).cell 2 rfl
        have a0 := HX11.out.cell 0 rfl
        have a1 := HX11.out.cell 1 rfl
        have a2 := HX11.out.cell 2 rfl
        go_upto_region 12 with (first
          | (go_at_call 20; refine (HTP.out _ HB11.out).mono ?_; rintro e V ⟨⟨Aa, ca, Ab, cb, rfl, h1, h2⟩, hb⟩; have HV := Lib.hid (HB11.out.trans (hb.mono HB11.out.size)); have HV1 := Lib.hid hb; clear hb a0 a1 x0 x1 x2; try clear a2)
          | fail)
        obtain ⟨w11, hw⟩ : ∃ w11, V.alloc (.cells #[.slice Aa z.a.length ca, .slice Ab z.b.length cb] 50) = w11 := ⟨_, rfl⟩
        obtain ⟨L11, hL⟩ : ∃ L11, V.heap.size = L11 := ⟨_, rfl⟩
        have hba : Below V.heap.size V w11 := by rw [← hw]; exact (Below.refl _ _).alloc (Nat.le_refl _) _
        have hbx : ABox w11 L11 50 [.slice Aa z.a.length ca, .slice Ab z.b.length cb] := by rw [← hw, ← hL]; exact heap_alloc_new V _
        have HL11 := Lib.hid hbx
        have HT11 : Hid (TM w11 Aa ca Ab cb z.a z.b) := Lib.hid ⟨h1.to hba, h2.to hba, HST.out.1, HST.out.2⟩
        have HL9 := Lib.hid ((HL9.out.to HV1.out).to hba)
        have HL10 := Lib.hid ((HL10.out.to HV1.out).to hba)
        have HX12 := Lib.hid ((HX11.out.to HV1.out).to hba)
        have HB12 : Hid (Below W2.heap.size W2 w11) := Lib.hid (HV.out.trans (hba.mono HV.out.size))
        try rw [hL]
        try rw [hw]
        clear hba hbx hL hw HV HV1 HX11 HB11 h1 h2
        obtain ⟨Aa11, rfl⟩ : ∃ A, A = Aa := ⟨_, rfl⟩
        obtain ⟨Ab11, rfl⟩ : ∃ A, A = Ab := ⟨_, rfl⟩
        obtain ⟨ca11, rfl⟩ : ∃ A, A = ca := ⟨_, rfl⟩
        obtain ⟨cb11, rfl⟩ : ∃ A, A = cb := ⟨_, rfl⟩
        have x0 := (H1x.out.to HB12.out).cell 0 rfl
        have x1 := (H1x.out.to HB12.out).cell 1 rfl
        have x2 := (H1x.out.to HB12.out).cell 2 rfl
        have a0 := HX12.out.cell 0 rfl
        have a1 := HX12.out.cell 1 rfl
        go_upto_region 13 with (first
          | (go_at_call 21; refine (HTR.out _ HB12.out).mono ?_; rintro e V ⟨⟨Aa, ca, Ab, cb, rfl, h1, h2⟩, hb⟩; have HV := Lib.hid (HB12.out.trans (hb.mono HB12.out.size)); have HV1 := Lib.hid hb; clear hb a0 a1 x0 x1 x2; try clear a2)
          | fail)
        obtain ⟨w12, hw⟩ : ∃ w12, V.alloc (.cells #[.slice Aa z.a.length ca, .slice Ab z.b.length cb] 50) = w12 := ⟨_, rfl⟩
        obtain ⟨L12, hL⟩ : ∃ L12, V.heap.size = L12 := ⟨_, rfl⟩
        have hba : Below V.heap.size V w12 := by rw [← hw]; exact (Below.refl _ _).alloc (Nat.le_refl _) _
        have hbx : ABox w12 L12 50 [.slice Aa z.a.length ca, .slice Ab z.b.length cb] := by rw [← hw, ← hL]; exact heap_alloc_new V _
        have HL12 := Lib.hid hbx
        have HT12 : Hid (TM w12 Aa ca Ab cb z.a z.b) := Lib.hid ⟨h1.to hba, h2.to hba, HST.out.1, HST.out.2⟩
        have HL9 := Lib.hid ((HL9.out.to HV1.out).to hba)
        have HL10 := Lib.hid ((HL10.out.to HV1.out).to hba)
        have HX13 := Lib.hid ((HX12.out.to HV1.out).to hba)
        have HB13 : Hid (Below W2.heap.size W2 w12) := Lib.hid (HV.out.trans (hba.mono HV.out.size))
        have HL11 := Lib.hid ((HL11.out.to HV1.out).to hba)
        have HT11 := Lib.hid ((HT11.out.to HV1.out).to hba)
        try rw [hL]
        try rw [hw]
        clear hba hbx hL hw HV HV1 HX12 HB12 h1 h2
        obtain ⟨Aa12, rfl⟩ : ∃ A, A = Aa := ⟨_, rfl⟩
        obtain ⟨Ab12, rfl⟩ : ∃ A, A = Ab := ⟨_, rfl⟩
        obtain ⟨ca12, rfl⟩ : ∃ A, A = ca := ⟨_, rfl⟩
        obtain ⟨cb12, rfl⟩ : ∃ A, A = cb := ⟨_, rfl⟩
        have l0 := HL9.out.cell 0 rfl
        have l1 := HL9.out.cell 1 rfl
        have m0 := HL10.out.cell 0 rfl
        have m1 := HL10.out.cell 1 rfl
        have t0 := HL11.out.cell 0 rfl
        have t1 := HL11.out.cell 1 rfl
        have u0 := HL12.out.cell 0 rfl
        have u1 := HL12.out.cell 1 rfl
        have HSA := Lib.hid (sameT_any _ _ _ _ _ _ _ _ z.a z.b _ HT11.out HT12.out)
        go_wp2_with (first
          | (go_at_call 22; refine HSA.out.mono ?_; rintro e V ⟨rfl, hb⟩; have HBN := Lib.hid (HB13.out.trans (hb.mono HB13.out.size)); clear hb l0 l1 m0 m1 t0 t1 u0 u1)
          | fail)
        go_roundw
        case rel => exact ⟨k + 1, by omega, by go_num, HBN⟩
        case measure => simp [intOf]; omega
    · have hkI : ¬ (k : Int) ≤ (ss.length : Int) := by omega
      have HL := Lib.hid (lives_any wr (HT.out.to (HB.out.trans (HBr.out.mono HB.out.size))))
      go_wp2_with (first
        | (go_at_call 17; refine HL.out.mono ?_; rintro e w2 ⟨rfl, hb2⟩; have HBE := Lib.hid ((HB.out.trans (HBr.out.mono HB.out.size)).trans (hb2.mono (HB.out.trans (HBr.out.mono HB.out.size)).size)); clear hb2)
        | fail)
      go_ret
      exact ⟨rfl, HBE.out⟩
end Go.Proofs.YtakaielemicpkaaGreatDoor
namespace Go.Proofs.YtakaielemicpkaaGreatDoor
open Go.ChangeShapes Go.WideShapes Go.ChangeAt Go.RowKit Go.Deep
variable {H : Type} {enc : TypeId × Value → H} {P : Program}
end Go.Proofs.YtakaielemicpkaaGreatDoor
namespace Go.Proofs.YtakaielemicpkaaGreatDoor
open Go.ChangeShapes Go.WideShapes Go.ChangeAt Go.RowKit Go.Deep
variable {H : Type} {enc : TypeId × Value → H} {P : Program}
theorem open_ints_sl {t e : TypeId} {W : World} {base : Nat} {v : Value} {d : DataW H} {ps : List MemPlace} (ht : P.underlying t = some (.slice e)) (he : P.underlying e = some (.int .i64)) (hc : P.cellsOf e = 1)
    (hval : Value.okWide P W .any base t v) (h : DataW.Trod enc P W 0 (fun _ => true) true t v d ps) : ∃ A c, ∃ l : List Int, v = .slice A l.length c ∧ Sl W (fun b => b < W.heap.size) A c l := by
  obtain ⟨a, len, cap, rfl⟩ := okWide_slice ht hval
  obtain ⟨fuel, hf⟩ := h
  rcases open_ints ht he hc hf with ⟨hcs, _⟩ | ⟨a', len', cap', zs, hcs, _, hl, hm, hz, _, hcell, hwf⟩
  · simp [Value.cells] at hcs
    obtain ⟨rfl, rfl, rfl⟩ := hcs
    exact ⟨none, 0, [], rfl, Sl.nil _ _ _ _ (by simp [maxLen])⟩
  · simp [Value.cells] at hcs
    obtain ⟨rfl, rfl, rfl⟩ := hcs
    have hz' : zs.length = cap := by simpa using hz
    have hlt : (zs.take len).length = len := by rw [List.length_take]; omega
    refine ⟨some a', cap, zs.take len, by rw [hlt], by rw [hlt]; exact hl, hm, fun h0 => ?_⟩
    obtain ⟨b, o, rfl, hat⟩ := Go.ints_at hcell (by omega)
    refine ⟨b, o, rfl, World.block_lt_of_cell? W _ (hat 0 (by omega)), World.block_lt_of_cell? W _ (hat 0 (by omega)), fun i hi => ?_⟩
    rw [hlt] at hi
    have e : zs.getD i 0 = (zs.take len)[i]'(by omega) := by
      rw [List.getElem_take, List.getD_eq_getElem?_getD, List.getElem?_eq_getElem (by omega)]; rfl
    refine ⟨[.int .i64 (zs.getD i 0)], ⟨by rw [e], ?_⟩, fun j u hu => ?_⟩
    · exact i64_wf (hwf _ (List.mem_of_mem_take (List.getElem_mem (by omega))))
    · have hj : j = 0 := by
        rcases j with _ | j
        · rfl
        · simp at hu
      subst hj
      simp only [List.getElem?_cons_zero, Option.some.injEq] at hu
      subst hu
      have := hat i (by omega)
      show W.cell? ⟨b, o + i * 1 + 0, none⟩ = _
      rw [Nat.mul_one, Nat.add_zero]; exact this
end Go.Proofs.YtakaielemicpkaaGreatDoor
namespace Go.Proofs.YtakaielemicpkaaGreatDoor.rowBookFinds
open Go.ChangeShapes Go.WideShapes Go.ChangeAt Go.RowKit
set_option maxRecDepth 100000 in
theorem contract (H : Type) (enc : TypeId × Value → H) (W : World) (base : Nat) (args : Array Value) (ds gs : List (DataW H)) (before : List MemPlace)
    (hval : ∀ (j : Nat) t v, Tryz.f4.params[j]? = some t → args[j]? = some v → Value.okWide Tryz.prog W .any base t v)
    (hW : DataW.Whole enc Tryz.prog Tryz.f4.params.toList Rows.bookFindsSpec.vars false W args.toList ds gs before) (hL : laidMetH Tryz.prog laidL W) :
    Calls Tryz.prog 4 args W fun e W' => ∃ v, e = .returned v ∧ Rows.bookFindsSpec.post enc Tryz.prog Tryz.f4 false true false false W args v W' := by
  have hW' := hW
  obtain ⟨p, q, hA0, hV, rfl, hfz, hnd⟩ := hW
  have hA : DataW.TrodAll enc Tryz.prog W 0 (fun _ => true) true Tryz.f4.params.toList args.toList ds p := hA0
  rw [Tryz.params4] at hA hval
  obtain ⟨v0, vs0, d0, ds0, p0, q0, hargs, rfl, rfl, h0, r0⟩ := trodAll_cons hA
  obtain ⟨v1, vs1, d1, ds1, p1, q1, rfl, rfl, rfl, h1, r1⟩ := trodAll_cons r0
  obtain ⟨v2, vs2, d2, ds2, p2, q2, rfl, rfl, rfl, h2, r2⟩ := trodAll_cons r1
  obtain ⟨v3, vs3, d3, ds3, p3, q3, rfl, rfl, rfl, h3, r3⟩ := trodAll_cons r2
  obtain ⟨rfl, rfl, rfl⟩ := trodAll_nil r3
  obtain rfl : args = #[v0, v1, v2, v3] := by cases args; simp_all
  obtain ⟨rfl, rfl⟩ := trodVars_none hV
  obtain ⟨A0, c0, l0, rfl, hl0⟩ := open_ints_sl Tryz.underlying22 Tryz.underlying3 cells_int (hval 0 22 v0 rfl rfl) h0
  obtain ⟨n1, rfl, rfl, rfl, wn1⟩ := open_int Tryz.underlying3 (hval 1 3 v1 rfl rfl) h1
  obtain ⟨n2, rfl, rfl, rfl, wn2⟩ := open_int Tryz.underlying3 (hval 2 3 v2 rfl rfl) h2
  obtain ⟨n3, rfl, rfl, rfl, wn3⟩ := open_int Tryz.underlying3 (hval 3 3 v3 rfl rfl) h3
  refine (finds_any A0 c0 l0 n1 n2 n3 W hl0 (i64_wf wn1) (i64_wf wn2) (i64_wf wn3) (tabs_of hL)).mono fun e W' ⟨he, hb⟩ => ?_
  subst he
  exact ⟨_, rfl, row_close laidOut Tryz.underlying4 (by kernel_rfl) (by kernel_rfl) rfl hW' rfl hb⟩

theorem laid_met (os : Os) : laidMet Tryz.prog Rows.bookFindsRow.laid ((laidWorld os).forCall (fun _ _ => 0) ⟨#[], #[.slice none 0 0, .int .i64 0, .int .i64 0, .int .i64 0], []⟩).memory :=
  laidMet_of_run' 8 (by kernel_rfl) (by kernel_rfl)
theorem reads (os : Os) {H : Type} (enc : TypeId × Value → H) : ∃ places, DataW.whole enc Tryz.prog ((laidWorld os).forCall (fun _ _ => 0) ⟨#[], #[.slice none 0 0, .int .i64 0, .int .i64 0, .int .i64 0], []⟩).memory Tryz.f4.params.toList Rows.bookFindsSpec.vars false (#[.slice none 0 0, .int .i64 0, .int .i64 0, .int .i64 0] : Array Value).toList 8 = some ([.nil, .lit (.int .i64 0), .lit (.int .i64 0), .lit (.int .i64 0)], [], places) :=
  ⟨[], by kernel_rfl⟩
set_option maxRecDepth 100000 in
theorem lifted (os : Os) (started : os.Started) (H : Type) (enc : TypeId × Value → H) (F : Stop.Interp) :
    ReturnsInHanded {} Tryz.checked os 4 .any ((OpenSpec.ofChange Rows.bookFindsSpec).preRow enc Tryz.prog Tryz.f4 Rows.bookFindsRow.domain false Rows.bookFindsRow.laid) (((OpenSpec.ofChange Rows.bookFindsSpec).at F).post enc Tryz.prog Tryz.f4 false true false false) := by
  obtain ⟨places, hx⟩ := reads os enc
  refine returnsInHanded_of_row (C := Tryz.checked) (s := (OpenSpec.ofChange Rows.bookFindsSpec)) own started (by kernel_rfl) Tryz.func4
    (witness_row_at (enc := enc) (C := Tryz.checked) false (laidWorld os) #[.slice none 0 0, .int .i64 0, .int .i64 0, .int .i64 0] rfl (by kernel_rfl) (by kernel_rfl) (by kernel_rfl)
      (OpenSpec.preRow_of_cond 8 hx (by kernel_rfl) (fun k hk => by cases hk) (by kernel_rfl) (laid_met os))) ?_
  intro W base args ds gs before hval hW _ _ _ hL _ _
  exact contract H enc W base args ds gs before hval hW hL
theorem said : Rows.BookFindsSaid :=
  OpenClaim.holds_of_cond 4 Tryz.f4 rfl rfl rfl rfl rfl rfl rfl ⟨rfl, rfl, rfl, rfl, rfl⟩ rfl rfl rfl rfl rfl (by kernel_rfl) Tryz.func4 (by kernel_rfl)
    (of_decide_eq_true (by kernel_rfl)) (by unfold Func.isWrapper; first | (rw [if_pos (by decide +kernel)]; kernel_rfl) | (rw [if_neg (by decide +kernel)]; exact ⟨rfl, rfl⟩))
    (fun os started H enc _ F => by rw [OpenClaim.pre_eq_preRow]; exact lifted os started H enc F)
theorem wants : Tryz.f4.params.all (fun t => !Tryz.prog.wantsStandIn t) = true := by kernel_rfl
theorem plain (f : FuncId) (fn : Func) (hf : Tryz.pinned.checked.prog.funcNamed "rollbook/rollbooklaw28.BookFinds" = some f) (hfn : Tryz.pinned.checked.prog.funcs[f]? = some fn) :
    false = Tryz.pinned.checked.prog.looks [] ∧ ∀ (j : Nat) t, fn.params[j]? = some t → Tryz.pinned.checked.prog.wantsStandIn t = false := by
  obtain rfl : f = 4 := Option.some.inj ((show Tryz.prog.funcNamed "rollbook/rollbooklaw28.BookFinds" = some 4 by kernel_rfl).symm.trans hf) |>.symm
  obtain rfl : fn = Tryz.f4 := (Option.some.inj (Tryz.func4.symm.trans hfn)).symm
  refine ⟨by kernel_rfl, fun j t ht => ?_⟩
  have := Array.all_eq_true_iff_forall_mem.1 wants t (Array.mem_of_getElem? ht)
  exact (by simpa using this : Tryz.prog.wantsStandIn t = false)
theorem card : Rows.BookFindsCardSaid :=
  Claim7.holds_tied_plain_at .later [] _ _ _ _ said (fun _ h => by cases h) (by kernel_rfl) (fun _ h => by cases h) bookFinds_row_tie rfl ⟨rfl, rfl⟩ (by kernel_rfl) rfl plain (by kernel_rfl)
#print axioms card
end Go.Proofs.YtakaielemicpkaaGreatDoor.rowBookFinds
