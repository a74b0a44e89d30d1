/- The reference's error of a book is that of package book. No condition but sizes.
book.checkVersions: the error of the versions of a section. No condition but sizes.
book.Check: the error of a book. No condition but sizes.
BookChecks, walked: it answers true. No condition but what the tables hold.
A slice as an argument, read as plain data, whatever its elements are; its length against the bulk of what is read. No condition.
Lists of numbers as arguments, read as plain data. No condition.
What is changed in a book, as an argument, read as three numbers. No condition.
BookChecks: the card holds, for every argument. No condition. -/
import Derived.Test.YtakaielemicpkaaGreatDoorBZd15
import Derived.Deep.Slices
import Derived.Deep.Fields
import Derived.ChangeSame
import Derived.ChangeMaps5
import Derived.OpenShut
namespace Go.Proofs.YtakaielemicpkaaGreatDoor
open Go.RowKit
set_option maxRecDepth 100000 in
set_option maxHeartbeats 8000000 in
theorem rchk_any {m h : Int} {l : List SectP} (A : Option Addr) (c : Nat) (w : World) (hT : Laid w) (hs : Sl w (fun b => b < w.heap.size) A c l) (hsh : ShortS l) (hI : I64 h) (hpn : (∀ s ∈ l, s.vers.length = s.texts.length) → (pagesB m h l).length ≤ 1000000000) :
  Calls Tryz.prog 25 #[.agg #[.int .i64 m, .int .i64 h, .slice A l.length c]] w fun e w' => e = .returned (.int .i64 (chkE m h l)) ∧ Below w.heap.size w w' := by
 obtain ⟨n, hn⟩ : ∃ n, l.length = n := ⟨_, rfl⟩
 obtain ⟨wb, hwb⟩ : ∃ wb, w.alloc (.cells #[.int .i64 m, .int .i64 h, .slice A n c] 27) = wb := ⟨_, rfl⟩
 have hba : Below w.heap.size w wb := by rw [← hwb]; exact (Below.refl _ _).alloc (Nat.le_refl _) _
 have hx0 : ABox wb w.heap.size 27 [.int .i64 m, .int .i64 h, .slice A n c] := by rw [← hwb]; exact heap_alloc_new w _
 have hnc : n ≤ c := by rw [← hn]; exact hs.1
 have hn9 : n ≤ 1048576 := by rw [← hn]; exact hsh.1
 have HS := Lh (hs.to hba)
 have HTB := Lh (hT.to hba)
 have HSH := Lh hsh
 have HI := Lh hI
 have HPN := Lh hpn
 have HN := Lh hn
 have HBA := Lh hba
 have HX0 := Lh hx0
 have HW1 := Lh (rwithin_any m 500 2000 wb)
 have HW2 := Lh (rwithin_any h 4 100 wb)
 rw [hn]
 clear hs hT hn hba hx0 hsh hpn hI
 go_enter Tryz.func25, Tryz.ntmps25
 go_upto_region 1 with (fail)
 try rw [hwb]
 clear hwb
 have x0 := HX0.out.cell 0 rfl
 have x1 := HX0.out.cell 1 rfl
 have x2 := HX0.out.cell 2 rfl
 obtain ⟨cm, hcm⟩ : ∃ cm, (!(decide (500 ≤ m ∧ m ≤ 2000) && decide (4 ≤ h ∧ h ≤ 100))) = cm := ⟨_, rfl⟩
 have HCM := Lh hcm
 clear hcm
 go_cut [14] from 5 to 14 (fun v wx => v = .bool cm ∧ wx = wb)
 case first =>
  by_cases hm : 500 ≤ m ∧ m ≤ 2000
  ·rw [decide_eq_true hm] at HW1 HCM
   by_cases hh : 4 ≤ h ∧ h ≤ 100
   ·rw [decide_eq_true hh] at HW2 HCM
    clear hm hh
    go_wp2_with (first
     |(go_at_call 50; refine HW1.out.mono ?_; rintro e w1 ⟨rfl, rfl⟩; clear HW1)
     |(go_at_call 50; refine HW2.out.mono ?_; rintro e w1 ⟨rfl, rfl⟩)
     | fail)
    go_meet
    exact ⟨by rw [← HCM.out]; rfl, by first | rfl | trivial⟩
   ·rw [decide_eq_false hh] at HW2 HCM
    clear hm hh
    go_wp2_with (first
     |(go_at_call 50; refine HW1.out.mono ?_; rintro e w1 ⟨rfl, rfl⟩; clear HW1)
     |(go_at_call 50; refine HW2.out.mono ?_; rintro e w1 ⟨rfl, rfl⟩)
     | fail)
    go_meet
    exact ⟨by rw [← HCM.out]; rfl, by first | rfl | trivial⟩
  ·rw [decide_eq_false hm] at HW1 HCM
   clear hm
   go_wp2_with (first
    |(go_at_call 50; refine HW1.out.mono ?_; rintro e w1 ⟨rfl, rfl⟩; clear HW1)
    | fail)
   go_meet
   exact ⟨by rw [← HCM.out]; rfl, by first | rfl | trivial⟩
 case rest =>
 obtain ⟨rfl, rfl⟩ := hcut
 by_cases hm : 500 ≤ m ∧ m ≤ 2000
 case neg =>
  have HE : Hid (chkE m h l = 5) := Lh (by unfold chkE; rw [if_pos hm])
  obtain rfl : cm = true := by rw [← HCM.out, decide_eq_false hm]; rfl
  clear hm HCM
  go_wp2_with fail
  go_ret
  exact ⟨by rw [HE.out]; rfl, HBA.out⟩
 have HM := Lh hm
 by_cases hh : 4 ≤ h ∧ h ≤ 100
 case neg =>
  have HE : Hid (chkE m h l = 5) := Lh (by unfold chkE; rw [if_neg (not_not_intro HM.out), if_pos hh])
  obtain rfl : cm = true := by rw [← HCM.out, decide_eq_true hm, decide_eq_false hh]; rfl
  clear hm hh HCM
  go_wp2_with fail
  go_ret
  exact ⟨by rw [HE.out]; rfl, HBA.out⟩
 have HHH := Lh hh
 obtain rfl : cm = false := by rw [← HCM.out, decide_eq_true hm, decide_eq_true hh]; rfl
 clear hm hh HCM
 go_wp2_with fail
 clear x0 x1 x2
 obtain ⟨wB, rfl⟩ : ∃ wB : World, wB = wc := ⟨_, rfl⟩
 go_loopw [3] (fun i wr => ∃ k : Nat, k ≤ n ∧ i = .int .i64 k ∧ Hid (UptoS m h l k) ∧ Hid (Below wB.heap.size wB wr)) (fun i _ => n - (intOf i).toNat)
 case atStart => exact ⟨0, by omega, rfl, Lh (fun j _ hj => absurd hj (Nat.not_lt_zero _)), Lh (Below.refl _ _)⟩
 case round =>
  obtain ⟨k, hk, rfl, HU, HBL⟩ := hrel
  have HBE := Lh (HBA.out.trans (HBL.out.mono HBA.out.size))
  have x0 := (HX0.out.to HBL.out).cell 0 rfl
  have x1 := (HX0.out.to HBL.out).cell 1 rfl
  have x2 := (HX0.out.to HBL.out).cell 2 rfl
  by_cases hlt : k < n
  ·have hkl : k < l.length := by rw [HN.out]; exact hlt
   have HH : Hid (secX m h l k l[k] ≠ 0 → chkE m h l = secX m h l k l[k]) := Lh (fun h0 => HU.out.hit hkl h0 HM.out HHH.out)
   have HNx : Hid (secX m h l k l[k] = 0 → UptoS m h l (k + 1)) := Lh (fun h0 => HU.out.next hkl h0)
   have hsec := rsec_any (m := m) (h := h) A c k wr (HS.out.to HBL.out) HSH.out hkl
   obtain ⟨E, hE⟩ : ∃ E, secX m h l k l[k] = E := ⟨_, rfl⟩
   rw [hE] at HH HNx hsec
   rw [HN.out] at hsec
   have HSE := Lh hsec
   have hkI : (k : Int) < (n : Int) := by omega
   clear hE hsec hkl HU
   by_cases hE0 : E = 0
   ·subst hE0
    have HU2 := Lh (HNx.out rfl)
    clear HH HNx
    go_wp2_with (first
     |(go_at_call 51; refine HSE.out.mono ?_; rintro e w4 ⟨rfl, hb4⟩; have HB4 := Lh (HBL.out.trans (hb4.mono HBL.out.size)); clear hb4)
     | fail)
    go_roundw
    case rel => exact ⟨k + 1, by omega, by go_num, HU2, HB4⟩
    case measure => simp [intOf]; omega
   ·have HE : Hid (chkE m h l = E) := Lh (HH.out hE0)
    have hEb : (E != 0) = true := by simpa using hE0
    clear HH HNx hE0
    go_wp2_with (first
     |(go_at_call 51; refine HSE.out.mono ?_; rintro e w4 ⟨rfl, hb4⟩; have HB4 := Lh (HBE.out.trans (hb4.mono HBE.out.size)); clear hb4)
     | fail)
    go_ret
    exact ⟨by rw [HE.out]; rfl, HB4.out⟩
  ·obtain rfl : k = n := by omega
   have HUA : Hid (UptoS m h l l.length) := Lh (by rw [HN.out]; exact HU.out)
   have HEQ : Hid (∀ s ∈ l, s.vers.length = s.texts.length) := Lh (fun s hs => by
    obtain ⟨i, hi, rfl⟩ := List.getElem_of_mem hs
    exact (secX_ok (HUA.out i hi hi)).nt)
   have hpl := HPN.out HEQ.out
   have hp := rpages_any (⟨HTB.out.to HBL.out, HS.out.to HBL.out, HSH.out, fun s hs => by rw [HEQ.out s hs]; exact Nat.le_refl _, HI.out, hpl⟩ : BookOk wr m h A c l)
   rw [HN.out] at hp
   have HP := Lh hp
   have HPL := Lh hpl
   clear hp hpl
   go_upto_region 9 with (fail)
   have HCE := Lh (HUA.out.all HM.out HHH.out)
   obtain ⟨P, hP⟩ : ∃ P, (pagesB m h l).length = P := ⟨_, rfl⟩
   rw [hP] at HCE HPL
   have hP9 : P ≤ 1000000000 := HPL.out
   have HPE := Lh hP
   clear hP
   by_cases h16 : 16384 < P
   ·have HE : Hid (chkE m h l = 2) := Lh (by rw [HCE.out, if_pos h16])
    have hPI : (16384 : Int) < (P : Int) := by omega
    clear h16
    go_wp2_with (first
     |(go_at_call 10; refine HP.out.mono ?_; rintro e w4 ⟨v, rfl, ho, hb4⟩; obtain ⟨Ap, cp, rfl, -⟩ := ho.len; rw [HPE.out]; have HB4 := Lh (HBE.out.trans (hb4.mono HBE.out.size)); clear hb4 ho)
     | fail)
    go_ret
    exact ⟨by rw [HE.out]; rfl, HB4.out⟩
   ·have HE : Hid (chkE m h l = 0) := Lh (by rw [HCE.out, if_neg h16])
    have hPI : ¬ (16384 : Int) < (P : Int) := by omega
    clear h16
    go_wp2_with (first
     |(go_at_call 10; refine HP.out.mono ?_; rintro e w4 ⟨v, rfl, ho, hb4⟩; obtain ⟨Ap, cp, rfl, -⟩ := ho.len; rw [HPE.out]; have HB4 := Lh (HBE.out.trans (hb4.mono HBE.out.size)); clear hb4 ho)
     | fail)
    go_ret
    exact ⟨by rw [HE.out]; rfl, HB4.out⟩
end Go.Proofs.YtakaielemicpkaaGreatDoor
namespace Go.Proofs.YtakaielemicpkaaGreatDoor
open Go.RowKit
set_option maxRecDepth 100000 in
set_option maxHeartbeats 4000000 in
theorem versE_any {m h : Int} (hI : I64 h) (A : Option Addr) (n c : Nat) (s : SectP) (Ag An : Option Addr) (cg cn nv : Nat) (w : World) (hT : Laid w) (hv : Sl w (fun b => b < w.heap.size) Ag cg s.vers) (ht : Sl w (fun b => b < w.heap.size) An cn s.texts) (hnv : s.vers.length = nv) (hnt : s.texts.length = nv) (hsh : ShortX s) :
  Calls Tryz.prog 49 #[.agg #[.int .i64 m, .int .i64 h, .slice A n c], .agg #[.int .i64 s.entry, .bool s.frozen, .slice Ag nv cg, .slice An nv cn]] w fun e w' => e = .returned (.int .i64 (versE m h s)) ∧ Below w.heap.size w w' := by
 obtain ⟨wb, hwb⟩ : ∃ wb, (w.alloc (.cells #[.int .i64 m, .int .i64 h, .slice A n c] 27)).alloc (.cells #[.int .i64 s.entry, .bool s.frozen, .slice Ag nv cg, .slice An nv cn] 45) = wb := ⟨_, rfl⟩
 have hba : Below w.heap.size w wb := by rw [← hwb]; exact ((Below.refl _ _).alloc (Nat.le_refl _) _).alloc (by simp) _
 have hx0 : ABox wb w.heap.size 27 [.int .i64 m, .int .i64 h, .slice A n c] := by rw [← hwb]; exact (Below.heap_alloc _ _ _ (by simp)).trans (heap_alloc_new w _)
 have hx1 : ABox wb (w.heap.size + 1) 45 [.int .i64 s.entry, .bool s.frozen, .slice Ag nv cg, .slice An nv cn] := by rw [← hwb]; exact heap_at (by simp)
 have hgc : nv ≤ cg := by rw [← hnv]; exact hv.1
 have hnc : nv ≤ cn := by rw [← hnt]; exact ht.1
 have hn9 : nv ≤ 1048576 := by rw [← hnv]; exact hsh.1
 have HV := Lh (hv.to hba)
 have HX := Lh (ht.to hba)
 have HTB := Lh (hT.to hba)
 have HNV := Lh hnv
 have HNX := Lh hnt
 have HSH := Lh hsh
 have HI := Lh hI
 have HBA := Lh hba
 have HX0 := Lh hx0
 have HX1 := Lh hx1
 clear hv ht hT hnv hnt hsh hI hba hx0 hx1
 go_enter Tryz.func49, Tryz.ntmps49
 go_upto_region 1 with (fail)
 try rw [hwb]
 clear hwb
 have y2 := HX1.out.cell 2 rfl
 go_wp2_with fail
 clear y2
 go_loopw [11] (fun i wr => ∃ q : Nat, q ≤ nv ∧ i = .int .i64 q ∧ Hid (UptoV m h s q) ∧ Below wb.heap.size wb wr) (fun i _ => nv - (intOf i).toNat)
 case atStart => exact ⟨0, by omega, rfl, Lh (fun j _ _ hj => absurd hj (Nat.not_lt_zero _)), Below.refl _ _⟩
 case round =>
  obtain ⟨q, hq, rfl, HU, hbl⟩ := hrel
  by_cases hlt : q < nv
  ·have hqv : q < s.vers.length := by rw [HNV.out]; exact hlt
   have hqt : q < s.texts.length := by rw [HNX.out]; exact hlt
   obtain ⟨bt, ot, Aa, ca, Ab, cb, rfl, -, hbt, e0, e1, ht1, ht2⟩ := text_at (HX.out.to hbl) hqt
   obtain ⟨bv, ov, rfl, -, hbv, -, e9⟩ := int_at (HV.out.to hbl) hqv
   have hst := HSH.out.2.2 _ (List.getElem_mem hqt)
   have hct := containsI_any (some ⟨bv, ov, none⟩) cg (s.vers.take q) s.vers[q] wr ((HV.out.to hbl).take q (by omega)) (by rw [List.length_take]; omega)
   rw [List.length_take_of_le (by omega)] at hct
   have HH : Hid (verX m h s.vers q s.vers[q] s.texts[q] ≠ 0 → versE m h s = verX m h s.vers q s.vers[q] s.texts[q]) := Lh (fun h0 => HU.out.hit (by rw [HNV.out, HNX.out]) hqv hqt h0)
   have HNx : Hid (verX m h s.vers q s.vers[q] s.texts[q] = 0 → UptoV m h s (q + 1)) := Lh (fun h0 => HU.out.next hqv hqt h0)
   obtain ⟨y, hy⟩ : ∃ y, s.texts[q] = y := ⟨_, rfl⟩
   obtain ⟨vq, hvq⟩ : ∃ vq, s.vers[q] = vq := ⟨_, rfl⟩
   rw [hvq] at e9 hct HH HNx
   rw [hy] at e0 e1 ht1 ht2 hst HH HNx
   have hwi := within_any vq 0 2147483647 wr
   have HST := Lh hst
   have HT1 := Lh ht1
   have HT2 := Lh ht2
   have HBL := Lh hbl
   have HBE := Lh (HBA.out.trans (hbl.mono HBA.out.size))
   have y2 := (HX1.out.to HBL.out).cell 2 rfl
   have hqI : (q : Int) < (nv : Int) := by omega
   have hqc : q ≤ cg := by omega
   clear hy hvq hst ht1 ht2 hbl hqv hqt HU
   by_cases hrv : 0 ≤ vq ∧ vq ≤ 2147483647
   ·rw [decide_eq_true hrv] at hwi
    have HWI := Lh hwi
    by_cases hni : vq ∈ s.vers.take q
    ·have HE : Hid (versE m h s = 4) := Lh (by
      have e : verX m h s.vers q vq y = 4 := by unfold verX; rw [if_neg (not_not_intro hrv), if_pos hni]
      rw [HH.out (by rw [e]; decide), e])
     rw [decide_eq_true hni] at hct
     have HCT := Lh hct
     clear hwi hct hrv hni HH HNx e0 e1
     go_wp2_with fail
     refine HWI.out.mono ?_
     rintro e w1 ⟨rfl, rfl⟩
     go_wp2_with fail
     refine HCT.out.mono ?_
     rintro e w1 ⟨rfl, rfl⟩
     go_wp2_with fail
     go_ret
     exact ⟨by rw [HE.out]; rfl, HBE.out⟩
    ·have HE : Hid (verX m h s.vers q vq y = wrongE m h y.a y.b) := Lh (by unfold verX; rw [if_neg (not_not_intro hrv), if_neg hni])
     rw [decide_eq_false hni] at hct
     have HCT := Lh hct
     clear hwi hct hrv hni
     go_wp2_with fail
     refine HWI.out.mono ?_
     rintro e w1 ⟨rfl, rfl⟩
     go_wp2_with fail
     refine HCT.out.mono ?_
     rintro e w1 ⟨rfl, rfl⟩
     obtain ⟨E, hE⟩ : ∃ E, wrongE m h y.a y.b = E := ⟨_, rfl⟩
     have HEE := Lh hE
     rw [hE] at HE
     clear hE
     go_upto_region 8 with (fail)
     clear y2
     refine wp_region_rely [6] (fun i => if i = 6 then SP.val (.int .i64 E) else SP.any) 8 (by kernel_rfl) (by kernel_rfl) ?_
     intro T _ g hg hgm
     have a0 : ∀ x, (g x).cell? ⟨w.heap.size, 0, none⟩ = some (.int .i64 m) := fun x => ((HX0.out.to HBL.out).to (hg x)).cell 0 rfl
     have a1 : ∀ x, (g x).cell? ⟨w.heap.size, 1, none⟩ = some (.int .i64 h) := fun x => ((HX0.out.to HBL.out).to (hg x)).cell 1 rfl
     have a2 : ∀ x, (g x).cell? ⟨w.heap.size, 2, none⟩ = some (.slice A n c) := fun x => ((HX0.out.to HBL.out).to (hg x)).cell 2 rfl
     have a3 : ∀ x, (g x).cell? ⟨w.heap.size + 1, 3, none⟩ = some (.slice (some ⟨bt, ot, none⟩) nv cn) := fun x => ((HX1.out.to HBL.out).to (hg x)).cell 3 rfl
     have a4 : ∀ x, (g x).cell? ⟨bt, ot + q * 2, none⟩ = some (.slice Aa y.a.length ca) := fun x => ((hg x).cell (p := ⟨bt, ot + q * 2, none⟩) hbt).trans e0
     have a5 : ∀ x, (g x).cell? ⟨bt, ot + q * 2 + 1, none⟩ = some (.slice Ab y.b.length cb) := fun x => ((hg x).cell (p := ⟨bt, ot + q * 2 + 1, none⟩) hbt).trans e1
     repeat (refine wpR_pure (by rfl) fun Kq hq => ?_; go_big_quiet_step (fail); refine wpQuiet_nil (hq _ ?_); clear hq Kq)
     refine wpR_busy (by rfl) (by rfl) (fun x hG K Q hK => ?_) (fun v x hG hp Kr hr => ?_)
     ·go_simp
      go_at_call 68
      refine (wrong_any Aa Ab ca cb y.a y.b m h (.slice A n c) rfl (g x) ((HTB.out.to HBL.out).to (hg x)) (HT1.out.to (hg x)) (HT2.out.to (hg x)) HI.out HST.out.1.1 HST.out.2.1).mono ?_
      rintro e V1 ⟨rfl, hb1⟩
      rw [HEE.out]
      go_simp
      exact hK _ _ hb1 rfl
     have hp : v = .int .i64 E := hp
     subst hp
     (try clear hp); clear hG
     simp only [Act.put, sA0, sZ0, sS0]
     refine hr _ ?_
     clear hr Kr
     repeat (refine wpR_pure (by rfl) fun Kq hq => ?_; go_big_quiet_step (fail); refine wpQuiet_nil (hq _ ?_); clear hq Kq)
     refine wpR_end (by kernel_rfl) (fun x hG => ?_) _
     clear a0 a1 a2 a3 a4 a5 e0 e1 e9
     have HB2 := Lh (HBL.out.trans ((hg x).mono HBL.out.size))
     have HBE2 := Lh (HBA.out.trans (HB2.out.mono HBA.out.size))
     clear hG hg hgm
     unfold Exit.then
     generalize g x = w6 at *
     clear g
     by_cases hE0 : E = 0
     ·subst hE0
      have HU2 : Hid (UptoV m h s (q + 1)) := Lh (HNx.out HE.out)
      clear HH HNx
      go_wp2_with fail
      go_roundw
      case rel => exact ⟨q + 1, by omega, by go_num, HU2, HB2.out⟩
      case measure => simp [intOf]; omega
     ·have HVE : Hid (versE m h s = E) := Lh (by rw [HH.out (by rw [HE.out]; exact hE0), HE.out])
      have hEb : (E != 0) = true := by simpa using hE0
      clear HH HNx
      go_wp2_with fail
      go_ret
      exact ⟨by rw [HVE.out]; rfl, HBE2.out⟩
   ·rw [decide_eq_false hrv] at hwi
    have HWI := Lh hwi
    have HE : Hid (versE m h s = 5) := Lh (by
     have e : verX m h s.vers q vq y = 5 := by unfold verX; rw [if_pos hrv]
     rw [HH.out (by rw [e]; decide), e])
    clear hwi hct hrv HH HNx e0 e1
    go_wp2_with fail
    refine HWI.out.mono ?_
    rintro e w1 ⟨rfl, rfl⟩
    go_wp2_with fail
    go_ret
    exact ⟨by rw [HE.out]; rfl, HBE.out⟩
  ·obtain rfl : q = nv := by omega
   have HBE := Lh (HBA.out.trans (hbl.mono HBA.out.size))
   have HE : Hid (versE m h s = 0) := Lh (UptoV.all (by rw [HNV.out, HNX.out]) (by rw [HNV.out]; exact HU.out))
   clear hbl HU
   go_wp2_with fail
   go_ret
   exact ⟨by rw [HE.out]; rfl, HBE.out⟩
end Go.Proofs.YtakaielemicpkaaGreatDoor
namespace Go.Proofs.YtakaielemicpkaaGreatDoor
open Go.RowKit
set_option maxRecDepth 100000 in
set_option maxHeartbeats 8000000 in
theorem chk_any {m h : Int} {l : List SectP} (A : Option Addr) (c : Nat) (w : World) (hT : Laid w) (hs : Sl w (fun b => b < w.heap.size) A c l) (hsh : ShortS l) (hI : I64 h) (hpn : (∀ s ∈ l, s.vers.length = s.texts.length) → (pagesB m h l).length ≤ 1000000000) :
  Calls Tryz.prog 24 #[.agg #[.int .i64 m, .int .i64 h, .slice A l.length c]] w fun e w' => e = .returned (.int .i64 (chkE m h l)) ∧ Below w.heap.size w w' := by
 obtain ⟨n, hn⟩ : ∃ n, l.length = n := ⟨_, rfl⟩
 obtain ⟨wb, hwb⟩ : ∃ wb, w.alloc (.cells #[.int .i64 m, .int .i64 h, .slice A n c] 27) = wb := ⟨_, rfl⟩
 have hba : Below w.heap.size w wb := by rw [← hwb]; exact (Below.refl _ _).alloc (Nat.le_refl _) _
 have hx0 : ABox wb w.heap.size 27 [.int .i64 m, .int .i64 h, .slice A n c] := by rw [← hwb]; exact heap_alloc_new w _
 have hnc : n ≤ c := by rw [← hn]; exact hs.1
 have hn9 : n ≤ 1048576 := by rw [← hn]; exact hsh.1
 have HS := Lh (hs.to hba)
 have HTB := Lh (hT.to hba)
 have HSH := Lh hsh
 have HI := Lh hI
 have HPN := Lh hpn
 have HN := Lh hn
 have HBA := Lh hba
 have HX0 := Lh hx0
 have HW1 := Lh (within_any m 500 2000 wb)
 have HW2 := Lh (within_any h 4 100 wb)
 rw [hn]
 clear hs hT hn hba hx0 hsh hpn hI
 go_enter Tryz.func24, Tryz.ntmps24
 go_upto_region 1 with (fail)
 try rw [hwb]
 clear hwb
 have x0 := HX0.out.cell 0 rfl
 have x1 := HX0.out.cell 1 rfl
 have x2 := HX0.out.cell 2 rfl
 go_wp2_with fail
 refine HW1.out.mono ?_
 rintro e w1 ⟨rfl, rfl⟩
 by_cases hm : 500 ≤ m ∧ m ≤ 2000
 case neg =>
  have HE : Hid (chkE m h l = 5) := Lh (by unfold chkE; rw [if_pos hm])
  rw [decide_eq_false hm]
  clear hm
  go_wp2_with fail
  go_ret
  exact ⟨by rw [HE.out]; rfl, HBA.out⟩
 have HM := Lh hm
 rw [decide_eq_true hm]
 clear hm
 go_wp2_with fail
 refine HW2.out.mono ?_
 rintro e w1 ⟨rfl, rfl⟩
 by_cases hh : 4 ≤ h ∧ h ≤ 100
 case neg =>
  have HE : Hid (chkE m h l = 5) := Lh (by unfold chkE; rw [if_neg (not_not_intro HM.out), if_pos hh])
  rw [decide_eq_false hh]
  clear hh
  go_wp2_with fail
  go_ret
  exact ⟨by rw [HE.out]; rfl, HBA.out⟩
 have HHH := Lh hh
 rw [decide_eq_true hh]
 clear hh
 go_wp2_with fail
 clear x0 x1 x2
 go_loopw [3, 20] (fun o i wr => ∃ (k : Nat) (ob : Bool), k ≤ n ∧ i = .int .i64 k ∧ o = .bool ob ∧ Hid (openB l k = ob) ∧ Hid (UptoS m h l k) ∧ Below wb.heap.size wb wr) (fun _ i _ => n - (intOf i).toNat)
 case atStart => exact ⟨0, false, by omega, rfl, rfl, Lh rfl, Lh (fun j _ hj => absurd hj (Nat.not_lt_zero _)), Below.refl _ _⟩
 case round =>
  obtain ⟨k, ob, hk, rfl, rfl, HOB, HU, hbl⟩ := hrel
  by_cases hlt : k < n
  ·have hkl : k < l.length := by rw [HN.out]; exact hlt
   obtain ⟨b, o, Ag, cg, An, cn, rfl, -, hbb, e0, e1, e2, e3, hg1, hn1, -⟩ := sect_at (HS.out.to hbl) hkl
   have HH : Hid (secX m h l k l[k] ≠ 0 → chkE m h l = secX m h l k l[k]) := Lh (fun h0 => HU.out.hit hkl h0 HM.out HHH.out)
   have HNx : Hid (secX m h l k l[k] = 0 → UptoS m h l (k + 1)) := Lh (fun h0 => HU.out.next hkl h0)
   have HON : Hid (openB l (k + 1) = (openB l k || !l[k].frozen)) := Lh (openB_next l hkl)
   have hshx := HSH.out.2 _ (List.getElem_mem hkl)
   obtain ⟨x, hx⟩ : ∃ x, l[k] = x := ⟨_, rfl⟩
   rw [hx] at e0 e1 e2 e3 hg1 hn1 HH HNx HON hshx
   obtain ⟨nv, hnv⟩ : ∃ nv, x.vers.length = nv := ⟨_, rfl⟩
   obtain ⟨nt, hnt⟩ : ∃ nt, x.texts.length = nt := ⟨_, rfl⟩
   obtain ⟨fr, hfr⟩ : ∃ fr, x.frozen = fr := ⟨_, rfl⟩
   rw [hnv] at e2
   rw [hnt] at e3
   rw [hfr] at e1
   have hv9 : nv ≤ 1048576 := by rw [← hnv]; exact hshx.1
   have ht9 : nt ≤ 1048576 := by rw [← hnt]; exact hshx.2.1
   have HSX := Lh hshx
   have HNV := Lh hnv
   have HNT := Lh hnt
   have HFR := Lh hfr
   obtain ⟨X, hX⟩ : ∃ X, wr.heap.size = X := ⟨_, rfl⟩
   obtain ⟨w2, hw2⟩ : ∃ w2, wr.alloc (.cells #[.int .i64 x.entry, .bool fr, .slice Ag nv cg, .slice An nt cn] 45) = w2 := ⟨_, rfl⟩
   have hb2 : Below wr.heap.size wr w2 := by rw [← hw2]; exact (Below.refl _ _).alloc (Nat.le_refl _) _
   have hxx : ABox w2 X 45 [.int .i64 x.entry, .bool fr, .slice Ag nv cg, .slice An nt cn] := by rw [← hw2, ← hX]; exact heap_alloc_new wr _
   have HB2 := Lh (hbl.trans (hb2.mono hbl.size))
   have HBE2 := Lh (HBA.out.trans (HB2.out.mono HBA.out.size))
   have HX2 := Lh (HX0.out.to HB2.out)
   have HXX := Lh hxx
   have HV2 := Lh (hg1.to hb2)
   have HT2 := Lh (hn1.to hb2)
   have hkI : (k : Int) < (n : Int) := by omega
   have hwi := within_any x.entry 0 65535 w2
   have hfd := find_any (some ⟨b, o, none⟩) c l m h x.entry w2 (HS.out.to HB2.out) (by rw [HN.out]; omega)
   rw [HN.out] at hfd
   have HFD := Lh hfd
   clear hx hnv hnt hfr hg1 hn1 hkl hfd hshx HU
   by_cases hr : 0 ≤ x.entry ∧ x.entry ≤ 65535
   case neg =>
    have HE : Hid (chkE m h l = 5) := Lh (by
     have e : secX m h l k x = 5 := by unfold secX; rw [if_pos hr]
     rw [HH.out (by rw [e]; decide), e])
    rw [decide_eq_false hr] at hwi
    have HWI := Lh hwi
    clear hwi hr
    go_upto_region 7 with (fail)
    try rw [hX]
    try rw [hw2]
    clear hX hw2 hb2 hxx hbl e0 e1 e2 e3
    have p0 := HXX.out.cell 0 rfl
    go_wp2_with fail
    refine HWI.out.mono ?_
    rintro e w3 ⟨rfl, rfl⟩
    go_wp2_with fail
    go_ret
    exact ⟨by rw [HE.out]; rfl, HBE2.out⟩
   rw [decide_eq_true hr] at hwi
   have HWI := Lh hwi
   have HR := Lh hr
   clear hwi hr
   go_upto_region 7 with (fail)
   try rw [hX]
   try rw [hw2]
   clear hX hw2 hb2 hxx hbl e0 e1 e2 e3
   have p0 := HXX.out.cell 0 rfl
   go_wp2_with fail
   refine HWI.out.mono ?_
   rintro e w3 ⟨rfl, rfl⟩
   have x0 := HX2.out.cell 0 rfl
   have x1 := HX2.out.cell 1 rfl
   have x2 := HX2.out.cell 2 rfl
   go_wp2_with fail
   refine HFD.out.mono ?_
   rintro e w3 ⟨rfl, hb3⟩
   have HB3 := Lh (HB2.out.trans (hb3.mono HB2.out.size))
   have HBE3 := Lh (HBA.out.trans (HB3.out.mono HBA.out.size))
   have HXX3 := Lh (HXX.out.to hb3)
   have HX3 := Lh (HX2.out.to hb3)
   have HV3 := Lh (HV2.out.to hb3)
   have HT3 := Lh (HT2.out.to hb3)
   clear hb3 p0 x0 x1 x2
   have p0 := HXX3.out.cell 0 rfl
   have p1 := HXX3.out.cell 1 rfl
   have p2 := HXX3.out.cell 2 rfl
   have p3 := HXX3.out.cell 3 rfl
   have x0 := HX3.out.cell 0 rfl
   have x1 := HX3.out.cell 1 rfl
   have x2 := HX3.out.cell 2 rfl
   obtain ⟨F, hF⟩ : ∃ F, findP l x.entry = F := ⟨_, rfl⟩
   by_cases hd : F < (k : Int)
   case pos =>
    have HE : Hid (chkE m h l = 4) := Lh (by
     have e : secX m h l k x = 4 := by unfold secX; rw [if_neg (not_not_intro HR.out), if_pos (by rw [hF]; exact hd)]
     rw [HH.out (by rw [e]; decide), e])
    rw [hF]
    clear hF
    go_wp2_with fail
    go_ret
    exact ⟨by rw [HE.out]; rfl, HBE3.out⟩
   have HD : Hid (¬ findP l x.entry < (k : Int)) := Lh (by rw [hF]; exact hd)
   rw [hF]
   clear hF
   by_cases ho : fr = true ∧ ob = true
   ·have HE : Hid (chkE m h l = 12) := Lh (by
     have e : secX m h l k x = 12 := by unfold secX; rw [if_neg (not_not_intro HR.out), if_neg HD.out, if_pos ⟨HFR.out.trans ho.1, HOB.out.trans ho.2⟩]
     rw [HH.out (by rw [e]; decide), e])
    obtain ⟨rfl, rfl⟩ := ho
    go_wp2_with fail
    go_ret
    exact ⟨by rw [HE.out]; rfl, HBE3.out⟩
   have HO : Hid (¬ (x.frozen = true ∧ openB l k = true)) := Lh (by rw [HFR.out, HOB.out]; exact ho)
   by_cases ha : nv = 0 ∨ nv ≠ nt ∨ (1 < nv ∧ fr = false)
   ·have HE : Hid (chkE m h l = 1) := Lh (by
     have e : secX m h l k x = 1 := by
      unfold secX
      rw [if_neg (not_not_intro HR.out), if_neg HD.out, if_neg HO.out, HNV.out, HNT.out, HFR.out, if_pos ha]
     rw [HH.out (by rw [e]; decide), e])
    have hcs : ((fr = true ∧ ob = false) ∨ (fr = false ∧ ob = false) ∨ (fr = false ∧ ob = true)) := by
     cases fr <;> cases ob <;> simp_all
    clear HO ho HH HNx HON
    by_cases h0 : nv = 0
    ·subst h0
     have HCS := Lh hcs
     clear ha hcs
     rcases HCS.out with ⟨rfl, rfl⟩ | ⟨rfl, rfl⟩ | ⟨rfl, rfl⟩
     all_goals
      clear HCS
      go_wp2_with fail
      go_ret
      exact ⟨by rw [HE.out]; rfl, HBE3.out⟩
    have hI0 : ¬ (nv : Int) = 0 := by omega
    by_cases h1 : nv ≠ nt
    ·have hI1 : ¬ (nv : Int) = (nt : Int) := by omega
     have HCS := Lh hcs
     clear ha hcs h1 h0
     rcases HCS.out with ⟨rfl, rfl⟩ | ⟨rfl, rfl⟩ | ⟨rfl, rfl⟩
     all_goals
      clear HCS
      go_wp2_with fail
      go_ret
      exact ⟨by rw [HE.out]; rfl, HBE3.out⟩
    obtain rfl : nv = nt := Decidable.not_not.1 h1
    have h2 : 1 < nv ∧ fr = false := by
     rcases ha with h | h | h
     ·exact absurd h h0
     ·exact absurd rfl h
     ·exact h
    obtain ⟨h3, rfl⟩ := h2
    have hI1 : (1 : Int) < (nv : Int) := by omega
    clear ha hcs h1 h0
    cases ob
    all_goals
     go_wp2_with fail
     go_ret
     exact ⟨by rw [HE.out]; rfl, HBE3.out⟩
   have h0 : nv ≠ 0 := fun e => ha (.inl e)
   have h1 : nv = nt := Decidable.not_not.1 fun e => ha (.inr (.inl e))
   subst h1
   have h2 : ¬ (1 < nv ∧ fr = false) := fun e => ha (.inr (.inr e))
   have HA : Hid (¬ (x.vers.length = 0 ∨ x.vers.length ≠ x.texts.length ∨ (1 < x.vers.length ∧ x.frozen = false))) := Lh (by rw [HNV.out, HNT.out, HFR.out]; exact ha)
   have hI0 : ¬ (nv : Int) = 0 := by omega
   clear ha
   by_cases h100 : 100 < nv
   ·have HE : Hid (chkE m h l = 2) := Lh (by
     have e : secX m h l k x = 2 := by
      unfold secX
      rw [if_neg (not_not_intro HR.out), if_neg HD.out, if_neg HO.out, if_neg HA.out, if_pos (by rw [HNV.out]; exact h100)]
     rw [HH.out (by rw [e]; decide), e])
    obtain ⟨rfl, rfl⟩ : fr = true ∧ ob = false := by cases fr <;> cases ob <;> simp_all <;> omega
    have hI1 : (1 : Int) < (nv : Int) := by omega
    have hI100 : (100 : Int) < (nv : Int) := by omega
    clear HO ho HH HNx HON h2
    go_wp2_with fail
    go_ret
    exact ⟨by rw [HE.out]; rfl, HBE3.out⟩
   have hI100 : ¬ (100 : Int) < (nv : Int) := by omega
   have HSV : Hid (secX m h l k x = versE m h x) := Lh (by
    unfold secX
    rw [if_neg (not_not_intro HR.out), if_neg HD.out, if_neg HO.out, if_neg HA.out, if_neg (by rw [HNV.out]; exact h100)])
   have hcv := versE_any (m := m) HI.out (some ⟨b, o, none⟩) n c x Ag An cg cn nv w3 (HTB.out.to HB3.out) HV3.out HT3.out HNV.out HNT.out HSX.out
   obtain ⟨E, hE⟩ : ∃ E, versE m h x = E := ⟨_, rfl⟩
   rw [HFR.out, hE] at hcv
   rw [hE] at HSV
   have HCV := Lh hcv
   have hcases : (fr = true ∧ ob = false ∧ 1 < nv) ∨ (fr = true ∧ ob = false ∧ nv = 1) ∨ (fr = false ∧ ob = false ∧ nv = 1) ∨ (fr = false ∧ ob = true ∧ nv = 1) := by
    cases fr <;> cases ob <;> simp_all <;> omega
   have HCS := Lh hcases
   clear hE hcv hcases ho h2 h0 h100
   rcases HCS.out with ⟨rfl, rfl, h1⟩ | ⟨rfl, rfl, h1⟩ | ⟨rfl, rfl, h1⟩ | ⟨rfl, rfl, h1⟩
   ·have hI1 : (1 : Int) < (nv : Int) := by omega
    clear HCS
    have HON2 : Hid (openB l (k + 1) = false) := Lh (by rw [HON.out, HOB.out, HFR.out]; rfl)
    clear HON h1
    go_wp2_with fail
    refine HCV.out.mono ?_
    rintro e w4 ⟨rfl, hb4⟩
    have HB4 := Lh (HB3.out.trans (hb4.mono HB3.out.size))
    have HBE4 := Lh (HBA.out.trans (HB4.out.mono HBA.out.size))
    have p1 := (HXX3.out.to hb4).cell 1 rfl
    clear hb4 x0 x1 x2
    by_cases hE0 : E = 0
    ·subst hE0
     have HU2 := Lh (HNx.out HSV.out)
     clear HH HNx
     go_wp2_with fail
     go_roundw
     case rel => exact ⟨k + 1, _, by omega, by go_num, rfl, HON2, HU2, HB4.out⟩
     case measure => simp [intOf]; omega
    ·have HE : Hid (chkE m h l = E) := Lh (by rw [HH.out (by rw [HSV.out]; exact hE0), HSV.out])
     have hEb : (E != 0) = true := by simpa using hE0
     clear HH HNx
     go_wp2_with fail
     go_ret
     exact ⟨by rw [HE.out]; rfl, HBE4.out⟩
   ·have hI1 : ¬ (1 : Int) < (nv : Int) := by omega
    clear HCS
    have HON2 : Hid (openB l (k + 1) = false) := Lh (by rw [HON.out, HOB.out, HFR.out]; rfl)
    clear HON h1
    go_wp2_with fail
    refine HCV.out.mono ?_
    rintro e w4 ⟨rfl, hb4⟩
    have HB4 := Lh (HB3.out.trans (hb4.mono HB3.out.size))
    have HBE4 := Lh (HBA.out.trans (HB4.out.mono HBA.out.size))
    have p1 := (HXX3.out.to hb4).cell 1 rfl
    clear hb4 x0 x1 x2
    by_cases hE0 : E = 0
    ·subst hE0
     have HU2 := Lh (HNx.out HSV.out)
     clear HH HNx
     go_wp2_with fail
     go_roundw
     case rel => exact ⟨k + 1, _, by omega, by go_num, rfl, HON2, HU2, HB4.out⟩
     case measure => simp [intOf]; omega
    ·have HE : Hid (chkE m h l = E) := Lh (by rw [HH.out (by rw [HSV.out]; exact hE0), HSV.out])
     have hEb : (E != 0) = true := by simpa using hE0
     clear HH HNx
     go_wp2_with fail
     go_ret
     exact ⟨by rw [HE.out]; rfl, HBE4.out⟩
   ·have hI1 : ¬ (1 : Int) < (nv : Int) := by omega
    clear HCS
    have HON2 : Hid (openB l (k + 1) = true) := Lh (by rw [HON.out, HOB.out, HFR.out]; rfl)
    clear HON h1
    go_wp2_with fail
    refine HCV.out.mono ?_
    rintro e w4 ⟨rfl, hb4⟩
    have HB4 := Lh (HB3.out.trans (hb4.mono HB3.out.size))
    have HBE4 := Lh (HBA.out.trans (HB4.out.mono HBA.out.size))
    have p1 := (HXX3.out.to hb4).cell 1 rfl
    clear hb4 x0 x1 x2
    by_cases hE0 : E = 0
    ·subst hE0
     have HU2 := Lh (HNx.out HSV.out)
     clear HH HNx
     go_wp2_with fail
     go_roundw
     case rel => exact ⟨k + 1, _, by omega, by go_num, rfl, HON2, HU2, HB4.out⟩
     case measure => simp [intOf]; omega
    ·have HE : Hid (chkE m h l = E) := Lh (by rw [HH.out (by rw [HSV.out]; exact hE0), HSV.out])
     have hEb : (E != 0) = true := by simpa using hE0
     clear HH HNx
     go_wp2_with fail
     go_ret
     exact ⟨by rw [HE.out]; rfl, HBE4.out⟩
   ·have hI1 : ¬ (1 : Int) < (nv : Int) := by omega
    clear HCS
    have HON2 : Hid (openB l (k + 1) = true) := Lh (by rw [HON.out, HOB.out, HFR.out]; rfl)
    clear HON h1
    go_wp2_with fail
    refine HCV.out.mono ?_
    rintro e w4 ⟨rfl, hb4⟩
    have HB4 := Lh (HB3.out.trans (hb4.mono HB3.out.size))
    have HBE4 := Lh (HBA.out.trans (HB4.out.mono HBA.out.size))
    have p1 := (HXX3.out.to hb4).cell 1 rfl
    clear hb4 x0 x1 x2
    by_cases hE0 : E = 0
    ·subst hE0
     have HU2 := Lh (HNx.out HSV.out)
     clear HH HNx
     go_wp2_with fail
     go_roundw
     case rel => exact ⟨k + 1, _, by omega, by go_num, rfl, HON2, HU2, HB4.out⟩
     case measure => simp [intOf]; omega
    ·have HE : Hid (chkE m h l = E) := Lh (by rw [HH.out (by rw [HSV.out]; exact hE0), HSV.out])
     have hEb : (E != 0) = true := by simpa using hE0
     clear HH HNx
     go_wp2_with fail
     go_ret
     exact ⟨by rw [HE.out]; rfl, HBE4.out⟩
  ·obtain rfl : k = n := by omega
   have HUA : Hid (UptoS m h l l.length) := Lh (by rw [HN.out]; exact HU.out)
   have HEQ : Hid (∀ s ∈ l, s.vers.length = s.texts.length) := Lh (fun s hs => by
    obtain ⟨i, hi, rfl⟩ := List.getElem_of_mem hs
    exact (secX_ok (HUA.out i hi hi)).nt)
   have hpl := HPN.out HEQ.out
   have hp := pages_any (⟨HTB.out.to hbl, HS.out.to hbl, HSH.out, fun s hs => by rw [HEQ.out s hs]; exact Nat.le_refl _, HI.out, hpl⟩ : BookOk wr m h A c l)
   rw [HN.out] at hp
   have HP := Lh hp
   have HBL := Lh hbl
   have x0 := (HX0.out.to hbl).cell 0 rfl
   have x1 := (HX0.out.to hbl).cell 1 rfl
   have x2 := (HX0.out.to hbl).cell 2 rfl
   have HPL := Lh hpl
   clear hp hbl hpl
   go_wp2_with fail
   refine HP.out.mono ?_
   rintro e W3 ⟨v, R, rfl, ho, -, hb⟩
   obtain ⟨Ap, cp, rfl, -⟩ := ho.plain.sl
   have HCE := Lh (HUA.out.all HM.out HHH.out)
   obtain ⟨P, hP⟩ : ∃ P, (pagesB m h l).length = P := ⟨_, rfl⟩
   have HBE := Lh (HBA.out.trans ((HBL.out.trans (hb.mono HBL.out.size)).mono HBA.out.size))
   rw [hP] at HCE HPL
   rw [hP]
   have hP9 : P ≤ 1000000000 := HPL.out
   clear hP ho hb x0 x1 x2
   by_cases h16 : 16384 < P
   ·have HE : Hid (chkE m h l = 2) := Lh (by rw [HCE.out, if_pos h16])
    have hPI : (16384 : Int) < (P : Int) := by omega
    go_wp2_with fail
    go_ret
    exact ⟨by rw [HE.out]; rfl, HBE.out⟩
   ·have HE : Hid (chkE m h l = 0) := Lh (by rw [HCE.out, if_neg h16])
    have hPI : ¬ (16384 : Int) < (P : Int) := by omega
    go_wp2_with fail
    go_ret
    exact ⟨by rw [HE.out]; rfl, HBE.out⟩
end Go.Proofs.YtakaielemicpkaaGreatDoor
namespace Go.Proofs.YtakaielemicpkaaGreatDoor
open Go.RowKit
theorem GBk.pre {m h : Int} {l : List SectP} (H : GBk m h l) : ∀ s ∈ l, PreX s := fun s hs => by
 obtain ⟨f, hf⟩ := H.chk
 obtain ⟨i, hi, rfl⟩ := List.getElem_of_mem hs
 have hc := hf i hi
 exact ⟨hc.n1, by have := hc.n3; omega, hc.nt, fun t ht => (hc.g t ht).short⟩
set_option maxRecDepth 100000 in
set_option maxHeartbeats 16000000 in
theorem checks_any (A0 : Option Addr) (c0 : Nat) (l0 : List Int) (wt at_ N : Int) (W1 : World) (hs0 : Sl W1 (fun b => b < W1.heap.size) A0 c0 l0) (hwt : I64 wt) (hat : I64 at_) (hN : I64 N) (hT : Tabs W1) :
  Calls Tryz.prog 5 #[.slice A0 l0.length c0, .agg #[.int .i64 wt, .int .i64 at_, .int .i64 N]] W1 fun e w' => e = .returned (.bool true) ∧ Below W1.heap.size W1 w' := by
 obtain ⟨wS, hwS⟩ : ∃ wS, W1.alloc (.cells #[.int .i64 wt, .int .i64 at_, .int .i64 N] 56) = wS := ⟨_, rfl⟩
 have hbS : Below W1.heap.size W1 wS := by rw [← hwS]; exact (Below.refl _ _).alloc (Nat.le_refl _) _
 have hxS : ABox wS W1.heap.size 56 [.int .i64 wt, .int .i64 at_, .int .i64 N] := by rw [← hwS]; exact heap_alloc_new W1 _
 have HT := Lh (hT.to hbS)
 have HI0 := Lh (hs0.to hbS)
 have HBS := Lh hbS
 have HXS := Lh hxS
 have HWT := Lh hwt
 have HAT := Lh hat
 have HIN := Lh hN
 clear hT hs0 hbS hxS hwt hat hN
 go_enter Tryz.func5, Tryz.ntmps5
 go_upto_region 1 with (fail)
 try rw [hwS]
 clear hwS
 go_upto_region 2 with (first
  |(go_at_call 9; refine (gbook_any A0 c0 l0 wS HI0.out).mono ?_; rintro e V1 ⟨m, h, Ab1, cb1, ss, rfl, hg, hs, hb⟩; have HG := Lh hg; have HV1 := Lh hb; have hl := LM.fresh (m := m) (h := h) (⟨HT.out.to hb, hs.mono fun i hi _ => hi.2⟩ : SM V1 Ab1 cb1 ss); clear hg hs hb)
  | fail)
 obtain ⟨W2, hW⟩ : ∃ W2, V1.alloc (.cells #[.int .i64 m, .int .i64 h, .slice Ab1 ss.length cb1] 27) = W2 := ⟨_, rfl⟩
 obtain ⟨b1, hbk⟩ : ∃ b1, V1.heap.size = b1 := ⟨_, rfl⟩
 rw [hW] at hl
 rw [hW, hbk]
 have hb : Below wS.heap.size wS W2 := HV1.out.trans (hl.2.mono HV1.out.size)
 have H1v := Lh hl.1
 rw [hbk] at H1v
 have HB := Lh (HBS.out.trans (hb.mono HBS.out.size))
 have HXS2 := Lh (HXS.out.to hb)
 clear hl hb hW hbk HXS
 have H1x : Hid (ABox W2 b1 27 [.int .i64 m, .int .i64 h, .slice Ab1 ss.length cb1]) := Lh H1v.out.bx
 have HSS := Lh H1v.out.sm.s
 have HT2 := Lh H1v.out.sm.t
 have HIH : Hid (I64 h) := Lh (by have h1 := HG.out.h1; have h2 := HG.out.h2; exact ⟨by omega, by omega⟩)
 have HSP := Lh (spoilt_any (m := m) (h := h) Ab1 cb1 wt at_ N W2 HSS.out HG.out.n HG.out.pre HWT.out HAT.out HIN.out HIH.out)
 have x0 := H1x.out.cell 0 rfl
 have x1 := H1x.out.cell 1 rfl
 have x2 := H1x.out.cell 2 rfl
 have p0 := HXS2.out.cell 0 rfl
 have p1 := HXS2.out.cell 1 rfl
 have p2 := HXS2.out.cell 2 rfl
 go_upto_region 3 with (first
  |(go_at_call 23; refine HSP.out.mono ?_; rintro e V2 ⟨m', h', A', c', l', rfl, hih, hfew, hsl, hb⟩; have HI2 := Lh hih; have HFW := Lh hfew; have HSL := Lh hsl; have HV2 := Lh hb; clear hih hfew hsl hb x0 x1 x2 p0 p1 p2)
  | fail)
 obtain ⟨W3, hW⟩ : ∃ W3, V2.alloc (.cells #[.int .i64 m', .int .i64 h', .slice A' l'.length c'] 27) = W3 := ⟨_, rfl⟩
 obtain ⟨b2, hbk⟩ : ∃ b2, V2.heap.size = b2 := ⟨_, rfl⟩
 have hb3 : Below V2.heap.size V2 W3 := by rw [← hW]; exact (Below.refl _ _).alloc (Nat.le_refl _) _
 have hx3 : ABox W3 b2 27 [.int .i64 m', .int .i64 h', .slice A' l'.length c'] := by rw [← hW, ← hbk]; exact heap_alloc_new V2 _
 have hb23 : Below W2.heap.size W2 W3 := HV2.out.trans (hb3.mono HV2.out.size)
 rw [hW, hbk]
 have H2x := Lh hx3
 have H1y := Lh (H1x.out.to hb23)
 have HB3 := Lh (HB.out.trans (hb23.mono HB.out.size))
 have HS1 := Lh (HSS.out.to hb23)
 have HS2 := Lh (HSL.out.to hb3)
 have HT3 := Lh (HT2.out.to hb23)
 clear hW hbk hb3 hx3 hb23 H1x HSL HSS HT2
 have HC1 : Hid (∀ W, Below W3.heap.size W3 W → Calls Tryz.prog 24 #[.agg #[.int .i64 m, .int .i64 h, .slice Ab1 ss.length cb1]] W fun e w' => e = .returned (.int .i64 0) ∧ Below W.heap.size W w') := Lh fun W hW => by
  have := chk_any (m := m) (h := h) Ab1 cb1 W (HT3.out.to hW).1 (HS1.out.to hW) HG.out.tame.short HIH.out (fun _ => by have := HG.out.tame.pages HG.out.siz; omega)
  rwa [HG.out.noerr] at this
 obtain ⟨E, hE⟩ : ∃ E, chkE m' h' l' = E := ⟨_, rfl⟩
 have HC2 : Hid (∀ W, Below W3.heap.size W3 W → Calls Tryz.prog 24 #[.agg #[.int .i64 m', .int .i64 h', .slice A' l'.length c']] W fun e w' => e = .returned (.int .i64 E) ∧ Below W.heap.size W w') := Lh fun W hW => by
  have := chk_any (m := m') (h := h') A' c' W (HT3.out.to hW).1 (HS2.out.to hW) HFW.out.short HI2.out (fun _ => HFW.out.pages _ _)
  rwa [hE] at this
 have HC3 : Hid (∀ W, Below W3.heap.size W3 W → Calls Tryz.prog 25 #[.agg #[.int .i64 m', .int .i64 h', .slice A' l'.length c']] W fun e w' => e = .returned (.int .i64 E) ∧ Below W.heap.size W w') := Lh fun W hW => by
  have := rchk_any (m := m') (h := h') A' c' W (HT3.out.to hW).1 (HS2.out.to hW) HFW.out.short HI2.out (fun _ => HFW.out.pages _ _)
  rwa [hE] at this
 have HLV : Hid (∀ W, Below W3.heap.size W3 W → Calls Tryz.prog 17 #[] W fun e w' => e = .returned (.bool true) ∧ Below W.heap.size W w') := Lh fun W hW => lives_any W (HT3.out.to hW)
 clear hE
 refine wp_region_rely [1, 5, 7, 11] (fun i => if i = 1 then SP.val (.int .i64 0) else if i = 5 then SP.val (.int .i64 E) else if i = 7 then SP.val (.int .i64 E) else if i = 11 then SP.val (.bool true) else SP.any) 14 (by kernel_rfl) (by kernel_rfl) ?_
 intro T _ g hg hgm
 have x0 : ∀ d, (g d).cell? ⟨b1, 0, none⟩ = some (.int .i64 m) := fun d => (H1y.out.to (hg d)).cell 0 rfl
 have x1 : ∀ d, (g d).cell? ⟨b1, 1, none⟩ = some (.int .i64 h) := fun d => (H1y.out.to (hg d)).cell 1 rfl
 have x2 : ∀ d, (g d).cell? ⟨b1, 2, none⟩ = some (.slice Ab1 ss.length cb1) := fun d => (H1y.out.to (hg d)).cell 2 rfl
 have y0 : ∀ d, (g d).cell? ⟨b2, 0, none⟩ = some (.int .i64 m') := fun d => (H2x.out.to (hg d)).cell 0 rfl
 have y1 : ∀ d, (g d).cell? ⟨b2, 1, none⟩ = some (.int .i64 h') := fun d => (H2x.out.to (hg d)).cell 1 rfl
 have y2 : ∀ d, (g d).cell? ⟨b2, 2, none⟩ = some (.slice A' l'.length c') := fun d => (H2x.out.to (hg d)).cell 2 rfl
 repeat (refine wpR_pure (by rfl) fun Kq hq => ?_; go_big_quiet_step (fail); refine wpQuiet_nil (hq _ ?_); clear hq Kq)
 refine wpR_busy (by rfl) (by rfl) (fun d hG K Q hK => ?_) (fun v1 d hG hp Kr hr => ?_)
 ·go_simp
  go_at_call 24
  refine (HC1.out (g d) (hg d)).mono ?_
  rintro e W1 ⟨rfl, hb1⟩
  go_simp
  exact hK _ _ hb1 (rfl)
 obtain rfl : v1 = _ := hp
 (try clear hp); clear hG
 simp only [Act.put, sA0, sZ0, sS0]
 refine hr _ ?_
 clear hr Kr
 repeat (refine wpR_pure (by rfl) fun Kq hq => ?_; go_big_quiet_step (fail); refine wpQuiet_nil (hq _ ?_); clear hq Kq)
 refine wpR_busy (by rfl) (by rfl) (fun d hG K Q hK => ?_) (fun v5 d hG hp Kr hr => ?_)
 ·go_simp
  go_at_call 24
  refine (HC2.out (g d) (hg d)).mono ?_
  rintro e W1 ⟨rfl, hb1⟩
  go_simp
  exact hK _ _ hb1 (rfl)
 obtain rfl : v5 = _ := hp
 (try clear hp); clear hG
 simp only [Act.put, sA0, sZ0, sS0]
 refine hr _ ?_
 clear hr Kr
 repeat (refine wpR_pure (by rfl) fun Kq hq => ?_; go_big_quiet_step (fail); refine wpQuiet_nil (hq _ ?_); clear hq Kq)
 refine wpR_busy (by rfl) (by rfl) (fun d hG K Q hK => ?_) (fun v7 d hG hp Kr hr => ?_)
 ·go_simp
  go_at_call 25
  refine (HC3.out (g d) (hg d)).mono ?_
  rintro e W1 ⟨rfl, hb1⟩
  go_simp
  exact hK _ _ hb1 (rfl)
 obtain rfl : v7 = _ := hp
 (try clear hp); clear hG
 simp only [Act.put, sA0, sZ0, sS0]
 refine hr _ ?_
 clear hr Kr
 repeat (refine wpR_pure (by rfl) fun Kq hq => ?_; go_big_quiet_step (fail); refine wpQuiet_nil (hq _ ?_); clear hq Kq)
 refine wpR_busy (by rfl) (by rfl) (fun d hG K Q hK => ?_) (fun v11 d hG hp Kr hr => ?_)
 ·go_simp
  go_at_call 17
  refine (HLV.out (g d) (hg d)).mono ?_
  rintro e W1 ⟨rfl, hb1⟩
  go_simp
  exact hK _ _ hb1 (rfl)
 obtain rfl : v11 = _ := hp
 (try clear hp); clear hG
 simp only [Act.put, sA0, sZ0, sS0]
 refine hr _ ?_
 clear hr Kr
 repeat (refine wpR_pure (by rfl) fun Kq hq => ?_; go_big_quiet_step (fail); refine wpQuiet_nil (hq _ ?_); clear hq Kq)
 refine wpR_end (by kernel_rfl) (fun d hG => ?_) _
 have HBE := Lh (HB3.out.trans ((hg d).mono HB3.out.size))
 clear x0 x1 x2 y0 y1 y2
 have HBd := Lh (hg d)
 clear hG hg hgm
 unfold Exit.then
 go_wp2_with fail
 go_ret
 exact ⟨rfl, HBE.out⟩
end Go.Proofs.YtakaielemicpkaaGreatDoor
namespace Go.Proofs.YtakaielemicpkaaGreatDoor
open Go.ChangeShapes Go.WideShapes Go.ChangeAt Go.RowKit Go.Deep
variable {H : Type} {enc : TypeId × Value → H} {P : Program}
end Go.Proofs.YtakaielemicpkaaGreatDoor
namespace Go.Proofs.YtakaielemicpkaaGreatDoor
open Go.ChangeShapes Go.WideShapes Go.ChangeAt Go.RowKit Go.Deep
variable {H : Type} {enc : TypeId × Value → H} {P : Program}
theorem open_ints_sl {t e : TypeId} {W : World} {base : Nat} {v : Value} {d : DataW H} {ps : List MemPlace} (ht : P.underlying t = some (.slice e)) (he : P.underlying e = some (.int .i64)) (hc : P.cellsOf e = 1)
  (hval : Value.okWide P W .any base t v) (h : DataW.Trod enc P W 0 (fun _ => true) true t v d ps) : ∃ A c, ∃ l : List Int, v = .slice A l.length c ∧ Sl W (fun b => b < W.heap.size) A c l := by
 obtain ⟨a, len, cap, rfl⟩ := okWide_slice ht hval
 obtain ⟨fuel, hf⟩ := h
 rcases open_ints ht he hc hf with ⟨hcs, _⟩ | ⟨a', len', cap', zs, hcs, _, hl, hm, hz, _, hcell, hwf⟩
 ·simp [Value.cells] at hcs
  obtain ⟨rfl, rfl, rfl⟩ := hcs
  exact ⟨none, 0, [], rfl, Sl.nil _ _ _ _ (by simp [maxLen])⟩
 ·simp [Value.cells] at hcs
  obtain ⟨rfl, rfl, rfl⟩ := hcs
  have hz' : zs.length = cap := by simpa using hz
  have hlt : (zs.take len).length = len := by rw [List.length_take]; omega
  refine ⟨some a', cap, zs.take len, by rw [hlt], by rw [hlt]; exact hl, hm, fun h0 => ?_⟩
  obtain ⟨b, o, rfl, hat⟩ := Go.ints_at hcell (by omega)
  refine ⟨b, o, rfl, World.block_lt_of_cell? W _ (hat 0 (by omega)), World.block_lt_of_cell? W _ (hat 0 (by omega)), fun i hi => ?_⟩
  rw [hlt] at hi
  have e : zs.getD i 0 = (zs.take len)[i]'(by omega) := by
   rw [List.getElem_take, List.getD_eq_getElem?_getD, List.getElem?_eq_getElem (by omega)]; rfl
  refine ⟨[.int .i64 (zs.getD i 0)], ⟨by rw [e], ?_⟩, fun j u hu => ?_⟩
  ·exact i64_wf (hwf _ (List.mem_of_mem_take (List.getElem_mem (by omega))))
  ·have hj : j = 0 := by
    rcases j with _ | j
    ·rfl
    ·simp at hu
   subst hj
   simp only [List.getElem?_cons_zero, Option.some.injEq] at hu
   subst hu
   have := hat i (by omega)
   show W.cell? ⟨b, o + i * 1 + 0, none⟩ = _
   rw [Nat.mul_one, Nat.add_zero]; exact this
end Go.Proofs.YtakaielemicpkaaGreatDoor
namespace Go.Proofs.YtakaielemicpkaaGreatDoor
open Go.ChangeShapes Go.WideShapes Go.ChangeAt Go.RowKit Go.Deep
variable {H : Type} {enc : TypeId × Value → H}
set_option maxRecDepth 100000 in
theorem open_spoil3 {W : World} {base : Nat} {v : Value} {d : DataW H} {ps : List MemPlace} (hval : Value.okWide Tryz.prog W .any base 56 v) (h : DataW.Trod enc Tryz.prog W 0 (fun _ => true) true 56 v d ps) :
  ∃ n s x : Int, v = .agg #[.int .i64 n, .int .i64 s, .int .i64 x] ∧ I64 n ∧ I64 s ∧ I64 x := by
 obtain ⟨cs, rfl, hsz⟩ := okWide_struct Tryz.underlying56 hval
 obtain ⟨fuel, hf⟩ := h
 obtain ⟨ys, n, _, hx, hlen, hyl, hfs⟩ := DataW.trod_struct Tryz.underlying56 hf
 have h0 : DataW.trod enc Tryz.prog W 0 (fun _ => true) true n 3 ((cs.toList.drop 0).take (Tryz.prog.cellsOf 3)) = some (ys[0]'(by have : ys.length = 3 := hyl; omega)) := (hfs 0 _ rfl).trans (List.getElem?_eq_getElem _)
 have h1 : DataW.trod enc Tryz.prog W 0 (fun _ => true) true n 3 ((cs.toList.drop 1).take (Tryz.prog.cellsOf 3)) = some (ys[1]'(by have : ys.length = 3 := hyl; omega)) := (hfs 1 _ rfl).trans (List.getElem?_eq_getElem _)
 have h2 : DataW.trod enc Tryz.prog W 0 (fun _ => true) true n 3 ((cs.toList.drop 2).take (Tryz.prog.cellsOf 3)) = some (ys[2]'(by have : ys.length = 3 := hyl; omega)) := (hfs 2 _ rfl).trans (List.getElem?_eq_getElem _)
 have c1 : Tryz.prog.cellsOf 3 = 1 := by kernel_rfl
 have c7 : Tryz.prog.cellsOf 56 = 3 := by kernel_rfl
 have hcl : cs.toList.length = 3 := by have : (Value.agg cs).cells.toList.length = _ := hlen; rw [c7] at this; exact this
 rw [c1] at h0 h1 h2
 obtain ⟨n0, e0, _, z0⟩ := DataW.trod_int Tryz.underlying3 h0
 obtain ⟨n1, e1, _, z1⟩ := DataW.trod_int Tryz.underlying3 h1
 obtain ⟨n2, e2, _, z2⟩ := DataW.trod_int Tryz.underlying3 h2
 refine ⟨n0, n1, n2, ?_, i64_wf z0, i64_wf z1, i64_wf z2⟩
 congr 1
 apply Array.toList_inj.1
 match cs.toList, hcl, e0, e1, e2 with
 | [a0, a1, a2], _, e0, e1, e2 =>
  simp at e0 e1 e2
  simp [e0, e1, e2]
end Go.Proofs.YtakaielemicpkaaGreatDoor
namespace Go.Proofs.YtakaielemicpkaaGreatDoor.rowBookChecks
open Go.ChangeShapes Go.WideShapes Go.ChangeAt Go.RowKit
set_option maxRecDepth 100000 in
theorem contract (H : Type) (enc : TypeId × Value → H) (W : World) (base : Nat) (args : Array Value) (ds gs : List (DataW H)) (before : List MemPlace)
  (hval : ∀ (j : Nat) t v, Tryz.f5.params[j]? = some t → args[j]? = some v → Value.okWide Tryz.prog W .any base t v)
  (hW : DataW.Whole enc Tryz.prog Tryz.f5.params.toList Rows.bookChecksSpec.vars false W args.toList ds gs before) (hL : laidMetH Tryz.prog laidL W) :
  Calls Tryz.prog 5 args W fun e W' => ∃ v, e = .returned v ∧ Rows.bookChecksSpec.post enc Tryz.prog Tryz.f5 false true false false W args v W' := by
 have hW' := hW
 obtain ⟨p, q, hA0, hV, rfl, hfz, hnd⟩ := hW
 have hA : DataW.TrodAll enc Tryz.prog W 0 (fun _ => true) true Tryz.f5.params.toList args.toList ds p := hA0
 rw [Tryz.params5] at hA hval
 obtain ⟨v0, vs0, d0, ds0, p0, q0, hargs, rfl, rfl, h0, r0⟩ := trodAll_cons hA
 obtain ⟨v1, vs1, d1, ds1, p1, q1, rfl, rfl, rfl, h1, r1⟩ := trodAll_cons r0
 obtain ⟨rfl, rfl, rfl⟩ := trodAll_nil r1
 obtain rfl : args = #[v0, v1] := by cases args; simp_all
 obtain ⟨rfl, rfl⟩ := trodVars_none hV
 obtain ⟨A0, c0, l0, rfl, hl0⟩ := open_ints_sl Tryz.underlying22 Tryz.underlying3 cells_int (hval 0 22 v0 rfl rfl) h0
 obtain ⟨n1, s1, x1, rfl, wn1, ws1, wx1⟩ := open_spoil3 (hval 1 56 v1 rfl rfl) h1
 refine (checks_any A0 c0 l0 n1 s1 x1 W hl0 wn1 ws1 wx1 (tabs_of hL)).mono fun e W' ⟨he, hb⟩ => ?_
 subst he
 exact ⟨_, rfl, row_close laidOut Tryz.underlying4 (by kernel_rfl) (by kernel_rfl) rfl hW' rfl hb⟩

theorem laid_met (os : Os) : laidMet Tryz.prog Rows.bookChecksRow.laid ((laidWorld os).forCall (fun _ _ => 0) ⟨#[], #[.slice none 0 0, .agg #[.int .i64 0, .int .i64 0, .int .i64 0]], []⟩).memory :=
 laidMet_of_run' 8 (by kernel_rfl) (by kernel_rfl)
theorem reads (os : Os) {H : Type} (enc : TypeId × Value → H) : ∃ places, DataW.whole enc Tryz.prog ((laidWorld os).forCall (fun _ _ => 0) ⟨#[], #[.slice none 0 0, .agg #[.int .i64 0, .int .i64 0, .int .i64 0]], []⟩).memory Tryz.f5.params.toList Rows.bookChecksSpec.vars false (#[.slice none 0 0, .agg #[.int .i64 0, .int .i64 0, .int .i64 0]] : Array Value).toList 8 = some ([.nil, .agg [.lit (.int .i64 0), .lit (.int .i64 0), .lit (.int .i64 0)]], [], places) :=
 ⟨[], by kernel_rfl⟩
set_option maxRecDepth 100000 in
theorem lifted (os : Os) (started : os.Started) (H : Type) (enc : TypeId × Value → H) (F : Stop.Interp) :
  ReturnsInHanded {} Tryz.checked os 5 .any ((OpenSpec.ofChange Rows.bookChecksSpec).preRow enc Tryz.prog Tryz.f5 Rows.bookChecksRow.domain false Rows.bookChecksRow.laid) (((OpenSpec.ofChange Rows.bookChecksSpec).at F).post enc Tryz.prog Tryz.f5 false true false false) := by
 obtain ⟨places, hx⟩ := reads os enc
 refine returnsInHanded_of_row (C := Tryz.checked) (s := (OpenSpec.ofChange Rows.bookChecksSpec)) own started (by kernel_rfl) Tryz.func5
  (witness_row_at (enc := enc) (C := Tryz.checked) false (laidWorld os) #[.slice none 0 0, .agg #[.int .i64 0, .int .i64 0, .int .i64 0]] rfl (by kernel_rfl) (by kernel_rfl) (by kernel_rfl)
   (OpenSpec.preRow_of_cond 8 hx (by kernel_rfl) (fun k hk => by cases hk) (by kernel_rfl) (laid_met os))) ?_
 intro W base args ds gs before hval hW _ _ _ hL _ _
 exact contract H enc W base args ds gs before hval hW hL
theorem said : Rows.BookChecksSaid :=
 OpenClaim.holds_of_cond 5 Tryz.f5 rfl rfl rfl rfl rfl rfl rfl ⟨rfl, rfl, rfl, rfl, rfl⟩ rfl rfl rfl rfl rfl (by kernel_rfl) Tryz.func5 (by kernel_rfl)
  (of_decide_eq_true (by kernel_rfl)) (by unfold Func.isWrapper; first | (rw [if_pos (by decide +kernel)]; kernel_rfl) | (rw [if_neg (by decide +kernel)]; exact ⟨rfl, rfl⟩))
  (fun os started H enc _ F => by rw [OpenClaim.pre_eq_preRow]; exact lifted os started H enc F)
theorem wants : Tryz.f5.params.all (fun t => !Tryz.prog.wantsStandIn t) = true := by kernel_rfl
theorem plain (f : FuncId) (fn : Func) (hf : Tryz.pinned.checked.prog.funcNamed "rollbook/rollbooklaw28.BookChecks" = some f) (hfn : Tryz.pinned.checked.prog.funcs[f]? = some fn) :
  false = Tryz.pinned.checked.prog.looks [] ∧ ∀ (j : Nat) t, fn.params[j]? = some t → Tryz.pinned.checked.prog.wantsStandIn t = false := by
 obtain rfl : f = 5 := Option.some.inj ((show Tryz.prog.funcNamed "rollbook/rollbooklaw28.BookChecks" = some 5 by kernel_rfl).symm.trans hf) |>.symm
 obtain rfl : fn = Tryz.f5 := (Option.some.inj (Tryz.func5.symm.trans hfn)).symm
 refine ⟨by kernel_rfl, fun j t ht => ?_⟩
 have := Array.all_eq_true_iff_forall_mem.1 wants t (Array.mem_of_getElem? ht)
 exact (by simpa using this : Tryz.prog.wantsStandIn t = false)
theorem card : Rows.BookChecksCardSaid :=
 Claim7.holds_tied_plain_at .later [] _ _ _ _ said (fun _ h => by cases h) (by kernel_rfl) (fun _ h => by cases h) bookChecks_row_tie rfl ⟨rfl, rfl⟩ (by kernel_rfl) rfl plain (by kernel_rfl)
#print axioms card
end Go.Proofs.YtakaielemicpkaaGreatDoor.rowBookChecks
