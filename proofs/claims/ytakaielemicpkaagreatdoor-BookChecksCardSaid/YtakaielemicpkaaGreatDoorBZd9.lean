/- A section of a book is corrected. No condition but sizes.
slices.Grow and slices.Concat at lines. No condition.
The page and the line of a word. No condition but sizes.
A text of wide words. No condition. -/
import Derived.Test.YtakaielemicpkaaGreatDoorBZd8
import Derived.LoopIn
import Derived.Sort.CutIn
namespace Go.Proofs.YtakaielemicpkaaGreatDoor
open Go.RowKit
def corrS (s : SectP) (v : Int) (t : TextP) : SectP := ⟨s.entry, s.frozen, (if s.frozen then s.vers else []) ++ [v], (if s.frozen then s.texts else []) ++ [t]⟩
theorem corrS_short {s : SectP} {v : Int} {a b : List (List Word)} (h : ShortX s) (hl : (corrS s v ⟨a, b⟩).vers.length ≤ 100) (ht : s.texts.length ≤ s.vers.length) (ha : ShortT a) (hb : ShortT b) : ShortX (corrS s v ⟨a, b⟩) := by
 refine ⟨by omega, ?_, fun t ht => ?_⟩
 ·unfold corrS at hl ⊢
  cases hf : s.frozen
  ·simp
  ·rw [hf] at hl
   simp at hl ⊢
   omega
 ·unfold corrS at ht
  rcases List.mem_append.1 ht with h1 | h1
  ·cases hf : s.frozen
   ·rw [hf] at h1
    simp at h1
   ·rw [hf] at h1
    exact h.2.2 t h1
  ·rw [List.mem_singleton] at h1
   subst h1
   exact ⟨ha, hb⟩
theorem corrS_wf {s : SectP} {v : Int} {t : TextP} (h : s.texts.length ≤ s.vers.length) : (corrS s v t).texts.length ≤ (corrS s v t).vers.length := by
 unfold corrS
 cases s.frozen
 ·simp
 ·simp; omega
set_option maxRecDepth 100000 in
set_option maxHeartbeats 16000000 in
theorem correct_frozen (A : Option Addr) (c : Nat) (l : List SectP) (m h entry version : Int) (A1 B1 : Option Addr) (c1 d1 : Nat) (a b : List (List Word)) (w : World) (hT : Laid w) (hs : Sl w (fun b => b < w.heap.size) A c l) (hsh : ShortS l) (hwf : WfS l) (hI : I64 h)
  (ha : Sl w (fun b => b < w.heap.size) A1 c1 a) (hb : Sl w (fun b => b < w.heap.size) B1 d1 b) (hsa : ShortT a) (hsb : ShortT b) (k : Nat) (hk : k < l.length) (hf : findP l entry = (k : Int)) (s : SectP) (hks : l[k]? = some s) (hfr : s.frozen = true) (hv : 0 ≤ version ∧ version ≤ 2147483647) (hnv : version ∉ s.vers) (hE : wrongE m h a b = 0)
  (hlim : (corrS s version ⟨a, b⟩).vers.length ≤ 100) (hpn : (pagesB m h (l.set k (corrS s version ⟨a, b⟩))).length ≤ 1000000000) :
  Calls Tryz.prog 38 #[.agg #[.int .i64 m, .int .i64 h, .slice A l.length c], .int .i64 entry, .int .i64 version, .agg #[.slice A1 a.length c1, .slice B1 b.length d1]] w fun x W' => ∃ v, x = .returned (fitsV m h v (pagesB m h (l.set k (corrS s version ⟨a, b⟩))).length) ∧ OwnP W' w.heap.size 45 v (l.set k (corrS s version ⟨a, b⟩)) (Up w.heap.size) ∧ Below w.heap.size w W' := by
 obtain ⟨wb, hwb⟩ : ∃ wb, ((w.alloc (.cells #[.int .i64 m, .int .i64 h, .slice A l.length c] 27)).alloc (.cells #[.slice A1 a.length c1, .slice B1 b.length d1] 50)).alloc (.cells #[.int .i64 0, .int .i64 0, .slice none 0 0] 27) = wb := ⟨_, rfl⟩
 have hba : Below w.heap.size w wb := by rw [← hwb]; exact (((Below.refl _ _).alloc (Nat.le_refl _) _).alloc (by simp) _).alloc (by simp; omega) _
 have hz : wb.heap.size = w.heap.size + 3 := by rw [← hwb]; simp
 have hx0 : ABox wb w.heap.size 27 [.int .i64 m, .int .i64 h, .slice A l.length c] := by rw [← hwb]; exact (Below.heap_alloc _ _ _ (by simp; omega)).trans ((Below.heap_alloc _ _ _ (by simp)).trans (heap_alloc_new w _))
 have hx1 : ABox wb (w.heap.size + 1) 50 [.slice A1 a.length c1, .slice B1 b.length d1] := by rw [← hwb]; exact (Below.heap_alloc _ _ _ (by simp)).trans (heap_at (by simp))
 have hx2 : ABox wb (w.heap.size + 2) 27 [.int .i64 0, .int .i64 0, .slice none 0 0] := by rw [← hwb]; exact heap_at (by simp)
 have hl63 : l.length ≤ 1048576 := hsh.1
 have HXS : Hid (ShortX s) := Lh (hsh.2 s (List.mem_of_getElem? hks))
 have HWS : Hid (s.texts.length ≤ s.vers.length) := Lh (hwf s (List.mem_of_getElem? hks))
 have HSH : Hid (ShortS (l.set k (corrS s version ⟨a, b⟩))) := Lh ⟨by rw [List.length_set]; exact hsh.1, fun x hx => by
  rcases List.mem_or_eq_of_mem_set hx with h | h
  ·exact hsh.2 x h
  ·subst h
   exact corrS_short HXS.out hlim HWS.out hsa hsb⟩
 have HWF : Hid (WfS (l.set k (corrS s version ⟨a, b⟩))) := Lh (fun x hx => by
  rcases List.mem_or_eq_of_mem_set hx with h | h
  ·exact hwf x h
  ·subst h
   exact corrS_wf HWS.out)
 have HF := Lh (find_any A c l m h entry wb (hs.to hba) (by omega))
 have HCL : Hid (∀ W, Below wb.heap.size wb W → Calls Tryz.prog 58 #[.agg #[.int .i64 m, .int .i64 h, .slice A l.length c]] W fun e w' => ∃ g rows, e = .returned (.agg #[.int .i64 m, .int .i64 h, .slice (some ⟨g, 0, none⟩) l.length l.length]) ∧ W.heap.size ≤ g ∧ g < w'.heap.size ∧ CX w' g rows l l.length ∧ Below W.heap.size W w') :=
  Lh fun W hW => cloned_own A c l m h W ((hs.to hba).to hW) hsh
 have HWR : Hid (∀ W, Below wb.heap.size wb W → Calls Tryz.prog 68 #[.agg #[.int .i64 m, .int .i64 h, .slice A l.length c], .agg #[.slice A1 a.length c1, .slice B1 b.length d1]] W fun e w' => e = .returned (.int .i64 0) ∧ Below W.heap.size W w') :=
  Lh fun W hW => by
   have := wrong_any A1 B1 c1 d1 a b m h (.slice A l.length c) rfl W ((hT.to hba).to hW) ((ha.to hba).to hW) ((hb.to hba).to hW) hI hsa.1 hsb.1
   rwa [hE] at this
 have HTX : Hid (∀ W, Below wb.heap.size wb W → Calls Tryz.prog 45 #[.agg #[.slice A1 a.length c1, .slice B1 b.length d1]] W fun e w' => ∃ va vb, e = .returned (.agg #[va, vb]) ∧ Rep.R w' (Up W.heap.size) [va, vb] (⟨a, b⟩ : TextP) ∧ Below W.heap.size W w') :=
  Lh fun W hW => btext_any A1 B1 c1 d1 a b W ((ha.to hba).to hW) ((hb.to hba).to hW) hsa hsb
 have HW : Hid (∀ W, Calls Tryz.prog 48 #[.int .i64 version, .int .i64 0, .int .i64 2147483647] W fun e w' => e = .returned (.bool true) ∧ W = w') := Lh fun W => by
  have := within_any version 0 2147483647 W
  rwa [decide_eq_true hv] at this
 obtain ⟨b0, o0, Ag, cg, An, cn, hA, hbl, -, s0, s1, s2, s3, hvS, -, hIE⟩ := sect_at hs hk
 have hsk : l[k] = s := by rw [List.getElem?_eq_getElem hk] at hks; exact Option.some.inj hks
 rw [hsk] at s0 s1 s2 s3 hvS hIE
 subst hA
 have HCN : Hid (∀ W, Below wb.heap.size wb W → Calls Tryz.prog 70 #[.slice Ag s.vers.length cg, .int .i64 version] W fun e w' => e = .returned (.bool false) ∧ W = w') := Lh fun W hW => by
  have := containsI_any Ag cg s.vers version W ((hvS.to hba).to hW) (by have := HXS.out.1; omega)
  rwa [decide_eq_false hnv] at this
 have s2b : wb.cell? ⟨b0, o0 + k * 4 + 2, none⟩ = some (.slice Ag s.vers.length cg) := (hba.cell (p := ⟨b0, o0 + k * 4 + 2, none⟩) hbl).trans s2
 have HSB : Hid (b0 < wb.heap.size ∧ wb.cell? ⟨b0, o0 + k * 4 + 2, none⟩ = some (.slice Ag s.vers.length cg)) := Lh ⟨by have := hbl; omega, s2b⟩
 have hlc : l.length ≤ c := hs.1
 have hk0 : ¬ ((k : Int) < 0) := by omega
 have hk1 : (0 : Int) ≤ (k : Int) := by omega
 have hkl : (k : Int) < (l.length : Int) := by omega
 have HLA := Lh (hT.to hba)
 have HI := Lh hI
 have HIV : Hid (I64 version) := Lh (by unfold I64; omega)
 have HPN := Lh hpn
 have HLIM := Lh hlim
 have HX0 := Lh hx0
 have HX1 := Lh hx1
 have HX2 := Lh hx2
 have HB := Lh hba
 have HZ := Lh hz
 have HWB := Lh hwb
 have HKS := Lh hks
 have HFR := Lh hfr
 have HSK := Lh hsk
 have k0 := hx0.cell 0 rfl
 have k1 := hx0.cell 1 rfl
 have k2 := hx0.cell 2 rfl
 clear hs hsh hwf hI ha hb hsa hsb hv hnv hE hpn hlim hT hba hx0 hx1 hx2 hwb hz hks hfr hsk s0 s1 s2 s3 s2b hvS hIE hbl
 rw [hf] at HF
 clear hf
 go_enter Tryz.func38, Tryz.ntmps38
 go_upto_region 1 with (fail)
 rw [HWB.out]
 go_upto_region 12 with (first
  |(go_at_call 43; refine HF.out.mono ?_; rintro e w1 ⟨rfl, hb1⟩; have HB1 := Lh hb1; have HX01 := Lh (HX0.out.to hb1); have HX11 := Lh (HX1.out.to hb1); have s2 := (hb1.cell (p := ⟨b0, o0 + k * 4 + 2, none⟩) HSB.out.1).trans HSB.out.2; clear hb1 k0 k1 k2;
    have k0 := HX01.out.cell 0 rfl; have k1 := HX01.out.cell 1 rfl; have k2 := HX01.out.cell 2 rfl; have e0 := HX11.out.cell 0 rfl; have e1 := HX11.out.cell 1 rfl)
  |(go_at_call 48; refine (HW.out _).mono ?_; rintro e w9 ⟨rfl, rfl⟩)
  |(go_at_call 70; refine (HCN.out _ HB1.out).mono ?_; rintro e w9 ⟨rfl, rfl⟩)
  |(go_at_call 68; refine (HWR.out _ HB1.out).mono ?_; rintro e w2 ⟨rfl, hb2⟩; have HB2 := Lh hb2; have HX02 := Lh (HX01.out.to hb2); clear hb2 k0 k1 k2 e0 e1 s2;
    have k0 := HX02.out.cell 0 rfl; have k1 := HX02.out.cell 1 rfl; have k2 := HX02.out.cell 2 rfl)
  |(go_at_call 58; refine (HCL.out _ (HB1.out.trans (HB2.out.mono HB1.out.size))).mono ?_; rintro e w3 ⟨g, rows, rfl, hgw, hg3, hcx, hb3⟩; have HCX := Lh hcx; have HGW := Lh hgw; have HG3 := Lh hg3; have HB3 := Lh hb3; clear hcx hgw hg3 hb3 k0 k1 k2)
  | fail)
 obtain ⟨w4, hw4⟩ : ∃ w4, w3.alloc (.cells #[.int .i64 m, .int .i64 h, .slice (some ⟨g, 0, none⟩) l.length l.length] 27) = w4 := ⟨_, rfl⟩
 have hb4 : Below w3.heap.size w3 w4 := by rw [← hw4]; exact (Below.refl _ _).alloc (Nat.le_refl _) _
 have hx4 : ABox w4 w3.heap.size 27 [.int .i64 m, .int .i64 h, .slice (some ⟨g, 0, none⟩) l.length l.length] := by rw [← hw4]; exact heap_alloc_new w3 _
 have hz4 : w4.heap.size = w3.heap.size + 1 := by rw [← hw4]; simp
 rw [hw4]
 clear hw4
 have HS : Hid (w.heap.size + 3 ≤ g ∧ g < w3.heap.size ∧ w4.heap.size = w3.heap.size + 1) := Lh ⟨by have := HZ.out; have := HB1.out.size; have := HB2.out.size; have := HGW.out; omega, HG3.out, hz4⟩
 have HBW4 : Hid (Below wb.heap.size wb w4) := Lh (((HB1.out.trans (HB2.out.mono HB1.out.size)).trans (HB3.out.mono (by have := HB1.out.size; have := HB2.out.size; omega))).trans (hb4.mono (by have := HB1.out.size; have := HB2.out.size; have := HB3.out.size; omega)))
 have HX4 := Lh hx4
 have HX14 := Lh (HX1.out.to HBW4.out)
 have HX24 := Lh (HX2.out.to HBW4.out)
 have k2 := hx4.cell 2 rfl
 obtain ⟨v1, v2, hck3⟩ := HCX.out.ck hk
 rw [HSK.out] at hck3
 have HNO : Hid (∀ q, v1.ownBlock = some q → q < w3.heap.size) := Lh (fun q hq => (hck3.ko.lt q hq).2)
 have hck := hck3.to hb4
 clear hck3
 obtain ⟨-, r1, r2, r3, hfz⟩ := hck.cells
 rw [HFR.out] at r1
 have hfz2 := hfz (k * 4 + 2)
 have hfz3 := hfz (k * 4 + 3)
 have HCK4 := Lh hck
 obtain ⟨ob, hob⟩ : ∃ ob, w3.heap.size = ob := ⟨_, rfl⟩
 rw [hob] at HS HX4 HNO ⊢
 rw [hob] at k2
 clear hb4 hx4 hz4 hck hfz HB3 HB2 HB1 HX01 HX11 HX02 HX0 HX1 HX2 HF HCL HWR HW HWB HCN HSB HCX HGW HG3 hob
 go_upto_region 15 with (fail)
 clear k2 r1 r2 r3 hfz2 hfz3
 have HCK := HCK4
 have HFI : Hid (l.set k ⟨s.entry, s.frozen, s.vers ++ [version], s.texts ++ [⟨a, b⟩]⟩ = l.set k (corrS s version ⟨a, b⟩) ∧ l.length = l.length) := Lh ⟨by unfold corrS; rw [HFR.out]; rfl, rfl⟩
 have HNS : Hid (s.vers.length + 1 ≤ 100 ∧ s.texts.length ≤ 1048576) := Lh ⟨by have := HLIM.out; unfold corrS at this; rw [HFR.out] at this; simpa using this, HXS.out.2.1⟩
 obtain ⟨w5, hw5⟩ : ∃ w5, w4 = w5 := ⟨_, rfl⟩
 have HB5 := HBW4
 have HX5 := HX4
 have HX15 := HX14
 have HX25 := HX24
 have HS5 := HS
 rw [hw5] at HCK HB5 HX5 HX15 HX25 HS5 ⊢
 obtain ⟨l5, hl5⟩ : ∃ l5, l = l5 := ⟨_, rfl⟩
 obtain ⟨s5, hs5⟩ : ∃ s5, s = s5 := ⟨_, rfl⟩
 have HFI5 : Hid (l5.set k ⟨s5.entry, s5.frozen, s5.vers ++ [version], s5.texts ++ [⟨a, b⟩]⟩ = l.set k (corrS s version ⟨a, b⟩) ∧ l5.length = l.length) := Lh (by rw [← hl5, ← hs5]; exact HFI.out)
 have HNS5 : Hid (s5.vers.length + 1 ≤ 100 ∧ s5.texts.length ≤ 1048576) := Lh (by rw [← hs5]; exact HNS.out)
 have HNO5 := HNO
 have HCK5 : Hid (CK w5 g rows l5 k s5 v1 v2) := Lh (by rw [← hl5, ← hs5]; exact HCK.out)
 clear hl5 hs5 hw5 HCK HCK4 HFI HNS HBW4 HX4 HX14 HX24 HS
 obtain ⟨V1, cv1, hv1, -, hvc, hvm⟩ := HCK5.out.ko.form
 obtain ⟨V2, hv2⟩ := HCK5.out.kc
 subst hv1
 subst hv2
 obtain ⟨n1, hn1⟩ : ∃ n1, s5.vers.length = n1 := ⟨_, rfl⟩
 obtain ⟨n2, hn2⟩ : ∃ n2, s5.texts.length = n2 := ⟨_, rfl⟩
 rw [hn1, hn2] at HCK5
 rw [hn1] at HNO5
 have HN1 := Lh hn1
 have HN2 := Lh hn2
 have hn1l : n1 + 1 ≤ 100 := by have := HNS5.out.1; omega
 have hn2l : n2 ≤ 1048576 := by have := HNS5.out.2; omega
 clear hn1 hn2 hvc hvm
 refine wp_region_D (fun w' => w'.cell? ⟨g, k * 4 + 2, none⟩ = some (.slice V1 n1 cv1) ∧ w'.cell? ⟨g, k * 4 + 3, none⟩ = some (.slice V2 n2 n2) ∧ w'.cell? ⟨w.heap.size + 1, 0, none⟩ = some (.slice A1 a.length c1) ∧ w'.cell? ⟨w.heap.size + 1, 1, none⟩ = some (.slice B1 b.length d1)) (fun i => decide (i < 19 ∧ i ≠ 1)) (by kernel_rfl) ?_
 have hbz : Below w5.heap.size w5 w5.drew := (Below.refl _ _).drew
 have HCK6 := Lh (HCK5.out.to hbz)
 have HB6 : Hid (Below wb.heap.size wb w5.drew) := Lh (HB5.out.trans (hbz.mono HB5.out.size))
 have HX6 := Lh (HX5.out.to hbz)
 have HX16 := Lh (HX15.out.to hbz)
 have HX26 := Lh (HX25.out.to hbz)
 have HS6 : Hid (w.heap.size + 3 ≤ g ∧ g < ob ∧ w5.drew.heap.size = ob + 1) := HS5
 clear hbz HCK5 HB5 HX5 HX15 HX25 HS5
 generalize w5.drew = wx at *
 clear w5
 have hS0 : wx.cell? ⟨g, k * 4 + 2, none⟩ = some (.slice V1 n1 cv1) ∧ wx.cell? ⟨g, k * 4 + 3, none⟩ = some (.slice V2 n2 n2) ∧ wx.cell? ⟨w.heap.size + 1, 0, none⟩ = some (.slice A1 a.length c1) ∧ wx.cell? ⟨w.heap.size + 1, 1, none⟩ = some (.slice B1 b.length d1) := ⟨HCK6.out.cells.2.2.1, HCK6.out.cells.2.2.2.1, HX16.out.cell 0 rfl, HX16.out.cell 1 rfl⟩
 have HOG : Hid (some g ≠ (Value.slice V1 n1 cv1).ownBlock) := Lh HCK6.out.off
 have HOL : Hid (∀ q, (Value.slice V1 n1 cv1).ownBlock = some q → g + 1 ≤ q ∧ q < wx.heap.size) := Lh HCK6.out.ko.lt
 have HSP : Hid (∀ W, KS (fun i => some i ≠ (Value.slice V1 n1 cv1).ownBlock) wx W → W.cell? ⟨g, k * 4 + 2, none⟩ = some (.slice V1 n1 cv1) ∧ W.cell? ⟨g, k * 4 + 3, none⟩ = some (.slice V2 n2 n2) ∧ W.cell? ⟨w.heap.size + 1, 0, none⟩ = some (.slice A1 a.length c1) ∧ W.cell? ⟨w.heap.size + 1, 1, none⟩ = some (.slice B1 b.length d1)) := Lh (fun W hW => by
  have e1 : some (w.heap.size + 1) ≠ (Value.slice V1 n1 cv1).ownBlock := fun e => by have := (HOL.out _ e.symm).1; have := HS6.out; omega
  exact ⟨hW.kept.cell HOG.out hS0.1, hW.kept.cell HOG.out hS0.2.1, hW.kept.cell e1 hS0.2.2.1, hW.kept.cell e1 hS0.2.2.2⟩)
 refine wpAnyF_take (i := 1) (oi := ⟨some 58, Op.move (Operand.tmp 13), 115, _, _, _⟩) (v := ?_) rfl (by kernel_rfl) (by kernel_rfl) (by kernel_rfl) (by kernel_rfl) (fun _ _ _ h => h) (by rfl) ?hykr15f_1 ?hrkr15f_1
 case hykr15f_1 => (intro wS; go_simp; (try with_reducible rfl))
 all_goals try simp only [Act.put, sA0, sZ0, sS0]
 refine wpAnyG_take (i := 0) (oi := ⟨some 57, Op.move (Operand.tmp 13), 115, _, _, _⟩) (v := ?_) rfl (by kernel_rfl) (by kernel_rfl) (by kernel_rfl) (by kernel_rfl) (by kernel_rfl) (fun _ _ _ h => h) (by rfl) ?hykr15f_2 (hS0) ?hrkr15f_2
 case hykr15f_2 => (intro wS hSw; clear hSw; go_simp; (try with_reducible rfl))
 all_goals try simp only [Act.put, sA0, sZ0, sS0]
 refine wpAnyG_take (i := 2) (oi := ⟨some 59, Op.move (Operand.tmp 13), 115, _, _, _⟩) (v := ?_) rfl (by kernel_rfl) (by kernel_rfl) (by kernel_rfl) (by kernel_rfl) (by kernel_rfl) (fun _ _ _ h => h) (by rfl) ?hykr15f_3 (hS0) ?hrkr15f_3
 case hykr15f_3 => (intro wS hSw; clear hSw; go_simp; (try with_reducible rfl))
 all_goals try simp only [Act.put, sA0, sZ0, sS0]
 refine wpAnyG_take (i := 3) (oi := ⟨some 60, Op.nilCheck (Operand.tmp 59), 0, _, _, _⟩) (v := ?_) rfl (by kernel_rfl) (by kernel_rfl) (by kernel_rfl) (by kernel_rfl) (by kernel_rfl) (fun _ _ _ h => h) (by rfl) ?hykr15f_4 (hS0) ?hrkr15f_4
 case hykr15f_4 => (intro wS hSw; clear hSw; go_simp; (try with_reducible rfl))
 all_goals try simp only [Act.put, sA0, sZ0, sS0]
 refine wpAnyG_take (i := 4) (oi := ⟨some 61, Op.fieldAddr 45 (Operand.tmp 60) 2, 0, _, _, _⟩) (v := ?_) rfl (by kernel_rfl) (by kernel_rfl) (by kernel_rfl) (by kernel_rfl) (by kernel_rfl) (fun _ _ _ h => h) (by rfl) ?hykr15f_5 (hS0) ?hrkr15f_5
 case hykr15f_5 => (intro wS hSw; clear hSw; go_simp; (try with_reducible rfl))
 all_goals try simp only [Act.put, sA0, sZ0, sS0]
 refine wpAnyG_take (i := 5) (oi := ⟨some 62, Op.load 22 (Operand.tmp 61), 22, _, _, _⟩) (v := ?_) rfl (by kernel_rfl) (by kernel_rfl) (by kernel_rfl) (by kernel_rfl) (by kernel_rfl) (fun _ _ _ h => h) (by rfl) ?hykr15f_6 (hS0) ?hrkr15f_6
 case hykr15f_6 => (intro wS hSw; (have hq := hSw.1); clear hSw; go_simp; (try with_reducible rfl))
 all_goals try simp only [Act.put, sA0, sZ0, sS0]
 refine wpAnyG_take (i := 6) (oi := ⟨some 63, Op.move (Operand.tmp 2), 3, _, _, _⟩) (v := ?_) rfl (by kernel_rfl) (by kernel_rfl) (by kernel_rfl) (by kernel_rfl) (by kernel_rfl) (fun _ _ _ h => h) (by rfl) ?hykr15f_7 (hS0) ?hrkr15f_7
 case hykr15f_7 => (intro wS hSw; clear hSw; go_simp; (try with_reducible rfl))
 all_goals try simp only [Act.put, sA0, sZ0, sS0]
 refine wpAnyG_take (i := 9) (oi := ⟨some 66, Op.move (Operand.tmp 13), 115, _, _, _⟩) (v := ?_) rfl (by kernel_rfl) (by kernel_rfl) (by kernel_rfl) (by kernel_rfl) (by kernel_rfl) (fun _ _ _ h => h) (by rfl) ?hykr15f_8 (hS0) ?hrkr15f_8
 case hykr15f_8 => (intro wS hSw; clear hSw; go_simp; (try with_reducible rfl))
 all_goals try simp only [Act.put, sA0, sZ0, sS0]
 refine wpAnyG_take (i := 10) (oi := ⟨some 67, Op.nilCheck (Operand.tmp 66), 0, _, _, _⟩) (v := ?_) rfl (by kernel_rfl) (by kernel_rfl) (by kernel_rfl) (by kernel_rfl) (by kernel_rfl) (fun _ _ _ h => h) (by rfl) ?hykr15f_9 (hS0) ?hrkr15f_9
 case hykr15f_9 => (intro wS hSw; clear hSw; go_simp; (try with_reducible rfl))
 all_goals try simp only [Act.put, sA0, sZ0, sS0]
 refine wpAnyG_take (i := 11) (oi := ⟨some 68, Op.fieldAddr 45 (Operand.tmp 67) 3, 0, _, _, _⟩) (v := ?_) rfl (by kernel_rfl) (by kernel_rfl) (by kernel_rfl) (by kernel_rfl) (by kernel_rfl) (fun _ _ _ h => h) (by rfl) ?hykr15f_10 (hS0) ?hrkr15f_10
 case hykr15f_10 => (intro wS hSw; clear hSw; go_simp; (try with_reducible rfl))
 all_goals try simp only [Act.put, sA0, sZ0, sS0]
 refine wpAnyG_take (i := 12) (oi := ⟨some 69, Op.load 43 (Operand.tmp 68), 43, _, _, _⟩) (v := ?_) rfl (by kernel_rfl) (by kernel_rfl) (by kernel_rfl) (by kernel_rfl) (by kernel_rfl) (fun _ _ _ h => h) (by rfl) ?hykr15f_11 (hS0) ?hrkr15f_11
 case hykr15f_11 => (intro wS hSw; (have hq := hSw.2.1); clear hSw; go_simp; (try with_reducible rfl))
 all_goals try simp only [Act.put, sA0, sZ0, sS0]
 refine wpAnyG_take (i := 13) (oi := ⟨some 70, Op.load 50 (Operand.tmp 7), 50, _, _, _⟩) (v := ?_) rfl (by kernel_rfl) (by kernel_rfl) (by kernel_rfl) (by kernel_rfl) (by kernel_rfl) (fun _ _ _ h => h) (by rfl) ?hykr15f_12 (hS0) ?hrkr15f_12
 case hykr15f_12 => (intro wS hSw; (have hq := hSw.2.2.1); (have hq2 := hSw.2.2.2); clear hSw; go_simp; (try with_reducible rfl))
 all_goals try simp only [Act.put, sA0, sZ0, sS0]
 refine wpAnyD_one (i := 7) (oi := ⟨some 64, Op.buildSlice 22 1 #[(0, Operand.tmp 63)], 22, _, _, _⟩) rfl (by kernel_rfl) (by rfl) (fun K hK => ?_)
 go_simp
 have HR7 : Hid (Rep.R (wx.alloc (.cells #[.int .i64 version] 3)) (Up wx.heap.size) [.slice (some ⟨wx.heap.size, 0, none⟩) 1 1] [version]) := Lh (rp_int (B := wx.heap.size) (Nat.le_refl _) HIV.out).2
 have HK7 : Hid (KS (fun i => some i ≠ (Value.slice V1 n1 cv1).ownBlock) wx (wx.alloc (.cells #[.int .i64 version] 3))) := Lh (KS.alloc _)
 have HB7 : Hid (Below wx.heap.size wx (wx.alloc (.cells #[.int .i64 version] 3))) := Lh ((Below.refl _ _).alloc (Nat.le_refl _) _)
 generalize wx.alloc (.cells #[.int .i64 version] 3) = w7 at *
 refine hK _ _ (fun _ => ?_) ?_
 ·exact (HSP.out _ HK7.out)
 clear hK K
 try simp only [Act.put, sA0, sZ0, sS0]
 refine wpAnyD_one (i := 8) (oi := ⟨some 65, Op.call { callee := Callee.builtin Builtin.append, args := #[Operand.tmp 62, Operand.tmp 64], argTypes := #[22, 22] }, 22, _, _, _⟩) rfl (by kernel_rfl) (by rfl) (fun K hK => ?_)
 refine wp_cat w7 (α := Int) (.tmp 62) (.tmp 64) 22 rfl (g + 1) 3 (.int .i64 0) 8 Tryz.underlying22 int_info rfl (by decide) (.slice V1 n1 cv1) s5.vers rfl (HCK6.out.ko.below HB7.out) (some ⟨wx.heap.size, 0, none⟩) 1 1 [version] rfl rfl (Up wx.heap.size) (by obtain ⟨A, c, e, hs, -⟩ := HR7.out; cases e; exact hs) (fun i hi _ e => by have := (HOL.out i e.symm).2; have h9 : wx.heap.size ≤ i := hi; omega) (by rw [HN1.out]; omega) (by rw [HN1.out]; omega) (by have := HB7.out.size; have := HS6.out; omega) ?_
 intro v8 w8 ho8 hg8 hat8
 have HO8 := Lh ho8
 have HK8 : Hid (KS (fun i => some i ≠ (Value.slice V1 n1 cv1).ownBlock) wx w8) := Lh (HK7.out.trans (KS.grown hg8 (fun i e h => h e.symm)))
 have HB8 : Hid (Below wb.heap.size wb w8) := Lh ((HB6.out.trans (HB7.out.mono HB6.out.size)).grown hg8 (by have := HB6.out.size; have := HB7.out.size; omega) (fun q hq => by have := (HOL.out q hq).1; have := HS6.out; have := HZ.out; omega))
 have HF8 : Hid (∃ A, ∃ c, v8 = .slice A (n1 + 1) c) := Lh (by obtain ⟨A, c, e, -⟩ := ho8.form; rw [List.length_append, List.length_singleton, HN1.out] at e; exact ⟨A, c, e⟩)
 clear ho8 hg8 hat8
 obtain ⟨A8, c8, hv8⟩ := HF8.out
 subst hv8
 clear HF8
 refine hK _ _ (fun _ => ?_) ?_
 ·exact (HSP.out _ HK8.out)
 clear hK K
 try simp only [Act.put, sA0, sZ0, sS0]
 refine wpAnyD_one (i := 14) (oi := ⟨some 71, Op.call { callee := Callee.value (Operand.func 45), args := #[Operand.tmp 70], argTypes := #[50] }, 50, _, _, _⟩) rfl (by kernel_rfl) (by rfl) (fun K hK => ?_)
 go_simp
 go_at_call 45
 refine (HTX.out w8 HB8.out).mono ?_
 rintro e w14 ⟨va, vb, rfl, hr1, hb1⟩
 obtain ⟨x, y, e2, hr2, hr3⟩ := id hr1
 cases e2
 obtain ⟨A6, c6, e3, -⟩ := hr2
 obtain ⟨B6, d6, e4, -⟩ := hr3
 cases e3
 cases e4
 have HR14 := Lh hr1
 have HK14 : Hid (KS (fun i => some i ≠ (Value.slice V1 n1 cv1).ownBlock) wx w14) := Lh (HK8.out.trans (KS.of_below hb1 _))
 have HB14 := Lh hb1
 clear hr1 hb1
 go_simp
 refine hK _ _ (fun _ => ?_) ?_
 ·exact (HSP.out _ HK14.out)
 clear hK K
 try simp only [Act.put, sA0, sZ0, sS0]
 refine wpAnyD_one (i := 15) (oi := ⟨some 72, Op.buildSlice 43 1 #[(0, Operand.tmp 71)], 43, _, _, _⟩) rfl (by kernel_rfl) (by rfl) (fun K hK => ?_)
 go_simp
 have HR15 : Hid (Rep.R (w14.alloc (.cells #[.slice A6 a.length c6, .slice B6 b.length d6] 50)) (Up w8.heap.size) [.slice (some ⟨w14.heap.size, 0, none⟩) 1 1] [(⟨a, b⟩ : TextP)]) := Lh (rp_lit (B := w8.heap.size) (cs := [.slice A6 a.length c6, .slice B6 b.length d6]) HB14.out.size HR14.out).2
 have HB15 : Hid (Below w14.heap.size w14 (w14.alloc (.cells #[.slice A6 a.length c6, .slice B6 b.length d6] 50))) := Lh ((Below.refl _ _).alloc (Nat.le_refl _) _)
 have HK15 : Hid (KS (fun i => some i ≠ (Value.slice V1 n1 cv1).ownBlock) wx (w14.alloc (.cells #[.slice A6 a.length c6, .slice B6 b.length d6] 50))) := Lh (HK14.out.trans (KS.alloc _))
 generalize w14.alloc (.cells #[.slice A6 a.length c6, .slice B6 b.length d6] 50) = w15 at *
 refine hK _ _ (fun _ => ?_) ?_
 ·exact (HSP.out _ HK15.out)
 clear hK K
 try simp only [Act.put, sA0, sZ0, sS0]
 refine wpAnyD_one (i := 16) (oi := ⟨some 73, Op.call { callee := Callee.builtin Builtin.append, args := #[Operand.tmp 69, Operand.tmp 72], argTypes := #[43, 43] }, 43, _, _, _⟩) rfl (by kernel_rfl) (by rfl) (fun K hK => ?_)
 have HSd : Hid (Sl w15 (fun b => b < w15.heap.size) V2 n2 (s5.texts.map (Av.mk : TextP → Av TextP (fun b => g < b)))) := Lh (by
  obtain ⟨A, c, e, hs, -⟩ := Rep.keep HCK6.out.kt (w' := w15) (fun i hi hl => HK15.out.block i hi.2 hl)
  injection e with e
  cases e
  exact (hs.av (fun i hi _ => hi.1)).mono (fun i hi hl => hl))
 have HNd : Hid (Sl w15 (fun b => b < w15.heap.size) (some ⟨w14.heap.size, 0, none⟩) 1 [(⟨⟨a, b⟩⟩ : Av TextP (fun b => g < b))]) := Lh (by
  obtain ⟨A, c, e, hs, -⟩ := HR15.out
  cases e
  refine Sl.mono (Sl.av (α := TextP) (P := fun b => g < b) hs (fun i hi _ => ?_)) (fun i hi hl => hl)
  have hi : w8.heap.size ≤ i := hi
  have := HS6.out
  have := HK8.out.size
  show g < i
  omega)
 refine wp_fresh (α := Av TextP (fun b => g < b)) (.tmp 69) (.tmp 72) 43 rfl 50 (.agg #[.slice none 0 0, .slice none 0 0]) 48 Tryz.underlying43 text_info rfl (show 0 < 2 by decide) V2 n2 (s5.texts.map Av.mk) rfl (by rw [List.length_map]; exact HN2.out) HSd.out (some ⟨w14.heap.size, 0, none⟩) 1 1 [⟨⟨a, b⟩⟩] rfl rfl HNd.out (by omega) (by omega) (by omega) ?_
 intro v16 w16 ho16 hb16
 have HF16 : Hid (∃ A, ∃ c, v16 = .slice A (n2 + 1) c) := Lh (by obtain ⟨A, c, e, -⟩ := ho16.form; rw [List.length_append, List.length_singleton, List.length_map, HN2.out] at e; exact ⟨A, c, e⟩)
 have HO16 : Hid (Rep.R w16 (fun b => g < b) [v16] (s5.texts ++ [(⟨a, b⟩ : TextP)])) := Lh ((show OwnP w16 w15.heap.size 50 v16 (s5.texts ++ [(⟨a, b⟩ : TextP)]) (fun b => g < b) from ⟨by rw [List.map_append]; exact ho16, fun q hq => by have := (ho16.lt q hq).1; have := HS6.out; have := HK15.out.size; show g < q; omega⟩).rep (by rw [List.length_append, List.length_singleton, HN2.out]; omega) (fun i hi _ => hi))
 have HK16 : Hid (KS (fun i => some i ≠ (Value.slice V1 n1 cv1).ownBlock) wx w16) := Lh (HK15.out.trans (KS.of_below hb16 _))
 have HB16 : Hid (Below w8.heap.size w8 w16) := Lh ((HB14.out.trans (HB15.out.mono HB14.out.size)).trans (hb16.mono (by have := HB14.out.size; have := HB15.out.size; omega)))
 clear ho16 hb16
 obtain ⟨A16, c16, hv16⟩ := HF16.out
 subst hv16
 clear HF16 HSd HNd
 have HCELL : Hid (w16.cell? ⟨g, k * 4 + 2, none⟩ = some (.slice V1 n1 cv1) ∧ w16.cell? ⟨g, k * 4 + 3, none⟩ = some (.slice V2 n2 n2)) := Lh ⟨(HSP.out _ HK16.out).1, (HSP.out _ HK16.out).2.1⟩
 have HFZ : Hid (∀ o, w16.frozen? ⟨g, o, none⟩ = false) := Lh (fun o => by
  have h2 := HK16.out.block g HOG.out HCK6.out.glt
  have h3 : w16.frozen? ⟨g, o, none⟩ = wx.frozen? ⟨g, o, none⟩ := by simp only [World.frozen?, h2]
  exact h3.trans (HCK6.out.cells.2.2.2.2 o))
 refine hK _ _ (fun _ => ?_) ?_
 ·exact (HSP.out _ HK16.out)
 clear hK K
 try simp only [Act.put, sA0, sZ0, sS0]
 refine wpAnyG_take (i := 17) (oi := ⟨some 74, Op.nilCheck (Operand.tmp 57), 0, _, _, _⟩) (v := ?_) rfl (by kernel_rfl) (by kernel_rfl) (by kernel_rfl) (by kernel_rfl) (by kernel_rfl) (fun _ _ _ h => h) (by rfl) ?hykr15f_13 ((HSP.out _ HK16.out)) ?hrkr15f_13
 case hykr15f_13 => (intro wS hSw; clear hSw; go_simp; (try with_reducible rfl))
 all_goals try simp only [Act.put, sA0, sZ0, sS0]
 refine wpAnyG_take (i := 18) (oi := ⟨some 75, Op.fieldAddr 45 (Operand.tmp 74) 2, 0, _, _, _⟩) (v := ?_) rfl (by kernel_rfl) (by kernel_rfl) (by kernel_rfl) (by kernel_rfl) (by kernel_rfl) (fun _ _ _ h => h) (by rfl) ?hykr15f_14 ((HSP.out _ HK16.out)) ?hrkr15f_14
 case hykr15f_14 => (intro wS hSw; clear hSw; go_simp; (try with_reducible rfl))
 all_goals try simp only [Act.put, sA0, sZ0, sS0]
 refine wpAnyD_one (i := 19) (oi := ⟨none, Op.store 22 (Operand.tmp 75) (Operand.tmp 65), 0, _, _, _⟩) rfl (by kernel_rfl) (by rfl) (fun K hK => ?_)
 have x2 := HCELL.out.1
 have y2 := HFZ.out (k * 4 + 2)
 go_simp
 clear x2 y2
 refine hK _ _ (fun h => absurd h (by decide)) ?_
 clear hK K
 try simp only [Act.put]
 refine wpAnyF_take (i := 20) (oi := ⟨some 76, Op.nilCheck (Operand.tmp 58), 0, _, _, _⟩) (v := ?_) rfl (by kernel_rfl) (by kernel_rfl) (by kernel_rfl) (by kernel_rfl) (fun _ _ _ h => h) (by rfl) ?hykr15f_15 ?hrkr15f_15
 case hykr15f_15 => (intro wS; go_simp; (try with_reducible rfl))
 all_goals try simp only [Act.put, sA0, sZ0, sS0]
 refine wpAnyF_take (i := 21) (oi := ⟨some 77, Op.fieldAddr 45 (Operand.tmp 76) 3, 0, _, _, _⟩) (v := ?_) rfl (by kernel_rfl) (by kernel_rfl) (by kernel_rfl) (by kernel_rfl) (fun _ _ _ h => h) (by rfl) ?hykr15f_16 ?hrkr15f_16
 case hykr15f_16 => (intro wS; go_simp; (try with_reducible rfl))
 all_goals try simp only [Act.put, sA0, sZ0, sS0]
 refine wpAnyD_one (i := 22) (oi := ⟨none, Op.store 43 (Operand.tmp 77) (Operand.tmp 73), 0, _, _, _⟩) rfl (by kernel_rfl) (by rfl) (fun K hK => ?_)
 have x3 : (w16.setCell ⟨g, k * 4 + 2, none⟩ (.slice A8 (n1 + 1) c8)).cell? ⟨g, k * 4 + 3, none⟩ = some (.slice V2 n2 n2) := (World.cell?_setCell_other _ _ _ _ (by intro h; injection h with _ h; omega)).trans HCELL.out.2
 have y3 : (w16.setCell ⟨g, k * 4 + 2, none⟩ (.slice A8 (n1 + 1) c8)).frozen? ⟨g, k * 4 + 3, none⟩ = false := (World.frozen?_setCell _ _ _ _).trans (HFZ.out _)
 go_simp
 clear x3 y3
 refine hK _ _ (fun h => absurd h (by decide)) ?_
 clear hK K
 try simp only [Act.put]
 refine wpAnyD_done (by kernel_rfl) ?_ _
 unfold Exit.then
 obtain ⟨hfin, hgf⟩ := HCK6.out.fin (W' := w16) (HK16.out.kept.mono (fun i hi => hi.2)) (HO8.out.below HB16.out) HO16.out
 have HSx := HS6.out
 have hqy : ((w16.setCell ⟨g, k * 4 + 2, none⟩ (.slice A8 (n1 + 1) c8)).setCell ⟨g, k * 4 + 3, none⟩ (.slice A16 (n2 + 1) c16)).cell? ⟨g, k * 4 + 2, none⟩ = some (.slice A8 (n1 + 1) c8) := (World.cell?_setCell_other _ _ _ _ (by intro h; injection h with _ h; omega)).trans (World.cell?_setCell_same (w := w16) (a := ⟨g, k * 4 + 2, none⟩) _ HCELL.out.1)
 have hxo : ABox w16 ob 27 [.int .i64 m, .int .i64 h, .slice (some ⟨g, 0, none⟩) l.length l.length] := (HK16.out.block ob (fun e => by have := HNO5.out _ e.symm; omega) HX6.out.lt).trans HX6.out
 have hx2 : ABox w16 (w.heap.size + 2) 27 [.int .i64 0, .int .i64 0, .slice none 0 0] := (HK16.out.block (w.heap.size + 2) (fun e => by have := (HOL.out _ e.symm).1; omega) HX26.out.lt).trans HX26.out
 have hbf : Below wb.heap.size wb w16 := HB8.out.trans (HB16.out.mono HB8.out.size)
 generalize (w16.setCell ⟨g, k * 4 + 2, none⟩ (.slice A8 (n1 + 1) c8)).setCell ⟨g, k * 4 + 3, none⟩ (.slice A16 (n2 + 1) c16) = wy at *
 have HXy : Hid (ABox wy ob 27 [.int .i64 m, .int .i64 h, .slice (some ⟨g, 0, none⟩) l.length l.length]) := Lh ((hgf.block ob hxo.lt (fun e => by injection e with e; omega)).trans hxo)
 have HX2y : Hid (ABox wy (w.heap.size + 2) 27 [.int .i64 0, .int .i64 0, .slice none 0 0]) := Lh ((hgf.block _ hx2.lt (fun e => by injection e with e; omega)).trans hx2)
 have HBy : Hid (Below wb.heap.size wb wy) := Lh (hbf.grown hgf hbf.size (fun q hq => by cases hq; have := HZ.out; omega))
 rw [HFI5.out.1, HFI5.out.2] at hfin
 have HOy := Lh hfin
 clear hfin hgf hxo hx2 hbf hS0 HSP
 clear HCK6 HB6 HX6 HX16 HX26 HK7 HK8 HK14 HK15 HK16 HO8 HO16 HR7 HR14 HR15 HB7 HB8 HB14 HB15 HB16 HCELL HFZ HOG HOL HTX
 have hLl : (l.set k (corrS s version ⟨a, b⟩)).length = l.length := List.length_set
 obtain ⟨L, hL⟩ : ∃ L, l.set k (corrS s version ⟨a, b⟩) = L := ⟨_, rfl⟩
 rw [hL] at HOy HSH HWF HPN hLl
 have HL := Lh hL
 clear hL
 have HOK : Hid (BookOk wy m h (some ⟨g, 0, none⟩) l.length L) := Lh ⟨HLA.out.to HBy.out, by
   obtain ⟨A, c, e, hs⟩ := HOy.out.sl
   rw [hLl] at e
   cases e
   exact hs.mono (fun i _ hl => hl), HSH.out, HWF.out, HI.out, HPN.out⟩
 have HFI := Lh (bfits_any HOK.out)
 rw [hLl] at HFI
 have k0 := HXy.out.cell 0 rfl
 have k1 := HXy.out.cell 1 rfl
 have k2 := HXy.out.cell 2 rfl
 clear hLl HSH HWF HOK
 obtain ⟨np, hnp⟩ : ∃ np, (pagesB m h L).length = np := ⟨_, rfl⟩
 rw [hnp] at HFI
 have HNP := Lh hnp
 clear hnp HPN
 have hn100 : ¬ ((n1 + 1 : Nat) : Int) > 100 := by omega
 by_cases hn : 16384 < np
 ·have hfv : ∀ v, fitsV m h v np = .tuple #[.agg #[.int .i64 0, .int .i64 0, .slice none 0 0], .int .i64 2] := fun v => by unfold fitsV; rw [if_pos hn]
  have HFV := Lh hfv
  rw [hfv] at HFI
  clear hfv hn
  go_wp2_with (first
   |(go_at_call 69; refine HFI.out.mono ?_; rintro e w7 ⟨rfl, hb7⟩; have HB7 := Lh hb7; have HX27 := Lh (HX2y.out.to hb7); clear hb7 k0 k1 k2;
     have k0 := HX27.out.cell 0 rfl; have k1 := HX27.out.cell 1 rfl; have k2 := HX27.out.cell 2 rfl; have f0 := HX27.out.fz 0; have f1 := HX27.out.fz 1; have f2 := HX27.out.fz 2)
   | fail)
  have hn1 : ∀ i, Up g i → i ≠ w.heap.size + 2 := fun i (hi : g ≤ i) => by have := HS6.out; omega
  exact bodyPost_ret (v := .tuple #[.agg #[.int .i64 0, .int .i64 0, .slice none 0 0], .int .i64 2]) (results_row_tmp Tryz.results38 _ _ (w.heap.size + 2) _ #[.int .i64 0, .int .i64 0, .slice none 0 0] (0, 0) _ rfl (abox3 HX27.out _ _ _) Tryz.underlying27 rfl (by kernel_rfl)) rfl
   ⟨.slice (some ⟨g, 0, none⟩) l.length l.length, by rw [HL.out, HNP.out, HFV.out], by rw [HL.out]; exact up_own ((((HOy.out.below HB7.out).set (w.heap.size + 2) 0 _ hn1).set (w.heap.size + 2) 1 _ hn1).set (w.heap.size + 2) 2 _ hn1) (by omega), below3 ((HB.out.trans (HBy.out.mono HB.out.size)).trans (HB7.out.mono (by have := HB.out.size; have := HBy.out.size; omega))) (by omega) _ _ _⟩
 ·have hfv : ∀ v, fitsV m h v np = .tuple #[.agg #[.int .i64 m, .int .i64 h, v], .int .i64 0] := fun v => by unfold fitsV; rw [if_neg hn]
  have HFV := Lh hfv
  rw [hfv] at HFI
  clear hfv hn
  go_wp2_with (first
   |(go_at_call 69; refine HFI.out.mono ?_; rintro e w7 ⟨rfl, hb7⟩; have HB7 := Lh hb7; have HX27 := Lh (HX2y.out.to hb7); clear hb7 k0 k1 k2;
     have k0 := HX27.out.cell 0 rfl; have k1 := HX27.out.cell 1 rfl; have k2 := HX27.out.cell 2 rfl; have f0 := HX27.out.fz 0; have f1 := HX27.out.fz 1; have f2 := HX27.out.fz 2)
   | fail)
  have hn1 : ∀ i, Up g i → i ≠ w.heap.size + 2 := fun i (hi : g ≤ i) => by have := HS6.out; omega
  exact bodyPost_ret (v := .tuple #[.agg #[.int .i64 m, .int .i64 h, .slice (some ⟨g, 0, none⟩) l.length l.length], .int .i64 0]) (results_row_tmp Tryz.results38 _ _ (w.heap.size + 2) _ #[.int .i64 m, .int .i64 h, .slice (some ⟨g, 0, none⟩) l.length l.length] (0, 0) _ rfl (abox3 HX27.out _ _ _) Tryz.underlying27 rfl (by kernel_rfl)) rfl
   ⟨.slice (some ⟨g, 0, none⟩) l.length l.length, by rw [HL.out, HNP.out, HFV.out], by rw [HL.out]; exact up_own ((((HOy.out.below HB7.out).set (w.heap.size + 2) 0 _ hn1).set (w.heap.size + 2) 1 _ hn1).set (w.heap.size + 2) 2 _ hn1) (by omega), below3 ((HB.out.trans (HBy.out.mono HB.out.size)).trans (HB7.out.mono (by have := HB.out.size; have := HBy.out.size; omega))) (by omega) _ _ _⟩
set_option maxRecDepth 100000 in
set_option maxHeartbeats 16000000 in
theorem correct_open (A : Option Addr) (c : Nat) (l : List SectP) (m h entry version : Int) (A1 B1 : Option Addr) (c1 d1 : Nat) (a b : List (List Word)) (w : World) (hT : Laid w) (hs : Sl w (fun b => b < w.heap.size) A c l) (hsh : ShortS l) (hwf : WfS l) (hI : I64 h)
  (ha : Sl w (fun b => b < w.heap.size) A1 c1 a) (hb : Sl w (fun b => b < w.heap.size) B1 d1 b) (hsa : ShortT a) (hsb : ShortT b) (k : Nat) (hk : k < l.length) (hf : findP l entry = (k : Int)) (s : SectP) (hks : l[k]? = some s) (hfr : s.frozen = false) (hv : 0 ≤ version ∧ version ≤ 2147483647) (hnv : version ∉ s.vers) (hE : wrongE m h a b = 0)
  (hlim : (corrS s version ⟨a, b⟩).vers.length ≤ 100) (hpn : (pagesB m h (l.set k (corrS s version ⟨a, b⟩))).length ≤ 1000000000) :
  Calls Tryz.prog 38 #[.agg #[.int .i64 m, .int .i64 h, .slice A l.length c], .int .i64 entry, .int .i64 version, .agg #[.slice A1 a.length c1, .slice B1 b.length d1]] w fun x W' => ∃ v, x = .returned (fitsV m h v (pagesB m h (l.set k (corrS s version ⟨a, b⟩))).length) ∧ OwnP W' w.heap.size 45 v (l.set k (corrS s version ⟨a, b⟩)) (Up w.heap.size) ∧ Below w.heap.size w W' := by
 obtain ⟨wb, hwb⟩ : ∃ wb, ((w.alloc (.cells #[.int .i64 m, .int .i64 h, .slice A l.length c] 27)).alloc (.cells #[.slice A1 a.length c1, .slice B1 b.length d1] 50)).alloc (.cells #[.int .i64 0, .int .i64 0, .slice none 0 0] 27) = wb := ⟨_, rfl⟩
 have hba : Below w.heap.size w wb := by rw [← hwb]; exact (((Below.refl _ _).alloc (Nat.le_refl _) _).alloc (by simp) _).alloc (by simp; omega) _
 have hz : wb.heap.size = w.heap.size + 3 := by rw [← hwb]; simp
 have hx0 : ABox wb w.heap.size 27 [.int .i64 m, .int .i64 h, .slice A l.length c] := by rw [← hwb]; exact (Below.heap_alloc _ _ _ (by simp; omega)).trans ((Below.heap_alloc _ _ _ (by simp)).trans (heap_alloc_new w _))
 have hx1 : ABox wb (w.heap.size + 1) 50 [.slice A1 a.length c1, .slice B1 b.length d1] := by rw [← hwb]; exact (Below.heap_alloc _ _ _ (by simp)).trans (heap_at (by simp))
 have hx2 : ABox wb (w.heap.size + 2) 27 [.int .i64 0, .int .i64 0, .slice none 0 0] := by rw [← hwb]; exact heap_at (by simp)
 have hl63 : l.length ≤ 1048576 := hsh.1
 have HXS : Hid (ShortX s) := Lh (hsh.2 s (List.mem_of_getElem? hks))
 have HWS : Hid (s.texts.length ≤ s.vers.length) := Lh (hwf s (List.mem_of_getElem? hks))
 have HSH : Hid (ShortS (l.set k (corrS s version ⟨a, b⟩))) := Lh ⟨by rw [List.length_set]; exact hsh.1, fun x hx => by
  rcases List.mem_or_eq_of_mem_set hx with h | h
  ·exact hsh.2 x h
  ·subst h
   exact corrS_short HXS.out hlim HWS.out hsa hsb⟩
 have HWF : Hid (WfS (l.set k (corrS s version ⟨a, b⟩))) := Lh (fun x hx => by
  rcases List.mem_or_eq_of_mem_set hx with h | h
  ·exact hwf x h
  ·subst h
   exact corrS_wf HWS.out)
 have HF := Lh (find_any A c l m h entry wb (hs.to hba) (by omega))
 have HCL : Hid (∀ W, Below wb.heap.size wb W → Calls Tryz.prog 58 #[.agg #[.int .i64 m, .int .i64 h, .slice A l.length c]] W fun e w' => ∃ g rows, e = .returned (.agg #[.int .i64 m, .int .i64 h, .slice (some ⟨g, 0, none⟩) l.length l.length]) ∧ W.heap.size ≤ g ∧ g < w'.heap.size ∧ CX w' g rows l l.length ∧ Below W.heap.size W w') :=
  Lh fun W hW => cloned_own A c l m h W ((hs.to hba).to hW) hsh
 have HWR : Hid (∀ W, Below wb.heap.size wb W → Calls Tryz.prog 68 #[.agg #[.int .i64 m, .int .i64 h, .slice A l.length c], .agg #[.slice A1 a.length c1, .slice B1 b.length d1]] W fun e w' => e = .returned (.int .i64 0) ∧ Below W.heap.size W w') :=
  Lh fun W hW => by
   have := wrong_any A1 B1 c1 d1 a b m h (.slice A l.length c) rfl W ((hT.to hba).to hW) ((ha.to hba).to hW) ((hb.to hba).to hW) hI hsa.1 hsb.1
   rwa [hE] at this
 have HTX : Hid (∀ W, Below wb.heap.size wb W → Calls Tryz.prog 45 #[.agg #[.slice A1 a.length c1, .slice B1 b.length d1]] W fun e w' => ∃ va vb, e = .returned (.agg #[va, vb]) ∧ Rep.R w' (Up W.heap.size) [va, vb] (⟨a, b⟩ : TextP) ∧ Below W.heap.size W w') :=
  Lh fun W hW => btext_any A1 B1 c1 d1 a b W ((ha.to hba).to hW) ((hb.to hba).to hW) hsa hsb
 have HW : Hid (∀ W, Calls Tryz.prog 48 #[.int .i64 version, .int .i64 0, .int .i64 2147483647] W fun e w' => e = .returned (.bool true) ∧ W = w') := Lh fun W => by
  have := within_any version 0 2147483647 W
  rwa [decide_eq_true hv] at this
 obtain ⟨b0, o0, Ag, cg, An, cn, hA, hbl, -, s0, s1, s2, s3, hvS, -, hIE⟩ := sect_at hs hk
 have hsk : l[k] = s := by rw [List.getElem?_eq_getElem hk] at hks; exact Option.some.inj hks
 rw [hsk] at s0 s1 s2 s3 hvS hIE
 subst hA
 have HCN : Hid (∀ W, Below wb.heap.size wb W → Calls Tryz.prog 70 #[.slice Ag s.vers.length cg, .int .i64 version] W fun e w' => e = .returned (.bool false) ∧ W = w') := Lh fun W hW => by
  have := containsI_any Ag cg s.vers version W ((hvS.to hba).to hW) (by have := HXS.out.1; omega)
  rwa [decide_eq_false hnv] at this
 have s2b : wb.cell? ⟨b0, o0 + k * 4 + 2, none⟩ = some (.slice Ag s.vers.length cg) := (hba.cell (p := ⟨b0, o0 + k * 4 + 2, none⟩) hbl).trans s2
 have HSB : Hid (b0 < wb.heap.size ∧ wb.cell? ⟨b0, o0 + k * 4 + 2, none⟩ = some (.slice Ag s.vers.length cg)) := Lh ⟨by have := hbl; omega, s2b⟩
 have hlc : l.length ≤ c := hs.1
 have hk0 : ¬ ((k : Int) < 0) := by omega
 have hk1 : (0 : Int) ≤ (k : Int) := by omega
 have hkl : (k : Int) < (l.length : Int) := by omega
 have HLA := Lh (hT.to hba)
 have HI := Lh hI
 have HIV : Hid (I64 version) := Lh (by unfold I64; omega)
 have HPN := Lh hpn
 have HLIM := Lh hlim
 have HX0 := Lh hx0
 have HX1 := Lh hx1
 have HX2 := Lh hx2
 have HB := Lh hba
 have HZ := Lh hz
 have HWB := Lh hwb
 have HKS := Lh hks
 have HFR := Lh hfr
 have HSK := Lh hsk
 have k0 := hx0.cell 0 rfl
 have k1 := hx0.cell 1 rfl
 have k2 := hx0.cell 2 rfl
 clear hs hsh hwf hI ha hb hsa hsb hv hnv hE hpn hlim hT hba hx0 hx1 hx2 hwb hz hks hfr hsk s0 s1 s2 s3 s2b hvS hIE hbl
 rw [hf] at HF
 clear hf
 go_enter Tryz.func38, Tryz.ntmps38
 go_upto_region 1 with (fail)
 rw [HWB.out]
 go_upto_region 12 with (first
  |(go_at_call 43; refine HF.out.mono ?_; rintro e w1 ⟨rfl, hb1⟩; have HB1 := Lh hb1; have HX01 := Lh (HX0.out.to hb1); have HX11 := Lh (HX1.out.to hb1); have s2 := (hb1.cell (p := ⟨b0, o0 + k * 4 + 2, none⟩) HSB.out.1).trans HSB.out.2; clear hb1 k0 k1 k2;
    have k0 := HX01.out.cell 0 rfl; have k1 := HX01.out.cell 1 rfl; have k2 := HX01.out.cell 2 rfl; have e0 := HX11.out.cell 0 rfl; have e1 := HX11.out.cell 1 rfl)
  |(go_at_call 48; refine (HW.out _).mono ?_; rintro e w9 ⟨rfl, rfl⟩)
  |(go_at_call 70; refine (HCN.out _ HB1.out).mono ?_; rintro e w9 ⟨rfl, rfl⟩)
  |(go_at_call 68; refine (HWR.out _ HB1.out).mono ?_; rintro e w2 ⟨rfl, hb2⟩; have HB2 := Lh hb2; have HX02 := Lh (HX01.out.to hb2); clear hb2 k0 k1 k2 e0 e1 s2;
    have k0 := HX02.out.cell 0 rfl; have k1 := HX02.out.cell 1 rfl; have k2 := HX02.out.cell 2 rfl)
  |(go_at_call 58; refine (HCL.out _ (HB1.out.trans (HB2.out.mono HB1.out.size))).mono ?_; rintro e w3 ⟨g, rows, rfl, hgw, hg3, hcx, hb3⟩; have HCX := Lh hcx; have HGW := Lh hgw; have HG3 := Lh hg3; have HB3 := Lh hb3; clear hcx hgw hg3 hb3 k0 k1 k2)
  | fail)
 obtain ⟨w4, hw4⟩ : ∃ w4, w3.alloc (.cells #[.int .i64 m, .int .i64 h, .slice (some ⟨g, 0, none⟩) l.length l.length] 27) = w4 := ⟨_, rfl⟩
 have hb4 : Below w3.heap.size w3 w4 := by rw [← hw4]; exact (Below.refl _ _).alloc (Nat.le_refl _) _
 have hx4 : ABox w4 w3.heap.size 27 [.int .i64 m, .int .i64 h, .slice (some ⟨g, 0, none⟩) l.length l.length] := by rw [← hw4]; exact heap_alloc_new w3 _
 have hz4 : w4.heap.size = w3.heap.size + 1 := by rw [← hw4]; simp
 rw [hw4]
 clear hw4
 have HS : Hid (w.heap.size + 3 ≤ g ∧ g < w3.heap.size ∧ w4.heap.size = w3.heap.size + 1) := Lh ⟨by have := HZ.out; have := HB1.out.size; have := HB2.out.size; have := HGW.out; omega, HG3.out, hz4⟩
 have HBW4 : Hid (Below wb.heap.size wb w4) := Lh (((HB1.out.trans (HB2.out.mono HB1.out.size)).trans (HB3.out.mono (by have := HB1.out.size; have := HB2.out.size; omega))).trans (hb4.mono (by have := HB1.out.size; have := HB2.out.size; have := HB3.out.size; omega)))
 have HX4 := Lh hx4
 have HX14 := Lh (HX1.out.to HBW4.out)
 have HX24 := Lh (HX2.out.to HBW4.out)
 have k2 := hx4.cell 2 rfl
 obtain ⟨v1, v2, hck3⟩ := HCX.out.ck hk
 rw [HSK.out] at hck3
 have HNO : Hid (∀ q, v1.ownBlock = some q → q < w3.heap.size) := Lh (fun q hq => (hck3.ko.lt q hq).2)
 have hck := hck3.to hb4
 clear hck3
 obtain ⟨-, r1, r2, r3, hfz⟩ := hck.cells
 rw [HFR.out] at r1
 have hfz2 := hfz (k * 4 + 2)
 have hfz3 := hfz (k * 4 + 3)
 have HCK4 := Lh hck
 obtain ⟨ob, hob⟩ : ∃ ob, w3.heap.size = ob := ⟨_, rfl⟩
 rw [hob] at HS HX4 HNO ⊢
 rw [hob] at k2
 clear hb4 hx4 hz4 hck hfz HB3 HB2 HB1 HX01 HX11 HX02 HX0 HX1 HX2 HF HCL HWR HW HWB HCN HSB HCX HGW HG3 hob
 have r3n : (w4.setCell ⟨g, k * 4 + 2, none⟩ (.slice none 0 0)).cell? ⟨g, k * 4 + 3, none⟩ = some v2 := (World.cell?_setCell_other _ _ _ _ (by intro h; injection h with _ h; omega)).trans r3
 have f3n : (w4.setCell ⟨g, k * 4 + 2, none⟩ (.slice none 0 0)).frozen? ⟨g, k * 4 + 3, none⟩ = false := (World.frozen?_setCell _ _ _ _).trans hfz3
 clear r3 hfz3
 go_upto_region 15 with (fail)
 clear k2 r1 r2 r3n f3n hfz2
 obtain ⟨rows5, hck5⟩ := HCK4.out.reset
 have hgr : w4.grownBy ((w4.setCell ⟨g, k * 4 + 2, none⟩ (.slice none 0 0)).setCell ⟨g, k * 4 + 3, none⟩ (.slice none 0 0)) (some g) := grown_trans2 (b := w4.setCell ⟨g, k * 4 + 2, none⟩ (.slice none 0 0)) ⟨rfl, rfl, rfl, by simp, fun i _ hi => heap_set _ _ _ _ (fun e => hi (by rw [e]))⟩ ⟨rfl, rfl, rfl, by simp, fun i _ hi => heap_set _ _ _ _ (fun e => hi (by rw [e]))⟩
 have hsz5 : ((w4.setCell ⟨g, k * 4 + 2, none⟩ (.slice none 0 0)).setCell ⟨g, k * 4 + 3, none⟩ (.slice none 0 0)).heap.size = w4.heap.size := by simp
 obtain ⟨w5, hw5⟩ : ∃ w5, (w4.setCell ⟨g, k * 4 + 2, none⟩ (.slice none 0 0)).setCell ⟨g, k * 4 + 3, none⟩ (.slice none 0 0) = w5 := ⟨_, rfl⟩
 rw [hw5] at hck5 hgr hsz5 ⊢
 clear hw5
 have HB5 : Hid (Below wb.heap.size wb w5) := Lh (HBW4.out.grown hgr HBW4.out.size (fun q hq => by cases hq; have := HS.out; have := HZ.out; omega))
 have HX5 : Hid (ABox w5 ob 27 [.int .i64 m, .int .i64 h, .slice (some ⟨g, 0, none⟩) l.length l.length]) := Lh ((hgr.block _ HX4.out.lt (fun e => by injection e with e; have := HS.out; omega)).trans HX4.out)
 have HX15 : Hid (ABox w5 (w.heap.size + 1) 50 [.slice A1 a.length c1, .slice B1 b.length d1]) := Lh ((hgr.block _ HX14.out.lt (fun e => by injection e with e; have := HS.out; omega)).trans HX14.out)
 have HX25 : Hid (ABox w5 (w.heap.size + 2) 27 [.int .i64 0, .int .i64 0, .slice none 0 0]) := Lh ((hgr.block _ HX24.out.lt (fun e => by injection e with e; have := HS.out; omega)).trans HX24.out)
 have HS5 : Hid (w.heap.size + 3 ≤ g ∧ g < ob ∧ w5.heap.size = ob + 1) := Lh ⟨HS.out.1, HS.out.2.1, by rw [hsz5]; exact HS.out.2.2⟩
 have HFI : Hid ((l.set k { s with vers := [], texts := [] }).set k ⟨s.entry, s.frozen, [] ++ [version], [] ++ [⟨a, b⟩]⟩ = l.set k (corrS s version ⟨a, b⟩) ∧ (l.set k { s with vers := [], texts := [] }).length = l.length) := Lh ⟨by rw [List.set_set]; unfold corrS; rw [HFR.out]; rfl, by rw [List.length_set]⟩
 obtain ⟨l5, hl5⟩ : ∃ l5, l.set k { s with vers := [], texts := [] } = l5 := ⟨_, rfl⟩
 obtain ⟨s5, hs5⟩ : ∃ s5 : SectP, { s with vers := [], texts := [] } = s5 := ⟨_, rfl⟩
 have HFI5 : Hid (l5.set k ⟨s5.entry, s5.frozen, s5.vers ++ [version], s5.texts ++ [⟨a, b⟩]⟩ = l.set k (corrS s version ⟨a, b⟩) ∧ l5.length = l.length) := Lh (by rw [← hl5, ← hs5]; exact HFI.out)
 have HNS5 : Hid (s5.vers.length + 1 ≤ 100 ∧ s5.texts.length ≤ 1048576) := Lh (by rw [← hs5]; exact ⟨by simp, by simp⟩)
 obtain ⟨u1, hu1⟩ : ∃ u1, Value.slice none 0 0 = u1 := ⟨_, rfl⟩
 obtain ⟨u2, hu2⟩ : ∃ u2, Value.slice none 0 0 = u2 := ⟨_, rfl⟩
 have HNO5 : Hid (∀ q, u1.ownBlock = some q → q < ob) := Lh (fun q hq => by rw [← hu1] at hq; cases hq)
 have HCK5 : Hid (CK w5 g rows5 l5 k s5 u1 u2) := Lh (by rw [← hu1, ← hu2, ← hs5, ← hl5]; exact hck5)
 clear hu1 hu2 hl5 hs5 hck5 hgr hsz5 HCK4 HFI HBW4 HX4 HX14 HX24 HS HNO
 clear v1 v2 rows
 obtain ⟨V1, cv1, hv1, -, hvc, hvm⟩ := HCK5.out.ko.form
 obtain ⟨V2, hv2⟩ := HCK5.out.kc
 subst hv1
 subst hv2
 obtain ⟨n1, hn1⟩ : ∃ n1, s5.vers.length = n1 := ⟨_, rfl⟩
 obtain ⟨n2, hn2⟩ : ∃ n2, s5.texts.length = n2 := ⟨_, rfl⟩
 rw [hn1, hn2] at HCK5
 rw [hn1] at HNO5
 have HN1 := Lh hn1
 have HN2 := Lh hn2
 have hn1l : n1 + 1 ≤ 100 := by have := HNS5.out.1; omega
 have hn2l : n2 ≤ 1048576 := by have := HNS5.out.2; omega
 clear hn1 hn2 hvc hvm
 refine wp_region_D (fun w' => w'.cell? ⟨g, k * 4 + 2, none⟩ = some (.slice V1 n1 cv1) ∧ w'.cell? ⟨g, k * 4 + 3, none⟩ = some (.slice V2 n2 n2) ∧ w'.cell? ⟨w.heap.size + 1, 0, none⟩ = some (.slice A1 a.length c1) ∧ w'.cell? ⟨w.heap.size + 1, 1, none⟩ = some (.slice B1 b.length d1)) (fun i => decide (i < 19 ∧ i ≠ 1)) (by kernel_rfl) ?_
 have hbz : Below w5.heap.size w5 w5.drew := (Below.refl _ _).drew
 have HCK6 := Lh (HCK5.out.to hbz)
 have HB6 : Hid (Below wb.heap.size wb w5.drew) := Lh (HB5.out.trans (hbz.mono HB5.out.size))
 have HX6 := Lh (HX5.out.to hbz)
 have HX16 := Lh (HX15.out.to hbz)
 have HX26 := Lh (HX25.out.to hbz)
 have HS6 : Hid (w.heap.size + 3 ≤ g ∧ g < ob ∧ w5.drew.heap.size = ob + 1) := HS5
 clear hbz HCK5 HB5 HX5 HX15 HX25 HS5
 generalize w5.drew = wx at *
 clear w5
 have hS0 : wx.cell? ⟨g, k * 4 + 2, none⟩ = some (.slice V1 n1 cv1) ∧ wx.cell? ⟨g, k * 4 + 3, none⟩ = some (.slice V2 n2 n2) ∧ wx.cell? ⟨w.heap.size + 1, 0, none⟩ = some (.slice A1 a.length c1) ∧ wx.cell? ⟨w.heap.size + 1, 1, none⟩ = some (.slice B1 b.length d1) := ⟨HCK6.out.cells.2.2.1, HCK6.out.cells.2.2.2.1, HX16.out.cell 0 rfl, HX16.out.cell 1 rfl⟩
 have HOG : Hid (some g ≠ (Value.slice V1 n1 cv1).ownBlock) := Lh HCK6.out.off
 have HOL : Hid (∀ q, (Value.slice V1 n1 cv1).ownBlock = some q → g + 1 ≤ q ∧ q < wx.heap.size) := Lh HCK6.out.ko.lt
 have HSP : Hid (∀ W, KS (fun i => some i ≠ (Value.slice V1 n1 cv1).ownBlock) wx W → W.cell? ⟨g, k * 4 + 2, none⟩ = some (.slice V1 n1 cv1) ∧ W.cell? ⟨g, k * 4 + 3, none⟩ = some (.slice V2 n2 n2) ∧ W.cell? ⟨w.heap.size + 1, 0, none⟩ = some (.slice A1 a.length c1) ∧ W.cell? ⟨w.heap.size + 1, 1, none⟩ = some (.slice B1 b.length d1)) := Lh (fun W hW => by
  have e1 : some (w.heap.size + 1) ≠ (Value.slice V1 n1 cv1).ownBlock := fun e => by have := (HOL.out _ e.symm).1; have := HS6.out; omega
  exact ⟨hW.kept.cell HOG.out hS0.1, hW.kept.cell HOG.out hS0.2.1, hW.kept.cell e1 hS0.2.2.1, hW.kept.cell e1 hS0.2.2.2⟩)
 refine wpAnyF_take (i := 1) (oi := ⟨some 58, Op.move (Operand.tmp 13), 115, _, _, _⟩) (v := ?_) rfl (by kernel_rfl) (by kernel_rfl) (by kernel_rfl) (by kernel_rfl) (fun _ _ _ h => h) (by rfl) ?hykr15o_1 ?hrkr15o_1
 case hykr15o_1 => (intro wS; go_simp; (try with_reducible rfl))
 all_goals try simp only [Act.put, sA0, sZ0, sS0]
 refine wpAnyG_take (i := 0) (oi := ⟨some 57, Op.move (Operand.tmp 13), 115, _, _, _⟩) (v := ?_) rfl (by kernel_rfl) (by kernel_rfl) (by kernel_rfl) (by kernel_rfl) (by kernel_rfl) (fun _ _ _ h => h) (by rfl) ?hykr15o_2 (hS0) ?hrkr15o_2
 case hykr15o_2 => (intro wS hSw; clear hSw; go_simp; (try with_reducible rfl))
 all_goals try simp only [Act.put, sA0, sZ0, sS0]
 refine wpAnyG_take (i := 2) (oi := ⟨some 59, Op.move (Operand.tmp 13), 115, _, _, _⟩) (v := ?_) rfl (by kernel_rfl) (by kernel_rfl) (by kernel_rfl) (by kernel_rfl) (by kernel_rfl) (fun _ _ _ h => h) (by rfl) ?hykr15o_3 (hS0) ?hrkr15o_3
 case hykr15o_3 => (intro wS hSw; clear hSw; go_simp; (try with_reducible rfl))
 all_goals try simp only [Act.put, sA0, sZ0, sS0]
 refine wpAnyG_take (i := 3) (oi := ⟨some 60, Op.nilCheck (Operand.tmp 59), 0, _, _, _⟩) (v := ?_) rfl (by kernel_rfl) (by kernel_rfl) (by kernel_rfl) (by kernel_rfl) (by kernel_rfl) (fun _ _ _ h => h) (by rfl) ?hykr15o_4 (hS0) ?hrkr15o_4
 case hykr15o_4 => (intro wS hSw; clear hSw; go_simp; (try with_reducible rfl))
 all_goals try simp only [Act.put, sA0, sZ0, sS0]
 refine wpAnyG_take (i := 4) (oi := ⟨some 61, Op.fieldAddr 45 (Operand.tmp 60) 2, 0, _, _, _⟩) (v := ?_) rfl (by kernel_rfl) (by kernel_rfl) (by kernel_rfl) (by kernel_rfl) (by kernel_rfl) (fun _ _ _ h => h) (by rfl) ?hykr15o_5 (hS0) ?hrkr15o_5
 case hykr15o_5 => (intro wS hSw; clear hSw; go_simp; (try with_reducible rfl))
 all_goals try simp only [Act.put, sA0, sZ0, sS0]
 refine wpAnyG_take (i := 5) (oi := ⟨some 62, Op.load 22 (Operand.tmp 61), 22, _, _, _⟩) (v := ?_) rfl (by kernel_rfl) (by kernel_rfl) (by kernel_rfl) (by kernel_rfl) (by kernel_rfl) (fun _ _ _ h => h) (by rfl) ?hykr15o_6 (hS0) ?hrkr15o_6
 case hykr15o_6 => (intro wS hSw; (have hq := hSw.1); clear hSw; go_simp; (try with_reducible rfl))
 all_goals try simp only [Act.put, sA0, sZ0, sS0]
 refine wpAnyG_take (i := 6) (oi := ⟨some 63, Op.move (Operand.tmp 2), 3, _, _, _⟩) (v := ?_) rfl (by kernel_rfl) (by kernel_rfl) (by kernel_rfl) (by kernel_rfl) (by kernel_rfl) (fun _ _ _ h => h) (by rfl) ?hykr15o_7 (hS0) ?hrkr15o_7
 case hykr15o_7 => (intro wS hSw; clear hSw; go_simp; (try with_reducible rfl))
 all_goals try simp only [Act.put, sA0, sZ0, sS0]
 refine wpAnyG_take (i := 9) (oi := ⟨some 66, Op.move (Operand.tmp 13), 115, _, _, _⟩) (v := ?_) rfl (by kernel_rfl) (by kernel_rfl) (by kernel_rfl) (by kernel_rfl) (by kernel_rfl) (fun _ _ _ h => h) (by rfl) ?hykr15o_8 (hS0) ?hrkr15o_8
 case hykr15o_8 => (intro wS hSw; clear hSw; go_simp; (try with_reducible rfl))
 all_goals try simp only [Act.put, sA0, sZ0, sS0]
 refine wpAnyG_take (i := 10) (oi := ⟨some 67, Op.nilCheck (Operand.tmp 66), 0, _, _, _⟩) (v := ?_) rfl (by kernel_rfl) (by kernel_rfl) (by kernel_rfl) (by kernel_rfl) (by kernel_rfl) (fun _ _ _ h => h) (by rfl) ?hykr15o_9 (hS0) ?hrkr15o_9
 case hykr15o_9 => (intro wS hSw; clear hSw; go_simp; (try with_reducible rfl))
 all_goals try simp only [Act.put, sA0, sZ0, sS0]
 refine wpAnyG_take (i := 11) (oi := ⟨some 68, Op.fieldAddr 45 (Operand.tmp 67) 3, 0, _, _, _⟩) (v := ?_) rfl (by kernel_rfl) (by kernel_rfl) (by kernel_rfl) (by kernel_rfl) (by kernel_rfl) (fun _ _ _ h => h) (by rfl) ?hykr15o_10 (hS0) ?hrkr15o_10
 case hykr15o_10 => (intro wS hSw; clear hSw; go_simp; (try with_reducible rfl))
 all_goals try simp only [Act.put, sA0, sZ0, sS0]
 refine wpAnyG_take (i := 12) (oi := ⟨some 69, Op.load 43 (Operand.tmp 68), 43, _, _, _⟩) (v := ?_) rfl (by kernel_rfl) (by kernel_rfl) (by kernel_rfl) (by kernel_rfl) (by kernel_rfl) (fun _ _ _ h => h) (by rfl) ?hykr15o_11 (hS0) ?hrkr15o_11
 case hykr15o_11 => (intro wS hSw; (have hq := hSw.2.1); clear hSw; go_simp; (try with_reducible rfl))
 all_goals try simp only [Act.put, sA0, sZ0, sS0]
 refine wpAnyG_take (i := 13) (oi := ⟨some 70, Op.load 50 (Operand.tmp 7), 50, _, _, _⟩) (v := ?_) rfl (by kernel_rfl) (by kernel_rfl) (by kernel_rfl) (by kernel_rfl) (by kernel_rfl) (fun _ _ _ h => h) (by rfl) ?hykr15o_12 (hS0) ?hrkr15o_12
 case hykr15o_12 => (intro wS hSw; (have hq := hSw.2.2.1); (have hq2 := hSw.2.2.2); clear hSw; go_simp; (try with_reducible rfl))
 all_goals try simp only [Act.put, sA0, sZ0, sS0]
 refine wpAnyD_one (i := 7) (oi := ⟨some 64, Op.buildSlice 22 1 #[(0, Operand.tmp 63)], 22, _, _, _⟩) rfl (by kernel_rfl) (by rfl) (fun K hK => ?_)
 go_simp
 have HR7 : Hid (Rep.R (wx.alloc (.cells #[.int .i64 version] 3)) (Up wx.heap.size) [.slice (some ⟨wx.heap.size, 0, none⟩) 1 1] [version]) := Lh (rp_int (B := wx.heap.size) (Nat.le_refl _) HIV.out).2
 have HK7 : Hid (KS (fun i => some i ≠ (Value.slice V1 n1 cv1).ownBlock) wx (wx.alloc (.cells #[.int .i64 version] 3))) := Lh (KS.alloc _)
 have HB7 : Hid (Below wx.heap.size wx (wx.alloc (.cells #[.int .i64 version] 3))) := Lh ((Below.refl _ _).alloc (Nat.le_refl _) _)
 generalize wx.alloc (.cells #[.int .i64 version] 3) = w7 at *
 refine hK _ _ (fun _ => ?_) ?_
 ·exact (HSP.out _ HK7.out)
 clear hK K
 try simp only [Act.put, sA0, sZ0, sS0]
 refine wpAnyD_one (i := 8) (oi := ⟨some 65, Op.call { callee := Callee.builtin Builtin.append, args := #[Operand.tmp 62, Operand.tmp 64], argTypes := #[22, 22] }, 22, _, _, _⟩) rfl (by kernel_rfl) (by rfl) (fun K hK => ?_)
 refine wp_cat w7 (α := Int) (.tmp 62) (.tmp 64) 22 rfl (g + 1) 3 (.int .i64 0) 8 Tryz.underlying22 int_info rfl (by decide) (.slice V1 n1 cv1) s5.vers rfl (HCK6.out.ko.below HB7.out) (some ⟨wx.heap.size, 0, none⟩) 1 1 [version] rfl rfl (Up wx.heap.size) (by obtain ⟨A, c, e, hs, -⟩ := HR7.out; cases e; exact hs) (fun i hi _ e => by have := (HOL.out i e.symm).2; have h9 : wx.heap.size ≤ i := hi; omega) (by rw [HN1.out]; omega) (by rw [HN1.out]; omega) (by have := HB7.out.size; have := HS6.out; omega) ?_
 intro v8 w8 ho8 hg8 hat8
 have HO8 := Lh ho8
 have HK8 : Hid (KS (fun i => some i ≠ (Value.slice V1 n1 cv1).ownBlock) wx w8) := Lh (HK7.out.trans (KS.grown hg8 (fun i e h => h e.symm)))
 have HB8 : Hid (Below wb.heap.size wb w8) := Lh ((HB6.out.trans (HB7.out.mono HB6.out.size)).grown hg8 (by have := HB6.out.size; have := HB7.out.size; omega) (fun q hq => by have := (HOL.out q hq).1; have := HS6.out; have := HZ.out; omega))
 have HF8 : Hid (∃ A, ∃ c, v8 = .slice A (n1 + 1) c) := Lh (by obtain ⟨A, c, e, -⟩ := ho8.form; rw [List.length_append, List.length_singleton, HN1.out] at e; exact ⟨A, c, e⟩)
 clear ho8 hg8 hat8
 obtain ⟨A8, c8, hv8⟩ := HF8.out
 subst hv8
 clear HF8
 refine hK _ _ (fun _ => ?_) ?_
 ·exact (HSP.out _ HK8.out)
 clear hK K
 try simp only [Act.put, sA0, sZ0, sS0]
 refine wpAnyD_one (i := 14) (oi := ⟨some 71, Op.call { callee := Callee.value (Operand.func 45), args := #[Operand.tmp 70], argTypes := #[50] }, 50, _, _, _⟩) rfl (by kernel_rfl) (by rfl) (fun K hK => ?_)
 go_simp
 go_at_call 45
 refine (HTX.out w8 HB8.out).mono ?_
 rintro e w14 ⟨va, vb, rfl, hr1, hb1⟩
 obtain ⟨x, y, e2, hr2, hr3⟩ := id hr1
 cases e2
 obtain ⟨A6, c6, e3, -⟩ := hr2
 obtain ⟨B6, d6, e4, -⟩ := hr3
 cases e3
 cases e4
 have HR14 := Lh hr1
 have HK14 : Hid (KS (fun i => some i ≠ (Value.slice V1 n1 cv1).ownBlock) wx w14) := Lh (HK8.out.trans (KS.of_below hb1 _))
 have HB14 := Lh hb1
 clear hr1 hb1
 go_simp
 refine hK _ _ (fun _ => ?_) ?_
 ·exact (HSP.out _ HK14.out)
 clear hK K
 try simp only [Act.put, sA0, sZ0, sS0]
 refine wpAnyD_one (i := 15) (oi := ⟨some 72, Op.buildSlice 43 1 #[(0, Operand.tmp 71)], 43, _, _, _⟩) rfl (by kernel_rfl) (by rfl) (fun K hK => ?_)
 go_simp
 have HR15 : Hid (Rep.R (w14.alloc (.cells #[.slice A6 a.length c6, .slice B6 b.length d6] 50)) (Up w8.heap.size) [.slice (some ⟨w14.heap.size, 0, none⟩) 1 1] [(⟨a, b⟩ : TextP)]) := Lh (rp_lit (B := w8.heap.size) (cs := [.slice A6 a.length c6, .slice B6 b.length d6]) HB14.out.size HR14.out).2
 have HB15 : Hid (Below w14.heap.size w14 (w14.alloc (.cells #[.slice A6 a.length c6, .slice B6 b.length d6] 50))) := Lh ((Below.refl _ _).alloc (Nat.le_refl _) _)
 have HK15 : Hid (KS (fun i => some i ≠ (Value.slice V1 n1 cv1).ownBlock) wx (w14.alloc (.cells #[.slice A6 a.length c6, .slice B6 b.length d6] 50))) := Lh (HK14.out.trans (KS.alloc _))
 generalize w14.alloc (.cells #[.slice A6 a.length c6, .slice B6 b.length d6] 50) = w15 at *
 refine hK _ _ (fun _ => ?_) ?_
 ·exact (HSP.out _ HK15.out)
 clear hK K
 try simp only [Act.put, sA0, sZ0, sS0]
 refine wpAnyD_one (i := 16) (oi := ⟨some 73, Op.call { callee := Callee.builtin Builtin.append, args := #[Operand.tmp 69, Operand.tmp 72], argTypes := #[43, 43] }, 43, _, _, _⟩) rfl (by kernel_rfl) (by rfl) (fun K hK => ?_)
 have HSd : Hid (Sl w15 (fun b => b < w15.heap.size) V2 n2 (s5.texts.map (Av.mk : TextP → Av TextP (fun b => g < b)))) := Lh (by
  obtain ⟨A, c, e, hs, -⟩ := Rep.keep HCK6.out.kt (w' := w15) (fun i hi hl => HK15.out.block i hi.2 hl)
  injection e with e
  cases e
  exact (hs.av (fun i hi _ => hi.1)).mono (fun i hi hl => hl))
 have HNd : Hid (Sl w15 (fun b => b < w15.heap.size) (some ⟨w14.heap.size, 0, none⟩) 1 [(⟨⟨a, b⟩⟩ : Av TextP (fun b => g < b))]) := Lh (by
  obtain ⟨A, c, e, hs, -⟩ := HR15.out
  cases e
  refine Sl.mono (Sl.av (α := TextP) (P := fun b => g < b) hs (fun i hi _ => ?_)) (fun i hi hl => hl)
  have hi : w8.heap.size ≤ i := hi
  have := HS6.out
  have := HK8.out.size
  show g < i
  omega)
 refine wp_fresh (α := Av TextP (fun b => g < b)) (.tmp 69) (.tmp 72) 43 rfl 50 (.agg #[.slice none 0 0, .slice none 0 0]) 48 Tryz.underlying43 text_info rfl (show 0 < 2 by decide) V2 n2 (s5.texts.map Av.mk) rfl (by rw [List.length_map]; exact HN2.out) HSd.out (some ⟨w14.heap.size, 0, none⟩) 1 1 [⟨⟨a, b⟩⟩] rfl rfl HNd.out (by omega) (by omega) (by omega) ?_
 intro v16 w16 ho16 hb16
 have HF16 : Hid (∃ A, ∃ c, v16 = .slice A (n2 + 1) c) := Lh (by obtain ⟨A, c, e, -⟩ := ho16.form; rw [List.length_append, List.length_singleton, List.length_map, HN2.out] at e; exact ⟨A, c, e⟩)
 have HO16 : Hid (Rep.R w16 (fun b => g < b) [v16] (s5.texts ++ [(⟨a, b⟩ : TextP)])) := Lh ((show OwnP w16 w15.heap.size 50 v16 (s5.texts ++ [(⟨a, b⟩ : TextP)]) (fun b => g < b) from ⟨by rw [List.map_append]; exact ho16, fun q hq => by have := (ho16.lt q hq).1; have := HS6.out; have := HK15.out.size; show g < q; omega⟩).rep (by rw [List.length_append, List.length_singleton, HN2.out]; omega) (fun i hi _ => hi))
 have HK16 : Hid (KS (fun i => some i ≠ (Value.slice V1 n1 cv1).ownBlock) wx w16) := Lh (HK15.out.trans (KS.of_below hb16 _))
 have HB16 : Hid (Below w8.heap.size w8 w16) := Lh ((HB14.out.trans (HB15.out.mono HB14.out.size)).trans (hb16.mono (by have := HB14.out.size; have := HB15.out.size; omega)))
 clear ho16 hb16
 obtain ⟨A16, c16, hv16⟩ := HF16.out
 subst hv16
 clear HF16 HSd HNd
 have HCELL : Hid (w16.cell? ⟨g, k * 4 + 2, none⟩ = some (.slice V1 n1 cv1) ∧ w16.cell? ⟨g, k * 4 + 3, none⟩ = some (.slice V2 n2 n2)) := Lh ⟨(HSP.out _ HK16.out).1, (HSP.out _ HK16.out).2.1⟩
 have HFZ : Hid (∀ o, w16.frozen? ⟨g, o, none⟩ = false) := Lh (fun o => by
  have h2 := HK16.out.block g HOG.out HCK6.out.glt
  have h3 : w16.frozen? ⟨g, o, none⟩ = wx.frozen? ⟨g, o, none⟩ := by simp only [World.frozen?, h2]
  exact h3.trans (HCK6.out.cells.2.2.2.2 o))
 refine hK _ _ (fun _ => ?_) ?_
 ·exact (HSP.out _ HK16.out)
 clear hK K
 try simp only [Act.put, sA0, sZ0, sS0]
 refine wpAnyG_take (i := 17) (oi := ⟨some 74, Op.nilCheck (Operand.tmp 57), 0, _, _, _⟩) (v := ?_) rfl (by kernel_rfl) (by kernel_rfl) (by kernel_rfl) (by kernel_rfl) (by kernel_rfl) (fun _ _ _ h => h) (by rfl) ?hykr15o_13 ((HSP.out _ HK16.out)) ?hrkr15o_13
 case hykr15o_13 => (intro wS hSw; clear hSw; go_simp; (try with_reducible rfl))
 all_goals try simp only [Act.put, sA0, sZ0, sS0]
 refine wpAnyG_take (i := 18) (oi := ⟨some 75, Op.fieldAddr 45 (Operand.tmp 74) 2, 0, _, _, _⟩) (v := ?_) rfl (by kernel_rfl) (by kernel_rfl) (by kernel_rfl) (by kernel_rfl) (by kernel_rfl) (fun _ _ _ h => h) (by rfl) ?hykr15o_14 ((HSP.out _ HK16.out)) ?hrkr15o_14
 case hykr15o_14 => (intro wS hSw; clear hSw; go_simp; (try with_reducible rfl))
 all_goals try simp only [Act.put, sA0, sZ0, sS0]
 refine wpAnyD_one (i := 19) (oi := ⟨none, Op.store 22 (Operand.tmp 75) (Operand.tmp 65), 0, _, _, _⟩) rfl (by kernel_rfl) (by rfl) (fun K hK => ?_)
 have x2 := HCELL.out.1
 have y2 := HFZ.out (k * 4 + 2)
 go_simp
 clear x2 y2
 refine hK _ _ (fun h => absurd h (by decide)) ?_
 clear hK K
 try simp only [Act.put]
 refine wpAnyF_take (i := 20) (oi := ⟨some 76, Op.nilCheck (Operand.tmp 58), 0, _, _, _⟩) (v := ?_) rfl (by kernel_rfl) (by kernel_rfl) (by kernel_rfl) (by kernel_rfl) (fun _ _ _ h => h) (by rfl) ?hykr15o_15 ?hrkr15o_15
 case hykr15o_15 => (intro wS; go_simp; (try with_reducible rfl))
 all_goals try simp only [Act.put, sA0, sZ0, sS0]
 refine wpAnyF_take (i := 21) (oi := ⟨some 77, Op.fieldAddr 45 (Operand.tmp 76) 3, 0, _, _, _⟩) (v := ?_) rfl (by kernel_rfl) (by kernel_rfl) (by kernel_rfl) (by kernel_rfl) (fun _ _ _ h => h) (by rfl) ?hykr15o_16 ?hrkr15o_16
 case hykr15o_16 => (intro wS; go_simp; (try with_reducible rfl))
 all_goals try simp only [Act.put, sA0, sZ0, sS0]
 refine wpAnyD_one (i := 22) (oi := ⟨none, Op.store 43 (Operand.tmp 77) (Operand.tmp 73), 0, _, _, _⟩) rfl (by kernel_rfl) (by rfl) (fun K hK => ?_)
 have x3 : (w16.setCell ⟨g, k * 4 + 2, none⟩ (.slice A8 (n1 + 1) c8)).cell? ⟨g, k * 4 + 3, none⟩ = some (.slice V2 n2 n2) := (World.cell?_setCell_other _ _ _ _ (by intro h; injection h with _ h; omega)).trans HCELL.out.2
 have y3 : (w16.setCell ⟨g, k * 4 + 2, none⟩ (.slice A8 (n1 + 1) c8)).frozen? ⟨g, k * 4 + 3, none⟩ = false := (World.frozen?_setCell _ _ _ _).trans (HFZ.out _)
 go_simp
 clear x3 y3
 refine hK _ _ (fun h => absurd h (by decide)) ?_
 clear hK K
 try simp only [Act.put]
 refine wpAnyD_done (by kernel_rfl) ?_ _
 unfold Exit.then
 obtain ⟨hfin, hgf⟩ := HCK6.out.fin (W' := w16) (HK16.out.kept.mono (fun i hi => hi.2)) (HO8.out.below HB16.out) HO16.out
 have HSx := HS6.out
 have hqy : ((w16.setCell ⟨g, k * 4 + 2, none⟩ (.slice A8 (n1 + 1) c8)).setCell ⟨g, k * 4 + 3, none⟩ (.slice A16 (n2 + 1) c16)).cell? ⟨g, k * 4 + 2, none⟩ = some (.slice A8 (n1 + 1) c8) := (World.cell?_setCell_other _ _ _ _ (by intro h; injection h with _ h; omega)).trans (World.cell?_setCell_same (w := w16) (a := ⟨g, k * 4 + 2, none⟩) _ HCELL.out.1)
 have hxo : ABox w16 ob 27 [.int .i64 m, .int .i64 h, .slice (some ⟨g, 0, none⟩) l.length l.length] := (HK16.out.block ob (fun e => by have := HNO5.out _ e.symm; omega) HX6.out.lt).trans HX6.out
 have hx2 : ABox w16 (w.heap.size + 2) 27 [.int .i64 0, .int .i64 0, .slice none 0 0] := (HK16.out.block (w.heap.size + 2) (fun e => by have := (HOL.out _ e.symm).1; omega) HX26.out.lt).trans HX26.out
 have hbf : Below wb.heap.size wb w16 := HB8.out.trans (HB16.out.mono HB8.out.size)
 generalize (w16.setCell ⟨g, k * 4 + 2, none⟩ (.slice A8 (n1 + 1) c8)).setCell ⟨g, k * 4 + 3, none⟩ (.slice A16 (n2 + 1) c16) = wy at *
 have HXy : Hid (ABox wy ob 27 [.int .i64 m, .int .i64 h, .slice (some ⟨g, 0, none⟩) l.length l.length]) := Lh ((hgf.block ob hxo.lt (fun e => by injection e with e; omega)).trans hxo)
 have HX2y : Hid (ABox wy (w.heap.size + 2) 27 [.int .i64 0, .int .i64 0, .slice none 0 0]) := Lh ((hgf.block _ hx2.lt (fun e => by injection e with e; omega)).trans hx2)
 have HBy : Hid (Below wb.heap.size wb wy) := Lh (hbf.grown hgf hbf.size (fun q hq => by cases hq; have := HZ.out; omega))
 rw [HFI5.out.1, HFI5.out.2] at hfin
 have HOy := Lh hfin
 clear hfin hgf hxo hx2 hbf hS0 HSP
 clear HCK6 HB6 HX6 HX16 HX26 HK7 HK8 HK14 HK15 HK16 HO8 HO16 HR7 HR14 HR15 HB7 HB8 HB14 HB15 HB16 HCELL HFZ HOG HOL HTX
 have hLl : (l.set k (corrS s version ⟨a, b⟩)).length = l.length := List.length_set
 obtain ⟨L, hL⟩ : ∃ L, l.set k (corrS s version ⟨a, b⟩) = L := ⟨_, rfl⟩
 rw [hL] at HOy HSH HWF HPN hLl
 have HL := Lh hL
 clear hL
 have HOK : Hid (BookOk wy m h (some ⟨g, 0, none⟩) l.length L) := Lh ⟨HLA.out.to HBy.out, by
   obtain ⟨A, c, e, hs⟩ := HOy.out.sl
   rw [hLl] at e
   cases e
   exact hs.mono (fun i _ hl => hl), HSH.out, HWF.out, HI.out, HPN.out⟩
 have HFI := Lh (bfits_any HOK.out)
 rw [hLl] at HFI
 have k0 := HXy.out.cell 0 rfl
 have k1 := HXy.out.cell 1 rfl
 have k2 := HXy.out.cell 2 rfl
 clear hLl HSH HWF HOK
 obtain ⟨np, hnp⟩ : ∃ np, (pagesB m h L).length = np := ⟨_, rfl⟩
 rw [hnp] at HFI
 have HNP := Lh hnp
 clear hnp HPN
 have hn100 : ¬ ((n1 + 1 : Nat) : Int) > 100 := by omega
 by_cases hn : 16384 < np
 ·have hfv : ∀ v, fitsV m h v np = .tuple #[.agg #[.int .i64 0, .int .i64 0, .slice none 0 0], .int .i64 2] := fun v => by unfold fitsV; rw [if_pos hn]
  have HFV := Lh hfv
  rw [hfv] at HFI
  clear hfv hn
  go_wp2_with (first
   |(go_at_call 69; refine HFI.out.mono ?_; rintro e w7 ⟨rfl, hb7⟩; have HB7 := Lh hb7; have HX27 := Lh (HX2y.out.to hb7); clear hb7 k0 k1 k2;
     have k0 := HX27.out.cell 0 rfl; have k1 := HX27.out.cell 1 rfl; have k2 := HX27.out.cell 2 rfl; have f0 := HX27.out.fz 0; have f1 := HX27.out.fz 1; have f2 := HX27.out.fz 2)
   | fail)
  have hn1 : ∀ i, Up g i → i ≠ w.heap.size + 2 := fun i (hi : g ≤ i) => by have := HS6.out; omega
  exact bodyPost_ret (v := .tuple #[.agg #[.int .i64 0, .int .i64 0, .slice none 0 0], .int .i64 2]) (results_row_tmp Tryz.results38 _ _ (w.heap.size + 2) _ #[.int .i64 0, .int .i64 0, .slice none 0 0] (0, 0) _ rfl (abox3 HX27.out _ _ _) Tryz.underlying27 rfl (by kernel_rfl)) rfl
   ⟨.slice (some ⟨g, 0, none⟩) l.length l.length, by rw [HL.out, HNP.out, HFV.out], by rw [HL.out]; exact up_own ((((HOy.out.below HB7.out).set (w.heap.size + 2) 0 _ hn1).set (w.heap.size + 2) 1 _ hn1).set (w.heap.size + 2) 2 _ hn1) (by omega), below3 ((HB.out.trans (HBy.out.mono HB.out.size)).trans (HB7.out.mono (by have := HB.out.size; have := HBy.out.size; omega))) (by omega) _ _ _⟩
 ·have hfv : ∀ v, fitsV m h v np = .tuple #[.agg #[.int .i64 m, .int .i64 h, v], .int .i64 0] := fun v => by unfold fitsV; rw [if_neg hn]
  have HFV := Lh hfv
  rw [hfv] at HFI
  clear hfv hn
  go_wp2_with (first
   |(go_at_call 69; refine HFI.out.mono ?_; rintro e w7 ⟨rfl, hb7⟩; have HB7 := Lh hb7; have HX27 := Lh (HX2y.out.to hb7); clear hb7 k0 k1 k2;
     have k0 := HX27.out.cell 0 rfl; have k1 := HX27.out.cell 1 rfl; have k2 := HX27.out.cell 2 rfl; have f0 := HX27.out.fz 0; have f1 := HX27.out.fz 1; have f2 := HX27.out.fz 2)
   | fail)
  have hn1 : ∀ i, Up g i → i ≠ w.heap.size + 2 := fun i (hi : g ≤ i) => by have := HS6.out; omega
  exact bodyPost_ret (v := .tuple #[.agg #[.int .i64 m, .int .i64 h, .slice (some ⟨g, 0, none⟩) l.length l.length], .int .i64 0]) (results_row_tmp Tryz.results38 _ _ (w.heap.size + 2) _ #[.int .i64 m, .int .i64 h, .slice (some ⟨g, 0, none⟩) l.length l.length] (0, 0) _ rfl (abox3 HX27.out _ _ _) Tryz.underlying27 rfl (by kernel_rfl)) rfl
   ⟨.slice (some ⟨g, 0, none⟩) l.length l.length, by rw [HL.out, HNP.out, HFV.out], by rw [HL.out]; exact up_own ((((HOy.out.below HB7.out).set (w.heap.size + 2) 0 _ hn1).set (w.heap.size + 2) 1 _ hn1).set (w.heap.size + 2) 2 _ hn1) (by omega), below3 ((HB.out.trans (HBy.out.mono HB.out.size)).trans (HB7.out.mono (by have := HB.out.size; have := HBy.out.size; omega))) (by omega) _ _ _⟩
end Go.Proofs.YtakaielemicpkaaGreatDoor
namespace Go.Proofs.YtakaielemicpkaaGreatDoor
open Go.RowKit Go.Shelf
theorem line_infoW : (Tryz.prog.info? 88).map (fun i => (i.zero, i.size, i.bytes)) = some (some (.agg #[.int .i64 0, .int .i64 0, .slice none 0 0, .slice none 0 0]), Rep.size LineP, 64) := by kernel_rfl
theorem grow_nilL (n : Nat) (w : World) (hn : n ≤ 4194304) :
  Calls Tryz.prog 73 #[.slice none 0 0, .int .i64 (n : Int)] w fun e w' => ∃ v, e = .returned v ∧ Own w' w.heap.size 88 v ([] : List LineP) ∧ Below w.heap.size w w' := by
 by_cases h0 : n = 0
 ·subst h0
  exact (Any8.slices_Grow_room growL none 0 0 0 w (by omega) (by omega) (by omega) (by omega)).mono fun e w' ⟨he, hw⟩ => ⟨_, he, Own.nil _ _ _, by rw [hw]; exact Below.refl _ _⟩
 ·obtain ⟨i, hi, hz, hz1, hz2⟩ := info_parts line_infoW
  have h1 := grownCap_ge w (0 + n) 0 (growL_ren.t 25)
  have h2 := grownCap_le_maxLen w (0 + n) 0 (growL_ren.t 25) (by unfold maxLen; omega)
  refine (Any8.slices_Grow_grow growL i (.agg #[.int .i64 0, .int .i64 0, .slice none 0 0, .slice none 0 0]) hi hz (by rw [hz1]; decide) none 0 0 n [] w (by omega) (by omega) (by rw [hz2]; omega) (by omega) (by simp) (fun _ => rfl) (fun a h => by cases h)).mono ?_
  rintro e w' ⟨he, rfl⟩
  refine ⟨_, he, ⟨[], ⟨by simp, .inr ⟨w.heap.size, _, _, rfl, Nat.le_refl _, heap_alloc_new w.drew _, by simp, h2, ?_, by simp⟩⟩, by simp, fun i h => absurd h (by simp)⟩, ?_⟩
  ·have e : (Value.agg #[.int .i64 0, .int .i64 0, .slice none 0 0, .slice none 0 0]).cells.size = 4 := rfl
   simp only [Array.size_append, size_zeroCells, e]
   show 0 + (0 + n - 0) * 4 + (_ - (0 + n)) * 4 = _ * 4
   omega
  ·exact ((Below.refl _ _).drew).alloc (Nat.le_refl _) _
set_option maxHeartbeats 1000000 in
theorem concatL_any (Q : Nat) (A B : Option Addr) (c d : Nat) (a b : List LineP) (w : World) (h0 : w.cell? ⟨Q, 0, none⟩ = some (.slice A a.length c)) (h1 : w.cell? ⟨Q, 1, none⟩ = some (.slice B b.length d))
  (ha : Sl w (fun b => b < w.heap.size) A c a) (hb : Sl w (fun b => b < w.heap.size) B d b) (hla : a.length ≤ 1048576) (hlb : b.length ≤ 1048576) :
  Calls Tryz.prog 41 #[.slice (some ⟨Q, 0, none⟩) 2 2] w fun e w' => ∃ v, e = .returned v ∧ Own w' w.heap.size 88 v (a ++ b) ∧ Below w.heap.size w w' := by
 have Ha := Lh ha
 have Hb := Lh hb
 have H0 := Lh h0
 have H1 := Lh h1
 have hQ := World.block_lt_of_cell? w _ h0
 clear ha hb
 go_enter Tryz.func41, Tryz.ntmps41
 go_wp2_with fail
 go_loop [3, 5, 11] (fun n _ i => ∃ k : Nat, k ≤ 2 ∧ i = .int .i64 k ∧ n = .int .i64 ((catTo a b k).length : Int)) (fun _ _ i => 2 - (intOf i).toNat)
 case atStart => exact ⟨0, by omega, rfl, rfl⟩
 case round =>
  obtain ⟨k, hk, rfl, rfl⟩ := hrel
  rcases (show k = 0 ∨ k = 1 ∨ k = 2 by omega) with rfl | rfl | rfl
  ·have e : (catTo a b 0).length = 0 := rfl
   rw [e]
   clear e
   go_wp2_with fail
   go_round
   case rel => exact ⟨1, by omega, rfl, by simp [catTo]⟩
   case measure => simp [intOf]
  ·have e : (catTo a b 1).length = a.length := rfl
   rw [e]
   clear e
   go_wp2_with fail
   go_round
   case rel => exact ⟨2, by omega, rfl, by simp [catTo]⟩
   case measure => simp [intOf]
  ·have e : (catTo a b 2).length = a.length + b.length := by simp [catTo]
   rw [e]
   clear e h0 h1
   go_wp2_with fail
   refine (grow_nilL (a.length + b.length) w (by omega)).mono ?_
   rintro e wG ⟨v, rfl, hownG, hbG⟩
   have HbG := Lh hbG
   have HoG := Lh hownG
   clear hbG hownG
   go_wp2_with fail
   go_loopw [6, 8, 27] (fun v _ i wr => ∃ k : Nat, k ≤ 2 ∧ i = .int .i64 k ∧ Own wr w.heap.size 88 v (catTo a b k) ∧ Below w.heap.size w wr) (fun _ _ i _ => 2 - (intOf i).toNat)
   case atStart => exact ⟨0, by omega, rfl, HoG.out, HbG.out⟩
   case round =>
    obtain ⟨k, hk, rfl, hown, hb3⟩ := hrel
    rcases (show k = 0 ∨ k = 1 ∨ k = 2 by omega) with rfl | rfl | rfl
    ·have hown : Own wr w.heap.size 88 _ ([] : List LineP) := hown
     obtain ⟨A2, c2, rfl, _⟩ := hown.sl
     have hc := (hb3.cell (p := ⟨Q, 0, none⟩) hQ).trans H0.out
     have hz3 := hb3.size
     go_wp2_with (at_builtin; refine wpList_cat (α := LineP) _ rfl (.tmp 31) (.tmp 32) 34 rfl w.heap.size 88 (.agg #[.int .i64 0, .int .i64 0, .slice none 0 0, .slice none 0 0]) 64 Tryz.underlying34 line_infoW rfl (by decide) _ [] rfl hown A c a.length a rfl rfl (fun b => b < w.heap.size) (Ha.out.keep (Kept.all hb3) hz3) (by intro i (hi : i < w.heap.size) _ e; have := (hown.lt i e.symm).1; omega) (by first | omega | (simp; done) | (simp; omega)) (by first | omega | (simp; done) | (simp; omega)) (by first | omega | (simp; done) | (simp; omega)) ?_; intro v2 w2 hown2 hg2 hat2)
     go_roundw
     case rel => exact ⟨1, by omega, rfl, by rw [List.nil_append] at hown2; exact hown2, below_cat hb3 hown hz3 hg2⟩
     case measure => simp [intOf]
    ·have hown : Own wr w.heap.size 88 _ (a : List LineP) := hown
     obtain ⟨A2, c2, rfl, _⟩ := hown.sl
     have hc := (hb3.cell (p := ⟨Q, 1, none⟩) hQ).trans H1.out
     have hz3 := hb3.size
     go_wp2_with (at_builtin; refine wpList_cat (α := LineP) _ rfl (.tmp 31) (.tmp 32) 34 rfl w.heap.size 88 (.agg #[.int .i64 0, .int .i64 0, .slice none 0 0, .slice none 0 0]) 64 Tryz.underlying34 line_infoW rfl (by decide) _ a rfl hown B d b.length b rfl rfl (fun b => b < w.heap.size) (Hb.out.keep (Kept.all hb3) hz3) (by intro i (hi : i < w.heap.size) _ e; have := (hown.lt i e.symm).1; omega) (by first | omega | (simp; done) | (simp; omega)) (by first | omega | (simp; done) | (simp; omega)) (by first | omega | (simp; done) | (simp; omega)) ?_; intro v2 w2 hown2 hg2 hat2)
     go_roundw
     case rel => exact ⟨2, by omega, rfl, hown2, below_cat hb3 hown hz3 hg2⟩
     case measure => simp [intOf]
    ·go_wp2_with fail
     go_ret
     exact ⟨_, rfl, hown, hb3⟩
end Go.Proofs.YtakaielemicpkaaGreatDoor
namespace Go.Proofs.YtakaielemicpkaaGreatDoor
open Go.RowKit Go.Shelf
attribute [local go_sem] Oper.semAt_some
def lineP (ls : List LineP) (wd : Int) : Option Nat := ls.findIdx? (fun x => decide (x.fr ≤ wd ∧ wd < x.un))
def whereP (entry ver wd : Int) : List PageP → Option (Int × Int × Nat)
 | [] => none
 | p :: ps => match (if p.entry = entry ∧ p.ver = ver then lineP (p.body ++ p.notes) wd else none) with
  | some i => some (p.num, p.suf, i + 1)
  | none => whereP entry ver wd ps
theorem lineP_none {ls : List LineP} {wd : Int} (h : ∀ j (hj : j < ls.length), ¬ (ls[j].fr ≤ wd ∧ wd < ls[j].un)) : lineP ls wd = none := by
 unfold lineP
 rw [List.findIdx?_eq_none_iff]
 intro x hx
 obtain ⟨j, hj, rfl⟩ := List.getElem_of_mem hx
 exact decide_eq_false (h j hj)
theorem lineP_hit {ls : List LineP} {wd : Int} {k : Nat} (hk : k < ls.length) (h : ls[k].fr ≤ wd ∧ wd < ls[k].un) (hn : ∀ j (hj : j < ls.length), j < k → ¬ (ls[j].fr ≤ wd ∧ wd < ls[j].un)) : lineP ls wd = some k := by
 unfold lineP
 rw [List.findIdx?_eq_some_iff_getElem]
 exact ⟨hk, decide_eq_true h, fun j hj => by rw [decide_eq_true_iff]; exact hn j (by omega) hj⟩
theorem whereP_append {entry ver wd : Int} : ∀ (l m : List PageP), whereP entry ver wd (l ++ m) = (whereP entry ver wd l).or (whereP entry ver wd m)
 | [], _ => rfl
 | p :: ps, m => by
  rw [List.cons_append, whereP, whereP]
  split
  ·rfl
  ·exact whereP_append ps m
def whereV : Option (Int × Int × Nat) → Value
 | none => .tuple #[.agg #[.int .i64 0, .int .i64 0], .int .i64 0, .bool false]
 | some (n, s, i) => .tuple #[.agg #[.int .i64 n, .int .i64 s], .int .i64 (i : Int), .bool true]
theorem run_loadVar_cell {P : Program} {w : World} {g : Nat} {ty : TypeId} {v : Value} (ha : ∀ w, (isAgg ty).run P w = .ok false w) (hc : w.cell? ⟨g, 0, none⟩ = some v) : (loadVar ty ⟨g, 0, none⟩).run P w = .ok v w := by
 simp [loadVar, ha, hc]
theorem results_row_cells {P : Program} {fn : Func} {p q r : Tmp} {ty t1 t2 : TypeId} (h : fn.results = #[.cell p ty, .cell q t1, .cell r t2]) (tmps : Array Value) (w : World) (g g1 g2 : Nat) (t : TypeId) (cs : Array Value) (fr : Nat × Nat) (d : TypeDesc) (u1 u2 : Value)
  (hp : tmps.getD p undef = .pointer (some ⟨g, 0, none⟩)) (hq : tmps.getD q undef = .pointer (some ⟨g1, 0, none⟩)) (hr : tmps.getD r undef = .pointer (some ⟨g2, 0, none⟩)) (hg : w.heap[g]? = some (.cells cs t fr)) (h1 : w.cell? ⟨g1, 0, none⟩ = some u1) (h2 : w.cell? ⟨g2, 0, none⟩ = some u2)
  (hu : P.underlying ty = some d) (hd : (match d with | .struct _ | .array _ _ => true | _ => false) = true) (hi : (P.info? ty).map (·.size) = some cs.size) (ha1 : ∀ w, (isAgg t1).run P w = .ok false w) (ha2 : ∀ w, (isAgg t2).run P w = .ok false w) :
  (results fn tmps).run P w = .ok (.tuple #[.agg cs, u1, u2]) w := by
 have hp' : tmps[p]?.getD undef = .pointer (some ⟨g, 0, none⟩) := by simpa using hp
 have hq' : tmps[q]?.getD undef = .pointer (some ⟨g1, 0, none⟩) := by simpa using hq
 have hr' : tmps[r]?.getD undef = .pointer (some ⟨g2, 0, none⟩) := by simpa using hr
 simp [results, h, hp', hq', hr', asAddr, run_loadVar_row w g t ty cs fr d hg hu hd hi, run_loadVar_cell ha1 h1, run_loadVar_cell ha2 h2]
structure WI (n : Nat) (w : World) (en ve wd rn rs ri : Int) (rb : Bool) (W : World) : Prop where
 x1 : ABox W (n + 1) 3 [.int .i64 en]
 x2 : ABox W (n + 1 + 1) 3 [.int .i64 ve]
 x3 : ABox W (n + 1 + 1 + 1) 3 [.int .i64 wd]
 x4 : ABox W (n + 1 + 1 + 1 + 1) 24 [.int .i64 rn, .int .i64 rs]
 x5 : ABox W (n + 1 + 1 + 1 + 1 + 1) 3 [.int .i64 ri]
 x6 : ABox W (n + 1 + 1 + 1 + 1 + 1 + 1) 4 [.bool rb]
 bl : Below n w W
section
variable {n : Nat} {w : World} {en ve wd rn rs ri : Int} {rb : Bool} {W W' : World}
theorem WI.keep (h : WI n w en ve wd rn rs ri rb W) (hb : ∀ i, n ≤ i → i < n + 7 → W'.heap[i]? = W.heap[i]?) (hl : Below n w W') : WI n w en ve wd rn rs ri rb W' :=
 ⟨(hb _ (by omega) (by omega)).trans h.x1, (hb _ (by omega) (by omega)).trans h.x2, (hb _ (by omega) (by omega)).trans h.x3, (hb _ (by omega) (by omega)).trans h.x4, (hb _ (by omega) (by omega)).trans h.x5, (hb _ (by omega) (by omega)).trans h.x6, hl⟩
theorem WI.lt (h : WI n w en ve wd rn rs ri rb W) : n + 7 ≤ W.heap.size := by have := h.x6.lt; omega
theorem WI.to (h : WI n w en ve wd rn rs ri rb W) (hb : Below W.heap.size W W') : WI n w en ve wd rn rs ri rb W' :=
 h.keep (fun i _ hi => hb.block i (by have := h.lt; omega)) (h.bl.trans (hb.mono (by have := h.lt; omega)))
theorem WI.ks (h : WI n w en ve wd rn rs ri rb W) {N : Nat} {R : Nat → Prop} (hN : n + 7 ≤ N) (hk : KS (fun i => i < N ∨ R i) W W') : WI n w en ve wd rn rs ri rb W' :=
 h.keep (fun i _ hi => hk.block i (.inl (by omega)) (by have := h.lt; omega)) (h.bl.trans (hk.below (fun i hi => .inl (by omega)) (by have := h.lt; omega)))
theorem WI.grown (h : WI n w en ve wd rn rs ri rb W) {row : Option Nat} (hg : W.grownBy W' row) (hr : ∀ r, row = some r → n + 7 ≤ r) : WI n w en ve wd rn rs ri rb W' :=
 h.keep (fun i _ hi => hg.block i (by have := h.lt; omega) (fun e => by have := hr _ e.symm; omega)) (h.bl.grown hg (by have := h.lt; omega) (fun k hk => by have := hr _ hk; omega))
theorem WI.found (h : WI n w en ve wd rn rs ri rb W) (a b c : Int) (d : Bool) : WI n w en ve wd a b c d ((((W.setCell ⟨n + 1 + 1 + 1 + 1, 0, none⟩ (.int .i64 a)).setCell ⟨n + 1 + 1 + 1 + 1, 1, none⟩ (.int .i64 b)).setCell ⟨n + 1 + 1 + 1 + 1 + 1, 0, none⟩ (.int .i64 c)).setCell ⟨n + 1 + 1 + 1 + 1 + 1 + 1, 0, none⟩ (.bool d)) := by
 refine ⟨?_, ?_, ?_, ?_, ?_, ?_, ?_⟩
 ·exact (((h.x1.other (by omega) _ _).other (by omega) _ _).other (by omega) _ _).other (by omega) _ _
 ·exact (((h.x2.other (by omega) _ _).other (by omega) _ _).other (by omega) _ _).other (by omega) _ _
 ·exact (((h.x3.other (by omega) _ _).other (by omega) _ _).other (by omega) _ _).other (by omega) _ _
 ·have := (((h.x4.set 0 (.int .i64 a)).set 1 (.int .i64 b)).other (Q := n + 1 + 1 + 1 + 1 + 1) (by omega) 0 (.int .i64 c)).other (Q := n + 1 + 1 + 1 + 1 + 1 + 1) (by omega) 0 (.bool d)
  simpa using this
 ·have := (((h.x5.other (Q := n + 1 + 1 + 1 + 1) (by omega) 0 (.int .i64 a)).other (Q := n + 1 + 1 + 1 + 1) (by omega) 1 (.int .i64 b)).set 0 (.int .i64 c)).other (Q := n + 1 + 1 + 1 + 1 + 1 + 1) (by omega) 0 (.bool d)
  simpa using this
 ·have := (((h.x6.other (Q := n + 1 + 1 + 1 + 1) (by omega) 0 (.int .i64 a)).other (Q := n + 1 + 1 + 1 + 1) (by omega) 1 (.int .i64 b)).other (Q := n + 1 + 1 + 1 + 1 + 1) (by omega) 0 (.int .i64 c)).set 0 (.bool d)
  simpa using this
 ·exact (((h.bl.setCell (p := ⟨n + 1 + 1 + 1 + 1, 0, none⟩) (by show n ≤ n + 1 + 1 + 1 + 1; omega) _).setCell (p := ⟨n + 1 + 1 + 1 + 1, 1, none⟩) (by show n ≤ n + 1 + 1 + 1 + 1; omega) _).setCell (p := ⟨n + 1 + 1 + 1 + 1 + 1, 0, none⟩) (by show n ≤ n + 1 + 1 + 1 + 1 + 1; omega) _).setCell (p := ⟨n + 1 + 1 + 1 + 1 + 1 + 1, 0, none⟩) (by show n ≤ n + 1 + 1 + 1 + 1 + 1 + 1; omega) _
end
set_option maxRecDepth 100000 in
set_option maxHeartbeats 4000000 in
theorem where_any {m h : Int} {A : Option Addr} {c : Nat} {l : List SectP} {w : World} (H : BookOk w m h A c l) (entry ver wd : Int) :
  Calls Tryz.prog 18 #[.agg #[.int .i64 m, .int .i64 h, .slice A l.length c], .int .i64 entry, .int .i64 ver, .int .i64 wd] w fun e W' => e = .returned (whereV (whereP entry ver wd (pagesB m h l))) ∧ Below w.heap.size w W' := by
 refine (callsIn_wide (n := 4)).1 ?_
 refine callsIn_of_wp_marks Tryz.func18 rfl trivial ?_ rfl
 simp only [Tryz.ntmps18, List.size_toArray, List.length_cons, List.length_nil, Nat.reduceAdd, Nat.reduceSub, Array.replicate_succ, Array.replicate_zero, List.push_toArray, List.append_toArray, List.nil_append, List.cons_append]
 obtain ⟨wb, hwb⟩ : ∃ wb, ((((((w.alloc (.cells #[.int .i64 m, .int .i64 h, .slice A l.length c] 27)).alloc (.cells #[.int .i64 entry] 3)).alloc (.cells #[.int .i64 ver] 3)).alloc (.cells #[.int .i64 wd] 3)).alloc (.cells #[.int .i64 0, .int .i64 0] 24)).alloc (.cells #[.int .i64 0] 3)).alloc (.cells #[.bool false] 4) = wb := ⟨_, rfl⟩
 have hba : Below w.heap.size w wb := by rw [← hwb]; exact ((((((((Below.refl _ _).alloc (Nat.le_refl _) _).alloc (by simp) _).alloc (by simp; omega) _).alloc (by simp; omega) _).alloc (by simp; omega) _).alloc (by simp; omega) _).alloc (by simp; omega) _)
 have hz : wb.heap.size = w.heap.size + 7 := by rw [← hwb]; simp
 have hx0 : ABox wb w.heap.size 27 [.int .i64 m, .int .i64 h, .slice A l.length c] := by rw [← hwb]; repeat (first | exact heap_at (by simp; done) | refine (Below.heap_alloc _ _ _ (by simp; try omega)).trans ?_)
 have hx1 : ABox wb (w.heap.size + 1) 3 [.int .i64 entry] := by rw [← hwb]; repeat (first | exact heap_at (by simp; done) | refine (Below.heap_alloc _ _ _ (by simp; try omega)).trans ?_)
 have hx2 : ABox wb (w.heap.size + 1 + 1) 3 [.int .i64 ver] := by rw [← hwb]; repeat (first | exact heap_at (by simp; done) | refine (Below.heap_alloc _ _ _ (by simp; try omega)).trans ?_)
 have hx3 : ABox wb (w.heap.size + 1 + 1 + 1) 3 [.int .i64 wd] := by rw [← hwb]; repeat (first | exact heap_at (by simp; done) | refine (Below.heap_alloc _ _ _ (by simp; try omega)).trans ?_)
 have hx4 : ABox wb (w.heap.size + 1 + 1 + 1 + 1) 24 [.int .i64 0, .int .i64 0] := by rw [← hwb]; repeat (first | exact heap_at (by simp; done) | refine (Below.heap_alloc _ _ _ (by simp; try omega)).trans ?_)
 have hx5 : ABox wb (w.heap.size + 1 + 1 + 1 + 1 + 1) 3 [.int .i64 0] := by rw [← hwb]; repeat (first | exact heap_at (by simp; done) | refine (Below.heap_alloc _ _ _ (by simp; try omega)).trans ?_)
 have hx6 : ABox wb (w.heap.size + 1 + 1 + 1 + 1 + 1 + 1) 4 [.bool false] := by rw [← hwb]; repeat (first | exact heap_at (by simp; done) | refine (Below.heap_alloc _ _ _ (by simp; try omega)).trans ?_)
 have k0 := hx0.cell 0 rfl
 have k1 := hx0.cell 1 rfl
 have k2 := hx0.cell 2 rfl
 have HWB := Lh hwb
 gi_upto_region 1 with (fail)
 try rw [HWB.out]
 have hbo := H.to hba
 have HX0 := Lh hx0
 have HX1 := Lh hx1
 have HX2 := Lh hx2
 have HX3 := Lh hx3
 have HX4 := Lh hx4
 have HX5 := Lh hx5
 have HX6 := Lh hx6
 have HB := Lh hba
 have HZ := Lh hz
 clear hx0 hx1 hx2 hx3 hx4 hx5 hx6 hba hz hwb H
 gi_wp2
 refine ⟨trivial, CallsIn.mono (callsIn_wide.2 (ball_any m h (.slice A l.length c) wb)) ?_⟩
 rintro e w1 ⟨rfl, rfl⟩
 gi_wp2
 have HX0w : Hid (WI w.heap.size w entry ver wd 0 0 0 false wb) := Lh ⟨HX1.out, HX2.out, HX3.out, HX4.out, HX5.out, HX6.out, HB.out⟩
 obtain ⟨wa, hwa⟩ : ∃ wa, wb.alloc (.cells #[.int .i64 m, .int .i64 h, .slice A l.length c] 27) = wa := ⟨_, rfl⟩
 have hbw : Below wb.heap.size wb wa := by rw [← hwa]; exact (Below.refl _ _).alloc (Nat.le_refl _) _
 have hza : wa.heap.size = w.heap.size + 8 := by rw [← hwa]; simp; exact HZ.out
 have hseq := all_seq (4 - 1) (by omega) hbo hwa.symm
 have HWI := Lh (HX0w.out.to hbw)
 rw [hwa]
 clear hwa HX0 HX1 HX2 HX3 HX4 HX5 HX6 HB HX0w HWB hbo k0 k1 k2
 refine wpIn_rangeFunc_in rfl (by omega) (gf := 65) (lb := #[.pointer (some ⟨wb.heap.size, 0, none⟩)]) rfl trivial (enters_of Tryz.func65 (by kernel_rfl) rfl) hseq (Below.refl _ _) (Nat.le_refl _) (fun _ => rfl) PV.pr_keep PV.pr_mono
  (fun pre M R W => WI w.heap.size w entry ver wd 0 0 0 false W ∧ whereP entry ver wd (pre.map PV.plain) = none)
  (fun c pre W => c = .ret ∧ ∃ n s, ∃ i : Nat, whereP entry ver wd (pre.map PV.plain) = some (n, s, i) ∧ WI w.heap.size w entry ver wd n s (i : Int) true W)
  (fun pre M R X Y hc hk => ⟨hc.1.ks (by omega) hk, hc.2⟩) (fun c s X Y row hs hg hr => ⟨hs.1, by obtain ⟨n, s', i, h1, h2⟩ := hs.2; exact ⟨n, s', i, h1, h2.grown hg (fun r e => by have := (hr r e).1; omega)⟩⟩)
  ⟨HWI.out, rfl⟩
  (fun k x a' W => ∃ Bx, k ≤ Bx ∧ ABox W Bx 36 [.int .i64 x.num, .int .i64 x.suf, .int .i64 x.entry, .int .i64 x.ver, (.slice x.Aa x.body.length x.ca), (.slice x.Ab x.notes.length x.cb)] ∧ a' = { tmps := #[.agg #[.int .i64 m, .int .i64 h, .slice A l.length c], .int .i64 entry, .int .i64 ver, .int .i64 wd, .pointer (some ⟨w.heap.size, 0, none⟩), .pointer (some ⟨w.heap.size + 1, 0, none⟩), .pointer (some ⟨w.heap.size + 1 + 1, 0, none⟩), .pointer (some ⟨w.heap.size + 1 + 1 + 1, 0, none⟩), .pointer (some ⟨w.heap.size + 1 + 1 + 1 + 1, 0, none⟩), .pointer (some ⟨w.heap.size + 1 + 1 + 1 + 1 + 1, 0, none⟩), .pointer (some ⟨w.heap.size + 1 + 1 + 1 + 1 + 1 + 1, 0, none⟩), .pointer (some ⟨Bx, 0, none⟩), undef, undef, .agg #[.int .i64 m, .int .i64 h, .slice A l.length c], .func (.func 65) #[] #[.pointer (some ⟨wb.heap.size, 0, none⟩)], .agg #[.int .i64 x.num, .int .i64 x.suf, .int .i64 x.entry, .int .i64 x.ver, .slice x.Aa x.body.length x.ca, .slice x.Ab x.notes.length x.cb], undef, undef, undef, undef, undef, undef, undef, undef, undef, undef, undef, undef, undef, undef, undef, undef, undef, undef, undef, undef, undef, undef, undef, undef, undef, undef, undef, undef, undef, undef, undef, undef, undef, undef, undef, undef, undef, undef], defers := [] })
  (fun k x a' s X Y row ⟨Bx, h1, h2, h3⟩ hg hr => ⟨Bx, h1, (hg.block Bx h2.lt (fun e => by obtain ⟨_, o, ho, hc⟩ := hr Bx e.symm; rw [show X.heap[Bx]? = _ from h2] at ho; cases ho; cases hc)).trans h2, h3⟩)
  ?assign ?body ?done ?stop
 case assign =>
  intro lp x W K hK
  obtain ⟨n1, s1, e1, v1, bo, no, Aa, ca, Ab, cb⟩ := x
  unfold PV.enc
  gi_wp2
  exact hK _ _ ((Below.refl _ _).alloc (Nat.le_refl _) _) ⟨W.heap.size, Nat.le_refl _, heap_alloc_new W _, rfl⟩
 case body =>
  rintro lp pre M R PM x a' W Wp ⟨-, hw0⟩ hWp ⟨hwi, -⟩ hsz hM hR ⟨Bx, hBx, bX, rfl⟩ hlen hpr hpm
  obtain ⟨n1, s1, e1, v1, bo, no, Aa, ca, Ab, cb⟩ := x
  dsimp only at bX hpr ⊢
  have x2 := bX.cell 2 rfl
  have x3 := bX.cell 3 rfl
  have y1 := hwi.x1.cell 0 rfl
  have y2 := hwi.x2.cell 0 rfl
  have HW0 := Lh hw0
  have HWI := Lh hwi
  have HBX := Lh bX
  have HPR := Lh hpr
  have HPM := Lh hpm
  have HM := Lh hM
  have HR := Lh hR
  clear hw0 hwi bX hpr hpm hM hR
  by_cases he : e1 = entry ∧ v1 = ver
  ·obtain ⟨he1, he2⟩ := he
   subst he1 he2
   gi_upto_region 4 with (fail)
   clear x2 x3 y1 y2
   have x4 := HBX.out.cell 4 rfl
   have x5 := HBX.out.cell 5 rfl
   obtain ⟨W1, hW1⟩ : ∃ W1, W.alloc (.cells #[.slice Aa bo.length ca, .slice Ab no.length cb] 34) = W1 := ⟨_, rfl⟩
   have hb1 : Below W.heap.size W W1 := by rw [← hW1]; exact (Below.refl _ _).alloc (Nat.le_refl _) _
   have hQ : ABox W1 W.heap.size 34 [.slice Aa bo.length ca, .slice Ab no.length cb] := by rw [← hW1]; exact heap_alloc_new W _
   have hp1 := PV.pr_keep _ _ _ _ HPR.out (KS.of_below hb1 _)
   obtain ⟨Ax, cx, ex, hsa, -⟩ := hp1.1
   cases ex
   obtain ⟨Ay, cy, ey, hsb, -⟩ := hp1.2.1
   cases ey
   have hsm : SmallP ⟨n1, s1, e1, v1, bo, no⟩ := hp1.2.2
   have HCC := Lh (concatL_any W.heap.size Aa Ab ca cb bo no W1 (hQ.cell 0 rfl) (hQ.cell 1 rfl) (hsa.mono fun i _ h => h) (hsb.mono fun i _ h => h) hsm.1 hsm.2)
   clear hQ hp1 hsa hsb hsm
   gi_wp2
   try rw [hW1]
   refine ⟨trivial, CallsIn.mono ((callsIn_wide.2 HCC.out).inRound lp) ?_⟩
   rintro e W2 ⟨v2, rfl, ho2, hb2⟩
   obtain ⟨A2, c2, rfl, hs2⟩ := ho2.sl
   have HSM : Hid ((bo ++ no).length ≤ 2097152) := Lh (by rw [List.length_append]; have := HPR.out.2.2.1; have := HPR.out.2.2.2; dsimp only [PV.plain] at *; omega)
   have HS2 := Lh hs2
   have HB2 : Hid (Below W.heap.size W W2) := Lh (hb1.trans (hb2.mono hb1.size))
   have HWI2 := Lh (HWI.out.to HB2.out)
   have HBX2 := Lh (HBX.out.to HB2.out)
   clear hs2 hb2 hb1 ho2 x4 x5
   obtain ⟨ls, hls⟩ : ∃ ls, bo ++ no = ls := ⟨_, rfl⟩
   have HLS := Lh hls
   rw [hls] at HSM HS2 ⊢
   obtain ⟨n, hn⟩ : ∃ n, ls.length = n := ⟨_, rfl⟩
   have hn63 : n ≤ 2097152 := by rw [← hn]; exact HSM.out
   have HN := Lh hn
   rw [hn]
   clear hls hn
   gi_upto_region 5 with (fail)
   gi_loopw [34] (fun i wr => ∃ k : Nat, k ≤ n ∧ i = .int .i64 k ∧ Below W2.heap.size W2 wr ∧ ∀ j (hj : j < ls.length), j < k → ¬ (ls[j].fr ≤ wd ∧ wd < ls[j].un)) (fun i _ => n - (intOf i).toNat)
   case atStart => exact ⟨0, by omega, rfl, Below.refl _ _, fun j _ h => absurd h (Nat.not_lt_zero _)⟩
   case round =>
    obtain ⟨k, hk, rfl, hbl, hno⟩ := hrel
    by_cases hlt : k < n
    ·have hkl : k < ls.length := by rw [HN.out]; exact hlt
     have hsr := HS2.out.keep (Kept.all hbl) hbl.size
     obtain ⟨b, o, Ag, cg, An, cn, rfl, hb0, hbl0, e0, e1', e2, e3, -, -⟩ := line_at hsr hkl
     obtain ⟨y, hy⟩ : ∃ y, ls[k] = y := ⟨_, rfl⟩
     rw [hy] at e0 e1' e2 e3
     have HY := Lh hy
     have HBL := Lh hbl
     have HNO := Lh hno
     clear hsr hbl hno hy hb0
     have HWI3 := Lh (HWI2.out.to HBL.out)
     have HBX3 := Lh (HBX2.out.to HBL.out)
     gi_upto_region 7 with (fail)
     obtain ⟨W3, hW3⟩ : ∃ W3, wr.alloc (.cells #[.int .i64 y.fr, .int .i64 y.un, .slice Ag y.gaps.length cg, .slice An y.notes.length cn] 88) = W3 := ⟨_, rfl⟩
     have hb3 : Below wr.heap.size wr W3 := by rw [← hW3]; exact (Below.refl _ _).alloc (Nat.le_refl _) _
     have hX : ABox W3 wr.heap.size 88 [.int .i64 y.fr, .int .i64 y.un, .slice Ag y.gaps.length cg, .slice An y.notes.length cn] := by rw [← hW3]; exact heap_alloc_new wr _
     rw [hW3]
     have HWI4 := Lh (HWI3.out.to hb3)
     have HBX4 := Lh (HBX3.out.to hb3)
     have HBL4 : Hid (Below W2.heap.size W2 W3) := Lh (HBL.out.trans (hb3.mono HBL.out.size))
     have l0 := hX.cell 0 rfl
     have l1 := hX.cell 1 rfl
     have z3 := HWI4.out.x3.cell 0 rfl
     have HX := Lh hX
     clear hX hb3 e0 e1' e2 e3 hW3 HWI3 HBX3 HBL
     by_cases hf : y.fr ≤ wd ∧ wd < y.un
     ·obtain ⟨hf1, hf2⟩ := hf
      gi_upto_region 8 with (fail)
      have HLP : Hid (lineP ls wd = some k) := Lh (lineP_hit hkl (by rw [HY.out]; exact ⟨hf1, hf2⟩) HNO.out)
      have HFIN : Hid (whereP e1 v1 wd ((pre ++ [(⟨n1, s1, e1, v1, bo, no, Aa, ca, Ab, cb⟩ : PV)]).map PV.plain) = some (n1, s1, k + 1)) := Lh (by
       rw [List.map_append, whereP_append, HW0.out, Option.none_or]
       show whereP e1 v1 wd [(⟨n1, s1, e1, v1, bo, no⟩ : PageP)] = _
       rw [whereP, if_pos ⟨rfl, rfl⟩, HLS.out, HLP.out])
      clear hf1 hf2 l0 l1 z3
      have p0 := HBX4.out.cell 0 rfl
      have p1 := HBX4.out.cell 1 rfl
      have q0 := HWI4.out.x4.cell 0 rfl
      have q1 := HWI4.out.x4.cell 1 rfl
      have r0 := HWI4.out.x4.fz 0
      have r1 := HWI4.out.x4.fz 1
      have q5 := HWI4.out.x5.cell 0 rfl
      have r5 := HWI4.out.x5.fz 0
      have q6 := HWI4.out.x6.cell 0 rfl
      have r6 := HWI4.out.x6.fz 0
      have HK1 : Hid ((k : Int) + 1 = ((k + 1 : Nat) : Int)) := Lh (by omega)
      gi_wp2
      refine ⟨⟨rfl, n1, s1, k + 1, HFIN.out, ?_⟩, ?_⟩
      ·rw [← HK1.out]
       exact HWI4.out.found n1 s1 ((k : Int) + 1) true
      ·have hq : ∀ x : Nat, x ≤ 6 → ¬ (w.heap.size + x = wa.heap.size ∨ w.heap.size + x = wa.heap.size + 1) := fun x hx => by omega
       exact (((((KS.of_below HB2.out _).trans (KS.of_below HBL4.out _)).trans (KS.setCell _ _ (hq 4 (by omega)))).trans (KS.setCell _ _ (hq 4 (by omega)))).trans (KS.setCell _ _ (hq 5 (by omega)))).trans (KS.setCell _ _ (hq 6 (by omega)))
     ·have HNF := Lh hf
      by_cases hf1 : y.fr ≤ wd
      ·have hf2 : ¬ wd < y.un := fun e => HNF.out ⟨hf1, e⟩
       gi_wp2
       go_roundw
       case rel => exact ⟨k + 1, by omega, by go_num, HBL4.out, fun j hj hjk => by
        rcases Nat.lt_or_ge j k with h | h
        ·exact HNO.out j hj h
        ·obtain rfl : j = k := by omega
         rw [HY.out]; exact HNF.out⟩
       case measure => simp [intOf]; omega
      ·gi_wp2
       go_roundw
       case rel => exact ⟨k + 1, by omega, by go_num, HBL4.out, fun j hj hjk => by
        rcases Nat.lt_or_ge j k with h | h
        ·exact HNO.out j hj h
        ·obtain rfl : j = k := by omega
         rw [HY.out]; exact HNF.out⟩
       case measure => simp [intOf]; omega
    ·obtain rfl : k = n := by omega
     have HFIN : Hid (whereP e1 v1 wd ((pre ++ [(⟨n1, s1, e1, v1, bo, no, Aa, ca, Ab, cb⟩ : PV)]).map PV.plain) = none) := Lh (by
      rw [List.map_append, whereP_append, HW0.out, Option.none_or]
      show whereP e1 v1 wd [(⟨n1, s1, e1, v1, bo, no⟩ : PageP)] = _
      rw [whereP, if_pos ⟨rfl, rfl⟩, HLS.out, lineP_none (fun j hj => hno j hj (by have := HN.out; omega))]
      rfl)
     have HBL4 := Lh hbl
     clear hno hbl
     gi_wp2
     exact ⟨M, R, ⟨HWI2.out.to HBL4.out, HFIN.out⟩, (KS.of_below HB2.out _).trans (KS.of_below HBL4.out _), fun i h => .inl h, fun i h => .inl h⟩
  ·have HNE : Hid (¬ (e1 = entry ∧ v1 = ver)) := Lh he
   have HFIN : Hid (whereP entry ver wd ((pre ++ [(⟨n1, s1, e1, v1, bo, no, Aa, ca, Ab, cb⟩ : PV)]).map PV.plain) = none) := Lh (by
    rw [List.map_append, whereP_append, HW0.out]
    show whereP entry ver wd [(⟨n1, s1, e1, v1, bo, no⟩ : PageP)] = none
    rw [whereP, if_neg he]
    rfl)
   clear he
   by_cases h1 : e1 = entry
   ·have h2 : ¬ v1 = ver := fun e => HNE.out ⟨h1, e⟩
    gi_wp2
    exact ⟨M, R, ⟨HWI.out, HFIN.out⟩, KS.refl _ _, fun i h => .inl h, fun i h => .inl h⟩
   ·gi_wp2
    exact ⟨M, R, ⟨HWI.out, HFIN.out⟩, KS.refl _ _, fun i h => .inl h, fun i h => .inl h⟩
 case done =>
  rintro D xs M R W hD hD2 hS ⟨hwi, hw0⟩ hK
  rw [hS] at hw0
  have HW0 := Lh hw0
  have HK := Lh hK
  have q0 := hwi.x4.cell 0 rfl
  have q1 := hwi.x4.cell 1 rfl
  have r0 := hwi.x4.fz 0
  have r1 := hwi.x4.fz 1
  have q5 := hwi.x5.cell 0 rfl
  have r5 := hwi.x5.fz 0
  have q6 := hwi.x6.cell 0 rfl
  have r6 := hwi.x6.fz 0
  have HWI := Lh hwi
  clear hw0 hK hwi hS
  gi_wp2
  have HF := Lh (HWI.out.found 0 0 0 false)
  have hKf : ((((W.setCell ⟨w.heap.size + 1 + 1 + 1 + 1, 0, none⟩ (.int .i64 0)).setCell ⟨w.heap.size + 1 + 1 + 1 + 1, 1, none⟩ (.int .i64 0)).setCell ⟨w.heap.size + 1 + 1 + 1 + 1 + 1, 0, none⟩ (.int .i64 0)).setCell ⟨w.heap.size + 1 + 1 + 1 + 1 + 1 + 1, 0, none⟩ (.bool false)).heap[D]? = some (.deferred (some [])) := by
   rw [heap_set _ _ _ _ (by omega), heap_set _ _ _ _ (by omega), heap_set _ _ _ _ (by omega), heap_set _ _ _ _ (by omega)]
   exact HK.out
  clear q0 q1 r0 r1 q5 r5 q6 r6
  generalize ((((W.setCell ⟨w.heap.size + 1 + 1 + 1 + 1, 0, none⟩ (.int .i64 0)).setCell ⟨w.heap.size + 1 + 1 + 1 + 1, 1, none⟩ (.int .i64 0)).setCell ⟨w.heap.size + 1 + 1 + 1 + 1 + 1, 0, none⟩ (.int .i64 0)).setCell ⟨w.heap.size + 1 + 1 + 1 + 1 + 1 + 1, 0, none⟩ (.bool false)) = Wf at *
  refine ⟨by simp, .inl ⟨_, _, rfl, run_takeDeferred hKf, ?_⟩⟩
  have hg := grownBy_putObj' Wf D (.deferred none)
  have HG := Lh (HF.out.grown hg (fun k hk => by cases hk; omega))
  refine ⟨_, results_row_cells Tryz.results18 _ _ (w.heap.size + 1 + 1 + 1 + 1) (w.heap.size + 1 + 1 + 1 + 1 + 1) (w.heap.size + 1 + 1 + 1 + 1 + 1 + 1) _ _ (0, 0) _ _ _ rfl rfl rfl HG.out.x4 (HG.out.x5.cell 0 rfl) (HG.out.x6.cell 0 rfl) Tryz.underlying24 rfl (by kernel_rfl) Tryz.isAgg3 Tryz.isAgg4, ?_, HG.out.bl⟩
  rw [HW0.out]
  rfl
 case stop =>
  rintro D c pre W hD hD2 ⟨k, hk⟩ ⟨rfl, n, s, i, hwh, hwi⟩ hK
  have HW0 : Hid (whereP entry ver wd (pagesB m h l) = some (n, s, i)) := Lh (by
   rw [← List.take_append_drop k (pagesB m h l), whereP_append, ← hk, hwh]; rfl)
  have HK := Lh hK
  have HWI := Lh hwi
  clear hwh hK hwi hk
  gi_wp2
  have HF := HWI
  have hKf := HK.out
  obtain ⟨Wf, hWf⟩ : ∃ Wf, W = Wf := ⟨_, rfl⟩
  rw [hWf] at HF hKf ⊢
  clear hWf HWI
  refine ⟨by simp, .inl ⟨_, _, rfl, run_takeDeferred hKf, ?_⟩⟩
  have hg := grownBy_putObj' Wf D (.deferred none)
  have HG := Lh (HF.out.grown hg (fun k hk => by cases hk; omega))
  refine ⟨_, results_row_cells Tryz.results18 _ _ (w.heap.size + 1 + 1 + 1 + 1) (w.heap.size + 1 + 1 + 1 + 1 + 1) (w.heap.size + 1 + 1 + 1 + 1 + 1 + 1) _ _ (0, 0) _ _ _ rfl rfl rfl HG.out.x4 (HG.out.x5.cell 0 rfl) (HG.out.x6.cell 0 rfl) Tryz.underlying24 rfl (by kernel_rfl) Tryz.isAgg3 Tryz.isAgg4, ?_, HG.out.bl⟩
  rw [HW0.out]
  rfl
end Go.Proofs.YtakaielemicpkaaGreatDoor
namespace Go.Proofs.YtakaielemicpkaaGreatDoor
open Go.RowKit
def wideW : Word := ⟨⟨#[109, 109, 109, 109, 109, 109, 109, 109, 109, 109, 109, 109, 109, 109, 109, 109, 109, 109, 109, 109, 109, 109, 109, 109, 109, 109, 109, 109, 109, 109, 109, 109, 109, 109, 109, 109, 109, 109, 109, 109]⟩, ⟨#[]⟩, 0, 0⟩
theorem results_box1 {P : Program} {fn : Func} {p : Tmp} {ty : TypeId} (h : fn.results = #[.cell p ty]) (tmps : Array Value) (w : World) (g : Nat) (t : TypeId) (cs : List Value) (d : TypeDesc)
  (hp : tmps.getD p undef = .pointer (some ⟨g, 0, none⟩)) (hg : ABox w g t cs) (hu : P.underlying ty = some d) (hd : (match d with | .struct _ | .array _ _ => true | _ => false) = true) (hi : (P.info? ty).map (·.size) = some cs.length) :
  (results fn tmps).run P w = .ok (.agg cs.toArray) w := by
 have hp' : tmps[p]?.getD undef = .pointer (some ⟨g, 0, none⟩) := by simpa using hp
 have hi' : (P.info? ty).map (·.size) = some cs.toArray.size := by simpa using hi
 simp [results, h, hp', asAddr, run_loadVar_row w g t ty cs.toArray (0, 0) d hg hu hd hi']
theorem wideW_ok : wideW.ok := ⟨by decide, by decide, ⟨by decide, by decide⟩, ⟨by decide, by decide⟩⟩
theorem word_infoW : (Tryz.prog.info? 104).map (fun i => (i.zero, i.size, i.bytes)) = some (some (.agg #[.string ⟨#[]⟩, .string ⟨#[]⟩, .int .i64 0, .int .i64 0]), Rep.size Word, 48) := by kernel_rfl
set_option maxHeartbeats 1000000 in
theorem wide_any (n : Nat) (hn : n ≤ 1000) (w : World) :
  Calls Tryz.prog 37 #[.int .i64 (n : Int)] w fun e w' => ∃ A c, e = .returned (.agg #[.slice A 1 c, .slice none 0 0]) ∧ Sl w' (fun b => w.heap.size ≤ b ∧ b < w'.heap.size) A c [List.replicate n wideW] ∧ Below w.heap.size w w' := by
 have hn2 : (n : Int) ≤ 1000 := by omega
 have hb0 := (Below.refl w.heap.size w).alloc (Nat.le_refl _) (.cells #[.slice none 0 0, .slice none 0 0] 50)
 have hx0 : ABox (w.alloc (.cells #[.slice none 0 0, .slice none 0 0] 50)) w.heap.size 50 [.slice none 0 0, .slice none 0 0] := heap_alloc_new w _
 have hz : (w.alloc (.cells #[.slice none 0 0, .slice none 0 0] 50)).heap.size = w.heap.size + 1 := by simp
 go_enter Tryz.func37, Tryz.ntmps37
 go_upto_region 1 with (fail)
 generalize w.alloc (.cells #[.slice none 0 0, .slice none 0 0] 50) = w0 at *
 have HB0 := Lh hb0
 have HX0 := Lh hx0
 have HZ := Lh hz
 clear hb0 hx0 hz
 go_wp2_with fail
 go_loopw [3, 4] (fun v i wr => ∃ k : Nat, k ≤ n ∧ i = .int .i64 k ∧ Own wr w0.heap.size 104 v (List.replicate k wideW) ∧ Below w0.heap.size w0 wr) (fun _ i _ => n - (intOf i).toNat)
 case atStart => exact ⟨0, Nat.zero_le _, rfl, Own.nil _ _ _, Below.refl _ _⟩
 case round =>
  obtain ⟨k, hk, rfl, hown, hb⟩ := hrel
  have Hb := Lh hb
  have hzw := hb.size
  clear hb
  obtain ⟨A2, c2, rfl, _⟩ := hown.sl
  by_cases hlt : k < n
  ·have hkl : (k : Int) < n := by omega
   obtain ⟨l, hl⟩ : ∃ l, List.replicate k wideW = l := ⟨_, rfl⟩
   have hll : l.length = k := by rw [← hl]; simp
   have hl2 : l ++ [wideW] = List.replicate (k + 1) wideW := by rw [← hl, List.replicate_succ']
   rw [hl] at hown ⊢
   have HL2 := Lh hl2
   have HLL := Lh hll
   have hlk : l.length ≤ 1000 := by omega
   clear hl hl2 hll
   go_wp2_with (at_builtin; refine wpList_push (α := Word) _ rfl (.tmp 10) (.tmp 12) 99 rfl w0.heap.size 104 (.agg #[.string ⟨#[]⟩, .string ⟨#[]⟩, .int .i64 0, .int .i64 0]) 48 Tryz.underlying99 word_infoW rfl (by decide) _ l rfl (hown.alloc _) wr.heap.size _ wideW (0, 0) 104 rfl (heap_alloc_new wr _) ⟨rfl, wideW_ok⟩ (by omega) (by omega) (by first | omega | (simp; done) | (simp; omega)) _ rfl ?_; intro g cap w5 hown5 hg5 hat5 hlt5)
   go_roundw
   case rel => exact ⟨k + 1, by omega, by go_num, by rw [← HL2.out]; exact hown5, below_push Hb.out hown (by omega) hg5⟩
   case measure => simp [intOf]; omega
  ·obtain rfl : k = n := by omega
   obtain ⟨l, hl⟩ : ∃ l, List.replicate k wideW = l := ⟨_, rfl⟩
   have hll : l.length ≤ 1000 := by rw [← hl]; simp; omega
   rw [hl] at hown ⊢
   have HL := Lh hl
   clear hl
   obtain ⟨W1, hW1⟩ : ∃ W1, wr.alloc (.cells #[.slice A2 l.length c2] 99) = W1 := ⟨_, rfl⟩
   have hb1 : Below wr.heap.size wr W1 := by rw [← hW1]; exact (Below.refl _ _).alloc (Nat.le_refl _) _
   have hX : W1.heap[wr.heap.size]? = some (.cells #[.slice A2 l.length c2] 99 (0, 0)) := by rw [← hW1]; exact heap_alloc_new wr _
   have HY := Lh ((HX0.out.to Hb.out).to hb1)
   have x0 := HY.out.cell 0 rfl
   have x1 := HY.out.cell 1 rfl
   have f0 := HY.out.fz 0
   have f1 := HY.out.fz 1
   obtain ⟨A5, c5, e5, hs5⟩ := hown.sl
   cases e5
   have hsl : Sl W1 (fun b => w.heap.size < b ∧ b < W1.heap.size) (some ⟨wr.heap.size, 0, none⟩) 1 [l] := Sl.block (l := [l]) hX ⟨by have := HZ.out; omega, by have := cell_lt hX; omega⟩ (by simp [maxLen]) (fun i hi => by
    obtain rfl : i = 0 := by simpa using hi
    refine ⟨A2, c2, rfl, ?_, by simp only [List.getElem_cons_zero]; omega⟩
    exact (((hown.below hb1).sl_at rfl).mono fun i hi _ => ⟨by have := hi.1; have := HZ.out; omega, hi.2⟩))
   have HSL := Lh hsl
   have HB1 : Hid (Below w.heap.size w W1) := Lh ((HB0.out.trans (Hb.out.mono (by have := HZ.out; omega))).trans (hb1.mono (by have := HZ.out; omega)))
   have HZ1 : Hid (w.heap.size < wr.heap.size) := Lh (by have := HZ.out; omega)
   clear hX hsl hb1 hs5 hown
   go_upto_region 7 with (fail)
   exact bodyPost_ret (v := .agg #[.slice (some ⟨wr.heap.size, 0, none⟩) 1 1, .slice none 0 0]) (results_box1 Tryz.results37 _ _ w.heap.size _ [.slice (some ⟨wr.heap.size, 0, none⟩) 1 1, .slice none 0 0] _ rfl (by simpa using (HY.out.set 0 (.slice (some ⟨wr.heap.size, 0, none⟩) 1 1)).set 1 (.slice none 0 0)) Tryz.underlying50 rfl (by kernel_rfl)) rfl
    ⟨some ⟨wr.heap.size, 0, none⟩, 1, rfl, by
     rw [HL.out]
     refine (HSL.out.keep ?_ (by simp)).mono (fun i hi hl => ⟨Nat.le_of_lt hi.1, hl⟩)
     exact fun i hi _ => (heap_set _ _ 1 _ (by have := hi.1; omega)).trans (heap_set _ _ 0 _ (by have := hi.1; omega)), (HB1.out.setCell (p := ⟨w.heap.size, 0, none⟩) (Nat.le_refl _) _).setCell (p := ⟨w.heap.size, 1, none⟩) (Nat.le_refl _) _⟩
end Go.Proofs.YtakaielemicpkaaGreatDoor
