/- The generator of books. No condition.
The reference's comparisons answer true where the data are the same. No condition but sizes.
ref28.SameBook answers true where the books are the same. No condition but sizes.
The calls of the laws about generated books, each by itself; what such books are. No condition but sizes.
book.checkVersions: no error for a section of the generator. No condition but that.
The pages of a book, version by version: what each page is but for its label. No program is in sight.
Every word of a version stands on one line of the pages of this version. No program is in sight.
book.Check: no error for a book of the generator. No condition but that.
A book of the generator has no error; small books have few pages. No program is in sight but for its name.
law28.spoilt hands back some small book. No condition but sizes. -/
import Derived.Test.YtakaielemicpkaaGreatDoorBZd10
namespace Go.Proofs.YtakaielemicpkaaGreatDoor
open Go.RowKit
def versG (i k : Nat) : List Int := (10 - (i : Int)) :: (List.range k).map (fun j : Nat => 30 + 7 * (i : Int) - 3 * (j : Int))
theorem versG_succ (i k : Nat) : versG i k ++ [30 + 7 * (i : Int) - 3 * (k : Int)] = versG i (k + 1) := by
 unfold versG
 rw [List.range_succ, List.map_append]; rfl
theorem versG_len (i k : Nat) : (versG i k).length = k + 1 := by unfold versG; simp
def GSect (f i : Nat) (s : SectP) : Prop :=
 (∃ d : Nat, d ≤ 1 ∧ s.entry = 2 * (i : Int) + d) ∧ s.frozen = decide (i < f) ∧ ∃ j, j ≤ 2 ∧ (s.frozen = false → j = 0) ∧ s.vers = versG i j ∧ s.texts.length = j + 1 ∧ ∀ t ∈ s.texts, GText t.a t.b
structure GBk (m h : Int) (l : List SectP) : Prop where
 m1 : 500 ≤ m
 m2 : m ≤ 1080
 h1 : 4 ≤ h
 h2 : h ≤ 8
 n : l.length ≤ 4
 s : ∃ f, ∀ i (hi : i < l.length), GSect f i l[i]
structure OB (w : World) (m h : Int) (f k : Nat) (v : Value) (l : List SectP) (W : World) : Prop where
 r : ABox W w.heap.size 27 [.int .i64 0, .int .i64 0, .slice none 0 0]
 b : ABox W (w.heap.size + 1) 27 [.int .i64 m, .int .i64 h, v]
 o : OwnP W w.heap.size 45 v l (fun i => w.heap.size + 1 < i)
 n : l.length = k
 g : ∀ i (hi : i < l.length), GSect f i l[i]
 bl : Below w.heap.size w W
structure IB (B X : Nat) (wr : World) (e : Int) (fr : Bool) (vv vt : Value) (vs : List Int) (ts : List TextP) (W : World) : Prop where
 s : ABox W X 45 [.int .i64 e, .bool fr, vv, vt]
 sx : B ≤ X
 v : Own W B 3 vv vs
 vx : vv.ownBlock ≠ some X
 t : OwnP W B 50 vt ts (fun b => B ≤ b ∧ b ≠ X ∧ some b ≠ vv.ownBlock)
 g : ∀ t ∈ ts, GText t.a t.b
 bl : Below B wr W
section
variable {w W W' wr : World} {m h : Int} {f k : Nat} {v : Value} {l : List SectP}
theorem OB.to (H : OB w m h f k v l W) (hb : Below W.heap.size W W') : OB w m h f k v l W' := ⟨H.r.to hb, H.b.to hb, H.o.below hb, H.n, H.g, H.bl.trans (hb.mono H.bl.size)⟩
theorem OB.lt (H : OB w m h f k v l W) : w.heap.size + 1 < W.heap.size := by have := H.b.lt; omega
variable {B X : Nat} {e : Int} {fr : Bool} {vv vt : Value} {vs : List Int} {ts : List TextP}
theorem IB.to (H : IB B X wr e fr vv vt vs ts W) (hB : B ≤ W.heap.size) (hb : Below W.heap.size W W') : IB B X wr e fr vv vt vs ts W' := ⟨H.s.to hb, H.sx, H.v.below hb, H.vx, H.t.below hb, H.g, H.bl.trans (hb.mono hB)⟩
end
theorem IB.secV {B X : Nat} {wr W W1 W' : World} {e : Int} {fr : Bool} {vv vt : Value} {vs : List Int} {ts : List TextP} (H : IB B X wr e fr vv vt vs ts W) (h1 : Below W.heap.size W W1) (hg : W1.grownBy W' vv.ownBlock) : ABox W' X 45 [.int .i64 e, .bool fr, vv, vt] :=
 (hg.block X (by have := h1.size; have := H.s.lt; omega) (fun e => H.vx e.symm)).trans (H.s.to h1)
theorem IB.secT {B X : Nat} {wr W W1 W' : World} {e : Int} {fr : Bool} {vv vt : Value} {vs : List Int} {ts : List TextP} (H : IB B X wr e fr vv vt vs ts W) (h1 : Below W.heap.size W W1) (hg : W1.grownBy W' vt.ownBlock) : ABox W' X 45 [.int .i64 e, .bool fr, vv, vt] :=
 (hg.block X (by have := h1.size; have := H.s.lt; omega) (fun e => (H.t.at_ X e.symm).2.1 rfl)).trans (H.s.to h1)
theorem IB.pushV {B X : Nat} {wr W W1 W' : World} {e : Int} {fr : Bool} {vv vt v' : Value} {vs vs' : List Int} {ts : List TextP} {g : Nat} (H : IB B X wr e fr vv vt vs ts W) (hB : B ≤ W.heap.size) (h1 : Below W.heap.size W W1)
  (hown : Own W' B 3 v' vs') (hg : W1.grownBy W' vv.ownBlock) (hat : vv.ownBlock = some g ∨ g = W1.heap.size) (hv : v'.ownBlock = some g) :
  IB B X wr e fr v' vt vs' ts (W'.setCell ⟨X, 2, none⟩ v') := by
 have hX := H.s.lt
 have hz := h1.size
 have hgx : g ≠ X := fun he => by
  rcases hat with h | h
  ·exact H.vx (he ▸ h)
  ·omega
 have hs : ABox W' X 45 [.int .i64 e, .bool fr, vv, vt] := (hg.block X (by have := h1.size; omega) (fun e => H.vx e.symm)).trans (H.s.to h1)
 refine ⟨?_, H.sx, ?_, by rw [hv]; intro e; injection e with e; exact hgx e, ?_, H.g, ?_⟩
 ·have := hs.set 2 v'
  simpa using this
 ·refine hown.at_blocks fun b _ hb => heap_set _ _ _ _ (fun e => ?_)
  rw [hv] at hb; injection hb with hb; omega
 ·refine OwnP.set ?_ _ _ _ (fun i hi => hi.2.1)
  refine (((H.t.below h1).mono (Q := fun b => (B ≤ b ∧ b ≠ X ∧ some b ≠ vv.ownBlock) ∧ some b ≠ some g) (fun i hi hl => ⟨hi, fun e => ?_⟩)).grown hg (fun i hi => hi.1.2.2)).mono (fun i hi _ => ⟨hi.1.1, hi.1.2.1, by rw [hv]; exact hi.2⟩)
  injection e with e
  rcases hat with h | h
  ·exact hi.2.2 (by rw [h, e])
  ·omega
 ·exact ((H.bl.trans (h1.mono hB)).grown hg (by omega) (fun k hk => (H.v.lt k hk).1)).setCell (p := ⟨X, 2, none⟩) H.sx _
theorem IB.pushT {B X : Nat} {wr W W1 W' : World} {e : Int} {fr : Bool} {vv vt v' : Value} {vs : List Int} {ts ts' : List TextP} {g : Nat} (H : IB B X wr e fr vv vt vs ts W) (hB : B ≤ W.heap.size) (h1 : Below W.heap.size W W1)
  (hown : Own W' B 50 v' (ts'.map (Av.mk : TextP → Av TextP (fun b => B ≤ b ∧ b ≠ X ∧ some b ≠ vv.ownBlock)))) (hg : W1.grownBy W' vt.ownBlock) (hat : vt.ownBlock = some g ∨ g = W1.heap.size) (hv : v'.ownBlock = some g) (hgt : ∀ t ∈ ts', GText t.a t.b) :
  IB B X wr e fr vv v' vs ts' (W'.setCell ⟨X, 3, none⟩ v') := by
 have hX := H.s.lt
 have hz := h1.size
 have htx : vt.ownBlock ≠ some X := fun he => (H.t.at_ X he).2.1 rfl
 have hgx : g ≠ X := fun he => by
  rcases hat with h | h
  ·exact htx (he ▸ h)
  ·omega
 have hgv : some g ≠ vv.ownBlock := fun he => by
  rcases hat with h | h
  ·exact (H.t.at_ g h).2.2 he
  ·have := (H.v.lt g he.symm).2; omega
 have hs : ABox W' X 45 [.int .i64 e, .bool fr, vv, vt] := (hg.block X (by have := h1.size; omega) (fun e => htx e.symm)).trans (H.s.to h1)
 refine ⟨?_, H.sx, ?_, H.vx, ?_, hgt, ?_⟩
 ·have := hs.set 3 v'
  simpa using this
 ·refine ((H.v.below h1).at_blocks (w' := W') fun b hb hv' => hg.block b hb (fun e => ?_)).at_blocks fun b _ hb => heap_set _ _ _ _ (fun e => H.vx (by rw [hb, e]))
  exact (H.t.at_ b e.symm).2.2 hv'.symm
 ·refine OwnP.set (P := fun b => B ≤ b ∧ b ≠ X ∧ some b ≠ vv.ownBlock) ?_ _ _ _ (fun i hi => hi.2.1)
  have hgB : B ≤ g := by
   rcases hat with h | h
   ·exact (H.t.lt g h).1
   ·omega
  exact OwnP.ofBd hown (fun k hk => by rw [hv] at hk; injection hk with hk; subst hk; exact ⟨hgB, hgx, hgv⟩)
 ·exact ((H.bl.trans (h1.mono hB)).grown hg (by omega) (fun k hk => (H.t.lt k hk).1)).setCell (p := ⟨X, 3, none⟩) H.sx _
theorem Own.repB {α : Type} [Rep α] [Flat α] {w : World} {base : Nat} {e : TypeId} {v : Value} {l : List α} {S : Nat → Prop} (h : Own w base e v l) (hl : l.length < 9223372036854775808) (hS : ∀ b, v.ownBlock = some b → S b) : Rep.R w S [v] l := by
 obtain ⟨A, c, rfl, hs⟩ := h.slB
 exact ⟨A, c, rfl, hs.mono fun i hi _ => hS i hi, hl⟩
theorem IB.rep {B X Y : Nat} {wr W W2 : World} {e : Int} {fr : Bool} {v vv vt : Value} {vs : List Int} {ts : List TextP} (H : IB B X wr e fr vv vt vs ts W) (hI : I64 e) (h2 : Below W.heap.size W W2) (hY : Y < B) (hv : ∀ g, v.ownBlock = some g → g < B) (hvs : vs.length ≤ 10) (hts : ts.length ≤ 10) :
  Rep.R W2 (fun b => some b ≠ v.ownBlock ∧ Y < b) [.int .i64 e, .bool fr, vv, vt] (⟨e, fr, vs, ts⟩ : SectP) := by
 refine ⟨vv, vt, rfl, hI, (H.v.below h2).repB (by omega) (fun b hb => ?_), (H.t.below h2).rep (by omega) (fun b hb _ => ?_)⟩
 ·have := (H.v.lt b hb).1
  exact ⟨fun e => by have := hv b e.symm; omega, by omega⟩
 ·have := hb.1
  exact ⟨fun e => by have := hv b e.symm; omega, by omega⟩
theorem OB.book {w W W1 W' : World} {m h : Int} {f k : Nat} {v : Value} {l : List SectP} (H : OB w m h f k v l W) (h1 : Below W.heap.size W W1) (hg : W1.grownBy W' v.ownBlock) : ABox W' (w.heap.size + 1) 27 [.int .i64 m, .int .i64 h, v] :=
 (hg.block _ (by have := h1.size; have := H.b.lt; omega) (fun e => by have := H.o.at_ _ e.symm; omega)).trans (H.b.to h1)
theorem OB.push {w W W1 W' : World} {m h : Int} {f k g : Nat} {v v' : Value} {l : List SectP} {s : SectP} (H : OB w m h f k v l W) (h1 : Below W.heap.size W W1) (hs : GSect f k s)
  (hown : Own W' w.heap.size 45 v' ((l ++ [s]).map (Av.mk : SectP → Av SectP (fun i => w.heap.size + 1 < i)))) (hg : W1.grownBy W' v.ownBlock) (hat : v.ownBlock = some g ∨ g = W1.heap.size) (hv : v'.ownBlock = some g) :
  OB w m h f (k + 1) v' (l ++ [s]) (W'.setCell ⟨w.heap.size + 1, 2, none⟩ v') := by
 have hz := h1.size
 have hlt := H.lt
 have hgB : w.heap.size + 1 < g := by
  rcases hat with e | e
  ·exact H.o.at_ g e
  ·omega
 refine ⟨?_, ?_, ?_, by rw [List.length_append, H.n]; rfl, fun i hi => ?_, ?_⟩
 ·refine ABox.other ?_ (by omega) _ _
  exact (hg.block _ (by have := H.r.lt; omega) (fun e => by have := H.o.at_ _ e.symm; omega)).trans (H.r.to h1)
 ·have := (H.book h1 hg).set 2 v'
  simpa using this
 ·exact (OwnP.ofBd hown (fun k hk => by rw [hv] at hk; injection hk with hk; subst hk; exact hgB)).set _ _ _ (fun i hi e => by omega)
 ·by_cases hi2 : i < l.length
  ·rw [List.getElem_append_left hi2]; exact H.g i hi2
  ·obtain rfl : i = l.length := by rw [List.length_append, List.length_singleton] at hi; omega
   have e : (l ++ [s])[l.length] = s := by simp
   rw [e, H.n]; exact hs
 ·exact ((H.bl.trans (h1.mono H.bl.size)).grown hg (by have := H.bl.size; omega) (fun k hk => by have := H.o.at_ k hk; omega)).setCell (p := ⟨w.heap.size + 1, 2, none⟩) (by show w.heap.size ≤ w.heap.size + 1; omega) _
theorem text_lit {w : World} {B : Nat} {P : Nat → Prop} {va vb : Value} {t : TextP} (hB : B ≤ w.heap.size) (h : Rep.R w P [va, vb] t) (hP : P w.heap.size) :
  OwnP (w.alloc (.cells #[va, vb] 50)) B 50 (.slice (some ⟨w.heap.size, 0, none⟩) 1 1) [t] (fun b => P b ∧ b ≤ w.heap.size) := by
 refine ⟨?_, fun g hg => by cases hg; exact ⟨hP, Nat.le_refl _⟩⟩
 refine Own.lit (α := Av TextP (fun b => P b ∧ b ≤ w.heap.size)) w B _ #[va, vb] [⟨t⟩] hB (by simp [maxLen]) rfl (Rep.one h) (fun i hi => ?_)
 obtain rfl : i = 0 := by simpa using hi
 show Rep.R _ _ [va, vb] t
 exact Rep.mono (Rep.keep (Rep.mono (S' := fun b => P b ∧ b < w.heap.size) h (fun b h1 h2 => ⟨h1, h2⟩)) (Kept.all ((Below.refl _ _).alloc (Nat.le_refl _) _))) (fun b hb _ => ⟨by omega, hb.1, by omega⟩)
theorem IB.start {wr w2 w3 : World} {B : Nat} {e ver : Int} {fr : Bool} {va vb : Value} {t : TextP} (hB : B = wr.heap.size) (h2 : Below B wr w2) (hz : w2.heap.size = B + 2) (hr : IRow w2 B 3 [ver]) (hv : I64 ver)
  (hs : ABox w2 (B + 1) 45 [.int .i64 e, .bool fr, .slice (some ⟨B, 0, none⟩) 1 1, .slice none 0 0]) (h3 : Below w2.heap.size w2 w3) (ht : Rep.R w3 (fun b => w2.heap.size ≤ b) [va, vb] t) (hg : GText t.a t.b) :
  IB B (B + 1) wr e fr (.slice (some ⟨B, 0, none⟩) 1 1) (.slice (some ⟨w3.heap.size, 0, none⟩) 1 1) [ver] [t] ((w3.alloc (.cells #[va, vb] 50)).setCell ⟨B + 1, 3, none⟩ (.slice (some ⟨w3.heap.size, 0, none⟩) 1 1)) := by
 have hz3 := h3.size
 have hb4 : Below w3.heap.size w3 (w3.alloc (.cells #[va, vb] 50)) := (Below.refl _ _).alloc (Nat.le_refl _) _
 have hb24 : Below w2.heap.size w2 (w3.alloc (.cells #[va, vb] 50)) := h3.trans (hb4.mono hz3)
 refine ⟨?_, by omega, ?_, ?_, ?_, ?_, ?_⟩
 ·have := (hs.to hb24).set 3 (.slice (some ⟨w3.heap.size, 0, none⟩) 1 1)
  simpa using this
 ·exact (((hr.to hb24).other (by omega) _ _).own (Nat.le_refl _) (fun x hx => by rw [List.mem_singleton] at hx; subst hx; exact hv) (by simp [maxLen]))
 ·show some B ≠ some (B + 1)
  simp
 ·have h5 := text_lit (B := B) (P := fun b => w2.heap.size ≤ b) (by omega) ht hz3
  refine (h5.mono (Q := fun b => B ≤ b ∧ b ≠ B + 1 ∧ some b ≠ (Value.slice (some ⟨B, 0, none⟩) 1 1).ownBlock) (fun i hi _ => ?_)).set _ _ _ (fun i hi => hi.2.1)
  have h6 : w2.heap.size ≤ i := hi.1
  refine ⟨by omega, by omega, ?_⟩
  show some i ≠ some B
  intro e; injection e with e; omega
 ·intro x hx
  rw [List.mem_singleton] at hx
  subst hx; exact hg
 ·exact (h2.trans (hb24.mono (by omega))).setCell (p := ⟨B + 1, 3, none⟩) (by show B ≤ B + 1; omega) _
set_option maxRecDepth 100000 in
set_option maxHeartbeats 4000000 in
theorem gbook_any (A : Option Addr) (c : Nat) (l : List Int) (w : World) (hl : Sl w (fun b => b < w.heap.size) A c l) :
  Calls Tryz.prog 9 #[.slice A l.length c] w fun e w' => ∃ m h A' c' ss, e = .returned (.agg #[.int .i64 m, .int .i64 h, .slice A' ss.length c']) ∧ GBk m h ss ∧ Sl w' (fun b => w.heap.size ≤ b ∧ b < w'.heap.size) A' c' ss ∧ Below w.heap.size w w' := by
 have hb0 := (Below.refl w.heap.size w).alloc (Nat.le_refl _) (.cells #[.int .i64 0, .int .i64 0, .slice none 0 0] 27)
 have hx0 : ABox (w.alloc (.cells #[.int .i64 0, .int .i64 0, .slice none 0 0] 27)) w.heap.size 27 [.int .i64 0, .int .i64 0, .slice none 0 0] := heap_alloc_new w _
 have hz : (w.alloc (.cells #[.int .i64 0, .int .i64 0, .slice none 0 0] 27)).heap.size = w.heap.size + 1 := by simp
 have hl0 := hl.to hb0
 have HL := Lh hl
 go_enter Tryz.func9, Tryz.ntmps9
 go_upto_region 1 with (fail)
 generalize w.alloc (.cells #[.int .i64 0, .int .i64 0, .slice none 0 0] 27) = w0 at *
 have HB0 := Lh hb0
 have HX0 := Lh hx0
 have HZ := Lh hz
 have HL0 := Lh hl0
 clear hb0 hx0 hz hl0 hl
 go_wp2_with fail
 refine (pick_any A c l 0 30 w0 HL0.out (by decide) (by decide) (by decide)).mono ?_
 rintro e _ ⟨pm, rfl, hpm, rfl⟩
 have hpm2 : (pm : Int) ≤ 29 := by omega
 have hpm0 : (0 : Int) ≤ pm := by omega
 clear hpm
 go_wp2_with fail
 refine (pick_any A c l 1 5 w0 HL0.out (by decide) (by decide) (by decide)).mono ?_
 rintro e _ ⟨ph, rfl, hph, rfl⟩
 have hph2 : (ph : Int) ≤ 4 := by omega
 have hph0 : (0 : Int) ≤ ph := by omega
 clear hph
 go_upto_region 2 with (fail)
 obtain ⟨m, hm⟩ : ∃ m : Int, 500 + 20 * (pm : Int) = m := ⟨_, rfl⟩
 obtain ⟨h, hh⟩ : ∃ h : Int, 4 + (ph : Int) = h := ⟨_, rfl⟩
 rw [hm, hh]
 have HM : Hid ((500 ≤ m ∧ m ≤ 1080) ∧ 4 ≤ h ∧ h ≤ 8) := Lh (by omega)
 clear hm hh hpm2 hpm0 hph2 hph0
 obtain ⟨w1, hw1⟩ : ∃ w1, w0.alloc (.cells #[.int .i64 m, .int .i64 h, .slice none 0 0] 27) = w1 := ⟨_, rfl⟩
 have hb1 : Below w0.heap.size w0 w1 := by rw [← hw1]; exact (Below.refl _ _).alloc (Nat.le_refl _) _
 have hx1 : ABox w1 (w.heap.size + 1) 27 [.int .i64 m, .int .i64 h, .slice none 0 0] := by rw [← hw1, ← HZ.out]; exact heap_alloc_new w0 _
 have HOB0 : Hid (∀ f, OB w m h f 0 (.slice none 0 0) [] w1) := Lh (fun f => ⟨HX0.out.to hb1, hx1, OwnP.nil _ _ _ _, rfl, fun i hi => absurd hi (Nat.not_lt_zero _), HB0.out.trans (hb1.mono HB0.out.size)⟩)
 have HL1 := Lh (HL0.out.to hb1)
 have HE : Hid (w0.heap.size = w.heap.size + 1) := HZ
 rw [hw1, HZ.out]
 clear hw1 hb1 hx1
 go_wp2_with fail
 refine (pick_any A c l 2 5 w1 HL1.out (by decide) (by decide) (by decide)).mono ?_
 rintro e _ ⟨n, rfl, hn, rfl⟩
 have hn2 : (n : Int) ≤ 4 := by omega
 have hn0 : (0 : Int) ≤ n := by omega
 clear hn
 go_wp2_with fail
 refine (pick_any A c l 3 ((n : Int) + 1) w1 HL1.out (by omega) (by omega) (by decide)).mono ?_
 rintro e _ ⟨f, rfl, hf, rfl⟩
 have hf2 : (f : Int) ≤ 4 := by omega
 have hf0 : (0 : Int) ≤ f := by omega
 clear hf
 go_wp2_with fail
 go_loopw [6] (fun i wr => ∃ k : Nat, k ≤ n ∧ i = .int .i64 k ∧ ∃ v ss, OB w m h f k v ss wr) (fun i _ => n - (intOf i).toNat)
 case atStart => exact ⟨0, by omega, rfl, _, _, HOB0.out f⟩
 case round =>
  obtain ⟨k, hk, rfl, v, ss, hob⟩ := hrel
  have HOB := Lh hob
  clear hob
  have hk2 : (k : Int) ≤ 4 := by omega
  have hk0 : (0 : Int) ≤ k := by omega
  by_cases hlt : k < n
  ·have hkl : (k : Int) < n := by omega
   have HLr := Lh (HL.out.to HOB.out.bl)
   go_wp2_with fail
   refine (pick_any A c l (4 + (k : Int)) 2 wr HLr.out (by decide) (by decide) (by omega)).mono ?_
   rintro e _ ⟨d, rfl, hd, rfl⟩
   have hd2 : (d : Int) ≤ 1 := by omega
   have hd0 : (0 : Int) ≤ d := by omega
   clear hd
   go_upto_region 8 with (fail)
   obtain ⟨en, hen⟩ : ∃ en : Int, 2 * (k : Int) + (d : Int) = en := ⟨_, rfl⟩
   have HEN : Hid (∃ d : Nat, d ≤ 1 ∧ en = 2 * (k : Int) + d) := Lh ⟨d, by omega, hen.symm⟩
   obtain ⟨ve, hve⟩ : ∃ ve : Int, 10 - (k : Int) = ve := ⟨_, rfl⟩
   have HI : Hid (I64 en ∧ I64 ve) := Lh ⟨⟨by omega, by omega⟩, ⟨by omega, by omega⟩⟩
   obtain ⟨fr, hfr⟩ : ∃ fr, decide (k < f) = fr := ⟨_, rfl⟩
   have HVE := Lh hve
   have HFR := Lh hfr
   rw [hen, hve, hfr]
   clear hen hve hd2 hd0 hfr
   obtain ⟨B, hB⟩ : ∃ B, wr.heap.size = B := ⟨_, rfl⟩
   obtain ⟨w2, hw2⟩ : ∃ w2, (wr.alloc (.cells #[.int .i64 ve] 3)).alloc (.cells #[.int .i64 en, .bool fr, .slice (some ⟨B, 0, none⟩) 1 1, .slice none 0 0] 45) = w2 := ⟨_, rfl⟩
   have hb2 : Below B wr w2 := by rw [← hw2]; exact ((Below.refl _ _).alloc (by omega) _).alloc (by simp; omega) _
   have hr2 : IRow w2 B 3 [ve] := by rw [← hw2]; exact (Below.heap_alloc _ _ _ (by simp; omega)).trans (by rw [← hB]; exact heap_alloc_new wr _)
   have hs2 : ABox w2 (B + 1) 45 [.int .i64 en, .bool fr, .slice (some ⟨B, 0, none⟩) 1 1, .slice none 0 0] := by rw [← hw2]; exact heap_at (by simp; omega)
   have hz2 : w2.heap.size = B + 2 := by rw [← hw2]; simp; omega
   rw [hB, hw2]
   have HBw := Lh hB
   have HB2 := Lh hb2
   have HR2 := Lh hr2
   have HS2 := Lh hs2
   have HZ2 := Lh hz2
   have HOB2 := Lh (HOB.out.to (hB ▸ hb2))
   have hT := rtext_any A c l (12 + 6 * k) (by omega) w2 (HL.out.to HOB2.out.bl)
   rw [show ((12 + 6 * k : Nat) : Int) = 12 + 6 * (k : Int) by omega] at hT
   have HT := Lh hT
   clear hT hw2 hb2 hr2 hs2 hz2 hB
   go_upto_region 9 with (first
    |(go_at_call 31; refine HT.out.mono ?_; rintro e w3 ⟨A5, c5, B5, d5, ls, ns, rfl, hg, hN, hb⟩; have HIB := Lh (IB.start HBw.out.symm HB2.out HZ2.out HR2.out HI.out.2 HS2.out hb hN hg); have HB3 := Lh hb; have hx := ((HS2.out.to hb).to ((Below.refl _ w3).alloc (Nat.le_refl _) (.cells #[.slice A5 ls.length c5, .slice B5 ns.length d5] 50))); have x3 := hx.cell 3 rfl; have f3 := hx.fz 3; clear hg hN hb hx)
    | fail)
   have HIB0 : Hid (∃ vv vt ts, IB B (B + 1) wr en fr vv vt (versG k 0) ts ((w3.alloc (.cells #[.slice A5 ls.length c5, .slice B5 ns.length d5] 50)).setCell ⟨B + 1, 3, none⟩ (.slice (some ⟨w3.heap.size, 0, none⟩) 1 1)) ∧ ts.length = 0 + 1) := Lh ⟨_, _, _, by
    have h := HIB.out
    rw [show [ve] = versG k 0 by rw [← HVE.out]; rfl] at h
    exact h, rfl⟩
   clear HIB x3 f3 HR2 HS2 HB2 HZ2 HT HB3
   generalize (w3.alloc (.cells #[.slice A5 ls.length c5, .slice B5 ns.length d5] 50)).setCell ⟨B + 1, 3, none⟩ (.slice (some ⟨w3.heap.size, 0, none⟩) 1 1) = w4 at *
   go_wp2_with fail
   obtain ⟨wo, rfl⟩ : ∃ wo : World, wo = wr := ⟨_, rfl⟩
   go_loopw [8] (fun j wx => ∃ q : Nat, q ≤ 2 ∧ j = .int .i64 q ∧ (fr = false → q = 0) ∧ ∃ vv vt ts, IB B (B + 1) wo en fr vv vt (versG k q) ts wx ∧ ts.length = q + 1) (fun j _ => 3 - (intOf j).toNat)
   case atStart => exact ⟨0, by omega, rfl, fun _ => rfl, HIB0.out⟩
   case round =>
    obtain ⟨q, hq, rfl, hfq, vv, vt, ts, hib, htn⟩ := hrel
    have HIB := Lh hib
    have HFQ := Lh hfq
    have HTN := Lh htn
    have hq2 : (q : Int) ≤ 2 := by omega
    have hq0 : (0 : Int) ≤ q := by omega
    have i1 := hib.s.cell 1 rfl
    have hBB : B ≤ wr.heap.size := by have := hib.s.lt; omega
    have HOBx : Hid (OB w m h f k v ss wr) := Lh (HOB.out.to (HBw.out ▸ hib.bl))
    clear hib hfq htn
    go_wp2_with fail
    refine (pick_any A c l (8 + (k : Int)) 3 wr (HL.out.to HOBx.out.bl) (by decide) (by decide) (by omega)).mono ?_
    rintro e _ ⟨r, rfl, hr, rfl⟩
    by_cases hqr : q < r ∧ fr = true
    ·obtain ⟨hqr, hft⟩ := hqr
     have hqr2 : (q : Int) < r := by omega
     have HFT := Lh hft
     subst hft
     have hq1 : (q : Int) ≤ 1 := by omega
     have hq1n : q ≤ 1 := by omega
     clear hr
     go_upto_region 12 with (fail)
     obtain ⟨A6, c6, hv6, -, -⟩ := HIB.out.v.form
     obtain ⟨A7, c7, hv7, -, -⟩ := HIB.out.t.len
     subst hv6 hv7
     rw [versG_len, HTN.out] at HIB
     have i2 := HIB.out.s.cell 2 rfl
     obtain ⟨vn, hvn⟩ : ∃ vn : Int, 30 + 7 * (k : Int) - 3 * (q : Int) = vn := ⟨_, rfl⟩
     have HVN := Lh hvn
     have HIN : Hid (I64 vn) := Lh ⟨by omega, by omega⟩
     have hln : (versG k q).length = q + 1 := versG_len k q
     obtain ⟨vs, hvs⟩ : ∃ vs, versG k q = vs := ⟨_, rfl⟩
     have HVS := Lh hvs
     rw [hvs] at HIB hln
     have hba : Below wr.heap.size wr (wr.alloc (.cells #[.int .i64 vn] 3)) := (Below.refl _ _).alloc (Nat.le_refl _) _
     have HBA := Lh hba
     have hown6 : Own wr B 3 (.slice A6 vs.length c6) vs := by rw [hln]; exact HIB.out.v
     rw [← hln] at i2
     have HIB6 : Hid ((Value.slice A6 vs.length c6).ownBlock = (Value.slice A6 (q + 1) c6).ownBlock) := Lh (by rw [hln])
     have HLN := Lh hln
     have hvl : vs.length ≤ 10 := by omega
     clear hvs hba hln i1
     go_upto_region 13 with (first
      |(at_builtin; refine wpList_push (α := Int) _ rfl (.tmp 62) (.tmp 69) 22 rfl B 3 (.int .i64 0) 8 Tryz.underlying22 int_info rfl (by decide) _ vs rfl (hown6.alloc _) wr.heap.size _ vn (0, 0) 3 rfl (heap_alloc_new wr _) ⟨rfl, HIN.out⟩ (by omega) (by omega) (by first | omega | (simp; done) | (simp; omega)) _ rfl ?_; intro g cap w5 hown5 hg5 hat5 hlt5; have hs5 := HIB.out.secV HBA.out (HIB6.out ▸ hg5); have x2 := hs5.cell 2 rfl; have f2 := hs5.fz 2; have HIB5 := Lh (HIB.out.pushV (v' := .slice (some ⟨g, 0, none⟩) (vs.length + 1) cap) hBB HBA.out hown5 (HIB6.out ▸ hg5) (HIB6.out ▸ hat5) rfl); clear hs5 hown5 hg5 hat5 hlt5)
      | fail)
     obtain ⟨W8, hW8⟩ : ∃ W8, (w5.setCell ⟨B + 1, 2, none⟩ (.slice (some ⟨g, 0, none⟩) (vs.length + 1) cap)).drew = W8 := ⟨_, rfl⟩
     have HIB8 : Hid (IB B (B + 1) wo en true (.slice (some ⟨g, 0, none⟩) (vs.length + 1) cap) (.slice A7 (q + 1) c7) (vs ++ [vn]) ts W8) := Lh (by
      rw [← hW8]
      exact HIB5.out.to (by have := HIB5.out.s.lt; omega) (Below.refl _ _).drew)
     clear HIB5 x2 f2
     refine wp_region_D (fun w' => w'.cell? ⟨B + 1, 3, none⟩ = some (.slice A7 (q + 1) c7)) (fun i => decide (i < 13)) (by kernel_rfl) ?_
     rw [hW8]
     clear hW8
     have hS0 : W8.cell? ⟨B + 1, 3, none⟩ = some (.slice A7 (q + 1) c7) := HIB8.out.s.cell 3 rfl
     have HB8 : Hid (B + 1 < W8.heap.size) := Lh HIB8.out.s.lt
     have hT2 := rtext_any A c l (15 + 6 * k + 7 * q) (by omega) W8 (HL.out.to ((HOB.out.to (HBw.out ▸ HIB8.out.bl)).bl))
     rw [show ((15 + 6 * k + 7 * q : Nat) : Int) = 15 + 6 * (k : Int) + 7 * (q : Int) by omega] at hT2
     have HT2 := Lh hT2
     have hwa : IntKind.i64.wrap (6 * (k : Int)) = 6 * (k : Int) := by rw [IntWalk.i64_in _ (by omega)]
     have hwb : IntKind.i64.wrap (15 + 6 * (k : Int)) = 15 + 6 * (k : Int) := by rw [IntWalk.i64_in _ (by omega)]
     have hwc : IntKind.i64.wrap (7 * (q : Int)) = 7 * (q : Int) := by rw [IntWalk.i64_in _ (by omega)]
     have hwd : IntKind.i64.wrap (15 + 6 * (k : Int) + 7 * (q : Int)) = 15 + 6 * (k : Int) + 7 * (q : Int) := by rw [IntWalk.i64_in _ (by omega)]
     clear hT2
     refine wpAnyE_take (i := 0) (oi := ⟨some 72, Op.fieldAddr 45 (Operand.tmp 7) 3, 0, _, _, _⟩) (v := ?_) rfl (by kernel_rfl) (by kernel_rfl) (by kernel_rfl) (by kernel_rfl) (by kernel_rfl) (fun _ _ _ h => h) (by rfl) ?hykr13_1 (hS0) ?hrkr13_1
     case hykr13_1 => (intro wS hSw; clear hSw; go_simp; (try with_reducible rfl))
     all_goals try simp only [Act.put, sA0, sZ0, sS0]
     refine wpAnyE_take (i := 1) (oi := ⟨some 73, Op.load 43 (Operand.tmp 72), 43, _, _, _⟩) (v := ?_) rfl (by kernel_rfl) (by kernel_rfl) (by kernel_rfl) (by kernel_rfl) (by kernel_rfl) (fun _ _ _ h => h) (by rfl) ?hykr13_2 (hS0) ?hrkr13_2
     case hykr13_2 => (intro wS hSw; (have hq9 := hSw); clear hSw; go_simp; (try with_reducible rfl))
     all_goals try simp only [Act.put, sA0, sZ0, sS0]
     refine wpAnyE_take (i := 2) (oi := ⟨some 74, Op.move (Operand.tmp 0), 22, _, _, _⟩) (v := ?_) rfl (by kernel_rfl) (by kernel_rfl) (by kernel_rfl) (by kernel_rfl) (by kernel_rfl) (fun _ _ _ h => h) (by rfl) ?hykr13_3 (hS0) ?hrkr13_3
     case hykr13_3 => (intro wS hSw; clear hSw; go_simp; (try with_reducible rfl))
     all_goals try simp only [Act.put, sA0, sZ0, sS0]
     refine wpAnyE_take (i := 3) (oi := ⟨some 75, Op.move (Operand.tmp 6), 3, _, _, _⟩) (v := ?_) rfl (by kernel_rfl) (by kernel_rfl) (by kernel_rfl) (by kernel_rfl) (by kernel_rfl) (fun _ _ _ h => h) (by rfl) ?hykr13_4 (hS0) ?hrkr13_4
     case hykr13_4 => (intro wS hSw; clear hSw; go_simp; (try with_reducible rfl))
     all_goals try simp only [Act.put, sA0, sZ0, sS0]
     refine wpAnyE_take (i := 4) (oi := ⟨some 76, Op.binOp BinOp.mul 3 (Operand.const (Value.int IntKind.i64 6)) (Operand.tmp 75) 3, 3, _, _, _⟩) (v := ?_) rfl (by kernel_rfl) (by kernel_rfl) (by kernel_rfl) (by kernel_rfl) (by kernel_rfl) (fun _ _ _ h => h) (by rfl) ?hykr13_5 (hS0) ?hrkr13_5
     case hykr13_5 => (intro wS hSw; clear hSw; go_simp; (try with_reducible rfl))
     all_goals try simp only [Act.put, sA0, sZ0, sS0]
     refine wpAnyE_take (i := 5) (oi := ⟨some 77, Op.binOp BinOp.add 3 (Operand.const (Value.int IntKind.i64 15)) (Operand.tmp 76) 3, 3, _, _, _⟩) (v := ?_) rfl (by kernel_rfl) (by kernel_rfl) (by kernel_rfl) (by kernel_rfl) (by kernel_rfl) (fun _ _ _ h => h) (by rfl) ?hykr13_6 (hS0) ?hrkr13_6
     case hykr13_6 => (intro wS hSw; clear hSw; go_simp; (try with_reducible rfl))
     all_goals try simp only [Act.put, sA0, sZ0, sS0]
     refine wpAnyE_take (i := 6) (oi := ⟨some 78, Op.move (Operand.tmp 8), 3, _, _, _⟩) (v := ?_) rfl (by kernel_rfl) (by kernel_rfl) (by kernel_rfl) (by kernel_rfl) (by kernel_rfl) (fun _ _ _ h => h) (by rfl) ?hykr13_7 (hS0) ?hrkr13_7
     case hykr13_7 => (intro wS hSw; clear hSw; go_simp; (try with_reducible rfl))
     all_goals try simp only [Act.put, sA0, sZ0, sS0]
     refine wpAnyE_take (i := 7) (oi := ⟨some 79, Op.binOp BinOp.mul 3 (Operand.const (Value.int IntKind.i64 7)) (Operand.tmp 78) 3, 3, _, _, _⟩) (v := ?_) rfl (by kernel_rfl) (by kernel_rfl) (by kernel_rfl) (by kernel_rfl) (by kernel_rfl) (fun _ _ _ h => h) (by rfl) ?hykr13_8 (hS0) ?hrkr13_8
     case hykr13_8 => (intro wS hSw; clear hSw; go_simp; (try with_reducible rfl))
     all_goals try simp only [Act.put, sA0, sZ0, sS0]
     refine wpAnyE_take (i := 8) (oi := ⟨some 80, Op.binOp BinOp.add 3 (Operand.tmp 77) (Operand.tmp 79) 3, 3, _, _, _⟩) (v := ?_) rfl (by kernel_rfl) (by kernel_rfl) (by kernel_rfl) (by kernel_rfl) (by kernel_rfl) (fun _ _ _ h => h) (by rfl) ?hykr13_9 (hS0) ?hrkr13_9
     case hykr13_9 => (intro wS hSw; clear hSw; go_simp; (try with_reducible rfl))
     all_goals try simp only [Act.put, sA0, sZ0, sS0]
     refine wpAnyD_one (i := 9) (oi := ⟨some 81, Op.call { callee := Callee.value (Operand.func 31), args := #[Operand.tmp 74, Operand.tmp 80], argTypes := #[22, 3] }, 50, _, _, _⟩) rfl (by kernel_rfl) (by rfl) (fun K hK => ?_)
     go_simp
     go_at_call 31
     refine HT2.out.mono ?_
     rintro e w6 ⟨A8, c8, B8, d8, ls2, ns2, rfl, hg2, hN2, hb6⟩
     go_simp
     have hS6 : w6.cell? ⟨B + 1, 3, none⟩ = some (.slice A7 (q + 1) c7) := ((HIB8.out.s.to hb6).cell 3 rfl)
     have HB6 := Lh hb6
     have HG2 := Lh hg2
     have HN2 := Lh hN2
     clear hb6 hg2 hN2
     refine hK _ _ (fun _ => ?_) ?_
     ·exact hS6
     clear hK K
     try simp only [Act.put, sA0, sZ0, sS0]
     refine wpAnyD_one (i := 10) (oi := ⟨some 82, Op.buildSlice 43 1 #[(0, Operand.tmp 81)], 43, _, _, _⟩) rfl (by kernel_rfl) (by rfl) (fun K hK => ?_)
     go_simp
     have hb7 : Below w6.heap.size w6 (w6.alloc (.cells #[.slice A8 ls2.length c8, .slice B8 ns2.length d8] 50)) := (Below.refl _ _).alloc (Nat.le_refl _) _
     have HB7 := Lh (HB6.out.trans (hb7.mono HB6.out.size))
     have hl7 := heap_alloc_new w6 (.cells #[.slice A8 ls2.length c8, .slice B8 ns2.length d8] 50)
     have HN7 := Lh (Rep.keep (Rep.mono (S' := fun b => W8.heap.size ≤ b) HN2.out (fun _ h _ => h)) (Kept.all hb7))
     have hS7 : (w6.alloc (.cells #[.slice A8 ls2.length c8, .slice B8 ns2.length d8] 50)).cell? ⟨B + 1, 3, none⟩ = some (.slice A7 (q + 1) c7) := ((HIB8.out.s.to HB7.out).cell 3 rfl)
     have HL7 := Lh hl7
     obtain ⟨b7, hbe7⟩ : ∃ b7, w6.heap.size = b7 := ⟨_, rfl⟩
     rw [hbe7] at HL7 ⊢
     clear hb7 hl7 hS6 HN2 HB6 hbe7
     generalize w6.alloc (.cells #[.slice A8 ls2.length c8, .slice B8 ns2.length d8] 50) = w7 at *
     refine hK _ _ (fun _ => ?_) ?_
     ·exact hS7
     clear hK K
     try simp only [Act.put, sA0, sZ0, sS0]
     refine wpAnyD_one (i := 11) (oi := ⟨some 83, Op.call { callee := Callee.builtin Builtin.append, args := #[Operand.tmp 73, Operand.tmp 82], argTypes := #[43, 43] }, 43, _, _, _⟩) rfl (by kernel_rfl) (by rfl) (fun K hK => ?_)
     have hvt : (Value.slice A7 (q + 1) c7).ownBlock = (Value.slice A7 ts.length c7).ownBlock := by rw [HTN.out]
     have hown7 : OwnP w7 B 50 (.slice A7 ts.length c7) ts (fun b => B ≤ b ∧ b ≠ B + 1 ∧ some b ≠ (Value.slice (some ⟨g, 0, none⟩) (vs.length + 1) cap).ownBlock) := by rw [HTN.out]; exact HIB8.out.t.below HB7.out
     rw [← HTN.out]
     have htl : ts.length ≤ 10 := by rw [HTN.out]; omega
     refine wp_push w7 (α := Av TextP (fun b => B ≤ b ∧ b ≠ B + 1 ∧ some b ≠ (Value.slice (some ⟨g, 0, none⟩) (vs.length + 1) cap).ownBlock)) (.tmp 73) (.tmp 82) 43 rfl B 50 (.agg #[.slice none 0 0, .slice none 0 0]) 48 Tryz.underlying43 text_info rfl (show 0 < 2 by decide) (.slice A7 ts.length c7) (ts.map Av.mk) rfl hown7.own b7 _ ⟨⟨ls2, ns2⟩⟩ (0, 0) _ rfl HL7.out (show Rep.R w7 (fun b => some b ≠ (Value.slice A7 ts.length c7).ownBlock ∧ (B ≤ b ∧ b ≠ B + 1 ∧ some b ≠ (Value.slice (some ⟨g, 0, none⟩) (vs.length + 1) cap).ownBlock)) [.slice A8 ls2.length c8, .slice B8 ns2.length d8] (⟨ls2, ns2⟩ : TextP) from Rep.mono HN7.out (fun i (hi : W8.heap.size ≤ i) _ => ⟨fun e => by have := (HIB8.out.t.lt i (by rw [hvt]; exact e.symm)).2; omega, by have := HB8.out; omega, by have := HB8.out; omega, fun e => by have := (HIB8.out.v.lt i e.symm).2; omega⟩)) (by rw [List.length_map]; omega) (by rw [List.length_map]; omega) (by have := HB7.out.size; have := HB8.out; omega) _ rfl ?_
     rw [List.length_map]
     intro g9 cap9 w9 ho9 hg9 hat9 hlt9
     have hs9 := HIB8.out.secT HB7.out (hvt ▸ hg9)
     have x3 := hs9.cell 3 rfl
     have f3 := hs9.fz 3
     have hS9 : w9.cell? ⟨B + 1, 3, none⟩ = some (.slice A7 (q + 1) c7) := x3
     have HIB9 := Lh (HIB8.out.pushT (v' := .slice (some ⟨g9, 0, none⟩) (ts.length + 1) cap9) (ts' := ts ++ [⟨ls2, ns2⟩]) (by have := HB8.out; omega) HB7.out (by rw [List.map_append]; exact ho9) (hvt ▸ hg9) (hvt ▸ hat9) rfl (fun t ht => (List.mem_append.1 ht).elim (HIB8.out.g t) (fun h => by rw [List.mem_singleton] at h; subst h; exact HG2.out)))
     clear hs9 ho9 hg9 hat9 hlt9 hS7 hown7
     refine hK _ _ (fun _ => ?_) ?_
     ·exact hS9
     clear hK K
     try simp only [Act.put, sA0, sZ0, sS0]
     refine wpAnyE_take (i := 12) (oi := ⟨some 84, Op.fieldAddr 45 (Operand.tmp 7) 3, 0, _, _, _⟩) (v := ?_) rfl (by kernel_rfl) (by kernel_rfl) (by kernel_rfl) (by kernel_rfl) (by kernel_rfl) (fun _ _ _ h => h) (by rfl) ?hykr13_10 (hS9) ?hrkr13_10
     case hykr13_10 => (intro wS hSw; clear hSw; go_simp; (try with_reducible rfl))
     all_goals try simp only [Act.put, sA0, sZ0, sS0]
     refine wpAnyD_one (i := 13) (oi := ⟨none, Op.store 43 (Operand.tmp 84) (Operand.tmp 83), 0, _, _, _⟩) rfl (by kernel_rfl) (by rfl) (fun K hK => ?_)
     clear hS9
     go_simp
     refine hK _ _ (fun h => absurd h (by decide)) ?_
     clear hK K
     try simp only [Act.put]
     refine wpAnyD_done (by kernel_rfl) ?_ _
     unfold Exit.then
     clear x3 f3
     go_wp2_with fail
     go_roundw
     case rel => exact ⟨q + 1, by omega, by go_num, fun h => absurd h (by decide), _, _, _, by
      have h := HIB9.out
      rw [← HVS.out, ← HVN.out, versG_succ] at h
      exact h, by rw [List.length_append, HTN.out]; rfl⟩
     case measure => (first | (simp [intOf]; done) | (simp [intOf]; omega))
    ·have HNQ := Lh hqr
     by_cases hqr1 : q < r
     ·have hft : fr = false := by
       cases hf : fr with
       | false => rfl
       | true => exact absurd ⟨hqr1, hf⟩ HNQ.out
      have hqr2 : (q : Int) < r := by omega
      clear hqr
      subst hft
      obtain ⟨A6, c6, hv6, -, -⟩ := HIB.out.v.form
      obtain ⟨A7, c7, hv7, -, -⟩ := HIB.out.t.len
      subst hv6 hv7
      obtain ⟨A9, c9, hv9, -, -⟩ := HOBx.out.o.len
      subst hv9
      have hln : (versG k q).length = q + 1 := versG_len k q
      have HGS : Hid (GSect f k ⟨en, false, versG k q, ts⟩) := Lh ⟨HEN.out, HFR.out.symm, q, hq, HFQ.out, rfl, HTN.out, HIB.out.g⟩
      obtain ⟨vs, hvs⟩ : ∃ vs, versG k q = vs := ⟨_, rfl⟩
      rw [hvs] at HIB hln HGS
      have hvl : vs.length ≤ 10 := by omega
      have htl : ts.length ≤ 10 := by have := HTN.out; omega
      have hsl : ss.length ≤ 10 := by have := HOBx.out.n; omega
      have i0 := HIB.out.s.cell 0 rfl
      have i2 := HIB.out.s.cell 2 rfl
      have i3 := HIB.out.s.cell 3 rfl
      have b2 := HOBx.out.b.cell 2 rfl
      have hba : Below wr.heap.size wr (wr.alloc (.cells #[.int .i64 en, .bool false, .slice A6 vs.length c6, .slice A7 ts.length c7] 45)) := (Below.refl _ _).alloc (Nat.le_refl _) _
      have HBA := Lh hba
      have HRE := Lh (HIB.out.rep (v := .slice A9 ss.length c9) (Y := w.heap.size + 1) HI.out.1 hba (by have := HOB.out.lt; have := HBw.out; omega) (fun g hg => by have := (HOB.out.o.lt g hg).2; have := HBw.out; omega) hvl htl)
      clear hvs hln hba HIB HFQ HTN hq2 hq0
      go_upto_region 6 with (first
       |(at_builtin; refine wpList_push (α := Av SectP (fun i => w.heap.size + 1 < i)) _ rfl (.tmp 86) (.tmp 88) 25 rfl w.heap.size 45 (.agg #[.int .i64 0, .bool false, .slice none 0 0, .slice none 0 0]) 64 Tryz.underlying25 sect_info rfl (show 0 < 4 by decide) _ (ss.map Av.mk) rfl (HOBx.out.o.own.alloc _) wr.heap.size _ ⟨⟨en, false, vs, ts⟩⟩ (0, 0) 45 rfl (heap_alloc_new wr _) HRE.out (by rw [List.length_map]; omega) (by rw [List.length_map]; omega) (by have := HOBx.out.bl.size; simp; omega) _ rfl ?_; rw [List.length_map]; intro g cap w5 hown5 hg5 hat5 hlt5; have hs5 := HOBx.out.book HBA.out hg5; have x2 := hs5.cell 2 rfl; have f2 := hs5.fz 2; have HOB5 := Lh (HOBx.out.push (v' := .slice (some ⟨g, 0, none⟩) (ss.length + 1) cap) HBA.out HGS.out (by rw [List.map_append]; exact hown5) hg5 hat5 rfl); clear hs5 hown5 hg5 hat5 hlt5)
       | fail)
      clear x2 f2 i0 i1 i2 i3 b2
      go_wp2_with fail
      go_roundw
      case rel => exact ⟨k + 1, by omega, by go_num, _, _, HOB5.out⟩
      case measure => (first | (simp [intOf]; done) | (simp [intOf]; omega))
     ·have hqr2 : ¬ (q : Int) < r := by omega
      clear hqr
      obtain ⟨A6, c6, hv6, -, -⟩ := HIB.out.v.form
      obtain ⟨A7, c7, hv7, -, -⟩ := HIB.out.t.len
      subst hv6 hv7
      obtain ⟨A9, c9, hv9, -, -⟩ := HOBx.out.o.len
      subst hv9
      have hln : (versG k q).length = q + 1 := versG_len k q
      have HGS : Hid (GSect f k ⟨en, fr, versG k q, ts⟩) := Lh ⟨HEN.out, HFR.out.symm, q, hq, HFQ.out, rfl, HTN.out, HIB.out.g⟩
      obtain ⟨vs, hvs⟩ : ∃ vs, versG k q = vs := ⟨_, rfl⟩
      rw [hvs] at HIB hln HGS
      have hvl : vs.length ≤ 10 := by omega
      have htl : ts.length ≤ 10 := by have := HTN.out; omega
      have hsl : ss.length ≤ 10 := by have := HOBx.out.n; omega
      have i0 := HIB.out.s.cell 0 rfl
      have i2 := HIB.out.s.cell 2 rfl
      have i3 := HIB.out.s.cell 3 rfl
      have b2 := HOBx.out.b.cell 2 rfl
      have hba : Below wr.heap.size wr (wr.alloc (.cells #[.int .i64 en, .bool fr, .slice A6 vs.length c6, .slice A7 ts.length c7] 45)) := (Below.refl _ _).alloc (Nat.le_refl _) _
      have HBA := Lh hba
      have HRE := Lh (HIB.out.rep (v := .slice A9 ss.length c9) (Y := w.heap.size + 1) HI.out.1 hba (by have := HOB.out.lt; have := HBw.out; omega) (fun g hg => by have := (HOB.out.o.lt g hg).2; have := HBw.out; omega) hvl htl)
      clear hvs hln hba HIB HFQ HTN hq2 hq0
      go_upto_region 6 with (first
       |(at_builtin; refine wpList_push (α := Av SectP (fun i => w.heap.size + 1 < i)) _ rfl (.tmp 86) (.tmp 88) 25 rfl w.heap.size 45 (.agg #[.int .i64 0, .bool false, .slice none 0 0, .slice none 0 0]) 64 Tryz.underlying25 sect_info rfl (show 0 < 4 by decide) _ (ss.map Av.mk) rfl (HOBx.out.o.own.alloc _) wr.heap.size _ ⟨⟨en, fr, vs, ts⟩⟩ (0, 0) 45 rfl (heap_alloc_new wr _) HRE.out (by rw [List.length_map]; omega) (by rw [List.length_map]; omega) (by have := HOBx.out.bl.size; simp; omega) _ rfl ?_; rw [List.length_map]; intro g cap w5 hown5 hg5 hat5 hlt5; have hs5 := HOBx.out.book HBA.out hg5; have x2 := hs5.cell 2 rfl; have f2 := hs5.fz 2; have HOB5 := Lh (HOBx.out.push (v' := .slice (some ⟨g, 0, none⟩) (ss.length + 1) cap) HBA.out HGS.out (by rw [List.map_append]; exact hown5) hg5 hat5 rfl); clear hs5 hown5 hg5 hat5 hlt5)
       | fail)
      clear x2 f2 i0 i1 i2 i3 b2
      go_wp2_with fail
      go_roundw
      case rel => exact ⟨k + 1, by omega, by go_num, _, _, HOB5.out⟩
      case measure => (first | (simp [intOf]; done) | (simp [intOf]; omega))
  ·obtain rfl : k = n := by omega
   obtain ⟨A9, c9, hv9, -, -⟩ := HOB.out.o.len
   subst hv9
   have b0 := HOB.out.b.cell 0 rfl
   have b1 := HOB.out.b.cell 1 rfl
   have b2 := HOB.out.b.cell 2 rfl
   have r0 := HOB.out.r.cell 0 rfl
   have r1 := HOB.out.r.cell 1 rfl
   have r2 := HOB.out.r.cell 2 rfl
   have f0 := HOB.out.r.fz 0
   have f1 := HOB.out.r.fz 1
   have f2 := HOB.out.r.fz 2
   have hsl : ss.length ≤ 10 := by have := HOB.out.n; omega
   go_wp2_with fail
   refine bodyPost_ret (v := .agg #[.int .i64 m, .int .i64 h, .slice A9 ss.length c9]) (results_box1 Tryz.results9 _ _ w.heap.size _ [.int .i64 m, .int .i64 h, .slice A9 ss.length c9] _ rfl (abox3 HOB.out.r _ _ _) Tryz.underlying27 rfl (by kernel_rfl)) rfl
    ⟨m, h, A9, c9, ss, rfl, ⟨HM.out.1.1, HM.out.1.2, HM.out.2.1, HM.out.2.2, by have := HOB.out.n; omega, f, HOB.out.g⟩, ?_, below3 HOB.out.bl (Nat.le_refl _) _ _ _⟩
   obtain ⟨A10, c10, e10, hsl10⟩ := HOB.out.o.sl
   cases e10
   refine (hsl10.keep (w' := _) ?_ (by simp)).mono (fun i (hi : w.heap.size + 1 < i) hl => ⟨by omega, hl⟩)
   intro i (hi : w.heap.size + 1 < i) _
   exact (heap_set _ _ _ _ (by omega)).trans ((heap_set _ _ _ _ (by omega)).trans (heap_set _ _ _ _ (by omega)))
end Go.Proofs.YtakaielemicpkaaGreatDoor
namespace Go.Proofs.YtakaielemicpkaaGreatDoor
open Go.RowKit
structure TM (w : World) (A : Option Addr) (c : Nat) (B : Option Addr) (d : Nat) (a b : List (List Word)) : Prop where
 ta : Sl w (fun b => b < w.heap.size) A c a
 tb : Sl w (fun b => b < w.heap.size) B d b
 sa : ShortT a
 sb : ShortT b
end Go.Proofs.YtakaielemicpkaaGreatDoor
namespace Go.Proofs.YtakaielemicpkaaGreatDoor
open Go.RowKit
end Go.Proofs.YtakaielemicpkaaGreatDoor
namespace Go.Proofs.YtakaielemicpkaaGreatDoor
open Go.RowKit
structure Tame (l : List SectP) : Prop where
 n : l.length ≤ 5
 v : ∀ s ∈ l, s.vers.length ≤ 4 ∧ s.texts.length ≤ s.vers.length ∧ ∀ t ∈ s.texts, GText t.a t.b
structure Siz (m h : Int) : Prop where
 m1 : 500 ≤ m
 m2 : m ≤ 2000
 h1 : 4 ≤ h
 h2 : h ≤ 100
theorem GBk.siz {m h : Int} {l : List SectP} (H : GBk m h l) : Siz m h := ⟨H.m1, by have := H.m2; omega, H.h1, by have := H.h2; omega⟩
theorem GBk.tame {m h : Int} {l : List SectP} (H : GBk m h l) : Tame l := by
 refine ⟨by have := H.n; omega, fun s hs => ?_⟩
 obtain ⟨f, hf⟩ := H.s
 obtain ⟨i, hi, rfl⟩ := List.getElem_of_mem hs
 obtain ⟨-, -, j, hj, -, hv, ht, hg⟩ := hf i hi
 exact ⟨by rw [hv, versG_len]; omega, by rw [hv, versG_len, ht]; omega, hg⟩
theorem Tame.short {l : List SectP} (H : Tame l) : ShortS l :=
 ⟨by have := H.n; omega, fun s hs => ⟨by have := (H.v s hs).1; omega, by have := (H.v s hs).1; have := (H.v s hs).2.1; omega, fun t ht => ((H.v s hs).2.2 t ht).short⟩⟩
theorem versB_tame {m h entry : Int} (hz : Siz m h) : ∀ (ts : List TextP) (k : Nat) (num suf : Int) (vs : List Int), (∀ t ∈ ts, GText t.a t.b) → (versB m h entry k num suf vs ts).length ≤ 196 * ts.length
 | [], _, _, _, _, _ => by simp [versB]
 | t :: ts, k, num, suf, vs, hg => by
  rw [versB, List.length_append, labelP_len, List.length_cons]
  have h1 := ((hg t (by simp)).pages ⟨hz.m1, hz.m2⟩ ⟨hz.h1, hz.h2⟩).2
  have h2 := versB_tame (entry := entry) hz ts (k + 1) (if k = 0 then num + (okPages t.a t.b m h).length else num) (if k = 0 then suf else suf + (okPages t.a t.b m h).length) vs.tail (fun x hx => hg x (by simp [hx]))
  omega
theorem sectsB_tame {m h : Int} (hz : Siz m h) : ∀ (l : List SectP) (num : Int), (∀ s ∈ l, s.texts.length ≤ 4 ∧ ∀ t ∈ s.texts, GText t.a t.b) → (sectsB m h num l).length ≤ 784 * l.length
 | [], _, _ => by simp [sectsB]
 | s :: l, num, hs => by
  rw [sectsB, List.length_append, List.length_cons]
  have h1 := versB_tame (entry := s.entry) hz s.texts 0 num 0 s.vers (hs s (by simp)).2
  have h2 := sectsB_tame hz l (num + plainB m h s) (fun x hx => hs x (by simp [hx]))
  have h3 := (hs s (by simp)).1
  omega
theorem Tame.pages {m h : Int} {l : List SectP} (H : Tame l) (hz : Siz m h) : (pagesB m h l).length ≤ 3920 := by
 have h1 := sectsB_tame hz l 0 (fun s hs => ⟨by have := (H.v s hs).1; have := (H.v s hs).2.1; omega, (H.v s hs).2.2⟩)
 have h2 := H.n
 unfold pagesB
 omega
end Go.Proofs.YtakaielemicpkaaGreatDoor
namespace Go.Proofs.YtakaielemicpkaaGreatDoor
open Go.RowKit
theorem not_take {l : List Int} (h : l.Nodup) {q : Nat} (hq : q < l.length) : l[q] ∉ l.take q := by
 intro hm
 obtain ⟨i, hi, e⟩ := List.getElem_of_mem hm
 rw [List.length_take] at hi
 rw [List.getElem_take] at e
 exact List.pairwise_iff_getElem.1 h i q (by omega) hq (by omega) e
end Go.Proofs.YtakaielemicpkaaGreatDoor
namespace Go.Proofs.YtakaielemicpkaaGreatDoor
open Go.RowKit
structure CoreP where
 entry : Int
 ver : Int
 body : List LineP
 notes : List LineP
end Go.Proofs.YtakaielemicpkaaGreatDoor
namespace Go.Proofs.YtakaielemicpkaaGreatDoor
open Go.RowKit
theorem versG_nodup (i j : Nat) (hi : i ≤ 3) (hj : j ≤ 2) : (versG i j).Nodup := by
 unfold versG
 refine List.nodup_cons.2 ⟨fun hm => ?_, ?_⟩
 ·obtain ⟨k, hk, e⟩ := List.mem_map.1 hm
  have := List.mem_range.1 hk
  omega
 ·rw [List.nodup_iff_pairwise_ne, List.pairwise_map]
  refine List.Pairwise.imp_of_mem (R := (· < ·)) (fun {a b} _ _ hab => ?_) List.pairwise_lt_range
  omega
end Go.Proofs.YtakaielemicpkaaGreatDoor
namespace Go.Proofs.YtakaielemicpkaaGreatDoor
open Go.RowKit
theorem versG_range {i j : Nat} (hi : i ≤ 3) (hj : j ≤ 2) : ∀ v ∈ versG i j, 0 ≤ v ∧ v ≤ 2147483647 := by
 intro v hv
 unfold versG at hv
 rcases List.mem_cons.1 hv with rfl | hv
 ·omega
 ·obtain ⟨k, hk, rfl⟩ := List.mem_map.1 hv
  rw [List.mem_range] at hk
  omega
structure ChkS (f k : Nat) (l : List SectP) (s : SectP) : Prop where
 e0 : 0 ≤ s.entry
 e1 : s.entry ≤ 65535
 fd : findP l s.entry = (k : Int)
 fr : s.frozen = decide (k < f)
 n1 : 1 ≤ s.vers.length
 n3 : s.vers.length ≤ 3
 nt : s.texts.length = s.vers.length
 nf : s.frozen = false → s.vers.length = 1
 rg : ∀ v ∈ s.vers, 0 ≤ v ∧ v ≤ 2147483647
 nd : s.vers.Nodup
 g : ∀ t ∈ s.texts, GText t.a t.b
theorem GBk.chk {m h : Int} {l : List SectP} (H : GBk m h l) : ∃ f, ∀ k (hk : k < l.length), ChkS f k l l[k] := by
 obtain ⟨f, hf⟩ := H.s
 have hn := H.n
 refine ⟨f, fun k hk => ?_⟩
 obtain ⟨⟨d, hd, he⟩, h2, j, h3, h4, h5, h6, h7⟩ := hf k hk
 have hvl : l[k].vers.length = j + 1 := by rw [h5, versG_len]
 refine ⟨by omega, by omega, findP_hit hk rfl fun i hi e => ?_, h2, by omega, by omega, by omega, fun hfr => by have := h4 hfr; omega, by rw [h5]; exact versG_range (by omega) h3, by rw [h5]; exact versG_nodup k j (by omega) h3, h7⟩
 obtain ⟨⟨d2, hd2, he2⟩, -⟩ := hf i (by omega)
 omega
end Go.Proofs.YtakaielemicpkaaGreatDoor
namespace Go.Proofs.YtakaielemicpkaaGreatDoor
open Go.RowKit
theorem sectsB_few (m h : Int) : ∀ (l : List SectP) (num : Int), (∀ s ∈ l, s.texts.length ≤ 20) → (sectsB m h num l).length ≤ 2000000 * l.length
 | [], num, _ => by simp [sectsB]
 | s :: l, num, hs => by
  rw [sectsB, List.length_append, List.length_cons]
  have h1 := versB_len m h s.entry s.texts 0 num 0 s.vers
  have h2 := sectsB_few m h l (num + plainB m h s) (fun x hx => hs x (by simp [hx]))
  have h3 := hs s (by simp)
  omega
theorem GBk.noerr {m h : Int} {l : List SectP} (H : GBk m h l) : chkE m h l = 0 := by
 obtain ⟨f, hf⟩ := H.chk
 have hz := H.siz
 have hu : UptoS m h l l.length := fun k hk _ => by
  have hc := hf k hk
  refine OkS.sec ⟨⟨hc.e0, hc.e1⟩, by rw [hc.fd]; omega, fun h => ?_, by have := hc.n1; omega, hc.nt.symm, fun h => by have := hc.nf h.2; omega, by have := hc.n3; omega, UptoV.all hc.nt.symm fun q hq ht _ => ?_⟩
  ·have h1 : k < f := of_decide_eq_true (hc.fr ▸ h.1)
   have h2 := h.2
   unfold openB at h2
   obtain ⟨x, hx, h3⟩ := List.any_eq_true.1 h2
   obtain ⟨j, hj, rfl⟩ := List.getElem_of_mem hx
   rw [List.length_take] at hj
   rw [List.getElem_take] at h3
   have h4 := (hf j (by omega)).fr
   rw [decide_eq_true (show j < f by omega)] at h4
   rw [h4] at h3
   exact absurd h3 (by decide)
  ·unfold verX
   rw [if_neg (not_not_intro (hc.rg _ (List.getElem_mem hq))), if_neg (not_take hc.nd hq)]
   exact (hc.g _ (List.getElem_mem ht)).wrong ⟨hz.m1, hz.m2⟩ ⟨hz.h1, hz.h2⟩
 rw [hu.all ⟨hz.m1, hz.m2⟩ ⟨hz.h1, hz.h2⟩, if_neg (by have := H.tame.pages hz; omega)]
end Go.Proofs.YtakaielemicpkaaGreatDoor
namespace Go.Proofs.YtakaielemicpkaaGreatDoor
open Go.RowKit
theorem own_avm {α : Type} [Rep α] {w : World} {base : Nat} {e : TypeId} {v : Value} {l : List α} {P Q : Nat → Prop} (h : Own w base e v (l.map (Av.mk : α → Av α P))) (hPQ : ∀ i, P i → i < w.heap.size → Q i) : Own w base e v (l.map (Av.mk : α → Av α Q)) := by
 obtain ⟨xs, hx, ho, hr⟩ := h
 refine ⟨xs, by rw [List.length_map] at hx ⊢; exact hx, ho, fun i hi => ?_⟩
 rw [List.length_map] at hi
 have h1 := hr i (by rw [List.length_map]; exact hi)
 rw [List.getElem_map] at h1 ⊢
 exact Rep.mono (α := α) h1 (fun b hb hl => ⟨hb.1, hPQ b hb.2 hl⟩)
structure FewX (s : SectP) : Prop where
 v : s.vers.length ≤ 5
 t : s.texts.length ≤ 5
 s : ∀ t ∈ s.texts, ShortT t.a ∧ ShortT t.b
structure FewB (l : List SectP) : Prop where
 n : l.length ≤ 4
 s : ∀ s ∈ l, FewX s
theorem FewB.short {l : List SectP} (h : FewB l) : ShortS l := ⟨by have := h.n; omega, fun s hs => ⟨by have := (h.s s hs).v; omega, by have := (h.s s hs).t; omega, (h.s s hs).s⟩⟩
theorem FewB.pages {l : List SectP} (h : FewB l) (m k : Int) : (pagesB m k l).length ≤ 1000000000 := by
 have h1 := sectsB_few m k l 0 (fun s hs => by have := (h.s s hs).t; omega)
 have h2 := h.n
 unfold pagesB
 omega
def PreX (s : SectP) : Prop := 1 ≤ s.vers.length ∧ s.vers.length ≤ 4 ∧ s.texts.length = s.vers.length ∧ ∀ t ∈ s.texts, ShortT t.a ∧ ShortT t.b
theorem PreX.few {s : SectP} (h : PreX s) : FewX s := ⟨by have := h.2.1; omega, by have := h.2.1; have := h.2.2.1; omega, h.2.2.2⟩
theorem rep_sl {α : Type} [Rep α] {w : World} {S : Nat → Prop} {A : Option Addr} {n c : Nat} {l : List α} (h : Rep.R w S [.slice A n c] l) : n = l.length ∧ Sl w S A c l := by
 obtain ⟨A', c', e, hs, -⟩ := h
 injection e with e
 injection e with e1 e2 e3
 subst e1
 subst e3
 exact ⟨e2, hs⟩
theorem rep_drop {α : Type} [Rep α] {w : World} {S : Nat → Prop} {b o n c : Nat} {l : List α} (h : Rep.R w S [.slice (some ⟨b, o, none⟩) n c] l) (h1 : 1 ≤ n) :
  (c = 1 → Rep.R w S [.slice (some ⟨b, o, none⟩) (n - 1) 0] (l.drop 1)) ∧ (¬ c = 1 → Rep.R w S [.slice (some ⟨b, o + Rep.size α, none⟩) (n - 1) (c - 1)] (l.drop 1)) := by
 obtain ⟨hn, hs⟩ := rep_sl h
 have hd := hs.drop 1 (by omega)
 have hl : (l.drop 1).length = n - 1 := by rw [List.length_drop, hn]
 have hm := hs.2.1
 have hm1 := hs.1
 unfold maxLen at hm
 refine ⟨fun hc => ?_, fun hc => ?_⟩
 ·rw [if_pos hc] at hd
  subst hc
  rw [← hl]
  exact ⟨_, _, rfl, hd, by omega⟩
 ·rw [if_neg hc] at hd
  rw [← hl]
  exact ⟨_, _, rfl, by simpa [addr_add] using hd, by omega⟩
theorem wpList_catF {P : Program} {α : Type} [Rep α] {ops : Array Oper} {rest : List Oper} {o : Oper} {a : Act} {Q : Exit → Act → World → Prop} {w : World} (hgd : o.guard = none) (s x : Operand) (t : TypeId)
  (ho : o.op = .call { callee := .builtin .append, args := #[s, x], argTypes := #[t, t] })
  (base : Nat) (e : TypeId) (z : Value) (bytes : Nat) (ht : P.underlying t = some (.slice e)) (hinfo : (P.info? e).map (fun i => (i.zero, i.size, i.bytes)) = some (some z, Rep.size α, bytes))
  (hzs : z.cells.size = Rep.size α) (hsz : 0 < Rep.size α) (A : Option Addr) (n : Nat) (l : List α) (hs : a.eval s = .slice A n n) (hown : Own w base e (.slice A n n) l)
  (A' : Option Addr) (c m : Nat) (l' : List α) (hx : a.eval x = .slice A' m c) (hm : l'.length = m) (hl' : Sl w (fun b => b < w.heap.size) A' c l') (hbytes : (n + m) * bytes ≤ 140737488355328) (hml : n + m ≤ 9223372036854775807) (hbase : base ≤ w.heap.size)
  (h : ∀ v' w', Own w' base e v' (l ++ l') → Below w.heap.size w w' → wpList P ops Q rest (a.put o.dst v') w') : wpList P ops Q (o :: rest) a w :=
 wpList_plain hgd fun _ hK => wp_catF s x t ho base e z bytes ht hinfo hzs hsz A n l hs hown A' c m l' hx hm hl' hbytes hml hbase fun v' w' h2 h3 => hK _ _ (h v' w' h2 h3)
structure SQ (w : World) (b5 : Nat) (vO : Value) (ss : List SectP) (m h wt at_ N : Int) (wx : World) : Prop where
 b : ABox wx b5 27 [.int .i64 m, .int .i64 h, vO]
 o : OwnP wx (w.heap.size + 3) 45 vO ss (fun i => i ≠ b5 ∧ i ≠ w.heap.size + 2)
 s : ABox wx (w.heap.size + 1) 56 [.int .i64 wt, .int .i64 at_, .int .i64 N]
 r : ABox wx (w.heap.size + 2) 27 [.int .i64 0, .int .i64 0, .slice none 0 0]
 k : Below w.heap.size w wx
 z : w.heap.size + 3 ≤ b5
section
variable {w wx wy : World} {b5 : Nat} {vO : Value} {ss : List SectP} {m h wt at_ N : Int}
theorem SQ.to (H : SQ w b5 vO ss m h wt at_ N wx) (hb : Below wx.heap.size wx wy) : SQ w b5 vO ss m h wt at_ N wy := ⟨H.b.to hb, H.o.below hb, H.s.to hb, H.r.to hb, H.k.trans (hb.mono H.k.size), H.z⟩
theorem SQ.setM (H : SQ w b5 vO ss m h wt at_ N wx) (n : Int) : SQ w b5 vO ss n h wt at_ N (wx.setCell ⟨b5, 0, none⟩ (.int .i64 n)) :=
 ⟨H.b.set 0 _, H.o.set _ _ _ (fun _ h => h.1), H.s.other (by have := H.z; omega) _ _, H.r.other (by have := H.z; omega) _ _, H.k.setCell (p := ⟨b5, 0, none⟩) (by show w.heap.size ≤ b5; have := H.z; omega) _, H.z⟩
theorem SQ.setH (H : SQ w b5 vO ss m h wt at_ N wx) (n : Int) : SQ w b5 vO ss m n wt at_ N (wx.setCell ⟨b5, 1, none⟩ (.int .i64 n)) :=
 ⟨H.b.set 1 _, H.o.set _ _ _ (fun _ h => h.1), H.s.other (by have := H.z; omega) _ _, H.r.other (by have := H.z; omega) _ _, H.k.setCell (p := ⟨b5, 1, none⟩) (by show w.heap.size ≤ b5; have := H.z; omega) _, H.z⟩
end
structure SX (wr : World) (g X r : Nat) (wx : World) (va vb : Value) (s : SectP) : Prop where
 b : ABox wx X 45 [.int .i64 s.entry, .bool s.frozen, va, vb]
 e : I64 s.entry
 v : Rep.R wx (fun b => b ≠ g ∧ b ≠ X ∧ b ≠ r) [va] s.vers
 t : Rep.R wx (fun b => b ≠ g ∧ b ≠ X ∧ b ≠ r) [vb] s.texts
 f : FewX s
 k : Below wr.heap.size wr wx
 x : wr.heap.size ≤ X
section
variable {wr wx wy : World} {g X r : Nat} {va vb : Value} {s : SectP}
theorem SX.to (H : SX wr g X r wx va vb s) (hb : Below wx.heap.size wx wy) : SX wr g X r wy va vb s := ⟨H.b.to hb, H.e, Rep.keep H.v (Kept.all hb), Rep.keep H.t (Kept.all hb), H.f, H.k.trans (hb.mono H.k.size), H.x⟩
theorem SX.setE (H : SX wr g X r wx va vb s) {n : Int} (hn : I64 n) : SX wr g X r (wx.setCell ⟨X, 0, none⟩ (.int .i64 n)) va vb {s with entry := n} :=
 ⟨H.b.set 0 _, hn, Rep.keep H.v (fun _ hi _ => heap_set wx X 0 _ hi.2.1), Rep.keep H.t (fun _ hi _ => heap_set wx X 0 _ hi.2.1), ⟨H.f.v, H.f.t, H.f.s⟩, H.k.setCell (p := ⟨X, 0, none⟩) H.x _, H.x⟩
theorem SX.setF (H : SX wr g X r wx va vb s) (n : Bool) : SX wr g X r (wx.setCell ⟨X, 1, none⟩ (.bool n)) va vb {s with frozen := n} :=
 ⟨H.b.set 1 _, H.e, Rep.keep H.v (fun _ hi _ => heap_set wx X 1 _ hi.2.1), Rep.keep H.t (fun _ hi _ => heap_set wx X 1 _ hi.2.1), ⟨H.f.v, H.f.t, H.f.s⟩, H.k.setCell (p := ⟨X, 1, none⟩) H.x _, H.x⟩
theorem SX.setV (H : SX wr g X r wx va vb s) {n : Value} {l : List Int} (hr : Rep.R wx (fun b => b ≠ g ∧ b ≠ X ∧ b ≠ r) [n] l) (hl : l.length ≤ 5) : SX wr g X r (wx.setCell ⟨X, 2, none⟩ n) n vb {s with vers := l} :=
 ⟨H.b.set 2 _, H.e, Rep.keep hr (fun _ hi _ => heap_set wx X 2 _ hi.2.1), Rep.keep H.t (fun _ hi _ => heap_set wx X 2 _ hi.2.1), ⟨hl, H.f.t, H.f.s⟩, H.k.setCell (p := ⟨X, 2, none⟩) H.x _, H.x⟩
theorem SX.setT (H : SX wr g X r wx va vb s) {n : Value} {l : List TextP} (hr : Rep.R wx (fun b => b ≠ g ∧ b ≠ X ∧ b ≠ r) [n] l) (hl : l.length ≤ 5) (hs : ∀ t ∈ l, ShortT t.a ∧ ShortT t.b) : SX wr g X r (wx.setCell ⟨X, 3, none⟩ n) va n {s with texts := l} :=
 ⟨H.b.set 3 _, H.e, Rep.keep H.v (fun _ hi _ => heap_set wx X 3 _ hi.2.1), Rep.keep hr (fun _ hi _ => heap_set wx X 3 _ hi.2.1), ⟨H.f.v, hl, hs⟩, H.k.setCell (p := ⟨X, 3, none⟩) H.x _, H.x⟩
end
set_option maxRecDepth 100000 in
set_option maxHeartbeats 16000000 in
theorem spoilt_any {m h : Int} {ss : List SectP} (A : Option Addr) (c : Nat) (wt at_ N : Int) (w : World) (hs : Sl w (fun b => b < w.heap.size) A c ss) (hn4 : ss.length ≤ 4) (hpx : ∀ s ∈ ss, PreX s) (hwt : I64 wt) (hat : I64 at_) (hN : I64 N) (hh : I64 h) :
  Calls Tryz.prog 23 #[.agg #[.int .i64 m, .int .i64 h, .slice A ss.length c], .agg #[.int .i64 wt, .int .i64 at_, .int .i64 N]] w fun e w' => ∃ m' h' A' c' l', e = .returned (.agg #[.int .i64 m', .int .i64 h', .slice A' l'.length c']) ∧ I64 h' ∧ FewB l' ∧ Sl w' (fun b => b < w'.heap.size) A' c' l' ∧ Below w.heap.size w w' := by
 obtain ⟨n, hn⟩ : ∃ n, ss.length = n := ⟨_, rfl⟩
 obtain ⟨wb, hwb⟩ : ∃ wb, ((w.alloc (.cells #[.int .i64 m, .int .i64 h, .slice A n c] 27)).alloc (.cells #[.int .i64 wt, .int .i64 at_, .int .i64 N] 56)).alloc (.cells #[.int .i64 0, .int .i64 0, .slice none 0 0] 27) = wb := ⟨_, rfl⟩
 have hba : Below w.heap.size w wb := by rw [← hwb]; exact (((Below.refl _ _).alloc (Nat.le_refl _) _).alloc (by simp) _).alloc (by simp; omega) _
 have hz : wb.heap.size = w.heap.size + 3 := by rw [← hwb]; simp
 have hx0 : ABox wb w.heap.size 27 [.int .i64 m, .int .i64 h, .slice A n c] := by rw [← hwb]; exact (Below.heap_alloc _ _ _ (by simp; omega)).trans ((Below.heap_alloc _ _ _ (by simp)).trans (heap_alloc_new w _))
 have hx1 : ABox wb (w.heap.size + 1) 56 [.int .i64 wt, .int .i64 at_, .int .i64 N] := by rw [← hwb]; exact (Below.heap_alloc _ _ _ (by simp)).trans (heap_at (by simp))
 have hx2 : ABox wb (w.heap.size + 2) 27 [.int .i64 0, .int .i64 0, .slice none 0 0] := by rw [← hwb]; exact heap_at (by simp)
 have hnc : n ≤ c := by rw [← hn]; exact hs.1
 rw [hn] at hn4 ⊢
 have HS := Lh (hs.keep (Kept.all hba) hba.size)
 have HN := Lh hn
 have HPX := Lh hpx
 have HWT := Lh hwt
 have HAT := Lh hat
 have HIN := Lh hN
 have HIH := Lh hh
 have HBA := Lh hba
 have HZ := Lh hz
 have HX0 := Lh hx0
 have HX1 := Lh hx1
 have HX2 := Lh hx2
 clear hs hn hpx hwt hat hN hh hba hz hx0 hx1 hx2
 go_enter Tryz.func23, Tryz.ntmps23
 go_upto_region 1 with (fail)
 try rw [hwb]
 clear hwb
 refine wp_region_rely [4, 7, 9] (fun i => if i = 4 then SP.full (α := Av SectP (fun b => b < w.heap.size)) wb.heap.size 45 [] else if i = 7 then SP.own (α := Av SectP (fun b => b < w.heap.size)) wb.heap.size 45 (ss.map Av.mk) else if i = 9 then SP.box wb.heap.size #[.int .i64 0, .int .i64 0, .slice none 0 0] 27 else SP.any) 10 (by kernel_rfl) (by kernel_rfl) ?_
 intro T _ g hg hgm
 have a0 : ∀ d, (g d).cell? ⟨w.heap.size, 0, none⟩ = some (.int .i64 m) := fun d => (HX0.out.to (hg d)).cell 0 rfl
 have a1 : ∀ d, (g d).cell? ⟨w.heap.size, 1, none⟩ = some (.int .i64 h) := fun d => (HX0.out.to (hg d)).cell 1 rfl
 have a2 : ∀ d, (g d).cell? ⟨w.heap.size, 2, none⟩ = some (.slice A n c) := fun d => (HX0.out.to (hg d)).cell 2 rfl
 repeat (refine wpR_pure (by rfl) fun Kq hq => ?_; go_big_quiet_step (fail); refine wpQuiet_nil (hq _ ?_); clear hq Kq)
 refine wpR_busy (by rfl) (by rfl) (fun d hG K Q hK => ?_) (fun v4 d hG hp Kr hr => ?_)
 ·go_simp
  exact hK _ _ ((Below.refl _ _).alloc (Nat.le_refl _) _) ⟨⟨_, rfl⟩, Own.made (g d) _ _ (hg d).size⟩
 obtain ⟨⟨A4, rfl⟩, -⟩ := (show (∃ A, v4 = .slice A 0 0) ∧ _ from hp)
 (try clear hp); clear hG
 simp only [Act.put, sA0, sZ0, sS0]
 refine hr _ ?_
 clear hr Kr
 repeat (refine wpR_pure (by rfl) fun Kq hq => ?_; go_big_quiet_step (fail); refine wpQuiet_nil (hq _ ?_); clear hq Kq)
 refine wpR_busy (by rfl) (by rfl) (fun d hG K Q hK => ?_) (fun v7 d hG hp Kr hr => ?_)
 ·have H4 : Hid (Own (α := Av SectP (fun b => b < w.heap.size)) (g d) wb.heap.size 45 (.slice A4 0 0) []) := Lh (show (∃ A, Value.slice A4 0 0 = .slice A 0 0) ∧ Own (α := Av SectP (fun b => b < w.heap.size)) (g d) wb.heap.size 45 (.slice A4 0 0) [] from hG 4 (by kernel_rfl)).2
  have HSd : Hid (Sl (g d) (fun b => b < (g d).heap.size) A c (ss.map (Av.mk : SectP → Av SectP (fun b => b < w.heap.size)))) := Lh (((HS.out.keep (Kept.all (hg d)) (hg d).size).av (P := fun b => b < w.heap.size) (fun i hi _ => hi)).mono (fun i hi hl => hl))
  refine wp_catF (α := Av SectP (fun b => b < w.heap.size)) (.tmp 12) (.tmp 14) 25 rfl wb.heap.size 45 (.agg #[.int .i64 0, .bool false, .slice none 0 0, .slice none 0 0]) 64 Tryz.underlying25 sect_info rfl (show 0 < 4 by decide) A4 0 [] rfl H4.out A c n (ss.map Av.mk) rfl (by rw [List.length_map]; exact HN.out) HSd.out (by omega) (by omega) (hg d).size ?_
  intro v' w' ho' hb'
  exact hK _ _ hb' ho'
 obtain ⟨A7, c7, e7, -, -⟩ := (show Own (α := Av SectP (fun b => b < w.heap.size)) (g d) wb.heap.size 45 v7 (ss.map Av.mk) from hp).form
 rw [List.length_map, HN.out] at e7
 subst e7
 (try clear hp); clear hG
 simp only [Act.put, sA0, sZ0, sS0]
 refine hr _ ?_
 clear hr Kr
 repeat (refine wpR_pure (by rfl) fun Kq hq => ?_; go_big_quiet_step (fail); refine wpQuiet_nil (hq _ ?_); clear hq Kq)
 refine wpR_busy (by rfl) (by rfl) (fun d hG K Q hK => ?_) (fun v9 d hG hp Kr hr => ?_)
 ·go_simp
  exact hK _ _ ((Below.refl _ _).alloc (Nat.le_refl _) _) ⟨_, rfl, (hg d).size, by simp, heap_alloc_new _ _⟩
 obtain ⟨b5, rfl, hb5, -⟩ := (show ∃ b, v9 = .pointer (some ⟨b, 0, none⟩) ∧ wb.heap.size ≤ b ∧ _ from hp)
 (try clear hp); clear hG
 simp only [Act.put, sA0, sZ0, sS0]
 refine hr _ ?_
 clear hr Kr
 refine wpR_tail 1 (by rfl) (by rfl) (fun d hG => ?_)
 have H7 : Hid (Own (α := Av SectP (fun b => b < w.heap.size)) (g d) wb.heap.size 45 (.slice A7 n c7) (ss.map Av.mk)) := Lh (hG 7)
 obtain ⟨b9, e9, -, h9l, h9⟩ := (show ∃ b, Value.pointer (some ⟨b5, 0, none⟩) = .pointer (some ⟨b, 0, none⟩) ∧ wb.heap.size ≤ b ∧ b < (g d).heap.size ∧ (g d).heap[b]? = some (.cells #[.int .i64 0, .int .i64 0, .slice none 0 0] 27 (0, 0)) from hG 9)
 cases e9
 have H5 : Hid (ABox (g d) b5 27 [.int .i64 0, .int .i64 0, .slice none 0 0]) := Lh h9
 have HX1d := Lh (HX1.out.to (hg d))
 have HX2d := Lh (HX2.out.to (hg d))
 have HBd := Lh (HBA.out.trans ((hg d).mono HBA.out.size))
 have HB5 : Hid (w.heap.size + 3 ≤ b5) := Lh (by rw [← HZ.out]; exact hb5)
 clear hG hg hgm a0 a1 a2 h9 h9l hb5
 generalize g d = wx at *
 clear g
 have z0 := H5.out.cell 0 rfl
 have f0 := H5.out.fz 0
 have z1 := (H5.out.set 0 (.int .i64 m)).cell 1 rfl
 have f1 := (H5.out.set 0 (.int .i64 m)).fz 1
 have z2 := ((H5.out.set 0 (.int .i64 m)).set 1 (.int .i64 h)).cell 2 rfl
 have f2 := ((H5.out.set 0 (.int .i64 m)).set 1 (.int .i64 h)).fz 2
 have hne : (Value.slice A7 n c7).ownBlock ≠ some b5 := own_ne H7.out H5.out (by decide)
 have HO : Hid (OwnP wx wb.heap.size 45 (.slice A7 n c7) ss (fun i => i ≠ b5 ∧ i ≠ w.heap.size + 2)) := Lh ⟨own_avm H7.out (fun i hi _ => by have := HB5.out; have hi : i < w.heap.size := hi; exact ⟨by omega, by omega⟩), fun q hq => ⟨fun e => hne (by rw [hq, e]), by have h1 := (H7.out.lt q hq).1; have h2 := HZ.out; omega⟩⟩
 have HXF := Lh (abox3 H5.out (.int .i64 m) (.int .i64 h) (.slice A7 n c7))
 have HBF := Lh (below3 HBd.out (show w.heap.size ≤ b5 by have := HB5.out; omega) (.int .i64 m) (.int .i64 h) (.slice A7 n c7))
 have HOF : Hid (OwnP (((wx.setCell ⟨b5, 0, none⟩ (.int .i64 m)).setCell ⟨b5, 1, none⟩ (.int .i64 h)).setCell ⟨b5, 2, none⟩ (.slice A7 n c7)) wb.heap.size 45 (.slice A7 n c7) ss (fun i => i ≠ b5 ∧ i ≠ w.heap.size + 2)) := Lh (((HO.out.set b5 0 _ (fun i hi => hi.1)).set b5 1 _ (fun i hi => hi.1)).set b5 2 _ (fun i hi => hi.1))
 have HX1F : Hid (ABox (((wx.setCell ⟨b5, 0, none⟩ (.int .i64 m)).setCell ⟨b5, 1, none⟩ (.int .i64 h)).setCell ⟨b5, 2, none⟩ (.slice A7 n c7)) (w.heap.size + 1) 56 [.int .i64 wt, .int .i64 at_, .int .i64 N]) := Lh (((HX1d.out.other (show w.heap.size + 1 ≠ b5 by have := HB5.out; omega) _ _).other (show w.heap.size + 1 ≠ b5 by have := HB5.out; omega) _ _).other (show w.heap.size + 1 ≠ b5 by have := HB5.out; omega) _ _)
 have HX2F : Hid (ABox (((wx.setCell ⟨b5, 0, none⟩ (.int .i64 m)).setCell ⟨b5, 1, none⟩ (.int .i64 h)).setCell ⟨b5, 2, none⟩ (.slice A7 n c7)) (w.heap.size + 2) 27 [.int .i64 0, .int .i64 0, .slice none 0 0]) := Lh (((HX2d.out.other (show w.heap.size + 2 ≠ b5 by have := HB5.out; omega) _ _).other (show w.heap.size + 2 ≠ b5 by have := HB5.out; omega) _ _).other (show w.heap.size + 2 ≠ b5 by have := HB5.out; omega) _ _)
 clear H7 HO HX1 HX2 HX1d HX2d HBd hne HS HX0
 refine wpAny_one (i := 10) (oi := _) rfl (by kernel_rfl) (by rfl) (fun K hK => ?_)
 go_simp
 refine hK _ _ ?_
 clear hK K
 try simp only [Act.put, sA0, sZ0, sS0]
 clear z0 z1 z2 f0 f1 f2
 generalize (((wx.setCell ⟨b5, 0, none⟩ (.int .i64 m)).setCell ⟨b5, 1, none⟩ (.int .i64 h)).setCell ⟨b5, 2, none⟩ (.slice A7 n c7)) = wA at *
 refine wpAny_done (by kernel_rfl) ?_ _
 unfold Exit.then
 have s0 := HX1F.out.cell 0 rfl
 have s1 := HX1F.out.cell 1 rfl
 have s2 := HX1F.out.cell 2 rfl
 have k2 := HXF.out.cell 2 rfl
 obtain ⟨k0, hk0⟩ : ∃ k0, aro at_ (max 1 (n : Int)) = k0 := ⟨_, rfl⟩
 have hk0b := aro_lt at_ (max 1 (n : Int)) (by omega)
 have har := fun W => around_any at_ (max 1 (n : Int)) W HAT.out (by omega) (by omega)
 rw [hk0] at hk0b har
 have HAR := Lh har
 have HK0 := Lh hk0b
 obtain ⟨wh, hwh⟩ : ∃ wh, aro wt 8 = wh := ⟨_, rfl⟩
 have hwhb := aro_lt wt 8 (by decide)
 have haw := fun W => around_any wt 8 W HWT.out (by decide) (by decide)
 rw [hwh] at hwhb haw
 have HAW := Lh haw
 have HWB := Lh hwhb
 have HQ0 : Hid (SQ w b5 (.slice A7 n c7) ss m h wt at_ N wA) := Lh ⟨HXF.out, by rw [← HZ.out]; exact HOF.out, HX1F.out, HX2F.out, HBF.out, HB5.out⟩
 clear hk0 hk0b har hwh hwhb haw HXF HOF HX1F HX2F HBF
 go_upto_region 3 with (first | (go_at_call 13; refine (HAR.out _).mono ?_; rintro e w9 ⟨rfl, rfl⟩) | fail)
 clear s1 k2
 go_upto_block 0 with (first | (go_at_call 13; refine (HAW.out _).mono ?_; rintro e w9 ⟨rfl, rfl⟩) | fail)
 go_cut [6] from 27 to 36 (fun v6 wx => v6 = .int .i64 k0 ∧ ∃ m' h' : Int, Hid (I64 h') ∧ Hid (SQ w b5 (.slice A7 n c7) ss m' h' wt at_ N wx))
 case first =>
  have z0 := HQ0.out.b.cell 0 rfl
  have f0 := HQ0.out.b.fz 0
  have z1 := HQ0.out.b.cell 1 rfl
  have f1 := HQ0.out.b.fz 1
  have HM := Lh (HQ0.out.setM N)
  have HH := Lh (HQ0.out.setH N)
  by_cases h0 : wh = 0
  ·subst h0
   go_wp2_with fail
   go_meet
   exact ⟨rfl, _, _, HIH, HM⟩
  ·have e0 : (wh == 0) = false := beq_eq_false_iff_ne.2 h0
   by_cases h1 : wh = 1
   ·subst h1
    go_wp2_with fail
    go_meet
    exact ⟨rfl, _, _, HIN, HH⟩
   ·have e1 : (wh == 1) = false := beq_eq_false_iff_ne.2 h1
    go_wp2_with fail
    go_meet
    exact ⟨rfl, _, _, HIH, HQ0⟩
 case rest =>
 obtain ⟨rfl, m', h', HIH', HQ⟩ := hcut
 clear s0 s2
 have k2 := HQ.out.b.cell 2 rfl
 by_cases hn0 : n = 0
 ·have HN0 := Lh hn0
  have hnI : (n : Int) = 0 := by omega
  have k0' := HQ.out.b.cell 0 rfl
  have k1' := HQ.out.b.cell 1 rfl
  have r0 := HQ.out.r.cell 0 rfl
  have r1 := HQ.out.r.cell 1 rfl
  have r2 := HQ.out.r.cell 2 rfl
  have f0 := HQ.out.r.fz 0
  have f1 := HQ.out.r.fz 1
  have f2 := HQ.out.r.fz 2
  have hnb : ((n : Int) == 0) = true := by rw [beq_iff_eq]; exact hnI
  clear hn0 hnI
  go_wp2_with fail
  refine bodyPost_ret (v := .agg #[.int .i64 m', .int .i64 h', .slice A7 n c7]) (results_box1 Tryz.results23 _ _ (w.heap.size + 2) _ [.int .i64 m', .int .i64 h', .slice A7 n c7] _ rfl (abox3 HQ.out.r _ _ _) Tryz.underlying27 rfl (by kernel_rfl)) rfl
   ⟨m', h', A7, c7, ss, by rw [HN.out], HIH'.out, ⟨by rw [HN.out]; exact hn4, fun s hs => (HPX.out s hs).few⟩, ?_, below3 HQ.out.k (by omega) _ _ _⟩
  obtain ⟨A9, c9, e9, hs9⟩ := HQ.out.o.sl
  cases e9
  exact ⟨hs9.1, hs9.2.1, fun hp => absurd hp (by have h1 := HN.out; have h2 := HN0.out; omega)⟩
 obtain ⟨w7, rfl⟩ : ∃ w7 : World, w7 = wc := ⟨_, rfl⟩
 have hn1 : 1 ≤ n := by omega
 obtain ⟨kn, rfl⟩ : ∃ kn : Nat, k0 = (kn : Int) := ⟨k0.toNat, by have := HK0.out.1; omega⟩
 have hkn : kn < n := by have := HK0.out.2; omega
 have hkl : kn < ss.length := by rw [HN.out]; exact hkn
 obtain ⟨g, cap, es, ev, hg0, hgl, hcap, hrs, hcs, hfz⟩ := HQ.out.o.own.at_ (k := kn) (by rw [List.length_map]; exact hkl)
 rw [List.length_map, HN.out] at ev hcap
 cases ev
 rw [List.getElem_map] at hrs
 have hpx := HPX.out _ (List.getElem_mem hkl)
 obtain ⟨x, hx⟩ : ∃ x, ss[kn] = x := ⟨_, rfl⟩
 rw [hx] at hrs hpx

 have hrs' : Rep.R w7 (fun b => b ≠ g ∧ b ≠ b5 ∧ b ≠ w.heap.size + 2) es x := hrs
 obtain ⟨va, vb, rfl, hxI, hva, hvb⟩ := hrs'
 have e0 : w7.cell? ⟨g, kn * 4, none⟩ = some (.int .i64 x.entry) := hcs 0 _ rfl
 have e1 : w7.cell? ⟨g, kn * 4 + 1, none⟩ = some (.bool x.frozen) := hcs 1 _ rfl
 have e2 : w7.cell? ⟨g, kn * 4 + 2, none⟩ = some va := hcs 2 _ rfl
 have e3 : w7.cell? ⟨g, kn * 4 + 3, none⟩ = some vb := hcs 3 _ rfl
 obtain ⟨nv, hnv⟩ : ∃ nv, x.vers.length = nv := ⟨_, rfl⟩
 obtain ⟨Ag, cg, eva, hvS, -⟩ := id hva
 cases eva
 obtain ⟨An, cn, evb, hvT, -⟩ := id hvb
 cases evb
 have hnt : x.texts.length = nv := hpx.2.2.1.trans hnv
 have hv1 : 1 ≤ nv := by rw [← hnv]; exact hpx.1
 have hv4 : nv ≤ 4 := by rw [← hnv]; exact hpx.2.1
 obtain ⟨bv, ov, rfl, -⟩ := hvS.2.2 (by omega)
 obtain ⟨bt, ot, rfl, -⟩ := hvT.2.2 (by omega)
 have hvc : nv ≤ cg := by rw [← hnv]; exact hvS.1
 have htc : nv ≤ cn := by rw [← hnt]; exact hvT.1
 have hvm : cg ≤ 9223372036854775807 := hvS.2.1
 have htm : cn ≤ 9223372036854775807 := hvT.2.1
 obtain ⟨X, hX⟩ : ∃ X, w7.heap.size = X := ⟨_, rfl⟩
 have HXW : Hid (w7.heap.size = X) := Lh hX
 have hbX : g < X ∧ b5 < X ∧ w.heap.size + 2 < X := ⟨by rw [← hX]; exact hgl, by rw [← hX]; exact HQ.out.b.lt, by omega⟩
 obtain ⟨ws, hws⟩ : ∃ ws, w7.alloc (.cells #[.int .i64 x.entry, .bool x.frozen, .slice (some ⟨bv, ov, none⟩) x.vers.length cg, .slice (some ⟨bt, ot, none⟩) x.texts.length cn] 45) = ws := ⟨_, rfl⟩
 have hbs : Below w7.heap.size w7 ws := by rw [← hws]; exact (Below.refl _ _).alloc (Nat.le_refl _) _
 have hsx : SX w7 g X (w.heap.size + 2) ws (.slice (some ⟨bv, ov, none⟩) x.vers.length cg) (.slice (some ⟨bt, ot, none⟩) x.texts.length cn) x := ⟨by rw [← hws, ← hX]; exact heap_alloc_new w7 _, hxI,
  Rep.keep (Rep.mono hva (fun i hi hl => ⟨hi.1, by omega, hi.2.2⟩)) (Kept.all hbs), Rep.keep (Rep.mono hvb (fun i hi hl => ⟨hi.1, by omega, hi.2.2⟩)) (Kept.all hbs), hpx.few, hbs, by rw [hX]; exact Nat.le_refl _⟩
 rw [hnv, hnt] at hsx
 rw [hnv, hnt] at hws
 rw [hnv] at e2
 rw [hnt] at e3
 have HSX := Lh hsx
 have HQS := Lh (HQ.out.to hbs)
 have HBX := Lh hbX
 have HNV := Lh hnv
 have HNT := Lh hnt
 have HPP := Lh hpx
 have hnI : (kn : Int) < (n : Int) := by omega
 have hnb : ((n : Int) == 0) = false := beq_eq_false_iff_ne.2 (by omega)
 have hb2 : 45 = 45 := rfl
 clear hb2 hrs hcs hfz hvS hvT hva hvb hxI hsx hbs hbX hnv hnt hpx hx hkl
 go_upto_region 11 with (fail)
 try rw [hX]
 try rw [hws]
 clear hws hX e0 e1 e2 e3 k2
 have s0 := HQS.out.s.cell 0 rfl
 go_upto_block 1 with (first | (go_at_call 13; refine (HAW.out _).mono ?_; rintro e w9 ⟨rfl, rfl⟩) | fail)
 go_cut [6] from 50 to 107 (fun v6 wx => v6 = .int .i64 (kn : Int) ∧ ∃ (va vb : Value) (s : SectP), Hid (SX w7 g X (w.heap.size + 2) wx va vb s))
 case first =>
  have s2 := HQS.out.s.cell 2 rfl
  have x0 := HSX.out.b.cell 0 rfl
  have x1 := HSX.out.b.cell 1 rfl
  have x2 := HSX.out.b.cell 2 rfl
  have x3 := HSX.out.b.cell 3 rfl
  have f0 := HSX.out.b.fz 0
  have f1 := HSX.out.b.fz 1
  have f2 := HSX.out.b.fz 2
  have f3 := HSX.out.b.fz 3
  have hwI : wh = 0 ∨ wh = 1 ∨ wh = 2 ∨ wh = 3 ∨ wh = 4 ∨ wh = 5 ∨ wh = 6 ∨ wh = 7 := by have := HWB.out; omega
  rcases hwI with rfl | rfl | rfl | rfl | rfl | rfl | rfl | rfl
  ·go_wp2_with fail
   go_meet
   exact ⟨rfl, _, _, _, HSX⟩
  ·go_wp2_with fail
   go_meet
   exact ⟨rfl, _, _, _, HSX⟩
  ·have H1 := Lh (HSX.out.setE HIN.out)
   go_wp2_with fail
   go_meet
   exact ⟨rfl, _, _, _, H1⟩
  ·have H1 := Lh (HSX.out.setF (!x.frozen))
   go_wp2_with fail
   go_meet
   exact ⟨rfl, _, _, _, H1⟩
  ·by_cases hc1 : cg = 1
   ·subst hc1
    obtain rfl : nv = 1 := by omega
    have HL6 : Hid (([N] ++ x.vers.drop 1).length = 1) := Lh (by rw [List.length_append, List.length_drop, HNV.out, List.length_singleton]; first | done | omega)
    have HDR : Hid (Rep.R ws (fun b => b ≠ g ∧ b ≠ X ∧ b ≠ w.heap.size + 2) [.slice (some ⟨bv, ov, none⟩) (0) (0)] (x.vers.drop 1)) := Lh ((rep_drop (l := x.vers) HSX.out.v hv1).1 rfl)
    go_upto_region 17 with (fail)
    refine wp_region_rely [2, 6] (fun i => if i = 2 then SP.full (α := Int) ws.heap.size 3 [N] else if i = 6 then SP.own (α := Int) ws.heap.size 3 ([N] ++ x.vers.drop 1) else SP.any) 8 (by kernel_rfl) (by kernel_rfl) ?_
    intro T _ fw hg hgm
    have s2 : ∀ d, (fw d).cell? ⟨w.heap.size + 1, 2, none⟩ = some (.int .i64 N) := fun d => (HQS.out.s.to (hg d)).cell 2 rfl
    have x2 : ∀ d, (fw d).cell? ⟨X, 2, none⟩ = some (.slice (some ⟨bv, ov, none⟩) 1 1) := fun d => (HSX.out.b.to (hg d)).cell 2 rfl
    repeat (refine wpR_pure (by rfl) fun Kq hq => ?_; go_big_quiet_step (fail); refine wpQuiet_nil (hq _ ?_); clear hq Kq)
    refine wpR_busy (by rfl) (by rfl) (fun d hG K Q hK => ?_) (fun v2 d hG hp Kr hr => ?_)
    ·go_simp
     exact hK (.slice (some ⟨(fw d).heap.size, 0, none⟩) 1 1) _ ((Below.refl _ _).alloc (Nat.le_refl _) _) ⟨⟨_, rfl⟩, own_lit1 (cs := [.int .i64 N]) (hg d).size ⟨rfl, HIN.out⟩⟩
    obtain ⟨⟨A2, rfl⟩, -⟩ := (show (∃ A, v2 = .slice A 1 1) ∧ _ from hp)
    (try clear hp); clear hG
    simp only [Act.put, sA0, sZ0, sS0]
    refine hr _ ?_
    clear hr Kr
    repeat (refine wpR_pure (by rfl) fun Kq hq => ?_; go_big_quiet_step (fail); refine wpQuiet_nil (hq _ ?_); clear hq Kq)
    refine wpR_busy (by rfl) (by rfl) (fun d hG K Q hK => ?_) (fun v6 d hG hp Kr hr => ?_)
    ·have H2 : Hid (Own (fw d) ws.heap.size 3 (.slice A2 1 1) [N]) := Lh (show (∃ A, Value.slice A2 1 1 = .slice A 1 1) ∧ Own (fw d) ws.heap.size 3 (.slice A2 1 1) [N] from hG 2 (by kernel_rfl)).2
     have HSd : Hid (Sl (fw d) (fun b => b < (fw d).heap.size) (some ⟨bv, ov, none⟩) (0) (x.vers.drop 1)) := Lh ((rep_sl (Rep.keep HDR.out (Kept.all (hg d)))).2.mono (fun i hi hl => hl))
     refine wp_catF (α := Int) (.tmp 65) (.tmp 68) 22 rfl ws.heap.size 3 (.int .i64 0) 8 Tryz.underlying22 int_info rfl (by decide) A2 1 [N] rfl H2.out (some ⟨bv, ov, none⟩) (0) (0) (x.vers.drop 1) rfl (by rw [List.length_drop, HNV.out]) HSd.out (by omega) (by omega) (hg d).size ?_
     intro v' w' ho' hb'
     exact hK _ _ hb' ho'
    obtain ⟨A6, c6, e6, -, -⟩ := (show Own (fw d) ws.heap.size 3 v6 ([N] ++ x.vers.drop 1) from hp).form
    rw [HL6.out] at e6
    subst e6
    (try clear hp); clear hG
    simp only [Act.put, sA0, sZ0, sS0]
    refine hr _ ?_
    clear hr Kr
    repeat (refine wpR_pure (by rfl) fun Kq hq => ?_; go_big_quiet_step (fail); refine wpQuiet_nil (hq _ ?_); clear hq Kq)
    refine wpR_tail 1 (by rfl) (by rfl) (fun d hG => ?_)
    have H6 : Hid (Own (fw d) ws.heap.size 3 (.slice A6 1 c6) ([N] ++ x.vers.drop 1)) := Lh (hG 6)
    have HSd := Lh (HSX.out.to (hg d))
    clear hG hg hgm s2 x2
    generalize fw d = wy at *
    clear fw
    have x2 := HSd.out.b.cell 2 rfl
    have f2 := HSd.out.b.fz 2
    have H1 := Lh (HSd.out.setV (rep_ints (S := fun b => b ≠ g ∧ b ≠ X ∧ b ≠ w.heap.size + 2) H6.out HL6.out.symm (fun b hb => by have h1 := HBX.out.1; have h2 := HSX.out.b.lt; exact ⟨by omega, by omega, by omega⟩)) (by rw [HL6.out]; omega))
    refine wpAny_one (i := 8) (oi := _) rfl (by kernel_rfl) (by rfl) (fun K hK => ?_)
    go_simp
    refine hK _ _ ?_
    clear hK K
    try simp only [Act.put, sA0, sZ0, sS0]
    refine wpAny_done (by kernel_rfl) ?_ _
    unfold Exit.then
    go_wp2_with fail
    go_meet
    exact ⟨rfl, _, _, _, H1⟩
   ·have HL6 : Hid (([N] ++ x.vers.drop 1).length = nv) := Lh (by rw [List.length_append, List.length_drop, HNV.out, List.length_singleton]; first | done | omega)
    have HDR : Hid (Rep.R ws (fun b => b ≠ g ∧ b ≠ X ∧ b ≠ w.heap.size + 2) [.slice (some ⟨bv, ov + 1, none⟩) (nv - 1) (cg - 1)] (x.vers.drop 1)) := Lh ((rep_drop (l := x.vers) HSX.out.v hv1).2 hc1)
    go_upto_region 17 with (fail)
    refine wp_region_rely [2, 6] (fun i => if i = 2 then SP.full (α := Int) ws.heap.size 3 [N] else if i = 6 then SP.own (α := Int) ws.heap.size 3 ([N] ++ x.vers.drop 1) else SP.any) 8 (by kernel_rfl) (by kernel_rfl) ?_
    intro T _ fw hg hgm
    have s2 : ∀ d, (fw d).cell? ⟨w.heap.size + 1, 2, none⟩ = some (.int .i64 N) := fun d => (HQS.out.s.to (hg d)).cell 2 rfl
    have x2 : ∀ d, (fw d).cell? ⟨X, 2, none⟩ = some (.slice (some ⟨bv, ov, none⟩) nv cg) := fun d => (HSX.out.b.to (hg d)).cell 2 rfl
    repeat (refine wpR_pure (by rfl) fun Kq hq => ?_; go_big_quiet_step (fail); refine wpQuiet_nil (hq _ ?_); clear hq Kq)
    refine wpR_busy (by rfl) (by rfl) (fun d hG K Q hK => ?_) (fun v2 d hG hp Kr hr => ?_)
    ·go_simp
     exact hK (.slice (some ⟨(fw d).heap.size, 0, none⟩) 1 1) _ ((Below.refl _ _).alloc (Nat.le_refl _) _) ⟨⟨_, rfl⟩, own_lit1 (cs := [.int .i64 N]) (hg d).size ⟨rfl, HIN.out⟩⟩
    obtain ⟨⟨A2, rfl⟩, -⟩ := (show (∃ A, v2 = .slice A 1 1) ∧ _ from hp)
    (try clear hp); clear hG
    simp only [Act.put, sA0, sZ0, sS0]
    refine hr _ ?_
    clear hr Kr
    repeat (refine wpR_pure (by rfl) fun Kq hq => ?_; go_big_quiet_step (fail); refine wpQuiet_nil (hq _ ?_); clear hq Kq)
    refine wpR_busy (by rfl) (by rfl) (fun d hG K Q hK => ?_) (fun v6 d hG hp Kr hr => ?_)
    ·have H2 : Hid (Own (fw d) ws.heap.size 3 (.slice A2 1 1) [N]) := Lh (show (∃ A, Value.slice A2 1 1 = .slice A 1 1) ∧ Own (fw d) ws.heap.size 3 (.slice A2 1 1) [N] from hG 2 (by kernel_rfl)).2
     have HSd : Hid (Sl (fw d) (fun b => b < (fw d).heap.size) (some ⟨bv, ov + 1, none⟩) (cg - 1) (x.vers.drop 1)) := Lh ((rep_sl (Rep.keep HDR.out (Kept.all (hg d)))).2.mono (fun i hi hl => hl))
     refine wp_catF (α := Int) (.tmp 65) (.tmp 68) 22 rfl ws.heap.size 3 (.int .i64 0) 8 Tryz.underlying22 int_info rfl (by decide) A2 1 [N] rfl H2.out (some ⟨bv, ov + 1, none⟩) (cg - 1) (nv - 1) (x.vers.drop 1) rfl (by rw [List.length_drop, HNV.out]) HSd.out (by omega) (by omega) (hg d).size ?_
     intro v' w' ho' hb'
     exact hK _ _ hb' ho'
    obtain ⟨A6, c6, e6, -, -⟩ := (show Own (fw d) ws.heap.size 3 v6 ([N] ++ x.vers.drop 1) from hp).form
    rw [HL6.out] at e6
    subst e6
    (try clear hp); clear hG
    simp only [Act.put, sA0, sZ0, sS0]
    refine hr _ ?_
    clear hr Kr
    repeat (refine wpR_pure (by rfl) fun Kq hq => ?_; go_big_quiet_step (fail); refine wpQuiet_nil (hq _ ?_); clear hq Kq)
    refine wpR_tail 1 (by rfl) (by rfl) (fun d hG => ?_)
    have H6 : Hid (Own (fw d) ws.heap.size 3 (.slice A6 nv c6) ([N] ++ x.vers.drop 1)) := Lh (hG 6)
    have HSd := Lh (HSX.out.to (hg d))
    clear hG hg hgm s2 x2
    generalize fw d = wy at *
    clear fw
    have x2 := HSd.out.b.cell 2 rfl
    have f2 := HSd.out.b.fz 2
    have H1 := Lh (HSd.out.setV (rep_ints (S := fun b => b ≠ g ∧ b ≠ X ∧ b ≠ w.heap.size + 2) H6.out HL6.out.symm (fun b hb => by have h1 := HBX.out.1; have h2 := HSX.out.b.lt; exact ⟨by omega, by omega, by omega⟩)) (by rw [HL6.out]; omega))
    refine wpAny_one (i := 8) (oi := _) rfl (by kernel_rfl) (by rfl) (fun K hK => ?_)
    go_simp
    refine hK _ _ ?_
    clear hK K
    try simp only [Act.put, sA0, sZ0, sS0]
    refine wpAny_done (by kernel_rfl) ?_ _
    unfold Exit.then
    go_wp2_with fail
    go_meet
    exact ⟨rfl, _, _, _, H1⟩
  ·go_upto_region 19 with (fail)
   clear s2 x0 x1 x2 x3 f0 f1 f2 f3
   refine wp_region_rely [0, 3, 6] (fun i => if i = 0 then SP.full (α := Int) ws.heap.size 3 [] else if i = 3 then SP.own (α := Int) ws.heap.size 3 x.vers else if i = 6 then SP.lit ws.heap.size 1 #[.int .i64 N] 3 else SP.any) 7 (by kernel_rfl) (by kernel_rfl) ?_
   intro T _ fw hg hgm
   have s2 : ∀ d, (fw d).cell? ⟨w.heap.size + 1, 2, none⟩ = some (.int .i64 N) := fun d => (HQS.out.s.to (hg d)).cell 2 rfl
   have x2 : ∀ d, (fw d).cell? ⟨X, 2, none⟩ = some (.slice (some ⟨bv, ov, none⟩) nv cg) := fun d => (HSX.out.b.to (hg d)).cell 2 rfl
   refine wpR_busy (by rfl) (by rfl) (fun d hG K Q hK => ?_) (fun v0 d hG hp Kr hr => ?_)
   ·go_simp
    exact hK _ _ ((Below.refl _ _).alloc (Nat.le_refl _) _) ⟨⟨_, rfl⟩, Own.made (fw d) _ _ (hg d).size⟩
   obtain ⟨⟨A0, rfl⟩, -⟩ := (show (∃ A, v0 = .slice A 0 0) ∧ _ from hp)
   (try clear hp); clear hG
   simp only [Act.put, sA0, sZ0, sS0]
   refine hr _ ?_
   clear hr Kr
   repeat (refine wpR_pure (by rfl) fun Kq hq => ?_; go_big_quiet_step (fail); refine wpQuiet_nil (hq _ ?_); clear hq Kq)
   refine wpR_busy (by rfl) (by rfl) (fun d hG K Q hK => ?_) (fun v3 d hG hp Kr hr => ?_)
   ·have H0 : Hid (Own (α := Int) (fw d) ws.heap.size 3 (.slice A0 0 0) []) := Lh (show (∃ A, Value.slice A0 0 0 = .slice A 0 0) ∧ Own (α := Int) (fw d) ws.heap.size 3 (.slice A0 0 0) [] from hG 0 (by kernel_rfl)).2
    have HSd : Hid (Sl (fw d) (fun b => b < (fw d).heap.size) (some ⟨bv, ov, none⟩) cg x.vers) := Lh ((rep_sl (Rep.keep HSX.out.v (Kept.all (hg d)))).2.mono (fun i hi hl => hl))
    refine wp_catF (α := Int) (.tmp 73) (.tmp 75) 22 rfl ws.heap.size 3 (.int .i64 0) 8 Tryz.underlying22 int_info rfl (by decide) A0 0 [] rfl H0.out (some ⟨bv, ov, none⟩) cg nv x.vers rfl HNV.out HSd.out (by omega) (by omega) (hg d).size ?_
    intro v' w' ho' hb'
    exact hK _ _ hb' ho'
   obtain ⟨A3, c3, e3, -, -⟩ := (show Own (fw d) ws.heap.size 3 v3 x.vers from hp).form
   rw [HNV.out] at e3
   subst e3
   (try clear hp); clear hG
   simp only [Act.put, sA0, sZ0, sS0]
   refine hr _ ?_
   clear hr Kr
   repeat (refine wpR_pure (by rfl) fun Kq hq => ?_; go_big_quiet_step (fail); refine wpQuiet_nil (hq _ ?_); clear hq Kq)
   refine wpR_busy (by rfl) (by rfl) (fun d hG K Q hK => ?_) (fun v6 d hG hp Kr hr => ?_)
   ·go_simp
    exact hK _ _ ((Below.refl _ _).alloc (Nat.le_refl _) _) ⟨_, rfl, (hg d).size, by simp, heap_alloc_new _ _⟩
   obtain ⟨b6, rfl, -⟩ := (show ∃ b, v6 = .slice (some ⟨b, 0, none⟩) 1 1 ∧ _ from hp)
   (try clear hp); clear hG
   simp only [Act.put, sA0, sZ0, sS0]
   refine hr _ ?_
   clear hr Kr
   refine wpR_tail 3 (by rfl) (by rfl) (fun d hG => ?_)
   have H3 : Hid (Own (fw d) ws.heap.size 3 (.slice A3 nv c3) x.vers) := Lh (hG 3)
   obtain ⟨b', e', -, -, h6⟩ := (show ∃ b, Value.slice (some ⟨b6, 0, none⟩) 1 1 = .slice (some ⟨b, 0, none⟩) 1 1 ∧ ws.heap.size ≤ b ∧ b < (fw d).heap.size ∧ (fw d).heap[b]? = some (.cells #[.int .i64 N] 3 (0, 0)) from hG 6)
   cases e'
   have HBd : Hid (Below ws.heap.size ws (fw d)) := Lh (hg d)
   clear hG hg hgm s2 x2
   generalize fw d = wy at *
   clear fw
   refine wpAny_one (i := 7) (oi := _) rfl (by kernel_rfl) (by rfl) (fun K hK => ?_)
   refine wp_catL (α := Int) (.tmp 76) (.tmp 79) 22 rfl ws.heap.size 3 (.int .i64 0) 8 Tryz.underlying22 int_info rfl (by decide) A3 nv c3 x.vers rfl hv1 H3.out b6 #[.int .i64 N] 3 N rfl h6 ⟨rfl, HIN.out⟩ (by omega) (by omega) HBd.out.size ?_
   intro v7 wq ho7 hb7
   have HB7 := Lh (HBd.out.trans hb7)
   have HS7 := Lh (HSX.out.to HB7.out)
   have HQ7 := Lh (HQS.out.to HB7.out)
   have H7 := Lh ho7
   have HL7 : Hid ((x.vers ++ [N]).length = nv + 1) := Lh (by rw [List.length_append, HNV.out, List.length_singleton])
   obtain ⟨A7, c7', e7, -, -⟩ := ho7.form
   rw [HL7.out] at e7
   subst e7
   clear ho7 hb7 h6 H3 HBd
   refine hK _ _ ?_
   clear hK K
   try simp only [Act.put, sA0]
   refine wpAny_one (i := 8) (oi := _) rfl (by kernel_rfl) (by rfl) (fun K hK => ?_)
   go_simp
   refine hK _ _ ?_
   clear hK K
   try simp only [Act.put, sA0, sZ0, sS0]
   have x2 := HS7.out.b.cell 2 rfl
   have f2 := HS7.out.b.fz 2
   have H8 : Hid (SX w7 g X (w.heap.size + 2) (wq.setCell ⟨X, 2, none⟩ (.slice A7 (nv + 1) c7')) (.slice A7 (nv + 1) c7') (.slice (some ⟨bt, ot, none⟩) nv cn) {x with vers := x.vers ++ [N]}) := Lh (HS7.out.setV (rep_ints (S := fun b => b ≠ g ∧ b ≠ X ∧ b ≠ w.heap.size + 2) H7.out HL7.out.symm (fun b hb => by have h1 := HBX.out.1; have h2 := HSX.out.b.lt; exact ⟨by omega, by omega, by omega⟩)) (by rw [HL7.out]; omega))
   have HK8 : Hid (Below X w7 (wq.setCell ⟨X, 2, none⟩ (.slice A7 (nv + 1) c7'))) := Lh (by have h := H8.out.k; rwa [show w7.heap.size = X from HXW.out] at h)
   refine wpAny_one (i := 9) (oi := _) rfl (by kernel_rfl) (by rfl) (fun K hK => ?_)
   go_simp
   refine hK _ _ ?_
   clear hK K
   try simp only [Act.put, sA0, sZ0, sS0]
   clear x2 f2
   generalize (wq.setCell ⟨X, 2, none⟩ (.slice A7 (nv + 1) c7')) = w8 at *
   refine wpAny_done (by kernel_rfl) ?_ _
   unfold Exit.then
   go_upto_region 20 with (fail)
   have HTx : Hid (Sl w8 (fun b => b < w8.heap.size) (some ⟨bt, ot, none⟩) cn x.texts) := Lh ((rep_sl H8.out.t).2.mono (fun i hi hl => hl))
   have HTa : Hid (Sl w8 (fun b => b < w8.heap.size) (some ⟨bt, ot, none⟩) cn (x.texts.map (Av.mk : TextP → Av TextP (fun b => b ≠ g ∧ b ≠ X ∧ b ≠ w.heap.size + 2)))) := Lh (((rep_sl H8.out.t).2.av (P := fun b => b ≠ g ∧ b ≠ X ∧ b ≠ w.heap.size + 2) (fun i hi _ => hi)).mono (fun i hi hl => hl))
   have h0t : 0 < x.texts.length := by rw [HNT.out]; exact hv1
   obtain ⟨b', o', Aa, ca, Ab, cb, eA, -, hbt, ea, eb, hta, htb⟩ := text_at (rep_sl H8.out.t).2 h0t
   cases eA
   have hy0 := List.getElem_mem h0t
   obtain ⟨y, hy⟩ : ∃ y, x.texts[0]'h0t = y := ⟨_, rfl⟩
   rw [hy] at ea eb hta htb hy0
   rw [Nat.zero_mul, Nat.add_zero] at ea eb
   have HYS := Lh (HPP.out.2.2.2 y hy0)
   have HYR : Hid (Rep.R w8 (fun b => b ≠ g ∧ b ≠ X ∧ b ≠ w.heap.size + 2) [.slice Aa y.a.length ca, .slice Ab y.b.length cb] y) := Lh ⟨_, _, rfl, ⟨_, _, rfl, hta, by have := (HPP.out.2.2.2 y hy0).1.1; omega⟩, ⟨_, _, rfl, htb, by have := (HPP.out.2.2.2 y hy0).2.1; omega⟩⟩
   have HBT := Lh hbt
   have HEA := Lh ea
   have HEB := Lh eb
   clear hy hy0 hta htb hbt ea eb h0t HTx
   refine wp_region_rely [0, 3, 8] (fun i => if i = 0 then SP.full (α := Av TextP (fun b => b ≠ g ∧ b ≠ X ∧ b ≠ w.heap.size + 2)) w8.heap.size 50 [] else if i = 3 then SP.own (α := Av TextP (fun b => b ≠ g ∧ b ≠ X ∧ b ≠ w.heap.size + 2)) w8.heap.size 50 (x.texts.map Av.mk) else if i = 8 then SP.lit w8.heap.size 1 #[.slice Aa y.a.length ca, .slice Ab y.b.length cb] 50 else SP.any) 9 (by kernel_rfl) (by kernel_rfl) ?_
   intro T _ fw hg hgm
   have x3 : ∀ d, (fw d).cell? ⟨X, 3, none⟩ = some (.slice (some ⟨bt, ot, none⟩) nv cn) := fun d => (H8.out.b.to (hg d)).cell 3 rfl
   have ea : ∀ d, (fw d).cell? ⟨bt, ot, none⟩ = some (.slice Aa y.a.length ca) := fun d => ((hg d).cell (p := ⟨bt, ot, none⟩) HBT.out).trans HEA.out
   have eb : ∀ d, (fw d).cell? ⟨bt, ot + 1, none⟩ = some (.slice Ab y.b.length cb) := fun d => ((hg d).cell (p := ⟨bt, ot + 1, none⟩) HBT.out).trans HEB.out
   refine wpR_busy (by rfl) (by rfl) (fun d hG K Q hK => ?_) (fun v0 d hG hp Kr hr => ?_)
   ·go_simp
    exact hK _ _ ((Below.refl _ _).alloc (Nat.le_refl _) _) ⟨⟨_, rfl⟩, Own.made (fw d) _ _ (hg d).size⟩
   obtain ⟨⟨A0, rfl⟩, -⟩ := (show (∃ A, v0 = .slice A 0 0) ∧ _ from hp)
   (try clear hp); clear hG
   simp only [Act.put, sA0, sZ0, sS0]
   refine hr _ ?_
   clear hr Kr
   repeat (refine wpR_pure (by rfl) fun Kq hq => ?_; go_big_quiet_step (fail); refine wpQuiet_nil (hq _ ?_); clear hq Kq)
   refine wpR_busy (by rfl) (by rfl) (fun d hG K Q hK => ?_) (fun v3 d hG hp Kr hr => ?_)
   ·have H0 : Hid (Own (α := Av TextP (fun b => b ≠ g ∧ b ≠ X ∧ b ≠ w.heap.size + 2)) (fw d) w8.heap.size 50 (.slice A0 0 0) []) := Lh (show (∃ A, Value.slice A0 0 0 = .slice A 0 0) ∧ Own (α := Av TextP (fun b => b ≠ g ∧ b ≠ X ∧ b ≠ w.heap.size + 2)) (fw d) w8.heap.size 50 (.slice A0 0 0) [] from hG 0 (by kernel_rfl)).2
    have HSd : Hid (Sl (fw d) (fun b => b < (fw d).heap.size) (some ⟨bt, ot, none⟩) cn (x.texts.map (Av.mk : TextP → Av TextP (fun b => b ≠ g ∧ b ≠ X ∧ b ≠ w.heap.size + 2)))) := Lh (HTa.out.to (hg d))
    refine wp_catF (α := Av TextP (fun b => b ≠ g ∧ b ≠ X ∧ b ≠ w.heap.size + 2)) (.tmp 82) (.tmp 84) 43 rfl w8.heap.size 50 (.agg #[.slice none 0 0, .slice none 0 0]) 48 Tryz.underlying43 text_info rfl (show 0 < 2 by decide) A0 0 [] rfl H0.out (some ⟨bt, ot, none⟩) cn nv (x.texts.map Av.mk) rfl (by rw [List.length_map]; exact HNT.out) HSd.out (by omega) (by omega) (hg d).size ?_
    intro v' w' ho' hb'
    exact hK _ _ hb' ho'
   obtain ⟨A3', c3', e3', -, -⟩ := (show Own (α := Av TextP (fun b => b ≠ g ∧ b ≠ X ∧ b ≠ w.heap.size + 2)) (fw d) w8.heap.size 50 v3 (x.texts.map Av.mk) from hp).form
   rw [List.length_map, HNT.out] at e3'
   subst e3'
   (try clear hp); clear hG
   simp only [Act.put, sA0, sZ0, sS0]
   refine hr _ ?_
   clear hr Kr
   repeat (refine wpR_pure (by rfl) fun Kq hq => ?_; go_big_quiet_step (fail); refine wpQuiet_nil (hq _ ?_); clear hq Kq)
   refine wpR_busy (by rfl) (by rfl) (fun d hG K Q hK => ?_) (fun v8 d hG hp Kr hr => ?_)
   ·go_simp
    exact hK _ _ ((Below.refl _ _).alloc (Nat.le_refl _) _) ⟨_, rfl, (hg d).size, by simp, heap_alloc_new _ _⟩
   obtain ⟨b8, rfl, -⟩ := (show ∃ b, v8 = .slice (some ⟨b, 0, none⟩) 1 1 ∧ _ from hp)
   (try clear hp); clear hG
   simp only [Act.put, sA0, sZ0, sS0]
   refine hr _ ?_
   clear hr Kr
   refine wpR_tail 3 (by rfl) (by rfl) (fun d hG => ?_)
   have H3 : Hid (Own (α := Av TextP (fun b => b ≠ g ∧ b ≠ X ∧ b ≠ w.heap.size + 2)) (fw d) w8.heap.size 50 (.slice A3' nv c3') (x.texts.map Av.mk)) := Lh (hG 3)
   obtain ⟨b', e', -, -, h8⟩ := (show ∃ b, Value.slice (some ⟨b8, 0, none⟩) 1 1 = .slice (some ⟨b, 0, none⟩) 1 1 ∧ w8.heap.size ≤ b ∧ b < (fw d).heap.size ∧ (fw d).heap[b]? = some (.cells #[.slice Aa y.a.length ca, .slice Ab y.b.length cb] 50 (0, 0)) from hG 8)
   cases e'
   have HBd : Hid (Below w8.heap.size w8 (fw d)) := Lh (hg d)
   clear hG hg hgm x3 ea eb
   generalize fw d = wy at *
   clear fw
   have HYa : Hid (Rep.R (α := Av TextP (fun b => b ≠ g ∧ b ≠ X ∧ b ≠ w.heap.size + 2)) wy (fun i => i < w8.heap.size) [.slice Aa y.a.length ca, .slice Ab y.b.length cb] ⟨y⟩) := Lh (Rep.keep (α := TextP) (Rep.mono HYR.out (fun i hi hl => ⟨hl, hi⟩)) (Kept.all HBd.out))
   refine wpAny_one (i := 9) (oi := _) rfl (by kernel_rfl) (by rfl) (fun K hK => ?_)
   refine wp_catL (α := Av TextP (fun b => b ≠ g ∧ b ≠ X ∧ b ≠ w.heap.size + 2)) (.tmp 85) (.tmp 90) 43 rfl w8.heap.size 50 (.agg #[.slice none 0 0, .slice none 0 0]) 48 Tryz.underlying43 text_info rfl (show 0 < 2 by decide) A3' nv c3' (x.texts.map Av.mk) rfl hv1 H3.out b8 #[.slice Aa y.a.length ca, .slice Ab y.b.length cb] 50 ⟨y⟩ rfl h8 HYa.out (by omega) (by omega) HBd.out.size ?_
   intro v9 w9 ho9 hb9
   have HB9 := Lh (HBd.out.trans hb9)
   have HS9 := Lh (H8.out.to HB9.out)
   have H9 : Hid (OwnP w9 w8.heap.size 50 v9 (x.texts ++ [y]) (fun b => b ≠ g ∧ b ≠ X ∧ b ≠ w.heap.size + 2)) := Lh ⟨by rw [List.map_append]; exact ho9, fun q hq => by have h1 := (ho9.lt q hq).1; have h2 := H8.out.b.lt; have h3 := HBX.out.1; exact ⟨by omega, by omega, by omega⟩⟩
   have H9R := Lh (H9.out.rep (S := fun b => b ≠ g ∧ b ≠ X ∧ b ≠ w.heap.size + 2) (by rw [List.length_append, HNT.out, List.length_singleton]; omega) (fun i hi _ => hi))
   have HL9 : Hid ((x.texts ++ [y]).length = nv + 1) := Lh (by rw [List.length_append, HNT.out, List.length_singleton])
   obtain ⟨A9, c9, e9, -, -⟩ := H9.out.len
   rw [HL9.out] at e9
   subst e9
   clear ho9 hb9 h8 H3 HBd HYa H9
   refine hK _ _ ?_
   clear hK K
   try simp only [Act.put, sA0]
   refine wpAny_one (i := 10) (oi := _) rfl (by kernel_rfl) (by rfl) (fun K hK => ?_)
   go_simp
   refine hK _ _ ?_
   clear hK K
   try simp only [Act.put, sA0, sZ0, sS0]
   have x3 := HS9.out.b.cell 3 rfl
   have f3 := HS9.out.b.fz 3
   have H1 := Lh (HS9.out.setT H9R.out (by rw [List.length_append, HNT.out, List.length_singleton]; omega) (fun t ht => by
    rcases List.mem_append.1 ht with h | h
    ·exact HPP.out.2.2.2 t h
    ·rw [List.mem_singleton] at h; subst h; exact HYS.out))
   refine wpAny_one (i := 11) (oi := _) rfl (by kernel_rfl) (by rfl) (fun K hK => ?_)
   go_simp
   refine hK _ _ ?_
   clear hK K
   try simp only [Act.put, sA0, sZ0, sS0]
   refine wpAny_done (by kernel_rfl) ?_ _
   unfold Exit.then
   go_wp2_with fail
   go_meet
   exact ⟨rfl, _, _, _, H1⟩
  ·by_cases hc1 : cn = 1
   ·subst hc1
    obtain rfl : nv = 1 := by omega
    have HDR : Hid (Rep.R ws (fun b => b ≠ g ∧ b ≠ X ∧ b ≠ w.heap.size + 2) [.slice (some ⟨bt, ot, none⟩) (0) (0)] (x.texts.drop 1)) := Lh ((rep_drop (l := x.texts) HSX.out.t hv1).1 rfl)
    clear s2 x0 x1 x2 f0 f1 f2
    obtain ⟨wl, hwl⟩ : ∃ wl, ws.alloc (.cells #[.slice none 0 0, .slice none 0 0] 50) = wl := ⟨_, rfl⟩
    have hbl : Below ws.heap.size ws wl := by rw [← hwl]; exact (Below.refl _ _).alloc (Nat.le_refl _) _
    have x3 := (HSX.out.b.to hbl).cell 3 rfl
    have f3 := (HSX.out.b.to hbl).fz 3
    have hol : Own (α := Av TextP (fun b => b ≠ g ∧ b ≠ X ∧ b ≠ w.heap.size + 2)) wl ws.heap.size 50 (.slice (some ⟨ws.heap.size, 0, none⟩) 1 1) [⟨⟨[], []⟩⟩] := by
     rw [← hwl]
     exact own_lit1 (cs := [.slice none 0 0, .slice none 0 0]) (Nat.le_refl _) (show Rep.R (α := TextP) _ _ _ ⟨[], []⟩ from ⟨_, _, rfl, ⟨none, 0, rfl, Sl.nil _ _ _ _ (Nat.zero_le _), by simp⟩, ⟨none, 0, rfl, Sl.nil _ _ _ _ (Nat.zero_le _), by simp⟩⟩)
    have HOL := Lh hol
    have HBL := Lh hbl
    have HSd : Hid (Sl wl (fun b => b < wl.heap.size) (some ⟨bt, ot, none⟩) (0) ((x.texts.drop 1).map (Av.mk : TextP → Av TextP (fun b => b ≠ g ∧ b ≠ X ∧ b ≠ w.heap.size + 2)))) := Lh (((rep_sl (Rep.keep HDR.out (Kept.all hbl))).2.av (P := fun b => b ≠ g ∧ b ≠ X ∧ b ≠ w.heap.size + 2) (fun i hi _ => hi)).mono (fun i hi hl => hl))
    have HL6 : Hid ((([⟨⟨[], []⟩⟩] : List (Av TextP (fun b => b ≠ g ∧ b ≠ X ∧ b ≠ w.heap.size + 2))) ++ (x.texts.drop 1).map (Av.mk : TextP → Av TextP (fun b => b ≠ g ∧ b ≠ X ∧ b ≠ w.heap.size + 2))).length = 1) := Lh (by rw [List.length_append, List.length_map, List.length_drop, HNT.out, List.length_singleton]; first | done | omega)
    clear hbl hol
    go_wp2_with (first
     |(at_builtin; (try rw [hwl]); refine wpList_catF (α := Av TextP (fun b => b ≠ g ∧ b ≠ X ∧ b ≠ w.heap.size + 2)) rfl (.tmp 96) (.tmp 99) 43 rfl ws.heap.size 50 (.agg #[.slice none 0 0, .slice none 0 0]) 48 Tryz.underlying43 text_info rfl (show 0 < 2 by decide) (some ⟨ws.heap.size, 0, none⟩) 1 [⟨⟨[], []⟩⟩] rfl HOL.out (some ⟨bt, ot, none⟩) (0) (0) ((x.texts.drop 1).map Av.mk) rfl (by rw [List.length_map, List.length_drop, HNT.out]) HSd.out (by omega) (by omega) HBL.out.size ?_;
       intro v6 w6 ho6 hb6; obtain ⟨A6, c6, e6, -, -⟩ := ho6.form; rw [HL6.out] at e6; subst e6; have HO6 := Lh ho6; have HB6 := Lh (HBL.out.trans (hb6.mono HBL.out.size)); clear ho6 hb6 x3 f3; have x3 := (HSX.out.b.to HB6.out).cell 3 rfl; have f3 := (HSX.out.b.to HB6.out).fz 3)
     | fail)
    go_meet
    have H9 : Hid (OwnP w6 ws.heap.size 50 (.slice A6 1 c6) (⟨[], []⟩ :: x.texts.drop 1) (fun b => b ≠ g ∧ b ≠ X ∧ b ≠ w.heap.size + 2)) := Lh ⟨HO6.out, fun q hq => by have h1 := (HO6.out.lt q hq).1; have h2 := HSX.out.b.lt; have h3 := HBX.out.1; exact ⟨by omega, by omega, by omega⟩⟩
    have HR9 := H9.out.rep (S := fun b => b ≠ g ∧ b ≠ X ∧ b ≠ w.heap.size + 2) (by rw [List.length_cons, List.length_drop, HNT.out]; omega) (fun i hi _ => hi)
    exact ⟨rfl, _, _, _, Lh ((HSX.out.to HB6.out).setT HR9 (by rw [List.length_cons, List.length_drop, HNT.out]; omega) (fun t ht => by
     rcases List.mem_cons.1 ht with rfl | h
     ·exact ⟨⟨by simp, by simp⟩, ⟨by simp, by simp⟩⟩
     ·exact HPP.out.2.2.2 t (List.mem_of_mem_drop h)))⟩
   ·have HDR : Hid (Rep.R ws (fun b => b ≠ g ∧ b ≠ X ∧ b ≠ w.heap.size + 2) [.slice (some ⟨bt, ot + 2, none⟩) (nv - 1) (cn - 1)] (x.texts.drop 1)) := Lh ((rep_drop (l := x.texts) HSX.out.t hv1).2 hc1)
    clear s2 x0 x1 x2 f0 f1 f2
    obtain ⟨wl, hwl⟩ : ∃ wl, ws.alloc (.cells #[.slice none 0 0, .slice none 0 0] 50) = wl := ⟨_, rfl⟩
    have hbl : Below ws.heap.size ws wl := by rw [← hwl]; exact (Below.refl _ _).alloc (Nat.le_refl _) _
    have x3 := (HSX.out.b.to hbl).cell 3 rfl
    have f3 := (HSX.out.b.to hbl).fz 3
    have hol : Own (α := Av TextP (fun b => b ≠ g ∧ b ≠ X ∧ b ≠ w.heap.size + 2)) wl ws.heap.size 50 (.slice (some ⟨ws.heap.size, 0, none⟩) 1 1) [⟨⟨[], []⟩⟩] := by
     rw [← hwl]
     exact own_lit1 (cs := [.slice none 0 0, .slice none 0 0]) (Nat.le_refl _) (show Rep.R (α := TextP) _ _ _ ⟨[], []⟩ from ⟨_, _, rfl, ⟨none, 0, rfl, Sl.nil _ _ _ _ (Nat.zero_le _), by simp⟩, ⟨none, 0, rfl, Sl.nil _ _ _ _ (Nat.zero_le _), by simp⟩⟩)
    have HOL := Lh hol
    have HBL := Lh hbl
    have HSd : Hid (Sl wl (fun b => b < wl.heap.size) (some ⟨bt, ot + 2, none⟩) (cn - 1) ((x.texts.drop 1).map (Av.mk : TextP → Av TextP (fun b => b ≠ g ∧ b ≠ X ∧ b ≠ w.heap.size + 2)))) := Lh (((rep_sl (Rep.keep HDR.out (Kept.all hbl))).2.av (P := fun b => b ≠ g ∧ b ≠ X ∧ b ≠ w.heap.size + 2) (fun i hi _ => hi)).mono (fun i hi hl => hl))
    have HL6 : Hid ((([⟨⟨[], []⟩⟩] : List (Av TextP (fun b => b ≠ g ∧ b ≠ X ∧ b ≠ w.heap.size + 2))) ++ (x.texts.drop 1).map (Av.mk : TextP → Av TextP (fun b => b ≠ g ∧ b ≠ X ∧ b ≠ w.heap.size + 2))).length = nv) := Lh (by rw [List.length_append, List.length_map, List.length_drop, HNT.out, List.length_singleton]; first | done | omega)
    clear hbl hol
    go_wp2_with (first
     |(at_builtin; (try rw [hwl]); refine wpList_catF (α := Av TextP (fun b => b ≠ g ∧ b ≠ X ∧ b ≠ w.heap.size + 2)) rfl (.tmp 96) (.tmp 99) 43 rfl ws.heap.size 50 (.agg #[.slice none 0 0, .slice none 0 0]) 48 Tryz.underlying43 text_info rfl (show 0 < 2 by decide) (some ⟨ws.heap.size, 0, none⟩) 1 [⟨⟨[], []⟩⟩] rfl HOL.out (some ⟨bt, ot + 2, none⟩) (cn - 1) (nv - 1) ((x.texts.drop 1).map Av.mk) rfl (by rw [List.length_map, List.length_drop, HNT.out]) HSd.out (by omega) (by omega) HBL.out.size ?_;
       intro v6 w6 ho6 hb6; obtain ⟨A6, c6, e6, -, -⟩ := ho6.form; rw [HL6.out] at e6; subst e6; have HO6 := Lh ho6; have HB6 := Lh (HBL.out.trans (hb6.mono HBL.out.size)); clear ho6 hb6 x3 f3; have x3 := (HSX.out.b.to HB6.out).cell 3 rfl; have f3 := (HSX.out.b.to HB6.out).fz 3)
     | fail)
    go_meet
    have H9 : Hid (OwnP w6 ws.heap.size 50 (.slice A6 nv c6) (⟨[], []⟩ :: x.texts.drop 1) (fun b => b ≠ g ∧ b ≠ X ∧ b ≠ w.heap.size + 2)) := Lh ⟨HO6.out, fun q hq => by have h1 := (HO6.out.lt q hq).1; have h2 := HSX.out.b.lt; have h3 := HBX.out.1; exact ⟨by omega, by omega, by omega⟩⟩
    have HR9 := H9.out.rep (S := fun b => b ≠ g ∧ b ≠ X ∧ b ≠ w.heap.size + 2) (by rw [List.length_cons, List.length_drop, HNT.out]; omega) (fun i hi _ => hi)
    exact ⟨rfl, _, _, _, Lh ((HSX.out.to HB6.out).setT HR9 (by rw [List.length_cons, List.length_drop, HNT.out]; omega) (fun t ht => by
     rcases List.mem_cons.1 ht with rfl | h
     ·exact ⟨⟨by simp, by simp⟩, ⟨by simp, by simp⟩⟩
     ·exact HPP.out.2.2.2 t (List.mem_of_mem_drop h)))⟩
  ·by_cases hc1 : cg = 1
   ·subst hc1
    obtain rfl : nv = 1 := by omega
    have HDR : Hid (Rep.R ws (fun b => b ≠ g ∧ b ≠ X ∧ b ≠ w.heap.size + 2) [.slice (some ⟨bv, ov, none⟩) (0) (0)] (x.vers.drop 1)) := Lh ((rep_drop (l := x.vers) HSX.out.v hv1).1 rfl)
    have H1 := Lh (HSX.out.setV HDR.out (by rw [List.length_drop, HNV.out]; omega))
    go_wp2_with fail
    go_meet
    exact ⟨rfl, _, _, _, H1⟩
   ·have HDR : Hid (Rep.R ws (fun b => b ≠ g ∧ b ≠ X ∧ b ≠ w.heap.size + 2) [.slice (some ⟨bv, ov + 1, none⟩) (nv - 1) (cg - 1)] (x.vers.drop 1)) := Lh ((rep_drop (l := x.vers) HSX.out.v hv1).2 hc1)
    have H1 := Lh (HSX.out.setV HDR.out (by rw [List.length_drop, HNV.out]; omega))
    go_wp2_with fail
    go_meet
    exact ⟨rfl, _, _, _, H1⟩
 case rest =>
 obtain ⟨rfl, va, vb, s, HSY⟩ := hcut
 have HQ2 := Lh (HQ.out.to HSY.out.k)
 have y0 := HSY.out.b.cell 0 rfl
 have y1 := HSY.out.b.cell 1 rfl
 have y2 := HSY.out.b.cell 2 rfl
 have y3 := HSY.out.b.cell 3 rfl
 have k2 := HQ2.out.b.cell 2 rfl
 have hkl : kn < ss.length := by rw [HN.out]; exact hkn
 have ho : Own wc (w.heap.size + 3) 45 (.slice (some ⟨g, 0, none⟩) ss.length c7) ss := by rw [HN.out]; exact HQ2.out.o.plain
 have HTH := Lh (ho.there hkl)
 have hrp : Rep.R wc (fun b => b ≠ g) [.int .i64 s.entry, .bool s.frozen, va, vb] s := ⟨_, _, rfl, HSY.out.e, Rep.mono HSY.out.v (fun i hi _ => hi.1), Rep.mono HSY.out.t (fun i hi _ => hi.1)⟩
 have HSM := Lh (ho.setMid hkl hrp)
 have HON : Hid ((#[.int .i64 s.entry, .bool s.frozen, va, vb] : Array Value).all (·.oneCell') = true) := Lh (by have h1 := Rep.one HSY.out.v va (by simp); have h2 := Rep.one HSY.out.t vb (by simp); have h3 : (Value.int .i64 s.entry).oneCell' = true := rfl; have h4 : (Value.bool s.frozen).oneCell' = true := rfl; simp only [List.all_toArray, List.all_cons, List.all_nil, h1, h2, h3, h4, Bool.and_self])
 have hgr : g ≠ w.heap.size + 2 := by omega
 have hgb : b5 ≠ g := fun e => (HQ2.out.o.at_ g rfl).1 e.symm
 have hsl : Sl wc (fun b => b ≠ w.heap.size + 2) (some ⟨g, 0, none⟩) c7 ss := by
  obtain ⟨A9, c9, e9, hs9⟩ := HQ2.out.o.sl
  rw [← HN.out] at e9
  injection e9 with e91 e92 e93
  subst e91
  subst e93
  exact hs9.mono (fun i hi _ => hi.2)
 have HX9 : Hid (ABox (wc.setCells g (kn * 4) [.int .i64 s.entry, .bool s.frozen, va, vb]) b5 27 [.int .i64 m', .int .i64 h', .slice (some ⟨g, 0, none⟩) n c7]) := Lh ((heap_setCells_ne g hgb _ _ _).trans HQ2.out.b)
 have HR9 : Hid (ABox (wc.setCells g (kn * 4) [.int .i64 s.entry, .bool s.frozen, va, vb]) (w.heap.size + 2) 27 [.int .i64 0, .int .i64 0, .slice none 0 0]) := Lh ((heap_setCells_ne g (fun e => hgr e.symm) _ _ _).trans HQ2.out.r)
 have HB9 : Hid (Below w.heap.size w (wc.setCells g (kn * 4) [.int .i64 s.entry, .bool s.frozen, va, vb])) := Lh (below_setCells (by omega) _ _ HQ2.out.k)
 have HL9 : Hid (OwnP (wc.setCells g (kn * 4) [.int .i64 s.entry, .bool s.frozen, va, vb]) (w.heap.size + 3) 45 (.slice (some ⟨g, 0, none⟩) n c7) (ss.set kn s) (fun b => b ≠ w.heap.size + 2)) := Lh (by
  have ha : Own wc (w.heap.size + 3) 45 (.slice (some ⟨g, 0, none⟩) (ss.map (Av.mk : SectP → Av SectP (fun b => b ≠ w.heap.size + 2))).length c7) (ss.map (Av.mk : SectP → Av SectP (fun b => b ≠ w.heap.size + 2))) := by rw [List.length_map, HN.out]; exact own_avm HQ2.out.o.own (fun i hi _ => hi.2)
  have hr2 : Rep.R wc (fun b => b ≠ g) [.int .i64 s.entry, .bool s.frozen, va, vb] (⟨s⟩ : Av SectP (fun b => b ≠ w.heap.size + 2)) := (show Rep.R (α := SectP) wc (fun b => b ≠ g ∧ b ≠ w.heap.size + 2) [.int .i64 s.entry, .bool s.frozen, va, vb] s from ⟨_, _, rfl, HSY.out.e, Rep.mono HSY.out.v (fun i hi _ => ⟨hi.1, hi.2.2⟩), Rep.mono HSY.out.t (fun i hi _ => ⟨hi.1, hi.2.2⟩)⟩)
  have h9 := ha.setMid (i := kn) (by rw [List.length_map]; exact hkl) hr2
  rw [List.length_map, HN.out, ← List.map_set] at h9
  exact ⟨h9, fun q hq => by cases hq; exact hgr⟩)
 have HF9 : Hid (FewB (ss.set kn s)) := Lh ⟨by rw [List.length_set, HN.out]; exact hn4, fun x hx => by
  rcases List.mem_or_eq_of_mem_set hx with h | h
  ·exact (HPX.out x h).few
  ·subst h; exact HSY.out.f⟩
 have HNS : Hid ((ss.set kn s).length = n) := Lh (by rw [List.length_set, HN.out])
 clear ho hrp hsl hkl
 go_upto_region 26 with (first
  |(refine wpList_store_mid rfl 45 (.tmp 112) (.tmp 111) rfl g (kn * 4) #[.int .i64 s.entry, .bool s.frozen, va, vb] rfl rfl HTH.out (by kernel_rfl) HON.out ?_; clear y0 y1 y2 y3 k2)
  | fail)
 try simp only [List.toList_toArray]
 generalize (wc.setCells g (kn * 4) [.int .i64 s.entry, .bool s.frozen, va, vb]) = wz at *
 have k0' := HX9.out.cell 0 rfl
 have k1' := HX9.out.cell 1 rfl
 have k2' := HX9.out.cell 2 rfl
 have r0 := HR9.out.cell 0 rfl
 have r1 := HR9.out.cell 1 rfl
 have r2 := HR9.out.cell 2 rfl
 have f0 := HR9.out.fz 0
 have f1 := HR9.out.fz 1
 have f2 := HR9.out.fz 2
 go_wp2_with fail
 refine bodyPost_ret (v := .agg #[.int .i64 m', .int .i64 h', .slice (some ⟨g, 0, none⟩) n c7]) (results_box1 Tryz.results23 _ _ (w.heap.size + 2) _ [.int .i64 m', .int .i64 h', .slice (some ⟨g, 0, none⟩) n c7] _ rfl (abox3 HR9.out _ _ _) Tryz.underlying27 rfl (by kernel_rfl)) rfl
  ⟨m', h', some ⟨g, 0, none⟩, c7, ss.set kn s, by rw [HNS.out], HIH'.out, HF9.out, ?_, below3 HB9.out (by omega) _ _ _⟩
 obtain ⟨A9, c9, e9, hs9⟩ := (((HL9.out.set (w.heap.size + 2) 0 _ (fun i hi => hi)).set (w.heap.size + 2) 1 _ (fun i hi => hi)).set (w.heap.size + 2) 2 _ (fun i hi => hi)).sl
 rw [HNS.out] at e9
 injection e9 with e91 e92 e93
 subst e91
 subst e93
 exact hs9.mono (fun i hi hl => hl)
end Go.Proofs.YtakaielemicpkaaGreatDoor
