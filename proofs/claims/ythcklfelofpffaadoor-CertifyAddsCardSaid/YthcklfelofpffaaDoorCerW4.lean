/- The state of a hash computation: New, Write. No condition but sizes and what the table holds. -/
import Derived.Test.YthcklfelofpffaaDoorCerW3
namespace Go.Proofs.YthcklfelofpffaaDoor
open Go.RowKit
/-- A block of cells. -/
def ABox (w : World) (P : Nat) (t : TypeId) (cs : List Value) : Prop := w.heap[P]? = some (.cells cs.toArray t (0, 0))
section
variable {w w' : World} {P : Nat} {t : TypeId} {cs : List Value}
theorem ABox.lt (h : ABox w P t cs) : P < w.heap.size := (Array.getElem?_eq_some_iff.1 h).1
theorem ABox.to (h : ABox w P t cs) (hb : Below w.heap.size w w') : ABox w' P t cs := (hb.block P h.lt).trans h
theorem ABox.cell (h : ABox w P t cs) (i : Nat) {v : Value} (hv : cs[i]? = some v) : w.cell? ⟨P, i, none⟩ = some v := by
  rw [cell_of_row w P i _ _ _ h]; simpa using hv
theorem ABox.fz (h : ABox w P t cs) (o : Nat) : w.frozen? ⟨P, o, none⟩ = false := by
  unfold ABox at h; simp [World.frozen?, h]
theorem ABox.set (h : ABox w P t cs) (i : Nat) (v : Value) : ABox (w.setCell ⟨P, i, none⟩ v) P t (cs.set i v) := by
  have := heap_set_at w P i v h
  unfold ABox
  rw [this]; simp
end
def stL (hs : List W32) (A : Option Addr) (n c : Nat) (m : Int) : List Value := hs.map enc32 ++ [.slice A n c, .int .i64 m]
def stV (hs : List W32) (A : Option Addr) (n c : Nat) (m : Int) : Value := .agg (stL hs A n c m).toArray
set_option maxRecDepth 100000 in
set_option maxHeartbeats 4000000 in
theorem new_any (w : World) : Calls Tryd.prog 66 #[] w fun e w' => e = .returned (stV H0 none 0 0 0) ∧ Below w.heap.size w w' := by
  go_enter Tryd.func66, Tryd.ntmps66
  go_wp2_with fail
  have e : (#[Value.int IntKind.u32 1779033703, Value.int IntKind.u32 3144134277, Value.int IntKind.u32 1013904242, Value.int IntKind.u32 2773480762, Value.int IntKind.u32 1359893119, Value.int IntKind.u32 2600822924, Value.int IntKind.u32 528734635, Value.int IntKind.u32 1541459225, Value.slice none 0 0, Value.int IntKind.i64 0] : Array Value) = (stL H0 none 0 0 0).toArray := by kernel_rfl
  rw [e]
  exact bodyPost_ret (v := stV H0 none 0 0 0) (results_cell_row Tryd.results66 _ _ w.heap.size _ _ (0, 0) _ rfl (heap_alloc_new w _) Tryd.underlying98 rfl (by kernel_rfl)) rfl ⟨rfl, (Below.refl _ _).alloc (Nat.le_refl _) _⟩
theorem list8 {α : Type} {l : List α} (h : l.length = 8) : ∃ a b c d e f g i, l = [a, b, c, d, e, f, g, i] := by
  match l, h with
  | [a, b, c, d, e, f, g, i], _ => exact ⟨a, b, c, d, e, f, g, i, rfl⟩
def zer10 : List Value := [.int .u32 0, .int .u32 0, .int .u32 0, .int .u32 0, .int .u32 0, .int .u32 0, .int .u32 0, .int .u32 0, .slice none 0 0, .int .i64 0]
/-- What the walk holds: the state that came in, the result. -/
structure DS (w wr : World) (D R : Nat) (cs : List Value) : Prop where
  eD : D = w.heap.size
  eR : R = w.heap.size + 1
  d : ABox wr D 98 cs
  r : ABox wr R 98 zer10
  b : Below w.heap.size w wr
theorem DS.to {w wr w' : World} {D R : Nat} {cs : List Value} (h : DS w wr D R cs) (hb : Below wr.heap.size wr w') : DS w w' D R cs :=
  ⟨h.eD, h.eR, h.d.to hb, h.r.to hb, h.b.trans (hb.mono h.b.size)⟩
theorem DS.setD {w wr : World} {D R : Nat} {cs : List Value} (h : DS w wr D R cs) (i : Nat) (x : Value) : DS w (wr.setCell ⟨D, i, none⟩ x) D R (cs.set i x) := by
  have h1 := h.eD; have h2 := h.eR
  exact ⟨h1, h2, h.d.set i x, (heap_set _ _ _ _ (by omega)).trans h.r, h.b.setCell (p := ⟨D, i, none⟩) (by show w.heap.size ≤ D; omega) _⟩
theorem DS.grown {w wr w4 : World} {D R : Nat} {cs : List Value} {row : Option Nat} (h : DS w wr D R cs) (hg : wr.grownBy w4 row) (hr : ∀ g, row = some g → R < g) : DS w w4 D R cs := by
  have h1 := h.eD; have h2 := h.eR
  have hl1 := h.d.lt; have hl2 := h.r.lt
  exact ⟨h1, h2, (hg.block D hl1 (fun e => by have := hr D e.symm; omega)).trans h.d, (hg.block R hl2 (fun e => by have := hr R e.symm; omega)).trans h.r, h.b.grown hg h.b.size (fun k hk => by have := hr k hk; omega)⟩
/-- A cell of D written: what lies behind R stays. -/
theorem sl_setD {w wr : World} {D R : Nat} {cs : List Value} {α : Type} [Rep α] {A : Option Addr} {c : Nat} {l : List α} (h : DS w wr D R cs) (hs : Sl wr (fun g => R + 1 ≤ g) A c l) (i : Nat) (x : Value) : Sl (wr.setCell ⟨D, i, none⟩ x) (fun g => R + 1 ≤ g) A c l := by
  have h1 := h.eD; have h2 := h.eR
  exact hs.keep (fun j (hj : R + 1 ≤ j) _ => heap_set _ _ _ _ (by omega)) (by simp)
theorem sl_setX {w : World} {P : Nat} {S : Nat → Prop} {α : Type} [Rep α] {A : Option Addr} {c : Nat} {l : List α} (hs : Sl w S A c l) (hne : ∀ g, S g → g ≠ P) (i : Nat) (x : Value) : Sl (w.setCell ⟨P, i, none⟩ x) S A c l :=
  hs.keep (fun j hj _ => heap_set _ _ _ _ (hne j hj)) (by simp)
theorem own_slB {w : World} {base : Nat} {e : TypeId} {v : Value} {l : List UInt8} (h : Own w base e v l) : ∃ A c, v = .slice A l.length c ∧ Sl w (fun g => base ≤ g) A c l := by
  obtain ⟨A, c, rfl, hs⟩ := h.sl
  refine ⟨A, c, rfl, hs.1, hs.2.1, fun hn => ?_⟩
  obtain ⟨b, o, rfl, hb, hlt, hx⟩ := hs.2.2 hn
  exact ⟨b, o, rfl, (h.lt b rfl).1, hlt, hx⟩
set_option maxRecDepth 100000 in
set_option maxHeartbeats 4000000 in
theorem write_any (hs : List W32) (hl : hs.length = 8) (tl b : List UInt8) (A B : Option Addr) (c d : Nat) (m : Int) (w : World) (ht : Sl w (fun b => b < w.heap.size) A c tl) (hb : Sl w (fun b => b < w.heap.size) B d b)
    (hsz : tl.length + b.length ≤ 4294967296) (hm : 0 ≤ m ∧ m ≤ 4294967296) (hK : KLaid w) :
    Calls Tryd.prog 65 #[stV hs A tl.length c m, .slice B b.length d] w fun e w' => ∃ A' c', e = .returned (stV (blks hs (tl ++ b) ((tl ++ b).length / 64)) A' ((tl ++ b).drop (64 * ((tl ++ b).length / 64))).length c' (m + b.length)) ∧
      Sl w' (fun b => b < w'.heap.size) A' c' ((tl ++ b).drop (64 * ((tl ++ b).length / 64))) ∧ Below w.heap.size w w' := by
  obtain ⟨h0, h1, h2, h3, h4, h5, h6, h7, rfl⟩ := list8 hl
  have HT := Lib.hid ht
  have HB := Lib.hid hb
  have HK := Lib.hid hK
  clear ht hb hK hl
  have hb63 : (b.length : Int) ≤ 4294967296 := by omega
  obtain ⟨hm0, hm1⟩ := hm
  have hwm : IntKind.i64.wrap (m + (b.length : Int)) = m + (b.length : Int) := by rw [IntWalk.i64_in _ (by omega)]
  unfold stV stL
  simp only [List.map_cons, List.map_nil, List.cons_append, List.nil_append, enc32]
  go_enter Tryd.func65, Tryd.ntmps65
  go_wp2_with fail
  generalize hw1 : (World.alloc (World.alloc w _) _) = w1
  have HDS : Hid (DS w w1 w.heap.size (w.heap.size + 1) [.int .u32 (u h0), .int .u32 (u h1), .int .u32 (u h2), .int .u32 (u h3), .int .u32 (u h4), .int .u32 (u h5), .int .u32 (u h6), .int .u32 (u h7), .slice A tl.length c, .int .i64 (m + b.length)]) := by
    subst hw1
    exact Lib.hid ⟨rfl, rfl, (Below.heap_alloc _ _ _ (by simp)).trans (heap_at rfl), heap_at (by simp), ((Below.refl _ _).alloc (Nat.le_refl _) _).alloc (by simp) _⟩
  clear hw1
  generalize w.heap.size + 1 = R at *
  refine (clone_any A c tl.length tl _ (HT.out.to HDS.out.b) rfl (by omega)).mono ?_
  rintro e w2 ⟨v2, rfl, hown2', hb2⟩
  have HDS2 := Lib.hid (HDS.out.to hb2)
  have hown2 := hown2'.re (B := R + 1) HDS.out.r.lt
  have hR2 : w.heap.size < R + 1 := by have := HDS.out.eR; omega
  have hR3 : R + 1 ≤ w2.heap.size := HDS2.out.r.lt
  have HB2 := Lib.hid (HB.out.keep (Kept.all (S := fun b => b < w.heap.size) HDS2.out.b) HDS2.out.b.size)
  have HK2 := Lib.hid (fun wr (h : Below w.heap.size w wr) => HK.out.to h)
  clear hown2' hb2 HDS HT HK
  go_wp2_with (at_builtin; refine wpList_cat (α := UInt8) _ rfl (.tmp 14) (.tmp 15) 59 rfl (R + 1) 5 (.int .u8 0) 1 Tryd.underlying59 b_info rfl (by decide) v2 tl rfl hown2 B d b.length b rfl rfl (fun b => b < w.heap.size) HB2.out (fun i hi _ e => by have := (hown2.lt i e.symm).1; omega) (by omega) (by omega) hR3 ?_; intro v3 w3 hown3 hg3 _)
  have HDS3 := Lib.hid (HDS2.out.grown hg3 (fun g hg => (hown2.lt g hg).1))
  obtain ⟨A3, c3, rfl, hs3⟩ := own_slB hown3
  have HS3 := Lib.hid hs3
  have hlen : (tl ++ b).length ≤ 4294967296 := by rw [List.length_append]; exact hsz
  have HALL : Hid (∃ all, all = tl ++ b) := Lib.hid ⟨_, rfl⟩
  generalize hall : tl ++ b = all at *
  have HAE := Lib.hid hall
  clear hown3 hg3 hown2 HDS2 HB2 hs3 hR3 hall HALL
  have HH0 : Hid (([h0, h1, h2, h3, h4, h5, h6, h7] : List W32).length = 8) := Lib.hid rfl
  have HD0 : Hid (DS w w3 w.heap.size R ((blks [h0, h1, h2, h3, h4, h5, h6, h7] all 0).map enc32 ++ [.slice A tl.length c, .int .i64 (m + b.length)])) := HDS3
  generalize hh0 : [h0, h1, h2, h3, h4, h5, h6, h7] = hv at *
  have HHV := Lib.hid hh0
  clear hh0 HDS3
  go_loopw [5] (fun v wr => ∃ (k : Nat) (A5 : Option Addr) (c5 n5 : Nat), v = .slice A5 n5 c5 ∧ 64 * k + n5 = all.length ∧ Hid (Sl wr (fun g => R + 1 ≤ g) A5 c5 (all.drop (64 * k))) ∧ Hid (DS w wr w.heap.size R ((blks hv all k).map enc32 ++ [.slice A tl.length c, .int .i64 (m + b.length)]))) (fun v _ => match v with | .slice _ n _ => n | _ => 0)
  case atStart => exact ⟨0, A3, c3, all.length, rfl, by omega, HS3, HD0⟩
  case round =>
    obtain ⟨k, A5, c5, n5, rfl, hn5, hs5, hd5⟩ := hrel
    by_cases h64 : 64 ≤ n5
    · have h64' : (64 : Int) ≤ (n5 : Int) := by omega
      have HNX : Hid (blks hv all (k + 1) = blk (blks hv all k) (all.drop (64 * k))) := Lib.hid rfl
      have hln := blks_length HH0.out all k
      obtain ⟨x0, x1, x2, x3, x4, x5, x6, x7, hx8⟩ := list8 hln
      rw [hx8] at hd5 HNX
      clear hx8 hln
      have hln := blk_length (h := [x0, x1, x2, x3, x4, x5, x6, x7]) rfl (all.drop (64 * k))
      obtain ⟨y0, y1, y2, y3, y4, y5, y6, y7, hy8⟩ := list8 hln
      rw [hy8] at HNX
      have hdl : (all.drop (64 * k)).length = n5 := by rw [List.length_drop]; omega
      have HBL := block_any x0 x1 x2 x3 x4 x5 x6 x7 (all.drop (64 * k)) A5 c5 wr (hs5.out.mono (fun _ _ h => h)) (by omega) (HK2.out _ hd5.out.b)
      rw [hy8, hdl] at HBL
      simp only [List.map_cons, List.map_nil, enc32] at HBL
      have HBH := Lib.hid HBL
      have hcap := hs5.out.1
      rw [hdl] at hcap
      obtain ⟨b5, o5, rfl, hxx⟩ := hs5.out.2.2 (by omega)
      clear hxx
      have hd : Hid (DS w wr w.heap.size R [.int .u32 (u x0), .int .u32 (u x1), .int .u32 (u x2), .int .u32 (u x3), .int .u32 (u x4), .int .u32 (u x5), .int .u32 (u x6), .int .u32 (u x7), .slice A tl.length c, .int .i64 (m + b.length)]) := hd5
      have d0 := hd.out.d.cell 0 rfl
      have d1 := hd.out.d.cell 1 rfl
      have d2 := hd.out.d.cell 2 rfl
      have d3 := hd.out.d.cell 3 rfl
      have d4 := hd.out.d.cell 4 rfl
      have d5 := hd.out.d.cell 5 rfl
      have d6 := hd.out.d.cell 6 rfl
      have d7 := hd.out.d.cell 7 rfl
      have HDL := Lib.hid hdl
      clear hln hy8 hdl HBL hd5
      go_wp2_with fail
      refine HBH.out.mono ?_
      rintro e wd ⟨rfl, hb4⟩
      have HD4 := Lib.hid (hd.out.to hb4)
      have hs4 : Sl wd (fun g => R + 1 ≤ g) (some ⟨b5, o5, none⟩) c5 (all.drop (64 * k)) := hs5.out.keep (Kept.all hb4) hb4.size
      have HD5 : Hid (DS w ((((((((wd.setCell ⟨w.heap.size, 0, none⟩ (.int .u32 (u y0))).setCell ⟨w.heap.size, 1, none⟩ (.int .u32 (u y1))).setCell ⟨w.heap.size, 2, none⟩ (.int .u32 (u y2))).setCell ⟨w.heap.size, 3, none⟩ (.int .u32 (u y3))).setCell ⟨w.heap.size, 4, none⟩ (.int .u32 (u y4))).setCell ⟨w.heap.size, 5, none⟩ (.int .u32 (u y5))).setCell ⟨w.heap.size, 6, none⟩ (.int .u32 (u y6))).setCell ⟨w.heap.size, 7, none⟩ (.int .u32 (u y7))) w.heap.size R [.int .u32 (u y0), .int .u32 (u y1), .int .u32 (u y2), .int .u32 (u y3), .int .u32 (u y4), .int .u32 (u y5), .int .u32 (u y6), .int .u32 (u y7), .slice A tl.length c, .int .i64 (m + b.length)]) := Lib.hid ((((((((HD4.out.setD 0 (.int .u32 (u y0))).setD 1 (.int .u32 (u y1))).setD 2 (.int .u32 (u y2))).setD 3 (.int .u32 (u y3))).setD 4 (.int .u32 (u y4))).setD 5 (.int .u32 (u y5))).setD 6 (.int .u32 (u y6))).setD 7 (.int .u32 (u y7)))
      have HS5 : Hid (Sl ((((((((wd.setCell ⟨w.heap.size, 0, none⟩ (.int .u32 (u y0))).setCell ⟨w.heap.size, 1, none⟩ (.int .u32 (u y1))).setCell ⟨w.heap.size, 2, none⟩ (.int .u32 (u y2))).setCell ⟨w.heap.size, 3, none⟩ (.int .u32 (u y3))).setCell ⟨w.heap.size, 4, none⟩ (.int .u32 (u y4))).setCell ⟨w.heap.size, 5, none⟩ (.int .u32 (u y5))).setCell ⟨w.heap.size, 6, none⟩ (.int .u32 (u y6))).setCell ⟨w.heap.size, 7, none⟩ (.int .u32 (u y7))) (fun g => R + 1 ≤ g) (if c5 = 64 then some ⟨b5, o5, none⟩ else some ⟨b5, o5 + 64, none⟩) (c5 - 64) (all.drop (64 * (k + 1)))) := Lib.hid (by
        have h := Sl.drop (sl_setD (((((((HD4.out.setD 0 (.int .u32 (u y0))).setD 1 (.int .u32 (u y1))).setD 2 (.int .u32 (u y2))).setD 3 (.int .u32 (u y3))).setD 4 (.int .u32 (u y4))).setD 5 (.int .u32 (u y5))).setD 6 (.int .u32 (u y6))) (sl_setD ((((((HD4.out.setD 0 (.int .u32 (u y0))).setD 1 (.int .u32 (u y1))).setD 2 (.int .u32 (u y2))).setD 3 (.int .u32 (u y3))).setD 4 (.int .u32 (u y4))).setD 5 (.int .u32 (u y5))) (sl_setD (((((HD4.out.setD 0 (.int .u32 (u y0))).setD 1 (.int .u32 (u y1))).setD 2 (.int .u32 (u y2))).setD 3 (.int .u32 (u y3))).setD 4 (.int .u32 (u y4))) (sl_setD ((((HD4.out.setD 0 (.int .u32 (u y0))).setD 1 (.int .u32 (u y1))).setD 2 (.int .u32 (u y2))).setD 3 (.int .u32 (u y3))) (sl_setD (((HD4.out.setD 0 (.int .u32 (u y0))).setD 1 (.int .u32 (u y1))).setD 2 (.int .u32 (u y2))) (sl_setD ((HD4.out.setD 0 (.int .u32 (u y0))).setD 1 (.int .u32 (u y1))) (sl_setD (HD4.out.setD 0 (.int .u32 (u y0))) (sl_setD HD4.out hs4 0 (.int .u32 (u y0))) 1 (.int .u32 (u y1))) 2 (.int .u32 (u y2))) 3 (.int .u32 (u y3))) 4 (.int .u32 (u y4))) 5 (.int .u32 (u y5))) 6 (.int .u32 (u y6))) 7 (.int .u32 (u y7))) 64 (by rw [HDL.out]; exact h64)
        rw [List.drop_drop, Option.map_some, addr_add] at h
        exact h)
      have hf := HD4.out.d.fz
      have d0 := HD4.out.d.cell 0 rfl
      have d1 := HD4.out.d.cell 1 rfl
      have d2 := HD4.out.d.cell 2 rfl
      have d3 := HD4.out.d.cell 3 rfl
      have d4 := HD4.out.d.cell 4 rfl
      have d5 := HD4.out.d.cell 5 rfl
      have d6 := HD4.out.d.cell 6 rfl
      have d7 := HD4.out.d.cell 7 rfl
      clear hs4 hb4 HD4 HBH hs5 hd
      go_wp2_with fail
      exact ⟨⟨k + 1, _, _, n5 - 64, rfl, by omega, HS5, by rw [HNX.out]; exact HD5⟩, by show n5 - 64 < n5; omega⟩
    · have h64' : ¬ (64 : Int) ≤ (n5 : Int) := by omega
      have HKE : Hid (all.length / 64 = k ∧ all.length - 64 * k = n5) := Lib.hid ⟨by omega, by omega⟩
      have hln := blks_length HH0.out all k
      obtain ⟨x0, x1, x2, x3, x4, x5, x6, x7, hx8⟩ := list8 hln
      have HX8 := Lib.hid hx8
      rw [hx8] at hd5
      have hd : Hid (DS w wr w.heap.size R [.int .u32 (u x0), .int .u32 (u x1), .int .u32 (u x2), .int .u32 (u x3), .int .u32 (u x4), .int .u32 (u x5), .int .u32 (u x6), .int .u32 (u x7), .slice A tl.length c, .int .i64 (m + b.length)]) := hd5
      have hdl : (all.drop (64 * k)).length = n5 := by rw [List.length_drop]; omega
      have HDL := Lib.hid hdl
      have HCL := Lib.hid (clone_any A5 c5 n5 (all.drop (64 * k)) wr (hs5.out.mono (fun _ _ h => h)) hdl (by omega))
      clear hx8 hln hd5 hdl
      go_wp2_with fail
      refine HCL.out.mono ?_
      rintro e wd ⟨v6, rfl, hown6, hb4⟩
      have hR6 : R < wr.heap.size := hd.out.r.lt
      have HD6 := Lib.hid (hd.out.to hb4)
      have hf := HD6.out.d.fz
      have d0 := HD6.out.d.cell 0 rfl
      have d1 := HD6.out.d.cell 1 rfl
      have d2 := HD6.out.d.cell 2 rfl
      have d3 := HD6.out.d.cell 3 rfl
      have d4 := HD6.out.d.cell 4 rfl
      have d5 := HD6.out.d.cell 5 rfl
      have d6 := HD6.out.d.cell 6 rfl
      have d7 := HD6.out.d.cell 7 rfl
      have d8 := HD6.out.d.cell 8 rfl
      have d9 := HD6.out.d.cell 9 rfl
      have r0 := HD6.out.r.cell 0 rfl
      have r1 := HD6.out.r.cell 1 rfl
      have r2 := HD6.out.r.cell 2 rfl
      have r3 := HD6.out.r.cell 3 rfl
      have r4 := HD6.out.r.cell 4 rfl
      have r5 := HD6.out.r.cell 5 rfl
      have r6 := HD6.out.r.cell 6 rfl
      have r7 := HD6.out.r.cell 7 rfl
      have r8 := HD6.out.r.cell 8 rfl
      have r9 := HD6.out.r.cell 9 rfl
      have hfr := HD6.out.r.fz
      have hne : R ≠ w.heap.size := by have := HD6.out.eR; omega
      have hne2 : w.heap.size ≠ R := fun h => hne h.symm
      obtain ⟨A6, c6, rfl, hs6⟩ := own_slB hown6
      have HS6 := Lib.hid hs6
      clear hb4 hd hs5 hs6 hown6 HCL
      go_wp2_with fail
      have hle : w.heap.size ≤ R := by omega
      have hx1 : ∀ g, wr.heap.size ≤ g → g ≠ w.heap.size := fun g hg => by omega
      have hx2 : ∀ g, wr.heap.size ≤ g → g ≠ R := fun g hg => by omega
      have hRR : Hid (ABox (((((((((((wd.setCell ⟨w.heap.size, 8, none⟩ (.slice A6 (all.length - 64 * k) c6)).setCell ⟨R, 0, none⟩ (.int .u32 (u x0))).setCell ⟨R, 1, none⟩ (.int .u32 (u x1))).setCell ⟨R, 2, none⟩ (.int .u32 (u x2))).setCell ⟨R, 3, none⟩ (.int .u32 (u x3))).setCell ⟨R, 4, none⟩ (.int .u32 (u x4))).setCell ⟨R, 5, none⟩ (.int .u32 (u x5))).setCell ⟨R, 6, none⟩ (.int .u32 (u x6))).setCell ⟨R, 7, none⟩ (.int .u32 (u x7))).setCell ⟨R, 8, none⟩ (.slice A6 (all.length - 64 * k) c6)).setCell ⟨R, 9, none⟩ (.int .i64 (m + b.length))) R 98 [.int .u32 (u x0), .int .u32 (u x1), .int .u32 (u x2), .int .u32 (u x3), .int .u32 (u x4), .int .u32 (u x5), .int .u32 (u x6), .int .u32 (u x7), .slice A6 (all.length - 64 * k) c6, .int .i64 (m + b.length)]) := Lib.hid (((((((((((HD6.out.setD 8 (.slice A6 (all.length - 64 * k) c6)).r.set 0 (.int .u32 (u x0))).set 1 (.int .u32 (u x1))).set 2 (.int .u32 (u x2))).set 3 (.int .u32 (u x3))).set 4 (.int .u32 (u x4))).set 5 (.int .u32 (u x5))).set 6 (.int .u32 (u x6))).set 7 (.int .u32 (u x7))).set 8 (.slice A6 (all.length - 64 * k) c6)).set 9 (.int .i64 (m + b.length)))
      have hBB : Hid (Below w.heap.size w (((((((((((wd.setCell ⟨w.heap.size, 8, none⟩ (.slice A6 (all.length - 64 * k) c6)).setCell ⟨R, 0, none⟩ (.int .u32 (u x0))).setCell ⟨R, 1, none⟩ (.int .u32 (u x1))).setCell ⟨R, 2, none⟩ (.int .u32 (u x2))).setCell ⟨R, 3, none⟩ (.int .u32 (u x3))).setCell ⟨R, 4, none⟩ (.int .u32 (u x4))).setCell ⟨R, 5, none⟩ (.int .u32 (u x5))).setCell ⟨R, 6, none⟩ (.int .u32 (u x6))).setCell ⟨R, 7, none⟩ (.int .u32 (u x7))).setCell ⟨R, 8, none⟩ (.slice A6 (all.length - 64 * k) c6)).setCell ⟨R, 9, none⟩ (.int .i64 (m + b.length)))) := Lib.hid (((((((((((HD6.out.setD 8 (.slice A6 (all.length - 64 * k) c6)).b.setCell (p := ⟨R, 0, none⟩) hle (.int .u32 (u x0))).setCell (p := ⟨R, 1, none⟩) hle (.int .u32 (u x1))).setCell (p := ⟨R, 2, none⟩) hle (.int .u32 (u x2))).setCell (p := ⟨R, 3, none⟩) hle (.int .u32 (u x3))).setCell (p := ⟨R, 4, none⟩) hle (.int .u32 (u x4))).setCell (p := ⟨R, 5, none⟩) hle (.int .u32 (u x5))).setCell (p := ⟨R, 6, none⟩) hle (.int .u32 (u x6))).setCell (p := ⟨R, 7, none⟩) hle (.int .u32 (u x7))).setCell (p := ⟨R, 8, none⟩) hle (.slice A6 (all.length - 64 * k) c6)).setCell (p := ⟨R, 9, none⟩) hle (.int .i64 (m + b.length)))
      have hSS : Hid (Sl (((((((((((wd.setCell ⟨w.heap.size, 8, none⟩ (.slice A6 (all.length - 64 * k) c6)).setCell ⟨R, 0, none⟩ (.int .u32 (u x0))).setCell ⟨R, 1, none⟩ (.int .u32 (u x1))).setCell ⟨R, 2, none⟩ (.int .u32 (u x2))).setCell ⟨R, 3, none⟩ (.int .u32 (u x3))).setCell ⟨R, 4, none⟩ (.int .u32 (u x4))).setCell ⟨R, 5, none⟩ (.int .u32 (u x5))).setCell ⟨R, 6, none⟩ (.int .u32 (u x6))).setCell ⟨R, 7, none⟩ (.int .u32 (u x7))).setCell ⟨R, 8, none⟩ (.slice A6 (all.length - 64 * k) c6)).setCell ⟨R, 9, none⟩ (.int .i64 (m + b.length))) (fun g => wr.heap.size ≤ g) A6 c6 (all.drop (64 * k))) := Lib.hid (sl_setX (sl_setX (sl_setX (sl_setX (sl_setX (sl_setX (sl_setX (sl_setX (sl_setX (sl_setX (sl_setX HS6.out hx1 8 (.slice A6 (all.length - 64 * k) c6)) hx2 0 (.int .u32 (u x0))) hx2 1 (.int .u32 (u x1))) hx2 2 (.int .u32 (u x2))) hx2 3 (.int .u32 (u x3))) hx2 4 (.int .u32 (u x4))) hx2 5 (.int .u32 (u x5))) hx2 6 (.int .u32 (u x6))) hx2 7 (.int .u32 (u x7))) hx2 8 (.slice A6 (all.length - 64 * k) c6)) hx2 9 (.int .i64 (m + b.length)))
      generalize (((((((((((wd.setCell ⟨w.heap.size, 8, none⟩ (.slice A6 (all.length - 64 * k) c6)).setCell ⟨R, 0, none⟩ (.int .u32 (u x0))).setCell ⟨R, 1, none⟩ (.int .u32 (u x1))).setCell ⟨R, 2, none⟩ (.int .u32 (u x2))).setCell ⟨R, 3, none⟩ (.int .u32 (u x3))).setCell ⟨R, 4, none⟩ (.int .u32 (u x4))).setCell ⟨R, 5, none⟩ (.int .u32 (u x5))).setCell ⟨R, 6, none⟩ (.int .u32 (u x6))).setCell ⟨R, 7, none⟩ (.int .u32 (u x7))).setCell ⟨R, 8, none⟩ (.slice A6 (all.length - 64 * k) c6)).setCell ⟨R, 9, none⟩ (.int .i64 (m + b.length))) = wz at *
      refine bodyPost_ret (v := .agg #[.int .u32 (u x0), .int .u32 (u x1), .int .u32 (u x2), .int .u32 (u x3), .int .u32 (u x4), .int .u32 (u x5), .int .u32 (u x6), .int .u32 (u x7), .slice A6 (all.length - 64 * k) c6, .int .i64 (m + b.length)]) (results_cell_row Tryd.results65 _ _ R _ _ (0, 0) _ rfl hRR.out Tryd.underlying98 rfl (by kernel_rfl)) rfl ⟨A6, c6, ?_, ?_, hBB.out⟩
      · rw [HHV.out, HAE.out, HKE.out.1, HX8.out, List.length_drop]; rfl
      · rw [HAE.out, HKE.out.1]; exact hSS.out.mono (fun _ _ h => h)
end Go.Proofs.YthcklfelofpffaaDoor
