/- One block of SHA-256: the walk. -/
import Derived.Test.YthcklfelofpffaaDoorCerW1
import Derived.Deep.CutRange
import Derived.Test.YthcklfelofpffaaDoorRegT
namespace Go.Proofs.YthcklfelofpffaaDoor
open Go.RowKit
def enc32 (x : W32) : Value := .int .u32 (u x)
instance : Rep UInt8 where
  size := 1
  R _ _ cs c := cs = [.int .u8 (c.toNat : Int)]
  len h := by subst h; rfl
  one h := by subst h; intro u hu; simp at hu; subst hu; rfl
  keep h _ := h
  mono h _ := h
/-- A block of words. -/
def WBox (w : World) (P : Nat) (t : TypeId) (ws : List W32) : Prop := w.heap[P]? = some (.cells (ws.map enc32).toArray t (0, 0))
theorem heap_set (w : World) (Y o : Nat) (u : Value) {i : Nat} (h : i ≠ Y) : (w.setCell ⟨Y, o, none⟩ u).heap[i]? = w.heap[i]? := by
  simp only [World.setCell, Array.getElem?_modify]
  rw [if_neg (fun e => h e.symm)]
theorem heap_set_at (w : World) (Y o : Nat) (u : Value) {cs : Array Value} {t : TypeId} {fr : Nat × Nat} (h : w.heap[Y]? = some (.cells cs t fr)) : (w.setCell ⟨Y, o, none⟩ u).heap[Y]? = some (.cells (cs.setIfInBounds o u) t fr) := by
  simp only [World.setCell, Array.getElem?_modify, if_true, h, Option.map_some, Option.isSome_none, Bool.false_eq_true, if_false]
section
variable {w w' : World} {P : Nat} {t : TypeId} {ws : List W32}
theorem WBox.lt (h : WBox w P t ws) : P < w.heap.size := (Array.getElem?_eq_some_iff.1 h).1
theorem WBox.to (h : WBox w P t ws) (hb : Below w.heap.size w w') : WBox w' P t ws := (hb.block P h.lt).trans h
theorem WBox.cell (h : WBox w P t ws) (i : Nat) (hi : i < ws.length) : w.cell? ⟨P, i, none⟩ = some (.int .u32 (u (ws.getD i 0))) := by
  rw [cell_of_row w P i _ _ _ h]
  simp [List.getD_eq_getElem?_getD, hi, enc32]
theorem WBox.cells8 {a b c d e f g i : W32} (h : WBox w P t [a, b, c, d, e, f, g, i]) : w.cell? ⟨P, 0, none⟩ = some (.int .u32 (u a)) ∧ w.cell? ⟨P, 1, none⟩ = some (.int .u32 (u b)) ∧ w.cell? ⟨P, 2, none⟩ = some (.int .u32 (u c)) ∧ w.cell? ⟨P, 3, none⟩ = some (.int .u32 (u d)) ∧ w.cell? ⟨P, 4, none⟩ = some (.int .u32 (u e)) ∧ w.cell? ⟨P, 5, none⟩ = some (.int .u32 (u f)) ∧ w.cell? ⟨P, 6, none⟩ = some (.int .u32 (u g)) ∧ w.cell? ⟨P, 7, none⟩ = some (.int .u32 (u i)) :=
  ⟨h.cell 0 (by simp), h.cell 1 (by simp), h.cell 2 (by simp), h.cell 3 (by simp), h.cell 4 (by simp), h.cell 5 (by simp), h.cell 6 (by simp), h.cell 7 (by simp)⟩
theorem WBox.fz (h : WBox w P t ws) (o : Nat) : w.frozen? ⟨P, o, none⟩ = false := by
  unfold WBox at h; simp [World.frozen?, h]
theorem WBox.set (h : WBox w P t ws) (i : Nat) (x : W32) : WBox (w.setCell ⟨P, i, none⟩ (.int .u32 (u x))) P t (ws.set i x) := by
  have := heap_set_at w P i (.int .u32 (u x)) h
  unfold WBox
  rw [this]
  simp [List.map_set, enc32]
end
def fill64 (l : List W32) : List W32 := l ++ List.replicate (64 - l.length) 0
theorem fill64_length {l : List W32} (h : l.length ≤ 64) : (fill64 l).length = 64 := by
  unfold fill64; rw [List.length_append, List.length_replicate]; omega
theorem fill64_set {l : List W32} (h : l.length < 64) (x : W32) : (fill64 l).set l.length x = fill64 (l ++ [x]) := by
  unfold fill64
  obtain ⟨n, hn⟩ : ∃ n, 64 - l.length = n + 1 := ⟨63 - l.length, by omega⟩
  have h2 : 64 - (l ++ [x]).length = n := by rw [List.length_append, List.length_singleton]; omega
  rw [hn, h2, List.replicate_succ, List.set_append_right _ _ (Nat.le_refl _), Nat.sub_self, List.set_cons_zero, List.append_assoc]; rfl
theorem fill64_lt {l : List W32} {i : Nat} (h : i < l.length) : (fill64 l).getD i 0 = l.getD i 0 := by
  unfold fill64; exact getD_append_lt _ _ _ _ h
theorem fill64_ge {l : List W32} {i : Nat} (h : l.length ≤ i) : (fill64 l).getD i 0 = 0 := by
  unfold fill64
  rw [List.getD_eq_getElem?_getD, List.getElem?_append_right h]
  by_cases h2 : i - l.length < 64 - l.length
  · rw [List.getElem?_replicate, if_pos h2]; rfl
  · rw [List.getElem?_replicate, if_neg h2]; rfl
theorem byte_at {w : World} {S : Nat → Prop} {bA oA c : Nat} {l : List UInt8} (h : Sl w S (some ⟨bA, oA, none⟩) c l) (i : Nat) (hi : i < l.length) : w.cell? ⟨bA, oA + i, none⟩ = some (.int .u8 ((l.getD i 0).toNat : Int)) := by
  obtain ⟨b, o, e, _, _, hx⟩ := h.2.2 (by omega)
  cases e
  obtain ⟨es, he, hc⟩ := hx i hi
  have he' : es = [.int .u8 (l[i].toNat : Int)] := he
  subst he'
  have := hc 0 _ rfl
  rw [show Rep.size UInt8 = 1 from rfl, Nat.mul_one, Nat.add_zero] at this
  rw [this, List.getD_eq_getElem?_getD, List.getElem?_eq_getElem hi]; rfl
theorem getD_set_self {α : Type} (l : List α) (i : Nat) (x d : α) (h : i < l.length) : (l.set i x).getD i d = x := by
  rw [List.getD_eq_getElem?_getD, List.getElem?_set, if_pos rfl, if_pos h]; rfl
theorem getD_set_ne {α : Type} (l : List α) (i j : Nat) (x d : α) (h : i ≠ j) : (l.set i x).getD j d = l.getD j d := by
  rw [List.getD_eq_getElem?_getD, List.getElem?_set, if_neg h, List.getD_eq_getElem?_getD]
/-- What the walk through a block holds: the chaining values, the result, the words. -/
structure BS (w wr : World) (P R O : Nat) (hv ws : List W32) : Prop where
  eP : P = w.heap.size
  eR : R = w.heap.size + 1
  eO : O = w.heap.size + 2
  h : WBox wr P 96 hv
  r : WBox wr R 96 [0, 0, 0, 0, 0, 0, 0, 0]
  o : WBox wr O 139 ws
  b : Below w.heap.size w wr
theorem BS.to {w wr w' : World} {P R O : Nat} {hv ws : List W32} (h : BS w wr P R O hv ws) (hb : Below wr.heap.size wr w') : BS w w' P R O hv ws :=
  ⟨h.eP, h.eR, h.eO, h.h.to hb, h.r.to hb, h.o.to hb, h.b.trans (hb.mono h.b.size)⟩
theorem BS.setO {w wr : World} {P R O : Nat} {hv ws : List W32} (h : BS w wr P R O hv ws) (i : Nat) (x : W32) : BS w (wr.setCell ⟨O, i, none⟩ (.int .u32 (u x))) P R O hv (ws.set i x) := by
  have h1 := h.eP; have h2 := h.eR; have h3 := h.eO
  exact ⟨h1, h2, h3, (heap_set _ _ _ _ (by omega)).trans h.h, (heap_set _ _ _ _ (by omega)).trans h.r, h.o.set i x, h.b.setCell (p := ⟨O, i, none⟩) (by show w.heap.size ≤ O; omega) _⟩
theorem BS.setV {w wr : World} {P R O V : Nat} {hv ws : List W32} (h : BS w wr P R O hv ws) (hV : O < V) (i : Nat) (x : Value) : BS w (wr.setCell ⟨V, i, none⟩ x) P R O hv ws := by
  have h1 := h.eP; have h2 := h.eR; have h3 := h.eO
  exact ⟨h1, h2, h3, (heap_set _ _ _ _ (by omega)).trans h.h, (heap_set _ _ _ _ (by omega)).trans h.r, (heap_set _ _ _ _ (by omega)).trans h.o, h.b.setCell (p := ⟨V, i, none⟩) (by show w.heap.size ≤ V; omega) _⟩
theorem BS.setH {w wr : World} {P R O : Nat} {hv ws : List W32} (h : BS w wr P R O hv ws) (i : Nat) (x : W32) : BS w (wr.setCell ⟨P, i, none⟩ (.int .u32 (u x))) P R O (hv.set i x) ws := by
  have h1 := h.eP; have h2 := h.eR; have h3 := h.eO
  exact ⟨h1, h2, h3, h.h.set i x, (heap_set _ _ _ _ (by omega)).trans h.r, (heap_set _ _ _ _ (by omega)).trans h.o, h.b.setCell (p := ⟨P, i, none⟩) (by show w.heap.size ≤ P; omega) _⟩
/-- The sums so far. -/
def addTo (hv vs : List W32) : Nat → List W32
  | 0 => hv
  | k + 1 => (addTo hv vs k).set k (hv.getD k 0 + vs.getD k 0)
theorem addTo_length (hv vs : List W32) : ∀ k, (addTo hv vs k).length = hv.length
  | 0 => rfl
  | k + 1 => by rw [addTo, List.length_set, addTo_length hv vs k]
theorem addTo_ge (hv vs : List W32) (i : Nat) : ∀ k, k ≤ i → (addTo hv vs k).getD i 0 = hv.getD i 0
  | 0, _ => rfl
  | k + 1, h => by rw [addTo, getD_set_ne _ _ _ _ _ (by omega), addTo_ge hv vs i k (by omega)]
theorem addTo_8 {hv vs : List W32} (h : hv.length = 8) (h2 : vs.length = 8) : addTo hv vs 8 = List.zipWith (· + ·) hv vs := by
  match hv, h, vs, h2 with
  | [_, _, _, _, _, _, _, _], _, [_, _, _, _, _, _, _, _], _ => rfl
def part (b : List UInt8) (k : Nat) : Nat → W32
  | 0 => 0
  | j + 1 => put8 (part b k j) (b.getD (4 * k + j) 0)
theorem part4 (b : List UInt8) (k : Nat) : part b k 4 = word16 b k := rfl
theorem run_index64 (cs : Array Value) (k : Nat) (v : Value) (h : cs[k]? = some v) (hk : k < 64) (w : World) : (Instr.index 139 (.agg cs) (.int .i64 (k : Int))).run Tryd.prog w = .ok v w := by
  have h0 : (0 : Int) ≤ (k : Int) := by omega
  have hu := Tryd.underlying139
  have hu2 := Tryd.underlying95
  have hz : Tryd.t95.size = 1 := rfl
  have e : k * Tryd.t95.size = k := by rw [hz, Nat.mul_one]
  simp [Instr.index, run_underlying hu, asIntOf, go_sem, h0, hk, isAgg, run_underlying hu2, sizeOf, e, h]
set_option maxRecDepth 100000 in
set_option maxHeartbeats 4000000 in
theorem block_any (h0 h1 h2 h3 h4 h5 h6 h7 : W32) (b : List UInt8) (A : Option Addr) (c : Nat) (w : World) (hs : Sl w (fun b => b < w.heap.size) A c b) (h64 : 64 ≤ b.length) (hK : KLaid w) :
    Calls Tryd.prog 89 #[.agg #[enc32 h0, enc32 h1, enc32 h2, enc32 h3, enc32 h4, enc32 h5, enc32 h6, enc32 h7], .slice A b.length c] w fun e w' => e = .returned (.agg ((blk [h0, h1, h2, h3, h4, h5, h6, h7] b).map enc32).toArray) ∧ Below w.heap.size w w' := by
  unfold enc32
  have HS := Lib.hid hs
  have HK := Lib.hid hK
  clear hs hK
  have hq := h64
  obtain ⟨bA, oA, rfl, hbA, hbA2, hxA⟩ := HS.out.2.2 (by omega)
  have HS' : Hid (∀ wr, Below w.heap.size w wr → ∀ i, i < b.length → wr.cell? ⟨bA, oA + i, none⟩ = some (.int .u8 ((b.getD i 0).toNat : Int))) := Lib.hid (fun wr hb i hi => byte_at (HS.out.to hb) i hi)
  have hcap : b.length ≤ c := HS.out.1
  clear HS hbA hbA2 hq hxA
  go_enter Tryd.func89, Tryd.ntmps89
  go_wp2_with fail
  generalize hw1 : (World.alloc (World.alloc (World.alloc w _) _) _) = w1
  generalize hP : w.heap.size = P
  have HST : Hid (BS w w1 P (P + 1) (P + 2) [h0, h1, h2, h3, h4, h5, h6, h7] (fill64 (sched b 0))) := by
    subst hw1 hP
    exact Lib.hid ⟨rfl, rfl, rfl, (Below.heap_alloc _ _ _ (by first | (simp; done) | (simp; omega))).trans ((Below.heap_alloc _ _ _ (by simp)).trans (heap_at rfl)), (Below.heap_alloc _ _ _ (by first | (simp; done) | (simp; omega))).trans (heap_at (by simp)), heap_at (by simp), (((Below.refl _ _).alloc (Nat.le_refl _) _).alloc (by simp) _).alloc (by first | (simp; done) | (simp; omega)) _⟩
  have HP := Lib.hid hP
  clear hw1 hP
  have eO : P + 1 + 1 = P + 2 := by omega
  rw [eO]
  clear eO
  generalize P + 1 = R at *
  generalize P + 2 = O at *
  go_loopw [6, 8, 20] (fun _ _ i wr => ∃ k : Nat, k ≤ 16 ∧ i = .int .i64 k ∧ Hid (BS w wr P R O [h0, h1, h2, h3, h4, h5, h6, h7] (fill64 (sched b k))))
    (fun _ _ i _ => 16 - (intOf i).toNat)
  case atStart => exact ⟨0, by omega, rfl, HST⟩
  case round =>
    obtain ⟨k, hk, rfl, hst⟩ := hrel
    by_cases hlt : k < 16
    · have hlt2 : (k : Int) < 16 := by omega
      have hk0 : (0 : Int) ≤ (k : Int) := by omega
      have hm4 : IntKind.i64.wrap (4 * (k : Int)) = ((4 * k : Nat) : Int) := by rw [IntWalk.i64_in _ (by omega)]; omega
      have hm5 : IntKind.i64.wrap (((4 * k : Nat) : Int) + 4) = ((4 * k + 4 : Nat) : Int) := by rw [IntWalk.i64_in _ (by omega)]; omega
      have hle : 4 * k + 4 ≤ c := by omega
      have hle2 : 4 * k ≤ 4 * k + 4 := by omega
      have hln : 4 * k + 4 - 4 * k = 4 := by omega
      go_wp2_with fail
      obtain ⟨wo, rfl⟩ : ∃ wo : World, wo = wr := ⟨_, rfl⟩
      go_loopw [8, 31] (fun _ i wr => ∃ j : Nat, j ≤ 4 ∧ i = .int .i64 j ∧ Hid (BS w wr P R O [h0, h1, h2, h3, h4, h5, h6, h7] ((fill64 (sched b k)).set k (part b k j))))
        (fun _ i _ => 4 - (intOf i).toNat)
      case atStart =>
        refine ⟨0, by omega, rfl, ?_⟩
        have e : (fill64 (sched b k)).set k (part b k 0) = fill64 (sched b k) := by
          apply List.ext_getElem?
          intro i
          rw [List.getElem?_set]
          by_cases hi : k = i
          · subst hi
            have h1 := fill64_length (l := sched b k) (by rw [sched_length]; omega)
            have h2 := fill64_ge (l := sched b k) (i := k) (by rw [sched_length]; omega)
            rw [if_pos rfl, if_pos (by omega), List.getElem?_eq_getElem (by omega)]
            rw [List.getD_eq_getElem?_getD, List.getElem?_eq_getElem (by omega)] at h2
            rw [Option.getD_some] at h2
            rw [h2]; rfl
          · rw [if_neg hi]
        rw [e]; exact hst
      case round =>
        obtain ⟨j, hj, rfl, hst2⟩ := hrel
        have hlen : k < ((fill64 (sched b k)).set k (part b k j)).length := by rw [List.length_set, fill64_length (by rw [sched_length]; omega)]; omega
        by_cases hjl : j < 4
        · have hj2 : (j : Int) < 4 := by omega
          have hj0 : (0 : Int) ≤ (j : Int) := by omega
          have hc1 := HS'.out wr hst2.out.b (4 * k + j) (by omega)
          rw [← Nat.add_assoc] at hc1
          have hc2 := hst2.out.o.cell k hlen
          rw [getD_set_self _ _ _ _ (by rw [List.length_set] at hlen; exact hlen)] at hc2
          have hf := hst2.out.o.fz
          have HQ : Hid (BS w (wr.setCell ⟨O, k, none⟩ (.int .u32 (u (part b k (j + 1))))) P R O [h0, h1, h2, h3, h4, h5, h6, h7] ((fill64 (sched b k)).set k (part b k (j + 1)))) := Lib.hid (by have := hst2.out.setO k (part b k (j + 1)); rwa [List.set_set] at this)
          have q1 := u_shl8 (part b k j)
          have q2 := u_put8 (part b k j) (b.getD (4 * k + j) 0)
          have q3 := wrap_byte (b.getD (4 * k + j) 0)
          rw [show put8 (part b k j) (b.getD (4 * k + j) 0) = part b k (j + 1) from rfl] at q2
          generalize hy : part b k (j + 1) = y at *
          have HYE := Lib.hid hy
          clear hy
          generalize u ((part b k j) <<< 8) = z at *
          generalize b.getD (4 * k + j) 0 = cc at *
          generalize u (part b k j) = x at *
          have q4 : IntKind.i64.wrap ((j : Int) + 1) = ((j + 1 : Nat) : Int) := by rw [IntWalk.i64_in _ (by omega)]; omega
          clear hlen hst2
          go_wp2_with fail
          refine ⟨⟨j + 1, by omega, by simp, by rw [HYE.out]; exact HQ⟩, by simp [intOf]; omega⟩
        · obtain rfl : j = 4 := by omega
          have HQ : Hid (BS w wr P R O [h0, h1, h2, h3, h4, h5, h6, h7] (fill64 (sched b (k + 1)))) := Lib.hid (by
            have h1 := hst2.out
            have h2 := fill64_set (l := sched b k) (by rw [sched_length]; omega) (part b k 4)
            rw [sched_length] at h2
            rw [h2] at h1
            rw [sched, if_pos hlt, ← part4]; exact h1)
          clear hst2 hlen
          go_wp2_with fail
          refine ⟨⟨k + 1, by omega, by simp, HQ⟩, by simp [intOf]; omega⟩
    · obtain rfl : k = 16 := by omega
      have HS16 := Lib.hid hst.out
      clear hst
      go_wp2_with fail
      go_loopw [9, 10, 11] (fun i _ _ wr => ∃ k : Nat, 16 ≤ k ∧ k ≤ 64 ∧ i = .int .i64 k ∧ Hid (BS w wr P R O [h0, h1, h2, h3, h4, h5, h6, h7] (fill64 (sched b k))))
        (fun i _ _ _ => 64 - (intOf i).toNat)
      case atStart => exact ⟨16, by omega, by omega, rfl, HS16⟩
      case round =>
        obtain ⟨k, hk1, hk2, rfl, hst⟩ := hrel
        by_cases hlt : k < 64
        · have hlt2 : (k : Int) < 64 := by omega
          have hk0 : (0 : Int) ≤ (k : Int) := by omega
          have hlen := Lib.hid (fill64_length (l := sched b k) (by rw [sched_length]; omega))
          have hsl := sched_length b k
          have HC : Hid (∀ w', BS w w' P R O [h0, h1, h2, h3, h4, h5, h6, h7] (fill64 (sched b k)) → w'.cell? ⟨O, k - 15, none⟩ = some (.int .u32 (u ((sched b k).getD (k - 15) 0))) ∧ w'.cell? ⟨O, k - 2, none⟩ = some (.int .u32 (u ((sched b k).getD (k - 2) 0))) ∧ w'.cell? ⟨O, k - 16, none⟩ = some (.int .u32 (u ((sched b k).getD (k - 16) 0))) ∧ w'.cell? ⟨O, k, none⟩ = some (.int .u32 (u 0))) := Lib.hid (fun w' h =>
            ⟨by rw [← fill64_lt (by omega)]; exact h.o.cell _ (by rw [hlen.out]; omega), by rw [← fill64_lt (by omega)]; exact h.o.cell _ (by rw [hlen.out]; omega), by rw [← fill64_lt (by omega)]; exact h.o.cell _ (by rw [hlen.out]; omega), by rw [← fill64_ge (l := sched b k) (i := k) (by omega)]; exact h.o.cell _ (by rw [hlen.out]; omega)⟩)
          have HD : Hid (∀ w' y, BS w w' P R O [h0, h1, h2, h3, h4, h5, h6, h7] ((fill64 (sched b k)).set k y) → w'.cell? ⟨O, k, none⟩ = some (.int .u32 (u y)) ∧ w'.cell? ⟨O, k - 7, none⟩ = some (.int .u32 (u ((sched b k).getD (k - 7) 0)))) := Lib.hid (fun w' y h => by
            have c1 := h.o.cell k (by rw [List.length_set, hlen.out]; omega)
            have c2 := h.o.cell (k - 7) (by rw [List.length_set, hlen.out]; omega)
            rw [getD_set_self _ _ _ _ (by rw [hlen.out]; omega)] at c1
            rw [getD_set_ne _ _ _ _ _ (by omega), fill64_lt (by omega)] at c2
            exact ⟨c1, c2⟩)
          have HE : Hid (∀ w' y, nextW (sched b k) k = y → BS w w' P R O [h0, h1, h2, h3, h4, h5, h6, h7] ((fill64 (sched b k)).set k y) → BS w w' P R O [h0, h1, h2, h3, h4, h5, h6, h7] (fill64 (sched b (k + 1)))) := Lib.hid (fun w' y hy h => by
            have h2 := fill64_set (l := sched b k) (by omega) y
            rw [hsl] at h2
            rw [h2] at h
            rw [sched, if_neg (by omega), hy]; exact h)
          clear hsl
          have hi15 : (k : Int) - 15 = ((k - 15 : Nat) : Int) := by omega
          have hi2 : (k : Int) - 2 = ((k - 2 : Nat) : Int) := by omega
          have hw15 : IntKind.i64.wrap ((k : Int) - 15) = ((k - 15 : Nat) : Int) := by rw [IntWalk.i64_in _ (by omega)]; omega
          have hw2 : IntKind.i64.wrap ((k : Int) - 2) = ((k - 2 : Nat) : Int) := by rw [IntWalk.i64_in _ (by omega)]; omega
          have hl15 : ((k - 15 : Nat) : Int) < 64 := by omega
          have hl2 : ((k - 2 : Nat) : Int) < 64 := by omega
          have hi16 : (k : Int) - 16 = ((k - 16 : Nat) : Int) := by omega
          have hi7 : (k : Int) - 7 = ((k - 7 : Nat) : Int) := by omega
          have hw16 : IntKind.i64.wrap ((k : Int) - 16) = ((k - 16 : Nat) : Int) := by rw [IntWalk.i64_in _ (by omega)]; omega
          have hw7 : IntKind.i64.wrap ((k : Int) - 7) = ((k - 7 : Nat) : Int) := by rw [IntWalk.i64_in _ (by omega)]; omega
          have hl16 : ((k - 16 : Nat) : Int) < 64 := by omega
          have hl7 : ((k - 7 : Nat) : Int) < 64 := by omega
          have hw1 : IntKind.i64.wrap ((k : Int) + 1) = ((k + 1 : Nat) : Int) := by rw [IntWalk.i64_in _ (by omega)]; omega
          have HX : Hid (nextW (sched b k) k = (sched b k).getD (k - 16) 0 + sg0 ((sched b k).getD (k - 15) 0) + ((sched b k).getD (k - 7) 0 + sg1 ((sched b k).getD (k - 2) 0))) := Lib.hid rfl
          generalize (sched b k).getD (k - 15) 0 = x15 at *
          generalize (sched b k).getD (k - 2) 0 = x2 at *
          generalize (sched b k).getD (k - 16) 0 = x16 at *
          generalize (sched b k).getD (k - 7) 0 = x7 at *
          generalize k - 15 = k15 at *
          generalize k - 2 = k2 at *
          generalize k - 16 = k16 at *
          generalize k - 7 = k7 at *
          obtain ⟨hc15, hc2, _⟩ := HC.out wr hst.out
          go_wp2_with fail
          go_quiet (fail)
          have HST2 := Lib.hid (hst.out.to (Below.dn (Below.refl wr.heap.size wr) nq))
          generalize wr.drewN nq = wd at *
          clear hc15 hc2 hst
          have R7 := Lib.hid (fun W => rotl_any x15 7 (-7) rfl (by omega) (by omega) W)
          have R18 := Lib.hid (fun W => rotl_any x15 18 (-18) rfl (by omega) (by omega) W)
          have R17 := Lib.hid (fun W => rotl_any x2 17 (-17) rfl (by omega) (by omega) W)
          have R19 := Lib.hid (fun W => rotl_any x2 19 (-19) rfl (by omega) (by omega) W)
          unfold Exit.then
          go_wp2_with fail
          refine wp_region_tail rfl (by kernel_rfl) (by kernel_rfl) ?_
          intro T5 hT5 f hf hg
          have a0 : ∀ d, (f d).cell? ⟨O, k16, none⟩ = some (.int .u32 (u x16)) := fun d => (HC.out _ (HST2.out.to (hf d))).2.2.1
          have a3 : ∀ d, (f d).cell? ⟨O, k, none⟩ = some (.int .u32 (u 0)) := fun d => (HC.out _ (HST2.out.to (hf d))).2.2.2
          have a1 : ∀ d o, (f d).frozen? ⟨O, o, none⟩ = false := fun d => (HST2.out.to (hf d)).o.fz
          have HF5 := Lib.hid hf
          clear hf hg
          dsimp only [List.dropLast]
          have q1 := u_xor (rotr x15 7) (rotr x15 18)
          have q2 := u_shr3 x15
          have q3 := u_xor (rotr x15 7 ^^^ rotr x15 18) (x15 >>> 3)
          rw [show rotr x15 7 ^^^ rotr x15 18 ^^^ x15 >>> 3 = sg0 x15 from rfl] at q3
          have q4 := u_addm x16 (sg0 x15)
          generalize x16 + sg0 x15 = y1 at *
          generalize sg0 x15 = y2 at *
          generalize (rotr x15 7 ^^^ rotr x15 18) = y3 at *
          generalize x15 >>> 3 = y4 at *
          repeat (go_big_quiet_step (first
            | (go_at_call 100; with_reducible refine Calls.mono (R7.out _) ?_; rintro e w6 ⟨rfl, rfl⟩; exact ⟨rfl, _, rfl⟩)
            | (go_at_call 100; with_reducible refine Calls.mono (R18.out _) ?_; rintro e w6 ⟨rfl, rfl⟩; exact ⟨rfl, _, rfl⟩)))
          refine wpQuiet_nil ?_
          rintro _ ⟨nq, rfl⟩
          refine ⟨rfl, ?_⟩
          have HST3 := Lib.hid ((HST2.out.to (HF5.out nq)).setO k y1)
          have a2 := a1 nq
          have a4 := a3 nq
          clear HF5 a0 a1 a3 HST2 R7 R18
          generalize f nq = wd2 at *
          go_simp
          clear q1 q2 q3 q4 a2 a4
          generalize wd2.setCell ⟨O, k, none⟩ (.int .u32 (u y1)) = wd3 at *
          go_wp2_with fail
          refine wp_region_tail rfl (by kernel_rfl) (by kernel_rfl) ?_
          intro T6 hT6 f hf hg
          have a0 : ∀ d, (f d).cell? ⟨O, k, none⟩ = some (.int .u32 (u y1)) := fun d => (HD.out _ _ (HST3.out.to (hf d))).1
          have a1 : ∀ d o, (f d).frozen? ⟨O, o, none⟩ = false := fun d => (HST3.out.to (hf d)).o.fz
          have a3 : ∀ d, (f d).cell? ⟨O, k7, none⟩ = some (.int .u32 (u x7)) := fun d => (HD.out _ _ (HST3.out.to (hf d))).2
          have HF5 := Lib.hid hf
          clear hf hg
          dsimp only [List.dropLast]
          have q1 := u_xor (rotr x2 17) (rotr x2 19)
          have q2 := u_shr10 x2
          have q3 := u_xor (rotr x2 17 ^^^ rotr x2 19) (x2 >>> 10)
          rw [show rotr x2 17 ^^^ rotr x2 19 ^^^ x2 >>> 10 = sg1 x2 from rfl] at q3
          have q4 := u_addm x7 (sg1 x2)
          have q5 := u_addm y1 (x7 + sg1 x2)
          generalize hz1 : y1 + (x7 + sg1 x2) = z1 at *
          generalize x7 + sg1 x2 = z5 at *
          generalize sg1 x2 = z2 at *
          generalize (rotr x2 17 ^^^ rotr x2 19) = z3 at *
          generalize x2 >>> 10 = z4 at *
          clear hz1
          repeat (go_big_quiet_step (first
            | (go_at_call 100; with_reducible refine Calls.mono (R17.out _) ?_; rintro e w6 ⟨rfl, rfl⟩; exact ⟨rfl, _, rfl⟩)
            | (go_at_call 100; with_reducible refine Calls.mono (R19.out _) ?_; rintro e w6 ⟨rfl, rfl⟩; exact ⟨rfl, _, rfl⟩)))
          refine wpQuiet_nil ?_
          rintro _ ⟨nq, rfl⟩
          refine ⟨rfl, ?_⟩
          have HST4 : Hid (BS w ((f nq).setCell ⟨O, k, none⟩ (.int .u32 (u z1))) P R O [h0, h1, h2, h3, h4, h5, h6, h7] (fill64 (sched b (k + 1)))) := Lib.hid (HE.out _ _ HX.out (by have h := (HST3.out.to (HF5.out nq)).setO k z1; rwa [List.set_set] at h))
          have a2 := a1 nq
          have a4 := a0 nq
          clear HF5 a0 a1 a3 HST3 R17 R19
          generalize f nq = wd4 at *
          go_simp
          clear q1 q2 q3 q4 q5 a2 a4
          generalize wd4.setCell ⟨O, k, none⟩ (.int .u32 (u z1)) = wd5 at *
          go_wp2_with fail
          go_roundw
          case rel => exact ⟨.int .i64 ((k : Int) + 1), _, _, _, _, _, _, _, _, _, _, _, _, _, _, _, _, _, _, _, _, _, _, _, _, _, _, _, _, _, _, _, _, _, _, _, _, _, _, _, _, _, _, _, _, _, _, _, ⟨k + 1, by omega, by omega, by go_num, HST4⟩, rfl⟩
          case measure => simp [intOf]; omega
        · obtain rfl : k = 64 := by omega
          have HS64 := Lib.hid hst.out
          clear hst
          obtain ⟨p0, p1, p2, p3, p4, p5, p6, p7⟩ := HS64.out.h.cells8
          obtain ⟨tK, frK, hK⟩ := (HK.out.to HS64.out.b).row
          go_upto_region 18 with (fail)
          have HV : Hid (WBox (wr.alloc (.cells #[.int .u32 (u h0), .int .u32 (u h1), .int .u32 (u h2), .int .u32 (u h3), .int .u32 (u h4), .int .u32 (u h5), .int .u32 (u h6), .int .u32 (u h7)] 96)) wr.heap.size 96 (rnds [h0, h1, h2, h3, h4, h5, h6, h7] (sched b 64) 0)) := Lib.hid (heap_alloc_new wr _)
          have hba := ((Below.refl wr.heap.size wr).alloc (Nat.le_refl _) (.cells #[.int .u32 (u h0), .int .u32 (u h1), .int .u32 (u h2), .int .u32 (u h3), .int .u32 (u h4), .int .u32 (u h5), .int .u32 (u h6), .int .u32 (u h7)] 96))
          have HSV := Lib.hid (HS64.out.to hba)
          have HVO : Hid (O < wr.heap.size) := Lib.hid HS64.out.o.lt
          have hK2 := (hba.block _ (Array.getElem?_eq_some_iff.1 hK).1).trans hK
          clear hba hK p0 p1 p2 p3 p4 p5 p6 p7 HS64 HS16
          generalize (wr.alloc (.cells #[.int .u32 (u h0), .int .u32 (u h1), .int .u32 (u h2), .int .u32 (u h3), .int .u32 (u h4), .int .u32 (u h5), .int .u32 (u h6), .int .u32 (u h7)] 96)) = wa at *
          generalize wr.heap.size = V at *
          have HKS := Lib.hid KS_at
          have HKZ : Hid ((KS.map fun k : Nat => Value.int .u32 (k : Int)).toArray.size = 64) := Lib.hid rfl
          generalize (KS.map fun k : Nat => Value.int .u32 (k : Int)).toArray = kc at *
          go_wp2_with (first | (refine wpList_load_row rfl 139 (.global 0) rfl 0 rfl tK kc frK _ hK2 Tryd.underlying139 rfl (by rw [HKZ.out]; kernel_rfl) ?_) | fail)
          have HV2 : Hid (∀ w' k, BS w w' P R O [h0, h1, h2, h3, h4, h5, h6, h7] (fill64 (sched b 64)) → k < 64 → w'.cell? ⟨O, k, none⟩ = some (.int .u32 (u ((sched b 64).getD k 0)))) := Lib.hid (fun w' k h hk => by
            rw [← fill64_lt (by rw [sched_length]; omega)]; exact h.o.cell _ (by rw [fill64_length (by rw [sched_length]; omega)]; omega))
          have HRL := Lib.hid (fun k => rnds_length (h := [h0, h1, h2, h3, h4, h5, h6, h7]) rfl (sched b 64) k)
          generalize hws : sched b 64 = ws at *
          have HWS := Lib.hid hws
          clear hws hK2
          go_loopw [13, 14, 15, 16, 17, 18, 93] (fun _ _ _ _ _ _ i wr => ∃ k : Nat, k ≤ 64 ∧ i = .int .i64 k ∧ Hid (BS w wr P R O [h0, h1, h2, h3, h4, h5, h6, h7] (fill64 ws)) ∧ Hid (WBox wr V 96 (rnds [h0, h1, h2, h3, h4, h5, h6, h7] ws k)))
            (fun _ _ _ _ _ _ i _ => 64 - (intOf i).toNat)
          case atStart => exact ⟨0, by omega, rfl, HSV, HV⟩
          case round =>
            obtain ⟨k, hk, rfl, hst, hv⟩ := hrel
            by_cases hlt : k < 64
            · have hlt2 : (k : Int) < 64 := by omega
              have hk0 : (0 : Int) ≤ (k : Int) := by omega
              have hkc := HKS.out k hlt
              have HRN : Hid (rnds [h0, h1, h2, h3, h4, h5, h6, h7] ws (k + 1) = rnd (rnds [h0, h1, h2, h3, h4, h5, h6, h7] ws k) (BitVec.ofNat 32 (KS.getD k 0)) (ws.getD k 0)) := Lib.hid rfl
              have HWK : Hid (∀ w', BS w w' P R O [h0, h1, h2, h3, h4, h5, h6, h7] (fill64 ws) → w'.cell? ⟨O, k, none⟩ = some (.int .u32 (u (ws.getD k 0)))) := Lib.hid (fun w' h => HV2.out w' k h hlt)
              obtain ⟨a8, b8, c8, d8, e8, f8, g8, h8, hr8⟩ : ∃ a b c d e f g h, rnds [h0, h1, h2, h3, h4, h5, h6, h7] ws k = [a, b, c, d, e, f, g, h] := by
                have hl := HRL.out k
                match rnds [h0, h1, h2, h3, h4, h5, h6, h7] ws k, hl with
                | [a, b, c, d, e, f, g, h], _ => exact ⟨a, b, c, d, e, f, g, h, rfl⟩
              rw [hr8] at hv HRN
              clear hr8
              generalize hr9 : rnds [h0, h1, h2, h3, h4, h5, h6, h7] ws (k + 1) = r9 at *
              have HR9E := Lib.hid hr9
              clear hr9
              generalize BitVec.ofNat 32 (KS.getD k 0) = kk at *
              generalize ws.getD k 0 = wk at *
              obtain ⟨v0, v1, v2, v3, v4, v5, v6, v7⟩ := hv.out.cells8
              have hix := run_index64 kc k _ hkc hlt
              clear hkc
              go_wp2_with fail
              go_quiet (fail)
              have hst2 := Lib.hid (hst.out.to (Below.dn (Below.refl wr.heap.size wr) nq))
              have hv2 := Lib.hid (hv.out.to (Below.dn (Below.refl wr.heap.size wr) nq))
              clear hst hv v0 v1 v2 v3 v4 v5 v6 v7 hix
              generalize wr.drewN nq = wd at *
              have E6 := Lib.hid (fun W => rotl_any e8 6 (-6) rfl (by omega) (by omega) W)
              have E11 := Lib.hid (fun W => rotl_any e8 11 (-11) rfl (by omega) (by omega) W)
              have E25 := Lib.hid (fun W => rotl_any e8 25 (-25) rfl (by omega) (by omega) W)
              have A2 := Lib.hid (fun W => rotl_any a8 2 (-2) rfl (by omega) (by omega) W)
              have A13 := Lib.hid (fun W => rotl_any a8 13 (-13) rfl (by omega) (by omega) W)
              have A22 := Lib.hid (fun W => rotl_any a8 22 (-22) rfl (by omega) (by omega) W)
              have HR9 : Hid (r9 = [h8 + bg1 e8 + chW e8 f8 g8 + kk + wk + (bg0 a8 + majW a8 b8 c8), a8, b8, c8, d8 + (h8 + bg1 e8 + chW e8 f8 g8 + kk + wk), e8, f8, g8]) := Lib.hid HRN.out
              clear HRN
              unfold Exit.then
              go_wp2_with fail
              refine wp_region_calm (by kernel_rfl) (by kernel_rfl) ?_
              intro T5 hT5 f hf hg
              have v5 : ∀ d, (f d).cell? ⟨V, 5, none⟩ = some (.int .u32 (u f8)) := fun d => (hv2.out.to (hf d)).cells8.2.2.2.2.2.1
              have v6 : ∀ d, (f d).cell? ⟨V, 6, none⟩ = some (.int .u32 (u g8)) := fun d => (hv2.out.to (hf d)).cells8.2.2.2.2.2.2.1
              have v7 : ∀ d, (f d).cell? ⟨V, 7, none⟩ = some (.int .u32 (u h8)) := fun d => (hv2.out.to (hf d)).cells8.2.2.2.2.2.2.2
              have vk : ∀ d, (f d).cell? ⟨O, k, none⟩ = some (.int .u32 (u wk)) := fun d => HWK.out _ (hst2.out.to (hf d))
              have HF5 := Lib.hid hf
              clear hf hg
              have q1 := u_xor (rotr e8 6) (rotr e8 11)
              have q2 := u_xor (rotr e8 6 ^^^ rotr e8 11) (rotr e8 25)
              rw [show rotr e8 6 ^^^ rotr e8 11 ^^^ rotr e8 25 = bg1 e8 from rfl] at q2
              have q3 := u_addm h8 (bg1 e8)
              have q4 := u_xor f8 g8
              have q5 := u_and e8 (f8 ^^^ g8)
              have q6 := u_xor g8 (e8 &&& (f8 ^^^ g8))
              rw [show g8 ^^^ (e8 &&& (f8 ^^^ g8)) = chW e8 f8 g8 from rfl] at q6
              have q7 := u_addm (h8 + bg1 e8) (chW e8 f8 g8)
              have q8 := u_addm (h8 + bg1 e8 + chW e8 f8 g8) kk
              have q9 := u_addm (h8 + bg1 e8 + chW e8 f8 g8 + kk) wk
              generalize h8 + bg1 e8 + chW e8 f8 g8 + kk + wk = one at *
              generalize h8 + bg1 e8 + chW e8 f8 g8 + kk = y1 at *
              generalize h8 + bg1 e8 + chW e8 f8 g8 = y2 at *
              generalize h8 + bg1 e8 = y3 at *
              generalize chW e8 f8 g8 = y4 at *
              generalize e8 &&& (f8 ^^^ g8) = y5 at *
              generalize f8 ^^^ g8 = y6 at *
              generalize bg1 e8 = y7 at *
              generalize rotr e8 6 ^^^ rotr e8 11 = y8 at *
              repeat (go_big_quiet_step (first
                | (go_at_call 100; with_reducible refine Calls.mono (E6.out _) ?_; rintro e w6 ⟨rfl, rfl⟩; exact ⟨rfl, _, rfl⟩)
                | (go_at_call 100; with_reducible refine Calls.mono (E11.out _) ?_; rintro e w6 ⟨rfl, rfl⟩; exact ⟨rfl, _, rfl⟩)
                | (go_at_call 100; with_reducible refine Calls.mono (E25.out _) ?_; rintro e w6 ⟨rfl, rfl⟩; exact ⟨rfl, _, rfl⟩)))
              refine wpQuiet_nil ?_
              rintro _ ⟨nq, rfl⟩
              rw [q9]
              have hst3 := Lib.hid (hst2.out.to (HF5.out nq))
              have hv3 := Lib.hid (hv2.out.to (HF5.out nq))
              clear HF5 v5 v6 v7 vk hst2 hv2 q1 q2 q3 q4 q5 q6 q7 q8 q9 E6 E11 E25
              generalize f nq = wd1 at *
              unfold Exit.then
              go_wp2_with fail
              refine wp_region_calm (by kernel_rfl) (by kernel_rfl) ?_
              intro T6 hT6 f hf hg
              have v1 : ∀ d, (f d).cell? ⟨V, 1, none⟩ = some (.int .u32 (u b8)) := fun d => (hv3.out.to (hf d)).cells8.2.1
              have v2 : ∀ d, (f d).cell? ⟨V, 2, none⟩ = some (.int .u32 (u c8)) := fun d => (hv3.out.to (hf d)).cells8.2.2.1
              have HF5 := Lib.hid hf
              clear hf hg
              have q1 := u_xor (rotr a8 2) (rotr a8 13)
              have q2 := u_xor (rotr a8 2 ^^^ rotr a8 13) (rotr a8 22)
              rw [show rotr a8 2 ^^^ rotr a8 13 ^^^ rotr a8 22 = bg0 a8 from rfl] at q2
              have q3 := u_and a8 b8
              have q4 := u_or a8 b8
              have q5 := u_and c8 (a8 ||| b8)
              have q6 := u_or (a8 &&& b8) (c8 &&& (a8 ||| b8))
              rw [show (a8 &&& b8) ||| (c8 &&& (a8 ||| b8)) = majW a8 b8 c8 from rfl] at q6
              have q7 := u_addm (bg0 a8) (majW a8 b8 c8)
              generalize bg0 a8 + majW a8 b8 c8 = two at *
              generalize majW a8 b8 c8 = z1 at *
              generalize c8 &&& (a8 ||| b8) = z2 at *
              generalize a8 ||| b8 = z3 at *
              generalize a8 &&& b8 = z4 at *
              generalize bg0 a8 = z5 at *
              generalize rotr a8 2 ^^^ rotr a8 13 = z6 at *
              repeat (go_big_quiet_step (first
                | (go_at_call 100; with_reducible refine Calls.mono (A2.out _) ?_; rintro e w6 ⟨rfl, rfl⟩; exact ⟨rfl, _, rfl⟩)
                | (go_at_call 100; with_reducible refine Calls.mono (A13.out _) ?_; rintro e w6 ⟨rfl, rfl⟩; exact ⟨rfl, _, rfl⟩)
                | (go_at_call 100; with_reducible refine Calls.mono (A22.out _) ?_; rintro e w6 ⟨rfl, rfl⟩; exact ⟨rfl, _, rfl⟩)))
              refine wpQuiet_nil ?_
              rintro _ ⟨nq, rfl⟩
              rw [q7]
              have hst4 := Lib.hid (hst3.out.to (HF5.out nq))
              have hv4 := Lib.hid (hv3.out.to (HF5.out nq))
              clear HF5 v1 v2 hst3 hv3 q1 q2 q3 q4 q5 q6 q7 A2 A13 A22
              generalize f nq = wd2 at *
              unfold Exit.then
              obtain ⟨v0, v1, v2, v3, v4, v5, v6, v7⟩ := hv4.out.cells8
              have hf := hv4.out.fz
              have q1 := u_addm one two
              have q2 := u_addm d8 one
              generalize one + two = x1 at *
              generalize d8 + one = x2 at *
              have hsto : Hid (BS w ((((((((wd2.setCell ⟨V, 0, none⟩ (.int .u32 (u x1))).setCell ⟨V, 1, none⟩ (.int .u32 (u a8))).setCell ⟨V, 2, none⟩ (.int .u32 (u b8))).setCell ⟨V, 3, none⟩ (.int .u32 (u c8))).setCell ⟨V, 4, none⟩ (.int .u32 (u x2))).setCell ⟨V, 5, none⟩ (.int .u32 (u e8))).setCell ⟨V, 6, none⟩ (.int .u32 (u f8))).setCell ⟨V, 7, none⟩ (.int .u32 (u g8))) P R O [h0, h1, h2, h3, h4, h5, h6, h7] (fill64 ws)) :=
                Lib.hid ((((((((hst4.out.setV HVO.out 0 _).setV HVO.out 1 _).setV HVO.out 2 _).setV HVO.out 3 _).setV HVO.out 4 _).setV HVO.out 5 _).setV HVO.out 6 _).setV HVO.out 7 _)
              have hvo : Hid (WBox ((((((((wd2.setCell ⟨V, 0, none⟩ (.int .u32 (u x1))).setCell ⟨V, 1, none⟩ (.int .u32 (u a8))).setCell ⟨V, 2, none⟩ (.int .u32 (u b8))).setCell ⟨V, 3, none⟩ (.int .u32 (u c8))).setCell ⟨V, 4, none⟩ (.int .u32 (u x2))).setCell ⟨V, 5, none⟩ (.int .u32 (u e8))).setCell ⟨V, 6, none⟩ (.int .u32 (u f8))).setCell ⟨V, 7, none⟩ (.int .u32 (u g8))) V 96 r9) := by
                have h := (((((((hv4.out.set 0 x1).set 1 a8).set 2 b8).set 3 c8).set 4 x2).set 5 e8).set 6 f8).set 7 g8
                rw [HR9.out]; exact Lib.hid h
              clear hst4 hv4 HR9
              go_wp2_with fail
              refine ⟨⟨k + 1, by omega, by simp, hsto, by rw [HR9E.out]; exact hvo⟩, by simp [intOf]; omega⟩
            · obtain rfl : k = 64 := by omega
              have HBK : Hid (blk [h0, h1, h2, h3, h4, h5, h6, h7] b = addTo [h0, h1, h2, h3, h4, h5, h6, h7] (rnds [h0, h1, h2, h3, h4, h5, h6, h7] ws 64) 8) := Lib.hid (by rw [addTo_8 rfl (HRL.out 64), ← HWS.out]; rfl)
              have hrl := HRL.out 64
              generalize rnds [h0, h1, h2, h3, h4, h5, h6, h7] ws 64 = vs at *
              have HVL := Lib.hid hrl
              clear hrl
              have HST9 := Lib.hid hst.out
              have HV9 := Lib.hid hv.out
              clear hst hv HV HSV HWS HV2 HRL HKS
              go_wp2_with fail
              go_loopw [19, 169] (fun _ i wr => ∃ k : Nat, k ≤ 8 ∧ i = .int .i64 k ∧ Hid (BS w wr P R O (addTo [h0, h1, h2, h3, h4, h5, h6, h7] vs k) (fill64 ws)) ∧ Hid (WBox wr V 96 vs))
                (fun _ i _ => 8 - (intOf i).toNat)
              case atStart => exact ⟨0, by omega, rfl, HST9, HV9⟩
              case round =>
                obtain ⟨k, hk, rfl, hst, hv⟩ := hrel
                by_cases hlt : k < 8
                · have hlt2 : (k : Int) < 8 := by omega
                  have hk0 : (0 : Int) ≤ (k : Int) := by omega
                  have HQ1 : Hid (∀ w', BS w w' P R O (addTo [h0, h1, h2, h3, h4, h5, h6, h7] vs k) (fill64 ws) → w'.cell? ⟨P, k, none⟩ = some (.int .u32 (u ([h0, h1, h2, h3, h4, h5, h6, h7].getD k 0)))) := Lib.hid (fun w' h => by
                    rw [← addTo_ge _ vs k k (Nat.le_refl _)]; exact h.h.cell k (by rw [addTo_length]; exact hlt))
                  have HQ2 : Hid (∀ w', WBox w' V 96 vs → w'.cell? ⟨V, k, none⟩ = some (.int .u32 (u (vs.getD k 0)))) := Lib.hid (fun w' h => h.cell k (by rw [HVL.out]; exact hlt))
                  have HQ3 : Hid (addTo [h0, h1, h2, h3, h4, h5, h6, h7] vs (k + 1) = (addTo [h0, h1, h2, h3, h4, h5, h6, h7] vs k).set k ([h0, h1, h2, h3, h4, h5, h6, h7].getD k 0 + vs.getD k 0)) := Lib.hid rfl
                  generalize [h0, h1, h2, h3, h4, h5, h6, h7].getD k 0 = x at *
                  generalize vs.getD k 0 = y at *
                  go_wp2_with fail
                  refine wp_region_tail rfl (by kernel_rfl) (by kernel_rfl) ?_
                  intro T5 hT5 f hf hg
                  have a0 : ∀ d, (f d).cell? ⟨P, k, none⟩ = some (.int .u32 (u x)) := fun d => HQ1.out _ (hst.out.to (hf d))
                  have a1 : ∀ d, (f d).cell? ⟨V, k, none⟩ = some (.int .u32 (u y)) := fun d => HQ2.out _ (hv.out.to (hf d))
                  have a2 : ∀ d o, (f d).frozen? ⟨P, o, none⟩ = false := fun d => (hst.out.to (hf d)).h.fz
                  have HF5 := Lib.hid hf
                  have q1 := u_addm x y
                  clear hf hg
                  dsimp only [List.dropLast]
                  repeat (go_big_quiet_step (fail))
                  refine wpQuiet_nil ?_
                  rintro _ ⟨nq, rfl⟩
                  refine ⟨rfl, ?_⟩
                  have hst2 := Lib.hid ((hst.out.to (HF5.out nq)).setH k (x + y))
                  have hv2 : Hid (WBox ((f nq).setCell ⟨P, k, none⟩ (.int .u32 (u (x + y)))) V 96 vs) := Lib.hid ((heap_set _ _ _ _ (by have h1 := hst.out.eP; have h2 := hst.out.eO; have h3 := HVO.out; omega)).trans (hv.out.to (HF5.out nq)))
                  rw [← HQ3.out] at hst2
                  have a3 := a0 nq
                  have a4 := a2 nq
                  clear HF5 a0 a1 a2 hst hv HQ1 HQ2 HQ3
                  generalize f nq = wd at *
                  generalize x + y = z at *
                  go_simp
                  clear a3 a4 q1
                  generalize wd.setCell ⟨P, k, none⟩ (.int .u32 (u z)) = wd1 at *
                  go_wp2_with fail
                  go_roundw
                  case rel => first | exact ⟨k + 1, by omega, by go_num, hst2, hv2⟩ | exact ⟨_, .int .i64 ((k : Int) + 1), _, _, _, _, _, _, _, _, _, _, _, ⟨k + 1, by omega, by go_num, hst2, hv2⟩, rfl⟩
                  case measure => simp [intOf]; omega
                · obtain rfl : k = 8 := by omega
                  obtain ⟨a8, b8, c8, d8, e8, f8, g8, i8, hr8⟩ : ∃ a b c d e f g i, addTo [h0, h1, h2, h3, h4, h5, h6, h7] vs 8 = [a, b, c, d, e, f, g, i] := by
                    have hl := addTo_length [h0, h1, h2, h3, h4, h5, h6, h7] vs 8
                    match addTo [h0, h1, h2, h3, h4, h5, h6, h7] vs 8, hl with
                    | [a, b, c, d, e, f, g, i], _ => exact ⟨a, b, c, d, e, f, g, i, rfl⟩
                  rw [hr8] at hst HBK
                  clear hr8
                  have hst2 := Lib.hid hst.out
                  obtain ⟨v0, v1, v2, v3, v4, v5, v6, v7⟩ := hst.out.h.cells8
                  obtain ⟨r0, r1, r2, r3, r4, r5, r6, r7⟩ := hst.out.r.cells8
                  have hf := hst.out.r.fz
                  clear hst hv
                  go_wp2_with fail
                  have hle : w.heap.size ≤ R := by have := hst2.out.eR; omega
                  have hRR : Hid (WBox ((((((((wr.setCell ⟨R, 0, none⟩ (.int .u32 (u a8))).setCell ⟨R, 1, none⟩ (.int .u32 (u b8))).setCell ⟨R, 2, none⟩ (.int .u32 (u c8))).setCell ⟨R, 3, none⟩ (.int .u32 (u d8))).setCell ⟨R, 4, none⟩ (.int .u32 (u e8))).setCell ⟨R, 5, none⟩ (.int .u32 (u f8))).setCell ⟨R, 6, none⟩ (.int .u32 (u g8))).setCell ⟨R, 7, none⟩ (.int .u32 (u i8))) R 96 [a8, b8, c8, d8, e8, f8, g8, i8]) := Lib.hid ((((((((hst2.out.r.set 0 a8).set 1 b8).set 2 c8).set 3 d8).set 4 e8).set 5 f8).set 6 g8).set 7 i8)
                  have hBB : Hid (Below w.heap.size w ((((((((wr.setCell ⟨R, 0, none⟩ (.int .u32 (u a8))).setCell ⟨R, 1, none⟩ (.int .u32 (u b8))).setCell ⟨R, 2, none⟩ (.int .u32 (u c8))).setCell ⟨R, 3, none⟩ (.int .u32 (u d8))).setCell ⟨R, 4, none⟩ (.int .u32 (u e8))).setCell ⟨R, 5, none⟩ (.int .u32 (u f8))).setCell ⟨R, 6, none⟩ (.int .u32 (u g8))).setCell ⟨R, 7, none⟩ (.int .u32 (u i8)))) := Lib.hid ((((((((hst2.out.b.setCell (p := ⟨R, 0, none⟩) hle _).setCell (p := ⟨R, 1, none⟩) hle _).setCell (p := ⟨R, 2, none⟩) hle _).setCell (p := ⟨R, 3, none⟩) hle _).setCell (p := ⟨R, 4, none⟩) hle _).setCell (p := ⟨R, 5, none⟩) hle _).setCell (p := ⟨R, 6, none⟩) hle _).setCell (p := ⟨R, 7, none⟩) hle _)
                  generalize ((((((((wr.setCell ⟨R, 0, none⟩ (.int .u32 (u a8))).setCell ⟨R, 1, none⟩ (.int .u32 (u b8))).setCell ⟨R, 2, none⟩ (.int .u32 (u c8))).setCell ⟨R, 3, none⟩ (.int .u32 (u d8))).setCell ⟨R, 4, none⟩ (.int .u32 (u e8))).setCell ⟨R, 5, none⟩ (.int .u32 (u f8))).setCell ⟨R, 6, none⟩ (.int .u32 (u g8))).setCell ⟨R, 7, none⟩ (.int .u32 (u i8))) = wz at *
                  refine bodyPost_ret (v := .agg #[.int .u32 (u a8), .int .u32 (u b8), .int .u32 (u c8), .int .u32 (u d8), .int .u32 (u e8), .int .u32 (u f8), .int .u32 (u g8), .int .u32 (u i8)]) (results_cell_row Tryd.results89 _ _ R _ _ (0, 0) _ rfl hRR.out Tryd.underlying96 rfl (by kernel_rfl)) rfl ⟨?_, hBB.out⟩
                  rw [HBK.out]; rfl
end Go.Proofs.YthcklfelofpffaaDoor
