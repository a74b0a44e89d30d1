/- The path of a leaf: merkle.Path. No condition but sizes and what the table holds. -/
import Derived.Test.YthcklfelofpffaaDoorCerW16
namespace Go.Proofs.YthcklfelofpffaaDoor
open Go.RowKit
/-- The hash values beside the way down to a leaf, from the root on. -/
def downF : Nat → List H32 → Nat → List H32
  | 0, _, _ => []
  | f + 1, l, i => if l.length ≤ 1 then [] else if i < splitN l.length then ⟨root (l.drop (splitN l.length))⟩ :: downF f (l.take (splitN l.length)) i else ⟨root (l.take (splitN l.length))⟩ :: downF f (l.drop (splitN l.length)) (i - splitN l.length)
def down (l : List H32) (i : Nat) : List H32 := downF l.length l i
/-- The path of a leaf. -/
def pathH (l : List H32) (i : Nat) : List H32 := (down l i).reverse
theorem downF_fuel : ∀ (f g : Nat) (l : List H32) (i : Nat), l.length ≤ f → l.length ≤ g → l.length ≤ 1073741824 → downF f l i = downF g l i
  | 0, 0, _, _, _, _, _ => rfl
  | 0, g + 1, l, i, h, _, _ => by rw [downF, downF, if_pos (by omega)]
  | f + 1, 0, l, i, _, h, _ => by rw [downF, downF, if_pos (by omega)]
  | f + 1, g + 1, l, i, hf, hg, hl => by
    rw [downF, downF]
    split
    · rfl
    · obtain ⟨_, _, h1, h2, _⟩ := splitN_bounds l.length (by omega) (by omega)
      rw [downF_fuel f g _ _ (by rw [List.length_take]; omega) (by rw [List.length_take]; omega) (by rw [List.length_take]; omega),
        downF_fuel f g (l.drop _) _ (by rw [List.length_drop]; omega) (by rw [List.length_drop]; omega) (by rw [List.length_drop]; omega)]
theorem down_one (l : List H32) (i : Nat) (h : l.length ≤ 1) : down l i = [] := by
  unfold down
  cases hl : l.length with
  | zero => rfl
  | succ f => rw [downF, if_pos (by omega)]
theorem down_left (l : List H32) (i : Nat) (h2 : 2 ≤ l.length) (h : l.length ≤ 1073741824) (hi : i < splitN l.length) : down l i = ⟨root (l.drop (splitN l.length))⟩ :: down (l.take (splitN l.length)) i := by
  obtain ⟨_, _, h3, h4, _⟩ := splitN_bounds l.length h2 (by omega)
  obtain ⟨f, hf⟩ : ∃ f, l.length = f + 1 := ⟨l.length - 1, by omega⟩
  unfold down
  conv => lhs; rw [hf, downF, if_neg (by omega), if_pos hi]
  rw [downF_fuel f _ (l.take _) i (by rw [List.length_take]; omega) (Nat.le_refl _) (by rw [List.length_take]; omega)]
theorem down_right (l : List H32) (i : Nat) (h2 : 2 ≤ l.length) (h : l.length ≤ 1073741824) (hi : ¬ i < splitN l.length) : down l i = ⟨root (l.take (splitN l.length))⟩ :: down (l.drop (splitN l.length)) (i - splitN l.length) := by
  obtain ⟨_, _, h3, h4, _⟩ := splitN_bounds l.length h2 (by omega)
  obtain ⟨f, hf⟩ : ∃ f, l.length = f + 1 := ⟨l.length - 1, by omega⟩
  unfold down
  conv => lhs; rw [hf, downF, if_neg (by omega), if_neg hi]
  rw [downF_fuel f _ (l.drop _) _ (by rw [List.length_drop]; omega) (Nat.le_refl _) (by rw [List.length_drop]; omega)]
theorem downF_32 : ∀ (f : Nat) (l : List H32) (i : Nat), (∀ x ∈ l, x.l.length = 32) → ∀ x ∈ downF f l i, x.l.length = 32
  | 0, _, _, _ => by simp [downF]
  | f + 1, l, i, h => by
    rw [downF]
    split
    · simp
    · split
      · intro x hx
        rcases List.mem_cons.1 hx with rfl | hx
        · exact root_length _ fun x hx => h x (List.mem_of_mem_drop hx)
        · exact downF_32 f _ i (fun x hx => h x (List.mem_of_mem_take hx)) x hx
      · intro x hx
        rcases List.mem_cons.1 hx with rfl | hx
        · exact root_length _ fun x hx => h x (List.mem_of_mem_take hx)
        · exact downF_32 f _ _ (fun x hx => h x (List.mem_of_mem_drop hx)) x hx
theorem downF_length : ∀ (f : Nat) (l : List H32) (i : Nat), (downF f l i).length ≤ f
  | 0, _, _ => by simp [downF]
  | f + 1, l, i => by
    rw [downF]
    split
    · simp
    · split
      · have := downF_length f (l.take (splitN l.length)) i
        rw [List.length_cons]; omega
      · have := downF_length f (l.drop (splitN l.length)) (i - splitN l.length)
        rw [List.length_cons]; omega
theorem pathH_32 {l : List H32} {i : Nat} (h : ∀ x ∈ l, x.l.length = 32) : ∀ x ∈ pathH l i, x.l.length = 32 := fun x hx => downF_32 _ _ _ h x (by simpa [pathH, down] using hx)
theorem pathH_length (l : List H32) (i : Nat) : (pathH l i).length ≤ l.length := by unfold pathH; rw [List.length_reverse]; exact downF_length _ _ _
theorem wpList_build1 {ops : Array Oper} {rest : List Oper} {o : Oper} {a : Act} {Q : Exit → Act → World → Prop} {w : World} (hgd : o.guard = none) (x : Operand) (ho : o.op = .buildSlice 34 1 #[(0, x)]) (cs : Array Value) (hx : a.eval x = .agg cs) (hs : cs.size = 32)
    (h : wpList Tryd.prog ops Q rest (a.put o.dst (.slice (some ⟨w.heap.size, 0, none⟩) 1 1)) (w.alloc (.cells cs 29))) : wpList Tryd.prog ops Q (o :: rest) a w :=
  wpList_plain hgd fun _ hK => wp_build1 x ho cs hx hs (hK _ _ h)
/-- The length of a slice value. -/
def vlen : Value → Nat
  | .slice _ n _ => n
  | _ => 0
/-- An own row, ready to be turned round. -/
theorem own_rv {w : World} {base g n c : Nat} {e : TypeId} {l : List H32} (h : Own w base e (.slice (some ⟨g, 0, none⟩) n c) l) (hn : l.length = n) : RV w w g base l n 0 ∧ (∀ i, i < n → (hAt l i).length = 32) := by
  subst hn
  refine ⟨⟨fun i hi => ?_, fun i hi => ?_, Below.refl _ _⟩, fun i hi => ?_⟩
  · obtain ⟨g', cap, es, e1, _, _, _, ⟨rfl, hl⟩, hc, _⟩ := h.at_ hi
    cases e1
    have e2 : rv l l.length 0 i = l[i].l := by unfold rv; rw [if_neg (by omega), hAt_eq _ _ hi]
    rw [e2]
    exact fun j v hv => hc j v hv
  · obtain ⟨g', cap, es, e1, _, _, _, ⟨rfl, hl⟩, hc, hf⟩ := h.at_ hi
    cases e1
    intro j hj
    refine ⟨?_, hf _⟩
    have hj2 : j < (l[i].l.map encB).length := by rw [List.length_map, hl]; exact hj
    have := hc j _ (List.getElem?_eq_getElem hj2)
    rw [show i * Rep.size H32 = i * 32 from rfl] at this
    rw [this]; rfl
  · obtain ⟨g', cap, es, e1, _, _, _, ⟨rfl, hl⟩, hc, _⟩ := h.at_ hi
    rw [hAt_eq _ _ hi]; exact hl
/-- A row of hash values as a slice. -/
theorem sl_rows {w : World} {S : Nat → Prop} {g c : Nat} {l : List H32} (hS : S g) (hg : g < w.heap.size) (hc : l.length ≤ c) (hm : c ≤ maxLen) (hl : ∀ i, (h : i < l.length) → l[i].l.length = 32)
    (h : ∀ i, (h : i < l.length) → w.rangeAt g (i * 32) (l[i].l.map encB)) : Sl w S (some ⟨g, 0, none⟩) c l :=
  ⟨hc, hm, fun _ => ⟨g, 0, rfl, hS, hg, fun i hi => ⟨_, ⟨rfl, hl i hi⟩, fun j u hu => by rw [Nat.zero_add]; exact h i hi j u hu⟩⟩⟩
set_option maxRecDepth 100000 in
set_option maxHeartbeats 4000000 in
theorem path_any (l : List H32) (A : Option Addr) (n c i : Nat) (w : World) (hl : Sl w (fun b => b < w.heap.size) A c l) (hn : l.length = n) (hs : n ≤ 1048576) (hi : i < n) (hK : KLaid w) :
    Calls Tryd.prog 53 #[.slice A n c, .int .i64 (i : Int)] w fun e w' => ∃ A' c', e = .returned (.tuple #[.slice A' (pathH l i).length c', .int .i64 0]) ∧ Sl w' (fun b => b < w'.heap.size) A' c' (pathH l i) ∧ Below w.heap.size w w' := by
  have HL := Lib.hid hl
  have HN := Lib.hid hn
  have HK := Lib.hid hK
  have HLen := Lib.hid (h32_len hl)
  have hin : ¬ n ≤ i := by omega
  clear hl hn hK
  go_enter Tryd.func53, Tryd.ntmps53
  go_wp2_with fail
  go_loopw [0, 1, 6] (fun s x v wr => ∃ (l' : List H32) (A' : Option Addr) (n' c' i' : Nat) (acc : List H32), s = .slice A' n' c' ∧ x = .int .i64 (i' : Int) ∧ i' < n' ∧ Hid (l'.length = n') ∧ acc.length + n' ≤ 1048577 ∧ Hid (Sl w (fun b => b < w.heap.size) A' c' l') ∧ Hid (Own wr w.heap.size 29 v acc) ∧ Hid (acc ++ down l' i' = down l i) ∧ Hid (Below w.heap.size w wr)) (fun s _ _ _ => vlen s)
  case atStart => exact ⟨l, A, n, c, i, [], rfl, rfl, hi, HN, by simp; omega, HL, Lib.hid (Own.nil _ _ _), Lib.hid rfl, Lib.hid (Below.refl _ _)⟩
  case round =>
    obtain ⟨l', A', n', c', i', acc, rfl, rfl, hi', HN', hac, HL', HO, HD, HB⟩ := hrel
    by_cases h1 : 1 < n'
    · obtain ⟨_, _, h3, h4, _⟩ := splitN_bounds n' (by omega) (by omega)
      have HSP := Lib.hid (split_any n' (by omega) (by omega))
      obtain ⟨b, o, rfl, _⟩ := HL'.out.2.2 (by have := HN'.out; omega)
      have hnc : n' ≤ c' := by have := HL'.out.1; have := HN'.out; omega
      have hcm : c' ≤ 9223372036854775807 := by have := HL'.out.2.1; unfold maxLen at this; omega
      have h1' : (1 : Int) < (n' : Int) := by omega
      have HDL : Hid (i' < splitN n' → down l' i' = ⟨root (l'.drop (splitN n'))⟩ :: down (l'.take (splitN n')) i') := Lib.hid (fun h => by rw [← HN'.out] at h ⊢; exact down_left l' i' (by have := HN'.out; omega) (by have := HN'.out; omega) h)
      have HDR : Hid (¬ i' < splitN n' → down l' i' = ⟨root (l'.take (splitN n'))⟩ :: down (l'.drop (splitN n')) (i' - splitN n')) := Lib.hid (fun h => by rw [← HN'.out] at h ⊢; exact down_right l' i' (by have := HN'.out; omega) (by have := HN'.out; omega) h)
      generalize splitN n' = k at *
      by_cases hik : i' < k
      · have hik' : (i' : Int) < (k : Int) := by omega
        have HRT : Hid (Calls Tryd.prog 31 #[.slice (some ⟨b, o + k * 32, none⟩) (n' - k) (c' - k)] wr fun e w' => e = .returned (hashV (root (l'.drop k))) ∧ Below wr.heap.size wr w') := Lib.hid (root_any (l'.drop k) _ _ _ wr (sl_drop32 (HL'.out.to HB.out) k (by have := HN'.out; omega)) (by have := HN'.out; rw [List.length_drop]; omega) (by omega) (HK.out.to HB.out))
        have HRL : Hid ((root (l'.drop k)).length = 32) := Lib.hid (root_length _ fun x hx => h32_len HL'.out x (List.mem_of_mem_drop hx))
        have hlf : hashV (root (l'.drop k)) = .agg ((root (l'.drop k)).map encB).toArray := rfl
        rw [hlf] at HRT
        clear hlf
        have HSZ := Lib.hid (hash_size HRL.out)
        generalize hcs : ((root (l'.drop k)).map encB).toArray = cs at *
        have HCS := Lib.hid hcs
        clear hcs
        go_wp2_with (first
          | (go_at_call 62; refine (HSP.out _).mono ?_; rintro e w' ⟨rfl, rfl⟩)
          | fail)
        refine HRT.out.mono ?_
        rintro e w2 ⟨rfl, hb2⟩
        have HO2' := Lib.hid (HO.out.below hb2)
        have HO2 := Lib.hid ((HO.out.below hb2).alloc (.cells cs 29))
        have HB2 := Lib.hid (HB.out.trans (hb2.mono HB.out.size))
        have HR : Hid (∀ S, Rep.R (w2.alloc (.cells cs 29)) S cs.toList (⟨root (l'.drop k)⟩ : H32)) := Lib.hid (fun S => ⟨by rw [← HCS.out], HRL.out⟩)
        clear hb2 HO HRT
        go_wp2_with (first
          | (refine wpList_build1 rfl (.tmp 29) rfl cs rfl HSZ.out ?_)
          | (at_builtin; (refine wpList_push (α := H32) _ rfl (.tmp 25) (.tmp 30) 34 rfl w.heap.size 29 (.agg (zer32.map encB).toArray) 32 Tryd.underlying34 h_info rfl (by decide) u6 acc rfl HO2.out w2.heap.size cs ⟨root (l'.drop k)⟩ (0, 0) 29 rfl (heap_alloc_new w2 _) (HR.out _) (by omega) (by omega) (by have := HB2.out.size; simp; omega) _ rfl ?_; intro g3 p3 w3 hown3 hg3 hat3 hlt3))
          | fail)
        go_roundw
        case rel =>
          have hD := HD.out
          rw [HDL.out hik, List.append_cons] at hD
          exact ⟨l'.take k, (some ⟨b, o, none⟩), k, c', i', _, rfl, rfl, by omega, Lib.hid (by have := HN'.out; rw [List.length_take]; omega), by simp; omega, Lib.hid ((HL'.out).take k (by have := HN'.out; omega)), Lib.hid hown3, Lib.hid hD, Lib.hid (below_push HB2.out HO2'.out HB2.out.size hg3)⟩
        case measure => (show (_ : Nat) < _; simp only [vlen]; omega)
      · have hik' : ¬ (i' : Int) < (k : Int) := by omega
        have HRT : Hid (Calls Tryd.prog 31 #[.slice (some ⟨b, o, none⟩) k c'] wr fun e w' => e = .returned (hashV (root (l'.take k))) ∧ Below wr.heap.size wr w') := Lib.hid (root_any (l'.take k) _ _ _ wr ((HL'.out.to HB.out).take k (by have := HN'.out; omega)) (by have := HN'.out; rw [List.length_take]; omega) (by omega) (HK.out.to HB.out))
        have HRL : Hid ((root (l'.take k)).length = 32) := Lib.hid (root_length _ fun x hx => h32_len HL'.out x (List.mem_of_mem_take hx))
        have hlf : hashV (root (l'.take k)) = .agg ((root (l'.take k)).map encB).toArray := rfl
        rw [hlf] at HRT
        clear hlf
        have HSZ := Lib.hid (hash_size HRL.out)
        generalize hcs : ((root (l'.take k)).map encB).toArray = cs at *
        have HCS := Lib.hid hcs
        clear hcs
        go_wp2_with (first
          | (go_at_call 62; refine (HSP.out _).mono ?_; rintro e w' ⟨rfl, rfl⟩)
          | fail)
        refine HRT.out.mono ?_
        rintro e w2 ⟨rfl, hb2⟩
        have HO2' := Lib.hid (HO.out.below hb2)
        have HO2 := Lib.hid ((HO.out.below hb2).alloc (.cells cs 29))
        have HB2 := Lib.hid (HB.out.trans (hb2.mono HB.out.size))
        have HR : Hid (∀ S, Rep.R (w2.alloc (.cells cs 29)) S cs.toList (⟨root (l'.take k)⟩ : H32)) := Lib.hid (fun S => ⟨by rw [← HCS.out], HRL.out⟩)
        clear hb2 HO HRT
        go_wp2_with (first
          | (refine wpList_build1 rfl (.tmp 39) rfl cs rfl HSZ.out ?_)
          | (at_builtin; (refine wpList_push (α := H32) _ rfl (.tmp 35) (.tmp 40) 34 rfl w.heap.size 29 (.agg (zer32.map encB).toArray) 32 Tryd.underlying34 h_info rfl (by decide) u6 acc rfl HO2.out w2.heap.size cs ⟨root (l'.take k)⟩ (0, 0) 29 rfl (heap_alloc_new w2 _) (HR.out _) (by omega) (by omega) (by have := HB2.out.size; simp; omega) _ rfl ?_; intro g3 p3 w3 hown3 hg3 hat3 hlt3))
          | fail)
        go_roundw
        case rel =>
          have hD := HD.out
          rw [HDR.out hik, List.append_cons] at hD
          exact ⟨l'.drop k, (some ⟨b, o + k * 32, none⟩), (n' - k), (c' - k), (i' - k), _, rfl, (by go_num), by omega, Lib.hid (by have := HN'.out; rw [List.length_drop]; omega), by simp; omega, Lib.hid (sl_drop32 HL'.out k (by have := HN'.out; omega)), Lib.hid hown3, Lib.hid hD, Lib.hid (below_push HB2.out HO2'.out HB2.out.size hg3)⟩
        case measure => (show (_ : Nat) < _; simp only [vlen]; omega)
    · have h1' : ¬ (1 : Int) < (n' : Int) := by omega
      have hD := HD.out
      rw [down_one l' i' (by have := HN'.out; omega), List.append_nil] at hD
      obtain ⟨A6, c6, e6, _, hc1, hc2⟩ := HO.out.form
      unfold maxLen at hc2
      have HP : Hid (acc.reverse = pathH l i) := Lib.hid (by rw [hD]; rfl)
      have HP2 : Hid ((pathH l i).length = acc.length) := Lib.hid (by rw [← HP.out, List.length_reverse])
      clear hD HD
      subst e6
      by_cases h0 : acc.length = 0
      · have HRV := Lib.hid (rev0_any A6 c6 wr)
        rw [h0] at HO ⊢
        go_wp2_with (first
          | (go_at_call 78; refine HRV.out.mono ?_; rintro e w6 ⟨rfl, rfl⟩)
          | fail)
        go_ret2
        have hnil : pathH l i = [] := List.eq_nil_of_length_eq_zero (by rw [HP2.out, h0])
        rw [hnil]
        exact ⟨A6, c6, rfl, Sl.nil _ _ _ _ (by unfold maxLen; omega), HB.out⟩
      · obtain ⟨g, cap, es, e1, hg1, hg2, _, _, _, _⟩ := HO.out.at_ (k := 0) (by omega)
        cases e1
        have hrv := own_rv HO.out rfl
        have HRL : Hid (∀ i, i < acc.length → (hAt acc i).length = 32) := Lib.hid hrv.2
        have HRV := Lib.hid (rev_any g w.heap.size acc.length c6 acc wr hg1 hrv.1 hrv.2 hc1 hc2)
        clear hrv HO
        go_wp2_with fail
        refine HRV.out.mono ?_
        rintro e w6 ⟨rfl, hr6, hb6⟩
        have HR6 := Lib.hid hr6
        clear hr6
        go_wp2_with fail
        go_ret2
        refine ⟨some ⟨g, 0, none⟩, c6, (by rw [HP2.out]; rfl), ?_, HB.out.trans hb6⟩
        rw [← HP.out]
        have hra : ∀ j (h : j < acc.reverse.length), acc.reverse[j].l = hAt acc (acc.length - 1 - j) := fun j hj => by
          rw [List.length_reverse] at hj
          rw [List.getElem_reverse, hAt_eq _ _ (by omega)]
        refine sl_rows (by have := hb6.size; omega) (by have := hb6.size; omega) (by rw [List.length_reverse]; exact hc1) (by unfold maxLen; omega) (fun j hj => ?_) (fun j hj => ?_)
        · rw [hra]; rw [List.length_reverse] at hj; exact HRL.out _ (by omega)
        · rw [hra]; rw [List.length_reverse] at hj; exact HR6.out j hj
end Go.Proofs.YthcklfelofpffaaDoor
