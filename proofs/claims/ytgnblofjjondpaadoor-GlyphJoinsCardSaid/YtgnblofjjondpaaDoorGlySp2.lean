/- Splitting as a machine over bytes. No condition. -/
import Derived.Test.YtgnblofjjondpaaDoorGlySp
namespace Go.Proofs.YtgnblofjjondpaaDoor
/-- One byte more. -/
def feed (st : List UInt8 × List (List UInt8)) (c : UInt8) : List UInt8 × List (List UInt8) :=
  if isSp c.toNat then (if st.1 = [] then st else ([], st.2 ++ [st.1])) else (st.1 ++ [c], st.2)
def feeds (st : List UInt8 × List (List UInt8)) (l : List UInt8) : List UInt8 × List (List UInt8) := l.foldl feed st
theorem feeds_append (st : List UInt8 × List (List UInt8)) (a b : List UInt8) : feeds st (a ++ b) = feeds (feeds st a) b := List.foldl_append ..
theorem feeds_word (done : List (List UInt8)) : ∀ (l cur : List UInt8), (∀ c ∈ l, isSp c.toNat = false) → feeds (cur, done) l = (cur ++ l, done)
  | [], cur, _ => by simp [feeds]
  | c :: l, cur, h => by
    have h0 : feed (cur, done) c = (cur ++ [c], done) := by unfold feed; rw [if_neg (by rw [h c (List.mem_cons_self ..)]; simp)]
    show feeds (feed (cur, done) c) l = _
    rw [h0, feeds_word done l (cur ++ [c]) (fun x hx => h x (List.mem_cons_of_mem _ hx)), List.append_assoc]; rfl
theorem feeds_blank (done : List (List UInt8)) : ∀ (l : List UInt8), (∀ c ∈ l, isSp c.toNat = true) → feeds ([], done) l = ([], done)
  | [], _ => rfl
  | c :: l, h => by
    have h0 : feed ([], done) c = ([], done) := by unfold feed; rw [if_pos (h c (List.mem_cons_self ..)), if_pos rfl]
    show feeds (feed ([], done) c) l = _
    rw [h0]; exact feeds_blank done l (fun x hx => h x (List.mem_cons_of_mem _ hx))
def bytes (s : ByteArray) : List UInt8 := s.data.toList
theorem bytes_ext (s : ByteArray) (a b : Nat) : bytes (s.extract a b) = (s.data.toList.take b).drop a := by
  unfold bytes
  rw [ByteArray.data_extract, Array.toList_extract]
  rw [List.extract_eq_take_drop, List.drop_take]
theorem bytes_inj {a b : ByteArray} (h : bytes a = bytes b) : a = b := ByteArray.ext (Array.toList_inj.1 h)
theorem byteAt_list (s : ByteArray) (k : Nat) (h : k < s.size) : ∃ hk : k < s.data.toList.length, byteAt s k = (s.data.toList[k]).toNat := by
  refine ⟨by simpa using h, ?_⟩
  unfold byteAt
  simp [ByteArray.get!, h]
/-- The machine finds what the loop finds. -/
theorem feeds_rs (s : ByteArray) : ∀ k, k ≤ s.size → feeds ([], []) (s.data.toList.take k) = ((s.data.toList.take k).drop (rs s k).1, ((rs s k).2.map fun x => bytes (s.extract x.1 x.2)))
  | 0, _ => by simp [feeds, rs]
  | k + 1, h => by
    have hk : k < s.size := by omega
    obtain ⟨hkl, hb⟩ := byteAt_list s k hk
    have ih := feeds_rs s k (by omega)
    have hle := rs_le s k
    have hlen : (s.data.toList.take k).length = k := by rw [List.length_take]; omega
    rw [List.take_succ_eq_append_getElem hkl, feeds_append, ih]
    show feed _ _ = _
    unfold feed
    rw [← hb, rs]
    by_cases hs : isSp (byteAt s k) = true
    · rw [if_pos hs, if_pos hs]
      have e0 : (s.data.toList.take k ++ [s.data.toList[k]]).drop (k + 1) = [] := List.drop_of_length_le (by rw [List.length_append, hlen]; simp)
      by_cases hc : (rs s k).1 < k
      · have hne : ¬ (s.data.toList.take k).drop (rs s k).1 = [] := by
          intro e
          have := congrArg List.length e
          rw [List.length_drop, hlen] at this
          simp at this; omega
        have ecl : cl (rs s k).1 k (rs s k).2 = (rs s k).2 ++ [((rs s k).1, k)] := by unfold cl; rw [if_pos hc]
        simp only [hne, if_false, e0, ecl, List.map_append, List.map_cons, List.map_nil, bytes_ext]
      · have he : (s.data.toList.take k).drop (rs s k).1 = [] := List.drop_of_length_le (by omega)
        have ecl : cl (rs s k).1 k (rs s k).2 = (rs s k).2 := by unfold cl; rw [if_neg hc]
        simp only [he, if_true, e0, ecl]
    · have hs' : isSp (byteAt s k) = false := by simpa using hs
      rw [hs', if_neg (by simp), if_neg (by simp)]
      rw [List.drop_append_of_le_length (by omega)]
/-- Where the machine ends between words, the pieces are what it found. -/
theorem pieces_feeds (s : ByteArray) (want : List ByteArray) (h : feeds ([], []) (bytes s) = ([], want.map bytes)) : pieces s = want := by
  have h1 := feeds_rs s s.size (Nat.le_refl _)
  rw [List.take_of_length_le (by simp)] at h1
  unfold bytes at h
  rw [h1] at h
  obtain ⟨h2, h3⟩ := Prod.mk.inj h
  have hle := rs_le s s.size
  have hfrom : ¬ (rs s s.size).1 < s.size := by
    intro hlt
    have := congrArg List.length h2
    rw [List.length_drop] at this
    simp at this; omega
  unfold pieces
  rw [fields_rs]
  have ecl : cl (rs s s.size).1 s.size (rs s s.size).2 = (rs s s.size).2 := by unfold cl; rw [if_neg hfrom]
  rw [ecl]
  have inj : ∀ (a b : List ByteArray), a.map bytes = b.map bytes → a = b := fun a b hab => (List.map_inj_right (fun x y hxy => bytes_inj hxy)).1 hab
  apply inj
  rw [List.map_map]
  exact h3
theorem valid_nosp {s : ByteArray} (h : valid s = true) : ∀ c ∈ bytes s, isSp c.toNat = false := by
  intro c hc
  unfold valid at h
  rw [Bool.and_eq_true] at h
  have h2 := h.2
  unfold okW at h2
  have h3 := (List.all_eq_true.1 h2) c hc
  cases hs : isSp c.toNat with
  | false => rfl
  | true =>
    have hlt : c.toNat < 33 := by unfold isSp at hs; simp at hs; omega
    rw [gw_lo _ hlt] at h3
    simp at h3
/-- A word, a blank, and more blanks. -/
theorem feeds_next (s x b : ByteArray) (done : List ByteArray) (h : feeds ([], []) (bytes s) = ([], done.map bytes)) (hx : valid x = true) (hb : ∀ c ∈ bytes b, isSp c.toNat = true) :
    feeds ([], []) (bytes (s ++ x ++ ⟨#[32]⟩ ++ b)) = ([], (done ++ [x]).map bytes) := by
  have e : bytes (s ++ x ++ ⟨#[32]⟩ ++ b) = bytes s ++ bytes x ++ [32] ++ bytes b := by unfold bytes; simp
  have hne : bytes x ≠ [] := by
    intro e
    unfold valid at hx
    rw [Bool.and_eq_true, decide_eq_true_iff] at hx
    have hl : (bytes x).length = x.size := by unfold bytes; simp
    rw [e, List.length_nil] at hl
    omega
  rw [e, feeds_append, feeds_append, feeds_append, h, feeds_word _ _ _ (valid_nosp hx), List.nil_append]
  have h1 : feeds (bytes x, done.map bytes) [32] = ([], (done ++ [x]).map bytes) := by
    show feed (bytes x, done.map bytes) 32 = _
    unfold feed
    rw [if_pos (by decide), if_neg hne, List.map_append]; rfl
  rw [h1]
  exact feeds_blank _ _ hb
theorem feeds_next0 (s x : ByteArray) (done : List ByteArray) (h : feeds ([], []) (bytes s) = ([], done.map bytes)) (hx : valid x = true) :
    feeds ([], []) (bytes (s ++ x ++ ⟨#[32]⟩)) = ([], (done ++ [x]).map bytes) := by
  have e : bytes (s ++ x ++ ⟨#[32]⟩ ++ ⟨#[]⟩) = bytes (s ++ x ++ ⟨#[32]⟩) := by unfold bytes; simp
  rw [← e]
  exact feeds_next s x ⟨#[]⟩ done h hx (by decide)
/-- Words that are joined by blanks are split into them. -/
theorem split_feeds (s : ByteArray) (want : List ByteArray) (h : feeds ([], []) (bytes s) = ([], want.map bytes)) (hv : ∀ x ∈ want, valid x = true) : splitE s = (want, 0) := by
  unfold splitE
  rw [pieces_feeds s want h, if_pos (List.all_eq_true.2 hv)]
end Go.Proofs.YtgnblofjjondpaaDoor
