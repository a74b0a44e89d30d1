/- The width of a glyph by the reference, and Valid and Width of it. No condition. -/
import Derived.Test.YtgnblofjjondpaaDoorGlyW1
namespace Go.Proofs.YtgnblofjjondpaaDoor
open Go.RowKit
def inB (c : Nat) (l : List UInt8) : Bool := l.any fun x => x.toNat == c
theorem inB_take (s : ByteArray) (c k : Nat) (h : k < s.size) : inB c (s.data.toList.take (k + 1)) = (inB c (s.data.toList.take k) || (s[k].toNat == c)) := by
  have e : s.data.toList.take (k + 1) = s.data.toList.take k ++ [s[k]] := by
    rw [List.take_succ_eq_append_getElem (by simpa using h)]; rfl
  unfold inB; rw [e, List.any_append]; simp
theorem inB_hit (s : ByteArray) (c k : Nat) (h : k < s.size) (hc : s[k].toNat = c) : inB c s.data.toList = true := by
  unfold inB
  rw [List.any_eq_true]
  exact ⟨s[k], by simp [ByteArray.getElem_eq_getElem_data], by simp [hc]⟩
set_option maxHeartbeats 400000 in
theorem in_any (c : Nat) (_hc : c < 256) (s : ByteArray) (hs : s.size ≤ 1000) (w : World) :
    Calls Tryd.prog 54 #[.int .u8 (c : Int), .string s] w fun e w' => e = .returned (.bool (inB c s.data.toList)) ∧ w = w' := by
  go_enter Tryd.func54, Tryd.ntmps54
  go_wp2_with fail
  go_loop [5] (fun i => ∃ k : Nat, k ≤ s.size ∧ i = .int .i64 k ∧ Hid (inB c (s.data.toList.take k) = false)) (fun i => s.size - (intOf i).toNat)
  case atStart => exact ⟨0, Nat.zero_le _, rfl, rfl⟩
  case round =>
    obtain ⟨k, hk, rfl, hno⟩ := hrel
    by_cases hlt : k < s.size
    · have hkl : (k : Int) < (s.size : Int) := by omega
      have hk0 : (0 : Int) ≤ (k : Int) := by omega
      have HI := Lib.hid (inB_take s c k hlt)
      have HH := Lib.hid (inB_hit s c k hlt)
      by_cases h0 : s[k].toNat = c
      · have E := Lib.hid (HH.out h0)
        have hB : ((s[k].toNat : Int) == (c : Int)) = true := by rw [h0]; simp
        clear h0
        go_wp2_with fail
        go_ret
        exact ⟨ret_bool E.out.symm, rfl⟩
      · have E := Lib.hid (show inB c (s.data.toList.take (k + 1)) = false by rw [HI.out, hno.out]; simp [h0])
        have hB : ((s[k].toNat : Int) == (c : Int)) = false := by rw [beq_eq_false_iff_ne]; omega
        clear h0
        go_wp2_with fail
        go_round
        case rel => exact ⟨k + 1, by omega, by go_num, E.out⟩
        case measure => simp [intOf]; omega
    · have E := Lib.hid (show inB c s.data.toList = false by rw [← takeAll s k (by omega)]; exact hno.out)
      go_wp2_with fail
      go_ret
      exact ⟨ret_bool E.out.symm, rfl⟩
def s4 : ByteArray := ⟨#[105, 106, 108, 46, 44, 59, 58, 33, 124, 39]⟩
def s6 : ByteArray := ⟨#[102, 114, 116, 73, 45, 47, 92, 40, 41, 123, 125]⟩
def s12 : ByteArray := ⟨#[109, 119, 77, 87, 64, 37]⟩
def in4 (c : Nat) : Bool := inB c s4.data.toList
def in6 (c : Nat) : Bool := inB c s6.data.toList
def in12 (c : Nat) : Bool := inB c s12.data.toList
theorem in4_any (c : Nat) (hc : c < 256) (w : World) : Calls Tryd.prog 54 #[.int .u8 (c : Int), .string ⟨#[105, 106, 108, 46, 44, 59, 58, 33, 124, 39]⟩] w fun e w' => e = .returned (.bool (in4 c)) ∧ w = w' := in_any c hc s4 (by decide) w
theorem in6_any (c : Nat) (hc : c < 256) (w : World) : Calls Tryd.prog 54 #[.int .u8 (c : Int), .string ⟨#[102, 114, 116, 73, 45, 47, 92, 40, 41, 123, 125]⟩] w fun e w' => e = .returned (.bool (in6 c)) ∧ w = w' := in_any c hc s6 (by decide) w
theorem in12_any (c : Nat) (hc : c < 256) (w : World) : Calls Tryd.prog 54 #[.int .u8 (c : Int), .string ⟨#[109, 119, 77, 87, 64, 37]⟩] w fun e w' => e = .returned (.bool (in12 c)) ∧ w = w' := in_any c hc s12 (by decide) w
/-- The reference's choice. -/
def gwQ (c : Nat) (a b d : Bool) : Int :=
  if c < 33 ∨ 126 < c ∨ c = 91 ∨ c = 93 then 0
  else if a = true ∨ c = 96 then 4
  else if b = true ∨ c = 34 then 6
  else if d = true then 12
  else if (65 ≤ c ∧ c ≤ 90) ∨ c = 38 then 10
  else 8
theorem gwQ_eq : ∀ c, c < 256 → gwQ c (in4 c) (in6 c) (in12 c) = gw c := by decide +kernel
theorem beq_t {c d : Nat} (h : c = d) : ((c : Int) == (d : Int)) = true := by rw [h]; simp
theorem beq_f {c d : Nat} (h : ¬ c = d) : ((c : Int) == (d : Int)) = false := by rw [beq_eq_false_iff_ne]; omega
set_option maxRecDepth 100000 in
set_option maxHeartbeats 1000000 in
theorem glyph_any (c : Nat) (hc : c < 256) (w : World) :
    Calls Tryd.prog 35 #[.int .u8 (c : Int)] w fun e w' => e = .returned (.int .i64 (gw c)) ∧ w = w' := by
  have HE := Lib.hid (gwQ_eq c hc)
  have h4 := Lib.hid (in4_any c hc)
  have h6 := Lib.hid (in6_any c hc)
  have h12 := Lib.hid (in12_any c hc)
  generalize in4 c = a at *
  generalize in6 c = b at *
  generalize in12 c = d at *
  generalize hg : gw c = g at *
  clear hg
  have hc2 : (c : Int) < 256 := by omega
  have hc0 : (0 : Int) ≤ (c : Int) := by omega
  by_cases hr : c < 33 ∨ 126 < c ∨ c = 91 ∨ c = 93
  · have E := Lib.hid (show 0 = g by rw [← HE.out]; unfold gwQ; rw [if_pos hr])
    clear h4 h6 h12 HE
    by_cases h1 : c < 33
    · have h1' : (c : Int) < 33 := by omega
      go_enter Tryd.func35, Tryd.ntmps35
      go_wp2_with fail
      go_ret
      exact ⟨ret_int E.out, rfl⟩
    · have h1' : ¬ (c : Int) < 33 := by omega
      by_cases h2 : 126 < c
      · have h2' : (126 : Int) < (c : Int) := by omega
        go_enter Tryd.func35, Tryd.ntmps35
        go_wp2_with fail
        go_ret
        exact ⟨ret_int E.out, rfl⟩
      · have h2' : ¬ (126 : Int) < (c : Int) := by omega
        by_cases h3 : c = 91
        · subst h3
          go_enter Tryd.func35, Tryd.ntmps35
          go_wp2_with fail
          go_ret
          exact ⟨ret_int E.out, rfl⟩
        · obtain rfl : c = 93 := by omega
          go_enter Tryd.func35, Tryd.ntmps35
          go_wp2_with fail
          go_ret
          exact ⟨ret_int E.out, rfl⟩
  · have E := Lib.hid (show (if a = true ∨ c = 96 then 4 else if b = true ∨ c = 34 then 6 else if d = true then 12 else if (65 ≤ c ∧ c ≤ 90) ∨ c = 38 then 10 else 8) = g by rw [← HE.out]; unfold gwQ; rw [if_neg hr])
    have h1' : ¬ (c : Int) < 33 := by omega
    have h2' : ¬ (126 : Int) < (c : Int) := by omega
    have h3' : ((c : Int) == 91) = false := beq_f (c := c) (d := 91) (by omega)
    have h4' : ((c : Int) == 93) = false := beq_f (c := c) (d := 93) (by omega)
    clear hr HE
    go_enter Tryd.func35, Tryd.ntmps35
    go_wp2_with fail
    refine (h4.out _).mono ?_
    rintro e w' ⟨rfl, rfl⟩
    clear h3' h4' h4
    by_cases hA : a = true ∨ c = 96
    · have E2 := Lib.hid (show 4 = g by rw [← E.out, if_pos hA])
      cases a
      · obtain rfl : c = 96 := by simpa using hA
        clear hA
        go_wp2_with fail
        go_ret
        exact ⟨ret_int E2.out, rfl⟩
      · clear hA
        go_wp2_with fail
        go_ret
        exact ⟨ret_int E2.out, rfl⟩
    · have E2 := Lib.hid (show (if b = true ∨ c = 34 then 6 else if d = true then 12 else if (65 ≤ c ∧ c ≤ 90) ∨ c = 38 then 10 else 8) = g by rw [← E.out, if_neg hA])
      obtain rfl : a = false := by cases a <;> simp at hA ⊢
      have h5' : ((c : Int) == 96) = false := beq_f (c := c) (d := 96) (by simpa using hA)
      clear hA E
      go_wp2_with fail
      refine (h6.out _).mono ?_
      rintro e w' ⟨rfl, rfl⟩
      clear h5' h6
      by_cases hB : b = true ∨ c = 34
      · have E3 := Lib.hid (show 6 = g by rw [← E2.out, if_pos hB])
        cases b
        · obtain rfl : c = 34 := by simpa using hB
          clear hB
          go_wp2_with fail
          go_ret
          exact ⟨ret_int E3.out, rfl⟩
        · clear hB
          go_wp2_with fail
          go_ret
          exact ⟨ret_int E3.out, rfl⟩
      · have E3 := Lib.hid (show (if d = true then 12 else if (65 ≤ c ∧ c ≤ 90) ∨ c = 38 then 10 else 8) = g by rw [← E2.out, if_neg hB])
        obtain rfl : b = false := by cases b <;> simp at hB ⊢
        have h5' : ((c : Int) == 34) = false := beq_f (c := c) (d := 34) (by simpa using hB)
        clear hB E2
        go_wp2_with fail
        refine (h12.out _).mono ?_
        rintro e w' ⟨rfl, rfl⟩
        clear h5' h12
        cases d
        · have E4 := Lib.hid (show (if (65 ≤ c ∧ c ≤ 90) ∨ c = 38 then 10 else 8) = g by rw [← E3.out]; simp)
          clear E3
          by_cases hD : 65 ≤ c ∧ c ≤ 90
          · have E5 := Lib.hid (show 10 = g by rw [← E4.out, if_pos (.inl hD)])
            have x1 : (65 : Int) ≤ (c : Int) := by omega
            have x2 : (c : Int) ≤ 90 := by omega
            clear hD
            go_wp2_with fail
            go_ret
            exact ⟨ret_int E5.out, rfl⟩
          · by_cases hF : c = 38
            · have E5 := Lib.hid (show 10 = g by rw [← E4.out, if_pos (.inr hF)])
              subst hF
              go_wp2_with fail
              go_ret
              exact ⟨ret_int E5.out, rfl⟩
            · have E5 := Lib.hid (show 8 = g by rw [← E4.out, if_neg (by omega)])
              have h5' : ((c : Int) == 38) = false := beq_f (c := c) (d := 38) hF
              have hD' : ¬ ((65 : Int) ≤ (c : Int) ∧ (c : Int) ≤ 90) := by omega
              clear hF E4 hD
              by_cases x1 : (65 : Int) ≤ (c : Int)
              · have x2 : ¬ (c : Int) ≤ 90 := by omega
                clear hD'
                go_wp2_with fail
                go_ret
                exact ⟨ret_int E5.out, rfl⟩
              · clear hD'
                go_wp2_with fail
                go_ret
                exact ⟨ret_int E5.out, rfl⟩
        · have E4 := Lib.hid (show 12 = g by rw [← E3.out]; simp)
          go_wp2_with fail
          go_ret
          exact ⟨ret_int E4.out, rfl⟩
end Go.Proofs.YtgnblofjjondpaaDoor
