/- Whether some paragraph has a length; Check of the program. No condition but that the sizes fit. -/
import Derived.Test.YtgnblofjjondpaaDoorGlyW7
namespace Go.Proofs.YtgnblofjjondpaaDoor
open Go.RowKit
def anyLen (p : Nat → Bool) (l : List (List Word)) : Bool := l.any fun x => p x.length
theorem anyLen_take (p : Nat → Bool) (l : List (List Word)) (k : Nat) (h : k < l.length) : anyLen p (l.take (k + 1)) = (anyLen p (l.take k) || p l[k].length) := by
  unfold anyLen; rw [List.take_succ_eq_append_getElem h, List.any_append]; simp
theorem anyLen_hit (p : Nat → Bool) (l : List (List Word)) (k : Nat) (h : k < l.length) (hp : p l[k].length = true) : anyLen p l = true := by
  unfold anyLen; rw [List.any_eq_true]; exact ⟨_, List.getElem_mem h, hp⟩
/-- What IndexFunc gives back. -/
def IsIdx (p : Nat → Bool) (l : List (List Word)) (w : World) (e : Ending) (w' : World) : Prop := ∃ r : Int, e = .returned (.int .i64 r) ∧ decide (0 ≤ r) = anyLen p l ∧ w = w'
set_option maxHeartbeats 1000000 in
theorem indexFunc_any (A : Option Addr) (c n : Nat) (l : List (List Word)) (f : FuncId) (p : Nat → Bool) (w : World) (hl : Sl w (fun b => b < w.heap.size) A c l) (hn : l.length = n)
    (hcf : ∀ (w' : World) (args : Array Value), (callFunc f args).run Tryd.prog w' = .ok (.enter f args) w')
    (hf : ∀ (Ap : Option Addr) (n cp : Nat) (w' : World), n ≤ 9223372036854775807 → Calls Tryd.prog f #[.slice Ap n cp] w' fun e w'' => e = .returned (.bool (p n)) ∧ w' = w'') :
    Calls Tryd.prog 64 #[.slice A n c, .func (.func f) #[] #[]] w (IsIdx p l w) := by
  subst hn
  have hlen : l.length ≤ 9223372036854775807 := by have := hl.1; have := hl.2.1; unfold maxLen at this; omega
  have Hf := Lib.hid hf
  have Hl := Lib.hid hl
  clear hf hl
  go_enter Tryd.func64, Tryd.ntmps64
  go_wp2_with fail
  go_loopw [5, 8] (fun _ i wr => ∃ k : Nat, k ≤ l.length ∧ i = .int .i64 k ∧ Hid (anyLen p (l.take k) = false) ∧ wr = w) (fun _ i _ => l.length - (intOf i).toNat)
  case atStart => exact ⟨0, Nat.zero_le _, rfl, rfl, rfl⟩
  case round =>
    obtain ⟨k, hk, rfl, hno, rfl⟩ := hrel
    by_cases hlt : k < l.length
    · obtain ⟨b, o, Ap, cp, rfl, _, hbl, hc, hp⟩ := part_at Hl.out hlt
      have hkl : (k : Int) < (l.length : Int) := by omega
      have hk0 : (0 : Int) ≤ (k : Int) := by omega
      have HT := Lib.hid (anyLen_take p l k hlt)
      have HH := Lib.hid (anyLen_hit p l k hlt)
      have h2 : l[k].length ≤ 9223372036854775807 := by have := hp.1; have := hp.2.1; unfold maxLen at this; omega
      generalize l[k].length = q at *
      clear hp
      go_wp2_with fail
      refine (Hf.out Ap q cp _ h2).mono ?_
      rintro e w' ⟨rfl, rfl⟩
      cases hp : p q
      · have E := Lib.hid (show anyLen p (l.take (k + 1)) = false by rw [HT.out, hno.out, hp]; rfl)
        clear hp
        go_wp2_with fail
        go_roundw
        case rel => exact ⟨k + 1, by omega, by go_num, E.out, by first | trivial | rfl⟩
        case measure => simp [intOf]; omega
      · have E := Lib.hid (HH.out hp)
        clear hp
        go_wp2_with fail
        go_ret
        exact ⟨k, rfl, by rw [E.out]; exact decide_eq_true hk0, rfl⟩
    · have E := Lib.hid (show anyLen p l = false by have := hno.out; rwa [List.take_of_length_le (by omega)] at this)
      go_wp2_with fail
      go_ret
      exact ⟨-1, rfl, by rw [E.out]; rfl, rfl⟩
set_option maxHeartbeats 400000 in
theorem containsFunc_any (A : Option Addr) (c n : Nat) (l : List (List Word)) (f : FuncId) (p : Nat → Bool) (w : World) (hl : Sl w (fun b => b < w.heap.size) A c l) (hn : l.length = n)
    (hcf : ∀ (w' : World) (args : Array Value), (callFunc f args).run Tryd.prog w' = .ok (.enter f args) w')
    (hf : ∀ (Ap : Option Addr) (n cp : Nat) (w' : World), n ≤ 9223372036854775807 → Calls Tryd.prog f #[.slice Ap n cp] w' fun e w'' => e = .returned (.bool (p n)) ∧ w' = w'') :
    Calls Tryd.prog 45 #[.slice A n c, .func (.func f) #[] #[]] w fun e w' => e = .returned (.bool (anyLen p l)) ∧ w = w' := by
  have Hi := Lib.hid (indexFunc_any A c n l f p w hl hn hcf hf)
  clear hl hf hcf
  go_enter Tryd.func45, Tryd.ntmps45
  go_wp2_with fail
  refine Hi.out.mono ?_
  rintro e w' ⟨r, rfl, hr, rfl⟩
  have Hr := Lib.hid hr
  clear hr
  go_wp2_with fail
  go_ret
  exact ⟨ret_bool Hr.out, rfl⟩
def longP (n : Nat) : Bool := decide (500 < n)
def emptyP (n : Nat) : Bool := decide (n = 0)
theorem long_any (Ap : Option Addr) (n cp : Nat) (w : World) (hn : n ≤ 9223372036854775807) : Calls Tryd.prog 46 #[.slice Ap n cp] w fun e w' => e = .returned (.bool (longP n)) ∧ w = w' := by
  go_enter Tryd.func46, Tryd.ntmps46
  go_wp2_with fail
  go_ret
  exact ⟨ret_bool (by unfold longP; rw [decide_eq_decide]; omega), rfl⟩
theorem empty_any (Ap : Option Addr) (n cp : Nat) (w : World) (hn : n ≤ 9223372036854775807) : Calls Tryd.prog 47 #[.slice Ap n cp] w fun e w' => e = .returned (.bool (emptyP n)) ∧ w = w' := by
  go_enter Tryd.func47, Tryd.ntmps47
  go_wp2_with fail
  go_ret
  exact ⟨ret_bool (by unfold emptyP; rw [Bool.eq_iff_iff]; simp), rfl⟩
end Go.Proofs.YtgnblofjjondpaaDoor
