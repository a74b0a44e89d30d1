/- A region that draws its order, whose operations and callees leave all older memory as it is: one walk serves every order. No condition. -/
import Derived.Test.YthcklfelofpffaaDoorBase
import Derived.BigQuiet
namespace Go.Proofs.YthcklfelofpffaaDoor
open Go.RowKit
theorem wp_region_calm {P : Program} {id : Nat} {Q : Exit → Act → World → Prop} {a : Act} {w : World} {l : List Oper} (hm : P.follows .mixedOrders = true) (hB : Region.lexB .any l.toArray = true)
    (h : ∀ (T : Type) (_ : Nonempty T) (f : T → World), (∀ d, Below w.heap.size w (f d)) → (∀ d w', Below (f d).heap.size (f d) w' → ∃ m, w' = f m) →
      wpQuiet P l.toArray (fun w' => ∃ n, w' = f n) (fun a' => ∀ w', (∃ n, w' = f n) → Q .normal a' w') l a) : (Code.region id l.toArray true).wp P Q a w := by
  refine wp_region_quiet (C := fun w' => ∃ n, w' = (Subtype.val : {x : World // Below w.heap.size w x} → World) n) hm hB ⟨⟨_, (Below.refl _ w).drew⟩, rfl⟩ ?_
  rw [List.toList_toArray]
  exact h _ ⟨⟨_, (Below.refl _ w).drew⟩⟩ Subtype.val (fun d => d.2) (fun d w' hb => ⟨⟨w', d.2.trans (hb.mono d.2.size)⟩, rfl⟩)
end Go.Proofs.YthcklfelofpffaaDoor
