/- slices.Equal at int slices that hold the same list. -/
import Derived.Test.YtppklecmlkicaaaDoorProg
import Derived.Test.YtppklecmlkicaaaDoorWake1
namespace Go.Proofs.YtppklecmlkicaaaDoor
open Go.RowKit

theorem eq_iat {w : World} {B1 B2 : Nat} {A1 A2 : Option Addr} {c1 c2 : Nat} {xs : List Int} (h1 : IAt w B1 A1 xs) (h2 : IAt w B2 A2 xs) (hne : 0 < xs.length) (hl : xs.length ≤ 1000000) :
    Calls Tryd.prog 36 #[.slice A1 xs.length c1, .slice A2 xs.length c2] w fun e w' => e = .returned (.bool true) ∧ Below w.heap.size w w' := by
  obtain ⟨b, off, rfl, _, hc⟩ := h1 hne
  obtain ⟨b', off', rfl, _, hc'⟩ := h2 hne
  have g : ∀ j (hj : j < xs.length), xs.getD j 0 = xs[j] := fun j hj => getD_at hj
  refine (Tryd.slices_Equal_int b off xs.length c1 b' off' xs.length c2 xs xs w (Nat.le_refl _) (Nat.le_refl _) (by omega) (by omega) (fun j hj => by rw [g j hj]; exact hc j hj) (fun j hj => by rw [g j hj]; exact hc' j hj)).mono ?_
  rintro e w' ⟨rfl, q, rfl⟩
  exact ⟨by simp, belN (Below.refl _ _) q⟩
end Go.Proofs.YtppklecmlkicaaaDoor
