/- Sizes of catalogs. -/
import Derived.Test.YtgdaclbijgcnpaaDoorCtB
import Derived.Test.YtgdaclbijgcnpaaDoorShO
namespace Go.Proofs.YtgdaclbijgcnpaaDoor
open Go.RowKit

theorem szL_mem {α : Type} (s : α → Nat) (xs : List α) (x : α) (h : x ∈ xs) : s x ≤ szL s xs := by
  obtain ⟨k, hk, rfl⟩ := List.mem_iff_getElem.mp h
  exact szL_get s xs k hk
theorem TSmall_sz {t : TableD} (h : szTable t ≤ 1048576) : TSmall t := by
  have h1 := szL_len szStr t.1
  have h2 := szL_len (szL szZ) t.2
  have h0 : szTable t = szL szStr t.1 + szL (szL szZ) t.2 := rfl
  refine ⟨by omega, by omega, fun r hr => ?_⟩
  have h3 := szL_mem (szL szZ) t.2 r hr
  have h4 := szL_len szZ r
  omega
theorem LSmall_sz {l : List NamedD} (h : szL szNamed l ≤ 1048576) : LSmall l := by
  have h1 := szL_len szNamed l
  refine ⟨by omega, fun x hx => TSmall_sz ?_⟩
  have h2 := szL_mem szNamed l x hx
  have h3 : szNamed x = szStr x.1 + szTable x.2 := rfl
  omega
theorem ct_shapeOf (x : NamedD) : ctShape (shapeOf x) ≤ 11 * (szNamed x + 1) := by
  have h0 := ctStringS_le x.2.1
  have h3 : szNamed x = szStr x.1 + (szL szStr x.2.1 + szL (szL szZ) x.2.2) := rfl
  have h4 : ctShape (shapeOf x) = 1 + ctL ct1 x.2.1 + 1 := rfl
  omega
theorem ct_mapShapes (l : List NamedD) : ctL ctShape (l.map shapeOf) ≤ 11 * szL szNamed l := by
  unfold ctL szL
  induction l with
  | nil => simp
  | cons x l ih =>
    have := ct_shapeOf x
    simp only [List.map_cons, List.sum_cons, List.length_cons] at *
    omega
theorem ct_shapesOf (l : List NamedD) : ctL ctShape (shapesOf l) ≤ 11 * szL szNamed l := by
  unfold shapesOf
  split
  · exact ct_mapShapes l
  · simp [ctL]

end Go.Proofs.YtgdaclbijgcnpaaDoor
