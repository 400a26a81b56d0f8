/- Both contracts of OpenRow, as the law wants them. -/
import Derived.Test.YthabgnhedmepjaaDoorOpenI
import Derived.Test.YthabgnhedmepjaaDoorOpenS
import Derived.Test.YthabgnhedmepjaaDoorMkDefs
namespace Go.Proofs.YthabgnhedmepjaaDoor
open Go.RowKit

theorem ctIntS_len (xs : List Int) : (ctL ct1) xs = xs.length := by
  unfold ctL ct1
  induction xs with
  | nil => rfl
  | cons x xs ih => simp only [List.map_cons, List.sum_cons, List.length_cons, ih]; omega
theorem openI_len (key : Int) (s : SealedD) : (openI key s).1.length ≤ 7 := by
  unfold openI
  split
  · rename_i h
    simp only [Bool.and_eq_true] at h
    obtain ⟨l0, l1⟩ := inB_of h.1.2
    dsimp only
    split
    · simp only [rowOfPlain, List.length_map, List.length_take, plainTo_len]; omega
    · simp
  · simp
theorem ct_openI (key : Int) (s : SealedD) : (ctL ct1) (openI key s).1 ≤ 7 := by rw [ctIntS_len]; exact openI_len key s
theorem impl_OpenRow' (key : Int) (w : World) (cs : List Value) (F : List Nat) (s : SealedD) (h : rSealed.has w F cs s) :
    Calls Tryd.prog 20 #[.int .i64 key, .agg cs.toArray] w fun e w' => ∃ v', e = .returned (.tuple #[v', .bool (openI key s).2.1, .bool (openI key s).2.2]) ∧ Fresh Rep.int.rows w w' [v'] (openI key s).1 := by
  obtain ⟨A, c, F1, rfl, rfl, i0, h1, i2⟩ := rSealed_open h
  exact impl_OpenRow key s w F A c i0 i2 h1
theorem spec_OpenRow' (key : Int) (w : World) (cs : List Value) (F : List Nat) (s : SealedD) (h : rSealed.has w F cs s) :
    Calls Tryd.prog 28 #[.int .i64 key, .agg cs.toArray] w fun e w' => ∃ v', e = .returned (.tuple #[v', .bool (openI key s).2.1, .bool (openI key s).2.2]) ∧ Fresh Rep.int.rows w w' [v'] (openI key s).1 := by
  obtain ⟨A, c, F1, rfl, rfl, i0, h1, i2⟩ := rSealed_open h
  exact spec_OpenRow key s w F A c i0 i2 h1
end Go.Proofs.YthabgnhedmepjaaDoor
