/- OpenTable, SealAgain: the contracts as the laws want them; how many marks their results have. -/
import Derived.Test.YtbdoffhhpapcmaaDoorSAs
import Derived.Test.YtbdoffhhpapcmaaDoorSAi
import Derived.Test.YtbdoffhhpapcmaaDoorSTL
namespace Go.Proofs.YtbdoffhhpapcmaaDoor
open Go.RowKit

theorem NSmall_sz {ns : List ByteArray} (h : szL szStr ns ≤ 1048576) : ns.length ≤ 1048576 := Nat.le_trans (szL_len szStr ns) h
theorem ctvPadded_ok {p : PaddedD} (h : paddedOk p = true) : ctvPadded p ≤ 257 * p.1.length + 256 := by
  obtain ⟨ns, rows, real⟩ := p
  obtain ⟨h1, h2⟩ := paddedOk_parts h
  unfold paddedOk at h
  simp only [Bool.and_eq_true] at h
  have h3 := h.2.2.2
  rw [padRows_fit] at h3
  simp only [Bool.and_eq_true, List.all_eq_true] at h3
  have h5 : ctL (ctL ct1) rows ≤ ns.length * rows.length := ctL_bd (fun r hr => by
    have h4 := h3.1 r hr
    unfold fitRow at h4
    simp only [Bool.and_eq_true, decide_eq_true_eq] at h4
    rw [ctL_one, h4.1]; exact Nat.le_refl _)
  unfold ctvPadded
  dsimp only
  rw [ctL_one, ctL_one]
  have h6 : ns.length * rows.length ≤ ns.length * 256 := Nat.mul_le_mul (Nat.le_refl _) h1
  omega
theorem ct_openTable {key : Int} {ns : List ByteArray} {l : List SealedD} (hn : ns.length ≤ 1048576) : ctvPadded (openTableF key ns l).1 ≤ 300000000 := by
  cases h : (openTableF key ns l).2
  · have h2 : (openTableF key ns l).1 = zeroP := by
      unfold openTableF at h ⊢
      split at h
      · cases h
      · rename_i hc; rw [if_neg hc]
    rw [h2]
    show ctvPadded ([], [], []) ≤ _
    simp [ctvPadded, ctL]
  · obtain ⟨h1, h2, -⟩ := openTableF_ok h
    have h3 := ctvPadded_ok h1
    have h4 : (openTableF key ns l).1.1 = ns := congrArg Prod.fst h2
    rw [h4] at h3
    omega
theorem ct_sealAgain (key first : Int) (ns : List ByteArray) (l : List SealedD) : ctL ctSealed (sealAgainF key ns l first).1 ≤ 9 * 256 := by
  unfold sealAgainF
  split
  · exact ct_sealTable _ _ _
  · simp [ctL]
theorem spec_OpenTableL (key : Int) (w : World) (v1 : Value) (F : List Nat) (ns : List ByteArray) (hx : SliceHas Rep.str w F [v1] ns) (v2 : Value) (G : List Nat) (l : List SealedD) (hy : SliceHas rSealed w G [v2] l) (hbn : ns.length ≤ 1048576) (hb : SSmall l) :
    Calls Tryd.prog 25 #[.int .i64 key, v1, v2] w fun e w' => ∃ cs, e = .returned (.tuple #[.agg cs.toArray, .bool (openTableF key ns l).2]) ∧ Fresh oPadded w w' cs (openTableF key ns l).1 := spec_OpenTable' key w F G v1 v2 ns l hx hy hbn hb
theorem impl_OpenTableL (key : Int) (w : World) (hR : ResOk w) (v1 : Value) (F : List Nat) (ns : List ByteArray) (hx : SliceHas Rep.str w F [v1] ns) (v2 : Value) (G : List Nat) (l : List SealedD) (hy : SliceHas rSealed w G [v2] l) (hbn : ns.length ≤ 1048576) (_ : SSmall l) :
    Calls Tryd.prog 14 #[.int .i64 key, v1, v2] w fun e w' => ∃ cs, e = .returned (.tuple #[.agg cs.toArray, .bool (openTableF key ns l).2]) ∧ Fresh oPadded w w' cs (openTableF key ns l).1 := impl_OpenTable' key w hR F G v1 v2 ns l hx hy hbn
theorem spec_SealAgainL (key first : Int) (w : World) (v1 : Value) (F : List Nat) (ns : List ByteArray) (hx : SliceHas Rep.str w F [v1] ns) (v2 : Value) (G : List Nat) (l : List SealedD) (hy : SliceHas rSealed w G [v2] l) (hbn : ns.length ≤ 1048576) (hb : SSmall l) :
    Calls Tryd.prog 30 #[.int .i64 key, v1, v2, .int .i64 first] w fun e w' => ∃ v, e = .returned (.tuple #[v, .bool (sealAgainF key ns l first).2]) ∧ Fresh oSealed.rows w w' [v] (sealAgainF key ns l first).1 := spec_SealAgain' key first w F G v1 v2 ns l hx hy hbn hb
theorem impl_SealAgainL (key first : Int) (w : World) (hR : ResOk w) (v1 : Value) (F : List Nat) (ns : List ByteArray) (hx : SliceHas Rep.str w F [v1] ns) (v2 : Value) (G : List Nat) (l : List SealedD) (hy : SliceHas rSealed w G [v2] l) (hbn : ns.length ≤ 1048576) (_ : SSmall l) :
    Calls Tryd.prog 29 #[.int .i64 key, v1, v2, .int .i64 first] w fun e w' => ∃ v, e = .returned (.tuple #[v, .bool (sealAgainF key ns l first).2]) ∧ Fresh rSealed.rows w w' [v] (sealAgainF key ns l first).1 := impl_SealAgain' key first w hR F G v1 v2 ns l hx hy hbn
end Go.Proofs.YtbdoffhhpapcmaaDoor
