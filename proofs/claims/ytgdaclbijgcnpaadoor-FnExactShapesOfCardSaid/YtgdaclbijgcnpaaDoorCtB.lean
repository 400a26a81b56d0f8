/- How many marks, by sizes: data with texts. -/
import Derived.Test.YtgdaclbijgcnpaaDoorCtA
import Derived.Test.YtgdaclbijgcnpaaDoorMkDefsT
namespace Go.Proofs.YtgdaclbijgcnpaaDoor
open Go.RowKit
attribute [local go_sem] ext_cell

theorem ctStringS_le (xs : (List ByteArray)) : (ctL ct1) xs ≤ 11 * (szL szStr) xs := ctL_le (fun x => by simp only [ct1]; omega) xs
theorem ctShape_le (x : ShapeD) : ctShape x ≤ 11 * (szShape x + 1) := by have h0 := ctStringS_le x.2.1; simp only [ctShape, szShape, ct1]; omega
theorem ctvShape_le (x : ShapeD) : ctvShape x ≤ 11 * (szShape x + 1) := by have h0 := ctStringS_le x.2.1; simp only [ctvShape, szShape]; omega
theorem ctShapeS_le (xs : (List ShapeD)) : (ctL ctShape) xs ≤ 11 * (szL szShape) xs := ctL_le (fun x => by have h := ctShape_le x; omega) xs
theorem ctTable_le (x : TableD) : ctTable x ≤ 11 * (szTable x + 1) := by have h0 := ctStringS_le x.1; have h1 := ctIntSS_le x.2; simp only [ctTable, szTable, ct1]; omega
theorem ctvTable_le (x : TableD) : ctvTable x ≤ 11 * (szTable x + 1) := by have h0 := ctStringS_le x.1; have h1 := ctIntSS_le x.2; simp only [ctvTable, szTable]; omega
theorem ctTable_le2 (x : TableD) : ctTable x ≤ 11 * szTable x := by have h0 := ctStringS_le x.1; have h1 := ctIntSS_le x.2; simp only [ctTable, szTable]; omega
theorem ctNamed_le (x : NamedD) : ctNamed x ≤ 11 * (szNamed x + 1) := by have h0 := ctTable_le2 x.2; simp only [ctNamed, szNamed, ct1]; omega
theorem ctNamedS_le (xs : (List NamedD)) : (ctL ctNamed) xs ≤ 11 * (szL szNamed) xs := ctL_le (fun x => by have h := ctNamed_le x; omega) xs
theorem ctPadded_le (x : PaddedD) : ctPadded x ≤ 11 * (szPadded x + 1) := by have h0 := ctStringS_le x.1; have h1 := ctIntSS_le x.2.1; have h2 := ctBoolS_le x.2.2; simp only [ctPadded, szPadded, ct1]; omega
theorem ctvPadded_le (x : PaddedD) : ctvPadded x ≤ 11 * (szPadded x + 1) := by have h0 := ctStringS_le x.1; have h1 := ctIntSS_le x.2.1; have h2 := ctBoolS_le x.2.2; simp only [ctvPadded, szPadded]; omega

end Go.Proofs.YtgdaclbijgcnpaaDoor
