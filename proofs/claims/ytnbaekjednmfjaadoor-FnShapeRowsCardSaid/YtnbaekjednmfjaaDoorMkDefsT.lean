/- Marks that are texts. -/
import Derived.Test.YtnbaekjednmfjaaDoorCat
import Derived.Laws.BytesArg
import Derived.Test.YtnbaekjednmfjaaDoorMkDefs
section
namespace Go.Proofs.YtnbaekjednmfjaaDoor
open Go.RowKit

theorem does_str1 {P : Program} {o : Oper} {a : Act} {w w0 : World} {Γ : List Fact} {T S E : TypeId} {x : Operand} {b i : Nat} {n : Int} (hS : Sat w0 w Γ) (ho : o.op = .convert T S x) (hx : a.eval x = .slice (some ⟨b, 0, none⟩) 1 1) [hi : BoxAt Γ b [.int .u8 n] i]
    (hs : P.underlying T = some (.slice E)) (he : P.underlying E = some (.int .u8)) (hd : P.underlying S = some .string) : Gives P o a w (.string (strOfNums [n])) := by
  have hc := run_convert_bytes_arg (P := P) w T E hs he b 0 1 1 [n] rfl (fun i hi' => by
    obtain rfl : i = 0 := by omega
    have := hS.boxCells hi.get 0 (.int .u8 n) rfl
    rw [Addr.add_lit] at this
    exact this) S hd
  unfold Gives execOp
  simp [ho, hx, hc]
def digB (d : Nat) : ByteArray := strOfNums [48 + (d : Int) % 10]
def digOut (k : Nat) (o : ByteArray) : ByteArray := if h : k = 0 then o else digOut (k / 10) (digB k ++ o)
termination_by k
decreasing_by omega
def markT (k : Nat) : ByteArray := if k = 0 then ⟨#[109, 48]⟩ else ⟨#[109]⟩ ++ digOut k ⟨#[]⟩
theorem digOut_0 (o : ByteArray) : digOut 0 o = o := by rw [digOut]; simp
theorem digOut_s {k : Nat} (h : k ≠ 0) (o : ByteArray) : digOut k o = digOut (k / 10) (digB k ++ o) := by rw [digOut, dif_neg h]
theorem digB_size (k : Nat) : (digB k).size = 1 := by unfold digB; rw [strOfNums_size]; rfl















































theorem digOut_size : ∀ (f k : Nat) (o : ByteArray), k < 2 ^ f → (digOut k o).size ≤ o.size + f
  | 0, k, o, h => by
    obtain rfl : k = 0 := by simpa using h
    rw [digOut_0]; omega
  | f + 1, k, o, h => by
    by_cases h0 : k = 0
    · subst h0; rw [digOut_0]; omega
    · rw [digOut_s h0]
      have h1 := digOut_size f (k / 10) (digB k ++ o) (by rw [Nat.pow_succ] at h; omega)
      rw [ByteArray.size_append, digB_size] at h1
      omega
def markTextF (k : Int) : ByteArray := if k ≤ 4611686018427387904 then markT k.toNat else ⟨#[]⟩
def mkS (k : Int) (_ : ByteArray) : ByteArray := markTextF k
theorem mkS_size (k : Int) (x : ByteArray) : (mkS k x).size ≤ maxLen := by
  unfold mkS markTextF
  split
  · rename_i h
    unfold markT
    split
    · decide
    · have h1 := digOut_size 70 k.toNat ⟨#[]⟩ (Nat.lt_of_le_of_lt (show k.toNat ≤ 4611686018427387904 by omega) (by decide))
      rw [ByteArray.size_append]
      have h2 : (ByteArray.size ⟨#[]⟩) = 0 := rfl
      have h3 : (ByteArray.size ⟨#[109]⟩) = 1 := rfl
      unfold maxLen
      omega
  · decide






end Go.Proofs.YtnbaekjednmfjaaDoor
end

section
namespace Go.Proofs.YtnbaekjednmfjaaDoor
open Go.RowKit
attribute [local go_sem] ext_cell

def ctTest (x : TestD) : Nat := ct1 x.1 + ct1 x.2.1 + ct1 x.2.2.1 + ct1 x.2.2.2
def mkTest (k : Int) (x : TestD) : TestD := (mkS k x.1, mkS (k + 1) x.2.1, mkI ((k + 1) + 1) x.2.2.1, mkS (((k + 1) + 1) + 1) x.2.2.2)
def ctShape (x : ShapeD) : Nat := ct1 x.1 + (ctL ct1) x.2.1 + ct1 x.2.2
def mkShape (k : Int) (x : ShapeD) : ShapeD := (mkS k x.1, (mkL mkS ct1) (k + 1) x.2.1, mkI ((k + 1) + ((ctL ct1) x.2.1 : Int)) x.2.2)
def ctvShape (x : ShapeD) : Nat := (ctL ct1) x.2.1
def mkvShape (k : Int) (x : ShapeD) : ShapeD := (x.1, (mkL mkS ct1) k x.2.1, x.2.2)
def ctTable (x : TableD) : Nat := (ctL ct1) x.1 + (ctL (ctL ct1)) x.2
def mkTable (k : Int) (x : TableD) : TableD := ((mkL mkS ct1) k x.1, (mkL (mkL mkI ct1) (ctL ct1)) (k + ((ctL ct1) x.1 : Int)) x.2)
def ctvTable (x : TableD) : Nat := (ctL ct1) x.1 + (ctL (ctL ct1)) x.2
def mkvTable (k : Int) (x : TableD) : TableD := ((mkL mkS ct1) k x.1, (mkL (mkL mkI ct1) (ctL ct1)) (k + ((ctL ct1) x.1 : Int)) x.2)
def ctNamed (x : NamedD) : Nat := ct1 x.1 + ctTable x.2
def mkNamed (k : Int) (x : NamedD) : NamedD := (mkS k x.1, mkTable (k + 1) x.2)
def ctvNamed (x : NamedD) : Nat := ctvTable x.2
def mkvNamed (k : Int) (x : NamedD) : NamedD := (x.1, mkvTable k x.2)
def ctPadded (x : PaddedD) : Nat := (ctL ct1) x.1 + (ctL (ctL ct1)) x.2.1 + (ctL ct1) x.2.2
def mkPadded (k : Int) (x : PaddedD) : PaddedD := ((mkL mkS ct1) k x.1, (mkL (mkL mkI ct1) (ctL ct1)) (k + ((ctL ct1) x.1 : Int)) x.2.1, (mkL mkB ct1) ((k + ((ctL ct1) x.1 : Int)) + ((ctL (ctL ct1)) x.2.1 : Int)) x.2.2)
def ctvPadded (x : PaddedD) : Nat := (ctL ct1) x.1 + (ctL (ctL ct1)) x.2.1 + (ctL ct1) x.2.2
def mkvPadded (k : Int) (x : PaddedD) : PaddedD := ((mkL mkS ct1) k x.1, (mkL (mkL mkI ct1) (ctL ct1)) (k + ((ctL ct1) x.1 : Int)) x.2.1, (mkL mkB ct1) ((k + ((ctL ct1) x.1 : Int)) + ((ctL (ctL ct1)) x.2.1 : Int)) x.2.2)
def ctStep (x : StepD) : Nat := ct1 x.1 + ct1 x.2.1 + ct1 x.2.2.1 + ct1 x.2.2.2.1 + (ctL (ctL ctTest)) x.2.2.2.2.1 + (ctL ct1) x.2.2.2.2.2.1 + ct1 x.2.2.2.2.2.2.1 + ct1 x.2.2.2.2.2.2.2
def mkStep (k : Int) (x : StepD) : StepD := (mkI k x.1, mkS (k + 1) x.2.1, mkS ((k + 1) + 1) x.2.2.1, mkS (((k + 1) + 1) + 1) x.2.2.2.1, (mkL (mkL mkTest ctTest) (ctL ctTest)) ((((k + 1) + 1) + 1) + 1) x.2.2.2.2.1, (mkL mkS ct1) (((((k + 1) + 1) + 1) + 1) + ((ctL (ctL ctTest)) x.2.2.2.2.1 : Int)) x.2.2.2.2.2.1, mkB ((((((k + 1) + 1) + 1) + 1) + ((ctL (ctL ctTest)) x.2.2.2.2.1 : Int)) + ((ctL ct1) x.2.2.2.2.2.1 : Int)) x.2.2.2.2.2.2.1, mkI (((((((k + 1) + 1) + 1) + 1) + ((ctL (ctL ctTest)) x.2.2.2.2.1 : Int)) + ((ctL ct1) x.2.2.2.2.2.1 : Int)) + 1) x.2.2.2.2.2.2.2)
def ctvStep (x : StepD) : Nat := (ctL (ctL ctTest)) x.2.2.2.2.1 + (ctL ct1) x.2.2.2.2.2.1
def mkvStep (k : Int) (x : StepD) : StepD := (x.1, x.2.1, x.2.2.1, x.2.2.2.1, (mkL (mkL mkTest ctTest) (ctL ctTest)) k x.2.2.2.2.1, (mkL mkS ct1) (k + ((ctL (ctL ctTest)) x.2.2.2.2.1 : Int)) x.2.2.2.2.2.1, x.2.2.2.2.2.2.1, x.2.2.2.2.2.2.2)
def ctQuery (x : QueryD) : Nat := (ctL ct1) x.1 + ct1 x.2.1 + ct1 x.2.2.1 + ct1 x.2.2.2.1 + ct1 x.2.2.2.2.1 + (ctL (ctL ctTest)) x.2.2.2.2.2.1 + ct1 x.2.2.2.2.2.2.1 + ct1 x.2.2.2.2.2.2.2.1 + ct1 x.2.2.2.2.2.2.2.2.1 + ct1 x.2.2.2.2.2.2.2.2.2.1 + ct1 x.2.2.2.2.2.2.2.2.2.2
def mkQuery (k : Int) (x : QueryD) : QueryD := ((mkL mkS ct1) k x.1, mkS (k + ((ctL ct1) x.1 : Int)) x.2.1, mkS ((k + ((ctL ct1) x.1 : Int)) + 1) x.2.2.1, mkS (((k + ((ctL ct1) x.1 : Int)) + 1) + 1) x.2.2.2.1, mkS ((((k + ((ctL ct1) x.1 : Int)) + 1) + 1) + 1) x.2.2.2.2.1, (mkL (mkL mkTest ctTest) (ctL ctTest)) (((((k + ((ctL ct1) x.1 : Int)) + 1) + 1) + 1) + 1) x.2.2.2.2.2.1, mkS ((((((k + ((ctL ct1) x.1 : Int)) + 1) + 1) + 1) + 1) + ((ctL (ctL ctTest)) x.2.2.2.2.2.1 : Int)) x.2.2.2.2.2.2.1, mkS (((((((k + ((ctL ct1) x.1 : Int)) + 1) + 1) + 1) + 1) + ((ctL (ctL ctTest)) x.2.2.2.2.2.1 : Int)) + 1) x.2.2.2.2.2.2.2.1, mkS ((((((((k + ((ctL ct1) x.1 : Int)) + 1) + 1) + 1) + 1) + ((ctL (ctL ctTest)) x.2.2.2.2.2.1 : Int)) + 1) + 1) x.2.2.2.2.2.2.2.2.1, mkB (((((((((k + ((ctL ct1) x.1 : Int)) + 1) + 1) + 1) + 1) + ((ctL (ctL ctTest)) x.2.2.2.2.2.1 : Int)) + 1) + 1) + 1) x.2.2.2.2.2.2.2.2.2.1, mkI ((((((((((k + ((ctL ct1) x.1 : Int)) + 1) + 1) + 1) + 1) + ((ctL (ctL ctTest)) x.2.2.2.2.2.1 : Int)) + 1) + 1) + 1) + 1) x.2.2.2.2.2.2.2.2.2.2)
def ctvQuery (x : QueryD) : Nat := (ctL ct1) x.1 + (ctL (ctL ctTest)) x.2.2.2.2.2.1
def mkvQuery (k : Int) (x : QueryD) : QueryD := ((mkL mkS ct1) k x.1, x.2.1, x.2.2.1, x.2.2.2.1, x.2.2.2.2.1, (mkL (mkL mkTest ctTest) (ctL ctTest)) (k + ((ctL ct1) x.1 : Int)) x.2.2.2.2.2.1, x.2.2.2.2.2.2.1, x.2.2.2.2.2.2.2.1, x.2.2.2.2.2.2.2.2.1, x.2.2.2.2.2.2.2.2.2.1, x.2.2.2.2.2.2.2.2.2.2)

end Go.Proofs.YtnbaekjednmfjaaDoor
end

section
namespace Go.Proofs.YtnbaekjednmfjaaDoor
open Go.RowKit
attribute [local go_sem] ext_cell

theorem ctStringS_le (xs : (List ByteArray)) : (ctL ct1) xs ≤ 11 * (szL szStr) xs := ctL_le (fun x => by simp only [ct1]; omega) xs
theorem ctShape_le (x : ShapeD) : ctShape x ≤ 11 * (szShape x + 1) := by have h0 := ctStringS_le x.2.1; simp only [ctShape, szShape, ct1]; omega
theorem ctvShape_le (x : ShapeD) : ctvShape x ≤ 11 * (szShape x + 1) := by have h0 := ctStringS_le x.2.1; simp only [ctvShape, szShape]; omega
theorem ctShapeS_le (xs : (List ShapeD)) : (ctL ctShape) xs ≤ 11 * (szL szShape) xs := ctL_le (fun x => by have h := ctShape_le x; omega) xs
theorem ctTable_le (x : TableD) : ctTable x ≤ 11 * (szTable x + 1) := by have h0 := ctStringS_le x.1; have h1 := ctIntSS_le x.2; simp only [ctTable, szTable, ct1]; omega
theorem ctvTable_le (x : TableD) : ctvTable x ≤ 11 * (szTable x + 1) := by have h0 := ctStringS_le x.1; have h1 := ctIntSS_le x.2; simp only [ctvTable, szTable]; omega
theorem ctTable_le2 (x : TableD) : ctTable x ≤ 11 * szTable x := by have h0 := ctStringS_le x.1; have h1 := ctIntSS_le x.2; simp only [ctTable, szTable]; omega
theorem ctNamed_le (x : NamedD) : ctNamed x ≤ 11 * (szNamed x + 1) := by have h0 := ctTable_le2 x.2; simp only [ctNamed, szNamed, ct1]; omega
theorem ctNamedS_le (xs : (List NamedD)) : (ctL ctNamed) xs ≤ 11 * (szL szNamed) xs := ctL_le (fun x => by have h := ctNamed_le x; omega) xs
theorem ctPadded_le (x : PaddedD) : ctPadded x ≤ 11 * (szPadded x + 1) := by have h0 := ctStringS_le x.1; have h1 := ctIntSS_le x.2.1; have h2 := ctBoolS_le x.2.2; simp only [ctPadded, szPadded, ct1]; omega
theorem ctvPadded_le (x : PaddedD) : ctvPadded x ≤ 11 * (szPadded x + 1) := by have h0 := ctStringS_le x.1; have h1 := ctIntSS_le x.2.1; have h2 := ctBoolS_le x.2.2; simp only [ctvPadded, szPadded]; omega

end Go.Proofs.YtnbaekjednmfjaaDoor
end

section
namespace Go.Proofs.YtnbaekjednmfjaaDoor
open Go.RowKit

theorem ctStr_len (xs : List ByteArray) : ctL ct1 xs = xs.length := by
  unfold ctL
  induction xs with
  | nil => rfl
  | cons x xs ih => simp only [List.map_cons, List.sum_cons, List.length_cons, ih, ct1]; omega
theorem mkStr_get : ∀ (xs : List ByteArray) (k : Int) (j : Nat), j < xs.length → (mkL mkS ct1 k xs)[j]? = some (markTextF (k + j))
  | [], k, j, h => by simp at h
  | x :: xs, k, 0, h => by simp [mkL, mkS]
  | x :: xs, k, j + 1, h => by
    have h1 := mkStr_get xs (k + 1) j (by simpa using h)
    simp only [mkL, List.getElem?_cons_succ, ct1]
    rw [show k + ((1 : Nat) : Int) = k + 1 from rfl, h1]
    congr 2
    omega


















































































end Go.Proofs.YtnbaekjednmfjaaDoor
end
