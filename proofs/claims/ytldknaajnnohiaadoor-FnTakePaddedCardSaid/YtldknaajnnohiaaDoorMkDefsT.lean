/- Marks that are texts. -/
import Derived.Test.YtldknaajnnohiaaDoorTab
import Derived.Laws.BytesArg
import Derived.Test.YtldknaajnnohiaaDoorMkDefs
section
namespace Go.Proofs.YtldknaajnnohiaaDoor
open Go.RowKit

theorem does_str1 {P : Program} {o : Oper} {a : Act} {w w0 : World} {Γ : List Fact} {T S E : TypeId} {x : Operand} {b i : Nat} {n : Int} (hS : Sat w0 w Γ) (ho : o.op = .convert T S x) (hx : a.eval x = .slice (some ⟨b, 0, none⟩) 1 1) [hi : BoxAt Γ b [.int .u8 n] i]
    (hs : P.underlying T = some (.slice E)) (he : P.underlying E = some (.int .u8)) (hd : P.underlying S = some .string) : Gives P o a w (.string (strOfNums [n])) := by
  have hc := run_convert_bytes_arg (P := P) w T E hs he b 0 1 1 [n] rfl (fun i hi' => by
    obtain rfl : i = 0 := by omega
    have := hS.boxCells hi.get 0 (.int .u8 n) rfl
    rw [Addr.add_lit] at this
    exact this) S hd
  unfold Gives execOp
  simp [ho, hx, hc]
def digB (d : Nat) : ByteArray := strOfNums [48 + (d : Int) % 10]
def digOut (k : Nat) (o : ByteArray) : ByteArray := if h : k = 0 then o else digOut (k / 10) (digB k ++ o)
termination_by k
decreasing_by omega
def markT (k : Nat) : ByteArray := if k = 0 then ⟨#[109, 48]⟩ else ⟨#[109]⟩ ++ digOut k ⟨#[]⟩
theorem digOut_0 (o : ByteArray) : digOut 0 o = o := by rw [digOut]; simp
theorem digOut_s {k : Nat} (h : k ≠ 0) (o : ByteArray) : digOut k o = digOut (k / 10) (digB k ++ o) := by rw [digOut, dif_neg h]
theorem digB_size (k : Nat) : (digB k).size = 1 := by unfold digB; rw [strOfNums_size]; rfl
set_option maxHeartbeats 1000000 in
set_option maxRecDepth 8000 in
theorem laws_markText (w : World) (k : Nat) (hk : k ≤ 4611686018427387904) :
    Calls Tryd.prog 169 #[.int .i64 (k : Int)] w fun e w' => e = .returned (.string (markT k)) ∧ Mod [] w w' := by
  have hS : Sat w w [] := Sat.nil w
  by_cases h0 : k = 0
  · subst h0
    go_enter Tryd.func169, Tryd.ntmps169
    go_wp2_with (first | ((with_reducible show wpList _ _ _ (⟨_, Op.box _ _, _, _, _, _⟩ :: _) _ _); refine Does.list (does_box hS rfl rfl (by rfl)) rfl ?_; clear hS; rintro _ wx ⟨bo, rfl, hS, _⟩; (simp only [Act.put, List.setIfInBounds_toArray, List.set_cons_zero, List.set_cons_succ])))
    go_ret
    exact ⟨rfl, hS.mod0⟩
  · have hkI : ¬ (k : Int) ≤ 0 := by omega
    have H0 := Lib.hid h0
    clear h0
    go_enter Tryd.func169, Tryd.ntmps169
    go_wp2_with (first | ((with_reducible show wpList _ _ _ (⟨_, Op.box _ _, _, _, _, _⟩ :: _) _ _); refine Does.list (does_box hS rfl rfl (by rfl)) rfl ?_; clear hS; rintro _ wx ⟨bo, rfl, hS, _⟩; (simp only [Act.put, List.setIfInBounds_toArray, List.set_cons_zero, List.set_cons_succ])))
    go_loopw [0, 3] (fun i s wr => ∃ (j f : Nat) (o : ByteArray), i = .int .i64 (j : Int) ∧ s = .string o ∧ digOut j o = digOut k ⟨#[]⟩ ∧ (j < 2 ^ f ∧ o.size + f = 70) ∧ j ≤ 4611686018427387904 ∧ Sat w wr []) (fun i _ _ => (intOf i).toNat)
    case atStart => exact ⟨k, 70, _, rfl, rfl, rfl, ⟨Nat.lt_of_le_of_lt hk (by decide), rfl⟩, hk, hS⟩
    case round =>
      clear hS
      obtain ⟨j, f, o, rfl, rfl, ho, ⟨hf, hof⟩, hj, hS⟩ := hrel
      have Ho := Lib.hid ho
      have Hf := Lib.hid hf
      clear ho hf
      by_cases hj0 : j = 0
      · subst hj0
        have hsz : ¬ 9223372036854775807 < 1 + o.size := by omega
        have H : Hid (markT k = ⟨#[109]⟩ ++ o) := Lib.hid (by unfold markT; rw [if_neg H0.out, ← Ho.out, digOut_0])
        go_wp2_with (first | ((with_reducible show wpList _ _ _ (⟨_, Op.box _ _, _, _, _, _⟩ :: _) _ _); refine Does.list (does_box hS rfl rfl (by rfl)) rfl ?_; clear hS; rintro _ wx ⟨bo, rfl, hS, _⟩; (simp only [Act.put, List.setIfInBounds_toArray, List.set_cons_zero, List.set_cons_succ])))
        go_ret
        exact ⟨by rw [H.out]; rfl, hS.mod0⟩
      · have hjI : (0 : Int) < (j : Int) := by omega
        have hfp : 0 < f := by
          rcases Nat.eq_zero_or_pos f with h | h
          · have := Hf.out; subst h; simp at this; omega
          · exact h
        have hsz : ¬ 9223372036854775807 < (strOfNums [48 + (j : Int) % 10]).size + o.size := by rw [strOfNums_size]; simp; omega
        have H := Lib.hid (digOut_s hj0 o)
        go_wp2_with (first | ((with_reducible show wpList _ _ _ (⟨_, Op.buildSlice _ _ _, _, _, _, _⟩ :: _) _ _); refine Does.list (does_buildSlice (X := ?_) (cs := ?_) (E := ?_) hS rfl ?_ ?_) rfl ?_; rotate_left 3; (go_simp; rfl); rfl; clear hS; rintro _ wx ⟨bx, rfl, hS, _⟩; (simp only [Act.put, List.setIfInBounds_toArray, List.set_cons_zero, List.set_cons_succ])) | ((with_reducible show wpList _ _ _ (⟨_, Op.convert _ _ _, _, _, _, _⟩ :: _) _ _); refine Gives.list (does_str1 hS rfl rfl Tryd.underlying22 Tryd.underlying5 Tryd.underlying9) rfl ?_; (simp only [Act.put, List.setIfInBounds_toArray, List.set_cons_zero, List.set_cons_succ])))
        go_roundw
        case rel => exact ⟨j / 10, f - 1, strOfNums [48 + (j : Int) % 10] ++ o, by simp, rfl, by rw [← Ho.out, H.out]; rfl, ⟨by
          have h1 := Hf.out
          obtain ⟨g, rfl⟩ : ∃ g, f = g + 1 := ⟨f - 1, by omega⟩
          rw [Nat.pow_succ] at h1
          simp only [Nat.add_sub_cancel]
          omega, by rw [ByteArray.size_append, strOfNums_size]; simp; omega⟩, by omega, hS.sel [] rfl (by decide)⟩
        case measure => simp [intOf]; omega
theorem digOut_size : ∀ (f k : Nat) (o : ByteArray), k < 2 ^ f → (digOut k o).size ≤ o.size + f
  | 0, k, o, h => by
    obtain rfl : k = 0 := by simpa using h
    rw [digOut_0]; omega
  | f + 1, k, o, h => by
    by_cases h0 : k = 0
    · subst h0; rw [digOut_0]; omega
    · rw [digOut_s h0]
      have h1 := digOut_size f (k / 10) (digB k ++ o) (by rw [Nat.pow_succ] at h; omega)
      rw [ByteArray.size_append, digB_size] at h1
      omega
def markTextF (k : Int) : ByteArray := if k ≤ 4611686018427387904 then markT k.toNat else ⟨#[]⟩
def mkS (k : Int) (_ : ByteArray) : ByteArray := markTextF k
theorem mkS_size (k : Int) (x : ByteArray) : (mkS k x).size ≤ maxLen := by
  unfold mkS markTextF
  split
  · rename_i h
    unfold markT
    split
    · decide
    · have h1 := digOut_size 70 k.toNat ⟨#[]⟩ (Nat.lt_of_le_of_lt (show k.toNat ≤ 4611686018427387904 by omega) (by decide))
      rw [ByteArray.size_append]
      have h2 : (ByteArray.size ⟨#[]⟩) = 0 := rfl
      have h3 : (ByteArray.size ⟨#[109]⟩) = 1 := rfl
      unfold maxLen
      omega
  · decide
theorem markText_any (w : World) (k : Int) (h0 : 0 ≤ k) (hk : k ≤ 4611686018427387904) :
    Calls Tryd.prog 169 #[.int .i64 k] w fun e w' => e = .returned (.string (markTextF k)) ∧ Mod [] w w' := by
  obtain ⟨n, rfl⟩ : ∃ n : Nat, k = n := ⟨k.toNat, by omega⟩
  refine (laws_markText w n (by omega)).mono ?_
  rintro e w' ⟨rfl, hM⟩
  exact ⟨by unfold markTextF; rw [if_pos hk]; rfl, hM⟩
end Go.Proofs.YtldknaajnnohiaaDoor
end

section
namespace Go.Proofs.YtldknaajnnohiaaDoor
open Go.RowKit
attribute [local go_sem] ext_cell

def ctTest (x : TestD) : Nat := ct1 x.1 + ct1 x.2.1 + ct1 x.2.2.1 + ct1 x.2.2.2
def mkTest (k : Int) (x : TestD) : TestD := (mkS k x.1, mkS (k + 1) x.2.1, mkI ((k + 1) + 1) x.2.2.1, mkS (((k + 1) + 1) + 1) x.2.2.2)
def ctShape (x : ShapeD) : Nat := ct1 x.1 + (ctL ct1) x.2.1 + ct1 x.2.2
def mkShape (k : Int) (x : ShapeD) : ShapeD := (mkS k x.1, (mkL mkS ct1) (k + 1) x.2.1, mkI ((k + 1) + ((ctL ct1) x.2.1 : Int)) x.2.2)
def ctvShape (x : ShapeD) : Nat := (ctL ct1) x.2.1
def mkvShape (k : Int) (x : ShapeD) : ShapeD := (x.1, (mkL mkS ct1) k x.2.1, x.2.2)
def ctTable (x : TableD) : Nat := (ctL ct1) x.1 + (ctL (ctL ct1)) x.2
def mkTable (k : Int) (x : TableD) : TableD := ((mkL mkS ct1) k x.1, (mkL (mkL mkI ct1) (ctL ct1)) (k + ((ctL ct1) x.1 : Int)) x.2)
def ctvTable (x : TableD) : Nat := (ctL ct1) x.1 + (ctL (ctL ct1)) x.2
def mkvTable (k : Int) (x : TableD) : TableD := ((mkL mkS ct1) k x.1, (mkL (mkL mkI ct1) (ctL ct1)) (k + ((ctL ct1) x.1 : Int)) x.2)
def ctNamed (x : NamedD) : Nat := ct1 x.1 + ctTable x.2
def mkNamed (k : Int) (x : NamedD) : NamedD := (mkS k x.1, mkTable (k + 1) x.2)
def ctvNamed (x : NamedD) : Nat := ctvTable x.2
def mkvNamed (k : Int) (x : NamedD) : NamedD := (x.1, mkvTable k x.2)
def ctPadded (x : PaddedD) : Nat := (ctL ct1) x.1 + (ctL (ctL ct1)) x.2.1 + (ctL ct1) x.2.2
def mkPadded (k : Int) (x : PaddedD) : PaddedD := ((mkL mkS ct1) k x.1, (mkL (mkL mkI ct1) (ctL ct1)) (k + ((ctL ct1) x.1 : Int)) x.2.1, (mkL mkB ct1) ((k + ((ctL ct1) x.1 : Int)) + ((ctL (ctL ct1)) x.2.1 : Int)) x.2.2)
def ctvPadded (x : PaddedD) : Nat := (ctL ct1) x.1 + (ctL (ctL ct1)) x.2.1 + (ctL ct1) x.2.2
def mkvPadded (k : Int) (x : PaddedD) : PaddedD := ((mkL mkS ct1) k x.1, (mkL (mkL mkI ct1) (ctL ct1)) (k + ((ctL ct1) x.1 : Int)) x.2.1, (mkL mkB ct1) ((k + ((ctL ct1) x.1 : Int)) + ((ctL (ctL ct1)) x.2.1 : Int)) x.2.2)
def ctStep (x : StepD) : Nat := ct1 x.1 + ct1 x.2.1 + ct1 x.2.2.1 + ct1 x.2.2.2.1 + (ctL (ctL ctTest)) x.2.2.2.2.1 + (ctL ct1) x.2.2.2.2.2.1 + ct1 x.2.2.2.2.2.2.1 + ct1 x.2.2.2.2.2.2.2
def mkStep (k : Int) (x : StepD) : StepD := (mkI k x.1, mkS (k + 1) x.2.1, mkS ((k + 1) + 1) x.2.2.1, mkS (((k + 1) + 1) + 1) x.2.2.2.1, (mkL (mkL mkTest ctTest) (ctL ctTest)) ((((k + 1) + 1) + 1) + 1) x.2.2.2.2.1, (mkL mkS ct1) (((((k + 1) + 1) + 1) + 1) + ((ctL (ctL ctTest)) x.2.2.2.2.1 : Int)) x.2.2.2.2.2.1, mkB ((((((k + 1) + 1) + 1) + 1) + ((ctL (ctL ctTest)) x.2.2.2.2.1 : Int)) + ((ctL ct1) x.2.2.2.2.2.1 : Int)) x.2.2.2.2.2.2.1, mkI (((((((k + 1) + 1) + 1) + 1) + ((ctL (ctL ctTest)) x.2.2.2.2.1 : Int)) + ((ctL ct1) x.2.2.2.2.2.1 : Int)) + 1) x.2.2.2.2.2.2.2)
def ctvStep (x : StepD) : Nat := (ctL (ctL ctTest)) x.2.2.2.2.1 + (ctL ct1) x.2.2.2.2.2.1
def mkvStep (k : Int) (x : StepD) : StepD := (x.1, x.2.1, x.2.2.1, x.2.2.2.1, (mkL (mkL mkTest ctTest) (ctL ctTest)) k x.2.2.2.2.1, (mkL mkS ct1) (k + ((ctL (ctL ctTest)) x.2.2.2.2.1 : Int)) x.2.2.2.2.2.1, x.2.2.2.2.2.2.1, x.2.2.2.2.2.2.2)
def ctQuery (x : QueryD) : Nat := (ctL ct1) x.1 + ct1 x.2.1 + ct1 x.2.2.1 + ct1 x.2.2.2.1 + ct1 x.2.2.2.2.1 + (ctL (ctL ctTest)) x.2.2.2.2.2.1 + ct1 x.2.2.2.2.2.2.1 + ct1 x.2.2.2.2.2.2.2.1 + ct1 x.2.2.2.2.2.2.2.2.1 + ct1 x.2.2.2.2.2.2.2.2.2.1 + ct1 x.2.2.2.2.2.2.2.2.2.2
def mkQuery (k : Int) (x : QueryD) : QueryD := ((mkL mkS ct1) k x.1, mkS (k + ((ctL ct1) x.1 : Int)) x.2.1, mkS ((k + ((ctL ct1) x.1 : Int)) + 1) x.2.2.1, mkS (((k + ((ctL ct1) x.1 : Int)) + 1) + 1) x.2.2.2.1, mkS ((((k + ((ctL ct1) x.1 : Int)) + 1) + 1) + 1) x.2.2.2.2.1, (mkL (mkL mkTest ctTest) (ctL ctTest)) (((((k + ((ctL ct1) x.1 : Int)) + 1) + 1) + 1) + 1) x.2.2.2.2.2.1, mkS ((((((k + ((ctL ct1) x.1 : Int)) + 1) + 1) + 1) + 1) + ((ctL (ctL ctTest)) x.2.2.2.2.2.1 : Int)) x.2.2.2.2.2.2.1, mkS (((((((k + ((ctL ct1) x.1 : Int)) + 1) + 1) + 1) + 1) + ((ctL (ctL ctTest)) x.2.2.2.2.2.1 : Int)) + 1) x.2.2.2.2.2.2.2.1, mkS ((((((((k + ((ctL ct1) x.1 : Int)) + 1) + 1) + 1) + 1) + ((ctL (ctL ctTest)) x.2.2.2.2.2.1 : Int)) + 1) + 1) x.2.2.2.2.2.2.2.2.1, mkB (((((((((k + ((ctL ct1) x.1 : Int)) + 1) + 1) + 1) + 1) + ((ctL (ctL ctTest)) x.2.2.2.2.2.1 : Int)) + 1) + 1) + 1) x.2.2.2.2.2.2.2.2.2.1, mkI ((((((((((k + ((ctL ct1) x.1 : Int)) + 1) + 1) + 1) + 1) + ((ctL (ctL ctTest)) x.2.2.2.2.2.1 : Int)) + 1) + 1) + 1) + 1) x.2.2.2.2.2.2.2.2.2.2)
def ctvQuery (x : QueryD) : Nat := (ctL ct1) x.1 + (ctL (ctL ctTest)) x.2.2.2.2.2.1
def mkvQuery (k : Int) (x : QueryD) : QueryD := ((mkL mkS ct1) k x.1, x.2.1, x.2.2.1, x.2.2.2.1, x.2.2.2.2.1, (mkL (mkL mkTest ctTest) (ctL ctTest)) (k + ((ctL ct1) x.1 : Int)) x.2.2.2.2.2.1, x.2.2.2.2.2.2.1, x.2.2.2.2.2.2.2.1, x.2.2.2.2.2.2.2.2.1, x.2.2.2.2.2.2.2.2.2.1, x.2.2.2.2.2.2.2.2.2.2)

end Go.Proofs.YtldknaajnnohiaaDoor
end

section
namespace Go.Proofs.YtldknaajnnohiaaDoor
open Go.RowKit
attribute [local go_sem] ext_cell

theorem ctStringS_le (xs : (List ByteArray)) : (ctL ct1) xs ≤ 11 * (szL szStr) xs := ctL_le (fun x => by simp only [ct1]; omega) xs
theorem ctShape_le (x : ShapeD) : ctShape x ≤ 11 * (szShape x + 1) := by have h0 := ctStringS_le x.2.1; simp only [ctShape, szShape, ct1]; omega
theorem ctvShape_le (x : ShapeD) : ctvShape x ≤ 11 * (szShape x + 1) := by have h0 := ctStringS_le x.2.1; simp only [ctvShape, szShape]; omega
theorem ctShapeS_le (xs : (List ShapeD)) : (ctL ctShape) xs ≤ 11 * (szL szShape) xs := ctL_le (fun x => by have h := ctShape_le x; omega) xs
theorem ctTable_le (x : TableD) : ctTable x ≤ 11 * (szTable x + 1) := by have h0 := ctStringS_le x.1; have h1 := ctIntSS_le x.2; simp only [ctTable, szTable, ct1]; omega
theorem ctvTable_le (x : TableD) : ctvTable x ≤ 11 * (szTable x + 1) := by have h0 := ctStringS_le x.1; have h1 := ctIntSS_le x.2; simp only [ctvTable, szTable]; omega
theorem ctTable_le2 (x : TableD) : ctTable x ≤ 11 * szTable x := by have h0 := ctStringS_le x.1; have h1 := ctIntSS_le x.2; simp only [ctTable, szTable]; omega
theorem ctNamed_le (x : NamedD) : ctNamed x ≤ 11 * (szNamed x + 1) := by have h0 := ctTable_le2 x.2; simp only [ctNamed, szNamed, ct1]; omega
theorem ctNamedS_le (xs : (List NamedD)) : (ctL ctNamed) xs ≤ 11 * (szL szNamed) xs := ctL_le (fun x => by have h := ctNamed_le x; omega) xs
theorem ctPadded_le (x : PaddedD) : ctPadded x ≤ 11 * (szPadded x + 1) := by have h0 := ctStringS_le x.1; have h1 := ctIntSS_le x.2.1; have h2 := ctBoolS_le x.2.2; simp only [ctPadded, szPadded, ct1]; omega
theorem ctvPadded_le (x : PaddedD) : ctvPadded x ≤ 11 * (szPadded x + 1) := by have h0 := ctStringS_le x.1; have h1 := ctIntSS_le x.2.1; have h2 := ctBoolS_le x.2.2; simp only [ctvPadded, szPadded]; omega

end Go.Proofs.YtldknaajnnohiaaDoor
end

section
namespace Go.Proofs.YtldknaajnnohiaaDoor
open Go.RowKit

theorem ctStr_len (xs : List ByteArray) : ctL ct1 xs = xs.length := by
  unfold ctL
  induction xs with
  | nil => rfl
  | cons x xs ih => simp only [List.map_cons, List.sum_cons, List.length_cons, ih, ct1]; omega
theorem mkStr_get : ∀ (xs : List ByteArray) (k : Int) (j : Nat), j < xs.length → (mkL mkS ct1 k xs)[j]? = some (markTextF (k + j))
  | [], k, j, h => by simp at h
  | x :: xs, k, 0, h => by simp [mkL, mkS]
  | x :: xs, k, j + 1, h => by
    have h1 := mkStr_get xs (k + 1) j (by simpa using h)
    simp only [mkL, List.getElem?_cons_succ, ct1]
    rw [show k + ((1 : Nat) : Int) = k + 1 from rfl, h1]
    congr 2
    omega
set_option maxHeartbeats 2000000 in
theorem heldStringS_any (w : World) (F : List Nat) (v : Value) (xs : List ByteArray) (k : Int) (hx : SliceHas Rep.str w F [v] ((mkL mkS ct1) k xs)) (h0 : 0 ≤ k) (h1 : k + ((ctL ct1) xs : Int) ≤ 4611686018427387904) :
    Calls Tryd.prog 115 #[v, .int .i64 k] w fun e w' => e = .returned (.int .i64 (k + ((ctL ct1) xs : Int))) ∧ Mod [] w w' := by
  obtain ⟨A, c, rfl, hn, _⟩ := hx.form'
  have hS : Sat w w [.ro Rep.str.slice [.slice A (mkL mkS ct1 k xs).length c] (mkL mkS ct1 k xs)] := (Sat.nil w).arg hx
  clear hx
  have hc := ctStr_len xs
  rw [hc] at h1
  have Hc := Lib.hid hc
  have hml := mkL_len mkS ct1 xs k
  rw [hml] at hS hn
  have Hg := Lib.hid (mkStr_get xs k)
  rw [hml]
  clear hml hc
  generalize mkL mkS ct1 k xs = ys at hS Hg
  go_enter Tryd.func115, Tryd.ntmps115
  go_wp2_with fail
  go_loopw [1, 5] (fun kk i wr => ∃ j : Nat, j ≤ xs.length ∧ i = .int .i64 j ∧ kk = .int .i64 (k + j) ∧ Sat w wr [.ro Rep.str.slice [.slice A xs.length c] ys]) (fun _ i _ => xs.length - (intOf i).toNat)
  case atStart => exact ⟨0, Nat.zero_le _, rfl, by simp, hS⟩
  case round =>
    clear hS
    obtain ⟨j, hj, rfl, rfl, hS⟩ := hrel
    by_cases hlt : j < xs.length
    · have hltI : (j : Int) < (xs.length : Int) := by omega
      obtain ⟨ad, rfl, ix, hS⟩ := hS.elStr A xs.length c (Hg.out j hlt)
      have ht := toList_t (rfl : markTextF (k + j) = markTextF (k + j))
      go_wp2_with (first | ((with_reducible show Code.wp _ (Code.region 4 _ true) _ _ _); refine wp_region_drawn [(0, 0), (1, 0), (2, 0), (3, 1), (4, 0), (5, 2), (6, 0)] (by kernel_rfl) (by kernel_rfl) (by intro _ _ dq _ _ hq; cases dq <;> exact hq) ?_; replace hS := hS.mod (Mod.drew (Mod.refl _ _)); (generalize hwd : World.drew _ = wz at hS ⊢); clear hwd) | ((with_reducible show wpD _ _ _ [] _ _); refine D_nil ?_) | ((with_reducible show wpD _ _ _ ((_, 0) :: _) _ _); (first | (refine D_skip rfl rfl ?_; (first | show wpD _ _ _ _ (Act.put _ (some _) _) _ | show wpD _ _ _ _ (Act.put _ none _) _); (simp only [Act.put, List.setIfInBounds_toArray, List.set_cons_zero, List.set_cons_succ])) | (refine D_pure (v := ?_) rfl rfl (fun wq => ?_) ?_; rotate_left 1; (show (Sem.run _ (execOp _ (Oper.mk _ _ _ _ _ _)) _) = _; go_simp; (try go_bits); with_reducible rfl); (first | show wpD _ _ _ _ (Act.put _ (some _) _) _ | show wpD _ _ _ _ (Act.put _ none _) _); (simp only [Act.put, List.setIfInBounds_toArray, List.set_cons_zero, List.set_cons_succ])))) | ((with_reducible show wpD _ _ _ ((_, 1) :: _) _ _); (first | (refine D_skip rfl rfl ?_; (first | show wpD _ _ _ _ (Act.put _ (some _) _) _ | show wpD _ _ _ _ (Act.put _ none _) _); (simp only [Act.put, List.setIfInBounds_toArray, List.set_cons_zero, List.set_cons_succ])) | ((first | refine D_load rfl rfl (fun x hx => f_load (hS.mod hx) rfl rfl (by rfl)) ?_ | refine D_load rfl rfl (fun x hx => f_loadS (hS.mod hx) rfl rfl (by rfl)) ?_ | refine D_load rfl rfl (fun x hx => f_loadAt (hS.mod hx) rfl rfl) ?_ | refine D_load rfl rfl (fun x hx => f_loadAtS (hS.mod hx) rfl rfl (by rfl)) ?_ | refine D_load rfl rfl (fun x hx => f_loadAtF (hS.mod hx) rfl rfl (by rfl)) ?_); (first | show wpD _ _ _ _ (Act.put _ (some _) _) _ | show wpD _ _ _ _ (Act.put _ none _) _); (simp only [Act.put, List.setIfInBounds_toArray, List.set_cons_zero, List.set_cons_succ])))) | ((with_reducible show wpD _ _ _ ((_, 2) :: _) _ _); (refine D_call (f := 169) (args := ?_) rfl rfl ?_ ?_); rotate_left 1; (show (Sem.run _ (execOp _ (Oper.mk _ _ _ _ _ _)) _) = _; go_simp; rfl); refine (markText_any _ _ (by omega) (by omega)).mono ?_; rintro e wy ⟨rfl, hM⟩; replace hS := hS.mod hM; refine ⟨_, rfl, hM, ?_⟩; clear hM; (first | show wpD _ _ _ _ (Act.put _ (some _) _) _ | show wpD _ _ _ _ (Act.put _ none _) _); (simp only [Act.put, List.setIfInBounds_toArray, List.set_cons_zero, List.set_cons_succ])))
      go_roundw
      case rel => exact ⟨j + 1, hlt, by go_num, by go_num, hS.sel [1] rfl (by decide)⟩
      case measure => simp [intOf]; omega
    · obtain rfl : j = xs.length := by omega
      go_wp2_with (first | ((with_reducible show wpList _ _ _ (⟨_, Op.box _ _, _, _, _, _⟩ :: _) _ _); refine Does.list (does_box hS rfl rfl (by rfl)) rfl ?_; clear hS; rintro _ wx ⟨bo, rfl, hS, _⟩; (simp only [Act.put, List.setIfInBounds_toArray, List.set_cons_zero, List.set_cons_succ])))
      go_ret
      exact ⟨by rw [Hc.out]; rfl, hS.mod0⟩
















































end Go.Proofs.YtldknaajnnohiaaDoor
end
