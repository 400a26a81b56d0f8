/- FnExactSealRow returns true for every input: the program's SealRow is the reference's, in memory of its own. -/
import Derived.Test.YthabgnhedmepjaaSeal
import Derived.Test.YthabgnhedmepjaaEqA
import Derived.Test.YthabgnhedmepjaaEqB
import Derived.Test.YthabgnhedmepjaaToA
import Derived.Test.YthabgnhedmepjaaMkA
import Derived.Test.YthabgnhedmepjaaCtA
import Derived.Test.YthabgnhedmepjaaReads
import Derived.Test.YthabgnhedmepjaaLawToolsC
namespace Go.Proofs.Ythabgnhedmepjaa
open Go.ChangeShapes Go.WideShapes Go.ChangeAt Go.RowKit
attribute [local go_sem] ext_cell eqB_rfl

set_option maxHeartbeats 4000000 in
set_option maxRecDepth 100000 in
theorem fnExactSealRow_calls (w : World) (aKey : Int) (iaKey : I64 aKey) (aNumber : Int) (iaNumber : I64 aNumber) (vaRow : Value) (FaRow : List Nat) (aRow : (List Int)) (haRow : SliceHas Rep.int w FaRow [vaRow] aRow) (aReal : Bool) :
    Calls Try.prog 5 #[.int .i64 aKey, .int .i64 aNumber, vaRow, .bool aReal] w fun e w' => e = .returned (.bool true) ∧ Mod [] w w' := by
  obtain ⟨AaRow, caRow, rfl, laRow, _⟩ := SliceHas.form' haRow
  have upaRow : ∀ g ∈ FaRow, g < w.heap.size := Rep.lt (Rep.int.slice) haRow
  by_cases qaRow : 1048576 < aRow.length
  case pos =>
    go_enter Try.func5, Try.ntmps5
    go_wp2_with fail
    go_ret
    exact ⟨rfl, (by repeat (first | exact Mod.refl _ _ | apply Mod.alloc | apply Mod.drewN))⟩
  go_enter Try.func5, Try.ntmps5
  go_wp2_with fail
  refine (toIntS_any _ _ _ aRow (Rep.mod0 (Rep.int.slice) haRow (by repeat (first | exact Mod.refl _ _ | apply Mod.alloc | apply Mod.drewN))) (by rw [show (szL szZ) aRow = aRow.length from by simp [szL, sum_szZ]]; omega)).mono ?_
  rintro e w1 ⟨v3, rfl, G3, h3, n3, l3, m3⟩
  have M1 : Mod [] w w1 := Mod.seqL (by repeat (first | exact Mod.refl _ _ | apply Mod.alloc | apply Mod.drewN)) m3
  have z1 := M1.size
  have C1 := M1
  replace haRow := Rep.mod0 (Rep.int.slice) haRow M1
  have lo4 : ∀ g ∈ G3, w.heap.size ≤ g := fun g hg => Nat.le_trans (Mod.size (F := []) (w := w) (by repeat (first | exact Mod.refl _ _ | apply Mod.alloc | apply Mod.drewN))) (l3 g hg)
  have up4 : ∀ g ∈ G3, g < w1.heap.size := Rep.lt (Rep.int.slice) h3
  have la4 : ∀ g ∈ G3, w.heap.size ≤ g := fun g hg => by have h1 := lo4 g hg; omega
  obtain ⟨A3, c3, rfl, _⟩ := SliceHas.form' h3
  go_wp2_with fail
  refine (spec_SealRow aKey aNumber aReal _ _ _ aRow (Rep.mod0 (Rep.int.slice) h3 (by repeat (first | exact Mod.refl _ _ | apply Mod.alloc | apply Mod.drewN))) ).mono ?_
  rintro e w2 ⟨v6, rfl, G6, h6, n6, l6, m6⟩
  have M2 : Mod [] w1 w2 := Mod.seqL (by repeat (first | exact Mod.refl _ _ | apply Mod.alloc | apply Mod.drewN)) m6
  have z2 := M2.size
  have C2 : Mod [] w w2 := C1.seq M2
  replace haRow := Rep.mod0 (Rep.int.slice) haRow M2
  have lo7 : ∀ g ∈ G6, w1.heap.size ≤ g := fun g hg => Nat.le_trans (Mod.size (F := []) (w := w1) (by repeat (first | exact Mod.refl _ _ | apply Mod.alloc | apply Mod.drewN))) (l6 g hg)
  have up7 : ∀ g ∈ G6, g < w2.heap.size := Rep.lt rSealed h6
  have la7 : ∀ g ∈ G6, w.heap.size ≤ g := fun g hg => by have h1 := lo7 g hg; have h2 := C1.size; omega
  have h6o := h6
  obtain ⟨At6_1, ct6_1, _, rfl, _, _, _, _⟩ := rSealed_open h6o
  go_wp2_with fail
  refine (toIntS_any _ _ _ aRow (Rep.mod0 (Rep.int.slice) haRow (by repeat (first | exact Mod.refl _ _ | apply Mod.alloc | apply Mod.drewN))) (by rw [show (szL szZ) aRow = aRow.length from by simp [szL, sum_szZ]]; omega)).mono ?_
  rintro e w3 ⟨v9, rfl, G9, h9, n9, l9, m9⟩
  have M3 : Mod [] w2 w3 := Mod.seqL (by repeat (first | exact Mod.refl _ _ | apply Mod.alloc | apply Mod.drewN)) m9
  have z3 := M3.size
  have C3 : Mod [] w w3 := C2.seq M3
  replace haRow := Rep.mod0 (Rep.int.slice) haRow M3
  replace h6 := Rep.mod0 rSealed h6 M3
  replace n6 := n6.mod0 M3
  have b6x0 : w3.cell? ⟨w2.heap.size, 0, none⟩ = some (.int .i64 (sealRowF aKey aNumber aRow aReal).1) := (m9.cell (p := ⟨w2.heap.size, 0, none⟩) (by simp) (by simp)).trans (by simp [go_sem])
  have b6x1 : w3.cell? ⟨w2.heap.size, 1, none⟩ = some (.slice At6_1 (sealRowF aKey aNumber aRow aReal).2.1.length ct6_1) := (m9.cell (p := ⟨w2.heap.size, 1, none⟩) (by simp) (by simp)).trans (by simp [go_sem])
  have b6x2 : w3.cell? ⟨w2.heap.size, 2, none⟩ = some (.int .i64 (sealRowF aKey aNumber aRow aReal).2.2) := (m9.cell (p := ⟨w2.heap.size, 2, none⟩) (by simp) (by simp)).trans (by simp [go_sem])
  have b6xz : w2.heap.size < w3.heap.size := World.block_lt_of_cell? _ _ b6x0
  have b6xw := b6xz
  have lo10 : ∀ g ∈ G9, w2.heap.size ≤ g := fun g hg => Nat.le_trans (Mod.size (F := []) (w := w2) (by repeat (first | exact Mod.refl _ _ | apply Mod.alloc | apply Mod.drewN))) (l9 g hg)
  have up10 : ∀ g ∈ G9, g < w3.heap.size := Rep.lt (Rep.int.slice) h9
  have la10 : ∀ g ∈ G9, w.heap.size ≤ g := fun g hg => by have h1 := lo10 g hg; have h2 := C2.size; omega
  obtain ⟨A9, c9, rfl, _⟩ := SliceHas.form' h9
  go_wp2_with fail
  refine (impl_SealRow aKey aNumber aReal _ _ _ aRow (Rep.mod0 (Rep.int.slice) h9 (by repeat (first | exact Mod.refl _ _ | apply Mod.alloc | apply Mod.drewN))) ).mono ?_
  rintro e w4 ⟨v12, rfl, G12, h12, n12, l12, m12⟩
  have M4 : Mod [] w3 w4 := Mod.seqL (by repeat (first | exact Mod.refl _ _ | apply Mod.alloc | apply Mod.drewN)) m12
  have z4 := M4.size
  have C4 : Mod [] w w4 := C3.seq M4
  replace haRow := Rep.mod0 (Rep.int.slice) haRow M4
  replace h6 := Rep.mod0 rSealed h6 M4
  replace n6 := n6.mod0 M4
  replace h9 := Rep.mod0 (Rep.int.slice) h9 M4
  replace n9 := n9.mod0 M4
  replace b6x0 := (M4.cell (World.block_lt_of_cell? _ _ b6x0) (by simp)).trans b6x0
  replace b6x1 := (M4.cell (World.block_lt_of_cell? _ _ b6x1) (by simp)).trans b6x1
  replace b6x2 := (M4.cell (World.block_lt_of_cell? _ _ b6x2) (by simp)).trans b6x2
  replace b6xz := Nat.lt_of_lt_of_le b6xz M4.size
  have lo13 : ∀ g ∈ G12, w3.heap.size ≤ g := fun g hg => Nat.le_trans (Mod.size (F := []) (w := w3) (by repeat (first | exact Mod.refl _ _ | apply Mod.alloc | apply Mod.drewN))) (l12 g hg)
  have up13 : ∀ g ∈ G12, g < w4.heap.size := Rep.lt rSealed h12
  have la13 : ∀ g ∈ G12, w.heap.size ≤ g := fun g hg => by have h1 := lo13 g hg; have h2 := C3.size; omega
  have h12o := h12
  obtain ⟨At12_1, ct12_1, _, rfl, _, _, _, _⟩ := rSealed_open h12o
  go_wp2_with fail
  refine (eqSealed_any _ _ _ _ _ _ _ (Rep.mod0 rSealed h12 (by repeat (first | exact Mod.refl _ _ | apply Mod.alloc | apply Mod.drewN))) (Rep.mod0 rSealed h6 (by repeat (first | exact Mod.refl _ _ | apply Mod.alloc | apply Mod.drewN)))).mono ?_
  rintro e w5 ⟨rfl, m15⟩
  have M5 : Mod [] w4 w5 := Mod.seqL (by repeat (first | exact Mod.refl _ _ | apply Mod.alloc | apply Mod.drewN)) m15
  have z5 := M5.size
  have C5 : Mod [] w w5 := C4.seq M5
  replace haRow := Rep.mod0 (Rep.int.slice) haRow M5
  replace h6 := Rep.mod0 rSealed h6 M5
  replace n6 := n6.mod0 M5
  replace h9 := Rep.mod0 (Rep.int.slice) h9 M5
  replace n9 := n9.mod0 M5
  replace h12 := Rep.mod0 rSealed h12 M5
  replace n12 := n12.mod0 M5
  replace b6x0 := (M5.cell (World.block_lt_of_cell? _ _ b6x0) (by simp)).trans b6x0
  replace b6x1 := (M5.cell (World.block_lt_of_cell? _ _ b6x1) (by simp)).trans b6x1
  replace b6x2 := (M5.cell (World.block_lt_of_cell? _ _ b6x2) (by simp)).trans b6x2
  replace b6xz := Nat.lt_of_lt_of_le b6xz M5.size
  have b12x0 : w5.cell? ⟨w4.heap.size, 0, none⟩ = some (.int .i64 (sealRowF aKey aNumber aRow aReal).1) := (m15.cell (p := ⟨w4.heap.size, 0, none⟩) (by simp) (by simp)).trans (by simp [go_sem])
  have b12x1 : w5.cell? ⟨w4.heap.size, 1, none⟩ = some (.slice At12_1 (sealRowF aKey aNumber aRow aReal).2.1.length ct12_1) := (m15.cell (p := ⟨w4.heap.size, 1, none⟩) (by simp) (by simp)).trans (by simp [go_sem])
  have b12x2 : w5.cell? ⟨w4.heap.size, 2, none⟩ = some (.int .i64 (sealRowF aKey aNumber aRow aReal).2.2) := (m15.cell (p := ⟨w4.heap.size, 2, none⟩) (by simp) (by simp)).trans (by simp [go_sem])
  have b12xz : w4.heap.size < w5.heap.size := World.block_lt_of_cell? _ _ b12x0
  have b12xw := b12xz
  go_wp2_with fail
  refine (toIntS_any _ _ _ aRow (Rep.mod0 (Rep.int.slice) haRow (by repeat (first | exact Mod.refl _ _ | apply Mod.alloc | apply Mod.drewN))) (by rw [show (szL szZ) aRow = aRow.length from by simp [szL, sum_szZ]]; omega)).mono ?_
  rintro e w6 ⟨v17, rfl, G17, h17, n17, l17, m17⟩
  have M6 : Mod [] w5 w6 := Mod.seqL (by repeat (first | exact Mod.refl _ _ | apply Mod.alloc | apply Mod.drewN)) m17
  have z6 := M6.size
  have C6 : Mod [] w w6 := C5.seq M6
  replace haRow := Rep.mod0 (Rep.int.slice) haRow M6
  replace h6 := Rep.mod0 rSealed h6 M6
  replace n6 := n6.mod0 M6
  replace h9 := Rep.mod0 (Rep.int.slice) h9 M6
  replace n9 := n9.mod0 M6
  replace h12 := Rep.mod0 rSealed h12 M6
  replace n12 := n12.mod0 M6
  replace b6x0 := (M6.cell (World.block_lt_of_cell? _ _ b6x0) (by simp)).trans b6x0
  replace b6x1 := (M6.cell (World.block_lt_of_cell? _ _ b6x1) (by simp)).trans b6x1
  replace b6x2 := (M6.cell (World.block_lt_of_cell? _ _ b6x2) (by simp)).trans b6x2
  replace b6xz := Nat.lt_of_lt_of_le b6xz M6.size
  replace b12x0 := (M6.cell (World.block_lt_of_cell? _ _ b12x0) (by simp)).trans b12x0
  replace b12x1 := (M6.cell (World.block_lt_of_cell? _ _ b12x1) (by simp)).trans b12x1
  replace b12x2 := (M6.cell (World.block_lt_of_cell? _ _ b12x2) (by simp)).trans b12x2
  replace b12xz := Nat.lt_of_lt_of_le b12xz M6.size
  have lo18 : ∀ g ∈ G17, w5.heap.size ≤ g := fun g hg => Nat.le_trans (Mod.size (F := []) (w := w5) (by repeat (first | exact Mod.refl _ _ | apply Mod.alloc | apply Mod.drewN))) (l17 g hg)
  have up18 : ∀ g ∈ G17, g < w6.heap.size := Rep.lt (Rep.int.slice) h17
  have la18 : ∀ g ∈ G17, w.heap.size ≤ g := fun g hg => by have h1 := lo18 g hg; have h2 := C5.size; omega
  obtain ⟨A17, c17, rfl, _⟩ := SliceHas.form' h17
  go_wp2_with fail
  refine (eqIntS_any _ _ _ _ _ _ _ (Rep.mod0 (Rep.int.slice) h9 (by repeat (first | exact Mod.refl _ _ | apply Mod.alloc | apply Mod.drewN))) (Rep.mod0 (Rep.int.slice) h17 (by repeat (first | exact Mod.refl _ _ | apply Mod.alloc | apply Mod.drewN)))).mono ?_
  rintro e w7 ⟨rfl, m20⟩
  have M7 : Mod [] w6 w7 := Mod.seqL (by repeat (first | exact Mod.refl _ _ | apply Mod.alloc | apply Mod.drewN)) m20
  have z7 := M7.size
  have C7 : Mod [] w w7 := C6.seq M7
  replace haRow := Rep.mod0 (Rep.int.slice) haRow M7
  replace h6 := Rep.mod0 rSealed h6 M7
  replace n6 := n6.mod0 M7
  replace h9 := Rep.mod0 (Rep.int.slice) h9 M7
  replace n9 := n9.mod0 M7
  replace h12 := Rep.mod0 rSealed h12 M7
  replace n12 := n12.mod0 M7
  replace b6x0 := (M7.cell (World.block_lt_of_cell? _ _ b6x0) (by simp)).trans b6x0
  replace b6x1 := (M7.cell (World.block_lt_of_cell? _ _ b6x1) (by simp)).trans b6x1
  replace b6x2 := (M7.cell (World.block_lt_of_cell? _ _ b6x2) (by simp)).trans b6x2
  replace b6xz := Nat.lt_of_lt_of_le b6xz M7.size
  replace b12x0 := (M7.cell (World.block_lt_of_cell? _ _ b12x0) (by simp)).trans b12x0
  replace b12x1 := (M7.cell (World.block_lt_of_cell? _ _ b12x1) (by simp)).trans b12x1
  replace b12x2 := (M7.cell (World.block_lt_of_cell? _ _ b12x2) (by simp)).trans b12x2
  replace b12xz := Nat.lt_of_lt_of_le b12xz M7.size
  go_wp2_with fail
  have ct21 : ((ctL ct1) (aRow)) ≤ 1099511627776 := by have h1 := ctIntS_le aRow; have h2 := (show (szL szZ) aRow ≤ 1048576 from by rw [show (szL szZ) aRow = aRow.length from by simp [szL, sum_szZ]]; omega); omega
  refine (markIntS_any _ _ _ (aRow) _ (Rep.mod0 (Rep.int.slice) h9 (by repeat (first | exact Mod.refl _ _ | apply Mod.alloc | apply Mod.drewN))) (n9.mod0 (by repeat (first | exact Mod.refl _ _ | apply Mod.alloc | apply Mod.drewN))) (by omega) (by omega)).mono ?_
  rintro e w8 ⟨rfl, h21m, n21m, m21⟩
  have M8 : Mod G9 w7 w8 := Mod.seqL (by repeat (first | exact Mod.refl _ _ | apply Mod.alloc | apply Mod.drewN)) m21
  have z8 := M8.size
  have C8 : Mod [] w w8 := Mod.seqD C7 M8 (fun g hg => la10 g hg)
  replace haRow := Rep.mod (Rep.int.slice) haRow M8 (fun g hg hg' => absurd (upaRow g hg) (by have := lo10 g hg'; omega))
  replace h6 := Rep.mod rSealed h6 M8 (fun g hg hg' => absurd (up7 g hg) (by have := lo10 g hg'; omega))
  replace n6 := n6.mod M8 (fun g hg hg' => absurd (up7 g hg) (by have := lo10 g hg'; omega))
  replace h12 := Rep.mod rSealed h12 M8 (fun g hg hg' => absurd (up10 g hg') (by have := lo13 g hg; omega))
  replace n12 := n12.mod M8 (fun g hg hg' => absurd (up10 g hg') (by have := lo13 g hg; omega))
  replace b6x0 := (M8.cell (World.block_lt_of_cell? _ _ b6x0) (fun hg => by have q0 := up10 _ hg; have q1 := lo10 _ hg; have q2 := l9 _ hg; (try simp at q0); (try simp at q1); (try simp at q2); (try omega))).trans b6x0
  replace b6x1 := (M8.cell (World.block_lt_of_cell? _ _ b6x1) (fun hg => by have q0 := up10 _ hg; have q1 := lo10 _ hg; have q2 := l9 _ hg; (try simp at q0); (try simp at q1); (try simp at q2); (try omega))).trans b6x1
  replace b6x2 := (M8.cell (World.block_lt_of_cell? _ _ b6x2) (fun hg => by have q0 := up10 _ hg; have q1 := lo10 _ hg; have q2 := l9 _ hg; (try simp at q0); (try simp at q1); (try simp at q2); (try omega))).trans b6x2
  replace b6xz := Nat.lt_of_lt_of_le b6xz M8.size
  replace b12x0 := (M8.cell (World.block_lt_of_cell? _ _ b12x0) (fun hg => by have q0 := up10 _ hg; have q1 := lo10 _ hg; have q2 := l9 _ hg; (try simp at q0); (try simp at q1); (try simp at q2); (try omega))).trans b12x0
  replace b12x1 := (M8.cell (World.block_lt_of_cell? _ _ b12x1) (fun hg => by have q0 := up10 _ hg; have q1 := lo10 _ hg; have q2 := l9 _ hg; (try simp at q0); (try simp at q1); (try simp at q2); (try omega))).trans b12x1
  replace b12x2 := (M8.cell (World.block_lt_of_cell? _ _ b12x2) (fun hg => by have q0 := up10 _ hg; have q1 := lo10 _ hg; have q2 := l9 _ hg; (try simp at q0); (try simp at q1); (try simp at q2); (try omega))).trans b12x2
  replace b12xz := Nat.lt_of_lt_of_le b12xz M8.size
  go_wp2_with fail
  refine (eqSealed_any _ _ _ _ _ _ _ (Rep.mod0 rSealed h12 (by repeat (first | exact Mod.refl _ _ | apply Mod.alloc | apply Mod.drewN))) (Rep.mod0 rSealed h6 (by repeat (first | exact Mod.refl _ _ | apply Mod.alloc | apply Mod.drewN)))).mono ?_
  rintro e w9 ⟨rfl, m22⟩
  have M9 : Mod [] w8 w9 := Mod.seqL (by repeat (first | exact Mod.refl _ _ | apply Mod.alloc | apply Mod.drewN)) m22
  have z9 := M9.size
  have C9 : Mod [] w w9 := C8.seq M9
  replace haRow := Rep.mod0 (Rep.int.slice) haRow M9
  replace h6 := Rep.mod0 rSealed h6 M9
  replace n6 := n6.mod0 M9
  replace h12 := Rep.mod0 rSealed h12 M9
  replace n12 := n12.mod0 M9
  replace b6x0 := (M9.cell (World.block_lt_of_cell? _ _ b6x0) (by simp)).trans b6x0
  replace b6x1 := (M9.cell (World.block_lt_of_cell? _ _ b6x1) (by simp)).trans b6x1
  replace b6x2 := (M9.cell (World.block_lt_of_cell? _ _ b6x2) (by simp)).trans b6x2
  replace b6xz := Nat.lt_of_lt_of_le b6xz M9.size
  replace b12x0 := (M9.cell (World.block_lt_of_cell? _ _ b12x0) (by simp)).trans b12x0
  replace b12x1 := (M9.cell (World.block_lt_of_cell? _ _ b12x1) (by simp)).trans b12x1
  replace b12x2 := (M9.cell (World.block_lt_of_cell? _ _ b12x2) (by simp)).trans b12x2
  replace b12xz := Nat.lt_of_lt_of_le b12xz M9.size
  go_wp2_with fail
  have ct23 : (ctvSealed (sealRowF aKey aNumber aRow aReal)) ≤ 1099511627776 := by have h1 := ctSealed_seal aKey aNumber aRow aReal; omega
  refine (markSealed_any _ _ _ (sealRowF aKey aNumber aRow aReal) _ (Rep.mod0 rSealed h12 (by repeat (first | exact Mod.refl _ _ | apply Mod.alloc | apply Mod.drewN))) (n12.mod0 (by repeat (first | exact Mod.refl _ _ | apply Mod.alloc | apply Mod.drewN))) (by omega) (by omega)).mono ?_
  rintro e w10 ⟨rfl, h23m, n23m, m23⟩
  have M10 : Mod G12 w9 w10 := Mod.seqL (by repeat (first | exact Mod.refl _ _ | apply Mod.alloc | apply Mod.drewN)) m23
  have z10 := M10.size
  have C10 : Mod [] w w10 := Mod.seqD C9 M10 (fun g hg => la13 g hg)
  replace haRow := Rep.mod (Rep.int.slice) haRow M10 (fun g hg hg' => absurd (upaRow g hg) (by have := lo13 g hg'; omega))
  replace h6 := Rep.mod rSealed h6 M10 (fun g hg hg' => absurd (up7 g hg) (by have := lo13 g hg'; omega))
  replace n6 := n6.mod M10 (fun g hg hg' => absurd (up7 g hg) (by have := lo13 g hg'; omega))
  replace b6x0 := (M10.cell (World.block_lt_of_cell? _ _ b6x0) (fun hg => by have q0 := up13 _ hg; have q1 := lo13 _ hg; have q2 := l12 _ hg; (try simp at q0); (try simp at q1); (try simp at q2); (try omega))).trans b6x0
  replace b6x1 := (M10.cell (World.block_lt_of_cell? _ _ b6x1) (fun hg => by have q0 := up13 _ hg; have q1 := lo13 _ hg; have q2 := l12 _ hg; (try simp at q0); (try simp at q1); (try simp at q2); (try omega))).trans b6x1
  replace b6x2 := (M10.cell (World.block_lt_of_cell? _ _ b6x2) (fun hg => by have q0 := up13 _ hg; have q1 := lo13 _ hg; have q2 := l12 _ hg; (try simp at q0); (try simp at q1); (try simp at q2); (try omega))).trans b6x2
  replace b6xz := Nat.lt_of_lt_of_le b6xz M10.size
  replace b12x0 := (M10.cell (World.block_lt_of_cell? _ _ b12x0) (fun hg => by have q0 := up13 _ hg; have q1 := lo13 _ hg; have q2 := l12 _ hg; (try simp at q0); (try simp at q1); (try simp at q2); (try omega))).trans b12x0
  replace b12x1 := (M10.cell (World.block_lt_of_cell? _ _ b12x1) (fun hg => by have q0 := up13 _ hg; have q1 := lo13 _ hg; have q2 := l12 _ hg; (try simp at q0); (try simp at q1); (try simp at q2); (try omega))).trans b12x1
  replace b12x2 := (M10.cell (World.block_lt_of_cell? _ _ b12x2) (fun hg => by have q0 := up13 _ hg; have q1 := lo13 _ hg; have q2 := l12 _ hg; (try simp at q0); (try simp at q1); (try simp at q2); (try omega))).trans b12x2
  replace b12xz := Nat.lt_of_lt_of_le b12xz M10.size
  go_wp2_with fail
  refine (heldSealed_any _ _ _ (sealRowF aKey aNumber aRow aReal) _ (Rep.mod0 rSealed h23m (by repeat (first | exact Mod.refl _ _ | apply Mod.alloc | apply Mod.drewN))) (by omega) (by omega)).mono ?_
  rintro e w11 ⟨rfl, m24⟩
  have M11 : Mod [] w10 w11 := Mod.seqL (by repeat (first | exact Mod.refl _ _ | apply Mod.alloc | apply Mod.drewN)) m24
  have z11 := M11.size
  have C11 : Mod [] w w11 := C10.seq M11
  replace haRow := Rep.mod0 (Rep.int.slice) haRow M11
  replace h6 := Rep.mod0 rSealed h6 M11
  replace n6 := n6.mod0 M11
  replace h23m := Rep.mod0 rSealed h23m M11
  replace n23m := n23m.mod0 M11
  replace b6x0 := (M11.cell (World.block_lt_of_cell? _ _ b6x0) (by simp)).trans b6x0
  replace b6x1 := (M11.cell (World.block_lt_of_cell? _ _ b6x1) (by simp)).trans b6x1
  replace b6x2 := (M11.cell (World.block_lt_of_cell? _ _ b6x2) (by simp)).trans b6x2
  replace b6xz := Nat.lt_of_lt_of_le b6xz M11.size
  replace b12x0 := (M11.cell (World.block_lt_of_cell? _ _ b12x0) (by simp)).trans b12x0
  replace b12x1 := (M11.cell (World.block_lt_of_cell? _ _ b12x1) (by simp)).trans b12x1
  replace b12x2 := (M11.cell (World.block_lt_of_cell? _ _ b12x2) (by simp)).trans b12x2
  replace b12xz := Nat.lt_of_lt_of_le b12xz M11.size
  go_wp2_with fail
  refine (toIntS_any _ _ _ aRow (Rep.mod0 (Rep.int.slice) haRow (by repeat (first | exact Mod.refl _ _ | apply Mod.alloc | apply Mod.drewN))) (by rw [show (szL szZ) aRow = aRow.length from by simp [szL, sum_szZ]]; omega)).mono ?_
  rintro e w12 ⟨v26, rfl, G26, h26, n26, l26, m26⟩
  have M12 : Mod [] w11 w12 := Mod.seqL (by repeat (first | exact Mod.refl _ _ | apply Mod.alloc | apply Mod.drewN)) m26
  have z12 := M12.size
  have C12 : Mod [] w w12 := C11.seq M12
  replace h6 := Rep.mod0 rSealed h6 M12
  replace n6 := n6.mod0 M12
  replace h23m := Rep.mod0 rSealed h23m M12
  replace n23m := n23m.mod0 M12
  replace b6x0 := (M12.cell (World.block_lt_of_cell? _ _ b6x0) (by simp)).trans b6x0
  replace b6x1 := (M12.cell (World.block_lt_of_cell? _ _ b6x1) (by simp)).trans b6x1
  replace b6x2 := (M12.cell (World.block_lt_of_cell? _ _ b6x2) (by simp)).trans b6x2
  replace b6xz := Nat.lt_of_lt_of_le b6xz M12.size
  replace b12x0 := (M12.cell (World.block_lt_of_cell? _ _ b12x0) (by simp)).trans b12x0
  replace b12x1 := (M12.cell (World.block_lt_of_cell? _ _ b12x1) (by simp)).trans b12x1
  replace b12x2 := (M12.cell (World.block_lt_of_cell? _ _ b12x2) (by simp)).trans b12x2
  replace b12xz := Nat.lt_of_lt_of_le b12xz M12.size
  have lo27 : ∀ g ∈ G26, w11.heap.size ≤ g := fun g hg => Nat.le_trans (Mod.size (F := []) (w := w11) (by repeat (first | exact Mod.refl _ _ | apply Mod.alloc | apply Mod.drewN))) (l26 g hg)
  have up27 : ∀ g ∈ G26, g < w12.heap.size := Rep.lt (Rep.int.slice) h26
  have la27 : ∀ g ∈ G26, w.heap.size ≤ g := fun g hg => by have h1 := lo27 g hg; have h2 := C11.size; omega
  obtain ⟨A26, c26, rfl, _⟩ := SliceHas.form' h26
  go_wp2_with fail
  refine (impl_SealRow aKey aNumber aReal _ _ _ aRow (Rep.mod0 (Rep.int.slice) h26 (by repeat (first | exact Mod.refl _ _ | apply Mod.alloc | apply Mod.drewN))) ).mono ?_
  rintro e w13 ⟨v29, rfl, G29, h29, n29, l29, m29⟩
  have M13 : Mod [] w12 w13 := Mod.seqL (by repeat (first | exact Mod.refl _ _ | apply Mod.alloc | apply Mod.drewN)) m29
  have z13 := M13.size
  have C13 : Mod [] w w13 := C12.seq M13
  replace h6 := Rep.mod0 rSealed h6 M13
  replace n6 := n6.mod0 M13
  replace h23m := Rep.mod0 rSealed h23m M13
  replace n23m := n23m.mod0 M13
  replace b6x0 := (M13.cell (World.block_lt_of_cell? _ _ b6x0) (by simp)).trans b6x0
  replace b6x1 := (M13.cell (World.block_lt_of_cell? _ _ b6x1) (by simp)).trans b6x1
  replace b6x2 := (M13.cell (World.block_lt_of_cell? _ _ b6x2) (by simp)).trans b6x2
  replace b6xz := Nat.lt_of_lt_of_le b6xz M13.size
  replace b12x0 := (M13.cell (World.block_lt_of_cell? _ _ b12x0) (by simp)).trans b12x0
  replace b12x1 := (M13.cell (World.block_lt_of_cell? _ _ b12x1) (by simp)).trans b12x1
  replace b12x2 := (M13.cell (World.block_lt_of_cell? _ _ b12x2) (by simp)).trans b12x2
  replace b12xz := Nat.lt_of_lt_of_le b12xz M13.size
  have lo30 : ∀ g ∈ G29, w12.heap.size ≤ g := fun g hg => Nat.le_trans (Mod.size (F := []) (w := w12) (by repeat (first | exact Mod.refl _ _ | apply Mod.alloc | apply Mod.drewN))) (l29 g hg)
  have up30 : ∀ g ∈ G29, g < w13.heap.size := Rep.lt rSealed h29
  have la30 : ∀ g ∈ G29, w.heap.size ≤ g := fun g hg => by have h1 := lo30 g hg; have h2 := C12.size; omega
  have h29o := h29
  obtain ⟨At29_1, ct29_1, _, rfl, _, _, _, _⟩ := rSealed_open h29o
  go_wp2_with fail
  refine (eqSealed_any _ _ _ _ _ _ _ (Rep.mod0 rSealed h29 (by repeat (first | exact Mod.refl _ _ | apply Mod.alloc | apply Mod.drewN))) (Rep.mod0 rSealed h6 (by repeat (first | exact Mod.refl _ _ | apply Mod.alloc | apply Mod.drewN)))).mono ?_
  rintro e w14 ⟨rfl, m32⟩
  have M14 : Mod [] w13 w14 := Mod.seqL (by repeat (first | exact Mod.refl _ _ | apply Mod.alloc | apply Mod.drewN)) m32
  have z14 := M14.size
  have C14 : Mod [] w w14 := C13.seq M14
  replace h23m := Rep.mod0 rSealed h23m M14
  replace n23m := n23m.mod0 M14
  replace b12x0 := (M14.cell (World.block_lt_of_cell? _ _ b12x0) (by simp)).trans b12x0
  replace b12x1 := (M14.cell (World.block_lt_of_cell? _ _ b12x1) (by simp)).trans b12x1
  replace b12x2 := (M14.cell (World.block_lt_of_cell? _ _ b12x2) (by simp)).trans b12x2
  replace b12xz := Nat.lt_of_lt_of_le b12xz M14.size
  go_wp2_with fail
  refine (heldSealed_any _ _ _ (sealRowF aKey aNumber aRow aReal) _ (Rep.mod0 rSealed h23m (by repeat (first | exact Mod.refl _ _ | apply Mod.alloc | apply Mod.drewN))) (by omega) (by omega)).mono ?_
  rintro e w15 ⟨rfl, m33⟩
  have M15 : Mod [] w14 w15 := Mod.seqL (by repeat (first | exact Mod.refl _ _ | apply Mod.alloc | apply Mod.drewN)) m33
  have z15 := M15.size
  have C15 : Mod [] w w15 := C14.seq M15
  go_wp2_with fail
  go_ret
  exact ⟨rfl, C15.seq (by repeat (first | exact Mod.refl _ _ | apply Mod.alloc | apply Mod.drewN))⟩

set_option maxRecDepth 100000 in
theorem fnExactSealRow_lifted (os : Os) (started : os.Started) (H : Type) (enc : TypeId × Value → H) :
    ReturnsInHanded {} Try.checked os 5 .any (Rows.fnExactSealRowSpec.pre6 enc Try.prog Try.f5 Rows.fnExactSealRowRow.domain false) (Rows.fnExactSealRowSpec.post enc Try.prog Try.f5 false true false false) := by
  refine returnsInHanded_of_change (C := Try.checked) (show ownKnob Try.prog.godebug = none by kernel_rfl) started (by kernel_rfl) Try.func5
    (ChangeSpec.witness6 (enc := enc) (C := Try.checked) false ⟨#[], #[.int .i64 0, .int .i64 0, .slice none 0 0, .bool false], []⟩ 8 (by kernel_rfl) (by kernel_rfl) (by kernel_rfl) (by kernel_rfl)) ?_
  intro W base args ds gs before hval0 hW hcnd _
  have hval : ∀ (j : Nat) t v, Try.f5.params[j]? = some t → args[j]? = some v → Value.okWide Try.prog W .any base t v := hval0
  have hW' := hW
  obtain ⟨p, q, hA0, hV, rfl, hfz, hnd⟩ := hW
  have hA : DataW.TrodAll enc Try.prog W 0 (fun _ => true) true Try.f5.params.toList args.toList ds p := hA0
  rw [Try.params5] at hA hval
  obtain ⟨v0, vs0, d0, ds0, p0, q0, hargs, rfl, rfl, r0, s0⟩ := trodAll_cons hA
  obtain ⟨v1, vs1, d1, ds1, p1, q1, rfl, rfl, rfl, r1, s1⟩ := trodAll_cons s0
  obtain ⟨v2, vs2, d2, ds2, p2, q2, rfl, rfl, rfl, r2, s2⟩ := trodAll_cons s1
  obtain ⟨v3, vs3, d3, ds3, p3, q3, rfl, rfl, rfl, r3, s3⟩ := trodAll_cons s2
  obtain ⟨rfl, rfl, rfl⟩ := trodAll_nil s3
  obtain rfl : args = #[v0, v1, v2, v3] := by cases args; simp_all
  obtain ⟨rfl, rfl⟩ := trodVars_none hV
  obtain ⟨a0, rfl, rfl, rfl, wa0⟩ := open_int Try.underlying3 (hval 0 3 v0 rfl rfl) r0
  obtain ⟨a1, rfl, rfl, rfl, wa1⟩ := open_int Try.underlying3 (hval 1 3 v1 rfl rfl) r1
  obtain ⟨F2, x2, hx2⟩ := read_slice Try.underlying39 ((reads_slice Try.underlying39 (by kernel_rfl) (reads_int Try.underlying3 (by kernel_rfl)))) (hval 2 39 v2 rfl rfl) r2
  obtain ⟨a3, rfl, rfl, rfl⟩ := open_bool Try.underlying4 (hval 3 4 v3 rfl rfl) r3
  refine (fnExactSealRow_calls W a0 (I64.of_wf wa0) a1 (I64.of_wf wa1) v2 F2 x2 hx2 a3).mono fun e W' ⟨he, hm⟩ => ?_
  subst he
  exact ⟨_, rfl, post_law (by kernel_rfl) (by kernel_rfl) (by kernel_rfl) rfl rfl Try.underlying4 hW' hm⟩

theorem fnExactSealRow_holds : Rows.FnExactSealRowSaid :=
  OpenClaim.holds_of_wide 5 Try.f5 rfl rfl rfl rfl rfl rfl rfl ⟨rfl, rfl, rfl, rfl, rfl⟩ rfl rfl rfl rfl rfl (by kernel_rfl) Try.func5 (by kernel_rfl)
    (of_decide_eq_true (by kernel_rfl)) (by unfold Func.isWrapper; first | (rw [if_pos (by decide +kernel)]; kernel_rfl) | (rw [if_neg (by decide +kernel)]; exact ⟨rfl, rfl⟩))
    (fun os started H enc _ => fnExactSealRow_lifted os started H enc)

end Go.Proofs.Ythabgnhedmepjaa
