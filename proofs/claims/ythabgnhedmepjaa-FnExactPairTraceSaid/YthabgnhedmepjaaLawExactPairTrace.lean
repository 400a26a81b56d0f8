/- FnExactPairTrace returns true for every input: the program's PairTrace is the reference's, in memory of its own. -/
import Derived.Test.YthabgnhedmepjaaTrace
import Derived.Test.YthabgnhedmepjaaEqA
import Derived.Test.YthabgnhedmepjaaToA
import Derived.Test.YthabgnhedmepjaaMkA
import Derived.Test.YthabgnhedmepjaaCtA
import Derived.Test.YthabgnhedmepjaaReads
import Derived.Test.YthabgnhedmepjaaLawTools
namespace Go.Proofs.Ythabgnhedmepjaa
open Go.ChangeShapes Go.WideShapes Go.ChangeAt Go.RowKit
attribute [local go_sem] ext_cell eqB_rfl

set_option maxHeartbeats 4000000 in
set_option maxRecDepth 100000 in
theorem fnExactPairTrace_calls (w : World) (aRegion : Int) (iaRegion : I64 aRegion) (vaList : Value) (FaList : List Nat) (aList : (List PairD)) (haList : SliceHas rPair w FaList [vaList] aList) :
    Calls Try.prog 4 #[.int .i64 aRegion, vaList] w fun e w' => e = .returned (.bool true) ∧ Mod [] w w' := by
  obtain ⟨AaList, caList, rfl, laList, _⟩ := SliceHas.form' haList
  have upaList : ∀ g ∈ FaList, g < w.heap.size := Rep.lt (rPair.slice) haList
  go_enter Try.func4, Try.ntmps4
  go_wp2_with fail
  refine (szPairS_any _ _ _ aList _ (Rep.mod0 (rPair.slice) haList (by repeat (first | exact Mod.refl _ _ | apply Mod.alloc | apply Mod.drewN))) (by omega) (by omega)).mono ?_
  rintro e w1 ⟨r2, rfl, hr2, m2⟩
  have M1 : Mod [] w w1 := Mod.seqL (by repeat (first | exact Mod.refl _ _ | apply Mod.alloc | apply Mod.drewN)) m2
  have z1 := M1.size
  have C1 := M1
  replace haList := Rep.mod0 (rPair.slice) haList M1
  rcases hr2 with rfl | ⟨p2, q2⟩
  case inl =>
    go_wp2_with fail
    go_ret
    exact ⟨rfl, C1.seq (by repeat (first | exact Mod.refl _ _ | apply Mod.alloc | apply Mod.drewN))⟩
  have SaList : (szL szPair) aList ≤ 1048576 := by omega
  have p2b : r2 ≤ 1048576 := by omega
  clear q2
  go_wp2_with fail
  refine (toPairS_any _ _ _ aList (Rep.mod0 (rPair.slice) haList (by repeat (first | exact Mod.refl _ _ | apply Mod.alloc | apply Mod.drewN))) SaList).mono ?_
  rintro e w2 ⟨v4, rfl, G4, h4, n4, l4, m4⟩
  have M2 : Mod [] w1 w2 := Mod.seqL (by repeat (first | exact Mod.refl _ _ | apply Mod.alloc | apply Mod.drewN)) m4
  have z2 := M2.size
  have C2 : Mod [] w w2 := C1.seq M2
  replace haList := Rep.mod0 (rPair.slice) haList M2
  have lo5 : ∀ g ∈ G4, w1.heap.size ≤ g := fun g hg => Nat.le_trans (Mod.size (F := []) (w := w1) (by repeat (first | exact Mod.refl _ _ | apply Mod.alloc | apply Mod.drewN))) (l4 g hg)
  have up5 : ∀ g ∈ G4, g < w2.heap.size := Rep.lt (rPair.slice) h4
  have la5 : ∀ g ∈ G4, w.heap.size ≤ g := fun g hg => by have h1 := lo5 g hg; have h2 := C1.size; omega
  obtain ⟨A4, c4, rfl, _⟩ := SliceHas.form' h4
  go_wp2_with fail
  refine (spec_PairTrace aRegion _ _ _ aList (Rep.mod0 (rPair.slice) h4 (by repeat (first | exact Mod.refl _ _ | apply Mod.alloc | apply Mod.drewN))) (by have := szL_len szPair aList; omega)).mono ?_
  rintro e w3 ⟨v7, rfl, G7, h7, n7, l7, m7⟩
  have M3 : Mod [] w2 w3 := Mod.seqL (by repeat (first | exact Mod.refl _ _ | apply Mod.alloc | apply Mod.drewN)) m7
  have z3 := M3.size
  have C3 : Mod [] w w3 := C2.seq M3
  replace haList := Rep.mod0 (rPair.slice) haList M3
  have lo8 : ∀ g ∈ G7, w2.heap.size ≤ g := fun g hg => Nat.le_trans (Mod.size (F := []) (w := w2) (by repeat (first | exact Mod.refl _ _ | apply Mod.alloc | apply Mod.drewN))) (l7 g hg)
  have up8 : ∀ g ∈ G7, g < w3.heap.size := Rep.lt (rAccess.slice) h7
  have la8 : ∀ g ∈ G7, w.heap.size ≤ g := fun g hg => by have h1 := lo8 g hg; have h2 := C2.size; omega
  obtain ⟨A7, c7, rfl, _⟩ := SliceHas.form' h7
  go_wp2_with fail
  refine (toPairS_any _ _ _ aList (Rep.mod0 (rPair.slice) haList (by repeat (first | exact Mod.refl _ _ | apply Mod.alloc | apply Mod.drewN))) SaList).mono ?_
  rintro e w4 ⟨v10, rfl, G10, h10, n10, l10, m10⟩
  have M4 : Mod [] w3 w4 := Mod.seqL (by repeat (first | exact Mod.refl _ _ | apply Mod.alloc | apply Mod.drewN)) m10
  have z4 := M4.size
  have C4 : Mod [] w w4 := C3.seq M4
  replace haList := Rep.mod0 (rPair.slice) haList M4
  replace h7 := Rep.mod0 (rAccess.slice) h7 M4
  replace n7 := n7.mod0 M4
  have lo11 : ∀ g ∈ G10, w3.heap.size ≤ g := fun g hg => Nat.le_trans (Mod.size (F := []) (w := w3) (by repeat (first | exact Mod.refl _ _ | apply Mod.alloc | apply Mod.drewN))) (l10 g hg)
  have up11 : ∀ g ∈ G10, g < w4.heap.size := Rep.lt (rPair.slice) h10
  have la11 : ∀ g ∈ G10, w.heap.size ≤ g := fun g hg => by have h1 := lo11 g hg; have h2 := C3.size; omega
  obtain ⟨A10, c10, rfl, _⟩ := SliceHas.form' h10
  go_wp2_with fail
  refine (impl_PairTrace aRegion _ _ _ aList (Rep.mod0 (rPair.slice) h10 (by repeat (first | exact Mod.refl _ _ | apply Mod.alloc | apply Mod.drewN))) (by have := szL_len szPair aList; omega)).mono ?_
  rintro e w5 ⟨v13, rfl, G13, h13, n13, l13, m13⟩
  have M5 : Mod [] w4 w5 := Mod.seqL (by repeat (first | exact Mod.refl _ _ | apply Mod.alloc | apply Mod.drewN)) m13
  have z5 := M5.size
  have C5 : Mod [] w w5 := C4.seq M5
  replace haList := Rep.mod0 (rPair.slice) haList M5
  replace h7 := Rep.mod0 (rAccess.slice) h7 M5
  replace n7 := n7.mod0 M5
  replace h10 := Rep.mod0 (rPair.slice) h10 M5
  replace n10 := n10.mod0 M5
  have lo14 : ∀ g ∈ G13, w4.heap.size ≤ g := fun g hg => Nat.le_trans (Mod.size (F := []) (w := w4) (by repeat (first | exact Mod.refl _ _ | apply Mod.alloc | apply Mod.drewN))) (l13 g hg)
  have up14 : ∀ g ∈ G13, g < w5.heap.size := Rep.lt (rAccess.slice) h13
  have la14 : ∀ g ∈ G13, w.heap.size ≤ g := fun g hg => by have h1 := lo14 g hg; have h2 := C4.size; omega
  obtain ⟨A13, c13, rfl, _⟩ := SliceHas.form' h13
  go_wp2_with fail
  refine (eqAccessS_any _ _ _ _ _ _ _ (Rep.mod0 (rAccess.slice) h13 (by repeat (first | exact Mod.refl _ _ | apply Mod.alloc | apply Mod.drewN))) (Rep.mod0 (rAccess.slice) h7 (by repeat (first | exact Mod.refl _ _ | apply Mod.alloc | apply Mod.drewN)))).mono ?_
  rintro e w6 ⟨rfl, m16⟩
  have M6 : Mod [] w5 w6 := Mod.seqL (by repeat (first | exact Mod.refl _ _ | apply Mod.alloc | apply Mod.drewN)) m16
  have z6 := M6.size
  have C6 : Mod [] w w6 := C5.seq M6
  replace haList := Rep.mod0 (rPair.slice) haList M6
  replace h7 := Rep.mod0 (rAccess.slice) h7 M6
  replace n7 := n7.mod0 M6
  replace h10 := Rep.mod0 (rPair.slice) h10 M6
  replace n10 := n10.mod0 M6
  replace h13 := Rep.mod0 (rAccess.slice) h13 M6
  replace n13 := n13.mod0 M6
  go_wp2_with fail
  refine (toPairS_any _ _ _ aList (Rep.mod0 (rPair.slice) haList (by repeat (first | exact Mod.refl _ _ | apply Mod.alloc | apply Mod.drewN))) SaList).mono ?_
  rintro e w7 ⟨v18, rfl, G18, h18, n18, l18, m18⟩
  have M7 : Mod [] w6 w7 := Mod.seqL (by repeat (first | exact Mod.refl _ _ | apply Mod.alloc | apply Mod.drewN)) m18
  have z7 := M7.size
  have C7 : Mod [] w w7 := C6.seq M7
  replace haList := Rep.mod0 (rPair.slice) haList M7
  replace h7 := Rep.mod0 (rAccess.slice) h7 M7
  replace n7 := n7.mod0 M7
  replace h10 := Rep.mod0 (rPair.slice) h10 M7
  replace n10 := n10.mod0 M7
  replace h13 := Rep.mod0 (rAccess.slice) h13 M7
  replace n13 := n13.mod0 M7
  have lo19 : ∀ g ∈ G18, w6.heap.size ≤ g := fun g hg => Nat.le_trans (Mod.size (F := []) (w := w6) (by repeat (first | exact Mod.refl _ _ | apply Mod.alloc | apply Mod.drewN))) (l18 g hg)
  have up19 : ∀ g ∈ G18, g < w7.heap.size := Rep.lt (rPair.slice) h18
  have la19 : ∀ g ∈ G18, w.heap.size ≤ g := fun g hg => by have h1 := lo19 g hg; have h2 := C6.size; omega
  obtain ⟨A18, c18, rfl, _⟩ := SliceHas.form' h18
  go_wp2_with fail
  refine (eqPairS_any _ _ _ _ _ _ _ (Rep.mod0 (rPair.slice) h10 (by repeat (first | exact Mod.refl _ _ | apply Mod.alloc | apply Mod.drewN))) (Rep.mod0 (rPair.slice) h18 (by repeat (first | exact Mod.refl _ _ | apply Mod.alloc | apply Mod.drewN)))).mono ?_
  rintro e w8 ⟨rfl, m21⟩
  have M8 : Mod [] w7 w8 := Mod.seqL (by repeat (first | exact Mod.refl _ _ | apply Mod.alloc | apply Mod.drewN)) m21
  have z8 := M8.size
  have C8 : Mod [] w w8 := C7.seq M8
  replace haList := Rep.mod0 (rPair.slice) haList M8
  replace h7 := Rep.mod0 (rAccess.slice) h7 M8
  replace n7 := n7.mod0 M8
  replace h10 := Rep.mod0 (rPair.slice) h10 M8
  replace n10 := n10.mod0 M8
  replace h13 := Rep.mod0 (rAccess.slice) h13 M8
  replace n13 := n13.mod0 M8
  go_wp2_with fail
  have ct22 : ((ctL ctPair) (aList)) ≤ 1099511627776 := by have h1 := ctPairS_le aList; have h2 := SaList; omega
  refine (markPairS_any _ _ _ (aList) _ (Rep.mod0 (rPair.slice) h10 (by repeat (first | exact Mod.refl _ _ | apply Mod.alloc | apply Mod.drewN))) (n10.mod0 (by repeat (first | exact Mod.refl _ _ | apply Mod.alloc | apply Mod.drewN))) (by omega) (by omega)).mono ?_
  rintro e w9 ⟨rfl, h22m, n22m, m22⟩
  have M9 : Mod G10 w8 w9 := Mod.seqL (by repeat (first | exact Mod.refl _ _ | apply Mod.alloc | apply Mod.drewN)) m22
  have z9 := M9.size
  have C9 : Mod [] w w9 := Mod.seqD C8 M9 (fun g hg => la11 g hg)
  replace haList := Rep.mod (rPair.slice) haList M9 (fun g hg hg' => absurd (upaList g hg) (by have := lo11 g hg'; omega))
  replace h7 := Rep.mod (rAccess.slice) h7 M9 (fun g hg hg' => absurd (up8 g hg) (by have := lo11 g hg'; omega))
  replace n7 := n7.mod M9 (fun g hg hg' => absurd (up8 g hg) (by have := lo11 g hg'; omega))
  replace h13 := Rep.mod (rAccess.slice) h13 M9 (fun g hg hg' => absurd (up11 g hg') (by have := lo14 g hg; omega))
  replace n13 := n13.mod M9 (fun g hg hg' => absurd (up11 g hg') (by have := lo14 g hg; omega))
  go_wp2_with fail
  refine (eqAccessS_any _ _ _ _ _ _ _ (Rep.mod0 (rAccess.slice) h13 (by repeat (first | exact Mod.refl _ _ | apply Mod.alloc | apply Mod.drewN))) (Rep.mod0 (rAccess.slice) h7 (by repeat (first | exact Mod.refl _ _ | apply Mod.alloc | apply Mod.drewN)))).mono ?_
  rintro e w10 ⟨rfl, m23⟩
  have M10 : Mod [] w9 w10 := Mod.seqL (by repeat (first | exact Mod.refl _ _ | apply Mod.alloc | apply Mod.drewN)) m23
  have z10 := M10.size
  have C10 : Mod [] w w10 := C9.seq M10
  replace haList := Rep.mod0 (rPair.slice) haList M10
  replace h7 := Rep.mod0 (rAccess.slice) h7 M10
  replace n7 := n7.mod0 M10
  replace h13 := Rep.mod0 (rAccess.slice) h13 M10
  replace n13 := n13.mod0 M10
  go_wp2_with fail
  have ct24 : ((ctL ctAccess) (pairTraceF aRegion aList)) ≤ 1099511627776 := by have h1 := ctAccessS_pair aRegion aList; have h2 := szL_len szPair aList; omega
  refine (markAccessS_any _ _ _ (pairTraceF aRegion aList) _ (Rep.mod0 (rAccess.slice) h13 (by repeat (first | exact Mod.refl _ _ | apply Mod.alloc | apply Mod.drewN))) (n13.mod0 (by repeat (first | exact Mod.refl _ _ | apply Mod.alloc | apply Mod.drewN))) (by omega) (by omega)).mono ?_
  rintro e w11 ⟨rfl, h24m, n24m, m24⟩
  have M11 : Mod G13 w10 w11 := Mod.seqL (by repeat (first | exact Mod.refl _ _ | apply Mod.alloc | apply Mod.drewN)) m24
  have z11 := M11.size
  have C11 : Mod [] w w11 := Mod.seqD C10 M11 (fun g hg => la14 g hg)
  replace haList := Rep.mod (rPair.slice) haList M11 (fun g hg hg' => absurd (upaList g hg) (by have := lo14 g hg'; omega))
  replace h7 := Rep.mod (rAccess.slice) h7 M11 (fun g hg hg' => absurd (up8 g hg) (by have := lo14 g hg'; omega))
  replace n7 := n7.mod M11 (fun g hg hg' => absurd (up8 g hg) (by have := lo14 g hg'; omega))
  go_wp2_with fail
  refine (heldAccessS_any _ _ _ (pairTraceF aRegion aList) _ (Rep.mod0 (rAccess.slice) h24m (by repeat (first | exact Mod.refl _ _ | apply Mod.alloc | apply Mod.drewN))) (by omega) (by omega)).mono ?_
  rintro e w12 ⟨rfl, m25⟩
  have M12 : Mod [] w11 w12 := Mod.seqL (by repeat (first | exact Mod.refl _ _ | apply Mod.alloc | apply Mod.drewN)) m25
  have z12 := M12.size
  have C12 : Mod [] w w12 := C11.seq M12
  replace haList := Rep.mod0 (rPair.slice) haList M12
  replace h7 := Rep.mod0 (rAccess.slice) h7 M12
  replace n7 := n7.mod0 M12
  replace h24m := Rep.mod0 (rAccess.slice) h24m M12
  replace n24m := n24m.mod0 M12
  go_wp2_with fail
  refine (toPairS_any _ _ _ aList (Rep.mod0 (rPair.slice) haList (by repeat (first | exact Mod.refl _ _ | apply Mod.alloc | apply Mod.drewN))) SaList).mono ?_
  rintro e w13 ⟨v27, rfl, G27, h27, n27, l27, m27⟩
  have M13 : Mod [] w12 w13 := Mod.seqL (by repeat (first | exact Mod.refl _ _ | apply Mod.alloc | apply Mod.drewN)) m27
  have z13 := M13.size
  have C13 : Mod [] w w13 := C12.seq M13
  replace h7 := Rep.mod0 (rAccess.slice) h7 M13
  replace n7 := n7.mod0 M13
  replace h24m := Rep.mod0 (rAccess.slice) h24m M13
  replace n24m := n24m.mod0 M13
  have lo28 : ∀ g ∈ G27, w12.heap.size ≤ g := fun g hg => Nat.le_trans (Mod.size (F := []) (w := w12) (by repeat (first | exact Mod.refl _ _ | apply Mod.alloc | apply Mod.drewN))) (l27 g hg)
  have up28 : ∀ g ∈ G27, g < w13.heap.size := Rep.lt (rPair.slice) h27
  have la28 : ∀ g ∈ G27, w.heap.size ≤ g := fun g hg => by have h1 := lo28 g hg; have h2 := C12.size; omega
  obtain ⟨A27, c27, rfl, _⟩ := SliceHas.form' h27
  go_wp2_with fail
  refine (impl_PairTrace aRegion _ _ _ aList (Rep.mod0 (rPair.slice) h27 (by repeat (first | exact Mod.refl _ _ | apply Mod.alloc | apply Mod.drewN))) (by have := szL_len szPair aList; omega)).mono ?_
  rintro e w14 ⟨v30, rfl, G30, h30, n30, l30, m30⟩
  have M14 : Mod [] w13 w14 := Mod.seqL (by repeat (first | exact Mod.refl _ _ | apply Mod.alloc | apply Mod.drewN)) m30
  have z14 := M14.size
  have C14 : Mod [] w w14 := C13.seq M14
  replace h7 := Rep.mod0 (rAccess.slice) h7 M14
  replace n7 := n7.mod0 M14
  replace h24m := Rep.mod0 (rAccess.slice) h24m M14
  replace n24m := n24m.mod0 M14
  have lo31 : ∀ g ∈ G30, w13.heap.size ≤ g := fun g hg => Nat.le_trans (Mod.size (F := []) (w := w13) (by repeat (first | exact Mod.refl _ _ | apply Mod.alloc | apply Mod.drewN))) (l30 g hg)
  have up31 : ∀ g ∈ G30, g < w14.heap.size := Rep.lt (rAccess.slice) h30
  have la31 : ∀ g ∈ G30, w.heap.size ≤ g := fun g hg => by have h1 := lo31 g hg; have h2 := C13.size; omega
  obtain ⟨A30, c30, rfl, _⟩ := SliceHas.form' h30
  go_wp2_with fail
  refine (eqAccessS_any _ _ _ _ _ _ _ (Rep.mod0 (rAccess.slice) h30 (by repeat (first | exact Mod.refl _ _ | apply Mod.alloc | apply Mod.drewN))) (Rep.mod0 (rAccess.slice) h7 (by repeat (first | exact Mod.refl _ _ | apply Mod.alloc | apply Mod.drewN)))).mono ?_
  rintro e w15 ⟨rfl, m33⟩
  have M15 : Mod [] w14 w15 := Mod.seqL (by repeat (first | exact Mod.refl _ _ | apply Mod.alloc | apply Mod.drewN)) m33
  have z15 := M15.size
  have C15 : Mod [] w w15 := C14.seq M15
  replace h24m := Rep.mod0 (rAccess.slice) h24m M15
  replace n24m := n24m.mod0 M15
  go_wp2_with fail
  refine (heldAccessS_any _ _ _ (pairTraceF aRegion aList) _ (Rep.mod0 (rAccess.slice) h24m (by repeat (first | exact Mod.refl _ _ | apply Mod.alloc | apply Mod.drewN))) (by omega) (by omega)).mono ?_
  rintro e w16 ⟨rfl, m34⟩
  have M16 : Mod [] w15 w16 := Mod.seqL (by repeat (first | exact Mod.refl _ _ | apply Mod.alloc | apply Mod.drewN)) m34
  have z16 := M16.size
  have C16 : Mod [] w w16 := C15.seq M16
  go_wp2_with fail
  go_ret
  exact ⟨rfl, C16.seq (by repeat (first | exact Mod.refl _ _ | apply Mod.alloc | apply Mod.drewN))⟩

set_option maxRecDepth 100000 in
theorem fnExactPairTrace_lifted (os : Os) (started : os.Started) (H : Type) (enc : TypeId × Value → H) :
    ReturnsInHanded {} Try.checked os 4 .any (Rows.fnExactPairTraceSpec.pre6 enc Try.prog Try.f4 Rows.fnExactPairTraceRow.domain false) (Rows.fnExactPairTraceSpec.post enc Try.prog Try.f4 false true false false) := by
  refine returnsInHanded_of_change (C := Try.checked) (show ownKnob Try.prog.godebug = none by kernel_rfl) started (by kernel_rfl) Try.func4
    (ChangeSpec.witness6 (enc := enc) (C := Try.checked) false ⟨#[], #[.int .i64 0, .slice none 0 0], []⟩ 8 (by kernel_rfl) (by kernel_rfl) (by kernel_rfl) (by kernel_rfl)) ?_
  intro W base args ds gs before hval0 hW hcnd _
  have hval : ∀ (j : Nat) t v, Try.f4.params[j]? = some t → args[j]? = some v → Value.okWide Try.prog W .any base t v := hval0
  have hW' := hW
  obtain ⟨p, q, hA0, hV, rfl, hfz, hnd⟩ := hW
  have hA : DataW.TrodAll enc Try.prog W 0 (fun _ => true) true Try.f4.params.toList args.toList ds p := hA0
  rw [Try.params4] at hA hval
  obtain ⟨v0, vs0, d0, ds0, p0, q0, hargs, rfl, rfl, r0, s0⟩ := trodAll_cons hA
  obtain ⟨v1, vs1, d1, ds1, p1, q1, rfl, rfl, rfl, r1, s1⟩ := trodAll_cons s0
  obtain ⟨rfl, rfl, rfl⟩ := trodAll_nil s1
  obtain rfl : args = #[v0, v1] := by cases args; simp_all
  obtain ⟨rfl, rfl⟩ := trodVars_none hV
  obtain ⟨a0, rfl, rfl, rfl, wa0⟩ := open_int Try.underlying3 (hval 0 3 v0 rfl rfl) r0
  obtain ⟨F1, x1, hx1⟩ := read_slice Try.underlying28 ((reads_slice Try.underlying28 (by kernel_rfl) readsL_Pair)) (hval 1 28 v1 rfl rfl) r1
  refine (fnExactPairTrace_calls W a0 (I64.of_wf wa0) v1 F1 x1 hx1).mono fun e W' ⟨he, hm⟩ => ?_
  subst he
  exact ⟨_, rfl, post_law (by kernel_rfl) (by kernel_rfl) (by kernel_rfl) rfl rfl Try.underlying4 hW' hm⟩

theorem fnExactPairTrace_holds : Rows.FnExactPairTraceSaid :=
  OpenClaim.holds_of_wide 4 Try.f4 rfl rfl rfl rfl rfl rfl rfl ⟨rfl, rfl, rfl, rfl, rfl⟩ rfl rfl rfl rfl rfl (by kernel_rfl) Try.func4 (by kernel_rfl)
    (of_decide_eq_true (by kernel_rfl)) (by unfold Func.isWrapper; first | (rw [if_pos (by decide +kernel)]; kernel_rfl) | (rw [if_neg (by decide +kernel)]; exact ⟨rfl, rfl⟩))
    (fun os started H enc _ => fnExactPairTrace_lifted os started H enc)

end Go.Proofs.Ythabgnhedmepjaa
