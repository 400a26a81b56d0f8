/- FnExactPathOf returns true for every input: the program's PathOf is the reference's, in memory of its own. -/
import Derived.Test.YtemkgmgdjbpljaaPath
import Derived.Test.YtemkgmgdjbpljaaEqA
import Derived.Test.YtemkgmgdjbpljaaToA
import Derived.Test.YtemkgmgdjbpljaaMkA
import Derived.Test.YtemkgmgdjbpljaaCtA
import Derived.Test.YtemkgmgdjbpljaaReads
import Derived.Test.YtemkgmgdjbpljaaLawToolsB
namespace Go.Proofs.Ytemkgmgdjbpljaa
open Go.ChangeShapes Go.WideShapes Go.ChangeAt Go.RowKit
attribute [local go_sem] ext_cell eqB_rfl

set_option maxHeartbeats 4000000 in
set_option maxRecDepth 100000 in
theorem fnExactPathOf_calls (w : World) (aLeaf : Int) (iaLeaf : I64 aLeaf) :
    Calls Try.prog 5 #[.int .i64 aLeaf] w fun e w' => e = .returned (.bool true) ∧ Mod [] w w' := by
  go_enter Try.func5, Try.ntmps5
  go_wp2_with fail
  refine (spec_PathOf aLeaf _ ).mono ?_
  rintro e w1 ⟨v1, rfl, G1, h1, n1, l1, m1⟩
  have M1 : Mod [] w w1 := Mod.seqL (by repeat (first | exact Mod.refl _ _ | apply Mod.alloc | apply Mod.drewN)) m1
  have z1 := M1.size
  have C1 := M1
  have lo2 : ∀ g ∈ G1, w.heap.size ≤ g := fun g hg => Nat.le_trans (Mod.size (F := []) (w := w) (by repeat (first | exact Mod.refl _ _ | apply Mod.alloc | apply Mod.drewN))) (l1 g hg)
  have up2 : ∀ g ∈ G1, g < w1.heap.size := Rep.lt (Rep.int.slice) h1
  have la2 : ∀ g ∈ G1, w.heap.size ≤ g := fun g hg => by have h1 := lo2 g hg; omega
  obtain ⟨A1, c1, rfl, _⟩ := SliceHas.form' h1
  go_wp2_with fail
  refine (impl_PathOf aLeaf _ ).mono ?_
  rintro e w2 ⟨v4, rfl, G4, h4, n4, l4, m4⟩
  have M2 : Mod [] w1 w2 := Mod.seqL (by repeat (first | exact Mod.refl _ _ | apply Mod.alloc | apply Mod.drewN)) m4
  have z2 := M2.size
  have C2 : Mod [] w w2 := C1.seq M2
  replace h1 := Rep.mod0 (Rep.int.slice) h1 M2
  replace n1 := n1.mod0 M2
  have lo5 : ∀ g ∈ G4, w1.heap.size ≤ g := fun g hg => Nat.le_trans (Mod.size (F := []) (w := w1) (by repeat (first | exact Mod.refl _ _ | apply Mod.alloc | apply Mod.drewN))) (l4 g hg)
  have up5 : ∀ g ∈ G4, g < w2.heap.size := Rep.lt (Rep.int.slice) h4
  have la5 : ∀ g ∈ G4, w.heap.size ≤ g := fun g hg => by have h1 := lo5 g hg; have h2 := C1.size; omega
  obtain ⟨A4, c4, rfl, _⟩ := SliceHas.form' h4
  go_wp2_with fail
  refine (eqIntS_any _ _ _ _ _ _ _ (Rep.mod0 (Rep.int.slice) h4 (by repeat (first | exact Mod.refl _ _ | apply Mod.alloc | apply Mod.drewN))) (Rep.mod0 (Rep.int.slice) h1 (by repeat (first | exact Mod.refl _ _ | apply Mod.alloc | apply Mod.drewN)))).mono ?_
  rintro e w3 ⟨rfl, m7⟩
  have M3 : Mod [] w2 w3 := Mod.seqL (by repeat (first | exact Mod.refl _ _ | apply Mod.alloc | apply Mod.drewN)) m7
  have z3 := M3.size
  have C3 : Mod [] w w3 := C2.seq M3
  replace h1 := Rep.mod0 (Rep.int.slice) h1 M3
  replace n1 := n1.mod0 M3
  replace h4 := Rep.mod0 (Rep.int.slice) h4 M3
  replace n4 := n4.mod0 M3
  go_wp2_with fail
  have ct8 : ((ctL ct1) (pathOfF aLeaf)) ≤ 1099511627776 := by have h1 := ctIntS_len (pathOfF aLeaf); have h2 := pathOfF_len aLeaf; omega
  refine (markIntS_any _ _ _ (pathOfF aLeaf) _ (Rep.mod0 (Rep.int.slice) h4 (by repeat (first | exact Mod.refl _ _ | apply Mod.alloc | apply Mod.drewN))) (n4.mod0 (by repeat (first | exact Mod.refl _ _ | apply Mod.alloc | apply Mod.drewN))) (by omega) (by omega)).mono ?_
  rintro e w4 ⟨rfl, h8m, n8m, m8⟩
  have M4 : Mod G4 w3 w4 := Mod.seqL (by repeat (first | exact Mod.refl _ _ | apply Mod.alloc | apply Mod.drewN)) m8
  have z4 := M4.size
  have C4 : Mod [] w w4 := Mod.seqD C3 M4 (fun g hg => la5 g hg)
  replace h1 := Rep.mod (Rep.int.slice) h1 M4 (fun g hg hg' => absurd (up2 g hg) (by have := lo5 g hg'; omega))
  replace n1 := n1.mod M4 (fun g hg hg' => absurd (up2 g hg) (by have := lo5 g hg'; omega))
  go_wp2_with fail
  refine (heldIntS_any _ _ _ (pathOfF aLeaf) _ (Rep.mod0 (Rep.int.slice) h8m (by repeat (first | exact Mod.refl _ _ | apply Mod.alloc | apply Mod.drewN))) (by omega) (by omega)).mono ?_
  rintro e w5 ⟨rfl, m9⟩
  have M5 : Mod [] w4 w5 := Mod.seqL (by repeat (first | exact Mod.refl _ _ | apply Mod.alloc | apply Mod.drewN)) m9
  have z5 := M5.size
  have C5 : Mod [] w w5 := C4.seq M5
  replace h1 := Rep.mod0 (Rep.int.slice) h1 M5
  replace n1 := n1.mod0 M5
  replace h8m := Rep.mod0 (Rep.int.slice) h8m M5
  replace n8m := n8m.mod0 M5
  go_wp2_with fail
  refine (impl_PathOf aLeaf _ ).mono ?_
  rintro e w6 ⟨v10, rfl, G10, h10, n10, l10, m10⟩
  have M6 : Mod [] w5 w6 := Mod.seqL (by repeat (first | exact Mod.refl _ _ | apply Mod.alloc | apply Mod.drewN)) m10
  have z6 := M6.size
  have C6 : Mod [] w w6 := C5.seq M6
  replace h1 := Rep.mod0 (Rep.int.slice) h1 M6
  replace n1 := n1.mod0 M6
  replace h8m := Rep.mod0 (Rep.int.slice) h8m M6
  replace n8m := n8m.mod0 M6
  have lo11 : ∀ g ∈ G10, w5.heap.size ≤ g := fun g hg => Nat.le_trans (Mod.size (F := []) (w := w5) (by repeat (first | exact Mod.refl _ _ | apply Mod.alloc | apply Mod.drewN))) (l10 g hg)
  have up11 : ∀ g ∈ G10, g < w6.heap.size := Rep.lt (Rep.int.slice) h10
  have la11 : ∀ g ∈ G10, w.heap.size ≤ g := fun g hg => by have h1 := lo11 g hg; have h2 := C5.size; omega
  obtain ⟨A10, c10, rfl, _⟩ := SliceHas.form' h10
  go_wp2_with fail
  refine (eqIntS_any _ _ _ _ _ _ _ (Rep.mod0 (Rep.int.slice) h10 (by repeat (first | exact Mod.refl _ _ | apply Mod.alloc | apply Mod.drewN))) (Rep.mod0 (Rep.int.slice) h1 (by repeat (first | exact Mod.refl _ _ | apply Mod.alloc | apply Mod.drewN)))).mono ?_
  rintro e w7 ⟨rfl, m13⟩
  have M7 : Mod [] w6 w7 := Mod.seqL (by repeat (first | exact Mod.refl _ _ | apply Mod.alloc | apply Mod.drewN)) m13
  have z7 := M7.size
  have C7 : Mod [] w w7 := C6.seq M7
  replace h8m := Rep.mod0 (Rep.int.slice) h8m M7
  replace n8m := n8m.mod0 M7
  go_wp2_with fail
  refine (heldIntS_any _ _ _ (pathOfF aLeaf) _ (Rep.mod0 (Rep.int.slice) h8m (by repeat (first | exact Mod.refl _ _ | apply Mod.alloc | apply Mod.drewN))) (by omega) (by omega)).mono ?_
  rintro e w8 ⟨rfl, m14⟩
  have M8 : Mod [] w7 w8 := Mod.seqL (by repeat (first | exact Mod.refl _ _ | apply Mod.alloc | apply Mod.drewN)) m14
  have z8 := M8.size
  have C8 : Mod [] w w8 := C7.seq M8
  go_wp2_with fail
  go_ret
  exact ⟨rfl, C8.seq (by repeat (first | exact Mod.refl _ _ | apply Mod.alloc | apply Mod.drewN))⟩

set_option maxRecDepth 100000 in
theorem fnExactPathOf_lifted (os : Os) (started : os.Started) (H : Type) (enc : TypeId × Value → H) :
    ReturnsInHanded {} Try.checked os 5 .any (Rows.fnExactPathOfSpec.pre6 enc Try.prog Try.f5 Rows.fnExactPathOfRow.domain false) (Rows.fnExactPathOfSpec.post enc Try.prog Try.f5 false true false false) := by
  refine returnsInHanded_of_change (C := Try.checked) (show ownKnob Try.prog.godebug = none by kernel_rfl) started (by kernel_rfl) Try.func5
    (ChangeSpec.witness6 (enc := enc) (C := Try.checked) false ⟨#[], #[.int .i64 0], []⟩ 8 (by kernel_rfl) (by kernel_rfl) (by kernel_rfl) (by kernel_rfl)) ?_
  intro W base args ds gs before hval0 hW hcnd _
  have hval : ∀ (j : Nat) t v, Try.f5.params[j]? = some t → args[j]? = some v → Value.okWide Try.prog W .any base t v := hval0
  have hW' := hW
  obtain ⟨p, q, hA0, hV, rfl, hfz, hnd⟩ := hW
  have hA : DataW.TrodAll enc Try.prog W 0 (fun _ => true) true Try.f5.params.toList args.toList ds p := hA0
  rw [Try.params5] at hA hval
  obtain ⟨v0, vs0, d0, ds0, p0, q0, hargs, rfl, rfl, r0, s0⟩ := trodAll_cons hA
  obtain ⟨rfl, rfl, rfl⟩ := trodAll_nil s0
  obtain rfl : args = #[v0] := by cases args; simp_all
  obtain ⟨rfl, rfl⟩ := trodVars_none hV
  obtain ⟨a0, rfl, rfl, rfl, wa0⟩ := open_int Try.underlying3 (hval 0 3 v0 rfl rfl) r0
  refine (fnExactPathOf_calls W a0 (I64.of_wf wa0)).mono fun e W' ⟨he, hm⟩ => ?_
  subst he
  exact ⟨_, rfl, post_law (by kernel_rfl) (by kernel_rfl) (by kernel_rfl) rfl rfl Try.underlying4 hW' hm⟩

theorem fnExactPathOf_holds : Rows.FnExactPathOfSaid :=
  OpenClaim.holds_of_wide 5 Try.f5 rfl rfl rfl rfl rfl rfl rfl ⟨rfl, rfl, rfl, rfl, rfl⟩ rfl rfl rfl rfl rfl (by kernel_rfl) Try.func5 (by kernel_rfl)
    (of_decide_eq_true (by kernel_rfl)) (by unfold Func.isWrapper; first | (rw [if_pos (by decide +kernel)]; kernel_rfl) | (rw [if_neg (by decide +kernel)]; exact ⟨rfl, rfl⟩))
    (fun os started H enc _ => fnExactPathOf_lifted os started H enc)

end Go.Proofs.Ytemkgmgdjbpljaa
