/- slices.Clone, Equal, Index, Contains on ints. -/
import Derived.Test.YtnlhiamjndifoaaDoorApp
import Derived.Test.YtnlhiamjndifoaaDoorFuncs
import Derived.Deep.RegionLaw
import Derived.Lib.SliceRun
namespace Go.Proofs.YtnlhiamjndifoaaDoor
open Go.RowKit

theorem beq_dec (x y : Int) : (x == y) = decide (x = y) := by rfl
set_option maxHeartbeats 1000000 in
theorem sl_Index_int (w : World) (F : List Nat) (v : Value) (xs : List Int) (x : Int) (hx : SliceHas Rep.int w F [v] xs) :
    Calls Tryd.prog 28 #[v, .int .i64 x] w fun e w' => ∃ r : Int, e = .returned (.int .i64 r) ∧ decide (0 ≤ r) = xs.any (fun y => x == y) ∧ Mod [] w w' := by
  obtain ⟨A, c, rfl, hl, _⟩ := hx.form'
  go_enter Tryd.func28, Tryd.ntmps28
  go_wp2_with fail
  go_loopw [8] (fun i wr => ∃ k : Nat, k ≤ xs.length ∧ i = .int .i64 k ∧ (xs.take k).any (fun y => x == y) = false ∧ Mod [] w wr) (fun i _ => xs.length - (intOf i).toNat)
  case atStart => exact ⟨0, Nat.zero_le _, rfl, rfl, Mod.refl _ _⟩
  case round =>
    obtain ⟨k, hk, rfl, ha, hB⟩ := hrel
    have Ha := Lib.hid ha
    clear ha
    by_cases hlt : k < xs.length
    · have hx' : SliceHas Rep.int wr F [.slice A xs.length c] xs := Rep.slice Rep.int |>.mod0 hx hB
      obtain ⟨ad, rfl, h0, hi⟩ := hx'.int_at hlt
      cases hp : (x == xs[k])
      · have H := Lib.hid (any_succ_f (p := fun y => x == y) hlt Ha.out hp)
        go_wp2_with fail
        go_roundw
        case rel => exact ⟨k + 1, hlt, by go_num, H.out, hB⟩
        case measure => simp [intOf]; omega
      · have Hg := Lib.hid (any_of_get (fun y => x == y) xs k hlt hp)
        go_wp2_with fail
        go_ret
        exact ⟨_, rfl, by rw [Hg.out]; simp, hB⟩
    · have Ha : Hid (xs.any (fun y => x == y) = false) := by
        have ha := Ha.out
        rw [List.take_of_length_le (by omega)] at ha
        exact ha
      go_wp2_with fail
      go_ret
      exact ⟨_, rfl, by rw [Ha.out]; rfl, hB⟩

set_option maxHeartbeats 1000000 in
theorem sl_Contains_int (w : World) (F : List Nat) (v : Value) (xs : List Int) (x : Int) (hx : SliceHas Rep.int w F [v] xs) :
    Calls Tryd.prog 16 #[v, .int .i64 x] w fun e w' => e = .returned (.bool (xs.any (fun y => x == y))) ∧ Mod [] w w' := by
  go_enter Tryd.func16, Tryd.ntmps16
  go_wp2_with (go_at_call 28; refine (sl_Index_int _ F _ xs x hx).mono ?_; rintro e w1 ⟨r, rfl, hr, hm⟩)
  go_ret
  exact ⟨rfl, hm⟩

















































/-- The cells of a slice that is not nil. -/
theorem SliceHas.src {α : Type} {e : Rep α} {w : World} {F : List Nat} {xs : List α} {ad : Addr} {n cap : Nat} (h : SliceHas e w F [.slice (some ad) n cap] xs) :
    ∃ F' ces, e.all w F' ces xs ∧ CellsAt w ad ces ∧ ∀ g ∈ F', g ∈ F := by
  obtain ⟨a', n', cap', ces, F', hv, h1, h2, h3, h4, h5⟩ := h
  simp only [List.cons.injEq, Value.slice.injEq, and_true] at hv
  obtain ⟨rfl, rfl, rfl⟩ := hv
  rcases h5 with ⟨rfl, rfl⟩ | ⟨ad', e1, rfl, hb, hc⟩
  · have hx : xs = [] := List.eq_nil_of_length_eq_zero h1
    subst hx
    obtain ⟨rfl, rfl⟩ := h4
    exact ⟨[], [], ⟨rfl, rfl⟩, fun j u hu => by simp at hu, by simp⟩
  · cases e1
    exact ⟨F', ces, h4, hc, fun g hg => by simp [hg]⟩
theorem ints_noblocks {w : World} : ∀ {xs : List Int} {F ces}, Rep.int.all w F ces xs → F = []
  | [], _, _, h => h.1
  | x :: xs, _, _, h => by
    obtain ⟨F1, F2, c1, c2, rfl, rfl, h1, h2⟩ := h
    rw [h1.1, ints_noblocks h2]; rfl

end Go.Proofs.YtnlhiamjndifoaaDoor
