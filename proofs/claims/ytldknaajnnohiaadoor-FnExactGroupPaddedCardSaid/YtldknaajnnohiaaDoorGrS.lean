/- l8Blank, GroupPadded: the reference's contracts. -/
import Derived.Test.YtldknaajnnohiaaDoorSho
import Derived.Test.YtldknaajnnohiaaDoorGrL
import Derived.Test.YtldknaajnnohiaaDoorSrL
namespace Go.Proofs.YtldknaajnnohiaaDoor
open Go.RowKit

set_option maxHeartbeats 1000000 in
theorem spec_l8Blank (w : World) (n : Nat) (hn : n ≤ 1000000) :
    Calls Tryd.prog 118 #[.int .i64 (n : Int)] w fun e w' => ∃ v, e = .returned v ∧ Fresh Rep.int.rows w w' [v] (List.replicate n 0) := by
  have hS : Sat w w [] := Sat.nil w
  go_enter Tryd.func118, Tryd.ntmps118
  go_wp2_with (first | ((with_reducible show wpList _ _ _ (⟨_, Op.makeSlice _ _ _, _, _, _, _⟩ :: _) _ _); refine Does.list (does_make (e := Rep.int) (n := n) (zx := 0) hS rfl rfl rfl rfl rfl (by decide) (fun _ => ⟨rfl, rfl, by unfold I64; omega⟩) (by decide) (by omega)) rfl ?_; clear hS; rintro _ wx ⟨bm, rfl, hS, _⟩; (simp only [Act.put, sA, sZ, sS])) | ((with_reducible show wpList _ _ _ (⟨_, Op.box _ _, _, _, _, _⟩ :: _) _ _); refine Does.list (does_box hS rfl rfl (by rfl)) rfl ?_; clear hS; rintro _ wx ⟨bo, rfl, hS, _⟩; (simp only [Act.put, sA, sZ, sS])) | ((with_reducible show wpList _ _ _ (⟨_, Op.load _ _, _, _, _, _⟩ :: _) _ _); (first | refine Gives.list (f_load hS rfl rfl (by rfl)) rfl ?_ | refine Gives.list (f_loadS hS rfl rfl (by rfl)) rfl ?_ | refine Gives.list (f_loadAt hS rfl rfl) rfl ?_ | refine Gives.list (f_loadAtS hS rfl rfl (by rfl)) rfl ?_ | refine Gives.list (f_loadAtF hS rfl rfl (by rfl)) rfl ?_); (simp only [Act.put, sA, sZ, sS])) | ((with_reducible show wpList _ _ _ (⟨_, Op.store _ _ _, _, _, _, _⟩ :: _) _ _); (first | refine Does.list (f_store hS rfl rfl rfl (by rfl) (by rfl)) rfl ?_ | refine Does.list (f_storeS hS rfl rfl rfl (by rfl) (by rfl) (by rfl)) rfl ?_); clear hS; rintro _ wx ⟨rfl, hS⟩; (simp only [sZ, sS] at hS); (simp only [Act.put, sA, sZ, sS])) | ((with_reducible show wpList _ _ _ (⟨_, Op.alloc _, _, _, _, _⟩ :: _) _ _); refine Does.list (does_alloc hS rfl (by rfl)) rfl ?_; clear hS; rintro _ wx ⟨ba, rfl, hS, _⟩; (simp only [Act.put, sA, sZ, sS])) | ((with_reducible show wpList _ _ _ (⟨_, Op.buildSlice _ _ _, _, _, _, _⟩ :: _) _ _); refine Does.list (does_buildSlice (X := ?_) (cs := ?_) (E := ?_) hS rfl ?_ ?_) rfl ?_; rotate_left 3; (go_simp; rfl); rfl; clear hS; rintro _ wx ⟨bx, rfl, hS, _⟩; (simp only [Act.put, sA, sZ, sS])))
  go_ret
  exact ⟨_, rfl, hS.result⟩
theorem spec_l8Blank3 (w : World) : Calls Tryd.prog 118 #[.int .i64 3] w fun e w' => ∃ v, e = .returned v ∧ Fresh Rep.int.rows w w' [v] (List.replicate 3 0) := spec_l8Blank w 3 (by decide)
theorem Sat.rowLit3o {w0 w : World} {Γ : List Fact} {b : Nat} {p q r : Int} (h : Sat w0 w (.box b [.int .i64 p, .int .i64 q, .int .i64 r] :: Γ)) (h1 : I64 p) (h2 : I64 q) (h3 : I64 r) : Sat w0 w (.own Rep.int.rows [.slice (some ⟨b, 0, none⟩) 3 3] [p, q, r] :: Γ) :=
  Sat.lit (m := 3) (h.flat (e := Rep.int.vec 3) (x := [p, q, r]) ⟨rfl, all_ints w [p, q, r] (by intro n hn; simp only [List.mem_cons, List.not_mem_nil, or_false] at hn; rcases hn with rfl | rfl | rfl <;> assumption)⟩) (by decide)
theorem colOf_neg {xs : List ByteArray} {x : ByteArray} : decide (colOf xs x < 0) = !hasS xs x := by
  rw [← colOf_has (xs := xs) (x := x)]
  by_cases h : colOf xs x < 0
  · rw [decide_eq_true h, decide_eq_false (by omega)]; rfl
  · rw [decide_eq_false h, decide_eq_true (by omega)]; rfl
/-- In a sorted table no real row stands behind one that is none. -/
theorem sortP_real {c : Int} {down : Bool} {p : PaddedD} {k : Nat} (h : (sortP c down p).2.2.getD (k + 1) false = true) : (sortP c down p).2.2.getD k false = true := by
  rw [sortP_front] at h ⊢
  generalize (sortP c down p).2.2.countP id = n at h ⊢
  generalize (sortP c down p).2.2.length - n = m at h ⊢
  rw [List.getD_eq_getElem?_getD] at h ⊢
  by_cases hk : k + 1 < n
  · rw [List.getElem?_append_left (by rw [List.length_replicate]; omega), List.getElem?_replicate, if_pos (by omega)]; rfl
  · rw [List.getElem?_append_right (by rw [List.length_replicate]; omega), List.getElem?_replicate] at h
    split at h <;> cases h
/-- What the reference's counts are: those of the program where a real row begins. -/
def gAdj (rows : List (List Int)) (kk k : Nat) : Bool := decide (0 < k) && !decide (gCell rows k kk = gCell rows (k - 1) kk)
def gInv (rows : List (List Int)) (real : List Bool) (kk vv k : Nat) (x y : Int) : Prop := real.getD k false = true → (if gAdj rows kk k then (0, 0) else (x, y)) = gSt rows real kk vv k
section
variable {rows : List (List Int)} {real : List Bool} {kk vv k : Nat} {x y a : Int}
theorem gInv_0 : gInv rows real kk vv 0 0 0 := fun _ => by unfold gAdj; rfl
theorem gInv_f (h0 : real.getD k false = false) (hf : real.getD (k + 1) false = true → real.getD k false = true) : gInv rows real kk vv (k + 1) x y := fun h => by have := hf h; rw [h0] at this; cases this
theorem gInv_t {X Y : Int} (h0 : real.getD k false = true) (hk : k + 1 < rows.length ∨ real.getD (k + 1) false = false) (hs : gSt rows real kk vv k = (X, Y)) (ha : gCell rows k vv = a) : gInv rows real kk vv (k + 1) (X + 1) (Y + a) := fun h => by
  have hlt : k + 1 < rows.length := by
    rcases hk with h1 | h1
    · exact h1
    · rw [h1] at h; cases h
  have e1 : gAdj rows kk (k + 1) = gLast rows real kk k := by
    unfold gAdj gLast
    rw [h0, h, decide_eq_true hlt, decide_eq_true (Nat.succ_pos k)]
    rfl
  rw [e1, gSt, h0]
  cases hl : gLast rows real kk k
  · simp [hs, ha]
  · rfl
end
end Go.Proofs.YtldknaajnnohiaaDoor
