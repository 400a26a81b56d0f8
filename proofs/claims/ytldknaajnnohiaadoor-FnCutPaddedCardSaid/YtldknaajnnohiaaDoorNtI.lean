/- NetworkOf: the program's contract. -/
import Derived.Test.YtldknaajnnohiaaDoorSho
import Derived.Test.YtldknaajnnohiaaDoorNtS
import Derived.Test.YtldknaajnnohiaaDoorFind
import Derived.Test.YtldknaajnnohiaaDoorSrt
import Derived.Laws.Bits64b
import Derived.Test.YtldknaajnnohiaaDoorPass
section
namespace Go.Proofs.YtldknaajnnohiaaDoor
open Go.RowKit

end Go.Proofs.YtldknaajnnohiaaDoor
end

section
namespace Go.Proofs.YtldknaajnnohiaaDoor
open Go.RowKit

def pairAcc2 (p : PairD) : List AccessD := [(2, p.1, false), (2, p.2, false), (2, p.1, true), (2, p.2, true)]
def pairF (xs : List PairD) : List AccessD := xs.flatMap pairAcc2
theorem pairF_succ {xs : List PairD} {k : Nat} (h : k < xs.length) : pairF (xs.take k) ++ pairAcc2 xs[k] = pairF (xs.take (k + 1)) := by
  unfold pairF; rw [List.take_succ_eq_append_getElem h, List.flatMap_append]; simp
theorem pairAcc2_all (w : World) (p : PairD) (i0 : I64 p.1) (i1 : I64 p.2) : (rAccess.vec 4).has w [] [.int .i64 2, .int .i64 p.1, .bool false, .int .i64 2, .int .i64 p.2, .bool false, .int .i64 2, .int .i64 p.1, .bool true, .int .i64 2, .int .i64 p.2, .bool true] (pairAcc2 p) :=
  ⟨rfl, [], [], [_, _, _], _, rfl, rfl, rAccess_mk (by unfold I64; omega) i0, [], [], [_, _, _], _, rfl, rfl, rAccess_mk (by unfold I64; omega) i1, [], [], [_, _, _], _, rfl, rfl, rAccess_mk (by unfold I64; omega) i0, [], [], [_, _, _], _, rfl, rfl, rAccess_mk (by unfold I64; omega) i1, rfl, rfl⟩
set_option maxHeartbeats 2000000 in
theorem spec_PairTraceR (w : World) (F : List Nat) (v : Value) (xs : List PairD) (hx : SliceHas rPair w F [v] xs) (hn : xs.length ≤ 1048576) :
    Calls Tryd.prog 59 #[.int .i64 2, v] w fun e w' => ∃ v', e = .returned v' ∧ Fresh rAccess.rows w w' [v'] (pairF xs) := by
  obtain ⟨A, c, rfl, hl, _⟩ := hx.form'
  have h2 : inB 2 0 2 = true := by decide
  have hS : Sat w w [.ro rPair.slice [.slice A xs.length c] xs] := (Sat.nil w).arg hx
  clear hx
  go_enter Tryd.func59, Tryd.ntmps59
  go_wp2_with (first | ((with_reducible show wpList _ _ _ (⟨_, Op.box _ _, _, _, _, _⟩ :: _) _ _); refine Does.list (does_box hS rfl rfl (by rfl)) rfl ?_; clear hS; rintro _ wx ⟨bo, rfl, hS, _⟩; (simp only [Act.put, sA, sZ, sS])) | ((with_reducible show wpList _ _ _ (⟨_, Op.load _ _, _, _, _, _⟩ :: _) _ _); (first | refine Gives.list (f_load hS rfl rfl (by rfl)) rfl ?_ | refine Gives.list (f_loadS hS rfl rfl (by rfl)) rfl ?_ | refine Gives.list (f_loadAt hS rfl rfl) rfl ?_ | refine Gives.list (f_loadAtS hS rfl rfl (by rfl)) rfl ?_ | refine Gives.list (f_loadAtF hS rfl rfl (by rfl)) rfl ?_); (simp only [Act.put, sA, sZ, sS])) | ((with_reducible show wpList _ _ _ (⟨_, Op.store _ _ _, _, _, _, _⟩ :: _) _ _); (first | refine Does.list (f_store hS rfl rfl rfl (by rfl) (by rfl)) rfl ?_ | refine Does.list (f_storeS hS rfl rfl rfl (by rfl) (by rfl) (by rfl)) rfl ?_); clear hS; rintro _ wx ⟨rfl, hS⟩; (simp only [sZ, sS] at hS); (simp only [Act.put, sA, sZ, sS])) | ((with_reducible show wpList _ _ _ (⟨_, Op.alloc _, _, _, _, _⟩ :: _) _ _); refine Does.list (does_alloc hS rfl (by rfl)) rfl ?_; clear hS; rintro _ wx ⟨ba, rfl, hS, _⟩; (simp only [Act.put, sA, sZ, sS])) | ((with_reducible show wpList _ _ _ (⟨_, Op.buildSlice _ _ _, _, _, _, _⟩ :: _) _ _); refine Does.list (does_buildSlice (X := ?_) (cs := ?_) (E := ?_) hS rfl ?_ ?_) rfl ?_; rotate_left 3; (go_simp; rfl); rfl; clear hS; rintro _ wx ⟨bx, rfl, hS, _⟩; (simp only [Act.put, sA, sZ, sS])))
  replace hS := (Sat.vec0 rAccess hS).lit (Nat.zero_le _)
  go_loopw [5, 6] (fun s i wr => ∃ (k m : Nat) (B : Option Addr) (d : Nat), i = .int .i64 k ∧ s = .slice B m d ∧ m = 4 * k ∧ k ≤ xs.length ∧ Sat w wr [.own rAccess.rows [.slice B m d] (pairF (xs.take k)), .ro rPair.slice [.slice A xs.length c] xs]) (fun _ i _ => xs.length - (intOf i).toNat)
  case atStart => exact ⟨0, 0, _, _, rfl, rfl, rfl, Nat.zero_le _, hS⟩
  case round =>
    clear hS
    obtain ⟨k, m, B, d, rfl, rfl, hm, hk, hS⟩ := hrel
    have Hm := Lib.hid hm
    have hmb : m ≤ 4194304 := by omega
    clear hm
    by_cases hlt : k < xs.length
    · have hltI : (k : Int) < (xs.length : Int) := by omega
      have H := Lib.hid (pairF_succ hlt)
      obtain ⟨ad, rfl, i0, i1, hS⟩ := hS.elPair A xs.length c (get_some hlt)
      generalize xs[k] = x at hS H i0 i1
      obtain ⟨x0, x1⟩ := x
      dsimp only at hS i0 i1
      go_wp2_with (first | (go_at_call 82; refine (spec_in _ _ _ _).mono ?_; rintro e w' ⟨rfl, rfl⟩; (simp only [h2])) | ((with_reducible show wpList _ _ _ (⟨_, Op.call { callee := Callee.builtin Builtin.append, args := _, argTypes := _ }, _, _, _, _⟩ :: _) _ _); refine Does.list (f_append rAccess (hS.flat (pairAcc2_all _ (x0, x1) i0 i1)) rfl rfl rfl rfl rfl (by decide) (by omega)) rfl ?_; clear hS; rintro _ wx ⟨A2, c2, rfl, hS⟩; (simp only [sZ, sS] at hS); (simp only [Act.put, sA, sZ, sS])) | ((with_reducible show wpList _ _ _ (⟨_, Op.box _ _, _, _, _, _⟩ :: _) _ _); refine Does.list (does_box hS rfl rfl (by rfl)) rfl ?_; clear hS; rintro _ wx ⟨bo, rfl, hS, _⟩; (simp only [Act.put, sA, sZ, sS])) | ((with_reducible show wpList _ _ _ (⟨_, Op.load _ _, _, _, _, _⟩ :: _) _ _); (first | refine Gives.list (f_load hS rfl rfl (by rfl)) rfl ?_ | refine Gives.list (f_loadS hS rfl rfl (by rfl)) rfl ?_ | refine Gives.list (f_loadAt hS rfl rfl) rfl ?_ | refine Gives.list (f_loadAtS hS rfl rfl (by rfl)) rfl ?_ | refine Gives.list (f_loadAtF hS rfl rfl (by rfl)) rfl ?_); (simp only [Act.put, sA, sZ, sS])) | ((with_reducible show wpList _ _ _ (⟨_, Op.store _ _ _, _, _, _, _⟩ :: _) _ _); (first | refine Does.list (f_store hS rfl rfl rfl (by rfl) (by rfl)) rfl ?_ | refine Does.list (f_storeS hS rfl rfl rfl (by rfl) (by rfl) (by rfl)) rfl ?_); clear hS; rintro _ wx ⟨rfl, hS⟩; (simp only [sZ, sS] at hS); (simp only [Act.put, sA, sZ, sS])) | ((with_reducible show wpList _ _ _ (⟨_, Op.alloc _, _, _, _, _⟩ :: _) _ _); refine Does.list (does_alloc hS rfl (by rfl)) rfl ?_; clear hS; rintro _ wx ⟨ba, rfl, hS, _⟩; (simp only [Act.put, sA, sZ, sS])) | ((with_reducible show wpList _ _ _ (⟨_, Op.buildSlice _ _ _, _, _, _, _⟩ :: _) _ _); refine Does.list (does_buildSlice (X := ?_) (cs := ?_) (E := ?_) hS rfl ?_ ?_) rfl ?_; rotate_left 3; (go_simp; rfl); rfl; clear hS; rintro _ wx ⟨bx, rfl, hS, _⟩; (simp only [Act.put, sA, sZ, sS])))
      go_roundw
      case rel => exact ⟨k + 1, m + 4, A2, c2, by go_num, rfl, by have := Hm.out; omega, hlt, by rw [← H.out]; exact hS.sel [1, 2] rfl (by decide)⟩
      case measure => simp [intOf]; omega
    · obtain rfl : k = xs.length := by omega
      rw [List.take_length] at hS
      go_wp2_with (first | (go_at_call 82; refine (spec_in _ _ _ _).mono ?_; rintro e w' ⟨rfl, rfl⟩; (simp only [h2])) | ((with_reducible show wpList _ _ _ (⟨_, Op.box _ _, _, _, _, _⟩ :: _) _ _); refine Does.list (does_box hS rfl rfl (by rfl)) rfl ?_; clear hS; rintro _ wx ⟨bo, rfl, hS, _⟩; (simp only [Act.put, sA, sZ, sS])) | ((with_reducible show wpList _ _ _ (⟨_, Op.load _ _, _, _, _, _⟩ :: _) _ _); (first | refine Gives.list (f_load hS rfl rfl (by rfl)) rfl ?_ | refine Gives.list (f_loadS hS rfl rfl (by rfl)) rfl ?_ | refine Gives.list (f_loadAt hS rfl rfl) rfl ?_ | refine Gives.list (f_loadAtS hS rfl rfl (by rfl)) rfl ?_ | refine Gives.list (f_loadAtF hS rfl rfl (by rfl)) rfl ?_); (simp only [Act.put, sA, sZ, sS])) | ((with_reducible show wpList _ _ _ (⟨_, Op.store _ _ _, _, _, _, _⟩ :: _) _ _); (first | refine Does.list (f_store hS rfl rfl rfl (by rfl) (by rfl)) rfl ?_ | refine Does.list (f_storeS hS rfl rfl rfl (by rfl) (by rfl) (by rfl)) rfl ?_); clear hS; rintro _ wx ⟨rfl, hS⟩; (simp only [sZ, sS] at hS); (simp only [Act.put, sA, sZ, sS])) | ((with_reducible show wpList _ _ _ (⟨_, Op.alloc _, _, _, _, _⟩ :: _) _ _); refine Does.list (does_alloc hS rfl (by rfl)) rfl ?_; clear hS; rintro _ wx ⟨ba, rfl, hS, _⟩; (simp only [Act.put, sA, sZ, sS])) | ((with_reducible show wpList _ _ _ (⟨_, Op.buildSlice _ _ _, _, _, _, _⟩ :: _) _ _); refine Does.list (does_buildSlice (X := ?_) (cs := ?_) (E := ?_) hS rfl ?_ ?_) rfl ?_; rotate_left 3; (go_simp; rfl); rfl; clear hS; rintro _ wx ⟨bx, rfl, hS, _⟩; (simp only [Act.put, sA, sZ, sS])))
      go_ret
      exact ⟨_, rfl, hS.result⟩
end Go.Proofs.YtldknaajnnohiaaDoor
end
