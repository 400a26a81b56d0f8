/- Columns taken: the program's contracts. -/
import Derived.Test.YtldknaajnnohiaaDoorPass
import Derived.Test.YtldknaajnnohiaaDoorFind
import Derived.Test.YtldknaajnnohiaaDoorNew
import Derived.Test.YtldknaajnnohiaaDoorPdv
import Derived.Test.YtldknaajnnohiaaDoorCutP
import Derived.Test.YtldknaajnnohiaaDoorCopy
import Derived.Deep.DeepCutAuto
import Derived.Test.YtldknaajnnohiaaDoorCutS
section
namespace Go.Proofs.YtldknaajnnohiaaDoor
open Go.RowKit

/-! ### The rows -/
set_option maxHeartbeats 4000000 in
set_option maxRecDepth 8000 in
theorem impl_take (w : World) (A1 A2 A3 : Option Addr) (c1 c2 c3 : Nat) (F G H' : List Nat) (ns cols : List ByteArray) (rows : List (List Int)) (hx : SliceHas Rep.str w F [.slice A1 ns.length c1] ns) (hy : SliceHas Rep.int.slice w G [.slice A2 rows.length c2] rows) (hz : SliceHas Rep.str w H' [.slice A3 cols.length c3] cols) (hoff : cols.any (offS ns) = false) (hrn : ∀ r ∈ rows, r.length = ns.length) (hl1 : rows.length ≤ 1048576) (hl2 : cols.length ≤ 1048576) :
    Calls Tryd.prog 86 #[.slice A1 ns.length c1, .slice A2 rows.length c2, .slice A3 cols.length c3] w fun e w' => ∃ v, e = .returned v ∧ Fresh Rep.int.rows.rows w w' [v] (takeRows ns cols rows) := by
  have hS : Sat w w [.ro Rep.str.slice [.slice A1 ns.length c1] ns, .ro Rep.int.slice.slice [.slice A2 rows.length c2] rows, .ro Rep.str.slice [.slice A3 cols.length c3] cols] := (((Sat.nil w).arg hz).arg hy).arg hx
  clear hx hy hz
  have Hoff := Lib.hid hoff
  have Hrn := Lib.hid hrn
  clear hoff hrn
  go_enter Tryd.func86, Tryd.ntmps86
  go_wp2_with (first | ((with_reducible show wpList _ _ _ (⟨_, Op.box _ _, _, _, _, _⟩ :: _) _ _); refine Does.list (does_box hS rfl rfl (by rfl)) rfl ?_; clear hS; rintro _ wx ⟨bo, rfl, hS, _⟩; (simp only [Act.put, List.setIfInBounds_toArray, List.set_cons_zero, List.set_cons_succ])))
  replace hS := Sat.nilRow Rep.int.rows hS
  go_loopw [7, 15] (fun s i wr => ∃ (k : Nat) (B : Option Addr) (d : Nat), i = .int .i64 k ∧ s = .slice B k d ∧ k ≤ rows.length ∧ Sat w wr [.own Rep.int.rows.rows [.slice B k d] (takeRows ns cols (rows.take k)), .ro Rep.str.slice [.slice A1 ns.length c1] ns, .ro Rep.int.slice.slice [.slice A2 rows.length c2] rows, .ro Rep.str.slice [.slice A3 cols.length c3] cols]) (fun _ i _ => rows.length - (intOf i).toNat)
  case atStart => exact ⟨0, none, 0, rfl, rfl, Nat.zero_le _, hS⟩
  case round =>
    clear hS
    obtain ⟨k, B, d, rfl, rfl, hk, hS⟩ := hrel
    by_cases hlt : k < rows.length
    · have hltI : (k : Int) < (rows.length : Int) := by omega
      obtain ⟨ad, A', c', rfl, j0, j1, hS⟩ := hS.elSlice Rep.int A2 rows.length c2 (get_some hlt)
      have H := Lib.hid (takeRows_succ (ns := ns) (cols := cols) hlt)
      have hrl := Hrn.out _ (List.getElem_mem hlt)
      obtain ⟨r, hr⟩ : ∃ r, rows[k] = r := ⟨_, rfl⟩
      rw [hr] at hS H hrl j0
      have Hrl := Lib.hid hrl
      clear hr hrl
      go_wp2_with (first | ((with_reducible show wpList _ _ _ (⟨_, Op.load _ _, _, _, _, _⟩ :: _) _ _); (first | refine Gives.list (f_load hS rfl rfl (by rfl)) rfl ?_ | refine Gives.list (f_loadS hS rfl rfl (by rfl)) rfl ?_ | refine Gives.list (f_loadAt hS rfl rfl) rfl ?_ | refine Gives.list (f_loadAtS hS rfl rfl (by rfl)) rfl ?_ | refine Gives.list (f_loadAtF hS rfl rfl (by rfl)) rfl ?_); (simp only [Act.put, List.setIfInBounds_toArray, List.set_cons_zero, List.set_cons_succ])))
      replace hS : Sat w _ [.own Rep.int.rows [.slice none 0 0] [], .own Rep.int.rows.rows [.slice B k d] (takeRows ns cols (rows.take k)), .ro Rep.int.slice [.slice A' r.length c'] r, .ro Rep.str.slice [.slice A1 ns.length c1] ns, .ro Rep.int.slice.slice [.slice (some ad) rows.length c2] rows, .ro Rep.str.slice [.slice A3 cols.length c3] cols] := (Sat.nilRow Rep.int hS).sel [0, 3, 2, 4, 5, 6] rfl (by decide)
      go_loopw [10, 21] (fun s i wr => ∃ (q : Nat) (C : Option Addr) (g : Nat), i = .int .i64 q ∧ s = .slice C q g ∧ q ≤ cols.length ∧ Sat w wr [.own Rep.int.rows [.slice C q g] (takeRow ns (cols.take q) r), .own Rep.int.rows.rows [.slice B k d] (takeRows ns cols (rows.take k)), .ro Rep.int.slice [.slice A' r.length c'] r, .ro Rep.str.slice [.slice A1 ns.length c1] ns, .ro Rep.int.slice.slice [.slice (some ad) rows.length c2] rows, .ro Rep.str.slice [.slice A3 cols.length c3] cols]) (fun _ i _ => cols.length - (intOf i).toNat)
      case atStart => exact ⟨0, none, 0, rfl, rfl, Nat.zero_le _, hS⟩
      case round =>
        clear hS
        obtain ⟨q, C, g, rfl, rfl, hq, hS⟩ := hrel
        by_cases hqlt : q < cols.length
        · have hqI : (q : Int) < (cols.length : Int) := by omega
          obtain ⟨j, hj, hjn⟩ := colOf_nat (offS_of Hoff.out hqlt)
          have hjr : j < r.length := by rw [Hrl.out]; exact hjn
          have hjI : (j : Int) < (r.length : Int) := by omega
          have HC := Lib.hid (takeRow_succ (ns := ns) (r := r) hqlt)
          have HV := Lib.hid (cellOf_get hj hjr)
          obtain ⟨ad2, rfl, hz, hS⟩ := hS.elStr A3 cols.length c3 (get_some hqlt)
          obtain ⟨ad3, rfl, hI, hS⟩ := hS.elInt A' r.length c' (get_some hjr)
          obtain ⟨x, hx⟩ : ∃ x, cols[q] = x := ⟨_, rfl⟩
          obtain ⟨z, hzz⟩ : ∃ z, r[j] = z := ⟨_, rfl⟩
          rw [hx] at hS HC HV hj hz
          rw [hzz] at hS HV hI
          have Hj := Lib.hid hj
          have Hz := Lib.hid hI
          clear hx hzz hj hI
          go_wp2_with (first | (go_at_call 120; obtain ⟨Fq, hFq⟩ := hS.has Rep.str.slice [.slice A1 ns.length c1]; refine (sl_Index_str _ Fq _ ns x hFq).mono ?_; rintro e w' ⟨rfl, hM⟩; (rw [Hj.out]); replace hS := hS.mod hM; clear hM hFq) | ((with_reducible show wpList _ _ _ (⟨_, Op.call { callee := Callee.builtin Builtin.append, args := _, argTypes := _ }, _, _, _, _⟩ :: _) _ _); refine Does.list (f_append Rep.int (Sat.vec1 (hS.int Hz.out)) rfl rfl rfl rfl rfl (by decide) (by omega)) rfl ?_; clear hS; rintro _ wx ⟨A5, c5, rfl, hS⟩; (simp only [List.set_cons_zero, List.set_cons_succ] at hS); (simp only [Act.put, List.setIfInBounds_toArray, List.set_cons_zero, List.set_cons_succ])) | ((with_reducible show wpList _ _ _ (⟨_, Op.load _ _, _, _, _, _⟩ :: _) _ _); (first | refine Gives.list (f_load hS rfl rfl (by rfl)) rfl ?_ | refine Gives.list (f_loadS hS rfl rfl (by rfl)) rfl ?_ | refine Gives.list (f_loadAt hS rfl rfl) rfl ?_ | refine Gives.list (f_loadAtS hS rfl rfl (by rfl)) rfl ?_ | refine Gives.list (f_loadAtF hS rfl rfl (by rfl)) rfl ?_); (simp only [Act.put, List.setIfInBounds_toArray, List.set_cons_zero, List.set_cons_succ])) | ((with_reducible show wpList _ _ _ (⟨_, Op.buildSlice _ _ _, _, _, _, _⟩ :: _) _ _); refine Does.list (does_buildSlice (X := ?_) (cs := ?_) (E := ?_) hS rfl ?_ ?_) rfl ?_; rotate_left 3; (go_simp; rfl); rfl; clear hS; rintro _ wx ⟨bx, rfl, hS, _⟩; (simp only [Act.put, List.setIfInBounds_toArray, List.set_cons_zero, List.set_cons_succ])))
          go_roundw
          case rel => exact ⟨q + 1, A5, c5, by go_num, rfl, hqlt, by rw [← HC.out, HV.out]; exact hS.sel [2, 3, 4, 5, 6, 7] rfl (by decide)⟩
          case measure => simp [intOf]; omega
        · obtain rfl : q = cols.length := by omega
          rw [List.take_length] at hS
          go_wp2_with (first | ((with_reducible show wpList _ _ _ (⟨_, Op.call { callee := Callee.builtin Builtin.append, args := _, argTypes := _ }, _, _, _, _⟩ :: _) _ _); refine Does.list (f_append Rep.int.rows (Sat.vec1 (Sat.swap hS)) rfl rfl rfl rfl rfl (by decide) (by omega)) rfl ?_; clear hS; rintro _ wx ⟨B2, d2, rfl, hS⟩; (simp only [List.set_cons_zero, List.set_cons_succ] at hS); (simp only [Act.put, List.setIfInBounds_toArray, List.set_cons_zero, List.set_cons_succ])) | ((with_reducible show wpList _ _ _ (⟨_, Op.buildSlice _ _ _, _, _, _, _⟩ :: _) _ _); refine Does.list (does_buildSlice (X := ?_) (cs := ?_) (E := ?_) hS rfl ?_ ?_) rfl ?_; rotate_left 3; (go_simp; rfl); rfl; clear hS; rintro _ wx ⟨bx, rfl, hS, _⟩; (simp only [Act.put, List.setIfInBounds_toArray, List.set_cons_zero, List.set_cons_succ])))
          go_roundw
          case rel => exact ⟨k + 1, B2, d2, by go_num, rfl, hlt, by rw [← H.out]; exact hS.sel [0, 2, 3, 4] rfl (by decide)⟩
          case measure => simp [intOf]; omega
    · obtain rfl : k = rows.length := by omega
      rw [List.take_length] at hS
      go_wp2_with (first | ((with_reducible show wpList _ _ _ (⟨_, Op.box _ _, _, _, _, _⟩ :: _) _ _); refine Does.list (does_box hS rfl rfl (by rfl)) rfl ?_; clear hS; rintro _ wx ⟨bo, rfl, hS, _⟩; (simp only [Act.put, List.setIfInBounds_toArray, List.set_cons_zero, List.set_cons_succ])))
      go_ret
      exact ⟨_, rfl, hS.result⟩
end Go.Proofs.YtldknaajnnohiaaDoor
end

section
namespace Go.Proofs.YtldknaajnnohiaaDoor
open Go.RowKit

def takeF (p : PaddedD) (cols : List ByteArray) : PaddedD × List AccessD × Bool :=
  if paddedOk p && takenB p.1 cols then ((cols, takeRows p.1 cols p.2.1, p.2.2), passF p.2.1.length, true) else (zeroP, [], false)
section
variable {ns cols : List ByteArray} {rows : List (List Int)} {real : List Bool} {p : PaddedD}
theorem takeRows_len : (takeRows ns cols rows).length = rows.length := by simp [takeRows]
end
theorem Sat.resultCTT {P : Program} {w0 w : World} {Γ : List Fact} {fn : Func} {tmps : Array Value} {u1 u2 t : Tmp} {T : TypeId} {z : Value} {n b i : Nat} {cs : List Value} (hS : Sat w0 w Γ) (h : fn.results = #[.cell t T, .tmp u1, .tmp u2]) (ht : tmps.getD t undef = .pointer (some ⟨b, 0, none⟩))
    [hi : BoxAt Γ b cs i] [hT : Ty P T z n true] (hl : cs.length = n) : (results fn tmps).run P w = .ok (.tuple #[.agg cs.toArray, tmps.getD u1 undef, tmps.getD u2 undef]) w := by
  have hc := hS.boxCells hi.get
  have hv : (loadVar T ⟨b, 0, none⟩).run P w = .ok (.agg cs.toArray) w := by
    subst hl
    simp [loadVar, run_isAgg hT, run_sizeOf hT, run_loadCells_list w _ cs hc]
  have ht' : tmps[t]?.getD undef = .pointer (some ⟨b, 0, none⟩) := by simpa using ht
  simp [results, h, ht', asAddr, hv]
end Go.Proofs.YtldknaajnnohiaaDoor
end

section
namespace Go.Proofs.YtldknaajnnohiaaDoor
open Go.RowKit

end Go.Proofs.YtldknaajnnohiaaDoor
end

section
namespace Go.Proofs.YtldknaajnnohiaaDoor
open Go.RowKit

end Go.Proofs.YtldknaajnnohiaaDoor
end
