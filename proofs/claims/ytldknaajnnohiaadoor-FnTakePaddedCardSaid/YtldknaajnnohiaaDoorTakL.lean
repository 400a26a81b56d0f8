/- Columns taken: the program's contracts. -/
import Derived.Test.YtldknaajnnohiaaDoorPass
import Derived.Test.YtldknaajnnohiaaDoorFind
import Derived.Test.YtldknaajnnohiaaDoorNew
import Derived.Test.YtldknaajnnohiaaDoorPdv
import Derived.Test.YtldknaajnnohiaaDoorCutP
import Derived.Test.YtldknaajnnohiaaDoorCopy
import Derived.Deep.DeepCutAuto
import Derived.Test.YtldknaajnnohiaaDoorCutL
section
namespace Go.Proofs.YtldknaajnnohiaaDoor
open Go.RowKit

set_option maxHeartbeats 1000000 in
theorem clo_taken (w : World) (x : ByteArray) (bk : Nat) (A1 : Option Addr) (c1 : Nat) (ns : List ByteArray) (Fk Fn : List Nat) (hk : (Rep.cellR ⟨bk, 0, none⟩).has w Fk [] [.slice A1 ns.length c1]) (hn : SliceHas Rep.str w Fn [.slice A1 ns.length c1] ns) :
    Calls Tryd.prog 158 #[.string x, .pointer (some ⟨bk, 0, none⟩)] w fun e w' => e = .returned (.bool (offS ns x)) ∧ Mod [] w w' := by
  have hS : Sat w w [.at ⟨bk, 0, none⟩ [.slice A1 ns.length c1], .ro Rep.str.slice [.slice A1 ns.length c1] ns] := ((Sat.nil w).arg hn).argAt hk
  clear hk hn
  go_enter Tryd.func158, Tryd.ntmps158
  go_wp2_with (first | (go_at_call 98; obtain ⟨Fq, hFq⟩ := hS.has Rep.str.slice [.slice A1 ns.length c1]; refine (sl_Contains_str _ Fq _ ns x hFq).mono ?_; rintro e w' ⟨rfl, hM⟩; replace hS := hS.mod hM; clear hM hFq) | ((with_reducible show wpList _ _ _ (⟨_, Op.load _ _, _, _, _, _⟩ :: _) _ _); (first | refine Gives.list (f_load hS rfl rfl (by rfl)) rfl ?_ | refine Gives.list (f_loadS hS rfl rfl (by rfl)) rfl ?_ | refine Gives.list (f_loadAt hS rfl rfl) rfl ?_ | refine Gives.list (f_loadAtS hS rfl rfl (by rfl)) rfl ?_ | refine Gives.list (f_loadAtF hS rfl rfl (by rfl)) rfl ?_); (simp only [Act.put, List.setIfInBounds_toArray, List.set_cons_zero, List.set_cons_succ])))
  go_ret
  exact ⟨rfl, hS.mod0⟩
set_option maxHeartbeats 1000000 in
theorem ixf_taken (w : World) (F : List Nat) (v : Value) (xs : List ByteArray) (hx : SliceHas Rep.str w F [v] xs) (bk : Nat) (A1 : Option Addr) (c1 : Nat) (ns : List ByteArray) (Fk Fn : List Nat) (hk : (Rep.cellR ⟨bk, 0, none⟩).has w Fk [] [.slice A1 ns.length c1]) (hn : SliceHas Rep.str w Fn [.slice A1 ns.length c1] ns) :
    Calls Tryd.prog 183 #[v, .func (.func 158) #[] #[.pointer (some ⟨bk, 0, none⟩)]] w fun e w' => ∃ r : Int, e = .returned (.int .i64 r) ∧ decide (0 ≤ r) = xs.any (offS ns) ∧ Mod [] w w' := by
  obtain ⟨A, c, rfl, hc, _⟩ := hx.form'
  have hS : Sat w w [.ro Rep.str.slice [.slice A xs.length c] xs] := (Sat.nil w).arg hx
  clear hx
  go_enter Tryd.func183, Tryd.ntmps183
  go_wp2_with fail
  go_loopw [8] (fun i wr => ∃ q : Nat, q ≤ xs.length ∧ i = .int .i64 q ∧ (xs.take q).any (offS ns) = false ∧ Sat w wr [.ro Rep.str.slice [.slice A xs.length c] xs]) (fun i _ => xs.length - (intOf i).toNat)
  case atStart => exact ⟨0, Nat.zero_le _, rfl, rfl, hS⟩
  case round =>
    clear hS
    obtain ⟨q, hq, rfl, ha, hS⟩ := hrel
    have Ha := Lib.hid ha
    clear ha
    by_cases hlt : q < xs.length
    · obtain ⟨ad, rfl, hz, hS⟩ := hS.elStr A xs.length c (get_some hlt)
      cases hp : offS ns xs[q]
      · have H := Lib.hid (any_succ_f (p := offS ns) hlt Ha.out hp)
        generalize xs[q] = x at hp hS hz
        go_wp2_with (first | ((with_reducible show wpList _ _ _ (⟨_, Op.load _ _, _, _, _, _⟩ :: _) _ _); (first | refine Gives.list (f_load hS rfl rfl (by rfl)) rfl ?_ | refine Gives.list (f_loadS hS rfl rfl (by rfl)) rfl ?_ | refine Gives.list (f_loadAt hS rfl rfl) rfl ?_ | refine Gives.list (f_loadAtS hS rfl rfl (by rfl)) rfl ?_ | refine Gives.list (f_loadAtF hS rfl rfl (by rfl)) rfl ?_); (simp only [Act.put, List.setIfInBounds_toArray, List.set_cons_zero, List.set_cons_succ])) | (go_at_call 158; refine (clo_taken _ x bk A1 c1 ns Fk Fn ((Rep.cellR _).mod0 hk hS.mod0) (Rep.str.slice.mod0 hn hS.mod0)).mono ?_; rintro e w' ⟨rfl, hM⟩; replace hS := hS.mod hM; clear hM))
        go_roundw
        case rel => exact ⟨q + 1, hlt, by go_num, H.out, hS.sel [1] rfl (by decide)⟩
        case measure => simp [intOf]; omega
      · have H := Lib.hid (any_of_get (offS ns) xs q hlt hp)
        generalize xs[q] = x at hp hS hz
        go_wp2_with (first | ((with_reducible show wpList _ _ _ (⟨_, Op.load _ _, _, _, _, _⟩ :: _) _ _); (first | refine Gives.list (f_load hS rfl rfl (by rfl)) rfl ?_ | refine Gives.list (f_loadS hS rfl rfl (by rfl)) rfl ?_ | refine Gives.list (f_loadAt hS rfl rfl) rfl ?_ | refine Gives.list (f_loadAtS hS rfl rfl (by rfl)) rfl ?_ | refine Gives.list (f_loadAtF hS rfl rfl (by rfl)) rfl ?_); (simp only [Act.put, List.setIfInBounds_toArray, List.set_cons_zero, List.set_cons_succ])) | (go_at_call 158; refine (clo_taken _ x bk A1 c1 ns Fk Fn ((Rep.cellR _).mod0 hk hS.mod0) (Rep.str.slice.mod0 hn hS.mod0)).mono ?_; rintro e w' ⟨rfl, hM⟩; replace hS := hS.mod hM; clear hM))
        go_ret
        exact ⟨_, rfl, by rw [H.out]; simp, hS.mod0⟩
    · have H : Hid (xs.any (offS ns) = false) := by
        have ha := Ha.out
        rw [List.take_of_length_le (by omega)] at ha
        exact ha
      go_wp2_with fail
      go_ret
      exact ⟨_, rfl, by rw [H.out]; rfl, hS.mod0⟩
set_option maxHeartbeats 1000000 in
theorem cf_taken (w : World) (F : List Nat) (v : Value) (xs : List ByteArray) (hx : SliceHas Rep.str w F [v] xs) (bk : Nat) (A1 : Option Addr) (c1 : Nat) (ns : List ByteArray) (Fk Fn : List Nat) (hk : (Rep.cellR ⟨bk, 0, none⟩).has w Fk [] [.slice A1 ns.length c1]) (hn : SliceHas Rep.str w Fn [.slice A1 ns.length c1] ns) :
    Calls Tryd.prog 157 #[v, .func (.func 158) #[] #[.pointer (some ⟨bk, 0, none⟩)]] w fun e w' => e = .returned (.bool (xs.any (offS ns))) ∧ Mod [] w w' := by
  go_enter Tryd.func157, Tryd.ntmps157
  go_wp2_with (go_at_call 183; refine (ixf_taken _ F _ xs hx bk A1 c1 ns Fk Fn hk hn).mono ?_; rintro e w1 ⟨r, rfl, hr, hm⟩)
  go_ret
  exact ⟨rfl, hm⟩
set_option maxHeartbeats 1000000 in
theorem impl_taken (w : World) (hR : ResOk w) (A1 A2 : Option Addr) (c1 c2 : Nat) (F G : List Nat) (ns cols : List ByteArray) (hx : SliceHas Rep.str w F [.slice A1 ns.length c1] ns) (hy : SliceHas Rep.str w G [.slice A2 cols.length c2] cols) :
    Calls Tryd.prog 85 #[.slice A1 ns.length c1, .slice A2 cols.length c2] w fun e w' => e = .returned (.bool (takenB ns cols)) ∧ Mod [] w w' := by
  have hS : Sat w w [.ro Rep.str.slice [.slice A1 ns.length c1] ns, .ro Rep.str.slice [.slice A2 cols.length c2] cols] := ((Sat.nil w).arg hy).arg hx
  clear hx hy
  cases h1 : namesOk cols
  · have H := Lib.hid (show takenB ns cols = false by unfold takenB; rw [h1]; rfl)
    go_enter Tryd.func85, Tryd.ntmps85
    go_wp2_with (first | (go_at_call 68; obtain ⟨Fq, hFq⟩ := hS.has Rep.str.slice [.slice A2 cols.length c2]; refine (impl_columnsValid _ (hR.mod0 hS.mod0) Fq _ _ hFq).mono ?_; rintro e w' ⟨rfl, hM⟩; replace hS := hS.mod hM; clear hM hFq) | ((with_reducible show wpList _ _ _ (⟨_, Op.box _ _, _, _, _, _⟩ :: _) _ _); refine Does.list (does_box hS rfl rfl (by rfl)) rfl ?_; clear hS; rintro _ wx ⟨bo, rfl, hS, _⟩; (simp only [Act.put, List.setIfInBounds_toArray, List.set_cons_zero, List.set_cons_succ])))
    go_ret
    exact ⟨ret_false H.out, hS.mod0⟩
  · have H := Lib.hid (show takenB ns cols = !cols.any (offS ns) by unfold takenB; rw [h1]; rfl)
    go_enter Tryd.func85, Tryd.ntmps85
    go_wp2_with (first | (go_at_call 68; obtain ⟨Fq, hFq⟩ := hS.has Rep.str.slice [.slice A2 cols.length c2]; refine (impl_columnsValid _ (hR.mod0 hS.mod0) Fq _ _ hFq).mono ?_; rintro e w' ⟨rfl, hM⟩; replace hS := hS.mod hM; clear hM hFq) | (go_at_call 157; obtain ⟨Fq, hFq⟩ := hS.has Rep.str.slice [.slice A2 cols.length c2]; obtain ⟨Fn, hFn⟩ := hS.has Rep.str.slice [.slice A1 ns.length c1]; refine (cf_taken _ Fq _ cols hFq bo A1 c1 ns _ Fn (hS.boxR (i := 0) rfl) hFn).mono ?_; rintro e w' ⟨rfl, hM⟩; replace hS := hS.mod hM; clear hM hFq hFn) | ((with_reducible show wpList _ _ _ (⟨_, Op.box _ _, _, _, _, _⟩ :: _) _ _); refine Does.list (does_box hS rfl rfl (by rfl)) rfl ?_; clear hS; rintro _ wx ⟨bo, rfl, hS, _⟩; (simp only [Act.put, List.setIfInBounds_toArray, List.set_cons_zero, List.set_cons_succ])))
    go_ret
    exact ⟨ret_bool H.out.symm, hS.mod0⟩

/-! ### The rows -/
set_option maxHeartbeats 4000000 in
set_option maxRecDepth 8000 in
theorem impl_take (w : World) (A1 A2 A3 : Option Addr) (c1 c2 c3 : Nat) (F G H' : List Nat) (ns cols : List ByteArray) (rows : List (List Int)) (hx : SliceHas Rep.str w F [.slice A1 ns.length c1] ns) (hy : SliceHas Rep.int.slice w G [.slice A2 rows.length c2] rows) (hz : SliceHas Rep.str w H' [.slice A3 cols.length c3] cols) (hoff : cols.any (offS ns) = false) (hrn : ∀ r ∈ rows, r.length = ns.length) (hl1 : rows.length ≤ 1048576) (hl2 : cols.length ≤ 1048576) :
    Calls Tryd.prog 86 #[.slice A1 ns.length c1, .slice A2 rows.length c2, .slice A3 cols.length c3] w fun e w' => ∃ v, e = .returned v ∧ Fresh Rep.int.rows.rows w w' [v] (takeRows ns cols rows) := by
  have hS : Sat w w [.ro Rep.str.slice [.slice A1 ns.length c1] ns, .ro Rep.int.slice.slice [.slice A2 rows.length c2] rows, .ro Rep.str.slice [.slice A3 cols.length c3] cols] := (((Sat.nil w).arg hz).arg hy).arg hx
  clear hx hy hz
  have Hoff := Lib.hid hoff
  have Hrn := Lib.hid hrn
  clear hoff hrn
  go_enter Tryd.func86, Tryd.ntmps86
  go_wp2_with (first | ((with_reducible show wpList _ _ _ (⟨_, Op.box _ _, _, _, _, _⟩ :: _) _ _); refine Does.list (does_box hS rfl rfl (by rfl)) rfl ?_; clear hS; rintro _ wx ⟨bo, rfl, hS, _⟩; (simp only [Act.put, List.setIfInBounds_toArray, List.set_cons_zero, List.set_cons_succ])))
  replace hS := Sat.nilRow Rep.int.rows hS
  go_loopw [7, 15] (fun s i wr => ∃ (k : Nat) (B : Option Addr) (d : Nat), i = .int .i64 k ∧ s = .slice B k d ∧ k ≤ rows.length ∧ Sat w wr [.own Rep.int.rows.rows [.slice B k d] (takeRows ns cols (rows.take k)), .ro Rep.str.slice [.slice A1 ns.length c1] ns, .ro Rep.int.slice.slice [.slice A2 rows.length c2] rows, .ro Rep.str.slice [.slice A3 cols.length c3] cols]) (fun _ i _ => rows.length - (intOf i).toNat)
  case atStart => exact ⟨0, none, 0, rfl, rfl, Nat.zero_le _, hS⟩
  case round =>
    clear hS
    obtain ⟨k, B, d, rfl, rfl, hk, hS⟩ := hrel
    by_cases hlt : k < rows.length
    · have hltI : (k : Int) < (rows.length : Int) := by omega
      obtain ⟨ad, A', c', rfl, j0, j1, hS⟩ := hS.elSlice Rep.int A2 rows.length c2 (get_some hlt)
      have H := Lib.hid (takeRows_succ (ns := ns) (cols := cols) hlt)
      have hrl := Hrn.out _ (List.getElem_mem hlt)
      obtain ⟨r, hr⟩ : ∃ r, rows[k] = r := ⟨_, rfl⟩
      rw [hr] at hS H hrl j0
      have Hrl := Lib.hid hrl
      clear hr hrl
      go_wp2_with (first | ((with_reducible show wpList _ _ _ (⟨_, Op.load _ _, _, _, _, _⟩ :: _) _ _); (first | refine Gives.list (f_load hS rfl rfl (by rfl)) rfl ?_ | refine Gives.list (f_loadS hS rfl rfl (by rfl)) rfl ?_ | refine Gives.list (f_loadAt hS rfl rfl) rfl ?_ | refine Gives.list (f_loadAtS hS rfl rfl (by rfl)) rfl ?_ | refine Gives.list (f_loadAtF hS rfl rfl (by rfl)) rfl ?_); (simp only [Act.put, List.setIfInBounds_toArray, List.set_cons_zero, List.set_cons_succ])))
      replace hS : Sat w _ [.own Rep.int.rows [.slice none 0 0] [], .own Rep.int.rows.rows [.slice B k d] (takeRows ns cols (rows.take k)), .ro Rep.int.slice [.slice A' r.length c'] r, .ro Rep.str.slice [.slice A1 ns.length c1] ns, .ro Rep.int.slice.slice [.slice (some ad) rows.length c2] rows, .ro Rep.str.slice [.slice A3 cols.length c3] cols] := (Sat.nilRow Rep.int hS).sel [0, 3, 2, 4, 5, 6] rfl (by decide)
      go_loopw [10, 21] (fun s i wr => ∃ (q : Nat) (C : Option Addr) (g : Nat), i = .int .i64 q ∧ s = .slice C q g ∧ q ≤ cols.length ∧ Sat w wr [.own Rep.int.rows [.slice C q g] (takeRow ns (cols.take q) r), .own Rep.int.rows.rows [.slice B k d] (takeRows ns cols (rows.take k)), .ro Rep.int.slice [.slice A' r.length c'] r, .ro Rep.str.slice [.slice A1 ns.length c1] ns, .ro Rep.int.slice.slice [.slice (some ad) rows.length c2] rows, .ro Rep.str.slice [.slice A3 cols.length c3] cols]) (fun _ i _ => cols.length - (intOf i).toNat)
      case atStart => exact ⟨0, none, 0, rfl, rfl, Nat.zero_le _, hS⟩
      case round =>
        clear hS
        obtain ⟨q, C, g, rfl, rfl, hq, hS⟩ := hrel
        by_cases hqlt : q < cols.length
        · have hqI : (q : Int) < (cols.length : Int) := by omega
          obtain ⟨j, hj, hjn⟩ := colOf_nat (offS_of Hoff.out hqlt)
          have hjr : j < r.length := by rw [Hrl.out]; exact hjn
          have hjI : (j : Int) < (r.length : Int) := by omega
          have HC := Lib.hid (takeRow_succ (ns := ns) (r := r) hqlt)
          have HV := Lib.hid (cellOf_get hj hjr)
          obtain ⟨ad2, rfl, hz, hS⟩ := hS.elStr A3 cols.length c3 (get_some hqlt)
          obtain ⟨ad3, rfl, hI, hS⟩ := hS.elInt A' r.length c' (get_some hjr)
          obtain ⟨x, hx⟩ : ∃ x, cols[q] = x := ⟨_, rfl⟩
          obtain ⟨z, hzz⟩ : ∃ z, r[j] = z := ⟨_, rfl⟩
          rw [hx] at hS HC HV hj hz
          rw [hzz] at hS HV hI
          have Hj := Lib.hid hj
          have Hz := Lib.hid hI
          clear hx hzz hj hI
          go_wp2_with (first | (go_at_call 120; obtain ⟨Fq, hFq⟩ := hS.has Rep.str.slice [.slice A1 ns.length c1]; refine (sl_Index_str _ Fq _ ns x hFq).mono ?_; rintro e w' ⟨rfl, hM⟩; (rw [Hj.out]); replace hS := hS.mod hM; clear hM hFq) | ((with_reducible show wpList _ _ _ (⟨_, Op.call { callee := Callee.builtin Builtin.append, args := _, argTypes := _ }, _, _, _, _⟩ :: _) _ _); refine Does.list (f_append Rep.int (Sat.vec1 (hS.int Hz.out)) rfl rfl rfl rfl rfl (by decide) (by omega)) rfl ?_; clear hS; rintro _ wx ⟨A5, c5, rfl, hS⟩; (simp only [List.set_cons_zero, List.set_cons_succ] at hS); (simp only [Act.put, List.setIfInBounds_toArray, List.set_cons_zero, List.set_cons_succ])) | ((with_reducible show wpList _ _ _ (⟨_, Op.load _ _, _, _, _, _⟩ :: _) _ _); (first | refine Gives.list (f_load hS rfl rfl (by rfl)) rfl ?_ | refine Gives.list (f_loadS hS rfl rfl (by rfl)) rfl ?_ | refine Gives.list (f_loadAt hS rfl rfl) rfl ?_ | refine Gives.list (f_loadAtS hS rfl rfl (by rfl)) rfl ?_ | refine Gives.list (f_loadAtF hS rfl rfl (by rfl)) rfl ?_); (simp only [Act.put, List.setIfInBounds_toArray, List.set_cons_zero, List.set_cons_succ])) | ((with_reducible show wpList _ _ _ (⟨_, Op.buildSlice _ _ _, _, _, _, _⟩ :: _) _ _); refine Does.list (does_buildSlice (X := ?_) (cs := ?_) (E := ?_) hS rfl ?_ ?_) rfl ?_; rotate_left 3; (go_simp; rfl); rfl; clear hS; rintro _ wx ⟨bx, rfl, hS, _⟩; (simp only [Act.put, List.setIfInBounds_toArray, List.set_cons_zero, List.set_cons_succ])))
          go_roundw
          case rel => exact ⟨q + 1, A5, c5, by go_num, rfl, hqlt, by rw [← HC.out, HV.out]; exact hS.sel [2, 3, 4, 5, 6, 7] rfl (by decide)⟩
          case measure => simp [intOf]; omega
        · obtain rfl : q = cols.length := by omega
          rw [List.take_length] at hS
          go_wp2_with (first | ((with_reducible show wpList _ _ _ (⟨_, Op.call { callee := Callee.builtin Builtin.append, args := _, argTypes := _ }, _, _, _, _⟩ :: _) _ _); refine Does.list (f_append Rep.int.rows (Sat.vec1 (Sat.swap hS)) rfl rfl rfl rfl rfl (by decide) (by omega)) rfl ?_; clear hS; rintro _ wx ⟨B2, d2, rfl, hS⟩; (simp only [List.set_cons_zero, List.set_cons_succ] at hS); (simp only [Act.put, List.setIfInBounds_toArray, List.set_cons_zero, List.set_cons_succ])) | ((with_reducible show wpList _ _ _ (⟨_, Op.buildSlice _ _ _, _, _, _, _⟩ :: _) _ _); refine Does.list (does_buildSlice (X := ?_) (cs := ?_) (E := ?_) hS rfl ?_ ?_) rfl ?_; rotate_left 3; (go_simp; rfl); rfl; clear hS; rintro _ wx ⟨bx, rfl, hS, _⟩; (simp only [Act.put, List.setIfInBounds_toArray, List.set_cons_zero, List.set_cons_succ])))
          go_roundw
          case rel => exact ⟨k + 1, B2, d2, by go_num, rfl, hlt, by rw [← H.out]; exact hS.sel [0, 2, 3, 4] rfl (by decide)⟩
          case measure => simp [intOf]; omega
    · obtain rfl : k = rows.length := by omega
      rw [List.take_length] at hS
      go_wp2_with (first | ((with_reducible show wpList _ _ _ (⟨_, Op.box _ _, _, _, _, _⟩ :: _) _ _); refine Does.list (does_box hS rfl rfl (by rfl)) rfl ?_; clear hS; rintro _ wx ⟨bo, rfl, hS, _⟩; (simp only [Act.put, List.setIfInBounds_toArray, List.set_cons_zero, List.set_cons_succ])))
      go_ret
      exact ⟨_, rfl, hS.result⟩
end Go.Proofs.YtldknaajnnohiaaDoor
end

section
namespace Go.Proofs.YtldknaajnnohiaaDoor
open Go.RowKit

def takeF (p : PaddedD) (cols : List ByteArray) : PaddedD × List AccessD × Bool :=
  if paddedOk p && takenB p.1 cols then ((cols, takeRows p.1 cols p.2.1, p.2.2), passF p.2.1.length, true) else (zeroP, [], false)
section
variable {ns cols : List ByteArray} {rows : List (List Int)} {real : List Bool} {p : PaddedD}
theorem takeF_p (h : paddedOk p = false) : takeF p cols = (zeroP, [], false) := by unfold takeF; rw [h]; rfl
theorem takeF_c (h : takenB p.1 cols = false) : takeF p cols = (zeroP, [], false) := by unfold takeF; rw [h]; simp
theorem takeF_t (h1 : paddedOk (ns, rows, real) = true) (h2 : takenB ns cols = true) : takeF (ns, rows, real) cols = ((cols, takeRows ns cols rows, real), passF rows.length, true) := by unfold takeF; rw [h1]; dsimp only; rw [h2]; rfl
theorem takenB_parts (h : takenB ns cols = true) : namesOk cols = true ∧ cols.any (offS ns) = false := by
  unfold takenB at h
  simpa using h
theorem names6 (h : namesOk cols = true) : 1 ≤ cols.length ∧ cols.length ≤ 6 := by
  unfold namesOk at h
  simp only [Bool.and_eq_true] at h
  have h5 := inB_of h.2.2
  omega
theorem takeRows_len : (takeRows ns cols rows).length = rows.length := by simp [takeRows]
end
theorem ret_tk {F : PaddedD × List AccessD × Bool} {p : PaddedD} {tr : List AccessD} {b : Bool} {cs : List Value} {v : Value} {e : Rep PaddedD} {e2 : Rep (List AccessD)} {w w' : World} (h : F = (p, tr, b)) (hl : cs.length = 3) (hf : Fresh (Rep.pair e e2) w w' (cs ++ [v]) (p, tr)) :
    ∃ va vb, Ending.returned (.tuple #[.agg cs.toArray, v, .bool b]) = .returned (.tuple #[.agg va.toArray, vb, .bool F.2.2]) ∧ va.length = 3 ∧ Fresh (Rep.pair e e2) w w' (va ++ [vb]) (F.1, F.2.1) := by
  subst h; exact ⟨cs, v, rfl, hl, hf⟩
theorem Sat.resultCTT {P : Program} {w0 w : World} {Γ : List Fact} {fn : Func} {tmps : Array Value} {u1 u2 t : Tmp} {T : TypeId} {z : Value} {n b i : Nat} {cs : List Value} (hS : Sat w0 w Γ) (h : fn.results = #[.cell t T, .tmp u1, .tmp u2]) (ht : tmps.getD t undef = .pointer (some ⟨b, 0, none⟩))
    [hi : BoxAt Γ b cs i] [hT : Ty P T z n true] (hl : cs.length = n) : (results fn tmps).run P w = .ok (.tuple #[.agg cs.toArray, tmps.getD u1 undef, tmps.getD u2 undef]) w := by
  have hc := hS.boxCells hi.get
  have hv : (loadVar T ⟨b, 0, none⟩).run P w = .ok (.agg cs.toArray) w := by
    subst hl
    simp [loadVar, run_isAgg hT, run_sizeOf hT, run_loadCells_list w _ cs hc]
  have ht' : tmps[t]?.getD undef = .pointer (some ⟨b, 0, none⟩) := by simpa using ht
  simp [results, h, ht', asAddr, hv]
set_option maxHeartbeats 4000000 in
set_option maxRecDepth 8000 in
theorem impl_TakePadded' (w : World) (hR : ResOk w) (A1 A2 A3 A4 : Option Addr) (c1 c2 c3 c4 : Nat) (F G H' K' : List Nat) (ns : List ByteArray) (rows : List (List Int)) (real : List Bool) (cols : List ByteArray) (hx : SliceHas Rep.str w F [.slice A1 ns.length c1] ns) (hy : SliceHas Rep.int.slice w G [.slice A2 rows.length c2] rows) (hz : SliceHas Rep.bool w H' [.slice A3 real.length c3] real) (hv : SliceHas Rep.str w K' [.slice A4 cols.length c4] cols) :
    Calls Tryd.prog 28 #[.agg #[.slice A1 ns.length c1, .slice A2 rows.length c2, .slice A3 real.length c3], .slice A4 cols.length c4] w fun e w' => ∃ va vb, e = .returned (.tuple #[.agg va.toArray, vb, .bool (takeF (ns, rows, real) cols).2.2]) ∧ va.length = 3 ∧ Fresh (Rep.pair oPadded rAccess.rows) w w' (va ++ [vb]) ((takeF (ns, rows, real) cols).1, (takeF (ns, rows, real) cols).2.1) := by
  have hS : Sat w w [.ro Rep.str.slice [.slice A1 ns.length c1] ns, .ro Rep.int.slice.slice [.slice A2 rows.length c2] rows, .ro Rep.bool.slice [.slice A3 real.length c3] real, .ro Rep.str.slice [.slice A4 cols.length c4] cols] := ((((Sat.nil w).arg hv).arg hz).arg hy).arg hx
  clear hx hy hz hv
  cases hp : paddedOk (ns, rows, real)
  · have H := Lib.hid (takeF_p (cols := cols) hp)
    have Hp := Lib.hid hp
    clear hp
    go_enter Tryd.func28, Tryd.ntmps28
    go_wp2_with (first | (go_at_call 20; obtain ⟨Fq, hFq⟩ := hS.has Rep.str.slice [.slice A1 ns.length c1]; obtain ⟨Fr, hFr⟩ := hS.has Rep.int.slice.slice [.slice A2 rows.length c2]; obtain ⟨Fs, hFs⟩ := hS.has Rep.bool.slice [.slice A3 real.length c3]; refine (impl_PaddedValid' _ (hR.mod0 hS.mod0) A1 A2 A3 c1 c2 c3 Fq Fr Fs ns rows real hFq hFr hFs).mono ?_; rintro e w' ⟨rfl, hM⟩; replace hS := hS.mod hM; clear hM hFq hFr hFs; (simp only [Hp.out])) | ((with_reducible show wpList _ _ _ (⟨_, Op.box _ _, _, _, _, _⟩ :: _) _ _); refine Does.list (does_box hS rfl rfl (by rfl)) rfl ?_; clear hS; rintro _ wx ⟨bo, rfl, hS, _⟩; (simp only [Act.put, List.setIfInBounds_toArray, List.set_cons_zero, List.set_cons_succ])) | ((with_reducible show wpList _ _ _ (⟨_, Op.load _ _, _, _, _, _⟩ :: _) _ _); (first | refine Gives.list (f_load hS rfl rfl (by rfl)) rfl ?_ | refine Gives.list (f_loadS hS rfl rfl (by rfl)) rfl ?_ | refine Gives.list (f_loadAt hS rfl rfl) rfl ?_ | refine Gives.list (f_loadAtS hS rfl rfl (by rfl)) rfl ?_ | refine Gives.list (f_loadAtF hS rfl rfl (by rfl)) rfl ?_); (simp only [Act.put, List.setIfInBounds_toArray, List.set_cons_zero, List.set_cons_succ])) | ((with_reducible show wpList _ _ _ (⟨_, Op.store _ _ _, _, _, _, _⟩ :: _) _ _); (first | refine Does.list (f_store hS rfl rfl rfl (by rfl) (by rfl)) rfl ?_ | refine Does.list (f_storeS hS rfl rfl rfl (by rfl) (by rfl) (by rfl)) rfl ?_); clear hS; rintro _ wx ⟨rfl, hS⟩; (simp only [List.set_cons_zero, List.set_cons_succ] at hS); (simp only [Act.put, List.setIfInBounds_toArray, List.set_cons_zero, List.set_cons_succ])) | ((with_reducible show wpList _ _ _ (⟨_, Op.alloc _, _, _, _, _⟩ :: _) _ _); refine Does.list (does_alloc hS rfl (by rfl)) rfl ?_; clear hS; rintro _ wx ⟨ba, rfl, hS, _⟩; (simp only [Act.put, List.setIfInBounds_toArray, List.set_cons_zero, List.set_cons_succ])))
    (try simp only [Exit.inBlock, Exit.then]); refine bodyPost_ret (hS.resultCTT rfl rfl (by rfl)) rfl ?_
    exact ret_tk H.out rfl (Sat.pair (Sat.zeroPadded (Sat.nilRow rAccess hS))).result
  have Hp := Lib.hid hp
  cases hk : takenB ns cols
  · have H := Lib.hid (takeF_c (p := (ns, rows, real)) hk)
    have Hk := Lib.hid hk
    clear hp hk
    go_enter Tryd.func28, Tryd.ntmps28
    go_wp2_with (first | (go_at_call 20; obtain ⟨Fq, hFq⟩ := hS.has Rep.str.slice [.slice A1 ns.length c1]; obtain ⟨Fr, hFr⟩ := hS.has Rep.int.slice.slice [.slice A2 rows.length c2]; obtain ⟨Fs, hFs⟩ := hS.has Rep.bool.slice [.slice A3 real.length c3]; refine (impl_PaddedValid' _ (hR.mod0 hS.mod0) A1 A2 A3 c1 c2 c3 Fq Fr Fs ns rows real hFq hFr hFs).mono ?_; rintro e w' ⟨rfl, hM⟩; replace hS := hS.mod hM; clear hM hFq hFr hFs; (simp only [Hp.out])) | (go_at_call 85; obtain ⟨Fq, hFq⟩ := hS.has Rep.str.slice [.slice A1 ns.length c1]; obtain ⟨Fr, hFr⟩ := hS.has Rep.str.slice [.slice A4 cols.length c4]; refine (impl_taken _ (hR.mod0 hS.mod0) A1 A4 c1 c4 Fq Fr ns cols hFq hFr).mono ?_; rintro e w' ⟨rfl, hM⟩; replace hS := hS.mod hM; clear hM hFq hFr; (simp only [Hk.out])) | ((with_reducible show wpList _ _ _ (⟨_, Op.box _ _, _, _, _, _⟩ :: _) _ _); refine Does.list (does_box hS rfl rfl (by rfl)) rfl ?_; clear hS; rintro _ wx ⟨bo, rfl, hS, _⟩; (simp only [Act.put, List.setIfInBounds_toArray, List.set_cons_zero, List.set_cons_succ])) | ((with_reducible show wpList _ _ _ (⟨_, Op.load _ _, _, _, _, _⟩ :: _) _ _); (first | refine Gives.list (f_load hS rfl rfl (by rfl)) rfl ?_ | refine Gives.list (f_loadS hS rfl rfl (by rfl)) rfl ?_ | refine Gives.list (f_loadAt hS rfl rfl) rfl ?_ | refine Gives.list (f_loadAtS hS rfl rfl (by rfl)) rfl ?_ | refine Gives.list (f_loadAtF hS rfl rfl (by rfl)) rfl ?_); (simp only [Act.put, List.setIfInBounds_toArray, List.set_cons_zero, List.set_cons_succ])) | ((with_reducible show wpList _ _ _ (⟨_, Op.store _ _ _, _, _, _, _⟩ :: _) _ _); (first | refine Does.list (f_store hS rfl rfl rfl (by rfl) (by rfl)) rfl ?_ | refine Does.list (f_storeS hS rfl rfl rfl (by rfl) (by rfl) (by rfl)) rfl ?_); clear hS; rintro _ wx ⟨rfl, hS⟩; (simp only [List.set_cons_zero, List.set_cons_succ] at hS); (simp only [Act.put, List.setIfInBounds_toArray, List.set_cons_zero, List.set_cons_succ])) | ((with_reducible show wpList _ _ _ (⟨_, Op.alloc _, _, _, _, _⟩ :: _) _ _); refine Does.list (does_alloc hS rfl (by rfl)) rfl ?_; clear hS; rintro _ wx ⟨ba, rfl, hS, _⟩; (simp only [Act.put, List.setIfInBounds_toArray, List.set_cons_zero, List.set_cons_succ])))
    (try simp only [Exit.inBlock, Exit.then]); refine bodyPost_ret (hS.resultCTT rfl rfl (by rfl)) rfl ?_
    exact ret_tk H.out rfl (Sat.pair (Sat.zeroPadded (Sat.nilRow rAccess hS))).result
  have Hk := Lib.hid hk
  obtain ⟨hcn, hoff⟩ := takenB_parts hk
  obtain ⟨hc1, hc6⟩ := names6 hcn
  obtain ⟨hl6, hrn⟩ := padded_rows6 hp
  obtain ⟨hl256, hrl⟩ := padded_lenC hp
  obtain ⟨rt, ht⟩ : ∃ x, takeRows ns cols rows = x := ⟨_, rfl⟩
  have hrlb : real.length ≤ 256 := by omega
  have H : Hid (takeF (ns, rows, real) cols = ((cols, rt, real), passF rows.length, true)) := Lib.hid (by rw [takeF_t hp hk, ht])
  have Ht := Lib.hid ht
  have Hoff := Lib.hid hoff
  have Hrn := Lib.hid hrn
  clear hp hk hcn hoff hrn hrl ht
  go_enter Tryd.func28, Tryd.ntmps28
  go_wp2_with (first | (go_at_call 20; obtain ⟨Fq, hFq⟩ := hS.has Rep.str.slice [.slice A1 ns.length c1]; obtain ⟨Fr, hFr⟩ := hS.has Rep.int.slice.slice [.slice A2 rows.length c2]; obtain ⟨Fs, hFs⟩ := hS.has Rep.bool.slice [.slice A3 real.length c3]; refine (impl_PaddedValid' _ (hR.mod0 hS.mod0) A1 A2 A3 c1 c2 c3 Fq Fr Fs ns rows real hFq hFr hFs).mono ?_; rintro e w' ⟨rfl, hM⟩; replace hS := hS.mod hM; clear hM hFq hFr hFs; (simp only [Hp.out])) | (go_at_call 85; obtain ⟨Fq, hFq⟩ := hS.has Rep.str.slice [.slice A1 ns.length c1]; obtain ⟨Fr, hFr⟩ := hS.has Rep.str.slice [.slice A4 cols.length c4]; refine (impl_taken _ (hR.mod0 hS.mod0) A1 A4 c1 c4 Fq Fr ns cols hFq hFr).mono ?_; rintro e w' ⟨rfl, hM⟩; replace hS := hS.mod hM; clear hM hFq hFr; (simp only [Hk.out])) | ((with_reducible show Code.wp _ (Code.region 3 _ true) _ _ _); refine wp_region_treeM (.br [(0, 0), (2, 0), (3, 1), (4, 0), (5, 1), (6, 0), (8, 0), (9, 1)] 1 2 (.br [] 7 2 (.br [] 10 3 (.lin [(11, 0), (12, 2), (13, 3)]) 12 2 (.lin [(10, 3), (11, 0), (13, 3)])) 12 2 (.lin [(7, 2), (10, 3), (11, 0), (13, 3)])) 12 2 (.lin [(1, 2), (7, 2), (10, 3), (11, 0), (13, 3)])) (by kernel_rfl) (by kernel_rfl) (by intro _ _ dq _ _ hq; cases dq <;> exact hq) ?_; replace hS := hS.mod (Mod.drew (Mod.refl _ _)); (generalize hwd : World.drew _ = wz at hS ⊢); clear hwd) | (with_reducible refine M_br ?_) | (with_reducible refine M_lin ?_) | (with_reducible refine M_and ?_ ?_) | (with_reducible refine M_ord ?_) | ((with_reducible show wpD _ _ _ ((_, 2) :: _) _ _); (refine D_call (f := 69) (args := ?_) rfl rfl ?_ ?_); rotate_left 1; (show (Sem.run _ (execOp _ (Oper.mk _ _ _ _ _ _)) _) = _; go_simp; rfl); obtain ⟨Fq, hFq⟩ := hS.has Rep.str.slice [.slice A4 cols.length c4]; refine (impl_cloneNames' _ Fq _ _ hFq (by omega)).mono ?_; rintro e wy ⟨v1, rfl, hN⟩; have hM := hN.mod0; replace hS := hS.fresh hN; clear hN hFq; obtain ⟨B1, d1, rfl⟩ := hS.formOwn 0 rfl; refine ⟨_, rfl, hM, ?_⟩; clear hM; (first | show wpD _ _ _ _ (Act.put _ (some _) _) _ | show wpD _ _ _ _ (Act.put _ none _) _); (simp only [Act.put, List.setIfInBounds_toArray, List.set_cons_zero, List.set_cons_succ])) | ((with_reducible show wpD _ _ _ ((_, 2) :: _) _ _); (refine D_call (f := 86) (args := ?_) rfl rfl ?_ ?_); rotate_left 1; (show (Sem.run _ (execOp _ (Oper.mk _ _ _ _ _ _)) _) = _; go_simp; rfl); obtain ⟨Fq, hFq⟩ := hS.has Rep.str.slice [.slice A1 ns.length c1]; obtain ⟨Fr, hFr⟩ := hS.has Rep.int.slice.slice [.slice A2 rows.length c2]; obtain ⟨Fs, hFs⟩ := hS.has Rep.str.slice [.slice A4 cols.length c4]; refine (impl_take _ A1 A2 A4 c1 c2 c4 Fq Fr Fs ns cols rows hFq hFr hFs Hoff.out Hrn.out (by omega) (by omega)).mono ?_; rintro e wy ⟨v2, rfl, hN⟩; (rw [Ht.out] at hN); have hM := hN.mod0; replace hS := hS.fresh hN; clear hN hFq hFr hFs; obtain ⟨B2, d2, rfl⟩ := hS.formOwn 0 rfl; refine ⟨_, rfl, hM, ?_⟩; clear hM; (first | show wpD _ _ _ _ (Act.put _ (some _) _) _ | show wpD _ _ _ _ (Act.put _ none _) _); (simp only [Act.put, List.setIfInBounds_toArray, List.set_cons_zero, List.set_cons_succ])) | ((with_reducible show wpD _ _ _ ((_, 3) :: _) _ _); replace hS := Sat.nilRow Rep.bool hS; refine D_loud rfl rfl (f_appendFlat Rep.bool Rep.bool hS rfl rfl rfl rfl rfl rfl (by decide) (by omega)) ?_; clear hS; rintro _ wx ⟨B3, d3, rfl, hS⟩; (simp only [List.set_cons_zero, List.set_cons_succ] at hS); (first | show wpD _ _ _ _ (Act.put _ (some _) _) _ | show wpD _ _ _ _ (Act.put _ none _) _); (simp only [Act.put, List.setIfInBounds_toArray, List.set_cons_zero, List.set_cons_succ]); (simp only [Nat.zero_add, List.nil_append] at hS ⊢)) | ((with_reducible show wpD _ _ _ ((_, 2) :: _) _ _); (refine D_call (f := 87) (args := ?_) rfl rfl ?_ ?_); rotate_left 1; (show (Sem.run _ (execOp _ (Oper.mk _ _ _ _ _ _)) _) = _; go_simp; rfl); refine (impl_PassTrace2 _ rows.length (by omega)).mono ?_; rintro e wy ⟨v5, rfl, hN⟩; have hM := hN.mod0; replace hS := hS.fresh hN; clear hN; refine ⟨_, rfl, hM, ?_⟩; clear hM; (first | show wpD _ _ _ _ (Act.put _ (some _) _) _ | show wpD _ _ _ _ (Act.put _ none _) _); (simp only [Act.put, List.setIfInBounds_toArray, List.set_cons_zero, List.set_cons_succ])) | ((with_reducible show wpD _ _ _ ((_, 3) :: _) _ _); refine D_loud rfl rfl (f_storeS hS rfl rfl rfl (by rfl) (by rfl) (by rfl)) ?_; clear hS; rintro _ wx ⟨rfl, hS⟩; (simp only [List.set_cons_zero, List.set_cons_succ] at hS); (first | show wpD _ _ _ _ (Act.put _ (some _) _) _ | show wpD _ _ _ _ (Act.put _ none _) _); (simp only [Act.put, List.setIfInBounds_toArray, List.set_cons_zero, List.set_cons_succ])) | ((with_reducible show Code.wp _ (Code.region 4 _ true) _ _ _); refine wp_region_drawn [(0, 1), (1, 0), (2, 1), (3, 0), (4, 2), (5, 3), (6, 0), (7, 0)] (by kernel_rfl) (by kernel_rfl) (by intro _ _ dq _ _ hq; cases dq <;> exact hq) ?_; replace hS := hS.mod (Mod.drew (Mod.refl _ _)); (generalize hwd : World.drew _ = wz at hS ⊢); clear hwd) | ((with_reducible show wpD _ _ _ [] _ _); refine D_nil ?_) | ((with_reducible show wpD _ _ _ ((_, 0) :: _) _ _); (first | (refine D_skip rfl rfl ?_; (first | show wpD _ _ _ _ (Act.put _ (some _) _) _ | show wpD _ _ _ _ (Act.put _ none _) _); (simp only [Act.put, List.setIfInBounds_toArray, List.set_cons_zero, List.set_cons_succ])) | (refine D_pure (v := ?_) rfl rfl (fun wq => ?_) ?_; rotate_left 1; (show (Sem.run _ (execOp _ (Oper.mk _ _ _ _ _ _)) _) = _; go_simp; (try go_bits); with_reducible rfl); (first | show wpD _ _ _ _ (Act.put _ (some _) _) _ | show wpD _ _ _ _ (Act.put _ none _) _); (simp only [Act.put, List.setIfInBounds_toArray, List.set_cons_zero, List.set_cons_succ])))) | ((with_reducible show wpD _ _ _ ((_, 1) :: _) _ _); (first | (refine D_skip rfl rfl ?_; (first | show wpD _ _ _ _ (Act.put _ (some _) _) _ | show wpD _ _ _ _ (Act.put _ none _) _); (simp only [Act.put, List.setIfInBounds_toArray, List.set_cons_zero, List.set_cons_succ])) | ((first | refine D_load rfl rfl (fun x hx => f_load (hS.mod hx) rfl rfl (by rfl)) ?_ | refine D_load rfl rfl (fun x hx => f_loadS (hS.mod hx) rfl rfl (by rfl)) ?_ | refine D_load rfl rfl (fun x hx => f_loadAt (hS.mod hx) rfl rfl) ?_ | refine D_load rfl rfl (fun x hx => f_loadAtS (hS.mod hx) rfl rfl (by rfl)) ?_ | refine D_load rfl rfl (fun x hx => f_loadAtF (hS.mod hx) rfl rfl (by rfl)) ?_); (first | show wpD _ _ _ _ (Act.put _ (some _) _) _ | show wpD _ _ _ _ (Act.put _ none _) _); (simp only [Act.put, List.setIfInBounds_toArray, List.set_cons_zero, List.set_cons_succ])))) | ((with_reducible show wpD _ _ _ ((_, 2) :: _) _ _); ((first | refine D_calm rfl rfl (does_alloc hS rfl (by rfl)) ?_ | refine D_calm rfl rfl (does_box hS rfl rfl (by rfl)) ?_); clear hS; rintro _ wx ⟨bx, rfl, hS, hM⟩; refine ⟨hM, ?_⟩; clear hM; (first | show wpD _ _ _ _ (Act.put _ (some _) _) _ | show wpD _ _ _ _ (Act.put _ none _) _); (simp only [Act.put, List.setIfInBounds_toArray, List.set_cons_zero, List.set_cons_succ]))) | ((with_reducible show wpList _ _ _ (⟨_, Op.box _ _, _, _, _, _⟩ :: _) _ _); refine Does.list (does_box hS rfl rfl (by rfl)) rfl ?_; clear hS; rintro _ wx ⟨bo, rfl, hS, _⟩; (simp only [Act.put, List.setIfInBounds_toArray, List.set_cons_zero, List.set_cons_succ])) | ((with_reducible show wpList _ _ _ (⟨_, Op.load _ _, _, _, _, _⟩ :: _) _ _); (first | refine Gives.list (f_load hS rfl rfl (by rfl)) rfl ?_ | refine Gives.list (f_loadS hS rfl rfl (by rfl)) rfl ?_ | refine Gives.list (f_loadAt hS rfl rfl) rfl ?_ | refine Gives.list (f_loadAtS hS rfl rfl (by rfl)) rfl ?_ | refine Gives.list (f_loadAtF hS rfl rfl (by rfl)) rfl ?_); (simp only [Act.put, List.setIfInBounds_toArray, List.set_cons_zero, List.set_cons_succ])) | ((with_reducible show wpList _ _ _ (⟨_, Op.alloc _, _, _, _, _⟩ :: _) _ _); refine Does.list (does_alloc hS rfl (by rfl)) rfl ?_; clear hS; rintro _ wx ⟨ba, rfl, hS, _⟩; (simp only [Act.put, List.setIfInBounds_toArray, List.set_cons_zero, List.set_cons_succ])))
  all_goals
    (try simp only [Exit.inBlock, Exit.then]); refine bodyPost_ret (hS.resultCTT rfl rfl (by rfl)) rfl ?_
    first
    | exact ret_tk H.out rfl (Sat.pair (Sat.mkPadded (hS.sel (Γ' := [.own Rep.bool.rows [.slice B3 real.length d3] real, .own Rep.int.rows.rows [.slice B2 rt.length d2] rt, .own Rep.str.rows [.slice B1 cols.length d1] cols, .own rAccess.rows [v5] (passF rows.length)]) [2, 3, 4, 0] rfl (by decide)))).result
    | exact ret_tk H.out rfl (Sat.pair (Sat.mkPadded (hS.sel (Γ' := [.own Rep.bool.rows [.slice B3 real.length d3] real, .own Rep.int.rows.rows [.slice B2 rt.length d2] rt, .own Rep.str.rows [.slice B1 cols.length d1] cols, .own rAccess.rows [v5] (passF rows.length)]) [1, 3, 4, 0] rfl (by decide)))).result
    | exact ret_tk H.out rfl (Sat.pair (Sat.mkPadded (hS.sel (Γ' := [.own Rep.bool.rows [.slice B3 real.length d3] real, .own Rep.int.rows.rows [.slice B2 rt.length d2] rt, .own Rep.str.rows [.slice B1 cols.length d1] cols, .own rAccess.rows [v5] (passF rows.length)]) [1, 2, 4, 0] rfl (by decide)))).result
    | exact ret_tk H.out rfl (Sat.pair (Sat.mkPadded (hS.sel (Γ' := [.own Rep.bool.rows [.slice B3 real.length d3] real, .own Rep.int.rows.rows [.slice B2 rt.length d2] rt, .own Rep.str.rows [.slice B1 cols.length d1] cols, .own rAccess.rows [v5] (passF rows.length)]) [1, 2, 3, 0] rfl (by decide)))).result
end Go.Proofs.YtldknaajnnohiaaDoor
end

section
namespace Go.Proofs.YtldknaajnnohiaaDoor
open Go.RowKit

set_option maxHeartbeats 8000000 in
set_option maxRecDepth 8000 in
theorem spec_TakePadded' (w : World) (B1 B2 B3 A4 : Option Addr) (d1 d2 d3 c4 : Nat) (F G H' K' : List Nat) (ns : List ByteArray) (rows : List (List Int)) (real : List Bool) (cols : List ByteArray) (hx : SliceHas Rep.str w F [.slice B1 ns.length d1] ns) (hy : SliceHas Rep.int.slice w G [.slice B2 rows.length d2] rows) (hz : SliceHas Rep.bool w H' [.slice B3 real.length d3] real) (hv : SliceHas Rep.str w K' [.slice A4 cols.length c4] cols) (hb : PSmall (ns, rows, real)) :
    Calls Tryd.prog 29 #[.agg #[.slice B1 ns.length d1, .slice B2 rows.length d2, .slice B3 real.length d3], .slice A4 cols.length c4] w fun e w' => ∃ va vb, e = .returned (.tuple #[.agg va.toArray, vb, .bool (takeF (ns, rows, real) cols).2.2]) ∧ va.length = 3 ∧ Fresh (Rep.pair oPadded rAccess.rows) w w' (va ++ [vb]) ((takeF (ns, rows, real) cols).1, (takeF (ns, rows, real) cols).2.1) := by
  have hS : Sat w w [.ro Rep.str.slice [.slice B1 ns.length d1] ns, .ro Rep.int.slice.slice [.slice B2 rows.length d2] rows, .ro Rep.bool.slice [.slice B3 real.length d3] real, .ro Rep.str.slice [.slice A4 cols.length c4] cols] := ((((Sat.nil w).arg hv).arg hz).arg hy).arg hx
  clear hx hy hz hv
  go_enter Tryd.func29, Tryd.ntmps29
  go_wp2_with (first | (go_at_call 88; obtain ⟨Fq, hFq⟩ := hS.has Rep.str.slice [.slice B1 ns.length d1]; obtain ⟨Fr, hFr⟩ := hS.has Rep.int.slice.slice [.slice B2 rows.length d2]; obtain ⟨Fs, hFs⟩ := hS.has Rep.bool.slice [.slice B3 real.length d3]; refine (spec_l1OwnPadded _ B1 B2 B3 d1 d2 d3 Fq Fr Fs ns rows real hFq hFr hFs hb).mono ?_; rintro e w' ⟨cs, rfl, hN⟩; replace hS := hS.fresh hN; clear hN hFq hFr hFs; have hS2 := Sat.openOwnPadded hS; clear hS; obtain ⟨A1, c1, A2, c2, A3, c3, rfl, hS⟩ := hS2; (dsimp only at hS)) | ((with_reducible show wpList _ _ _ (⟨_, Op.box _ _, _, _, _, _⟩ :: _) _ _); refine Does.list (does_box hS rfl rfl (by rfl)) rfl ?_; clear hS; rintro _ wx ⟨bo, rfl, hS, _⟩; (simp only [Act.put, List.setIfInBounds_toArray, List.set_cons_zero, List.set_cons_succ])) | ((with_reducible show wpList _ _ _ (⟨_, Op.load _ _, _, _, _, _⟩ :: _) _ _); (first | refine Gives.list (f_load hS rfl rfl (by rfl)) rfl ?_ | refine Gives.list (f_loadS hS rfl rfl (by rfl)) rfl ?_ | refine Gives.list (f_loadAt hS rfl rfl) rfl ?_ | refine Gives.list (f_loadAtS hS rfl rfl (by rfl)) rfl ?_ | refine Gives.list (f_loadAtF hS rfl rfl (by rfl)) rfl ?_); (simp only [Act.put, List.setIfInBounds_toArray, List.set_cons_zero, List.set_cons_succ])) | ((with_reducible show wpList _ _ _ (⟨_, Op.store _ _ _, _, _, _, _⟩ :: _) _ _); (first | refine Does.list (f_store hS rfl rfl rfl (by rfl) (by rfl)) rfl ?_ | refine Does.list (f_storeS hS rfl rfl rfl (by rfl) (by rfl) (by rfl)) rfl ?_); clear hS; rintro _ wx ⟨rfl, hS⟩; (simp only [List.set_cons_zero, List.set_cons_succ] at hS); (simp only [Act.put, List.setIfInBounds_toArray, List.set_cons_zero, List.set_cons_succ])) | ((with_reducible show wpList _ _ _ (⟨_, Op.alloc _, _, _, _, _⟩ :: _) _ _); refine Does.list (does_alloc hS rfl (by rfl)) rfl ?_; clear hS; rintro _ wx ⟨ba, rfl, hS, _⟩; (simp only [Act.put, List.setIfInBounds_toArray, List.set_cons_zero, List.set_cons_succ])))
  obtain ⟨bz, rfl⟩ : ∃ bz, bz = ba := ⟨_, rfl⟩
  replace hS := Sat.still (e' := Rep.bool.slice) hS
  replace hS := Sat.still (e' := Rep.int.slice.slice) (hS.pull 1 rfl)
  replace hS := Sat.still (e' := Rep.str.slice) (hS.pull 2 rfl)
  replace hS : Sat w _ [.ro Rep.str.slice [.slice A1 ns.length c1] ns, .ro Rep.int.slice.slice [.slice A2 rows.length c2] rows, .ro Rep.bool.slice [.slice A3 real.length c3] real, .box bo [.slice A1 ns.length c1, .slice A2 rows.length c2, .slice A3 real.length c3], .box bz [.slice none 0 0, .slice none 0 0, .slice none 0 0], .ro Rep.str.slice [.slice A4 cols.length c4] cols] := hS.sel [0, 1, 2, 4, 3, 8] rfl (by decide)
  cases hp : paddedOk (ns, rows, real)
  · have H := Lib.hid (takeF_p (cols := cols) hp)
    have Hp := Lib.hid hp
    clear hp
    go_wp2_with (first | (go_at_call 74; obtain ⟨Fq, hFq⟩ := hS.has Rep.str.slice [.slice A1 ns.length c1]; obtain ⟨Fr, hFr⟩ := hS.has Rep.int.slice.slice [.slice A2 rows.length c2]; obtain ⟨Fs, hFs⟩ := hS.has Rep.bool.slice [.slice A3 real.length c3]; refine (spec_PaddedValid' _ A1 A2 A3 c1 c2 c3 Fq Fr Fs ns rows real hFq hFr hFs).mono ?_; rintro e w' ⟨rfl, hM⟩; replace hS := hS.mod hM; clear hM hFq hFr hFs; (simp only [Hp.out])) | ((with_reducible show wpList _ _ _ (⟨_, Op.store _ _ _, _, _, _, _⟩ :: _) _ _); (first | refine Does.list (f_store hS rfl rfl rfl (by rfl) (by rfl)) rfl ?_ | refine Does.list (f_storeS hS rfl rfl rfl (by rfl) (by rfl) (by rfl)) rfl ?_); clear hS; rintro _ wx ⟨rfl, hS⟩; (simp only [List.set_cons_zero, List.set_cons_succ] at hS); (simp only [Act.put, List.setIfInBounds_toArray, List.set_cons_zero, List.set_cons_succ])) | ((with_reducible show wpList _ _ _ (⟨_, Op.buildSlice _ _ _, _, _, _, _⟩ :: _) _ _); refine Does.list (does_buildSlice (X := ?_) (cs := ?_) (E := ?_) hS rfl ?_ ?_) rfl ?_; rotate_left 3; (go_simp; rfl); rfl; clear hS; rintro _ wx ⟨bx, rfl, hS, _⟩; (simp only [Act.put, List.setIfInBounds_toArray, List.set_cons_zero, List.set_cons_succ])))
    (try simp only [Exit.inBlock, Exit.then]); refine bodyPost_ret (hS.resultCTT rfl rfl (by rfl)) rfl ?_
    exact ret_tk H.out rfl (Sat.pair (Sat.zeroPadded ((Sat.vec0 rAccess hS).lit (Nat.zero_le _)))).result
  have Hp := Lib.hid hp
  cases hn : namesOk cols
  · have H := Lib.hid (takeF_c (p := (ns, rows, real)) (cols := cols) (show takenB ns cols = false by unfold takenB; simp [hn]))
    have Hn := Lib.hid hn
    clear hp hn
    go_wp2_with (first | (go_at_call 74; obtain ⟨Fq, hFq⟩ := hS.has Rep.str.slice [.slice A1 ns.length c1]; obtain ⟨Fr, hFr⟩ := hS.has Rep.int.slice.slice [.slice A2 rows.length c2]; obtain ⟨Fs, hFs⟩ := hS.has Rep.bool.slice [.slice A3 real.length c3]; refine (spec_PaddedValid' _ A1 A2 A3 c1 c2 c3 Fq Fr Fs ns rows real hFq hFr hFs).mono ?_; rintro e w' ⟨rfl, hM⟩; replace hS := hS.mod hM; clear hM hFq hFr hFs; (simp only [Hp.out])) | (go_at_call 72; obtain ⟨Fq, hFq⟩ := hS.has Rep.str.slice [.slice A4 cols.length c4]; refine (spec_l1Names _ Fq _ _ hFq).mono ?_; rintro e w' ⟨rfl, hM⟩; replace hS := hS.mod hM; clear hM hFq; (simp only [Hn.out])) | ((with_reducible show wpList _ _ _ (⟨_, Op.store _ _ _, _, _, _, _⟩ :: _) _ _); (first | refine Does.list (f_store hS rfl rfl rfl (by rfl) (by rfl)) rfl ?_ | refine Does.list (f_storeS hS rfl rfl rfl (by rfl) (by rfl) (by rfl)) rfl ?_); clear hS; rintro _ wx ⟨rfl, hS⟩; (simp only [List.set_cons_zero, List.set_cons_succ] at hS); (simp only [Act.put, List.setIfInBounds_toArray, List.set_cons_zero, List.set_cons_succ])) | ((with_reducible show wpList _ _ _ (⟨_, Op.buildSlice _ _ _, _, _, _, _⟩ :: _) _ _); refine Does.list (does_buildSlice (X := ?_) (cs := ?_) (E := ?_) hS rfl ?_ ?_) rfl ?_; rotate_left 3; (go_simp; rfl); rfl; clear hS; rintro _ wx ⟨bx, rfl, hS, _⟩; (simp only [Act.put, List.setIfInBounds_toArray, List.set_cons_zero, List.set_cons_succ])))
    (try simp only [Exit.inBlock, Exit.then]); refine bodyPost_ret (hS.resultCTT rfl rfl (by rfl)) rfl ?_
    exact ret_tk H.out rfl (Sat.pair (Sat.zeroPadded ((Sat.vec0 rAccess hS).lit (Nat.zero_le _)))).result
  have Hn := Lib.hid hn
  obtain ⟨hc1, hc6⟩ := names6 hn
  obtain ⟨hl6, hrn⟩ := padded_rows6 hp
  obtain ⟨hl256, hrl⟩ := padded_lenC hp
  have hrlb : real.length ≤ 256 := by omega
  have Hrn := Lib.hid hrn
  clear hp hn hrn hrl
  go_upto_region 4 with (first | (go_at_call 74; obtain ⟨Fq, hFq⟩ := hS.has Rep.str.slice [.slice A1 ns.length c1]; obtain ⟨Fr, hFr⟩ := hS.has Rep.int.slice.slice [.slice A2 rows.length c2]; obtain ⟨Fs, hFs⟩ := hS.has Rep.bool.slice [.slice A3 real.length c3]; refine (spec_PaddedValid' _ A1 A2 A3 c1 c2 c3 Fq Fr Fs ns rows real hFq hFr hFs).mono ?_; rintro e w' ⟨rfl, hM⟩; replace hS := hS.mod hM; clear hM hFq hFr hFs; (simp only [Hp.out])) | (go_at_call 72; obtain ⟨Fq, hFq⟩ := hS.has Rep.str.slice [.slice A4 cols.length c4]; refine (spec_l1Names _ Fq _ _ hFq).mono ?_; rintro e w' ⟨rfl, hM⟩; replace hS := hS.mod hM; clear hM hFq; (simp only [Hn.out])))
  go_cut [7] (fun s wr => ∃ (b7 : Nat) (D1 D3 : Option Addr) (g1 g3 : Nat), s = .pointer (some ⟨b7, 0, none⟩) ∧ Sat w wr [.box b7 [.slice D1 cols.length g1, .slice none 0 0, .slice D3 real.length g3], .own Rep.str.rows [.slice D1 cols.length g1] cols, .own Rep.bool.rows [.slice D3 real.length g3] real, .ro Rep.str.slice [.slice A1 ns.length c1] ns, .ro Rep.int.slice.slice [.slice A2 rows.length c2] rows, .ro Rep.bool.slice [.slice A3 real.length c3] real, .box bo [.slice A1 ns.length c1, .slice A2 rows.length c2, .slice A3 real.length c3], .box bz [.slice none 0 0, .slice none 0 0, .slice none 0 0], .ro Rep.str.slice [.slice A4 cols.length c4] cols])
  case first =>
    go_wp2_with (first | ((with_reducible show Code.wp _ (Code.region 4 _ true) _ _ _); refine wp_region_treeM (.tri [(1, 0), (4, 0), (5, 1)] 0 2 (.tri [] 2 2 (.br [] 3 2 (.br [] 6 2 (.lin [(7, 0), (8, 2), (9, 3)]) 8 2 (.lin [(6, 2), (7, 0), (9, 3)])) 8 2 (.lin [(3, 2), (6, 2), (7, 0), (9, 3)])) 3 2 (.br [] 2 2 (.br [] 6 2 (.lin [(7, 0), (8, 2), (9, 3)]) 8 2 (.lin [(6, 2), (7, 0), (9, 3)])) 8 2 (.lin [(2, 2), (6, 2), (7, 0), (9, 3)])) 8 2 (.br [] 2 2 (.lin [(3, 2), (6, 2), (7, 0), (9, 3)]) 3 2 (.lin [(2, 2), (6, 2), (7, 0), (9, 3)]))) 3 2 (.br [] 0 2 (.br [] 2 2 (.br [] 6 2 (.lin [(7, 0), (8, 2), (9, 3)]) 8 2 (.lin [(6, 2), (7, 0), (9, 3)])) 8 2 (.lin [(2, 2), (6, 2), (7, 0), (9, 3)])) 8 2 (.lin [(0, 2), (2, 2), (6, 2), (7, 0), (9, 3)])) 8 2 (.br [] 0 2 (.br [] 2 2 (.lin [(3, 2), (6, 2), (7, 0), (9, 3)]) 3 2 (.lin [(2, 2), (6, 2), (7, 0), (9, 3)])) 3 2 (.lin [(0, 2), (2, 2), (6, 2), (7, 0), (9, 3)]))) (by kernel_rfl) (by kernel_rfl) (by intro _ _ dq _ _ hq; cases dq <;> exact hq) ?_; replace hS := hS.mod (Mod.drew (Mod.refl _ _)); (generalize hwd : World.drew _ = wz at hS ⊢); clear hwd) | (with_reducible refine M_br ?_) | (with_reducible refine M_tri ?_) | (with_reducible refine M_lin ?_) | (with_reducible refine M_and ?_ ?_) | (with_reducible refine M_and3 ?_ ?_ ?_) | (with_reducible refine M_ord ?_) | ((with_reducible show wpD _ _ _ ((_, 2) :: _) _ _); (first | (refine D_calm rfl rfl (does_appendNew (e := Rep.str) hS Rep.str rfl rfl rfl rfl rfl rfl (by decide) (by omega)) ?_; clear hS; rintro _ wx ⟨B1, d1, rfl, hS, hM⟩) | (have hT := hS.pull 1 rfl; (simp only [List.eraseIdx_cons_succ, List.eraseIdx_cons_zero] at hT); refine D_calm rfl rfl (does_appendNew (e := Rep.str) hT Rep.str rfl rfl rfl rfl rfl rfl (by decide) (by omega)) ?_; clear hS hT; rintro _ wx ⟨B1, d1, rfl, hS, hM⟩) | (have hT := hS.pull 2 rfl; (simp only [List.eraseIdx_cons_succ, List.eraseIdx_cons_zero] at hT); refine D_calm rfl rfl (does_appendNew (e := Rep.str) hT Rep.str rfl rfl rfl rfl rfl rfl (by decide) (by omega)) ?_; clear hS hT; rintro _ wx ⟨B1, d1, rfl, hS, hM⟩) | (have hT := hS.pull 3 rfl; (simp only [List.eraseIdx_cons_succ, List.eraseIdx_cons_zero] at hT); refine D_calm rfl rfl (does_appendNew (e := Rep.str) hT Rep.str rfl rfl rfl rfl rfl rfl (by decide) (by omega)) ?_; clear hS hT; rintro _ wx ⟨B1, d1, rfl, hS, hM⟩) | (refine D_calm rfl rfl (does_appendNew (e := Rep.bool) hS Rep.bool rfl rfl rfl rfl rfl rfl (by decide) (by omega)) ?_; clear hS; rintro _ wx ⟨B3, d3, rfl, hS, hM⟩) | (have hT := hS.pull 1 rfl; (simp only [List.eraseIdx_cons_succ, List.eraseIdx_cons_zero] at hT); refine D_calm rfl rfl (does_appendNew (e := Rep.bool) hT Rep.bool rfl rfl rfl rfl rfl rfl (by decide) (by omega)) ?_; clear hS hT; rintro _ wx ⟨B3, d3, rfl, hS, hM⟩) | (have hT := hS.pull 2 rfl; (simp only [List.eraseIdx_cons_succ, List.eraseIdx_cons_zero] at hT); refine D_calm rfl rfl (does_appendNew (e := Rep.bool) hT Rep.bool rfl rfl rfl rfl rfl rfl (by decide) (by omega)) ?_; clear hS hT; rintro _ wx ⟨B3, d3, rfl, hS, hM⟩) | (have hT := hS.pull 3 rfl; (simp only [List.eraseIdx_cons_succ, List.eraseIdx_cons_zero] at hT); refine D_calm rfl rfl (does_appendNew (e := Rep.bool) hT Rep.bool rfl rfl rfl rfl rfl rfl (by decide) (by omega)) ?_; clear hS hT; rintro _ wx ⟨B3, d3, rfl, hS, hM⟩)); refine ⟨hM, ?_⟩; clear hM; (first | show wpD _ _ _ _ (Act.put _ (some _) _) _ | show wpD _ _ _ _ (Act.put _ none _) _); (simp only [Act.put, List.setIfInBounds_toArray, List.set_cons_zero, List.set_cons_succ])) | ((with_reducible show wpD _ _ _ ((_, 3) :: _) _ _); (first | refine D_loud rfl rfl (f_store (u := .slice _ _ _) hS rfl rfl rfl (by rfl) (by rfl)) ?_ | refine D_loud rfl rfl (f_storeS hS rfl rfl rfl (by rfl) (by rfl) (by rfl)) ?_); clear hS; rintro _ wx ⟨rfl, hS⟩; (simp only [List.set_cons_zero, List.set_cons_succ] at hS); (first | show wpD _ _ _ _ (Act.put _ (some _) _) _ | show wpD _ _ _ _ (Act.put _ none _) _); (simp only [Act.put, List.setIfInBounds_toArray, List.set_cons_zero, List.set_cons_succ])) | ((with_reducible show wpD _ _ _ [] _ _); refine D_nil ?_) | ((with_reducible show wpD _ _ _ ((_, 0) :: _) _ _); (first | (refine D_skip rfl rfl ?_; (first | show wpD _ _ _ _ (Act.put _ (some _) _) _ | show wpD _ _ _ _ (Act.put _ none _) _); (simp only [Act.put, List.setIfInBounds_toArray, List.set_cons_zero, List.set_cons_succ])) | (refine D_pure (v := ?_) rfl rfl (fun wq => ?_) ?_; rotate_left 1; (show (Sem.run _ (execOp _ (Oper.mk _ _ _ _ _ _)) _) = _; go_simp; (try go_bits); with_reducible rfl); (first | show wpD _ _ _ _ (Act.put _ (some _) _) _ | show wpD _ _ _ _ (Act.put _ none _) _); (simp only [Act.put, List.setIfInBounds_toArray, List.set_cons_zero, List.set_cons_succ])))) | ((with_reducible show wpD _ _ _ ((_, 1) :: _) _ _); (first | (refine D_skip rfl rfl ?_; (first | show wpD _ _ _ _ (Act.put _ (some _) _) _ | show wpD _ _ _ _ (Act.put _ none _) _); (simp only [Act.put, List.setIfInBounds_toArray, List.set_cons_zero, List.set_cons_succ])) | ((first | refine D_load rfl rfl (fun x hx => f_load (hS.mod hx) rfl rfl (by rfl)) ?_ | refine D_load rfl rfl (fun x hx => f_loadS (hS.mod hx) rfl rfl (by rfl)) ?_ | refine D_load rfl rfl (fun x hx => f_loadAt (hS.mod hx) rfl rfl) ?_ | refine D_load rfl rfl (fun x hx => f_loadAtS (hS.mod hx) rfl rfl (by rfl)) ?_ | refine D_load rfl rfl (fun x hx => f_loadAtF (hS.mod hx) rfl rfl (by rfl)) ?_); (first | show wpD _ _ _ _ (Act.put _ (some _) _) _ | show wpD _ _ _ _ (Act.put _ none _) _); (simp only [Act.put, List.setIfInBounds_toArray, List.set_cons_zero, List.set_cons_succ])))) | ((with_reducible show wpD _ _ _ ((_, 2) :: _) _ _); ((refine D_calm rfl rfl (does_buildSlice (X := ?_) (cs := ?_) (E := ?_) hS rfl ?_ ?_) ?_); rotate_left 3; (go_simp; rfl); rfl; clear hS; rintro _ wx ⟨bx, rfl, hS, hM⟩; refine ⟨hM, ?_⟩; clear hM; (first | show wpD _ _ _ _ (Act.put _ (some _) _) _ | show wpD _ _ _ _ (Act.put _ none _) _); (simp only [Act.put, List.setIfInBounds_toArray, List.set_cons_zero, List.set_cons_succ]))) | ((with_reducible show wpD _ _ _ ((_, 2) :: _) _ _); ((first | refine D_calm rfl rfl (does_alloc hS rfl (by rfl)) ?_ | refine D_calm rfl rfl (does_box hS rfl rfl (by rfl)) ?_); clear hS; rintro _ wx ⟨bx, rfl, hS, hM⟩; refine ⟨hM, ?_⟩; clear hM; (first | show wpD _ _ _ _ (Act.put _ (some _) _) _ | show wpD _ _ _ _ (Act.put _ none _) _); (simp only [Act.put, List.setIfInBounds_toArray, List.set_cons_zero, List.set_cons_succ]))))
    all_goals
      go_meet
      case rel => first | exact ⟨_, _, _, _, _, rfl, hS.sel [0, 1, 2, 3, 4, 5, 6, 7, 8] rfl (by decide)⟩ | exact ⟨_, _, _, _, _, rfl, hS.sel [0, 2, 1, 3, 4, 5, 6, 7, 8] rfl (by decide)⟩ | exact ⟨_, _, _, _, _, rfl, hS.sel [1, 0, 2, 3, 4, 5, 6, 7, 8] rfl (by decide)⟩ | exact ⟨_, _, _, _, _, rfl, hS.sel [1, 2, 0, 3, 4, 5, 6, 7, 8] rfl (by decide)⟩ | exact ⟨_, _, _, _, _, rfl, hS.sel [2, 0, 1, 3, 4, 5, 6, 7, 8] rfl (by decide)⟩ | exact ⟨_, _, _, _, _, rfl, hS.sel [2, 1, 0, 3, 4, 5, 6, 7, 8] rfl (by decide)⟩
  case rest =>
    clear hS
    obtain ⟨b7, D1, D3, g1, g3, rfl, hS⟩ := hcut
    go_wp2_with (first | ((with_reducible show wpList _ _ _ (⟨_, Op.box _ _, _, _, _, _⟩ :: _) _ _); refine Does.list (does_box hS rfl rfl (by rfl)) rfl ?_; clear hS; rintro _ wx ⟨bo, rfl, hS, _⟩; (simp only [Act.put, List.setIfInBounds_toArray, List.set_cons_zero, List.set_cons_succ])))
    go_loopw [8] (fun i wr => ∃ k : Nat, i = .int .i64 k ∧ k ≤ cols.length ∧ (cols.take k).any (offS ns) = false ∧ Sat w wr [.box b7 [.slice D1 cols.length g1, .slice none 0 0, .slice D3 real.length g3], .own Rep.str.rows [.slice D1 cols.length g1] cols, .own Rep.bool.rows [.slice D3 real.length g3] real, .ro Rep.str.slice [.slice A1 ns.length c1] ns, .ro Rep.int.slice.slice [.slice A2 rows.length c2] rows, .ro Rep.bool.slice [.slice A3 real.length c3] real, .box bo [.slice A1 ns.length c1, .slice A2 rows.length c2, .slice A3 real.length c3], .box bz [.slice none 0 0, .slice none 0 0, .slice none 0 0], .ro Rep.str.slice [.slice A4 cols.length c4] cols]) (fun i _ => cols.length - (intOf i).toNat)
    case atStart => exact ⟨0, rfl, Nat.zero_le _, rfl, hS⟩
    case round =>
      clear hS
      obtain ⟨k, rfl, hk, ha, hS⟩ := hrel
      have Ha := Lib.hid ha
      clear ha
      by_cases hlt : k < cols.length
      · have hltI : (k : Int) < (cols.length : Int) := by omega
        obtain ⟨ad, rfl, hz, hS⟩ := hS.elStr A4 cols.length c4 (get_some hlt)
        cases hoff : offS ns cols[k]
        · have HA := Lib.hid (any_succ_f (p := offS ns) hlt Ha.out hoff)
          obtain ⟨j, hj, hjn⟩ := colOf_nat (show hasS ns cols[k] = true by simpa [offS] using hoff)
          clear hoff
          generalize cols[k] = x at hS hj hz
          have Hj := Lib.hid hj
          have hjd : decide ((j : Int) < 0) = false := decide_eq_false (by omega)
          clear hj
          go_wp2_with (first | ((with_reducible show Code.wp _ (Code.region 8 _ true) _ _ _); refine wp_region_drawn [(0, 0), (1, 1), (2, 0), (3, 0), (4, 0), (5, 1), (6, 2), (7, 0)] (by kernel_rfl) (by kernel_rfl) (by intro _ _ dq _ _ hq; cases dq <;> exact hq) ?_; replace hS := hS.mod (Mod.drew (Mod.refl _ _)); (generalize hwd : World.drew _ = wz at hS ⊢); clear hwd) | ((with_reducible show wpD _ _ _ ((_, 2) :: _) _ _); (refine D_call (f := 89) (args := ?_) rfl rfl ?_ ?_); rotate_left 1; (show (Sem.run _ (execOp _ (Oper.mk _ _ _ _ _ _)) _) = _; go_simp; rfl); obtain ⟨Fq, hFq⟩ := hS.has Rep.str.slice [.slice A1 ns.length c1]; refine (spec_l1Column _ Fq _ ns x hFq).mono ?_; rintro e wy ⟨rfl, hM⟩; (rw [Hj.out]); replace hS := hS.mod hM; clear hFq; refine ⟨_, rfl, hM, ?_⟩; clear hM; (first | show wpD _ _ _ _ (Act.put _ (some _) _) _ | show wpD _ _ _ _ (Act.put _ none _) _); (simp only [Act.put, List.setIfInBounds_toArray, List.set_cons_zero, List.set_cons_succ])) | ((with_reducible show wpD _ _ _ [] _ _); refine D_nil ?_) | ((with_reducible show wpD _ _ _ ((_, 0) :: _) _ _); (first | (refine D_skip rfl rfl ?_; (first | show wpD _ _ _ _ (Act.put _ (some _) _) _ | show wpD _ _ _ _ (Act.put _ none _) _); (simp only [Act.put, List.setIfInBounds_toArray, List.set_cons_zero, List.set_cons_succ])) | (refine D_pure (v := ?_) rfl rfl (fun wq => ?_) ?_; rotate_left 1; (show (Sem.run _ (execOp _ (Oper.mk _ _ _ _ _ _)) _) = _; go_simp; (try go_bits); with_reducible rfl); (first | show wpD _ _ _ _ (Act.put _ (some _) _) _ | show wpD _ _ _ _ (Act.put _ none _) _); (simp only [Act.put, List.setIfInBounds_toArray, List.set_cons_zero, List.set_cons_succ])))) | ((with_reducible show wpD _ _ _ ((_, 1) :: _) _ _); (first | (refine D_skip rfl rfl ?_; (first | show wpD _ _ _ _ (Act.put _ (some _) _) _ | show wpD _ _ _ _ (Act.put _ none _) _); (simp only [Act.put, List.setIfInBounds_toArray, List.set_cons_zero, List.set_cons_succ])) | ((first | refine D_load rfl rfl (fun x hx => f_load (hS.mod hx) rfl rfl (by rfl)) ?_ | refine D_load rfl rfl (fun x hx => f_loadS (hS.mod hx) rfl rfl (by rfl)) ?_ | refine D_load rfl rfl (fun x hx => f_loadAt (hS.mod hx) rfl rfl) ?_ | refine D_load rfl rfl (fun x hx => f_loadAtS (hS.mod hx) rfl rfl (by rfl)) ?_ | refine D_load rfl rfl (fun x hx => f_loadAtF (hS.mod hx) rfl rfl (by rfl)) ?_); (first | show wpD _ _ _ _ (Act.put _ (some _) _) _ | show wpD _ _ _ _ (Act.put _ none _) _); (simp only [Act.put, List.setIfInBounds_toArray, List.set_cons_zero, List.set_cons_succ])))))
          go_roundw
          case rel => exact ⟨k + 1, by go_num, hlt, HA.out, hS.sel [1, 2, 3, 4, 5, 6, 7, 8, 9] rfl (by decide)⟩
          case measure => simp [intOf]; omega
        · have H : Hid (takeF (ns, rows, real) cols = (zeroP, [], false)) := Lib.hid (takeF_c (p := (ns, rows, real)) (cols := cols) (show takenB ns cols = false by unfold takenB; rw [any_of_get (offS ns) cols k hlt hoff]; simp))
          have hj : colOf ns cols[k] = -1 := colOf_miss (by simpa [offS] using hoff)
          clear hoff
          generalize cols[k] = x at hS hj hz
          have Hj := Lib.hid hj
          clear hj
          go_wp2_with (first | ((with_reducible show Code.wp _ (Code.region 8 _ true) _ _ _); refine wp_region_drawn [(0, 0), (1, 1), (2, 0), (3, 0), (4, 0), (5, 1), (6, 2), (7, 0)] (by kernel_rfl) (by kernel_rfl) (by intro _ _ dq _ _ hq; cases dq <;> exact hq) ?_; replace hS := hS.mod (Mod.drew (Mod.refl _ _)); (generalize hwd : World.drew _ = wz at hS ⊢); clear hwd) | ((with_reducible show wpD _ _ _ ((_, 2) :: _) _ _); (refine D_call (f := 89) (args := ?_) rfl rfl ?_ ?_); rotate_left 1; (show (Sem.run _ (execOp _ (Oper.mk _ _ _ _ _ _)) _) = _; go_simp; rfl); obtain ⟨Fq, hFq⟩ := hS.has Rep.str.slice [.slice A1 ns.length c1]; refine (spec_l1Column _ Fq _ ns x hFq).mono ?_; rintro e wy ⟨rfl, hM⟩; (rw [Hj.out]); replace hS := hS.mod hM; clear hFq; refine ⟨_, rfl, hM, ?_⟩; clear hM; (first | show wpD _ _ _ _ (Act.put _ (some _) _) _ | show wpD _ _ _ _ (Act.put _ none _) _); (simp only [Act.put, List.setIfInBounds_toArray, List.set_cons_zero, List.set_cons_succ])) | ((with_reducible show wpD _ _ _ [] _ _); refine D_nil ?_) | ((with_reducible show wpD _ _ _ ((_, 0) :: _) _ _); (first | (refine D_skip rfl rfl ?_; (first | show wpD _ _ _ _ (Act.put _ (some _) _) _ | show wpD _ _ _ _ (Act.put _ none _) _); (simp only [Act.put, List.setIfInBounds_toArray, List.set_cons_zero, List.set_cons_succ])) | (refine D_pure (v := ?_) rfl rfl (fun wq => ?_) ?_; rotate_left 1; (show (Sem.run _ (execOp _ (Oper.mk _ _ _ _ _ _)) _) = _; go_simp; (try go_bits); with_reducible rfl); (first | show wpD _ _ _ _ (Act.put _ (some _) _) _ | show wpD _ _ _ _ (Act.put _ none _) _); (simp only [Act.put, List.setIfInBounds_toArray, List.set_cons_zero, List.set_cons_succ])))) | ((with_reducible show wpD _ _ _ ((_, 1) :: _) _ _); (first | (refine D_skip rfl rfl ?_; (first | show wpD _ _ _ _ (Act.put _ (some _) _) _ | show wpD _ _ _ _ (Act.put _ none _) _); (simp only [Act.put, List.setIfInBounds_toArray, List.set_cons_zero, List.set_cons_succ])) | ((first | refine D_load rfl rfl (fun x hx => f_load (hS.mod hx) rfl rfl (by rfl)) ?_ | refine D_load rfl rfl (fun x hx => f_loadS (hS.mod hx) rfl rfl (by rfl)) ?_ | refine D_load rfl rfl (fun x hx => f_loadAt (hS.mod hx) rfl rfl) ?_ | refine D_load rfl rfl (fun x hx => f_loadAtS (hS.mod hx) rfl rfl (by rfl)) ?_ | refine D_load rfl rfl (fun x hx => f_loadAtF (hS.mod hx) rfl rfl (by rfl)) ?_); (first | show wpD _ _ _ _ (Act.put _ (some _) _) _ | show wpD _ _ _ _ (Act.put _ none _) _); (simp only [Act.put, List.setIfInBounds_toArray, List.set_cons_zero, List.set_cons_succ])))) | ((with_reducible show wpList _ _ _ (⟨_, Op.store _ _ _, _, _, _, _⟩ :: _) _ _); (first | refine Does.list (f_store hS rfl rfl rfl (by rfl) (by rfl)) rfl ?_ | refine Does.list (f_storeS hS rfl rfl rfl (by rfl) (by rfl) (by rfl)) rfl ?_); clear hS; rintro _ wx ⟨rfl, hS⟩; (simp only [List.set_cons_zero, List.set_cons_succ] at hS); (simp only [Act.put, List.setIfInBounds_toArray, List.set_cons_zero, List.set_cons_succ])) | ((with_reducible show wpList _ _ _ (⟨_, Op.buildSlice _ _ _, _, _, _, _⟩ :: _) _ _); refine Does.list (does_buildSlice (X := ?_) (cs := ?_) (E := ?_) hS rfl ?_ ?_) rfl ?_; rotate_left 3; (go_simp; rfl); rfl; clear hS; rintro _ wx ⟨bx, rfl, hS, _⟩; (simp only [Act.put, List.setIfInBounds_toArray, List.set_cons_zero, List.set_cons_succ])))
          (try simp only [Exit.inBlock, Exit.then]); refine bodyPost_ret (hS.resultCTT rfl rfl (by rfl)) rfl ?_
          exact ret_tk H.out rfl (Sat.pair (Sat.zeroPadded ((Sat.vec0 rAccess hS).lit (Nat.zero_le _)))).result
      · obtain rfl : k = cols.length := by omega
        have ha := Ha.out
        rw [List.take_length] at ha
        obtain ⟨rt, ht⟩ : ∃ x, takeRows ns cols rows = x := ⟨_, rfl⟩
        have H : Hid (takeF (ns, rows, real) cols = ((cols, rt, real), passF rows.length, true)) := Lib.hid (by rw [takeF_t Hp.out (by unfold takenB; rw [Hn.out, ha]; rfl), ht])
        have Hoff := Lib.hid ha
        have Ht := Lib.hid ht
        clear ha Ha ht
        go_wp2_with (first | ((with_reducible show wpList _ _ _ (⟨_, Op.box _ _, _, _, _, _⟩ :: _) _ _); refine Does.list (does_box hS rfl rfl (by rfl)) rfl ?_; clear hS; rintro _ wx ⟨bo, rfl, hS, _⟩; (simp only [Act.put, List.setIfInBounds_toArray, List.set_cons_zero, List.set_cons_succ])))
        replace hS := Sat.nilRow Rep.int.rows hS
        go_loopw [9] (fun i wr => ∃ (k : Nat) (C : Option Addr) (g : Nat), i = .int .i64 k ∧ k ≤ rows.length ∧ Sat w wr [.box b7 [.slice D1 cols.length g1, .slice C k g, .slice D3 real.length g3], .own Rep.int.rows.rows [.slice C k g] (takeRows ns cols (rows.take k)), .own Rep.str.rows [.slice D1 cols.length g1] cols, .own Rep.bool.rows [.slice D3 real.length g3] real, .ro Rep.str.slice [.slice A1 ns.length c1] ns, .ro Rep.int.slice.slice [.slice A2 rows.length c2] rows, .ro Rep.bool.slice [.slice A3 real.length c3] real, .box bo [.slice A1 ns.length c1, .slice A2 rows.length c2, .slice A3 real.length c3], .box bz [.slice none 0 0, .slice none 0 0, .slice none 0 0], .ro Rep.str.slice [.slice A4 cols.length c4] cols]) (fun i _ => rows.length - (intOf i).toNat)
        case atStart => exact ⟨0, none, 0, rfl, Nat.zero_le _, hS.sel [1, 0, 2, 3, 4, 5, 6, 7, 8, 9] rfl (by decide)⟩
        case round =>
          clear hS
          obtain ⟨k, C, g, rfl, hk, hS⟩ := hrel
          by_cases hlt : k < rows.length
          · have hltI : (k : Int) < (rows.length : Int) := by omega
            obtain ⟨ad2, A', c', rfl, j0, j1, hS⟩ := hS.elSlice Rep.int A2 rows.length c2 (get_some hlt)
            have HR := Lib.hid (takeRows_succ (ns := ns) (cols := cols) hlt)
            have hrl := Hrn.out _ (List.getElem_mem hlt)
            obtain ⟨r, hr⟩ : ∃ r, rows[k] = r := ⟨_, rfl⟩
            rw [hr] at hS HR hrl j0
            have Hrl := Lib.hid hrl
            clear hr hrl
            go_wp2_with (first | ((with_reducible show wpList _ _ _ (⟨_, Op.load _ _, _, _, _, _⟩ :: _) _ _); (first | refine Gives.list (f_load hS rfl rfl (by rfl)) rfl ?_ | refine Gives.list (f_loadS hS rfl rfl (by rfl)) rfl ?_ | refine Gives.list (f_loadAt hS rfl rfl) rfl ?_ | refine Gives.list (f_loadAtS hS rfl rfl (by rfl)) rfl ?_ | refine Gives.list (f_loadAtF hS rfl rfl (by rfl)) rfl ?_); (simp only [Act.put, List.setIfInBounds_toArray, List.set_cons_zero, List.set_cons_succ])) | ((with_reducible show wpList _ _ _ (⟨_, Op.buildSlice _ _ _, _, _, _, _⟩ :: _) _ _); refine Does.list (does_buildSlice (X := ?_) (cs := ?_) (E := ?_) hS rfl ?_ ?_) rfl ?_; rotate_left 3; (go_simp; rfl); rfl; clear hS; rintro _ wx ⟨bx, rfl, hS, _⟩; (simp only [Act.put, List.setIfInBounds_toArray, List.set_cons_zero, List.set_cons_succ])))
            replace hS := (Sat.vec0 Rep.int hS).lit (Nat.zero_le _)
            go_loopw [10, 11] (fun s i wr => ∃ (q : Nat) (C' : Option Addr) (g' : Nat), i = .int .i64 q ∧ s = .slice C' q g' ∧ q ≤ cols.length ∧ Sat w wr [.own Rep.int.rows [.slice C' q g'] (takeRow ns (cols.take q) r), .at (ad2.add k) [.slice A' r.length c'], .ro Rep.int.slice [.slice A' r.length c'] r, .box b7 [.slice D1 cols.length g1, .slice C k g, .slice D3 real.length g3], .own Rep.int.rows.rows [.slice C k g] (takeRows ns cols (rows.take k)), .own Rep.str.rows [.slice D1 cols.length g1] cols, .own Rep.bool.rows [.slice D3 real.length g3] real, .ro Rep.str.slice [.slice A1 ns.length c1] ns, .ro Rep.int.slice.slice [.slice (some ad2) rows.length c2] rows, .ro Rep.bool.slice [.slice A3 real.length c3] real, .box bo [.slice A1 ns.length c1, .slice (some ad2) rows.length c2, .slice A3 real.length c3], .box bz [.slice none 0 0, .slice none 0 0, .slice none 0 0], .ro Rep.str.slice [.slice A4 cols.length c4] cols]) (fun _ i _ => cols.length - (intOf i).toNat)
            case atStart => exact ⟨0, _, _, rfl, rfl, Nat.zero_le _, hS⟩
            case round =>
              clear hS
              obtain ⟨q, C', g', rfl, rfl, hq, hS⟩ := hrel
              by_cases hqlt : q < cols.length
              · have hqI : (q : Int) < (cols.length : Int) := by omega
                obtain ⟨j, hj, hjn⟩ := colOf_nat (offS_of Hoff.out hqlt)
                have hjr : j < r.length := by rw [Hrl.out]; exact hjn
                have hjI : (j : Int) < (r.length : Int) := by omega
                have HC := Lib.hid (takeRow_succ (ns := ns) (r := r) hqlt)
                have HV := Lib.hid (cellOf_get hj hjr)
                obtain ⟨ad, rfl, hz, hS⟩ := hS.elStr A4 cols.length c4 (get_some hqlt)
                obtain ⟨ad3, rfl, hI, hS⟩ := hS.elInt A' r.length c' (get_some hjr)
                obtain ⟨x, hx⟩ : ∃ x, cols[q] = x := ⟨_, rfl⟩
                obtain ⟨z, hzz⟩ : ∃ z, r[j] = z := ⟨_, rfl⟩
                rw [hx] at hS HC HV hj hz
                rw [hzz] at hS HV hI
                have Hj := Lib.hid hj
                have Hz := Lib.hid hI
                clear hx hzz hj hI
                go_wp2_with (first | ((with_reducible show Code.wp _ (Code.region 17 _ true) _ _ _); refine wp_region_drawn [(0, 0), (1, 0), (2, 1), (3, 0), (4, 0), (5, 1), (6, 0), (7, 1), (8, 0), (9, 0), (10, 0), (11, 1), (12, 2), (13, 0), (14, 1), (15, 2), (16, 3), (17, 0)] (by kernel_rfl) (by kernel_rfl) (by intro _ _ dq _ _ hq; cases dq <;> exact hq) ?_; replace hS := hS.mod (Mod.drew (Mod.refl _ _)); (generalize hwd : World.drew _ = wz at hS ⊢); clear hwd) | ((with_reducible show wpD _ _ _ ((_, 2) :: _) _ _); (refine D_call (f := 89) (args := ?_) rfl rfl ?_ ?_); rotate_left 1; (show (Sem.run _ (execOp _ (Oper.mk _ _ _ _ _ _)) _) = _; go_simp; rfl); obtain ⟨Fq, hFq⟩ := hS.has Rep.str.slice [.slice A1 ns.length c1]; refine (spec_l1Column _ Fq _ ns x hFq).mono ?_; rintro e wy ⟨rfl, hM⟩; (rw [Hj.out]); replace hS := hS.mod hM; clear hFq; refine ⟨_, rfl, hM, ?_⟩; clear hM; (first | show wpD _ _ _ _ (Act.put _ (some _) _) _ | show wpD _ _ _ _ (Act.put _ none _) _); (simp only [Act.put, List.setIfInBounds_toArray, List.set_cons_zero, List.set_cons_succ])) | ((with_reducible show wpD _ _ _ ((_, 3) :: _) _ _); refine D_loud rfl rfl (f_append Rep.int (Sat.vec1 (hS.int Hz.out)) rfl rfl rfl rfl rfl (by decide) (by omega)) ?_; clear hS; rintro _ wx ⟨A5, c5, rfl, hS⟩; (simp only [List.set_cons_zero, List.set_cons_succ] at hS); (first | show wpD _ _ _ _ (Act.put _ (some _) _) _ | show wpD _ _ _ _ (Act.put _ none _) _); (simp only [Act.put, List.setIfInBounds_toArray, List.set_cons_zero, List.set_cons_succ])) | ((with_reducible show wpD _ _ _ [] _ _); refine D_nil ?_) | ((with_reducible show wpD _ _ _ ((_, 0) :: _) _ _); (first | (refine D_skip rfl rfl ?_; (first | show wpD _ _ _ _ (Act.put _ (some _) _) _ | show wpD _ _ _ _ (Act.put _ none _) _); (simp only [Act.put, List.setIfInBounds_toArray, List.set_cons_zero, List.set_cons_succ])) | (refine D_pure (v := ?_) rfl rfl (fun wq => ?_) ?_; rotate_left 1; (show (Sem.run _ (execOp _ (Oper.mk _ _ _ _ _ _)) _) = _; go_simp; (try go_bits); with_reducible rfl); (first | show wpD _ _ _ _ (Act.put _ (some _) _) _ | show wpD _ _ _ _ (Act.put _ none _) _); (simp only [Act.put, List.setIfInBounds_toArray, List.set_cons_zero, List.set_cons_succ])))) | ((with_reducible show wpD _ _ _ ((_, 1) :: _) _ _); (first | (refine D_skip rfl rfl ?_; (first | show wpD _ _ _ _ (Act.put _ (some _) _) _ | show wpD _ _ _ _ (Act.put _ none _) _); (simp only [Act.put, List.setIfInBounds_toArray, List.set_cons_zero, List.set_cons_succ])) | ((first | refine D_load rfl rfl (fun x hx => f_load (hS.mod hx) rfl rfl (by rfl)) ?_ | refine D_load rfl rfl (fun x hx => f_loadS (hS.mod hx) rfl rfl (by rfl)) ?_ | refine D_load rfl rfl (fun x hx => f_loadAt (hS.mod hx) rfl rfl) ?_ | refine D_load rfl rfl (fun x hx => f_loadAtS (hS.mod hx) rfl rfl (by rfl)) ?_ | refine D_load rfl rfl (fun x hx => f_loadAtF (hS.mod hx) rfl rfl (by rfl)) ?_); (first | show wpD _ _ _ _ (Act.put _ (some _) _) _ | show wpD _ _ _ _ (Act.put _ none _) _); (simp only [Act.put, List.setIfInBounds_toArray, List.set_cons_zero, List.set_cons_succ])))) | ((with_reducible show wpD _ _ _ ((_, 2) :: _) _ _); ((refine D_calm rfl rfl (does_buildSlice (X := ?_) (cs := ?_) (E := ?_) hS rfl ?_ ?_) ?_); rotate_left 3; (go_simp; rfl); rfl; clear hS; rintro _ wx ⟨bx, rfl, hS, hM⟩; refine ⟨hM, ?_⟩; clear hM; (first | show wpD _ _ _ _ (Act.put _ (some _) _) _ | show wpD _ _ _ _ (Act.put _ none _) _); (simp only [Act.put, List.setIfInBounds_toArray, List.set_cons_zero, List.set_cons_succ]))))
                go_roundw
                case rel => exact ⟨q + 1, A5, c5, by go_num, rfl, hqlt, by rw [← HC.out, HV.out]; exact hS.sel [2, 3, 4, 5, 6, 7, 8, 9, 10, 11, 12, 13, 14] rfl (by decide)⟩
                case measure => simp [intOf]; omega
              · obtain rfl : q = cols.length := by omega
                rw [List.take_length] at hS
                go_wp2_with (first | ((with_reducible show wpList _ _ _ (⟨_, Op.call { callee := Callee.builtin Builtin.append, args := _, argTypes := _ }, _, _, _, _⟩ :: _) _ _); refine Does.list (f_append Rep.int.rows (Sat.vec1 (Sat.swap hS)) rfl rfl rfl rfl rfl (by decide) (by omega)) rfl ?_; clear hS; rintro _ wx ⟨C2, g2, rfl, hS⟩; (simp only [List.set_cons_zero, List.set_cons_succ] at hS); (simp only [Act.put, List.setIfInBounds_toArray, List.set_cons_zero, List.set_cons_succ])) | ((with_reducible show wpList _ _ _ (⟨_, Op.store _ _ _, _, _, _, _⟩ :: _) _ _); (first | refine Does.list (f_store (u := .int .i64 _) hS rfl rfl rfl (by rfl) (by rfl)) rfl ?_ | refine Does.list (f_store (u := .slice _ _ _) hS rfl rfl rfl (by rfl) (by rfl)) rfl ?_ | refine Does.list (f_store (u := .string _) hS rfl rfl rfl (by rfl) (by rfl)) rfl ?_ | refine Does.list (f_store (u := .bool _) hS rfl rfl rfl (by rfl) (by rfl)) rfl ?_); clear hS; rintro _ wx ⟨rfl, hS⟩; (simp only [List.set_cons_zero, List.set_cons_succ] at hS); (simp only [Act.put, List.setIfInBounds_toArray, List.set_cons_zero, List.set_cons_succ])) | ((with_reducible show wpList _ _ _ (⟨_, Op.load _ _, _, _, _, _⟩ :: _) _ _); (first | refine Gives.list (f_load hS rfl rfl (by rfl)) rfl ?_ | refine Gives.list (f_loadS hS rfl rfl (by rfl)) rfl ?_ | refine Gives.list (f_loadAt hS rfl rfl) rfl ?_ | refine Gives.list (f_loadAtS hS rfl rfl (by rfl)) rfl ?_ | refine Gives.list (f_loadAtF hS rfl rfl (by rfl)) rfl ?_); (simp only [Act.put, List.setIfInBounds_toArray, List.set_cons_zero, List.set_cons_succ])) | ((with_reducible show wpList _ _ _ (⟨_, Op.buildSlice _ _ _, _, _, _, _⟩ :: _) _ _); refine Does.list (does_buildSlice (X := ?_) (cs := ?_) (E := ?_) hS rfl ?_ ?_) rfl ?_; rotate_left 3; (go_simp; rfl); rfl; clear hS; rintro _ wx ⟨bx, rfl, hS, _⟩; (simp only [Act.put, List.setIfInBounds_toArray, List.set_cons_zero, List.set_cons_succ])))
                go_roundw
                case rel => exact ⟨k + 1, C2, g2, by go_num, hlt, by rw [← HR.out]; exact hS.sel [2, 3, 4, 5, 6, 7, 8, 9, 10, 11] rfl (by decide)⟩
                case measure => simp [intOf]; omega
          · obtain rfl : k = rows.length := by omega
            rw [List.take_length, Ht.out] at hS
            have hrt : rt.length = rows.length := by rw [← Ht.out]; exact takeRows_len
            have e1 : ∀ wz, Sat w wz [.box b7 [.slice D1 cols.length g1, .slice C rows.length g, .slice D3 real.length g3], .own Rep.int.rows.rows [.slice C rows.length g] rt, .own Rep.str.rows [.slice D1 cols.length g1] cols, .own Rep.bool.rows [.slice D3 real.length g3] real, .ro Rep.str.slice [.slice A1 ns.length c1] ns, .ro Rep.int.slice.slice [.slice A2 rows.length c2] rows, .ro Rep.bool.slice [.slice A3 real.length c3] real, .box bo [.slice A1 ns.length c1, .slice A2 rows.length c2, .slice A3 real.length c3], .box bz [.slice none 0 0, .slice none 0 0, .slice none 0 0], .ro Rep.str.slice [.slice A4 cols.length c4] cols] → Sat w wz [.box b7 [.slice D1 cols.length g1, .slice C rt.length g, .slice D3 real.length g3], .own Rep.int.rows.rows [.slice C rt.length g] rt, .own Rep.str.rows [.slice D1 cols.length g1] cols, .own Rep.bool.rows [.slice D3 real.length g3] real, .ro Rep.str.slice [.slice A1 ns.length c1] ns, .ro Rep.int.slice.slice [.slice A2 rows.length c2] rows, .ro Rep.bool.slice [.slice A3 real.length c3] real, .box bo [.slice A1 ns.length c1, .slice A2 rows.length c2, .slice A3 real.length c3], .box bz [.slice none 0 0, .slice none 0 0, .slice none 0 0], .ro Rep.str.slice [.slice A4 cols.length c4] cols] := fun wz h => by rw [hrt]; exact h
            replace hS := e1 _ hS
            clear e1 hrt
            go_wp2_with (first | ((with_reducible show Code.wp _ (Code.region 19 _ true) _ _ _); refine wp_region_drawn [(0, 1), (1, 0), (2, 1), (3, 0), (4, 2), (5, 3), (6, 0), (7, 0)] (by kernel_rfl) (by kernel_rfl) (by intro _ _ dq _ _ hq; cases dq <;> exact hq) ?_; replace hS := hS.mod (Mod.drew (Mod.refl _ _)); (generalize hwd : World.drew _ = wz at hS ⊢); clear hwd) | ((with_reducible show wpD _ _ _ ((_, 2) :: _) _ _); (refine D_call (f := 90) (args := ?_) rfl rfl ?_ ?_); rotate_left 1; (show (Sem.run _ (execOp _ (Oper.mk _ _ _ _ _ _)) _) = _; go_simp; rfl); refine (spec_PassTrace2 _ rows.length (by omega)).mono ?_; rintro e wy ⟨v5, rfl, hN⟩; have hM := hN.mod0; replace hS := hS.fresh hN; clear hN; refine ⟨_, rfl, hM, ?_⟩; clear hM; (first | show wpD _ _ _ _ (Act.put _ (some _) _) _ | show wpD _ _ _ _ (Act.put _ none _) _); (simp only [Act.put, List.setIfInBounds_toArray, List.set_cons_zero, List.set_cons_succ])) | ((with_reducible show wpD _ _ _ ((_, 3) :: _) _ _); (first | refine D_loud rfl rfl (f_store (u := .slice _ _ _) hS rfl rfl rfl (by rfl) (by rfl)) ?_ | refine D_loud rfl rfl (f_storeS hS rfl rfl rfl (by rfl) (by rfl) (by rfl)) ?_); clear hS; rintro _ wx ⟨rfl, hS⟩; (simp only [List.set_cons_zero, List.set_cons_succ] at hS); (first | show wpD _ _ _ _ (Act.put _ (some _) _) _ | show wpD _ _ _ _ (Act.put _ none _) _); (simp only [Act.put, List.setIfInBounds_toArray, List.set_cons_zero, List.set_cons_succ])) | ((with_reducible show wpD _ _ _ [] _ _); refine D_nil ?_) | ((with_reducible show wpD _ _ _ ((_, 0) :: _) _ _); (first | (refine D_skip rfl rfl ?_; (first | show wpD _ _ _ _ (Act.put _ (some _) _) _ | show wpD _ _ _ _ (Act.put _ none _) _); (simp only [Act.put, List.setIfInBounds_toArray, List.set_cons_zero, List.set_cons_succ])) | (refine D_pure (v := ?_) rfl rfl (fun wq => ?_) ?_; rotate_left 1; (show (Sem.run _ (execOp _ (Oper.mk _ _ _ _ _ _)) _) = _; go_simp; (try go_bits); with_reducible rfl); (first | show wpD _ _ _ _ (Act.put _ (some _) _) _ | show wpD _ _ _ _ (Act.put _ none _) _); (simp only [Act.put, List.setIfInBounds_toArray, List.set_cons_zero, List.set_cons_succ])))) | ((with_reducible show wpD _ _ _ ((_, 1) :: _) _ _); (first | (refine D_skip rfl rfl ?_; (first | show wpD _ _ _ _ (Act.put _ (some _) _) _ | show wpD _ _ _ _ (Act.put _ none _) _); (simp only [Act.put, List.setIfInBounds_toArray, List.set_cons_zero, List.set_cons_succ])) | ((first | refine D_load rfl rfl (fun x hx => f_load (hS.mod hx) rfl rfl (by rfl)) ?_ | refine D_load rfl rfl (fun x hx => f_loadS (hS.mod hx) rfl rfl (by rfl)) ?_ | refine D_load rfl rfl (fun x hx => f_loadAt (hS.mod hx) rfl rfl) ?_ | refine D_load rfl rfl (fun x hx => f_loadAtS (hS.mod hx) rfl rfl (by rfl)) ?_ | refine D_load rfl rfl (fun x hx => f_loadAtF (hS.mod hx) rfl rfl (by rfl)) ?_); (first | show wpD _ _ _ _ (Act.put _ (some _) _) _ | show wpD _ _ _ _ (Act.put _ none _) _); (simp only [Act.put, List.setIfInBounds_toArray, List.set_cons_zero, List.set_cons_succ])))) | ((with_reducible show wpList _ _ _ (⟨_, Op.load _ _, _, _, _, _⟩ :: _) _ _); (first | refine Gives.list (f_load hS rfl rfl (by rfl)) rfl ?_ | refine Gives.list (f_loadS hS rfl rfl (by rfl)) rfl ?_ | refine Gives.list (f_loadAt hS rfl rfl) rfl ?_ | refine Gives.list (f_loadAtS hS rfl rfl (by rfl)) rfl ?_ | refine Gives.list (f_loadAtF hS rfl rfl (by rfl)) rfl ?_); (simp only [Act.put, List.setIfInBounds_toArray, List.set_cons_zero, List.set_cons_succ])))
            (try simp only [Exit.inBlock, Exit.then]); refine bodyPost_ret (hS.resultCTT rfl rfl (by rfl)) rfl ?_
            exact ret_tk H.out rfl (Sat.pair (Sat.mkPadded (hS.sel (Γ' := [.own Rep.bool.rows [.slice D3 real.length g3] real, .own Rep.int.rows.rows [.slice C rt.length g] rt, .own Rep.str.rows [.slice D1 cols.length g1] cols, .own rAccess.rows [v5] (passF rows.length)]) [4, 2, 3, 0] rfl (by decide)))).result
end Go.Proofs.YtldknaajnnohiaaDoor
end

section
namespace Go.Proofs.YtldknaajnnohiaaDoor
open Go.RowKit

theorem takeF_cases (p : PaddedD) (cols : List ByteArray) : takeF p cols = (zeroP, [], false) ∨ (paddedOk p = true ∧ takenB p.1 cols = true ∧ takeF p cols = ((cols, takeRows p.1 cols p.2.1, p.2.2), passF p.2.1.length, true)) := by
  unfold takeF
  split
  · rename_i h
    simp only [Bool.and_eq_true] at h
    exact .inr ⟨h.1, h.2, rfl⟩
  · exact .inl rfl
theorem ct_take (p : PaddedD) (cols : List ByteArray) : ctvPadded (takeF p cols).1 ≤ 3000 := by
  rcases takeF_cases p cols with h | ⟨h1, h0, h⟩
  · rw [h]; show ctvPadded zeroP ≤ _; rw [ctvP_zero]; omega
  · rw [h]
    obtain ⟨ns, rows, real⟩ := p
    obtain ⟨h4, h5⟩ := padded_lenC h1
    obtain ⟨-, hc6⟩ := names6 (takenB_parts h0).1
    have := ctvP_le (ns := cols) (rows := takeRows ns cols rows) (real := real) (a := 6) (b := 256) (c := 6) hc6 (by rw [takeRows_len]; exact h4) (fun r hr => by obtain ⟨r0, -, rfl⟩ := List.mem_map.1 hr; simp [takeRow]; exact hc6) (by omega)
    exact Nat.le_trans this (by omega)
theorem ct_takeTr (p : PaddedD) (cols : List ByteArray) : ctL ctAccess (takeF p cols).2.1 ≤ 3000 := by
  rcases takeF_cases p cols with h | ⟨h1, h0, h⟩
  · rw [h]; simp [ctL]
  · rw [h]
    obtain ⟨ns, rows, real⟩ := p
    obtain ⟨h4, h5⟩ := padded_lenC h1
    refine Nat.le_trans (ctL_bd (b := 3) (fun x _ => by simp [ctAccess, ct1])) ?_
    show 3 * (passF rows.length).length ≤ 3000
    rw [passF_len]
    omega
theorem spec_TakePaddedL (w : World) (cs : List Value) (F : List Nat) (p : PaddedD) (h : rPadded.has w F cs p) (v : Value) (G : List Nat) (cols : List ByteArray) (hv : SliceHas Rep.str w G [v] cols) (hb : PSmall p) :
    Calls Tryd.prog 29 #[.agg cs.toArray, v] w fun e w' => ∃ va vb, e = .returned (.tuple #[.agg va.toArray, vb, .bool (takeF p cols).2.2]) ∧ va.length = 3 ∧ Fresh (Rep.pair oPadded rAccess.rows) w w' (va ++ [vb]) ((takeF p cols).1, (takeF p cols).2.1) := by
  obtain ⟨A0, c0, F0, A1, c1, F1, A2, c2, F2, rfl, -, h0, h1, h2⟩ := rPadded_open h
  obtain ⟨A4, c4, rfl, -, -⟩ := hv.form'
  obtain ⟨ns, rows, real⟩ := p
  exact spec_TakePadded' w A0 A1 A2 A4 c0 c1 c2 c4 F0 F1 F2 G ns rows real cols h0 h1 h2 hv hb
theorem impl_TakePaddedL (w : World) (hR : ResOk w) (cs : List Value) (F : List Nat) (p : PaddedD) (h : rPadded.has w F cs p) (v : Value) (G : List Nat) (cols : List ByteArray) (hv : SliceHas Rep.str w G [v] cols) (_ : PSmall p) :
    Calls Tryd.prog 28 #[.agg cs.toArray, v] w fun e w' => ∃ va vb, e = .returned (.tuple #[.agg va.toArray, vb, .bool (takeF p cols).2.2]) ∧ va.length = 3 ∧ Fresh (Rep.pair oPadded rAccess.rows) w w' (va ++ [vb]) ((takeF p cols).1, (takeF p cols).2.1) := by
  obtain ⟨A0, c0, F0, A1, c1, F1, A2, c2, F2, rfl, -, h0, h1, h2⟩ := rPadded_open h
  obtain ⟨A4, c4, rfl, -, -⟩ := hv.form'
  obtain ⟨ns, rows, real⟩ := p
  exact impl_TakePadded' w hR A0 A1 A2 A4 c0 c1 c2 c4 F0 F1 F2 G ns rows real cols h0 h1 h2 hv
end Go.Proofs.YtldknaajnnohiaaDoor
end
