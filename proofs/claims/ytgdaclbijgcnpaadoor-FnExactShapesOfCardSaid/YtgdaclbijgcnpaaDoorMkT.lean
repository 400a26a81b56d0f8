/- Marks that are texts. -/
import Derived.Test.YtgdaclbijgcnpaaDoorTab
import Derived.Laws.BytesArg
namespace Go.Proofs.YtgdaclbijgcnpaaDoor
open Go.RowKit

theorem does_str1 {P : Program} {o : Oper} {a : Act} {w w0 : World} {Γ : List Fact} {T S E : TypeId} {x : Operand} {b i : Nat} {n : Int} (hS : Sat w0 w Γ) (ho : o.op = .convert T S x) (hx : a.eval x = .slice (some ⟨b, 0, none⟩) 1 1) [hi : BoxAt Γ b [.int .u8 n] i]
    (hs : P.underlying T = some (.slice E)) (he : P.underlying E = some (.int .u8)) (hd : P.underlying S = some .string) : Gives P o a w (.string (strOfNums [n])) := by
  have hc := run_convert_bytes_arg (P := P) w T E hs he b 0 1 1 [n] rfl (fun i hi' => by
    obtain rfl : i = 0 := by omega
    have := hS.boxCells hi.get 0 (.int .u8 n) rfl
    rw [Addr.add_lit] at this
    exact this) S hd
  unfold Gives execOp
  simp [ho, hx, hc]
def digB (d : Nat) : ByteArray := strOfNums [48 + (d : Int) % 10]
def digOut (k : Nat) (o : ByteArray) : ByteArray := if h : k = 0 then o else digOut (k / 10) (digB k ++ o)
termination_by k
decreasing_by omega
def markT (k : Nat) : ByteArray := if k = 0 then ⟨#[109, 48]⟩ else ⟨#[109]⟩ ++ digOut k ⟨#[]⟩
theorem digOut_0 (o : ByteArray) : digOut 0 o = o := by rw [digOut]; simp
theorem digOut_s {k : Nat} (h : k ≠ 0) (o : ByteArray) : digOut k o = digOut (k / 10) (digB k ++ o) := by rw [digOut, dif_neg h]
theorem digB_size (k : Nat) : (digB k).size = 1 := by unfold digB; rw [strOfNums_size]; rfl
set_option maxHeartbeats 1000000 in
set_option maxRecDepth 8000 in
theorem laws_markText (w : World) (k : Nat) (hk : k ≤ 4611686018427387904) :
    Calls Tryd.prog 69 #[.int .i64 (k : Int)] w fun e w' => e = .returned (.string (markT k)) ∧ Mod [] w w' := by
  have hS : Sat w w [] := Sat.nil w
  by_cases h0 : k = 0
  · subst h0
    go_enter Tryd.func69, Tryd.ntmps69
    go_wp2_with (first | ((with_reducible show wpList _ _ _ ({ dst := _, op := Op.box _ _, type := _, pos := _, after := _, guard := _ } :: _) _ _); refine Does.list (does_box hS rfl rfl (by rfl)) rfl ?_; clear hS; rintro _ wx ⟨bo, rfl, hS, _⟩; (simp only [Act.put, List.setIfInBounds_toArray, List.set_cons_zero, List.set_cons_succ])) | ((with_reducible show wpList _ _ _ ({ dst := _, op := Op.load _ _, type := _, pos := _, after := _, guard := _ } :: _) _ _); (first | refine Gives.list (f_load hS rfl rfl (by rfl)) rfl ?_ | refine Gives.list (f_loadS hS rfl rfl (by rfl)) rfl ?_ | refine Gives.list (f_loadAt hS rfl rfl) rfl ?_ | refine Gives.list (f_loadAtS hS rfl rfl (by rfl)) rfl ?_ | refine Gives.list (f_loadAtF hS rfl rfl (by rfl)) rfl ?_); (simp only [Act.put, List.setIfInBounds_toArray, List.set_cons_zero, List.set_cons_succ])) | ((with_reducible show wpList _ _ _ ({ dst := _, op := Op.store _ _ _, type := _, pos := _, after := _, guard := _ } :: _) _ _); (first | refine Does.list (f_store hS rfl rfl rfl (by rfl) (by rfl)) rfl ?_ | refine Does.list (f_storeS hS rfl rfl rfl (by rfl) (by rfl) (by rfl)) rfl ?_); clear hS; rintro _ wx ⟨rfl, hS⟩; (simp only [List.set_cons_zero, List.set_cons_succ] at hS); (simp only [Act.put, List.setIfInBounds_toArray, List.set_cons_zero, List.set_cons_succ])) | ((with_reducible show wpList _ _ _ ({ dst := _, op := Op.alloc _, type := _, pos := _, after := _, guard := _ } :: _) _ _); refine Does.list (does_alloc hS rfl (by rfl)) rfl ?_; clear hS; rintro _ wx ⟨ba, rfl, hS, _⟩; (simp only [Act.put, List.setIfInBounds_toArray, List.set_cons_zero, List.set_cons_succ])) | ((with_reducible show wpList _ _ _ ({ dst := _, op := Op.buildSlice _ _ _, type := _, pos := _, after := _, guard := _ } :: _) _ _); refine Does.list (does_buildSlice (X := ?_) (cs := ?_) (E := ?_) hS rfl ?_ ?_) rfl ?_; rotate_left 3; (go_simp; rfl); rfl; clear hS; rintro _ wx ⟨bx, rfl, hS, _⟩; (simp only [Act.put, List.setIfInBounds_toArray, List.set_cons_zero, List.set_cons_succ])))
    go_ret
    exact ⟨rfl, hS.mod0⟩
  · have hkI : ¬ (k : Int) ≤ 0 := by omega
    have H0 := Lib.hid h0
    clear h0
    go_enter Tryd.func69, Tryd.ntmps69
    go_wp2_with (first | ((with_reducible show wpList _ _ _ ({ dst := _, op := Op.box _ _, type := _, pos := _, after := _, guard := _ } :: _) _ _); refine Does.list (does_box hS rfl rfl (by rfl)) rfl ?_; clear hS; rintro _ wx ⟨bo, rfl, hS, _⟩; (simp only [Act.put, List.setIfInBounds_toArray, List.set_cons_zero, List.set_cons_succ])) | ((with_reducible show wpList _ _ _ ({ dst := _, op := Op.load _ _, type := _, pos := _, after := _, guard := _ } :: _) _ _); (first | refine Gives.list (f_load hS rfl rfl (by rfl)) rfl ?_ | refine Gives.list (f_loadS hS rfl rfl (by rfl)) rfl ?_ | refine Gives.list (f_loadAt hS rfl rfl) rfl ?_ | refine Gives.list (f_loadAtS hS rfl rfl (by rfl)) rfl ?_ | refine Gives.list (f_loadAtF hS rfl rfl (by rfl)) rfl ?_); (simp only [Act.put, List.setIfInBounds_toArray, List.set_cons_zero, List.set_cons_succ])) | ((with_reducible show wpList _ _ _ ({ dst := _, op := Op.store _ _ _, type := _, pos := _, after := _, guard := _ } :: _) _ _); (first | refine Does.list (f_store hS rfl rfl rfl (by rfl) (by rfl)) rfl ?_ | refine Does.list (f_storeS hS rfl rfl rfl (by rfl) (by rfl) (by rfl)) rfl ?_); clear hS; rintro _ wx ⟨rfl, hS⟩; (simp only [List.set_cons_zero, List.set_cons_succ] at hS); (simp only [Act.put, List.setIfInBounds_toArray, List.set_cons_zero, List.set_cons_succ])) | ((with_reducible show wpList _ _ _ ({ dst := _, op := Op.alloc _, type := _, pos := _, after := _, guard := _ } :: _) _ _); refine Does.list (does_alloc hS rfl (by rfl)) rfl ?_; clear hS; rintro _ wx ⟨ba, rfl, hS, _⟩; (simp only [Act.put, List.setIfInBounds_toArray, List.set_cons_zero, List.set_cons_succ])) | ((with_reducible show wpList _ _ _ ({ dst := _, op := Op.buildSlice _ _ _, type := _, pos := _, after := _, guard := _ } :: _) _ _); refine Does.list (does_buildSlice (X := ?_) (cs := ?_) (E := ?_) hS rfl ?_ ?_) rfl ?_; rotate_left 3; (go_simp; rfl); rfl; clear hS; rintro _ wx ⟨bx, rfl, hS, _⟩; (simp only [Act.put, List.setIfInBounds_toArray, List.set_cons_zero, List.set_cons_succ])))
    go_loopw [0, 3] (fun i s wr => ∃ (j f : Nat) (o : ByteArray), i = .int .i64 (j : Int) ∧ s = .string o ∧ digOut j o = digOut k ⟨#[]⟩ ∧ (j < 2 ^ f ∧ o.size + f = 70) ∧ j ≤ 4611686018427387904 ∧ Sat w wr []) (fun i _ _ => (intOf i).toNat)
    case atStart => exact ⟨k, 70, _, rfl, rfl, rfl, ⟨Nat.lt_of_le_of_lt hk (by decide), rfl⟩, hk, hS⟩
    case round =>
      clear hS
      obtain ⟨j, f, o, rfl, rfl, ho, ⟨hf, hof⟩, hj, hS⟩ := hrel
      have Ho := Lib.hid ho
      have Hf := Lib.hid hf
      clear ho hf
      by_cases hj0 : j = 0
      · subst hj0
        have hsz : ¬ 9223372036854775807 < 1 + o.size := by omega
        have H : Hid (markT k = ⟨#[109]⟩ ++ o) := Lib.hid (by unfold markT; rw [if_neg H0.out, ← Ho.out, digOut_0])
        go_wp2_with (first | ((with_reducible show wpList _ _ _ ({ dst := _, op := Op.box _ _, type := _, pos := _, after := _, guard := _ } :: _) _ _); refine Does.list (does_box hS rfl rfl (by rfl)) rfl ?_; clear hS; rintro _ wx ⟨bo, rfl, hS, _⟩; (simp only [Act.put, List.setIfInBounds_toArray, List.set_cons_zero, List.set_cons_succ])) | ((with_reducible show wpList _ _ _ ({ dst := _, op := Op.load _ _, type := _, pos := _, after := _, guard := _ } :: _) _ _); (first | refine Gives.list (f_load hS rfl rfl (by rfl)) rfl ?_ | refine Gives.list (f_loadS hS rfl rfl (by rfl)) rfl ?_ | refine Gives.list (f_loadAt hS rfl rfl) rfl ?_ | refine Gives.list (f_loadAtS hS rfl rfl (by rfl)) rfl ?_ | refine Gives.list (f_loadAtF hS rfl rfl (by rfl)) rfl ?_); (simp only [Act.put, List.setIfInBounds_toArray, List.set_cons_zero, List.set_cons_succ])) | ((with_reducible show wpList _ _ _ ({ dst := _, op := Op.store _ _ _, type := _, pos := _, after := _, guard := _ } :: _) _ _); (first | refine Does.list (f_store hS rfl rfl rfl (by rfl) (by rfl)) rfl ?_ | refine Does.list (f_storeS hS rfl rfl rfl (by rfl) (by rfl) (by rfl)) rfl ?_); clear hS; rintro _ wx ⟨rfl, hS⟩; (simp only [List.set_cons_zero, List.set_cons_succ] at hS); (simp only [Act.put, List.setIfInBounds_toArray, List.set_cons_zero, List.set_cons_succ])) | ((with_reducible show wpList _ _ _ ({ dst := _, op := Op.alloc _, type := _, pos := _, after := _, guard := _ } :: _) _ _); refine Does.list (does_alloc hS rfl (by rfl)) rfl ?_; clear hS; rintro _ wx ⟨ba, rfl, hS, _⟩; (simp only [Act.put, List.setIfInBounds_toArray, List.set_cons_zero, List.set_cons_succ])) | ((with_reducible show wpList _ _ _ ({ dst := _, op := Op.buildSlice _ _ _, type := _, pos := _, after := _, guard := _ } :: _) _ _); refine Does.list (does_buildSlice (X := ?_) (cs := ?_) (E := ?_) hS rfl ?_ ?_) rfl ?_; rotate_left 3; (go_simp; rfl); rfl; clear hS; rintro _ wx ⟨bx, rfl, hS, _⟩; (simp only [Act.put, List.setIfInBounds_toArray, List.set_cons_zero, List.set_cons_succ])))
        go_ret
        exact ⟨by rw [H.out]; rfl, hS.mod0⟩
      · have hjI : (0 : Int) < (j : Int) := by omega
        have hfp : 0 < f := by
          rcases Nat.eq_zero_or_pos f with h | h
          · have := Hf.out; subst h; simp at this; omega
          · exact h
        have hsz : ¬ 9223372036854775807 < (strOfNums [48 + (j : Int) % 10]).size + o.size := by rw [strOfNums_size]; simp; omega
        have H := Lib.hid (digOut_s hj0 o)
        go_wp2_with (first | ((with_reducible show wpList _ _ _ ({ dst := _, op := Op.box _ _, type := _, pos := _, after := _, guard := _ } :: _) _ _); refine Does.list (does_box hS rfl rfl (by rfl)) rfl ?_; clear hS; rintro _ wx ⟨bo, rfl, hS, _⟩; (simp only [Act.put, List.setIfInBounds_toArray, List.set_cons_zero, List.set_cons_succ])) | ((with_reducible show wpList _ _ _ ({ dst := _, op := Op.load _ _, type := _, pos := _, after := _, guard := _ } :: _) _ _); (first | refine Gives.list (f_load hS rfl rfl (by rfl)) rfl ?_ | refine Gives.list (f_loadS hS rfl rfl (by rfl)) rfl ?_ | refine Gives.list (f_loadAt hS rfl rfl) rfl ?_ | refine Gives.list (f_loadAtS hS rfl rfl (by rfl)) rfl ?_ | refine Gives.list (f_loadAtF hS rfl rfl (by rfl)) rfl ?_); (simp only [Act.put, List.setIfInBounds_toArray, List.set_cons_zero, List.set_cons_succ])) | ((with_reducible show wpList _ _ _ ({ dst := _, op := Op.store _ _ _, type := _, pos := _, after := _, guard := _ } :: _) _ _); (first | refine Does.list (f_store hS rfl rfl rfl (by rfl) (by rfl)) rfl ?_ | refine Does.list (f_storeS hS rfl rfl rfl (by rfl) (by rfl) (by rfl)) rfl ?_); clear hS; rintro _ wx ⟨rfl, hS⟩; (simp only [List.set_cons_zero, List.set_cons_succ] at hS); (simp only [Act.put, List.setIfInBounds_toArray, List.set_cons_zero, List.set_cons_succ])) | ((with_reducible show wpList _ _ _ ({ dst := _, op := Op.alloc _, type := _, pos := _, after := _, guard := _ } :: _) _ _); refine Does.list (does_alloc hS rfl (by rfl)) rfl ?_; clear hS; rintro _ wx ⟨ba, rfl, hS, _⟩; (simp only [Act.put, List.setIfInBounds_toArray, List.set_cons_zero, List.set_cons_succ])) | ((with_reducible show wpList _ _ _ ({ dst := _, op := Op.buildSlice _ _ _, type := _, pos := _, after := _, guard := _ } :: _) _ _); refine Does.list (does_buildSlice (X := ?_) (cs := ?_) (E := ?_) hS rfl ?_ ?_) rfl ?_; rotate_left 3; (go_simp; rfl); rfl; clear hS; rintro _ wx ⟨bx, rfl, hS, _⟩; (simp only [Act.put, List.setIfInBounds_toArray, List.set_cons_zero, List.set_cons_succ])) | ((with_reducible show wpList _ _ _ ({ dst := _, op := Op.convert _ _ _, type := _, pos := _, after := _, guard := _ } :: _) _ _); refine Gives.list (does_str1 hS rfl rfl Tryd.underlying30 Tryd.underlying5 Tryd.underlying9) rfl ?_; (simp only [Act.put, List.setIfInBounds_toArray, List.set_cons_zero, List.set_cons_succ])))
        go_roundw
        case rel => exact ⟨j / 10, f - 1, strOfNums [48 + (j : Int) % 10] ++ o, by simp, rfl, by rw [← Ho.out, H.out]; rfl, ⟨by
          have h1 := Hf.out
          obtain ⟨g, rfl⟩ : ∃ g, f = g + 1 := ⟨f - 1, by omega⟩
          rw [Nat.pow_succ] at h1
          simp only [Nat.add_sub_cancel]
          omega, by rw [ByteArray.size_append, strOfNums_size]; simp; omega⟩, by omega, hS.sel [] rfl (by decide)⟩
        case measure => simp [intOf]; omega
theorem digOut_size : ∀ (f k : Nat) (o : ByteArray), k < 2 ^ f → (digOut k o).size ≤ o.size + f
  | 0, k, o, h => by
    obtain rfl : k = 0 := by simpa using h
    rw [digOut_0]; omega
  | f + 1, k, o, h => by
    by_cases h0 : k = 0
    · subst h0; rw [digOut_0]; omega
    · rw [digOut_s h0]
      have h1 := digOut_size f (k / 10) (digB k ++ o) (by rw [Nat.pow_succ] at h; omega)
      rw [ByteArray.size_append, digB_size] at h1
      omega
def markTextF (k : Int) : ByteArray := if k ≤ 4611686018427387904 then markT k.toNat else ⟨#[]⟩
def mkS (k : Int) (_ : ByteArray) : ByteArray := markTextF k
theorem mkS_size (k : Int) (x : ByteArray) : (mkS k x).size ≤ maxLen := by
  unfold mkS markTextF
  split
  · rename_i h
    unfold markT
    split
    · decide
    · have h1 := digOut_size 70 k.toNat ⟨#[]⟩ (Nat.lt_of_le_of_lt (show k.toNat ≤ 4611686018427387904 by omega) (by decide))
      rw [ByteArray.size_append]
      have h2 : (ByteArray.size ⟨#[]⟩) = 0 := rfl
      have h3 : (ByteArray.size ⟨#[109]⟩) = 1 := rfl
      unfold maxLen
      omega
  · decide
theorem markText_any (w : World) (k : Int) (h0 : 0 ≤ k) (hk : k ≤ 4611686018427387904) :
    Calls Tryd.prog 69 #[.int .i64 k] w fun e w' => e = .returned (.string (markTextF k)) ∧ Mod [] w w' := by
  obtain ⟨n, rfl⟩ : ∃ n : Nat, k = n := ⟨k.toNat, by omega⟩
  refine (laws_markText w n (by omega)).mono ?_
  rintro e w' ⟨rfl, hM⟩
  exact ⟨by unfold markTextF; rw [if_pos hk]; rfl, hM⟩
end Go.Proofs.YtgdaclbijgcnpaaDoor
