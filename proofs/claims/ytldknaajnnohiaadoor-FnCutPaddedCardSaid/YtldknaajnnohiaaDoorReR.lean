/- Sorted padded tables: real rows stand first (plain laws). -/
import Derived.Test.YtldknaajnnohiaaDoorSPl
import Derived.Test.YtldknaajnnohiaaDoorCutI
import Derived.Test.YtldknaajnnohiaaDoorSrL
section
namespace Go.Proofs.YtldknaajnnohiaaDoor
open Go.RowKit

end Go.Proofs.YtldknaajnnohiaaDoor
end

section
namespace Go.Proofs.YtldknaajnnohiaaDoor
open Go.RowKit

/-- How many rows are real; -1 for a table that is none. -/
def realF (p : PaddedD) : Int := if paddedOk p then ((p.2.2.countP id : Nat) : Int) else -1
theorem realF_t {p : PaddedD} (h : paddedOk p = true) : realF p = ((p.2.2.countP id : Nat) : Int) := by unfold realF; rw [if_pos h]
theorem realF_f {p : PaddedD} (h : paddedOk p = false) : realF p = -1 := by unfold realF; rw [h]; rfl
set_option maxHeartbeats 1000000 in
set_option maxRecDepth 8000 in
theorem impl_RealRows (w : World) (hR : ResOk w) (A1 A2 A3 : Option Addr) (c1 c2 c3 : Nat) (F G H' : List Nat) (ns : List ByteArray) (rows : List (List Int)) (real : List Bool) (hx : SliceHas Rep.str w F [.slice A1 ns.length c1] ns) (hy : SliceHas Rep.int.slice w G [.slice A2 rows.length c2] rows) (hz : SliceHas Rep.bool w H' [.slice A3 real.length c3] real) :
    Calls Tryd.prog 38 #[.agg #[.slice A1 ns.length c1, .slice A2 rows.length c2, .slice A3 real.length c3]] w fun e w' => e = .returned (.int .i64 (realF (ns, rows, real))) ∧ Mod [] w w' := by
  have hS : Sat w w [.ro Rep.str.slice [.slice A1 ns.length c1] ns, .ro Rep.int.slice.slice [.slice A2 rows.length c2] rows, .ro Rep.bool.slice [.slice A3 real.length c3] real] := (((Sat.nil w).arg hz).arg hy).arg hx
  clear hx hy hz
  cases hp : paddedOk (ns, rows, real)
  · have H := Lib.hid (realF_f hp)
    have Hp := Lib.hid hp
    clear hp
    go_enter Tryd.func38, Tryd.ntmps38
    go_wp2_with (first | (go_at_call 20; obtain ⟨Fq, hFq⟩ := hS.has Rep.str.slice [.slice A1 ns.length c1]; obtain ⟨Fr, hFr⟩ := hS.has Rep.int.slice.slice [.slice A2 rows.length c2]; obtain ⟨Fs, hFs⟩ := hS.has Rep.bool.slice [.slice A3 real.length c3]; refine (impl_PaddedValid' _ (hR.mod0 hS.mod0) A1 A2 A3 c1 c2 c3 Fq Fr Fs ns rows real hFq hFr hFs).mono ?_; rintro e w' ⟨rfl, hM⟩; replace hS := hS.mod hM; clear hM hFq hFr hFs; (simp only [Hp.out])) | ((with_reducible show wpList _ _ _ (⟨_, Op.box _ _, _, _, _, _⟩ :: _) _ _); refine Does.list (does_box hS rfl rfl (by rfl)) rfl ?_; clear hS; rintro _ wx ⟨bo, rfl, hS, _⟩; (simp only [Act.put, List.setIfInBounds_toArray, List.set_cons_zero, List.set_cons_succ])) | ((with_reducible show wpList _ _ _ (⟨_, Op.load _ _, _, _, _, _⟩ :: _) _ _); (first | refine Gives.list (f_load hS rfl rfl (by rfl)) rfl ?_ | refine Gives.list (f_loadS hS rfl rfl (by rfl)) rfl ?_ | refine Gives.list (f_loadAt hS rfl rfl) rfl ?_ | refine Gives.list (f_loadAtS hS rfl rfl (by rfl)) rfl ?_ | refine Gives.list (f_loadAtF hS rfl rfl (by rfl)) rfl ?_); (simp only [Act.put, List.setIfInBounds_toArray, List.set_cons_zero, List.set_cons_succ])) | ((with_reducible show wpList _ _ _ (⟨_, Op.store _ _ _, _, _, _, _⟩ :: _) _ _); (first | refine Does.list (f_store hS rfl rfl rfl (by rfl) (by rfl)) rfl ?_ | refine Does.list (f_storeS hS rfl rfl rfl (by rfl) (by rfl) (by rfl)) rfl ?_); clear hS; rintro _ wx ⟨rfl, hS⟩; (simp only [List.set_cons_zero, List.set_cons_succ] at hS); (simp only [Act.put, List.setIfInBounds_toArray, List.set_cons_zero, List.set_cons_succ])) | ((with_reducible show wpList _ _ _ (⟨_, Op.alloc _, _, _, _, _⟩ :: _) _ _); refine Does.list (does_alloc hS rfl (by rfl)) rfl ?_; clear hS; rintro _ wx ⟨ba, rfl, hS, _⟩; (simp only [Act.put, List.setIfInBounds_toArray, List.set_cons_zero, List.set_cons_succ])) | ((with_reducible show wpList _ _ _ (⟨_, Op.buildSlice _ _ _, _, _, _, _⟩ :: _) _ _); refine Does.list (does_buildSlice (X := ?_) (cs := ?_) (E := ?_) hS rfl ?_ ?_) rfl ?_; rotate_left 3; (go_simp; rfl); rfl; clear hS; rintro _ wx ⟨bx, rfl, hS, _⟩; (simp only [Act.put, List.setIfInBounds_toArray, List.set_cons_zero, List.set_cons_succ])))
    go_ret
    exact ⟨by rw [H.out]; rfl, hS.mod0⟩
  · have H := Lib.hid (realF_t hp)
    have Hp := Lib.hid hp
    clear hp
    go_enter Tryd.func38, Tryd.ntmps38
    go_wp2_with (first | (go_at_call 20; obtain ⟨Fq, hFq⟩ := hS.has Rep.str.slice [.slice A1 ns.length c1]; obtain ⟨Fr, hFr⟩ := hS.has Rep.int.slice.slice [.slice A2 rows.length c2]; obtain ⟨Fs, hFs⟩ := hS.has Rep.bool.slice [.slice A3 real.length c3]; refine (impl_PaddedValid' _ (hR.mod0 hS.mod0) A1 A2 A3 c1 c2 c3 Fq Fr Fs ns rows real hFq hFr hFs).mono ?_; rintro e w' ⟨rfl, hM⟩; replace hS := hS.mod hM; clear hM hFq hFr hFs; (simp only [Hp.out])) | (go_at_call 92; obtain ⟨Fs, hFs⟩ := hS.has Rep.bool.slice [.slice A3 real.length c3]; refine (impl_reals _ _ _ _ _ _ _ _ _ _ Fs real hFs).mono ?_; rintro e w' ⟨rfl, hM⟩; replace hS := hS.mod hM; clear hM hFs) | ((with_reducible show wpList _ _ _ (⟨_, Op.box _ _, _, _, _, _⟩ :: _) _ _); refine Does.list (does_box hS rfl rfl (by rfl)) rfl ?_; clear hS; rintro _ wx ⟨bo, rfl, hS, _⟩; (simp only [Act.put, List.setIfInBounds_toArray, List.set_cons_zero, List.set_cons_succ])) | ((with_reducible show wpList _ _ _ (⟨_, Op.load _ _, _, _, _, _⟩ :: _) _ _); (first | refine Gives.list (f_load hS rfl rfl (by rfl)) rfl ?_ | refine Gives.list (f_loadS hS rfl rfl (by rfl)) rfl ?_ | refine Gives.list (f_loadAt hS rfl rfl) rfl ?_ | refine Gives.list (f_loadAtS hS rfl rfl (by rfl)) rfl ?_ | refine Gives.list (f_loadAtF hS rfl rfl (by rfl)) rfl ?_); (simp only [Act.put, List.setIfInBounds_toArray, List.set_cons_zero, List.set_cons_succ])) | ((with_reducible show wpList _ _ _ (⟨_, Op.store _ _ _, _, _, _, _⟩ :: _) _ _); (first | refine Does.list (f_store hS rfl rfl rfl (by rfl) (by rfl)) rfl ?_ | refine Does.list (f_storeS hS rfl rfl rfl (by rfl) (by rfl) (by rfl)) rfl ?_); clear hS; rintro _ wx ⟨rfl, hS⟩; (simp only [List.set_cons_zero, List.set_cons_succ] at hS); (simp only [Act.put, List.setIfInBounds_toArray, List.set_cons_zero, List.set_cons_succ])) | ((with_reducible show wpList _ _ _ (⟨_, Op.alloc _, _, _, _, _⟩ :: _) _ _); refine Does.list (does_alloc hS rfl (by rfl)) rfl ?_; clear hS; rintro _ wx ⟨ba, rfl, hS, _⟩; (simp only [Act.put, List.setIfInBounds_toArray, List.set_cons_zero, List.set_cons_succ])) | ((with_reducible show wpList _ _ _ (⟨_, Op.buildSlice _ _ _, _, _, _, _⟩ :: _) _ _); refine Does.list (does_buildSlice (X := ?_) (cs := ?_) (E := ?_) hS rfl ?_ ?_) rfl ?_; rotate_left 3; (go_simp; rfl); rfl; clear hS; rintro _ wx ⟨bx, rfl, hS, _⟩; (simp only [Act.put, List.setIfInBounds_toArray, List.set_cons_zero, List.set_cons_succ])))
    go_ret
    exact ⟨by rw [H.out]; rfl, hS.mod0⟩

/-! ### Sorted again, cut -/
theorem cut_okP {ns : List ByteArray} {rows : List (List Int)} {real : List Bool} {M : Nat} (h : paddedOk (ns, rows, real) = true) : paddedOk (ns, rows.take M, real.take M) = true := by
  obtain ⟨h1, h2, h3, -⟩ := paddedOk_all4 h
  have hz := padded_of_zip (ns := ns) (Z := (rows.zip real).take M) h1 (by rw [List.length_take, List.length_zip]; omega) (fun a ha => padded_zip h a (List.mem_of_mem_take ha))
  rw [List.map_take, List.map_take, fst_zip h3, snd_zip h3] at hz
  exact hz
end Go.Proofs.YtldknaajnnohiaaDoor
end
