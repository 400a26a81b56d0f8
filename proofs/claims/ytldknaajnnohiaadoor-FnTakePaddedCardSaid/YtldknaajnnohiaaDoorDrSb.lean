/- DrawSealTable. -/
import Derived.Test.YtldknaajnnohiaaDoorDrPg
import Derived.Test.YtldknaajnnohiaaDoorTyped
import Derived.Test.YtldknaajnnohiaaDoorPdv
namespace Go.Proofs.YtldknaajnnohiaaDoor
open Go.RowKit

def Drawn (ns : List ByteArray) (rows : List (List Int)) (real : List Bool) (most : Nat) : Prop := 1 ≤ ns.length ∧ ns.length ≤ 4 ∧ rows.length ≤ most + 1 ∧ (∀ r ∈ rows, r.length ≤ 3) ∧ real.length ≤ most + 1
theorem Drawn.small {ns : List ByteArray} {rows : List (List Int)} {real : List Bool} {most : Nat} (h : Drawn ns rows real most) (hm : most ≤ 20) : PSmall (ns, rows, real) := by
  obtain ⟨h1, h2, h3, h4, h5⟩ := h
  exact ⟨by show ns.length ≤ _; omega, ⟨by show rows.length ≤ _; omega, fun r hr => by have := h4 r hr; omega⟩, by show real.length ≤ _; omega⟩
theorem Sat.resultTTC {P : Program} {w0 w : World} {Γ : List Fact} {fn : Func} {tmps : Array Value} {t1 t2 t : Tmp} {T : TypeId} {z : Value} {n b i : Nat} {cs : List Value} (hS : Sat w0 w Γ) (h : fn.results = #[.tmp t1, .tmp t2, .cell t T]) (ht : tmps.getD t undef = .pointer (some ⟨b, 0, none⟩))
    [hi : BoxAt Γ b cs i] [hT : Ty P T z n true] (hl : cs.length = n) : (results fn tmps).run P w = .ok (.tuple #[tmps.getD t1 undef, tmps.getD t2 undef, .agg cs.toArray]) w := by
  have hc := hS.boxCells hi.get
  have hv : (loadVar T ⟨b, 0, none⟩).run P w = .ok (.agg cs.toArray) w := by
    subst hl
    simp [loadVar, run_isAgg hT, run_sizeOf hT, run_loadCells_list w _ cs hc]
  have ht' : tmps[t]?.getD undef = .pointer (some ⟨b, 0, none⟩) := by simpa using ht
  simp [results, h, ht', asAddr, hv]
set_option maxHeartbeats 4000000 in
set_option maxRecDepth 8000 in
theorem spec_DrawSealTable (w : World) (F : List Nat) (v : Value) (code : List UInt8) (hx : SliceHas Rep.u8 w F [v] code) :
    Calls Tryd.prog 64 #[v] w fun e w' => ∃ (key num : Int) (cs : List Value) (ns : List ByteArray) (rows : List (List Int)) (real : List Bool), e = .returned (.tuple #[.int .i64 key, .int .i64 num, .agg cs.toArray]) ∧ (-1 ≤ key ∧ key ≤ 1000001) ∧ (-1 ≤ num ∧ num ≤ 1000000001) ∧ Drawn ns rows real 6 ∧ Fresh oPadded w w' cs (ns, rows, real) := by
  obtain ⟨A, c, rfl, hl, _⟩ := hx.form'
  have hS : Sat w w [.ro Rep.u8.slice [.slice A code.length c] code] := (Sat.nil w).arg hx
  clear hx
  go_enter Tryd.func64, Tryd.ntmps64
  go_wp2_with (first | (go_at_call 63; refine (spec_l20Open hS (i := 1) rfl).mono ?_; clear hS; rintro e w' ⟨br, Ar, nr, cr, cd, rfl, hS⟩) | (go_at_call 141; obtain ⟨hrd, up⟩ := Sat.rdF hS br; refine (spec_l20Key _ br _ _ _ _ hrd (by omega)).mono ?_; rintro e w' ⟨⟨key, num, rfl, hkb, hnb⟩, ⟨p1, hp1, hrd2⟩, hM⟩; replace hS := (up _ _ hrd2 hM).1; clear up hrd hrd2 hM; (simp only [List.set_cons_zero, List.set_cons_succ] at hS)) | (go_at_call 67; (with_reducible show Calls _ _ #[_, Value.int IntKind.i64 3] _ _); obtain ⟨hrd, up⟩ := Sat.rdF hS br; refine (spec_pick _ br _ _ _ _ _ hrd (by omega) (by omega)).mono ?_; rintro e w' ⟨⟨x3, rfl, hx30, hx31, hx32⟩, hrd2, hM⟩; replace hS := (up _ _ hrd2 hM).1; clear up hrd hrd2 hM; (simp only [List.set_cons_zero, List.set_cons_succ] at hS)) | (go_at_call 84; go_loud (obtain ⟨hrd, up⟩ := Sat.rdF hS br; have hL := spec_l20Padded _ br _ _ _ _ x3 9 6 (by omega) (by omega) (by decide) (by decide) (by decide) hrd (by omega); (rw [show ((6 : Nat) : Int) = 6 from rfl] at hL); refine hL.mono ?_; clear hL; rintro e w' ⟨cs, ns, rows, real, rfl, hbd, hN, ⟨p3, hp3, hrd2⟩, hM⟩; replace hS := (up _ _ hrd2 hM).2 _ _ _ hN; clear up hrd hrd2 hM hN; (simp only [List.set_cons_zero, List.set_cons_succ] at hS); have hS2 := Sat.openOwnPadded hS; clear hS; obtain ⟨B1, d1, B2, d2, B3, d3, rfl, hS⟩ := hS2; (dsimp only at hS); have Hbd := Lib.hid (show Drawn ns rows real 6 from hbd); clear hbd)) | ((with_reducible show wpList _ _ _ (⟨_, Op.store _ _ _, _, _, _, _⟩ :: _) _ _); (first | refine Does.list (f_store hS rfl rfl rfl (by rfl) (by rfl)) rfl ?_ | refine Does.list (f_storeS hS rfl rfl rfl (by rfl) (by rfl) (by rfl)) rfl ?_); clear hS; rintro _ wx ⟨rfl, hS⟩; (simp only [List.set_cons_zero, List.set_cons_succ] at hS); (simp only [Act.put, List.setIfInBounds_toArray, List.set_cons_zero, List.set_cons_succ])) | ((with_reducible show wpList _ _ _ (⟨_, Op.alloc _, _, _, _, _⟩ :: _) _ _); refine Does.list (does_alloc hS rfl (by rfl)) rfl ?_; clear hS; rintro _ wx ⟨ba, rfl, hS, _⟩; (simp only [Act.put, List.setIfInBounds_toArray, List.set_cons_zero, List.set_cons_succ])))
  refine bodyPost_ret (hS.resultTTC rfl rfl (by rfl)) rfl ?_
  exact ⟨_, _, _, ns, rows, real, rfl, hkb, hnb, Hbd.out, (Sat.mkPadded (hS.sel (Γ' := [.own Rep.bool.rows [.slice B3 real.length d3] real, .own Rep.int.rows.rows [.slice B2 rows.length d2] rows, .own Rep.str.rows [.slice B1 ns.length d1] ns]) [0, 1, 2] rfl (by decide))).result⟩
end Go.Proofs.YtldknaajnnohiaaDoor
