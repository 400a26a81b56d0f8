/- What the rows' conditions give the walks where tables of the library are listed beside impl.reserved. No function of the program occurs here. -/
import Derived.Test.YteafnieapifnnaaDoorDoor
import Derived.Test.YteafnieapifnnaaDoorTxR
import Derived.Lib.LaidTab
namespace Go.Proofs.YteafnieapifnnaaDoor
open Go.ChangeShapes Go.WideShapes Go.ChangeAt Go.RowKit Go.Deep

theorem gTab : Tryd.prog.globalNamed "internal/strconv.uint64pow10" = some 2 := by kernel_rfl
theorem tTab : (Tryd.prog.globals[2]?).map (·.type) = some 123 := by kernel_rfl
theorem tabEq : Rows.laid_internal_strconv_uint64pow10 (H := Unit) = Lib.tabData .u64 Lib.pow10Tab := by
  unfold Rows.laid_internal_strconv_uint64pow10 Lib.tabData Lib.pow10Tab
  kernel_rfl
theorem tab_of_vars {W : World} {ps : List MemPlace} {rest : List (String × DataW Unit)} (h : DataW.LaidVars Tryd.prog W (("internal/strconv.uint64pow10", Rows.laid_internal_strconv_uint64pow10) :: rest) ps) : TabOk W := by
  obtain ⟨g', t', cs, fuel, p, q, hg', ht', hvar, hd, _, _⟩ := h
  obtain rfl := Option.some.inj (gTab.symm.trans hg')
  obtain rfl := Option.some.inj (tTab.symm.trans ht')
  unfold TabOk Lib.TabIs
  rw [tabEq] at hd
  rw [hvar, ← Lib.cells_of_tab Tryd.underlying123 Tryd.underlying116 (by kernel_rfl) (by kernel_rfl) hd]
theorem res_of_vars {W : World} {ps : List MemPlace} {rest : List (String × DataW Unit)} (h : DataW.LaidVars Tryd.prog W (("loop.example/obliviousqueries/impl.reserved", Rows.laid_loop_example_obliviousqueries_impl_reserved) :: rest) ps) : ResOk W := by
  obtain ⟨g0, t0, cs0, f0, p0, q0, hg0, ht0, hv0, hd0, _, _⟩ := h
  obtain rfl := Option.some.inj (gRes.symm.trans hg0)
  obtain rfl := Option.some.inj (tRes.symm.trans ht0)
  obtain ⟨F, hF⟩ := strs_of_trod (ls := resBytes) Tryd.underlying27 Tryd.underlying9 (by kernel_rfl) hd0
  obtain ⟨v, hcs⟩ := Rep.one_cell (a := Rep.str.slice) rfl hF
  rw [hcs] at hF
  obtain ⟨A, n, c, rfl, hn, _⟩ := SliceHas.form hF
  have hn : n = 13 := by rw [← hn]; rfl
  subst hn
  refine ⟨A, c, F, ?_, hF⟩
  have hcell := World.var?_cell hg0 hv0 0
  rw [Array.eq_one_of_toList hcs] at hcell
  have hcell' : W.cell? ⟨0, 0, none⟩ = some (.slice A 13 c) := by simpa using hcell
  exact cellR_of hcell'
theorem vars_tail {P : Program} {W : World} {x : String × DataW Unit} {rest : List (String × DataW Unit)} {ps : List MemPlace} (h : DataW.LaidVars P W (x :: rest) ps) : ∃ q, DataW.LaidVars P W rest q := by
  obtain ⟨n, d⟩ := x
  obtain ⟨_, _, _, _, _, q, _, _, _, _, h, _⟩ := h
  exact ⟨q, h⟩
theorem vars_nil {H : Type} {enc : TypeId × Value → H} {P : Program} {w : World} {sp : Nat → Bool} {gs : List (DataW H)} {ps : List MemPlace} (h : DataW.TrodVars enc P w sp [] gs ps) : gs = [] := by
  match gs, h with
  | [], _ => rfl
theorem tab_of_laid3 {W : World} (h : laidMetH Tryd.prog Rows.fnExactRowTextRow.laid W) : TabOk W := by
  rw [MakeChecks.laidMetH_plain _ _ _ (by kernel_rfl)] at h
  obtain ⟨ps, h0, _⟩ := h
  obtain ⟨_, h1⟩ := vars_tail h0
  obtain ⟨_, h2⟩ := vars_tail h1
  exact tab_of_vars h2
theorem tab_of_laid4 {W : World} (h : laidMetH Tryd.prog Rows.fnExactTableTextRow.laid W) : TabOk W ∧ ResOk W := by
  rw [MakeChecks.laidMetH_plain _ _ _ (by kernel_rfl)] at h
  obtain ⟨ps, h0, _⟩ := h
  obtain ⟨_, h1⟩ := vars_tail h0
  obtain ⟨_, h2⟩ := vars_tail h1
  obtain ⟨_, h3⟩ := vars_tail h2
  exact ⟨tab_of_vars h2, res_of_vars h3⟩
end Go.Proofs.YteafnieapifnnaaDoor
