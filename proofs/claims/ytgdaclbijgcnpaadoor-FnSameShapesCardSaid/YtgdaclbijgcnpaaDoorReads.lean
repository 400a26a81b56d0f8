/- What the laws' own struct types read as. -/
import Derived.Test.YtgdaclbijgcnpaaDoorRead
import Derived.Test.YtgdaclbijgcnpaaDoorShapes
import Derived.Test.YtgdaclbijgcnpaaDoorRows
namespace Go.Proofs.YtgdaclbijgcnpaaDoor
open Go.ChangeShapes Go.WideShapes Go.ChangeAt Go.RowKit Go.Deep







theorem readsL_Shape : ReadsAs rShape Tryd.prog 64 :=
  ⟨by kernel_rfl, by decide, fun enc w base sp held fuel cs x h => by
    obtain ⟨xs, m, _, _, hlen, hxl, hf⟩ := DataW.trod_struct Tryd.underlying64 h
    have hl : cs.length = 3 := hlen.trans (by kernel_rfl)
    have f0 := field_has (e := Rep.str) (reads_str Tryd.underlying9 (by kernel_rfl)) (hf 0 _ rfl) (by rw [hxl]; decide)
    have f1 := field_has (e := (Rep.str.slice)) (reads_slice Tryd.underlying32 (by kernel_rfl) (reads_str Tryd.underlying9 (by kernel_rfl))) (hf 1 _ rfl) (by rw [hxl]; decide)
    have f2 := field_has (e := Rep.int) (reads_int Tryd.underlying3 (by kernel_rfl)) (hf 2 _ rfl) (by rw [hxl]; decide)
    have h0 : ∃ F x, rShape.has w F (cs.drop 0) x := (read_pair f0 (read_pair f1 (read_last f2 (by rw [hl]; rfl))))
    rw [List.drop_zero] at h0
    exact h0⟩


theorem readsL_Table : ReadsAs rTable Tryd.prog 57 :=
  ⟨by kernel_rfl, by decide, fun enc w base sp held fuel cs x h => by
    obtain ⟨xs, m, _, _, hlen, hxl, hf⟩ := DataW.trod_struct Tryd.underlying57 h
    have hl : cs.length = 2 := hlen.trans (by kernel_rfl)
    have f0 := field_has (e := (Rep.str.slice)) (reads_slice Tryd.underlying32 (by kernel_rfl) (reads_str Tryd.underlying9 (by kernel_rfl))) (hf 0 _ rfl) (by rw [hxl]; decide)
    have f1 := field_has (e := ((Rep.int.slice).slice)) (reads_slice Tryd.underlying41 (by kernel_rfl) (reads_slice Tryd.underlying79 (by kernel_rfl) (reads_int Tryd.underlying3 (by kernel_rfl)))) (hf 1 _ rfl) (by rw [hxl]; decide)
    have h0 : ∃ F x, rTable.has w F (cs.drop 0) x := (read_pair f0 (read_last f1 (by rw [hl]; rfl)))
    rw [List.drop_zero] at h0
    exact h0⟩

theorem readsL_Named : ReadsAs rNamed Tryd.prog 83 :=
  ⟨by kernel_rfl, by decide, fun enc w base sp held fuel cs x h => by
    obtain ⟨xs, m, _, _, hlen, hxl, hf⟩ := DataW.trod_struct Tryd.underlying83 h
    have hl : cs.length = 3 := hlen.trans (by kernel_rfl)
    have f0 := field_has (e := Rep.str) (reads_str Tryd.underlying9 (by kernel_rfl)) (hf 0 _ rfl) (by rw [hxl]; decide)
    have f1 := field_has (e := rTable) readsL_Table (hf 1 _ rfl) (by rw [hxl]; decide)
    have h0 : ∃ F x, rNamed.has w F (cs.drop 0) x := (read_pair f0 (read_last f1 (by rw [hl]; rfl)))
    rw [List.drop_zero] at h0
    exact h0⟩





end Go.Proofs.YtgdaclbijgcnpaaDoor
