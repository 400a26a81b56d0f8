/- What the laws' own struct types read as. -/
import Derived.Test.YtldknaajnnohiaaDoorLaw
import Derived.Test.YtldknaajnnohiaaDoorShapes
import Derived.Test.YtldknaajnnohiaaDoorRows
namespace Go.Proofs.YtldknaajnnohiaaDoor
open Go.ChangeShapes Go.WideShapes Go.ChangeAt Go.RowKit Go.Deep











theorem readsL_Padded : ReadsAs rPadded Tryd.prog 66 :=
  ⟨by kernel_rfl, by decide, fun enc w base sp held fuel cs x h => by
    obtain ⟨xs, m, _, _, hlen, hxl, hf⟩ := DataW.trod_struct Tryd.underlying66 h
    have hl : cs.length = 3 := hlen.trans (by kernel_rfl)
    have f0 := field_has (e := (Rep.str.slice)) (reads_slice Tryd.underlying23 (by kernel_rfl) (reads_str Tryd.underlying9 (by kernel_rfl))) (hf 0 _ rfl) (by rw [hxl]; decide)
    have f1 := field_has (e := ((Rep.int.slice).slice)) (reads_slice Tryd.underlying27 (by kernel_rfl) (reads_slice Tryd.underlying43 (by kernel_rfl) (reads_int Tryd.underlying3 (by kernel_rfl)))) (hf 1 _ rfl) (by rw [hxl]; decide)
    have f2 := field_has (e := (Rep.bool.slice)) (reads_slice Tryd.underlying28 (by kernel_rfl) (reads_bool Tryd.underlying4 (by kernel_rfl))) (hf 2 _ rfl) (by rw [hxl]; decide)
    have h0 : ∃ F x, rPadded.has w F (cs.drop 0) x := (read_pair f0 (read_pair f1 (read_last f2 (by rw [hl]; rfl))))
    rw [List.drop_zero] at h0
    exact h0⟩




end Go.Proofs.YtldknaajnnohiaaDoor
