/- What the laws' own struct types read as. -/
import Derived.Test.YthabgnhedmepjaaRead
import Derived.Test.YthabgnhedmepjaaShapes
import Derived.Test.YthabgnhedmepjaaRows
namespace Go.Proofs.Ythabgnhedmepjaa
open Go.ChangeShapes Go.WideShapes Go.ChangeAt Go.RowKit Go.Deep

theorem readsL_Pair : ReadsAs rPair Try.prog 87 :=
  ⟨by kernel_rfl, by decide, fun enc w base sp held fuel cs x h => by
    obtain ⟨xs, m, _, _, hlen, hxl, hf⟩ := DataW.trod_struct Try.underlying87 h
    have hl : cs.length = 2 := hlen.trans (by kernel_rfl)
    have f0 := field_has (e := Rep.int) (reads_int Try.underlying3 (by kernel_rfl)) (hf 0 _ rfl) (by rw [hxl]; decide)
    have f1 := field_has (e := Rep.int) (reads_int Try.underlying3 (by kernel_rfl)) (hf 1 _ rfl) (by rw [hxl]; decide)
    have h0 : ∃ F x, rPair.has w F (cs.drop 0) x := (read_pair f0 (read_last f1 (by rw [hl]; rfl)))
    rw [List.drop_zero] at h0
    exact h0⟩


theorem readsL_Block : ReadsAs rBlock Try.prog 120 :=
  ⟨by kernel_rfl, by decide, fun enc w base sp held fuel cs x h => by
    obtain ⟨xs, m, _, _, hlen, hxl, hf⟩ := DataW.trod_struct Try.underlying120 h
    have hl : cs.length = 3 := hlen.trans (by kernel_rfl)
    have f0 := field_has (e := Rep.int) (reads_int Try.underlying3 (by kernel_rfl)) (hf 0 _ rfl) (by rw [hxl]; decide)
    have f1 := field_has (e := Rep.int) (reads_int Try.underlying3 (by kernel_rfl)) (hf 1 _ rfl) (by rw [hxl]; decide)
    have f2 := field_has (e := Rep.int) (reads_int Try.underlying3 (by kernel_rfl)) (hf 2 _ rfl) (by rw [hxl]; decide)
    have h0 : ∃ F x, rBlock.has w F (cs.drop 0) x := (read_pair f0 (read_pair f1 (read_last f2 (by rw [hl]; rfl))))
    rw [List.drop_zero] at h0
    exact h0⟩

theorem readsL_Use : ReadsAs rUse Try.prog 115 :=
  ⟨by kernel_rfl, by decide, fun enc w base sp held fuel cs x h => by
    obtain ⟨xs, m, _, _, hlen, hxl, hf⟩ := DataW.trod_struct Try.underlying115 h
    have hl : cs.length = 4 := hlen.trans (by kernel_rfl)
    have f0 := field_has (e := Rep.int) (reads_int Try.underlying3 (by kernel_rfl)) (hf 0 _ rfl) (by rw [hxl]; decide)
    have f1 := field_has (e := Rep.bool) (reads_bool Try.underlying4 (by kernel_rfl)) (hf 1 _ rfl) (by rw [hxl]; decide)
    have f2 := field_has (e := Rep.int) (reads_int Try.underlying3 (by kernel_rfl)) (hf 2 _ rfl) (by rw [hxl]; decide)
    have f3 := field_has (e := Rep.int) (reads_int Try.underlying3 (by kernel_rfl)) (hf 3 _ rfl) (by rw [hxl]; decide)
    have h0 : ∃ F x, rUse.has w F (cs.drop 0) x := (read_pair f0 (read_pair f1 (read_pair f2 (read_last f3 (by rw [hl]; rfl)))))
    rw [List.drop_zero] at h0
    exact h0⟩


theorem readsL_Sealed : ReadsAs rSealed Try.prog 62 :=
  ⟨by kernel_rfl, by decide, fun enc w base sp held fuel cs x h => by
    obtain ⟨xs, m, _, _, hlen, hxl, hf⟩ := DataW.trod_struct Try.underlying62 h
    have hl : cs.length = 3 := hlen.trans (by kernel_rfl)
    have f0 := field_has (e := Rep.int) (reads_int Try.underlying3 (by kernel_rfl)) (hf 0 _ rfl) (by rw [hxl]; decide)
    have f1 := field_has (e := (Rep.int.slice)) (reads_slice Try.underlying39 (by kernel_rfl) (reads_int Try.underlying3 (by kernel_rfl))) (hf 1 _ rfl) (by rw [hxl]; decide)
    have f2 := field_has (e := Rep.int) (reads_int Try.underlying3 (by kernel_rfl)) (hf 2 _ rfl) (by rw [hxl]; decide)
    have h0 : ∃ F x, rSealed.has w F (cs.drop 0) x := (read_pair f0 (read_pair f1 (read_last f2 (by rw [hl]; rfl))))
    rw [List.drop_zero] at h0
    exact h0⟩


theorem readsL_Memory : ReadsAs rMemory Try.prog 52 :=
  ⟨by kernel_rfl, by decide, fun enc w base sp held fuel cs x h => by
    obtain ⟨xs, m, _, _, hlen, hxl, hf⟩ := DataW.trod_struct Try.underlying52 h
    have hl : cs.length = 2 := hlen.trans (by kernel_rfl)
    have f0 := field_has (e := ((rBlock.slice).slice)) (reads_slice Try.underlying49 (by kernel_rfl) (reads_slice Try.underlying50 (by kernel_rfl) readsL_Block)) (hf 0 _ rfl) (by rw [hxl]; decide)
    have f1 := field_has (e := (rBlock.slice)) (reads_slice Try.underlying50 (by kernel_rfl) readsL_Block) (hf 1 _ rfl) (by rw [hxl]; decide)
    have h0 : ∃ F x, rMemory.has w F (cs.drop 0) x := (read_pair f0 (read_last f1 (by rw [hl]; rfl)))
    rw [List.drop_zero] at h0
    exact h0⟩







end Go.Proofs.Ythabgnhedmepjaa
