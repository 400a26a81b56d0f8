/- What the laws' rows ask of the whole translation, once a seat. -/
import Derived.Test.YtldknaajnnohiaaDoorDoor
namespace Go.Proofs.YtldknaajnnohiaaDoor
open Go.RowKit

theorem toList_lit {s : String} {l : List Char} (h : s = String.ofList l) : s.toList = l := by rw [h]; exact String.toList_ofList
def genW : List (List Char) := ["harness".toList, "931d74df5afdbd780c61c5f20341f009e4ca6ab457cfd91394e8ecdeaa34b2df".toList, "cut".toList, "at".toList, "loop.example/obliviousqueries/laws.FnOpenTable".toList, "loop.example/obliviousqueries/laws.FnSealAgain".toList, "loop.example/obliviousqueries/laws.FnTakePadded".toList, "loop.example/obliviousqueries/laws.FnCutPadded".toList, "loop.example/obliviousqueries/laws.FnSortTwice".toList, "loop.example/obliviousqueries/laws.FnSortCut".toList, "loop.example/obliviousqueries/laws.FnExactSortPadded".toList, "loop.example/obliviousqueries/laws.FnExactGroupPadded".toList, "loop.example/obliviousqueries/laws.FnGroupPadded".toList, "loop.example/obliviousqueries/laws.FnExactJoinPadded".toList, "loop.example/obliviousqueries/laws.FnPairTrace".toList, "loop.example/obliviousqueries/laws.FnMemoryValid".toList]
theorem gen_list : ∃ l, Tryd.prog.initOrder = String.ofList l ∧ wordsSigns l = genW :=
  ⟨_, (by kernel_rfl : Tryd.prog.initOrder = "harness 931d74df5afdbd780c61c5f20341f009e4ca6ab457cfd91394e8ecdeaa34b2df cut at loop.example/obliviousqueries/laws.FnOpenTable loop.example/obliviousqueries/laws.FnSealAgain loop.example/obliviousqueries/laws.FnTakePadded loop.example/obliviousqueries/laws.FnCutPadded loop.example/obliviousqueries/laws.FnSortTwice loop.example/obliviousqueries/laws.FnSortCut loop.example/obliviousqueries/laws.FnExactSortPadded loop.example/obliviousqueries/laws.FnExactGroupPadded loop.example/obliviousqueries/laws.FnGroupPadded loop.example/obliviousqueries/laws.FnExactJoinPadded loop.example/obliviousqueries/laws.FnPairTrace loop.example/obliviousqueries/laws.FnMemoryValid"), by kernel_rfl⟩
theorem gen_words : wordsSigns Tryd.prog.initOrder.toList = genW := by
  obtain ⟨l, h, hw⟩ := gen_list
  rw [toList_lit h]; exact hw
theorem make_of (P : Program) (h : wordsSigns P.initOrder.toList = genW) : P.make = some .cut := by unfold Program.make; (try unfold Program.headLifts); rw [h]; kernel_rfl
theorem lifts_of (P : Program) (h : wordsSigns P.initOrder.toList = genW) : P.liftsFinal = false := by unfold Program.liftsFinal; (try unfold Program.headLifts); rw [h]; kernel_rfl
theorem strip_gen : stripLifts liftWords (behindMainWord genW) = ([], behindMainWord genW) := by kernel_rfl
theorem may_of (P : Program) (h : wordsSigns P.initOrder.toList = genW) (h1 : P.laysLater = false) (h2 : P.bearsReflect = false) (h3 : P.doorFits [] = true) : P.mayEnter = true := by
  have e : behindMainWord genW = "cut".toList :: (behindMainWord genW).tail := by kernel_rfl
  have k1 : (behindMainWord genW).head? = some "cut".toList := by rw [e]; rfl
  unfold Program.mayEnter
  rw [h, e]
  dsimp only
  rw [← e, strip_gen, h1, h2]
  dsimp only
  rw [h3]
  rw [k1]
  simp
theorem main_of (P : Program) (h : wordsSigns P.initOrder.toList = genW) : P.mainIs = some (true, "931d74df5afdbd780c61c5f20341f009e4ca6ab457cfd91394e8ecdeaa34b2df".toList) := by unfold Program.mainIs; rw [h]; kernel_rfl
theorem gen_make : Tryd.prog.make = some .cut := make_of _ gen_words
theorem gen_lifts : Tryd.prog.liftsFinal = false := lifts_of _ gen_words
theorem gen_may : Tryd.prog.mayEnter = true := may_of _ gen_words (by kernel_rfl) (by kernel_rfl) (by kernel_rfl)
theorem gen_main : Tryd.prog.mainIs = some (true, "931d74df5afdbd780c61c5f20341f009e4ca6ab457cfd91394e8ecdeaa34b2df".toList) := main_of _ gen_words
end Go.Proofs.YtldknaajnnohiaaDoor
