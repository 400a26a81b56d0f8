/- OpenTable and SealAgain: what they return (plain laws). -/
import Derived.Test.YtnlhiamjndifoaaDoorOwnS
import Derived.Test.YtnlhiamjndifoaaDoorSealL
import Derived.Test.YtnlhiamjndifoaaDoorPSa
namespace Go.Proofs.YtnlhiamjndifoaaDoor
open Go.RowKit

def openOne (key : Int) (s : SealedD) : Bool := (openI key s).2.2
def openRows (key : Int) (l : List SealedD) : List (List Int) := l.map (fun s => (openI key s).1)
def openReal (key : Int) (l : List SealedD) : List Bool := l.map (fun s => (openI key s).2.1)
def openTableF (key : Int) (ns : List ByteArray) (l : List SealedD) : PaddedD × Bool :=
  if namesOk ns && (decide (l.length ≤ 256) && (l.all (openOne key) && paddedOk (ns, openRows key l, openReal key l))) then ((ns, openRows key l, openReal key l), true) else (zeroP, false)
def sealAgainF (key : Int) (ns : List ByteArray) (l : List SealedD) (first : Int) : List SealedD × Bool :=
  if (openTableF key ns l).2 && inB first 0 (lastAt l.length) then (sealTableF key first (openTableF key ns l).1, true) else ([], false)
section
variable {key first : Int} {ns : List ByteArray} {l : List SealedD} {k : Nat}
theorem openTableF_n (h : namesOk ns = false) : openTableF key ns l = (zeroP, false) := by unfold openTableF; rw [h]; rfl
theorem openTableF_l (h : ¬l.length ≤ 256) : openTableF key ns l = (zeroP, false) := by unfold openTableF; rw [decide_eq_false h]; cases namesOk ns <;> rfl
theorem openTableF_a (h : l.all (openOne key) = false) : openTableF key ns l = (zeroP, false) := by unfold openTableF; rw [h]; simp
theorem openTableF_p (h : paddedOk (ns, openRows key l, openReal key l) = false) : openTableF key ns l = (zeroP, false) := by unfold openTableF; rw [h]; simp
theorem openTableF_t (h1 : namesOk ns = true) (h2 : l.length ≤ 256) (h3 : l.all (openOne key) = true) (h4 : paddedOk (ns, openRows key l, openReal key l) = true) : openTableF key ns l = ((ns, openRows key l, openReal key l), true) := by
  unfold openTableF; rw [h1, decide_eq_true h2, h3, h4]; rfl
theorem openRows_len : (openRows key l).length = l.length := by simp [openRows]
theorem openReal_len : (openReal key l).length = l.length := by simp [openReal]
theorem openRows_succ (h : k < l.length) : openRows key (l.take k) ++ [(openI key l[k]).1] = openRows key (l.take (k + 1)) := by
  unfold openRows; rw [List.take_succ_eq_append_getElem h, List.map_append]; rfl
theorem openReal_succ (h : k < l.length) : openReal key (l.take k) ++ [(openI key l[k]).2.1] = openReal key (l.take (k + 1)) := by
  unfold openReal; rw [List.take_succ_eq_append_getElem h, List.map_append]; rfl
theorem all_take_f {α : Type} {p : α → Bool} {l : List α} {k : Nat} (h : k < l.length) (hp : p l[k] = false) : l.all p = false := List.all_eq_false.2 ⟨_, List.getElem_mem h, by simp [hp]⟩
theorem all_take_t {α : Type} {p : α → Bool} {l : List α} {k : Nat} (h : k < l.length) (h0 : (l.take k).all p = true) (hp : p l[k] = true) : (l.take (k + 1)).all p = true := by
  rw [List.take_succ_eq_append_getElem h, List.all_append, h0]; simp [hp]
theorem padded_small {ns : List ByteArray} {rows : List (List Int)} {real : List Bool} (h : paddedOk (ns, rows, real) = true) (hn : ns.length ≤ 1048576) : PSmall (ns, rows, real) := by
  obtain ⟨h1, h2⟩ := paddedOk_parts h
  unfold paddedOk at h
  simp only [Bool.and_eq_true] at h
  have h3 := h.2.2.2
  rw [padRows_fit] at h3
  simp only [Bool.and_eq_true, List.all_eq_true] at h3
  refine ⟨hn, ⟨by dsimp only; omega, fun r hr => ?_⟩, by dsimp only; omega⟩
  have h4 := h3.1 r hr
  unfold fitRow at h4
  simp only [Bool.and_eq_true, decide_eq_true_eq] at h4
  have := h4.1
  omega
theorem openTableF_ok (h : (openTableF key ns l).2 = true) : paddedOk (openTableF key ns l).1 = true ∧ (openTableF key ns l).1 = (ns, openRows key l, openReal key l) ∧ l.length ≤ 256 := by
  unfold openTableF at h ⊢
  split at h
  · rename_i hc
    rw [if_pos hc]
    simp only [Bool.and_eq_true, decide_eq_true_eq] at hc
    exact ⟨hc.2.2.2, rfl, hc.2.1⟩
  · cases h
theorem sealAgainF_o (h : (openTableF key ns l).2 = false) : sealAgainF key ns l first = ([], false) := by unfold sealAgainF; rw [h]; rfl
theorem sealAgainF_i (h : inB first 0 (lastAt l.length) = false) : sealAgainF key ns l first = ([], false) := by unfold sealAgainF; rw [h]; simp
theorem sealAgainF_t (h1 : (openTableF key ns l).2 = true) (h : inB first 0 (lastAt l.length) = true) : sealAgainF key ns l first = (sealTableF key first (openTableF key ns l).1, true) := by unfold sealAgainF; rw [h1, h]; rfl
end
end Go.Proofs.YtnlhiamjndifoaaDoor
